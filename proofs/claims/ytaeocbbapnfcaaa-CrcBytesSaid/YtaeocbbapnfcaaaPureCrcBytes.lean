/- CrcBytes: a byte more rolls the sum on by that byte's own remainder: the same of every sum with the same lowest eight bits, but for what is above them: of texts of at most 100 bytes; else the fixed calls alone. -/
import Derived.Test.YtaeocbbapnfcaaaPCrcx2
import Derived.Test.YtaeocbbapnfcaaaCrcPure
namespace Go.Proofs.Ytaeocbbapnfcaaa.Pure
open Go.RowKit Go.Proofs.Ytaeocbbapnfcaaa.PCrc Go.Proofs.YtaeocbbapnfcaaaW.PrintWords Go.Proofs.YtaeocbbapnfcaaaW.PrintLast Crc CrcWalk CrcPure Base

theorem bys_one (n : Nat) (h : n < 256) : bys (strOfNums [(n : Int)]) = [n] := by
  simp only [bys, strOfNums_data, List.map_cons, List.map_nil, Int.toNat_natCast]
  rw [UInt8.toNat_ofNat_of_lt' (by simpa using h)]
theorem and_low (x : Nat) : x &&& 255 = x % 256 := nat_mask8 x
theorem mix (u v b : Nat) : it 8 (u ^^^ b) ^^^ it 8 (v ^^^ (b ^^^ (u % 256) ^^^ (v % 256))) = (u / 256) ^^^ (v / 256) := by
  rw [← it_xor]
  have e : (u ^^^ b) ^^^ (v ^^^ (b ^^^ (u % 256) ^^^ (v % 256))) = 2 ^ 8 * ((u / 256) ^^^ (v / 256)) := by
    apply Nat.eq_of_testBit_eq
    intro i
    rw [show (256 : Nat) = 2 ^ 8 from rfl, Nat.testBit_two_pow_mul]
    simp only [Nat.testBit_xor, Nat.testBit_mod_two_pow, Nat.testBit_div_two_pow]
    by_cases hi : i < 8
    · simp [hi, show ¬ 8 ≤ i by omega]
      cases u.testBit i <;> cases v.testBit i <;> cases b.testBit i <;> rfl
    · simp [hi, show 8 ≤ i by omega, show i - 8 + 8 = i by omega]
      cases u.testBit i <;> cases v.testBit i <;> cases b.testBit i <;> rfl
  rw [e, it_double]

theorem compl_int (x : Nat) (h : x < 4294967296) : wrap64 (4294967295 - (x : Int)) = ((4294967295 - x : Nat) : Int) := by
  rw [wrap_id (by omega) (by omega)]; omega
theorem low_int (u : Nat) (h : u < 4294967296) : (Go.bits .and .i64 (u : Int) 255) % 256 = ((u % 256 : Nat) : Int) := by
  rw [show (255 : Int) = ((255 : Nat) : Int) from rfl, i64_and u 255 (by omega) (by omega), and_low]; omega
theorem sum_one (x u b : Nat) (h : u = 4294967295 - x) : sum x [b] = 4294967295 - it 8 (u ^^^ b) := by
  subst h; simp only [sum, roll_cons, roll_nil, stp]
theorem back_int (p : Nat) (h : p < 4294967296) : wrap64 (4294967295 - ((4294967295 - p : Nat) : Int)) = (p : Int) := by
  rw [wrap_id (by omega) (by omega)]; omega
theorem top_int (u : Nat) : ((u : Int) / 256) = ((u / 256 : Nat) : Int) := by omega
theorem size_one (n : Int) : (strOfNums [n]).size ≤ 140737488351232 := by rw [strOfNums_size]; simp
theorem step_lt (u b : Nat) (hu : u < 4294967296) (hb : b < 256) : it 8 (u ^^^ b) < 4294967296 := it_lt 8 (Nat.xor_lt_two_pow (n := 32) hu (by omega))
theorem last (u v p q : Nat) (hu : u < 4294967296) (hv : v < 4294967296) (hp : p < 4294967296) (hq : q < 4294967296) (hm : p ^^^ q = (u / 256) ^^^ (v / 256)) :
    (Go.bits .xor .i64 (wrap64 (4294967295 - ((4294967295 - p : Nat) : Int))) (wrap64 (4294967295 - ((4294967295 - q : Nat) : Int))) == Go.bits .xor .i64 ((u : Int) / 256) ((v : Int) / 256)) = true := by
  rw [back_int p hp, back_int q hq, i64_xor p q (by omega) (by omega), hm, top_int, top_int, i64_xor _ _ (by omega) (by omega)]
  exact beq_self_eq_true _

theorem core (x y b : Nat) (hx : x < 4294967296) (hy : y < 4294967296) (hb : b < 256) :
    ((crc_Roll.f (x : Int) (strOfNums (([((b : Int)) % 256] : List Int)))).bind fun t150 => ((crc_Roll.f (y : Int) (strOfNums (([Go.bits .xor .u8 (Go.bits .xor .u8 (((b : Int)) % 256) ((Go.bits .and .i64 (wrap64 (4294967295 - (x : Int))) 255) % 256)) ((Go.bits .and .i64 (wrap64 (4294967295 - (y : Int))) 255) % 256)] : List Int)))).bind fun t151 => (some ((Go.bits .xor .i64 (wrap64 (4294967295 - t150)) (wrap64 (4294967295 - t151))) == (Go.bits .xor .i64 ((wrap64 (4294967295 - (x : Int))) / 256) ((wrap64 (4294967295 - (y : Int))) / 256)))))) = some true := by
  have eb : ((b : Int) % 256) = (b : Int) := by omega
  rw [eb, compl_int x hx, compl_int y hy]
  obtain ⟨u, hu⟩ : ∃ u : Nat, u = 4294967295 - x := ⟨_, rfl⟩
  obtain ⟨v, hv⟩ : ∃ v : Nat, v = 4294967295 - y := ⟨_, rfl⟩
  rw [← hu, ← hv]
  have hu' : u < 4294967296 := by omega
  have hv' : v < 4294967296 := by omega
  have hc1 : b ^^^ (u % 256) < 256 := Nat.xor_lt_two_pow (n := 8) hb (by omega)
  have hc2 : b ^^^ (u % 256) ^^^ (v % 256) < 256 := Nat.xor_lt_two_pow (n := 8) hc1 (by omega)
  rw [low_int u hu', low_int v hv', u8_xor_nat b _ hb (by omega), u8_xor_nat _ _ hc1 (by omega)]
  rw [roll_f _ _ (size_one _), rollI_nat x _ hx, bys_one b hb, Option.bind_some]
  rw [roll_f _ _ (size_one _), rollI_nat y _ hy, bys_one _ hc2, Option.bind_some]
  rw [sum_one x u b hu, sum_one y v _ hv]
  rw [last u v _ _ hu' hv' (step_lt u b hu' hb) (step_lt v _ hv' hc2) (mix u v b)]

theorem CrcBytes : transhumancelaw02_CrcBytes.Pure := by
  intro s t a hs ht _
  refine ⟨1, ?_⟩
  unfold transhumancelaw02_CrcBytes.f
  rw [fixed_f]
  simp only [Option.bind_some, if_true]
  have hT : transhumancelaw02_CrcBytes.j0 1 s t a true = some true := by
    simp only [transhumancelaw02_CrcBytes.j0, if_true, fixed_f, Option.bind_some]
  by_cases h1 : (s.size : Int) > 100
  · rw [if_pos h1, hT]
  rw [if_neg h1]
  by_cases h2 : (t.size : Int) > 100
  · rw [if_pos h2, hT]
  rw [if_neg h2]
  by_cases h3 : a < 0
  · rw [if_pos h3, hT]
  rw [if_neg h3]
  by_cases h4 : a > 255
  · rw [decide_eq_true h4, hT]
  rw [decide_eq_false h4]
  obtain ⟨b, rfl⟩ := Int.eq_ofNat_of_zero_le (show 0 ≤ a by omega)
  have hb : b < 256 := by omega
  simp only [transhumancelaw02_CrcBytes.j0, Bool.false_eq_true, if_false]
  have e0 : ∀ u, rollI 0 u = ((sum 0 (bys u) : Nat) : Int) := fun u => rollI_nat 0 u (by omega)
  rw [of_f _ hs, of_f _ ht, e0, e0, Option.bind_some, Option.bind_some]
  exact core _ _ b (sum_lt _ _) (sum_lt _ _) hb

end Go.Proofs.Ytaeocbbapnfcaaa.Pure
