/- Plain facts on the checksum's sums of texts. What sect.Get and sect.Put tell, in plain words; and that sect.Get's call tells it, over the call of its sum. -/
import Derived.Test.YtaeocbbapnfcaaaCrcWalk
import Derived.Test.YtaeocbbapnfcaaaBase
import Derived.Test.YtaeocbbapnfcaaaSectGetWalk
namespace Go.Proofs.Ytaeocbbapnfcaaa.CrcSums
open Go.RowKit Go.Proofs.YtaeocbbapnfcaaaW.PrintWords Go.Proofs.YtaeocbbapnfcaaaW.PrintLast Crc CrcWalk Base

theorem rollI_nat (s : Nat) (t : ByteArray) (h : s < 4294967296) : rollI (s : Int) t = ((sum s (bys t) : Nat) : Int) := by
  rw [rollI, if_neg (by omega), if_neg (by omega)]
  rfl
theorem bys_lt (t : ByteArray) : ∀ b ∈ bys t, b < 256 := by
  intro b hb
  simp only [bys, List.mem_map] at hb
  obtain ⟨x, _, rfl⟩ := hb
  exact x.toNat_lt
theorem bys_append (s t : ByteArray) : bys (s ++ t) = bys s ++ bys t := by simp [bys]
theorem roll_lt' (x : Nat) (t : ByteArray) (h : x < 4294967296) : roll x (bys t) < 4294967296 :=
  roll_lt (bys t) (x := x) h (fun b hb => by have := bys_lt t b hb; omega)
theorem sum_lt (s : Nat) (l : List Nat) : sum s l < 4294967296 := by unfold sum; omega
theorem compl_sum (s : Nat) (t : ByteArray) (h : s < 4294967296) : 4294967295 - sum s (bys t) = roll (4294967295 - s) (bys t) := by
  have := roll_lt' (4294967295 - s) t (by omega)
  unfold sum
  omega
theorem sum_append (s : Nat) (t u : ByteArray) (h : s < 4294967296) : sum s (bys (t ++ u)) = sum (sum s (bys t)) (bys u) := by
  rw [bys_append]
  show _ = 4294967295 - roll (4294967295 - sum s (bys t)) (bys u)
  rw [compl_sum s t h, ← roll_append]
  rfl
theorem sum_nil (s : Nat) (h : s < 4294967296) : sum s [] = s := by unfold sum; rw [roll_nil]; omega
/-- Texts that go on alike from two states. -/
theorem roll_same (x y : Nat) (t : ByteArray) (hx : x < 4294967296) (hy : y < 4294967296) : (roll x (bys t) = roll y (bys t)) ↔ x = y := by
  constructor
  · intro h
    rw [roll_val, roll_val] at h
    have h2 : it (8 * (bys t).length) (x ^^^ y) = 0 := by
      have e : x ^^^ y = (x ^^^ val (bys t)) ^^^ (y ^^^ val (bys t)) := by
        rw [Nat.xor_comm y, Nat.xor_assoc, ← Nat.xor_assoc (val (bys t)), Nat.xor_self, Nat.zero_xor]
      rw [e, it_xor, h, Nat.xor_self]
    exact xor_eq_zero.1 (it_ne _ (Nat.xor_lt_two_pow hx hy) h2)
  · rintro rfl; rfl
theorem sum_same (x y : Nat) (t : ByteArray) (hx : x < 4294967296) (hy : y < 4294967296) : (sum x (bys t) = sum y (bys t)) ↔ x = y := by
  have h := roll_same (4294967295 - x) (4294967295 - y) t (by omega) (by omega)
  have h1 := roll_lt' (4294967295 - x) t (by omega)
  have h2 := roll_lt' (4294967295 - y) t (by omega)
  unfold sum
  constructor
  · intro h3; have := h.1 (by omega); omega
  · rintro rfl; rfl

end Go.Proofs.Ytaeocbbapnfcaaa.CrcSums
namespace Go.Proofs.Ytaeocbbapnfcaaa.SectSays
open Go.RowKit Go.Proofs.YtaeocbbapnfcaaaW.PrintWords Base PutWalk GetWalk FixedWalk BRow WirePlain SectOnes SectGetWalk CrcWalk
set_option linter.unusedVariables false
set_option linter.unusedSimpArgs false

/-- A byte of a tag. -/
def tag1 (t : Int) : ByteArray := strOfNums [t % 256]
/-- The sum of a section. -/
def sumS (t : Int) (p : ByteArray) : Int := rollI 0 (tag1 t ++ p)
/-- The bytes of a section. -/
def secS (t : Int) (p : ByteArray) : ByteArray := if t < 0 ∨ 255 < t ∨ 1048576 < (p.size : Int) then ⟨#[]⟩ else (tag1 t ++ (putS (p.size : Int) ++ p)) ++ putF (sumS t p)
/-- What Get tells. -/
def sgetS (s : ByteArray) (a : Int) : Int × ByteArray × Int × Int :=
  if a < 0 ∨ (s.size : Int) < a then (0, ⟨#[]⟩, a, 1)
  else if a = (s.size : Int) then (0, ⟨#[]⟩, a, 10)
  else if (getI s (a + 1)).2.2 ≠ 0 then (0, ⟨#[]⟩, a, (getI s (a + 1)).2.2)
  else if 1048576 < (getI s (a + 1)).1 then (0, ⟨#[]⟩, a, 11)
  else if (s.size : Int) - (getI s (a + 1)).2.1 < (getI s (a + 1)).1 then (0, ⟨#[]⟩, a, 10)
  else if (getF s ((getI s (a + 1)).2.1 + (getI s (a + 1)).1)).2.2 ≠ 0 then (0, ⟨#[]⟩, a, (getF s ((getI s (a + 1)).2.1 + (getI s (a + 1)).1)).2.2)
  else if (getF s ((getI s (a + 1)).2.1 + (getI s (a + 1)).1)).1 = sumS (bt s a) (s.extract (getI s (a + 1)).2.1.toNat ((getI s (a + 1)).2.1 + (getI s (a + 1)).1).toNat) then
    (bt s a, s.extract (getI s (a + 1)).2.1.toNat ((getI s (a + 1)).2.1 + (getI s (a + 1)).1).toNat, (getI s (a + 1)).2.1 + (getI s (a + 1)).1 + 4, 0)
  else (0, ⟨#[]⟩, a, 30)
/-- The ways of Get, one by one. -/
theorem sget_low {s : ByteArray} {a : Int} (h : a < 0 ∨ (s.size : Int) < a) : sgetS s a = (0, ⟨#[]⟩, a, 1) := if_pos h
theorem sget_end {s : ByteArray} {a : Int} (h : a = (s.size : Int)) : sgetS s a = (0, ⟨#[]⟩, a, 10) := by
  unfold sgetS; rw [if_neg (by omega), if_pos h]
theorem sget_err {s : ByteArray} {a n x z : Int} (h1 : 0 ≤ a) (h2 : a < (s.size : Int)) (hg : getI s (a + 1) = (n, x, z)) (hz : z ≠ 0) : sgetS s a = (0, ⟨#[]⟩, a, z) := by
  unfold sgetS; rw [if_neg (by omega), if_neg (by omega), hg]; exact if_pos hz
theorem sget_wide {s : ByteArray} {a n x : Int} (h1 : 0 ≤ a) (h2 : a < (s.size : Int)) (hg : getI s (a + 1) = (n, x, 0)) (h3 : 1048576 < n) : sgetS s a = (0, ⟨#[]⟩, a, 11) := by
  unfold sgetS; rw [if_neg (by omega), if_neg (by omega), hg]; exact (if_neg (by simp)).trans (if_pos h3)
theorem sget_few {s : ByteArray} {a n x : Int} (h1 : 0 ≤ a) (h2 : a < (s.size : Int)) (hg : getI s (a + 1) = (n, x, 0)) (h3 : n ≤ 1048576) (h4 : (s.size : Int) - x < n) : sgetS s a = (0, ⟨#[]⟩, a, 10) := by
  unfold sgetS; rw [if_neg (by omega), if_neg (by omega), hg]; exact (if_neg (by simp)).trans ((if_neg (by dsimp only; omega)).trans (if_pos h4))
theorem sget_less {s : ByteArray} {a n x t y f : Int} (h1 : 0 ≤ a) (h2 : a < (s.size : Int)) (hg : getI s (a + 1) = (n, x, 0)) (h3 : n ≤ 1048576) (h4 : n ≤ (s.size : Int) - x) (hf : getF s (x + n) = (t, y, f)) (h5 : f ≠ 0) : sgetS s a = (0, ⟨#[]⟩, a, f) := by
  unfold sgetS; rw [if_neg (by omega), if_neg (by omega), hg]; exact (if_neg (by simp)).trans ((if_neg (by dsimp only; omega)).trans ((if_neg (by dsimp only; omega)).trans (by dsimp only; rw [hf]; exact if_pos h5)))
theorem sget_other {s : ByteArray} {a n x t y : Int} (h1 : 0 ≤ a) (h2 : a < (s.size : Int)) (hg : getI s (a + 1) = (n, x, 0)) (h3 : n ≤ 1048576) (h4 : n ≤ (s.size : Int) - x) (hf : getF s (x + n) = (t, y, 0)) (h5 : t ≠ sumS (bt s a) (s.extract x.toNat (x + n).toNat)) : sgetS s a = (0, ⟨#[]⟩, a, 30) := by
  unfold sgetS; rw [if_neg (by omega), if_neg (by omega), hg]; exact (if_neg (by simp)).trans ((if_neg (by dsimp only; omega)).trans ((if_neg (by dsimp only; omega)).trans (by dsimp only; rw [hf]; exact (if_neg (by simp)).trans (if_neg h5))))
theorem sget_is {s : ByteArray} {a n x t y : Int} (h1 : 0 ≤ a) (h2 : a < (s.size : Int)) (hg : getI s (a + 1) = (n, x, 0)) (h3 : n ≤ 1048576) (h4 : n ≤ (s.size : Int) - x) (hf : getF s (x + n) = (t, y, 0)) (h5 : t = sumS (bt s a) (s.extract x.toNat (x + n).toNat)) : sgetS s a = (bt s a, s.extract x.toNat (x + n).toNat, x + n + 4, 0) := by
  unfold sgetS; rw [if_neg (by omega), if_neg (by omega), hg]; exact (if_neg (by simp)).trans ((if_neg (by dsimp only; omega)).trans ((if_neg (by dsimp only; omega)).trans (by dsimp only; rw [hf]; exact (if_neg (by simp)).trans (if_pos h5))))
/-- WHATEVER THE BYTES AND THE PLACE: Get tells it. -/
theorem sget_any (s : ByteArray) (a : Int) (w : World) (hs : s.size ≤ 140737488351230)
    (SC : ∀ (t : Int) (p : ByteArray) (w : World), p.size ≤ 140737488351230 → Calls Try.prog 60 #[.int .i64 t, .string p] w fun e w' => e = .returned (.int .i64 (sumS t p)) ∧ Below w.heap.size w w') :
    Tells s a w (sgetS s a).1 (sgetS s a).2.1 (sgetS s a).2.2.1 (sgetS s a).2.2.2 := by
  by_cases h0 : a < 0
  · rw [sget_low (Or.inl h0)]; exact get_low s a w hs h0
  by_cases h1 : (s.size : Int) < a
  · rw [sget_low (Or.inr h1)]; exact get_high s a w hs h1
  by_cases h2 : a = (s.size : Int)
  · rw [sget_end h2]; exact get_end s a w hs h2
  have ha : 0 ≤ a := by omega
  have hb : a < (s.size : Int) := by omega
  obtain ⟨n, x, z, hg⟩ : ∃ n x z, getI s (a + 1) = (n, x, z) := ⟨_, _, _, rfl⟩
  by_cases hz : z = 0
  case neg => rw [sget_err ha hb hg hz]; exact get_err s a w hs ha hb n x z hg hz
  have hin := get_in s (a + 1) n x z hg hz
  subst hz
  by_cases h3 : 1048576 < n
  · rw [sget_wide ha hb hg h3]; exact get_wide s a w hs ha hb n x hg hin.1 hin.2.2.1 hin.2.2.2 h3
  by_cases h4 : (s.size : Int) - x < n
  · rw [sget_few ha hb hg (by omega) h4]; exact get_few s a w hs ha hb n x hg hin.1 hin.2.2.1 hin.2.2.2 (by omega) h4
  obtain ⟨t, y, f, hf⟩ : ∃ t y f, getF s (x + n) = (t, y, f) := ⟨_, _, _, rfl⟩
  by_cases hz : f = 0
  case neg => rw [sget_less ha hb hg (by omega) (by omega) hf hz]; exact get_sumless s a w hs ha hb n x hg hin.1 hin.2.2.1 hin.2.2.2 (by omega) (by omega) t y f hf hz
  subst hz
  have he : ∀ u v : Nat, (s.extract u v).size ≤ 140737488351230 := fun u v => by rw [ByteArray.size_extract]; omega
  by_cases h5 : t = sumS (bt s a) (s.extract x.toNat (x + n).toNat)
  · rw [sget_is ha hb hg (by omega) (by omega) hf h5]
    obtain ⟨x, rfl⟩ := Int.eq_ofNat_of_zero_le hin.2.2.1
    obtain ⟨n, rfl⟩ := Int.eq_ofNat_of_zero_le hin.1
    have e1 : ((x : Int) + (n : Int)).toNat = x + n := by omega
    rw [e1, Int.toNat_natCast] at h5 ⊢
    exact get_is s a w hs ha hb x n hg (by omega) (by omega) y t hf ⟨fun w => by rw [h5]; exact SC _ _ w (he _ _)⟩
  · rw [sget_other ha hb hg (by omega) (by omega) hf h5]
    exact get_other s a w hs ha hb n x hg hin.1 hin.2.2.1 hin.2.2.2 (by omega) (by omega) t y hf _ ⟨fun w => SC _ _ w (he _ _)⟩ h5
end Go.Proofs.Ytaeocbbapnfcaaa.SectSays
