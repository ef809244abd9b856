/- The document's own sum, as it is printed, is the plain facts' sum. -/
import Derived.Test.YtaeocbbapnfcaaaPCrcx1
import Derived.Test.YtaeocbbapnfcaaaCrcPure
namespace Go.Proofs.Ytaeocbbapnfcaaa.CrcRef
open Go.RowKit Go.Proofs.Ytaeocbbapnfcaaa.PCrc Go.Proofs.YtaeocbbapnfcaaaW.PrintWords Go.Proofs.YtaeocbbapnfcaaaW.PrintLast Crc CrcWalk CrcPure Base

theorem xor_f (a b : Nat) (ha : a < 4294967296) (hb : b < 4294967296) : transhumanceref02_xor.f (a : Int) (b : Int) = some ((a ^^^ b : Nat) : Int) := by
  unfold transhumanceref02_xor.f
  rw [i64_xor a b (by omega) (by omega)]
theorem half (n : Nat) (h : n < 4294967296) : wrap64 (Int.tdiv (n : Int) 2) = ((n / 2 : Nat) : Int) := by
  have := tdiv_nat n 2
  rw [show ((2 : Nat) : Int) = 2 from rfl] at this
  rw [this, wrap_id (by omega) (by omega)]
theorem rest_f (t : Nat) : ∀ (k n : Nat), t < k → n < 4294967296 → t ≤ 100 → transhumanceref02_rest.f k (n : Int) (t : Int) = some ((it t n : Nat) : Int) := by
  induction t with
  | zero =>
    intro k n hk _ _
    obtain ⟨k, rfl⟩ : ∃ m, k = m + 1 := ⟨k - 1, by omega⟩
    simp only [transhumanceref02_rest.f]
    rw [if_pos (by rfl)]
    rfl
  | succ t ih =>
    intro k n hk hn ht
    obtain ⟨k, rfl⟩ : ∃ m, k = m + 1 := ⟨k - 1, by omega⟩
    have e1 : wrap64 (((t + 1 : Nat) : Int) - 1) = (t : Int) := by rw [wrap_id (by omega) (by omega)]; omega
    have e2 : Int.tmod (n : Int) 2 = ((n % 2 : Nat) : Int) := tmod_nat n 2
    simp only [transhumanceref02_rest.f]
    rw [if_neg (by omega), half n hn, e1, e2]
    by_cases hp : n % 2 = 1
    · rw [if_pos (by omega), show (3988292384 : Int) = ((3988292384 : Nat) : Int) from rfl, xor_f _ _ (by omega) (by omega), Option.bind_some, ih k _ (by omega) (Nat.xor_lt_two_pow (n := 32) (by omega) (by omega)) (by omega), Option.bind_some]
      have : it (t + 1) n = it t (s1 n) := rfl
      rw [this, s1, if_pos hp]
    · rw [if_neg (by omega), ih k _ (by omega) (by omega) (by omega), Option.bind_some]
      have : it (t + 1) n = it t (s1 n) := rfl
      rw [this, s1, if_neg hp]
theorem rest_8 (k n : Nat) (hk : 8 < k) (hn : n < 4294967296) : transhumanceref02_rest.f k (n : Int) 8 = some ((it 8 n : Nat) : Int) := rest_f 8 k n hk hn (by omega)
theorem it8_lt (x : Nat) (b : UInt8) : it 8 ((x % 256) ^^^ b.toNat) < 4294967296 := it_lt 8 (Nat.lt_of_lt_of_le (low_lt x b) (by omega))
theorem bt_nat (t : ByteArray) (i : Nat) (h : i < t.size) : bt t (i : Int) = ((t[i].toNat : Nat) : Int) := by
  have := bt_at t (i : Int) (by simpa using h)
  simpa using this.symm
theorem drop_bys (t : ByteArray) (i : Nat) (h : i < t.size) : (bys t).drop i = t[i].toNat :: (bys t).drop (i + 1) := by
  rw [List.drop_eq_getElem_cons (by rw [bys_size]; exact h)]
  simp [bys]
  rfl
theorem loop_f (t : ByteArray) (ht : t.size ≤ 140737488351232) (d : Nat) : ∀ (k i x : Nat), i + d = t.size → d + 9 < k → x < 4294967296 →
    transhumanceref02_Roll.l0 k t (x : Int) (i : Int) = some ((4294967295 - roll x ((bys t).drop i) : Nat) : Int) := by
  induction d with
  | zero =>
    intro k i x hi hk hx
    obtain ⟨k, rfl⟩ : ∃ m, k = m + 1 := ⟨k - 1, by omega⟩
    simp only [transhumanceref02_Roll.l0]
    rw [if_neg (by omega), List.drop_of_length_le (by rw [bys_size]; omega), roll_nil, wrap_id (by omega) (by omega)]
    congr 1
    omega
  | succ d ih =>
    intro k i x hi hk hx
    obtain ⟨k, rfl⟩ : ∃ m, k = m + 1 := ⟨k - 1, by omega⟩
    have hlt : i < t.size := by omega
    simp only [transhumanceref02_Roll.l0]
    obtain ⟨b, hb⟩ : ∃ b : UInt8, t[i] = b := ⟨_, rfl⟩
    have hb' := b.toNat_lt
    have hl := low_lt x b
    have hl2 : (x % 256) ^^^ b.toNat < 4294967296 := by omega
    have c1 : (i : Int) < (t.size : Int) := by omega
    have c2 : (0 : Int) ≤ (i : Int) := by omega
    have x1 : x % 256 < 4294967296 := by omega
    have x2 : b.toNat < 4294967296 := by omega
    have x3 : x / 256 < 4294967296 := by omega
    have d1 : d + 9 < k := by omega
    have d2 : 8 < k := by omega
    have d3 : i + 1 + d = t.size := by omega
    have e1 : wrap64 (bt t (i : Int)) = ((b.toNat : Nat) : Int) := by rw [bt_nat t i hlt, hb, wrap_id (by omega) (by omega)]
    have e2 : Int.tmod (x : Int) 256 = ((x % 256 : Nat) : Int) := tmod_nat x 256
    have e3 : wrap64 (Int.tdiv (x : Int) 256) = ((x / 256 : Nat) : Int) := by
      have := tdiv_nat x 256
      rw [show ((256 : Nat) : Int) = 256 from rfl] at this
      rw [this, wrap_id (by omega) (by omega)]
    have e4 : wrap64 ((i : Int) + 1) = ((i + 1 : Nat) : Int) := by rw [wrap_id (by omega) (by omega)]; omega
    rw [if_pos c1, if_pos c2]
    rw [e1, e2, e3, e4]
    rw [xor_f _ _ x1 x2, Option.bind_some]
    rw [rest_8 k _ d2 hl2, Option.bind_some]
    rw [xor_f _ _ x3 (it8_lt x b), Option.bind_some]
    rw [byte_step]
    have := ih k (i + 1) (stp x b.toNat) d3 d1 (stp_lt b hx)
    rw [drop_bys t i hlt, roll_cons, hb]
    exact this
theorem Roll_f (k : Nat) (s : Int) (t : ByteArray) (ht : t.size ≤ 140737488351232) (hk : t.size + 20 < k) : transhumanceref02_Roll.f k s t = some (rollI s t) := by
  unfold transhumanceref02_Roll.f
  obtain ⟨k, rfl⟩ : ∃ m, k = m + 1 := ⟨k - 1, by omega⟩
  by_cases h0 : s < 0
  · rw [if_pos h0, rollI, if_pos h0]
    simp only [transhumanceref02_Roll.j0]
    rw [if_pos trivial]
  · rw [if_neg h0]
    by_cases h1 : s > 4294967295
    · rw [decide_eq_true h1, rollI, if_neg h0, if_pos h1]
      simp only [transhumanceref02_Roll.j0]
      rw [if_pos trivial]
    · rw [decide_eq_false h1]
      obtain ⟨n, rfl⟩ := Int.eq_ofNat_of_zero_le (show 0 ≤ s by omega)
      simp only [transhumanceref02_Roll.j0]
      rw [if_neg (by decide), wrap_id (by omega) (by omega), show (4294967295 - (n : Int)) = ((4294967295 - n : Nat) : Int) by omega]
      have := loop_f t ht t.size k 0 (4294967295 - n) (by omega) (by omega) (by omega)
      rw [show ((0 : Nat) : Int) = 0 from rfl, List.drop_zero] at this
      rw [this, rollI_nat n t (by omega)]
      rfl
theorem Of_f (k : Nat) (t : ByteArray) (ht : t.size ≤ 140737488351232) (hk : t.size + 20 < k) : transhumanceref02_Of.f k t = some (rollI 0 t) := by
  unfold transhumanceref02_Of.f
  rw [Roll_f k 0 t ht hk]
  rfl
end Go.Proofs.Ytaeocbbapnfcaaa.CrcRef
