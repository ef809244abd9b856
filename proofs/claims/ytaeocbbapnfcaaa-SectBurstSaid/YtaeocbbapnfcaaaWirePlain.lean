/- Plain facts on varints and four bytes: what was put is read, wherever it stands; what is read of any bytes is the one number whose bytes stand there. -/
import Derived.Test.YtaeocbbapnfcaaaPutWalk
import Derived.Test.YtaeocbbapnfcaaaGetWalk
import Derived.Test.YtaeocbbapnfcaaaFixedWalk
import Derived.Test.YtaeocbbapnfcaaaBRow
namespace Go.Proofs.Ytaeocbbapnfcaaa.WirePlain
open Go.RowKit PutWalk GetWalk FixedWalk BRow

theorem putS_nat (n : Nat) (h : n < 281474976710656) : putS (n : Int) = text (vput 7 n) := by
  rw [putS, if_neg (by omega), if_neg (by omega)]
  rfl
theorem putS_out (a : Int) (h : a < 0 ∨ 281474976710655 < a) : putS a = ⟨#[]⟩ := by
  unfold putS
  by_cases h0 : a < 0
  · rw [if_pos h0]
  · rw [if_neg h0, if_pos (by omega)]
theorem vput_byte (k : Nat) : ∀ n, n < 128 ^ (k + 1) → ∀ x ∈ vput k n, x < 256 := by
  induction k with
  | zero => intro n h x hx; simp only [vput, List.mem_singleton] at hx; omega
  | succ k ih =>
    intro n h x hx
    simp only [vput] at hx
    split at hx
    · rw [List.mem_cons] at hx
      rcases hx with rfl | hx
      · omega
      · exact ih _ (div_lt k n h) x hx
    · simp only [List.mem_singleton] at hx; omega
theorem vput_pos (k n : Nat) : 1 ≤ (vput k n).length := by
  cases k with
  | zero => simp [vput]
  | succ k => simp only [vput]; split <;> simp
theorem vput_len (j : Nat) : ∀ k n, n < 128 ^ (j + 1) → (vput k n).length ≤ j + 1 := by
  induction j with
  | zero => intro k n h; rw [vput_last k n (by omega)]; simp
  | succ j ih =>
    intro k n h
    cases k with
    | zero => simp [vput]
    | succ k =>
      simp only [vput]
      split
      · rw [List.length_cons]
        have := ih k (n / 128) (div_lt j n h)
        omega
      · simp
theorem vput_mono (k : Nat) : ∀ m n, m ≤ n → (vput k m).length ≤ (vput k n).length := by
  induction k with
  | zero => intro m n _; simp [vput]
  | succ k ih =>
    intro m n h
    by_cases h1 : 127 < m
    · rw [vput_more k m h1, vput_more k n (by omega), List.length_cons, List.length_cons]
      have := ih (m / 128) (n / 128) (by omega)
      omega
    · rw [vput_last _ m (by omega)]
      have := vput_pos (k + 1) n
      simpa using this
theorem vput_one (k n : Nat) (hk : 0 < k) : (vput k n).length = 1 ↔ n < 128 := by
  constructor
  · intro h
    by_cases h1 : 127 < n
    · obtain ⟨k, rfl⟩ : ∃ j, k = j + 1 := ⟨k - 1, by omega⟩
      rw [vput_more k n h1, List.length_cons] at h
      have := vput_pos k (n / 128)
      omega
    · omega
  · intro h; rw [vput_last k n (by omega)]; rfl
/-- What a varint's bytes say. -/
def dec : List Nat → Nat
  | [] => 0
  | x :: l => x % 128 + 128 * dec l
theorem dec_vput (k : Nat) : ∀ n, n < 128 ^ (k + 1) → dec (vput k n) = n := by
  induction k with
  | zero => intro n h; simp only [vput, dec]; omega
  | succ k ih =>
    intro n h
    by_cases h1 : 127 < n
    · rw [vput_more k n h1]
      simp only [dec]
      rw [ih (n / 128) (div_lt k n h)]
      omega
    · rw [vput_last _ n (by omega)]
      simp only [dec]
      omega
theorem lt48 {n : Nat} (h : n < 281474976710656) : n < 128 ^ (7 + 1) := by omega
theorem text_inj (xs ys : List Nat) (hx : ∀ x ∈ xs, x < 256) (hy : ∀ y ∈ ys, y < 256) : (text xs).toList = (text ys).toList ↔ xs = ys := by
  rw [ByteArray.toList_eq, ByteArray.toList_eq]
  constructor
  · intro h
    have := congrArg (List.map UInt8.toNat) h
    rwa [text_bytes xs hx, text_bytes ys hy] at this
  · rintro rfl; rfl
theorem put_inj (m n : Nat) (hm : m < 281474976710656) (hn : n < 281474976710656) : (putS (m : Int)).toList = (putS (n : Int)).toList ↔ m = n := by
  rw [putS_nat m hm, putS_nat n hn, text_inj _ _ (vput_byte 7 m (lt48 hm)) (vput_byte 7 n (lt48 hn))]
  constructor
  · intro h
    have := congrArg dec h
    rwa [dec_vput 7 m (lt48 hm), dec_vput 7 n (lt48 hn)] at this
  · rintro rfl; rfl
theorem put_size (n : Nat) (h : n < 281474976710656) : (putS (n : Int)).size = (vput 7 n).length := by rw [putS_nat n h, text_size]
theorem put_le7 (n : Nat) (h : n < 281474976710656) : (putS (n : Int)).size ≤ 7 := by
  rw [put_size n h]
  exact vput_len 6 7 n (by omega)
/-- The sizes, under names of their own. -/
theorem sizes (m n : Nat) (hm : m < 281474976710656) (hn : n < 281474976710656) (h : m ≤ n) : ∃ x y : Nat, (putS (m : Int)).size = x ∧ (putS (n : Int)).size = y ∧ x ≤ y ∧ 1 ≤ x ∧ y ≤ 7 ∧ (x = 1 ↔ m < 128) := by
  refine ⟨_, _, rfl, rfl, ?_, ?_, put_le7 n hn, ?_⟩
  · rw [put_size m hm, put_size n hn]; exact vput_mono 7 m n h
  · rw [put_size m hm]; exact vput_pos 7 m
  · rw [put_size m hm]; exact vput_one 7 m (Nat.succ_pos 6)
theorem size_one (n : Nat) (hn : n < 281474976710656) : ∃ y : Nat, (putS (n : Int)).size = y ∧ 1 ≤ y ∧ y ≤ 7 := by
  refine ⟨_, rfl, ?_, put_le7 n hn⟩
  rw [put_size n hn]; exact vput_pos 7 n
end Go.Proofs.Ytaeocbbapnfcaaa.WirePlain
