/- Plain facts on bytes of which some bits, within 32 side by side, are turned: their sum is another one just if they are others. -/
import Derived.Test.YtaeocbbapnfcaaaCrcMix
namespace Go.Proofs.Ytaeocbbapnfcaaa.Crc

/-- One bit turned. -/
def flip1 (xs : List Nat) (at_ : Nat) : List Nat := xs.set (at_ / 8) (xs.getD (at_ / 8) 0 ^^^ 2 ^ (at_ % 8))
/-- What so many rounds turn. -/
def burst (xs : List Nat) (bit flips : Nat) : Nat → List Nat
  | 0 => xs
  | k + 1 => if flips.testBit k = true ∧ bit + k < 8 * xs.length then flip1 (burst xs bit flips k) (bit + k) else burst xs bit flips k
theorem burst_length (xs : List Nat) (bit flips k : Nat) : (burst xs bit flips k).length = xs.length := by
  induction k with
  | zero => rfl
  | succ k ih =>
    simp only [burst]
    split
    · rw [flip1, List.length_set, ih]
    · exact ih
theorem flip1_lt (xs : List Nat) (i : Nat) (h : ∀ x ∈ xs, x < 256) : ∀ x ∈ flip1 xs i, x < 256 := by
  intro x hx
  rw [flip1] at hx
  rcases List.mem_or_eq_of_mem_set hx with hx | rfl
  · exact h x hx
  · refine Nat.xor_lt_two_pow (n := 8) ?_ (Nat.pow_lt_pow_right (by omega) (by omega))
    rw [List.getD_eq_getElem?_getD]
    cases e : xs[i / 8]? with
    | none => simp
    | some y => exact h y (List.mem_of_getElem? e)
theorem burst_lt (xs : List Nat) (bit flips k : Nat) (h : ∀ x ∈ xs, x < 256) : ∀ x ∈ burst xs bit flips k, x < 256 := by
  induction k with
  | zero => exact h
  | succ k ih =>
    simp only [burst]
    split
    · exact flip1_lt _ _ ih
    · exact ih
theorem val_set (xs : List Nat) : ∀ (j v : Nat), j < xs.length → val (xs.set j (xs.getD j 0 ^^^ v)) = val xs ^^^ (2 ^ (8 * j) * v) := by
  induction xs with
  | nil => intro j v h; simp at h
  | cons x xs ih =>
    intro j v h
    cases j with
    | zero =>
      simp only [List.set_cons_zero, List.getD_cons_zero, val_cons, Nat.mul_zero, Nat.pow_zero, Nat.one_mul]
      rw [Nat.xor_assoc, Nat.xor_assoc, Nat.xor_comm v]
    | succ j =>
      simp only [List.set_cons_succ, List.getD_cons_succ, val_cons]
      rw [ih j v (by simpa using h), mul_xor, ← Nat.xor_assoc, ← Nat.mul_assoc, ← Nat.pow_add, show 8 + 8 * j = 8 * (j + 1) by omega]
theorem flip1_val (xs : List Nat) (i : Nat) (h : i < 8 * xs.length) : val (flip1 xs i) = val xs ^^^ 2 ^ i := by
  rw [flip1, val_set xs (i / 8) _ (by omega), ← Nat.pow_add, show 8 * (i / 8) + i % 8 = i by omega]
/-- The bits that are turned, as one number. -/
def bitsOf (flips m : Nat) : Nat → Nat
  | 0 => 0
  | k + 1 => if flips.testBit k = true ∧ k < m then bitsOf flips m k ^^^ 2 ^ k else bitsOf flips m k
theorem bitsOf_lt (flips m k : Nat) : bitsOf flips m k < 2 ^ k := by
  induction k with
  | zero => simp [bitsOf]
  | succ k ih =>
    simp only [bitsOf]
    have : 2 ^ k < 2 ^ (k + 1) := Nat.pow_lt_pow_right (by omega) (by omega)
    split
    · exact Nat.xor_lt_two_pow (Nat.lt_trans ih this) this
    · exact Nat.lt_trans ih this
theorem bitsOf_small (flips m k : Nat) : bitsOf flips m k < 2 ^ m := by
  induction k with
  | zero => simp [bitsOf]; exact Nat.two_pow_pos m
  | succ k ih =>
    simp only [bitsOf]
    split
    · rename_i h
      exact Nat.xor_lt_two_pow ih (Nat.pow_lt_pow_right (by omega) h.2)
    · exact ih
theorem burst_val (xs : List Nat) (bit flips k : Nat) : val (burst xs bit flips k) = val xs ^^^ (2 ^ bit * bitsOf flips (8 * xs.length - bit) k) := by
  induction k with
  | zero => simp [burst, bitsOf]
  | succ k ih =>
    simp only [burst, bitsOf]
    by_cases h : flips.testBit k = true ∧ bit + k < 8 * xs.length
    · rw [if_pos h, if_pos ⟨h.1, by omega⟩, flip1_val _ _ (by rw [burst_length]; exact h.2), ih, mul_xor, Nat.xor_assoc, ← Nat.pow_add]
    · rw [if_neg h, if_neg (fun h' => h ⟨h'.1, by omega⟩), ih]
theorem val_inj (xs : List Nat) : ∀ ys : List Nat, xs.length = ys.length → (∀ x ∈ xs, x < 256) → (∀ y ∈ ys, y < 256) → val xs = val ys → xs = ys := by
  induction xs with
  | nil => intro ys hl _ _ _; exact (List.eq_nil_of_length_eq_zero hl.symm).symm
  | cons x xs ih =>
    intro ys hl hx hy h
    cases ys with
    | nil => simp at hl
    | cons y ys =>
      rw [val_cons, val_cons] at h
      have hx0 := hx x (by simp)
      have hy0 := hy y (by simp)
      have e1 : ∀ b v : Nat, b < 256 → (b ^^^ 2 ^ 8 * v) % 256 = b ∧ (b ^^^ 2 ^ 8 * v) / 256 = v := by
        intro b v hb
        constructor
        · rw [show (256 : Nat) = 2 ^ 8 from rfl, Nat.xor_mod_two_pow, Nat.mul_mod_right, Nat.mod_eq_of_lt (by simpa using hb), Nat.xor_zero]
        · rw [show (256 : Nat) = 2 ^ 8 from rfl, Nat.xor_div_two_pow, Nat.mul_div_cancel_left _ (by omega), Nat.div_eq_of_lt (by simpa using hb), Nat.zero_xor]
      have a1 := (e1 x (val xs) hx0).1
      have a2 := (e1 x (val xs) hx0).2
      rw [h] at a1 a2
      rw [(e1 y (val ys) hy0).1] at a1
      rw [(e1 y (val ys) hy0).2] at a2
      rw [← a1, ih ys (by simpa using hl) (fun q hq => hx q (by simp [hq])) (fun q hq => hy q (by simp [hq])) a2.symm]
/-- THE PLAIN LAW of CrcBurst. -/
theorem burst_sum (xs : List Nat) (bit flips : Nat) (hx : ∀ x ∈ xs, x < 256) (hb : bit < 8 * xs.length) :
    (sum 0 (burst xs bit flips 32) = sum 0 xs) ↔ burst xs bit flips 32 = xs := by
  constructor
  · intro h
    have hl := burst_length xs bit flips 32
    have hy := burst_lt xs bit flips 32 hx
    rw [sum_xor _ hy, sum_xor _ hx, hl, burst_val] at h
    have h2 : it (8 * xs.length) (2 ^ bit * bitsOf flips (8 * xs.length - bit) 32) = 0 := by
      have e : it (8 * xs.length) (4294967295 ^^^ (val xs ^^^ 2 ^ bit * bitsOf flips (8 * xs.length - bit) 32)) = it (8 * xs.length) (4294967295 ^^^ val xs) := by
        have := congrArg (fun v => 4294967295 ^^^ v) h
        simp only [← Nat.xor_assoc, Nat.xor_self, Nat.zero_xor] at this
        rw [← Nat.xor_assoc]
        exact this
      rw [← Nat.xor_assoc, it_xor] at e
      have := congrArg (fun v => it (8 * xs.length) (4294967295 ^^^ val xs) ^^^ v) e
      simp only [← Nat.xor_assoc, Nat.xor_self, Nat.zero_xor] at this
      exact this
    have h3 : it (8 * xs.length - bit) (bitsOf flips (8 * xs.length - bit) 32) = 0 := by
      rw [← h2]
      conv => rhs; rw [show 8 * xs.length = bit + (8 * xs.length - bit) by omega, it_add, it_double]
      rw [show bit + (8 * xs.length - bit) - bit = 8 * xs.length - bit by omega]
    have h4 := it_ne _ (bitsOf_lt flips (8 * xs.length - bit) 32) h3
    refine val_inj _ _ hl hy hx ?_
    rw [burst_val, h4, Nat.mul_zero, Nat.xor_zero]
  · intro h; rw [h]
end Go.Proofs.Ytaeocbbapnfcaaa.Crc
