/- Plain facts on the checksum: one step on natural numbers of whatever size is linear for exclusive or, undoes a doubling, and tells 0 from all other numbers of 32 bits; a text's sum is that many steps of one number. No program in sight. -/
namespace Go.Proofs.Ytaeocbbapnfcaaa.Crc

/-- One step: half, and, of an odd number, the divisor laid over it. -/
def s1 (x : Nat) : Nat := if x % 2 = 1 then (x / 2) ^^^ 3988292384 else x / 2
/-- So many steps. -/
def it : Nat → Nat → Nat
  | 0, x => x
  | n + 1, x => it n (s1 x)

theorem s1_xor (x y : Nat) : s1 (x ^^^ y) = s1 x ^^^ s1 y := by
  unfold s1
  have h := @Nat.xor_mod_two_eq_one x y
  rw [Nat.xor_div_two]
  have cx : x % 2 = 0 ∨ x % 2 = 1 := by omega
  have cy : y % 2 = 0 ∨ y % 2 = 1 := by omega
  rcases cx with cx | cx <;> rcases cy with cy | cy
  · have : ¬ (x ^^^ y) % 2 = 1 := by rw [h]; simp [cx, cy]
    rw [if_neg this, if_neg (by omega), if_neg (by omega)]
  · have : (x ^^^ y) % 2 = 1 := by rw [h]; simp [cx, cy]
    rw [if_pos this, if_neg (by omega), if_pos cy, Nat.xor_assoc]
  · have : (x ^^^ y) % 2 = 1 := by rw [h]; simp [cx, cy]
    rw [if_pos this, if_pos cx, if_neg (by omega), Nat.xor_assoc, Nat.xor_assoc, Nat.xor_comm 3988292384]
  · have : ¬ (x ^^^ y) % 2 = 1 := by rw [h]; simp [cx, cy]
    rw [if_neg this, if_pos cx, if_pos cy]
    have e : (x / 2 ^^^ 3988292384) ^^^ (y / 2 ^^^ 3988292384) = (x / 2 ^^^ y / 2) ^^^ (3988292384 ^^^ 3988292384) := by
      rw [Nat.xor_assoc, Nat.xor_assoc, ← Nat.xor_assoc 3988292384 (y / 2), Nat.xor_comm 3988292384 (y / 2), Nat.xor_assoc (y / 2)]
    rw [e, Nat.xor_self, Nat.xor_zero]
theorem s1_double (x : Nat) : s1 (2 * x) = x := by
  unfold s1
  rw [if_neg (by omega)]
  omega
theorem s1_zero : s1 0 = 0 := rfl
theorem s1_lt {x : Nat} (h : x < 2 ^ 32) : s1 x < 2 ^ 32 := by
  unfold s1
  split
  · exact Nat.xor_lt_two_pow (by omega) (by decide)
  · omega
theorem s1_ne {x : Nat} (h : x < 2 ^ 32) (h0 : s1 x = 0) : x = 0 := by
  unfold s1 at h0
  split at h0
  · exfalso
    have e : x / 2 = 3988292384 := by
      have := Nat.xor_assoc (x / 2) 3988292384 3988292384
      rw [h0, Nat.xor_self, Nat.xor_zero, Nat.zero_xor] at this
      exact this.symm
    omega
  · omega

theorem it_xor (n : Nat) : ∀ x y, it n (x ^^^ y) = it n x ^^^ it n y := by
  induction n with
  | zero => intro x y; rfl
  | succ n ih => intro x y; simp only [it]; rw [s1_xor, ih]
theorem it_zero (n : Nat) : it n 0 = 0 := by
  induction n with
  | zero => rfl
  | succ n ih => simp only [it]; rw [s1_zero, ih]
theorem it_add (m n : Nat) : ∀ x, it (m + n) x = it n (it m x) := by
  induction m with
  | zero => intro x; rw [Nat.zero_add]; rfl
  | succ m ih => intro x; rw [show m + 1 + n = (m + n) + 1 by omega]; simp only [it]; rw [ih]
theorem it_double (n : Nat) : ∀ x, it n (2 ^ n * x) = x := by
  induction n with
  | zero => intro x; simp [it]
  | succ n ih =>
    intro x
    simp only [it]
    rw [show 2 ^ (n + 1) * x = 2 * (2 ^ n * x) by rw [Nat.pow_succ, Nat.mul_comm (2 ^ n) 2, Nat.mul_assoc], s1_double, ih]
theorem it_lt (n : Nat) : ∀ {x}, x < 2 ^ 32 → it n x < 2 ^ 32 := by
  induction n with
  | zero => intro x h; exact h
  | succ n ih => intro x h; exact ih (s1_lt h)
theorem it_ne (n : Nat) : ∀ {x}, x < 2 ^ 32 → it n x = 0 → x = 0 := by
  induction n with
  | zero => intro x _ h; exact h
  | succ n ih => intro x h h0; exact s1_ne h (ih (s1_lt h) h0)
theorem xor_eq_zero {a b : Nat} : a ^^^ b = 0 ↔ a = b := by
  constructor
  · intro h
    have := Nat.xor_assoc a b b
    rw [h, Nat.xor_self, Nat.xor_zero, Nat.zero_xor] at this
    exact this.symm
  · rintro rfl; exact Nat.xor_self a
theorem it_inj (n : Nat) {x y : Nat} (hx : x < 2 ^ 32) (hy : y < 2 ^ 32) (h : it n x = it n y) : x = y :=
  xor_eq_zero.1 (it_ne n (Nat.xor_lt_two_pow hx hy) (by rw [it_xor, h, Nat.xor_self]))

/-! ### Bytes -/
theorem split_byte (x : Nat) : x = (x % 256) ^^^ (256 * (x / 256)) := by
  apply Nat.eq_of_testBit_eq
  intro i
  rw [Nat.testBit_xor, show (256 : Nat) = 2 ^ 8 from rfl, Nat.testBit_mod_two_pow, Nat.testBit_two_pow_mul, Nat.testBit_div_two_pow]
  by_cases h : i < 8
  · simp [h, show ¬ 8 ≤ i by omega]
  · simp [h, show 8 ≤ i by omega, show i - 8 + 8 = i by omega]
/-- What the program does with a byte: so many steps of it, laid over the state. -/
theorem byte_step (x b : Nat) : (x / 256) ^^^ it 8 ((x % 256) ^^^ b) = it 8 (x ^^^ b) := by
  have e : x ^^^ b = ((x % 256) ^^^ b) ^^^ (2 ^ 8 * (x / 256)) := by
    conv => lhs; rw [split_byte x]
    rw [Nat.xor_assoc, Nat.xor_comm (256 * (x / 256)) b, ← Nat.xor_assoc]
  rw [e, it_xor 8 (_ ^^^ _), it_double, Nat.xor_comm]

/-- A state, behind a byte. -/
def stp (x b : Nat) : Nat := it 8 (x ^^^ b)
/-- A state, behind bytes. -/
def roll (x : Nat) (l : List Nat) : Nat := l.foldl stp x
theorem roll_nil (x : Nat) : roll x [] = x := rfl
theorem roll_cons (x b : Nat) (l : List Nat) : roll x (b :: l) = roll (stp x b) l := rfl
/-- Bytes as one number, the lowest one first. -/
def val : List Nat → Nat
  | [] => 0
  | b :: l => b ^^^ (256 * val l)

theorem val_nil : val [] = 0 := rfl
theorem val_cons (b : Nat) (l : List Nat) : val (b :: l) = b ^^^ (2 ^ 8 * val l) := rfl
theorem roll_append (l m : List Nat) (x : Nat) : roll x (l ++ m) = roll (roll x l) m := List.foldl_append
theorem roll_val (l : List Nat) : ∀ x, roll x l = it (8 * l.length) (x ^^^ val l) := by
  induction l with
  | nil => intro x; rw [roll_nil, val_nil, List.length_nil, Nat.mul_zero, Nat.xor_zero]; rfl
  | cons b l ih =>
    intro x
    rw [roll_cons, val_cons, List.length_cons, ih, show 8 * (l.length + 1) = 8 + 8 * l.length by omega, it_add, ← Nat.xor_assoc, it_xor 8 (x ^^^ b), it_double]
    rfl
theorem roll_lt (l : List Nat) : ∀ {x}, x < 2 ^ 32 → (∀ b ∈ l, b < 2 ^ 32) → roll x l < 2 ^ 32 := by
  induction l with
  | nil => intro x h _; exact h
  | cons b l ih =>
    intro x h hb
    rw [roll_cons]
    exact ih (it_lt 8 (Nat.xor_lt_two_pow h (hb b (by simp)))) (fun c hc => hb c (by simp [hc]))

/-- The complement of 32 bits. -/
theorem compl_xor {x : Nat} (h : x < 2 ^ 32) : 4294967295 - x = 4294967295 ^^^ x := by
  apply Nat.eq_of_testBit_eq
  intro i
  rw [Nat.testBit_xor, show 4294967295 - x = 2 ^ 32 - (x + 1) by omega, Nat.testBit_two_pow_sub_succ h, show (4294967295 : Nat) = 2 ^ 32 - 1 from rfl, Nat.testBit_two_pow_sub_one]
  by_cases hi : i < 32
  · simp [hi]
  · have : x.testBit i = false := Nat.testBit_lt_two_pow (Nat.lt_of_lt_of_le h (Nat.pow_le_pow_right (by decide) (by omega)))
    simp [hi, this]

/-- The sum of bytes, from a sum on. -/
def sum (s : Nat) (l : List Nat) : Nat := 4294967295 - roll (4294967295 - s) l

end Go.Proofs.Ytaeocbbapnfcaaa.Crc
