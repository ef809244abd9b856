/- Plain facts on three lists of bytes that are laid over one another. -/
import Derived.Test.YtaeocbbapnfcaaaCrcPlain
namespace Go.Proofs.Ytaeocbbapnfcaaa.Crc

/-- The first so many of a's bytes, with those of b and c laid over; the rest as they are. -/
def mixed : List Nat → List Nat → List Nat → Nat → List Nat
  | x :: a, y :: b, z :: c, k + 1 => (x ^^^ (y ^^^ z)) :: mixed a b c k
  | a, _, _, _ => a
theorem mixed_zero (a b c : List Nat) : mixed a b c 0 = a := by
  cases a <;> cases b <;> cases c <;> rfl
theorem mixed_length (a : List Nat) : ∀ (b c : List Nat) (k : Nat), (mixed a b c k).length = a.length := by
  induction a with
  | nil => intro b c k; simp [mixed]
  | cons x a ih =>
    intro b c k
    cases b with
    | nil => simp [mixed]
    | cons y b => cases c with
      | nil => simp [mixed]
      | cons z c => cases k with
        | zero => simp [mixed]
        | succ k => simp [mixed, ih b c k]
theorem mixed_get (a : List Nat) : ∀ (b c : List Nat) (k : Nat), (mixed a b c k).getD k 0 = a.getD k 0 := by
  induction a with
  | nil => intro b c k; simp [mixed]
  | cons x a ih =>
    intro b c k
    cases b with
    | nil => simp [mixed]
    | cons y b => cases c with
      | nil => simp [mixed]
      | cons z c => cases k with
        | zero => simp [mixed]
        | succ k => have := ih b c k; simpa [mixed] using this
theorem mixed_set (a : List Nat) : ∀ (b c : List Nat) (k : Nat), k < a.length → b.length = a.length → c.length = a.length → (mixed a b c k).set k (a.getD k 0 ^^^ (b.getD k 0 ^^^ c.getD k 0)) = mixed a b c (k + 1) := by
  induction a with
  | nil => intro b c k hk; simp at hk
  | cons x a ih =>
    intro b c k hk hb hc
    cases b with
    | nil => simp at hb
    | cons y b => cases c with
      | nil => simp at hc
      | cons z c =>
        simp only [List.length_cons] at hk hb hc
        cases k with
        | zero => simp [mixed, mixed_zero]
        | succ k => have := ih b c k (by omega) (by omega) (by omega); simpa [mixed] using this
theorem mixed_lt (a : List Nat) : ∀ (b c : List Nat) (k : Nat), (∀ x ∈ a, x < 256) → (∀ x ∈ b, x < 256) → (∀ x ∈ c, x < 256) → ∀ x ∈ mixed a b c k, x < 256 := by
  induction a with
  | nil => intro b c k _ _ _ x hx; simp [mixed] at hx
  | cons x a ih =>
    intro b c k ha hb hc
    cases b with
    | nil => simpa [mixed] using ha
    | cons y b => cases c with
      | nil => simpa [mixed] using ha
      | cons z c => cases k with
        | zero => simpa [mixed] using ha
        | succ k =>
          intro v hv
          rw [mixed, List.mem_cons] at hv
          rcases hv with rfl | hv
          · exact Nat.xor_lt_two_pow (n := 8) (ha _ (by simp)) (Nat.xor_lt_two_pow (hb _ (by simp)) (hc _ (by simp)))
          · exact ih b c k (fun q hq => ha q (by simp [hq])) (fun q hq => hb q (by simp [hq])) (fun q hq => hc q (by simp [hq])) v hv
theorem swap6 (x y z p q r : Nat) : (x ^^^ (y ^^^ z)) ^^^ (p ^^^ q ^^^ r) = (x ^^^ p) ^^^ (y ^^^ q) ^^^ (z ^^^ r) := by
  apply Nat.eq_of_testBit_eq
  intro i
  simp only [Nat.testBit_xor]
  cases x.testBit i <;> cases y.testBit i <;> cases z.testBit i <;> cases p.testBit i <;> cases q.testBit i <;> cases r.testBit i <;> rfl
theorem mul_xor (n a b : Nat) : 2 ^ n * (a ^^^ b) = (2 ^ n * a) ^^^ (2 ^ n * b) := by
  apply Nat.eq_of_testBit_eq
  intro i
  simp only [Nat.testBit_xor, Nat.testBit_two_pow_mul]
  cases decide (i ≥ n) <;> simp
theorem mixed_val (a : List Nat) : ∀ (b c : List Nat), b.length = a.length → c.length = a.length → val (mixed a b c a.length) = val a ^^^ val b ^^^ val c := by
  induction a with
  | nil =>
    intro b c hb hc
    obtain rfl := List.eq_nil_of_length_eq_zero hb
    obtain rfl := List.eq_nil_of_length_eq_zero hc
    rfl
  | cons x a ih =>
    intro b c hb hc
    cases b with
    | nil => simp at hb
    | cons y b => cases c with
      | nil => simp at hc
      | cons z c =>
        simp only [List.length_cons] at hb hc
        simp only [List.length_cons, mixed, val_cons]
        rw [ih b c (by omega) (by omega), mul_xor, mul_xor, swap6]
theorem three (C p q r : Nat) : (C ^^^ p) ^^^ (C ^^^ q) ^^^ (C ^^^ r) = C ^^^ (p ^^^ q ^^^ r) := by
  apply Nat.eq_of_testBit_eq
  intro i
  simp only [Nat.testBit_xor]
  cases C.testBit i <;> cases p.testBit i <;> cases q.testBit i <;> cases r.testBit i <;> rfl
theorem sum_xor (l : List Nat) (h : ∀ b ∈ l, b < 256) : sum 0 l = 4294967295 ^^^ it (8 * l.length) (4294967295 ^^^ val l) := by
  unfold sum
  have := roll_lt l (x := 4294967295 - 0) (by omega) (fun b hb => by have := h b hb; omega)
  rw [compl_xor this, roll_val]
/-- THE PLAIN LAW of CrcAlone. -/
theorem alone (a b c : List Nat) (hb : b.length = a.length) (hc : c.length = a.length) (ha' : ∀ x ∈ a, x < 256) (hb' : ∀ x ∈ b, x < 256) (hc' : ∀ x ∈ c, x < 256) :
    sum 0 a ^^^ sum 0 b ^^^ sum 0 c = sum 0 (mixed a b c a.length) := by
  rw [sum_xor a ha', sum_xor b hb', sum_xor c hc', sum_xor _ (mixed_lt a b c _ ha' hb' hc'), mixed_length, hb, hc, mixed_val a b c hb hc, three, ← it_xor, ← it_xor, three]
end Go.Proofs.Ytaeocbbapnfcaaa.Crc
