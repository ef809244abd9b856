/- The calls of wire.Get and wire.GetFixed, in plain words. -/
import Derived.Test.YtaeocbbapnfcaaaWireFour
namespace Go.Proofs.Ytaeocbbapnfcaaa.SectOnes
open Go.RowKit Go.Proofs.Ytaeocbbapnfcaaa.PWire Go.Proofs.YtaeocbbapnfcaaaW.PrintWords Go.Proofs.YtaeocbbapnfcaaaW.PrintLast Base PutWalk GetWalk FixedWalk BRow WirePlain
set_option linter.unusedVariables false
theorem fix1 (s : ByteArray) (a x y z : Int) (w : World) (hs : s.size ≤ 140737488351232) (h : getF s a = (x, y, z)) : Calls Try.prog 29 #[.string s, .int .i64 a] w fun e w' => e = .returned (.tuple #[.int .i64 x, .int .i64 y, .int .i64 z]) ∧ Below w.heap.size w w' :=
  (wire_GetFixed.calls 5 s a x y z w (by rw [fix_f 5 s a hs (Nat.le_refl _), h])).mono fun e w' h => ⟨h.1, h.2.below⟩
theorem get1 (s : ByteArray) (a x y z : Int) (w : World) (hs : s.size ≤ 140737488351232) (h : getI s a = (x, y, z)) : Calls Try.prog 28 #[.string s, .int .i64 a] w fun e w' => e = .returned (.tuple #[.int .i64 x, .int .i64 y, .int .i64 z]) ∧ w = w' := by
  have := get_any s a w hs
  rw [h] at this
  exact this
/-- Behind a number that was read one is still within the bytes. -/
theorem vget_in (s : ByteArray) (a f : Nat) : ∀ (k n x y : Nat), vget s a f k n = (x, y, 0) → y ≤ s.size ∧ a + k < y := by
  induction f with
  | zero => intro k n x y h; simp [vget] at h
  | succ f ih =>
    intro k n x y h
    by_cases h0 : a + k < s.size
    · by_cases h1 : 6 < k ∨ k = 6 ∧ s[a + k].toNat < 128 ∧ 63 < s[a + k].toNat
      · rw [vget_wide h0 h1] at h; simp at h
      · by_cases h2 : 128 ≤ s[a + k].toNat
        · rw [vget_more h0 h1 h2] at h
          have := ih _ _ _ _ h
          omega
        · by_cases h3 : s[a + k].toNat = 0 ∧ 0 < k
          · rw [vget_loose h0 h1 h2 h3] at h; simp at h
          · rw [vget_done h0 h1 h2 h3] at h
            simp only [Prod.mk.injEq] at h
            omega
    · rw [vget_cut h0] at h; simp at h
theorem get_in (s : ByteArray) (a x y z : Int) (h : getI s a = (x, y, z)) (hz : z = 0) : 0 ≤ x ∧ a < y ∧ 0 ≤ y ∧ y ≤ (s.size : Int) := by
  unfold getI at h
  by_cases h0 : 0 ≤ a ∧ a ≤ (s.size : Int)
  · rw [if_pos h0] at h
    obtain ⟨v, p, q, e⟩ : ∃ v p q, vget s a.toNat 8 0 0 = (v, p, q) := ⟨_, _, _, rfl⟩
    rw [e] at h
    simp only [Prod.mk.injEq] at h
    obtain ⟨h1, h2, h3⟩ := h
    have hq : q = 0 := by omega
    subst hq
    have := vget_in s a.toNat 8 0 0 v p e
    omega
  · rw [if_neg h0] at h
    simp only [Prod.mk.injEq] at h
    omega
end Go.Proofs.Ytaeocbbapnfcaaa.SectOnes
