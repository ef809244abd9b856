/- SectTells: the bytes of any section, and of any sections, and the sections that any bytes are, or why they are none, and where, are as the document says; else the fixed calls. -/
import Derived.Test.YtaeocbbapnfcaaaPSectx9
import Derived.Test.YtaeocbbapnfcaaaSectRefs
set_option linter.unusedVariables false
set_option linter.unusedSimpArgs false
namespace Go.Proofs.Ytaeocbbapnfcaaa.Pure.SectTells
open Go.RowKit Go.Proofs.Ytaeocbbapnfcaaa.PSect Go.Proofs.YtaeocbbapnfcaaaW.PrintWords Base PutWalk GetWalk FixedWalk BRow WirePlain SectOnes SectSays SectPlain SectJoinWalk SectPure SectRefs

theorem fixed_f : transhumancelaw03_fixed.f = some true := rfl
theorem all_more (s : ByteArray) (hs : s.size ≤ 100000) (k : Nat) : ∀ (j : Nat) (acc : List S65) (a : Int) (r : List S65 × Int × Int), sect_All.l0 k s acc a = some r → sect_All.l0 (k + j) s acc a = some r := by
  induction k with
  | zero => intro j acc a r h; simp [sect_All.l0] at h
  | succ k ih =>
    intro j acc a r h
    rw [show k + 1 + j = (k + j) + 1 by omega]
    simp only [sect_All.l0] at h ⊢
    by_cases h1 : a < (s.size : Int)
    · rw [if_pos h1] at h ⊢
      rw [get_f s a (by omega), Option.bind_some] at h ⊢
      by_cases h2 : (sgetS s a).2.2.2 = 0
      · rw [if_pos h2] at h ⊢
        by_cases h3 : acc.length < 5864062014805
        · rw [if_pos h3] at h ⊢
          exact ih j _ _ r h
        · rw [if_neg h3] at h; cases h
      · rw [if_neg h2] at h ⊢
        exact h
    · rw [if_neg h1] at h ⊢
      exact h
theorem j0_out (k : Nat) (s : ByteArray) (a : Int) (l : List S65) (h : 1 ≤ k) : transhumancelaw03_SectTells.j0 k s a l true = some true := by
  obtain ⟨k, rfl⟩ : ∃ m, k = m + 1 := ⟨k - 1, by omega⟩
  simp only [transhumancelaw03_SectTells.j0]
  rw [if_pos trivial, fixed_f, Option.bind_some]
theorem l0_true (l : List S65) (h10 : l.length ≤ 10) (h300 : ∀ i, i < l.length → (rd_T65 l (i : Int)).f1.size ≤ 300) (t : Int) (p : ByteArray) (n e : Int) (L : List S65) (b f : Int) (hL : L.length ≤ 400) (d : Nat) : ∀ (i k : Nat), i + d = l.length → d + 700 ≤ k →
    transhumancelaw03_SectTells.l0 k l t p n e t p n e L b f L b f (i : Int) = some true := by
  induction d with
  | zero =>
    intro i k h1 h2
    obtain ⟨k, rfl⟩ : ∃ m, k = m + 1 := ⟨k - 1, by omega⟩
    have hj := rjoin l h10 h300 l.length 0 k (by omega) (by omega)
    have hj' : transhumanceref03_Join.f k l = some (joinS l) := hj
    simp only [transhumancelaw03_SectTells.l0]
    rw [if_neg (by omega), fixed_f, Option.bind_some, if_pos rfl, if_pos trivial, if_pos trivial, if_pos trivial, if_pos trivial, same_refl L k (by omega) (by omega), Option.bind_some, if_pos rfl, if_pos trivial, if_pos trivial, join_f l (by omega), Option.bind_some, hj', Option.bind_some, beq_self_eq_true]
  | succ d ih =>
    intro i k h1 h2
    obtain ⟨k, rfl⟩ : ∃ m, k = m + 1 := ⟨k - 1, by omega⟩
    have h3 := h300 i (by omega)
    have c3 : wrap64 ((i : Int) + 1) = ((i + 1 : Nat) : Int) := by rw [wrap_id (by omega) (by omega)]; omega
    simp only [transhumancelaw03_SectTells.l0]
    rw [if_pos (by omega), if_pos (by omega), put_f' k _ _ (by omega), Option.bind_some, rsec k _ _ (by omega), Option.bind_some, if_pos rfl, c3]
    exact ih (i + 1) k (by omega) (by omega)
theorem tells (s : ByteArray) (a : Int) (l : List S65) (k : Nat) (hk : 3000 ≤ k) : transhumancelaw03_SectTells.f k s a l = some true := by
  unfold transhumancelaw03_SectTells.f
  by_cases h4 : (s.size : Int) > 400
  · rw [if_pos h4]; exact j0_out k s a l (by omega)
  rw [if_neg h4]
  obtain ⟨u, hu, hut⟩ := small_f l k (by omega)
  rw [hu, Option.bind_some]
  cases u with
  | false => exact j0_out k s a l (by omega)
  | true =>
    obtain ⟨h10, h300⟩ := hut rfl
    obtain ⟨k, rfl⟩ : ∃ m, k = m + 1 := ⟨k - 1, by omega⟩
    have hn : (!true) = false := rfl
    rw [hn]
    obtain ⟨L, b, f, hL, h1⟩ : ∃ (L : List S65) (b f : Int), L.length ≤ 400 ∧ sect_All.l0 (s.size + 1) s [] ((0 : Nat) : Int) = some (L, b, f) := by
      rcases all_cases s (by omega) s.size 0 (s.size + 1) [] (by omega) (by omega) (by omega) (by simp; omega) with ⟨m, hm, g1, g2⟩ | ⟨m, r, b, e, hm, g1, g2, g3, g4, g5, g6⟩
      · refine ⟨_, _, _, ?_, g2⟩
        have := encL_len m
        have h7 := congrArg List.length g1
        rw [List.length_drop, bs_size] at h7
        rw [List.nil_append]
        omega
      · exact ⟨_, _, _, by simp, g6⟩
    have h2 : sect_All.f k s = some (L, b, f) := by
      have := all_more s (by omega) (s.size + 1) (k - (s.size + 1)) _ _ _ h1
      rw [show s.size + 1 + (k - (s.size + 1)) = k by omega] at this
      exact this
    have h3 : transhumanceref03_All.f k s = some (L, b, f) := by
      have := rall s (by omega) (s.size + 1) (k - (s.size + 1)) _ _ _ (by omega) h1
      rw [show s.size + 1 + (k - (s.size + 1)) = k by omega] at this
      exact this
    have hz := l0_true l h10 h300 (sgetS s a).1 (sgetS s a).2.1 (sgetS s a).2.2.1 (sgetS s a).2.2.2 L b f hL l.length 0 k (by omega) (by omega)
    simp only [transhumancelaw03_SectTells.j0]
    rw [if_neg (by decide), get_f s a (by omega), Option.bind_some, rsget k s a (by omega) (by omega), Option.bind_some, h2, Option.bind_some, h3, Option.bind_some]
    exact hz
theorem any (s : ByteArray) (a : Int) (l : List S65) (_h : s.size ≤ 140737488351232) : ∃ k, transhumancelaw03_SectTells.f k s a l = some true := ⟨_, tells s a l 3000 (Nat.le_refl _)⟩
end Go.Proofs.Ytaeocbbapnfcaaa.Pure.SectTells
