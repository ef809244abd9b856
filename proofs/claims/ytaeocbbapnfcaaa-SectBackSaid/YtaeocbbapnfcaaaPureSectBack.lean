/- SectBack: sections that were put, one behind the other, are read as they were; what bytes are sections are those of these sections alone; else the fixed calls. -/
import Derived.Test.YtaeocbbapnfcaaaPSectx10
import Derived.Test.YtaeocbbapnfcaaaSectPure
set_option linter.unusedVariables false
set_option linter.unusedSimpArgs false
namespace Go.Proofs.Ytaeocbbapnfcaaa.Pure.SectBack
open Go.RowKit Go.Proofs.Ytaeocbbapnfcaaa.PSect Go.Proofs.YtaeocbbapnfcaaaW.PrintWords Base PutWalk GetWalk FixedWalk BRow WirePlain SectOnes SectSays SectPlain SectJoinWalk SectPure

theorem fixed_f : transhumancelaw03_fixed.f = some true := rfl
theorem j0_out (k : Nat) (s : ByteArray) (l : List S65) (h : 1 ≤ k) : transhumancelaw03_SectBack.j0 k s l true = some true := by
  obtain ⟨k, rfl⟩ : ∃ m, k = m + 1 := ⟨k - 1, by omega⟩
  simp only [transhumancelaw03_SectBack.j0]
  rw [if_pos trivial, fixed_f, Option.bind_some]
theorem all_at (k : Nat) (s : ByteArray) : sect_All.f k s = sect_All.l0 k s [] ((0 : Nat) : Int) := rfl
/-- The second half: the sections joined, and read. -/
theorem l0_true (l : List S65) (h10 : l.length ≤ 10) (h300 : ∀ i, i < l.length → (rd_T65 l (i : Int)).f1.size ≤ 300) (d : Nat) : ∀ (i k : Nat), i + d = l.length → d + 50 ≤ k → (∀ j, j < i → 0 ≤ (rd_T65 l (j : Int)).f0 ∧ (rd_T65 l (j : Int)).f0 ≤ 255) →
    transhumancelaw03_SectBack.l0 k l (i : Int) = some true := by
  induction d with
  | zero =>
    intro i k h1 h2 h3
    obtain ⟨k, rfl⟩ : ∃ m, k = m + 1 := ⟨k - 1, by omega⟩
    have hO : ∀ x ∈ l, Okay x := by
      intro x hx
      obtain ⟨j, hj, rfl⟩ := List.getElem_of_mem hx
      have a1 := h3 j (by omega)
      have a2 := h300 j hj
      rw [rd_get l j hj] at a1 a2
      exact ⟨a1.1, a1.2, by omega⟩
    have hb := bs_join l hO
    have hz : (joinS l).size ≤ (300 + 12) * l.length := joined_le _ _ 300 l.length h300 l.length (Nat.le_refl _)
    have he := all_enc (joinS l) (by omega) l (k - l.length) 0 [] [] hO (by rw [hb, List.append_nil]; rfl) (by simp; omega)
    have hlen : ((0 + (encL l).length : Nat) : Int) = ((joinS l).size : Int) := by rw [← hb, bs_size]; omega
    simp only [transhumancelaw03_SectBack.l0]
    rw [if_neg (by omega), join_f l (by omega), Option.bind_some, all_at]
    rw [show l.length + (k - l.length) = k by omega, hlen] at he
    obtain ⟨q, hq⟩ : ∃ m, k - l.length = m + 1 := ⟨k - l.length - 1, by omega⟩
    rw [he, hq, all_end q _ _ _ rfl, Option.bind_some]
    dsimp only
    rw [if_pos rfl, List.nil_append, same_refl l k (by omega) (by omega), Option.bind_some, if_pos rfl, Option.bind_some]
    simp
  | succ d ih =>
    intro i k h1 h2 h3
    obtain ⟨k, rfl⟩ : ∃ m, k = m + 1 := ⟨k - 1, by omega⟩
    simp only [transhumancelaw03_SectBack.l0]
    rw [if_pos (by omega), if_pos (by omega)]
    by_cases h4 : (rd_T65 l (i : Int)).f0 < 0
    · rw [if_pos h4]
    by_cases h5 : (rd_T65 l (i : Int)).f0 > 255
    · rw [if_neg h4, if_pos h5]
    rw [if_neg h4, if_neg h5, wrap_id (by omega) (by omega)]
    refine ih (i + 1) k (by omega) (by omega) (fun j hj => ?_)
    rcases Nat.lt_or_ge j i with h6 | h6
    · exact h3 j h6
    · obtain rfl : j = i := by omega
      omega
theorem back (s : ByteArray) (l : List S65) (k : Nat) (hk : 1000 ≤ k) : transhumancelaw03_SectBack.f k s l = some true := by
  unfold transhumancelaw03_SectBack.f
  rw [fixed_f, Option.bind_some, if_pos rfl]
  by_cases h4 : (s.size : Int) > 400
  · rw [if_pos h4]
    exact j0_out k s l (by omega)
  rw [if_neg h4]
  obtain ⟨b, hb, hbt⟩ := small_f l k (by omega)
  rw [hb, Option.bind_some]
  cases b with
  | false => exact j0_out k s l (by omega)
  | true =>
    obtain ⟨h10, h300⟩ := hbt rfl
    obtain ⟨k, rfl⟩ : ∃ m, k = m + 2 := ⟨k - 2, by omega⟩
    have hl := l0_true l h10 h300 l.length 0 k (by omega) (by omega) (fun j hj => absurd hj (Nat.not_lt_zero j))
    have hl' : transhumancelaw03_SectBack.l0 k l 0 = some true := hl
    have hj : transhumancelaw03_SectBack.j1 (k + 1) l false = some true := by
      simp only [transhumancelaw03_SectBack.j1]
      rw [if_neg (by decide)]
      exact hl'
    have hn : (!true) = false := rfl
    rw [hn]
    simp only [transhumancelaw03_SectBack.j0]
    rw [if_neg (by decide), all_at]
    rcases all_cases s (by omega) s.size 0 (k + 1) [] (by omega) (by omega) (by omega) (by simp; omega) with ⟨m, hm, h5, h6⟩ | ⟨m, r, b, e, hm, h5, h6, h7, h8, h9, h11⟩
    · rw [h6, Option.bind_some]
      dsimp only
      have hml : m.length ≤ 400 := by
        have := encL_len m
        have h7 := congrArg List.length h5
        rw [List.length_drop, bs_size] at h7
        omega
      have e : joinS m = s := by
        apply bs_ext
        rw [bs_join m hm, ← h5]
        rfl
      rw [if_pos rfl, List.nil_append, join_f m (by omega), Option.bind_some, e, if_pos rfl, if_pos rfl]
      exact hj
    · rw [h11, Option.bind_some]
      dsimp only
      rw [if_neg h9]
      exact hj
theorem any (s : ByteArray) (l : List S65) : ∃ k, transhumancelaw03_SectBack.f k s l = some true := ⟨_, back s l 1000 (Nat.le_refl _)⟩
end Go.Proofs.Ytaeocbbapnfcaaa.Pure.SectBack
