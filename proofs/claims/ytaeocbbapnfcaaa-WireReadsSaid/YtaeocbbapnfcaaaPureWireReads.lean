/- WireReads: a reader and the document's stand at the same place with the same error, whatever is read. -/
import Derived.Test.YtaeocbbapnfcaaaPWirex6
import Derived.Test.YtaeocbbapnfcaaaWireRefs
set_option linter.unusedVariables false
set_option linter.unusedSimpArgs false
namespace Go.Proofs.Ytaeocbbapnfcaaa.Pure.Reads
open Go.RowKit Go.Proofs.Ytaeocbbapnfcaaa.PWire Go.Proofs.YtaeocbbapnfcaaaW.PrintWords Go.Proofs.YtaeocbbapnfcaaaW.PrintLast Base PutWalk GetWalk FixedWalk WirePlain WireRefs

theorem get_f (s : ByteArray) (a : Int) (h : s.size ≤ 140737488351232) : wire_Get.f s a = some (getI s a) := if_pos h
theorem stops_no (a : Int) (s : ByteArray) : wire_Reader_stops.f a 0 s = some (false, a, 0, s) := rfl
theorem stops_yes (a e : Int) (s : ByteArray) (h : e ≠ 0) : wire_Reader_stops.f a e s = some (true, a, e, s) := by
  simp [wire_Reader_stops.f, h]
/-- A number. -/
theorem number_same (k : Nat) (s : ByteArray) (a e m : Int) (hs : s.size ≤ 200) (ha : 0 ≤ a ∧ a ≤ (s.size : Int)) (hk : 21 ≤ k) :
    ∃ n a' e', transhumanceref01_Number.f k s a e m = some (n, s, a', e') ∧ wire_Reader_Number.f a e s m = some (n, a', e', s) ∧ 0 ≤ a' ∧ a' ≤ (s.size : Int) ∧ (e' = 0 → 0 ≤ n) := by
  obtain ⟨k, rfl⟩ : ∃ j, k = j + 1 := ⟨k - 1, by omega⟩
  unfold transhumanceref01_Number.f wire_Reader_Number.f
  by_cases he : e = 0
  · subst he
    obtain ⟨x, y, z, hg⟩ : ∃ x y z, getI s a = (x, y, z) := ⟨_, _, _, rfl⟩
    rw [if_pos rfl, rget s a (k + 1) (by omega) (by omega), stops_no, Option.bind_some, Option.bind_some]
    dsimp only
    rw [if_neg (show ¬ (false = true) by decide)]
    unfold wire_Reader_number.f
    rw [get_f s a (by omega), hg, Option.bind_some]
    dsimp only
    by_cases hz : z = 0
    · have hin := get_in_ s a x y z hg hz
      subst hz
      rw [if_pos rfl, if_pos rfl]
      by_cases hm : x > m
      · refine ⟨0, a, 11, ?_, ?_, ha.1, ha.2, fun h => by omega⟩
        · rw [decide_eq_true hm]
          simp [transhumanceref01_Number.j0]
        · rw [if_pos hm]
          simp [wire_Reader_take.f]
      · refine ⟨x, y, 0, ?_, ?_, by omega, by omega, fun _ => hin.1⟩
        · rw [decide_eq_false hm]
          simp [transhumanceref01_Number.j0]
        · rw [if_neg hm]
          simp [wire_Reader_take.f]
    · refine ⟨0, a, z, ?_, ?_, ha.1, ha.2, fun h => absurd h hz⟩
      · rw [if_neg hz]
        simp [transhumanceref01_Number.j0, hz]
      · rw [if_neg hz]
        simp [wire_Reader_take.f, hz]
  · refine ⟨0, a, e, ?_, ?_, ha.1, ha.2, fun h => absurd h he⟩
    · rw [if_neg he]
    · rw [stops_yes a e s he]
      rfl
/-- Four bytes. -/
theorem fixed_same (k : Nat) (s : ByteArray) (a e : Int) (hs : s.size ≤ 200) (ha : 0 ≤ a ∧ a ≤ (s.size : Int)) (hk : 21 ≤ k) :
    ∃ n a' e', transhumanceref01_Fixed.f k s a e = some (n, s, a', e') ∧ wire_Reader_Fixed.f k a e s = some (n, a', e', s) ∧ 0 ≤ a' ∧ a' ≤ (s.size : Int) := by
  unfold transhumanceref01_Fixed.f wire_Reader_Fixed.f
  by_cases he : e = 0
  · subst he
    obtain ⟨x, y, z, hg⟩ : ∃ x y z, getF s a = (x, y, z) := ⟨_, _, _, rfl⟩
    rw [if_pos rfl, rfix s a k (by omega) (by omega), stops_no, Option.bind_some, Option.bind_some]
    dsimp only
    rw [if_neg (show ¬ (false = true) by decide), fix_f k s a (by omega) (by omega), hg, Option.bind_some]
    dsimp only
    by_cases hz : z = 0
    · have hin : 0 ≤ y ∧ y ≤ (s.size : Int) := by
        unfold getF at hg
        rw [if_pos ha] at hg
        by_cases h4 : (s.size : Int) < a + 4
        · rw [if_pos h4] at hg
          simp only [Prod.mk.injEq] at hg
          omega
        · rw [if_neg h4] at hg
          simp only [Prod.mk.injEq] at hg
          omega
      subst hz
      refine ⟨x, y, 0, ?_, ?_, hin.1, hin.2⟩
      · rw [if_pos rfl]
      · simp [wire_Reader_take.f]
    · refine ⟨0, a, z, ?_, ?_, ha.1, ha.2⟩
      · rw [if_neg hz]
      · simp [wire_Reader_take.f, hz]
  · refine ⟨0, a, e, ?_, ?_, ha.1, ha.2⟩
    · rw [if_neg he]
    · rw [stops_yes a e s he]
      rfl
/-- A text. -/
theorem text_same (k : Nat) (s : ByteArray) (a e m : Int) (hs : s.size ≤ 200) (ha : 0 ≤ a ∧ a ≤ (s.size : Int)) (hk : 21 ≤ k) :
    ∃ t a' e', transhumanceref01_Text.f k s a e m = some (t, s, a', e') ∧ wire_Reader_Text.f k a e s m = some (t, a', e', s) ∧ 0 ≤ a' ∧ a' ≤ (s.size : Int) := by
  unfold transhumanceref01_Text.f wire_Reader_Text.f
  unfold transhumanceref01_Number.f
  obtain ⟨k, rfl⟩ : ∃ j, k = j + 1 := ⟨k - 1, by omega⟩
  by_cases he : e = 0
  · subst he
    obtain ⟨x, y, z, hg⟩ : ∃ x y z, getI s a = (x, y, z) := ⟨_, _, _, rfl⟩
    rw [if_pos rfl, rget s a (k + 1) (by omega) (by omega), stops_no, Option.bind_some, Option.bind_some]
    dsimp only
    rw [if_neg (show ¬ (false = true) by decide)]
    unfold wire_Reader_number.f
    rw [get_f s a (by omega), hg, Option.bind_some]
    dsimp only
    by_cases hz : z = 0
    · have hin := get_in_ s a x y z hg hz
      subst hz
      rw [if_pos rfl, if_pos rfl]
      by_cases hm : x > m
      · refine ⟨⟨#[]⟩, a, 11, ?_, ?_, ha.1, ha.2⟩
        · rw [decide_eq_true hm]
          simp [transhumanceref01_Number.j0]
        · rw [if_pos hm]
          simp [wire_Reader_take.f, wire_Reader_Text.j0]
      · have e1 : wrap64 ((s.size : Int) - y) = (s.size : Int) - y := wrap_id (by omega) (by omega)
        rw [decide_eq_false hm, if_neg hm]
        simp only [transhumanceref01_Number.j0]
        rw [if_neg (by decide), if_pos trivial, Option.bind_some, Option.bind_some]
        dsimp only
        rw [if_pos rfl, if_pos rfl, e1]
        by_cases hc : x > (s.size : Int) - y
        · refine ⟨⟨#[]⟩, a, 10, ?_, ?_, ha.1, ha.2⟩
          · rw [if_pos hc]
          · rw [decide_eq_true hc]
            simp [wire_Reader_take.f, wire_Reader_Text.j0]
        · have e2 : wrap64 (y + x) = y + x := wrap_id (by omega) (by omega)
          refine ⟨s.extract y.toNat (y + x).toNat, y + x, 0, ?_, ?_, by omega, by omega⟩
          · rw [if_neg hc, e2, if_pos (by omega), if_pos (by omega), if_pos (by omega)]
          · rw [decide_eq_false hc]
            simp only [wire_Reader_Text.j0, wire_Reader_take.f, e2]
            rw [if_neg (by decide), if_pos trivial, Option.bind_some]
            dsimp only
            rw [if_pos rfl, if_pos (by omega), if_pos (by omega), if_pos (by omega)]
    · refine ⟨⟨#[]⟩, a, z, ?_, ?_, ha.1, ha.2⟩
      · rw [if_neg hz]
        simp [transhumanceref01_Number.j0, hz]
      · simp [wire_Reader_take.f, wire_Reader_Text.j0, hz]
  · refine ⟨⟨#[]⟩, a, e, ?_, ?_, ha.1, ha.2⟩
    · rw [if_neg he, Option.bind_some]
      dsimp only
      rw [if_neg he]
    · rw [stops_yes a e s he]
      rfl
/-- What is told behind each. -/
theorem told (k : Nat) (l : List S49) (i a e : Int) (s : ByteArray) (hs : s.size ≤ 200) (ha : 0 ≤ a ∧ a ≤ (s.size : Int)) :
    wireReads.j2 (k + 1) l i a e s s a e = wireReads.l0 k l (wrap64 (i + 1)) a e s s a e := by
  by_cases he : e = 0
  · subst he
    simp [wireReads.j2, wire_Reader_Error.f, wire_Reader_Left.f, stops_no]
  · simp [wireReads.j2, wire_Reader_Error.f, wire_Reader_Left.f, stops_yes a e s he, he]
theorem all (l : List S49) (s : ByteArray) (hs : s.size ≤ 200) (hl : l.length ≤ 30) : ∀ (j i k : Nat) (a e : Int), i + j = l.length → 2 * j + 30 ≤ k → 0 ≤ a ∧ a ≤ (s.size : Int) →
    wireReads.l0 k l (i : Int) a e s s a e = some true := by
  intro j
  induction j with
  | zero =>
    intro i k a e hi hk ha
    obtain ⟨k, rfl⟩ : ∃ q, k = q + 1 := ⟨k - 1, by omega⟩
    simp only [wireReads.l0]
    rw [if_neg (by omega)]
    rfl
  | succ j ih =>
    intro i k a e hi hk ha
    obtain ⟨k, rfl⟩ : ∃ q, k = q + 1 + 1 := ⟨k - 2, by omega⟩
    have e1 : wrap64 ((i : Int) + 1) = ((i + 1 : Nat) : Int) := by rw [wrap_id (by omega) (by omega)]; omega
    simp only [wireReads.l0]
    rw [if_pos (by omega), if_pos (by omega)]
    by_cases h0 : (rd_T49 l (i : Int)).f0 = 0
    · obtain ⟨n, a', e', h1, h2, h3, h4, _⟩ := number_same (k + 1) s a e (rd_T49 l (i : Int)).f1 hs ha (by omega)
      rw [if_pos h0, h1, Option.bind_some, h2, Option.bind_some]
      dsimp only
      rw [if_pos rfl, told k l i a' e' s hs ⟨h3, h4⟩, e1]
      exact ih (i + 1) k a' e' (by omega) (by omega) ⟨h3, h4⟩
    · rw [if_neg h0]
      by_cases h1 : (rd_T49 l (i : Int)).f0 = 1
      · obtain ⟨n, a', e', h1', h2, h3, h4⟩ := fixed_same (k + 1) s a e hs ha (by omega)
        rw [if_pos h1, h1', Option.bind_some, h2, Option.bind_some]
        dsimp only
        rw [if_pos rfl, told k l i a' e' s hs ⟨h3, h4⟩, e1]
        exact ih (i + 1) k a' e' (by omega) (by omega) ⟨h3, h4⟩
      · rw [if_neg h1]
        by_cases h2 : (rd_T49 l (i : Int)).f0 = 2
        · obtain ⟨n, a', e', h1', h2', h3, h4⟩ := text_same (k + 1) s a e (rd_T49 l (i : Int)).f1 hs ha (by omega)
          rw [if_pos h2, h1', Option.bind_some, h2', Option.bind_some]
          dsimp only
          rw [if_pos rfl, told k l i a' e' s hs ⟨h3, h4⟩, e1]
          exact ih (i + 1) k a' e' (by omega) (by omega) ⟨h3, h4⟩
        · rw [if_neg h2, told k l i a e s hs ha, e1]
          exact ih (i + 1) k a e (by omega) (by omega) ha
theorem reads (s : ByteArray) (l : List S49) : ∃ k, wireReads.f k s l = some true := by
  refine ⟨200, ?_⟩
  unfold wireReads.f
  by_cases h : 200 < s.size
  · rw [if_pos (by omega)]
    simp only [wireReads.j0]
    rw [if_pos trivial]
    rfl
  · rw [if_neg (by omega)]
    by_cases hl : 30 < l.length
    · rw [decide_eq_true (by omega)]
      simp only [wireReads.j0]
      rw [if_pos trivial]
      rfl
    · rw [decide_eq_false (by omega)]
      simp only [wireReads.j0]
      rw [if_neg (by decide)]
      unfold wire_New.f
      rw [Option.bind_some]
      exact all l s (by omega) (by omega) l.length 0 199 0 0 (by omega) (by omega) (by omega)
end Go.Proofs.Ytaeocbbapnfcaaa.Pure.Reads
