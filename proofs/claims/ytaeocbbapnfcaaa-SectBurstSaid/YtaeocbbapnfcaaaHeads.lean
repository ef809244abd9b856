/- Closed facts on the head of the program's form: that a call may begin there, that nothing was lifted, how it was made. -/
import Derived.Test.YtaeocbbapnfcaaaRows
import Derived.KernelRfl
import Derived.JoinedOf
namespace Go.Proofs.Ytaeocbbapnfcaaa.Heads
/-- Signs, by their numbers. -/
def sg (l : List Nat) : List Char := l.map Char.ofNat
def w0 : List Nat := [104, 97, 114, 110, 101, 115, 115]
def w1 : List Nat := [48, 52, 100, 57, 97, 98, 99, 57, 98, 97, 101, 50, 52, 55, 50, 53, 57, 56, 100, 57, 97, 50, 97, 98, 97, 97, 54, 57, 55, 52, 57, 55, 50, 99, 56, 49, 57, 101, 101, 52, 55, 56, 48, 97, 52, 98, 56, 53, 54, 57, 56, 102, 102, 57, 50, 49, 51, 53, 48, 102, 51, 56, 99, 97]
def w2 : List Nat := [99, 117, 116]
def rest : List Nat := [97, 116, 32, 116, 114, 97, 110, 115, 104, 117, 109, 97, 110, 99, 101, 47, 116, 114, 97, 110, 115, 104, 117, 109, 97, 110, 99, 101, 108, 97, 119, 48, 50, 46, 67, 114, 99, 84, 101, 108, 108, 115, 32, 116, 114, 97, 110, 115, 104, 117, 109, 97, 110, 99, 101, 47, 116, 114, 97, 110, 115, 104, 117, 109, 97, 110, 99, 101, 108, 97, 119, 48, 50, 46, 67, 114, 99, 80, 97, 114, 116, 115, 32, 116, 114, 97, 110, 115, 104, 117, 109, 97, 110, 99, 101, 47, 116, 114, 97, 110, 115, 104, 117, 109, 97, 110, 99, 101, 108, 97, 119, 48, 50, 46, 67, 114, 99, 66, 117, 114, 115, 116, 32, 116, 114, 97, 110, 115, 104, 117, 109, 97, 110, 99, 101, 47, 116, 114, 97, 110, 115, 104, 117, 109, 97, 110, 99, 101, 108, 97, 119, 48, 50, 46, 67, 114, 99, 65, 108, 111, 110, 101, 32, 116, 114, 97, 110, 115, 104, 117, 109, 97, 110, 99, 101, 47, 116, 114, 97, 110, 115, 104, 117, 109, 97, 110, 99, 101, 108, 97, 119, 48, 50, 46, 67, 114, 99, 65, 112, 97, 114, 116, 32, 116, 114, 97, 110, 115, 104, 117, 109, 97, 110, 99, 101, 47, 116, 114, 97, 110, 115, 104, 117, 109, 97, 110, 99, 101, 108, 97, 119, 48, 50, 46, 67, 114, 99, 66, 121, 116, 101, 115, 32, 116, 114, 97, 110, 115, 104, 117, 109, 97, 110, 99, 101, 47, 116, 114, 97, 110, 115, 104, 117, 109, 97, 110, 99, 101, 108, 97, 119, 48, 49, 46, 87, 105, 114, 101, 66, 97, 99, 107, 32, 116, 114, 97, 110, 115, 104, 117, 109, 97, 110, 99, 101, 47, 116, 114, 97, 110, 115, 104, 117, 109, 97, 110, 99, 101, 108, 97, 119, 48, 49, 46, 87, 105, 114, 101, 79, 114, 100, 101, 114, 32, 116, 114, 97, 110, 115, 104, 117, 109, 97, 110, 99, 101, 47, 116, 114, 97, 110, 115, 104, 117, 109, 97, 110, 99, 101, 108, 97, 119, 48, 49, 46, 87, 105, 114, 101, 84, 101, 120, 116, 115, 32, 116, 114, 97, 110, 115, 104, 117, 109, 97, 110, 99, 101, 47, 116, 114, 97, 110, 115, 104, 117, 109, 97, 110, 99, 101, 108, 97, 119, 48, 49, 46, 87, 105, 114, 101, 82, 101, 97, 100, 115, 32, 116, 114, 97, 110, 115, 104, 117, 109, 97, 110, 99, 101, 47, 116, 114, 97, 110, 115, 104, 117, 109, 97, 110, 99, 101, 108, 97, 119, 48, 49, 46, 87, 105, 114, 101, 78, 105, 108, 32, 116, 114, 97, 110, 115, 104, 117, 109, 97, 110, 99, 101, 47, 116, 114, 97, 110, 115, 104, 117, 109, 97, 110, 99, 101, 108, 97, 119, 48, 51, 46, 83, 101, 99, 116, 84, 101, 108, 108, 115, 32, 116, 114, 97, 110, 115, 104, 117, 109, 97, 110, 99, 101, 47, 116, 114, 97, 110, 115, 104, 117, 109, 97, 110, 99, 101, 108, 97, 119, 48, 51, 46, 83, 101, 99, 116, 66, 97, 99, 107, 32, 116, 114, 97, 110, 115, 104, 117, 109, 97, 110, 99, 101, 47, 116, 114, 97, 110, 115, 104, 117, 109, 97, 110, 99, 101, 108, 97, 119, 48, 51, 46, 83, 101, 99, 116, 66, 117, 114, 115, 116, 32, 116, 114, 97, 110, 115, 104, 117, 109, 97, 110, 99, 101, 47, 116, 114, 97, 110, 115, 104, 117, 109, 97, 110, 99, 101, 108, 97, 119, 48, 51, 46, 83, 101, 99, 116, 67, 117, 116, 32, 116, 114, 97, 110, 115, 104, 117, 109, 97, 110, 99, 101, 47, 116, 114, 97, 110, 115, 104, 117, 109, 97, 110, 99, 101, 108, 97, 119, 48, 51, 46, 83, 101, 99, 116, 66, 111, 116, 104, 32, 116, 114, 97, 110, 115, 104, 117, 109, 97, 110, 99, 101, 47, 116, 114, 97, 110, 115, 104, 117, 109, 97, 110, 99, 101, 108, 97, 119, 48, 51, 46, 83, 101, 99, 116, 69, 97, 99, 104]
theorem io : Try.pinned.checked.prog.initOrder = String.ofList (sg (w0 ++ 32 :: (w1 ++ 32 :: (w2 ++ 32 :: rest)))) := by kernel_rfl
theorem signs : Try.pinned.checked.prog.initOrder.toList = sg w0 ++ Char.ofNat 32 :: (sg w1 ++ Char.ofNat 32 :: (sg w2 ++ Char.ofNat 32 :: sg rest)) := by
  rw [io, String.toList_ofList]
  simp only [sg, List.map_append, List.map_cons]
theorem words_word (r : List Char) : ∀ w : List Char, w.all (fun c => decide (c ≠ Char.ofNat 32)) = true → wordsSigns (w ++ Char.ofNat 32 :: r) = w :: wordsSigns r
  | [], _ => rfl
  | c :: w, h => by
    simp only [List.all_cons, Bool.and_eq_true, decide_eq_true_eq] at h
    have ih := words_word r w h.2
    rw [List.cons_append, wordsSigns]
    · rw [ih]
    · exact fun e => h.1 e
theorem words : ∃ X, wordsSigns Try.pinned.checked.prog.initOrder.toList = sg w0 :: sg w1 :: sg w2 :: X := by
  rw [signs, words_word _ _ (by decide +kernel), words_word _ _ (by decide +kernel), words_word _ _ (by decide +kernel)]
  exact ⟨_, rfl⟩
theorem behind : ∃ X, behindMainWord (wordsSigns Try.pinned.checked.prog.initOrder.toList) = "cut".toList :: X := by
  obtain ⟨X, h⟩ := words
  rw [h]
  exact ⟨X, by kernel_rfl⟩
theorem strip (X : List (List Char)) : stripLifts liftWords ("cut".toList :: X) = ([], "cut".toList :: X) := by kernel_rfl
/- Of any program: else the kernel looks into this one. -/
theorem mayEnter_any (P : Program) (X : List (List Char)) (h : behindMainWord (wordsSigns P.initOrder.toList) = "cut".toList :: X) (h1 : P.laysLater = false) (h2 : P.bearsReflect = false) (h3 : P.doorFits [] = true) : P.mayEnter = true := by
  unfold Program.mayEnter
  rw [h, h1, h2]
  simp only [strip, h3]
  refine Eq.trans (b := true) ?_ rfl
  kernel_rfl
theorem lifts_any (P : Program) (X : List (List Char)) (h : behindMainWord (wordsSigns P.initOrder.toList) = "cut".toList :: X) : P.headLifts = [] := by
  unfold Program.headLifts
  rw [h, strip]
  kernel_rfl
theorem lifted_any (P : Program) (X : List (List Char)) (h : behindMainWord (wordsSigns P.initOrder.toList) = "cut".toList :: X) : P.liftsFinal = false := by
  unfold Program.liftsFinal
  rw [h, lifts_any P X h]
  kernel_rfl
theorem make_any (P : Program) (X : List (List Char)) (h : behindMainWord (wordsSigns P.initOrder.toList) = "cut".toList :: X) : P.make = some .cut := by
  unfold Program.make
  rw [h]
  kernel_rfl
theorem laysLater : Try.pinned.checked.prog.laysLater = false := by kernel_rfl
theorem bearsReflect : Try.pinned.checked.prog.bearsReflect = false := by kernel_rfl
theorem doorFits : Try.pinned.checked.prog.doorFits [] = true := by kernel_rfl
theorem mayEnter : Try.pinned.checked.prog.mayEnter = true := by
  obtain ⟨X, h⟩ := behind
  exact mayEnter_any _ X h laysLater bearsReflect doorFits
theorem lifted : Try.pinned.checked.prog.liftsFinal = false := by
  obtain ⟨X, h⟩ := behind
  exact lifted_any _ X h
theorem make : Try.pinned.checked.prog.make = some .cut := by
  obtain ⟨X, h⟩ := behind
  exact make_any _ X h
end Go.Proofs.Ytaeocbbapnfcaaa.Heads
