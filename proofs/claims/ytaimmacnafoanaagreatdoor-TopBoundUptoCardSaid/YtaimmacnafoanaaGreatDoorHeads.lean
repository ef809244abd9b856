/- Closed facts on the head of the program's form: that a call may begin there, that nothing was lifted, how it was made. -/
import Derived.Test.YtaimmacnafoanaaGreatDoorRows
import Derived.KernelRfl
import Derived.JoinedOf
namespace Go.Proofs.YtaimmacnafoanaaGreatDoor.Heads
/-- Signs, by their numbers. -/
def sg (l : List Nat) : List Char := l.map Char.ofNat
def w0 : List Nat := [104, 97, 114, 110, 101, 115, 115]
def w1 : List Nat := [53, 102, 100, 56, 48, 99, 57, 48, 57, 55, 57, 53, 56, 99, 54, 97, 101, 51, 52, 102, 102, 50, 97, 50, 98, 49, 101, 98, 99, 99, 54, 52, 99, 100, 56, 101, 56, 51, 55, 48, 53, 100, 101, 50, 97, 56, 56, 57, 51, 49, 54, 53, 48, 50, 52, 51, 52, 97, 102, 50, 98, 54, 57, 51]
def w2 : List Nat := [99, 117, 116]
def rest : List Nat := [97, 116, 32, 116, 114, 97, 110, 115, 104, 117, 109, 97, 110, 99, 101, 47, 116, 114, 97, 110, 115, 104, 117, 109, 97, 110, 99, 101, 116, 111, 112, 46, 84, 111, 112, 66, 117, 114, 115, 116, 32, 116, 114, 97, 110, 115, 104, 117, 109, 97, 110, 99, 101, 47, 116, 114, 97, 110, 115, 104, 117, 109, 97, 110, 99, 101, 116, 111, 112, 46, 84, 111, 112, 66, 111, 117, 110, 100, 32, 116, 114, 97, 110, 115, 104, 117, 109, 97, 110, 99, 101, 47, 116, 114, 97, 110, 115, 104, 117, 109, 97, 110, 99, 101, 116, 111, 112, 46, 84, 111, 112, 67, 111, 117, 110, 116, 115, 32, 116, 114, 97, 110, 115, 104, 117, 109, 97, 110, 99, 101, 47, 116, 114, 97, 110, 115, 104, 117, 109, 97, 110, 99, 101, 116, 111, 112, 46, 84, 111, 112, 83, 110, 97, 112]
theorem io : Tryz.pinned.checked.prog.initOrder = String.ofList (sg (w0 ++ 32 :: (w1 ++ 32 :: (w2 ++ 32 :: rest)))) := by kernel_rfl
theorem signs : Tryz.pinned.checked.prog.initOrder.toList = sg w0 ++ Char.ofNat 32 :: (sg w1 ++ Char.ofNat 32 :: (sg w2 ++ Char.ofNat 32 :: sg rest)) := by
  rw [io, String.toList_ofList]
  simp only [sg, List.map_append, List.map_cons]
theorem words_word (r : List Char) : ∀ w : List Char, w.all (fun c => decide (c ≠ Char.ofNat 32)) = true → wordsSigns (w ++ Char.ofNat 32 :: r) = w :: wordsSigns r
  | [], _ => rfl
  | c :: w, h => by
    simp only [List.all_cons, Bool.and_eq_true, decide_eq_true_eq] at h
    have ih := words_word r w h.2
    rw [List.cons_append, wordsSigns]
    · rw [ih]
    · exact fun e => h.1 e
theorem words : ∃ X, wordsSigns Tryz.pinned.checked.prog.initOrder.toList = sg w0 :: sg w1 :: sg w2 :: X := by
  rw [signs, words_word _ _ (by decide +kernel), words_word _ _ (by decide +kernel), words_word _ _ (by decide +kernel)]
  exact ⟨_, rfl⟩
theorem behind : ∃ X, behindMainWord (wordsSigns Tryz.pinned.checked.prog.initOrder.toList) = "cut".toList :: X := by
  obtain ⟨X, h⟩ := words
  rw [h]
  exact ⟨X, by kernel_rfl⟩
theorem strip (X : List (List Char)) : stripLifts liftWords ("cut".toList :: X) = ([], "cut".toList :: X) := by kernel_rfl
/- Of any program: else the kernel looks into this one. -/
theorem mayEnter_any (P : Program) (X : List (List Char)) (h : behindMainWord (wordsSigns P.initOrder.toList) = "cut".toList :: X) (h1 : P.laysLater = false) (h2 : P.bearsReflect = false) (h3 : P.doorFits [] = true) : P.mayEnter = true := by
  unfold Program.mayEnter
  rw [h, h1, h2]
  simp only [strip, h3]
  refine Eq.trans (b := true) ?_ rfl
  kernel_rfl
theorem lifts_any (P : Program) (X : List (List Char)) (h : behindMainWord (wordsSigns P.initOrder.toList) = "cut".toList :: X) : P.headLifts = [] := by
  unfold Program.headLifts
  rw [h, strip]
  kernel_rfl
theorem lifted_any (P : Program) (X : List (List Char)) (h : behindMainWord (wordsSigns P.initOrder.toList) = "cut".toList :: X) : P.liftsFinal = false := by
  unfold Program.liftsFinal
  rw [h, lifts_any P X h]
  kernel_rfl
theorem make_any (P : Program) (X : List (List Char)) (h : behindMainWord (wordsSigns P.initOrder.toList) = "cut".toList :: X) : P.make = some .cut := by
  unfold Program.make
  rw [h]
  kernel_rfl
theorem laysLater : Tryz.pinned.checked.prog.laysLater = false := by kernel_rfl
theorem bearsReflect : Tryz.pinned.checked.prog.bearsReflect = false := by kernel_rfl
theorem doorFits : Tryz.pinned.checked.prog.doorFits [] = true := by kernel_rfl
theorem mayEnter : Tryz.pinned.checked.prog.mayEnter = true := by
  obtain ⟨X, h⟩ := behind
  exact mayEnter_any _ X h laysLater bearsReflect doorFits
theorem lifted : Tryz.pinned.checked.prog.liftsFinal = false := by
  obtain ⟨X, h⟩ := behind
  exact lifted_any _ X h
theorem make : Tryz.pinned.checked.prog.make = some .cut := by
  obtain ⟨X, h⟩ := behind
  exact make_any _ X h
end Go.Proofs.YtaimmacnafoanaaGreatDoor.Heads
