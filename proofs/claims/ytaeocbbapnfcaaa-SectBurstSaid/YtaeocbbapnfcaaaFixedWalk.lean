/- The walk through wire.PutFixed: a number's four bytes. -/
import Derived.Test.YtaeocbbapnfcaaaProg
import Derived.Test.YtaeocbbapnfcaaaBase
import Derived.Test.YtaeocbbapnfcaaaWWords
import Derived.Test.YtaeocbbapnfcaaaWLast
import Derived.WalkKit
import Derived.KernelRfl
import Derived.Below
import Derived.Deep.LoopGhost
import Derived.Deep.WholeRow
import Derived.Laws.BytesArg
namespace Go.Proofs.Ytaeocbbapnfcaaa.FixedWalk
open Go.RowKit Go.Proofs.YtaeocbbapnfcaaaW.PrintWords Base
set_option linter.unusedVariables false
set_option linter.unusedSimpArgs false

/-- Byte number j. -/
def byt (n j : Nat) : Nat := n / 2 ^ (8 * j) % 256
/-- The array, so many of its bytes laid. -/
def fx (n k : Nat) : Array Value := Array.ofFn (n := 4) fun i => .int .u8 (((if i.val < k then byt n i.val else 0 : Nat)) : Int)
theorem fx_size (n k : Nat) : (fx n k).size = 4 := by simp [fx]
theorem fx_zero (n : Nat) : #[Value.int .u8 0, Value.int .u8 0, Value.int .u8 0, Value.int .u8 0] = fx n 0 := by
  apply Array.ext
  · simp [fx]
  · intro i h1 h2
    have : i < 4 := by simpa using h1
    rcases i with _ | _ | _ | _ | i
    · simp [fx]
    · simp [fx]
    · simp [fx]
    · simp [fx]
    · omega
theorem fx_set (n k : Nat) (h : k < 4) : (fx n k).setIfInBounds k (.int .u8 ((byt n k : Nat) : Int)) = fx n (k + 1) := by
  apply Array.ext
  · simp [fx]
  · intro i h1 h2
    simp only [fx, Array.size_setIfInBounds, Array.size_ofFn] at h1
    rw [Array.getElem_setIfInBounds (by simpa [fx] using h1)]
    by_cases e : k = i
    · subst e; simp [fx]
    · have : (i < k) = (i < k + 1) := by simp; omega
      simp [fx, e, this]
theorem fx_get (n k i : Nat) (h : i < 4) : (fx n k)[i]? = some (.int .u8 (((if i < k then byt n i else 0 : Nat)) : Int)) := by
  rw [Array.getElem?_eq_getElem (by rw [fx_size]; exact h)]
  simp [fx]
theorem byt_int (n k : Nat) : (((byt n k : Nat)) : Int) = (n : Int) / 2 ^ (8 * k) % 256 := by simp [byt]
attribute [irreducible] fx
theorem conv_fx (n : Nat) (w : World) : (convert 27 9 (.slice (some ⟨w.heap.size, 0, none⟩) 4 4)).run Try.prog (w.alloc (.cells (fx n 4) 79)) = .ok (.string (strOfNums [(byt n 0 : Int), (byt n 1 : Int), (byt n 2 : Int), (byt n 3 : Int)])) (w.alloc (.cells (fx n 4) 79)) := by
  refine run_convert_bytes_arg _ 27 5 Try.underlying27 Try.underlying5 w.heap.size 0 4 4 _ rfl (fun i hi => ?_) 9 Try.underlying9
  have hc : (w.alloc (.cells (fx n 4) 79)).cell? ⟨w.heap.size, 0 + i, none⟩ = (fx n 4)[i]? := by
    rw [Nat.zero_add]
    exact cell_of_row _ _ i _ 79 (0, 0) (heap_alloc_last w _)
  rw [hc, fx_get n 4 i hi, if_pos hi]
  rcases i with _ | _ | _ | _ | i
  · rfl
  · rfl
  · rfl
  · rfl
  · omega

set_option maxHeartbeats 400000 in
set_option maxRecDepth 100000 in
theorem fixed_in (n : Nat) (w : World) (h : n < 4294967296) :
    Calls Try.prog 27 #[.int .i64 (n : Int)] w fun e w' => e = .returned (.string (strOfNums [(byt n 0 : Int), (byt n 1 : Int), (byt n 2 : Int), (byt n 3 : Int)])) ∧ Below w.heap.size w w' := by
  have q0 : 0 ≤ (n : Int) := by omega
  have q1 : (n : Int) ≤ 4294967295 := by omega
  go_enter Try.func27, Try.ntmps27
  go_wp2_with fail
  rw [fx_zero n]
  go_loopg [11] 4 (fun g v11 wx => ∃ k : Nat, k + g = 4 ∧ v11 = .int .i64 (k : Int) ∧ wx = w.alloc (.cells (fx n k) 79))
  case atStart => exact ⟨0, by omega, rfl, rfl⟩
  case round =>
    obtain ⟨k, hk, rfl, rfl⟩ := hrel
    cases gk with
    | zero =>
      obtain rfl : k = 4 := by omega
      clear hk
      have hconv := conv_fx n w
      go_wp2
      go_ret
      exact ⟨rfl, (Below.refl _ _).alloc (Nat.le_refl _) _⟩
    | succ g =>
      have hk4 : k < 4 := by omega
      have hk4' : (k : Int) < 4 := by omega
      obtain ⟨v, hv⟩ : ∃ v, (fx n k)[k]? = some v := ⟨_, fx_get n k k hk4⟩
      have HT := Aside0.mk (fx_set n k hk4)
      have HK := Aside0.mk hk
      clear hk
      go_wp2
      go_roundg g
      case measure => omega
      case rel => exact ⟨k + 1, by have := HK.out; omega, by first | rfl | simp, by rw [← HT.out, byt_int n k]⟩
/-- What PutFixed hands back, whatever it is handed. -/
def putF (a : Int) : ByteArray := if a < 0 then ⟨#[]⟩ else if a > 4294967295 then ⟨#[]⟩ else strOfNums [(byt a.toNat 0 : Int), (byt a.toNat 1 : Int), (byt a.toNat 2 : Int), (byt a.toNat 3 : Int)]
set_option maxHeartbeats 400000 in
theorem fixed_any (a : Int) (w : World) : Calls Try.prog 27 #[.int .i64 a] w fun e w' => e = .returned (.string (putF a)) ∧ Below w.heap.size w w' := by
  by_cases h0 : a < 0
  · rw [putF, if_pos h0]
    go_enter Try.func27, Try.ntmps27
    go_wp2
    go_ret
    exact ⟨rfl, Below.refl _ _⟩
  · by_cases h1 : a > 4294967295
    · rw [putF, if_neg h0, if_pos h1]
      go_enter Try.func27, Try.ntmps27
      go_wp2
      go_ret
      exact ⟨rfl, Below.refl _ _⟩
    · obtain ⟨n, rfl⟩ := Int.eq_ofNat_of_zero_le (show 0 ≤ a by omega)
      rw [putF, if_neg h0, if_neg h1]
      exact fixed_in n w (by omega)
end Go.Proofs.Ytaeocbbapnfcaaa.FixedWalk
