/- The walk through WireNil: a reader that is none tells nothing, and a reader of no bytes keeps its first error. -/
import Derived.Test.YtaeocbbapnfcaaaWireBackWalk
import Derived.Test.YtaeocbbapnfcaaaPWirex2
namespace Go.Proofs.Ytaeocbbapnfcaaa.WireNilWalk
open Go.RowKit Go.Proofs.Ytaeocbbapnfcaaa.PWire Go.Proofs.YtaeocbbapnfcaaaW.PrintWords Go.Proofs.YtaeocbbapnfcaaaW.PrintLast Base PutWalk GetWalk FixedWalk BRow WirePlain WireBackWalk
set_option linter.unusedVariables false
set_option linter.unusedSimpArgs false

theorem stops0 (w : World) : Calls Try.prog 55 #[.pointer none] w fun e w' => e = .returned (.bool true) ∧ Below w.heap.size w w' := by
  have HB := Aside0.mk (Below.refl w.heap.size w)
  go_enter Try.func55, Try.ntmps55
  go_wp2
  go_ret
  exact ⟨rfl, HB.out⟩
theorem error0 (w : World) : Calls Try.prog 34 #[.pointer none] w fun e w' => e = .returned (.tuple #[.int .i64 1, .int .i64 0]) ∧ Below w.heap.size w w' := by
  have HB := Aside0.mk (Below.refl w.heap.size w)
  go_enter Try.func34, Try.ntmps34
  go_wp2
  go_ret2
  exact ⟨rfl, HB.out⟩
theorem number0 (n : Int) (w : World) : Calls Try.prog 33 #[.pointer none, .int .i64 n] w fun e w' => e = .returned (.int .i64 0) ∧ Below w.heap.size w w' := by
  have HB := Aside0.mk (Below.refl w.heap.size w)
  go_enter Try.func33, Try.ntmps33
  go_wp2_with (go_at_call 55; (with_reducible refine (stops0 _).mono ?_); rintro e w1 ⟨rfl, hb⟩; have n0 := Aside0.mk (below_then HB.out HB.out.size hb); clear HB hb; have HB := n0; clear n0)
  go_ret
  exact ⟨rfl, HB.out⟩
theorem text0 (n : Int) (w : World) : Calls Try.prog 32 #[.pointer none, .int .i64 n] w fun e w' => e = .returned (.string ⟨#[]⟩) ∧ Below w.heap.size w w' := by
  have HB := Aside0.mk (Below.refl w.heap.size w)
  go_enter Try.func32, Try.ntmps32
  go_wp2_with (go_at_call 55; (with_reducible refine (stops0 _).mono ?_); rintro e w1 ⟨rfl, hb⟩; have n0 := Aside0.mk (below_then HB.out HB.out.size hb); clear HB hb; have HB := n0; clear n0)
  go_ret
  exact ⟨rfl, HB.out⟩
theorem left0 (w : World) : Calls Try.prog 35 #[.pointer none] w fun e w' => e = .returned (.int .i64 0) ∧ Below w.heap.size w w' := by
  have HB := Aside0.mk (Below.refl w.heap.size w)
  go_enter Try.func35, Try.ntmps35
  go_wp2_with (go_at_call 55; (with_reducible refine (stops0 _).mono ?_); rintro e w1 ⟨rfl, hb⟩; have n0 := Aside0.mk (below_then HB.out HB.out.size hb); clear HB hb; have HB := n0; clear n0)
  go_ret
  exact ⟨rfl, HB.out⟩
theorem four0 (w : World) : Calls Try.prog 38 #[.pointer none] w fun e w' => e = .returned (.int .i64 0) ∧ Below w.heap.size w w' := by
  have HB := Aside0.mk (Below.refl w.heap.size w)
  go_enter Try.func38, Try.ntmps38
  go_wp2_with (go_at_call 55; (with_reducible refine (stops0 _).mono ?_); rintro e w1 ⟨rfl, hb⟩; have n0 := Aside0.mk (below_then HB.out HB.out.size hb); clear HB hb; have HB := n0; clear n0)
  go_ret
  exact ⟨rfl, HB.out⟩
theorem fourS (g : Nat) (a e : Int) (t : ByteArray) (w0 w : World) (hI : IsS83 w0 w g a e t) (hB : Below w0.heap.size w0 w) (he : e ≠ 0) :
    Calls Try.prog 38 #[.pointer (some ⟨g, 0, none⟩)] w fun e1 w' => e1 = .returned (.int .i64 0) ∧ IsS83 w0 w' g a e t ∧ Below w0.heap.size w0 w' := by
  have HI := Aside0.mk hI
  have HB := Aside0.mk hB
  have h : wire_Reader_stops.f a e t = some (true, a, e, t) := by simp [wire_Reader_stops.f, he]
  have HS := Aside0.mk h
  clear hI hB h
  go_enter Try.func38, Try.ntmps38
  go_wp2_with (go_at_call 55; (with_reducible refine (wire_Reader_stops.calls g a e t true a e t w0 _ HI.out HB.out HS.out).mono ?_); rintro e1 w1 ⟨rfl, hi, hb, _⟩; have m0 := Aside0.mk hi; have n0 := Aside0.mk hb; clear HI HB hi hb; have HI := m0; have HB := n0; clear m0 n0)
  go_ret
  exact ⟨rfl, HI.out, HB.out⟩
theorem none_f (n : Int) : wire_Reader_Number.f 0 0 ⟨#[]⟩ n = some (0, 0, 10, ⟨#[]⟩) := by
  have e : wire_Get.f ⟨#[]⟩ 0 = some (0, 0, 10) := by
    have : getI ⟨#[]⟩ 0 = (0, 0, 10) := by decide +kernel
    unfold wire_Get.f
    rw [this]
    exact if_pos (by decide)
  simp [wire_Reader_Number.f, wire_Reader_stops.f, wire_Reader_number.f, wire_Reader_take.f, e]
theorem text_f (n : Int) : wire_Reader_Text.f 1 0 10 ⟨#[]⟩ n = some (⟨#[]⟩, 0, 10, ⟨#[]⟩) := by
  simp [wire_Reader_Text.f, wire_Reader_stops.f]
theorem error_f : wire_Reader_Error.f 0 10 ⟨#[]⟩ = some (10, 0, 0, 10, ⟨#[]⟩) := by
  simp [wire_Reader_Error.f]

set_option maxHeartbeats 4000000 in
set_option maxRecDepth 100000 in
theorem nil_any (n : Int) (w : World) : Calls Try.prog 13 #[.int .i64 n] w fun e w' => e = .returned (.bool true) ∧ Below w.heap.size w w' := by
  have HB := Aside0.mk (Below.refl w.heap.size w)
  have s4 : (⟨#[]⟩ : ByteArray).toList.isEmpty = true := by decide +kernel
  go_enter Try.func13, Try.ntmps13
  go_wp2_with (first
    | (go_at_call 25; (with_reducible refine (fixed1 _).mono ?_); rintro e w1 ⟨rfl, hb⟩; have n0 := Aside0.mk (below_then HB.out HB.out.size hb); clear HB hb; have HB := n0; clear n0)
    | (go_at_call 34; (with_reducible refine (error0 _).mono ?_); rintro e w1 ⟨rfl, hb⟩; have n0 := Aside0.mk (below_then HB.out HB.out.size hb); clear HB hb; have HB := n0; clear n0)
    | (go_at_call 31; (with_reducible refine (wire_New.calls ⟨#[]⟩ 0 0 ⟨#[]⟩ w _ HB.out rfl).mono ?_); rintro e w1 ⟨g, rfl, hi, hb, _⟩; have m0 := Aside0.mk hi; have n0 := Aside0.mk hb; clear HB hi hb; have HI := m0; have HB := n0; clear m0 n0)
    | (go_at_call 33; (with_reducible refine (wire_Reader_Number.calls _ 0 0 ⟨#[]⟩ n 0 0 10 ⟨#[]⟩ w _ HI.out HB.out (none_f n)).mono ?_); rintro e w1 ⟨rfl, hi, hb, _⟩; have m0 := Aside0.mk hi; have n0 := Aside0.mk hb; clear HI HB hi hb; have HI := m0; have HB := n0; clear m0 n0)
    | (go_at_call 38; (with_reducible refine (fourS _ 0 10 ⟨#[]⟩ w _ HI.out HB.out (by decide)).mono ?_); rintro e w1 ⟨rfl, hi, hb⟩; have m0 := Aside0.mk hi; have n0 := Aside0.mk hb; clear HI HB hi hb; have HI := m0; have HB := n0; clear m0 n0)
    | (go_at_call 32; (with_reducible refine (wire_Reader_Text.calls 1 _ 0 10 ⟨#[]⟩ n ⟨#[]⟩ 0 10 ⟨#[]⟩ w _ HI.out HB.out (text_f n)).mono ?_); rintro e w1 ⟨rfl, hi, hb, _⟩; have m0 := Aside0.mk hi; have n0 := Aside0.mk hb; clear HI HB hi hb; have HI := m0; have HB := n0; clear m0 n0)
    | (go_at_call 34; (with_reducible refine (wire_Reader_Error.calls _ 0 10 ⟨#[]⟩ 10 0 0 10 ⟨#[]⟩ w _ HI.out HB.out error_f).mono ?_); rintro e w1 ⟨rfl, hi, hb, _⟩; have m0 := Aside0.mk hi; have n0 := Aside0.mk hb; clear HI HB hi hb; have HI := m0; have HB := n0; clear m0 n0)
    | (go_at_call 33; (with_reducible refine (number0 _ _).mono ?_); rintro e w1 ⟨rfl, hb⟩; have n0 := Aside0.mk (below_then HB.out HB.out.size hb); clear HB hb; have HB := n0; clear n0)
    | (go_at_call 32; (with_reducible refine (text0 _ _).mono ?_); rintro e w1 ⟨rfl, hb⟩; have n0 := Aside0.mk (below_then HB.out HB.out.size hb); clear HB hb; have HB := n0; clear n0)
    | (go_at_call 35; (with_reducible refine (left0 _).mono ?_); rintro e w1 ⟨rfl, hb⟩; have n0 := Aside0.mk (below_then HB.out HB.out.size hb); clear HB hb; have HB := n0; clear n0)
    | (go_at_call 38; (with_reducible refine (four0 _).mono ?_); rintro e w1 ⟨rfl, hb⟩; have n0 := Aside0.mk (below_then HB.out HB.out.size hb); clear HB hb; have HB := n0; clear n0))
  go_ret
  exact ⟨rfl, HB.out⟩
end Go.Proofs.Ytaeocbbapnfcaaa.WireNilWalk
