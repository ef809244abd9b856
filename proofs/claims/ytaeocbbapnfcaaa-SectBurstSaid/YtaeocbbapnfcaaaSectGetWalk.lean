/- The walk through sect.Get: what is told at the label. The walk through sect.Get: the ways ahead of a number's end. The walk through sect.Get: the ways of a length that is too great. The walk through sect.Get: the ways of a sum that is none, or another. The walk through sect.Get: the way of a section. -/
import Derived.Test.YtaeocbbapnfcaaaSectOnes
import Derived.RegionTactic
import Derived.ChangeAlike
import Derived.BigRegion
import Derived.ScopeJumps
import Derived.Deep.QuietTactic
import Derived.BigQuiet
import Derived.IntWalk
namespace Go.Proofs.Ytaeocbbapnfcaaa.SectGetWalk
open Go.RowKit Go.Proofs.Ytaeocbbapnfcaaa.PWire Go.Proofs.YtaeocbbapnfcaaaW.PrintWords Go.Proofs.YtaeocbbapnfcaaaW.PrintLast Base PutWalk GetWalk FixedWalk BRow WirePlain SectOnes
set_option linter.unusedVariables false
set_option linter.unusedSimpArgs false

/-- The frame at the label, with what has happened. -/
def AtLabel (s : ByteArray) (a e : Int) (w : World) (a' : Act) (w' : World) : Prop := ∃ (u2 u3 u9 u10 u11 u12 u13 u14 u15 u16 u17 u18 u19 u20 u21 u22 u23 u24 u25 u26 u27 u28 u29 u30 u31 u32 u33 u34 u35 u36 u37 u38 u39 u40 u41 u42 u43 u44 u45 u46 u47 u48 u49 u50 u51 u52 u53 u54 u55 u56 u57 u58 u59 u60 u61 u62 u63 u64 u65 u66 u67 u68 u69 u70 u71 u72 u73 u74 u75 u76 u77 u78 u79 u80 : Value), a' = { tmps := List.toArray (.string s :: .int .i64 a :: u2 :: u3 :: .int .i64 0 :: .string ⟨#[]⟩ :: .int .i64 0 :: .int .i64 0 :: .int .i64 e :: u9 :: u10 :: u11 :: u12 :: u13 :: u14 :: u15 :: u16 :: u17 :: u18 :: u19 :: u20 :: u21 :: u22 :: u23 :: u24 :: u25 :: u26 :: u27 :: u28 :: u29 :: u30 :: u31 :: u32 :: u33 :: u34 :: u35 :: u36 :: u37 :: u38 :: u39 :: u40 :: u41 :: u42 :: u43 :: u44 :: u45 :: u46 :: u47 :: u48 :: u49 :: u50 :: u51 :: u52 :: u53 :: u54 :: u55 :: u56 :: u57 :: u58 :: u59 :: u60 :: u61 :: u62 :: u63 :: u64 :: u65 :: u66 :: u67 :: u68 :: u69 :: u70 :: u71 :: u72 :: u73 :: u74 :: u75 :: u76 :: u77 :: u78 :: u79 :: u80 :: []), defers := [] } ∧ Aside0 (Below w.heap.size w w')
/-- What a call of Get tells. -/
def Tells (s : ByteArray) (a : Int) (w : World) (t : Int) (p : ByteArray) (n e : Int) : Prop := Calls Try.prog 42 #[.string s, .int .i64 a] w fun x w' => x = .returned (.tuple #[.int .i64 t, .string p, .int .i64 n, .int .i64 e]) ∧ Below w.heap.size w w'
theorem slice_fact (s : ByteArray) (x n : Int) (i2 : 0 ≤ x) (i1 : 0 ≤ n) (i4 : x + n ≤ (s.size : Int)) (wx : World) : (Instr.slice 9 (.string s) (some (.int .i64 x)) (some (.int .i64 (x + n))) none).run Try.prog wx = .ok (.string (s.extract x.toNat (x + n).toNat)) wx :=
  run_slice_string (P := Try.prog) wx 9 s .i64 .i64 x (x + n) Try.underlying9 i2 (by omega) i4

end Go.Proofs.Ytaeocbbapnfcaaa.SectGetWalk
namespace Go.Proofs.Ytaeocbbapnfcaaa.SectGetWalk
open Go.RowKit Go.Proofs.Ytaeocbbapnfcaaa.PWire Go.Proofs.YtaeocbbapnfcaaaW.PrintWords Go.Proofs.YtaeocbbapnfcaaaW.PrintLast Base PutWalk GetWalk FixedWalk BRow WirePlain SectOnes
set_option linter.unusedVariables false
set_option linter.unusedSimpArgs false

set_option maxHeartbeats 3200000 in
set_option maxRecDepth 100000 in
theorem get_low (s : ByteArray) (a : Int) (w : World) (hs : s.size ≤ 140737488351230) (h : a < 0) : Tells s a w 0 ⟨#[]⟩ a 1 := by
  have HB := Aside0.mk (Below.refl w.heap.size w)
  have HS := Aside0.mk (show s.size ≤ 140737488351232 by omega)
  have g1 : decide (a < 0) = true := decide_eq_true h
  clear h
  unfold Tells
  go_enter Try.func42, Try.ntmps42
  go_wp2
  refine wp_scope_jumps 0 (AtLabel s a 1 w) (fun _ _ => 0) rfl ?_ ?_
  · go_wp2_with fail
    go_step3
    exact ⟨rfl, _, _, _, _, _, _, _, _, _, _, _, _, _, _, _, _, _, _, _, _, _, _, _, _, _, _, _, _, _, _, _, _, _, _, _, _, _, _, _, _, _, _, _, _, _, _, _, _, _, _, _, _, _, _, _, _, _, _, _, _, _, _, _, _, _, _, _, _, _, _, _, _, _, _, rfl, HB⟩
  · rintro a' w' ⟨u2, u3, u9, u10, u11, u12, u13, u14, u15, u16, u17, u18, u19, u20, u21, u22, u23, u24, u25, u26, u27, u28, u29, u30, u31, u32, u33, u34, u35, u36, u37, u38, u39, u40, u41, u42, u43, u44, u45, u46, u47, u48, u49, u50, u51, u52, u53, u54, u55, u56, u57, u58, u59, u60, u61, u62, u63, u64, u65, u66, u67, u68, u69, u70, u71, u72, u73, u74, u75, u76, u77, u78, u79, u80, rfl, HQ⟩
    go_wp2
    simp only [Exit.jump]
    refine bodyPost_ret (results_list (rs := [.tmp 4, .tmp 5, .tmp 6, .tmp 7]) rfl (by simp) (.tmp (.tmp (.tmp (.tmp .nil))))) rfl ?_
    exact ⟨rfl, HQ.out⟩

set_option maxHeartbeats 3200000 in
set_option maxRecDepth 100000 in
theorem get_high (s : ByteArray) (a : Int) (w : World) (hs : s.size ≤ 140737488351230) (h : (s.size : Int) < a) : Tells s a w 0 ⟨#[]⟩ a 1 := by
  have HB := Aside0.mk (Below.refl w.heap.size w)
  have HS := Aside0.mk (show s.size ≤ 140737488351232 by omega)
  have g1 : decide (a < 0) = false := decide_eq_false (by omega)
  have g2 : decide ((s.size : Int) < a) = true := decide_eq_true h
  clear h
  unfold Tells
  go_enter Try.func42, Try.ntmps42
  go_wp2
  refine wp_scope_jumps 0 (AtLabel s a 1 w) (fun _ _ => 0) rfl ?_ ?_
  · go_wp2_with fail
    go_step3
    exact ⟨rfl, _, _, _, _, _, _, _, _, _, _, _, _, _, _, _, _, _, _, _, _, _, _, _, _, _, _, _, _, _, _, _, _, _, _, _, _, _, _, _, _, _, _, _, _, _, _, _, _, _, _, _, _, _, _, _, _, _, _, _, _, _, _, _, _, _, _, _, _, _, _, _, _, _, _, rfl, HB⟩
  · rintro a' w' ⟨u2, u3, u9, u10, u11, u12, u13, u14, u15, u16, u17, u18, u19, u20, u21, u22, u23, u24, u25, u26, u27, u28, u29, u30, u31, u32, u33, u34, u35, u36, u37, u38, u39, u40, u41, u42, u43, u44, u45, u46, u47, u48, u49, u50, u51, u52, u53, u54, u55, u56, u57, u58, u59, u60, u61, u62, u63, u64, u65, u66, u67, u68, u69, u70, u71, u72, u73, u74, u75, u76, u77, u78, u79, u80, rfl, HQ⟩
    go_wp2
    simp only [Exit.jump]
    refine bodyPost_ret (results_list (rs := [.tmp 4, .tmp 5, .tmp 6, .tmp 7]) rfl (by simp) (.tmp (.tmp (.tmp (.tmp .nil))))) rfl ?_
    exact ⟨rfl, HQ.out⟩

set_option maxHeartbeats 3200000 in
set_option maxRecDepth 100000 in
theorem get_end (s : ByteArray) (a : Int) (w : World) (hs : s.size ≤ 140737488351230) (h : a = (s.size : Int)) : Tells s a w 0 ⟨#[]⟩ a 10 := by
  have HB := Aside0.mk (Below.refl w.heap.size w)
  have HS := Aside0.mk (show s.size ≤ 140737488351232 by omega)
  have g1 : decide (a < 0) = false := decide_eq_false (by omega)
  have g2 : decide ((s.size : Int) < a) = false := decide_eq_false (by omega)
  have g3 : (a == (s.size : Int)) = true := by simpa using h
  clear h
  unfold Tells
  go_enter Try.func42, Try.ntmps42
  go_wp2
  refine wp_scope_jumps 0 (AtLabel s a 10 w) (fun _ _ => 0) rfl ?_ ?_
  · go_wp2_with fail
    go_step3
    exact ⟨rfl, _, _, _, _, _, _, _, _, _, _, _, _, _, _, _, _, _, _, _, _, _, _, _, _, _, _, _, _, _, _, _, _, _, _, _, _, _, _, _, _, _, _, _, _, _, _, _, _, _, _, _, _, _, _, _, _, _, _, _, _, _, _, _, _, _, _, _, _, _, _, _, _, _, _, rfl, HB⟩
  · rintro a' w' ⟨u2, u3, u9, u10, u11, u12, u13, u14, u15, u16, u17, u18, u19, u20, u21, u22, u23, u24, u25, u26, u27, u28, u29, u30, u31, u32, u33, u34, u35, u36, u37, u38, u39, u40, u41, u42, u43, u44, u45, u46, u47, u48, u49, u50, u51, u52, u53, u54, u55, u56, u57, u58, u59, u60, u61, u62, u63, u64, u65, u66, u67, u68, u69, u70, u71, u72, u73, u74, u75, u76, u77, u78, u79, u80, rfl, HQ⟩
    go_wp2
    simp only [Exit.jump]
    refine bodyPost_ret (results_list (rs := [.tmp 4, .tmp 5, .tmp 6, .tmp 7]) rfl (by simp) (.tmp (.tmp (.tmp (.tmp .nil))))) rfl ?_
    exact ⟨rfl, HQ.out⟩

set_option maxHeartbeats 3200000 in
set_option maxRecDepth 100000 in
theorem get_err (s : ByteArray) (a : Int) (w : World) (hs : s.size ≤ 140737488351230) (h1 : 0 ≤ a) (h2 : a < (s.size : Int)) (n x z : Int) (hg : getI s (a + 1) = (n, x, z)) (hz : z ≠ 0) : Tells s a w 0 ⟨#[]⟩ a z := by
  have HB := Aside0.mk (Below.refl w.heap.size w)
  have HS := Aside0.mk (show s.size ≤ 140737488351232 by omega)
  have g1 : decide (a < 0) = false := decide_eq_false (by omega)
  have g2 : decide ((s.size : Int) < a) = false := decide_eq_false (by omega)
  have g3 : (a == (s.size : Int)) = false := by simp; omega
  have hbt := bt_at s a
  obtain ⟨b0, b1⟩ := bt_range s a
  have HG := Aside0.mk hg
  have g4 : (z != 0) = true := by simpa using hz
  clear hg hz
  unfold Tells
  go_enter Try.func42, Try.ntmps42
  go_wp2
  refine wp_scope_jumps 0 (AtLabel s a (z) w) (fun _ _ => 0) rfl ?_ ?_
  · go_wp2_with (first | (go_at_call 28; (with_reducible refine (get1 _ _ _ _ _ _ HS.out HG.out).mono ?_); rintro e w1 ⟨rfl, rfl⟩))
    go_step3
    exact ⟨rfl, _, _, _, _, _, _, _, _, _, _, _, _, _, _, _, _, _, _, _, _, _, _, _, _, _, _, _, _, _, _, _, _, _, _, _, _, _, _, _, _, _, _, _, _, _, _, _, _, _, _, _, _, _, _, _, _, _, _, _, _, _, _, _, _, _, _, _, _, _, _, _, _, _, _, rfl, HB⟩
  · rintro a' w' ⟨u2, u3, u9, u10, u11, u12, u13, u14, u15, u16, u17, u18, u19, u20, u21, u22, u23, u24, u25, u26, u27, u28, u29, u30, u31, u32, u33, u34, u35, u36, u37, u38, u39, u40, u41, u42, u43, u44, u45, u46, u47, u48, u49, u50, u51, u52, u53, u54, u55, u56, u57, u58, u59, u60, u61, u62, u63, u64, u65, u66, u67, u68, u69, u70, u71, u72, u73, u74, u75, u76, u77, u78, u79, u80, rfl, HQ⟩
    go_wp2
    simp only [Exit.jump]
    refine bodyPost_ret (results_list (rs := [.tmp 4, .tmp 5, .tmp 6, .tmp 7]) rfl (by simp) (.tmp (.tmp (.tmp (.tmp .nil))))) rfl ?_
    exact ⟨rfl, HQ.out⟩

end Go.Proofs.Ytaeocbbapnfcaaa.SectGetWalk
namespace Go.Proofs.Ytaeocbbapnfcaaa.SectGetWalk
open Go.RowKit Go.Proofs.Ytaeocbbapnfcaaa.PWire Go.Proofs.YtaeocbbapnfcaaaW.PrintWords Go.Proofs.YtaeocbbapnfcaaaW.PrintLast Base PutWalk GetWalk FixedWalk BRow WirePlain SectOnes
set_option linter.unusedVariables false
set_option linter.unusedSimpArgs false

set_option maxHeartbeats 3200000 in
set_option maxRecDepth 100000 in
theorem get_wide (s : ByteArray) (a : Int) (w : World) (hs : s.size ≤ 140737488351230) (h1 : 0 ≤ a) (h2 : a < (s.size : Int)) (n x : Int) (hg : getI s (a + 1) = (n, x, 0)) (i1 : 0 ≤ n) (i2 : 0 ≤ x) (i3 : x ≤ (s.size : Int)) (h4 : 1048576 < n) : Tells s a w 0 ⟨#[]⟩ a 11 := by
  have HB := Aside0.mk (Below.refl w.heap.size w)
  have HS := Aside0.mk (show s.size ≤ 140737488351232 by omega)
  have g1 : decide (a < 0) = false := decide_eq_false (by omega)
  have g2 : decide ((s.size : Int) < a) = false := decide_eq_false (by omega)
  have g3 : (a == (s.size : Int)) = false := by simp; omega
  have hbt := bt_at s a
  obtain ⟨b0, b1⟩ := bt_range s a
  have HG := Aside0.mk hg
  have g4 : ((0 : Int) != 0) = false := rfl
  have g5 : decide (1048576 < n) = true := decide_eq_true h4
  clear hg h4
  unfold Tells
  go_enter Try.func42, Try.ntmps42
  go_wp2
  refine wp_scope_jumps 0 (AtLabel s a 11 w) (fun _ _ => 0) rfl ?_ ?_
  · go_wp2_with (first | (go_at_call 28; (with_reducible refine (get1 _ _ _ _ _ _ HS.out HG.out).mono ?_); rintro e w1 ⟨rfl, rfl⟩))
    go_step3
    exact ⟨rfl, _, _, _, _, _, _, _, _, _, _, _, _, _, _, _, _, _, _, _, _, _, _, _, _, _, _, _, _, _, _, _, _, _, _, _, _, _, _, _, _, _, _, _, _, _, _, _, _, _, _, _, _, _, _, _, _, _, _, _, _, _, _, _, _, _, _, _, _, _, _, _, _, _, _, rfl, HB⟩
  · rintro a' w' ⟨u2, u3, u9, u10, u11, u12, u13, u14, u15, u16, u17, u18, u19, u20, u21, u22, u23, u24, u25, u26, u27, u28, u29, u30, u31, u32, u33, u34, u35, u36, u37, u38, u39, u40, u41, u42, u43, u44, u45, u46, u47, u48, u49, u50, u51, u52, u53, u54, u55, u56, u57, u58, u59, u60, u61, u62, u63, u64, u65, u66, u67, u68, u69, u70, u71, u72, u73, u74, u75, u76, u77, u78, u79, u80, rfl, HQ⟩
    go_wp2
    simp only [Exit.jump]
    refine bodyPost_ret (results_list (rs := [.tmp 4, .tmp 5, .tmp 6, .tmp 7]) rfl (by simp) (.tmp (.tmp (.tmp (.tmp .nil))))) rfl ?_
    exact ⟨rfl, HQ.out⟩

set_option maxHeartbeats 3200000 in
set_option maxRecDepth 100000 in
theorem get_few (s : ByteArray) (a : Int) (w : World) (hs : s.size ≤ 140737488351230) (h1 : 0 ≤ a) (h2 : a < (s.size : Int)) (n x : Int) (hg : getI s (a + 1) = (n, x, 0)) (i1 : 0 ≤ n) (i2 : 0 ≤ x) (i3 : x ≤ (s.size : Int)) (h4 : n ≤ 1048576) (h5 : (s.size : Int) - x < n) : Tells s a w 0 ⟨#[]⟩ a 10 := by
  have HB := Aside0.mk (Below.refl w.heap.size w)
  have HS := Aside0.mk (show s.size ≤ 140737488351232 by omega)
  have g1 : decide (a < 0) = false := decide_eq_false (by omega)
  have g2 : decide ((s.size : Int) < a) = false := decide_eq_false (by omega)
  have g3 : (a == (s.size : Int)) = false := by simp; omega
  have hbt := bt_at s a
  obtain ⟨b0, b1⟩ := bt_range s a
  have HG := Aside0.mk hg
  have g4 : ((0 : Int) != 0) = false := rfl
  have g5 : decide (1048576 < n) = false := decide_eq_false (by omega)
  have g6 : decide ((s.size : Int) - x < n) = true := decide_eq_true h5
  clear hg h5
  unfold Tells
  go_enter Try.func42, Try.ntmps42
  go_wp2
  refine wp_scope_jumps 0 (AtLabel s a 10 w) (fun _ _ => 0) rfl ?_ ?_
  · go_wp2_with (first | (go_at_call 28; (with_reducible refine (get1 _ _ _ _ _ _ HS.out HG.out).mono ?_); rintro e w1 ⟨rfl, rfl⟩))
    go_step3
    exact ⟨rfl, _, _, _, _, _, _, _, _, _, _, _, _, _, _, _, _, _, _, _, _, _, _, _, _, _, _, _, _, _, _, _, _, _, _, _, _, _, _, _, _, _, _, _, _, _, _, _, _, _, _, _, _, _, _, _, _, _, _, _, _, _, _, _, _, _, _, _, _, _, _, _, _, _, _, rfl, HB⟩
  · rintro a' w' ⟨u2, u3, u9, u10, u11, u12, u13, u14, u15, u16, u17, u18, u19, u20, u21, u22, u23, u24, u25, u26, u27, u28, u29, u30, u31, u32, u33, u34, u35, u36, u37, u38, u39, u40, u41, u42, u43, u44, u45, u46, u47, u48, u49, u50, u51, u52, u53, u54, u55, u56, u57, u58, u59, u60, u61, u62, u63, u64, u65, u66, u67, u68, u69, u70, u71, u72, u73, u74, u75, u76, u77, u78, u79, u80, rfl, HQ⟩
    go_wp2
    simp only [Exit.jump]
    refine bodyPost_ret (results_list (rs := [.tmp 4, .tmp 5, .tmp 6, .tmp 7]) rfl (by simp) (.tmp (.tmp (.tmp (.tmp .nil))))) rfl ?_
    exact ⟨rfl, HQ.out⟩

end Go.Proofs.Ytaeocbbapnfcaaa.SectGetWalk
namespace Go.Proofs.Ytaeocbbapnfcaaa.SectGetWalk
open Go.RowKit Go.Proofs.Ytaeocbbapnfcaaa.PWire Go.Proofs.YtaeocbbapnfcaaaW.PrintWords Go.Proofs.YtaeocbbapnfcaaaW.PrintLast Base PutWalk GetWalk FixedWalk BRow WirePlain SectOnes
set_option linter.unusedVariables false
set_option linter.unusedSimpArgs false

set_option maxHeartbeats 3200000 in
set_option maxRecDepth 100000 in
theorem get_sumless (s : ByteArray) (a : Int) (w : World) (hs : s.size ≤ 140737488351230) (h1 : 0 ≤ a) (h2 : a < (s.size : Int)) (n x : Int) (hg : getI s (a + 1) = (n, x, 0)) (i1 : 0 ≤ n) (i2 : 0 ≤ x) (i3 : x ≤ (s.size : Int)) (h4 : n ≤ 1048576) (h5 : n ≤ (s.size : Int) - x) (t y f : Int) (hf : getF s (x + n) = (t, y, f)) (hz : f ≠ 0) : Tells s a w 0 ⟨#[]⟩ a f := by
  have HB := Aside0.mk (Below.refl w.heap.size w)
  have HS := Aside0.mk (show s.size ≤ 140737488351232 by omega)
  have g1 : decide (a < 0) = false := decide_eq_false (by omega)
  have g2 : decide ((s.size : Int) < a) = false := decide_eq_false (by omega)
  have g3 : (a == (s.size : Int)) = false := by simp; omega
  have hbt := bt_at s a
  obtain ⟨b0, b1⟩ := bt_range s a
  have HG := Aside0.mk hg
  have g4 : ((0 : Int) != 0) = false := rfl
  have g5 : decide (1048576 < n) = false := decide_eq_false (by omega)
  have g6 : decide ((s.size : Int) - x < n) = false := decide_eq_false (by omega)
  have i4 : x + n ≤ (s.size : Int) := by omega
  have HF := Aside0.mk hf
  have g7 : (f != 0) = true := by simpa using hz
  clear hg h5 hf hz
  unfold Tells
  go_enter Try.func42, Try.ntmps42
  go_wp2
  refine wp_scope_jumps 0 (AtLabel s a (f) w) (fun _ _ => 0) rfl ?_ ?_
  · go_wp2_with (first | (go_at_call 28; (with_reducible refine (get1 _ _ _ _ _ _ HS.out HG.out).mono ?_); rintro e w1 ⟨rfl, rfl⟩) | (go_at_call 29; (with_reducible refine (fix1 _ _ _ _ _ _ HS.out HF.out).mono ?_); rintro e w1 ⟨rfl, hb⟩; have n0 := Aside0.mk (below_then HB.out HB.out.size hb); clear HB hb; have HB := n0; clear n0))
    go_step3
    exact ⟨rfl, _, _, _, _, _, _, _, _, _, _, _, _, _, _, _, _, _, _, _, _, _, _, _, _, _, _, _, _, _, _, _, _, _, _, _, _, _, _, _, _, _, _, _, _, _, _, _, _, _, _, _, _, _, _, _, _, _, _, _, _, _, _, _, _, _, _, _, _, _, _, _, _, _, _, rfl, HB⟩
  · rintro a' w' ⟨u2, u3, u9, u10, u11, u12, u13, u14, u15, u16, u17, u18, u19, u20, u21, u22, u23, u24, u25, u26, u27, u28, u29, u30, u31, u32, u33, u34, u35, u36, u37, u38, u39, u40, u41, u42, u43, u44, u45, u46, u47, u48, u49, u50, u51, u52, u53, u54, u55, u56, u57, u58, u59, u60, u61, u62, u63, u64, u65, u66, u67, u68, u69, u70, u71, u72, u73, u74, u75, u76, u77, u78, u79, u80, rfl, HQ⟩
    go_wp2
    simp only [Exit.jump]
    refine bodyPost_ret (results_list (rs := [.tmp 4, .tmp 5, .tmp 6, .tmp 7]) rfl (by simp) (.tmp (.tmp (.tmp (.tmp .nil))))) rfl ?_
    exact ⟨rfl, HQ.out⟩

set_option maxHeartbeats 3200000 in
set_option maxRecDepth 100000 in
theorem get_other (s : ByteArray) (a : Int) (w : World) (hs : s.size ≤ 140737488351230) (h1 : 0 ≤ a) (h2 : a < (s.size : Int)) (n x : Int) (hg : getI s (a + 1) = (n, x, 0)) (i1 : 0 ≤ n) (i2 : 0 ≤ x) (i3 : x ≤ (s.size : Int)) (h4 : n ≤ 1048576) (h5 : n ≤ (s.size : Int) - x) (t y : Int) (hf : getF s (x + n) = (t, y, 0)) (S : Int) (SC : Aside0 (∀ w : World, Calls Try.prog 60 #[.int .i64 (bt s a), .string (s.extract x.toNat (x + n).toNat)] w fun e w' => e = .returned (.int .i64 S) ∧ Below w.heap.size w w')) (hz : t ≠ S) : Tells s a w 0 ⟨#[]⟩ a 30 := by
  have HB := Aside0.mk (Below.refl w.heap.size w)
  have HS := Aside0.mk (show s.size ≤ 140737488351232 by omega)
  have g1 : decide (a < 0) = false := decide_eq_false (by omega)
  have g2 : decide ((s.size : Int) < a) = false := decide_eq_false (by omega)
  have g3 : (a == (s.size : Int)) = false := by simp; omega
  have hbt := bt_at s a
  obtain ⟨b0, b1⟩ := bt_range s a
  have HG := Aside0.mk hg
  have g4 : ((0 : Int) != 0) = false := rfl
  have g5 : decide (1048576 < n) = false := decide_eq_false (by omega)
  have g6 : decide ((s.size : Int) - x < n) = false := decide_eq_false (by omega)
  have i4 : x + n ≤ (s.size : Int) := by omega
  have HF := Aside0.mk hf
  have g8 : (t == S) = false := by simpa using hz
  have hsl := slice_fact s x n i2 i1 i4
  clear hg h5 hf hz
  unfold Tells
  go_enter Try.func42, Try.ntmps42
  go_wp2
  refine wp_scope_straight ?_
  go_wp2_with (first | (go_at_call 28; (with_reducible refine (get1 _ _ _ _ _ _ HS.out HG.out).mono ?_); rintro e w1 ⟨rfl, rfl⟩) | (go_at_call 29; (with_reducible refine (fix1 _ _ _ _ _ _ HS.out HF.out).mono ?_); rintro e w1 ⟨rfl, hb⟩; have n0 := Aside0.mk (below_then HB.out HB.out.size hb); clear HB hb; have HB := n0; clear n0) | (go_at_call 60; (with_reducible refine (SC.out _).mono ?_); rintro e w1 ⟨rfl, hb⟩; have n0 := Aside0.mk (below_then HB.out HB.out.size hb); clear HB hb; have HB := n0; clear n0))
  go_step3
  go_wp2
  simp only [Exit.noGoto]
  refine bodyPost_ret (results_list (rs := [.tmp 4, .tmp 5, .tmp 6, .tmp 7]) rfl (by simp) (.tmp (.tmp (.tmp (.tmp .nil))))) rfl ?_
  exact ⟨rfl, HB.out⟩

end Go.Proofs.Ytaeocbbapnfcaaa.SectGetWalk
namespace Go.Proofs.Ytaeocbbapnfcaaa.SectGetWalk
open Go.RowKit Go.Proofs.Ytaeocbbapnfcaaa.PWire Go.Proofs.YtaeocbbapnfcaaaW.PrintWords Go.Proofs.YtaeocbbapnfcaaaW.PrintLast Base PutWalk GetWalk FixedWalk BRow WirePlain SectOnes
set_option linter.unusedVariables false
set_option linter.unusedSimpArgs false

set_option maxHeartbeats 3200000 in
set_option maxRecDepth 100000 in
theorem get_is (s : ByteArray) (a : Int) (w : World) (hs : s.size ≤ 140737488351230) (h1 : 0 ≤ a) (h2 : a < (s.size : Int)) (x n : Nat) (hg : getI s (a + 1) = ((n : Int), (x : Int), 0)) (h4 : n ≤ 1048576) (h5 : x + n ≤ s.size) (y : Int) (S : Int) (hf : getF s ((x : Int) + (n : Int)) = (S, y, 0)) (SC : Aside0 (∀ w : World, Calls Try.prog 60 #[.int .i64 (bt s a), .string (s.extract x (x + n))] w fun e w' => e = .returned (.int .i64 S) ∧ Below w.heap.size w w')) : Tells s a w (bt s a) (s.extract x (x + n)) ((x : Int) + (n : Int) + 4) 0 := by
  have HB := Aside0.mk (Below.refl w.heap.size w)
  have HS := Aside0.mk (show s.size ≤ 140737488351232 by omega)
  have g1 : decide (a < 0) = false := decide_eq_false (by omega)
  have g2 : decide ((s.size : Int) < a) = false := decide_eq_false (by omega)
  have g3 : (a == (s.size : Int)) = false := by simp; omega
  have hbt := bt_at s a
  obtain ⟨b0, b1⟩ := bt_range s a
  have HG := Aside0.mk hg
  have g5 : decide (1048576 < (n : Int)) = false := decide_eq_false (by omega)
  have g6 : decide ((s.size : Int) - (x : Int) < (n : Int)) = false := decide_eq_false (by omega)
  have HF := Aside0.mk hf
  have k1 : (n : Int) ≤ 1048576 := by omega
  have k2 : (x : Int) + (n : Int) ≤ (s.size : Int) := by omega
  have k3 : IntKind.i64.wrap ((x : Int) + (n : Int)) = (x : Int) + (n : Int) := IntWalk.i64_in _ (by omega)
  have k4 : IntKind.i64.wrap ((x : Int) + (n : Int) + 4) = (x : Int) + (n : Int) + 4 := IntWalk.i64_in _ (by omega)
  have k5 : ((x : Int) + (n : Int)).toNat = x + n := by omega
  have k6 : x + n ≤ s.size := h5
  have k7 : x ≤ x + n := by omega
  have hsl : ∀ wx, (Instr.slice 9 (.string s) (some (.int .i64 (x : Int))) (some (.int .i64 ((x : Int) + (n : Int)))) none).run Try.prog wx = .ok (.string (s.extract x (x + n))) wx := fun wx => by
    have := slice_fact s x n (by omega) (by omega) k2 wx
    rwa [k5, Int.toNat_natCast] at this
  have g8 : (S == S) = true := by simp
  clear hg h5 hf
  unfold Tells
  go_enter Try.func42, Try.ntmps42
  go_wp2
  refine wp_scope_straight ?_
  go_wp2_with (first | (go_at_call 28; (with_reducible refine (get1 _ _ _ _ _ _ HS.out HG.out).mono ?_); rintro e w1 ⟨rfl, rfl⟩) | (go_at_call 29; (with_reducible refine (fix1 _ _ _ _ _ _ HS.out HF.out).mono ?_); rintro e w1 ⟨rfl, hb⟩; have n0 := Aside0.mk (below_then HB.out HB.out.size hb); clear HB hb; have HB := n0; clear n0) | (go_at_call 60; (with_reducible refine (SC.out _).mono ?_); rintro e w1 ⟨rfl, hb⟩; have n0 := Aside0.mk (below_then HB.out HB.out.size hb); clear HB hb; have HB := n0; clear n0))
  go_quiet (fail)
  go_wp2
  simp only [Exit.noGoto]
  refine bodyPost_ret (results_list (rs := [.tmp 4, .tmp 5, .tmp 6, .tmp 7]) rfl (by simp) (.tmp (.tmp (.tmp (.tmp .nil))))) rfl ?_
  exact ⟨rfl, pw_below_drewN HB.out _⟩

end Go.Proofs.Ytaeocbbapnfcaaa.SectGetWalk
