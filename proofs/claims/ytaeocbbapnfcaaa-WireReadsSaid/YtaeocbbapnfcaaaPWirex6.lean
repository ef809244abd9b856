/- Functions of the program, each with the machine's call that does what it says; laid by a program of this session over the kit's printer. -/
import Derived.Test.YtaeocbbapnfcaaaPWirex0
import Derived.Test.YtaeocbbapnfcaaaPWirex1
import Derived.Test.YtaeocbbapnfcaaaPWirex2
import Derived.Test.YtaeocbbapnfcaaaPWirex4
import Derived.Test.YtaeocbbapnfcaaaPWirex5
namespace Go.Proofs.Ytaeocbbapnfcaaa.PWire
open Go.RowKit Go.Proofs.YtaeocbbapnfcaaaW.PrintWords Go.Proofs.YtaeocbbapnfcaaaW.PrintLast Go.Proofs.YtaeocbbapnfcaaaW.PrintMore
attribute [local go_sem] max2_int min2_int max_two min_two max_three min_three max_four min_four   -- for this text's walks alone
set_option linter.unusedVariables false
set_option linter.unusedSimpArgs false

/-! ### wireReads: function 12 -/
mutual
def wireReads.j0 : Nat → ByteArray → List (S49) → Bool → Option (Bool)
 | 0, _, _, _ => none
 | k + 1, x0, x1, x24 => if x24 = true then ((transhumancelaw01_fixed.f).bind fun t205 => (some t205)) else ((wire_New.f x0).bind fun bt206 => (wireReads.l0 k x1 0 bt206.1 bt206.2.1 bt206.2.2 x0 0 0))
def wireReads.l0 : Nat → List (S49) → Int → Int → Int → ByteArray → ByteArray → Int → Int → Option (Bool)
 | 0, _, _, _, _, _, _, _, _ => none
 | k + 1, x1, x7, x210000, x210001, x210002, x211000, x211001, x211002 => if x7 < (x1.length : Int) then (if 0 ≤ x7 then (if ((rd_T49 x1 x7).f0) = 0 then ((transhumanceref01_Number.f k x211000 x211001 x211002 ((rd_T49 x1 x7).f1)).bind fun bt214 => ((wire_Reader_Number.f x210000 x210001 x210002 ((rd_T49 x1 x7).f1)).bind fun bt220 => (if bt220.1 = bt214.1 then (wireReads.j2 k x1 x7 bt220.2.1 bt220.2.2.1 bt220.2.2.2 bt214.2.1 bt214.2.2.1 bt214.2.2.2) else (some false)))) else (if ((rd_T49 x1 x7).f0) = 1 then ((transhumanceref01_Fixed.f k x211000 x211001 x211002).bind fun bt224 => ((wire_Reader_Fixed.f k x210000 x210001 x210002).bind fun bt229 => (if bt229.1 = bt224.1 then (wireReads.j2 k x1 x7 bt229.2.1 bt229.2.2.1 bt229.2.2.2 bt224.2.1 bt224.2.2.1 bt224.2.2.2) else (some false)))) else (if ((rd_T49 x1 x7).f0) = 2 then ((transhumanceref01_Text.f k x211000 x211001 x211002 ((rd_T49 x1 x7).f1)).bind fun bt234 => ((wire_Reader_Text.f k x210000 x210001 x210002 ((rd_T49 x1 x7).f1)).bind fun bt240 => (if bt240.1.toList = bt234.1.toList then (wireReads.j2 k x1 x7 bt240.2.1 bt240.2.2.1 bt240.2.2.2 bt234.2.1 bt234.2.2.1 bt234.2.2.2) else (some false)))) else (wireReads.j2 k x1 x7 x210000 x210001 x210002 x211000 x211001 x211002)))) else (none)) else ((transhumancelaw01_fixed.f).bind fun t211 => (some t211))
def wireReads.j2 : Nat → List (S49) → Int → Int → Int → ByteArray → ByteArray → Int → Int → Option (Bool)
 | 0, _, _, _, _, _, _, _, _ => none
 | k + 1, x1, x7, x210000, x210001, x210002, x211000, x211001, x211002 => (wire_Reader_Error.f x210000 x210001 x210002).bind fun bt244 => (if x211002 = 0 then (if bt244.1 = x211002 then (if bt244.1 = 0 then (if bt244.2.1 = 0 then ((wire_Reader_Left.f bt244.2.2.1 bt244.2.2.2.1 bt244.2.2.2.2).bind fun bt249 => (if bt249.1 = (wrap64 ((x211000.size : Int) - x211001)) then (wireReads.l0 k x1 (wrap64 (x7 + 1)) bt249.2.1 bt249.2.2.1 bt249.2.2.2 x211000 x211001 x211002) else (some false))) else (some false)) else (if bt244.2.1 = x211001 then ((wire_Reader_Left.f bt244.2.2.1 bt244.2.2.2.1 bt244.2.2.2.2).bind fun bt253 => (if bt253.1 = (wrap64 ((x211000.size : Int) - x211001)) then (wireReads.l0 k x1 (wrap64 (x7 + 1)) bt253.2.1 bt253.2.2.1 bt253.2.2.2 x211000 x211001 x211002) else (some false))) else (some false))) else (some false)) else (if bt244.1 = x211002 then (if bt244.1 = 0 then (if bt244.2.1 = 0 then ((wire_Reader_Left.f bt244.2.2.1 bt244.2.2.2.1 bt244.2.2.2.2).bind fun bt257 => (if bt257.1 = 0 then (wireReads.l0 k x1 (wrap64 (x7 + 1)) bt257.2.1 bt257.2.2.1 bt257.2.2.2 x211000 x211001 x211002) else (some false))) else (some false)) else (if bt244.2.1 = x211001 then ((wire_Reader_Left.f bt244.2.2.1 bt244.2.2.2.1 bt244.2.2.2.2).bind fun bt261 => (if bt261.1 = 0 then (wireReads.l0 k x1 (wrap64 (x7 + 1)) bt261.2.1 bt261.2.2.1 bt261.2.2.2 x211000 x211001 x211002) else (some false))) else (some false))) else (some false)))
end
def wireReads.f (k : Nat) (a0 : ByteArray) (l1 : List (S49)) : Option (Bool) := if (a0.size : Int) > 200 then (wireReads.j0 k a0 l1 true) else (wireReads.j0 k a0 l1 (decide ((l1.length : Int) > 30)))
theorem wireReads.mono_l : ∀ k, (∀ y0 y1 y2, LeO (wireReads.j0 k y0 y1 y2) (wireReads.j0 (k + 1) y0 y1 y2)) ∧ (∀ y0 y1 y2 y3 y4 y5 y6 y7, LeO (wireReads.l0 k y0 y1 y2 y3 y4 y5 y6 y7) (wireReads.l0 (k + 1) y0 y1 y2 y3 y4 y5 y6 y7)) ∧ (∀ y0 y1 y2 y3 y4 y5 y6 y7, LeO (wireReads.j2 k y0 y1 y2 y3 y4 y5 y6 y7) (wireReads.j2 (k + 1) y0 y1 y2 y3 y4 y5 y6 y7))
 | 0 => ⟨fun _ _ _ r h => by simp [wireReads.j0] at h, fun _ _ _ _ _ _ _ _ r h => by simp [wireReads.l0] at h, fun _ _ _ _ _ _ _ _ r h => by simp [wireReads.j2] at h⟩
 | k + 1 => by
   obtain ⟨ih0, ih1, ih2⟩ := wireReads.mono_l k
   refine ⟨?_, ?_, ?_⟩
   · intro y0 y1 y2
     unfold wireReads.j0
     repeat' first
     | (with_reducible exact ih0 _ _ _)
     | (with_reducible exact ih1 _ _ _ _ _ _ _ _)
     | (with_reducible exact ih2 _ _ _ _ _ _ _ _)
     | (with_reducible exact transhumanceref01_Fixed.mono _ _ _ _)
     | (with_reducible exact transhumanceref01_Number.mono _ _ _ _ _)
     | (with_reducible exact transhumanceref01_Text.mono _ _ _ _ _)
     | (with_reducible exact wire_Reader_Fixed.mono _ _ _ _)
     | (with_reducible exact wire_Reader_Text.mono _ _ _ _ _)
     | (with_reducible exact LeO.refl _)
     | (with_reducible exact LeO.none _)
     | (with_reducible refine LeO.ite ?_ ?_)
     | (with_reducible refine LeO.bind ?_ (fun _ => ?_))
     | exact ih0 _ _ _
     | exact ih1 _ _ _ _ _ _ _ _
     | exact ih2 _ _ _ _ _ _ _ _
     | exact transhumanceref01_Fixed.mono _ _ _ _
     | exact transhumanceref01_Number.mono _ _ _ _ _
     | exact transhumanceref01_Text.mono _ _ _ _ _
     | exact wire_Reader_Fixed.mono _ _ _ _
     | exact wire_Reader_Text.mono _ _ _ _ _
     | exact LeO.none _
     | refine LeO.ite ?_ ?_
     | refine LeO.bind ?_ (fun _ => ?_)
   · intro y0 y1 y2 y3 y4 y5 y6 y7
     unfold wireReads.l0
     repeat' first
     | (with_reducible exact ih0 _ _ _)
     | (with_reducible exact ih1 _ _ _ _ _ _ _ _)
     | (with_reducible exact ih2 _ _ _ _ _ _ _ _)
     | (with_reducible exact transhumanceref01_Fixed.mono _ _ _ _)
     | (with_reducible exact transhumanceref01_Number.mono _ _ _ _ _)
     | (with_reducible exact transhumanceref01_Text.mono _ _ _ _ _)
     | (with_reducible exact wire_Reader_Fixed.mono _ _ _ _)
     | (with_reducible exact wire_Reader_Text.mono _ _ _ _ _)
     | (with_reducible exact LeO.refl _)
     | (with_reducible exact LeO.none _)
     | (with_reducible refine LeO.ite ?_ ?_)
     | (with_reducible refine LeO.bind ?_ (fun _ => ?_))
     | exact ih0 _ _ _
     | exact ih1 _ _ _ _ _ _ _ _
     | exact ih2 _ _ _ _ _ _ _ _
     | exact transhumanceref01_Fixed.mono _ _ _ _
     | exact transhumanceref01_Number.mono _ _ _ _ _
     | exact transhumanceref01_Text.mono _ _ _ _ _
     | exact wire_Reader_Fixed.mono _ _ _ _
     | exact wire_Reader_Text.mono _ _ _ _ _
     | exact LeO.none _
     | refine LeO.ite ?_ ?_
     | refine LeO.bind ?_ (fun _ => ?_)
   · intro y0 y1 y2 y3 y4 y5 y6 y7
     unfold wireReads.j2
     repeat' first
     | (with_reducible exact ih0 _ _ _)
     | (with_reducible exact ih1 _ _ _ _ _ _ _ _)
     | (with_reducible exact ih2 _ _ _ _ _ _ _ _)
     | (with_reducible exact transhumanceref01_Fixed.mono _ _ _ _)
     | (with_reducible exact transhumanceref01_Number.mono _ _ _ _ _)
     | (with_reducible exact transhumanceref01_Text.mono _ _ _ _ _)
     | (with_reducible exact wire_Reader_Fixed.mono _ _ _ _)
     | (with_reducible exact wire_Reader_Text.mono _ _ _ _ _)
     | (with_reducible exact LeO.refl _)
     | (with_reducible exact LeO.none _)
     | (with_reducible refine LeO.ite ?_ ?_)
     | (with_reducible refine LeO.bind ?_ (fun _ => ?_))
     | exact ih0 _ _ _
     | exact ih1 _ _ _ _ _ _ _ _
     | exact ih2 _ _ _ _ _ _ _ _
     | exact transhumanceref01_Fixed.mono _ _ _ _
     | exact transhumanceref01_Number.mono _ _ _ _ _
     | exact transhumanceref01_Text.mono _ _ _ _ _
     | exact wire_Reader_Fixed.mono _ _ _ _
     | exact wire_Reader_Text.mono _ _ _ _ _
     | exact LeO.none _
     | refine LeO.ite ?_ ?_
     | refine LeO.bind ?_ (fun _ => ?_)
theorem wireReads.mono : ∀ a0 a1 k, LeO (wireReads.f k a0 a1) (wireReads.f (k + 1) a0 a1) := by
 intro a0 a1 k
 obtain ⟨ih0, ih1, ih2⟩ := wireReads.mono_l k
 unfold wireReads.f
 repeat' first
     | (with_reducible exact ih0 _ _ _)
     | (with_reducible exact ih1 _ _ _ _ _ _ _ _)
     | (with_reducible exact ih2 _ _ _ _ _ _ _ _)
     | (with_reducible exact transhumanceref01_Fixed.mono _ _ _ _)
     | (with_reducible exact transhumanceref01_Number.mono _ _ _ _ _)
     | (with_reducible exact transhumanceref01_Text.mono _ _ _ _ _)
     | (with_reducible exact wire_Reader_Fixed.mono _ _ _ _)
     | (with_reducible exact wire_Reader_Text.mono _ _ _ _ _)
     | (with_reducible exact LeO.refl _)
     | (with_reducible exact LeO.none _)
     | (with_reducible refine LeO.ite ?_ ?_)
     | (with_reducible refine LeO.bind ?_ (fun _ => ?_))
     | exact ih0 _ _ _
     | exact ih1 _ _ _ _ _ _ _ _
     | exact ih2 _ _ _ _ _ _ _ _
     | exact transhumanceref01_Fixed.mono _ _ _ _
     | exact transhumanceref01_Number.mono _ _ _ _ _
     | exact transhumanceref01_Text.mono _ _ _ _ _
     | exact wire_Reader_Fixed.mono _ _ _ _
     | exact wire_Reader_Text.mono _ _ _ _ _
     | exact LeO.none _
     | refine LeO.ite ?_ ?_
     | refine LeO.bind ?_ (fun _ => ?_)
def wireReads.T9 : Bool × List (List Nat × List Nat) := (true, [([], []), ([], []), ([], []), ([1, 2], [1, 2]), ([3], [3]), ([4], [4]), ([0, 5], [0, 5]), ([6], [6]), ([7], [7]), ([7], [7]), ([], []), ([8, 6, 0, 1, 2, 3, 4, 5, 6, 7, 8, 10], [8]), ([10, 9, 11, 0, 1, 2, 3, 4, 5, 6, 7, 8, 9, 10, 11], [9, 10])])
def wireReads.B9 : List Nat := [0, 0, 0, 6, 14, 30, 63, 127, 255, 255, 0, 1535, 4095]
theorem wireReads.tab9 : rtab .any (opsOf Try.f12 9) = wireReads.T9 := by kernel_rfl
theorem wireReads.bits9 : waitsOk wireReads.T9.2 wireReads.B9 = true := by kernel_rfl
def wireReads.T19 : Bool × List (List Nat × List Nat) := (true, [([], []), ([], []), ([], []), ([1, 2], [1, 2]), ([3], [3]), ([4], [4]), ([0, 5], [0, 5]), ([6], [6]), ([7], [7]), ([7], [7]), ([], []), ([8, 6, 0, 1, 2, 3, 4, 5, 6, 7, 8, 10], [8]), ([10, 9, 11, 0, 1, 2, 3, 4, 5, 6, 7, 8, 9, 10, 11], [9, 10])])
def wireReads.B19 : List Nat := [0, 0, 0, 6, 14, 30, 63, 127, 255, 255, 0, 1535, 4095]
theorem wireReads.tab19 : rtab .any (opsOf Try.f12 19) = wireReads.T19 := by kernel_rfl
theorem wireReads.bits19 : waitsOk wireReads.T19.2 wireReads.B19 = true := by kernel_rfl
set_option maxHeartbeats 8000000 in
set_option maxRecDepth 100000 in
theorem wireReads.calls (k : Nat) (a0 : ByteArray) (A1 : Option Addr) (c1 : Nat) (l1 : List (S49)) (r : Bool) (w : World) (hr1 : Kd.C k49 w A1 l1.length l1) (hc1 : l1.length ≤ c1) (h : wireReads.f k a0 l1 = some r) :
   Calls Try.prog 12 #[.string a0, .slice A1 l1.length c1] w fun e w' => e = .returned (.bool r) ∧ Below w.heap.size w w' := by
 have hu47 := Try.underlying47
 have HR1 := Aside0.mk hr1
 have HC1 := Aside0.mk hc1
 clear hr1 hc1
 have HB := Aside0.mk (Below.refl w.heap.size w)
 have H : (if (a0.size : Int) > 200 then (wireReads.j0 k a0 l1 true) else (wireReads.j0 k a0 l1 (decide ((l1.length : Int) > 30)))) = some r := h
 clear h
 have HC3 := Aside0.mk H
 clear H
 go_enter Try.func12, Try.ntmps12
 go_upto_region 1 with (fail)
 go_cut [24] (fun v24 wc => ∃ (kq : Nat) (x24_2 : Bool), v24 = .bool x24_2 ∧ Aside0 (wireReads.j0 kq a0 l1 x24_2 = some r) ∧ Aside0 (kq ≤ k) ∧ Aside0 (Below w.heap.size w wc))
 case first =>
   have H := HC3.out
   clear HC3
   by_cases c4 : (a0.size : Int) > 200
   · rw [if_pos c4] at H
     have c4b0 : decide (200 < (a0.size : Int)) = true := decide_eq_true c4
     have c4b1 : decide (200 < a0.size) = true := decide_eq_true (by omega)
     clear c4
     (first | rw [c4b0] | (simp only [i64_w, i32_w]; rw [c4b0]) | skip)
     have H' := Aside0.mk H
     clear H
     go_wp2
     go_meet
     case rel => exact ⟨_, (true), (by first | rfl | (simp; done) | (simp [*]; done)), H', ⟨by first | omega | exact Nat.le_refl _⟩, ⟨by repeat (first | (with_reducible first | exact HB.out | apply below_alloc | apply pw_below_drewN | apply below_drew1) | exact HB.out)⟩⟩
   · rw [if_neg c4] at H
     have c4b0 : decide (200 < (a0.size : Int)) = false := decide_eq_false c4
     have c4b1 : decide (200 < a0.size) = false := decide_eq_false (by omega)
     clear c4
     (first | rw [c4b0] | (simp only [i64_w, i32_w]; rw [c4b0]) | skip)
     have H' := Aside0.mk H
     clear H
     go_wp2
     go_meet
     case rel => exact ⟨_, (decide ((l1.length : Int) > 30)), (by first | rfl | (simp; done) | (simp [*]; done)), H', ⟨by first | omega | exact Nat.le_refl _⟩, ⟨by repeat (first | (with_reducible first | exact HB.out | apply below_alloc | apply pw_below_drewN | apply below_drew1) | exact HB.out)⟩⟩
 case rest =>
   clear HC3
   try clear c1
   try clear p2
   try clear c4
   try clear c4b0
   try clear c4b1
   obtain ⟨kq, x24_2, rfl, HA, HJ2, HB⟩ := hcut
   cases kq with
   | zero => exact absurd HA.out (by simp [wireReads.j0])
   | succ kj2 =>
     have H := HA.out
     clear HA
     simp only [wireReads.j0] at H
     by_cases c5 : x24_2 = true
     · subst c5
       have H1 : ((transhumancelaw01_fixed.f).bind fun t205 => (some t205)) = some r := by rw [if_pos rfl] at H; exact H
       clear H
       have H := H1
       clear H1
       replace H := Option.bind_eq_some_iff.mp H
       obtain ⟨t205, A60, H⟩ := H
       replace H : (some t205) = some r := H
       have A6 := Aside0.mk A60
       clear A60
       obtain rfl := Option.some.inj H
       go_wp2_with (first | ((with_reducible refine gate_callee (f := 25) rfl ?_); refine goesL_ (some 25) rfl rfl Try.func25 (by kernel_rfl) rfl #[] rfl (by (try simp only [List.map_toArray, List.map_cons, List.map_nil]); first | done | rfl | (simp only [List.length_drop, List.length_take]; rfl)) ?_; (with_reducible refine (transhumancelaw01_fixed.calls  t205 _ A6.out).mono ?_); rintro e w7 ⟨rfl, hb⟩; refine ⟨_, rfl, ?_⟩; have n0_ := Aside0.mk (below_step (by repeat (first | (with_reducible first | exact HB.out | apply below_alloc | apply pw_below_drewN | apply below_drew1) | exact HB.out)) hb); clear HB; have HB := n0_; clear n0_; (try clear hb); (try clear hb2); (try clear hk); (try clear hi)))
       go_ret
       exact ⟨by first | rfl | (simp [errW_none, errW_some] <;> rfl) | (simp [*, errW_none, errW_some] <;> rfl), by repeat (first | (with_reducible first | exact HB.out | apply below_alloc | apply pw_below_drewN | apply below_drew1) | exact HB.out)⟩
     · replace c5 := Bool.eq_false_iff.mpr c5
       subst c5
       have H1 : ((wire_New.f a0).bind fun bt206 => (wireReads.l0 kj2 l1 0 bt206.1 bt206.2.1 bt206.2.2 a0 0 0)) = some r := by rw [if_neg (show ¬ (false = true) by decide)] at H; exact H
       clear H
       have H := H1
       clear H1
       replace H := Option.bind_eq_some_iff.mp H
       obtain ⟨⟨t206, t207, t208⟩, A80, H⟩ := H
       replace H : (wireReads.l0 kj2 l1 0 t206 t207 t208 a0 0 0) = some r := H
       have A8 := Aside0.mk A80
       clear A80
       have H' := Aside0.mk H
       clear H
       go_wp2_with (first | ((with_reducible refine gate_callee (f := 31) rfl ?_); refine goesL_ (some 27) rfl rfl Try.func31 (by kernel_rfl) rfl #[.string a0] rfl (by (try simp only [List.map_toArray, List.map_cons, List.map_nil]); first | done | rfl | (simp only [List.length_drop, List.length_take]; rfl)) ?_; (with_reducible refine (wire_New.calls a0 t206 t207 t208 w _ ?side1 A8.out).mono ?_); (case side1 => repeat (first | (with_reducible first | exact HB.out | apply below_alloc | apply pw_below_drewN | apply below_drew1) | exact HB.out)); rintro e w9 ⟨g209, rfl, hi, hb, hb2⟩; refine ⟨_, rfl, ?_⟩; have n0_ := Aside0.mk (hb); have n1_ := Aside0.mk (hi); clear HB; have HB := n0_; have HI209 := n1_; clear n0_ n1_; (try clear hb); (try clear hb2); (try clear hk); (try clear hi)) | ((with_reducible refine gate_dst (N := 6) rfl ?_); (try (refine gate_guard (by rfl) ?_; dsimp only)); refine box_event ?hg (N := 6) ?hd (cs := #[.string (⟨#[]⟩ : ByteArray), .int .i64 0, .int .i64 0]) (t := 47) ?hr ?_; (case hd => rfl); (case hg => rfl); (case hr => first | (go_simp; done) | (go_simp; rfl)); intro gb210 hg w10 hbox hb; have n0_ := Aside0.mk (IsS83.below (by repeat (first | (with_reducible first | exact HI209.out | apply IsS83.alloc | apply IsS83.drewN | apply IsS83.drew | apply IsS83.set_0 | apply IsS83.set_1 | apply IsS83.set_2) | exact HI209.out)) hb); have n1_ := Aside0.mk (below_step (by repeat (first | (with_reducible first | exact HB.out | apply below_alloc | apply pw_below_drewN | apply below_drew1 | refine below_set ?_ (IsS83.ge HI209.out)) | exact HB.out)) hb); have n2_ := Aside0.mk (hbox); have n3_ := Aside0.mk ((by rw [hg]; exact (below_size (by repeat (first | (with_reducible first | exact HB.out | apply below_alloc | apply pw_below_drewN | apply below_drew1 | refine below_set ?_ (IsS83.ge HI209.out)) | exact HB.out))) : w.heap.size ≤ gb210)); have n4_ := Aside0.mk ((by rw [hg]; exact (below_size (by repeat (first | (with_reducible first | exact HB.out | apply below_alloc | apply pw_below_drewN | apply below_drew1 | refine below_set ?_ (IsS83.ge HI209.out)) | exact HB.out))) : w.heap.size ≤ gb210)); have n5_ := Aside0.mk ((by rw [hg]; exact Nat.ne_of_lt (IsS83.lt (show IsS83 w _ g209 t206 t207 t208 from by repeat (first | (with_reducible first | exact HI209.out | apply IsS83.alloc | apply IsS83.drewN | apply IsS83.drew | apply IsS83.set_0 | apply IsS83.set_1 | apply IsS83.set_2) | exact HI209.out))) : g209 ≠ gb210)); have n6_ := Aside0.mk ((by rw [hg]; exact Nat.ne_of_gt (IsS83.lt (show IsS83 w _ g209 t206 t207 t208 from by repeat (first | (with_reducible first | exact HI209.out | apply IsS83.alloc | apply IsS83.drewN | apply IsS83.drew | apply IsS83.set_0 | apply IsS83.set_1 | apply IsS83.set_2) | exact HI209.out))) : gb210 ≠ g209)); clear HI209; clear HB; have HI209 := n0_; have HB := n1_; have BK210 := n2_; have GW210 := n3_; have GE210 := n4_; have NB209_210 := n5_; have NB210_209 := n6_; clear n0_ n1_ n2_ n3_ n4_ n5_ n6_; clear hb hbox hg; have hnb11 := NB210_209.out; have hnc11 := NB209_210.out; have hcz12_0 : w10.cell? ⟨gb210, 0, none⟩ = some (.string (⟨#[]⟩ : ByteArray)) := (blk_cell BK210.out 0).trans rfl; have hcz12_1 : w10.cell? ⟨gb210, 1, none⟩ = some (.int .i64 0) := (blk_cell BK210.out 1).trans rfl; have hcz12_2 : w10.cell? ⟨gb210, 2, none⟩ = some (.int .i64 0) := (blk_cell BK210.out 2).trans rfl; have hfz12_0 := blk_frozen BK210.out 0; have hfz12_1 := blk_frozen BK210.out 1; have hfz12_2 := blk_frozen BK210.out 2))
       go_loopg [7] kj2 (fun kq v7 w' => ∃ (x7_2 : Int) (x210000_2 : Int) (x210001_2 : Int) (x210002_2 : ByteArray) (x211000_2 : ByteArray) (x211001_2 : Int) (x211002_2 : Int), v7 = .int .i64 x7_2 ∧ Aside0 (wireReads.l0 kq l1 x7_2 x210000_2 x210001_2 x210002_2 x211000_2 x211001_2 x211002_2 = some r) ∧ Aside0 (kq ≤ kj2) ∧ Aside0 (w'.heap[gb210]? = some (.cells #[.string x211000_2, .int .i64 x211001_2, .int .i64 x211002_2] 47 (0, 0))) ∧ Aside0 (IsS83 w w' g209 x210000_2 x210001_2 x210002_2) ∧ Aside0 (Below w.heap.size w w'))
       case atStart => exact ⟨(0), (t206), (t207), (t208), (a0), (0), (0), (by first | rfl | (simp; done) | (simp [*]; done)), H', ⟨Nat.le_refl _⟩, ⟨by (with_reducible repeat (first | refine blk_drewN ?_ _ | refine blk_drew ?_ | refine blk_alloc ?_ _)); refine blk_put (cs := #[.string a0, .int .i64 0, .int .i64 0]) ?_ 2 _ rfl; (with_reducible repeat (first | refine blk_drewN ?_ _ | refine blk_drew ?_ | refine blk_alloc ?_ _)); refine blk_put (cs := #[.string a0, .int .i64 0, .int .i64 0]) ?_ 1 _ rfl; (with_reducible repeat (first | refine blk_drewN ?_ _ | refine blk_drew ?_ | refine blk_alloc ?_ _)); refine blk_put (cs := #[.string (⟨#[]⟩ : ByteArray), .int .i64 0, .int .i64 0]) ?_ 0 _ rfl; (with_reducible repeat (first | refine blk_drewN ?_ _ | refine blk_drew ?_ | refine blk_alloc ?_ _)); exact BK210.out⟩, ⟨by repeat (first | (with_reducible first | exact HI209.out | apply IsS83.alloc | apply IsS83.drewN | apply IsS83.drew | apply IsS83.set_0 | apply IsS83.set_1 | apply IsS83.set_2 | refine IsS83.far ?_ NB209_210.out _) | exact HI209.out)⟩, ⟨by repeat (first | (with_reducible first | exact HB.out | apply below_alloc | apply pw_below_drewN | apply below_drew1 | refine below_set ?_ (IsS83.ge HI209.out) | refine below_set ?_ GE210.out) | exact HB.out)⟩⟩
       case round =>
         clear H'
         try clear c1
         try clear c2
         try clear p2
         try clear c3
         try clear c4
         try clear c4b0
         try clear c4b1
         try clear c5
         try clear c11
         try clear c12
         try clear hcz12_0
         try clear hcz12_1
         try clear hcz12_2
         try clear hfz12_0
         try clear hfz12_1
         try clear hfz12_2
         try clear p2
         obtain ⟨x7_2, x210000_2, x210001_2, x210002_2, x211000_2, x211001_2, x211002_2, rfl, HA, HK2, BK210, HI209, HB⟩ := hrel
         cases gk with
         | zero => exact absurd HA.out (by simp [wireReads.l0])
         | succ k2 =>
           have H := HA.out
           clear HA
           simp only [wireReads.l0] at H
           by_cases c13 : x7_2 < (l1.length : Int)
           · rw [if_pos c13] at H
             have c13b0 : decide (x7_2 < (l1.length : Int)) = true := decide_eq_true c13
             clear c13
             by_cases c14 : 0 ≤ x7_2
             · rw [if_pos c14] at H
               have c14b0 : decide (0 ≤ x7_2) = true := decide_eq_true c14
               clear c14
               have HC15 := Aside0.mk H
               clear H
               have p212 : 0 ≤ (x7_2 : Int) := of_decide_eq_true (by first | (with_reducible assumption) | assumption)
               have q212 : x7_2 < (l1.length : Int) := of_decide_eq_true (by first | (with_reducible assumption) | assumption)
               obtain ⟨ad212, e212, hx212_0, hx212_1⟩ := at_T49 HR1.out x7_2 p212 q212
               cases e212
               replace hx212_0 := (HB.out.cell (World.block_lt_of_cell? w _ hx212_0)).trans hx212_0
               replace hx212_1 := (HB.out.cell (World.block_lt_of_cell? w _ hx212_1)).trans hx212_1
               replace p212 := eq_true p212
               replace q212 := eq_true q212
               go_upto_block 2 with (fail)
               go_cut [] (fun wc => ∃ (kq : Nat) (x210000_14 : Int) (x210001_14 : Int) (x210002_14 : ByteArray) (x211000_14 : ByteArray) (x211001_14 : Int) (x211002_14 : Int), Aside0 (wireReads.j2 kq l1 x7_2 x210000_14 x210001_14 x210002_14 x211000_14 x211001_14 x211002_14 = some r) ∧ Aside0 (kq ≤ k2) ∧ Aside0 (wc.heap[gb210]? = some (.cells #[.string x211000_14, .int .i64 x211001_14, .int .i64 x211002_14] 47 (0, 0))) ∧ Aside0 (IsS83 w wc g209 x210000_14 x210001_14 x210002_14) ∧ Aside0 (Below w.heap.size w wc))
               case first =>
                 have H := HC15.out
                 clear HC15
                 by_cases c16 : ((rd_T49 l1 x7_2).f0) = 0
                 · rw [if_pos c16] at H
                   have c16b0 : (((rd_T49 l1 x7_2).f0) == 0) = true := beq_iff_eq.mpr c16
                   have c16b1 : (((rd_T49 l1 x7_2).f0) != 0) = false := bne_eq_false_iff_eq.mpr c16
                   clear c16
                   (first | rw [c16b0] | (simp only [i64_w, i32_w]; rw [c16b0]) | skip)
                   replace H := Option.bind_eq_some_iff.mp H
                   obtain ⟨⟨t214, t215, t216, t217⟩, A170, H⟩ := H
                   replace H : ((wire_Reader_Number.f x210000_2 x210001_2 x210002_2 ((rd_T49 l1 x7_2).f1)).bind fun bt220 => (if bt220.1 = t214 then (wireReads.j2 k2 l1 x7_2 bt220.2.1 bt220.2.2.1 bt220.2.2.2 t215 t216 t217) else (some false))) = some r := H
                   have A17 := Aside0.mk A170
                   clear A170
                   replace H := Option.bind_eq_some_iff.mp H
                   obtain ⟨⟨t220, t221, t222, t223⟩, A180, H⟩ := H
                   replace H : (if t220 = t214 then (wireReads.j2 k2 l1 x7_2 t221 t222 t223 t215 t216 t217) else (some false)) = some r := H
                   have A18 := Aside0.mk A180
                   clear A180
                   by_cases c19 : t220 = t214
                   · rw [if_pos c19] at H
                     have c19b0 : (t220 == t214) = true := beq_iff_eq.mpr c19
                     have c19b1 : (t220 != t214) = false := bne_eq_false_iff_eq.mpr c19
                     clear c19
                     have H' := Aside0.mk H
                     clear H
                     try go_wp2
                     have n0_ := Aside0.mk (blk_drew BK210.out)
                     have n1_ := Aside0.mk (IsS83.drew HI209.out)
                     have n2_ := Aside0.mk (below_drew1 HB.out)
                     clear BK210
                     clear HI209
                     clear HB
                     have BK210 := n0_
                     have HI209 := n1_
                     have HB := n2_
                     clear n0_ n1_ n2_
                     have p213 : 0 ≤ (x7_2 : Int) := of_decide_eq_true (by first | (with_reducible assumption) | assumption)
                     have q213 : x7_2 < (l1.length : Int) := of_decide_eq_true (by first | (with_reducible assumption) | assumption)
                     obtain ⟨ad213, e213, hx213_0, hx213_1⟩ := at_T49 HR1.out x7_2 p213 q213
                     have hw213_1 := hx213_1
                     have hw213_0 := hx213_0
                     obtain rfl : ad212 = ad213 := (by injection e213)
                     replace hx213_0 := (HB.out.cell (World.block_lt_of_cell? w _ hx213_0)).trans hx213_0
                     replace hx213_1 := (HB.out.cell (World.block_lt_of_cell? w _ hx213_1)).trans hx213_1
                     replace p213 := eq_true p213
                     replace q213 := eq_true q213
                     refine start_ (n := 13) (S := fun w' => w'.cell? ⟨gb210, 0, none⟩ = some (.string x211000_2) ∧ w'.cell? ⟨gb210, 1, none⟩ = some (.int .i64 x211001_2) ∧ w'.cell? ⟨gb210, 2, none⟩ = some (.int .i64 x211002_2) ∧ w'.cell? (ad212.add ((x7_2).toNat * 2)) = some (.int .i64 ((rd_T49 l1 x7_2).f0)) ∧ w'.cell? ⟨(ad212.add ((x7_2).toNat * 2)).block, (ad212.add ((x7_2).toNat * 2)).off + 1, none⟩ = some (.int .i64 ((rd_T49 l1 x7_2).f1))) (ds := []) #[false, false, false, false, false, false, false, false, false, false, false, false, false] (by kernel_rfl) rfl rfl ⟨(blk_cell BK210.out 0).trans rfl, (blk_cell BK210.out 1).trans rfl, (blk_cell BK210.out 2).trans rfl, ((HB.out.cell (World.block_lt_of_cell? w _ hw213_0)).trans hw213_0), ((HB.out.cell (World.block_lt_of_cell? w _ hw213_1)).trans hw213_1)⟩ (fun hHeld => ?_); refine with_tabW wireReads.tab9 wireReads.bits9 (fun HT_ HW_ => ?_)
                     generalize wr.drew = w20 at BK210 HI209 HB hx213_0 hx213_1 hHeld ⊢
                     refine pure_ (i := 1) (N := some 45) (v := ?_) (a' := ?_) #[false, true, false, false, false, false, false, false, false, false, false, false, false] rfl rfl (any_of HT_.out (by kernel_rfl)) (fun _ _ _ h => h) (Or.inl ⟨by rfl, ?_⟩) ?_ ?_
                     rotate_left
                     · intro w'
                       go_simp
                       with_reducible rfl
                     rotate_left
                     · simp only [Act.put, List.setIfInBounds_toArray, List.set_cons_zero, List.set_cons_succ, i64_w, i32_w]
                       rfl
                     refine pure_ (i := 2) (N := some 46) (v := ?_) (a' := ?_) #[false, true, true, false, false, false, false, false, false, false, false, false, false] rfl rfl (any_of HT_.out (by kernel_rfl)) (fun _ _ _ h => h) (Or.inl ⟨by rfl, ?_⟩) ?_ ?_
                     rotate_left
                     · intro w'
                       go_simp
                       with_reducible rfl
                     rotate_left
                     · simp only [Act.put, List.setIfInBounds_toArray, List.set_cons_zero, List.set_cons_succ, i64_w, i32_w]
                       rfl
                     refine pure_ (i := 3) (N := some 47) (v := ?_) (a' := ?_) #[false, true, true, true, false, false, false, false, false, false, false, false, false] rfl rfl (any_of HT_.out (by kernel_rfl)) (fun _ _ _ h => h) (Or.inl ⟨by rfl, ?_⟩) ?_ ?_
                     rotate_left
                     · intro w'
                       go_simp
                       with_reducible rfl
                     rotate_left
                     · simp only [Act.put, List.setIfInBounds_toArray, List.set_cons_zero, List.set_cons_succ, i64_w, i32_w]
                       rfl
                     refine pure_ (i := 4) (N := some 48) (v := ?_) (a' := ?_) #[false, true, true, true, true, false, false, false, false, false, false, false, false] rfl rfl (any_of HT_.out (by kernel_rfl)) (fun _ _ _ h => h) (Or.inl ⟨by rfl, ?_⟩) ?_ ?_
                     rotate_left
                     · intro w'
                       go_simp
                       with_reducible rfl
                     rotate_left
                     · simp only [Act.put, List.setIfInBounds_toArray, List.set_cons_zero, List.set_cons_succ, i64_w, i32_w]
                       rfl
                     refine take_ (i := 0) (N := some 44) (v := ?_) (a' := ?_) #[true, true, true, true, true, false, false, false, false, false, false, false, false] rfl rfl (take_ofW HT_.out HW_.out (by kernel_rfl)) (fun _ _ _ h => h) (Or.inl ⟨by rfl, ?_⟩) hHeld ?_ ?_
                     rotate_left
                     · rintro w' ⟨s0, s1, s2, s3, s4⟩
                       go_simp
                       with_reducible rfl
                     rotate_left
                     · simp only [Act.put, List.setIfInBounds_toArray, List.set_cons_zero, List.set_cons_succ, i64_w, i32_w]
                       rfl
                     refine take_ (i := 5) (N := some 49) (v := ?_) (a' := ?_) #[true, true, true, true, true, true, false, false, false, false, false, false, false] rfl rfl (take_ofW HT_.out HW_.out (by kernel_rfl)) (fun _ _ _ h => h) (Or.inl ⟨by rfl, ?_⟩) hHeld ?_ ?_
                     rotate_left
                     · rintro w' ⟨s0, s1, s2, s3, s4⟩
                       go_simp
                       with_reducible rfl
                     rotate_left
                     · simp only [Act.put, List.setIfInBounds_toArray, List.set_cons_zero, List.set_cons_succ, i64_w, i32_w]
                       rfl
                     refine join_ (σ := Nat) 2 #[true, true, true, true, true, true, true, true, true, true, true, false, false] (fun s_ => [(50, .tuple #[.int .i64 t214, .agg #[.string t215, .int .i64 t216, .int .i64 t217]]), (9, .pointer (some ⟨s_, 0, none⟩)), (43, .tuple #[.int .i64 t214, .agg #[.string t215, .int .i64 t216, .int .i64 t217]]), (51, .int .i64 t214), (52, .agg #[.string t215, .int .i64 t216, .int .i64 t217])]) (fun s_ w' => (w'.cell? ⟨gb210, 0, none⟩ = some (.string x211000_2) ∧ w'.cell? ⟨gb210, 1, none⟩ = some (.int .i64 x211001_2) ∧ w'.cell? ⟨gb210, 2, none⟩ = some (.int .i64 x211002_2) ∧ w'.cell? (ad212.add ((x7_2).toNat * 2)) = some (.int .i64 ((rd_T49 l1 x7_2).f0)) ∧ w'.cell? ⟨(ad212.add ((x7_2).toNat * 2)).block, (ad212.add ((x7_2).toNat * 2)).off + 1, none⟩ = some (.int .i64 ((rd_T49 l1 x7_2).f1))) ∧ (w'.heap[gb210]? = some (.cells #[.string x211000_2, .int .i64 x211001_2, .int .i64 x211002_2] 47 (0, 0))) ∧ (w'.heap[s_]? = some (.cells #[.string (⟨#[]⟩ : ByteArray), .int .i64 0, .int .i64 0] 47 (0, 0))) ∧ (w.heap.size ≤ s_) ∧ (w.heap.size ≤ s_) ∧ (g209 ≠ s_) ∧ (s_ ≠ g209) ∧ (gb210 ≠ s_) ∧ (s_ ≠ gb210) ∧ (IsS83 w w' g209 x210000_2 x210001_2 x210002_2) ∧ (Below w.heap.size w w')) ?_ ?_
                     rotate_left
                     · intro hCont
                       refine two_ (i := 6) (j := 10) (Ni := some 50) (Nj := some 9) #[true, true, true, true, true, true, true, false, false, false, false, false, false] #[true, true, true, true, true, true, false, false, false, false, true, false, false] rfl rfl rfl rfl (two_of HT_.out (by kernel_rfl)) (by decide) (by decide) (fun K hK => ?_) (fun K hK => ?_)
                       · skip
                         refine goes_ Try.func36 (by kernel_rfl) rfl #[.agg #[.string x211000_2, .int .i64 x211001_2, .int .i64 x211002_2], .int .i64 ((rd_T49 l1 x7_2).f1)] (by rfl) rfl rfl (by (try simp only [List.map_toArray, List.map_cons, List.map_nil]); first | done | rfl | (simp only [List.length_drop, List.length_take]; rfl)) ?_
                         with_reducible refine (transhumanceref01_Number.calls k2 x211000_2 x211001_2 x211002_2 ((rd_T49 l1 x7_2).f1) t214 t215 t216 t217 _ A17.out).mono ?_
                         rintro e w21 ⟨rfl, hb⟩
                         refine ⟨_, rfl, ?_⟩
                         have n0_ := Aside0.mk (blk_below (g := gb210) (o := .cells #[.string x211000_2, .int .i64 x211001_2, .int .i64 x211002_2] 47 (0, 0)) (by (with_reducible repeat (first | refine blk_drewN ?_ _ | refine blk_drew ?_ | refine blk_alloc ?_ _)); exact BK210.out) hb)
                         have n1_ := Aside0.mk (IsS83.below (by repeat (first | (with_reducible first | exact HI209.out | apply IsS83.alloc | apply IsS83.drewN | apply IsS83.drew | apply IsS83.set_0 | apply IsS83.set_1 | apply IsS83.set_2 | refine IsS83.far ?_ NB209_210.out _) | exact HI209.out)) hb)
                         have n2_ := Aside0.mk (below_step (by repeat (first | (with_reducible first | exact HB.out | apply below_alloc | apply pw_below_drewN | apply below_drew1 | refine below_set ?_ (IsS83.ge HI209.out) | refine below_set ?_ GE210.out) | exact HB.out)) hb)
                         clear BK210
                         clear HI209
                         clear HB
                         have BK210 := n0_
                         have HI209 := n1_
                         have HB := n2_
                         clear n0_ n1_ n2_
                         (try clear hb)
                         (try clear hb2)
                         (try clear hk)
                         (try clear hi)
                         refine hK.out _ _ ⟨(blk_cell BK210.out 0).trans rfl, (blk_cell BK210.out 1).trans rfl, (blk_cell BK210.out 2).trans rfl, ((HB.out.cell (World.block_lt_of_cell? w _ hw213_0)).trans hw213_0), ((HB.out.cell (World.block_lt_of_cell? w _ hw213_1)).trans hw213_1)⟩ (fun hHeld => ?_)
                         clear hK K
                         refine norm_ (a' := ?_) ?_ ?_
                         rotate_left
                         · show Act.put _ (some 50) _ = _
                           simp only [Act.put, List.setIfInBounds_toArray, List.set_cons_zero, List.set_cons_succ, i64_w, i32_w]
                           rfl
                         refine pure_ (i := 7) (N := some 43) (v := ?_) (a' := ?_) #[true, true, true, true, true, true, true, true, false, false, false, false, false] rfl rfl (any_of HT_.out (by kernel_rfl)) (fun _ _ _ h => h) (Or.inl ⟨by rfl, ?_⟩) ?_ ?_
                         rotate_left
                         · intro w'
                           go_simp
                           with_reducible rfl
                         rotate_left
                         · simp only [Act.put, List.setIfInBounds_toArray, List.set_cons_zero, List.set_cons_succ, i64_w, i32_w]
                           rfl
                         refine pure_ (i := 8) (N := some 51) (v := ?_) (a' := ?_) #[true, true, true, true, true, true, true, true, true, false, false, false, false] rfl rfl (any_of HT_.out (by kernel_rfl)) (fun _ _ _ h => h) (Or.inl ⟨by rfl, ?_⟩) ?_ ?_
                         rotate_left
                         · intro w'
                           go_simp
                           with_reducible rfl
                         rotate_left
                         · simp only [Act.put, List.setIfInBounds_toArray, List.set_cons_zero, List.set_cons_succ, i64_w, i32_w]
                           rfl
                         refine pure_ (i := 9) (N := some 52) (v := ?_) (a' := ?_) #[true, true, true, true, true, true, true, true, true, true, false, false, false] rfl rfl (any_of HT_.out (by kernel_rfl)) (fun _ _ _ h => h) (Or.inl ⟨by rfl, ?_⟩) ?_ ?_
                         rotate_left
                         · intro w'
                           go_simp
                           with_reducible rfl
                         rotate_left
                         · simp only [Act.put, List.setIfInBounds_toArray, List.set_cons_zero, List.set_cons_succ, i64_w, i32_w]
                           rfl
                         refine one_ (i := 10) (N := some 9) #[true, true, true, true, true, true, true, true, true, true, true, false, false] rfl rfl (one_of HT_.out (by kernel_rfl)) (by decide) (fun K hK => ?_)
                         refine box_step ?hg (N := 9) ?hd (cs := #[.string (⟨#[]⟩ : ByteArray), .int .i64 0, .int .i64 0]) (t := 47) ?hr ?_; (case hd => rfl); (case hg => rfl); (case hr => first | (go_simp; done) | (go_simp; rfl))
                         intro gb218 hg w22 hbox hb
                         have n0_ := Aside0.mk (blk_below (g := gb210) (o := .cells #[.string x211000_2, .int .i64 x211001_2, .int .i64 x211002_2] 47 (0, 0)) (by (with_reducible repeat (first | refine blk_drewN ?_ _ | refine blk_drew ?_ | refine blk_alloc ?_ _)); exact BK210.out) hb)
                         have n1_ := Aside0.mk (IsS83.below (by repeat (first | (with_reducible first | exact HI209.out | apply IsS83.alloc | apply IsS83.drewN | apply IsS83.drew | apply IsS83.set_0 | apply IsS83.set_1 | apply IsS83.set_2 | refine IsS83.far ?_ NB209_210.out _) | exact HI209.out)) hb)
                         have n2_ := Aside0.mk (below_step (by repeat (first | (with_reducible first | exact HB.out | apply below_alloc | apply pw_below_drewN | apply below_drew1 | refine below_set ?_ (IsS83.ge HI209.out) | refine below_set ?_ GE210.out) | exact HB.out)) hb)
                         have n3_ := Aside0.mk (hbox)
                         have n4_ := Aside0.mk ((by rw [hg]; exact (below_size (by repeat (first | (with_reducible first | exact HB.out | apply below_alloc | apply pw_below_drewN | apply below_drew1 | refine below_set ?_ (IsS83.ge HI209.out) | refine below_set ?_ GE210.out) | exact HB.out))) : w.heap.size ≤ gb218))
                         have n5_ := Aside0.mk ((by rw [hg]; exact (below_size (by repeat (first | (with_reducible first | exact HB.out | apply below_alloc | apply pw_below_drewN | apply below_drew1 | refine below_set ?_ (IsS83.ge HI209.out) | refine below_set ?_ GE210.out) | exact HB.out))) : w.heap.size ≤ gb218))
                         have n6_ := Aside0.mk ((by rw [hg]; exact Nat.ne_of_lt (blk_lt (g := gb210) (o := .cells #[.string x211000_2, .int .i64 x211001_2, .int .i64 x211002_2] 47 (0, 0)) (by (with_reducible repeat (first | refine blk_drewN ?_ _ | refine blk_drew ?_ | refine blk_alloc ?_ _)); exact BK210.out)) : gb210 ≠ gb218))
                         have n7_ := Aside0.mk ((by rw [hg]; exact Nat.ne_of_gt (blk_lt (g := gb210) (o := .cells #[.string x211000_2, .int .i64 x211001_2, .int .i64 x211002_2] 47 (0, 0)) (by (with_reducible repeat (first | refine blk_drewN ?_ _ | refine blk_drew ?_ | refine blk_alloc ?_ _)); exact BK210.out)) : gb218 ≠ gb210))
                         have n8_ := Aside0.mk ((by rw [hg]; exact Nat.ne_of_lt (IsS83.lt (show IsS83 w _ g209 x210000_2 x210001_2 x210002_2 from by repeat (first | (with_reducible first | exact HI209.out | apply IsS83.alloc | apply IsS83.drewN | apply IsS83.drew | apply IsS83.set_0 | apply IsS83.set_1 | apply IsS83.set_2 | refine IsS83.far ?_ NB209_210.out _) | exact HI209.out))) : g209 ≠ gb218))
                         have n9_ := Aside0.mk ((by rw [hg]; exact Nat.ne_of_gt (IsS83.lt (show IsS83 w _ g209 x210000_2 x210001_2 x210002_2 from by repeat (first | (with_reducible first | exact HI209.out | apply IsS83.alloc | apply IsS83.drewN | apply IsS83.drew | apply IsS83.set_0 | apply IsS83.set_1 | apply IsS83.set_2 | refine IsS83.far ?_ NB209_210.out _) | exact HI209.out))) : gb218 ≠ g209))
                         clear BK210
                         clear HI209
                         clear HB
                         have BK210 := n0_
                         have HI209 := n1_
                         have HB := n2_
                         have BK218 := n3_
                         have GW218 := n4_
                         have GE218 := n5_
                         have NB210_218 := n6_
                         have NB218_210 := n7_
                         have NB209_218 := n8_
                         have NB218_209 := n9_
                         clear n0_ n1_ n2_ n3_ n4_ n5_ n6_ n7_ n8_ n9_
                         clear hb hbox hg
                         refine hK.out _ _ ⟨(blk_cell BK210.out 0).trans rfl, (blk_cell BK210.out 1).trans rfl, (blk_cell BK210.out 2).trans rfl, ((HB.out.cell (World.block_lt_of_cell? w _ hw213_0)).trans hw213_0), ((HB.out.cell (World.block_lt_of_cell? w _ hw213_1)).trans hw213_1)⟩ (fun hHeld => ?_)
                         clear hK K
                         refine norm_ (a' := ?_) ?_ ?_
                         rotate_left
                         · show Act.put _ (some 9) _ = _
                           simp only [Act.put, List.setIfInBounds_toArray, List.set_cons_zero, List.set_cons_succ, i64_w, i32_w]
                           rfl
                         exact norm_ (by simp only [putAll, Act.put, List.setIfInBounds_toArray, List.set_cons_zero, List.set_cons_succ]) (hCont (gb218) _ ⟨hHeld, (by (with_reducible repeat (first | refine blk_drewN ?_ _ | refine blk_drew ?_ | refine blk_alloc ?_ _)); exact BK210.out), (by (with_reducible repeat (first | refine blk_drewN ?_ _ | refine blk_drew ?_ | refine blk_alloc ?_ _)); exact BK218.out), GW218.out, GE218.out, NB209_218.out, NB218_209.out, NB210_218.out, NB218_210.out, (by repeat (first | (with_reducible first | exact HI209.out | apply IsS83.alloc | apply IsS83.drewN | apply IsS83.drew | apply IsS83.set_0 | apply IsS83.set_1 | apply IsS83.set_2 | refine IsS83.far ?_ NB209_210.out _ | refine IsS83.far ?_ NB209_218.out _) | exact HI209.out)), (by repeat (first | (with_reducible first | exact HB.out | apply below_alloc | apply pw_below_drewN | apply below_drew1 | refine below_set ?_ (IsS83.ge HI209.out) | refine below_set ?_ GE210.out | refine below_set ?_ GE218.out) | exact HB.out))⟩)
                       · skip
                         refine box_step ?hg (N := 9) ?hd (cs := #[.string (⟨#[]⟩ : ByteArray), .int .i64 0, .int .i64 0]) (t := 47) ?hr ?_; (case hd => rfl); (case hg => rfl); (case hr => first | (go_simp; done) | (go_simp; rfl))
                         intro gb218 hg w21 hbox hb
                         have n0_ := Aside0.mk (blk_below (g := gb210) (o := .cells #[.string x211000_2, .int .i64 x211001_2, .int .i64 x211002_2] 47 (0, 0)) (by (with_reducible repeat (first | refine blk_drewN ?_ _ | refine blk_drew ?_ | refine blk_alloc ?_ _)); exact BK210.out) hb)
                         have n1_ := Aside0.mk (IsS83.below (by repeat (first | (with_reducible first | exact HI209.out | apply IsS83.alloc | apply IsS83.drewN | apply IsS83.drew | apply IsS83.set_0 | apply IsS83.set_1 | apply IsS83.set_2 | refine IsS83.far ?_ NB209_210.out _) | exact HI209.out)) hb)
                         have n2_ := Aside0.mk (below_step (by repeat (first | (with_reducible first | exact HB.out | apply below_alloc | apply pw_below_drewN | apply below_drew1 | refine below_set ?_ (IsS83.ge HI209.out) | refine below_set ?_ GE210.out) | exact HB.out)) hb)
                         have n3_ := Aside0.mk (hbox)
                         have n4_ := Aside0.mk ((by rw [hg]; exact (below_size (by repeat (first | (with_reducible first | exact HB.out | apply below_alloc | apply pw_below_drewN | apply below_drew1 | refine below_set ?_ (IsS83.ge HI209.out) | refine below_set ?_ GE210.out) | exact HB.out))) : w.heap.size ≤ gb218))
                         have n5_ := Aside0.mk ((by rw [hg]; exact (below_size (by repeat (first | (with_reducible first | exact HB.out | apply below_alloc | apply pw_below_drewN | apply below_drew1 | refine below_set ?_ (IsS83.ge HI209.out) | refine below_set ?_ GE210.out) | exact HB.out))) : w.heap.size ≤ gb218))
                         have n6_ := Aside0.mk ((by rw [hg]; exact Nat.ne_of_lt (blk_lt (g := gb210) (o := .cells #[.string x211000_2, .int .i64 x211001_2, .int .i64 x211002_2] 47 (0, 0)) (by (with_reducible repeat (first | refine blk_drewN ?_ _ | refine blk_drew ?_ | refine blk_alloc ?_ _)); exact BK210.out)) : gb210 ≠ gb218))
                         have n7_ := Aside0.mk ((by rw [hg]; exact Nat.ne_of_gt (blk_lt (g := gb210) (o := .cells #[.string x211000_2, .int .i64 x211001_2, .int .i64 x211002_2] 47 (0, 0)) (by (with_reducible repeat (first | refine blk_drewN ?_ _ | refine blk_drew ?_ | refine blk_alloc ?_ _)); exact BK210.out)) : gb218 ≠ gb210))
                         have n8_ := Aside0.mk ((by rw [hg]; exact Nat.ne_of_lt (IsS83.lt (show IsS83 w _ g209 x210000_2 x210001_2 x210002_2 from by repeat (first | (with_reducible first | exact HI209.out | apply IsS83.alloc | apply IsS83.drewN | apply IsS83.drew | apply IsS83.set_0 | apply IsS83.set_1 | apply IsS83.set_2 | refine IsS83.far ?_ NB209_210.out _) | exact HI209.out))) : g209 ≠ gb218))
                         have n9_ := Aside0.mk ((by rw [hg]; exact Nat.ne_of_gt (IsS83.lt (show IsS83 w _ g209 x210000_2 x210001_2 x210002_2 from by repeat (first | (with_reducible first | exact HI209.out | apply IsS83.alloc | apply IsS83.drewN | apply IsS83.drew | apply IsS83.set_0 | apply IsS83.set_1 | apply IsS83.set_2 | refine IsS83.far ?_ NB209_210.out _) | exact HI209.out))) : gb218 ≠ g209))
                         clear BK210
                         clear HI209
                         clear HB
                         have BK210 := n0_
                         have HI209 := n1_
                         have HB := n2_
                         have BK218 := n3_
                         have GW218 := n4_
                         have GE218 := n5_
                         have NB210_218 := n6_
                         have NB218_210 := n7_
                         have NB209_218 := n8_
                         have NB218_209 := n9_
                         clear n0_ n1_ n2_ n3_ n4_ n5_ n6_ n7_ n8_ n9_
                         clear hb hbox hg
                         refine hK.out _ _ ⟨(blk_cell BK210.out 0).trans rfl, (blk_cell BK210.out 1).trans rfl, (blk_cell BK210.out 2).trans rfl, ((HB.out.cell (World.block_lt_of_cell? w _ hw213_0)).trans hw213_0), ((HB.out.cell (World.block_lt_of_cell? w _ hw213_1)).trans hw213_1)⟩ (fun hHeld => ?_)
                         clear hK K
                         refine norm_ (a' := ?_) ?_ ?_
                         rotate_left
                         · show Act.put _ (some 9) _ = _
                           simp only [Act.put, List.setIfInBounds_toArray, List.set_cons_zero, List.set_cons_succ, i64_w, i32_w]
                           rfl
                         refine one_ (i := 6) (N := some 50) #[true, true, true, true, true, true, true, false, false, false, true, false, false] rfl rfl (one_of HT_.out (by kernel_rfl)) (by decide) (fun K hK => ?_)
                         refine goes_ Try.func36 (by kernel_rfl) rfl #[.agg #[.string x211000_2, .int .i64 x211001_2, .int .i64 x211002_2], .int .i64 ((rd_T49 l1 x7_2).f1)] (by rfl) rfl rfl (by (try simp only [List.map_toArray, List.map_cons, List.map_nil]); first | done | rfl | (simp only [List.length_drop, List.length_take]; rfl)) ?_
                         with_reducible refine (transhumanceref01_Number.calls k2 x211000_2 x211001_2 x211002_2 ((rd_T49 l1 x7_2).f1) t214 t215 t216 t217 _ A17.out).mono ?_
                         rintro e w22 ⟨rfl, hb⟩
                         refine ⟨_, rfl, ?_⟩
                         have n0_ := Aside0.mk (blk_below (g := gb210) (o := .cells #[.string x211000_2, .int .i64 x211001_2, .int .i64 x211002_2] 47 (0, 0)) (by (with_reducible repeat (first | refine blk_drewN ?_ _ | refine blk_drew ?_ | refine blk_alloc ?_ _)); exact BK210.out) hb)
                         have n1_ := Aside0.mk (IsS83.below (by repeat (first | (with_reducible first | exact HI209.out | apply IsS83.alloc | apply IsS83.drewN | apply IsS83.drew | apply IsS83.set_0 | apply IsS83.set_1 | apply IsS83.set_2 | refine IsS83.far ?_ NB209_210.out _ | refine IsS83.far ?_ NB209_218.out _) | exact HI209.out)) hb)
                         have n2_ := Aside0.mk (blk_below (g := gb218) (o := .cells #[.string (⟨#[]⟩ : ByteArray), .int .i64 0, .int .i64 0] 47 (0, 0)) (by (with_reducible repeat (first | refine blk_drewN ?_ _ | refine blk_drew ?_ | refine blk_alloc ?_ _)); exact BK218.out) hb)
                         have n3_ := Aside0.mk (below_step (by repeat (first | (with_reducible first | exact HB.out | apply below_alloc | apply pw_below_drewN | apply below_drew1 | refine below_set ?_ (IsS83.ge HI209.out) | refine below_set ?_ GE210.out | refine below_set ?_ GE218.out) | exact HB.out)) hb)
                         clear BK210
                         clear HI209
                         clear BK218
                         clear HB
                         have BK210 := n0_
                         have HI209 := n1_
                         have BK218 := n2_
                         have HB := n3_
                         clear n0_ n1_ n2_ n3_
                         (try clear hb)
                         (try clear hb2)
                         (try clear hk)
                         (try clear hi)
                         refine hK.out _ _ ⟨(blk_cell BK210.out 0).trans rfl, (blk_cell BK210.out 1).trans rfl, (blk_cell BK210.out 2).trans rfl, ((HB.out.cell (World.block_lt_of_cell? w _ hw213_0)).trans hw213_0), ((HB.out.cell (World.block_lt_of_cell? w _ hw213_1)).trans hw213_1)⟩ (fun hHeld => ?_)
                         clear hK K
                         refine norm_ (a' := ?_) ?_ ?_
                         rotate_left
                         · show Act.put _ (some 50) _ = _
                           simp only [Act.put, List.setIfInBounds_toArray, List.set_cons_zero, List.set_cons_succ, i64_w, i32_w]
                           rfl
                         refine pure_ (i := 7) (N := some 43) (v := ?_) (a' := ?_) #[true, true, true, true, true, true, true, true, false, false, true, false, false] rfl rfl (any_of HT_.out (by kernel_rfl)) (fun _ _ _ h => h) (Or.inl ⟨by rfl, ?_⟩) ?_ ?_
                         rotate_left
                         · intro w'
                           go_simp
                           with_reducible rfl
                         rotate_left
                         · simp only [Act.put, List.setIfInBounds_toArray, List.set_cons_zero, List.set_cons_succ, i64_w, i32_w]
                           rfl
                         refine pure_ (i := 8) (N := some 51) (v := ?_) (a' := ?_) #[true, true, true, true, true, true, true, true, true, false, true, false, false] rfl rfl (any_of HT_.out (by kernel_rfl)) (fun _ _ _ h => h) (Or.inl ⟨by rfl, ?_⟩) ?_ ?_
                         rotate_left
                         · intro w'
                           go_simp
                           with_reducible rfl
                         rotate_left
                         · simp only [Act.put, List.setIfInBounds_toArray, List.set_cons_zero, List.set_cons_succ, i64_w, i32_w]
                           rfl
                         refine pure_ (i := 9) (N := some 52) (v := ?_) (a' := ?_) #[true, true, true, true, true, true, true, true, true, true, true, false, false] rfl rfl (any_of HT_.out (by kernel_rfl)) (fun _ _ _ h => h) (Or.inl ⟨by rfl, ?_⟩) ?_ ?_
                         rotate_left
                         · intro w'
                           go_simp
                           with_reducible rfl
                         rotate_left
                         · simp only [Act.put, List.setIfInBounds_toArray, List.set_cons_zero, List.set_cons_succ, i64_w, i32_w]
                           rfl
                         exact norm_ (by simp only [putAll, Act.put, List.setIfInBounds_toArray, List.set_cons_zero, List.set_cons_succ]) (hCont (gb218) _ ⟨hHeld, (by (with_reducible repeat (first | refine blk_drewN ?_ _ | refine blk_drew ?_ | refine blk_alloc ?_ _)); exact BK210.out), (by (with_reducible repeat (first | refine blk_drewN ?_ _ | refine blk_drew ?_ | refine blk_alloc ?_ _)); exact BK218.out), GW218.out, GE218.out, NB209_218.out, NB218_209.out, NB210_218.out, NB218_210.out, (by repeat (first | (with_reducible first | exact HI209.out | apply IsS83.alloc | apply IsS83.drewN | apply IsS83.drew | apply IsS83.set_0 | apply IsS83.set_1 | apply IsS83.set_2 | refine IsS83.far ?_ NB209_210.out _ | refine IsS83.far ?_ NB209_218.out _) | exact HI209.out)), (by repeat (first | (with_reducible first | exact HB.out | apply below_alloc | apply pw_below_drewN | apply below_drew1 | refine below_set ?_ (IsS83.ge HI209.out) | refine below_set ?_ GE210.out | refine below_set ?_ GE218.out) | exact HB.out))⟩)
                     rintro gb218 w23 ⟨hS_, h0_, h1_, h2_, h3_, h4_, h5_, h6_, h7_, h8_, h9_⟩
                     have n0_ : Aside0 (w23.heap[gb210]? = some (.cells #[.string x211000_2, .int .i64 x211001_2, .int .i64 x211002_2] 47 (0, 0))) := ⟨h0_⟩
                     have n1_ : Aside0 (w23.heap[gb218]? = some (.cells #[.string (⟨#[]⟩ : ByteArray), .int .i64 0, .int .i64 0] 47 (0, 0))) := ⟨h1_⟩
                     have n2_ : Aside0 (w.heap.size ≤ gb218) := ⟨h2_⟩
                     have n3_ : Aside0 (w.heap.size ≤ gb218) := ⟨h3_⟩
                     have n4_ : Aside0 (g209 ≠ gb218) := ⟨h4_⟩
                     have n5_ : Aside0 (gb218 ≠ g209) := ⟨h5_⟩
                     have n6_ : Aside0 (gb210 ≠ gb218) := ⟨h6_⟩
                     have n7_ : Aside0 (gb218 ≠ gb210) := ⟨h7_⟩
                     have n8_ : Aside0 (IsS83 w w23 g209 x210000_2 x210001_2 x210002_2) := ⟨h8_⟩
                     have n9_ : Aside0 (Below w.heap.size w w23) := ⟨h9_⟩
                     clear BK210
                     clear HI209
                     clear HB
                     clear h0_ h1_ h2_ h3_ h4_ h5_ h6_ h7_ h8_ h9_
                     have BK210 := n0_
                     have BK218 := n1_
                     have GW218 := n2_
                     have GE218 := n3_
                     have NB209_218 := n4_
                     have NB218_209 := n5_
                     have NB210_218 := n6_
                     have NB218_210 := n7_
                     have HI209 := n8_
                     have HB := n9_
                     clear n0_ n1_ n2_ n3_ n4_ n5_ n6_ n7_ n8_ n9_
                     have hHeld : w23.cell? ⟨gb210, 0, none⟩ = some (.string x211000_2) ∧ w23.cell? ⟨gb210, 1, none⟩ = some (.int .i64 x211001_2) ∧ w23.cell? ⟨gb210, 2, none⟩ = some (.int .i64 x211002_2) ∧ w23.cell? (ad212.add ((x7_2).toNat * 2)) = some (.int .i64 ((rd_T49 l1 x7_2).f0)) ∧ w23.cell? ⟨(ad212.add ((x7_2).toNat * 2)).block, (ad212.add ((x7_2).toNat * 2)).off + 1, none⟩ = some (.int .i64 ((rd_T49 l1 x7_2).f1)) := hS_
                     refine norm_ (a' := ?_) ?_ ?_
                     rotate_left
                     · simp only [putAll, Act.put, List.setIfInBounds_toArray, List.set_cons_zero, List.set_cons_succ]
                       rfl
                     refine pure_ (i := 11) (N := some 8) (v := ?_) (a' := ?_) #[true, true, true, true, true, true, true, true, true, true, true, true, false] rfl rfl (any_of HT_.out (by kernel_rfl)) (fun _ _ _ h => h) (Or.inl ⟨by rfl, ?_⟩) ?_ ?_
                     rotate_left
                     · intro w'
                       go_simp
                       with_reducible rfl
                     rotate_left
                     · simp only [Act.put, List.setIfInBounds_toArray, List.set_cons_zero, List.set_cons_succ, i64_w, i32_w]
                       rfl
                     refine one_ (i := 12) (N := none) #[true, true, true, true, true, true, true, true, true, true, true, true, true] rfl rfl (one_of HT_.out (by kernel_rfl)) (by decide) (fun K hK => ?_)
                     have hs24 : w23.cell? ⟨gb218, 0, none⟩ = some (.string (⟨#[]⟩ : ByteArray)) := (blk_cell BK218.out 0).trans rfl
                     have hfs24 := blk_frozen BK218.out 0
                     have hns24_0 := NB210_218.out
                     have hms24_0 := NB218_210.out
                     have hs25 : w23.cell? ⟨gb218, 1, none⟩ = some (.int .i64 0) := (blk_cell BK218.out 1).trans rfl
                     have hfs25 := blk_frozen BK218.out 1
                     have hns25_0 := NB210_218.out
                     have hms25_0 := NB218_210.out
                     have hs26 : w23.cell? ⟨gb218, 2, none⟩ = some (.int .i64 0) := (blk_cell BK218.out 2).trans rfl
                     have hfs26 := blk_frozen BK218.out 2
                     have hns26_0 := NB210_218.out
                     have hms26_0 := NB218_210.out
                     refine skip_ (w1 := ?_) (by rfl) rfl ?_ ?_
                     rotate_left
                     · go_simp
                       rfl
                     refine hK.out _ _ ⟨((cell_far (p := ⟨gb218, _, none⟩) NB210_218.out _).trans (((cell_far (p := ⟨gb218, _, none⟩) NB210_218.out _).trans (((cell_far (p := ⟨gb218, _, none⟩) NB210_218.out _).trans (hHeld.1)))))), ((cell_far (p := ⟨gb218, _, none⟩) NB210_218.out _).trans (((cell_far (p := ⟨gb218, _, none⟩) NB210_218.out _).trans (((cell_far (p := ⟨gb218, _, none⟩) NB210_218.out _).trans (hHeld.2.1)))))), ((cell_far (p := ⟨gb218, _, none⟩) NB210_218.out _).trans (((cell_far (p := ⟨gb218, _, none⟩) NB210_218.out _).trans (((cell_far (p := ⟨gb218, _, none⟩) NB210_218.out _).trans (hHeld.2.2.1)))))), ((cell_far (p := ⟨gb218, _, none⟩) (by first | exact Nat.ne_of_lt (Nat.lt_of_lt_of_le (by have := World.block_lt_of_cell? _ _ hw213_0; first | rwa [add_block] at this | exact this) GW218.out) | (rw [add_block]; exact Nat.ne_of_lt (Nat.lt_of_lt_of_le (by have := World.block_lt_of_cell? _ _ hw213_0; first | rwa [add_block] at this | exact this) GW218.out)) | (show (Addr.add _ _).block ≠ _; rw [add_block]; exact Nat.ne_of_lt (Nat.lt_of_lt_of_le (by have := World.block_lt_of_cell? _ _ hw213_0; first | rwa [add_block] at this | exact this) GW218.out)) | (dsimp only; exact Nat.ne_of_lt (Nat.lt_of_lt_of_le (by have := World.block_lt_of_cell? _ _ hw213_0; first | rwa [add_block] at this | exact this) GW218.out))) _).trans (((cell_far (p := ⟨gb218, _, none⟩) (by first | exact Nat.ne_of_lt (Nat.lt_of_lt_of_le (by have := World.block_lt_of_cell? _ _ hw213_0; first | rwa [add_block] at this | exact this) GW218.out) | (rw [add_block]; exact Nat.ne_of_lt (Nat.lt_of_lt_of_le (by have := World.block_lt_of_cell? _ _ hw213_0; first | rwa [add_block] at this | exact this) GW218.out)) | (show (Addr.add _ _).block ≠ _; rw [add_block]; exact Nat.ne_of_lt (Nat.lt_of_lt_of_le (by have := World.block_lt_of_cell? _ _ hw213_0; first | rwa [add_block] at this | exact this) GW218.out)) | (dsimp only; exact Nat.ne_of_lt (Nat.lt_of_lt_of_le (by have := World.block_lt_of_cell? _ _ hw213_0; first | rwa [add_block] at this | exact this) GW218.out))) _).trans (((cell_far (p := ⟨gb218, _, none⟩) (by first | exact Nat.ne_of_lt (Nat.lt_of_lt_of_le (by have := World.block_lt_of_cell? _ _ hw213_0; first | rwa [add_block] at this | exact this) GW218.out) | (rw [add_block]; exact Nat.ne_of_lt (Nat.lt_of_lt_of_le (by have := World.block_lt_of_cell? _ _ hw213_0; first | rwa [add_block] at this | exact this) GW218.out)) | (show (Addr.add _ _).block ≠ _; rw [add_block]; exact Nat.ne_of_lt (Nat.lt_of_lt_of_le (by have := World.block_lt_of_cell? _ _ hw213_0; first | rwa [add_block] at this | exact this) GW218.out)) | (dsimp only; exact Nat.ne_of_lt (Nat.lt_of_lt_of_le (by have := World.block_lt_of_cell? _ _ hw213_0; first | rwa [add_block] at this | exact this) GW218.out))) _).trans (hHeld.2.2.2.1)))))), ((cell_far (p := ⟨gb218, _, none⟩) (by first | exact Nat.ne_of_lt (Nat.lt_of_lt_of_le (by have := World.block_lt_of_cell? _ _ hw213_1; first | rwa [add_block] at this | exact this) GW218.out) | (rw [add_block]; exact Nat.ne_of_lt (Nat.lt_of_lt_of_le (by have := World.block_lt_of_cell? _ _ hw213_1; first | rwa [add_block] at this | exact this) GW218.out)) | (show (Addr.add _ _).block ≠ _; rw [add_block]; exact Nat.ne_of_lt (Nat.lt_of_lt_of_le (by have := World.block_lt_of_cell? _ _ hw213_1; first | rwa [add_block] at this | exact this) GW218.out)) | (dsimp only; exact Nat.ne_of_lt (Nat.lt_of_lt_of_le (by have := World.block_lt_of_cell? _ _ hw213_1; first | rwa [add_block] at this | exact this) GW218.out))) _).trans (((cell_far (p := ⟨gb218, _, none⟩) (by first | exact Nat.ne_of_lt (Nat.lt_of_lt_of_le (by have := World.block_lt_of_cell? _ _ hw213_1; first | rwa [add_block] at this | exact this) GW218.out) | (rw [add_block]; exact Nat.ne_of_lt (Nat.lt_of_lt_of_le (by have := World.block_lt_of_cell? _ _ hw213_1; first | rwa [add_block] at this | exact this) GW218.out)) | (show (Addr.add _ _).block ≠ _; rw [add_block]; exact Nat.ne_of_lt (Nat.lt_of_lt_of_le (by have := World.block_lt_of_cell? _ _ hw213_1; first | rwa [add_block] at this | exact this) GW218.out)) | (dsimp only; exact Nat.ne_of_lt (Nat.lt_of_lt_of_le (by have := World.block_lt_of_cell? _ _ hw213_1; first | rwa [add_block] at this | exact this) GW218.out))) _).trans (((cell_far (p := ⟨gb218, _, none⟩) (by first | exact Nat.ne_of_lt (Nat.lt_of_lt_of_le (by have := World.block_lt_of_cell? _ _ hw213_1; first | rwa [add_block] at this | exact this) GW218.out) | (rw [add_block]; exact Nat.ne_of_lt (Nat.lt_of_lt_of_le (by have := World.block_lt_of_cell? _ _ hw213_1; first | rwa [add_block] at this | exact this) GW218.out)) | (show (Addr.add _ _).block ≠ _; rw [add_block]; exact Nat.ne_of_lt (Nat.lt_of_lt_of_le (by have := World.block_lt_of_cell? _ _ hw213_1; first | rwa [add_block] at this | exact this) GW218.out)) | (dsimp only; exact Nat.ne_of_lt (Nat.lt_of_lt_of_le (by have := World.block_lt_of_cell? _ _ hw213_1; first | rwa [add_block] at this | exact this) GW218.out))) _).trans (hHeld.2.2.2.2))))))⟩ (fun hHeld => ?_)
                     clear hK K
                     refine done_ (done_of HT_.out (by kernel_rfl)) ?_
                     have p219 : 0 ≤ (x7_2 : Int) := of_decide_eq_true (by first | (with_reducible assumption) | assumption)
                     have q219 : x7_2 < (l1.length : Int) := of_decide_eq_true (by first | (with_reducible assumption) | assumption)
                     obtain ⟨ad219, e219, hx219_0, hx219_1⟩ := at_T49 HR1.out x7_2 p219 q219
                     obtain rfl : ad212 = ad219 := (by injection e219)
                     have hn219_0 : ad212.block ≠ gb218 := Nat.ne_of_lt (Nat.lt_of_lt_of_le (by have := World.block_lt_of_cell? _ _ hx219_0; first | rwa [add_block] at this | exact this) GW218.out)
                     have hn219_1 : ad212.block ≠ gb218 := Nat.ne_of_lt (Nat.lt_of_lt_of_le (by have := World.block_lt_of_cell? _ _ hx219_0; first | rwa [add_block] at this | exact this) GW218.out)
                     have hn219_2 : ad212.block ≠ gb218 := Nat.ne_of_lt (Nat.lt_of_lt_of_le (by have := World.block_lt_of_cell? _ _ hx219_0; first | rwa [add_block] at this | exact this) GW218.out)
                     replace hx219_0 := (HB.out.cell (World.block_lt_of_cell? w _ hx219_0)).trans hx219_0
                     replace hx219_1 := (HB.out.cell (World.block_lt_of_cell? w _ hx219_1)).trans hx219_1
                     replace hx219_0 := (cell_far (p := ⟨gb218, 0, none⟩) (by first | (rw [add_block]; exact hn219_0) | (show (Addr.add _ _).block ≠ _; rw [add_block]; exact hn219_0) | exact hn219_0) (.string t215)).trans hx219_0
                     replace hx219_1 := (cell_far (p := ⟨gb218, 0, none⟩) (by first | (rw [add_block]; exact hn219_0) | (show (Addr.add _ _).block ≠ _; rw [add_block]; exact hn219_0) | exact hn219_0) (.string t215)).trans hx219_1
                     replace hx219_0 := (cell_far (p := ⟨gb218, 1, none⟩) (by first | (rw [add_block]; exact hn219_1) | (show (Addr.add _ _).block ≠ _; rw [add_block]; exact hn219_1) | exact hn219_1) (.int .i64 t216)).trans hx219_0
                     replace hx219_1 := (cell_far (p := ⟨gb218, 1, none⟩) (by first | (rw [add_block]; exact hn219_1) | (show (Addr.add _ _).block ≠ _; rw [add_block]; exact hn219_1) | exact hn219_1) (.int .i64 t216)).trans hx219_1
                     replace hx219_0 := (cell_far (p := ⟨gb218, 2, none⟩) (by first | (rw [add_block]; exact hn219_2) | (show (Addr.add _ _).block ≠ _; rw [add_block]; exact hn219_2) | exact hn219_2) (.int .i64 t217)).trans hx219_0
                     replace hx219_1 := (cell_far (p := ⟨gb218, 2, none⟩) (by first | (rw [add_block]; exact hn219_2) | (show (Addr.add _ _).block ≠ _; rw [add_block]; exact hn219_2) | exact hn219_2) (.int .i64 t217)).trans hx219_1
                     clear hn219_0
                     clear hn219_1
                     clear hn219_2
                     replace p219 := eq_true p219
                     replace q219 := eq_true q219
                     try go_wp2_with (first | ((with_reducible refine gate_callee (f := 33) rfl ?_); refine goesL_ (some 59) rfl rfl Try.func33 (by kernel_rfl) rfl #[.pointer (some ⟨g209, 0, none⟩), .int .i64 ((rd_T49 l1 x7_2).f1)] rfl (by (try simp only [List.map_toArray, List.map_cons, List.map_nil]); first | done | rfl | (simp only [List.length_drop, List.length_take]; rfl)) ?_; (with_reducible refine (wire_Reader_Number.calls g209 x210000_2 x210001_2 x210002_2 ((rd_T49 l1 x7_2).f1) t220 t221 t222 t223 w _ ?side1 ?side2 A18.out).mono ?_); (case side1 => repeat (first | (with_reducible first | exact HI209.out | apply IsS83.alloc | apply IsS83.drewN | apply IsS83.drew | apply IsS83.set_0 | apply IsS83.set_1 | apply IsS83.set_2 | refine IsS83.far ?_ NB209_210.out _ | refine IsS83.far ?_ NB209_218.out _) | exact HI209.out)); (case side2 => repeat (first | (with_reducible first | exact HB.out | apply below_alloc | apply pw_below_drewN | apply below_drew1 | refine below_set ?_ (IsS83.ge HI209.out) | refine below_set ?_ GE210.out | refine below_set ?_ GE218.out) | exact HB.out)); rintro e w27 ⟨rfl, hi, hb, hk⟩; refine ⟨_, rfl, ?_⟩; have n0_ := Aside0.mk (KeepBut.blk hk (g' := gb210) (o := .cells #[.string x211000_2, .int .i64 x211001_2, .int .i64 x211002_2] 47 (0, 0)) (by (with_reducible repeat (first | refine blk_drewN ?_ _ | refine blk_drew ?_ | refine blk_alloc ?_ _)); refine blk_far ?_ NB210_218.out _; (with_reducible repeat (first | refine blk_drewN ?_ _ | refine blk_drew ?_ | refine blk_alloc ?_ _)); refine blk_far ?_ NB210_218.out _; (with_reducible repeat (first | refine blk_drewN ?_ _ | refine blk_drew ?_ | refine blk_alloc ?_ _)); refine blk_far ?_ NB210_218.out _; (with_reducible repeat (first | refine blk_drewN ?_ _ | refine blk_drew ?_ | refine blk_alloc ?_ _)); exact BK210.out) NB210_209.out (by simp)); have n1_ := Aside0.mk (KeepBut.blk hk (g' := gb218) (o := .cells #[.string t215, .int .i64 t216, .int .i64 t217] 47 (0, 0)) (by (with_reducible repeat (first | refine blk_drewN ?_ _ | refine blk_drew ?_ | refine blk_alloc ?_ _)); refine blk_put (cs := #[.string t215, .int .i64 t216, .int .i64 0]) ?_ 2 _ rfl; (with_reducible repeat (first | refine blk_drewN ?_ _ | refine blk_drew ?_ | refine blk_alloc ?_ _)); refine blk_put (cs := #[.string t215, .int .i64 0, .int .i64 0]) ?_ 1 _ rfl; (with_reducible repeat (first | refine blk_drewN ?_ _ | refine blk_drew ?_ | refine blk_alloc ?_ _)); refine blk_put (cs := #[.string (⟨#[]⟩ : ByteArray), .int .i64 0, .int .i64 0]) ?_ 0 _ rfl; (with_reducible repeat (first | refine blk_drewN ?_ _ | refine blk_drew ?_ | refine blk_alloc ?_ _)); exact BK218.out) NB218_209.out (by simp)); have n2_ := Aside0.mk (hb); have n3_ := Aside0.mk (hi); clear BK210; clear BK218; clear HB; clear HI209; have BK210 := n0_; have BK218 := n1_; have HB := n2_; have HI209 := n3_; clear n0_ n1_ n2_ n3_; (try clear hb); (try clear hb2); (try clear hk); (try clear hi); have hnb28 := NB218_210.out; have hnc28 := NB210_218.out; have hnb29 := NB218_209.out; have hnc29 := NB209_218.out; have hcz30_0 : w27.cell? ⟨gb218, 0, none⟩ = some (.string t215) := (blk_cell BK218.out 0).trans rfl; have hcz30_1 : w27.cell? ⟨gb218, 1, none⟩ = some (.int .i64 t216) := (blk_cell BK218.out 1).trans rfl; have hcz30_2 : w27.cell? ⟨gb218, 2, none⟩ = some (.int .i64 t217) := (blk_cell BK218.out 2).trans rfl; have hfz30_0 := blk_frozen BK218.out 0; have hfz30_1 := blk_frozen BK218.out 1; have hfz30_2 := blk_frozen BK218.out 2; have hnb31 := NB210_209.out; have hnc31 := NB209_210.out; have hcz32_0 : w27.cell? ⟨gb210, 0, none⟩ = some (.string x211000_2) := (blk_cell BK210.out 0).trans rfl; have hcz32_1 : w27.cell? ⟨gb210, 1, none⟩ = some (.int .i64 x211001_2) := (blk_cell BK210.out 1).trans rfl; have hcz32_2 : w27.cell? ⟨gb210, 2, none⟩ = some (.int .i64 x211002_2) := (blk_cell BK210.out 2).trans rfl; have hfz32_0 := blk_frozen BK210.out 0; have hfz32_1 := blk_frozen BK210.out 1; have hfz32_2 := blk_frozen BK210.out 2))
                     go_meet
                     case rel => exact ⟨_, (t221), (t222), (t223), (t215), (t216), (t217), H', ⟨by have := HJ2.out; have := HK2.out; first | omega | exact Nat.le_refl _⟩, ⟨by (with_reducible repeat (first | refine blk_drewN ?_ _ | refine blk_drew ?_ | refine blk_alloc ?_ _)); refine blk_put (cs := #[.string t215, .int .i64 t216, .int .i64 x211002_2]) ?_ 2 _ rfl; (with_reducible repeat (first | refine blk_drewN ?_ _ | refine blk_drew ?_ | refine blk_alloc ?_ _)); refine blk_put (cs := #[.string t215, .int .i64 x211001_2, .int .i64 x211002_2]) ?_ 1 _ rfl; (with_reducible repeat (first | refine blk_drewN ?_ _ | refine blk_drew ?_ | refine blk_alloc ?_ _)); refine blk_put (cs := #[.string x211000_2, .int .i64 x211001_2, .int .i64 x211002_2]) ?_ 0 _ rfl; (with_reducible repeat (first | refine blk_drewN ?_ _ | refine blk_drew ?_ | refine blk_alloc ?_ _)); exact BK210.out⟩, ⟨by repeat (first | (with_reducible first | exact HI209.out | apply IsS83.alloc | apply IsS83.drewN | apply IsS83.drew | apply IsS83.set_0 | apply IsS83.set_1 | apply IsS83.set_2 | refine IsS83.far ?_ NB209_210.out _ | refine IsS83.far ?_ NB209_218.out _) | exact HI209.out)⟩, ⟨by repeat (first | (with_reducible first | exact HB.out | apply below_alloc | apply pw_below_drewN | apply below_drew1 | refine below_set ?_ (IsS83.ge HI209.out) | refine below_set ?_ GE210.out | refine below_set ?_ GE218.out) | exact HB.out)⟩⟩
                   · rw [if_neg c19] at H
                     have c19b0 : (t220 == t214) = false := beq_eq_false_iff_ne.mpr c19
                     have c19b1 : (t220 != t214) = true := bne_iff_ne.mpr c19
                     obtain rfl := Option.some.inj H
                     try go_wp2
                     have n0_ := Aside0.mk (blk_drew BK210.out)
                     have n1_ := Aside0.mk (IsS83.drew HI209.out)
                     have n2_ := Aside0.mk (below_drew1 HB.out)
                     clear BK210
                     clear HI209
                     clear HB
                     have BK210 := n0_
                     have HI209 := n1_
                     have HB := n2_
                     clear n0_ n1_ n2_
                     have p213 : 0 ≤ (x7_2 : Int) := of_decide_eq_true (by first | (with_reducible assumption) | assumption)
                     have q213 : x7_2 < (l1.length : Int) := of_decide_eq_true (by first | (with_reducible assumption) | assumption)
                     obtain ⟨ad213, e213, hx213_0, hx213_1⟩ := at_T49 HR1.out x7_2 p213 q213
                     have hw213_1 := hx213_1
                     have hw213_0 := hx213_0
                     obtain rfl : ad212 = ad213 := (by injection e213)
                     replace hx213_0 := (HB.out.cell (World.block_lt_of_cell? w _ hx213_0)).trans hx213_0
                     replace hx213_1 := (HB.out.cell (World.block_lt_of_cell? w _ hx213_1)).trans hx213_1
                     replace p213 := eq_true p213
                     replace q213 := eq_true q213
                     refine start_ (n := 13) (S := fun w' => w'.cell? ⟨gb210, 0, none⟩ = some (.string x211000_2) ∧ w'.cell? ⟨gb210, 1, none⟩ = some (.int .i64 x211001_2) ∧ w'.cell? ⟨gb210, 2, none⟩ = some (.int .i64 x211002_2) ∧ w'.cell? (ad212.add ((x7_2).toNat * 2)) = some (.int .i64 ((rd_T49 l1 x7_2).f0)) ∧ w'.cell? ⟨(ad212.add ((x7_2).toNat * 2)).block, (ad212.add ((x7_2).toNat * 2)).off + 1, none⟩ = some (.int .i64 ((rd_T49 l1 x7_2).f1))) (ds := []) #[false, false, false, false, false, false, false, false, false, false, false, false, false] (by kernel_rfl) rfl rfl ⟨(blk_cell BK210.out 0).trans rfl, (blk_cell BK210.out 1).trans rfl, (blk_cell BK210.out 2).trans rfl, ((HB.out.cell (World.block_lt_of_cell? w _ hw213_0)).trans hw213_0), ((HB.out.cell (World.block_lt_of_cell? w _ hw213_1)).trans hw213_1)⟩ (fun hHeld => ?_); refine with_tabW wireReads.tab9 wireReads.bits9 (fun HT_ HW_ => ?_)
                     generalize wr.drew = w33 at BK210 HI209 HB hx213_0 hx213_1 hHeld ⊢
                     refine pure_ (i := 1) (N := some 45) (v := ?_) (a' := ?_) #[false, true, false, false, false, false, false, false, false, false, false, false, false] rfl rfl (any_of HT_.out (by kernel_rfl)) (fun _ _ _ h => h) (Or.inl ⟨by rfl, ?_⟩) ?_ ?_
                     rotate_left
                     · intro w'
                       go_simp
                       with_reducible rfl
                     rotate_left
                     · simp only [Act.put, List.setIfInBounds_toArray, List.set_cons_zero, List.set_cons_succ, i64_w, i32_w]
                       rfl
                     refine pure_ (i := 2) (N := some 46) (v := ?_) (a' := ?_) #[false, true, true, false, false, false, false, false, false, false, false, false, false] rfl rfl (any_of HT_.out (by kernel_rfl)) (fun _ _ _ h => h) (Or.inl ⟨by rfl, ?_⟩) ?_ ?_
                     rotate_left
                     · intro w'
                       go_simp
                       with_reducible rfl
                     rotate_left
                     · simp only [Act.put, List.setIfInBounds_toArray, List.set_cons_zero, List.set_cons_succ, i64_w, i32_w]
                       rfl
                     refine pure_ (i := 3) (N := some 47) (v := ?_) (a' := ?_) #[false, true, true, true, false, false, false, false, false, false, false, false, false] rfl rfl (any_of HT_.out (by kernel_rfl)) (fun _ _ _ h => h) (Or.inl ⟨by rfl, ?_⟩) ?_ ?_
                     rotate_left
                     · intro w'
                       go_simp
                       with_reducible rfl
                     rotate_left
                     · simp only [Act.put, List.setIfInBounds_toArray, List.set_cons_zero, List.set_cons_succ, i64_w, i32_w]
                       rfl
                     refine pure_ (i := 4) (N := some 48) (v := ?_) (a' := ?_) #[false, true, true, true, true, false, false, false, false, false, false, false, false] rfl rfl (any_of HT_.out (by kernel_rfl)) (fun _ _ _ h => h) (Or.inl ⟨by rfl, ?_⟩) ?_ ?_
                     rotate_left
                     · intro w'
                       go_simp
                       with_reducible rfl
                     rotate_left
                     · simp only [Act.put, List.setIfInBounds_toArray, List.set_cons_zero, List.set_cons_succ, i64_w, i32_w]
                       rfl
                     refine take_ (i := 0) (N := some 44) (v := ?_) (a' := ?_) #[true, true, true, true, true, false, false, false, false, false, false, false, false] rfl rfl (take_ofW HT_.out HW_.out (by kernel_rfl)) (fun _ _ _ h => h) (Or.inl ⟨by rfl, ?_⟩) hHeld ?_ ?_
                     rotate_left
                     · rintro w' ⟨s0, s1, s2, s3, s4⟩
                       go_simp
                       with_reducible rfl
                     rotate_left
                     · simp only [Act.put, List.setIfInBounds_toArray, List.set_cons_zero, List.set_cons_succ, i64_w, i32_w]
                       rfl
                     refine take_ (i := 5) (N := some 49) (v := ?_) (a' := ?_) #[true, true, true, true, true, true, false, false, false, false, false, false, false] rfl rfl (take_ofW HT_.out HW_.out (by kernel_rfl)) (fun _ _ _ h => h) (Or.inl ⟨by rfl, ?_⟩) hHeld ?_ ?_
                     rotate_left
                     · rintro w' ⟨s0, s1, s2, s3, s4⟩
                       go_simp
                       with_reducible rfl
                     rotate_left
                     · simp only [Act.put, List.setIfInBounds_toArray, List.set_cons_zero, List.set_cons_succ, i64_w, i32_w]
                       rfl
                     refine join_ (σ := Nat) 2 #[true, true, true, true, true, true, true, true, true, true, true, false, false] (fun s_ => [(50, .tuple #[.int .i64 t214, .agg #[.string t215, .int .i64 t216, .int .i64 t217]]), (9, .pointer (some ⟨s_, 0, none⟩)), (43, .tuple #[.int .i64 t214, .agg #[.string t215, .int .i64 t216, .int .i64 t217]]), (51, .int .i64 t214), (52, .agg #[.string t215, .int .i64 t216, .int .i64 t217])]) (fun s_ w' => (w'.cell? ⟨gb210, 0, none⟩ = some (.string x211000_2) ∧ w'.cell? ⟨gb210, 1, none⟩ = some (.int .i64 x211001_2) ∧ w'.cell? ⟨gb210, 2, none⟩ = some (.int .i64 x211002_2) ∧ w'.cell? (ad212.add ((x7_2).toNat * 2)) = some (.int .i64 ((rd_T49 l1 x7_2).f0)) ∧ w'.cell? ⟨(ad212.add ((x7_2).toNat * 2)).block, (ad212.add ((x7_2).toNat * 2)).off + 1, none⟩ = some (.int .i64 ((rd_T49 l1 x7_2).f1))) ∧ (w'.heap[gb210]? = some (.cells #[.string x211000_2, .int .i64 x211001_2, .int .i64 x211002_2] 47 (0, 0))) ∧ (w'.heap[s_]? = some (.cells #[.string (⟨#[]⟩ : ByteArray), .int .i64 0, .int .i64 0] 47 (0, 0))) ∧ (w.heap.size ≤ s_) ∧ (w.heap.size ≤ s_) ∧ (g209 ≠ s_) ∧ (s_ ≠ g209) ∧ (gb210 ≠ s_) ∧ (s_ ≠ gb210) ∧ (IsS83 w w' g209 x210000_2 x210001_2 x210002_2) ∧ (Below w.heap.size w w')) ?_ ?_
                     rotate_left
                     · intro hCont
                       refine two_ (i := 6) (j := 10) (Ni := some 50) (Nj := some 9) #[true, true, true, true, true, true, true, false, false, false, false, false, false] #[true, true, true, true, true, true, false, false, false, false, true, false, false] rfl rfl rfl rfl (two_of HT_.out (by kernel_rfl)) (by decide) (by decide) (fun K hK => ?_) (fun K hK => ?_)
                       · skip
                         refine goes_ Try.func36 (by kernel_rfl) rfl #[.agg #[.string x211000_2, .int .i64 x211001_2, .int .i64 x211002_2], .int .i64 ((rd_T49 l1 x7_2).f1)] (by rfl) rfl rfl (by (try simp only [List.map_toArray, List.map_cons, List.map_nil]); first | done | rfl | (simp only [List.length_drop, List.length_take]; rfl)) ?_
                         with_reducible refine (transhumanceref01_Number.calls k2 x211000_2 x211001_2 x211002_2 ((rd_T49 l1 x7_2).f1) t214 t215 t216 t217 _ A17.out).mono ?_
                         rintro e w34 ⟨rfl, hb⟩
                         refine ⟨_, rfl, ?_⟩
                         have n0_ := Aside0.mk (blk_below (g := gb210) (o := .cells #[.string x211000_2, .int .i64 x211001_2, .int .i64 x211002_2] 47 (0, 0)) (by (with_reducible repeat (first | refine blk_drewN ?_ _ | refine blk_drew ?_ | refine blk_alloc ?_ _)); exact BK210.out) hb)
                         have n1_ := Aside0.mk (IsS83.below (by repeat (first | (with_reducible first | exact HI209.out | apply IsS83.alloc | apply IsS83.drewN | apply IsS83.drew | apply IsS83.set_0 | apply IsS83.set_1 | apply IsS83.set_2 | refine IsS83.far ?_ NB209_210.out _) | exact HI209.out)) hb)
                         have n2_ := Aside0.mk (below_step (by repeat (first | (with_reducible first | exact HB.out | apply below_alloc | apply pw_below_drewN | apply below_drew1 | refine below_set ?_ (IsS83.ge HI209.out) | refine below_set ?_ GE210.out) | exact HB.out)) hb)
                         clear BK210
                         clear HI209
                         clear HB
                         have BK210 := n0_
                         have HI209 := n1_
                         have HB := n2_
                         clear n0_ n1_ n2_
                         (try clear hb)
                         (try clear hb2)
                         (try clear hk)
                         (try clear hi)
                         refine hK.out _ _ ⟨(blk_cell BK210.out 0).trans rfl, (blk_cell BK210.out 1).trans rfl, (blk_cell BK210.out 2).trans rfl, ((HB.out.cell (World.block_lt_of_cell? w _ hw213_0)).trans hw213_0), ((HB.out.cell (World.block_lt_of_cell? w _ hw213_1)).trans hw213_1)⟩ (fun hHeld => ?_)
                         clear hK K
                         refine norm_ (a' := ?_) ?_ ?_
                         rotate_left
                         · show Act.put _ (some 50) _ = _
                           simp only [Act.put, List.setIfInBounds_toArray, List.set_cons_zero, List.set_cons_succ, i64_w, i32_w]
                           rfl
                         refine pure_ (i := 7) (N := some 43) (v := ?_) (a' := ?_) #[true, true, true, true, true, true, true, true, false, false, false, false, false] rfl rfl (any_of HT_.out (by kernel_rfl)) (fun _ _ _ h => h) (Or.inl ⟨by rfl, ?_⟩) ?_ ?_
                         rotate_left
                         · intro w'
                           go_simp
                           with_reducible rfl
                         rotate_left
                         · simp only [Act.put, List.setIfInBounds_toArray, List.set_cons_zero, List.set_cons_succ, i64_w, i32_w]
                           rfl
                         refine pure_ (i := 8) (N := some 51) (v := ?_) (a' := ?_) #[true, true, true, true, true, true, true, true, true, false, false, false, false] rfl rfl (any_of HT_.out (by kernel_rfl)) (fun _ _ _ h => h) (Or.inl ⟨by rfl, ?_⟩) ?_ ?_
                         rotate_left
                         · intro w'
                           go_simp
                           with_reducible rfl
                         rotate_left
                         · simp only [Act.put, List.setIfInBounds_toArray, List.set_cons_zero, List.set_cons_succ, i64_w, i32_w]
                           rfl
                         refine pure_ (i := 9) (N := some 52) (v := ?_) (a' := ?_) #[true, true, true, true, true, true, true, true, true, true, false, false, false] rfl rfl (any_of HT_.out (by kernel_rfl)) (fun _ _ _ h => h) (Or.inl ⟨by rfl, ?_⟩) ?_ ?_
                         rotate_left
                         · intro w'
                           go_simp
                           with_reducible rfl
                         rotate_left
                         · simp only [Act.put, List.setIfInBounds_toArray, List.set_cons_zero, List.set_cons_succ, i64_w, i32_w]
                           rfl
                         refine one_ (i := 10) (N := some 9) #[true, true, true, true, true, true, true, true, true, true, true, false, false] rfl rfl (one_of HT_.out (by kernel_rfl)) (by decide) (fun K hK => ?_)
                         refine box_step ?hg (N := 9) ?hd (cs := #[.string (⟨#[]⟩ : ByteArray), .int .i64 0, .int .i64 0]) (t := 47) ?hr ?_; (case hd => rfl); (case hg => rfl); (case hr => first | (go_simp; done) | (go_simp; rfl))
                         intro gb218 hg w35 hbox hb
                         have n0_ := Aside0.mk (blk_below (g := gb210) (o := .cells #[.string x211000_2, .int .i64 x211001_2, .int .i64 x211002_2] 47 (0, 0)) (by (with_reducible repeat (first | refine blk_drewN ?_ _ | refine blk_drew ?_ | refine blk_alloc ?_ _)); exact BK210.out) hb)
                         have n1_ := Aside0.mk (IsS83.below (by repeat (first | (with_reducible first | exact HI209.out | apply IsS83.alloc | apply IsS83.drewN | apply IsS83.drew | apply IsS83.set_0 | apply IsS83.set_1 | apply IsS83.set_2 | refine IsS83.far ?_ NB209_210.out _) | exact HI209.out)) hb)
                         have n2_ := Aside0.mk (below_step (by repeat (first | (with_reducible first | exact HB.out | apply below_alloc | apply pw_below_drewN | apply below_drew1 | refine below_set ?_ (IsS83.ge HI209.out) | refine below_set ?_ GE210.out) | exact HB.out)) hb)
                         have n3_ := Aside0.mk (hbox)
                         have n4_ := Aside0.mk ((by rw [hg]; exact (below_size (by repeat (first | (with_reducible first | exact HB.out | apply below_alloc | apply pw_below_drewN | apply below_drew1 | refine below_set ?_ (IsS83.ge HI209.out) | refine below_set ?_ GE210.out) | exact HB.out))) : w.heap.size ≤ gb218))
                         have n5_ := Aside0.mk ((by rw [hg]; exact (below_size (by repeat (first | (with_reducible first | exact HB.out | apply below_alloc | apply pw_below_drewN | apply below_drew1 | refine below_set ?_ (IsS83.ge HI209.out) | refine below_set ?_ GE210.out) | exact HB.out))) : w.heap.size ≤ gb218))
                         have n6_ := Aside0.mk ((by rw [hg]; exact Nat.ne_of_lt (blk_lt (g := gb210) (o := .cells #[.string x211000_2, .int .i64 x211001_2, .int .i64 x211002_2] 47 (0, 0)) (by (with_reducible repeat (first | refine blk_drewN ?_ _ | refine blk_drew ?_ | refine blk_alloc ?_ _)); exact BK210.out)) : gb210 ≠ gb218))
                         have n7_ := Aside0.mk ((by rw [hg]; exact Nat.ne_of_gt (blk_lt (g := gb210) (o := .cells #[.string x211000_2, .int .i64 x211001_2, .int .i64 x211002_2] 47 (0, 0)) (by (with_reducible repeat (first | refine blk_drewN ?_ _ | refine blk_drew ?_ | refine blk_alloc ?_ _)); exact BK210.out)) : gb218 ≠ gb210))
                         have n8_ := Aside0.mk ((by rw [hg]; exact Nat.ne_of_lt (IsS83.lt (show IsS83 w _ g209 x210000_2 x210001_2 x210002_2 from by repeat (first | (with_reducible first | exact HI209.out | apply IsS83.alloc | apply IsS83.drewN | apply IsS83.drew | apply IsS83.set_0 | apply IsS83.set_1 | apply IsS83.set_2 | refine IsS83.far ?_ NB209_210.out _) | exact HI209.out))) : g209 ≠ gb218))
                         have n9_ := Aside0.mk ((by rw [hg]; exact Nat.ne_of_gt (IsS83.lt (show IsS83 w _ g209 x210000_2 x210001_2 x210002_2 from by repeat (first | (with_reducible first | exact HI209.out | apply IsS83.alloc | apply IsS83.drewN | apply IsS83.drew | apply IsS83.set_0 | apply IsS83.set_1 | apply IsS83.set_2 | refine IsS83.far ?_ NB209_210.out _) | exact HI209.out))) : gb218 ≠ g209))
                         clear BK210
                         clear HI209
                         clear HB
                         have BK210 := n0_
                         have HI209 := n1_
                         have HB := n2_
                         have BK218 := n3_
                         have GW218 := n4_
                         have GE218 := n5_
                         have NB210_218 := n6_
                         have NB218_210 := n7_
                         have NB209_218 := n8_
                         have NB218_209 := n9_
                         clear n0_ n1_ n2_ n3_ n4_ n5_ n6_ n7_ n8_ n9_
                         clear hb hbox hg
                         refine hK.out _ _ ⟨(blk_cell BK210.out 0).trans rfl, (blk_cell BK210.out 1).trans rfl, (blk_cell BK210.out 2).trans rfl, ((HB.out.cell (World.block_lt_of_cell? w _ hw213_0)).trans hw213_0), ((HB.out.cell (World.block_lt_of_cell? w _ hw213_1)).trans hw213_1)⟩ (fun hHeld => ?_)
                         clear hK K
                         refine norm_ (a' := ?_) ?_ ?_
                         rotate_left
                         · show Act.put _ (some 9) _ = _
                           simp only [Act.put, List.setIfInBounds_toArray, List.set_cons_zero, List.set_cons_succ, i64_w, i32_w]
                           rfl
                         exact norm_ (by simp only [putAll, Act.put, List.setIfInBounds_toArray, List.set_cons_zero, List.set_cons_succ]) (hCont (gb218) _ ⟨hHeld, (by (with_reducible repeat (first | refine blk_drewN ?_ _ | refine blk_drew ?_ | refine blk_alloc ?_ _)); exact BK210.out), (by (with_reducible repeat (first | refine blk_drewN ?_ _ | refine blk_drew ?_ | refine blk_alloc ?_ _)); exact BK218.out), GW218.out, GE218.out, NB209_218.out, NB218_209.out, NB210_218.out, NB218_210.out, (by repeat (first | (with_reducible first | exact HI209.out | apply IsS83.alloc | apply IsS83.drewN | apply IsS83.drew | apply IsS83.set_0 | apply IsS83.set_1 | apply IsS83.set_2 | refine IsS83.far ?_ NB209_210.out _ | refine IsS83.far ?_ NB209_218.out _) | exact HI209.out)), (by repeat (first | (with_reducible first | exact HB.out | apply below_alloc | apply pw_below_drewN | apply below_drew1 | refine below_set ?_ (IsS83.ge HI209.out) | refine below_set ?_ GE210.out | refine below_set ?_ GE218.out) | exact HB.out))⟩)
                       · skip
                         refine box_step ?hg (N := 9) ?hd (cs := #[.string (⟨#[]⟩ : ByteArray), .int .i64 0, .int .i64 0]) (t := 47) ?hr ?_; (case hd => rfl); (case hg => rfl); (case hr => first | (go_simp; done) | (go_simp; rfl))
                         intro gb218 hg w34 hbox hb
                         have n0_ := Aside0.mk (blk_below (g := gb210) (o := .cells #[.string x211000_2, .int .i64 x211001_2, .int .i64 x211002_2] 47 (0, 0)) (by (with_reducible repeat (first | refine blk_drewN ?_ _ | refine blk_drew ?_ | refine blk_alloc ?_ _)); exact BK210.out) hb)
                         have n1_ := Aside0.mk (IsS83.below (by repeat (first | (with_reducible first | exact HI209.out | apply IsS83.alloc | apply IsS83.drewN | apply IsS83.drew | apply IsS83.set_0 | apply IsS83.set_1 | apply IsS83.set_2 | refine IsS83.far ?_ NB209_210.out _) | exact HI209.out)) hb)
                         have n2_ := Aside0.mk (below_step (by repeat (first | (with_reducible first | exact HB.out | apply below_alloc | apply pw_below_drewN | apply below_drew1 | refine below_set ?_ (IsS83.ge HI209.out) | refine below_set ?_ GE210.out) | exact HB.out)) hb)
                         have n3_ := Aside0.mk (hbox)
                         have n4_ := Aside0.mk ((by rw [hg]; exact (below_size (by repeat (first | (with_reducible first | exact HB.out | apply below_alloc | apply pw_below_drewN | apply below_drew1 | refine below_set ?_ (IsS83.ge HI209.out) | refine below_set ?_ GE210.out) | exact HB.out))) : w.heap.size ≤ gb218))
                         have n5_ := Aside0.mk ((by rw [hg]; exact (below_size (by repeat (first | (with_reducible first | exact HB.out | apply below_alloc | apply pw_below_drewN | apply below_drew1 | refine below_set ?_ (IsS83.ge HI209.out) | refine below_set ?_ GE210.out) | exact HB.out))) : w.heap.size ≤ gb218))
                         have n6_ := Aside0.mk ((by rw [hg]; exact Nat.ne_of_lt (blk_lt (g := gb210) (o := .cells #[.string x211000_2, .int .i64 x211001_2, .int .i64 x211002_2] 47 (0, 0)) (by (with_reducible repeat (first | refine blk_drewN ?_ _ | refine blk_drew ?_ | refine blk_alloc ?_ _)); exact BK210.out)) : gb210 ≠ gb218))
                         have n7_ := Aside0.mk ((by rw [hg]; exact Nat.ne_of_gt (blk_lt (g := gb210) (o := .cells #[.string x211000_2, .int .i64 x211001_2, .int .i64 x211002_2] 47 (0, 0)) (by (with_reducible repeat (first | refine blk_drewN ?_ _ | refine blk_drew ?_ | refine blk_alloc ?_ _)); exact BK210.out)) : gb218 ≠ gb210))
                         have n8_ := Aside0.mk ((by rw [hg]; exact Nat.ne_of_lt (IsS83.lt (show IsS83 w _ g209 x210000_2 x210001_2 x210002_2 from by repeat (first | (with_reducible first | exact HI209.out | apply IsS83.alloc | apply IsS83.drewN | apply IsS83.drew | apply IsS83.set_0 | apply IsS83.set_1 | apply IsS83.set_2 | refine IsS83.far ?_ NB209_210.out _) | exact HI209.out))) : g209 ≠ gb218))
                         have n9_ := Aside0.mk ((by rw [hg]; exact Nat.ne_of_gt (IsS83.lt (show IsS83 w _ g209 x210000_2 x210001_2 x210002_2 from by repeat (first | (with_reducible first | exact HI209.out | apply IsS83.alloc | apply IsS83.drewN | apply IsS83.drew | apply IsS83.set_0 | apply IsS83.set_1 | apply IsS83.set_2 | refine IsS83.far ?_ NB209_210.out _) | exact HI209.out))) : gb218 ≠ g209))
                         clear BK210
                         clear HI209
                         clear HB
                         have BK210 := n0_
                         have HI209 := n1_
                         have HB := n2_
                         have BK218 := n3_
                         have GW218 := n4_
                         have GE218 := n5_
                         have NB210_218 := n6_
                         have NB218_210 := n7_
                         have NB209_218 := n8_
                         have NB218_209 := n9_
                         clear n0_ n1_ n2_ n3_ n4_ n5_ n6_ n7_ n8_ n9_
                         clear hb hbox hg
                         refine hK.out _ _ ⟨(blk_cell BK210.out 0).trans rfl, (blk_cell BK210.out 1).trans rfl, (blk_cell BK210.out 2).trans rfl, ((HB.out.cell (World.block_lt_of_cell? w _ hw213_0)).trans hw213_0), ((HB.out.cell (World.block_lt_of_cell? w _ hw213_1)).trans hw213_1)⟩ (fun hHeld => ?_)
                         clear hK K
                         refine norm_ (a' := ?_) ?_ ?_
                         rotate_left
                         · show Act.put _ (some 9) _ = _
                           simp only [Act.put, List.setIfInBounds_toArray, List.set_cons_zero, List.set_cons_succ, i64_w, i32_w]
                           rfl
                         refine one_ (i := 6) (N := some 50) #[true, true, true, true, true, true, true, false, false, false, true, false, false] rfl rfl (one_of HT_.out (by kernel_rfl)) (by decide) (fun K hK => ?_)
                         refine goes_ Try.func36 (by kernel_rfl) rfl #[.agg #[.string x211000_2, .int .i64 x211001_2, .int .i64 x211002_2], .int .i64 ((rd_T49 l1 x7_2).f1)] (by rfl) rfl rfl (by (try simp only [List.map_toArray, List.map_cons, List.map_nil]); first | done | rfl | (simp only [List.length_drop, List.length_take]; rfl)) ?_
                         with_reducible refine (transhumanceref01_Number.calls k2 x211000_2 x211001_2 x211002_2 ((rd_T49 l1 x7_2).f1) t214 t215 t216 t217 _ A17.out).mono ?_
                         rintro e w35 ⟨rfl, hb⟩
                         refine ⟨_, rfl, ?_⟩
                         have n0_ := Aside0.mk (blk_below (g := gb210) (o := .cells #[.string x211000_2, .int .i64 x211001_2, .int .i64 x211002_2] 47 (0, 0)) (by (with_reducible repeat (first | refine blk_drewN ?_ _ | refine blk_drew ?_ | refine blk_alloc ?_ _)); exact BK210.out) hb)
                         have n1_ := Aside0.mk (IsS83.below (by repeat (first | (with_reducible first | exact HI209.out | apply IsS83.alloc | apply IsS83.drewN | apply IsS83.drew | apply IsS83.set_0 | apply IsS83.set_1 | apply IsS83.set_2 | refine IsS83.far ?_ NB209_210.out _ | refine IsS83.far ?_ NB209_218.out _) | exact HI209.out)) hb)
                         have n2_ := Aside0.mk (blk_below (g := gb218) (o := .cells #[.string (⟨#[]⟩ : ByteArray), .int .i64 0, .int .i64 0] 47 (0, 0)) (by (with_reducible repeat (first | refine blk_drewN ?_ _ | refine blk_drew ?_ | refine blk_alloc ?_ _)); exact BK218.out) hb)
                         have n3_ := Aside0.mk (below_step (by repeat (first | (with_reducible first | exact HB.out | apply below_alloc | apply pw_below_drewN | apply below_drew1 | refine below_set ?_ (IsS83.ge HI209.out) | refine below_set ?_ GE210.out | refine below_set ?_ GE218.out) | exact HB.out)) hb)
                         clear BK210
                         clear HI209
                         clear BK218
                         clear HB
                         have BK210 := n0_
                         have HI209 := n1_
                         have BK218 := n2_
                         have HB := n3_
                         clear n0_ n1_ n2_ n3_
                         (try clear hb)
                         (try clear hb2)
                         (try clear hk)
                         (try clear hi)
                         refine hK.out _ _ ⟨(blk_cell BK210.out 0).trans rfl, (blk_cell BK210.out 1).trans rfl, (blk_cell BK210.out 2).trans rfl, ((HB.out.cell (World.block_lt_of_cell? w _ hw213_0)).trans hw213_0), ((HB.out.cell (World.block_lt_of_cell? w _ hw213_1)).trans hw213_1)⟩ (fun hHeld => ?_)
                         clear hK K
                         refine norm_ (a' := ?_) ?_ ?_
                         rotate_left
                         · show Act.put _ (some 50) _ = _
                           simp only [Act.put, List.setIfInBounds_toArray, List.set_cons_zero, List.set_cons_succ, i64_w, i32_w]
                           rfl
                         refine pure_ (i := 7) (N := some 43) (v := ?_) (a' := ?_) #[true, true, true, true, true, true, true, true, false, false, true, false, false] rfl rfl (any_of HT_.out (by kernel_rfl)) (fun _ _ _ h => h) (Or.inl ⟨by rfl, ?_⟩) ?_ ?_
                         rotate_left
                         · intro w'
                           go_simp
                           with_reducible rfl
                         rotate_left
                         · simp only [Act.put, List.setIfInBounds_toArray, List.set_cons_zero, List.set_cons_succ, i64_w, i32_w]
                           rfl
                         refine pure_ (i := 8) (N := some 51) (v := ?_) (a' := ?_) #[true, true, true, true, true, true, true, true, true, false, true, false, false] rfl rfl (any_of HT_.out (by kernel_rfl)) (fun _ _ _ h => h) (Or.inl ⟨by rfl, ?_⟩) ?_ ?_
                         rotate_left
                         · intro w'
                           go_simp
                           with_reducible rfl
                         rotate_left
                         · simp only [Act.put, List.setIfInBounds_toArray, List.set_cons_zero, List.set_cons_succ, i64_w, i32_w]
                           rfl
                         refine pure_ (i := 9) (N := some 52) (v := ?_) (a' := ?_) #[true, true, true, true, true, true, true, true, true, true, true, false, false] rfl rfl (any_of HT_.out (by kernel_rfl)) (fun _ _ _ h => h) (Or.inl ⟨by rfl, ?_⟩) ?_ ?_
                         rotate_left
                         · intro w'
                           go_simp
                           with_reducible rfl
                         rotate_left
                         · simp only [Act.put, List.setIfInBounds_toArray, List.set_cons_zero, List.set_cons_succ, i64_w, i32_w]
                           rfl
                         exact norm_ (by simp only [putAll, Act.put, List.setIfInBounds_toArray, List.set_cons_zero, List.set_cons_succ]) (hCont (gb218) _ ⟨hHeld, (by (with_reducible repeat (first | refine blk_drewN ?_ _ | refine blk_drew ?_ | refine blk_alloc ?_ _)); exact BK210.out), (by (with_reducible repeat (first | refine blk_drewN ?_ _ | refine blk_drew ?_ | refine blk_alloc ?_ _)); exact BK218.out), GW218.out, GE218.out, NB209_218.out, NB218_209.out, NB210_218.out, NB218_210.out, (by repeat (first | (with_reducible first | exact HI209.out | apply IsS83.alloc | apply IsS83.drewN | apply IsS83.drew | apply IsS83.set_0 | apply IsS83.set_1 | apply IsS83.set_2 | refine IsS83.far ?_ NB209_210.out _ | refine IsS83.far ?_ NB209_218.out _) | exact HI209.out)), (by repeat (first | (with_reducible first | exact HB.out | apply below_alloc | apply pw_below_drewN | apply below_drew1 | refine below_set ?_ (IsS83.ge HI209.out) | refine below_set ?_ GE210.out | refine below_set ?_ GE218.out) | exact HB.out))⟩)
                     rintro gb218 w36 ⟨hS_, h0_, h1_, h2_, h3_, h4_, h5_, h6_, h7_, h8_, h9_⟩
                     have n0_ : Aside0 (w36.heap[gb210]? = some (.cells #[.string x211000_2, .int .i64 x211001_2, .int .i64 x211002_2] 47 (0, 0))) := ⟨h0_⟩
                     have n1_ : Aside0 (w36.heap[gb218]? = some (.cells #[.string (⟨#[]⟩ : ByteArray), .int .i64 0, .int .i64 0] 47 (0, 0))) := ⟨h1_⟩
                     have n2_ : Aside0 (w.heap.size ≤ gb218) := ⟨h2_⟩
                     have n3_ : Aside0 (w.heap.size ≤ gb218) := ⟨h3_⟩
                     have n4_ : Aside0 (g209 ≠ gb218) := ⟨h4_⟩
                     have n5_ : Aside0 (gb218 ≠ g209) := ⟨h5_⟩
                     have n6_ : Aside0 (gb210 ≠ gb218) := ⟨h6_⟩
                     have n7_ : Aside0 (gb218 ≠ gb210) := ⟨h7_⟩
                     have n8_ : Aside0 (IsS83 w w36 g209 x210000_2 x210001_2 x210002_2) := ⟨h8_⟩
                     have n9_ : Aside0 (Below w.heap.size w w36) := ⟨h9_⟩
                     clear BK210
                     clear HI209
                     clear HB
                     clear h0_ h1_ h2_ h3_ h4_ h5_ h6_ h7_ h8_ h9_
                     have BK210 := n0_
                     have BK218 := n1_
                     have GW218 := n2_
                     have GE218 := n3_
                     have NB209_218 := n4_
                     have NB218_209 := n5_
                     have NB210_218 := n6_
                     have NB218_210 := n7_
                     have HI209 := n8_
                     have HB := n9_
                     clear n0_ n1_ n2_ n3_ n4_ n5_ n6_ n7_ n8_ n9_
                     have hHeld : w36.cell? ⟨gb210, 0, none⟩ = some (.string x211000_2) ∧ w36.cell? ⟨gb210, 1, none⟩ = some (.int .i64 x211001_2) ∧ w36.cell? ⟨gb210, 2, none⟩ = some (.int .i64 x211002_2) ∧ w36.cell? (ad212.add ((x7_2).toNat * 2)) = some (.int .i64 ((rd_T49 l1 x7_2).f0)) ∧ w36.cell? ⟨(ad212.add ((x7_2).toNat * 2)).block, (ad212.add ((x7_2).toNat * 2)).off + 1, none⟩ = some (.int .i64 ((rd_T49 l1 x7_2).f1)) := hS_
                     refine norm_ (a' := ?_) ?_ ?_
                     rotate_left
                     · simp only [putAll, Act.put, List.setIfInBounds_toArray, List.set_cons_zero, List.set_cons_succ]
                       rfl
                     refine pure_ (i := 11) (N := some 8) (v := ?_) (a' := ?_) #[true, true, true, true, true, true, true, true, true, true, true, true, false] rfl rfl (any_of HT_.out (by kernel_rfl)) (fun _ _ _ h => h) (Or.inl ⟨by rfl, ?_⟩) ?_ ?_
                     rotate_left
                     · intro w'
                       go_simp
                       with_reducible rfl
                     rotate_left
                     · simp only [Act.put, List.setIfInBounds_toArray, List.set_cons_zero, List.set_cons_succ, i64_w, i32_w]
                       rfl
                     refine one_ (i := 12) (N := none) #[true, true, true, true, true, true, true, true, true, true, true, true, true] rfl rfl (one_of HT_.out (by kernel_rfl)) (by decide) (fun K hK => ?_)
                     have hs37 : w36.cell? ⟨gb218, 0, none⟩ = some (.string (⟨#[]⟩ : ByteArray)) := (blk_cell BK218.out 0).trans rfl
                     have hfs37 := blk_frozen BK218.out 0
                     have hns37_0 := NB210_218.out
                     have hms37_0 := NB218_210.out
                     have hs38 : w36.cell? ⟨gb218, 1, none⟩ = some (.int .i64 0) := (blk_cell BK218.out 1).trans rfl
                     have hfs38 := blk_frozen BK218.out 1
                     have hns38_0 := NB210_218.out
                     have hms38_0 := NB218_210.out
                     have hs39 : w36.cell? ⟨gb218, 2, none⟩ = some (.int .i64 0) := (blk_cell BK218.out 2).trans rfl
                     have hfs39 := blk_frozen BK218.out 2
                     have hns39_0 := NB210_218.out
                     have hms39_0 := NB218_210.out
                     refine skip_ (w1 := ?_) (by rfl) rfl ?_ ?_
                     rotate_left
                     · go_simp
                       rfl
                     refine hK.out _ _ ⟨((cell_far (p := ⟨gb218, _, none⟩) NB210_218.out _).trans (((cell_far (p := ⟨gb218, _, none⟩) NB210_218.out _).trans (((cell_far (p := ⟨gb218, _, none⟩) NB210_218.out _).trans (hHeld.1)))))), ((cell_far (p := ⟨gb218, _, none⟩) NB210_218.out _).trans (((cell_far (p := ⟨gb218, _, none⟩) NB210_218.out _).trans (((cell_far (p := ⟨gb218, _, none⟩) NB210_218.out _).trans (hHeld.2.1)))))), ((cell_far (p := ⟨gb218, _, none⟩) NB210_218.out _).trans (((cell_far (p := ⟨gb218, _, none⟩) NB210_218.out _).trans (((cell_far (p := ⟨gb218, _, none⟩) NB210_218.out _).trans (hHeld.2.2.1)))))), ((cell_far (p := ⟨gb218, _, none⟩) (by first | exact Nat.ne_of_lt (Nat.lt_of_lt_of_le (by have := World.block_lt_of_cell? _ _ hw213_0; first | rwa [add_block] at this | exact this) GW218.out) | (rw [add_block]; exact Nat.ne_of_lt (Nat.lt_of_lt_of_le (by have := World.block_lt_of_cell? _ _ hw213_0; first | rwa [add_block] at this | exact this) GW218.out)) | (show (Addr.add _ _).block ≠ _; rw [add_block]; exact Nat.ne_of_lt (Nat.lt_of_lt_of_le (by have := World.block_lt_of_cell? _ _ hw213_0; first | rwa [add_block] at this | exact this) GW218.out)) | (dsimp only; exact Nat.ne_of_lt (Nat.lt_of_lt_of_le (by have := World.block_lt_of_cell? _ _ hw213_0; first | rwa [add_block] at this | exact this) GW218.out))) _).trans (((cell_far (p := ⟨gb218, _, none⟩) (by first | exact Nat.ne_of_lt (Nat.lt_of_lt_of_le (by have := World.block_lt_of_cell? _ _ hw213_0; first | rwa [add_block] at this | exact this) GW218.out) | (rw [add_block]; exact Nat.ne_of_lt (Nat.lt_of_lt_of_le (by have := World.block_lt_of_cell? _ _ hw213_0; first | rwa [add_block] at this | exact this) GW218.out)) | (show (Addr.add _ _).block ≠ _; rw [add_block]; exact Nat.ne_of_lt (Nat.lt_of_lt_of_le (by have := World.block_lt_of_cell? _ _ hw213_0; first | rwa [add_block] at this | exact this) GW218.out)) | (dsimp only; exact Nat.ne_of_lt (Nat.lt_of_lt_of_le (by have := World.block_lt_of_cell? _ _ hw213_0; first | rwa [add_block] at this | exact this) GW218.out))) _).trans (((cell_far (p := ⟨gb218, _, none⟩) (by first | exact Nat.ne_of_lt (Nat.lt_of_lt_of_le (by have := World.block_lt_of_cell? _ _ hw213_0; first | rwa [add_block] at this | exact this) GW218.out) | (rw [add_block]; exact Nat.ne_of_lt (Nat.lt_of_lt_of_le (by have := World.block_lt_of_cell? _ _ hw213_0; first | rwa [add_block] at this | exact this) GW218.out)) | (show (Addr.add _ _).block ≠ _; rw [add_block]; exact Nat.ne_of_lt (Nat.lt_of_lt_of_le (by have := World.block_lt_of_cell? _ _ hw213_0; first | rwa [add_block] at this | exact this) GW218.out)) | (dsimp only; exact Nat.ne_of_lt (Nat.lt_of_lt_of_le (by have := World.block_lt_of_cell? _ _ hw213_0; first | rwa [add_block] at this | exact this) GW218.out))) _).trans (hHeld.2.2.2.1)))))), ((cell_far (p := ⟨gb218, _, none⟩) (by first | exact Nat.ne_of_lt (Nat.lt_of_lt_of_le (by have := World.block_lt_of_cell? _ _ hw213_1; first | rwa [add_block] at this | exact this) GW218.out) | (rw [add_block]; exact Nat.ne_of_lt (Nat.lt_of_lt_of_le (by have := World.block_lt_of_cell? _ _ hw213_1; first | rwa [add_block] at this | exact this) GW218.out)) | (show (Addr.add _ _).block ≠ _; rw [add_block]; exact Nat.ne_of_lt (Nat.lt_of_lt_of_le (by have := World.block_lt_of_cell? _ _ hw213_1; first | rwa [add_block] at this | exact this) GW218.out)) | (dsimp only; exact Nat.ne_of_lt (Nat.lt_of_lt_of_le (by have := World.block_lt_of_cell? _ _ hw213_1; first | rwa [add_block] at this | exact this) GW218.out))) _).trans (((cell_far (p := ⟨gb218, _, none⟩) (by first | exact Nat.ne_of_lt (Nat.lt_of_lt_of_le (by have := World.block_lt_of_cell? _ _ hw213_1; first | rwa [add_block] at this | exact this) GW218.out) | (rw [add_block]; exact Nat.ne_of_lt (Nat.lt_of_lt_of_le (by have := World.block_lt_of_cell? _ _ hw213_1; first | rwa [add_block] at this | exact this) GW218.out)) | (show (Addr.add _ _).block ≠ _; rw [add_block]; exact Nat.ne_of_lt (Nat.lt_of_lt_of_le (by have := World.block_lt_of_cell? _ _ hw213_1; first | rwa [add_block] at this | exact this) GW218.out)) | (dsimp only; exact Nat.ne_of_lt (Nat.lt_of_lt_of_le (by have := World.block_lt_of_cell? _ _ hw213_1; first | rwa [add_block] at this | exact this) GW218.out))) _).trans (((cell_far (p := ⟨gb218, _, none⟩) (by first | exact Nat.ne_of_lt (Nat.lt_of_lt_of_le (by have := World.block_lt_of_cell? _ _ hw213_1; first | rwa [add_block] at this | exact this) GW218.out) | (rw [add_block]; exact Nat.ne_of_lt (Nat.lt_of_lt_of_le (by have := World.block_lt_of_cell? _ _ hw213_1; first | rwa [add_block] at this | exact this) GW218.out)) | (show (Addr.add _ _).block ≠ _; rw [add_block]; exact Nat.ne_of_lt (Nat.lt_of_lt_of_le (by have := World.block_lt_of_cell? _ _ hw213_1; first | rwa [add_block] at this | exact this) GW218.out)) | (dsimp only; exact Nat.ne_of_lt (Nat.lt_of_lt_of_le (by have := World.block_lt_of_cell? _ _ hw213_1; first | rwa [add_block] at this | exact this) GW218.out))) _).trans (hHeld.2.2.2.2))))))⟩ (fun hHeld => ?_)
                     clear hK K
                     refine done_ (done_of HT_.out (by kernel_rfl)) ?_
                     have p219 : 0 ≤ (x7_2 : Int) := of_decide_eq_true (by first | (with_reducible assumption) | assumption)
                     have q219 : x7_2 < (l1.length : Int) := of_decide_eq_true (by first | (with_reducible assumption) | assumption)
                     obtain ⟨ad219, e219, hx219_0, hx219_1⟩ := at_T49 HR1.out x7_2 p219 q219
                     obtain rfl : ad212 = ad219 := (by injection e219)
                     have hn219_0 : ad212.block ≠ gb218 := Nat.ne_of_lt (Nat.lt_of_lt_of_le (by have := World.block_lt_of_cell? _ _ hx219_0; first | rwa [add_block] at this | exact this) GW218.out)
                     have hn219_1 : ad212.block ≠ gb218 := Nat.ne_of_lt (Nat.lt_of_lt_of_le (by have := World.block_lt_of_cell? _ _ hx219_0; first | rwa [add_block] at this | exact this) GW218.out)
                     have hn219_2 : ad212.block ≠ gb218 := Nat.ne_of_lt (Nat.lt_of_lt_of_le (by have := World.block_lt_of_cell? _ _ hx219_0; first | rwa [add_block] at this | exact this) GW218.out)
                     replace hx219_0 := (HB.out.cell (World.block_lt_of_cell? w _ hx219_0)).trans hx219_0
                     replace hx219_1 := (HB.out.cell (World.block_lt_of_cell? w _ hx219_1)).trans hx219_1
                     replace hx219_0 := (cell_far (p := ⟨gb218, 0, none⟩) (by first | (rw [add_block]; exact hn219_0) | (show (Addr.add _ _).block ≠ _; rw [add_block]; exact hn219_0) | exact hn219_0) (.string t215)).trans hx219_0
                     replace hx219_1 := (cell_far (p := ⟨gb218, 0, none⟩) (by first | (rw [add_block]; exact hn219_0) | (show (Addr.add _ _).block ≠ _; rw [add_block]; exact hn219_0) | exact hn219_0) (.string t215)).trans hx219_1
                     replace hx219_0 := (cell_far (p := ⟨gb218, 1, none⟩) (by first | (rw [add_block]; exact hn219_1) | (show (Addr.add _ _).block ≠ _; rw [add_block]; exact hn219_1) | exact hn219_1) (.int .i64 t216)).trans hx219_0
                     replace hx219_1 := (cell_far (p := ⟨gb218, 1, none⟩) (by first | (rw [add_block]; exact hn219_1) | (show (Addr.add _ _).block ≠ _; rw [add_block]; exact hn219_1) | exact hn219_1) (.int .i64 t216)).trans hx219_1
                     replace hx219_0 := (cell_far (p := ⟨gb218, 2, none⟩) (by first | (rw [add_block]; exact hn219_2) | (show (Addr.add _ _).block ≠ _; rw [add_block]; exact hn219_2) | exact hn219_2) (.int .i64 t217)).trans hx219_0
                     replace hx219_1 := (cell_far (p := ⟨gb218, 2, none⟩) (by first | (rw [add_block]; exact hn219_2) | (show (Addr.add _ _).block ≠ _; rw [add_block]; exact hn219_2) | exact hn219_2) (.int .i64 t217)).trans hx219_1
                     clear hn219_0
                     clear hn219_1
                     clear hn219_2
                     replace p219 := eq_true p219
                     replace q219 := eq_true q219
                     try go_wp2_with (first | ((with_reducible refine gate_callee (f := 33) rfl ?_); refine goesL_ (some 59) rfl rfl Try.func33 (by kernel_rfl) rfl #[.pointer (some ⟨g209, 0, none⟩), .int .i64 ((rd_T49 l1 x7_2).f1)] rfl (by (try simp only [List.map_toArray, List.map_cons, List.map_nil]); first | done | rfl | (simp only [List.length_drop, List.length_take]; rfl)) ?_; (with_reducible refine (wire_Reader_Number.calls g209 x210000_2 x210001_2 x210002_2 ((rd_T49 l1 x7_2).f1) t220 t221 t222 t223 w _ ?side1 ?side2 A18.out).mono ?_); (case side1 => repeat (first | (with_reducible first | exact HI209.out | apply IsS83.alloc | apply IsS83.drewN | apply IsS83.drew | apply IsS83.set_0 | apply IsS83.set_1 | apply IsS83.set_2 | refine IsS83.far ?_ NB209_210.out _ | refine IsS83.far ?_ NB209_218.out _) | exact HI209.out)); (case side2 => repeat (first | (with_reducible first | exact HB.out | apply below_alloc | apply pw_below_drewN | apply below_drew1 | refine below_set ?_ (IsS83.ge HI209.out) | refine below_set ?_ GE210.out | refine below_set ?_ GE218.out) | exact HB.out)); rintro e w40 ⟨rfl, hi, hb, hk⟩; refine ⟨_, rfl, ?_⟩; have n0_ := Aside0.mk (KeepBut.blk hk (g' := gb210) (o := .cells #[.string x211000_2, .int .i64 x211001_2, .int .i64 x211002_2] 47 (0, 0)) (by (with_reducible repeat (first | refine blk_drewN ?_ _ | refine blk_drew ?_ | refine blk_alloc ?_ _)); refine blk_far ?_ NB210_218.out _; (with_reducible repeat (first | refine blk_drewN ?_ _ | refine blk_drew ?_ | refine blk_alloc ?_ _)); refine blk_far ?_ NB210_218.out _; (with_reducible repeat (first | refine blk_drewN ?_ _ | refine blk_drew ?_ | refine blk_alloc ?_ _)); refine blk_far ?_ NB210_218.out _; (with_reducible repeat (first | refine blk_drewN ?_ _ | refine blk_drew ?_ | refine blk_alloc ?_ _)); exact BK210.out) NB210_209.out (by simp)); have n1_ := Aside0.mk (KeepBut.blk hk (g' := gb218) (o := .cells #[.string t215, .int .i64 t216, .int .i64 t217] 47 (0, 0)) (by (with_reducible repeat (first | refine blk_drewN ?_ _ | refine blk_drew ?_ | refine blk_alloc ?_ _)); refine blk_put (cs := #[.string t215, .int .i64 t216, .int .i64 0]) ?_ 2 _ rfl; (with_reducible repeat (first | refine blk_drewN ?_ _ | refine blk_drew ?_ | refine blk_alloc ?_ _)); refine blk_put (cs := #[.string t215, .int .i64 0, .int .i64 0]) ?_ 1 _ rfl; (with_reducible repeat (first | refine blk_drewN ?_ _ | refine blk_drew ?_ | refine blk_alloc ?_ _)); refine blk_put (cs := #[.string (⟨#[]⟩ : ByteArray), .int .i64 0, .int .i64 0]) ?_ 0 _ rfl; (with_reducible repeat (first | refine blk_drewN ?_ _ | refine blk_drew ?_ | refine blk_alloc ?_ _)); exact BK218.out) NB218_209.out (by simp)); have n2_ := Aside0.mk (hb); have n3_ := Aside0.mk (hi); clear BK210; clear BK218; clear HB; clear HI209; have BK210 := n0_; have BK218 := n1_; have HB := n2_; have HI209 := n3_; clear n0_ n1_ n2_ n3_; (try clear hb); (try clear hb2); (try clear hk); (try clear hi)))
                     go_ret
                     exact ⟨by first | rfl | (simp [errW_none, errW_some] <;> rfl) | (simp [*, errW_none, errW_some] <;> rfl), by repeat (first | (with_reducible first | exact HB.out | apply below_alloc | apply pw_below_drewN | apply below_drew1 | refine below_set ?_ (IsS83.ge HI209.out) | refine below_set ?_ GE210.out | refine below_set ?_ GE218.out) | exact HB.out)⟩
                 · rw [if_neg c16] at H
                   have c16b0 : (((rd_T49 l1 x7_2).f0) == 0) = false := beq_eq_false_iff_ne.mpr c16
                   have c16b1 : (((rd_T49 l1 x7_2).f0) != 0) = true := bne_iff_ne.mpr c16
                   (first | rw [c16b0] | (simp only [i64_w, i32_w]; rw [c16b0]) | skip)
                   by_cases c41 : ((rd_T49 l1 x7_2).f0) = 1
                   · rw [if_pos c41] at H
                     have c41b0 : (((rd_T49 l1 x7_2).f0) == 1) = true := beq_iff_eq.mpr c41
                     have c41b1 : (((rd_T49 l1 x7_2).f0) != 1) = false := bne_eq_false_iff_eq.mpr c41
                     clear c41
                     replace H := Option.bind_eq_some_iff.mp H
                     obtain ⟨⟨t224, t225, t226, t227⟩, A420, H⟩ := H
                     replace H : ((wire_Reader_Fixed.f k2 x210000_2 x210001_2 x210002_2).bind fun bt229 => (if bt229.1 = t224 then (wireReads.j2 k2 l1 x7_2 bt229.2.1 bt229.2.2.1 bt229.2.2.2 t225 t226 t227) else (some false))) = some r := H
                     have A42 := Aside0.mk A420
                     clear A420
                     replace H := Option.bind_eq_some_iff.mp H
                     obtain ⟨⟨t229, t230, t231, t232⟩, A430, H⟩ := H
                     replace H : (if t229 = t224 then (wireReads.j2 k2 l1 x7_2 t230 t231 t232 t225 t226 t227) else (some false)) = some r := H
                     have A43 := Aside0.mk A430
                     clear A430
                     by_cases c44 : t229 = t224
                     · rw [if_pos c44] at H
                       have c44b0 : (t229 == t224) = true := beq_iff_eq.mpr c44
                       have c44b1 : (t229 != t224) = false := bne_eq_false_iff_eq.mpr c44
                       clear c44
                       have H' := Aside0.mk H
                       clear H
                       have hnb45 := NB210_209.out
                       have hnc45 := NB209_210.out
                       have hcz46_0 : wr.cell? ⟨gb210, 0, none⟩ = some (.string x211000_2) := (blk_cell BK210.out 0).trans rfl
                       have hcz46_1 : wr.cell? ⟨gb210, 1, none⟩ = some (.int .i64 x211001_2) := (blk_cell BK210.out 1).trans rfl
                       have hcz46_2 : wr.cell? ⟨gb210, 2, none⟩ = some (.int .i64 x211002_2) := (blk_cell BK210.out 2).trans rfl
                       have hfz46_0 := blk_frozen BK210.out 0
                       have hfz46_1 := blk_frozen BK210.out 1
                       have hfz46_2 := blk_frozen BK210.out 2
                       go_wp2_with (first | ((with_reducible refine gate_callee (f := 37) rfl ?_); refine goesL_ (some 67) rfl rfl Try.func37 (by kernel_rfl) rfl #[.agg #[.string x211000_2, .int .i64 x211001_2, .int .i64 x211002_2]] rfl (by (try simp only [List.map_toArray, List.map_cons, List.map_nil]); first | done | rfl | (simp only [List.length_drop, List.length_take]; rfl)) ?_; (with_reducible refine (transhumanceref01_Fixed.calls k2 x211000_2 x211001_2 x211002_2 t224 t225 t226 t227 _ A42.out).mono ?_); rintro e w47 ⟨rfl, hb⟩; refine ⟨_, rfl, ?_⟩; have n0_ := Aside0.mk (blk_below (g := gb210) (o := .cells #[.string x211000_2, .int .i64 x211001_2, .int .i64 x211002_2] 47 (0, 0)) (by (with_reducible repeat (first | refine blk_drewN ?_ _ | refine blk_drew ?_ | refine blk_alloc ?_ _)); exact BK210.out) hb); have n1_ := Aside0.mk (IsS83.below (by repeat (first | (with_reducible first | exact HI209.out | apply IsS83.alloc | apply IsS83.drewN | apply IsS83.drew | apply IsS83.set_0 | apply IsS83.set_1 | apply IsS83.set_2 | refine IsS83.far ?_ NB209_210.out _) | exact HI209.out)) hb); have n2_ := Aside0.mk (below_step (by repeat (first | (with_reducible first | exact HB.out | apply below_alloc | apply pw_below_drewN | apply below_drew1 | refine below_set ?_ (IsS83.ge HI209.out) | refine below_set ?_ GE210.out) | exact HB.out)) hb); clear BK210; clear HI209; clear HB; have BK210 := n0_; have HI209 := n1_; have HB := n2_; clear n0_ n1_ n2_; (try clear hb); (try clear hb2); (try clear hk); (try clear hi)) | ((with_reducible refine gate_dst (N := 11) rfl ?_); (try (refine gate_guard (by rfl) ?_; dsimp only)); refine box_event ?hg (N := 11) ?hd (cs := #[.string (⟨#[]⟩ : ByteArray), .int .i64 0, .int .i64 0]) (t := 47) ?hr ?_; (case hd => rfl); (case hg => rfl); (case hr => first | (go_simp; done) | (go_simp; rfl)); intro gb228 hg w48 hbox hb; have n0_ := Aside0.mk (blk_below (g := gb210) (o := .cells #[.string x211000_2, .int .i64 x211001_2, .int .i64 x211002_2] 47 (0, 0)) (by (with_reducible repeat (first | refine blk_drewN ?_ _ | refine blk_drew ?_ | refine blk_alloc ?_ _)); exact BK210.out) hb); have n1_ := Aside0.mk (IsS83.below (by repeat (first | (with_reducible first | exact HI209.out | apply IsS83.alloc | apply IsS83.drewN | apply IsS83.drew | apply IsS83.set_0 | apply IsS83.set_1 | apply IsS83.set_2 | refine IsS83.far ?_ NB209_210.out _) | exact HI209.out)) hb); have n2_ := Aside0.mk (below_step (by repeat (first | (with_reducible first | exact HB.out | apply below_alloc | apply pw_below_drewN | apply below_drew1 | refine below_set ?_ (IsS83.ge HI209.out) | refine below_set ?_ GE210.out) | exact HB.out)) hb); have n3_ := Aside0.mk (hbox); have n4_ := Aside0.mk ((by rw [hg]; exact (below_size (by repeat (first | (with_reducible first | exact HB.out | apply below_alloc | apply pw_below_drewN | apply below_drew1 | refine below_set ?_ (IsS83.ge HI209.out) | refine below_set ?_ GE210.out) | exact HB.out))) : w.heap.size ≤ gb228)); have n5_ := Aside0.mk ((by rw [hg]; exact (below_size (by repeat (first | (with_reducible first | exact HB.out | apply below_alloc | apply pw_below_drewN | apply below_drew1 | refine below_set ?_ (IsS83.ge HI209.out) | refine below_set ?_ GE210.out) | exact HB.out))) : w.heap.size ≤ gb228)); have n6_ := Aside0.mk ((by rw [hg]; exact Nat.ne_of_lt (blk_lt (g := gb210) (o := .cells #[.string x211000_2, .int .i64 x211001_2, .int .i64 x211002_2] 47 (0, 0)) (by (with_reducible repeat (first | refine blk_drewN ?_ _ | refine blk_drew ?_ | refine blk_alloc ?_ _)); exact BK210.out)) : gb210 ≠ gb228)); have n7_ := Aside0.mk ((by rw [hg]; exact Nat.ne_of_gt (blk_lt (g := gb210) (o := .cells #[.string x211000_2, .int .i64 x211001_2, .int .i64 x211002_2] 47 (0, 0)) (by (with_reducible repeat (first | refine blk_drewN ?_ _ | refine blk_drew ?_ | refine blk_alloc ?_ _)); exact BK210.out)) : gb228 ≠ gb210)); have n8_ := Aside0.mk ((by rw [hg]; exact Nat.ne_of_lt (IsS83.lt (show IsS83 w _ g209 x210000_2 x210001_2 x210002_2 from by repeat (first | (with_reducible first | exact HI209.out | apply IsS83.alloc | apply IsS83.drewN | apply IsS83.drew | apply IsS83.set_0 | apply IsS83.set_1 | apply IsS83.set_2 | refine IsS83.far ?_ NB209_210.out _) | exact HI209.out))) : g209 ≠ gb228)); have n9_ := Aside0.mk ((by rw [hg]; exact Nat.ne_of_gt (IsS83.lt (show IsS83 w _ g209 x210000_2 x210001_2 x210002_2 from by repeat (first | (with_reducible first | exact HI209.out | apply IsS83.alloc | apply IsS83.drewN | apply IsS83.drew | apply IsS83.set_0 | apply IsS83.set_1 | apply IsS83.set_2 | refine IsS83.far ?_ NB209_210.out _) | exact HI209.out))) : gb228 ≠ g209)); clear BK210; clear HI209; clear HB; have BK210 := n0_; have HI209 := n1_; have HB := n2_; have BK228 := n3_; have GW228 := n4_; have GE228 := n5_; have NB210_228 := n6_; have NB228_210 := n7_; have NB209_228 := n8_; have NB228_209 := n9_; clear n0_ n1_ n2_ n3_ n4_ n5_ n6_ n7_ n8_ n9_; clear hb hbox hg; have hnb49 := NB228_210.out; have hnc49 := NB210_228.out; have hnb50 := NB228_209.out; have hnc50 := NB209_228.out; have hcz51_0 : w48.cell? ⟨gb228, 0, none⟩ = some (.string (⟨#[]⟩ : ByteArray)) := (blk_cell BK228.out 0).trans rfl; have hcz51_1 : w48.cell? ⟨gb228, 1, none⟩ = some (.int .i64 0) := (blk_cell BK228.out 1).trans rfl; have hcz51_2 : w48.cell? ⟨gb228, 2, none⟩ = some (.int .i64 0) := (blk_cell BK228.out 2).trans rfl; have hfz51_0 := blk_frozen BK228.out 0; have hfz51_1 := blk_frozen BK228.out 1; have hfz51_2 := blk_frozen BK228.out 2) | ((with_reducible refine gate_callee (f := 38) rfl ?_); refine goesL_ (some 71) rfl rfl Try.func38 (by kernel_rfl) rfl #[.pointer (some ⟨g209, 0, none⟩)] rfl (by (try simp only [List.map_toArray, List.map_cons, List.map_nil]); first | done | rfl | (simp only [List.length_drop, List.length_take]; rfl)) ?_; (with_reducible refine (wire_Reader_Fixed.calls k2 g209 x210000_2 x210001_2 x210002_2 t229 t230 t231 t232 w _ ?side1 ?side2 A43.out).mono ?_); (case side1 => repeat (first | (with_reducible first | exact HI209.out | apply IsS83.alloc | apply IsS83.drewN | apply IsS83.drew | apply IsS83.set_0 | apply IsS83.set_1 | apply IsS83.set_2 | refine IsS83.far ?_ NB209_210.out _ | refine IsS83.far ?_ NB209_228.out _) | exact HI209.out)); (case side2 => repeat (first | (with_reducible first | exact HB.out | apply below_alloc | apply pw_below_drewN | apply below_drew1 | refine below_set ?_ (IsS83.ge HI209.out) | refine below_set ?_ GE210.out | refine below_set ?_ GE228.out) | exact HB.out)); rintro e w52 ⟨rfl, hi, hb, hk⟩; refine ⟨_, rfl, ?_⟩; have n0_ := Aside0.mk (KeepBut.blk hk (g' := gb210) (o := .cells #[.string x211000_2, .int .i64 x211001_2, .int .i64 x211002_2] 47 (0, 0)) (by (with_reducible repeat (first | refine blk_drewN ?_ _ | refine blk_drew ?_ | refine blk_alloc ?_ _)); refine blk_far ?_ NB210_228.out _; (with_reducible repeat (first | refine blk_drewN ?_ _ | refine blk_drew ?_ | refine blk_alloc ?_ _)); refine blk_far ?_ NB210_228.out _; (with_reducible repeat (first | refine blk_drewN ?_ _ | refine blk_drew ?_ | refine blk_alloc ?_ _)); refine blk_far ?_ NB210_228.out _; (with_reducible repeat (first | refine blk_drewN ?_ _ | refine blk_drew ?_ | refine blk_alloc ?_ _)); exact BK210.out) NB210_209.out (by simp)); have n1_ := Aside0.mk (KeepBut.blk hk (g' := gb228) (o := .cells #[.string t225, .int .i64 t226, .int .i64 t227] 47 (0, 0)) (by (with_reducible repeat (first | refine blk_drewN ?_ _ | refine blk_drew ?_ | refine blk_alloc ?_ _)); refine blk_put (cs := #[.string t225, .int .i64 t226, .int .i64 0]) ?_ 2 _ rfl; (with_reducible repeat (first | refine blk_drewN ?_ _ | refine blk_drew ?_ | refine blk_alloc ?_ _)); refine blk_put (cs := #[.string t225, .int .i64 0, .int .i64 0]) ?_ 1 _ rfl; (with_reducible repeat (first | refine blk_drewN ?_ _ | refine blk_drew ?_ | refine blk_alloc ?_ _)); refine blk_put (cs := #[.string (⟨#[]⟩ : ByteArray), .int .i64 0, .int .i64 0]) ?_ 0 _ rfl; (with_reducible repeat (first | refine blk_drewN ?_ _ | refine blk_drew ?_ | refine blk_alloc ?_ _)); exact BK228.out) NB228_209.out (by simp)); have n2_ := Aside0.mk (hb); have n3_ := Aside0.mk (hi); clear BK210; clear BK228; clear HB; clear HI209; have BK210 := n0_; have BK228 := n1_; have HB := n2_; have HI209 := n3_; clear n0_ n1_ n2_ n3_; (try clear hb); (try clear hb2); (try clear hk); (try clear hi); have hcz53_0 : w52.cell? ⟨gb228, 0, none⟩ = some (.string t225) := (blk_cell BK228.out 0).trans rfl; have hcz53_1 : w52.cell? ⟨gb228, 1, none⟩ = some (.int .i64 t226) := (blk_cell BK228.out 1).trans rfl; have hcz53_2 : w52.cell? ⟨gb228, 2, none⟩ = some (.int .i64 t227) := (blk_cell BK228.out 2).trans rfl; have hfz53_0 := blk_frozen BK228.out 0; have hfz53_1 := blk_frozen BK228.out 1; have hfz53_2 := blk_frozen BK228.out 2; have hcz54_0 : w52.cell? ⟨gb210, 0, none⟩ = some (.string x211000_2) := (blk_cell BK210.out 0).trans rfl; have hcz54_1 : w52.cell? ⟨gb210, 1, none⟩ = some (.int .i64 x211001_2) := (blk_cell BK210.out 1).trans rfl; have hcz54_2 : w52.cell? ⟨gb210, 2, none⟩ = some (.int .i64 x211002_2) := (blk_cell BK210.out 2).trans rfl; have hfz54_0 := blk_frozen BK210.out 0; have hfz54_1 := blk_frozen BK210.out 1; have hfz54_2 := blk_frozen BK210.out 2))
                       go_meet
                       case rel => exact ⟨_, (t230), (t231), (t232), (t225), (t226), (t227), H', ⟨by have := HJ2.out; have := HK2.out; first | omega | exact Nat.le_refl _⟩, ⟨by (with_reducible repeat (first | refine blk_drewN ?_ _ | refine blk_drew ?_ | refine blk_alloc ?_ _)); refine blk_put (cs := #[.string t225, .int .i64 t226, .int .i64 x211002_2]) ?_ 2 _ rfl; (with_reducible repeat (first | refine blk_drewN ?_ _ | refine blk_drew ?_ | refine blk_alloc ?_ _)); refine blk_put (cs := #[.string t225, .int .i64 x211001_2, .int .i64 x211002_2]) ?_ 1 _ rfl; (with_reducible repeat (first | refine blk_drewN ?_ _ | refine blk_drew ?_ | refine blk_alloc ?_ _)); refine blk_put (cs := #[.string x211000_2, .int .i64 x211001_2, .int .i64 x211002_2]) ?_ 0 _ rfl; (with_reducible repeat (first | refine blk_drewN ?_ _ | refine blk_drew ?_ | refine blk_alloc ?_ _)); exact BK210.out⟩, ⟨by repeat (first | (with_reducible first | exact HI209.out | apply IsS83.alloc | apply IsS83.drewN | apply IsS83.drew | apply IsS83.set_0 | apply IsS83.set_1 | apply IsS83.set_2 | refine IsS83.far ?_ NB209_210.out _ | refine IsS83.far ?_ NB209_228.out _) | exact HI209.out)⟩, ⟨by repeat (first | (with_reducible first | exact HB.out | apply below_alloc | apply pw_below_drewN | apply below_drew1 | refine below_set ?_ (IsS83.ge HI209.out) | refine below_set ?_ GE210.out | refine below_set ?_ GE228.out) | exact HB.out)⟩⟩
                     · rw [if_neg c44] at H
                       have c44b0 : (t229 == t224) = false := beq_eq_false_iff_ne.mpr c44
                       have c44b1 : (t229 != t224) = true := bne_iff_ne.mpr c44
                       obtain rfl := Option.some.inj H
                       have hnb55 := NB210_209.out
                       have hnc55 := NB209_210.out
                       have hcz56_0 : wr.cell? ⟨gb210, 0, none⟩ = some (.string x211000_2) := (blk_cell BK210.out 0).trans rfl
                       have hcz56_1 : wr.cell? ⟨gb210, 1, none⟩ = some (.int .i64 x211001_2) := (blk_cell BK210.out 1).trans rfl
                       have hcz56_2 : wr.cell? ⟨gb210, 2, none⟩ = some (.int .i64 x211002_2) := (blk_cell BK210.out 2).trans rfl
                       have hfz56_0 := blk_frozen BK210.out 0
                       have hfz56_1 := blk_frozen BK210.out 1
                       have hfz56_2 := blk_frozen BK210.out 2
                       go_wp2_with (first | ((with_reducible refine gate_callee (f := 37) rfl ?_); refine goesL_ (some 67) rfl rfl Try.func37 (by kernel_rfl) rfl #[.agg #[.string x211000_2, .int .i64 x211001_2, .int .i64 x211002_2]] rfl (by (try simp only [List.map_toArray, List.map_cons, List.map_nil]); first | done | rfl | (simp only [List.length_drop, List.length_take]; rfl)) ?_; (with_reducible refine (transhumanceref01_Fixed.calls k2 x211000_2 x211001_2 x211002_2 t224 t225 t226 t227 _ A42.out).mono ?_); rintro e w57 ⟨rfl, hb⟩; refine ⟨_, rfl, ?_⟩; have n0_ := Aside0.mk (blk_below (g := gb210) (o := .cells #[.string x211000_2, .int .i64 x211001_2, .int .i64 x211002_2] 47 (0, 0)) (by (with_reducible repeat (first | refine blk_drewN ?_ _ | refine blk_drew ?_ | refine blk_alloc ?_ _)); exact BK210.out) hb); have n1_ := Aside0.mk (IsS83.below (by repeat (first | (with_reducible first | exact HI209.out | apply IsS83.alloc | apply IsS83.drewN | apply IsS83.drew | apply IsS83.set_0 | apply IsS83.set_1 | apply IsS83.set_2 | refine IsS83.far ?_ NB209_210.out _) | exact HI209.out)) hb); have n2_ := Aside0.mk (below_step (by repeat (first | (with_reducible first | exact HB.out | apply below_alloc | apply pw_below_drewN | apply below_drew1 | refine below_set ?_ (IsS83.ge HI209.out) | refine below_set ?_ GE210.out) | exact HB.out)) hb); clear BK210; clear HI209; clear HB; have BK210 := n0_; have HI209 := n1_; have HB := n2_; clear n0_ n1_ n2_; (try clear hb); (try clear hb2); (try clear hk); (try clear hi)) | ((with_reducible refine gate_dst (N := 11) rfl ?_); (try (refine gate_guard (by rfl) ?_; dsimp only)); refine box_event ?hg (N := 11) ?hd (cs := #[.string (⟨#[]⟩ : ByteArray), .int .i64 0, .int .i64 0]) (t := 47) ?hr ?_; (case hd => rfl); (case hg => rfl); (case hr => first | (go_simp; done) | (go_simp; rfl)); intro gb228 hg w58 hbox hb; have n0_ := Aside0.mk (blk_below (g := gb210) (o := .cells #[.string x211000_2, .int .i64 x211001_2, .int .i64 x211002_2] 47 (0, 0)) (by (with_reducible repeat (first | refine blk_drewN ?_ _ | refine blk_drew ?_ | refine blk_alloc ?_ _)); exact BK210.out) hb); have n1_ := Aside0.mk (IsS83.below (by repeat (first | (with_reducible first | exact HI209.out | apply IsS83.alloc | apply IsS83.drewN | apply IsS83.drew | apply IsS83.set_0 | apply IsS83.set_1 | apply IsS83.set_2 | refine IsS83.far ?_ NB209_210.out _) | exact HI209.out)) hb); have n2_ := Aside0.mk (below_step (by repeat (first | (with_reducible first | exact HB.out | apply below_alloc | apply pw_below_drewN | apply below_drew1 | refine below_set ?_ (IsS83.ge HI209.out) | refine below_set ?_ GE210.out) | exact HB.out)) hb); have n3_ := Aside0.mk (hbox); have n4_ := Aside0.mk ((by rw [hg]; exact (below_size (by repeat (first | (with_reducible first | exact HB.out | apply below_alloc | apply pw_below_drewN | apply below_drew1 | refine below_set ?_ (IsS83.ge HI209.out) | refine below_set ?_ GE210.out) | exact HB.out))) : w.heap.size ≤ gb228)); have n5_ := Aside0.mk ((by rw [hg]; exact (below_size (by repeat (first | (with_reducible first | exact HB.out | apply below_alloc | apply pw_below_drewN | apply below_drew1 | refine below_set ?_ (IsS83.ge HI209.out) | refine below_set ?_ GE210.out) | exact HB.out))) : w.heap.size ≤ gb228)); have n6_ := Aside0.mk ((by rw [hg]; exact Nat.ne_of_lt (blk_lt (g := gb210) (o := .cells #[.string x211000_2, .int .i64 x211001_2, .int .i64 x211002_2] 47 (0, 0)) (by (with_reducible repeat (first | refine blk_drewN ?_ _ | refine blk_drew ?_ | refine blk_alloc ?_ _)); exact BK210.out)) : gb210 ≠ gb228)); have n7_ := Aside0.mk ((by rw [hg]; exact Nat.ne_of_gt (blk_lt (g := gb210) (o := .cells #[.string x211000_2, .int .i64 x211001_2, .int .i64 x211002_2] 47 (0, 0)) (by (with_reducible repeat (first | refine blk_drewN ?_ _ | refine blk_drew ?_ | refine blk_alloc ?_ _)); exact BK210.out)) : gb228 ≠ gb210)); have n8_ := Aside0.mk ((by rw [hg]; exact Nat.ne_of_lt (IsS83.lt (show IsS83 w _ g209 x210000_2 x210001_2 x210002_2 from by repeat (first | (with_reducible first | exact HI209.out | apply IsS83.alloc | apply IsS83.drewN | apply IsS83.drew | apply IsS83.set_0 | apply IsS83.set_1 | apply IsS83.set_2 | refine IsS83.far ?_ NB209_210.out _) | exact HI209.out))) : g209 ≠ gb228)); have n9_ := Aside0.mk ((by rw [hg]; exact Nat.ne_of_gt (IsS83.lt (show IsS83 w _ g209 x210000_2 x210001_2 x210002_2 from by repeat (first | (with_reducible first | exact HI209.out | apply IsS83.alloc | apply IsS83.drewN | apply IsS83.drew | apply IsS83.set_0 | apply IsS83.set_1 | apply IsS83.set_2 | refine IsS83.far ?_ NB209_210.out _) | exact HI209.out))) : gb228 ≠ g209)); clear BK210; clear HI209; clear HB; have BK210 := n0_; have HI209 := n1_; have HB := n2_; have BK228 := n3_; have GW228 := n4_; have GE228 := n5_; have NB210_228 := n6_; have NB228_210 := n7_; have NB209_228 := n8_; have NB228_209 := n9_; clear n0_ n1_ n2_ n3_ n4_ n5_ n6_ n7_ n8_ n9_; clear hb hbox hg; have hnb59 := NB228_210.out; have hnc59 := NB210_228.out; have hnb60 := NB228_209.out; have hnc60 := NB209_228.out; have hcz61_0 : w58.cell? ⟨gb228, 0, none⟩ = some (.string (⟨#[]⟩ : ByteArray)) := (blk_cell BK228.out 0).trans rfl; have hcz61_1 : w58.cell? ⟨gb228, 1, none⟩ = some (.int .i64 0) := (blk_cell BK228.out 1).trans rfl; have hcz61_2 : w58.cell? ⟨gb228, 2, none⟩ = some (.int .i64 0) := (blk_cell BK228.out 2).trans rfl; have hfz61_0 := blk_frozen BK228.out 0; have hfz61_1 := blk_frozen BK228.out 1; have hfz61_2 := blk_frozen BK228.out 2) | ((with_reducible refine gate_callee (f := 38) rfl ?_); refine goesL_ (some 71) rfl rfl Try.func38 (by kernel_rfl) rfl #[.pointer (some ⟨g209, 0, none⟩)] rfl (by (try simp only [List.map_toArray, List.map_cons, List.map_nil]); first | done | rfl | (simp only [List.length_drop, List.length_take]; rfl)) ?_; (with_reducible refine (wire_Reader_Fixed.calls k2 g209 x210000_2 x210001_2 x210002_2 t229 t230 t231 t232 w _ ?side1 ?side2 A43.out).mono ?_); (case side1 => repeat (first | (with_reducible first | exact HI209.out | apply IsS83.alloc | apply IsS83.drewN | apply IsS83.drew | apply IsS83.set_0 | apply IsS83.set_1 | apply IsS83.set_2 | refine IsS83.far ?_ NB209_210.out _ | refine IsS83.far ?_ NB209_228.out _) | exact HI209.out)); (case side2 => repeat (first | (with_reducible first | exact HB.out | apply below_alloc | apply pw_below_drewN | apply below_drew1 | refine below_set ?_ (IsS83.ge HI209.out) | refine below_set ?_ GE210.out | refine below_set ?_ GE228.out) | exact HB.out)); rintro e w62 ⟨rfl, hi, hb, hk⟩; refine ⟨_, rfl, ?_⟩; have n0_ := Aside0.mk (KeepBut.blk hk (g' := gb210) (o := .cells #[.string x211000_2, .int .i64 x211001_2, .int .i64 x211002_2] 47 (0, 0)) (by (with_reducible repeat (first | refine blk_drewN ?_ _ | refine blk_drew ?_ | refine blk_alloc ?_ _)); refine blk_far ?_ NB210_228.out _; (with_reducible repeat (first | refine blk_drewN ?_ _ | refine blk_drew ?_ | refine blk_alloc ?_ _)); refine blk_far ?_ NB210_228.out _; (with_reducible repeat (first | refine blk_drewN ?_ _ | refine blk_drew ?_ | refine blk_alloc ?_ _)); refine blk_far ?_ NB210_228.out _; (with_reducible repeat (first | refine blk_drewN ?_ _ | refine blk_drew ?_ | refine blk_alloc ?_ _)); exact BK210.out) NB210_209.out (by simp)); have n1_ := Aside0.mk (KeepBut.blk hk (g' := gb228) (o := .cells #[.string t225, .int .i64 t226, .int .i64 t227] 47 (0, 0)) (by (with_reducible repeat (first | refine blk_drewN ?_ _ | refine blk_drew ?_ | refine blk_alloc ?_ _)); refine blk_put (cs := #[.string t225, .int .i64 t226, .int .i64 0]) ?_ 2 _ rfl; (with_reducible repeat (first | refine blk_drewN ?_ _ | refine blk_drew ?_ | refine blk_alloc ?_ _)); refine blk_put (cs := #[.string t225, .int .i64 0, .int .i64 0]) ?_ 1 _ rfl; (with_reducible repeat (first | refine blk_drewN ?_ _ | refine blk_drew ?_ | refine blk_alloc ?_ _)); refine blk_put (cs := #[.string (⟨#[]⟩ : ByteArray), .int .i64 0, .int .i64 0]) ?_ 0 _ rfl; (with_reducible repeat (first | refine blk_drewN ?_ _ | refine blk_drew ?_ | refine blk_alloc ?_ _)); exact BK228.out) NB228_209.out (by simp)); have n2_ := Aside0.mk (hb); have n3_ := Aside0.mk (hi); clear BK210; clear BK228; clear HB; clear HI209; have BK210 := n0_; have BK228 := n1_; have HB := n2_; have HI209 := n3_; clear n0_ n1_ n2_ n3_; (try clear hb); (try clear hb2); (try clear hk); (try clear hi)))
                       go_ret
                       exact ⟨by first | rfl | (simp [errW_none, errW_some] <;> rfl) | (simp [*, errW_none, errW_some] <;> rfl), by repeat (first | (with_reducible first | exact HB.out | apply below_alloc | apply pw_below_drewN | apply below_drew1 | refine below_set ?_ (IsS83.ge HI209.out) | refine below_set ?_ GE210.out | refine below_set ?_ GE228.out) | exact HB.out)⟩
                   · rw [if_neg c41] at H
                     have c41b0 : (((rd_T49 l1 x7_2).f0) == 1) = false := beq_eq_false_iff_ne.mpr c41
                     have c41b1 : (((rd_T49 l1 x7_2).f0) != 1) = true := bne_iff_ne.mpr c41
                     by_cases c63 : ((rd_T49 l1 x7_2).f0) = 2
                     · rw [if_pos c63] at H
                       have c63b0 : (((rd_T49 l1 x7_2).f0) == 2) = true := beq_iff_eq.mpr c63
                       have c63b1 : (((rd_T49 l1 x7_2).f0) != 2) = false := bne_eq_false_iff_eq.mpr c63
                       clear c63
                       replace H := Option.bind_eq_some_iff.mp H
                       obtain ⟨⟨t234, t235, t236, t237⟩, A640, H⟩ := H
                       replace H : ((wire_Reader_Text.f k2 x210000_2 x210001_2 x210002_2 ((rd_T49 l1 x7_2).f1)).bind fun bt240 => (if bt240.1.toList = t234.toList then (wireReads.j2 k2 l1 x7_2 bt240.2.1 bt240.2.2.1 bt240.2.2.2 t235 t236 t237) else (some false))) = some r := H
                       have A64 := Aside0.mk A640
                       clear A640
                       replace H := Option.bind_eq_some_iff.mp H
                       obtain ⟨⟨t240, t241, t242, t243⟩, A650, H⟩ := H
                       replace H : (if t240.toList = t234.toList then (wireReads.j2 k2 l1 x7_2 t241 t242 t243 t235 t236 t237) else (some false)) = some r := H
                       have A65 := Aside0.mk A650
                       clear A650
                       by_cases c66 : t240.toList = t234.toList
                       · rw [if_pos c66] at H
                         have c66b0 : (t240.toList == t234.toList) = true := beq_iff_eq.mpr c66
                         have c66b1 : (t240.toList != t234.toList) = false := bne_eq_false_iff_eq.mpr c66
                         clear c66
                         have H' := Aside0.mk H
                         clear H
                         try go_wp2
                         have n0_ := Aside0.mk (blk_drew BK210.out)
                         have n1_ := Aside0.mk (IsS83.drew HI209.out)
                         have n2_ := Aside0.mk (below_drew1 HB.out)
                         clear BK210
                         clear HI209
                         clear HB
                         have BK210 := n0_
                         have HI209 := n1_
                         have HB := n2_
                         clear n0_ n1_ n2_
                         have p233 : 0 ≤ (x7_2 : Int) := of_decide_eq_true (by first | (with_reducible assumption) | assumption)
                         have q233 : x7_2 < (l1.length : Int) := of_decide_eq_true (by first | (with_reducible assumption) | assumption)
                         obtain ⟨ad233, e233, hx233_0, hx233_1⟩ := at_T49 HR1.out x7_2 p233 q233
                         have hw233_1 := hx233_1
                         have hw233_0 := hx233_0
                         obtain rfl : ad212 = ad233 := (by injection e233)
                         replace hx233_0 := (HB.out.cell (World.block_lt_of_cell? w _ hx233_0)).trans hx233_0
                         replace hx233_1 := (HB.out.cell (World.block_lt_of_cell? w _ hx233_1)).trans hx233_1
                         replace p233 := eq_true p233
                         replace q233 := eq_true q233
                         refine start_ (n := 13) (S := fun w' => w'.cell? ⟨gb210, 0, none⟩ = some (.string x211000_2) ∧ w'.cell? ⟨gb210, 1, none⟩ = some (.int .i64 x211001_2) ∧ w'.cell? ⟨gb210, 2, none⟩ = some (.int .i64 x211002_2) ∧ w'.cell? (ad212.add ((x7_2).toNat * 2)) = some (.int .i64 ((rd_T49 l1 x7_2).f0)) ∧ w'.cell? ⟨(ad212.add ((x7_2).toNat * 2)).block, (ad212.add ((x7_2).toNat * 2)).off + 1, none⟩ = some (.int .i64 ((rd_T49 l1 x7_2).f1))) (ds := []) #[false, false, false, false, false, false, false, false, false, false, false, false, false] (by kernel_rfl) rfl rfl ⟨(blk_cell BK210.out 0).trans rfl, (blk_cell BK210.out 1).trans rfl, (blk_cell BK210.out 2).trans rfl, ((HB.out.cell (World.block_lt_of_cell? w _ hw233_0)).trans hw233_0), ((HB.out.cell (World.block_lt_of_cell? w _ hw233_1)).trans hw233_1)⟩ (fun hHeld => ?_); refine with_tabW wireReads.tab19 wireReads.bits19 (fun HT_ HW_ => ?_)
                         generalize wr.drew = w67 at BK210 HI209 HB hx233_0 hx233_1 hHeld ⊢
                         refine pure_ (i := 1) (N := some 79) (v := ?_) (a' := ?_) #[false, true, false, false, false, false, false, false, false, false, false, false, false] rfl rfl (any_of HT_.out (by kernel_rfl)) (fun _ _ _ h => h) (Or.inl ⟨by rfl, ?_⟩) ?_ ?_
                         rotate_left
                         · intro w'
                           go_simp
                           with_reducible rfl
                         rotate_left
                         · simp only [Act.put, List.setIfInBounds_toArray, List.set_cons_zero, List.set_cons_succ, i64_w, i32_w]
                           rfl
                         refine pure_ (i := 2) (N := some 80) (v := ?_) (a' := ?_) #[false, true, true, false, false, false, false, false, false, false, false, false, false] rfl rfl (any_of HT_.out (by kernel_rfl)) (fun _ _ _ h => h) (Or.inl ⟨by rfl, ?_⟩) ?_ ?_
                         rotate_left
                         · intro w'
                           go_simp
                           with_reducible rfl
                         rotate_left
                         · simp only [Act.put, List.setIfInBounds_toArray, List.set_cons_zero, List.set_cons_succ, i64_w, i32_w]
                           rfl
                         refine pure_ (i := 3) (N := some 81) (v := ?_) (a' := ?_) #[false, true, true, true, false, false, false, false, false, false, false, false, false] rfl rfl (any_of HT_.out (by kernel_rfl)) (fun _ _ _ h => h) (Or.inl ⟨by rfl, ?_⟩) ?_ ?_
                         rotate_left
                         · intro w'
                           go_simp
                           with_reducible rfl
                         rotate_left
                         · simp only [Act.put, List.setIfInBounds_toArray, List.set_cons_zero, List.set_cons_succ, i64_w, i32_w]
                           rfl
                         refine pure_ (i := 4) (N := some 82) (v := ?_) (a' := ?_) #[false, true, true, true, true, false, false, false, false, false, false, false, false] rfl rfl (any_of HT_.out (by kernel_rfl)) (fun _ _ _ h => h) (Or.inl ⟨by rfl, ?_⟩) ?_ ?_
                         rotate_left
                         · intro w'
                           go_simp
                           with_reducible rfl
                         rotate_left
                         · simp only [Act.put, List.setIfInBounds_toArray, List.set_cons_zero, List.set_cons_succ, i64_w, i32_w]
                           rfl
                         refine take_ (i := 0) (N := some 78) (v := ?_) (a' := ?_) #[true, true, true, true, true, false, false, false, false, false, false, false, false] rfl rfl (take_ofW HT_.out HW_.out (by kernel_rfl)) (fun _ _ _ h => h) (Or.inl ⟨by rfl, ?_⟩) hHeld ?_ ?_
                         rotate_left
                         · rintro w' ⟨s0, s1, s2, s3, s4⟩
                           go_simp
                           with_reducible rfl
                         rotate_left
                         · simp only [Act.put, List.setIfInBounds_toArray, List.set_cons_zero, List.set_cons_succ, i64_w, i32_w]
                           rfl
                         refine take_ (i := 5) (N := some 83) (v := ?_) (a' := ?_) #[true, true, true, true, true, true, false, false, false, false, false, false, false] rfl rfl (take_ofW HT_.out HW_.out (by kernel_rfl)) (fun _ _ _ h => h) (Or.inl ⟨by rfl, ?_⟩) hHeld ?_ ?_
                         rotate_left
                         · rintro w' ⟨s0, s1, s2, s3, s4⟩
                           go_simp
                           with_reducible rfl
                         rotate_left
                         · simp only [Act.put, List.setIfInBounds_toArray, List.set_cons_zero, List.set_cons_succ, i64_w, i32_w]
                           rfl
                         refine join_ (σ := Nat) 2 #[true, true, true, true, true, true, true, true, true, true, true, false, false] (fun s_ => [(84, .tuple #[.string t234, .agg #[.string t235, .int .i64 t236, .int .i64 t237]]), (13, .pointer (some ⟨s_, 0, none⟩)), (77, .tuple #[.string t234, .agg #[.string t235, .int .i64 t236, .int .i64 t237]]), (85, .string t234), (86, .agg #[.string t235, .int .i64 t236, .int .i64 t237])]) (fun s_ w' => (w'.cell? ⟨gb210, 0, none⟩ = some (.string x211000_2) ∧ w'.cell? ⟨gb210, 1, none⟩ = some (.int .i64 x211001_2) ∧ w'.cell? ⟨gb210, 2, none⟩ = some (.int .i64 x211002_2) ∧ w'.cell? (ad212.add ((x7_2).toNat * 2)) = some (.int .i64 ((rd_T49 l1 x7_2).f0)) ∧ w'.cell? ⟨(ad212.add ((x7_2).toNat * 2)).block, (ad212.add ((x7_2).toNat * 2)).off + 1, none⟩ = some (.int .i64 ((rd_T49 l1 x7_2).f1))) ∧ (w'.heap[gb210]? = some (.cells #[.string x211000_2, .int .i64 x211001_2, .int .i64 x211002_2] 47 (0, 0))) ∧ (w'.heap[s_]? = some (.cells #[.string (⟨#[]⟩ : ByteArray), .int .i64 0, .int .i64 0] 47 (0, 0))) ∧ (w.heap.size ≤ s_) ∧ (w.heap.size ≤ s_) ∧ (g209 ≠ s_) ∧ (s_ ≠ g209) ∧ (gb210 ≠ s_) ∧ (s_ ≠ gb210) ∧ (IsS83 w w' g209 x210000_2 x210001_2 x210002_2) ∧ (Below w.heap.size w w')) ?_ ?_
                         rotate_left
                         · intro hCont
                           refine two_ (i := 6) (j := 10) (Ni := some 84) (Nj := some 13) #[true, true, true, true, true, true, true, false, false, false, false, false, false] #[true, true, true, true, true, true, false, false, false, false, true, false, false] rfl rfl rfl rfl (two_of HT_.out (by kernel_rfl)) (by decide) (by decide) (fun K hK => ?_) (fun K hK => ?_)
                           · skip
                             refine goes_ Try.func39 (by kernel_rfl) rfl #[.agg #[.string x211000_2, .int .i64 x211001_2, .int .i64 x211002_2], .int .i64 ((rd_T49 l1 x7_2).f1)] (by rfl) rfl rfl (by (try simp only [List.map_toArray, List.map_cons, List.map_nil]); first | done | rfl | (simp only [List.length_drop, List.length_take]; rfl)) ?_
                             with_reducible refine (transhumanceref01_Text.calls k2 x211000_2 x211001_2 x211002_2 ((rd_T49 l1 x7_2).f1) t234 t235 t236 t237 _ A64.out).mono ?_
                             rintro e w68 ⟨rfl, hb⟩
                             refine ⟨_, rfl, ?_⟩
                             have n0_ := Aside0.mk (blk_below (g := gb210) (o := .cells #[.string x211000_2, .int .i64 x211001_2, .int .i64 x211002_2] 47 (0, 0)) (by (with_reducible repeat (first | refine blk_drewN ?_ _ | refine blk_drew ?_ | refine blk_alloc ?_ _)); exact BK210.out) hb)
                             have n1_ := Aside0.mk (IsS83.below (by repeat (first | (with_reducible first | exact HI209.out | apply IsS83.alloc | apply IsS83.drewN | apply IsS83.drew | apply IsS83.set_0 | apply IsS83.set_1 | apply IsS83.set_2 | refine IsS83.far ?_ NB209_210.out _) | exact HI209.out)) hb)
                             have n2_ := Aside0.mk (below_step (by repeat (first | (with_reducible first | exact HB.out | apply below_alloc | apply pw_below_drewN | apply below_drew1 | refine below_set ?_ (IsS83.ge HI209.out) | refine below_set ?_ GE210.out) | exact HB.out)) hb)
                             clear BK210
                             clear HI209
                             clear HB
                             have BK210 := n0_
                             have HI209 := n1_
                             have HB := n2_
                             clear n0_ n1_ n2_
                             (try clear hb)
                             (try clear hb2)
                             (try clear hk)
                             (try clear hi)
                             refine hK.out _ _ ⟨(blk_cell BK210.out 0).trans rfl, (blk_cell BK210.out 1).trans rfl, (blk_cell BK210.out 2).trans rfl, ((HB.out.cell (World.block_lt_of_cell? w _ hw233_0)).trans hw233_0), ((HB.out.cell (World.block_lt_of_cell? w _ hw233_1)).trans hw233_1)⟩ (fun hHeld => ?_)
                             clear hK K
                             refine norm_ (a' := ?_) ?_ ?_
                             rotate_left
                             · show Act.put _ (some 84) _ = _
                               simp only [Act.put, List.setIfInBounds_toArray, List.set_cons_zero, List.set_cons_succ, i64_w, i32_w]
                               rfl
                             refine pure_ (i := 7) (N := some 77) (v := ?_) (a' := ?_) #[true, true, true, true, true, true, true, true, false, false, false, false, false] rfl rfl (any_of HT_.out (by kernel_rfl)) (fun _ _ _ h => h) (Or.inl ⟨by rfl, ?_⟩) ?_ ?_
                             rotate_left
                             · intro w'
                               go_simp
                               with_reducible rfl
                             rotate_left
                             · simp only [Act.put, List.setIfInBounds_toArray, List.set_cons_zero, List.set_cons_succ, i64_w, i32_w]
                               rfl
                             refine pure_ (i := 8) (N := some 85) (v := ?_) (a' := ?_) #[true, true, true, true, true, true, true, true, true, false, false, false, false] rfl rfl (any_of HT_.out (by kernel_rfl)) (fun _ _ _ h => h) (Or.inl ⟨by rfl, ?_⟩) ?_ ?_
                             rotate_left
                             · intro w'
                               go_simp
                               with_reducible rfl
                             rotate_left
                             · simp only [Act.put, List.setIfInBounds_toArray, List.set_cons_zero, List.set_cons_succ, i64_w, i32_w]
                               rfl
                             refine pure_ (i := 9) (N := some 86) (v := ?_) (a' := ?_) #[true, true, true, true, true, true, true, true, true, true, false, false, false] rfl rfl (any_of HT_.out (by kernel_rfl)) (fun _ _ _ h => h) (Or.inl ⟨by rfl, ?_⟩) ?_ ?_
                             rotate_left
                             · intro w'
                               go_simp
                               with_reducible rfl
                             rotate_left
                             · simp only [Act.put, List.setIfInBounds_toArray, List.set_cons_zero, List.set_cons_succ, i64_w, i32_w]
                               rfl
                             refine one_ (i := 10) (N := some 13) #[true, true, true, true, true, true, true, true, true, true, true, false, false] rfl rfl (one_of HT_.out (by kernel_rfl)) (by decide) (fun K hK => ?_)
                             refine box_step ?hg (N := 13) ?hd (cs := #[.string (⟨#[]⟩ : ByteArray), .int .i64 0, .int .i64 0]) (t := 47) ?hr ?_; (case hd => rfl); (case hg => rfl); (case hr => first | (go_simp; done) | (go_simp; rfl))
                             intro gb238 hg w69 hbox hb
                             have n0_ := Aside0.mk (blk_below (g := gb210) (o := .cells #[.string x211000_2, .int .i64 x211001_2, .int .i64 x211002_2] 47 (0, 0)) (by (with_reducible repeat (first | refine blk_drewN ?_ _ | refine blk_drew ?_ | refine blk_alloc ?_ _)); exact BK210.out) hb)
                             have n1_ := Aside0.mk (IsS83.below (by repeat (first | (with_reducible first | exact HI209.out | apply IsS83.alloc | apply IsS83.drewN | apply IsS83.drew | apply IsS83.set_0 | apply IsS83.set_1 | apply IsS83.set_2 | refine IsS83.far ?_ NB209_210.out _) | exact HI209.out)) hb)
                             have n2_ := Aside0.mk (below_step (by repeat (first | (with_reducible first | exact HB.out | apply below_alloc | apply pw_below_drewN | apply below_drew1 | refine below_set ?_ (IsS83.ge HI209.out) | refine below_set ?_ GE210.out) | exact HB.out)) hb)
                             have n3_ := Aside0.mk (hbox)
                             have n4_ := Aside0.mk ((by rw [hg]; exact (below_size (by repeat (first | (with_reducible first | exact HB.out | apply below_alloc | apply pw_below_drewN | apply below_drew1 | refine below_set ?_ (IsS83.ge HI209.out) | refine below_set ?_ GE210.out) | exact HB.out))) : w.heap.size ≤ gb238))
                             have n5_ := Aside0.mk ((by rw [hg]; exact (below_size (by repeat (first | (with_reducible first | exact HB.out | apply below_alloc | apply pw_below_drewN | apply below_drew1 | refine below_set ?_ (IsS83.ge HI209.out) | refine below_set ?_ GE210.out) | exact HB.out))) : w.heap.size ≤ gb238))
                             have n6_ := Aside0.mk ((by rw [hg]; exact Nat.ne_of_lt (blk_lt (g := gb210) (o := .cells #[.string x211000_2, .int .i64 x211001_2, .int .i64 x211002_2] 47 (0, 0)) (by (with_reducible repeat (first | refine blk_drewN ?_ _ | refine blk_drew ?_ | refine blk_alloc ?_ _)); exact BK210.out)) : gb210 ≠ gb238))
                             have n7_ := Aside0.mk ((by rw [hg]; exact Nat.ne_of_gt (blk_lt (g := gb210) (o := .cells #[.string x211000_2, .int .i64 x211001_2, .int .i64 x211002_2] 47 (0, 0)) (by (with_reducible repeat (first | refine blk_drewN ?_ _ | refine blk_drew ?_ | refine blk_alloc ?_ _)); exact BK210.out)) : gb238 ≠ gb210))
                             have n8_ := Aside0.mk ((by rw [hg]; exact Nat.ne_of_lt (IsS83.lt (show IsS83 w _ g209 x210000_2 x210001_2 x210002_2 from by repeat (first | (with_reducible first | exact HI209.out | apply IsS83.alloc | apply IsS83.drewN | apply IsS83.drew | apply IsS83.set_0 | apply IsS83.set_1 | apply IsS83.set_2 | refine IsS83.far ?_ NB209_210.out _) | exact HI209.out))) : g209 ≠ gb238))
                             have n9_ := Aside0.mk ((by rw [hg]; exact Nat.ne_of_gt (IsS83.lt (show IsS83 w _ g209 x210000_2 x210001_2 x210002_2 from by repeat (first | (with_reducible first | exact HI209.out | apply IsS83.alloc | apply IsS83.drewN | apply IsS83.drew | apply IsS83.set_0 | apply IsS83.set_1 | apply IsS83.set_2 | refine IsS83.far ?_ NB209_210.out _) | exact HI209.out))) : gb238 ≠ g209))
                             clear BK210
                             clear HI209
                             clear HB
                             have BK210 := n0_
                             have HI209 := n1_
                             have HB := n2_
                             have BK238 := n3_
                             have GW238 := n4_
                             have GE238 := n5_
                             have NB210_238 := n6_
                             have NB238_210 := n7_
                             have NB209_238 := n8_
                             have NB238_209 := n9_
                             clear n0_ n1_ n2_ n3_ n4_ n5_ n6_ n7_ n8_ n9_
                             clear hb hbox hg
                             refine hK.out _ _ ⟨(blk_cell BK210.out 0).trans rfl, (blk_cell BK210.out 1).trans rfl, (blk_cell BK210.out 2).trans rfl, ((HB.out.cell (World.block_lt_of_cell? w _ hw233_0)).trans hw233_0), ((HB.out.cell (World.block_lt_of_cell? w _ hw233_1)).trans hw233_1)⟩ (fun hHeld => ?_)
                             clear hK K
                             refine norm_ (a' := ?_) ?_ ?_
                             rotate_left
                             · show Act.put _ (some 13) _ = _
                               simp only [Act.put, List.setIfInBounds_toArray, List.set_cons_zero, List.set_cons_succ, i64_w, i32_w]
                               rfl
                             exact norm_ (by simp only [putAll, Act.put, List.setIfInBounds_toArray, List.set_cons_zero, List.set_cons_succ]) (hCont (gb238) _ ⟨hHeld, (by (with_reducible repeat (first | refine blk_drewN ?_ _ | refine blk_drew ?_ | refine blk_alloc ?_ _)); exact BK210.out), (by (with_reducible repeat (first | refine blk_drewN ?_ _ | refine blk_drew ?_ | refine blk_alloc ?_ _)); exact BK238.out), GW238.out, GE238.out, NB209_238.out, NB238_209.out, NB210_238.out, NB238_210.out, (by repeat (first | (with_reducible first | exact HI209.out | apply IsS83.alloc | apply IsS83.drewN | apply IsS83.drew | apply IsS83.set_0 | apply IsS83.set_1 | apply IsS83.set_2 | refine IsS83.far ?_ NB209_210.out _ | refine IsS83.far ?_ NB209_238.out _) | exact HI209.out)), (by repeat (first | (with_reducible first | exact HB.out | apply below_alloc | apply pw_below_drewN | apply below_drew1 | refine below_set ?_ (IsS83.ge HI209.out) | refine below_set ?_ GE210.out | refine below_set ?_ GE238.out) | exact HB.out))⟩)
                           · skip
                             refine box_step ?hg (N := 13) ?hd (cs := #[.string (⟨#[]⟩ : ByteArray), .int .i64 0, .int .i64 0]) (t := 47) ?hr ?_; (case hd => rfl); (case hg => rfl); (case hr => first | (go_simp; done) | (go_simp; rfl))
                             intro gb238 hg w68 hbox hb
                             have n0_ := Aside0.mk (blk_below (g := gb210) (o := .cells #[.string x211000_2, .int .i64 x211001_2, .int .i64 x211002_2] 47 (0, 0)) (by (with_reducible repeat (first | refine blk_drewN ?_ _ | refine blk_drew ?_ | refine blk_alloc ?_ _)); exact BK210.out) hb)
                             have n1_ := Aside0.mk (IsS83.below (by repeat (first | (with_reducible first | exact HI209.out | apply IsS83.alloc | apply IsS83.drewN | apply IsS83.drew | apply IsS83.set_0 | apply IsS83.set_1 | apply IsS83.set_2 | refine IsS83.far ?_ NB209_210.out _) | exact HI209.out)) hb)
                             have n2_ := Aside0.mk (below_step (by repeat (first | (with_reducible first | exact HB.out | apply below_alloc | apply pw_below_drewN | apply below_drew1 | refine below_set ?_ (IsS83.ge HI209.out) | refine below_set ?_ GE210.out) | exact HB.out)) hb)
                             have n3_ := Aside0.mk (hbox)
                             have n4_ := Aside0.mk ((by rw [hg]; exact (below_size (by repeat (first | (with_reducible first | exact HB.out | apply below_alloc | apply pw_below_drewN | apply below_drew1 | refine below_set ?_ (IsS83.ge HI209.out) | refine below_set ?_ GE210.out) | exact HB.out))) : w.heap.size ≤ gb238))
                             have n5_ := Aside0.mk ((by rw [hg]; exact (below_size (by repeat (first | (with_reducible first | exact HB.out | apply below_alloc | apply pw_below_drewN | apply below_drew1 | refine below_set ?_ (IsS83.ge HI209.out) | refine below_set ?_ GE210.out) | exact HB.out))) : w.heap.size ≤ gb238))
                             have n6_ := Aside0.mk ((by rw [hg]; exact Nat.ne_of_lt (blk_lt (g := gb210) (o := .cells #[.string x211000_2, .int .i64 x211001_2, .int .i64 x211002_2] 47 (0, 0)) (by (with_reducible repeat (first | refine blk_drewN ?_ _ | refine blk_drew ?_ | refine blk_alloc ?_ _)); exact BK210.out)) : gb210 ≠ gb238))
                             have n7_ := Aside0.mk ((by rw [hg]; exact Nat.ne_of_gt (blk_lt (g := gb210) (o := .cells #[.string x211000_2, .int .i64 x211001_2, .int .i64 x211002_2] 47 (0, 0)) (by (with_reducible repeat (first | refine blk_drewN ?_ _ | refine blk_drew ?_ | refine blk_alloc ?_ _)); exact BK210.out)) : gb238 ≠ gb210))
                             have n8_ := Aside0.mk ((by rw [hg]; exact Nat.ne_of_lt (IsS83.lt (show IsS83 w _ g209 x210000_2 x210001_2 x210002_2 from by repeat (first | (with_reducible first | exact HI209.out | apply IsS83.alloc | apply IsS83.drewN | apply IsS83.drew | apply IsS83.set_0 | apply IsS83.set_1 | apply IsS83.set_2 | refine IsS83.far ?_ NB209_210.out _) | exact HI209.out))) : g209 ≠ gb238))
                             have n9_ := Aside0.mk ((by rw [hg]; exact Nat.ne_of_gt (IsS83.lt (show IsS83 w _ g209 x210000_2 x210001_2 x210002_2 from by repeat (first | (with_reducible first | exact HI209.out | apply IsS83.alloc | apply IsS83.drewN | apply IsS83.drew | apply IsS83.set_0 | apply IsS83.set_1 | apply IsS83.set_2 | refine IsS83.far ?_ NB209_210.out _) | exact HI209.out))) : gb238 ≠ g209))
                             clear BK210
                             clear HI209
                             clear HB
                             have BK210 := n0_
                             have HI209 := n1_
                             have HB := n2_
                             have BK238 := n3_
                             have GW238 := n4_
                             have GE238 := n5_
                             have NB210_238 := n6_
                             have NB238_210 := n7_
                             have NB209_238 := n8_
                             have NB238_209 := n9_
                             clear n0_ n1_ n2_ n3_ n4_ n5_ n6_ n7_ n8_ n9_
                             clear hb hbox hg
                             refine hK.out _ _ ⟨(blk_cell BK210.out 0).trans rfl, (blk_cell BK210.out 1).trans rfl, (blk_cell BK210.out 2).trans rfl, ((HB.out.cell (World.block_lt_of_cell? w _ hw233_0)).trans hw233_0), ((HB.out.cell (World.block_lt_of_cell? w _ hw233_1)).trans hw233_1)⟩ (fun hHeld => ?_)
                             clear hK K
                             refine norm_ (a' := ?_) ?_ ?_
                             rotate_left
                             · show Act.put _ (some 13) _ = _
                               simp only [Act.put, List.setIfInBounds_toArray, List.set_cons_zero, List.set_cons_succ, i64_w, i32_w]
                               rfl
                             refine one_ (i := 6) (N := some 84) #[true, true, true, true, true, true, true, false, false, false, true, false, false] rfl rfl (one_of HT_.out (by kernel_rfl)) (by decide) (fun K hK => ?_)
                             refine goes_ Try.func39 (by kernel_rfl) rfl #[.agg #[.string x211000_2, .int .i64 x211001_2, .int .i64 x211002_2], .int .i64 ((rd_T49 l1 x7_2).f1)] (by rfl) rfl rfl (by (try simp only [List.map_toArray, List.map_cons, List.map_nil]); first | done | rfl | (simp only [List.length_drop, List.length_take]; rfl)) ?_
                             with_reducible refine (transhumanceref01_Text.calls k2 x211000_2 x211001_2 x211002_2 ((rd_T49 l1 x7_2).f1) t234 t235 t236 t237 _ A64.out).mono ?_
                             rintro e w69 ⟨rfl, hb⟩
                             refine ⟨_, rfl, ?_⟩
                             have n0_ := Aside0.mk (blk_below (g := gb210) (o := .cells #[.string x211000_2, .int .i64 x211001_2, .int .i64 x211002_2] 47 (0, 0)) (by (with_reducible repeat (first | refine blk_drewN ?_ _ | refine blk_drew ?_ | refine blk_alloc ?_ _)); exact BK210.out) hb)
                             have n1_ := Aside0.mk (IsS83.below (by repeat (first | (with_reducible first | exact HI209.out | apply IsS83.alloc | apply IsS83.drewN | apply IsS83.drew | apply IsS83.set_0 | apply IsS83.set_1 | apply IsS83.set_2 | refine IsS83.far ?_ NB209_210.out _ | refine IsS83.far ?_ NB209_238.out _) | exact HI209.out)) hb)
                             have n2_ := Aside0.mk (blk_below (g := gb238) (o := .cells #[.string (⟨#[]⟩ : ByteArray), .int .i64 0, .int .i64 0] 47 (0, 0)) (by (with_reducible repeat (first | refine blk_drewN ?_ _ | refine blk_drew ?_ | refine blk_alloc ?_ _)); exact BK238.out) hb)
                             have n3_ := Aside0.mk (below_step (by repeat (first | (with_reducible first | exact HB.out | apply below_alloc | apply pw_below_drewN | apply below_drew1 | refine below_set ?_ (IsS83.ge HI209.out) | refine below_set ?_ GE210.out | refine below_set ?_ GE238.out) | exact HB.out)) hb)
                             clear BK210
                             clear HI209
                             clear BK238
                             clear HB
                             have BK210 := n0_
                             have HI209 := n1_
                             have BK238 := n2_
                             have HB := n3_
                             clear n0_ n1_ n2_ n3_
                             (try clear hb)
                             (try clear hb2)
                             (try clear hk)
                             (try clear hi)
                             refine hK.out _ _ ⟨(blk_cell BK210.out 0).trans rfl, (blk_cell BK210.out 1).trans rfl, (blk_cell BK210.out 2).trans rfl, ((HB.out.cell (World.block_lt_of_cell? w _ hw233_0)).trans hw233_0), ((HB.out.cell (World.block_lt_of_cell? w _ hw233_1)).trans hw233_1)⟩ (fun hHeld => ?_)
                             clear hK K
                             refine norm_ (a' := ?_) ?_ ?_
                             rotate_left
                             · show Act.put _ (some 84) _ = _
                               simp only [Act.put, List.setIfInBounds_toArray, List.set_cons_zero, List.set_cons_succ, i64_w, i32_w]
                               rfl
                             refine pure_ (i := 7) (N := some 77) (v := ?_) (a' := ?_) #[true, true, true, true, true, true, true, true, false, false, true, false, false] rfl rfl (any_of HT_.out (by kernel_rfl)) (fun _ _ _ h => h) (Or.inl ⟨by rfl, ?_⟩) ?_ ?_
                             rotate_left
                             · intro w'
                               go_simp
                               with_reducible rfl
                             rotate_left
                             · simp only [Act.put, List.setIfInBounds_toArray, List.set_cons_zero, List.set_cons_succ, i64_w, i32_w]
                               rfl
                             refine pure_ (i := 8) (N := some 85) (v := ?_) (a' := ?_) #[true, true, true, true, true, true, true, true, true, false, true, false, false] rfl rfl (any_of HT_.out (by kernel_rfl)) (fun _ _ _ h => h) (Or.inl ⟨by rfl, ?_⟩) ?_ ?_
                             rotate_left
                             · intro w'
                               go_simp
                               with_reducible rfl
                             rotate_left
                             · simp only [Act.put, List.setIfInBounds_toArray, List.set_cons_zero, List.set_cons_succ, i64_w, i32_w]
                               rfl
                             refine pure_ (i := 9) (N := some 86) (v := ?_) (a' := ?_) #[true, true, true, true, true, true, true, true, true, true, true, false, false] rfl rfl (any_of HT_.out (by kernel_rfl)) (fun _ _ _ h => h) (Or.inl ⟨by rfl, ?_⟩) ?_ ?_
                             rotate_left
                             · intro w'
                               go_simp
                               with_reducible rfl
                             rotate_left
                             · simp only [Act.put, List.setIfInBounds_toArray, List.set_cons_zero, List.set_cons_succ, i64_w, i32_w]
                               rfl
                             exact norm_ (by simp only [putAll, Act.put, List.setIfInBounds_toArray, List.set_cons_zero, List.set_cons_succ]) (hCont (gb238) _ ⟨hHeld, (by (with_reducible repeat (first | refine blk_drewN ?_ _ | refine blk_drew ?_ | refine blk_alloc ?_ _)); exact BK210.out), (by (with_reducible repeat (first | refine blk_drewN ?_ _ | refine blk_drew ?_ | refine blk_alloc ?_ _)); exact BK238.out), GW238.out, GE238.out, NB209_238.out, NB238_209.out, NB210_238.out, NB238_210.out, (by repeat (first | (with_reducible first | exact HI209.out | apply IsS83.alloc | apply IsS83.drewN | apply IsS83.drew | apply IsS83.set_0 | apply IsS83.set_1 | apply IsS83.set_2 | refine IsS83.far ?_ NB209_210.out _ | refine IsS83.far ?_ NB209_238.out _) | exact HI209.out)), (by repeat (first | (with_reducible first | exact HB.out | apply below_alloc | apply pw_below_drewN | apply below_drew1 | refine below_set ?_ (IsS83.ge HI209.out) | refine below_set ?_ GE210.out | refine below_set ?_ GE238.out) | exact HB.out))⟩)
                         rintro gb238 w70 ⟨hS_, h0_, h1_, h2_, h3_, h4_, h5_, h6_, h7_, h8_, h9_⟩
                         have n0_ : Aside0 (w70.heap[gb210]? = some (.cells #[.string x211000_2, .int .i64 x211001_2, .int .i64 x211002_2] 47 (0, 0))) := ⟨h0_⟩
                         have n1_ : Aside0 (w70.heap[gb238]? = some (.cells #[.string (⟨#[]⟩ : ByteArray), .int .i64 0, .int .i64 0] 47 (0, 0))) := ⟨h1_⟩
                         have n2_ : Aside0 (w.heap.size ≤ gb238) := ⟨h2_⟩
                         have n3_ : Aside0 (w.heap.size ≤ gb238) := ⟨h3_⟩
                         have n4_ : Aside0 (g209 ≠ gb238) := ⟨h4_⟩
                         have n5_ : Aside0 (gb238 ≠ g209) := ⟨h5_⟩
                         have n6_ : Aside0 (gb210 ≠ gb238) := ⟨h6_⟩
                         have n7_ : Aside0 (gb238 ≠ gb210) := ⟨h7_⟩
                         have n8_ : Aside0 (IsS83 w w70 g209 x210000_2 x210001_2 x210002_2) := ⟨h8_⟩
                         have n9_ : Aside0 (Below w.heap.size w w70) := ⟨h9_⟩
                         clear BK210
                         clear HI209
                         clear HB
                         clear h0_ h1_ h2_ h3_ h4_ h5_ h6_ h7_ h8_ h9_
                         have BK210 := n0_
                         have BK238 := n1_
                         have GW238 := n2_
                         have GE238 := n3_
                         have NB209_238 := n4_
                         have NB238_209 := n5_
                         have NB210_238 := n6_
                         have NB238_210 := n7_
                         have HI209 := n8_
                         have HB := n9_
                         clear n0_ n1_ n2_ n3_ n4_ n5_ n6_ n7_ n8_ n9_
                         have hHeld : w70.cell? ⟨gb210, 0, none⟩ = some (.string x211000_2) ∧ w70.cell? ⟨gb210, 1, none⟩ = some (.int .i64 x211001_2) ∧ w70.cell? ⟨gb210, 2, none⟩ = some (.int .i64 x211002_2) ∧ w70.cell? (ad212.add ((x7_2).toNat * 2)) = some (.int .i64 ((rd_T49 l1 x7_2).f0)) ∧ w70.cell? ⟨(ad212.add ((x7_2).toNat * 2)).block, (ad212.add ((x7_2).toNat * 2)).off + 1, none⟩ = some (.int .i64 ((rd_T49 l1 x7_2).f1)) := hS_
                         refine norm_ (a' := ?_) ?_ ?_
                         rotate_left
                         · simp only [putAll, Act.put, List.setIfInBounds_toArray, List.set_cons_zero, List.set_cons_succ]
                           rfl
                         refine pure_ (i := 11) (N := some 12) (v := ?_) (a' := ?_) #[true, true, true, true, true, true, true, true, true, true, true, true, false] rfl rfl (any_of HT_.out (by kernel_rfl)) (fun _ _ _ h => h) (Or.inl ⟨by rfl, ?_⟩) ?_ ?_
                         rotate_left
                         · intro w'
                           go_simp
                           with_reducible rfl
                         rotate_left
                         · simp only [Act.put, List.setIfInBounds_toArray, List.set_cons_zero, List.set_cons_succ, i64_w, i32_w]
                           rfl
                         refine one_ (i := 12) (N := none) #[true, true, true, true, true, true, true, true, true, true, true, true, true] rfl rfl (one_of HT_.out (by kernel_rfl)) (by decide) (fun K hK => ?_)
                         have hs71 : w70.cell? ⟨gb238, 0, none⟩ = some (.string (⟨#[]⟩ : ByteArray)) := (blk_cell BK238.out 0).trans rfl
                         have hfs71 := blk_frozen BK238.out 0
                         have hns71_0 := NB210_238.out
                         have hms71_0 := NB238_210.out
                         have hs72 : w70.cell? ⟨gb238, 1, none⟩ = some (.int .i64 0) := (blk_cell BK238.out 1).trans rfl
                         have hfs72 := blk_frozen BK238.out 1
                         have hns72_0 := NB210_238.out
                         have hms72_0 := NB238_210.out
                         have hs73 : w70.cell? ⟨gb238, 2, none⟩ = some (.int .i64 0) := (blk_cell BK238.out 2).trans rfl
                         have hfs73 := blk_frozen BK238.out 2
                         have hns73_0 := NB210_238.out
                         have hms73_0 := NB238_210.out
                         refine skip_ (w1 := ?_) (by rfl) rfl ?_ ?_
                         rotate_left
                         · go_simp
                           rfl
                         refine hK.out _ _ ⟨((cell_far (p := ⟨gb238, _, none⟩) NB210_238.out _).trans (((cell_far (p := ⟨gb238, _, none⟩) NB210_238.out _).trans (((cell_far (p := ⟨gb238, _, none⟩) NB210_238.out _).trans (hHeld.1)))))), ((cell_far (p := ⟨gb238, _, none⟩) NB210_238.out _).trans (((cell_far (p := ⟨gb238, _, none⟩) NB210_238.out _).trans (((cell_far (p := ⟨gb238, _, none⟩) NB210_238.out _).trans (hHeld.2.1)))))), ((cell_far (p := ⟨gb238, _, none⟩) NB210_238.out _).trans (((cell_far (p := ⟨gb238, _, none⟩) NB210_238.out _).trans (((cell_far (p := ⟨gb238, _, none⟩) NB210_238.out _).trans (hHeld.2.2.1)))))), ((cell_far (p := ⟨gb238, _, none⟩) (by first | exact Nat.ne_of_lt (Nat.lt_of_lt_of_le (by have := World.block_lt_of_cell? _ _ hw233_0; first | rwa [add_block] at this | exact this) GW238.out) | (rw [add_block]; exact Nat.ne_of_lt (Nat.lt_of_lt_of_le (by have := World.block_lt_of_cell? _ _ hw233_0; first | rwa [add_block] at this | exact this) GW238.out)) | (show (Addr.add _ _).block ≠ _; rw [add_block]; exact Nat.ne_of_lt (Nat.lt_of_lt_of_le (by have := World.block_lt_of_cell? _ _ hw233_0; first | rwa [add_block] at this | exact this) GW238.out)) | (dsimp only; exact Nat.ne_of_lt (Nat.lt_of_lt_of_le (by have := World.block_lt_of_cell? _ _ hw233_0; first | rwa [add_block] at this | exact this) GW238.out))) _).trans (((cell_far (p := ⟨gb238, _, none⟩) (by first | exact Nat.ne_of_lt (Nat.lt_of_lt_of_le (by have := World.block_lt_of_cell? _ _ hw233_0; first | rwa [add_block] at this | exact this) GW238.out) | (rw [add_block]; exact Nat.ne_of_lt (Nat.lt_of_lt_of_le (by have := World.block_lt_of_cell? _ _ hw233_0; first | rwa [add_block] at this | exact this) GW238.out)) | (show (Addr.add _ _).block ≠ _; rw [add_block]; exact Nat.ne_of_lt (Nat.lt_of_lt_of_le (by have := World.block_lt_of_cell? _ _ hw233_0; first | rwa [add_block] at this | exact this) GW238.out)) | (dsimp only; exact Nat.ne_of_lt (Nat.lt_of_lt_of_le (by have := World.block_lt_of_cell? _ _ hw233_0; first | rwa [add_block] at this | exact this) GW238.out))) _).trans (((cell_far (p := ⟨gb238, _, none⟩) (by first | exact Nat.ne_of_lt (Nat.lt_of_lt_of_le (by have := World.block_lt_of_cell? _ _ hw233_0; first | rwa [add_block] at this | exact this) GW238.out) | (rw [add_block]; exact Nat.ne_of_lt (Nat.lt_of_lt_of_le (by have := World.block_lt_of_cell? _ _ hw233_0; first | rwa [add_block] at this | exact this) GW238.out)) | (show (Addr.add _ _).block ≠ _; rw [add_block]; exact Nat.ne_of_lt (Nat.lt_of_lt_of_le (by have := World.block_lt_of_cell? _ _ hw233_0; first | rwa [add_block] at this | exact this) GW238.out)) | (dsimp only; exact Nat.ne_of_lt (Nat.lt_of_lt_of_le (by have := World.block_lt_of_cell? _ _ hw233_0; first | rwa [add_block] at this | exact this) GW238.out))) _).trans (hHeld.2.2.2.1)))))), ((cell_far (p := ⟨gb238, _, none⟩) (by first | exact Nat.ne_of_lt (Nat.lt_of_lt_of_le (by have := World.block_lt_of_cell? _ _ hw233_1; first | rwa [add_block] at this | exact this) GW238.out) | (rw [add_block]; exact Nat.ne_of_lt (Nat.lt_of_lt_of_le (by have := World.block_lt_of_cell? _ _ hw233_1; first | rwa [add_block] at this | exact this) GW238.out)) | (show (Addr.add _ _).block ≠ _; rw [add_block]; exact Nat.ne_of_lt (Nat.lt_of_lt_of_le (by have := World.block_lt_of_cell? _ _ hw233_1; first | rwa [add_block] at this | exact this) GW238.out)) | (dsimp only; exact Nat.ne_of_lt (Nat.lt_of_lt_of_le (by have := World.block_lt_of_cell? _ _ hw233_1; first | rwa [add_block] at this | exact this) GW238.out))) _).trans (((cell_far (p := ⟨gb238, _, none⟩) (by first | exact Nat.ne_of_lt (Nat.lt_of_lt_of_le (by have := World.block_lt_of_cell? _ _ hw233_1; first | rwa [add_block] at this | exact this) GW238.out) | (rw [add_block]; exact Nat.ne_of_lt (Nat.lt_of_lt_of_le (by have := World.block_lt_of_cell? _ _ hw233_1; first | rwa [add_block] at this | exact this) GW238.out)) | (show (Addr.add _ _).block ≠ _; rw [add_block]; exact Nat.ne_of_lt (Nat.lt_of_lt_of_le (by have := World.block_lt_of_cell? _ _ hw233_1; first | rwa [add_block] at this | exact this) GW238.out)) | (dsimp only; exact Nat.ne_of_lt (Nat.lt_of_lt_of_le (by have := World.block_lt_of_cell? _ _ hw233_1; first | rwa [add_block] at this | exact this) GW238.out))) _).trans (((cell_far (p := ⟨gb238, _, none⟩) (by first | exact Nat.ne_of_lt (Nat.lt_of_lt_of_le (by have := World.block_lt_of_cell? _ _ hw233_1; first | rwa [add_block] at this | exact this) GW238.out) | (rw [add_block]; exact Nat.ne_of_lt (Nat.lt_of_lt_of_le (by have := World.block_lt_of_cell? _ _ hw233_1; first | rwa [add_block] at this | exact this) GW238.out)) | (show (Addr.add _ _).block ≠ _; rw [add_block]; exact Nat.ne_of_lt (Nat.lt_of_lt_of_le (by have := World.block_lt_of_cell? _ _ hw233_1; first | rwa [add_block] at this | exact this) GW238.out)) | (dsimp only; exact Nat.ne_of_lt (Nat.lt_of_lt_of_le (by have := World.block_lt_of_cell? _ _ hw233_1; first | rwa [add_block] at this | exact this) GW238.out))) _).trans (hHeld.2.2.2.2))))))⟩ (fun hHeld => ?_)
                         clear hK K
                         refine done_ (done_of HT_.out (by kernel_rfl)) ?_
                         have p239 : 0 ≤ (x7_2 : Int) := of_decide_eq_true (by first | (with_reducible assumption) | assumption)
                         have q239 : x7_2 < (l1.length : Int) := of_decide_eq_true (by first | (with_reducible assumption) | assumption)
                         obtain ⟨ad239, e239, hx239_0, hx239_1⟩ := at_T49 HR1.out x7_2 p239 q239
                         obtain rfl : ad212 = ad239 := (by injection e239)
                         have hn239_0 : ad212.block ≠ gb238 := Nat.ne_of_lt (Nat.lt_of_lt_of_le (by have := World.block_lt_of_cell? _ _ hx239_0; first | rwa [add_block] at this | exact this) GW238.out)
                         have hn239_1 : ad212.block ≠ gb238 := Nat.ne_of_lt (Nat.lt_of_lt_of_le (by have := World.block_lt_of_cell? _ _ hx239_0; first | rwa [add_block] at this | exact this) GW238.out)
                         have hn239_2 : ad212.block ≠ gb238 := Nat.ne_of_lt (Nat.lt_of_lt_of_le (by have := World.block_lt_of_cell? _ _ hx239_0; first | rwa [add_block] at this | exact this) GW238.out)
                         replace hx239_0 := (HB.out.cell (World.block_lt_of_cell? w _ hx239_0)).trans hx239_0
                         replace hx239_1 := (HB.out.cell (World.block_lt_of_cell? w _ hx239_1)).trans hx239_1
                         replace hx239_0 := (cell_far (p := ⟨gb238, 0, none⟩) (by first | (rw [add_block]; exact hn239_0) | (show (Addr.add _ _).block ≠ _; rw [add_block]; exact hn239_0) | exact hn239_0) (.string t235)).trans hx239_0
                         replace hx239_1 := (cell_far (p := ⟨gb238, 0, none⟩) (by first | (rw [add_block]; exact hn239_0) | (show (Addr.add _ _).block ≠ _; rw [add_block]; exact hn239_0) | exact hn239_0) (.string t235)).trans hx239_1
                         replace hx239_0 := (cell_far (p := ⟨gb238, 1, none⟩) (by first | (rw [add_block]; exact hn239_1) | (show (Addr.add _ _).block ≠ _; rw [add_block]; exact hn239_1) | exact hn239_1) (.int .i64 t236)).trans hx239_0
                         replace hx239_1 := (cell_far (p := ⟨gb238, 1, none⟩) (by first | (rw [add_block]; exact hn239_1) | (show (Addr.add _ _).block ≠ _; rw [add_block]; exact hn239_1) | exact hn239_1) (.int .i64 t236)).trans hx239_1
                         replace hx239_0 := (cell_far (p := ⟨gb238, 2, none⟩) (by first | (rw [add_block]; exact hn239_2) | (show (Addr.add _ _).block ≠ _; rw [add_block]; exact hn239_2) | exact hn239_2) (.int .i64 t237)).trans hx239_0
                         replace hx239_1 := (cell_far (p := ⟨gb238, 2, none⟩) (by first | (rw [add_block]; exact hn239_2) | (show (Addr.add _ _).block ≠ _; rw [add_block]; exact hn239_2) | exact hn239_2) (.int .i64 t237)).trans hx239_1
                         clear hn239_0
                         clear hn239_1
                         clear hn239_2
                         replace p239 := eq_true p239
                         replace q239 := eq_true q239
                         try go_wp2_with (first | ((with_reducible refine gate_callee (f := 32) rfl ?_); refine goesL_ (some 93) rfl rfl Try.func32 (by kernel_rfl) rfl #[.pointer (some ⟨g209, 0, none⟩), .int .i64 ((rd_T49 l1 x7_2).f1)] rfl (by (try simp only [List.map_toArray, List.map_cons, List.map_nil]); first | done | rfl | (simp only [List.length_drop, List.length_take]; rfl)) ?_; (with_reducible refine (wire_Reader_Text.calls k2 g209 x210000_2 x210001_2 x210002_2 ((rd_T49 l1 x7_2).f1) t240 t241 t242 t243 w _ ?side1 ?side2 A65.out).mono ?_); (case side1 => repeat (first | (with_reducible first | exact HI209.out | apply IsS83.alloc | apply IsS83.drewN | apply IsS83.drew | apply IsS83.set_0 | apply IsS83.set_1 | apply IsS83.set_2 | refine IsS83.far ?_ NB209_210.out _ | refine IsS83.far ?_ NB209_238.out _) | exact HI209.out)); (case side2 => repeat (first | (with_reducible first | exact HB.out | apply below_alloc | apply pw_below_drewN | apply below_drew1 | refine below_set ?_ (IsS83.ge HI209.out) | refine below_set ?_ GE210.out | refine below_set ?_ GE238.out) | exact HB.out)); rintro e w74 ⟨rfl, hi, hb, hk⟩; refine ⟨_, rfl, ?_⟩; have n0_ := Aside0.mk (KeepBut.blk hk (g' := gb210) (o := .cells #[.string x211000_2, .int .i64 x211001_2, .int .i64 x211002_2] 47 (0, 0)) (by (with_reducible repeat (first | refine blk_drewN ?_ _ | refine blk_drew ?_ | refine blk_alloc ?_ _)); refine blk_far ?_ NB210_238.out _; (with_reducible repeat (first | refine blk_drewN ?_ _ | refine blk_drew ?_ | refine blk_alloc ?_ _)); refine blk_far ?_ NB210_238.out _; (with_reducible repeat (first | refine blk_drewN ?_ _ | refine blk_drew ?_ | refine blk_alloc ?_ _)); refine blk_far ?_ NB210_238.out _; (with_reducible repeat (first | refine blk_drewN ?_ _ | refine blk_drew ?_ | refine blk_alloc ?_ _)); exact BK210.out) NB210_209.out (by simp)); have n1_ := Aside0.mk (KeepBut.blk hk (g' := gb238) (o := .cells #[.string t235, .int .i64 t236, .int .i64 t237] 47 (0, 0)) (by (with_reducible repeat (first | refine blk_drewN ?_ _ | refine blk_drew ?_ | refine blk_alloc ?_ _)); refine blk_put (cs := #[.string t235, .int .i64 t236, .int .i64 0]) ?_ 2 _ rfl; (with_reducible repeat (first | refine blk_drewN ?_ _ | refine blk_drew ?_ | refine blk_alloc ?_ _)); refine blk_put (cs := #[.string t235, .int .i64 0, .int .i64 0]) ?_ 1 _ rfl; (with_reducible repeat (first | refine blk_drewN ?_ _ | refine blk_drew ?_ | refine blk_alloc ?_ _)); refine blk_put (cs := #[.string (⟨#[]⟩ : ByteArray), .int .i64 0, .int .i64 0]) ?_ 0 _ rfl; (with_reducible repeat (first | refine blk_drewN ?_ _ | refine blk_drew ?_ | refine blk_alloc ?_ _)); exact BK238.out) NB238_209.out (by simp)); have n2_ := Aside0.mk (hb); have n3_ := Aside0.mk (hi); clear BK210; clear BK238; clear HB; clear HI209; have BK210 := n0_; have BK238 := n1_; have HB := n2_; have HI209 := n3_; clear n0_ n1_ n2_ n3_; (try clear hb); (try clear hb2); (try clear hk); (try clear hi); have hnb75 := NB238_210.out; have hnc75 := NB210_238.out; have hnb76 := NB238_209.out; have hnc76 := NB209_238.out; have hcz77_0 : w74.cell? ⟨gb238, 0, none⟩ = some (.string t235) := (blk_cell BK238.out 0).trans rfl; have hcz77_1 : w74.cell? ⟨gb238, 1, none⟩ = some (.int .i64 t236) := (blk_cell BK238.out 1).trans rfl; have hcz77_2 : w74.cell? ⟨gb238, 2, none⟩ = some (.int .i64 t237) := (blk_cell BK238.out 2).trans rfl; have hfz77_0 := blk_frozen BK238.out 0; have hfz77_1 := blk_frozen BK238.out 1; have hfz77_2 := blk_frozen BK238.out 2; have hnb78 := NB210_209.out; have hnc78 := NB209_210.out; have hcz79_0 : w74.cell? ⟨gb210, 0, none⟩ = some (.string x211000_2) := (blk_cell BK210.out 0).trans rfl; have hcz79_1 : w74.cell? ⟨gb210, 1, none⟩ = some (.int .i64 x211001_2) := (blk_cell BK210.out 1).trans rfl; have hcz79_2 : w74.cell? ⟨gb210, 2, none⟩ = some (.int .i64 x211002_2) := (blk_cell BK210.out 2).trans rfl; have hfz79_0 := blk_frozen BK210.out 0; have hfz79_1 := blk_frozen BK210.out 1; have hfz79_2 := blk_frozen BK210.out 2))
                         go_meet
                         case rel => exact ⟨_, (t241), (t242), (t243), (t235), (t236), (t237), H', ⟨by have := HJ2.out; have := HK2.out; first | omega | exact Nat.le_refl _⟩, ⟨by (with_reducible repeat (first | refine blk_drewN ?_ _ | refine blk_drew ?_ | refine blk_alloc ?_ _)); refine blk_put (cs := #[.string t235, .int .i64 t236, .int .i64 x211002_2]) ?_ 2 _ rfl; (with_reducible repeat (first | refine blk_drewN ?_ _ | refine blk_drew ?_ | refine blk_alloc ?_ _)); refine blk_put (cs := #[.string t235, .int .i64 x211001_2, .int .i64 x211002_2]) ?_ 1 _ rfl; (with_reducible repeat (first | refine blk_drewN ?_ _ | refine blk_drew ?_ | refine blk_alloc ?_ _)); refine blk_put (cs := #[.string x211000_2, .int .i64 x211001_2, .int .i64 x211002_2]) ?_ 0 _ rfl; (with_reducible repeat (first | refine blk_drewN ?_ _ | refine blk_drew ?_ | refine blk_alloc ?_ _)); exact BK210.out⟩, ⟨by repeat (first | (with_reducible first | exact HI209.out | apply IsS83.alloc | apply IsS83.drewN | apply IsS83.drew | apply IsS83.set_0 | apply IsS83.set_1 | apply IsS83.set_2 | refine IsS83.far ?_ NB209_210.out _ | refine IsS83.far ?_ NB209_238.out _) | exact HI209.out)⟩, ⟨by repeat (first | (with_reducible first | exact HB.out | apply below_alloc | apply pw_below_drewN | apply below_drew1 | refine below_set ?_ (IsS83.ge HI209.out) | refine below_set ?_ GE210.out | refine below_set ?_ GE238.out) | exact HB.out)⟩⟩
                       · rw [if_neg c66] at H
                         have c66b0 : (t240.toList == t234.toList) = false := beq_eq_false_iff_ne.mpr c66
                         have c66b1 : (t240.toList != t234.toList) = true := bne_iff_ne.mpr c66
                         obtain rfl := Option.some.inj H
                         try go_wp2
                         have n0_ := Aside0.mk (blk_drew BK210.out)
                         have n1_ := Aside0.mk (IsS83.drew HI209.out)
                         have n2_ := Aside0.mk (below_drew1 HB.out)
                         clear BK210
                         clear HI209
                         clear HB
                         have BK210 := n0_
                         have HI209 := n1_
                         have HB := n2_
                         clear n0_ n1_ n2_
                         have p233 : 0 ≤ (x7_2 : Int) := of_decide_eq_true (by first | (with_reducible assumption) | assumption)
                         have q233 : x7_2 < (l1.length : Int) := of_decide_eq_true (by first | (with_reducible assumption) | assumption)
                         obtain ⟨ad233, e233, hx233_0, hx233_1⟩ := at_T49 HR1.out x7_2 p233 q233
                         have hw233_1 := hx233_1
                         have hw233_0 := hx233_0
                         obtain rfl : ad212 = ad233 := (by injection e233)
                         replace hx233_0 := (HB.out.cell (World.block_lt_of_cell? w _ hx233_0)).trans hx233_0
                         replace hx233_1 := (HB.out.cell (World.block_lt_of_cell? w _ hx233_1)).trans hx233_1
                         replace p233 := eq_true p233
                         replace q233 := eq_true q233
                         refine start_ (n := 13) (S := fun w' => w'.cell? ⟨gb210, 0, none⟩ = some (.string x211000_2) ∧ w'.cell? ⟨gb210, 1, none⟩ = some (.int .i64 x211001_2) ∧ w'.cell? ⟨gb210, 2, none⟩ = some (.int .i64 x211002_2) ∧ w'.cell? (ad212.add ((x7_2).toNat * 2)) = some (.int .i64 ((rd_T49 l1 x7_2).f0)) ∧ w'.cell? ⟨(ad212.add ((x7_2).toNat * 2)).block, (ad212.add ((x7_2).toNat * 2)).off + 1, none⟩ = some (.int .i64 ((rd_T49 l1 x7_2).f1))) (ds := []) #[false, false, false, false, false, false, false, false, false, false, false, false, false] (by kernel_rfl) rfl rfl ⟨(blk_cell BK210.out 0).trans rfl, (blk_cell BK210.out 1).trans rfl, (blk_cell BK210.out 2).trans rfl, ((HB.out.cell (World.block_lt_of_cell? w _ hw233_0)).trans hw233_0), ((HB.out.cell (World.block_lt_of_cell? w _ hw233_1)).trans hw233_1)⟩ (fun hHeld => ?_); refine with_tabW wireReads.tab19 wireReads.bits19 (fun HT_ HW_ => ?_)
                         generalize wr.drew = w80 at BK210 HI209 HB hx233_0 hx233_1 hHeld ⊢
                         refine pure_ (i := 1) (N := some 79) (v := ?_) (a' := ?_) #[false, true, false, false, false, false, false, false, false, false, false, false, false] rfl rfl (any_of HT_.out (by kernel_rfl)) (fun _ _ _ h => h) (Or.inl ⟨by rfl, ?_⟩) ?_ ?_
                         rotate_left
                         · intro w'
                           go_simp
                           with_reducible rfl
                         rotate_left
                         · simp only [Act.put, List.setIfInBounds_toArray, List.set_cons_zero, List.set_cons_succ, i64_w, i32_w]
                           rfl
                         refine pure_ (i := 2) (N := some 80) (v := ?_) (a' := ?_) #[false, true, true, false, false, false, false, false, false, false, false, false, false] rfl rfl (any_of HT_.out (by kernel_rfl)) (fun _ _ _ h => h) (Or.inl ⟨by rfl, ?_⟩) ?_ ?_
                         rotate_left
                         · intro w'
                           go_simp
                           with_reducible rfl
                         rotate_left
                         · simp only [Act.put, List.setIfInBounds_toArray, List.set_cons_zero, List.set_cons_succ, i64_w, i32_w]
                           rfl
                         refine pure_ (i := 3) (N := some 81) (v := ?_) (a' := ?_) #[false, true, true, true, false, false, false, false, false, false, false, false, false] rfl rfl (any_of HT_.out (by kernel_rfl)) (fun _ _ _ h => h) (Or.inl ⟨by rfl, ?_⟩) ?_ ?_
                         rotate_left
                         · intro w'
                           go_simp
                           with_reducible rfl
                         rotate_left
                         · simp only [Act.put, List.setIfInBounds_toArray, List.set_cons_zero, List.set_cons_succ, i64_w, i32_w]
                           rfl
                         refine pure_ (i := 4) (N := some 82) (v := ?_) (a' := ?_) #[false, true, true, true, true, false, false, false, false, false, false, false, false] rfl rfl (any_of HT_.out (by kernel_rfl)) (fun _ _ _ h => h) (Or.inl ⟨by rfl, ?_⟩) ?_ ?_
                         rotate_left
                         · intro w'
                           go_simp
                           with_reducible rfl
                         rotate_left
                         · simp only [Act.put, List.setIfInBounds_toArray, List.set_cons_zero, List.set_cons_succ, i64_w, i32_w]
                           rfl
                         refine take_ (i := 0) (N := some 78) (v := ?_) (a' := ?_) #[true, true, true, true, true, false, false, false, false, false, false, false, false] rfl rfl (take_ofW HT_.out HW_.out (by kernel_rfl)) (fun _ _ _ h => h) (Or.inl ⟨by rfl, ?_⟩) hHeld ?_ ?_
                         rotate_left
                         · rintro w' ⟨s0, s1, s2, s3, s4⟩
                           go_simp
                           with_reducible rfl
                         rotate_left
                         · simp only [Act.put, List.setIfInBounds_toArray, List.set_cons_zero, List.set_cons_succ, i64_w, i32_w]
                           rfl
                         refine take_ (i := 5) (N := some 83) (v := ?_) (a' := ?_) #[true, true, true, true, true, true, false, false, false, false, false, false, false] rfl rfl (take_ofW HT_.out HW_.out (by kernel_rfl)) (fun _ _ _ h => h) (Or.inl ⟨by rfl, ?_⟩) hHeld ?_ ?_
                         rotate_left
                         · rintro w' ⟨s0, s1, s2, s3, s4⟩
                           go_simp
                           with_reducible rfl
                         rotate_left
                         · simp only [Act.put, List.setIfInBounds_toArray, List.set_cons_zero, List.set_cons_succ, i64_w, i32_w]
                           rfl
                         refine join_ (σ := Nat) 2 #[true, true, true, true, true, true, true, true, true, true, true, false, false] (fun s_ => [(84, .tuple #[.string t234, .agg #[.string t235, .int .i64 t236, .int .i64 t237]]), (13, .pointer (some ⟨s_, 0, none⟩)), (77, .tuple #[.string t234, .agg #[.string t235, .int .i64 t236, .int .i64 t237]]), (85, .string t234), (86, .agg #[.string t235, .int .i64 t236, .int .i64 t237])]) (fun s_ w' => (w'.cell? ⟨gb210, 0, none⟩ = some (.string x211000_2) ∧ w'.cell? ⟨gb210, 1, none⟩ = some (.int .i64 x211001_2) ∧ w'.cell? ⟨gb210, 2, none⟩ = some (.int .i64 x211002_2) ∧ w'.cell? (ad212.add ((x7_2).toNat * 2)) = some (.int .i64 ((rd_T49 l1 x7_2).f0)) ∧ w'.cell? ⟨(ad212.add ((x7_2).toNat * 2)).block, (ad212.add ((x7_2).toNat * 2)).off + 1, none⟩ = some (.int .i64 ((rd_T49 l1 x7_2).f1))) ∧ (w'.heap[gb210]? = some (.cells #[.string x211000_2, .int .i64 x211001_2, .int .i64 x211002_2] 47 (0, 0))) ∧ (w'.heap[s_]? = some (.cells #[.string (⟨#[]⟩ : ByteArray), .int .i64 0, .int .i64 0] 47 (0, 0))) ∧ (w.heap.size ≤ s_) ∧ (w.heap.size ≤ s_) ∧ (g209 ≠ s_) ∧ (s_ ≠ g209) ∧ (gb210 ≠ s_) ∧ (s_ ≠ gb210) ∧ (IsS83 w w' g209 x210000_2 x210001_2 x210002_2) ∧ (Below w.heap.size w w')) ?_ ?_
                         rotate_left
                         · intro hCont
                           refine two_ (i := 6) (j := 10) (Ni := some 84) (Nj := some 13) #[true, true, true, true, true, true, true, false, false, false, false, false, false] #[true, true, true, true, true, true, false, false, false, false, true, false, false] rfl rfl rfl rfl (two_of HT_.out (by kernel_rfl)) (by decide) (by decide) (fun K hK => ?_) (fun K hK => ?_)
                           · skip
                             refine goes_ Try.func39 (by kernel_rfl) rfl #[.agg #[.string x211000_2, .int .i64 x211001_2, .int .i64 x211002_2], .int .i64 ((rd_T49 l1 x7_2).f1)] (by rfl) rfl rfl (by (try simp only [List.map_toArray, List.map_cons, List.map_nil]); first | done | rfl | (simp only [List.length_drop, List.length_take]; rfl)) ?_
                             with_reducible refine (transhumanceref01_Text.calls k2 x211000_2 x211001_2 x211002_2 ((rd_T49 l1 x7_2).f1) t234 t235 t236 t237 _ A64.out).mono ?_
                             rintro e w81 ⟨rfl, hb⟩
                             refine ⟨_, rfl, ?_⟩
                             have n0_ := Aside0.mk (blk_below (g := gb210) (o := .cells #[.string x211000_2, .int .i64 x211001_2, .int .i64 x211002_2] 47 (0, 0)) (by (with_reducible repeat (first | refine blk_drewN ?_ _ | refine blk_drew ?_ | refine blk_alloc ?_ _)); exact BK210.out) hb)
                             have n1_ := Aside0.mk (IsS83.below (by repeat (first | (with_reducible first | exact HI209.out | apply IsS83.alloc | apply IsS83.drewN | apply IsS83.drew | apply IsS83.set_0 | apply IsS83.set_1 | apply IsS83.set_2 | refine IsS83.far ?_ NB209_210.out _) | exact HI209.out)) hb)
                             have n2_ := Aside0.mk (below_step (by repeat (first | (with_reducible first | exact HB.out | apply below_alloc | apply pw_below_drewN | apply below_drew1 | refine below_set ?_ (IsS83.ge HI209.out) | refine below_set ?_ GE210.out) | exact HB.out)) hb)
                             clear BK210
                             clear HI209
                             clear HB
                             have BK210 := n0_
                             have HI209 := n1_
                             have HB := n2_
                             clear n0_ n1_ n2_
                             (try clear hb)
                             (try clear hb2)
                             (try clear hk)
                             (try clear hi)
                             refine hK.out _ _ ⟨(blk_cell BK210.out 0).trans rfl, (blk_cell BK210.out 1).trans rfl, (blk_cell BK210.out 2).trans rfl, ((HB.out.cell (World.block_lt_of_cell? w _ hw233_0)).trans hw233_0), ((HB.out.cell (World.block_lt_of_cell? w _ hw233_1)).trans hw233_1)⟩ (fun hHeld => ?_)
                             clear hK K
                             refine norm_ (a' := ?_) ?_ ?_
                             rotate_left
                             · show Act.put _ (some 84) _ = _
                               simp only [Act.put, List.setIfInBounds_toArray, List.set_cons_zero, List.set_cons_succ, i64_w, i32_w]
                               rfl
                             refine pure_ (i := 7) (N := some 77) (v := ?_) (a' := ?_) #[true, true, true, true, true, true, true, true, false, false, false, false, false] rfl rfl (any_of HT_.out (by kernel_rfl)) (fun _ _ _ h => h) (Or.inl ⟨by rfl, ?_⟩) ?_ ?_
                             rotate_left
                             · intro w'
                               go_simp
                               with_reducible rfl
                             rotate_left
                             · simp only [Act.put, List.setIfInBounds_toArray, List.set_cons_zero, List.set_cons_succ, i64_w, i32_w]
                               rfl
                             refine pure_ (i := 8) (N := some 85) (v := ?_) (a' := ?_) #[true, true, true, true, true, true, true, true, true, false, false, false, false] rfl rfl (any_of HT_.out (by kernel_rfl)) (fun _ _ _ h => h) (Or.inl ⟨by rfl, ?_⟩) ?_ ?_
                             rotate_left
                             · intro w'
                               go_simp
                               with_reducible rfl
                             rotate_left
                             · simp only [Act.put, List.setIfInBounds_toArray, List.set_cons_zero, List.set_cons_succ, i64_w, i32_w]
                               rfl
                             refine pure_ (i := 9) (N := some 86) (v := ?_) (a' := ?_) #[true, true, true, true, true, true, true, true, true, true, false, false, false] rfl rfl (any_of HT_.out (by kernel_rfl)) (fun _ _ _ h => h) (Or.inl ⟨by rfl, ?_⟩) ?_ ?_
                             rotate_left
                             · intro w'
                               go_simp
                               with_reducible rfl
                             rotate_left
                             · simp only [Act.put, List.setIfInBounds_toArray, List.set_cons_zero, List.set_cons_succ, i64_w, i32_w]
                               rfl
                             refine one_ (i := 10) (N := some 13) #[true, true, true, true, true, true, true, true, true, true, true, false, false] rfl rfl (one_of HT_.out (by kernel_rfl)) (by decide) (fun K hK => ?_)
                             refine box_step ?hg (N := 13) ?hd (cs := #[.string (⟨#[]⟩ : ByteArray), .int .i64 0, .int .i64 0]) (t := 47) ?hr ?_; (case hd => rfl); (case hg => rfl); (case hr => first | (go_simp; done) | (go_simp; rfl))
                             intro gb238 hg w82 hbox hb
                             have n0_ := Aside0.mk (blk_below (g := gb210) (o := .cells #[.string x211000_2, .int .i64 x211001_2, .int .i64 x211002_2] 47 (0, 0)) (by (with_reducible repeat (first | refine blk_drewN ?_ _ | refine blk_drew ?_ | refine blk_alloc ?_ _)); exact BK210.out) hb)
                             have n1_ := Aside0.mk (IsS83.below (by repeat (first | (with_reducible first | exact HI209.out | apply IsS83.alloc | apply IsS83.drewN | apply IsS83.drew | apply IsS83.set_0 | apply IsS83.set_1 | apply IsS83.set_2 | refine IsS83.far ?_ NB209_210.out _) | exact HI209.out)) hb)
                             have n2_ := Aside0.mk (below_step (by repeat (first | (with_reducible first | exact HB.out | apply below_alloc | apply pw_below_drewN | apply below_drew1 | refine below_set ?_ (IsS83.ge HI209.out) | refine below_set ?_ GE210.out) | exact HB.out)) hb)
                             have n3_ := Aside0.mk (hbox)
                             have n4_ := Aside0.mk ((by rw [hg]; exact (below_size (by repeat (first | (with_reducible first | exact HB.out | apply below_alloc | apply pw_below_drewN | apply below_drew1 | refine below_set ?_ (IsS83.ge HI209.out) | refine below_set ?_ GE210.out) | exact HB.out))) : w.heap.size ≤ gb238))
                             have n5_ := Aside0.mk ((by rw [hg]; exact (below_size (by repeat (first | (with_reducible first | exact HB.out | apply below_alloc | apply pw_below_drewN | apply below_drew1 | refine below_set ?_ (IsS83.ge HI209.out) | refine below_set ?_ GE210.out) | exact HB.out))) : w.heap.size ≤ gb238))
                             have n6_ := Aside0.mk ((by rw [hg]; exact Nat.ne_of_lt (blk_lt (g := gb210) (o := .cells #[.string x211000_2, .int .i64 x211001_2, .int .i64 x211002_2] 47 (0, 0)) (by (with_reducible repeat (first | refine blk_drewN ?_ _ | refine blk_drew ?_ | refine blk_alloc ?_ _)); exact BK210.out)) : gb210 ≠ gb238))
                             have n7_ := Aside0.mk ((by rw [hg]; exact Nat.ne_of_gt (blk_lt (g := gb210) (o := .cells #[.string x211000_2, .int .i64 x211001_2, .int .i64 x211002_2] 47 (0, 0)) (by (with_reducible repeat (first | refine blk_drewN ?_ _ | refine blk_drew ?_ | refine blk_alloc ?_ _)); exact BK210.out)) : gb238 ≠ gb210))
                             have n8_ := Aside0.mk ((by rw [hg]; exact Nat.ne_of_lt (IsS83.lt (show IsS83 w _ g209 x210000_2 x210001_2 x210002_2 from by repeat (first | (with_reducible first | exact HI209.out | apply IsS83.alloc | apply IsS83.drewN | apply IsS83.drew | apply IsS83.set_0 | apply IsS83.set_1 | apply IsS83.set_2 | refine IsS83.far ?_ NB209_210.out _) | exact HI209.out))) : g209 ≠ gb238))
                             have n9_ := Aside0.mk ((by rw [hg]; exact Nat.ne_of_gt (IsS83.lt (show IsS83 w _ g209 x210000_2 x210001_2 x210002_2 from by repeat (first | (with_reducible first | exact HI209.out | apply IsS83.alloc | apply IsS83.drewN | apply IsS83.drew | apply IsS83.set_0 | apply IsS83.set_1 | apply IsS83.set_2 | refine IsS83.far ?_ NB209_210.out _) | exact HI209.out))) : gb238 ≠ g209))
                             clear BK210
                             clear HI209
                             clear HB
                             have BK210 := n0_
                             have HI209 := n1_
                             have HB := n2_
                             have BK238 := n3_
                             have GW238 := n4_
                             have GE238 := n5_
                             have NB210_238 := n6_
                             have NB238_210 := n7_
                             have NB209_238 := n8_
                             have NB238_209 := n9_
                             clear n0_ n1_ n2_ n3_ n4_ n5_ n6_ n7_ n8_ n9_
                             clear hb hbox hg
                             refine hK.out _ _ ⟨(blk_cell BK210.out 0).trans rfl, (blk_cell BK210.out 1).trans rfl, (blk_cell BK210.out 2).trans rfl, ((HB.out.cell (World.block_lt_of_cell? w _ hw233_0)).trans hw233_0), ((HB.out.cell (World.block_lt_of_cell? w _ hw233_1)).trans hw233_1)⟩ (fun hHeld => ?_)
                             clear hK K
                             refine norm_ (a' := ?_) ?_ ?_
                             rotate_left
                             · show Act.put _ (some 13) _ = _
                               simp only [Act.put, List.setIfInBounds_toArray, List.set_cons_zero, List.set_cons_succ, i64_w, i32_w]
                               rfl
                             exact norm_ (by simp only [putAll, Act.put, List.setIfInBounds_toArray, List.set_cons_zero, List.set_cons_succ]) (hCont (gb238) _ ⟨hHeld, (by (with_reducible repeat (first | refine blk_drewN ?_ _ | refine blk_drew ?_ | refine blk_alloc ?_ _)); exact BK210.out), (by (with_reducible repeat (first | refine blk_drewN ?_ _ | refine blk_drew ?_ | refine blk_alloc ?_ _)); exact BK238.out), GW238.out, GE238.out, NB209_238.out, NB238_209.out, NB210_238.out, NB238_210.out, (by repeat (first | (with_reducible first | exact HI209.out | apply IsS83.alloc | apply IsS83.drewN | apply IsS83.drew | apply IsS83.set_0 | apply IsS83.set_1 | apply IsS83.set_2 | refine IsS83.far ?_ NB209_210.out _ | refine IsS83.far ?_ NB209_238.out _) | exact HI209.out)), (by repeat (first | (with_reducible first | exact HB.out | apply below_alloc | apply pw_below_drewN | apply below_drew1 | refine below_set ?_ (IsS83.ge HI209.out) | refine below_set ?_ GE210.out | refine below_set ?_ GE238.out) | exact HB.out))⟩)
                           · skip
                             refine box_step ?hg (N := 13) ?hd (cs := #[.string (⟨#[]⟩ : ByteArray), .int .i64 0, .int .i64 0]) (t := 47) ?hr ?_; (case hd => rfl); (case hg => rfl); (case hr => first | (go_simp; done) | (go_simp; rfl))
                             intro gb238 hg w81 hbox hb
                             have n0_ := Aside0.mk (blk_below (g := gb210) (o := .cells #[.string x211000_2, .int .i64 x211001_2, .int .i64 x211002_2] 47 (0, 0)) (by (with_reducible repeat (first | refine blk_drewN ?_ _ | refine blk_drew ?_ | refine blk_alloc ?_ _)); exact BK210.out) hb)
                             have n1_ := Aside0.mk (IsS83.below (by repeat (first | (with_reducible first | exact HI209.out | apply IsS83.alloc | apply IsS83.drewN | apply IsS83.drew | apply IsS83.set_0 | apply IsS83.set_1 | apply IsS83.set_2 | refine IsS83.far ?_ NB209_210.out _) | exact HI209.out)) hb)
                             have n2_ := Aside0.mk (below_step (by repeat (first | (with_reducible first | exact HB.out | apply below_alloc | apply pw_below_drewN | apply below_drew1 | refine below_set ?_ (IsS83.ge HI209.out) | refine below_set ?_ GE210.out) | exact HB.out)) hb)
                             have n3_ := Aside0.mk (hbox)
                             have n4_ := Aside0.mk ((by rw [hg]; exact (below_size (by repeat (first | (with_reducible first | exact HB.out | apply below_alloc | apply pw_below_drewN | apply below_drew1 | refine below_set ?_ (IsS83.ge HI209.out) | refine below_set ?_ GE210.out) | exact HB.out))) : w.heap.size ≤ gb238))
                             have n5_ := Aside0.mk ((by rw [hg]; exact (below_size (by repeat (first | (with_reducible first | exact HB.out | apply below_alloc | apply pw_below_drewN | apply below_drew1 | refine below_set ?_ (IsS83.ge HI209.out) | refine below_set ?_ GE210.out) | exact HB.out))) : w.heap.size ≤ gb238))
                             have n6_ := Aside0.mk ((by rw [hg]; exact Nat.ne_of_lt (blk_lt (g := gb210) (o := .cells #[.string x211000_2, .int .i64 x211001_2, .int .i64 x211002_2] 47 (0, 0)) (by (with_reducible repeat (first | refine blk_drewN ?_ _ | refine blk_drew ?_ | refine blk_alloc ?_ _)); exact BK210.out)) : gb210 ≠ gb238))
                             have n7_ := Aside0.mk ((by rw [hg]; exact Nat.ne_of_gt (blk_lt (g := gb210) (o := .cells #[.string x211000_2, .int .i64 x211001_2, .int .i64 x211002_2] 47 (0, 0)) (by (with_reducible repeat (first | refine blk_drewN ?_ _ | refine blk_drew ?_ | refine blk_alloc ?_ _)); exact BK210.out)) : gb238 ≠ gb210))
                             have n8_ := Aside0.mk ((by rw [hg]; exact Nat.ne_of_lt (IsS83.lt (show IsS83 w _ g209 x210000_2 x210001_2 x210002_2 from by repeat (first | (with_reducible first | exact HI209.out | apply IsS83.alloc | apply IsS83.drewN | apply IsS83.drew | apply IsS83.set_0 | apply IsS83.set_1 | apply IsS83.set_2 | refine IsS83.far ?_ NB209_210.out _) | exact HI209.out))) : g209 ≠ gb238))
                             have n9_ := Aside0.mk ((by rw [hg]; exact Nat.ne_of_gt (IsS83.lt (show IsS83 w _ g209 x210000_2 x210001_2 x210002_2 from by repeat (first | (with_reducible first | exact HI209.out | apply IsS83.alloc | apply IsS83.drewN | apply IsS83.drew | apply IsS83.set_0 | apply IsS83.set_1 | apply IsS83.set_2 | refine IsS83.far ?_ NB209_210.out _) | exact HI209.out))) : gb238 ≠ g209))
                             clear BK210
                             clear HI209
                             clear HB
                             have BK210 := n0_
                             have HI209 := n1_
                             have HB := n2_
                             have BK238 := n3_
                             have GW238 := n4_
                             have GE238 := n5_
                             have NB210_238 := n6_
                             have NB238_210 := n7_
                             have NB209_238 := n8_
                             have NB238_209 := n9_
                             clear n0_ n1_ n2_ n3_ n4_ n5_ n6_ n7_ n8_ n9_
                             clear hb hbox hg
                             refine hK.out _ _ ⟨(blk_cell BK210.out 0).trans rfl, (blk_cell BK210.out 1).trans rfl, (blk_cell BK210.out 2).trans rfl, ((HB.out.cell (World.block_lt_of_cell? w _ hw233_0)).trans hw233_0), ((HB.out.cell (World.block_lt_of_cell? w _ hw233_1)).trans hw233_1)⟩ (fun hHeld => ?_)
                             clear hK K
                             refine norm_ (a' := ?_) ?_ ?_
                             rotate_left
                             · show Act.put _ (some 13) _ = _
                               simp only [Act.put, List.setIfInBounds_toArray, List.set_cons_zero, List.set_cons_succ, i64_w, i32_w]
                               rfl
                             refine one_ (i := 6) (N := some 84) #[true, true, true, true, true, true, true, false, false, false, true, false, false] rfl rfl (one_of HT_.out (by kernel_rfl)) (by decide) (fun K hK => ?_)
                             refine goes_ Try.func39 (by kernel_rfl) rfl #[.agg #[.string x211000_2, .int .i64 x211001_2, .int .i64 x211002_2], .int .i64 ((rd_T49 l1 x7_2).f1)] (by rfl) rfl rfl (by (try simp only [List.map_toArray, List.map_cons, List.map_nil]); first | done | rfl | (simp only [List.length_drop, List.length_take]; rfl)) ?_
                             with_reducible refine (transhumanceref01_Text.calls k2 x211000_2 x211001_2 x211002_2 ((rd_T49 l1 x7_2).f1) t234 t235 t236 t237 _ A64.out).mono ?_
                             rintro e w82 ⟨rfl, hb⟩
                             refine ⟨_, rfl, ?_⟩
                             have n0_ := Aside0.mk (blk_below (g := gb210) (o := .cells #[.string x211000_2, .int .i64 x211001_2, .int .i64 x211002_2] 47 (0, 0)) (by (with_reducible repeat (first | refine blk_drewN ?_ _ | refine blk_drew ?_ | refine blk_alloc ?_ _)); exact BK210.out) hb)
                             have n1_ := Aside0.mk (IsS83.below (by repeat (first | (with_reducible first | exact HI209.out | apply IsS83.alloc | apply IsS83.drewN | apply IsS83.drew | apply IsS83.set_0 | apply IsS83.set_1 | apply IsS83.set_2 | refine IsS83.far ?_ NB209_210.out _ | refine IsS83.far ?_ NB209_238.out _) | exact HI209.out)) hb)
                             have n2_ := Aside0.mk (blk_below (g := gb238) (o := .cells #[.string (⟨#[]⟩ : ByteArray), .int .i64 0, .int .i64 0] 47 (0, 0)) (by (with_reducible repeat (first | refine blk_drewN ?_ _ | refine blk_drew ?_ | refine blk_alloc ?_ _)); exact BK238.out) hb)
                             have n3_ := Aside0.mk (below_step (by repeat (first | (with_reducible first | exact HB.out | apply below_alloc | apply pw_below_drewN | apply below_drew1 | refine below_set ?_ (IsS83.ge HI209.out) | refine below_set ?_ GE210.out | refine below_set ?_ GE238.out) | exact HB.out)) hb)
                             clear BK210
                             clear HI209
                             clear BK238
                             clear HB
                             have BK210 := n0_
                             have HI209 := n1_
                             have BK238 := n2_
                             have HB := n3_
                             clear n0_ n1_ n2_ n3_
                             (try clear hb)
                             (try clear hb2)
                             (try clear hk)
                             (try clear hi)
                             refine hK.out _ _ ⟨(blk_cell BK210.out 0).trans rfl, (blk_cell BK210.out 1).trans rfl, (blk_cell BK210.out 2).trans rfl, ((HB.out.cell (World.block_lt_of_cell? w _ hw233_0)).trans hw233_0), ((HB.out.cell (World.block_lt_of_cell? w _ hw233_1)).trans hw233_1)⟩ (fun hHeld => ?_)
                             clear hK K
                             refine norm_ (a' := ?_) ?_ ?_
                             rotate_left
                             · show Act.put _ (some 84) _ = _
                               simp only [Act.put, List.setIfInBounds_toArray, List.set_cons_zero, List.set_cons_succ, i64_w, i32_w]
                               rfl
                             refine pure_ (i := 7) (N := some 77) (v := ?_) (a' := ?_) #[true, true, true, true, true, true, true, true, false, false, true, false, false] rfl rfl (any_of HT_.out (by kernel_rfl)) (fun _ _ _ h => h) (Or.inl ⟨by rfl, ?_⟩) ?_ ?_
                             rotate_left
                             · intro w'
                               go_simp
                               with_reducible rfl
                             rotate_left
                             · simp only [Act.put, List.setIfInBounds_toArray, List.set_cons_zero, List.set_cons_succ, i64_w, i32_w]
                               rfl
                             refine pure_ (i := 8) (N := some 85) (v := ?_) (a' := ?_) #[true, true, true, true, true, true, true, true, true, false, true, false, false] rfl rfl (any_of HT_.out (by kernel_rfl)) (fun _ _ _ h => h) (Or.inl ⟨by rfl, ?_⟩) ?_ ?_
                             rotate_left
                             · intro w'
                               go_simp
                               with_reducible rfl
                             rotate_left
                             · simp only [Act.put, List.setIfInBounds_toArray, List.set_cons_zero, List.set_cons_succ, i64_w, i32_w]
                               rfl
                             refine pure_ (i := 9) (N := some 86) (v := ?_) (a' := ?_) #[true, true, true, true, true, true, true, true, true, true, true, false, false] rfl rfl (any_of HT_.out (by kernel_rfl)) (fun _ _ _ h => h) (Or.inl ⟨by rfl, ?_⟩) ?_ ?_
                             rotate_left
                             · intro w'
                               go_simp
                               with_reducible rfl
                             rotate_left
                             · simp only [Act.put, List.setIfInBounds_toArray, List.set_cons_zero, List.set_cons_succ, i64_w, i32_w]
                               rfl
                             exact norm_ (by simp only [putAll, Act.put, List.setIfInBounds_toArray, List.set_cons_zero, List.set_cons_succ]) (hCont (gb238) _ ⟨hHeld, (by (with_reducible repeat (first | refine blk_drewN ?_ _ | refine blk_drew ?_ | refine blk_alloc ?_ _)); exact BK210.out), (by (with_reducible repeat (first | refine blk_drewN ?_ _ | refine blk_drew ?_ | refine blk_alloc ?_ _)); exact BK238.out), GW238.out, GE238.out, NB209_238.out, NB238_209.out, NB210_238.out, NB238_210.out, (by repeat (first | (with_reducible first | exact HI209.out | apply IsS83.alloc | apply IsS83.drewN | apply IsS83.drew | apply IsS83.set_0 | apply IsS83.set_1 | apply IsS83.set_2 | refine IsS83.far ?_ NB209_210.out _ | refine IsS83.far ?_ NB209_238.out _) | exact HI209.out)), (by repeat (first | (with_reducible first | exact HB.out | apply below_alloc | apply pw_below_drewN | apply below_drew1 | refine below_set ?_ (IsS83.ge HI209.out) | refine below_set ?_ GE210.out | refine below_set ?_ GE238.out) | exact HB.out))⟩)
                         rintro gb238 w83 ⟨hS_, h0_, h1_, h2_, h3_, h4_, h5_, h6_, h7_, h8_, h9_⟩
                         have n0_ : Aside0 (w83.heap[gb210]? = some (.cells #[.string x211000_2, .int .i64 x211001_2, .int .i64 x211002_2] 47 (0, 0))) := ⟨h0_⟩
                         have n1_ : Aside0 (w83.heap[gb238]? = some (.cells #[.string (⟨#[]⟩ : ByteArray), .int .i64 0, .int .i64 0] 47 (0, 0))) := ⟨h1_⟩
                         have n2_ : Aside0 (w.heap.size ≤ gb238) := ⟨h2_⟩
                         have n3_ : Aside0 (w.heap.size ≤ gb238) := ⟨h3_⟩
                         have n4_ : Aside0 (g209 ≠ gb238) := ⟨h4_⟩
                         have n5_ : Aside0 (gb238 ≠ g209) := ⟨h5_⟩
                         have n6_ : Aside0 (gb210 ≠ gb238) := ⟨h6_⟩
                         have n7_ : Aside0 (gb238 ≠ gb210) := ⟨h7_⟩
                         have n8_ : Aside0 (IsS83 w w83 g209 x210000_2 x210001_2 x210002_2) := ⟨h8_⟩
                         have n9_ : Aside0 (Below w.heap.size w w83) := ⟨h9_⟩
                         clear BK210
                         clear HI209
                         clear HB
                         clear h0_ h1_ h2_ h3_ h4_ h5_ h6_ h7_ h8_ h9_
                         have BK210 := n0_
                         have BK238 := n1_
                         have GW238 := n2_
                         have GE238 := n3_
                         have NB209_238 := n4_
                         have NB238_209 := n5_
                         have NB210_238 := n6_
                         have NB238_210 := n7_
                         have HI209 := n8_
                         have HB := n9_
                         clear n0_ n1_ n2_ n3_ n4_ n5_ n6_ n7_ n8_ n9_
                         have hHeld : w83.cell? ⟨gb210, 0, none⟩ = some (.string x211000_2) ∧ w83.cell? ⟨gb210, 1, none⟩ = some (.int .i64 x211001_2) ∧ w83.cell? ⟨gb210, 2, none⟩ = some (.int .i64 x211002_2) ∧ w83.cell? (ad212.add ((x7_2).toNat * 2)) = some (.int .i64 ((rd_T49 l1 x7_2).f0)) ∧ w83.cell? ⟨(ad212.add ((x7_2).toNat * 2)).block, (ad212.add ((x7_2).toNat * 2)).off + 1, none⟩ = some (.int .i64 ((rd_T49 l1 x7_2).f1)) := hS_
                         refine norm_ (a' := ?_) ?_ ?_
                         rotate_left
                         · simp only [putAll, Act.put, List.setIfInBounds_toArray, List.set_cons_zero, List.set_cons_succ]
                           rfl
                         refine pure_ (i := 11) (N := some 12) (v := ?_) (a' := ?_) #[true, true, true, true, true, true, true, true, true, true, true, true, false] rfl rfl (any_of HT_.out (by kernel_rfl)) (fun _ _ _ h => h) (Or.inl ⟨by rfl, ?_⟩) ?_ ?_
                         rotate_left
                         · intro w'
                           go_simp
                           with_reducible rfl
                         rotate_left
                         · simp only [Act.put, List.setIfInBounds_toArray, List.set_cons_zero, List.set_cons_succ, i64_w, i32_w]
                           rfl
                         refine one_ (i := 12) (N := none) #[true, true, true, true, true, true, true, true, true, true, true, true, true] rfl rfl (one_of HT_.out (by kernel_rfl)) (by decide) (fun K hK => ?_)
                         have hs84 : w83.cell? ⟨gb238, 0, none⟩ = some (.string (⟨#[]⟩ : ByteArray)) := (blk_cell BK238.out 0).trans rfl
                         have hfs84 := blk_frozen BK238.out 0
                         have hns84_0 := NB210_238.out
                         have hms84_0 := NB238_210.out
                         have hs85 : w83.cell? ⟨gb238, 1, none⟩ = some (.int .i64 0) := (blk_cell BK238.out 1).trans rfl
                         have hfs85 := blk_frozen BK238.out 1
                         have hns85_0 := NB210_238.out
                         have hms85_0 := NB238_210.out
                         have hs86 : w83.cell? ⟨gb238, 2, none⟩ = some (.int .i64 0) := (blk_cell BK238.out 2).trans rfl
                         have hfs86 := blk_frozen BK238.out 2
                         have hns86_0 := NB210_238.out
                         have hms86_0 := NB238_210.out
                         refine skip_ (w1 := ?_) (by rfl) rfl ?_ ?_
                         rotate_left
                         · go_simp
                           rfl
                         refine hK.out _ _ ⟨((cell_far (p := ⟨gb238, _, none⟩) NB210_238.out _).trans (((cell_far (p := ⟨gb238, _, none⟩) NB210_238.out _).trans (((cell_far (p := ⟨gb238, _, none⟩) NB210_238.out _).trans (hHeld.1)))))), ((cell_far (p := ⟨gb238, _, none⟩) NB210_238.out _).trans (((cell_far (p := ⟨gb238, _, none⟩) NB210_238.out _).trans (((cell_far (p := ⟨gb238, _, none⟩) NB210_238.out _).trans (hHeld.2.1)))))), ((cell_far (p := ⟨gb238, _, none⟩) NB210_238.out _).trans (((cell_far (p := ⟨gb238, _, none⟩) NB210_238.out _).trans (((cell_far (p := ⟨gb238, _, none⟩) NB210_238.out _).trans (hHeld.2.2.1)))))), ((cell_far (p := ⟨gb238, _, none⟩) (by first | exact Nat.ne_of_lt (Nat.lt_of_lt_of_le (by have := World.block_lt_of_cell? _ _ hw233_0; first | rwa [add_block] at this | exact this) GW238.out) | (rw [add_block]; exact Nat.ne_of_lt (Nat.lt_of_lt_of_le (by have := World.block_lt_of_cell? _ _ hw233_0; first | rwa [add_block] at this | exact this) GW238.out)) | (show (Addr.add _ _).block ≠ _; rw [add_block]; exact Nat.ne_of_lt (Nat.lt_of_lt_of_le (by have := World.block_lt_of_cell? _ _ hw233_0; first | rwa [add_block] at this | exact this) GW238.out)) | (dsimp only; exact Nat.ne_of_lt (Nat.lt_of_lt_of_le (by have := World.block_lt_of_cell? _ _ hw233_0; first | rwa [add_block] at this | exact this) GW238.out))) _).trans (((cell_far (p := ⟨gb238, _, none⟩) (by first | exact Nat.ne_of_lt (Nat.lt_of_lt_of_le (by have := World.block_lt_of_cell? _ _ hw233_0; first | rwa [add_block] at this | exact this) GW238.out) | (rw [add_block]; exact Nat.ne_of_lt (Nat.lt_of_lt_of_le (by have := World.block_lt_of_cell? _ _ hw233_0; first | rwa [add_block] at this | exact this) GW238.out)) | (show (Addr.add _ _).block ≠ _; rw [add_block]; exact Nat.ne_of_lt (Nat.lt_of_lt_of_le (by have := World.block_lt_of_cell? _ _ hw233_0; first | rwa [add_block] at this | exact this) GW238.out)) | (dsimp only; exact Nat.ne_of_lt (Nat.lt_of_lt_of_le (by have := World.block_lt_of_cell? _ _ hw233_0; first | rwa [add_block] at this | exact this) GW238.out))) _).trans (((cell_far (p := ⟨gb238, _, none⟩) (by first | exact Nat.ne_of_lt (Nat.lt_of_lt_of_le (by have := World.block_lt_of_cell? _ _ hw233_0; first | rwa [add_block] at this | exact this) GW238.out) | (rw [add_block]; exact Nat.ne_of_lt (Nat.lt_of_lt_of_le (by have := World.block_lt_of_cell? _ _ hw233_0; first | rwa [add_block] at this | exact this) GW238.out)) | (show (Addr.add _ _).block ≠ _; rw [add_block]; exact Nat.ne_of_lt (Nat.lt_of_lt_of_le (by have := World.block_lt_of_cell? _ _ hw233_0; first | rwa [add_block] at this | exact this) GW238.out)) | (dsimp only; exact Nat.ne_of_lt (Nat.lt_of_lt_of_le (by have := World.block_lt_of_cell? _ _ hw233_0; first | rwa [add_block] at this | exact this) GW238.out))) _).trans (hHeld.2.2.2.1)))))), ((cell_far (p := ⟨gb238, _, none⟩) (by first | exact Nat.ne_of_lt (Nat.lt_of_lt_of_le (by have := World.block_lt_of_cell? _ _ hw233_1; first | rwa [add_block] at this | exact this) GW238.out) | (rw [add_block]; exact Nat.ne_of_lt (Nat.lt_of_lt_of_le (by have := World.block_lt_of_cell? _ _ hw233_1; first | rwa [add_block] at this | exact this) GW238.out)) | (show (Addr.add _ _).block ≠ _; rw [add_block]; exact Nat.ne_of_lt (Nat.lt_of_lt_of_le (by have := World.block_lt_of_cell? _ _ hw233_1; first | rwa [add_block] at this | exact this) GW238.out)) | (dsimp only; exact Nat.ne_of_lt (Nat.lt_of_lt_of_le (by have := World.block_lt_of_cell? _ _ hw233_1; first | rwa [add_block] at this | exact this) GW238.out))) _).trans (((cell_far (p := ⟨gb238, _, none⟩) (by first | exact Nat.ne_of_lt (Nat.lt_of_lt_of_le (by have := World.block_lt_of_cell? _ _ hw233_1; first | rwa [add_block] at this | exact this) GW238.out) | (rw [add_block]; exact Nat.ne_of_lt (Nat.lt_of_lt_of_le (by have := World.block_lt_of_cell? _ _ hw233_1; first | rwa [add_block] at this | exact this) GW238.out)) | (show (Addr.add _ _).block ≠ _; rw [add_block]; exact Nat.ne_of_lt (Nat.lt_of_lt_of_le (by have := World.block_lt_of_cell? _ _ hw233_1; first | rwa [add_block] at this | exact this) GW238.out)) | (dsimp only; exact Nat.ne_of_lt (Nat.lt_of_lt_of_le (by have := World.block_lt_of_cell? _ _ hw233_1; first | rwa [add_block] at this | exact this) GW238.out))) _).trans (((cell_far (p := ⟨gb238, _, none⟩) (by first | exact Nat.ne_of_lt (Nat.lt_of_lt_of_le (by have := World.block_lt_of_cell? _ _ hw233_1; first | rwa [add_block] at this | exact this) GW238.out) | (rw [add_block]; exact Nat.ne_of_lt (Nat.lt_of_lt_of_le (by have := World.block_lt_of_cell? _ _ hw233_1; first | rwa [add_block] at this | exact this) GW238.out)) | (show (Addr.add _ _).block ≠ _; rw [add_block]; exact Nat.ne_of_lt (Nat.lt_of_lt_of_le (by have := World.block_lt_of_cell? _ _ hw233_1; first | rwa [add_block] at this | exact this) GW238.out)) | (dsimp only; exact Nat.ne_of_lt (Nat.lt_of_lt_of_le (by have := World.block_lt_of_cell? _ _ hw233_1; first | rwa [add_block] at this | exact this) GW238.out))) _).trans (hHeld.2.2.2.2))))))⟩ (fun hHeld => ?_)
                         clear hK K
                         refine done_ (done_of HT_.out (by kernel_rfl)) ?_
                         have p239 : 0 ≤ (x7_2 : Int) := of_decide_eq_true (by first | (with_reducible assumption) | assumption)
                         have q239 : x7_2 < (l1.length : Int) := of_decide_eq_true (by first | (with_reducible assumption) | assumption)
                         obtain ⟨ad239, e239, hx239_0, hx239_1⟩ := at_T49 HR1.out x7_2 p239 q239
                         obtain rfl : ad212 = ad239 := (by injection e239)
                         have hn239_0 : ad212.block ≠ gb238 := Nat.ne_of_lt (Nat.lt_of_lt_of_le (by have := World.block_lt_of_cell? _ _ hx239_0; first | rwa [add_block] at this | exact this) GW238.out)
                         have hn239_1 : ad212.block ≠ gb238 := Nat.ne_of_lt (Nat.lt_of_lt_of_le (by have := World.block_lt_of_cell? _ _ hx239_0; first | rwa [add_block] at this | exact this) GW238.out)
                         have hn239_2 : ad212.block ≠ gb238 := Nat.ne_of_lt (Nat.lt_of_lt_of_le (by have := World.block_lt_of_cell? _ _ hx239_0; first | rwa [add_block] at this | exact this) GW238.out)
                         replace hx239_0 := (HB.out.cell (World.block_lt_of_cell? w _ hx239_0)).trans hx239_0
                         replace hx239_1 := (HB.out.cell (World.block_lt_of_cell? w _ hx239_1)).trans hx239_1
                         replace hx239_0 := (cell_far (p := ⟨gb238, 0, none⟩) (by first | (rw [add_block]; exact hn239_0) | (show (Addr.add _ _).block ≠ _; rw [add_block]; exact hn239_0) | exact hn239_0) (.string t235)).trans hx239_0
                         replace hx239_1 := (cell_far (p := ⟨gb238, 0, none⟩) (by first | (rw [add_block]; exact hn239_0) | (show (Addr.add _ _).block ≠ _; rw [add_block]; exact hn239_0) | exact hn239_0) (.string t235)).trans hx239_1
                         replace hx239_0 := (cell_far (p := ⟨gb238, 1, none⟩) (by first | (rw [add_block]; exact hn239_1) | (show (Addr.add _ _).block ≠ _; rw [add_block]; exact hn239_1) | exact hn239_1) (.int .i64 t236)).trans hx239_0
                         replace hx239_1 := (cell_far (p := ⟨gb238, 1, none⟩) (by first | (rw [add_block]; exact hn239_1) | (show (Addr.add _ _).block ≠ _; rw [add_block]; exact hn239_1) | exact hn239_1) (.int .i64 t236)).trans hx239_1
                         replace hx239_0 := (cell_far (p := ⟨gb238, 2, none⟩) (by first | (rw [add_block]; exact hn239_2) | (show (Addr.add _ _).block ≠ _; rw [add_block]; exact hn239_2) | exact hn239_2) (.int .i64 t237)).trans hx239_0
                         replace hx239_1 := (cell_far (p := ⟨gb238, 2, none⟩) (by first | (rw [add_block]; exact hn239_2) | (show (Addr.add _ _).block ≠ _; rw [add_block]; exact hn239_2) | exact hn239_2) (.int .i64 t237)).trans hx239_1
                         clear hn239_0
                         clear hn239_1
                         clear hn239_2
                         replace p239 := eq_true p239
                         replace q239 := eq_true q239
                         try go_wp2_with (first | ((with_reducible refine gate_callee (f := 32) rfl ?_); refine goesL_ (some 93) rfl rfl Try.func32 (by kernel_rfl) rfl #[.pointer (some ⟨g209, 0, none⟩), .int .i64 ((rd_T49 l1 x7_2).f1)] rfl (by (try simp only [List.map_toArray, List.map_cons, List.map_nil]); first | done | rfl | (simp only [List.length_drop, List.length_take]; rfl)) ?_; (with_reducible refine (wire_Reader_Text.calls k2 g209 x210000_2 x210001_2 x210002_2 ((rd_T49 l1 x7_2).f1) t240 t241 t242 t243 w _ ?side1 ?side2 A65.out).mono ?_); (case side1 => repeat (first | (with_reducible first | exact HI209.out | apply IsS83.alloc | apply IsS83.drewN | apply IsS83.drew | apply IsS83.set_0 | apply IsS83.set_1 | apply IsS83.set_2 | refine IsS83.far ?_ NB209_210.out _ | refine IsS83.far ?_ NB209_238.out _) | exact HI209.out)); (case side2 => repeat (first | (with_reducible first | exact HB.out | apply below_alloc | apply pw_below_drewN | apply below_drew1 | refine below_set ?_ (IsS83.ge HI209.out) | refine below_set ?_ GE210.out | refine below_set ?_ GE238.out) | exact HB.out)); rintro e w87 ⟨rfl, hi, hb, hk⟩; refine ⟨_, rfl, ?_⟩; have n0_ := Aside0.mk (KeepBut.blk hk (g' := gb210) (o := .cells #[.string x211000_2, .int .i64 x211001_2, .int .i64 x211002_2] 47 (0, 0)) (by (with_reducible repeat (first | refine blk_drewN ?_ _ | refine blk_drew ?_ | refine blk_alloc ?_ _)); refine blk_far ?_ NB210_238.out _; (with_reducible repeat (first | refine blk_drewN ?_ _ | refine blk_drew ?_ | refine blk_alloc ?_ _)); refine blk_far ?_ NB210_238.out _; (with_reducible repeat (first | refine blk_drewN ?_ _ | refine blk_drew ?_ | refine blk_alloc ?_ _)); refine blk_far ?_ NB210_238.out _; (with_reducible repeat (first | refine blk_drewN ?_ _ | refine blk_drew ?_ | refine blk_alloc ?_ _)); exact BK210.out) NB210_209.out (by simp)); have n1_ := Aside0.mk (KeepBut.blk hk (g' := gb238) (o := .cells #[.string t235, .int .i64 t236, .int .i64 t237] 47 (0, 0)) (by (with_reducible repeat (first | refine blk_drewN ?_ _ | refine blk_drew ?_ | refine blk_alloc ?_ _)); refine blk_put (cs := #[.string t235, .int .i64 t236, .int .i64 0]) ?_ 2 _ rfl; (with_reducible repeat (first | refine blk_drewN ?_ _ | refine blk_drew ?_ | refine blk_alloc ?_ _)); refine blk_put (cs := #[.string t235, .int .i64 0, .int .i64 0]) ?_ 1 _ rfl; (with_reducible repeat (first | refine blk_drewN ?_ _ | refine blk_drew ?_ | refine blk_alloc ?_ _)); refine blk_put (cs := #[.string (⟨#[]⟩ : ByteArray), .int .i64 0, .int .i64 0]) ?_ 0 _ rfl; (with_reducible repeat (first | refine blk_drewN ?_ _ | refine blk_drew ?_ | refine blk_alloc ?_ _)); exact BK238.out) NB238_209.out (by simp)); have n2_ := Aside0.mk (hb); have n3_ := Aside0.mk (hi); clear BK210; clear BK238; clear HB; clear HI209; have BK210 := n0_; have BK238 := n1_; have HB := n2_; have HI209 := n3_; clear n0_ n1_ n2_ n3_; (try clear hb); (try clear hb2); (try clear hk); (try clear hi)))
                         go_ret
                         exact ⟨by first | rfl | (simp [errW_none, errW_some] <;> rfl) | (simp [*, errW_none, errW_some] <;> rfl), by repeat (first | (with_reducible first | exact HB.out | apply below_alloc | apply pw_below_drewN | apply below_drew1 | refine below_set ?_ (IsS83.ge HI209.out) | refine below_set ?_ GE210.out | refine below_set ?_ GE238.out) | exact HB.out)⟩
                     · rw [if_neg c63] at H
                       have c63b0 : (((rd_T49 l1 x7_2).f0) == 2) = false := beq_eq_false_iff_ne.mpr c63
                       have c63b1 : (((rd_T49 l1 x7_2).f0) != 2) = true := bne_iff_ne.mpr c63
                       have H' := Aside0.mk H
                       clear H
                       go_wp2
                       go_meet
                       case rel => exact ⟨_, (x210000_2), (x210001_2), (x210002_2), (x211000_2), (x211001_2), (x211002_2), H', ⟨by have := HJ2.out; have := HK2.out; first | omega | exact Nat.le_refl _⟩, ⟨by (with_reducible repeat (first | refine blk_drewN ?_ _ | refine blk_drew ?_ | refine blk_alloc ?_ _)); exact BK210.out⟩, ⟨by repeat (first | (with_reducible first | exact HI209.out | apply IsS83.alloc | apply IsS83.drewN | apply IsS83.drew | apply IsS83.set_0 | apply IsS83.set_1 | apply IsS83.set_2 | refine IsS83.far ?_ NB209_210.out _) | exact HI209.out)⟩, ⟨by repeat (first | (with_reducible first | exact HB.out | apply below_alloc | apply pw_below_drewN | apply below_drew1 | refine below_set ?_ (IsS83.ge HI209.out) | refine below_set ?_ GE210.out) | exact HB.out)⟩⟩
               case rest =>
                 clear HC15
                 try clear p2
                 try clear q2
                 try clear hx2
                 try clear c3
                 try clear c6
                 try clear c7
                 try clear p23
                 try clear q23
                 try clear hx23
                 try clear c32
                 try clear c39
                 try clear c63
                 try clear c63b0
                 try clear c63b1
                 try clear c66
                 try clear c66b0
                 try clear c66b1
                 try clear c75
                 try clear c76
                 try clear c78
                 try clear hcz77_0
                 try clear hcz77_1
                 try clear hcz77_2
                 try clear hcz79_0
                 try clear hcz79_1
                 try clear hcz79_2
                 try clear hfz77_0
                 try clear hfz77_1
                 try clear hfz77_2
                 try clear hfz79_0
                 try clear hfz79_1
                 try clear hfz79_2
                 try clear hx233_0
                 try clear hx233_1
                 try clear hx239_0
                 try clear hx239_1
                 try clear p233
                 try clear p239
                 try clear q233
                 try clear q239
                 obtain ⟨kq, x210000_14, x210001_14, x210002_14, x211000_14, x211001_14, x211002_14, HA, HJ14, BK210, HI209, HB⟩ := hcut
                 cases kq with
                 | zero => exact absurd HA.out (by simp [wireReads.j2])
                 | succ kj14 =>
                   have H := HA.out
                   clear HA
                   simp only [wireReads.j2] at H
                   replace H := Option.bind_eq_some_iff.mp H
                   obtain ⟨⟨t244, t245, t246, t247, t248⟩, A880, H⟩ := H
                   replace H : (if x211002_14 = 0 then (if t244 = x211002_14 then (if t244 = 0 then (if t245 = 0 then ((wire_Reader_Left.f t246 t247 t248).bind fun bt249 => (if bt249.1 = (wrap64 ((x211000_14.size : Int) - x211001_14)) then (wireReads.l0 kj14 l1 (wrap64 (x7_2 + 1)) bt249.2.1 bt249.2.2.1 bt249.2.2.2 x211000_14 x211001_14 x211002_14) else (some false))) else (some false)) else (if t245 = x211001_14 then ((wire_Reader_Left.f t246 t247 t248).bind fun bt253 => (if bt253.1 = (wrap64 ((x211000_14.size : Int) - x211001_14)) then (wireReads.l0 kj14 l1 (wrap64 (x7_2 + 1)) bt253.2.1 bt253.2.2.1 bt253.2.2.2 x211000_14 x211001_14 x211002_14) else (some false))) else (some false))) else (some false)) else (if t244 = x211002_14 then (if t244 = 0 then (if t245 = 0 then ((wire_Reader_Left.f t246 t247 t248).bind fun bt257 => (if bt257.1 = 0 then (wireReads.l0 kj14 l1 (wrap64 (x7_2 + 1)) bt257.2.1 bt257.2.2.1 bt257.2.2.2 x211000_14 x211001_14 x211002_14) else (some false))) else (some false)) else (if t245 = x211001_14 then ((wire_Reader_Left.f t246 t247 t248).bind fun bt261 => (if bt261.1 = 0 then (wireReads.l0 kj14 l1 (wrap64 (x7_2 + 1)) bt261.2.1 bt261.2.2.1 bt261.2.2.2 x211000_14 x211001_14 x211002_14) else (some false))) else (some false))) else (some false))) = some r := H
                   have A88 := Aside0.mk A880
                   clear A880
                   by_cases c89 : x211002_14 = 0
                   · rw [if_pos c89] at H
                     have c89b0 : (x211002_14 == 0) = true := beq_iff_eq.mpr c89
                     have c89b1 : (x211002_14 != 0) = false := bne_eq_false_iff_eq.mpr c89
                     clear c89
                     by_cases c90 : t244 = x211002_14
                     · rw [if_pos c90] at H
                       have c90b0 : (t244 == x211002_14) = true := beq_iff_eq.mpr c90
                       have c90b1 : (t244 != x211002_14) = false := bne_eq_false_iff_eq.mpr c90
                       clear c90
                       by_cases c91 : t244 = 0
                       · rw [if_pos c91] at H
                         have c91b0 : (t244 == 0) = true := beq_iff_eq.mpr c91
                         have c91b1 : (t244 != 0) = false := bne_eq_false_iff_eq.mpr c91
                         clear c91
                         by_cases c92 : t245 = 0
                         · rw [if_pos c92] at H
                           have c92b0 : (t245 == 0) = true := beq_iff_eq.mpr c92
                           have c92b1 : (t245 != 0) = false := bne_eq_false_iff_eq.mpr c92
                           clear c92
                           replace H := Option.bind_eq_some_iff.mp H
                           obtain ⟨⟨t249, t250, t251, t252⟩, A930, H⟩ := H
                           replace H : (if t249 = (wrap64 ((x211000_14.size : Int) - x211001_14)) then (wireReads.l0 kj14 l1 (wrap64 (x7_2 + 1)) t250 t251 t252 x211000_14 x211001_14 x211002_14) else (some false)) = some r := H
                           have A93 := Aside0.mk A930
                           clear A930
                           by_cases c94 : t249 = (wrap64 ((x211000_14.size : Int) - x211001_14))
                           · rw [if_pos c94] at H
                             have c94b0 : (t249 == (wrap64 ((x211000_14.size : Int) - x211001_14))) = true := beq_iff_eq.mpr c94
                             have c94b1 : (t249 != (wrap64 ((x211000_14.size : Int) - x211001_14))) = false := bne_eq_false_iff_eq.mpr c94
                             clear c94
                             have H' := Aside0.mk H
                             clear H
                             go_wp2_with (first | ((with_reducible refine gate_callee (f := 34) rfl ?_); refine goesL_ (some 99) rfl rfl Try.func34 (by kernel_rfl) rfl #[.pointer (some ⟨g209, 0, none⟩)] rfl (by (try simp only [List.map_toArray, List.map_cons, List.map_nil]); first | done | rfl | (simp only [List.length_drop, List.length_take]; rfl)) ?_; (with_reducible refine (wire_Reader_Error.calls g209 x210000_14 x210001_14 x210002_14 t244 t245 t246 t247 t248 w _ ?side1 ?side2 A88.out).mono ?_); (case side1 => repeat (first | (with_reducible first | exact HI209.out | apply IsS83.alloc | apply IsS83.drewN | apply IsS83.drew | apply IsS83.set_0 | apply IsS83.set_1 | apply IsS83.set_2 | refine IsS83.far ?_ NB209_210.out _) | exact HI209.out)); (case side2 => repeat (first | (with_reducible first | exact HB.out | apply below_alloc | apply pw_below_drewN | apply below_drew1 | refine below_set ?_ (IsS83.ge HI209.out) | refine below_set ?_ GE210.out) | exact HB.out)); rintro e w95 ⟨rfl, hi, hb, hk⟩; refine ⟨_, rfl, ?_⟩; have n0_ := Aside0.mk (KeepBut.blk hk (g' := gb210) (o := .cells #[.string x211000_14, .int .i64 x211001_14, .int .i64 x211002_14] 47 (0, 0)) (by (with_reducible repeat (first | refine blk_drewN ?_ _ | refine blk_drew ?_ | refine blk_alloc ?_ _)); exact BK210.out) NB210_209.out (by simp)); have n1_ := Aside0.mk (hb); have n2_ := Aside0.mk (hi); clear BK210; clear HB; clear HI209; have BK210 := n0_; have HB := n1_; have HI209 := n2_; clear n0_ n1_ n2_; (try clear hb); (try clear hb2); (try clear hk); (try clear hi); have hnb96 := NB210_209.out; have hnc96 := NB209_210.out; have hcz97_0 : w95.cell? ⟨gb210, 0, none⟩ = some (.string x211000_14) := (blk_cell BK210.out 0).trans rfl; have hcz97_1 : w95.cell? ⟨gb210, 1, none⟩ = some (.int .i64 x211001_14) := (blk_cell BK210.out 1).trans rfl; have hcz97_2 : w95.cell? ⟨gb210, 2, none⟩ = some (.int .i64 x211002_14) := (blk_cell BK210.out 2).trans rfl; have hfz97_0 := blk_frozen BK210.out 0; have hfz97_1 := blk_frozen BK210.out 1; have hfz97_2 := blk_frozen BK210.out 2) | (go_at_call 35; (with_reducible refine (wire_Reader_Left.calls g209 t246 t247 t248 t249 t250 t251 t252 w _ ?side1 ?side2 A93.out).mono ?_); (case side1 => repeat (first | (with_reducible first | exact HI209.out | apply IsS83.alloc | apply IsS83.drewN | apply IsS83.drew | apply IsS83.set_0 | apply IsS83.set_1 | apply IsS83.set_2 | refine IsS83.far ?_ NB209_210.out _) | exact HI209.out)); (case side2 => repeat (first | (with_reducible first | exact HB.out | apply below_alloc | apply pw_below_drewN | apply below_drew1 | refine below_set ?_ (IsS83.ge HI209.out) | refine below_set ?_ GE210.out) | exact HB.out)); rintro e w98 ⟨rfl, hi, hb, hk⟩; have n0_ := Aside0.mk (KeepBut.blk hk (g' := gb210) (o := .cells #[.string x211000_14, .int .i64 x211001_14, .int .i64 x211002_14] 47 (0, 0)) (by (with_reducible repeat (first | refine blk_drewN ?_ _ | refine blk_drew ?_ | refine blk_alloc ?_ _)); exact BK210.out) NB210_209.out (by simp)); have n1_ := Aside0.mk (hb); have n2_ := Aside0.mk (hi); clear BK210; clear HB; clear HI209; have BK210 := n0_; have HB := n1_; have HI209 := n2_; clear n0_ n1_ n2_; (try clear hb); (try clear hb2); (try clear hk); (try clear hi)))
                             go_roundg kj14
                             case measure => have := HJ2.out; have := HK2.out; have := HJ14.out; omega
                             case rel => exact ⟨(wrap64 (x7_2 + 1)), (t250), (t251), (t252), (x211000_14), (x211001_14), (x211002_14), (by first | rfl | (simp; done) | (simp [*]; done)), H', ⟨by have := HJ2.out; have := HK2.out; have := HJ14.out; omega⟩, ⟨by (with_reducible repeat (first | refine blk_drewN ?_ _ | refine blk_drew ?_ | refine blk_alloc ?_ _)); exact BK210.out⟩, ⟨by repeat (first | (with_reducible first | exact HI209.out | apply IsS83.alloc | apply IsS83.drewN | apply IsS83.drew | apply IsS83.set_0 | apply IsS83.set_1 | apply IsS83.set_2 | refine IsS83.far ?_ NB209_210.out _) | exact HI209.out)⟩, ⟨by repeat (first | (with_reducible first | exact HB.out | apply below_alloc | apply pw_below_drewN | apply below_drew1 | refine below_set ?_ (IsS83.ge HI209.out) | refine below_set ?_ GE210.out) | exact HB.out)⟩⟩
                           · rw [if_neg c94] at H
                             have c94b0 : (t249 == (wrap64 ((x211000_14.size : Int) - x211001_14))) = false := beq_eq_false_iff_ne.mpr c94
                             have c94b1 : (t249 != (wrap64 ((x211000_14.size : Int) - x211001_14))) = true := bne_iff_ne.mpr c94
                             obtain rfl := Option.some.inj H
                             go_wp2_with (first | ((with_reducible refine gate_callee (f := 34) rfl ?_); refine goesL_ (some 99) rfl rfl Try.func34 (by kernel_rfl) rfl #[.pointer (some ⟨g209, 0, none⟩)] rfl (by (try simp only [List.map_toArray, List.map_cons, List.map_nil]); first | done | rfl | (simp only [List.length_drop, List.length_take]; rfl)) ?_; (with_reducible refine (wire_Reader_Error.calls g209 x210000_14 x210001_14 x210002_14 t244 t245 t246 t247 t248 w _ ?side1 ?side2 A88.out).mono ?_); (case side1 => repeat (first | (with_reducible first | exact HI209.out | apply IsS83.alloc | apply IsS83.drewN | apply IsS83.drew | apply IsS83.set_0 | apply IsS83.set_1 | apply IsS83.set_2 | refine IsS83.far ?_ NB209_210.out _) | exact HI209.out)); (case side2 => repeat (first | (with_reducible first | exact HB.out | apply below_alloc | apply pw_below_drewN | apply below_drew1 | refine below_set ?_ (IsS83.ge HI209.out) | refine below_set ?_ GE210.out) | exact HB.out)); rintro e w99 ⟨rfl, hi, hb, hk⟩; refine ⟨_, rfl, ?_⟩; have n0_ := Aside0.mk (KeepBut.blk hk (g' := gb210) (o := .cells #[.string x211000_14, .int .i64 x211001_14, .int .i64 x211002_14] 47 (0, 0)) (by (with_reducible repeat (first | refine blk_drewN ?_ _ | refine blk_drew ?_ | refine blk_alloc ?_ _)); exact BK210.out) NB210_209.out (by simp)); have n1_ := Aside0.mk (hb); have n2_ := Aside0.mk (hi); clear BK210; clear HB; clear HI209; have BK210 := n0_; have HB := n1_; have HI209 := n2_; clear n0_ n1_ n2_; (try clear hb); (try clear hb2); (try clear hk); (try clear hi); have hnb100 := NB210_209.out; have hnc100 := NB209_210.out; have hcz101_0 : w99.cell? ⟨gb210, 0, none⟩ = some (.string x211000_14) := (blk_cell BK210.out 0).trans rfl; have hcz101_1 : w99.cell? ⟨gb210, 1, none⟩ = some (.int .i64 x211001_14) := (blk_cell BK210.out 1).trans rfl; have hcz101_2 : w99.cell? ⟨gb210, 2, none⟩ = some (.int .i64 x211002_14) := (blk_cell BK210.out 2).trans rfl; have hfz101_0 := blk_frozen BK210.out 0; have hfz101_1 := blk_frozen BK210.out 1; have hfz101_2 := blk_frozen BK210.out 2) | (go_at_call 35; (with_reducible refine (wire_Reader_Left.calls g209 t246 t247 t248 t249 t250 t251 t252 w _ ?side1 ?side2 A93.out).mono ?_); (case side1 => repeat (first | (with_reducible first | exact HI209.out | apply IsS83.alloc | apply IsS83.drewN | apply IsS83.drew | apply IsS83.set_0 | apply IsS83.set_1 | apply IsS83.set_2 | refine IsS83.far ?_ NB209_210.out _) | exact HI209.out)); (case side2 => repeat (first | (with_reducible first | exact HB.out | apply below_alloc | apply pw_below_drewN | apply below_drew1 | refine below_set ?_ (IsS83.ge HI209.out) | refine below_set ?_ GE210.out) | exact HB.out)); rintro e w102 ⟨rfl, hi, hb, hk⟩; have n0_ := Aside0.mk (KeepBut.blk hk (g' := gb210) (o := .cells #[.string x211000_14, .int .i64 x211001_14, .int .i64 x211002_14] 47 (0, 0)) (by (with_reducible repeat (first | refine blk_drewN ?_ _ | refine blk_drew ?_ | refine blk_alloc ?_ _)); exact BK210.out) NB210_209.out (by simp)); have n1_ := Aside0.mk (hb); have n2_ := Aside0.mk (hi); clear BK210; clear HB; clear HI209; have BK210 := n0_; have HB := n1_; have HI209 := n2_; clear n0_ n1_ n2_; (try clear hb); (try clear hb2); (try clear hk); (try clear hi)))
                             go_ret
                             exact ⟨by first | rfl | (simp [errW_none, errW_some] <;> rfl) | (simp [*, errW_none, errW_some] <;> rfl), by repeat (first | (with_reducible first | exact HB.out | apply below_alloc | apply pw_below_drewN | apply below_drew1 | refine below_set ?_ (IsS83.ge HI209.out) | refine below_set ?_ GE210.out) | exact HB.out)⟩
                         · rw [if_neg c92] at H
                           have c92b0 : (t245 == 0) = false := beq_eq_false_iff_ne.mpr c92
                           have c92b1 : (t245 != 0) = true := bne_iff_ne.mpr c92
                           obtain rfl := Option.some.inj H
                           go_wp2_with (first | ((with_reducible refine gate_callee (f := 34) rfl ?_); refine goesL_ (some 99) rfl rfl Try.func34 (by kernel_rfl) rfl #[.pointer (some ⟨g209, 0, none⟩)] rfl (by (try simp only [List.map_toArray, List.map_cons, List.map_nil]); first | done | rfl | (simp only [List.length_drop, List.length_take]; rfl)) ?_; (with_reducible refine (wire_Reader_Error.calls g209 x210000_14 x210001_14 x210002_14 t244 t245 t246 t247 t248 w _ ?side1 ?side2 A88.out).mono ?_); (case side1 => repeat (first | (with_reducible first | exact HI209.out | apply IsS83.alloc | apply IsS83.drewN | apply IsS83.drew | apply IsS83.set_0 | apply IsS83.set_1 | apply IsS83.set_2 | refine IsS83.far ?_ NB209_210.out _) | exact HI209.out)); (case side2 => repeat (first | (with_reducible first | exact HB.out | apply below_alloc | apply pw_below_drewN | apply below_drew1 | refine below_set ?_ (IsS83.ge HI209.out) | refine below_set ?_ GE210.out) | exact HB.out)); rintro e w103 ⟨rfl, hi, hb, hk⟩; refine ⟨_, rfl, ?_⟩; have n0_ := Aside0.mk (KeepBut.blk hk (g' := gb210) (o := .cells #[.string x211000_14, .int .i64 x211001_14, .int .i64 x211002_14] 47 (0, 0)) (by (with_reducible repeat (first | refine blk_drewN ?_ _ | refine blk_drew ?_ | refine blk_alloc ?_ _)); exact BK210.out) NB210_209.out (by simp)); have n1_ := Aside0.mk (hb); have n2_ := Aside0.mk (hi); clear BK210; clear HB; clear HI209; have BK210 := n0_; have HB := n1_; have HI209 := n2_; clear n0_ n1_ n2_; (try clear hb); (try clear hb2); (try clear hk); (try clear hi); have hnb104 := NB210_209.out; have hnc104 := NB209_210.out; have hcz105_0 : w103.cell? ⟨gb210, 0, none⟩ = some (.string x211000_14) := (blk_cell BK210.out 0).trans rfl; have hcz105_1 : w103.cell? ⟨gb210, 1, none⟩ = some (.int .i64 x211001_14) := (blk_cell BK210.out 1).trans rfl; have hcz105_2 : w103.cell? ⟨gb210, 2, none⟩ = some (.int .i64 x211002_14) := (blk_cell BK210.out 2).trans rfl; have hfz105_0 := blk_frozen BK210.out 0; have hfz105_1 := blk_frozen BK210.out 1; have hfz105_2 := blk_frozen BK210.out 2))
                           go_ret
                           exact ⟨by first | rfl | (simp [errW_none, errW_some] <;> rfl) | (simp [*, errW_none, errW_some] <;> rfl), by repeat (first | (with_reducible first | exact HB.out | apply below_alloc | apply pw_below_drewN | apply below_drew1 | refine below_set ?_ (IsS83.ge HI209.out) | refine below_set ?_ GE210.out) | exact HB.out)⟩
                       · rw [if_neg c91] at H
                         have c91b0 : (t244 == 0) = false := beq_eq_false_iff_ne.mpr c91
                         have c91b1 : (t244 != 0) = true := bne_iff_ne.mpr c91
                         by_cases c106 : t245 = x211001_14
                         · rw [if_pos c106] at H
                           have c106b0 : (t245 == x211001_14) = true := beq_iff_eq.mpr c106
                           have c106b1 : (t245 != x211001_14) = false := bne_eq_false_iff_eq.mpr c106
                           clear c106
                           replace H := Option.bind_eq_some_iff.mp H
                           obtain ⟨⟨t253, t254, t255, t256⟩, A1070, H⟩ := H
                           replace H : (if t253 = (wrap64 ((x211000_14.size : Int) - x211001_14)) then (wireReads.l0 kj14 l1 (wrap64 (x7_2 + 1)) t254 t255 t256 x211000_14 x211001_14 x211002_14) else (some false)) = some r := H
                           have A107 := Aside0.mk A1070
                           clear A1070
                           by_cases c108 : t253 = (wrap64 ((x211000_14.size : Int) - x211001_14))
                           · rw [if_pos c108] at H
                             have c108b0 : (t253 == (wrap64 ((x211000_14.size : Int) - x211001_14))) = true := beq_iff_eq.mpr c108
                             have c108b1 : (t253 != (wrap64 ((x211000_14.size : Int) - x211001_14))) = false := bne_eq_false_iff_eq.mpr c108
                             clear c108
                             have H' := Aside0.mk H
                             clear H
                             go_wp2_with (first | ((with_reducible refine gate_callee (f := 34) rfl ?_); refine goesL_ (some 99) rfl rfl Try.func34 (by kernel_rfl) rfl #[.pointer (some ⟨g209, 0, none⟩)] rfl (by (try simp only [List.map_toArray, List.map_cons, List.map_nil]); first | done | rfl | (simp only [List.length_drop, List.length_take]; rfl)) ?_; (with_reducible refine (wire_Reader_Error.calls g209 x210000_14 x210001_14 x210002_14 t244 t245 t246 t247 t248 w _ ?side1 ?side2 A88.out).mono ?_); (case side1 => repeat (first | (with_reducible first | exact HI209.out | apply IsS83.alloc | apply IsS83.drewN | apply IsS83.drew | apply IsS83.set_0 | apply IsS83.set_1 | apply IsS83.set_2 | refine IsS83.far ?_ NB209_210.out _) | exact HI209.out)); (case side2 => repeat (first | (with_reducible first | exact HB.out | apply below_alloc | apply pw_below_drewN | apply below_drew1 | refine below_set ?_ (IsS83.ge HI209.out) | refine below_set ?_ GE210.out) | exact HB.out)); rintro e w109 ⟨rfl, hi, hb, hk⟩; refine ⟨_, rfl, ?_⟩; have n0_ := Aside0.mk (KeepBut.blk hk (g' := gb210) (o := .cells #[.string x211000_14, .int .i64 x211001_14, .int .i64 x211002_14] 47 (0, 0)) (by (with_reducible repeat (first | refine blk_drewN ?_ _ | refine blk_drew ?_ | refine blk_alloc ?_ _)); exact BK210.out) NB210_209.out (by simp)); have n1_ := Aside0.mk (hb); have n2_ := Aside0.mk (hi); clear BK210; clear HB; clear HI209; have BK210 := n0_; have HB := n1_; have HI209 := n2_; clear n0_ n1_ n2_; (try clear hb); (try clear hb2); (try clear hk); (try clear hi); have hnb110 := NB210_209.out; have hnc110 := NB209_210.out; have hcz111_0 : w109.cell? ⟨gb210, 0, none⟩ = some (.string x211000_14) := (blk_cell BK210.out 0).trans rfl; have hcz111_1 : w109.cell? ⟨gb210, 1, none⟩ = some (.int .i64 x211001_14) := (blk_cell BK210.out 1).trans rfl; have hcz111_2 : w109.cell? ⟨gb210, 2, none⟩ = some (.int .i64 x211002_14) := (blk_cell BK210.out 2).trans rfl; have hfz111_0 := blk_frozen BK210.out 0; have hfz111_1 := blk_frozen BK210.out 1; have hfz111_2 := blk_frozen BK210.out 2) | (go_at_call 35; (with_reducible refine (wire_Reader_Left.calls g209 t246 t247 t248 t253 t254 t255 t256 w _ ?side1 ?side2 A107.out).mono ?_); (case side1 => repeat (first | (with_reducible first | exact HI209.out | apply IsS83.alloc | apply IsS83.drewN | apply IsS83.drew | apply IsS83.set_0 | apply IsS83.set_1 | apply IsS83.set_2 | refine IsS83.far ?_ NB209_210.out _) | exact HI209.out)); (case side2 => repeat (first | (with_reducible first | exact HB.out | apply below_alloc | apply pw_below_drewN | apply below_drew1 | refine below_set ?_ (IsS83.ge HI209.out) | refine below_set ?_ GE210.out) | exact HB.out)); rintro e w112 ⟨rfl, hi, hb, hk⟩; have n0_ := Aside0.mk (KeepBut.blk hk (g' := gb210) (o := .cells #[.string x211000_14, .int .i64 x211001_14, .int .i64 x211002_14] 47 (0, 0)) (by (with_reducible repeat (first | refine blk_drewN ?_ _ | refine blk_drew ?_ | refine blk_alloc ?_ _)); exact BK210.out) NB210_209.out (by simp)); have n1_ := Aside0.mk (hb); have n2_ := Aside0.mk (hi); clear BK210; clear HB; clear HI209; have BK210 := n0_; have HB := n1_; have HI209 := n2_; clear n0_ n1_ n2_; (try clear hb); (try clear hb2); (try clear hk); (try clear hi)))
                             go_roundg kj14
                             case measure => have := HJ2.out; have := HK2.out; have := HJ14.out; omega
                             case rel => exact ⟨(wrap64 (x7_2 + 1)), (t254), (t255), (t256), (x211000_14), (x211001_14), (x211002_14), (by first | rfl | (simp; done) | (simp [*]; done)), H', ⟨by have := HJ2.out; have := HK2.out; have := HJ14.out; omega⟩, ⟨by (with_reducible repeat (first | refine blk_drewN ?_ _ | refine blk_drew ?_ | refine blk_alloc ?_ _)); exact BK210.out⟩, ⟨by repeat (first | (with_reducible first | exact HI209.out | apply IsS83.alloc | apply IsS83.drewN | apply IsS83.drew | apply IsS83.set_0 | apply IsS83.set_1 | apply IsS83.set_2 | refine IsS83.far ?_ NB209_210.out _) | exact HI209.out)⟩, ⟨by repeat (first | (with_reducible first | exact HB.out | apply below_alloc | apply pw_below_drewN | apply below_drew1 | refine below_set ?_ (IsS83.ge HI209.out) | refine below_set ?_ GE210.out) | exact HB.out)⟩⟩
                           · rw [if_neg c108] at H
                             have c108b0 : (t253 == (wrap64 ((x211000_14.size : Int) - x211001_14))) = false := beq_eq_false_iff_ne.mpr c108
                             have c108b1 : (t253 != (wrap64 ((x211000_14.size : Int) - x211001_14))) = true := bne_iff_ne.mpr c108
                             obtain rfl := Option.some.inj H
                             go_wp2_with (first | ((with_reducible refine gate_callee (f := 34) rfl ?_); refine goesL_ (some 99) rfl rfl Try.func34 (by kernel_rfl) rfl #[.pointer (some ⟨g209, 0, none⟩)] rfl (by (try simp only [List.map_toArray, List.map_cons, List.map_nil]); first | done | rfl | (simp only [List.length_drop, List.length_take]; rfl)) ?_; (with_reducible refine (wire_Reader_Error.calls g209 x210000_14 x210001_14 x210002_14 t244 t245 t246 t247 t248 w _ ?side1 ?side2 A88.out).mono ?_); (case side1 => repeat (first | (with_reducible first | exact HI209.out | apply IsS83.alloc | apply IsS83.drewN | apply IsS83.drew | apply IsS83.set_0 | apply IsS83.set_1 | apply IsS83.set_2 | refine IsS83.far ?_ NB209_210.out _) | exact HI209.out)); (case side2 => repeat (first | (with_reducible first | exact HB.out | apply below_alloc | apply pw_below_drewN | apply below_drew1 | refine below_set ?_ (IsS83.ge HI209.out) | refine below_set ?_ GE210.out) | exact HB.out)); rintro e w113 ⟨rfl, hi, hb, hk⟩; refine ⟨_, rfl, ?_⟩; have n0_ := Aside0.mk (KeepBut.blk hk (g' := gb210) (o := .cells #[.string x211000_14, .int .i64 x211001_14, .int .i64 x211002_14] 47 (0, 0)) (by (with_reducible repeat (first | refine blk_drewN ?_ _ | refine blk_drew ?_ | refine blk_alloc ?_ _)); exact BK210.out) NB210_209.out (by simp)); have n1_ := Aside0.mk (hb); have n2_ := Aside0.mk (hi); clear BK210; clear HB; clear HI209; have BK210 := n0_; have HB := n1_; have HI209 := n2_; clear n0_ n1_ n2_; (try clear hb); (try clear hb2); (try clear hk); (try clear hi); have hnb114 := NB210_209.out; have hnc114 := NB209_210.out; have hcz115_0 : w113.cell? ⟨gb210, 0, none⟩ = some (.string x211000_14) := (blk_cell BK210.out 0).trans rfl; have hcz115_1 : w113.cell? ⟨gb210, 1, none⟩ = some (.int .i64 x211001_14) := (blk_cell BK210.out 1).trans rfl; have hcz115_2 : w113.cell? ⟨gb210, 2, none⟩ = some (.int .i64 x211002_14) := (blk_cell BK210.out 2).trans rfl; have hfz115_0 := blk_frozen BK210.out 0; have hfz115_1 := blk_frozen BK210.out 1; have hfz115_2 := blk_frozen BK210.out 2) | (go_at_call 35; (with_reducible refine (wire_Reader_Left.calls g209 t246 t247 t248 t253 t254 t255 t256 w _ ?side1 ?side2 A107.out).mono ?_); (case side1 => repeat (first | (with_reducible first | exact HI209.out | apply IsS83.alloc | apply IsS83.drewN | apply IsS83.drew | apply IsS83.set_0 | apply IsS83.set_1 | apply IsS83.set_2 | refine IsS83.far ?_ NB209_210.out _) | exact HI209.out)); (case side2 => repeat (first | (with_reducible first | exact HB.out | apply below_alloc | apply pw_below_drewN | apply below_drew1 | refine below_set ?_ (IsS83.ge HI209.out) | refine below_set ?_ GE210.out) | exact HB.out)); rintro e w116 ⟨rfl, hi, hb, hk⟩; have n0_ := Aside0.mk (KeepBut.blk hk (g' := gb210) (o := .cells #[.string x211000_14, .int .i64 x211001_14, .int .i64 x211002_14] 47 (0, 0)) (by (with_reducible repeat (first | refine blk_drewN ?_ _ | refine blk_drew ?_ | refine blk_alloc ?_ _)); exact BK210.out) NB210_209.out (by simp)); have n1_ := Aside0.mk (hb); have n2_ := Aside0.mk (hi); clear BK210; clear HB; clear HI209; have BK210 := n0_; have HB := n1_; have HI209 := n2_; clear n0_ n1_ n2_; (try clear hb); (try clear hb2); (try clear hk); (try clear hi)))
                             go_ret
                             exact ⟨by first | rfl | (simp [errW_none, errW_some] <;> rfl) | (simp [*, errW_none, errW_some] <;> rfl), by repeat (first | (with_reducible first | exact HB.out | apply below_alloc | apply pw_below_drewN | apply below_drew1 | refine below_set ?_ (IsS83.ge HI209.out) | refine below_set ?_ GE210.out) | exact HB.out)⟩
                         · rw [if_neg c106] at H
                           have c106b0 : (t245 == x211001_14) = false := beq_eq_false_iff_ne.mpr c106
                           have c106b1 : (t245 != x211001_14) = true := bne_iff_ne.mpr c106
                           obtain rfl := Option.some.inj H
                           go_wp2_with (first | ((with_reducible refine gate_callee (f := 34) rfl ?_); refine goesL_ (some 99) rfl rfl Try.func34 (by kernel_rfl) rfl #[.pointer (some ⟨g209, 0, none⟩)] rfl (by (try simp only [List.map_toArray, List.map_cons, List.map_nil]); first | done | rfl | (simp only [List.length_drop, List.length_take]; rfl)) ?_; (with_reducible refine (wire_Reader_Error.calls g209 x210000_14 x210001_14 x210002_14 t244 t245 t246 t247 t248 w _ ?side1 ?side2 A88.out).mono ?_); (case side1 => repeat (first | (with_reducible first | exact HI209.out | apply IsS83.alloc | apply IsS83.drewN | apply IsS83.drew | apply IsS83.set_0 | apply IsS83.set_1 | apply IsS83.set_2 | refine IsS83.far ?_ NB209_210.out _) | exact HI209.out)); (case side2 => repeat (first | (with_reducible first | exact HB.out | apply below_alloc | apply pw_below_drewN | apply below_drew1 | refine below_set ?_ (IsS83.ge HI209.out) | refine below_set ?_ GE210.out) | exact HB.out)); rintro e w117 ⟨rfl, hi, hb, hk⟩; refine ⟨_, rfl, ?_⟩; have n0_ := Aside0.mk (KeepBut.blk hk (g' := gb210) (o := .cells #[.string x211000_14, .int .i64 x211001_14, .int .i64 x211002_14] 47 (0, 0)) (by (with_reducible repeat (first | refine blk_drewN ?_ _ | refine blk_drew ?_ | refine blk_alloc ?_ _)); exact BK210.out) NB210_209.out (by simp)); have n1_ := Aside0.mk (hb); have n2_ := Aside0.mk (hi); clear BK210; clear HB; clear HI209; have BK210 := n0_; have HB := n1_; have HI209 := n2_; clear n0_ n1_ n2_; (try clear hb); (try clear hb2); (try clear hk); (try clear hi); have hnb118 := NB210_209.out; have hnc118 := NB209_210.out; have hcz119_0 : w117.cell? ⟨gb210, 0, none⟩ = some (.string x211000_14) := (blk_cell BK210.out 0).trans rfl; have hcz119_1 : w117.cell? ⟨gb210, 1, none⟩ = some (.int .i64 x211001_14) := (blk_cell BK210.out 1).trans rfl; have hcz119_2 : w117.cell? ⟨gb210, 2, none⟩ = some (.int .i64 x211002_14) := (blk_cell BK210.out 2).trans rfl; have hfz119_0 := blk_frozen BK210.out 0; have hfz119_1 := blk_frozen BK210.out 1; have hfz119_2 := blk_frozen BK210.out 2))
                           go_ret
                           exact ⟨by first | rfl | (simp [errW_none, errW_some] <;> rfl) | (simp [*, errW_none, errW_some] <;> rfl), by repeat (first | (with_reducible first | exact HB.out | apply below_alloc | apply pw_below_drewN | apply below_drew1 | refine below_set ?_ (IsS83.ge HI209.out) | refine below_set ?_ GE210.out) | exact HB.out)⟩
                     · rw [if_neg c90] at H
                       have c90b0 : (t244 == x211002_14) = false := beq_eq_false_iff_ne.mpr c90
                       have c90b1 : (t244 != x211002_14) = true := bne_iff_ne.mpr c90
                       obtain rfl := Option.some.inj H
                       go_wp2_with (first | ((with_reducible refine gate_callee (f := 34) rfl ?_); refine goesL_ (some 99) rfl rfl Try.func34 (by kernel_rfl) rfl #[.pointer (some ⟨g209, 0, none⟩)] rfl (by (try simp only [List.map_toArray, List.map_cons, List.map_nil]); first | done | rfl | (simp only [List.length_drop, List.length_take]; rfl)) ?_; (with_reducible refine (wire_Reader_Error.calls g209 x210000_14 x210001_14 x210002_14 t244 t245 t246 t247 t248 w _ ?side1 ?side2 A88.out).mono ?_); (case side1 => repeat (first | (with_reducible first | exact HI209.out | apply IsS83.alloc | apply IsS83.drewN | apply IsS83.drew | apply IsS83.set_0 | apply IsS83.set_1 | apply IsS83.set_2 | refine IsS83.far ?_ NB209_210.out _) | exact HI209.out)); (case side2 => repeat (first | (with_reducible first | exact HB.out | apply below_alloc | apply pw_below_drewN | apply below_drew1 | refine below_set ?_ (IsS83.ge HI209.out) | refine below_set ?_ GE210.out) | exact HB.out)); rintro e w120 ⟨rfl, hi, hb, hk⟩; refine ⟨_, rfl, ?_⟩; have n0_ := Aside0.mk (KeepBut.blk hk (g' := gb210) (o := .cells #[.string x211000_14, .int .i64 x211001_14, .int .i64 x211002_14] 47 (0, 0)) (by (with_reducible repeat (first | refine blk_drewN ?_ _ | refine blk_drew ?_ | refine blk_alloc ?_ _)); exact BK210.out) NB210_209.out (by simp)); have n1_ := Aside0.mk (hb); have n2_ := Aside0.mk (hi); clear BK210; clear HB; clear HI209; have BK210 := n0_; have HB := n1_; have HI209 := n2_; clear n0_ n1_ n2_; (try clear hb); (try clear hb2); (try clear hk); (try clear hi); have hnb121 := NB210_209.out; have hnc121 := NB209_210.out; have hcz122_0 : w120.cell? ⟨gb210, 0, none⟩ = some (.string x211000_14) := (blk_cell BK210.out 0).trans rfl; have hcz122_1 : w120.cell? ⟨gb210, 1, none⟩ = some (.int .i64 x211001_14) := (blk_cell BK210.out 1).trans rfl; have hcz122_2 : w120.cell? ⟨gb210, 2, none⟩ = some (.int .i64 x211002_14) := (blk_cell BK210.out 2).trans rfl; have hfz122_0 := blk_frozen BK210.out 0; have hfz122_1 := blk_frozen BK210.out 1; have hfz122_2 := blk_frozen BK210.out 2))
                       go_ret
                       exact ⟨by first | rfl | (simp [errW_none, errW_some] <;> rfl) | (simp [*, errW_none, errW_some] <;> rfl), by repeat (first | (with_reducible first | exact HB.out | apply below_alloc | apply pw_below_drewN | apply below_drew1 | refine below_set ?_ (IsS83.ge HI209.out) | refine below_set ?_ GE210.out) | exact HB.out)⟩
                   · rw [if_neg c89] at H
                     have c89b0 : (x211002_14 == 0) = false := beq_eq_false_iff_ne.mpr c89
                     have c89b1 : (x211002_14 != 0) = true := bne_iff_ne.mpr c89
                     by_cases c123 : t244 = x211002_14
                     · rw [if_pos c123] at H
                       have c123b0 : (t244 == x211002_14) = true := beq_iff_eq.mpr c123
                       have c123b1 : (t244 != x211002_14) = false := bne_eq_false_iff_eq.mpr c123
                       clear c123
                       by_cases c124 : t244 = 0
                       · rw [if_pos c124] at H
                         have c124b0 : (t244 == 0) = true := beq_iff_eq.mpr c124
                         have c124b1 : (t244 != 0) = false := bne_eq_false_iff_eq.mpr c124
                         clear c124
                         by_cases c125 : t245 = 0
                         · rw [if_pos c125] at H
                           have c125b0 : (t245 == 0) = true := beq_iff_eq.mpr c125
                           have c125b1 : (t245 != 0) = false := bne_eq_false_iff_eq.mpr c125
                           clear c125
                           replace H := Option.bind_eq_some_iff.mp H
                           obtain ⟨⟨t257, t258, t259, t260⟩, A1260, H⟩ := H
                           replace H : (if t257 = 0 then (wireReads.l0 kj14 l1 (wrap64 (x7_2 + 1)) t258 t259 t260 x211000_14 x211001_14 x211002_14) else (some false)) = some r := H
                           have A126 := Aside0.mk A1260
                           clear A1260
                           by_cases c127 : t257 = 0
                           · rw [if_pos c127] at H
                             have c127b0 : (t257 == 0) = true := beq_iff_eq.mpr c127
                             have c127b1 : (t257 != 0) = false := bne_eq_false_iff_eq.mpr c127
                             clear c127
                             have H' := Aside0.mk H
                             clear H
                             go_wp2_with (first | ((with_reducible refine gate_callee (f := 34) rfl ?_); refine goesL_ (some 99) rfl rfl Try.func34 (by kernel_rfl) rfl #[.pointer (some ⟨g209, 0, none⟩)] rfl (by (try simp only [List.map_toArray, List.map_cons, List.map_nil]); first | done | rfl | (simp only [List.length_drop, List.length_take]; rfl)) ?_; (with_reducible refine (wire_Reader_Error.calls g209 x210000_14 x210001_14 x210002_14 t244 t245 t246 t247 t248 w _ ?side1 ?side2 A88.out).mono ?_); (case side1 => repeat (first | (with_reducible first | exact HI209.out | apply IsS83.alloc | apply IsS83.drewN | apply IsS83.drew | apply IsS83.set_0 | apply IsS83.set_1 | apply IsS83.set_2 | refine IsS83.far ?_ NB209_210.out _) | exact HI209.out)); (case side2 => repeat (first | (with_reducible first | exact HB.out | apply below_alloc | apply pw_below_drewN | apply below_drew1 | refine below_set ?_ (IsS83.ge HI209.out) | refine below_set ?_ GE210.out) | exact HB.out)); rintro e w128 ⟨rfl, hi, hb, hk⟩; refine ⟨_, rfl, ?_⟩; have n0_ := Aside0.mk (KeepBut.blk hk (g' := gb210) (o := .cells #[.string x211000_14, .int .i64 x211001_14, .int .i64 x211002_14] 47 (0, 0)) (by (with_reducible repeat (first | refine blk_drewN ?_ _ | refine blk_drew ?_ | refine blk_alloc ?_ _)); exact BK210.out) NB210_209.out (by simp)); have n1_ := Aside0.mk (hb); have n2_ := Aside0.mk (hi); clear BK210; clear HB; clear HI209; have BK210 := n0_; have HB := n1_; have HI209 := n2_; clear n0_ n1_ n2_; (try clear hb); (try clear hb2); (try clear hk); (try clear hi); have hnb129 := NB210_209.out; have hnc129 := NB209_210.out; have hcz130_0 : w128.cell? ⟨gb210, 0, none⟩ = some (.string x211000_14) := (blk_cell BK210.out 0).trans rfl; have hcz130_1 : w128.cell? ⟨gb210, 1, none⟩ = some (.int .i64 x211001_14) := (blk_cell BK210.out 1).trans rfl; have hcz130_2 : w128.cell? ⟨gb210, 2, none⟩ = some (.int .i64 x211002_14) := (blk_cell BK210.out 2).trans rfl; have hfz130_0 := blk_frozen BK210.out 0; have hfz130_1 := blk_frozen BK210.out 1; have hfz130_2 := blk_frozen BK210.out 2) | (go_at_call 35; (with_reducible refine (wire_Reader_Left.calls g209 t246 t247 t248 t257 t258 t259 t260 w _ ?side1 ?side2 A126.out).mono ?_); (case side1 => repeat (first | (with_reducible first | exact HI209.out | apply IsS83.alloc | apply IsS83.drewN | apply IsS83.drew | apply IsS83.set_0 | apply IsS83.set_1 | apply IsS83.set_2 | refine IsS83.far ?_ NB209_210.out _) | exact HI209.out)); (case side2 => repeat (first | (with_reducible first | exact HB.out | apply below_alloc | apply pw_below_drewN | apply below_drew1 | refine below_set ?_ (IsS83.ge HI209.out) | refine below_set ?_ GE210.out) | exact HB.out)); rintro e w131 ⟨rfl, hi, hb, hk⟩; have n0_ := Aside0.mk (KeepBut.blk hk (g' := gb210) (o := .cells #[.string x211000_14, .int .i64 x211001_14, .int .i64 x211002_14] 47 (0, 0)) (by (with_reducible repeat (first | refine blk_drewN ?_ _ | refine blk_drew ?_ | refine blk_alloc ?_ _)); exact BK210.out) NB210_209.out (by simp)); have n1_ := Aside0.mk (hb); have n2_ := Aside0.mk (hi); clear BK210; clear HB; clear HI209; have BK210 := n0_; have HB := n1_; have HI209 := n2_; clear n0_ n1_ n2_; (try clear hb); (try clear hb2); (try clear hk); (try clear hi)))
                             go_roundg kj14
                             case measure => have := HJ2.out; have := HK2.out; have := HJ14.out; omega
                             case rel => exact ⟨(wrap64 (x7_2 + 1)), (t258), (t259), (t260), (x211000_14), (x211001_14), (x211002_14), (by first | rfl | (simp; done) | (simp [*]; done)), H', ⟨by have := HJ2.out; have := HK2.out; have := HJ14.out; omega⟩, ⟨by (with_reducible repeat (first | refine blk_drewN ?_ _ | refine blk_drew ?_ | refine blk_alloc ?_ _)); exact BK210.out⟩, ⟨by repeat (first | (with_reducible first | exact HI209.out | apply IsS83.alloc | apply IsS83.drewN | apply IsS83.drew | apply IsS83.set_0 | apply IsS83.set_1 | apply IsS83.set_2 | refine IsS83.far ?_ NB209_210.out _) | exact HI209.out)⟩, ⟨by repeat (first | (with_reducible first | exact HB.out | apply below_alloc | apply pw_below_drewN | apply below_drew1 | refine below_set ?_ (IsS83.ge HI209.out) | refine below_set ?_ GE210.out) | exact HB.out)⟩⟩
                           · rw [if_neg c127] at H
                             have c127b0 : (t257 == 0) = false := beq_eq_false_iff_ne.mpr c127
                             have c127b1 : (t257 != 0) = true := bne_iff_ne.mpr c127
                             obtain rfl := Option.some.inj H
                             go_wp2_with (first | ((with_reducible refine gate_callee (f := 34) rfl ?_); refine goesL_ (some 99) rfl rfl Try.func34 (by kernel_rfl) rfl #[.pointer (some ⟨g209, 0, none⟩)] rfl (by (try simp only [List.map_toArray, List.map_cons, List.map_nil]); first | done | rfl | (simp only [List.length_drop, List.length_take]; rfl)) ?_; (with_reducible refine (wire_Reader_Error.calls g209 x210000_14 x210001_14 x210002_14 t244 t245 t246 t247 t248 w _ ?side1 ?side2 A88.out).mono ?_); (case side1 => repeat (first | (with_reducible first | exact HI209.out | apply IsS83.alloc | apply IsS83.drewN | apply IsS83.drew | apply IsS83.set_0 | apply IsS83.set_1 | apply IsS83.set_2 | refine IsS83.far ?_ NB209_210.out _) | exact HI209.out)); (case side2 => repeat (first | (with_reducible first | exact HB.out | apply below_alloc | apply pw_below_drewN | apply below_drew1 | refine below_set ?_ (IsS83.ge HI209.out) | refine below_set ?_ GE210.out) | exact HB.out)); rintro e w132 ⟨rfl, hi, hb, hk⟩; refine ⟨_, rfl, ?_⟩; have n0_ := Aside0.mk (KeepBut.blk hk (g' := gb210) (o := .cells #[.string x211000_14, .int .i64 x211001_14, .int .i64 x211002_14] 47 (0, 0)) (by (with_reducible repeat (first | refine blk_drewN ?_ _ | refine blk_drew ?_ | refine blk_alloc ?_ _)); exact BK210.out) NB210_209.out (by simp)); have n1_ := Aside0.mk (hb); have n2_ := Aside0.mk (hi); clear BK210; clear HB; clear HI209; have BK210 := n0_; have HB := n1_; have HI209 := n2_; clear n0_ n1_ n2_; (try clear hb); (try clear hb2); (try clear hk); (try clear hi); have hnb133 := NB210_209.out; have hnc133 := NB209_210.out; have hcz134_0 : w132.cell? ⟨gb210, 0, none⟩ = some (.string x211000_14) := (blk_cell BK210.out 0).trans rfl; have hcz134_1 : w132.cell? ⟨gb210, 1, none⟩ = some (.int .i64 x211001_14) := (blk_cell BK210.out 1).trans rfl; have hcz134_2 : w132.cell? ⟨gb210, 2, none⟩ = some (.int .i64 x211002_14) := (blk_cell BK210.out 2).trans rfl; have hfz134_0 := blk_frozen BK210.out 0; have hfz134_1 := blk_frozen BK210.out 1; have hfz134_2 := blk_frozen BK210.out 2) | (go_at_call 35; (with_reducible refine (wire_Reader_Left.calls g209 t246 t247 t248 t257 t258 t259 t260 w _ ?side1 ?side2 A126.out).mono ?_); (case side1 => repeat (first | (with_reducible first | exact HI209.out | apply IsS83.alloc | apply IsS83.drewN | apply IsS83.drew | apply IsS83.set_0 | apply IsS83.set_1 | apply IsS83.set_2 | refine IsS83.far ?_ NB209_210.out _) | exact HI209.out)); (case side2 => repeat (first | (with_reducible first | exact HB.out | apply below_alloc | apply pw_below_drewN | apply below_drew1 | refine below_set ?_ (IsS83.ge HI209.out) | refine below_set ?_ GE210.out) | exact HB.out)); rintro e w135 ⟨rfl, hi, hb, hk⟩; have n0_ := Aside0.mk (KeepBut.blk hk (g' := gb210) (o := .cells #[.string x211000_14, .int .i64 x211001_14, .int .i64 x211002_14] 47 (0, 0)) (by (with_reducible repeat (first | refine blk_drewN ?_ _ | refine blk_drew ?_ | refine blk_alloc ?_ _)); exact BK210.out) NB210_209.out (by simp)); have n1_ := Aside0.mk (hb); have n2_ := Aside0.mk (hi); clear BK210; clear HB; clear HI209; have BK210 := n0_; have HB := n1_; have HI209 := n2_; clear n0_ n1_ n2_; (try clear hb); (try clear hb2); (try clear hk); (try clear hi)))
                             go_ret
                             exact ⟨by first | rfl | (simp [errW_none, errW_some] <;> rfl) | (simp [*, errW_none, errW_some] <;> rfl), by repeat (first | (with_reducible first | exact HB.out | apply below_alloc | apply pw_below_drewN | apply below_drew1 | refine below_set ?_ (IsS83.ge HI209.out) | refine below_set ?_ GE210.out) | exact HB.out)⟩
                         · rw [if_neg c125] at H
                           have c125b0 : (t245 == 0) = false := beq_eq_false_iff_ne.mpr c125
                           have c125b1 : (t245 != 0) = true := bne_iff_ne.mpr c125
                           obtain rfl := Option.some.inj H
                           go_wp2_with (first | ((with_reducible refine gate_callee (f := 34) rfl ?_); refine goesL_ (some 99) rfl rfl Try.func34 (by kernel_rfl) rfl #[.pointer (some ⟨g209, 0, none⟩)] rfl (by (try simp only [List.map_toArray, List.map_cons, List.map_nil]); first | done | rfl | (simp only [List.length_drop, List.length_take]; rfl)) ?_; (with_reducible refine (wire_Reader_Error.calls g209 x210000_14 x210001_14 x210002_14 t244 t245 t246 t247 t248 w _ ?side1 ?side2 A88.out).mono ?_); (case side1 => repeat (first | (with_reducible first | exact HI209.out | apply IsS83.alloc | apply IsS83.drewN | apply IsS83.drew | apply IsS83.set_0 | apply IsS83.set_1 | apply IsS83.set_2 | refine IsS83.far ?_ NB209_210.out _) | exact HI209.out)); (case side2 => repeat (first | (with_reducible first | exact HB.out | apply below_alloc | apply pw_below_drewN | apply below_drew1 | refine below_set ?_ (IsS83.ge HI209.out) | refine below_set ?_ GE210.out) | exact HB.out)); rintro e w136 ⟨rfl, hi, hb, hk⟩; refine ⟨_, rfl, ?_⟩; have n0_ := Aside0.mk (KeepBut.blk hk (g' := gb210) (o := .cells #[.string x211000_14, .int .i64 x211001_14, .int .i64 x211002_14] 47 (0, 0)) (by (with_reducible repeat (first | refine blk_drewN ?_ _ | refine blk_drew ?_ | refine blk_alloc ?_ _)); exact BK210.out) NB210_209.out (by simp)); have n1_ := Aside0.mk (hb); have n2_ := Aside0.mk (hi); clear BK210; clear HB; clear HI209; have BK210 := n0_; have HB := n1_; have HI209 := n2_; clear n0_ n1_ n2_; (try clear hb); (try clear hb2); (try clear hk); (try clear hi); have hnb137 := NB210_209.out; have hnc137 := NB209_210.out; have hcz138_0 : w136.cell? ⟨gb210, 0, none⟩ = some (.string x211000_14) := (blk_cell BK210.out 0).trans rfl; have hcz138_1 : w136.cell? ⟨gb210, 1, none⟩ = some (.int .i64 x211001_14) := (blk_cell BK210.out 1).trans rfl; have hcz138_2 : w136.cell? ⟨gb210, 2, none⟩ = some (.int .i64 x211002_14) := (blk_cell BK210.out 2).trans rfl; have hfz138_0 := blk_frozen BK210.out 0; have hfz138_1 := blk_frozen BK210.out 1; have hfz138_2 := blk_frozen BK210.out 2))
                           go_ret
                           exact ⟨by first | rfl | (simp [errW_none, errW_some] <;> rfl) | (simp [*, errW_none, errW_some] <;> rfl), by repeat (first | (with_reducible first | exact HB.out | apply below_alloc | apply pw_below_drewN | apply below_drew1 | refine below_set ?_ (IsS83.ge HI209.out) | refine below_set ?_ GE210.out) | exact HB.out)⟩
                       · rw [if_neg c124] at H
                         have c124b0 : (t244 == 0) = false := beq_eq_false_iff_ne.mpr c124
                         have c124b1 : (t244 != 0) = true := bne_iff_ne.mpr c124
                         by_cases c139 : t245 = x211001_14
                         · rw [if_pos c139] at H
                           have c139b0 : (t245 == x211001_14) = true := beq_iff_eq.mpr c139
                           have c139b1 : (t245 != x211001_14) = false := bne_eq_false_iff_eq.mpr c139
                           clear c139
                           replace H := Option.bind_eq_some_iff.mp H
                           obtain ⟨⟨t261, t262, t263, t264⟩, A1400, H⟩ := H
                           replace H : (if t261 = 0 then (wireReads.l0 kj14 l1 (wrap64 (x7_2 + 1)) t262 t263 t264 x211000_14 x211001_14 x211002_14) else (some false)) = some r := H
                           have A140 := Aside0.mk A1400
                           clear A1400
                           by_cases c141 : t261 = 0
                           · rw [if_pos c141] at H
                             have c141b0 : (t261 == 0) = true := beq_iff_eq.mpr c141
                             have c141b1 : (t261 != 0) = false := bne_eq_false_iff_eq.mpr c141
                             clear c141
                             have H' := Aside0.mk H
                             clear H
                             go_wp2_with (first | ((with_reducible refine gate_callee (f := 34) rfl ?_); refine goesL_ (some 99) rfl rfl Try.func34 (by kernel_rfl) rfl #[.pointer (some ⟨g209, 0, none⟩)] rfl (by (try simp only [List.map_toArray, List.map_cons, List.map_nil]); first | done | rfl | (simp only [List.length_drop, List.length_take]; rfl)) ?_; (with_reducible refine (wire_Reader_Error.calls g209 x210000_14 x210001_14 x210002_14 t244 t245 t246 t247 t248 w _ ?side1 ?side2 A88.out).mono ?_); (case side1 => repeat (first | (with_reducible first | exact HI209.out | apply IsS83.alloc | apply IsS83.drewN | apply IsS83.drew | apply IsS83.set_0 | apply IsS83.set_1 | apply IsS83.set_2 | refine IsS83.far ?_ NB209_210.out _) | exact HI209.out)); (case side2 => repeat (first | (with_reducible first | exact HB.out | apply below_alloc | apply pw_below_drewN | apply below_drew1 | refine below_set ?_ (IsS83.ge HI209.out) | refine below_set ?_ GE210.out) | exact HB.out)); rintro e w142 ⟨rfl, hi, hb, hk⟩; refine ⟨_, rfl, ?_⟩; have n0_ := Aside0.mk (KeepBut.blk hk (g' := gb210) (o := .cells #[.string x211000_14, .int .i64 x211001_14, .int .i64 x211002_14] 47 (0, 0)) (by (with_reducible repeat (first | refine blk_drewN ?_ _ | refine blk_drew ?_ | refine blk_alloc ?_ _)); exact BK210.out) NB210_209.out (by simp)); have n1_ := Aside0.mk (hb); have n2_ := Aside0.mk (hi); clear BK210; clear HB; clear HI209; have BK210 := n0_; have HB := n1_; have HI209 := n2_; clear n0_ n1_ n2_; (try clear hb); (try clear hb2); (try clear hk); (try clear hi); have hnb143 := NB210_209.out; have hnc143 := NB209_210.out; have hcz144_0 : w142.cell? ⟨gb210, 0, none⟩ = some (.string x211000_14) := (blk_cell BK210.out 0).trans rfl; have hcz144_1 : w142.cell? ⟨gb210, 1, none⟩ = some (.int .i64 x211001_14) := (blk_cell BK210.out 1).trans rfl; have hcz144_2 : w142.cell? ⟨gb210, 2, none⟩ = some (.int .i64 x211002_14) := (blk_cell BK210.out 2).trans rfl; have hfz144_0 := blk_frozen BK210.out 0; have hfz144_1 := blk_frozen BK210.out 1; have hfz144_2 := blk_frozen BK210.out 2) | (go_at_call 35; (with_reducible refine (wire_Reader_Left.calls g209 t246 t247 t248 t261 t262 t263 t264 w _ ?side1 ?side2 A140.out).mono ?_); (case side1 => repeat (first | (with_reducible first | exact HI209.out | apply IsS83.alloc | apply IsS83.drewN | apply IsS83.drew | apply IsS83.set_0 | apply IsS83.set_1 | apply IsS83.set_2 | refine IsS83.far ?_ NB209_210.out _) | exact HI209.out)); (case side2 => repeat (first | (with_reducible first | exact HB.out | apply below_alloc | apply pw_below_drewN | apply below_drew1 | refine below_set ?_ (IsS83.ge HI209.out) | refine below_set ?_ GE210.out) | exact HB.out)); rintro e w145 ⟨rfl, hi, hb, hk⟩; have n0_ := Aside0.mk (KeepBut.blk hk (g' := gb210) (o := .cells #[.string x211000_14, .int .i64 x211001_14, .int .i64 x211002_14] 47 (0, 0)) (by (with_reducible repeat (first | refine blk_drewN ?_ _ | refine blk_drew ?_ | refine blk_alloc ?_ _)); exact BK210.out) NB210_209.out (by simp)); have n1_ := Aside0.mk (hb); have n2_ := Aside0.mk (hi); clear BK210; clear HB; clear HI209; have BK210 := n0_; have HB := n1_; have HI209 := n2_; clear n0_ n1_ n2_; (try clear hb); (try clear hb2); (try clear hk); (try clear hi)))
                             go_roundg kj14
                             case measure => have := HJ2.out; have := HK2.out; have := HJ14.out; omega
                             case rel => exact ⟨(wrap64 (x7_2 + 1)), (t262), (t263), (t264), (x211000_14), (x211001_14), (x211002_14), (by first | rfl | (simp; done) | (simp [*]; done)), H', ⟨by have := HJ2.out; have := HK2.out; have := HJ14.out; omega⟩, ⟨by (with_reducible repeat (first | refine blk_drewN ?_ _ | refine blk_drew ?_ | refine blk_alloc ?_ _)); exact BK210.out⟩, ⟨by repeat (first | (with_reducible first | exact HI209.out | apply IsS83.alloc | apply IsS83.drewN | apply IsS83.drew | apply IsS83.set_0 | apply IsS83.set_1 | apply IsS83.set_2 | refine IsS83.far ?_ NB209_210.out _) | exact HI209.out)⟩, ⟨by repeat (first | (with_reducible first | exact HB.out | apply below_alloc | apply pw_below_drewN | apply below_drew1 | refine below_set ?_ (IsS83.ge HI209.out) | refine below_set ?_ GE210.out) | exact HB.out)⟩⟩
                           · rw [if_neg c141] at H
                             have c141b0 : (t261 == 0) = false := beq_eq_false_iff_ne.mpr c141
                             have c141b1 : (t261 != 0) = true := bne_iff_ne.mpr c141
                             obtain rfl := Option.some.inj H
                             go_wp2_with (first | ((with_reducible refine gate_callee (f := 34) rfl ?_); refine goesL_ (some 99) rfl rfl Try.func34 (by kernel_rfl) rfl #[.pointer (some ⟨g209, 0, none⟩)] rfl (by (try simp only [List.map_toArray, List.map_cons, List.map_nil]); first | done | rfl | (simp only [List.length_drop, List.length_take]; rfl)) ?_; (with_reducible refine (wire_Reader_Error.calls g209 x210000_14 x210001_14 x210002_14 t244 t245 t246 t247 t248 w _ ?side1 ?side2 A88.out).mono ?_); (case side1 => repeat (first | (with_reducible first | exact HI209.out | apply IsS83.alloc | apply IsS83.drewN | apply IsS83.drew | apply IsS83.set_0 | apply IsS83.set_1 | apply IsS83.set_2 | refine IsS83.far ?_ NB209_210.out _) | exact HI209.out)); (case side2 => repeat (first | (with_reducible first | exact HB.out | apply below_alloc | apply pw_below_drewN | apply below_drew1 | refine below_set ?_ (IsS83.ge HI209.out) | refine below_set ?_ GE210.out) | exact HB.out)); rintro e w146 ⟨rfl, hi, hb, hk⟩; refine ⟨_, rfl, ?_⟩; have n0_ := Aside0.mk (KeepBut.blk hk (g' := gb210) (o := .cells #[.string x211000_14, .int .i64 x211001_14, .int .i64 x211002_14] 47 (0, 0)) (by (with_reducible repeat (first | refine blk_drewN ?_ _ | refine blk_drew ?_ | refine blk_alloc ?_ _)); exact BK210.out) NB210_209.out (by simp)); have n1_ := Aside0.mk (hb); have n2_ := Aside0.mk (hi); clear BK210; clear HB; clear HI209; have BK210 := n0_; have HB := n1_; have HI209 := n2_; clear n0_ n1_ n2_; (try clear hb); (try clear hb2); (try clear hk); (try clear hi); have hnb147 := NB210_209.out; have hnc147 := NB209_210.out; have hcz148_0 : w146.cell? ⟨gb210, 0, none⟩ = some (.string x211000_14) := (blk_cell BK210.out 0).trans rfl; have hcz148_1 : w146.cell? ⟨gb210, 1, none⟩ = some (.int .i64 x211001_14) := (blk_cell BK210.out 1).trans rfl; have hcz148_2 : w146.cell? ⟨gb210, 2, none⟩ = some (.int .i64 x211002_14) := (blk_cell BK210.out 2).trans rfl; have hfz148_0 := blk_frozen BK210.out 0; have hfz148_1 := blk_frozen BK210.out 1; have hfz148_2 := blk_frozen BK210.out 2) | (go_at_call 35; (with_reducible refine (wire_Reader_Left.calls g209 t246 t247 t248 t261 t262 t263 t264 w _ ?side1 ?side2 A140.out).mono ?_); (case side1 => repeat (first | (with_reducible first | exact HI209.out | apply IsS83.alloc | apply IsS83.drewN | apply IsS83.drew | apply IsS83.set_0 | apply IsS83.set_1 | apply IsS83.set_2 | refine IsS83.far ?_ NB209_210.out _) | exact HI209.out)); (case side2 => repeat (first | (with_reducible first | exact HB.out | apply below_alloc | apply pw_below_drewN | apply below_drew1 | refine below_set ?_ (IsS83.ge HI209.out) | refine below_set ?_ GE210.out) | exact HB.out)); rintro e w149 ⟨rfl, hi, hb, hk⟩; have n0_ := Aside0.mk (KeepBut.blk hk (g' := gb210) (o := .cells #[.string x211000_14, .int .i64 x211001_14, .int .i64 x211002_14] 47 (0, 0)) (by (with_reducible repeat (first | refine blk_drewN ?_ _ | refine blk_drew ?_ | refine blk_alloc ?_ _)); exact BK210.out) NB210_209.out (by simp)); have n1_ := Aside0.mk (hb); have n2_ := Aside0.mk (hi); clear BK210; clear HB; clear HI209; have BK210 := n0_; have HB := n1_; have HI209 := n2_; clear n0_ n1_ n2_; (try clear hb); (try clear hb2); (try clear hk); (try clear hi)))
                             go_ret
                             exact ⟨by first | rfl | (simp [errW_none, errW_some] <;> rfl) | (simp [*, errW_none, errW_some] <;> rfl), by repeat (first | (with_reducible first | exact HB.out | apply below_alloc | apply pw_below_drewN | apply below_drew1 | refine below_set ?_ (IsS83.ge HI209.out) | refine below_set ?_ GE210.out) | exact HB.out)⟩
                         · rw [if_neg c139] at H
                           have c139b0 : (t245 == x211001_14) = false := beq_eq_false_iff_ne.mpr c139
                           have c139b1 : (t245 != x211001_14) = true := bne_iff_ne.mpr c139
                           obtain rfl := Option.some.inj H
                           go_wp2_with (first | ((with_reducible refine gate_callee (f := 34) rfl ?_); refine goesL_ (some 99) rfl rfl Try.func34 (by kernel_rfl) rfl #[.pointer (some ⟨g209, 0, none⟩)] rfl (by (try simp only [List.map_toArray, List.map_cons, List.map_nil]); first | done | rfl | (simp only [List.length_drop, List.length_take]; rfl)) ?_; (with_reducible refine (wire_Reader_Error.calls g209 x210000_14 x210001_14 x210002_14 t244 t245 t246 t247 t248 w _ ?side1 ?side2 A88.out).mono ?_); (case side1 => repeat (first | (with_reducible first | exact HI209.out | apply IsS83.alloc | apply IsS83.drewN | apply IsS83.drew | apply IsS83.set_0 | apply IsS83.set_1 | apply IsS83.set_2 | refine IsS83.far ?_ NB209_210.out _) | exact HI209.out)); (case side2 => repeat (first | (with_reducible first | exact HB.out | apply below_alloc | apply pw_below_drewN | apply below_drew1 | refine below_set ?_ (IsS83.ge HI209.out) | refine below_set ?_ GE210.out) | exact HB.out)); rintro e w150 ⟨rfl, hi, hb, hk⟩; refine ⟨_, rfl, ?_⟩; have n0_ := Aside0.mk (KeepBut.blk hk (g' := gb210) (o := .cells #[.string x211000_14, .int .i64 x211001_14, .int .i64 x211002_14] 47 (0, 0)) (by (with_reducible repeat (first | refine blk_drewN ?_ _ | refine blk_drew ?_ | refine blk_alloc ?_ _)); exact BK210.out) NB210_209.out (by simp)); have n1_ := Aside0.mk (hb); have n2_ := Aside0.mk (hi); clear BK210; clear HB; clear HI209; have BK210 := n0_; have HB := n1_; have HI209 := n2_; clear n0_ n1_ n2_; (try clear hb); (try clear hb2); (try clear hk); (try clear hi); have hnb151 := NB210_209.out; have hnc151 := NB209_210.out; have hcz152_0 : w150.cell? ⟨gb210, 0, none⟩ = some (.string x211000_14) := (blk_cell BK210.out 0).trans rfl; have hcz152_1 : w150.cell? ⟨gb210, 1, none⟩ = some (.int .i64 x211001_14) := (blk_cell BK210.out 1).trans rfl; have hcz152_2 : w150.cell? ⟨gb210, 2, none⟩ = some (.int .i64 x211002_14) := (blk_cell BK210.out 2).trans rfl; have hfz152_0 := blk_frozen BK210.out 0; have hfz152_1 := blk_frozen BK210.out 1; have hfz152_2 := blk_frozen BK210.out 2))
                           go_ret
                           exact ⟨by first | rfl | (simp [errW_none, errW_some] <;> rfl) | (simp [*, errW_none, errW_some] <;> rfl), by repeat (first | (with_reducible first | exact HB.out | apply below_alloc | apply pw_below_drewN | apply below_drew1 | refine below_set ?_ (IsS83.ge HI209.out) | refine below_set ?_ GE210.out) | exact HB.out)⟩
                     · rw [if_neg c123] at H
                       have c123b0 : (t244 == x211002_14) = false := beq_eq_false_iff_ne.mpr c123
                       have c123b1 : (t244 != x211002_14) = true := bne_iff_ne.mpr c123
                       obtain rfl := Option.some.inj H
                       go_wp2_with (first | ((with_reducible refine gate_callee (f := 34) rfl ?_); refine goesL_ (some 99) rfl rfl Try.func34 (by kernel_rfl) rfl #[.pointer (some ⟨g209, 0, none⟩)] rfl (by (try simp only [List.map_toArray, List.map_cons, List.map_nil]); first | done | rfl | (simp only [List.length_drop, List.length_take]; rfl)) ?_; (with_reducible refine (wire_Reader_Error.calls g209 x210000_14 x210001_14 x210002_14 t244 t245 t246 t247 t248 w _ ?side1 ?side2 A88.out).mono ?_); (case side1 => repeat (first | (with_reducible first | exact HI209.out | apply IsS83.alloc | apply IsS83.drewN | apply IsS83.drew | apply IsS83.set_0 | apply IsS83.set_1 | apply IsS83.set_2 | refine IsS83.far ?_ NB209_210.out _) | exact HI209.out)); (case side2 => repeat (first | (with_reducible first | exact HB.out | apply below_alloc | apply pw_below_drewN | apply below_drew1 | refine below_set ?_ (IsS83.ge HI209.out) | refine below_set ?_ GE210.out) | exact HB.out)); rintro e w153 ⟨rfl, hi, hb, hk⟩; refine ⟨_, rfl, ?_⟩; have n0_ := Aside0.mk (KeepBut.blk hk (g' := gb210) (o := .cells #[.string x211000_14, .int .i64 x211001_14, .int .i64 x211002_14] 47 (0, 0)) (by (with_reducible repeat (first | refine blk_drewN ?_ _ | refine blk_drew ?_ | refine blk_alloc ?_ _)); exact BK210.out) NB210_209.out (by simp)); have n1_ := Aside0.mk (hb); have n2_ := Aside0.mk (hi); clear BK210; clear HB; clear HI209; have BK210 := n0_; have HB := n1_; have HI209 := n2_; clear n0_ n1_ n2_; (try clear hb); (try clear hb2); (try clear hk); (try clear hi); have hnb154 := NB210_209.out; have hnc154 := NB209_210.out; have hcz155_0 : w153.cell? ⟨gb210, 0, none⟩ = some (.string x211000_14) := (blk_cell BK210.out 0).trans rfl; have hcz155_1 : w153.cell? ⟨gb210, 1, none⟩ = some (.int .i64 x211001_14) := (blk_cell BK210.out 1).trans rfl; have hcz155_2 : w153.cell? ⟨gb210, 2, none⟩ = some (.int .i64 x211002_14) := (blk_cell BK210.out 2).trans rfl; have hfz155_0 := blk_frozen BK210.out 0; have hfz155_1 := blk_frozen BK210.out 1; have hfz155_2 := blk_frozen BK210.out 2))
                       go_ret
                       exact ⟨by first | rfl | (simp [errW_none, errW_some] <;> rfl) | (simp [*, errW_none, errW_some] <;> rfl), by repeat (first | (with_reducible first | exact HB.out | apply below_alloc | apply pw_below_drewN | apply below_drew1 | refine below_set ?_ (IsS83.ge HI209.out) | refine below_set ?_ GE210.out) | exact HB.out)⟩
             · rw [if_neg c14] at H
               exact absurd H (by simp)
           · rw [if_neg c13] at H
             have c13b0 : decide (x7_2 < (l1.length : Int)) = false := decide_eq_false c13
             clear c13
             replace H := Option.bind_eq_some_iff.mp H
             obtain ⟨t211, A1560, H⟩ := H
             replace H : (some t211) = some r := H
             have A156 := Aside0.mk A1560
             clear A1560
             obtain rfl := Option.some.inj H
             go_wp2_with (first | ((with_reducible refine gate_callee (f := 25) rfl ?_); refine goesL_ (some 139) rfl rfl Try.func25 (by kernel_rfl) rfl #[] rfl (by (try simp only [List.map_toArray, List.map_cons, List.map_nil]); first | done | rfl | (simp only [List.length_drop, List.length_take]; rfl)) ?_; (with_reducible refine (transhumancelaw01_fixed.calls  t211 _ A156.out).mono ?_); rintro e w157 ⟨rfl, hb⟩; refine ⟨_, rfl, ?_⟩; have n0_ := Aside0.mk (blk_below (g := gb210) (o := .cells #[.string x211000_2, .int .i64 x211001_2, .int .i64 x211002_2] 47 (0, 0)) (by (with_reducible repeat (first | refine blk_drewN ?_ _ | refine blk_drew ?_ | refine blk_alloc ?_ _)); exact BK210.out) hb); have n1_ := Aside0.mk (IsS83.below (by repeat (first | (with_reducible first | exact HI209.out | apply IsS83.alloc | apply IsS83.drewN | apply IsS83.drew | apply IsS83.set_0 | apply IsS83.set_1 | apply IsS83.set_2 | refine IsS83.far ?_ NB209_210.out _) | exact HI209.out)) hb); have n2_ := Aside0.mk (below_step (by repeat (first | (with_reducible first | exact HB.out | apply below_alloc | apply pw_below_drewN | apply below_drew1 | refine below_set ?_ (IsS83.ge HI209.out) | refine below_set ?_ GE210.out) | exact HB.out)) hb); clear BK210; clear HI209; clear HB; have BK210 := n0_; have HI209 := n1_; have HB := n2_; clear n0_ n1_ n2_; (try clear hb); (try clear hb2); (try clear hk); (try clear hi)))
             go_ret
             exact ⟨by first | rfl | (simp [errW_none, errW_some] <;> rfl) | (simp [*, errW_none, errW_some] <;> rfl), by repeat (first | (with_reducible first | exact HB.out | apply below_alloc | apply pw_below_drewN | apply below_drew1 | refine below_set ?_ (IsS83.ge HI209.out) | refine below_set ?_ GE210.out) | exact HB.out)⟩

end Go.Proofs.Ytaeocbbapnfcaaa.PWire
