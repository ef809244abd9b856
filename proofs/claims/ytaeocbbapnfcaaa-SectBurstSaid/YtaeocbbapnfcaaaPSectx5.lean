/- Functions of the program, each with the machine's call that does what it says; laid by a program of this session over the kit's printer. -/
import Derived.Test.YtaeocbbapnfcaaaPSectx0
import Derived.Test.YtaeocbbapnfcaaaPSectx4
namespace Go.Proofs.Ytaeocbbapnfcaaa.PSect
open Go.RowKit Go.Proofs.YtaeocbbapnfcaaaW.PrintWords Go.Proofs.YtaeocbbapnfcaaaW.PrintLast Go.Proofs.YtaeocbbapnfcaaaW.PrintMore
attribute [local go_sem] max2_int min2_int max_two min_two max_three min_three max_four min_four   -- for this text's walks alone
set_option linter.unusedVariables false
set_option linter.unusedSimpArgs false

/-! ### transhumanceref01_GetFixed: function 59 -/
def transhumanceref01_GetFixed.j0 : Nat → ByteArray → Int → Bool → Option (Int × Int × Int)
  | 0, _, _, _ => none
  | k + 1, x0, x1, x14 => if x14 = true then (some (0, x1, 1)) else (if (wrap64 (x1 + 4)) > (x0.size : Int) then (some (0, x1, 10)) else (if 0 ≤ x1 then (if x1 < (x0.size : Int) then (if 0 ≤ (wrap64 (x1 + 1)) then (if (wrap64 (x1 + 1)) < (x0.size : Int) then (if 0 ≤ (wrap64 (x1 + 2)) then (if (wrap64 (x1 + 2)) < (x0.size : Int) then (if 0 ≤ (wrap64 (x1 + 3)) then (if (wrap64 (x1 + 3)) < (x0.size : Int) then (some (wrap64 ((wrap64 ((wrap64 ((wrap64 (bt x0 x1)) + (wrap64 (256 * (wrap64 (bt x0 (wrap64 (x1 + 1)))))))) + (wrap64 (65536 * (wrap64 (bt x0 (wrap64 (x1 + 2)))))))) + (wrap64 (16777216 * (wrap64 (bt x0 (wrap64 (x1 + 3))))))), wrap64 (x1 + 4), 0)) else (none)) else (none)) else (none)) else (none)) else (none)) else (none)) else (none)) else (none)))
def transhumanceref01_GetFixed.f (k : Nat) (a0 : ByteArray) (a1 : Int) : Option (Int × Int × Int) := if a1 < 0 then (transhumanceref01_GetFixed.j0 k a0 a1 true) else (transhumanceref01_GetFixed.j0 k a0 a1 (decide (a1 > (a0.size : Int))))
theorem transhumanceref01_GetFixed.mono_l : ∀ k, (∀ y0 y1 y2, LeO (transhumanceref01_GetFixed.j0 k y0 y1 y2) (transhumanceref01_GetFixed.j0 (k + 1) y0 y1 y2))
  | 0 => fun _ _ _ r h => by simp [transhumanceref01_GetFixed.j0] at h
  | k + 1 => by
    have ih0 := transhumanceref01_GetFixed.mono_l k
    · intro y0 y1 y2
      unfold transhumanceref01_GetFixed.j0
      repeat' first
      | (with_reducible exact ih0 _ _ _)
      | (with_reducible exact LeO.refl _)
      | (with_reducible exact LeO.none _)
      | (with_reducible refine LeO.ite ?_ ?_)
      | (with_reducible refine LeO.bind ?_ (fun _ => ?_))
      | exact ih0 _ _ _
      | exact LeO.none _
      | refine LeO.ite ?_ ?_
      | refine LeO.bind ?_ (fun _ => ?_)
theorem transhumanceref01_GetFixed.mono : ∀ a0 a1 k, LeO (transhumanceref01_GetFixed.f k a0 a1) (transhumanceref01_GetFixed.f (k + 1) a0 a1) := by
  intro a0 a1 k
  have ih0 := transhumanceref01_GetFixed.mono_l k
  unfold transhumanceref01_GetFixed.f
  repeat' first
      | (with_reducible exact ih0 _ _ _)
      | (with_reducible exact LeO.refl _)
      | (with_reducible exact LeO.none _)
      | (with_reducible refine LeO.ite ?_ ?_)
      | (with_reducible refine LeO.bind ?_ (fun _ => ?_))
      | exact ih0 _ _ _
      | exact LeO.none _
      | refine LeO.ite ?_ ?_
      | refine LeO.bind ?_ (fun _ => ?_)
set_option maxHeartbeats 8000000 in
set_option maxRecDepth 100000 in
theorem transhumanceref01_GetFixed.calls (k : Nat) (a0 : ByteArray) (a1 : Int) (r1 : Int) (r2 : Int) (r3 : Int) (w : World) (h : transhumanceref01_GetFixed.f k a0 a1 = some (r1, r2, r3)) :
    Calls Try.prog 59 #[.string a0, .int .i64 a1] w fun e w' => e = .returned (.tuple #[.int .i64 r1, .int .i64 r2, .int .i64 r3]) ∧ Drawn0 w w' := by
  have H : (if a1 < 0 then (transhumanceref01_GetFixed.j0 k a0 a1 true) else (transhumanceref01_GetFixed.j0 k a0 a1 (decide (a1 > (a0.size : Int))))) = some (r1, r2, r3) := h
  clear h
  have HC3 := Aside0.mk H
  clear H
  go_enter Try.func59, Try.ntmps59
  go_upto_region 1 with (fail)
  repeat (go_quiet (fail); go_upto_region 1 with (fail))
  go_cut [14] (fun v14 wc => ∃ (kq : Nat) (x14_2 : Bool), v14 = .bool x14_2 ∧ Aside0 (transhumanceref01_GetFixed.j0 kq a0 a1 x14_2 = some (r1, r2, r3)) ∧ Aside0 (kq ≤ k) ∧ Drawn0 w wc)
  case first =>
    have H := HC3.out
    clear HC3
    by_cases c4 : a1 < 0
    · rw [if_pos c4] at H
      have c4b0 : decide (a1 < 0) = true := decide_eq_true c4
      clear c4
      (first | rw [c4b0] | (simp only [i64_w, i32_w]; rw [c4b0]) | skip)
      have H' := Aside0.mk H
      clear H
      go_wp2
      repeat (go_quiet (fail); try go_wp2)
      go_meet
      case rel => exact ⟨_, (true), (by first | rfl | (simp; done) | (simp [*]; done)), H', ⟨by first | omega | exact Nat.le_refl _⟩, by repeat (first | exact Drawn0.refl _ | apply Drawn0.step)⟩
    · rw [if_neg c4] at H
      have c4b0 : decide (a1 < 0) = false := decide_eq_false c4
      clear c4
      (first | rw [c4b0] | (simp only [i64_w, i32_w]; rw [c4b0]) | skip)
      have H' := Aside0.mk H
      clear H
      go_wp2
      repeat (go_quiet (fail); try go_wp2)
      go_meet
      case rel => exact ⟨_, (decide (a1 > (a0.size : Int))), (by first | rfl | (simp; done) | (simp [*]; done)), H', ⟨by first | omega | exact Nat.le_refl _⟩, by repeat (first | exact Drawn0.refl _ | apply Drawn0.step)⟩
  case rest =>
    clear HC3
    try clear p2
    try clear c4
    try clear c4b0
    obtain ⟨kq, x14_2, rfl, HA, HJ2, ⟨mc2, rfl⟩⟩ := hcut
    cases kq with
    | zero => exact absurd HA.out (by simp [transhumanceref01_GetFixed.j0])
    | succ kj2 =>
      have H := HA.out
      clear HA
      simp only [transhumanceref01_GetFixed.j0] at H
      by_cases c5 : x14_2 = true
      · subst c5
        have H1 : (some (0, a1, 1)) = some (r1, r2, r3) := by rw [if_pos rfl] at H; exact H
        clear H
        have H := H1
        clear H1
        simp only [Option.some.injEq, Prod.mk.injEq] at H
        obtain ⟨rfl, rfl, rfl⟩ := H
        go_wp2
        repeat (go_quiet (fail); try go_wp2)
        go_ret3
        exact ⟨by first | rfl | (simp; done) | (simp [*]; done), by repeat (first | exact Drawn0.refl _ | apply Drawn0.step)⟩
      · replace c5 := Bool.eq_false_iff.mpr c5
        subst c5
        have H1 : (if (wrap64 (a1 + 4)) > (a0.size : Int) then (some (0, a1, 10)) else (if 0 ≤ a1 then (if a1 < (a0.size : Int) then (if 0 ≤ (wrap64 (a1 + 1)) then (if (wrap64 (a1 + 1)) < (a0.size : Int) then (if 0 ≤ (wrap64 (a1 + 2)) then (if (wrap64 (a1 + 2)) < (a0.size : Int) then (if 0 ≤ (wrap64 (a1 + 3)) then (if (wrap64 (a1 + 3)) < (a0.size : Int) then (some (wrap64 ((wrap64 ((wrap64 ((wrap64 (bt a0 a1)) + (wrap64 (256 * (wrap64 (bt a0 (wrap64 (a1 + 1)))))))) + (wrap64 (65536 * (wrap64 (bt a0 (wrap64 (a1 + 2)))))))) + (wrap64 (16777216 * (wrap64 (bt a0 (wrap64 (a1 + 3))))))), wrap64 (a1 + 4), 0)) else (none)) else (none)) else (none)) else (none)) else (none)) else (none)) else (none)) else (none))) = some (r1, r2, r3) := by rw [if_neg (show ¬ (false = true) by decide)] at H; exact H
        clear H
        have H := H1
        clear H1
        by_cases c6 : (wrap64 (a1 + 4)) > (a0.size : Int)
        · rw [if_pos c6] at H
          have c6b0 : decide ((a0.size : Int) < (wrap64 (a1 + 4))) = true := decide_eq_true c6
          clear c6
          simp only [Option.some.injEq, Prod.mk.injEq] at H
          obtain ⟨rfl, rfl, rfl⟩ := H
          go_wp2
          repeat (go_quiet (fail); try go_wp2)
          go_ret3
          exact ⟨by first | rfl | (simp; done) | (simp [*]; done), by repeat (first | exact Drawn0.refl _ | apply Drawn0.step)⟩
        · rw [if_neg c6] at H
          have c6b0 : decide ((a0.size : Int) < (wrap64 (a1 + 4))) = false := decide_eq_false c6
          clear c6
          by_cases c7 : 0 ≤ a1
          · rw [if_pos c7] at H
            have c7b0 : decide (0 ≤ a1) = true := decide_eq_true c7
            clear c7
            by_cases c8 : a1 < (a0.size : Int)
            · rw [if_pos c8] at H
              have c8b0 : decide (a1 < (a0.size : Int)) = true := decide_eq_true c8
              clear c8
              obtain ⟨ji10, hji10⟩ : ∃ j_ : Int, (wrap64 (a1 + 1)) = j_ := ⟨_, rfl⟩
              replace H : (if 0 ≤ (ji10) then (if (ji10) < (a0.size : Int) then (if 0 ≤ (wrap64 (a1 + 2)) then (if (wrap64 (a1 + 2)) < (a0.size : Int) then (if 0 ≤ (wrap64 (a1 + 3)) then (if (wrap64 (a1 + 3)) < (a0.size : Int) then (some (wrap64 ((wrap64 ((wrap64 ((wrap64 (bt a0 a1)) + (wrap64 (256 * (wrap64 (bt a0 (ji10))))))) + (wrap64 (65536 * (wrap64 (bt a0 (wrap64 (a1 + 2)))))))) + (wrap64 (16777216 * (wrap64 (bt a0 (wrap64 (a1 + 3))))))), wrap64 (a1 + 4), 0)) else (none)) else (none)) else (none)) else (none)) else (none)) else (none)) = some (r1, r2, r3) := by first | (rw [hji10] at H; exact H) | (simp only [hji10] at H ⊢; exact H)
              have hji10w : (IntKind.i64.wrap (a1 + 1)) = ji10 := (i64_w _).trans hji10
              by_cases c11 : 0 ≤ (ji10)
              · rw [if_pos c11] at H
                have c11b0 : decide (0 ≤ (ji10)) = true := decide_eq_true c11
                clear c11
                by_cases c12 : (ji10) < (a0.size : Int)
                · rw [if_pos c12] at H
                  have c12b0 : decide ((ji10) < (a0.size : Int)) = true := decide_eq_true c12
                  clear c12
                  obtain ⟨ji14, hji14⟩ : ∃ j_ : Int, (wrap64 (a1 + 2)) = j_ := ⟨_, rfl⟩
                  replace H : (if 0 ≤ (ji14) then (if (ji14) < (a0.size : Int) then (if 0 ≤ (wrap64 (a1 + 3)) then (if (wrap64 (a1 + 3)) < (a0.size : Int) then (some (wrap64 ((wrap64 ((wrap64 ((wrap64 (bt a0 a1)) + (wrap64 (256 * (wrap64 (bt a0 (ji10))))))) + (wrap64 (65536 * (wrap64 (bt a0 (ji14))))))) + (wrap64 (16777216 * (wrap64 (bt a0 (wrap64 (a1 + 3))))))), wrap64 (a1 + 4), 0)) else (none)) else (none)) else (none)) else (none)) = some (r1, r2, r3) := by first | (rw [hji14] at H; exact H) | (simp only [hji14] at H ⊢; exact H)
                  have hji14w : (IntKind.i64.wrap (a1 + 2)) = ji14 := (i64_w _).trans hji14
                  by_cases c15 : 0 ≤ (ji14)
                  · rw [if_pos c15] at H
                    have c15b0 : decide (0 ≤ (ji14)) = true := decide_eq_true c15
                    clear c15
                    by_cases c16 : (ji14) < (a0.size : Int)
                    · rw [if_pos c16] at H
                      have c16b0 : decide ((ji14) < (a0.size : Int)) = true := decide_eq_true c16
                      clear c16
                      obtain ⟨ji18, hji18⟩ : ∃ j_ : Int, (wrap64 (a1 + 3)) = j_ := ⟨_, rfl⟩
                      replace H : (if 0 ≤ (ji18) then (if (ji18) < (a0.size : Int) then (some (wrap64 ((wrap64 ((wrap64 ((wrap64 (bt a0 a1)) + (wrap64 (256 * (wrap64 (bt a0 (ji10))))))) + (wrap64 (65536 * (wrap64 (bt a0 (ji14))))))) + (wrap64 (16777216 * (wrap64 (bt a0 (ji18)))))), wrap64 (a1 + 4), 0)) else (none)) else (none)) = some (r1, r2, r3) := by first | (rw [hji18] at H; exact H) | (simp only [hji18] at H ⊢; exact H)
                      have hji18w : (IntKind.i64.wrap (a1 + 3)) = ji18 := (i64_w _).trans hji18
                      by_cases c19 : 0 ≤ (ji18)
                      · rw [if_pos c19] at H
                        have c19b0 : decide (0 ≤ (ji18)) = true := decide_eq_true c19
                        clear c19
                        by_cases c20 : (ji18) < (a0.size : Int)
                        · rw [if_pos c20] at H
                          have c20b0 : decide ((ji18) < (a0.size : Int)) = true := decide_eq_true c20
                          clear c20
                          simp only [Option.some.injEq, Prod.mk.injEq] at H
                          obtain ⟨rfl, rfl, rfl⟩ := H
                          have p9 : 0 ≤ (a1 : Int) := of_decide_eq_true (by first | (with_reducible assumption) | assumption)
                          have q9 : a1 < (a0.size : Int) := of_decide_eq_true (by first | (with_reducible assumption) | assumption)
                          have hx9 := bt_at a0 a1
                          replace p9 := eq_true p9
                          replace q9 := eq_true q9
                          have p13 : 0 ≤ ((ji10) : Int) := of_decide_eq_true (by first | (with_reducible assumption) | assumption)
                          have q13 : (ji10) < (a0.size : Int) := of_decide_eq_true (by first | (with_reducible assumption) | assumption)
                          have hx13 := bt_at a0 (ji10)
                          replace p13 := eq_true p13
                          replace q13 := eq_true q13
                          have p17 : 0 ≤ ((ji14) : Int) := of_decide_eq_true (by first | (with_reducible assumption) | assumption)
                          have q17 : (ji14) < (a0.size : Int) := of_decide_eq_true (by first | (with_reducible assumption) | assumption)
                          have hx17 := bt_at a0 (ji14)
                          replace p17 := eq_true p17
                          replace q17 := eq_true q17
                          have p21 : 0 ≤ ((ji18) : Int) := of_decide_eq_true (by first | (with_reducible assumption) | assumption)
                          have q21 : (ji18) < (a0.size : Int) := of_decide_eq_true (by first | (with_reducible assumption) | assumption)
                          have hx21 := bt_at a0 (ji18)
                          replace p21 := eq_true p21
                          replace q21 := eq_true q21
                          go_wp2
                          repeat (go_quiet (fail); try go_wp2)
                          go_ret3
                          exact ⟨by first | rfl | (simp; done) | (simp only [← hji10, ← hji14, ← hji18] <;> (first | rfl | simp)) | (simp [*]; done), by repeat (first | exact Drawn0.refl _ | apply Drawn0.step)⟩
                        · rw [if_neg c20] at H
                          exact absurd H (by simp)
                      · rw [if_neg c19] at H
                        exact absurd H (by simp)
                    · rw [if_neg c16] at H
                      exact absurd H (by simp)
                  · rw [if_neg c15] at H
                    exact absurd H (by simp)
                · rw [if_neg c12] at H
                  exact absurd H (by simp)
              · rw [if_neg c11] at H
                exact absurd H (by simp)
            · rw [if_neg c8] at H
              exact absurd H (by simp)
          · rw [if_neg c7] at H
            exact absurd H (by simp)

/-! ### transhumanceref03_bad: function 61 -/
def transhumanceref03_bad.f (a0 : Int) (a1 : Int) : Option (Int × ByteArray × Int × Int) := some (0, (⟨#[]⟩ : ByteArray), a0, a1)
set_option maxHeartbeats 8000000 in
set_option maxRecDepth 100000 in
theorem transhumanceref03_bad.calls (a0 : Int) (a1 : Int) (r1 : Int) (r2 : ByteArray) (r3 : Int) (r4 : Int) (w : World) (h : transhumanceref03_bad.f a0 a1 = some (r1, r2, r3, r4)) :
    Calls Try.prog 61 #[.int .i64 a0, .int .i64 a1] w fun e w' => e = .returned (.tuple #[.int .i64 r1, .string r2, .int .i64 r3, .int .i64 r4]) ∧ Drawn0 w w' := by
  have H : (some (0, (⟨#[]⟩ : ByteArray), a0, a1)) = some (r1, r2, r3, r4) := h
  clear h
  simp only [Option.some.injEq, Prod.mk.injEq] at H
  obtain ⟨rfl, rfl, rfl, rfl⟩ := H
  go_enter Try.func61, Try.ntmps61
  go_wp2
  refine bodyPost_ret (results_list (rs := [.tmp 4, .tmp 5, .tmp 6, .tmp 7]) rfl (by simp) (.tmp (.tmp (.tmp (.tmp .nil))))) rfl ?_
  exact ⟨by first | rfl | (simp; done) | (simp [*]; done), by repeat (first | exact Drawn0.refl _ | apply Drawn0.step)⟩

/-! ### transhumanceref03_tagged: function 62 -/
def transhumanceref03_tagged.f (a0 : Int) (a1 : ByteArray) : Option (ByteArray) := (some (([(a0) % 256] : List Int) : List Int)).bind fun y129 => (if (strOfNums y129).size + a1.size ≤ 9223372036854775807 then (some ((strOfNums y129) ++ a1)) else (none))
set_option maxHeartbeats 8000000 in
set_option maxRecDepth 100000 in
theorem transhumanceref03_tagged.calls (a0 : Int) (a1 : ByteArray) (r : ByteArray) (w : World) (h : transhumanceref03_tagged.f a0 a1 = some r) :
    Calls Try.prog 62 #[.int .i64 a0, .string a1] w fun e w' => e = .returned (.string r) ∧ Below w.heap.size w w' := by
  have HB := Aside0.mk (Below.refl w.heap.size w)
  have H : ((some (([(a0) % 256] : List Int) : List Int)).bind fun y129 => (if (strOfNums y129).size + a1.size ≤ 9223372036854775807 then (some ((strOfNums y129) ++ a1)) else (none))) = some r := h
  clear h
  obtain ⟨y129, hy129⟩ : ∃ y_ : List Int, y_ = (([(a0) % 256] : List Int)) := ⟨_, rfl⟩
  replace H : (if (strOfNums y129).size + a1.size ≤ 9223372036854775807 then (some ((strOfNums y129) ++ a1)) else (none)) = some r := by first | (rw [hy129]; with_reducible exact H) | (have H2_ := (Option.bind_some _ _).symm.trans H; rw [hy129]; with_reducible exact H2_) | (have H2_ := (Option.bind_some _ _).symm.trans H; with_reducible exact H2_) | with_reducible exact H | (rw [hy129]; exact H) | exact H
  have Ny129 := Aside0.mk hy129
  clear hy129
  by_cases c3 : (strOfNums y129).size + a1.size ≤ 9223372036854775807
  · rw [if_pos c3] at H
    have c3b0 := eq_true c3
    have c3b1 : decide ((strOfNums y129).size + a1.size ≤ 9223372036854775807) = true := decide_eq_true c3
    try have c3b2 : (9223372036854775807 < (strOfNums y129).size + a1.size) = False := eq_false (Nat.not_lt.2 c3)
    obtain rfl := Option.some.inj H
    go_enter Try.func62, Try.ntmps62
    go_wp2_with (first | ((with_reducible refine gate_dst (N := 7) rfl ?_); refine Kd.R_lit (Kd.int .u8) _ 5 ?hg (N := 7) ?hd (xs := ([(a0) % 256] : List Int)) (inner := [.int .u8 ((a0) % 256)]) (ok := fun _ => True) (okp := fun _ => True) ?hr ?hp (fun _ hk => hk) trivial (Below.refl _ _) (Nat.le_refl _) (by simp) ?_; (case hd => rfl); (case hg => rfl); (case hr => first | (go_simp; done) | (go_simp; rfl)); (case hp => exact (Reps.one (show Kd.M (Kd.int .u8) _ _ _ ((a0) % 256) [.int .u8 ((a0) % 256)] from rfl) (Reps.none _ _))); intro v130 w4 ho5 hb hg_ hnew_; clear hg_ hnew_; (first | rw [← Ny129.out] at ho5 | (simp only [Int.reduceToNat] at ho5; rw [← Ny129.out] at ho5)); have n0_ := Aside0.mk (Kd.R_lower ho5 (below_size (by repeat (first | (with_reducible first | exact HB.out | apply below_alloc | apply pw_below_drewN | apply below_drew1) | exact HB.out)))); have n1_ := Aside0.mk (below_step (by repeat (first | (with_reducible first | exact HB.out | apply below_alloc | apply pw_below_drewN | apply below_drew1) | exact HB.out)) hb); clear HB; have HO131 := n0_; have HB := n1_; clear n0_ n1_; clear hb ho5; have hcv6 := own_string (P := Try.prog) Try.underlying27 Try.underlying5 Try.underlying9 (Kd.own_of_R HO131.out)))
    go_ret
    exact ⟨by first | rfl | (simp [errW_none, errW_some] <;> rfl) | (simp [*, errW_none, errW_some] <;> rfl), by repeat (first | (with_reducible first | exact HB.out | apply below_alloc | apply pw_below_drewN | apply below_drew1) | exact HB.out)⟩
  · rw [if_neg c3] at H
    exact absurd H (by simp)

/-! ### transhumanceref03_Get: function 43 -/
def transhumanceref03_Get.j0 : Nat → ByteArray → Int → Bool → Option (Int × ByteArray × Int × Int)
  | 0, _, _, _ => none
  | k + 1, x0, x1, x22 => if x22 = true then ((transhumanceref03_bad.f x1 1).bind fun bt132 => (some (bt132.1, bt132.2.1, bt132.2.2.1, bt132.2.2.2))) else (if x1 = (x0.size : Int) then ((transhumanceref03_bad.f x1 10).bind fun bt136 => (some (bt136.1, bt136.2.1, bt136.2.2.1, bt136.2.2.2))) else ((transhumanceref01_Get.f k x0 (wrap64 (x1 + 1))).bind fun bt140 => (if bt140.2.2 = 0 then (if bt140.1 > 1048576 then ((transhumanceref03_bad.f x1 11).bind fun bt147 => (some (bt147.1, bt147.2.1, bt147.2.2.1, bt147.2.2.2))) else (if (wrap64 ((x0.size : Int) - bt140.2.1)) < (wrap64 (bt140.1 + 4)) then ((transhumanceref03_bad.f x1 10).bind fun bt151 => (some (bt151.1, bt151.2.1, bt151.2.2.1, bt151.2.2.2))) else (if 0 ≤ bt140.2.1 then (if bt140.2.1 ≤ (wrap64 (bt140.2.1 + bt140.1)) then (if (wrap64 (bt140.2.1 + bt140.1)) ≤ (x0.size : Int) then ((transhumanceref01_GetFixed.f k x0 (wrap64 (bt140.2.1 + bt140.1))).bind fun bt155 => (if 0 ≤ x1 then (if x1 < (x0.size : Int) then ((transhumanceref03_tagged.f (wrap64 (bt x0 x1)) (x0.extract (bt140.2.1 : Int).toNat ((wrap64 (bt140.2.1 + bt140.1)) : Int).toNat)).bind fun t158 => ((transhumanceref02_Of.f k t158).bind fun t159 => (if bt155.1 = t159 then (some (wrap64 (bt x0 x1), x0.extract (bt140.2.1 : Int).toNat ((wrap64 (bt140.2.1 + bt140.1)) : Int).toNat, bt155.2.1, 0)) else ((transhumanceref03_bad.f x1 30).bind fun bt160 => (some (bt160.1, bt160.2.1, bt160.2.2.1, bt160.2.2.2)))))) else (none)) else (none))) else (none)) else (none)) else (none)))) else ((transhumanceref03_bad.f x1 bt140.2.2).bind fun bt143 => (some (bt143.1, bt143.2.1, bt143.2.2.1, bt143.2.2.2))))))
def transhumanceref03_Get.f (k : Nat) (a0 : ByteArray) (a1 : Int) : Option (Int × ByteArray × Int × Int) := if a1 < 0 then (transhumanceref03_Get.j0 k a0 a1 true) else (transhumanceref03_Get.j0 k a0 a1 (decide (a1 > (a0.size : Int))))
theorem transhumanceref03_Get.mono_l : ∀ k, (∀ y0 y1 y2, LeO (transhumanceref03_Get.j0 k y0 y1 y2) (transhumanceref03_Get.j0 (k + 1) y0 y1 y2))
  | 0 => fun _ _ _ r h => by simp [transhumanceref03_Get.j0] at h
  | k + 1 => by
    have ih0 := transhumanceref03_Get.mono_l k
    · intro y0 y1 y2
      unfold transhumanceref03_Get.j0
      repeat' first
      | (with_reducible exact ih0 _ _ _)
      | (with_reducible exact transhumanceref01_Get.mono _ _ _)
      | (with_reducible exact transhumanceref01_GetFixed.mono _ _ _)
      | (with_reducible exact transhumanceref02_Of.mono _ _)
      | (with_reducible exact LeO.refl _)
      | (with_reducible exact LeO.none _)
      | (with_reducible refine LeO.ite ?_ ?_)
      | (with_reducible refine LeO.bind ?_ (fun _ => ?_))
      | exact ih0 _ _ _
      | exact transhumanceref01_Get.mono _ _ _
      | exact transhumanceref01_GetFixed.mono _ _ _
      | exact transhumanceref02_Of.mono _ _
      | exact LeO.none _
      | refine LeO.ite ?_ ?_
      | refine LeO.bind ?_ (fun _ => ?_)
theorem transhumanceref03_Get.mono : ∀ a0 a1 k, LeO (transhumanceref03_Get.f k a0 a1) (transhumanceref03_Get.f (k + 1) a0 a1) := by
  intro a0 a1 k
  have ih0 := transhumanceref03_Get.mono_l k
  unfold transhumanceref03_Get.f
  repeat' first
      | (with_reducible exact ih0 _ _ _)
      | (with_reducible exact transhumanceref01_Get.mono _ _ _)
      | (with_reducible exact transhumanceref01_GetFixed.mono _ _ _)
      | (with_reducible exact transhumanceref02_Of.mono _ _)
      | (with_reducible exact LeO.refl _)
      | (with_reducible exact LeO.none _)
      | (with_reducible refine LeO.ite ?_ ?_)
      | (with_reducible refine LeO.bind ?_ (fun _ => ?_))
      | exact ih0 _ _ _
      | exact transhumanceref01_Get.mono _ _ _
      | exact transhumanceref01_GetFixed.mono _ _ _
      | exact transhumanceref02_Of.mono _ _
      | exact LeO.none _
      | refine LeO.ite ?_ ?_
      | refine LeO.bind ?_ (fun _ => ?_)
set_option maxHeartbeats 8000000 in
set_option maxRecDepth 100000 in
theorem transhumanceref03_Get.calls (k : Nat) (a0 : ByteArray) (a1 : Int) (r1 : Int) (r2 : ByteArray) (r3 : Int) (r4 : Int) (w : World) (h : transhumanceref03_Get.f k a0 a1 = some (r1, r2, r3, r4)) :
    Calls Try.prog 43 #[.string a0, .int .i64 a1] w fun e w' => e = .returned (.tuple #[.int .i64 r1, .string r2, .int .i64 r3, .int .i64 r4]) ∧ Below w.heap.size w w' := by
  have HB := Aside0.mk (Below.refl w.heap.size w)
  have H : (if a1 < 0 then (transhumanceref03_Get.j0 k a0 a1 true) else (transhumanceref03_Get.j0 k a0 a1 (decide (a1 > (a0.size : Int))))) = some (r1, r2, r3, r4) := h
  clear h
  have HC3 := Aside0.mk H
  clear H
  go_enter Try.func43, Try.ntmps43
  go_upto_region 1 with (fail)
  go_cut [22] (fun v22 wc => ∃ (kq : Nat) (x22_2 : Bool), v22 = .bool x22_2 ∧ Aside0 (transhumanceref03_Get.j0 kq a0 a1 x22_2 = some (r1, r2, r3, r4)) ∧ Aside0 (kq ≤ k) ∧ Aside0 (Below w.heap.size w wc))
  case first =>
    have H := HC3.out
    clear HC3
    by_cases c4 : a1 < 0
    · rw [if_pos c4] at H
      have c4b0 : decide (a1 < 0) = true := decide_eq_true c4
      clear c4
      (first | rw [c4b0] | (simp only [i64_w, i32_w]; rw [c4b0]) | skip)
      have H' := Aside0.mk H
      clear H
      go_wp2
      go_meet
      case rel => exact ⟨_, (true), (by first | rfl | (simp; done) | (simp [*]; done)), H', ⟨by first | omega | exact Nat.le_refl _⟩, ⟨by repeat (first | (with_reducible first | exact HB.out | apply below_alloc | apply pw_below_drewN | apply below_drew1) | exact HB.out)⟩⟩
    · rw [if_neg c4] at H
      have c4b0 : decide (a1 < 0) = false := decide_eq_false c4
      clear c4
      (first | rw [c4b0] | (simp only [i64_w, i32_w]; rw [c4b0]) | skip)
      have H' := Aside0.mk H
      clear H
      go_wp2
      go_meet
      case rel => exact ⟨_, (decide (a1 > (a0.size : Int))), (by first | rfl | (simp; done) | (simp [*]; done)), H', ⟨by first | omega | exact Nat.le_refl _⟩, ⟨by repeat (first | (with_reducible first | exact HB.out | apply below_alloc | apply pw_below_drewN | apply below_drew1) | exact HB.out)⟩⟩
  case rest =>
    clear HC3
    try clear p2
    try clear c4
    try clear c4b0
    obtain ⟨kq, x22_2, rfl, HA, HJ2, HB⟩ := hcut
    cases kq with
    | zero => exact absurd HA.out (by simp [transhumanceref03_Get.j0])
    | succ kj2 =>
      have H := HA.out
      clear HA
      simp only [transhumanceref03_Get.j0] at H
      by_cases c5 : x22_2 = true
      · subst c5
        have H1 : ((transhumanceref03_bad.f a1 1).bind fun bt132 => (some (bt132.1, bt132.2.1, bt132.2.2.1, bt132.2.2.2))) = some (r1, r2, r3, r4) := by rw [if_pos rfl] at H; exact H
        clear H
        have H := H1
        clear H1
        replace H := Option.bind_eq_some_iff.mp H
        obtain ⟨⟨t132, t133, t134, t135⟩, A60, H⟩ := H
        replace H : (some (t132, t133, t134, t135)) = some (r1, r2, r3, r4) := H
        have A6 := Aside0.mk A60
        clear A60
        simp only [Option.some.injEq, Prod.mk.injEq] at H
        obtain ⟨rfl, rfl, rfl, rfl⟩ := H
        go_wp2_with (first | ((with_reducible refine gate_callee (f := 61) rfl ?_); refine goesL_ (some 24) rfl rfl Try.func61 (by kernel_rfl) rfl #[.int .i64 a1, .int .i64 1] rfl (by (try simp only [List.map_toArray, List.map_cons, List.map_nil]); first | done | rfl | (simp only [List.length_drop, List.length_take]; rfl)) ?_; (with_reducible refine (transhumanceref03_bad.calls a1 1 t132 t133 t134 t135 _ A6.out).mono ?_); rintro e w' ⟨rfl, ⟨nd, rfl⟩⟩; refine ⟨_, rfl, ?_⟩))
        refine bodyPost_ret (results_list (rs := [.tmp 4, .tmp 5, .tmp 6, .tmp 7]) rfl (by simp) (.tmp (.tmp (.tmp (.tmp .nil))))) rfl ?_
        exact ⟨by first | rfl | (simp [errW_none, errW_some] <;> rfl) | (simp [*, errW_none, errW_some] <;> rfl), by repeat (first | (with_reducible first | exact HB.out | apply below_alloc | apply pw_below_drewN | apply below_drew1) | exact HB.out)⟩
      · replace c5 := Bool.eq_false_iff.mpr c5
        subst c5
        have H1 : (if a1 = (a0.size : Int) then ((transhumanceref03_bad.f a1 10).bind fun bt136 => (some (bt136.1, bt136.2.1, bt136.2.2.1, bt136.2.2.2))) else ((transhumanceref01_Get.f kj2 a0 (wrap64 (a1 + 1))).bind fun bt140 => (if bt140.2.2 = 0 then (if bt140.1 > 1048576 then ((transhumanceref03_bad.f a1 11).bind fun bt147 => (some (bt147.1, bt147.2.1, bt147.2.2.1, bt147.2.2.2))) else (if (wrap64 ((a0.size : Int) - bt140.2.1)) < (wrap64 (bt140.1 + 4)) then ((transhumanceref03_bad.f a1 10).bind fun bt151 => (some (bt151.1, bt151.2.1, bt151.2.2.1, bt151.2.2.2))) else (if 0 ≤ bt140.2.1 then (if bt140.2.1 ≤ (wrap64 (bt140.2.1 + bt140.1)) then (if (wrap64 (bt140.2.1 + bt140.1)) ≤ (a0.size : Int) then ((transhumanceref01_GetFixed.f kj2 a0 (wrap64 (bt140.2.1 + bt140.1))).bind fun bt155 => (if 0 ≤ a1 then (if a1 < (a0.size : Int) then ((transhumanceref03_tagged.f (wrap64 (bt a0 a1)) (a0.extract (bt140.2.1 : Int).toNat ((wrap64 (bt140.2.1 + bt140.1)) : Int).toNat)).bind fun t158 => ((transhumanceref02_Of.f kj2 t158).bind fun t159 => (if bt155.1 = t159 then (some (wrap64 (bt a0 a1), a0.extract (bt140.2.1 : Int).toNat ((wrap64 (bt140.2.1 + bt140.1)) : Int).toNat, bt155.2.1, 0)) else ((transhumanceref03_bad.f a1 30).bind fun bt160 => (some (bt160.1, bt160.2.1, bt160.2.2.1, bt160.2.2.2)))))) else (none)) else (none))) else (none)) else (none)) else (none)))) else ((transhumanceref03_bad.f a1 bt140.2.2).bind fun bt143 => (some (bt143.1, bt143.2.1, bt143.2.2.1, bt143.2.2.2)))))) = some (r1, r2, r3, r4) := by rw [if_neg (show ¬ (false = true) by decide)] at H; exact H
        clear H
        have H := H1
        clear H1
        by_cases c7 : a1 = (a0.size : Int)
        · rw [if_pos c7] at H
          have c7b0 : (a1 == (a0.size : Int)) = true := beq_iff_eq.mpr c7
          have c7b1 : (a1 != (a0.size : Int)) = false := bne_eq_false_iff_eq.mpr c7
          clear c7
          replace H := Option.bind_eq_some_iff.mp H
          obtain ⟨⟨t136, t137, t138, t139⟩, A80, H⟩ := H
          replace H : (some (t136, t137, t138, t139)) = some (r1, r2, r3, r4) := H
          have A8 := Aside0.mk A80
          clear A80
          simp only [Option.some.injEq, Prod.mk.injEq] at H
          obtain ⟨rfl, rfl, rfl, rfl⟩ := H
          go_wp2_with (first | ((with_reducible refine gate_callee (f := 61) rfl ?_); refine goesL_ (some 34) rfl rfl Try.func61 (by kernel_rfl) rfl #[.int .i64 a1, .int .i64 10] rfl (by (try simp only [List.map_toArray, List.map_cons, List.map_nil]); first | done | rfl | (simp only [List.length_drop, List.length_take]; rfl)) ?_; (with_reducible refine (transhumanceref03_bad.calls a1 10 t136 t137 t138 t139 _ A8.out).mono ?_); rintro e w' ⟨rfl, ⟨nd, rfl⟩⟩; refine ⟨_, rfl, ?_⟩))
          refine bodyPost_ret (results_list (rs := [.tmp 4, .tmp 5, .tmp 6, .tmp 7]) rfl (by simp) (.tmp (.tmp (.tmp (.tmp .nil))))) rfl ?_
          exact ⟨by first | rfl | (simp [errW_none, errW_some] <;> rfl) | (simp [*, errW_none, errW_some] <;> rfl), by repeat (first | (with_reducible first | exact HB.out | apply below_alloc | apply pw_below_drewN | apply below_drew1) | exact HB.out)⟩
        · rw [if_neg c7] at H
          have c7b0 : (a1 == (a0.size : Int)) = false := beq_eq_false_iff_ne.mpr c7
          have c7b1 : (a1 != (a0.size : Int)) = true := bne_iff_ne.mpr c7
          replace H := Option.bind_eq_some_iff.mp H
          obtain ⟨⟨t140, t141, t142⟩, A90, H⟩ := H
          replace H : (if t142 = 0 then (if t140 > 1048576 then ((transhumanceref03_bad.f a1 11).bind fun bt147 => (some (bt147.1, bt147.2.1, bt147.2.2.1, bt147.2.2.2))) else (if (wrap64 ((a0.size : Int) - t141)) < (wrap64 (t140 + 4)) then ((transhumanceref03_bad.f a1 10).bind fun bt151 => (some (bt151.1, bt151.2.1, bt151.2.2.1, bt151.2.2.2))) else (if 0 ≤ t141 then (if t141 ≤ (wrap64 (t141 + t140)) then (if (wrap64 (t141 + t140)) ≤ (a0.size : Int) then ((transhumanceref01_GetFixed.f kj2 a0 (wrap64 (t141 + t140))).bind fun bt155 => (if 0 ≤ a1 then (if a1 < (a0.size : Int) then ((transhumanceref03_tagged.f (wrap64 (bt a0 a1)) (a0.extract (t141 : Int).toNat ((wrap64 (t141 + t140)) : Int).toNat)).bind fun t158 => ((transhumanceref02_Of.f kj2 t158).bind fun t159 => (if bt155.1 = t159 then (some (wrap64 (bt a0 a1), a0.extract (t141 : Int).toNat ((wrap64 (t141 + t140)) : Int).toNat, bt155.2.1, 0)) else ((transhumanceref03_bad.f a1 30).bind fun bt160 => (some (bt160.1, bt160.2.1, bt160.2.2.1, bt160.2.2.2)))))) else (none)) else (none))) else (none)) else (none)) else (none)))) else ((transhumanceref03_bad.f a1 t142).bind fun bt143 => (some (bt143.1, bt143.2.1, bt143.2.2.1, bt143.2.2.2)))) = some (r1, r2, r3, r4) := H
          have A9 := Aside0.mk A90
          clear A90
          by_cases c10 : t142 = 0
          · rw [if_pos c10] at H
            have c10b0 : (t142 == 0) = true := beq_iff_eq.mpr c10
            have c10b1 : (t142 != 0) = false := bne_eq_false_iff_eq.mpr c10
            clear c10
            by_cases c11 : t140 > 1048576
            · rw [if_pos c11] at H
              have c11b0 : decide (1048576 < t140) = true := decide_eq_true c11
              clear c11
              replace H := Option.bind_eq_some_iff.mp H
              obtain ⟨⟨t147, t148, t149, t150⟩, A120, H⟩ := H
              replace H : (some (t147, t148, t149, t150)) = some (r1, r2, r3, r4) := H
              have A12 := Aside0.mk A120
              clear A120
              simp only [Option.some.injEq, Prod.mk.injEq] at H
              obtain ⟨rfl, rfl, rfl, rfl⟩ := H
              go_wp2_with (first | ((with_reducible refine gate_callee (f := 58) rfl ?_); refine goesL_ (some 43) rfl rfl Try.func58 (by kernel_rfl) rfl #[.string a0, .int .i64 (wrap64 (a1 + 1))] rfl (by (try simp only [List.map_toArray, List.map_cons, List.map_nil]); first | done | rfl | (simp only [List.length_drop, List.length_take]; rfl)) ?_; (with_reducible refine (transhumanceref01_Get.calls kj2 a0 (wrap64 (a1 + 1)) t140 t141 t142 _ A9.out).mono ?_); rintro e w' ⟨rfl, ⟨nd, rfl⟩⟩; refine ⟨_, rfl, ?_⟩) | ((with_reducible refine gate_callee (f := 61) rfl ?_); refine goesL_ (some 59) rfl rfl Try.func61 (by kernel_rfl) rfl #[.int .i64 a1, .int .i64 11] rfl (by (try simp only [List.map_toArray, List.map_cons, List.map_nil]); first | done | rfl | (simp only [List.length_drop, List.length_take]; rfl)) ?_; (with_reducible refine (transhumanceref03_bad.calls a1 11 t147 t148 t149 t150 _ A12.out).mono ?_); rintro e w' ⟨rfl, ⟨nd, rfl⟩⟩; refine ⟨_, rfl, ?_⟩))
              refine bodyPost_ret (results_list (rs := [.tmp 4, .tmp 5, .tmp 6, .tmp 7]) rfl (by simp) (.tmp (.tmp (.tmp (.tmp .nil))))) rfl ?_
              exact ⟨by first | rfl | (simp [errW_none, errW_some] <;> rfl) | (simp [*, errW_none, errW_some] <;> rfl), by repeat (first | (with_reducible first | exact HB.out | apply below_alloc | apply pw_below_drewN | apply below_drew1) | exact HB.out)⟩
            · rw [if_neg c11] at H
              have c11b0 : decide (1048576 < t140) = false := decide_eq_false c11
              clear c11
              by_cases c13 : (wrap64 ((a0.size : Int) - t141)) < (wrap64 (t140 + 4))
              · rw [if_pos c13] at H
                have c13b0 : decide ((wrap64 ((a0.size : Int) - t141)) < (wrap64 (t140 + 4))) = true := decide_eq_true c13
                clear c13
                replace H := Option.bind_eq_some_iff.mp H
                obtain ⟨⟨t151, t152, t153, t154⟩, A140, H⟩ := H
                replace H : (some (t151, t152, t153, t154)) = some (r1, r2, r3, r4) := H
                have A14 := Aside0.mk A140
                clear A140
                simp only [Option.some.injEq, Prod.mk.injEq] at H
                obtain ⟨rfl, rfl, rfl, rfl⟩ := H
                go_wp2_with (first | ((with_reducible refine gate_callee (f := 58) rfl ?_); refine goesL_ (some 43) rfl rfl Try.func58 (by kernel_rfl) rfl #[.string a0, .int .i64 (wrap64 (a1 + 1))] rfl (by (try simp only [List.map_toArray, List.map_cons, List.map_nil]); first | done | rfl | (simp only [List.length_drop, List.length_take]; rfl)) ?_; (with_reducible refine (transhumanceref01_Get.calls kj2 a0 (wrap64 (a1 + 1)) t140 t141 t142 _ A9.out).mono ?_); rintro e w' ⟨rfl, ⟨nd, rfl⟩⟩; refine ⟨_, rfl, ?_⟩) | ((with_reducible refine gate_callee (f := 61) rfl ?_); refine goesL_ (some 72) rfl rfl Try.func61 (by kernel_rfl) rfl #[.int .i64 a1, .int .i64 10] rfl (by (try simp only [List.map_toArray, List.map_cons, List.map_nil]); first | done | rfl | (simp only [List.length_drop, List.length_take]; rfl)) ?_; (with_reducible refine (transhumanceref03_bad.calls a1 10 t151 t152 t153 t154 _ A14.out).mono ?_); rintro e w' ⟨rfl, ⟨nd, rfl⟩⟩; refine ⟨_, rfl, ?_⟩))
                refine bodyPost_ret (results_list (rs := [.tmp 4, .tmp 5, .tmp 6, .tmp 7]) rfl (by simp) (.tmp (.tmp (.tmp (.tmp .nil))))) rfl ?_
                exact ⟨by first | rfl | (simp [errW_none, errW_some] <;> rfl) | (simp [*, errW_none, errW_some] <;> rfl), by repeat (first | (with_reducible first | exact HB.out | apply below_alloc | apply pw_below_drewN | apply below_drew1) | exact HB.out)⟩
              · rw [if_neg c13] at H
                have c13b0 : decide ((wrap64 ((a0.size : Int) - t141)) < (wrap64 (t140 + 4))) = false := decide_eq_false c13
                clear c13
                by_cases c15 : 0 ≤ t141
                · rw [if_pos c15] at H
                  have c15b0 := eq_true c15
                  have c15b1 : decide (0 ≤ t141) = true := decide_eq_true c15
                  clear c15
                  by_cases c16 : t141 ≤ (wrap64 (t141 + t140))
                  · rw [if_pos c16] at H
                    have c16b0 := eq_true c16
                    have c16b1 : decide (t141 ≤ (wrap64 (t141 + t140))) = true := decide_eq_true c16
                    by_cases c17 : (wrap64 (t141 + t140)) ≤ (a0.size : Int)
                    · rw [if_pos c17] at H
                      have c17b0 := eq_true c17
                      have c17b1 : decide ((wrap64 (t141 + t140)) ≤ (a0.size : Int)) = true := decide_eq_true c17
                      replace H := Option.bind_eq_some_iff.mp H
                      obtain ⟨⟨t155, t156, t157⟩, A180, H⟩ := H
                      replace H : (if 0 ≤ a1 then (if a1 < (a0.size : Int) then ((transhumanceref03_tagged.f (wrap64 (bt a0 a1)) (a0.extract (t141 : Int).toNat ((wrap64 (t141 + t140)) : Int).toNat)).bind fun t158 => ((transhumanceref02_Of.f kj2 t158).bind fun t159 => (if t155 = t159 then (some (wrap64 (bt a0 a1), a0.extract (t141 : Int).toNat ((wrap64 (t141 + t140)) : Int).toNat, t156, 0)) else ((transhumanceref03_bad.f a1 30).bind fun bt160 => (some (bt160.1, bt160.2.1, bt160.2.2.1, bt160.2.2.2)))))) else (none)) else (none)) = some (r1, r2, r3, r4) := H
                      have A18 := Aside0.mk A180
                      clear A180
                      by_cases c19 : 0 ≤ a1
                      · rw [if_pos c19] at H
                        have c19b0 : decide (0 ≤ a1) = true := decide_eq_true c19
                        clear c19
                        by_cases c20 : a1 < (a0.size : Int)
                        · rw [if_pos c20] at H
                          have c20b0 : decide (a1 < (a0.size : Int)) = true := decide_eq_true c20
                          clear c20
                          replace H := Option.bind_eq_some_iff.mp H
                          obtain ⟨t158, A220, H⟩ := H
                          replace H : ((transhumanceref02_Of.f kj2 t158).bind fun t159 => (if t155 = t159 then (some (wrap64 (bt a0 a1), a0.extract (t141 : Int).toNat ((wrap64 (t141 + t140)) : Int).toNat, t156, 0)) else ((transhumanceref03_bad.f a1 30).bind fun bt160 => (some (bt160.1, bt160.2.1, bt160.2.2.1, bt160.2.2.2))))) = some (r1, r2, r3, r4) := H
                          have A22 := Aside0.mk A220
                          clear A220
                          replace H := Option.bind_eq_some_iff.mp H
                          obtain ⟨t159, A230, H⟩ := H
                          replace H : (if t155 = t159 then (some (wrap64 (bt a0 a1), a0.extract (t141 : Int).toNat ((wrap64 (t141 + t140)) : Int).toNat, t156, 0)) else ((transhumanceref03_bad.f a1 30).bind fun bt160 => (some (bt160.1, bt160.2.1, bt160.2.2.1, bt160.2.2.2)))) = some (r1, r2, r3, r4) := H
                          have A23 := Aside0.mk A230
                          clear A230
                          by_cases c24 : t155 = t159
                          · rw [if_pos c24] at H
                            have c24b0 : (t155 == t159) = true := beq_iff_eq.mpr c24
                            have c24b1 : (t155 != t159) = false := bne_eq_false_iff_eq.mpr c24
                            clear c24
                            simp only [Option.some.injEq, Prod.mk.injEq] at H
                            obtain ⟨rfl, rfl, rfl, rfl⟩ := H
                            go_wp2_with (first | ((with_reducible refine gate_callee (f := 58) rfl ?_); refine goesL_ (some 43) rfl rfl Try.func58 (by kernel_rfl) rfl #[.string a0, .int .i64 (wrap64 (a1 + 1))] rfl (by (try simp only [List.map_toArray, List.map_cons, List.map_nil]); first | done | rfl | (simp only [List.length_drop, List.length_take]; rfl)) ?_; (with_reducible refine (transhumanceref01_Get.calls kj2 a0 (wrap64 (a1 + 1)) t140 t141 t142 _ A9.out).mono ?_); rintro e w' ⟨rfl, ⟨nd, rfl⟩⟩; refine ⟨_, rfl, ?_⟩) | ((with_reducible refine gate_callee (f := 59) rfl ?_); refine goesL_ (some 88) rfl rfl Try.func59 (by kernel_rfl) rfl #[.string a0, .int .i64 (wrap64 (t141 + t140))] rfl (by (try simp only [List.map_toArray, List.map_cons, List.map_nil]); first | done | rfl | (simp only [List.length_drop, List.length_take]; rfl)) ?_; (with_reducible refine (transhumanceref01_GetFixed.calls kj2 a0 (wrap64 (t141 + t140)) t155 t156 t157 _ A18.out).mono ?_); rintro e w' ⟨rfl, ⟨nd, rfl⟩⟩; refine ⟨_, rfl, ?_⟩; have p21 : 0 ≤ (a1 : Int) := of_decide_eq_true (by first | (with_reducible assumption) | assumption); have q21 : a1 < (a0.size : Int) := of_decide_eq_true (by first | (with_reducible assumption) | assumption); have hx21 := bt_at a0 a1; replace p21 := eq_true p21; replace q21 := eq_true q21) | ((with_reducible refine gate_callee (f := 62) rfl ?_); refine goesL_ (some 98) rfl rfl Try.func62 (by kernel_rfl) rfl #[.int .i64 (wrap64 (bt a0 a1)), .string (a0.extract (t141 : Int).toNat ((wrap64 (t141 + t140)) : Int).toNat)] rfl (by (try simp only [List.map_toArray, List.map_cons, List.map_nil]); first | done | rfl | (simp only [List.length_drop, List.length_take]; rfl)) ?_; (with_reducible refine (transhumanceref03_tagged.calls (wrap64 (bt a0 a1)) (a0.extract (t141 : Int).toNat ((wrap64 (t141 + t140)) : Int).toNat) t158 _ A22.out).mono ?_); rintro e w26 ⟨rfl, hb⟩; refine ⟨_, rfl, ?_⟩; have n0_ := Aside0.mk (below_step (by repeat (first | (with_reducible first | exact HB.out | apply below_alloc | apply pw_below_drewN | apply below_drew1) | exact HB.out)) hb); clear HB; have HB := n0_; clear n0_; (try clear hb); (try clear hb2); (try clear hk); (try clear hi)) | ((with_reducible refine gate_callee (f := 22) rfl ?_); refine goesL_ (some 99) rfl rfl Try.func22 (by kernel_rfl) rfl #[.string t158] rfl (by (try simp only [List.map_toArray, List.map_cons, List.map_nil]); first | done | rfl | (simp only [List.length_drop, List.length_take]; rfl)) ?_; (with_reducible refine (transhumanceref02_Of.calls kj2 t158 t159 _ A23.out).mono ?_); rintro e w' ⟨rfl, ⟨nd, rfl⟩⟩; refine ⟨_, rfl, ?_⟩; have p25 : 0 ≤ (a1 : Int) := of_decide_eq_true (by first | (with_reducible assumption) | assumption); have q25 : a1 < (a0.size : Int) := of_decide_eq_true (by first | (with_reducible assumption) | assumption); have hx25 := bt_at a0 a1; replace p25 := eq_true p25; replace q25 := eq_true q25))
                            refine bodyPost_ret (results_list (rs := [.tmp 4, .tmp 5, .tmp 6, .tmp 7]) rfl (by simp) (.tmp (.tmp (.tmp (.tmp .nil))))) rfl ?_
                            exact ⟨by first | rfl | (simp [errW_none, errW_some] <;> rfl) | (simp [*, errW_none, errW_some] <;> rfl), by repeat (first | (with_reducible first | exact HB.out | apply below_alloc | apply pw_below_drewN | apply below_drew1) | exact HB.out)⟩
                          · rw [if_neg c24] at H
                            have c24b0 : (t155 == t159) = false := beq_eq_false_iff_ne.mpr c24
                            have c24b1 : (t155 != t159) = true := bne_iff_ne.mpr c24
                            replace H := Option.bind_eq_some_iff.mp H
                            obtain ⟨⟨t160, t161, t162, t163⟩, A270, H⟩ := H
                            replace H : (some (t160, t161, t162, t163)) = some (r1, r2, r3, r4) := H
                            have A27 := Aside0.mk A270
                            clear A270
                            simp only [Option.some.injEq, Prod.mk.injEq] at H
                            obtain ⟨rfl, rfl, rfl, rfl⟩ := H
                            go_wp2_with (first | ((with_reducible refine gate_callee (f := 58) rfl ?_); refine goesL_ (some 43) rfl rfl Try.func58 (by kernel_rfl) rfl #[.string a0, .int .i64 (wrap64 (a1 + 1))] rfl (by (try simp only [List.map_toArray, List.map_cons, List.map_nil]); first | done | rfl | (simp only [List.length_drop, List.length_take]; rfl)) ?_; (with_reducible refine (transhumanceref01_Get.calls kj2 a0 (wrap64 (a1 + 1)) t140 t141 t142 _ A9.out).mono ?_); rintro e w' ⟨rfl, ⟨nd, rfl⟩⟩; refine ⟨_, rfl, ?_⟩) | ((with_reducible refine gate_callee (f := 59) rfl ?_); refine goesL_ (some 88) rfl rfl Try.func59 (by kernel_rfl) rfl #[.string a0, .int .i64 (wrap64 (t141 + t140))] rfl (by (try simp only [List.map_toArray, List.map_cons, List.map_nil]); first | done | rfl | (simp only [List.length_drop, List.length_take]; rfl)) ?_; (with_reducible refine (transhumanceref01_GetFixed.calls kj2 a0 (wrap64 (t141 + t140)) t155 t156 t157 _ A18.out).mono ?_); rintro e w' ⟨rfl, ⟨nd, rfl⟩⟩; refine ⟨_, rfl, ?_⟩; have p21 : 0 ≤ (a1 : Int) := of_decide_eq_true (by first | (with_reducible assumption) | assumption); have q21 : a1 < (a0.size : Int) := of_decide_eq_true (by first | (with_reducible assumption) | assumption); have hx21 := bt_at a0 a1; replace p21 := eq_true p21; replace q21 := eq_true q21) | ((with_reducible refine gate_callee (f := 62) rfl ?_); refine goesL_ (some 98) rfl rfl Try.func62 (by kernel_rfl) rfl #[.int .i64 (wrap64 (bt a0 a1)), .string (a0.extract (t141 : Int).toNat ((wrap64 (t141 + t140)) : Int).toNat)] rfl (by (try simp only [List.map_toArray, List.map_cons, List.map_nil]); first | done | rfl | (simp only [List.length_drop, List.length_take]; rfl)) ?_; (with_reducible refine (transhumanceref03_tagged.calls (wrap64 (bt a0 a1)) (a0.extract (t141 : Int).toNat ((wrap64 (t141 + t140)) : Int).toNat) t158 _ A22.out).mono ?_); rintro e w28 ⟨rfl, hb⟩; refine ⟨_, rfl, ?_⟩; have n0_ := Aside0.mk (below_step (by repeat (first | (with_reducible first | exact HB.out | apply below_alloc | apply pw_below_drewN | apply below_drew1) | exact HB.out)) hb); clear HB; have HB := n0_; clear n0_; (try clear hb); (try clear hb2); (try clear hk); (try clear hi)) | ((with_reducible refine gate_callee (f := 22) rfl ?_); refine goesL_ (some 99) rfl rfl Try.func22 (by kernel_rfl) rfl #[.string t158] rfl (by (try simp only [List.map_toArray, List.map_cons, List.map_nil]); first | done | rfl | (simp only [List.length_drop, List.length_take]; rfl)) ?_; (with_reducible refine (transhumanceref02_Of.calls kj2 t158 t159 _ A23.out).mono ?_); rintro e w' ⟨rfl, ⟨nd, rfl⟩⟩; refine ⟨_, rfl, ?_⟩) | ((with_reducible refine gate_callee (f := 61) rfl ?_); refine goesL_ (some 102) rfl rfl Try.func61 (by kernel_rfl) rfl #[.int .i64 a1, .int .i64 30] rfl (by (try simp only [List.map_toArray, List.map_cons, List.map_nil]); first | done | rfl | (simp only [List.length_drop, List.length_take]; rfl)) ?_; (with_reducible refine (transhumanceref03_bad.calls a1 30 t160 t161 t162 t163 _ A27.out).mono ?_); rintro e w' ⟨rfl, ⟨nd, rfl⟩⟩; refine ⟨_, rfl, ?_⟩))
                            refine bodyPost_ret (results_list (rs := [.tmp 4, .tmp 5, .tmp 6, .tmp 7]) rfl (by simp) (.tmp (.tmp (.tmp (.tmp .nil))))) rfl ?_
                            exact ⟨by first | rfl | (simp [errW_none, errW_some] <;> rfl) | (simp [*, errW_none, errW_some] <;> rfl), by repeat (first | (with_reducible first | exact HB.out | apply below_alloc | apply pw_below_drewN | apply below_drew1) | exact HB.out)⟩
                        · rw [if_neg c20] at H
                          exact absurd H (by simp)
                      · rw [if_neg c19] at H
                        exact absurd H (by simp)
                    · rw [if_neg c17] at H
                      exact absurd H (by simp)
                  · rw [if_neg c16] at H
                    exact absurd H (by simp)
                · rw [if_neg c15] at H
                  exact absurd H (by simp)
          · rw [if_neg c10] at H
            have c10b0 : (t142 == 0) = false := beq_eq_false_iff_ne.mpr c10
            have c10b1 : (t142 != 0) = true := bne_iff_ne.mpr c10
            replace H := Option.bind_eq_some_iff.mp H
            obtain ⟨⟨t143, t144, t145, t146⟩, A290, H⟩ := H
            replace H : (some (t143, t144, t145, t146)) = some (r1, r2, r3, r4) := H
            have A29 := Aside0.mk A290
            clear A290
            simp only [Option.some.injEq, Prod.mk.injEq] at H
            obtain ⟨rfl, rfl, rfl, rfl⟩ := H
            go_wp2_with (first | ((with_reducible refine gate_callee (f := 58) rfl ?_); refine goesL_ (some 43) rfl rfl Try.func58 (by kernel_rfl) rfl #[.string a0, .int .i64 (wrap64 (a1 + 1))] rfl (by (try simp only [List.map_toArray, List.map_cons, List.map_nil]); first | done | rfl | (simp only [List.length_drop, List.length_take]; rfl)) ?_; (with_reducible refine (transhumanceref01_Get.calls kj2 a0 (wrap64 (a1 + 1)) t140 t141 t142 _ A9.out).mono ?_); rintro e w' ⟨rfl, ⟨nd, rfl⟩⟩; refine ⟨_, rfl, ?_⟩) | ((with_reducible refine gate_callee (f := 61) rfl ?_); refine goesL_ (some 51) rfl rfl Try.func61 (by kernel_rfl) rfl #[.int .i64 a1, .int .i64 t142] rfl (by (try simp only [List.map_toArray, List.map_cons, List.map_nil]); first | done | rfl | (simp only [List.length_drop, List.length_take]; rfl)) ?_; (with_reducible refine (transhumanceref03_bad.calls a1 t142 t143 t144 t145 t146 _ A29.out).mono ?_); rintro e w' ⟨rfl, ⟨nd, rfl⟩⟩; refine ⟨_, rfl, ?_⟩))
            refine bodyPost_ret (results_list (rs := [.tmp 4, .tmp 5, .tmp 6, .tmp 7]) rfl (by simp) (.tmp (.tmp (.tmp (.tmp .nil))))) rfl ?_
            exact ⟨by first | rfl | (simp [errW_none, errW_some] <;> rfl) | (simp [*, errW_none, errW_some] <;> rfl), by repeat (first | (with_reducible first | exact HB.out | apply below_alloc | apply pw_below_drewN | apply below_drew1) | exact HB.out)⟩

/-! ### transhumanceref03_All: function 45 -/
def transhumanceref03_All.l0 : Nat → ByteArray → List (S65) → Int → Option ((List (S65)) × Int × Int)
  | 0, _, _, _ => none
  | k + 1, x0, x5, x6 => if x6 < (x0.size : Int) then ((transhumanceref03_Get.f k x0 x6).bind fun bt167 => (if bt167.2.2.2 = 0 then (if x5.length < 5864062014805 then (transhumanceref03_All.l0 k x0 (x5 ++ [(⟨bt167.1, bt167.2.1⟩ : S65)]) bt167.2.2.1) else (none)) else (some (([] : List (S65)), x6, bt167.2.2.2)))) else (some (x5, (x0.size : Int), 0))
def transhumanceref03_All.f (k : Nat) (a0 : ByteArray) : Option ((List (S65)) × Int × Int) := transhumanceref03_All.l0 k a0 (([] : List (S65))) 0
theorem transhumanceref03_All.mono_l : ∀ k, (∀ y0 y1 y2, LeO (transhumanceref03_All.l0 k y0 y1 y2) (transhumanceref03_All.l0 (k + 1) y0 y1 y2))
  | 0 => fun _ _ _ r h => by simp [transhumanceref03_All.l0] at h
  | k + 1 => by
    have ih0 := transhumanceref03_All.mono_l k
    · intro y0 y1 y2
      unfold transhumanceref03_All.l0
      repeat' first
      | (with_reducible exact ih0 _ _ _)
      | (with_reducible exact transhumanceref03_Get.mono _ _ _)
      | (with_reducible exact LeO.refl _)
      | (with_reducible exact LeO.none _)
      | (with_reducible refine LeO.ite ?_ ?_)
      | (with_reducible refine LeO.bind ?_ (fun _ => ?_))
      | exact ih0 _ _ _
      | exact transhumanceref03_Get.mono _ _ _
      | exact LeO.none _
      | refine LeO.ite ?_ ?_
      | refine LeO.bind ?_ (fun _ => ?_)
theorem transhumanceref03_All.mono : ∀ a0 k, LeO (transhumanceref03_All.f k a0) (transhumanceref03_All.f (k + 1) a0) := by
  intro a0 k
  have ih0 := transhumanceref03_All.mono_l k
  unfold transhumanceref03_All.f
  repeat' first
      | (with_reducible exact ih0 _ _ _)
      | (with_reducible exact transhumanceref03_Get.mono _ _ _)
      | (with_reducible exact LeO.refl _)
      | (with_reducible exact LeO.none _)
      | (with_reducible refine LeO.ite ?_ ?_)
      | (with_reducible refine LeO.bind ?_ (fun _ => ?_))
      | exact ih0 _ _ _
      | exact transhumanceref03_Get.mono _ _ _
      | exact LeO.none _
      | refine LeO.ite ?_ ?_
      | refine LeO.bind ?_ (fun _ => ?_)
set_option maxHeartbeats 8000000 in
set_option maxRecDepth 100000 in
theorem transhumanceref03_All.calls (k : Nat) (a0 : ByteArray) (r1 : List (S65)) (r2 : Int) (r3 : Int) (w : World) (h : transhumanceref03_All.f k a0 = some (r1, r2, r3)) :
    Calls Try.prog 45 #[.string a0] w fun e w' => ∃ v0_ : Value, e = .returned (.tuple #[v0_, .int .i64 r2, .int .i64 r3]) ∧ Kd.R k65 65 w' w.heap.size (fun _ => True) v0_ r1 ∧ Below w.heap.size w w' := by
  have hu65 := Try.underlying65
  have HB := Aside0.mk (Below.refl w.heap.size w)
  have H : (transhumanceref03_All.l0 k a0 (([] : List (S65))) 0) = some (r1, r2, r3) := h
  clear h
  obtain ⟨y164, hy164⟩ : ∃ y_ : List (S65), y_ = (([] : List (S65))) := ⟨_, rfl⟩
  replace H : (transhumanceref03_All.l0 k a0 y164 0) = some (r1, r2, r3) := by first | (rw [hy164]; with_reducible exact H) | (have H2_ := (Option.bind_some _ _).symm.trans H; rw [hy164]; with_reducible exact H2_) | (have H2_ := (Option.bind_some _ _).symm.trans H; with_reducible exact H2_) | with_reducible exact H | (rw [hy164]; exact H) | exact H
  have Ny164 := Aside0.mk hy164
  clear hy164
  have H' := Aside0.mk H
  clear H
  go_enter Try.func45, Try.ntmps45
  go_wp2_with (first | ((with_reducible refine gate_dst (N := 11) rfl ?_); refine Kd.R_lit k65 _ 65 ?hg (N := 11) ?hd (xs := ([] : List (S65))) (inner := []) (ok := fun _ => True) (okp := fun _ => True) ?hr ?hp (fun _ hk => hk) trivial (Below.refl _ _) (Nat.le_refl _) (by simp) ?_; (case hd => rfl); (case hg => rfl); (case hr => first | (go_simp; done) | (go_simp; rfl)); (case hp => exact (Reps.none _ _)); intro v165 w2 ho3 hb hg_ hnew_; clear hg_ hnew_; (first | rw [← Ny164.out] at ho3 | (simp only [Int.reduceToNat] at ho3; rw [← Ny164.out] at ho3)); have n0_ := Aside0.mk (Kd.R_lower ho3 (below_size (by repeat (first | (with_reducible first | exact HB.out | apply below_alloc | apply pw_below_drewN | apply below_drew1) | exact HB.out)))); have n1_ := Aside0.mk (below_step (by repeat (first | (with_reducible first | exact HB.out | apply below_alloc | apply pw_below_drewN | apply below_drew1) | exact HB.out)) hb); clear HB; have HO166 := n0_; have HB := n1_; clear n0_ n1_; clear hb ho3))
  go_loopg [5, 6] k (fun kq v5 v6 w' => ∃ (x5_1 : List (S65)) (x6_1 : Int), v6 = .int .i64 x6_1 ∧ Aside0 (transhumanceref03_All.l0 kq a0 x5_1 x6_1 = some (r1, r2, r3)) ∧ Aside0 (kq ≤ k) ∧ Aside0 (Kd.R k65 65 w' w.heap.size (fun _ => True) v5 x5_1) ∧ Aside0 (Below w.heap.size w w'))
  case atStart => exact ⟨(y164), (0), (by first | rfl | (simp; done) | (simp [*]; done)), H', ⟨Nat.le_refl _⟩, ⟨by (with_reducible repeat (first | apply Kd.R_alloc | apply Kd.R_drewN | apply Kd.R_drew)); exact HO166.out⟩, ⟨by repeat (first | (with_reducible first | exact HB.out | apply below_alloc | apply pw_below_drewN | apply below_drew1) | exact HB.out)⟩⟩
  case round =>
    clear H'
    try clear p2
    obtain ⟨x5_1, x6_1, rfl, HA, HK1, HO_5, HB⟩ := hrel
    cases gk with
    | zero => exact absurd HA.out (by simp [transhumanceref03_All.l0])
    | succ k1 =>
      have H := HA.out
      clear HA
      simp only [transhumanceref03_All.l0] at H
      by_cases c4 : x6_1 < (a0.size : Int)
      · rw [if_pos c4] at H
        have c4b0 : decide (x6_1 < (a0.size : Int)) = true := decide_eq_true c4
        clear c4
        replace H := Option.bind_eq_some_iff.mp H
        obtain ⟨⟨t167, t168, t169, t170⟩, A50, H⟩ := H
        replace H : (if t170 = 0 then (if x5_1.length < 5864062014805 then (transhumanceref03_All.l0 k1 a0 (x5_1 ++ [(⟨t167, t168⟩ : S65)]) t169) else (none)) else (some (([] : List (S65)), x6_1, t170))) = some (r1, r2, r3) := H
        have A5 := Aside0.mk A50
        clear A50
        by_cases c6 : t170 = 0
        · rw [if_pos c6] at H
          have c6b0 : (t170 == 0) = true := beq_iff_eq.mpr c6
          have c6b1 : (t170 != 0) = false := bne_eq_false_iff_eq.mpr c6
          clear c6
          by_cases c7 : x5_1.length < 5864062014805
          · rw [if_pos c7] at H
            have LMc7 := Aside0.mk c7
            clear c7
            obtain ⟨y171, hy171⟩ : ∃ y_ : List (S65), y_ = (x5_1 ++ [(⟨t167, t168⟩ : S65)]) := ⟨_, rfl⟩
            replace H : (transhumanceref03_All.l0 k1 a0 y171 t169) = some (r1, r2, r3) := by first | (rw [hy171]; with_reducible exact H) | (have H2_ := (Option.bind_some _ _).symm.trans H; rw [hy171]; with_reducible exact H2_) | (have H2_ := (Option.bind_some _ _).symm.trans H; with_reducible exact H2_) | with_reducible exact H | (rw [hy171]; exact H) | exact H
            have Ny171 := Aside0.mk hy171
            clear hy171
            have H' := Aside0.mk H
            clear H
            go_wp2_with (first | ((with_reducible refine gate_callee (f := 43) rfl ?_); refine goesL_ (some 19) rfl rfl Try.func43 (by kernel_rfl) rfl #[.string a0, .int .i64 x6_1] rfl (by (try simp only [List.map_toArray, List.map_cons, List.map_nil]); first | done | rfl | (simp only [List.length_drop, List.length_take]; rfl)) ?_; (with_reducible refine (transhumanceref03_Get.calls k1 a0 x6_1 t167 t168 t169 t170 _ A5.out).mono ?_); rintro e w8 ⟨rfl, hb⟩; refine ⟨_, rfl, ?_⟩; have n0_ := Aside0.mk (Kd.R_below (by (with_reducible repeat (first | apply Kd.R_alloc | apply Kd.R_drewN | apply Kd.R_drew)); exact HO_5.out) hb); have n1_ := Aside0.mk (below_step (by repeat (first | (with_reducible first | exact HB.out | apply below_alloc | apply pw_below_drewN | apply below_drew1) | exact HB.out)) hb); clear HO_5; clear HB; have HO_5 := n0_; have HB := n1_; clear n0_ n1_; (try clear hb); (try clear hb2); (try clear hk); (try clear hi)) | ((with_reducible refine gate_builtin (b := .append) (xs := #[.tmp 28, .tmp 32]) rfl ?_); at_builtin; refine Kd.R_append k65 (w0 := w) w.heap.size rfl (.tmp 28) (.tmp 32) 57 65 (.agg #[(.int .i64 0), (.string ⟨#[]⟩)]) 24 rfl Try.underlying57 info65 rfl (by decide) (by omega) u5 x5_1 (⟨t167, t168⟩ : S65) [.int .i64 t167, .string t168] (fun _ => True) (fun _ => False) rfl rfl ?aP (fun _ hk => hk.elim) ?aF ?aO ?aB ?aS ?aL ?_; (case aP => exact k65_mkM _ _ _ (⟨t167, t168⟩ : S65)); (case aB => exact (by repeat (first | (with_reducible first | exact HB.out | apply below_alloc | apply pw_below_drewN | apply below_drew1) | exact HB.out))); (case aF => exact (fun _ _ => trivial)); (case aO => exact (by (with_reducible repeat (first | apply Kd.R_alloc | apply Kd.R_drewN | apply Kd.R_drew)); exact HO_5.out)); (case aS => exact (below_size (by repeat (first | (with_reducible first | exact HB.out | apply below_alloc | apply pw_below_drewN | apply below_drew1) | exact HB.out)))); (case aL => have := LMc7.out; omega); intro v172 w9 ho hb hg hat; rw [← Ny171.out] at ho; have n0_ := Aside0.mk (hb); have n1_ := Aside0.mk (ho); clear HB; clear HO_5; have HB := n0_; have HO173 := n1_; clear n0_ n1_; clear ho hb hg hat))
            go_roundg k1
            case measure => have := HK1.out; omega
            case rel => exact ⟨(y171), (t169), (by first | rfl | (simp; done) | (simp [*]; done)), H', ⟨by have := HK1.out; omega⟩, ⟨by (with_reducible repeat (first | apply Kd.R_alloc | apply Kd.R_drewN | apply Kd.R_drew)); exact HO173.out⟩, ⟨by repeat (first | (with_reducible first | exact HB.out | apply below_alloc | apply pw_below_drewN | apply below_drew1) | exact HB.out)⟩⟩
          · rw [if_neg c7] at H
            exact absurd H (by simp)
        · rw [if_neg c6] at H
          have c6b0 : (t170 == 0) = false := beq_eq_false_iff_ne.mpr c6
          have c6b1 : (t170 != 0) = true := bne_iff_ne.mpr c6
          simp only [Option.some.injEq, Prod.mk.injEq] at H
          obtain ⟨rfl, rfl, rfl⟩ := H
          go_wp2_with (first | ((with_reducible refine gate_callee (f := 43) rfl ?_); refine goesL_ (some 19) rfl rfl Try.func43 (by kernel_rfl) rfl #[.string a0, .int .i64 x6_1] rfl (by (try simp only [List.map_toArray, List.map_cons, List.map_nil]); first | done | rfl | (simp only [List.length_drop, List.length_take]; rfl)) ?_; (with_reducible refine (transhumanceref03_Get.calls k1 a0 x6_1 t167 t168 t169 t170 _ A5.out).mono ?_); rintro e w10 ⟨rfl, hb⟩; refine ⟨_, rfl, ?_⟩; have n0_ := Aside0.mk (Kd.R_below (by (with_reducible repeat (first | apply Kd.R_alloc | apply Kd.R_drewN | apply Kd.R_drew)); exact HO_5.out) hb); have n1_ := Aside0.mk (below_step (by repeat (first | (with_reducible first | exact HB.out | apply below_alloc | apply pw_below_drewN | apply below_drew1) | exact HB.out)) hb); clear HO_5; clear HB; have HO_5 := n0_; have HB := n1_; clear n0_ n1_; (try clear hb); (try clear hb2); (try clear hk); (try clear hi)))
          go_ret3
          exact ⟨_, by first | rfl | (simp [errW_none, errW_some] <;> rfl) | (simp [*, errW_none, errW_some] <;> rfl), by first | exact Kd.R_nil _ _ _ _ _ | exact Kd.N_nil _ _ _ _ _ | exact Kd.V_nil _ _ _ _ _ | exact Kd.Q_nil _ _ _ _ _ | exact Kd.S_nil _ _ _ _ _, by repeat (first | (with_reducible first | exact HB.out | apply below_alloc | apply pw_below_drewN | apply below_drew1) | exact HB.out)⟩
      · rw [if_neg c4] at H
        have c4b0 : decide (x6_1 < (a0.size : Int)) = false := decide_eq_false c4
        clear c4
        simp only [Option.some.injEq, Prod.mk.injEq] at H
        obtain ⟨rfl, rfl, rfl⟩ := H
        go_wp2
        go_ret3
        exact ⟨_, by first | rfl | (simp [errW_none, errW_some] <;> rfl) | (simp [*, errW_none, errW_some] <;> rfl), by (with_reducible repeat (first | apply Kd.R_alloc | apply Kd.R_drewN | apply Kd.R_drew)); exact HO_5.out, by repeat (first | (with_reducible first | exact HB.out | apply below_alloc | apply pw_below_drewN | apply below_drew1) | exact HB.out)⟩

end Go.Proofs.Ytaeocbbapnfcaaa.PSect
