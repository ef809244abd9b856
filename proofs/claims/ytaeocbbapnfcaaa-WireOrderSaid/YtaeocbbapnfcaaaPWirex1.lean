/- Functions of the program, each with the machine's call that does what it says; laid by a program of this session over the kit's printer. -/
import Derived.Test.YtaeocbbapnfcaaaPWirex0
namespace Go.Proofs.Ytaeocbbapnfcaaa.PWire
open Go.RowKit Go.Proofs.YtaeocbbapnfcaaaW.PrintWords Go.Proofs.YtaeocbbapnfcaaaW.PrintLast Go.Proofs.YtaeocbbapnfcaaaW.PrintMore
attribute [local go_sem] max2_int min2_int max_two min_two max_three min_three max_four min_four   -- for this text's walks alone
set_option linter.unusedVariables false
set_option linter.unusedSimpArgs false

/-! ### wire_Put: function 26: given by this session's own walk -/
def wire_Put.f (a0 : Int) : Option ByteArray := some (PutWalk.putS a0)
theorem wire_Put.calls (a0 : Int) (r : ByteArray) (w : World) (h : wire_Put.f a0 = some r) :
    Calls Try.prog 26 #[.int .i64 a0] w fun e w' => e = .returned (.string r) ∧ Below w.heap.size w w' := by
  obtain rfl := Option.some.inj h
  exact PutWalk.put_any a0 w


/-! ### wire_PutFixed: function 27: given by this session's own walk -/
def wire_PutFixed.f (a0 : Int) : Option ByteArray := some (FixedWalk.putF a0)
theorem wire_PutFixed.calls (a0 : Int) (r : ByteArray) (w : World) (h : wire_PutFixed.f a0 = some r) :
    Calls Try.prog 27 #[.int .i64 a0] w fun e w' => e = .returned (.string r) ∧ Below w.heap.size w w' := by
  obtain rfl := Option.some.inj h
  exact FixedWalk.fixed_any a0 w


/-! ### wire_place: function 54 -/
def wire_place.f (a0 : ByteArray) (a1 : Int) : Option (Bool) := if a1 ≥ 0 then (some (decide (a1 ≤ (a0.size : Int)))) else (some false)
set_option maxHeartbeats 8000000 in
set_option maxRecDepth 100000 in
theorem wire_place.calls (a0 : ByteArray) (a1 : Int) (r : Bool) (w : World) (h : wire_place.f a0 a1 = some r) :
    Calls Try.prog 54 #[.string a0, .int .i64 a1] w fun e w' => e = .returned (.bool r) ∧ Drawn0 w w' := by
  have H : (if a1 ≥ 0 then (some (decide (a1 ≤ (a0.size : Int)))) else (some false)) = some r := h
  clear h
  by_cases c3 : a1 ≥ 0
  · rw [if_pos c3] at H
    have c3b0 : decide (0 ≤ a1) = true := decide_eq_true c3
    clear c3
    obtain rfl := Option.some.inj H
    go_enter Try.func54, Try.ntmps54
    go_wp2
    go_ret
    exact ⟨by first | rfl | (simp; done) | (simp [*]; done), by repeat (first | exact Drawn0.refl _ | apply Drawn0.step)⟩
  · rw [if_neg c3] at H
    have c3b0 : decide (0 ≤ a1) = false := decide_eq_false c3
    clear c3
    obtain rfl := Option.some.inj H
    go_enter Try.func54, Try.ntmps54
    go_wp2
    go_ret
    exact ⟨by first | rfl | (simp; done) | (simp [*]; done), by repeat (first | exact Drawn0.refl _ | apply Drawn0.step)⟩

/-! ### wire_Get: function 28: given by this session's own walk -/
def wire_Get.f (a0 : ByteArray) (a1 : Int) : Option (Int × Int × Int) := if a0.size ≤ 140737488351232 then some (GetWalk.getI a0 a1) else none
theorem wire_Get.calls (a0 : ByteArray) (a1 : Int) (r1 : Int) (r2 : Int) (r3 : Int) (w : World) (h : wire_Get.f a0 a1 = some (r1, r2, r3)) :
    Calls Try.prog 28 #[.string a0, .int .i64 a1] w fun e w' => e = .returned (.tuple #[.int .i64 r1, .int .i64 r2, .int .i64 r3]) ∧ Drawn0 w w' := by
  unfold wire_Get.f at h
  split at h
  · rename_i hs
    have h := Option.some.inj h
    refine (GetWalk.get_any a0 a1 w hs).mono ?_
    rintro e w' ⟨rfl, rfl⟩
    rw [h]
    exact ⟨rfl, Drawn0.refl _⟩
  · exact absurd h (by simp)


/-! ### wire_GetFixed: function 29 -/
def wire_GetFixed.l0 : Nat → ByteArray → Int → Int → Int → Option (Int × Int × Int)
  | 0, _, _, _, _ => none
  | k + 1, x0, x1, x7, x22 => if x22 < 4 then (if 0 ≤ (wrap64 (x1 + x22)) then (if (wrap64 (x1 + x22)) < (x0.size : Int) then (if 0 ≤ (wrap64 (8 * x22)) then (wire_GetFixed.l0 k x0 x1 (Go.bits .or .i64 x7 (shl .i64 (wrap64 (bt x0 (wrap64 (x1 + x22)))) (wrap64 (8 * x22)))) (wrap64 (x22 + 1))) else (none)) else (none)) else (none)) else (some (x7, wrap64 (x1 + 4), 0))
def wire_GetFixed.f (k : Nat) (a0 : ByteArray) (a1 : Int) : Option (Int × Int × Int) := (wire_place.f a0 a1).bind fun t101 => (if t101 = true then (if (wrap64 ((a0.size : Int) - a1)) < 4 then (some (0, a1, 10)) else (wire_GetFixed.l0 k a0 a1 0 0)) else (some (0, a1, 1)))
theorem wire_GetFixed.mono_l : ∀ k, (∀ y0 y1 y2 y3, LeO (wire_GetFixed.l0 k y0 y1 y2 y3) (wire_GetFixed.l0 (k + 1) y0 y1 y2 y3))
  | 0 => fun _ _ _ _ r h => by simp [wire_GetFixed.l0] at h
  | k + 1 => by
    have ih0 := wire_GetFixed.mono_l k
    · intro y0 y1 y2 y3
      unfold wire_GetFixed.l0
      repeat' first
      | (with_reducible exact ih0 _ _ _ _)
      | (with_reducible exact LeO.refl _)
      | (with_reducible exact LeO.none _)
      | (with_reducible refine LeO.ite ?_ ?_)
      | (with_reducible refine LeO.bind ?_ (fun _ => ?_))
      | exact ih0 _ _ _ _
      | exact LeO.none _
      | refine LeO.ite ?_ ?_
      | refine LeO.bind ?_ (fun _ => ?_)
theorem wire_GetFixed.mono : ∀ a0 a1 k, LeO (wire_GetFixed.f k a0 a1) (wire_GetFixed.f (k + 1) a0 a1) := by
  intro a0 a1 k
  have ih0 := wire_GetFixed.mono_l k
  unfold wire_GetFixed.f
  repeat' first
      | (with_reducible exact ih0 _ _ _ _)
      | (with_reducible exact LeO.refl _)
      | (with_reducible exact LeO.none _)
      | (with_reducible refine LeO.ite ?_ ?_)
      | (with_reducible refine LeO.bind ?_ (fun _ => ?_))
      | exact ih0 _ _ _ _
      | exact LeO.none _
      | refine LeO.ite ?_ ?_
      | refine LeO.bind ?_ (fun _ => ?_)
set_option maxHeartbeats 8000000 in
set_option maxRecDepth 100000 in
theorem wire_GetFixed.calls (k : Nat) (a0 : ByteArray) (a1 : Int) (r1 : Int) (r2 : Int) (r3 : Int) (w : World) (h : wire_GetFixed.f k a0 a1 = some (r1, r2, r3)) :
    Calls Try.prog 29 #[.string a0, .int .i64 a1] w fun e w' => e = .returned (.tuple #[.int .i64 r1, .int .i64 r2, .int .i64 r3]) ∧ Drawn0 w w' := by
  have H : ((wire_place.f a0 a1).bind fun t101 => (if t101 = true then (if (wrap64 ((a0.size : Int) - a1)) < 4 then (some (0, a1, 10)) else (wire_GetFixed.l0 k a0 a1 0 0)) else (some (0, a1, 1)))) = some (r1, r2, r3) := h
  clear h
  replace H := Option.bind_eq_some_iff.mp H
  obtain ⟨t101, A30, H⟩ := H
  replace H : (if t101 = true then (if (wrap64 ((a0.size : Int) - a1)) < 4 then (some (0, a1, 10)) else (wire_GetFixed.l0 k a0 a1 0 0)) else (some (0, a1, 1))) = some (r1, r2, r3) := H
  have A3 := Aside0.mk A30
  clear A30
  by_cases c4 : t101 = true
  · subst c4
    have H1 : (if (wrap64 ((a0.size : Int) - a1)) < 4 then (some (0, a1, 10)) else (wire_GetFixed.l0 k a0 a1 0 0)) = some (r1, r2, r3) := by rw [if_pos rfl] at H; exact H
    clear H
    have H := H1
    clear H1
    by_cases c5 : (wrap64 ((a0.size : Int) - a1)) < 4
    · rw [if_pos c5] at H
      have c5b0 : decide ((wrap64 ((a0.size : Int) - a1)) < 4) = true := decide_eq_true c5
      clear c5
      simp only [Option.some.injEq, Prod.mk.injEq] at H
      obtain ⟨rfl, rfl, rfl⟩ := H
      go_enter Try.func29, Try.ntmps29
      go_wp2_with (first | ((with_reducible refine gate_callee (f := 54) rfl ?_); refine goesL_ (some 12) rfl rfl Try.func54 (by kernel_rfl) rfl #[.string a0, .int .i64 a1] rfl (by (try simp only [List.map_toArray, List.map_cons, List.map_nil]); first | done | rfl | (simp only [List.length_drop, List.length_take]; rfl)) ?_; (with_reducible refine (wire_place.calls a0 a1 true _ A3.out).mono ?_); rintro e w' ⟨rfl, ⟨nd, rfl⟩⟩; refine ⟨_, rfl, ?_⟩))
      go_ret3
      exact ⟨by first | rfl | (simp; done) | (simp [*]; done), by repeat (first | exact Drawn0.refl _ | apply Drawn0.step)⟩
    · rw [if_neg c5] at H
      have c5b0 : decide ((wrap64 ((a0.size : Int) - a1)) < 4) = false := decide_eq_false c5
      clear c5
      have H' := Aside0.mk H
      clear H
      go_enter Try.func29, Try.ntmps29
      go_wp2_with (first | ((with_reducible refine gate_callee (f := 54) rfl ?_); refine goesL_ (some 12) rfl rfl Try.func54 (by kernel_rfl) rfl #[.string a0, .int .i64 a1] rfl (by (try simp only [List.map_toArray, List.map_cons, List.map_nil]); first | done | rfl | (simp only [List.length_drop, List.length_take]; rfl)) ?_; (with_reducible refine (wire_place.calls a0 a1 true _ A3.out).mono ?_); rintro e w' ⟨rfl, ⟨nd, rfl⟩⟩; refine ⟨_, rfl, ?_⟩))
      go_loopg [7, 22] k (fun kq v7 v22 w' => ∃ (x7_1 : Int) (x22_1 : Int), v7 = .int .i64 x7_1 ∧ v22 = .int .i64 x22_1 ∧ Aside0 (wire_GetFixed.l0 kq a0 a1 x7_1 x22_1 = some (r1, r2, r3)) ∧ Aside0 (kq ≤ k) ∧ Drawn0 w w')
      case atStart => exact ⟨(0), (0), (by first | rfl | (simp; done) | (simp [*]; done)), (by first | rfl | (simp; done) | (simp [*]; done)), H', ⟨Nat.le_refl _⟩, by repeat (first | exact Drawn0.refl _ | apply Drawn0.step)⟩
      case round =>
        clear H'
        try clear c2
        try clear p2
        try clear c4
        try clear c5
        try clear c5b0
        obtain ⟨x7_1, x22_1, rfl, rfl, HA, HK1, ⟨m1, rfl⟩⟩ := hrel
        cases gk with
        | zero => exact absurd HA.out (by simp [wire_GetFixed.l0])
        | succ k1 =>
          have H := HA.out
          clear HA
          simp only [wire_GetFixed.l0] at H
          by_cases c6 : x22_1 < 4
          · rw [if_pos c6] at H
            have c6b0 : decide (x22_1 < 4) = true := decide_eq_true c6
            clear c6
            obtain ⟨ji7, hji7⟩ : ∃ j_ : Int, (wrap64 (a1 + x22_1)) = j_ := ⟨_, rfl⟩
            replace H : (if 0 ≤ (ji7) then (if (ji7) < (a0.size : Int) then (if 0 ≤ (wrap64 (8 * x22_1)) then (wire_GetFixed.l0 k1 a0 a1 (Go.bits .or .i64 x7_1 (shl .i64 (wrap64 (bt a0 (ji7))) (wrap64 (8 * x22_1)))) (wrap64 (x22_1 + 1))) else (none)) else (none)) else (none)) = some (r1, r2, r3) := by first | (rw [hji7] at H; exact H) | (simp only [hji7] at H ⊢; exact H)
            have hji7w : (IntKind.i64.wrap (a1 + x22_1)) = ji7 := (i64_w _).trans hji7
            by_cases c8 : 0 ≤ (ji7)
            · rw [if_pos c8] at H
              have c8b0 : decide (0 ≤ (ji7)) = true := decide_eq_true c8
              clear c8
              by_cases c9 : (ji7) < (a0.size : Int)
              · rw [if_pos c9] at H
                have c9b0 : decide ((ji7) < (a0.size : Int)) = true := decide_eq_true c9
                clear c9
                obtain ⟨ji11, hji11⟩ : ∃ j_ : Int, (wrap64 (8 * x22_1)) = j_ := ⟨_, rfl⟩
                replace H : (if 0 ≤ (ji11) then (wire_GetFixed.l0 k1 a0 a1 (Go.bits .or .i64 x7_1 (shl .i64 (wrap64 (bt a0 (ji7))) (ji11))) (wrap64 (x22_1 + 1))) else (none)) = some (r1, r2, r3) := by first | (rw [hji11] at H; exact H) | (simp only [hji11] at H ⊢; exact H)
                have hji11w : (IntKind.i64.wrap (8 * x22_1)) = ji11 := (i64_w _).trans hji11
                by_cases c12 : 0 ≤ (ji11)
                · rw [if_pos c12] at H
                  have c12b0 := eq_true c12
                  have c12b1 : decide (0 ≤ (ji11)) = true := decide_eq_true c12
                  clear c12
                  obtain ⟨ji13, hji13⟩ : ∃ j_ : Int, (shl .i64 (wrap64 (bt a0 (ji7))) (ji11)) = j_ := ⟨_, rfl⟩
                  replace H : (wire_GetFixed.l0 k1 a0 a1 (Go.bits .or .i64 x7_1 (ji13)) (wrap64 (x22_1 + 1))) = some (r1, r2, r3) := by first | (rw [hji13] at H; exact H) | (simp only [hji13] at H ⊢; exact H)
                  have hji13_ : (IntKind.i64.wrap ((wrap64 (bt a0 (ji7))) * 2 ^ min (ji11).toNat 64)) = ji13 := hji13
                  have hji13z : (ji11) ≤ 64 → (IntKind.i64.wrap ((wrap64 (bt a0 (ji7))) * 2 ^ (ji11).toNat)) = ji13 := shl_small hji13
                  have hji13y : (wrap64 ((wrap64 (bt a0 (ji7))) * 2 ^ min (ji11).toNat 64)) = ji13 := (i64_w _).symm.trans hji13_
                  have hji13x : (ji11) ≤ 64 → (wrap64 ((wrap64 (bt a0 (ji7))) * 2 ^ (ji11).toNat)) = ji13 := fun h_ => (i64_w _).symm.trans (hji13z h_)
                  have H' := Aside0.mk H
                  clear H
                  have p10 : 0 ≤ ((ji7) : Int) := of_decide_eq_true (by first | (with_reducible assumption) | assumption)
                  have q10 : (ji7) < (a0.size : Int) := of_decide_eq_true (by first | (with_reducible assumption) | assumption)
                  have hx10 := bt_at a0 (ji7)
                  replace p10 := eq_true p10
                  replace q10 := eq_true q10
                  go_wp2
                  go_roundg k1
                  case measure => have := HK1.out; omega
                  case rel => exact ⟨(Go.bits .or .i64 x7_1 (ji13)), (wrap64 (x22_1 + 1)), (by first | rfl | (simp; done) | (simp only [← hji13] <;> (first | rfl | simp)) | (simp [*]; done)), (by first | rfl | (simp; done) | (simp [*]; done)), H', ⟨by have := HK1.out; omega⟩, by repeat (first | exact Drawn0.refl _ | apply Drawn0.step)⟩
                · rw [if_neg c12] at H
                  exact absurd H (by simp)
              · rw [if_neg c9] at H
                exact absurd H (by simp)
            · rw [if_neg c8] at H
              exact absurd H (by simp)
          · rw [if_neg c6] at H
            have c6b0 : decide (x22_1 < 4) = false := decide_eq_false c6
            clear c6
            simp only [Option.some.injEq, Prod.mk.injEq] at H
            obtain ⟨rfl, rfl, rfl⟩ := H
            go_wp2
            go_ret3
            exact ⟨by first | rfl | (simp; done) | (simp [*]; done), by repeat (first | exact Drawn0.refl _ | apply Drawn0.step)⟩
  · replace c4 := Bool.eq_false_iff.mpr c4
    subst c4
    have H1 : (some (0, a1, 1)) = some (r1, r2, r3) := by rw [if_neg (show ¬ (false = true) by decide)] at H; exact H
    clear H
    have H := H1
    clear H1
    simp only [Option.some.injEq, Prod.mk.injEq] at H
    obtain ⟨rfl, rfl, rfl⟩ := H
    go_enter Try.func29, Try.ntmps29
    go_wp2_with (first | ((with_reducible refine gate_callee (f := 54) rfl ?_); refine goesL_ (some 12) rfl rfl Try.func54 (by kernel_rfl) rfl #[.string a0, .int .i64 a1] rfl (by (try simp only [List.map_toArray, List.map_cons, List.map_nil]); first | done | rfl | (simp only [List.length_drop, List.length_take]; rfl)) ?_; (with_reducible refine (wire_place.calls a0 a1 false _ A3.out).mono ?_); rintro e w' ⟨rfl, ⟨nd, rfl⟩⟩; refine ⟨_, rfl, ?_⟩))
    go_ret3
    exact ⟨by first | rfl | (simp; done) | (simp [*]; done), by repeat (first | exact Drawn0.refl _ | apply Drawn0.step)⟩

/-! ### wire_PutText: function 30 -/
def wire_PutText.f (a0 : ByteArray) : Option (ByteArray) := if (a0.size : Int) > 1048576 then (some (⟨#[]⟩ : ByteArray)) else ((wire_Put.f (a0.size : Int)).bind fun t102 => (if t102.size + a0.size ≤ 9223372036854775807 then (some (t102 ++ a0)) else (none)))
set_option maxHeartbeats 8000000 in
set_option maxRecDepth 100000 in
theorem wire_PutText.calls (a0 : ByteArray) (r : ByteArray) (w : World) (h : wire_PutText.f a0 = some r) :
    Calls Try.prog 30 #[.string a0] w fun e w' => e = .returned (.string r) ∧ Below w.heap.size w w' := by
  have HB := Aside0.mk (Below.refl w.heap.size w)
  have H : (if (a0.size : Int) > 1048576 then (some (⟨#[]⟩ : ByteArray)) else ((wire_Put.f (a0.size : Int)).bind fun t102 => (if t102.size + a0.size ≤ 9223372036854775807 then (some (t102 ++ a0)) else (none)))) = some r := h
  clear h
  by_cases c2 : (a0.size : Int) > 1048576
  · rw [if_pos c2] at H
    have c2b0 : decide (1048576 < (a0.size : Int)) = true := decide_eq_true c2
    have c2b1 : decide (1048576 < a0.size) = true := decide_eq_true (by omega)
    clear c2
    obtain rfl := Option.some.inj H
    go_enter Try.func30, Try.ntmps30
    go_wp2
    go_ret
    exact ⟨by first | rfl | (simp [errW_none, errW_some] <;> rfl) | (simp [*, errW_none, errW_some] <;> rfl), by repeat (first | (with_reducible first | exact HB.out | apply below_alloc | apply pw_below_drewN | apply below_drew1) | exact HB.out)⟩
  · rw [if_neg c2] at H
    have c2b0 : decide (1048576 < (a0.size : Int)) = false := decide_eq_false c2
    have c2b1 : decide (1048576 < a0.size) = false := decide_eq_false (by omega)
    clear c2
    replace H := Option.bind_eq_some_iff.mp H
    obtain ⟨t102, A30, H⟩ := H
    replace H : (if t102.size + a0.size ≤ 9223372036854775807 then (some (t102 ++ a0)) else (none)) = some r := H
    have A3 := Aside0.mk A30
    clear A30
    by_cases c4 : t102.size + a0.size ≤ 9223372036854775807
    · rw [if_pos c4] at H
      have c4b0 := eq_true c4
      have c4b1 : decide (t102.size + a0.size ≤ 9223372036854775807) = true := decide_eq_true c4
      try have c4b2 : (9223372036854775807 < t102.size + a0.size) = False := eq_false (Nat.not_lt.2 c4)
      obtain rfl := Option.some.inj H
      go_enter Try.func30, Try.ntmps30
      go_wp2_with (first | ((with_reducible refine gate_callee (f := 26) rfl ?_); refine goesL_ (some 8) rfl rfl Try.func26 (by kernel_rfl) rfl #[.int .i64 (a0.size : Int)] rfl (by (try simp only [List.map_toArray, List.map_cons, List.map_nil]); first | done | rfl | (simp only [List.length_drop, List.length_take]; rfl)) ?_; (with_reducible refine (wire_Put.calls (a0.size : Int) t102 _ A3.out).mono ?_); rintro e w5 ⟨rfl, hb⟩; refine ⟨_, rfl, ?_⟩; have n0_ := Aside0.mk (below_step (by repeat (first | (with_reducible first | exact HB.out | apply below_alloc | apply pw_below_drewN | apply below_drew1) | exact HB.out)) hb); clear HB; have HB := n0_; clear n0_; (try clear hb); (try clear hb2); (try clear hk); (try clear hi)))
      go_ret
      exact ⟨by first | rfl | (simp [errW_none, errW_some] <;> rfl) | (simp [*, errW_none, errW_some] <;> rfl), by repeat (first | (with_reducible first | exact HB.out | apply below_alloc | apply pw_below_drewN | apply below_drew1) | exact HB.out)⟩
    · rw [if_neg c4] at H
      exact absurd H (by simp)

/-! ### transhumancelaw01_fixed: function 25: given by this session's own walk -/
def transhumancelaw01_fixed.f : Option Bool := some true
theorem transhumancelaw01_fixed.g1 (w : World) : Calls Try.prog 28 #[.string ⟨#[120, 172, 2, 121]⟩, .int .i64 1] w fun e w' => e = .returned (.tuple #[.int .i64 300, .int .i64 3, .int .i64 0]) ∧ w = w' := by
  have h := GetWalk.get_any ⟨#[120, 172, 2, 121]⟩ 1 w (by decide)
  have e : GetWalk.getI ⟨#[120, 172, 2, 121]⟩ 1 = (300, 3, 0) := by decide +kernel
  rw [e] at h
  exact h
theorem transhumancelaw01_fixed.g2 (w : World) : Calls Try.prog 28 #[.string ⟨#[128, 0]⟩, .int .i64 0] w fun e w' => e = .returned (.tuple #[.int .i64 0, .int .i64 0, .int .i64 12]) ∧ w = w' := by
  have h := GetWalk.get_any ⟨#[128, 0]⟩ 0 w (by decide)
  have e : GetWalk.getI ⟨#[128, 0]⟩ 0 = (0, 0, 12) := by decide +kernel
  rw [e] at h
  exact h
theorem transhumancelaw01_fixed.g3 (w : World) : Calls Try.prog 28 #[.string ⟨#[128, 128, 128, 128, 128, 128, 64]⟩, .int .i64 0] w fun e w' => e = .returned (.tuple #[.int .i64 0, .int .i64 0, .int .i64 11]) ∧ w = w' := by
  have h := GetWalk.get_any ⟨#[128, 128, 128, 128, 128, 128, 64]⟩ 0 w (by decide)
  have e : GetWalk.getI ⟨#[128, 128, 128, 128, 128, 128, 64]⟩ 0 = (0, 0, 11) := by decide +kernel
  rw [e] at h
  exact h
theorem transhumancelaw01_fixed.g4 (w : World) : Calls Try.prog 28 #[.string ⟨#[255, 255, 255, 255, 255, 255, 63]⟩, .int .i64 0] w fun e w' => e = .returned (.tuple #[.int .i64 281474976710655, .int .i64 7, .int .i64 0]) ∧ w = w' := by
  have h := GetWalk.get_any ⟨#[255, 255, 255, 255, 255, 255, 63]⟩ 0 w (by decide)
  have e : GetWalk.getI ⟨#[255, 255, 255, 255, 255, 255, 63]⟩ 0 = (281474976710655, 7, 0) := by decide +kernel
  rw [e] at h
  exact h
theorem transhumancelaw01_fixed.g5 (w : World) : Calls Try.prog 28 #[.string ⟨#[128]⟩, .int .i64 0] w fun e w' => e = .returned (.tuple #[.int .i64 0, .int .i64 0, .int .i64 10]) ∧ w = w' := by
  have h := GetWalk.get_any ⟨#[128]⟩ 0 w (by decide)
  have e : GetWalk.getI ⟨#[128]⟩ 0 = (0, 0, 10) := by decide +kernel
  rw [e] at h
  exact h
theorem transhumancelaw01_fixed.g6 (w : World) : Calls Try.prog 28 #[.string ⟨#[]⟩, .int .i64 1] w fun e w' => e = .returned (.tuple #[.int .i64 0, .int .i64 1, .int .i64 1]) ∧ w = w' := by
  have h := GetWalk.get_any ⟨#[]⟩ 1 w (by decide)
  have e : GetWalk.getI ⟨#[]⟩ 1 = (0, 1, 1) := by decide +kernel
  rw [e] at h
  exact h
theorem transhumancelaw01_fixed.p1 (w : World) : Calls Try.prog 26 #[.int .i64 (300)] w fun e w' => e = .returned (.string ⟨#[172, 2]⟩) ∧ Below w.heap.size w w' := by
  have h := PutWalk.put_any (300) w
  have e : PutWalk.putS (300) = ⟨#[172, 2]⟩ := by decide +kernel
  rw [e] at h
  exact h
theorem transhumancelaw01_fixed.p2 (w : World) : Calls Try.prog 26 #[.int .i64 (-1)] w fun e w' => e = .returned (.string ⟨#[]⟩) ∧ Below w.heap.size w w' := by
  have h := PutWalk.put_any (-1) w
  have e : PutWalk.putS (-1) = ⟨#[]⟩ := by decide +kernel
  rw [e] at h
  exact h
theorem transhumancelaw01_fixed.p3 (w : World) : Calls Try.prog 26 #[.int .i64 (0)] w fun e w' => e = .returned (.string ⟨#[0]⟩) ∧ Below w.heap.size w w' := by
  have h := PutWalk.put_any (0) w
  have e : PutWalk.putS (0) = ⟨#[0]⟩ := by decide +kernel
  rw [e] at h
  exact h
theorem transhumancelaw01_fixed.x1 (w : World) : Calls Try.prog 27 #[.int .i64 513] w fun e w' => e = .returned (.string ⟨#[1, 2, 0, 0]⟩) ∧ Below w.heap.size w w' := by
  have h := FixedWalk.fixed_any 513 w
  have e : FixedWalk.putF 513 = ⟨#[1, 2, 0, 0]⟩ := by decide +kernel
  rw [e] at h
  exact h
theorem transhumancelaw01_fixed.x2 (w : World) : Calls Try.prog 29 #[.string ⟨#[1, 2, 0, 128]⟩, .int .i64 0] w fun e w' => e = .returned (.tuple #[.int .i64 2147484161, .int .i64 4, .int .i64 0]) ∧ Drawn0 w w' := wire_GetFixed.calls 10 _ _ _ _ _ w (by decide +kernel)
theorem transhumancelaw01_fixed.x3 (w : World) : Calls Try.prog 30 #[.string ⟨#[97, 98]⟩] w fun e w' => e = .returned (.string ⟨#[2, 97, 98]⟩) ∧ Below w.heap.size w w' := wire_PutText.calls _ _ w (by decide +kernel)
set_option maxHeartbeats 4000000 in
set_option maxRecDepth 100000 in
theorem transhumancelaw01_fixed.calls (r : Bool) (w : World) (h : transhumancelaw01_fixed.f = some r) : Calls Try.prog 25 #[] w fun e w' => e = .returned (.bool r) ∧ Below w.heap.size w w' := by
  obtain rfl := Option.some.inj h
  clear h
  have HB := Aside0.mk (Below.refl w.heap.size w)
  have s1 : ((⟨#[172, 2]⟩ : ByteArray).toList == [172, 2]) = true := by decide +kernel
  have s2 : ((⟨#[1, 2, 0, 0]⟩ : ByteArray).toList == [1, 2, 0, 0]) = true := by decide +kernel
  have s3 : ((⟨#[2, 97, 98]⟩ : ByteArray).toList == [2, 97, 98]) = true := by decide +kernel
  have s4 : (⟨#[]⟩ : ByteArray).toList.isEmpty = true := by decide +kernel
  have s5 : ((⟨#[0]⟩ : ByteArray).toList == [0]) = true := by decide +kernel
  go_enter Try.func25, Try.ntmps25
  go_wp2_with (first | (go_at_call 28; (with_reducible refine (transhumancelaw01_fixed.g1 _).mono ?_); rintro e w' ⟨rfl, rfl⟩) | (go_at_call 28; (with_reducible refine (transhumancelaw01_fixed.g2 _).mono ?_); rintro e w' ⟨rfl, rfl⟩) | (go_at_call 28; (with_reducible refine (transhumancelaw01_fixed.g3 _).mono ?_); rintro e w' ⟨rfl, rfl⟩) | (go_at_call 28; (with_reducible refine (transhumancelaw01_fixed.g4 _).mono ?_); rintro e w' ⟨rfl, rfl⟩) | (go_at_call 28; (with_reducible refine (transhumancelaw01_fixed.g5 _).mono ?_); rintro e w' ⟨rfl, rfl⟩) | (go_at_call 28; (with_reducible refine (transhumancelaw01_fixed.g6 _).mono ?_); rintro e w' ⟨rfl, rfl⟩) | (go_at_call 26; (with_reducible refine (transhumancelaw01_fixed.p1 _).mono ?_); rintro e w1 ⟨rfl, hb⟩; have n0 := Aside0.mk (below_then HB.out HB.out.size hb); clear HB hb; have HB := n0; clear n0) | (go_at_call 26; (with_reducible refine (transhumancelaw01_fixed.p2 _).mono ?_); rintro e w1 ⟨rfl, hb⟩; have n0 := Aside0.mk (below_then HB.out HB.out.size hb); clear HB hb; have HB := n0; clear n0) | (go_at_call 26; (with_reducible refine (transhumancelaw01_fixed.p3 _).mono ?_); rintro e w1 ⟨rfl, hb⟩; have n0 := Aside0.mk (below_then HB.out HB.out.size hb); clear HB hb; have HB := n0; clear n0) | (go_at_call 27; (with_reducible refine (transhumancelaw01_fixed.x1 _).mono ?_); rintro e w1 ⟨rfl, hb⟩; have n0 := Aside0.mk (below_then HB.out HB.out.size hb); clear HB hb; have HB := n0; clear n0) | (go_at_call 29; (with_reducible refine (transhumancelaw01_fixed.x2 _).mono ?_); rintro e w1 ⟨rfl, hd⟩; have hb := hd.below; clear hd; have n0 := Aside0.mk (below_then HB.out HB.out.size hb); clear HB hb; have HB := n0; clear n0) | (go_at_call 30; (with_reducible refine (transhumancelaw01_fixed.x3 _).mono ?_); rintro e w1 ⟨rfl, hb⟩; have n0 := Aside0.mk (below_then HB.out HB.out.size hb); clear HB hb; have HB := n0; clear n0))
  go_ret
  exact ⟨rfl, HB.out⟩


end Go.Proofs.Ytaeocbbapnfcaaa.PWire
