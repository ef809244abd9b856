/- Functions of the program, each with the machine's call that does what it says; laid by a program of this session over the kit's printer. -/
import Derived.Test.YtaeocbbapnfcaaaPWirex0
import Derived.Test.YtaeocbbapnfcaaaPWirex1
namespace Go.Proofs.Ytaeocbbapnfcaaa.PWire
open Go.RowKit Go.Proofs.YtaeocbbapnfcaaaW.PrintWords Go.Proofs.YtaeocbbapnfcaaaW.PrintLast Go.Proofs.YtaeocbbapnfcaaaW.PrintMore
attribute [local go_sem] max2_int min2_int max_two min_two max_three min_three max_four min_four   -- for this text's walks alone
set_option linter.unusedVariables false
set_option linter.unusedSimpArgs false

/-! ### wire_Reader_Text: function 32 -/
def wire_Reader_Text.j0 : Nat → Int → Int → Int → Bool → Int → Int → ByteArray → Option (ByteArray × Int × Int × ByteArray)
  | 0, _, _, _, _, _, _, _ => none
  | k + 1, x5, x6, x7, x29, x1000, x1001, x1002 => if x29 = true then ((wire_Reader_take.f x1000 x1001 x1002 (wrap64 (x6 + x5)) 10).bind fun bt123 => (if bt123.1 = true then (if 0 ≤ x6 then (if x6 ≤ (wrap64 (x6 + x5)) then (if (wrap64 (x6 + x5)) ≤ (bt123.2.2.2.size : Int) then (some (bt123.2.2.2.extract (x6 : Int).toNat ((wrap64 (x6 + x5)) : Int).toNat, bt123.2.1, bt123.2.2.1, bt123.2.2.2)) else (none)) else (none)) else (none)) else (some ((⟨#[]⟩ : ByteArray), bt123.2.1, bt123.2.2.1, bt123.2.2.2)))) else ((wire_Reader_take.f x1000 x1001 x1002 (wrap64 (x6 + x5)) x7).bind fun bt127 => (if bt127.1 = true then (if 0 ≤ x6 then (if x6 ≤ (wrap64 (x6 + x5)) then (if (wrap64 (x6 + x5)) ≤ (bt127.2.2.2.size : Int) then (some (bt127.2.2.2.extract (x6 : Int).toNat ((wrap64 (x6 + x5)) : Int).toNat, bt127.2.1, bt127.2.2.1, bt127.2.2.2)) else (none)) else (none)) else (none)) else (some ((⟨#[]⟩ : ByteArray), bt127.2.1, bt127.2.2.1, bt127.2.2.2))))
def wire_Reader_Text.f (k : Nat) (s0_0 : Int) (s0_1 : Int) (s0_2 : ByteArray) (a1 : Int) : Option (ByteArray × Int × Int × ByteArray) := (wire_Reader_stops.f s0_0 s0_1 s0_2).bind fun bt113 => (if bt113.1 = true then (some ((⟨#[]⟩ : ByteArray), bt113.2.1, bt113.2.2.1, bt113.2.2.2)) else ((wire_Reader_number.f bt113.2.1 bt113.2.2.1 bt113.2.2.2 a1).bind fun bt117 => (if bt117.2.2.1 = 0 then (wire_Reader_Text.j0 k bt117.1 bt117.2.1 bt117.2.2.1 (decide (bt117.1 > (wrap64 ((bt117.2.2.2.2.2.size : Int) - bt117.2.1)))) bt117.2.2.2.1 bt117.2.2.2.2.1 bt117.2.2.2.2.2) else (wire_Reader_Text.j0 k bt117.1 bt117.2.1 bt117.2.2.1 false bt117.2.2.2.1 bt117.2.2.2.2.1 bt117.2.2.2.2.2))))
theorem wire_Reader_Text.mono_l : ∀ k, (∀ y0 y1 y2 y3 y4 y5 y6, LeO (wire_Reader_Text.j0 k y0 y1 y2 y3 y4 y5 y6) (wire_Reader_Text.j0 (k + 1) y0 y1 y2 y3 y4 y5 y6))
  | 0 => fun _ _ _ _ _ _ _ r h => by simp [wire_Reader_Text.j0] at h
  | k + 1 => by
    have ih0 := wire_Reader_Text.mono_l k
    · intro y0 y1 y2 y3 y4 y5 y6
      unfold wire_Reader_Text.j0
      repeat' first
      | (with_reducible exact ih0 _ _ _ _ _ _ _)
      | (with_reducible exact LeO.refl _)
      | (with_reducible exact LeO.none _)
      | (with_reducible refine LeO.ite ?_ ?_)
      | (with_reducible refine LeO.bind ?_ (fun _ => ?_))
      | exact ih0 _ _ _ _ _ _ _
      | exact LeO.none _
      | refine LeO.ite ?_ ?_
      | refine LeO.bind ?_ (fun _ => ?_)
theorem wire_Reader_Text.mono : ∀ a0 a1 a2 a3 k, LeO (wire_Reader_Text.f k a0 a1 a2 a3) (wire_Reader_Text.f (k + 1) a0 a1 a2 a3) := by
  intro a0 a1 a2 a3 k
  have ih0 := wire_Reader_Text.mono_l k
  unfold wire_Reader_Text.f
  repeat' first
      | (with_reducible exact ih0 _ _ _ _ _ _ _)
      | (with_reducible exact LeO.refl _)
      | (with_reducible exact LeO.none _)
      | (with_reducible refine LeO.ite ?_ ?_)
      | (with_reducible refine LeO.bind ?_ (fun _ => ?_))
      | exact ih0 _ _ _ _ _ _ _
      | exact LeO.none _
      | refine LeO.ite ?_ ?_
      | refine LeO.bind ?_ (fun _ => ?_)
set_option maxHeartbeats 8000000 in
set_option maxRecDepth 100000 in
theorem wire_Reader_Text.calls (k : Nat) (g : Nat) (s0_0 : Int) (s0_1 : Int) (s0_2 : ByteArray) (a1 : Int) (r1 : ByteArray) (r2 : Int) (r3 : Int) (r4 : ByteArray) (w0 w : World) (hI : IsS83 w0 w g s0_0 s0_1 s0_2) (hB : Below w0.heap.size w0 w) (h : wire_Reader_Text.f k s0_0 s0_1 s0_2 a1 = some (r1, r2, r3, r4)) :
    Calls Try.prog 32 #[.pointer (some ⟨g, 0, none⟩), .int .i64 a1] w fun e w' => e = .returned (.string r1) ∧ IsS83 w0 w' g r2 r3 r4 ∧ Below w0.heap.size w0 w' ∧ KeepBut w w' g none := by
  have HI0 := Aside0.mk hI
  have HK := Aside0.mk (KeepBut.refl w g none)
  have HL := Aside0.mk hB.size
  clear hI
  have HW0 := Aside0.mk hB.size
  have HB := Aside0.mk hB
  clear hB
  have H : ((wire_Reader_stops.f s0_0 s0_1 s0_2).bind fun bt113 => (if bt113.1 = true then (some ((⟨#[]⟩ : ByteArray), bt113.2.1, bt113.2.2.1, bt113.2.2.2)) else ((wire_Reader_number.f bt113.2.1 bt113.2.2.1 bt113.2.2.2 a1).bind fun bt117 => (if bt117.2.2.1 = 0 then (wire_Reader_Text.j0 k bt117.1 bt117.2.1 bt117.2.2.1 (decide (bt117.1 > (wrap64 ((bt117.2.2.2.2.2.size : Int) - bt117.2.1)))) bt117.2.2.2.1 bt117.2.2.2.2.1 bt117.2.2.2.2.2) else (wire_Reader_Text.j0 k bt117.1 bt117.2.1 bt117.2.2.1 false bt117.2.2.2.1 bt117.2.2.2.2.1 bt117.2.2.2.2.2))))) = some (r1, r2, r3, r4) := h
  clear h
  replace H := Option.bind_eq_some_iff.mp H
  obtain ⟨⟨t113, t114, t115, t116⟩, A30, H⟩ := H
  replace H : (if t113 = true then (some ((⟨#[]⟩ : ByteArray), t114, t115, t116)) else ((wire_Reader_number.f t114 t115 t116 a1).bind fun bt117 => (if bt117.2.2.1 = 0 then (wire_Reader_Text.j0 k bt117.1 bt117.2.1 bt117.2.2.1 (decide (bt117.1 > (wrap64 ((bt117.2.2.2.2.2.size : Int) - bt117.2.1)))) bt117.2.2.2.1 bt117.2.2.2.2.1 bt117.2.2.2.2.2) else (wire_Reader_Text.j0 k bt117.1 bt117.2.1 bt117.2.2.1 false bt117.2.2.2.1 bt117.2.2.2.2.1 bt117.2.2.2.2.2)))) = some (r1, r2, r3, r4) := H
  have A3 := Aside0.mk A30
  clear A30
  by_cases c4 : t113 = true
  · subst c4
    have H1 : (some ((⟨#[]⟩ : ByteArray), t114, t115, t116)) = some (r1, r2, r3, r4) := by rw [if_pos rfl] at H; exact H
    clear H
    have H := H1
    clear H1
    simp only [Option.some.injEq, Prod.mk.injEq] at H
    obtain ⟨rfl, rfl, rfl, rfl⟩ := H
    go_enter Try.func32, Try.ntmps32
    go_wp2_with (first | ((with_reducible refine gate_callee (f := 55) rfl ?_); refine goesL_ (some 9) rfl rfl Try.func55 (by kernel_rfl) rfl #[.pointer (some ⟨g, 0, none⟩)] rfl (by (try simp only [List.map_toArray, List.map_cons, List.map_nil]); first | done | rfl | (simp only [List.length_drop, List.length_take]; rfl)) ?_; (with_reducible refine (wire_Reader_stops.calls g s0_0 s0_1 s0_2 true t114 t115 t116 w0 _ ?side1 ?side2 A3.out).mono ?_); (case side1 => repeat (first | (with_reducible first | exact HI0.out | apply IsS83.alloc | apply IsS83.drewN | apply IsS83.drew | apply IsS83.set_0 | apply IsS83.set_1 | apply IsS83.set_2) | exact HI0.out)); (case side2 => repeat (first | (with_reducible first | exact HB.out | apply below_alloc | apply pw_below_drewN | apply below_drew1 | refine below_set ?_ (IsS83.ge HI0.out)) | exact HB.out)); rintro e w5 ⟨rfl, hi, hb, hk⟩; refine ⟨_, rfl, ?_⟩; have n0_ := Aside0.mk (KeepBut.trans (by repeat (first | (with_reducible first | exact HK.out | apply KeepBut.set_ | apply keep_drewN | apply keep_drew | apply keep_alloc) | exact HK.out)) hk (.inl rfl)); have n1_ := Aside0.mk (hb); have n2_ := Aside0.mk (hi); clear HK; clear HB; clear HI0; have HK := n0_; have HB := n1_; have HI0 := n2_; clear n0_ n1_ n2_; (try clear hb); (try clear hb2); (try clear hk); (try clear hi)))
    go_ret
    exact ⟨by first | rfl | (simp [errW_none, errW_some] <;> rfl) | (simp [*, errW_none, errW_some] <;> rfl), by repeat (first | (with_reducible first | exact HI0.out | apply IsS83.alloc | apply IsS83.drewN | apply IsS83.drew | apply IsS83.set_0 | apply IsS83.set_1 | apply IsS83.set_2) | exact HI0.out), by repeat (first | (with_reducible first | exact HB.out | apply below_alloc | apply pw_below_drewN | apply below_drew1 | refine below_set ?_ (IsS83.ge HI0.out)) | exact HB.out), by repeat (first | (with_reducible first | exact HK.out | apply KeepBut.set_ | apply keep_drewN | apply keep_drew | apply keep_alloc) | exact HK.out)⟩
  · replace c4 := Bool.eq_false_iff.mpr c4
    subst c4
    have H1 : ((wire_Reader_number.f t114 t115 t116 a1).bind fun bt117 => (if bt117.2.2.1 = 0 then (wire_Reader_Text.j0 k bt117.1 bt117.2.1 bt117.2.2.1 (decide (bt117.1 > (wrap64 ((bt117.2.2.2.2.2.size : Int) - bt117.2.1)))) bt117.2.2.2.1 bt117.2.2.2.2.1 bt117.2.2.2.2.2) else (wire_Reader_Text.j0 k bt117.1 bt117.2.1 bt117.2.2.1 false bt117.2.2.2.1 bt117.2.2.2.2.1 bt117.2.2.2.2.2))) = some (r1, r2, r3, r4) := by rw [if_neg (show ¬ (false = true) by decide)] at H; exact H
    clear H
    have H := H1
    clear H1
    replace H := Option.bind_eq_some_iff.mp H
    obtain ⟨⟨t117, t118, t119, t120, t121, t122⟩, A60, H⟩ := H
    replace H : (if t119 = 0 then (wire_Reader_Text.j0 k t117 t118 t119 (decide (t117 > (wrap64 ((t122.size : Int) - t118)))) t120 t121 t122) else (wire_Reader_Text.j0 k t117 t118 t119 false t120 t121 t122)) = some (r1, r2, r3, r4) := H
    have A6 := Aside0.mk A60
    clear A60
    have HC7 := Aside0.mk H
    clear H
    go_enter Try.func32, Try.ntmps32
    go_upto_region 4 with (first | ((with_reducible refine gate_callee (f := 55) rfl ?_); refine goesL_ (some 9) rfl rfl Try.func55 (by kernel_rfl) rfl #[.pointer (some ⟨g, 0, none⟩)] rfl (by (try simp only [List.map_toArray, List.map_cons, List.map_nil]); first | done | rfl | (simp only [List.length_drop, List.length_take]; rfl)) ?_; (with_reducible refine (wire_Reader_stops.calls g s0_0 s0_1 s0_2 false t114 t115 t116 w0 _ ?side1 ?side2 A3.out).mono ?_); (case side1 => repeat (first | (with_reducible first | exact HI0.out | apply IsS83.alloc | apply IsS83.drewN | apply IsS83.drew | apply IsS83.set_0 | apply IsS83.set_1 | apply IsS83.set_2) | exact HI0.out)); (case side2 => repeat (first | (with_reducible first | exact HB.out | apply below_alloc | apply pw_below_drewN | apply below_drew1 | refine below_set ?_ (IsS83.ge HI0.out)) | exact HB.out)); rintro e w8 ⟨rfl, hi, hb, hk⟩; refine ⟨_, rfl, ?_⟩; have n0_ := Aside0.mk (KeepBut.trans (by repeat (first | (with_reducible first | exact HK.out | apply KeepBut.set_ | apply keep_drewN | apply keep_drew | apply keep_alloc) | exact HK.out)) hk (.inl rfl)); have n1_ := Aside0.mk (hb); have n2_ := Aside0.mk (hi); clear HK; clear HB; clear HI0; have HK := n0_; have HB := n1_; have HI0 := n2_; clear n0_ n1_ n2_; (try clear hb); (try clear hb2); (try clear hk); (try clear hi)) | ((with_reducible refine gate_callee (f := 56) rfl ?_); refine goesL_ (some 13) rfl rfl Try.func56 (by kernel_rfl) rfl #[.pointer (some ⟨g, 0, none⟩), .int .i64 a1] rfl (by (try simp only [List.map_toArray, List.map_cons, List.map_nil]); first | done | rfl | (simp only [List.length_drop, List.length_take]; rfl)) ?_; (with_reducible refine (wire_Reader_number.calls g t114 t115 t116 a1 t117 t118 t119 t120 t121 t122 w0 _ ?side1 ?side2 A6.out).mono ?_); (case side1 => repeat (first | (with_reducible first | exact HI0.out | apply IsS83.alloc | apply IsS83.drewN | apply IsS83.drew | apply IsS83.set_0 | apply IsS83.set_1 | apply IsS83.set_2) | exact HI0.out)); (case side2 => repeat (first | (with_reducible first | exact HB.out | apply below_alloc | apply pw_below_drewN | apply below_drew1 | refine below_set ?_ (IsS83.ge HI0.out)) | exact HB.out)); rintro e w9 ⟨rfl, hi, hb, hk⟩; refine ⟨_, rfl, ?_⟩; have n0_ := Aside0.mk (KeepBut.trans (by repeat (first | (with_reducible first | exact HK.out | apply KeepBut.set_ | apply keep_drewN | apply keep_drew | apply keep_alloc) | exact HK.out)) hk (.inl rfl)); have n1_ := Aside0.mk (hb); have n2_ := Aside0.mk (hi); clear HK; clear HB; clear HI0; have HK := n0_; have HB := n1_; have HI0 := n2_; clear n0_ n1_ n2_; (try clear hb); (try clear hb2); (try clear hk); (try clear hi)))
    (try simp only [Act.put, List.setIfInBounds_toArray, List.set_cons_zero, List.set_cons_succ])
    go_cut [29] (fun v29 wc => ∃ (kq : Nat) (x29_6 : Bool), v29 = .bool x29_6 ∧ Aside0 (wire_Reader_Text.j0 kq t117 t118 t119 x29_6 t120 t121 t122 = some (r1, r2, r3, r4)) ∧ Aside0 (kq ≤ k) ∧ Aside0 (IsS83 w0 wc g t120 t121 t122) ∧ Aside0 (KeepBut w wc g none) ∧ Aside0 (Below w0.heap.size w0 wc))
    case first =>
      have H := HC7.out
      clear HC7
      by_cases c10 : t119 = 0
      · rw [if_pos c10] at H
        have c10b0 : (t119 == 0) = true := beq_iff_eq.mpr c10
        have c10b1 : (t119 != 0) = false := bne_eq_false_iff_eq.mpr c10
        clear c10
        (first | rw [c10b0] | (simp only [i64_w, i32_w]; rw [c10b0]) | skip)
        have H' := Aside0.mk H
        clear H
        obtain ⟨HGz11, hgz11⟩ := HI0.out
        have hcz11_0 := cellS83_0 HGz11
        have hcz11_1 := cellS83_1 HGz11
        have hcz11_2 := cellS83_2 HGz11
        have hfz11_0 := blk_frozen HGz11 0
        have hfz11_1 := blk_frozen HGz11 1
        have hfz11_2 := blk_frozen HGz11 2
        clear HGz11 hgz11
        go_wp2
        go_meet
        case rel => exact ⟨_, (decide (t117 > (wrap64 ((t122.size : Int) - t118)))), (by first | rfl | (simp; done) | (simp [*]; done)), H', ⟨by first | omega | exact Nat.le_refl _⟩, ⟨by repeat (first | (with_reducible first | exact HI0.out | apply IsS83.alloc | apply IsS83.drewN | apply IsS83.drew | apply IsS83.set_0 | apply IsS83.set_1 | apply IsS83.set_2) | exact HI0.out)⟩, ⟨by repeat (first | (with_reducible first | exact HK.out | apply KeepBut.set_ | apply keep_drewN | apply keep_drew | apply keep_alloc) | exact HK.out)⟩, ⟨by repeat (first | (with_reducible first | exact HB.out | apply below_alloc | apply pw_below_drewN | apply below_drew1 | refine below_set ?_ (IsS83.ge HI0.out)) | exact HB.out)⟩⟩
      · rw [if_neg c10] at H
        have c10b0 : (t119 == 0) = false := beq_eq_false_iff_ne.mpr c10
        have c10b1 : (t119 != 0) = true := bne_iff_ne.mpr c10
        (first | rw [c10b0] | (simp only [i64_w, i32_w]; rw [c10b0]) | skip)
        have H' := Aside0.mk H
        clear H
        go_wp2
        go_meet
        case rel => exact ⟨_, (false), (by first | rfl | (simp; done) | (simp [*]; done)), H', ⟨by first | omega | exact Nat.le_refl _⟩, ⟨by repeat (first | (with_reducible first | exact HI0.out | apply IsS83.alloc | apply IsS83.drewN | apply IsS83.drew | apply IsS83.set_0 | apply IsS83.set_1 | apply IsS83.set_2) | exact HI0.out)⟩, ⟨by repeat (first | (with_reducible first | exact HK.out | apply KeepBut.set_ | apply keep_drewN | apply keep_drew | apply keep_alloc) | exact HK.out)⟩, ⟨by repeat (first | (with_reducible first | exact HB.out | apply below_alloc | apply pw_below_drewN | apply below_drew1 | refine below_set ?_ (IsS83.ge HI0.out)) | exact HB.out)⟩⟩
    case rest =>
      clear HC7
      try clear c1
      try clear p2
      try clear c3
      try clear c4
      try clear c5
      try clear p6
      try clear c10
      try clear c10b0
      try clear c10b1
      try clear hcz11_0
      try clear hcz11_1
      try clear hcz11_2
      try clear hfz11_0
      try clear hfz11_1
      try clear hfz11_2
      obtain ⟨kq, x29_6, rfl, HA, HJ6, HI0, HK, HB⟩ := hcut
      cases kq with
      | zero => exact absurd HA.out (by simp [wire_Reader_Text.j0])
      | succ kj6 =>
        have H := HA.out
        clear HA
        simp only [wire_Reader_Text.j0] at H
        by_cases c12 : x29_6 = true
        · subst c12
          have H1 : ((wire_Reader_take.f t120 t121 t122 (wrap64 (t118 + t117)) 10).bind fun bt123 => (if bt123.1 = true then (if 0 ≤ t118 then (if t118 ≤ (wrap64 (t118 + t117)) then (if (wrap64 (t118 + t117)) ≤ (bt123.2.2.2.size : Int) then (some (bt123.2.2.2.extract (t118 : Int).toNat ((wrap64 (t118 + t117)) : Int).toNat, bt123.2.1, bt123.2.2.1, bt123.2.2.2)) else (none)) else (none)) else (none)) else (some ((⟨#[]⟩ : ByteArray), bt123.2.1, bt123.2.2.1, bt123.2.2.2)))) = some (r1, r2, r3, r4) := by rw [if_pos rfl] at H; exact H
          clear H
          have H := H1
          clear H1
          replace H := Option.bind_eq_some_iff.mp H
          obtain ⟨⟨t123, t124, t125, t126⟩, A130, H⟩ := H
          replace H : (if t123 = true then (if 0 ≤ t118 then (if t118 ≤ (wrap64 (t118 + t117)) then (if (wrap64 (t118 + t117)) ≤ (t126.size : Int) then (some (t126.extract (t118 : Int).toNat ((wrap64 (t118 + t117)) : Int).toNat, t124, t125, t126)) else (none)) else (none)) else (none)) else (some ((⟨#[]⟩ : ByteArray), t124, t125, t126))) = some (r1, r2, r3, r4) := H
          have A13 := Aside0.mk A130
          clear A130
          by_cases c14 : t123 = true
          · subst c14
            have H1 : (if 0 ≤ t118 then (if t118 ≤ (wrap64 (t118 + t117)) then (if (wrap64 (t118 + t117)) ≤ (t126.size : Int) then (some (t126.extract (t118 : Int).toNat ((wrap64 (t118 + t117)) : Int).toNat, t124, t125, t126)) else (none)) else (none)) else (none)) = some (r1, r2, r3, r4) := by rw [if_pos rfl] at H; exact H
            clear H
            have H := H1
            clear H1
            by_cases c15 : 0 ≤ t118
            · rw [if_pos c15] at H
              have c15b0 := eq_true c15
              have c15b1 : decide (0 ≤ t118) = true := decide_eq_true c15
              clear c15
              by_cases c16 : t118 ≤ (wrap64 (t118 + t117))
              · rw [if_pos c16] at H
                have c16b0 := eq_true c16
                have c16b1 : decide (t118 ≤ (wrap64 (t118 + t117))) = true := decide_eq_true c16
                by_cases c17 : (wrap64 (t118 + t117)) ≤ (t126.size : Int)
                · rw [if_pos c17] at H
                  have c17b0 := eq_true c17
                  have c17b1 : decide ((wrap64 (t118 + t117)) ≤ (t126.size : Int)) = true := decide_eq_true c17
                  simp only [Option.some.injEq, Prod.mk.injEq] at H
                  obtain ⟨rfl, rfl, rfl, rfl⟩ := H
                  go_wp2_with (first | ((with_reducible refine gate_callee (f := 57) rfl ?_); refine goesL_ (some 35) rfl rfl Try.func57 (by kernel_rfl) rfl #[.pointer (some ⟨g, 0, none⟩), .int .i64 (wrap64 (t118 + t117)), .int .i64 10] rfl (by (try simp only [List.map_toArray, List.map_cons, List.map_nil]); first | done | rfl | (simp only [List.length_drop, List.length_take]; rfl)) ?_; (with_reducible refine (wire_Reader_take.calls g t120 t121 t122 (wrap64 (t118 + t117)) 10 true t124 t125 t126 w0 _ ?side1 ?side2 A13.out).mono ?_); (case side1 => repeat (first | (with_reducible first | exact HI0.out | apply IsS83.alloc | apply IsS83.drewN | apply IsS83.drew | apply IsS83.set_0 | apply IsS83.set_1 | apply IsS83.set_2) | exact HI0.out)); (case side2 => repeat (first | (with_reducible first | exact HB.out | apply below_alloc | apply pw_below_drewN | apply below_drew1 | refine below_set ?_ (IsS83.ge HI0.out)) | exact HB.out)); rintro e w18 ⟨rfl, hi, hb, hk⟩; refine ⟨_, rfl, ?_⟩; have n0_ := Aside0.mk (KeepBut.trans (by repeat (first | (with_reducible first | exact HK.out | apply KeepBut.set_ | apply keep_drewN | apply keep_drew | apply keep_alloc) | exact HK.out)) hk (.inl rfl)); have n1_ := Aside0.mk (hb); have n2_ := Aside0.mk (hi); clear HK; clear HB; clear HI0; have HK := n0_; have HB := n1_; have HI0 := n2_; clear n0_ n1_ n2_; (try clear hb); (try clear hb2); (try clear hk); (try clear hi); obtain ⟨HGz19, hgz19⟩ := HI0.out; have hcz19_0 := cellS83_0 HGz19; have hcz19_1 := cellS83_1 HGz19; have hcz19_2 := cellS83_2 HGz19; have hfz19_0 := blk_frozen HGz19 0; have hfz19_1 := blk_frozen HGz19 1; have hfz19_2 := blk_frozen HGz19 2; clear HGz19 hgz19))
                  go_ret
                  exact ⟨by first | rfl | (simp [errW_none, errW_some] <;> rfl) | (simp [*, errW_none, errW_some] <;> rfl), by repeat (first | (with_reducible first | exact HI0.out | apply IsS83.alloc | apply IsS83.drewN | apply IsS83.drew | apply IsS83.set_0 | apply IsS83.set_1 | apply IsS83.set_2) | exact HI0.out), by repeat (first | (with_reducible first | exact HB.out | apply below_alloc | apply pw_below_drewN | apply below_drew1 | refine below_set ?_ (IsS83.ge HI0.out)) | exact HB.out), by repeat (first | (with_reducible first | exact HK.out | apply KeepBut.set_ | apply keep_drewN | apply keep_drew | apply keep_alloc) | exact HK.out)⟩
                · rw [if_neg c17] at H
                  exact absurd H (by simp)
              · rw [if_neg c16] at H
                exact absurd H (by simp)
            · rw [if_neg c15] at H
              exact absurd H (by simp)
          · replace c14 := Bool.eq_false_iff.mpr c14
            subst c14
            have H1 : (some ((⟨#[]⟩ : ByteArray), t124, t125, t126)) = some (r1, r2, r3, r4) := by rw [if_neg (show ¬ (false = true) by decide)] at H; exact H
            clear H
            have H := H1
            clear H1
            simp only [Option.some.injEq, Prod.mk.injEq] at H
            obtain ⟨rfl, rfl, rfl, rfl⟩ := H
            go_wp2_with (first | ((with_reducible refine gate_callee (f := 57) rfl ?_); refine goesL_ (some 35) rfl rfl Try.func57 (by kernel_rfl) rfl #[.pointer (some ⟨g, 0, none⟩), .int .i64 (wrap64 (t118 + t117)), .int .i64 10] rfl (by (try simp only [List.map_toArray, List.map_cons, List.map_nil]); first | done | rfl | (simp only [List.length_drop, List.length_take]; rfl)) ?_; (with_reducible refine (wire_Reader_take.calls g t120 t121 t122 (wrap64 (t118 + t117)) 10 false t124 t125 t126 w0 _ ?side1 ?side2 A13.out).mono ?_); (case side1 => repeat (first | (with_reducible first | exact HI0.out | apply IsS83.alloc | apply IsS83.drewN | apply IsS83.drew | apply IsS83.set_0 | apply IsS83.set_1 | apply IsS83.set_2) | exact HI0.out)); (case side2 => repeat (first | (with_reducible first | exact HB.out | apply below_alloc | apply pw_below_drewN | apply below_drew1 | refine below_set ?_ (IsS83.ge HI0.out)) | exact HB.out)); rintro e w20 ⟨rfl, hi, hb, hk⟩; refine ⟨_, rfl, ?_⟩; have n0_ := Aside0.mk (KeepBut.trans (by repeat (first | (with_reducible first | exact HK.out | apply KeepBut.set_ | apply keep_drewN | apply keep_drew | apply keep_alloc) | exact HK.out)) hk (.inl rfl)); have n1_ := Aside0.mk (hb); have n2_ := Aside0.mk (hi); clear HK; clear HB; clear HI0; have HK := n0_; have HB := n1_; have HI0 := n2_; clear n0_ n1_ n2_; (try clear hb); (try clear hb2); (try clear hk); (try clear hi)))
            go_ret
            exact ⟨by first | rfl | (simp [errW_none, errW_some] <;> rfl) | (simp [*, errW_none, errW_some] <;> rfl), by repeat (first | (with_reducible first | exact HI0.out | apply IsS83.alloc | apply IsS83.drewN | apply IsS83.drew | apply IsS83.set_0 | apply IsS83.set_1 | apply IsS83.set_2) | exact HI0.out), by repeat (first | (with_reducible first | exact HB.out | apply below_alloc | apply pw_below_drewN | apply below_drew1 | refine below_set ?_ (IsS83.ge HI0.out)) | exact HB.out), by repeat (first | (with_reducible first | exact HK.out | apply KeepBut.set_ | apply keep_drewN | apply keep_drew | apply keep_alloc) | exact HK.out)⟩
        · replace c12 := Bool.eq_false_iff.mpr c12
          subst c12
          have H1 : ((wire_Reader_take.f t120 t121 t122 (wrap64 (t118 + t117)) t119).bind fun bt127 => (if bt127.1 = true then (if 0 ≤ t118 then (if t118 ≤ (wrap64 (t118 + t117)) then (if (wrap64 (t118 + t117)) ≤ (bt127.2.2.2.size : Int) then (some (bt127.2.2.2.extract (t118 : Int).toNat ((wrap64 (t118 + t117)) : Int).toNat, bt127.2.1, bt127.2.2.1, bt127.2.2.2)) else (none)) else (none)) else (none)) else (some ((⟨#[]⟩ : ByteArray), bt127.2.1, bt127.2.2.1, bt127.2.2.2)))) = some (r1, r2, r3, r4) := by rw [if_neg (show ¬ (false = true) by decide)] at H; exact H
          clear H
          have H := H1
          clear H1
          replace H := Option.bind_eq_some_iff.mp H
          obtain ⟨⟨t127, t128, t129, t130⟩, A210, H⟩ := H
          replace H : (if t127 = true then (if 0 ≤ t118 then (if t118 ≤ (wrap64 (t118 + t117)) then (if (wrap64 (t118 + t117)) ≤ (t130.size : Int) then (some (t130.extract (t118 : Int).toNat ((wrap64 (t118 + t117)) : Int).toNat, t128, t129, t130)) else (none)) else (none)) else (none)) else (some ((⟨#[]⟩ : ByteArray), t128, t129, t130))) = some (r1, r2, r3, r4) := H
          have A21 := Aside0.mk A210
          clear A210
          by_cases c22 : t127 = true
          · subst c22
            have H1 : (if 0 ≤ t118 then (if t118 ≤ (wrap64 (t118 + t117)) then (if (wrap64 (t118 + t117)) ≤ (t130.size : Int) then (some (t130.extract (t118 : Int).toNat ((wrap64 (t118 + t117)) : Int).toNat, t128, t129, t130)) else (none)) else (none)) else (none)) = some (r1, r2, r3, r4) := by rw [if_pos rfl] at H; exact H
            clear H
            have H := H1
            clear H1
            by_cases c23 : 0 ≤ t118
            · rw [if_pos c23] at H
              have c23b0 := eq_true c23
              have c23b1 : decide (0 ≤ t118) = true := decide_eq_true c23
              clear c23
              by_cases c24 : t118 ≤ (wrap64 (t118 + t117))
              · rw [if_pos c24] at H
                have c24b0 := eq_true c24
                have c24b1 : decide (t118 ≤ (wrap64 (t118 + t117))) = true := decide_eq_true c24
                by_cases c25 : (wrap64 (t118 + t117)) ≤ (t130.size : Int)
                · rw [if_pos c25] at H
                  have c25b0 := eq_true c25
                  have c25b1 : decide ((wrap64 (t118 + t117)) ≤ (t130.size : Int)) = true := decide_eq_true c25
                  simp only [Option.some.injEq, Prod.mk.injEq] at H
                  obtain ⟨rfl, rfl, rfl, rfl⟩ := H
                  go_wp2_with (first | ((with_reducible refine gate_callee (f := 57) rfl ?_); refine goesL_ (some 35) rfl rfl Try.func57 (by kernel_rfl) rfl #[.pointer (some ⟨g, 0, none⟩), .int .i64 (wrap64 (t118 + t117)), .int .i64 t119] rfl (by (try simp only [List.map_toArray, List.map_cons, List.map_nil]); first | done | rfl | (simp only [List.length_drop, List.length_take]; rfl)) ?_; (with_reducible refine (wire_Reader_take.calls g t120 t121 t122 (wrap64 (t118 + t117)) t119 true t128 t129 t130 w0 _ ?side1 ?side2 A21.out).mono ?_); (case side1 => repeat (first | (with_reducible first | exact HI0.out | apply IsS83.alloc | apply IsS83.drewN | apply IsS83.drew | apply IsS83.set_0 | apply IsS83.set_1 | apply IsS83.set_2) | exact HI0.out)); (case side2 => repeat (first | (with_reducible first | exact HB.out | apply below_alloc | apply pw_below_drewN | apply below_drew1 | refine below_set ?_ (IsS83.ge HI0.out)) | exact HB.out)); rintro e w26 ⟨rfl, hi, hb, hk⟩; refine ⟨_, rfl, ?_⟩; have n0_ := Aside0.mk (KeepBut.trans (by repeat (first | (with_reducible first | exact HK.out | apply KeepBut.set_ | apply keep_drewN | apply keep_drew | apply keep_alloc) | exact HK.out)) hk (.inl rfl)); have n1_ := Aside0.mk (hb); have n2_ := Aside0.mk (hi); clear HK; clear HB; clear HI0; have HK := n0_; have HB := n1_; have HI0 := n2_; clear n0_ n1_ n2_; (try clear hb); (try clear hb2); (try clear hk); (try clear hi); obtain ⟨HGz27, hgz27⟩ := HI0.out; have hcz27_0 := cellS83_0 HGz27; have hcz27_1 := cellS83_1 HGz27; have hcz27_2 := cellS83_2 HGz27; have hfz27_0 := blk_frozen HGz27 0; have hfz27_1 := blk_frozen HGz27 1; have hfz27_2 := blk_frozen HGz27 2; clear HGz27 hgz27))
                  go_ret
                  exact ⟨by first | rfl | (simp [errW_none, errW_some] <;> rfl) | (simp [*, errW_none, errW_some] <;> rfl), by repeat (first | (with_reducible first | exact HI0.out | apply IsS83.alloc | apply IsS83.drewN | apply IsS83.drew | apply IsS83.set_0 | apply IsS83.set_1 | apply IsS83.set_2) | exact HI0.out), by repeat (first | (with_reducible first | exact HB.out | apply below_alloc | apply pw_below_drewN | apply below_drew1 | refine below_set ?_ (IsS83.ge HI0.out)) | exact HB.out), by repeat (first | (with_reducible first | exact HK.out | apply KeepBut.set_ | apply keep_drewN | apply keep_drew | apply keep_alloc) | exact HK.out)⟩
                · rw [if_neg c25] at H
                  exact absurd H (by simp)
              · rw [if_neg c24] at H
                exact absurd H (by simp)
            · rw [if_neg c23] at H
              exact absurd H (by simp)
          · replace c22 := Bool.eq_false_iff.mpr c22
            subst c22
            have H1 : (some ((⟨#[]⟩ : ByteArray), t128, t129, t130)) = some (r1, r2, r3, r4) := by rw [if_neg (show ¬ (false = true) by decide)] at H; exact H
            clear H
            have H := H1
            clear H1
            simp only [Option.some.injEq, Prod.mk.injEq] at H
            obtain ⟨rfl, rfl, rfl, rfl⟩ := H
            go_wp2_with (first | ((with_reducible refine gate_callee (f := 57) rfl ?_); refine goesL_ (some 35) rfl rfl Try.func57 (by kernel_rfl) rfl #[.pointer (some ⟨g, 0, none⟩), .int .i64 (wrap64 (t118 + t117)), .int .i64 t119] rfl (by (try simp only [List.map_toArray, List.map_cons, List.map_nil]); first | done | rfl | (simp only [List.length_drop, List.length_take]; rfl)) ?_; (with_reducible refine (wire_Reader_take.calls g t120 t121 t122 (wrap64 (t118 + t117)) t119 false t128 t129 t130 w0 _ ?side1 ?side2 A21.out).mono ?_); (case side1 => repeat (first | (with_reducible first | exact HI0.out | apply IsS83.alloc | apply IsS83.drewN | apply IsS83.drew | apply IsS83.set_0 | apply IsS83.set_1 | apply IsS83.set_2) | exact HI0.out)); (case side2 => repeat (first | (with_reducible first | exact HB.out | apply below_alloc | apply pw_below_drewN | apply below_drew1 | refine below_set ?_ (IsS83.ge HI0.out)) | exact HB.out)); rintro e w28 ⟨rfl, hi, hb, hk⟩; refine ⟨_, rfl, ?_⟩; have n0_ := Aside0.mk (KeepBut.trans (by repeat (first | (with_reducible first | exact HK.out | apply KeepBut.set_ | apply keep_drewN | apply keep_drew | apply keep_alloc) | exact HK.out)) hk (.inl rfl)); have n1_ := Aside0.mk (hb); have n2_ := Aside0.mk (hi); clear HK; clear HB; clear HI0; have HK := n0_; have HB := n1_; have HI0 := n2_; clear n0_ n1_ n2_; (try clear hb); (try clear hb2); (try clear hk); (try clear hi)))
            go_ret
            exact ⟨by first | rfl | (simp [errW_none, errW_some] <;> rfl) | (simp [*, errW_none, errW_some] <;> rfl), by repeat (first | (with_reducible first | exact HI0.out | apply IsS83.alloc | apply IsS83.drewN | apply IsS83.drew | apply IsS83.set_0 | apply IsS83.set_1 | apply IsS83.set_2) | exact HI0.out), by repeat (first | (with_reducible first | exact HB.out | apply below_alloc | apply pw_below_drewN | apply below_drew1 | refine below_set ?_ (IsS83.ge HI0.out)) | exact HB.out), by repeat (first | (with_reducible first | exact HK.out | apply KeepBut.set_ | apply keep_drewN | apply keep_drew | apply keep_alloc) | exact HK.out)⟩

/-! ### wire_Reader_Number: function 33 -/
def wire_Reader_Number.f (s0_0 : Int) (s0_1 : Int) (s0_2 : ByteArray) (a1 : Int) : Option (Int × Int × Int × ByteArray) := (wire_Reader_stops.f s0_0 s0_1 s0_2).bind fun bt131 => (if bt131.1 = true then (some (0, bt131.2.1, bt131.2.2.1, bt131.2.2.2)) else ((wire_Reader_number.f bt131.2.1 bt131.2.2.1 bt131.2.2.2 a1).bind fun bt135 => ((wire_Reader_take.f bt135.2.2.2.1 bt135.2.2.2.2.1 bt135.2.2.2.2.2 bt135.2.1 bt135.2.2.1).bind fun bt141 => (if bt141.1 = true then (some (bt135.1, bt141.2.1, bt141.2.2.1, bt141.2.2.2)) else (some (0, bt141.2.1, bt141.2.2.1, bt141.2.2.2))))))
set_option maxHeartbeats 8000000 in
set_option maxRecDepth 100000 in
theorem wire_Reader_Number.calls (g : Nat) (s0_0 : Int) (s0_1 : Int) (s0_2 : ByteArray) (a1 : Int) (r1 : Int) (r2 : Int) (r3 : Int) (r4 : ByteArray) (w0 w : World) (hI : IsS83 w0 w g s0_0 s0_1 s0_2) (hB : Below w0.heap.size w0 w) (h : wire_Reader_Number.f s0_0 s0_1 s0_2 a1 = some (r1, r2, r3, r4)) :
    Calls Try.prog 33 #[.pointer (some ⟨g, 0, none⟩), .int .i64 a1] w fun e w' => e = .returned (.int .i64 r1) ∧ IsS83 w0 w' g r2 r3 r4 ∧ Below w0.heap.size w0 w' ∧ KeepBut w w' g none := by
  have HI0 := Aside0.mk hI
  have HK := Aside0.mk (KeepBut.refl w g none)
  have HL := Aside0.mk hB.size
  clear hI
  have HW0 := Aside0.mk hB.size
  have HB := Aside0.mk hB
  clear hB
  have H : ((wire_Reader_stops.f s0_0 s0_1 s0_2).bind fun bt131 => (if bt131.1 = true then (some (0, bt131.2.1, bt131.2.2.1, bt131.2.2.2)) else ((wire_Reader_number.f bt131.2.1 bt131.2.2.1 bt131.2.2.2 a1).bind fun bt135 => ((wire_Reader_take.f bt135.2.2.2.1 bt135.2.2.2.2.1 bt135.2.2.2.2.2 bt135.2.1 bt135.2.2.1).bind fun bt141 => (if bt141.1 = true then (some (bt135.1, bt141.2.1, bt141.2.2.1, bt141.2.2.2)) else (some (0, bt141.2.1, bt141.2.2.1, bt141.2.2.2))))))) = some (r1, r2, r3, r4) := h
  clear h
  replace H := Option.bind_eq_some_iff.mp H
  obtain ⟨⟨t131, t132, t133, t134⟩, A30, H⟩ := H
  replace H : (if t131 = true then (some (0, t132, t133, t134)) else ((wire_Reader_number.f t132 t133 t134 a1).bind fun bt135 => ((wire_Reader_take.f bt135.2.2.2.1 bt135.2.2.2.2.1 bt135.2.2.2.2.2 bt135.2.1 bt135.2.2.1).bind fun bt141 => (if bt141.1 = true then (some (bt135.1, bt141.2.1, bt141.2.2.1, bt141.2.2.2)) else (some (0, bt141.2.1, bt141.2.2.1, bt141.2.2.2)))))) = some (r1, r2, r3, r4) := H
  have A3 := Aside0.mk A30
  clear A30
  by_cases c4 : t131 = true
  · subst c4
    have H1 : (some (0, t132, t133, t134)) = some (r1, r2, r3, r4) := by rw [if_pos rfl] at H; exact H
    clear H
    have H := H1
    clear H1
    simp only [Option.some.injEq, Prod.mk.injEq] at H
    obtain ⟨rfl, rfl, rfl, rfl⟩ := H
    go_enter Try.func33, Try.ntmps33
    go_wp2_with (first | ((with_reducible refine gate_callee (f := 55) rfl ?_); refine goesL_ (some 9) rfl rfl Try.func55 (by kernel_rfl) rfl #[.pointer (some ⟨g, 0, none⟩)] rfl (by (try simp only [List.map_toArray, List.map_cons, List.map_nil]); first | done | rfl | (simp only [List.length_drop, List.length_take]; rfl)) ?_; (with_reducible refine (wire_Reader_stops.calls g s0_0 s0_1 s0_2 true t132 t133 t134 w0 _ ?side1 ?side2 A3.out).mono ?_); (case side1 => repeat (first | (with_reducible first | exact HI0.out | apply IsS83.alloc | apply IsS83.drewN | apply IsS83.drew | apply IsS83.set_0 | apply IsS83.set_1 | apply IsS83.set_2) | exact HI0.out)); (case side2 => repeat (first | (with_reducible first | exact HB.out | apply below_alloc | apply pw_below_drewN | apply below_drew1 | refine below_set ?_ (IsS83.ge HI0.out)) | exact HB.out)); rintro e w5 ⟨rfl, hi, hb, hk⟩; refine ⟨_, rfl, ?_⟩; have n0_ := Aside0.mk (KeepBut.trans (by repeat (first | (with_reducible first | exact HK.out | apply KeepBut.set_ | apply keep_drewN | apply keep_drew | apply keep_alloc) | exact HK.out)) hk (.inl rfl)); have n1_ := Aside0.mk (hb); have n2_ := Aside0.mk (hi); clear HK; clear HB; clear HI0; have HK := n0_; have HB := n1_; have HI0 := n2_; clear n0_ n1_ n2_; (try clear hb); (try clear hb2); (try clear hk); (try clear hi)))
    go_ret
    exact ⟨by first | rfl | (simp [errW_none, errW_some] <;> rfl) | (simp [*, errW_none, errW_some] <;> rfl), by repeat (first | (with_reducible first | exact HI0.out | apply IsS83.alloc | apply IsS83.drewN | apply IsS83.drew | apply IsS83.set_0 | apply IsS83.set_1 | apply IsS83.set_2) | exact HI0.out), by repeat (first | (with_reducible first | exact HB.out | apply below_alloc | apply pw_below_drewN | apply below_drew1 | refine below_set ?_ (IsS83.ge HI0.out)) | exact HB.out), by repeat (first | (with_reducible first | exact HK.out | apply KeepBut.set_ | apply keep_drewN | apply keep_drew | apply keep_alloc) | exact HK.out)⟩
  · replace c4 := Bool.eq_false_iff.mpr c4
    subst c4
    have H1 : ((wire_Reader_number.f t132 t133 t134 a1).bind fun bt135 => ((wire_Reader_take.f bt135.2.2.2.1 bt135.2.2.2.2.1 bt135.2.2.2.2.2 bt135.2.1 bt135.2.2.1).bind fun bt141 => (if bt141.1 = true then (some (bt135.1, bt141.2.1, bt141.2.2.1, bt141.2.2.2)) else (some (0, bt141.2.1, bt141.2.2.1, bt141.2.2.2))))) = some (r1, r2, r3, r4) := by rw [if_neg (show ¬ (false = true) by decide)] at H; exact H
    clear H
    have H := H1
    clear H1
    replace H := Option.bind_eq_some_iff.mp H
    obtain ⟨⟨t135, t136, t137, t138, t139, t140⟩, A60, H⟩ := H
    replace H : ((wire_Reader_take.f t138 t139 t140 t136 t137).bind fun bt141 => (if bt141.1 = true then (some (t135, bt141.2.1, bt141.2.2.1, bt141.2.2.2)) else (some (0, bt141.2.1, bt141.2.2.1, bt141.2.2.2)))) = some (r1, r2, r3, r4) := H
    have A6 := Aside0.mk A60
    clear A60
    replace H := Option.bind_eq_some_iff.mp H
    obtain ⟨⟨t141, t142, t143, t144⟩, A70, H⟩ := H
    replace H : (if t141 = true then (some (t135, t142, t143, t144)) else (some (0, t142, t143, t144))) = some (r1, r2, r3, r4) := H
    have A7 := Aside0.mk A70
    clear A70
    by_cases c8 : t141 = true
    · subst c8
      have H1 : (some (t135, t142, t143, t144)) = some (r1, r2, r3, r4) := by rw [if_pos rfl] at H; exact H
      clear H
      have H := H1
      clear H1
      simp only [Option.some.injEq, Prod.mk.injEq] at H
      obtain ⟨rfl, rfl, rfl, rfl⟩ := H
      go_enter Try.func33, Try.ntmps33
      go_wp2_with (first | ((with_reducible refine gate_callee (f := 55) rfl ?_); refine goesL_ (some 9) rfl rfl Try.func55 (by kernel_rfl) rfl #[.pointer (some ⟨g, 0, none⟩)] rfl (by (try simp only [List.map_toArray, List.map_cons, List.map_nil]); first | done | rfl | (simp only [List.length_drop, List.length_take]; rfl)) ?_; (with_reducible refine (wire_Reader_stops.calls g s0_0 s0_1 s0_2 false t132 t133 t134 w0 _ ?side1 ?side2 A3.out).mono ?_); (case side1 => repeat (first | (with_reducible first | exact HI0.out | apply IsS83.alloc | apply IsS83.drewN | apply IsS83.drew | apply IsS83.set_0 | apply IsS83.set_1 | apply IsS83.set_2) | exact HI0.out)); (case side2 => repeat (first | (with_reducible first | exact HB.out | apply below_alloc | apply pw_below_drewN | apply below_drew1 | refine below_set ?_ (IsS83.ge HI0.out)) | exact HB.out)); rintro e w9 ⟨rfl, hi, hb, hk⟩; refine ⟨_, rfl, ?_⟩; have n0_ := Aside0.mk (KeepBut.trans (by repeat (first | (with_reducible first | exact HK.out | apply KeepBut.set_ | apply keep_drewN | apply keep_drew | apply keep_alloc) | exact HK.out)) hk (.inl rfl)); have n1_ := Aside0.mk (hb); have n2_ := Aside0.mk (hi); clear HK; clear HB; clear HI0; have HK := n0_; have HB := n1_; have HI0 := n2_; clear n0_ n1_ n2_; (try clear hb); (try clear hb2); (try clear hk); (try clear hi)) | ((with_reducible refine gate_callee (f := 56) rfl ?_); refine goesL_ (some 13) rfl rfl Try.func56 (by kernel_rfl) rfl #[.pointer (some ⟨g, 0, none⟩), .int .i64 a1] rfl (by (try simp only [List.map_toArray, List.map_cons, List.map_nil]); first | done | rfl | (simp only [List.length_drop, List.length_take]; rfl)) ?_; (with_reducible refine (wire_Reader_number.calls g t132 t133 t134 a1 t135 t136 t137 t138 t139 t140 w0 _ ?side1 ?side2 A6.out).mono ?_); (case side1 => repeat (first | (with_reducible first | exact HI0.out | apply IsS83.alloc | apply IsS83.drewN | apply IsS83.drew | apply IsS83.set_0 | apply IsS83.set_1 | apply IsS83.set_2) | exact HI0.out)); (case side2 => repeat (first | (with_reducible first | exact HB.out | apply below_alloc | apply pw_below_drewN | apply below_drew1 | refine below_set ?_ (IsS83.ge HI0.out)) | exact HB.out)); rintro e w10 ⟨rfl, hi, hb, hk⟩; refine ⟨_, rfl, ?_⟩; have n0_ := Aside0.mk (KeepBut.trans (by repeat (first | (with_reducible first | exact HK.out | apply KeepBut.set_ | apply keep_drewN | apply keep_drew | apply keep_alloc) | exact HK.out)) hk (.inl rfl)); have n1_ := Aside0.mk (hb); have n2_ := Aside0.mk (hi); clear HK; clear HB; clear HI0; have HK := n0_; have HB := n1_; have HI0 := n2_; clear n0_ n1_ n2_; (try clear hb); (try clear hb2); (try clear hk); (try clear hi)) | ((with_reducible refine gate_callee (f := 57) rfl ?_); refine goesL_ (some 20) rfl rfl Try.func57 (by kernel_rfl) rfl #[.pointer (some ⟨g, 0, none⟩), .int .i64 t136, .int .i64 t137] rfl (by (try simp only [List.map_toArray, List.map_cons, List.map_nil]); first | done | rfl | (simp only [List.length_drop, List.length_take]; rfl)) ?_; (with_reducible refine (wire_Reader_take.calls g t138 t139 t140 t136 t137 true t142 t143 t144 w0 _ ?side1 ?side2 A7.out).mono ?_); (case side1 => repeat (first | (with_reducible first | exact HI0.out | apply IsS83.alloc | apply IsS83.drewN | apply IsS83.drew | apply IsS83.set_0 | apply IsS83.set_1 | apply IsS83.set_2) | exact HI0.out)); (case side2 => repeat (first | (with_reducible first | exact HB.out | apply below_alloc | apply pw_below_drewN | apply below_drew1 | refine below_set ?_ (IsS83.ge HI0.out)) | exact HB.out)); rintro e w11 ⟨rfl, hi, hb, hk⟩; refine ⟨_, rfl, ?_⟩; have n0_ := Aside0.mk (KeepBut.trans (by repeat (first | (with_reducible first | exact HK.out | apply KeepBut.set_ | apply keep_drewN | apply keep_drew | apply keep_alloc) | exact HK.out)) hk (.inl rfl)); have n1_ := Aside0.mk (hb); have n2_ := Aside0.mk (hi); clear HK; clear HB; clear HI0; have HK := n0_; have HB := n1_; have HI0 := n2_; clear n0_ n1_ n2_; (try clear hb); (try clear hb2); (try clear hk); (try clear hi)))
      go_ret
      exact ⟨by first | rfl | (simp [errW_none, errW_some] <;> rfl) | (simp [*, errW_none, errW_some] <;> rfl), by repeat (first | (with_reducible first | exact HI0.out | apply IsS83.alloc | apply IsS83.drewN | apply IsS83.drew | apply IsS83.set_0 | apply IsS83.set_1 | apply IsS83.set_2) | exact HI0.out), by repeat (first | (with_reducible first | exact HB.out | apply below_alloc | apply pw_below_drewN | apply below_drew1 | refine below_set ?_ (IsS83.ge HI0.out)) | exact HB.out), by repeat (first | (with_reducible first | exact HK.out | apply KeepBut.set_ | apply keep_drewN | apply keep_drew | apply keep_alloc) | exact HK.out)⟩
    · replace c8 := Bool.eq_false_iff.mpr c8
      subst c8
      have H1 : (some (0, t142, t143, t144)) = some (r1, r2, r3, r4) := by rw [if_neg (show ¬ (false = true) by decide)] at H; exact H
      clear H
      have H := H1
      clear H1
      simp only [Option.some.injEq, Prod.mk.injEq] at H
      obtain ⟨rfl, rfl, rfl, rfl⟩ := H
      go_enter Try.func33, Try.ntmps33
      go_wp2_with (first | ((with_reducible refine gate_callee (f := 55) rfl ?_); refine goesL_ (some 9) rfl rfl Try.func55 (by kernel_rfl) rfl #[.pointer (some ⟨g, 0, none⟩)] rfl (by (try simp only [List.map_toArray, List.map_cons, List.map_nil]); first | done | rfl | (simp only [List.length_drop, List.length_take]; rfl)) ?_; (with_reducible refine (wire_Reader_stops.calls g s0_0 s0_1 s0_2 false t132 t133 t134 w0 _ ?side1 ?side2 A3.out).mono ?_); (case side1 => repeat (first | (with_reducible first | exact HI0.out | apply IsS83.alloc | apply IsS83.drewN | apply IsS83.drew | apply IsS83.set_0 | apply IsS83.set_1 | apply IsS83.set_2) | exact HI0.out)); (case side2 => repeat (first | (with_reducible first | exact HB.out | apply below_alloc | apply pw_below_drewN | apply below_drew1 | refine below_set ?_ (IsS83.ge HI0.out)) | exact HB.out)); rintro e w12 ⟨rfl, hi, hb, hk⟩; refine ⟨_, rfl, ?_⟩; have n0_ := Aside0.mk (KeepBut.trans (by repeat (first | (with_reducible first | exact HK.out | apply KeepBut.set_ | apply keep_drewN | apply keep_drew | apply keep_alloc) | exact HK.out)) hk (.inl rfl)); have n1_ := Aside0.mk (hb); have n2_ := Aside0.mk (hi); clear HK; clear HB; clear HI0; have HK := n0_; have HB := n1_; have HI0 := n2_; clear n0_ n1_ n2_; (try clear hb); (try clear hb2); (try clear hk); (try clear hi)) | ((with_reducible refine gate_callee (f := 56) rfl ?_); refine goesL_ (some 13) rfl rfl Try.func56 (by kernel_rfl) rfl #[.pointer (some ⟨g, 0, none⟩), .int .i64 a1] rfl (by (try simp only [List.map_toArray, List.map_cons, List.map_nil]); first | done | rfl | (simp only [List.length_drop, List.length_take]; rfl)) ?_; (with_reducible refine (wire_Reader_number.calls g t132 t133 t134 a1 t135 t136 t137 t138 t139 t140 w0 _ ?side1 ?side2 A6.out).mono ?_); (case side1 => repeat (first | (with_reducible first | exact HI0.out | apply IsS83.alloc | apply IsS83.drewN | apply IsS83.drew | apply IsS83.set_0 | apply IsS83.set_1 | apply IsS83.set_2) | exact HI0.out)); (case side2 => repeat (first | (with_reducible first | exact HB.out | apply below_alloc | apply pw_below_drewN | apply below_drew1 | refine below_set ?_ (IsS83.ge HI0.out)) | exact HB.out)); rintro e w13 ⟨rfl, hi, hb, hk⟩; refine ⟨_, rfl, ?_⟩; have n0_ := Aside0.mk (KeepBut.trans (by repeat (first | (with_reducible first | exact HK.out | apply KeepBut.set_ | apply keep_drewN | apply keep_drew | apply keep_alloc) | exact HK.out)) hk (.inl rfl)); have n1_ := Aside0.mk (hb); have n2_ := Aside0.mk (hi); clear HK; clear HB; clear HI0; have HK := n0_; have HB := n1_; have HI0 := n2_; clear n0_ n1_ n2_; (try clear hb); (try clear hb2); (try clear hk); (try clear hi)) | ((with_reducible refine gate_callee (f := 57) rfl ?_); refine goesL_ (some 20) rfl rfl Try.func57 (by kernel_rfl) rfl #[.pointer (some ⟨g, 0, none⟩), .int .i64 t136, .int .i64 t137] rfl (by (try simp only [List.map_toArray, List.map_cons, List.map_nil]); first | done | rfl | (simp only [List.length_drop, List.length_take]; rfl)) ?_; (with_reducible refine (wire_Reader_take.calls g t138 t139 t140 t136 t137 false t142 t143 t144 w0 _ ?side1 ?side2 A7.out).mono ?_); (case side1 => repeat (first | (with_reducible first | exact HI0.out | apply IsS83.alloc | apply IsS83.drewN | apply IsS83.drew | apply IsS83.set_0 | apply IsS83.set_1 | apply IsS83.set_2) | exact HI0.out)); (case side2 => repeat (first | (with_reducible first | exact HB.out | apply below_alloc | apply pw_below_drewN | apply below_drew1 | refine below_set ?_ (IsS83.ge HI0.out)) | exact HB.out)); rintro e w14 ⟨rfl, hi, hb, hk⟩; refine ⟨_, rfl, ?_⟩; have n0_ := Aside0.mk (KeepBut.trans (by repeat (first | (with_reducible first | exact HK.out | apply KeepBut.set_ | apply keep_drewN | apply keep_drew | apply keep_alloc) | exact HK.out)) hk (.inl rfl)); have n1_ := Aside0.mk (hb); have n2_ := Aside0.mk (hi); clear HK; clear HB; clear HI0; have HK := n0_; have HB := n1_; have HI0 := n2_; clear n0_ n1_ n2_; (try clear hb); (try clear hb2); (try clear hk); (try clear hi)))
      go_ret
      exact ⟨by first | rfl | (simp [errW_none, errW_some] <;> rfl) | (simp [*, errW_none, errW_some] <;> rfl), by repeat (first | (with_reducible first | exact HI0.out | apply IsS83.alloc | apply IsS83.drewN | apply IsS83.drew | apply IsS83.set_0 | apply IsS83.set_1 | apply IsS83.set_2) | exact HI0.out), by repeat (first | (with_reducible first | exact HB.out | apply below_alloc | apply pw_below_drewN | apply below_drew1 | refine below_set ?_ (IsS83.ge HI0.out)) | exact HB.out), by repeat (first | (with_reducible first | exact HK.out | apply KeepBut.set_ | apply keep_drewN | apply keep_drew | apply keep_alloc) | exact HK.out)⟩

/-! ### wire_Reader_Error: function 34: given by this session's own walk -/
def wire_Reader_Error.f (s0_0 : Int) (s0_1 : Int) (s0_2 : ByteArray) : Option (Int × Int × Int × Int × ByteArray) := some (s0_1, if s0_1 = 0 then 0 else s0_0, s0_0, s0_1, s0_2)
theorem wire_Reader_Error.calls (g : Nat) (s0_0 : Int) (s0_1 : Int) (s0_2 : ByteArray) (r1 : Int) (r2 : Int) (r3 : Int) (r4 : Int) (r5 : ByteArray) (w0 w : World) (hI : IsS83 w0 w g s0_0 s0_1 s0_2) (hB : Below w0.heap.size w0 w) (h : wire_Reader_Error.f s0_0 s0_1 s0_2 = some (r1, r2, r3, r4, r5)) :
    Calls Try.prog 34 #[.pointer (some ⟨g, 0, none⟩)] w fun e w' => e = .returned (.tuple #[.int .i64 r1, .int .i64 r2]) ∧ IsS83 w0 w' g r3 r4 r5 ∧ Below w0.heap.size w0 w' ∧ KeepBut w w' g none := by
  have h := Option.some.inj h
  simp only [Prod.mk.injEq] at h
  obtain ⟨rfl, rfl, rfl, rfl, rfl⟩ := h
  have hc0 : w.cell? ⟨g, 0, none⟩ = some (.int .i64 s0_0) := by simp [World.cell?, hI.1]
  have hc : w.cell? ⟨g, 1, none⟩ = some (.int .i64 s0_1) := by simp [World.cell?, hI.1]
  have HI := Aside0.mk hI
  have HB := Aside0.mk hB
  have HL := Aside0.mk hI.lt
  by_cases he : s0_1 = 0
  · subst he
    have he' : ((0 : Int) == 0) = true := rfl
    rw [if_pos rfl]
    clear hI hB
    go_enter Try.func34, Try.ntmps34
    go_wp2
    go_ret2
    exact ⟨rfl, HI.out, HB.out, KeepBut.refl w g none⟩
  · have he' : (s0_1 == 0) = false := by simpa using he
    rw [if_neg he]
    clear hI hB he
    go_enter Try.func34, Try.ntmps34
    go_wp2
    go_quiet (fail)
    go_wp2
    go_ret2
    exact ⟨rfl, HI.out.drewN _, pw_below_drewN HB.out _, KeepBut.of_below (pw_below_drewN (Below.refl _ _) _) g none⟩


/-! ### wire_Reader_Left: function 35 -/
def wire_Reader_Left.f (s0_0 : Int) (s0_1 : Int) (s0_2 : ByteArray) : Option (Int × Int × Int × ByteArray) := (wire_Reader_stops.f s0_0 s0_1 s0_2).bind fun bt145 => (if bt145.1 = true then (some (0, bt145.2.1, bt145.2.2.1, bt145.2.2.2)) else (some (wrap64 ((bt145.2.2.2.size : Int) - bt145.2.1), bt145.2.1, bt145.2.2.1, bt145.2.2.2)))
set_option maxHeartbeats 8000000 in
set_option maxRecDepth 100000 in
theorem wire_Reader_Left.calls (g : Nat) (s0_0 : Int) (s0_1 : Int) (s0_2 : ByteArray) (r1 : Int) (r2 : Int) (r3 : Int) (r4 : ByteArray) (w0 w : World) (hI : IsS83 w0 w g s0_0 s0_1 s0_2) (hB : Below w0.heap.size w0 w) (h : wire_Reader_Left.f s0_0 s0_1 s0_2 = some (r1, r2, r3, r4)) :
    Calls Try.prog 35 #[.pointer (some ⟨g, 0, none⟩)] w fun e w' => e = .returned (.int .i64 r1) ∧ IsS83 w0 w' g r2 r3 r4 ∧ Below w0.heap.size w0 w' ∧ KeepBut w w' g none := by
  have HI0 := Aside0.mk hI
  have HK := Aside0.mk (KeepBut.refl w g none)
  have HL := Aside0.mk hB.size
  clear hI
  have HW0 := Aside0.mk hB.size
  have HB := Aside0.mk hB
  clear hB
  have H : ((wire_Reader_stops.f s0_0 s0_1 s0_2).bind fun bt145 => (if bt145.1 = true then (some (0, bt145.2.1, bt145.2.2.1, bt145.2.2.2)) else (some (wrap64 ((bt145.2.2.2.size : Int) - bt145.2.1), bt145.2.1, bt145.2.2.1, bt145.2.2.2)))) = some (r1, r2, r3, r4) := h
  clear h
  replace H := Option.bind_eq_some_iff.mp H
  obtain ⟨⟨t145, t146, t147, t148⟩, A20, H⟩ := H
  replace H : (if t145 = true then (some (0, t146, t147, t148)) else (some (wrap64 ((t148.size : Int) - t146), t146, t147, t148))) = some (r1, r2, r3, r4) := H
  have A2 := Aside0.mk A20
  clear A20
  by_cases c3 : t145 = true
  · subst c3
    have H1 : (some (0, t146, t147, t148)) = some (r1, r2, r3, r4) := by rw [if_pos rfl] at H; exact H
    clear H
    have H := H1
    clear H1
    simp only [Option.some.injEq, Prod.mk.injEq] at H
    obtain ⟨rfl, rfl, rfl, rfl⟩ := H
    go_enter Try.func35, Try.ntmps35
    go_wp2_with (first | (go_at_call 55; (with_reducible refine (wire_Reader_stops.calls g s0_0 s0_1 s0_2 true t146 t147 t148 w0 _ ?side1 ?side2 A2.out).mono ?_); (case side1 => repeat (first | (with_reducible first | exact HI0.out | apply IsS83.alloc | apply IsS83.drewN | apply IsS83.drew | apply IsS83.set_0 | apply IsS83.set_1 | apply IsS83.set_2) | exact HI0.out)); (case side2 => repeat (first | (with_reducible first | exact HB.out | apply below_alloc | apply pw_below_drewN | apply below_drew1 | refine below_set ?_ (IsS83.ge HI0.out)) | exact HB.out)); rintro e w4 ⟨rfl, hi, hb, hk⟩; have n0_ := Aside0.mk (KeepBut.trans (by repeat (first | (with_reducible first | exact HK.out | apply KeepBut.set_ | apply keep_drewN | apply keep_drew | apply keep_alloc) | exact HK.out)) hk (.inl rfl)); have n1_ := Aside0.mk (hb); have n2_ := Aside0.mk (hi); clear HK; clear HB; clear HI0; have HK := n0_; have HB := n1_; have HI0 := n2_; clear n0_ n1_ n2_; (try clear hb); (try clear hb2); (try clear hk); (try clear hi)))
    repeat (go_quiet (first | (go_at_call 55; (with_reducible refine (wire_Reader_stops.calls g s0_0 s0_1 s0_2 true t146 t147 t148 w0 _ ?side1 ?side2 A2.out).mono ?_); (case side1 => repeat (first | (with_reducible first | exact HI0.out | apply IsS83.alloc | apply IsS83.drewN | apply IsS83.drew | apply IsS83.set_0 | apply IsS83.set_1 | apply IsS83.set_2) | exact HI0.out)); (case side2 => repeat (first | (with_reducible first | exact HB.out | apply below_alloc | apply pw_below_drewN | apply below_drew1 | refine below_set ?_ (IsS83.ge HI0.out)) | exact HB.out)); rintro e w4 ⟨rfl, hi, hb, hk⟩; have n0_ := Aside0.mk (KeepBut.trans (by repeat (first | (with_reducible first | exact HK.out | apply KeepBut.set_ | apply keep_drewN | apply keep_drew | apply keep_alloc) | exact HK.out)) hk (.inl rfl)); have n1_ := Aside0.mk (hb); have n2_ := Aside0.mk (hi); clear HK; clear HB; clear HI0; have HK := n0_; have HB := n1_; have HI0 := n2_; clear n0_ n1_ n2_; (try clear hb); (try clear hb2); (try clear hk); (try clear hi))); try go_wp2_with (first | (go_at_call 55; (with_reducible refine (wire_Reader_stops.calls g s0_0 s0_1 s0_2 true t146 t147 t148 w0 _ ?side1 ?side2 A2.out).mono ?_); (case side1 => repeat (first | (with_reducible first | exact HI0.out | apply IsS83.alloc | apply IsS83.drewN | apply IsS83.drew | apply IsS83.set_0 | apply IsS83.set_1 | apply IsS83.set_2) | exact HI0.out)); (case side2 => repeat (first | (with_reducible first | exact HB.out | apply below_alloc | apply pw_below_drewN | apply below_drew1 | refine below_set ?_ (IsS83.ge HI0.out)) | exact HB.out)); rintro e w4 ⟨rfl, hi, hb, hk⟩; have n0_ := Aside0.mk (KeepBut.trans (by repeat (first | (with_reducible first | exact HK.out | apply KeepBut.set_ | apply keep_drewN | apply keep_drew | apply keep_alloc) | exact HK.out)) hk (.inl rfl)); have n1_ := Aside0.mk (hb); have n2_ := Aside0.mk (hi); clear HK; clear HB; clear HI0; have HK := n0_; have HB := n1_; have HI0 := n2_; clear n0_ n1_ n2_; (try clear hb); (try clear hb2); (try clear hk); (try clear hi))))
    go_ret
    exact ⟨by first | rfl | (simp [errW_none, errW_some] <;> rfl) | (simp [*, errW_none, errW_some] <;> rfl), by repeat (first | (with_reducible first | exact HI0.out | apply IsS83.alloc | apply IsS83.drewN | apply IsS83.drew | apply IsS83.set_0 | apply IsS83.set_1 | apply IsS83.set_2) | exact HI0.out), by repeat (first | (with_reducible first | exact HB.out | apply below_alloc | apply pw_below_drewN | apply below_drew1 | refine below_set ?_ (IsS83.ge HI0.out)) | exact HB.out), by repeat (first | (with_reducible first | exact HK.out | apply KeepBut.set_ | apply keep_drewN | apply keep_drew | apply keep_alloc) | exact HK.out)⟩
  · replace c3 := Bool.eq_false_iff.mpr c3
    subst c3
    have H1 : (some (wrap64 ((t148.size : Int) - t146), t146, t147, t148)) = some (r1, r2, r3, r4) := by rw [if_neg (show ¬ (false = true) by decide)] at H; exact H
    clear H
    have H := H1
    clear H1
    simp only [Option.some.injEq, Prod.mk.injEq] at H
    obtain ⟨rfl, rfl, rfl, rfl⟩ := H
    go_enter Try.func35, Try.ntmps35
    go_wp2_with (first | (go_at_call 55; (with_reducible refine (wire_Reader_stops.calls g s0_0 s0_1 s0_2 false t146 t147 t148 w0 _ ?side1 ?side2 A2.out).mono ?_); (case side1 => repeat (first | (with_reducible first | exact HI0.out | apply IsS83.alloc | apply IsS83.drewN | apply IsS83.drew | apply IsS83.set_0 | apply IsS83.set_1 | apply IsS83.set_2) | exact HI0.out)); (case side2 => repeat (first | (with_reducible first | exact HB.out | apply below_alloc | apply pw_below_drewN | apply below_drew1 | refine below_set ?_ (IsS83.ge HI0.out)) | exact HB.out)); rintro e w5 ⟨rfl, hi, hb, hk⟩; have n0_ := Aside0.mk (KeepBut.trans (by repeat (first | (with_reducible first | exact HK.out | apply KeepBut.set_ | apply keep_drewN | apply keep_drew | apply keep_alloc) | exact HK.out)) hk (.inl rfl)); have n1_ := Aside0.mk (hb); have n2_ := Aside0.mk (hi); clear HK; clear HB; clear HI0; have HK := n0_; have HB := n1_; have HI0 := n2_; clear n0_ n1_ n2_; (try clear hb); (try clear hb2); (try clear hk); (try clear hi); obtain ⟨HGz6, hgz6⟩ := HI0.out; have hcz6_0 := cellS83_0 HGz6; have hcz6_1 := cellS83_1 HGz6; have hcz6_2 := cellS83_2 HGz6; have hfz6_0 := blk_frozen HGz6 0; have hfz6_1 := blk_frozen HGz6 1; have hfz6_2 := blk_frozen HGz6 2; clear HGz6 hgz6))
    repeat (go_quiet (first | (go_at_call 55; (with_reducible refine (wire_Reader_stops.calls g s0_0 s0_1 s0_2 false t146 t147 t148 w0 _ ?side1 ?side2 A2.out).mono ?_); (case side1 => repeat (first | (with_reducible first | exact HI0.out | apply IsS83.alloc | apply IsS83.drewN | apply IsS83.drew | apply IsS83.set_0 | apply IsS83.set_1 | apply IsS83.set_2) | exact HI0.out)); (case side2 => repeat (first | (with_reducible first | exact HB.out | apply below_alloc | apply pw_below_drewN | apply below_drew1 | refine below_set ?_ (IsS83.ge HI0.out)) | exact HB.out)); rintro e w5 ⟨rfl, hi, hb, hk⟩; have n0_ := Aside0.mk (KeepBut.trans (by repeat (first | (with_reducible first | exact HK.out | apply KeepBut.set_ | apply keep_drewN | apply keep_drew | apply keep_alloc) | exact HK.out)) hk (.inl rfl)); have n1_ := Aside0.mk (hb); have n2_ := Aside0.mk (hi); clear HK; clear HB; clear HI0; have HK := n0_; have HB := n1_; have HI0 := n2_; clear n0_ n1_ n2_; (try clear hb); (try clear hb2); (try clear hk); (try clear hi); obtain ⟨HGz6, hgz6⟩ := HI0.out; have hcz6_0 := cellS83_0 HGz6; have hcz6_1 := cellS83_1 HGz6; have hcz6_2 := cellS83_2 HGz6; have hfz6_0 := blk_frozen HGz6 0; have hfz6_1 := blk_frozen HGz6 1; have hfz6_2 := blk_frozen HGz6 2; clear HGz6 hgz6)); try go_wp2_with (first | (go_at_call 55; (with_reducible refine (wire_Reader_stops.calls g s0_0 s0_1 s0_2 false t146 t147 t148 w0 _ ?side1 ?side2 A2.out).mono ?_); (case side1 => repeat (first | (with_reducible first | exact HI0.out | apply IsS83.alloc | apply IsS83.drewN | apply IsS83.drew | apply IsS83.set_0 | apply IsS83.set_1 | apply IsS83.set_2) | exact HI0.out)); (case side2 => repeat (first | (with_reducible first | exact HB.out | apply below_alloc | apply pw_below_drewN | apply below_drew1 | refine below_set ?_ (IsS83.ge HI0.out)) | exact HB.out)); rintro e w5 ⟨rfl, hi, hb, hk⟩; have n0_ := Aside0.mk (KeepBut.trans (by repeat (first | (with_reducible first | exact HK.out | apply KeepBut.set_ | apply keep_drewN | apply keep_drew | apply keep_alloc) | exact HK.out)) hk (.inl rfl)); have n1_ := Aside0.mk (hb); have n2_ := Aside0.mk (hi); clear HK; clear HB; clear HI0; have HK := n0_; have HB := n1_; have HI0 := n2_; clear n0_ n1_ n2_; (try clear hb); (try clear hb2); (try clear hk); (try clear hi); obtain ⟨HGz6, hgz6⟩ := HI0.out; have hcz6_0 := cellS83_0 HGz6; have hcz6_1 := cellS83_1 HGz6; have hcz6_2 := cellS83_2 HGz6; have hfz6_0 := blk_frozen HGz6 0; have hfz6_1 := blk_frozen HGz6 1; have hfz6_2 := blk_frozen HGz6 2; clear HGz6 hgz6)))
    go_ret
    exact ⟨by first | rfl | (simp [errW_none, errW_some] <;> rfl) | (simp [*, errW_none, errW_some] <;> rfl), by repeat (first | (with_reducible first | exact HI0.out | apply IsS83.alloc | apply IsS83.drewN | apply IsS83.drew | apply IsS83.set_0 | apply IsS83.set_1 | apply IsS83.set_2) | exact HI0.out), by repeat (first | (with_reducible first | exact HB.out | apply below_alloc | apply pw_below_drewN | apply below_drew1 | refine below_set ?_ (IsS83.ge HI0.out)) | exact HB.out), by repeat (first | (with_reducible first | exact HK.out | apply KeepBut.set_ | apply keep_drewN | apply keep_drew | apply keep_alloc) | exact HK.out)⟩

end Go.Proofs.Ytaeocbbapnfcaaa.PWire
