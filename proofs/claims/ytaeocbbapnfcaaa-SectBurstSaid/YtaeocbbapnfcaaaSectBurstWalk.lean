/- The walk through SectBurst: with a section of at most 300 bytes, a bit of it, and 32 bits that aren't all 0, it comes to what the plain facts say; else to the fixed calls. -/
import Derived.Test.YtaeocbbapnfcaaaPSectx4
import Derived.Test.YtaeocbbapnfcaaaSectBurstPlain
import Derived.RegionTactic
import Derived.ChangeAlike
import Derived.BigRegion
namespace Go.Proofs.Ytaeocbbapnfcaaa.SectBurstWalk
open Go.RowKit Go.Proofs.Ytaeocbbapnfcaaa.PSect Go.Proofs.YtaeocbbapnfcaaaW.PrintWords Go.Proofs.YtaeocbbapnfcaaaW.PrintLast Base PutWalk GetWalk FixedWalk BRow WirePlain SectOnes SectSays SectPlain SectJoinWalk SectPure SectBurstPlain
set_option linter.unusedVariables false
set_option linter.unusedSimpArgs false

theorem fixed1 (w : World) : Calls Try.prog 41 #[] w fun e w' => e = .returned (.bool true) ∧ Below w.heap.size w w' := transhumancelaw03_fixed.calls true w rfl
theorem put1 (t : Int) (p : ByteArray) (w : World) : Calls Try.prog 46 #[.int .i64 t, .string p] w fun e w' => e = .returned (.string (secS t p)) ∧ Below w.heap.size w w' := sect_Put.calls 1 t p _ w (put_f 0 t p)
theorem get1 (u : ByteArray) (r1 : Int) (r2 : ByteArray) (r3 r4 : Int) (w : World) (hs : u.size ≤ 140737488351230) (h : sgetS u 0 = (r1, r2, r3, r4)) : Calls Try.prog 42 #[.string u, .int .i64 0] w fun e w' => e = .returned (.tuple #[.int .i64 r1, .string r2, .int .i64 r3, .int .i64 r4]) ∧ Below w.heap.size w w' :=
  sect_Get.calls u 0 r1 r2 r3 r4 w (by unfold sect_Get.f; rw [if_pos hs, h])
/-- A section in a block of its own. -/
def Boxed (g : Nat) (t : Int) (p : ByteArray) (w : World) : Prop := w.heap[g]? = some (.cells #[.int .i64 t, .string p] 65 (0, 0))
theorem boxed_cells {g : Nat} {t : Int} {p : ByteArray} {w : World} (h : Boxed g t p w) : w.cell? ⟨g, 0, none⟩ = some (.int .i64 t) ∧ w.cell? ⟨g, 1, none⟩ = some (.string p) := by
  unfold Boxed at h
  exact ⟨by simp [World.cell?, h], by simp [World.cell?, h]⟩
theorem boxed_lt {g : Nat} {t : Int} {p : ByteArray} {w : World} (h : Boxed g t p w) : g < w.heap.size := (Array.getElem?_eq_some_iff.1 h).1
theorem boxed_new (t : Int) (p : ByteArray) (w : World) : Boxed w.heap.size t p (w.alloc (.cells #[.int .i64 t, .string p] 65)) := heap_alloc_last w _
theorem boxed_below {g : Nat} {t : Int} {p : ByteArray} {w w1 : World} (h : Boxed g t p w) (hb : Below w.heap.size w w1) : Boxed g t p w1 := (hb.block g (boxed_lt h)).trans h
/-- Is the one section small? -/
theorem small1 (g : Nat) (t : Int) (p : ByteArray) (w : World) (b : Bool) (h : Boxed g t p w) (hb : decide (p.size ≤ 300) = b) : Calls Try.prog 40 #[.slice (some ⟨g, 0, none⟩) 1 1] w fun e w' => e = .returned (.bool b) ∧ Below w.heap.size w w' := by
  have hc := boxed_cells h
  have hC : Kd.C k65 w (some ⟨g, 0, none⟩) ([(⟨t, p⟩ : S65)] : List S65).length [(⟨t, p⟩ : S65)] := by
    refine ⟨rfl, (by show 1 ≤ 9223372036854775807; omega), fun _ => ⟨⟨g, 0, none⟩, rfl, fun j q hj => ?_⟩⟩
    match j, hj with
    | 0, hj =>
      simp at hj
      subst hj
      refine ⟨_, rfl, k65_mk w _, fun i u hu => ?_⟩
      match i, hu with
      | 0, hu => simp at hu; subst hu; exact hc.1
      | 1, hu => simp at hu; subst hu; exact hc.2
  have hf : transhumanceref03_Small.f 10 [(⟨t, p⟩ : S65)] = some b := by
    unfold transhumanceref03_Small.f
    simp only [transhumanceref03_Small.l0, transhumanceref03_Small.j1]
    by_cases hp : p.size ≤ 300
    · rw [decide_eq_true hp] at hb
      subst hb
      have e : ((rd_T65 [(⟨t, p⟩ : S65)] 0).f1.size : Int) = (p.size : Int) := rfl
      rw [e]
      simp [wrap64]
      omega
    · rw [decide_eq_false hp] at hb
      subst hb
      have e : ((rd_T65 [(⟨t, p⟩ : S65)] 0).f1.size : Int) = (p.size : Int) := rfl
      rw [e]
      simp
      omega
  exact (transhumanceref03_Small.calls 10 _ 1 _ b w hC (Nat.le_refl _) hf).mono fun e w' h => ⟨h.1, h.2.below⟩
set_option maxHeartbeats 1600000 in
set_option maxRecDepth 100000 in
theorem burst_big (t : Int) (p : ByteArray) (bit flips : Int) (w : World) (hp : ¬ p.size ≤ 300) :
    Calls Try.prog 16 #[.agg #[.int .i64 t, .string p], .int .i64 bit, .int .i64 flips] w fun e w' => e = .returned (.bool true) ∧ Below w.heap.size w w' := by
  have HS := Aside0.mk (show decide (p.size ≤ 300) = false from decide_eq_false hp)
  clear hp
  go_enter Try.func16, Try.ntmps16
  go_wp2_with fail
  (go_at_call 41; (with_reducible refine (fixed1 _).mono ?_); rintro e w1 ⟨rfl, hb⟩; have HB := Aside0.mk (below_then ((Below.refl w.heap.size w).alloc (Nat.le_refl _) _) (by simp) hb); have HX := Aside0.mk (boxed_below (boxed_new t p w) hb); clear hb; obtain ⟨hc0, hc1⟩ := boxed_cells HX.out)
  go_wp2_with fail
  (go_at_call 40; (with_reducible refine (small1 w1.heap.size t p _ _ (boxed_new t p w1) HS.out).mono ?_); rintro e w2 ⟨rfl, hb⟩; have hb2 := below_then ((Below.refl w1.heap.size w1).alloc (Nat.le_refl _) _) (by simp) hb; clear hb; have hb := hb2; clear hb2; have n0 := Aside0.mk (below_then HB.out HB.out.size hb); have n1 := Aside0.mk (boxed_below HX.out hb); clear HB HX hb; have HB := n0; have HX := n1; clear n0 n1; (try clear hc0 hc1); obtain ⟨hc0, hc1⟩ := boxed_cells HX.out)
  go_wp2_with (go_at_call 41; (with_reducible refine (fixed1 _).mono ?_); rintro e w9 ⟨rfl, hb⟩; have n0 := Aside0.mk (below_then HB.out HB.out.size hb); have n1 := Aside0.mk (boxed_below HX.out hb); clear HB HX hb; have HB := n0; have HX := n1; clear n0 n1; (try clear hc0 hc1); obtain ⟨hc0, hc1⟩ := boxed_cells HX.out)
  go_ret
  exact ⟨rfl, HB.out⟩

set_option maxHeartbeats 1600000 in
set_option maxRecDepth 100000 in
theorem burst_low (t : Int) (p : ByteArray) (bit flips : Int) (w : World) (hp : p.size ≤ 300) (h1 : t < 0) :
    Calls Try.prog 16 #[.agg #[.int .i64 t, .string p], .int .i64 bit, .int .i64 flips] w fun e w' => e = .returned (.bool true) ∧ Below w.heap.size w w' := by
  have HS := Aside0.mk (show decide (p.size ≤ 300) = true from decide_eq_true hp)
  have g1 : decide (t < 0) = true := decide_eq_true (by omega)
  clear hp h1
  go_enter Try.func16, Try.ntmps16
  go_wp2_with fail
  (go_at_call 41; (with_reducible refine (fixed1 _).mono ?_); rintro e w1 ⟨rfl, hb⟩; have HB := Aside0.mk (below_then ((Below.refl w.heap.size w).alloc (Nat.le_refl _) _) (by simp) hb); have HX := Aside0.mk (boxed_below (boxed_new t p w) hb); clear hb; obtain ⟨hc0, hc1⟩ := boxed_cells HX.out)
  go_wp2_with fail
  (go_at_call 40; (with_reducible refine (small1 w1.heap.size t p _ _ (boxed_new t p w1) HS.out).mono ?_); rintro e w2 ⟨rfl, hb⟩; have hb2 := below_then ((Below.refl w1.heap.size w1).alloc (Nat.le_refl _) _) (by simp) hb; clear hb; have hb := hb2; clear hb2; have n0 := Aside0.mk (below_then HB.out HB.out.size hb); have n1 := Aside0.mk (boxed_below HX.out hb); clear HB HX hb; have HB := n0; have HX := n1; clear n0 n1; (try clear hc0 hc1); obtain ⟨hc0, hc1⟩ := boxed_cells HX.out)
  go_wp2_with (go_at_call 41; (with_reducible refine (fixed1 _).mono ?_); rintro e w9 ⟨rfl, hb⟩; have n0 := Aside0.mk (below_then HB.out HB.out.size hb); have n1 := Aside0.mk (boxed_below HX.out hb); clear HB HX hb; have HB := n0; have HX := n1; clear n0 n1; (try clear hc0 hc1); obtain ⟨hc0, hc1⟩ := boxed_cells HX.out)
  go_ret
  exact ⟨rfl, HB.out⟩

set_option maxHeartbeats 1600000 in
set_option maxRecDepth 100000 in
theorem burst_high (t : Int) (p : ByteArray) (bit flips : Int) (w : World) (hp : p.size ≤ 300) (h1 : 0 ≤ t) (h2 : 255 < t) :
    Calls Try.prog 16 #[.agg #[.int .i64 t, .string p], .int .i64 bit, .int .i64 flips] w fun e w' => e = .returned (.bool true) ∧ Below w.heap.size w w' := by
  have HS := Aside0.mk (show decide (p.size ≤ 300) = true from decide_eq_true hp)
  have g1 : decide (t < 0) = false := decide_eq_false (by omega)
  have g2 : decide (255 < t) = true := decide_eq_true (by omega)
  clear hp h1 h2
  go_enter Try.func16, Try.ntmps16
  go_wp2_with fail
  (go_at_call 41; (with_reducible refine (fixed1 _).mono ?_); rintro e w1 ⟨rfl, hb⟩; have HB := Aside0.mk (below_then ((Below.refl w.heap.size w).alloc (Nat.le_refl _) _) (by simp) hb); have HX := Aside0.mk (boxed_below (boxed_new t p w) hb); clear hb; obtain ⟨hc0, hc1⟩ := boxed_cells HX.out)
  go_wp2_with fail
  (go_at_call 40; (with_reducible refine (small1 w1.heap.size t p _ _ (boxed_new t p w1) HS.out).mono ?_); rintro e w2 ⟨rfl, hb⟩; have hb2 := below_then ((Below.refl w1.heap.size w1).alloc (Nat.le_refl _) _) (by simp) hb; clear hb; have hb := hb2; clear hb2; have n0 := Aside0.mk (below_then HB.out HB.out.size hb); have n1 := Aside0.mk (boxed_below HX.out hb); clear HB HX hb; have HB := n0; have HX := n1; clear n0 n1; (try clear hc0 hc1); obtain ⟨hc0, hc1⟩ := boxed_cells HX.out)
  go_wp2_with (go_at_call 41; (with_reducible refine (fixed1 _).mono ?_); rintro e w9 ⟨rfl, hb⟩; have n0 := Aside0.mk (below_then HB.out HB.out.size hb); have n1 := Aside0.mk (boxed_below HX.out hb); clear HB HX hb; have HB := n0; have HX := n1; clear n0 n1; (try clear hc0 hc1); obtain ⟨hc0, hc1⟩ := boxed_cells HX.out)
  go_ret
  exact ⟨rfl, HB.out⟩

set_option maxHeartbeats 1600000 in
set_option maxRecDepth 100000 in
theorem burst_bit0 (t : Int) (p : ByteArray) (bit flips : Int) (w : World) (hp : p.size ≤ 300) (h1 : 0 ≤ t) (h2 : t ≤ 255) (h3 : bit < 0) :
    Calls Try.prog 16 #[.agg #[.int .i64 t, .string p], .int .i64 bit, .int .i64 flips] w fun e w' => e = .returned (.bool true) ∧ Below w.heap.size w w' := by
  have HS := Aside0.mk (show decide (p.size ≤ 300) = true from decide_eq_true hp)
  have g1 : decide (t < 0) = false := decide_eq_false (by omega)
  have g2 : decide (255 < t) = false := decide_eq_false (by omega)
  have g3 : decide (bit < 0) = true := decide_eq_true (by omega)
  clear hp h1 h2 h3
  go_enter Try.func16, Try.ntmps16
  go_wp2_with fail
  (go_at_call 41; (with_reducible refine (fixed1 _).mono ?_); rintro e w1 ⟨rfl, hb⟩; have HB := Aside0.mk (below_then ((Below.refl w.heap.size w).alloc (Nat.le_refl _) _) (by simp) hb); have HX := Aside0.mk (boxed_below (boxed_new t p w) hb); clear hb; obtain ⟨hc0, hc1⟩ := boxed_cells HX.out)
  go_wp2_with fail
  (go_at_call 40; (with_reducible refine (small1 w1.heap.size t p _ _ (boxed_new t p w1) HS.out).mono ?_); rintro e w2 ⟨rfl, hb⟩; have hb2 := below_then ((Below.refl w1.heap.size w1).alloc (Nat.le_refl _) _) (by simp) hb; clear hb; have hb := hb2; clear hb2; have n0 := Aside0.mk (below_then HB.out HB.out.size hb); have n1 := Aside0.mk (boxed_below HX.out hb); clear HB HX hb; have HB := n0; have HX := n1; clear n0 n1; (try clear hc0 hc1); obtain ⟨hc0, hc1⟩ := boxed_cells HX.out)
  go_wp2_with (go_at_call 41; (with_reducible refine (fixed1 _).mono ?_); rintro e w9 ⟨rfl, hb⟩; have n0 := Aside0.mk (below_then HB.out HB.out.size hb); have n1 := Aside0.mk (boxed_below HX.out hb); clear HB HX hb; have HB := n0; have HX := n1; clear n0 n1; (try clear hc0 hc1); obtain ⟨hc0, hc1⟩ := boxed_cells HX.out)
  go_ret
  exact ⟨rfl, HB.out⟩

set_option maxHeartbeats 1600000 in
set_option maxRecDepth 100000 in
theorem burst_bit1 (t : Int) (p : ByteArray) (bit flips : Int) (w : World) (hp : p.size ≤ 300) (h1 : 0 ≤ t) (h2 : t ≤ 255) (h3 : 0 ≤ bit) (h4 : 8 * (p.size : Int) ≤ bit) :
    Calls Try.prog 16 #[.agg #[.int .i64 t, .string p], .int .i64 bit, .int .i64 flips] w fun e w' => e = .returned (.bool true) ∧ Below w.heap.size w w' := by
  have HS := Aside0.mk (show decide (p.size ≤ 300) = true from decide_eq_true hp)
  have g1 : decide (t < 0) = false := decide_eq_false (by omega)
  have g2 : decide (255 < t) = false := decide_eq_false (by omega)
  have g3 : decide (bit < 0) = false := decide_eq_false (by omega)
  have g4 : decide (8 * (p.size : Int) ≤ bit) = true := decide_eq_true (by omega)
  have e8 : wrap64 (8 * (p.size : Int)) = 8 * (p.size : Int) := wrap_id (by omega) (by omega)
  clear hp h1 h2 h3 h4
  go_enter Try.func16, Try.ntmps16
  go_wp2_with fail
  (go_at_call 41; (with_reducible refine (fixed1 _).mono ?_); rintro e w1 ⟨rfl, hb⟩; have HB := Aside0.mk (below_then ((Below.refl w.heap.size w).alloc (Nat.le_refl _) _) (by simp) hb); have HX := Aside0.mk (boxed_below (boxed_new t p w) hb); clear hb; obtain ⟨hc0, hc1⟩ := boxed_cells HX.out)
  go_wp2_with fail
  (go_at_call 40; (with_reducible refine (small1 w1.heap.size t p _ _ (boxed_new t p w1) HS.out).mono ?_); rintro e w2 ⟨rfl, hb⟩; have hb2 := below_then ((Below.refl w1.heap.size w1).alloc (Nat.le_refl _) _) (by simp) hb; clear hb; have hb := hb2; clear hb2; have n0 := Aside0.mk (below_then HB.out HB.out.size hb); have n1 := Aside0.mk (boxed_below HX.out hb); clear HB HX hb; have HB := n0; have HX := n1; clear n0 n1; (try clear hc0 hc1); obtain ⟨hc0, hc1⟩ := boxed_cells HX.out)
  go_wp2_with (go_at_call 41; (with_reducible refine (fixed1 _).mono ?_); rintro e w9 ⟨rfl, hb⟩; have n0 := Aside0.mk (below_then HB.out HB.out.size hb); have n1 := Aside0.mk (boxed_below HX.out hb); clear HB HX hb; have HB := n0; have HX := n1; clear n0 n1; (try clear hc0 hc1); obtain ⟨hc0, hc1⟩ := boxed_cells HX.out)
  go_ret
  exact ⟨rfl, HB.out⟩

set_option maxHeartbeats 1600000 in
set_option maxRecDepth 100000 in
theorem burst_flip0 (t : Int) (p : ByteArray) (bit flips : Int) (w : World) (hp : p.size ≤ 300) (h1 : 0 ≤ t) (h2 : t ≤ 255) (h3 : 0 ≤ bit) (h4 : bit < 8 * (p.size : Int)) (h5 : flips < 1) :
    Calls Try.prog 16 #[.agg #[.int .i64 t, .string p], .int .i64 bit, .int .i64 flips] w fun e w' => e = .returned (.bool true) ∧ Below w.heap.size w w' := by
  have HS := Aside0.mk (show decide (p.size ≤ 300) = true from decide_eq_true hp)
  have g1 : decide (t < 0) = false := decide_eq_false (by omega)
  have g2 : decide (255 < t) = false := decide_eq_false (by omega)
  have g3 : decide (bit < 0) = false := decide_eq_false (by omega)
  have g4 : decide (8 * (p.size : Int) ≤ bit) = false := decide_eq_false (by omega)
  have g5 : decide (flips < 1) = true := decide_eq_true (by omega)
  have e8 : wrap64 (8 * (p.size : Int)) = 8 * (p.size : Int) := wrap_id (by omega) (by omega)
  clear hp h1 h2 h3 h4 h5
  go_enter Try.func16, Try.ntmps16
  go_wp2_with fail
  (go_at_call 41; (with_reducible refine (fixed1 _).mono ?_); rintro e w1 ⟨rfl, hb⟩; have HB := Aside0.mk (below_then ((Below.refl w.heap.size w).alloc (Nat.le_refl _) _) (by simp) hb); have HX := Aside0.mk (boxed_below (boxed_new t p w) hb); clear hb; obtain ⟨hc0, hc1⟩ := boxed_cells HX.out)
  go_wp2_with fail
  (go_at_call 40; (with_reducible refine (small1 w1.heap.size t p _ _ (boxed_new t p w1) HS.out).mono ?_); rintro e w2 ⟨rfl, hb⟩; have hb2 := below_then ((Below.refl w1.heap.size w1).alloc (Nat.le_refl _) _) (by simp) hb; clear hb; have hb := hb2; clear hb2; have n0 := Aside0.mk (below_then HB.out HB.out.size hb); have n1 := Aside0.mk (boxed_below HX.out hb); clear HB HX hb; have HB := n0; have HX := n1; clear n0 n1; (try clear hc0 hc1); obtain ⟨hc0, hc1⟩ := boxed_cells HX.out)
  go_wp2_with (go_at_call 41; (with_reducible refine (fixed1 _).mono ?_); rintro e w9 ⟨rfl, hb⟩; have n0 := Aside0.mk (below_then HB.out HB.out.size hb); have n1 := Aside0.mk (boxed_below HX.out hb); clear HB HX hb; have HB := n0; have HX := n1; clear n0 n1; (try clear hc0 hc1); obtain ⟨hc0, hc1⟩ := boxed_cells HX.out)
  go_ret
  exact ⟨rfl, HB.out⟩

set_option maxHeartbeats 1600000 in
set_option maxRecDepth 100000 in
theorem burst_flip1 (t : Int) (p : ByteArray) (bit flips : Int) (w : World) (hp : p.size ≤ 300) (h1 : 0 ≤ t) (h2 : t ≤ 255) (h3 : 0 ≤ bit) (h4 : bit < 8 * (p.size : Int)) (h5 : 1 ≤ flips) (h6 : 4294967296 ≤ flips) :
    Calls Try.prog 16 #[.agg #[.int .i64 t, .string p], .int .i64 bit, .int .i64 flips] w fun e w' => e = .returned (.bool true) ∧ Below w.heap.size w w' := by
  have HS := Aside0.mk (show decide (p.size ≤ 300) = true from decide_eq_true hp)
  have g1 : decide (t < 0) = false := decide_eq_false (by omega)
  have g2 : decide (255 < t) = false := decide_eq_false (by omega)
  have g3 : decide (bit < 0) = false := decide_eq_false (by omega)
  have g4 : decide (8 * (p.size : Int) ≤ bit) = false := decide_eq_false (by omega)
  have g5 : decide (flips < 1) = false := decide_eq_false (by omega)
  have g6 : decide (4294967296 ≤ flips) = true := decide_eq_true (by omega)
  have e8 : wrap64 (8 * (p.size : Int)) = 8 * (p.size : Int) := wrap_id (by omega) (by omega)
  clear hp h1 h2 h3 h4 h5 h6
  go_enter Try.func16, Try.ntmps16
  go_wp2_with fail
  (go_at_call 41; (with_reducible refine (fixed1 _).mono ?_); rintro e w1 ⟨rfl, hb⟩; have HB := Aside0.mk (below_then ((Below.refl w.heap.size w).alloc (Nat.le_refl _) _) (by simp) hb); have HX := Aside0.mk (boxed_below (boxed_new t p w) hb); clear hb; obtain ⟨hc0, hc1⟩ := boxed_cells HX.out)
  go_wp2_with fail
  (go_at_call 40; (with_reducible refine (small1 w1.heap.size t p _ _ (boxed_new t p w1) HS.out).mono ?_); rintro e w2 ⟨rfl, hb⟩; have hb2 := below_then ((Below.refl w1.heap.size w1).alloc (Nat.le_refl _) _) (by simp) hb; clear hb; have hb := hb2; clear hb2; have n0 := Aside0.mk (below_then HB.out HB.out.size hb); have n1 := Aside0.mk (boxed_below HX.out hb); clear HB HX hb; have HB := n0; have HX := n1; clear n0 n1; (try clear hc0 hc1); obtain ⟨hc0, hc1⟩ := boxed_cells HX.out)
  go_wp2_with (go_at_call 41; (with_reducible refine (fixed1 _).mono ?_); rintro e w9 ⟨rfl, hb⟩; have n0 := Aside0.mk (below_then HB.out HB.out.size hb); have n1 := Aside0.mk (boxed_below HX.out hb); clear HB HX hb; have HB := n0; have HX := n1; clear n0 n1; (try clear hc0 hc1); obtain ⟨hc0, hc1⟩ := boxed_cells HX.out)
  go_ret
  exact ⟨rfl, HB.out⟩
theorem bit_int (flips k : Nat) (h : flips < 4294967296) : Go.bits .and .i64 ((flips : Int) / 2 ^ k) 1 = if flips.testBit k = true then 1 else 0 := by
  have e1 : ((flips : Int) / 2 ^ k) = ((flips / 2 ^ k : Nat) : Int) := by simp
  have l : flips / 2 ^ k < 9223372036854775808 := Nat.lt_of_le_of_lt (Nat.div_le_self _ _) (by omega)
  rw [e1, show (1 : Int) = ((1 : Nat) : Int) from rfl, i64_and _ 1 l (by omega), nat_mask1, Nat.testBit_eq_decide_div_mod_eq]
  rcases Nat.mod_two_eq_zero_or_one (flips / 2 ^ k) with h | h <;> simp [h]
theorem turn_int (x m : Nat) (hx : x < 256) (hm : m < 8) : Go.bits .xor .u8 (x : Int) (2 ^ m % 256) = ((x ^^^ 2 ^ m : Nat) : Int) := by
  have h2 : 2 ^ m < 2 ^ 8 := Nat.pow_lt_pow_right (by omega) hm
  have e : ((2 : Int) ^ m % 256) = ((2 ^ m : Nat) : Int) := by
    have e1 : ((2 : Int) ^ m) = ((2 ^ m : Nat) : Int) := by simp
    rw [e1]
    exact Int.emod_eq_of_lt (Int.natCast_nonneg _) (Int.ofNat_lt.2 h2)
  rw [e]
  exact u8_xor_nat x (2 ^ m) hx h2
theorem boxed_set {g h j : Nat} {t : Int} {p : ByteArray} {w : World} (hb : Boxed g t p w) (hne : g ≠ h) (v : Value) : Boxed g t p (w.setCell ⟨h, j, none⟩ v) := (Below.heap_setCell w ⟨h, j, none⟩ v g hne).trans hb
theorem boxed_drew {g : Nat} {t : Int} {p : ByteArray} {w : World} (hb : Boxed g t p w) : Boxed g t p w.drew := hb
set_option maxHeartbeats 3200000 in
set_option maxRecDepth 100000 in
theorem burst_in (t : Nat) (p : ByteArray) (bit flips : Nat) (w : World) (ht : t < 256) (hp : p.size ≤ 300) (h2 : bit < 8 * p.size) (h3 : 1 ≤ flips) (h4 : flips < 4294967296) :
    Calls Try.prog 16 #[.agg #[.int .i64 (t : Int), .string p], .int .i64 (bit : Int), .int .i64 (flips : Int)] w fun e w' => e = .returned (.bool true) ∧ Below w.heap.size w w' := by
  have HS := Aside0.mk (show decide (p.size ≤ 300) = true from decide_eq_true hp)
  have g1 : decide ((t : Int) < 0) = false := decide_eq_false (by omega)
  have g2 : decide (255 < (t : Int)) = false := decide_eq_false (by omega)
  have g3 : decide ((bit : Int) < 0) = false := decide_eq_false (by omega)
  have e8 : wrap64 (8 * (p.size : Int)) = 8 * (p.size : Int) := wrap_id (by omega) (by omega)
  have g4 : decide (8 * (p.size : Int) ≤ (bit : Int)) = false := decide_eq_false (by omega)
  have g5 : decide ((flips : Int) < 1) = false := decide_eq_false (by omega)
  have g6 : decide (4294967296 ≤ (flips : Int)) = false := decide_eq_false (by omega)
  obtain ⟨s, hs⟩ : ∃ s, secS (t : Int) p = s := ⟨_, rfl⟩
  have hsz : s.size = from_ p + p.size + 4 := by rw [← hs, SectPlain.sec_size t p ht (by omega)]; unfold from_; omega
  have hfp : 2 ≤ from_ p ∧ from_ p ≤ 8 := by
    have h7 := vput_pos 7 p.size
    have h8 := vput_len 6 7 p.size (by omega)
    unfold from_
    omega
  have hbs : s.data.toList.map UInt8.toNat = turned t p bit flips 0 := by rw [turned_zero, ← bs_sec t p ht (by omega), hs]; rfl
  obtain ⟨fr, hfr⟩ : ∃ fr, from_ p = fr := ⟨_, rfl⟩
  rw [hfr] at hsz hfp
  have HBS := Aside0.mk hbs
  have HFR := Aside0.mk hfr
  have HSS := Aside0.mk hs
  have hput : ∀ W : World, Calls Try.prog 46 #[.int .i64 (t : Int), .string p] W fun e w' => e = .returned (.string s) ∧ Below W.heap.size W w' := fun W => by rw [← hs]; exact put1 t p W
  have HPUT := Aside0.mk hput
  have g7 : decide ((s.size : Int) < (p.size : Int) + 6) = false := decide_eq_false (by omega)
  have k1 : (s.size : Int) - 4 - (p.size : Int) = (fr : Int) := by omega
  have k2 : (s.size : Int) ≤ 400 := by omega
  have k3 : (p.size : Int) ≤ 300 := by omega
  have HZ := Aside0.mk hsz
  have HF := Aside0.mk hfp
  have H2 := Aside0.mk h2
  have H4 := Aside0.mk h4
  have HT := Aside0.mk ht
  have HP := Aside0.mk hp
  have k0 : (4 : Int) ≤ (s.size : Int) := by omega
  have k4 : (p.size : Int) ≤ (s.size : Int) - 4 := by omega
  clear hbs hfr hs hput hsz hfp h2 h3 h4 ht hp
  have hcv := fun W => Lib.run_convert_string_bytes (P := Try.prog) W 9 27 5 s Try.underlying9 Try.underlying27 Try.underlying5
  go_enter Try.func16, Try.ntmps16
  go_wp2_with fail
  (go_at_call 41; (with_reducible refine (fixed1 _).mono ?_); rintro e w1 ⟨rfl, hb⟩; have HB := Aside0.mk (below_then ((Below.refl w.heap.size w).alloc (Nat.le_refl _) _) (by simp) hb); have HX := Aside0.mk (boxed_below (boxed_new (t : Int) p w) hb); clear hb; obtain ⟨hc0, hc1⟩ := boxed_cells HX.out)
  go_wp2_with fail
  (go_at_call 40; (with_reducible refine (small1 w1.heap.size (t : Int) p _ _ (boxed_new (t : Int) p w1) HS.out).mono ?_); rintro e w2 ⟨rfl, hb⟩; have hb2 := below_then ((Below.refl w1.heap.size w1).alloc (Nat.le_refl _) _) (by simp) hb; clear hb; have hb := hb2; clear hb2; have n0 := Aside0.mk (below_then HB.out HB.out.size hb); have n1 := Aside0.mk (boxed_below HX.out hb); clear HB HX hb; have HB := n0; have HX := n1; clear n0 n1; (try clear hc0 hc1); obtain ⟨hc0, hc1⟩ := boxed_cells HX.out)
  go_upto_region 7 with (go_at_call 46; (with_reducible refine (HPUT.out _).mono ?_); rintro e w3 ⟨rfl, hb⟩; have n0 := Aside0.mk (below_then HB.out HB.out.size hb); have n1 := Aside0.mk (boxed_below HX.out hb); clear HB HX hb; have HB := n0; have HX := n1; clear n0 n1; (try clear hc0 hc1); obtain ⟨hc0, hc1⟩ := boxed_cells HX.out)
  have HR := Aside0.mk (made w3 s)
  have HB1 := Aside0.mk (below_then HB.out HB.out.size (made_below w3 s))
  have HX1 := Aside0.mk (boxed_below HX.out (made_below w3 s))
  have HG := Aside0.mk HB.out.size
  have HNE := Aside0.mk (show w.heap.size ≠ w3.heap.size from Nat.ne_of_lt (boxed_lt HX.out))
  clear hc0 hc1
  clear HB HX hcv HPUT g1 g2 g3 g4 g5 g6 g7 HS
  rw [HBS.out] at HR
  generalize grownCap w3 s.size 0 5 = cap
  generalize Lib.bytesWorld w3 5 s = w4 at *
  generalize w3.heap.size = g at *
  obtain ⟨hc0, hc1⟩ := boxed_cells HX1.out
  go_wp2
  go_loopg [10] 32 (fun d v10 wx => ∃ k : Nat, k + d = 32 ∧ v10 = .int .i64 (k : Int) ∧ Aside0 (BRow wx g (turned t p bit flips k)) ∧ Aside0 (Boxed w.heap.size (t : Int) p wx) ∧ Aside0 (Below w.heap.size w wx))
  case atStart => exact ⟨0, by omega, rfl, HR, HX1, HB1⟩
  case round =>
    obtain ⟨k, hk, rfl, HR1, HX2, HB2⟩ := hrel
    clear HR HB1 HX1 hc0 hc1
    obtain ⟨hc0, hc1⟩ := boxed_cells HX2.out
    cases gk with
    | zero =>
      obtain rfl : k = 32 := by omega
      clear hk hc0 hc1
      obtain ⟨u, hu⟩ : ∃ u : ByteArray, u = text (turned t p bit flips 32) := ⟨_, rfl⟩
      have hus : u.size = s.size := by rw [hu, text_size, turned_length, HFR.out, HZ.out]
      have hconv : ∀ W : World, BRow W g (turned t p bit flips 32) → (convert 27 9 (.slice (some ⟨g, 0, none⟩) s.size cap)).run Try.prog W = .ok (.string u) W := fun W hW => by
        have := conv hW cap
        rw [turned_length, HFR.out, ← HZ.out] at this
        rw [hu]
        exact this
      have HS := Aside0.mk (show u.size ≤ 140737488351230 by omega)
      have hpl := burst_sect t p bit flips HT.out HP.out H2.out u hu
      rw [HSS.out] at hpl
      obtain ⟨r1, r2, r3, r4, hg⟩ : ∃ r1 r2 r3 r4, sgetS u 0 = (r1, r2, r3, r4) := ⟨_, _, _, _, rfl⟩
      rw [hg] at hpl
      have HG2 := Aside0.mk hg
      have h0 := hconv wr HR1.out
      have HC := Aside0.mk hconv
      clear hg hu hconv hus
      rcases hpl with ⟨he, h9⟩ | ⟨he, h9⟩
      · have h9' : r4 = 0 := h9
        subst h9'
        have q1 : (u.toList == s.toList) = true := beq_iff_eq.2 he
        clear he h9
        go_wp2_with (go_at_call 42; (with_reducible refine (get1 u _ _ _ _ _ HS.out HG2.out).mono ?_); rintro e w5 ⟨rfl, hb⟩; have HB3 := Aside0.mk (below_then HB2.out HB2.out.size hb); have h00 := HC.out w5 (BRow.below HR1.out hb); clear hb)
        go_ret
        exact ⟨rfl, HB3.out⟩
      · have h9' : r4 = 30 := h9
        subst h9'
        have q1 : (u.toList == s.toList) = false := beq_eq_false_iff_ne.2 he
        clear he h9
        go_wp2_with (go_at_call 42; (with_reducible refine (get1 u _ _ _ _ _ HS.out HG2.out).mono ?_); rintro e w5 ⟨rfl, hb⟩; have HB3 := Aside0.mk (below_then HB2.out HB2.out.size hb); have h00 := HC.out w5 (BRow.below HR1.out hb); clear hb)
        go_ret
        exact ⟨rfl, HB3.out⟩
    | succ d =>
      have hlt : (k : Int) < 32 := by omega
      have HK := Aside0.mk hk
      clear hk
      have hbit := bit_int flips k H4.out
      have h2 := H2.out
      have hp := HP.out
      by_cases hc : flips.testBit k = true ∧ bit + k < 8 * p.size
      · rw [if_pos hc.1] at hbit
        have hlt2 : (bit : Int) + (k : Int) < 8 * (p.size : Int) := by omega
        have hj8 : (bit + k) / 8 < p.size := by omega
        have hm8 : (bit + k) % 8 < 8 := by omega
        obtain ⟨j, hj⟩ : ∃ j : Nat, j = (bit + k) / 8 := ⟨_, rfl⟩
        obtain ⟨m, hm⟩ : ∃ m : Nat, m = (bit + k) % 8 := ⟨_, rfl⟩
        have hjm : 8 * j + m = bit + k := by omega
        rw [← hj] at hj8
        rw [← hm] at hm8
        have hjs : (fr : Int) + (j : Int) < (s.size : Int) := by have := HZ.out; omega
        have ej2 : ((bit : Int) + (k : Int)) / 8 = (j : Int) := by omega
        have em2 : ((bit : Int) + (k : Int)) % 8 = (m : Int) := by omega
        have hm8' : (m : Int) < 8 := by omega
        have ha0 : (0 : Int) ≤ (fr : Int) + (j : Int) := by omega
        have ha1 : ((fr : Int) + (j : Int)).toNat = fr + j := by omega
        obtain ⟨x, hx, hcell, hf⟩ := BRow.named HR1.out (fr + j) (by rw [turned_length, HFR.out]; omega)
        have HXX := Aside0.mk hx
        have HC := Aside0.mk hc
        have HJ := Aside0.mk hj
        have HM := Aside0.mk hm
        have HSET := fun y => Aside0.mk (BRow.set HR1.out (fr + j) y)
        clear hc hj hm hjm hj8 hm8 hx h2 hp
        go_wp2
        go_region
        go_wp2
        go_roundg d
        case measure => omega
        case rel =>
          refine ⟨k + 1, by have := HK.out; omega, by first | rfl | simp, ⟨?_⟩, ⟨boxed_drew (boxed_set HX2.out HNE.out _)⟩, ⟨below_drew (HB2.out.setCell HG.out _)⟩⟩
          have hx256 : x < 256 := by
            rw [HXX.out, List.getD_eq_getElem?_getD]
            cases e : (turned t p bit flips k)[fr + j]? with
            | none => simp
            | some y => exact turned_lt t p bit flips k HT.out (by have := HP.out; omega) y (List.mem_of_getElem? e)
          rw [turn_int x m hx256 (by omega), turned_yes t p bit flips k HC.out, HFR.out, ← HJ.out, ← HM.out, ← HXX.out]
          exact drew (HSET _).out
      · have HN := Aside0.mk (turned_no t p bit flips k hc)
        by_cases hf : flips.testBit k = true
        · rw [if_pos hf] at hbit
          have hlt2 : 8 * (p.size : Int) ≤ (bit : Int) + (k : Int) := by
            have : ¬ bit + k < 8 * p.size := fun h => hc ⟨hf, h⟩
            omega
          have hbb : (bit : Int) ≤ 2400 := by omega
          clear hc hf h2 hp
          go_wp2
          go_roundg d
          case measure => omega
          case rel => exact ⟨k + 1, by have := HK.out; omega, by first | rfl | simp, ⟨by rw [HN.out]; exact HR1.out⟩, HX2, HB2⟩
        · rw [if_neg hf] at hbit
          clear hc hf h2 hp
          go_wp2
          go_roundg d
          case measure => omega
          case rel => exact ⟨k + 1, by have := HK.out; omega, by first | rfl | simp, ⟨by rw [HN.out]; exact HR1.out⟩, HX2, HB2⟩
/-- WHATEVER THE SECTION, THE BIT, THE BITS: SectBurst tells true. -/
theorem burst_any (t : Int) (p : ByteArray) (bit flips : Int) (w : World) (_h1 : (Lit.int .i64 bit).wf = true) (_h2 : (Lit.int .i64 flips).wf = true) :
    Calls Try.prog 16 #[.agg #[.int .i64 t, .string p], .int .i64 bit, .int .i64 flips] w fun e w' => e = .returned (.bool true) ∧ Below w.heap.size w w' := by
  by_cases hp : p.size ≤ 300
  case neg => exact burst_big t p bit flips w hp
  by_cases h1 : t < 0
  · exact burst_low t p bit flips w hp h1
  by_cases h2 : 255 < t
  · exact burst_high t p bit flips w hp (by omega) h2
  by_cases h3 : bit < 0
  · exact burst_bit0 t p bit flips w hp (by omega) (by omega) h3
  by_cases h4 : 8 * (p.size : Int) ≤ bit
  · exact burst_bit1 t p bit flips w hp (by omega) (by omega) (by omega) h4
  by_cases h5 : flips < 1
  · exact burst_flip0 t p bit flips w hp (by omega) (by omega) (by omega) (by omega) h5
  by_cases h6 : 4294967296 ≤ flips
  · exact burst_flip1 t p bit flips w hp (by omega) (by omega) (by omega) (by omega) (by omega) h6
  obtain ⟨t, rfl⟩ := Int.eq_ofNat_of_zero_le (show 0 ≤ t by omega)
  obtain ⟨b, rfl⟩ := Int.eq_ofNat_of_zero_le (show 0 ≤ bit by omega)
  obtain ⟨f, rfl⟩ := Int.eq_ofNat_of_zero_le (show 0 ≤ flips by omega)
  exact burst_in t p b f w (by omega) hp (by omega) (by omega) (by omega)

end Go.Proofs.Ytaeocbbapnfcaaa.SectBurstWalk
