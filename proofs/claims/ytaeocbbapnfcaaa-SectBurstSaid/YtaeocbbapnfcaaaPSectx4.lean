/- Functions of the program, each with the machine's call that does what it says; laid by a program of this session over the kit's printer. -/
import Derived.Test.YtaeocbbapnfcaaaPSectx0
import Derived.Test.YtaeocbbapnfcaaaPSectx2
import Derived.Test.YtaeocbbapnfcaaaPSectx3
namespace Go.Proofs.Ytaeocbbapnfcaaa.PSect
open Go.RowKit Go.Proofs.YtaeocbbapnfcaaaW.PrintWords Go.Proofs.YtaeocbbapnfcaaaW.PrintLast Go.Proofs.YtaeocbbapnfcaaaW.PrintMore
attribute [local go_sem] max2_int min2_int max_two min_two max_three min_three max_four min_four   -- for this text's walks alone
set_option linter.unusedVariables false
set_option linter.unusedSimpArgs false

/-! ### transhumancelaw03_fixed: function 41: given by this session's own walk -/
def transhumancelaw03_fixed.f : Option Bool := some true
theorem transhumancelaw03_fixed.getl (s : ByteArray) (a r1 : Int) (r2 : ByteArray) (r3 r4 : Int) (hs : s.size ≤ 140737488351230) (h : SectSays.sgetS s a = (r1, r2, r3, r4)) (w : World) : Calls Try.prog 42 #[.string s, .int .i64 a] w fun e w' => e = .returned (.tuple #[.int .i64 r1, .string r2, .int .i64 r3, .int .i64 r4]) ∧ Below w.heap.size w w' :=
  sect_Get.calls s a r1 r2 r3 r4 w (by unfold sect_Get.f; rw [if_pos hs, h])
theorem transhumancelaw03_fixed.alll (s : ByteArray) (l : List S65) (n : Nat) (a e : Int) (hn : l.length = n) (h : sect_All.f 5 s = some (l, a, e)) (w : World) : Calls Try.prog 44 #[.string s] w fun x w' => ∃ A c, x = .returned (.tuple #[.slice A n c, .int .i64 a, .int .i64 e]) ∧ n ≤ c ∧ Kd.C k65 w' A n l ∧ Below w.heap.size w w' := by
  subst hn
  refine (sect_All.calls 5 s l a e w h).mono ?_
  rintro x w' ⟨v, rfl, hR, hb⟩
  obtain ⟨A, c, rfl, hc, hC⟩ := Kd.R_reads hR
  exact ⟨A, c, rfl, hc, hC, hb⟩
theorem transhumancelaw03_fixed.p1 (w : World) : Calls Try.prog 46 #[.int .i64 1, .string ⟨#[97, 98]⟩] w fun e w' => e = .returned (.string ⟨#[1, 2, 97, 98, 183, 233, 217, 33]⟩) ∧ Below w.heap.size w w' := sect_Put.calls 1 1 ⟨#[97, 98]⟩ ⟨#[1, 2, 97, 98, 183, 233, 217, 33]⟩ w (by rw [put_f]; exact congrArg some (by decide +kernel))
theorem transhumancelaw03_fixed.p2 (w : World) : Calls Try.prog 46 #[.int .i64 256, .string ⟨#[]⟩] w fun e w' => e = .returned (.string ⟨#[]⟩) ∧ Below w.heap.size w w' := sect_Put.calls 1 256 ⟨#[]⟩ ⟨#[]⟩ w (by rw [put_f]; exact congrArg some (by decide +kernel))
theorem transhumancelaw03_fixed.g1 (w : World) : Calls Try.prog 42 #[.string ((⟨#[120]⟩ : ByteArray) ++ ⟨#[1, 2, 97, 98, 183, 233, 217, 33]⟩), .int .i64 1] w fun e w' => e = .returned (.tuple #[.int .i64 1, .string ⟨#[97, 98]⟩, .int .i64 9, .int .i64 0]) ∧ Below w.heap.size w w' := transhumancelaw03_fixed.getl _ _ _ _ _ _ (by decide +kernel) (by decide +kernel) w
theorem transhumancelaw03_fixed.g2 (w : World) : Calls Try.prog 42 #[.string ((⟨#[1, 2, 97, 98, 183, 233, 217, 33]⟩ : ByteArray).extract 0 6), .int .i64 0] w fun e w' => e = .returned (.tuple #[.int .i64 0, .string ⟨#[]⟩, .int .i64 0, .int .i64 10]) ∧ Below w.heap.size w w' := transhumancelaw03_fixed.getl _ _ _ _ _ _ (by decide +kernel) (by decide +kernel) w
theorem transhumancelaw03_fixed.g3 (w : World) : Calls Try.prog 42 #[.string ⟨#[1, 2, 96, 98, 183, 233, 217, 33]⟩, .int .i64 0] w fun e w' => e = .returned (.tuple #[.int .i64 0, .string ⟨#[]⟩, .int .i64 0, .int .i64 30]) ∧ Below w.heap.size w w' := transhumancelaw03_fixed.getl _ _ _ _ _ _ (by decide +kernel) (by decide +kernel) w
theorem transhumancelaw03_fixed.g4 (w : World) : Calls Try.prog 42 #[.string ⟨#[]⟩, .int .i64 0] w fun e w' => e = .returned (.tuple #[.int .i64 0, .string ⟨#[]⟩, .int .i64 0, .int .i64 10]) ∧ Below w.heap.size w w' := transhumancelaw03_fixed.getl _ _ _ _ _ _ (by decide +kernel) (by decide +kernel) w
theorem transhumancelaw03_fixed.g5 (w : World) : Calls Try.prog 42 #[.string ⟨#[]⟩, .int .i64 (-1)] w fun e w' => e = .returned (.tuple #[.int .i64 0, .string ⟨#[]⟩, .int .i64 (-1), .int .i64 1]) ∧ Below w.heap.size w w' := transhumancelaw03_fixed.getl _ _ _ _ _ _ (by decide +kernel) (by decide +kernel) w
theorem transhumancelaw03_fixed.a1e : sect_All.f 5 ((⟨#[1, 2, 97, 98, 183, 233, 217, 33]⟩ : ByteArray) ++ ⟨#[1, 2, 97, 98, 183, 233, 217, 33]⟩) = some (([⟨1, ⟨#[97, 98]⟩⟩, ⟨1, ⟨#[97, 98]⟩⟩] : List S65), 16, 0) := by kernel_rfl
theorem transhumancelaw03_fixed.a1 (w : World) : Calls Try.prog 44 #[.string ((⟨#[1, 2, 97, 98, 183, 233, 217, 33]⟩ : ByteArray) ++ ⟨#[1, 2, 97, 98, 183, 233, 217, 33]⟩)] w fun x w' => ∃ A c, x = .returned (.tuple #[.slice A 2 c, .int .i64 16, .int .i64 0]) ∧ 2 ≤ c ∧ Kd.C k65 w' A 2 ([⟨1, ⟨#[97, 98]⟩⟩, ⟨1, ⟨#[97, 98]⟩⟩] : List S65) ∧ Below w.heap.size w w' := transhumancelaw03_fixed.alll _ _ _ _ _ rfl transhumancelaw03_fixed.a1e w
theorem transhumancelaw03_fixed.a2e : sect_All.f 5 ((⟨#[1, 2, 97, 98, 183, 233, 217, 33]⟩ : ByteArray) ++ ⟨#[1, 129, 128, 64]⟩) = some (([] : List S65), 8, 11) := by kernel_rfl
theorem transhumancelaw03_fixed.a2 (w : World) : Calls Try.prog 44 #[.string ((⟨#[1, 2, 97, 98, 183, 233, 217, 33]⟩ : ByteArray) ++ ⟨#[1, 129, 128, 64]⟩)] w fun x w' => ∃ A c, x = .returned (.tuple #[.slice A 0 c, .int .i64 8, .int .i64 11]) ∧ 0 ≤ c ∧ Kd.C k65 w' A 0 ([] : List S65) ∧ Below w.heap.size w w' := transhumancelaw03_fixed.alll _ _ _ _ _ rfl transhumancelaw03_fixed.a2e w
theorem transhumancelaw03_fixed.j1 (A : Option Addr) (c : Nat) (w : World) (hC : Kd.C k65 w A 2 ([⟨1, ⟨#[97, 98]⟩⟩, ⟨1, ⟨#[97, 98]⟩⟩] : List S65)) (hc : 2 ≤ c) : Calls Try.prog 49 #[.slice A 2 c] w fun e w' => e = .returned (.string ((⟨#[1, 2, 97, 98, 183, 233, 217, 33]⟩ : ByteArray) ++ ⟨#[1, 2, 97, 98, 183, 233, 217, 33]⟩)) ∧ Below w.heap.size w w' :=
  sect_Join.calls A c [⟨1, ⟨#[97, 98]⟩⟩, ⟨1, ⟨#[97, 98]⟩⟩] ((⟨#[1, 2, 97, 98, 183, 233, 217, 33]⟩ : ByteArray) ++ ⟨#[1, 2, 97, 98, 183, 233, 217, 33]⟩) w hC hc (by unfold sect_Join.f; rw [if_pos (by decide)]; exact congrArg some (by decide +kernel))
theorem transhumancelaw03_fixed.j2 (w : World) : Calls Try.prog 49 #[.slice none 0 0] w fun e w' => e = .returned (.string ⟨#[]⟩) ∧ Below w.heap.size w w' :=
  sect_Join.calls none 0 [] ⟨#[]⟩ w ⟨rfl, by decide, fun h => absurd h (Nat.lt_irrefl 0)⟩ (Nat.le_refl _) (by unfold sect_Join.f; rw [if_pos (by decide)]; exact congrArg some (by decide +kernel))
set_option maxHeartbeats 4000000 in
set_option maxRecDepth 100000 in
theorem transhumancelaw03_fixed.calls (r : Bool) (w : World) (h : transhumancelaw03_fixed.f = some r) : Calls Try.prog 41 #[] w fun e w' => e = .returned (.bool r) ∧ Below w.heap.size w w' := by
  obtain rfl := Option.some.inj h
  clear h
  have HB := Aside0.mk (Below.refl w.heap.size w)
  have s1 : ((⟨#[97, 98]⟩ : ByteArray).toList == [97, 98]) = true := by decide +kernel
  have s4 : (⟨#[]⟩ : ByteArray).toList.isEmpty = true := by decide +kernel
  have s5 : ((((⟨#[1, 2, 97, 98, 183, 233, 217, 33]⟩ : ByteArray) ++ ⟨#[1, 2, 97, 98, 183, 233, 217, 33]⟩) : ByteArray).toList == (((⟨#[1, 2, 97, 98, 183, 233, 217, 33]⟩ : ByteArray) ++ ⟨#[1, 2, 97, 98, 183, 233, 217, 33]⟩) : ByteArray).toList) = true := by decide +kernel
  have hcv := fun W => Lib.run_convert_string_bytes (P := Try.prog) W 9 27 5 ⟨#[1, 2, 97, 98, 183, 233, 217, 33]⟩ Try.underlying9 Try.underlying27 Try.underlying5
  go_enter Try.func41, Try.ntmps41
  go_upto_region 8 with (first | (go_at_call 44; (with_reducible refine (transhumancelaw03_fixed.a1 _).mono ?_); rintro e w1 ⟨A, c, rfl, hc0, hC0, hb⟩; have HC := Aside0.mk hC0; have HC0 := Aside0.mk hc0; clear hc0 hC0; have n0 := Aside0.mk (below_then HB.out HB.out.size hb); clear HB hb; have HB := n0; clear n0) | (go_at_call 46; (with_reducible refine (transhumancelaw03_fixed.p1 _).mono ?_); rintro e w1 ⟨rfl, hb⟩; have n0 := Aside0.mk (below_then HB.out HB.out.size hb); clear HB hb; have HB := n0; clear n0) | (go_at_call 46; (with_reducible refine (transhumancelaw03_fixed.p2 _).mono ?_); rintro e w1 ⟨rfl, hb⟩; have n0 := Aside0.mk (below_then HB.out HB.out.size hb); clear HB hb; have HB := n0; clear n0) | (go_at_call 42; (with_reducible refine (transhumancelaw03_fixed.g1 _).mono ?_); rintro e w1 ⟨rfl, hb⟩; have n0 := Aside0.mk (below_then HB.out HB.out.size hb); clear HB hb; have HB := n0; clear n0) | (go_at_call 42; (with_reducible refine (transhumancelaw03_fixed.g2 _).mono ?_); rintro e w1 ⟨rfl, hb⟩; have n0 := Aside0.mk (below_then HB.out HB.out.size hb); clear HB hb; have HB := n0; clear n0) | (go_at_call 42; (with_reducible refine (transhumancelaw03_fixed.g4 _).mono ?_); rintro e w1 ⟨rfl, hb⟩; have n0 := Aside0.mk (below_then HB.out HB.out.size hb); clear HB hb; have HB := n0; clear n0) | (go_at_call 42; (with_reducible refine (transhumancelaw03_fixed.g5 _).mono ?_); rintro e w1 ⟨rfl, hb⟩; have n0 := Aside0.mk (below_then HB.out HB.out.size hb); clear HB hb; have HB := n0; clear n0) | (go_at_call 49; (with_reducible refine (transhumancelaw03_fixed.j2 _).mono ?_); rintro e w1 ⟨rfl, hb⟩; have n0 := Aside0.mk (below_then HB.out HB.out.size hb); clear HB hb; have HB := n0; clear n0))
  have HR := Aside0.mk (BRow.made w1 ⟨#[1, 2, 97, 98, 183, 233, 217, 33]⟩)
  have HB1 := Aside0.mk (below_then HB.out HB.out.size (BRow.made_below w1 ⟨#[1, 2, 97, 98, 183, 233, 217, 33]⟩))
  have HC2 := Aside0.mk (Kd.C_below HC.out ((BRow.made_below w1 ⟨#[1, 2, 97, 98, 183, 233, 217, 33]⟩).setCell (p := ⟨w1.heap.size, 2, none⟩) (Nat.le_refl _) (.int .u8 96)))
  have HG := Aside0.mk HB.out.size
  clear HB HC hcv
  simp only [show ((⟨#[1, 2, 97, 98, 183, 233, 217, 33]⟩ : ByteArray).data.toList.map UInt8.toNat) = [1, 2, 97, 98, 183, 233, 217, 33] by decide +kernel] at HR
  generalize Lib.bytesWorld w1 5 ⟨#[1, 2, 97, 98, 183, 233, 217, 33]⟩ = w2 at *
  generalize grownCap w1 8 0 5 = cap
  generalize w1.heap.size = g at *
  obtain ⟨x, hx, hcell, hf⟩ := BRow.named HR.out 2 (by decide)
  obtain rfl : x = 97 := hx
  replace hcell : w2.cell? ⟨g, 2, none⟩ = some (.int .u8 97) := hcell
  have ex : Go.bits .xor .u8 97 1 = 96 := by decide +kernel
  have hconv : (convert 27 9 (.slice (some ⟨g, 0, none⟩) 8 cap)).run Try.prog (w2.setCell ⟨g, 2, none⟩ (.int .u8 96)) = .ok (.string ⟨#[1, 2, 96, 98, 183, 233, 217, 33]⟩) (w2.setCell ⟨g, 2, none⟩ (.int .u8 96)) := by
    have := BRow.conv (BRow.set HR.out 2 96) cap
    rw [show BRow.text ([1, 2, 97, 98, 183, 233, 217, 33].set 2 96) = ⟨#[1, 2, 96, 98, 183, 233, 217, 33]⟩ by decide +kernel] at this
    exact this
  have HB := Aside0.mk (HB1.out.setCell HG.out (p := ⟨g, 2, none⟩) (.int .u8 96))
  clear HR HB1 HG
  go_wp2_with (first | (go_at_call 42; (with_reducible refine (transhumancelaw03_fixed.g3 _).mono ?_); rintro e w1 ⟨rfl, hb⟩; have HC3 := Aside0.mk (Kd.C_below HC2.out hb); clear HC2; have HC2 := HC3; clear HC3; have n0 := Aside0.mk (below_then HB.out HB.out.size hb); clear HB hb; have HB := n0; clear n0) | (go_at_call 44; (with_reducible refine (transhumancelaw03_fixed.a2 _).mono ?_); rintro e w1 ⟨A2, c2, rfl, hc2, hC2, hb⟩; clear hc2 hC2; have HC3 := Aside0.mk (Kd.C_below HC2.out hb); clear HC2; have HC2 := HC3; clear HC3; have n0 := Aside0.mk (below_then HB.out HB.out.size hb); clear HB hb; have HB := n0; clear n0) | (go_at_call 49; (with_reducible refine (transhumancelaw03_fixed.j1 _ _ _ HC2.out HC0.out).mono ?_); rintro e w1 ⟨rfl, hb⟩; have HC3 := Aside0.mk (Kd.C_below HC2.out hb); clear HC2; have HC2 := HC3; clear HC3; have n0 := Aside0.mk (below_then HB.out HB.out.size hb); clear HB hb; have HB := n0; clear n0) | (go_at_call 46; (with_reducible refine (transhumancelaw03_fixed.p1 _).mono ?_); rintro e w1 ⟨rfl, hb⟩; have HC3 := Aside0.mk (Kd.C_below HC2.out hb); clear HC2; have HC2 := HC3; clear HC3; have n0 := Aside0.mk (below_then HB.out HB.out.size hb); clear HB hb; have HB := n0; clear n0) | (go_at_call 46; (with_reducible refine (transhumancelaw03_fixed.p2 _).mono ?_); rintro e w1 ⟨rfl, hb⟩; have HC3 := Aside0.mk (Kd.C_below HC2.out hb); clear HC2; have HC2 := HC3; clear HC3; have n0 := Aside0.mk (below_then HB.out HB.out.size hb); clear HB hb; have HB := n0; clear n0) | (go_at_call 42; (with_reducible refine (transhumancelaw03_fixed.g1 _).mono ?_); rintro e w1 ⟨rfl, hb⟩; have HC3 := Aside0.mk (Kd.C_below HC2.out hb); clear HC2; have HC2 := HC3; clear HC3; have n0 := Aside0.mk (below_then HB.out HB.out.size hb); clear HB hb; have HB := n0; clear n0) | (go_at_call 42; (with_reducible refine (transhumancelaw03_fixed.g2 _).mono ?_); rintro e w1 ⟨rfl, hb⟩; have HC3 := Aside0.mk (Kd.C_below HC2.out hb); clear HC2; have HC2 := HC3; clear HC3; have n0 := Aside0.mk (below_then HB.out HB.out.size hb); clear HB hb; have HB := n0; clear n0) | (go_at_call 42; (with_reducible refine (transhumancelaw03_fixed.g4 _).mono ?_); rintro e w1 ⟨rfl, hb⟩; have HC3 := Aside0.mk (Kd.C_below HC2.out hb); clear HC2; have HC2 := HC3; clear HC3; have n0 := Aside0.mk (below_then HB.out HB.out.size hb); clear HB hb; have HB := n0; clear n0) | (go_at_call 42; (with_reducible refine (transhumancelaw03_fixed.g5 _).mono ?_); rintro e w1 ⟨rfl, hb⟩; have HC3 := Aside0.mk (Kd.C_below HC2.out hb); clear HC2; have HC2 := HC3; clear HC3; have n0 := Aside0.mk (below_then HB.out HB.out.size hb); clear HB hb; have HB := n0; clear n0) | (go_at_call 49; (with_reducible refine (transhumancelaw03_fixed.j2 _).mono ?_); rintro e w1 ⟨rfl, hb⟩; have HC3 := Aside0.mk (Kd.C_below HC2.out hb); clear HC2; have HC2 := HC3; clear HC3; have n0 := Aside0.mk (below_then HB.out HB.out.size hb); clear HB hb; have HB := n0; clear n0))
  go_ret
  exact ⟨rfl, HB.out⟩


/-! ### transhumanceref02_xor: function 52 -/
def transhumanceref02_xor.f (a0 : Int) (a1 : Int) : Option (Int) := some (Go.bits .xor .i64 a0 a1)
set_option maxHeartbeats 8000000 in
set_option maxRecDepth 100000 in
theorem transhumanceref02_xor.calls (a0 : Int) (a1 : Int) (r : Int) (w : World) (h : transhumanceref02_xor.f a0 a1 = some r) :
    Calls Try.prog 52 #[.int .i64 a0, .int .i64 a1] w fun e w' => e = .returned (.int .i64 r) ∧ Drawn0 w w' := by
  have H : (some (Go.bits .xor .i64 a0 a1)) = some r := h
  clear h
  obtain rfl := Option.some.inj H
  go_enter Try.func52, Try.ntmps52
  go_wp2
  go_ret
  exact ⟨by first | rfl | (simp; done) | (simp [*]; done), by repeat (first | exact Drawn0.refl _ | apply Drawn0.step)⟩

/-! ### transhumanceref02_rest: function 53 -/
def transhumanceref02_rest.f : Nat → Int → Int → Option (Int)
  | 0, _, _ => none
  | k + 1, a0, a1 => if a1 = 0 then (some a0) else (if (Int.tmod a0 2) = 1 then ((transhumanceref02_xor.f (wrap64 (Int.tdiv a0 2)) 3988292384).bind fun t122 => ((transhumanceref02_rest.f k t122 (wrap64 (a1 - 1))).bind fun t123 => (some t123))) else ((transhumanceref02_rest.f k (wrap64 (Int.tdiv a0 2)) (wrap64 (a1 - 1))).bind fun t124 => (some t124)))
theorem transhumanceref02_rest.mono_l : ∀ k, (∀ y0 y1, LeO (transhumanceref02_rest.f k y0 y1) (transhumanceref02_rest.f (k + 1) y0 y1))
  | 0 => fun _ _ r h => by simp [transhumanceref02_rest.f] at h
  | k + 1 => by
    have ih0 := transhumanceref02_rest.mono_l k
    · intro y0 y1
      unfold transhumanceref02_rest.f
      repeat' first
      | (with_reducible exact ih0 _ _)
      | (with_reducible exact LeO.refl _)
      | (with_reducible exact LeO.none _)
      | (with_reducible refine LeO.ite ?_ ?_)
      | (with_reducible refine LeO.bind ?_ (fun _ => ?_))
      | exact ih0 _ _
      | exact LeO.none _
      | refine LeO.ite ?_ ?_
      | refine LeO.bind ?_ (fun _ => ?_)
theorem transhumanceref02_rest.mono : ∀ a0 a1 k, LeO (transhumanceref02_rest.f k a0 a1) (transhumanceref02_rest.f (k + 1) a0 a1) := by
  intro a0 a1 k
  have ih0 := transhumanceref02_rest.mono_l k
  exact ih0 a0 a1
set_option maxHeartbeats 8000000 in
set_option maxRecDepth 100000 in
theorem transhumanceref02_rest.calls (k : Nat) : ∀ (a0 : Int) (a1 : Int) (r : Int) (w : World) (h : transhumanceref02_rest.f k a0 a1 = some r),
    Calls Try.prog 53 #[.int .i64 a0, .int .i64 a1] w fun e w' => e = .returned (.int .i64 r) ∧ Drawn0 w w' := by
  induction k using Nat.strongRecOn with
  | _ k ih =>
  intro a0 a1 r w h
  cases k with
  | zero => exact absurd h (by simp [transhumanceref02_rest.f])
  | succ k =>
  simp only [transhumanceref02_rest.f] at h
  have H : (if a1 = 0 then (some a0) else (if (Int.tmod a0 2) = 1 then ((transhumanceref02_xor.f (wrap64 (Int.tdiv a0 2)) 3988292384).bind fun t122 => ((transhumanceref02_rest.f k t122 (wrap64 (a1 - 1))).bind fun t123 => (some t123))) else ((transhumanceref02_rest.f k (wrap64 (Int.tdiv a0 2)) (wrap64 (a1 - 1))).bind fun t124 => (some t124)))) = some r := h
  clear h
  by_cases c3 : a1 = 0
  · rw [if_pos c3] at H
    have c3b0 : (a1 == 0) = true := beq_iff_eq.mpr c3
    have c3b1 : (a1 != 0) = false := bne_eq_false_iff_eq.mpr c3
    clear c3
    obtain rfl := Option.some.inj H
    go_enter Try.func53, Try.ntmps53
    go_wp2
    go_ret
    exact ⟨by first | rfl | (simp; done) | (simp [*]; done), by repeat (first | exact Drawn0.refl _ | apply Drawn0.step)⟩
  · rw [if_neg c3] at H
    have c3b0 : (a1 == 0) = false := beq_eq_false_iff_ne.mpr c3
    have c3b1 : (a1 != 0) = true := bne_iff_ne.mpr c3
    by_cases c4 : (Int.tmod a0 2) = 1
    · rw [if_pos c4] at H
      have c4b0 : ((Int.tmod a0 2) == 1) = true := beq_iff_eq.mpr c4
      have c4b1 : ((Int.tmod a0 2) != 1) = false := bne_eq_false_iff_eq.mpr c4
      clear c4
      replace H := Option.bind_eq_some_iff.mp H
      obtain ⟨t122, A50, H⟩ := H
      replace H : ((transhumanceref02_rest.f k t122 (wrap64 (a1 - 1))).bind fun t123 => (some t123)) = some r := H
      have A5 := Aside0.mk A50
      clear A50
      replace H := Option.bind_eq_some_iff.mp H
      obtain ⟨t123, A60, H⟩ := H
      replace H : (some t123) = some r := H
      have A6 := Aside0.mk A60
      clear A60
      obtain rfl := Option.some.inj H
      go_enter Try.func53, Try.ntmps53
      go_wp2_with (first | ((with_reducible refine gate_callee (f := 52) rfl ?_); refine goesL_ (some 13) rfl rfl Try.func52 (by kernel_rfl) rfl #[.int .i64 (wrap64 (Int.tdiv a0 2)), .int .i64 3988292384] rfl (by (try simp only [List.map_toArray, List.map_cons, List.map_nil]); first | done | rfl | (simp only [List.length_drop, List.length_take]; rfl)) ?_; (with_reducible refine (transhumanceref02_xor.calls (wrap64 (Int.tdiv a0 2)) 3988292384 t122 _ A5.out).mono ?_); rintro e w' ⟨rfl, ⟨nd, rfl⟩⟩; refine ⟨_, rfl, ?_⟩) | ((with_reducible refine gate_callee (f := 53) rfl ?_); refine goesL_ (some 16) rfl rfl Try.func53 (by kernel_rfl) rfl #[.int .i64 t122, .int .i64 (wrap64 (a1 - 1))] rfl (by (try simp only [List.map_toArray, List.map_cons, List.map_nil]); first | done | rfl | (simp only [List.length_drop, List.length_take]; rfl)) ?_; (with_reducible refine (ih k (by omega) t122 (wrap64 (a1 - 1)) t123 _ A6.out).mono ?_); rintro e w' ⟨rfl, ⟨nd, rfl⟩⟩; refine ⟨_, rfl, ?_⟩))
      go_ret
      exact ⟨by first | rfl | (simp; done) | (simp [*]; done), by repeat (first | exact Drawn0.refl _ | apply Drawn0.step)⟩
    · rw [if_neg c4] at H
      have c4b0 : ((Int.tmod a0 2) == 1) = false := beq_eq_false_iff_ne.mpr c4
      have c4b1 : ((Int.tmod a0 2) != 1) = true := bne_iff_ne.mpr c4
      replace H := Option.bind_eq_some_iff.mp H
      obtain ⟨t124, A70, H⟩ := H
      replace H : (some t124) = some r := H
      have A7 := Aside0.mk A70
      clear A70
      obtain rfl := Option.some.inj H
      go_enter Try.func53, Try.ntmps53
      go_wp2_with (first | ((with_reducible refine gate_callee (f := 53) rfl ?_); refine goesL_ (some 21) rfl rfl Try.func53 (by kernel_rfl) rfl #[.int .i64 (wrap64 (Int.tdiv a0 2)), .int .i64 (wrap64 (a1 - 1))] rfl (by (try simp only [List.map_toArray, List.map_cons, List.map_nil]); first | done | rfl | (simp only [List.length_drop, List.length_take]; rfl)) ?_; (with_reducible refine (ih k (by omega) (wrap64 (Int.tdiv a0 2)) (wrap64 (a1 - 1)) t124 _ A7.out).mono ?_); rintro e w' ⟨rfl, ⟨nd, rfl⟩⟩; refine ⟨_, rfl, ?_⟩))
      go_ret
      exact ⟨by first | rfl | (simp; done) | (simp [*]; done), by repeat (first | exact Drawn0.refl _ | apply Drawn0.step)⟩

/-! ### transhumanceref02_Roll: function 24 -/
mutual
def transhumanceref02_Roll.j0 : Nat → Int → ByteArray → Bool → Option (Int)
  | 0, _, _, _ => none
  | k + 1, x0, x1, x12 => if x12 = true then (some 0) else (transhumanceref02_Roll.l0 k x1 (wrap64 (4294967295 - x0)) 0)
def transhumanceref02_Roll.l0 : Nat → ByteArray → Int → Int → Option (Int)
  | 0, _, _, _ => none
  | k + 1, x1, x5, x6 => if x6 < (x1.size : Int) then (if 0 ≤ x6 then ((transhumanceref02_xor.f (Int.tmod x5 256) (wrap64 (bt x1 x6))).bind fun t125 => ((transhumanceref02_rest.f k t125 8).bind fun t126 => ((transhumanceref02_xor.f (wrap64 (Int.tdiv x5 256)) t126).bind fun t127 => (transhumanceref02_Roll.l0 k x1 t127 (wrap64 (x6 + 1)))))) else (none)) else (some (wrap64 (4294967295 - x5)))
end
def transhumanceref02_Roll.f (k : Nat) (a0 : Int) (a1 : ByteArray) : Option (Int) := if a0 < 0 then (transhumanceref02_Roll.j0 k a0 a1 true) else (transhumanceref02_Roll.j0 k a0 a1 (decide (a0 > 4294967295)))
theorem transhumanceref02_Roll.mono_l : ∀ k, (∀ y0 y1 y2, LeO (transhumanceref02_Roll.j0 k y0 y1 y2) (transhumanceref02_Roll.j0 (k + 1) y0 y1 y2)) ∧ (∀ y0 y1 y2, LeO (transhumanceref02_Roll.l0 k y0 y1 y2) (transhumanceref02_Roll.l0 (k + 1) y0 y1 y2))
  | 0 => ⟨fun _ _ _ r h => by simp [transhumanceref02_Roll.j0] at h, fun _ _ _ r h => by simp [transhumanceref02_Roll.l0] at h⟩
  | k + 1 => by
    obtain ⟨ih0, ih1⟩ := transhumanceref02_Roll.mono_l k
    refine ⟨?_, ?_⟩
    · intro y0 y1 y2
      unfold transhumanceref02_Roll.j0
      repeat' first
      | (with_reducible exact ih0 _ _ _)
      | (with_reducible exact ih1 _ _ _)
      | (with_reducible exact transhumanceref02_rest.mono _ _ _)
      | (with_reducible exact LeO.refl _)
      | (with_reducible exact LeO.none _)
      | (with_reducible refine LeO.ite ?_ ?_)
      | (with_reducible refine LeO.bind ?_ (fun _ => ?_))
      | exact ih0 _ _ _
      | exact ih1 _ _ _
      | exact transhumanceref02_rest.mono _ _ _
      | exact LeO.none _
      | refine LeO.ite ?_ ?_
      | refine LeO.bind ?_ (fun _ => ?_)
    · intro y0 y1 y2
      unfold transhumanceref02_Roll.l0
      repeat' first
      | (with_reducible exact ih0 _ _ _)
      | (with_reducible exact ih1 _ _ _)
      | (with_reducible exact transhumanceref02_rest.mono _ _ _)
      | (with_reducible exact LeO.refl _)
      | (with_reducible exact LeO.none _)
      | (with_reducible refine LeO.ite ?_ ?_)
      | (with_reducible refine LeO.bind ?_ (fun _ => ?_))
      | exact ih0 _ _ _
      | exact ih1 _ _ _
      | exact transhumanceref02_rest.mono _ _ _
      | exact LeO.none _
      | refine LeO.ite ?_ ?_
      | refine LeO.bind ?_ (fun _ => ?_)
theorem transhumanceref02_Roll.mono : ∀ a0 a1 k, LeO (transhumanceref02_Roll.f k a0 a1) (transhumanceref02_Roll.f (k + 1) a0 a1) := by
  intro a0 a1 k
  obtain ⟨ih0, ih1⟩ := transhumanceref02_Roll.mono_l k
  unfold transhumanceref02_Roll.f
  repeat' first
      | (with_reducible exact ih0 _ _ _)
      | (with_reducible exact ih1 _ _ _)
      | (with_reducible exact transhumanceref02_rest.mono _ _ _)
      | (with_reducible exact LeO.refl _)
      | (with_reducible exact LeO.none _)
      | (with_reducible refine LeO.ite ?_ ?_)
      | (with_reducible refine LeO.bind ?_ (fun _ => ?_))
      | exact ih0 _ _ _
      | exact ih1 _ _ _
      | exact transhumanceref02_rest.mono _ _ _
      | exact LeO.none _
      | refine LeO.ite ?_ ?_
      | refine LeO.bind ?_ (fun _ => ?_)
set_option maxHeartbeats 8000000 in
set_option maxRecDepth 100000 in
theorem transhumanceref02_Roll.calls (k : Nat) (a0 : Int) (a1 : ByteArray) (r : Int) (w : World) (h : transhumanceref02_Roll.f k a0 a1 = some r) :
    Calls Try.prog 24 #[.int .i64 a0, .string a1] w fun e w' => e = .returned (.int .i64 r) ∧ Drawn0 w w' := by
  have H : (if a0 < 0 then (transhumanceref02_Roll.j0 k a0 a1 true) else (transhumanceref02_Roll.j0 k a0 a1 (decide (a0 > 4294967295)))) = some r := h
  clear h
  have HC3 := Aside0.mk H
  clear H
  go_enter Try.func24, Try.ntmps24
  go_upto_region 1 with (fail)
  go_cut [12] (fun v12 wc => ∃ (kq : Nat) (x12_2 : Bool), v12 = .bool x12_2 ∧ Aside0 (transhumanceref02_Roll.j0 kq a0 a1 x12_2 = some r) ∧ Aside0 (kq ≤ k) ∧ Drawn0 w wc)
  case first =>
    have H := HC3.out
    clear HC3
    by_cases c4 : a0 < 0
    · rw [if_pos c4] at H
      have c4b0 : decide (a0 < 0) = true := decide_eq_true c4
      clear c4
      (first | rw [c4b0] | (simp only [i64_w, i32_w]; rw [c4b0]) | skip)
      have H' := Aside0.mk H
      clear H
      go_wp2
      go_meet
      case rel => exact ⟨_, (true), (by first | rfl | (simp; done) | (simp [*]; done)), H', ⟨by first | omega | exact Nat.le_refl _⟩, by repeat (first | exact Drawn0.refl _ | apply Drawn0.step)⟩
    · rw [if_neg c4] at H
      have c4b0 : decide (a0 < 0) = false := decide_eq_false c4
      clear c4
      (first | rw [c4b0] | (simp only [i64_w, i32_w]; rw [c4b0]) | skip)
      have H' := Aside0.mk H
      clear H
      go_wp2
      go_meet
      case rel => exact ⟨_, (decide (a0 > 4294967295)), (by first | rfl | (simp; done) | (simp [*]; done)), H', ⟨by first | omega | exact Nat.le_refl _⟩, by repeat (first | exact Drawn0.refl _ | apply Drawn0.step)⟩
  case rest =>
    clear HC3
    try clear c2
    try clear p2
    try clear c4
    try clear c4b0
    obtain ⟨kq, x12_2, rfl, HA, HJ2, ⟨mc2, rfl⟩⟩ := hcut
    cases kq with
    | zero => exact absurd HA.out (by simp [transhumanceref02_Roll.j0])
    | succ kj2 =>
      have H := HA.out
      clear HA
      simp only [transhumanceref02_Roll.j0] at H
      by_cases c5 : x12_2 = true
      · subst c5
        have H1 : (some 0) = some r := by rw [if_pos rfl] at H; exact H
        clear H
        have H := H1
        clear H1
        obtain rfl := Option.some.inj H
        go_wp2
        go_ret
        exact ⟨by first | rfl | (simp; done) | (simp [*]; done), by repeat (first | exact Drawn0.refl _ | apply Drawn0.step)⟩
      · replace c5 := Bool.eq_false_iff.mpr c5
        subst c5
        have H1 : (transhumanceref02_Roll.l0 kj2 a1 (wrap64 (4294967295 - a0)) 0) = some r := by rw [if_neg (show ¬ (false = true) by decide)] at H; exact H
        clear H
        have H := H1
        clear H1
        have H' := Aside0.mk H
        clear H
        go_wp2
        go_loopg [5, 6] kj2 (fun kq v5 v6 w' => ∃ (x5_2 : Int) (x6_2 : Int), v5 = .int .i64 x5_2 ∧ v6 = .int .i64 x6_2 ∧ Aside0 (transhumanceref02_Roll.l0 kq a1 x5_2 x6_2 = some r) ∧ Aside0 (kq ≤ kj2) ∧ Drawn0 w w')
        case atStart => exact ⟨(wrap64 (4294967295 - a0)), (0), (by first | rfl | (simp; done) | (simp [*]; done)), (by first | rfl | (simp; done) | (simp [*]; done)), H', ⟨Nat.le_refl _⟩, by repeat (first | exact Drawn0.refl _ | apply Drawn0.step)⟩
        case round =>
          clear H'
          try clear c2
          try clear p2
          try clear c4
          try clear c4b0
          try clear c5
          try clear p2
          obtain ⟨x5_2, x6_2, rfl, rfl, HA, HK2, ⟨m2, rfl⟩⟩ := hrel
          cases gk with
          | zero => exact absurd HA.out (by simp [transhumanceref02_Roll.l0])
          | succ k2 =>
            have H := HA.out
            clear HA
            simp only [transhumanceref02_Roll.l0] at H
            by_cases c6 : x6_2 < (a1.size : Int)
            · rw [if_pos c6] at H
              have c6b0 : decide (x6_2 < (a1.size : Int)) = true := decide_eq_true c6
              clear c6
              by_cases c7 : 0 ≤ x6_2
              · rw [if_pos c7] at H
                have c7b0 : decide (0 ≤ x6_2) = true := decide_eq_true c7
                clear c7
                replace H := Option.bind_eq_some_iff.mp H
                obtain ⟨t125, A90, H⟩ := H
                replace H : ((transhumanceref02_rest.f k2 t125 8).bind fun t126 => ((transhumanceref02_xor.f (wrap64 (Int.tdiv x5_2 256)) t126).bind fun t127 => (transhumanceref02_Roll.l0 k2 a1 t127 (wrap64 (x6_2 + 1))))) = some r := H
                have A9 := Aside0.mk A90
                clear A90
                replace H := Option.bind_eq_some_iff.mp H
                obtain ⟨t126, A100, H⟩ := H
                replace H : ((transhumanceref02_xor.f (wrap64 (Int.tdiv x5_2 256)) t126).bind fun t127 => (transhumanceref02_Roll.l0 k2 a1 t127 (wrap64 (x6_2 + 1)))) = some r := H
                have A10 := Aside0.mk A100
                clear A100
                replace H := Option.bind_eq_some_iff.mp H
                obtain ⟨t127, A110, H⟩ := H
                replace H : (transhumanceref02_Roll.l0 k2 a1 t127 (wrap64 (x6_2 + 1))) = some r := H
                have A11 := Aside0.mk A110
                clear A110
                have H' := Aside0.mk H
                clear H
                have p8 : 0 ≤ (x6_2 : Int) := of_decide_eq_true (by first | (with_reducible assumption) | assumption)
                have q8 : x6_2 < (a1.size : Int) := of_decide_eq_true (by first | (with_reducible assumption) | assumption)
                have hx8 := bt_at a1 x6_2
                replace p8 := eq_true p8
                replace q8 := eq_true q8
                go_wp2_with (first | ((with_reducible refine gate_callee (f := 52) rfl ?_); refine goesL_ (some 29) rfl rfl Try.func52 (by kernel_rfl) rfl #[.int .i64 (Int.tmod x5_2 256), .int .i64 (wrap64 (bt a1 x6_2))] rfl (by (try simp only [List.map_toArray, List.map_cons, List.map_nil]); first | done | rfl | (simp only [List.length_drop, List.length_take]; rfl)) ?_; (with_reducible refine (transhumanceref02_xor.calls (Int.tmod x5_2 256) (wrap64 (bt a1 x6_2)) t125 _ A9.out).mono ?_); rintro e w' ⟨rfl, ⟨nd, rfl⟩⟩; refine ⟨_, rfl, ?_⟩) | ((with_reducible refine gate_callee (f := 53) rfl ?_); refine goesL_ (some 30) rfl rfl Try.func53 (by kernel_rfl) rfl #[.int .i64 t125, .int .i64 8] rfl (by (try simp only [List.map_toArray, List.map_cons, List.map_nil]); first | done | rfl | (simp only [List.length_drop, List.length_take]; rfl)) ?_; (with_reducible refine (transhumanceref02_rest.calls k2 t125 8 t126 _ A10.out).mono ?_); rintro e w' ⟨rfl, ⟨nd, rfl⟩⟩; refine ⟨_, rfl, ?_⟩) | ((with_reducible refine gate_callee (f := 52) rfl ?_); refine goesL_ (some 31) rfl rfl Try.func52 (by kernel_rfl) rfl #[.int .i64 (wrap64 (Int.tdiv x5_2 256)), .int .i64 t126] rfl (by (try simp only [List.map_toArray, List.map_cons, List.map_nil]); first | done | rfl | (simp only [List.length_drop, List.length_take]; rfl)) ?_; (with_reducible refine (transhumanceref02_xor.calls (wrap64 (Int.tdiv x5_2 256)) t126 t127 _ A11.out).mono ?_); rintro e w' ⟨rfl, ⟨nd, rfl⟩⟩; refine ⟨_, rfl, ?_⟩))
                go_roundg k2
                case measure => have := HJ2.out; have := HK2.out; omega
                case rel => exact ⟨(t127), (wrap64 (x6_2 + 1)), (by first | rfl | (simp; done) | (simp [*]; done)), (by first | rfl | (simp; done) | (simp [*]; done)), H', ⟨by have := HJ2.out; have := HK2.out; omega⟩, by repeat (first | exact Drawn0.refl _ | apply Drawn0.step)⟩
              · rw [if_neg c7] at H
                exact absurd H (by simp)
            · rw [if_neg c6] at H
              have c6b0 : decide (x6_2 < (a1.size : Int)) = false := decide_eq_false c6
              clear c6
              obtain rfl := Option.some.inj H
              go_wp2
              go_ret
              exact ⟨by first | rfl | (simp; done) | (simp [*]; done), by repeat (first | exact Drawn0.refl _ | apply Drawn0.step)⟩

/-! ### transhumanceref02_Of: function 22 -/
def transhumanceref02_Of.f (k : Nat) (a0 : ByteArray) : Option (Int) := (transhumanceref02_Roll.f k 0 a0).bind fun t128 => (some t128)
theorem transhumanceref02_Of.mono : ∀ a0 k, LeO (transhumanceref02_Of.f k a0) (transhumanceref02_Of.f (k + 1) a0) := by
  intro a0 k
  unfold transhumanceref02_Of.f
  repeat' first
      | (with_reducible exact transhumanceref02_Roll.mono _ _ _)
      | (with_reducible exact LeO.refl _)
      | (with_reducible exact LeO.none _)
      | (with_reducible refine LeO.ite ?_ ?_)
      | (with_reducible refine LeO.bind ?_ (fun _ => ?_))
      | exact transhumanceref02_Roll.mono _ _ _
      | exact LeO.none _
      | refine LeO.ite ?_ ?_
      | refine LeO.bind ?_ (fun _ => ?_)
set_option maxHeartbeats 8000000 in
set_option maxRecDepth 100000 in
theorem transhumanceref02_Of.calls (k : Nat) (a0 : ByteArray) (r : Int) (w : World) (h : transhumanceref02_Of.f k a0 = some r) :
    Calls Try.prog 22 #[.string a0] w fun e w' => e = .returned (.int .i64 r) ∧ Drawn0 w w' := by
  have H : ((transhumanceref02_Roll.f k 0 a0).bind fun t128 => (some t128)) = some r := h
  clear h
  replace H := Option.bind_eq_some_iff.mp H
  obtain ⟨t128, A20, H⟩ := H
  replace H : (some t128) = some r := H
  have A2 := Aside0.mk A20
  clear A20
  obtain rfl := Option.some.inj H
  go_enter Try.func22, Try.ntmps22
  go_wp2_with (first | ((with_reducible refine gate_callee (f := 24) rfl ?_); refine goesL_ (some 4) rfl rfl Try.func24 (by kernel_rfl) rfl #[.int .i64 0, .string a0] rfl (by (try simp only [List.map_toArray, List.map_cons, List.map_nil]); first | done | rfl | (simp only [List.length_drop, List.length_take]; rfl)) ?_; (with_reducible refine (transhumanceref02_Roll.calls k 0 a0 t128 _ A2.out).mono ?_); rintro e w' ⟨rfl, ⟨nd, rfl⟩⟩; refine ⟨_, rfl, ?_⟩))
  go_ret
  exact ⟨by first | rfl | (simp; done) | (simp [*]; done), by repeat (first | exact Drawn0.refl _ | apply Drawn0.step)⟩

/-! ### transhumanceref01_Get: function 58 -/
mutual
def transhumanceref01_Get.j0 : Nat → ByteArray → Int → Bool → Option (Int × Int × Int)
  | 0, _, _, _ => none
  | k + 1, x0, x1, x18 => if x18 = true then (some (0, x1, 1)) else (transhumanceref01_Get.l0 k x0 x1 0 1 0)
def transhumanceref01_Get.l0 : Nat → ByteArray → Int → Int → Int → Int → Option (Int × Int × Int)
  | 0, _, _, _, _, _ => none
  | k + 1, x0, x1, x7, x8, x9 => if (wrap64 (x1 + x9)) ≥ (x0.size : Int) then (some (0, x1, 10)) else (if 0 ≤ (wrap64 (x1 + x9)) then (if (wrap64 (x1 + x9)) < (x0.size : Int) then (if x9 = 7 then (transhumanceref01_Get.j2 k x0 x1 x7 x8 x9 (wrap64 (bt x0 (wrap64 (x1 + x9)))) true) else (if x9 = 6 then (if (wrap64 (bt x0 (wrap64 (x1 + x9)))) < 128 then (transhumanceref01_Get.j2 k x0 x1 x7 x8 x9 (wrap64 (bt x0 (wrap64 (x1 + x9)))) (decide ((wrap64 (bt x0 (wrap64 (x1 + x9)))) > 63))) else (transhumanceref01_Get.j2 k x0 x1 x7 x8 x9 (wrap64 (bt x0 (wrap64 (x1 + x9)))) false)) else (transhumanceref01_Get.j2 k x0 x1 x7 x8 x9 (wrap64 (bt x0 (wrap64 (x1 + x9)))) false))) else (none)) else (none))
def transhumanceref01_Get.j2 : Nat → ByteArray → Int → Int → Int → Int → Int → Bool → Option (Int × Int × Int)
  | 0, _, _, _, _, _, _, _ => none
  | k + 1, x0, x1, x7, x8, x9, x10, x48 => if x48 = true then (some (0, x1, 11)) else (if x10 < 128 then (if x10 = 0 then (if x9 > 0 then (some (0, x1, 12)) else (some (wrap64 (x7 + (wrap64 ((Int.tmod x10 128) * x8))), wrap64 ((wrap64 (x1 + x9)) + 1), 0))) else (some (wrap64 (x7 + (wrap64 ((Int.tmod x10 128) * x8))), wrap64 ((wrap64 (x1 + x9)) + 1), 0))) else (transhumanceref01_Get.l0 k x0 x1 (wrap64 (x7 + (wrap64 ((Int.tmod x10 128) * x8)))) (wrap64 (x8 * 128)) (wrap64 (x9 + 1))))
end
def transhumanceref01_Get.f (k : Nat) (a0 : ByteArray) (a1 : Int) : Option (Int × Int × Int) := if a1 < 0 then (transhumanceref01_Get.j0 k a0 a1 true) else (transhumanceref01_Get.j0 k a0 a1 (decide (a1 > (a0.size : Int))))
theorem transhumanceref01_Get.mono_l : ∀ k, (∀ y0 y1 y2, LeO (transhumanceref01_Get.j0 k y0 y1 y2) (transhumanceref01_Get.j0 (k + 1) y0 y1 y2)) ∧ (∀ y0 y1 y2 y3 y4, LeO (transhumanceref01_Get.l0 k y0 y1 y2 y3 y4) (transhumanceref01_Get.l0 (k + 1) y0 y1 y2 y3 y4)) ∧ (∀ y0 y1 y2 y3 y4 y5 y6, LeO (transhumanceref01_Get.j2 k y0 y1 y2 y3 y4 y5 y6) (transhumanceref01_Get.j2 (k + 1) y0 y1 y2 y3 y4 y5 y6))
  | 0 => ⟨fun _ _ _ r h => by simp [transhumanceref01_Get.j0] at h, fun _ _ _ _ _ r h => by simp [transhumanceref01_Get.l0] at h, fun _ _ _ _ _ _ _ r h => by simp [transhumanceref01_Get.j2] at h⟩
  | k + 1 => by
    obtain ⟨ih0, ih1, ih2⟩ := transhumanceref01_Get.mono_l k
    refine ⟨?_, ?_, ?_⟩
    · intro y0 y1 y2
      unfold transhumanceref01_Get.j0
      repeat' first
      | (with_reducible exact ih0 _ _ _)
      | (with_reducible exact ih1 _ _ _ _ _)
      | (with_reducible exact ih2 _ _ _ _ _ _ _)
      | (with_reducible exact LeO.refl _)
      | (with_reducible exact LeO.none _)
      | (with_reducible refine LeO.ite ?_ ?_)
      | (with_reducible refine LeO.bind ?_ (fun _ => ?_))
      | exact ih0 _ _ _
      | exact ih1 _ _ _ _ _
      | exact ih2 _ _ _ _ _ _ _
      | exact LeO.none _
      | refine LeO.ite ?_ ?_
      | refine LeO.bind ?_ (fun _ => ?_)
    · intro y0 y1 y2 y3 y4
      unfold transhumanceref01_Get.l0
      repeat' first
      | (with_reducible exact ih0 _ _ _)
      | (with_reducible exact ih1 _ _ _ _ _)
      | (with_reducible exact ih2 _ _ _ _ _ _ _)
      | (with_reducible exact LeO.refl _)
      | (with_reducible exact LeO.none _)
      | (with_reducible refine LeO.ite ?_ ?_)
      | (with_reducible refine LeO.bind ?_ (fun _ => ?_))
      | exact ih0 _ _ _
      | exact ih1 _ _ _ _ _
      | exact ih2 _ _ _ _ _ _ _
      | exact LeO.none _
      | refine LeO.ite ?_ ?_
      | refine LeO.bind ?_ (fun _ => ?_)
    · intro y0 y1 y2 y3 y4 y5 y6
      unfold transhumanceref01_Get.j2
      repeat' first
      | (with_reducible exact ih0 _ _ _)
      | (with_reducible exact ih1 _ _ _ _ _)
      | (with_reducible exact ih2 _ _ _ _ _ _ _)
      | (with_reducible exact LeO.refl _)
      | (with_reducible exact LeO.none _)
      | (with_reducible refine LeO.ite ?_ ?_)
      | (with_reducible refine LeO.bind ?_ (fun _ => ?_))
      | exact ih0 _ _ _
      | exact ih1 _ _ _ _ _
      | exact ih2 _ _ _ _ _ _ _
      | exact LeO.none _
      | refine LeO.ite ?_ ?_
      | refine LeO.bind ?_ (fun _ => ?_)
theorem transhumanceref01_Get.mono : ∀ a0 a1 k, LeO (transhumanceref01_Get.f k a0 a1) (transhumanceref01_Get.f (k + 1) a0 a1) := by
  intro a0 a1 k
  obtain ⟨ih0, ih1, ih2⟩ := transhumanceref01_Get.mono_l k
  unfold transhumanceref01_Get.f
  repeat' first
      | (with_reducible exact ih0 _ _ _)
      | (with_reducible exact ih1 _ _ _ _ _)
      | (with_reducible exact ih2 _ _ _ _ _ _ _)
      | (with_reducible exact LeO.refl _)
      | (with_reducible exact LeO.none _)
      | (with_reducible refine LeO.ite ?_ ?_)
      | (with_reducible refine LeO.bind ?_ (fun _ => ?_))
      | exact ih0 _ _ _
      | exact ih1 _ _ _ _ _
      | exact ih2 _ _ _ _ _ _ _
      | exact LeO.none _
      | refine LeO.ite ?_ ?_
      | refine LeO.bind ?_ (fun _ => ?_)
set_option maxHeartbeats 8000000 in
set_option maxRecDepth 100000 in
theorem transhumanceref01_Get.calls (k : Nat) (a0 : ByteArray) (a1 : Int) (r1 : Int) (r2 : Int) (r3 : Int) (w : World) (h : transhumanceref01_Get.f k a0 a1 = some (r1, r2, r3)) :
    Calls Try.prog 58 #[.string a0, .int .i64 a1] w fun e w' => e = .returned (.tuple #[.int .i64 r1, .int .i64 r2, .int .i64 r3]) ∧ Drawn0 w w' := by
  have H : (if a1 < 0 then (transhumanceref01_Get.j0 k a0 a1 true) else (transhumanceref01_Get.j0 k a0 a1 (decide (a1 > (a0.size : Int))))) = some (r1, r2, r3) := h
  clear h
  have HC3 := Aside0.mk H
  clear H
  go_enter Try.func58, Try.ntmps58
  go_upto_region 1 with (fail)
  go_cut [18] (fun v18 wc => ∃ (kq : Nat) (x18_2 : Bool), v18 = .bool x18_2 ∧ Aside0 (transhumanceref01_Get.j0 kq a0 a1 x18_2 = some (r1, r2, r3)) ∧ Aside0 (kq ≤ k) ∧ Drawn0 w wc)
  case first =>
    have H := HC3.out
    clear HC3
    by_cases c4 : a1 < 0
    · rw [if_pos c4] at H
      have c4b0 : decide (a1 < 0) = true := decide_eq_true c4
      clear c4
      (first | rw [c4b0] | (simp only [i64_w, i32_w]; rw [c4b0]) | skip)
      have H' := Aside0.mk H
      clear H
      go_wp2
      go_meet
      case rel => exact ⟨_, (true), (by first | rfl | (simp; done) | (simp [*]; done)), H', ⟨by first | omega | exact Nat.le_refl _⟩, by repeat (first | exact Drawn0.refl _ | apply Drawn0.step)⟩
    · rw [if_neg c4] at H
      have c4b0 : decide (a1 < 0) = false := decide_eq_false c4
      clear c4
      (first | rw [c4b0] | (simp only [i64_w, i32_w]; rw [c4b0]) | skip)
      have H' := Aside0.mk H
      clear H
      go_wp2
      go_meet
      case rel => exact ⟨_, (decide (a1 > (a0.size : Int))), (by first | rfl | (simp; done) | (simp [*]; done)), H', ⟨by first | omega | exact Nat.le_refl _⟩, by repeat (first | exact Drawn0.refl _ | apply Drawn0.step)⟩
  case rest =>
    clear HC3
    try clear p2
    try clear c4
    try clear c4b0
    obtain ⟨kq, x18_2, rfl, HA, HJ2, ⟨mc2, rfl⟩⟩ := hcut
    cases kq with
    | zero => exact absurd HA.out (by simp [transhumanceref01_Get.j0])
    | succ kj2 =>
      have H := HA.out
      clear HA
      simp only [transhumanceref01_Get.j0] at H
      by_cases c5 : x18_2 = true
      · subst c5
        have H1 : (some (0, a1, 1)) = some (r1, r2, r3) := by rw [if_pos rfl] at H; exact H
        clear H
        have H := H1
        clear H1
        simp only [Option.some.injEq, Prod.mk.injEq] at H
        obtain ⟨rfl, rfl, rfl⟩ := H
        go_wp2
        go_ret3
        exact ⟨by first | rfl | (simp; done) | (simp [*]; done), by repeat (first | exact Drawn0.refl _ | apply Drawn0.step)⟩
      · replace c5 := Bool.eq_false_iff.mpr c5
        subst c5
        have H1 : (transhumanceref01_Get.l0 kj2 a0 a1 0 1 0) = some (r1, r2, r3) := by rw [if_neg (show ¬ (false = true) by decide)] at H; exact H
        clear H
        have H := H1
        clear H1
        have H' := Aside0.mk H
        clear H
        go_wp2
        go_loopg [7, 8, 9] kj2 (fun kq v7 v8 v9 w' => ∃ (x7_2 : Int) (x8_2 : Int) (x9_2 : Int), v7 = .int .i64 x7_2 ∧ v8 = .int .i64 x8_2 ∧ v9 = .int .i64 x9_2 ∧ Aside0 (transhumanceref01_Get.l0 kq a0 a1 x7_2 x8_2 x9_2 = some (r1, r2, r3)) ∧ Aside0 (kq ≤ kj2) ∧ Drawn0 w w')
        case atStart => exact ⟨(0), (1), (0), (by first | rfl | (simp; done) | (simp [*]; done)), (by first | rfl | (simp; done) | (simp [*]; done)), (by first | rfl | (simp; done) | (simp [*]; done)), H', ⟨Nat.le_refl _⟩, by repeat (first | exact Drawn0.refl _ | apply Drawn0.step)⟩
        case round =>
          clear H'
          try clear c2
          try clear p2
          try clear c4
          try clear c4b0
          try clear c5
          try clear p2
          obtain ⟨x7_2, x8_2, x9_2, rfl, rfl, rfl, HA, HK2, ⟨m2, rfl⟩⟩ := hrel
          cases gk with
          | zero => exact absurd HA.out (by simp [transhumanceref01_Get.l0])
          | succ k2 =>
            have H := HA.out
            clear HA
            simp only [transhumanceref01_Get.l0] at H
            by_cases c6 : (wrap64 (a1 + x9_2)) ≥ (a0.size : Int)
            · rw [if_pos c6] at H
              have c6b0 : decide ((a0.size : Int) ≤ (wrap64 (a1 + x9_2))) = true := decide_eq_true c6
              clear c6
              simp only [Option.some.injEq, Prod.mk.injEq] at H
              obtain ⟨rfl, rfl, rfl⟩ := H
              go_wp2
              go_ret3
              exact ⟨by first | rfl | (simp; done) | (simp [*]; done), by repeat (first | exact Drawn0.refl _ | apply Drawn0.step)⟩
            · rw [if_neg c6] at H
              have c6b0 : decide ((a0.size : Int) ≤ (wrap64 (a1 + x9_2))) = false := decide_eq_false c6
              clear c6
              obtain ⟨ji7, hji7⟩ : ∃ j_ : Int, (wrap64 (a1 + x9_2)) = j_ := ⟨_, rfl⟩
              replace H : (if 0 ≤ (ji7) then (if (ji7) < (a0.size : Int) then (if x9_2 = 7 then (transhumanceref01_Get.j2 k2 a0 a1 x7_2 x8_2 x9_2 (wrap64 (bt a0 (ji7))) true) else (if x9_2 = 6 then (if (wrap64 (bt a0 (ji7))) < 128 then (transhumanceref01_Get.j2 k2 a0 a1 x7_2 x8_2 x9_2 (wrap64 (bt a0 (ji7))) (decide ((wrap64 (bt a0 (ji7))) > 63))) else (transhumanceref01_Get.j2 k2 a0 a1 x7_2 x8_2 x9_2 (wrap64 (bt a0 (ji7))) false)) else (transhumanceref01_Get.j2 k2 a0 a1 x7_2 x8_2 x9_2 (wrap64 (bt a0 (ji7))) false))) else (none)) else (none)) = some (r1, r2, r3) := by first | (rw [hji7] at H; exact H) | (simp only [hji7] at H ⊢; exact H)
              (try rw [hji7] at c6b0)
              have hji7w : (IntKind.i64.wrap (a1 + x9_2)) = ji7 := (i64_w _).trans hji7
              by_cases c8 : 0 ≤ (ji7)
              · rw [if_pos c8] at H
                have c8b0 : decide (0 ≤ (ji7)) = true := decide_eq_true c8
                clear c8
                by_cases c9 : (ji7) < (a0.size : Int)
                · rw [if_pos c9] at H
                  have c9b0 : decide ((ji7) < (a0.size : Int)) = true := decide_eq_true c9
                  clear c9
                  have HC11 := Aside0.mk H
                  clear H
                  have p10 : 0 ≤ ((ji7) : Int) := of_decide_eq_true (by first | (with_reducible assumption) | assumption)
                  have q10 : (ji7) < (a0.size : Int) := of_decide_eq_true (by first | (with_reducible assumption) | assumption)
                  have hx10 := bt_at a0 (ji7)
                  replace p10 := eq_true p10
                  replace q10 := eq_true q10
                  go_upto_region 9 with (fail)
                  go_cut [48] (fun v48 wc => ∃ (kq : Nat) (x48_10 : Bool), v48 = .bool x48_10 ∧ Aside0 (transhumanceref01_Get.j2 kq a0 a1 x7_2 x8_2 x9_2 (wrap64 (bt a0 (ji7))) x48_10 = some (r1, r2, r3)) ∧ Aside0 (kq ≤ k2) ∧ Drawn0 w wc)
                  case first =>
                    have H := HC11.out
                    clear HC11
                    by_cases c12 : x9_2 = 7
                    · rw [if_pos c12] at H
                      have c12b0 : (x9_2 == 7) = true := beq_iff_eq.mpr c12
                      have c12b1 : (x9_2 != 7) = false := bne_eq_false_iff_eq.mpr c12
                      clear c12
                      (first | rw [c12b0] | (simp only [i64_w, i32_w]; rw [c12b0]) | skip)
                      have H' := Aside0.mk H
                      clear H
                      go_wp2
                      go_meet
                      case rel => exact ⟨_, (true), (by first | rfl | (simp; done) | (simp [*]; done)), H', ⟨by have := HJ2.out; have := HK2.out; first | omega | exact Nat.le_refl _⟩, by repeat (first | exact Drawn0.refl _ | apply Drawn0.step)⟩
                    · rw [if_neg c12] at H
                      have c12b0 : (x9_2 == 7) = false := beq_eq_false_iff_ne.mpr c12
                      have c12b1 : (x9_2 != 7) = true := bne_iff_ne.mpr c12
                      (first | rw [c12b0] | (simp only [i64_w, i32_w]; rw [c12b0]) | skip)
                      by_cases c13 : x9_2 = 6
                      · rw [if_pos c13] at H
                        have c13b0 : (x9_2 == 6) = true := beq_iff_eq.mpr c13
                        have c13b1 : (x9_2 != 6) = false := bne_eq_false_iff_eq.mpr c13
                        clear c13
                        by_cases c14 : (wrap64 (bt a0 (ji7))) < 128
                        · rw [if_pos c14] at H
                          have c14b0 : decide ((wrap64 (bt a0 (ji7))) < 128) = true := decide_eq_true c14
                          clear c14
                          have H' := Aside0.mk H
                          clear H
                          go_wp2
                          go_meet
                          case rel => exact ⟨_, (decide ((wrap64 (bt a0 (ji7))) > 63)), (by first | rfl | (simp; done) | (simp only [← hji7] <;> (first | rfl | simp)) | (simp [*]; done)), H', ⟨by have := HJ2.out; have := HK2.out; first | omega | exact Nat.le_refl _⟩, by repeat (first | exact Drawn0.refl _ | apply Drawn0.step)⟩
                        · rw [if_neg c14] at H
                          have c14b0 : decide ((wrap64 (bt a0 (ji7))) < 128) = false := decide_eq_false c14
                          clear c14
                          have H' := Aside0.mk H
                          clear H
                          go_wp2
                          go_meet
                          case rel => exact ⟨_, (false), (by first | rfl | (simp; done) | (simp [*]; done)), H', ⟨by have := HJ2.out; have := HK2.out; first | omega | exact Nat.le_refl _⟩, by repeat (first | exact Drawn0.refl _ | apply Drawn0.step)⟩
                      · rw [if_neg c13] at H
                        have c13b0 : (x9_2 == 6) = false := beq_eq_false_iff_ne.mpr c13
                        have c13b1 : (x9_2 != 6) = true := bne_iff_ne.mpr c13
                        have H' := Aside0.mk H
                        clear H
                        go_wp2
                        go_meet
                        case rel => exact ⟨_, (false), (by first | rfl | (simp; done) | (simp [*]; done)), H', ⟨by have := HJ2.out; have := HK2.out; first | omega | exact Nat.le_refl _⟩, by repeat (first | exact Drawn0.refl _ | apply Drawn0.step)⟩
                  case rest =>
                    clear HC11
                    try clear c1
                    try clear p1
                    try clear q1
                    try clear hx1
                    try clear c2
                    try clear p2
                    try clear c4
                    try clear c4b0
                    try clear c5
                    try clear c6
                    try clear c6b0
                    try clear p6
                    try clear c8
                    try clear c8b0
                    try clear c9
                    try clear c9b0
                    try clear p10
                    try clear q10
                    try clear hx10
                    try clear c12
                    try clear c12b0
                    try clear c12b1
                    try clear c13
                    try clear c13b0
                    try clear c13b1
                    try clear c14
                    try clear c14b0
                    try clear p10
                    try clear p2
                    try clear q10
                    obtain ⟨kq, x48_10, rfl, HA, HJ10, ⟨mc10, rfl⟩⟩ := hcut
                    cases kq with
                    | zero => exact absurd HA.out (by simp [transhumanceref01_Get.j2])
                    | succ kj10 =>
                      have H := HA.out
                      clear HA
                      simp only [transhumanceref01_Get.j2] at H
                      by_cases c15 : x48_10 = true
                      · subst c15
                        have H1 : (some (0, a1, 11)) = some (r1, r2, r3) := by rw [if_pos rfl] at H; exact H
                        clear H
                        have H := H1
                        clear H1
                        simp only [Option.some.injEq, Prod.mk.injEq] at H
                        obtain ⟨rfl, rfl, rfl⟩ := H
                        go_wp2
                        go_ret3
                        exact ⟨by first | rfl | (simp; done) | (simp only [← hji7] <;> (first | rfl | simp)) | (simp [*]; done), by repeat (first | exact Drawn0.refl _ | apply Drawn0.step)⟩
                      · replace c15 := Bool.eq_false_iff.mpr c15
                        subst c15
                        have H1 : (if (wrap64 (bt a0 (ji7))) < 128 then (if (wrap64 (bt a0 (ji7))) = 0 then (if x9_2 > 0 then (some (0, a1, 12)) else (some (wrap64 (x7_2 + (wrap64 ((Int.tmod (wrap64 (bt a0 (ji7))) 128) * x8_2))), wrap64 ((wrap64 (a1 + x9_2)) + 1), 0))) else (some (wrap64 (x7_2 + (wrap64 ((Int.tmod (wrap64 (bt a0 (ji7))) 128) * x8_2))), wrap64 ((wrap64 (a1 + x9_2)) + 1), 0))) else (transhumanceref01_Get.l0 kj10 a0 a1 (wrap64 (x7_2 + (wrap64 ((Int.tmod (wrap64 (bt a0 (ji7))) 128) * x8_2)))) (wrap64 (x8_2 * 128)) (wrap64 (x9_2 + 1)))) = some (r1, r2, r3) := by rw [if_neg (show ¬ (false = true) by decide)] at H; exact H
                        clear H
                        have H := H1
                        clear H1
                        by_cases c16 : (wrap64 (bt a0 (ji7))) < 128
                        · rw [if_pos c16] at H
                          have c16b0 : decide ((wrap64 (bt a0 (ji7))) < 128) = true := decide_eq_true c16
                          clear c16
                          by_cases c17 : (wrap64 (bt a0 (ji7))) = 0
                          · rw [if_pos c17] at H
                            have c17b0 : ((wrap64 (bt a0 (ji7))) == 0) = true := beq_iff_eq.mpr c17
                            have c17b1 : ((wrap64 (bt a0 (ji7))) != 0) = false := bne_eq_false_iff_eq.mpr c17
                            clear c17
                            by_cases c18 : x9_2 > 0
                            · rw [if_pos c18] at H
                              have c18b0 : decide (0 < x9_2) = true := decide_eq_true c18
                              clear c18
                              simp only [Option.some.injEq, Prod.mk.injEq] at H
                              obtain ⟨rfl, rfl, rfl⟩ := H
                              go_wp2
                              go_ret3
                              exact ⟨by first | rfl | (simp; done) | (simp only [← hji7] <;> (first | rfl | simp)) | (simp [*]; done), by repeat (first | exact Drawn0.refl _ | apply Drawn0.step)⟩
                            · rw [if_neg c18] at H
                              have c18b0 : decide (0 < x9_2) = false := decide_eq_false c18
                              clear c18
                              simp only [Option.some.injEq, Prod.mk.injEq] at H
                              obtain ⟨rfl, rfl, rfl⟩ := H
                              go_wp2
                              go_ret3
                              exact ⟨by first | rfl | (simp; done) | (simp only [← hji7] <;> (first | rfl | simp)) | (simp [*]; done), by repeat (first | exact Drawn0.refl _ | apply Drawn0.step)⟩
                          · rw [if_neg c17] at H
                            have c17b0 : ((wrap64 (bt a0 (ji7))) == 0) = false := beq_eq_false_iff_ne.mpr c17
                            have c17b1 : ((wrap64 (bt a0 (ji7))) != 0) = true := bne_iff_ne.mpr c17
                            simp only [Option.some.injEq, Prod.mk.injEq] at H
                            obtain ⟨rfl, rfl, rfl⟩ := H
                            go_wp2
                            go_ret3
                            exact ⟨by first | rfl | (simp; done) | (simp only [← hji7] <;> (first | rfl | simp)) | (simp [*]; done), by repeat (first | exact Drawn0.refl _ | apply Drawn0.step)⟩
                        · rw [if_neg c16] at H
                          have c16b0 : decide ((wrap64 (bt a0 (ji7))) < 128) = false := decide_eq_false c16
                          clear c16
                          have H' := Aside0.mk H
                          clear H
                          go_wp2
                          go_roundg kj10
                          case measure => have := HJ2.out; have := HK2.out; have := HJ10.out; omega
                          case rel => exact ⟨(wrap64 (x7_2 + (wrap64 ((Int.tmod (wrap64 (bt a0 (ji7))) 128) * x8_2)))), (wrap64 (x8_2 * 128)), (wrap64 (x9_2 + 1)), (by first | rfl | (simp; done) | (simp only [← hji7] <;> (first | rfl | simp)) | (simp [*]; done)), (by first | rfl | (simp; done) | (simp [*]; done)), (by first | rfl | (simp; done) | (simp [*]; done)), H', ⟨by have := HJ2.out; have := HK2.out; have := HJ10.out; omega⟩, by repeat (first | exact Drawn0.refl _ | apply Drawn0.step)⟩
                · rw [if_neg c9] at H
                  exact absurd H (by simp)
              · rw [if_neg c8] at H
                exact absurd H (by simp)

end Go.Proofs.Ytaeocbbapnfcaaa.PSect
