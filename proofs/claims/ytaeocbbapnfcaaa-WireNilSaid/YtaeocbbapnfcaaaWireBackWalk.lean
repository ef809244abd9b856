/- The walk through WireBack: of texts of at most 200 bytes, what is put of a number is read where it stands, and what is read of bytes is the one number whose bytes stand there; else the fixed calls. -/
import Derived.Test.YtaeocbbapnfcaaaWireFour
import Derived.RegionTactic
import Derived.ChangeAlike
import Derived.BigRegion
import Derived.Deep.RegionHeld3
import Derived.Deep.QuietTactic
import Derived.BigQuiet
namespace Go.Proofs.Ytaeocbbapnfcaaa.WireBackWalk
open Go.RowKit Go.Proofs.Ytaeocbbapnfcaaa.PWire Go.Proofs.YtaeocbbapnfcaaaW.PrintWords Go.Proofs.YtaeocbbapnfcaaaW.PrintLast Base PutWalk GetWalk FixedWalk BRow WirePlain
set_option linter.unusedVariables false
set_option linter.unusedSimpArgs false

theorem fixed1 (w : World) : Calls Try.prog 25 #[] w fun e w' => e = .returned (.bool true) ∧ Below w.heap.size w w' := transhumancelaw01_fixed.calls true w rfl
theorem fix1 (s : ByteArray) (a x y z : Int) (w : World) (hs : s.size ≤ 140737488351232) (h : getF s a = (x, y, z)) : Calls Try.prog 29 #[.string s, .int .i64 a] w fun e w' => e = .returned (.tuple #[.int .i64 x, .int .i64 y, .int .i64 z]) ∧ Below w.heap.size w w' :=
  (wire_GetFixed.calls 5 s a x y z w (by rw [fix_f 5 s a hs (Nat.le_refl _), h])).mono fun e w' h => ⟨h.1, h.2.below⟩
theorem get1 (s : ByteArray) (a x y z : Int) (w : World) (hs : s.size ≤ 140737488351232) (h : getI s a = (x, y, z)) : Calls Try.prog 28 #[.string s, .int .i64 a] w fun e w' => e = .returned (.tuple #[.int .i64 x, .int .i64 y, .int .i64 z]) ∧ w = w' := by
  have := get_any s a w hs
  rw [h] at this
  exact this
theorem put1 (n : Int) (p : ByteArray) (w : World) (h : putS n = p) : Calls Try.prog 26 #[.int .i64 n] w fun e w' => e = .returned (.string p) ∧ Below w.heap.size w w' := by
  have := put_any n w
  rw [h] at this
  exact this
theorem four1 (n : Int) (p : ByteArray) (w : World) (h : putF n = p) : Calls Try.prog 27 #[.int .i64 n] w fun e w' => e = .returned (.string p) ∧ Below w.heap.size w w' := by
  have := fixed_any n w
  rw [h] at this
  exact this
theorem full {s : ByteArray} (h : 1 ≤ s.size) : s.toList.isEmpty = false := by
  rw [ByteArray.toList_eq]
  cases e : s.data.toList with
  | nil =>
    have := bs_size s
    rw [bs, e] at this
    simp at this
    omega
  | cons _ _ => rfl

set_option maxHeartbeats 400000 in
theorem back_out (a b : ByteArray) (n : Int) (w : World) (h : 200 < a.size ∨ 200 < b.size) :
    Calls Try.prog 9 #[.string a, .string b, .int .i64 n] w fun e w' => e = .returned (.bool true) ∧ Below w.heap.size w w' := by
  have HB := Aside0.mk (Below.refl w.heap.size w)
  by_cases h1 : 200 < a.size
  · have g1 : decide ((200 : Int) < (a.size : Int)) = true := decide_eq_true (by omega)
    clear h h1
    go_enter Try.func9, Try.ntmps9
    go_wp2_with (go_at_call 25; (with_reducible refine (fixed1 _).mono ?_); rintro e w1 ⟨rfl, hb⟩; have n0 := Aside0.mk (below_then HB.out HB.out.size hb); clear HB hb; have HB := n0; clear n0)
    go_ret
    exact ⟨rfl, HB.out⟩
  · have g1 : decide ((200 : Int) < (a.size : Int)) = false := decide_eq_false (by omega)
    have g2 : decide ((200 : Int) < (b.size : Int)) = true := decide_eq_true (by omega)
    clear h h1
    go_enter Try.func9, Try.ntmps9
    go_wp2_with (go_at_call 25; (with_reducible refine (fixed1 _).mono ?_); rintro e w1 ⟨rfl, hb⟩; have n0 := Aside0.mk (below_then HB.out HB.out.size hb); clear HB hb; have HB := n0; clear n0)
    go_ret
    exact ⟨rfl, HB.out⟩

set_option maxHeartbeats 1600000 in
set_option maxRecDepth 100000 in
theorem back_low (a b : ByteArray) (n : Int) (w : World) (ha : a.size ≤ 200) (hb : b.size ≤ 200) (h : n < 0) :
    Calls Try.prog 9 #[.string a, .string b, .int .i64 n] w fun e w' => e = .returned (.bool true) ∧ Below w.heap.size w w' := by
  have HB := Aside0.mk (Below.refl w.heap.size w)
  have g1 : decide ((200 : Int) < (a.size : Int)) = false := decide_eq_false (by omega)
  have g2 : decide ((200 : Int) < (b.size : Int)) = false := decide_eq_false (by omega)
  have g3 : decide (n < 0) = true := decide_eq_true (by omega)
  have g4 : decide ((281474976710655 : Int) < n) = false := decide_eq_false (by omega)
  have g5 : decide ((4294967295 : Int) < n) = false := decide_eq_false (by omega)
  obtain ⟨p, hp0⟩ : ∃ p, putS n = p := ⟨_, rfl⟩
  obtain ⟨q, hq0⟩ : ∃ q, putF n = q := ⟨_, rfl⟩
  have HP := Aside0.mk hp0
  have HQ := Aside0.mk hq0
  clear hp0 hq0
  have hp : p.toList.isEmpty = true := by rw [← HP.out, putS_out n (by omega)]; decide +kernel
  have hq : q.toList.isEmpty = true := by rw [← HQ.out, putF_out n (by omega)]; decide +kernel
  have a1 : (a.size : Int) ≤ 200 := by omega
  obtain ⟨x, y, z, hg3⟩ : ∃ x y z, getI b 0 = (x, y, z) := ⟨_, _, _, rfl⟩
  have HG3 := Aside0.mk hg3
  have HS3 := Aside0.mk (show b.size ≤ 140737488351232 by omega)
  by_cases hz : z = 0
  · obtain ⟨m, k, hx, hy, hm, hk1, hk2, hk3⟩ := get_back b x y z hg3 hz
    subst hx
    subst hy
    have c0 : (z != 0) = false := by simpa using hz
    have c1 : decide ((1 : Int) ≤ (k : Int)) = true := decide_eq_true (by omega)
    have c2 : decide ((k : Int) ≤ (b.size : Int)) = true := decide_eq_true (by omega)
    have c3 : ((putS (m : Int)).toList == (b.extract 0 k).toList) = true := by rw [hk3]; exact beq_self_eq_true _
    have k2 : (k : Int) ≤ (b.size : Int) := by omega
    clear hg3 hk1 hk2 hk3 hm hz
    clear h ha hb
    go_enter Try.func9, Try.ntmps9
    go_wp2_with (first | (go_at_call 25; (with_reducible refine (fixed1 _).mono ?_); rintro e w1 ⟨rfl, hb⟩; have n0 := Aside0.mk (below_then HB.out HB.out.size hb); clear HB hb; have HB := n0; clear n0) | (go_at_call 26; (with_reducible refine (put1 _ p _ HP.out).mono ?_); rintro e w1 ⟨rfl, hb⟩; have n0 := Aside0.mk (below_then HB.out HB.out.size hb); clear HB hb; have HB := n0; clear n0) | (go_at_call 27; (with_reducible refine (four1 _ q _ HQ.out).mono ?_); rintro e w1 ⟨rfl, hb⟩; have n0 := Aside0.mk (below_then HB.out HB.out.size hb); clear HB hb; have HB := n0; clear n0) | (go_at_call 28; (with_reducible refine (get1 _ _ _ _ _ _ HS3.out HG3.out).mono ?_); rintro e w1 ⟨rfl, rfl⟩))
    go_region_held3 (fun w' => Below w.heap.size w w')
      (first | (exact below_drew HB.out) | (exact below_then (by assumption) (Below.size (by assumption)) (by assumption)))
      (((go_at_call 26; (with_reducible refine (put1 _ _ _ rfl).mono ?_); rintro e w5 ⟨rfl, hb⟩)))
    go_wp2
    go_ret
    exact ⟨by first | rfl | (rw [c3]; rfl), by assumption⟩
  · have c0 : (z != 0) = true := by simpa using hz
    clear hg3 hz
    clear h ha hb
    go_enter Try.func9, Try.ntmps9
    go_wp2_with (first | (go_at_call 25; (with_reducible refine (fixed1 _).mono ?_); rintro e w1 ⟨rfl, hb⟩; have n0 := Aside0.mk (below_then HB.out HB.out.size hb); clear HB hb; have HB := n0; clear n0) | (go_at_call 26; (with_reducible refine (put1 _ p _ HP.out).mono ?_); rintro e w1 ⟨rfl, hb⟩; have n0 := Aside0.mk (below_then HB.out HB.out.size hb); clear HB hb; have HB := n0; clear n0) | (go_at_call 27; (with_reducible refine (four1 _ q _ HQ.out).mono ?_); rintro e w1 ⟨rfl, hb⟩; have n0 := Aside0.mk (below_then HB.out HB.out.size hb); clear HB hb; have HB := n0; clear n0) | (go_at_call 28; (with_reducible refine (get1 _ _ _ _ _ _ HS3.out HG3.out).mono ?_); rintro e w1 ⟨rfl, rfl⟩))
    go_quiet (fail)
    go_wp2
    go_ret
    exact ⟨by first | rfl, pw_below_drewN HB.out _⟩

set_option maxHeartbeats 1600000 in
set_option maxRecDepth 100000 in
theorem back_high (a b : ByteArray) (n : Int) (w : World) (ha : a.size ≤ 200) (hb : b.size ≤ 200) (h : 281474976710655 < n) :
    Calls Try.prog 9 #[.string a, .string b, .int .i64 n] w fun e w' => e = .returned (.bool true) ∧ Below w.heap.size w w' := by
  have HB := Aside0.mk (Below.refl w.heap.size w)
  have g1 : decide ((200 : Int) < (a.size : Int)) = false := decide_eq_false (by omega)
  have g2 : decide ((200 : Int) < (b.size : Int)) = false := decide_eq_false (by omega)
  have g3 : decide (n < 0) = false := decide_eq_false (by omega)
  have g4 : decide ((281474976710655 : Int) < n) = true := decide_eq_true (by omega)
  have g5 : decide ((4294967295 : Int) < n) = true := decide_eq_true (by omega)
  obtain ⟨p, hp0⟩ : ∃ p, putS n = p := ⟨_, rfl⟩
  obtain ⟨q, hq0⟩ : ∃ q, putF n = q := ⟨_, rfl⟩
  have HP := Aside0.mk hp0
  have HQ := Aside0.mk hq0
  clear hp0 hq0
  have hp : p.toList.isEmpty = true := by rw [← HP.out, putS_out n (by omega)]; decide +kernel
  have hq : q.toList.isEmpty = true := by rw [← HQ.out, putF_out n (by omega)]; decide +kernel
  have a1 : (a.size : Int) ≤ 200 := by omega
  obtain ⟨x, y, z, hg3⟩ : ∃ x y z, getI b 0 = (x, y, z) := ⟨_, _, _, rfl⟩
  have HG3 := Aside0.mk hg3
  have HS3 := Aside0.mk (show b.size ≤ 140737488351232 by omega)
  by_cases hz : z = 0
  · obtain ⟨m, k, hx, hy, hm, hk1, hk2, hk3⟩ := get_back b x y z hg3 hz
    subst hx
    subst hy
    have c0 : (z != 0) = false := by simpa using hz
    have c1 : decide ((1 : Int) ≤ (k : Int)) = true := decide_eq_true (by omega)
    have c2 : decide ((k : Int) ≤ (b.size : Int)) = true := decide_eq_true (by omega)
    have c3 : ((putS (m : Int)).toList == (b.extract 0 k).toList) = true := by rw [hk3]; exact beq_self_eq_true _
    have k2 : (k : Int) ≤ (b.size : Int) := by omega
    clear hg3 hk1 hk2 hk3 hm hz
    clear h ha hb
    go_enter Try.func9, Try.ntmps9
    go_wp2_with (first | (go_at_call 25; (with_reducible refine (fixed1 _).mono ?_); rintro e w1 ⟨rfl, hb⟩; have n0 := Aside0.mk (below_then HB.out HB.out.size hb); clear HB hb; have HB := n0; clear n0) | (go_at_call 26; (with_reducible refine (put1 _ p _ HP.out).mono ?_); rintro e w1 ⟨rfl, hb⟩; have n0 := Aside0.mk (below_then HB.out HB.out.size hb); clear HB hb; have HB := n0; clear n0) | (go_at_call 27; (with_reducible refine (four1 _ q _ HQ.out).mono ?_); rintro e w1 ⟨rfl, hb⟩; have n0 := Aside0.mk (below_then HB.out HB.out.size hb); clear HB hb; have HB := n0; clear n0) | (go_at_call 28; (with_reducible refine (get1 _ _ _ _ _ _ HS3.out HG3.out).mono ?_); rintro e w1 ⟨rfl, rfl⟩))
    go_region_held3 (fun w' => Below w.heap.size w w')
      (first | (exact below_drew HB.out) | (exact below_then (by assumption) (Below.size (by assumption)) (by assumption)))
      (((go_at_call 26; (with_reducible refine (put1 _ _ _ rfl).mono ?_); rintro e w5 ⟨rfl, hb⟩)))
    go_wp2
    go_ret
    exact ⟨by first | rfl | (rw [c3]; rfl), by assumption⟩
  · have c0 : (z != 0) = true := by simpa using hz
    clear hg3 hz
    clear h ha hb
    go_enter Try.func9, Try.ntmps9
    go_wp2_with (first | (go_at_call 25; (with_reducible refine (fixed1 _).mono ?_); rintro e w1 ⟨rfl, hb⟩; have n0 := Aside0.mk (below_then HB.out HB.out.size hb); clear HB hb; have HB := n0; clear n0) | (go_at_call 26; (with_reducible refine (put1 _ p _ HP.out).mono ?_); rintro e w1 ⟨rfl, hb⟩; have n0 := Aside0.mk (below_then HB.out HB.out.size hb); clear HB hb; have HB := n0; clear n0) | (go_at_call 27; (with_reducible refine (four1 _ q _ HQ.out).mono ?_); rintro e w1 ⟨rfl, hb⟩; have n0 := Aside0.mk (below_then HB.out HB.out.size hb); clear HB hb; have HB := n0; clear n0) | (go_at_call 28; (with_reducible refine (get1 _ _ _ _ _ _ HS3.out HG3.out).mono ?_); rintro e w1 ⟨rfl, rfl⟩))
    go_quiet (fail)
    go_wp2
    go_ret
    exact ⟨by first | rfl, pw_below_drewN HB.out _⟩

set_option maxHeartbeats 1600000 in
set_option maxRecDepth 100000 in
theorem back_mid (a b : ByteArray) (n : Int) (w : World) (ha : a.size ≤ 200) (hb : b.size ≤ 200) (h0 : 4294967295 < n) (h1 : n ≤ 281474976710655) :
    Calls Try.prog 9 #[.string a, .string b, .int .i64 n] w fun e w' => e = .returned (.bool true) ∧ Below w.heap.size w w' := by
  have HB := Aside0.mk (Below.refl w.heap.size w)
  have g1 : decide ((200 : Int) < (a.size : Int)) = false := decide_eq_false (by omega)
  have g2 : decide ((200 : Int) < (b.size : Int)) = false := decide_eq_false (by omega)
  have g3 : decide (n < 0) = false := decide_eq_false (by omega)
  have g4 : decide ((281474976710655 : Int) < n) = false := decide_eq_false (by omega)
  have g5 : decide ((4294967295 : Int) < n) = true := decide_eq_true (by omega)
  obtain ⟨p, hp0⟩ : ∃ p, putS n = p := ⟨_, rfl⟩
  obtain ⟨q, hq0⟩ : ∃ q, putF n = q := ⟨_, rfl⟩
  have HP := Aside0.mk hp0
  have HQ := Aside0.mk hq0
  clear hp0 hq0
  have hps : 1 ≤ p.size ∧ p.size ≤ 7 := by
    obtain ⟨m, rfl⟩ := Int.eq_ofNat_of_zero_le (show 0 ≤ n by omega)
    obtain ⟨y, h1, h2, h3⟩ := WirePlain.size_one m (by omega)
    have := HP.out
    rw [← this]
    omega
  have hp : p.toList.isEmpty = false := full hps.1
  have hg1 : getI ((a ++ p) ++ b) (a.size : Int) = (n, (a.size : Int) + (p.size : Int), 0) := by
    obtain ⟨m, rfl⟩ := Int.eq_ofNat_of_zero_le (show 0 ≤ n by omega)
    rw [← HP.out, get_put a b m (by omega)]
    simp
  have HG1 := Aside0.mk hg1
  have s1 : a.size + p.size ≤ 9223372036854775807 := by omega
  have s2 : (a ++ p).size + b.size ≤ 9223372036854775807 := by rw [ByteArray.size_append]; omega
  have HS1 := Aside0.mk (show ((a ++ p) ++ b).size ≤ 140737488351232 by rw [ByteArray.size_append, ByteArray.size_append]; omega)
  have q1 : (p.size : Int) ≤ 7 := by omega
  clear hg1 hps
  have hq : q.toList.isEmpty = true := by rw [← HQ.out, putF_out n (by omega)]; decide +kernel
  have a1 : (a.size : Int) ≤ 200 := by omega
  obtain ⟨x, y, z, hg3⟩ : ∃ x y z, getI b 0 = (x, y, z) := ⟨_, _, _, rfl⟩
  have HG3 := Aside0.mk hg3
  have HS3 := Aside0.mk (show b.size ≤ 140737488351232 by omega)
  by_cases hz : z = 0
  · obtain ⟨m, k, hx, hy, hm, hk1, hk2, hk3⟩ := get_back b x y z hg3 hz
    subst hx
    subst hy
    have c0 : (z != 0) = false := by simpa using hz
    have c1 : decide ((1 : Int) ≤ (k : Int)) = true := decide_eq_true (by omega)
    have c2 : decide ((k : Int) ≤ (b.size : Int)) = true := decide_eq_true (by omega)
    have c3 : ((putS (m : Int)).toList == (b.extract 0 k).toList) = true := by rw [hk3]; exact beq_self_eq_true _
    have k2 : (k : Int) ≤ (b.size : Int) := by omega
    clear hg3 hk1 hk2 hk3 hm hz
    clear h0 h1 ha hb
    go_enter Try.func9, Try.ntmps9
    go_wp2_with (first | (go_at_call 25; (with_reducible refine (fixed1 _).mono ?_); rintro e w1 ⟨rfl, hb⟩; have n0 := Aside0.mk (below_then HB.out HB.out.size hb); clear HB hb; have HB := n0; clear n0) | (go_at_call 26; (with_reducible refine (put1 _ p _ HP.out).mono ?_); rintro e w1 ⟨rfl, hb⟩; have n0 := Aside0.mk (below_then HB.out HB.out.size hb); clear HB hb; have HB := n0; clear n0) | (go_at_call 27; (with_reducible refine (four1 _ q _ HQ.out).mono ?_); rintro e w1 ⟨rfl, hb⟩; have n0 := Aside0.mk (below_then HB.out HB.out.size hb); clear HB hb; have HB := n0; clear n0) | (go_at_call 28; (with_reducible refine (get1 _ _ _ _ _ _ HS1.out HG1.out).mono ?_); rintro e w1 ⟨rfl, rfl⟩) | (go_at_call 28; (with_reducible refine (get1 _ _ _ _ _ _ HS3.out HG3.out).mono ?_); rintro e w1 ⟨rfl, rfl⟩))
    go_region_held3 (fun w' => Below w.heap.size w w')
      (first | (exact below_drew HB.out) | (exact below_then (by assumption) (Below.size (by assumption)) (by assumption)))
      (((go_at_call 26; (with_reducible refine (put1 _ _ _ rfl).mono ?_); rintro e w5 ⟨rfl, hb⟩)))
    go_wp2
    go_ret
    exact ⟨by first | rfl | (rw [c3]; rfl), by assumption⟩
  · have c0 : (z != 0) = true := by simpa using hz
    clear hg3 hz
    clear h0 h1 ha hb
    go_enter Try.func9, Try.ntmps9
    go_wp2_with (first | (go_at_call 25; (with_reducible refine (fixed1 _).mono ?_); rintro e w1 ⟨rfl, hb⟩; have n0 := Aside0.mk (below_then HB.out HB.out.size hb); clear HB hb; have HB := n0; clear n0) | (go_at_call 26; (with_reducible refine (put1 _ p _ HP.out).mono ?_); rintro e w1 ⟨rfl, hb⟩; have n0 := Aside0.mk (below_then HB.out HB.out.size hb); clear HB hb; have HB := n0; clear n0) | (go_at_call 27; (with_reducible refine (four1 _ q _ HQ.out).mono ?_); rintro e w1 ⟨rfl, hb⟩; have n0 := Aside0.mk (below_then HB.out HB.out.size hb); clear HB hb; have HB := n0; clear n0) | (go_at_call 28; (with_reducible refine (get1 _ _ _ _ _ _ HS1.out HG1.out).mono ?_); rintro e w1 ⟨rfl, rfl⟩) | (go_at_call 28; (with_reducible refine (get1 _ _ _ _ _ _ HS3.out HG3.out).mono ?_); rintro e w1 ⟨rfl, rfl⟩))
    go_quiet (fail)
    go_wp2
    go_ret
    exact ⟨by first | rfl, pw_below_drewN HB.out _⟩

set_option maxHeartbeats 1600000 in
set_option maxRecDepth 100000 in
theorem back_all (a b : ByteArray) (n : Int) (w : World) (ha : a.size ≤ 200) (hb : b.size ≤ 200) (h0 : 0 ≤ n) (h1 : n ≤ 4294967295) :
    Calls Try.prog 9 #[.string a, .string b, .int .i64 n] w fun e w' => e = .returned (.bool true) ∧ Below w.heap.size w w' := by
  have HB := Aside0.mk (Below.refl w.heap.size w)
  have g1 : decide ((200 : Int) < (a.size : Int)) = false := decide_eq_false (by omega)
  have g2 : decide ((200 : Int) < (b.size : Int)) = false := decide_eq_false (by omega)
  have g3 : decide (n < 0) = false := decide_eq_false (by omega)
  have g4 : decide ((281474976710655 : Int) < n) = false := decide_eq_false (by omega)
  have g5 : decide ((4294967295 : Int) < n) = false := decide_eq_false (by omega)
  obtain ⟨p, hp0⟩ : ∃ p, putS n = p := ⟨_, rfl⟩
  obtain ⟨q, hq0⟩ : ∃ q, putF n = q := ⟨_, rfl⟩
  have HP := Aside0.mk hp0
  have HQ := Aside0.mk hq0
  clear hp0 hq0
  have hps : 1 ≤ p.size ∧ p.size ≤ 7 := by
    obtain ⟨m, rfl⟩ := Int.eq_ofNat_of_zero_le (show 0 ≤ n by omega)
    obtain ⟨y, h1, h2, h3⟩ := WirePlain.size_one m (by omega)
    have := HP.out
    rw [← this]
    omega
  have hp : p.toList.isEmpty = false := full hps.1
  have hg1 : getI ((a ++ p) ++ b) (a.size : Int) = (n, (a.size : Int) + (p.size : Int), 0) := by
    obtain ⟨m, rfl⟩ := Int.eq_ofNat_of_zero_le (show 0 ≤ n by omega)
    rw [← HP.out, get_put a b m (by omega)]
    simp
  have HG1 := Aside0.mk hg1
  have s1 : a.size + p.size ≤ 9223372036854775807 := by omega
  have s2 : (a ++ p).size + b.size ≤ 9223372036854775807 := by rw [ByteArray.size_append]; omega
  have HS1 := Aside0.mk (show ((a ++ p) ++ b).size ≤ 140737488351232 by rw [ByteArray.size_append, ByteArray.size_append]; omega)
  have q1 : (p.size : Int) ≤ 7 := by omega
  clear hg1 hps
  have hqs : q.size = 4 := by
    obtain ⟨m, rfl⟩ := Int.eq_ofNat_of_zero_le (show 0 ≤ n by omega)
    rw [← HQ.out, putF_size m (by omega)]
  have hq : q.toList.isEmpty = false := full (by omega)
  have hg2 : getF ((a ++ q) ++ b) (a.size : Int) = (n, (a.size : Int) + 4, 0) := by
    obtain ⟨m, rfl⟩ := Int.eq_ofNat_of_zero_le (show 0 ≤ n by omega)
    rw [← HQ.out, fix_put a b m (by omega)]
  have HG2 := Aside0.mk hg2
  have s3 : a.size + q.size ≤ 9223372036854775807 := by omega
  have s4 : (a ++ q).size + b.size ≤ 9223372036854775807 := by rw [ByteArray.size_append]; omega
  have HS2 := Aside0.mk (show ((a ++ q) ++ b).size ≤ 140737488351232 by rw [ByteArray.size_append, ByteArray.size_append]; omega)
  have q4 : ((q.size : Int) != 4) = false := by simp; omega
  clear hg2 hqs
  have a1 : (a.size : Int) ≤ 200 := by omega
  obtain ⟨x, y, z, hg3⟩ : ∃ x y z, getI b 0 = (x, y, z) := ⟨_, _, _, rfl⟩
  have HG3 := Aside0.mk hg3
  have HS3 := Aside0.mk (show b.size ≤ 140737488351232 by omega)
  by_cases hz : z = 0
  · obtain ⟨m, k, hx, hy, hm, hk1, hk2, hk3⟩ := get_back b x y z hg3 hz
    subst hx
    subst hy
    have c0 : (z != 0) = false := by simpa using hz
    have c1 : decide ((1 : Int) ≤ (k : Int)) = true := decide_eq_true (by omega)
    have c2 : decide ((k : Int) ≤ (b.size : Int)) = true := decide_eq_true (by omega)
    have c3 : ((putS (m : Int)).toList == (b.extract 0 k).toList) = true := by rw [hk3]; exact beq_self_eq_true _
    have k2 : (k : Int) ≤ (b.size : Int) := by omega
    clear hg3 hk1 hk2 hk3 hm hz
    clear h0 h1 ha hb
    go_enter Try.func9, Try.ntmps9
    go_wp2_with (first | (go_at_call 25; (with_reducible refine (fixed1 _).mono ?_); rintro e w1 ⟨rfl, hb⟩; have n0 := Aside0.mk (below_then HB.out HB.out.size hb); clear HB hb; have HB := n0; clear n0) | (go_at_call 26; (with_reducible refine (put1 _ p _ HP.out).mono ?_); rintro e w1 ⟨rfl, hb⟩; have n0 := Aside0.mk (below_then HB.out HB.out.size hb); clear HB hb; have HB := n0; clear n0) | (go_at_call 27; (with_reducible refine (four1 _ q _ HQ.out).mono ?_); rintro e w1 ⟨rfl, hb⟩; have n0 := Aside0.mk (below_then HB.out HB.out.size hb); clear HB hb; have HB := n0; clear n0) | (go_at_call 28; (with_reducible refine (get1 _ _ _ _ _ _ HS1.out HG1.out).mono ?_); rintro e w1 ⟨rfl, rfl⟩) | (go_at_call 29; (with_reducible refine (fix1 _ _ _ _ _ _ HS2.out HG2.out).mono ?_); rintro e w1 ⟨rfl, hb⟩; have n0 := Aside0.mk (below_then HB.out HB.out.size hb); clear HB hb; have HB := n0; clear n0) | (go_at_call 28; (with_reducible refine (get1 _ _ _ _ _ _ HS3.out HG3.out).mono ?_); rintro e w1 ⟨rfl, rfl⟩))
    go_region_held3 (fun w' => Below w.heap.size w w')
      (first | (exact below_drew HB.out) | (exact below_then (by assumption) (Below.size (by assumption)) (by assumption)))
      (((go_at_call 26; (with_reducible refine (put1 _ _ _ rfl).mono ?_); rintro e w5 ⟨rfl, hb⟩)))
    go_wp2
    go_ret
    exact ⟨by first | rfl | (rw [c3]; rfl), by assumption⟩
  · have c0 : (z != 0) = true := by simpa using hz
    clear hg3 hz
    clear h0 h1 ha hb
    go_enter Try.func9, Try.ntmps9
    go_wp2_with (first | (go_at_call 25; (with_reducible refine (fixed1 _).mono ?_); rintro e w1 ⟨rfl, hb⟩; have n0 := Aside0.mk (below_then HB.out HB.out.size hb); clear HB hb; have HB := n0; clear n0) | (go_at_call 26; (with_reducible refine (put1 _ p _ HP.out).mono ?_); rintro e w1 ⟨rfl, hb⟩; have n0 := Aside0.mk (below_then HB.out HB.out.size hb); clear HB hb; have HB := n0; clear n0) | (go_at_call 27; (with_reducible refine (four1 _ q _ HQ.out).mono ?_); rintro e w1 ⟨rfl, hb⟩; have n0 := Aside0.mk (below_then HB.out HB.out.size hb); clear HB hb; have HB := n0; clear n0) | (go_at_call 28; (with_reducible refine (get1 _ _ _ _ _ _ HS1.out HG1.out).mono ?_); rintro e w1 ⟨rfl, rfl⟩) | (go_at_call 29; (with_reducible refine (fix1 _ _ _ _ _ _ HS2.out HG2.out).mono ?_); rintro e w1 ⟨rfl, hb⟩; have n0 := Aside0.mk (below_then HB.out HB.out.size hb); clear HB hb; have HB := n0; clear n0) | (go_at_call 28; (with_reducible refine (get1 _ _ _ _ _ _ HS3.out HG3.out).mono ?_); rintro e w1 ⟨rfl, rfl⟩))
    go_quiet (fail)
    go_wp2
    go_ret
    exact ⟨by first | rfl, pw_below_drewN HB.out _⟩

/-- WHATEVER THE TEXTS AND THE NUMBER: WireBack tells true. -/
theorem back_any (a b : ByteArray) (n : Int) (w : World) : Calls Try.prog 9 #[.string a, .string b, .int .i64 n] w fun e w' => e = .returned (.bool true) ∧ Below w.heap.size w w' := by
  by_cases h : 200 < a.size ∨ 200 < b.size
  · exact back_out a b n w h
  · by_cases h0 : n < 0
    · exact back_low a b n w (by omega) (by omega) h0
    · by_cases h1 : 281474976710655 < n
      · exact back_high a b n w (by omega) (by omega) h1
      · by_cases h2 : 4294967295 < n
        · exact back_mid a b n w (by omega) (by omega) h2 (by omega)
        · exact back_all a b n w (by omega) (by omega) (by omega) (by omega)
end Go.Proofs.Ytaeocbbapnfcaaa.WireBackWalk
