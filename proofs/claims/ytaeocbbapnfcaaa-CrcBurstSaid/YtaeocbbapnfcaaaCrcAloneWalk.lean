/- The walk through CrcAlone: with texts of as many bytes, at most 200, it comes to what the plain facts say of the four sums; else to the fixed calls. -/
import Derived.Test.YtaeocbbapnfcaaaPCrcx1
import Derived.Test.YtaeocbbapnfcaaaCrcPure
import Derived.Test.YtaeocbbapnfcaaaBRow
import Derived.Test.YtaeocbbapnfcaaaCrcMix
import Derived.RegionTactic
import Derived.ChangeAlike
import Derived.BigRegion
import Derived.Deep.RegionHeld3
namespace Go.Proofs.Ytaeocbbapnfcaaa.CrcAloneWalk
open Go.RowKit Go.Proofs.Ytaeocbbapnfcaaa.PCrc Go.Proofs.YtaeocbbapnfcaaaW.PrintWords Go.Proofs.YtaeocbbapnfcaaaW.PrintLast Crc CrcWalk CrcPure Base BRow
set_option linter.unusedVariables false
set_option linter.unusedSimpArgs false

theorem fixed_any (w : World) : Calls Try.prog 20 #[] w fun e w' => e = .returned (.bool true) ∧ Below w.heap.size w w' := transhumancelaw02_fixed.calls true w fixed_f
theorem of_any (t : ByteArray) (w : World) (ht : t.size ≤ 140737488351232) : Calls Try.prog 21 #[.string t] w fun e w' => e = .returned (.int .i64 (rollI 0 t)) ∧ Below w.heap.size w w' := crc_Of.calls t _ w (of_f t ht)

set_option maxHeartbeats 400000 in
theorem alone_out (a b c : ByteArray) (w : World) (h : 200 < a.size ∨ a.size ≠ b.size ∨ a.size ≠ c.size) :
    Calls Try.prog 6 #[.string a, .string b, .string c] w fun e w' => e = .returned (.bool true) ∧ Below w.heap.size w w' := by
  have HB := Aside0.mk (Below.refl w.heap.size w)
  by_cases h1 : 200 < a.size
  · have g1 : decide ((200 : Int) < (a.size : Int)) = true := decide_eq_true (by omega)
    clear h h1
    go_enter Try.func6, Try.ntmps6
    go_wp2_with (go_at_call 20; refine (fixed_any _).mono ?_; rintro e w1 ⟨rfl, hb⟩; have n0 := Aside0.mk (below_then HB.out HB.out.size hb); clear HB hb; have HB := n0; clear n0)
    go_ret
    exact ⟨rfl, HB.out⟩
  have g1 : decide ((200 : Int) < (a.size : Int)) = false := decide_eq_false (by omega)
  by_cases h2 : a.size = b.size
  · have g2 : ((a.size : Int) != (b.size : Int)) = false := by simp; omega
    have g3 : ((a.size : Int) != (c.size : Int)) = true := by simp; omega
    clear h h1 h2
    go_enter Try.func6, Try.ntmps6
    go_wp2_with (go_at_call 20; refine (fixed_any _).mono ?_; rintro e w1 ⟨rfl, hb⟩; have n0 := Aside0.mk (below_then HB.out HB.out.size hb); clear HB hb; have HB := n0; clear n0)
    go_ret
    exact ⟨rfl, HB.out⟩
  · have g2 : ((a.size : Int) != (b.size : Int)) = true := by simp; omega
    clear h h1 h2
    go_enter Try.func6, Try.ntmps6
    go_wp2_with (go_at_call 20; refine (fixed_any _).mono ?_; rintro e w1 ⟨rfl, hb⟩; have n0 := Aside0.mk (below_then HB.out HB.out.size hb); clear HB hb; have HB := n0; clear n0)
    go_ret
    exact ⟨rfl, HB.out⟩

theorem eq_alone (a b c : ByteArray) (xs : List Nat) (h2 : b.size = a.size) (h3 : c.size = a.size) (hxs : xs = mixed (bys a) (bys b) (bys c) a.size) :
    (Go.bits .xor .i64 (Go.bits .xor .i64 (rollI 0 a) (rollI 0 b)) (rollI 0 c) == rollI 0 (text xs)) = true := by
  have ha := bys_lt a
  have hb := bys_lt b
  have hc := bys_lt c
  have e0 : ∀ u, rollI 0 u = ((sum 0 (bys u) : Nat) : Int) := fun u => rollI_nat 0 u (by omega)
  have hx : bys (text xs) = xs := text_bytes xs (by rw [hxs]; exact mixed_lt _ _ _ _ ha hb hc)
  have h := alone (bys a) (bys b) (bys c) (by rw [bys_size, bys_size, h2]) (by rw [bys_size, bys_size, h3]) ha hb hc
  rw [bys_size, ← hxs, ← hx] at h
  rw [e0, e0, e0, e0, ← h]
  have l1 := sum_lt 0 (bys a)
  have l2 := sum_lt 0 (bys b)
  have l3 := sum_lt 0 (bys c)
  generalize sum 0 (bys a) = p at *
  generalize sum 0 (bys b) = q at *
  generalize sum 0 (bys c) = r at *
  have l4 : p ^^^ q < 2 ^ 32 := Nat.xor_lt_two_pow l1 l2
  rw [i64_xor p q (by omega) (by omega), i64_xor _ r (by omega) (by omega)]
  exact beq_self_eq_true _
theorem getD_bys (t : ByteArray) (k : Nat) (h : k < t.size) : (bys t).getD k 0 = t[k].toNat := by
  rw [List.getD_eq_getElem?_getD, List.getElem?_eq_getElem (by rw [bys_size]; exact h)]
  simp [bys]
  rfl

set_option maxHeartbeats 800000 in
theorem alone_in (a b c : ByteArray) (w : World) (h1 : a.size ≤ 200) (h2 : b.size = a.size) (h3 : c.size = a.size) :
    Calls Try.prog 6 #[.string a, .string b, .string c] w fun e w' => e = .returned (.bool true) ∧ Below w.heap.size w w' := by
  have HB := Aside0.mk (Below.refl w.heap.size w)
  have g1 : decide ((200 : Int) < (a.size : Int)) = false := decide_eq_false (by omega)
  have g2 : ((a.size : Int) != (b.size : Int)) = false := by simp; omega
  have g3 : ((a.size : Int) != (c.size : Int)) = false := by simp; omega
  have hcv := fun W => Lib.run_convert_string_bytes (P := Try.prog) W 9 27 5 a Try.underlying9 Try.underlying27 Try.underlying5
  have H2 := Aside0.mk h2
  have H3 := Aside0.mk h3
  clear h2 h3
  go_enter Try.func6, Try.ntmps6
  go_wp2_with (go_at_call 20; refine (fixed_any _).mono ?_; rintro e w1 ⟨rfl, hb⟩; have n0 := Aside0.mk (below_then HB.out HB.out.size hb); clear HB hb; have HB := n0; clear n0)
  have HR := Aside0.mk (made w1 a)
  have HB1 := Aside0.mk (below_then HB.out HB.out.size (made_below w1 a))
  have HG := Aside0.mk HB.out.size
  clear HB hcv g1 g2 g3
  generalize grownCap w1 a.size 0 5 = cap
  generalize Lib.bytesWorld w1 5 a = w2 at *
  generalize w1.heap.size = g at *
  go_loopg [8] a.size (fun d v8 wx => ∃ k : Nat, k + d = a.size ∧ v8 = .int .i64 (k : Int) ∧ Aside0 (BRow wx g (mixed (bys a) (bys b) (bys c) k)) ∧ Aside0 (Below w.heap.size w wx))
  case atStart => exact ⟨0, by omega, rfl, ⟨by rw [mixed_zero]; exact HR.out⟩, HB1⟩
  case round =>
    obtain ⟨k, hk, rfl, HR1, HB2⟩ := hrel
    clear HR HB1
    cases gk with
    | zero =>
      obtain rfl : k = a.size := by omega
      clear hk
      have ha := Aside0.mk (show a.size ≤ 140737488351232 by omega)
      obtain ⟨u, hu⟩ : ∃ u : ByteArray, u = text (mixed (bys a) (bys b) (bys c) a.size) := ⟨_, rfl⟩
      have hconv : ∀ W : World, BRow W g (mixed (bys a) (bys b) (bys c) a.size) → (convert 27 9 (.slice (some ⟨g, 0, none⟩) a.size cap)).run Try.prog W = .ok (.string u) W := fun W hW => by
        have := conv hW cap
        rw [mixed_length, bys_size] at this
        rw [hu]
        exact this
      have hs : u.size ≤ 140737488351232 := by rw [hu, text_size, mixed_length, bys_size]; omega
      have hr := HR1.out
      clear HR1
      obtain ⟨xs, hxs⟩ : ∃ xs, xs = mixed (bys a) (bys b) (bys c) a.size := ⟨_, rfl⟩
      rw [← hxs] at hr hconv hu
      have HQ := Aside0.mk (eq_alone a b c xs H2.out H3.out hxs)
      clear hxs
      go_wp2
      have hb2 : b.size ≤ 140737488351232 := by have := H2.out; omega
      have hc2 : c.size ≤ 140737488351232 := by have := H3.out; omega
      have HU := Aside0.mk hu
      have HS := Aside0.mk hs
      have HX := Aside0.mk hb2
      have HY := Aside0.mk hc2
      clear hu hs hb2 hc2
      go_region_held3 (fun w' => BRow w' g xs ∧ Below w.heap.size w w')
        (first | (exact ⟨drew hr, below_drew HB2.out⟩) | (go_split_ands; exact ⟨below (by assumption) (by assumption), below_then (by assumption) (Below.size (by assumption)) (by assumption)⟩))
        (first | (go_at_call 21; refine (of_any a _ ha.out).mono ?_; rintro e w5 ⟨rfl, hb⟩) | (go_at_call 21; refine (of_any b _ HX.out).mono ?_; rintro e w5 ⟨rfl, hb⟩) | (go_at_call 21; refine (of_any c _ HY.out).mono ?_; rintro e w5 ⟨rfl, hb⟩) | (go_at_call 21; refine (of_any u _ HS.out).mono ?_; rintro e w5 ⟨rfl, hb⟩))
      go_wp2
      go_ret
      exact ⟨by first | rfl | (rw [← HQ.out, ← HU.out]; rfl), (And.right (a := BRow _ g xs) (by assumption))⟩
    | succ d =>
      have hlt : (k : Int) < (a.size : Int) := by omega
      have hltb : (k : Int) < (b.size : Int) := by have := H2.out; omega
      have hltc : (k : Int) < (c.size : Int) := by have := H3.out; omega
      have hltb' : k < b.size := by omega
      have hltc' : k < c.size := by omega
      obtain ⟨y, hy⟩ : ∃ y : UInt8, b[k] = y := ⟨_, rfl⟩
      obtain ⟨z, hz⟩ : ∃ z : UInt8, c[k] = z := ⟨_, rfl⟩
      have HK := Aside0.mk hk
      clear hk
      have hl1 : k < a.size := by omega
      obtain ⟨x, hc, hx⟩ : ∃ x : Nat, wr.cell? ⟨g, k, none⟩ = some (.int .u8 (x : Int)) ∧ x = (bys a).getD k 0 := by
        refine ⟨_, BRow.cell HR1.out k (by rw [mixed_length, bys_size]; exact hl1), ?_⟩
        rw [← mixed_get (bys a) (bys b) (bys c) k, List.getD_eq_getElem?_getD, List.getElem?_eq_getElem (by rw [mixed_length, bys_size]; exact hl1)]
        rfl
      have hx256 : x < 256 := by rw [hx, getD_bys a k hl1]; exact a[k].toNat_lt
      have hz1 := Nat.xor_lt_two_pow (n := 8) y.toNat_lt z.toNat_lt
      have e1 : Go.bits .xor .u8 (y.toNat : Int) (z.toNat : Int) = ((y.toNat ^^^ z.toNat : Nat) : Int) := u8_xor_nat _ _ y.toNat_lt z.toNat_lt
      have e2 : Go.bits .xor .u8 (x : Int) ((y.toNat ^^^ z.toNat : Nat) : Int) = ((x ^^^ (y.toNat ^^^ z.toNat) : Nat) : Int) := u8_xor_nat _ _ hx256 hz1
      have hm := mixed_set (bys a) (bys b) (bys c) k (by rw [bys_size]; exact hl1) (by rw [bys_size, bys_size, H2.out]) (by rw [bys_size, bys_size, H3.out])
      rw [← hx, getD_bys b k hltb', getD_bys c k hltc', hy, hz] at hm
      have HM := Aside0.mk hm
      have E1 := Aside0.mk e1
      have E2 := Aside0.mk e2
      clear hx hx256 hz1 hm e1 e2 hl1
      have hf : wr.frozen? ⟨g, k, none⟩ = false := BRow.frozen HR1.out k (by rw [mixed_length, bys_size]; omega)
      have HS := Aside0.mk (BRow.set HR1.out k (x ^^^ (y.toNat ^^^ z.toNat)))
      go_wp2
      go_region
      go_wp2
      go_roundg d
      case measure => omega
      case rel => exact ⟨k + 1, by have := HK.out; omega, by first | rfl | simp, ⟨by rw [E1.out, E2.out, ← HM.out]; exact drew HS.out⟩, ⟨below_drew (HB2.out.setCell HG.out _)⟩⟩
/-- WHATEVER THE TEXTS: CrcAlone tells true. -/
theorem alone_any (a b c : ByteArray) (w : World) : Calls Try.prog 6 #[.string a, .string b, .string c] w fun e w' => e = .returned (.bool true) ∧ Below w.heap.size w w' := by
  by_cases h : 200 < a.size ∨ a.size ≠ b.size ∨ a.size ≠ c.size
  · exact alone_out a b c w h
  · exact alone_in a b c w (by omega) (by omega) (by omega)
end Go.Proofs.Ytaeocbbapnfcaaa.CrcAloneWalk
