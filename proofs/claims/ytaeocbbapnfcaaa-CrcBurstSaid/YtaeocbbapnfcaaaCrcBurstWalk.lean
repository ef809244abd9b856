/- The walk through CrcBurst: with a text of at most 500 bytes, a bit of it, and 32 bits that aren't all 0, it comes to what the plain facts say of the two sums; else to the fixed calls. -/
import Derived.Test.YtaeocbbapnfcaaaCrcAloneWalk
import Derived.Test.YtaeocbbapnfcaaaCrcBurstPlain
namespace Go.Proofs.Ytaeocbbapnfcaaa.CrcBurstWalk
open Go.RowKit Go.Proofs.Ytaeocbbapnfcaaa.PCrc Go.Proofs.YtaeocbbapnfcaaaW.PrintWords Go.Proofs.YtaeocbbapnfcaaaW.PrintLast Crc CrcWalk CrcPure Base BRow CrcAloneWalk
set_option linter.unusedVariables false
set_option linter.unusedSimpArgs false

set_option maxHeartbeats 400000 in
theorem burst_out (s : ByteArray) (bit flips : Int) (w : World) (h : 500 < s.size ∨ bit < 0 ∨ 8 * (s.size : Int) ≤ bit ∨ flips < 1 ∨ 4294967296 ≤ flips) :
    Calls Try.prog 5 #[.string s, .int .i64 bit, .int .i64 flips] w fun e w' => e = .returned (.bool true) ∧ Below w.heap.size w w' := by
  have HB := Aside0.mk (Below.refl w.heap.size w)
  by_cases h1 : 500 < s.size
  · have g1 : decide ((500 : Int) < (s.size : Int)) = true := decide_eq_true (by omega)
    clear h h1
    go_enter Try.func5, Try.ntmps5
    go_wp2_with (go_at_call 20; refine (fixed_any _).mono ?_; rintro e w1 ⟨rfl, hb⟩; have n0 := Aside0.mk (below_then HB.out HB.out.size hb); clear HB hb; have HB := n0; clear n0)
    go_ret
    exact ⟨rfl, HB.out⟩
  have g1 : decide ((500 : Int) < (s.size : Int)) = false := decide_eq_false (by omega)
  by_cases h2 : bit < 0
  · have g2 : decide (bit < 0) = true := decide_eq_true h2
    clear h h1 h2
    go_enter Try.func5, Try.ntmps5
    go_wp2_with (go_at_call 20; refine (fixed_any _).mono ?_; rintro e w1 ⟨rfl, hb⟩; have n0 := Aside0.mk (below_then HB.out HB.out.size hb); clear HB hb; have HB := n0; clear n0)
    go_ret
    exact ⟨rfl, HB.out⟩
  have g2 : decide (bit < 0) = false := decide_eq_false h2
  have e8 : wrap64 (8 * (s.size : Int)) = 8 * (s.size : Int) := wrap_id (by omega) (by omega)
  by_cases h3 : 8 * (s.size : Int) ≤ bit
  · have g3 : decide (8 * (s.size : Int) ≤ bit) = true := decide_eq_true h3
    clear h h1 h2 h3
    go_enter Try.func5, Try.ntmps5
    go_wp2_with (go_at_call 20; refine (fixed_any _).mono ?_; rintro e w1 ⟨rfl, hb⟩; have n0 := Aside0.mk (below_then HB.out HB.out.size hb); clear HB hb; have HB := n0; clear n0)
    go_ret
    exact ⟨rfl, HB.out⟩
  have g3 : decide (8 * (s.size : Int) ≤ bit) = false := decide_eq_false h3
  by_cases h4 : flips < 1
  · have g4 : decide (flips < 1) = true := decide_eq_true h4
    clear h h1 h2 h3 h4
    go_enter Try.func5, Try.ntmps5
    go_wp2_with (go_at_call 20; refine (fixed_any _).mono ?_; rintro e w1 ⟨rfl, hb⟩; have n0 := Aside0.mk (below_then HB.out HB.out.size hb); clear HB hb; have HB := n0; clear n0)
    go_ret
    exact ⟨rfl, HB.out⟩
  have g4 : decide (flips < 1) = false := decide_eq_false h4
  have g5 : decide (4294967296 ≤ flips) = true := decide_eq_true (by omega)
  clear h h1 h2 h3 h4
  go_enter Try.func5, Try.ntmps5
  go_wp2_with (go_at_call 20; refine (fixed_any _).mono ?_; rintro e w1 ⟨rfl, hb⟩; have n0 := Aside0.mk (below_then HB.out HB.out.size hb); clear HB hb; have HB := n0; clear n0)
  go_ret
  exact ⟨rfl, HB.out⟩

theorem bit_int (flips k : Nat) (h : flips < 4294967296) : Go.bits .and .i64 ((flips : Int) / 2 ^ k) 1 = if flips.testBit k = true then 1 else 0 := by
  have e1 : ((flips : Int) / 2 ^ k) = ((flips / 2 ^ k : Nat) : Int) := by simp
  have l : flips / 2 ^ k < 9223372036854775808 := Nat.lt_of_le_of_lt (Nat.div_le_self _ _) (by omega)
  rw [e1, show (1 : Int) = ((1 : Nat) : Int) from rfl, i64_and _ 1 l (by omega), nat_mask1, Nat.testBit_eq_decide_div_mod_eq]
  rcases Nat.mod_two_eq_zero_or_one (flips / 2 ^ k) with h | h <;> simp [h]

theorem quo_int (bit k : Nat) (h : bit + k < 9223372036854775808) : IntKind.i64.wrap (((bit : Int) + (k : Int)).tdiv 8) = (((bit + k) / 8 : Nat) : Int) := by
  have := tdiv_nat (bit + k) 8
  rw [show (((bit + k : Nat) : Int)) = (bit : Int) + (k : Int) by omega, show ((8 : Nat) : Int) = 8 from rfl] at this
  rw [this]
  exact i64_wrap (by omega)
theorem rem_int (bit k : Nat) : ((bit : Int) + (k : Int)).tmod 8 = (((bit + k) % 8 : Nat) : Int) := by
  have := tmod_nat (bit + k) 8
  rwa [show (((bit + k : Nat) : Int)) = (bit : Int) + (k : Int) by omega, show ((8 : Nat) : Int) = 8 from rfl] at this

theorem turn_int (x m : Nat) (hx : x < 256) (hm : m < 8) : Go.bits .xor .u8 (x : Int) (2 ^ m % 256) = ((x ^^^ 2 ^ m : Nat) : Int) := by
  have h2 : 2 ^ m < 2 ^ 8 := Nat.pow_lt_pow_right (by omega) hm
  have e : ((2 : Int) ^ m % 256) = ((2 ^ m : Nat) : Int) := by
    have e1 : ((2 : Int) ^ m) = ((2 ^ m : Nat) : Int) := by simp
    rw [e1]
    exact Int.emod_eq_of_lt (Int.natCast_nonneg _) (Int.ofNat_lt.2 h2)
  rw [e]
  exact u8_xor_nat x (2 ^ m) hx h2
theorem eq_burst (s : ByteArray) (bit flips : Nat) (u : ByteArray) (h2 : bit < 8 * s.size) (hu : u = text (burst (bys s) bit flips 32)) :
    ((rollI 0 u == rollI 0 s) == (u.toList == s.toList)) = true := by
  have hs := bys_lt s
  have e0 : ∀ u, rollI 0 u = ((sum 0 (bys u) : Nat) : Int) := fun u => rollI_nat 0 u (by omega)
  have hx : bys u = burst (bys s) bit flips 32 := by rw [hu]; exact text_bytes _ (burst_lt _ _ _ _ hs)
  have h := burst_sum (bys s) bit flips hs (by rw [bys_size]; exact h2)
  rw [← hx] at h
  have hq : u.toList = s.toList ↔ bys u = bys s := by
    rw [ByteArray.toList_eq, ByteArray.toList_eq]
    unfold bys
    constructor
    · intro e; rw [e]
    · intro e
      exact List.map_inj_right (fun a b h => UInt8.toNat_inj.1 h) |>.1 e
  rw [e0, e0, beq_iff_eq, Bool.eq_iff_iff]
  simp only [beq_iff_eq]
  rw [hq, ← h]
  exact Int.ofNat_inj

set_option maxHeartbeats 1600000 in
set_option maxRecDepth 100000 in
theorem burst_in (s : ByteArray) (bit flips : Nat) (w : World) (h1 : s.size ≤ 500) (h2 : bit < 8 * s.size) (h3 : 1 ≤ flips) (h4 : flips < 4294967296) :
    Calls Try.prog 5 #[.string s, .int .i64 (bit : Int), .int .i64 (flips : Int)] w fun e w' => e = .returned (.bool true) ∧ Below w.heap.size w w' := by
  have HB := Aside0.mk (Below.refl w.heap.size w)
  have g1 : decide ((500 : Int) < (s.size : Int)) = false := decide_eq_false (by omega)
  have g2 : decide ((bit : Int) < 0) = false := decide_eq_false (by omega)
  have e8 : wrap64 (8 * (s.size : Int)) = 8 * (s.size : Int) := wrap_id (by omega) (by omega)
  have g3 : decide (8 * (s.size : Int) ≤ (bit : Int)) = false := decide_eq_false (by omega)
  have g4 : decide ((flips : Int) < 1) = false := decide_eq_false (by omega)
  have g5 : decide (4294967296 ≤ (flips : Int)) = false := decide_eq_false (by omega)
  have hcv := fun W => Lib.run_convert_string_bytes (P := Try.prog) W 9 27 5 s Try.underlying9 Try.underlying27 Try.underlying5
  go_enter Try.func5, Try.ntmps5
  go_wp2_with (go_at_call 20; refine (fixed_any _).mono ?_; rintro e w1 ⟨rfl, hb⟩; have n0 := Aside0.mk (below_then HB.out HB.out.size hb); clear HB hb; have HB := n0; clear n0)
  have HR := Aside0.mk (made w1 s)
  have HB1 := Aside0.mk (below_then HB.out HB.out.size (made_below w1 s))
  have HG := Aside0.mk HB.out.size
  clear HB hcv g1 g2 g3 g4 g5
  generalize grownCap w1 s.size 0 5 = cap
  generalize Lib.bytesWorld w1 5 s = w2 at *
  generalize w1.heap.size = g at *
  go_loopg [8] 32 (fun d v8 wx => ∃ k : Nat, k + d = 32 ∧ v8 = .int .i64 (k : Int) ∧ Aside0 (BRow wx g (burst (bys s) bit flips k)) ∧ Aside0 (Below w.heap.size w wx))
  case atStart => exact ⟨0, by omega, rfl, HR, HB1⟩
  case round =>
    obtain ⟨k, hk, rfl, HR1, HB2⟩ := hrel
    clear HR HB1
    cases gk with
    | zero =>
      obtain rfl : k = 32 := by omega
      clear hk
      have hs := Aside0.mk (show s.size ≤ 140737488351232 by omega)
      obtain ⟨u, hu⟩ : ∃ u : ByteArray, u = text (burst (bys s) bit flips 32) := ⟨_, rfl⟩
      have hconv : ∀ W : World, BRow W g (burst (bys s) bit flips 32) → (convert 27 9 (.slice (some ⟨g, 0, none⟩) s.size cap)).run Try.prog W = .ok (.string u) W := fun W hW => by
        have := conv hW cap
        rw [burst_length, bys_size] at this
        rw [hu]
        exact this
      have HS := Aside0.mk (show u.size ≤ 140737488351232 by rw [hu, text_size, burst_length, bys_size]; omega)
      have HQ := Aside0.mk (eq_burst s bit flips u h2 hu)
      have hr := HR1.out
      clear HR1 hu h1 h2 h3 h4 e8
      generalize burst (bys s) bit flips 32 = xs at *
      go_wp2
      go_region_held3 (fun w' => BRow w' g xs ∧ Below w.heap.size w w')
        (first | (exact ⟨drew hr, below_drew HB2.out⟩) | (go_split_ands; exact ⟨below (by assumption) (by assumption), below_then (by assumption) (Below.size (by assumption)) (by assumption)⟩))
        (first | (go_at_call 21; refine (of_any s _ hs.out).mono ?_; rintro e w5 ⟨rfl, hb⟩) | (go_at_call 21; refine (of_any u _ HS.out).mono ?_; rintro e w5 ⟨rfl, hb⟩))
      go_wp2
      go_ret
      exact ⟨by first | rfl | (rw [HQ.out]; rfl), (And.right (a := BRow _ g xs) (by assumption))⟩
    | succ d =>
      have hlt : (k : Int) < 32 := by omega
      have HK := Aside0.mk hk
      clear hk
      have hbit := bit_int flips k h4
      by_cases hc : flips.testBit k = true ∧ bit + k < 8 * s.size
      · rw [if_pos hc.1] at hbit
        have hlt2 : (bit : Int) + (k : Int) < 8 * (s.size : Int) := by omega
        have hj8 : (bit + k) / 8 < s.size := by omega
        have hm8 : (bit + k) % 8 < 8 := by omega
        have hc8 : 8 * ((bit + k) / 8) + (bit + k) % 8 = bit + k := by omega
        have ej : IntKind.i64.wrap (((bit : Int) + (k : Int)).tdiv 8) = (((bit + k) / 8 : Nat) : Int) := quo_int bit k (by omega)
        have em : ((bit : Int) + (k : Int)).tmod 8 = (((bit + k) % 8 : Nat) : Int) := rem_int bit k
        obtain ⟨j, hj⟩ : ∃ j : Nat, j = (bit + k) / 8 := ⟨_, rfl⟩
        obtain ⟨m, hm⟩ : ∃ m : Nat, m = (bit + k) % 8 := ⟨_, rfl⟩
        rw [← hj] at hj8 ej hc8
        rw [← hm] at hm8 em hc8
        have hjs : (j : Int) < (s.size : Int) := by omega
        have ej2 : ((bit : Int) + (k : Int)) / 8 = (j : Int) := by clear ej em; omega
        have em2 : ((bit : Int) + (k : Int)) % 8 = (m : Int) := by clear ej em; omega
        obtain ⟨x, hx, hcell, hf⟩ := BRow.named HR1.out j (by rw [burst_length, bys_size]; exact hj8)
        have HX := Aside0.mk hx
        clear hx
        have HC := Aside0.mk hc
        have HJ := Aside0.mk hj
        have HM := Aside0.mk hm
        have hm8' : (m : Int) < 8 := by omega
        clear hc hj hm hc8 hj8 ej em hm8
        have HS := fun y => Aside0.mk (BRow.set HR1.out j y)
        go_wp2
        go_region
        go_wp2
        go_roundg d
        case measure => omega
        case rel =>
          refine ⟨k + 1, by have := HK.out; omega, by first | rfl | simp, ⟨?_⟩, ⟨below_drew (HB2.out.setCell HG.out _)⟩⟩
          have hx256 : x < 256 := by
            rw [HX.out, List.getD_eq_getElem?_getD]
            cases e : (burst (bys s) bit flips k)[j]? with
            | none => simp
            | some y => exact burst_lt _ bit flips k (bys_lt s) y (List.mem_of_getElem? e)
          rw [turn_int x m hx256 (by omega)]
          simp only [burst, bys_size]
          rw [if_pos HC.out, flip1, ← HJ.out, ← HM.out, ← HX.out]
          exact drew (HS _).out
      · by_cases ht : flips.testBit k = true
        · rw [if_pos ht] at hbit
          have hlt2 : 8 * (s.size : Int) ≤ (bit : Int) + (k : Int) := by
            have : ¬ bit + k < 8 * s.size := fun h => hc ⟨ht, h⟩
            omega
          have HB3 := Aside0.mk hc
          clear hc ht
          go_wp2
          go_roundg d
          case measure => omega
          case rel => exact ⟨k + 1, by have := HK.out; omega, by first | rfl | simp, ⟨by simp only [burst, bys_size]; rw [if_neg HB3.out]; exact HR1.out⟩, HB2⟩
        · rw [if_neg ht] at hbit
          have HB3 := Aside0.mk hc
          clear hc ht
          go_wp2
          go_roundg d
          case measure => omega
          case rel => exact ⟨k + 1, by have := HK.out; omega, by first | rfl | simp, ⟨by simp only [burst, bys_size]; rw [if_neg HB3.out]; exact HR1.out⟩, HB2⟩
/-- WHATEVER THE TEXT, THE BIT, THE BITS: CrcBurst tells true. -/
theorem burst_any (s : ByteArray) (bit flips : Int) (w : World) : Calls Try.prog 5 #[.string s, .int .i64 bit, .int .i64 flips] w fun e w' => e = .returned (.bool true) ∧ Below w.heap.size w w' := by
  by_cases h : 500 < s.size ∨ bit < 0 ∨ 8 * (s.size : Int) ≤ bit ∨ flips < 1 ∨ 4294967296 ≤ flips
  · exact burst_out s bit flips w h
  · obtain ⟨b, rfl⟩ := Int.eq_ofNat_of_zero_le (show 0 ≤ bit by omega)
    obtain ⟨f, rfl⟩ := Int.eq_ofNat_of_zero_le (show 0 ≤ flips by omega)
    exact burst_in s b f w (by omega) (by omega) (by omega) (by omega)
end Go.Proofs.Ytaeocbbapnfcaaa.CrcBurstWalk
