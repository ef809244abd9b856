/- The walk through wire.Get: the number whose varint stands at a place. -/
import Derived.Test.YtaeocbbapnfcaaaProg
import Derived.Test.YtaeocbbapnfcaaaBase
import Derived.Test.YtaeocbbapnfcaaaWWords
import Derived.Test.YtaeocbbapnfcaaaWLast
import Derived.WalkKit
import Derived.KernelRfl
import Derived.Below
import Derived.ScopeJumps
import Derived.WalkMore
import Derived.OwnWalk
namespace Go.Proofs.Ytaeocbbapnfcaaa.GetWalk
open Go.RowKit Go.Proofs.YtaeocbbapnfcaaaW.PrintWords Base
set_option linter.unusedVariables false
set_option linter.unusedSimpArgs false

/-- What Get tells at place a, behind k bytes, that came to n: the number, the place behind it, the error. -/
def vget (s : ByteArray) (a : Nat) : Nat → Nat → Nat → Nat × Nat × Nat
  | 0, _, _ => (0, a, 11)
  | f + 1, k, n =>
    if h : a + k < s.size then
      if 6 < k ∨ k = 6 ∧ s[a + k].toNat < 128 ∧ 63 < s[a + k].toNat then (0, a, 11)
      else if 128 ≤ s[a + k].toNat then vget s a f (k + 1) (n + s[a + k].toNat % 128 * 2 ^ (7 * k))
      else if s[a + k].toNat = 0 ∧ 0 < k then (0, a, 12)
      else (n + s[a + k].toNat % 128 * 2 ^ (7 * k), a + k + 1, 0)
    else (0, a, 10)
theorem vget_cut {s : ByteArray} {a f k n : Nat} (h : ¬ a + k < s.size) : vget s a (f + 1) k n = (0, a, 10) := by simp only [vget]; rw [dif_neg h]
theorem vget_wide {s : ByteArray} {a f k n : Nat} (h : a + k < s.size) (h1 : 6 < k ∨ k = 6 ∧ s[a + k].toNat < 128 ∧ 63 < s[a + k].toNat) : vget s a (f + 1) k n = (0, a, 11) := by simp only [vget]; rw [dif_pos h, if_pos h1]
theorem vget_more {s : ByteArray} {a f k n : Nat} (h : a + k < s.size) (h1 : ¬ (6 < k ∨ k = 6 ∧ s[a + k].toNat < 128 ∧ 63 < s[a + k].toNat)) (h2 : 128 ≤ s[a + k].toNat) : vget s a (f + 1) k n = vget s a f (k + 1) (n + s[a + k].toNat % 128 * 2 ^ (7 * k)) := by simp only [vget]; rw [dif_pos h, if_neg h1, if_pos h2]
theorem vget_loose {s : ByteArray} {a f k n : Nat} (h : a + k < s.size) (h1 : ¬ (6 < k ∨ k = 6 ∧ s[a + k].toNat < 128 ∧ 63 < s[a + k].toNat)) (h2 : ¬ 128 ≤ s[a + k].toNat) (h3 : s[a + k].toNat = 0 ∧ 0 < k) : vget s a (f + 1) k n = (0, a, 12) := by simp only [vget]; rw [dif_pos h, if_neg h1, if_neg h2, if_pos h3]
theorem vget_done {s : ByteArray} {a f k n : Nat} (h : a + k < s.size) (h1 : ¬ (6 < k ∨ k = 6 ∧ s[a + k].toNat < 128 ∧ 63 < s[a + k].toNat)) (h2 : ¬ 128 ≤ s[a + k].toNat) (h3 : ¬ (s[a + k].toNat = 0 ∧ 0 < k)) : vget s a (f + 1) k n = (n + s[a + k].toNat % 128 * 2 ^ (7 * k), a + k + 1, 0) := by simp only [vget]; rw [dif_pos h, if_neg h1, if_neg h2, if_neg h3]
/-- Three numbers, as they are handed back. -/
def three (x : Nat × Nat × Nat) : Value := .tuple #[.int .i64 (x.1 : Int), .int .i64 (x.2.1 : Int), .int .i64 (x.2.2 : Int)]

theorem and_127 (c : Nat) (h : c < 256) : Go.bits .and .i64 (c : Int) 127 = ((c % 128 : Nat) : Int) := by
  rw [show (127 : Int) = ((127 : Nat) : Int) from rfl, i64_and c 127 (by omega) (by omega), nat_mask7]
theorem and_128 (c : Nat) (h : c < 256) : Go.bits .and .i64 (c : Int) 128 = if 128 ≤ c then 128 else 0 := by
  rw [show (128 : Int) = ((128 : Nat) : Int) from rfl, i64_and c 128 (by omega) (by omega)]
  have := nat_bit 7 c
  rw [show (2 : Nat) ^ 7 = 128 from rfl] at this
  rw [this]
  by_cases h2 : 128 ≤ c
  · rw [if_pos h2, show c / 128 = 1 by omega]
  · rw [if_neg h2, show c / 128 = 0 by omega]; rfl
theorem or_0 (c : Nat) (h : c < 9223372036854775808) : Go.bits .or .i64 0 (c : Int) = (c : Int) := by
  rw [show (0 : Int) = ((0 : Nat) : Int) from rfl, i64_or 0 c (by omega) h, Nat.zero_or]
/-- What is laid above a number of so many bits. -/
theorem or_above (n c sh : Nat) (hn : n < 2 ^ sh) (hc : c < 128) (hs : sh ≤ 42) : Go.bits .or .i64 (n : Int) ((c * 2 ^ sh : Nat) : Int) = ((n + c * 2 ^ sh : Nat) : Int) := by
  have h1 : 2 ^ sh ≤ 2 ^ 42 := Nat.pow_le_pow_right (by omega) hs
  have h2 : c * 2 ^ sh ≤ 127 * 2 ^ 42 := Nat.mul_le_mul (by omega) h1
  rw [i64_or n _ (by omega) (by omega), Nat.or_comm, nat_join sh _ _ (Nat.mul_mod_left _ _) hn, Nat.add_comm]
theorem next_lt (n c sh : Nat) (hn : n < 2 ^ sh) (hc : c < 128) : n + c * 2 ^ sh < 2 ^ (sh + 7) := by
  rw [Nat.pow_add]
  have : (c + 1) * 2 ^ sh ≤ 128 * 2 ^ sh := Nat.mul_le_mul_right _ (by omega)
  rw [Nat.add_mul] at this
  omega

set_option maxHeartbeats 400000 in
set_option maxRecDepth 100000 in
theorem place_any (s : ByteArray) (a : Int) (w : World) : Calls Try.prog 54 #[.string s, .int .i64 a] w fun e w' => e = .returned (.bool (decide (0 ≤ a ∧ a ≤ s.size))) ∧ w = w' := by
  by_cases h0 : 0 ≤ a
  · have g0 : decide (0 ≤ a) = true := decide_eq_true h0
    by_cases h1 : a ≤ (s.size : Int)
    · have g1 : decide (a ≤ (s.size : Int)) = true := decide_eq_true h1
      rw [decide_eq_true ⟨h0, h1⟩]
      clear h0 h1
      go_enter Try.func54, Try.ntmps54
      go_wp2
      go_ret
      exact ⟨rfl, rfl⟩
    · have g1 : decide (a ≤ (s.size : Int)) = false := decide_eq_false h1
      rw [decide_eq_false (fun h => h1 h.2)]
      clear h0 h1
      go_enter Try.func54, Try.ntmps54
      go_wp2
      go_ret
      exact ⟨rfl, rfl⟩
  · have g0 : decide (0 ≤ a) = false := decide_eq_false h0
    rw [decide_eq_false (fun h => h0 h.1)]
    clear h0
    go_enter Try.func54, Try.ntmps54
    go_wp2
    go_ret
    exact ⟨rfl, rfl⟩
theorem next_eq (s : ByteArray) (a k n n' c m q sh : Nat) (HP : vget s a (8 - k) k n = vget s a 8 0 0) (H8 : 8 - k = 7 - k + 1) {h2k : a + k < s.size} (HV : vget s a (7 - k + 1) k n = vget s a (7 - k) (k + 1) (n + s[a + k].toNat % 128 * 2 ^ (7 * k)))
    (HC : s[a + k].toNat = c) (HM : m = c % 128) (HQ : q = m * 2 ^ sh) (HN : n' = n + q) (HS : sh = 7 * k) (hk : k ≤ 6) : vget s a (8 - (k + 1)) (k + 1) n' = vget s a 8 0 0 := by
  rw [← HP, H8, HV, HC, ← HM, ← HS, ← HQ, ← HN, show 8 - (k + 1) = 7 - k by omega]
theorem next_fits (s : ByteArray) (a k n n' m q sh i : Nat) (HF : k ≤ 7 ∧ sh = 7 * k ∧ i = a + k ∧ i ≤ s.size ∧ n < 2 ^ sh) (hk : k ≤ 6) (hm : m < 128) (HQ : q = m * 2 ^ sh) (HN : n' = n + q) (h2 : i < s.size) :
    k + 1 ≤ 7 ∧ sh + 7 = 7 * (k + 1) ∧ i + 1 = a + (k + 1) ∧ i + 1 ≤ s.size ∧ n' < 2 ^ (sh + 7) := by
  refine ⟨by omega, by omega, by omega, by omega, ?_⟩
  rw [HN, HQ]
  exact next_lt n m sh HF.2.2.2.2 hm
theorem last_eq (s : ByteArray) (a k n n' c m q sh i : Nat) {h2k : a + k < s.size} (HC : s[a + k].toNat = c) (HM : m = c % 128) (HQ : q = m * 2 ^ sh) (HN : n' = n + q) (HS : sh = 7 * k) (HI : i = a + k) :
    (n + s[a + k].toNat % 128 * 2 ^ (7 * k), a + k + 1, 0) = (n', i + 1, 0) := by
  rw [HC, ← HM, ← HS, ← HQ, ← HN, ← HI]

set_option maxHeartbeats 1600000 in
set_option maxRecDepth 100000 in
theorem get_in (s : ByteArray) (a : Nat) (w : World) (h : a ≤ s.size) (hs : s.size ≤ 140737488351232) :
    Calls Try.prog 28 #[.string s, .int .i64 (a : Int)] w fun e w' => e = .returned (three (vget s a 8 0 0)) ∧ w = w' := by
  go_enter Try.func28, Try.ntmps28
  go_wp2
  refine wp_scope_jumps 0 (fun a' w' => ∃ (k n sh i : Nat) (u10 u17 u18 u19 u20 u22 u23 u24 u25 u26 u27 u28 u29 u30 u31 u32 u33 u34 u35 u36 u37 u38 u39 u40 u41 u42 u44 u45 u46 u47 u48 u49 u50 u51 u52 u53 u54 : Value), a' = { tmps := #[.string s, .int .i64 (a : Int), undef, undef, .int .i64 0, .int .i64 0, .int .i64 0, .int .i64 (n : Int), .int .i64 (sh : Int), .int .i64 (i : Int), u10, .string s, .int .i64 (a : Int), .bool true, .bool false, undef, .int .i64 (a : Int), u17, u18, u19, u20, undef, u22, u23, u24, u25, u26, u27, u28, u29, u30, u31, u32, u33, u34, u35, u36, u37, u38, u39, u40, u41, u42, undef, u44, u45, u46, u47, u48, u49, u50, u51, u52, u53, u54, undef, undef, undef, undef, undef, undef, undef, undef, undef], defers := [] } ∧ Aside0 (vget s a (8 - k) k n = vget s a 8 0 0) ∧ Aside0 (k ≤ 7 ∧ sh = 7 * k ∧ i = a + k ∧ i ≤ s.size ∧ n < 2 ^ sh) ∧ w = w') (fun a' _ => s.size - (intOf (a'.tmps.getD 9 undef)).toNat) rfl ?_ ?_
  · go_wp2_with (go_at_call 54; refine (place_any _ _ _).mono ?_; rintro e w' ⟨rfl, rfl⟩; rw [decide_eq_true (show 0 ≤ (a : Int) ∧ (a : Int) ≤ s.size by omega)])
    go_step3
    by_cases h2 : a < s.size
    · have h2' : (a : Int) < s.size := by omega
      have h3 : ((a : Int) == (s.size : Int)) = false := by simp; omega
      obtain ⟨b, hb⟩ : ∃ b : UInt8, s[a] = b := ⟨_, rfl⟩
      obtain ⟨c, hc⟩ : ∃ c : Nat, b.toNat = c := ⟨_, rfl⟩
      have hc8 : c < 256 := by rw [← hc]; exact b.toNat_lt
      have hcc : s[a + 0].toNat = c := by simpa [hb] using hc
      have hn1 : ¬ (6 < 0 ∨ 0 = 6 ∧ s[a + 0].toNat < 128 ∧ 63 < s[a + 0].toNat) := by omega
      obtain ⟨m, hm⟩ : ∃ m : Nat, m = c % 128 := ⟨_, rfl⟩
      have e127 := and_127 c hc8
      rw [← hm] at e127
      have e128 := and_128 c hc8
      have hm7 : m < 128 := by omega
      have eor := or_0 m (by omega)
      have HM := Aside0.mk hm
      by_cases hx : 128 ≤ c
      · rw [if_pos hx] at e128
        have HV := Aside0.mk (vget_more (f := 7) (n := 0) h2 hn1 (by omega))
        have HC := Aside0.mk hcc
        clear hx hcc hn1 hm
        go_wp2
        go_step3
        refine ⟨rfl, 1, m, 7, a + 1, _, _, _, _, _, _, _, _, _, _, _, _, _, _, _, _, _, _, _, _, _, _, _, _, _, _, _, _, _, _, _, _, _, _, _, _, _, by first | rfl, ⟨by rw [HV.out, HC.out, HM.out]; simp⟩, ⟨by omega⟩, rfl⟩
      · rw [if_neg hx] at e128
        have HV := Aside0.mk (vget_done (f := 7) (n := 0) h2 hn1 (by omega) (by omega))
        have HC := Aside0.mk hcc
        have hc0 : (c : Int) < 128 := by omega
        clear hx hcc hn1 hm
        by_cases hz : c = 0
        · have hz' : ((c : Int) == 0) = true := by simp; omega
          clear hz
          go_wp2
          simp only [Exit.jump]
          go_ret3
          exact ⟨by rw [HV.out, HC.out, ← HM.out]; first | rfl | (simp [three]; done), rfl⟩
        · have hz' : ((c : Int) == 0) = false := by simp; omega
          clear hz
          go_wp2
          simp only [Exit.jump]
          go_ret3
          exact ⟨by rw [HV.out, HC.out, ← HM.out]; first | rfl | (simp [three]; done), rfl⟩
    · have h3 : ((a : Int) == (s.size : Int)) = true := by simp; omega
      have HV := Aside0.mk (vget_cut (f := 7) (n := 0) (k := 0) h2)
      go_wp2
      simp only [Exit.jump]
      go_ret3
      exact ⟨by rw [HV.out]; rfl, rfl⟩
  · rintro a' wr ⟨k, n, sh, i, u10, u17, u18, u19, u20, u22, u23, u24, u25, u26, u27, u28, u29, u30, u31, u32, u33, u34, u35, u36, u37, u38, u39, u40, u41, u42, u44, u45, u46, u47, u48, u49, u50, u51, u52, u53, u54, rfl, HP, HF, rfl⟩
    obtain ⟨hk7, hsh, hi, his, hn⟩ := HF.out
    have HI := Aside0.mk hi
    have HSH := Aside0.mk hsh
    have H8 := Aside0.mk (show 8 - k = (7 - k) + 1 by omega)
    by_cases h2 : i < s.size
    · have h2' : (i : Int) < s.size := by omega
      have h3 : ((i : Int) == (s.size : Int)) = false := by simp; omega
      obtain ⟨b, hb⟩ : ∃ b : UInt8, s[i] = b := ⟨_, rfl⟩
      obtain ⟨c, hc⟩ : ∃ c : Nat, b.toNat = c := ⟨_, rfl⟩
      have hc8 : c < 256 := by rw [← hc]; exact b.toNat_lt
      have h2k : a + k < s.size := by omega
      have hcc : s[a + k].toNat = c := by rw [← hc, ← hb]; simp only [hi]
      obtain ⟨m, hm⟩ : ∃ m : Nat, m = c % 128 := ⟨_, rfl⟩
      have e127 := and_127 c hc8
      rw [← hm] at e127
      have e128 := and_128 c hc8
      have hm7 : m < 128 := by omega
      have HM := Aside0.mk hm
      have HC := Aside0.mk hcc
      have H2K := Aside0.mk h2k
      have HN := Aside0.mk hn
      have hi1 : i ≤ 140737488351232 := by omega
      by_cases hw : 6 < k ∨ k = 6 ∧ c < 128 ∧ 63 < c
      · have HV := Aside0.mk (vget_wide (f := 7 - k) (n := n) h2k (by rw [hcc]; exact hw))
        rcases hw with hw | ⟨hw1, hw2, hw3⟩
        · have gw : decide ((42 : Int) < (sh : Int)) = true := decide_eq_true (by omega)
          clear hi hsh hk7 hm hcc hw hn e127 e128
          go_wp2
          simp only [Exit.jump]
          go_ret3
          exact ⟨by rw [← HP.out, H8.out, HV.out]; rfl, rfl⟩
        · have gw : decide ((42 : Int) < (sh : Int)) = false := decide_eq_false (by omega)
          have ge : ((sh : Int) == 42) = true := by simp; omega
          have g63 : decide ((63 : Int) < (c : Int)) = true := decide_eq_true (by omega)
          rw [if_neg (by omega)] at e128
          clear hi hsh hk7 hm hcc hw1 hw2 hw3 hn e127
          go_wp2
          simp only [Exit.jump]
          go_ret3
          exact ⟨by rw [← HP.out, H8.out, HV.out]; rfl, rfl⟩
      · have hk6 : k ≤ 6 := by omega
        have gw : decide ((42 : Int) < (sh : Int)) = false := decide_eq_false (by omega)
        obtain ⟨q, hq⟩ : ∃ q : Nat, q = m * 2 ^ sh := ⟨_, rfl⟩
        have hq1 : q ≤ 127 * 2 ^ 42 := by rw [hq]; exact Nat.mul_le_mul (by omega) (Nat.pow_le_pow_right (by omega) (by omega))
        have eor := or_above n m sh hn hm7 (by omega)
        rw [← hq] at eor
        have eq : (m : Int) * 2 ^ sh = (q : Int) := by rw [hq]; simp
        have hn1 : n < 2 ^ 42 := Nat.lt_of_lt_of_le hn (Nat.pow_le_pow_right (by omega) (by omega))
        obtain ⟨n', hn'⟩ : ∃ n' : Nat, n' = n + q := ⟨_, rfl⟩
        rw [← hn'] at eor
        have HN' := Aside0.mk hn'
        have HQ := Aside0.mk hq
        have hs42 : (sh : Int) ≤ 42 := by omega
        have HW := Aside0.mk hw
        by_cases hx : 128 ≤ c
        · rw [if_pos hx] at e128
          have HV := Aside0.mk (vget_more (f := 7 - k) (n := n) h2k (by rw [hcc]; exact hw) (by omega))
          clear hn hn' hq hm hcc hw hsh hi hx
          by_cases h6 : k = 6
          · have ge : ((sh : Int) == 42) = true := by have := HSH.out; simp; omega
            clear h6 hk7
            go_wp2
            go_step3
            exact ⟨rfl, ⟨k + 1, n', sh + 7, i + 1, _, _, _, _, _, _, _, _, _, _, _, _, _, _, _, _, _, _, _, _, _, _, _, _, _, _, _, _, _, _, _, _, _, _, _, _, _, rfl, ⟨next_eq s a k n n' c m q sh HP.out H8.out HV.out HC.out HM.out HQ.out HN'.out HSH.out hk6⟩, ⟨next_fits s a k n n' m q sh i HF.out hk6 hm7 HQ.out HN'.out h2⟩, rfl⟩, by simp [intOf]; omega⟩
          · have ge : ((sh : Int) == 42) = false := by have := HSH.out; simp; omega
            clear h6 hk7
            go_wp2
            go_step3
            exact ⟨rfl, ⟨k + 1, n', sh + 7, i + 1, _, _, _, _, _, _, _, _, _, _, _, _, _, _, _, _, _, _, _, _, _, _, _, _, _, _, _, _, _, _, _, _, _, _, _, _, _, rfl, ⟨next_eq s a k n n' c m q sh HP.out H8.out HV.out HC.out HM.out HQ.out HN'.out HSH.out hk6⟩, ⟨next_fits s a k n n' m q sh i HF.out hk6 hm7 HQ.out HN'.out h2⟩, rfl⟩, by simp [intOf]; omega⟩
        · rw [if_neg hx] at e128
          by_cases hz : c = 0 ∧ 0 < k
          · have HV := Aside0.mk (vget_loose (f := 7 - k) (n := n) h2k (by rw [hcc]; exact hw) (by omega) (by omega))
            have g0 : ((c : Int) == 0) = true := by simp; omega
            have g7 : decide ((7 : Int) < (sh : Int) + 7) = true := decide_eq_true (by omega)
            by_cases h6 : k = 6
            · have ge : ((sh : Int) == 42) = true := by simp; omega
              have g63 : decide ((63 : Int) < (c : Int)) = false := decide_eq_false (by omega)
              clear hn hn' hq hm hcc hw hsh hi hx hz h6 hk7
              go_wp2
              simp only [Exit.jump]
              go_ret3
              exact ⟨by rw [← HP.out, H8.out, HV.out]; rfl, rfl⟩
            · have ge : ((sh : Int) == 42) = false := by simp; omega
              clear hn hn' hq hm hcc hw hsh hi hx hz h6 hk7
              go_wp2
              simp only [Exit.jump]
              go_ret3
              exact ⟨by rw [← HP.out, H8.out, HV.out]; rfl, rfl⟩
          · have HV := Aside0.mk (vget_done (f := 7 - k) (n := n) h2k (by rw [hcc]; exact hw) (by omega) (by rw [hcc]; exact hz))
            have HR := Aside0.mk (last_eq s a k n n' c m q sh i HC.out HM.out HQ.out HN'.out HSH.out HI.out)
            by_cases hc0 : c = 0
            · have g0 : ((c : Int) == 0) = true := by simp; omega
              have g7 : decide ((7 : Int) < (sh : Int) + 7) = false := decide_eq_false (by omega)
              have ge : ((sh : Int) == 42) = false := by simp; omega
              clear hn hn' hq hm hcc hw hsh hi hx hz hk7 hc0
              go_wp2
              simp only [Exit.jump]
              go_ret3
              exact ⟨by rw [← HP.out, H8.out, HV.out, HR.out]; rfl, rfl⟩
            · have g0 : ((c : Int) == 0) = false := by simp; omega
              by_cases h6 : k = 6
              · have ge : ((sh : Int) == 42) = true := by simp; omega
                have g63 : decide ((63 : Int) < (c : Int)) = false := decide_eq_false (by omega)
                clear hn hn' hq hm hcc hw hsh hi hx hz h6 hk7 hc0
                go_wp2
                simp only [Exit.jump]
                go_ret3
                exact ⟨by rw [← HP.out, H8.out, HV.out, HR.out]; rfl, rfl⟩
              · have ge : ((sh : Int) == 42) = false := by simp; omega
                clear hn hn' hq hm hcc hw hsh hi hx hz h6 hk7 hc0
                go_wp2
                simp only [Exit.jump]
                go_ret3
                exact ⟨by rw [← HP.out, H8.out, HV.out, HR.out]; rfl, rfl⟩
    · have h3 : ((i : Int) == (s.size : Int)) = true := by simp; omega
      have HV := Aside0.mk (vget_cut (f := 7 - k) (n := n) (k := k) (s := s) (a := a) (by omega))
      clear hi hsh hn hk7
      go_wp2
      simp only [Exit.jump]
      go_ret3
      exact ⟨by rw [← HP.out, H8.out, HV.out]; rfl, rfl⟩

/-- What Get hands back, whatever it is handed. -/
def getI (s : ByteArray) (a : Int) : Int × Int × Int := if 0 ≤ a ∧ a ≤ (s.size : Int) then (((vget s a.toNat 8 0 0).1 : Nat), ((vget s a.toNat 8 0 0).2.1 : Nat), ((vget s a.toNat 8 0 0).2.2 : Nat)) else (0, a, 1)
set_option maxHeartbeats 400000 in
theorem get_any (s : ByteArray) (a : Int) (w : World) (hs : s.size ≤ 140737488351232) : Calls Try.prog 28 #[.string s, .int .i64 a] w fun e w' => e = .returned (.tuple #[.int .i64 (getI s a).1, .int .i64 (getI s a).2.1, .int .i64 (getI s a).2.2]) ∧ w = w' := by
  by_cases h0 : 0 ≤ a ∧ a ≤ (s.size : Int)
  · rw [getI, if_pos h0]
    obtain ⟨n, rfl⟩ := Int.eq_ofNat_of_zero_le h0.1
    exact get_in s n w (by omega) hs
  · rw [getI, if_neg h0]
    have HP := Aside0.mk h0
    clear h0
    go_enter Try.func28, Try.ntmps28
    go_wp2
    refine wp_scope_straight ?_
    go_wp2_with (go_at_call 54; refine (place_any _ _ _).mono ?_; rintro e w' ⟨rfl, rfl⟩; rw [decide_eq_false HP.out])
    simp only [Exit.noGoto]
    go_ret3
    exact ⟨rfl, rfl⟩
end Go.Proofs.Ytaeocbbapnfcaaa.GetWalk
