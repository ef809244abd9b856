/- What the document's answers for reading are: those of the walks that read, in plain words. -/
import Derived.Test.YtaeocbbapnfcaaaPWirex5
import Derived.Test.YtaeocbbapnfcaaaWireFour
namespace Go.Proofs.Ytaeocbbapnfcaaa.WireRefs
open Go.RowKit Go.Proofs.Ytaeocbbapnfcaaa.PWire Go.Proofs.YtaeocbbapnfcaaaW.PrintWords Go.Proofs.YtaeocbbapnfcaaaW.PrintLast Base PutWalk GetWalk FixedWalk WirePlain

theorem tm (c : Nat) : Int.tmod (c : Int) 128 = ((c % 128 : Nat) : Int) := rfl
theorem bt_get (s : ByteArray) (i : Nat) (h : i < s.size) : bt s (i : Int) = ((s[i].toNat : Nat) : Int) := by
  have h1 := bt_at s (i : Int) (by simpa using h)
  simpa using h1.symm
theorem byte_lt (s : ByteArray) (i : Nat) (h : i < s.size) : s[i].toNat < 256 := s[i].toNat_lt
theorem mul_le (c u : Nat) (hc : c < 128) (hu : u ≤ 2 ^ 49) : c * u ≤ 128 * 2 ^ 49 := Nat.mul_le_mul (by omega) hu

theorem wnat (a : Nat) (h : a ≤ 9223372036854775807) : wrap64 (a : Int) = (a : Int) := wrap_id (by omega) (by omega)
theorem wadd (a b : Nat) (h : a + b ≤ 9223372036854775807) : wrap64 ((a : Int) + (b : Int)) = ((a + b : Nat) : Int) := by rw [← Int.natCast_add]; exact wnat _ h
theorem wmul (a b : Nat) (h : a * b ≤ 9223372036854775807) : wrap64 ((a : Int) * (b : Int)) = ((a * b : Nat) : Int) := by rw [← Int.natCast_mul]; exact wnat _ h
theorem lget (s : ByteArray) (a : Nat) (hs : s.size ≤ 140737488351232) (ha : a ≤ s.size) : ∀ (f k n u m : Nat), f + k = 8 → 1 ≤ f → n < 2 ^ (7 * k) → u = 2 ^ (7 * k) → 2 * f ≤ m →
    transhumanceref01_Get.l0 m s (a : Int) (n : Int) (u : Int) (k : Int) = some ((((vget s a f k n).1 : Nat) : Int), (((vget s a f k n).2.1 : Nat) : Int), (((vget s a f k n).2.2 : Nat) : Int)) := by
  intro f
  induction f with
  | zero => intro k n u m _ h; omega
  | succ f ih =>
    intro k n u m hf _ hn hu hm
    obtain ⟨m, rfl⟩ : ∃ j, m = j + 1 + 1 := ⟨m - 2, by omega⟩
    have HN := Aside0.mk hn
    have HU := Aside0.mk hu
    clear hn hu
    have hk : k ≤ 7 := by omega
    have e0 := wadd a k (by omega)
    simp only [transhumanceref01_Get.l0]
    rw [e0]
    by_cases h : a + k < s.size
    · rw [if_neg (by omega), if_pos (by omega), if_pos (by omega), bt_get s (a + k) h]
      have hb := byte_lt s (a + k) h
      generalize hc : s[a + k].toNat = c at *
      have e1 := wnat c (by omega)
      have e2 : wrap64 ((k : Int) + 1) = ((k + 1 : Nat) : Int) := wadd k 1 (by omega)
      have e3 : wrap64 (((a + k : Nat) : Int) + 1) = ((a + k + 1 : Nat) : Int) := wadd (a + k) 1 (by omega)
      rw [e1]
      by_cases h1 : 6 < k ∨ k = 6 ∧ c < 128 ∧ 63 < c
      · rw [vget_wide h (by rw [hc]; exact h1)]
        rcases h1 with h1 | ⟨h1, h2, h3⟩
        · rw [if_pos (by omega)]
          simp only [transhumanceref01_Get.j2]
          rw [if_pos trivial]
          rfl
        · rw [if_neg (by omega), if_pos (by omega), if_pos (by omega), decide_eq_true (by omega)]
          simp only [transhumanceref01_Get.j2]
          rw [if_pos trivial]
          rfl
      · have hk6 : k ≤ 6 := by omega
        have pu : 2 ^ (7 * k) ≤ 2 ^ 42 := Nat.pow_le_pow_right (by omega) (by omega)
        have hq : c % 128 * u ≤ 127 * 2 ^ 42 := Nat.mul_le_mul (by omega) (by rw [HU.out]; exact pu)
        have hn42 : n < 2 ^ 42 := Nat.lt_of_lt_of_le HN.out pu
        have hu42 : u ≤ 2 ^ 42 := by rw [HU.out]; exact pu
        have hnext : n + c % 128 * u < 2 ^ (7 * (k + 1)) := by
          have := next_lt n (c % 128) (7 * k) HN.out (Nat.mod_lt _ (by decide))
          rw [HU.out]
          exact this
        have e4 := wmul (c % 128) u (Nat.le_trans hq (by decide))
        have e5 := wadd n (c % 128 * u) (Nat.le_trans (Nat.add_le_add (Nat.le_of_lt hn42) hq) (by decide))
        have e6 : wrap64 ((u : Int) * 128) = ((u * 128 : Nat) : Int) := wmul u 128 (Nat.le_trans (Nat.mul_le_mul_right 128 hu42) (by decide))
        have hunext : u * 128 = 2 ^ (7 * (k + 1)) := by rw [HU.out, Nat.mul_add, Nat.pow_add]
        have HX := Aside0.mk hnext
        have HY := Aside0.mk hunext
        clear pu hq hn42 hu42 hnext hunext
        have hj : transhumanceref01_Get.j2 (m + 1) s (a : Int) (n : Int) (u : Int) (k : Int) (c : Int) false = some ((((vget s a (f + 1) k n).1 : Nat) : Int), (((vget s a (f + 1) k n).2.1 : Nat) : Int), (((vget s a (f + 1) k n).2.2 : Nat) : Int)) := by
          simp only [transhumanceref01_Get.j2]
          rw [if_neg (by decide), tm, e4, e5, e6, e0, e3, e2]
          by_cases h2 : 128 ≤ c
          · rw [vget_more h (by rw [hc]; exact h1) (by rw [hc]; exact h2), hc, ← HU.out, if_neg (by omega)]
            exact ih (k + 1) _ _ m (by omega) (by omega) HX.out HY.out (by omega)
          · rw [if_pos (by omega)]
            by_cases h3 : c = 0 ∧ 0 < k
            · rw [vget_loose h (by rw [hc]; exact h1) (by rw [hc]; exact h2) (by rw [hc]; exact h3), if_pos (by omega), if_pos (by omega)]
              rfl
            · rw [vget_done h (by rw [hc]; exact h1) (by rw [hc]; exact h2) (by rw [hc]; exact h3), hc, ← HU.out]
              by_cases h4 : (c : Int) = 0
              · rw [if_pos h4, if_neg (by omega)]
                rfl
              · rw [if_neg h4]
                rfl
        rw [if_neg (by omega)]
        by_cases h5 : (k : Int) = 6
        · rw [if_pos h5]
          by_cases h6 : (c : Int) < 128
          · rw [if_pos h6, decide_eq_false (by omega)]
            exact hj
          · rw [if_neg h6]
            exact hj
        · rw [if_neg h5]
          exact hj
    · rw [if_pos (by omega), vget_cut h]
      rfl
theorem rget (s : ByteArray) (a : Int) (k : Nat) (hs : s.size ≤ 140737488351232) (hk : 20 ≤ k) : transhumanceref01_Get.f k s a = some (getI s a) := by
  obtain ⟨k, rfl⟩ : ∃ j, k = j + 1 := ⟨k - 1, by omega⟩
  unfold transhumanceref01_Get.f getI
  by_cases h : 0 ≤ a ∧ a ≤ (s.size : Int)
  · rw [if_pos h, if_neg (by omega), decide_eq_false (by omega)]
    obtain ⟨a, rfl⟩ := Int.eq_ofNat_of_zero_le h.1
    simp only [transhumanceref01_Get.j0, Int.toNat_natCast]
    rw [if_neg (by decide)]
    exact lget s a hs (by omega) 8 0 0 1 k rfl (by omega) (by decide) rfl (by omega)
  · rw [if_neg h]
    by_cases h0 : a < 0
    · rw [if_pos h0]
      simp only [transhumanceref01_Get.j0]
      rw [if_pos trivial]
    · rw [if_neg h0, decide_eq_true (by omega)]
      simp only [transhumanceref01_Get.j0]
      rw [if_pos trivial]
theorem vget_in (s : ByteArray) (a : Nat) : ∀ (f k n x y : Nat), vget s a f k n = (x, y, 0) → y ≤ s.size ∧ a ≤ y := by
  intro f
  induction f with
  | zero => intro k n x y h; simp [vget] at h
  | succ f ih =>
    intro k n x y h
    by_cases h0 : a + k < s.size
    · by_cases h1 : 6 < k ∨ k = 6 ∧ s[a + k].toNat < 128 ∧ 63 < s[a + k].toNat
      · rw [vget_wide h0 h1] at h; simp at h
      · by_cases h2 : 128 ≤ s[a + k].toNat
        · rw [vget_more h0 h1 h2] at h; exact ih _ _ _ _ h
        · by_cases h3 : s[a + k].toNat = 0 ∧ 0 < k
          · rw [vget_loose h0 h1 h2 h3] at h; simp at h
          · rw [vget_done h0 h1 h2 h3] at h
            simp only [Prod.mk.injEq] at h
            omega
    · rw [vget_cut h0] at h; simp at h
/-- Behind a number that was read one is still within the bytes. -/
theorem get_in_ (s : ByteArray) (a x y z : Int) (h : getI s a = (x, y, z)) (hz : z = 0) : 0 ≤ x ∧ 0 ≤ y ∧ y ≤ (s.size : Int) := by
  unfold getI at h
  by_cases h0 : 0 ≤ a ∧ a ≤ (s.size : Int)
  · rw [if_pos h0] at h
    obtain ⟨v, p, q, e⟩ : ∃ v p q, vget s a.toNat 8 0 0 = (v, p, q) := ⟨_, _, _, rfl⟩
    rw [e] at h
    simp only [Prod.mk.injEq] at h
    obtain ⟨h1, h2, h3⟩ := h
    have hq : q = 0 := by omega
    subst hq
    have := vget_in s a.toNat 8 0 0 v p e
    omega
  · rw [if_neg h0] at h
    simp only [Prod.mk.injEq] at h
    omega
theorem sum4 (b0 b1 b2 b3 : Nat) (q0 : b0 < 256) (q1 : b1 < 256) (q2 : b2 < 256) (q3 : b3 < 256) :
    wrap64 (wrap64 (wrap64 (wrap64 (b0 : Int) + wrap64 (256 * wrap64 (b1 : Int))) + wrap64 (65536 * wrap64 (b2 : Int))) + wrap64 (16777216 * wrap64 (b3 : Int))) = ((b0 + b1 * 2 ^ 8 + b2 * 2 ^ 16 + b3 * 2 ^ 24 : Nat) : Int) := by
  have x1 : wrap64 (256 * wrap64 (b1 : Int)) = ((256 * b1 : Nat) : Int) := by rw [wnat b1 (by omega)]; exact wmul 256 b1 (by omega)
  have x2 : wrap64 (65536 * wrap64 (b2 : Int)) = ((65536 * b2 : Nat) : Int) := by rw [wnat b2 (by omega)]; exact wmul 65536 b2 (by omega)
  have x3 : wrap64 (16777216 * wrap64 (b3 : Int)) = ((16777216 * b3 : Nat) : Int) := by rw [wnat b3 (by omega)]; exact wmul 16777216 b3 (by omega)
  rw [x1, x2, x3, wnat b0 (by clear x1 x2 x3; omega), wadd b0 (256 * b1) (by clear x1 x2 x3; omega), wadd (b0 + 256 * b1) (65536 * b2) (by clear x1 x2 x3; omega), wadd (b0 + 256 * b1 + 65536 * b2) (16777216 * b3) (by clear x1 x2 x3; omega)]
  clear x1 x2 x3
  omega
theorem rfix (s : ByteArray) (a : Int) (k : Nat) (hs : s.size ≤ 140737488351232) (hk : 20 ≤ k) : transhumanceref01_GetFixed.f k s a = some (getF s a) := by
  obtain ⟨k, rfl⟩ : ∃ j, k = j + 1 := ⟨k - 1, by omega⟩
  unfold transhumanceref01_GetFixed.f getF
  by_cases h : 0 ≤ a ∧ a ≤ (s.size : Int)
  · rw [if_pos h, if_neg (by omega), decide_eq_false (by omega)]
    obtain ⟨a, rfl⟩ := Int.eq_ofNat_of_zero_le h.1
    simp only [transhumanceref01_GetFixed.j0]
    have e4 : wrap64 ((a : Int) + 4) = (a : Int) + 4 := wrap_id (by omega) (by omega)
    rw [if_neg (by decide), e4]
    by_cases h4 : (s.size : Int) < (a : Int) + 4
    · rw [if_pos (by omega), if_pos h4]
    · rw [if_neg (by omega), if_neg h4]
      have e1 : wrap64 ((a : Int) + 1) = ((a + 1 : Nat) : Int) := by rw [wrap_id (by omega) (by omega)]; omega
      have e2 : wrap64 ((a : Int) + 2) = ((a + 2 : Nat) : Int) := by rw [wrap_id (by omega) (by omega)]; omega
      have e3 : wrap64 ((a : Int) + 3) = ((a + 3 : Nat) : Int) := by rw [wrap_id (by omega) (by omega)]; omega
      rw [e1, e2, e3, if_pos (by omega), if_pos (by omega), if_pos (by omega), if_pos (by omega), if_pos (by omega), if_pos (by omega), if_pos (by omega), if_pos (by omega)]
      rw [bt_bs s a (by omega), bt_bs s (a + 1) (by omega), bt_bs s (a + 2) (by omega), bt_bs s (a + 3) (by omega)]
      have q0 := bs_getD_lt s a
      have q1 := bs_getD_lt s (a + 1)
      have q2 := bs_getD_lt s (a + 2)
      have q3 := bs_getD_lt s (a + 3)
      unfold four
      rw [Int.toNat_natCast, getD_drop, getD_drop, getD_drop, getD_drop, Nat.add_zero]
      generalize (bs s).getD a 0 = b0 at *
      generalize (bs s).getD (a + 1) 0 = b1 at *
      generalize (bs s).getD (a + 2) 0 = b2 at *
      generalize (bs s).getD (a + 3) 0 = b3 at *
      rw [sum4 b0 b1 b2 b3 q0 q1 q2 q3]
  · rw [if_neg h]
    by_cases h0 : a < 0
    · rw [if_pos h0]
      simp only [transhumanceref01_GetFixed.j0]
      rw [if_pos trivial]
    · rw [if_neg h0, decide_eq_true (by omega)]
      simp only [transhumanceref01_GetFixed.j0]
      rw [if_pos trivial]
end Go.Proofs.Ytaeocbbapnfcaaa.WireRefs
