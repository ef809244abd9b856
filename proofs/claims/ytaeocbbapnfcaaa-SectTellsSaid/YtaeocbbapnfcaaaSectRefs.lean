/- The document's own functions of sections, as they are printed, tell what the plain words say: its numbers, its sums, its sections. -/
import Derived.Test.YtaeocbbapnfcaaaPSectx7
import Derived.Test.YtaeocbbapnfcaaaSectPure
set_option linter.unusedVariables false
set_option linter.unusedSimpArgs false
namespace Go.Proofs.Ytaeocbbapnfcaaa.SectRefs
open Go.RowKit Go.Proofs.Ytaeocbbapnfcaaa.PSect Go.Proofs.YtaeocbbapnfcaaaW.PrintWords Go.Proofs.YtaeocbbapnfcaaaW.PrintLast Crc CrcWalk CrcSums Base

theorem xor_f (a b : Nat) (ha : a < 4294967296) (hb : b < 4294967296) : transhumanceref02_xor.f (a : Int) (b : Int) = some ((a ^^^ b : Nat) : Int) := by
  unfold transhumanceref02_xor.f
  rw [i64_xor a b (by omega) (by omega)]
theorem half (n : Nat) (h : n < 4294967296) : wrap64 (Int.tdiv (n : Int) 2) = ((n / 2 : Nat) : Int) := by
  have := tdiv_nat n 2
  rw [show ((2 : Nat) : Int) = 2 from rfl] at this
  rw [this, wrap_id (by omega) (by omega)]
theorem rest_f (t : Nat) : ∀ (k n : Nat), t < k → n < 4294967296 → t ≤ 100 → transhumanceref02_rest.f k (n : Int) (t : Int) = some ((it t n : Nat) : Int) := by
  induction t with
  | zero =>
    intro k n hk _ _
    obtain ⟨k, rfl⟩ : ∃ m, k = m + 1 := ⟨k - 1, by omega⟩
    simp only [transhumanceref02_rest.f]
    rw [if_pos (by rfl)]
    rfl
  | succ t ih =>
    intro k n hk hn ht
    obtain ⟨k, rfl⟩ : ∃ m, k = m + 1 := ⟨k - 1, by omega⟩
    have e1 : wrap64 (((t + 1 : Nat) : Int) - 1) = (t : Int) := by rw [wrap_id (by omega) (by omega)]; omega
    have e2 : Int.tmod (n : Int) 2 = ((n % 2 : Nat) : Int) := tmod_nat n 2
    simp only [transhumanceref02_rest.f]
    rw [if_neg (by omega), half n hn, e1, e2]
    by_cases hp : n % 2 = 1
    · rw [if_pos (by omega), show (3988292384 : Int) = ((3988292384 : Nat) : Int) from rfl, xor_f _ _ (by omega) (by omega), Option.bind_some, ih k _ (by omega) (Nat.xor_lt_two_pow (n := 32) (by omega) (by omega)) (by omega), Option.bind_some]
      have : it (t + 1) n = it t (s1 n) := rfl
      rw [this, s1, if_pos hp]
    · rw [if_neg (by omega), ih k _ (by omega) (by omega) (by omega), Option.bind_some]
      have : it (t + 1) n = it t (s1 n) := rfl
      rw [this, s1, if_neg hp]
theorem rest_8 (k n : Nat) (hk : 8 < k) (hn : n < 4294967296) : transhumanceref02_rest.f k (n : Int) 8 = some ((it 8 n : Nat) : Int) := rest_f 8 k n hk hn (by omega)
theorem it8_lt (x : Nat) (b : UInt8) : it 8 ((x % 256) ^^^ b.toNat) < 4294967296 := it_lt 8 (Nat.lt_of_lt_of_le (low_lt x b) (by omega))
theorem bt_nat (t : ByteArray) (i : Nat) (h : i < t.size) : bt t (i : Int) = ((t[i].toNat : Nat) : Int) := by
  have := bt_at t (i : Int) (by simpa using h)
  simpa using this.symm
theorem drop_bys (t : ByteArray) (i : Nat) (h : i < t.size) : (bys t).drop i = t[i].toNat :: (bys t).drop (i + 1) := by
  rw [List.drop_eq_getElem_cons (by rw [bys_size]; exact h)]
  simp [bys]
  rfl
theorem loop_f (t : ByteArray) (ht : t.size ≤ 140737488351232) (d : Nat) : ∀ (k i x : Nat), i + d = t.size → d + 9 < k → x < 4294967296 →
    transhumanceref02_Roll.l0 k t (x : Int) (i : Int) = some ((4294967295 - roll x ((bys t).drop i) : Nat) : Int) := by
  induction d with
  | zero =>
    intro k i x hi hk hx
    obtain ⟨k, rfl⟩ : ∃ m, k = m + 1 := ⟨k - 1, by omega⟩
    simp only [transhumanceref02_Roll.l0]
    rw [if_neg (by omega), List.drop_of_length_le (by rw [bys_size]; omega), roll_nil, wrap_id (by omega) (by omega)]
    congr 1
    omega
  | succ d ih =>
    intro k i x hi hk hx
    obtain ⟨k, rfl⟩ : ∃ m, k = m + 1 := ⟨k - 1, by omega⟩
    have hlt : i < t.size := by omega
    simp only [transhumanceref02_Roll.l0]
    obtain ⟨b, hb⟩ : ∃ b : UInt8, t[i] = b := ⟨_, rfl⟩
    have hb' := b.toNat_lt
    have hl := low_lt x b
    have hl2 : (x % 256) ^^^ b.toNat < 4294967296 := by omega
    have c1 : (i : Int) < (t.size : Int) := by omega
    have c2 : (0 : Int) ≤ (i : Int) := by omega
    have x1 : x % 256 < 4294967296 := by omega
    have x2 : b.toNat < 4294967296 := by omega
    have x3 : x / 256 < 4294967296 := by omega
    have d1 : d + 9 < k := by omega
    have d2 : 8 < k := by omega
    have d3 : i + 1 + d = t.size := by omega
    have e1 : wrap64 (bt t (i : Int)) = ((b.toNat : Nat) : Int) := by rw [bt_nat t i hlt, hb, wrap_id (by omega) (by omega)]
    have e2 : Int.tmod (x : Int) 256 = ((x % 256 : Nat) : Int) := tmod_nat x 256
    have e3 : wrap64 (Int.tdiv (x : Int) 256) = ((x / 256 : Nat) : Int) := by
      have := tdiv_nat x 256
      rw [show ((256 : Nat) : Int) = 256 from rfl] at this
      rw [this, wrap_id (by omega) (by omega)]
    have e4 : wrap64 ((i : Int) + 1) = ((i + 1 : Nat) : Int) := by rw [wrap_id (by omega) (by omega)]; omega
    rw [if_pos c1, if_pos c2]
    rw [e1, e2, e3, e4]
    rw [xor_f _ _ x1 x2, Option.bind_some]
    rw [rest_8 k _ d2 hl2, Option.bind_some]
    rw [xor_f _ _ x3 (it8_lt x b), Option.bind_some]
    rw [byte_step]
    have := ih k (i + 1) (stp x b.toNat) d3 d1 (stp_lt b hx)
    rw [drop_bys t i hlt, roll_cons, hb]
    exact this
theorem Roll_f (k : Nat) (s : Int) (t : ByteArray) (ht : t.size ≤ 140737488351232) (hk : t.size + 20 < k) : transhumanceref02_Roll.f k s t = some (rollI s t) := by
  unfold transhumanceref02_Roll.f
  obtain ⟨k, rfl⟩ : ∃ m, k = m + 1 := ⟨k - 1, by omega⟩
  by_cases h0 : s < 0
  · rw [if_pos h0, rollI, if_pos h0]
    simp only [transhumanceref02_Roll.j0]
    rw [if_pos trivial]
  · rw [if_neg h0]
    by_cases h1 : s > 4294967295
    · rw [decide_eq_true h1, rollI, if_neg h0, if_pos h1]
      simp only [transhumanceref02_Roll.j0]
      rw [if_pos trivial]
    · rw [decide_eq_false h1]
      obtain ⟨n, rfl⟩ := Int.eq_ofNat_of_zero_le (show 0 ≤ s by omega)
      simp only [transhumanceref02_Roll.j0]
      rw [if_neg (by decide), wrap_id (by omega) (by omega), show (4294967295 - (n : Int)) = ((4294967295 - n : Nat) : Int) by omega]
      have := loop_f t ht t.size k 0 (4294967295 - n) (by omega) (by omega) (by omega)
      rw [show ((0 : Nat) : Int) = 0 from rfl, List.drop_zero] at this
      rw [this, rollI_nat n t (by omega)]
      rfl
theorem Of_f (k : Nat) (t : ByteArray) (ht : t.size ≤ 140737488351232) (hk : t.size + 20 < k) : transhumanceref02_Of.f k t = some (rollI 0 t) := by
  unfold transhumanceref02_Of.f
  rw [Roll_f k 0 t ht hk]
  rfl
end Go.Proofs.Ytaeocbbapnfcaaa.SectRefs
namespace Go.Proofs.Ytaeocbbapnfcaaa.SectRefs
open Go.RowKit Go.Proofs.Ytaeocbbapnfcaaa.PSect Go.Proofs.YtaeocbbapnfcaaaW.PrintWords Go.Proofs.YtaeocbbapnfcaaaW.PrintLast Base PutWalk GetWalk FixedWalk WirePlain SectOnes

theorem tm (c : Nat) : Int.tmod (c : Int) 128 = ((c % 128 : Nat) : Int) := rfl
theorem bt_get (s : ByteArray) (i : Nat) (h : i < s.size) : bt s (i : Int) = ((s[i].toNat : Nat) : Int) := by
  have h1 := bt_at s (i : Int) (by simpa using h)
  simpa using h1.symm
theorem byte_lt (s : ByteArray) (i : Nat) (h : i < s.size) : s[i].toNat < 256 := s[i].toNat_lt
theorem mul_le (c u : Nat) (hc : c < 128) (hu : u ≤ 2 ^ 49) : c * u ≤ 128 * 2 ^ 49 := Nat.mul_le_mul (by omega) hu

theorem wnat (a : Nat) (h : a ≤ 9223372036854775807) : wrap64 (a : Int) = (a : Int) := wrap_id (by omega) (by omega)
theorem wadd (a b : Nat) (h : a + b ≤ 9223372036854775807) : wrap64 ((a : Int) + (b : Int)) = ((a + b : Nat) : Int) := by rw [← Int.natCast_add]; exact wnat _ h
theorem wmul (a b : Nat) (h : a * b ≤ 9223372036854775807) : wrap64 ((a : Int) * (b : Int)) = ((a * b : Nat) : Int) := by rw [← Int.natCast_mul]; exact wnat _ h
theorem lget (s : ByteArray) (a : Nat) (hs : s.size ≤ 140737488351232) (ha : a ≤ s.size) : ∀ (f k n u m : Nat), f + k = 8 → 1 ≤ f → n < 2 ^ (7 * k) → u = 2 ^ (7 * k) → 2 * f ≤ m →
    transhumanceref01_Get.l0 m s (a : Int) (n : Int) (u : Int) (k : Int) = some ((((vget s a f k n).1 : Nat) : Int), (((vget s a f k n).2.1 : Nat) : Int), (((vget s a f k n).2.2 : Nat) : Int)) := by
  intro f
  induction f with
  | zero => intro k n u m _ h; omega
  | succ f ih =>
    intro k n u m hf _ hn hu hm
    obtain ⟨m, rfl⟩ : ∃ j, m = j + 1 + 1 := ⟨m - 2, by omega⟩
    have HN := Aside0.mk hn
    have HU := Aside0.mk hu
    clear hn hu
    have hk : k ≤ 7 := by omega
    have e0 := wadd a k (by omega)
    simp only [transhumanceref01_Get.l0]
    rw [e0]
    by_cases h : a + k < s.size
    · rw [if_neg (by omega), if_pos (by omega), if_pos (by omega), bt_get s (a + k) h]
      have hb := byte_lt s (a + k) h
      generalize hc : s[a + k].toNat = c at *
      have e1 := wnat c (by omega)
      have e2 : wrap64 ((k : Int) + 1) = ((k + 1 : Nat) : Int) := wadd k 1 (by omega)
      have e3 : wrap64 (((a + k : Nat) : Int) + 1) = ((a + k + 1 : Nat) : Int) := wadd (a + k) 1 (by omega)
      rw [e1]
      by_cases h1 : 6 < k ∨ k = 6 ∧ c < 128 ∧ 63 < c
      · rw [vget_wide h (by rw [hc]; exact h1)]
        rcases h1 with h1 | ⟨h1, h2, h3⟩
        · rw [if_pos (by omega)]
          simp only [transhumanceref01_Get.j2]
          rw [if_pos trivial]
          rfl
        · rw [if_neg (by omega), if_pos (by omega), if_pos (by omega), decide_eq_true (by omega)]
          simp only [transhumanceref01_Get.j2]
          rw [if_pos trivial]
          rfl
      · have hk6 : k ≤ 6 := by omega
        have pu : 2 ^ (7 * k) ≤ 2 ^ 42 := Nat.pow_le_pow_right (by omega) (by omega)
        have hq : c % 128 * u ≤ 127 * 2 ^ 42 := Nat.mul_le_mul (by omega) (by rw [HU.out]; exact pu)
        have hn42 : n < 2 ^ 42 := Nat.lt_of_lt_of_le HN.out pu
        have hu42 : u ≤ 2 ^ 42 := by rw [HU.out]; exact pu
        have hnext : n + c % 128 * u < 2 ^ (7 * (k + 1)) := by
          have := next_lt n (c % 128) (7 * k) HN.out (Nat.mod_lt _ (by decide))
          rw [HU.out]
          exact this
        have e4 := wmul (c % 128) u (Nat.le_trans hq (by decide))
        have e5 := wadd n (c % 128 * u) (Nat.le_trans (Nat.add_le_add (Nat.le_of_lt hn42) hq) (by decide))
        have e6 : wrap64 ((u : Int) * 128) = ((u * 128 : Nat) : Int) := wmul u 128 (Nat.le_trans (Nat.mul_le_mul_right 128 hu42) (by decide))
        have hunext : u * 128 = 2 ^ (7 * (k + 1)) := by rw [HU.out, Nat.mul_add, Nat.pow_add]
        have HX := Aside0.mk hnext
        have HY := Aside0.mk hunext
        clear pu hq hn42 hu42 hnext hunext
        have hj : transhumanceref01_Get.j2 (m + 1) s (a : Int) (n : Int) (u : Int) (k : Int) (c : Int) false = some ((((vget s a (f + 1) k n).1 : Nat) : Int), (((vget s a (f + 1) k n).2.1 : Nat) : Int), (((vget s a (f + 1) k n).2.2 : Nat) : Int)) := by
          simp only [transhumanceref01_Get.j2]
          rw [if_neg (by decide), tm, e4, e5, e6, e0, e3, e2]
          by_cases h2 : 128 ≤ c
          · rw [vget_more h (by rw [hc]; exact h1) (by rw [hc]; exact h2), hc, ← HU.out, if_neg (by omega)]
            exact ih (k + 1) _ _ m (by omega) (by omega) HX.out HY.out (by omega)
          · rw [if_pos (by omega)]
            by_cases h3 : c = 0 ∧ 0 < k
            · rw [vget_loose h (by rw [hc]; exact h1) (by rw [hc]; exact h2) (by rw [hc]; exact h3), if_pos (by omega), if_pos (by omega)]
              rfl
            · rw [vget_done h (by rw [hc]; exact h1) (by rw [hc]; exact h2) (by rw [hc]; exact h3), hc, ← HU.out]
              by_cases h4 : (c : Int) = 0
              · rw [if_pos h4, if_neg (by omega)]
                rfl
              · rw [if_neg h4]
                rfl
        rw [if_neg (by omega)]
        by_cases h5 : (k : Int) = 6
        · rw [if_pos h5]
          by_cases h6 : (c : Int) < 128
          · rw [if_pos h6, decide_eq_false (by omega)]
            exact hj
          · rw [if_neg h6]
            exact hj
        · rw [if_neg h5]
          exact hj
    · rw [if_pos (by omega), vget_cut h]
      rfl
theorem rget (s : ByteArray) (a : Int) (k : Nat) (hs : s.size ≤ 140737488351232) (hk : 20 ≤ k) : transhumanceref01_Get.f k s a = some (getI s a) := by
  obtain ⟨k, rfl⟩ : ∃ j, k = j + 1 := ⟨k - 1, by omega⟩
  unfold transhumanceref01_Get.f getI
  by_cases h : 0 ≤ a ∧ a ≤ (s.size : Int)
  · rw [if_pos h, if_neg (by omega), decide_eq_false (by omega)]
    obtain ⟨a, rfl⟩ := Int.eq_ofNat_of_zero_le h.1
    simp only [transhumanceref01_Get.j0, Int.toNat_natCast]
    rw [if_neg (by decide)]
    exact lget s a hs (by omega) 8 0 0 1 k rfl (by omega) (by decide) rfl (by omega)
  · rw [if_neg h]
    by_cases h0 : a < 0
    · rw [if_pos h0]
      simp only [transhumanceref01_Get.j0]
      rw [if_pos trivial]
    · rw [if_neg h0, decide_eq_true (by omega)]
      simp only [transhumanceref01_Get.j0]
      rw [if_pos trivial]
theorem sum4 (b0 b1 b2 b3 : Nat) (q0 : b0 < 256) (q1 : b1 < 256) (q2 : b2 < 256) (q3 : b3 < 256) :
    wrap64 (wrap64 (wrap64 (wrap64 (b0 : Int) + wrap64 (256 * wrap64 (b1 : Int))) + wrap64 (65536 * wrap64 (b2 : Int))) + wrap64 (16777216 * wrap64 (b3 : Int))) = ((b0 + b1 * 2 ^ 8 + b2 * 2 ^ 16 + b3 * 2 ^ 24 : Nat) : Int) := by
  have x1 : wrap64 (256 * wrap64 (b1 : Int)) = ((256 * b1 : Nat) : Int) := by rw [wnat b1 (by omega)]; exact wmul 256 b1 (by omega)
  have x2 : wrap64 (65536 * wrap64 (b2 : Int)) = ((65536 * b2 : Nat) : Int) := by rw [wnat b2 (by omega)]; exact wmul 65536 b2 (by omega)
  have x3 : wrap64 (16777216 * wrap64 (b3 : Int)) = ((16777216 * b3 : Nat) : Int) := by rw [wnat b3 (by omega)]; exact wmul 16777216 b3 (by omega)
  rw [x1, x2, x3, wnat b0 (by clear x1 x2 x3; omega), wadd b0 (256 * b1) (by clear x1 x2 x3; omega), wadd (b0 + 256 * b1) (65536 * b2) (by clear x1 x2 x3; omega), wadd (b0 + 256 * b1 + 65536 * b2) (16777216 * b3) (by clear x1 x2 x3; omega)]
  clear x1 x2 x3
  omega
theorem rfix (s : ByteArray) (a : Int) (k : Nat) (hs : s.size ≤ 140737488351232) (hk : 20 ≤ k) : transhumanceref01_GetFixed.f k s a = some (getF s a) := by
  obtain ⟨k, rfl⟩ : ∃ j, k = j + 1 := ⟨k - 1, by omega⟩
  unfold transhumanceref01_GetFixed.f getF
  by_cases h : 0 ≤ a ∧ a ≤ (s.size : Int)
  · rw [if_pos h, if_neg (by omega), decide_eq_false (by omega)]
    obtain ⟨a, rfl⟩ := Int.eq_ofNat_of_zero_le h.1
    simp only [transhumanceref01_GetFixed.j0]
    have e4 : wrap64 ((a : Int) + 4) = (a : Int) + 4 := wrap_id (by omega) (by omega)
    rw [if_neg (by decide), e4]
    by_cases h4 : (s.size : Int) < (a : Int) + 4
    · rw [if_pos (by omega), if_pos h4]
    · rw [if_neg (by omega), if_neg h4]
      have e1 : wrap64 ((a : Int) + 1) = ((a + 1 : Nat) : Int) := by rw [wrap_id (by omega) (by omega)]; omega
      have e2 : wrap64 ((a : Int) + 2) = ((a + 2 : Nat) : Int) := by rw [wrap_id (by omega) (by omega)]; omega
      have e3 : wrap64 ((a : Int) + 3) = ((a + 3 : Nat) : Int) := by rw [wrap_id (by omega) (by omega)]; omega
      rw [e1, e2, e3, if_pos (by omega), if_pos (by omega), if_pos (by omega), if_pos (by omega), if_pos (by omega), if_pos (by omega), if_pos (by omega), if_pos (by omega)]
      rw [bt_bs s a (by omega), bt_bs s (a + 1) (by omega), bt_bs s (a + 2) (by omega), bt_bs s (a + 3) (by omega)]
      have q0 := bs_getD_lt s a
      have q1 := bs_getD_lt s (a + 1)
      have q2 := bs_getD_lt s (a + 2)
      have q3 := bs_getD_lt s (a + 3)
      unfold four
      rw [Int.toNat_natCast, getD_drop, getD_drop, getD_drop, getD_drop, Nat.add_zero]
      generalize (bs s).getD a 0 = b0 at *
      generalize (bs s).getD (a + 1) 0 = b1 at *
      generalize (bs s).getD (a + 2) 0 = b2 at *
      generalize (bs s).getD (a + 3) 0 = b3 at *
      rw [sum4 b0 b1 b2 b3 q0 q1 q2 q3]
  · rw [if_neg h]
    by_cases h0 : a < 0
    · rw [if_pos h0]
      simp only [transhumanceref01_GetFixed.j0]
      rw [if_pos trivial]
    · rw [if_neg h0, decide_eq_true (by omega)]
      simp only [transhumanceref01_GetFixed.j0]
      rw [if_pos trivial]
end Go.Proofs.Ytaeocbbapnfcaaa.SectRefs
namespace Go.Proofs.Ytaeocbbapnfcaaa.SectRefs
open Go.RowKit Go.Proofs.Ytaeocbbapnfcaaa.PSect Go.Proofs.YtaeocbbapnfcaaaW.PrintWords Base PutWalk GetWalk FixedWalk BRow WirePlain SectOnes SectSays SectPlain SectJoinWalk SectPure CrcWalk

theorem tagged_f (t : Int) (p : ByteArray) (h : p.size ≤ 140737488351230) : transhumanceref03_tagged.f t p = some (tag1 t ++ p) := by
  have e : (strOfNums [t % 256]).size = 1 := by rw [strOfNums_size]; rfl
  unfold transhumanceref03_tagged.f
  rw [Option.bind_some, if_pos (by rw [e]; omega)]
  rfl
theorem of_tag (k : Nat) (t : Int) (p : ByteArray) (h : p.size ≤ 1048576) (hk : p.size + 100 ≤ k) : transhumanceref02_Of.f k (tag1 t ++ p) = some (sumS t p) := by
  have e : (tag1 t).size = 1 := by unfold tag1; rw [strOfNums_size]; rfl
  have h1 : (tag1 t ++ p).size ≤ 140737488351232 := by rw [ByteArray.size_append, e]; omega
  have h2 : (tag1 t ++ p).size + 20 < k := by rw [ByteArray.size_append, e]; omega
  exact Of_f k _ h1 h2
theorem text_cons (x : Nat) (l : List Nat) : strOfNums [(x : Int)] ++ text l = text (x :: l) := by
  apply bs_ext
  rw [bs_append]
  simp [bs, text, strOfNums_data]
/-- The document's bytes of a number. -/
theorem rput (j : Nat) : ∀ (m k : Nat), m < 128 ^ (j + 1) → j ≤ 7 → m < 281474976710656 → 2 * j + 2 ≤ k → transhumanceref01_Put.f k (m : Int) = some (text (vput j m)) := by
  induction j with
  | zero =>
    intro m k hm hj h48 hk
    obtain ⟨k, rfl⟩ : ∃ q, k = q + 2 := ⟨k - 2, by omega⟩
    have h128 : m < 128 := by omega
    simp only [transhumanceref01_Put.f, transhumanceref01_Put.j0]
    rw [if_neg (by omega), decide_eq_false (by omega), if_neg (by decide), if_pos (by omega), show (m : Int) % 256 = (m : Int) by omega]
    rfl
  | succ j ih =>
    intro m k hm hj h48 hk
    obtain ⟨k, rfl⟩ : ∃ q, k = q + 2 := ⟨k - 2, by omega⟩
    by_cases h1 : 127 < m
    · have c1 : ¬ (m : Int) < 0 := by omega
      have c2 : ¬ (m : Int) ≥ 281474976710656 := by omega
      have c3 : ¬ (m : Int) < 128 := by omega
      have hd := div_lt j m hm
      have h48' : m / 128 < 281474976710656 := by omega
      have e1 : wrap64 (128 + Int.tmod (m : Int) 128) % 256 = ((128 + m % 128 : Nat) : Int) := by
        have := tmod_nat m 128
        rw [show ((128 : Nat) : Int) = 128 from rfl] at this
        rw [this, wrap_id (by omega) (by omega)]
        omega
      have e2 : wrap64 (Int.tdiv (m : Int) 128) = ((m / 128 : Nat) : Int) := by
        have := tdiv_nat m 128
        rw [show ((128 : Nat) : Int) = 128 from rfl] at this
        rw [this, wrap_id (by omega) (by omega)]
      have hl := vput_len j j (m / 128) hd
      have hsz : (strOfNums [((128 + m % 128 : Nat) : Int)]).size + (text (vput j (m / 128))).size ≤ 9223372036854775807 := by
        rw [strOfNums_size, text_size]
        simp only [List.length_cons, List.length_nil]
        omega
      simp only [transhumanceref01_Put.f, transhumanceref01_Put.j0]
      rw [if_neg c1, decide_eq_false c2, if_neg (by decide), if_neg c3, e1, e2, Option.bind_some, ih (m / 128) k hd (by omega) h48' (by omega), Option.bind_some, if_pos hsz, text_cons, vput_more j m h1]
    · simp only [transhumanceref01_Put.f, transhumanceref01_Put.j0]
      rw [if_neg (by omega), decide_eq_false (by omega), if_neg (by decide), if_pos (by omega), show (m : Int) % 256 = (m : Int) by omega, vput_last _ m (by omega)]
      rfl
theorem rputS (n k : Nat) (hn : n < 281474976710656) (hk : 20 ≤ k) : transhumanceref01_Put.f k (n : Int) = some (putS (n : Int)) := by
  rw [rput 7 n k (lt48 hn) (Nat.le_refl _) hn (by omega), putS_nat n hn]
theorem rputF (n : Nat) (hn : n < 4294967296) : transhumanceref01_PutFixed.f (n : Int) = some (putF (n : Int)) := by
  have hd : ∀ c : Nat, wrap64 (Int.tdiv (n : Int) (c : Int)) = ((n / c : Nat) : Int) := by
    intro c
    rw [tdiv_nat]
    have h : n / c ≤ n := Nat.div_le_self _ _
    generalize n / c = m at h ⊢
    exact wrap_id (by omega) (by omega)
  have h0 : Int.tmod (n : Int) 256 % 256 = ((byt n 0 : Nat) : Int) := by
    have := tmod_nat n 256
    rw [show ((256 : Nat) : Int) = 256 from rfl] at this
    rw [this]
    unfold byt
    simp
  have h1 : Int.tmod (wrap64 (Int.tdiv (n : Int) 256)) 256 % 256 = ((byt n 1 : Nat) : Int) := by
    have e := hd 256
    rw [show ((256 : Nat) : Int) = 256 from rfl] at e
    have := tmod_nat (n / 256) 256
    rw [show ((256 : Nat) : Int) = 256 from rfl] at this
    rw [e, this]
    unfold byt
    simp
  have h2 : Int.tmod (wrap64 (Int.tdiv (n : Int) 65536)) 256 % 256 = ((byt n 2 : Nat) : Int) := by
    have e := hd 65536
    rw [show ((65536 : Nat) : Int) = 65536 from rfl] at e
    have := tmod_nat (n / 65536) 256
    rw [show ((256 : Nat) : Int) = 256 from rfl] at this
    rw [e, this]
    unfold byt
    simp
  have h3 : wrap64 (Int.tdiv (n : Int) 16777216) % 256 = ((byt n 3 : Nat) : Int) := by
    have e := hd 16777216
    rw [show ((16777216 : Nat) : Int) = 16777216 from rfl] at e
    rw [e]
    unfold byt
    simp
  unfold transhumanceref01_PutFixed.f putF
  rw [if_neg (by omega), if_neg (by omega), if_neg (by omega), if_neg (by omega), h0, h1, h2, h3]
  rfl
/-- The document's bytes of a section. -/
theorem rsec (k : Nat) (t : Int) (p : ByteArray) (hk : p.size + 200 ≤ k) : transhumanceref03_Put.f k t p = some (secS t p) := by
  obtain ⟨k, rfl⟩ : ∃ m, k = m + 1 := ⟨k - 1, by omega⟩
  unfold transhumanceref03_Put.f secS
  by_cases h0 : t < 0
  · rw [if_pos h0, if_pos (Or.inl h0)]; rfl
  by_cases h1 : t > 255
  · rw [if_neg h0, if_pos h1, if_pos (Or.inr (Or.inl h1))]; rfl
  by_cases h2 : (p.size : Int) > 1048576
  · rw [if_neg h0, if_neg h1, decide_eq_true h2, if_pos (Or.inr (Or.inr h2))]; rfl
  have hno : ¬ (t < 0 ∨ 255 < t ∨ 1048576 < (p.size : Int)) := by omega
  rw [if_neg h0, if_neg h1, decide_eq_false h2, if_neg hno]
  obtain ⟨t, rfl⟩ := Int.eq_ofNat_of_zero_le (show 0 ≤ t by omega)
  have ht : t < 256 := by omega
  have hp : p.size ≤ 1048576 := by omega
  have hs := sumS_nat t p ht
  have e : (strOfNums [(t : Int) % 256]).size = 1 := by rw [strOfNums_size]; rfl
  have e7 : (putS (p.size : Int)).size ≤ 7 := put_le7 p.size (by omega)
  have e4 : (putF (sumS (t : Int) p)).size = 4 := by rw [hs]; exact putF_size _ (sumN_lt t p)
  have hpf : transhumanceref01_PutFixed.f (sumS (t : Int) p) = some (putF (sumS (t : Int) p)) := by rw [hs]; exact rputF _ (sumN_lt t p)
  have q1 : (putS (p.size : Int)).size + p.size ≤ 9223372036854775807 := by omega
  have q2 : (strOfNums [(t : Int) % 256]).size + (putS (p.size : Int) ++ p).size ≤ 9223372036854775807 := by rw [ByteArray.size_append]; omega
  have q3 : (strOfNums [(t : Int) % 256] ++ (putS (p.size : Int) ++ p)).size + (putF (sumS (t : Int) p)).size ≤ 9223372036854775807 := by rw [ByteArray.size_append, ByteArray.size_append]; omega
  have q4 : ¬ (p.size : Int) > 1048576 := by omega
  simp only [transhumanceref03_Put.j0]
  rw [if_neg (by decide), Option.bind_some]
  unfold transhumanceref01_PutText.f
  rw [if_neg q4, rputS p.size k (by omega) (by omega), Option.bind_some, if_pos q1, Option.bind_some, if_pos q2, tagged_f _ p (by omega), Option.bind_some, of_tag k _ p hp (by omega), Option.bind_some, hpf, Option.bind_some, if_pos q3]
  rfl
theorem bad_f (a e : Int) : transhumanceref03_bad.f a e = some (0, ⟨#[]⟩, a, e) := rfl
/-- The document's answer of a section at a place. -/
theorem rsget (k : Nat) (s : ByteArray) (a : Int) (hs : s.size ≤ 100000) (hk : s.size + 200 ≤ k) : transhumanceref03_Get.f k s a = some (sgetS s a) := by
  obtain ⟨k, rfl⟩ : ∃ m, k = m + 1 := ⟨k - 1, by omega⟩
  unfold transhumanceref03_Get.f
  by_cases h0 : a < 0
  · rw [if_pos h0, sget_low (Or.inl h0)]
    simp only [transhumanceref03_Get.j0]
    rw [if_pos trivial, bad_f, Option.bind_some]
  by_cases h1 : (s.size : Int) < a
  · rw [if_neg h0, decide_eq_true (show a > (s.size : Int) from h1), sget_low (Or.inr h1)]
    simp only [transhumanceref03_Get.j0]
    rw [if_pos trivial, bad_f, Option.bind_some]
  rw [if_neg h0, decide_eq_false (show ¬ a > (s.size : Int) from h1)]
  simp only [transhumanceref03_Get.j0]
  rw [if_neg (by decide)]
  by_cases h2 : a = (s.size : Int)
  · rw [if_pos h2, bad_f, Option.bind_some, sget_end h2]
  have ha : 0 ≤ a := by omega
  have hb : a < (s.size : Int) := by omega
  have w1 : wrap64 (a + 1) = a + 1 := wrap_id (by omega) (by omega)
  obtain ⟨n, x, z, hg⟩ : ∃ n x z, getI s (a + 1) = (n, x, z) := ⟨_, _, _, rfl⟩
  rw [if_neg h2, w1, rget s (a + 1) k (by omega) (by omega), hg, Option.bind_some]
  dsimp only
  by_cases hz : z = 0
  case neg => rw [if_neg hz, bad_f, Option.bind_some, sget_err ha hb hg hz]
  subst hz
  have hin := get_in s (a + 1) n x 0 hg rfl
  rw [if_pos rfl]
  by_cases h3 : n > 1048576
  · rw [if_pos h3, bad_f, Option.bind_some, sget_wide ha hb hg h3]
  have w2 : wrap64 ((s.size : Int) - x) = (s.size : Int) - x := wrap_id (by omega) (by omega)
  have w3 : wrap64 (n + 4) = n + 4 := wrap_id (by omega) (by omega)
  have w4 : wrap64 (x + n) = x + n := wrap_id (by omega) (by omega)
  rw [if_neg h3, w2, w3, w4]
  by_cases h4 : (s.size : Int) - x < n + 4
  · rw [if_pos h4, bad_f, Option.bind_some]
    by_cases h5 : (s.size : Int) - x < n
    · rw [sget_few ha hb hg (by omega) h5]
    · obtain ⟨i, hi⟩ := Int.eq_ofNat_of_zero_le (show 0 ≤ x + n by omega)
      have hf := getF_cut (s := s) (a := i) (by omega) (by omega)
      rw [← hi] at hf
      rw [sget_less ha hb hg (by omega) (by omega) hf (by decide)]
  have c1 : x ≤ x + n := by omega
  have c2 : x + n ≤ (s.size : Int) := by omega
  rw [if_neg h4, if_pos hin.2.2.1, if_pos c1, if_pos c2, rfix s (x + n) k (by omega) (by omega), Option.bind_some]
  obtain ⟨i, hi⟩ := Int.eq_ofNat_of_zero_le (show 0 ≤ x + n by omega)
  have hf : getF s (x + n) = (((four ((bs s).drop i) : Nat) : Int), x + n + 4, 0) := by
    rw [hi, getF, if_pos (by omega), if_neg (by omega), Int.toNat_natCast]
  have hbt := bt_range s a
  have w5 : wrap64 (bt s a) = bt s a := wrap_id (by omega) (by omega)
  have hez : (s.extract x.toNat (x + n).toNat).size ≤ 100000 := by rw [ByteArray.size_extract]; omega
  have hez2 : (s.extract x.toNat (x + n).toNat).size + 100 ≤ k := by rw [ByteArray.size_extract]; omega
  rw [hf, if_pos ha, if_pos hb, w5, tagged_f _ _ (by omega), Option.bind_some, of_tag k _ _ (by omega) hez2, Option.bind_some]
  dsimp only
  by_cases h5 : ((four ((bs s).drop i) : Nat) : Int) = sumS (bt s a) (s.extract x.toNat (x + n).toNat)
  · rw [if_pos h5, sget_is ha hb hg (by omega) (by omega) hf h5]
  · rw [if_neg h5, bad_f, Option.bind_some, sget_other ha hb hg (by omega) (by omega) hf h5]
/-- The document's answer of all sections. -/
theorem rall (s : ByteArray) (hs : s.size ≤ 100000) (k : Nat) : ∀ (j : Nat) (acc : List S65) (a : Int) (r : List S65 × Int × Int), s.size + 200 ≤ j → sect_All.l0 k s acc a = some r → transhumanceref03_All.l0 (k + j) s acc a = some r := by
  induction k with
  | zero => intro j acc a r _ h; simp [sect_All.l0] at h
  | succ k ih =>
    intro j acc a r hj h
    rw [show k + 1 + j = (k + j) + 1 by omega]
    simp only [sect_All.l0] at h
    simp only [transhumanceref03_All.l0]
    by_cases h1 : a < (s.size : Int)
    · rw [if_pos h1] at h ⊢
      rw [get_f s a (by omega), Option.bind_some] at h
      rw [rsget (k + j) s a hs (by omega), Option.bind_some]
      by_cases h2 : (sgetS s a).2.2.2 = 0
      · rw [if_pos h2] at h ⊢
        by_cases h3 : acc.length < 5864062014805
        · rw [if_pos h3] at h ⊢
          exact ih j _ _ r hj h
        · rw [if_neg h3] at h; cases h
      · rw [if_neg h2] at h ⊢
        exact h
    · rw [if_neg h1] at h ⊢
      exact h
/-- The document's bytes of sections. -/
theorem rjoin (l : List S65) (h10 : l.length ≤ 10) (h300 : ∀ i, i < l.length → (rd_T65 l (i : Int)).f1.size ≤ 300) (d : Nat) : ∀ (i k : Nat), i + d = l.length → d + 600 ≤ k →
    transhumanceref03_Join.l0 k l (joined (fun i => (rd_T65 l (i : Int)).f0) (fun i => (rd_T65 l (i : Int)).f1) i) (i : Int) = some (joinS l) := by
  induction d with
  | zero =>
    intro i k h1 h2
    obtain ⟨k, rfl⟩ : ∃ m, k = m + 1 := ⟨k - 1, by omega⟩
    obtain rfl : i = l.length := by omega
    simp only [transhumanceref03_Join.l0]
    rw [if_neg (by omega)]
    rfl
  | succ d ih =>
    intro i k h1 h2
    obtain ⟨k, rfl⟩ : ∃ m, k = m + 1 := ⟨k - 1, by omega⟩
    have hz := joined_le (fun i => (rd_T65 l (i : Int)).f0) (fun i => (rd_T65 l (i : Int)).f1) 300 l.length h300 i (by omega)
    have hs := sec_le (rd_T65 l (i : Int)).f0 (rd_T65 l (i : Int)).f1
    have h3 := h300 i (by omega)
    have hsz : (joined (fun i => (rd_T65 l (i : Int)).f0) (fun i => (rd_T65 l (i : Int)).f1) i).size + (secS (rd_T65 l (i : Int)).f0 (rd_T65 l (i : Int)).f1).size ≤ 9223372036854775807 := by omega
    have c1 : (i : Int) < (l.length : Int) := by omega
    have c2 : (0 : Int) ≤ (i : Int) := by omega
    have c3 : wrap64 ((i : Int) + 1) = ((i + 1 : Nat) : Int) := by rw [wrap_id (by omega) (by omega)]; omega
    simp only [transhumanceref03_Join.l0]
    rw [if_pos c1, if_pos c2, rsec k _ _ (by omega), Option.bind_some, if_pos hsz, c3]
    exact ih (i + 1) k (by omega) (by omega)
end Go.Proofs.Ytaeocbbapnfcaaa.SectRefs
