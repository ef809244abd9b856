/- SectCut: no bytes that a section's begin with are a section, but all of them; what stands behind one is of no moment to it; else the fixed calls. -/
import Derived.Test.YtaeocbbapnfcaaaPSectx11
import Derived.Test.YtaeocbbapnfcaaaSectPure
set_option linter.unusedVariables false
set_option linter.unusedSimpArgs false
namespace Go.Proofs.Ytaeocbbapnfcaaa.Pure.SectCut
open Go.RowKit Go.Proofs.Ytaeocbbapnfcaaa.PSect Go.Proofs.YtaeocbbapnfcaaaW.PrintWords Base PutWalk GetWalk FixedWalk BRow WirePlain SectOnes SectSays SectPlain SectJoinWalk SectPure

/-- A part of a number's bytes is none. -/
theorem vgl_part (a j : Nat) : ∀ (f k n m i : Nat), j < f → k + j ≤ 7 → m < 2 ^ (48 - 7 * k) → m < 128 ^ (j + 1) → i < (vput j m).length → vgl a f k n ((vput j m).take i) = (0, a, 10) := by
  induction j with
  | zero =>
    intro f k n m i hf hk h48 hm hi
    obtain ⟨f, rfl⟩ : ∃ g, f = g + 1 := ⟨f - 1, by omega⟩
    have : i = 0 := by simpa [vput] using hi
    subst this
    rfl
  | succ j ih =>
    intro f k n m i hf hk h48 hm hi
    obtain ⟨f, rfl⟩ : ∃ g, f = g + 1 := ⟨f - 1, by omega⟩
    cases i with
    | zero => rfl
    | succ i =>
      by_cases h1 : 127 < m
      · have hk5 : k ≤ 5 := by
          rcases Nat.lt_or_ge k 6 with h | h
          · omega
          · obtain rfl : k = 6 := by omega
            have : m < 64 := h48
            omega
        rw [vput_more j m h1, List.length_cons] at hi
        rw [vput_more j m h1, List.take_succ_cons]
        simp only [vgl]
        rw [if_neg (by omega), if_pos (by omega)]
        have hd : m / 128 < 2 ^ (48 - 7 * (k + 1)) := by
          rw [Nat.div_lt_iff_lt_mul (by omega), show (128 : Nat) = 2 ^ 7 from rfl, ← Nat.pow_add, show 48 - 7 * (k + 1) + 7 = 48 - 7 * k by omega]
          exact h48
        exact ih f (k + 1) _ (m / 128) i (by omega) (by omega) hd (div_lt j m hm) (by omega)
      · rw [vput_last _ m (by omega)] at hi
        simp at hi
/-- The begin of a section's bytes. -/
theorem sget_part (t : Nat) (p : ByteArray) (ht : t < 256) (hp : p.size ≤ 1048576) (cut : Nat) (hc : cut < (secS (t : Int) p).size) : sgetS ((secS (t : Int) p).extract 0 cut) 0 = (0, ⟨#[]⟩, 0, 10) := by
  have hz : ((secS (t : Int) p).extract 0 cut).size = cut := by rw [ByteArray.size_extract]; omega
  have hb : bs ((secS (t : Int) p).extract 0 cut) = (secL t p).take cut := by rw [bs_take, bs_sec t p ht hp]
  rw [sec_size t p ht hp] at hc
  generalize (secS (t : Int) p).extract 0 cut = u at *
  by_cases h0 : cut = 0
  · exact sget_end (by omega)
  obtain ⟨c, rfl⟩ : ∃ c, cut = c + 1 := ⟨cut - 1, by omega⟩
  have hd0 : (bs u).drop 0 = t :: (vput 7 p.size ++ (bs p ++ fourL (sumN t p))).take c := by rw [hb]; rfl
  obtain ⟨q1, q2, hd1⟩ := drop_cons hd0
  have a1 : (0 : Int) ≤ 0 := Int.le_refl 0
  have a2 : (0 : Int) < (u.size : Int) := by omega
  rw [Nat.zero_add] at hd1
  by_cases h1 : c < (vput 7 p.size).length
  · have hd2 : (bs u).drop 1 = (vput 7 p.size).take c := by rw [hd1, List.take_append_of_le_length (by omega)]
    have hg := vgl_part 1 7 8 0 0 p.size c (by omega) (by omega) (by simpa using (show p.size < 281474976710656 by omega)) (lt48 (by omega)) h1
    rw [← hd2] at hg
    have hg' : getI u (0 + 1) = (0, 1, 10) := by have := getI_at u 1 (by omega) hg; simpa using this
    exact sget_err a1 a2 hg' (by decide)
  · have hd2 : (bs u).drop 1 = vput 7 p.size ++ (bs p ++ fourL (sumN t p)).take (c - (vput 7 p.size).length) := by rw [hd1, List.take_append, List.take_of_length_le (by omega)]
    have hg := getI_put (n := p.size) (by omega) (by omega) hd2
    have hg' : getI u (0 + 1) = ((p.size : Int), ((1 + (vput 7 p.size).length : Nat) : Int), 0) := by rw [← hg]; rfl
    by_cases h2 : c - (vput 7 p.size).length < p.size
    · exact sget_few a1 a2 hg' (by omega) (by omega)
    · have hf := getF_cut (s := u) (a := 1 + (vput 7 p.size).length + p.size) (by omega) (by omega)
      exact sget_less (t := 0) (y := ((1 + (vput 7 p.size).length + p.size : Nat) : Int)) (f := 10) a1 a2 hg' (by omega) (by omega) (by rw [← hf]; rfl) (by decide)
theorem fixed_f : transhumancelaw03_fixed.f = some true := rfl
theorem j0_out (k : Nat) (b : ByteArray) (c : Int) (t : Int) (p : ByteArray) (h : 1 ≤ k) : transhumancelaw03_SectCut.j0 k b c true t p = some true := by
  obtain ⟨k, rfl⟩ : ∃ m, k = m + 1 := ⟨k - 1, by omega⟩
  simp only [transhumancelaw03_SectCut.j0]
  rw [if_pos trivial, fixed_f, Option.bind_some]
theorem j1_out (k : Nat) (b : ByteArray) (c : Int) (s : ByteArray) (t : Int) (p : ByteArray) (h : 1 ≤ k) : transhumancelaw03_SectCut.j1 k b c s true t p = some true := by
  obtain ⟨k, rfl⟩ : ∃ m, k = m + 1 := ⟨k - 1, by omega⟩
  simp only [transhumancelaw03_SectCut.j1]
  rw [if_pos trivial, fixed_f, Option.bind_some]
theorem j1_in (k t : Nat) (b p : ByteArray) (cut : Nat) (ht : t < 256) (hp : p.size ≤ 300) (hb : b.size ≤ 300) (hc : cut < (secS (t : Int) p).size) : transhumancelaw03_SectCut.j1 (k + 1) b (cut : Int) (secS (t : Int) p) false (t : Int) p = some true := by
  have hz := SectPure.sec_le (t : Int) p
  have h1 := sget_part t p ht (by omega) cut hc
  have hd : (bs (secS (t : Int) p ++ b)).drop 0 = secL t p ++ bs b := by rw [List.drop_zero, bs_append, bs_sec t p ht (by omega)]
  have h2 := sget_put ht (by omega) hd
  have hs2 : ((0 + (secL t p).length : Nat) : Int) = ((secS (t : Int) p).size : Int) := by rw [← bs_sec t p ht (by omega), bs_size]; omega
  have hsz : (secS (t : Int) p).size + b.size ≤ 9223372036854775807 := by omega
  have q1 : ((secS (t : Int) p).extract 0 cut).size ≤ 140737488351230 := by rw [ByteArray.size_extract]; omega
  have q2 : (secS (t : Int) p ++ b).size ≤ 140737488351230 := by rw [ByteArray.size_append]; omega
  rw [hs2, show ((0 : Nat) : Int) = 0 from rfl] at h2
  have c1 : (0 : Int) ≤ (cut : Int) := by omega
  have c2 : (cut : Int) ≤ ((secS (t : Int) p).size : Int) := by omega
  simp only [transhumancelaw03_SectCut.j1]
  rw [if_neg (by decide), if_pos c1, if_pos c2, Int.toNat_natCast, get_f _ _ q1, Option.bind_some, if_pos hsz, get_f _ _ q2, Option.bind_some, h1, h2]
  dsimp only
  rw [if_pos rfl, if_pos rfl, if_pos rfl, if_pos rfl, if_pos rfl]
  simp
theorem cut (t : Int) (p b : ByteArray) (c : Int) (k : Nat) (hk : 100 ≤ k) : transhumancelaw03_SectCut.f k t p b c = some true := by
  obtain ⟨k, rfl⟩ : ∃ m, k = m + 2 := ⟨k - 2, by omega⟩
  unfold transhumancelaw03_SectCut.f
  rw [fixed_f, Option.bind_some, if_pos rfl]
  obtain ⟨v, hv, hvt⟩ := small_f [(⟨t, p⟩ : S65)] (k + 2) (by omega)
  rw [hv, Option.bind_some]
  cases v with
  | false =>
    rw [if_neg (by decide)]
    exact j0_out _ _ _ _ _ (by omega)
  | true =>
    rw [if_pos rfl]
    have hp : p.size ≤ 300 := (hvt rfl).2 0 (by simp)
    by_cases h1 : t < 0
    · rw [if_pos h1]; exact j0_out _ _ _ _ _ (by omega)
    rw [if_neg h1]
    by_cases h2 : t > 255
    · rw [if_pos h2]; exact j0_out _ _ _ _ _ (by omega)
    rw [if_neg h2]
    by_cases h3 : (b.size : Int) > 300
    · rw [decide_eq_true h3]; exact j0_out _ _ _ _ _ (by omega)
    rw [decide_eq_false h3]
    obtain ⟨t, rfl⟩ := Int.eq_ofNat_of_zero_le (show 0 ≤ t by omega)
    simp only [transhumancelaw03_SectCut.j0]
    rw [if_neg (by decide), put_f' (k + 1) _ _ (by omega), Option.bind_some]
    by_cases h4 : c < 0
    · rw [if_pos h4]; exact j1_out _ _ _ _ _ _ (by omega)
    rw [if_neg h4]
    by_cases h5 : c ≥ ((secS (t : Int) p).size : Int)
    · rw [decide_eq_true h5]; exact j1_out _ _ _ _ _ _ (by omega)
    rw [decide_eq_false h5]
    obtain ⟨c, rfl⟩ := Int.eq_ofNat_of_zero_le (show 0 ≤ c by omega)
    exact j1_in k t b p c (by omega) hp (by omega) (by omega)
theorem any (t : Int) (p b : ByteArray) (c : Int) : ∃ k, transhumancelaw03_SectCut.f k t p b c = some true := ⟨_, cut t p b c 100 (Nat.le_refl _)⟩
end Go.Proofs.Ytaeocbbapnfcaaa.Pure.SectCut
