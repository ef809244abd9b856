/- SectBoth: sections and sections behind them are both, one behind the other; where the second ones are none it is told where; else the fixed calls. -/
import Derived.Test.YtaeocbbapnfcaaaPSectx11
import Derived.Test.YtaeocbbapnfcaaaSectPure
set_option linter.unusedVariables false
set_option linter.unusedSimpArgs false
namespace Go.Proofs.Ytaeocbbapnfcaaa.Pure.SectBoth
open Go.RowKit Go.Proofs.Ytaeocbbapnfcaaa.PSect Go.Proofs.YtaeocbbapnfcaaaW.PrintWords Base PutWalk GetWalk FixedWalk BRow WirePlain SectOnes SectSays SectPlain SectJoinWalk SectPure

theorem vgl_shift (a d f : Nat) : ∀ (k n : Nat) (l : List Nat), vgl (a + d) f k n l = ((vgl a f k n l).1, (vgl a f k n l).2.1 + d, (vgl a f k n l).2.2) := by
  induction f with
  | zero => intro k n l; rfl
  | succ f ih =>
    intro k n l
    cases l with
    | nil => rfl
    | cons c r =>
      simp only [vgl]
      by_cases h1 : 6 < k ∨ k = 6 ∧ c < 128 ∧ 63 < c
      · rw [if_pos h1, if_pos h1]
      · rw [if_neg h1, if_neg h1]
        by_cases h2 : 128 ≤ c
        · rw [if_pos h2, if_pos h2]; exact ih _ _ _
        · rw [if_neg h2, if_neg h2]
          by_cases h3 : c = 0 ∧ 0 < k
          · rw [if_pos h3, if_pos h3]
          · rw [if_neg h3, if_neg h3]
            dsimp only
            rw [show a + d + k + 1 = a + k + 1 + d by omega]
theorem drop_both (s t : ByteArray) (i : Nat) : (bs (s ++ t)).drop (s.size + i) = (bs t).drop i := by
  rw [bs_append, ← List.drop_drop, ← bs_size s, List.drop_left]
theorem getI_shift (s t : ByteArray) (i : Nat) (hi : i ≤ t.size) {n x z : Int} (h : getI t (i : Int) = (n, x, z)) : getI (s ++ t) ((s.size + i : Nat) : Int) = (n, x + (s.size : Int), z) := by
  obtain ⟨v, p, e, hv⟩ : ∃ v p e, vgl i 8 0 0 ((bs t).drop i) = (v, p, e) := ⟨_, _, _, rfl⟩
  rw [getI_at t i hi hv] at h
  simp only [Prod.mk.injEq] at h
  obtain ⟨rfl, rfl, rfl⟩ := h
  have h2 : vgl (s.size + i) 8 0 0 ((bs (s ++ t)).drop (s.size + i)) = (v, p + s.size, e) := by
    rw [drop_both, Nat.add_comm, vgl_shift, hv]
  rw [getI_at (s ++ t) (s.size + i) (by rw [ByteArray.size_append]; omega) h2]
  simp
theorem getF_shift (s t : ByteArray) (i : Nat) (hi : i ≤ t.size) {n x z : Int} (h : getF t (i : Int) = (n, x, z)) : getF (s ++ t) ((s.size + i : Nat) : Int) = (n, x + (s.size : Int), z) := by
  unfold getF at h ⊢
  have hz : (s ++ t).size = s.size + t.size := ByteArray.size_append
  rw [if_pos ⟨by omega, by omega⟩, Int.toNat_natCast] at h
  rw [if_pos ⟨by omega, by omega⟩, Int.toNat_natCast, drop_both]
  by_cases h4 : (t.size : Int) < (i : Int) + 4
  · rw [if_pos h4] at h
    rw [if_pos (by omega)]
    simp only [Prod.mk.injEq] at h ⊢
    omega
  · rw [if_neg h4] at h
    rw [if_neg (by omega)]
    simp only [Prod.mk.injEq] at h ⊢
    refine ⟨h.1, by omega, h.2.2⟩
/-- An error at a place of bytes is one where they stand behind others. -/
theorem sget_shift (s t : ByteArray) (b : Nat) (hb : b < t.size) {e : Int} (h : sgetS t (b : Int) = (0, ⟨#[]⟩, (b : Int), e)) (he : e ≠ 0) : sgetS (s ++ t) ((s.size + b : Nat) : Int) = (0, ⟨#[]⟩, ((s.size + b : Nat) : Int), e) := by
  have hz : (s ++ t).size = s.size + t.size := ByteArray.size_append
  have a1 : (0 : Int) ≤ (b : Int) := by omega
  have a2 : (b : Int) < (t.size : Int) := by omega
  have b1 : (0 : Int) ≤ ((s.size + b : Nat) : Int) := by omega
  have b2 : ((s.size + b : Nat) : Int) < ((s ++ t).size : Int) := by omega
  obtain ⟨n, x, z, hg⟩ : ∃ n x z, getI t ((b : Int) + 1) = (n, x, z) := ⟨_, _, _, rfl⟩
  have hg2 : getI (s ++ t) (((s.size + b : Nat) : Int) + 1) = (n, x + (s.size : Int), z) := getI_shift s t (b + 1) (by omega) hg
  by_cases h1 : z = 0
  case neg =>
    rw [sget_err a1 a2 hg h1] at h
    rw [sget_err b1 b2 hg2 h1]
    simp only [Prod.mk.injEq] at h
    rw [h.2.2.2]
  subst h1
  have hin := get_in t _ n x 0 hg rfl
  obtain ⟨n, rfl⟩ := Int.eq_ofNat_of_zero_le hin.1
  obtain ⟨x, rfl⟩ := Int.eq_ofNat_of_zero_le hin.2.2.1
  by_cases h2 : (1048576 : Int) < (n : Int)
  · rw [sget_wide a1 a2 hg h2] at h
    rw [sget_wide b1 b2 hg2 h2]
    simp only [Prod.mk.injEq] at h
    rw [h.2.2.2]
  by_cases h3 : (t.size : Int) - (x : Int) < (n : Int)
  · rw [sget_few a1 a2 hg (by omega) h3] at h
    rw [sget_few b1 b2 hg2 (by omega) (by omega)]
    simp only [Prod.mk.injEq] at h
    rw [h.2.2.2]
  obtain ⟨c, y, f, hf⟩ : ∃ c y f, getF t ((x : Int) + (n : Int)) = (c, y, f) := ⟨_, _, _, rfl⟩
  have hf2 : getF (s ++ t) (((x : Int) + (s.size : Int)) + (n : Int)) = (c, y + (s.size : Int), f) := by
    have := getF_shift s t (x + n) (by omega) hf
    rw [← this]
    congr 1
    omega
  by_cases h4 : f = 0
  case neg =>
    rw [sget_less a1 a2 hg (by omega) (by omega) hf h4] at h
    rw [sget_less b1 b2 hg2 (by omega) (by omega) hf2 h4]
    simp only [Prod.mk.injEq] at h
    rw [h.2.2.2]
  subst h4
  have ebt : bt (s ++ t) ((s.size + b : Nat) : Int) = bt t (b : Int) := by
    have e1 := drop_both s t b
    rw [bs_drop t b hb] at e1
    have e2 := (drop_cons e1).2.1
    rw [e2]
    have := bt_at t (b : Int) (by simpa using hb)
    simpa using this
  have eex : (s ++ t).extract ((x : Int) + (s.size : Int)).toNat (((x : Int) + (s.size : Int)) + (n : Int)).toNat = t.extract (x : Int).toNat ((x : Int) + (n : Int)).toNat := by
    apply bs_ext
    rw [bs_extract, bs_extract, show ((x : Int) + (s.size : Int)).toNat = s.size + x by omega, show (((x : Int) + (s.size : Int)) + (n : Int)).toNat = s.size + x + n by omega, show ((x : Int) + (n : Int)).toNat = x + n by omega, Int.toNat_natCast, drop_both]
    congr 1
    omega
  by_cases h5 : c = sumS (bt t (b : Int)) (t.extract (x : Int).toNat ((x : Int) + (n : Int)).toNat)
  · rw [sget_is a1 a2 hg (by omega) (by omega) hf h5] at h
    simp only [Prod.mk.injEq] at h
    exact absurd h.2.2.2.symm he
  · rw [sget_other a1 a2 hg (by omega) (by omega) hf h5] at h
    rw [sget_other b1 b2 hg2 (by omega) (by omega) hf2 (by rw [ebt, eex]; exact h5)]
    simp only [Prod.mk.injEq] at h
    rw [h.2.2.2]
theorem fixed_f : transhumancelaw03_fixed.f = some true := rfl
theorem all_at (k : Nat) (s : ByteArray) : sect_All.f k s = sect_All.l0 k s [] ((0 : Nat) : Int) := rfl
theorem j0_out (k : Nat) (s t : ByteArray) (h : 1 ≤ k) : transhumancelaw03_SectBoth.j0 k s t true = some true := by
  obtain ⟨k, rfl⟩ : ∃ m, k = m + 1 := ⟨k - 1, by omega⟩
  simp only [transhumancelaw03_SectBoth.j0]
  rw [if_pos trivial, fixed_f, Option.bind_some]
theorem j0_in (k : Nat) (s t : ByteArray) (hs : s.size ≤ 200) (ht : t.size ≤ 200) (hk : 1000 ≤ k) : transhumancelaw03_SectBoth.j0 (k + 1) s t false = some true := by
  have hz : (s ++ t).size = s.size + t.size := ByteArray.size_append
  have hsz : s.size + t.size ≤ 9223372036854775807 := by omega
  have hw : wrap64 ((s.size : Int) + (t.size : Int)) = ((s ++ t).size : Int) := by rw [wrap_id (by omega) (by omega)]; omega
  simp only [transhumancelaw03_SectBoth.j0]
  rw [if_neg (by decide), all_at, all_at, all_at]
  have nil0 : ([] : List S65).length + 1000 ≤ 1000000 := by decide
  rcases all_cases s (by omega) s.size 0 k [] (by omega) (by omega) (by omega) (by have := nil0; omega) with ⟨l, hl, h1, h2⟩ | ⟨l, r, b, e, hl, h1, h2, h3, h4, h5, h6⟩
  · rw [h2, Option.bind_some]
    have h1' : bs s = encL l := h1
    have hll : l.length ≤ 200 := by
      have := encL_len l
      have h7 := congrArg List.length h1'
      rw [bs_size] at h7
      omega
    have hls : (encL l).length = s.size := by rw [← h1', bs_size]
    rcases all_cases t (by omega) t.size 0 k [] (by omega) (by omega) (by omega) (by have := nil0; omega) with ⟨m, hm, g1, g2⟩ | ⟨m, r, b, e, hm, g1, g2, g3, g4, g5, g6⟩
    · have g1' : bs t = encL m := g1
      have hmm : m.length ≤ 200 := by
        have := encL_len m
        have h7 := congrArg List.length g1'
        rw [bs_size] at h7
        omega
      have hO : ∀ x ∈ l ++ m, Okay x := by
        intro x hx
        rcases List.mem_append.1 hx with hx | hx
        · exact hl x hx
        · exact hm x hx
      have hd : (bs (s ++ t)).drop 0 = encL (l ++ m) ++ [] := by rw [List.append_nil, encL_append, List.drop_zero, bs_append, h1', g1']
      have he := all_enc (s ++ t) (by omega) (l ++ m) (k - (l ++ m).length) 0 [] [] hO hd (by simp; omega)
      have hlm : (l ++ m).length ≤ 400 := by rw [List.length_append]; omega
      have hlm2 : l.length + m.length < 5864062014805 := by omega
      have hl5 : ([] : List S65).length + ([] ++ l).length < 5864062014805 := by rw [List.nil_append]; show 0 + l.length < _; omega
      have hlmk : (l ++ m).length < k := by omega
      have hlm3 : (l ++ m).length ≤ 1000000 := by omega
      have hlen : ((0 + (encL (l ++ m)).length : Nat) : Int) = ((s ++ t).size : Int) := by
        have := congrArg List.length hd
        rw [List.drop_zero, bs_size, List.append_nil] at this
        omega
      obtain ⟨q, hq⟩ : ∃ q, k - (l ++ m).length = q + 1 := ⟨k - (l ++ m).length - 1, by omega⟩
      rw [show (l ++ m).length + (k - (l ++ m).length) = k by omega, hlen, hq, all_end q _ _ _ rfl] at he
      rw [g2, Option.bind_some, if_pos hsz, he, Option.bind_some]
      dsimp only
      rw [if_pos rfl, if_pos rfl, if_pos rfl, if_pos hw.symm, Option.bind_some, if_pos hl5, Option.bind_some]
      simp only [List.nil_append]
      rw [if_pos hlm2, same_refl (l ++ m) k hlmk hlm3, Option.bind_some]
    · have g1' : bs t = encL m ++ r := g1
      have hmm : m.length ≤ 200 := by
        have := encL_len m
        have h7 := congrArg List.length g1'
        rw [bs_size, List.length_append] at h7
        omega
      have hO : ∀ x ∈ l ++ m, Okay x := by
        intro x hx
        rcases List.mem_append.1 hx with hx | hx
        · exact hl x hx
        · exact hm x hx
      have hd : (bs (s ++ t)).drop 0 = encL (l ++ m) ++ r := by rw [encL_append, List.drop_zero, bs_append, h1', g1', List.append_assoc]
      have he := all_enc (s ++ t) (by omega) (l ++ m) (k - (l ++ m).length) 0 [] r hO hd (by simp; omega)
      have hlm : (l ++ m).length ≤ 400 := by rw [List.length_append]; omega
      have hlen : ((0 + (encL (l ++ m)).length : Nat) : Int) = ((s.size + b : Nat) : Int) := by
        rw [encL_append, List.length_append, hls]
        omega
      obtain ⟨q, hq⟩ : ∃ q, k - (l ++ m).length = q + 1 := ⟨k - (l ++ m).length - 1, by omega⟩
      have hsh := sget_shift s t b g3 g4 g5
      rw [show (l ++ m).length + (k - (l ++ m).length) = k by omega, hlen, hq, all_step q _ _ _ (by omega) (by omega) (by rw [List.nil_append]; omega), hsh, if_neg g5] at he
      have hw2 : wrap64 ((s.size : Int) + (b : Int)) = ((s.size + b : Nat) : Int) := by rw [wrap_id (by omega) (by omega)]; omega
      rw [g6, Option.bind_some, if_pos hsz, he, Option.bind_some]
      dsimp only
      rw [if_pos rfl, if_neg g5, if_pos rfl, if_pos hw2.symm]
      rfl
  · rw [h6, Option.bind_some]
    rcases all_cases t (by omega) t.size 0 k [] (by omega) (by omega) (by omega) (by have := nil0; omega) with ⟨m, hm, g1, g2⟩ | ⟨m, r, b, e, hm, g1, g2, g3, g4, g5, g6⟩
    · rw [g2, Option.bind_some, if_pos hsz]
      rcases all_cases (s ++ t) (by omega) (s ++ t).size 0 k [] (by omega) (by omega) (by omega) (by have := nil0; omega) with ⟨m, hm, k1, k2⟩ | ⟨m, r, b, e, hm, k1, k2, k3, k4, k5, k6⟩
      · rw [k2, Option.bind_some, if_neg h5]
      · rw [k6, Option.bind_some, if_neg h5]
    · rw [g6, Option.bind_some, if_pos hsz]
      rcases all_cases (s ++ t) (by omega) (s ++ t).size 0 k [] (by omega) (by omega) (by omega) (by have := nil0; omega) with ⟨m, hm, k1, k2⟩ | ⟨m, r, b, e, hm, k1, k2, k3, k4, k5, k6⟩
      · rw [k2, Option.bind_some, if_neg h5]
      · rw [k6, Option.bind_some, if_neg h5]
theorem both (s t : ByteArray) (k : Nat) (hk : 1001 ≤ k) : transhumancelaw03_SectBoth.f k s t = some true := by
  obtain ⟨k, rfl⟩ : ∃ m, k = m + 1 := ⟨k - 1, by omega⟩
  unfold transhumancelaw03_SectBoth.f
  rw [fixed_f, Option.bind_some, if_pos rfl]
  by_cases h1 : (s.size : Int) > 200
  · rw [if_pos h1]; exact j0_out _ s t (by omega)
  rw [if_neg h1]
  by_cases h2 : (t.size : Int) > 200
  · rw [decide_eq_true h2]; exact j0_out _ s t (by omega)
  rw [decide_eq_false h2]
  exact j0_in k s t (by omega) (by omega) (by omega)
theorem any (s t : ByteArray) : ∃ k, transhumancelaw03_SectBoth.f k s t = some true := ⟨_, both s t 1001 (Nat.le_refl _)⟩
end Go.Proofs.Ytaeocbbapnfcaaa.Pure.SectBoth
