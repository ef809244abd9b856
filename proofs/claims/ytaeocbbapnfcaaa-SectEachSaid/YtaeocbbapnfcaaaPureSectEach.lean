/- SectEach: sections are joined as each is put; a section's bytes are six and its payload more, or as many more as its length takes; another tag is another section; else the fixed calls. -/
import Derived.Test.YtaeocbbapnfcaaaPSectx12
import Derived.Test.YtaeocbbapnfcaaaSectPure
set_option linter.unusedVariables false
set_option linter.unusedSimpArgs false
namespace Go.Proofs.Ytaeocbbapnfcaaa.Pure.SectEach
open Go.RowKit Go.Proofs.Ytaeocbbapnfcaaa.PSect Go.Proofs.YtaeocbbapnfcaaaW.PrintWords Base PutWalk GetWalk FixedWalk BRow WirePlain SectOnes SectSays SectPlain SectJoinWalk SectPure

theorem fixed_f : transhumancelaw03_fixed.f = some true := rfl
theorem j0_out (k : Nat) (l : List S65) (t : Int) (p : ByteArray) (h : 1 ≤ k) : transhumancelaw03_SectEach.j0 k l true t p = some true := by
  obtain ⟨k, rfl⟩ : ∃ m, k = m + 1 := ⟨k - 1, by omega⟩
  simp only [transhumancelaw03_SectEach.j0]
  rw [if_pos trivial, fixed_f, Option.bind_some]
theorem and255 (n : Nat) (h : n < 9223372036854775808) : Go.bits .and .i64 (n : Int) 255 = ((n % 256 : Nat) : Int) := by
  rw [show (255 : Int) = ((255 : Nat) : Int) from rfl, i64_and n 255 h (by omega), show (255 : Nat) = 2 ^ 8 - 1 from rfl, Nat.and_two_pow_sub_one_eq_mod]
theorem and_any (x : Int) : ∃ y, Go.bits .and .i64 x 255 = y := ⟨_, rfl⟩
theorem sec_no (t : Int) (p : ByteArray) (h : t < 0 ∨ 255 < t) : secS t p = ⟨#[]⟩ := by
  unfold secS
  rw [if_pos (by omega)]
theorem nil_list : (⟨#[]⟩ : ByteArray).toList = [] := by decide +kernel
theorem len_small (n : Nat) (h : n ≤ 127) : (vput 7 n).length = 1 := by rw [vput_last 7 n h]; rfl
theorem len_mid (n : Nat) (h1 : 127 < n) (h2 : n ≤ 300) : (vput 7 n).length = 2 := by rw [vput_more 6 n h1, List.length_cons, vput_last 6 _ (by omega)]; rfl
/-- The first bytes of sections of unlike tags. -/
theorem sec_ne (t u : Nat) (p : ByteArray) (ht : t < 256) (hu : u < 256) (hp : p.size ≤ 1048576) (h : t ≠ u) : ¬ (secS (t : Int) p).toList = (secS (u : Int) p).toList := by
  intro e
  have e2 := (bs_inj _ _).2 e
  rw [bs_sec t p ht hp, bs_sec u p hu hp] at e2
  unfold secL at e2
  injection e2 with e3 e4
  exact h e3
theorem sec_full (t : Nat) (p : ByteArray) (ht : t < 256) (hp : p.size ≤ 1048576) : ((secS (t : Int) p).toList != ([] : List UInt8)) = true := by
  rw [bne_iff_ne]
  intro e
  rw [← nil_list] at e
  have e2 := (bs_inj _ _).2 e
  rw [bs_sec t p ht hp] at e2
  cases e2
/-- The end: what is told of the joined bytes, and of two sections. -/
theorem j2_in (k : Nat) (l : List S65) (hl : l.length ≤ 10) (t : Int) (p : ByteArray) (hp : p.size ≤ 300) (hk : 1 ≤ k) : transhumancelaw03_SectEach.j2 (k + 1) l (joinS l) (secS t p) (decide (0 ≤ t ∧ t ≤ 255)) t p = some true := by
  simp only [transhumancelaw03_SectEach.j2]
  by_cases ht : 0 ≤ t ∧ t ≤ 255
  · obtain ⟨t, rfl⟩ := Int.eq_ofNat_of_zero_le ht.1
    have hw : wrap64 ((t : Int) + 1) = ((t + 1 : Nat) : Int) := by rw [wrap_id (by omega) (by omega)]; omega
    have h256 : t < 256 := by omega
    have hu : (t + 1) % 256 < 256 := Nat.mod_lt _ (by omega)
    have hne : t ≠ (t + 1) % 256 := by omega
    have hand : Go.bits .and .i64 ((t + 1 : Nat) : Int) 255 = (((t + 1) % 256 : Nat) : Int) := and255 (t + 1) (by omega)
    have hpp : p.size ≤ 1048576 := by omega
    have h1 := SectPlain.sec_size t p h256 hpp
    have h2 := SectPlain.sec_size ((t + 1) % 256) p hu hpp
    have hfull := sec_full t p h256 hpp
    have hn := sec_ne t ((t + 1) % 256) p h256 hu hpp hne
    rw [decide_eq_true ht, hw, hand]
    by_cases h127 : (p.size : Int) > 127
    · have hv := len_mid p.size (by omega) hp
      rw [hv] at h1 h2
      have hws : wrap64 (wrap64 ((p.size : Int) + 6) + 1) = (p.size : Int) + 7 := by rw [wrap_id (x := (p.size : Int) + 6) (by omega) (by omega), wrap_id (by omega) (by omega)]; omega
      have e1 : ((secS (t : Int) p).size : Int) = (p.size : Int) + 7 := by omega
      have e2 : ((secS (((t + 1) % 256 : Nat) : Int) p).size : Int) = (p.size : Int) + 7 := by omega
      rw [if_pos h127, put_f' k _ _ hk, Option.bind_some, join_f l (by omega), Option.bind_some, hfull, if_pos (show (joinS l).toList = (joinS l).toList from rfl), if_pos (show (true == true) = true from rfl), if_pos (show true = true from rfl), hws, if_pos e1, if_neg hn, e2, beq_self_eq_true]
    · have hv := len_small p.size (by omega)
      rw [hv] at h1 h2
      have hws : wrap64 ((p.size : Int) + 6) = (p.size : Int) + 6 := wrap_id (by omega) (by omega)
      have e1 : ((secS (t : Int) p).size : Int) = (p.size : Int) + 6 := by omega
      have e2 : ((secS (((t + 1) % 256 : Nat) : Int) p).size : Int) = (p.size : Int) + 6 := by omega
      rw [if_neg h127, put_f' k _ _ hk, Option.bind_some, join_f l (by omega), Option.bind_some, hfull, if_pos (show (joinS l).toList = (joinS l).toList from rfl), if_pos (show (true == true) = true from rfl), if_pos (show true = true from rfl), hws, if_pos e1, if_neg hn, e2, beq_self_eq_true]
  · rw [decide_eq_false ht, sec_no t p (by omega)]
    by_cases h127 : (p.size : Int) > 127
    · rw [if_pos h127, put_f' k _ _ hk, Option.bind_some, join_f l (by omega), Option.bind_some, nil_list]; simp
    · rw [if_neg h127, put_f' k _ _ hk, Option.bind_some, join_f l (by omega), Option.bind_some, nil_list]; simp
theorem l0_in (l : List S65) (hl : l.length ≤ 10) (h300 : ∀ i, i < l.length → (rd_T65 l (i : Int)).f1.size ≤ 300) (t : Int) (p : ByteArray) (hp : p.size ≤ 300) (d : Nat) : ∀ (i k : Nat), i + d = l.length → d + 10 ≤ k →
    transhumancelaw03_SectEach.l0 k l (joined (fun i => (rd_T65 l (i : Int)).f0) (fun i => (rd_T65 l (i : Int)).f1) i) (i : Int) t p = some true := by
  induction d with
  | zero =>
    intro i k h1 h2
    obtain ⟨k, rfl⟩ : ∃ m, k = m + 2 := ⟨k - 2, by omega⟩
    obtain rfl : i = l.length := by omega
    simp only [transhumancelaw03_SectEach.l0]
    rw [if_neg (by omega), put_f' (k + 1) _ _ (by omega), Option.bind_some]
    have hj := j2_in k l hl t p hp (by omega)
    by_cases h0 : t ≥ 0
    · rw [if_pos h0]
      have e : decide (t ≤ 255) = decide (0 ≤ t ∧ t ≤ 255) := by rw [decide_eq_decide]; omega
      rw [e]
      exact hj
    · rw [if_neg h0]
      rw [decide_eq_false (show ¬ (0 ≤ t ∧ t ≤ 255) by omega)] at hj
      exact hj
  | succ d ih =>
    intro i k h1 h2
    obtain ⟨k, rfl⟩ : ∃ m, k = m + 1 := ⟨k - 1, by omega⟩
    have hz := joined_le (fun i => (rd_T65 l (i : Int)).f0) (fun i => (rd_T65 l (i : Int)).f1) 300 l.length h300 i (by omega)
    have hs := sec_le (rd_T65 l (i : Int)).f0 (rd_T65 l (i : Int)).f1
    have h3 := h300 i (by omega)
    have hsz : (joined (fun i => (rd_T65 l (i : Int)).f0) (fun i => (rd_T65 l (i : Int)).f1) i).size + (secS (rd_T65 l (i : Int)).f0 (rd_T65 l (i : Int)).f1).size ≤ 9223372036854775807 := by omega
    have c1 : (i : Int) < (l.length : Int) := by omega
    have c2 : (0 : Int) ≤ (i : Int) := by omega
    have c3 : wrap64 ((i : Int) + 1) = ((i + 1 : Nat) : Int) := by rw [wrap_id (by omega) (by omega)]; omega
    simp only [transhumancelaw03_SectEach.l0]
    rw [if_pos c1, if_pos c2, put_f' k _ _ (by omega), Option.bind_some, if_pos hsz, c3]
    exact ih (i + 1) k (by omega) (by omega)
theorem each (l : List S65) (t : Int) (p : ByteArray) (k : Nat) (hk : 100 ≤ k) : transhumancelaw03_SectEach.f k l t p = some true := by
  obtain ⟨k, rfl⟩ : ∃ m, k = m + 1 := ⟨k - 1, by omega⟩
  unfold transhumancelaw03_SectEach.f
  rw [fixed_f, Option.bind_some, if_pos rfl]
  obtain ⟨u, hu, hut⟩ := small_f l (k + 1) (by omega)
  obtain ⟨v, hv, hvt⟩ := small_f [(⟨t, p⟩ : S65)] (k + 1) (by omega)
  rw [hu, Option.bind_some]
  cases u with
  | false =>
    rw [if_neg (by decide)]
    exact j0_out _ _ _ _ (by omega)
  | true =>
    rw [if_pos rfl, hv, Option.bind_some]
    cases v with
    | false => exact j0_out _ _ _ _ (by omega)
    | true =>
      have hp : p.size ≤ 300 := (hvt rfl).2 0 (by simp)
      obtain ⟨hl, h300⟩ := hut rfl
      have hn : (!true) = false := rfl
      rw [hn]
      simp only [transhumancelaw03_SectEach.j0]
      rw [if_neg (by decide)]
      exact l0_in l hl h300 t p hp l.length 0 k (by omega) (by omega)
theorem any (l : List S65) (t : Int) (p : ByteArray) : ∃ k, transhumancelaw03_SectEach.f k l t p = some true := ⟨_, each l t p 100 (Nat.le_refl _)⟩
end Go.Proofs.Ytaeocbbapnfcaaa.Pure.SectEach
