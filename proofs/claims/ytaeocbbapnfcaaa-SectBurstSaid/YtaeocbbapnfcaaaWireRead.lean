/- Plain facts: a varint that stands at a place is read there, and what is read is the one number whose varint stands there. -/
import Derived.Test.YtaeocbbapnfcaaaWirePlain
namespace Go.Proofs.Ytaeocbbapnfcaaa.WirePlain
open Go.RowKit PutWalk GetWalk FixedWalk BRow

/-- A text's bytes, as numbers. -/
def bs (t : ByteArray) : List Nat := t.data.toList.map UInt8.toNat
theorem bs_size (t : ByteArray) : (bs t).length = t.size := by simp [bs]
theorem bs_append (s t : ByteArray) : bs (s ++ t) = bs s ++ bs t := by simp [bs]
theorem bs_lt (t : ByteArray) : ∀ b ∈ bs t, b < 256 := by
  intro b hb
  simp only [bs, List.mem_map] at hb
  obtain ⟨x, _, rfl⟩ := hb
  exact x.toNat_lt
theorem bs_drop (t : ByteArray) (i : Nat) (h : i < t.size) : (bs t).drop i = t[i].toNat :: (bs t).drop (i + 1) := by
  rw [List.drop_eq_getElem_cons (by rw [bs_size]; exact h)]
  simp [bs]
  rfl
theorem bs_end (t : ByteArray) (i : Nat) (h : ¬ i < t.size) : (bs t).drop i = [] := List.drop_of_length_le (by rw [bs_size]; omega)
theorem bs_inj (s t : ByteArray) : bs s = bs t ↔ s.toList = t.toList := by
  rw [ByteArray.toList_eq, ByteArray.toList_eq]
  unfold bs
  constructor
  · intro e; exact List.map_inj_right (fun a b h => UInt8.toNat_inj.1 h) |>.1 e
  · intro e; rw [e]
theorem bs_take (t : ByteArray) (n : Nat) : bs (t.extract 0 n) = (bs t).take n := by simp [bs]

/-- What Get tells, of the bytes from the place on. -/
def vgl (a : Nat) : Nat → Nat → Nat → List Nat → Nat × Nat × Nat
  | 0, _, _, _ => (0, a, 11)
  | _ + 1, _, _, [] => (0, a, 10)
  | f + 1, k, n, c :: r =>
    if 6 < k ∨ k = 6 ∧ c < 128 ∧ 63 < c then (0, a, 11)
    else if 128 ≤ c then vgl a f (k + 1) (n + c % 128 * 2 ^ (7 * k)) r
    else if c = 0 ∧ 0 < k then (0, a, 12)
    else (n + c % 128 * 2 ^ (7 * k), a + k + 1, 0)
theorem vget_list (s : ByteArray) (a f : Nat) : ∀ k n, vget s a f k n = vgl a f k n ((bs s).drop (a + k)) := by
  induction f with
  | zero => intro k n; rfl
  | succ f ih =>
    intro k n
    by_cases h : a + k < s.size
    · rw [bs_drop s (a + k) h]
      simp only [vget, vgl]
      rw [dif_pos h, ih (k + 1)]
      rfl
    · rw [bs_end s (a + k) h, vget_cut h]
      rfl
/-- WHAT WAS PUT IS READ. -/
theorem vgl_put (a j : Nat) : ∀ (f k n m : Nat) (r : List Nat), j < f → k ≤ 6 → m < 2 ^ (48 - 7 * k) → m < 128 ^ (j + 1) → (k = 0 ∨ 0 < m) →
    vgl a f k n (vput j m ++ r) = (n + m * 2 ^ (7 * k), a + k + (vput j m).length, 0) := by
  induction j with
  | zero =>
    intro f k n m r hf hk h48 hm hz
    obtain ⟨f, rfl⟩ : ∃ g, f = g + 1 := ⟨f - 1, by omega⟩
    have h63 : k = 6 → m < 64 := by rintro rfl; exact h48
    have h128 : m < 128 := by omega
    simp only [vput, List.singleton_append, vgl]
    rw [if_neg (by omega), if_neg (by omega), if_neg (by omega), Nat.mod_eq_of_lt h128]
    rfl
  | succ j ih =>
    intro f k n m r hf hk h48 hm hz
    obtain ⟨f, rfl⟩ : ∃ g, f = g + 1 := ⟨f - 1, by omega⟩
    have h63 : k = 6 → m < 64 := by rintro rfl; exact h48
    by_cases h1 : 127 < m
    · have hk5 : k ≤ 5 := by
        rcases Nat.lt_or_ge k 6 with h | h
        · omega
        · have := h63 (by omega); omega
      rw [vput_more j m h1, List.cons_append]
      simp only [vgl]
      rw [if_neg (by omega), if_pos (by omega)]
      have hd : m / 128 < 2 ^ (48 - 7 * (k + 1)) := by
        rw [Nat.div_lt_iff_lt_mul (by omega), show (128 : Nat) = 2 ^ 7 from rfl, ← Nat.pow_add, show 48 - 7 * (k + 1) + 7 = 48 - 7 * k by omega]
        exact h48
      rw [ih f (k + 1) _ (m / 128) r (by omega) (by omega) hd (div_lt j m hm) (by omega)]
      have e1 : (128 + m % 128) % 128 = m % 128 := by omega
      have e2 : 2 ^ (7 * (k + 1)) = 128 * 2 ^ (7 * k) := by rw [show 7 * (k + 1) = 7 + 7 * k by omega, Nat.pow_add]
      rw [e1, e2, List.length_cons]
      have e3 : n + m % 128 * 2 ^ (7 * k) + m / 128 * (128 * 2 ^ (7 * k)) = n + m * 2 ^ (7 * k) := by
        rw [Nat.add_assoc, ← Nat.mul_assoc, ← Nat.add_mul, show m % 128 + m / 128 * 128 = m by omega]
      rw [e3, show a + (k + 1) + (vput j (m / 128)).length = a + k + ((vput j (m / 128)).length + 1) by omega]
    · rw [vput_last _ m (by omega), List.singleton_append]
      simp only [vgl]
      rw [if_neg (by omega), if_neg (by omega), if_neg (by omega), Nat.mod_eq_of_lt (by omega)]
      rfl
/-- WHAT IS READ STANDS THERE. -/
theorem vgl_back (a f : Nat) : ∀ (k n : Nat) (l : List Nat) (v p : Nat), k + f = 8 → (∀ x ∈ l, x < 256) → vgl a f k n l = (v, p, 0) →
    ∃ (m : Nat) (r : List Nat), l = vput (7 - k) m ++ r ∧ v = n + m * 2 ^ (7 * k) ∧ p = a + k + (vput (7 - k) m).length ∧ m < 2 ^ (48 - 7 * k) ∧ (k = 0 ∨ 0 < m) ∧ k ≤ 6 := by
  induction f with
  | zero => intro k n l v p _ _ h; simp [vgl] at h
  | succ f ih =>
    intro k n l v p hk hl h
    cases l with
    | nil => simp [vgl] at h
    | cons c r =>
      have hc := hl c (by simp)
      simp only [vgl] at h
      by_cases hw : 6 < k ∨ k = 6 ∧ c < 128 ∧ 63 < c
      · rw [if_pos hw] at h; simp at h
      · rw [if_neg hw] at h
        by_cases h1 : 128 ≤ c
        · rw [if_pos h1] at h
          obtain ⟨m, r', h2, h3, h4, h5, h6, h7⟩ := ih (k + 1) _ r v p (by omega) (fun x hx => hl x (by simp [hx])) h
          have hm0 : 0 < m := by omega
          have e2 : 2 ^ (7 * (k + 1)) = 128 * 2 ^ (7 * k) := by rw [show 7 * (k + 1) = 7 + 7 * k by omega, Nat.pow_add]
          have ev : vput (7 - k) (c % 128 + 128 * m) = c :: vput (7 - (k + 1)) m := by
            rw [show 7 - k = (7 - (k + 1)) + 1 by omega, vput_more _ _ (by omega), show (c % 128 + 128 * m) / 128 = m by omega, show 128 + (c % 128 + 128 * m) % 128 = c by omega]
          refine ⟨c % 128 + 128 * m, r', ?_, ?_, ?_, ?_, Or.inr (by omega), by omega⟩
          · rw [ev, h2]; rfl
          · rw [h3, e2, Nat.add_assoc, ← Nat.mul_assoc, ← Nat.add_mul, Nat.mul_comm m 128]
          · rw [ev, h4, List.length_cons]; omega
          · have e3 : 2 ^ (48 - 7 * k) = 128 * 2 ^ (48 - 7 * (k + 1)) := by rw [show 48 - 7 * k = 7 + (48 - 7 * (k + 1)) by omega, Nat.pow_add]
            rw [e3]
            have : (m + 1) * 128 ≤ 2 ^ (48 - 7 * (k + 1)) * 128 := Nat.mul_le_mul_right _ h5
            omega
        · rw [if_neg h1] at h
          by_cases hz : c = 0 ∧ 0 < k
          · rw [if_pos hz] at h; simp at h
          · rw [if_neg hz] at h
            simp only [Prod.mk.injEq] at h
            refine ⟨c, r, ?_, ?_, ?_, ?_, by omega, by omega⟩
            · rw [vput_last _ c (by omega)]; rfl
            · rw [← h.1, Nat.mod_eq_of_lt (by omega)]
            · rw [vput_last _ c (by omega)]; exact h.2.1.symm
            · rcases Nat.lt_or_ge k 6 with h6 | h6
              · exact Nat.lt_of_lt_of_le (show c < 2 ^ 7 by omega) (Nat.pow_le_pow_right (by omega) (by omega))
              · obtain rfl : k = 6 := by omega
                show c < 64
                omega

/-- Get reads what Put put, whatever stands ahead and behind. -/
theorem get_put (a b : ByteArray) (n : Nat) (hn : n < 281474976710656) : getI ((a ++ putS (n : Int)) ++ b) (a.size : Int) = ((n : Int), ((a.size + (putS (n : Int)).size : Nat) : Int), 0) := by
  have hs : ((a ++ putS (n : Int)) ++ b).size = a.size + (putS (n : Int)).size + b.size := by rw [ByteArray.size_append, ByteArray.size_append]
  rw [getI, if_pos ⟨by omega, by rw [hs]; omega⟩]
  have hv : vget ((a ++ putS (n : Int)) ++ b) (a.size : Int).toNat 8 0 0 = (n, a.size + (putS (n : Int)).size, 0) := by
    rw [Int.toNat_natCast, vget_list, bs_append, bs_append, Nat.add_zero, List.append_assoc, ← bs_size a, List.drop_left, bs_size]
    have hb : bs (putS (n : Int)) = vput 7 n := by rw [putS_nat n hn]; exact text_bytes _ (vput_byte 7 n (lt48 hn))
    rw [hb, vgl_put a.size 7 8 0 0 n (bs b) (by omega) (by omega) (by simpa using hn) (lt48 hn) (.inl rfl), put_size n hn]
    simp
  rw [hv]
  rfl
/-- What Get reads at the begin of bytes is the one number whose varint they begin with. -/
theorem get_back (b : ByteArray) (x y z : Int) (h : getI b 0 = (x, y, z)) (hz : z = 0) : ∃ (m p : Nat), x = (m : Int) ∧ y = (p : Int) ∧ m < 281474976710656 ∧ 1 ≤ p ∧ p ≤ b.size ∧ (putS x).toList = (b.extract 0 p).toList := by
  subst hz
  rw [getI, if_pos ⟨by omega, by omega⟩] at h
  obtain ⟨v, p, e, hv⟩ : ∃ v p e, vget b (0 : Int).toNat 8 0 0 = (v, p, e) := ⟨_, _, _, rfl⟩
  rw [hv] at h
  simp only [Prod.mk.injEq] at h
  obtain ⟨rfl, rfl, he⟩ := h
  have he0 : e = 0 := by omega
  subst he0
  rw [vget_list] at hv
  obtain ⟨m, r, h2, h3, h4, h5, _, _⟩ := vgl_back _ 8 0 0 _ v p rfl (fun q hq => bs_lt b q (List.mem_of_mem_drop hq)) hv
  simp only [Nat.mul_zero, Nat.pow_zero, Nat.mul_one, Nat.zero_add, Nat.sub_zero] at h2 h3 h4 h5
  subst h3
  have h48 : v < 281474976710656 := h5
  have h2' : bs b = vput 7 v ++ r := h2
  have hp : p = (vput 7 v).length := by simpa using h4
  have hpos := vput_pos 7 v
  have hlen : b.size = (vput 7 v).length + r.length := by rw [← bs_size, h2', List.length_append]
  refine ⟨v, p, rfl, rfl, h48, by omega, by omega, ?_⟩
  rw [← bs_inj, bs_take, h2', hp, List.take_left, putS_nat v h48]
  exact text_bytes _ (vput_byte 7 v (lt48 h48))
end Go.Proofs.Ytaeocbbapnfcaaa.WirePlain
