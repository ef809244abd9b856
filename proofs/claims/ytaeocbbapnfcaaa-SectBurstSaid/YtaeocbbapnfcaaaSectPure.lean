/- Plain facts on sections: what was put is read, wherever it stands; what is read is the one section whose bytes stand there. Plain facts on lists of sections: what All tells of bytes, of what was joined, of sections and what stands behind them. -/
import Derived.Test.YtaeocbbapnfcaaaSectSays
import Derived.Test.YtaeocbbapnfcaaaPSectx8
namespace Go.Proofs.Ytaeocbbapnfcaaa.SectPlain
open Go.RowKit Go.Proofs.YtaeocbbapnfcaaaW.PrintWords Base PutWalk GetWalk FixedWalk BRow WirePlain SectOnes SectSays CrcWalk CrcSums Crc
set_option linter.unusedVariables false
set_option linter.unusedSimpArgs false

theorem bs_ext {s t : ByteArray} (h : bs s = bs t) : s = t := by
  have := (bs_inj s t).1 h
  rw [ByteArray.toList_eq, ByteArray.toList_eq] at this
  exact ByteArray.ext (Array.toList_inj.1 this)
theorem bs_extract (s : ByteArray) (i j : Nat) : bs (s.extract i j) = ((bs s).drop i).take (j - i) := by
  simp [bs, List.extract_eq_take_drop, List.map_drop, List.map_take]
theorem bs_nil : bs ⟨#[]⟩ = [] := rfl
theorem drop_cons {s : ByteArray} {a x : Nat} {r : List Nat} (h : (bs s).drop a = x :: r) : a < s.size ∧ bt s (a : Int) = (x : Int) ∧ (bs s).drop (a + 1) = r := by
  have hl : a < s.size := by
    rcases Nat.lt_or_ge a s.size with h0 | h0
    · exact h0
    · rw [bs_end s a (by omega)] at h; cases h
  have e := bs_drop s a hl
  rw [h] at e
  injection e with e1 e2
  refine ⟨hl, ?_, e2.symm⟩
  rw [e1]
  have := bt_at s (a : Int) (by simpa using hl)
  simpa using this.symm
theorem drop_add {s : ByteArray} {a : Nat} {l r : List Nat} (h : (bs s).drop a = l ++ r) : (bs s).drop (a + l.length) = r := by
  rw [← List.drop_drop, h, List.drop_left]
theorem drop_size {s : ByteArray} {a : Nat} {l r : List Nat} (h : (bs s).drop a = l ++ r) (ha : a ≤ s.size) : a + l.length + r.length = s.size := by
  have := congrArg List.length h
  rw [List.length_drop, bs_size, List.length_append] at this
  omega
/-- Get, of the bytes from the place on. -/
theorem getI_at (s : ByteArray) (a : Nat) (ha : a ≤ s.size) {x y z : Nat} (h : vgl a 8 0 0 ((bs s).drop a) = (x, y, z)) : getI s (a : Int) = ((x : Int), (y : Int), (z : Int)) := by
  rw [getI, if_pos ⟨by omega, by omega⟩, Int.toNat_natCast, vget_list, Nat.add_zero, h]
theorem getI_put {s : ByteArray} {a n : Nat} {r : List Nat} (hn : n < 281474976710656) (ha : a ≤ s.size) (h : (bs s).drop a = vput 7 n ++ r) : getI s (a : Int) = ((n : Int), ((a + (vput 7 n).length : Nat) : Int), 0) := by
  have := vgl_put a 7 8 0 0 n r (by omega) (by omega) (by simpa using hn) (lt48 hn) (.inl rfl)
  rw [← h] at this
  rw [getI_at s a ha this]
  simp
/-- What stands where a number was read. -/
theorem getI_back {s : ByteArray} {a : Int} {n x : Int} (h : getI s a = (n, x, 0)) : ∃ (a' m : Nat) (r : List Nat), a = (a' : Int) ∧ a' ≤ s.size ∧ n = (m : Int) ∧ x = ((a' + (vput 7 m).length : Nat) : Int) ∧ m < 281474976710656 ∧ (bs s).drop a' = vput 7 m ++ r := by
  unfold getI at h
  by_cases h0 : 0 ≤ a ∧ a ≤ (s.size : Int)
  · rw [if_pos h0] at h
    obtain ⟨a', rfl⟩ := Int.eq_ofNat_of_zero_le h0.1
    rw [Int.toNat_natCast] at h
    obtain ⟨v, p, e, hv⟩ : ∃ v p e, vget s a' 8 0 0 = (v, p, e) := ⟨_, _, _, rfl⟩
    rw [hv] at h
    simp only [Prod.mk.injEq] at h
    obtain ⟨rfl, rfl, he⟩ := h
    have he0 : e = 0 := by omega
    subst he0
    rw [vget_list, Nat.add_zero] at hv
    obtain ⟨m, r, h2, h3, h4, h5, _, _⟩ := vgl_back a' 8 0 0 _ v p rfl (fun q hq => bs_lt s q (List.mem_of_mem_drop hq)) hv
    simp only [Nat.mul_zero, Nat.pow_zero, Nat.mul_one, Nat.zero_add, Nat.sub_zero, Nat.add_zero] at h2 h3 h4 h5
    subst h3
    exact ⟨a', v, r, rfl, by omega, rfl, by rw [h4], h5, h2⟩
  · rw [if_neg h0] at h
    simp only [Prod.mk.injEq] at h
    omega
/-- Four bytes of a number. -/
def fourL (c : Nat) : List Nat := [byt c 0, byt c 1, byt c 2, byt c 3]
theorem four_of (c : Nat) (hc : c < 4294967296) (r : List Nat) : four (fourL c ++ r) = c := four_put c hc r
theorem getF_put {s : ByteArray} {a c : Nat} {r : List Nat} (hc : c < 4294967296) (ha : a ≤ s.size) (h : (bs s).drop a = fourL c ++ r) : getF s (a : Int) = ((c : Int), (a : Int) + 4, 0) := by
  have hs := drop_size h ha
  have e4 : (fourL c).length = 4 := rfl
  rw [getF, if_pos ⟨by omega, by omega⟩, if_neg (by omega), Int.toNat_natCast, h, four_of c hc]
theorem fourL_four (l : List Nat) (h4 : 4 ≤ l.length) (hl : ∀ x ∈ l, x < 256) : l.take 4 = fourL (four l) := by
  match l, h4 with
  | b0 :: b1 :: b2 :: b3 :: r, _ =>
    have q0 := hl b0 (by simp)
    have q1 := hl b1 (by simp)
    have q2 := hl b2 (by simp)
    have q3 := hl b3 (by simp)
    have e : four (b0 :: b1 :: b2 :: b3 :: r) = b0 + b1 * 256 + b2 * 65536 + b3 * 16777216 := rfl
    rw [e]
    simp only [List.take_succ_cons, List.take_zero, fourL, byt]
    clear e hl
    congr 1
    · omega
    · congr 1
      · omega
      · congr 1
        · omega
        · congr 1
          omega
theorem four_lt (l : List Nat) (hl : ∀ x ∈ l, x < 256) : four l < 4294967296 := by
  have h : ∀ i, l.getD i 0 < 256 := by
    intro i
    rw [List.getD_eq_getElem?_getD]
    cases e : l[i]? with
    | none => simp
    | some y => exact hl y (List.mem_of_getElem? e)
  have h0 := h 0
  have h1 := h 1
  have h2 := h 2
  have h3 := h 3
  unfold four
  omega
theorem getF_back {s : ByteArray} {a : Nat} {t y : Int} (ha : a ≤ s.size) (h : getF s (a : Int) = (t, y, 0)) : ∃ (c : Nat) (r : List Nat), t = (c : Int) ∧ y = (a : Int) + 4 ∧ c < 4294967296 ∧ (bs s).drop a = fourL c ++ r := by
  unfold getF at h
  rw [if_pos ⟨by omega, by omega⟩] at h
  by_cases h4 : (s.size : Int) < (a : Int) + 4
  · rw [if_pos h4] at h
    simp only [Prod.mk.injEq] at h
    omega
  · rw [if_neg h4, Int.toNat_natCast] at h
    simp only [Prod.mk.injEq] at h
    have hb : ∀ x ∈ (bs s).drop a, x < 256 := fun q hq => bs_lt s q (List.mem_of_mem_drop hq)
    refine ⟨four ((bs s).drop a), ((bs s).drop a).drop 4, h.1.symm, h.2.1.symm, four_lt _ hb, ?_⟩
    rw [← fourL_four _ (by rw [List.length_drop, bs_size]; omega) hb, List.take_append_drop]
theorem getF_cut {s : ByteArray} {a : Nat} (ha : a ≤ s.size) (h : s.size < a + 4) : getF s (a : Int) = (0, (a : Int), 10) := by
  rw [getF, if_pos ⟨by omega, by omega⟩, if_pos (by omega)]
/-- The sum of a section, and its bytes. -/
def sumN (t : Nat) (p : ByteArray) : Nat := sum 0 (t :: bs p)
def secL (t : Nat) (p : ByteArray) : List Nat := t :: (vput 7 p.size ++ (bs p ++ fourL (sumN t p)))
theorem bs_tag (t : Nat) (h : t < 256) : bs (tag1 (t : Int)) = [t] := by
  have e : tag1 (t : Int) = text [t] := by
    unfold tag1 text
    congr 1
    simp
    omega
  rw [e]
  exact text_bytes [t] (by simpa using h)
theorem sumN_lt (t : Nat) (p : ByteArray) : sumN t p < 4294967296 := sum_lt 0 _
theorem sumS_nat (t : Nat) (p : ByteArray) (h : t < 256) : sumS (t : Int) p = (sumN t p : Int) := by
  unfold sumS sumN
  rw [show (0 : Int) = ((0 : Nat) : Int) from rfl, rollI_nat 0 _ (by omega)]
  have e : bys (tag1 (t : Int) ++ p) = t :: bs p := by
    show bs (tag1 (t : Int) ++ p) = _
    rw [bs_append, bs_tag t h]
    rfl
  rw [e]
theorem bs_putS (n : Nat) (h : n < 281474976710656) : bs (putS (n : Int)) = vput 7 n := by
  rw [putS_nat n h]
  exact text_bytes _ (vput_byte 7 n (lt48 h))
theorem bs_sec (t : Nat) (p : ByteArray) (ht : t < 256) (hp : p.size ≤ 1048576) : bs (secS (t : Int) p) = secL t p := by
  rw [secS, if_neg (by omega), bs_append, bs_append, bs_append, bs_tag t ht, bs_putS _ (by omega), sumS_nat t p ht, bs_putF _ (sumN_lt t p)]
  unfold secL fourL
  simp
theorem secL_length (t : Nat) (p : ByteArray) : (secL t p).length = 1 + (vput 7 p.size).length + p.size + 4 := by
  unfold secL
  rw [List.length_cons, List.length_append, List.length_append, bs_size]
  have : (fourL (sumN t p)).length = 4 := rfl
  omega
theorem sec_size (t : Nat) (p : ByteArray) (ht : t < 256) (hp : p.size ≤ 1048576) : (secS (t : Int) p).size = 1 + (vput 7 p.size).length + p.size + 4 := by
  rw [← bs_size, bs_sec t p ht hp, secL_length]
/-- WHAT WAS PUT IS READ. -/
theorem sget_put {s : ByteArray} {a t : Nat} {p : ByteArray} {r : List Nat} (ht : t < 256) (hp : p.size ≤ 1048576) (h : (bs s).drop a = secL t p ++ r) : sgetS s (a : Int) = ((t : Int), p, ((a + (secL t p).length : Nat) : Int), 0) := by
  have h0 : (bs s).drop a = t :: (vput 7 p.size ++ (bs p ++ (fourL (sumN t p) ++ r))) := by rw [h]; simp [secL]
  obtain ⟨ha, hb, h1⟩ := drop_cons h0
  have hg := getI_put (n := p.size) (by omega) (by omega) h1
  have h2 := drop_add h1
  have h3 := drop_add h2
  have hs1 := drop_size h1 (by omega)
  simp only [List.length_append, bs_size] at hs1
  rw [bs_size] at h3
  have hf := getF_put (sumN_lt t p) (by omega) h3
  have e4 : (fourL (sumN t p)).length = 4 := rfl
  have he : s.extract (a + 1 + (vput 7 p.size).length) (a + 1 + (vput 7 p.size).length + p.size) = p := by
    apply bs_ext
    rw [bs_extract, h2, Nat.add_sub_cancel_left, ← bs_size p, List.take_left]
  have hl := secL_length t p
  rw [sget_is (a := (a : Int)) (n := (p.size : Int)) (x := ((a + 1 + (vput 7 p.size).length : Nat) : Int)) (t := (sumN t p : Int)) (y := ((a + 1 + (vput 7 p.size).length + p.size : Nat) : Int) + 4) (by omega) (by omega) (by rw [← hg]; rfl) (by omega) (by omega) (by rw [← hf]; rfl)]
  · rw [hb]
    have e1 : (((a + 1 + (vput 7 p.size).length : Nat) : Int) + (p.size : Int)).toNat = a + 1 + (vput 7 p.size).length + p.size := by omega
    rw [e1, Int.toNat_natCast, he]
    congr 3
    omega
  · rw [hb, sumS_nat _ _ ht]
    have e1 : (((a + 1 + (vput 7 p.size).length : Nat) : Int) + (p.size : Int)).toNat = a + 1 + (vput 7 p.size).length + p.size := by omega
    rw [e1, Int.toNat_natCast, he]
/-- WHAT IS READ STANDS THERE. -/
theorem sget_back {s : ByteArray} {a t n : Int} {p : ByteArray} (h : sgetS s a = (t, p, n, 0)) : ∃ (a' t' : Nat) (r : List Nat), a = (a' : Int) ∧ t = (t' : Int) ∧ t' < 256 ∧ p.size ≤ 1048576 ∧ n = ((a' + (secL t' p).length : Nat) : Int) ∧ (bs s).drop a' = secL t' p ++ r ∧ a' + (secL t' p).length ≤ s.size := by
  by_cases h0 : a < 0 ∨ (s.size : Int) < a
  · rw [sget_low h0] at h; simp at h
  by_cases h1 : a = (s.size : Int)
  · rw [sget_end h1] at h; simp at h
  have ha : 0 ≤ a := by omega
  have hb : a < (s.size : Int) := by omega
  obtain ⟨m, x, z, hg⟩ : ∃ n x z, getI s (a + 1) = (n, x, z) := ⟨_, _, _, rfl⟩
  by_cases hz : z = 0
  case neg => rw [sget_err ha hb hg hz] at h; simp at h; omega
  subst hz
  obtain ⟨a1, m', r1, e1, hl1, rfl, rfl, hm, hd⟩ := getI_back hg
  obtain ⟨a', rfl⟩ := Int.eq_ofNat_of_zero_le ha
  obtain rfl : a1 = a' + 1 := by omega
  have hs1 := drop_size hd hl1
  by_cases h3 : 1048576 < (m' : Int)
  · rw [sget_wide ha hb hg h3] at h; simp at h
  by_cases h4 : (s.size : Int) - ((a' + 1 + (vput 7 m').length : Nat) : Int) < (m' : Int)
  · rw [sget_few ha hb hg (by omega) h4] at h; simp at h
  obtain ⟨c, y, f, hf⟩ : ∃ t y f, getF s (((a' + 1 + (vput 7 m').length : Nat) : Int) + (m' : Int)) = (t, y, f) := ⟨_, _, _, rfl⟩
  by_cases hz : f = 0
  case neg => rw [sget_less ha hb hg (by omega) (by omega) hf hz] at h; simp at h; omega
  subst hz
  by_cases h5 : c = sumS (bt s (a' : Int)) (s.extract ((a' + 1 + (vput 7 m').length : Nat) : Int).toNat (((a' + 1 + (vput 7 m').length : Nat) : Int) + (m' : Int)).toNat)
  case neg => rw [sget_other ha hb hg (by omega) (by omega) hf h5] at h; simp at h
  rw [sget_is ha hb hg (by omega) (by omega) hf h5] at h
  have e2 : (((a' + 1 + (vput 7 m').length : Nat) : Int) + (m' : Int)).toNat = a' + 1 + (vput 7 m').length + m' := by omega
  rw [e2, Int.toNat_natCast] at h h5
  simp only [Prod.mk.injEq] at h
  obtain ⟨rfl, hpe, rfl, _⟩ := h
  obtain ⟨c', r2, rfl, rfl, hc, hd2⟩ := getF_back (s := s) (a := a' + 1 + (vput 7 m').length + m') (by omega) (by rw [← hf]; rfl)
  have ha' : a' < s.size := by omega
  have hda := bs_drop s a' ha'
  have hbt : bt s (a' : Int) = ((s[a'].toNat : Nat) : Int) := by
    have := bt_at s (a' : Int) (by simpa using ha')
    simpa using this.symm
  have hlt : s[a'].toNat < 256 := s[a'].toNat_lt
  have hd3 := drop_add hd
  have hp : (s.extract (a' + 1 + (vput 7 m').length) (a' + 1 + (vput 7 m').length + m')).size = m' := by
    rw [ByteArray.size_extract]; omega
  have hbp : bs (s.extract (a' + 1 + (vput 7 m').length) (a' + 1 + (vput 7 m').length + m')) = r1.take m' := by
    rw [bs_extract, hd3, Nat.add_sub_cancel_left]
  have hr1 : r1.drop m' = fourL c' ++ r2 := by
    rw [← hd3, List.drop_drop, hd2]
  rw [hbt, sumS_nat _ _ hlt] at h5
  have h6 : c' = sumN s[a'].toNat (s.extract (a' + 1 + (vput 7 m').length) (a' + 1 + (vput 7 m').length + m')) := by omega
  rw [hpe] at hp hbp h6
  have hl := secL_length s[a'].toNat p
  rw [hp] at hl
  have hs2 := drop_size hd2 (by omega)
  have e4 : (fourL c').length = 4 := rfl
  refine ⟨a', s[a'].toNat, r2, rfl, hbt, hlt, by omega, by omega, ?_, by omega⟩
  rw [hda, hd]
  unfold secL
  rw [hp, ← h6, hbp]
  simp only [List.cons_append, List.append_assoc]
  rw [← hr1, List.take_append_drop]
/-- An error leaves nothing, at the place. -/
theorem sget_error {s : ByteArray} {a : Int} (h : (sgetS s a).2.2.2 ≠ 0) : sgetS s a = (0, ⟨#[]⟩, a, (sgetS s a).2.2.2) := by
  revert h
  unfold sgetS
  repeat' split
  all_goals first | (intro h; rfl) | (intro h; exact absurd rfl h)
end Go.Proofs.Ytaeocbbapnfcaaa.SectPlain
namespace Go.Proofs.Ytaeocbbapnfcaaa.SectPure
open Go.RowKit Go.Proofs.Ytaeocbbapnfcaaa.PSect Go.Proofs.YtaeocbbapnfcaaaW.PrintWords Base PutWalk GetWalk FixedWalk BRow WirePlain SectOnes SectSays SectPlain SectJoinWalk
set_option linter.unusedVariables false
set_option linter.unusedSimpArgs false

/-- A section that may be. -/
def Okay (x : S65) : Prop := 0 ≤ x.f0 ∧ x.f0 ≤ 255 ∧ x.f1.size ≤ 1048576
/-- Sections' bytes. -/
def encL (l : List S65) : List Nat := l.flatMap fun x => secL x.f0.toNat x.f1
theorem encL_nil : encL [] = [] := rfl
theorem encL_cons (x : S65) (l : List S65) : encL (x :: l) = secL x.f0.toNat x.f1 ++ encL l := rfl
theorem encL_append (l m : List S65) : encL (l ++ m) = encL l ++ encL m := by simp [encL]
theorem secL_pos (t : Nat) (p : ByteArray) : 6 ≤ (secL t p).length := by
  rw [secL_length]
  have := vput_pos 7 p.size
  omega
theorem encL_len (l : List S65) : l.length ≤ (encL l).length := by
  induction l with
  | nil => simp [encL]
  | cons x l ih =>
    rw [encL_cons, List.length_append, List.length_cons]
    have := secL_pos x.f0.toNat x.f1
    omega
theorem get_f (s : ByteArray) (a : Int) (h : s.size ≤ 140737488351230) : sect_Get.f s a = some (sgetS s a) := if_pos h
theorem put_f' (k : Nat) (t : Int) (p : ByteArray) (h : 1 ≤ k) : sect_Put.f k t p = some (secS t p) := by
  obtain ⟨k, rfl⟩ : ∃ m, k = m + 1 := ⟨k - 1, by omega⟩
  exact put_f k t p
theorem join_f (l : List S65) (h : l.length ≤ 100000000) : sect_Join.f l = some (joinS l) := if_pos h
/-- One step of All. -/
theorem all_step (k : Nat) (s : ByteArray) (acc : List S65) (a : Int) (hs : s.size ≤ 1000000) (ha : a < (s.size : Int)) (hacc : acc.length < 5864062014805) :
    sect_All.l0 (k + 1) s acc a = if (sgetS s a).2.2.2 = 0 then sect_All.l0 k s (acc ++ [(⟨(sgetS s a).1, (sgetS s a).2.1⟩ : S65)]) (sgetS s a).2.2.1 else some (([] : List S65), a, (sgetS s a).2.2.2) := by
  simp only [sect_All.l0]
  rw [if_pos ha, get_f s a (by omega), Option.bind_some, if_pos hacc]
theorem all_end (k : Nat) (s : ByteArray) (acc : List S65) (a : Int) (ha : a = (s.size : Int)) : sect_All.l0 (k + 1) s acc a = some (acc, (s.size : Int), 0) := by
  simp only [sect_All.l0]
  rw [if_neg (by omega)]
/-- Sections that stand there are told, and it goes on behind them. -/
theorem all_enc (s : ByteArray) (hs : s.size ≤ 1000000) (l : List S65) : ∀ (k a : Nat) (acc : List S65) (r : List Nat), (∀ x ∈ l, Okay x) → (bs s).drop a = encL l ++ r → acc.length + l.length ≤ 1000000 →
    sect_All.l0 (l.length + k) s acc (a : Int) = sect_All.l0 k s (acc ++ l) ((a + (encL l).length : Nat) : Int) := by
  induction l with
  | nil => intro k a acc r _ _ _; simp [encL]
  | cons x l ih =>
    intro k a acc r hx hd hacc
    have h0 := hx x (by simp)
    rw [encL_cons, List.append_assoc] at hd
    rw [List.length_cons] at hacc
    have hg := sget_put (t := x.f0.toNat) (by have := h0.2.1; omega) h0.2.2 hd
    have e0 : ((x.f0.toNat : Nat) : Int) = x.f0 := by have := h0.1; omega
    have ha : a < s.size := by
      have h6 := secL_pos x.f0.toNat x.f1
      rcases Nat.lt_or_ge a s.size with h | h
      · exact h
      · have := congrArg List.length hd
        rw [List.length_drop, bs_size, List.length_append] at this
        omega
    rw [List.length_cons, show l.length + 1 + k = (l.length + k) + 1 by omega, all_step _ s acc _ hs (by omega) (by omega), hg, if_pos rfl]
    have := ih k (a + (secL x.f0.toNat x.f1).length) (acc ++ [x]) r (fun y hy => hx y (by simp [hy])) (drop_add hd) (by rw [List.length_append]; simp; omega)
    dsimp only
    rw [e0]
    rw [this, encL_cons, List.length_append, List.append_assoc, Nat.add_assoc]
    rfl
/-- WHATEVER THE BYTES: All tells the sections that they are, or where they are none. -/
theorem all_cases (s : ByteArray) (hs : s.size ≤ 100000) (d : Nat) : ∀ (a k : Nat) (acc : List S65), s.size - a ≤ d → d < k → a ≤ s.size → acc.length + d ≤ 1000000 →
    (∃ l : List S65, (∀ x ∈ l, Okay x) ∧ (bs s).drop a = encL l ∧ sect_All.l0 k s acc (a : Int) = some (acc ++ l, (s.size : Int), 0)) ∨
    (∃ (l : List S65) (r : List Nat) (b : Nat) (e : Int), (∀ x ∈ l, Okay x) ∧ (bs s).drop a = encL l ++ r ∧ b = a + (encL l).length ∧ b < s.size ∧ sgetS s (b : Int) = (0, ⟨#[]⟩, (b : Int), e) ∧ e ≠ 0 ∧ sect_All.l0 k s acc (a : Int) = some ([], (b : Int), e)) := by
  induction d with
  | zero =>
    intro a k acc h1 h2 h3 h4
    obtain ⟨k, rfl⟩ : ∃ m, k = m + 1 := ⟨k - 1, by omega⟩
    obtain rfl : a = s.size := by omega
    exact Or.inl ⟨[], by simp, by rw [List.drop_of_length_le (by rw [bs_size]; omega)]; rfl, by rw [all_end k s acc _ rfl, List.append_nil]⟩
  | succ d ih =>
    intro a k acc h1 h2 h3 h4
    obtain ⟨k, rfl⟩ : ∃ m, k = m + 1 := ⟨k - 1, by omega⟩
    by_cases ha : a = s.size
    · subst ha
      exact Or.inl ⟨[], by simp, by rw [List.drop_of_length_le (by rw [bs_size]; omega)]; rfl, by rw [all_end k s acc _ rfl, List.append_nil]⟩
    rw [all_step k s acc _ (by omega) (by omega) (by omega)]
    by_cases he : (sgetS s (a : Int)).2.2.2 = 0
    · obtain ⟨t, p, n, e, hg⟩ : ∃ t p n e, sgetS s (a : Int) = (t, p, n, e) := ⟨_, _, _, _, rfl⟩
      rw [hg] at he
      dsimp only at he
      subst he
      obtain ⟨a', t', r, e1, rfl, ht, hp, rfl, hd, hn⟩ := sget_back hg
      obtain rfl : a' = a := by omega
      have hpos := secL_pos t' p
      rw [hg, if_pos rfl]
      dsimp only
      have hO : Okay ⟨(t' : Int), p⟩ := ⟨by show 0 ≤ (t' : Int); omega, by show (t' : Int) ≤ 255; omega, hp⟩
      have hd2 := drop_add hd
      rcases ih (a' + (secL t' p).length) k (acc ++ [⟨(t' : Int), p⟩]) (by omega) (by omega) hn (by rw [List.length_append]; simp; omega) with ⟨l, hl, h5, h6⟩ | ⟨l, r', b, e, hl, h5, h6, h7, h8, h9, h10⟩
      · refine Or.inl ⟨⟨(t' : Int), p⟩ :: l, ?_, ?_, ?_⟩
        · intro x hx
          rw [List.mem_cons] at hx
          rcases hx with rfl | hx
          · exact hO
          · exact hl x hx
        · rw [encL_cons, hd, ← h5, hd2]
          rfl
        · rw [h6, List.append_assoc]; rfl
      · refine Or.inr ⟨⟨(t' : Int), p⟩ :: l, r', b, e, ?_, ?_, ?_, h7, h8, h9, h10⟩
        · intro x hx
          rw [List.mem_cons] at hx
          rcases hx with rfl | hx
          · exact hO
          · exact hl x hx
        · rw [encL_cons, List.append_assoc, hd, ← h5, hd2]
          rfl
        · rw [encL_cons, List.length_append, h6, Nat.add_assoc]
          rfl
    · rw [if_neg he]
      refine Or.inr ⟨[], (bs s).drop a, a, (sgetS s (a : Int)).2.2.2, by simp, by rw [encL_nil]; rfl, by rw [encL_nil]; rfl, by omega, sget_error he, he, rfl⟩
/-- A list is the same as itself. -/
theorem same_refl (l : List S65) (k : Nat) (h : l.length < k) (hl : l.length ≤ 1000000) : transhumanceref03_Same.f k l l = some true := by
  have key : ∀ (d i k : Nat), i + d = l.length → d < k → transhumanceref03_Same.l0 k l l (i : Int) = some true := by
    intro d
    induction d with
    | zero =>
      intro i k h1 h2
      obtain ⟨k, rfl⟩ : ∃ m, k = m + 1 := ⟨k - 1, by omega⟩
      simp only [transhumanceref03_Same.l0]
      rw [if_neg (by omega)]
    | succ d ih =>
      intro i k h1 h2
      obtain ⟨k, rfl⟩ : ∃ m, k = m + 1 := ⟨k - 1, by omega⟩
      simp only [transhumanceref03_Same.l0]
      rw [if_pos (by omega), if_pos (by omega), if_pos (by omega), if_neg (by simp), wrap_id (by omega) (by omega)]
      exact ih (i + 1) k (by omega) (by omega)
  unfold transhumanceref03_Same.f
  rw [if_pos rfl]
  exact key l.length 0 k (by omega) h
/-- Small tells that sections are few, and each small. -/
theorem small_f (l : List S65) (k : Nat) (h : 30 ≤ k) : ∃ b, transhumanceref03_Small.f k l = some b ∧ (b = true → l.length ≤ 10 ∧ ∀ i, i < l.length → (rd_T65 l (i : Int)).f1.size ≤ 300) := by
  unfold transhumanceref03_Small.f
  by_cases h10 : l.length ≤ 10
  · have key : ∀ (d i k : Nat), i + d = l.length → 2 * d + 2 ≤ k → (∀ j, j < i → (rd_T65 l (j : Int)).f1.size ≤ 300) → ∃ b, transhumanceref03_Small.l0 k l (i : Int) = some b ∧ (b = true → l.length ≤ 10 ∧ ∀ j, j < l.length → (rd_T65 l (j : Int)).f1.size ≤ 300) := by
      intro d
      induction d with
      | zero =>
        intro i k h1 h2 h3
        obtain ⟨k, rfl⟩ : ∃ m, k = m + 2 := ⟨k - 2, by omega⟩
        refine ⟨decide ((l.length : Int) ≤ 10), ?_, fun _ => ⟨h10, fun j hj => h3 j (by omega)⟩⟩
        simp only [transhumanceref03_Small.l0, transhumanceref03_Small.j1]
        rw [if_neg (by omega), if_neg (by decide)]
      | succ d ih =>
        intro i k h1 h2 h3
        obtain ⟨k, rfl⟩ : ∃ m, k = m + 2 := ⟨k - 2, by omega⟩
        simp only [transhumanceref03_Small.l0, transhumanceref03_Small.j1]
        rw [if_pos (by omega), if_pos (decide_eq_true (by omega)), if_pos (by omega), if_pos (by omega)]
        by_cases h4 : ((rd_T65 l (i : Int)).f1.size : Int) > 300
        · rw [if_pos h4]
          exact ⟨false, rfl, fun h => by cases h⟩
        · rw [if_neg h4, wrap_id (by omega) (by omega)]
          refine ih (i + 1) k (by omega) (by omega) (fun j hj => ?_)
          rcases Nat.lt_or_ge j i with h5 | h5
          · exact h3 j h5
          · obtain rfl : j = i := by omega
            omega
    exact key l.length 0 k (by omega) (by omega) (fun j hj => absurd hj (Nat.not_lt_zero j))
  · obtain ⟨k, rfl⟩ : ∃ m, k = m + 2 := ⟨k - 2, by omega⟩
    refine ⟨false, ?_, fun h => by cases h⟩
    simp only [transhumanceref03_Small.l0, transhumanceref03_Small.j1]
    rw [if_pos (by omega), decide_eq_false (show ¬ (l.length : Int) ≤ 10 by omega), if_neg (by decide)]
theorem rd_get (l : List S65) (i : Nat) (h : i < l.length) : rd_T65 l (i : Int) = l[i] := by
  unfold rd_T65
  rw [Int.toNat_natCast, List.getD_eq_getElem?_getD, List.getElem?_eq_getElem h]
  rfl
/-- What was joined, of sections that may be. -/
theorem bs_joined (l : List S65) (hl : ∀ x ∈ l, Okay x) (k : Nat) (hk : k ≤ l.length) : bs (joined (fun i => (rd_T65 l (i : Int)).f0) (fun i => (rd_T65 l (i : Int)).f1) k) = encL (l.take k) := by
  induction k with
  | zero => rfl
  | succ k ih =>
    simp only [joined]
    have h0 := hl l[k] (List.getElem_mem _)
    have e0 : ((l[k].f0.toNat : Nat) : Int) = l[k].f0 := by have := h0.1; omega
    rw [bs_append, ih (by omega), rd_get l k (by omega), List.take_succ_eq_append_getElem (by omega), encL_append, ← e0, bs_sec _ _ (by have := h0.2.1; omega) h0.2.2]
    congr 1
    rw [encL_cons, encL_nil, List.append_nil]
theorem bs_join (l : List S65) (hl : ∀ x ∈ l, Okay x) : bs (joinS l) = encL l := by
  unfold joinS
  rw [bs_joined l hl l.length (Nat.le_refl _), List.take_length]
theorem sec_le (t : Int) (p : ByteArray) : (secS t p).size ≤ p.size + 12 := by
  unfold secS
  by_cases h : t < 0 ∨ 255 < t ∨ 1048576 < (p.size : Int)
  · rw [if_pos h]; exact Nat.zero_le _
  rw [if_neg h]
  have e : (tag1 t).size = 1 := by unfold tag1; rw [strOfNums_size]; rfl
  have e7 : (putS (p.size : Int)).size ≤ 7 := put_le7 p.size (by omega)
  have e4 : (putF (sumS t p)).size ≤ 4 := by
    unfold putF
    split
    · exact Nat.zero_le 4
    · split
      · exact Nat.zero_le 4
      · rw [strOfNums_size]; exact Nat.le_refl 4
  rw [ByteArray.size_append, ByteArray.size_append, ByteArray.size_append, e]
  omega
theorem joined_le (T : Nat → Int) (P : Nat → ByteArray) (m n : Nat) (h : ∀ i, i < n → (P i).size ≤ m) : ∀ k, k ≤ n → (joined T P k).size ≤ (m + 12) * k := by
  intro k
  induction k with
  | zero => intro _; exact Nat.zero_le _
  | succ k ih =>
    intro hk
    simp only [joined]
    have := ih (by omega)
    have h1 := h k (by omega)
    have h2 := sec_le (T k) (P k)
    rw [ByteArray.size_append, Nat.mul_add]
    omega
end Go.Proofs.Ytaeocbbapnfcaaa.SectPure
