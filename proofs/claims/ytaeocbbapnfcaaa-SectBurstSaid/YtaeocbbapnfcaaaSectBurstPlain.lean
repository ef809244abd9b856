/- Plain facts: a section in whose payload bits are turned, within 32 side by side, is none, by its sum, but where all is as it was. -/
import Derived.Test.YtaeocbbapnfcaaaSectPure
import Derived.Test.YtaeocbbapnfcaaaCrcBurstPlain
set_option linter.unusedVariables false
set_option linter.unusedSimpArgs false
namespace Go.Proofs.Ytaeocbbapnfcaaa.SectBurstPlain
open Go.RowKit Go.Proofs.Ytaeocbbapnfcaaa.PSect Go.Proofs.YtaeocbbapnfcaaaW.PrintWords Base PutWalk GetWalk FixedWalk BRow WirePlain SectOnes SectSays SectPlain SectJoinWalk SectPure CrcWalk CrcSums Crc

theorem flip_cons (t : Nat) (l : List Nat) (i : Nat) : flip1 (t :: l) (i + 8) = t :: flip1 l i := by
  unfold flip1
  rw [show (i + 8) / 8 = i / 8 + 1 by omega, show (i + 8) % 8 = i % 8 by omega]
  rfl
theorem burst_cons (t : Nat) (l : List Nat) (bit flips k : Nat) : burst (t :: l) (bit + 8) flips k = t :: burst l bit flips k := by
  induction k with
  | zero => rfl
  | succ k ih =>
    simp only [burst]
    by_cases h : flips.testBit k = true ∧ bit + k < 8 * l.length
    · rw [if_pos h, if_pos ⟨h.1, by rw [List.length_cons]; omega⟩, ih, show bit + 8 + k = (bit + k) + 8 by omega, flip_cons]
    · rw [if_neg h, if_neg (fun h' => h ⟨h'.1, by have := h'.2; rw [List.length_cons] at this; omega⟩), ih]
/-- The bytes of a section, its payload's bits turned so far. -/
def turned (t : Nat) (p : ByteArray) (bit flips k : Nat) : List Nat := (t :: vput 7 p.size) ++ (burst (bs p) bit flips k ++ fourL (sumN t p))
/-- Where the payload begins. -/
def from_ (p : ByteArray) : Nat := 1 + (vput 7 p.size).length
theorem turned_length (t : Nat) (p : ByteArray) (bit flips k : Nat) : (turned t p bit flips k).length = from_ p + p.size + 4 := by
  unfold turned from_
  rw [List.length_append, List.length_append, burst_length, bs_size, List.length_cons]
  have : (fourL (sumN t p)).length = 4 := rfl
  omega
theorem turned_zero (t : Nat) (p : ByteArray) (bit flips : Nat) : turned t p bit flips 0 = secL t p := by
  unfold turned secL burst
  rfl
theorem turned_no (t : Nat) (p : ByteArray) (bit flips k : Nat) (h : ¬ (flips.testBit k = true ∧ bit + k < 8 * p.size)) : turned t p bit flips (k + 1) = turned t p bit flips k := by
  unfold turned
  simp only [burst, bs_size]
  rw [if_neg h]
theorem turned_yes (t : Nat) (p : ByteArray) (bit flips k : Nat) (h : flips.testBit k = true ∧ bit + k < 8 * p.size) :
    turned t p bit flips (k + 1) = (turned t p bit flips k).set (from_ p + (bit + k) / 8) ((turned t p bit flips k).getD (from_ p + (bit + k) / 8) 0 ^^^ 2 ^ ((bit + k) % 8)) := by
  have hl : (t :: vput 7 p.size).length = from_ p := by unfold from_; rw [List.length_cons]; omega
  have hb : (bit + k) / 8 < (burst (bs p) bit flips k).length := by rw [burst_length, bs_size]; omega
  unfold turned
  simp only [burst, bs_size]
  rw [if_pos h, flip1]
  rw [List.set_append_right _ _ (by omega), hl, Nat.add_sub_cancel_left, List.set_append_left _ _ hb]
  congr 2
  congr 1
  rw [List.getD_eq_getElem?_getD, List.getD_eq_getElem?_getD, List.getElem?_append_right (by omega), hl, Nat.add_sub_cancel_left, List.getElem?_append_left hb]
theorem turned_lt (t : Nat) (p : ByteArray) (bit flips k : Nat) (ht : t < 256) (hp : p.size < 281474976710656) : ∀ x ∈ turned t p bit flips k, x < 256 := by
  intro x hx
  unfold turned at hx
  rcases List.mem_append.1 hx with hx | hx
  · rw [List.mem_cons] at hx
    rcases hx with rfl | hx
    · exact ht
    · exact vput_byte 7 p.size (lt48 hp) x hx
  · rcases List.mem_append.1 hx with hx | hx
    · exact burst_lt _ _ _ _ (bs_lt p) x hx
    · simp only [fourL, List.mem_cons, List.not_mem_nil, or_false] at hx
      rcases hx with rfl | rfl | rfl | rfl <;> exact byt_lt _ _
/-- THE PLAIN LAW of SectBurst. -/
theorem burst_sect (t : Nat) (p : ByteArray) (bit flips : Nat) (ht : t < 256) (hp : p.size ≤ 300) (hb : bit < 8 * p.size) (u : ByteArray) (hu : u = text (turned t p bit flips 32)) :
    (u.toList = (secS (t : Int) p).toList ∧ (sgetS u 0).2.2.2 = 0) ∨ (¬ u.toList = (secS (t : Int) p).toList ∧ (sgetS u 0).2.2.2 = 30) := by
  have hbu : bs u = turned t p bit flips 32 := by rw [hu]; exact text_bytes _ (turned_lt t p bit flips 32 ht (by omega))
  have hbs := bs_sec t p ht (by omega)
  by_cases he : burst (bs p) bit flips 32 = bs p
  · left
    have e : bs u = secL t p := by rw [hbu, turned, he]; rfl
    refine ⟨(bs_inj _ _).1 (by rw [e, hbs]), ?_⟩
    have hd : (bs u).drop 0 = secL t p ++ [] := by rw [List.append_nil]; exact e
    have := sget_put ht (by omega) hd
    rw [show ((0 : Nat) : Int) = 0 from rfl] at this
    rw [this]
  · right
    have hne : ¬ u.toList = (secS (t : Int) p).toList := by
      intro h
      have h1 := (bs_inj _ _).2 h
      rw [hbu, hbs] at h1
      unfold turned secL at h1
      simp only [List.cons_append, List.cons.injEq, true_and] at h1
      have h2 := List.append_cancel_left h1
      exact he (List.append_cancel_right h2)
    refine ⟨hne, ?_⟩
    -- the payload that stands there now
    have hql : (burst (bs p) bit flips 32).length = p.size := by rw [burst_length, bs_size]
    obtain ⟨q, hq⟩ : ∃ q : ByteArray, q = text (burst (bs p) bit flips 32) := ⟨_, rfl⟩
    have hbq : bs q = burst (bs p) bit flips 32 := by rw [hq]; exact text_bytes _ (burst_lt _ _ _ _ (bs_lt p))
    have hqs : q.size = p.size := by rw [← bs_size, hbq, hql]
    have hsum : sumN t p ≠ sumN t q := by
      intro h
      unfold sumN at h
      rw [hbq, ← burst_cons] at h
      have hx : ∀ x ∈ t :: bs p, x < 256 := by
        intro x hx
        rw [List.mem_cons] at hx
        rcases hx with rfl | hx
        · exact ht
        · exact bs_lt p x hx
      have := (burst_sum (t :: bs p) (bit + 8) flips hx (by rw [List.length_cons, bs_size]; omega)).1 h.symm
      rw [burst_cons] at this
      injection this with _ h2
      exact he h2
    have hd0 : (bs u).drop 0 = t :: (vput 7 p.size ++ (bs q ++ fourL (sumN t p))) := by rw [List.drop_zero, hbu, hbq]; rfl
    obtain ⟨ha, hbt, h1⟩ := drop_cons hd0
    rw [Nat.zero_add] at h1
    have hg := getI_put (n := p.size) (by omega) (by omega) h1
    have h2 := drop_add h1
    have h3 := drop_add h2
    have hz := drop_size h1 (by omega)
    simp only [List.length_append, bs_size] at hz h3
    have e4 : (fourL (sumN t p)).length = 4 := rfl
    have h3' : (bs u).drop (1 + (vput 7 p.size).length + q.size) = fourL (sumN t p) ++ [] := by rw [h3, List.append_nil]
    have hf := getF_put (sumN_lt t p) (by omega) h3'
    have hex : u.extract (1 + (vput 7 p.size).length) (1 + (vput 7 p.size).length + q.size) = q := by
      apply bs_ext
      rw [bs_extract, h2, Nat.add_sub_cancel_left, ← bs_size q, List.take_left]
    have e0 : ((0 : Nat) : Int) = 0 := rfl
    rw [e0] at hbt
    have ee : (((1 + (vput 7 p.size).length : Nat) : Int) + (p.size : Int)).toNat = 1 + (vput 7 p.size).length + q.size := by omega
    have hg' : getI u (0 + 1) = ((p.size : Int), ((1 + (vput 7 p.size).length : Nat) : Int), 0) := by rw [← hg]; rfl
    have hf' : getF u (((1 + (vput 7 p.size).length : Nat) : Int) + (p.size : Int)) = ((sumN t p : Int), ((1 + (vput 7 p.size).length + q.size : Nat) : Int) + 4, 0) := by
      rw [← hf]
      congr 1
      omega
    rw [sget_other (Int.le_refl 0) (by omega) hg' (by omega) (by omega) hf' ?_]
    rw [hbt, sumS_nat t _ ht, ee, Int.toNat_natCast, hex]
    intro h
    exact hsum (by omega)
end Go.Proofs.Ytaeocbbapnfcaaa.SectBurstPlain
