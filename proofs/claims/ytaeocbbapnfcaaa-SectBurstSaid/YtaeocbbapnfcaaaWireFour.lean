/- Plain facts on four bytes: what was put is read, wherever it stands. -/
import Derived.Test.YtaeocbbapnfcaaaPWirex1
import Derived.Test.YtaeocbbapnfcaaaWireRead
namespace Go.Proofs.Ytaeocbbapnfcaaa.WirePlain
open Go.RowKit Go.Proofs.Ytaeocbbapnfcaaa.PWire Go.Proofs.YtaeocbbapnfcaaaW.PrintWords Go.Proofs.YtaeocbbapnfcaaaW.PrintLast Base PutWalk GetWalk FixedWalk BRow

/-- Four bytes as a number. -/
def four (l : List Nat) : Nat := l.getD 0 0 + l.getD 1 0 * 2 ^ 8 + l.getD 2 0 * 2 ^ 16 + l.getD 3 0 * 2 ^ 24
/-- What GetFixed tells. -/
def getF (s : ByteArray) (a : Int) : Int × Int × Int := if 0 ≤ a ∧ a ≤ (s.size : Int) then (if (s.size : Int) < a + 4 then (0, a, 10) else ((four ((bs s).drop a.toNat) : Nat), a + 4, 0)) else (0, a, 1)
theorem place_f (s : ByteArray) (a : Int) : wire_place.f s a = some (decide (0 ≤ a ∧ a ≤ (s.size : Int))) := by
  unfold wire_place.f
  by_cases h : a ≥ 0
  · rw [if_pos h]
    congr 1
    rw [decide_eq_decide]
    omega
  · rw [if_neg h]
    congr 1
    exact (decide_eq_false (by omega)).symm
theorem or_gen (n c sh : Nat) (hn : n < 2 ^ sh) (hc : c < 256) (hs : sh ≤ 24) : Go.bits .or .i64 (n : Int) ((c * 2 ^ sh : Nat) : Int) = ((n + c * 2 ^ sh : Nat) : Int) := by
  have h1 : 2 ^ sh ≤ 2 ^ 24 := Nat.pow_le_pow_right (by omega) hs
  have h2 : c * 2 ^ sh ≤ 255 * 2 ^ 24 := Nat.mul_le_mul (by omega) h1
  rw [i64_or n _ (by omega) (by omega), Nat.or_comm, nat_join sh _ _ (Nat.mul_mod_left _ _) hn, Nat.add_comm]
theorem gen_lt (n c sh : Nat) (hn : n < 2 ^ sh) (hc : c < 256) : n + c * 2 ^ sh < 2 ^ (sh + 8) := by
  rw [Nat.pow_add]
  have : (c + 1) * 2 ^ sh ≤ 256 * 2 ^ sh := Nat.mul_le_mul_right _ (by omega)
  rw [Nat.add_mul] at this
  omega
theorem bt_bs (s : ByteArray) (i : Nat) (h : i < s.size) : bt s (i : Int) = (((bs s).getD i 0 : Nat) : Int) := by
  have h1 := bt_at s (i : Int) (by simpa using h)
  have h2 : (bs s).getD i 0 = s[i].toNat := by
    rw [List.getD_eq_getElem?_getD, List.getElem?_eq_getElem (by rw [bs_size]; exact h)]
    simp [bs]
    rfl
  rw [h2]
  simpa using h1.symm
theorem bs_getD_lt (s : ByteArray) (i : Nat) : (bs s).getD i 0 < 256 := by
  rw [List.getD_eq_getElem?_getD]
  cases e : (bs s)[i]? with
  | none => simp
  | some y => exact bs_lt s y (List.mem_of_getElem? e)
theorem shl_int (c sh : Nat) (hc : c < 256) (hs : sh ≤ 24) : shl .i64 (c : Int) (sh : Int) = ((c * 2 ^ sh : Nat) : Int) := by
  have h1 : 2 ^ sh ≤ 2 ^ 24 := Nat.pow_le_pow_right (by omega) hs
  have h2 : c * 2 ^ sh ≤ 255 * 2 ^ 24 := Nat.mul_le_mul (by omega) h1
  unfold shl
  rw [Int.toNat_natCast, show min sh IntKind.i64.bits = sh by simp [IntKind.bits]; omega]
  have e : (c : Int) * 2 ^ sh = ((c * 2 ^ sh : Nat) : Int) := by simp
  rw [e]
  exact i64_wrap (by omega)
theorem fix_step (k : Nat) (s : ByteArray) (a n i : Nat) (hs : s.size ≤ 140737488351232) (ha : a + 4 ≤ s.size) (hi : i < 4) (hn : n < 2 ^ (8 * i)) :
    wire_GetFixed.l0 (k + 1) s (a : Int) (n : Int) (i : Int) = wire_GetFixed.l0 k s (a : Int) ((n + (bs s).getD (a + i) 0 * 2 ^ (8 * i) : Nat) : Int) ((i + 1 : Nat) : Int) := by
  have hc := bs_getD_lt s (a + i)
  have hb := bt_bs s (a + i) (by omega)
  have e1 : wrap64 ((a : Int) + (i : Int)) = ((a + i : Nat) : Int) := by rw [wrap_id (by omega) (by omega)]; omega
  have e2 : wrap64 (8 * (i : Int)) = ((8 * i : Nat) : Int) := by rw [wrap_id (by omega) (by omega)]; omega
  have e3 : wrap64 ((i : Int) + 1) = ((i + 1 : Nat) : Int) := by rw [wrap_id (by omega) (by omega)]; omega
  simp only [wire_GetFixed.l0]
  rw [e1, e2, e3, hb]
  generalize (bs s).getD (a + i) 0 = c at *
  have e4 : wrap64 ((c : Nat) : Int) = (c : Int) := wrap_id (by omega) (by omega)
  rw [if_pos (by omega), if_pos (by omega), if_pos (by omega), if_pos (by omega), e4, shl_int c (8 * i) hc (by omega), or_gen n c (8 * i) hn hc (by omega)]
theorem fix_end (k : Nat) (s : ByteArray) (a n : Nat) (hs : s.size ≤ 140737488351232) (ha : a + 4 ≤ s.size) :
    wire_GetFixed.l0 (k + 1) s (a : Int) (n : Int) ((4 : Nat) : Int) = some ((n : Int), (a : Int) + 4, 0) := by
  simp only [wire_GetFixed.l0]
  rw [if_neg (by omega), wrap_id (by omega) (by omega)]
theorem getD_drop (l : List Nat) (a i : Nat) : (l.drop a).getD i 0 = l.getD (a + i) 0 := by
  simp [List.getD_eq_getElem?_getD]
theorem fix_f (k : Nat) (s : ByteArray) (a : Int) (hs : s.size ≤ 140737488351232) (hk : 5 ≤ k) : wire_GetFixed.f k s a = some (getF s a) := by
  obtain ⟨k, rfl⟩ : ∃ j, k = j + 1 + 1 + 1 + 1 + 1 := ⟨k - 5, by omega⟩
  unfold wire_GetFixed.f getF
  rw [place_f, Option.bind_some]
  by_cases h : 0 ≤ a ∧ a ≤ (s.size : Int)
  · rw [if_pos h, decide_eq_true h, if_pos rfl]
    obtain ⟨a, rfl⟩ := Int.eq_ofNat_of_zero_le h.1
    rw [wrap_id (by omega) (by omega)]
    by_cases h4 : (s.size : Int) < (a : Int) + 4
    · rw [if_pos (by omega), if_pos h4]
    · rw [if_neg (by omega), if_neg h4]
      have ha : a + 4 ≤ s.size := by omega
      have q0 := bs_getD_lt s (a + 0)
      have q1 := bs_getD_lt s (a + 1)
      have q2 := bs_getD_lt s (a + 2)
      have s0 := fix_step (k + 1 + 1 + 1 + 1) s a 0 0 hs ha (by omega) (by omega)
      have s1 := fix_step (k + 1 + 1 + 1) s a (0 + (bs s).getD (a + 0) 0 * 2 ^ (8 * 0)) 1 hs ha (by omega) (gen_lt 0 _ 0 (by omega) q0)
      have s2 := fix_step (k + 1 + 1) s a (0 + (bs s).getD (a + 0) 0 * 2 ^ (8 * 0) + (bs s).getD (a + 1) 0 * 2 ^ (8 * 1)) 2 hs ha (by omega) (gen_lt _ _ 8 (gen_lt 0 _ 0 (by omega) q0) q1)
      have s3 := fix_step (k + 1) s a (0 + (bs s).getD (a + 0) 0 * 2 ^ (8 * 0) + (bs s).getD (a + 1) 0 * 2 ^ (8 * 1) + (bs s).getD (a + 2) 0 * 2 ^ (8 * 2)) 3 hs ha (by omega) (gen_lt _ _ 16 (gen_lt _ _ 8 (gen_lt 0 _ 0 (by omega) q0) q1) q2)
      have e0 : wire_GetFixed.l0 (k + 1 + 1 + 1 + 1 + 1) s (a : Int) 0 0 = wire_GetFixed.l0 (k + 1 + 1 + 1 + 1 + 1) s (a : Int) ((0 : Nat) : Int) ((0 : Nat) : Int) := rfl
      rw [e0, s0, s1, s2, s3, fix_end k s a _ hs ha, Int.toNat_natCast]
      unfold four
      rw [getD_drop, getD_drop, getD_drop, getD_drop]
      simp only [Nat.mul_zero, Nat.pow_zero, Nat.mul_one, Nat.zero_add]
  · rw [if_neg h, decide_eq_false h, if_neg (by decide)]
theorem four_put (n : Nat) (hn : n < 4294967296) (r : List Nat) : four ([byt n 0, byt n 1, byt n 2, byt n 3] ++ r) = n := by
  simp only [four, List.cons_append, List.nil_append, List.getD_cons_zero, List.getD_cons_succ, byt]
  omega
theorem putF_nat (n : Nat) (hn : n < 4294967296) : putF (n : Int) = text [byt n 0, byt n 1, byt n 2, byt n 3] := by
  rw [putF, if_neg (by omega), if_neg (by omega)]
  rfl
theorem putF_out (a : Int) (h : a < 0 ∨ 4294967295 < a) : putF a = ⟨#[]⟩ := by
  unfold putF
  by_cases h0 : a < 0
  · rw [if_pos h0]
  · rw [if_neg h0, if_pos (by omega)]
theorem byt_lt (n j : Nat) : byt n j < 256 := Nat.mod_lt _ (by omega)
theorem bs_putF (n : Nat) (hn : n < 4294967296) : bs (putF (n : Int)) = [byt n 0, byt n 1, byt n 2, byt n 3] := by
  rw [putF_nat n hn]
  refine text_bytes _ ?_
  intro x hx
  simp only [List.mem_cons, List.not_mem_nil, or_false] at hx
  rcases hx with rfl | rfl | rfl | rfl <;> exact byt_lt n _
theorem putF_size (n : Nat) (hn : n < 4294967296) : (putF (n : Int)).size = 4 := by rw [← bs_size, bs_putF n hn]; rfl
/-- GetFixed reads what PutFixed put, whatever stands ahead and behind. -/
theorem fix_put (a b : ByteArray) (n : Nat) (hn : n < 4294967296) : getF ((a ++ putF (n : Int)) ++ b) (a.size : Int) = ((n : Int), (a.size : Int) + 4, 0) := by
  have hs : ((a ++ putF (n : Int)) ++ b).size = a.size + 4 + b.size := by rw [ByteArray.size_append, ByteArray.size_append, putF_size n hn]
  rw [getF, if_pos ⟨by omega, by rw [hs]; omega⟩, if_neg (by rw [hs]; omega), Int.toNat_natCast, bs_append, bs_append, List.append_assoc, ← bs_size a, List.drop_left, bs_putF n hn, four_put n hn]
end Go.Proofs.Ytaeocbbapnfcaaa.WirePlain
