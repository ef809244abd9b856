/- WireTexts: texts that were put, one behind the other, are read, one behind the other, and nothing is left; a number behind them is: of at most 20 texts of 300 bytes, and a number of 48 bits; else the fixed calls alone, or nothing. -/
import Derived.Test.YtaeocbbapnfcaaaPWirex3
import Derived.Test.YtaeocbbapnfcaaaWireRead
namespace Go.Proofs.Ytaeocbbapnfcaaa.Pure.Texts
open Go.RowKit Go.Proofs.Ytaeocbbapnfcaaa.PWire Go.Proofs.YtaeocbbapnfcaaaW.PrintWords Go.Proofs.YtaeocbbapnfcaaaW.PrintLast Base PutWalk GetWalk WirePlain

theorem put_f (a : Int) : wire_Put.f a = some (putS a) := rfl
theorem get_f (s : ByteArray) (a : Int) (h : s.size ≤ 140737488351232) : wire_Get.f s a = some (getI s a) := if_pos h
theorem text_f (t : ByteArray) (h : t.size ≤ 300) : wire_PutText.f t = some (putS (t.size : Int) ++ t) := by
  obtain ⟨y, h1, h2, h3⟩ := size_one t.size (by omega)
  unfold wire_PutText.f
  rw [if_neg (by omega), put_f, Option.bind_some, if_pos (by omega)]
theorem nil_append (t : ByteArray) : (⟨#[]⟩ : ByteArray) ++ t = t := ByteArray.empty_append
theorem append_nil (t : ByteArray) : t ++ (⟨#[]⟩ : ByteArray) = t := ByteArray.append_empty
/-- Texts, one behind the other. -/
def enc : List ByteArray → ByteArray
  | [] => ⟨#[]⟩
  | t :: l => (putS (t.size : Int) ++ t) ++ enc l
theorem enc_append (l m : List ByteArray) : enc (l ++ m) = enc l ++ enc m := by
  induction l with
  | nil => exact (nil_append _).symm
  | cons t l ih => rw [List.cons_append, enc, enc, ih, ByteArray.append_assoc, ByteArray.append_assoc, ByteArray.append_assoc]
theorem enc_size (l : List ByteArray) (h : ∀ t ∈ l, t.size ≤ 300) : (enc l).size ≤ 307 * l.length := by
  induction l with
  | nil => exact Nat.le_refl _
  | cons t l ih =>
    have h1 := h t (by simp)
    have h2 := ih (fun x hx => h x (by simp [hx]))
    obtain ⟨y, h3, h4, h5⟩ := size_one t.size (by omega)
    rw [enc, ByteArray.size_append, ByteArray.size_append, h3, List.length_cons]
    omega

/-- What a reader does with a text that stands where it is. -/
theorem text_step (k : Nat) (A t B : ByteArray) (h : t.size ≤ 300) (hs : ((A ++ putS (t.size : Int)) ++ (t ++ B)).size ≤ 140737488351232) :
    wire_Reader_Text.f (k + 1) (A.size : Int) 0 ((A ++ putS (t.size : Int)) ++ (t ++ B)) 300 = some (t, ((A ++ (putS (t.size : Int) ++ t)).size : Int), 0, (A ++ putS (t.size : Int)) ++ (t ++ B)) := by
  obtain ⟨y, h1, h2, h3⟩ := size_one t.size (by omega)
  have hg := get_put A (t ++ B) t.size (by omega)
  have hsz : ((A ++ putS (t.size : Int)) ++ (t ++ B)).size = A.size + y + (t.size + B.size) := by rw [ByteArray.size_append, ByteArray.size_append, ByteArray.size_append, h1]
  have hsz2 : (A ++ (putS (t.size : Int) ++ t)).size = A.size + (y + t.size) := by rw [ByteArray.size_append, ByteArray.size_append, h1]
  have hex : ((A ++ putS (t.size : Int)) ++ (t ++ B)).extract (A.size + y) (A.size + y + t.size) = t := by
    rw [← ByteArray.append_assoc]
    have e1 : (A ++ putS (t.size : Int)).size = A.size + y := by rw [ByteArray.size_append, h1]
    rw [ByteArray.append_assoc, ByteArray.extract_append, e1]
    rw [show A.size + y - (A.size + y) = 0 by omega, show A.size + y + t.size - (A.size + y) = t.size by omega, ByteArray.extract_append_size_left]
    rw [show (A ++ putS (t.size : Int)).extract (A.size + y) (A.size + y + t.size) = ByteArray.empty by rw [ByteArray.extract_eq_empty_iff, e1]; omega, ByteArray.empty_append, ByteArray.extract_zero_size]
  rw [h1] at hg
  generalize (A ++ putS (t.size : Int)) ++ (t ++ B) = s at *
  unfold wire_Reader_Text.f wire_Reader_stops.f
  rw [Option.bind_some, if_neg (show ¬ ((0 : Int) != 0) = true by decide)]
  unfold wire_Reader_number.f
  simp only [get_f s _ hs, hg, Option.bind_some]
  rw [if_pos trivial, if_neg (by omega), Option.bind_some]
  simp only
  rw [if_pos trivial, wrap_id (by omega) (by omega), decide_eq_false (by omega)]
  simp only [wire_Reader_Text.j0, wire_Reader_take.f]
  rw [if_neg (by decide), if_pos trivial, Option.bind_some, if_pos rfl, wrap_id (by omega) (by omega)]
  dsimp only
  rw [if_pos (by omega), if_pos (by omega), if_pos (by omega)]
  simp only [Int.toNat_natCast]
  rw [show (((A.size + y : Nat) : Int) + (t.size : Int)).toNat = A.size + y + t.size by omega, hex, hsz2]
  congr 3
  omega
/-- What a reader does with the number that is last. -/
theorem last_step (A : ByteArray) (n : Nat) (hn : n < 281474976710656) (hs : (A ++ putS (n : Int)).size ≤ 140737488351232) :
    wire_Reader_Number.f (A.size : Int) 0 (A ++ putS (n : Int)) (n : Int) = some ((n : Int), ((A ++ putS (n : Int)).size : Int), 0, A ++ putS (n : Int)) := by
  obtain ⟨y, h1, h2, h3⟩ := size_one n hn
  have hg := get_put A ⟨#[]⟩ n hn
  have hsz : (A ++ putS (n : Int)).size = A.size + y := by rw [ByteArray.size_append, h1]
  rw [append_nil, h1] at hg
  rw [hsz] at hs ⊢
  generalize A ++ putS (n : Int) = s at *
  unfold wire_Reader_Number.f wire_Reader_stops.f
  rw [Option.bind_some, if_neg (show ¬ ((0 : Int) != 0) = true by decide)]
  unfold wire_Reader_number.f
  simp only [get_f s _ (by omega), hg, Option.bind_some]
  rw [if_pos trivial, if_neg (by omega), Option.bind_some]
  simp only [wire_Reader_take.f]
  rw [if_pos trivial, Option.bind_some, if_pos rfl]
theorem rd_at (l : List ByteArray) (i : Nat) (h : i < l.length) : rdOf ByteArray.empty l (i : Int) = l[i] := by
  simp [rdOf, h]
/-- The texts are read, one behind the other. -/
theorem read_all (l : List ByteArray) (n : Nat) (hn : n < 281474976710656) (hl : l.length ≤ 20) (h3 : ∀ t ∈ l, t.size ≤ 300) (d : Nat) : ∀ k i, i + d = l.length → d + 3 < k →
    transhumancelaw01_WireTexts.l1 k l (n : Int) (i : Int) ((enc (l.take i)).size : Int) 0 (enc l ++ putS (n : Int)) = some true := by
  have hes := enc_size l h3
  obtain ⟨y, h1, h2, h4⟩ := size_one n hn
  have hss : (enc l ++ putS (n : Int)).size ≤ 140737488351232 := by rw [ByteArray.size_append]; omega
  induction d with
  | zero =>
    intro k i hi hk
    obtain ⟨k, rfl⟩ : ∃ m, k = m + 1 := ⟨k - 1, by omega⟩
    simp only [transhumancelaw01_WireTexts.l1]
    rw [if_neg (by omega), List.take_of_length_le (by omega), last_step (enc l) n hn hss, Option.bind_some]
    simp only [wire_Reader_Error.f, wire_Reader_Left.f, wire_Reader_stops.f, Option.bind_some]
    rw [if_pos trivial, if_pos trivial, if_neg (by decide), Option.bind_some, wrap_id (by omega) (by omega)]
    simp
  | succ d ih =>
    intro k i hi hk
    obtain ⟨k, rfl⟩ : ∃ m, k = m + 1 + 1 := ⟨k - 2, by omega⟩
    have hlt : i < l.length := by omega
    have ht := h3 l[i] (List.getElem_mem hlt)
    have e1 : enc l ++ putS (n : Int) = (enc (l.take i) ++ putS (l[i].size : Int)) ++ (l[i] ++ (enc (l.drop (i + 1)) ++ putS (n : Int))) := by
      conv => lhs; rw [← List.take_append_drop i l, List.drop_eq_getElem_cons hlt, enc_append, enc]
      simp only [ByteArray.append_assoc]
    have e2 : enc (l.take (i + 1)) = enc (l.take i) ++ (putS (l[i].size : Int) ++ l[i]) := by
      rw [List.take_succ_eq_append_getElem hlt, enc_append, enc, enc, append_nil]
    simp only [transhumancelaw01_WireTexts.l1]
    rw [if_pos (by omega), e1, text_step k (enc (l.take i)) l[i] _ ht (by rw [← e1]; exact hss), Option.bind_some, if_pos (by omega), rd_at l i hlt, if_pos rfl, ← e2, ← e1]
    have e3 : wrap64 ((i : Int) + 1) = ((i + 1 : Nat) : Int) := by rw [wrap_id (by omega) (by omega)]; omega
    rw [e3]
    exact ih (k + 1) (i + 1) (by omega) (by omega)
/-- The texts are put, one behind the other. -/
theorem put_all (l : List ByteArray) (n : Nat) (hn : n < 281474976710656) (hl : l.length ≤ 20) (d : Nat) : ∀ k i, i + d = l.length → d + 30 < k → (∀ t ∈ l.take i, t.size ≤ 300) →
    transhumancelaw01_WireTexts.l0 k l (n : Int) (enc (l.take i)) (i : Int) = some true := by
  obtain ⟨y, h1, h2, h4⟩ := size_one n hn
  induction d with
  | zero =>
    intro k i hi hk h3
    obtain ⟨k, rfl⟩ : ∃ m, k = m + 1 := ⟨k - 1, by omega⟩
    rw [List.take_of_length_le (by omega)] at h3 ⊢
    have hes := enc_size l h3
    simp only [transhumancelaw01_WireTexts.l0]
    rw [if_neg (by omega), put_f, Option.bind_some, if_pos (by omega)]
    have hN : wire_New.f (enc l ++ putS (n : Int)) = some (0, 0, enc l ++ putS (n : Int)) := rfl
    rw [hN, Option.bind_some]
    have := read_all l n hn hl h3 l.length k 0 (by omega) (by omega)
    exact this
  | succ d ih =>
    intro k i hi hk h3
    obtain ⟨k, rfl⟩ : ∃ m, k = m + 1 := ⟨k - 1, by omega⟩
    have hlt : i < l.length := by omega
    simp only [transhumancelaw01_WireTexts.l0]
    rw [if_pos (by omega), if_pos (by omega), rd_at l i hlt]
    by_cases ht : (l[i].size : Int) > 300
    · rw [if_pos ht]
    · have ht' : l[i].size ≤ 300 := by omega
      have e2 : enc (l.take (i + 1)) = enc (l.take i) ++ (putS (l[i].size : Int) ++ l[i]) := by
        rw [List.take_succ_eq_append_getElem hlt, enc_append, enc, enc, append_nil]
      have h3' : ∀ t ∈ l.take (i + 1), t.size ≤ 300 := by
        intro t hx
        rw [List.take_succ_eq_append_getElem hlt, List.mem_append, List.mem_singleton] at hx
        rcases hx with hx | rfl
        · exact h3 t hx
        · exact ht'
      have hes := enc_size _ h3'
      rw [List.length_take, e2, ByteArray.size_append] at hes
      have e3 : wrap64 ((i : Int) + 1) = ((i + 1 : Nat) : Int) := by rw [wrap_id (by omega) (by omega)]; omega
      have hfit : (enc (l.take i)).size + (putS (l[i].size : Int) ++ l[i]).size ≤ 9223372036854775807 :=
        Nat.le_trans hes (Nat.le_trans (Nat.mul_le_mul_left 307 (Nat.le_trans (Nat.min_le_right _ _) hl)) (by decide))
      clear hes
      rw [if_neg ht, text_f _ ht', Option.bind_some, if_pos hfit, ← e2, e3]
      exact ih k (i + 1) (by omega) (by omega) h3'
theorem start (k : Nat) (l : List ByteArray) (n : Int) (hk : 51 < k) : transhumancelaw01_WireTexts.f (k + 1) l n = some true := by
  unfold transhumancelaw01_WireTexts.f
  have hf : transhumancelaw01_fixed.f = some true := rfl
  have hT : transhumancelaw01_WireTexts.j0 (k + 1) l n true = some true := by
    simp only [transhumancelaw01_WireTexts.j0, if_true, hf, Option.bind_some]
  rw [hf, Option.bind_some, if_pos rfl]
  by_cases h1 : (l.length : Int) > 20
  · rw [if_pos h1, hT]
  rw [if_neg h1]
  by_cases h2 : n < 0
  · rw [if_pos h2, hT]
  rw [if_neg h2]
  by_cases h3 : n > 281474976710655
  · rw [decide_eq_true h3, hT]
  rw [decide_eq_false h3]
  obtain ⟨m, rfl⟩ := Int.eq_ofNat_of_zero_le (show 0 ≤ n by omega)
  have h := put_all l m (by omega) (by omega) l.length k 0 (by omega) (by omega) (fun t ht => by simp at ht)
  have e : enc (l.take 0) = (⟨#[]⟩ : ByteArray) := rfl
  rw [e] at h
  simp only [transhumancelaw01_WireTexts.j0, Bool.false_eq_true, if_false]
  exact h
theorem texts (l : List ByteArray) (n : Int) : ∃ k, transhumancelaw01_WireTexts.f k l n = some true := ⟨_, start 60 l n (by omega)⟩
end Go.Proofs.Ytaeocbbapnfcaaa.Pure.Texts
