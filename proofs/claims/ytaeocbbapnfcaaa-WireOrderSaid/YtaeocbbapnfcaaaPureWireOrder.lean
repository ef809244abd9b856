/- WireOrder: of two numbers that are put the bytes are the same just if they are; a greater one has no fewer; a text that is put is as many bytes longer as tell how many it has: of numbers of 48 bits, the first one no greater than the second, and texts of at most 300 bytes; else the fixed calls alone. -/
import Derived.Test.YtaeocbbapnfcaaaPWirex3
import Derived.Test.YtaeocbbapnfcaaaWirePlain
namespace Go.Proofs.Ytaeocbbapnfcaaa.Pure
open Go.RowKit Go.Proofs.Ytaeocbbapnfcaaa.PWire Go.Proofs.YtaeocbbapnfcaaaW.PrintWords Go.Proofs.YtaeocbbapnfcaaaW.PrintLast PutWalk WirePlain Base

theorem put_f (a : Int) : wire_Put.f a = some (putS a) := rfl
theorem text_f (t : ByteArray) (h : (t.size : Int) ≤ 300) (h7 : (putS (t.size : Int)).size ≤ 7) : wire_PutText.f t = some (putS (t.size : Int) ++ t) := by
  unfold wire_PutText.f
  rw [if_neg (by omega), put_f, Option.bind_some, if_pos (by omega)]
theorem eq_put (m n : Nat) (hm : m < 281474976710656) (hn : n < 281474976710656) : (((putS (m : Int)).toList == (putS (n : Int)).toList) == ((m : Int) == (n : Int))) = true := by
  have h := put_inj m n hm hn
  generalize (putS (m : Int)).toList = p at *
  generalize (putS (n : Int)).toList = q at *
  rw [beq_iff_eq, Bool.eq_iff_iff]
  simp only [beq_iff_eq]
  rw [h]
  omega
theorem order_in (m n : Nat) (t : ByteArray) (hm : m < 281474976710656) (hn : n < 281474976710656) (h : m ≤ n) (ht : (t.size : Int) ≤ 300) : transhumancelaw01_WireOrder.j0 1 m n t false = some true := by
  have e1 := eq_put m n hm hn
  obtain ⟨x, y, hx, hy, h1, h2, h3, h4⟩ := sizes m n hm hn h
  obtain ⟨z, hz, h5, h6⟩ := size_one t.size (by omega)
  have et := text_f t ht (by omega)
  simp only [transhumancelaw01_WireOrder.j0, Bool.false_eq_true, if_false]
  rw [put_f, put_f, Option.bind_some, Option.bind_some, if_pos e1]
  clear e1
  generalize putS (m : Int) = p at *
  generalize putS (n : Int) = q at *
  rw [et, put_f, Option.bind_some, Option.bind_some, ByteArray.size_append]
  clear et
  generalize putS (t.size : Int) = r at *
  rw [hx, hy, hz, if_pos (by omega), if_pos (by omega), if_pos (by omega), if_pos (by rw [wrap_id (by omega) (by omega)]; omega)]
  have e2 : ((x : Int) == 1) = decide ((m : Int) < 128) := by
    rw [Bool.eq_iff_iff]
    simp only [beq_iff_eq, decide_eq_true_eq]
    omega
  rw [e2, beq_self_eq_true]

theorem WireOrder : transhumancelaw01_WireOrder.Pure := by
  intro m n t _ _ ht
  refine ⟨1, ?_⟩
  unfold transhumancelaw01_WireOrder.f
  have hf : transhumancelaw01_fixed.f = some true := rfl
  rw [hf, Option.bind_some, if_pos rfl]
  have hT : transhumancelaw01_WireOrder.j0 1 m n t true = some true := by
    simp only [transhumancelaw01_WireOrder.j0, if_true, hf, Option.bind_some]
  by_cases h1 : m < 0
  · rw [if_pos h1, hT]
  rw [if_neg h1]
  by_cases h2 : n < m
  · rw [if_pos h2, hT]
  rw [if_neg h2]
  by_cases h3 : n > 281474976710655
  · rw [if_pos h3, hT]
  rw [if_neg h3]
  by_cases h4 : (t.size : Int) > 300
  · rw [decide_eq_true h4, hT]
  rw [decide_eq_false h4]
  obtain ⟨m, rfl⟩ := Int.eq_ofNat_of_zero_le (show 0 ≤ m by omega)
  obtain ⟨n, rfl⟩ := Int.eq_ofNat_of_zero_le (show 0 ≤ n by omega)
  have hm : m < 281474976710656 := by omega
  have hn : n < 281474976710656 := by omega
  exact order_in m n t hm hn (by omega) (by omega)

end Go.Proofs.Ytaeocbbapnfcaaa.Pure
