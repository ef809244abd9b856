/- CrcParts: the sum of two texts, one behind the other, is that of the second one rolled on from that of the first one; each sum is one of 32 bits; no text changes nothing: of texts of at most 500 bytes; else the fixed calls alone. -/
import Derived.Test.YtaeocbbapnfcaaaPCrcx1
import Derived.Test.YtaeocbbapnfcaaaCrcPure
namespace Go.Proofs.Ytaeocbbapnfcaaa.Pure
open Go.RowKit Go.Proofs.Ytaeocbbapnfcaaa.PCrc Go.Proofs.YtaeocbbapnfcaaaW.PrintWords Go.Proofs.YtaeocbbapnfcaaaW.PrintLast Crc CrcWalk CrcPure Base

theorem CrcParts : transhumancelaw02_CrcParts.Pure := by
  intro s t a hs ht _
  refine ⟨1, ?_⟩
  unfold transhumancelaw02_CrcParts.f
  rw [fixed_f]
  simp only [Option.bind_some, if_true]
  have hT : transhumancelaw02_CrcParts.j0 1 s t a true = some true := by
    simp only [transhumancelaw02_CrcParts.j0, if_true, fixed_f, Option.bind_some]
  by_cases h1 : (s.size : Int) > 500
  · rw [if_pos h1, hT]
  rw [if_neg h1]
  by_cases h2 : (t.size : Int) > 500
  · rw [if_pos h2, hT]
  rw [if_neg h2]
  by_cases h3 : a < 0
  · rw [if_pos h3, hT]
  rw [if_neg h3]
  by_cases h4 : a > 4294967295
  · rw [decide_eq_true h4, hT]
  rw [decide_eq_false h4]
  obtain ⟨n, rfl⟩ := Int.eq_ofNat_of_zero_le (show 0 ≤ a by omega)
  have hn : n < 4294967296 := by omega
  have hst : (s ++ t).size ≤ 140737488351232 := by rw [ByteArray.size_append]; omega
  simp only [transhumancelaw02_CrcParts.j0, Bool.false_eq_true, if_false]
  rw [roll_f _ _ hs, rollI_nat n s hn]
  simp only [Option.bind_some]
  have hl := sum_lt n (bys s)
  rw [if_pos (by omega), roll_f _ _ hst, rollI_nat n _ hn]
  simp only [Option.bind_some]
  rw [roll_f _ _ ht, rollI_nat _ t hl]
  simp only [Option.bind_some]
  rw [if_pos (by rw [sum_append n s t hn]), if_pos (by omega), if_pos (by omega), roll_f _ _ (by decide), rollI_nat _ _ hl]
  simp only [Option.bind_some]
  rw [if_pos (by rw [show bys (⟨#[]⟩ : ByteArray) = [] from rfl, sum_nil _ hl]), of_f _ hst, of_f _ hs]
  simp only [Option.bind_some]
  rw [roll_f _ _ ht]
  simp only [Option.bind_some]
  have e0 : ∀ u, rollI 0 u = ((sum 0 (bys u) : Nat) : Int) := fun u => rollI_nat 0 u (by decide)
  rw [e0, e0, rollI_nat _ t (sum_lt _ _), sum_append 0 s t (by decide)]
  simp

end Go.Proofs.Ytaeocbbapnfcaaa.Pure
