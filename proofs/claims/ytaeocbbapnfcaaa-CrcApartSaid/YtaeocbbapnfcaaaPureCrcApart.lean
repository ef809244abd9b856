/- CrcApart: two texts that go on alike have unlike sums just if they had unlike ones ahead of that: of texts of at most 200 bytes; else the fixed calls alone. -/
import Derived.Test.YtaeocbbapnfcaaaPCrcx2
import Derived.Test.YtaeocbbapnfcaaaCrcPure
namespace Go.Proofs.Ytaeocbbapnfcaaa.Pure
open Go.RowKit Go.Proofs.Ytaeocbbapnfcaaa.PCrc Go.Proofs.YtaeocbbapnfcaaaW.PrintWords Go.Proofs.YtaeocbbapnfcaaaW.PrintLast Crc CrcWalk CrcPure Base

theorem CrcApart : transhumancelaw02_CrcApart.Pure := by
  intro s t u hs ht hu
  refine ⟨1, ?_⟩
  unfold transhumancelaw02_CrcApart.f
  rw [fixed_f]
  simp only [Option.bind_some, if_true]
  have hT : transhumancelaw02_CrcApart.j0 1 s t u true = some true := by
    simp only [transhumancelaw02_CrcApart.j0, if_true, fixed_f, Option.bind_some]
  by_cases h1 : (s.size : Int) > 200
  · rw [if_pos h1, hT]
  rw [if_neg h1]
  by_cases h2 : (t.size : Int) > 200
  · rw [if_pos h2, hT]
  rw [if_neg h2]
  by_cases h3 : (u.size : Int) > 200
  · rw [decide_eq_true h3, hT]
  rw [decide_eq_false h3]
  have hsu : (s ++ u).size ≤ 140737488351232 := by rw [ByteArray.size_append]; omega
  have htu : (t ++ u).size ≤ 140737488351232 := by rw [ByteArray.size_append]; omega
  simp only [transhumancelaw02_CrcApart.j0, Bool.false_eq_true, if_false]
  rw [of_f _ hs, of_f _ ht]
  simp only [Option.bind_some]
  rw [if_pos (by omega), of_f _ hsu]
  simp only [Option.bind_some]
  rw [if_pos (by omega), of_f _ htu]
  simp only [Option.bind_some]
  have e0 : ∀ u, rollI 0 u = ((sum 0 (bys u) : Nat) : Int) := fun u => rollI_nat 0 u (by decide)
  rw [e0, e0, e0, e0, sum_append 0 s u (by decide), sum_append 0 t u (by decide)]
  have h := sum_same (sum 0 (bys s)) (sum 0 (bys t)) u (sum_lt _ _) (sum_lt _ _)
  generalize sum 0 (bys s) = x at *
  generalize sum 0 (bys t) = y at *
  generalize sum x (bys u) = p at *
  generalize sum y (bys u) = q at *
  have e : (((x : Int) == (y : Int)) == ((p : Int) == (q : Int))) = true := by
    rw [beq_iff_eq, Bool.eq_iff_iff]
    simp only [beq_iff_eq]
    omega
  rw [e]

end Go.Proofs.Ytaeocbbapnfcaaa.Pure
