/- CrcTells: the sum of any text, from any sum on, is as the document says: of texts of at most 500 bytes; of others the fixed calls alone. -/
import Derived.Test.YtaeocbbapnfcaaaPCrcx1
import Derived.Test.YtaeocbbapnfcaaaCrcRef
namespace Go.Proofs.Ytaeocbbapnfcaaa.Pure
open Go.RowKit Go.Proofs.Ytaeocbbapnfcaaa.PCrc Go.Proofs.YtaeocbbapnfcaaaW.PrintWords Go.Proofs.YtaeocbbapnfcaaaW.PrintLast Crc CrcWalk CrcPure Base CrcRef

theorem CrcTells : transhumancelaw02_CrcTells.Pure := by
  intro t a ht _
  refine ⟨t.size + 21, ?_⟩
  unfold transhumancelaw02_CrcTells.f
  rw [fixed_f, Option.bind_some]
  split
  · rfl
  · rw [Option.bind_some, if_pos rfl, of_f t ht, Option.bind_some, Of_f _ t ht (by omega), Option.bind_some, if_pos rfl, roll_f a t ht, Option.bind_some, Roll_f _ a t ht (by omega), Option.bind_some, beq_self_eq_true]

end Go.Proofs.Ytaeocbbapnfcaaa.Pure
