/- CrcBurst: texts that are the same but within 32 bits side by side, and not the same there, have unlike sums: of at most 500 bytes, a bit of the text and 32 bits that are not all 0; else the fixed calls alone. -/
import Derived.Test.YtaeocbbapnfcaaaPCrcx1
import Derived.Test.YtaeocbbapnfcaaaCrcBurstWalk
namespace Go.Proofs.Ytaeocbbapnfcaaa.Pure
open Go.RowKit Go.Proofs.Ytaeocbbapnfcaaa.PCrc

theorem CrcBurst : transhumancelaw02_CrcBurst.Pure := fun s bit flips w _ _ _ => CrcBurstWalk.burst_any s bit flips w

end Go.Proofs.Ytaeocbbapnfcaaa.Pure
