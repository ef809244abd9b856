/- CrcAlone: of three texts of as many bytes the sums' exclusive or is the sum of the texts' exclusive or: of at most 200 bytes each; else the fixed calls alone. -/
import Derived.Test.YtaeocbbapnfcaaaPCrcx1
import Derived.Test.YtaeocbbapnfcaaaCrcAloneWalk
namespace Go.Proofs.Ytaeocbbapnfcaaa.Pure
open Go.RowKit Go.Proofs.Ytaeocbbapnfcaaa.PCrc

theorem CrcAlone : transhumancelaw02_CrcAlone.Pure := fun a b c w _ _ _ => CrcAloneWalk.alone_any a b c w

end Go.Proofs.Ytaeocbbapnfcaaa.Pure
