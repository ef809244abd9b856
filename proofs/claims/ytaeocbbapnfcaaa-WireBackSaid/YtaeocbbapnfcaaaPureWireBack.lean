/- WireBack: what was put is read, from where it stands, whatever stands ahead and behind; what is read of any bytes is the one number whose bytes stand there: of texts of at most 200 bytes each; else the fixed calls alone. -/
import Derived.Test.YtaeocbbapnfcaaaPWirex1
import Derived.Test.YtaeocbbapnfcaaaWireBackWalk
namespace Go.Proofs.Ytaeocbbapnfcaaa.Pure
open Go.RowKit Go.Proofs.Ytaeocbbapnfcaaa.PWire

theorem WireBack : transhumancelaw01_WireBack.Pure := fun a b n w _ _ _ => WireBackWalk.back_any a b n w

end Go.Proofs.Ytaeocbbapnfcaaa.Pure
