/- The plain semantics of the program, and what it computes. -/
import Derived.Test.YtaimmacnafoanaaGreatDoorQ19
set_option linter.unusedVariables false
set_option linter.unusedSimpArgs false
set_option maxRecDepth 100000
namespace Go.Proofs.YtaimmacnafoanaaGreatDoor.F
section
open Go Go.RowKit Go.Proofs
theorem aIp:Ts XL 300 15 [mZ 2,mZ 3,mZ 4,mZ 5,mZ 6] TL2 HL2=some (TL7,HL7):=by kernel_rfl
end
end Go.Proofs.YtaimmacnafoanaaGreatDoor.F
