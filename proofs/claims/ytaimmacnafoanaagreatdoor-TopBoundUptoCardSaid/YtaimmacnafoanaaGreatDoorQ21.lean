/- The plain semantics of the program, and what it computes. -/
import Derived.Test.YtaimmacnafoanaaGreatDoorQ19
set_option linter.unusedVariables false
set_option linter.unusedSimpArgs false
set_option maxRecDepth 100000
namespace Go.Proofs.YtaimmacnafoanaaGreatDoor.F
section
open Go Go.RowKit Go.Proofs
theorem aIo:Ts XL 300 15 [mZ 7] TL7 HL7=some (TL8,HL8):=by kernel_rfl
end
end Go.Proofs.YtaimmacnafoanaaGreatDoor.F
