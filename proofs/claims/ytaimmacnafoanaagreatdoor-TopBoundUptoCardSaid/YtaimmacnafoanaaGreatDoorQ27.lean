/- The plain semantics of the program, and what it computes. -/
import Derived.Test.YtaimmacnafoanaaGreatDoorQ14
set_option linter.unusedVariables false
set_option linter.unusedSimpArgs false
set_option maxRecDepth 100000
namespace Go.Proofs.YtaimmacnafoanaaGreatDoor.F
section
open Go Go.RowKit Go.Proofs
theorem aSq {g:Gl}(hg:GlOk g):PC P0 g 23 [.str LTX] (.ret (.tup [Yf,.int .i64 10,.int .i64 0])):=eR hg (Nx hg) 300 (by kernel_rfl)
end
end Go.Proofs.YtaimmacnafoanaaGreatDoor.F
