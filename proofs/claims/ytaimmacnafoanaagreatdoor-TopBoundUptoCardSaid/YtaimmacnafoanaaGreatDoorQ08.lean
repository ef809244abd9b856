/- The plain semantics of the program, and what it computes. -/
import Derived.Test.YtaimmacnafoanaaGreatDoorQ05
set_option linter.unusedVariables false
set_option linter.unusedSimpArgs false
set_option maxRecDepth 100000
namespace Go.Proofs.YtaimmacnafoanaaGreatDoor.F
section
open Go.Proofs.Tryz
open Go Go.RowKit Go.Proofs
theorem aUp:aV 20 f20=true:=by kernel_rfl
theorem aUn:aV 26 f26=true:=by kernel_rfl
theorem aUj:aV 35 f35=true:=by kernel_rfl
theorem aUi:aV 38 f38=true:=by kernel_rfl
theorem aUe:aV 48 f48=true:=by kernel_rfl
theorem aTw:aV 72 f72=true:=by kernel_rfl
theorem aTu:aV 77 f77=true:=by kernel_rfl
theorem aTo:aV 93 f93=true:=by kernel_rfl
theorem aPx:aV 141 f141=true:=by kernel_rfl
theorem aPr:aV 169 f169=true:=by kernel_rfl
theorem aPo:aV 172 f172=true:=by kernel_rfl
theorem aPl:aV 175 f175=true:=by kernel_rfl
theorem aOv:aV 211 f211=true:=by kernel_rfl
theorem aOt:aV 215 f215=true:=by kernel_rfl
theorem aOl:aV 244 f244=true:=by kernel_rfl
theorem aOe:aV 272 f272=true:=by kernel_rfl
theorem aOa:aV 289 f289=true:=by kernel_rfl
theorem aNv:aV 300 f300=true:=by kernel_rfl
theorem aNt:aV 310 f310=true:=by kernel_rfl
theorem aNj:aV 333 f333=true:=by kernel_rfl
theorem aNg:aV 342 f342=true:=by kernel_rfl
theorem aNf:aV 344 f344=true:=by kernel_rfl
theorem aNe:aV 345 f345=true:=by kernel_rfl
theorem aNc:aV 348 f348=true:=by kernel_rfl
theorem aMy:aV 368 f368=true:=by kernel_rfl
end
end Go.Proofs.YtaimmacnafoanaaGreatDoor.F
