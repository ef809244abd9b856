/- The plain semantics of the program, and what it computes. -/
import Derived.Test.YtaimmacnafoanaaGreatDoorQ05
set_option linter.unusedVariables false
set_option linter.unusedSimpArgs false
set_option maxRecDepth 100000
namespace Go.Proofs.YtaimmacnafoanaaGreatDoor.F
section
open Go.Proofs.Tryz
open Go Go.RowKit Go.Proofs
theorem aUs:aV 10 f10=true:=by kernel_rfl
theorem aUq:aV 17 f17=true:=by kernel_rfl
theorem aUo:aV 21 f21=true:=by kernel_rfl
theorem aUk:aV 31 f31=true:=by kernel_rfl
theorem aUf:aV 47 f47=true:=by kernel_rfl
theorem aUc:aV 52 f52=true:=by kernel_rfl
theorem aTz:aV 64 f64=true:=by kernel_rfl
theorem aTy:aV 67 f67=true:=by kernel_rfl
theorem aTx:aV 69 f69=true:=by kernel_rfl
theorem aTs:aV 82 f82=true:=by kernel_rfl
theorem aTr:aV 86 f86=true:=by kernel_rfl
theorem aTp:aV 90 f90=true:=by kernel_rfl
theorem aQi:aV 103 f103=true:=by kernel_rfl
theorem aQe:aV 113 f113=true:=by kernel_rfl
theorem aQb:aV 121 f121=true:=by kernel_rfl
theorem aPp:aV 171 f171=true:=by kernel_rfl
theorem aPi:aV 179 f179=true:=by kernel_rfl
theorem aPh:aV 184 f184=true:=by kernel_rfl
theorem aOp:aV 237 f237=true:=by kernel_rfl
theorem aOn:aV 239 f239=true:=by kernel_rfl
theorem aOi:aV 247 f247=true:=by kernel_rfl
theorem aOd:aV 283 f283=true:=by kernel_rfl
theorem aOb:aV 286 f286=true:=by kernel_rfl
theorem aNz:aV 290 f290=true:=by kernel_rfl
theorem aNb:aV 349 f349=true:=by kernel_rfl
end
end Go.Proofs.YtaimmacnafoanaaGreatDoor.F
