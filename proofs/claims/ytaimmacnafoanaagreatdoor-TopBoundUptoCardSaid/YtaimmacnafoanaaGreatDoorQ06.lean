/- The plain semantics of the program, and what it computes. -/
import Derived.Test.YtaimmacnafoanaaGreatDoorQ05
set_option linter.unusedVariables false
set_option linter.unusedSimpArgs false
set_option maxRecDepth 100000
namespace Go.Proofs.YtaimmacnafoanaaGreatDoor.F
section
open Go.Proofs.Tryz
open Go Go.RowKit Go.Proofs
theorem ck5:aV 5 f5=true:=by kernel_rfl
theorem aUr:aV 16 f16=true:=by kernel_rfl
theorem aUd:aV 50 f50=true:=by kernel_rfl
theorem aUa:aV 59 f59=true:=by kernel_rfl
theorem aTq:aV 88 f88=true:=by kernel_rfl
theorem aQj:aV 102 f102=true:=by kernel_rfl
theorem aQa:aV 123 f123=true:=by kernel_rfl
theorem aPv:aV 156 f156=true:=by kernel_rfl
theorem aPu:aV 159 f159=true:=by kernel_rfl
theorem aPt:aV 162 f162=true:=by kernel_rfl
theorem aPe:aV 191 f191=true:=by kernel_rfl
theorem aPd:aV 193 f193=true:=by kernel_rfl
theorem aPc:aV 194 f194=true:=by kernel_rfl
theorem aOx:aV 204 f204=true:=by kernel_rfl
theorem aOw:aV 206 f206=true:=by kernel_rfl
theorem aOu:aV 214 f214=true:=by kernel_rfl
theorem aOm:aV 242 f242=true:=by kernel_rfl
theorem aOk:aV 245 f245=true:=by kernel_rfl
theorem aOh:aV 252 f252=true:=by kernel_rfl
theorem aNx:aV 292 f292=true:=by kernel_rfl
theorem aNq:aV 313 f313=true:=by kernel_rfl
theorem aNo:aV 316 f316=true:=by kernel_rfl
theorem aNl:aV 327 f327=true:=by kernel_rfl
theorem aNd:aV 347 f347=true:=by kernel_rfl
theorem aMz:aV 364 f364=true:=by kernel_rfl
end
end Go.Proofs.YtaimmacnafoanaaGreatDoor.F
