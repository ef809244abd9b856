/- The plain semantics of the program, and what it computes. -/
import Derived.Test.YtaimmacnafoanaaGreatDoorQ05
set_option linter.unusedVariables false
set_option linter.unusedSimpArgs false
set_option maxRecDepth 100000
namespace Go.Proofs.YtaimmacnafoanaaGreatDoor.F
section
open Go.Proofs.Tryz
open Go Go.RowKit Go.Proofs
theorem aUm:aV 28 f28=true:=by kernel_rfl
theorem aUl:aV 29 f29=true:=by kernel_rfl
theorem aUh:aV 44 f44=true:=by kernel_rfl
theorem aUg:aV 45 f45=true:=by kernel_rfl
theorem aUb:aV 53 f53=true:=by kernel_rfl
theorem aTt:aV 78 f78=true:=by kernel_rfl
theorem aQh:aV 106 f106=true:=by kernel_rfl
theorem aQg:aV 110 f110=true:=by kernel_rfl
theorem aQf:aV 111 f111=true:=by kernel_rfl
theorem aQc:aV 119 f119=true:=by kernel_rfl
theorem aPy:aV 135 f135=true:=by kernel_rfl
theorem aPw:aV 150 f150=true:=by kernel_rfl
theorem aPn:aV 173 f173=true:=by kernel_rfl
theorem aPm:aV 174 f174=true:=by kernel_rfl
theorem aPk:aV 176 f176=true:=by kernel_rfl
theorem aPj:aV 178 f178=true:=by kernel_rfl
theorem aPg:aV 187 f187=true:=by kernel_rfl
theorem aPf:aV 188 f188=true:=by kernel_rfl
theorem aOy:aV 201 f201=true:=by kernel_rfl
theorem aOr:aV 233 f233=true:=by kernel_rfl
theorem aOc:aV 285 f285=true:=by kernel_rfl
theorem aNy:aV 291 f291=true:=by kernel_rfl
theorem aNr:aV 312 f312=true:=by kernel_rfl
theorem aNi:aV 340 f340=true:=by kernel_rfl
theorem aNa:aV 351 f351=true:=by kernel_rfl
end
end Go.Proofs.YtaimmacnafoanaaGreatDoor.F
