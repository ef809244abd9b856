/- The plain semantics of the program, and what it computes. -/
import Derived.Test.YtaimmacnafoanaaGreatDoorQ14
set_option linter.unusedVariables false
set_option linter.unusedSimpArgs false
set_option maxRecDepth 100000
namespace Go.Proofs.YtaimmacnafoanaaGreatDoor.F
section
open Go Go.RowKit Go.Proofs
theorem aLc {g:Gl}(hg:GlOk g):PC P0 g 34 [Yf] (.ret (J 1072232203)):=eR hg (Nx hg) 300 (by kernel_rfl)
theorem aSs {g:Gl}(hg:GlOk g):PC P0 g 18 [Si] (.ret (.bool true)):=eR hg (Nx hg) 300 (by kernel_rfl)
def FA1:List (FuncId×List V×Res):=(18,[Si],.ret (.bool true))::FA0
theorem fa1 {g:Gl}(hg:GlOk g):∀ x∈FA1,PC P0 g x.1 x.2.1 x.2.2:=eO (aSs hg) <| Nx hg
theorem aSr {g:Gl}(hg:GlOk g):PC P0 g 20 [Si] (.ret P3V):=eR hg (fa1 hg) 300 (by kernel_rfl)
def FA2:List (FuncId×List V×Res):=(20,[Si],.ret P3V)::(34,[Yf],.ret (J 1072232203))::FA1
theorem fa2 {g:Gl}(hg:GlOk g):∀ x∈FA2,PC P0 g x.1 x.2.1 x.2.2:=eO (aSr hg) <| eO (aLc hg) <| fa1 hg
end
end Go.Proofs.YtaimmacnafoanaaGreatDoor.F
