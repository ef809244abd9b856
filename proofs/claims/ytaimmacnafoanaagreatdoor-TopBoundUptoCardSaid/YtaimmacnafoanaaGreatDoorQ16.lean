/- The plain semantics of the program, and what it computes. -/
import Derived.Test.YtaimmacnafoanaaGreatDoorQ15
set_option linter.unusedVariables false
set_option linter.unusedSimpArgs false
set_option maxRecDepth 100000
namespace Go.Proofs.YtaimmacnafoanaaGreatDoor.F
section
open Go Go.RowKit Go.Proofs
theorem aSx {g:Gl}(hg:GlOk g):PC P0 g 11 [Si] (.ret (.str S11)):=eR hg (fa2 hg) 300 (by kernel_rfl)
theorem aSw {g:Gl}(hg:GlOk g):PC P0 g 12 [Si] (.ret (.str S12)):=eR hg (fa2 hg) 300 (by kernel_rfl)
theorem aSv {g:Gl}(hg:GlOk g):PC P0 g 13 [Si] (.ret (.str S13)):=eR hg (fa2 hg) 300 (by kernel_rfl)
def FA3:List (FuncId×List V×Res):=(11,[Si],.ret (.str S11))::(12,[Si],.ret (.str S12))::(13,[Si],.ret (.str S13))::FA2
theorem fa3 {g:Gl}(hg:GlOk g):∀ x∈FA3,PC P0 g x.1 x.2.1 x.2.2:=eO (aSx hg) <| eO (aSw hg) <| eO (aSv hg) <| fa2 hg
theorem aSy {g:Gl}(hg:GlOk g):PC P0 g 10 [Si] (.ret (.tup [.str IMG,.int .i64 0])):=eR hg (fa3 hg) 300 (by kernel_rfl)
end
end Go.Proofs.YtaimmacnafoanaaGreatDoor.F
