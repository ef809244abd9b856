/- The plain semantics of the program, and what it computes. -/
import Derived.Test.YtaimmacnafoanaaGreatDoorQ17
set_option linter.unusedVariables false
set_option linter.unusedSimpArgs false
set_option maxRecDepth 100000
namespace Go.Proofs.YtaimmacnafoanaaGreatDoor.F
section
open Go Go.RowKit Go.Proofs
theorem aLg {g:Gl}(hg:GlOk g):PC P0 g 168 [Zf,.int .i64 3] (.ret (.tup [M4V,.int .i64 0])):=eR hg (fb4 hg) 300 (by kernel_rfl)
theorem aLe {g:Gl}(hg:GlOk g):PC P0 g 18 [Y7V] (.ret (.bool true)):=eR hg (Nx hg) 300 (by kernel_rfl)
def FC1:List (FuncId×List V×Res):=(18,[Y7V],.ret (.bool true))::FA0
theorem fc1 {g:Gl}(hg:GlOk g):∀ x∈FC1,PC P0 g x.1 x.2.1 x.2.2:=eO (aLe hg) <| Nx hg
theorem aSt {g:Gl}(hg:GlOk g):PC P0 g 17 [Y7V] (.ret (.str [56,32,51,43,52,105])):=eR hg (fc1 hg) 300 (by kernel_rfl)
theorem aSn {g:Gl}(hg:GlOk g):PC P0 g 27 [M4V,.int .i64 20] (.ret Y7V):=by
 have h:=aJm g 20 (by decide) M4 1 aMq 7 (fun k hk=>by
  have h7:(List.range 7).all (fun k => !iQ 20 M4 k)=true:=by kernel_rfl
  simpa using List.all_eq_true.1 h7 k (List.mem_range.2 hk)) (by kernel_rfl) (by decide)
 rw[lY7]at h;exact h.wkDA lM4
end
end Go.Proofs.YtaimmacnafoanaaGreatDoor.F
