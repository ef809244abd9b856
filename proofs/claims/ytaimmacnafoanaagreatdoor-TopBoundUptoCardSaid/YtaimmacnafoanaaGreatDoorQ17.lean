/- The plain semantics of the program, and what it computes. -/
import Derived.Test.YtaimmacnafoanaaGreatDoorQ15
set_option linter.unusedVariables false
set_option linter.unusedSimpArgs false
set_option maxRecDepth 100000
namespace Go.Proofs.YtaimmacnafoanaaGreatDoor.F
section
open Go Go.RowKit Go.Proofs
theorem aLf {g:Gl}(hg:GlOk g):PC P0 g 18 [Zf] (.ret (.bool true)):=eR hg (Nx hg) 300 (by kernel_rfl)
def FB1:List (FuncId×List V×Res):=(18,[Zf],.ret (.bool true))::FA0
theorem fb1 {g:Gl}(hg:GlOk g):∀ x∈FB1,PC P0 g x.1 x.2.1 x.2.2:=eO (aLf hg) <| Nx hg
theorem aLd {g:Gl}(hg:GlOk g):PC P0 g 20 [Zf] (.ret aQu):=eR hg (fb1 hg) 300 (by kernel_rfl)
def FB2:List (FuncId×List V×Res):=(20,[Zf],.ret aQu)::(34,[Yf],.ret (J 1072232203))::FB1
theorem fb2 {g:Gl}(hg:GlOk g):∀ x∈FB2,PC P0 g x.1 x.2.1 x.2.2:=eO (aLd hg) <| eO (aLc hg) <| fb1 hg
theorem aLj {g:Gl}(hg:GlOk g):PC P0 g 11 [Zf] (.ret (.str S11)):=eR hg (fb2 hg) 300 (by kernel_rfl)
theorem aLi {g:Gl}(hg:GlOk g):PC P0 g 12 [Zf] (.ret (.str S12)):=eR hg (fb2 hg) 300 (by kernel_rfl)
theorem aLh {g:Gl}(hg:GlOk g):PC P0 g 13 [Zf] (.ret (.str S13)):=eR hg (fb2 hg) 300 (by kernel_rfl)
def FB3:List (FuncId×List V×Res):=(11,[Zf],.ret (.str S11))::(12,[Zf],.ret (.str S12))::(13,[Zf],.ret (.str S13))::FB2
theorem fb3 {g:Gl}(hg:GlOk g):∀ x∈FB3,PC P0 g x.1 x.2.1 x.2.2:=eO (aLj hg) <| eO (aLi hg) <| eO (aLh hg) <| fb2 hg
theorem aLk {g:Gl}(hg:GlOk g):PC P0 g 10 [Zf] (.ret (.tup [.str IMG,.int .i64 0])):=eR hg (fb3 hg) 300 (by kernel_rfl)
def FB4:List (FuncId×List V×Res):=(10,[Zf],.ret (.tup [.str IMG,.int .i64 0]))::FB2
theorem fb4 {g:Gl}(hg:GlOk g):∀ x∈FB4,PC P0 g x.1 x.2.1 x.2.2:=eO (aLk hg) <| fb2 hg
end
end Go.Proofs.YtaimmacnafoanaaGreatDoor.F
