/- The plain semantics of the program, and what it computes. -/
import Derived.Test.YtaimmacnafoanaaGreatDoorQ16
import Derived.Test.YtaimmacnafoanaaGreatDoorQ25
import Derived.Test.YtaimmacnafoanaaGreatDoorQ26
import Derived.Test.YtaimmacnafoanaaGreatDoorQ27
set_option linter.unusedVariables false
set_option linter.unusedSimpArgs false
set_option maxRecDepth 100000
namespace Go.Proofs.YtaimmacnafoanaaGreatDoor.F
section
open Go Go.RowKit Go.Proofs
def PKV:V:=.imm [Yv ⟨0,0,false⟩,Yv ⟨0,0,false⟩,Yv ⟨1,0,false⟩]
theorem ok0:eV LP [⟨2,1⟩] 7 2 ⟨20,5,5⟩=true:=by kernel_rfl
theorem aSp {g:Gl}(hg:GlOk g):PC P0 g 25 [Yf,.imm [eVal ⟨2,1⟩],.int .i64 7,.int .i64 2,.agg [i64 20,i64 5,i64 5]] (.ret (.tup [W0V,.int .i64 0])):=by
 have h:=aJu g LP [⟨2,1⟩] 7 2 ⟨20,5,5⟩ tB.1 tB.2 (by decide);rw[if_pos ok0]at h;exact h.cast (by rw[lLP];rfl) (by rw[←lW0];rfl)
theorem lf9 {g:Gl}(hg:GlOk g):PC P0 g 9 [W0V,PKV] (.ret Si):=by
 have h:=pc9 g WL0 [⟨0,0,false⟩,⟨0,0,false⟩,⟨1,0,false⟩] (by decide) ((yZ ok0).oks _ (by decide));exact h.cast (by rw[lW0];rfl) (by rw[←lW3];rfl)
def FD1:List (FuncId×List V×Res):=(9,[W0V,PKV],.ret Si)::(10,[Si],.ret (.tup [.str IMG,.int .i64 0]))::(15,[Yf,.str IMG],.ret (.tup [Zf,.int .i64 73,.int .i64 0]))::(168,[Zf,.int .i64 3],.ret (.tup [M4V,.int .i64 0]))::FA0
theorem fd1 {g:Gl}(hg:GlOk g):∀ x∈FD1,PC P0 g x.1 x.2.1 x.2.2:=eO (lf9 hg) <| eO (aSy hg) <| eO (aSu hg) <| eO (aLg hg) <| Nx hg
theorem aSo {g:Gl}(hg:GlOk g):PC P0 g 26 [W0V,.imm [.agg [PKV,.int .i64 3]]] (.ret (.tup [M4V,.int .i64 1,.int .i64 0])):=eR hg (fd1 hg) 300 (by kernel_rfl)
def FD2:List (FuncId×List V×Res):=(23,[.str LTX],.ret (.tup [Yf,.int .i64 10,.int .i64 0]))::(25,[Yf,.imm [eVal ⟨2,1⟩],.int .i64 7,.int .i64 2,.agg [i64 20,i64 5,i64 5]],.ret (.tup [W0V,.int .i64 0]))::(26,[W0V,.imm [.agg [PKV,.int .i64 3]]],.ret (.tup [M4V,.int .i64 1,.int .i64 0]))::(27,[M4V,.int .i64 20],.ret Y7V)::(17,[Y7V],.ret (.str [56,32,51,43,52,105]))::FA0
theorem fd2 {g:Gl}(hg:GlOk g):∀ x∈FD2,PC P0 g x.1 x.2.1 x.2.2:=eO (aSq hg) <| eO (aSp hg) <| eO (aSo hg) <| eO (aSn hg) <| eO (aSt hg) <| Nx hg
theorem Cz {g:Gl}(hg:GlOk g):PC P0 g 8 [] (.ret (.bool true)):=eR hg (fd2 hg) 300 (by kernel_rfl)
end
end Go.Proofs.YtaimmacnafoanaaGreatDoor.F
