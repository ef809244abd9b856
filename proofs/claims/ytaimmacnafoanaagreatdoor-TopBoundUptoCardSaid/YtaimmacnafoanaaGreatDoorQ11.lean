/- The plain semantics of the program, and what it computes. -/
import Derived.Test.YtaimmacnafoanaaGreatDoorQ06
import Derived.Test.YtaimmacnafoanaaGreatDoorQ07
import Derived.Test.YtaimmacnafoanaaGreatDoorQ08
import Derived.Test.YtaimmacnafoanaaGreatDoorQ09
import Derived.Test.YtaimmacnafoanaaGreatDoorQ10
import Derived.Test.YtaimmacnafoanaaGreatDoorQ02
import Derived.Shelf.Strings.Builder1
import Derived.Lib.UnsafeStr
import Derived.OneCell
import Derived.Shelf.Spec.SlicesGrow
import Derived.Ground.Names8Prog
import Derived.Test.YtaimmacnafoanaaGreatDoorProg
import Derived.WalkKit
import Derived.KernelRfl
import Derived.Below
import Derived.IntWalk
import Derived.Deep.LoopGhost
import Derived.Deep.WholeRow
import Derived.Laws.BitsAllLaws
import Derived.Test.YtaimmacnafoanaaGreatDoorQ04
set_option linter.unusedVariables false
set_option linter.unusedSimpArgs false
set_option maxRecDepth 100000
namespace Go.Proofs.YtaimmacnafoanaaGreatDoor.F
section
open Go Go.RowKit Go.Proofs
theorem Ww:Db.AllP fun k fn=>aV k fn=true:=⟨rfl,⟨rfl,⟨rfl,⟨aUl,⟨aUq,⟨aUs,⟨ck7,⟨ck5,⟨ck4,trivial,trivial⟩,trivial⟩,⟨rfl,⟨rfl,trivial,trivial⟩,trivial⟩⟩,⟨rfl,⟨rfl,⟨rfl,trivial,trivial⟩,trivial⟩,⟨aUr,⟨rfl,trivial,trivial⟩,trivial⟩⟩⟩,⟨rfl,⟨aUo,⟨aUp,⟨rfl,trivial,trivial⟩,trivial⟩,⟨rfl,⟨rfl,trivial,trivial⟩,trivial⟩⟩,⟨rfl,⟨aUn,⟨rfl,trivial,trivial⟩,trivial⟩,⟨aUm,trivial,trivial⟩⟩⟩⟩,⟨aUh,⟨aUj,⟨rfl,⟨aUk,⟨rfl,trivial,trivial⟩,trivial⟩,⟨rfl,⟨rfl,trivial,trivial⟩,trivial⟩⟩,⟨aUi,⟨rfl,⟨rfl,trivial,trivial⟩,trivial⟩,⟨rfl,trivial,trivial⟩⟩⟩,⟨aUd,⟨aUf,⟨rfl,⟨aUg,trivial,trivial⟩,trivial⟩,⟨rfl,⟨aUe,trivial,trivial⟩,trivial⟩⟩,⟨aUb,⟨aUc,⟨rfl,trivial,trivial⟩,trivial⟩,⟨rfl,trivial,trivial⟩⟩⟩⟩⟩,⟨aTu,⟨rfl,⟨rfl,⟨rfl,⟨rfl,⟨rfl,trivial,trivial⟩,trivial⟩,⟨rfl,⟨aUa,trivial,trivial⟩,trivial⟩⟩,⟨aTz,⟨rfl,⟨rfl,trivial,trivial⟩,trivial⟩,⟨rfl,trivial,trivial⟩⟩⟩,⟨aTw,⟨aTx,⟨rfl,⟨aTy,trivial,trivial⟩,trivial⟩,⟨rfl,⟨rfl,trivial,trivial⟩,trivial⟩⟩,⟨rfl,⟨aTv,⟨rfl,trivial,trivial⟩,trivial⟩,⟨rfl,trivial,trivial⟩⟩⟩⟩,⟨aTq,⟨rfl,⟨rfl,⟨rfl,⟨aTt,trivial,trivial⟩,trivial⟩,⟨aTs,⟨rfl,trivial,trivial⟩,trivial⟩⟩,⟨aTr,⟨rfl,⟨rfl,trivial,trivial⟩,trivial⟩,⟨rfl,trivial,trivial⟩⟩⟩,⟨rfl,⟨rfl,⟨aTp,⟨rfl,trivial,trivial⟩,trivial⟩,⟨aTo,⟨rfl,trivial,trivial⟩,trivial⟩⟩,⟨rfl,⟨rfl,⟨rfl,trivial,trivial⟩,trivial⟩,⟨rfl,trivial,trivial⟩⟩⟩⟩⟩⟩,⟨rfl,⟨aQa,⟨rfl,⟨rfl,⟨rfl,⟨aQi,⟨aQj,trivial,trivial⟩,trivial⟩,⟨aQh,⟨rfl,trivial,trivial⟩,trivial⟩⟩,⟨aQg,⟨rfl,⟨rfl,trivial,trivial⟩,trivial⟩,⟨aQf,trivial,trivial⟩⟩⟩,⟨aQd,⟨rfl,⟨rfl,⟨aQe,trivial,trivial⟩,trivial⟩,⟨rfl,⟨rfl,trivial,trivial⟩,trivial⟩⟩,⟨aQb,⟨rfl,⟨aQc,trivial,trivial⟩,trivial⟩,⟨rfl,trivial,trivial⟩⟩⟩⟩,⟨rfl,⟨rfl,⟨rfl,⟨rfl,⟨rfl,trivial,trivial⟩,trivial⟩,⟨rfl,⟨rfl,trivial,trivial⟩,trivial⟩⟩,⟨rfl,⟨rfl,⟨aPz,trivial,trivial⟩,trivial⟩,⟨rfl,trivial,trivial⟩⟩⟩,⟨rfl,⟨rfl,⟨rfl,⟨aPy,trivial,trivial⟩,trivial⟩,⟨rfl,⟨rfl,trivial,trivial⟩,trivial⟩⟩,⟨rfl,⟨rfl,⟨aPx,trivial,trivial⟩,trivial⟩,⟨rfl,trivial,trivial⟩⟩⟩⟩⟩,⟨aPs,⟨aPv,⟨rfl,⟨rfl,⟨rfl,⟨rfl,trivial,trivial⟩,trivial⟩,⟨aPw,⟨rfl,trivial,trivial⟩,trivial⟩⟩,⟨rfl,⟨rfl,⟨rfl,trivial,trivial⟩,trivial⟩,⟨rfl,trivial,trivial⟩⟩⟩,⟨aPt,⟨aPu,⟨rfl,⟨rfl,trivial,trivial⟩,trivial⟩,⟨rfl,⟨rfl,trivial,trivial⟩,trivial⟩⟩,⟨rfl,⟨rfl,⟨rfl,trivial,trivial⟩,trivial⟩,⟨rfl,trivial,trivial⟩⟩⟩⟩,⟨aPj,⟨aPn,⟨aPq,⟨aPr,⟨rfl,trivial,trivial⟩,trivial⟩,⟨aPo,⟨aPp,trivial,trivial⟩,trivial⟩⟩,⟨aPk,⟨aPl,⟨aPm,trivial,trivial⟩,trivial⟩,⟨rfl,trivial,trivial⟩⟩⟩,⟨aPg,⟨rfl,⟨rfl,⟨aPi,trivial,trivial⟩,trivial⟩,⟨aPh,⟨rfl,trivial,trivial⟩,trivial⟩⟩,⟨rfl,⟨rfl,⟨aPf,trivial,trivial⟩,trivial⟩,⟨aPe,trivial,trivial⟩⟩⟩⟩⟩⟩⟩,⟨aOd,⟨aOp,⟨aOt,⟨aOx,⟨rfl,⟨rfl,⟨aPc,⟨aPd,trivial,trivial⟩,trivial⟩,⟨aPa,⟨aPb,trivial,trivial⟩,trivial⟩⟩,⟨aOy,⟨aOz,⟨rfl,trivial,trivial⟩,trivial⟩,⟨rfl,⟨rfl,trivial,trivial⟩,trivial⟩⟩⟩,⟨rfl,⟨rfl,⟨aOw,⟨rfl,trivial,trivial⟩,trivial⟩,⟨rfl,⟨rfl,trivial,trivial⟩,trivial⟩⟩,⟨rfl,⟨rfl,⟨aOv,trivial,trivial⟩,trivial⟩,⟨aOu,trivial,trivial⟩⟩⟩⟩,⟨rfl,⟨aOs,⟨rfl,⟨rfl,⟨rfl,trivial,trivial⟩,trivial⟩,⟨rfl,⟨rfl,trivial,trivial⟩,trivial⟩⟩,⟨rfl,⟨rfl,⟨rfl,trivial,trivial⟩,trivial⟩,⟨rfl,trivial,trivial⟩⟩⟩,⟨rfl,⟨rfl,⟨rfl,⟨rfl,trivial,trivial⟩,trivial⟩,⟨rfl,⟨rfl,trivial,trivial⟩,trivial⟩⟩,⟨rfl,⟨rfl,⟨aOr,trivial,trivial⟩,trivial⟩,⟨aOq,trivial,trivial⟩⟩⟩⟩⟩,⟨rfl,⟨rfl,⟨rfl,⟨rfl,⟨aOn,⟨aOo,trivial,trivial⟩,trivial⟩,⟨aOm,⟨rfl,trivial,trivial⟩,trivial⟩⟩,⟨aOj,⟨aOk,⟨aOl,trivial,trivial⟩,trivial⟩,⟨aOi,trivial,trivial⟩⟩⟩,⟨rfl,⟨rfl,⟨rfl,⟨rfl,trivial,trivial⟩,trivial⟩,⟨rfl,⟨aOh,trivial,trivial⟩,trivial⟩⟩,⟨aOg,⟨rfl,⟨rfl,trivial,trivial⟩,trivial⟩,⟨rfl,trivial,trivial⟩⟩⟩⟩,⟨rfl,⟨rfl,⟨rfl,⟨rfl,⟨rfl,trivial,trivial⟩,trivial⟩,⟨rfl,⟨aOf,trivial,trivial⟩,trivial⟩⟩,⟨rfl,⟨rfl,⟨rfl,trivial,trivial⟩,trivial⟩,⟨rfl,trivial,trivial⟩⟩⟩,⟨rfl,⟨rfl,⟨rfl,⟨aOe,trivial,trivial⟩,trivial⟩,⟨rfl,⟨rfl,trivial,trivial⟩,trivial⟩⟩,⟨rfl,⟨rfl,⟨rfl,trivial,trivial⟩,trivial⟩,⟨rfl,trivial,trivial⟩⟩⟩⟩⟩⟩,⟨aNk,⟨rfl,⟨rfl,⟨aOa,⟨aOb,⟨aOc,⟨rfl,trivial,trivial⟩,trivial⟩,⟨rfl,⟨rfl,trivial,trivial⟩,trivial⟩⟩,⟨aNx,⟨aNy,⟨aNz,trivial,trivial⟩,trivial⟩,⟨rfl,trivial,trivial⟩⟩⟩,⟨aNv,⟨rfl,⟨rfl,⟨rfl,trivial,trivial⟩,trivial⟩,⟨rfl,⟨aNw,trivial,trivial⟩,trivial⟩⟩,⟨rfl,⟨rfl,⟨rfl,trivial,trivial⟩,trivial⟩,⟨rfl,trivial,trivial⟩⟩⟩⟩,⟨aNo,⟨aNs,⟨rfl,⟨aNu,⟨rfl,trivial,trivial⟩,trivial⟩,⟨aNt,⟨rfl,trivial,trivial⟩,trivial⟩⟩,⟨rfl,⟨aNq,⟨aNr,trivial,trivial⟩,trivial⟩,⟨aNp,trivial,trivial⟩⟩⟩,⟨rfl,⟨rfl,⟨aNm,⟨aNn,trivial,trivial⟩,trivial⟩,⟨rfl,⟨rfl,trivial,trivial⟩,trivial⟩⟩,⟨rfl,⟨rfl,⟨rfl,trivial,trivial⟩,trivial⟩,⟨aNl,trivial,trivial⟩⟩⟩⟩⟩,⟨rfl,⟨rfl,⟨rfl,⟨rfl,⟨rfl,⟨rfl,trivial,trivial⟩,trivial⟩,⟨aNj,⟨rfl,trivial,trivial⟩,trivial⟩⟩,⟨rfl,⟨rfl,⟨rfl,trivial,trivial⟩,trivial⟩,⟨rfl,trivial,trivial⟩⟩⟩,⟨aNe,⟨aNg,⟨aNh,⟨aNi,trivial,trivial⟩,trivial⟩,⟨aNf,⟨rfl,trivial,trivial⟩,trivial⟩⟩,⟨aNc,⟨aNd,⟨rfl,trivial,trivial⟩,trivial⟩,⟨aNb,trivial,trivial⟩⟩⟩⟩,⟨rfl,⟨rfl,⟨rfl,⟨rfl,⟨aNa,trivial,trivial⟩,trivial⟩,⟨rfl,⟨rfl,trivial,trivial⟩,trivial⟩⟩,⟨rfl,⟨rfl,⟨rfl,trivial,trivial⟩,trivial⟩,⟨rfl,trivial,trivial⟩⟩⟩,⟨aMy,⟨rfl,⟨aMz,⟨rfl,trivial,trivial⟩,trivial⟩,⟨rfl,⟨rfl,trivial,trivial⟩,trivial⟩⟩,⟨rfl,⟨rfl,⟨rfl,trivial,trivial⟩,trivial⟩,⟨aMx,trivial,trivial⟩⟩⟩⟩⟩⟩⟩⟩
end
section
open Go.Proofs.Tryz
open Go Go.RowKit
theorem Ps:(Tryz.prog.info? 88).map (·.size)=some 2:=by kernel_rfl
theorem Ak:(Tryz.prog.info? 5).map (fun i=>(i.zero,i.size,i.bytes))=some (some (.int .u8 0),1,1):=by kernel_rfl
theorem aBf {t:TypeId}(h:qR t=true):t=88∨t=90:=by simpa[qR]using h
theorem Eu {t:TypeId}(h:qR t=true):liesAt Tryz.prog Tryz.prog.depth t (2 / Tryz.prog.cellsOf t) 0 88 1=true:=by
 rcases aBf h with rfl|rfl<;>kernel_rfl
theorem Do (b:Nat)(w:World)(h0:w.cell? ⟨b,0,none⟩=some (.pointer (some ⟨b,0,none⟩))) :
 Calls Tryz.prog 94 #[.pointer (some ⟨b,0,none⟩)] w fun e w'=>e = .returned (.tuple #[])∧w'=w:=by
 obtain⟨j,hj,_⟩:=Option.map_eq_some_iff.1 Ps
 go_enter func94,ntmps94
 go_wp2
 rw[Lib.run_neq_ptr_same w _ underlying86 hj]
 go_wp2
 go_end0
 exact⟨rfl,rfl⟩
theorem Fi (b:Nat)(t:TypeId)(ht:qR t=true)(w:World)(h0:w.cell? ⟨b,0,none⟩=some (.pointer none))(hsh:w.shape? b=some (t,2))(hfz:w.frozen? ⟨b,0,none⟩=false) :
 Calls Tryz.prog 94 #[.pointer (some ⟨b,0,none⟩)] w fun e w'=>e = .returned (.tuple #[])∧w'=w.setCell ⟨b,0,none⟩ (.pointer (some ⟨b,0,none⟩)):=by
 obtain⟨j,hj,hjs⟩:=Option.map_eq_some_iff.1 Ps
 go_enter func94,ntmps94
 go_wp2
 rw[Lib.run_to_unsafe w ⟨b,0,none⟩ underlying86 underlying266 hj (by rw[hjs];decide) hsh (Nat.zero_lt_succ 1)];simp only[Result.andThen];rw[Oper.upon_value]
 go_wp2
 rw[run_callFunc_extern func180 (by kernel_rfl) (by kernel_rfl) (by kernel_rfl) (e:=Extern.AbiNoEscape.same) (by kernel_rfl)];rw[Lib.run_noEscape];simp only[Result.andThen];rw[Oper.upon_value]
 go_wp2
 rw[Lib.run_from_unsafe w ⟨b,0,none⟩ underlying266 underlying86 hj hsh (Eu ht)];simp only[Result.andThen];rw[Oper.upon_value]
 go_wp2
 go_end0
 exact⟨rfl,rfl⟩
def xV (w w':World)(v v':Value):Prop:=∀ X,v'.ownBlock=some X→v.ownBlock=some X∨(w.heap.size≤X∧X < w'.heap.size)
theorem Hd {w w':World}{B:Nat}{e:TypeId}{s n:Nat}{v v':Value}{xs:List Value}(ho:w'.ownsRow B e s v' n xs)(h:∀ X,v'.ownBlock=some X→v.ownBlock=some X∨X=w.heap.size):xV w w' v v':=by
 intro X hX;rcases h X hX with h1|h1
 ·exact .inl h1
 ·refine .inr ⟨by omega,?_⟩;exact(ho.lt X hX).2
theorem aBl {P:Program}{w:World}(base:Nat)(t u ty e:TypeId)(i:TypeInfo)(ht:P.underlying t=some (.slice e))(hu:P.underlying u=some .string)(hi:P.info? e=some i)(hz:i.zero=some (.int .u8 0))(hsize:i.size=1)(hby:i.bytes=1)
 (v:Value)(n:Nat)(xs:List Value)(hown:w.ownsRow base e 1 v n xs)(s:ByteArray)(h63:n+s.size≤maxLen)(hbytes:n+s.size≤140737488355328)(hbase:base≤w.heap.size) :
 ∃ v' w',(Builtin.append_ #[t,u] ty #[v,.string s]).run P w = .ok v' w'∧w'.ownsRow base e 1 v' (n+s.size) (xs++Lib.strCells s)∧w.grownBy w' v.ownBlock∧xV w w' v v':=by
 obtain⟨v',w',hr,h2,h3,h4⟩:=Lib.run_append_own_string (P:=P) w base t u ty e i ht hu hi hz hsize hby v n xs hown s h63 hbytes hbase;refine⟨v',w',hr,h2,h3,Hd h2 fun X hX=>?_⟩;have hsm:n+s.size≤9223372036854775807:=by simp only[maxLen]at h63;omega
 rcases hown.2 with ⟨rfl,rfl⟩|⟨g,cap,cur,rfl,hbg,hg,hnc,hcm,hcs,htake⟩
 ·by_cases h0:s.size=0
  ·rw[h4.2 ⟨rfl,h0⟩]at hX;cases hX
  ·have hr2:=run_append_nil_string (P:=P) w t u ty e i (.int .u8 0) ht hu hi hz s (by omega) (by omega) (by rw[hby];omega);rw[hr]at hr2;cases hr2;exact .inr (Option.some.inj hX).symm
 ·by_cases hroom:n+s.size≤cap
  ·have hr2:=Lib.run_append_room_string (P:=P) w t u ty e i ht hu hi hsize g n cap cur hg s hroom (by omega);rw[hr]at hr2;cases hr2;exact .inl hX
  ·have holds:∀ j u,xs[j]?=some u→w.cell? ((⟨g,0,none⟩:Addr).add j)=some u:=hown.cells (g:=g) rfl;have hr2:=Lib.run_append_grow_string (P:=P) w t u ty e i (.int .u8 0) ht hu hi hz ⟨g,0,none⟩ n cap xs (by rw[hsize];exact hown.1) holds s (by omega) (by omega) (by rw[hby];exact growslice_fits (by omega) (by omega));rw[hr]at hr2;cases hr2;exact .inr (Option.some.inj hX).symm
theorem aBm {P:Program}{w:World}(base:Nat)(t ty e:TypeId)(i:TypeInfo)(z:Value)(ht:P.underlying t=some (.slice e))(hi:P.info? e=some i)(hz:i.zero=some z)(hsize:i.size=1)(hby:i.bytes=1)(hzs:z.cells.size=1)
 (v:Value) (n:Nat) (xs:List Value) (hown:w.ownsRow base e 1 v n xs) (a:Addr) (m c:Nat) (news:List Value) (hl:news.length=m*1) (hnews:∀ j u,news[j]?=some u→w.cell? (a.add j)=some u) (h1:∀ u∈news,u.oneCell'=true)
 (h63:n+m≤maxLen)(hbytes:(n+m)*1≤140737488355328)(hbase:base≤w.heap.size) :
 ∃ v' w',(Builtin.append_ #[t,t] ty #[v,.slice (some a) m c]).run P w = .ok v' w'∧w'.ownsRow base e 1 v' (n+m) (xs++news)∧w.grownBy w' v.ownBlock∧xV w w' v v':=by
 obtain⟨v',w',hr,h2,h3,h4⟩:=run_append_own (P:=P) w base t ty e i z 1 1 ht hi hz hsize hby hzs (by decide) v n xs hown a m c news hl hnews h1 h63 hbytes hbase;refine⟨v',w',hr,h2,h3,Hd h2 fun X hX=>?_⟩;have hsm:n+m≤9223372036854775807:=by simp only[maxLen]at h63;omega
 rcases hown.2 with ⟨rfl,rfl⟩|⟨g,cap,cur,rfl,hbg,hg,hnc,hcm,hcs,htake⟩
 ·by_cases h0:m=0
  ·rw[h4.2 ⟨rfl,h0⟩]at hX;cases hX
  ·have hr2:=run_append_nil (P:=P) w t ty e i z ht hi hz a m c news (by rw[hsize];exact hl) hnews (by omega) (by omega) (by rw[hby];omega);rw[hr]at hr2;cases hr2;exact .inr (Option.some.inj hX).symm
 ·by_cases hroom:n+m≤cap
  ·have hr2:=run_append_room (P:=P) w t ty e i ht hi g n cap cur hg a m c news (by rw[hsize];exact hl) hnews h1 hroom (by rw[hsize];omega);rw[hr]at hr2;cases hr2;exact .inl hX
  ·have holds:∀ j u,xs[j]?=some u→w.cell? ((⟨g,0,none⟩:Addr).add j)=some u:=hown.cells (g:=g) rfl;have hr2:=run_append_grow (P:=P) w t ty e i z ht hi hz ⟨g,0,none⟩ n cap xs (by rw[hsize];exact hown.1) holds a m c news (by rw[hsize];exact hl) hnews (by omega) (by omega) (by rw[hby];exact growslice_fits (by omega) (by omega));rw[hr]at hr2;cases hr2;exact .inr (Option.some.inj hX).symm
theorem Vb {P:Program}{w:World}{ops:Array Oper}{rest:List Oper}{o:Oper}{a:Go.Act}{Q:Exit→Go.Act→World→Prop}(hgd:o.guard=none)(sl x:Operand)(t u:TypeId)(ho:o.op = .call {callee:=.builtin .append,args:=#[sl,x],argTypes:=#[t,u]})
 (base:Nat) (e:TypeId) (i:TypeInfo) (ht:P.underlying t=some (.slice e)) (hu:P.underlying u=some .string) (hi:P.info? e=some i) (hz:i.zero=some (.int .u8 0)) (hsize:i.size=1) (hby:i.bytes=1)
 (v:Value) (n:Nat) (xs:List Value) (hs:a.eval sl=v) (hown:w.ownsRow base e 1 v n xs) (s:ByteArray) (hx:a.eval x = .string s) (h63:n+s.size≤maxLen) (hbytes:n+s.size≤140737488355328) (hbase:base≤w.heap.size)
 (h:∀ v' w',w'.ownsRow base e 1 v' (n+s.size) (xs++Lib.strCells s)→w.grownBy w' v.ownBlock→xV w w' v v'→wpList P ops Q rest (a.put o.dst v') w'):wpList P ops Q (o::rest) a w:=by
 refine wpList_plain hgd fun K hK=>?_;obtain⟨v',w',hr,h2,h3,h4⟩:=aBl (P:=P) (w:=w) base t u o.type e i ht hu hi hz hsize hby v n xs hown s h63 hbytes hbase;unfold Oper.wp execOp;simp only[ho,resolve,invoke,builtin,Sem.run_bind,Sem.run_pure,Result.andThen_ok,List.map_toArray,List.map_cons,List.map_nil,hs,hx,hr];exact hK _ _ (h v' w' h2 h3 h4)
theorem Wb {P:Program}{w:World}{ops:Array Oper}{rest:List Oper}{o:Oper}{a:Go.Act}{Q:Exit→Go.Act→World→Prop}(hgd:o.guard=none)(sl x:Operand)(t:TypeId)(ho:o.op = .call {callee:=.builtin .append,args:=#[sl,x],argTypes:=#[t,t]})
 (base:Nat) (e:TypeId) (i:TypeInfo) (z:Value) (ht:P.underlying t=some (.slice e)) (hi:P.info? e=some i) (hz:i.zero=some z) (hsize:i.size=1) (hby:i.bytes=1) (hzs:z.cells.size=1)
 (v:Value) (n:Nat) (xs:List Value) (hs:a.eval sl=v) (hown:w.ownsRow base e 1 v n xs) (ad:Addr) (m c:Nat) (news:List Value) (hx:a.eval x = .slice (some ad) m c) (hl:news.length=m*1) (hnews:∀ j u,news[j]?=some u→w.cell? (ad.add j)=some u) (h1:∀ u∈news,u.oneCell'=true)
 (h63:n+m≤maxLen) (hbytes:(n+m)*1≤140737488355328) (hbase:base≤w.heap.size)
 (h:∀ v' w',w'.ownsRow base e 1 v' (n+m) (xs++news)→w.grownBy w' v.ownBlock→xV w w' v v'→wpList P ops Q rest (a.put o.dst v') w'):wpList P ops Q (o::rest) a w:=by
 refine wpList_plain hgd fun K hK=>?_;obtain⟨v',w',hr,h2,h3,h4⟩:=aBm (P:=P) (w:=w) base t o.type e i z ht hi hz hsize hby hzs v n xs hown ad m c news hl hnews h1 h63 hbytes hbase;unfold Oper.wp execOp;simp only[ho,resolve,invoke,builtin,Sem.run_bind,Sem.run_pure,Result.andThen_ok,List.map_toArray,List.map_cons,List.map_nil,hs,hx,hr];exact hK _ _ (h v' w' h2 h3 h4)
theorem mL {w:World}{b:Nat}{q v x:Value}{t:TypeId}(h:w.heap[b]?=some (.cells #[q,v] t (0,0))):(w.setCell ⟨b,0,none⟩ x).heap[b]?=some (.cells #[x,v] t (0,0))∧(w.setCell ⟨b,1,none⟩ x).heap[b]?=some (.cells #[q,x] t (0,0)):=by
 have hl:=(Array.getElem?_eq_some_iff.1 h).1;constructor<;>simp[World.setCell,Array.getElem?_modify,h]
theorem wN (B b:Nat)(t:TypeId)(ht:qR t=true)(bs:List Value)(w:World)(q v:Value)(hB:B≤b)(hb:w.heap[b]?=some (.cells #[q,v] t (0,0)))(hq:q = .pointer none∨q = .pointer (some ⟨b,0,none⟩))(hown:w.ownsRow B 5 1 v bs.length bs)(hne:v.ownBlock≠some b) :
 Calls Tryz.prog 94 #[.pointer (some ⟨b,0,none⟩)] w fun e w'=>e = .returned (.tuple #[])∧w'.heap[b]?=some (.cells #[.pointer (some ⟨b,0,none⟩),v] t (0,0))∧w'.ownsRow B 5 1 v bs.length bs∧Below B w w'∧w'.heap.size=w.heap.size∧∀ k,k≠b→w'.heap[k]?=w.heap[k]?:=by
 rcases hq with rfl|rfl
 ·have hA:Lib.BuilderAt t 5 B b (.pointer none) bs w:=⟨hB,v,hb,hown,hne⟩;refine(Fi b t ht w hA.cell0 hA.shape hA.frozen0).mono ?_;rintro e w' ⟨rfl,rfl⟩;exact⟨rfl,(mL hb).1,ownsRow_setCell_other hown (a:=⟨b,0,none⟩) hne _,(Below.refl B w).setCell (p:=⟨b,0,none⟩) hB _,by simp,fun k hk=>heap_setCell_other _ _ _ _ hk⟩
 ·have hA:Lib.BuilderAt t 5 B b (.pointer (some ⟨b,0,none⟩)) bs w:=⟨hB,v,hb,hown,hne⟩;refine(Do b w hA.cell0).mono ?_;rintro e w' ⟨rfl,rfl⟩;exact⟨rfl,hb,hown,Below.refl B _,rfl,fun k hk=>rfl⟩
set_option maxHeartbeats 2000000 in
theorem zO (B b:Nat)(t:TypeId)(ht:qR t=true)(bs:List Value)(s:ByteArray)(w:World)(q v:Value)(hB:B≤b)(hb:w.heap[b]?=some (.cells #[q,v] t (0,0)))(hq:q = .pointer none∨q = .pointer (some ⟨b,0,none⟩))(hown:w.ownsRow B 5 1 v bs.length bs)(hne:v.ownBlock≠some b)
 (hlen:bs.length+s.size≤140737488355328)(hBw:B≤w.heap.size) :
 Calls Tryz.prog 32 #[.pointer (some ⟨b,0,none⟩),.string s] w fun e w'=>e = .returned (.tuple #[.int .i64 s.size,.nilIface])∧∃ v',w'.heap[b]?=some (.cells #[.pointer (some ⟨b,0,none⟩),v'] t (0,0))∧w'.ownsRow B 5 1 v' (bs.length+s.size) (bs++Lib.strCells s)∧xV w w' v v'∧v'.ownBlock≠some b∧
  Below B w w'∧∀ k,k < w.heap.size→k≠b→v.ownBlock≠some k→w'.heap[k]?=w.heap[k]?:=by
 obtain⟨i0,hi,hz0,hz1,hz2⟩:=info_parts Ak;have hbl:b < w.heap.size:=(Array.getElem?_eq_some_iff.1 hb).1
 go_enter func32,ntmps32
 go_wp2_with (go_at_call 94;refine(wN B b t ht bs _ q v hB hb hq hown hne).mono ?_)
 rintro e w1 ⟨rfl,hbk,hown1,hb1,hs1,hsame⟩;have c0:w1.cell? ⟨b,0,none⟩=some (.pointer (some ⟨b,0,none⟩)):=by rw[Lib.cell_of_heap hbk];rfl
 have c1:w1.cell? ⟨b,1,none⟩=some v:=by rw[Lib.cell_of_heap hbk];rfl
 go_wp2_with (at_builtin;refine Vb rfl _ _ 55 9 rfl B 5 i0 underlying55 underlying9 hi hz0 hz1 hz2 _ _ _ rfl hown1 s rfl ?c3 ?c4 ?c5 ?_)
 case c3=>unfold maxLen;omega
 case c4=>omega
 case c5=>omega
 intro v' w2 hown' hgrow hnear;have hb2:w2.heap[b]?=some (.cells #[.pointer (some ⟨b,0,none⟩),v] t (0,0)):=by
  rw[hgrow.block b (by omega) (fun e=>hne e.symm)];exact hbk
 have d0:w2.cell? ⟨b,0,none⟩=some (.pointer (some ⟨b,0,none⟩)):=by rw[Lib.cell_of_heap hb2];rfl
 have d1:w2.cell? ⟨b,1,none⟩=some v:=by rw[Lib.cell_of_heap hb2];rfl
 have f1:w2.frozen? ⟨b,1,none⟩=false:=Lib.frozen_of_heap hb2 1;have hnb:v'.ownBlock≠some b:=fun e=>by
  rcases hnear b e with h|h
  ·exact hne h
  ·omega
 have hBe:=(hb1.grown hgrow (by omega) (fun k hk=>(hown1.lt k hk).1)).setCell (p:=⟨b,1,none⟩) hB v';have hso:=ownsRow_setCell_other hown' (a:=⟨b,1,none⟩) hnb v';have hset:=(mL (x:=v') hb2).2;have hot:∀ k,k < w.heap.size→k≠b→v.ownBlock≠some k→(w2.setCell ⟨b,1,none⟩ v').heap[k]?=w.heap[k]?:=fun k hk hkb hkv=>by
  rw[heap_setCell_other _ _ _ _ hkb,hgrow.block k (by omega) (fun e=>hkv e.symm),hsame k hkb]
 have hnr:xV w (w2.setCell ⟨b,1,none⟩ v') v v':=fun X hX=>by
  rcases hnear X hX with h|h
  ·exact .inl h
  ·exact .inr ⟨by omega,by simpa using h.2⟩
 obtain⟨ao,n',cap,rfl⟩:∃ ao n' cap,v' = .slice ao n' cap:=by
  rcases hown'.2 with ⟨hv,_⟩|⟨g,cap,cur,hv,_⟩
  ·exact⟨_,_,_,hv⟩
  ·exact⟨_,_,_,hv⟩
 go_wp2
 go_ret2
 exact⟨rfl,_,hset,hso,hnr,hnb,hBe,hot⟩
theorem Wi (a b:List UInt8):xD (a++b)=xD a++xD b:=by simp[xD]
theorem zV (s:List UInt8):Lib.strCells ⟨⟨s⟩⟩=xD s:=by simp[Lib.strCells,xD]
theorem nF (bs:List UInt8):(xD bs).length=bs.length:=by simp[xD]
theorem Li {g:Gl}{f:FuncId}{H:aA}{b:Nat}{t:TypeId}{bs:List UInt8}{rest:List V}{r:V}{o':Blk}(hH:H[b]?=some (.bld t bs))(ho':(∃ bs',o' = .bld t bs')∨o' = .dead)
 (h:∀(B0 p:Nat)(ys:List Value)(w:World)(im:Nat→Prop)(γ:fK)(q v:Value),RvL w im γ rest ys→qR t=true→B0≤p→B0≤w.heap.size→w.heap[p]?=some (.cells #[q,v] t (0,0))→(q = .pointer none∨q = .pointer (some ⟨p,0,none⟩))→w.ownsRow B0 5 1 v bs.length (xD bs)→v.ownBlock≠some p→
  Calls Tryz.prog f ⟨.pointer (some ⟨p,0,none⟩)::ys⟩ w fun e w'=>∃ y,e = .returned y∧Tv w' im r y∧Below B0 w w'∧(∀ k,k < w.heap.size→k≠p→v.ownBlock≠some k→w'.heap[k]?=w.heap[k]?)∧
   (∀ bs',o' = .bld t bs'→∃ v',w'.heap[p]?=some (.cells #[.pointer (some ⟨p,0,none⟩),v'] t (0,0))∧w'.ownsRow B0 5 1 v' bs'.length (xD bs')∧xV w w' v v'∧v'.ownBlock≠some p)) :
 MC P0 g f (.ptr b 0 0::rest) H r (H.set b o'):=by
 intro w im γ B0 xs hG hN hR hx;cases hx with
 | cons _ x _ ys h1 h2=>
  obtain⟨p,hp,rfl⟩:=h1.ptr_inv;obtain⟨p',hp',⟨k1,k2,q,v,k3,k4,k5,k7⟩,kf⟩:=hR.oh.obj b _ hH rfl;rw[hp]at hp';cases hp';have hB:=(kf p.B (.inl rfl)).1;have e0:(some (⟨p.B,p.O+0*p.s+0,none⟩:Addr))=some ⟨p.B,0,none⟩:=by rw[k1];simp
  rw[e0];refine(h B0 p.B ys w im γ q v h2 k2 hB hR.size k3 k4 k5 k7).mono ?_;rintro e w' ⟨y,rfl,hy,hbel,hsame,hnew⟩;have hfo:∀ X,gI w p (.bld t bs) X ↔ X=p.B∨v.ownBlock=some X:=by
   intro X;constructor
   ·rintro(h|⟨q',v',t',h3,h4⟩)
    ·exact .inl h
    ·rw[k3]at h3;simp only[Option.some.injEq,Obj.cells.injEq]at h3;have e:v=v':=by have:=congrArg (fun a=>a[1]?) h3.1;simpa using this
     rw[e];exact .inr h4
   ·rintro(h|h)
    ·exact .inl h
    ·exact .inr ⟨_,_,_,k3,h⟩
  have hXX:∀ X,X < w.heap.size→¬gI w p (.bld t bs) X→w'.heap[X]?=w.heap[X]?:=fun X hX hn=>by
   rw[hfo]at hn;exact hsame X hX (fun e=>hn (.inl e)) (fun e=>hn (.inr e))
  rcases ho' with ⟨bs',rfl⟩|rfl
  ·obtain⟨v',n1,n2,n3,n4⟩:=hnew bs' rfl;obtain⟨r1,r2⟩:=hR.setO (o':=.bld t bs') hH rfl (.inl rfl) hp hbel.size (fun X hX=>by
    rcases hX with h|⟨q',v2,t',h3,h4⟩
    ·exact .inl (.inl h)
    ·rw[n1]at h3;simp only[Option.some.injEq,Obj.cells.injEq]at h3;have e:v'=v2:=by have:=congrArg (fun a=>a[1]?) h3.1;simpa using this
     rw[←e]at h4;rcases n3 X h4 with h5|h5
     ·exact .inl ((hfo X).2 (.inr h5))
     ·exact .inr h5) hXX ⟨k1,k2,_,v',n1,.inr rfl,n2,n4⟩
   exact⟨y,im,γ,rfl,.tree _ _ hy,r1,r2,hbel,fun B hB => .inl hB⟩
  ·obtain⟨r1,r2⟩:=hR.setO (o':=.dead) hH rfl (.inr rfl) hp hbel.size (fun X hX=>hX.elim) hXX trivial;exact⟨y,im,γ,rfl,.tree _ _ hy,r1,r2,hbel,fun B hB => .inl hB⟩
theorem aSk (g:Gl){H:aA}{b:Nat}{t:TypeId}{bs s:List UInt8}(hH:H[b]?=some (.bld t bs))(hlen:bs.length+s.length≤140737488355328):MC P0 g 32 [.ptr b 0 0,.str s] H (.tup [.int .i64 s.length,.nili]) (H.set b (.bld t (bs++s))):=by
 refine Li hH (.inl ⟨_,rfl⟩) ?_;intro B0 p ys w im γ q v hy ht hB hBw hb hq hown hne;obtain⟨y,rfl,h1⟩:∃ y,ys=[y]∧Rv w im γ (.str s) y:=by
  cases hy with
  | cons _ y _ l h1 h2=>cases h2;exact⟨y,rfl,h1⟩
 rw[h1.str_inv];have hown':w.ownsRow B0 5 1 v (xD bs).length (xD bs):=by rw[nF];exact hown
 refine(zO B0 p t ht (xD bs) ⟨⟨s⟩⟩ w q v hB hb hq hown' hne (by rw[nF];exact hlen) hBw).mono ?_;rintro e w' ⟨rfl,v',n1,n2,n3,n4,n5,n6⟩;refine⟨_,rfl,.tup _ _ (.cons _ _ _ _ (.int _ _) (.cons _ _ _ _ .nili .nil)),n5,n6,fun bs' e=>?_⟩;cases e;refine⟨v',n1,?_,n3,n4⟩;rw[zV,←Wi,nF]at n2;rw[List.length_append];exact n2
end
section
open Go Go.RowKit
set_option maxHeartbeats 2000000 in
theorem Jg (B b:Nat)(t:TypeId)(ht:qR t=true)(bs:List Value)(c:Int)(w:World)(q v:Value)(hB:B≤b)(hb:w.heap[b]?=some (.cells #[q,v] t (0,0)))(hq:q = .pointer none∨q = .pointer (some ⟨b,0,none⟩))(hown:w.ownsRow B 5 1 v bs.length bs)(hne:v.ownBlock≠some b)
 (hlen:bs.length+1≤140737488355328)(hBw:B≤w.heap.size) :
 Calls Tryz.prog 183 #[.pointer (some ⟨b,0,none⟩),.int .u8 c] w fun e w'=>e = .returned .nilIface∧∃ v',w'.heap[b]?=some (.cells #[.pointer (some ⟨b,0,none⟩),v'] t (0,0))∧w'.ownsRow B 5 1 v' (bs.length+1) (bs++[.int .u8 c])∧xV w w' v v'∧v'.ownBlock≠some b∧
  Below B w w'∧∀ k,k < w.heap.size→k≠b→v.ownBlock≠some k→w'.heap[k]?=w.heap[k]?:=by
 obtain⟨i0,hi,hz0,hz1,hz2⟩:=info_parts Ak;have hbl:b < w.heap.size:=(Array.getElem?_eq_some_iff.1 hb).1
 go_enter Tryz.func183,Tryz.ntmps183
 go_wp2_with (go_at_call 94;refine(wN B b t ht bs _ q v hB hb hq hown hne).mono ?_)
 rintro e w1 ⟨rfl,hbk,hown1,hb1,hs1,hsame⟩;obtain⟨hs1a,hs1b⟩:w1.heap.size≤w.heap.size∧w.heap.size≤w1.heap.size:=by omega
 clear hs1;have c0:w1.cell? ⟨b,0,none⟩=some (.pointer (some ⟨b,0,none⟩)):=by rw[Lib.cell_of_heap hbk];rfl
 have c1:w1.cell? ⟨b,1,none⟩=some v:=by rw[Lib.cell_of_heap hbk];rfl
 go_wp2_with (at_builtin;refine Wb rfl _ _ 55 rfl B 5 i0 (.int .u8 0) Tryz.underlying55 hi hz0 hz1 hz2 rfl _ _ _ rfl (hown1.alloc _) ⟨w1.heap.size,0,none⟩ 1 1 [.int .u8 c] rfl rfl ?c1 ?c2 ?c3 ?c4 ?c5 ?_)
 case c1=>
  intro j u hj;match j,hj with
  | 0,hj=>simp at hj;subst hj;simp[Addr.add]
 case c2=>intro u hu;simp at hu;subst hu;rfl
 case c3=>unfold maxLen;omega
 case c4=>omega
 case c5=>simp;omega
 intro v' w2 hown' hgrow hnear;have hsz:=hgrow.size;simp only[World.size_alloc]at hsz;have hb2:w2.heap[b]?=some (.cells #[.pointer (some ⟨b,0,none⟩),v] t (0,0)):=by
  rw[hgrow.block b (by simp;omega) (fun e=>hne e.symm),Lib.alloc_old w1 _ b (by omega)];exact hbk
 have d0:w2.cell? ⟨b,0,none⟩=some (.pointer (some ⟨b,0,none⟩)):=by rw[Lib.cell_of_heap hb2];rfl
 have d1:w2.cell? ⟨b,1,none⟩=some v:=by rw[Lib.cell_of_heap hb2];rfl
 have f1:w2.frozen? ⟨b,1,none⟩=false:=Lib.frozen_of_heap hb2 1;have hnb:v'.ownBlock≠some b:=fun e=>by
  rcases hnear b e with h|h
  ·exact hne h
  ·simp only[World.size_alloc]at h;omega
 have hBe:=((hb1.alloc (by omega) _).grown hgrow (by simp;omega) (fun k hk=>(hown1.lt k hk).1)).setCell (p:=⟨b,1,none⟩) hB v';have hso:=ownsRow_setCell_other hown' (a:=⟨b,1,none⟩) hnb v';have hset:=(mL (x:=v') hb2).2;have hot:∀ k,k < w.heap.size→k≠b→v.ownBlock≠some k→(w2.setCell ⟨b,1,none⟩ v').heap[k]?=w.heap[k]?:=fun k hk hkb hkv=>by
  rw[heap_setCell_other _ _ _ _ hkb,hgrow.block k (by simp;omega) (fun e=>hkv e.symm),Lib.alloc_old w1 _ k (by omega),hsame k hkb]
 have hnr:xV w (w2.setCell ⟨b,1,none⟩ v') v v':=fun X hX=>by
  rcases hnear X hX with h|h
  ·exact .inl h
  ·simp only[World.size_alloc]at h;exact .inr ⟨by omega,by simpa using h.2⟩
 obtain⟨ao,n',cap,rfl⟩:∃ ao n' cap,v' = .slice ao n' cap:=by
  rcases hown'.2 with ⟨hv,_⟩|⟨g,cap,cur,hv,_⟩
  ·exact⟨_,_,_,hv⟩
  ·exact⟨_,_,_,hv⟩
 go_wp2
 go_ret
 exact⟨rfl,_,hset,hso,hnr,hnb,hBe,hot⟩
theorem aKy (g:Gl){H:aA}{b:Nat}{t:TypeId}{bs:List UInt8}(c:Int)(hc:0≤c∧c < 256)(hH:H[b]?=some (.bld t bs))(hlen:bs.length+1≤140737488355328):MC P0 g 183 [.ptr b 0 0,.int .u8 c] H .nili (H.set b (.bld t (bs++[UInt8.ofNat c.toNat]))):=by
 refine Li hH (.inl ⟨_,rfl⟩) ?_;intro B0 p ys w im γ q v hy ht hB hBw hb hq hown hne;obtain⟨y,rfl,h1⟩:∃ y,ys=[y]∧Rv w im γ (.int .u8 c) y:=by
  cases hy with
  | cons _ y _ l h1 h2=>cases h2;exact⟨y,rfl,h1⟩
 rw[h1.int_inv];have hown':w.ownsRow B0 5 1 v (xD bs).length (xD bs):=by rw[nF];exact hown
 refine(Jg B0 p t ht (xD bs) c w q v hB hb hq hown' hne (by rw[nF];exact hlen) hBw).mono ?_;rintro e w' ⟨rfl,v',n1,n2,n3,n4,n5,n6⟩;refine⟨_,rfl,.nili,n5,n6,fun bs' e=>?_⟩;cases e;refine⟨v',n1,?_,n3,n4⟩;have e1:xD [UInt8.ofNat c.toNat]=[.int .u8 c]:=by
  have:((UInt8.ofNat c.toNat).toNat:Int)=c:=by
   rw[UInt8.toNat_ofNat'];omega
  simp only[xD,List.map_cons,List.map_nil,this]
 rw[Wi,e1];rw[nF]at n2;rw[List.length_append];exact n2
end
section
open Go Go.RowKit
theorem qE (w:World)(p:Addr)(n k:Nat)(h:k≠p.block):(w.freeze p n).heap[k]?=w.heap[k]?:=by
 unfold World.freeze;split
 ·rfl
 ·simp only[Array.getElem?_modify];rw[if_neg (Ne.symm h)]
set_option maxHeartbeats 2000000 in
theorem Rl (B b:Nat)(t:TypeId)(l:List UInt8)(w:World)(q v:Value)(hB:B≤b)(hBw:B≤w.heap.size)(hb:w.heap[b]?=some (.cells #[q,v] t (0,0)))(hown:w.ownsRow B 5 1 v l.length (xD l))(hne:v.ownBlock≠some b) :
 Calls Tryz.prog 93 #[.pointer (some ⟨b,0,none⟩)] w fun e w'=>e = .returned (.string ⟨⟨l⟩⟩)∧Below B w w'∧∀ k,k < w.heap.size→v.ownBlock≠some k→w'.heap[k]?=w.heap[k]?:=by
 have hbl:b < w.heap.size:=(Array.getElem?_eq_some_iff.1 hb).1;have mixed:Tryz.prog.follows .mixedOrders=true:=by kernel_rfl
 rcases hown.2 with ⟨rfl,hz⟩|⟨g,cap,cur,rfl,hbg,hg,hnc,hcm,hcs,htake⟩
 ·have e0:l=[]:=List.eq_nil_of_length_eq_zero hz;subst e0;have hUS:∀(W:World)(q:Option Addr),(Builtin.unsafeString_ #[265,3] 9 #[.pointer q,.int .i64 0]).run Tryz.prog W = .ok (.string .empty) W:=fun W q=>Lib.run_unsafeString_none W _ _ _ q;have c1:w.drew.cell? ⟨b,1,none⟩=some (.slice none 0 0):=by
   have:w.drew.heap[b]?=some (.cells #[q,.slice none 0 0] t (0,0)):=hb;rw[Lib.cell_of_heap this];rfl
  have hSD:(Builtin.unsafeSliceData_ #[55] 265 #[.slice none 0 0]).run Tryz.prog w.drew = .ok (.pointer none) w.drew:=rfl
  go_enter Tryz.func93,Tryz.ntmps93
  go_wp2
  go_region_o
  all_goals (go_wp2;go_ret;exact⟨rfl,Below.drew (Below.refl B w),fun k _ _=>rfl⟩)
 ·by_cases h0:l=[]
  ·subst h0;have hUS:∀(W:World)(q:Option Addr),(Builtin.unsafeString_ #[265,3] 9 #[.pointer q,.int .i64 0]).run Tryz.prog W = .ok (.string .empty) W:=fun W q=>Lib.run_unsafeString_none W _ _ _ q;simp only[List.length_nil]at hb hg;have c1:w.drew.cell? ⟨b,1,none⟩=some (.slice (some ⟨g,0,none⟩) 0 cap):=by
    have:w.drew.heap[b]?=some (.cells #[q,.slice (some ⟨g,0,none⟩) 0 cap] t (0,0)):=hb;rw[Lib.cell_of_heap this];rfl
   by_cases hc0:cap=0
   ·subst hc0;have hSD:(Builtin.unsafeSliceData_ #[55] 265 #[.slice (some ⟨g,0,none⟩) 0 0]).run Tryz.prog w.drew = .ok (.pointer (some ⟨w.drew.heap.size,0,none⟩)) (w.drew.alloc (.view ⟨g,0,none⟩ 5)):=
     Lib.run_unsafeSliceData_zero w.drew _ _ 5 Tryz.underlying265 ⟨g,0,none⟩ 0 (5,cur.size) (by have hg':w.drew.heap[g]?=some (.cells cur 5 (0,0)):=hg;simp[World.shape?,hg'])
    have c2:(w.drew.alloc (.view ⟨g,0,none⟩ 5)).cell? ⟨b,1,none⟩=some (.slice (some ⟨g,0,none⟩) 0 0):=by
     have:(w.drew.alloc (.view ⟨g,0,none⟩ 5)).heap[b]?=_:=(Lib.alloc_old w.drew _ b hbl).trans hb;rw[Lib.cell_of_heap this];rfl
    have c3:(w.alloc (.view ⟨g,0,none⟩ 5)).drew.cell? ⟨b,1,none⟩=some (.slice (some ⟨g,0,none⟩) 0 0):=c2;have c0:w.cell? ⟨b,1,none⟩=some (.slice (some ⟨g,0,none⟩) 0 0):=c1
    go_enter Tryz.func93,Tryz.ntmps93
    go_wp2
    go_region_o
    all_goals (go_wp2;go_ret;exact⟨rfl,(Below.drew (Below.refl B w)).alloc hBw _,fun k hk _=>Lib.alloc_old w.drew _ k hk⟩)
   ·have hSD:(Builtin.unsafeSliceData_ #[55] 265 #[.slice (some ⟨g,0,none⟩) 0 cap]).run Tryz.prog w.drew = .ok (.pointer (some ⟨g,0,none⟩)) w.drew:=Lib.run_unsafeSliceData_row _ _ _ _ _ _ hc0;clear hc0
    go_enter Tryz.func93,Tryz.ntmps93
    go_wp2
    go_region_o
    all_goals (go_wp2;go_ret;exact⟨rfl,Below.drew (Below.refl B w),fun k _ _=>rfl⟩)
  ·have hl0:l.length≠0:=by simpa using h0
   have c1:w.drew.cell? ⟨b,1,none⟩=some (.slice (some ⟨g,0,none⟩) l.length cap):=by
    have:w.drew.heap[b]?=some (.cells #[q,.slice (some ⟨g,0,none⟩) l.length cap] t (0,0)):=hb;rw[Lib.cell_of_heap this];rfl
   have hSD:(Builtin.unsafeSliceData_ #[55] 265 #[.slice (some ⟨g,0,none⟩) l.length cap]).run Tryz.prog w.drew = .ok (.pointer (some ⟨g,0,none⟩)) w.drew:=
    Lib.run_unsafeSliceData_row _ _ _ _ _ _ (by omega)
   have hUS:(Builtin.unsafeString_ #[265,3] 9 #[.pointer (some ⟨g,0,none⟩),.int .i64 l.length]).run Tryz.prog w.drew = .ok (.string ⟨l.toArray⟩) (w.drew.freeze ⟨g,0,none⟩ l.length):=by
    refine Lib.run_unsafeString_row w.drew 265 3 9 5 Tryz.underlying265 (by kernel_rfl) g cur.size (by have hg':w.drew.heap[g]?=some (.cells cur 5 (0,0)):=hg;simp[World.shape?,hg']) l h0 (by omega) (by unfold maxLen at hcm;omega) ?_;intro j x hx;exact hown.cells (g:=g) rfl j (.int .u8 x.toNat) (by simp[xD,hx])
   go_enter Tryz.func93,Tryz.ntmps93
   go_wp2
   go_region_o
   all_goals (go_wp2;go_ret;exact⟨rfl,Lib.below_freeze (Below.drew (Below.refl B w)) (p:=⟨g,0,none⟩) hbg _,fun k _ hk=>qE _ _ _ _ fun e=>hk (by rw[e];rfl)⟩)
theorem aSj (g:Gl){H:aA}{b:Nat}{t:TypeId}{bs:List UInt8}(hH:H[b]?=some (.bld t bs)):MC P0 g 93 [.ptr b 0 0] H (.str bs) (H.set b .dead):=by
 refine Li (rest:=[]) hH (.inr rfl) ?_;intro B0 p ys w im γ q v hy ht hB hBw hb hq hown hne;cases hy;refine(Rl B0 p t bs w q v hB hBw hb hown hne).mono ?_;rintro e w' ⟨rfl,h1,h2⟩;exact⟨_,rfl,.str bs,h1,fun k hk _ h=>h2 k hk h,fun bs' e=>by cases e⟩
end
end Go.Proofs.YtaimmacnafoanaaGreatDoor.F
namespace Go.Proofs.YtaimmacnafoanaaGreatDoor
open Go Go.RowKit Go.Shelf Go.Proofs
def Tryz.grow269_ren:Go.Shelf.Ren:=⟨fun|4=>269|n=>n,fun|22=>22|25=>40|3=>3|4=>4|9=>9|20=>20|0=>0|2=>3|n=>n,fun|n=>n⟩
theorem Tryz.grow269:Go.Proofs.Lays8.n4 Tryz.prog Tryz.grow269_ren where
 mixed:=by kernel_rfl
 f4:=⟨ "slices.Grow[[]transhumance/api.Value,transhumance/api.Value]",by decide,Tryz.func269.trans (congrArg some (by kernel_rfl))⟩
 t0:=Tryz.underlying0
 a0:=Tryz.isAgg0
 z0:=Tryz.sizeOf0
 v0:=Tryz.zeroValue0
 t3:=Tryz.underlying3
 a3:=Tryz.isAgg3
 z3:=Tryz.sizeOf3
 v3:=Tryz.zeroValue3
 t4:=Tryz.underlying4
 a4:=Tryz.isAgg4
 z4:=Tryz.sizeOf4
 v4:=Tryz.zeroValue4
 t9:=Tryz.underlying9
 a9:=Tryz.isAgg9
 z9:=Tryz.sizeOf9
 v9:=Tryz.zeroValue9
 t20:=Tryz.underlying20
 a20:=Tryz.isAgg20
 z20:=Tryz.sizeOf20
 v20:=Tryz.zeroValue20
 t22:=Tryz.underlying22
 a22:=Tryz.isAgg22
 z22:=Tryz.sizeOf22
 v22:=Tryz.zeroValue22
example:Tryz.grow269_ren.t 25=40:=rfl
example:Tryz.grow269_ren.f 4=269:=rfl
end Go.Proofs.YtaimmacnafoanaaGreatDoor
namespace Go.Proofs.YtaimmacnafoanaaGreatDoor.F
section
open Go Go.RowKit Go.Proofs
theorem aKw (g:Gl){H:aA}(n:Nat)(h1:1≤n)(hn:n≤1048576):MC P0 g 269 [.nils,.int .i64 n] H (.sl H.length 0 0) (H++[.row 2 [] false]):=by
 intro w im γ B0 xs hG hN hR hx;obtain⟨x,y,rfl,hx1,hx2⟩:∃ x y,xs=[x,y]∧Rv w im γ .nils x∧Rv w im γ (.int .i64 n) y:=by
  cases hx with
  | cons _ x _ l h1 h2=>cases h2 with
   | cons _ y _ l h3 h4=>cases h4;exact⟨x,y,rfl,h1,h3⟩
 have e1:x = .slice none 0 0:=by cases hx1 with|tree _ _ h=>cases h;rfl
 have e2:y = .int .i64 n:=by cases hx2 with|tree _ _ h=>cases h;rfl
 subst e1;subst e2;obtain⟨i0,hi,hz,hs,hbt⟩:∃ i0,Tryz.prog.info? 40=some i0∧i0.zero=some (.agg #[.int .i64 0,.int .i64 0])∧i0.size=2∧i0.bytes=16:=by
  have:=aEi;cases h:Tryz.prog.info? 40 with
  | none=>rw[h]at this;cases this
  | some i=>rw[h]at this;simp at this;exact⟨i,rfl,this.1,this.2.1,this.2.2⟩
 have hk:=Any8.slices_Grow_grow Tryz.grow269 i0 _ hi hz (by omega) none 0 0 n [] w (by omega) (by omega) (by rw[hbt];omega) (by omega) (by simp) (fun _=>rfl) (fun a h=>by cases h);refine Calls.mono hk ?_;rintro e w' ⟨rfl,rfl⟩;have hG:=grownCap_ge w (0+n) 0 (Tryz.grow269_ren.t 25);generalize grownCap w (0+n) 0 (Tryz.grow269_ren.t 25)=G at hG;obtain⟨post,hpost⟩:∃ post:List Value,post=((#[]:Array Value)++Builtin.zeroCells (Value.cells (.agg #[.int .i64 0,.int .i64 0])) (0+n - 0)++Builtin.zeroCells (Value.cells (.agg #[.int .i64 0,.int .i64 0])) (G - (0+n))).toList:=⟨_,rfl⟩;have hlen:post.length=G*2:=by
  rw[hpost];have e:(Value.cells (.agg #[.int .i64 0,.int .i64 0])).size=2:=rfl;simp[size_zeroCells,e];omega
 have hobj:(([]:List Value).toArray++Builtin.zeroCells (Value.cells (.agg #[.int .i64 0,.int .i64 0])) (0+n - 0)++Builtin.zeroCells (Value.cells (.agg #[.int .i64 0,.int .i64 0])) (G - (0+n)))=⟨[]++post⟩:=by
  rw[hpost];simp
 rw[hobj];have hR':RelH w.drew im γ B0 H:=hR.heap rfl;have ha:=hR'.alloc (s:=2) (es:=[]) (vs:=[]) (post:=post) (by simp) .nil (by simp) 40 (0,0) (by intro k _ h;omega);refine⟨_,im,upd γ H.length ⟨w.drew.heap.size,0,2,([]:List Value).length+post.length⟩,rfl,.sl H.length 0 0 G ⟨w.drew.heap.size,0,2,([]:List Value).length+post.length⟩ (by unfold upd;exact if_pos rfl) (by omega) ?_,ha.1,?_,?_,fun B hB => .inl hB⟩
 ·show 0+(0+G)*2≤[].length+post.length;rw[hlen];simp
 ·exact⟨fun B hB=>ha.2.imm B hB,ha.2.inj⟩
 ·exact((Below.refl B0 w).drew).alloc (by have:=hR.size;simpa using this) _
end
end Go.Proofs.YtaimmacnafoanaaGreatDoor.F
namespace Go.Proofs.YtaimmacnafoanaaGreatDoor.Crc
def s1 (x:Nat):Nat:=if x % 2=1 then(x / 2) ^^^ 3988292384 else x / 2
def it:Nat→Nat→Nat
 | 0,x=>x
 | n+1,x=>it n (s1 x)
theorem aEz (x y:Nat):s1 (x ^^^ y)=s1 x ^^^ s1 y:=by
 unfold s1;have h:=@Nat.xor_mod_two_eq_one x y;rw[Nat.xor_div_two];have cx:x % 2=0∨x % 2=1:=by omega
 have cy:y % 2=0∨y % 2=1:=by omega
 rcases cx with cx|cx<;>rcases cy with cy|cy
 ·have:¬(x ^^^ y) % 2=1:=by rw[h];simp[cx,cy]
  rw[if_neg this,if_neg (by omega),if_neg (by omega)]
 ·have:(x ^^^ y) % 2=1:=by rw[h];simp[cx,cy]
  rw[if_pos this,if_neg (by omega),if_pos cy,Nat.xor_assoc]
 ·have:(x ^^^ y) % 2=1:=by rw[h];simp[cx,cy]
  rw[if_pos this,if_pos cx,if_neg (by omega),Nat.xor_assoc,Nat.xor_assoc,Nat.xor_comm 3988292384]
 ·have:¬(x ^^^ y) % 2=1:=by rw[h];simp[cx,cy]
  rw[if_neg this,if_pos cx,if_pos cy];have e:(x / 2 ^^^ 3988292384) ^^^ (y / 2 ^^^ 3988292384)=(x / 2 ^^^ y / 2) ^^^ (3988292384 ^^^ 3988292384):=by
   rw[Nat.xor_assoc,Nat.xor_assoc,←Nat.xor_assoc 3988292384 (y / 2),Nat.xor_comm 3988292384 (y / 2),Nat.xor_assoc (y / 2)]
  rw[e,Nat.xor_self,Nat.xor_zero]
theorem Yl (x:Nat):s1 (2*x)=x:=by
 unfold s1;rw[if_neg (by omega)];omega
theorem aIn {x:Nat}(h:x < 2 ^ 32):s1 x < 2 ^ 32:=by
 unfold s1;split
 ·exact Nat.xor_lt_two_pow (by omega) (by decide)
 ·omega
theorem aGd (n:Nat):∀ x y,it n (x ^^^ y)=it n x ^^^ it n y:=by
 induction n with
 | zero=>intro x y;rfl
 | succ n ih=>intro x y;simp only[it];rw[aEz,ih]
theorem aGe (m n:Nat):∀ x,it (m+n) x=it n (it m x):=by
 induction m with
 | zero=>intro x;rw[Nat.zero_add];rfl
 | succ m ih=>intro x;rw[show m+1+n=(m+n)+1 by omega];simp only[it];rw[ih]
theorem Vm (n:Nat):∀ x,it n (2 ^ n*x)=x:=by
 induction n with
 | zero=>intro x;simp[it]
 | succ n ih=>
  intro x;simp only[it];rw[show 2 ^ (n+1)*x=2*(2 ^ n*x) by rw[Nat.pow_succ,Nat.mul_comm (2 ^ n) 2,Nat.mul_assoc],Yl,ih]
theorem Ju (n:Nat):∀ {x},x < 2 ^ 32→it n x < 2 ^ 32:=by
 induction n with
 | zero=>intro x h;exact h
 | succ n ih=>intro x h;exact ih (aIn h)
theorem Qg (x:Nat):x=(x % 256) ^^^ (256*(x / 256)):=by
 apply Nat.eq_of_testBit_eq;intro i;rw[Nat.testBit_xor,show(256:Nat)=2 ^ 8 from rfl,Nat.testBit_mod_two_pow,Nat.testBit_two_pow_mul,Nat.testBit_div_two_pow];by_cases h:i < 8
 ·simp[h,show ¬8≤i by omega]
 ·simp[h,show 8≤i by omega,show i - 8+8=i by omega]
theorem Mo (x b:Nat):(x / 256) ^^^ it 8 ((x % 256) ^^^ b)=it 8 (x ^^^ b):=by
 have e:x ^^^ b=((x % 256) ^^^ b) ^^^ (2 ^ 8*(x / 256)):=by
  conv=>lhs;rw[Qg x]
  rw[Nat.xor_assoc,Nat.xor_comm (256*(x / 256)) b,←Nat.xor_assoc]
 rw[e,aGd 8 (_ ^^^ _),Vm,Nat.xor_comm]
def stp (x b:Nat):Nat:=it 8 (x ^^^ b)
def xF (x:Nat)(l:List Nat):Nat:=l.foldl stp x
theorem Mc (x:Nat):xF x []=x:=rfl
theorem Cm (x b:Nat)(l:List Nat):xF x (b::l)=xF (stp x b) l:=rfl
def val:List Nat→Nat
 | []=>0
 | b::l=>b ^^^ (256*val l)
theorem Nc (l m:List Nat)(x:Nat):xF x (l++m)=xF (xF x l) m:=List.foldl_append
theorem Eo {x:Nat}(h:x < 2 ^ 32):4294967295 - x=4294967295 ^^^ x:=by
 apply Nat.eq_of_testBit_eq;intro i;rw[Nat.testBit_xor,show 4294967295 - x=2 ^ 32 - (x+1) by omega,Nat.testBit_two_pow_sub_succ h,show(4294967295:Nat)=2 ^ 32 - 1 from rfl,Nat.testBit_two_pow_sub_one];by_cases hi:i < 32
 ·simp[hi]
 ·have:x.testBit i=false:=Nat.testBit_lt_two_pow (Nat.lt_of_lt_of_le h (Nat.pow_le_pow_right (by decide) (by omega)));simp[hi,this]
def sum (s:Nat)(l:List Nat):Nat:=4294967295 - xF (4294967295 - s) l
end Go.Proofs.YtaimmacnafoanaaGreatDoor.Crc
namespace Go.Proofs.YtaimmacnafoanaaGreatDoor.CrcWalk
structure Aside0 (p:Prop):Prop where mk::(out:p)
open Go.RowKit Crc
theorem Nz (n x:Nat):it (n+1) x=s1 (it n x):=by rw[aGe n 1];rfl
theorem Fy (x:Nat)(h:x < 4294967296):Go.bits .xor .u32 ((x:Int) / 2) ((3988292384*(Go.bits .and .u32 (x:Int) 1)) % 4294967296)=((s1 x:Nat):Int):=by
 have e1:Go.bits .and .u32 (x:Int) 1=((x &&& 1:Nat):Int):=u32_and_nat x 1 h (by decide);rw[e1,nat_mask1];have e2:((x:Int) / 2)=((x / 2:Nat):Int):=by omega
 rw[e2];rcases Nat.mod_two_eq_zero_or_one x with hx|hx
 ·have e3:(3988292384*((x % 2:Nat):Int)) % 4294967296=((0:Nat):Int):=by rw[hx];rfl
  rw[e3,u32_xor_nat (x / 2) 0 (by omega) (by decide),s1,if_neg (by omega),Nat.xor_zero]
 ·have e3:(3988292384*((x % 2:Nat):Int)) % 4294967296=((3988292384:Nat):Int):=by rw[hx];rfl
  rw[e3,u32_xor_nat (x / 2) 3988292384 (by omega) (by decide),s1,if_pos hx]
set_option maxHeartbeats 400000 in
theorem xG (b:Nat)(w:World)(h:b < 4294967296) :
 Calls Tryz.prog 301 #[.int .u32 (b:Int)] w fun e w'=>e = .returned (.int .u32 ((it 8 b:Nat):Int))∧w=w':=by
 go_enter Tryz.func301,Tryz.ntmps301
 go_wp2
 go_loop [0,3] (fun v0 v3=>∃ i:Nat,i≤8∧v3 = .int .i64 (i:Int)∧v0 = .int .u32 ((it i b:Nat):Int)) (fun _ v3=>8 - (intOf v3).toNat)
 case atStart=>exact⟨0,by omega,rfl,rfl⟩
 case round=>
  obtain⟨i,hi,rfl,rfl⟩:=hrel;by_cases hlt:i < 8
  ·have hb:it i b < 4294967296:=Ju i h;have HS:=Aside0.mk (Fy (it i b) hb);have HN:=Aside0.mk (Nz i b);clear hb h;generalize it i b=x at *
   go_wp2
   go_round
   case rel=>exact⟨i+1,by omega,by go_num,by rw[HN.out,←HS.out]⟩
   case measure=>simp[intOf];omega
  ·obtain rfl:i=8:=by omega
   go_wp2
   go_ret
   exact⟨rfl,rfl⟩
def tab (n:Nat):Array Value:=Array.ofFn (n:=256) fun i => .int .u32 (((if i.val < n then it 8 i.val else 0:Nat)):Int)
theorem jG (n:Nat):(tab n).size=256:=by simp[tab]
theorem Kp:Array.replicate 256 (Value.int .u32 0)=tab 0:=by
 apply Array.ext
 ·simp[tab]
 ·intro i h1 h2;simp[tab]
theorem Tx (n:Nat)(h:n < 256):(tab n).setIfInBounds n (.int .u32 ((it 8 n:Nat):Int))=tab (n+1):=by
 apply Array.ext
 ·simp[tab]
 ·intro i h1 h2;simp only[tab,Array.size_setIfInBounds,Array.size_ofFn]at h1;rw[Array.getElem_setIfInBounds (by simpa[tab]using h1)];by_cases e:n=i
  ·subst e;simp[tab]
  ·have:(i < n)=(i < n+1):=by simp;omega
   simp[tab,e,this]
theorem Ux (i:Nat)(h:i < 256):(tab 256)[i]?=some (.int .u32 ((it 8 i:Nat):Int)):=by
 rw[Array.getElem?_eq_getElem (by rw[jG];exact h)];simp[tab,h]
theorem Xi (n:Nat):(tab n).all (·.oneCell')=true:=by
 rw[Array.all_eq_true];intro i hi;simp[tab,Value.oneCell']
theorem tM:(Tryz.prog.info? 331).map (fun i=>(i.zero,i.size))=some (some (.agg (Array.replicate 256 (.int .u32 0))),256):=by kernel_rfl
theorem Xb {op:Oper}{a:Act}{w:World}{K:Act→World→Prop}{Q:Exit→Act→World→Prop}(ty:TypeId)(x:Operand)(ho:op.op = .load ty x)(b:Nat)(hx:a.eval x = .pointer (some ⟨b,0,none⟩))
 (c:Array Value)(t:TypeId)(hb:w.heap[b]?=some (.cells c t (0,0)))(n:Nat)(e:TypeId)(hu:Tryz.prog.underlying ty=some (.array n e))(hi:(Tryz.prog.info? ty).map (·.size)=some c.size)(h:K (a.put op.dst (.agg c)) w):op.wp Tryz.prog a w K Q:=by
 unfold Oper.wp execOp;simp only[ho,hx,Instr.loadAt,Instr.sureAddr,Sem.run_bind,Sem.run_pure,Result.andThen_ok,run_loadVar_row _ _ t ty c (0,0) _ hb hu rfl hi];exact h
theorem zQ {op:Oper}{a:Act}{w:World}{K:Act→World→Prop}{Q:Exit→Act→World→Prop}(ty:TypeId)(x y:Operand)(ho:op.op = .store ty x y)(b:Nat)(c':Array Value)(hx:a.eval x = .pointer (some ⟨b,0,none⟩))(hy:a.eval y = .agg c')
 (c:Array Value)(t:TypeId)(hb:w.heap[b]?=some (.cells c t (0,0)))(hi:(Tryz.prog.info? ty).map (·.size)=some c'.size)(hs:c.size=c'.size)(h1:c'.all (·.oneCell')=true)(h:K (a.put op.dst undef) (w.setRow b c')):op.wp Tryz.prog a w K Q:=by
 unfold Oper.wp execOp;simp only[ho,hx,hy,Instr.storeAt,Instr.sureAddr,Sem.run_bind,Sem.run_pure,Result.andThen_ok,run_storeVar_row _ _ t ty c c' hb hi hs h1];exact h
theorem Yb {ops:Array Oper}{rest:List Oper}{op:Oper}{a:Act}{w:World}{Q:Exit→Act→World→Prop}(hgd:op.guard=none)(ty:TypeId)(x:Operand)(ho:op.op = .load ty x)(b:Nat)(hx:a.eval x = .pointer (some ⟨b,0,none⟩))
 (c:Array Value)(t:TypeId)(hb:w.heap[b]?=some (.cells c t (0,0)))(n:Nat)(e:TypeId)(hu:Tryz.prog.underlying ty=some (.array n e))(hi:(Tryz.prog.info? ty).map (·.size)=some c.size)(h:wpList Tryz.prog ops Q rest (a.put op.dst (.agg c)) w):wpList Tryz.prog ops Q (op::rest) a w:=
 wpList_plain hgd fun _ hK=>Xb ty x ho b hx c t hb n e hu hi (hK _ _ h)
theorem sA {ops:Array Oper}{rest:List Oper}{op:Oper}{a:Act}{w:World}{Q:Exit→Act→World→Prop}(hgd:op.guard=none)(ty:TypeId)(x y:Operand)(ho:op.op = .store ty x y)(b:Nat)(c':Array Value)(hx:a.eval x = .pointer (some ⟨b,0,none⟩))(hy:a.eval y = .agg c')
 (c:Array Value)(t:TypeId)(hb:w.heap[b]?=some (.cells c t (0,0)))(hi:(Tryz.prog.info? ty).map (·.size)=some c'.size)(hs:c.size=c'.size)(h1:c'.all (·.oneCell')=true)(h:wpList Tryz.prog ops Q rest (a.put op.dst undef) (w.setRow b c')):wpList Tryz.prog ops Q (op::rest) a w:=
 wpList_plain hgd fun _ hK=>zQ ty x y ho b c' hx hy c t hb hi hs h1 (hK _ _ h)
theorem Aa (w:World)(c c' d:Array Value)(t u:TypeId):((w.alloc (.cells c t)).alloc (.cells d u)).setRow w.heap.size c'=(w.alloc (.cells c' t)).alloc (.cells d u):=by
 simp only[World.setRow,World.alloc];congr 1;apply Array.ext_getElem?;intro i;rw[Array.getElem?_modify];by_cases h:w.heap.size=i
 ·subst h;simp[Array.getElem?_push]
 ·have h':¬i=w.heap.size:=fun e=>h e.symm;simp[h,h',Array.getElem?_push]
theorem vK (w:World)(o p:Obj):((w.alloc o).alloc p).heap[w.heap.size]?=some o:=by
 show((w.heap.push o).push p)[w.heap.size]?=some o;simp[Array.getElem?_push]
theorem An (w:World)(o p:Obj):((w.alloc o).alloc p).heap[w.heap.size+1]?=some p:=by
 have:=heap_alloc_last (w.alloc o) p
 rwa [show(w.alloc o).heap.size=w.heap.size+1 by simp]at this
attribute [irreducible] tab
set_option maxHeartbeats 400000 in
set_option maxRecDepth 100000 in
theorem Ql (w:World) :
 Calls Tryz.prog 253 #[] w fun e w'=>e = .returned (.agg (tab 256))∧(w.alloc (.cells (tab 256) 331)).alloc (.cells (tab 256) 331)=w':=by
 have hv331:=(zero_of_info tM).1;have hi331:=(zero_of_info tM).2
 go_enter Tryz.func253,Tryz.ntmps253
 go_wp2_with fail
 rw[Kp]
 go_loopg [3] 256 (fun g s3 wx=>∃ i:Nat,i+g=256∧s3 = .int .i64 i∧wx=(w.alloc (.cells (tab 0) 331)).alloc (.cells (tab i) 331))
 case atStart=>exact⟨0,by omega,rfl,rfl⟩
 case round=>
  obtain⟨i,hig,rfl,rfl⟩:=hrel;cases gk with
  | zero=>
   obtain rfl:i=256:=by omega
   clear hig;have hu:=(by kernel_rfl:Tryz.prog.underlying 331=some (.array 256 330));have hsz:(Tryz.prog.info? 331).map (·.size)=some (tab 256).size:=by rw[jG];exact hi331
   have hs2:(tab 0).size=(tab 256).size:=by rw[jG,jG]
   have h1:=Xi 256;have H:=Aside0.mk (And.intro hu (And.intro hsz (And.intro hs2 h1)));clear hu hsz hs2 h1 hv331 hi331
   go_wp2_with (first|(refine Yb rfl 331 _ rfl (w.heap.size+1) rfl (tab 256) 331 (An _ _ _) 256 330 H.out.1 H.out.2.1 ?_)|(refine sA rfl 331 _ _ rfl w.heap.size (tab 256) rfl rfl (tab 0) 331 (vK _ _ _) H.out.2.1 H.out.2.2.1 H.out.2.2.2 ?_;rw[Aa]))
   refine bodyPost_ret (v:=.agg (tab 256)) ?_ rfl ⟨rfl,rfl⟩;exact results_cell_row rfl _ _ w.heap.size 331 (tab 256) (0,0) _ rfl (vK _ _ _) H.out.1 rfl H.out.2.1
  | succ g=>
   have hi:i < 256:=by omega
   have HT:=Aside0.mk (Tx i hi);have hi32:i < 4294967296:=by omega
   obtain⟨v,hv⟩:∃ v,(tab i)[i]?=some v:=⟨_,Array.getElem?_eq_getElem (by rw[jG];exact hi)⟩;have HG:=Aside0.mk hig;clear hig hv331 hi331
   go_wp2_with (go_at_call 301;refine(xG i _ hi32).mono ?_;rintro e w' ⟨rfl,rfl⟩)
   go_roundg g
   case measure=>omega
   case rel=>exact⟨i+1,by have:=HG.out;omega,by first|rfl|simp,by rw[←HT.out]⟩
def Bx (t:ByteArray):List Nat:=t.data.toList.map UInt8.toNat
theorem Gc (w:World):Calls Tryz.prog 253 #[] w fun e w'=>e = .returned (.agg (tab 256))∧Below w.heap.size w w':=
 (Ql w).mono fun e w' ⟨h1,h2⟩=>⟨h1,h2▸((Below.refl _ _).alloc (Nat.le_refl _) _).alloc (by simp) _⟩
theorem Zt (x:Nat)(b:UInt8):Go.bits .xor .u8 ((x:Int) % 256) (b.toNat:Int)=(((x % 256) ^^^ b.toNat:Nat):Int):=by
 have e:((x:Int) % 256)=((x % 256:Nat):Int):=by omega
 rw[e];exact u8_xor_nat _ _ (by omega) b.toNat_lt
theorem Au (x:Nat)(b:UInt8):(x % 256) ^^^ b.toNat < 256:=Nat.xor_lt_two_pow (n:=8) (by omega) b.toNat_lt
theorem Lo (x:Nat)(b:UInt8)(h:x < 4294967296):Go.bits .xor .u32 ((x:Int) / 256) ((it 8 ((x % 256) ^^^ b.toNat):Nat):Int)=((stp x b.toNat:Nat):Int):=by
 have e:((x:Int) / 256)=((x / 256:Nat):Int):=by omega
 have hl:it 8 ((x % 256) ^^^ b.toNat) < 4294967296:=Ju 8 (Nat.lt_of_lt_of_le (Au x b) (by decide));rw[e,u32_xor_nat _ _ (by omega) hl,Mo];rfl
theorem aEu {x:Nat}(b:UInt8)(h:x < 4294967296):stp x b.toNat < 4294967296:=Ju 8 (Nat.xor_lt_two_pow (n:=32) h (by have:=b.toNat_lt;omega))
theorem wO (x:Nat)(h:x < 4294967296):Go.bits .xor .u32 IntKind.u32.max (x:Int)=((4294967295 - x:Nat):Int):=by
 have e:IntKind.u32.max=((4294967295:Nat):Int):=rfl;rw[e,u32_xor_nat _ _ (by omega) h,Eo h]
theorem Qf (t:ByteArray):(Bx t).length=t.size:=by simp[Bx]
theorem Ax (t:ByteArray)(k:Nat)(h:k < t.size):(Bx t).take (k+1)=(Bx t).take k++[t[k].toNat]:=by
 rw[List.take_succ_eq_append_getElem (by rw[Qf];exact h)];simp[Bx];rfl
theorem Bm (x0:Nat)(t:ByteArray)(k:Nat)(h:k < t.size):xF x0 ((Bx t).take (k+1))=stp (xF x0 ((Bx t).take k)) t[k].toNat:=by
 rw[Ax t k h,Nc,Cm,Mc]
theorem Bn (w:World)(o:Obj):(w.alloc o).heap[w.heap.size]?=some o:=heap_alloc_last w o
set_option maxHeartbeats 400000 in
set_option maxRecDepth 100000 in
theorem Iy (s:Nat)(t:ByteArray)(w:World)(hs:s < 4294967296)(ht:t.size≤140737488351232) :
 Calls Tryz.prog 181 #[.int .i64 (s:Int),.string t] w fun e w'=>e = .returned (.int .i64 ((sum s (Bx t):Nat):Int))∧Below w.heap.size w w':=by
 have hv331:=(zero_of_info tM).1;have hi331:=(zero_of_info tM).2;have hu:=(by kernel_rfl:Tryz.prog.underlying 331=some (.array 256 330));have hsz:(Tryz.prog.info? 331).map (·.size)=some (tab 256).size:=by rw[jG];exact hi331
 have hs2:(Array.replicate 256 (Value.int .u32 0)).size=(tab 256).size:=by rw[jG,Array.size_replicate]
 have h1:=Xi 256;have H:=Aside0.mk (And.intro hu (And.intro hsz (And.intro hs2 h1)));clear hu hsz hs2 h1 hi331;have q1:(s:Int)≤4294967295:=by omega
 have q0:0≤(s:Int):=by omega
 clear hs
 go_enter Tryz.func181,Tryz.ntmps181
 go_wp2_with (first|(go_at_call 253;refine(Gc _).mono ?_;rintro e w1 ⟨rfl,hb⟩;have HB:=Aside0.mk hb;clear hb)|(refine sA rfl 331 _ _ rfl _ (tab 256) rfl rfl _ 331 (Bn _ _) H.out.2.1 H.out.2.2.1 H.out.2.2.2 ?_;rw[World.setRow_alloc_new]))
 clear H hv331
 go_loop [6,20] (fun v6 v20=>∃(k x:Nat),k≤t.size∧x < 4294967296∧v20 = .int .i64 (k:Int)∧v6 = .int .u32 (x:Int)∧Aside0 (xF (4294967295 - s) ((Bx t).take k)=x)) (fun _ v20=>t.size - (intOf v20).toNat)
 case atStart=>
  have hs:s < 4294967296:=by omega
  exact⟨0,4294967295 - s,by omega,by omega,rfl,by rw[wO s hs],⟨by rw[List.take_zero,Mc]⟩⟩
 case round=>
  obtain⟨k,x,hk,hx,rfl,rfl,HX⟩:=hrel;clear q0 q1;by_cases hlt:k < t.size
  ·have HN:=Aside0.mk (Bm (4294967295 - s) t k hlt);obtain⟨b,hb⟩:∃ b:UInt8,t[k]=b:=⟨_,rfl⟩;rw[hb]at HN;have hn:=Au x b;have en:=Zt x b;have HB2:=Aside0.mk (Lo x b hx);have hx2:=aEu b hx;have hc:=Ux _ hn;generalize (x % 256) ^^^ b.toNat=n at *;have hx3:=Aside0.mk hx2;clear hx2
   go_wp2
   go_round
   case rel=>exact⟨k+1,stp x b.toNat,by omega,hx3.out,by go_num,by rw[HB2.out],⟨by rw[HN.out,HX.out]⟩⟩
   case measure=>simp[intOf];omega
  ·obtain rfl:k=t.size:=by omega
   have e:=wO x hx;have HS:sum s (Bx t)=4294967295 - x:=by rw[sum,←HX.out,←Qf,List.take_length]
   have hy:4294967295 - x < 4294967296:=by omega
   generalize 4294967295 - x=y at *;have HS':=Aside0.mk HS;clear HS HX
   go_wp2
   go_ret
   exact⟨by rw[HS'.out];rfl,HB.out.alloc HB.out.size _⟩
def rollI (s:Int)(t:ByteArray):Int:=if s < 0 then 0 else if s > 4294967295 then 0 else((sum s.toNat (Bx t):Nat):Int)
set_option maxHeartbeats 400000 in
theorem roll_calls (s:Int)(t:ByteArray)(w:World)(ht:t.size≤140737488351232) :
 Calls Tryz.prog 181 #[.int .i64 s,.string t] w fun e w'=>e = .returned (.int .i64 (rollI s t))∧Below w.heap.size w w':=by
 by_cases h0:s < 0
 ·rw[rollI,if_pos h0]
  go_enter Tryz.func181,Tryz.ntmps181
  go_wp2
  go_ret
  exact⟨rfl,Below.refl _ _⟩
 ·by_cases h1:s > 4294967295
  ·rw[rollI,if_neg h0,if_pos h1]
   go_enter Tryz.func181,Tryz.ntmps181
   go_wp2
   go_ret
   exact⟨rfl,Below.refl _ _⟩
  ·obtain⟨n,rfl⟩:=Int.eq_ofNat_of_zero_le (show 0≤s by omega);rw[rollI,if_neg h0,if_neg h1];exact Iy n t w (by omega) ht
end Go.Proofs.YtaimmacnafoanaaGreatDoor.CrcWalk
namespace Go.Proofs.YtaimmacnafoanaaGreatDoor.F
section
open Go Go.RowKit
theorem aKd (g:Gl)(s:Int)(t:List UInt8)(ht:t.length≤140737488351232):PC P0 g 181 [.int .i64 s,.str t] (.ret (.int .i64 (CrcWalk.rollI s ⟨⟨t⟩⟩))):=by
 intro w im xs hG him hx;obtain⟨x,y,rfl,h1,h2⟩:=hx.two;rw[h1.int_inv,h2.str_inv];refine(CrcWalk.roll_calls s ⟨⟨t⟩⟩ w ht).mono ?_;rintro e w' ⟨rfl,hb⟩;exact⟨⟨_,rfl,.int _ _⟩,hb⟩
end
section
open Go Go.RowKit Go.Proofs
def aTb:Int→Int
 | .ofNat n => .ofNat (n+1)
 | .negSucc _ => -1
def Ee:List UInt8→List UInt8→Int
 | [],sub=>if sub.isEmpty then 0 else -1
 | b::l,sub=>if sub.isPrefixOf (b::l)then 0 else aTb (Ee l sub)
theorem nN:∀(s sub:List UInt8),Lib.index s sub=Ee s sub
 | [],sub=>rfl
 | b::l,sub=>by
  simp only[Lib.index,Ee,nN l sub];split
  ·rfl
  ·have h:=Lib.index_ge l sub;rw[nN l sub]at h;cases hi:Ee l sub with
   | ofNat n=>rw[if_neg (by simp[beq_iff_eq])];rfl
   | negSucc n=>
    rw[hi]at h;have:(Int.negSucc n) = -1:=by omega
    rw[this];rfl
def aHe (s sep:List UInt8):List UInt8×List UInt8×Bool:=
 match Ee s sep with
 | .ofNat n=>(s.take n,s.drop (n+sep.length),true)
 | .negSucc _=>(s,[],false)
theorem aAr (s sep:List UInt8):Lib.cut s sep=aHe s sep:=by
 unfold Lib.cut aHe;rw[nN];cases h:Ee s sep with
 | ofNat n=>rw[if_pos (by simp)];rfl
 | negSucc n=>rw[if_neg (by omega)]
def Ns (sep:List UInt8):Nat→List UInt8→List (List UInt8)
 | 0,s=>[s]
 | k+1,s=>match Ee s sep with
  | .ofNat n=>s.take n::Ns sep k (s.drop (n+sep.length))
  | .negSucc _=>[s]
theorem Aj (sep:List UInt8):∀(k:Nat)(s:List UInt8),Lib.splitK sep 0 (Lib.countFrom sep k s) s=Ns sep k s
 | 0,s=>rfl
 | k+1,s=>by
  have h:=Lib.index_ge s sep;rw[nN]at h;simp only[Lib.countFrom,Ns,nN];cases hi:Ee s sep with
  | ofNat n=>
   rw[if_neg (by simp[beq_iff_eq]),Nat.add_comm 1];simp only[Lib.splitK,nN,hi];rw[if_neg (by simp[beq_iff_eq])];simp only[Int.ofNat_eq_natCast,Int.toNat_natCast,Nat.add_zero];rw[Aj]
  | negSucc n=>
   rw[hi]at h;have:(Int.negSucc n) = -1:=by omega
   rw[this];rfl
theorem Ms (s sep:List UInt8):Lib.split s sep=Ns sep (s.length+1) s:=Aj sep _ s
def Co:Nat→Nat→List UInt8→List UInt8
 | 0,_,l=>l
 | f+1,u,l=>if u < 10 then UInt8.ofNat (48+u)::l else Co f (u / 10) (UInt8.ofNat (48+u % 10)::l)
theorem Kb:∀(f u:Nat)(l:List UInt8),u < 10 ^ f→1≤f→Co f u l=Lib.decDigits u++l
 | 0,u,l,_,h=>by omega
 | f+1,u,l,h,_=>by
  rw[Co,Lib.decDigits];split
  ·rfl
  ·rename_i hu;have hf:1≤f:=by
    rcases Nat.eq_zero_or_pos f with rfl|h'
    ·simp at h;omega
    ·exact h'
   rw[Kb f _ _ (by rw[Nat.pow_succ]at h;omega) hf];simp
def Iu (n:Int):List UInt8:=match n with
 | .ofNat m=>Co 20 m []
 | .negSucc m=>45::Co 20 (m+1) []
theorem Hu (n:Int)(h0 : -9223372036854775808≤n)(h1:n≤9223372036854775807):Lib.itoa n=Iu n:=by
 unfold Lib.itoa Iu;cases n with
 | ofNat m=>
  simp only[Int.ofNat_eq_natCast]at h0 h1 ⊢;rw[if_neg (by omega),Kb _ _ _ (by omega) (by omega)];simp
 | negSucc m=>
  rw[if_pos (by omega)];show 45::Lib.decDigits (m+1)=45::Co 20 (m+1) [];rw[Kb _ _ _ (by omega) (by omega)];simp
def Jc:List V→Option (List (List UInt8))
 | []=>some []
 | .str s::l=>match Jc l with|some r=>some (s::r)|none=>none
 | _::_=>none
theorem Ic:∀{l:List V}{r:List (List UInt8)},Jc l=some r→l=r.map V.str
 | [],r,h=>by simp only[Jc]at h;cases h;rfl
 | v::l,r,h=>by
  cases v<;>simp only[Jc]at h<;>try cases h
  split at h
  ·rename_i q hq;cases h;rw[Ic hq];rfl
  ·cases h
def yQ (sep:List UInt8):List (List UInt8)→List UInt8
 | []=>[]
 | [x]=>x
 | x::l=>x++(sep++yQ sep l)
theorem Xd (sep:List UInt8):∀(l:List (List UInt8)),Lib.join l sep=yQ sep l
 | []=>rfl
 | [x]=>by simp[Lib.join,yQ,List.intercalate]
 | x::y::l=>by
  have:=Xd sep (y::l);simp only[Lib.join,yQ,List.intercalate,List.intersperse,List.flatten_cons]at this ⊢;rw[this]
theorem aJn (g:Gl)(n:Nat)(hn:n < 9223372036854775808):PC P0 g 273 [.int .u64 n] (.ret (.int .i64 (Lib.bitLen n:Nat))):=by
 intro w im xs hG him hx;obtain⟨x,rfl,h1⟩:=hx.one;rw[h1.int_inv];have:=calls_of_every_depth fun D=>AnySM.bits_LenIn {Tryz.sort267 with} D n w (by omega) (by omega);refine Calls.mono this ?_;rintro e w' ⟨rfl,rfl⟩;exact⟨⟨_,rfl,.int _ _⟩,Below.refl _ _⟩
def aFy (f:FuncId)(args:List V):Option Res:=
 match f,args with
 | 75,[.str s,.str sep]=>if s.length < 4294967281 then(match aHe s sep with|(a,b,c)=>some (.ret (.tup [.str a,.str b,.bool c])))else none
 | 223,[.str s,.str sep]=>if s.length < 4294967281∧1≤sep.length then some (.ret (.imm ((Ns sep (s.length+1) s).map V.str)))else none
 | 58,[.imm l,.str sep]=>(match Jc l with
  | some r=>if r.length≤140737488355328∧(yQ sep r).length≤140737488355328 then some (.ret (.str (yQ sep r)))else none
  | none=>none)
 | 120,[.int .i64 n]=>if -9223372036854775808≤n∧n≤9223372036854775807 then some (.ret (.str (Iu n)))else none
 | 224,[.str s]=>if s.length≤281474976710656 then some (.ret (.tup [.int .i64 (wX s),.any]))else none
 | 181,[.int .i64 s,.str t]=>if t.length≤140737488351232 then some (.ret (.int .i64 (CrcWalk.rollI s ⟨⟨t⟩⟩)))else none
 | 273,[.int .u64 (.ofNat n)]=>if n < 9223372036854775808 then some (.ret (.int .i64 (Lib.bitLen n:Nat)))else none
 | _,_=>none
theorem Az {g:Gl}(hg:GlOk g){f:FuncId}{args:List V}{r:Res}(h:aFy f args=some r):PC P0 g f args r:=by
 unfold aFy at h;split at h
 ·rename_i s sep;split at h
  ·rename_i hs;have:=aIz (g:=g) hg s sep hs;rw[aAr]at this;cases h;exact this
  ·cases h
 ·rename_i s sep;split at h
  ·rename_i hs;cases h;rw[←Ms];exact aDh hg s sep hs.1 hs.2
  ·cases h
 ·rename_i l sep;split at h
  ·rename_i r hr;split at h
   ·rename_i hs;cases h;rw[Ic hr];rw[←Xd]at hs ⊢;exact aJa r sep hs.1 hs.2
   ·cases h
  ·cases h
 ·rename_i n;split at h
  ·rename_i hs;cases h;rw[←Hu n hs.1 hs.2];exact aDm hg n hs.1 hs.2
  ·cases h
 ·rename_i s;split at h
  ·rename_i hs;cases h;exact aDg hg s hs
  ·cases h
 ·rename_i n t;split at h
  ·rename_i hs;cases h;exact aKd g n t hs
  ·cases h
 ·rename_i n;split at h
  ·rename_i hs;cases h;exact aJn g n hs
  ·cases h
 ·cases h
def Af:List (FuncId×List V×Res)→FuncId→List V→Option Res
 | [],_,_=>none
 | (f',a,r)::l,f,args=>if Nat.beq f f' && V.beqL args a then some r else Af l f args
theorem Ze {g:Gl}{f:FuncId}{args:List V}{r:Res}:∀{l:List (FuncId×List V×Res)},(∀ x∈l,PC P0 g x.1 x.2.1 x.2.2)→Af l f args=some r→PC P0 g f args r
 | [],_,h=>by simp[Af]at h
 | (f',a,r')::l,hl,h=>by
  simp only[Af]at h;split at h
  ·rename_i hc;simp only[Bool.and_eq_true]at hc;cases h;have e1:f=f':=Nat.eq_of_beq_eq_true hc.1;subst e1;rw[V.beqL_eq _ _ hc.2];exact hl _ (List.mem_cons_self)
  ·exact Ze (fun x hx=>hl x (List.mem_cons_of_mem _ hx)) h
def Yj:List V→Option (List Int)
 | []=>some []
 | .int .i64 n::l=>match Yj l with|some r=>some (n::r)|none=>none
 | _::_=>none
theorem Be:∀{l:List V}{r:List Int},Yj l=some r→l=r.map fun n=>V.int .i64 n
 | [],r,h=>by cases h;rfl
 | v::l,r,h=>by
  unfold Yj at h;split at h
  ·rename_i e;cases e
  ·rename_i n l' e;cases e;split at h
   ·rename_i r' hr;cases h;rw[Be hr];rfl
   ·cases h
  ·cases h
def Gj:List V→Option (List (Int×Int))
 | []=>some []
 | .agg [.int .i64 n,.int .i64 m]::l=>match Gj l with|some r=>some ((n,m)::r)|none=>none
 | _::_=>none
theorem Pc:∀{l:List V}{r:List (Int×Int)},Gj l=some r→l=r.map eR2
 | [],r,h=>by cases h;rfl
 | v::l,r,h=>by
  unfold Gj at h;split at h
  ·rename_i e;cases e
  ·rename_i n m l' e;cases e;split at h
   ·rename_i r' hr;cases h;rw[Pc hr];rfl
   ·cases h
  ·cases h
def aBd (H:aA)(b:Nat):Option (List V):=match H[b]? with
 | some (.row 1 [c] _)=>if c.isStr then none else(match c with | .agg _=>none|c=>bS H c)
 | _=>none
theorem Dl {H:aA}{b:Nat}{es:List V}(h:aBd H b=some es):∃ c ro,H[b]?=some (.row 1 [c] ro)∧bS H c=some es∧c.isStr=false∧c.cells=[c]:=by
 unfold aBd at h;split at h
 ·rename_i c ro hH;split at h
  ·cases h
  ·rename_i hs;split at h
   ·cases h
   ·rename_i hc;refine⟨c,ro,hH,h,by simpa using hs,?_⟩;cases c<;>first|rfl|exact absurd rfl (hc _)
 ·cases h
def aFz (f:FuncId)(args:List V)(H:aA):Option (V×aA):=
 match f,args with
 | 32,[.ptr b 0 0,.str s]=>(match H[b]? with
  | some (.bld t bs)=>if bs.length+s.length≤140737488355328 then some (.tup [.int .i64 s.length,.nili],H.set b (.bld t (bs++s)))else none
  | _=>none)
 | 183,[.ptr b 0 0,.int .u8 c]=>(match H[b]? with
  | some (.bld t bs)=>if(0≤c∧c < 256)∧bs.length+1≤140737488355328 then some (.nili,H.set b (.bld t (bs++[UInt8.ofNat c.toNat])))else none
  | _=>none)
 | 93,[.ptr b 0 0]=>(match H[b]? with
  | some (.bld t bs)=>some (.str bs,H.set b .dead)
  | _=>none)
 | 269,[.nils,.int .i64 (.ofNat n)]=>if 1≤n∧n≤1048576 then some (.sl H.length 0 0,H++[.row 2 [] false])else none
 | 207,[.fn 268 [] [.ptr b 0 0]]=>(match aBd H b with
  | some es=>(match Yj es with
   | some l=>if l.length≤1073741824 then some (.imm ((fX l).map fun n=>V.int .i64 n),H)else none
   | none=>none)
  | none=>none)
 | 216,[.fn 218 [] [.ptr b 0 0]]=>(match aBd H b with
  | some es=>(match Gj es with
   | some l=>if l.length≤1073741824 then some (.sl H.length 0 l.length,H++[.row 2 (l.map eR2) false])else none
   | none=>none)
  | none=>none)
 | _,_=>none
theorem Bz {g:Gl}{f:FuncId}{args:List V}{H H':aA}{v:V}(h:aFz f args H=some (v,H')):MC P0 g f args H v H':=by
 unfold aFz at h;split at h
 ·split at h
  ·rename_i hH;split at h
   ·rename_i hc;cases h;exact aSk g hH hc
   ·cases h
  ·cases h
 ·split at h
  ·rename_i hH;split at h
   ·rename_i hc;cases h;exact aKy g _ hc.1 hH hc.2
   ·cases h
  ·cases h
 ·split at h
  ·rename_i hH;cases h;exact aSj g hH
  ·cases h
 ·split at h
  ·rename_i hc;cases h;exact aKw g _ hc.1 hc.2
  ·cases h
 ·split at h
  ·rename_i es hes;split at h
   ·rename_i l hl;split at h
    ·rename_i hc;cases h;obtain⟨c,ro,h1,h2,h3,h4⟩:=Dl hes;rw[Be hl]at h2;exact aDq g h1 h2 h3 h4 hc
    ·cases h
   ·cases h
  ·cases h
 ·split at h
  ·rename_i es hes;split at h
   ·rename_i l hl;split at h
    ·rename_i hc;cases h;obtain⟨c,ro,h1,h2,h3,h4⟩:=Dl hes;rw[Pc hl]at h2;exact aKx g h1 h2 h3 h4 hc
    ·cases h
   ·cases h
  ·cases h
 ·cases h
noncomputable def X1 (l:List (FuncId×List V×Res)):XE where
 tb:=Wx
 pcm f:=!inX.contains f
 cln:=gZ
 cd:=Db.get
 df f:=Nat.beq f 28 || Nat.beq f 15
 po:=poX
 pt:=ptX
 orc f args:=match aFy f args with|some r=>some r|none=>Af l f args
 orm:=aFz
theorem kW (l:List (FuncId×List V×Res))(f:FuncId):∀(c:Code),jX (X1 l) f c=jX X0 f c
 | .seq a b=>by simp only[jX,kW l f a,kW l f b]
 | .cond _ a b=>by simp only[jX,kW l f a,kW l f b]
 | .block _ c=>by simp only[jX,kW l f c]
 | .loop c=>by simp only[jX,kW l f c]
 | .scope c=>by simp only[jX,kW l f c]
 | .region id ⟨ops⟩ true=>rfl
 | .region id ⟨ops⟩ false=>rfl
 | .skip | .label _ | .exit _ | .goto _ | .ret | .refuse _ | .rangeFunc ..=>rfl
theorem aEk {g:Gl}(hg:GlOk g){l:List (FuncId×List V×Res)}(hl:∀ x∈l,PC P0 g x.1 x.2.1 x.2.2):XOk (X1 l) (Ez g) where
 ok:=aTj g
 tb:=Vx
 pcm:=rfl
 cln:=rfl
 sp:=rfl
 cd f fn h:=BT.get_AllP Vn f fn h
 po f fn c h hb:=by
  have:=BT.get_AllP Ww f fn h;simp only[aV,hb]at this;rw[kW];exact this
 orc f args r h:=by
  simp only[X1]at h;split at h
  ·rename_i r' hr;cases h;exact Az hg hr
  ·exact Ze hl h
 orm f args H v H' h:=Bz h
theorem eR {g:Gl}(hg:GlOk g){l:List (FuncId×List V×Res)}(hl:∀ x∈l,PC P0 g x.1 x.2.1 x.2.2)(n:Nat){f:FuncId}{args:List V}{r:Res}(h:xpc (X1 l) (oK (X1 l) n) f args=some r):PC P0 g f args r:=Hl (aEk hg hl) n h
end
section
theorem fU (r:Rg):bV r=true ↔ 1≤r.most∧r.most≤1024∧1≤(r.buf.length:Int)∧(r.buf.length:Int)≤r.most∧0≤r.head∧r.head≤(r.buf.length:Int) - 1∧0≤r.many∧r.many≤r.buf.length:=by
 simp only[bV,eK,Bool.and_eq_true,decide_eq_true_eq,and_assoc]
theorem Bt {r:Rg}(h:(kS r).2.2=true):bV (kS r).1=true∧(kS r).1.most=r.most∧aX r=aX (kS r).1++[(kS r).2.1]:=by
 unfold kS at h ⊢;split at h
 case isFalse=>cases h
 rename_i hc;rw[if_pos hc];simp only[Bool.and_eq_true,Bool.not_eq_true',decide_eq_false_iff_not]at hc;obtain⟨h1,h2⟩:=hc;have hm:=(fU r).1 h1;refine⟨(fU _).2 ?_,rfl,?_⟩
 ·simp only;omega
 ·obtain⟨n,hn⟩:∃ n:Nat,r.many=n+1:=⟨(r.many - 1).toNat,by omega⟩;simp only[aX,hn];rw[show((n:Int)+1).toNat=n+1 from by omega,show((n:Int)+1 - 1).toNat=n from by omega,List.range_succ,List.map_append];simp only[List.map_cons,List.map_nil,Nat.add_sub_cancel];rfl
theorem Ct {r:Rg}(hm:bV r=true)(h:(kS r).2.2=false):aX r=[]:=by
 unfold kS at h;split at h
 ·cases h
 ·rename_i hc;rw[hm]at hc;have:r.many=0:=by simpa using hc
  simp[aX,this]
theorem Ph (r:Rg)(h:0 < r.buf.length)(i:Nat):cX (iS r) i=cX r (i+1):=by
 simp only[cX,cH,iS];congr 2;rw[Int.emod_add_emod];congr 1;omega
theorem Zd (r:Rg)(h:0 < r.buf.length)(k i:Nat):cX (eP r k) i=cX r (k+i):=by
 simp only[cX,cH,eP];congr 2;rw[Int.emod_add_emod];congr 1;omega
theorem Jp {r:Rg}(h:(lD r).2.2=true):bV (lD r).1=true∧(lD r).1.most=r.most∧aX r=(lD r).2.1::aX (lD r).1:=by
 unfold lD at h ⊢;split at h
 case isFalse=>cases h
 rename_i hc;rw[if_pos hc];simp only[Bool.and_eq_true,Bool.not_eq_true',decide_eq_false_iff_not]at hc;obtain⟨h1,h2⟩:=hc;have hm:=(fU r).1 h1;have hp:0 < r.buf.length:=by omega
 refine⟨(fU _).2 ?_,rfl,?_⟩
 ·have h3:=Int.emod_nonneg (r.head+1) (show(r.buf.length:Int)≠0 by omega);have h4:=Int.emod_lt_of_pos (r.head+1) (show(0:Int) < r.buf.length by omega);simp only[iS];omega
 ·obtain⟨n,hn⟩:∃ n:Nat,r.many=n+1:=⟨(r.many - 1).toNat,by omega⟩;have e:(iS r).many.toNat=n:=by simp only[iS];omega
  simp only[aX,e];rw[hn,show((n:Int)+1).toNat=n+1 from by omega,List.range_succ_eq_map,List.map_cons,List.map_map];congr 1;exact List.map_congr_left fun i _=>(Ph r hp i).symm
theorem Tu {r:Rg}(h1:bV r=true):bV (fN r).1=true∧(fN r).1.most=r.most∧aX r=(fN r).2++aX (fN r).1∧(fN r).2.length=kT r:=by
 have hm:=(fU r).1 h1;have hp:0 < r.buf.length:=by omega
 have hk:(kT r:Int)≤r.many:=by simp only[kT];omega
 generalize hkk:kT r=k at hk;have e2:(fN r).2=(List.range k).map (cX r):=by
  simp only[fN,part,hkk];exact List.map_congr_left fun i hi=>by rw[if_pos (List.mem_range.1 hi)]
 have e1:(fN r).1=eP r k:=by simp only[fN,hkk]
 rw[e1,e2];refine⟨(fU _).2 ?_,rfl,?_,by simp⟩
 ·have h3:=Int.emod_nonneg (r.head+k) (show(r.buf.length:Int)≠0 by omega);have h4:=Int.emod_lt_of_pos (r.head+k) (show(0:Int) < r.buf.length by omega);simp only[eP];omega
 ·obtain⟨n,hn⟩:∃ n:Nat,r.many=(k+n:Nat):=⟨(r.many - k).toNat,by omega⟩;have e:(eP r k).many.toNat=n:=by simp only[eP];omega
  simp only[aX,e];rw[hn,Int.toNat_natCast,List.range_add,List.map_append,List.map_map];congr 1;exact List.map_congr_left fun i _=>(Zd r hp k i).symm
theorem Tm (r:Rg)(h:bV r=true)(i:Nat)(hi:(i:Int) < r.many)(hf:r.many=r.buf.length):cX (fO r) i=cX r i:=by
 have hm:=(fU r).1 h;have hl:(aX r).length=r.many.toNat:=lG r;have hlen:(fO r).buf.length=r.many.toNat+((min (2*r.buf.length) r.most.toNat) - r.many.toNat):=by simp only[fO,List.length_append,List.length_replicate,hl]
 have hpl:cH (fO r) i=i:=by
  unfold cH;have:(fO r).head=0:=rfl;rw[this,Int.zero_add,Int.emod_eq_of_lt (by omega) (by omega)];rfl
 unfold cX;rw[hpl,List.getD_eq_getElem?_getD];simp only[fO];rw[List.getElem?_append_left (by omega)];simp only[aX,List.getElem?_map];rw[List.getElem?_range (by omega)];rfl
theorem Sm (r:Rg)(h:bV r=true):aX (dR r)=aX r:=by
 unfold dR;split
 ·rename_i hf;have hm:=(fU r).1 h;simp only[aX];have:(fO r).many=r.many:=rfl;rw[this];exact List.map_congr_left fun i hi=>Tm r h i (by have:=List.mem_range.1 hi;omega) hf
 ·rfl
theorem aBc (r:Rg)(h:bV r=true)(hlt:r.many < r.most):bV (dR r)=true∧(dR r).many=r.many∧(dR r).most=r.most∧r.many < (dR r).buf.length:=by
 have hm:=(fU r).1 h;unfold dR;split
 ·rename_i hf;have:=vL r h hf hlt;exact⟨this.1,rfl,rfl,this.2⟩
 ·exact⟨h,rfl,rfl,by omega⟩
theorem Yd (r:Rg)(x:Rf)(h:bV r=true)(hlt:r.many < r.most):aX (eS r x)=aX r++[x]:=by
 obtain⟨b1,b2,b3,b4⟩:=aBc r h hlt;rw[←Sm r h];have hm:=(fU _).1 b1;generalize hb:dR r=b at *;obtain⟨n,hn⟩:∃ n:Nat,r.many=n:=⟨r.many.toNat,by omega⟩;have e1:(eS r x)={b with buf:=b.buf.set (cH b n) x,many:=r.many+1}:=by simp only[eS,hb,hn,Int.toNat_natCast]
 have e2:b.many.toNat=n:=by omega
 rw[e1];simp only[aX,e2];rw[hn,show((n:Int)+1).toNat=n+1 from by omega,List.range_succ,List.map_append];have hpos:0 < b.buf.length:=by omega
 have key:∀ i:Nat,cH {b with buf:=b.buf.set (cH b n) x,many:=(n:Int)+1} i=cH b i:=by
  intro i;simp only[cH,List.length_set]
 congr 1
 ·refine List.map_congr_left fun i hi=>?_;have hi':=List.mem_range.1 hi;unfold cX;rw[key i];simp only[List.getD_eq_getElem?_getD];rw[List.getElem?_set_ne];intro e;have h1:=mO b i hpos;have h2:=mO b n hpos;have h5:(b.head+n) % (b.buf.length:Int)=(b.head+i) % (b.buf.length:Int):=by
   simp only[cH]at e;omega
  have h6:=Int.emod_emod_of_dvd (b.head+n) (Int.dvd_refl (b.buf.length:Int));have h7:=(Int.emod_eq_emod_iff_emod_sub_eq_zero).1 h5;rw[show b.head+(n:Int) - (b.head+i)=(n:Int) - i from by omega,Int.emod_eq_of_lt (by omega) (by omega)]at h7;omega
 ·simp only[List.map_cons,List.map_nil];congr 1;unfold cX;rw[key n];simp only[List.getD_eq_getElem?_getD];rw[List.getElem?_set_self (uN b n hpos)];rfl
theorem oI:∀(l:List Rf)(r:Rg),bV r=true→r.many+l.length≤r.most→aX (dC r l)=aX r++l
 | [],r,_,_=>by simp[dC]
 | x::l,r,h,hl=>by
  simp only[List.length_cons]at hl;have h1:=yG r x h (by omega);have:=oI l (eS r x) h1.1 (by rw[h1.2.1,h1.2.2];omega);simp only[dC,List.foldl_cons]at this ⊢;rw[this,Yd r x h (by omega),List.append_assoc];rfl
theorem Hj {r:Rg}{l:List Rf}(h:bV r=true)(h2:(fW r l).2=0):bV (fW r l).1=true∧(fW r l).1.most=r.most∧aX (fW r l).1=aX r++l:=by
 unfold fW at h2 ⊢;rw[if_pos h]at h2 ⊢;split at h2
 ·cases h2
 ·rename_i hc;rw[if_neg hc];have:=sL r l h (by omega);exact⟨this.1,this.2.2,oI l r h (by omega)⟩
end
section
open Go Go.RowKit
def gN (p:Pn)(r:Rf):Option Frm:=if(bM p r).2 then some (bM p r).1 else none
theorem fE {p:Pn}(hp:bN p=true){r:Rf}{f:Frm}:gN p r=some f ↔ 0≤r.at_∧∃ c,p.cells[r.at_.toNat]?=some c∧c.used=true∧c.gen=r.gen∧c.f=f:=by
 unfold gN bM;rw[hp,Bool.true_and];constructor
 ·intro h;by_cases hh:gA p r=true
  ·obtain⟨c,e1,e2,e3,e4,e5⟩:=gF hh;rw[if_pos hh,e1]at h;exact⟨e2,c,e1,e4,e5,by simpa using h⟩
  ·rw[if_neg hh]at h;simp at h
 ·rintro⟨h1,c,e1,e4,e5,e6⟩;have hlt:=(List.getElem?_eq_some_iff.1 e1).1;have hh:gA p r=true:=by
   unfold gA;rw[e1];simp only[e4,e5,beq_self_eq_true,Bool.and_self,Bool.and_true,eK];rw[Bool.and_eq_true,decide_eq_true_eq,decide_eq_true_eq];omega
  rw[if_pos hh,e1];simp[e6]
theorem Wh {p:Pn}{r:Rf}{f:Frm}(h:gN p r=some f):bM p r=(f,true):=by
 unfold gN at h;split at h
 ·rename_i h1;rw[Option.some.injEq]at h;exact Prod.ext h h1
 ·cases h
theorem Ek {p:Pn}{r:Rf}{f:Frm}(h:gN p r=some f):gA p r=true:=by
 have:=Wh h;exact(Ge (by rw[this])).2
def mF (P:Frm→Bool)(l:List Cel):Nat:=(l.filter fun c=>c.used && P c.f).length
def b1 (P:Frm→Bool)(c:Cel):Nat:=if c.used && P c.f then 1 else 0
theorem qL (P:Frm→Bool):∀(l:List Cel)(i:Nat)(c c0:Cel),l[i]?=some c0→mF P (l.set i c)+b1 P c0=mF P l+b1 P c
 | [],i,c,c0,h=>by simp at h
 | a::l,0,c,c0,h=>by
  simp at h;subst h;simp only[List.set_cons_zero,mF,List.filter_cons,b1];cases (a.used && P a.f)<;>cases (c.used && P c.f)<;>simp
 | a::l,i+1,c,c0,h=>by
  have:=qL P l i c c0 (by simpa using h);simp only[List.set_cons_succ,mF,List.filter_cons]at this ⊢;cases (a.used && P a.f)<;>simp<;>omega
theorem Mw (P:Frm→Bool)(l:List Cel)(c:Cel):mF P (l++[c])=mF P l+b1 P c:=by
 simp only[mF,List.filter_append,List.length_append,List.filter_cons,List.filter_nil,b1];cases (c.used && P c.f)<;>simp
theorem Lw {P:Frm→Bool}{l:List Cel}{c:Cel}(h:c∈l)(hu:c.used=true)(hP:P c.f=true):1≤mF P l:=
 List.length_pos_of_mem (List.mem_filter.2 ⟨h,by simp[hu,hP]⟩)
theorem lP (l:List Int):(fX l).Perm l:=by
 induction l with
 | nil=>exact List.Perm.refl _
 | cons x l ih=>exact(vG x _).trans (ih.cons x)
theorem Qh (x:Int)(l:List Int)(h:l.Pairwise (·≤·)):(Rh x l).Pairwise (·≤·):=by
 induction l with
 | nil=>simp[Rh]
 | cons y l ih=>
  rw[List.pairwise_cons]at h;simp only[Rh];split
  ·rename_i hx;rw[List.pairwise_cons,List.pairwise_cons];refine⟨fun z hz=>?_,h⟩;rcases List.mem_cons.1 hz with rfl|hz
   ·exact hx
   ·exact Int.le_trans hx (h.1 z hz)
  ·rename_i hx;rw[List.pairwise_cons];refine⟨fun z hz=>?_,ih h.2⟩;rcases(Zj x z l).1 hz with rfl|hz
   ·omega
   ·exact h.1 z hz
theorem qD (l:List Int):(fX l).Pairwise (·≤·):=by
 induction l with
 | nil=>exact List.Pairwise.nil
 | cons x l ih=>exact Qh x _ ih
theorem qY:∀(l m:List Int),l.Pairwise (·≤·)→m.Pairwise (·≤·)→l.Perm m→l=m
 | [],m,_,_,h=>by simpa using h.symm.eq_nil
 | x::l,[],_,_,h=>by simpa using h.eq_nil
 | x::l,y::m,hl,hm,h=>by
  rw[List.pairwise_cons]at hl hm;have e:x=y:=by
   have h1:x∈y::m:=h.subset (by simp);have h2:y∈x::l:=h.symm.subset (by simp);rcases List.mem_cons.1 h1 with e|h1
   ·exact e
   ·rcases List.mem_cons.1 h2 with e|h2
    ·exact e.symm
    ·have:=hm.1 x h1;have:=hl.1 y h2;omega
  subst e;rw[qY l m hl.2 hm.2 (List.Perm.cons_inv h)]
theorem Kn (l:List Cel):∀ k,(cE k l).Pairwise (· < ·):=by
 induction l with
 | nil=>intro k;exact List.Pairwise.nil
 | cons c l ih=>
  intro k;simp only[cE];split
  ·simpa using ih (k+1)
  ·rw[List.singleton_append,List.pairwise_cons];refine⟨fun y hy=>?_,ih _⟩;obtain⟨i,c,_,_,e⟩:=(vQ l y (k+1)).1 hy;omega
theorem oJ (l:List Cel)(k:Nat):(cE k l).Pairwise (·≤·):=(Kn l k).imp (by intro a b h;omega)
theorem vP:∀(l:List Cel)(i:Nat)(c c0:Cel)(k:Nat),l[i]?=some c0→c.used=c0.used→cE k (l.set i c)=cE k l
 | [],i,c,c0,k,h,_=>by simp at h
 | a::l,0,c,c0,k,h,hu=>by simp at h;subst h;simp[cE,hu]
 | a::l,i+1,c,c0,k,h,hu=>by simp only[List.set_cons_succ,cE];rw[vP l i c c0 (k+1) (by simpa using h) hu]
theorem rN:∀(l:List Cel)(i:Nat)(c c0:Cel)(k:Nat),l[i]?=some c0→c0.used=false→c.used=true→(cE k l).Perm (((k+i:Nat):Int)::cE k (l.set i c))
 | [],i,c,c0,k,h,_,_=>by simp at h
 | a::l,0,c,c0,k,h,h0,h1=>by simp at h;subst h;simp[cE,h0,h1]
 | a::l,i+1,c,c0,k,h,h0,h1=>by
  have:=rN l i c c0 (k+1) (by simpa using h) h0 h1;simp only[List.set_cons_succ,cE];rw[show k+(i+1)=k+1+i from by omega];split
  ·simpa using this
  ·exact(this.cons _).trans (List.Perm.swap _ _ _)
theorem kB (p:Pn):bN p=true ↔ 1≤p.most∧p.most≤1024∧(p.cells.length:Int)≤p.most∧(∀ c∈p.cells,0≤c.gen∧c.gen≤4294967295)∧cE 0 p.cells=fX p.free:=by
 simp only[bN,eK,Bool.and_eq_true,decide_eq_true_eq,and_assoc,List.all_eq_true,sV]
theorem nX {P:Cel→Prop}{l:List Cel}(h:∀ c∈l,P c)(i:Nat){c:Cel}(hc:P c):∀ d∈l.set i c,P d:=by
 intro d hd;rcases List.mem_or_eq_of_mem_set hd with hd|rfl
 ·exact h d hd
 ·exact hc
theorem oR {x y:Rf}(h1:x.at_=y.at_)(h2:x.gen=y.gen):x=y:=by cases x;cases y;cases h1;cases h2;rfl
theorem pM {p:Pn}(hp:bN p=true){q:Rf}{f0:Frm}(hq:gN p q=some f0)(f:Frm) :
 bN (bI p q f).1=true∧(bI p q f).1.most=p.most∧(∀ x,gN (bI p q f).1 x=if x=q then some f else gN p x)∧
 (∀ P,mF P (bI p q f).1.cells+(if P f0 then 1 else 0)=mF P p.cells+(if P f then 1 else 0))∧(bI p q f).1.cells.length=p.cells.length:=by
 have hh:=Ek hq;obtain⟨h0,c,e1,e2,e3,e4⟩:=(fE hp).1 hq;have hlt:=(List.getElem?_eq_some_iff.1 e1).1;have e:(bI p q f).1={p with cells:=p.cells.set q.at_.toNat ⟨c.gen,c.used,f⟩}:=by
  unfold bI;rw[if_pos hp,if_pos hh,e1]
 rw[e];have hm:=(kB p).1 hp;have hp':bN {p with cells:=p.cells.set q.at_.toNat ⟨c.gen,c.used,f⟩}=true:=by
  refine(kB _).2 ⟨hm.1,hm.2.1,by simpa using hm.2.2.1,nX hm.2.2.2.1 _ (hm.2.2.2.1 c (List.mem_of_getElem? e1)),?_⟩;simp only;rw[vP p.cells _ ⟨c.gen,c.used,f⟩ c 0 e1 rfl,hm.2.2.2.2]
 refine⟨hp',rfl,fun x=>?_,fun P=>?_,by simp⟩
 ·refine Option.ext fun g=>?_;rw[fE hp'];simp only;by_cases hx:x=q
  ·subst hx;rw[if_pos rfl,List.getElem?_set_self hlt];constructor
   ·rintro⟨_,c',h1,_,_,h4⟩;cases h1;simp only at h4;rw[h4]
   ·intro h;cases h;exact⟨h0,_,rfl,e2,e3,rfl⟩
  ·rw[if_neg hx,fE hp];constructor
   ·rintro⟨h1,c',h2,h3,h4,h5⟩;by_cases hn:q.at_.toNat=x.at_.toNat
    ·rw[←hn,List.getElem?_set_self hlt]at h2;cases h2;exact absurd (oR (by omega) (by rw[←h4];exact e3)) hx
    ·rw[List.getElem?_set_ne hn]at h2;exact⟨h1,c',h2,h3,h4,h5⟩
   ·rintro⟨h1,c',h2,h3,h4,h5⟩;by_cases hn:q.at_.toNat=x.at_.toNat
    ·rw[←hn,e1]at h2;cases h2;exact absurd (oR (by omega) (by rw[←h4];exact e3)) hx
    ·exact⟨h1,c',by rw[List.getElem?_set_ne hn];exact h2,h3,h4,h5⟩
 ·have:=qL P p.cells q.at_.toNat ⟨c.gen,c.used,f⟩ c e1;simp only[b1,e2,Bool.true_and,e4]at this;simp only[e2];exact this
theorem Ix (a:Int):0≤pD .i64 a 4294967295∧pD .i64 a 4294967295≤4294967295:=by
 have h:(BitVec.ofInt 64 a &&& BitVec.ofInt 64 4294967295).toNat≤4294967295:=by
  rw[BitVec.toNat_and];exact Nat.le_trans Nat.and_le_right (by decide)
 unfold pD;have e:IntKind.i64.bits=64:=rfl;rw[e];rw[IntWalk.i64_in _ (by omega)];omega
theorem Ew {p:Pn}(hp:bN p=true){q:Rf}{f0:Frm}(hq:gN p q=some f0) :
 bN (aR p q).1=true∧(aR p q).1.most=p.most∧(∀ x,gN (aR p q).1 x=if x=q then none else gN p x)∧
 (∀ P,mF P (aR p q).1.cells+(if P f0 then 1 else 0)=mF P p.cells)∧(aR p q).1.cells.length=p.cells.length:=by
 have hh:=Ek hq;obtain⟨h0,c,e1,e2,e3,e4⟩:=(fE hp).1 hq;have hlt:=(List.getElem?_eq_some_iff.1 e1).1;have e:(aR p q).1={p with cells:=p.cells.set q.at_.toNat ⟨fI c.gen,false,cZ⟩,free:=p.free++[q.at_]}:=by
  unfold aR;rw[if_pos hp,if_pos hh,e1]
 rw[e];have hm:=(kB p).1 hp;have hp':bN {p with cells:=p.cells.set q.at_.toNat ⟨fI c.gen,false,cZ⟩,free:=p.free++[q.at_]}=true:=by
  refine(kB _).2 ⟨hm.1,hm.2.1,by simpa using hm.2.2.1,nX hm.2.2.2.1 _ (Ix _),?_⟩;simp only;refine qY _ _ (oJ _ _) (qD _) ?_;have h1:=rN (p.cells.set q.at_.toNat ⟨fI c.gen,false,cZ⟩) q.at_.toNat c ⟨fI c.gen,false,cZ⟩ 0 (List.getElem?_set_self hlt) rfl e2;have h2:p.cells.set q.at_.toNat c=p.cells:=by
   have e5:=(List.getElem?_eq_some_iff.1 e1).2;rw[←e5];exact List.set_getElem_self hlt
  rw[List.set_set,h2,Nat.zero_add,show((q.at_.toNat:Nat):Int)=q.at_ from by omega,hm.2.2.2.2]at h1;refine h1.trans (((lP p.free).cons _).trans ?_);exact(List.perm_append_singleton _ _).symm.trans (lP _).symm
 refine⟨hp',rfl,fun x=>?_,fun P=>?_,by simp⟩
 ·refine Option.ext fun g=>?_;rw[fE hp'];simp only;by_cases hx:x=q
  ·subst hx;rw[if_pos rfl,List.getElem?_set_self hlt];constructor
   ·rintro⟨_,c',h1,h2,_,h4⟩;cases h1;cases h2
   ·intro h;cases h
  ·rw[if_neg hx,fE hp];constructor
   ·rintro⟨h1,c',h2,h3,h4,h5⟩;by_cases hn:q.at_.toNat=x.at_.toNat
    ·rw[←hn,List.getElem?_set_self hlt]at h2;cases h2;cases h3
    ·rw[List.getElem?_set_ne hn]at h2;exact⟨h1,c',h2,h3,h4,h5⟩
   ·rintro⟨h1,c',h2,h3,h4,h5⟩;by_cases hn:q.at_.toNat=x.at_.toNat
    ·rw[←hn,e1]at h2;cases h2;exact absurd (oR (by omega) (by rw[←h4];exact e3)) hx
    ·exact⟨h1,c',by rw[List.getElem?_set_ne hn];exact h2,h3,h4,h5⟩
 ·have:=qL P p.cells q.at_.toNat ⟨fI c.gen,false,cZ⟩ c e1;simp only[b1,e2,Bool.true_and,e4,Bool.false_and,Bool.false_eq_true,if_false]at this;exact this
theorem Jz {p:Pn}(hp:bN p=true)(f:Frm)(h:(cC p f).2.2=0) :
 bN (cC p f).1=true∧(cC p f).1.most=p.most∧gN p (cC p f).2.1=none∧0≤(cC p f).2.1.at_∧
 (∀ x,gN (cC p f).1 x=if x=(cC p f).2.1 then some f else gN p x)∧(∀ P,mF P (cC p f).1.cells=mF P p.cells+(if P f then 1 else 0))∧(cC p f).1.free.length≤p.free.length:=by
 have hm:=(kB p).1 hp;have hfl:=Oe p f;unfold cC at h hfl ⊢;rw[if_pos hp]at h hfl ⊢;cases hr:p.free.reverse with
 | cons a r=>
  have hfr:p.free=r.reverse++[a]:=by rw[←List.reverse_reverse p.free,hr];simp
  obtain⟨c,e1,e2,e3,e4⟩:=sN hp (show a∈p.free by rw[hfr];simp);rw[hr]at h hfl;simp only[e1]at h hfl ⊢;have hlt:=(List.getElem?_eq_some_iff.1 e1).1;have et:p.free.take (p.free.length - 1)=r.reverse:=by rw[hfr];simp
  have hp':bN ⟨p.cells.set a.toNat ⟨c.gen,true,f⟩,p.free.take (p.free.length - 1),p.most⟩=true:=by
   refine(kB _).2 ⟨hm.1,hm.2.1,by simpa using hm.2.2.1,nX hm.2.2.2.1 _ (hm.2.2.2.1 c (List.mem_of_getElem? e1)),?_⟩;simp only;refine qY _ _ (oJ _ _) (qD _) ?_;have h1:=rN p.cells a.toNat ⟨c.gen,true,f⟩ c 0 e1 e2 rfl;rw[Nat.zero_add,show((a.toNat:Nat):Int)=a from by omega,hm.2.2.2.2]at h1;have h2:=h1.symm.trans (lP p.free);rw[et];rw[hfr]at h2;exact((List.Perm.cons_inv (h2.trans (List.perm_append_singleton _ _))).trans (lP _).symm)
  refine⟨hp',trivial,?_,e3,fun x=>?_,fun P=>?_,hfl⟩
  ·cases hg:gN p ⟨a,c.gen⟩with
   | none=>rfl
   | some g=>
    obtain⟨_,c',h1,h2,_⟩:=(fE hp).1 hg;simp only at h1;rw[e1]at h1;cases h1;rw[e2]at h2;cases h2
  ·refine Option.ext fun g=>?_;rw[fE hp'];simp only;by_cases hx:x=⟨a,c.gen⟩
   ·subst hx;rw[if_pos rfl];simp only;rw[List.getElem?_set_self hlt];constructor
    ·rintro⟨_,c',h1,_,_,h4⟩;cases h1;simp only at h4;rw[h4]
    ·intro h;cases h;exact⟨e3,_,rfl,rfl,rfl,rfl⟩
   ·rw[if_neg hx,fE hp];constructor
    ·rintro⟨h1,c',h2,h3,h4,h5⟩;by_cases hn:a.toNat=x.at_.toNat
     ·rw[←hn,List.getElem?_set_self hlt]at h2;cases h2;exact absurd (oR (by simp only;omega) (by rw[←h4])) hx
     ·rw[List.getElem?_set_ne hn]at h2;exact⟨h1,c',h2,h3,h4,h5⟩
    ·rintro⟨h1,c',h2,h3,h4,h5⟩;by_cases hn:a.toNat=x.at_.toNat
     ·rw[←hn,e1]at h2;cases h2;rw[e2]at h3;cases h3
     ·exact⟨h1,c',by rw[List.getElem?_set_ne hn];exact h2,h3,h4,h5⟩
  ·have:=qL P p.cells a.toNat ⟨c.gen,true,f⟩ c e1;simp only[b1,e2,Bool.true_and,Bool.false_and,Bool.false_eq_true,if_false,Nat.add_zero]at this;exact this
 | nil=>
  have hfr:p.free=[]:=by simpa using hr
  rw[hr]at h hfl;simp only at h hfl ⊢;split at h
  ·cases h
  ·rename_i hc;rw[if_neg hc]at hfl ⊢;have hc':¬(p.cells.length:Int)=p.most:=by simpa using hc
   have hp':bN ⟨p.cells++[⟨0,true,f⟩],[],p.most⟩=true:=by
    refine(kB _).2 ⟨hm.1,hm.2.1,by simp only[List.length_append,List.length_cons,List.length_nil];omega,?_,?_⟩
    ·intro c hcm;simp only[List.mem_append,List.mem_singleton]at hcm;rcases hcm with hcm|rfl
     ·exact hm.2.2.2.1 c hcm
     ·exact⟨by simp,by simp⟩
    ·simp only;rw[vR];have:=hm.2.2.2.2;rw[hfr]at this;rw[this];simp[cE]
   refine⟨hp',rfl,?_,by simp only;omega,fun x=>?_,fun P=>?_,hfl⟩
   ·cases hg:gN p ⟨p.cells.length,0⟩with
    | none=>rfl
    | some g=>
     obtain⟨_,c',h1,_⟩:=(fE hp).1 hg;simp only[Int.toNat_natCast]at h1;simp at h1
   ·refine Option.ext fun g=>?_;rw[fE hp'];simp only;by_cases hx:x=⟨p.cells.length,0⟩
    ·subst hx;rw[if_pos rfl];simp only[Int.toNat_natCast,List.getElem?_concat_length];constructor
     ·rintro⟨_,c',h1,_,_,h4⟩;cases h1;simp only at h4;rw[h4]
     ·intro h;cases h;exact⟨by omega,_,rfl,rfl,rfl,rfl⟩
    ·rw[if_neg hx,fE hp];constructor
     ·rintro⟨h1,c',h2,h3,h4,h5⟩;by_cases hn:x.at_.toNat < p.cells.length
      ·rw[List.getElem?_append_left hn]at h2;exact⟨h1,c',h2,h3,h4,h5⟩
      ·rw[List.getElem?_append_right (by omega)]at h2;by_cases h6:x.at_.toNat - p.cells.length=0
       ·rw[h6]at h2;simp at h2;subst h2;exact absurd (oR (by simp only;omega) (by rw[←h4])) hx
       ·rw[List.getElem?_eq_none (by simp;omega)]at h2;cases h2
     ·rintro⟨h1,c',h2,h3,h4,h5⟩;have hn:=(List.getElem?_eq_some_iff.1 h2).1;exact⟨h1,c',by rw[List.getElem?_append_left hn];exact h2,h3,h4,h5⟩
   ·rw[Mw];simp[b1]
end
section
open Go Go.RowKit
def iI (f f':Frm):Prop:=f'.slots.length=f.slots.length∧∀(i:Nat)(s:Slt),s.state=1→(f'.slots[i]?=some s ↔ f.slots[i]?=some s)
def qC (f f':Frm):Prop:=f'.up=f.up∧f'.upSlot=f.upSlot∧f'.fn=f.fn∧f'.seed=f.seed∧f'.locals.length=f.locals.length
inductive DoR (f:Frm):Frm×Act→Prop
 | go (f':Frm) (a:Act) (h1:a.kind=1) (h2:f'.state=0) (h3:f'.wait=f.wait) (h4:qC f f') (h5:iI f f') (h6:f'.spawned=f.spawned) (h7:f'.draws=f.draws∨f'.draws=f.draws+1):DoR f (f',a)
 | wait (a:Int) (h1:0≤a) (h2:∃ s,f.slots[a.toNat]?=some s∧s.state=1):DoR f ({f with state:=1,wait:=a},{kA with kind:=3})
 | spawn (f':Frm) (a:Act) (s:Slt) (h1:a.kind=2) (h2:f'.state=0) (h3:f'.wait=f.wait) (h4:qC f f') (h5:0≤a.slot) (h6:f.slots[a.slot.toNat]?=some s) (h7:s.state=0) (h8:f'.slots=f.slots.set a.slot.toNat bY) (h9:f'.spawned=f.spawned+1) (h10:f'.draws=f.draws):DoR f (f',a)
 | fin (f':Frm) (a:Act) (h1:a.kind=4) (h2:f'.state=2) (h3:f'.wait=f.wait) (h4:qC f f') (h5:iI f f') (h6:f'.spawned=f.spawned) (h7:f'.draws=f.draws):DoR f (f',a)
theorem iI.rfl' {f f':Frm}(h:f'.slots=f.slots):iI f f':=by unfold iI;rw[h];exact⟨rfl,fun _ _ _=>Iff.rfl⟩
theorem qC.rfl' {f f':Frm}(h1:f'.up=f.up)(h2:f'.upSlot=f.upSlot)(h3:f'.fn=f.fn)(h4:f'.seed=f.seed)(h5:f'.locals.length=f.locals.length):qC f f':=⟨h1,h2,h3,h4,h5⟩
theorem pQ {f:Frm}{a:Int}{s t:Slt}(h:f.slots[a.toNat]?=some s)(hs:s.state≠1)(ht:t.state≠1):iI f (bC f a t):=by
 refine⟨by simp[bC],fun i u hu=>?_⟩;simp only[bC];by_cases hi:a.toNat=i
 ·subst hi;rw[List.getElem?_set_self (List.getElem?_eq_some_iff.1 h).1,h];constructor
  ·intro e;cases e;exact absurd hu ht
  ·intro e;cases e;exact absurd hu hs
 ·rw[List.getElem?_set_ne hi]
theorem aFu {x:Ins}(h:fH x=true)(h14:x.op=14):0≤x.a:=by
 simp only[fH,gJ,h14,Bool.and_eq_true,xJ,decide_eq_true_eq]at h;simp at h;omega
theorem aFv {x:Ins}(h:fH x=true)(h13:x.op=13):0≤x.a∧x.a≤15∧0≤x.b∧x.b≤7:=by
 simp only[fH,gJ,h13,Bool.and_eq_true,xJ,decide_eq_true_eq]at h;simp at h;omega
theorem Oy (f:Frm)(x:Ins)(h0:f.state=0):DoR f (gC f x,eG):=by
 have A:∀ f':Frm,f'.state=f.state→f'.wait=f.wait→f'.up=f.up→f'.upSlot=f.upSlot→f'.fn=f.fn→f'.seed=f.seed→f'.locals.length=f.locals.length→f'.slots=f.slots→f'.spawned=f.spawned→(f'.draws=f.draws∨f'.draws=f.draws+1)→DoR f (f',eG):=
  fun f' a b c d e g h i j k => .go f' eG rfl (a.trans h0) b ⟨c,d,e,g,h⟩ (.rfl' i) j k
 unfold gC;split
 ·exact A _ rfl rfl rfl rfl rfl rfl rfl rfl rfl (.inl rfl)
 split
 ·split
  ·exact A _ rfl rfl rfl rfl rfl rfl rfl rfl rfl (.inl rfl)
  ·exact A _ rfl rfl rfl rfl rfl rfl rfl rfl rfl (.inl rfl)
 split
 ·exact A _ rfl rfl rfl rfl rfl rfl (by simp[cG]) rfl rfl (.inl rfl)
 split
 ·exact A _ rfl rfl rfl rfl rfl rfl rfl rfl rfl (.inl rfl)
 split
 ·exact A _ rfl rfl rfl rfl rfl rfl rfl rfl rfl (.inl rfl)
 split
 ·exact A _ rfl rfl rfl rfl rfl rfl rfl rfl rfl (.inl rfl)
 split
 ·exact A _ rfl rfl rfl rfl rfl rfl rfl rfl rfl (.inl rfl)
 split
 ·exact A _ rfl rfl rfl rfl rfl rfl rfl rfl rfl (.inl rfl)
 split
 ·exact A _ rfl rfl rfl rfl rfl rfl rfl rfl rfl (.inr rfl)
 ·exact A _ rfl rfl rfl rfl rfl rfl rfl rfl rfl (.inl rfl)
theorem aSd (p:List Fun)(f:Frm)(x:Ins)(h0:f.state=0)(hm:fH x=true)(hx:fD p f x=true):DoR f (jS p f x):=by
 unfold jS;split
 ·exact .fin _ _ rfl rfl rfl ⟨rfl,rfl,rfl,rfl,rfl⟩ (.rfl' rfl) rfl rfl
 split
 ·exact .fin _ _ rfl rfl rfl ⟨rfl,rfl,rfl,rfl,rfl⟩ (.rfl' rfl) rfl rfl
 split
 ·rename_i h13;have hb:=aFv hm h13;unfold fD at hx;rw[if_neg (by omega),if_neg (by omega),if_pos h13]at hx;simp only[Bool.and_eq_true,decide_eq_true_eq]at hx;have he:=List.getElem?_eq_getElem (show x.b.toNat < f.slots.length by omega);unfold fJ;rw[he];simp only;split
  ·rename_i hs;exact .spawn _ _ _ rfl h0 rfl ⟨rfl,rfl,rfl,rfl,rfl⟩ hb.2.2.1 he hs rfl rfl rfl
  ·exact .fin _ _ rfl rfl rfl ⟨rfl,rfl,rfl,rfl,rfl⟩ (.rfl' rfl) rfl rfl
 split
 ·rename_i h14;have ha:=aFu hm h14;unfold fD at hx;rw[if_neg (by omega),if_pos h14]at hx;simp only[decide_eq_true_eq]at hx;have he:=List.getElem?_eq_getElem (show x.a.toNat < f.slots.length by omega);unfold eT;rw[he];simp only;split
  ·rename_i hs;exact .wait _ ha ⟨_,he,hs⟩
  split
  ·rename_i h1 hs;split
   ·exact .go _ _ rfl h0 rfl ⟨rfl,rfl,rfl,rfl,rfl⟩ (pQ he h1 (by decide)) rfl (.inl rfl)
   ·exact .fin _ _ rfl rfl rfl ⟨rfl,rfl,rfl,rfl,rfl⟩ (pQ he h1 (by decide)) rfl rfl
  ·exact .fin _ _ rfl rfl rfl ⟨rfl,rfl,rfl,rfl,rfl⟩ (.rfl' rfl) rfl rfl
 split
 ·unfold fY;split
  ·split
   ·exact .fin _ _ rfl rfl rfl ⟨rfl,rfl,rfl,rfl,rfl⟩ (.rfl' rfl) rfl rfl
   ·exact .go _ _ rfl h0 rfl ⟨rfl,rfl,rfl,rfl,rfl⟩ (.rfl' rfl) rfl (.inl rfl)
  ·exact .go _ _ rfl h0 rfl ⟨rfl,rfl,rfl,rfl,rfl⟩ (.rfl' rfl) rfl (.inl rfl)
 ·exact Oy f x h0
theorem aTk (p:List Fun)(f:Frm)(h0:f.state=0)(h1:0≤f.fn∧f.fn < p.length):DoR f (kI p f):=by
 unfold kI;rw[if_pos ⟨h0,h1⟩];have he:=List.getElem?_eq_getElem (show f.fn.toNat < p.length by omega);rw[he];simp only;split
 ·rename_i x hx;obtain⟨_,_,h2,h3⟩:=tZ hx;split
  ·exact aSd p f x h0 h2 h3
  ·exact .fin _ _ rfl rfl rfl ⟨rfl,rfl,rfl,rfl,rfl⟩ (.rfl' rfl) rfl rfl
 ·exact .fin _ _ rfl rfl rfl ⟨rfl,rfl,rfl,rfl,rfl⟩ (.rfl' rfl) rfl rfl
theorem aGm {f:Frm}{n:Int}{s:Slt}(h0:0≤n)(h1:f.slots[n.toNat]?=some s)(h2:s.state=1)(o:Outc) :
 kH f n o=fQ f n o∧qC f (fQ f n o)∧(fQ f n o).slots=f.slots.set n.toNat ⟨2,dN,o⟩∧(fQ f n o).spawned=f.spawned∧(fQ f n o).draws=f.draws∧
 ((fQ f n o).state=f.state∧(fQ f n o).wait=f.wait∧¬(f.state=1∧f.wait=n)∨f.state=1∧f.wait=n∧(fQ f n o).state=0):=by
 have hl:=(List.getElem?_eq_some_iff.1 h1).1;have hg:jM f n=true:=by
  unfold jM;rw[h1];simp only[fR,h2,beq_self_eq_true,Bool.and_true,Bool.and_eq_true,decide_eq_true_eq];omega
 refine⟨by rw[kH,if_pos hg],?_⟩;unfold fQ;by_cases hc:(f.state == 1 && f.wait == n)=true
 ·rw[if_pos hc];simp only[Bool.and_eq_true,beq_iff_eq]at hc;exact⟨⟨rfl,rfl,rfl,rfl,rfl⟩,rfl,rfl,rfl,.inr ⟨hc.1,hc.2,rfl⟩⟩
 ·rw[if_neg hc];simp only[Bool.and_eq_true,beq_iff_eq]at hc;exact⟨⟨rfl,rfl,rfl,rfl,rfl⟩,rfl,rfl,rfl,.inl ⟨rfl,rfl,hc⟩⟩
theorem zA (f:Frm):(cJ f).2=true ↔ f.state=2∧f.slots.any fR=false:=by
 unfold cJ;split
 ·rename_i h;simp only[Bool.or_eq_true,bne_iff_ne,ne_eq]at h;constructor
  ·intro h;cases h
  ·rintro⟨h1,h2⟩;rcases h with h|h
   ·exact absurd h1 h
   ·rw[h2]at h;cases h
 ·rename_i h;simp only[Bool.or_eq_true,bne_iff_ne,ne_eq,not_or,Decidable.not_not,Bool.not_eq_true]at h;constructor
  ·intro _;exact h
  ·intro _;split
   ·rfl
   ·split<;>rfl
end
section
open Go Go.RowKit
def rc (l:List Rg)(x:Rf):Nat:=(l.flatMap aX).count x
def Ah (l:List Rg):Nat:=(l.flatMap aX).length
theorem rC (x:Rf):∀(l:List Rg)(i:Nat)(a b:Rg),l[i]?=some a→rc (l.set i b) x+(aX a).count x=rc l x+(aX b).count x
 | [],i,a,b,h=>by simp at h
 | c::l,0,a,b,h=>by simp at h;subst h;simp only[rc,List.set_cons_zero,List.flatMap_cons,List.count_append];omega
 | c::l,i+1,a,b,h=>by
  have:=rC x l i a b (by simpa using h);simp only[rc,List.set_cons_succ,List.flatMap_cons,List.count_append]at this ⊢;omega
theorem mN:∀(l:List Rg)(i:Nat)(a b:Rg),l[i]?=some a→Ah (l.set i b)+(aX a).length=Ah l+(aX b).length
 | [],i,a,b,h=>by simp at h
 | c::l,0,a,b,h=>by simp at h;subst h;simp only[Ah,List.set_cons_zero,List.flatMap_cons,List.length_append];omega
 | c::l,i+1,a,b,h=>by
  have:=mN l i a b (by simpa using h);simp only[Ah,List.set_cons_succ,List.flatMap_cons,List.length_append]at this ⊢;omega
theorem wR (x:Rf):∀(l:List Rf)(i:Nat)(a b:Rf),l[i]?=some a→(l.set i b).count x+(if a=x then 1 else 0)=l.count x+(if b=x then 1 else 0)
 | [],i,a,b,h=>by simp at h
 | c::l,0,a,b,h=>by simp at h;subst h;simp only[List.set_cons_zero,List.count_cons,beq_iff_eq];omega
 | c::l,i+1,a,b,h=>by
  have:=wR x l i a b (by simpa using h);simp only[List.set_cons_succ,List.count_cons,beq_iff_eq]at this ⊢;omega
abbrev GM:=Rf→Option Frm
def uG (G:GM)(q:Rf)(f:Frm):GM:=fun x=>if x=q then some f else G x
def dG (G:GM)(q:Rf):GM:=fun x=>if x=q then none else G x
structure FOk (G:GM)(root:Rf)(d:Rf→Nat)(ex:Rf→Prop)(x:Rf)(f:Frm):Prop where
 st:f.state=0∨f.state=1∨f.state=2
 rt:x=root→f.up=dN∧f.upSlot=0
 up:x≠root→∃ g s,G f.up=some g∧0≤f.upSlot∧g.slots[f.upSlot.toNat]?=some s∧s.state=1∧s.kid=x∧d x=d f.up+1
 kids:∀(i:Nat) s,f.slots[i]?=some s→s.state=1→∃ g,G s.kid=some g∧g.up=x∧g.upSlot=(i:Int)∧s.kid≠root
 wt:f.state=1→0≤f.wait∧∃ s,f.slots[f.wait.toNat]?=some s∧s.state=1
 w0:f.state≠1→f.wait=0
 en:f.state=2→¬ex x→f.slots.any fR=true
def Wf (G:GM)(root:Rf)(d:Rf→Nat)(ex:Rf→Prop):Prop:=∀ x f,G x=some f→FOk G root d ex x f
theorem Hx {l:List Slt}(h:l.any fR=true):∃(i:Nat)(s:Slt),l[i]?=some s∧s.state=1:=by
 obtain⟨s,h1,h2⟩:=List.any_eq_true.1 h;obtain⟨i,hi⟩:=List.mem_iff_getElem?.1 h1;exact⟨i,s,hi,by simpa[fR]using h2⟩
theorem wS {l:List Slt}{i:Nat}{s:Slt}(h:l[i]?=some s)(h1:s.state=1):l.any fR=true:=
 List.any_eq_true.2 ⟨s,List.mem_of_getElem? h,by simp[fR,h1]⟩
theorem Ip {G:GM}{root:Rf}{d:Rf→Nat}{ex ex':Rf→Prop}(hT:Wf G root d ex){q:Rf}{f f':Frm}(hq:G q=some f)(hk:qC f f')(hb:iI f f')
 (hst:f'.state=0∨f'.state=1∨f'.state=2) (hwt:f'.state=1→0≤f'.wait∧∃ s,f'.slots[f'.wait.toNat]?=some s∧s.state=1) (hw0:f'.state≠1→f'.wait=0)
 (hen:f'.state=2→¬ex' q→f'.slots.any fR=true)(hex:∀ x,x≠q→ex x→ex' x):Wf (uG G q f') root d ex':=by
 have hf:=hT q f hq;intro x g hx;unfold uG at hx;by_cases e:x=q
 ·subst e;rw[if_pos rfl]at hx;cases hx;refine⟨hst,fun h=>?_,fun h=>?_,fun i s h1 h2=>?_,hwt,hw0,hen⟩
  ·rw[hk.1,hk.2.1];exact hf.rt h
  ·obtain⟨g,s,h1,h2,h3,h4,h5,h6⟩:=hf.up h;have hne:f.up≠x:=fun e=>by rw[e]at h6;omega
   exact⟨g,s,by rw[uG,hk.1,if_neg hne];exact h1,by rw[hk.2.1];exact h2,by rw[hk.2.1];exact h3,h4,h5,by rw[hk.1];exact h6⟩
  ·obtain⟨g,h3,h4,h5,h6⟩:=hf.kids i s ((hb.2 i s h2).1 h1) h2;by_cases e:s.kid=x
   ·exact⟨f',by rw[uG,if_pos e],by rw[hk.1];rw[e,hq]at h3;cases h3;exact h4,by rw[hk.2.1];rw[e,hq]at h3;cases h3;exact h5,h6⟩
   ·exact⟨g,by rw[uG,if_neg e];exact h3,h4,h5,h6⟩
 ·rw[if_neg e]at hx;have hg:=hT x g hx;refine⟨hg.st,hg.rt,fun h=>?_,fun i s h1 h2=>?_,hg.wt,hg.w0,fun h1 h2=>hg.en h1 fun h3=>h2 (hex x e h3)⟩
  ·obtain⟨a,s,h1,h2,h3,h4,h5,h6⟩:=hg.up h;by_cases e:g.up=q
   ·rw[e,hq]at h1;cases h1;exact⟨f',s,by rw[uG,if_pos e],h2,(hb.2 _ s h4).2 h3,h4,h5,h6⟩
   ·exact⟨a,s,by rw[uG,if_neg e];exact h1,h2,h3,h4,h5,h6⟩
  ·obtain⟨a,h3,h4,h5,h6⟩:=hg.kids i s h1 h2;by_cases e:s.kid=q
   ·rw[e,hq]at h3;cases h3;exact⟨f',by rw[uG,if_pos e],by rw[hk.1];exact h4,by rw[hk.2.1];exact h5,h6⟩
   ·exact⟨a,by rw[uG,if_neg e];exact h3,h4,h5,h6⟩
theorem Kg {G:GM}{root:Rf}{d:Rf→Nat}{ex:Rf→Prop}(hT:Wf G root d ex)(hroot:∃ f,G root=some f){q k:Rf}{f nf f'':Frm}{n:Int}{s0:Slt}(hq:G q=some f)(hk:G k=none)
 (n1:nf.state=0) (n2:nf.wait=0) (n3:nf.up=q) (n4:nf.upSlot=n) (n5:nf.slots.any fR=false) (hn:0≤n) (hs0:f.slots[n.toNat]?=some s0) (hs1:s0.state=0)
 (k1:f''.up=f.up)(k2:f''.upSlot=f.upSlot)(k3:f''.state=0)(k4:f''.wait=0)(s:Slt)(k5:f''.slots=f.slots.set n.toNat s)(k6:s.state=1)(k7:s.kid=k) :
 Wf (uG (uG G k nf) q f'') root (fun x=>if x=k then d q+1 else d x) ex:=by
 have hf:=hT q f hq;have hqk:q≠k:=fun e=>by rw[e,hk]at hq;cases hq
 have hrk:root≠k:=fun e=>by obtain⟨g,hg⟩:=hroot;rw[e,hk]at hg;cases hg
 have hl:=(List.getElem?_eq_some_iff.1 hs0).1;have held:∀ {x g},G x=some g→x≠k:=fun h e=>by rw[e,hk]at h;cases h
 have U:∀ x,x≠k→uG (uG G k nf) q f'' x=if x=q then some f'' else G x:=fun x hx=>by simp only[uG,if_neg hx]
 intro x g hx;by_cases e:x=k
 ·subst e;simp only[uG,if_neg (Ne.symm hqk)]at hx;rw[if_pos trivial]at hx;cases hx;refine⟨.inl n1,fun h=>absurd h.symm hrk,fun _=>⟨f'',s,?_,by rw[n4];exact hn,?_,k6,k7,?_⟩,fun i s h1 h2=>?_,fun h=>?_,fun _=>n2,fun h=>?_⟩
  ·rw[n3,U q hqk,if_pos rfl]
  ·rw[n4,k5,List.getElem?_set_self hl]
  ·simp only[n3,if_pos,if_neg hqk]
  ·have:=wS h1 h2;rw[n5]at this;cases this
  ·rw[n1]at h;cases h
  ·rw[n1]at h;cases h
 ·rw[U x e]at hx;by_cases e2:x=q
  ·subst e2;rw[if_pos rfl]at hx;cases hx;refine⟨.inl k3,fun h=>?_,fun h=>?_,fun i u h1 h2=>?_,fun h=>?_,fun _=>k4,fun h=>?_⟩
   ·rw[k1,k2];exact hf.rt h
   ·obtain⟨a,t,h1,h2,h3,h4,h5,h6⟩:=hf.up h;have hne:f.up≠x:=fun e=>by rw[e]at h6;omega
    exact⟨a,t,by rw[k1,U _ (held h1),if_neg hne];exact h1,by rw[k2];exact h2,by rw[k2];exact h3,h4,h5,by rw[k1];simp only[if_neg e,if_neg (held h1)];exact h6⟩
   ·rw[k5]at h1;by_cases hi:n.toNat=i
    ·subst hi;rw[List.getElem?_set_self hl]at h1;cases h1;exact⟨nf,by rw[k7,uG,if_neg (Ne.symm hqk),uG,if_pos rfl],n3,by rw[n4];omega,by rw[k7];exact Ne.symm hrk⟩
    ·rw[List.getElem?_set_ne hi]at h1;obtain⟨a,h3,h4,h5,h6⟩:=hf.kids i u h1 h2;by_cases e3:u.kid=x
     ·refine⟨f'',by rw[U _ (held h3),if_pos e3],?_,?_,h6⟩
      ·rw[e3,hq]at h3;cases h3;rw[k1];exact h4
      ·rw[e3,hq]at h3;cases h3;rw[k2];exact h5
     ·exact⟨a,by rw[U _ (held h3),if_neg e3];exact h3,h4,h5,h6⟩
   ·rw[k3]at h;cases h
   ·rw[k3]at h;cases h
  ·rw[if_neg e2]at hx;have hg:=hT x g hx;refine⟨hg.st,hg.rt,fun h=>?_,fun i u h1 h2=>?_,hg.wt,hg.w0,hg.en⟩
   ·obtain⟨a,t,h1,h2,h3,h4,h5,h6⟩:=hg.up h;have hd:(fun y=>if y=k then d q+1 else d y) x=(fun y=>if y=k then d q+1 else d y) g.up+1:=by simp only[if_neg e,if_neg (held h1)];exact h6
    by_cases e3:g.up=q
    ·rw[e3,hq]at h1;cases h1;refine⟨f'',t,by rw[e3,U _ hqk,if_pos rfl],h2,?_,h4,h5,hd⟩;rw[k5,List.getElem?_set_ne]
     ·exact h3
     ·intro hi;rw[←hi,hs0]at h3;cases h3;rw[hs1]at h4;cases h4
    ·exact⟨a,t,by rw[U _ (held h1),if_neg e3];exact h1,h2,h3,h4,h5,hd⟩
   ·obtain⟨a,h3,h4,h5,h6⟩:=hg.kids i u h1 h2;by_cases e3:u.kid=q
    ·refine⟨f'',by rw[U _ (held h3),if_pos e3],?_,?_,h6⟩
     ·rw[e3,hq]at h3;cases h3;rw[k1];exact h4
     ·rw[e3,hq]at h3;cases h3;rw[k2];exact h5
    ·exact⟨a,by rw[U _ (held h3),if_neg e3];exact h3,h4,h5,h6⟩
theorem Ml {G:GM}{root:Rf}{d:Rf→Nat}{q:Rf}{f ab gi:Frm}(hT:Wf G root d (·=q))(hq:G q=some f)(hnb:f.slots.any fR=false)(hab:G f.up=some ab)(hr:q≠root)
 (t:Slt) (ht:t.state≠1) (k1:gi.up=ab.up) (k2:gi.upSlot=ab.upSlot) (k3:gi.slots=ab.slots.set f.upSlot.toNat t) (hst:gi.state=0∨gi.state=1∨gi.state=2)
 (hwt:gi.state=1→ab.state=1∧gi.wait=ab.wait∧ab.wait≠f.upSlot)(hw0:gi.state≠1→gi.wait=0) :
 Wf (uG (dG G q) f.up gi) root d (·=f.up):=by
 have hf:=hT q f hq;have ha:=hT f.up ab hab;obtain⟨ab',s,u1,u2,u3,u4,u5,u6⟩:=hf.up hr;rw[hab]at u1;cases u1;have hne:f.up≠q:=fun e=>by rw[e]at u6;omega
 have hl:=(List.getElem?_eq_some_iff.1 u3).1;have U:∀ x,x≠q→uG (dG G q) f.up gi x=if x=f.up then some gi else G x:=fun x hx=>by simp only[uG,dG,if_neg hx]
 have nokid:∀ {x g},G x=some g→x≠root→g.up≠q:=fun {x g} h hx e=>by
  obtain⟨a,t,h1,h2,h3,h4,_⟩:=(hT x g h).up hx;rw[e,hq]at h1;cases h1;have:=wS h3 h4;rw[hnb]at this;cases this
 intro x g hx;by_cases e0:x=q
 ·subst e0;simp only[uG,dG,if_neg (Ne.symm hne)]at hx;rw[if_pos trivial]at hx;cases hx
 rw[U x e0]at hx;by_cases e:x=f.up
 ·subst e;rw[if_pos rfl]at hx;cases hx;refine⟨hst,fun h=>?_,fun h=>?_,fun i u h1 h2=>?_,fun h=>?_,hw0,fun _ h=>absurd rfl h⟩
  ·rw[k1,k2];exact ha.rt h
  ·obtain⟨a,v,h1,h2,h3,h4,h5,h6⟩:=ha.up h;have hne2:ab.up≠f.up:=fun e=>by rw[e]at h6;omega
   exact⟨a,v,by rw[k1,U _ (nokid hab h),if_neg hne2];exact h1,by rw[k2];exact h2,by rw[k2];exact h3,h4,h5,by rw[k1];exact h6⟩
  ·rw[k3]at h1;by_cases hi:f.upSlot.toNat=i
   ·subst hi;rw[List.getElem?_set_self hl]at h1;cases h1;exact absurd h2 ht
   ·rw[List.getElem?_set_ne hi]at h1;obtain⟨a,h3,h4,h5,h6⟩:=ha.kids i u h1 h2;have n1:u.kid≠q:=fun e=>by rw[e,hq]at h3;cases h3;omega
    have n2:u.kid≠f.up:=fun e=>by
     rw[e]at h3 h6;rw[hab]at h3;cases h3;obtain⟨_,_,_,_,_,_,_,h7⟩:=ha.up h6;rw[h4]at h7;omega
    exact⟨a,by rw[U _ n1,if_neg n2];exact h3,h4,h5,h6⟩
  ·obtain⟨h1,h2,h3⟩:=hwt h;obtain⟨h4,v,h5,h6⟩:=ha.wt h1;refine⟨by rw[h2];exact h4,v,?_,h6⟩;rw[h2,k3,List.getElem?_set_ne (by omega)];exact h5
 ·rw[if_neg e]at hx;have hg:=hT x g hx;refine⟨hg.st,hg.rt,fun h=>?_,fun i u h1 h2=>?_,hg.wt,hg.w0,fun h1 h2=>hg.en h1 e0⟩
  ·obtain⟨a,v,h1,h2,h3,h4,h5,h6⟩:=hg.up h;by_cases e3:g.up=f.up
   ·rw[e3,hab]at h1;cases h1;refine⟨gi,v,by rw[e3,U _ hne,if_pos rfl],h2,?_,h4,h5,h6⟩;rw[k3,List.getElem?_set_ne]
    ·exact h3
    ·intro hi;rw[←hi,u3]at h3;cases h3;exact e0 (h5.symm.trans u5)
   ·exact⟨a,v,by rw[U _ (nokid hx h),if_neg e3];exact h1,h2,h3,h4,h5,h6⟩
  ·obtain⟨a,h3,h4,h5,h6⟩:=hg.kids i u h1 h2;have n1:u.kid≠q:=fun e2=>by rw[e2,hq]at h3;cases h3;exact e h4.symm
   by_cases e3:u.kid=f.up
   ·refine⟨gi,by rw[U _ n1,if_pos e3],?_,?_,h6⟩
    ·rw[e3,hab]at h3;cases h3;rw[k1];exact h4
    ·rw[e3,hab]at h3;cases h3;rw[k2];exact h5
   ·exact⟨a,by rw[U _ n1,if_neg e3];exact h3,h4,h5,h6⟩
theorem yB {G:GM}{root:Rf}{d:Rf→Nat}{ex:Rf→Prop}(hT:Wf G root d ex){f:Frm}(hf:G root=some f)(hnb:f.slots.any fR=false):∀(n:Nat)(x:Rf)(g:Frm),G x=some g→d x≤n→x=root:=by
 intro n;induction n with
 | zero=>
  intro x g hx hd;by_cases e:x=root
  ·exact e
  ·obtain⟨_,_,_,_,_,_,_,h⟩:=(hT x g hx).up e;omega
 | succ n ih=>
  intro x g hx hd;by_cases e:x=root
  ·exact e
  ·obtain⟨a,s,h1,h2,h3,h4,h5,h6⟩:=(hT x g hx).up e;have:=ih _ _ h1 (by omega);rw[this,hf]at h1;cases h1;have:=wS h3 h4;rw[hnb]at this;cases this
end
section
open Go Go.RowKit
def rv (o:Option Frm):Nat:=match o with|some f=>if f.state=0 then 1 else 0|none=>0
def xU (p:List Fun)(u:Int)(c:Cel):Prop:=oB c.f∧(0≤c.f.spawned∧c.f.spawned≤u)∧(0≤c.f.draws∧c.f.draws≤u)∧(c.used=true→0≤c.f.fn∧c.f.fn < p.length)
structure WInv (w:Wd)(d:Rf→Nat)(ex:Rf→Prop):Prop where
 pm:bN w.pen=true
 mo:w.pen.most=w.lim.frames
 ln:w.rings.length=w.cur.length∧1≤w.rings.length∧w.rings.length≤64
 rg:∀ r∈w.rings,bV r=true∧r.most=w.lim.ring
 rn:rc w.rings dN=0
 rd:∀ x,x≠dN→w.cur.count x+rc w.rings x=rv (gN w.pen x)
 tr:Wf (gN w.pen) w.root d ex
 rt:∃ f,gN w.pen w.root=some f
 ce:∀ c∈w.pen.cells,xU w.prog w.used c
 us:0≤w.used∧w.used≤w.lim.fuel∧w.lim.fuel≤100000
 pr:bW w.prog=true
 oe:w.out=⟨0,⟨0,0⟩⟩∧w.err=0
structure WEnd (w:Wd):Prop where
 pm:bN w.pen=true
 mo:w.pen.most=w.lim.frames
 ln:w.rings.length=w.cur.length∧1≤w.rings.length∧w.rings.length≤64
 rg:∀ r∈w.rings,bV r=true∧r.most=w.lim.ring
 rn:rc w.rings dN=0
 rd:∀ x,x≠dN→w.cur.count x+rc w.rings x=0
 em:∀ x,gN w.pen x=none
 ce:∀ c∈w.pen.cells,xU w.prog w.used c
 us:0≤w.used∧w.used≤w.lim.fuel∧w.lim.fuel≤100000
 pr:bW w.prog=true
 er:w.err=0
theorem Ut:dN.at_ = -1:=rfl
theorem Uu {p:Pn}(hp:bN p=true):gN p dN=none:=by
 cases h:gN p dN with
 | none=>rfl
 | some f=>have:=((fE hp).1 h).1;rw[Ut]at this;omega
theorem zZ {P:Cel→Prop}{p:Pn}(q:Rf){f:Frm}(h:∀ c∈p.cells,P c)(hf:∀ g u,P ⟨g,u,f⟩):∀ c∈(bI p q f).1.cells,P c:=by
 unfold bI;split
 ·split
  ·split
   ·exact nX h _ (hf _ _)
   ·exact h
  ·exact h
 ·exact h
theorem Hf {P:Cel→Prop}{p:Pn}(q:Rf)(h:∀ c∈p.cells,P c)(hf:∀ g,P ⟨g,false,cZ⟩):∀ c∈(aR p q).1.cells,P c:=by
 unfold aR;split
 ·split
  ·split
   ·exact nX h _ (hf _)
   ·exact h
  ·exact h
 ·exact h
theorem Kz {P:Cel→Prop}{p:Pn}{f:Frm}(h:∀ c∈p.cells,P c)(hf:∀ g,P ⟨g,true,f⟩):∀ c∈(cC p f).1.cells,P c:=by
 unfold cC;split
 ·split
  ·split
   ·exact nX h _ (hf _)
   ·exact h
  ·split
   ·exact h
   ·intro c hc;simp only[List.mem_append,List.mem_singleton]at hc;rcases hc with hc|rfl
    ·exact h c hc
    ·exact hf _
 ·exact h
theorem uU {p:List Fun}(h:bW p=true):(∀ f∈p,(0≤f.ar∧f.ar≤16)∧(0≤f.lo∧f.lo≤16)∧(0≤f.sl∧f.sl≤8)∧1≤(f.code.length:Int)∧(f.code.length:Int)≤200∧∀ x∈f.code,fH x=true)∧1≤p.length∧p.length≤16:=by
 simp only[bW,gH,mT,eK,Bool.and_eq_true,decide_eq_true_eq,List.all_eq_true,Bool.not_eq_true',List.any_eq_false,Bool.not_eq_true,Bool.not_eq_false']at h;refine⟨fun f hf=>?_,by omega,by omega⟩;obtain⟨⟨⟨⟨h1,h2⟩,h3⟩,h4⟩,h5⟩:=h.1 f hf;exact⟨h1,h2,h3,h4.1,h4.2,fun x hx=>by simpa using h5 x hx⟩
theorem xU.mono {p:List Fun}{u v:Int}{c:Cel}(h:xU p u c)(hv:u≤v):xU p v c:=⟨h.1,⟨h.2.1.1,Int.le_trans h.2.1.2 hv⟩,⟨h.2.2.1.1,Int.le_trans h.2.2.1.2 hv⟩,h.2.2.2⟩
theorem aDn (p:List Fun){u:Int}(hu:0≤u)(g:Int):xU p u ⟨g,false,cZ⟩:=⟨⟨by simp[cZ],by simp[cZ],by simp[cZ]⟩,⟨by simp[cZ],by simpa[cZ]using hu⟩,⟨by simp[cZ],by simpa[cZ]using hu⟩,fun h=>by cases h⟩
theorem WInv.ok {w:Wd}{d:Rf→Nat}{ex:Rf→Prop}(h:WInv w d ex)(hc:0≤w.steals∧w.steals≤1073741824∧0≤w.misses∧w.misses≤1073741824):WdOk w:=by
 have hl:=h.ln;have hu:=h.us;have hp:=uU h.pr;refine⟨⟨by omega,by omega⟩,fun r hr=>?_,fun r hr=>(h.rg r hr).1,⟨fun f hf=>?_,by omega⟩,⟨by have:=gS h.pm;omega,by have:=(gE h.pm).1;omega⟩,fun c hcm=>(h.ce c hcm).1,fun c hcm=>?_,⟨hu.1,by omega⟩,by omega⟩
 ·have:=(fU r).1 (h.rg r hr).1;omega
 ·have:=hp.1 f hf;omega
 ·have:=(h.ce c hcm).2;omega
def lZ (f:Frm):Bool:=f.state != 1
def nw (p:Pn):Nat:=mF lZ p.cells
def mW (w:Wd):Int:=3*w.used - Ah w.rings - nw w.pen
theorem oQ {w:Wd}{n:Int}{r:Rg}(h:w.rings[n.toNat]?=some r):eJ w n=r:=by simp[eJ,h]
theorem WInv.move {w:Wd}{d:Rf→Nat}{ex:Rf→Prop}(h:WInv w d ex)(rings:List Rg)(cur:List Rf)(st mi:Int)(h1:rings.length=w.rings.length)(h2:cur.length=w.cur.length)(h3:∀ r∈rings,bV r=true∧r.most=w.lim.ring)
 (h4:rc rings dN=0)(h5:∀ x,x≠dN→cur.count x+rc rings x=w.cur.count x+rc w.rings x):WInv {w with rings:=rings,cur:=cur,steals:=st,misses:=mi} d ex:=
 ⟨h.pm,h.mo,by simpa[h1,h2]using h.ln,h3,h4,fun x hx=>(h5 x hx).trans (h.rd x hx),h.tr,h.rt,h.ce,h.us,h.pr,h.oe⟩
theorem lN {α:Type}{l:List α}{i:Nat}{a b:α}(h:b∈l.set i a):b∈l∨b=a:=List.mem_or_eq_of_mem_set h
end
section
open Go Go.RowKit
abbrev gG:Rf→Prop:=fun _=>False
structure SameW (w w':Wd):Prop where
 p:w'.prog=w.prog
 l:w'.lim=w.lim
 r:w'.root=w.root
 n:w'.cur.length=w.cur.length
inductive StepR (w:Wd)(k:Pk)(d:Rf→Nat):Wd→Prop
 | miss (h:aX (eJ w k.worker)=[]) (hj:w.cur[k.worker.toNat]?=some dN):StepR w k d {w with misses:=w.misses+1}
 | move (w':Wd) (hi:WInv w' d gG) (hs:w'.state=w.state) (hu:w'.used=w.used) (hm:w'.misses=w.misses) (hst:w'.steals=w.steals∨w'.steals=w.steals+1) (hM:mW w+1≤mW w') (hc:w'.cur≠w.cur) (hw:SameW w w'):StepR w k d w'
 | instr (w':Wd) (d':Rf→Nat) (hi:WInv w' d' gG) (hs:w'.state=w.state) (hu:w'.used=w.used+1) (hm:w'.misses=w.misses) (hst:w'.steals=w.steals) (hM:mW w+1≤mW w') (hw:SameW w w'):StepR w k d w'
 | ended (w':Wd) (hi:WEnd w') (hs:w'.state=1) (hu:w'.used=w.used+1) (hm:w'.misses=w.misses) (hst:w'.steals=w.steals) (hw:SameW w w'):StepR w k d w'
 | stop (e:Int):StepR w k d {w with state:=2,err:=e}
section
variable {w:Wd}{d:Rf→Nat}{k:Pk}
theorem Vg {l:List Rf}{i:Nat}{a b:Rf}(h:l[i]?=some a)(hne:b≠a):l.set i b≠l:=fun e=>by
 have h1:=List.getElem?_set_self (a:=b) (List.getElem?_eq_some_iff.1 h).1;rw[e,h]at h1;cases h1;exact hne rfl
theorem Fc (h:WInv w d gG)(hj:w.cur[k.worker.toNat]?=some dN){i:Nat}{r r':Rg}{x:Rf}(hr:w.rings[i]?=some r)(m1:bV r'=true)(m2:r'.most=r.most)(m3:∀ y,(aX r).count y=(aX r').count y+(if x=y then 1 else 0))
 (m4:(aX r).length=(aX r').length+1)(st:Int):x≠dN∧WInv {w with rings:=w.rings.set i r',cur:=w.cur.set k.worker.toNat x,steals:=st} d gG∧mW {w with rings:=w.rings.set i r',cur:=w.cur.set k.worker.toNat x,steals:=st}=mW w+1∧
 w.cur.set k.worker.toNat x≠w.cur:=by
 have hrm:=h.rg r (List.mem_of_getElem? hr);have hN:=rC dN w.rings i r r' hr;have hrn:=h.rn;rw[m3 dN,hrn]at hN;have hx:x≠dN:=fun e=>by rw[if_pos e]at hN;omega
 rw[if_neg hx]at hN;refine⟨hx,h.move _ _ st w.misses (by simp) (by simp) (fun r2 h2=>?_) (by omega) (fun y hy=>?_),?_,Vg hj hx⟩
 ·rcases lN h2 with h2|rfl
  ·exact h.rg r2 h2
  ·exact⟨m1,by rw[m2];exact hrm.2⟩
 ·have a1:=wR y w.cur _ dN x hj;have a2:=rC y w.rings i r r' hr;rw[m3 y]at a2;rw[if_neg (Ne.symm hy)]at a1;omega
 ·have a2:=mN w.rings i r r' hr;simp only[mW];omega
theorem Xx (h:WInv w d gG)(hj:w.cur[k.worker.toNat]?=some dN)(hn:0≤k.worker∧k.worker < w.rings.length){w1:Wd}(hs:fF w k=some w1) :
 ∃ rings x,w1={w with rings:=rings,cur:=w.cur.set k.worker.toNat x}∧∀ st,WInv {w with rings:=rings,cur:=w.cur.set k.worker.toNat x,steals:=st} d gG∧mW {w with rings:=rings,cur:=w.cur.set k.worker.toNat x,steals:=st}=mW w+1∧w.cur.set k.worker.toNat x≠w.cur:=by
 unfold fF at hs;split at hs
 case isFalse=>cases hs
 rename_i hv;have hvr:=List.getElem?_eq_getElem (show k.victim.toNat < w.rings.length by omega);generalize w.rings[k.victim.toNat]'(by omega)=r at hvr;have hvm:=h.rg r (List.mem_of_getElem? hvr);split at hs
 ·unfold vN at hs;rw[oQ hvr]at hs;obtain⟨q1,q2,q3,q4⟩:=Tu hvm.1;cases hl:(fN r).2 with
  | nil=>rw[hl]at hs;cases hs
  | cons x xs=>
   rw[hl]at hs;simp only at hs;have hor:=List.getElem?_eq_getElem (show k.worker.toNat < w.rings.length by omega);generalize w.rings[k.worker.toNat]'(by omega)=o at hor;rw[oQ hor]at hs;have hom:=h.rg o (List.mem_of_getElem? hor);split at hs
   case isFalse=>cases hs
   rename_i hp;obtain⟨p1,p2,p3⟩:=Hj hom.1 hp;cases hs;have hne:k.victim.toNat≠k.worker.toNat:=by omega
   have hor2:(w.rings.set k.victim.toNat (fN r).1)[k.worker.toNat]?=some o:=by rw[List.getElem?_set_ne hne];exact hor
   generalize (fN r).1=r' at *;generalize (fW o xs).1=o' at *;rw[hl]at q3;refine⟨(w.rings.set k.victim.toNat r').set k.worker.toNat o',x,rfl,fun st=>?_⟩;have B:∀ y,rc ((w.rings.set k.victim.toNat r').set k.worker.toNat o') y+(if x=y then 1 else 0)=rc w.rings y:=by
    intro y;have a1:=rC y w.rings _ r r' hvr;have a2:=rC y _ _ o o' hor2;rw[q3]at a1;rw[p3]at a2;simp only[List.cons_append,List.count_cons,List.count_append,beq_iff_eq]at a1 a2;omega
   have hrn:=h.rn;have hN:=B dN;have hx:x≠dN:=fun e=>by rw[if_pos e]at hN;omega
   rw[if_neg hx]at hN;refine⟨h.move _ _ st w.misses (by simp) (by simp) (fun r2 h2=>?_) (by omega) (fun y hy=>?_),?_,Vg hj hx⟩
   ·rcases lN h2 with h2|rfl
    ·rcases lN h2 with h2|rfl
     ·exact h.rg r2 h2
     ·exact⟨q1,by rw[q2];exact hvm.2⟩
    ·exact⟨p1,by rw[p2];exact hom.2⟩
   ·have a1:=wR y w.cur _ dN x hj;have:=B y;rw[if_neg (Ne.symm hy)]at a1;omega
   ·have a1:=mN w.rings _ r r' hvr;have a2:=mN _ _ o o' hor2;rw[q3]at a1;rw[p3]at a2;simp only[List.cons_append,List.length_cons,List.length_append]at a1 a2;simp only[mW,mQ,eM];omega
 ·rw[oQ hvr]at hs;split at hs
  case isFalse=>cases hs
  rename_i ht;cases hs;obtain⟨t1,t2,t3⟩:=Jp ht;refine⟨w.rings.set k.victim.toNat (lD r).1,(lD r).2.1,rfl,fun st=>?_⟩;obtain⟨_,z⟩:=Fc (x:=(lD r).2.1) h hj hvr t1 t2 (fun y=>by rw[t3,List.count_cons];simp only[beq_iff_eq]) (by rw[t3];rfl) st;exact z
theorem aEy (h:WInv w d gG)(hj:w.cur[k.worker.toNat]?=some dN)(hn:0≤k.worker∧k.worker < w.rings.length):StepR w k d (yT w k):=by
 have hr:=List.getElem?_eq_getElem (show k.worker.toNat < w.rings.length by omega);generalize w.rings[k.worker.toNat]'(by omega)=r at hr;have hrm:=h.rg r (List.mem_of_getElem? hr);unfold yT;rw[oQ hr];by_cases hp:(kS r).2.2=true
 ·rw[if_pos hp];obtain⟨p1,p2,p3⟩:=Bt hp;obtain⟨_,z1,z2,z3⟩:=Fc (x:=(kS r).2.1) h hj hr p1 p2 (fun y=>by rw[p3,List.count_append,List.count_singleton];simp only[beq_iff_eq]) (by rw[p3];simp) w.steals;exact .move _ z1 rfl rfl rfl (.inl rfl) (Int.le_of_eq z2.symm) z3 ⟨rfl,rfl,rfl,by simp[eM,mQ]⟩
 ·rw[if_neg hp];cases hs:fF w k with
  | some w1=>
   obtain⟨rings,x,rfl,z⟩:=Xx h hj hn hs;obtain⟨z1,z2,z3⟩:=z (w.steals+1);exact .move _ z1 rfl rfl rfl (.inr rfl) (Int.le_of_eq z2.symm) z3 ⟨rfl,rfl,rfl,by simp⟩
  | none=>exact .miss (by rw[oQ hr];exact Ct hrm.1 (by simpa using hp)) hj
end
end
section
open Go Go.RowKit
section
variable {w:Wd}{d:Rf→Nat}{k:Pk}{ex ex':Rf→Prop}
theorem WInv.ready (h:WInv w d ex){x:Rf}(hx:x≠dN)(hp:0 < w.cur.count x+rc w.rings x):∃ f,gN w.pen x=some f∧f.state=0∧w.cur.count x+rc w.rings x=1:=by
 have hr:=h.rd x hx;rw[hr]at hp ⊢;cases hg:gN w.pen x with
 | none=>rw[hg]at hp;simp[rv]at hp
 | some f=>
  rw[hg]at hp;simp only[rv]at hp ⊢;split at hp
  ·rename_i h0;exact⟨f,rfl,h0,if_pos h0⟩
  ·omega
theorem WInv.num (h:WInv w d ex){q:Rf}{f:Frm}(hq:gN w.pen q=some f):oB f∧(0≤f.spawned∧f.spawned≤w.used)∧(0≤f.draws∧f.draws≤w.used)∧0≤f.fn∧f.fn < w.prog.length:=by
 obtain⟨_,c,h1,h2,_,h4⟩:=(fE h.pm).1 hq;obtain⟨a,b,e,g⟩:=h.ce c (List.mem_of_getElem? h1);rw[h4]at a b e g;exact⟨a,b,e,g h2⟩
theorem WInv.upd (h:WInv w d ex){q:Rf}{f f':Frm}(hq:gN w.pen q=some f)(cur:List Rf)(u:Int)(hk:qC f f')(hb:iI f f')
 (hst:f'.state=0∨f'.state=1∨f'.state=2) (hwt:f'.state=1→0≤f'.wait∧∃ s,f'.slots[f'.wait.toNat]?=some s∧s.state=1) (hw0:f'.state≠1→f'.wait=0)
 (hen:f'.state=2→¬ex' q→f'.slots.any fR=true) (hex:∀ x,x≠q→ex x→ex' x) (hl:cur.length=w.cur.length)
 (hrd:∀ x,x≠dN→cur.count x+rc w.rings x=if x=q then rv (some f')else w.cur.count x+rc w.rings x)(hnum:∀ g b,xU w.prog u ⟨g,b,f'⟩)(hu:w.used≤u)(hu2:u≤w.lim.fuel) :
 WInv {w with pen:=(bI w.pen q f').1,cur:=cur,used:=u} d ex'∧nw (bI w.pen q f').1+(if lZ f then 1 else 0)=nw w.pen+(if lZ f' then 1 else 0):=by
 obtain⟨a1,a2,a3,a4,a5⟩:=pM h.pm hq f';have hG:gN (bI w.pen q f').1=uG (gN w.pen) q f':=funext a3;refine⟨⟨a1,a2.trans h.mo,⟨by simpa[hl]using h.ln.1,h.ln.2⟩,h.rg,h.rn,fun x hx=>?_,?_,?_,?_,⟨by have:=h.us;simp only;omega,hu2,h.us.2.2⟩,h.pr,h.oe⟩,a4 lZ⟩
 ·simp only;rw[hrd x hx,a3 x];split
  ·rfl
  ·exact h.rd x hx
 ·simp only;rw[hG];exact Ip h.tr hq hk hb hst hwt hw0 hen hex
 ·simp only;rw[a3];split
  ·exact⟨_,rfl⟩
  ·exact h.rt
 ·exact zZ q (fun c hc=>(h.ce c hc).mono hu) hnum
theorem aFq (h:bN w.pen=true){q:Rf}{f:Frm}(hq:gN w.pen q=some f)(h1:f.state≠1):1≤nw w.pen:=by
 obtain⟨_,c,e1,e2,_,e4⟩:=(fE h).1 hq;exact Lw (List.mem_of_getElem? e1) e2 (by rw[e4];simpa[lZ]using h1)
end
theorem aEe {d:Rf→Nat}{k:Pk}:∀(n:Nat)(v:Wd)(q:Rf)(f:Frm),WInv v d (·=q)→gN v.pen q=some f→f.state=2→v.cur[k.worker.toNat]?=some dN→mF (fun _=>true) v.pen.cells < n→
 SameW v (mD n v k q f)∧(mD n v k q f).used=v.used∧(mD n v k q f).misses=v.misses∧(mD n v k q f).steals=v.steals∧
 (WEnd (mD n v k q f)∧(mD n v k q f).state=1∨WInv (mD n v k q f) d gG∧(mD n v k q f).state=v.state∧mW v≤mW (mD n v k q f))
 | 0,v,q,f,_,_,_,_,hn=>by omega
 | n+1,v,q,f,h,hq,h2,hj,hn=>by
  rw[mD];have hsame:∀ w:Wd,SameW w w:=fun w=>⟨rfl,rfl,rfl,rfl⟩;by_cases hf:(cJ f).2=true
  case neg=>
   rw[if_neg hf];refine⟨hsame v,rfl,rfl,rfl,.inr ⟨{h with tr:=fun x g hx=>?_},rfl,Int.le_refl _⟩⟩;have hg:=h.tr x g hx;refine {hg with en:=fun h1 _=>?_};by_cases e:x=q
   ·subst e;rw[hq]at hx;cases hx;cases hb:f.slots.any fR with
    | true=>rfl
    | false=>exact absurd ((zA f).2 ⟨h2,hb⟩) hf
   ·exact hg.en h1 e
  rw[if_pos hf];have hnb:=((zA f).1 hf).2;obtain⟨a1,a2,a3,a4,a5⟩:=Ew h.pm hq;have hok:=h.tr q f hq;have hu0:=h.us.1;have hrvq:rv (gN v.pen q)=0:=by rw[hq];simp[rv,h2]
  by_cases hup:f.up=dN
  ·rw[if_pos hup];have hroot:q=v.root:=by
    apply Classical.byContradiction;intro e;obtain⟨g,s,e1,_⟩:=hok.up e;rw[hup,Uu h.pm]at e1;cases e1
   refine⟨⟨rfl,rfl,rfl,rfl⟩,rfl,rfl,rfl,.inl ⟨⟨a1,a2.trans h.mo,h.ln,h.rg,h.rn,fun x hx=>?_,?_,Hf q h.ce (aDn _ hu0),h.us,h.pr,h.oe.2⟩,rfl⟩⟩
   ·have hall:∀ x g,gN v.pen x=some g→x=q:=fun x g hx=>by rw[hroot];exact yB h.tr (by rw[←hroot];exact hq) hnb _ x g hx (Nat.le_refl _)
    have:=h.rd x hx;simp only;rw[this];cases hg:gN v.pen x with
    | none=>rfl
    | some g=>
     have e:=hall x g hg;subst e;rw[←hg];exact hrvq
   ·intro x;simp only;rw[a3 x];by_cases e:x=q
    ·rw[if_pos e]
    ·rw[if_neg e];cases hg:gN v.pen x with
     | none=>rfl
     | some g=>
      have:=yB h.tr (by rw[←hroot];exact hq) hnb _ x g hg (Nat.le_refl _);exact absurd (this.trans hroot.symm) e
  rw[if_neg hup];have hqr:q≠v.root:=fun e=>hup (hok.rt e).1;obtain⟨ab,s,u1,u2,u3,u4,u5,u6⟩:=hok.up hqr;have hne:f.up≠q:=fun e=>by rw[e]at u6;omega
  have hab1:gN (aR v.pen q).1 f.up=some ab:=by rw[a3,if_neg hne];exact u1
  have hpg:=Wh hab1;have haf:=h.tr f.up ab u1;simp only[hpg,if_true];obtain⟨g1,g2,g3,g4,g5,g6⟩:=aGm u2 u3 u4 (cJ f).1;rw[g1];generalize hgi:fQ ab f.upSlot (cJ f).1=gi at *;obtain⟨b1,b2,b3,b4,b5⟩:=pM a1 hab1 gi;have hG:gN (bI (aR v.pen q).1 f.up gi).1=uG (dG (gN v.pen) q) f.up gi:=funext fun x=>by rw[b3,uG,dG,a3]
  have hst:gi.state=0∨gi.state=1∨gi.state=2:=by
   rcases g6 with ⟨e,_⟩|⟨_,_,e⟩
   ·rw[e];exact haf.st
   ·exact .inl e
  have hT:=Ml (gi:=gi) (t:=⟨2,dN,(cJ f).1⟩) h.tr hq hnb u1 hqr (by show(2:Int)≠1;decide) g2.1 g2.2.1 g3 hst
   (fun e=>by
    rcases g6 with ⟨e1,e2,e3⟩|⟨_,_,e1⟩
    ·rw[e]at e1;exact⟨e1.symm,e2,fun e4=>e3 ⟨e1.symm,e4⟩⟩
    ·rw[e]at e1;cases e1)
   (fun e=>by
    rcases g6 with ⟨e1,e2,e3⟩|⟨e1,e2,e3⟩
    ·rw[e2];exact haf.w0 (by rw[←e1];exact e)
    ·rw[←hgi];unfold fQ;rw[if_pos (by simp[e1,e2])])
  rw[←hG]at hT;have hnm:=h.num u1;have hce:∀ c∈(bI (aR v.pen q).1 f.up gi).1.cells,xU v.prog v.used c:=by
   refine zZ _ (Hf q h.ce (aDn _ hu0)) fun g b=>⟨?_,?_,?_,fun _=>?_⟩
   ·rw[←g1];exact vS hnm.1 _ _
   ·simp only[g4];exact hnm.2.1
   ·simp only[g5];exact hnm.2.2.1
   ·simp only[g2.2.2.1];exact hnm.2.2.2
  have hrt:∃ f',gN (bI (aR v.pen q).1 f.up gi).1 v.root=some f':=by
   rw[hG];unfold uG dG;split
   ·exact⟨_,rfl⟩
   ·rw[if_neg (Ne.symm hqr)];exact h.rt
  have hnw:nw (bI (aR v.pen q).1 f.up gi).1+1+(if lZ ab then 1 else 0)=nw v.pen+(if lZ gi then 1 else 0):=by
   have c1:=b4 lZ;have c2:=a4 lZ;rw[show lZ f=true from by simp[lZ,h2],if_pos rfl]at c2;unfold nw;omega
  have hcnt:mF (fun _=>true) (bI (aR v.pen q).1 f.up gi).1.cells < n:=by
   have c1:=b4 fun _=>true;have c2:=a4 fun _=>true;simp only[if_true]at c1 c2;omega
  have hrest:∀ x,x≠f.up→rv (gN (bI (aR v.pen q).1 f.up gi).1 x)=rv (gN v.pen x):=by
   intro x hx;rw[hG,uG,if_neg hx,dG];split
   ·rename_i e;rw[e,hrvq];rfl
   ·rfl
  have hself:rv (gN (bI (aR v.pen q).1 f.up gi).1 f.up)=rv (some gi):=by rw[hG,uG,if_pos rfl]
  by_cases hwake:ab.state=1∧gi.state=0
  ·have h20:¬gi.state=2:=by omega
   rw[if_pos hwake,if_neg h20];have d1:rv (gN v.pen f.up)=0:=by rw[u1];simp[rv,hwake.1]
   refine⟨⟨rfl,rfl,rfl,by simp[eM,eQ]⟩,rfl,rfl,rfl,.inr ⟨⟨b1,(b2.trans a2).trans h.mo,⟨by simpa[eM,eQ]using h.ln.1,h.ln.2⟩,h.rg,h.rn,fun x hx=>?_,fun x g hx=>?_,hrt,hce,h.us,h.pr,h.oe⟩,rfl,?_⟩⟩
   ·have hc:=wR x v.cur _ dN f.up hj;have hr:=h.rd x hx;rw[if_neg (Ne.symm hx)]at hc;simp only[eM,eQ];by_cases e:x=f.up
    ·subst e;rw[if_pos rfl]at hc;rw[hself];have e2:rv (some gi)=1:=by simp[rv,hwake.2]
     omega
    ·rw[if_neg (Ne.symm e)]at hc;rw[hrest x e];omega
   ·have hg:=hT x g hx;refine {hg with en:=fun h1 _=>?_};by_cases e:x=f.up
    ·subst e;simp only[eM,eQ]at hx;rw[b3,if_pos rfl]at hx;cases hx;omega
    ·exact hg.en h1 e
   ·rw[show lZ ab=false from by simp[lZ,hwake.1],show lZ gi=true from by simp[lZ,hwake.2]]at hnw;simp only[mW,eM,eQ];simp only[Bool.false_eq_true,if_false,if_true]at hnw;omega
  ·rw[if_neg hwake];have hsd:gi.state=ab.state:=by
    rcases g6 with ⟨e,_⟩|⟨e1,_,e2⟩
    ·exact e
    ·exact absurd ⟨e1,e2⟩ hwake
   have hnw2:lZ gi=lZ ab:=by simp[lZ,hsd]
   rw[hnw2]at hnw;have hrvs:rv (some gi)=rv (gN v.pen f.up):=by rw[u1];simp[rv,hsd]
   have hI:WInv (eQ {v with pen:=(aR v.pen q).1} f.up gi) d (·=f.up):=by
    refine⟨b1,(b2.trans a2).trans h.mo,h.ln,h.rg,h.rn,fun x hx=>?_,hT,hrt,hce,h.us,h.pr,h.oe⟩;have hr:=h.rd x hx;simp only[eQ];rw[hr];by_cases e:x=f.up
    ·rw[e,hself,hrvs]
    ·rw[hrest x e]
   have hmW:mW v≤mW (eQ {v with pen:=(aR v.pen q).1} f.up gi):=by
    simp only[mW,eQ];omega
   by_cases h22:gi.state=2
   ·rw[if_pos h22];have hgq:gN (eQ {v with pen:=(aR v.pen q).1} f.up gi).pen f.up=some gi:=by
     show gN (bI (aR v.pen q).1 f.up gi).1 f.up=some gi;rw[b3,if_pos rfl]
    obtain⟨r1,r2,r3,r4,r5⟩:=aEe n (eQ {v with pen:=(aR v.pen q).1} f.up gi) f.up gi hI hgq h22 hj hcnt;refine⟨⟨r1.p,r1.l,r1.r,r1.n⟩,r2,r3,r4,?_⟩;rcases r5 with r5|⟨r5,r6,r7⟩
    ·exact .inl r5
    ·exact .inr ⟨r5,r6,Int.le_trans hmW r7⟩
   ·rw[if_neg h22];refine⟨⟨rfl,rfl,rfl,rfl⟩,rfl,rfl,rfl,.inr ⟨{hI with tr:=fun x g hx=>?_},rfl,hmW⟩⟩;have hg:=hI.tr x g hx;refine {hg with en:=fun h1 _=>?_};by_cases e:x=f.up
    ·subst e;have:gN (bI (aR v.pen q).1 f.up gi).1 f.up=some g:=hx;rw[b3,if_pos rfl]at this;cases this;exact absurd h1 h22
    ·exact hg.en h1 e
end
section
open Go Go.RowKit
theorem aDo {p:List Fun}(hp:bW p=true){fn:Int}{args:List Val}{s:Int}(h:cI p fn args s=true):∃ x,p[fn.toNat]?=some x∧0≤fn∧fn < p.length∧dK p fn args s=⟨fn,0,[],args++List.replicate (x.lo.toNat - args.length) ⟨0,0⟩,List.replicate x.sl.toNat ⟨0,⟨0,0⟩,⟨0,⟨0,0⟩⟩⟩,s,0,0,0,0,⟨0,⟨0,0⟩⟩,dN,0⟩∧
 oB (dK p fn args s)∧(args.length:Int)=x.ar∧x.ar≤x.lo∧(∀ v∈args,aGn v=true)∧0≤s∧s≤4294967295:=by
 simp only[cI,Bool.and_eq_true,decide_eq_true_eq]at h;obtain⟨⟨⟨⟨⟨_,h1⟩,h2⟩,h3⟩,h4⟩,h5⟩:=h;have he:=List.getElem?_eq_getElem (show fn.toNat < p.length by omega);generalize p[fn.toNat]'(by omega)=x at he;rw[he]at h5;simp only[Bool.and_eq_true,decide_eq_true_eq,Bool.not_eq_true',List.any_eq_false]at h5;have hx:=(uU hp).1 x (List.mem_of_getElem? he);have e:dK p fn args s=⟨fn,0,[],args++List.replicate (x.lo.toNat - args.length) ⟨0,0⟩,List.replicate x.sl.toNat ⟨0,⟨0,0⟩,⟨0,⟨0,0⟩⟩⟩,s,0,0,0,0,⟨0,⟨0,0⟩⟩,dN,0⟩:=by simp only[dK,he]
 refine⟨x,he,h1,h2,e,?_,h5.1.2,h5.1.1,fun v hv=>by simpa using h5.2 v hv,h3,h4⟩;rw[e];refine⟨by simp,?_,?_⟩
 ·simp only[List.length_append,List.length_replicate];omega
 ·simp only[List.length_replicate];omega
section
variable {w:Wd}{d:Rf→Nat}{k:Pk}
theorem Zx (h:WInv w d gG){q:Rf}{f f':Frm}{a:Act}{s:Slt}(hj:w.cur[k.worker.toNat]?=some q)(hq0:q≠dN)(hn:0≤k.worker∧k.worker < w.rings.length)(hq:gN w.pen q=some f)(hf0:f.state=0)(hc1:w.cur.count q+rc w.rings q=1)
 (hlt:w.used < w.lim.fuel) (hsz:oB f') (h2:f'.state=0) (h3:f'.wait=f.wait) (h4:qC f f') (h5:0≤a.slot) (h6:f.slots[a.slot.toNat]?=some s) (h7:s.state=0) (h8:f'.slots=f.slots.set a.slot.toNat bY) (h9:f'.spawned=f.spawned+1) (h10:f'.draws=f.draws)
 {w':Wd}(hg:jN {w with used:=w.used+1} k q f' a = .ok w'):∃ d',WInv w' d' gG∧w'.state=w.state∧w'.used=w.used+1∧w'.misses=w.misses∧w'.steals=w.steals∧mW w+1≤mW w'∧SameW w w':=by
 unfold jN at hg;simp only at hg;split at hg
 case isFalse=>cases hg
 rename_i hok;obtain⟨x,x1,x2,x3,x4,x5,_⟩:=aDo h.pr hok;split at hg
 case isFalse=>cases hg
 rename_i hl;have hlen:=(List.getElem?_eq_some_iff.1 h6).1;have hsl:f'.slots[a.slot.toNat]?=some bY:=by rw[h8,List.getElem?_set_self hlen]
 rw[hsl]at hg;simp only at hg;split at hg
 case isFalse=>cases hg
 rename_i hp;cases hg;obtain⟨l1,l2,l3,l4,l5,l6,l7⟩:=Jz h.pm _ hl;generalize hnf:({dK w.prog a.fn a.args a.seed with up:=q,upSlot:=a.slot}:Frm)=nf at *;have hnl:∀ c∈(cC w.pen nf).1.cells,xU w.prog (w.used+1) c:=by
  refine Kz (fun c hc=>(h.ce c hc).mono (by omega)) fun g=>?_;have hu:=h.us;subst hnf;refine⟨x5,?_,?_,fun _=>?_⟩
  ·simp only[x4];omega
  ·simp only[x4];omega
  ·simp only[x4];exact⟨x2,x3⟩
 generalize (cC w.pen nf).1=p1 at *;generalize (cC w.pen nf).2.1=kid at *;have hkn:kid≠dN:=fun e=>by rw[e,Ut]at l4;omega
 have hqk:q≠kid:=fun e=>by rw[e,l3]at hq;cases hq
 have hq1:gN p1 q=some f:=by rw[l5,if_neg hqk];exact hq
 generalize hf'':({f' with slots:=f'.slots.set a.slot.toNat {bY with kid:=kid}}:Frm)=f'' at *;obtain⟨a1,a2,a3,a4,a5⟩:=pM l1 hq1 f'';have hG:gN (bI p1 q f'').1=uG (uG (gN w.pen) kid nf) q f'':=funext fun y=>by rw[a3,uG,uG,l5]
 have hor:=List.getElem?_eq_getElem (show k.worker.toNat < w.rings.length by omega);generalize w.rings[k.worker.toNat]'(by omega)=o at hor;have hom:=h.rg o (List.mem_of_getElem? hor);have hra:eJ {w with used:=w.used+1} k.worker=o:=oQ hor;rw[hra]at hp;obtain⟨p1',p2',p3'⟩:=Hj hom.1 hp;rw[hra];generalize (fW o [kid]).1=o' at *;have hnfs:nf.state=0∧nf.wait=0∧nf.up=q∧nf.upSlot=a.slot∧nf.slots.any fR=false:=by
  subst hnf;simp only[x4];refine⟨trivial,trivial,trivial,trivial,?_⟩;rw[List.any_eq_false];intro t ht;rw[List.eq_of_mem_replicate ht];simp[fR]
 have hw0:f.wait=0:=(h.tr q f hq).w0 (by omega);have hfs:f''.state=0∧f''.wait=0∧f''.up=f.up∧f''.upSlot=f.upSlot∧f''.slots=f.slots.set a.slot.toNat {bY with kid:=kid}:=by
  subst hf'';exact⟨h2,h3.trans hw0,h4.1,h4.2.1,by simp only[h8,List.set_set]⟩
 have hT:=Kg h.tr h.rt hq l3 hnfs.1 hnfs.2.1 hnfs.2.2.1 hnfs.2.2.2.1 hnfs.2.2.2.2 h5 h6 h7 hfs.2.2.1 hfs.2.2.2.1 hfs.1 hfs.2.1 {bY with kid:=kid} hfs.2.2.2.2 rfl rfl;rw[←hG]at hT;have hR:∀ y,rc (w.rings.set k.worker.toNat o') y=rc w.rings y+(if kid=y then 1 else 0):=by
  intro y;have:=rC y w.rings _ o o' hor;rw[p3',List.count_append,List.count_singleton]at this;simp only[beq_iff_eq]at this;omega
 refine⟨_,⟨a1,(a2.trans l2).trans h.mo,⟨by simpa[mQ,eQ]using h.ln.1,by simpa[mQ,eQ]using h.ln.2⟩,fun r hr=>?_,?_,fun y hy=>?_,hT,?_,?_,⟨by have:=h.us;simp only[mQ,eQ];omega,by simp only[mQ,eQ];omega,h.us.2.2⟩,h.pr,h.oe⟩,rfl,rfl,rfl,rfl,?_,⟨rfl,rfl,rfl,rfl⟩⟩
 ·rcases lN hr with hr|rfl
  ·exact h.rg r hr
  ·exact⟨p1',by rw[p2'];exact hom.2⟩
 ·show rc (w.rings.set k.worker.toNat o') dN=0;rw[hR,if_neg hkn,h.rn]
 ·show w.cur.count y+rc (w.rings.set k.worker.toNat o') y=rv (gN (bI p1 q f'').1 y);rw[hR,hG];have hr:=h.rd y hy;unfold uG;by_cases e1:y=q
  ·subst e1;rw[if_pos rfl,if_neg (Ne.symm hqk)];simp only[rv,hfs.1,if_true];omega
  ·rw[if_neg e1];by_cases e2:y=kid
   ·subst e2;rw[if_pos rfl,if_pos rfl];rw[l3]at hr;simp only[rv]at hr;simp only[rv,hnfs.1,if_true];omega
   ·rw[if_neg e2,if_neg (Ne.symm e2)];exact hr
 ·show ∃ g,gN (bI p1 q f'').1 w.root=some g;rw[hG];unfold uG;split
  ·exact⟨_,rfl⟩
  ·split
   ·exact⟨_,rfl⟩
   ·exact h.rt
 ·show ∀ c∈(bI p1 q f'').1.cells,xU w.prog (w.used+1) c;refine zZ q hnl fun g b=>?_;have hnm:=h.num hq;have hu:=h.us;subst hf'';refine⟨⟨hsz.1,hsz.2.1,by simpa using hsz.2.2⟩,?_,?_,fun _=>?_⟩
  ·simp only[h9];omega
  ·simp only[h10];omega
  ·simp only[h4.2.2.1];exact hnm.2.2.2
 ·have c1:=a4 lZ;have c2:=l6 lZ;rw[show lZ f=true from by simp[lZ,hf0],show lZ f''=true from by simp[lZ,hfs.1]]at c1;rw[show lZ nf=true from by simp[lZ,hnfs.1]]at c2;have c3:=mN w.rings _ o o' hor;rw[p3',List.length_append,List.length_singleton]at c3;simp only[if_true]at c1 c2;simp only[mW,nw,mQ,eQ];omega
theorem aEp (h:WInv w d gG){q:Rf}(hj:w.cur[k.worker.toNat]?=some q)(hq0:q≠dN)(hn:0≤k.worker∧k.worker < w.rings.length){f:Frm}(hq:gN w.pen q=some f)(hf0:f.state=0)(hc1:w.cur.count q+rc w.rings q=1) :
 StepR w k d (match vM w k q f with | .ok w'=>w' | .error e=>{w with state:=2,err:=e}):=by
 have hnm:=h.num hq;have hw0:f.wait=0:=(h.tr q f hq).w0 (by omega);have hd:=aTk w.prog f hf0 hnm.2.2.2;have hsz:=Xu w.prog f hnm.1;have hu:=h.us;have hrd:=h.rd q hq0;unfold vM;generalize kI w.prog f=y at hd hsz;have hcur:∀ x,x≠dN→(w.cur.set k.worker.toNat dN).count x+(if x=q then 1 else 0)=w.cur.count x:=by
  intro x hx;have:=wR x w.cur _ q dN hj;rw[if_neg (Ne.symm hx)]at this;by_cases e:x=q
  ·subst e;simp only[if_true]at this ⊢;omega
  ·rw[if_neg (Ne.symm e)]at this;rw[if_neg e];omega
 cases hd with
 | go f' a h1 h2 h3 h4 h5 h6 h7=>
  simp only[h1];rw[if_neg (by decide),if_neg (by decide)];by_cases hl:w.lim.fuel≤w.used
  ·rw[if_pos hl];exact .stop 100
  ·rw[if_neg hl,if_neg (by decide),if_neg (by decide)];obtain⟨z1,z2⟩:=h.upd (ex':=gG) hq w.cur (w.used+1) h4 h5 (.inl h2) (fun e=>by omega) (fun _=>h3.trans hw0) (fun e=>by omega) (fun _ _ e=>e) rfl
    (fun x hx=>by
     split
     ·rename_i e;subst e;simp only[rv,h2,if_true];exact hc1
     ·rfl) (fun g b=>⟨hsz,by simp only[h6];omega,by simp only;omega,fun _=>by simp only[h4.2.2.1];exact hnm.2.2.2⟩) (by omega) (by omega)
   rw[show lZ f=true from by simp[lZ,hf0],show lZ f'=true from by simp[lZ,h2]]at z2;refine .instr _ d z1 rfl rfl rfl rfl ?_ ⟨rfl,rfl,rfl,rfl⟩;simp only[mW,eQ];simp only[if_true]at z2;omega
 | wait a h1 h2=>
  simp only[];rw[if_neg (show ¬(3:Int)=0 by decide),if_pos trivial];obtain⟨z1,z2⟩:=h.upd (f':={f with state:=1,wait:=a}) (ex':=gG) hq (w.cur.set k.worker.toNat dN) w.used ⟨rfl,rfl,rfl,rfl,rfl⟩ (.rfl' rfl) (.inr (.inl rfl)) (fun _=>⟨h1,h2⟩) (fun e=>absurd rfl e) (fun e=>by cases e) (fun _ _ e=>e) (by simp)
   (fun x hx=>by
    have hc:=hcur x hx;split
    ·rename_i e;subst e;simp only[if_true]at hc;simp only[rv];rw[if_neg (by decide)];omega
    ·rename_i e;rw[if_neg e]at hc;omega) (fun g b=>⟨hsz,hnm.2.1,hnm.2.2.1,fun _=>hnm.2.2.2⟩) (Int.le_refl _) hu.2.1
  rw[show lZ f=true from by simp[lZ,hf0],show lZ {f with state:=1,wait:=a}=false from rfl]at z2;refine .move _ z1 rfl rfl rfl (.inl rfl) ?_ (Vg hj (Ne.symm hq0)) ⟨rfl,rfl,rfl,by simp[eM,eQ]⟩;simp only[mW,eQ,eM];simp only[if_true,Bool.false_eq_true,if_false]at z2;omega
 | spawn f' a s h1 h2 h3 h4 h5 h6 h7 h8 h9 h10=>
  simp only[h1];rw[if_neg (by decide),if_neg (by decide)];by_cases hl:w.lim.fuel≤w.used
  ·rw[if_pos hl];exact .stop 100
  ·rw[if_neg hl,if_pos trivial];cases hg:jN {w with used:=w.used+1} k q f' a with
   | error e=>exact .stop e
   | ok w'=>
    obtain⟨d',z1,z2,z3,z4,z5,z6,z7⟩:=Zx h hj hq0 hn hq hf0 hc1 (by omega) hsz h2 h3 h4 h5 h6 h7 h8 h9 h10 hg;exact .instr w' d' z1 z2 z3 z4 z5 z6 z7
 | fin f' a h1 h2 h3 h4 h5 h6 h7=>
  simp only[h1];rw[if_neg (by decide),if_neg (by decide)];by_cases hl:w.lim.fuel≤w.used
  ·rw[if_pos hl];exact .stop 100
  ·rw[if_neg hl,if_neg (by decide),if_pos trivial];obtain⟨z1,z2⟩:=h.upd (ex':=(·=q)) hq (w.cur.set k.worker.toNat dN) (w.used+1) h4 h5 (.inr (.inr h2)) (fun e=>by omega) (fun _=>h3.trans hw0) (fun _ e=>absurd rfl e) (fun _ _ e=>e.elim) (by simp)
    (fun x hx=>by
     have hc:=hcur x hx;split
     ·rename_i e;subst e;simp only[if_true]at hc;simp only[rv,h2];rw[if_neg (by decide)];omega
     ·rename_i e;rw[if_neg e]at hc;omega) (fun g b=>⟨hsz,by simp only[h6];omega,by simp only[h7];omega,fun _=>by simp only[h4.2.2.1];exact hnm.2.2.2⟩) (by omega) (by omega)
   rw[show lZ f=true from by simp[lZ,hf0],show lZ f'=true from by simp[lZ,h2]]at z2;have hqs:gN (bI w.pen q f').1 q=some f':=by rw[(pM h.pm hq f').2.2.1,if_pos rfl]
   have hcl:(bI w.pen q f').1.cells.length=w.pen.cells.length:=(pM h.pm hq f').2.2.2.2;have hlj:=(List.getElem?_eq_some_iff.1 hj).1;obtain⟨e1,e2,e3,e4,e5⟩:=aEe (k:=k) (w.pen.cells.length+1) (eM (eQ {w with used:=w.used+1} q f') k dN) q f' z1 hqs h2 (List.getElem?_set_self hlj) (by
    refine Nat.lt_succ_of_le ?_;rw[←hcl];exact List.length_filter_le _ _)
   generalize mD (w.pen.cells.length+1) (eM (eQ {w with used:=w.used+1} q f') k dN) k q f'=w' at *;have hs:SameW w w':=⟨e1.p,e1.l,e1.r,e1.n.trans (by simp[eM,eQ])⟩;rcases e5 with ⟨e5,e6⟩|⟨e5,e6,e7⟩
   ·exact .ended w' e5 e6 e2 e3 e4 hs
   ·refine .instr w' d e5 e6 e2 e3 e4 (Int.le_trans ?_ e7) hs;simp only[mW,eM,eQ];simp only[if_true]at z2;omega
theorem Gs (h:WInv w d gG)(hs:w.state=0)(hw:Mx w k.worker=true):StepR w k d (gL w k):=by
 unfold gL;rw[if_pos ⟨hs,hw⟩];simp only[Mx,Bool.and_eq_true,decide_eq_true_eq]at hw;have hj:=List.getElem?_eq_getElem (show k.worker.toNat < w.cur.length by omega);generalize w.cur[k.worker.toNat]'(by omega)=q at hj;rw[hj];simp only;by_cases hq:q=dN
 ·rw[if_pos hq];subst hq;exact aEy h hj (by omega)
 ·rw[if_neg hq];obtain⟨f,h1,h2,h3⟩:=h.ready hq (by have:=List.count_pos_iff.2 (List.mem_of_getElem? hj);omega);have hg:=Wh h1;rw[hg];simp only[if_true];exact aEp h hj hq (by omega) h1 h2 h3
theorem uA (h:¬(w.state=0∧Mx w k.worker=true)):gL w k=w:=by unfold gL;rw[if_neg h]
end
end
section
open Go Go.RowKit
def aQw (w:Wd):Prop:=(w.state=0∧∃ d,WInv w d gG)∨(w.state=1∧WEnd w)∨(w.state=2∧∃ d,WInv {w with err:=0} d gG)
structure Fine (n:Nat)(w:Wd):Prop where
 c:0≤w.steals∧0≤w.misses∧w.steals+w.misses≤n
 s:aQw w
theorem WInv.err {w:Wd}{d:Rf→Nat}(h:WInv w d gG)(s e:Int):WInv {{w with state:=s,err:=e}with err:=0} d gG:=⟨h.pm,h.mo,h.ln,h.rg,h.rn,h.rd,h.tr,h.rt,h.ce,h.us,h.pr,⟨h.oe.1,rfl⟩⟩
theorem WInv.miss {w:Wd}{d:Rf→Nat}(h:WInv w d gG)(m:Int):WInv {w with misses:=m} d gG:=⟨h.pm,h.mo,h.ln,h.rg,h.rn,h.rd,h.tr,h.rt,h.ce,h.us,h.pr,h.oe⟩
theorem Fine.step {n:Nat}{w:Wd}(h:Fine n w)(k:Pk):Fine (n+1) (gL w k):=by
 by_cases hc:w.state=0∧Mx w k.worker=true
 ·rcases h.s with ⟨_,d,hI⟩|⟨h1,_⟩|⟨h1,_⟩
  ·have hr:=Gs (k:=k) hI hc.1 hc.2;have hcn:=h.c;generalize gL w k=w' at hr;cases hr with
   | miss=>exact⟨by simp only;omega,.inl ⟨hc.1,d,hI.miss _⟩⟩
   | move _ hi hs hu hm hst=>exact⟨by rw[hm];rcases hst with e|e<;>rw[e]<;>omega,.inl ⟨hs.trans hc.1,d,hi⟩⟩
   | instr _ d' hi hs hu hm hst=>exact⟨by rw[hm,hst];omega,.inl ⟨hs.trans hc.1,d',hi⟩⟩
   | ended _ hi hs hu hm hst=>exact⟨by rw[hm,hst];omega,.inr (.inl ⟨hs,hi⟩)⟩
   | stop e=>exact⟨by simp only;omega,.inr (.inr ⟨rfl,d,hI.err _ _⟩)⟩
  ·omega
  ·omega
 ·rw[uA hc];exact⟨by have:=h.c;omega,h.s⟩
theorem Fine.ok {n:Nat}{w:Wd}(h:Fine n w)(hn:n≤1073741824):WdOk w:=by
 have hc:=h.c;rcases h.s with ⟨_,d,hI⟩|⟨_,hE⟩|⟨_,d,hI⟩
 ·exact hI.ok (by omega)
 ·have hl:=hE.ln;have hu:=hE.us;have hp:=uU hE.pr;refine⟨⟨by omega,by omega⟩,fun r hr=>?_,fun r hr=>(hE.rg r hr).1,⟨fun f hf=>?_,by omega⟩,⟨by have:=gS hE.pm;omega,by have:=(gE hE.pm).1;omega⟩,fun c hcm=>(hE.ce c hcm).1,fun c hcm=>?_,⟨hu.1,by omega⟩,by omega⟩
  ·have:=(fU r).1 (hE.rg r hr).1;omega
  ·have:=hp.1 f hf;omega
  ·have:=(hE.ce c hcm).2;omega
 ·have:=hI.ok (by simp only;omega);exact⟨this.l,this.b,this.m,this.p,this.f,this.z,this.d,this.u,this.c⟩
theorem Fine.run {n:Nat}{w:Wd}(h:Fine n w):∀ l:List Pk,Fine (n+l.length) (dJ w l)
 | []=>h
 | k::l=>by
  have:=Fine.run (h.step k) l;rw[List.length_cons,show n+(l.length+1)=n+1+l.length from by omega];exact this
theorem Fine.oks {n:Nat}{w:Wd}(h:Fine n w)(l:List Pk)(hn:n+l.length≤1073741824):∀ j,j < l.length→WdOk (dJ w (l.take j)):=fun j hj=>
 (h.run (l.take j)).ok (by rw[List.length_take];omega)
theorem Fine.mono {n m:Nat}{w:Wd}(h:Fine n w)(hm:n≤m):Fine m w:=⟨by have:=h.c;omega,h.s⟩
theorem At (n:Nat)(m:Int)(x:Rf):rc (List.replicate n (pO 1 m)) x=0:=by
 induction n with
 | zero=>rfl
 | succ n ih=>
  simp only[rc,List.replicate_succ,List.flatMap_cons,List.count_append]at ih ⊢;rw[ih];rfl
theorem Ws (n:Nat)(m:Int):Ah (List.replicate n (pO 1 m))=0:=by
 induction n with
 | zero=>rfl
 | succ n ih=>
  simp only[Ah,List.replicate_succ,List.flatMap_cons,List.length_append]at ih ⊢;rw[ih];rfl
theorem Qe {p:List Fun}{args:List Val}{s workers:Int}{l:Lim}(h:eV p args s workers l=true):(∃ d,WInv (eD p args s workers l) d gG)∧mW (eD p args s workers l) = -1:=by
 simp only[eV,gX,eK,Bool.and_eq_true,decide_eq_true_eq]at h;obtain⟨⟨⟨⟨h0,h1⟩,h2⟩,h3⟩,h4⟩:=h;have hp:bW p=true:=by
  have:=h1;simp only[cI,Bool.and_eq_true]at this;exact this.1.1.1.1.1
 obtain⟨x,x1,x2,x3,x4,x5,_⟩:=aDo hp h1;have hpm:bN ⟨[⟨0,true,dK p 0 args s⟩],[],l.frames⟩=true:=by
  refine(kB _).2 ⟨h2.1,h2.2,by simp only[List.length_cons,List.length_nil];omega,?_,rfl⟩;intro c hc;simp only[List.mem_singleton]at hc;subst hc;exact⟨by simp,by simp⟩
 have hG:∀ y f,gN ⟨[⟨0,true,dK p 0 args s⟩],[],l.frames⟩ y=some f ↔ y=⟨0,0⟩∧f=dK p 0 args s:=by
  intro y f;rw[fE hpm];constructor
  ·rintro⟨a1,c,a2,a3,a4,a5⟩;simp only at a2;have hi:=(List.getElem?_eq_some_iff.1 a2).1;simp only[List.length_cons,List.length_nil]at hi;have e:y.at_.toNat=0:=by omega
   rw[e]at a2;simp only[List.getElem?_cons_zero,Option.some.injEq]at a2;subst a2;exact⟨oR (by show y.at_=0;omega) a4.symm,a5.symm⟩
  ·rintro⟨rfl,rfl⟩;exact⟨Int.le_refl _,_,rfl,rfl,rfl,rfl⟩
 have hnb:∀(i:Nat)(t:Slt),(dK p 0 args s).slots[i]?=some t→t.state≠1:=by
  intro i t ht;rw[x4]at ht;simp only at ht;have:=List.eq_of_mem_replicate (List.mem_of_getElem? ht);rw[this];decide
 have hst:(dK p 0 args s).state=0∧(dK p 0 args s).wait=0∧(dK p 0 args s).up=dN∧(dK p 0 args s).upSlot=0∧(dK p 0 args s).spawned=0∧(dK p 0 args s).draws=0∧(dK p 0 args s).fn=0:=by
  rw[x4];exact⟨rfl,rfl,rfl,rfl,rfl,rfl,rfl⟩
 refine⟨⟨fun _=>0,⟨hpm,rfl,?_,?_,At _ _ _,?_,?_,⟨_,(hG _ _).2 ⟨rfl,rfl⟩⟩,?_,⟨Int.le_refl _,by simp only[eD];omega,h4.2⟩,hp,⟨rfl,rfl⟩⟩⟩,?_⟩
 ·refine⟨by simp[eD],?_,?_⟩
  ·simp only[eD,List.length_replicate];omega
  ·simp only[eD,List.length_replicate];omega
 ·intro r hr;simp only[eD]at hr;rw[List.eq_of_mem_replicate hr];refine⟨(fU _).2 ?_,rfl⟩;simp only[pO,List.length_replicate];omega
 ·intro y hy;simp only[eD];rw[At];obtain⟨n,hn⟩:∃ n:Nat,workers.toNat=n+1:=⟨workers.toNat - 1,by omega⟩;rw[hn,List.replicate_succ,List.set_cons_zero,List.count_cons,List.count_replicate];have e0:(dN == y)=false:=by simpa using(Ne.symm hy)
  rw[e0];simp only[beq_iff_eq,Bool.false_eq_true,if_false,Nat.zero_add,Nat.add_zero];by_cases e:y=⟨0,0⟩
  ·subst e;rw[(hG _ _).2 ⟨rfl,rfl⟩];simp[rv,hst.1]
  ·rw[if_neg (Ne.symm e)];cases hg:gN ⟨[⟨0,true,dK p 0 args s⟩],[],l.frames⟩ y with
   | none=>rfl
   | some f=>exact absurd ((hG _ _).1 hg).1 e
 ·intro y f hy;obtain⟨rfl,rfl⟩:=(hG _ _).1 hy;refine⟨.inl hst.1,fun _=>⟨hst.2.2.1,hst.2.2.2.1⟩,fun e=>absurd rfl e,fun i t ht h=>absurd h (hnb i t ht),fun e=>?_,fun _=>hst.2.1,fun e=>?_⟩
  ·rw[hst.1]at e;cases e
  ·rw[hst.1]at e;cases e
 ·intro c hc;simp only[eD,List.mem_singleton]at hc;subst hc;refine⟨x5,?_,?_,fun _=>?_⟩
  ·simp only[hst,eD];exact⟨Int.le_refl _,Int.le_refl _⟩
  ·simp only[hst,eD];exact⟨Int.le_refl _,Int.le_refl _⟩
  ·simp only[hst,eD];exact⟨Int.le_refl _,x3⟩
 ·simp only[mW,eD];rw[Ws];have:nw ⟨[⟨0,true,dK p 0 args s⟩],[],l.frames⟩=1:=by
   simp[nw,mF,lZ,hst.1]
  rw[this];decide
theorem yZ {p:List Fun}{args:List Val}{s workers:Int}{l:Lim}(h:eV p args s workers l=true):Fine 0 (eD p args s workers l):=
 ⟨⟨Int.le_refl _,Int.le_refl _,Int.le_refl _⟩,.inl ⟨rfl,(Qe h).1⟩⟩
theorem Fl (d:Rf→Nat):∀(l:List Cel)(k:Nat),∃ B,∀(i:Nat)(c:Cel),l[i]?=some c→d ⟨((k+i:Nat):Int),c.gen⟩≤B
 | [],k=>⟨0,fun i c h=>by simp at h⟩
 | a::l,k=>by
  obtain⟨B,hB⟩:=Fl d l (k+1);refine⟨max B (d ⟨(k:Int),a.gen⟩),fun i c h=>?_⟩;cases i with
  | zero=>simp at h;subst h;exact Nat.le_max_right _ _
  | succ i=>
   have:=hB i c (by simpa using h);rw[show k+(i+1)=k+1+i from by omega];exact Nat.le_trans this (Nat.le_max_left _ _)
theorem uD {w:Wd}{d:Rf→Nat}(h:WInv w d gG):∃ x f,x≠dN∧gN w.pen x=some f∧f.state=0:=by
 apply Classical.byContradiction;intro hno;have hs:∀ x f,gN w.pen x=some f→f.state≠0:=fun x f hg h0=>hno ⟨x,f,(fun e=>by rw[e,Uu h.pm]at hg;cases hg),hg,h0⟩;have hclimb:∀ n,∃ x f,gN w.pen x=some f∧n≤d x:=by
  intro n;induction n with
  | zero=>obtain⟨f,hf⟩:=h.rt;exact⟨_,f,hf,Nat.zero_le _⟩
  | succ n ih=>
   obtain⟨x,f,h1,h2⟩:=ih;have hf:=h.tr x f h1;have hb:∃(i:Nat)(s:Slt),f.slots[i]?=some s∧s.state=1:=by
    rcases hf.st with e|e|e
    ·exact absurd e (hs x f h1)
    ·obtain⟨_,s,h3,h4⟩:=hf.wt e;exact⟨_,s,h3,h4⟩
    ·exact Hx (hf.en e (fun h=>h))
   obtain⟨i,s,h3,h4⟩:=hb;obtain⟨g,h5,h6,h7,h8⟩:=hf.kids i s h3 h4;obtain⟨_,_,_,_,_,_,_,h9⟩:=(h.tr _ _ h5).up h8;exact⟨_,g,h5,by rw[h9,h6];omega⟩
 obtain⟨B,hB⟩:=Fl d w.pen.cells 0;obtain⟨x,f,h1,h2⟩:=hclimb (B+1);obtain⟨h3,c,h4,_,h5,_⟩:=(fE h.pm).1 h1;have:=hB _ _ h4;rw[Nat.zero_add,show(⟨((x.at_.toNat:Nat):Int),c.gen⟩:Rf)=x from oR (by simp only;omega) h5]at this;omega
theorem aKz {w:Wd}{d:Rf→Nat}(h:WInv w d gG):mW w≤3*w.lim.fuel - 1:=by
 obtain⟨x,f,_,h1,h2⟩:=uD h;have:=aFq h.pm h1 (by omega);have:=h.us;simp only[mW];omega
theorem Qz {w:Wd}{d:Rf→Nat}(h:WInv w d gG)(hall:∀ j:Nat,j < w.cur.length→w.cur[j]?=some dN∧aX (eJ w j)=[]):False:=by
 obtain⟨x,f,h1,h2,h3⟩:=uD h;have hr:=h.rd x h1;rw[h2]at hr;simp only[rv,h3,if_true]at hr;have c1:w.cur.count x=0:=by
  rw[List.count_eq_zero];intro hm;obtain⟨i,hi⟩:=List.mem_iff_getElem?.1 hm;have hl:=(List.getElem?_eq_some_iff.1 hi).1;rw[(hall i hl).1]at hi;cases hi;exact h1 rfl
 have c2:rc w.rings x=0:=by
  unfold rc;rw[List.count_eq_zero];intro hm;obtain⟨r,hm1,hm2⟩:=List.mem_flatMap.1 hm;obtain⟨i,hi⟩:=List.mem_iff_getElem?.1 hm1;have hl:=(List.getElem?_eq_some_iff.1 hi).1;have:=(hall i (by have:=h.ln.1;omega)).2;rw[oQ (n:=(i:Int)) (by simpa using hi)]at this;rw[this]at hm2;cases hm2
 omega
end
section
open Go Go.RowKit
theorem tK {w:Wd}(h:w.state≠0):∀ l:List Pk,dJ w l=w
 | []=>rfl
 | k::l=>by
  have:dJ w (k::l)=dJ (gL w k) l:=rfl;rw[this,uA (fun h2=>h h2.1),tK h l]
theorem Ej (w:Wd)(l m:List Pk):dJ w (l++m)=dJ (dJ w l) m:=List.foldl_append
theorem Lc:∀(l:List Pk)(w:Wd)(d:Rf→Nat),WInv w d gG→w.state=0→((dJ w l).state=1∨(dJ w l).state=2)∨
 ∃ d',WInv (dJ w l) d' gG∧(dJ w l).state=0∧(dJ w l).lim=w.lim∧(dJ w l).cur.length=w.cur.length∧mW w≤mW (dJ w l)∧(mW w+1≤mW (dJ w l)∨∀ p∈l,Mx w p.worker=true→w.cur[p.worker.toNat]?=some dN∧aX (eJ w p.worker)=[])
 | [],w,d,h,hs => .inr ⟨d,h,hs,rfl,rfl,Int.le_refl _,.inr fun p hp=>by cases hp⟩
 | k::l,w,d,h,hs=>by
  have e:dJ w (k::l)=dJ (gL w k) l:=rfl;rw[e];by_cases hw:Mx w k.worker=true
  ·have hr:=Gs (k:=k) h hs hw;generalize gL w k=w1 at hr;cases hr with
   | miss hi hj=>
    rcases Lc l _ d (h.miss (w.misses+1)) hs with h1|⟨d',a1,a2,a3,a4,a5,a6⟩
    ·exact .inl h1
    ·refine .inr ⟨d',a1,a2,a3,a4,a5,?_⟩;rcases a6 with a6|a6
     ·exact .inl a6
     ·refine .inr fun p hp hpw=>?_;rcases List.mem_cons.1 hp with rfl|hp
      ·exact⟨hj,hi⟩
      ·exact a6 p hp hpw
   | move w1 hi hs1 hu hm hst hM hc hw1=>
    rcases Lc l w1 d hi (hs1.trans hs)with h1|⟨d',a1,a2,a3,a4,a5,a6⟩
    ·exact .inl h1
    ·exact .inr ⟨d',a1,a2,a3.trans hw1.l,a4.trans hw1.n,by omega,.inl (by omega)⟩
   | instr w1 d1 hi hs1 hu hm hst hM hw1=>
    rcases Lc l w1 d1 hi (hs1.trans hs)with h1|⟨d',a1,a2,a3,a4,a5,a6⟩
    ·exact .inl h1
    ·exact .inr ⟨d',a1,a2,a3.trans hw1.l,a4.trans hw1.n,by omega,.inl (by omega)⟩
   | ended w1 hi hs1=>rw[tK (by omega)];exact .inl (.inl hs1)
   | stop e=>rw[tK (by show(2:Int)≠0;decide)];exact .inl (.inr rfl)
  ·rw[uA (fun h2=>hw h2.2)];rcases Lc l w d h hs with h1|⟨d',a1,a2,a3,a4,a5,a6⟩
   ·exact .inl h1
   ·refine .inr ⟨d',a1,a2,a3,a4,a5,?_⟩;rcases a6 with a6|a6
    ·exact .inl a6
    ·refine .inr fun p hp hpw=>?_;rcases List.mem_cons.1 hp with rfl|hp
     ·exact absurd hpw hw
     ·exact a6 p hp hpw
theorem Zl {l:List Pk}{w:Wd}{d:Rf→Nat}(h:WInv w d gG)(hs:w.state=0)(hall:∀ j:Nat,j < w.cur.length→∃ p∈l,p.worker=j):((dJ w l).state=1∨(dJ w l).state=2)∨
 ∃ d',WInv (dJ w l) d' gG∧(dJ w l).state=0∧(dJ w l).lim=w.lim∧(dJ w l).cur.length=w.cur.length∧mW w+1≤mW (dJ w l):=by
 rcases Lc l w d h hs with h1|⟨d',a1,a2,a3,a4,a5,a6⟩
 ·exact .inl h1
 ·rcases a6 with a6|a6
  ·exact .inr ⟨d',a1,a2,a3,a4,a6⟩
  ·refine(Qz h fun j hj=>?_).elim;obtain⟨p,hp,e⟩:=hall j hj;have hl:=h.ln.1;have:=a6 p hp (by simp only[Mx,e,Bool.and_eq_true,decide_eq_true_eq];omega);rw[e]at this;simpa using this
def bkN (turns:List Int)(W t:Nat):Int:=if turns=[]then((t % W:Nat):Int)else pD .i64 (turns.getD (t % turns.length) 0) 7
def lW (turns:List Int)(W t:Nat):List Pk:=
 [⟨(((t % W:Nat):Int)+bkN turns W t).tmod W,bkN turns W t,decide (3 < bkN turns W t)⟩,⟨((t % W:Nat):Int),(((t % W:Nat):Int)+bkN turns W t+1).tmod W,false⟩]
def fA (turns:List Int)(W:Nat)(w:Wd)(t:Nat):Wd:=dJ w ((List.range t).flatMap (lW turns W))
theorem wU (turns:List Int)(W:Nat)(w:Wd)(t:Nat):fA turns W w (t+1)=dJ (fA turns W w t) (lW turns W t):=by
 unfold fA;rw[List.range_succ,List.flatMap_append,Ej];simp
theorem Tf (turns:List Int)(W:Nat)(w:Wd)(i n:Nat):fA turns W w (i+n)=dJ (fA turns W w i) ((List.range n).flatMap fun k=>lW turns W (i+k)):=by
 unfold fA;rw[List.range_add,List.flatMap_append,Ej,List.flatMap_map]
theorem El {turns:List Int}{w:Wd}{d:Rf→Nat}(h:WInv w d gG)(hs:w.state=0)(hW:1≤w.cur.length)(hm:mW w = -1):∀ i:Nat,((fA turns w.cur.length w (i*w.cur.length)).state=1∨(fA turns w.cur.length w (i*w.cur.length)).state=2)∨
 ∃ d',WInv (fA turns w.cur.length w (i*w.cur.length)) d' gG∧(fA turns w.cur.length w (i*w.cur.length)).state=0∧(fA turns w.cur.length w (i*w.cur.length)).lim=w.lim∧(fA turns w.cur.length w (i*w.cur.length)).cur.length=w.cur.length∧(i:Int) - 1≤mW (fA turns w.cur.length w (i*w.cur.length))
 | 0 => .inr ⟨d,by rw[Nat.zero_mul];exact h,by rw[Nat.zero_mul];exact hs,by rw[Nat.zero_mul];rfl,by rw[Nat.zero_mul];rfl,by rw[Nat.zero_mul];show _≤mW w;rw[hm];decide⟩
 | i+1=>by
  rw[Nat.succ_mul,Tf];rcases El h hs hW hm i with h1|⟨d1,a1,a2,a3,a4,a5⟩
  ·rw[tK (w:=fA turns w.cur.length w (i*w.cur.length)) (fun e=>by rcases h1 with h1|h1<;>rw[h1]at e<;>cases e)];exact .inl h1
  ·rcases Zl (l:=(List.range w.cur.length).flatMap fun k=>lW turns w.cur.length (i*w.cur.length+k)) a1 a2 (fun j hj=>by
    rw[a4]at hj;refine⟨⟨_,_,false⟩,List.mem_flatMap.2 ⟨j,List.mem_range.2 hj,List.mem_cons_of_mem _ (List.mem_singleton.2 rfl)⟩,?_⟩;simp only;rw[Nat.mul_comm,Nat.mul_add_mod,Nat.mod_eq_of_lt hj])with h1|⟨d2,b1,b2,b3,b4,b5⟩
   ·exact .inl h1
   ·exact .inr ⟨d2,b1,b2,b3.trans a3,b4.trans a4,by rw[Int.natCast_add];omega⟩
theorem Oo {p:List Fun}{args:List Val}{s workers:Int}{l:Lim}(h:eV p args s workers l=true)(turns:List Int) :
 (fA turns workers.toNat (eD p args s workers l) ((3*l.fuel+3).toNat*workers.toNat)).state=1∨(fA turns workers.toNat (eD p args s workers l) ((3*l.fuel+3).toNat*workers.toNat)).state=2:=by
 obtain⟨⟨d,hI⟩,hm⟩:=Qe h;have hl:=hI.ln;have hn:(eD p args s workers l).cur.length=workers.toNat:=by simp[eD]
 have hu:=hI.us;have hf:(eD p args s workers l).lim.fuel=l.fuel:=rfl;rcases El (turns:=turns) hI rfl (by omega) hm (3*l.fuel+3).toNat with h1|⟨d',a1,a2,a3,a4,a5⟩
 ·rw[hn]at h1;exact h1
 ·have:=aKz a1;rw[a3,hf]at this;rw[hf]at hu;omega
theorem aBg {w:Wd}(h:Fine 0 w)(turns:List Int)(W t:Nat):Fine (2*t) (fA turns W w t):=by
 induction t with
 | zero=>exact h
 | succ t ih=>
  rw[wU];exact(ih.run (lW turns W t)).mono (by simp[lW];omega)
end
end Go.Proofs.YtaimmacnafoanaaGreatDoor.F
