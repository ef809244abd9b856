/- The plain semantics of the program, and what it computes. -/
import Derived.Test.YtaimmacnafoanaaGreatDoorQ03
import Derived.Test.YtaimmacnafoanaaGreatDoorQ02
import Derived.Test.YtaimmacnafoanaaGreatDoorQ01
import Derived.Recover
import Derived.Shelf.Lay
import Derived.Ground.NamesProg
import Derived.Shelf.LaysM
import Derived.Shelf.LaysC
import Derived.Shelf.Strings.Cut
import Derived.Shelf.Strings.Split
import Derived.Lib.AtoiErrMem
import Derived.Shelf.Strings.OnBuilder
import Derived.Shelf.Strconv.Itoa3
import Derived.Shelf.Strconv.AtoiAll
import Derived.Lib.AppendIntMem
import Derived.Lib.ItoaLen
import Derived.Lib.AtoiAllCases
import Derived.Lib.SplitLaws
set_option linter.unusedVariables false
set_option linter.unusedSimpArgs false
set_option maxRecDepth 100000
namespace Go.Proofs.YtaimmacnafoanaaGreatDoor.F
section
open Go Go.RowKit
variable (g:Gl)
def frS (f:Frm)(sv:V):V:=.agg [i64 f.fn,i64 f.pc,.imm (f.stack.map eVal),.imm (f.locals.map eVal),sv,i64 f.seed,i64 f.spawned,i64 f.draws,i64 f.state,i64 f.wait,i64 f.out.trap,i64 f.out.v.re,i64 f.out.v.im,i64 f.up.at_,i64 f.up.gen,i64 f.upSlot]
def eQ (w:Wd)(q:Rf)(f:Frm):Wd:={w with pen:=(bI w.pen q f).1}
theorem Qu (H:aA)(n b:Nat)(a c:Int)(ro:Bool):yS H (n+2) b 0 1 (some (.row 2 [V.agg [V.int .i64 a,V.int .i64 c]] ro))=[b]:=rfl
section
variable {Q:Ex→List V→aA→Prop}{dst:Option Tmp}{T:List V}{H:aA}{KK:List V→aA→Prop}{r:Nat}{w:Wd}{k:Pk}{rv cv:V}
theorem aGh (q:Rf)(f:Frm)(bs:Nat)(h:WkH H r w k rv cv)(hf:w.pen.free.length≤1073741824)(hs:hb H bs=some (.row 6 (f.slots.map cF) false))
 (hk:∀ H',WkH H' r (eQ w q f) k rv cv→(H.length≤H'.length∧∀ c,c < H.length→c≠r→c≠bs→hb H' c=hb H c)→KK (put T dst (.tup [])) H') :
 aZ (Eg g) (FW (Eg g)) 176 [.ptr r 0 0,aS q,frS f (.sl bs 0 f.slots.length)] dst T H KK Q:=by
 have hr:=h.hr;have hrl:=aE hr;have hsl:=aE hs;have hne:bs≠r:=fun e=>by subst e;rw[hr]at hs;simp at hs
 simp only[iE]at hr;have hc:=aDd g w.pen q f hf;simp only[bJ,aS,aJ,aN]at hc;refine en Tryz.func176 Tryz.ntmps176 Tryz.results176 rfl ⟨⟨rfl,rfl⟩,rfl⟩ ?_;simp only[ZZ,simprocAttr,i64];simp only[aS,frS];refine rg fun K hK=>?_;simp only[ZZ,simprocAttr,i64];apply hK;refine dl [0,1,2,3,4,5,6,7,8,9,10,11,12,13,14,15] (by kernel_rfl) fun K hK=>?_;simp only[ZZ,simprocAttr,i64,WH,hr,hrl];refine mt hc Tryz.func248 rfl ⟨⟨rfl,rfl⟩,rfl⟩ (by simp only[ZZ,simprocAttr,i64,WH,hs,hsl]) ?_;simp only[ZZ,simprocAttr,i64,WH,hr,hrl,hs,hsl,aG hne,List.length_set];apply hK;try simp only[WX]
 simp only[WX,bF,aI,W5,List.mapM_nil,Option.pure_def];have h1:WkH (H.set bs (.row 6 (f.slots.map cF) true)) r w k rv cv:=by
  refine⟨by rw[aG hne];exact h.hr,?_,?_⟩
  ·rcases h.hv with e|⟨b,e1,e2⟩
   ·exact .inl e
   ·have:bs≠b:=fun e=>by subst e;rw[hs]at e2;simp at e2
    exact .inr ⟨b,e1,by rw[aG this];exact e2⟩
  ·rcases h.hc with e|⟨b,e1,e2⟩
   ·exact .inl e
   ·have:bs≠b:=fun e=>by subst e;rw[hs]at e2;simp at e2
    exact .inr ⟨b,e1,by rw[aG this];exact e2⟩
 have h2:=h1.setApp (w':=eQ w q f) rfl rfl;refine hk _ (h2 _).1 ⟨?_,fun c hc1 hc2 hc3=>?_⟩
 ·have:=(h2 [.row 2 [aS q] false,.row 16 [frS f (.sl bs 0 f.slots.length)] false]).2.1;simp at this ⊢
 ·rw[bA _ (by simpa using hc1),aG (Ne.symm hc2),aG (Ne.symm hc3)]
def jN (w:Wd)(k:Pk)(q:Rf)(f:Frm)(a:Act):Except Int Wd:=
 if cI w.prog a.fn a.args a.seed then
  let y:=cC w.pen {dK w.prog a.fn a.args a.seed with up:=q,upSlot:=a.slot}
  if y.2.2=0 then
   match f.slots[a.slot.toNat]? with
   | some s=>
    let f':={f with slots:=f.slots.set a.slot.toNat {s with kid:=y.2.1}}
    let u:=fW (eJ w k.worker) [y.2.1]
    if u.2=0 then .ok (mQ (eQ {w with pen:=y.1} q f') k.worker u.1)else .error u.2
   | none => .error 0
  else .error y.2.2
 else .error 1
theorem aMh (q:Rf)(f:Frm)(a:Act)(h:WkH H r w k (.imm (w.rings.map bG)) cv)(hok:WOk w k)(hf:w.pen.free.length≤1048576)(hf2:∀ f',(cC w.pen f').1.free.length≤1048576)
 (hpl:w.prog.length≤1048576) (hpc:∀ f,f∈w.prog→f.code.length≤1048576) (ha:a.args.length≤1048576) (hsl:0≤a.slot∧a.slot < f.slots.length) (hfl:f.slots.length≤1048576)
 (hk:∀ H' rv' cv' w',jN w k q f a = .ok w'→WkH H' r w' k rv' cv'→dP H H' r→KK (put T dst (.tup [])) H')
 (hp:∀ H' e,jN w k q f a = .error e→dP H H' r→Q (.panic (.iface 176 (.agg [i64 e]))) T H') :
 aZ (Eg g) (FW (Eg g)) 178 [.ptr r 0 0,aS q,aJ f,mE a] dst T H KK Q:=by
 have hr:=h.hr;have hrl:=aE hr;simp only[iE]at hr;obtain⟨n1,n2,n3⟩:=hok.n;obtain⟨sl1,sl2⟩:=hsl;have c1:=aIx g w.prog a.fn a.args a.seed (by omega) (fun f hf=>by have:=hpc f hf;omega) (by omega);refine en Tryz.func178 Tryz.ntmps178 Tryz.results178 rfl ⟨⟨rfl,rfl⟩,rfl⟩ ?_;simp only[ZZ,simprocAttr,i64];simp only[aS,aJ,aN,mE];refine rg fun K hK=>?_;simp only[ZZ,simprocAttr,i64];apply hK;cases ho:cI w.prog a.fn a.args a.seed
 ·rw[ho]at c1;simp only[Bool.false_eq_true,if_false,aJ,aN,cZ]at c1;have e:jN w k q f a = .error 1:=by rw[jN,ho];rfl
  refine dr [0,1,2,3,5,7,9,4,6,8,10,11,12,13,14,15,16,17] (by kernel_rfl) fun K hK=>?_;simp only[ZZ,simprocAttr,i64,WH,hr,hrl];refine mt c1 Tryz.func78 rfl ⟨⟨rfl,rfl⟩,rfl⟩ rfl ?_;simp only[ZZ,simprocAttr,i64,WH,hr,hrl];apply hK;refine aF fun K1 hK1=>?_;refine rg fun K hK=>?_;simp only[ZZ,simprocAttr,i64];apply hK;apply aB rfl;refine FW.last fun K hK=>FW.region (xA _) ?_;simp only[ZZ,simprocAttr,i64];refine mtP (Jj g 1 (by decide)) Tryz.func177 rfl ⟨⟨rfl,rfl⟩,rfl⟩ rfl ?_;exact hp _ _ e (dP.app _)
 ·rw[ho]at c1;simp only[if_true,aJ,aN]at c1;generalize hch:dK w.prog a.fn a.args a.seed=ch at *;have e0:jN w k q f a=(let y:=cC w.pen {ch with up:=q,upSlot:=a.slot}
   if y.2.2=0 then
    match f.slots[a.slot.toNat]? with
    | some s=>
     let f':={f with slots:=f.slots.set a.slot.toNat {s with kid:=y.2.1}}
     let u:=fW (eJ w k.worker) [y.2.1]
     if u.2=0 then .ok (mQ (eQ {w with pen:=y.1} q f') k.worker u.1)else .error u.2
    | none => .error 0
   else .error y.2.2):=by rw[jN,ho,hch];rfl
  have c2:=aIv g w.pen {ch with up:=q,upSlot:=a.slot} (by omega);have hf2':=hf2 {ch with up:=q,upSlot:=a.slot};generalize hy:cC w.pen {ch with up:=q,upSlot:=a.slot}=y at *;obtain⟨y1,y2,y3⟩:=y;simp only[bJ,aJ,aN,aS]at c2 e0 hf2';refine dr [0,1,2,3,5,7,9,4,6,8,10,11,12,13,14,15,16,17] (by kernel_rfl) fun K hK=>?_;simp only[ZZ,simprocAttr,i64,WH,hr,hrl];refine mt c1 Tryz.func78 rfl ⟨⟨rfl,rfl⟩,rfl⟩ rfl ?_;simp only[ZZ,simprocAttr,i64,WH,hr,hrl];apply hK;refine aF fun K1 hK1=>?_;refine rg fun K hK=>?_;simp only[ZZ,simprocAttr,i64];apply hK;apply aD rfl;apply aH;simp only[WX];apply hK1;have hne1:(H.length+1 == H.length)=false:=by simp
  refine pr [1,0,3,2,4,5,6] [2] [H.length+2] (by kernel_rfl) fun K hK=>?_;simp only[ZZ,simprocAttr,i64,WH,hr,hrl,hne1,Bool.not_false,fL];apply hK;refine rg fun K hK=>?_;simp only[ZZ,simprocAttr,i64];apply hK;refine rg fun K hK=>?_;simp only[ZZ,simprocAttr,i64];apply hK;refine dr [0,1,2,3,4,5,6,7,8,9,10,11,12,13,14,15,16,17] (by kernel_rfl) fun K hK=>?_;simp only[ZZ,simprocAttr,i64,WH,hr,hrl];refine mt c2 Tryz.func82 rfl ⟨⟨rfl,rfl⟩,rfl⟩ rfl ?_;simp only[ZZ,simprocAttr,i64,WH,hr,hrl];apply hK;have hgs:=List.getElem?_eq_getElem (show a.slot.toNat < f.slots.length by omega);generalize f.slots[a.slot.toNat]'(by omega)=sl at hgs;rw[hgs]at e0;simp only at e0;obtain⟨SL,hSL⟩:∃ SL,SL=f.slots.set a.slot.toNat {sl with kid:=y2}:=⟨_,rfl⟩;rw[←hSL]at e0;have hln:f.slots.length=SL.length:=by rw[hSL];simp
  by_cases hy3:y3=0
  ·subst hy3;simp only[if_true]at e0;refine rg fun K hK=>?_;simp only[ZZ,simprocAttr,i64];refine mt (aDj g) Tryz.func177 rfl ⟨⟨rfl,rfl⟩,rfl⟩ rfl ?_;simp only[ZZ,simprocAttr,i64,WH,hr,hrl];apply hK;refine rg fun K hK=>?_;simp only[ZZ,simprocAttr,i64,WH,hr,hrl];refine cl Tryz.func146 rfl ⟨rfl,rfl⟩ rfl rfl (tQ _) (by simp;omega) ?_;simp only[ZZ,simprocAttr,i64,WH,hr,hrl];apply hK;obtain⟨ss,⟨ska,skg⟩,⟨sot,⟨sor,soi⟩⟩⟩:=sl;refine rg fun K hK=>?_;simp only[ZZ,simprocAttr,i64,WH,hr,hrl,sl1,sl2,List.getElem?_map,hgs,Option.map_some,cF];apply hK;have hsl':(List.map cF f.slots).set a.slot.toNat (V.agg [V.int .i64 ss,V.int .i64 y2.at_,V.int .i64 y2.gen,V.int .i64 sot,V.int .i64 sor,V.int .i64 soi])=List.map cF SL:=by rw[hSL,List.map_set];rfl
   rw[hsl'];refine rg fun K hK=>?_;simp only[ZZ,simprocAttr,i64,WH,hr,hrl,hln];have hw1:=h.setApp (w':={w with pen:=y1}) rfl rfl [.row 2 [aS q] false,.row 16 [frS f (.sl (H.length+5) 0 SL.length)] false,.row 5 [mE a] false,.row 16 [frS {ch with up:=q,upSlot:=a.slot} (.imm (ch.slots.map cF))] false,.row 2 [aS y2] false,.row 6 (SL.map cF) false];refine aGh g q {f with slots:=SL} (H.length+5) hw1.1 (by show y1.free.length≤_;omega) (by rw[bO (n:=H.length) _ 5 (by simp)];rfl) ?_;intro H2 g1 g2;have hBb:dP H H2 r:=⟨by have:=g2.1;simp at this;omega,fun c hc hcr=>by
    rw[g2.2 c (by simp;omega) hcr (by omega),bA _ (by simpa using hc),aG (Ne.symm hcr)]⟩
   have hkd:hb H2 (H.length+4)=some (.row 2 [aS y2] false):=by
    rw[g2.2 (H.length+4) (by simp) (by omega) (by omega),bO (n:=H.length) _ 4 (by simp)];rfl
   have hkl:=aE hkd;have hrb:=g1.hr;have hrlb:=aE hrb;simp only[iE]at hrb;have hxv:=uJ (w:=w) (n:=k.worker) ⟨n1,n2⟩;have hbv:=hok.b _ (List.mem_of_getElem? hxv);generalize eJ w k.worker=vr at *;have c3:=aDc g vr [y2] (by omega) (by simp);generalize hP:(fW vr [y2]).1=own at *;generalize hE:(fW vr [y2]).2=er at *;simp only[bG,List.map_cons,List.map_nil,aS]at c3;simp only[aS]at hkd;have hbb:∀ x:V,hb (H2++[.row 2 [x] false]) H2.length=some (.row 2 [x] false):=fun x=>by rw[dS];rfl
   simp only[ZZ,simprocAttr,i64];apply hK;refine td (fun _=>True) (OT.of [0,1,2,3,4,5,6,7,8,9,10,11,12] (.two 13 (OT.of [14,15,16,17,18,19,20] .nil) 18 (OT.of [13,14,15,16,17,19,20] .nil))) [] (by kernel_rfl) fun K hK=>?_;have fin:∀ H3 T' c12,WkH H3 r (eQ {w with pen:=y1} q {f with slots:=SL}) k (.imm (w.rings.map bG)) cv→dP H H3 r→hb H3 c12=some (.row 4 [bG own] false)→gt T' 0 = .ptr r 0 0→gt T' 11 = .int .i64 er→gt T' 12 = .ptr c12 0 0→T'.length=96→K T' H3:=by
    intro H3 T' c12 d1 d2 d3 b0 b11 b12 hT;have hrc:=d1.hr;simp only[iE]at hrc;simp only[bG]at d3;apply hK;rw[eW 96 T' hT];simp only[show List.range 96=[0,1,2,3,4,5,6,7,8,9,10,11,12,13,14,15,16,17,18,19,20,21,22,23,24,25,26,27,28,29,30,31,32,33,34,35,36,37,38,39,40,41,42,43,44,45,46,47,48,49,50,51,52,53,54,55,56,57,58,59,60,61,62,63,64,65,66,67,68,69,70,71,72,73,74,75,76,77,78,79,80,81,82,83,84,85,86,87,88,89,90,91,92,93,94,95]from rfl,List.map_cons,List.map_nil,b0,b11,b12];by_cases her:er=0
    ·subst her;simp only[if_true]at e0;refine rg fun K hK=>?_;simp only[ZZ,simprocAttr,i64];refine mt (aDj g) Tryz.func177 rfl ⟨⟨rfl,rfl⟩,rfl⟩ rfl ?_;simp only[ZZ,simprocAttr,i64,WH];apply hK;refine dl [0,1,2,3,4,5,6,7] (by kernel_rfl) fun K hK=>?_;simp only[ZZ,simprocAttr,i64,WH,hrc,d3];refine De g k.worker own d1 ⟨n1,n2⟩ (by have:=hok.l.1;show w.rings.length≤_;omega) ?_;intro H4 rv4 d4 d5;simp only[ZZ,simprocAttr,i64];apply hK;try simp only[WX]
     simp only[WX,bF,aI,W5,List.mapM_nil,Option.pure_def];exact hk _ _ _ _ e0 d4 (d2.trans d5)
    ·rw[if_neg her]at e0;refine rg fun K hK=>?_;simp only[ZZ,simprocAttr,i64];refine mtP (Jj g er her) Tryz.func177 rfl ⟨⟨rfl,rfl⟩,rfl⟩ rfl ?_;exact hp _ _ e0 d2
   simp only[ZZ,simprocAttr,i64,WH,hrb,hrlb,hkd,hkl,n1,n2,List.getElem?_map,hxv,Option.map_some,bG];refine⟨?_,?_⟩
   ·refine mt c3 Tryz.func249 rfl ⟨⟨rfl,rfl⟩,rfl⟩ (by simp only[ZZ,simprocAttr,i64,WH];rfl) ?_;simp only[ZZ,simprocAttr,i64,WH,hrb,hrlb,lQ 249 ⟨rfl,rfl⟩,Qu];refine fin _ _ (H2.length+1) (g1.app _) (hBb.trans (dP.app _)) ?_ rfl rfl rfl rfl;rw[bO (n:=H2.length) _ 1 rfl];rfl
   ·refine mt c3 Tryz.func249 rfl ⟨⟨rfl,rfl⟩,rfl⟩ (by simp only[ZZ,simprocAttr,i64,WH];rfl) ?_;simp only[ZZ,simprocAttr,i64,WH,hrb,hrlb,lQ 249 ⟨rfl,rfl⟩,Qu];refine fin _ _ H2.length (g1.app _) (hBb.trans (dP.app _)) ?_ rfl rfl rfl rfl;rw[cM (n:=H2.length) _ rfl];rfl
  ·rw[if_neg hy3]at e0;refine rg fun K hK=>?_;simp only[ZZ,simprocAttr,i64];refine mtP (Jj g y3 hy3) Tryz.func177 rfl ⟨⟨rfl,rfl⟩,rfl⟩ rfl ?_;exact hp _ _ e0 ((dP.set _).trans (dP.app _))
end
end
section
open Go Go.RowKit
variable (g:Gl)
theorem FW.scope0 {E:Env}{T:List V}{H:aA}{Q:Ex→List V→aA→Prop}{r:Code}{l n:Nat}(J:Nat→List V→aA→Prop)(h0:J n T H)
 (pass:∀ n T H,J n T H→FW E r (mU l J n Q) T H):FW E (.scope (.seq (.label l) r)) Q T H:=by
 have hf:findLabel (.seq (.label l) r) l=some (.seq .skip r):=by simp[findLabel]
 have back:∀ n T H,J n T H→FW E r (fun e T' H'=>match e with | .goto l'=>(∃ r',findLabel (.seq (.label l) r) l'=some r')∧∃ m,m < n∧(l'=l∧∃ k,k≤m∧J k T' H')|e=>Q e T' H') T H:=by
  intro n T H hJ;refine FW.mono (pass n T H hJ) ?_;intro e T' H' h;cases e<;>try exact h
  obtain⟨rfl,m,hm,hJ'⟩:=h;exact⟨⟨_,hf⟩,m,hm,rfl,m,Nat.le_refl _,hJ'⟩
 refine FW.scope (fun n l' T H=>l'=l∧∃ k,k≤n∧J k T H) (.inr ⟨n,?_⟩) ?_
 ·refine FW.seq (FW.label ?_);refine FW.mono (back n T H h0) ?_;intro e T'' H'' h;cases e<;>try exact h
  obtain⟨h1,m,hm,rfl,k,hk,hJ'⟩:=h;exact⟨h1,rfl,k,by omega,hJ'⟩
 ·rintro n' l' r' T' H' hfl ⟨rfl,k,hk,hJ⟩;rw[hf]at hfl;cases hfl;refine FW.seq (aH ?_);refine FW.mono (back k T' H' hJ) ?_;intro e T'' H'' h;cases e<;>try exact h
  obtain⟨h1,m,hm,rfl,j,hj,hJ'⟩:=h;exact⟨h1,m,by omega,rfl,j,hj,hJ'⟩
def kH (f:Frm)(slot:Int)(o:Outc):Frm:=if jM f slot then fQ f slot o else f
def xO (w2:Wd)(k:Pk)(up:Rf)(ab gi:Frm):Wd:=if ab.state=1∧gi.state=0 then eM w2 k up else w2
def mD:Nat→Wd→Pk→Rf→Frm→Wd
 | 0,w,_,_,_=>w
 | n+1,w,k,q,f=>
  if(cJ f).2 then
   let w1:Wd:={w with pen:=(aR w.pen q).1}
   if f.up=dN then {w1 with state:=1,out:=(cJ f).1}
   else if(bM w1.pen f.up).2 then
    let ab:=(bM w1.pen f.up).1
    let gi:=kH ab f.upSlot (cJ f).1
    let w2:=eQ w1 f.up gi
    let w3:=if ab.state=1∧gi.state=0 then eM w2 k f.up else w2
    if gi.state=2 then mD n w3 k f.up gi else w3
   else w1
  else w
def cnt (l:List Cel):Nat:=(l.filter (·.used)).length
def b2n (b:Bool):Nat:=if b then 1 else 0
theorem Mb:∀(l:List Cel)(i:Nat)(c c0:Cel),l[i]?=some c0→cnt (l.set i c)+b2n c0.used=cnt l+b2n c.used
 | [],i,c,c0,h=>by simp at h
 | a::l,0,c,c0,h=>by
  simp at h;subst h;simp only[List.set_cons_zero,cnt,List.filter_cons,b2n];cases a.used<;>cases c.used<;>simp
 | a::l,i+1,c,c0,h=>by
  have:=Mb l i c c0 (by simpa using h);simp only[List.set_cons_succ,cnt,List.filter_cons]at this ⊢;cases a.used<;>simp<;>omega
def mu (p:Pn)(q:Rf):Nat:=cnt p.cells+(if gA p q then 0 else 1)
theorem aFs (p:Pn)(q:Rf):1≤mu p q:=by
 unfold mu;by_cases h:gA p q=true
 ·obtain⟨c,e1,e2,e3,e4,e5⟩:=gF h;have:c∈p.cells.filter (·.used):=List.mem_filter.2 ⟨List.mem_of_getElem? e1,e4⟩;have:=List.length_pos_of_mem this;unfold cnt;omega
 ·rw[if_neg h];omega
def oB (f:Frm):Prop:=f.stack.length≤1048576∧f.locals.length≤1048576∧f.slots.length≤1048576
def pR (p:Pn):Prop:=∀ c∈p.cells,oB c.f
theorem Ge {p:Pn}{q:Rf}(h:(bM p q).2=true):bN p=true∧gA p q=true:=by
 unfold bM at h;split at h
 ·rename_i h1;rwa [Bool.and_eq_true]at h1
 ·cases h
theorem aGy {p:Pn}{q up:Rf}{gi:Frm}{n:Nat}(hm:mu p q≤n+1)(hg:(bM (aR p q).1 up).2=true):mu (bI (aR p q).1 up gi).1 up≤n:=by
 obtain⟨g1,g2⟩:=Ge hg;have h1:cnt (aR p q).1.cells≤n:=by
  unfold aR at g1 ⊢;split at g1
  ·rename_i hp;rw[if_pos hp];split at g1
   ·rename_i hh;rw[if_pos hh];obtain⟨c,e1,e2,e3,e4,e5⟩:=gF hh;rw[e1];simp only;have:=Mb p.cells q.at_.toNat ⟨fI c.gen,false,cZ⟩ c e1;rw[e4]at this;simp only[b2n,if_true,Bool.false_eq_true,if_false]at this;unfold mu at hm;rw[if_pos hh]at hm;omega
   ·rename_i hh;rw[if_neg hh];unfold mu at hm;rw[if_neg hh]at hm;simp only;omega
  ·rename_i hp;exact absurd g1 hp
 generalize (aR p q).1=p1 at *;obtain⟨c,e1,e2,e3,e4,e5⟩:=gF g2;unfold bI;rw[if_pos g1,if_pos g2,e1];simp only[mu];have hc:=Mb p1.cells up.at_.toNat ⟨c.gen,c.used,gi⟩ c e1;have hlt:=(List.getElem?_eq_some_iff.1 e1).1;have hh:gA {p1 with cells:=p1.cells.set up.at_.toNat ⟨c.gen,c.used,gi⟩} up=true:=by
  unfold gA;simp only[List.length_set,List.getElem?_set_self hlt,e4,e5,beq_self_eq_true,Bool.and_self,Bool.and_true,eK];rw[Bool.and_eq_true,decide_eq_true_eq,decide_eq_true_eq];omega
 rw[if_pos hh];simp only at hc;omega
theorem yH {p:Pn}(h:pR p)(q:Rf){f:Frm}(hf:oB f):pR (bI p q f).1:=by
 unfold bI;split
 ·split
  ·split
   ·intro c hc;rcases List.mem_or_eq_of_mem_set hc with hc|rfl
    ·exact h c hc
    ·exact hf
   ·exact h
  ·exact h
 ·exact h
theorem Gh {p:Pn}(h:pR p)(q:Rf):pR (aR p q).1:=by
 unfold aR;split
 ·split
  ·split
   ·intro c hc;rcases List.mem_or_eq_of_mem_set hc with hc|rfl
    ·exact h c hc
    ·exact⟨by simp[cZ],by simp[cZ],by simp[cZ]⟩
   ·exact h
  ·exact h
 ·exact h
theorem yI {p:Pn}(h:pR p)(q:Rf):oB (bM p q).1:=by
 have h0:oB cZ:=⟨by simp[cZ],by simp[cZ],by simp[cZ]⟩;unfold bM;split
 ·split
  ·rename_i c hc;exact h c (List.mem_of_getElem? hc)
  ·exact h0
 ·exact h0
theorem vS {f:Frm}(h:oB f)(s:Int)(o:Outc):oB (kH f s o):=by
 unfold kH;split
 ·unfold fQ;split
  ·exact⟨h.1,h.2.1,by simpa using h.2.2⟩
  ·exact⟨h.1,h.2.1,by simpa using h.2.2⟩
 ·exact h
theorem Jn (p:Pn)(q:Rf):(aR p q).1.free.length≤p.free.length+1:=by
 unfold aR;split
 ·split
  ·split
   ·simp
   ·simp
  ·simp
 ·simp
theorem Me (p:Pn)(q:Rf)(f:Frm):(bI p q f).1.free=p.free:=by
 unfold bI;split
 ·split
  ·split<;>rfl
  ·rfl
 ·rfl
section
variable {Q:Ex→List V→aA→Prop}{dst:Option Tmp}{T:List V}{H:aA}{KK:List V→aA→Prop}{r:Nat}{w:Wd}{k:Pk}{rv cv:V}
theorem wJ (w2:Wd)(k:Pk)(up:Rf)(ab gi:Frm):(xO w2 k up ab gi).pen=w2.pen:=by unfold xO;split<;>rfl
theorem Qv (w2:Wd)(k:Pk)(up:Rf)(ab gi:Frm):(xO w2 k up ab gi).cur.length=w2.cur.length:=by unfold xO;split<;>simp[eM]
theorem WkH.setO {H:aA}{r:Nat}{w:Wd}{k:Pk}{rv cv:V}(h:WkH H r w k rv cv){b s:Nat}{l l':List V}(hb0:hb H b=some (.row s l false))(hs:s≠22)(hs4:s≠4)(hn:s=2→∀ d m,cv = .sl d 0 m→d≠b):WkH (H.set b (.row s l' false)) r w k rv cv:=by
 refine⟨?_,?_,?_⟩
 ·have:b≠r:=fun e=>by subst e;rw[h.hr]at hb0;simp at hb0;exact hs hb0.1.symm
  rw[aG this];exact h.hr
 ·rcases h.hv with e|⟨d,e1,e2⟩
  ·exact .inl e
  ·have:b≠d:=fun e=>by subst e;rw[hb0]at e2;simp at e2;exact hs4 e2.1
   exact .inr ⟨d,e1,by rw[aG this];exact e2⟩
 ·rcases h.hc with e|⟨d,e1,e2⟩
  ·exact .inl e
  ·have:b≠d:=fun e=>by
    subst e;rw[hb0]at e2;simp at e2;exact hn e2.1 _ _ e1 rfl
   exact .inr ⟨d,e1,by rw[aG this];exact e2⟩
theorem aMg (q:Rf)(f:Frm)(n:Nat)(h:WkH H r w k rv cv)(hn:0≤k.worker∧k.worker < w.cur.length)(hcl:w.cur.length≤1048576)(hf:w.pen.free.length+n≤1073741824)(hm:mu w.pen q≤n)(hsz:pR w.pen)(hfz:oB f)
 (hk:∀ H' rv' cv',WkH H' r (mD n w k q f) k rv' cv'→dP H H' r→KK (put T dst (.tup [])) H') :
 aZ (Eg g) (FW (Eg g)) 179 [.ptr r 0 0,aS q,aJ f] dst T H KK Q:=by
 have hB0:dP H (H++[.row 2 [aS q] false,.row 16 [aJ f] false]) r:=dP.app _;have h0:=h.app [.row 2 [aS q] false,.row 16 [aJ f] false];have hr0:=aE h.hr;have hcv0:∀ b m,cv = .sl b 0 m→b≠H.length:=by
  rintro b m rfl;rcases h.hc with e|⟨b',e1,e2⟩
  ·cases e
  ·cases e1;have:=aE e2;omega
 refine en Tryz.func179 Tryz.ntmps179 Tryz.results179 rfl ⟨⟨rfl,rfl⟩,rfl⟩ ?_;simp only[ZZ,simprocAttr,i64];simp only[aS,aJ,aN];refine rg fun K hK=>?_;simp only[ZZ,simprocAttr,i64,WH];apply hK;refine FW.scope0 (n:=n) (fun n T1 H1=>∃ w1 q1 f1 rv1 cv1,WkH H1 r w1 k rv1 cv1∧dP H H1 r∧hb H1 H.length=some (.row 2 [aS q1] false)∧hb H1 (H.length+1)=some (.row 16 [aJ f1] false)∧
  gt T1 0 = .ptr r 0 0∧gt T1 4 = .ptr H.length 0 0∧gt T1 5 = .ptr (H.length+1) 0 0∧T1.length=90∧w1.cur.length=w.cur.length∧w1.pen.free.length+n≤1073741824∧mu w1.pen q1≤n∧pR w1.pen∧oB f1∧
  (∀ b m,cv1 = .sl b 0 m→b≠H.length)∧(∀ H' rv' cv',WkH H' r (mD n w1 k q1 f1) k rv' cv'→dP H H' r→KK (put T dst (.tup [])) H')) ⟨w,q,f,rv,cv,h0,hB0,by rw[cM (n:=H.length) _ rfl];rfl,by rw[bO (n:=H.length) _ 1 rfl];rfl,rfl,rfl,rfl,rfl,rfl,hf,hm,hsz,hfz,hcv0,hk⟩ ?_
 rintro n T1 H1 ⟨w1,q1,f1,rv1,cv1,a1,a2,a3,a4,b0,b4,b5,hT,a5,a6,a7,a8,a9,acv,hk1⟩;rw[eW 90 T1 hT];simp only[show List.range 90=[0,1,2,3,4,5,6,7,8,9,10,11,12,13,14,15,16,17,18,19,20,21,22,23,24,25,26,27,28,29,30,31,32,33,34,35,36,37,38,39,40,41,42,43,44,45,46,47,48,49,50,51,52,53,54,55,56,57,58,59,60,61,62,63,64,65,66,67,68,69,70,71,72,73,74,75,76,77,78,79,80,81,82,83,84,85,86,87,88,89]from rfl,List.map_cons,List.map_nil,b0,b4,b5];obtain⟨n,rfl⟩:∃ m,n=m+1:=⟨n - 1,by have:=aFs w1.pen q1;omega⟩;have hra:=a1.hr;have hrla:=aE hra;have c1:=aJt g f1 (by have:=a9.2.2;omega);have c2:=aJs g w1.pen q1 (by omega);have hl3:=aE a3;have hl4:=aE a4;have nr3:H.length≠r:=by omega
 have nr4:H.length+1≠r:=by omega
 simp only[iE]at hra;simp only[aS]at a3;simp only[aJ,aN]at a4 c1;simp only[bJ,aS,cQ]at c2;have eE:mD (n+1) w1 k q1 f1=if(cJ f1).2 then
  (if f1.up=dN then {w1 with pen:=(aR w1.pen q1).1,state:=1,out:=(cJ f1).1}
  else if(bM (aR w1.pen q1).1 f1.up).2 then
   (if(kH (bM (aR w1.pen q1).1 f1.up).1 f1.upSlot (cJ f1).1).state=2 then mD n (xO (eQ {w1 with pen:=(aR w1.pen q1).1} f1.up (kH (bM (aR w1.pen q1).1 f1.up).1 f1.upSlot (cJ f1).1)) k f1.up (bM (aR w1.pen q1).1 f1.up).1 (kH (bM (aR w1.pen q1).1 f1.up).1 f1.upSlot (cJ f1).1)) k f1.up (kH (bM (aR w1.pen q1).1 f1.up).1 f1.upSlot (cJ f1).1)
   else xO (eQ {w1 with pen:=(aR w1.pen q1).1} f1.up (kH (bM (aR w1.pen q1).1 f1.up).1 f1.upSlot (cJ f1).1)) k f1.up (bM (aR w1.pen q1).1 f1.up).1 (kH (bM (aR w1.pen q1).1 f1.up).1 f1.upSlot (cJ f1).1))
  else {w1 with pen:=(aR w1.pen q1).1})
  else w1:=rfl
 generalize hF:cJ f1=F at *;obtain⟨fo,fb⟩:=F;simp only[cQ]at c1;refine rg fun K hK=>?_;simp only[ZZ,simprocAttr,i64,WG,WH,a4,hl4];refine mt c1 Tryz.func250 rfl ⟨⟨rfl,rfl⟩,rfl⟩ rfl ?_;simp only[ZZ,simprocAttr,i64,WG,WH,a4,hl4];apply hK;refine aF fun K1 hK1=>?_;cases fb with
 | false=>
  simp only[Bool.false_eq_true,if_false]at eE;refine rg fun K hK=>?_;simp only[ZZ,simprocAttr,i64,WG];apply hK;apply aB rfl;apply aC;simp only[WX,aM,aI,W1,W5,aL,aO,List.mapM_nil,Option.pure_def];exact hk1 _ _ _ (by rw[eE];exact a1.app _) (a2.trans (dP.app _))
 | true=>
  simp only[if_true]at eE;refine rg fun K hK=>?_;simp only[ZZ,simprocAttr,i64,WG];apply hK;apply aD rfl;apply aH;simp only[WX];apply hK1;refine dr [0,1,2,3,4,5,6,7,8,9,10,11,12,13,14] (by kernel_rfl) fun K hK=>?_;simp only[ZZ,simprocAttr,i64,WG,WH,hra,hrla,a3,hl3];refine mt c2 Tryz.func251 rfl ⟨⟨rfl,rfl⟩,rfl⟩ rfl ?_;simp only[ZZ,simprocAttr,i64,WG,WH,hra,hrla,a3,hl3];apply hK;have dd:=a1.setApp (w':={w1 with pen:=(aR w1.pen q1).1}) rfl rfl [.row 3 [cQ fo] false];have d3:hb (H1.set r (.row 22 [iE {w1 with pen:=(aR w1.pen q1).1} k rv1 cv1] false)++[.row 3 [cQ fo] false]) H.length=some (.row 2 [.agg [i64 q1.at_,i64 q1.gen]] false):=by rw[dd.2.2 _ hl3 nr3];exact a3
  have d4:hb (H1.set r (.row 22 [iE {w1 with pen:=(aR w1.pen q1).1} k rv1 cv1] false)++[.row 3 [cQ fo] false]) (H.length+1)=some (.row 16 [aJ f1] false):=by rw[dd.2.2 _ hl4 nr4];exact a4
  have d6:hb (H1.set r (.row 22 [iE {w1 with pen:=(aR w1.pen q1).1} k rv1 cv1] false)++[.row 3 [cQ fo] false]) H1.length=some (.row 3 [cQ fo] false):=by rw[cM (n:=H1.length) _ (by simp)];rfl
  obtain⟨H2,hH2⟩:∃ H2,H2=H1.set r (.row 22 [iE {w1 with pen:=(aR w1.pen q1).1} k rv1 cv1] false)++[.row 3 [cQ fo] false]:=⟨_,rfl⟩;rw[←hH2]at dd d3 d4 d6;simp only[iE,cQ,i64]at hH2;rw[←hH2];obtain⟨c6,hc6⟩:∃ c6,c6=H1.length:=⟨_,rfl⟩;have n6:c6≠r:=by omega
  have l6:H.length+2≤c6:=by omega
  rw[←hc6]at d6 ⊢;obtain⟨d1,d2⟩:=dd;have d2:=a2.trans d2;clear hH2 hc6 hra hrla a3 a4;have hmu:=fun hg gi=>aGy (n:=n) (up:=f1.up) (gi:=gi) a7 hg;have hfd:=Jn w1.pen q1;have hpz:=Gh a8 q1;generalize hw2:(aR w1.pen q1).1=p2 at *;have hrb:=d1.hr;have hrlb:=aE hrb;have hl3:=aE d3;have hl4:=aE d4;have hl6:=aE d6;simp only[iE]at hrb;simp only[cQ]at d6;simp only[aJ,aN]at d4;refine aF fun K2 hK2=>?_;by_cases hup:f1.up=dN
  ·have hd:decide ([f1.up.at_,f1.up.gen]=[-1,0])=true:=by rw[hup];rfl
   rw[if_pos hup]at eE;refine dr [0,1,2,3] (by kernel_rfl) fun K hK=>?_;simp only[ZZ,simprocAttr,i64,WG,WH,d4];refine mt (Im g ) Tryz.func87 rfl ⟨⟨rfl,rfl⟩,rfl⟩ rfl ?_;simp only[ZZ,simprocAttr,i64,WG,WH,hd,aS,dN];apply hK;apply aB rfl;have hne6:(r == c6)=false:=by simpa using Ne.symm n6
   refine pr [0,1,3,4,5,2,6,7,8,9,10] [2] [c6] (by kernel_rfl) fun K hK=>?_;simp only[ZZ,simprocAttr,i64,WG,WH,hrb,hrlb,d6,aW,List.length_set,hne6,Bool.not_false,fL];apply hK;apply aC;simp only[WX,aM,aI,W1,W5,aL,aO,List.mapM_nil,Option.pure_def];have:=d1.set (w':={w1 with pen:=p2,state:=1,out:=fo}) rfl rfl;exact hk1 _ _ _ (by rw[eE];exact this.1) (d2.trans this.2)
  ·have hd:decide ([f1.up.at_,f1.up.gen]=[-1,0])=false:=by
    rw[decide_eq_false_iff_not];intro e;apply hup;generalize f1.up=z at e;obtain⟨za,zg⟩:=z;simp at e;rw[e.1,e.2];rfl
   rw[if_neg hup]at eE;refine dr [0,1,2,3] (by kernel_rfl) fun K hK=>?_;simp only[ZZ,simprocAttr,i64,WG,WH,d4];refine mt (Im g ) Tryz.func87 rfl ⟨⟨rfl,rfl⟩,rfl⟩ rfl ?_;simp only[ZZ,simprocAttr,i64,WG,WH,hd,aS,dN];apply hK;apply aD rfl;apply aH;simp only[WX];apply hK2;have c3:=aIu g p2 f1.up (by omega);simp only[bJ,aS]at c3;have hab:=yI hpz f1.up;have hmu':=hmu;generalize hG:bM p2 f1.up=G at *;obtain⟨ab,hb_⟩:=G;simp only at eE hab;simp only[aJ,aN]at c3;refine dr [0,1,2,3,5,4,6,7,8,9,10,11,12,13] (by kernel_rfl) fun K hK=>?_;simp only[ZZ,simprocAttr,i64,WG,WH,hrb,hrlb,d4,hl4];refine mt c3 Tryz.func89 rfl ⟨⟨rfl,rfl⟩,rfl⟩ rfl ?_;simp only[ZZ,simprocAttr,i64,WG,WH,hrb,hrlb,d4,hl4];apply hK;refine aF fun K3 hK3=>?_;cases hb_ with
   | false=>
    simp only[Bool.false_eq_true,if_false]at eE;refine rg fun K hK=>?_;simp only[ZZ,simprocAttr,i64,WG];apply hK;apply aB rfl;apply aC;simp only[WX,aM,aI,W1,W5,aL,aO,List.mapM_nil,Option.pure_def];exact hk1 _ _ _ (by rw[eE];exact d1.app _) (d2.trans (dP.app _))
   | true=>
    simp only[if_true]at eE;have c4:PC P0 g 252 [aJ ab,.int .i64 f1.upSlot,cQ fo] (.ret (.tup [aJ (kH ab f1.upSlot fo),.bool (jM ab f1.upSlot)])):=by
     have:=aJr g ab f1.upSlot fo (by have:=hab.1;omega) (by have:=hab.2.1;omega) (by have:=hab.2.2;omega);cases ho:jM ab f1.upSlot<;>rw[ho]at this<;>simp only[kH,ho]<;>exact this
    have hgz:=vS hab f1.upSlot fo;generalize hgi:kH ab f1.upSlot fo=gi at *;have hmu2:=hmu' rfl gi;simp only[aJ,aN,cQ]at c4;refine rg fun K hK=>?_;simp only[ZZ,simprocAttr,i64,WG];apply hK;apply aD rfl;apply aH;simp only[WX];apply hK3;refine rg fun K hK=>?_;simp only[ZZ,simprocAttr,i64,WG,WH,d4,hl4,d6,hl6];refine mt c4 Tryz.func252 rfl ⟨⟨rfl,rfl⟩,rfl⟩ rfl ?_;simp only[ZZ,simprocAttr,i64,WG,WH,d4,hl4,d6,hl6];apply hK;refine rg fun K hK=>?_;simp only[ZZ,simprocAttr,i64,WG,WH,d4,hl4];have f1':=d1.app [.row 16 [aJ ab] false,.row 16 [aJ gi] false];refine Ck g f1.up gi f1' (by show p2.free.length≤_;omega) ?_;intro H5 e1 e2;have k3:hb H5 H.length=some (.row 2 [aS q1] false):=by
     rw[e2.2 _ (by simp;omega) nr3,bA _ hl3];exact d3
    have k4:hb H5 (H.length+1)=some (.row 16 [aJ f1] false):=by
     rw[e2.2 _ (by simp;omega) nr4,bA _ hl4];exact d4
    have n8:H2.length≠r:=by omega
    have k8:hb H5 H2.length=some (.row 16 [aJ ab] false):=by
     rw[e2.2 _ (by simp) n8,cM (n:=H2.length) _ rfl];rfl
    have k10:hb H5 (H2.length+1)=some (.row 16 [aJ gi] false):=by
     rw[e2.2 _ (by simp) (by omega),bO (n:=H2.length) _ 1 rfl];rfl
    have e3:dP H H5 r:=(d2.trans (dP.app _)).trans e2;obtain⟨c8,hc8⟩:∃ c8,c8=H2.length:=⟨_,rfl⟩;have n10:c8+1≠r:=by omega
    have l8:H.length+3≤c8:=by omega
    rw[←hc8]at k8 k10 n8 ⊢;have kl3:=aE k3;have kl4:=aE k4;have kl8:=aE k8;have kl10:=aE k10;have hcur:(eQ {w1 with pen:=p2} f1.up gi).cur=w1.cur:=rfl;simp only[ZZ,simprocAttr,i64,WG];apply hK;refine aF fun K4 hK4=>?_;have fin:∀ H6 w6 cv6 (T6:List V),WkH H6 r w6 k rv1 cv6→dP H5 H6 r→w6=xO (eQ {w1 with pen:=p2} f1.up gi) k f1.up ab gi→(∀ b m,cv6 = .sl b 0 m→b≠H.length)→gt T6 0 = .ptr r 0 0→gt T6 4 = .ptr H.length 0 0→gt T6 5 = .ptr (H.length+1) 0 0→gt T6 10 = .ptr (c8+1) 0 0→T6.length=90→K4 T6 H6:=by
     intro H6 w6 cv6 T6 m1 m2 m3 mf t0 t4 t5 t10 hT;have o3:hb H6 H.length=some (.row 2 [aS q1] false):=by rw[m2.2 _ kl3 nr3];exact k3
     have o4:hb H6 (H.length+1)=some (.row 16 [aJ f1] false):=by rw[m2.2 _ kl4 nr4];exact k4
     have o10:hb H6 (c8+1)=some (.row 16 [aJ gi] false):=by rw[m2.2 _ kl10 n10];exact k10
     have ol3:=aE o3;have ol4:=aE o4;simp only[aS]at o3;simp only[aJ,aN]at o4 o10;apply hK4;rw[eW 90 T6 hT];simp only[show List.range 90=[0,1,2,3,4,5,6,7,8,9,10,11,12,13,14,15,16,17,18,19,20,21,22,23,24,25,26,27,28,29,30,31,32,33,34,35,36,37,38,39,40,41,42,43,44,45,46,47,48,49,50,51,52,53,54,55,56,57,58,59,60,61,62,63,64,65,66,67,68,69,70,71,72,73,74,75,76,77,78,79,80,81,82,83,84,85,86,87,88,89]from rfl,List.map_cons,List.map_nil,t0,t4,t5,t10];by_cases hg2:gi.state=2
     ·have hg2':(gi.state == 2)=true:=by simpa using hg2
      rw[if_pos hg2]at eE;refine rg fun K hK=>?_;simp only[ZZ,simprocAttr,i64,WG,WH,o10,hg2'];apply hK;apply aB rfl;have nb1:H.length≠H.length+1:=by omega
      have nb2:(H.length == c8+1)=false:=by simp;omega
      have nb3:(H.length+1 == c8+1)=false:=by simp;omega
      refine pr [0,1,2,3,4] [2] [c8+1] (by kernel_rfl) fun K hK=>?_;simp only[ZZ,simprocAttr,i64,WG,WH,o3,o4,o10,ol3,ol4,nb2,nb3,Bool.not_false,aG nb1,aG (Ne.symm nb1),fL];apply hK;apply nY;simp only[WX,WG];have p1:H.length≠r:=nr3;refine⟨trivial,n,by omega,w6,f1.up,gi,rv1,cv6,?_,?_,?_,?_,rfl,rfl,rfl,rfl,?_,?_,?_,?_,hgz,mf,?_⟩
      ·exact(m1.setO (l':=[aS f1.up]) o3 (by omega) (by omega) (fun _ d m e=>mf d m e)).setO (l':=[aJ gi]) (b:=H.length+1) (s:=16) (by rw[aG nb1];exact o4) (by omega) (by omega) (fun e=>by omega)
      ·refine⟨?_,fun c hc hcr=>?_⟩
       ·have:=(e3.trans m2).1;simpa using this
       ·rw[aG (by omega),aG (by omega),(e3.trans m2).2 c hc hcr]
      ·rw[aG (Ne.symm nb1),aW ol3];rfl
      ·rw[aW (by simpa using ol4)];rfl
      ·rw[m3,Qv];exact a5
      ·rw[m3,wJ];show(bI p2 f1.up gi).1.free.length+n≤_;rw[Me];omega
      ·rw[m3,wJ];exact hmu2
      ·rw[m3,wJ];exact yH hpz _ hgz
      ·intro H' rv' cv' q1 q2;refine hk1 H' rv' cv' ?_ q2;rw[eE,←m3];exact q1
     ·have hg2':(gi.state == 2)=false:=by simpa using hg2
      rw[if_neg hg2]at eE;refine rg fun K hK=>?_;simp only[ZZ,simprocAttr,i64,WG,WH,o10,hg2'];apply hK;apply aD rfl;apply aH;simp only[WX,WG];simp only[WX,bF,aI,W5,List.mapM_nil,Option.pure_def];exact hk1 _ _ _ (by rw[eE,←m3];exact m1) (e3.trans m2)
    simp only[aS]at k3;simp only[aJ,aN]at k4 k8 k10;by_cases hs1:ab.state=1
    ·have hs1':(ab.state == 1)=true:=by simpa using hs1
     by_cases hs0:gi.state=0
     ·have hs0':(gi.state == 0)=true:=by simpa using hs0
      refine rg fun K hK=>?_;simp only[ZZ,simprocAttr,i64,WG,WH,k8,k10,hs1',hs0'];apply hK;apply aB rfl;refine rl fun K hK=>?_;simp only[ZZ,simprocAttr,i64,WG,WH,k4];refine Mu g f1.up e1 ⟨hn.1,by show k.worker < w1.cur.length;rw[a5];exact hn.2⟩ (by show w1.cur.length≤_;rw[a5];omega) ?_;rintro H6 cv6 m1 m2 ⟨dd,mm,hdd,rfl⟩;simp only[ZZ,simprocAttr,i64,WG];apply hK;try simp only[WX]
      refine fin H6 _ _ _ m1 m2 ?_ (fun b m e=>by cases e;omega) rfl rfl rfl rfl rfl;rw[xO,if_pos ⟨hs1,hs0⟩];rfl
     ·have hs0':(gi.state == 0)=false:=by simpa using hs0
      refine rg fun K hK=>?_;simp only[ZZ,simprocAttr,i64,WG,WH,k8,k10,hs1',hs0'];apply hK;apply aD rfl;apply aH;simp only[WX];refine fin H5 _ cv1 _ e1 dP.refl ?_ acv rfl rfl rfl rfl rfl;rw[xO,if_neg (fun h=>hs0 h.2)];rfl
    ·have hs1':(ab.state == 1)=false:=by simpa using hs1
     refine rg fun K hK=>?_;simp only[ZZ,simprocAttr,i64,WG,WH,k8,k10,hs1'];apply hK;apply aD rfl;apply aH;simp only[WX];refine fin H5 _ cv1 _ e1 dP.refl ?_ acv rfl rfl rfl rfl rfl;rw[xO,if_neg (fun h=>hs1 h.1)];rfl
end
end
section
open Go Go.RowKit
variable (g:Gl)
theorem Gu (n:Int)(h:(bE n).on=0):n≠0∧n≠1∧n≠3∧n≠4∧n≠5∧n≠6∧n≠7∧n≠8∧n≠12∧n≠14:=by
 refine⟨?_,?_,?_,?_,?_,?_,?_,?_,?_,?_⟩<;>rintro rfl<;>revert h<;>decide
def Fu (f f':Frm)(b:Bool):Prop:=f'.stack.length≤f.stack.length+2∧(b=true→f'.stack.length≤f.stack.length)∧f'.locals.length=f.locals.length∧f'.slots.length=f.slots.length
theorem Hp (f:Frm)(op:Int)(b:Bool):Fu f (fY f op).1 b:=by
 unfold fY;split
 ·rename_i a c hl;have hlen:f.stack.length - (f.stack.length - 2)=2:=by have:=congrArg List.length hl;simpa using this
  split
  ·exact⟨by simp[cA],fun _=>by simp[cA],rfl,rfl⟩
  ·exact⟨by simp only[cK,cG,List.length_append,List.length_take,List.length_cons,List.length_nil];omega,fun _=>by simp only[cK,cG,List.length_append,List.length_take,List.length_cons,List.length_nil];omega,rfl,rfl⟩
 ·exact⟨by simp,fun _=>by simp,rfl,rfl⟩
theorem Rm (f:Frm)(a:Int):Fu f (eT f a).1 false:=by
 unfold eT;split
 ·split
  ·exact⟨by simp,fun h=>(by cases h),rfl,rfl⟩
  ·split
   ·simp only;split
    ·exact⟨by simp[cK,bC],fun h=>(by cases h),rfl,by simp[cK,bC]⟩
    ·exact⟨by simp[cA,bC],fun h=>(by cases h),rfl,by simp[cA,bC]⟩
   ·exact⟨by simp[cA],fun h=>(by cases h),rfl,rfl⟩
 ·exact⟨by simp,fun h=>(by cases h),rfl,rfl⟩
theorem Sg (p:List Fun)(f:Frm)(x:Ins)(b:Bool):Fu f (fJ p f x).1 b:=by
 unfold fJ;split
 ·split
  ·exact⟨by simp[cG,bC]<;>omega,fun _=>by simp[cG,bC],rfl,by simp[cG,bC]⟩
  ·exact⟨by simp[cA],fun _=>by simp[cA],rfl,rfl⟩
 ·exact⟨by simp,fun _=>by simp,rfl,rfl⟩
theorem Dh (f:Frm)(x:Ins):Fu f (gC f x) (decide ((bE x.op).on=0)):=by
 unfold gC;by_cases h:(bE x.op).on=0
 ·obtain⟨h0,h1,_,_,_,_,h7,h8,h12,_⟩:=Gu _ h;rw[if_neg h0,if_neg h1];split
  ·exact⟨by simp[cG]<;>omega,fun _=>by simp[cG],by simp[cG],rfl⟩
  split
  ·exact⟨by simp[cG]<;>omega,fun _=>by simp[cG],rfl,rfl⟩
  split
  ·exact⟨by simp,fun _=>by simp,rfl,rfl⟩
  split
  ·exact⟨by simp[cG]<;>omega,fun _=>by simp[cG],rfl,rfl⟩
  exact⟨by simp,fun _=>by simp,rfl,rfl⟩
 ·have hd:decide ((bE x.op).on=0)=false:=by simpa using h
  rw[hd];split
  ·exact⟨by simp[cK],fun h=>(by cases h),rfl,rfl⟩
  split
  ·split
   ·exact⟨by simp[cK],fun h=>(by cases h),rfl,rfl⟩
   ·exact⟨by simp,fun h=>(by cases h),rfl,rfl⟩
  split
  ·exact⟨by simp[cG]<;>omega,fun h=>(by cases h),by simp[cG],rfl⟩
  split
  ·exact⟨by simp only[cK,cG,List.length_append,List.length_take,List.length_cons,List.length_nil];omega,fun h=>(by cases h),rfl,rfl⟩
  split
  ·exact⟨by simp only[cK,cG,List.length_append,List.length_take,List.length_cons,List.length_nil];omega,fun h=>(by cases h),rfl,rfl⟩
  split
  ·exact⟨by simp[cG]<;>omega,fun h=>(by cases h),rfl,rfl⟩
  split
  ·exact⟨by simp,fun h=>(by cases h),rfl,rfl⟩
  split
  ·exact⟨by simp[cG]<;>omega,fun h=>(by cases h),rfl,rfl⟩
  split
  ·exact⟨by simp[cK],fun h=>(by cases h),rfl,rfl⟩
  ·exact⟨by simp,fun h=>(by cases h),rfl,rfl⟩
theorem Uy (p:List Fun)(f:Frm)(x:Ins):Fu f (jS p f x).1 (decide ((bE x.op).on=0)):=by
 unfold jS;split
 ·exact⟨by simp[cA],fun _=>by simp[cA],rfl,rfl⟩
 split
 ·exact⟨by simp[cG]<;>omega,fun _=>by simp[cG],rfl,rfl⟩
 split
 ·exact Sg p f x _
 split
 ·rename_i h;have:decide ((bE x.op).on=0)=false:=by rw[h];decide
  rw[this];exact Rm f x.a
 split
 ·exact Hp f x.op _
 ·exact Dh f x
theorem Xu (p:List Fun)(f:Frm)(h:oB f):oB (kI p f).1:=by
 unfold kI;split
 ·split
  ·split
   ·rename_i x hx;split
    ·rename_i hr;obtain⟨l1,l2,l3,l4⟩:=Uy p f x;refine⟨?_,by rw[l3];exact h.2.1,by rw[l4];exact h.2.2⟩;by_cases ho:(bE x.op).on=0
     ·have:=l2 (by simpa using ho);have:=h.1;omega
     ·unfold jZ at hr;simp only[ho,decide_false,Bool.false_or,Bool.and_eq_true,decide_eq_true_eq]at hr;have h13:x.op≠13:=fun e=>ho (by rw[e];decide);have h2:iL p x=(bE x.op).off:=by rw[iL,if_neg h13]
      have h3:=Rd x.op;have h4:=Wj x.op;omega
    ·exact h
   ·exact h
  ·exact h
 ·exact h
theorem Dn (p:List Fun)(f:Frm)(h:(kI p f).2.kind=2):0≤(kI p f).2.slot∧(kI p f).2.slot < (kI p f).1.slots.length∧(kI p f).2.args.length≤f.stack.length:=by
 revert h;unfold kI;split
 ·split
  ·split
   ·rename_i x hx;split
    ·unfold jS;split
     ·exact fun h=>absurd h (by show(4:Int)≠2;decide)
     split
     ·exact fun h=>absurd h (by show(4:Int)≠2;decide)
     split
     ·rename_i h13;obtain⟨p1,p2,p3,p4⟩:=tZ hx;obtain⟨o1,o2,o3,o4⟩:=Dd p3;unfold fD at p4;rw[if_neg (by omega),if_neg (by omega),if_pos h13,Bool.and_eq_true,decide_eq_true_eq,decide_eq_true_eq]at p4;have:=o4 h13;unfold fJ;split
      ·split
       ·intro _;exact⟨this,by simpa[cG,bC]using p4.2,by simp⟩
       ·exact fun h=>absurd h (by show(4:Int)≠2;decide)
      ·exact fun h=>absurd h (by show(1:Int)≠2;decide)
     split
     ·unfold eT;split
      ·split
       ·exact fun h=>absurd h (by show(3:Int)≠2;decide)
       ·split
        ·simp only;split
         ·exact fun h=>absurd h (by show(1:Int)≠2;decide)
         ·exact fun h=>absurd h (by show(4:Int)≠2;decide)
        ·exact fun h=>absurd h (by show(4:Int)≠2;decide)
      ·exact fun h=>absurd h (by show(1:Int)≠2;decide)
     split
     ·unfold fY;split
      ·split
       ·exact fun h=>absurd h (by show(4:Int)≠2;decide)
       ·exact fun h=>absurd h (by show(1:Int)≠2;decide)
      ·exact fun h=>absurd h (by show(1:Int)≠2;decide)
     ·exact fun h=>absurd h (by show(1:Int)≠2;decide)
    ·exact fun h=>absurd h (by show(4:Int)≠2;decide)
   ·exact fun h=>absurd h (by show(4:Int)≠2;decide)
  ·exact fun h=>absurd h (by show(0:Int)≠2;decide)
 ·exact fun h=>absurd h (by show(0:Int)≠2;decide)
end
section
open Go Go.RowKit
variable (g:Gl)
def vM (w:Wd)(k:Pk)(q:Rf)(f:Frm):Except Int Wd:=
 let y:=kI w.prog f
 if y.2.kind=0 then .ok w
 else if y.2.kind=3 then .ok (eM (eQ w q y.1) k dN)
 else if w.lim.fuel≤w.used then .error 100
 else if y.2.kind=2 then jN {w with used:=w.used+1} k q y.1 y.2
 else if y.2.kind=4 then .ok (mD (w.pen.cells.length+1) (eM (eQ {w with used:=w.used+1} q y.1) k dN) k q y.1)
 else .ok (eQ {w with used:=w.used+1} q y.1)
theorem Ul (p:Pn)(q:Rf)(f:Frm):(bI p q f).1.cells.length=p.cells.length:=by
 unfold bI;split
 ·split
  ·split<;>simp
  ·rfl
 ·rfl
theorem aKv (p:Pn)(q:Rf):mu p q≤p.cells.length+1:=by
 unfold mu cnt;have:=List.length_filter_le (fun c:Cel=>c.used) p.cells;split<;>omega
section
variable {Q:Ex→List V→aA→Prop}{dst:Option Tmp}{T:List V}{H:aA}{KK:List V→aA→Prop}{r:Nat}{w:Wd}{k:Pk}{rv cv:V}
theorem aTc (q:Rf)(f:Frm)(h:WkH H r w k (.imm (w.rings.map bG)) cv)(hok:WOk w k)(hp:pOk w.prog)(hpl:w.prog.length≤1048576)(hfz:oB f)
 (hsp:0≤f.spawned∧f.spawned≤1073741824) (hdr:0≤f.draws∧f.draws≤1073741824) (hf:w.pen.free.length≤1048576) (hf2:∀ f',(cC w.pen f').1.free.length≤1048576) (hcl:w.pen.cells.length≤1048576) (hsz:pR w.pen)
 (hus:0≤w.used∧w.used≤4611686018427387904)
 (hk:∀ H' rv' cv' w',vM w k q f = .ok w'→WkH H' r w' k rv' cv'→dP H H' r→KK (put T dst (.tup [])) H')
 (hpn:∀ H' e,vM w k q f = .error e→dP H H' r→Q (.panic (.iface 176 (.agg [i64 e]))) T H') :
 aZ (Eg g) (FW (Eg g)) 90 [.ptr r 0 0,aS q,aJ f] dst T H KK Q:=by
 have hr:=h.hr;have hrl:=aE hr;simp only[iE]at hr;obtain⟨n1,n2,n3⟩:=hok.n;have c1:=aKe g w.prog f hp hfz.1 hfz.2.1 hfz.2.2 hsp hdr;have hsz1:=Xu w.prog f hfz;have hspn:=Dn w.prog f;have e0:vM w k q f=if(kI w.prog f).2.kind=0 then .ok w
  else if(kI w.prog f).2.kind=3 then .ok (eM (eQ w q (kI w.prog f).1) k dN)
  else if w.lim.fuel≤w.used then .error 100
  else if(kI w.prog f).2.kind=2 then jN {w with used:=w.used+1} k q (kI w.prog f).1 (kI w.prog f).2
  else if(kI w.prog f).2.kind=4 then .ok (mD (w.pen.cells.length+1) (eM (eQ {w with used:=w.used+1} q (kI w.prog f).1) k dN) k q (kI w.prog f).1)
  else .ok (eQ {w with used:=w.used+1} q (kI w.prog f).1):=rfl
 generalize kI w.prog f=y at *;obtain⟨f1,a⟩:=y;simp only at c1 hsz1 hspn e0;simp only[aJ,aN,mE]at c1;refine en Tryz.func90 Tryz.ntmps90 Tryz.results90 rfl ⟨⟨rfl,rfl⟩,rfl⟩ ?_;simp only[ZZ,simprocAttr,i64];simp only[aS,aJ,aN];refine rg fun K hK=>?_;simp only[ZZ,simprocAttr,i64];apply hK;refine dr [0,1,2,3,4,5,6,7,8,9,10,11,12] (by kernel_rfl) fun K hK=>?_;simp only[ZZ,simprocAttr,i64,WH,hr,hrl];refine mt c1 Tryz.func175 rfl ⟨⟨rfl,rfl⟩,rfl⟩ rfl ?_;simp only[ZZ,simprocAttr,i64,WH,hr,hrl];apply hK;have h1:=h.app [.row 2 [aS q] false,.row 16 [aJ f1] false,.row 5 [mE a] false];have hB1:dP H (H++[.row 2 [aS q] false,.row 16 [aJ f1] false,.row 5 [mE a] false]) r:=dP.app _;have k0:hb (H++[.row 2 [aS q] false,.row 16 [aJ f1] false,.row 5 [mE a] false]) H.length=some (.row 2 [aS q] false):=by rw[cM (n:=H.length) _ rfl];rfl
 have k1:hb (H++[.row 2 [aS q] false,.row 16 [aJ f1] false,.row 5 [mE a] false]) (H.length+1)=some (.row 16 [aJ f1] false):=by rw[bO (n:=H.length) _ 1 rfl];rfl
 have k2:hb (H++[.row 2 [aS q] false,.row 16 [aJ f1] false,.row 5 [mE a] false]) (H.length+2)=some (.row 5 [mE a] false):=by rw[bO (n:=H.length) _ 2 rfl];rfl
 obtain⟨H1,hH1⟩:∃ H1,H1=H++[.row 2 [aS q] false,.row 16 [aJ f1] false,.row 5 [mE a] false]:=⟨_,rfl⟩;rw[←hH1]at h1 hB1 k0 k1 k2;simp only[aS,aJ,aN,mE,i64]at hH1;rw[←hH1];have m0:H.length≠r:=by omega
 have m1:H.length+1≠r:=by omega
 have m2:H.length+2≠r:=by omega
 clear hH1 hr hrl;have hr:=h1.hr;have hrl:=aE hr;have kl0:=aE k0;have kl1:=aE k1;have kl2:=aE k2;have sk0:=k0;have sk1:=k1;simp only[iE]at hr;simp only[aS]at k0;simp only[aJ,aN]at k1;simp only[mE]at k2;refine aF fun K1 hK1=>?_;refine rg fun K hK=>?_;simp only[ZZ,simprocAttr,i64,WH,k2];apply hK;refine aT ?_;by_cases z0:a.kind=0
 ·have z0':(a.kind == 0)=true:=by simpa using z0
  rw[if_pos z0]at e0;refine rg fun K hK=>?_;simp only[ZZ,simprocAttr,i64,z0'];apply hK;apply aB rfl;apply aC;simp only[WX,aM,aI,W1,W5,aL,aO,List.mapM_nil,Option.pure_def];exact hk _ _ _ _ e0 h1 hB1
 have z0':(a.kind == 0)=false:=by simpa using z0
 rw[if_neg z0]at e0;refine rg fun K hK=>?_;simp only[ZZ,simprocAttr,i64,z0'];apply hK;apply aD rfl;by_cases z3:a.kind=3
 ·have z3':(a.kind == 3)=true:=by simpa using z3
  rw[if_pos z3]at e0;refine rg fun K hK=>?_;simp only[ZZ,simprocAttr,i64,z3'];apply hK;apply aB rfl;refine rg fun K hK=>?_;simp only[ZZ,simprocAttr,i64,WH,k0,k1];refine Ck g q f1 h1 (by omega) ?_;intro H2 g1 g2;simp only[ZZ,simprocAttr,i64];apply hK;refine rg fun K hK=>?_;simp only[ZZ,simprocAttr,i64];refine mt (Im g ) Tryz.func87 rfl ⟨⟨rfl,rfl⟩,rfl⟩ rfl ?_;simp only[ZZ,simprocAttr,i64,aS];refine Ce g dN g1 ⟨n1,n3⟩ (by have:=hok.l.2;show w.cur.length≤_;omega) ?_;intro H3 cv3 g3 g4;simp only[ZZ,simprocAttr,i64];apply hK;apply aC;simp only[WX,aM,aI,W1,W5,aL,aO,List.mapM_nil,Option.pure_def];exact hk _ _ _ _ e0 g3 ((hB1.trans g2).trans g4)
 have z3':(a.kind == 3)=false:=by simpa using z3
 rw[if_neg z3]at e0;refine rg fun K hK=>?_;simp only[ZZ,simprocAttr,i64,z3'];apply hK;apply aD rfl;apply aH;simp only[WX];apply hK1;refine aF fun K2 hK2=>?_;by_cases hfu:w.lim.fuel≤w.used
 ·rw[if_pos hfu]at e0;refine dr [0,1,2,3,5,6,7,8,9,4,10,11] (by kernel_rfl) fun K hK=>?_;simp only[ZZ,simprocAttr,i64,WH,hr,hfu];apply hK;apply aB rfl;refine FW.last fun K hK=>FW.region (xA _) ?_;simp only[ZZ,simprocAttr,i64];refine mtP (Jj g 100 (by decide)) Tryz.func177 rfl ⟨⟨rfl,rfl⟩,rfl⟩ rfl ?_;exact hpn _ _ e0 hB1
 rw[if_neg hfu]at e0;have w1:IntKind.i64.wrap (w.used+1)=w.used+1:=IntWalk.i64_in _ (by omega);refine dr [0,1,2,3,5,6,7,8,9,4,10,11] (by kernel_rfl) fun K hK=>?_;simp only[ZZ,simprocAttr,i64,WH,hr,hfu];apply hK;apply aD rfl;apply aH;simp only[WX];apply hK2;refine rg fun K hK=>?_;simp only[ZZ,simprocAttr,i64,WH,hr,hrl,w1];apply hK;have hx:=h1.set (w':={w with used:=w.used+1}) rfl rfl;have kk0:hb (H1.set r (.row 22 [iE {w with used:=w.used+1} k (.imm (w.rings.map bG)) cv] false)) H.length=some (.row 2 [aS q] false):=by rw[hx.2.2 _ kl0 m0];exact sk0
 have kk1:hb (H1.set r (.row 22 [iE {w with used:=w.used+1} k (.imm (w.rings.map bG)) cv] false)) (H.length+1)=some (.row 16 [aJ f1] false):=by rw[hx.2.2 _ kl1 m1];exact sk1
 have kk2:hb (H1.set r (.row 22 [iE {w with used:=w.used+1} k (.imm (w.rings.map bG)) cv] false)) (H.length+2)=some (.row 5 [mE a] false):=by rw[hx.2.2 _ kl2 m2];exact k2
 obtain⟨H2,hH2⟩:∃ H2,H2=H1.set r (.row 22 [iE {w with used:=w.used+1} k (.imm (w.rings.map bG)) cv] false):=⟨_,rfl⟩;rw[←hH2]at hx kk0 kk1 kk2;simp only[iE,i64]at hH2;rw[←hH2];clear hH2 hr hrl k0 k1 k2;obtain⟨h2,hB2⟩:=hx;have hB2:=hB1.trans hB2;have kl0:=aE kk0;have kl1:=aE kk1;have sk0:=kk0;have sk1:=kk1;simp only[aS]at kk0;simp only[aJ,aN]at kk1;simp only[mE]at kk2;refine rg fun K hK=>?_;simp only[ZZ,simprocAttr,i64,WH,kk2];apply hK;refine aT ?_;by_cases z2:a.kind=2
 ·have z2':(a.kind == 2)=true:=by simpa using z2
  rw[if_pos z2]at e0;obtain⟨p1,p2,p3⟩:=hspn z2;have hok2:WOk {w with used:=w.used+1} k:=⟨hok.n,hok.l,hok.b,hok.m⟩;refine rg fun K hK=>?_;simp only[ZZ,simprocAttr,i64,z2'];apply hK;apply aB rfl;refine rl fun K hK=>?_;simp only[ZZ,simprocAttr,i64,WH,kk0,kk1,kk2];refine aMh g q f1 a h2 hok2 hf hf2 hpl (fun f hf=>(hp f hf).1) (by have:=hfz.1;omega) ⟨p1,p2⟩ (by have:=hsz1.2.2;omega) ?_ ?_
  ·intro H3 rv3 cv3 w3 e3 g3 g4;simp only[ZZ,simprocAttr,i64];apply hK;try simp only[WX]
   simp only[WX,bF,aI,W5,List.mapM_nil,Option.pure_def];exact hk _ _ _ _ (e0.trans e3) g3 (hB2.trans g4)
  ·intro H3 e e3 g4;exact hpn _ _ (e0.trans e3) (hB2.trans g4)
 have z2':(a.kind == 2)=false:=by simpa using z2
 rw[if_neg z2]at e0;refine rg fun K hK=>?_;simp only[ZZ,simprocAttr,i64,z2'];apply hK;apply aD rfl;by_cases z4:a.kind=4
 ·have z4':(a.kind == 4)=true:=by simpa using z4
  rw[if_pos z4]at e0;refine rg fun K hK=>?_;simp only[ZZ,simprocAttr,i64,z4'];apply hK;apply aB rfl;refine rg fun K hK=>?_;simp only[ZZ,simprocAttr,i64,WH,kk0,kk1];refine Ck g q f1 h2 (by show w.pen.free.length≤_;omega) ?_;intro H3 g3 g4;have j0:hb H3 H.length=some (.row 2 [aS q] false):=by rw[g4.2 _ kl0 m0];exact sk0
  have j1:hb H3 (H.length+1)=some (.row 16 [aJ f1] false):=by rw[g4.2 _ kl1 m1];exact sk1
  have jl0:=aE j0;have jl1:=aE j1;simp only[ZZ,simprocAttr,i64];apply hK;refine rg fun K hK=>?_;simp only[ZZ,simprocAttr,i64];refine mt (Im g ) Tryz.func87 rfl ⟨⟨rfl,rfl⟩,rfl⟩ rfl ?_;simp only[ZZ,simprocAttr,i64,aS];refine Ce g dN g3 ⟨n1,n3⟩ (by have:=hok.l.2;show w.cur.length≤_;omega) ?_;intro H4 cv4 g5 g6;have i0:hb H4 H.length=some (.row 2 [aS q] false):=by rw[g6.2 _ jl0 m0];exact j0
  have i1:hb H4 (H.length+1)=some (.row 16 [aJ f1] false):=by rw[g6.2 _ jl1 m1];exact j1
  simp only[aS]at i0;simp only[aJ,aN]at i1;simp only[ZZ,simprocAttr,i64];apply hK;refine rl fun K hK=>?_;simp only[ZZ,simprocAttr,i64,WH,i0,i1];refine aMg g q f1 (w.pen.cells.length+1) g5 ⟨n1,by show k.worker < ((w.cur.set k.worker.toNat dN).length:Int);simpa using n3⟩ (by show(w.cur.set k.worker.toNat dN).length≤_;have:=hok.l.2;simpa using this) ?_ ?_ ?_ hsz1 ?_
  ·show(bI w.pen q f1).1.free.length+_≤_;rw[Me];omega
  ·show mu (bI w.pen q f1).1 q≤_;have:=aKv (bI w.pen q f1).1 q;rw[Ul]at this;exact this
  ·exact yH hsz q hsz1
  intro H5 rv5 cv5 g7 g8;simp only[ZZ,simprocAttr,i64];apply hK;try simp only[WX]
  simp only[WX,bF,aI,W5,List.mapM_nil,Option.pure_def];exact hk _ _ _ _ e0 g7 (((hB2.trans g4).trans g6).trans g8)
 have z4':(a.kind == 4)=false:=by simpa using z4
 rw[if_neg z4]at e0;refine rg fun K hK=>?_;simp only[ZZ,simprocAttr,i64,z4'];apply hK;apply aD rfl;refine rl fun K hK=>?_;simp only[ZZ,simprocAttr,i64,WH,kk0,kk1];refine Ck g q f1 h2 (by show w.pen.free.length≤_;omega) ?_;intro H3 g3 g4;simp only[ZZ,simprocAttr,i64];apply hK;try simp only[WX]
 simp only[WX,bF,aI,W5,List.mapM_nil,Option.pure_def];exact hk _ _ _ _ e0 g3 (hB2.trans g4)
end
end
section
open Go Go.RowKit
section
variable {P:Program}
theorem Il {E:Env}{B0:Nat}{w:World}{im:Nat→Prop}{γ:fK}{T:List V}{H:aA}{a:Go.Act}{id:Nat}{t x y:Tmp}{f:FuncId}{ty0 ty1:TypeId}{p0 p1:String}{af0 af1:Array Edge}{tys:Array TypeId}{Φ:Exit→Go.Act→World→Prop}
 (hS:StR E [] B0 w im γ T H a)
 (hk:∀ vx vy a',Rv w im γ (ev T (.tmp x)) vx→Rv w im γ (ev T (.tmp y)) vy→StR E [⟨.fn (.func f) #[vx,vy],#[]⟩] B0 w im γ (put T (some t) (.fn f [] [ev T (.tmp x),ev T (.tmp y)])) H a'→Φ .normal a' w)
 (htl:t < T.length) :
 (Code.region id #[⟨some t,.makeFunc (.func f) #[] #[.tmp x,.tmp y],ty0,p0,af0,none⟩,⟨none,.defer ⟨.value (.tmp t),#[],tys⟩,ty1,p1,af1,none⟩] false).wp E.P Φ a w:=by
 have hx:=aP hS.tmps (.tmp x);have hy:=aP hS.tmps (.tmp y);refine wp_region ?_;have hr:(execOp a.eval ⟨some t,.makeFunc (.func f) #[] #[.tmp x,.tmp y],ty0,p0,af0,none⟩).run E.P w = .ok (.value (.func (.func f) #[] #[a.eval (.tmp x),a.eval (.tmp y)])) w:=by
  simp[execOp,Instr.makeFunc]
 have hv:Rv w im γ (.fn f [] [ev T (.tmp x),ev T (.tmp y)]) (.func (.func f) #[] #[a.eval (.tmp x),a.eval (.tmp y)]):=
  .fn f [] _ [] [a.eval (.tmp x),a.eval (.tmp y)] .nil (.cons _ _ _ _ hx (.cons _ _ _ _ hy .nil))
 have h1:=hS.put hv (some t);have hg:=aP h1.tmps (.tmp t);have hgt:ev (put T (some t) (.fn f [] [ev T (.tmp x),ev T (.tmp y)])) (.tmp t) = .fn f [] [ev T (.tmp x),ev T (.tmp y)]:=by
  show((T.set t _)[t]?).getD _=_;rw[List.getElem?_set_self htl];rfl
 rw[hgt]at hg;have hev:(a.put (some t) (.func (.func f) #[] #[a.eval (.tmp x),a.eval (.tmp y)])).eval (.tmp t) = .func (.func f) #[] #[a.eval (.tmp x),a.eval (.tmp y)]:=by
  have hsz:t < a.tmps.size:=by have:=hS.tmps.len;rw[Array.length_toList]at this;rw[this];exact htl
  simp[Go.Act.eval,Go.Act.put,hsz]
 refine Or.inl ?_;show Oper.upon E.P _ _ _ _ ((execOp a.eval ⟨some t,.makeFunc (.func f) #[] #[.tmp x,.tmp y],ty0,p0,af0,none⟩).run E.P w);rw[hr,Oper.upon_value];refine Or.inl ?_;have hr2:(execOp (a.put (some t) (.func (.func f) #[] #[a.eval (.tmp x),a.eval (.tmp y)])).eval ⟨none,.defer ⟨.value (.tmp t),#[],tys⟩,ty1,p1,af1,none⟩).run E.P w = .ok (.defer ⟨.fn (.func f) #[a.eval (.tmp x),a.eval (.tmp y)],#[]⟩) w:=by
  simp[execOp,resolve,Deferred.ofValue,hev]
 show Oper.upon _ _ _ _ _ ((execOp (a.put (some t) (.func (.func f) #[] #[a.eval (.tmp x),a.eval (.tmp y)])).eval ⟨none,.defer ⟨.value (.tmp t),#[],tys⟩,ty1,p1,af1,none⟩).run E.P w);rw[hr2,Oper.upon_defer];exact hk _ _ _ hx hy ⟨h1.tmps,h1.heap,congrArg (List.cons _) h1.defers,h1.glob,h1.low⟩
theorem rZ {E:Env}{B0:Nat}{w:World}{im:Nat→Prop}{γ:fK}{T:List V}{H:aA}{a:Go.Act}{id:Nat}{t u:Tmp}{ty0 ty1:TypeId}{p0 p1:String}{af0 af1:Array Edge}{tys:Array TypeId}{Q:Exit→Go.Act→List Frame→World→Prop}{cs cs':List Frame}{x:Value}{v:V}
 (hS:StR E [] B0 w im γ T H a) (hv:Rv w im γ v x) (hcs:recoverD cs=some (x,cs')∨(recoverD cs=none∧x = .nilIface∧cs'=cs)) (htl:t < T.length)
 (hk:∀ a',StR E [] B0 w im γ (put (put T (some t) v) (some u) v) H a'→Q .normal a' cs' w) :
 (Code.region id #[⟨some t,.call ⟨.builtin .recover,#[],tys⟩,ty0,p0,af0,none⟩,⟨some u,.assign (.tmp t),ty1,p1,af1,none⟩] false).wpS E.P Q a cs w:=by
 have h1:=hS.put hv (some t);have hsz:t < a.tmps.size:=by have:=hS.tmps.len;rw[Array.length_toList]at this;rw[this];exact htl
 have hev:(a.put (some t) x).eval (.tmp t)=x:=by simp[Go.Act.eval,Go.Act.put,hsz]
 have h2:=h1.put hv (some u);refine wpS_region ?_;have hr:(execOp a.eval ⟨some t,.call ⟨.builtin .recover,#[],tys⟩,ty0,p0,af0,none⟩).run E.P w = .ok .recover w:=by
  simp[execOp,resolve,invoke,builtin]
 have hr2:(execOp (a.put (some t) x).eval ⟨some u,.assign (.tmp t),ty1,p1,af1,none⟩).run E.P w = .ok (.value x) w:=by
  simp[execOp,hev]
 show wpOpsS E.P #[⟨some t,.call ⟨.builtin .recover,#[],tys⟩,ty0,p0,af0,none⟩,⟨some u,.assign (.tmp t),ty1,p1,af1,none⟩] Q [0,1] a cs w;have hg : #[(⟨some t,.call ⟨.builtin .recover,#[],tys⟩,ty0,p0,af0,none⟩:Oper),⟨some u,.assign (.tmp t),ty1,p1,af1,none⟩][0]?=some ⟨some t,.call ⟨.builtin .recover,#[],tys⟩,ty0,p0,af0,none⟩:=rfl;have hg1 : #[(⟨some t,.call ⟨.builtin .recover,#[],tys⟩,ty0,p0,af0,none⟩:Oper),⟨some u,.assign (.tmp t),ty1,p1,af1,none⟩][1]?=some ⟨some u,.assign (.tmp t),ty1,p1,af1,none⟩:=rfl;have hw:∀(d:Option Tmp)(op:Op) ty p af f,Region.wanted (⟨d,op,ty,p,af,none⟩:Oper) f=true:=fun _ _ _ _ _ _=>rfl;have last:wpOpsS E.P #[⟨some t,.call ⟨.builtin .recover,#[],tys⟩,ty0,p0,af0,none⟩,⟨some u,.assign (.tmp t),ty1,p1,af1,none⟩] Q [1] (a.put (some t) x) cs' w:=by
  unfold wpOpsS;simp only[hg1,hw,if_true,hr2,Oper.upon_value];exact hk _ h2
 unfold wpOpsS;simp only[hg,hw,if_true,hr];rcases hcs with e|⟨e,rfl,rfl⟩
 ·rw[e];exact last
 ·rw[e];exact last
def Ui (w0:World)(im0:Nat→Prop)(r:Res)(e:Ending)(w':World):Prop:=ResR w' (newIm w0 w' im0) r e∧Below w0.heap.size w0 w'
theorem Ta {E:Env}(hE:EnvOk E){D:List Deferred}{w0 w:World}{im0 im:Nat→Prop}{γ0 γ:fK}{T:List V}{H:aA}{a:Go.Act}{fn:Func}{r:Res}
 (hst:StR E D w0.heap.size w im γ T H a)(hg:Goes w0.heap.size w0 im0 γ0 w im γ)(hq:dV E.tab fn.results.toList r .ret T H) :
 ∃ x,(results fn a.tmps).run E.P w = .ok x w∧Ui w0 im0 r (.returned x) w:=by
 have fin:∀(v v':V)(x:Value),Rv w im γ v x→fz H 8 v=some v'→Tv w (newIm w0 w im0) v' x:=by
  intro v v' x hv hf;obtain⟨im2,s1,s2,s3,s4⟩:=mM (aU H 8 v) hst.heap;have:=rM hst.heap s2 8 v v' x hv hf s3;refine this.keep fun B hB=>⟨?_,rfl⟩;rcases s4 B hB with h|h
  ·rcases hg.new B h with h|h
   ·exact .inl h
   ·exact .inr ⟨h,s1.imlt B hB⟩
  ·exact .inr ⟨h,s1.imlt B hB⟩
 simp only[dV]at hq;split at hq
 ·rename_i v hv;obtain⟨x,k1,k2⟩:=eN hE.tab hst hv;split at hq
  ·rename_i v' hf;subst hq;exact⟨x,k1,⟨x,rfl,fin v v' x k2 hf⟩,hg.below⟩
  ·exact hq.elim
 ·exact hq.elim
theorem qA {E:Env}(hE:EnvOk E){w0 w:World}{im0 im:Nat→Prop}{γ0 γ:fK}{T:List V}{H:aA}{a:Go.Act}{fn fn2:Func}{f:FuncId}{r:Res}{vx vy x:Value}{px py v:V}{u u2:FrameMode}{rest:Code}{id:Nat}{t tu:Tmp}{ty0 ty1:TypeId}{p0 p1:String}{af0 af1:Array Edge}{tys:Array TypeId}{m:Nat}
 (hst:StR E [⟨.fn (.func f) #[vx,vy],#[]⟩] w0.heap.size w im γ T H a) (hg:Goes w0.heap.size w0 im0 γ0 w im γ) (hx:Rv w im γ px vx) (hy:Rv w im γ py vy) (hv:Rv w im γ v x)
 (hf:E.P.funcs[f]?=some fn2) (hn:fn2.ntmps=m+2) (hrs:fn2.results = #[]) (hb:fn2.body=some (.seq (.region id #[⟨some t,.call ⟨.builtin .recover,#[],tys⟩,ty0,p0,af0,none⟩,⟨some tu,.assign (.tmp t),ty1,p1,af1,none⟩] false) rest)) (ht:t < m+2)
 (hu:u ≠ .run) (hrec:∀(c0:Frame) cs,c0.mode=u→recoverD (c0::cs)=some (x,{c0 with mode:=u2} :: cs)∨(recoverD (c0::cs)=none∧x = .nilIface∧{c0 with mode:=u2}=c0)) (hse:settle u2 = .returning)
 (h:FW E rest (fun e T2 H2=>e = .normal∧dV E.tab fn.results.toList r .ret T H2) (put (put ([px,py]++List.replicate m undef) (some t) v) (some tu) v) H) :
 Leaves E.P fn a.tmps (Ui w0 im0 r) a.defers u w:=by
 rw[hst.defers];refine leaves_cons (f:=f) (args:=#[vx,vy]) hu ?_ ?_
 ·have hnm:=hE.names f fn2 hf;show(callFunc f (#[] ++ #[vx,vy])).run E.P w=_;simp[callFunc,hf,hnm,hb]
 refine callsD_of_wpS hf hb ?_;intro c0 cs hc0;have hS:StR E [] w0.heap.size w im γ ([px,py]++List.replicate m undef) H {tmps:=(#[vx,vy]:Array Value)++Array.replicate (fn2.ntmps - (#[vx,vy]:Array Value).size) Go.undef,defers:=[]}:=by
  refine⟨?_,hst.heap,rfl,hst.glob,hst.low⟩;rw[hn];have:RvL w im γ [px,py] [vx,vy]:=.cons _ _ _ _ hx (.cons _ _ _ _ hy .nil);simpa using this.append (fC (n:=m))
 refine wpS_seq (rZ hS hv (cs':={c0 with mode:=u2} :: cs) ?_ (by simp only[List.length_append,List.length_cons,List.length_nil,List.length_replicate];rw[Nat.zero_add,Nat.add_comm];exact ht) ?_)
 ·rcases hrec c0 cs hc0 with e|⟨e,e2,e3⟩
  ·exact .inl e
  ·exact .inr ⟨e,e2,by rw[e3]⟩
 intro a1 hS1;refine wpS_of_wp ?_;refine wp_mono (h [] w0.heap.size w im γ a1 hS1) ?_;rintro e a' w' ⟨e',T',H',im',γ',⟨rfl,hq⟩,hex,hst',hg'⟩;cases hex;refine⟨hst'.defers,u2,rfl,?_⟩;obtain⟨x0,k1,k2⟩:=eN hE.tab hst' (fn:=fn2) (v:=.tup []) (by rw[hrs];rfl);refine⟨x0,k1,?_⟩;show Leaves E.P fn a.tmps (Ui w0 im0 r) [] (settle u2) w';rw[hse];have hback:StR E [⟨.fn (.func f) #[vx,vy],#[]⟩] w0.heap.size w' im' γ' T H' a:=⟨hst.tmps.keep hg'.keep,hst'.heap,hst.defers,hst'.glob,hst'.low⟩;exact Ta hE hback (hg.trans hg') hq
def Wq (E:Env)(w0:World)(im0:Nat→Prop)(γ0:fK)(fn:Func)(r:Res)(c:Code)(T:List V)(H:aA):Prop:=
 ∀ w im γ a,StR E [] w0.heap.size w im γ T H a→Goes w0.heap.size w0 im0 γ0 w im γ→c.wp E.P (bodyPostD E.P fn (Ui w0 im0 r)) a w
def Qi (E:Env)(fn:Func)(r:Res)(K:List V→aA→Prop):Ex→List V→aA→Prop
 | .normal,T,H=>K T H
 | .ret,T,H=>dV E.tab fn.results.toList r .ret T H
 | _,_,_=>False
theorem Wq.seq {E:Env}(hE:EnvOk E){w0:World}{im0:Nat→Prop}{γ0:fK}{fn:Func}{r:Res}{x y:Code}{T:List V}{H:aA}
 (h:FW E x (Qi E fn r (Wq E w0 im0 γ0 fn r y)) T H):Wq E w0 im0 γ0 fn r (.seq x y) T H:=by
 intro w im γ a hS hg;refine wp_seq (wp_mono (h [] w0.heap.size w im γ a hS) ?_);rintro e a' w' ⟨e',T',H',im',γ',hq,hex,hst,hg'⟩;cases hex with
 | normal=>exact hq w' im' γ' a' hst (hg.trans hg')
 | ret=>
  show Leaves _ _ _ _ _ _ _;rw[hst.defers];exact Ta hE hst (hg.trans hg') hq
 | exit id=>exact hq.elim
 | goto l=>exact hq.elim
 | panic v x hv=>exact hq.elim
def aMv (E:Env)(fn:Func)(r:Res)(px py:V)(rest:Code)(m:Nat)(t tu:Tmp):Ex→List V→aA→Prop
 | .ret,T,H=>FW E rest (fun e T2 H2=>e = .normal∧dV E.tab fn.results.toList r .ret T H2) (put (put ([px,py]++List.replicate m undef) (some t) .nili) (some tu) .nili) H
 | .panic v,T,H=>FW E rest (fun e T2 H2=>e = .normal∧dV E.tab fn.results.toList r .ret T H2) (put (put ([px,py]++List.replicate m undef) (some t) v) (some tu) v) H
 | _,_,_=>False
theorem Wq.defer {E:Env}(hE:EnvOk E){w0:World}{im0:Nat→Prop}{γ0:fK}{fn fn2:Func}{r:Res}{T:List V}{H:aA}{id id2:Nat}{tf x y:Tmp}{f:FuncId}{ty0 ty1 ty2 ty3:TypeId}{p0 p1 p2 p3:String}{af0 af1 af2 af3:Array Edge}{tys tys2:Array TypeId}{B rest:Code}{m:Nat}{t tu:Tmp}
 (hf:E.P.funcs[f]?=some fn2) (hn:fn2.ntmps=m+2) (hrs:fn2.results = #[]) (hb:fn2.body=some (.seq (.region id2 #[⟨some t,.call ⟨.builtin .recover,#[],tys2⟩,ty2,p2,af2,none⟩,⟨some tu,.assign (.tmp t),ty3,p3,af3,none⟩] false) rest)) (ht:t < m+2) (htl:tf < T.length)
 (h:FW E B (aMv E fn r (ev T (.tmp x)) (ev T (.tmp y)) rest m t tu) (put T (some tf) (.fn f [] [ev T (.tmp x),ev T (.tmp y)])) H) :
 Wq E w0 im0 γ0 fn r (.seq (.region id #[⟨some tf,.makeFunc (.func f) #[] #[.tmp x,.tmp y],ty0,p0,af0,none⟩,⟨none,.defer ⟨.value (.tmp tf),#[],tys⟩,ty1,p1,af1,none⟩] false) B) T H:=by
 intro w im γ a hS hg;refine wp_seq (Il hS ?_ htl);intro vx vy a1 hx hy hS1;refine wp_mono (h _ w0.heap.size w im γ a1 hS1) ?_;rintro e a' w' ⟨e',T',H',im',γ',hq,hex,hst,hg'⟩;have hg2:=hg.trans hg';cases hex with
 | normal=>exact hq.elim
 | ret=>
  refine qA hE hst hg2 (hx.keep hg'.keep) (hy.keep hg'.keep) (v:=.nili) (x:=.nilIface) (u2:=.returning) (.tree _ _ .nili) hf hn hrs hb ht (by simp) ?_ rfl hq;intro c0 cs hc;refine .inr ⟨by simp[recoverD,hc],rfl,?_⟩;cases c0;simp at hc;subst hc;rfl
 | exit id=>exact hq.elim
 | goto l=>exact hq.elim
 | panic v x hv=>
  refine qA hE hst hg2 (hx.keep hg'.keep) (hy.keep hg'.keep) (v:=v) (x:=x) (u2:=.panicking [{v:=x,recovered:=true}]) hv hf hn hrs hb ht (by simp) ?_ rfl hq;intro c0 cs hc;exact .inl (by simp[recoverD,hc])
theorem PC.ofD {E:Env}(hE:EnvOk E){f:FuncId}{fn:Func}{c:Code}{args:List V}{r:Res}{n:Nat}(hf:E.P.funcs[f]?=some fn)(hn:fn.ntmps=n)(hb:fn.body=some c)
 (h:∀ w0 im0,Wq E w0 im0 (fun _=>none) fn r c (args++List.replicate (n - args.length) undef) []):PC E.P E.g f args r:=by
 subst hn;intro w im xs hG himlt hx;refine calls_of_wp_defers (R:=Ui w im r) hf hb ?_;have hlen:=hx.len;have htm:RvL w im (fun _=>none) (args++List.replicate (fn.ntmps - args.length) undef) ((⟨xs⟩:Array Value)++Array.replicate (fn.ntmps - (⟨xs⟩:Array Value).size) Go.undef).toList:=by
  have:(⟨xs⟩:Array Value).size=xs.length:=rfl;rw[this,hlen];simpa using hx.rv.append (fC (n:=fn.ntmps - args.length))
 have hR:RelH w im (fun _=>none) w.heap.size []:=⟨fun b s es ro h=>by simp at h,fun b b' s es ro s' es' ro' p p' _ h=>by simp at h,himlt,fun _ _=>rfl,Nat.le_refl _,⟨fun b o h=>by simp at h,fun b b' o o' p p' X _ h=>by simp at h⟩⟩;exact h w im w im _ {tmps:=(⟨xs⟩:Array Value)++Array.replicate (fn.ntmps - (⟨xs⟩:Array Value).size) Go.undef,defers:=[]} ⟨htm,hR,rfl,hG,E.g.le w hG⟩ Goes.refl
end
end
section
open Go Go.RowKit
variable (g:Gl)
def Mx (w:Wd)(n:Int):Bool:=decide (0≤n) && decide (n < w.rings.length) && decide (n < w.cur.length)
def gL (w:Wd)(k:Pk):Wd:=
 if w.state=0∧Mx w k.worker=true then
  match w.cur[k.worker.toNat]? with
  | some q=>if q=dN then yT w k else if(bM w.pen q).2 then(match vM w k q (bM w.pen q).1 with | .ok w'=>w' | .error e=>{w with state:=2,err:=e})else w
  | none=>w
 else w
noncomputable def taO (u:V)(H:aA):FO:=match u with | .iface k v=>if k=176 then .val (.tup [v,.bool true]) H else .val (.tup [(tab 176).zero,.bool false]) H|_ => .stuck
theorem aIh (T:List V)(H:aA)(x:Operand)(tt:TypeId):bQ tab T H (.typeAssert x tt 176 true)=taO (ev T x) H:=by
 simp only[bQ,Pg];cases ev T x<;>rfl
theorem aEt (v:V)(H:aA):taO (.iface 176 v) H = .val (.tup [v,.bool true]) H:=rfl
structure WdOk (w:Wd):Prop where
 l:w.rings.length≤1048576∧w.cur.length≤1048576
 b:∀ r∈w.rings,(r.buf.length:Int)≤1048576
 m:∀ r∈w.rings,bV r=true
 p:pOk w.prog∧w.prog.length≤1048576
 f:w.pen.free.length≤1048576∧w.pen.cells.length≤1048576
 z:pR w.pen
 d:∀ c∈w.pen.cells,(0≤c.f.spawned∧c.f.spawned≤1073741824)∧(0≤c.f.draws∧c.f.draws≤1073741824)
 u:0≤w.used∧w.used≤4611686018427387904
 c : -4611686018427387904≤w.steals∧w.steals≤4611686018427387904∧-4611686018427387904≤w.misses∧w.misses≤4611686018427387904
theorem Oe (p:Pn)(f:Frm):(cC p f).1.free.length≤p.free.length:=by
 unfold cC;split
 ·split
  ·split
   ·simp
   ·simp
  ·split<;>simp
 ·simp
theorem aJl (w:Wd)(k:Pk)(hok:WdOk w):PC P0 g 28 [hU w,Yv k] (.ret (hU (gL w k))):=by
 refine PC.ofD (E:=Eg g) (n:=52) (xA g) Tryz.func28 Tryz.ntmps28 rfl ?_;intro w0 im0;simp only[hU,kY,Yv];simp only[ZZ,simprocAttr,i64];refine Wq.seq (xA g) ?_;refine rl fun K hK=>?_;simp only[ZZ,simprocAttr,i64];apply hK;show Wq _ _ _ _ _ _ _ _ _;clear hK K;refine Wq.seq (xA g) ?_;refine rl fun K hK=>?_;simp only[ZZ,simprocAttr,i64];apply hK;show Wq _ _ _ _ _ _ _ _ _;clear hK K;refine Wq.seq (xA g) ?_;have h0:WkH [.row 19 [hU w] false,.row 3 [Yv k] false,.row 19 [.agg [.nils,i64 0,i64 0,i64 0,.nils,.nils,i64 0,.nils,.nils,i64 0,i64 0,i64 0,i64 0,i64 0,i64 0,i64 0,i64 0,i64 0,i64 0]] false,.row 22 [iE w k (.imm (w.rings.map bG)) (.imm (w.cur.map aS))] false] 3 w k (.imm (w.rings.map bG)) (.imm (w.cur.map aS)):=⟨rfl,.inl rfl,.inl rfl⟩;by_cases c0:w.state=0
 case neg=>
  have c0':(w.state != 0)=true:=by simpa using c0
  have e:gL w k=w:=by rw[gL,if_neg (fun h=>c0 h.1)]
  refine rg fun K hK=>?_;simp only[ZZ,simprocAttr,i64,c0'];apply hK;try clear hK K
  apply aB rfl;refine rg fun K hK=>?_;simp only[ZZ,simprocAttr,i64];apply hK;try clear hK K
  apply aC;simp only[Qi,Tryz.results28];simp only[ZZ,simprocAttr,i64,e,hU,kY]
 have c0':(w.state != 0)=false:=by simpa using c0
 cases hw:Mx w k.worker
 ·have e:gL w k=w:=by rw[gL,if_neg (fun h=>by rw[hw]at h;cases h.2)]
  refine rg fun K hK=>?_;simp only[ZZ,simprocAttr,i64,c0'];refine aLo g k.worker h0 ?_;rw[show(decide (0≤k.worker) && decide (k.worker < w.rings.length) && decide (k.worker < w.cur.length))=false from hw];simp only[ZZ,simprocAttr,i64];apply hK;try clear hK K
  apply aB rfl;refine rg fun K hK=>?_;simp only[ZZ,simprocAttr,i64];apply hK;try clear hK K
  apply aC;simp only[Qi,Tryz.results28];simp only[ZZ,simprocAttr,i64,e,hU,kY]
 refine rg fun K hK=>?_;simp only[ZZ,simprocAttr,i64,c0'];refine aLo g k.worker h0 ?_;rw[show(decide (0≤k.worker) && decide (k.worker < w.rings.length) && decide (k.worker < w.cur.length))=true from hw];simp only[ZZ,simprocAttr,i64];apply hK;try clear hK K
 apply aD rfl;apply aH;show Wq _ _ _ _ _ _ _ _ _;refine Wq.defer (xA g) (f:=86) (m:=19) Tryz.func86 Tryz.ntmps86 Tryz.results86 rfl (by decide) (by simp) ?_;simp only[ZZ,simprocAttr,i64];have hwk:=hw;simp only[Mx,Bool.and_eq_true,decide_eq_true_eq]at hwk;obtain⟨⟨n1,n2⟩,n3⟩:=hwk;have hx:=List.getElem?_eq_getElem (show k.worker.toNat < w.cur.length by omega);generalize w.cur[k.worker.toNat]'(by omega)=q at hx;have hok1:WOk w k:=⟨⟨n1,n2,n3⟩,hok.l,hok.b,hok.m⟩;have e0:gL w k=if q=dN then yT w k else if(bM w.pen q).2 then(match vM w k q (bM w.pen q).1 with | .ok w'=>w' | .error e=>{w with state:=2,err:=e})else w:=by
  rw[gL,if_pos ⟨c0,hw⟩,hx]
 refine rg fun K hK=>?_;simp only[ZZ,simprocAttr,i64,n1,n3,List.getElem?_map,hx,Option.map_some,aS];apply hK;try clear hK K
 refine aQr (R:=fun H=>WkH H 3 w k (.imm (w.rings.map bG)) (.imm (w.cur.map aS))∧hb H 0=some (.row 19 [hU w] false)∧hb H 2=some (.row 19 [.agg [.nils,i64 0,i64 0,i64 0,.nils,.nils,i64 0,.nils,.nils,i64 0,i64 0,i64 0,i64 0,i64 0,i64 0,i64 0,i64 0,i64 0,i64 0]] false)∧hb H 4=some (.row 2 [aS q] false)) (p:=fun H=>FW _ _ _ _ H) ⟨⟨rfl,.inl rfl,.inl rfl⟩,rfl,rfl,rfl⟩ ?_;rintro H1 ⟨a1,a0,a2,a4⟩;have ha0:=aE a0;have ha2:=aE a2;have ha4:=aE a4;have sa0:=a0;simp only[hU,kY]at a0;simp only[aS]at a4;refine aF fun K1 hK1=>?_;have fin:∀(H':aA)(rv' cv':V)(w':Wd)(T':List V),WkH H' 3 w' k rv' cv'→dP H1 H' 3→gL w k=w'→gt T' 4 = .ptr 2 0 0→gt T' 5 = .ptr 3 0 0→T'.length=52→K1 T' H':=by
  intro H' rv' cv' w' T' m1 m2 m3 t4 t5 hT;have o2:=m2.2 2 ha2 (by omega);rw[a2]at o2;have ol2:=aE o2;have om:=m1.hr;have oml:=aE om;simp only[iE]at om;apply hK1;try clear hK1 K1
  rw[eW 52 T' hT];simp only[show List.range 52=[0,1,2,3,4,5,6,7,8,9,10,11,12,13,14,15,16,17,18,19,20,21,22,23,24,25,26,27,28,29,30,31,32,33,34,35,36,37,38,39,40,41,42,43,44,45,46,47,48,49,50,51]from rfl,List.map_cons,List.map_nil,t4,t5];refine rg fun K hK=>?_;simp only[ZZ,simprocAttr,i64,WH,om,o2,ol2];apply hK;try clear hK K
  apply aC;simp only[aMv];have fv:∀ H0 n,Sh bG 4 H0 rv' w'.rings→fz H0 (n+3) rv'=some (.imm (w'.rings.map bG)):=by
   rintro H0 n (rfl|⟨b,rfl,e⟩)
   ·rw[vO]
   ·rw[Je,e];exact Sk _ _ _ _ _ rfl
  simp only[ZZ,simprocAttr,i64];refine rg fun K hK=>?_;simp only[ZZ,simprocAttr,i64];apply hK;try clear hK K
  apply aD rfl;refine aH ⟨rfl,?_⟩;have fc:∀ H0 n,Sh aS 2 H0 cv' w'.cur→fz H0 (n+3) cv'=some (.imm (w'.cur.map aS)):=by
   rintro H0 n (rfl|⟨b,rfl,e⟩)
   ·rw[vO]
   ·rw[Je,e];exact Hb _ _ _ _ _ rfl
  have sv:∀ x,Sh bG 4 (H'.set 2 (.row 19 x false)) rv' w'.rings:=fun x=>m1.hv.but (dP.set _) o2 (by omega);have sc:∀ x,Sh aS 2 (H'.set 2 (.row 19 x false)) cv' w'.cur:=fun x=>m1.hc.but (dP.set _) o2 (by omega);rw[Tryz.results28,m3];simp only[ZZ,simprocAttr,i64,WH,aW,ol2,fv _ _ (sv _),fc _ _ (sc _),hU,kY]
 by_cases hq:q=dN
 ·have hd:decide ([q.at_,q.gen]=[-1,0])=true:=by rw[hq];rfl
  rw[if_pos hq]at e0;refine dr [0,1,2] (by kernel_rfl) fun K hK=>?_;simp only[ZZ,simprocAttr,i64,WH,a4];refine mt (Im g ) Tryz.func87 rfl ⟨⟨rfl,rfl⟩,rfl⟩ rfl ?_;simp only[ZZ,simprocAttr,i64,WH,hd,aS,dN];apply hK;try clear hK K
  apply aB rfl;refine rl fun K hK=>?_;simp only[ZZ,simprocAttr,i64];refine aTd g a1 hok1 hok.c ?_;intro H2 rv2 cv2 g1 g2;simp only[ZZ,simprocAttr,i64];apply hK;try clear hK K
  try simp only[WX]
  exact fin _ _ _ _ _ g1 g2 e0 rfl rfl rfl
 ·have hd:decide ([q.at_,q.gen]=[-1,0])=false:=by
   rw[decide_eq_false_iff_not];intro e;apply hq;obtain⟨za,zg⟩:=q;simp at e;rw[e.1,e.2];rfl
  rw[if_neg hq]at e0;have hr1:=a1.hr;have hrl1:=aE hr1;simp only[iE]at hr1;have c1:=aIu g w.pen q (by have:=hok.f.1;omega);have hgz:=yI hok.z q;simp only[bJ,aS,aJ,aN]at c1;refine dr [0,1,2] (by kernel_rfl) fun K hK=>?_;simp only[ZZ,simprocAttr,i64,WH,a4];refine mt (Im g ) Tryz.func87 rfl ⟨⟨rfl,rfl⟩,rfl⟩ rfl ?_;simp only[ZZ,simprocAttr,i64,WH,hd,aS,dN];apply hK;try clear hK K
  apply aD rfl;have hdd:∀ f,(bM w.pen q).2=true→f=(bM w.pen q).1→(0≤f.spawned∧f.spawned≤1073741824)∧(0≤f.draws∧f.draws≤1073741824):=by
   rintro f h1 rfl;unfold bM at h1 ⊢;split at h1
   ·rename_i hh;rw[if_pos hh];split at h1
    ·rename_i c hc;exact hok.d c (List.mem_of_getElem? hc)
    ·cases h1
   ·cases h1
  generalize hG:bM w.pen q=G at *;obtain⟨f,fb⟩:=G;simp only at c1 e0 hgz hdd;refine rg fun K hK=>?_;simp only[ZZ,simprocAttr,i64,WH,a0,a4];refine mt c1 Tryz.func89 rfl ⟨⟨rfl,rfl⟩,rfl⟩ rfl ?_;simp only[ZZ,simprocAttr,i64,WH,a0,a4];apply hK;try clear hK K
  have a1':=a1.app [.row 16 [aJ f] false];have a4':hb (H1++[.row 16 [aJ f] false]) 4=some (.row 2 [aS q] false):=by rw[bA _ ha4,a4];rfl
  have a7:hb (H1++[.row 16 [aJ f] false]) H1.length=some (.row 16 [aJ f] false):=by rw[cM (n:=H1.length) _ rfl];rfl
  have hB:dP H1 (H1++[.row 16 [aJ f] false]) 3:=dP.app _;obtain⟨H2,hH2⟩:∃ H2,H2=H1++[.row 16 [aJ f] false]:=⟨_,rfl⟩;rw[←hH2]at a1' a4' a7 hB;simp only[aJ,aN,i64]at hH2;rw[←hH2];simp only[aS]at a4';simp only[aJ,aN]at a7;refine rg fun K hK=>?_;simp only[ZZ,simprocAttr,i64];apply hK;try clear hK K
  cases fb with
  | false=>
   simp only[Bool.false_eq_true,if_false]at e0;apply aD rfl;apply aH;simp only[WX];exact fin _ _ _ _ _ a1' hB e0 rfl rfl rfl
  | true=>
   simp only[if_true]at e0;obtain⟨d1,d2⟩:=hdd f rfl rfl;apply aB rfl;refine rl fun K hK=>?_;simp only[ZZ,simprocAttr,i64,WH,a4',a7];refine aTc g q f a1' hok1 hok.p.1 hok.p.2 hgz d1 d2 hok.f.1 (fun f'=>by have:=Oe w.pen f';have:=hok.f.1;omega) hok.f.2 hok.z hok.u ?_ ?_
   ·intro H3 rv3 cv3 w3 e3 g3 g4;rw[e3]at e0;simp only[ZZ,simprocAttr,i64];apply hK;try clear hK K
    try simp only[WX]
    exact fin _ _ _ _ _ g3 (hB.trans g4) e0 rfl rfl rfl
   ·intro H3 e e3 g4;rw[e3]at e0;have o0:=(hB.trans g4).2 0 ha0 (by omega);have o2:=(hB.trans g4).2 2 ha2 (by omega);rw[a0]at o0;rw[a2]at o2;have ol0:=aE o0;have ol2:=aE o2;show FW _ _ _ _ _;simp only[ZZ,simprocAttr,i64];refine rg fun K hK=>?_;simp only[ZZ,simprocAttr,i64];apply hK;try clear hK K
    apply aB rfl;refine rg fun K hK=>?_;simp only[ZZ,simprocAttr,i64,WH,aIh,aEt];apply hK;try clear hK K
    refine aF fun K3 hK3=>?_;refine rg fun K hK=>?_;simp only[ZZ,simprocAttr,i64];apply hK;try clear hK K
    apply aD rfl;apply aH;simp only[WX];apply hK3;try clear hK3 K3
    refine rg fun K hK=>?_;simp only[ZZ,simprocAttr,i64,WH,o0,o2,ol0,ol2,aW,List.length_set];apply hK;try clear hK K
    have hne3:(2 == H3.length)=false:=by simp;omega
    refine pl [0,2,1,3,4,5] [1] [H3.length] (by kernel_rfl) fun K hK=>?_;simp only[ZZ,simprocAttr,i64,WH,o0,o2,ol0,ol2,aW,List.length_set,hne3,Bool.not_false,fL];apply hK;try clear hK K
    try simp only[WX]
    refine⟨trivial,?_⟩;rw[Tryz.results28,e0];simp only[ZZ,simprocAttr,i64,WH,o0,o2,ol0,ol2,aW,List.length_set,hU,kY]
end
section
open Go Go.RowKit
variable (g:Gl)
def dJ (w:Wd)(l:List Pk):Wd:=l.foldl gL w
theorem Cn (w:Wd)(l:List Pk)(j:Nat)(k:Pk)(h:l[j]?=some k):dJ w (l.take (j+1))=gL (dJ w (l.take j)) k:=by
 rw[List.take_add_one,h];simp[dJ,List.foldl_append]
theorem pc9 (w:Wd)(l:List Pk)(hl:l.length≤1073741824)(hok:∀ j,j < l.length→WdOk (dJ w (l.take j))):PC P0 g 9 [hU w,.imm (l.map Yv)] (.ret (hU (dJ w l))):=by
 refine eC Tryz.func9 Tryz.ntmps9 Tryz.results9 rfl ?_;simp only[ZZ,simprocAttr,i64,hU,kY];refine rg fun K hK=>?_;simp only[ZZ,simprocAttr,i64,hU,kY];apply hK;refine aF fun K1 hK1=>?_;refine rg fun K hK=>?_;simp only[ZZ,simprocAttr,i64,hU,kY];apply hK;refine aT ?_;refine cB (fun m T H=>∃ j,m=l.length - j∧j≤l.length∧T.length=18∧gt T 2 = .ptr 0 0 0∧gt T 4 = .ptr 1 0 0∧gt T 7 = .imm (l.map Yv)∧gt T 8 = .int .i64 l.length∧gt T 9 = .int .i64 j∧hb H 0=some (.row 19 [hU (dJ w (l.take j))] false)∧hb H 1=some (.row 19 [.agg [.nils,i64 0,i64 0,i64 0,.nils,.nils,i64 0,.nils,.nils,i64 0,i64 0,i64 0,i64 0,i64 0,i64 0,i64 0,i64 0,i64 0,i64 0]] false)) (n:=l.length) ⟨0,rfl,by omega,rfl,rfl,rfl,rfl,rfl,rfl,rfl,rfl⟩ ?_;rintro m T H ⟨j,rfl,hj,hT,e2,e4,e7,e8,e9,h0,h1⟩;have hl0:=aE h0;have hl1:=aE h1;rw[eW 18 T hT];simp only[show List.range 18=[0,1,2,3,4,5,6,7,8,9,10,11,12,13,14,15,16,17]from rfl,List.map_cons,List.map_nil,e2,e4,e7,e8,e9];by_cases hjl:(j:Int) < l.length
 ·have hx:=List.getElem?_eq_getElem (show j < l.length by omega);generalize l[j]'(by omega)=k at hx;have c1:=aJl g (dJ w (l.take j)) k (hok j (by omega));rw[←Cn w l j k hx]at c1;simp only[hU,kY,Yv]at c1 h0;have f0:(0:Int)≤j:=by omega
  refine rg fun K hK=>?_;simp only[ZZ,simprocAttr,i64,hU,kY,hjl];apply hK;refine ct rfl fun K hK=>?_;apply aH;simp only[WX];apply hK;refine bl fun K2 hK2=>?_;refine rg fun K hK=>?_;simp only[ZZ,simprocAttr,i64,hU,kY,f0,hjl,Int.toNat_natCast,List.getElem?_map,hx,Option.map_some,Yv,WH];apply hK;refine rl fun K hK=>?_;simp only[ZZ,simprocAttr,i64,hU,kY,WH,h0,hl0];refine mt c1 Tryz.func28 rfl ⟨⟨rfl,rfl⟩,rfl⟩ rfl ?_;simp only[ZZ,simprocAttr,i64,hU,kY,WH,h0,hl0];apply hK;try simp only[WX]
  apply hK2;have w1:IntKind.i64.wrap ((j:Int)+1)=((j+1:Nat):Int):=by rw[IntWalk.i64_in _ (by omega)];omega
  refine rl fun K hK=>?_;simp only[ZZ,simprocAttr,i64,hU,kY,w1];apply hK;try simp only[WX]
  refine⟨_,by omega,j+1,rfl,by omega,rfl,rfl,rfl,rfl,rfl,rfl,?_,?_⟩
  ·rw[bA _ (by simpa using hl0),aW hl0];rfl
  ·rw[bA _ (by simpa using hl1),aG (by omega)];exact h1
 ·obtain rfl:l.length=j:=by omega
  rw[List.take_length]at h0;simp only[hU,kY]at h0;refine rg fun K hK=>?_;simp only[ZZ,simprocAttr,i64,hU,kY,hjl];apply hK;refine cf rfl fun K hK=>?_;apply bZ;simp only[WX,if_true];apply hK1;refine rg fun K hK=>?_;simp only[ZZ,simprocAttr,i64,hU,kY,WH,h0,h1,hl0,hl1];apply hK;apply aC;simp only[ZZ,simprocAttr,i64,hU,kY,WH,h0,h1,hl0,hl1,aW,hU,kY]
end
end Go.Proofs.YtaimmacnafoanaaGreatDoor.F
namespace Go.Proofs.YtaimmacnafoanaaGreatDoor
open Go.Shelf Go.Proofs
def Tryz.lcut_ren:Go.Shelf.Ren:=⟨fun|145=>75|220=>150|219=>219|217=>274|225=>275|224=>276|267=>277|266=>321|314=>322|n=>n,fun|9=>9|4=>4|59=>150|3=>3|5=>5|46=>270|146=>376|51=>330|n=>n,fun|1=>0|n=>n⟩
theorem Tryz.lcut:Go.Proofs.Lays.n145 Tryz.prog Tryz.lcut_ren where
 mixed:=by kernel_rfl
 f145:=Tryz.func75.trans (congrArg some (by kernel_rfl))
 f217:=Tryz.func274.trans (congrArg some (by kernel_rfl))
 f219:=Tryz.func219.trans (congrArg some (by kernel_rfl))
 f220:=Tryz.func150.trans (congrArg some (by kernel_rfl))
 f224:=Tryz.func276.trans (congrArg some (by kernel_rfl))
 f225:=Tryz.func275.trans (congrArg some (by kernel_rfl))
 f266:=Tryz.func321.trans (congrArg some (by kernel_rfl))
 f267:=Tryz.func277.trans (congrArg some (by kernel_rfl))
 f314:=Tryz.func322.trans (congrArg some (by kernel_rfl))
 t3:=Tryz.underlying3
 a3:=Tryz.isAgg3
 z3:=Tryz.sizeOf3
 v3:=Tryz.zeroValue3
 t4:=Tryz.underlying4
 a4:=Tryz.isAgg4
 z4:=Tryz.sizeOf4
 v4:=Tryz.zeroValue4
 t5:=Tryz.underlying5
 a5:=Tryz.isAgg5
 z5:=Tryz.sizeOf5
 v5:=Tryz.zeroValue5
 t9:=Tryz.underlying9
 a9:=Tryz.isAgg9
 z9:=Tryz.sizeOf9
 v9:=Tryz.zeroValue9
 t46:=Tryz.underlying270
 a46:=Tryz.isAgg270
 z46:=Tryz.sizeOf270
 v46:=Tryz.zeroValue270
 t51:=Tryz.underlying330
 a51:=Tryz.isAgg330
 z51:=Tryz.sizeOf330
 v51:=Tryz.zeroValue330
 t59:=Tryz.underlying150
 a59:=Tryz.isAgg150
 z59:=Tryz.sizeOf150
 v59:=Tryz.zeroValue150
 t146:=Tryz.underlying376
 a146:=Tryz.isAgg376
 z146:=Tryz.sizeOf376
 v146:=Tryz.zeroValue376
 g1:=by kernel_rfl
def Tryz.lspl_ren:Go.Shelf.Ren:=⟨fun|146=>223|221=>278|268=>323|138=>324|143=>325|195=>354|197=>355|218=>356|219=>219|260=>369|217=>274|225=>275|224=>276|267=>277|266=>321|314=>322|n=>n,fun|9=>9|31=>53|3=>3|4=>4|0=>0|105=>427|21=>21|5=>5|46=>270|119=>445|139=>448|138=>447|146=>376|51=>330|n=>n,fun|1=>0|3=>6|4=>7|n=>n⟩
theorem Tryz.lspl:Go.Proofs.Lays.n146 Tryz.prog Tryz.lspl_ren where
 mixed:=by kernel_rfl
 f138:=Tryz.func324.trans (congrArg some (by kernel_rfl))
 f143:=Tryz.func325.trans (congrArg some (by kernel_rfl))
 f146:=Tryz.func223.trans (congrArg some (by kernel_rfl))
 f195:=Tryz.func354.trans (congrArg some (by kernel_rfl))
 f197:=Tryz.func355.trans (congrArg some (by kernel_rfl))
 f217:=Tryz.func274.trans (congrArg some (by kernel_rfl))
 f218:=Tryz.func356.trans (congrArg some (by kernel_rfl))
 f219:=Tryz.func219.trans (congrArg some (by kernel_rfl))
 f221:=Tryz.func278.trans (congrArg some (by kernel_rfl))
 f224:=Tryz.func276.trans (congrArg some (by kernel_rfl))
 f225:=Tryz.func275.trans (congrArg some (by kernel_rfl))
 f260:=Tryz.func369.trans (congrArg some (by kernel_rfl))
 f266:=Tryz.func321.trans (congrArg some (by kernel_rfl))
 f267:=Tryz.func277.trans (congrArg some (by kernel_rfl))
 f268:=Tryz.func323.trans (congrArg some (by kernel_rfl))
 f314:=Tryz.func322.trans (congrArg some (by kernel_rfl))
 t0:=Tryz.underlying0
 a0:=Tryz.isAgg0
 z0:=Tryz.sizeOf0
 v0:=Tryz.zeroValue0
 t3:=Tryz.underlying3
 a3:=Tryz.isAgg3
 z3:=Tryz.sizeOf3
 v3:=Tryz.zeroValue3
 t4:=Tryz.underlying4
 a4:=Tryz.isAgg4
 z4:=Tryz.sizeOf4
 v4:=Tryz.zeroValue4
 t5:=Tryz.underlying5
 a5:=Tryz.isAgg5
 z5:=Tryz.sizeOf5
 v5:=Tryz.zeroValue5
 t9:=Tryz.underlying9
 a9:=Tryz.isAgg9
 z9:=Tryz.sizeOf9
 v9:=Tryz.zeroValue9
 t21:=Tryz.underlying21
 a21:=Tryz.isAgg21
 z21:=Tryz.sizeOf21
 v21:=Tryz.zeroValue21
 t31:=Tryz.underlying53
 a31:=Tryz.isAgg53
 z31:=Tryz.sizeOf53
 v31:=Tryz.zeroValue53
 t46:=Tryz.underlying270
 a46:=Tryz.isAgg270
 z46:=Tryz.sizeOf270
 v46:=Tryz.zeroValue270
 t51:=Tryz.underlying330
 a51:=Tryz.isAgg330
 z51:=Tryz.sizeOf330
 v51:=Tryz.zeroValue330
 t105:=Tryz.underlying427
 a105:=Tryz.isAgg427
 z105:=Tryz.sizeOf427
 v105:=Tryz.zeroValue427
 t119:=Tryz.underlying445
 a119:=Tryz.isAgg445
 z119:=Tryz.sizeOf445
 t138:=Tryz.underlying447
 a138:=Tryz.isAgg447
 z138:=Tryz.sizeOf447
 v138:=Tryz.zeroValue447
 t139:=Tryz.underlying448
 a139:=Tryz.isAgg448
 z139:=Tryz.sizeOf448
 v139:=Tryz.zeroValue448
 t146:=Tryz.underlying376
 a146:=Tryz.isAgg376
 z146:=Tryz.sizeOf376
 v146:=Tryz.zeroValue376
 g1:=by kernel_rfl
 g3:=by kernel_rfl
 g4:=by kernel_rfl
def Tryz.ljoin_ren:Go.Shelf.Ren:=⟨fun|156=>58|165=>123|166=>32|169=>93|240=>94|241=>204|276=>180|277=>265|n=>n,fun|31=>53|9=>9|3=>3|4=>4|0=>0|20=>20|72=>88|76=>84|70=>86|37=>55|75=>83|127=>265|164=>266|5=>5|80=>182|n=>n,fun|n=>n⟩
theorem Tryz.ljoin:Go.Proofs.Lays.n156 Tryz.prog Tryz.ljoin_ren where
 mixed:=by kernel_rfl
 f156:=Tryz.func58.trans (congrArg some (by kernel_rfl))
 f165:=Tryz.func123.trans (congrArg some (by kernel_rfl))
 f166:=Tryz.func32.trans (congrArg some (by kernel_rfl))
 f169:=Tryz.func93.trans (congrArg some (by kernel_rfl))
 f240:=Tryz.func94.trans (congrArg some (by kernel_rfl))
 f241:=Tryz.func204.trans (congrArg some (by kernel_rfl))
 f276:=Tryz.func180.trans (congrArg some (by kernel_rfl))
 f277:=Tryz.func265.trans (congrArg some (by kernel_rfl))
 t0:=Tryz.underlying0
 a0:=Tryz.isAgg0
 z0:=Tryz.sizeOf0
 v0:=Tryz.zeroValue0
 t3:=Tryz.underlying3
 a3:=Tryz.isAgg3
 z3:=Tryz.sizeOf3
 v3:=Tryz.zeroValue3
 t4:=Tryz.underlying4
 a4:=Tryz.isAgg4
 z4:=Tryz.sizeOf4
 v4:=Tryz.zeroValue4
 t9:=Tryz.underlying9
 a9:=Tryz.isAgg9
 z9:=Tryz.sizeOf9
 v9:=Tryz.zeroValue9
 t20:=Tryz.underlying20
 a20:=Tryz.isAgg20
 z20:=Tryz.sizeOf20
 v20:=Tryz.zeroValue20
 t31:=Tryz.underlying53
 a31:=Tryz.isAgg53
 z31:=Tryz.sizeOf53
 v31:=Tryz.zeroValue53
 t37:=Tryz.underlying55
 a37:=Tryz.isAgg55
 z37:=Tryz.sizeOf55
 v37:=Tryz.zeroValue55
 t70:=Tryz.underlying86
 a70:=Tryz.isAgg86
 z70:=Tryz.sizeOf86
 v70:=Tryz.zeroValue86
 t72:=Tryz.underlying88
 a72:=Tryz.isAgg88
 z72:=Tryz.sizeOf88
 v72:=Tryz.zeroValue88
 t75:=Tryz.underlying83
 a75:=Tryz.isAgg83
 z75:=Tryz.sizeOf83
 v75:=Tryz.zeroValue83
 t76:=Tryz.underlying84
 a76:=Tryz.isAgg84
 z76:=Tryz.sizeOf84
 v76:=Tryz.zeroValue84
 t127:=Tryz.underlying265
 a127:=Tryz.isAgg265
 z127:=Tryz.sizeOf265
 v127:=Tryz.zeroValue265
 t164:=Tryz.underlying266
 a164:=Tryz.isAgg266
 z164:=Tryz.sizeOf266
 v164:=Tryz.zeroValue266
def Tryz.litoa_ren:Go.Shelf.Ren:=⟨fun|171=>120|243=>202|246=>264|283=>305|284=>306|285=>307|286=>308|129=>320|317=>336|318=>337|319=>338|320=>339|337=>362|338=>363|n=>n,fun|3=>3|9=>9|2=>2|4=>4|171=>382|0=>0|53=>378|37=>55|5=>5|173=>385|212=>413|51=>330|20=>20|213=>414|46=>270|232=>442|233=>443|n=>n,fun|17=>1|18=>4|19=>5|n=>n⟩
theorem Tryz.litoa:Go.Proofs.LaysM.n171 Tryz.prog Tryz.litoa_ren where
 mixed:=by kernel_rfl
 f129:=Tryz.func320.trans (congrArg some (by kernel_rfl))
 f171:=Tryz.func120.trans (congrArg some (by kernel_rfl))
 f243:=Tryz.func202.trans (congrArg some (by kernel_rfl))
 f246:=Tryz.func264.trans (congrArg some (by kernel_rfl))
 f283:=Tryz.func305.trans (congrArg some (by kernel_rfl))
 f284:=Tryz.func306.trans (congrArg some (by kernel_rfl))
 f285:=Tryz.func307.trans (congrArg some (by kernel_rfl))
 f286:=Tryz.func308.trans (congrArg some (by kernel_rfl))
 f317:=Tryz.func336.trans (congrArg some (by kernel_rfl))
 f318:=Tryz.func337.trans (congrArg some (by kernel_rfl))
 f319:=Tryz.func338.trans (congrArg some (by kernel_rfl))
 f320:=Tryz.func339.trans (congrArg some (by kernel_rfl))
 f337:=Tryz.func362.trans (congrArg some (by kernel_rfl))
 f338:=Tryz.func363.trans (congrArg some (by kernel_rfl))
 t0:=Tryz.underlying0
 a0:=Tryz.isAgg0
 z0:=Tryz.sizeOf0
 v0:=Tryz.zeroValue0
 t2:=Tryz.underlying2
 a2:=Tryz.isAgg2
 z2:=Tryz.sizeOf2
 v2:=Tryz.zeroValue2
 t3:=Tryz.underlying3
 a3:=Tryz.isAgg3
 z3:=Tryz.sizeOf3
 v3:=Tryz.zeroValue3
 t4:=Tryz.underlying4
 a4:=Tryz.isAgg4
 z4:=Tryz.sizeOf4
 v4:=Tryz.zeroValue4
 t5:=Tryz.underlying5
 a5:=Tryz.isAgg5
 z5:=Tryz.sizeOf5
 v5:=Tryz.zeroValue5
 t9:=Tryz.underlying9
 a9:=Tryz.isAgg9
 z9:=Tryz.sizeOf9
 v9:=Tryz.zeroValue9
 t20:=Tryz.underlying20
 a20:=Tryz.isAgg20
 z20:=Tryz.sizeOf20
 v20:=Tryz.zeroValue20
 t37:=Tryz.underlying55
 a37:=Tryz.isAgg55
 z37:=Tryz.sizeOf55
 v37:=Tryz.zeroValue55
 t46:=Tryz.underlying270
 a46:=Tryz.isAgg270
 z46:=Tryz.sizeOf270
 v46:=Tryz.zeroValue270
 t51:=Tryz.underlying330
 a51:=Tryz.isAgg330
 z51:=Tryz.sizeOf330
 v51:=Tryz.zeroValue330
 t53:=Tryz.underlying378
 a53:=Tryz.isAgg378
 z53:=Tryz.sizeOf378
 v53:=Tryz.zeroValue378
 t171:=Tryz.underlying382
 a171:=Tryz.isAgg382
 z171:=Tryz.sizeOf382
 v171:=Tryz.zeroValue382
 t173:=Tryz.underlying385
 a173:=Tryz.isAgg385
 z173:=Tryz.sizeOf385
 v173:=Tryz.zeroValue385
 t212:=Tryz.underlying413
 a212:=Tryz.isAgg413
 z212:=Tryz.sizeOf413
 v212:=Tryz.zeroValue413
 t213:=Tryz.underlying414
 a213:=Tryz.isAgg414
 z213:=Tryz.sizeOf414
 t232:=Tryz.underlying442
 a232:=Tryz.isAgg442
 z232:=Tryz.sizeOf442
 v232:=Tryz.zeroValue442
 t233:=Tryz.underlying443
 a233:=Tryz.isAgg443
 z233:=Tryz.sizeOf443
 v233:=Tryz.zeroValue443
 g17:=by kernel_rfl
 g18:=by kernel_rfl
 g19:=by kernel_rfl
 i0:=by kernel_rfl
 i2:=by kernel_rfl
 i3:=by kernel_rfl
 i4:=by kernel_rfl
 i5:=by kernel_rfl
 i9:=by kernel_rfl
 i20:=by kernel_rfl
 i37:=by kernel_rfl
 i46:=by kernel_rfl
 i51:=by kernel_rfl
 i53:=by kernel_rfl
 i171:=by kernel_rfl
 i173:=by kernel_rfl
 i212:=by kernel_rfl
 i232:=by kernel_rfl
 i233:=by kernel_rfl
 m17:=by kernel_rfl
 m18:=by kernel_rfl
 m19:=by kernel_rfl
def Tryz.latoi_ren:Go.Shelf.Ren:=⟨fun|172=>224|244=>279|245=>280|247=>326|279=>327|280=>328|281=>329|282=>330|287=>357|316=>358|171=>120|205=>359|321=>370|322=>371|243=>202|246=>264|283=>305|284=>306|285=>307|286=>308|129=>320|317=>336|318=>337|319=>338|320=>339|337=>362|338=>363|n=>n,fun|9=>9|3=>3|75=>83|76=>84|4=>4|5=>5|167=>399|37=>55|0=>0|85=>400|2=>2|168=>402|53=>378|175=>429|46=>270|210=>432|127=>265|145=>441|143=>439|21=>21|171=>382|173=>385|212=>413|51=>330|20=>20|213=>414|232=>442|233=>443|80=>182|n=>n,fun|15=>2|16=>3|17=>1|18=>4|19=>5|n=>n⟩
theorem Tryz.latoi:Go.Proofs.LaysC.n172 Tryz.prog Tryz.latoi_ren where
 mixed:=by kernel_rfl
 f129:=Tryz.func320.trans (congrArg some (by kernel_rfl))
 f171:=Tryz.func120.trans (congrArg some (by kernel_rfl))
 f172:=Tryz.func224.trans (congrArg some (by kernel_rfl))
 f205:=Tryz.func359.trans (congrArg some (by kernel_rfl))
 f243:=Tryz.func202.trans (congrArg some (by kernel_rfl))
 f244:=Tryz.func279.trans (congrArg some (by kernel_rfl))
 f245:=Tryz.func280.trans (congrArg some (by kernel_rfl))
 f246:=Tryz.func264.trans (congrArg some (by kernel_rfl))
 f247:=Tryz.func326.trans (congrArg some (by kernel_rfl))
 f279:=Tryz.func327.trans (congrArg some (by kernel_rfl))
 f280:=Tryz.func328.trans (congrArg some (by kernel_rfl))
 f281:=Tryz.func329.trans (congrArg some (by kernel_rfl))
 f282:=Tryz.func330.trans (congrArg some (by kernel_rfl))
 f283:=Tryz.func305.trans (congrArg some (by kernel_rfl))
 f284:=Tryz.func306.trans (congrArg some (by kernel_rfl))
 f285:=Tryz.func307.trans (congrArg some (by kernel_rfl))
 f286:=Tryz.func308.trans (congrArg some (by kernel_rfl))
 f287:=Tryz.func357.trans (congrArg some (by kernel_rfl))
 f316:=Tryz.func358.trans (congrArg some (by kernel_rfl))
 f317:=Tryz.func336.trans (congrArg some (by kernel_rfl))
 f318:=Tryz.func337.trans (congrArg some (by kernel_rfl))
 f319:=Tryz.func338.trans (congrArg some (by kernel_rfl))
 f320:=Tryz.func339.trans (congrArg some (by kernel_rfl))
 f321:=Tryz.func370.trans (congrArg some (by kernel_rfl))
 f322:=Tryz.func371.trans (congrArg some (by kernel_rfl))
 f337:=Tryz.func362.trans (congrArg some (by kernel_rfl))
 f338:=Tryz.func363.trans (congrArg some (by kernel_rfl))
 t0:=Tryz.underlying0
 a0:=Tryz.isAgg0
 z0:=Tryz.sizeOf0
 v0:=Tryz.zeroValue0
 t2:=Tryz.underlying2
 a2:=Tryz.isAgg2
 z2:=Tryz.sizeOf2
 v2:=Tryz.zeroValue2
 t3:=Tryz.underlying3
 a3:=Tryz.isAgg3
 z3:=Tryz.sizeOf3
 v3:=Tryz.zeroValue3
 t4:=Tryz.underlying4
 a4:=Tryz.isAgg4
 z4:=Tryz.sizeOf4
 v4:=Tryz.zeroValue4
 t5:=Tryz.underlying5
 a5:=Tryz.isAgg5
 z5:=Tryz.sizeOf5
 v5:=Tryz.zeroValue5
 t9:=Tryz.underlying9
 a9:=Tryz.isAgg9
 z9:=Tryz.sizeOf9
 v9:=Tryz.zeroValue9
 t20:=Tryz.underlying20
 a20:=Tryz.isAgg20
 z20:=Tryz.sizeOf20
 v20:=Tryz.zeroValue20
 t21:=Tryz.underlying21
 a21:=Tryz.isAgg21
 z21:=Tryz.sizeOf21
 v21:=Tryz.zeroValue21
 t37:=Tryz.underlying55
 a37:=Tryz.isAgg55
 z37:=Tryz.sizeOf55
 v37:=Tryz.zeroValue55
 t46:=Tryz.underlying270
 a46:=Tryz.isAgg270
 z46:=Tryz.sizeOf270
 v46:=Tryz.zeroValue270
 t51:=Tryz.underlying330
 a51:=Tryz.isAgg330
 z51:=Tryz.sizeOf330
 v51:=Tryz.zeroValue330
 t53:=Tryz.underlying378
 a53:=Tryz.isAgg378
 z53:=Tryz.sizeOf378
 v53:=Tryz.zeroValue378
 t75:=Tryz.underlying83
 a75:=Tryz.isAgg83
 z75:=Tryz.sizeOf83
 v75:=Tryz.zeroValue83
 t76:=Tryz.underlying84
 a76:=Tryz.isAgg84
 z76:=Tryz.sizeOf84
 v76:=Tryz.zeroValue84
 t85:=Tryz.underlying400
 a85:=Tryz.isAgg400
 z85:=Tryz.sizeOf400
 v85:=Tryz.zeroValue400
 t127:=Tryz.underlying265
 a127:=Tryz.isAgg265
 z127:=Tryz.sizeOf265
 v127:=Tryz.zeroValue265
 t143:=Tryz.underlying439
 a143:=Tryz.isAgg439
 z143:=Tryz.sizeOf439
 v143:=Tryz.zeroValue439
 t145:=Tryz.underlying441
 a145:=Tryz.isAgg441
 z145:=Tryz.sizeOf441
 v145:=Tryz.zeroValue441
 t167:=Tryz.underlying399
 a167:=Tryz.isAgg399
 z167:=Tryz.sizeOf399
 v167:=Tryz.zeroValue399
 t168:=Tryz.underlying402
 a168:=Tryz.isAgg402
 z168:=Tryz.sizeOf402
 v168:=Tryz.zeroValue402
 t171:=Tryz.underlying382
 a171:=Tryz.isAgg382
 z171:=Tryz.sizeOf382
 v171:=Tryz.zeroValue382
 t173:=Tryz.underlying385
 a173:=Tryz.isAgg385
 z173:=Tryz.sizeOf385
 v173:=Tryz.zeroValue385
 t175:=Tryz.underlying429
 a175:=Tryz.isAgg429
 z175:=Tryz.sizeOf429
 v175:=Tryz.zeroValue429
 t210:=Tryz.underlying432
 a210:=Tryz.isAgg432
 z210:=Tryz.sizeOf432
 v210:=Tryz.zeroValue432
 t212:=Tryz.underlying413
 a212:=Tryz.isAgg413
 z212:=Tryz.sizeOf413
 v212:=Tryz.zeroValue413
 t213:=Tryz.underlying414
 a213:=Tryz.isAgg414
 z213:=Tryz.sizeOf414
 t232:=Tryz.underlying442
 a232:=Tryz.isAgg442
 z232:=Tryz.sizeOf442
 v232:=Tryz.zeroValue442
 t233:=Tryz.underlying443
 a233:=Tryz.isAgg443
 z233:=Tryz.sizeOf443
 v233:=Tryz.zeroValue443
 g15:=by kernel_rfl
 g16:=by kernel_rfl
 g17:=by kernel_rfl
 g18:=by kernel_rfl
 g19:=by kernel_rfl
 t80:=Tryz.underlying182
 a80:=Tryz.isAgg182
 z80:=Tryz.sizeOf182
 v80:=Tryz.zeroValue182
 i0:=by kernel_rfl
 i2:=by kernel_rfl
 i3:=by kernel_rfl
 i4:=by kernel_rfl
 i5:=by kernel_rfl
 i9:=by kernel_rfl
 i20:=by kernel_rfl
 i21:=by kernel_rfl
 i37:=by kernel_rfl
 i46:=by kernel_rfl
 i51:=by kernel_rfl
 i53:=by kernel_rfl
 i75:=by kernel_rfl
 i76:=by kernel_rfl
 i80:=by kernel_rfl
 i85:=by kernel_rfl
 i127:=by kernel_rfl
 i143:=by kernel_rfl
 i145:=by kernel_rfl
 i167:=by kernel_rfl
 i168:=by kernel_rfl
 i171:=by kernel_rfl
 i173:=by kernel_rfl
 i175:=by kernel_rfl
 i210:=by kernel_rfl
 i212:=by kernel_rfl
 i232:=by kernel_rfl
 i233:=by kernel_rfl
 m15:=by kernel_rfl
 m16:=by kernel_rfl
 m17:=by kernel_rfl
 m18:=by kernel_rfl
 m19:=by kernel_rfl
 c0:=by kernel_rfl
 c2:=by kernel_rfl
 c3:=by kernel_rfl
 c4:=by kernel_rfl
 c5:=by kernel_rfl
 c9:=by kernel_rfl
 c20:=by kernel_rfl
 c21:=by kernel_rfl
 c37:=by kernel_rfl
 c46:=by kernel_rfl
 c51:=by kernel_rfl
 c53:=by kernel_rfl
 c75:=by kernel_rfl
 c76:=by kernel_rfl
 c80:=by kernel_rfl
 c85:=by kernel_rfl
 c127:=by kernel_rfl
 c143:=by kernel_rfl
 c145:=by kernel_rfl
 c167:=by kernel_rfl
 c168:=by kernel_rfl
 c171:=by kernel_rfl
 c173:=by kernel_rfl
 c175:=by kernel_rfl
 c210:=by kernel_rfl
 c212:=by kernel_rfl
 c213:=by kernel_rfl
 c232:=by kernel_rfl
 c233:=by kernel_rfl
namespace F
open Go Go.RowKit
structure GlOk (g:Gl):Prop where
 mx:∀ w,g.G w→∃ m,w.cell? ⟨Tryz.lcut_ren.g 1,0,none⟩=some (.int .i64 m)
 pw:∀ w,g.G w→Lib.TabIs Tryz.prog w "internal/strconv.uint64pow10" .u64 Lib.pow10Tab
 sy:∀ w,g.G w→∃ ev,w.cell? ⟨Tryz.latoi_ren.g 15,0,none⟩=some ev∧(ev = .nilIface∨∃ te pe,ev = .iface te pe)
 rg:∀ w,g.G w→∃ ev,w.cell? ⟨Tryz.latoi_ren.g 16,0,none⟩=some ev∧(ev = .nilIface∨∃ te pe,ev = .iface te pe)
variable {g:Gl}
theorem Tv.str_inv {w:World}{im:Nat→Prop}{s:List UInt8}{x:Value}(h:Tv w im (.str s) x):x = .string ⟨⟨s⟩⟩:=by cases h;rfl
theorem Tv.int_inv {w:World}{im:Nat→Prop}{k:IntKind}{n:Int}{x:Value}(h:Tv w im (.int k n) x):x = .int k n:=by cases h;rfl
theorem TvL.one {w:World}{im:Nat→Prop}{a:V}{xs:List Value}(h:TvL w im [a] xs):∃ x,xs=[x]∧Tv w im a x:=by
 cases h with
 | cons _ x _ l h1 h2=>cases h2;exact⟨x,rfl,h1⟩
theorem TvL.two {w:World}{im:Nat→Prop}{a b:V}{xs:List Value}(h:TvL w im [a,b] xs):∃ x y,xs=[x,y]∧Tv w im a x∧Tv w im b y:=by
 cases h with
 | cons _ x _ l h1 h2=>
  obtain⟨y,rfl,h3⟩:=h2.one;exact⟨x,y,rfl,h1,h3⟩
theorem aIz (hg:GlOk g)(s sep:List UInt8)(hs:s.length < 4294967281):PC P0 g 75 [.str s,.str sep] (.ret (.tup [.str (Lib.cut s sep).1,.str (Lib.cut s sep).2.1,.bool (Lib.cut s sep).2.2])):=by
 intro w im xs hG him hx;obtain⟨m,hm⟩:=hg.mx w hG;obtain⟨x,y,rfl,h1,h2⟩:=hx.two;rw[h1.str_inv,h2.str_inv];refine(Any.strings_Cut Tryz.lcut ⟨⟨s⟩⟩ ⟨⟨sep⟩⟩ m w hs hm).mono ?_;rintro e w' ⟨rfl,n,rfl⟩;exact⟨⟨_,rfl,.tup _ _ (.cons _ _ _ _ (.str _) (.cons _ _ _ _ (.str _) (.cons _ _ _ _ (.bool _) .nil)))⟩,⟨rfl,rfl,rfl,Nat.le_refl _,fun _ _=>rfl⟩⟩
theorem Yi {w:World}{im:Nat→Prop}:∀ l:List (List UInt8),TvL w im ((l.map V.str).flatMap V.cells) (l.map fun s=>Value.string ⟨⟨s⟩⟩)
 | [] => .nil
 | s::l => .cons _ _ _ _ (.str s) (Yi l)
theorem aDh (hg:GlOk g)(s sep:List UInt8)(hs:s.length < 4294967281)(h1:1≤sep.length):PC P0 g 223 [.str s,.str sep] (.ret (.imm ((Lib.split s sep).map V.str))):=by
 intro w im xs hG him hx;obtain⟨m,hm⟩:=hg.mx w hG;obtain⟨x,y,rfl,h3,h4⟩:=hx.two;rw[h3.str_inv,h4.str_inv];refine(Any.strings_Split Tryz.lspl (by kernel_rfl) ⟨⟨s⟩⟩ ⟨⟨sep⟩⟩ m w hs hm h1).mono ?_;rintro e w' ⟨rfl,rfl⟩;have hd:=Lib.splitB_data ⟨⟨sep⟩⟩ 0 (Lib.countB ⟨⟨s⟩⟩ ⟨⟨sep⟩⟩) ⟨⟨s⟩⟩;have hl:=Lib.splitB_all ⟨⟨sep⟩⟩ h1 0 (Lib.countB ⟨⟨s⟩⟩ ⟨⟨sep⟩⟩) ⟨⟨s⟩⟩ rfl;have hd':(Lib.splitB ⟨⟨sep⟩⟩ 0 (Lib.countB ⟨⟨s⟩⟩ ⟨⟨sep⟩⟩) ⟨⟨s⟩⟩).map (·.data.toList)=Lib.split s sep:=hd;generalize Lib.splitB ⟨⟨sep⟩⟩ 0 (Lib.countB ⟨⟨s⟩⟩ ⟨⟨sep⟩⟩) ⟨⟨s⟩⟩=L at hd' hl;have e1:L.map Value.string=(Lib.split s sep).map fun s=>Value.string ⟨⟨s⟩⟩:=by
  rw[←hd',List.map_map];rfl
 have hn:(Lib.split s sep).length=Lib.countB ⟨⟨s⟩⟩ ⟨⟨sep⟩⟩+1:=by rw[←hd',List.length_map,hl]
 rw[e1,←hn];refine⟨⟨_,rfl,?_⟩,(Below.refl _ _).alloc (Nat.le_refl _) _⟩;have:=Tv.imm (w:=w.alloc (.cells ((Lib.split s sep).map fun s=>Value.string ⟨⟨s⟩⟩).toArray (Tryz.lspl_ren.t 9))) (im:=newIm w (w.alloc (.cells ((Lib.split s sep).map fun s=>Value.string ⟨⟨s⟩⟩).toArray (Tryz.lspl_ren.t 9))) im)
  ((
   Lib.split s sep).map V.str) 1 w.heap.size 0 (Lib.split s sep).length ((Lib.split s sep).map fun s=>Value.string ⟨⟨s⟩⟩) (fun e=>by rw[List.map_eq_nil_iff]at e;rw[e]at hn;simp at hn) (.inr ⟨Nat.le_refl _,by simp⟩) (by simp) (fun e he=>by
   obtain⟨t,_,rfl⟩:=List.mem_map.1 he;rfl) (fun j v hj=>by
   simp only[World.cell?,Nat.zero_add];rw[heap_alloc_new];simpa using hj) (fun x hx=>by obtain⟨t,_,rfl⟩:=List.mem_map.1 hx;rfl) (Yi _)
 rw[List.length_map]at this;exact this
theorem Du:Builder.Extra Tryz.prog Tryz.ljoin_ren where
 sizeBuilder:=by kernel_rfl
 liesBuilder:=by kernel_rfl
 t5:=Tryz.underlying5
 a5:=Tryz.isAgg5
 z5:=Tryz.sizeOf5
 v5:=Tryz.zeroValue5
 infoByte:=by kernel_rfl
 cellsByte:=by kernel_rfl
 sizeByte:=by kernel_rfl
 neB5:=by decide
theorem aJa (l:List (List UInt8))(sep:List UInt8)(hl:l.length≤140737488355328)(hj:(Lib.join l sep).length≤140737488355328):PC P0 g 58 [.imm (l.map V.str),.str sep] (.ret (.str (Lib.join l sep))):=by
 intro w im xs hG him hx;obtain⟨x,y,rfl,h3,h4⟩:=hx.two;rw[h4.str_inv];rcases h3.imm_inv with ⟨h0,a,cap,_,rfl⟩|⟨s,B,O,cap,cs,hne,hB,hcap,hss,hc,h1,hTv,rfl⟩
 ·have e0:l=[]:=by simpa using h0
  subst e0;refine(Any.strings_Join_none Tryz.ljoin Du a cap ⟨⟨sep⟩⟩ w).mono ?_;rintro e w' ⟨rfl,rfl⟩;exact⟨⟨_,rfl,.str _⟩,Below.refl _ _⟩
 ·have key:∀(l:List (List UInt8))(cs:List Value),TvL w im ((l.map V.str).flatMap V.cells) cs→cs=l.map fun s=>Value.string ⟨⟨s⟩⟩:=by
   intro l;induction l with
   | nil=>intro cs h;cases h;rfl
   | cons s l ih=>
    intro cs h;cases h with
    | cons _ x _ m h1 h2=>rw[h1.str_inv,ih _ h2];rfl
  have e:=key l cs hTv;subst e;rw[List.length_map]at hcap ⊢;have e2:(l.map fun s=>(⟨⟨s⟩⟩:ByteArray)).map (fun x=>x.data.toList)=l:=by rw[List.map_map];exact List.map_id' l
  have:=Any.strings_Join Tryz.ljoin Du B O cap (l.map fun s=>⟨⟨s⟩⟩) ⟨⟨sep⟩⟩ w (fun j x hj=>hc j _ (by
   rw[List.getElem?_map]at hj ⊢;cases hq:l[j]? with
   | none=>rw[hq]at hj;cases hj
   | some q=>rw[hq]at hj;cases hj;rfl)) (him B hB) (by simpa using hl) (by simpa using hcap) (by rw[e2];exact hj)
  rw[e2,List.length_map]at this;refine this.mono ?_;rintro e w' ⟨rfl,hb⟩;exact⟨⟨_,rfl,.str _⟩,hb⟩
theorem aDm (hg:GlOk g)(n:Int)(h0 : -9223372036854775808≤n)(h1:n≤9223372036854775807):PC P0 g 120 [.int .i64 n] (.ret (.str (Lib.itoa n))):=by
 intro w im xs hG him hx;obtain⟨x,rfl,h3⟩:=hx.one;rw[h3.int_inv];refine(Any.strconv_Itoa Tryz.litoa n h0 h1 w (hg.pw w hG)).mono ?_;rintro e w' ⟨rfl,k,os,rfl⟩;exact⟨⟨_,rfl,.str _⟩,Lib.below_grow _ w (Nat.le_refl _) k os⟩
def wX (s:List UInt8):Int:=match Lib.atoiAll s with | .ok v=>v | .range=>Lib.atoiSat s|_=>0
theorem aDg (hg:GlOk g)(s:List UInt8)(hs:s.length≤281474976710656):PC P0 g 224 [.str s] (.ret (.tup [.int .i64 (wX s),.any])):=by
 intro w im xs hG him hx;obtain⟨x,rfl,h3⟩:=hx.one;rw[h3.str_inv];unfold wX;cases hc:Lib.atoiAll s with
 | ok v=>
  refine(Any.strconv_Atoi_ok Tryz.latoi ⟨⟨s⟩⟩ (by show s.length≤_;omega) v hc w).mono ?_;rintro e w' ⟨rfl,hw⟩;refine⟨⟨_,rfl,.tup _ _ (.cons _ _ _ _ (.int _ _) (.cons _ _ _ _ (.any _) .nil))⟩,?_⟩;rcases hw with rfl|⟨t,rfl⟩
  ·exact Below.refl _ _
  ·exact Lib.bytesWorld_below _ _ _
 | range=>
  obtain⟨ev,h1,h2⟩:=hg.rg w hG;refine(Any.strconv_Atoi_range Tryz.latoi ⟨⟨s⟩⟩ hs hc ev w h1 h2).mono ?_;rintro e w' ⟨N,rfl,_,_,hb⟩;exact⟨⟨_,rfl,.tup _ _ (.cons _ _ _ _ (.int _ _) (.cons _ _ _ _ (.any _) .nil))⟩,hb⟩
 | _=>
  obtain⟨ev,h1,h2⟩:=hg.sy w hG;refine(Any.strconv_Atoi_syntax Tryz.latoi ⟨⟨s⟩⟩ hs hc ev w h1 h2).mono ?_;rintro e w' ⟨N,rfl,_,_,hb⟩;exact⟨⟨_,rfl,.tup _ _ (.cons _ _ _ _ (.int _ _) (.cons _ _ _ _ (.any _) .nil))⟩,hb⟩
end F
end Go.Proofs.YtaimmacnafoanaaGreatDoor
namespace Go.Proofs.YtaimmacnafoanaaGreatDoor.F
section
open Go Go.RowKit
variable (g:Gl)
def jA (x:Ins):List Int:=[x.a,x.b].take (bE x.op).fields.toNat
theorem Sd (n:Int):(bE n).fields=0∨(bE n).fields=1∨(bE n).fields=2:=by
 by_cases h:0≤n∧n < 17
 ·obtain⟨h1,h2⟩:=h;have:n=0∨n=1∨n=2∨n=3∨n=4∨n=5∨n=6∨n=7∨n=8∨n=9∨n=10∨n=11∨n=12∨n=13∨n=14∨n=15∨n=16:=by omega
  rcases this with rfl|rfl|rfl|rfl|rfl|rfl|rfl|rfl|rfl|rfl|rfl|rfl|rfl|rfl|rfl|rfl|rfl<;>decide
 ·rw[bE,if_neg h];exact .inl rfl
theorem aKc (x:Ins):PC P0 g 184 [aK x] (.ret (.imm ((jA x).map eI))):=by
 obtain⟨op,a,b⟩:=x;refine eC Tryz.func184 Tryz.ntmps184 Tryz.results184 rfl ?_;simp only[ZZ,simprocAttr,i64,aK];refine rg fun K hK=>?_;simp only[ZZ,simprocAttr,i64,aK];apply hK;try clear hK K
 refine dr [0,2,5,1,3,6,7,4,8,9] (by kernel_rfl) fun K hK=>?_;simp only[ZZ,simprocAttr,i64,aK];refine mt (aJq g op) Tryz.func254 rfl ⟨⟨rfl,rfl⟩,rfl⟩ rfl ?_;rcases Sd op with h|h|h
 ·simp only[ZZ,simprocAttr,i64,aK,h];apply hK;try clear hK K
  apply aC;simp only[ZZ,simprocAttr,i64,aK,h,jA,eI];rfl
 ·simp only[ZZ,simprocAttr,i64,aK,h];apply hK;try clear hK K
  apply aC;simp only[ZZ,simprocAttr,i64,aK,h,jA,eI];rfl
 ·simp only[ZZ,simprocAttr,i64,aK,h];apply hK;try clear hK K
  apply aC;simp only[ZZ,simprocAttr,i64,aK,h,jA,eI];rfl
end
section
open Go Go.RowKit
def Rb (n:Int):Prop:=-9223372036854775808≤n∧n≤9223372036854775807
theorem Gx (s:List UInt8):Rb (wX s):=by
 unfold wX;split
 ·rename_i v h;exact Lib.atoiAll_bounds h
 ·unfold Lib.atoiSat;split<;>exact⟨by decide,by decide⟩
 ·exact⟨by decide,by decide⟩
def vB (word:List UInt8)(l:List Int):List UInt8:=Lib.join (word::l.map Lib.itoa) [32]
theorem Vd (sep:List UInt8):∀ l:List (List UInt8),(Lib.join l sep).length≤(l.map fun x=>x.length+sep.length).sum
 | []=>by simp[Lib.join]
 | [x]=>by simp[Lib.join]
 | x::y::l=>by
  have:=Vd sep (y::l);simp only[Lib.join,List.intercalate,List.intersperse,List.flatten_cons,List.length_append,List.map_cons,List.sum_cons]at this ⊢;omega
theorem Om (word:List UInt8)(l:List Int)(hl:∀ n∈l,Rb n)(hk:l.length≤8):(vB word l).length≤word.length+200:=by
 have h:=Vd [32] (word::l.map Lib.itoa);have:((l.map Lib.itoa).map fun x=>x.length + [(32:UInt8)].length).sum≤22*l.length:=by
  clear h;induction l with
  | nil=>simp
  | cons n l ih=>
   have h1:=Lib.itoa_length_le n (hl n List.mem_cons_self).1 (hl n List.mem_cons_self).2;have h2:=ih (fun m hm=>hl m (List.mem_cons_of_mem _ hm)) (by simp at hk;omega);simp only[List.map_cons,List.sum_cons,List.length_cons,List.length_nil]at h2 ⊢;omega
 simp only[List.map_cons,List.sum_cons,List.length_cons,List.length_nil]at h this;unfold vB;omega
theorem zU (l:List (List UInt8)):aQ 1 (l.map V.str)=true:=eH V.str 1 (fun _=>rfl) l
variable {g:Gl}
theorem aDf (hg:GlOk g)(word:List UInt8)(l:List Int)(hl:∀ n∈l,Rb n)(hk:l.length≤8)(hw:word.length≤1000000):PC P0 g 225 [.str word,.imm (l.map eI)] (.ret (.str (vB word l))):=by
 refine eC Tryz.func225 Tryz.ntmps225 Tryz.results225 rfl ?_;simp only[ZZ,simprocAttr,i64];refine rg fun K hK=>?_;simp only[ZZ,simprocAttr,i64];apply hK;refine rg fun K hK=>?_;simp only[ZZ,simprocAttr,i64];apply hK;refine aF fun K1 hK1=>?_;refine rg fun K hK=>?_;simp only[ZZ,simprocAttr,i64];apply hK;refine aT ?_;refine cB (fun m T H=>∃ j,m=l.length - j∧j≤l.length∧T.length=24∧gt T 10 = .imm (l.map eI)∧gt T 11 = .int .i64 l.length∧gt T 12 = .int .i64 j∧Acc [] H 1 (gt T 5) ((word::(l.take j).map Lib.itoa).map V.str)) (n:=l.length) ⟨0,rfl,by omega,rfl,rfl,rfl,rfl,⟨fun c hc=>absurd hc (by simp),Nat.zero_le _,.inr ⟨0,Nat.zero_le _,rfl,rfl,by simp⟩⟩⟩ ?_;rintro m T4 H4 ⟨j,rfl,hj,hT,e10,e11,e12,hA⟩;generalize e5:gt T4 5=v5 at hA;rw[eW 24 T4 hT];simp only[show List.range 24=[0,1,2,3,4,5,6,7,8,9,10,11,12,13,14,15,16,17,18,19,20,21,22,23]from rfl,List.map_cons,List.map_nil,e5,e10,e11,e12];by_cases hjl:(j:Int) < l.length
 ·have hx:=List.getElem?_eq_getElem (show j < l.length by omega);have hmem:=List.getElem_mem (show j < l.length by omega);generalize l[j]'(by omega)=n at hx hmem;have f0:(0:Int)≤j:=by omega
  refine rg fun K hK=>?_;simp only[ZZ,simprocAttr,i64,WH,hjl];apply hK;refine ct rfl fun K hK=>?_;apply aH;simp only[WX];apply hK;refine bl fun K2 hK2=>?_;refine rg fun K hK=>?_;simp only[ZZ,simprocAttr,i64,WH,f0,hjl,Int.toNat_natCast,List.getElem?_map,hx,Option.map_some,eI,WH];apply hK;refine rl fun K hK=>?_;simp only[ZZ,simprocAttr,i64,WH];refine mt (aDm hg n (hl n hmem).1 (hl n hmem).2) Tryz.func120 rfl ⟨⟨rfl,rfl⟩,rfl⟩ rfl ?_;simp only[ZZ,simprocAttr,i64,WH];refine aDx hA (by simp;omega) rfl (by decide) rfl rfl (by simp) fun v' H' hA'=>?_;simp only[ZZ,simprocAttr,i64,WH];apply hK;try simp only[WX]
  apply hK2;have w1:IntKind.i64.wrap ((j:Int)+1)=((j+1:Nat):Int):=by rw[IntWalk.i64_in _ (by omega)];omega
  refine rl fun K hK=>?_;simp only[ZZ,simprocAttr,i64,WH,w1];apply hK;try simp only[WX]
  refine⟨_,by omega,j+1,rfl,by omega,rfl,rfl,rfl,rfl,?_⟩;show Acc [] H' 1 v' _;rw[List.take_add_one,hx];simpa using hA'
 ·obtain rfl:l.length=j:=by omega
  rw[List.take_length]at hA;have hz:=hA.fz (Za V.str _ _ (fun _=>rfl) _) (zU _);rw[show mG ((word::l.map Lib.itoa).map V.str) = .imm ((word::l.map Lib.itoa).map V.str)from rfl]at hz;refine rg fun K hK=>?_;simp only[ZZ,simprocAttr,i64,WH,hjl];apply hK;refine cf rfl fun K hK=>?_;apply bZ;simp only[WX,if_true];apply hK1;refine rg fun K hK=>?_;simp only[ZZ,simprocAttr,i64,WH];refine mt (aJa (word::l.map Lib.itoa) [32] (by simp;omega) (by have:=Om word l hl hk;unfold vB at this;omega)) Tryz.func58 rfl ⟨⟨rfl,rfl⟩,rfl⟩ ?_ ?_
  ·simp only[fP,W5,W1,hz,vO];rfl
  simp only[ZZ,simprocAttr,i64,WH];apply hK;apply aC;simp only[ZZ,simprocAttr,i64,WH,vB]
def aQx:List UInt8:=[102,117,110,99]
def hdB (f:Fun):List UInt8:=vB aQx [f.ar,f.lo,f.sl]
theorem aKn (hg:GlOk g)(f:Fun)(h1:Rb f.ar)(h2:Rb f.lo)(h3:Rb f.sl):PC P0 g 157 [bL f] (.ret (.str (hdB f))):=by
 refine eC Tryz.func157 Tryz.ntmps157 Tryz.results157 rfl ?_;simp only[ZZ,simprocAttr,i64,bL];refine rg fun K hK=>?_;simp only[ZZ,simprocAttr,i64,bL];apply hK;refine rg fun K hK=>?_;simp only[ZZ,simprocAttr,i64,bL];refine mt (aDf hg aQx [f.ar,f.lo,f.sl] (by simp[h1,h2,h3]) (by simp) (by decide)) Tryz.func225 rfl ⟨⟨rfl,rfl⟩,rfl⟩ rfl ?_;simp only[ZZ,simprocAttr,i64,bL];apply hK;apply aC;simp only[ZZ,simprocAttr,i64,bL,hdB]
def pI (x:Ins):List UInt8:=vB (bE x.op).name (jA x)
theorem Te (x:Ins):(jA x).length≤2:=by
 unfold jA;rw[List.length_take];exact Nat.le_trans (Nat.min_le_right _ _) (by simp)
theorem Se {x:Ins}(h1:Rb x.a)(h2:Rb x.b):∀ n∈jA x,Rb n:=fun n hn=>by
 have:=List.mem_of_mem_take hn;simp only[List.mem_cons,List.not_mem_nil,or_false]at this;rcases this with rfl|rfl
 ·exact h1
 ·exact h2
theorem Qm (n:Int):(bE n).name.length≤20:=by
 by_cases h:0≤n∧n < 17
 ·obtain⟨h1,h2⟩:=h;have:n=0∨n=1∨n=2∨n=3∨n=4∨n=5∨n=6∨n=7∨n=8∨n=9∨n=10∨n=11∨n=12∨n=13∨n=14∨n=15∨n=16:=by omega
  rcases this with rfl|rfl|rfl|rfl|rfl|rfl|rfl|rfl|rfl|rfl|rfl|rfl|rfl|rfl|rfl|rfl|rfl<;>decide
 ·rw[bE,if_neg h];decide
theorem aKl (hg:GlOk g)(x:Ins)(h1:Rb x.a)(h2:Rb x.b):PC P0 g 159 [aK x] (.ret (.str (pI x))):=by
 obtain⟨op,a,b⟩:=x;refine eC Tryz.func159 Tryz.ntmps159 Tryz.results159 rfl ?_;simp only[ZZ,simprocAttr,i64,aK];refine rg fun K hK=>?_;simp only[ZZ,simprocAttr,i64,aK];apply hK;refine dr [0,1,3,2,4,5,6] (by kernel_rfl) fun K hK=>?_;simp only[ZZ,simprocAttr,i64,aK];refine mt (aJx g op) Tryz.func229 rfl ⟨⟨rfl,rfl⟩,rfl⟩ rfl ?_;simp only[ZZ,simprocAttr,i64,aK];refine mt (aKc g ⟨op,a,b⟩) Tryz.func184 rfl ⟨⟨rfl,rfl⟩,rfl⟩ rfl ?_;simp only[ZZ,simprocAttr,i64,aK];refine mt (aDf hg (bE op).name (jA ⟨op,a,b⟩) (Se h1 h2) (by have:=Te ⟨op,a,b⟩;omega) (by have:=Qm op;omega)) Tryz.func225 rfl ⟨⟨rfl,rfl⟩,rfl⟩ rfl ?_;simp only[ZZ,simprocAttr,i64,aK];apply hK;apply aC;simp only[ZZ,simprocAttr,i64,aK,pI]
end
section
open Go Go.RowKit
variable {g:Gl}
def jR (s:List UInt8):Int:=wH (fun k:Kd=>k.name == s) kD
theorem aRt (s:List UInt8):xE tab [Blk.row 1 [V.str s] false,Blk.row 68 [V.agg (kD.flatMap Ko)] false] ((none:Option Operand).isSome || (none:Option Operand).isSome) (TD.arr 17 303) (V.ptr 1 0 0) (some (0,vl (V.ptr 1 0 0))) = .val (.sl 2 0 17) [Blk.row 1 [V.str s] false,Blk.dead,Blk.row 4 (kD.map Px) false]:=by kernel_rfl
theorem yO:kD.length=17:=rfl
theorem k68:(kD.flatMap Ko).length=68:=rfl
theorem aKm (s:List UInt8):PC P0 g 158 [.str s] (.ret (.tup [.int .i64 (max (jR s) 0),.bool (decide (0≤jR s))])):=by
 refine eC Tryz.func158 Tryz.ntmps158 Tryz.results158 rfl ?_;simp only[ZZ,simprocAttr,i64];refine rg fun K hK=>?_;simp only[ZZ,simprocAttr,i64];apply hK;try clear hK K
 refine rg fun K hK=>?_;simp only[ZZ,simprocAttr,i64];refine mt (aDe g) Tryz.func226 rfl ⟨⟨rfl,rfl⟩,rfl⟩ rfl ?_;simp only[ZZ,simprocAttr,i64];simp only[ZZ,simprocAttr,i64,k68,Nat.le_refl,and_self,if_true];apply hK;try clear hK K
 refine rg fun K hK=>?_;simp only[ZZ,simprocAttr,i64,aRt];refine en Tryz.func227 Tryz.ntmps227 Tryz.results227 rfl ⟨⟨rfl,rfl⟩,rfl⟩ ?_;simp only[ZZ,simprocAttr,i64];refine rg fun K hK=>?_;simp only[ZZ,simprocAttr,i64];apply hK;try clear hK K
 refine aF fun K1 hK1=>?_;refine rg fun K hK=>?_;simp only[ZZ,simprocAttr,i64];apply hK;try clear hK K
 refine aT ?_;refine cB (fun m T H=>∃ k:Nat,m=17 - k∧k≤17∧T.length=19∧gt T 0 = .sl 2 0 17∧gt T 1 = .fn 228 [] [.ptr 0 0 0]∧gt T 7 = .int .i64 17∧gt T 8 = .int .i64 k∧hb H 0=some (.row 1 [.str s] false)∧hb H 2=some (.row 4 (kD.map Px) false)∧∀ i a,i < k→kD[i]?=some a→(a.name == s)=false) (n:=17) ⟨0,rfl,by omega,rfl,rfl,rfl,rfl,rfl,rfl,rfl,fun i a h=>by omega⟩ ?_;rintro m T4 H4 ⟨k,rfl,hk,hT,e0,e1,e7,e8,h0,h2,hno⟩;rw[eW 19 T4 hT];simp only[show List.range 19=[0,1,2,3,4,5,6,7,8,9,10,11,12,13,14,15,16,17,18]from rfl,List.map_cons,List.map_nil,e0,e1,e7,e8];by_cases hkm:(k:Int) < 17
 ·have hkn:k < kD.length:=by rw[yO];omega
  have hk0:(0:Int)≤k:=by omega
  have hx:=List.getElem?_eq_getElem hkn;generalize kD[k]=x at hx;refine rg fun K hK=>?_;simp only[ZZ,simprocAttr,i64,WH,hkm];apply hK;try clear hK K
  refine ct rfl fun K hK=>?_;apply aH;simp only[WX];apply hK;try clear hK K
  refine bl fun K2 hK2=>?_;refine rg fun K hK=>?_;simp only[ZZ,simprocAttr,i64,WH];apply hK;try clear hK K
  refine rg fun K hK=>?_;simp only[ZZ,simprocAttr,i64,WH,hk0,hkm,h0,h2,Int.toNat_natCast,List.getElem?_map,hx,Option.map_some,Px,Ko];have hl0:=aE h0;have hl2:=aE h2;refine en Tryz.func228 Tryz.ntmps228 Tryz.results228 rfl ⟨⟨rfl,rfl⟩,rfl⟩ ?_;simp only[ZZ,simprocAttr,i64,WH];refine rg fun K hK=>?_;simp only[ZZ,simprocAttr,i64,WH,h0,h2,hl0,hl2];apply hK;try clear hK K
  refine rg fun K hK=>?_;simp only[ZZ,simprocAttr,i64,WH,h0,h2,hl0,hl2];apply hK;try clear hK K
  apply aC;simp only[WX,aM,aI,W1,W5,aL,aO,List.mapM_nil,Option.pure_def];cases hpx:x.name == s
  ·simp only[ZZ,simprocAttr,i64,WH,hpx];apply hK;try clear hK K
   apply aD rfl;apply aH;simp only[WX];apply hK2;refine rl fun K hK=>?_;simp only[ZZ,simprocAttr,i64,WH,IntWalk.i64_in (k+1) (by omega)];apply hK;try clear hK K
   try simp only[WX]
   refine⟨17 - (k+1),by omega,k+1,rfl,by omega,rfl,rfl,rfl,rfl,rfl,?_,?_,fun i a hi ha=>?_⟩
   ·rw[bA _ hl0];exact h0
   ·rw[bA _ hl2];exact h2
   ·by_cases hik:i=k
    ·subst hik;rw[hx]at ha;cases ha;exact hpx
    ·exact hno i a (by omega) ha
  ·have hf:jR s=k:=lU (p:=fun k:Kd=>k.name == s) hx hpx hno;simp only[ZZ,simprocAttr,i64,WH,hpx];apply hK;try clear hK K
   apply aB rfl;refine rg fun K hK=>?_;simp only[ZZ,simprocAttr,i64,WH];apply hK;try clear hK K
   apply aC;simp only[WX,aM,aI,W1,W5,aL,aO,List.mapM_nil,Option.pure_def];simp only[ZZ,simprocAttr,i64,WH];apply hK;try clear hK K
   refine rg fun K hK=>?_;simp only[ZZ,simprocAttr,i64,WH];apply hK;try clear hK K
   have g1:¬((0:Int) > k):=by omega
   have g2:max (k:Int) 0=k:=by omega
   have g3:decide ((0:Int)≤k)=true:=by simp
   apply aC;simp only[ZZ,simprocAttr,i64,WH,hf,g1,g2,g3]
 ·have hf:jR s = -1:=nU fun i a ha=>hno i a (by have:=(List.getElem?_eq_some_iff.1 ha).1;rw[yO]at this;omega) ha;refine rg fun K hK=>?_;simp only[ZZ,simprocAttr,i64,WH,hkm];apply hK;try clear hK K
  refine cf rfl fun K3 hK3=>?_;apply bZ;simp only[WX,if_true];apply hK1;refine rg fun K hK=>?_;simp only[ZZ,simprocAttr,i64,WH];apply hK;try clear hK K
  apply aC;simp only[WX,aM,aI,W1,W5,aL,aO,List.mapM_nil,Option.pure_def];simp only[ZZ,simprocAttr,i64,WH];apply hK;try clear hK K
  refine rg fun K hK=>?_;simp only[ZZ,simprocAttr,i64,WH];apply hK;try clear hK K
  apply aC;simp only[ZZ,simprocAttr,i64,WH,hf];rfl
end
section
open Go Go.RowKit
theorem uC (sep:List UInt8):∀(k:Nat)(s:List UInt8),(Lib.splitK sep 0 k s).length≤k+1
 | 0,s=>Nat.le_refl _
 | k+1,s=>by
  unfold Lib.splitK;split
  ·simp
  ·have:=uC sep k (s.drop ((Lib.index s sep).toNat+sep.length));simp only[List.length_cons];omega
theorem uB (sep:List UInt8):∀(k:Nat)(s:List UInt8),∀ x∈Lib.splitK sep 0 k s,x.length≤s.length
 | 0,s,x,hx=>by cases List.mem_singleton.1 hx;exact Nat.le_refl _
 | k+1,s,x,hx=>by
  unfold Lib.splitK at hx;split at hx
  ·cases List.mem_singleton.1 hx;exact Nat.le_refl _
  ·rcases List.mem_cons.1 hx with rfl|hx
   ·simp only[List.length_take];omega
   ·have:=uB sep k _ x hx;simp only[List.length_drop]at this;omega
theorem Tl (sep:List UInt8)(k:Nat)(s:List UInt8):∃ a l,Lib.splitK sep 0 k s=a::l:=by
 cases k with
 | zero=>exact⟨_,_,rfl⟩
 | succ k=>
  unfold Lib.splitK;split<;>exact⟨_,_,rfl⟩
theorem Fp (s:List UInt8)(c:UInt8):∃ a l,Lib.split s [c]=a::l∧l.length≤s.length∧∀ x∈a::l,x.length≤s.length:=by
 obtain⟨a,l,h⟩:=Tl [c] (Lib.count s [c]) s;have h1:=uC [c] (Lib.count s [c]) s;have h2:=uB [c] (Lib.count s [c]) s;rw[h]at h1 h2;rw[Lib.count_one]at h1;have:=List.count_le_length (a:=c) (l:=s);exact⟨a,l,h,by simp only[List.length_cons]at h1;omega,h2⟩
variable {g:Gl}
def oA (a b c:Int):V:=.agg [.int .i64 a,.int .i64 b,.int .i64 c]
def sQ (l:List (List UInt8))(k:Nat):Int:=match l[k]? with|some w=>wX w|none=>0
theorem lE (l:List (List UInt8))(k:Nat):Rb (sQ l k):=by
 unfold sQ;split
 ·exact Gx _
 ·exact⟨by decide,by decide⟩
def Lh (l:List (List UInt8))(j k:Nat):Int:=sQ (l.take j) k
def Qa (l:List (List UInt8))(j:Nat):V:=oA (Lh l j 0) (Lh l j 1) (Lh l j 2)
theorem rH (l:List (List UInt8))(j k:Nat)(w:List UInt8)(h:l[j]?=some w):Lh l (j+1) k=if j=k then wX w else Lh l j k:=by
 unfold Lh sQ;have hj:=(List.getElem?_eq_some_iff.1 h).1;simp only[List.getElem?_take];by_cases e:j=k
 ·subst e;simp[h]
 ·rw[if_neg e];by_cases h1:k < j
  ·rw[if_pos h1,if_pos (by omega)]
  ·rw[if_neg h1,if_neg (by omega)]
theorem aFm (hg:GlOk g)(s:List UInt8)(hs:s.length≤1048576)(word:List UInt8)(l:List (List UInt8))(hsp:Lib.split s [32]=word::l)(hl:l.length≤s.length)(hw:∀ x∈word::l,x.length≤s.length):PC P0 g 156 [.str s] (.ret (.tup [.str word,oA (sQ l 0) (sQ l 1) (sQ l 2)])):=by
 refine eC Tryz.func156 Tryz.ntmps156 Tryz.results156 rfl ?_;simp only[ZZ,simprocAttr,i64];refine rg fun K hK=>?_;simp only[ZZ,simprocAttr,i64];apply hK;try clear hK K
 refine rg fun K hK=>?_;simp only[ZZ,simprocAttr,i64];apply hK;try clear hK K
 refine rg fun K hK=>?_;simp only[ZZ,simprocAttr,i64];refine mt (aDh hg s [32] (by omega) (by simp)) Tryz.func223 rfl ⟨⟨rfl,rfl⟩,rfl⟩ rfl ?_;rw[hsp];simp only[ZZ,simprocAttr,i64];apply hK;try clear hK K
 refine aF fun K1 hK1=>?_;have hb1:nA (l.length+1) (some (V.int .i64 1)) none=some (1,l.length+1):=by simpa using qP (l.length+1) .i64 1 (by omega) (by omega)
 have ht:List.take l.length (l.map V.str)=l.map V.str:=List.take_of_length_le (by simp);refine rg fun K hK=>?_;simp only[ZZ,simprocAttr,i64,hb1,ht,Nat.add_sub_cancel,zU];apply hK;try clear hK K
 refine aT ?_;refine cB (fun m T H=>∃ j,m=l.length - j∧j≤l.length∧T.length=32∧gt T 3 = .ptr 0 0 0∧gt T 4 = .ptr 1 0 0∧gt T 5 = .imm ((word::l).map V.str)∧gt T 11 = .imm (l.map V.str)∧gt T 12 = .int .i64 l.length∧gt T 13 = .int .i64 j∧H=[.row 3 [oA 0 0 0] false,.row 3 [Qa l j] false]) (n:=l.length) ⟨0,rfl,by omega,rfl,rfl,rfl,rfl,rfl,rfl,rfl,rfl⟩ ?_;rintro m T4 H4 ⟨j,rfl,hj,hT,e3,e4,e5,e11,e12,e13,rfl⟩;rw[eW 32 T4 hT];simp only[show List.range 32=[0,1,2,3,4,5,6,7,8,9,10,11,12,13,14,15,16,17,18,19,20,21,22,23,24,25,26,27,28,29,30,31]from rfl,List.map_cons,List.map_nil,e3,e4,e5,e11,e12,e13];by_cases hjl:(j:Int) < l.length
 ·have hx:=List.getElem?_eq_getElem (show j < l.length by omega);have hmem:=List.getElem_mem (show j < l.length by omega);generalize l[j]'(by omega)=n at hx hmem;have f0:(0:Int)≤j:=by omega
  have hnl:=hw n (List.mem_cons_of_mem _ hmem);have k0:=rH l j 0 n hx;have k1:=rH l j 1 n hx;have k2:=rH l j 2 n hx;have w1:IntKind.i64.wrap ((j:Int)+1)=((j+1:Nat):Int):=by rw[IntWalk.i64_in _ (by omega)];omega
  refine rg fun K hK=>?_;simp only[ZZ,simprocAttr,i64,WH,hjl];apply hK;try clear hK K
  refine ct rfl fun K hK=>?_;apply aH;simp only[WX];apply hK;try clear hK K
  refine bl fun K2 hK2=>?_;refine rg fun K hK=>?_;simp only[ZZ,simprocAttr,i64,WH,f0,hjl,Int.toNat_natCast,List.getElem?_map,hx,Option.map_some];apply hK;try clear hK K
  by_cases h3:(j:Int) < 3
  ·refine rg fun K hK=>?_;simp only[ZZ,simprocAttr,i64,WH,h3];apply hK;try clear hK K
   apply aB rfl;refine rl fun K hK=>?_;simp only[ZZ,simprocAttr,i64,WH];refine mt (aDg hg n (by omega)) Tryz.func224 rfl ⟨⟨rfl,rfl⟩,rfl⟩ rfl ?_;have:j=0∨j=1∨j=2:=by omega
   rcases this with rfl|rfl|rfl
   ·simp only[ZZ,simprocAttr,i64,WH,Qa,oA];apply hK;try clear hK K
    try simp only[WX]
    apply hK2;try clear hK2 K2
    refine rl fun K hK=>?_;simp only[ZZ,simprocAttr,i64,WH,w1];apply hK;try clear hK K
    try simp only[WX]
    refine⟨_,by omega,0+1,rfl,by omega,rfl,rfl,rfl,rfl,rfl,rfl,rfl,?_⟩;simp only[Qa,oA,k0,k1,k2];rfl
   ·simp only[ZZ,simprocAttr,i64,WH,Qa,oA];apply hK;try clear hK K
    try simp only[WX]
    apply hK2;try clear hK2 K2
    refine rl fun K hK=>?_;simp only[ZZ,simprocAttr,i64,WH,w1];apply hK;try clear hK K
    try simp only[WX]
    refine⟨_,by omega,1+1,rfl,by omega,rfl,rfl,rfl,rfl,rfl,rfl,rfl,?_⟩;simp only[Qa,oA,k0,k1,k2];rfl
   ·simp only[ZZ,simprocAttr,i64,WH,Qa,oA];apply hK;try clear hK K
    try simp only[WX]
    apply hK2;try clear hK2 K2
    refine rl fun K hK=>?_;simp only[ZZ,simprocAttr,i64,WH,w1];apply hK;try clear hK K
    try simp only[WX]
    refine⟨_,by omega,2+1,rfl,by omega,rfl,rfl,rfl,rfl,rfl,rfl,rfl,?_⟩;simp only[Qa,oA,k0,k1,k2];rfl
  ·refine rg fun K hK=>?_;simp only[ZZ,simprocAttr,i64,WH,h3];apply hK;try clear hK K
   apply aD rfl;apply aH;simp only[WX];apply hK2;try clear hK2 K2
   refine rl fun K hK=>?_;simp only[ZZ,simprocAttr,i64,WH,w1];apply hK;try clear hK K
   try simp only[WX]
   refine⟨_,by omega,j+1,rfl,by omega,rfl,rfl,rfl,rfl,rfl,rfl,rfl,?_⟩;rw[if_neg (by omega)]at k0 k1 k2;simp only[Qa,k0,k1,k2]
 ·obtain rfl:l.length=j:=by omega
  refine rg fun K hK=>?_;simp only[ZZ,simprocAttr,i64,WH,hjl];apply hK;try clear hK K
  refine cf rfl fun K hK=>?_;apply bZ;simp only[WX,if_true];apply hK1;refine pr [0,1,2,4,3,5] [] [1] (by kernel_rfl) fun K hK=>?_;simp only[ZZ,simprocAttr,i64,WH,Qa,oA,zU,List.getElem?_cons_zero,fL];apply hK;try clear hK K
  apply aC;simp only[ZZ,simprocAttr,i64,WH];simp only[oA,Lh,List.take_length]
end
section
open Go Go.RowKit
mutual
def wkD:V→V
 | .nils => .imm []
 | .imm l => .imm (wkDL l)
 | .agg l => .agg (wkDL l)
 | .tup l => .tup (wkDL l)
 | v=>v
def wkDL:List V→List V
 | []=>[]
 | v::l=>wkD v::wkDL l
end
theorem Cc:∀(l m:List V),wkDL (l++m)=wkDL l++wkDL m
 | [],m=>rfl
 | v::l,m=>by simp only[List.cons_append,wkDL,Cc l m]
theorem mI:∀ l:List V,(wkDL l).length=l.length
 | []=>rfl
 | v::l=>by simp[wkDL,mI l]
theorem xY (v:V):(wkD v).cells=wkDL v.cells:=by cases v<;>simp only[wkD,V.cells,wkDL]
theorem xZ:∀ l:List V,(wkDL l).flatMap V.cells=wkDL (l.flatMap V.cells)
 | []=>rfl
 | v::l=>by simp only[wkDL,List.flatMap_cons,xY,xZ l,Cc]
theorem Bc:∀{l:List V}{e:V},e∈wkDL l→∃ u∈l,e=wkD u
 | v::l,e,h=>by
  rcases List.mem_cons.1 h with rfl|h
  ·exact⟨v,List.mem_cons_self,rfl⟩
  ·obtain⟨u,hu,e⟩:=Bc h;exact⟨u,List.mem_cons_of_mem _ hu,e⟩
mutual
theorem Tv.wkD {w:World}{im:Nat→Prop}:∀{v:V}{x:Value},Tv w im v x→Tv w im (F.wkD v) x
 | _,_,.bool b => .bool b
 | _,_,.int k n => .int k n
 | _,_,.str s => .str s
 | _,_,.nilp => .nilp
 | _,_,.nils => .imm0 none 0 (fun _=>rfl) .none
 | _,_,.nilf => .nilf
 | _,_,.nili => .nili
 | _,_,.nilm => .nilm
 | _,_,.flt b => .flt b
 | _,_,.cpx a b => .cpx a b
 | _,_,.imm0 a cap h hA => .imm0 a cap h hA
 | _,_,.imm es s B O cap cs hne hB hcap hs hc h1 h=>by
  have:=Tv.imm (w:=w) (im:=im) (wkDL es) s B O cap cs (fun e=>hne (List.eq_nil_of_length_eq_zero (by rw[←mI,e];rfl))) hB (by rw[mI];exact hcap) (fun e he=>by
   obtain⟨u,hu,rfl⟩:=Bc he;rw[xY,mI];exact hs u hu) hc h1 (by rw[xZ];exact TvL.wkD h)
  rw[mI]at this;exact this
 | _,_,.fn f => .fn f
 | _,_,.iface t v x h => .iface t v x h
 | _,_,.agg cs xs h1 h => .agg _ xs h1 (TvL.wkD h)
 | _,_,.tup cs xs h => .tup _ xs (TvL.wkD h)
 | _,_,.any x => .any x
theorem TvL.wkD {w:World}{im:Nat→Prop}:∀{l:List V}{m:List Value},TvL w im l m→TvL w im (F.wkDL l) m
 | _,_,.nil => .nil
 | _,_,.cons v x l m h t => .cons _ x _ m (Tv.wkD h) (TvL.wkD t)
end
theorem PC.wkDA {P:Program}{g:Gl}{f:FuncId}{l m:List V}{r:Res}(h:PC P g f m r)(e:wkDL l=m):PC P g f l r:=by
 subst e;exact fun w im xs hG hi hx=>h w im xs hG hi hx.wkD
end
section
open Go Go.RowKit
theorem Iv {E:Env}{rec:mC}{t:TI}{H0 H l:aA}{s:Nat}{v:V}{es xs:List V}{dst:Option Tmp}{T:List V}{H1:aA}{K:List V→aA→Prop}{Q:Ex→List V→aA→Prop}(h:Acc H0 H s v es)(hle:es.length+xs.length≤1073741824)(hk:t.known=true)(hby:t.bytes≤4096)(hs:t.size=s)(hx:aQ s xs=true)(hne:xs≠[])
 (hK:∀ H' n,Acc H0 H' s (.sl (H++l).length 0 n) (es++xs)→(∀ c,c < (H++l).length→(∀ i n,v ≠ .sl c i n)→hb H' c=hb (H++l) c)→(H++l).length≤H'.length→K (put T dst (.sl (H++l).length 0 n)) H'):fk1 E rec (qS t (H++l) v (some xs)) dst T H1 K Q:=by
 have hp:=h.push l;obtain⟨v',H',e,hA⟩:=hp.app hk hby hs hx hne hle;rw[e];have key:(∀ c,c < (H++l).length→(∀ i n,v ≠ .sl c i n)→hb H' c=hb (H++l) c)∧((H++l).length≤H'.length∧∃ n,v' = .sl (H++l).length 0 n):=by
  subst hs;have hne':¬xs.length=0:=by simpa using hne
  rcases hp.sls with ⟨rfl,rfl⟩|⟨b,hb1,rfl,hb2,hne0⟩
  ·simp only[qS,hk,hby,hx,and_self,if_true]at e;rw[if_neg hne',if_pos (by simpa using hle)]at e;simp only[FO.val.injEq]at e;obtain⟨e1,e2⟩:=e;exact⟨fun c hc _=>by rw[←e2,bA _ hc],by rw[←e2];simp,xs.length,e1.symm⟩
  ·rw[tS,hb2]at e;simp only[Pi,hk,hby,hx,true_and,Nat.zero_add,Nat.le_refl,hle,if_true,FO.val.injEq]at e;obtain⟨e1,e2⟩:=e;exact⟨fun c hc hcn=>by rw[←e2,bA _ (by simpa using hc),aG (by rintro rfl;exact hcn _ _ rfl)],by rw[←e2];simp,_,e1.symm⟩
 obtain⟨k1,k2,n,rfl⟩:=key;exact hK H' n hA k1 k2
def wZ (f:Fun)(cv:V):V:=.agg [i64 f.ar,i64 f.lo,i64 f.sl,cv]
structure RdH (H:aA)(r:Nat)(x pv:V)(cvs:List V)(fs:List Fun):Prop where
 hr:hb H r=some (.row 1 [x] false)
 hx:x.cells=[pv]
 hp:Acc [] H 4 pv (List.zipWith wZ fs cvs)
 hl:cvs.length=fs.length
 hc:∀(i:Nat) f cv,fs[i]?=some f→cvs[i]?=some cv→Acc [] H 3 cv (f.code.map aK)
 hd:cvs.Pairwise Xo
variable {H:aA}{s:Nat}{v:V}{es:List V}
theorem Acc.keep {H H':aA}{s:Nat}{v:V}{es:List V}(h:Acc [] H s v es)(hk:∀ c,c < H.length→(∃ i n,v = .sl c i n)→hb H' c=hb H c):Acc [] H' s v es:=by
 refine⟨fun c hc=>absurd hc (by simp),Nat.zero_le _,?_⟩;rcases h.sls with h1|⟨b,h1,h2,h3,h4⟩
 ·exact .inl h1
 ·exact .inr ⟨b,Nat.zero_le _,h2,by rw[hk b (aE h3) ⟨_,_,h2⟩];exact h3,h4⟩
theorem Acc.not (h:Acc [] H s v es){r:Nat}{s':Nat}{l:List V}(hr:hb H r=some (.row s' l false))(hs:s≠s')(i n:Nat):v ≠ .sl r i n:=by
 intro e;have:=(h.row e).1;rw[hr]at this;cases this;exact hs rfl
theorem Yo {fs:List Fun}{cvs:List V}(hl:cvs.length=fs.length){i:Nat}{f:Fun}{cv:V}(h1:fs[i]?=some f)(h2:cvs[i]?=some cv):(List.zipWith wZ fs cvs)[i]?=some (wZ f cv):=by
 rw[List.getElem?_zipWith,h1,h2]
theorem RdH.push {H H5:aA}{r m n:Nat}{x pv:V}{cvs:List V}{fs:List Fun}(h:RdH H r x pv cvs fs)(f:Fun)(hf:f.code=[])(hA:Acc [] H5 4 (.sl m 0 n) (List.zipWith wZ fs cvs++[wZ f .nils]))
 (hkeep:∀ c,c < H.length→(∀ i n,pv ≠ .sl c i n)→hb H5 c=hb H c)(hm:H.length≤m)(hl5:H.length≤H5.length) :
 RdH (H5.set r (.row 1 [.sl m 0 n] false)) r (.sl m 0 n) (.sl m 0 n) (cvs++[.nils]) (fs++[f]):=by
 have hrl:=aE h.hr;refine⟨aW (by omega) _,rfl,?_,by simp[h.hl],?_,?_⟩
 ·rw[List.zipWith_append (by rw[h.hl])];refine hA.keep fun c hc ⟨i,k,e⟩=>?_;have:r≠c:=by injection e with e1;omega
  exact aG this _
 ·intro i f' cv h1 h2;by_cases hi:i < fs.length
  ·rw[List.getElem?_append_left hi]at h1;rw[List.getElem?_append_left (by rw[h.hl];exact hi)]at h2;have hc:=h.hc i f' cv h1 h2;refine hc.keep fun c hcl ⟨j,k,e⟩=>?_;have hrow:=(hc.row e).1;have hcr:r≠c:=by
    rintro rfl;exact hc.not h.hr (by decide) _ _ e
   rw[aG hcr];exact hkeep c hcl fun i n e'=>h.hp.not hrow (by decide) _ _ e'
  ·have e1:=(List.getElem?_eq_some_iff.1 h1).1;simp at e1;obtain rfl:i=fs.length:=by omega
   simp[List.getElem?_append_right]at h1;rw[←h.hl]at h2;simp[List.getElem?_append_right]at h2;subst h1 h2;rw[hf];exact⟨fun c hc=>absurd hc (by simp),Nat.zero_le _,.inl ⟨rfl,rfl⟩⟩
 ·rw[List.pairwise_append];exact⟨h.hd,List.pairwise_singleton _ _,fun x _ y hy=>by cases List.mem_singleton.1 hy;exact(Xo.nil x).symm⟩
variable {g:Gl}
def Ua (fs:List Fun):Bool:=match fs.getLast? with|none=>true|some f=>decide ((0:Int) < f.code.length)
def iV (fs:List Fun)(s:List UInt8)(f:Fun):Option (List Fun):=if hdB f == s && mT f && decide ((fs.length:Int) < 16) && Ua fs then some (fs++[f])else none
set_option maxHeartbeats 1000000 in
theorem aLq (hg:GlOk g){Q:Ex→List V→aA→Prop}{dst:Option Tmp}{T:List V}{H:aA}{KK:List V→aA→Prop}{r:Nat}{x pv:V}{cvs:List V}{fs:List Fun}(s:List UInt8)(word:List UInt8)(a b c:Int)(ia:Rb a)(ib:Rb b)(ic:Rb c)(p156:PC P0 g 156 [.str s] (.ret (.tup [.str word,oA a b c])))(hfu:(word == [102,117,110,99])=true)(hs:s.length≤1048576)
 (h:RdH H r x pv cvs fs) (hf:fs.length≤16)
 (hk:∀ H',(∀ fs',iV fs s ⟨a,b,c,[]⟩=some fs'→∃ x' pv' cvs',RdH H' r x' pv' cvs' fs')→KK (put T dst (.bool (iV fs s ⟨a,b,c,[]⟩).isSome)) H') :
 aZ (Eg g) (FW (Eg g)) 77 [.ptr r 0 0,.str s] dst T H KK Q:=by
 have hr:=h.hr;have hrl:=aE hr;have hx:=h.hx;have hvl:pJ pv=some fs.length:=by rw[h.hp.len_eq];simp[h.hl]
 have hlenD:=h.hp.lenD 156;have hzl:(List.zipWith wZ fs cvs).length=fs.length:=by simp[h.hl]
 rw[hzl]at hlenD;obtain⟨lst,hw,hlst⟩:∃ lst:Int,IntKind.i64.wrap ((fs.length:Int) - 1)=lst∧lst=fs.length - 1:=⟨_,IntWalk.i64_in _ (by omega),rfl⟩;refine en Tryz.func77 Tryz.ntmps77 Tryz.results77 rfl ⟨⟨rfl,rfl⟩,rfl⟩ ?_;simp only[ZZ,simprocAttr,i64];refine rg fun K hK=>?_;simp only[ZZ,simprocAttr,i64];apply hK;try clear hK K
 refine rg fun K hK=>?_;simp only[ZZ,simprocAttr,i64];refine mt p156 Tryz.func156 rfl ⟨⟨rfl,rfl⟩,rfl⟩ rfl ?_;simp only[ZZ,simprocAttr,i64,oA,WH];apply hK;try clear hK K
 refine rg fun K hK=>?_;simp only[ZZ,simprocAttr,i64,WH,hr,hrl,hlenD,hw,hx,List.getElem?_cons_zero];apply hK;try clear hK K
 refine aF fun K1 hK1=>?_;refine rg fun K hK=>?_;simp only[ZZ,simprocAttr,i64,hfu];apply hK;try clear hK K
 apply aB rfl;refine rg fun K hK=>?_;simp only[ZZ,simprocAttr,i64,WH];apply hK;try clear hK K
 refine dr [0,1,2,3,4,5,6,7,8,9,10] (by kernel_rfl) fun K hK=>?_;simp only[ZZ,simprocAttr,i64,WH,hr,hrl,hx,List.getElem?_cons_zero];refine Iv (l:=[.row 3 [.agg [.int .i64 a,.int .i64 b,.int .i64 c]] false,.row 4 [.agg [.int .i64 a,.int .i64 b,.int .i64 c,.nils]] false,.row 4 [.agg [.int .i64 a,.int .i64 b,.int .i64 c,.nils]] false]) h.hp (by rw[hzl];simp;omega) rfl (by decide) rfl rfl (by simp) fun H5 n hA hkeep hle5=>?_;rw[show(H++[Blk.row 3 [.agg [.int .i64 a,.int .i64 b,.int .i64 c]] false,.row 4 [.agg [.int .i64 a,.int .i64 b,.int .i64 c,.nils]] false,.row 4 [.agg [.int .i64 a,.int .i64 b,.int .i64 c,.nils]] false]).length=H.length+3 by simp]at hA hkeep hle5 ⊢;have k8:hb H5 (H.length+1)=some (.row 4 [.agg [.int .i64 a,.int .i64 b,.int .i64 c,.nils]] false):=(hkeep (H.length+1) (by omega) (fun i n e=>by have:=aE (h.hp.row e).1;omega)).trans (by rw[bO (n:=H.length) _ 1 rfl];rfl);have kr:=hkeep r (by omega) (fun i n=>h.hp.not hr (by decide) i n);rw[bA _ hrl,hr]at kr;have hR:=h.push ⟨a,b,c,[]⟩ rfl hA (fun c hc hn=>by rw[hkeep c (by omega) hn,bA _ hc]) (by omega) (by omega);have krl:=aE kr;simp only[ZZ,simprocAttr,i64,WH,kr,krl,hx];apply hK;try clear hK K
 have k8':hb (H5.set r (.row 1 [.sl (H.length+3) 0 n] false)) (H.length+1)=_:=(aG (by omega) _).trans k8;generalize H5.set r (.row 1 [.sl (H.length+3) 0 n] false)=H6 at hR k8' ⊢;clear hkeep kr krl k8 hA hle5;have k8l:=aE k8';refine rg fun K hK=>?_;simp only[ZZ,simprocAttr,i64,WH,k8',k8l];refine mt ((aKn hg ⟨a,b,c,[]⟩ ia ib ic).wkDA (l:=[.agg [.int .i64 a,.int .i64 b,.int .i64 c,.nils]]) rfl) Tryz.func157 rfl ⟨⟨rfl,rfl⟩,rfl⟩ rfl ?_;cases hbd:hdB ⟨a,b,c,[]⟩ == s with
 | false=>
  simp only[ZZ,simprocAttr,i64,hbd];apply hK;try clear hK K
  apply aC;simp only[WX,aM,aI,W1,W5,aL,aO,List.mapM_nil,Option.pure_def];rw[show iV fs s ⟨a,b,c,[]⟩=none by simp[iV,hbd]]at hk;exact hk _ (fun _ e=>by cases e)
 | true=>
  simp only[ZZ,simprocAttr,i64,hbd,k8',k8l];refine mt ((aDk g ⟨a,b,c,[]⟩).wkDA (l:=[.agg [.int .i64 a,.int .i64 b,.int .i64 c,.nils]]) rfl) Tryz.func151 rfl ⟨⟨rfl,rfl⟩,rfl⟩ rfl ?_;cases hhd:mT ⟨a,b,c,[]⟩with
  | false=>
   simp only[ZZ,simprocAttr,i64];apply hK;try clear hK K
   apply aC;simp only[WX,aM,aI,W1,W5,aL,aO,List.mapM_nil,Option.pure_def];rw[show iV fs s ⟨a,b,c,[]⟩=none by simp[iV,hhd]]at hk;exact hk _ (fun _ e=>by cases e)
  | true=>
   have w2:IntKind.i64.wrap (lst+1)=fs.length:=by rw[IntWalk.i64_in _ (by omega)];omega
   by_cases h16:(fs.length:Int) < 16
   ·by_cases h0:lst < 0
    ·simp only[ZZ,simprocAttr,i64,w2,h16,h0];apply hK;try clear hK K
     apply aC;simp only[WX,aM,aI,W1,W5,aL,aO,List.mapM_nil,Option.pure_def];have hnil:fs=[]:=List.eq_nil_of_length_eq_zero (by omega);rw[show iV fs s ⟨a,b,c,[]⟩=some (fs++[⟨a,b,c,[]⟩]) by simp only[iV,hbd,hhd,h16,hnil,Ua];rfl]at hk;exact hk _ (fun _ e=>by cases e;exact⟨_,_,_,hR⟩)
    ·obtain⟨k,hk0⟩:∃ k:Nat,fs.length=k+1:=⟨fs.length - 1,by omega⟩;obtain rfl:lst=k:=by omega
     have hk1:¬(k:Int) < 0:=by omega
     have hk2:(0:Int)≤k:=by omega
     have hq:=List.getElem?_eq_getElem (show k < fs.length by omega);have hq':=List.getElem?_eq_getElem (show k < cvs.length by have:=h.hl;omega);generalize fs[k]'(by omega)=f at hq;generalize cvs[k]'(by have:=h.hl;omega)=cv at hq';have hz:(List.zipWith wZ (fs++[⟨a,b,c,[]⟩]) (cvs++[.nils]))[k]?=some (wZ f cv):=Yo hR.hl (by rw[List.getElem?_append_left (by omega)];exact hq) (by rw[List.getElem?_append_left (by have:=h.hl;omega)];exact hq');have hcv:=hR.hc k f cv (by rw[List.getElem?_append_left (by omega)];exact hq) (by rw[List.getElem?_append_left (by have:=h.hl;omega)];exact hq');have hcl:=hcv.lenD 210;have hrow4:=hR.hp.row (b:=H.length+3) (i:=0) (n:=n) rfl;have hrow:=hrow4.1;have hn:=hrow4.2.2.1;clear hrow4;have hkn:k < n:=by rw[hn,List.length_zipWith,hR.hl,Nat.min_self,List.length_append,List.length_singleton];omega
     have hkn':(k:Int) < n:=by omega
     have hrl6:=aE hrow;have hr6:=hR.hr;have hr6l:=aE hr6;have hz':xP (List.zipWith wZ (fs++[⟨a,b,c,[]⟩]) (cvs++[.nils])) k=some (.agg [.int .i64 f.ar,.int .i64 f.lo,.int .i64 f.sl,cv]):=hz;simp only[ZZ,simprocAttr,i64,w2,h16,hk1,WH,hr6,hr6l,hrow,hrl6,hkn,hkn',hk2,Int.toNat_natCast,Nat.zero_add,hz',hcl];apply hK;try clear hK K
     apply aC;simp only[WX,aM,aI,W1,W5,aL,aO,List.mapM_nil,Option.pure_def];have hla:fs.getLast?=some f:=by rw[List.getLast?_eq_getElem?,show fs.length - 1=k by omega];exact hq
     cases hd:decide ((0:Int) < f.code.length)with
     | true=>
      rw[show iV fs s ⟨a,b,c,[]⟩=some (fs++[⟨a,b,c,[]⟩]) by simp only[iV,hbd,hhd,h16,Ua,hla,hd];rfl]at hk;exact hk _ (fun _ e=>by cases e;exact⟨_,_,_,hR⟩)
     | false=>
      rw[show iV fs s ⟨a,b,c,[]⟩=none by simp only[iV,hbd,hhd,h16,Ua,hla,hd];rfl]at hk;exact hk _ (fun _ e=>by cases e)
   ·by_cases h0:lst < 0
    ·omega
    ·simp only[ZZ,simprocAttr,i64,w2,h16,h0];apply hK;try clear hK K
     apply aC;simp only[WX,aM,aI,W1,W5,aL,aO,List.mapM_nil,Option.pure_def];rw[show iV fs s ⟨a,b,c,[]⟩=none by simp[iV,h16]]at hk;exact hk _ (fun _ e=>by cases e)
end
section
open Go Go.RowKit
def To (f:Fun)(i:Ins):Fun:={f with code:=f.code++[i]}
theorem Qx {fs:List Fun}{cvs:List V}{k:Nat}{f:Fun}{cv:V}(hl:cvs.length=fs.length):(List.zipWith wZ fs cvs).set k (wZ f cv)=List.zipWith wZ (fs.set k f) (cvs.set k cv):=by
 apply List.ext_getElem?;intro j;rw[List.getElem?_set,List.getElem?_zipWith,List.getElem?_zipWith,List.getElem?_set,List.getElem?_set];by_cases hkj:k=j
 ·subst hkj;simp only[if_true,List.length_zipWith,hl,Nat.min_self];by_cases hk:k < fs.length
  ·simp[hk]
  ·simp[hk]
 ·simp only[if_neg hkj]
theorem RdH.put {H H5:aA}{r m n P k:Nat}{x pv:V}{cvs:List V}{fs:List Fun}(h:RdH H r x pv cvs fs){f:Fun}{cv:V}(i:Ins)(hf:fs[k]?=some f)(hv:cvs[k]?=some cv)(hP:pv = .sl P 0 fs.length)(hA:Acc [] H5 3 (.sl m 0 n) (f.code.map aK++[aK i]))
 (hkeep:∀ c,c < H.length→(∀ i n,cv ≠ .sl c i n)→hb H5 c=hb H c)(hm:H.length≤m)(hl5:H.length≤H5.length) :
 RdH (H5.set P (.row 4 ((List.zipWith wZ fs cvs).set k (wZ f (.sl m 0 n))) false)) r x pv (cvs.set k (.sl m 0 n)) (fs.set k (To f i)):=by
 have hrl:=aE h.hr;have hPr:=(h.hp.row hP).1;have hPl:=aE hPr;have hcv:=h.hc k f cv hf hv;have hklen:=(List.getElem?_eq_some_iff.1 hf).1;have hrP:P≠r:=by
  rintro rfl;exact h.hp.not h.hr (by decide) _ _ hP
 refine⟨?_,h.hx,?_,by simp[h.hl],?_,?_⟩
 ·rw[aG hrP,hkeep r hrl fun i n e=>hcv.not h.hr (by decide) _ _ e];exact h.hr
 ·rw[←Qx h.hl];refine⟨fun c hc=>absurd hc (by simp),Nat.zero_le _,.inr ⟨P,Nat.zero_le _,?_,?_,?_⟩⟩
  ·rw[hP];simp[h.hl]
  ·rw[aW (by omega)];rfl
  ·intro e;have:=congrArg List.length e;rw[List.length_set,List.length_zipWith,h.hl,Nat.min_self,List.length_nil]at this;omega
 ·intro j f' cv' h1 h2;rw[List.getElem?_set]at h1 h2;by_cases hkj:k=j
  ·subst hkj;have hkc:k < cvs.length:=by rw[h.hl];exact hklen
   simp[hklen]at h1;simp[hkc]at h2;subst h1 h2;have:(To f i).code.map aK=f.code.map aK++[aK i]:=by simp[To]
   rw[this];refine hA.keep fun c hc ⟨i,k,e⟩=>?_;have:P≠c:=by injection e with e1;omega
   exact aG this _
  ·rw[if_neg hkj]at h1 h2;have hc:=h.hc j f' cv' h1 h2;refine hc.keep fun c hcl ⟨j',k',e⟩=>?_;have hrow:=(hc.row e).1;have hcP:P≠c:=by
    rintro rfl;exact hc.not hPr (by decide) _ _ e
   rw[aG hcP];refine hkeep c hcl fun i n e'=>?_;have hkc:=(List.getElem?_eq_some_iff.1 hv).1;have hjc:=(List.getElem?_eq_some_iff.1 h2).1;have e1:=(List.getElem?_eq_some_iff.1 hv).2;have e2:=(List.getElem?_eq_some_iff.1 h2).2;rcases Nat.lt_or_gt_of_ne hkj with hlt|hlt
   ·have:=List.pairwise_iff_getElem.1 h.hd k j hkc hjc hlt;rw[e1,e2]at this;exact this _ _ _ _ _ e' e
   ·have:=List.pairwise_iff_getElem.1 h.hd j k hjc hkc hlt;rw[e1,e2]at this;exact this _ _ _ _ _ e e'
 ·have fresh:∀(j:Nat)(hj:j < cvs.length),Xo (.sl m 0 n) cvs[j]:=by
   intro j hj b i n i' n' e1 e2;have hjf:j < fs.length:=by rw[←h.hl];exact hj
   have:=(h.hc j _ _ (List.getElem?_eq_getElem hjf) (List.getElem?_eq_getElem hj)).row e2;have:=aE this.1;injection e1 with e3
   omega
  rw[List.pairwise_iff_getElem];intro i' j' hi hj hij;rw[List.length_set]at hi hj;rw[List.getElem_set,List.getElem_set];have:=List.pairwise_iff_getElem.1 h.hd i' j' hi hj hij;split
  ·rw[if_neg (by omega)];exact fresh j' hj
  ·split
   ·exact(fresh i' hi).symm
   ·exact this
def vH (fs:List Fun)(s:List UInt8)(k:Int)(x:Ins):Option (List Fun):=
 match fs.getLast? with
 | none=>none
 | some f=>if decide (0≤k) && fH x && pI x == s && !((f.code.length:Int) == 200)then some (fs.set (fs.length - 1) (To f x))else none
variable {g:Gl}
set_option maxHeartbeats 1000000 in
theorem aLp (hg:GlOk g){Q:Ex→List V→aA→Prop}{dst:Option Tmp}{T:List V}{H:aA}{KK:List V→aA→Prop}{r:Nat}{x pv:V}{cvs:List V}{fs:List Fun}(s:List UInt8)(word:List UInt8)(a b c:Int)(ia:Rb a)(ib:Rb b)(ic:Rb c)(p156:PC P0 g 156 [.str s] (.ret (.tup [.str word,oA a b c])))(hfu:(word == [102,117,110,99])=false)(hs:s.length≤1048576)
 (h:RdH H r x pv cvs fs) (hf:fs.length≤16) (hcl:∀ f∈fs,f.code.length≤200)
 (hk:∀ H',(∀ fs',vH fs s (jR word) ⟨max (jR word) 0,a,b⟩=some fs'→∃ x' pv' cvs',RdH H' r x' pv' cvs' fs')→KK (put T dst (.bool (vH fs s (jR word) ⟨max (jR word) 0,a,b⟩).isSome)) H') :
 aZ (Eg g) (FW (Eg g)) 77 [.ptr r 0 0,.str s] dst T H KK Q:=by
 have hr:=h.hr;have hrl:=aE hr;have hx:=h.hx;have hlenD:=h.hp.lenD 156;have hzl:(List.zipWith wZ fs cvs).length=fs.length:=by simp[h.hl]
 rw[hzl]at hlenD;obtain⟨lst,hw,hlst⟩:∃ lst:Int,IntKind.i64.wrap ((fs.length:Int) - 1)=lst∧lst=fs.length - 1:=⟨_,IntWalk.i64_in _ (by omega),rfl⟩;refine en Tryz.func77 Tryz.ntmps77 Tryz.results77 rfl ⟨⟨rfl,rfl⟩,rfl⟩ ?_;simp only[ZZ,simprocAttr,i64];refine rg fun K hK=>?_;simp only[ZZ,simprocAttr,i64];apply hK;try clear hK K
 refine rg fun K hK=>?_;simp only[ZZ,simprocAttr,i64];refine mt p156 Tryz.func156 rfl ⟨⟨rfl,rfl⟩,rfl⟩ rfl ?_;simp only[ZZ,simprocAttr,i64,oA,WH];apply hK;try clear hK K
 refine rg fun K hK=>?_;simp only[ZZ,simprocAttr,i64,WH,hr,hrl,hlenD,hw,hx,List.getElem?_cons_zero];apply hK;try clear hK K
 refine aF fun K1 hK1=>?_;refine rg fun K hK=>?_;simp only[ZZ,simprocAttr,i64,hfu];apply hK;try clear hK K
 apply aD rfl;apply aH;simp only[WX];apply hK1;refine rg fun K hK=>?_;simp only[ZZ,simprocAttr,i64];refine mt (aKm word) Tryz.func158 rfl ⟨⟨rfl,rfl⟩,rfl⟩ rfl ?_;simp only[ZZ,simprocAttr,i64];apply hK;try clear hK K
 refine rg fun K hK=>?_;simp only[ZZ,simprocAttr,i64,WH];apply hK;try clear hK K
 refine aF fun K1 hK1=>?_;have bad:vH fs s (jR word) ⟨max (jR word) 0,a,b⟩=none→∀ H',KK (put T dst (.bool false)) H':=fun e H'=>by rw[e]at hk;exact hk H' (fun _ e=>by cases e)
 by_cases hkd:0≤jR word;rotate_left
 ·refine rg fun K hK=>?_;simp only[ZZ,simprocAttr,i64,hkd];apply hK;try clear hK K
  apply aB rfl;refine rg fun K hK=>?_;simp only[ZZ,simprocAttr,i64];apply hK;try clear hK K
  apply aC;simp only[WX,aM,aI,W1,W5,aL,aO,List.mapM_nil,Option.pure_def];refine bad ?_ _;unfold vH;split
  ·rfl
  ·rw[if_neg (by simp[hkd])]
 by_cases h0:lst < 0
 ·refine rg fun K hK=>?_;simp only[ZZ,simprocAttr,i64,hkd,h0];apply hK;try clear hK K
  apply aB rfl;refine rg fun K hK=>?_;simp only[ZZ,simprocAttr,i64];apply hK;try clear hK K
  apply aC;simp only[WX,aM,aI,W1,W5,aL,aO,List.mapM_nil,Option.pure_def];refine bad ?_ _;rw[List.eq_nil_of_length_eq_zero (show fs.length=0 by omega)];rfl
 obtain⟨kd,hkd'⟩:∃ kd,max (jR word) 0=kd:=⟨_,rfl⟩;rw[hkd']at hk bad ⊢;obtain⟨k,hk0⟩:∃ k:Nat,fs.length=k+1:=⟨fs.length - 1,by omega⟩;obtain rfl:lst=k:=by omega
 have hk2:(0:Int)≤k:=by omega
 have hq:=List.getElem?_eq_getElem (show k < fs.length by omega);have hq':=List.getElem?_eq_getElem (show k < cvs.length by have:=h.hl;omega);have hfm:=List.getElem_mem (show k < fs.length by omega);generalize fs[k]'(by omega)=f at hq hfm;generalize cvs[k]'(by have:=h.hl;omega)=cv at hq';have hfl:=hcl f hfm;have hla:fs.getLast?=some f:=by rw[List.getLast?_eq_getElem?,show fs.length - 1=k by omega];exact hq
 have hz:(List.zipWith wZ fs cvs)[k]?=some (wZ f cv):=Yo h.hl hq hq';have hz':xP (List.zipWith wZ fs cvs) k=some (.agg [.int .i64 f.ar,.int .i64 f.lo,.int .i64 f.sl,cv]):=hz;have hcv:=h.hc k f cv hq hq';have hcvD:=hcv.lenD 210;rw[List.length_map]at hcvD;obtain⟨P,hP⟩:∃ P,pv = .sl P 0 fs.length:=by
  rcases h.hp.sls with ⟨_,e⟩|⟨P,_,e,_⟩
  ·have:=congrArg List.length e;rw[hzl,List.length_nil]at this;omega
  ·rw[hzl]at e;exact⟨P,e⟩
 have hrow:=(h.hp.row hP).1;have hPl:=aE hrow;rw[hP];have hkn:k < fs.length:=by omega
 have hkn':(k:Int) < fs.length:=by omega
 refine rg fun K hK=>?_;simp only[ZZ,simprocAttr,i64,hkd,h0,WH,hkd'];refine mt (Nj g ⟨kd,a,b⟩) Tryz.func155 rfl ⟨⟨rfl,rfl⟩,rfl⟩ rfl ?_;cases hom:fH ⟨kd,a,b⟩with
 | false=>
  simp only[ZZ,simprocAttr,i64,hom];apply hK;try clear hK K
  apply aB rfl;refine rg fun K hK=>?_;simp only[ZZ,simprocAttr,i64];apply hK;try clear hK K
  apply aC;simp only[WX,aM,aI,W1,W5,aL,aO,List.mapM_nil,Option.pure_def];exact bad (by simp[vH,hla,hom]) _
 | true=>
  simp only[ZZ,simprocAttr,i64,hom,WH];refine mt (aKl hg ⟨kd,a,b⟩ ia ib) Tryz.func159 rfl ⟨⟨rfl,rfl⟩,rfl⟩ rfl ?_;cases hwr:pI ⟨kd,a,b⟩ == s with
  | false=>
   simp only[ZZ,simprocAttr,i64,hwr];apply hK;try clear hK K
   apply aB rfl;refine rg fun K hK=>?_;simp only[ZZ,simprocAttr,i64];apply hK;try clear hK K
   apply aC;simp only[WX,aM,aI,W1,W5,aL,aO,List.mapM_nil,Option.pure_def];exact bad (by simp[vH,hla,hwr]) _
  | true=>
   by_cases h200:(f.code.length:Int)=200
   ·simp only[ZZ,simprocAttr,i64,hwr,WH,hr,hrl,hx,List.getElem?_cons_zero,hP,hrow,hPl,hk2,hkn,hkn',Int.toNat_natCast,Nat.zero_add,hz',hcvD,h200];apply hK;try clear hK K
    apply aB rfl;refine rg fun K hK=>?_;simp only[ZZ,simprocAttr,i64];apply hK;try clear hK K
    apply aC;simp only[WX,aM,aI,W1,W5,aL,aO,List.mapM_nil,Option.pure_def];exact bad (by simp[vH,hla,h200]) _
   ·have h2b:((f.code.length:Int) == 200)=false:=by simpa using h200
    simp only[ZZ,simprocAttr,i64,hwr,WH,hr,hrl,hx,List.getElem?_cons_zero,hP,hrow,hPl,hk2,hkn,hkn',Int.toNat_natCast,Nat.zero_add,hz',hcvD,h2b];apply hK;try clear hK K
    apply aD rfl;apply aH;simp only[WX];apply hK1;have hJ0:∀ l,hb (H++l) r=some (.row 1 [x] false):=fun l=>by rw[bA _ hrl];exact hr
    refine td (fun H'=>hb H' r=some (.row 1 [x] false)) (OT.of [0,1,2,3,4,5,6,7,8,9,10,11,12,13,14,15,16,17,18] .nil) [3] (by kernel_rfl) fun K hK=>?_;simp only[ZZ,simprocAttr,i64,WH,hr,hrl,hx,List.getElem?_cons_zero,hP,hrow,hPl,hk2,hkn,hkn',Int.toNat_natCast,Nat.zero_add,hz'];have hpv:x.cells=[.sl P 0 fs.length]:=by rw[hx,hP]
    refine⟨uO (b:=r) (i:=0) (j:=0) (v:=.sl P 0 fs.length) (fun H' e=>⟨_,e,by simp only[ZZ,simprocAttr,hpv]⟩) rfl (hJ0 _),?_⟩;refine Iv (l:=[.row 3 [.agg [.int .i64 a,.int .i64 b,.int .i64 c]] false,.row 3 [.agg [.int .i64 kd,.int .i64 a,.int .i64 b]] false,.row 3 [.agg [.int .i64 kd,.int .i64 a,.int .i64 b]] false]) hcv (by rw[List.length_map];simp;omega) rfl (by decide) rfl rfl (by simp) fun H5 n hA hkeep hle5=>?_;rw[show(H++[Blk.row 3 [.agg [.int .i64 a,.int .i64 b,.int .i64 c]] false,.row 3 [.agg [.int .i64 kd,.int .i64 a,.int .i64 b]] false,.row 3 [.agg [.int .i64 kd,.int .i64 a,.int .i64 b]] false]).length=H.length+3 by simp]at hA hkeep hle5 ⊢;have kP:=hkeep P (by omega) (fun i n=>hcv.not hrow (by decide) i n);rw[bA _ hPl,hrow]at kP;have kPl:=aE kP;have kr:=hkeep r (by omega) (fun i n=>hcv.not hr (by decide) i n);rw[bA _ hrl,hr]at kr;have hR:=h.put ⟨kd,a,b⟩ hq hq' hP hA (fun c hc hn=>by rw[hkeep c (by omega) hn,bA _ hc]) (by omega) (by omega);simp only[wZ,i64]at hR;refine⟨fun _=>kr,?_⟩;simp only[ZZ,simprocAttr,i64,WH,kP,kPl,hkn,hkn',hk2,Int.toNat_natCast,Nat.zero_add,hz'];refine⟨hR.hr,?_⟩;apply hK;try clear hK K
    refine rg fun K hK=>?_;simp only[ZZ,simprocAttr,i64];apply hK;try clear hK K
    apply aC;simp only[WX,aM,aI,W1,W5,aL,aO,List.mapM_nil,Option.pure_def];rw[show vH fs s (jR word) ⟨kd,a,b⟩=some (fs.set k (To f ⟨kd,a,b⟩)) by
     have:fs.length - 1=k:=by omega
     simp only[vH,hla,hkd,hom,hwr,h2b,this];rfl]at hk
    exact hk _ (fun _ e=>by cases e;exact⟨_,_,_,hR⟩)
end
section
open Go Go.RowKit
def Fd (s:List UInt8):List UInt8:=(Lib.split s [32]).headD []
def Ra (s:List UInt8)(k:Nat):Int:=sQ (Lib.split s [32]).tail k
def sW (fs:List Fun)(s:List UInt8):Option (List Fun):=
 if Fd s == [102,117,110,99]then iV fs s ⟨Ra s 0,Ra s 1,Ra s 2,[]⟩else vH fs s (jR (Fd s)) ⟨max (jR (Fd s)) 0,Ra s 0,Ra s 1⟩
variable {g:Gl}
theorem Jt (hg:GlOk g)(s:List UInt8)(hs:s.length≤1048576):PC P0 g 156 [.str s] (.ret (.tup [.str (Fd s),oA (Ra s 0) (Ra s 1) (Ra s 2)])):=by
 obtain⟨w,l,hsp,hl,hw⟩:=Fp s 32;have:=aFm hg s hs w l hsp hl hw;simp only[Fd,Ra,hsp];exact this
theorem aTf (hg:GlOk g){Q:Ex→List V→aA→Prop}{dst:Option Tmp}{T:List V}{H:aA}{KK:List V→aA→Prop}{r:Nat}{x pv:V}{cvs:List V}{fs:List Fun}(s:List UInt8)(hs:s.length≤1048576)
 (h:RdH H r x pv cvs fs) (hf:fs.length≤16) (hcl:∀ f∈fs,f.code.length≤200)
 (hk:∀ H',(∀ fs',sW fs s=some fs'→∃ x' pv' cvs',RdH H' r x' pv' cvs' fs')→KK (put T dst (.bool (sW fs s).isSome)) H') :
 aZ (Eg g) (FW (Eg g)) 77 [.ptr r 0 0,.str s] dst T H KK Q:=by
 unfold sW at hk;cases hfu:Fd s == [102,117,110,99]with
 | true=>
  simp only[hfu,if_true]at hk;exact aLq hg s (Fd s) _ _ _ (lE _ _) (lE _ _) (lE _ _) (Jt hg s hs) hfu hs h hf hk
 | false=>
  simp only[hfu,Bool.false_eq_true,if_false]at hk;exact aLp hg s (Fd s) _ _ _ (lE _ _) (lE _ _) (lE _ _) (Jt hg s hs) hfu hs h hf hcl hk
theorem He {fs fs':List Fun}{s:List UInt8}(h:sW fs s=some fs')(hf:fs.length≤16)(hcl:∀ f∈fs,f.code.length≤200):fs'.length≤16∧∀ f∈fs',f.code.length≤200:=by
 unfold sW at h;split at h
 ·unfold iV at h;split at h
  ·rename_i h1;cases h;simp only[Bool.and_eq_true,decide_eq_true_eq]at h1;refine⟨by simp;omega,fun f hm=>?_⟩;rcases List.mem_append.1 hm with h2|h2
   ·exact hcl f h2
   ·cases List.mem_singleton.1 h2;exact Nat.zero_le _
  ·cases h
 ·unfold vH at h;split at h
  ·cases h
  ·rename_i f hla;split at h
   ·rename_i h1;cases h;simp only[Bool.and_eq_true,Bool.not_eq_true',beq_eq_false_iff_ne,ne_eq]at h1;have hfm:=List.mem_of_getLast? hla;have:=hcl f hfm;refine⟨by rw[List.length_set];exact hf,fun f' hm=>?_⟩;rcases List.mem_or_eq_of_mem_set hm with h2|rfl
    ·exact hcl f' h2
    ·simp only[To,List.length_append,List.length_singleton];omega
   ·cases h
def lR:Nat→List UInt8→List Fun→Int→Option (List Fun)×Int
 | 0,_,_,n=>(none,n)
 | k+1,s,fs,n=>
  if(Lib.cut s [10]).2.2 then
   match sW fs (Lib.cut s [10]).1 with
   | none=>(none,n)
   | some fs'=>lR k (Lib.cut s [10]).2.1 fs' (n+1)
  else if(Lib.cut s [10]).1 != [] || !bW fs then(none,n)else(some fs,n)
def oS (r:Option (List Fun)×Int):V:=match r.1 with
 | none => .tup [.nils,i64 r.2,i64 70]
 | some fs => .tup [.imm (fs.map bL),i64 r.2,i64 0]
theorem aAq (s:List UInt8):(Lib.cut s [10]).1.length≤s.length∧((Lib.cut s [10]).2.2=true→(Lib.cut s [10]).2.1.length < s.length):=by
 unfold Lib.cut;split
 ·rename_i h;have hs:s≠[]:=by rintro rfl;revert h;simp[Lib.index]
  have:=List.length_pos_iff.2 hs;refine⟨by simp only[List.length_take];omega,fun _=>?_⟩;simp only[List.length_drop,List.length_singleton];omega
 ·exact⟨Nat.le_refl _,fun h=>by cases h⟩
def mV (f:Fun):V:=.agg [i64 f.ar,i64 f.lo,i64 f.sl,mG (f.code.map aK)]
theorem Acc.fzN {H:aA}{s n:Nat}{v:V}{es es':List V}(h:Acc [] H s v es)(he:es.mapM (F.fz H n)=some es')(hs:aQ s es'=true):F.fz H (n+1) v=some (mG es'):=by
 rcases h.sls with ⟨rfl,rfl⟩|⟨b,hb1,rfl,hb2,hne0⟩
 ·cases he;rfl
 ·cases es with
  | nil=>exact absurd rfl hne0
  | cons x l=>
   have hne:es'≠[]:=by
    rintro rfl;rw[fP]at he;cases h1:F.fz H n x<;>cases h2:l.mapM (F.fz H n)<;>rw[h1,h2]at he<;>cases he
   rw[Je,hb2];simp only[mH,Nat.zero_add,Nat.le_refl,if_true,List.drop_zero,List.take_length,he,slO,hs,mG];rw[if_neg (by simpa using hne)]
theorem RdH.fz (k:Nat){H:aA}{r:Nat}{x pv:V}{cvs:List V}{fs:List Fun}(h:RdH H r x pv cvs fs):F.fz H (k+5) pv=some (mG (fs.map mV)):=by
 refine h.hp.fzN ?_ ?_
 ·have key:∀(l:List Fun)(c:List V),c.length=l.length→(∀(i:Nat) f cv,l[i]?=some f→c[i]?=some cv→Acc [] H 3 cv (f.code.map aK))→(List.zipWith wZ l c).mapM (F.fz H (k+4))=some (l.map mV):=by
   intro l;induction l with
   | nil=>intro c hc _;rfl
   | cons f l ih=>
    intro c hc ha;cases c with
    | nil=>cases hc
    | cons cv c=>
     have h0:=ha 0 f cv rfl rfl;have h1:=ih c (by simpa using hc) (fun i f cv h1 h2=>ha (i+1) f cv h1 h2);have h2:F.fz H (k+3) cv=some (mG (f.code.map aK)):=h0.fzN (Za aK H (k+2) (fun a=>Jb H k a) _) (Uk _);have h3:F.fz H (k+4) (wZ f cv)=some (mV f):=by
      rw[wZ,Av];simp only[fP,List.mapM_nil,h2];rfl
     rw[List.zipWith_cons_cons,fP,h3,h1];rfl
  exact key fs cvs h.hl h.hc
 ·exact eH mV 4 (fun _=>rfl) fs
end
section
open Go Go.RowKit
theorem FW.scope2 {E:Env}{T:List V}{H:aA}{Q:Ex→List V→aA→Prop}{a b r:Code}{l n:Nat}(J:Nat→List V→aA→Prop)(ha:findLabel a l=none)(hb:findLabel b l=none)
 (h0:FW E a (fM (fun T H=>FW E b (fM (J n) (mU l (fun _ _ _=>False) 0 Q)) T H) (mU l (fun _ _ _=>False) 0 Q)) T H)
 (pass:∀ n T H,J n T H→FW E r (mU l J n Q) T H):FW E (.scope (.seq a (.seq b (.seq (.label l) r)))) Q T H:=by
 have hf:findLabel (.seq a (.seq b (.seq (.label l) r))) l=some (.seq .skip r):=by simp[findLabel,ha,hb]
 have back:∀ n T H,J n T H→FW E r (fun e T' H'=>match e with | .goto l'=>(∃ r',findLabel (.seq a (.seq b (.seq (.label l) r))) l'=some r')∧∃ m,m < n∧(l'=l∧∃ k,k≤m∧J k T' H')|e=>Q e T' H') T H:=by
  intro n T H hJ;refine FW.mono (pass n T H hJ) ?_;intro e T' H' h;cases e<;>try exact h
  obtain⟨rfl,m,hm,hJ'⟩:=h;exact⟨⟨_,hf⟩,m,hm,rfl,m,Nat.le_refl _,hJ'⟩
 refine FW.scope (fun n l' T H=>l'=l∧∃ k,k≤n∧J k T H) (.inr ⟨n,?_⟩) ?_
 ·refine FW.seq (FW.mono h0 ?_);intro e T' H' h;cases e with
  | normal=>
   refine FW.seq (FW.mono h ?_);intro e T' H' h;cases e with
   | normal=>
    refine FW.seq (FW.label ?_);refine FW.mono (back n T' H' h) ?_;intro e T'' H'' h;cases e<;>try exact h
    obtain⟨h1,m,hm,rfl,k,hk,hJ'⟩:=h;exact⟨h1,rfl,k,by omega,hJ'⟩
   | goto l'=>obtain⟨_,m,hm,_⟩:=h;exact absurd hm (by omega)
   | exit id=>exact h
   | ret=>exact h
   | panic v=>exact h
  | goto l'=>obtain⟨_,m,hm,_⟩:=h;exact absurd hm (by omega)
  | exit id=>exact h
  | ret=>exact h
  | panic v=>exact h
 ·rintro n' l' r' T' H' hfl ⟨rfl,k,hk,hJ⟩;rw[hf]at hfl;cases hfl;refine FW.seq (aH ?_);refine FW.mono (back k T' H' hJ) ?_;intro e T'' H'' h;cases e<;>try exact h
  obtain⟨h1,m,hm,rfl,j,hj,hJ'⟩:=h;exact⟨h1,m,by omega,rfl,j,hj,hJ'⟩
theorem Xz {l:List Fun}(h:bW l=true):mG (l.map mV) = .imm (l.map bL):=by
 simp only[bW,Bool.and_eq_true,eK,decide_eq_true_eq,List.all_eq_true]at h;obtain⟨h1,h2,h3⟩:=h;have hne:l≠[]:=by rintro rfl;simp at h2
 unfold mG;rw[if_neg (by simpa using hne)];congr 1;refine List.map_congr_left fun f hf=>?_;have:=h1 f hf;simp only[gH,Bool.and_eq_true,eK,decide_eq_true_eq]at this;have hc:f.code≠[]:=by intro e;rw[e]at this;simp at this
 simp only[mV,bL,mG];rw[if_neg (by simpa using hc)]
theorem Sx (l:List Fun):wkDL [mG (l.map mV)]=[.imm (l.map bL)]:=by
 have h1:∀ m:List Ins,wkDL (m.map aK)=m.map aK:=by
  intro m;induction m with
  | nil=>rfl
  | cons x m ih=>simp only[List.map_cons,wkDL,ih];rfl
 have h2:∀ f,wkD (mV f)=bL f:=by
  intro f;obtain⟨a,b,c,code⟩:=f;cases code with
  | nil=>rfl
  | cons x m=>
   have:=h1 (x::m);simp only[mV,bL,mG,List.map_cons,List.isEmpty_cons,Bool.false_eq_true,if_false,wkD,wkDL,i64]at this ⊢;rw[this]
 have h3:wkDL (l.map mV)=l.map bL:=by
  induction l with
  | nil=>rfl
  | cons f l ih=>simp only[List.map_cons,wkDL,ih,h2]
 cases l with
 | nil=>rfl
 | cons f l=>
  simp only[mG,List.map_cons,List.isEmpty_cons,Bool.false_eq_true,if_false,wkDL,wkD]at h3 ⊢;rw[h3]
variable {g:Gl}
theorem aIy (g:Gl)(l:List Fun)(hl:l.length≤16)(hc:∀ f∈l,f.code.length≤200):PC P0 g 76 [mG (l.map mV)] (.ret (.bool (bW l))):=
 (aFk g l (by omega) (fun f hf=>by have:=hc f hf;omega)).wkDA (Sx l)
set_option maxHeartbeats 1000000 in
theorem aSb (hg:GlOk g)(s:List UInt8)(hs:s.length≤1048576):PC P0 g 23 [.str s] (.ret (oS (lR (s.length+1) s [] 0))):=by
 obtain⟨R,hR⟩:∃ R,R=lR (s.length+1) s [] 0:=⟨_,rfl⟩;rw[←hR];refine eC Tryz.func23 Tryz.ntmps23 Tryz.results23 rfl ?_;simp only[ZZ,simprocAttr,i64];refine rg fun K hK=>?_;simp only[ZZ,simprocAttr,i64];apply hK;try clear hK K
 refine FW.scope2 (n:=s.length) (fun m T' H'=>∃ s' fs x pv cvs n k,m=s'.length∧T'.length=37∧gt T' 0 = .str s'∧gt T' 5 = .ptr 0 0 0∧gt T' 6 = .int .i64 n∧0≤n∧n+s'.length≤1048576∧RdH H' 0 x pv cvs fs∧fs.length≤16∧(∀ f∈fs,f.code.length≤200)∧s'.length < k∧R=lR k s' fs n) rfl rfl ?_ ?_
 ·refine FW.last fun K hK=>FW.region (xA _) ?_;simp only[ZZ,simprocAttr,i64,WG];apply hK;try clear hK K
  simp only[WX];refine FW.last fun K hK=>FW.region (xA _) ?_;simp only[ZZ,simprocAttr,i64,WG];apply hK;try clear hK K
  simp only[WX];refine⟨s,[],_,_,[],0,s.length+1,rfl,rfl,rfl,rfl,rfl,by omega,by omega,⟨rfl,rfl,⟨fun c hc=>absurd hc (by simp),Nat.zero_le _,.inl ⟨rfl,rfl⟩⟩,rfl,fun i f cv h=>by simp at h,List.Pairwise.nil⟩,by simp,by simp,by omega,hR⟩
 ·clear hR hs;rintro m T' H' ⟨s',fs,x,pv,cvs,n,k,rfl,hT,e0,e5,e6,hn0,hn,hRd,hf,hcl,hk,hR⟩;obtain⟨k,rfl⟩:∃ j,k=j+1:=⟨k - 1,by omega⟩;rw[eW 37 T' hT];simp only[show List.range 37=[0,1,2,3,4,5,6,7,8,9,10,11,12,13,14,15,16,17,18,19,20,21,22,23,24,25,26,27,28,29,30,31,32,33,34,35,36]from rfl,List.map_cons,List.map_nil,e0,e5,e6];have hcl':=aAq s';simp only[lR]at hR;generalize hcut:Lib.cut s' [10]=c at hR hcl';obtain⟨text,rest,more⟩:=c;have p75:=aIz hg s' [10] (by omega);rw[hcut]at p75;simp only at hR hcl' p75;refine rg fun K hK=>?_;simp only[ZZ,simprocAttr,i64,WG];refine mt p75 Tryz.func75 rfl ⟨⟨rfl,rfl⟩,rfl⟩ rfl ?_;simp only[ZZ,simprocAttr,i64,WG];apply hK;try clear hK K
  refine aF fun K1 hK1=>?_;cases more with
  | false=>
   simp only[Bool.false_eq_true,if_false]at hR;have hr:=hRd.hr;have hrl:=aE hr;have hx:=hRd.hx;have hz:=hRd.fz 3;have hz7:=hRd.fz 2;refine rg fun K hK=>?_;simp only[ZZ,simprocAttr,i64,WG];apply hK;try clear hK K
   apply aB rfl;refine aF fun K2 hK2=>?_;cases htx:text == []with
   | false=>
    have htx':text != []:=by simpa using htx
    rw[htx',Bool.true_or,if_pos rfl]at hR;refine rg fun K hK=>?_;simp only[ZZ,simprocAttr,i64,WG,htx,htx'];apply hK;try clear hK K
    apply aB rfl;refine rg fun K hK=>?_;simp only[ZZ,simprocAttr,i64,WG];apply hK;try clear hK K
    apply aC;simp only[ZZ,simprocAttr,i64,WG,hR,oS]
   | true=>
    have htx':(text != [])=false:=by simp only[bne,htx];rfl
    refine rg fun K hK=>?_;simp only[ZZ,simprocAttr,i64,WG,htx,htx',WH,hr,hrl,hx,List.getElem?_cons_zero];refine mt (aIy g fs hf hcl) Tryz.func76 rfl ⟨⟨rfl,rfl⟩,rfl⟩ (by simp only[fP,List.mapM_nil,hz];rfl) ?_;cases hpm:bW fs with
    | false=>
     rw[htx',hpm]at hR;simp only[ZZ,simprocAttr,i64,WG,htx,htx'];apply hK;try clear hK K
     apply aB rfl;refine rg fun K hK=>?_;simp only[ZZ,simprocAttr,i64,WG];apply hK;try clear hK K
     apply aC;simp only[ZZ,simprocAttr,i64,WG,hR,oS]
    | true=>
     rw[htx',hpm]at hR;simp only[ZZ,simprocAttr,i64,WG,htx,htx'];apply hK;try clear hK K
     apply aD rfl;apply aH;simp only[WX];apply hK2;refine rg fun K hK=>?_;simp only[ZZ,simprocAttr,i64,WG,WH,hr,hrl,hx,List.getElem?_cons_zero];apply hK;try clear hK K
     rw[Xz hpm]at hz7;apply aC;simp only[ZZ,simprocAttr,i64,WG,hR,oS,hz7]
  | true=>
   simp only[if_true]at hR;have hlt:=hcl'.2 rfl;refine rg fun K hK=>?_;simp only[ZZ,simprocAttr,i64,WG];apply hK;try clear hK K
   apply aD rfl;apply aH;simp only[WX];apply hK1;refine aF fun K1 hK1=>?_;refine rg fun K hK=>?_;simp only[ZZ,simprocAttr,i64,WG];refine aTf hg text (by have:=hcl'.1;omega) hRd hf hcl ?_;intro H2 h2;cases hrd:sW fs text with
   | none=>
    rw[hrd]at hR;simp only at hR;simp only[ZZ,simprocAttr,i64,WG];apply hK;try clear hK K
    apply aB rfl;refine rg fun K hK=>?_;simp only[ZZ,simprocAttr,i64,WG];apply hK;try clear hK K
    apply aC;simp only[ZZ,simprocAttr,i64,WG,hR,oS]
   | some fs'=>
    rw[hrd]at hR;simp only at hR;obtain⟨x',pv',cvs',hR2⟩:=h2 fs' hrd;obtain⟨b1,b2⟩:=He hrd hf hcl;have w1:IntKind.i64.wrap (n+1)=n+1:=IntWalk.i64_in _ (by omega);simp only[ZZ,simprocAttr,i64,WG];apply hK;try clear hK K
    apply aD rfl;apply aH;simp only[WX];apply hK1;refine rg fun K hK=>?_;simp only[ZZ,simprocAttr,i64,WG];apply hK;try clear hK K
    refine rg fun K hK=>?_;simp only[ZZ,simprocAttr,i64,WG,w1];apply hK;try clear hK K
    apply nY;refine⟨rfl,rest.length,hlt,rest,fs',x',pv',cvs',n+1,k,rfl,rfl,rfl,rfl,rfl,by omega,by omega,hR2,b1,b2,by omega,hR⟩
end
section
open Go Go.RowKit
structure St where (text:List UInt8) (args:List Val) (s workers:Int) (l:Lim)
def eSt (x:St):V:=.agg [.str x.text,.imm (x.args.map eVal),i64 x.s,i64 x.workers,i64 x.l.fuel,i64 x.l.frames,i64 x.l.ring]
def aBj (x:St):Option (List Fun)×Int:=lR (x.text.length+1) x.text [] 0
def aBk (x:St)(lim:Int):Option (List Fun):=match(aBj x).1 with
 | none=>none
 | some fs=>if ¬((x.text.length:Int) > 1500)∧¬((x.args.length:Int) > 40)∧¬(x.l.fuel > lim)∧¬(x.l.frames > 30)∧¬(x.l.ring > 60)∧¬(x.workers > 64)∧mJ fs 300=true then some fs else none
def zW:V:=.agg [.nils,i64 0,i64 0,i64 0,.nils,.nils,i64 0,.nils,.nils,i64 0,i64 0,i64 0,i64 0,i64 0,i64 0,i64 0,i64 0,i64 0,i64 0]
def aBh (x:St)(lim:Int):V:=match aBk x lim with
 | none => .tup [.nils,zW,.bool false]
 | some fs => .tup [.imm (fs.map bL),(if eV fs x.args x.s x.workers x.l then hU (eD fs x.args x.s x.workers x.l)else hU Tt),.bool (eV fs x.args x.s x.workers x.l)]
theorem yV:∀(k:Nat)(s:List UInt8)(fs:List Fun)(n:Int),fs.length≤16→(∀ f∈fs,f.code.length≤200)→∀ fs',(lR k s fs n).1=some fs'→fs'.length≤16∧(∀ f∈fs',f.code.length≤200)∧bW fs'=true
 | 0,_,_,_,_,_,_,h=>by cases h
 | k+1,s,fs,n,h1,h2,fs',h=>by
  unfold lR at h;split at h
  ·cases hr:sW fs (Lib.cut s [10]).1 with
   | none=>rw[hr]at h;cases h
   | some f2=>
    rw[hr]at h;obtain⟨b1,b2⟩:=He hr h1 h2;exact yV k _ f2 _ b1 b2 fs' h
  ·split at h
   ·cases h
   ·rename_i hn;cases h;refine⟨h1,h2,?_⟩;simp only[Bool.or_eq_true,not_or]at hn;simpa using hn.2
theorem aBi {x:St}{fs:List Fun}(h:(aBj x).1=some fs):fs.length≤16∧(∀ f∈fs,f.code.length≤200)∧bW fs=true:=yV _ _ _ _ (by simp) (by simp) _ h
variable {g:Gl}
set_option maxHeartbeats 2000000 in
theorem pc7 (hg:GlOk g)(x:St)(lim:Int)(hs:x.text.length≤1048576)(ha:x.args.length≤4294967296):PC P0 g 7 [eSt x,.int .i64 lim] (.ret (aBh x lim)):=by
 have p23:=aSb hg x.text hs;rw[show lR (x.text.length+1) x.text [] 0=aBj x from rfl]at p23;obtain⟨R,hR⟩:∃ R,aBj x=R:=⟨_,rfl⟩;have hV:aBh x lim=match(match R.1 with
  | none=>none
  | some fs=>if ¬((x.text.length:Int) > 1500)∧¬((x.args.length:Int) > 40)∧¬(x.l.fuel > lim)∧¬(x.l.frames > 30)∧¬(x.l.ring > 60)∧¬(x.workers > 64)∧mJ fs 300=true then some fs else none)with
  | none => .tup [.nils,zW,.bool false]
  | some fs => .tup [.imm (fs.map bL),(if eV fs x.args x.s x.workers x.l then hU (eD fs x.args x.s x.workers x.l)else hU Tt),.bool (eV fs x.args x.s x.workers x.l)]:=by rw[←hR];rfl
 rw[hR]at p23;have hbd:=@aBi x;rw[hR]at hbd;clear hR;obtain⟨text,args,s,workers,⟨fuel,frames,ring⟩⟩:=x;simp only at hV hs ha p23;generalize aBh ⟨text,args,s,workers,⟨fuel,frames,ring⟩⟩ lim=RV at hV;refine eC Tryz.func7 Tryz.ntmps7 Tryz.results7 rfl ?_;simp only[ZZ,simprocAttr,i64,eSt];refine rg fun K hK=>?_;simp only[ZZ,simprocAttr,i64,eSt];apply hK;try clear hK K
 refine rg fun K hK=>?_;simp only[ZZ,simprocAttr,i64,eSt];refine mt p23 Tryz.func23 rfl ⟨⟨rfl,rfl⟩,rfl⟩ rfl ?_;obtain⟨r,n⟩:=R;cases r with
 | none=>
  simp only[oS]at hV ⊢;simp only[ZZ,simprocAttr,i64,eSt];apply hK;try clear hK K
  refine aF fun K1 hK1=>?_;by_cases h1:(1500:Int) < text.length
  ·refine rg fun K hK=>?_;simp only[ZZ,simprocAttr,i64,eSt,h1];apply hK;try clear hK K
   apply aB rfl;refine rg fun K hK=>?_;simp only[ZZ,simprocAttr,i64,eSt];apply hK;try clear hK K
   apply aC;simp only[ZZ,simprocAttr,i64,eSt,hV,zW]
  by_cases h2:(40:Int) < args.length
  ·refine rg fun K hK=>?_;simp only[ZZ,simprocAttr,i64,eSt,h1,h2];apply hK;try clear hK K
   apply aB rfl;refine rg fun K hK=>?_;simp only[ZZ,simprocAttr,i64,eSt];apply hK;try clear hK K
   apply aC;simp only[ZZ,simprocAttr,i64,eSt,hV,zW]
  by_cases h3:lim < fuel
  ·refine rg fun K hK=>?_;simp only[ZZ,simprocAttr,i64,eSt,h1,h2,h3];apply hK;try clear hK K
   apply aB rfl;refine rg fun K hK=>?_;simp only[ZZ,simprocAttr,i64,eSt];apply hK;try clear hK K
   apply aC;simp only[ZZ,simprocAttr,i64,eSt,hV,zW]
  by_cases h4:(30:Int) < frames
  ·refine rg fun K hK=>?_;simp only[ZZ,simprocAttr,i64,eSt,h1,h2,h3,h4];apply hK;try clear hK K
   apply aB rfl;refine rg fun K hK=>?_;simp only[ZZ,simprocAttr,i64,eSt];apply hK;try clear hK K
   apply aC;simp only[ZZ,simprocAttr,i64,eSt,hV,zW]
  by_cases h5:(60:Int) < ring
  ·refine rg fun K hK=>?_;simp only[ZZ,simprocAttr,i64,eSt,h1,h2,h3,h4,h5];apply hK;try clear hK K
   apply aB rfl;refine rg fun K hK=>?_;simp only[ZZ,simprocAttr,i64,eSt];apply hK;try clear hK K
   apply aC;simp only[ZZ,simprocAttr,i64,eSt,hV,zW]
  by_cases h6:(64:Int) < workers
  ·refine rg fun K hK=>?_;simp only[ZZ,simprocAttr,i64,eSt,h1,h2,h3,h4,h5,h6];apply hK;try clear hK K
   apply aB rfl;refine rg fun K hK=>?_;simp only[ZZ,simprocAttr,i64,eSt];apply hK;try clear hK K
   apply aC;simp only[ZZ,simprocAttr,i64,eSt,hV,zW]
  refine rg fun K hK=>?_;simp only[ZZ,simprocAttr,i64,eSt,h1,h2,h3,h4,h5,h6];apply hK;try clear hK K
  apply aB rfl;refine rg fun K hK=>?_;simp only[ZZ,simprocAttr,i64,eSt];apply hK;try clear hK K
  apply aC;simp only[ZZ,simprocAttr,i64,eSt,hV,zW]
 | some fs=>
  simp only[oS]at hV ⊢;obtain⟨b1,b2,b3⟩:=hbd rfl;simp only[ZZ,simprocAttr,i64,eSt];apply hK;try clear hK K
  have hVb:¬(¬((text.length:Int) > 1500)∧¬((args.length:Int) > 40)∧¬(fuel > lim)∧¬(frames > 30)∧¬(ring > 60)∧¬(workers > 64)∧mJ fs 300=true)→RV = .tup [.nils,zW,.bool false]:=fun h=>by rw[hV,if_neg h]
  refine aF fun K1 hK1=>?_;by_cases h1:(1500:Int) < text.length
  ·refine rg fun K hK=>?_;simp only[ZZ,simprocAttr,i64,eSt,h1];apply hK;try clear hK K
   apply aB rfl;refine rg fun K hK=>?_;simp only[ZZ,simprocAttr,i64,eSt];apply hK;try clear hK K
   apply aC;simp only[ZZ,simprocAttr,i64,eSt,hVb (fun h=>h.1 h1),zW]
  by_cases h2:(40:Int) < args.length
  ·refine rg fun K hK=>?_;simp only[ZZ,simprocAttr,i64,eSt,h1,h2];apply hK;try clear hK K
   apply aB rfl;refine rg fun K hK=>?_;simp only[ZZ,simprocAttr,i64,eSt];apply hK;try clear hK K
   apply aC;simp only[ZZ,simprocAttr,i64,eSt,hVb (fun h=>h.2.1 h2),zW]
  by_cases h3:lim < fuel
  ·refine rg fun K hK=>?_;simp only[ZZ,simprocAttr,i64,eSt,h1,h2,h3];apply hK;try clear hK K
   apply aB rfl;refine rg fun K hK=>?_;simp only[ZZ,simprocAttr,i64,eSt];apply hK;try clear hK K
   apply aC;simp only[ZZ,simprocAttr,i64,eSt,hVb (fun h=>h.2.2.1 h3),zW]
  by_cases h4:(30:Int) < frames
  ·refine rg fun K hK=>?_;simp only[ZZ,simprocAttr,i64,eSt,h1,h2,h3,h4];apply hK;try clear hK K
   apply aB rfl;refine rg fun K hK=>?_;simp only[ZZ,simprocAttr,i64,eSt];apply hK;try clear hK K
   apply aC;simp only[ZZ,simprocAttr,i64,eSt,hVb (fun h=>h.2.2.2.1 h4),zW]
  by_cases h5:(60:Int) < ring
  ·refine rg fun K hK=>?_;simp only[ZZ,simprocAttr,i64,eSt,h1,h2,h3,h4,h5];apply hK;try clear hK K
   apply aB rfl;refine rg fun K hK=>?_;simp only[ZZ,simprocAttr,i64,eSt];apply hK;try clear hK K
   apply aC;simp only[ZZ,simprocAttr,i64,eSt,hVb (fun h=>h.2.2.2.2.1 h5),zW]
  by_cases h6:(64:Int) < workers
  ·refine rg fun K hK=>?_;simp only[ZZ,simprocAttr,i64,eSt,h1,h2,h3,h4,h5,h6];apply hK;try clear hK K
   apply aB rfl;refine rg fun K hK=>?_;simp only[ZZ,simprocAttr,i64,eSt];apply hK;try clear hK K
   apply aC;simp only[ZZ,simprocAttr,i64,eSt,hVb (fun h=>h.2.2.2.2.2.1 h6),zW]
  refine rg fun K hK=>?_;simp only[ZZ,simprocAttr,i64,eSt,h1,h2,h3,h4,h5,h6];refine mt (aSa g fs 300 (by omega) (fun f hf=>by have:=b2 f hf;omega)) Tryz.func24 rfl ⟨⟨rfl,rfl⟩,rfl⟩ rfl ?_;cases hsm:mJ fs 300 with
  | false=>
   simp only[ZZ,simprocAttr,i64,eSt];apply hK;try clear hK K
   apply aB rfl;refine rg fun K hK=>?_;simp only[ZZ,simprocAttr,i64,eSt];apply hK;try clear hK K
   apply aC;simp only[ZZ,simprocAttr,i64,eSt,hVb (fun h=>by rw[hsm]at h;exact absurd h.2.2.2.2.2.2 (by decide)),zW]
  | true=>
   rw[if_pos ⟨h1,h2,h3,h4,h5,h6,hsm⟩]at hV;simp only at hV;simp only[ZZ,simprocAttr,i64,eSt];apply hK;try clear hK K
   apply aD rfl;apply aH;simp only[WX];apply hK1;refine rg fun K hK=>?_;simp only[ZZ,simprocAttr,i64,eSt];refine mt (aJu g fs args s workers ⟨fuel,frames,ring⟩ (by omega) (fun f hf=>by have:=b2 f hf;omega) ha) Tryz.func25 rfl ⟨⟨rfl,rfl⟩,rfl⟩ rfl ?_;cases hnk:eV fs args s workers ⟨fuel,frames,ring⟩with
   | false=>
    simp only[hnk,Bool.false_eq_true,if_false]at hV ⊢;generalize Tt=w0 at hV ⊢;simp only[ZZ,simprocAttr,i64,eSt,hU,kY];apply hK;try clear hK K
    refine pr [0,2,3,4,1,5,6] [] [2] (by kernel_rfl) fun K hK=>?_;simp only[ZZ,simprocAttr,i64,eSt,hU,kY,fL];apply hK;try clear hK K
    apply aC;simp only[ZZ,simprocAttr,i64,eSt,hV,hU,kY]
   | true=>
    simp only[hnk,if_true]at hV ⊢;generalize eD fs args s workers ⟨fuel,frames,ring⟩=w0 at hV ⊢;simp only[ZZ,simprocAttr,i64,eSt,hU,kY];apply hK;try clear hK K
    refine pr [0,2,3,4,1,5,6] [] [2] (by kernel_rfl) fun K hK=>?_;simp only[ZZ,simprocAttr,i64,eSt,hU,kY,fL];apply hK;try clear hK K
    apply aC;simp only[ZZ,simprocAttr,i64,eSt,hV,hU,kY]
end
section
open Go Go.RowKit
mutual
def uW (n:Nat):V→Bool
 | .ptr b _ _=>Nat.blt b n
 | .sl b _ _=>Nat.blt b n
 | .fn _ p c=>lowL n p && lowL n c
 | .iface _ v=>uW n v
 | .agg l=>lowL n l
 | .tup l=>lowL n l
 | .mp b=>Nat.blt b n
 | _=>true
def lowL (n:Nat):List V→Bool
 | []=>true
 | v::l=>uW n v && lowL n l
end
def aLb (n:Nat):Blk→Bool
 | .row _ es _=>lowL n es
 | _=>true
def Sa (n:Nat):aA→Bool
 | []=>true
 | o::H=>aLb n o && Sa n H
theorem uX {n:Nat}:∀{l:List V},lowL n l=true ↔ ∀ v∈l,uW n v=true
 | []=>by simp[lowL]
 | v::l=>by simp[lowL,uX (l:=l)]
theorem Md {n:Nat}:∀{l:aA},Sa n l=true ↔ ∀ v∈l,aLb n v=true
 | []=>by simp[Sa]
 | v::l=>by simp[Sa,Md (l:=l)]
theorem Nm {n:Nat}{v:V}(h:uW n v=true):lowL n v.cells=true:=by
 cases v<;>first|exact h|(simp only[V.cells,lowL,Bool.and_true];exact h)
theorem Bu {n:Nat}{l:List V}(h:lowL n l=true):lowL n (l.flatMap V.cells)=true:=by
 rw[uX]at h ⊢;intro v hv;obtain⟨e,he,hv⟩:=List.mem_flatMap.1 hv;exact uX.1 (Nm (h e he)) v hv
def fK.upto (γ:fK)(n:Nat):fK:=fun b=>if b < n then γ b else none
theorem fK.upto_lt {γ:fK}{n b:Nat}(h:Nat.blt b n=true):γ.upto n b=γ b:=if_pos (Nat.le_of_ble_eq_true h)
variable {w w':World}{im im':Nat→Prop}{γ γ':fK}{B0 n:Nat}{H:aA}
mutual
theorem Rv.low:∀{v:V}{x:Value},Rv w im γ v x→uW n v=true→Rv w im (γ.upto n) v x
 | _,_,.tree v x h,_ => .tree v x h
 | _,_,.ptr b i j p h,hl => .ptr b i j p (by rw[fK.upto_lt hl];exact h)
 | _,_,.ip e j B O cs hB hc h1 h,_ => .ip e j B O cs hB hc h1 h
 | _,_,.sl b i k cap p h hcap hN,hl => .sl b i k cap p (by rw[fK.upto_lt hl];exact h) hcap hN
 | _,_,.sl0 b i a hA,_ => .sl0 b i a hA
 | _,_,.fn f p c ps cs hp hc,hl=>by
  simp only[uW,Bool.and_eq_true]at hl;exact .fn f p c ps cs (RvL.low hp hl.1) (RvL.low hc hl.2)
 | _,_,.iface t v x h,hl => .iface t v x (Rv.low h hl)
 | _,_,.agg cs xs h1 h,hl => .agg cs xs h1 (RvL.low h hl)
 | _,_,.tup cs xs h,hl => .tup cs xs (RvL.low h hl)
 | _,_,.glob g,_ => .glob g
 | _,_,.mp b p h,hl => .mp b p (by rw[fK.upto_lt hl];exact h)
theorem RvL.low:∀{v:List V}{x:List Value},RvL w im γ v x→lowL n v=true→RvL w im (γ.upto n) v x
 | _,_,.nil,_ => .nil
 | _,_,.cons v x l m h t,hl=>by
  simp only[lowL,Bool.and_eq_true]at hl;exact .cons v x l m (Rv.low h hl.1) (RvL.low t hl.2)
end
theorem RelH.take (hR:RelH w im γ B0 H)(hn:n≤H.length)(hl:Sa n (H.take n)=true):RelH w im (γ.upto n) B0 (H.take n):=by
 have get:∀ b o,(H.take n)[b]?=some o→b < n∧H[b]?=some o∧γ.upto n b=γ b:=fun b o h=>by
  have hb:b < n:=by
   have:=(List.getElem?_eq_some_iff.1 h).1;simp at this;omega
  rw[List.getElem?_take_of_lt hb]at h;exact⟨hb,h,if_pos hb⟩
 refine⟨fun b s es ro h=>?_,fun b b' s es ro s' es' ro' p p' hne h h' hp hp'=>?_,hR.imlt,fun b hb=>?_,hR.size,⟨fun b o h ho=>?_,fun b b' o o' p p' X hne h ho h' hp hp' hX=>?_⟩⟩
 ·obtain⟨hb,h1,h2⟩:=get _ _ h;rw[h2];rcases hR.row _ _ _ _ h1 with ⟨p,hp,hr⟩|hx
  ·refine .inl ⟨p,hp,hr.hs,hr.hB,hr.hi,hr.hw,hr.hl,?_⟩;obtain⟨pre,vs,post,ty,fz,k1,k2,k3,k4,k5,k6⟩:=hr.hm;refine⟨pre,vs,post,ty,fz,k1,k2,k3.low (Bu ?_),k4,k5,k6⟩;exact Md.1 hl _ (List.mem_of_getElem? h)
  ·exact .inr hx
 ·obtain⟨_,h1,h2⟩:=get _ _ h;obtain⟨_,h3,h4⟩:=get _ _ h';rw[h2]at hp;rw[h4]at hp';exact hR.inj b b' s es ro s' es' ro' p p' hne h1 h3 hp hp'
 ·rw[List.length_take]at hb;exact if_neg (by omega)
 ·obtain⟨_,h1,h2⟩:=get _ _ h;rw[h2];exact hR.oh.obj b o h1 ho
 ·obtain⟨_,h1,h2⟩:=get _ _ h;obtain⟨_,h3,h4⟩:=get _ _ h';rw[h2]at hp;rw[h4]at hp';exact hR.oh.sep b b' o o' p p' X hne h1 ho h3 hp hp' hX
variable {E:Env}
theorem MC.of (hE:EnvOk E){f:FuncId}{fn:Func}{c:Code}{args:List V}{v:V}{H H1:aA}(hf:E.P.funcs[f]?=some fn)(hb:fn.body=some c)
 (h:FW E c (fun e T' H'=>(e = .normal∨e = .ret)∧jW E.tab fn.results.toList T' H'=some v∧H.length≤H'.length∧Sa H.length (H'.take H.length)=true∧H'.take H.length=H1) (args++List.replicate (fn.ntmps - args.length) undef) H)
 (hv:uW H.length v=true):MC E.P E.g f args H v H1:=by
 intro w im γ B0 xs hG hN hR hx;refine calls_of_wp hf hb ?_;have hlen:=hx.len;have htm:RvL w im γ (args++List.replicate (fn.ntmps - args.length) undef) ((⟨xs⟩:Array Value)++Array.replicate (fn.ntmps - (⟨xs⟩:Array Value).size) Go.undef).toList:=by
  have:(⟨xs⟩:Array Value).size=xs.length:=rfl;rw[this,hlen];simpa using hx.append (fC (n:=fn.ntmps - args.length))
 refine wp_mono (h [] B0 w im γ {tmps:=(⟨xs⟩:Array Value)++Array.replicate (fn.ntmps - (⟨xs⟩:Array Value).size) Go.undef,defers:=[]} ⟨htm,hR,rfl,hG,hN⟩) ?_;rintro e a' w' ⟨e',T',H',im',γ',⟨he,hr,hn,hl,rfl⟩,hex,hst,hg⟩;obtain⟨x,k1,k2⟩:=eN hE.tab hst hr;have post:∃ y im'' γ'',Ending.returned x = .returned y∧Rv w' im'' γ'' v y∧RelH w' im'' γ'' B0 (H'.take H.length)∧Keep w im γ w' im'' γ''∧Below B0 w w'∧∀ B,im'' B→im B∨B0≤B:=by
  refine⟨x,im',γ'.upto H.length,rfl,k2.low hv,hst.heap.take hn hl,⟨hg.keep.imm,fun b p hp=>?_⟩,hg.below,hg.new⟩;have hb:b < H.length:=by
   apply Classical.byContradiction;intro hc;rw[hR.fresh b (by omega)]at hp;cases hp
  rw[show γ'.upto H.length b=γ' b from if_pos hb];exact hg.keep.inj b p hp
 cases hex with
 | normal=>exact⟨hst.defers,x,k1,post⟩
 | ret=>exact⟨hst.defers,x,k1,post⟩
 | exit id=>rcases he with he|he<;>cases he
 | goto l=>rcases he with he|he<;>cases he
 | panic v x h=>rcases he with he|he<;>cases he
end
section
open Go Go.RowKit
section
variable {P:Program}
theorem Mk {w:World}{im:Nat→Prop}{γ:fK}{T:List V}{a:Go.Act}(h:RvL w im γ T a.tmps.toList):∀ caps:List Tmp,RvL w im γ (caps.map fun x=>ev T (.tmp x)) (caps.map fun x=>a.eval (.tmp x))
 | [] => .nil
 | x::l => .cons _ _ _ _ (aP h (.tmp x)) (Mk h l)
theorem Jl {E:Env}{B0:Nat}{w:World}{im:Nat→Prop}{γ:fK}{T:List V}{H:aA}{a:Go.Act}{id:Nat}{t:Tmp}{caps:List Tmp}{f:FuncId}{ty0 ty1:TypeId}{p0 p1:String}{af0 af1:Array Edge}{tys:Array TypeId}{Φ:Exit→Go.Act→World→Prop}
 (hS:StR E [] B0 w im γ T H a)
 (hk:∀(vs:List Value) a',RvL w im γ (caps.map fun x=>ev T (.tmp x)) vs→StR E [⟨.fn (.func f) vs.toArray,#[]⟩] B0 w im γ (put T (some t) (.fn f [] (caps.map fun x=>ev T (.tmp x)))) H a'→Φ .normal a' w)
 (htl:t < T.length) :
 (Code.region id #[⟨some t,.makeFunc (.func f) #[] (caps.map Operand.tmp).toArray,ty0,p0,af0,none⟩,⟨none,.defer ⟨.value (.tmp t),#[],tys⟩,ty1,p1,af1,none⟩] false).wp E.P Φ a w:=by
 have hx:=Mk hS.tmps caps;refine wp_region ?_;have hr:(execOp a.eval ⟨some t,.makeFunc (.func f) #[] (caps.map Operand.tmp).toArray,ty0,p0,af0,none⟩).run E.P w = .ok (.value (.func (.func f) #[] (caps.map fun x=>a.eval (.tmp x)).toArray)) w:=by
  simp[execOp,Instr.makeFunc,Function.comp_def]
 have hv:Rv w im γ (.fn f [] (caps.map fun x=>ev T (.tmp x))) (.func (.func f) #[] (caps.map fun x=>a.eval (.tmp x)).toArray):=
  .fn f [] _ [] (caps.map fun x=>a.eval (.tmp x)) .nil hx
 have h1:=hS.put hv (some t);have hg:=aP h1.tmps (.tmp t);have hgt:ev (put T (some t) (.fn f [] (caps.map fun x=>ev T (.tmp x)))) (.tmp t) = .fn f [] (caps.map fun x=>ev T (.tmp x)):=by
  show((T.set t _)[t]?).getD _=_;rw[List.getElem?_set_self htl];rfl
 rw[hgt]at hg;have hev:(a.put (some t) (.func (.func f) #[] (caps.map fun x=>a.eval (.tmp x)).toArray)).eval (.tmp t) = .func (.func f) #[] (caps.map fun x=>a.eval (.tmp x)).toArray:=by
  have hsz:t < a.tmps.size:=by have:=hS.tmps.len;rw[Array.length_toList]at this;rw[this];exact htl
  simp[Go.Act.eval,Go.Act.put,hsz]
 refine Or.inl ?_;show Oper.upon E.P _ _ _ _ ((execOp a.eval ⟨some t,.makeFunc (.func f) #[] (caps.map Operand.tmp).toArray,ty0,p0,af0,none⟩).run E.P w);rw[hr,Oper.upon_value];refine Or.inl ?_;have hr2:(execOp (a.put (some t) (.func (.func f) #[] (caps.map fun x=>a.eval (.tmp x)).toArray)).eval ⟨none,.defer ⟨.value (.tmp t),#[],tys⟩,ty1,p1,af1,none⟩).run E.P w = .ok (.defer ⟨.fn (.func f) (caps.map fun x=>a.eval (.tmp x)).toArray,#[]⟩) w:=by
  simp[execOp,resolve,Deferred.ofValue,hev]
 show Oper.upon _ _ _ _ _ ((execOp (a.put (some t) (.func (.func f) #[] (caps.map fun x=>a.eval (.tmp x)).toArray)).eval ⟨none,.defer ⟨.value (.tmp t),#[],tys⟩,ty1,p1,af1,none⟩).run E.P w);rw[hr2,Oper.upon_defer];exact hk _ _ hx ⟨h1.tmps,h1.heap,congrArg (List.cons _) h1.defers,h1.glob,h1.low⟩
theorem oH {E:Env}(hE:EnvOk E){w0 w:World}{im0 im:Nat→Prop}{γ0 γ:fK}{T:List V}{H:aA}{a:Go.Act}{fn fn2:Func}{f:FuncId}{r:Res}{vs:List Value}{x:Value}{ps:List V}{v:V}{u u2:FrameMode}{rest:Code}{id:Nat}{t tu:Tmp}{ty0 ty1:TypeId}{p0 p1:String}{af0 af1:Array Edge}{tys:Array TypeId}{m:Nat}
 (hst:StR E [⟨.fn (.func f) vs.toArray,#[]⟩] w0.heap.size w im γ T H a) (hg:Goes w0.heap.size w0 im0 γ0 w im γ) (hx:RvL w im γ ps vs) (hv:Rv w im γ v x)
 (hf:E.P.funcs[f]?=some fn2) (hn:fn2.ntmps=m+ps.length) (hrs:fn2.results = #[]) (hb:fn2.body=some (.seq (.region id #[⟨some t,.call ⟨.builtin .recover,#[],tys⟩,ty0,p0,af0,none⟩,⟨some tu,.assign (.tmp t),ty1,p1,af1,none⟩] false) rest)) (ht:t < m+ps.length)
 (hu:u ≠ .run) (hrec:∀(c0:Frame) cs,c0.mode=u→recoverD (c0::cs)=some (x,{c0 with mode:=u2} :: cs)∨(recoverD (c0::cs)=none∧x = .nilIface∧{c0 with mode:=u2}=c0)) (hse:settle u2 = .returning)
 (h:FW E rest (fun e T2 H2=>e = .normal∧dV E.tab fn.results.toList r .ret T H2) (put (put (ps++List.replicate m undef) (some t) v) (some tu) v) H) :
 Leaves E.P fn a.tmps (Ui w0 im0 r) a.defers u w:=by
 rw[hst.defers];refine leaves_cons (f:=f) (args:=vs.toArray) hu ?_ ?_
 ·have hnm:=hE.names f fn2 hf;show(callFunc f (#[]++vs.toArray)).run E.P w=_;simp[callFunc,hf,hnm,hb]
 refine callsD_of_wpS hf hb ?_;intro c0 cs hc0;have hS:StR E [] w0.heap.size w im γ (ps++List.replicate m undef) H {tmps:=(vs.toArray:Array Value)++Array.replicate (fn2.ntmps - (vs.toArray:Array Value).size) Go.undef,defers:=[]}:=by
  refine⟨?_,hst.heap,rfl,hst.glob,hst.low⟩;rw[hn];have hl:=hx.len;have:(m+ps.length) - (vs.toArray).size=m:=by simp[hl]
  rw[this];simpa using hx.append (fC (n:=m))
 refine wpS_seq (rZ hS hv (cs':={c0 with mode:=u2} :: cs) ?_ (by simp only[List.length_append,List.length_replicate];rw[Nat.add_comm];exact ht) ?_)
 ·rcases hrec c0 cs hc0 with e|⟨e,e2,e3⟩
  ·exact .inl e
  ·exact .inr ⟨e,e2,by rw[e3]⟩
 intro a1 hS1;refine wpS_of_wp ?_;refine wp_mono (h [] w0.heap.size w im γ a1 hS1) ?_;rintro e a' w' ⟨e',T',H',im',γ',⟨rfl,hq⟩,hex,hst',hg'⟩;cases hex;refine⟨hst'.defers,u2,rfl,?_⟩;obtain⟨x0,k1,k2⟩:=eN hE.tab hst' (fn:=fn2) (v:=.tup []) (by rw[hrs];rfl);refine⟨x0,k1,?_⟩;show Leaves E.P fn a.tmps (Ui w0 im0 r) [] (settle u2) w';rw[hse];have hback:StR E [⟨.fn (.func f) vs.toArray,#[]⟩] w0.heap.size w' im' γ' T H' a:=⟨hst.tmps.keep hg'.keep,hst'.heap,hst.defers,hst'.glob,hst'.low⟩;exact Ta hE hback (hg.trans hg') hq
def zI (E:Env)(fn:Func)(r:Res)(ps:List V)(rest:Code)(m:Nat)(t tu:Tmp):Ex→List V→aA→Prop
 | .ret,T,H=>FW E rest (fun e T2 H2=>e = .normal∧dV E.tab fn.results.toList r .ret T H2) (put (put (ps++List.replicate m undef) (some t) .nili) (some tu) .nili) H
 | .panic v,T,H=>FW E rest (fun e T2 H2=>e = .normal∧dV E.tab fn.results.toList r .ret T H2) (put (put (ps++List.replicate m undef) (some t) v) (some tu) v) H
 | _,_,_=>False
theorem Wq.deferL {E:Env}(hE:EnvOk E){w0:World}{im0:Nat→Prop}{γ0:fK}{fn fn2:Func}{r:Res}{T:List V}{H:aA}{id id2:Nat}{tf:Tmp}{caps:List Tmp}{f:FuncId}{ty0 ty1 ty2 ty3:TypeId}{p0 p1 p2 p3:String}{af0 af1 af2 af3:Array Edge}{tys tys2:Array TypeId}{B rest:Code}{m:Nat}{t tu:Tmp}
 (hf:E.P.funcs[f]?=some fn2) (hn:fn2.ntmps=m+caps.length) (hrs:fn2.results = #[]) (hb:fn2.body=some (.seq (.region id2 #[⟨some t,.call ⟨.builtin .recover,#[],tys2⟩,ty2,p2,af2,none⟩,⟨some tu,.assign (.tmp t),ty3,p3,af3,none⟩] false) rest)) (ht:t < m+caps.length) (htl:tf < T.length)
 (h:FW E B (zI E fn r (caps.map fun x=>ev T (.tmp x)) rest m t tu) (put T (some tf) (.fn f [] (caps.map fun x=>ev T (.tmp x)))) H) :
 Wq E w0 im0 γ0 fn r (.seq (.region id #[⟨some tf,.makeFunc (.func f) #[] (caps.map Operand.tmp).toArray,ty0,p0,af0,none⟩,⟨none,.defer ⟨.value (.tmp tf),#[],tys⟩,ty1,p1,af1,none⟩] false) B) T H:=by
 intro w im γ a hS hg;refine wp_seq (Jl hS ?_ htl);intro vs a1 hx hS1;refine wp_mono (h _ w0.heap.size w im γ a1 hS1) ?_;rintro e a' w' ⟨e',T',H',im',γ',hq,hex,hst,hg'⟩;have hg2:=hg.trans hg';cases hex with
 | normal=>exact hq.elim
 | ret=>
  refine oH hE hst hg2 (hx.keep hg'.keep) (v:=.nili) (x:=.nilIface) (u2:=.returning) (.tree _ _ .nili) hf (by simpa using hn) hrs hb (by simpa using ht) (by simp) ?_ rfl hq;intro c0 cs hc;refine .inr ⟨by simp[recoverD,hc],rfl,?_⟩;cases c0;simp at hc;subst hc;rfl
 | exit id=>exact hq.elim
 | goto l=>exact hq.elim
 | panic v x hv=>
  refine oH hE hst hg2 (hx.keep hg'.keep) (v:=v) (x:=x) (u2:=.panicking [{v:=x,recovered:=true}]) hv hf (by simpa using hn) hrs hb (by simpa using ht) (by simp) ?_ rfl hq;intro c0 cs hc;exact .inl (by simp[recoverD,hc])
end
end
section
open Go Go.RowKit
section
variable {E:Env}{rec:mC}{ops:Array Oper}{Q:Ex→List V→aA→Prop}{o oi oj:Oper}{T:List V}{H H':aA}{J:aA→Prop}
def nk (pl:List Nat)(i:Nat):Bool:=pl.contains (1000+i)
def Ik (E:Env)(rec:mC)(ops:Array Oper)(pl:List Nat)(J:aA→Prop)(Q:Ex→List V→aA→Prop)(i:Nat)(K:List V→aA→Prop)(T:List V)(H:aA):Prop:=
 eL E rec ops Q i (tG (match ops[i]? with|some o=>isS E o && nk pl i|none=>false) J K) T H∧∀ o,ops[i]?=some o→nZ E.tab J (pl.contains i) ops o T H
def wF (E:Env)(rec:mC)(ops:Array Oper)(pl:List Nat)(J:aA→Prop)(Q:Ex→List V→aA→Prop):Nat→Array Bool→List V→aA→Prop
 | 0,listed,T,H=>Region.ready .any ops listed=[]∧Q .normal T H
 | n+1,listed,T,H=>(Region.ready .any ops listed=[]→Q .normal T H)∧∀ i∈Region.ready .any ops listed,Ik E rec ops pl J Q i (wF E rec ops pl J Q n (listed.setIfInBounds i true)) T H
theorem zC (hm:dO rec)(hQ:hZ Q){pl:List Nat}:∀(n:Nat)(listed:Array Bool)(T:List V)(H:aA),wF E rec ops pl J Q n listed T H→xN E rec ops Q n listed T H
 | 0,_,_,_,h=>h
 | n+1,_,_,_,h=>⟨h.1,fun i hi=>bR hm hQ (fun T H h=>zC hm hQ n _ _ _ h.2) (h.2 i hi).1⟩
theorem We (hm:dO rec)(hQ:hZ Q){pl:List Nat}(hpl:∀ k o,ops[k]?=some o→pl.contains k=true→eU E.sp E.pcm E.cln E.tab o.op = .l){i:Nat}(hi:ops[i]?=some oi)(hci:eU E.sp E.pcm E.cln E.tab oi.op ≠ .s∧eU E.sp E.pcm E.cln E.tab oi.op ≠ .a)(S:Nat→Prop)
 (hS:∀ j oj,ops[j]?=some oj→j≠i→(∀ e∈oj.after,Region.binds .any e=true→S e.on)→S j){v:V}{ids:List Nat} :
 ∀(fuel:Nat)(listed:Array Bool)(T:List V)(H:aA),(∀ k,listed.getD k false=true→S k)→
  (∀ j oj,ops[j]?=some oj→j≠i→S j→listed.getD j true=false→oi.apart ops oj=true∧((eU E.sp E.pcm E.cln E.tab oi.op = .p∨eU E.sp E.pcm E.cln E.tab oj.op ≠ .s)∨(pl.contains i=true∧nk pl j=true)))→
  i∈Region.ready .any ops listed→gO E ops oi T H v ids []→(pl.contains i=true→bK ops T oi=some true→∀ H',J H'→bQ E.tab T H' oi.op = .val v H')→(nZ E.tab J (pl.contains i) ops oi T H)→wF E rec ops pl J Q fuel (listed.setIfInBounds i true) (put T oi.dst v) (bH H ids)→wF E rec ops pl J Q (fuel+1) listed T H:=by
 have hni:isS E oi=false:=by simp only[isS,beq_eq_false_iff_ne];exact hci.1
 intro fuel;induction fuel with
 | zero=>
  intro listed T H hl hok hr ho hpi hpj hf;refine⟨fun h=>(by rw[h]at hr;cases hr),fun j hj=>?_⟩;by_cases hji:j=i
  ·subst hji;refine⟨ho.go hi ⟨fun h=>?_,by simpa using hf⟩,fun o ho=>by rw[hi]at ho;cases ho;exact hpj⟩;simp only[hi,hni,Bool.false_and]at h;cases h
  ·have:=ready_mono hj hji;rw[hf.1]at this;cases this
 | succ fuel ih=>
  intro listed T H hl hok hr ho hpi hpii hf;refine⟨fun h=>(by rw[h]at hr;cases hr),fun j hj=>?_⟩;by_cases hji:j=i
  ·subst hji;refine⟨ho.go hi ⟨fun h=>?_,by simpa using hf⟩,fun o ho=>by rw[hi]at ho;cases ho;exact hpii⟩;simp only[hi,hni,Bool.false_and]at h;cases h
  ·obtain⟨h1,hp1⟩:=hf.2 j (ready_mono hj hji);obtain⟨hjun,oj,hoj,hall⟩:=mem_ready.1 hj;have hSj:S j:=hS j oj hoj hji fun e he hb=>hl _ (hall e he hb);obtain⟨ha,hc⟩:=hok j oj hoj hji hSj hjun;obtain⟨a1,a2,a3⟩:=Oper.apart_spec ha;have hpj:=(hp1 oj hoj).back (hpl j oj hoj) a1;simp only[hoj]at h1;have hsw:eL E rec ops Q j (fun T' H'=>(∃ u,T'=put T oj.dst u)∧gO E ops oi T' H' v ids []∧((isS E oj && nk pl j)=true→J H')∧wF E rec ops pl J Q fuel ((listed.setIfInBounds i true).setIfInBounds j true) (put T' oi.dst v) (bH H' ids)) T H:=by
    by_cases hsj:eU E.sp E.pcm E.cln E.tab oj.op = .s
    ·have hs:isS E oj=true:=by simp only[isS,hsj,beq_self_eq_true]
     rcases hc with (hc|hc)|hc
     ·obtain⟨-,hids,-⟩:=ho.any hc H;refine bR hm hQ ?_ (Hc hm hQ hoj ha hci (.inl hc) ho h1);rintro T' H' ⟨k1,k2,k3,k4⟩;refine⟨k1,k2,fun h=>?_,k4⟩;have:=k3 h;rw[hids]at this;exact this
     ·exact absurd hsj hc
     ·have hs':(isS E oj && nk pl j)=true:=by rw[hs,hc.2];rfl
      obtain⟨hc,-⟩:=hc;have hcl:eU E.sp E.pcm E.cln E.tab oi.op = .l:=hpl i oi hi hc;have h1':eL E rec ops Q j (fun T' H'=>J H'∧wF E rec ops pl J Q fuel ((listed.setIfInBounds i true).setIfInBounds j true) T' H') (put T oi.dst v) (bH H ids):=bR hm hQ (fun T' H' hh=>⟨hh.1 hs',hh.2⟩) h1;refine bR hm hQ ?_ (aCt hm hQ hoj ha hcl (hpi hc) ho h1');rintro T' H' ⟨k1,k2,k3,k4⟩;exact⟨k1,k2,fun _=>k3,k4⟩
    ·have hs:isS E oj=false:=by simp only[isS,beq_eq_false_iff_ne];exact hsj
     refine bR hm hQ ?_ (Hc hm hQ hoj ha hci (.inr hsj) ho h1);rintro T' H' ⟨k1,k2,k3,k4⟩;exact⟨k1,k2,(fun h=>by rw[hs]at h;cases h),k4⟩
   refine⟨?_,fun o ho'=>by rw[hoj]at ho';cases ho';exact hpj⟩;simp only[hoj];refine bR hm hQ ?_ hsw;rintro T' H' ⟨⟨u,rfl⟩,h4,h6,h5⟩;have hpi':pl.contains i=true→bK ops (put T oj.dst u) oi=some true→∀ H',J H'→bQ E.tab (put T oj.dst u) H' oi.op = .val v H':=fun hp hw H'' hJ=>by
    rw[iF a3];rw[dT a3]at hw;exact hpi hp hw H'' hJ
   refine⟨h6,ih (listed.setIfInBounds j true) _ H' ?_ ?_ (ready_mono hr (Ne.symm hji)) h4 hpi' ?_ ?_⟩
   ·intro k hk;by_cases hjk:j=k
    ·subst hjk;exact hSj
    ·rw[getD_set_ne false hjk]at hk;exact hl k hk
   ·intro k ok hk hki hsk hun;refine hok k ok hk hki hsk ?_;by_cases hjk:j=k
    ·subst hjk;exact hjun
    ·rw[getD_set_ne true hjk]at hun;exact hun
   ·intro hp hw;refine⟨v,?_,hpi' hp hw⟩;have hcl:eU E.sp E.pcm E.cln E.tab oi.op = .l:=hpl i oi hi hp;rcases h4 with ⟨h7,_⟩|⟨_,⟨_,g3⟩|⟨_,f,args,h8,_⟩|⟨_,f,args,h8,_⟩⟩
    ·rw[hw]at h7;cases h7
    ·simpa using g3
    ·rcases kL hcl (put T oj.dst u) H' with ⟨u',hu,_⟩|hu<;>rw[hu]at h8<;>cases h8
    ·rcases kL hcl (put T oj.dst u) H' with ⟨u',hu,_⟩|hu<;>rw[hu]at h8<;>cases h8
   ·rw[Array.setIfInBounds_comm _ _ hji];exact h5
def Lv (pl:List Nat)(sp:FuncId→Bool)(pcm:FuncId→Bool)(cln:FuncId→Option Nat)(tab:cR)(ops:Array Oper)(listed:Array Bool)(i:Nat):Bool:=
 match ops[i]? with
 | none=>false
 | some oi=>
  let S:=qK ops i ops.size (kC ops listed)
  let ci:=eU sp pcm cln tab oi.op
  (ci != .s && ci != .a) &&
  ((
   List.range ops.size).all fun j=>j == i || match ops[j]? with
   | none=>true
   | some oj=>(!(oj.after.all fun e => !Region.binds .any e || S.contains e.on) || S.contains j) && (!S.contains j || listed.getD j true || (oi.apart ops oj && ((ci == .p || eU sp pcm cln tab oj.op != .s) || (pl.contains i && nk pl j))))) &&
  ((List.range listed.size).all fun j => !listed.getD j false || S.contains j)
def Nb (pl:List Nat)(sp:FuncId→Bool)(pcm:FuncId→Bool)(cln:FuncId→Option Nat)(tab:cR)(ops:Array Oper):OT→Array Bool→Bool
 | .nil,listed=>(Region.ready .any ops listed).isEmpty
 | .one i t,listed=>decide (i < ops.size) && (Region.ready .any ops listed).contains i && (Region.ready .any ops listed == [i] || Lv pl sp pcm cln tab ops listed i) && Nb pl sp pcm cln tab ops t (listed.setIfInBounds i true)
 | .two i t j u,listed=>decide (i < ops.size) && decide (j < ops.size) && (t.len == u.len) && (Region.ready .any ops listed == [i,j] || Region.ready .any ops listed == [j,i]) && Nb pl sp pcm cln tab ops t (listed.setIfInBounds i true) && Nb pl sp pcm cln tab ops u (listed.setIfInBounds j true)
def yD (E:Env)(rec:mC)(l:List Oper)(J:aA→Prop)(Q:Ex→List V→aA→Prop)(K:List V→aA→Prop)(b c:Bool)(o:Oper)(T:List V)(H:aA):Prop:=
 nZ E.tab J b l.toArray o T H∧match bK l.toArray T o with
  | some true=>iZ E rec o T H (tG (isS E o && c) J K) Q
  | some false=>tG (isS E o && c) J K (put T o.dst undef) H
  | none=>False
def vX (E:Env)(rec:mC)(l:List Oper)(pl:List Nat)(J:aA→Prop)(Q:Ex→List V→aA→Prop):OT→List V→aA→Prop
 | .nil,T,H=>Q .normal T H
 | .one i t,T,H=>yD E rec l J Q (vX E rec l pl J Q t) (pl.contains i) (nk pl i) (fT l i) T H
 | .two i t j u,T,H=>yD E rec l J Q (vX E rec l pl J Q t) (pl.contains i) (nk pl i) (fT l i) T H∧yD E rec l J Q (vX E rec l pl J Q u) (pl.contains j) (nk pl j) (fT l j) T H
theorem Zn (hm:dO rec)(hQ:hZ Q){l:List Oper}{pl:List Nat}(hpl:∀ k o,l.toArray[k]?=some o→pl.contains k=true→eU E.sp E.pcm E.cln E.tab o.op = .l):∀(t:OT)(listed:Array Bool)(T:List V)(H:aA),Nb pl E.sp E.pcm E.cln E.tab l.toArray t listed=true→vX E rec l pl J Q t T H→wF E rec l.toArray pl J Q t.len listed T H:=by
 have step:∀(i:Nat)(K:List V→aA→Prop)(T:List V)(H:aA),i < l.length→yD E rec l J Q K (pl.contains i) (nk pl i) (fT l i) T H→Ik E rec l.toArray pl J Q i K T H:=by
  intro i K T H hi h;have ho:=nJ hi;refine⟨?_,fun o h1=>by rw[ho]at h1;cases h1;exact h.1⟩;unfold eL;simp only[ho];exact h.2
 have mono:∀(i:Nat)(K K':List V→aA→Prop)(T:List V)(H:aA),(∀ T H,K T H→K' T H)→Ik E rec l.toArray pl J Q i K T H→Ik E rec l.toArray pl J Q i K' T H:=fun i K K' T H hk h=>⟨bR hm hQ (fun T H h=>⟨h.1,hk _ _ h.2⟩) h.1,h.2⟩;intro t;induction t with
 | nil=>intro listed T H hB h;exact⟨by simpa[Nb]using hB,h⟩
 | one i t ih=>
  intro listed T H hB h;simp only[Nb,Bool.and_eq_true,Bool.or_eq_true,decide_eq_true_eq,List.size_toArray]at hB;obtain⟨⟨⟨hil,hr⟩,hB1⟩,hB2⟩:=hB;have hr:i∈Region.ready .any l.toArray listed:=by simpa using hr
  have hi:=nJ hil;have hst:=step i _ T H hil h;rcases hB1 with hB1|hB1
  ·have hB1:Region.ready .any l.toArray listed=[i]:=by simpa using hB1
   refine⟨fun h0=>(by rw[h0]at hr;cases hr),fun j hj=>?_⟩;rw[hB1]at hj;have:j=i:=by simpa using hj
   subst this;exact mono _ _ _ _ _ (fun T H h=>ih _ _ _ hB2 h) hst
  ·simp only[Lv,hi,Bool.and_eq_true,bne_iff_ne,ne_eq,List.all_eq_true,List.mem_range]at hB1;obtain⟨⟨hci,hB3⟩,hB4⟩:=hB1;have hst':eL E rec l.toArray Q i (vX E rec l pl J Q t) T H:=bR hm hQ (fun T H h=>h.2) hst.1;obtain⟨v,ids,xs,ho,hk,hx,-⟩:=gO.of hi hQ hci.1 hst';obtain rfl:=hx hci.2;have hpi:=hst.2 _ hi;have hpi2:pl.contains i=true→bK l.toArray T (fT l i)=some true→∀ H',J H'→bQ E.tab T H' (fT l i).op = .val v H':=fun hp hw=>by
    obtain⟨u,e1,e2⟩:=hpi hp hw;have hcl:=hpl i _ hi hp;have:u=v:=by
     rcases ho with ⟨h7,_⟩|⟨_,⟨_,g3⟩|⟨_,f,args,h8,_⟩|⟨_,f,args,h8,_⟩⟩
     ·rw[hw]at h7;cases h7
     ·rw[e1]at g3;simp only[FO.val.injEq]at g3;exact g3.1
     ·rcases kL hcl T H with ⟨u',hu,_⟩|hu<;>rw[hu]at h8<;>cases h8
     ·rcases kL hcl T H with ⟨u',hu,_⟩|hu<;>rw[hu]at h8<;>cases h8
    rw[←this];exact e2
   refine We hm hQ hpl hi hci (fun j=>(qK l.toArray i l.toArray.size (kC l.toArray listed)).contains j=true) ?_ t.len listed T H ?_ ?_ hr ho hpi2 hpi (ih _ _ _ hB2 (by simpa using hk))
   ·intro j oj hj hji hall;have h1:=hB3 j (Array.getElem?_eq_some_iff.1 hj).1;simp only[hj,Bool.or_eq_true,beq_iff_eq,hji,false_or,Bool.and_eq_true]at h1;rcases h1.1 with h2|h2
    ·exfalso;rw[Bool.not_eq_true',←Bool.not_eq_true,Array.all_eq_true_iff_forall_mem]at h2;refine h2 fun e he=>?_;cases hb:Region.binds .any e with
     | false=>rfl
     | true=>simpa using hall e he hb
    ·exact h2
   ·intro k hk;by_cases hks:k < listed.size
    ·have h1:=hB4 k hks;simp only[hk,Bool.not_true,Bool.false_or]at h1;exact h1
    ·simp[Array.getD,hks]at hk
   ·intro j oj hj hji hSj hunj;have h1:=hB3 j (Array.getElem?_eq_some_iff.1 hj).1;simp only[hj,Bool.or_eq_true,beq_iff_eq,hji,false_or,Bool.and_eq_true]at h1;have h2:=h1.2;simp only[hSj,hunj,Bool.not_true,Bool.false_eq_true,false_or,bne_iff_ne,ne_eq]at h2;exact h2
 | two i t j u ih1 ih2=>
  intro listed T H hB h;simp only[Nb,Bool.and_eq_true,Bool.or_eq_true,decide_eq_true_eq,List.size_toArray,beq_iff_eq]at hB;obtain⟨⟨⟨⟨⟨hil,hjl⟩,hlen⟩,hr⟩,hB1⟩,hB2⟩:=hB;have hmem:∀ k∈Region.ready .any l.toArray listed,k=i∨k=j:=fun k hk=>by
   rcases hr with hr|hr<;>rw[hr]at hk<;>simp only[List.mem_cons,List.not_mem_nil,or_false]at hk<;>omega
  refine⟨(fun h0=>by rcases hr with hr|hr<;>rw[hr]at h0<;>cases h0),fun k hk=>?_⟩;rcases hmem k hk with rfl|rfl
  ·exact mono _ _ _ _ _ (fun T H h=>ih1 _ _ _ hB1 h) (step _ _ T H hil h.1)
  ·have h2:=mono _ _ _ _ _ (fun T H h=>ih2 _ _ _ hB2 h) (step _ _ T H hjl h.2);rw[←hlen]at h2;exact h2
theorem FW.drawnN (hE:EnvOk E){id:Nat}{l:List Oper}(J:aA→Prop)(t:OT)(pl:List Nat)(hc:(Dt pl E.sp E.pcm E.cln E.tab l.toArray && (t.len == l.length && Nb pl E.sp E.pcm E.cln E.tab l.toArray t (Array.replicate l.length false)))=true)(h:vX E (FW E) l pl J (tE Q) t T H):FW E (.region id l.toArray true) Q T H:=by
 simp only[Bool.and_eq_true,beq_iff_eq]at hc;have hpl:∀ k o,l.toArray[k]?=some o→pl.contains k=true→eU E.sp E.pcm E.cln E.tab o.op = .l:=fun k o hk hp=>by
  have:=List.all_eq_true.1 hc.1 k (by simpa using hp);simp only[hk,beq_iff_eq]at this;exact this
 refine FW.mono (Q:=tE Q) (FW.draw hE ?_) ?_
 ·have:=zC (FW.recMono (E:=E)) (Q:=tE Q) (fun v T H h=>h) _ _ _ _ (Zn (E:=E) (rec:=FW E) FW.recMono (Q:=tE Q) (fun v T H h=>h) (pl:=pl) (J:=J) hpl t _ _ _ hc.2.2 h);rw[hc.2.1]at this;simpa using this
 ·intro e T H h;cases e<;>first|exact h|exact h.elim
end
end
end Go.Proofs.YtaimmacnafoanaaGreatDoor.F
