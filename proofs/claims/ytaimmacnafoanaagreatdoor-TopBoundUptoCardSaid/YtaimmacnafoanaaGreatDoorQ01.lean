/- The plain semantics of the program, and what it computes. -/
import Derived.Test.YtaimmacnafoanaaGreatDoorQ00
import Derived.Laws.AppendOwn
import Derived.Test.YtaimmacnafoanaaGreatDoorProg
import Derived.KernelRfl
import Derived.Laws.StructEq
import Derived.Shelf.SlGeneric
import Derived.Ground.SlgnProg
import Derived.Shelf.SlicesE.Clone
import GoSem.Core.Float
import Derived.Laws.ComplexArith
import Derived.IntWalk
set_option linter.unusedVariables false
set_option linter.unusedSimpArgs false
set_option maxRecDepth 100000
namespace Go.Proofs.YtaimmacnafoanaaGreatDoor.F
section
open Go Go.RowKit
def qU (P:Program)(f:FuncId)(s:Nat):Prop:=∃ ty,∀(w:World)(X:Value)(cs:List Value)(n:Nat),cs.length=n*s→n≤1073741824→(∀ c∈cs,c.oneCell'=true)→
 ((X = .slice none 0 0∧n=0)∨∃ b o cap,X = .slice (some ⟨b,o,none⟩) n cap∧w.rangeAt b o cs)→Calls P f ⟨[X]⟩ w fun e w'=>∃ y,e = .returned y∧w'.ownsRow w.heap.size ty s y n cs∧Below w.heap.size w w'
structure EnvOk (E:Env):Prop where
 spc:∀ f args H v,E.sp f=true→E.spc f args H=some v→∀(w:World)(im:Nat→Prop)(γ:fK)(B0:Nat)(xs:List Value),E.g.G w→RelH w im γ B0 H→RvL w im γ args xs→
  Calls E.P f ⟨xs⟩ w fun e w'=>(∃ y,e = .returned y∧Tv w' (newIm w w' im) v y)∧Below w.heap.size w w'
 cln:∀ f s,E.cln f=some s→qU E.P f s
 tab:TabOk E.P E.tab
 mixed:E.P.follows .mixedOrders=true
 names:∀(f:FuncId) (fn:Func),E.P.funcs[f]?=some fn→fn.name ≠ "runtime.NumGoroutine"
inductive ExR (w:World)(im:Nat→Prop)(γ:fK):Ex→Exit→Prop
 | normal:ExR w im γ .normal .normal
 | exit (id:Nat):ExR w im γ (.exit id) (.exit id)
 | goto (l:Nat):ExR w im γ (.goto l) (.goto l)
 | ret:ExR w im γ .ret .ret
 | panic (v:V) (x:Value) (h:Rv w im γ v x):ExR w im γ (.panic v) (.panic [{v:=x,recovered:=false}])
structure Goes (B0:Nat)(w:World)(im:Nat→Prop)(γ:fK)(w':World)(im':Nat→Prop)(γ':fK):Prop where
 keep:Keep w im γ w' im' γ'
 below:Below B0 w w'
 new:∀ B,im' B→im B∨B0≤B
theorem Goes.refl {B0:Nat}{w:World}{im:Nat→Prop}{γ:fK}:Goes B0 w im γ w im γ:=⟨Keep.refl,Below.refl _ _,fun _ h => .inl h⟩
theorem Goes.trans {B0:Nat}{w1 w2 w3:World}{i1 i2 i3:Nat→Prop}{g1 g2 g3:fK}(h:Goes B0 w1 i1 g1 w2 i2 g2)(k:Goes B0 w2 i2 g2 w3 i3 g3):Goes B0 w1 i1 g1 w3 i3 g3:=
 ⟨h.keep.trans k.keep,h.below.trans k.below,fun B hB=>(k.new B hB).elim (h.new B) .inr⟩
structure StR (E:Env)(D:List Deferred)(B0:Nat)(w:World)(im:Nat→Prop)(γ:fK)(T:List V)(H:aA)(a:Act):Prop where
 tmps:RvL w im γ T a.tmps.toList
 heap:RelH w im γ B0 H
 defers:a.defers=D
 glob:E.g.G w
 low:E.g.N≤B0
def kX (E:Env)(D:List Deferred)(B0:Nat)(w:World)(im:Nat→Prop)(γ:fK)(Q:Ex→List V→aA→Prop):Exit→Act→World→Prop:=fun e a' w'=>
 ∃ e' T' H' im' γ',Q e' T' H'∧ExR w' im' γ' e' e∧StR E D B0 w' im' γ' T' H' a'∧Goes B0 w im γ w' im' γ'
def aHn (E:Env)(D:List Deferred)(B0:Nat)(w:World)(im:Nat→Prop)(γ:fK)(K:List V→aA→Prop):Act→World→Prop:=fun a' w'=>
 ∃ T' H' im' γ',K T' H'∧StR E D B0 w' im' γ' T' H' a'∧Goes B0 w im γ w' im' γ'
variable {E:Env}{D:List Deferred}{B0:Nat}{w:World}{im:Nat→Prop}{γ:fK}{T:List V}{H:aA}{a:Act}
theorem kX.goes {w1:World}{im1:Nat→Prop}{γ1:fK}{Q:Ex→List V→aA→Prop}(h:Goes B0 w im γ w1 im1 γ1):∀ e a' w',kX E D B0 w1 im1 γ1 Q e a' w'→kX E D B0 w im γ Q e a' w':=
 fun e a' w' ⟨e',T',H',im',γ',q,r,s,g⟩=>⟨e',T',H',im',γ',q,r,s,h.trans g⟩
theorem kG (h:E.g.G w)(hN:E.g.N≤B0){w':World}(hb:Below B0 w w'):E.g.G w':=E.g.st _ _ (hb.mono hN) h
theorem Ny {w:World}{im:Nat→Prop}{γ:fK}{T:List V}{a:Act}(h:RvL w im γ T a.tmps.toList){v:V}{x:Value}(hv:Rv w im γ v x)(d:Option Tmp):RvL w im γ (put T d v) (a.put d x).tmps.toList:=by
 cases d with
 | none=>exact h
 | some d=>
  simp only[put,Act.put,Array.toList_setIfInBounds];exact h.set hv d
theorem Ch (a:Act)(d:Option Tmp)(x:Value):(a.put d x).defers=a.defers:=by cases d<;>rfl
theorem StR.put (h:StR E D B0 w im γ T H a){v:V}{x:Value}(hv:Rv w im γ v x)(d:Option Tmp):StR E D B0 w im γ (put T d v) H (a.put d x):=
 ⟨Ny h.tmps hv d,h.heap,by rw[Ch];exact h.defers,h.glob,h.low⟩
theorem lK (h:RvL w im γ T a.tmps.toList){ops:Array Oper}{o:Oper}{b:Bool}(hw:bK ops T o=some b):Region.wanted o (yielded ops a.tmps)=b:=by
 unfold bK at hw;unfold Region.wanted;cases hg:o.guard with
 | none=>rw[hg]at hw;cases hw;rfl
 | some g=>
  obtain⟨j,want⟩:=g;rw[hg]at hw;simp only at hw ⊢;unfold yielded;cases hd:(ops[j]?).bind (·.dst)with
  | none=>rw[hd]at hw;cases hw;simp
  | some d=>
   rw[hd]at hw;simp only[Option.bind_some]at hw ⊢;have hr:=aP h (.tmp d);simp only[ev,Act.eval]at hr;rw[Array.getD_eq_getD_getElem?]at hr;split at hw
   ·rename_i b' hb;rw[hb]at hr;cases hw;cases hq:a.tmps[d]? with
    | none=>
     rw[hq]at hr;have:=hr.bool_inv;cases this
    | some x=>
     rw[hq]at hr;have:=hr.bool_inv;simp only[Option.getD_some]at this;subst this;cases b'<;>cases want<;>simp
   ·rename_i vs hb;rw[hb]at hr;cases hw;obtain⟨xs,e,_⟩:=hr.tup_inv;cases hq:a.tmps[d]? with
    | none=>simp
    | some x=>
     rw[hq]at e;simp only[Option.getD_some]at e;subst e;simp
   ·cases hw
def Ys (tmps:Array Value):ResultVar→Sem Value
 | .tmp t=>pure (tmps.getD t Go.undef)
 | .cell c t=>do loadVar t (←asAddr (tmps.getD c Go.undef))
theorem Bh (fn:Func)(tmps:Array Value):results fn tmps=(do let vs ←fn.results.mapM (Ys tmps);pure (if h:vs.size=1 then vs[0]else .tuple vs)):=by
 unfold results;congr 1
theorem eN (ht:TabOk E.P E.tab)(h:StR E D B0 w im γ T H a){fn:Func}{v:V}(hr:jW E.tab fn.results.toList T H=some v):∃ x,(results fn a.tmps).run E.P w = .ok x w∧Rv w im γ v x:=by
 have one:∀(r:ResultVar)(v:V),iJ E.tab T H r=some v→∃ x,(Ys a.tmps r).run E.P w = .ok x w∧Rv w im γ v x:=by
  intro r v hv;cases r with
  | tmp t=>
   simp only[iJ,Option.some.injEq]at hv;subst hv;exact⟨_,rfl,aP h.tmps (.tmp t)⟩
  | cell c t=>
   simp only[iJ]at hv;have hc:=aP h.tmps (.tmp c);simp only[ev,Act.eval]at hc;obtain⟨y,h1,h2⟩:=Od h.heap ht hc hv;refine⟨y,?_,h2⟩;have hp:∃ A,a.tmps.getD c Go.undef = .pointer (some A):=by
    unfold rJ at hv;cases hl:tF H (T.getD c undef)with
    | none=>rw[hl]at hv;cases hv
    | some q=>
     obtain⟨e,j⟩:=q;obtain⟨B,O,vs,e1,_⟩:=Nd h.heap hc hl;exact⟨_,e1⟩
   obtain⟨A,hA⟩:=hp;rw[hA]at h1;simp only[Instr.loadAt,Instr.sureAddr,Sem.run_bind,Sem.run_pure,Result.andThen_ok]at h1;simp only[Ys,hA,asAddr,Sem.run_bind,Sem.run_pure,Result.andThen_ok];exact h1
 have all:∀(l:List ResultVar)(r:List V),l.mapM (iJ E.tab T H)=some r→∃ xs,(l.mapM (Ys a.tmps)).run E.P w = .ok xs w∧RvL w im γ r xs:=by
  intro l;induction l with
  | nil=>intro r hr;simp at hr;subst hr;exact⟨[],rfl,.nil⟩
  | cons q l ih=>
   intro r hr;rw[List.mapM_cons]at hr;simp only[Option.bind_eq_bind,Option.pure_def]at hr;cases hq:iJ E.tab T H q with
   | none=>rw[hq]at hr;cases hr
   | some v1=>
    rw[hq]at hr;simp only[Option.bind_some]at hr;cases hl:l.mapM (iJ E.tab T H)with
    | none=>rw[hl]at hr;cases hr
    | some l1=>
     rw[hl]at hr;cases hr;obtain⟨x,k1,k2⟩:=one q v1 hq;obtain⟨xs,k3,k4⟩:=ih l1 hl;refine⟨x::xs,?_,.cons _ _ _ _ k2 k4⟩;rw[List.mapM_cons];simp only[Sem.run_bind];rw[k1];simp only[Result.andThen_ok];rw[k3];rfl
 unfold jW at hr;have fin:∀ r xs,RvL w im γ r xs→(fn.results.toList.mapM (Ys a.tmps)).run E.P w = .ok xs w→
  (results fn a.tmps).run E.P w = .ok (if h:(⟨xs⟩:Array Value).size=1 then(⟨xs⟩:Array Value)[0]else .tuple ⟨xs⟩) w:=by
  intro r xs _ hx;rw[Bh];simp only[Array.mapM_eq_mapM_toList,Sem.run_bind,Sem.run_map];rw[hx];rfl
 split at hr
 ·rename_i v1 hl;cases hr;obtain⟨xs,k1,k2⟩:=all _ _ hl;have:=fin _ _ k2 k1;cases k2 with
  | cons _ x _ m hx t=>
   cases t;exact⟨x,this,hx⟩
 ·rename_i l hne hl;cases hr;obtain⟨xs,k1,k2⟩:=all _ _ hl;have:=fin _ _ k2 k1;have hs:¬(⟨xs⟩:Array Value).size=1:=by
   intro hs;have h1:xs.length=1:=hs;have h2:=k2.len;rw[h1]at h2;cases l with
   | nil=>simp at h2
   | cons v l=>cases l with
    | nil=>exact hne _ rfl
    | cons _ _=>simp at h2
  rw[dif_neg hs]at this;exact⟨_,this,.tup _ _ k2⟩
 ·cases hr
theorem Ec (hR:RelH w im γ B0 H){im':Nat→Prop}(hi:∀ B,im B→im' B){n:Nat}{l r:List V}{xs:List Value}(h:RvL w im γ l xs)(hm:l.mapM (fz H n)=some r)(hc:jV H γ im' (l.flatMap (aU H n))):TvL w im' r xs:=
 qF (fun v v' x hx hf hcv=>rM hR hi n v v' x hx hf hcv) h hm hc
mutual
theorem Tv.flat {w:World}{im im':Nat→Prop}:∀{v:V}{x:Value},Tv w im v x→F.flat v=true→Tv w im' v x
 | _,_,.bool b,_ => .bool b
 | _,_,.int k n,_ => .int k n
 | _,_,.str s,_ => .str s
 | _,_,.nilp,_ => .nilp
 | _,_,.nils,_ => .nils
 | _,_,.nilf,_ => .nilf
 | _,_,.nili,_ => .nili
 | _,_,.nilm,_ => .nilm
 | _,_,.flt b,_ => .flt b
 | _,_,.cpx a b,_ => .cpx a b
 | _,_,.imm0 a cap h hA,hf=>by simp[F.flat]at hf
 | _,_,.imm es s B O cap cs hne hB hcap hs hc h1 h,hf=>by simp[F.flat]at hf
 | _,_,.fn f,_ => .fn f
 | _,_,.iface t v x h,hf => .iface t v x (Tv.flat h (by simpa[F.flat]using hf))
 | _,_,.agg cs xs h1 h,hf => .agg cs xs h1 (TvL.flat h (by simpa[F.flat]using hf))
 | _,_,.tup cs xs h,hf => .tup cs xs (TvL.flat h (by simpa[F.flat]using hf))
 | _,_,.any x,hf=>by simp[F.flat]at hf
theorem TvL.flat {w:World}{im im':Nat→Prop}:∀{l:List V}{m:List Value},TvL w im l m→F.flatL l=true→TvL w im' l m
 | _,_,.nil,_ => .nil
 | _,_,.cons v x l m h t,hf=>by
  rw[F.flatL,Bool.and_eq_true]at hf;exact .cons v x l m (Tv.flat h hf.1) (TvL.flat t hf.2)
end
def Xf (E:Env)(rec:mC):Prop:=∀(c:Code)(Q:Ex→List V→aA→Prop)(T:List V)(H:aA)(D:List Deferred)(B0:Nat)(w:World)(im:Nat→Prop)(γ:fK)(a:Act),rec c Q T H→StR E D B0 w im γ T H a→c.wp E.P (kX E D B0 w im γ Q) a w
theorem fC {n:Nat}:RvL w im γ (List.replicate n undef) (List.replicate n Go.undef):=by
 induction n with
 | zero=>exact .nil
 | succ n ih=>exact .cons _ _ _ _ (.tree _ _ (.tup [] [] .nil)) ih
theorem wK (hR:RelH w im γ B0 H){v:V}{X:Value}{es:List V}(hx:Rv w im γ v X)(he:bS H v=some es)(hs:v.isStr=false) :
 ∃ cs,RvL w im γ (es.flatMap V.cells) cs∧(∀ c∈cs,c.oneCell'=true)∧((X = .slice none 0 0∧es=[])∨∃ b o cap,X = .slice (some ⟨b,o,none⟩) es.length cap∧w.rangeAt b o cs):=by
 have form0:∀(A:Option Addr)(cap:Nat),OkA A→(A=none→cap=0)→X = .slice A 0 cap→∃ cs,RvL w im γ (([]:List V).flatMap V.cells) cs∧(∀ c∈cs,c.oneCell'=true)∧((X = .slice none 0 0∧([]:List V)=[])∨∃ b o cap,X = .slice (some ⟨b,o,none⟩) ([]:List V).length cap∧w.rangeAt b o cs):=by
  intro A cap hA hc e;refine⟨[],.nil,by simp,?_⟩;rcases hA with rfl|⟨b,o,rfl⟩
  ·rw[hc rfl]at e;exact .inl ⟨e,rfl⟩
  ·exact .inr ⟨b,o,cap,e,fun j v hj=>by simp at hj⟩
 cases v with
 | sl b i n=>
  simp only[bS]at he;split at he
  ·rename_i s es' ro hH;split at he
   ·rename_i hle;cases he;by_cases hn:n=0
    ·subst hn;rw[List.take_zero];rcases hx.sl_inv with ⟨p,cap,hp,hcap,hN,e⟩|⟨_,A,e,hA⟩
     ·exact form0 _ cap (.some _ _) (by simp) e
     ·exact form0 A 0 hA (fun _=>rfl) e
    ·rcases hx.sl_inv with ⟨p,cap,hp,hcap,hN,e⟩|⟨h0,_⟩
     ·have hr:=hR.at hH hp;obtain⟨pre,vs,post,ty,fz,h1,h2,h3,h4,h5,h6⟩:=hr.hm;have hps:=hr.hs;have hvl:=h3.len;rw[cN hr.hl]at hvl;have hb1:(i+n)*s≤es'.length*s:=Nat.mul_le_mul_right _ hle;rw[Nat.add_mul]at hb1;refine⟨(vs.drop (i*s)).take (n*s),?_,fun u hu=>h4 u (List.mem_of_mem_drop (List.mem_of_mem_take hu)),.inr ⟨p.B,p.O+i*p.s,cap,?_,?_⟩⟩
      ·rw[gM (s:=s) _ (fun e he=>hr.hl e (List.mem_of_mem_drop he)),iD (s:=s) _ hr.hl];exact(h3.drop _).take _
      ·rw[e];congr 1;simp;omega
      ·have:=lC (w:=w) (B:=p.B) (a:=pre++vs.take (i*s)) (m:=(vs.drop (i*s)).take (n*s)) (p:=(vs.drop (i*s)).drop (n*s)++post) (ty:=ty) (fz:=fz) (by
        rw[h1];congr 3;rw[List.append_assoc,←List.append_assoc ((vs.drop (i*s)).take (n*s)),List.take_append_drop,←List.append_assoc (vs.take (i*s)),List.take_append_drop])
       rw[List.length_append,List.length_take,h2,Nat.min_eq_left (by omega)]at this;rw[hps];exact this
     ·exact absurd h0 hn
   ·cases he
  ·cases he
 | imm l=>
  simp only[bS]at he;cases he;rcases hx.imm_inv.imm_inv with ⟨rfl,A,cap,⟨h1,h2⟩,e⟩|⟨s,B,O,cap,cs,hne,hB,hcap,hss,hc,h1,hTv,e⟩
  ·exact form0 A cap h2 h1 e
  ·exact⟨cs,hTv.rv,h1,.inr ⟨B,O,cap,e,hc⟩⟩
 | nils=>
  simp only[bS]at he;cases he;exact form0 none 0 .none (fun _=>rfl) hx.nils_inv
 | str s=>simp[V.isStr]at hs
 | _=>simp[bS]at he
theorem ObjH.call {w w':World}{im im':Nat→Prop}{γ:fK}{B0:Nat}{H:aA}(h:ObjH w im γ B0 H)(hb:Below w.heap.size w w')(hk:dQ w im w' im')(hn:∀ B,im' B→im B∨w.heap.size≤B):ObjH w' im' γ B0 H:=
 h.mono (fun _ _ h _=>h) (fun b o p X h1 h2 hp hX=>⟨hb.block X (h.obj' h1 h2 hp X hX).2.1,fun hi=>by
  rcases hn X hi with h3|h3
  ·exact(h.obj' h1 h2 hp X hX).2.2 h3
  ·have:=(h.obj' h1 h2 hp X hX).2.1;omega⟩) hb.size hk (fun _ _ h=>h) h.sep
theorem Ue (hE:EnvOk E){rec:mC}(hrec:Xf E rec){f:FuncId}{args:List V}{xs:List Value}{dst:Option Tmp}{K:List V→aA→Prop}{Q:Ex→List V→aA→Prop}(hS:StR E D B0 w im γ T H a)(hx:RvL w im γ args xs)(h:aZ E rec f args dst T H K Q) :
 Calls E.P f ⟨xs⟩ w fun
  | .returned y,w'=>∃ v H' im' γ',K (put T dst v) H'∧Rv w' im' γ' v y∧StR E D B0 w' im' γ' T H' a∧Goes B0 w im γ w' im' γ'
  | .panicked chain,w'=>∃ v H' im' γ',Q (.panic v) T H'∧ExR w' im' γ' (.panic v) (.panic chain)∧StR E D B0 w' im' γ' T H' a∧Goes B0 w im γ w' im' γ'
  | .outgrown,_=>False:=by
 unfold aZ at h;split at h
 case h_2=>exact h.elim
 rename_i fn hf;split at h
 case h_2=>exact h.elim
 rename_i c hb;split at h
 ·rename_i hsp;split at h
  case h_2=>exact h.elim
  rename_i v hv;refine(hE.spc f args H v hsp hv w im γ B0 xs hS.glob hS.heap hx).mono ?_;rintro e w' ⟨⟨y,rfl,hy⟩,hb⟩;have hbB:Below B0 w w':=hb.mono hS.heap.size;have hk0:Keep w im γ w' (newIm w w' im) γ:=⟨fun B hB=>⟨.inl hB,hb.block B (hS.heap.imlt B hB)⟩,fun _ _ h=>h⟩;have hg0:Goes B0 w im γ w' (newIm w w' im) γ:=⟨hk0,hbB,fun B hB=>by
   rcases hB with hB|⟨hB,_⟩
   ·exact .inl hB
   ·exact .inr (Nat.le_trans hS.heap.size hB)⟩
  have hheap0:RelH w' (newIm w w' im) γ B0 H:=by
   refine⟨fun b s es ro hH=>?_,hS.heap.inj,fun B hB=>?_,hS.heap.fresh,Nat.le_trans hS.heap.size hb.size,hS.heap.oh.call hb hk0.imm fun B hB=>hB.elim .inl fun h => .inr h.1⟩
   ·rcases hS.heap.row _ _ _ _ hH with ⟨p,hp,hr⟩|hn
    case inr=>exact .inr hn
    obtain⟨pre,vs,post,ty,fzz,g1,g2,g3,g4⟩:=hr.hm;refine .inl ⟨p,hp,hr.hs,hr.hB,fun h => .inl (hr.hi h),fun h=>?_,hr.hl,pre,vs,post,ty,fzz,by rw[hb.block _ hr.block];exact g1,g2,g3.keep hk0,g4⟩;rintro(k|⟨k,_⟩)
    ·exact hr.hw h k
    ·have:=hr.block;omega
   ·rcases hB with hB|⟨_,hB⟩
    ·exact Nat.lt_of_lt_of_le (hS.heap.imlt B hB) hb.size
    ·exact hB
  exact⟨v,H,newIm w w' im,γ,h,.tree _ _ hy,⟨hS.tmps.keep hk0,hheap0,hS.defers,kG hS.glob hS.low hbB,hS.low⟩,hg0⟩
 split at h
 ·rename_i s hcl;unfold Ci at h;split at h
  case h_2=>exact h.elim
  rename_i v;split at h
  case h_2=>exact h.elim
  rename_i es hes;split at h
  case isFalse=>exact h.elim
  rename_i hc;obtain⟨hall,hstr,hle⟩:=hc;rw[fV]at hall;obtain⟨X,rfl,hX⟩:∃ X,xs=[X]∧Rv w im γ v X:=by
   cases hx with
   | cons _ x _ m h1 t=>cases t;exact⟨x,rfl,h1⟩
  obtain⟨cs,k1,k2,k3⟩:=wK hS.heap hX hes hstr;obtain⟨ty,hcall⟩:=hE.cln f s hcl;have hlen:cs.length=es.length*s:=by rw[k1.len,cN hall]
  refine(hcall w X cs es.length hlen hle k2 (by rcases k3 with ⟨e,h0⟩|k3;exact .inl ⟨e,by rw[h0];rfl⟩;exact .inr k3)).mono ?_;rintro e w' ⟨y,rfl,⟨_,ho⟩,hbel⟩;have hbB:Below B0 w w':=hbel.mono hS.heap.size;have hk:dQ w im w' im:=fun B hB=>⟨hB,hbel.block B (hS.heap.imlt B hB)⟩;rcases ho with ⟨rfl,hn⟩|⟨gb,cap,cur,rfl,h1,h2,h3,h4,h5,h6⟩
  ·have hes0:es=[]:=List.eq_nil_of_length_eq_zero hn;subst hes0;have hkk:Keep w im γ w' im γ:=⟨hk,fun _ _ h=>h⟩;have hR':RelH w' im γ B0 H:=by
    refine⟨fun b s es ro hH=>?_,hS.heap.inj,fun B hB=>Nat.lt_of_lt_of_le (hS.heap.imlt B hB) hbel.size,hS.heap.fresh,Nat.le_trans hS.heap.size hbel.size,hS.heap.oh.call hbel hk fun B hB => .inl hB⟩;rcases hS.heap.row _ _ _ _ hH with ⟨p,hp,hr⟩|hn
    ·exact .inl ⟨p,hp,hr.keep hkk (hbel.block _ hr.block)⟩
    ·exact .inr hn
   exact⟨_,_,im,γ,h,.sl0 _ _ _ .none,⟨hS.tmps.keep hkk,hR'.pushV s,hS.defers,kG hS.glob hS.low hbB,hS.low⟩,⟨hkk,hbB,fun B hB => .inl hB⟩⟩
  ·have hK:=iN hS.heap hk ⟨gb,0,s,cap*s⟩;have hcl:(cur.toList.drop (es.length*s)).length+es.length*s=cap*s:=by
    have:es.length*s≤cap*s:=Nat.mul_le_mul_right _ h3;rw[List.length_drop,Array.length_toList,h5];omega
   have hpush:=hS.heap.push (w':=w') (s:=s) (es:=es) (p:=⟨gb,0,s,cap*s⟩) hk hbel.size (fun b s es ro q hH hq=>by
    have hr:=hS.heap.at hH hq;have:=hr.block;exact⟨by show q.B≠gb;omega,hbel.block _ this⟩)
    ⟨rfl,Nat.le_trans hS.heap.size h1,by simp,fun _ hB=>by have:=hS.heap.imlt _ hB;simp only at this;omega,hall,[],cs,cur.toList.drop (es.length*s),ty,(0,0),by
     rw[←h6];simp only[List.nil_append,List.take_append_drop];exact h2,rfl,k1.keep hK,k2,by simp,by simp only[List.length_nil,hlen];omega⟩
    (fun b o q X h3 h4 hq hX=>by
     have:=(hS.heap.oh.obj' h3 h4 hq X hX).2.1;exact⟨by show X≠gb;omega,hbel.block _ this⟩)
   refine⟨_,_,im,_,h,?_,⟨hS.tmps.keep hK,hpush,hS.defers,kG hS.glob hS.low hbB,hS.low⟩,⟨hK,hbB,fun B hB => .inl hB⟩⟩;have:=Rv.sl (w:=w') (im:=im) (γ:=upd γ H.length ⟨gb,0,s,cap*s⟩) H.length 0 es.length cap ⟨gb,0,s,cap*s⟩ (cL _ _ _) h3 (by simp);simpa using this
 split at h
 ·unfold qH at h;split at h
  ·rename_i l hl;obtain⟨r,hpc,hk⟩:=h;obtain⟨im1,s1,s2,s3,s4⟩:=mM (args.flatMap (aU H 8)) hS.heap;have hT:=Ec hS.heap s2 hx hl s3;have hcall:=hpc w im1 xs hS.glob s1.imlt hT;refine hcall.mono fun e w' ⟨hr,hb⟩=>?_;have hk1:Keep w im γ w im1 γ:=⟨fun B hB=>⟨s2 B hB,rfl⟩,fun _ _ h=>h⟩;have hk2:Keep w im1 γ w' (newIm w w' im1) γ:=⟨fun B hB=>⟨.inl hB,hb.block B (s1.imlt B hB)⟩,fun _ _ h=>h⟩;have hbB:Below B0 w w':=hb.mono hS.heap.size;have hg:Goes B0 w im γ w' (newIm w w' im1) γ:=⟨hk1.trans hk2,hbB,fun B hB=>by
    rcases hB with hB|⟨hB,_⟩
    ·exact s4 B hB
    ·exact .inr (Nat.le_trans hS.heap.size hB)⟩
   have hheap:RelH w' (newIm w w' im1) γ B0 (bH H (args.flatMap (aU H 8))):=by
    refine⟨fun b s es ro hH=>?_,s1.inj,fun B hB=>?_,s1.fresh,Nat.le_trans s1.size hb.size,s1.oh.call hb hk2.imm fun B hB=>hB.elim .inl fun h => .inr h.1⟩
    ·rcases s1.row _ _ _ _ hH with ⟨p,hp,hr⟩|hn
     case inr=>exact .inr hn
     obtain⟨pre,vs,post,ty,fzz,g1,g2,g3,g4⟩:=hr.hm;refine .inl ⟨p,hp,hr.hs,hr.hB,fun h => .inl (hr.hi h),fun h=>?_,hr.hl,pre,vs,post,ty,fzz,by rw[hb.block _ hr.block];exact g1,g2,g3.keep hk2,g4⟩;rintro(k|⟨k,_⟩)
     ·exact hr.hw h k
     ·have:=hr.block;omega
    ·rcases hB with hB|⟨_,hB⟩
     ·exact Nat.lt_of_lt_of_le (s1.imlt B hB) hb.size
     ·exact hB
   have hst:StR E D B0 w' (newIm w w' im1) γ T (bH H (args.flatMap (aU H 8))) a:=⟨hS.tmps.keep (hk1.trans hk2),hheap,hS.defers,kG hS.glob hS.low hbB,hS.low⟩;have hk0:Keep w im γ w' (newIm w w' im) γ:=⟨fun B hB=>⟨.inl hB,hb.block B (hS.heap.imlt B hB)⟩,fun _ _ h=>h⟩;have hg0:Goes B0 w im γ w' (newIm w w' im) γ:=⟨hk0,hbB,fun B hB=>by
    rcases hB with hB|⟨hB,_⟩
    ·exact .inl hB
    ·exact .inr (Nat.le_trans hS.heap.size hB)⟩
   have hheap0:RelH w' (newIm w w' im) γ B0 H:=by
    refine⟨fun b s es ro hH=>?_,hS.heap.inj,fun B hB=>?_,hS.heap.fresh,Nat.le_trans hS.heap.size hb.size,hS.heap.oh.call hb hk0.imm fun B hB=>hB.elim .inl fun h => .inr h.1⟩
    ·rcases hS.heap.row _ _ _ _ hH with ⟨p,hp,hr⟩|hn
     case inr=>exact .inr hn
     obtain⟨pre,vs,post,ty,fzz,g1,g2,g3,g4⟩:=hr.hm;refine .inl ⟨p,hp,hr.hs,hr.hB,fun h => .inl (hr.hi h),fun h=>?_,hr.hl,pre,vs,post,ty,fzz,by rw[hb.block _ hr.block];exact g1,g2,g3.keep hk0,g4⟩;rintro(k|⟨k,_⟩)
     ·exact hr.hw h k
     ·have:=hr.block;omega
    ·rcases hB with hB|⟨_,hB⟩
     ·exact Nat.lt_of_lt_of_le (hS.heap.imlt B hB) hb.size
     ·exact hB
   have hst0:StR E D B0 w' (newIm w w' im) γ T H a:=⟨hS.tmps.keep hk0,hheap0,hS.defers,kG hS.glob hS.low hbB,hS.low⟩;cases r with
   | ret v=>
    obtain⟨y,rfl,hy⟩:=hr;by_cases hfl:F.flat v=true
    ·exact⟨v,H,newIm w w' im,γ,by simpa[eA,hfl]using hk,.tree _ _ (hy.flat hfl),hst0,hg0⟩
    ·exact⟨v,_,_,γ,by simpa[eA,hfl]using hk,.tree _ _ hy,hst,hg⟩
   | pan v=>
    obtain⟨y,rfl,hy⟩:=hr;by_cases hfl:F.flat v=true
    ·exact⟨v,H,newIm w w' im,γ,by simpa[eA,hfl]using hk,.panic _ _ (.tree _ _ (hy.flat hfl)),hst0,hg0⟩
    ·exact⟨v,_,_,γ,by simpa[eA,hfl]using hk,.panic _ _ (.tree _ _ hy),hst,hg⟩
  ·exact h.elim
 ·rcases h with h|⟨v,H',hmc,hk⟩
  case inr=>
   refine(hmc w im γ B0 xs hS.glob hS.low hS.heap hx).mono ?_;rintro e w' ⟨y,im',γ',rfl,h1,h2,h3,h4,h5⟩;exact⟨v,H',im',γ',hk,h1,⟨hS.tmps.keep h3,h2,hS.defers,kG hS.glob hS.low h4,hS.low⟩,⟨h3,h4,h5⟩⟩
  refine calls_of_wp hf hb ?_;have hlen:=hx.len;have htm:RvL w im γ (args++List.replicate (fn.ntmps - args.length) undef) ((⟨xs⟩:Array Value)++Array.replicate (fn.ntmps - (⟨xs⟩:Array Value).size) Go.undef).toList:=by
   have:(⟨xs⟩:Array Value).size=xs.length:=rfl;rw[this,hlen];simpa using hx.append (fC (n:=fn.ntmps - args.length))
  have key:=hrec c _ _ _ [] B0 w im γ {tmps:=(⟨xs⟩:Array Value)++Array.replicate (fn.ntmps - (⟨xs⟩:Array Value).size) Go.undef,defers:=[]} h ⟨htm,hS.heap,rfl,hS.glob,hS.low⟩;refine wp_mono key fun e a' w' ⟨e',T',H',im',γ',hq,hex,hst,hg⟩=>?_;have hback:StR E D B0 w' im' γ' T H' a:=⟨hS.tmps.keep hg.keep,hst.heap,hS.defers,hst.glob,hst.low⟩;cases hex with
  | normal=>
   simp only[iW]at hq;split at hq
   ·rename_i v hv;obtain⟨x,k1,k2⟩:=eN hE.tab hst hv;exact⟨hst.defers,x,k1,v,H',im',γ',hq,k2,hback,hg⟩
   ·exact hq.elim
  | ret=>
   simp only[iW]at hq;split at hq
   ·rename_i v hv;obtain⟨x,k1,k2⟩:=eN hE.tab hst hv;exact⟨hst.defers,x,k1,v,H',im',γ',hq,k2,hback,hg⟩
   ·exact hq.elim
  | panic v x hv=>exact⟨hst.defers,v,H',im',γ',hq,.panic _ _ hv,hback,hg⟩
  | exit id=>exact hq.elim
  | goto l=>exact hq.elim
theorem vZ (hE:EnvOk E){rec:mC}(hrec:Xf E rec){o:Oper}{K:List V→aA→Prop}{Q:Ex→List V→aA→Prop}(hS:StR E D B0 w im γ T H a)(h:iZ E rec o T H K Q):o.wp E.P a w (aHn E D B0 w im γ K) (kX E D B0 w im γ Q):=by
 unfold iZ at h;split at h
 ·rename_i v H' hv;obtain⟨x,w',γ',h1,h2,h3,h4,h5⟩:=Zz hS.heap hE.tab hS.tmps hv;refine h1 _ _ ⟨_,_,im,γ',h,?_,⟨h4,h5,fun B hB => .inl hB⟩⟩;exact StR.put ⟨hS.tmps.keep h4,h3,hS.defers,kG hS.glob hS.low h5,hS.low⟩ h2 _
 ·rename_i f args hv;obtain⟨xs,h1,h2⟩:=Fv (P:=E.P) (w:=w) hS.tmps hv;have hbody:∃ fn c,E.P.funcs[f]?=some fn∧fn.body=some c:=by
   unfold aZ at h;split at h
   case h_2=>exact h.elim
   rename_i fn hf;split at h
   case h_2=>exact h.elim
   rename_i c hb;exact⟨fn,c,hf,hb⟩
  obtain⟨fn,c,hf,hb⟩:=hbody;have hn:=hE.names f fn hf;have hcf:(callFunc f ⟨xs⟩).run E.P w = .ok (.enter f ⟨xs⟩) w:=by
   simp[callFunc,hf,hn,hb]
  unfold Oper.wp;rw[h2,hcf];refine(Ue hE hrec hS h1 h).mono fun e w' he=>?_;cases e with
  | returned y=>
   obtain⟨v,H',im',γ',k1,k2,k3,k4⟩:=he;exact⟨_,_,_,_,k1,k3.put k2 _,k4⟩
  | panicked chain=>
   obtain⟨v,H',im',γ',k1,k2,k3,k4⟩:=he;exact⟨_,_,_,_,_,k1,k2,k3,k4⟩
  | outgrown=>exact he.elim
 ·rename_i v hv;obtain⟨x,h1,h2⟩:=On (P:=E.P) (w:=w) hS.tmps hv;unfold Oper.wp;rw[h2];exact⟨_,T,H,im,γ,h,.panic _ _ h1,hS,Goes.refl⟩
 ·exact h.elim
theorem sO {P:Program}{o:Oper}{a:Act}{w:World}{K K':Act→World→Prop}{Q Q':Exit→Act→World→Prop}(hK:∀ a w,K a w→K' a w)(hQ:∀ e a w,Q e a w→Q' e a w)(h:o.wp P a w K Q):o.wp P a w K' Q':=by
 unfold Oper.wp at *;generalize (execOp a.eval o).run P w=r at *;cases r with
 | ok n w'=>
  cases n<;>simp only[Oper.upon]at h ⊢ <;>
   first
    | exact hK _ _ h
    | exact Calls.mono h (fun e w'' he=>by cases e<;>first|exact hK _ _ he|exact hQ _ _ _ he|(obtain⟨a,w,hq⟩:=he;exact⟨a,w,hQ _ _ _ hq⟩))
    | exact Rows.mono h (fun _ _ he=>hK _ _ he)
 | halt x w'=>cases x<;>simp only[Oper.upon]at h ⊢<;>exact hQ _ _ _ h
theorem oM {P:Program}{ops:Array Oper}{Q Q':Exit→Act→World→Prop}(hQ:∀ e a w,Q e a w→Q' e a w):∀(l:List Oper)(a:Act)(w:World),wpList P ops Q l a w→wpList P ops Q' l a w
 | [],a,w,h=>hQ _ _ _ h
 | o::l,a,w,h=>by
  unfold wpList at *;split
  ·rename_i hw;rw[if_pos hw]at h;rcases h with h|⟨h1,a0,w0,h2⟩
   ·exact .inl (sO (fun a w=>oM hQ l a w) hQ h)
   ·exact .inr ⟨h1,a0,w0,hQ _ _ _ h2⟩
  ·rename_i hw;rw[if_neg hw]at h;exact oM hQ l _ w h
theorem Ep {P:Program}{ops:Array Oper}{Q Q':Exit→Act→World→Prop}{K K':Act→World→Prop}(hK:∀ a w,K a w→K' a w)(hQ:∀ e a w,Q e a w→Q' e a w){i:Nat}{a:Act}{w:World}(h:wpOp P ops Q i K a w):wpOp P ops Q' i K' a w:=by
 unfold wpOp at *;split
 ·rename_i ho;simp only[ho]at h;exact hK _ _ h
 ·rename_i o ho;simp only[ho]at h;split
  ·rename_i hw;rw[if_pos hw]at h;rcases h with h|⟨h1,a0,w0,h2⟩
   ·exact .inl (sO hK hQ h)
   ·exact .inr ⟨h1,a0,w0,hQ _ _ _ h2⟩
  ·rename_i hw;rw[if_neg hw]at h;exact hK _ _ h
theorem qW {P:Program}{ops:Array Oper}{md:Region.Mode}{Q Q':Exit→Act→World→Prop}(hQ:∀ e a w,Q e a w→Q' e a w):∀(n:Nat)(listed:Array Bool)(a:Act)(w:World),wpAny P md ops Q n listed a w→wpAny P md ops Q' n listed a w
 | 0,listed,a,w,h=>⟨h.1,hQ _ _ _ h.2⟩
 | n+1,listed,a,w,h=>⟨fun h0=>hQ _ _ _ (h.1 h0),fun i hi=>Ep (fun a w=>qW hQ n _ a w) hQ (h.2 i hi)⟩
theorem oY (hE:EnvOk E){rec:mC}(hrec:Xf E rec){ops:Array Oper}{Q:Ex→List V→aA→Prop}:∀(l:List Oper)(T:List V)(H:aA)(w:World)(im:Nat→Prop)(γ:fK)(a:Act),
 lI E rec ops Q l T H→StR E D B0 w im γ T H a→wpList E.P ops (kX E D B0 w im γ Q) l a w
 | [],T,H,w,im,γ,a,h,hS=>⟨.normal,T,H,im,γ,h,.normal,hS,Goes.refl⟩
 | o::l,T,H,w,im,γ,a,h,hS=>by
  unfold lI at h;split at h
  ·rename_i hw;unfold wpList;rw[if_pos (lK hS.tmps hw)];refine .inl ?_;refine Oper.wp_mono (K:=aHn E D B0 w im γ (lI E rec ops Q l)) ?_ (vZ hE hrec hS h);rintro a' w' ⟨T',H',im',γ',hk,hst,hg⟩;exact oM (kX.goes hg) l a' w' (oY hE hrec l T' H' w' im' γ' a' hk hst)
  ·rename_i hw;unfold wpList;rw[if_neg (by rw[lK hS.tmps hw];simp)];exact oY hE hrec l _ H w im γ _ h (hS.put (.tree _ _ (.tup [] [] .nil)) _)
  ·exact h.elim
theorem lT (hE:EnvOk E){rec:mC}(hrec:Xf E rec){ops:Array Oper}{Q:Ex→List V→aA→Prop}:∀(n:Nat)(listed:Array Bool)(T:List V)(H:aA)(w:World)(im:Nat→Prop)(γ:fK)(a:Act),
 xN E rec ops Q n listed T H→StR E D B0 w im γ T H a→wpAny E.P .any ops (kX E D B0 w im γ Q) n listed a w
 | 0,listed,T,H,w,im,γ,a,h,hS=>⟨h.1,.normal,T,H,im,γ,h.2,.normal,hS,Goes.refl⟩
 | n+1,listed,T,H,w,im,γ,a,h,hS=>by
  refine⟨fun h0=>⟨.normal,T,H,im,γ,h.1 h0,.normal,hS,Goes.refl⟩,fun i hi=>?_⟩;have h2:=h.2 i hi;unfold eL at h2;unfold wpOp;split
  ·rename_i ho;simp only[ho]at h2;exact lT hE hrec n _ T H w im γ a h2 hS
  ·rename_i o ho;simp only[ho]at h2;split at h2
   ·rename_i hw;rw[if_pos (lK hS.tmps hw)];refine .inl ?_;refine Oper.wp_mono (K:=aHn E D B0 w im γ (xN E rec ops Q n (listed.setIfInBounds i true))) ?_ (vZ hE hrec hS h2);rintro a' w' ⟨T',H',im',γ',hk,hst,hg⟩;exact qW (kX.goes hg) n _ a' w' (lT hE hrec n _ T' H' w' im' γ' a' hk hst)
   ·rename_i hw;rw[if_neg (by rw[lK hS.tmps hw];simp)];exact lT hE hrec n _ _ H w im γ _ h2 (hS.put (.tree _ _ (.tup [] [] .nil)) _)
   ·exact h2.elim
theorem Ol {K:List V→aA→Prop}{Q:Ex→List V→aA→Prop}{y:Code}{P:Program}(hK:∀ T' H' im' γ' a' w',K T' H'→StR E D B0 w' im' γ' T' H' a'→Goes B0 w im γ w' im' γ'→y.wp P (kX E D B0 w im γ Q) a' w') :
 ∀ e a' w',kX E D B0 w im γ (fM K Q) e a' w'→Exit.then (y.wp P (kX E D B0 w im γ Q)) (kX E D B0 w im γ Q) e a' w':=by
 rintro e a' w' ⟨e',T',H',im',γ',hq,hex,hst,hg⟩;cases hex with
 | normal=>exact hK _ _ _ _ _ _ hq hst hg
 | exit id=>exact⟨_,_,_,_,_,hq,.exit id,hst,hg⟩
 | goto l=>exact⟨_,_,_,_,_,hq,.goto l,hst,hg⟩
 | ret=>exact⟨_,_,_,_,_,hq,.ret,hst,hg⟩
 | panic v x h=>exact⟨_,_,_,_,_,hq,.panic v x h,hst,hg⟩
def FW (E:Env)(c:Code)(Q:Ex→List V→aA→Prop)(T:List V)(H:aA):Prop:=
 ∀(D:List Deferred)(B0:Nat)(w:World)(im:Nat→Prop)(γ:fK)(a:Act),StR E D B0 w im γ T H a→c.wp E.P (kX E D B0 w im γ Q) a w
theorem FW.ok (E:Env):Xf E (FW E):=fun _ _ _ _ _ _ _ _ _ _ h hS=>h _ _ _ _ _ _ hS
variable {Q:Ex→List V→aA→Prop}
theorem aH (h:Q .normal T H):FW E .skip Q T H:=fun D B0 w im γ a hS=>wp_skip ⟨.normal,T,H,im,γ,h,.normal,hS,Goes.refl⟩
theorem FW.label {l:Nat}(h:Q .normal T H):FW E (.label l) Q T H:=fun D B0 w im γ a hS=>wp_label ⟨.normal,T,H,im,γ,h,.normal,hS,Goes.refl⟩
theorem bZ {id:Nat}(h:Q (.exit id) T H):FW E (.exit id) Q T H:=fun D B0 w im γ a hS=>wp_exit ⟨.exit id,T,H,im,γ,h,.exit id,hS,Goes.refl⟩
theorem nY {l:Nat}(h:Q (.goto l) T H):FW E (.goto l) Q T H:=fun D B0 w im γ a hS=>wp_goto ⟨.goto l,T,H,im,γ,h,.goto l,hS,Goes.refl⟩
theorem aC (h:Q .ret T H):FW E .ret Q T H:=fun D B0 w im γ a hS=>wp_ret ⟨.ret,T,H,im,γ,h,.ret,hS,Goes.refl⟩
theorem FW.region (hE:EnvOk E){id:Nat}{l:List Oper}(h:lI E (FW E) l.toArray Q l T H):FW E (.region id l.toArray false) Q T H:=
 fun D B0 w im γ a hS=>wp_region_list (oY hE (FW.ok E) _ T H w im γ a (by simpa using h) hS)
theorem FW.draw (hE:EnvOk E){id:Nat}{ops:Array Oper}(h:xN E (FW E) ops Q ops.size (Array.replicate ops.size false) T H):FW E (.region id ops true) Q T H:=
 fun D B0 w im γ a hS=>by
  have hS':StR E D B0 w.drew im γ T H a:=⟨hS.tmps.keep (lF (w:=w) (w':=w.drew) rfl),hS.heap.heap (w':=w.drew) rfl,hS.defers,kG hS.glob hS.low (Below.refl B0 w).drew,hS.low⟩;have hg:Goes B0 w im γ w.drew im γ:=⟨lF rfl,(Below.refl _ _).drew,fun _ h => .inl h⟩;exact wp_region_any hE.mixed (qW (kX.goes hg) _ _ _ _ (lT hE (FW.ok E) _ _ T H w.drew im γ a h hS'))
theorem FW.seq {x y:Code}(h:FW E x (fM (FW E y Q) Q) T H):FW E (.seq x y) Q T H:=fun D B0 w im γ a hS=>
 wp_seq (wp_mono (h D B0 w im γ a hS) (Ol fun T' H' im' γ' a' w' hk hst hg=>wp_mono (hk D B0 w' im' γ' a' hst) (kX.goes hg)))
theorem aF {x y:Code}(h:∀ K:List V→aA→Prop,(∀ T H,FW E y Q T H→K T H)→FW E x (fM K Q) T H):FW E (.seq x y) Q T H:=FW.seq (h _ fun _ _ h=>h)
theorem FW.cond {x:Operand}{p q:Code}{t:Bool}(ht:ev T x = .bool t)(h:FW E (if t then p else q) Q T H):FW E (.cond x p q) Q T H:=fun D B0 w im γ a hS=>by
 have hb:=aP hS.tmps x;rw[ht]at hb;refine wp_cond hb.bool_inv ?_;cases t
 ·exact h D B0 w im γ a hS
 ·exact h D B0 w im γ a hS
theorem aT {id:Nat}{c:Code}(h:FW E c (nB id Q) T H):FW E (.block id c) Q T H:=fun D B0 w im γ a hS=>by
 refine wp_block (wp_mono (h D B0 w im γ a hS) ?_);rintro e a' w' ⟨e',T',H',im',γ',hq,hex,hst,hg⟩;cases hex with
 | normal=>exact⟨_,_,_,_,_,hq,.normal,hst,hg⟩
 | exit id'=>
  simp only[nB]at hq;simp only[Exit.inBlock];split
  ·rename_i he;rw[if_pos he]at hq;exact⟨_,_,_,_,_,hq,.normal,hst,hg⟩
  ·rename_i he;rw[if_neg he]at hq;exact⟨_,_,_,_,_,hq,.exit id',hst,hg⟩
 | goto l=>exact⟨_,_,_,_,_,hq,.goto l,hst,hg⟩
 | ret=>exact⟨_,_,_,_,_,hq,.ret,hst,hg⟩
 | panic v x h=>exact⟨_,_,_,_,_,hq,.panic v x h,hst,hg⟩
theorem FW.mono {c:Code}{Q':Ex→List V→aA→Prop}(h:FW E c Q T H)(hq:∀ e T H,Q e T H→Q' e T H):FW E c Q' T H:=fun D B0 w im γ a hS=>
 wp_mono (h D B0 w im γ a hS) fun e a' w' ⟨e',T',H',im',γ',k,r⟩=>⟨e',T',H',im',γ',hq _ _ _ k,r⟩
theorem cB {c:Code}(I:Nat→List V→aA→Prop){n:Nat}(h0:I n T H)
 (round:∀ n T H,I n T H→FW E c (fM (fun T' H'=>∃ m,m < n∧I m T' H') Q) T H):FW E (.loop c) Q T H:=by
 intro D B0 w im γ a hS b k cs;have key:∀ n T H w im γ a,I n T H→StR E D B0 w im γ T H a→∃ e a' w',kX E D B0 w im γ Q e a' w'∧Arrives E.P (lone (b.at a (.code c :: .inLoop c::k)) cs w) b k cs e a' w':=by
  intro n;induction n using Nat.strongRecOn with
  | _ n ih=>
   intro T H w im γ a hI hS;obtain⟨e,a₁,w₁,hq,harr⟩:=round n T H hI D B0 w im γ a hS b (.inLoop c::k) cs;obtain⟨e',T',H',im',γ',hq,hex,hst,hg⟩:=hq;cases hex with
   | normal=>
    obtain⟨m,hm,hI'⟩:=hq;obtain⟨e₂,a₂,w₂,hq₂,harr₂⟩:=ih m hm T' H' w₁ im' γ' a₁ hI' hst;exact⟨e₂,a₂,w₂,kX.goes hg _ _ _ hq₂,.of_steps (Steps.trans harr (.one step_inLoop)) harr₂⟩
   | exit id=>exact⟨_,a₁,w₁,⟨_,_,_,_,_,hq,.exit id,hst,hg⟩,.pass (x:=.inLoop c) rfl (fun _ _ => .inl (by simp)) harr⟩
   | goto l=>exact⟨_,a₁,w₁,⟨_,_,_,_,_,hq,.goto l,hst,hg⟩,.pass (x:=.inLoop c) rfl (fun _ _ => .inl (by simp)) harr⟩
   | ret=>exact⟨_,a₁,w₁,⟨_,_,_,_,_,hq,.ret,hst,hg⟩,.pass (x:=.inLoop c) rfl (fun _ _ => .inl (by simp)) harr⟩
   | panic v x hv=>exact⟨_,a₁,w₁,⟨_,_,_,_,_,hq,.panic v x hv,hst,hg⟩,.pass (x:=.inLoop c) rfl (fun _ _ => .inl (by simp)) harr⟩
 obtain⟨e,a',w',hq,harr⟩:=key n T H w im γ a h0 hS;exact⟨e,a',w',hq,.of_steps (.one step_loop) harr⟩
theorem FW.scope {c:Code}(J:Nat→Nat→List V→aA→Prop)(first:FW E c (aDr c (fun _ _ _=>False) Q) T H∨∃ n,FW E c (fun e T' H'=>match e with | .goto l=>(∃ r,findLabel c l=some r)∧J n l T' H' | e=>Q e T' H') T H)
 (pass:∀ n l r T H,findLabel c l=some r→J n l T H→FW E r (fun e T' H'=>match e with | .goto l=>(∃ r,findLabel c l=some r)∧∃ m,m < n∧J m l T' H' | e=>Q e T' H') T H):FW E (.scope c) Q T H:=by
 intro D B0 w im γ a hS b k cs;have key:∀ n l r T H w im γ a,findLabel c l=some r→J n l T H→StR E D B0 w im γ T H a→∃ e a' w',kX E D B0 w im γ Q e a' w'∧Arrives E.P (lone (b.at a (.code r :: .inScope c::k)) cs w) b k cs e a' w':=by
  intro n;induction n using Nat.strongRecOn with
  | _ n ih=>
   intro l r T H w im γ a hf hJ hS;obtain⟨e,a₁,w₁,hq,harr⟩:=pass n l r T H hf hJ D B0 w im γ a hS b (.inScope c::k) cs;obtain⟨e',T',H',im',γ',hq,hex,hst,hg⟩:=hq;cases hex with
   | normal=>exact⟨.normal,a₁,w₁,⟨_,_,_,_,_,hq,.normal,hst,hg⟩,Steps.trans harr (.one step_inScope)⟩
   | exit id=>exact⟨.exit id,a₁,w₁,⟨_,_,_,_,_,hq,.exit id,hst,hg⟩,fun k' hk=>harr k' (by simp[exitTo,hk])⟩
   | goto l'=>
    obtain⟨⟨r',hf'⟩,m,hm,hJ'⟩:=hq;obtain⟨e₂,a₂,w₂,hq₂,harr₂⟩:=ih m hm l' r' T' H' w₁ im' γ' a₁ hf' hJ' hst;exact⟨e₂,a₂,w₂,kX.goes hg _ _ _ hq₂,.of_steps (harr _ (by simp[gotoIn,hf'])) harr₂⟩
   | ret=>exact⟨_,a₁,w₁,⟨_,_,_,_,_,hq,.ret,hst,hg⟩,harr⟩
   | panic v x hv=>exact⟨_,a₁,w₁,⟨_,_,_,_,_,hq,.panic v x hv,hst,hg⟩,harr⟩
 have first':∃ n,FW E c (fun e T' H'=>match e with | .goto l=>((∃ r,findLabel c l=some r)∧J n l T' H')∨(findLabel c l=none∧Q (.goto l) T' H')|e=>Q e T' H') T H:=by
  rcases first with h|⟨n,h⟩
  ·refine⟨0,h.mono fun e T' H' hq=>?_⟩;cases e<;>simp only[aDr]at hq ⊢<;>try exact hq
   split at hq
   ·exact hq.elim
   ·rename_i hn;exact .inr ⟨hn,hq⟩
  ·refine⟨n,h.mono fun e T' H' hq=>?_⟩;cases e<;>simp only at hq ⊢<;>first|exact hq|exact .inl hq
 obtain⟨n,hfirst⟩:=first';obtain⟨e,a₁,w₁,hq,harr⟩:=hfirst D B0 w im γ a hS b (.inScope c::k) cs;obtain⟨e',T',H',im',γ',hq,hex,hst,hg⟩:=hq;cases hex with
 | normal=>exact⟨.normal,a₁,w₁,⟨_,_,_,_,_,hq,.normal,hst,hg⟩,.of_steps (.one step_scope) (Steps.trans harr (.one step_inScope))⟩
 | exit id=>exact⟨.exit id,a₁,w₁,⟨_,_,_,_,_,hq,.exit id,hst,hg⟩,.of_steps (m₁:=lone (b.at a (.code c :: .inScope c::k)) cs w) (.one step_scope) (fun k' hk=>harr k' (by simp[exitTo,hk]))⟩
 | goto l'=>
  rcases hq with ⟨⟨r',hf'⟩,hJ'⟩|⟨hn,hq⟩
  ·obtain⟨e₂,a₂,w₂,hq₂,harr₂⟩:=key n l' r' T' H' w₁ im' γ' a₁ hf' hJ' hst;exact⟨e₂,a₂,w₂,kX.goes hg _ _ _ hq₂,.of_steps (.head step_scope (harr _ (by simp[gotoIn,hf']))) harr₂⟩
  ·exact⟨.goto l',a₁,w₁,⟨_,_,_,_,_,hq,.goto l',hst,hg⟩,.of_steps (m₁:=lone (b.at a (.code c :: .inScope c::k)) cs w) (.one step_scope) (fun k' hk=>harr k' (by simp[gotoIn,hn,hk]))⟩
 | ret=>exact⟨_,a₁,w₁,⟨_,_,_,_,_,hq,.ret,hst,hg⟩,.of_steps (.one step_scope) harr⟩
 | panic v x hv=>exact⟨_,a₁,w₁,⟨_,_,_,_,_,hq,.panic v x hv,hst,hg⟩,.of_steps (.one step_scope) harr⟩
def dV (tab:cR)(rs:List ResultVar)(r:Res):Ex→List V→aA→Prop
 | .normal,T,H=>match jW tab rs T H with|some v=>(match fz H 8 v with|some v'=>r = .ret v' | none=>False)|none=>False
 | .ret,T,H=>match jW tab rs T H with|some v=>(match fz H 8 v with|some v'=>r = .ret v' | none=>False)|none=>False
 | .panic v,T,H=>match fz H 8 v with|some v'=>r = .pan v' | none=>False
 | _,_,_=>False
theorem PC.of' (hE:EnvOk E){f:FuncId}{fn:Func}{c:Code}{args:List V}{r:Res}(hf:E.P.funcs[f]?=some fn)(hb:fn.body=some c)(h:FW E c (dV E.tab fn.results.toList r) (args++List.replicate (fn.ntmps - args.length) undef) []):PC E.P E.g f args r:=by
 intro w im xs hG himlt hx;refine calls_of_wp hf hb ?_;have hlen:=hx.len;have htm:RvL w im (fun _=>none) (args++List.replicate (fn.ntmps - args.length) undef) ((⟨xs⟩:Array Value)++Array.replicate (fn.ntmps - (⟨xs⟩:Array Value).size) Go.undef).toList:=by
  have:(⟨xs⟩:Array Value).size=xs.length:=rfl;rw[this,hlen];simpa using hx.rv.append (fC (n:=fn.ntmps - args.length))
 have hR:RelH w im (fun _=>none) w.heap.size []:=⟨fun b s es ro h=>by simp at h,fun b b' s es ro s' es' ro' p p' _ h=>by simp at h,himlt,fun _ _=>rfl,Nat.le_refl _,⟨fun b o h=>by simp at h,fun b b' o o' p p' X _ h=>by simp at h⟩⟩;refine wp_mono (h [] w.heap.size w im _ {tmps:=(⟨xs⟩:Array Value)++Array.replicate (fn.ntmps - (⟨xs⟩:Array Value).size) Go.undef,defers:=[]} ⟨htm,hR,rfl,hG,E.g.le w hG⟩) ?_;rintro e a' w' ⟨e',T',H',im',γ',hq,hex,hst,hg⟩;have fin:∀(v v':V)(x:Value),Rv w' im' γ' v x→fz H' 8 v=some v'→Tv w' (newIm w w' im) v' x:=by
  intro v v' x hv hf;obtain⟨im2,s1,s2,s3,s4⟩:=mM (aU H' 8 v) hst.heap;have:=rM hst.heap s2 8 v v' x hv hf s3;refine this.keep fun B hB=>⟨?_,rfl⟩;rcases s4 B hB with h|h
  ·rcases hg.new B h with h|h
   ·exact .inl h
   ·exact .inr ⟨h,s1.imlt B hB⟩
  ·exact .inr ⟨h,s1.imlt B hB⟩
 cases hex with
 | normal=>
  simp only[dV]at hq;split at hq
  ·rename_i v hv;obtain⟨x,k1,k2⟩:=eN hE.tab hst hv;split at hq
   ·rename_i v' hf;subst hq;exact⟨hst.defers,x,k1,⟨x,rfl,fin v v' x k2 hf⟩,hg.below⟩
   ·exact hq.elim
  ·exact hq.elim
 | ret=>
  simp only[dV]at hq;split at hq
  ·rename_i v hv;obtain⟨x,k1,k2⟩:=eN hE.tab hst hv;split at hq
   ·rename_i v' hf;subst hq;exact⟨hst.defers,x,k1,⟨x,rfl,fin v v' x k2 hf⟩,hg.below⟩
   ·exact hq.elim
  ·exact hq.elim
 | panic v x hv=>
  simp only[dV]at hq;split at hq
  ·rename_i v' hf;subst hq;exact⟨hst.defers,⟨x,rfl,fin v v' x hv hf⟩,hg.below⟩
  ·exact hq.elim
 | exit id=>exact hq.elim
 | goto l=>exact hq.elim
theorem PC.of (hE:EnvOk E){f:FuncId}{fn:Func}{c:Code}{args:List V}{r:Res}{n:Nat}{rs:List ResultVar}(hf:E.P.funcs[f]?=some fn)(hn:fn.ntmps=n)(hr:fn.results=rs.toArray)(hb:fn.body=some c)
 (h:FW E c (dV E.tab rs r) (args++List.replicate (n - args.length) undef) []):PC E.P E.g f args r:=by
 refine PC.of' hE hf hb ?_;rw[hn,hr];simpa using h
theorem qH.ret {f:FuncId}{args l:List V}{dst:Option Tmp}{K:List V→aA→Prop}{v:V}(hl:args.mapM (fz H 8)=some l)(hp:PC E.P E.g f l (.ret v))(hk:K (put T dst v) (eA v H (args.flatMap (aU H 8)))):qH E f args dst T H K Q:=by
 unfold qH;rw[hl];exact⟨_,hp,hk⟩
theorem qH.pan {f:FuncId}{args l:List V}{dst:Option Tmp}{K:List V→aA→Prop}{v:V}(hl:args.mapM (fz H 8)=some l)(hp:PC E.P E.g f l (.pan v))(hk:Q (.panic v) T (eA v H (args.flatMap (aU H 8)))):qH E f args dst T H K Q:=by
 unfold qH;rw[hl];exact⟨_,hp,hk⟩
end
section
open Go Go.RowKit
def iT:List Nat:=[3,4,5,9,20,22,24,26,27,28,30,31,32,34,35,36,38,40,42,43,45,53,55,60,69,77,81,83,86,88,90,95,96,98,100,105,110,111,113,123,126,128,132,133,137,139,144,146,149,154,156,166,169,171,173,174,176,178,183,187,190,192,194,198,199,201,206,210,213,216,223,227,231,239,240,248,252,253,260,265,270,278,281,287,297,303,304,307,308,312,313,316,319,330,340,342,348,372,373,410]
def eqL:List Nat:=[24,38,40,42,210,216]
noncomputable def Mg (t:TypeId):TI:=
 match Tryz.prog.info? t,Tryz.prog.underlying t with
 | some i,some d=>⟨dA d,i.size,i.bytes,(match i.zero with|some z=>cD z|none => .any),eqL.contains t⟩
 | _,_=>⟨.other,0,0,.any,false⟩
noncomputable def tab (t:TypeId):TI:=if iT.contains t then Mg t else⟨.other,0,0,.any,false⟩
def zT:TD→Bool
 | .other=>false
 | _=>true
noncomputable def aBb (t:TypeId):Bool:=
 match Tryz.prog.info? t,Tryz.prog.underlying t with
 | some i,some d=>(match i.zero with|some z=>(cD z).fit && (cD z).cells.length == i.size|none=>false) && zT (dA d) && (match dA d with | .struct fs=>fs.all fun f=>iT.contains f.2|_=>true)
 | _,_=>false
theorem aBa:iT.all aBb=true:=by kernel_rfl
theorem aIg:tab 3=⟨.int .i64,1,8,.int .i64 0,false⟩:=by kernel_rfl
theorem aIf:tab 4=⟨.bool,1,1,.bool false,false⟩:=by kernel_rfl
theorem aIe:tab 5=⟨.int .u8,1,1,.int .u8 0,false⟩:=by kernel_rfl
theorem aId:tab 9=⟨.str,1,16,.str [],false⟩:=by kernel_rfl
theorem aCs:tab 20=⟨.iface false,1,16,.nili,false⟩:=by kernel_rfl
theorem aCr:tab 22=⟨.slice 40,1,24,.nils,false⟩:=by kernel_rfl
theorem Sq:tab 24=⟨.struct [(0,3),(1,3),(2,3)],3,24,.agg [.int .i64 0,.int .i64 0,.int .i64 0],true⟩:=by kernel_rfl
theorem aCq:tab 26=⟨.struct [(0,9),(1,22),(2,3),(3,3),(4,24)],7,80,.agg [.str [],.nils,.int .i64 0,.int .i64 0,.int .i64 0,.int .i64 0,.int .i64 0],false⟩:=by kernel_rfl
theorem aCp:tab 27=⟨.slice 60,1,24,.nils,false⟩:=by kernel_rfl
theorem aCo:tab 28=⟨.arr 3 3,3,24,.agg [.int .i64 0,.int .i64 0,.int .i64 0],false⟩:=by kernel_rfl
theorem aCn:tab 30=⟨.slice 156,1,24,.nils,false⟩:=by kernel_rfl
theorem aCm:tab 31=⟨.slice 100,1,24,.nils,false⟩:=by kernel_rfl
theorem aCl:tab 32=⟨.slice 3,1,24,.nils,false⟩:=by kernel_rfl
theorem aCk:tab 34=⟨.struct [(0,31),(1,32),(2,3)],3,56,.agg [.nils,.nils,.int .i64 0],false⟩:=by kernel_rfl
theorem Sp:tab 35=⟨.slice 69,1,24,.nils,false⟩:=by kernel_rfl
theorem aCj:tab 36=⟨.slice 38,1,24,.nils,false⟩:=by kernel_rfl
theorem Pp:tab 38=⟨.struct [(0,3),(1,3)],2,16,.agg [.int .i64 0,.int .i64 0],true⟩:=by kernel_rfl
theorem Np:tab 40=⟨.struct [(0,3),(1,3)],2,16,.agg [.int .i64 0,.int .i64 0],true⟩:=by kernel_rfl
theorem Lp:tab 42=⟨.struct [(0,3),(1,40)],3,24,.agg [.int .i64 0,.int .i64 0,.int .i64 0],true⟩:=by kernel_rfl
theorem aCi:tab 43=⟨.int .i64,1,8,.int .i64 0,false⟩:=by kernel_rfl
theorem aCh:tab 45=⟨.struct [(0,30),(1,24),(4,34),(7,35),(8,36),(9,38),(11,3),(12,3),(13,42),(16,43),(17,3),(18,3)],19,232,.agg [.nils,.int .i64 0,.int .i64 0,.int .i64 0,.nils,.nils,.int .i64 0,.nils,.nils,.int .i64 0,.int .i64 0,.int .i64 0,.int .i64 0,.int .i64 0,.int .i64 0,.int .i64 0,.int .i64 0,.int .i64 0,.int .i64 0],false⟩:=by kernel_rfl
theorem aCg:tab 53=⟨.slice 9,1,24,.nils,false⟩:=by kernel_rfl
theorem aCf:tab 55=⟨.slice 5,1,24,.nils,false⟩:=by kernel_rfl
theorem aCe:tab 60=⟨.struct [(0,3),(1,3),(2,4)],3,24,.agg [.int .i64 0,.int .i64 0,.bool false],false⟩:=by kernel_rfl
theorem aCd:tab 69=⟨.struct [(0,36),(1,3),(2,3),(3,3)],4,48,.agg [.nils,.int .i64 0,.int .i64 0,.int .i64 0],false⟩:=by kernel_rfl
theorem aCc:tab 77=⟨.struct [(0,27),(1,3)],2,32,.agg [.nils,.int .i64 0],false⟩:=by kernel_rfl
theorem aCb:tab 81=⟨.ptr,1,8,.nilp,false⟩:=by kernel_rfl
theorem aCa:tab 83=⟨.iface true,1,16,.nili,false⟩:=by kernel_rfl
theorem aBz:tab 86=⟨.ptr,1,8,.nilp,false⟩:=by kernel_rfl
theorem aBy:tab 88=⟨.struct [(0,86),(1,55)],2,32,.agg [.nilp,.nils],false⟩:=by kernel_rfl
theorem aBx:tab 90=⟨.struct [(0,88)],2,32,.agg [.nilp,.nils],false⟩:=by kernel_rfl
theorem aBw:tab 95=⟨.func,1,8,.nilf,false⟩:=by kernel_rfl
theorem aBv:tab 96=⟨.slice 216,1,24,.nils,false⟩:=by kernel_rfl
theorem aBu:tab 98=⟨.struct [(0,3),(1,3),(2,22),(3,22),(4,96),(5,3),(6,3),(7,3),(8,3),(9,3),(10,42),(13,38),(15,3)],16,176,.agg [.int .i64 0,.int .i64 0,.nils,.nils,.nils,.int .i64 0,.int .i64 0,.int .i64 0,.int .i64 0,.int .i64 0,.int .i64 0,.int .i64 0,.int .i64 0,.int .i64 0,.int .i64 0,.int .i64 0],false⟩:=by kernel_rfl
theorem Fs:tab 100=⟨.struct [(0,3),(1,4),(2,98)],18,192,.agg [.int .i64 0,.bool false,.int .i64 0,.int .i64 0,.nils,.nils,.nils,.int .i64 0,.int .i64 0,.int .i64 0,.int .i64 0,.int .i64 0,.int .i64 0,.int .i64 0,.int .i64 0,.int .i64 0,.int .i64 0,.int .i64 0],false⟩:=by kernel_rfl
theorem Es:tab 105=⟨.struct [(0,3),(1,43)],2,16,.agg [.int .i64 0,.int .i64 0],false⟩:=by kernel_rfl
theorem Ds:tab 110=⟨.ptr,1,8,.nilp,false⟩:=by kernel_rfl
theorem Cs:tab 111=⟨.arr 3 9,3,48,.agg [.str [],.str [],.str []],false⟩:=by kernel_rfl
theorem As:tab 113=⟨.struct [(0,45),(19,111),(22,28)],25,304,.agg [.nils,.int .i64 0,.int .i64 0,.int .i64 0,.nils,.nils,.int .i64 0,.nils,.nils,.int .i64 0,.int .i64 0,.int .i64 0,.int .i64 0,.int .i64 0,.int .i64 0,.int .i64 0,.int .i64 0,.int .i64 0,.int .i64 0,.str [],.str [],.str [],.int .i64 0,.int .i64 0,.int .i64 0],false⟩:=by kernel_rfl
theorem Zr:tab 123=⟨.struct [(0,45)],19,232,.agg [.nils,.int .i64 0,.int .i64 0,.int .i64 0,.nils,.nils,.int .i64 0,.nils,.nils,.int .i64 0,.int .i64 0,.int .i64 0,.int .i64 0,.int .i64 0,.int .i64 0,.int .i64 0,.int .i64 0,.int .i64 0,.int .i64 0],false⟩:=by kernel_rfl
theorem Yr:tab 126=⟨.slice 32,1,24,.nils,false⟩:=by kernel_rfl
theorem Xr:tab 128=⟨.struct [(0,30),(1,126)],2,48,.agg [.nils,.nils],false⟩:=by kernel_rfl
theorem Wr:tab 132=⟨.struct [(0,45),(19,128)],21,280,.agg [.nils,.int .i64 0,.int .i64 0,.int .i64 0,.nils,.nils,.int .i64 0,.nils,.nils,.int .i64 0,.int .i64 0,.int .i64 0,.int .i64 0,.int .i64 0,.int .i64 0,.int .i64 0,.int .i64 0,.int .i64 0,.int .i64 0,.nils,.nils],false⟩:=by kernel_rfl
theorem Vr:tab 133=⟨.func,1,8,.nilf,false⟩:=by kernel_rfl
theorem aEs:tab 137=⟨.map 38 38,1,8,.nilm,false⟩:=by kernel_rfl
theorem aEr:tab 139=⟨.struct [(0,45),(19,137)],20,240,.agg [.nils,.int .i64 0,.int .i64 0,.int .i64 0,.nils,.nils,.int .i64 0,.nils,.nils,.int .i64 0,.int .i64 0,.int .i64 0,.int .i64 0,.int .i64 0,.int .i64 0,.int .i64 0,.int .i64 0,.int .i64 0,.int .i64 0,.nilm],false⟩:=by kernel_rfl
theorem Ur:tab 144=⟨.func,1,8,.nilf,false⟩:=by kernel_rfl
theorem Tr:tab 146=⟨.struct [(0,69)],4,48,.agg [.nils,.int .i64 0,.int .i64 0,.int .i64 0],false⟩:=by kernel_rfl
theorem Sr:tab 149=⟨.struct [(0,30)],1,24,.agg [.nils],false⟩:=by kernel_rfl
theorem Rr:tab 154=⟨.slice 210,1,24,.nils,false⟩:=by kernel_rfl
theorem Qr:tab 156=⟨.struct [(0,3),(1,3),(2,3),(3,154)],4,48,.agg [.int .i64 0,.int .i64 0,.int .i64 0,.nils],false⟩:=by kernel_rfl
theorem Pr:tab 166=⟨.slice 77,1,24,.nils,false⟩:=by kernel_rfl
theorem Nr:tab 169=⟨.func,1,8,.nilf,false⟩:=by kernel_rfl
theorem Mr:tab 171=⟨.ptr,1,8,.nilp,false⟩:=by kernel_rfl
theorem Lr:tab 173=⟨.struct [(0,45),(19,60)],22,256,.agg [.nils,.int .i64 0,.int .i64 0,.int .i64 0,.nils,.nils,.int .i64 0,.nils,.nils,.int .i64 0,.int .i64 0,.int .i64 0,.int .i64 0,.int .i64 0,.int .i64 0,.int .i64 0,.int .i64 0,.int .i64 0,.int .i64 0,.int .i64 0,.int .i64 0,.bool false],false⟩:=by kernel_rfl
theorem Kr:tab 174=⟨.func,1,8,.nilf,false⟩:=by kernel_rfl
theorem Pg:tab 176=⟨.struct [(0,43)],1,8,.agg [.int .i64 0],false⟩:=by kernel_rfl
theorem Jr:tab 178=⟨.func,1,8,.nilf,false⟩:=by kernel_rfl
theorem Ir:tab 183=⟨.arr 4 5,4,4,.agg [.int .u8 0,.int .u8 0,.int .u8 0,.int .u8 0],false⟩:=by kernel_rfl
theorem Hr:tab 187=⟨.ptr,1,8,.nilp,false⟩:=by kernel_rfl
theorem Gr:tab 190=⟨.slice 4,1,24,.nils,false⟩:=by kernel_rfl
theorem Fr:tab 192=⟨.struct [(0,30),(1,156),(5,32),(6,190),(7,3)],8,128,.agg [.nils,.int .i64 0,.int .i64 0,.int .i64 0,.nils,.nils,.nils,.int .i64 0],false⟩:=by kernel_rfl
theorem Er:tab 194=⟨.slice 198,1,24,.nils,false⟩:=by kernel_rfl
theorem Dr:tab 198=⟨.struct [(0,3),(1,9)],2,24,.agg [.int .i64 0,.str []],false⟩:=by kernel_rfl
theorem Cr:tab 199=⟨.ptr,1,8,.nilp,false⟩:=by kernel_rfl
theorem Ar:tab 201=⟨.struct [(0,199),(1,3)],2,16,.agg [.nilp,.int .i64 0],false⟩:=by kernel_rfl
theorem Zq:tab 206=⟨.func,1,8,.nilf,false⟩:=by kernel_rfl
theorem Og:tab 210=⟨.struct [(0,3),(1,3),(2,3)],3,24,.agg [.int .i64 0,.int .i64 0,.int .i64 0],true⟩:=by kernel_rfl
theorem Yq:tab 213=⟨.slice 20,1,24,.nils,false⟩:=by kernel_rfl
theorem Ng:tab 216=⟨.struct [(0,3),(1,38),(3,42)],6,48,.agg [.int .i64 0,.int .i64 0,.int .i64 0,.int .i64 0,.int .i64 0,.int .i64 0],true⟩:=by kernel_rfl
theorem Xq:tab 223=⟨.func,1,8,.nilf,false⟩:=by kernel_rfl
theorem Vq:tab 227=⟨.func,1,8,.nilf,false⟩:=by kernel_rfl
theorem Uq:tab 231=⟨.func,1,8,.nilf,false⟩:=by kernel_rfl
theorem Tq:tab 239=⟨.func,1,8,.nilf,false⟩:=by kernel_rfl
theorem Rq:tab 240=⟨.ptr,1,8,.nilp,false⟩:=by kernel_rfl
theorem Qq:tab 248=⟨.func,1,8,.nilf,false⟩:=by kernel_rfl
theorem Pq:tab 252=⟨.ptr,1,8,.nilp,false⟩:=by kernel_rfl
theorem Oq:tab 253=⟨.func,1,8,.nilf,false⟩:=by kernel_rfl
theorem Nq:tab 260=⟨.struct [(0,3),(1,3),(2,3),(3,3),(4,22)],5,56,.agg [.int .i64 0,.int .i64 0,.int .i64 0,.int .i64 0,.nils],false⟩:=by kernel_rfl
theorem Mq:tab 265=⟨.ptr,1,8,.nilp,false⟩:=by kernel_rfl
theorem Lq:tab 270=⟨.int .u64,1,8,.int .u64 0,false⟩:=by kernel_rfl
theorem Kq:tab 278=⟨.func,1,8,.nilf,false⟩:=by kernel_rfl
theorem Jq:tab 281=⟨.func,1,8,.nilf,false⟩:=by kernel_rfl
theorem Iq:tab 287=⟨.func,1,8,.nilf,false⟩:=by kernel_rfl
theorem Hq:tab 297=⟨.struct [(0,3),(1,3)],2,16,.agg [.int .i64 0,.int .i64 0],false⟩:=by kernel_rfl
theorem Gq:tab 303=⟨.struct [(0,9),(1,3),(2,3),(3,3)],4,40,.agg [.str [],.int .i64 0,.int .i64 0,.int .i64 0],false⟩:=by kernel_rfl
theorem Fq:tab 304=⟨.arr 17 303,68,680,.agg [.str [],.int .i64 0,.int .i64 0,.int .i64 0,.str [],.int .i64 0,.int .i64 0,.int .i64 0,.str [],.int .i64 0,.int .i64 0,.int .i64 0,.str [],.int .i64 0,.int .i64 0,.int .i64 0,.str [],.int .i64 0,.int .i64 0,.int .i64 0,.str [],.int .i64 0,.int .i64 0,.int .i64 0,.str [],.int .i64 0,.int .i64 0,.int .i64 0,.str [],.int .i64 0,.int .i64 0,.int .i64 0,.str [],.int .i64 0,.int .i64 0,.int .i64 0,.str [],.int .i64 0,.int .i64 0,.int .i64 0,.str [],.int .i64 0,.int .i64 0,.int .i64 0,.str [],.int .i64 0,.int .i64 0,.int .i64 0,.str [],.int .i64 0,.int .i64 0,.int .i64 0,.str [],.int .i64 0,.int .i64 0,.int .i64 0,.str [],.int .i64 0,.int .i64 0,.int .i64 0,.str [],.int .i64 0,.int .i64 0,.int .i64 0,.str [],.int .i64 0,.int .i64 0,.int .i64 0],false⟩:=by kernel_rfl
theorem Dq:tab 307=⟨.slice 303,1,24,.nils,false⟩:=by kernel_rfl
theorem Cq:tab 308=⟨.func,1,8,.nilf,false⟩:=by kernel_rfl
theorem Aq:tab 312=⟨.ptr,1,8,.nilp,false⟩:=by kernel_rfl
theorem Zp:tab 313=⟨.struct [(0,45)],19,232,.agg [.nils,.int .i64 0,.int .i64 0,.int .i64 0,.nils,.nils,.int .i64 0,.nils,.nils,.int .i64 0,.int .i64 0,.int .i64 0,.int .i64 0,.int .i64 0,.int .i64 0,.int .i64 0,.int .i64 0,.int .i64 0,.int .i64 0],false⟩:=by kernel_rfl
theorem Yp:tab 316=⟨.ptr,1,8,.nilp,false⟩:=by kernel_rfl
theorem Xp:tab 319=⟨.struct [(0,98),(16,30),(17,210),(20,260)],25,280,.agg [.int .i64 0,.int .i64 0,.nils,.nils,.nils,.int .i64 0,.int .i64 0,.int .i64 0,.int .i64 0,.int .i64 0,.int .i64 0,.int .i64 0,.int .i64 0,.int .i64 0,.int .i64 0,.int .i64 0,.nils,.int .i64 0,.int .i64 0,.int .i64 0,.int .i64 0,.int .i64 0,.int .i64 0,.int .i64 0,.nils],false⟩:=by kernel_rfl
theorem Wp:tab 330=⟨.int .u32,1,4,.int .u32 0,false⟩:=by kernel_rfl
theorem Vp:tab 340=⟨.struct [(0,3),(1,43)],2,16,.agg [.int .i64 0,.int .i64 0],false⟩:=by kernel_rfl
theorem Up:tab 342=⟨.struct [(0,340),(2,9)],3,32,.agg [.int .i64 0,.int .i64 0,.str []],false⟩:=by kernel_rfl
theorem Tp:tab 348=⟨.slice 22,1,24,.nils,false⟩:=by kernel_rfl
theorem Rp:tab 372=⟨.ptr,1,8,.nilp,false⟩:=by kernel_rfl
theorem Mp:tab 410=⟨.flt .f64,1,8,.flt 0,false⟩:=by kernel_rfl
theorem Qp:tab 373=⟨.func,1,8,.nilf,false⟩:=by kernel_rfl
end
section
open Go Go.RowKit
def EqI (d:Nat)(t:TypeId)(n:Nat):Prop:=∀(p q:List Int)(w:World),p.length=n→q.length=n→
 (Op.equalIn d t (.agg (p.map (Value.int .i64)).toArray) (.agg (q.map (Value.int .i64)).toArray)).run Tryz.prog w = .ok (decide (p=q)) w
theorem Hz {p:List Int}(h:p.length=2):∃ a b,p=[a,b]:=by
 match p,h with
 | [a,b],_=>exact⟨a,b,rfl⟩
theorem Pm {p:List Int}(h:p.length=3):∃ a b c,p=[a,b,c]:=by
 match p,h with
 | [a,b,c],_=>exact⟨a,b,c,rfl⟩
theorem aLl {p:List Int}(h:p.length=6):∃ a b c d e f,p=[a,b,c,d,e,f]:=by
 match p,h with
 | [a,b,c,d,e,f],_=>exact⟨a,b,c,d,e,f,rfl⟩
theorem isAgg3 (w:World):(isAgg 3).run Tryz.prog w = .ok false w:=Tryz.isAgg3 w
theorem pS (xs:Array Value) (i:Nat) (w:World):(part 3 xs i).run Tryz.prog w=match xs[i]? with|some v => .ok v w|none => .halt (.stuck "part: no such cell") w:=by
 simp only[part,Sem.run_bind,isAgg3,Result.andThen_ok];rw[if_neg (by simp)];cases xs[i]?<;>rfl
theorem eq3 (d:Nat)(a b:Int)(w:World):(Op.equalIn (d+1) 3 (.int .i64 a) (.int .i64 b)).run Tryz.prog w = .ok (a == b) w:=run_equalIn_int w d 3 .i64 _ a b Tryz.underlying3
theorem wD (d:Nat) (f g:Field) (hf:f.name ≠ "_"∧f.type=3∧f.offset=0) (hg:g.name ≠ "_"∧g.type=3∧g.offset=1) (a b a' b':Int) (w:World) :
 (Op.eqFields (d+1) #[.int .i64 a,.int .i64 b] #[.int .i64 a',.int .i64 b'] [f,g]).run Tryz.prog w = .ok (decide ([a,b]=[a',b'])) w:=by
 simp only[Op.eqFields,hf.1,hg.1,hf.2.1,hg.2.1,hf.2.2,hg.2.2,ne_eq,not_false_eq_true,if_true,Sem.run_bind,pS,List.getElem?_toArray,List.getElem?_cons_zero,List.getElem?_cons_succ,Result.andThen_ok,eq3];by_cases h1:a=a'<;>by_cases h2:b=b'<;>simp[h1,h2,pS,eq3,hf,hg]
theorem qG (d:Nat) (f g h:Field) (hf:f.name ≠ "_"∧f.type=3∧f.offset=0) (hg:g.name ≠ "_"∧g.type=3∧g.offset=1) (hh:h.name ≠ "_"∧h.type=3∧h.offset=2) (a b c a' b' c':Int) (w:World) :
 (Op.eqFields (d+1) #[.int .i64 a,.int .i64 b,.int .i64 c] #[.int .i64 a',.int .i64 b',.int .i64 c'] [f,g,h]).run Tryz.prog w = .ok (decide ([a,b,c]=[a',b',c'])) w:=by
 simp only[Op.eqFields,hf.1,hg.1,hf.2.1,hg.2.1,hf.2.2,hg.2.2,hh.1,hh.2.1,hh.2.2,ne_eq,not_false_eq_true,if_true,Sem.run_bind,pS,List.getElem?_toArray,List.getElem?_cons_zero,List.getElem?_cons_succ,Result.andThen_ok,eq3];by_cases h1:a=a'<;>by_cases h2:b=b'<;>by_cases h3:c=c'<;>simp[h1,h2,h3,pS,eq3,hf,hg,hh]
theorem sX {t:TypeId}{l:List Field}(h:Tryz.prog.underlying t=some (.struct l.toArray)):Tryz.prog.fieldsOf t=l.toArray:=by
 simp[Program.fieldsOf,h]
theorem iC {t:TypeId}{l:List Field}(h:Tryz.prog.underlying t=some (.struct l.toArray))(hs:Tryz.prog.stoodInHeld t=false)(d:Nat)(xs ys:Array Value)(w:World) :
 (Op.equalIn (d+1) t (.agg xs) (.agg ys)).run Tryz.prog w=(Op.eqFields d xs ys l).run Tryz.prog w:=by
 rw[run_equalIn_struct w d t xs ys (by rw[sX h];exact h) hs,sX h]
theorem aEb (d:Nat):EqI (d+2) 38 2:=by
 intro p q w hp hq;obtain⟨a,b,rfl⟩:=Hz hp;obtain⟨a',b',rfl⟩:=Hz hq;exact(iC Tryz.underlying38 Tryz.stoodInHeld38 (d+1) _ _ w).trans (wD d _ _ ⟨by decide,rfl,rfl⟩ ⟨by decide,rfl,rfl⟩ a b a' b' w)
theorem aEa (d:Nat):EqI (d+2) 40 2:=by
 intro p q w hp hq;obtain⟨a,b,rfl⟩:=Hz hp;obtain⟨a',b',rfl⟩:=Hz hq;exact(iC Tryz.underlying40 Tryz.stoodInHeld40 (d+1) _ _ w).trans (wD d _ _ ⟨by decide,rfl,rfl⟩ ⟨by decide,rfl,rfl⟩ a b a' b' w)
theorem aMt (d:Nat):EqI (d+2) 24 3:=by
 intro p q w hp hq;obtain⟨a,b,c,rfl⟩:=Pm hp;obtain⟨a',b',c',rfl⟩:=Pm hq;exact(iC Tryz.underlying24 Tryz.stoodInHeld24 (d+1) _ _ w).trans (qG d _ _ _ ⟨by decide,rfl,rfl⟩ ⟨by decide,rfl,rfl⟩ ⟨by decide,rfl,rfl⟩ a b c a' b' c' w)
theorem aGx (d:Nat):EqI (d+2) 210 3:=by
 intro p q w hp hq;obtain⟨a,b,c,rfl⟩:=Pm hp;obtain⟨a',b',c',rfl⟩:=Pm hq;exact(iC Tryz.underlying210 Tryz.stoodInHeld210 (d+1) _ _ w).trans (qG d _ _ _ ⟨by decide,rfl,rfl⟩ ⟨by decide,rfl,rfl⟩ ⟨by decide,rfl,rfl⟩ a b c a' b' c' w)
theorem nI {t:TypeId}{n:Nat}(h1:∀ w,(isAgg t).run Tryz.prog w = .ok true w)(h2:∀ w,(sizeOf t).run Tryz.prog w = .ok n w)(xs:Array Value)(i:Nat)(w:World):(part t xs i).run Tryz.prog w = .ok (.agg (xs.extract i (i+n))) w:=by
 simp only[part,Sem.run_bind,h1,h2,Result.andThen_ok,if_true,Sem.run_pure]
theorem aDz (d:Nat):EqI (d+3) 42 3:=by
 intro p q w hp hq;obtain⟨a,b,c,rfl⟩:=Pm hp;obtain⟨a',b',c',rfl⟩:=Pm hq;refine(iC Tryz.underlying42 Tryz.stoodInHeld42 (d+2) _ _ w).trans ?_;have hv:∀(x y x' y':Int),(Op.equalIn (d+2) 40 (.agg #[.int .i64 x,.int .i64 y]) (.agg #[.int .i64 x',.int .i64 y'])).run Tryz.prog w = .ok (decide ([x,y]=[x',y'])) w:=fun x y x' y'=>aEa d [x,y] [x',y'] w rfl rfl;simp only[List.map_cons,List.map_nil];simp only[Op.eqFields,ne_eq,Sem.run_bind,pS,List.getElem?_toArray,List.getElem?_cons_zero,List.getElem?_cons_succ,Result.andThen_ok,eq3 (d+1),nI Tryz.isAgg40 Tryz.sizeOf40];have e1:(#[Value.int .i64 a,.int .i64 b,.int .i64 c]:Array Value).extract 1 (1+2) = #[.int .i64 b,.int .i64 c]:=rfl;have e2:(#[Value.int .i64 a',.int .i64 b',.int .i64 c']:Array Value).extract 1 (1+2) = #[.int .i64 b',.int .i64 c']:=rfl;by_cases h1:a=a'<;>by_cases h2:b=b'<;>by_cases h3:c=c'<;>simp[h1,h2,h3,hv,e1,e2,pS,eq3,nI Tryz.isAgg40 Tryz.sizeOf40]
theorem aGw (d:Nat):EqI (d+4) 216 6:=by
 intro p q w hp hq;obtain⟨a,b,c,e,f,g,rfl⟩:=aLl hp;obtain⟨a',b',c',e',f',g',rfl⟩:=aLl hq;refine(iC Tryz.underlying216 Tryz.stoodInHeld216 (d+3) _ _ w).trans ?_;have hk:∀(x y x' y':Int),(Op.equalIn (d+3) 38 (.agg #[.int .i64 x,.int .i64 y]) (.agg #[.int .i64 x',.int .i64 y'])).run Tryz.prog w = .ok (decide ([x,y]=[x',y'])) w:=fun x y x' y'=>aEb (d+1) [x,y] [x',y'] w rfl rfl;have ho:∀(x y z x' y' z':Int),(Op.equalIn (d+3) 42 (.agg #[.int .i64 x,.int .i64 y,.int .i64 z]) (.agg #[.int .i64 x',.int .i64 y',.int .i64 z'])).run Tryz.prog w = .ok (decide ([x,y,z]=[x',y',z'])) w:=fun x y z x' y' z'=>aDz d [x,y,z] [x',y',z'] w rfl rfl;simp only[List.map_cons,List.map_nil];simp only[Op.eqFields,ne_eq,Sem.run_bind,pS,List.getElem?_toArray,List.getElem?_cons_zero,List.getElem?_cons_succ,Result.andThen_ok,eq3 (d+2),nI Tryz.isAgg38 Tryz.sizeOf38,nI Tryz.isAgg42 Tryz.sizeOf42];have e1:(#[Value.int .i64 a,.int .i64 b,.int .i64 c,.int .i64 e,.int .i64 f,.int .i64 g]:Array Value).extract 1 (1+2) = #[.int .i64 b,.int .i64 c]:=rfl;have e2:(#[Value.int .i64 a',.int .i64 b',.int .i64 c',.int .i64 e',.int .i64 f',.int .i64 g']:Array Value).extract 1 (1+2) = #[.int .i64 b',.int .i64 c']:=rfl;have e3:(#[Value.int .i64 a,.int .i64 b,.int .i64 c,.int .i64 e,.int .i64 f,.int .i64 g]:Array Value).extract 3 (3+3) = #[.int .i64 e,.int .i64 f,.int .i64 g]:=rfl;have e4:(#[Value.int .i64 a',.int .i64 b',.int .i64 c',.int .i64 e',.int .i64 f',.int .i64 g']:Array Value).extract 3 (3+3) = #[.int .i64 e',.int .i64 f',.int .i64 g']:=rfl;by_cases h1:a=a'<;>by_cases h2:b=b'<;>by_cases h3:c=c'<;>by_cases h4:e=e'<;>by_cases h5:f=f'<;>by_cases h6:g=g'<;>simp[h1,h2,h3,h4,h5,h6,hk,ho,e1,e2,e3,e4,pS,eq3,nI Tryz.isAgg38 Tryz.sizeOf38,nI Tryz.isAgg42 Tryz.sizeOf42]
theorem zF {t n:Nat}(h:EqI 10000 t n)(hg:Tryz.prog.eqGuardType Tryz.prog.depth t=false)(p q:List Int)(x y:Operand)(w:World)(hp:p.length=n)(hq:q.length=n) :
 (∀ op,(eqGuard op t x y (.agg (p.map (Value.int .i64)).toArray) (.agg (q.map (Value.int .i64)).toArray)).run Tryz.prog w = .ok () w)∧(Op.equal t (.agg (p.map (Value.int .i64)).toArray) (.agg (q.map (Value.int .i64)).toArray)).run Tryz.prog w = .ok (decide (p=q)) w:=
 ⟨fun op=>run_eqGuard_agg w op t x y _ _ hg,h p q w hp hq⟩
theorem Um {c:Bool}{x y:TI}(hy:y.known=false)(h:(if c then x else y).known=true):c=true:=by
 cases c
 ·simp[hy]at h
 ·rfl
theorem Mz {c:Bool}{x y:TI}(hy:y.eq=false)(h:(if c then x else y).eq=true):c=true:=by
 cases c
 ·simp[hy]at h
 ·rfl
theorem qX {t:TypeId}(h:(tab t).known=true):iT.contains t=true∧tab t=Mg t:=by
 have hc:iT.contains t=true:=Um (c:=iT.contains t) (x:=Mg t) (y:=⟨.other,0,0,.any,false⟩) rfl h;exact⟨hc,if_pos hc⟩
theorem qT {l:List Nat}{f:Nat→Bool}(ha:l.all f=true){t:Nat}(h:l.contains t=true):f t=true:=by
 rw[List.all_eq_true]at ha;exact ha t (by simpa using h)
theorem pK {t:TypeId}(h:iT.contains t=true):aBb t=true:=qT aBa h
theorem aAg {t:Nat}(h:eqL.contains t=true):t=24∨t=38∨t=40∨t=42∨t=210∨t=216:=by
 simpa[eqL]using h
theorem qN {t:TypeId}(h:aBb t=true):∃ i d z,Tryz.prog.info? t=some i∧Tryz.prog.underlying t=some d∧i.zero=some z∧(cD z).fit=true∧(cD z).cells.length=i.size∧zT (dA d)=true∧(∀ fs,dA d = .struct fs→∀ f∈fs,iT.contains f.2=true)∧Mg t=⟨dA d,i.size,i.bytes,cD z,eqL.contains t⟩:=by
 unfold aBb at h;split at h
 ·rename_i i d h1 h2;simp only[Bool.and_eq_true]at h;obtain⟨⟨h3,h4⟩,h5⟩:=h;split at h3
  ·rename_i z hz;simp only[Bool.and_eq_true,beq_iff_eq]at h3;refine⟨i,d,z,h1,h2,hz,h3.1,h3.2,h4,fun fs hfs f hf=>?_,?_⟩
   ·rw[hfs]at h5;simp only[List.all_eq_true]at h5;exact h5 f hf
   ·unfold Mg;rw[h1,h2];simp only[hz]
  ·cases h3
 ·cases h
theorem Qd {t:TypeId}(h:iT.contains t=true):(tab t).known=true:=by
 obtain⟨i,d,z,h1,h2,h3,h4,h5,h6,h7,h8⟩:=qN (pK h);unfold tab;rw[if_pos h,h8];unfold TI.known;simp only;cases hd:dA d<;>simp[hd,zT]at h6 ⊢
theorem aLm (b:Bool)(i j:Int)(w:World):(Instr.checkKey b 10000 38 (.agg #[.int .i64 i,.int .i64 j])).run Tryz.prog w = .ok () w:=by
 have h3:∀(n:Nat)(x:Int),(Instr.checkKey b (n+1) 3 (.int .i64 x)).run Tryz.prog w = .ok () w:=fun n x=>by
  unfold Instr.checkKey;simp[run_underlying Tryz.underlying3]
 have e:(10000:Nat)=9998+1+1:=rfl;rw[e];unfold Instr.checkKey;simp[run_underlying Tryz.underlying38,pS,h3]
theorem aIc:TabOk Tryz.prog tab where
 key:=aLm
 ok t hk:=by
  obtain⟨hc,ht⟩:=qX hk;obtain⟨i,d,z,h1,h2,h3,h4,h5,h6,h7,h8⟩:=qN (pK hc);rw[ht,h8];exact⟨i,d,h1,h2,rfl,rfl,rfl,z,h3,rfl⟩
 eq t he p q x y w hp hq:=by
  have hc:iT.contains t=true:=Mz (y:=⟨.other,0,0,.any,false⟩) rfl he;obtain⟨i,d,z,h1,h2,h3,h4,h5,h6,h7,h8⟩:=qN (pK hc);have ht:tab t=Mg t:=if_pos hc;have h9:(Mg t).eq=eqL.contains t:=by rw[h8]
  rw[ht,h9]at he;rcases aAg he with rfl|rfl|rfl|rfl|rfl|rfl
  ·rw[Sq]at hp hq;exact zF (aMt 9998) Tryz.eqGuardType24 p q x y w hp hq
  ·rw[Pp]at hp hq;exact zF (aEb 9998) Tryz.eqGuardType38 p q x y w hp hq
  ·rw[Np]at hp hq;exact zF (aEa 9998) Tryz.eqGuardType40 p q x y w hp hq
  ·rw[Lp]at hp hq;exact zF (aDz 9997) Tryz.eqGuardType42 p q x y w hp hq
  ·rw[Og]at hp hq;exact zF (aGx 9998) Tryz.eqGuardType210 p q x y w hp hq
  ·rw[Ng]at hp hq;exact zF (aGw 9996) Tryz.eqGuardType216 p q x y w hp hq
 zer t hk:=by
  obtain⟨hc,ht⟩:=qX hk;obtain⟨i,d,z,h1,h2,h3,h4,h5,h6,h7,h8⟩:=qN (pK hc);rw[ht,h8];exact⟨h4,h5⟩
 fld t fs hd f hf:=by
  have hk:(tab t).known=true:=by unfold TI.known;rw[hd]
  obtain⟨hc,ht⟩:=qX hk;obtain⟨i,d,z,h1,h2,h3,h4,h5,h6,h7,h8⟩:=qN (pK hc);rw[ht,h8]at hd;exact Qd (h7 fs hd f hf)
 unk t hk:=by
  cases hc:iT.contains t with
  | true=>rw[Qd hc]at hk;cases hk
  | false=>unfold tab;rw[if_neg (by rw[hc];simp)]
end
end Go.Proofs.YtaimmacnafoanaaGreatDoor.F
namespace Go.Proofs.YtaimmacnafoanaaGreatDoor
open Go.Shelf Go.Proofs
def Tryz.cl235_ren:Go.Shelf.Ren:=⟨fun|41=>235|n=>n,fun|22=>36|23=>38|4=>4|n=>n,fun|n=>n⟩
theorem Tryz.cl235:Go.Proofs.SlLaysE0.n41 Tryz.prog Tryz.cl235_ren where
 mixed:=by kernel_rfl
 f41:=⟨ "slices.Clone[[]transhumance/api.Ref,transhumance/api.Ref]",by decide,Tryz.func235.trans (congrArg some (by kernel_rfl))⟩
 t4:=Tryz.underlying4
 a4:=Tryz.isAgg4
 z4:=Tryz.sizeOf4
 v4:=Tryz.zeroValue4
 t22:=Tryz.underlying36
 a22:=Tryz.isAgg36
 z22:=Tryz.sizeOf36
 v22:=Tryz.zeroValue36
def Tryz.cl146_ren:Go.Shelf.Ren:=⟨fun|41=>146|n=>n,fun|22=>96|23=>216|4=>4|n=>n,fun|n=>n⟩
theorem Tryz.cl146:Go.Proofs.SlLaysE0.n41 Tryz.prog Tryz.cl146_ren where
 mixed:=by kernel_rfl
 f41:=⟨ "slices.Clone[[]transhumance/api.Slot,transhumance/api.Slot]",by decide,Tryz.func146.trans (congrArg some (by kernel_rfl))⟩
 t4:=Tryz.underlying4
 a4:=Tryz.isAgg4
 z4:=Tryz.sizeOf4
 v4:=Tryz.zeroValue4
 t22:=Tryz.underlying96
 a22:=Tryz.isAgg96
 z22:=Tryz.sizeOf96
 v22:=Tryz.zeroValue96
def Tryz.cl231_ren:Go.Shelf.Ren:=⟨fun|41=>231|n=>n,fun|22=>31|23=>100|4=>4|n=>n,fun|n=>n⟩
theorem Tryz.cl231:Go.Proofs.SlLaysE0.n41 Tryz.prog Tryz.cl231_ren where
 mixed:=by kernel_rfl
 f41:=⟨ "slices.Clone[[]transhumance/api.Cell,transhumance/api.Cell]",by decide,Tryz.func231.trans (congrArg some (by kernel_rfl))⟩
 t4:=Tryz.underlying4
 a4:=Tryz.isAgg4
 z4:=Tryz.sizeOf4
 v4:=Tryz.zeroValue4
 t22:=Tryz.underlying31
 a22:=Tryz.isAgg31
 z22:=Tryz.sizeOf31
 v22:=Tryz.zeroValue31
def Tryz.cl232_ren:Go.Shelf.Ren:=⟨fun|41=>232|n=>n,fun|22=>32|23=>3|4=>4|n=>n,fun|n=>n⟩
theorem Tryz.cl232:Go.Proofs.SlLaysE0.n41 Tryz.prog Tryz.cl232_ren where
 mixed:=by kernel_rfl
 f41:=⟨ "slices.Clone[[]int,int]",by decide,Tryz.func232.trans (congrArg some (by kernel_rfl))⟩
 t4:=Tryz.underlying4
 a4:=Tryz.isAgg4
 z4:=Tryz.sizeOf4
 v4:=Tryz.zeroValue4
 t22:=Tryz.underlying32
 a22:=Tryz.isAgg32
 z22:=Tryz.sizeOf32
 v22:=Tryz.zeroValue32
def Tryz.cl234_ren:Go.Shelf.Ren:=⟨fun|41=>234|n=>n,fun|22=>35|23=>69|4=>4|n=>n,fun|n=>n⟩
theorem Tryz.cl234:Go.Proofs.SlLaysE0.n41 Tryz.prog Tryz.cl234_ren where
 mixed:=by kernel_rfl
 f41:=⟨ "slices.Clone[[]transhumance/api.Ring,transhumance/api.Ring]",by decide,Tryz.func234.trans (congrArg some (by kernel_rfl))⟩
 t4:=Tryz.underlying4
 a4:=Tryz.isAgg4
 z4:=Tryz.sizeOf4
 v4:=Tryz.zeroValue4
 t22:=Tryz.underlying35
 a22:=Tryz.isAgg35
 z22:=Tryz.sizeOf35
 v22:=Tryz.zeroValue35
def Tryz.cl284_ren:Go.Shelf.Ren:=⟨fun|41=>284|n=>n,fun|22=>22|23=>40|4=>4|n=>n,fun|n=>n⟩
theorem Tryz.cl284:Go.Proofs.SlLaysE0.n41 Tryz.prog Tryz.cl284_ren where
 mixed:=by kernel_rfl
 f41:=⟨ "slices.Clone[[]transhumance/api.Value,transhumance/api.Value]",by decide,Tryz.func284.trans (congrArg some (by kernel_rfl))⟩
 t4:=Tryz.underlying4
 a4:=Tryz.isAgg4
 z4:=Tryz.sizeOf4
 v4:=Tryz.zeroValue4
 t22:=Tryz.underlying22
 a22:=Tryz.isAgg22
 z22:=Tryz.sizeOf22
 v22:=Tryz.zeroValue22
end Go.Proofs.YtaimmacnafoanaaGreatDoor
namespace Go.Proofs.YtaimmacnafoanaaGreatDoor.F
section
open Go.Proofs.Tryz
open Go Go.RowKit Go.Shelf Go.Proofs
section
variable {ρ:Ren}
theorem nW {f:Nat}(L:SlLaysE0.n41 Tryz.prog ρ)(hf:ρ.f 41=f)(i0:TypeInfo)(z:Value)(s bytes:Nat)(hi:Tryz.prog.info? (ρ.t 23)=some i0)(hz0:i0.zero=some z)(hz1:i0.size=s)(hz2:i0.bytes=bytes)(hzs:z.cells.size=s)(hs:0 < s)
 (z23:∀ w,(Go.sizeOf (ρ.t 23)).run Tryz.prog w = .ok s w)(hB:bytes≤1024):qU Tryz.prog f s:=by
 subst hf;refine⟨ρ.t 23,fun w X cs n hlen hn h1 hX=>?_⟩;rcases hX with ⟨rfl,rfl⟩|⟨b,o,cap,rfl,hc⟩
 ·have hcs:cs=[]:=List.eq_nil_of_length_eq_zero (by simpa using hlen);subst hcs;exact(AnyE.slices_Clone_nil L 0 0 w).mono (by rintro e w' ⟨rfl,rfl⟩;exact⟨_,rfl,⟨by simp,.inl ⟨rfl,rfl⟩⟩,Below.refl _ _⟩)
 ·have hnb:n*bytes≤140737488355328:=Nat.le_trans (Nat.mul_le_mul hn hB) (by decide);refine(AnyE.slices_Clone L i0 z s bytes hi hz0 hz1 hz2 hzs hs z23 b o n cap cs w hlen (by simp[maxLen];omega) hnb (fun j u hj=>hc j u hj) (fun u hu=>h1 u hu)).mono ?_;rintro e w' ⟨v',rfl,ho,_,hB⟩;exact⟨v',rfl,ho,hB⟩
end
theorem aQk:(Tryz.prog.info? 38).map (fun i=>(i.zero,i.size,i.bytes))=some (some (.agg #[.int .i64 0,.int .i64 0]),2,16):=by kernel_rfl
theorem Pw:qU Tryz.prog 235 2:=by
 obtain⟨i0,hi,hz⟩:=Option.map_eq_some_iff.1 aQk;simp only[Prod.mk.injEq]at hz;exact nW Tryz.cl235 rfl i0 _ 2 16 hi hz.1 hz.2.1 hz.2.2 rfl (by omega) sizeOf38 (by omega)
theorem aQo:(Tryz.prog.info? 216).map (fun i=>(i.zero,i.size,i.bytes))=some (some (.agg #[.int .i64 0,.int .i64 0,.int .i64 0,.int .i64 0,.int .i64 0,.int .i64 0]),6,48):=by kernel_rfl
theorem Tw:qU Tryz.prog 146 6:=by
 obtain⟨i0,hi,hz⟩:=Option.map_eq_some_iff.1 aQo;simp only[Prod.mk.injEq]at hz;exact nW Tryz.cl146 rfl i0 _ 6 48 hi hz.1 hz.2.1 hz.2.2 rfl (by omega) sizeOf216 (by omega)
theorem aQn:(Tryz.prog.info? 100).map (fun i=>(i.zero,i.size,i.bytes))=some (some (.agg #[.int .i64 0,.bool false,.int .i64 0,.int .i64 0,.slice none 0 0,.slice none 0 0,.slice none 0 0,.int .i64 0,.int .i64 0,.int .i64 0,.int .i64 0,.int .i64 0,.int .i64 0,.int .i64 0,.int .i64 0,.int .i64 0,.int .i64 0,.int .i64 0]),18,192):=by kernel_rfl
theorem Sw:qU Tryz.prog 231 18:=by
 obtain⟨i0,hi,hz⟩:=Option.map_eq_some_iff.1 aQn;simp only[Prod.mk.injEq]at hz;exact nW Tryz.cl231 rfl i0 _ 18 192 hi hz.1 hz.2.1 hz.2.2 rfl (by omega) sizeOf100 (by omega)
theorem aQm:(Tryz.prog.info? 3).map (fun i=>(i.zero,i.size,i.bytes))=some (some (.int .i64 0),1,8):=by kernel_rfl
theorem Rw:qU Tryz.prog 232 1:=by
 obtain⟨i0,hi,hz⟩:=Option.map_eq_some_iff.1 aQm;simp only[Prod.mk.injEq]at hz;exact nW Tryz.cl232 rfl i0 _ 1 8 hi hz.1 hz.2.1 hz.2.2 rfl (by omega) sizeOf3 (by omega)
theorem aQl:(Tryz.prog.info? 69).map (fun i=>(i.zero,i.size,i.bytes))=some (some (.agg #[.slice none 0 0,.int .i64 0,.int .i64 0,.int .i64 0]),4,48):=by kernel_rfl
theorem Qw:qU Tryz.prog 234 4:=by
 obtain⟨i0,hi,hz⟩:=Option.map_eq_some_iff.1 aQl;simp only[Prod.mk.injEq]at hz;exact nW Tryz.cl234 rfl i0 _ 4 48 hi hz.1 hz.2.1 hz.2.2 rfl (by omega) sizeOf69 (by omega)
theorem aEi:(Tryz.prog.info? 40).map (fun i=>(i.zero,i.size,i.bytes))=some (some (.agg #[.int .i64 0,.int .i64 0]),2,16):=by kernel_rfl
theorem Ow:qU Tryz.prog 284 2:=by
 obtain⟨i0,hi,hz⟩:=Option.map_eq_some_iff.1 aEi;simp only[Prod.mk.injEq]at hz;exact nW Tryz.cl284 rfl i0 _ 2 16 hi hz.1 hz.2.1 hz.2.2 rfl (by omega) sizeOf40 (by omega)
def gZ (f:FuncId):Option Nat:=match f with|235=>some 2|146=>some 6|231=>some 18|232=>some 1|234=>some 4|284=>some 2|_=>none
theorem aMw (f:FuncId)(s:Nat)(h:gZ f=some s):qU Tryz.prog f s:=by
 unfold gZ at h;split at h<;>cases h
 ·exact Pw
 ·exact Tw
 ·exact Sw
 ·exact Rw
 ·exact Qw
 ·exact Ow
end
section
open Go Go.RowKit
def sD (f:FuncId):Bool:=false
def aEw (f:FuncId)(args:List V)(H:aA):Option V:=none
noncomputable abbrev En (g:Gl)(L:List Nat):Env:=⟨Tryz.prog,tab,g,fun f=>L.contains f,gZ,sD,aEw⟩
theorem Mm:(Tryz.prog.funcs.toList.all fun fn => !(fn.name == "runtime.NumGoroutine"))=true:=by kernel_rfl
theorem mB (g:Gl)(L:List Nat):EnvOk (En g L) where
 spc:=fun f args H v h=>by simp[sD]at h
 cln:=aMw
 tab:=aIc
 mixed:=by kernel_rfl
 names f fn h:=by
  have:=Mm;rw[List.all_eq_true]at this;have h2:=this fn (by
   have:Tryz.prog.funcs[f]?=some fn:=h;exact Array.mem_toList_iff.2 (Array.mem_of_getElem? this))
  simpa using h2
noncomputable abbrev P0:=Tryz.prog
end
section
open Go Go.RowKit
def gt (T:List V)(t:Nat):V:=T.getD t undef
def hb (H:aA)(b:Nat):Option Blk:=H[b]?
def gd (l:List Oper)(j:Nat):Option Tmp:=(l[j]?).bind (·.dst)
def fw3 (v:V)(w:Bool):Option Bool:=match v with | .bool b=>some (b == w) | .tup _=>some false|_=>none
def fw2 (d:Option Tmp)(T:List V)(w:Bool):Option Bool:=match d with|some d=>fw3 (gt T d) w|none=>some false
def xP (es:List V)(i:Nat):Option V:=es[i]?
def Iz (t:TI)(x:Option Blk)(i j:Nat):Option V:=match x with|some (.row _ es _)=>(match xP es i with|some e=>Fa t e.cells j|none=>none)|_=>none
def aFh (agg:Bool)(n:Nat)(cs:List V)(j:Nat):Option V:=if agg then(if j+n≤cs.length then some (.agg ((cs.drop j).take n))else none)else xP cs j
def stB (t:TI)(H:aA)(b:Nat)(x:Option Blk)(i j:Nat)(v:V):Option aA:=
 match x with
 | some (.row s es false)=>match xP es i with
  | some e=>if t.known=true∧v.cells.length=t.size∧j+v.cells.length≤e.cells.length then some (H.set b (.row s (es.set i (Ls e j v)) false))else none
  | none=>none
 | _=>none
def Lf (x:Option V)(l:Option (List V)):Option (List V):=match x,l with|some x,some l=>some (x::l)|_,_=>none
theorem fP {f:V→Option V}(v:V)(l:List V):(v::l).mapM f=Lf (f v) (l.mapM f):=by
 simp only[List.mapM_cons,Option.bind_eq_bind,Option.pure_def,Lf];cases f v<;>cases l.mapM f<;>rfl
theorem aL {tab:cR}{T:List V}{H:aA}(r:ResultVar)(l:List ResultVar):(r::l).mapM (iJ tab T H)=Lf (iJ tab T H r) (l.mapM (iJ tab T H)):=by
 simp only[List.mapM_cons,Option.bind_eq_bind,Option.pure_def,Lf];cases iJ tab T H r<;>cases l.mapM (iJ tab T H)<;>rfl
theorem aFg (d:TD)(n by_:Nat)(z:V)(e:Bool)(cs:List V)(j:Nat)(hk:TI.known ⟨d,n,by_,z,e⟩=true):Fa ⟨d,n,by_,z,e⟩ cs j=aFh (TI.isAgg ⟨d,n,by_,z,e⟩) n cs j:=by
 unfold Fa;rw[if_pos hk];rfl
theorem Ab (l:List Oper)(T:List V)(d:Option Tmp)(op:Op)(ty:TypeId)(p:String)(af:Array Edge)(j:Nat)(w:Bool):bK l.toArray T ⟨d,op,ty,p,af,some (j,w)⟩=fw2 (gd l j) T w:=by
 simp only[bK,gd,fw2,fw3,List.getElem?_toArray];cases (l[j]?).bind (·.dst)<;>rfl
theorem qB (tab:cR)(H:aA)(t:TypeId)(b i j:Nat):rJ tab H t (.ptr b i j)=Iz (tab t) (hb H b) i j:=by
 simp only[rJ,tF,Iz,hb,xP];cases H[b]? with
 | none=>rfl
 | some x=>cases x<;>simp<;>(rename_i s es ro;cases es[i]?<;>rfl)
theorem Yx (tab:cR)(H:aA)(t:TypeId)(b i j:Nat)(v:V):Ks tab H t (.ptr b i j) v=stB (tab t) H b (hb H b) i j v:=rfl
theorem W1:(∀(v:V) T,gt (v::T) 0=v)∧(∀(v:V) T t,gt (v::T) (t+1)=gt T t)∧(∀ T t,ev T (.tmp t)=gt T t)∧(∀ T v,ev T (.const v)=cD v)∧(∀ T f,ev T (.func f) = .fn f [] [])∧
 (∀ T v,put T none v=T)∧(∀(a:V) T v,put (a::T) (some 0) v=v::T)∧(∀(a:V) T d v,put (a::T) (some (d+1)) v=a::put T (some d) v)∧
 (∀(x:Blk) H,hb (x::H) 0=some x)∧(∀(x:Blk) H b,hb (x::H) (b+1)=hb H b)∧
 (∀(e:V) l,xP (e::l) 0=some e)∧(∀(e:V) l i,xP (e::l) (i+1)=xP l i)∧
 (∀(o:Oper) l,gd (o::l) 0=o.dst)∧(∀(o:Oper) l j,gd (o::l) (j+1)=gd l j)∧
 (∀ d T w,fw2 (some d) T w=fw3 (gt T d) w)∧(∀ b w,fw3 (.bool b) w=some (b == w))∧(∀ l w,fw3 (.tup l) w=some false)∧
 (∀ x l,Lf (some x) (some l)=some (x::l))∧(∀(v:V) H,FO.of (some v) H = .val v H)∧(∀ H,FO.unit (some H) = .val undef H):=
 ⟨fun _ _=>rfl,fun _ _ _=>rfl,fun _ _=>rfl,fun _ _=>rfl,fun _ _=>rfl,fun _ _=>rfl,fun _ _ _=>rfl,fun _ _ _ _=>rfl,fun _ _=>rfl,fun _ _ _=>rfl,fun _ _=>rfl,fun _ _ _=>rfl,fun _ _=>rfl,fun _ _ _=>rfl,fun _ _ _=>rfl,fun _ _=>rfl,fun _ _=>rfl,fun _ _=>rfl,fun _ _=>rfl,fun _=>rfl⟩
theorem W2:(∀ b,cD (.bool b) = .bool b)∧(∀ k n,cD (.int k n) = .int k n)∧(∀ l,cD (.string ⟨⟨l⟩⟩) = .str l)∧(cD (.pointer none) = .nilp)∧(cD (.slice none 0 0) = .nils)∧(cD .nilFunc = .nilf)∧(cD .nilIface = .nili)∧
 (∀ n b z e,TI.known ⟨.bool,n,b,z,e⟩=true)∧(∀ k n b z e,TI.known ⟨.int k,n,b,z,e⟩=true)∧(∀ n b z e,TI.known ⟨.str,n,b,z,e⟩=true)∧(∀ f n b z e,TI.known ⟨.struct f,n,b,z,e⟩=true)∧(∀ l t n b z e,TI.known ⟨.arr l t,n,b,z,e⟩=true)∧(∀ t n b z e,TI.known ⟨.slice t,n,b,z,e⟩=true)∧(∀ n b z e,TI.known ⟨.ptr,n,b,z,e⟩=true)∧(∀ n b z e,TI.known ⟨.func,n,b,z,e⟩=true)∧(∀ m n b z e,TI.known ⟨.iface m,n,b,z,e⟩=true)∧
 (∀ n b z e,TI.isAgg ⟨.bool,n,b,z,e⟩=false)∧(∀ k n b z e,TI.isAgg ⟨.int k,n,b,z,e⟩=false)∧(∀ n b z e,TI.isAgg ⟨.str,n,b,z,e⟩=false)∧(∀ f n b z e,TI.isAgg ⟨.struct f,n,b,z,e⟩=true)∧(∀ l t n b z e,TI.isAgg ⟨.arr l t,n,b,z,e⟩=true)∧(∀ t n b z e,TI.isAgg ⟨.slice t,n,b,z,e⟩=false)∧(∀ n b z e,TI.isAgg ⟨.ptr,n,b,z,e⟩=false)∧(∀ n b z e,TI.isAgg ⟨.func,n,b,z,e⟩=false)∧(∀ m n b z e,TI.isAgg ⟨.iface m,n,b,z,e⟩=false)∧
 (∀ cs,V.fit (.agg cs)=true)∧(∀ b,V.fit (.bool b)=true)∧(∀ k n,V.fit (.int k n)=true)∧(∀ s,V.fit (.str s)=true)∧(V.fit .nilp=true)∧(∀ b i j,V.fit (.ptr b i j)=true)∧(V.fit .nils=true)∧(∀ b i n,V.fit (.sl b i n)=true)∧(∀ es,V.fit (.imm es)=true)∧(∀ f p c,V.fit (.fn f p c)=true)∧(V.fit .nilf=true)∧(∀ t v,V.fit (.iface t v)=true)∧(V.fit .nili=true)∧
 (∀ cs,V.cells (.agg cs)=cs)∧(∀ b,V.cells (.bool b)=[.bool b])∧(∀ k n,V.cells (.int k n)=[.int k n])∧(∀ s,V.cells (.str s)=[.str s])∧(V.cells .nilp=[.nilp])∧(∀ b i j,V.cells (.ptr b i j)=[.ptr b i j])∧(V.cells .nils=[.nils])∧(∀ b i n,V.cells (.sl b i n)=[.sl b i n])∧(∀ es,V.cells (.imm es)=[.imm es])∧(∀ f p c,V.cells (.fn f p c)=[.fn f p c])∧(V.cells .nilf=[.nilf])∧(∀ t v,V.cells (.iface t v)=[.iface t v])∧(V.cells .nili=[.nili]):=by
 refine⟨?_,?_,?_,?_,?_,?_,?_,?_,?_,?_,?_,?_,?_,?_,?_,?_,?_,?_,?_,?_,?_,?_,?_,?_,?_,?_,?_,?_,?_,?_,?_,?_,?_,?_,?_,?_,?_,?_,?_,?_,?_,?_,?_,?_,?_,?_,?_,?_,?_,?_,?_⟩<;>intros<;>first|rfl|simp[cD]
def aBe (H:aA)(t:TypeId)(k:Bool):V→FO
 | .agg [.nilp,.nils]=>if k then .val (.ptr H.length 0 0) (H++[.bld t []])else .stuck
 | _ => .stuck
theorem Tn (tab:cR)(T:List V)(H:aA)(t:TypeId):bQ tab T H (.alloc t)=if qR t then aBe H t (tab t).known (tab t).zero else if(tab t).known then .val (.ptr H.length 0 0) (H++[.row (tab t).zero.cells.length [(tab t).zero] false])else .stuck:=by
 simp only[bQ,aBe];rfl
theorem W3 (tab:cR)(T:List V)(H:aA):(∀ x,bQ tab T H (.move x) = .val (ev T x) H)∧(∀ x,bQ tab T H (.assign x) = .val (ev T x) H)∧(∀ c a b,bQ tab T H (.pick c a b)=match ev T c with | .bool t => .val (if t then ev T a else ev T b) H|_ => .stuck)∧
 (∀ t,bQ tab T H (.alloc t)=if qR t then aBe H t (tab t).known (tab t).zero else if(tab t).known then .val (.ptr H.length 0 0) (H++[.row (tab t).zero.cells.length [(tab t).zero] false])else .stuck)∧
 (∀ t x,bQ tab T H (.box t x)=if(ev T x).fit then .val (.ptr H.length 0 0) (H++[.row (ev T x).cells.length [ev T x] false])else .stuck)∧
 (∀ t p,bQ tab T H (.load t p)=FO.of (rJ tab H t (ev T p)) H)∧(∀ t p x,bQ tab T H (.store t p x)=if(ev T x).fit then FO.unit (Ks tab H t (ev T p) (ev T x))else .stuck)∧
 (∀ x,bQ tab T H (.nilCheck x)=match ev T x with | .ptr b i j => .val (.ptr b i j) H | .ip e j => .val (.ip e j) H|_ => .stuck)∧
 (∀ op t x y u,bQ tab T H (.binOp op t x y u)=FO.of (dL tab op t (ev T x) (ev T y) (nM y)) H)∧(∀ op t x,bQ tab T H (.unOp op t x)=FO.of (unV op (ev T x)) H)∧(∀ s d x,bQ tab T H (.convert s d x)=mY tab H s d (ev T x))∧
 (∀ f p c,bQ tab T H (.makeFunc (.func f) p c) = .val (.fn f (p.toList.map (ev T)) (c.toList.map (ev T))) H)∧(∀ x ix,bQ tab T H (.extract x ix)=match ev T x with | .tup vs=>FO.of (xP vs ix) H|_ => .stuck)∧(∀ c,bQ tab T H (.call c)=dB tab H (ev T) c)∧
 (∀ b,unV .not (.bool b)=some (.bool !b))∧(∀ tab t k a b n,dL tab .eql t (.int k a) (.int k b) n=some (.bool (a == b)))∧(∀ tab t k a b n,dL tab .neq t (.int k a) (.int k b) n=some (.bool (a != b)))∧(∀ tab t k a b n,dL tab .lss t (.int k a) (.int k b) n=some (.bool (decide (a < b))))∧(∀ tab t k a b n,dL tab .leq t (.int k a) (.int k b) n=some (.bool (decide (a≤b))))∧
 (∀ tab t k a b n,dL tab .gtr t (.int k a) (.int k b) n=some (.bool (decide (b < a))))∧(∀ tab t k a b n,dL tab .geq t (.int k a) (.int k b) n=some (.bool (decide (b≤a))))∧(∀ tab t k a b n,dL tab .add t (.int k a) (.int k b) n=some (.int k (k.wrap (a+b))))∧(∀ tab t k a b n,dL tab .sub t (.int k a) (.int k b) n=some (.int k (k.wrap (a - b))))∧(∀ tab t k a b n,dL tab .mul t (.int k a) (.int k b) n=some (.int k (k.wrap (a*b)))):=by
 refine⟨?_,?_,?_,?_,?_,?_,?_,?_,?_,?_,?_,?_,?_,?_,?_,?_,?_,?_,?_,?_,?_,?_,?_,?_⟩<;>intros<;>first|rfl|exact Tn _ _ _ _|simp[dL,yR]
theorem aUx:(∀ t,qR t=(t == 88 || t == 90))∧(∀ H t k,aBe H t k (.agg [.nilp,.nils])=if k then .val (.ptr H.length 0 0) (H++[.bld t []])else .stuck):=⟨fun _=>rfl,fun _ _ _=>rfl⟩
section
variable {E:Env}{rec:mC}{ops:Array Oper}{Q:Ex→List V→aA→Prop}{o:Oper}{rest:List Oper}{T:List V}{H:aA}
def Hn (E:Env)(rec:mC)(o:Oper)(T:List V)(H:aA)(K:List V→aA→Prop)(Q:Ex→List V→aA→Prop)(w:Option Bool):Prop:=
 match w with
 | some true=>iZ E rec o T H K Q
 | some false=>K (put T o.dst undef) H
 | none=>False
end
def fk1 (E:Env)(rec:mC)(r:FO)(dst:Option Tmp)(T:List V)(H:aA)(K:List V→aA→Prop)(Q:Ex→List V→aA→Prop):Prop:=
 match r with
 | .val v H'=>K (put T dst v) H'
 | .call f args=>aZ E rec f args dst T H K Q
 | .panic v=>Q (.panic v) T H
 | .stuck=>False
theorem W4:(∀ E rec o T H K Q,Hn E rec o T H K Q (some true)=iZ E rec o T H K Q)∧(∀ E rec o T H K Q,Hn E rec o T H K Q (some false)=K (put T o.dst undef) H)∧
 (∀ ops T d op ty p af,bK ops T ⟨d,op,ty,p,af,none⟩=some true)∧(∀ l T d op ty p af j w,bK (List.toArray l) T ⟨d,op,ty,p,af,some (j,w)⟩=fw2 (gd l j) T w)∧
 (∀ E rec d op ty p af gu T H K Q,iZ E rec ⟨d,op,ty,p,af,gu⟩ T H K Q=fk1 E rec (bQ E.tab T H op) d T H K Q)∧(∀ E rec v H' d T H K Q,fk1 E rec (.val v H') d T H K Q=K (put T d v) H')∧(∀ E rec f args d T H K Q,fk1 E rec (.call f args) d T H K Q=aZ E rec f args d T H K Q)∧(∀ E rec v d T H K Q,fk1 E rec (.panic v) d T H K Q=Q (.panic v) T H)∧
 (∀ g L,(En g L).tab=tab)∧(∀ tab H t b i j,rJ tab H t (.ptr b i j)=Iz (tab t) (hb H b) i j)∧(∀ tab H t e j,rJ tab H t (.ip e j)=Fa (tab t) e.cells j)∧(∀ t s es ro i j,Iz t (some (.row s es ro)) i j=match xP es i with|some e=>Fa t e.cells j|none=>none)∧
 (∀ tab H t b i j v,Ks tab H t (.ptr b i j) v=stB (tab t) H b (hb H b) i j v)∧(∀ t H b s es i j v,stB t H b (some (.row s es false)) i j v=match xP es i with|some e=>if t.known=true∧v.cells.length=t.size∧j+v.cells.length≤e.cells.length then some (H.set b (.row s (es.set i (Ls e j v)) false))else none|none=>none)∧
 (∀ cs j,aFh false 1 cs j=xP cs j)∧(∀ n cs j,aFh true n cs j=if j+n≤cs.length then some (.agg ((cs.drop j).take n))else none):=by
 refine⟨?_,?_,?_,Ab,?_,?_,?_,?_,?_,qB,?_,?_,Yx,?_,?_,?_⟩<;>intros<;>rfl
theorem enter {g:Gl}{L:List Nat}{f:FuncId}{fn:Func}{c:Code}{n:Nat}{rs:List ResultVar}{args:List V}{dst:Option Tmp}{T:List V}{H:aA}{K:List V→aA→Prop}{Q:Ex→List V→aA→Prop}
 (hf:P0.funcs[f]?=some fn)(hn:fn.ntmps=n)(hr:fn.results=rs.toArray)(hb:fn.body=some c)(hc:sD f=false∧gZ f=none)(hL:L.contains f=false)(h:FW (En g L) c (iW tab rs T dst K Q) (args++List.replicate (n - args.length) undef) H):aZ (En g L) (FW (En g L)) f args dst T H K Q:=by
 unfold aZ;simp only[hf,hb,hc.1,hc.2,hL,Bool.false_eq_true,if_false,hn,hr];exact .inl h
theorem FW.split {E:Env}{Q:Ex→List V→aA→Prop}{T:List V}{H:aA}{x:Operand}{p q:Code}{t:Bool}(ht:ev T x = .bool t)(h1:t=true→FW E p Q T H)(h2:t=false→FW E q Q T H):FW E (.cond x p q) Q T H:=
 FW.cond ht (by cases t;exact h2 rfl;exact h1 rfl)
theorem W0:(∀(v:V) l,(v::l).length=l.length+1)∧(([]:List V).length=0)∧(∀(v:V) l m,(v::l)++m=v::(l++m))∧(∀ m:List V,[]++m=m)∧(∀(v:V),List.replicate 0 v=[])∧(∀(v:V) n,List.replicate (n+1) v=v::List.replicate n v)∧
 (∀ H,bH H []=H)∧(∀ v H,eA v H []=H)∧(∀ b H l,eA (.bool b) H l=H)∧(∀ k n H l,eA (.int k n) H l=H)∧(∀ s H l,eA (.str s) H l=H)∧(∀ f:V→List Nat,([]:List V).flatMap f=[])∧(∀(f:V→List Nat) v l,(v::l).flatMap f=f v++l.flatMap f)∧(∀ m:List Nat,[]++m=m)∧
 (∀ H n b,aU H (n+1) (.bool b)=[])∧(∀ H n k i,aU H (n+1) (.int k i)=[])∧(∀ H n s,aU H (n+1) (.str s)=[])∧(∀ H n l,aU H (n+1) (.imm l)=[])∧(∀ H n,aU H (n+1) .nils=[])∧(∀ H n l,aU H (n+1) (.agg l)=l.flatMap (aU H n))∧(∀ H n,aU H (n+1) .nilp=[]):=
 ⟨fun _ _=>rfl,rfl,fun _ _ _=>rfl,fun _=>rfl,fun _=>rfl,fun _ _=>rfl,fun _=>rfl,fun v H=>by unfold eA;split<;>rfl,fun _ _ _=>rfl,fun _ _ _ _=>rfl,fun _ _ _=>rfl,fun _=>rfl,fun _ _ _=>rfl,fun _=>rfl,fun _ _ _=>rfl,fun _ _ _ _=>rfl,fun _ _ _=>rfl,fun _ _ _=>rfl,fun _ _=>rfl,fun _ _ _=>rfl,fun _ _=>rfl⟩
end
section
open Go Go.RowKit
inductive Cl where
 | p|l|c|a|s
 deriving DecidableEq
def eU (sp:FuncId→Bool)(pcm:FuncId→Bool)(cln:FuncId→Option Nat)(tab:cR):Op→Cl
 | .move _ | .assign _ | .pick .. | .nilCheck _ | .binOp .. | .unOp .. | .makeInterface .. | .makeFunc .. | .fieldAddr .. | .field .. | .index .. | .typeAssert .. | .extract .. | .build .. => .p
 | .slice t ..=>match(tab t).desc with | .arr .. => .s|_ => .l
 | .load .. | .indexAddr .. => .l
 | .convert s d _=>match(tab s).desc,(tab d).desc with | .str,.slice _ => .a|_,_ => .l
 | .call c=>match c.callee with
  | .value (.func f)=>if sp f then .s else match cln f with|some _ => .a|none=>if pcm f then .c else .s
  | .builtin b=>match b with | .len | .max | .min => .p|_ => .s
  | _ => .s
 | .alloc _ | .box .. | .makeSlice .. | .buildSlice .. => .a
 | _ => .s
def kQ (H H':aA):Prop:=∀(b s:Nat)(es:List V)(ro:Bool),H[b]?=some (Blk.row s es ro)→∃ ro',H'[b]?=some (Blk.row s es ro')
theorem kQ.refl {H:aA}:kQ H H:=fun _ _ _ ro h=>⟨ro,h⟩
theorem kQ.trans {H H' H'':aA}(h:kQ H H')(k:kQ H' H''):kQ H H'':=fun b s es ro hb=>let ⟨_,h1⟩:=h b s es ro hb;k _ _ _ _ h1
theorem kQ.push {H xs:aA}:kQ H (H++xs):=fun b s es ro h=>⟨ro,by rw[List.getElem?_append_left (List.getElem?_eq_some_iff.1 h).1];exact h⟩
theorem kQ.seal1 {H:aA}{b:Nat}:kQ H (seal1 H b):=fun _ _ _ _ h=>sG h
theorem kQ.unseal1 {H:aA}{b:Nat}:kQ (F.seal1 H b) H:=fun _ _ _ _ h=>let ⟨ro',h1,_⟩:=nG h;⟨ro',h1⟩
theorem kQ.sealed:∀(ids:List Nat)(H:aA),kQ H (bH H ids)
 | [],H=>kQ.refl
 | b::ids,H=>(kQ.seal1 (b:=b)).trans (kQ.sealed ids _)
theorem kQ.unsealed:∀(ids:List Nat)(H:aA),kQ (bH H ids) H
 | [],H=>kQ.refl
 | b::ids,H=>(kQ.unsealed ids _).trans kQ.unseal1
theorem lB:∀(ids:List Nat)(H:aA),(bH H ids).length=H.length
 | [],H=>rfl
 | b::ids,H=>(lB ids _).trans rA
theorem Xg (H:aA)(a b:Nat):seal1 (seal1 H a) b=seal1 (seal1 H b) a:=by
 by_cases hab:a=b
 ·subst hab;rfl
 ·unfold seal1;cases ha:H[a]? with
  | none=>
   cases hb:H[b]? with
   | none=>simp[ha,hb]
   | some y=>
    cases y<;>simp[ha,hb,List.getElem?_set,Ne.symm hab]
  | some x=>
   cases hb:H[b]? with
   | none=>cases x<;>simp[ha,hb,List.getElem?_set,hab]
   | some y=>
    cases x<;>cases y<;>simp[ha,hb,List.getElem?_set,hab,Ne.symm hab];exact List.set_comm _ _ hab
theorem sF:∀(ids:List Nat)(H:aA)(a:Nat),bH (seal1 H a) ids=seal1 (bH H ids) a
 | [],H,a=>rfl
 | b::ids,H,a=>by
  show bH (seal1 (seal1 H a) b) ids=seal1 (bH (seal1 H b) ids) a;rw[Xg,sF ids]
theorem oO:∀(l m:List Nat)(H:aA),bH (bH H l) m=bH (bH H m) l
 | [],m,H=>rfl
 | a::l,m,H=>by
  show bH (bH (seal1 H a) l) m=bH (seal1 (bH H m) a) l;rw[oO l m,sF]
theorem Wg (H xs:aA)(b:Nat)(h:b < H.length):seal1 (H++xs) b=seal1 H b++xs:=by
 unfold seal1;rw[List.getElem?_append_left h];cases hb:H[b]? with
 | none=>rfl
 | some x=>cases x<;>simp[List.set_append_left _ _ h]
theorem oN:∀(ids:List Nat)(H xs:aA),(∀ b∈ids,b < H.length)→bH (H++xs) ids=bH H ids++xs
 | [],H,xs,_=>rfl
 | b::ids,H,xs,h=>by
  show bH (seal1 (H++xs) b) ids=bH (seal1 H b) ids++xs;rw[Wg _ _ _ (h b (by simp)),oN ids _ _ (fun c hc=>by rw[rA];exact h c (by simp[hc]))]
theorem Kc (v:V)(H:aA)(l:List Nat):eA v H l=bH H (if flat v then []else l):=by unfold eA;split<;>rfl
theorem kQ.len {H H':aA}(h:kQ H H'){b s:Nat}{es:List V}{ro:Bool}(hb:H[b]?=some (Blk.row s es ro)):b < H.length:=(List.getElem?_eq_some_iff.1 hb).1
theorem iM {H H':aA}{n:Nat}(ih:∀ v v',fz H n v=some v'→fz H' n v=some v'∧aU H' n v=aU H n v∧∀ b∈aU H n v,b < H.length) :
 ∀(l r:List V),l.mapM (fz H n)=some r→l.mapM (fz H' n)=some r∧l.flatMap (aU H' n)=l.flatMap (aU H n)∧∀ b∈l.flatMap (aU H n),b < H.length
 | [],r,h=>⟨h,rfl,by simp⟩
 | v::l,r,h=>by
  obtain⟨v',l',h1,h2,rfl⟩:=gU h;obtain⟨a1,a2,a3⟩:=ih _ _ h1;obtain⟨b1,b2,b3⟩:=iM ih l l' h2;refine⟨by simp[List.mapM_cons,a1,b1],by simp[List.flatMap_cons,a2,b2],?_⟩;intro b hb;rw[List.flatMap_cons]at hb;rcases List.mem_append.1 hb with hb|hb
  ·exact a3 b hb
  ·exact b3 b hb
theorem aGs {H H':aA}(hx:kQ H H'):∀(n:Nat)(v v':V),fz H n v=some v'→fz H' n v=some v'∧aU H' n v=aU H n v∧∀ b∈aU H n v,b < H.length:=by
 intro n;induction n with
 | zero=>intro v v' h;simp[fz]at h
 | succ n ih=>
  intro v v' h;cases v with
  | sl b i k=>
   simp only[fz]at h;cases hb:H[b]? with
   | none=>rw[hb]at h;cases h
   | some x=>
    cases x with
    | row s es ro=>
     obtain⟨ro',hb'⟩:=hx _ _ _ _ hb;rw[hb]at h;simp only at h;split at h
     ·rename_i hle;split at h
      ·rename_i l hl;split at h
       ·rename_i hall;obtain⟨m1,m2,m3⟩:=iM ih _ _ hl;cases h;refine⟨by simp only[fz,hb',hle,if_true,m1,hall],by simp only[aU,hb',hb,m2],?_⟩;simp only[aU,hb];intro c hc;rcases List.mem_cons.1 hc with hc|hc
        ·subst hc;exact(List.getElem?_eq_some_iff.1 hb).1
        ·exact m3 c hc
       ·cases h
      ·cases h
     ·cases h
    | _=>rw[hb]at h;cases h
  | agg l=>
   simp only[fz]at h;split at h
   ·rename_i r hr;obtain⟨m1,m2,m3⟩:=iM ih _ _ hr;exact⟨by simp only[fz,m1];exact h,m2,m3⟩
   ·cases h
  | tup l=>
   simp only[fz]at h;split at h
   ·rename_i r hr;obtain⟨m1,m2,m3⟩:=iM ih _ _ hr;exact⟨by simp only[fz,m1];exact h,m2,m3⟩
   ·cases h
  | iface t u=>
   simp only[fz]at h;split at h
   ·rename_i r hr;obtain⟨m1,m2,m3⟩:=ih _ _ hr;exact⟨by simp only[fz,m1];exact h,m2,m3⟩
   ·cases h
  | fn f p c=>cases p<;>cases c<;>simp only[fz]at h<;>first|(cases h;done)|exact⟨by simp only[fz];exact h,rfl,by simp[aU]⟩
  | _=>first|(simp only[fz]at h;exact⟨by simp only[fz];exact h,rfl,by simp[aU]⟩)|(simp only[fz]at h;cases h;done)
theorem Cu {H H':aA}(hx:kQ H H'){p:V}{x:V×Nat}(h:tF H p=some x):tF H' p=some x:=by
 cases p<;>simp only[tF]at h ⊢<;>try exact h
 rename_i b i j;cases hb:H[b]? with
 | none=>rw[hb]at h;cases h
 | some y=>
  cases y<;>rw[hb]at h<;>try (cases h;done)
  obtain⟨ro',hb'⟩:=hx _ _ _ _ hb;rw[hb'];exact h
theorem zG {H H':aA}(hx:kQ H H'){p:V}{x:List V}(h:bS H p=some x):bS H' p=some x:=by
 cases p<;>simp only[bS]at h ⊢<;>try exact h
 rename_i b i j;cases hb:H[b]? with
 | none=>rw[hb]at h;cases h
 | some y=>
  cases y<;>rw[hb]at h<;>try (cases h;done)
  obtain⟨ro',hb'⟩:=hx _ _ _ _ hb;rw[hb'];exact h
theorem sK {H H':aA}(hx:kQ H H'){b s:Nat}(h:dZ H b=some s):dZ H' b=some s:=by
 unfold dZ at h ⊢;cases hb:H[b]? with
 | none=>rw[hb]at h;cases h
 | some y=>
  cases y<;>rw[hb]at h<;>try (cases h;done)
  obtain⟨ro',hb'⟩:=hx _ _ _ _ hb;rw[hb'];exact h
def FO.nothing (r:aA→FO):Prop:=(∃ v,∀ H,r H = .val v H)∨∀ H,r H = .stuck
theorem FO.nothing_of (v:Option V):FO.nothing (FO.of v):=by cases v with|none=>exact .inr fun _=>rfl|some v=>exact .inl ⟨v,fun _=>rfl⟩
theorem Gk {sp:FuncId→Bool}{pcm:FuncId→Bool}{cln:FuncId→Option Nat}{tab:cR}{op:Op}(hc:eU sp pcm cln tab op = .p)(T:List V):FO.nothing (fun H=>bQ tab T H op):=by
 cases op<;>simp only[eU,reduceCtorEq]at hc
 case slice=>split at hc<;>cases hc
 case convert=>split at hc<;>cases hc
 case call c=>
  cases hcc:c.callee with
  | builtin b=>
   cases b<;>rw[hcc]at hc<;>simp only[reduceCtorEq]at hc;all_goals
    simp only[bQ,dB,hcc]
   case max=>exact FO.nothing_of _
   case min=>exact FO.nothing_of _
   split<;>first|exact .inr fun _=>rfl|exact FO.nothing_of _|(simp_all;done)
  | value f=>rw[hcc]at hc;cases f<;>simp only[reduceCtorEq]at hc;(repeat' (split at hc))<;>cases hc
  | invoke r m=>rw[hcc]at hc;simp only[reduceCtorEq]at hc
 case makeFunc fn first cap=>
  cases fn<;>first|exact .inr fun _=>rfl|exact .inl ⟨_,fun _=>rfl⟩
 all_goals
  simp only[bQ]
  (repeat' split)<;>first|exact .inr fun _=>rfl|exact .inl ⟨_,fun _=>rfl⟩|exact FO.nothing_of _
theorem kL {sp:FuncId→Bool}{pcm:FuncId→Bool}{cln:FuncId→Option Nat}{tab:cR}{op:Op}(hc:eU sp pcm cln tab op = .l)(T:List V)(H:aA):(∃ v,bQ tab T H op = .val v H∧∀ H',kQ H H'→bQ tab T H' op = .val v H')∨bQ tab T H op = .stuck:=by
 cases op<;>simp only[eU,reduceCtorEq]at hc
 case call c=>
  cases hcc:c.callee with
  | builtin b=>cases b<;>rw[hcc]at hc<;>simp only[reduceCtorEq]at hc
  | value f=>rw[hcc]at hc;cases f<;>simp only[reduceCtorEq]at hc;(repeat' (split at hc))<;>cases hc
  | invoke r m=>rw[hcc]at hc;simp only[reduceCtorEq]at hc
 case load t p=>
  simp only[bQ,rJ];cases h:tF H (ev T p)with
  | none=>exact .inr rfl
  | some x=>
   obtain⟨e,j⟩:=x;cases h2:Fa (tab t) e.cells j with
   | none=>exact .inr (by simp only[h2];rfl)
   | some v=>exact .inl ⟨v,by simp only[h2];rfl,fun H' hx=>by rw[Cu hx h];simp only[h2];rfl⟩
 case convert s d x=>
  simp only[bQ,mY];split
  ·exact .inl ⟨_,rfl,fun _ _=>rfl⟩
  ·exact .inl ⟨_,rfl,fun _ _=>rfl⟩
  ·rename_i k0 k b _ _ _;cases floatToIntVal .f64 b k with
   | none=>exact .inr rfl
   | some n=>exact .inl ⟨_,rfl,fun _ _=>rfl⟩
  ·exact .inl ⟨_,rfl,fun _ _=>rfl⟩
  ·exfalso;simp_all
  ·split
   ·exact .inr rfl
   ·cases he:bS H (ev T x)with
    | none=>
     right;split
     ·rename_i h3;cases h3
     ·rfl
    | some es=>
     split
     ·rename_i es' hd h3;cases h3;cases hb:(gD es)with
      | none=>exact .inr rfl
      | some r=>exact .inl ⟨_,rfl,fun H' hx=>by rw[zG hx he,hd];simp only[hb];rfl⟩
     ·exact .inr rfl
  ·exact .inr rfl
 case indexAddr t x ix=>
  simp only[bQ];split
  ·split
   ·rename_i h;exact .inl ⟨_,rfl,fun H' hx=>by rw[if_pos ⟨h.1,h.2.1,h.2.2.1,sK hx h.2.2.2⟩]⟩
   ·exact .inr rfl
  ·split
   ·split
    ·split
     ·exact .inl ⟨_,rfl,fun _ _=>rfl⟩
     ·exact .inr rfl
    ·exact .inr rfl
   ·exact .inr rfl
  ·split
   ·exact .inl ⟨_,rfl,fun _ _=>rfl⟩
   ·exact .inr rfl
  ·exact .inr rfl
 case slice t x lo hi mx=>
  simp only[bQ];split
  ·split
   ·exact .inl ⟨_,rfl,fun _ _=>rfl⟩
   ·split
    ·rename_i h;exact .inl ⟨_,rfl,fun H' hx=>by rw[if_pos ⟨h.1,sK hx h.2⟩]⟩
    ·exact .inr rfl
   ·split
    ·exact .inl ⟨_,rfl,fun _ _=>rfl⟩
    ·exact .inr rfl
   ·split
    ·exact .inl ⟨_,rfl,fun _ _=>rfl⟩
    ·exact .inr rfl
   ·rename_i hd _;rw[hd]at hc;cases hc
   ·exact .inr rfl
  ·exact .inr rfl
theorem Hk {sp:FuncId→Bool}{pcm:FuncId→Bool}{cln:FuncId→Option Nat}{tab:cR}{op:Op}(hc:eU sp pcm cln tab op = .a)(T:List V)(H:aA):(∃ v x,bQ tab T H op = .val v (H++x)∧∀ H',H'.length=H.length→bQ tab T H' op = .val v (H' ++ x))∨bQ tab T H op = .stuck∨∃ f args s,sp f=false∧cln f=some s∧∀ H,bQ tab T H op = .call f args:=by
 cases op<;>simp only[eU,reduceCtorEq]at hc
 case slice=>split at hc<;>cases hc
 case call c=>
  cases hcc:c.callee with
  | builtin b=>cases b<;>rw[hcc]at hc<;>simp only[reduceCtorEq]at hc
  | value f=>
   rw[hcc]at hc;cases f<;>simp only[reduceCtorEq]at hc;split at hc
   ·cases hc
   rename_i hsp;split at hc
   ·rename_i s hs;exact .inr (.inr ⟨_,c.args.toList.map (ev T),s,by simpa using hsp,hs,fun H=>by simp[bQ,dB,hcc,ev]⟩)
   ·split at hc<;>cases hc
  | invoke r m=>rw[hcc]at hc;simp only[reduceCtorEq]at hc
 case alloc=>
  simp only[bQ];split
  ·split
   ·split
    ·exact .inl ⟨_,_,rfl,fun H' hl=>by rw[hl]⟩
    ·exact .inr (.inl rfl)
   ·exact .inr (.inl rfl)
  ·split
   ·exact .inl ⟨_,_,rfl,fun H' hl=>by rw[hl]⟩
   ·exact .inr (.inl rfl)
 case box=>simp only[bQ];split;exact .inl ⟨_,_,rfl,fun H' hl=>by rw[hl]⟩;exact .inr (.inl rfl)
 case makeSlice=>
  simp only[bQ];split
  ·split
   ·exact .inl ⟨_,_,rfl,fun H' hl=>by rw[hl]⟩
   ·exact .inr (.inl rfl)
  ·exact .inr (.inl rfl)
 case buildSlice=>
  simp only[bQ];split
  ·split
   ·split
    ·exact .inl ⟨_,_,rfl,fun H' hl=>by rw[hl]⟩
    ·exact .inr (.inl rfl)
   ·exact .inr (.inl rfl)
  ·exact .inr (.inl rfl)
 case convert s d x=>
  simp only[bQ,mY];split
  ·exfalso;simp_all
  ·exfalso;simp_all
  ·exfalso;simp_all
  ·exfalso;simp_all
  ·split
   ·exact .inl ⟨_,_,rfl,fun H' hl=>by rw[hl]⟩
   ·exact .inr (.inl rfl)
  ·exfalso;simp_all
  ·exact .inr (.inl rfl)
theorem Gv {sp:FuncId→Bool}{pcm:FuncId→Bool}{cln:FuncId→Option Nat}{tab:cR}{op:Op}(hc:eU sp pcm cln tab op = .c)(T:List V):∃ f args,sp f=false∧pcm f=true∧cln f=none∧∀ H,bQ tab T H op = .call f args:=by
 cases op<;>simp only[eU,reduceCtorEq]at hc
 case slice=>split at hc<;>cases hc
 case convert=>split at hc<;>cases hc
 case call c=>
  cases hcc:c.callee with
  | builtin b=>cases b<;>rw[hcc]at hc<;>simp only[reduceCtorEq]at hc
  | invoke r m=>rw[hcc]at hc;simp only[reduceCtorEq]at hc
  | value f=>
   rw[hcc]at hc;cases f<;>simp only[reduceCtorEq]at hc;split at hc
   ·cases hc
   rename_i hsp;split at hc
   ·cases hc
   rename_i hn;split at hc
   ·rename_i hf;exact⟨_,c.args.toList.map (ev T),by simpa using hsp,hf,hn,fun H=>by simp[bQ,dB,hcc,ev]⟩
   ·cases hc
theorem Un {tab:cR}{T T':List V}{H:aA}{op:Op}(h:∀ x∈op.operands,ev T x=ev T' x):bQ tab T H op=bQ tab T' H op:=by
 have pairs:∀ ps:Array (Nat×Operand),(∀ x∈(ps.toList.map (·.2)).toArray,ev T x=ev T' x)→(ps.toList.map fun p=>(p.1,ev T p.2))=(ps.toList.map fun p=>(p.1,ev T' p.2)):=fun ps hp=>
  List.map_congr_left fun p hm=>by rw[hp p.2 (by simp only[List.mem_toArray];exact List.mem_map.2 ⟨p,hm,rfl⟩)]
 cases op<;>simp only[Op.operands]at h<;>simp only[bQ]
 case build t ps=>rw[pairs ps fun x hx=>h x (by simpa using hx)]
 case buildSlice t n ps=>rw[pairs ps fun x hx=>h x (by simpa using hx)]
 case makeFunc fn first captured=>
  have e1:first.toList.map (ev T)=first.toList.map (ev T'):=List.map_congr_left fun x hx=>h x (by simp;exact .inl (by simpa using hx))
  have e2:captured.toList.map (ev T)=captured.toList.map (ev T'):=List.map_congr_left fun x hx=>h x (by simp;exact .inr (by simpa using hx));cases fn<;>first|rfl|simp only[e1,e2]
 case call c=>
  have e1:c.args.toList.map (ev T)=c.args.toList.map (ev T'):=List.map_congr_left fun x hx=>h x (by simp[Call.operands];exact .inr (by simpa using hx));simp only[dB,e1];cases hc:c.callee with
  | value f=>have hf:ev T f=ev T' f:=h f (by simp[Call.operands,hc]);simp only[hf]
  | invoke r m=>rfl
  | builtin b=>rfl
 case slice t x lo hi mx=>cases lo<;>cases hi<;>cases mx<;>simp_all
 case makeMap t r=>cases r<;>rfl
 case lookup t m k ok=>
  have e1:ev T m=ev T' m:=h m (by simp);have e2:ev T k=ev T' k:=h k (by simp);cases ok<;>simp only[bQ,e1,e2]
 case mapUpdate t m k x=>
  have e1:ev T m=ev T' m:=h m (by simp);have e2:ev T k=ev T' k:=h k (by simp);have e3:ev T x=ev T' x:=h x (by simp);simp only[e1,e2,e3]
 all_goals (first|rfl|(simp_all;done))
theorem Pv {T:List V}{d:Option Tmp}{v:V}{x:Operand}(h:∀ t,d=some t→x ≠ .tmp t):ev (put T d v) x=ev T x:=by
 cases d with
 | none=>rfl
 | some t=>
  cases x with
  | tmp u=>
   have hne:t≠u:=fun e=>h t rfl (e▸rfl);simp[ev,put,List.getD,List.getElem?_set_ne hne]
  | _=>rfl
theorem jK {T:List V}{x y:Option Tmp}{v u:V}(h:∀ d,x=some d→y≠some d):put (put T x v) y u=put (put T y u) x v:=by
 cases x with
 | none=>rfl
 | some d=>
  cases y with
  | none=>rfl
  | some e=>
   have hne:d≠e:=fun he=>h d rfl (he▸rfl);exact List.set_comm _ _ hne
theorem iF {tab:cR}{T:List V}{H:aA}{ops:Array Oper}{o:Oper}{d:Option Tmp}{v:V}(h:∀ t,d=some t→t∉o.looksAt ops):bQ tab (put T d v) H o.op=bQ tab T H o.op:=
 Un fun x hx=>Pv fun t hd hxd=>h t hd (by
  subst hxd;exact List.mem_append_left _ (List.mem_filterMap.2 ⟨.tmp t,by simpa using hx,rfl⟩))
theorem dT {T:List V}{ops:Array Oper}{o:Oper}{d:Option Tmp}{v:V}(h:∀ t,d=some t→t∉o.looksAt ops):bK ops (put T d v) o=bK ops T o:=by
 cases d with
 | none=>rfl
 | some d=>
  unfold bK;cases hg:o.guard with
  | none=>rfl
  | some gw=>
   obtain⟨g,want⟩:=gw;simp only;cases ht:(ops[g]?).bind (·.dst)with
   | none=>rfl
   | some t=>
    have hne:d≠t:=fun e=>h d rfl (by subst e;simp[Oper.looksAt,hg,ht]);simp[put,List.getD,List.getElem?_set_ne hne]
section
variable {E:Env}{rec:mC}{ops:Array Oper}{Q:Ex→List V→aA→Prop}{o oi oj:Oper}{T:List V}{H H':aA}
def aBr (E:Env)(H:aA)(f:FuncId)(args:List V)(v:V)(ids:List Nat):Prop:=
 ∃ fn c l,E.P.funcs[f]?=some fn∧fn.body=some c∧E.sp f=false∧E.cln f=none∧E.pcm f=true∧args.mapM (fz H 8)=some l∧PC E.P E.g f l (.ret v)∧ids=if flat v then []else args.flatMap (aU H 8)
def aVa (E:Env)(H:aA)(f:FuncId)(args:List V)(v:V)(xs:aA):Prop:=
 ∃ fn c s u es,E.P.funcs[f]?=some fn∧fn.body=some c∧E.sp f=false∧E.cln f=some s∧args=[u]∧bS H u=some es∧(aQ s es=true∧u.isStr=false∧es.length≤1073741824)∧v = .sl H.length 0 es.length∧xs=[.row s es false]
def gO (E:Env)(ops:Array Oper)(o:Oper)(T:List V)(H:aA)(v:V)(ids:List Nat)(xs:aA):Prop:=
 (bK ops T o=some false∧v=undef∧ids=[]∧xs=[])∨
 (bK ops T o=some true∧((ids=[]∧bQ E.tab T H o.op = .val v (H++xs))∨(xs=[]∧∃ f args,bQ E.tab T H o.op = .call f args∧aBr E H f args v ids)∨(ids=[]∧∃ f args,bQ E.tab T H o.op = .call f args∧aVa E H f args v xs)))
def hZ (Q:Ex→List V→aA→Prop):Prop:=∀ v T H,¬Q (.panic v) T H
theorem gO.go {i:Nat}(hi:ops[i]?=some o){K:List V→aA→Prop}{v:V}{ids:List Nat}{xs:aA}(h:gO E ops o T H v ids xs)(hk:K (put T o.dst v) (bH H ids++xs)):eL E rec ops Q i K T H:=by
 unfold eL;simp only[hi];rcases h with ⟨h1,rfl,rfl,rfl⟩|⟨h1,⟨rfl,h2⟩|⟨rfl,f,args,h2,fn,c,l,h3,h4,hsp,h0,h5,h6,h7,rfl⟩|⟨rfl,f,args,h2,fn,c,s,u,es,h3,h4,hsp,h5,rfl,h6,h7,rfl,rfl⟩⟩
 ·simp only[h1];simpa[bH]using hk
 ·simp only[h1,iZ,h2];simpa[bH]using hk
 ·simp only[h1,iZ,h2,aZ,h3,h4,h5,h0,hsp,Bool.false_eq_true,if_false,if_true];exact qH.ret h6 h7 (by rw[Kc];simpa using hk)
 ·simp only[h1,iZ,h2,aZ,h3,h4,h5,hsp,Bool.false_eq_true,if_false,Ci,h6,h7,and_self,if_true];simpa[bH]using hk
theorem gO.of {i:Nat}(hi:ops[i]?=some o)(hQ:hZ Q)(hc:eU E.sp E.pcm E.cln E.tab o.op ≠ .s){K:List V→aA→Prop}(h:eL E rec ops Q i K T H) :
 ∃ v ids xs,gO E ops o T H v ids xs∧K (put T o.dst v) (bH H ids++xs)∧(eU E.sp E.pcm E.cln E.tab o.op ≠ .a→xs=[])∧(eU E.sp E.pcm E.cln E.tab o.op ≠ .c→ids=[]):=by
 unfold eL at h;simp only[hi]at h;cases hw:bK ops T o with
 | none=>rw[hw]at h;exact h.elim
 | some b=>
  rw[hw]at h;cases b with
  | false=>exact⟨undef,[],[],.inl ⟨hw,rfl,rfl,rfl⟩,by simpa[bH]using h,fun _=>rfl,fun _=>rfl⟩
  | true=>
   simp only[iZ]at h;cases hcl:eU E.sp E.pcm E.cln E.tab o.op with
   | s=>exact absurd hcl hc
   | p=>
    rcases Gk hcl T with ⟨v,hv⟩|hv
    ·have hv:bQ E.tab T H o.op = .val v H:=hv H;rw[hv]at h;exact⟨v,[],[],.inr ⟨hw,.inl ⟨rfl,by simpa using hv⟩⟩,by simpa[bH]using h,fun _=>rfl,fun _=>rfl⟩
    ·rw[show bQ E.tab T H o.op = .stuck from hv H]at h;exact h.elim
   | l=>
    rcases kL hcl T H with ⟨v,hv,_⟩|hv
    ·rw[hv]at h;exact⟨v,[],[],.inr ⟨hw,.inl ⟨rfl,by simpa using hv⟩⟩,by simpa[bH]using h,fun _=>rfl,fun _=>rfl⟩
    ·rw[hv]at h;exact h.elim
   | a=>
    rcases Hk hcl T H with ⟨v,x,hv,_⟩|hv|⟨f,args,s,hsp,hf,hv0⟩
    ·rw[hv]at h;exact⟨v,[],x,.inr ⟨hw,.inl ⟨rfl,hv⟩⟩,by simpa[bH]using h,fun h=>absurd rfl h,fun _=>rfl⟩
    ·rw[hv]at h;exact h.elim
    ·have hv:=hv0 H;clear hv0;rw[hv]at h;simp only[aZ]at h;cases hfn:E.P.funcs[f]? with
     | none=>rw[hfn]at h;exact h.elim
     | some fn=>
      rw[hfn]at h;cases hb:fn.body with
      | none=>simp only[hb]at h
      | some c=>
       simp only[hb,hf,hsp,Bool.false_eq_true,if_false]at h;unfold Ci at h;split at h
       case h_2=>exact h.elim
       rename_i u;split at h
       case h_2=>exact h.elim
       rename_i es hes;split at h
       case isFalse=>exact h.elim
       rename_i hcond;exact⟨_,[],_,.inr ⟨hw,.inr (.inr ⟨rfl,f,_,hv,fn,c,s,u,es,hfn,hb,hsp,hf,rfl,hes,hcond,rfl,rfl⟩)⟩,by simpa[bH]using h,fun h=>absurd rfl h,fun _=>rfl⟩
   | c=>
    obtain⟨f,args,hsp,hf,hcn,hv⟩:=Gv hcl T;have hv:=hv H;rw[hv]at h;simp only[aZ]at h;cases hfn:E.P.funcs[f]? with
    | none=>rw[hfn]at h;exact h.elim
    | some fn=>
     rw[hfn]at h;cases hb:fn.body with
     | none=>simp only[hb]at h
     | some c=>
      simp only[hb,hf,hcn,hsp,Bool.false_eq_true,if_false,if_true,qH]at h;cases hl:args.mapM (fz H 8)with
      | none=>rw[hl]at h;exact h.elim
      | some l=>
       rw[hl]at h;obtain⟨r,hp,hr⟩:=h;cases r with
       | ret v=>exact⟨v,_,[],.inr ⟨hw,.inr (.inl ⟨rfl,f,args,hv,fn,c,l,hfn,hb,hsp,hcn,hf,hl,hp,rfl⟩)⟩,by rw[List.append_nil,←Kc];exact hr,fun _=>rfl,fun h=>absurd rfl h⟩
       | pan v=>exact absurd hr (hQ _ _ _)
theorem aBr.ext (hx:kQ H H'){f:FuncId}{args:List V}{v:V}{ids:List Nat}(h:aBr E H f args v ids):aBr E H' f args v ids∧∀ b∈ids,b < H.length:=by
 obtain⟨fn,c,l,h3,h4,hsp,h0,h5,h6,h7,rfl⟩:=h;obtain⟨m1,m2,m3⟩:=iM (fun v v'=>aGs hx 8 v v') _ _ h6;exact⟨⟨fn,c,l,h3,h4,hsp,h0,h5,m1,h7,by rw[m2]⟩,fun b hb=>by split at hb;simp at hb;exact m3 b hb⟩
theorem gO.ids_lt {v:V}{ids:List Nat}{xs:aA}(h:gO E ops o T H v ids xs):∀ b∈ids,b < H.length:=by
 rcases h with ⟨_,_,rfl,_⟩|⟨_,⟨rfl,_⟩|⟨_,_,_,_,hc⟩|⟨rfl,_⟩⟩
 ·simp
 ·simp
 ·exact(hc.ext kQ.refl).2
 ·simp
theorem gO.ext (hx:kQ H H')(hc:eU E.sp E.pcm E.cln E.tab o.op = .l∨eU E.sp E.pcm E.cln E.tab o.op = .c){v:V}{ids:List Nat}(h:gO E ops o T H v ids []):gO E ops o T H' v ids []:=by
 rcases h with h|⟨h1,⟨rfl,h2⟩|⟨_,f,args,h2,h3⟩|⟨_,f,args,h2,fn,c,s,u,es,_,_,_,_,_,_,_,_,h3⟩⟩
 rotate_right 1
 ·cases h3
 ·exact .inl h
 ·refine .inr ⟨h1,.inl ⟨rfl,?_⟩⟩;rcases hc with hc|hc
  ·rcases kL hc T H with ⟨u,hu,hu'⟩|hu
   ·rw[hu]at h2;injection h2 with h3 h4
    subst h3;rw[hu' _ hx];simp
   ·rw[hu]at h2;cases h2
  ·obtain⟨f,args,_,_,_,hv⟩:=Gv hc T;rw[hv]at h2;cases h2
 ·refine .inr ⟨h1,.inr (.inl ⟨rfl,f,args,?_,(h3.ext hx).1⟩)⟩;rcases hc with hc|hc
  ·rcases kL hc T H with ⟨u,hu,hu'⟩|hu<;>rw[hu]at h2<;>cases h2
  ·obtain⟨f',args',_,_,_,hv⟩:=Gv hc T;rw[hv]at h2 ⊢;exact h2
theorem gO.any (hc:eU E.sp E.pcm E.cln E.tab o.op = .p){v:V}{ids:List Nat}{xs:aA}(h:gO E ops o T H v ids xs)(H':aA):gO E ops o T H' v ids xs∧ids=[]∧xs=[]:=by
 rcases h with ⟨h1,h2,rfl,rfl⟩|⟨h1,⟨rfl,h2⟩|⟨_,f,args,h2,h3⟩|⟨_,f,args,h2,h3⟩⟩
 ·exact⟨.inl ⟨h1,h2,rfl,rfl⟩,rfl,rfl⟩
 ·rcases Gk hc T with ⟨u,hu⟩|hu
  ·have e:=hu H;have e':=hu H';simp only at e e';rw[e]at h2;injection h2 with h2 h3
   have:xs=[]:=by simpa using h3
   subst this h2;exact⟨.inr ⟨h1,.inl ⟨rfl,by rw[e'];simp⟩⟩,rfl,rfl⟩
  ·have e:=hu H;simp only at e;rw[e]at h2;cases h2
 ·rcases Gk hc T with ⟨u,hu⟩|hu<;>(have e:=hu H;simp only at e;rw[e]at h2;cases h2)
 ·rcases Gk hc T with ⟨u,hu⟩|hu<;>(have e:=hu H;simp only at e;rw[e]at h2;cases h2)
theorem gO.same (hx:kQ H H')(hl:H'.length=H.length)(hc:eU E.sp E.pcm E.cln E.tab o.op ≠ .s){v:V}{ids:List Nat}{xs:aA}(hxs:eU E.sp E.pcm E.cln E.tab o.op ≠ .a→xs=[])(h:gO E ops o T H v ids xs):gO E ops o T H' v ids xs:=by
 cases hcl:eU E.sp E.pcm E.cln E.tab o.op with
 | s=>exact absurd hcl hc
 | p=>exact(h.any hcl H').1
 | l=>obtain rfl:=hxs (by rw[hcl];simp);exact h.ext hx (.inl hcl)
 | c=>obtain rfl:=hxs (by rw[hcl];simp);exact h.ext hx (.inr hcl)
 | a=>
  rcases h with h|⟨h1,⟨rfl,h2⟩|⟨_,f,args,h2,h3⟩|⟨rfl,f,args,h2,fn,c,s,u,es,g1,g2,gsp,g3,rfl,g4,g5,rfl,rfl⟩⟩
  rotate_right 1
  ·refine .inr ⟨h1,.inr (.inr ⟨rfl,f,_,?_,fn,c,s,u,es,g1,g2,gsp,g3,rfl,zG hx g4,g5,by rw[hl],rfl⟩)⟩;rcases Hk hcl T H with ⟨u,x,hu,hu'⟩|hu|⟨f',args',s',_,hf',hu⟩
   ·rw[hu]at h2;cases h2
   ·rw[hu]at h2;cases h2
   ·rw[hu]at h2 ⊢;exact h2
  ·exact .inl h
  ·rcases Hk hcl T H with ⟨u,x,hu,hu'⟩|hu|⟨f',args',s',_,hf',hu⟩
   ·rw[hu]at h2;injection h2 with h2 h3
    have:x=xs:=List.append_cancel_left h3;subst this h2;exact .inr ⟨h1,.inl ⟨rfl,hu' _ hl⟩⟩
   ·rw[hu]at h2;cases h2
   ·rw[hu]at h2;cases h2
  ·rcases Hk hcl T H with ⟨u,x,hu,hu'⟩|hu|⟨f',args',s',_,hf',hu⟩
   ·rw[hu]at h2;cases h2
   ·rw[hu]at h2;cases h2
   ·obtain⟨_,_,_,_,_,_,h0,_⟩:=h3;rw[hu]at h2;cases h2;rw[hf']at h0;cases h0
theorem gO.put_iff {d:Option Tmp}{u:V}(h:∀ t,d=some t→t∉o.looksAt ops){v:V}{ids:List Nat}{xs:aA}:gO E ops o (put T d u) H v ids xs ↔ gO E ops o T H v ids xs:=by
 unfold gO;rw[dT h,iF h]
end
end
section
open Go Go.RowKit
section
variable {E:Env}{rec:mC}{ops:Array Oper}{Q:Ex→List V→aA→Prop}{o oi oj:Oper}{T:List V}{H H':aA}
def dO (rec:mC):Prop:=∀ c (Q Q':Ex→List V→aA→Prop) T H,(∀ e T H,Q e T H→Q' e T H)→rec c Q T H→rec c Q' T H
theorem Di (hm:dO rec){f:FuncId}{args:List V}{dst:Option Tmp}{T T':List V}{K K':List V→aA→Prop}(hQ:hZ Q)(hk:∀ v H,K (put T dst v) H→K' (put T' dst v) H)(h:aZ E rec f args dst T H K Q):aZ E rec f args dst T' H K' Q:=by
 unfold aZ at *;cases hf:E.P.funcs[f]? with
 | none=>rw[hf]at h;exact h
 | some fn=>
  rw[hf]at h;simp only at h ⊢;cases hb:fn.body with
  | none=>rw[hb]at h;exact h
  | some c=>
   rw[hb]at h;simp only at h ⊢;split at h
   ·rename_i hsp;rw[if_pos hsp];split at h
    ·exact hk _ _ h
    ·exact h
   rename_i hsp;rw[if_neg hsp];split at h
   ·unfold Ci at *;split at h
    ·split at h
     ·split at h
      ·rename_i hcond;simp only[hcond,and_self,if_true];exact hk _ _ h
      ·exact h.elim
     ·exact h.elim
    ·exact h.elim
   split at h
   ·rename_i hp;rw[if_pos hp];unfold qH at *;split at h
    ·obtain⟨r,h1,h2⟩:=h;refine⟨r,h1,?_⟩;cases r with
     | ret v=>exact hk _ _ h2
     | pan v=>exact absurd h2 (hQ _ _ _)
    ·exact h
   ·rename_i hp;rw[if_neg hp];rcases h with h|⟨v,H',hmc,h⟩
    case inr=>exact .inr ⟨v,H',hmc,hk _ _ h⟩
    refine .inl (hm _ _ _ _ _ ?_ h);intro e T1 H1 h1;cases e<;>simp only[iW]at h1 ⊢<;>try exact h1
    ·split at h1
     ·exact hk _ _ h1
     ·exact h1
    ·split at h1
     ·exact hk _ _ h1
     ·exact h1
    ·exact absurd h1 (hQ _ _ _)
theorem nS (hm:dO rec){T T':List V}{K K':List V→aA→Prop}(hQ:hZ Q)(he:bQ E.tab T' H o.op=bQ E.tab T H o.op)(hk:∀ v H,K (put T o.dst v) H→K' (put T' o.dst v) H)(h:iZ E rec o T H K Q):iZ E rec o T' H K' Q:=by
 unfold iZ at *;rw[he];split at h
 ·exact hk _ _ h
 ·exact Di hm hQ hk h
 ·exact absurd h (hQ _ _ _)
 ·exact h
theorem bR (hm:dO rec){i:Nat}{K K':List V→aA→Prop}(hQ:hZ Q)(hk:∀ T H,K T H→K' T H)(h:eL E rec ops Q i K T H):eL E rec ops Q i K' T H:=by
 unfold eL at *;split
 ·rename_i hi;rw[hi]at h;exact hk _ _ h
 ·rename_i o hi;rw[hi]at h;simp only at h;split
  ·rename_i hw;rw[hw]at h;exact nS hm hQ rfl (fun v H=>hk _ _) h
  ·rename_i hw;rw[hw]at h;exact hk _ _ h
  ·rename_i hw;rw[hw]at h;exact h
theorem swap (hm:dO rec)(hQ:hZ Q){j:Nat}(hj:ops[j]?=some oj)(hap:oi.apart ops oj=true)(hci:eU E.sp E.pcm E.cln E.tab oi.op ≠ .s∧eU E.sp E.pcm E.cln E.tab oi.op ≠ .a)(hok:eU E.sp E.pcm E.cln E.tab oi.op = .p∨eU E.sp E.pcm E.cln E.tab oj.op ≠ .s)
 {v:V}{ids:List Nat}(ho:gO E ops oi T H v ids []){K:List V→aA→Prop}(h:eL E rec ops Q j K (put T oi.dst v) (bH H ids)) :
 eL E rec ops Q j (fun T' H'=>gO E ops oi T' H' v ids []∧K (put T' oi.dst v) (bH H' ids)) T H:=by
 obtain⟨h1,h2,h3⟩:=Oper.apart_spec hap;by_cases hcj:eU E.sp E.pcm E.cln E.tab oj.op = .s
 ·have hp:eU E.sp E.pcm E.cln E.tab oi.op = .p:=hok.resolve_right (fun h=>h hcj);obtain⟨-,rfl,-⟩:=ho.any hp H;unfold eL at *;simp only[hj]at h ⊢;rw[dT h1]at h;have hk:∀(u:V)(H1:aA),K (put (put T oi.dst v) oj.dst u) H1→gO E ops oi (put T oj.dst u) H1 v [] []∧K (put (put T oj.dst u) oi.dst v) (bH H1 []):=fun u H1 hk=>
   ⟨(gO.put_iff h3).2 (ho.any hp H1).1,by rw[←jK h2];exact hk⟩
  split
  ·rename_i hw;rw[hw]at h;exact nS hm hQ (iF h1).symm hk h
  ·rename_i hw;rw[hw]at h;exact hk _ _ h
  ·rename_i hw;rw[hw]at h;exact h
 ·obtain⟨u,idsj,xs,ho1,hk,hx,hx2⟩:=gO.of hj hQ hcj h;have ho2:gO E ops oj T H u idsj xs:=((gO.put_iff h1).1 ho1).same (kQ.unsealed _ _) (lB _ _).symm hcj hx;refine gO.go hj ho2 ⟨(gO.put_iff h3).2 ?_,?_⟩
  ·rcases hci with ⟨hc1,hc2⟩
   cases hc:eU E.sp E.pcm E.cln E.tab oi.op with
   | s=>exact absurd hc hc1
   | a=>exact absurd hc hc2
   | p=>exact(ho.any hc _).1
   | l=>exact ho.ext ((kQ.sealed _ _).trans kQ.push) (.inl hc)
   | c=>exact ho.ext ((kQ.sealed _ _).trans kQ.push) (.inr hc)
  ·rw[jK h2]at hk;rw[oN _ _ _ (fun b hb=>by rw[lB];exact ho.ids_lt b hb),oO];exact hk
theorem Ei (hm:dO rec)(hQ:hZ Q){i:Nat}(hi:ops[i]?=some oi)(hci:eU E.sp E.pcm E.cln E.tab oi.op ≠ .s∧eU E.sp E.pcm E.cln E.tab oi.op ≠ .a)(S:Nat→Prop)
 (hS:∀ j oj,ops[j]?=some oj→j≠i→(∀ e∈oj.after,Region.binds .any e=true→S e.on)→S j){v:V}{ids:List Nat} :
 ∀(fuel:Nat)(listed:Array Bool)(T:List V)(H:aA),(∀ k,listed.getD k false=true→S k)→
  (∀ j oj,ops[j]?=some oj→j≠i→S j→listed.getD j true=false→oi.apart ops oj=true∧(eU E.sp E.pcm E.cln E.tab oi.op = .p∨eU E.sp E.pcm E.cln E.tab oj.op ≠ .s))→
  i∈Region.ready .any ops listed→gO E ops oi T H v ids []→xN E rec ops Q fuel (listed.setIfInBounds i true) (put T oi.dst v) (bH H ids)→xN E rec ops Q (fuel+1) listed T H:=by
 intro fuel;induction fuel with
 | zero=>
  intro listed T H hl hok hr ho hf;refine⟨fun h=>(by rw[h]at hr;cases hr),fun j hj=>?_⟩;by_cases hji:j=i
  ·subst hji;exact ho.go hi (by simpa using hf)
  ·have:=ready_mono hj hji;rw[hf.1]at this;cases this
 | succ fuel ih=>
  intro listed T H hl hok hr ho hf;refine⟨fun h=>(by rw[h]at hr;cases hr),fun j hj=>?_⟩;by_cases hji:j=i
  ·subst hji;exact ho.go hi (by simpa using hf)
  ·have h1:=hf.2 j (ready_mono hj hji);obtain⟨hjun,oj,hoj,hall⟩:=mem_ready.1 hj;have hSj:S j:=hS j oj hoj hji fun e he hb=>hl _ (hall e he hb);obtain⟨ha,hc⟩:=hok j oj hoj hji hSj hjun;refine bR hm hQ ?_ (swap hm hQ hoj ha hci hc ho h1);intro T' H' h3;refine ih (listed.setIfInBounds j true) T' H' ?_ ?_ (ready_mono hr (Ne.symm hji)) h3.1 ?_
   ·intro k hk;by_cases hjk:j=k
    ·subst hjk;exact hSj
    ·rw[getD_set_ne false hjk]at hk;exact hl k hk
   ·intro k ok hk hki hsk hun;refine hok k ok hk hki hsk ?_;by_cases hjk:j=k
    ·subst hjk;exact hjun
    ·rw[getD_set_ne true hjk]at hun;exact hun
   ·rw[Array.setIfInBounds_comm _ _ hji];exact h3.2
def Ao (ops:Array Oper)(i:Nat)(S:List Nat):List Nat:=
 (List.range ops.size).filter fun j=>S.contains j || (j != i && match ops[j]? with|some o=>o.after.all fun e => !Region.binds .any e || S.contains e.on|none=>false)
def qK (ops:Array Oper)(i:Nat):Nat→List Nat→List Nat
 | 0,S=>S
 | n+1,S=>let S':=Ao ops i S;if S'.length == S.length then S else qK ops i n S'
def kC (ops:Array Oper)(listed:Array Bool):List Nat:=(List.range ops.size).filter fun j=>listed.getD j false
def Nv (sp:FuncId→Bool)(pcm:FuncId→Bool)(cln:FuncId→Option Nat)(tab:cR)(ops:Array Oper)(listed:Array Bool)(i:Nat):Bool:=
 match ops[i]? with
 | none=>false
 | some oi=>
  let S:=qK ops i ops.size (kC ops listed)
  let ci:=eU sp pcm cln tab oi.op
  (ci != .s && ci != .a) &&
  ((
   List.range ops.size).all fun j=>j == i || match ops[j]? with
   | none=>true
   | some oj=>(!(oj.after.all fun e => !Region.binds .any e || S.contains e.on) || S.contains j) && (!S.contains j || listed.getD j true || (oi.apart ops oj && (ci == .p || eU sp pcm cln tab oj.op != .s)))) &&
  ((List.range listed.size).all fun j => !listed.getD j false || S.contains j)
def Pf (sp:FuncId→Bool)(pcm:FuncId→Bool)(cln:FuncId→Option Nat)(tab:cR)(ops:Array Oper):List Nat→Array Bool→Bool
 | [],listed=>(Region.ready .any ops listed).isEmpty
 | i::l,listed=>(Region.ready .any ops listed).contains i && (Region.ready .any ops listed == [i] || Nv sp pcm cln tab ops listed i) && Pf sp pcm cln tab ops l (listed.setIfInBounds i true)
def uQ (ops:Array Oper)(l:List Nat):List Oper:=l.filterMap fun i=>ops[i]?
theorem wE (hm:dO rec)(hQ:hZ Q):∀(l:List Nat)(listed:Array Bool)(T:List V)(H:aA),Pf E.sp E.pcm E.cln E.tab ops l listed=true→lI E rec ops Q (uQ ops l) T H→xN E rec ops Q l.length listed T H
 | [],listed,T,H,hB,h=>⟨by simpa[Pf]using hB,h⟩
 | i::l,listed,T,H,hB,h=>by
  simp only[Pf,Bool.and_eq_true,Bool.or_eq_true]at hB;obtain⟨⟨hr,hB1⟩,hB2⟩:=hB;have hr:i∈Region.ready .any ops listed:=by simpa using hr
  obtain⟨hun,oi,hi,-⟩:=mem_ready.1 hr;have hst:eL E rec ops Q i (lI E rec ops Q (uQ ops l)) T H:=by
   unfold eL;simp only[uQ,List.filterMap_cons,hi,lI]at h ⊢;exact h
  rcases hB1 with hB1|hB1
  ·have hB1:Region.ready .any ops listed=[i]:=by simpa using hB1
   refine⟨fun h0=>(by rw[h0]at hr;cases hr),fun j hj=>?_⟩;rw[hB1]at hj;have:j=i:=by simpa using hj
   subst this;exact bR hm hQ (fun T H h=>wE hm hQ l _ _ _ hB2 h) hst
  ·simp only[Nv,hi,Bool.and_eq_true,bne_iff_ne,ne_eq,List.all_eq_true,List.mem_range]at hB1;obtain⟨⟨hci,hB3⟩,hB4⟩:=hB1;obtain⟨v,ids,xs,ho,hk,hx,-⟩:=gO.of hi hQ hci.1 hst;obtain rfl:=hx hci.2;refine Ei hm hQ hi hci (fun j=>(qK ops i ops.size (kC ops listed)).contains j=true) ?_ l.length listed T H ?_ ?_ hr ho (wE hm hQ l _ _ _ hB2 (by simpa using hk))
   ·intro j oj hj hji hall;have h1:=hB3 j (Array.getElem?_eq_some_iff.1 hj).1;simp only[hj,Bool.or_eq_true,beq_iff_eq,hji,false_or,Bool.and_eq_true]at h1;rcases h1.1 with h2|h2
    ·exfalso;rw[Bool.not_eq_true',←Bool.not_eq_true,Array.all_eq_true_iff_forall_mem]at h2;refine h2 fun e he=>?_;cases hb:Region.binds .any e with
     | false=>rfl
     | true=>simpa using hall e he hb
    ·exact h2
   ·intro k hk;by_cases hks:k < listed.size
    ·have h1:=hB4 k hks;simp only[hk,Bool.not_true,Bool.false_or]at h1;exact h1
    ·simp[Array.getD,hks]at hk
   ·intro j oj hj hji hSj hunj;have h1:=hB3 j (Array.getElem?_eq_some_iff.1 hj).1;simp only[hj,Bool.or_eq_true,beq_iff_eq,hji,false_or,Bool.and_eq_true]at h1;have h2:=h1.2;simp only[hSj,hunj,Bool.not_true,Bool.false_eq_true,false_or,bne_iff_ne,ne_eq]at h2;exact h2
def tE (Q:Ex→List V→aA→Prop):Ex→List V→aA→Prop
 | .panic _,_,_=>False
 | e,T,H=>Q e T H
theorem FW.recMono:dO (FW E):=fun _ _ _ _ _ hq h=>FW.mono h hq
theorem FW.drawn (hE:EnvOk E){id:Nat}{l:List Oper}(p:List Nat)(hc:(p.length == l.length && Pf E.sp E.pcm E.cln E.tab l.toArray p (Array.replicate l.length false))=true)(h:lI E (FW E) l.toArray (tE Q) (uQ l.toArray p) T H):FW E (.region id l.toArray true) Q T H:=by
 simp only[Bool.and_eq_true,beq_iff_eq]at hc;refine FW.mono (Q:=tE Q) (FW.draw hE ?_) ?_
 ·have:=wE (E:=E) (rec:=FW E) FW.recMono (Q:=tE Q) (fun v T H h=>h) p _ _ _ hc.2 h;rw[hc.1]at this;simpa using this
 ·intro e T H h;cases e<;>first|exact h|exact h.elim
end
end
section
open Go Go.RowKit
section
variable {E:Env}{rec:mC}{ops:Array Oper}{Q:Ex→List V→aA→Prop}{o oi oj:Oper}{T:List V}{H H':aA}
def Hm (pin:List Nat):V→Bool
 | .ptr b _ _=>pin.contains b
 | _=>true
def Mt (pin:List Nat):V→Bool
 | .ptr b _ _ => !pin.contains b
 | _=>true
def fL (pin:List Nat)(b:Bool)(o:Oper)(T:List V):Bool:=match o.op with
 | .load _ p => !b || Hm pin (ev T p)
 | .store _ p _=>Mt pin (ev T p)
 | _=>true
def Va:Op→Bool
 | .load ..=>true
 | _=>false
def kE:Op→Bool
 | .store ..=>true
 | _=>false
theorem Uc {pin:List Nat}{b:Bool}{d:Option Tmp}{v:V}(h:∀ t,d=some t→t∉o.looksAt ops):fL pin b o (put T d v)=fL pin b o T:=by
 have key:∀ x∈o.op.operands,ev (put T d v) x=ev T x:=fun x hx=>Pv fun t hd hxd=>h t hd (by
  subst hxd;exact List.mem_append_left _ (List.mem_filterMap.2 ⟨.tmp t,by simpa using hx,rfl⟩))
 unfold fL;cases ho:o.op<;>try rfl
 ·simp only;rw[key _ (by rw[ho];simp[Op.operands])]
 ·simp only;rw[key _ (by rw[ho];simp[Op.operands])]
theorem Hc (hm:dO rec)(hQ:hZ Q){j:Nat}(hj:ops[j]?=some oj)(hap:oi.apart ops oj=true)(hci:eU E.sp E.pcm E.cln E.tab oi.op ≠ .s∧eU E.sp E.pcm E.cln E.tab oi.op ≠ .a)(hok:eU E.sp E.pcm E.cln E.tab oi.op = .p∨eU E.sp E.pcm E.cln E.tab oj.op ≠ .s)
 {v:V}{ids:List Nat}(ho:gO E ops oi T H v ids []){K:List V→aA→Prop}(h:eL E rec ops Q j K (put T oi.dst v) (bH H ids)) :
 eL E rec ops Q j (fun T' H'=>(∃ u,T'=put T oj.dst u)∧gO E ops oi T' H' v ids []∧K (put T' oi.dst v) (bH H' ids)) T H:=by
 obtain⟨h1,h2,h3⟩:=Oper.apart_spec hap;by_cases hcj:eU E.sp E.pcm E.cln E.tab oj.op = .s
 ·have hp:eU E.sp E.pcm E.cln E.tab oi.op = .p:=hok.resolve_right (fun h=>h hcj);obtain⟨-,rfl,-⟩:=ho.any hp H;unfold eL at *;simp only[hj]at h ⊢;rw[dT h1]at h;have hk:∀(u:V)(H1:aA),K (put (put T oi.dst v) oj.dst u) H1→(∃ u',put T oj.dst u=put T oj.dst u')∧gO E ops oi (put T oj.dst u) H1 v [] []∧K (put (put T oj.dst u) oi.dst v) (bH H1 []):=fun u H1 hk=>
   ⟨⟨u,rfl⟩,(gO.put_iff h3).2 (ho.any hp H1).1,by rw[←jK h2];exact hk⟩
  split
  ·rename_i hw;rw[hw]at h;exact nS hm hQ (iF h1).symm hk h
  ·rename_i hw;rw[hw]at h;exact hk _ _ h
  ·rename_i hw;rw[hw]at h;exact h
 ·obtain⟨u,idsj,xs,ho1,hk,hx,hx2⟩:=gO.of hj hQ hcj h;have ho2:gO E ops oj T H u idsj xs:=((gO.put_iff h1).1 ho1).same (kQ.unsealed _ _) (lB _ _).symm hcj hx;refine gO.go hj ho2 ⟨⟨u,rfl⟩,(gO.put_iff h3).2 ?_,?_⟩
  ·rcases hci with ⟨hc1,hc2⟩
   cases hc:eU E.sp E.pcm E.cln E.tab oi.op with
   | s=>exact absurd hc hc1
   | a=>exact absurd hc hc2
   | p=>exact(ho.any hc _).1
   | l=>exact ho.ext ((kQ.sealed _ _).trans kQ.push) (.inl hc)
   | c=>exact ho.ext ((kQ.sealed _ _).trans kQ.push) (.inr hc)
  ·rw[jK h2]at hk;rw[oN _ _ _ (fun b hb=>by rw[lB];exact ho.ids_lt b hb),oO];exact hk
theorem aIi {pin:List Nat}{j:Nat}(hj:ops[j]?=some oj)(hap:oi.apart ops oj=true)(hli:Va oi.op=true)(hsj:kE oj.op=true)(hpi:fL pin true oi T=true){b':Bool}(hpj:fL pin b' oj T=true)
 {v:V}{ids:List Nat}(ho:gO E ops oi T H v ids []){K:List V→aA→Prop}(h:eL E rec ops Q j K (put T oi.dst v) (bH H ids)) :
 eL E rec ops Q j (fun T' H'=>(∃ u,T'=put T oj.dst u)∧gO E ops oi T' H' v ids []∧K (put T' oi.dst v) (bH H' ids)) T H:=by
 obtain⟨h1,h2,h3⟩:=Oper.apart_spec hap;cases hoi:oi.op<;>rw[hoi]at hli<;>simp only[Va,Bool.false_eq_true]at hli;rename_i t p;cases hoj:oj.op<;>rw[hoj]at hsj<;>simp only[kE,Bool.false_eq_true]at hsj;rename_i t2 p2 x2;have hids:ids=[]:=by
  rcases ho with ⟨_,_,rfl,_⟩|⟨_,⟨rfl,_⟩|⟨_,f,args,h4,_⟩|⟨rfl,_⟩⟩
  ·rfl
  ·rfl
  ·rw[hoi]at h4;simp only[bQ]at h4;cases hx:rJ E.tab H t (ev T p)<;>rw[hx]at h4<;>cases h4
  ·rfl
 subst hids;simp only[bH,List.foldl_nil]at h ⊢;unfold eL at *;simp only[hj]at h ⊢;rw[dT h1]at h;have hk:∀(u:V)(H1:aA),(∀ b i k,ev T p = .ptr b i k→H1[b]?=H[b]?)→K (put (put T oi.dst v) oj.dst u) H1→(∃ u',put T oj.dst u=put T oj.dst u')∧gO E ops oi (put T oj.dst u) H1 v [] []∧K (put (put T oj.dst u) oi.dst v) H1:=fun u H1 hH hk=>by
  refine⟨⟨u,rfl⟩,(gO.put_iff h3).2 ?_,by rw[←jK h2];exact hk⟩;have hld:rJ E.tab H1 t (ev T p)=rJ E.tab H t (ev T p):=by
   unfold rJ;have:tF H1 (ev T p)=tF H (ev T p):=by
    cases hev:ev T p<;>simp only[tF];rename_i b i k;rw[hH b i k hev]
   rw[this]
  rcases ho with ho|⟨g1,⟨g2,g3⟩|⟨_,f,args,h4,_⟩|⟨_,f,args,h4,_⟩⟩
  ·exact .inl ho
  ·refine .inr ⟨g1,.inl ⟨g2,?_⟩⟩;rw[hoi]at g3 ⊢;simp only[bQ]at g3 ⊢;rw[hld];cases hx:rJ E.tab H t (ev T p)with
   | none=>rw[hx]at g3;cases g3
   | some y=>rw[hx]at g3;simp only[FO.of,FO.val.injEq]at g3 ⊢;exact⟨g3.1,by simp⟩
  ·rw[hoi]at h4;simp only[bQ]at h4;cases hx:rJ E.tab H t (ev T p)<;>rw[hx]at h4<;>cases h4
  ·rw[hoi]at h4;simp only[bQ]at h4;cases hx:rJ E.tab H t (ev T p)<;>rw[hx]at h4<;>cases h4
 split
 ·rename_i hw;rw[hw]at h;simp only at h;unfold iZ at h ⊢;rw[iF h1]at h;rw[hoj]at h ⊢;have hform:(∃ H1,bQ E.tab T H (.store t2 p2 x2) = .val undef H1∧∀ b i k,ev T p = .ptr b i k→H1[b]?=H[b]?)∨bQ E.tab T H (.store t2 p2 x2) = .stuck:=by
   simp only[bQ];split
   ·cases hst:Ks E.tab H t2 (ev T p2) (ev T x2)with
    | none=>exact .inr rfl
    | some H1=>
     refine .inl ⟨H1,rfl,fun b i k hb=>?_⟩;unfold Ks at hst;split at hst
     ·rename_i b2 i2 j2 hp2;split at hst
      ·split at hst
       ·split at hst
        ·cases hst;simp only[fL,hoi,hoj,hb,hp2,Hm,Mt,Bool.not_true,Bool.false_or,Bool.not_eq_true']at hpi hpj;have:b2≠b:=fun e=>by subst e;rw[hpi]at hpj;cases hpj
         rw[List.getElem?_set_ne this]
        ·cases hst
       ·cases hst
      ·cases hst
     ·cases hst
   ·exact .inr rfl
  rcases hform with ⟨H1,e,hH⟩|e
  ·rw[e]at h ⊢;exact hk _ _ hH h
  ·rw[e]at h;exact h.elim
 ·rename_i hw;rw[hw]at h;exact hk _ _ (fun _ _ _ _=>rfl) h
 ·rename_i hw;rw[hw]at h;exact h
def rK:Op→Bool
 | .indexAddr ..=>true
 | .slice ..=>true
 | _=>false
theorem Ev {tab:cR}{op:Op}(ho:rK op=true){H1:aA}(hs:∀ b,dZ H1 b=dZ H b){v:V}(h:bQ tab T H op = .val v H):bQ tab T H1 op = .val v H1:=by
 cases op<;>simp only[rK,Bool.false_eq_true]at ho
 case slice t x lo hi mx=>
  simp only[bQ]at h ⊢;split at h
  ·split at h
   ·cases h;rfl
   ·split at h
    ·rename_i hc;rw[if_pos (by rw[hs];exact hc)];cases h;rfl
    ·cases h
   ·split at h
    ·rename_i hc;rw[if_pos hc];cases h;rfl
    ·cases h
   ·split at h
    ·rename_i hc;rw[if_pos hc];cases h;rfl
    ·cases h
   ·split at h
    ·cases h
    ·unfold Pb at h;split at h
     ·split at h
      ·rw[FO.val.injEq]at h;have:=congrArg List.length h.2;simp at this
      ·cases h
     ·cases h
   ·cases h
  ·cases h
 case indexAddr t x ix=>
  simp only[bQ]at h ⊢;split at h
  ·split at h
   ·rename_i hc;rw[if_pos (by rw[hs];exact hc)];cases h;rfl
   ·cases h
  ·split at h
   ·rename_i hc;rw[if_pos hc];split at h
    ·split at h
     ·rename_i hc;rw[if_pos hc];cases h;rfl
     ·cases h
    ·cases h
   ·cases h
  ·split at h
   ·rename_i hc;rw[if_pos hc];cases h;rfl
   ·cases h
  ·cases h
theorem aIj {j:Nat}(hj:ops[j]?=some oj)(hap:oi.apart ops oj=true)(hli:rK oi.op=true)(hci:eU E.sp E.pcm E.cln E.tab oi.op = .l)(hsj:kE oj.op=true)
 {v:V}{ids:List Nat}(ho:gO E ops oi T H v ids []){K:List V→aA→Prop}(h:eL E rec ops Q j K (put T oi.dst v) (bH H ids)) :
 eL E rec ops Q j (fun T' H'=>(∃ u,T'=put T oj.dst u)∧gO E ops oi T' H' v ids []∧K (put T' oi.dst v) (bH H' ids)) T H:=by
 obtain⟨h1,h2,h3⟩:=Oper.apart_spec hap;cases hoj:oj.op<;>rw[hoj]at hsj<;>simp only[kE,Bool.false_eq_true]at hsj;rename_i t2 p2 x2;have hnc:∀ f args,bQ E.tab T H oi.op ≠ .call f args:=fun f args e=>by
  rcases kL hci T H with ⟨u,hu,_⟩|hu<;>rw[hu]at e<;>cases e
 have hids:ids=[]:=by
  rcases ho with ⟨_,_,rfl,_⟩|⟨_,⟨rfl,_⟩|⟨_,f,args,h4,_⟩|⟨rfl,_⟩⟩
  ·rfl
  ·rfl
  ·exact absurd h4 (hnc _ _)
  ·rfl
 subst hids;simp only[bH,List.foldl_nil]at h ⊢;unfold eL at *;simp only[hj]at h ⊢;rw[dT h1]at h;have hk:∀(u:V)(H1:aA),(∀ b,dZ H1 b=dZ H b)→K (put (put T oi.dst v) oj.dst u) H1→(∃ u',put T oj.dst u=put T oj.dst u')∧gO E ops oi (put T oj.dst u) H1 v [] []∧K (put (put T oj.dst u) oi.dst v) H1:=fun u H1 hH hk=>by
  refine⟨⟨u,rfl⟩,(gO.put_iff h3).2 ?_,by rw[←jK h2];exact hk⟩;rcases ho with ho|⟨g1,⟨g2,g3⟩|⟨_,f,args,h4,_⟩|⟨_,f,args,h4,_⟩⟩
  ·exact .inl ho
  ·exact .inr ⟨g1,.inl ⟨g2,by simpa using Ev hli hH (by simpa using g3)⟩⟩
  ·exact absurd h4 (hnc _ _)
  ·exact absurd h4 (hnc _ _)
 split
 ·rename_i hw;rw[hw]at h;simp only at h;unfold iZ at h ⊢;rw[iF h1]at h;rw[hoj]at h ⊢;have hform:(∃ H1,bQ E.tab T H (.store t2 p2 x2) = .val undef H1∧∀ b,dZ H1 b=dZ H b)∨bQ E.tab T H (.store t2 p2 x2) = .stuck:=by
   simp only[bQ];split
   ·cases hst:Ks E.tab H t2 (ev T p2) (ev T x2)with
    | none=>exact .inr rfl
    | some H1=>
     refine .inl ⟨H1,rfl,fun b=>?_⟩;unfold Ks at hst;split at hst
     ·rename_i b2 i2 j2 hp2;split at hst
      ·rename_i s es hb2;split at hst
       ·split at hst
        ·cases hst;unfold dZ;by_cases hbb:b2=b
         ·subst hbb;rw[List.getElem?_set_self (List.getElem?_eq_some_iff.1 hb2).1,hb2]
         ·rw[List.getElem?_set_ne hbb]
        ·cases hst
       ·cases hst
      ·cases hst
     ·cases hst
   ·exact .inr rfl
  rcases hform with ⟨H1,e,hH⟩|e
  ·rw[e]at h ⊢;exact hk _ _ hH h
  ·rw[e]at h;exact h.elim
 ·rename_i hw;rw[hw]at h;exact hk _ _ (fun _=>rfl) h
 ·rename_i hw;rw[hw]at h;exact h
def aMo (E:Env)(rec:mC)(ops:Array Oper)(pl pin:List Nat)(Q:Ex→List V→aA→Prop)(i:Nat)(K:List V→aA→Prop)(T:List V)(H:aA):Prop:=
 eL E rec ops Q i K T H∧∀ o,ops[i]?=some o→fL pin (pl.contains i) o T=true
def zE (E:Env)(rec:mC)(ops:Array Oper)(pl pin:List Nat)(Q:Ex→List V→aA→Prop):Nat→Array Bool→List V→aA→Prop
 | 0,listed,T,H=>Region.ready .any ops listed=[]∧Q .normal T H
 | n+1,listed,T,H=>(Region.ready .any ops listed=[]→Q .normal T H)∧∀ i∈Region.ready .any ops listed,aMo E rec ops pl pin Q i (zE E rec ops pl pin Q n (listed.setIfInBounds i true)) T H
theorem zB (hm:dO rec)(hQ:hZ Q){pl pin:List Nat}:∀(n:Nat)(listed:Array Bool)(T:List V)(H:aA),zE E rec ops pl pin Q n listed T H→xN E rec ops Q n listed T H
 | 0,_,_,_,h=>h
 | n+1,_,_,_,h=>⟨h.1,fun i hi=>bR hm hQ (fun T H h=>zB hm hQ n _ _ _ h) (h.2 i hi).1⟩
theorem Ve (hm:dO rec)(hQ:hZ Q){pl pin:List Nat}{i:Nat}(hi:ops[i]?=some oi)(hci:eU E.sp E.pcm E.cln E.tab oi.op ≠ .s∧eU E.sp E.pcm E.cln E.tab oi.op ≠ .a)(S:Nat→Prop)
 (hS:∀ j oj,ops[j]?=some oj→j≠i→(∀ e∈oj.after,Region.binds .any e=true→S e.on)→S j){v:V}{ids:List Nat} :
 ∀(fuel:Nat)(listed:Array Bool)(T:List V)(H:aA),(∀ k,listed.getD k false=true→S k)→
  (∀ j oj,ops[j]?=some oj→j≠i→S j→listed.getD j true=false→oi.apart ops oj=true∧((eU E.sp E.pcm E.cln E.tab oi.op = .p∨eU E.sp E.pcm E.cln E.tab oj.op ≠ .s)∨(pl.contains i=true∧Va oi.op=true∧kE oj.op=true)∨(rK oi.op=true∧kE oj.op=true)))→
  i∈Region.ready .any ops listed→gO E ops oi T H v ids []→fL pin (pl.contains i) oi T=true→zE E rec ops pl pin Q fuel (listed.setIfInBounds i true) (put T oi.dst v) (bH H ids)→zE E rec ops pl pin Q (fuel+1) listed T H:=by
 intro fuel;induction fuel with
 | zero=>
  intro listed T H hl hok hr ho hpi hf;refine⟨fun h=>(by rw[h]at hr;cases hr),fun j hj=>?_⟩;by_cases hji:j=i
  ·subst hji;exact⟨ho.go hi (by simpa using hf),fun o ho=>by rw[hi]at ho;cases ho;exact hpi⟩
  ·have:=ready_mono hj hji;rw[hf.1]at this;cases this
 | succ fuel ih=>
  intro listed T H hl hok hr ho hpi hf;refine⟨fun h=>(by rw[h]at hr;cases hr),fun j hj=>?_⟩;by_cases hji:j=i
  ·subst hji;exact⟨ho.go hi (by simpa using hf),fun o ho=>by rw[hi]at ho;cases ho;exact hpi⟩
  ·obtain⟨h1,hp1⟩:=hf.2 j (ready_mono hj hji);obtain⟨hjun,oj,hoj,hall⟩:=mem_ready.1 hj;have hSj:S j:=hS j oj hoj hji fun e he hb=>hl _ (hall e he hb);obtain⟨ha,hc⟩:=hok j oj hoj hji hSj hjun;obtain⟨a1,a2,a3⟩:=Oper.apart_spec ha;have hpj:=hp1 oj hoj;rw[Uc a1]at hpj;have hsw:eL E rec ops Q j (fun T' H'=>(∃ u,T'=put T oj.dst u)∧gO E ops oi T' H' v ids []∧zE E rec ops pl pin Q fuel ((listed.setIfInBounds i true).setIfInBounds j true) (put T' oi.dst v) (bH H' ids)) T H:=by
    rcases hc with hc|⟨c1,c2,c3⟩|⟨c2,c3⟩
    ·exact Hc hm hQ hoj ha hci hc ho h1
    ·rw[c1]at hpi;exact aIi hoj ha c2 c3 hpi hpj ho h1
    ·refine aIj hoj ha c2 ?_ c3 ho h1;cases hop:oi.op<;>rw[hop]at c2<;>simp only[rK,Bool.false_eq_true]at c2<;>try rfl
     have h0:=hci.1;rw[hop]at h0;simp only[eU]at h0 ⊢;split
     ·rename_i hd;rw[hd]at h0;exact absurd rfl h0
     ·rfl
   refine⟨bR hm hQ ?_ hsw,fun o ho'=>by rw[hoj]at ho';cases ho';exact hpj⟩;rintro T' H' ⟨⟨u,rfl⟩,h4,h5⟩;refine ih (listed.setIfInBounds j true) _ H' ?_ ?_ (ready_mono hr (Ne.symm hji)) h4 ?_ ?_
   ·intro k hk;by_cases hjk:j=k
    ·subst hjk;exact hSj
    ·rw[getD_set_ne false hjk]at hk;exact hl k hk
   ·intro k ok hk hki hsk hun;refine hok k ok hk hki hsk ?_;by_cases hjk:j=k
    ·subst hjk;exact hjun
    ·rw[getD_set_ne true hjk]at hun;exact hun
   ·rw[Uc a3];exact hpi
   ·rw[Array.setIfInBounds_comm _ _ hji];exact h5
def Kv (pl:List Nat)(sp:FuncId→Bool)(pcm:FuncId→Bool)(cln:FuncId→Option Nat)(tab:cR)(ops:Array Oper)(listed:Array Bool)(i:Nat):Bool:=
 match ops[i]? with
 | none=>false
 | some oi=>
  let S:=qK ops i ops.size (kC ops listed)
  let ci:=eU sp pcm cln tab oi.op
  (ci != .s && ci != .a) &&
  ((
   List.range ops.size).all fun j=>j == i || match ops[j]? with
   | none=>true
   | some oj=>(!(oj.after.all fun e => !Region.binds .any e || S.contains e.on) || S.contains j) && (!S.contains j || listed.getD j true || (oi.apart ops oj && ((ci == .p || eU sp pcm cln tab oj.op != .s) || ((pl.contains i && (Va oi.op && kE oj.op)) || (rK oi.op && kE oj.op)))))) &&
  ((List.range listed.size).all fun j => !listed.getD j false || S.contains j)
def Of (pl:List Nat)(sp:FuncId→Bool)(pcm:FuncId→Bool)(cln:FuncId→Option Nat)(tab:cR)(ops:Array Oper):List Nat→Array Bool→Bool
 | [],listed=>(Region.ready .any ops listed).isEmpty
 | i::l,listed=>(Region.ready .any ops listed).contains i && (Region.ready .any ops listed == [i] || Kv pl sp pcm cln tab ops listed i) && Of pl sp pcm cln tab ops l (listed.setIfInBounds i true)
def jP (E:Env)(rec:mC)(ops:Array Oper)(pin:List Nat)(Q:Ex→List V→aA→Prop):List (Bool×Oper)→List V→aA→Prop
 | [],T,H=>Q .normal T H
 | (b,o)::rest,T,H=>fL pin b o T=true∧match bK ops T o with
  | some true=>iZ E rec o T H (jP E rec ops pin Q rest) Q
  | some false=>jP E rec ops pin Q rest (put T o.dst undef) H
  | none=>False
def sM (ops:Array Oper)(pl:List Nat)(l:List Nat):List (Bool×Oper):=l.filterMap fun i=>(ops[i]?).map fun o=>(pl.contains i,o)
theorem rQ (hm:dO rec)(hQ:hZ Q){pl pin:List Nat}:∀(l:List Nat)(listed:Array Bool)(T:List V)(H:aA),Of pl E.sp E.pcm E.cln E.tab ops l listed=true→jP E rec ops pin Q (sM ops pl l) T H→zE E rec ops pl pin Q l.length listed T H
 | [],listed,T,H,hB,h=>⟨by simpa[Of]using hB,h⟩
 | i::l,listed,T,H,hB,h=>by
  simp only[Of,Bool.and_eq_true,Bool.or_eq_true]at hB;obtain⟨⟨hr,hB1⟩,hB2⟩:=hB;have hr:i∈Region.ready .any ops listed:=by simpa using hr
  obtain⟨hun,oi,hi,-⟩:=mem_ready.1 hr;simp only[sM,List.filterMap_cons,hi,Option.map_some,jP]at h;obtain⟨hpi,h⟩:=h;have hst:eL E rec ops Q i (jP E rec ops pin Q (sM ops pl l)) T H:=by
   unfold eL;simp only[hi];exact h
  rcases hB1 with hB1|hB1
  ·have hB1:Region.ready .any ops listed=[i]:=by simpa using hB1
   refine⟨fun h0=>(by rw[h0]at hr;cases hr),fun j hj=>?_⟩;rw[hB1]at hj;have:j=i:=by simpa using hj
   subst this;exact⟨bR hm hQ (fun T H h=>rQ hm hQ l _ _ _ hB2 h) hst,fun o ho=>by rw[hi]at ho;cases ho;exact hpi⟩
  ·simp only[Kv,hi,Bool.and_eq_true,bne_iff_ne,ne_eq,List.all_eq_true,List.mem_range]at hB1;obtain⟨⟨hci,hB3⟩,hB4⟩:=hB1;obtain⟨v,ids,xs,ho,hk,hx,-⟩:=gO.of hi hQ hci.1 hst;obtain rfl:=hx hci.2;refine Ve hm hQ hi hci (fun j=>(qK ops i ops.size (kC ops listed)).contains j=true) ?_ l.length listed T H ?_ ?_ hr ho hpi (rQ hm hQ l _ _ _ hB2 (by simpa using hk))
   ·intro j oj hj hji hall;have h1:=hB3 j (Array.getElem?_eq_some_iff.1 hj).1;simp only[hj,Bool.or_eq_true,beq_iff_eq,hji,false_or,Bool.and_eq_true]at h1;rcases h1.1 with h2|h2
    ·exfalso;rw[Bool.not_eq_true',←Bool.not_eq_true,Array.all_eq_true_iff_forall_mem]at h2;refine h2 fun e he=>?_;cases hb:Region.binds .any e with
     | false=>rfl
     | true=>simpa using hall e he hb
    ·exact h2
   ·intro k hk;by_cases hks:k < listed.size
    ·have h1:=hB4 k hks;simp only[hk,Bool.not_true,Bool.false_or]at h1;exact h1
    ·simp[Array.getD,hks]at hk
   ·intro j oj hj hji hSj hunj;have h1:=hB3 j (Array.getElem?_eq_some_iff.1 hj).1;simp only[hj,Bool.or_eq_true,beq_iff_eq,hji,false_or,Bool.and_eq_true]at h1;have h2:=h1.2;simp only[hSj,hunj,Bool.not_true,Bool.false_eq_true,false_or,bne_iff_ne,ne_eq]at h2;exact h2
theorem FW.drawnP (hE:EnvOk E){id:Nat}{l:List Oper}(p pl pin:List Nat)(hc:(p.length == l.length && Of pl E.sp E.pcm E.cln E.tab l.toArray p (Array.replicate l.length false))=true)(h:jP E (FW E) l.toArray pin (tE Q) (sM l.toArray pl p) T H):FW E (.region id l.toArray true) Q T H:=by
 simp only[Bool.and_eq_true,beq_iff_eq]at hc;refine FW.mono (Q:=tE Q) (FW.draw hE ?_) ?_
 ·have:=zB (FW.recMono (E:=E)) (Q:=tE Q) (fun v T H h=>h) _ _ _ _ (rQ (E:=E) (rec:=FW E) FW.recMono (Q:=tE Q) (fun v T H h=>h) (pl:=pl) (pin:=pin) p _ _ _ hc.2 h);rw[hc.1]at this;simpa using this
 ·intro e T H h;cases e<;>first|exact h|exact h.elim
end
end
section
open Go Go.RowKit
section
variable {E:Env}{rec:mC}{ops:Array Oper}{Q:Ex→List V→aA→Prop}{o:Oper}{rest:List Oper}{T:List V}{H:aA}
theorem Mn (E:Env)(rec:mC)(ops:Array Oper)(Q:Ex→List V→aA→Prop)(o:Oper)(rest:List Oper)(T:List V)(H:aA):lI E rec ops Q (o::rest) T H=Hn E rec o T H (lI E rec ops Q rest) Q (bK ops T o):=rfl
theorem Ln (E:Env)(rec:mC)(ops:Array Oper)(Q:Ex→List V→aA→Prop)(T:List V)(H:aA):lI E rec ops Q [] T H=Q .normal T H:=rfl
end
theorem aGq (H:aA)(n:Nat)(k:IntKind)(i:Int):fz H (n+1) (.int k i)=some (.int k i):=rfl
theorem Vz (H:aA)(n:Nat)(b:Bool):fz H (n+1) (.bool b)=some (.bool b):=rfl
theorem aGp (H:aA)(n:Nat)(s:List UInt8):fz H (n+1) (.str s)=some (.str s):=rfl
theorem Rz (H:aA)(n:Nat):fz H (n+1) .nils=some .nils:=rfl
theorem Sz (H:aA)(n:Nat):fz H (n+1) .nilp=some .nilp:=rfl
theorem Tz (H:aA)(n:Nat):fz H (n+1) .nili=some .nili:=rfl
theorem Uz (H:aA)(n:Nat):fz H (n+1) .nilf=some .nilf:=rfl
theorem vO (H:aA)(n:Nat)(l:List V):fz H (n+1) (.imm l)=some (.imm l):=rfl
theorem aMl (H:aA)(n:Nat)(f:FuncId):fz H (n+1) (.fn f [] [])=some (.fn f [] []):=rfl
def aHk:Option (List V)→Option V|some l=>some (.agg l)|none=>none
def aEq:Option (List V)→Option V|some l=>some (.tup l)|none=>none
def aGi (t:TypeId):Option V→Option V|some v=>some (.iface t v)|none=>none
theorem Av (H:aA)(n:Nat)(l:List V):fz H (n+1) (.agg l)=aHk (l.mapM (fz H n)):=by simp only[fz,aHk];cases l.mapM (fz H n)<;>rfl
theorem aGo (H:aA)(n:Nat)(l:List V):fz H (n+1) (.tup l)=aEq (l.mapM (fz H n)):=by simp only[fz,aEq];cases l.mapM (fz H n)<;>rfl
theorem aGr (H:aA)(n:Nat)(t:TypeId)(v:V):fz H (n+1) (.iface t v)=aGi t (fz H n v):=by simp only[fz,aGi];cases fz H n v<;>rfl
def slO (s:Nat):Option (List V)→Option V|some l=>if aQ s l then some (.imm l)else none|none=>none
def mH (H:aA)(n i k:Nat):Option Blk→Option V|some (.row s es _)=>if i+k≤es.length then slO s (((es.drop i).take k).mapM (fz H n))else none|_=>none
theorem Je (H:aA)(n b i k:Nat):fz H (n+1) (.sl b i k)=mH H n i k (hb H b):=by
 simp only[fz,mH,hb];cases H[b]? with
 | none=>rfl
 | some x=>
  cases x<;>simp only;split
  ·rename_i h;cases List.mapM (fz H n) _<;>rfl
  ·rfl
def uL:Option (List V)→Option V|some [v]=>some v|some l=>some (.tup l)|none=>none
theorem Ca (tab:cR)(rs:List ResultVar)(T:List V)(H:aA):jW tab rs T H=uL (rs.mapM (iJ tab T H)):=by
 simp only[jW,uL];cases rs.mapM (iJ tab T H)with
 | none=>rfl
 | some l=>cases l with
  | nil=>rfl
  | cons x l=>cases l<;>rfl
theorem aO (tab:cR)(T:List V)(H:aA)(t:Tmp):iJ tab T H (.tmp t)=some (gt T t):=rfl
theorem Fm (tab:cR)(T:List V)(H:aA)(a:Tmp)(t:TypeId):iJ tab T H (.cell a t)=rJ tab H t (gt T a):=rfl
def lvO (r:Res)(H:aA):Option V→Prop|some v=>(match fz H 8 v with|some v'=>r = .ret v' | none=>False)|none=>False
def eqO (r:Res):Option V→Prop|some v=>r = .ret v|none=>False
theorem aFx (r:Res)(H:aA)(v:V):lvO r H (some v)=eqO r (fz H 8 v):=by
 simp only[lvO,eqO]
theorem Nh (tab:cR)(rs:List ResultVar)(r:Res)(T:List V)(H:aA):dV tab rs r .ret T H=lvO r H (uL (rs.mapM (iJ tab T H))):=by
 simp only[dV,lvO,Ca];all_goals cases uL (rs.mapM (iJ tab T H))with
 | none=>rfl
 | some v=>simp only;cases fz H 8 v<;>rfl
theorem W5:(∀(x:V),uL (some [x])=some x)∧(∀(x y:V) l,uL (some (x::y::l))=some (.tup (x::y::l)))∧(uL (some [])=some (.tup []))∧
 (∀ l,aHk (some l)=some (.agg l))∧(∀ l,aEq (some l)=some (.tup l))∧(∀ t v,aGi t (some v)=some (.iface t v))∧
 (∀ f:V→Option V,([]:List V).mapM f=some [])∧(∀ r v,eqO r (some v)=(r = .ret v))∧
 (∀ tab T H,([]:List ResultVar).mapM (iJ tab T H)=some []):=by
 refine⟨?_,?_,?_,?_,?_,?_,?_,?_,?_⟩<;>intros<;>rfl
def Eb (H:aA)(tab:cR):TD→V→Nat→FO
 | .struct fs,.ptr b i j,f=>match fs[f]? with|some (off,ft)=>if(tab ft).size=0 then .stuck else .val (.ptr b i (j+off)) H|none => .stuck
 | .struct fs,.ip e j,f=>match fs[f]? with|some (off,ft)=>if(tab ft).size=0 then .stuck else .val (.ip e (j+off)) H|none => .stuck
 | _,_,_ => .stuck
theorem xM (tab:cR)(T:List V)(H:aA)(t:TypeId)(x:Operand)(f:Nat):bQ tab T H (.fieldAddr t x f)=Eb H tab (tab t).desc (ev T x) f:=by
 simp only[bQ,Eb];cases (tab t).desc<;>cases ev T x<;>rfl
def Yh (fs:List (Nat×TypeId))(f:Nat):Option (Nat×TypeId):=fs[f]?
def Kx (H:aA)(tab:cR)(k:Nat→V)(j:Nat):Option (Nat×TypeId)→FO|some (off,ft)=>szO H (k (j+off)) (tab ft).size|none => .stuck
where szO (H:aA) (v:V):Nat→FO|0 => .stuck|_+1 => .val v H
def aAc (H:aA)(tab:cR)(cs:List V):Option (Nat×TypeId)→FO|some (off,ft)=>FO.of (Fa (tab ft) cs off) H|none => .stuck
theorem Hv (H:aA)(tab:cR)(fs:List (Nat×TypeId))(b i j f:Nat):Eb H tab (.struct fs) (.ptr b i j) f=Kx H tab (fun j => .ptr b i j) j (Yh fs f):=by
 simp only[Eb,Kx,Yh];cases fs[f]? with
 | none=>rfl
 | some x=>obtain⟨off,ft⟩:=x;simp only;cases (tab ft).size<;>simp[Kx.szO]
theorem aAd (H:aA)(tab:cR)(fs:List (Nat×TypeId))(e:V)(j f:Nat):Eb H tab (.struct fs) (.ip e j) f=Kx H tab (fun j => .ip e j) j (Yh fs f):=by
 simp only[Eb,Kx,Yh];cases fs[f]? with
 | none=>rfl
 | some x=>obtain⟨off,ft⟩:=x;simp only;cases (tab ft).size<;>simp[Kx.szO]
def aAb (H:aA)(tab:cR):TD→V→Nat→FO
 | .struct fs,.agg cs,f=>aAc H tab cs (Yh fs f)
 | _,_,_ => .stuck
theorem Rn (tab:cR)(T:List V)(H:aA)(t:TypeId)(x:Operand)(f:Nat):bQ tab T H (.field t x f)=aAb H tab (tab t).desc (ev T x) f:=by
 simp only[bQ,aAb,aAc,Yh];cases (tab t).desc<;>cases ev T x<;>rfl
theorem W6:(∀ tab T H t x f,bQ tab T H (.fieldAddr t x f)=Eb H tab (tab t).desc (ev T x) f)∧(∀ tab T H t x f,bQ tab T H (.field t x f)=aAb H tab (tab t).desc (ev T x) f)∧
 (∀ H tab fs b i j f,Eb H tab (.struct fs) (.ptr b i j) f=Kx H tab (fun j => .ptr b i j) j (Yh fs f))∧(∀ H tab fs e j f,Eb H tab (.struct fs) (.ip e j) f=Kx H tab (fun j => .ip e j) j (Yh fs f))∧
 (∀ H tab fs cs f,aAb H tab (.struct fs) (.agg cs) f=aAc H tab cs (Yh fs f))∧
 (∀ x fs,Yh (x::fs) 0=some x)∧(∀ x fs n,Yh (x::fs) (n+1)=Yh fs n)∧
 (∀ H tab k j off ft,Kx H tab k j (some (off,ft))=Kx.szO H (k (j+off)) (tab ft).size)∧(∀ H v n,Kx.szO H v (n+1) = .val v H)∧
 (∀ H tab cs off ft,aAc H tab cs (some (off,ft))=FO.of (Fa (tab ft) cs off) H):=
 ⟨xM,Rn,Hv,aAd,fun _ _ _ _ _=>rfl,fun _ _=>rfl,fun _ _ _=>rfl,fun _ _ _ _ _ _=>rfl,fun _ _ _=>rfl,fun _ _ _ _ _=>rfl⟩
theorem W7:(∀ b,unV .not (.bool b)=some (.bool !b))∧(∀ k n,unV .neg (.int k n)=some (.int k (k.wrap (0 - n))))∧
 (∀ tab t k a b n,dL tab .eql t (.int k a) (.int k b) n=some (.bool (a == b)))∧(∀ tab t k a b n,dL tab .neq t (.int k a) (.int k b) n=some (.bool (a != b)))∧
 (∀ tab t k a b n,dL tab .lss t (.int k a) (.int k b) n=some (.bool (decide (a < b))))∧(∀ tab t k a b n,dL tab .leq t (.int k a) (.int k b) n=some (.bool (decide (a≤b))))∧
 (∀ tab t k a b n,dL tab .gtr t (.int k a) (.int k b) n=some (.bool (decide (b < a))))∧(∀ tab t k a b n,dL tab .geq t (.int k a) (.int k b) n=some (.bool (decide (b≤a))))∧
 (∀ tab t k a b n,dL tab .add t (.int k a) (.int k b) n=some (.int k (k.wrap (a+b))))∧(∀ tab t k a b n,dL tab .sub t (.int k a) (.int k b) n=some (.int k (k.wrap (a - b))))∧
 (∀ tab t k a b n,dL tab .mul t (.int k a) (.int k b) n=some (.int k (k.wrap (a*b))))∧
 (∀ tab t k a b n,dL tab .quo t (.int k a) (.int k b) n=if b=0 then none else some (.int k (k.wrap (a.tdiv b))))∧(∀ tab t k a b n,dL tab .rem t (.int k a) (.int k b) n=if b=0 then none else some (.int k (a.tmod b)))∧
 (∀ tab t a b n,dL tab .eql t (.str a) (.str b) n=some (.bool (a == b)))∧(∀ tab t a b n,dL tab .neq t (.str a) (.str b) n=some (.bool (!(a == b))))∧
 (∀ tab t a b n,dL tab .add t (.str a) (.str b) n=if a.length+b.length≤1099511627776 then some (.str (a++b))else none):=by
 refine⟨?_,?_,?_,?_,?_,?_,?_,?_,?_,?_,?_,?_,?_,?_,?_,?_⟩<;>intros<;>first|rfl|simp[dL,yR,Zi]
def Ox (T:List V):List Operand→List V
 | []=>[]
 | x::l=>ev T x::Ox T l
theorem Kk (T:List V)(l:List Operand):l.map (ev T)=Ox T l:=by
 induction l with
 | nil=>rfl
 | cons x l ih=>rw[List.map_cons,ih];rfl
theorem Ki (tab:cR)(H:aA)(T:List V)(f:FuncId)(l:List Operand)(ts:Array TypeId):dB tab H (ev T) ⟨.value (.func f),l.toArray,ts⟩ = .call f (Ox T l):=by
 simp[dB,ev,Kk]
def clo (f:FuncId)(first args cap:List V):FO:=.call f (first++args++cap)
def aHf:V→List V→FO | .fn f first cap,args=>clo f first args cap|_,_ => .stuck
theorem Jo (tab:cR)(H:aA)(T:List V)(t:Tmp)(l:List Operand)(ts:Array TypeId):dB tab H (ev T) ⟨.value (.tmp t),l.toArray,ts⟩=aHf (gt T t) (Ox T l):=by
 simp only[dB,Kk];show(match gt T t with | .fn f first cap=>FO.call f (first++Ox T l++cap)|_ => .stuck)=_;cases gt T t<;>rfl
def lenD:TD→V→Option V
 | .slice _,.sl _ _ n=>some (.int .i64 n)
 | .slice _,.imm es=>some (.int .i64 es.length)
 | .slice _,.nils=>some (.int .i64 0)
 | .str,.str s=>some (.int .i64 s.length)
 | .arr n _,_=>some (.int .i64 n)
 | _,_=>none
theorem Fz (tab:cR)(t:TypeId)(x:V):Gz tab t x=lenD (tab t).desc x:=by
 simp only[Gz];cases (tab t).desc<;>cases x<;>rfl
theorem W8:(∀ tab H T f l ts,dB tab H (ev T) ⟨.value (.func f),List.toArray l,ts⟩ = .call f (Ox T l))∧(∀ tab H T t l ts,dB tab H (ev T) ⟨.value (.tmp t),List.toArray l,ts⟩=aHf (gt T t) (Ox T l))∧
 (∀ f first cap args,aHf (.fn f first cap) args = .call f (first++args++cap))∧(∀ T,Ox T []=[])∧(∀ T x l,Ox T (x::l)=ev T x::Ox T l)∧
 (∀ tab H T x t,dB tab H (ev T) ⟨.builtin .len,List.toArray [x],List.toArray [t]⟩=FO.of (lenD (tab t).desc (ev T x)) H)∧
 (∀ tab H T x y t u,dB tab H (ev T) ⟨.builtin .append,List.toArray [x,y],List.toArray [t,u]⟩=hC tab H t u (ev T x) (ev T y))∧
 (∀ tab H T x y t u,dB tab H (ev T) ⟨.builtin .copy,List.toArray [x,y],List.toArray [t,u]⟩=mX tab H t (ev T x) (ev T y))∧
 (∀ tab H T x y ts,dB tab H (ev T) ⟨.builtin .max,List.toArray [x,y],ts⟩=FO.of (kF (fun x y=>if y > x then y else x) [ev T x,ev T y]) H)∧
 (∀ tab H T x y ts,dB tab H (ev T) ⟨.builtin .min,List.toArray [x,y],ts⟩=FO.of (kF (fun x y=>if y < x then y else x) [ev T x,ev T y]) H)∧
 (∀ e b i n,lenD (.slice e) (.sl b i n)=some (.int .i64 n))∧(∀ e es,lenD (.slice e) (.imm es)=some (.int .i64 es.length))∧(∀ e,lenD (.slice e) .nils=some (.int .i64 0))∧(∀ s,lenD .str (.str s)=some (.int .i64 s.length))∧(∀ n e x,lenD (.arr n e) x=some (.int .i64 n))∧
 (∀ f k a b,kF f [.int k a,.int k b]=some (.int k (f a b))):=by
 refine⟨Ki,Jo,?_,?_,?_,?_,?_,?_,?_,?_,?_,?_,?_,?_,?_,?_⟩<;>intros<;>first|rfl|simp[dB,Fz,kF]
def aGj (H:aA)(t:TI):Option V→FO|some v=>if t.known=true∧v.cells.length=t.size then .val (.ip v 0) H else .stuck|none => .stuck
def rsz:Option Blk→Option Nat|some (.row s _ _)=>some s|_=>none
def Pu (tab:cR)(H:aA):TD→V→V→FO
 | .slice e,.sl b i n,.int _ k=>if 0≤k∧k < n∧(tab e).known=true∧rsz (hb H b)=some (tab e).size then .val (.ptr b (i+k.toNat) 0) H else .stuck
 | .slice e,.imm es,.int _ k=>if 0≤k then aGj H (tab e) es[k.toNat]? else .stuck
 | .arr n e,.ptr b i j,.int _ k=>if 0≤k∧k < n∧(tab e).known=true then .val (.ptr b i (j+k.toNat*(tab e).size)) H else .stuck
 | _,_,_ => .stuck
theorem Us (H:aA)(b:Nat):dZ H b=rsz (hb H b):=by
 simp only[dZ,hb,rsz];cases H[b]? with
 | none=>rfl
 | some x=>cases x<;>rfl
theorem xL (tab:cR)(T:List V)(H:aA)(t:TypeId)(x i:Operand):bQ tab T H (.indexAddr t x i)=Pu tab H (tab t).desc (ev T x) (ev T i):=by
 simp only[bQ,Us];cases (tab t).desc<;>cases ev T x<;>cases ev T i<;>try rfl
def uE (tab:cR)(H:aA)(d:TD)(x:V):Option (Nat×Nat)→FO
 | some (l,h)=>match d,x with
  | .str,.str s => .val (.str ((s.drop l).take (h - l))) H
  | .slice e,.sl b i _=>if(tab e).known=true∧rsz (hb H b)=some (tab e).size then .val (.sl b (i+l) (h - l)) H else .stuck
  | .slice e,.imm es=>if(tab e).known=true∧aQ (tab e).size es=true then .val (.imm ((es.drop l).take (h - l))) H else .stuck
  | .slice e,.nils=>if(tab e).known=true then .val .nils H else .stuck
  | _,_ => .stuck
 | none => .stuck
def evO (T:List V):Option Operand→Option V|some x=>some (ev T x)|none=>none
def vl:V→Nat | .sl _ _ n=>n | .imm es=>es.length | .nils=>0 | .str s=>s.length|_=>0
def xE (tab:cR)(H:aA)(q:Bool)(d:TD)(x:V)(o:Option (Nat×Nat)):FO:=match d,x with
 | .arr n e,.ptr b 0 0=>(match o with|some _=>if q then .stuck else Pb tab H n e b|none => .stuck)
 | _,_=>uE tab H d x o
theorem Nn (tab:cR)(T:List V)(H:aA)(t:TypeId)(x:Operand)(lo hi:Option Operand):bQ tab T H (.slice t x lo hi none)=xE tab H (lo.isSome || hi.isSome) (tab t).desc (ev T x) (nA (vl (ev T x)) (evO T lo) (evO T hi)):=by
 have h1:∀ o:Option Operand,o.map (ev T)=evO T o:=fun o=>by cases o<;>rfl
 have h2:∀ v,(pJ v).getD 0=vl v:=fun v=>by cases v<;>rfl
 simp only[bQ,Us,h1,h2];cases nA (vl (ev T x)) (evO T lo) (evO T hi)with
 | none=>simp only[xE,uE];split<;>rfl
 | some p=>
  obtain⟨l,h⟩:=p;simp only[xE,uE];cases hd:(tab t).desc<;>try (cases ev T x<;>rfl)
  cases ev T x<;>try rfl
  rename_i n e b i j;cases i<;>try rfl
  cases j<;>rfl
theorem Os (tab:cR)(H:aA)(q:Bool)(x:V)(o:Option (Nat×Nat)):xE tab H q .str x o=uE tab H .str x o:=rfl
theorem By (tab:cR)(H:aA)(q:Bool)(e:TypeId)(x:V)(o:Option (Nat×Nat)):xE tab H q (.slice e) x o=uE tab H (.slice e) x o:=rfl
theorem qP (n:Nat)(k:IntKind)(l:Int)(h0:0≤l)(h:l≤n):nA n (some (.int k l)) none=some (l.toNat,n):=by simp[nA,h0,h]
theorem tR (n:Nat)(k:IntKind)(h:Int)(h0:0≤h)(h1:h≤n):nA n none (some (.int k h))=some (0,h.toNat):=by simp[nA,h0,h1]
def elB:Option Blk→Nat→Nat→Option (List V)|some (.row _ es _),i,n=>if i+n≤es.length then some ((es.drop i).take n)else none|_,_,_=>none
theorem eZ (H:aA)(b i n:Nat):bS H (.sl b i n)=elB (hb H b) i n:=by
 simp only[bS,hb,elB];cases H[b]? with
 | none=>rfl
 | some x=>cases x<;>rfl
def qS (t:TI)(H:aA):V→Option (List V)→FO
 | s,some xs=>if t.known=true∧t.bytes≤4096∧aQ t.size xs=true then
  match s with
  | .nils=>if xs.length=0 then .val .nils H else if xs.length≤1073741824 then .val (.sl H.length 0 xs.length) (H++[.row t.size xs false])else .stuck
  | .sl b i n=>(match hb H b with
   | some (.row sz es false)=>if sz=t.size∧i+n≤es.length∧n+xs.length≤1073741824 then
    .val (.sl H.length 0 (n+xs.length)) (H.set b .dead++[.row sz ((es.drop i).take n++xs) false])else .stuck
   | _ => .stuck)
  | _ => .stuck
  else .stuck
 | _,none => .stuck
def aBn (tab:cR)(H:aA):TD→V→Option (List V)→FO | .slice e,s,xs=>qS (tab e) H s xs|_,_,_ => .stuck
theorem Ni (tab:cR)(H:aA)(t u:TypeId)(s x:V)(hu:(tab u).row=true):hC tab H t u s x=aBn tab H (tab t).desc s (bS H x):=by
 simp only[hC,hu,if_true];cases (tab t).desc<;>try rfl
 simp only[aBn];cases bS H x with
 | none=>rfl
 | some xs=>
  simp only[qS];split
  ·cases s<;>rfl
  ·rfl
def Hw (t:TI)(H:aA):V→Option (List V)→FO
 | .sl b i n,some xs=>(match hb H b with
  | some (.row sz es false)=>if t.known=true∧sz=t.size∧i+n≤es.length∧aQ t.size xs=true then
   .val (.int .i64 (min xs.length n:Nat)) (H.set b (.row sz (es.take i++(xs.take n++es.drop (i+min xs.length n))) false))else .stuck
  | _ => .stuck)
 | _,_ => .stuck
def aAt (tab:cR)(H:aA):TD→V→Option (List V)→FO | .slice e,d,xs=>Hw (tab e) H d xs|_,_,_ => .stuck
theorem Jw (tab:cR)(H:aA)(t:TypeId)(d x:V):mX tab H t d x=aAt tab H (tab t).desc d (bS H x):=by
 simp only[mX];cases (tab t).desc<;>try rfl
 cases bS H x with
 | none=>cases d<;>rfl
 | some xs=>
  simp only[aAt];cases d<;>rfl
def mkS (t:TI)(H:aA):V→V→FO
 | .int .i64 n,.int .i64 m=>if t.known=true∧n=m∧0≤n∧n≤1073741824∧t.bytes≤4096 then .val (.sl H.length 0 n.toNat) (H++[.row t.size (List.replicate n.toNat t.zero) false])else .stuck
 | _,_ => .stuck
def mkD (tab:cR)(H:aA):TD→V→V→FO | .slice e,l,c=>mkS (tab e) H l c|_,_,_ => .stuck
theorem xK (tab:cR)(T:List V)(H:aA)(t:TypeId)(l c:Operand):bQ tab T H (.makeSlice t l c)=mkD tab H (tab t).desc (ev T l) (ev T c):=by
 simp only[bQ];cases (tab t).desc<;>try rfl
 cases hl:ev T l<;>try rfl
 rename_i k n;cases k<;>cases hc:ev T c<;>try rfl
 rename_i k' n';cases k'<;>rfl
def evp (T:List V):List (Nat×Operand)→List (Nat×V)
 | []=>[]
 | x::l=>(x.1,ev T x.2)::evp T l
theorem Lk (T:List V)(l:List (Nat×Operand)):(l.map fun p=>(p.1,ev T p.2))=evp T l:=by
 induction l with
 | nil=>rfl
 | cons x l ih=>rw[List.map_cons,ih];rfl
def Po (H:aA):Option (List V)→FO|some l => .val (.agg l) H|none => .stuck
def wT (tab:cR)(H:aA)(fs:List (Nat×TypeId))(z:V)(ps:List (Nat×V)):FO:=Po H (layS tab fs z.cells ps)
where layS (tab:cR) (fs:List (Nat×TypeId)):List V→List (Nat×V)→Option (List V)
 | cs,[]=>some cs
 | cs,(i,v)::r=>match Yh fs i with
  | some (off,ft)=>if v.fit=true∧v.cells.length=(tab ft).size∧off+(tab ft).size≤cs.length then layS tab fs (sC cs off v.cells) r else none
  | none=>none
theorem Uj (tab:cR)(fs:List (Nat×TypeId)):∀(ps:List (Nat×V))(cs:List V),eF (fieldPlace tab fs) cs ps=wT.layS tab fs cs ps
 | [],cs=>rfl
 | (i,v)::r,cs=>by
  simp only[eF,wT.layS,fieldPlace,Yh];cases fs[i]? with
  | none=>rfl
  | some x=>
   obtain⟨off,ft⟩:=x;simp only[Option.map_some];split
   ·exact Uj tab fs r _
   ·rfl
def Sf (tab:cR)(H:aA)(z:V)(ps:List (Nat×V)):TD→FO
 | .struct fs=>wT tab H fs z ps
 | .arr _ e=>if(tab e).known=false then .stuck else Po H (eF (fun i=>some (i*(tab e).size,(tab e).size)) z.cells ps)
 | _ => .stuck
theorem Sn (tab:cR)(T:List V)(H:aA)(t:TypeId)(ps:List (Nat×Operand)):bQ tab T H (.build t ps.toArray)=Sf tab H (tab t).zero (evp T ps) (tab t).desc:=by
 simp only[bQ,Lk];cases (tab t).desc<;>try rfl
 ·simp only[Sf,wT,Uj];cases wT.layS tab _ _ _<;>rfl
 ·simp only[Sf];split
  ·rfl
  ·cases eF _ _ _<;>rfl
def aHg (H:aA)(sz n:Nat):Option (List V)→FO|some es => .val (.sl H.length 0 n) (H++[.row sz es false])|none => .stuck
def aHh (t:TI)(H:aA)(n:Nat)(ps:List (Nat×V)):FO:=if t.known=true∧n*t.size≤16777216 then aHg H t.size n (gP t.size n (List.replicate n t.zero) ps)else .stuck
def aHi (tab:cR)(H:aA)(n:Nat)(ps:List (Nat×V)):TD→FO | .slice e=>aHh (tab e) H n ps|_ => .stuck
theorem vY (tab:cR)(T:List V)(H:aA)(t:TypeId)(n:Nat)(ps:List (Nat×Operand)):bQ tab T H (.buildSlice t n ps.toArray)=aHi tab H n (evp T ps) (tab t).desc:=by
 simp only[bQ,Lk];cases (tab t).desc<;>try rfl
theorem W9:(∀ tab T H t x i,bQ tab T H (.indexAddr t x i)=Pu tab H (tab t).desc (ev T x) (ev T i))∧
 (∀ tab H e b i n k a,Pu tab H (.slice e) (.sl b i n) (.int k a)=if 0≤a∧a < n∧(tab e).known=true∧rsz (hb H b)=some (tab e).size then .val (.ptr b (i+a.toNat) 0) H else .stuck)∧
 (∀ tab H e es k a,Pu tab H (.slice e) (.imm es) (.int k a)=if 0≤a then aGj H (tab e) es[a.toNat]? else .stuck)∧
 (∀ tab H n e b i j k a,Pu tab H (.arr n e) (.ptr b i j) (.int k a)=if 0≤a∧a < n∧(tab e).known=true then .val (.ptr b i (j+a.toNat*(tab e).size)) H else .stuck)∧
 (∀ H t v,aGj H t (some v)=if t.known=true∧v.cells.length=t.size then .val (.ip v 0) H else .stuck)∧(∀ s es ro,rsz (some (.row s es ro))=some s)∧
 ((∀ tab T H t x lo hi,bQ tab T H (.slice t x lo hi none)=xE tab H (lo.isSome || hi.isSome) (tab t).desc (ev T x) (nA (vl (ev T x)) (evO T lo) (evO T hi)))∧(∀ tab H q x o,xE tab H q .str x o=uE tab H .str x o)∧(∀ tab H q e x o,xE tab H q (.slice e) x o=uE tab H (.slice e) x o)∧(∀ tab H n e b p,xE tab H false (.arr n e) (.ptr b 0 0) (some p)=Pb tab H n e b))∧(∀ n,nA n none none=some (0,n))∧(∀ T,evO T none=none)∧(∀ T x,evO T (some x)=some (ev T x))∧
 (∀ b i n,vl (.sl b i n)=n)∧(∀ es,vl (.imm es)=es.length)∧(vl .nils=0)∧(∀ s,vl (.str s)=s.length)∧
 (∀ tab H s l h,uE tab H .str (.str s) (some (l,h)) = .val (.str ((s.drop l).take (h - l))) H)∧(∀ tab H e b i n l h,uE tab H (.slice e) (.sl b i n) (some (l,h))=if(tab e).known=true∧rsz (hb H b)=some (tab e).size then .val (.sl b (i+l) (h - l)) H else .stuck)∧
 (∀ tab H e es l h,uE tab H (.slice e) (.imm es) (some (l,h))=if(tab e).known=true∧aQ (tab e).size es=true then .val (.imm ((es.drop l).take (h - l))) H else .stuck)∧(∀ tab H e l h,uE tab H (.slice e) .nils (some (l,h))=if(tab e).known=true then .val .nils H else .stuck)∧
 (∀ H b i n,bS H (.sl b i n)=elB (hb H b) i n)∧(∀ H es,bS H (.imm es)=some es)∧(∀ H,bS H .nils=some [])∧(∀ H s,bS H (.str s)=some (s.map fun c => .int .u8 c.toNat))∧(∀ s es ro i n,elB (some (.row s es ro)) i n=if i+n≤es.length then some ((es.drop i).take n)else none)∧
 (∀ tab H e s xs,aBn tab H (.slice e) s xs=qS (tab e) H s xs)∧(∀ t H xs,qS t H .nils (some xs)=if t.known=true∧t.bytes≤4096∧aQ t.size xs=true then(if xs.length=0 then .val .nils H else if xs.length≤1073741824 then .val (.sl H.length 0 xs.length) (H++[.row t.size xs false])else .stuck)else .stuck)∧
 (∀ tab H t d x,mX tab H t d x=aAt tab H (tab t).desc d (bS H x))∧(∀ tab H e d xs,aAt tab H (.slice e) d xs=Hw (tab e) H d xs)∧
 (∀ tab T H t l c,bQ tab T H (.makeSlice t l c)=mkD tab H (tab t).desc (ev T l) (ev T c))∧(∀ tab H e l c,mkD tab H (.slice e) l c=mkS (tab e) H l c)∧(∀ t H n m,mkS t H (.int .i64 n) (.int .i64 m)=if t.known=true∧n=m∧0≤n∧n≤1073741824∧t.bytes≤4096 then .val (.sl H.length 0 n.toNat) (H++[.row t.size (List.replicate n.toNat t.zero) false])else .stuck)∧
 (∀ T,evp T []=[])∧(∀ T i x l,evp T ((i,x)::l)=(i,ev T x)::evp T l)∧(∀ tab T H t ps,bQ tab T H (.build t (List.toArray ps))=Sf tab H (tab t).zero (evp T ps) (tab t).desc)∧(∀ tab H z ps fs,Sf tab H z ps (.struct fs)=wT tab H fs z ps)∧(∀ tab H fs z ps,wT tab H fs z ps=Po H (wT.layS tab fs z.cells ps))∧(∀ H l,Po H (some l) = .val (.agg l) H)∧
 (∀ tab fs cs,wT.layS tab fs cs []=some cs)∧(∀ tab fs cs i v r,wT.layS tab fs cs ((i,v)::r)=match Yh fs i with|some (off,ft)=>if v.fit=true∧v.cells.length=(tab ft).size∧off+(tab ft).size≤cs.length then wT.layS tab fs (sC cs off v.cells) r else none|none=>none)∧
 (∀ tab T H t n ps,bQ tab T H (.buildSlice t n (List.toArray ps))=aHi tab H n (evp T ps) (tab t).desc)∧(∀ tab H n ps e,aHi tab H n ps (.slice e)=aHh (tab e) H n ps)∧(∀ t H n ps,aHh t H n ps=if t.known=true∧n*t.size≤16777216 then aHg H t.size n (gP t.size n (List.replicate n t.zero) ps)else .stuck)∧(∀ H sz n es,aHg H sz n (some es) = .val (.sl H.length 0 n) (H++[.row sz es false]))∧
 (∀ size len es,gP size len es []=some es)∧(∀ size len es i v r,gP size len es ((i,v)::r)=if v.fit=true∧v.cells.length=size∧i < len then gP size len (es.set i v) r else none)∧
 (∀ l j,sC l j []=l)∧(∀ c l v vs,sC (c::l) 0 (v::vs)=v::sC l 0 vs)∧(∀ c l j v vs,sC (c::l) (j+1) (v::vs)=c::sC l j (v::vs)):=by
 refine⟨xL,?_,?_,?_,?_,?_,⟨Nn,Os,By,fun _ _ _ _ _ _=>rfl⟩,?_,?_,?_,?_,?_,?_,?_,?_,?_,?_,?_,eZ,?_,?_,?_,?_,?_,?_,Jw,?_,xK,?_,?_,?_,?_,Sn,?_,?_,?_,?_,?_,vY,?_,?_,?_,?_,?_,?_,?_,?_⟩<;>intros<;>first|rfl|(simp[sC];done)|(rename_i l j;cases l<;>cases j<;>rfl)
end
section
open Ieee
def sg (s:Bool)(z:Int):Bool:=if z=0 then s else decide (z < 0)
def jB (s:Bool)(z:Int):Nat:=double.nearest (sg s z) z.natAbs 0
def Wo (d:Datum)(s:Bool)(z:Int):Prop:=∃ k:Nat,d = .number (sg s z) (z.natAbs*2 ^ k) (-(k:Int))
theorem uY {n k:Nat}(h:n≠0):(n*2 ^ k).log2=n.log2+k:=by
 have h1:=Nat.log2_self_le h;have h2:n < 2 ^ (n.log2+1):=Nat.lt_log2_self;refine(Nat.log2_eq_iff (Nat.mul_ne_zero h (by simp))).2 ⟨?_,?_⟩
 ·rw[Nat.pow_add];exact Nat.mul_le_mul_right _ h1
 ·rw[show n.log2+k+1=n.log2+1+k by omega,Nat.pow_add 2 (n.log2+1) k];exact Nat.mul_lt_mul_of_pos_right h2 (Nat.two_pow_pos _)
theorem rT (way:Toward)(s:Bool)(n d:Nat)(hn:n≠0):way.cut s (n*2 ^ d) d=n:=by
 have hm:min d ((n*2 ^ d).log2+2)=d:=by rw[uY hn];omega
 have hp:0 < 2 ^ d:=Nat.two_pow_pos d;unfold Toward.cut;simp only[hm,Nat.one_shiftLeft,Nat.mul_div_cancel n hp,Nat.mul_mod_left];cases way<;>simp<;>omega
theorem Gw (way:Toward)(s:Bool)(d:Nat):way.cut s 0 d=0:=by
 have hp:∀ m,0 < 2 ^ m:=fun m=>Nat.two_pow_pos m;unfold Toward.cut;simp only[Nat.one_shiftLeft,Nat.zero_div,Nat.zero_mod];cases way<;>simp<;>(have:=hp (min d (Nat.log2 0+2));omega)
theorem lp:double.leastPlace = -1074:=by decide
theorem Dj {A M:Nat}(h:A≤1074)(h2:M < 2 ^ 53):A*2 ^ 52+M≤2047*2 ^ 52:=by
 have h3:(2:Nat) ^ 53=2*2 ^ 52:=rfl;rw[h3]at h2;generalize (2:Nat) ^ 52=B at *;have:A*B≤1074*B:=Nat.mul_le_mul_right _ h;omega
theorem pX (s:Bool)(n k:Nat)(hn:n≠0)(hb:n < 2 ^ 53):double.nearest s (n*2 ^ k) (-(k:Int))=double.word s ((n.log2+1022)*2 ^ 52+n*2 ^ (52 - n.log2)):=by
 have hl:n.log2 < 53:=(Nat.log2_lt hn).2 hb;have h0:n*2 ^ k≠0:=Nat.mul_ne_zero hn (by simp);unfold Format.nearest;rw[if_neg h0];have hF:double.fractionBits=52:=rfl;have hB:double.binade=2 ^ 52:=rfl;have hI:double.infRung=2047*2 ^ 52:=rfl;simp only[lp,uY hn,hF,hB,hI];have e1:max (-(k:Int)+((n.log2+k:Nat):Int) - ((52:Nat):Int)) (-1074)=(n.log2:Int) - 52:=by omega
 rw[e1];have e2:((n.log2:Int) - 52 - -1074).toNat=n.log2+1022:=by omega
 rw[e2];have e3:Toward.even.cut s ((n*2 ^ k) <<< ((-(k:Int)) - ((n.log2:Int) - 52)).toNat) (((n.log2:Int) - 52) - (-(k:Int))).toNat=n*2 ^ (52 - n.log2):=by
  by_cases hk:k+n.log2≤52
  ·have a1:((-(k:Int)) - ((n.log2:Int) - 52)).toNat=52 - n.log2 - k:=by omega
   have a2:(((n.log2:Int) - 52) - (-(k:Int))).toNat=0:=by omega
   rw[a1,a2,Nat.shiftLeft_eq,Nat.mul_assoc,←Nat.pow_add,show k+(52 - n.log2 - k)=52 - n.log2 by omega];have:=rT .even s (n*2 ^ (52 - n.log2)) 0 (Nat.mul_ne_zero hn (by simp));simpa using this
  ·have a1:((-(k:Int)) - ((n.log2:Int) - 52)).toNat=0:=by omega
   have a2:(((n.log2:Int) - 52) - (-(k:Int))).toNat=n.log2+k - 52:=by omega
   rw[a1,a2,Nat.shiftLeft_zero];have h3:n*2 ^ k=n*2 ^ (52 - n.log2)*2 ^ (n.log2+k - 52):=by
    rw[Nat.mul_assoc,←Nat.pow_add,show 52 - n.log2+(n.log2+k - 52)=k by omega]
   rw[h3];exact rT .even s _ _ (Nat.mul_ne_zero hn (by simp))
 rw[e3];congr 1;have h4:n*2 ^ (52 - n.log2) < 2 ^ 53:=by
  have:n < 2 ^ (n.log2+1):=Nat.lt_log2_self;calc n*2 ^ (52 - n.log2) < 2 ^ (n.log2+1)*2 ^ (52 - n.log2):=Nat.mul_lt_mul_of_pos_right this (Nat.two_pow_pos _)
   _=2 ^ 53:=by rw[←Nat.pow_add];congr 1;omega
 have h5:n.log2+1022≤1074:=by omega
 exact Nat.min_eq_left (Dj h5 h4)
theorem zP {d:Datum}{s:Bool}{z:Int}(h:Wo d s z)(hb:z.natAbs < 2 ^ 53):double.write d=jB s z:=by
 obtain⟨k,rfl⟩:=h;unfold Format.write jB;by_cases hz:z.natAbs=0
 ·simp[hz,Format.nearest]
 ·show double.nearest (sg s z) (z.natAbs*2 ^ k) (-(k:Int))=_;rw[pX _ _ k hz hb];have:=pX (sg s z) z.natAbs 0 hz hb;simpa using this.symm
theorem lM (s:Bool)(z:Int)(hb:z.natAbs < 2 ^ 53):Wo (double.read (jB s z)) s z:=by
 by_cases hz:z.natAbs=0
 ·have hz':z=0:=by omega
  subst hz';obtain⟨k,hk⟩:∃ k:Nat,k=1074:=⟨_,rfl⟩;refine⟨k,?_⟩;simp only[Int.natAbs_zero,Nat.zero_mul];rw[hk];cases s<;>rfl
 ·have hl:z.natAbs.log2 < 53:=(Nat.log2_lt hz).2 hb;refine⟨52 - z.natAbs.log2,?_⟩;have e:jB s z=double.word (sg s z) ((z.natAbs.log2+1022)*2 ^ 52+z.natAbs*2 ^ (52 - z.natAbs.log2)):=by
   have:=pX (sg s z) z.natAbs 0 hz hb;simpa[jB]using this
  rw[e];generalize hn:z.natAbs=n at *;generalize sg s z=t;generalize hL:n.log2=L at *;have h1:2 ^ L≤n:=hL▸Nat.log2_self_le hz;have h2:n < 2 ^ (L+1):=hL▸Nat.lt_log2_self;have h3:2 ^ 52≤n*2 ^ (52 - L):=by
   calc 2 ^ 52=2 ^ L*2 ^ (52 - L):=by rw[←Nat.pow_add];congr 1;omega
    _≤_:=Nat.mul_le_mul_right _ h1
  have h4:n*2 ^ (52 - L) < 2 ^ 53:=by
   calc n*2 ^ (52 - L) < 2 ^ (L+1)*2 ^ (52 - L):=Nat.mul_lt_mul_of_pos_right h2 (Nat.two_pow_pos _)
    _=2 ^ 53:=by rw[←Nat.pow_add];congr 1;omega
  generalize n*2 ^ (52 - L)=M at *;have hr:(L+1022)*2 ^ 52+M < 2 ^ 63:=by
   have:(L+1022)*2 ^ 52≤1074*2 ^ 52:=Nat.mul_le_mul_right _ (by omega);omega
  have w1:double.word t ((L+1022)*2 ^ 52+M) / 2 ^ 63 % 2 == 1 ↔ t=true:=by
   unfold Format.word;cases t<;>simp[double,Format.signWeight]<;>omega
  have w2:double.word t ((L+1022)*2 ^ 52+M) % 2 ^ 63=(L+1022)*2 ^ 52+M:=by
   unfold Format.word;cases t<;>simp[double,Format.signWeight]<;>omega
  have hs:double.signWeight=2 ^ 63:=rfl;have hbn:double.binade=2 ^ 52:=rfl;have hir:double.infRung=2047*2 ^ 52:=rfl;unfold Format.read;simp only[hs,hbn,hir,w2,lp];rw[if_neg (by omega),if_pos (by
   have:(L+1022)*2 ^ 52≤1074*2 ^ 52:=Nat.mul_le_mul_right _ (by omega);omega)]
  have q1:((L+1022)*2 ^ 52+M) % 2 ^ 52=M - 2 ^ 52:=by
   rw[Nat.add_comm,Nat.add_mul_mod_self_right];omega
  have q2:((L+1022)*2 ^ 52+M) / 2 ^ 52=L+1023:=by omega
  rw[q1,q2];have w3:(double.word t ((L+1022)*2 ^ 52+M) / 2 ^ 63 % 2 == 1)=t:=by
   cases t with
   | true=>exact w1.2 rfl
   | false=>cases hq:(double.word false ((L+1022)*2 ^ 52+M) / 2 ^ 63 % 2 == 1)with
    | false=>rfl
    | true=>exact absurd (w1.1 hq) (by simp)
  rw[w3,show 2 ^ 52+(M - 2 ^ 52)=M by omega,show(-1074:Int)+((L+1023 - 1:Nat):Int) = -((52 - L:Nat):Int) by omega]
theorem mK (s:Bool)(z:Int)(m:Nat):signed (sg s z) (z.natAbs*2 ^ m) 0=z*2 ^ m:=by
 unfold signed sg;simp only[Nat.shiftLeft_zero];by_cases hz:z=0
 ·subst hz;simp
 ·rw[if_neg hz];by_cases hn:z < 0
  ·simp only[hn,decide_true,if_true];have:(z.natAbs:Int) = -z:=by omega
   push_cast
   rw[this,Int.neg_mul,Int.neg_neg]
  ·simp only[hn,decide_false,Bool.false_eq_true,if_false];have:(z.natAbs:Int)=z:=by omega
   push_cast
   rw[this]
theorem iX (s:Bool)(m u:Nat):signed s m u=signed s (m*2 ^ u) 0:=by
 unfold signed;simp[Nat.shiftLeft_eq]
theorem aCu {d e:Datum}{s t:Bool}{x y:Int}(hd:Wo d s x)(he:Wo e t y):∃ r,d.sum e=some r∧Wo r (sg s x && sg t y) (x+y):=by
 obtain⟨k,rfl⟩:=hd;obtain⟨l,rfl⟩:=he;refine⟨_,rfl,?_⟩;have hb:min (-(k:Int)) (-(l:Int)) = -((max k l:Nat):Int):=by omega
 simp only[hb];have a1:(-(k:Int) - -((max k l:Nat):Int)).toNat=max k l - k:=by omega
 have a2:(-(l:Int) - -((max k l:Nat):Int)).toNat=max k l - l:=by omega
 rw[a1,a2,iX,iX (sg t y),Nat.mul_assoc,Nat.mul_assoc,←Nat.pow_add,←Nat.pow_add,show k+(max k l - k)=max k l by omega,show l+(max k l - l)=max k l by omega,mK,mK,←Int.add_mul];refine⟨max k l,?_⟩;have hp:(0:Int) < 2 ^ (max k l):=Int.pow_pos (by omega);have hz:(x+y)*2 ^ (max k l)=0 ↔ x+y=0:=by
  constructor
  ·intro h;rcases Int.mul_eq_zero.1 h with h|h<;>omega
  ·intro h;rw[h];simp
 have hlt:(x+y)*2 ^ (max k l) < 0 ↔ x+y < 0:=by
  constructor
  ·intro h;by_cases hq:x+y < 0
   ·exact hq
   ·have:=Int.mul_nonneg (show 0≤x+y by omega) (Int.le_of_lt hp);omega
  ·intro h;exact Int.mul_neg_of_neg_of_pos h hp
 congr 1
 ·by_cases hq:x+y=0
  ·simp[sg,hq]
  ·rw[if_neg (by rw[hz];exact hq)];unfold sg;rw[if_neg hq];exact decide_eq_decide.2 hlt
 ·rw[Int.natAbs_mul,Int.natAbs_pow];rfl
theorem aKs {d:Datum}{s:Bool}{x:Int}(hd:Wo d s x):Wo d.opposite (!s) (-x):=by
 obtain⟨k,rfl⟩:=hd;refine⟨k,?_⟩;simp only[Datum.opposite,Int.natAbs_neg];congr 1;unfold sg;by_cases hx:x=0
 ·simp[hx]
 ·rw[if_neg hx,if_neg (by omega)];by_cases hn:x < 0
  ·simp[hn];omega
  ·simp[hn];omega
theorem aKu {d e:Datum}{s t:Bool}{x y:Int}(hd:Wo d s x)(he:Wo e t y):∃ r,d.product e=some r∧Wo r (sg s x ^^ sg t y) (x*y):=by
 obtain⟨k,rfl⟩:=hd;obtain⟨l,rfl⟩:=he;refine⟨_,rfl,k+l,?_⟩;congr 1
 ·unfold sg;by_cases hx:x=0
  ·simp[hx]
  by_cases hy:y=0
  ·simp[hy]
  have hxy:x*y≠0:=fun h=>by rcases Int.mul_eq_zero.1 h with h|h<;>omega
  rw[if_neg hx,if_neg hy,if_neg hxy];by_cases h1:x < 0<;>by_cases h2:y < 0
  ·have:=Int.mul_pos_of_neg_of_neg h1 h2;simp[h1,h2];omega
  ·have:=Int.mul_neg_of_neg_of_pos h1 (show 0 < y by omega);simp[h1,h2];omega
  ·have:=Int.mul_neg_of_pos_of_neg (show 0 < x by omega) h2;simp[h1,h2];omega
  ·have:=Int.mul_pos (show 0 < x by omega) (show 0 < y by omega);simp[h1,h2];omega
 ·rw[Int.natAbs_mul,Nat.pow_add];simp only[Nat.mul_assoc,Nat.mul_left_comm,Nat.mul_comm]
 ·push_cast;omega
theorem aLn {d:Datum}{s:Bool}{x:Int}(hd:Wo d s x):d.toInt .zero=some x:=by
 obtain⟨k,rfl⟩:=hd;simp only[Datum.toInt,Datum.integral];have a1:(-(k:Int)).toNat=0:=by omega
 have a2:(- -(k:Int)).toNat=k:=by omega
 rw[a1,a2,Nat.shiftLeft_zero];by_cases hx:x.natAbs=0
 ·have:x=0:=by omega
  subst this;simp[Gw,signed]
 ·rw[rT _ _ _ _ hx];have:=mK s x 0;simp only[Nat.pow_zero,Nat.mul_one,Int.pow_zero,Int.mul_one]at this;rw[this]
theorem aKr {d e:Datum}{s t:Bool}{x y:Int}(hd:Wo d s x)(he:Wo e t y):(d.order e == some .eq)=decide (x=y):=by
 obtain⟨k,rfl⟩:=hd;obtain⟨l,rfl⟩:=he;simp only[Datum.order];have hb:min (-(k:Int)) (-(l:Int)) = -((max k l:Nat):Int):=by omega
 simp only[hb];have a1:(-(k:Int) - -((max k l:Nat):Int)).toNat=max k l - k:=by omega
 have a2:(-(l:Int) - -((max k l:Nat):Int)).toNat=max k l - l:=by omega
 rw[a1,a2,iX,iX (sg t y),Nat.mul_assoc,Nat.mul_assoc,←Nat.pow_add,←Nat.pow_add,show k+(max k l - k)=max k l by omega,show l+(max k l - l)=max k l by omega,mK,mK];have hp:(0:Int) < 2 ^ (max k l):=Int.pow_pos (by omega);by_cases h:x=y
 ·subst h;simp[compare,compareOfLessAndEq]
 ·have:¬x*2 ^ (max k l)=y*2 ^ (max k l):=fun e=>h (Int.eq_of_mul_eq_mul_right (by omega) e);simp only[h,decide_false];simp only[compare,compareOfLessAndEq,this,if_false];split<;>rfl
theorem Fw {z:Int}(s t:Bool)(h:z≠0):jB s z=jB t z:=by simp[jB,sg,h]
theorem Gd (z:Int):FloatKind.f64.nearest z=jB false z:=by
 show double.nearest (decide (z < 0)) z.natAbs 0=double.nearest (sg false z) z.natAbs 0;congr 1;unfold sg;split
 ·subst_vars;rfl
 ·rfl
theorem aGv {x y:Int}(h1:x.natAbs < 2 ^ 40)(h2:y.natAbs < 2 ^ 40):floatBits .add .f64 (jB false x) (jB false y)=some (jB false (x+y)):=by
 obtain⟨r,e,hr⟩:=aCu (lM false x (by omega)) (lM false y (by omega));show((double.read _).sum (double.read _)).map double.write=_;rw[e,Option.map_some,zP hr (by omega)];by_cases h:x+y=0
 ·have:(sg false x && sg false y)=false:=by
   unfold sg;split<;>split<;>simp<;>omega
  rw[this]
 ·rw[Fw _ false h]
theorem aGt {x y:Int}(h1:x.natAbs < 2 ^ 40)(h2:y.natAbs < 2 ^ 40):floatBits .sub .f64 (jB false x) (jB false y)=some (jB false (x - y)):=by
 obtain⟨r,e,hr⟩:=aCu (lM false x (by omega)) (aKs (lM false y (by omega)));show((double.read _).sum (double.read _).opposite).map double.write=_;rw[e,Option.map_some,zP hr (by omega)];by_cases h:x - y=0
 ·have:(sg false x && sg (!false) (-y))=false:=by
   unfold sg;split<;>split<;>simp<;>omega
  rw[this];rfl
 ·rw[Fw _ false (by omega)];rfl
theorem nK {x y a b:Int}(h3:x < a)(h4:y < b)(h1:0≤x)(h2:0≤y):x*y < a*b:=by
 have e1:x*y≤x*b:=Int.mul_le_mul_of_nonneg_left (Int.le_of_lt h4) h1;have e2:x*b < a*b:=Int.mul_lt_mul_of_pos_right h3 (by omega);omega
theorem aAa {x y:Int}(h1:0≤x)(h2:0≤y)(h3:x < 2 ^ 20)(h4:y < 2 ^ 20):floatBits .mul .f64 (jB false x) (jB false y)=some (jB false (x*y)):=by
 obtain⟨r,e,hr⟩:=aKu (lM false x (by omega)) (lM false y (by omega));show((double.read _).product (double.read _)).map double.write=_;have hb:(x*y).natAbs < 2 ^ 53:=by
  have:=nK h3 h4 h1 h2;have h5:=Int.mul_nonneg h1 h2;omega
 rw[e,Option.map_some,zP hr hb];have:(sg false x ^^ sg false y)=false:=by
  have e1:¬x < 0:=by omega
  have e2:¬y < 0:=by omega
  simp[sg,e1,e2]
 rw[this]
theorem aMp (s:Bool){z:Int}(h:z.natAbs < 2 ^ 40):floatToIntVal .f64 (jB s z) .i64=some z:=by
 unfold floatToIntVal;have:(FloatKind.f64.decode (jB s z)).toInt .zero=some z:=aLn (lM s z (by omega));simp only[this];rw[if_pos];have e1:IntKind.i64.min = -9223372036854775808:=by decide
 have e2:IntKind.i64.max=9223372036854775807:=by decide
 rw[e1,e2];omega
theorem feq (s t:Bool){x y:Int}(h1:x.natAbs < 2 ^ 40)(h2:y.natAbs < 2 ^ 40):Op.floatEq .f64 (jB s x) (jB t y)=decide (x=y):=
 aKr (lM s x (by omega)) (lM t y (by omega))
theorem aUu {a b c d:Int}(h1:a.natAbs < 2 ^ 40)(h2:b.natAbs < 2 ^ 40)(h3:c.natAbs < 2 ^ 40)(h4:d.natAbs < 2 ^ 40):cSumBits .add .f64 (jB false a) (jB false b) (jB false c) (jB false d)=some (jB false (a+c),jB false (b+d)):=by
 simp only[cSumBits,aGv h1 h3,aGv h2 h4,Option.bind_some]
theorem aTm {a b c d:Int}(h1:a.natAbs < 2 ^ 40)(h2:b.natAbs < 2 ^ 40)(h3:c.natAbs < 2 ^ 40)(h4:d.natAbs < 2 ^ 40):cSumBits .sub .f64 (jB false a) (jB false b) (jB false c) (jB false d)=some (jB false (a - c),jB false (b - d)):=by
 simp only[cSumBits,aGt h1 h3,aGt h2 h4,Option.bind_some]
theorem sR {x y:Int}(h1:0≤x)(h2:0≤y)(h3:x < 2 ^ 19)(h4:y < 2 ^ 19):(x*y).natAbs < 2 ^ 40:=by
 have:=nK h3 h4 h1 h2;have h5:=Int.mul_nonneg h1 h2;omega
theorem aTn {a b c d:Int}(h1:0≤a∧a < 2 ^ 19)(h2:0≤b∧b < 2 ^ 19)(h3:0≤c∧c < 2 ^ 19)(h4:0≤d∧d < 2 ^ 19):cMulBits (jB false a) (jB false b) (jB false c) (jB false d)=some (jB false (a*c - b*d),jB false (a*d+b*c)):=by
 have b1:=sR h1.1 h3.1 h1.2 h3.2;have b2:=sR h2.1 h4.1 h2.2 h4.2;have b3:=sR h1.1 h4.1 h1.2 h4.2;have b4:=sR h2.1 h3.1 h2.2 h3.2;simp only[cMulBits];rw[aAa h1.1 h3.1 (by omega) (by omega),aAa h2.1 h4.1 (by omega) (by omega),aAa h1.1 h4.1 (by omega) (by omega),aAa h2.1 h3.1 (by omega) (by omega)];simp only[Option.bind_some,aGt b1 b2,aGv b3 b4]
theorem aIa {R:Nat}(h:R < 2 ^ 63):R ^^^ 2 ^ 63=2 ^ 63+R:=by
 have h1:=Nat.two_pow_add_eq_or_of_lt h 1;rw[Nat.mul_one]at h1;rw[h1];refine Nat.eq_of_testBit_eq fun i=>?_;rw[Nat.testBit_xor,Nat.testBit_or,Nat.testBit_two_pow];by_cases hi:63=i
 ·subst hi;simp[Nat.testBit_lt_two_pow h]
 ·simp[hi]
theorem aTh {z:Int}(h:z.natAbs < 2 ^ 40):Op.negFloat .f64 (jB false z)=jB true (-z):=by
 by_cases hz:z=0
 ·subst hz;rfl
 ·have hn:z.natAbs≠0:=by omega
  have e1:=pX (sg false z) z.natAbs 0 hn (by omega);have e2:=pX (sg true (-z)) (-z).natAbs 0 (by omega) (by omega);have hl:z.natAbs.log2 < 53:=(Nat.log2_lt hn).2 (by omega);rw[Int.natAbs_neg]at e2;simp only[Nat.pow_zero,Nat.mul_one]at e1 e2;unfold jB;rw[Int.natAbs_neg,show(0:Int) = -((0:Nat):Int) by rfl,e1,e2];have h4:z.natAbs*2 ^ (52 - z.natAbs.log2) < 2 ^ 53:=by
   have:z.natAbs < 2 ^ (z.natAbs.log2+1):=Nat.lt_log2_self;calc z.natAbs*2 ^ (52 - z.natAbs.log2) < 2 ^ (z.natAbs.log2+1)*2 ^ (52 - z.natAbs.log2):=Nat.mul_lt_mul_of_pos_right this (Nat.two_pow_pos _)
    _=2 ^ 53:=by rw[←Nat.pow_add];congr 1;omega
  have hr:=Dj (A:=z.natAbs.log2+1022) (by omega) h4;have hs:sg true (-z) = !sg false z:=by
   unfold sg;rw[if_neg hz,if_neg (by omega)];by_cases h:z < 0
   ·simp[h];omega
   ·simp[h];omega
  rw[hs];generalize (z.natAbs.log2+1022)*2 ^ 52+z.natAbs*2 ^ (52 - z.natAbs.log2)=R at *;have hR:R < 2 ^ 63:=by omega
  have hc:FloatKind.f64.format.exponentBits+FloatKind.f64.format.fractionBits=63:=rfl;have hw:double.signWeight=2 ^ 63:=rfl;have hx:=aIa hR;unfold Op.negFloat Format.word;rw[hc,hw];cases sg false z
  ·simpa using hx
  ·simp only[if_true,Bool.not_true,Bool.false_eq_true,if_false];rw[←hx,Nat.xor_assoc,Nat.xor_self,Nat.xor_zero]
end
section
open Go Go.RowKit
structure Val where (re im:Int)
 deriving DecidableEq
structure Rf where (at_ gen:Int)
 deriving DecidableEq
structure Outc where (trap:Int) (v:Val)
 deriving DecidableEq
structure Slt where (state:Int) (kid:Rf) (out:Outc)
 deriving DecidableEq
structure Ins where (op a b:Int)
 deriving DecidableEq
structure Fun where (ar lo sl:Int) (code:List Ins)
 deriving DecidableEq
structure Frm where (fn pc:Int) (stack locals:List Val) (slots:List Slt) (seed spawned draws state wait:Int) (out:Outc) (up:Rf) (upSlot:Int)
 deriving DecidableEq
structure Rg where (buf:List Rf) (head many most:Int)
 deriving DecidableEq
structure Cel where (gen:Int) (used:Bool) (f:Frm)
 deriving DecidableEq
structure Pn where (cells:List Cel) (free:List Int) (most:Int)
 deriving DecidableEq
structure Lim where (fuel frames ring:Int)
 deriving DecidableEq
structure Wd where (prog:List Fun) (lim:Lim) (pen:Pn) (rings:List Rg) (cur:List Rf) (root:Rf) (used state:Int) (out:Outc) (err steals misses:Int)
 deriving DecidableEq
structure Pk where (worker victim:Int) (half:Bool)
 deriving DecidableEq
structure Act where (kind fn slot seed:Int) (args:List Val)
 deriving DecidableEq
abbrev i64 (n:Int):V:=.int .i64 n
def eI (n:Int):V:=.int .i64 n
def eVal (v:Val):V:=.agg [i64 v.re,i64 v.im]
def aS (r:Rf):V:=.agg [i64 r.at_,i64 r.gen]
def cQ (o:Outc):V:=.agg [i64 o.trap,i64 o.v.re,i64 o.v.im]
def cF (s:Slt):V:=.agg [i64 s.state,i64 s.kid.at_,i64 s.kid.gen,i64 s.out.trap,i64 s.out.v.re,i64 s.out.v.im]
def aK (x:Ins):V:=.agg [i64 x.op,i64 x.a,i64 x.b]
def bL (f:Fun):V:=.agg [i64 f.ar,i64 f.lo,i64 f.sl,.imm (f.code.map aK)]
def aN (f:Frm):List V:=[i64 f.fn,i64 f.pc,.imm (f.stack.map eVal),.imm (f.locals.map eVal),.imm (f.slots.map cF),i64 f.seed,i64 f.spawned,i64 f.draws,i64 f.state,i64 f.wait,i64 f.out.trap,i64 f.out.v.re,i64 f.out.v.im,i64 f.up.at_,i64 f.up.gen,i64 f.upSlot]
def aJ (f:Frm):V:=.agg (aN f)
def bG (r:Rg):V:=.agg [.imm (r.buf.map aS),i64 r.head,i64 r.many,i64 r.most]
def dX (c:Cel):V:=.agg (i64 c.gen :: .bool c.used::aN c.f)
def bJ (p:Pn):V:=.agg [.imm (p.cells.map dX),.imm (p.free.map eI),i64 p.most]
def kY (x:Wd):List V:=[.imm (x.prog.map bL),i64 x.lim.fuel,i64 x.lim.frames,i64 x.lim.ring,.imm (x.pen.cells.map dX),.imm (x.pen.free.map eI),i64 x.pen.most,.imm (x.rings.map bG),.imm (x.cur.map aS),i64 x.root.at_,i64 x.root.gen,i64 x.used,i64 x.state,i64 x.out.trap,i64 x.out.v.re,i64 x.out.v.im,i64 x.err,i64 x.steals,i64 x.misses]
def hU (x:Wd):V:=.agg (kY x)
def Yv (p:Pk):V:=.agg [i64 p.worker,i64 p.victim,.bool p.half]
theorem eH {α:Type}(e:α→V)(s:Nat)(h:∀ a,(e a).cells.length=s)(l:List α):aQ s (l.map e)=true:=by
 rw[aQ,List.all_eq_true];intro v hv;obtain⟨a,_,rfl⟩:=List.mem_map.1 hv;simp[h a]
theorem Za {α:Type}(e:α→V)(H:aA)(n:Nat)(h:∀ a,fz H n (e a)=some (e a))(l:List α):(l.map e).mapM (fz H n)=some (l.map e):=by
 induction l with
 | nil=>rfl
 | cons a l ih=>simp[List.mapM_cons,h a,ih]
theorem Pz {α:Type}(e:α→V)(H:aA)(n:Nat)(h:∀ a,aU H n (e a)=[])(l:List α):(l.map e).flatMap (aU H n)=[]:=by
 induction l with
 | nil=>rfl
 | cons a l ih=>simp[List.flatMap_cons,h a,ih]
theorem WB:((true == true)=true)∧((false == true)=false)∧((true == false)=false)∧((false == false)=true)∧(decide True=true)∧(decide False=false)∧((!true)=false)∧((!false)=true)∧(∀ b:Bool,(b == true)=b)∧(∀ b:Bool,(b == false) = !b):=by
 refine⟨rfl,rfl,rfl,rfl,by simp,by simp,rfl,rfl,?_,?_⟩<;>intro b<;>cases b<;>rfl
def fT (l:List Oper) (i:Nat):Oper:=l.getD i ⟨none,.move (.const .nilFunc),0, "",#[],none⟩
def pk (l:List Oper):List Nat→List Oper
 | []=>[]
 | i::p=>fT l i::pk l p
theorem aCx (l:List Oper):∀ p:List Nat,(∀ i∈p,i < l.length)→uQ l.toArray p=pk l p
 | [],_=>rfl
 | i::p,h=>by
  have hi:=h i (by simp);have:=aCx l p (fun j hj=>h j (by simp[hj]));simp only[uQ]at this;simp only[uQ,List.filterMap_cons,pk,←this,List.getElem?_toArray,List.getElem?_eq_getElem hi,fT,List.getD,Option.getD_some]
def sS (n:Nat)(p:List Nat):Bool:=p.all fun i=>decide (i < n)
theorem FW.drawnK {E:Env}{Q:Ex→List V→aA→Prop}{T:List V}{H:aA}(hE:EnvOk E){id:Nat}{l:List Oper}(p:List Nat)(hp:sS l.length p=true)(hc:(p.length == l.length && Pf E.sp E.pcm E.cln E.tab l.toArray p (Array.replicate l.length false))=true)
 (h:lI E (FW E) l.toArray (tE Q) (pk l p) T H):FW E (.region id l.toArray true) Q T H:=by
 refine FW.drawn hE p hc ?_;rw[aCx l p (by simpa[sS]using hp)];exact h
def pkP (l:List Oper)(pl:List Nat):List Nat→List (Bool×Oper)
 | []=>[]
 | i::p=>(pl.contains i,fT l i)::pkP l pl p
theorem Eh (l:List Oper)(pl:List Nat):∀ p:List Nat,(∀ i∈p,i < l.length)→sM l.toArray pl p=pkP l pl p
 | [],_=>rfl
 | i::p,h=>by
  have hi:=h i (by simp);have:=Eh l pl p (fun j hj=>h j (by simp[hj]));simp only[sM]at this;simp only[sM,List.filterMap_cons,pkP,←this,List.getElem?_toArray,List.getElem?_eq_getElem hi,fT,List.getD,Option.getD_some,Option.map_some]
theorem WP:(∀ E rec ops pin Q T H,jP E rec ops pin Q [] T H=Q .normal T H)∧(∀ E rec ops pin Q b o rest T H,jP E rec ops pin Q ((b,o)::rest) T H=(fL pin b o T=true∧Hn E rec o T H (jP E rec ops pin Q rest) Q (bK ops T o)))∧
 (∀ l pl,pkP l pl []=[])∧(∀ l pl i p,pkP l pl (i::p)=(pl.contains i,fT l i)::pkP l pl p)∧
 (∀ pin b d t p ty po af gu T,fL pin b ⟨d,.load t p,ty,po,af,gu⟩ T=(!b || Hm pin (ev T p)))∧(∀ pin b d t p x ty po af gu T,fL pin b ⟨d,.store t p x,ty,po,af,gu⟩ T=Mt pin (ev T p))∧
 (∀ pin b i j,Hm pin (.ptr b i j)=pin.contains b)∧(∀ pin e j,Hm pin (.ip e j)=true)∧(∀ pin b i j,Mt pin (.ptr b i j) = !pin.contains b):=by
 refine⟨?_,?_,?_,?_,?_,?_,?_,?_,?_⟩<;>intros<;>rfl
theorem FW.last {E:Env}{c:Code}{Q:Ex→List V→aA→Prop}{T:List V}{H:aA}(h:∀ K:List V→aA→Prop,(∀ T H,Q .normal T H→K T H)→FW E c (fM K Q) T H):FW E c Q T H:=by
 refine FW.mono (h (fun T H=>Q .normal T H) fun _ _ h=>h) ?_;intro e T H h;cases e<;>exact h
theorem aB {E:Env}{Q:Ex→List V→aA→Prop}{T:List V}{H:aA}{x:Operand}{p q:Code}(ht:ev T x = .bool true)(h:FW E p Q T H):FW E (.cond x p q) Q T H:=FW.cond ht (by simpa using h)
theorem aD {E:Env}{Q:Ex→List V→aA→Prop}{T:List V}{H:aA}{x:Operand}{p q:Code}(ht:ev T x = .bool false)(h:FW E q Q T H):FW E (.cond x p q) Q T H:=FW.cond ht (by simpa using h)
theorem WX:(∀ K Q T H,fM K Q .normal T H=K T H)∧(∀ K Q T H,fM K Q .ret T H=Q .ret T H)∧(∀ K Q T H i,fM K Q (.exit i) T H=Q (.exit i) T H)∧(∀ K Q T H i,fM K Q (.goto i) T H=Q (.goto i) T H)∧
 (∀ i Q T H,nB i Q .normal T H=Q .normal T H)∧(∀ i Q T H,nB i Q .ret T H=Q .ret T H)∧(∀ i Q T H j,nB i Q (.exit j) T H=if j=i then Q .normal T H else Q (.exit j) T H)∧(∀ i Q T H j,nB i Q (.goto j) T H=Q (.goto j) T H)∧(∀ Q T H,tE Q .normal T H=Q .normal T H)∧
 (∀ l,pk l []=[])∧(∀ l i p,pk l (i::p)=fT l i::pk l p)∧(∀ o l,fT (o::l) 0=o)∧(∀ o l i,fT (o::l) (i+1)=fT l i):=by
 refine⟨?_,?_,?_,?_,?_,?_,?_,?_,?_,?_,?_,?_,?_⟩<;>intros<;>rfl
theorem eW (n:Nat)(T:List V)(h:T.length=n):T=(List.range n).map (gt T):=by
 apply List.ext_getElem?;intro i;by_cases hi:i < n
 ·rw[List.getElem?_map,List.getElem?_range hi,Option.map_some,gt,List.getD,List.getElem?_eq_getElem (by omega)];rfl
 ·rw[List.getElem?_eq_none (by omega),List.getElem?_eq_none (by simp;omega)]
theorem qJ {α:Type}(e:α→V)(l:List α)(i:Nat):xP (l.map e) i=(l[i]?).map e:=by simp[xP]
theorem zY {α:Type}(e:α→V)(l:List α)(i:Nat)(a:α):(l.map e).set i (e a)=(l.set i a).map e:=by rw[List.map_set]
theorem aIl (e v:V)(h:v.cells.length=e.cells.length):Ls e 0 v=v:=by simp[Ls,h]
theorem kJ {α:Type}(e:α→V)(H:aA)(n s i k:Nat)(l:List α)(ro:Bool)(he:∀ a,fz H n (e a)=some (e a))(hs:∀ a,(e a).cells.length=s)(hle:i+k≤l.length):mH H n i k (some (.row s (l.map e) ro))=some (.imm (((l.drop i).take k).map e)):=by
 simp only[mH,List.length_map,hle,if_true,←List.map_drop,←List.map_take,Za e H n he,slO,eH e s hs]
theorem iO {α:Type}(e:α→V)(H:aA)(n:Nat)(l:List α)(i k:Nat)(he:∀ a,aU H n (e a)=[]):(((l.map e).drop i).take k).flatMap (aU H n)=[]:=by
 rw[←List.map_drop,←List.map_take];exact Pz e H n he _
theorem Ef (a:Int):(eI a).cells.length=1:=rfl
theorem aEg (H:aA)(n:Nat)(a:Int):fz H (n+2) (eI a)=some (eI a):=rfl
theorem Aw (H:aA)(n:Nat)(a:Int):aU H (n+2) (eI a)=[]:=rfl
theorem aEf (H:aA)(n i k:Nat)(l:List Int)(ro:Bool)(h:i+k≤l.length):mH H (n+2) i k (some (.row 1 (l.map eI) ro))=some (.imm (((l.drop i).take k).map eI)):=kJ eI H (n+2) 1 i k l ro (aEg H n) Ef h
theorem aHd (H:aA)(n k:Nat)(l:List Int)(ro:Bool)(h:l.length=k):mH H (n+2) 0 k (some (.row 1 (l.map eI) ro))=some (.imm (l.map eI)):=by
 subst h;rw[aEf H n 0 l.length l ro (by omega),List.drop_zero,List.take_length]
theorem Vk (l:List Int):aQ 1 (l.map eI)=true:=eH eI 1 Ef l
theorem oZ (a:Val):(eVal a).cells.length=2:=rfl
theorem Ok (H:aA)(n:Nat)(a:Val):fz H (n+2) (eVal a)=some (eVal a):=rfl
theorem Bf (H:aA)(n:Nat)(a:Val):aU H (n+2) (eVal a)=[]:=rfl
theorem Nk (H:aA)(n i k:Nat)(l:List Val)(ro:Bool)(h:i+k≤l.length):mH H (n+2) i k (some (.row 2 (l.map eVal) ro))=some (.imm (((l.drop i).take k).map eVal)):=kJ eVal H (n+2) 2 i k l ro (Ok H n) oZ h
theorem Sv (H:aA)(n k:Nat)(l:List Val)(ro:Bool)(h:l.length=k):mH H (n+2) 0 k (some (.row 2 (l.map eVal) ro))=some (.imm (l.map eVal)):=by
 subst h;rw[Nk H n 0 l.length l ro (by omega),List.drop_zero,List.take_length]
theorem kM (l:List Val):aQ 2 (l.map eVal)=true:=eH eVal 2 oZ l
theorem rS (a:Rf):(aS a).cells.length=2:=rfl
theorem Xv (H:aA)(n:Nat)(a:Rf):fz H (n+2) (aS a)=some (aS a):=rfl
theorem Tk (H:aA)(n:Nat)(a:Rf):aU H (n+2) (aS a)=[]:=rfl
theorem aHc (H:aA)(n i k:Nat)(l:List Rf)(ro:Bool)(h:i+k≤l.length):mH H (n+2) i k (some (.row 2 (l.map aS) ro))=some (.imm (((l.drop i).take k).map aS)):=kJ aS H (n+2) 2 i k l ro (Xv H n) rS h
theorem Hb (H:aA)(n k:Nat)(l:List Rf)(ro:Bool)(h:l.length=k):mH H (n+2) 0 k (some (.row 2 (l.map aS) ro))=some (.imm (l.map aS)):=by
 subst h;rw[aHc H n 0 l.length l ro (by omega),List.drop_zero,List.take_length]
theorem Ib (l:List Rf):aQ 2 (l.map aS)=true:=eH aS 2 rS l
theorem pA (a:Slt):(cF a).cells.length=6:=rfl
theorem Qk (H:aA)(n:Nat)(a:Slt):fz H (n+2) (cF a)=some (cF a):=rfl
theorem Cf (H:aA)(n:Nat)(a:Slt):aU H (n+2) (cF a)=[]:=rfl
theorem aAk (H:aA)(n i k:Nat)(l:List Slt)(ro:Bool)(h:i+k≤l.length):mH H (n+2) i k (some (.row 6 (l.map cF) ro))=some (.imm (((l.drop i).take k).map cF)):=kJ cF H (n+2) 6 i k l ro (Qk H n) pA h
theorem Uv (H:aA)(n k:Nat)(l:List Slt)(ro:Bool)(h:l.length=k):mH H (n+2) 0 k (some (.row 6 (l.map cF) ro))=some (.imm (l.map cF)):=by
 subst h;rw[aAk H n 0 l.length l ro (by omega),List.drop_zero,List.take_length]
theorem tQ (l:List Slt):aQ 6 (l.map cF)=true:=eH cF 6 pA l
theorem pB (a:Ins):(aK a).cells.length=3:=rfl
theorem Jb (H:aA)(n:Nat)(a:Ins):fz H (n+2) (aK a)=some (aK a):=rfl
theorem Df (H:aA)(n:Nat)(a:Ins):aU H (n+2) (aK a)=[]:=rfl
theorem aAl (H:aA)(n i k:Nat)(l:List Ins)(ro:Bool)(h:i+k≤l.length):mH H (n+2) i k (some (.row 3 (l.map aK) ro))=some (.imm (((l.drop i).take k).map aK)):=kJ aK H (n+2) 3 i k l ro (Jb H n) pB h
theorem Zv (H:aA)(n k:Nat)(l:List Ins)(ro:Bool)(h:l.length=k):mH H (n+2) 0 k (some (.row 3 (l.map aK) ro))=some (.imm (l.map aK)):=by
 subst h;rw[aAl H n 0 l.length l ro (by omega),List.drop_zero,List.take_length]
theorem Uk (l:List Ins):aQ 3 (l.map aK)=true:=eH aK 3 pB l
theorem rR (a:Rg):(bG a).cells.length=4:=rfl
theorem Vv (H:aA)(n:Nat)(a:Rg):fz H (n+2) (bG a)=some (bG a):=rfl
theorem Rk (H:aA)(n:Nat)(a:Rg):aU H (n+2) (bG a)=[]:=rfl
theorem aHb (H:aA)(n i k:Nat)(l:List Rg)(ro:Bool)(h:i+k≤l.length):mH H (n+2) i k (some (.row 4 (l.map bG) ro))=some (.imm (((l.drop i).take k).map bG)):=kJ bG H (n+2) 4 i k l ro (Vv H n) rR h
theorem Sk (H:aA)(n k:Nat)(l:List Rg)(ro:Bool)(h:l.length=k):mH H (n+2) 0 k (some (.row 4 (l.map bG) ro))=some (.imm (l.map bG)):=by
 subst h;rw[aHb H n 0 l.length l ro (by omega),List.drop_zero,List.take_length]
theorem Wv (l:List Rg):aQ 4 (l.map bG)=true:=eH bG 4 rR l
theorem wL (a:Fun):(bL a).cells.length=4:=rfl
theorem Wk (H:aA)(n:Nat)(a:Fun):fz H (n+2) (bL a)=some (bL a):=rfl
theorem Ff (H:aA)(n:Nat)(a:Fun):aU H (n+2) (bL a)=[]:=rfl
theorem aAm (H:aA)(n i k:Nat)(l:List Fun)(ro:Bool)(h:i+k≤l.length):mH H (n+2) i k (some (.row 4 (l.map bL) ro))=some (.imm (((l.drop i).take k).map bL)):=kJ bL H (n+2) 4 i k l ro (Wk H n) wL h
theorem Cw (H:aA)(n k:Nat)(l:List Fun)(ro:Bool)(h:l.length=k):mH H (n+2) 0 k (some (.row 4 (l.map bL) ro))=some (.imm (l.map bL)):=by
 subst h;rw[aAm H n 0 l.length l ro (by omega),List.drop_zero,List.take_length]
theorem aAn (l:List Fun):aQ 4 (l.map bL)=true:=eH bL 4 wL l
theorem wM (a:Cel):(dX a).cells.length=18:=rfl
theorem Xk (H:aA)(n:Nat)(a:Cel):fz H (n+2) (dX a)=some (dX a):=rfl
theorem Gf (H:aA)(n:Nat)(a:Cel):aU H (n+2) (dX a)=[]:=rfl
theorem aAo (H:aA)(n i k:Nat)(l:List Cel)(ro:Bool)(h:i+k≤l.length):mH H (n+2) i k (some (.row 18 (l.map dX) ro))=some (.imm (((l.drop i).take k).map dX)):=kJ dX H (n+2) 18 i k l ro (Xk H n) wM h
theorem Dw (H:aA)(n k:Nat)(l:List Cel)(ro:Bool)(h:l.length=k):mH H (n+2) 0 k (some (.row 18 (l.map dX) ro))=some (.imm (l.map dX)):=by
 subst h;rw[aAo H n 0 l.length l ro (by omega),List.drop_zero,List.take_length]
theorem Yk (l:List Cel):aQ 18 (l.map dX)=true:=eH dX 18 wM l
theorem WE:(∀(H:aA)(n k:Nat)(l:List Int)(ro:Bool),l.length=k→mH H (n+2) 0 k (some (.row 1 (l.map eI) ro))=some (.imm (l.map eI)))∧
 (∀ l:List Int,aQ 1 (l.map eI)=true)∧
 (∀(H:aA)(n:Nat)(a:Int),fz H (n+2) (eI a)=some (eI a))∧
 (∀(H:aA)(n:Nat)(a:Int),aU H (n+2) (eI a)=[])∧
 (∀(H:aA)(n k:Nat)(l:List Val)(ro:Bool),l.length=k→mH H (n+2) 0 k (some (.row 2 (l.map eVal) ro))=some (.imm (l.map eVal)))∧
 (∀ l:List Val,aQ 2 (l.map eVal)=true)∧
 (∀(H:aA)(n:Nat)(a:Val),fz H (n+2) (eVal a)=some (eVal a))∧
 (∀(H:aA)(n:Nat)(a:Val),aU H (n+2) (eVal a)=[])∧
 (∀(H:aA)(n k:Nat)(l:List Rf)(ro:Bool),l.length=k→mH H (n+2) 0 k (some (.row 2 (l.map aS) ro))=some (.imm (l.map aS)))∧
 (∀ l:List Rf,aQ 2 (l.map aS)=true)∧
 (∀(H:aA)(n:Nat)(a:Rf),fz H (n+2) (aS a)=some (aS a))∧
 (∀(H:aA)(n:Nat)(a:Rf),aU H (n+2) (aS a)=[])∧
 (∀(H:aA)(n k:Nat)(l:List Slt)(ro:Bool),l.length=k→mH H (n+2) 0 k (some (.row 6 (l.map cF) ro))=some (.imm (l.map cF)))∧
 (∀ l:List Slt,aQ 6 (l.map cF)=true)∧
 (∀(H:aA)(n:Nat)(a:Slt),fz H (n+2) (cF a)=some (cF a))∧
 (∀(H:aA)(n:Nat)(a:Slt),aU H (n+2) (cF a)=[])∧
 (∀(H:aA)(n k:Nat)(l:List Ins)(ro:Bool),l.length=k→mH H (n+2) 0 k (some (.row 3 (l.map aK) ro))=some (.imm (l.map aK)))∧
 (∀ l:List Ins,aQ 3 (l.map aK)=true)∧
 (∀(H:aA)(n:Nat)(a:Ins),fz H (n+2) (aK a)=some (aK a))∧
 (∀(H:aA)(n:Nat)(a:Ins),aU H (n+2) (aK a)=[])∧
 (∀(H:aA)(n k:Nat)(l:List Rg)(ro:Bool),l.length=k→mH H (n+2) 0 k (some (.row 4 (l.map bG) ro))=some (.imm (l.map bG)))∧
 (∀ l:List Rg,aQ 4 (l.map bG)=true)∧
 (∀(H:aA)(n:Nat)(a:Rg),fz H (n+2) (bG a)=some (bG a))∧
 (∀(H:aA)(n:Nat)(a:Rg),aU H (n+2) (bG a)=[])∧
 (∀(H:aA)(n k:Nat)(l:List Fun)(ro:Bool),l.length=k→mH H (n+2) 0 k (some (.row 4 (l.map bL) ro))=some (.imm (l.map bL)))∧
 (∀ l:List Fun,aQ 4 (l.map bL)=true)∧
 (∀(H:aA)(n:Nat)(a:Fun),fz H (n+2) (bL a)=some (bL a))∧
 (∀(H:aA)(n:Nat)(a:Fun),aU H (n+2) (bL a)=[])∧
 (∀(H:aA)(n k:Nat)(l:List Cel)(ro:Bool),l.length=k→mH H (n+2) 0 k (some (.row 18 (l.map dX) ro))=some (.imm (l.map dX)))∧
 (∀ l:List Cel,aQ 18 (l.map dX)=true)∧
 (∀(H:aA)(n:Nat)(a:Cel),fz H (n+2) (dX a)=some (dX a))∧
 (∀(H:aA)(n:Nat)(a:Cel),aU H (n+2) (dX a)=[]):=
 ⟨aHd,Vk,aEg,Aw,Sv,kM,Ok,Bf,Hb,Ib,Xv,Tk,Uv,tQ,Qk,Cf,Zv,Uk,Jb,Df,Sk,Wv,Vv,Rk,Cw,aAn,Wk,Ff,Dw,Yk,Xk,Gf⟩
theorem WC:(∀ a:Int,(eI a).cells=[.int .i64 a])∧(∀ a:Val,(eVal a).cells=[.int .i64 a.re,.int .i64 a.im])∧(∀ a:Rf,(aS a).cells=[.int .i64 a.at_,.int .i64 a.gen])∧(∀ a:Outc,(cQ a).cells=[.int .i64 a.trap,.int .i64 a.v.re,.int .i64 a.v.im])∧(∀ a:Slt,(cF a).cells=[.int .i64 a.state,.int .i64 a.kid.at_,.int .i64 a.kid.gen,.int .i64 a.out.trap,.int .i64 a.out.v.re,.int .i64 a.out.v.im])∧(∀ a:Ins,(aK a).cells=[.int .i64 a.op,.int .i64 a.a,.int .i64 a.b])∧(∀ a:Fun,(bL a).cells=[.int .i64 a.ar,.int .i64 a.lo,.int .i64 a.sl,.imm (a.code.map aK)])∧(∀ a:Frm,(aJ a).cells=aN a)∧(∀ a:Rg,(bG a).cells=[.imm (a.buf.map aS),.int .i64 a.head,.int .i64 a.many,.int .i64 a.most])∧(∀ a:Cel,(dX a).cells = .int .i64 a.gen :: .bool a.used::aN a.f)∧(∀ e j v,Ls e j v=if j=0∧v.cells.length=e.cells.length then v else .agg (sC e.cells j v.cells)):=
 ⟨fun _=>rfl,fun _=>rfl,fun _=>rfl,fun _=>rfl,fun _=>rfl,fun _=>rfl,fun _=>rfl,fun _=>rfl,fun _=>rfl,fun _=>rfl,fun _ _ _=>rfl⟩
theorem WS:(∀ l j,sC l j []=l)∧(∀ c l v vs,sC (c::l) 0 (v::vs)=v::sC l 0 vs)∧(∀ c l j v vs,sC (c::l) (j+1) (v::vs)=c::sC l j (v::vs)):=
 ⟨fun l j=>by cases l<;>cases j<;>rfl,fun _ _ _ _=>rfl,fun _ _ _ _ _=>rfl⟩
theorem rL (H l:aA)(c:Nat):hb (H++l) (H.length+c)=hb l c:=by
 unfold hb;rw[List.getElem?_append_right (Nat.le_add_right _ _),Nat.add_sub_cancel_left]
theorem dS (H l:aA):hb (H++l) H.length=hb l 0:=rL H l 0
theorem bA {H:aA}(l:aA){b:Nat}(h:b < H.length):hb (H++l) b=hb H b:=by simp[hb,List.getElem?_append_left h]
theorem Dy (H l:aA)(c:Nat)(x:Blk):(H++l).set (H.length+c) x=H++l.set c x:=by simp[List.set_append]
theorem Qs (H l:aA)(x:Blk):(H++l).set H.length x=H++l.set 0 x:=by simp[List.set_append]
theorem aEx {H:aA}(l:aA){b:Nat}(h:b < H.length)(x:Blk):(H++l).set b x=H.set b x++l:=by simp[List.set_append,h]
theorem aW {H:aA}{b:Nat}(h:b < H.length)(x:Blk):hb (H.set b x) b=some x:=by simp[hb,h]
theorem aG {H:aA}{b c:Nat}(h:b≠c)(x:Blk):hb (H.set b x) c=hb H c:=by simp[hb,List.getElem?_set_ne h]
theorem aE {H:aA}{b:Nat}{x:Blk}(h:hb H b=some x):b < H.length:=(List.getElem?_eq_some_iff.1 h).1
theorem Bv (H:aA)(n b i k:Nat):aU H (n+1) (.sl b i k)=match hb H b with|some (.row _ es _)=>b::((es.drop i).take k).flatMap (aU H n)|_=>[]:=by
 simp only[aU,hb];cases H[b]? with
 | none=>rfl
 | some x=>cases x<;>rfl
def Cj (H:aA)(b:Nat):Option Blk→aA
 | some (.row s es _)=>H.set b (.row s es true)
 | _=>H
theorem Ss (H:aA)(b:Nat):seal1 H b=Cj H b (hb H b):=by
 unfold seal1 Cj hb;cases H[b]? with
 | none=>rfl
 | some x=>cases x<;>rfl
def yS (H:aA)(n b i k:Nat):Option Blk→List Nat
 | some (.row _ es _)=>b::((es.drop i).take k).flatMap (aU H n)
 | _=>[]
theorem Gn (H:aA)(n b i k:Nat):aU H (n+1) (.sl b i k)=yS H n b i k (hb H b):=by
 rw[Bv];cases hb H b with
 | none=>rfl
 | some x=>cases x<;>rfl
theorem WI:(∀ H b,seal1 H b=Cj H b (hb H b))∧(∀ H b s es ro,Cj H b (some (.row s es ro))=H.set b (.row s es true))∧(∀ H n b i k,aU H (n+1) (.sl b i k)=yS H n b i k (hb H b))∧(∀ H b l,bH H (b::l)=bH (seal1 H b) l)∧
 (∀(H:aA)(n b i k s:Nat)(l:List Int)(ro:Bool),yS H (n+2) b i k (some (.row s (l.map eI) ro))=[b])∧
 (∀(H:aA)(n b i k s:Nat)(l:List Val)(ro:Bool),yS H (n+2) b i k (some (.row s (l.map eVal) ro))=[b])∧
 (∀(H:aA)(n b i k s:Nat)(l:List Rf)(ro:Bool),yS H (n+2) b i k (some (.row s (l.map aS) ro))=[b])∧
 (∀(H:aA)(n b i k s:Nat)(l:List Slt)(ro:Bool),yS H (n+2) b i k (some (.row s (l.map cF) ro))=[b])∧
 (∀(H:aA)(n b i k s:Nat)(l:List Ins)(ro:Bool),yS H (n+2) b i k (some (.row s (l.map aK) ro))=[b])∧
 (∀(H:aA)(n b i k s:Nat)(l:List Rg)(ro:Bool),yS H (n+2) b i k (some (.row s (l.map bG) ro))=[b])∧
 (∀(H:aA)(n b i k s:Nat)(l:List Fun)(ro:Bool),yS H (n+2) b i k (some (.row s (l.map bL) ro))=[b])∧
 (∀(H:aA)(n b i k s:Nat)(l:List Cel)(ro:Bool),yS H (n+2) b i k (some (.row s (l.map dX) ro))=[b]):=
 ⟨Ss,fun _ _ _ _ _=>rfl,Gn,fun _ _ _=>rfl,fun H n b i k s l ro=>by simp only[yS,iO eI H (n+2) l i k (Aw H n)],fun H n b i k s l ro=>by simp only[yS,iO eVal H (n+2) l i k (Bf H n)],fun H n b i k s l ro=>by simp only[yS,iO aS H (n+2) l i k (Tk H n)],fun H n b i k s l ro=>by simp only[yS,iO cF H (n+2) l i k (Cf H n)],fun H n b i k s l ro=>by simp only[yS,iO aK H (n+2) l i k (Df H n)],fun H n b i k s l ro=>by simp only[yS,iO bG H (n+2) l i k (Rk H n)],fun H n b i k s l ro=>by simp only[yS,iO bL H (n+2) l i k (Ff H n)],fun H n b i k s l ro=>by simp only[yS,iO dX H (n+2) l i k (Gf H n)]⟩
def bqO (K:List V→aA→Prop)(T0:List V)(dst:Option Tmp)(H:aA):Option V→Prop
 | some v=>K (put T0 dst v) H
 | none=>False
theorem aM (tab:cR)(rs:List ResultVar)(T0:List V)(dst:Option Tmp)(K:List V→aA→Prop)(Q:Ex→List V→aA→Prop)(T:List V)(H:aA):iW tab rs T0 dst K Q .ret T H=bqO K T0 dst H (uL (rs.mapM (iJ tab T H))):=by
 simp only[iW,Ca,bqO];cases uL (rs.mapM (iJ tab T H))<;>rfl
theorem bF (tab:cR)(rs:List ResultVar)(T0:List V)(dst:Option Tmp)(K:List V→aA→Prop)(Q:Ex→List V→aA→Prop)(T:List V)(H:aA):iW tab rs T0 dst K Q .normal T H=bqO K T0 dst H (uL (rs.mapM (iJ tab T H))):=by
 simp only[iW,Ca,bqO];cases uL (rs.mapM (iJ tab T H))<;>rfl
theorem aI (K:List V→aA→Prop)(T0:List V)(dst:Option Tmp)(H:aA)(v:V):bqO K T0 dst H (some v)=K (put T0 dst v) H:=rfl
theorem bO {H:aA}(l:aA){n:Nat}(c:Nat)(h:H.length=n):hb (H++l) (n+c)=hb l c:=by subst h;exact rL H l c
theorem cM {H:aA}(l:aA){n:Nat}(h:H.length=n):hb (H++l) n=hb l 0:=by subst h;exact dS H l
theorem Rs {H:aA}(l:aA){n:Nat}(c:Nat)(x:Blk)(h:H.length=n):(H++l).set (n+c) x=H++l.set c x:=by subst h;exact Dy H l c x
theorem Vl {H:aA}(l:aA){n:Nat}(x:Blk)(h:H.length=n):(H++l).set n x=H++l.set 0 x:=by subst h;exact Qs H l x
theorem WH:(∀(H l:aA) n c,H.length=n→hb (H++l) (n+c)=hb l c)∧(∀(H l:aA) n,H.length=n→hb (H++l) n=hb l 0)∧(∀(H l:aA) n c x,H.length=n→(H++l).set (n+c) x=H++l.set c x)∧(∀(H l:aA) n x,H.length=n→(H++l).set n x=H++l.set 0 x)∧
 (∀(H l:aA) b,b < H.length→hb (H++l) b=hb H b)∧(∀(H l:aA) b x,b < H.length→(H++l).set b x=H.set b x++l)∧(∀(H l m:aA),H++l++m=H++(l++m))∧(∀(H l:aA),(H++l).length=H.length+l.length)∧(∀(H:aA) b x,(H.set b x).length=H.length):=
 ⟨fun H l n c h=>bO l c h,fun H l n h=>cM l h,fun H l n c x h=>Rs l c x h,fun H l n x h=>Vl l x h,fun H l b h=>bA l h,fun H l b x h=>aEx l h x,List.append_assoc,fun _ _=>List.length_append,fun _ _ _=>List.length_set⟩
def aAu (t:TI)(H:aA)(b i n:Nat)(xs:List V):Option Blk→FO
 | some (.row sz es false)=>if t.known=true∧sz=t.size∧i+n≤es.length∧aQ t.size xs=true then
  .val (.int .i64 (min xs.length n:Nat)) (H.set b (.row sz (es.take i++(xs.take n++es.drop (i+min xs.length n))) false))else .stuck
 | _ => .stuck
theorem aAs (t:TI)(H:aA)(b i n:Nat)(xs:List V):Hw t H (.sl b i n) (some xs)=aAu t H b i n xs (hb H b):=by
 simp only[Hw,aAu];all_goals cases hb H b with
 | none=>rfl
 | some x=>cases x with
  | row s es ro=>cases ro<;>rfl
  | _=>rfl
def Pi (t:TI)(H:aA)(b i n:Nat)(xs:List V):Option Blk→FO
 | some (.row sz es false)=>if t.known=true∧t.bytes≤4096∧aQ t.size xs=true∧sz=t.size∧i+n≤es.length∧n+xs.length≤1073741824 then
  .val (.sl H.length 0 (n+xs.length)) (H.set b .dead++[.row sz ((es.drop i).take n++xs) false])else .stuck
 | _ => .stuck
theorem tS (t:TI)(H:aA)(b i n:Nat)(xs:List V):qS t H (.sl b i n) (some xs)=Pi t H b i n xs (hb H b):=by
 simp only[qS,Pi];cases hb H b with
 | none=>simp
 | some x=>cases x with
  | row s es ro=>
   cases ro<;>simp only
   ·by_cases h1:t.known=true∧t.bytes≤4096∧aQ t.size xs=true
    ·obtain⟨a,b,c⟩:=h1;simp[a,b,c]
    ·rw[if_neg h1,if_neg (fun h=>h1 ⟨h.1,h.2.1,h.2.2.1⟩)]
   ·simp
  | _=>simp
theorem WR:(∀ e n b z q,TI.row ⟨.slice e,n,b,z,q⟩=true)∧(∀ n b z q,TI.row ⟨.str,n,b,z,q⟩=true)∧(∀ tab H t u s x,(tab u).row=true→hC tab H t u s x=aBn tab H (tab t).desc s (bS H x)):=
 ⟨fun _ _ _ _ _=>rfl,fun _ _ _ _=>rfl,Ni⟩
theorem WA:(∀ t H b i n xs,Hw t H (.sl b i n) (some xs)=aAu t H b i n xs (hb H b))∧(∀ t H b i n xs sz es,aAu t H b i n xs (some (.row sz es false))=if t.known=true∧sz=t.size∧i+n≤es.length∧aQ t.size xs=true then
 .val (.int .i64 (min xs.length n:Nat)) (H.set b (.row sz (es.take i++(xs.take n++es.drop (i+min xs.length n))) false))else .stuck)∧
 (∀ t H b i n xs,qS t H (.sl b i n) (some xs)=Pi t H b i n xs (hb H b))∧(∀ t H b i n xs sz es,Pi t H b i n xs (some (.row sz es false))=if t.known=true∧t.bytes≤4096∧aQ t.size xs=true∧sz=t.size∧i+n≤es.length∧n+xs.length≤1073741824 then
  .val (.sl H.length 0 (n+xs.length)) (H.set b .dead++[.row sz ((es.drop i).take n++xs) false])else .stuck):=
 ⟨aAs,fun _ _ _ _ _ _ _ _=>rfl,tS,fun _ _ _ _ _ _ _ _=>rfl⟩
theorem WF:(∀ es H l,eA (.imm es) H l=bH H l)∧(∀ cs H l,eA (.agg cs) H l=if flatL cs=true then H else bH H l)∧(∀ cs H l,eA (.tup cs) H l=if flatL cs=true then H else bH H l)∧(flatL []=true)∧(∀ v l,flatL (v::l)=(flat v && flatL l))∧(∀ b,flat (.bool b)=true)∧(∀ k n,flat (.int k n)=true)∧(∀ s,flat (.str s)=true)∧(∀ es,flat (.imm es)=false)∧
 (∀ cs,flat (.agg cs)=flatL cs)∧(flat .nils=true)∧(flat .nilp=true)∧(flat .nili=true)∧(flat .nilf=true)∧(∀ H l,eA .nils H l=H)∧(∀ r H l,eA (aS r) H l=H)∧(∀ v H l,eA (eVal v) H l=H):=by
 refine⟨?_,?_,?_,?_,?_,?_,?_,?_,?_,?_,?_,?_,?_,?_,?_,?_,?_⟩<;>intros<;>first|(simp[eA,flat,flatL,aS,eVal];done)|(unfold eA;rw[flat])
def eqA (t:TI):Option (List Int)→Option (List Int)→Option V
 | some p,some q=>if t.eq=true∧p.length=t.size∧q.length=t.size then some (.bool (decide (p=q)))else none
 | _,_=>none
def neA (t:TI):Option (List Int)→Option (List Int)→Option V
 | some p,some q=>if t.eq=true∧p.length=t.size∧q.length=t.size then some (.bool (!decide (p=q)))else none
 | _,_=>none
def Al (n:Int):Option (List Int)→Option (List Int)|some l=>some (n::l)|none=>none
theorem Zm (n:Int)(l:List V):gW (.int .i64 n::l)=Al n (gW l):=by
 simp only[gW,Al];cases gW l<;>rfl
theorem Fx (tab:cR)(t:TypeId)(xs ys:List V)(n:Bool):dL tab .eql t (.agg xs) (.agg ys) n=eqA (tab t) (gW xs) (gW ys):=by
 simp only[dL,eqA];cases gW xs<;>cases gW ys<;>rfl
theorem Dx (tab:cR)(t:TypeId)(xs ys:List V)(n:Bool):dL tab .neq t (.agg xs) (.agg ys) n=neA (tab t) (gW xs) (gW ys):=by
 simp only[dL,neA];cases gW xs<;>cases gW ys<;>rfl
theorem WQ:(∀ tab t xs ys n,dL tab .eql t (.agg xs) (.agg ys) n=eqA (tab t) (gW xs) (gW ys))∧(∀ tab t xs ys n,dL tab .neq t (.agg xs) (.agg ys) n=neA (tab t) (gW xs) (gW ys))∧(gW []=some [])∧(∀ n l,gW (.int .i64 n::l)=Al n (gW l))∧(∀ n l,Al n (some l)=some (n::l))∧
 (∀ t p q,eqA t (some p) (some q)=if t.eq=true∧p.length=t.size∧q.length=t.size then some (.bool (decide (p=q)))else none)∧(∀ t p q,neA t (some p) (some q)=if t.eq=true∧p.length=t.size∧q.length=t.size then some (.bool (!decide (p=q)))else none):=
 ⟨Fx,Dx,rfl,Zm,fun _ _=>rfl,fun _ _ _=>rfl,fun _ _ _=>rfl⟩
mutual
def wk:V→V
 | .nils => .imm []
 | .agg l => .agg (wkL l)
 | .tup l => .tup (wkL l)
 | v=>v
def wkL:List V→List V
 | []=>[]
 | v::l=>wk v::wkL l
end
mutual
theorem Tv.wk {w:World}{im:Nat→Prop}:∀{v:V}{x:Value},Tv w im v x→Tv w im (F.wk v) x
 | _,_,.bool b => .bool b
 | _,_,.int k n => .int k n
 | _,_,.str s => .str s
 | _,_,.nilp => .nilp
 | _,_,.nils => .imm0 none 0 (fun _=>rfl) .none
 | _,_,.nilf => .nilf
 | _,_,.nili => .nili
 | _,_,.nilm => .nilm
 | _,_,.flt b => .flt b
 | _,_,.cpx a b => .cpx a b
 | _,_,.imm0 a cap h hA => .imm0 a cap h hA
 | _,_,.imm es s B O cap cs hne hB hcap hs hc h1 h => .imm es s B O cap cs hne hB hcap hs hc h1 h
 | _,_,.fn f => .fn f
 | _,_,.iface t v x h => .iface t v x h
 | _,_,.agg cs xs h1 h => .agg _ xs h1 (TvL.wk h)
 | _,_,.tup cs xs h => .tup _ xs (TvL.wk h)
 | _,_,.any x => .any x
theorem TvL.wk {w:World}{im:Nat→Prop}:∀{l:List V}{m:List Value},TvL w im l m→TvL w im (F.wkL l) m
 | _,_,.nil => .nil
 | _,_,.cons v x l m h t => .cons _ x _ m (Tv.wk h) (TvL.wk t)
end
theorem PC.wkA {P:Program}{g:Gl}{f:FuncId}{l:List V}{r:Res}(h:PC P g f (wkL l) r):PC P g f l r:=fun w im xs hG hi hx=>h w im xs hG hi hx.wk
theorem PC.wkR {P:Program}{g:Gl}{f:FuncId}{l:List V}{v:V}(h:PC P g f l (.ret v)):PC P g f l (.ret (wk v)):=fun w im xs hG hi hx=>
 (h w im xs hG hi hx).mono fun e w' ⟨⟨y,e1,hy⟩,hb⟩=>⟨⟨y,e1,hy.wk⟩,hb⟩
def Zo (k:IntKind)(a b:Int):Int:=k.wrap (BitVec.ofInt k.bits a ^^^ BitVec.ofInt k.bits b).toNat
def pD (k:IntKind)(a b:Int):Int:=k.wrap (BitVec.ofInt k.bits a &&& BitVec.ofInt k.bits b).toNat
def orK (k:IntKind)(a b:Int):Int:=k.wrap (BitVec.ofInt k.bits a ||| BitVec.ofInt k.bits b).toNat
def Ug (k:IntKind)(a b:Int):Int:=a.fdiv (2 ^ (min b.toNat k.bits))
def aRu (k:IntKind)(a b:Int):Int:=k.wrap (a*2 ^ (min b.toNat k.bits))
def cvD (tab:cR)(H:aA):TD→TD→V→FO
 | .int _,.int k,.int _ n => .val (.int k (k.wrap n)) H
 | .int _,.flt .f64,.int _ n => .val (.flt (FloatKind.f64.nearest n)) H
 | .flt _,.int k,.flt b => .of ((floatToIntVal .f64 b k).map (.int k)) H
 | .str,.str,.str s => .val (.str s) H
 | .str,.slice e,.str s=>match(tab e).desc with
  | .int .u8 => .val (.sl H.length 0 s.length) (H++[.row 1 (s.map fun c => .int .u8 c.toNat) false])
  | _ => .stuck
 | .slice e,.str,x=>if x.isStr then .stuck else match(tab e).desc,bS H x with
  | .int .u8,some es => .of ((gD es).map .str) H
  | _,_ => .stuck
 | _,_,_ => .stuck
theorem WK:(∀ tab t k a b n,dL tab .xor t (.int k a) (.int k b) n=some (.int k (Zo k a b)))∧(∀ tab t k a b n,dL tab .and t (.int k a) (.int k b) n=some (.int k (pD k a b)))∧(∀ tab t k a b n,dL tab .or t (.int k a) (.int k b) n=some (.int k (orK k a b)))∧
 (∀ tab t k k' a b n,dL tab .shr t (.int k a) (.int k' b) n=if b < 0 then none else some (.int k (Ug k a b)))∧(∀ tab t k k' a b n,dL tab .shl t (.int k a) (.int k' b) n=if b < 0 then none else some (.int k (aRu k a b)))∧
 (∀ tab H s d x,mY tab H s d x=cvD tab H (tab s).desc (tab d).desc x)∧(∀ tab H k k' k'' n,cvD tab H (.int k) (.int k') (.int k'' n) = .val (.int k' (k'.wrap n)) H)∧(∀ tab H s,cvD tab H .str .str (.str s) = .val (.str s) H):=by
 refine⟨?_,?_,?_,?_,?_,?_,?_,?_⟩<;>intros<;>first|rfl|(simp[dL,yR,Zo,pD,orK];done)
def aAv (p:Nat×Nat):V:=.cpx p.1 p.2
def reV (v:V)(H:aA):FO:=match v with | .cpx a _ => .val (.flt a) H|_ => .stuck
def imV (v:V)(H:aA):FO:=match v with | .cpx _ b => .val (.flt b) H|_ => .stuck
def coV (v u:V)(H:aA):FO:=match v,u with | .flt a,.flt b => .val (.cpx a b) H|_,_ => .stuck
theorem Xw (tab:cR)(H:aA)(T:List V)(x:Operand)(ts:Array TypeId):dB tab H (ev T) ⟨.builtin .real,List.toArray [x],ts⟩=reV (ev T x) H:=by
 have:(List.toArray [x]).toList.map (ev T)=[ev T x]:=rfl;unfold dB reV;simp only[this];generalize ev T x=v;cases v<;>rfl
theorem Yw (tab:cR)(H:aA)(T:List V)(x:Operand)(ts:Array TypeId):dB tab H (ev T) ⟨.builtin .imag,List.toArray [x],ts⟩=imV (ev T x) H:=by
 have:(List.toArray [x]).toList.map (ev T)=[ev T x]:=rfl;unfold dB imV;simp only[this];generalize ev T x=v;cases v<;>rfl
theorem Zw (tab:cR)(H:aA)(T:List V)(x y:Operand)(ts:Array TypeId):dB tab H (ev T) ⟨.builtin .complex,List.toArray [x,y],ts⟩=coV (ev T x) (ev T y) H:=by
 have:(List.toArray [x,y]).toList.map (ev T)=[ev T x,ev T y]:=rfl;unfold dB coV;simp only[this];generalize ev T x=v;generalize ev T y=u;cases v<;>first|rfl|(cases u<;>rfl)
theorem WFl:(∀ tab t a b c d n,dL tab .add t (.cpx a b) (.cpx c d) n=(cSumBits .add .f64 a b c d).map aAv)∧(∀ tab t a b c d n,dL tab .sub t (.cpx a b) (.cpx c d) n=(cSumBits .sub .f64 a b c d).map aAv)∧
 (∀ tab t a b c d n,dL tab .mul t (.cpx a b) (.cpx c d) n=(cMulBits a b c d).map aAv)∧(∀ tab t a b c d n,dL tab .eql t (.cpx a b) (.cpx c d) n=some (.bool (Op.floatEq .f64 a c && Op.floatEq .f64 b d)))∧
 (∀ p q,(some (p,q)).map aAv=some (.cpx p q))∧(∀ b,unV .neg (.flt b)=some (.flt (Op.negFloat .f64 b)))∧
 (∀ tab H k k' n,cvD tab H (.int k) (.flt .f64) (.int k' n) = .val (.flt (jB false n)) H)∧(∀ tab H k k' b,cvD tab H (.flt k') (.int k) (.flt b)=FO.of ((floatToIntVal .f64 b k).map (.int k)) H)∧
 (∀ k n,(some n).map (V.int k)=some (.int k n))∧
 (∀ tab H T x ts,dB tab H (ev T) ⟨.builtin .real,List.toArray [x],ts⟩=reV (ev T x) H)∧(∀ tab H T x ts,dB tab H (ev T) ⟨.builtin .imag,List.toArray [x],ts⟩=imV (ev T x) H)∧
 (∀ tab H T x y ts,dB tab H (ev T) ⟨.builtin .complex,List.toArray [x,y],ts⟩=coV (ev T x) (ev T y) H)∧
 (∀ a b H,reV (.cpx a b) H = .val (.flt a) H)∧(∀ a b H,imV (.cpx a b) H = .val (.flt b) H)∧(∀ a b H,coV (.flt a) (.flt b) H = .val (.cpx a b) H):=by
 refine⟨?_,?_,?_,?_,?_,?_,?_,?_,?_,?_,?_,?_,?_,?_,?_⟩<;>intros<;>first
  | rfl
  | (simp only[cvD,Gd];done)
  | exact Xw _ _ _ _ _
  | exact Yw _ _ _ _ _
  | exact Zw _ _ _ _ _ _
end
section
open Go Go.RowKit
variable {E:Env}{D:List Deferred}{B0:Nat}{w:World}{im:Nat→Prop}{γ:fK}{T:List V}{H:aA}{a:Act}
def hp (A:aA)(y:Blk)(C l:aA):aA:=A++y::(C++l)
def nn (A C:aA):Nat:=A.length+1+C.length
theorem Su (A:aA)(y:Blk)(C l:aA):(hp A y C l)[A.length]?=some y:=by simp[hp]
theorem Th (A:aA)(y:Blk)(C l:aA)(k:Nat):(hp A y C l)[nn A C+k]?=l[k]?:=by
 simp only[hp,nn];rw[List.getElem?_append_right (by omega),show A.length+1+C.length+k - A.length=(C.length+k)+1 from by omega,List.getElem?_cons_succ,List.getElem?_append_right (by omega)];congr 1;omega
theorem Uh (A:aA)(y:Blk)(C l:aA):(hp A y C l).length=nn A C+l.length:=by simp[hp,nn];omega
theorem aGl (A:aA)(y:Blk)(C l m:aA):hp A y C l++m=hp A y C (l++m):=by simp[hp]
theorem Ru (A:aA)(y z:Blk)(C l:aA):(hp A y C l).set A.length z=hp A z C l:=by simp[hp]
theorem Xa (A:aA)(y z:Blk)(C l:aA)(k:Nat):(hp A y C l).set (nn A C+k) z=hp A y C (l.set k z):=by
 simp only[hp,nn];rw[List.set_append_right _ _ (by omega),show A.length+1+C.length+k - A.length=(C.length+k)+1 from by omega,List.set_cons_succ,List.set_append_right _ _ (by omega)];congr 4;omega
def rI (n:Nat)(ids:List Nat):Bool:=ids.all fun b=>decide (n≤b)
theorem Bj (A:aA)(y:Blk)(C:aA):∀(ids:List Nat)(l:aA),rI (nn A C) ids=true→∃ l',l'.length=l.length∧bH (hp A y C l) ids=hp A y C l'
 | [],l,_=>⟨l,rfl,rfl⟩
 | b::ids,l,h=>by
  simp only[rI,List.all_cons,Bool.and_eq_true,decide_eq_true_eq]at h;obtain⟨k,rfl⟩:∃ k,b=nn A C+k:=⟨b - nn A C,by omega⟩;have e:∃ l1,l1.length=l.length∧seal1 (hp A y C l) (nn A C+k)=hp A y C l1:=by
   unfold seal1;rw[Th];split
   ·rw[Xa];exact⟨_,by simp,rfl⟩
   ·exact⟨l,rfl,rfl⟩
  obtain⟨l1,e1,e2⟩:=e;obtain⟨l2,e3,e4⟩:=Bj A y C ids l1 (by simpa[rI]using h.2);exact⟨l2,by omega,by rw[←e4,←e2];rfl⟩
def Yz (H:aA)(ts:List Tmp)(T:List V):List V:=T.zipIdx.map fun p=>if p.2∈ts then(fz H 8 p.1).getD p.1 else p.1
theorem Dv (H:aA)(ts:List Tmp)(T:List V)(t:Tmp)(ht:t∈ts):(Yz H ts T).getD t undef=(fz H 8 (T.getD t undef)).getD (T.getD t undef):=by
 simp only[Yz,List.getD_eq_getElem?_getD,List.getElem?_map,List.getElem?_zipIdx];cases T[t]? with
 | none=>simp[fz]
 | some v=>simp[ht]
theorem RvL.frz {im2:Nat→Prop}(hR:RelH w im γ B0 H)(hi:∀ B,im B→im2 B)(ts:List Tmp):∀(T:List V)(xs:List Value)(k:Nat),RvL w im γ T xs→(∀ i v,T[i]?=some v→i+k∈ts→jV H γ im2 (aU H 8 v))→
 RvL w im2 γ ((T.zipIdx k).map fun p=>if p.2∈ts then(fz H 8 p.1).getD p.1 else p.1) xs
 | [],xs,k,h,_=>by cases h;exact .nil
 | v::T,_,k,.cons _ x _ xs hx ht,hc=>by
  rw[List.zipIdx_cons,List.map_cons];have hkp:Keep w im γ w im2 γ:=⟨fun B hB=>⟨hi B hB,rfl⟩,fun _ _ h=>h⟩;refine .cons _ _ _ _ ?_ (RvL.frz hR hi ts T xs (k+1) ht fun i v hv hm=>hc (i+1) v (by simpa using hv) (by rw[show i+1+k=i+(k+1)from by omega];exact hm));simp only;split
  ·rename_i hm;cases hf:fz H 8 v with
   | none=>exact hx.keep hkp
   | some v'=>exact .tree _ _ (rM hR hi 8 v v' x hx hf (hc 0 v rfl (by simpa using hm)))
  ·exact hx.keep hkp
def Ky:List V→V
 | [v]=>v
 | l => .tup l
def aFw (ts:List Tmp)(n:Nat)(r:Res)(s':V)(A C:aA)(T:List V)(H:aA):Prop:=
 ∃ c l l',H=hp A (.row n [c] false) C l∧fz H 8 c=some s'∧ts.mapM (fun t=>fz H 8 (T.getD t undef))=some l'∧r = .ret (Ky l')∧rI (nn A C) (aU H 8 c++ts.flatMap fun t=>aU H 8 (T.getD t undef))=true
def Tj (ts:List Tmp)(n:Nat)(r:Res)(s':V)(A C:aA):Ex→List V→aA→Prop
 | .normal,T,H=>aFw ts n r s' A C T H
 | .ret,T,H=>aFw ts n r s' A C T H
 | .panic v,T,H=>∃ c l v',H=hp A (.row n [c] false) C l∧fz H 8 c=some s'∧fz H 8 v=some v'∧r = .pan v'∧rI (nn A C) (aU H 8 c++aU H 8 v)=true
 | _,_,_=>False
def MO (E:Env)(f:FuncId)(n:Nat)(s:V)(args:V→List V)(r:Res)(s':V):Prop:=
 ∀(dst:Option Tmp)(T:List V)(K:List V→aA→Prop)(Q:Ex→List V→aA→Prop)(A C:aA),
  (∀ l,match r with | .ret v=>K (put T dst v) (hp A (.row n [s'] false) C l) | .pan v=>Q (.panic v) T (hp A (.row n [s'] false) C l))→aZ E (FW E) f (args (.ptr A.length 0 0)) dst T (hp A (.row n [s] false) C []) K Q
theorem yN {E:Env}{H H':aA}{T:List V}:∀(ts ts':List Tmp)(l':List V),(∀ t∈ts,t∈ts')→ts.mapM (fun t=>fz H 8 (T.getD t undef))=some l'→(ts.map ResultVar.tmp).mapM (iJ E.tab (Yz H ts' T) H')=some l'
 | [],_,l',_,h=>by simpa using h
 | t::ts,ts',l',hs,h=>by
  simp only[List.mapM_cons,Option.bind_eq_bind,Option.pure_def]at h;cases hf:fz H 8 (T.getD t undef)with
  | none=>rw[hf]at h;cases h
  | some v=>
   cases hl:ts.mapM (fun t=>fz H 8 (T.getD t undef))with
   | none=>rw[hf,hl]at h;cases h
   | some l=>
    rw[hf,hl]at h;cases h;have:=yN (E:=E) (H':=H') ts ts' l (fun t ht=>hs t (by simp[ht])) hl;rw[List.map_cons,List.mapM_cons,this];simp only[iJ,Dv H ts' T t (hs t (by simp)),hf,Option.getD_some,Option.bind_eq_bind,Option.bind_some,Option.pure_def]
theorem Jy {tab:cR}{rs:List ResultVar}{T:List V}{H:aA}{l:List V}(h:rs.mapM (iJ tab T H)=some l):jW tab rs T H=some (Ky l):=by
 unfold jW Ky;rw[h];cases l with
 | nil=>rfl
 | cons v l=>cases l<;>rfl
theorem Tj.back (hE:EnvOk E){c:Code}{ts:List Tmp}{n:Nat}{r:Res}{s':V}{A C:aA}{Q:Ex→List V→aA→Prop}(h:FW E c (Tj ts n r s' A C) T H)
 (hn:∀ T' l l',ts.mapM (fun t=>fz (hp A (.row n [s'] false) C l) 8 (T'.getD t undef))=some l'∨True→jW E.tab (ts.map .tmp) T' (hp A (.row n [s'] false) C l)=jW E.tab (ts.map .tmp) T' (hp A (.row n [s'] false) C l))
 (hq:∀ T' l,(match r with | .ret v=>jW E.tab (ts.map .tmp) T' (hp A (.row n [s'] false) C l)=some v→Q .ret T' (hp A (.row n [s'] false) C l)∧Q .normal T' (hp A (.row n [s'] false) C l) | .pan v=>Q (.panic v) T' (hp A (.row n [s'] false) C l))):FW E c Q T H:=by
 intro D B0 w im γ a hS;refine wp_mono (h D B0 w im γ a hS) ?_;rintro e a' w' ⟨e',T',H',im',γ',hmq,hex,hst,hg⟩;have fin:∀(c:V)(l:aA)(ids:List Nat),H'=hp A (.row n [c] false) C l→fz H' 8 c=some s'→rI (nn A C) (aU H' 8 c++ids)=true→
  ∃ im2 l2,(∀ B,im' B→im2 B)∧jV H' γ' im2 ids∧RelH w' im2 γ' B0 (hp A (.row n [s'] false) C l2)∧Goes B0 w im γ w' im2 γ':=by
  intro c l ids hH hz hnew;obtain⟨im2,s1,s2,s3,s4⟩:=mM (aU H' 8 c++ids) hst.heap;have hnew':=hnew;obtain⟨l2,e1,e2⟩:=Bj A (.row n [c] false) C (aU H' 8 c++ids) l hnew;rw[←hH]at e2;rw[e2]at s1;have hrow:(hp A (.row n [c] false) C l2)[A.length]?=some (.row n [c] false):=Su _ _ _ _;have hrow':H'[A.length]?=some (.row n [c] false):=by rw[hH];exact Su _ _ _ _
  have hcov:jV H' γ' im2 (aU H' 8 c):=fun b hb=>s3 b (by simp[hb]);have hcells:∀ vs,RvL w' im' γ' c.cells vs→TvL w' im2 s'.cells vs:=fun vs hv=>Ke (fun m _ v v' x hx hf hc=>rM hst.heap s2 m v v' x hx hf hc) hv hz hcov;rcases hst.heap.row _ _ _ _ hrow' with ⟨p,hp',hr⟩|⟨h0,_⟩
  case inr=>cases h0
  obtain⟨pre,vs,post,ty,fzz,g1,g2,g3,g4⟩:=hr.hm;have g3':RvL w' im' γ' c.cells vs:=by simpa using g3
  have hT:=hcells vs g3';have hlen:s'.cells.length=c.cells.length:=by rw[←hT.len,g3'.len]
  have hgo:Goes B0 w' im' γ' w' im2 γ':=⟨⟨fun B hB=>⟨s2 B hB,rfl⟩,fun _ _ h=>h⟩,Below.refl _ _,s4⟩;refine⟨im2,l2,s2,fun b hb=>s3 b (by simp[hb]),?_,hg.trans hgo⟩;have hget:∀ c',(hp A (.row n [s'] false) C l2)[c']?=if A.length=c' then some (.row n [s'] false)else(hp A (.row n [c] false) C l2)[c']?:=by
   intro c';rw[←Ru A (.row n [c] false) (.row n [s'] false) C l2,List.getElem?_set];by_cases h:A.length=c'
   ·simp[h];rw[←h,Uh];simp[nn];omega
   ·simp[h]
  refine⟨fun d s es ro h=>?_,fun d d' s es ro s2' es2 ro2 p p' hne h h' hp1 hp2=>?_,s1.imlt,fun d hd=>s1.fresh d (by rw[Uh]at hd ⊢;exact hd),s1.size,?_⟩;rotate_left 2
  ·have obk:∀(d:Nat)(o:Blk),(hp A (.row n [s'] false) C l2)[d]?=some o→∃ o',(hp A (.row n [c] false) C l2)[d]?=some o'∧(iU o=true→o'=o)∧∀(W:World) p X,gI W p o X→gI W p o' X:=by
    intro d o h;rw[hget]at h;split at h
    ·rename_i e;subst e;cases h;exact⟨_,hrow,fun h=>by(cases h),fun _ _ _ h=>h⟩
    ·exact⟨o,h,fun _=>rfl,fun _ _ _ h=>h⟩
   refine s1.oh.mono (fun d o h h2=>?_) (fun d o q X h h2 hq hX=>⟨rfl,(s1.oh.obj' h h2 hq X hX).2.2⟩) (Nat.le_refl _) dQ.refl (fun _ _ h=>h) (fun d d' o o' q q' X hne h h2 h3 hq hq' hX=>?_)
   ·obtain⟨o',h3,h4,_⟩:=obk d o h;rw[←h4 h2];exact h3
   ·obtain⟨o'',h4,_,h5⟩:=obk d' o' h3;exact fun h6=>s1.oh.sep d d' o o'' q q' X hne h h2 h4 hq hq' hX (h5 _ _ _ h6)
  ·rw[hget]at h;split at h
   ·rename_i e;subst e;cases h;have hr2:=s1.at hrow hp';refine .inl ⟨p,hp',hr.hs,hr.hB,fun h=>absurd h (by simp),hr2.hw,fun e he=>?_,pre,vs,post,ty,fzz,g1,g2,?_,g4⟩
    ·simp only[List.mem_singleton]at he;subst he;rw[hlen];exact hr.hl c (by simp)
    ·simpa using hT.rv
   ·exact s1.row _ _ _ _ h
  ·have back:∀(d s:Nat)(es:List V)(ro:Bool),(hp A (.row n [s'] false) C l2)[d]?=some (Blk.row s es ro)→∃ es',(hp A (.row n [c] false) C l2)[d]?=some (Blk.row s es' ro):=by
    intro d s es ro h;rw[hget]at h;split at h
    ·rename_i e;subst e;cases h;exact⟨_,hrow⟩
    ·exact⟨_,h⟩
   obtain⟨_,h1⟩:=back _ _ _ _ h;obtain⟨_,h2⟩:=back _ _ _ _ h';exact s1.inj _ _ _ _ _ _ _ _ _ _ hne h1 h2 hp1 hp2
 have fin2:aFw ts n r s' A C T' H'→∃ T2 im2 l2 v,r = .ret v∧jW E.tab (ts.map .tmp) T2 (hp A (.row n [s'] false) C l2)=some v∧StR E D B0 w' im2 γ' T2 (hp A (.row n [s'] false) C l2) a'∧Goes B0 w im γ w' im2 γ':=by
  rintro⟨c,l,l',hH,hz,hm,hr,hnew⟩;obtain⟨im2,l2,k1,k2,k3,k4⟩:=fin c l _ hH hz hnew;refine⟨Yz H' ts T',im2,l2,Ky l',hr,Jy (yN ts ts l' (fun _ h=>h) hm),⟨?_,k3,hst.defers,hst.glob,hst.low⟩,k4⟩;exact RvL.frz hst.heap k1 ts T' _ 0 hst.tmps (fun t v hv ht b hb=>k2 b (List.mem_flatMap.2 ⟨t,by simpa using ht,by rw[List.getD_eq_getElem?_getD,hv];exact hb⟩))
 cases hex with
 | normal=>
  obtain⟨T2,im2,l2,v,hr,hv,hst2,hg2⟩:=fin2 hmq;subst hr;exact⟨.normal,T2,_,im2,γ',(hq T2 l2 hv).2,.normal,hst2,hg2⟩
 | ret=>
  obtain⟨T2,im2,l2,v,hr,hv,hst2,hg2⟩:=fin2 hmq;subst hr;exact⟨.ret,T2,_,im2,γ',(hq T2 l2 hv).1,.ret,hst2,hg2⟩
 | panic v x hv=>
  obtain⟨c,l,v',hH,hz,hf,hr,hnew⟩:=hmq;obtain⟨im2,l2,k1,k2,k3,k4⟩:=fin c l _ hH hz hnew;subst hr;refine⟨.panic v',T',_,im2,γ',hq T' l2,.panic _ _ (.tree _ _ (rM hst.heap k1 8 v v' x hv hf k2)),⟨hst.tmps.keep ⟨fun B hB=>⟨k1 B hB,rfl⟩,fun _ _ h=>h⟩,k3,hst.defers,hst.glob,hst.low⟩,k4⟩
 | exit id=>exact hmq.elim
 | goto l=>exact hmq.elim
theorem MO.of (hE:EnvOk E){f:FuncId}{fn:Func}{c:Code}{n:Nat}{s s':V}{args:V→List V}{r:Res}{m:Nat}{rs:List ResultVar}(ts:List Tmp)(hrs:rs=ts.map .tmp)
 (hf:E.P.funcs[f]?=some fn) (hn:fn.ntmps=m) (hr:fn.results=rs.toArray) (hb:fn.body=some c) (hc:E.sp f=false∧E.cln f=none) (hL:E.pcm f=false)
 (h:∀ A C,FW E c (Tj ts n r s' A C) (args (.ptr A.length 0 0)++List.replicate (m - (args (.ptr A.length 0 0)).length) undef) (hp A (.row n [s] false) C [])):MO E f n s args r s':=by
 intro dst T K Q A C hk;unfold aZ;simp only[hf,hb,hc.1,hc.2,hL,Bool.false_eq_true,if_false,hn,hr,hrs];refine .inl (Tj.back hE (h A C) (fun _ _ _ _=>rfl) ?_);intro T' l;have:=hk l;cases r with
 | ret v=>
  intro hv;simp only at this;constructor<;>· simp only[iW,hv];exact this
 | pan v=>
  simp only[iW];exact this
end
end Go.Proofs.YtaimmacnafoanaaGreatDoor.F
