/- The plain semantics of the program, and what it computes. -/
import Derived.Test.YtaimmacnafoanaaGreatDoorQ01
import Derived.Shelf.SlIterI.Sorted
import Derived.Shelf.SlIterI.Nil
import Derived.Shelf.SortM.Plain
import Derived.Shelf.SortM.SortNone
import Derived.Ground.GgzProg
import Derived.Ground.SlgmProg
import Derived.OwnWalkIn
import Derived.LoopNIn
import Derived.TacticsInMore
import Derived.RangeFuncNested
import Derived.RangeFuncLeaves
import Derived.Maps.AppendAt
import Derived.RegionIn
set_option linter.unusedVariables false
set_option linter.unusedSimpArgs false
set_option maxRecDepth 100000
set_option linter.defProp false
namespace Go.Proofs.YtaimmacnafoanaaGreatDoor.F
section
open Go Go.RowKit
section
variable {E:Env}{rec:mC}{ops:Array Oper}{Q:Ex→List V→aA→Prop}{o oi oj:Oper}{T:List V}{H H':aA}{J:aA→Prop}
theorem aCt (hm:dO rec)(hQ:hZ Q){j:Nat}(hj:ops[j]?=some oj)(hap:oi.apart ops oj=true)(hci:eU E.sp E.pcm E.cln E.tab oi.op = .l)
 {v:V}{ids:List Nat}(hpi:bK ops T oi=some true→∀ H',J H'→bQ E.tab T H' oi.op = .val v H')(ho:gO E ops oi T H v ids []){K:List V→aA→Prop}(h:eL E rec ops Q j (fun T' H'=>J H'∧K T' H') (put T oi.dst v) (bH H ids)) :
 eL E rec ops Q j (fun T' H'=>(∃ u,T'=put T oj.dst u)∧gO E ops oi T' H' v ids []∧J H'∧K (put T' oi.dst v) (bH H' ids)) T H:=by
 obtain⟨h1,h2,h3⟩:=Oper.apart_spec hap;have hnc:∀ f args,bQ E.tab T H oi.op ≠ .call f args:=fun f args e=>by
  rcases kL hci T H with ⟨u,hu,_⟩|hu<;>rw[hu]at e<;>cases e
 have hids:ids=[]:=by
  rcases ho with ⟨_,_,rfl,_⟩|⟨_,⟨rfl,_⟩|⟨_,f,args,h4,_⟩|⟨rfl,_⟩⟩
  ·rfl
  ·rfl
  ·exact absurd h4 (hnc _ _)
  ·rfl
 subst hids;simp only[bH,List.foldl_nil]at h ⊢;unfold eL at *;simp only[hj]at h ⊢;rw[dT h1]at h;have hk:∀(u:V)(H1:aA),J H1∧K (put (put T oi.dst v) oj.dst u) H1→(∃ u',put T oj.dst u=put T oj.dst u')∧gO E ops oi (put T oj.dst u) H1 v [] []∧J H1∧K (put (put T oj.dst u) oi.dst v) H1:=fun u H1 ⟨hJ,hk⟩=>by
  refine⟨⟨u,rfl⟩,(gO.put_iff h3).2 ?_,hJ,by rw[←jK h2];exact hk⟩;rcases ho with ho|⟨g1,⟨g2,g3⟩|⟨_,f,args,h4,_⟩|⟨_,f,args,h4,_⟩⟩
  ·exact .inl ho
  ·exact .inr ⟨g1,.inl ⟨g2,by simpa using hpi g1 H1 hJ⟩⟩
  ·exact absurd h4 (hnc _ _)
  ·exact absurd h4 (hnc _ _)
 split
 ·rename_i hw;rw[hw]at h;exact nS hm hQ (iF h1).symm hk h
 ·rename_i hw;rw[hw]at h;exact hk _ _ h
 ·rename_i hw;rw[hw]at h;exact h
def nZ (tab:cR)(J:aA→Prop)(b:Bool)(ops:Array Oper)(o:Oper)(T:List V)(H:aA):Prop:=b=true→bK ops T o=some true→∃ v,bQ tab T H o.op = .val v H∧∀ H',J H'→bQ tab T H' o.op = .val v H'
def tG (c:Bool)(J:aA→Prop)(K:List V→aA→Prop)(T:List V)(H:aA):Prop:=(c=true→J H)∧K T H
def isS (E:Env)(o:Oper):Bool:=eU E.sp E.pcm E.cln E.tab o.op == .s
def Jk (E:Env)(rec:mC)(ops:Array Oper)(pl:List Nat)(J:aA→Prop)(Q:Ex→List V→aA→Prop)(i:Nat)(K:List V→aA→Prop)(T:List V)(H:aA):Prop:=
 eL E rec ops Q i (tG (match ops[i]? with|some o=>isS E o|none=>false) J K) T H∧∀ o,ops[i]?=some o→nZ E.tab J (pl.contains i) ops o T H
def wG (E:Env)(rec:mC)(ops:Array Oper)(pl:List Nat)(J:aA→Prop)(Q:Ex→List V→aA→Prop):Nat→Array Bool→List V→aA→Prop
 | 0,listed,T,H=>Region.ready .any ops listed=[]∧Q .normal T H
 | n+1,listed,T,H=>(Region.ready .any ops listed=[]→Q .normal T H)∧∀ i∈Region.ready .any ops listed,Jk E rec ops pl J Q i (wG E rec ops pl J Q n (listed.setIfInBounds i true)) T H
theorem zD (hm:dO rec)(hQ:hZ Q){pl:List Nat}:∀(n:Nat)(listed:Array Bool)(T:List V)(H:aA),wG E rec ops pl J Q n listed T H→xN E rec ops Q n listed T H
 | 0,_,_,_,h=>h
 | n+1,_,_,_,h=>⟨h.1,fun i hi=>bR hm hQ (fun T H h=>zD hm hQ n _ _ _ h.2) (h.2 i hi).1⟩
theorem nZ.back {b:Bool}{d:Option Tmp}{v:V}{ids:List Nat}(hc:b=true→eU E.sp E.pcm E.cln E.tab o.op = .l)(h1:∀ t,d=some t→t∉o.looksAt ops)(h:nZ E.tab J b ops o (put T d v) (bH H ids)):nZ E.tab J b ops o T H:=by
 intro hb hw;have hw':bK ops (put T d v) o=some true:=by rw[dT h1];exact hw
 obtain⟨u,e1,e2⟩:=h hb hw';rw[iF h1]at e1;refine⟨u,?_,fun H' hJ=>by have:=e2 H' hJ;rw[iF h1]at this;exact this⟩;rcases kL (hc hb) T (bH H ids)with ⟨u',hu,hx⟩|hu
 ·rw[hu]at e1;cases e1;exact hx H (kQ.unsealed _ _)
 ·rw[hu]at e1;cases e1
theorem Xe (hm:dO rec)(hQ:hZ Q){pl:List Nat}(hpl:∀ k o,ops[k]?=some o→pl.contains k=true→eU E.sp E.pcm E.cln E.tab o.op = .l){i:Nat}(hi:ops[i]?=some oi)(hci:eU E.sp E.pcm E.cln E.tab oi.op ≠ .s∧eU E.sp E.pcm E.cln E.tab oi.op ≠ .a)(S:Nat→Prop)
 (hS:∀ j oj,ops[j]?=some oj→j≠i→(∀ e∈oj.after,Region.binds .any e=true→S e.on)→S j){v:V}{ids:List Nat} :
 ∀(fuel:Nat)(listed:Array Bool)(T:List V)(H:aA),(∀ k,listed.getD k false=true→S k)→
  (∀ j oj,ops[j]?=some oj→j≠i→S j→listed.getD j true=false→oi.apart ops oj=true∧((eU E.sp E.pcm E.cln E.tab oi.op = .p∨eU E.sp E.pcm E.cln E.tab oj.op ≠ .s)∨pl.contains i=true))→
  i∈Region.ready .any ops listed→gO E ops oi T H v ids []→(pl.contains i=true→bK ops T oi=some true→∀ H',J H'→bQ E.tab T H' oi.op = .val v H')→(nZ E.tab J (pl.contains i) ops oi T H)→wG E rec ops pl J Q fuel (listed.setIfInBounds i true) (put T oi.dst v) (bH H ids)→wG E rec ops pl J Q (fuel+1) listed T H:=by
 have hni:isS E oi=false:=by simp only[isS,beq_eq_false_iff_ne];exact hci.1
 intro fuel;induction fuel with
 | zero=>
  intro listed T H hl hok hr ho hpi hpj hf;refine⟨fun h=>(by rw[h]at hr;cases hr),fun j hj=>?_⟩;by_cases hji:j=i
  ·subst hji;refine⟨ho.go hi ⟨fun h=>?_,by simpa using hf⟩,fun o ho=>by rw[hi]at ho;cases ho;exact hpj⟩;simp only[hi,hni]at h;cases h
  ·have:=ready_mono hj hji;rw[hf.1]at this;cases this
 | succ fuel ih=>
  intro listed T H hl hok hr ho hpi hpii hf;refine⟨fun h=>(by rw[h]at hr;cases hr),fun j hj=>?_⟩;by_cases hji:j=i
  ·subst hji;refine⟨ho.go hi ⟨fun h=>?_,by simpa using hf⟩,fun o ho=>by rw[hi]at ho;cases ho;exact hpii⟩;simp only[hi,hni]at h;cases h
  ·obtain⟨h1,hp1⟩:=hf.2 j (ready_mono hj hji);obtain⟨hjun,oj,hoj,hall⟩:=mem_ready.1 hj;have hSj:S j:=hS j oj hoj hji fun e he hb=>hl _ (hall e he hb);obtain⟨ha,hc⟩:=hok j oj hoj hji hSj hjun;obtain⟨a1,a2,a3⟩:=Oper.apart_spec ha;have hpj:=(hp1 oj hoj).back (hpl j oj hoj) a1;simp only[hoj]at h1;have hsw:eL E rec ops Q j (fun T' H'=>(∃ u,T'=put T oj.dst u)∧gO E ops oi T' H' v ids []∧(isS E oj=true→J H')∧wG E rec ops pl J Q fuel ((listed.setIfInBounds i true).setIfInBounds j true) (put T' oi.dst v) (bH H' ids)) T H:=by
    by_cases hsj:eU E.sp E.pcm E.cln E.tab oj.op = .s
    ·have hs:isS E oj=true:=by simp only[isS,hsj,beq_self_eq_true]
     rcases hc with (hc|hc)|hc
     ·obtain⟨-,hids,-⟩:=ho.any hc H;refine bR hm hQ ?_ (Hc hm hQ hoj ha hci (.inl hc) ho h1);rintro T' H' ⟨k1,k2,k3,k4⟩;refine⟨k1,k2,fun h=>?_,k4⟩;have:=k3 h;rw[hids]at this;exact this
     ·exact absurd hsj hc
     ·have hcl:eU E.sp E.pcm E.cln E.tab oi.op = .l:=hpl i oi hi hc;have h1':eL E rec ops Q j (fun T' H'=>J H'∧wG E rec ops pl J Q fuel ((listed.setIfInBounds i true).setIfInBounds j true) T' H') (put T oi.dst v) (bH H ids):=bR hm hQ (fun T' H' hh=>⟨hh.1 hs,hh.2⟩) h1;refine bR hm hQ ?_ (aCt hm hQ hoj ha hcl (hpi hc) ho h1');rintro T' H' ⟨k1,k2,k3,k4⟩;exact⟨k1,k2,fun _=>k3,k4⟩
    ·have hs:isS E oj=false:=by simp only[isS,beq_eq_false_iff_ne];exact hsj
     refine bR hm hQ ?_ (Hc hm hQ hoj ha hci (.inr hsj) ho h1);rintro T' H' ⟨k1,k2,k3,k4⟩;exact⟨k1,k2,(fun h=>by rw[hs]at h;cases h),k4⟩
   refine⟨?_,fun o ho'=>by rw[hoj]at ho';cases ho';exact hpj⟩;simp only[hoj];refine bR hm hQ ?_ hsw;rintro T' H' ⟨⟨u,rfl⟩,h4,h6,h5⟩;have hpi':pl.contains i=true→bK ops (put T oj.dst u) oi=some true→∀ H',J H'→bQ E.tab (put T oj.dst u) H' oi.op = .val v H':=fun hp hw H'' hJ=>by
    rw[iF a3];rw[dT a3]at hw;exact hpi hp hw H'' hJ
   refine⟨h6,ih (listed.setIfInBounds j true) _ H' ?_ ?_ (ready_mono hr (Ne.symm hji)) h4 hpi' ?_ ?_⟩
   ·intro k hk;by_cases hjk:j=k
    ·subst hjk;exact hSj
    ·rw[getD_set_ne false hjk]at hk;exact hl k hk
   ·intro k ok hk hki hsk hun;refine hok k ok hk hki hsk ?_;by_cases hjk:j=k
    ·subst hjk;exact hjun
    ·rw[getD_set_ne true hjk]at hun;exact hun
   ·intro hp hw;refine⟨v,?_,hpi' hp hw⟩;have hcl:eU E.sp E.pcm E.cln E.tab oi.op = .l:=hpl i oi hi hp;rcases h4 with ⟨h7,_⟩|⟨_,⟨_,g3⟩|⟨_,f,args,h8,_⟩|⟨_,f,args,h8,_⟩⟩
    ·rw[hw]at h7;cases h7
    ·simpa using g3
    ·rcases kL hcl (put T oj.dst u) H' with ⟨u',hu,_⟩|hu<;>rw[hu]at h8<;>cases h8
    ·rcases kL hcl (put T oj.dst u) H' with ⟨u',hu,_⟩|hu<;>rw[hu]at h8<;>cases h8
   ·rw[Array.setIfInBounds_comm _ _ hji];exact h5
def Mv (pl:List Nat)(sp:FuncId→Bool)(pcm:FuncId→Bool)(cln:FuncId→Option Nat)(tab:cR)(ops:Array Oper)(listed:Array Bool)(i:Nat):Bool:=
 match ops[i]? with
 | none=>false
 | some oi=>
  let S:=qK ops i ops.size (kC ops listed)
  let ci:=eU sp pcm cln tab oi.op
  (ci != .s && ci != .a) &&
  ((
   List.range ops.size).all fun j=>j == i || match ops[j]? with
   | none=>true
   | some oj=>(!(oj.after.all fun e => !Region.binds .any e || S.contains e.on) || S.contains j) && (!S.contains j || listed.getD j true || (oi.apart ops oj && ((ci == .p || eU sp pcm cln tab oj.op != .s) || pl.contains i)))) &&
  ((List.range listed.size).all fun j => !listed.getD j false || S.contains j)
def Dt (pl:List Nat)(sp:FuncId→Bool)(pcm:FuncId→Bool)(cln:FuncId→Option Nat)(tab:cR)(ops:Array Oper):Bool:=pl.all fun k=>match ops[k]? with|some o=>eU sp pcm cln tab o.op == .l|none=>true
end
end
section
open Go Go.RowKit
inductive OT where
 | nil
 | one (i:Nat) (t:OT)
 | two (i:Nat) (t:OT) (j:Nat) (u:OT)
def OT.len:OT→Nat
 | .nil=>0
 | .one _ t=>t.len+1
 | .two _ t _ _=>t.len+1
def OT.of:List Nat→OT→OT
 | [],t=>t
 | i::l,t => .one i (OT.of l t)
section
variable {E:Env}{rec:mC}{Q:Ex→List V→aA→Prop}{T:List V}{H:aA}{J:aA→Prop}
def xT (pl:List Nat)(sp:FuncId→Bool)(pcm:FuncId→Bool)(cln:FuncId→Option Nat)(tab:cR)(ops:Array Oper):OT→Array Bool→Bool
 | .nil,listed=>(Region.ready .any ops listed).isEmpty
 | .one i t,listed=>decide (i < ops.size) && (Region.ready .any ops listed).contains i && (Region.ready .any ops listed == [i] || Mv pl sp pcm cln tab ops listed i) && xT pl sp pcm cln tab ops t (listed.setIfInBounds i true)
 | .two i t j u,listed=>decide (i < ops.size) && decide (j < ops.size) && (t.len == u.len) && (Region.ready .any ops listed == [i,j] || Region.ready .any ops listed == [j,i]) && xT pl sp pcm cln tab ops t (listed.setIfInBounds i true) && xT pl sp pcm cln tab ops u (listed.setIfInBounds j true)
def pL (E:Env)(rec:mC)(l:List Oper)(J:aA→Prop)(Q:Ex→List V→aA→Prop)(K:List V→aA→Prop)(b:Bool)(o:Oper)(T:List V)(H:aA):Prop:=
 nZ E.tab J b l.toArray o T H∧match bK l.toArray T o with
  | some true=>iZ E rec o T H (tG (isS E o) J K) Q
  | some false=>tG (isS E o) J K (put T o.dst undef) H
  | none=>False
def kK (E:Env)(rec:mC)(l:List Oper)(pl:List Nat)(J:aA→Prop)(Q:Ex→List V→aA→Prop):OT→List V→aA→Prop
 | .nil,T,H=>Q .normal T H
 | .one i t,T,H=>pL E rec l J Q (kK E rec l pl J Q t) (pl.contains i) (fT l i) T H
 | .two i t j u,T,H=>pL E rec l J Q (kK E rec l pl J Q t) (pl.contains i) (fT l i) T H∧pL E rec l J Q (kK E rec l pl J Q u) (pl.contains j) (fT l j) T H
theorem nJ {l:List Oper}{i:Nat}(h:i < l.length):l.toArray[i]?=some (fT l i):=by
 simp[fT,List.getElem?_eq_getElem h]
theorem Yn (hm:dO rec)(hQ:hZ Q){l:List Oper}{pl:List Nat}(hpl:∀ k o,l.toArray[k]?=some o→pl.contains k=true→eU E.sp E.pcm E.cln E.tab o.op = .l):∀(t:OT)(listed:Array Bool)(T:List V)(H:aA),xT pl E.sp E.pcm E.cln E.tab l.toArray t listed=true→kK E rec l pl J Q t T H→wG E rec l.toArray pl J Q t.len listed T H:=by
 have step:∀(i:Nat)(K:List V→aA→Prop)(T:List V)(H:aA),i < l.length→pL E rec l J Q K (pl.contains i) (fT l i) T H→Jk E rec l.toArray pl J Q i K T H:=by
  intro i K T H hi h;have ho:=nJ hi;refine⟨?_,fun o h1=>by rw[ho]at h1;cases h1;exact h.1⟩;unfold eL;simp only[ho];exact h.2
 have mono:∀(i:Nat)(K K':List V→aA→Prop)(T:List V)(H:aA),(∀ T H,K T H→K' T H)→Jk E rec l.toArray pl J Q i K T H→Jk E rec l.toArray pl J Q i K' T H:=fun i K K' T H hk h=>⟨bR hm hQ (fun T H h=>⟨h.1,hk _ _ h.2⟩) h.1,h.2⟩;intro t;induction t with
 | nil=>intro listed T H hB h;exact⟨by simpa[xT]using hB,h⟩
 | one i t ih=>
  intro listed T H hB h;simp only[xT,Bool.and_eq_true,Bool.or_eq_true,decide_eq_true_eq,List.size_toArray]at hB;obtain⟨⟨⟨hil,hr⟩,hB1⟩,hB2⟩:=hB;have hr:i∈Region.ready .any l.toArray listed:=by simpa using hr
  have hi:=nJ hil;have hst:=step i _ T H hil h;rcases hB1 with hB1|hB1
  ·have hB1:Region.ready .any l.toArray listed=[i]:=by simpa using hB1
   refine⟨fun h0=>(by rw[h0]at hr;cases hr),fun j hj=>?_⟩;rw[hB1]at hj;have:j=i:=by simpa using hj
   subst this;exact mono _ _ _ _ _ (fun T H h=>ih _ _ _ hB2 h) hst
  ·simp only[Mv,hi,Bool.and_eq_true,bne_iff_ne,ne_eq,List.all_eq_true,List.mem_range]at hB1;obtain⟨⟨hci,hB3⟩,hB4⟩:=hB1;have hst':eL E rec l.toArray Q i (kK E rec l pl J Q t) T H:=bR hm hQ (fun T H h=>h.2) hst.1;obtain⟨v,ids,xs,ho,hk,hx,-⟩:=gO.of hi hQ hci.1 hst';obtain rfl:=hx hci.2;have hpi:=hst.2 _ hi;have hpi2:pl.contains i=true→bK l.toArray T (fT l i)=some true→∀ H',J H'→bQ E.tab T H' (fT l i).op = .val v H':=fun hp hw=>by
    obtain⟨u,e1,e2⟩:=hpi hp hw;have hcl:=hpl i _ hi hp;have:u=v:=by
     rcases ho with ⟨h7,_⟩|⟨_,⟨_,g3⟩|⟨_,f,args,h8,_⟩|⟨_,f,args,h8,_⟩⟩
     ·rw[hw]at h7;cases h7
     ·rw[e1]at g3;simp only[FO.val.injEq]at g3;exact g3.1
     ·rcases kL hcl T H with ⟨u',hu,_⟩|hu<;>rw[hu]at h8<;>cases h8
     ·rcases kL hcl T H with ⟨u',hu,_⟩|hu<;>rw[hu]at h8<;>cases h8
    rw[←this];exact e2
   refine Xe hm hQ hpl hi hci (fun j=>(qK l.toArray i l.toArray.size (kC l.toArray listed)).contains j=true) ?_ t.len listed T H ?_ ?_ hr ho hpi2 hpi (ih _ _ _ hB2 (by simpa using hk))
   ·intro j oj hj hji hall;have h1:=hB3 j (Array.getElem?_eq_some_iff.1 hj).1;simp only[hj,Bool.or_eq_true,beq_iff_eq,hji,false_or,Bool.and_eq_true]at h1;rcases h1.1 with h2|h2
    ·exfalso;rw[Bool.not_eq_true',←Bool.not_eq_true,Array.all_eq_true_iff_forall_mem]at h2;refine h2 fun e he=>?_;cases hb:Region.binds .any e with
     | false=>rfl
     | true=>simpa using hall e he hb
    ·exact h2
   ·intro k hk;by_cases hks:k < listed.size
    ·have h1:=hB4 k hks;simp only[hk,Bool.not_true,Bool.false_or]at h1;exact h1
    ·simp[Array.getD,hks]at hk
   ·intro j oj hj hji hSj hunj;have h1:=hB3 j (Array.getElem?_eq_some_iff.1 hj).1;simp only[hj,Bool.or_eq_true,beq_iff_eq,hji,false_or,Bool.and_eq_true]at h1;have h2:=h1.2;simp only[hSj,hunj,Bool.not_true,Bool.false_eq_true,false_or,bne_iff_ne,ne_eq]at h2;exact h2
 | two i t j u ih1 ih2=>
  intro listed T H hB h;simp only[xT,Bool.and_eq_true,Bool.or_eq_true,decide_eq_true_eq,List.size_toArray,beq_iff_eq]at hB;obtain⟨⟨⟨⟨⟨hil,hjl⟩,hlen⟩,hr⟩,hB1⟩,hB2⟩:=hB;have hmem:∀ k∈Region.ready .any l.toArray listed,k=i∨k=j:=fun k hk=>by
   rcases hr with hr|hr<;>rw[hr]at hk<;>simp only[List.mem_cons,List.not_mem_nil,or_false]at hk<;>omega
  refine⟨(fun h0=>by rcases hr with hr|hr<;>rw[hr]at h0<;>cases h0),fun k hk=>?_⟩;rcases hmem k hk with rfl|rfl
  ·exact mono _ _ _ _ _ (fun T H h=>ih1 _ _ _ hB1 h) (step _ _ T H hil h.1)
  ·have h2:=mono _ _ _ _ _ (fun T H h=>ih2 _ _ _ hB2 h) (step _ _ T H hjl h.2);rw[←hlen]at h2;exact h2
theorem FW.drawnT (hE:EnvOk E){id:Nat}{l:List Oper}(J:aA→Prop)(t:OT)(pl:List Nat)(hc:(Dt pl E.sp E.pcm E.cln E.tab l.toArray && (t.len == l.length && xT pl E.sp E.pcm E.cln E.tab l.toArray t (Array.replicate l.length false)))=true)(h:kK E (FW E) l pl J (tE Q) t T H):FW E (.region id l.toArray true) Q T H:=by
 simp only[Bool.and_eq_true,beq_iff_eq]at hc;have hpl:∀ k o,l.toArray[k]?=some o→pl.contains k=true→eU E.sp E.pcm E.cln E.tab o.op = .l:=fun k o hk hp=>by
  have:=List.all_eq_true.1 hc.1 k (by simpa using hp);simp only[hk,beq_iff_eq]at this;exact this
 refine FW.mono (Q:=tE Q) (FW.draw hE ?_) ?_
 ·have:=zD (FW.recMono (E:=E)) (Q:=tE Q) (fun v T H h=>h) _ _ _ _ (Yn (E:=E) (rec:=FW E) FW.recMono (Q:=tE Q) (fun v T H h=>h) (pl:=pl) (J:=J) hpl t _ _ _ hc.2.2 h);rw[hc.2.1]at this;simpa using this
 ·intro e T H h;cases e<;>first|exact h|exact h.elim
end
theorem Fh (tab:cR)(J:aA→Prop)(ops:Array Oper)(o:Oper)(T:List V)(H:aA):nZ tab J false ops o T H=True:=by simp[nZ]
theorem WT:(∀ E rec l pl J Q T H,kK E rec l pl J Q .nil T H=Q .normal T H)∧(∀ E rec l pl J Q i t T H,kK E rec l pl J Q (.one i t) T H=pL E rec l J Q (kK E rec l pl J Q t) (pl.contains i) (fT l i) T H)∧
 (∀ E rec l pl J Q i t j u T H,kK E rec l pl J Q (.two i t j u) T H=(pL E rec l J Q (kK E rec l pl J Q t) (pl.contains i) (fT l i) T H∧pL E rec l J Q (kK E rec l pl J Q u) (pl.contains j) (fT l j) T H))∧
 (∀ E rec l J Q K b o T H,pL E rec l J Q K b o T H=(nZ E.tab J b l.toArray o T H∧Hn E rec o T H (tG (isS E o) J K) Q (bK l.toArray T o)))∧
 (∀ tab J ops o T H,nZ tab J false ops o T H=True)∧(∀ J K T H,tG false J K T H=K T H)∧(∀ J K T H,tG true J K T H=(J H∧K T H))∧(∀ t,OT.of [] t=t)∧(∀ i l t,OT.of (i::l) t = .one i (OT.of l t)):=by
 refine⟨fun _ _ _ _ _ _ _ _=>rfl,fun _ _ _ _ _ _ _ _ _ _=>rfl,fun _ _ _ _ _ _ _ _ _ _ _ _=>rfl,fun E rec l J Q K b o T H=>?_,Fh,fun J K T H=>by simp[tG],fun J K T H=>by simp[tG],fun _=>rfl,fun _ _ _=>rfl⟩;unfold pL Hn;cases bK l.toArray T o with
 | none=>rfl
 | some b=>cases b<;>rfl
def Wa:TD→Bool
 | .arr ..=>true
 | _=>false
theorem Xm (E:Env)(d:Option Tmp)(a:TypeId)(x:Operand)(b c e:Option Operand)(ty:TypeId)(p:String)(af:Array Edge)(gu:Option (Nat×Bool)):isS E ⟨d,.slice a x b c e,ty,p,af,gu⟩=Wa (E.tab a).desc:=by
 simp only[isS,eU];cases (E.tab a).desc<;>rfl
theorem WTS:(∀ E d x ty p af gu,isS E ⟨d,.move x,ty,p,af,gu⟩=false)∧(∀ E d x ty p af gu,isS E ⟨d,.assign x,ty,p,af,gu⟩=false)∧(∀ E d x y z ty p af gu,isS E ⟨d,.pick x y z,ty,p,af,gu⟩=false)∧(∀ E d x ty p af gu,isS E ⟨d,.nilCheck x,ty,p,af,gu⟩=false)∧(∀ E d a b x y u ty p af gu,isS E ⟨d,.binOp a b x y u,ty,p,af,gu⟩=false)∧(∀ E d a b x ty p af gu,isS E ⟨d,.unOp a b x,ty,p,af,gu⟩=false)∧
 (∀ E d a x f ty p af gu,isS E ⟨d,.fieldAddr a x f,ty,p,af,gu⟩=false)∧(∀ E d a x f ty p af gu,isS E ⟨d,.field a x f,ty,p,af,gu⟩=false)∧(∀ E d a x f ty p af gu,isS E ⟨d,.index a x f,ty,p,af,gu⟩=false)∧(∀ E d x f ty p af gu,isS E ⟨d,.extract x f,ty,p,af,gu⟩=false)∧(∀ E d a x ty p af gu,isS E ⟨d,.build a x,ty,p,af,gu⟩=false)∧(∀ E d a x ty p af gu,isS E ⟨d,.makeInterface a x,ty,p,af,gu⟩=false)∧(∀ E d a b c ty p af gu,isS E ⟨d,.makeFunc a b c,ty,p,af,gu⟩=false)∧
 (∀ E d a x ty p af gu,isS E ⟨d,.load a x,ty,p,af,gu⟩=false)∧(∀ E d a x f ty p af gu,isS E ⟨d,.indexAddr a x f,ty,p,af,gu⟩=false)∧((∀ E d a x b c e ty p af gu,isS E ⟨d,.slice a x b c e,ty,p,af,gu⟩=Wa (E.tab a).desc)∧(∀ e,Wa (.slice e)=false)∧Wa .str=false)∧(∀ E d a ty p af gu,isS E ⟨d,.alloc a,ty,p,af,gu⟩=false)∧(∀ E d a x ty p af gu,isS E ⟨d,.box a x,ty,p,af,gu⟩=false)∧(∀ E d a x y ty p af gu,isS E ⟨d,.makeSlice a x y,ty,p,af,gu⟩=false)∧(∀ E d a x y ty p af gu,isS E ⟨d,.buildSlice a x y,ty,p,af,gu⟩=false)∧
 (∀ E d a x y ty p af gu,isS E ⟨d,.store a x y,ty,p,af,gu⟩=true)∧(∀ E d x y ty p af gu,isS E ⟨d,.call ⟨.builtin .len,x,y⟩,ty,p,af,gu⟩=false)∧(∀ E d x y ty p af gu,isS E ⟨d,.call ⟨.builtin .append,x,y⟩,ty,p,af,gu⟩=true)∧(∀ E d x y ty p af gu,isS E ⟨d,.call ⟨.builtin .copy,x,y⟩,ty,p,af,gu⟩=true)∧(∀ E d x y z ty p af gu,isS E ⟨d,.call ⟨.value (.tmp x),y,z⟩,ty,p,af,gu⟩=true):=by
 refine⟨?_,?_,?_,?_,?_,?_,?_,?_,?_,?_,?_,?_,?_,?_,?_,?_,?_,?_,?_,?_,?_,?_,?_,?_,?_⟩<;>first|exact⟨Xm,fun _=>rfl,rfl⟩|(intros;rfl)
end
section
open Go Go.RowKit
def Ym:List Nat:=[84,142,143,207,31,32,35,36,37,38,39,44,47,48,49,50,51,62,65,69,70,71,72,77,80,85,86,88,90,93,94,98,99,102,103,106,107,108,109,110,111,112,113,114,115,117,123,125,127,137,138,139,144,145,167,169,171,172,173,176,178,179,180,182,183,187,188,189,192,193,194,195,196,197,198,199,200,204,205,208,209,213,227,228,233,236,238,239,240,241,242,243,244,245,246,247,256,257,258,261,262,263,265,286,288,296,297,298,300,335]
noncomputable abbrev Eg (g:Gl):Env:=⟨Tryz.prog,tab,g,fun f => !Ym.contains f,gZ,sD,aEw⟩
theorem xA (g:Gl):EnvOk (Eg g):={mB g []with spc:=(mB g []).spc,cln:=(mB g []).cln,tab:=(mB g []).tab,mixed:=(mB g []).mixed,names:=(mB g []).names}
section
variable {g:Gl}{Q:Ex→List V→aA→Prop}{T:List V}{H:aA}{K:List V→aA→Prop}{dst:Option Tmp}{rec:mC}
theorem eC {f:FuncId}{fn:Func}{c:Code}{args:List V}{r:Res}{n:Nat}{rs:List ResultVar}(hf:P0.funcs[f]?=some fn)(hn:fn.ntmps=n)(hr:fn.results=rs.toArray)(hb:fn.body=some c)
 (h:FW (Eg g) c (dV tab rs r) (args++List.replicate (n - args.length) undef) []):PC P0 g f args r:=PC.of (E:=Eg g) (xA g) hf hn hr hb h
theorem mt {f:FuncId}{fn:Func}{c:Code}{args l:List V}{v:V}(hp:PC P0 g f l (.ret v))(hf:P0.funcs[f]?=some fn)(hb:fn.body=some c)(hc:(sD f=false∧gZ f=none)∧Ym.contains f=false)
 (hl:args.mapM (fz H 8)=some l)(hk:K (put T dst v) (eA v H (args.flatMap (aU H 8)))):aZ (Eg g) rec f args dst T H K Q:=by
 unfold aZ;simp only[hf,hb,hc.1.1,hc.1.2,hc.2,if_true,Bool.false_eq_true,if_false,Bool.not_false];exact qH.ret (E:=Eg g) hl hp hk
theorem mtP {f:FuncId}{fn:Func}{c:Code}{args l:List V}{v:V}(hp:PC P0 g f l (.pan v))(hf:P0.funcs[f]?=some fn)(hb:fn.body=some c)(hc:(sD f=false∧gZ f=none)∧Ym.contains f=false)
 (hl:args.mapM (fz H 8)=some l)(hk:Q (.panic v) T (eA v H (args.flatMap (aU H 8)))):aZ (Eg g) rec f args dst T H K Q:=by
 unfold aZ;simp only[hf,hb,hc.1.1,hc.1.2,hc.2,if_true,Bool.false_eq_true,if_false,Bool.not_false];exact qH.pan (E:=Eg g) hl hp hk
theorem en {f:FuncId}{fn:Func}{c:Code}{n:Nat}{rs:List ResultVar}{args:List V}(hf:P0.funcs[f]?=some fn)(hn:fn.ntmps=n)(hr:fn.results=rs.toArray)(hb:fn.body=some c)(hc:(sD f=false∧gZ f=none)∧Ym.contains f=true)
 (h:FW (Eg g) c (iW tab rs T dst K Q) (args++List.replicate (n - args.length) undef) H):aZ (Eg g) (FW (Eg g)) f args dst T H K Q:=by
 unfold aZ;simp only[hf,hb,hc.1.1,hc.1.2,hc.2,Bool.false_eq_true,if_false,hn,hr,Bool.not_true];exact .inl h
theorem mcc {f:FuncId}{fn:Func}{c:Code}{args:List V}{v:V}{H':aA}(hm:MC P0 g f args H v H')(hf:P0.funcs[f]?=some fn)(hb:fn.body=some c)(hc:(sD f=false∧gZ f=none)∧Ym.contains f=true)
 (hk:K (put T dst v) H'):aZ (Eg g) rec f args dst T H K Q:=by
 unfold aZ;simp only[hf,hb,hc.1.1,hc.1.2,hc.2,Bool.false_eq_true,if_false,Bool.not_true];exact .inr ⟨v,H',hm,hk⟩
theorem cl {f:FuncId}{fn:Func}{c:Code}{s:Nat}{v:V}{es:List V}
 (hf:P0.funcs[f]?=some fn)(hb:fn.body=some c)(hc:sD f=false∧gZ f=some s)(hs:v.isStr=false)(he:bS H v=some es)(hall:aQ s es=true)(hle:es.length≤1073741824)(hk:K (put T dst (.sl H.length 0 es.length)) (H++[.row s es false])):aZ (Eg g) rec f [v] dst T H K Q:=by
 unfold aZ;simp only[hf,hb,hc.1,hc.2,Bool.false_eq_true,if_false,Ci,he,hall,hs,hle,and_self,if_true];exact hk
theorem rg {id:Nat}{l:List Oper}{y:Code}(h:∀ K:List V→aA→Prop,(∀ T H,FW (Eg g) y Q T H→K T H)→lI (Eg g) (FW (Eg g)) l.toArray (fM K Q) l T H):FW (Eg g) (.seq (.region id l.toArray false) y) Q T H:=
 aF fun K hK=>FW.region (xA g) (h K hK)
theorem rl {id:Nat}{l:List Oper}(h:∀ K:List V→aA→Prop,(∀ T H,Q .normal T H→K T H)→lI (Eg g) (FW (Eg g)) l.toArray (fM K Q) l T H):FW (Eg g) (.region id l.toArray false) Q T H:=
 FW.last fun K hK=>FW.region (xA g) (h K hK)
theorem dr {id:Nat}{l:List Oper}{y:Code}(p:List Nat)(hc:(sS l.length p && (p.length == l.length && Pf sD (fun f => !Ym.contains f) gZ tab l.toArray p (Array.replicate l.length false)))=true)
 (h:∀ K:List V→aA→Prop,(∀ T H,FW (Eg g) y Q T H→K T H)→lI (Eg g) (FW (Eg g)) l.toArray (tE (fM K Q)) (pk l p) T H):FW (Eg g) (.seq (.region id l.toArray true) y) Q T H:=by
 rw[Bool.and_eq_true]at hc;exact aF fun K hK=>FW.drawnK (xA g) p hc.1 hc.2 (h K hK)
theorem dl {id:Nat}{l:List Oper}(p:List Nat)(hc:(sS l.length p && (p.length == l.length && Pf sD (fun f => !Ym.contains f) gZ tab l.toArray p (Array.replicate l.length false)))=true)
 (h:∀ K:List V→aA→Prop,(∀ T H,Q .normal T H→K T H)→lI (Eg g) (FW (Eg g)) l.toArray (tE (fM K Q)) (pk l p) T H):FW (Eg g) (.region id l.toArray true) Q T H:=by
 rw[Bool.and_eq_true]at hc;exact FW.last fun K hK=>FW.drawnK (xA g) p hc.1 hc.2 (h K hK)
theorem pr {id:Nat}{l:List Oper}{y:Code}(p pl pin:List Nat)(hc:(sS l.length p && (p.length == l.length && Of pl sD (fun f => !Ym.contains f) gZ tab l.toArray p (Array.replicate l.length false)))=true)
 (h:∀ K:List V→aA→Prop,(∀ T H,FW (Eg g) y Q T H→K T H)→jP (Eg g) (FW (Eg g)) l.toArray pin (tE (fM K Q)) (pkP l pl p) T H):FW (Eg g) (.seq (.region id l.toArray true) y) Q T H:=by
 rw[Bool.and_eq_true]at hc;refine aF fun K hK=>FW.drawnP (xA g) p pl pin hc.2 ?_;rw[Eh l pl p (by simpa[sS]using hc.1)];exact h K hK
theorem pl {id:Nat}{l:List Oper}(p pl pin:List Nat)(hc:(sS l.length p && (p.length == l.length && Of pl sD (fun f => !Ym.contains f) gZ tab l.toArray p (Array.replicate l.length false)))=true)
 (h:∀ K:List V→aA→Prop,(∀ T H,Q .normal T H→K T H)→jP (Eg g) (FW (Eg g)) l.toArray pin (tE (fM K Q)) (pkP l pl p) T H):FW (Eg g) (.region id l.toArray true) Q T H:=by
 rw[Bool.and_eq_true]at hc;refine FW.last fun K hK=>FW.drawnP (xA g) p pl pin hc.2 ?_;rw[Eh l pl p (by simpa[sS]using hc.1)];exact h K hK
theorem ct {x:Operand}{p q y:Code}(ht:ev T x = .bool true)(h:∀ K:List V→aA→Prop,(∀ T H,FW (Eg g) y Q T H→K T H)→FW (Eg g) p (fM K Q) T H):FW (Eg g) (.seq (.cond x p q) y) Q T H:=aF fun K hK=>aB ht (h K hK)
theorem cf {x:Operand}{p q y:Code}(ht:ev T x = .bool false)(h:∀ K:List V→aA→Prop,(∀ T H,FW (Eg g) y Q T H→K T H)→FW (Eg g) q (fM K Q) T H):FW (Eg g) (.seq (.cond x p q) y) Q T H:=aF fun K hK=>aD ht (h K hK)
theorem bl {id:Nat}{c y:Code}(h:∀ K:List V→aA→Prop,(∀ T H,FW (Eg g) y Q T H→K T H)→FW (Eg g) c (nB id (fM K Q)) T H):FW (Eg g) (.seq (.block id c) y) Q T H:=aF fun K hK=>aT (h K hK)
end
theorem td {g:Gl}{Q:Ex→List V→aA→Prop}{T:List V}{H:aA}{id:Nat}{l:List Oper}{y:Code}(J:aA→Prop)(t:OT)(pl:List Nat)(hc:(Dt pl sD (fun f => !Ym.contains f) gZ tab l.toArray && (t.len == l.length && xT pl sD (fun f => !Ym.contains f) gZ tab l.toArray t (Array.replicate l.length false)))=true)
 (h:∀ K:List V→aA→Prop,(∀ T H,FW (Eg g) y Q T H→K T H)→kK (Eg g) (FW (Eg g)) l pl J (tE (fM K Q)) t T H):FW (Eg g) (.seq (.region id l.toArray true) y) Q T H:=
 aF fun K hK=>FW.drawnT (xA g) J t pl hc (h K hK)
theorem tl {g:Gl}{Q:Ex→List V→aA→Prop}{T:List V}{H:aA}{id:Nat}{l:List Oper}(J:aA→Prop)(t:OT)(pl:List Nat)(hc:(Dt pl sD (fun f => !Ym.contains f) gZ tab l.toArray && (t.len == l.length && xT pl sD (fun f => !Ym.contains f) gZ tab l.toArray t (Array.replicate l.length false)))=true)
 (h:∀ K:List V→aA→Prop,(∀ T H,Q .normal T H→K T H)→kK (Eg g) (FW (Eg g)) l pl J (tE (fM K Q)) t T H):FW (Eg g) (.region id l.toArray true) Q T H:=
 FW.last fun K hK=>FW.drawnT (xA g) J t pl hc (h K hK)
theorem gV {g:Gl}(f:FuncId)(h:sD f=false∧gZ f=none∧Ym.contains f=true)(d:Option Tmp)(x:Array Operand)(y:Array TypeId)(ty:TypeId)(p:String)(af:Array Edge)(gu:Option (Nat×Bool)):isS (Eg g) ⟨d,.call ⟨.value (.func f),x,y⟩,ty,p,af,gu⟩=true:=by
 simp only[isS,eU,h.1,h.2.1,h.2.2];rfl
theorem lQ {g:Gl}(f:FuncId)(h:sD f=false∧Ym.contains f=false)(d:Option Tmp)(x:Array Operand)(y:Array TypeId)(ty:TypeId)(p:String)(af:Array Edge)(gu:Option (Nat×Bool)):isS (Eg g) ⟨d,.call ⟨.value (.func f),x,y⟩,ty,p,af,gu⟩=false:=by
 simp only[isS,eU,h.1,h.2];cases gZ f<;>rfl
theorem aFj {tab:cR}{J:aA→Prop}{ops:Array Oper}{d:Option Tmp}{t:TypeId}{x:Operand}{ty:TypeId}{p:String}{af:Array Edge}{T:List V}{H:aA}{gu:Option (Nat×Bool)}{b i j:Nat}{v:V}(h1:ev T x = .ptr b i j)(h3:Iz (tab t) (hb H b) i j=some v)(hJ:∀ H',J H'→hb H' b=hb H b) :
 nZ tab J true ops ⟨d,.load t x,ty,p,af,gu⟩ T H:=fun _ _=>⟨v,by
 show FO.of (rJ tab H t (ev T x)) H=_;rw[h1,qB,h3];rfl,fun H' hH=>by
 show FO.of (rJ tab H' t (ev T x)) H'=_;rw[h1,qB,hJ H' hH,h3];rfl⟩
theorem WM:(∀ A y C l,hb (hp A y C l) A.length=some y)∧(∀ A y C l,hb (hp A y C l) (nn A C)=hb l 0)∧(∀ A y C l k,hb (hp A y C l) (nn A C+k)=hb l k)∧(∀ A y C l,(hp A y C l).length=nn A C+l.length)∧(∀ A y C l m,hp A y C l++m=hp A y C (l++m))∧
 (∀ A y z C l,(hp A y C l).set A.length z=hp A z C l)∧(∀ A y z C l,(hp A y C l).set (nn A C) z=hp A y C (l.set 0 z))∧(∀ A y z C l k,(hp A y C l).set (nn A C+k) z=hp A y C (l.set k z)):=
 ⟨Su,fun A y C l=>Th A y C l 0,Th,Uh,aGl,Ru,fun A y z C l=>Xa A y z C l 0,Xa⟩
def Pd (s:Nat):List V→List (Nat×V)→Option (List V)
 | cs,[]=>some cs
 | cs,(i,v)::r=>if v.fit=true∧v.cells.length=s∧i*s+s≤cs.length then Pd s (sC cs (i*s) v.cells) r else none
theorem Vj (s:Nat):∀(ps:List (Nat×V))(cs:List V),eF (fun i=>some (i*s,s)) cs ps=Pd s cs ps
 | [],cs=>rfl
 | (i,v)::r,cs=>by
  simp only[eF,Pd];split
  ·exact Vj s r _
  ·rfl
theorem Cx (tab:cR)(H:aA)(z:V)(ps:List (Nat×V))(n:Nat)(e:TypeId):Sf tab H z ps (.arr n e)=if(tab e).known=true then Po H (Pd (tab e).size z.cells ps)else .stuck:=by
 simp only[Sf,Vj];cases (tab e).known<;>rfl
def ixS (H:aA):Option UInt8→FO|some c => .val (.int .u8 c.toNat) H|none => .stuck
def ixD (tab:cR)(H:aA):TD→V→V→FO
 | .str,.str s,.int _ k=>if 0≤k then ixS H s[k.toNat]? else .stuck
 | .arr n e,.agg cs,.int _ k=>if 0≤k∧k < n then .of (Fa (tab e) cs (k.toNat*(tab e).size)) H else .stuck
 | _,_,_ => .stuck
theorem Qn (tab:cR)(T:List V)(H:aA)(t:TypeId)(x i:Operand):bQ tab T H (.index t x i)=ixD tab H (tab t).desc (ev T x) (ev T i):=by
 simp only[bQ];cases (tab t).desc<;>cases ev T x<;>cases ev T i<;>try rfl
theorem WZ:(∀ tab H z ps n e,Sf tab H z ps (.arr n e)=if(tab e).known=true then Po H (Pd (tab e).size z.cells ps)else .stuck)∧(∀ s cs,Pd s cs []=some cs)∧(∀ s cs i v r,Pd s cs ((i,v)::r)=if v.fit=true∧v.cells.length=s∧i*s+s≤cs.length then Pd s (sC cs (i*s) v.cells) r else none)∧
 (∀ tab T H t x i,bQ tab T H (.index t x i)=ixD tab H (tab t).desc (ev T x) (ev T i))∧(∀ tab H s k n,ixD tab H .str (.str s) (.int k n)=if 0≤n then ixS H s[n.toNat]? else .stuck)∧(∀ tab H n e cs k i,ixD tab H (.arr n e) (.agg cs) (.int k i)=if 0≤i∧i < n then .of (Fa (tab e) cs (i.toNat*(tab e).size)) H else .stuck)∧(∀ H c,ixS H (some c) = .val (.int .u8 c.toNat) H):=
 ⟨Cx,fun _ _=>rfl,fun _ _ _ _ _=>rfl,Qn,fun _ _ _ _ _=>rfl,fun _ _ _ _ _ _ _=>rfl,fun _ _=>rfl⟩
def WW:=And.intro aUx <| And.intro W0 <| And.intro W1 <| And.intro W2 <| And.intro W3 <| And.intro W4 <| And.intro W5 <| And.intro W6 <| And.intro W7 <| And.intro W8 <| And.intro W9 <| And.intro WA <| And.intro WB <| And.intro WC <| And.intro WE <| And.intro WF <| And.intro WI <| And.intro WK <| And.intro WM <| And.intro WP <| And.intro WQ <| And.intro WR <| And.intro WS <| And.intro WT <| And.intro WTS <| And.intro WX <| And.intro WZ <|
 And.intro Mn <| And.intro Ln <| And.intro aFg <| And.intro Nh <| And.intro (@aL) <| And.intro aO <| And.intro Fm <| And.intro aFx <| And.intro Vz <| And.intro aGq <| And.intro aGp <| And.intro Rz <| And.intro vO <| And.intro Av <| And.intro aGo <| And.intro Sz <| And.intro Je <| And.intro Tz <| And.intro Uz <| And.intro aMl <| And.intro aGr <| And.intro (@fP) <| And.intro aM <| And.intro bF aI
theorem aQs:(∀{α:Sort 1}{h:Decidable True}(a b:α),(@ite α True h a b)=a)∧(∀{α:Sort 1}{h:Decidable False}(a b:α),(@ite α False h a b)=b):=⟨fun a b=>if_pos trivial,fun a b=>if_neg id⟩
theorem WLc:(∀(a b:Nat)(l:List Nat),(b::l).contains a=(a == b || l.contains a))∧(∀ a:Nat,([]:List Nat).contains a=false):=⟨fun _ _ _=>List.contains_cons,fun _=>rfl⟩
theorem WN:(∀ s,aQ s []=true)∧(∀ s e l,aQ s (e::l)=(e.cells.length == s && aQ s l))∧(∀ n:Nat,(n≤n)=True)∧(∀ n:Int,(n≤n)=True)∧(∀{α:Type}(e:α→V)(l:List α),(l.map e).take l.length=l.map e)∧(∀{α:Type}(e:α→V)(l:List α) m,xP (l.map e++m) l.length=xP m 0)∧(∀{α:Type}(e:α→V)(l:List α) m x,(l.map e++m).set l.length x=l.map e++m.set 0 x)∧(∀ a:Int,(a == a)=true)∧(∀ a:Nat,(a == a)=true)∧(∀ n:Nat,(0≤(n:Int))=True)∧(∀ n:Nat,Int.toNat (n:Int)=n)∧(∀ n:Nat,((n:Int) < ((n+1:Nat):Int))=True)∧(∀ n:Nat,((n:Int) < (n:Int)+1)=True)∧(∀{α:Type}(e:α→V)(l:List α) i,xP (l.map e) i=(l[i]?).map e):=
 ⟨fun _=>rfl,fun s e l=>by simp[aQ],fun n=>by simp,fun n=>by simp,fun e l=>by rw[List.take_of_length_le (by simp)],fun e l m=>by unfold xP;rw[List.getElem?_append_right (by simp)];simp,fun e l m x=>by simp[List.set_append],fun a=>by simp,fun a=>by simp,fun n=>by simp,fun n=>by simp,fun n=>by simp;omega,fun n=>by simp;omega,qJ⟩
def WL:=And.intro @WN <| And.intro Bool.true_and <| And.intro Bool.and_true <| And.intro Bool.false_and <| And.intro Bool.and_false <| And.intro Bool.true_or <| And.intro Bool.or_true <| And.intro Bool.false_or <| And.intro Bool.or_false <| And.intro Bool.not_true <| And.intro Bool.not_false <| And.intro @aQs <| And.intro true_and <| And.intro and_true <| And.intro and_self <| And.intro (@eq_self.{1}) <| And.intro (@List.length_nil.{0}) <| And.intro (@List.length_cons.{0}) <| And.intro (@List.cons_append.{0}) <| And.intro (@List.nil_append.{0}) <| And.intro Bool.false_eq_true <| And.intro WLc <| And.intro Nat.zero_add <| And.intro Nat.add_zero <| And.intro (@List.map_nil.{0,0}) <| And.intro (@List.map_cons.{0,0}) <| And.intro (@List.length_map.{0,0}) <| And.intro (@List.set_cons_zero.{0}) <| And.intro (@List.set_cons_succ.{0}) <| And.intro (@List.drop_succ_cons.{0}) <| And.intro (@List.drop_zero.{0}) <| And.intro (@List.take_succ_cons.{0}) <| And.intro (@List.take_zero.{0}) <| And.intro (@List.append_nil.{0}) (@List.set_set.{0})
def TT:=And.intro aIg <| And.intro aIf <| And.intro aIe <| And.intro aId <| And.intro aCs <| And.intro aCr <| And.intro Sq <| And.intro aCq <| And.intro aCp <| And.intro aCo <| And.intro aCn <| And.intro aCm <| And.intro aCl <| And.intro aCk <| And.intro Sp <| And.intro aCj <| And.intro Pp <| And.intro Np <| And.intro Lp <| And.intro aCi <| And.intro aCh <| And.intro aCg <| And.intro aCf <| And.intro aCe <| And.intro aCd <| And.intro aCc <| And.intro aCb <| And.intro aCa <| And.intro aBz <| And.intro aBy <| And.intro aBx <| And.intro aBw <| And.intro aBv <| And.intro aBu <| And.intro Fs <| And.intro Es <| And.intro Ds <| And.intro Cs <| And.intro As <| And.intro Zr <| And.intro Yr <| And.intro Xr <| And.intro Wr <| And.intro Vr <| And.intro Ur <| And.intro Tr <| And.intro Sr <| And.intro Rr <| And.intro Qr <| And.intro Pr <| And.intro Nr <| And.intro Mr <| And.intro Lr <| And.intro Kr <| And.intro Pg <| And.intro Jr <| And.intro Ir <| And.intro Hr <| And.intro Gr <| And.intro Fr <| And.intro Er <| And.intro Dr <| And.intro Cr <| And.intro Ar <| And.intro Zq <| And.intro Og <| And.intro Yq <| And.intro Ng <| And.intro Xq <| And.intro Vq <| And.intro Uq <| And.intro Tq <| And.intro Rq <| And.intro Qq <| And.intro Pq <| And.intro Oq <| And.intro Nq <| And.intro Mq <| And.intro Lq <| And.intro Kq <| And.intro Jq <| And.intro Iq <| And.intro Hq <| And.intro Gq <| And.intro Fq <| And.intro Dq <| And.intro Cq <| And.intro Aq <| And.intro Zp <| And.intro Yp <| And.intro Xp <| And.intro Wp <| And.intro Vp <| And.intro Up <| And.intro Tp <| And.intro Rp <| And.intro Qp Mp
def ZZ:=And.intro WW <| And.intro WL TT
end
section
open Go.Proofs.Tryz
open Go Go.RowKit
variable (g:Gl)
def eK (n a b:Int):Bool:=decide (a≤n) && decide (n≤b)
theorem yK (n a b:Int):PC P0 g 148 [.int .i64 n,.int .i64 a,.int .i64 b] (.ret (.bool (eK n a b))):=by
 refine eC func148 ntmps148 results148 rfl ?_;simp only[ZZ,simprocAttr,i64];refine rg fun K hK=>?_;simp only[ZZ,simprocAttr,i64];apply hK;try clear hK K
 refine rg fun K hK=>?_;by_cases h:a≤n
 ·simp only[ZZ,simprocAttr,i64,h];apply hK;try clear hK K
  apply aC;simp only[ZZ,simprocAttr,i64,eK,h,decide_true,Bool.true_and]
 ·simp only[ZZ,simprocAttr,i64,h];apply hK;try clear hK K
  apply aC;simp only[ZZ,simprocAttr,i64,eK,h,decide_false,Bool.false_and]
def bV (r:Rg):Bool:=eK r.most 1 1024 && eK r.buf.length 1 r.most && eK r.head 0 (r.buf.length - 1) && eK r.many 0 r.buf.length
theorem Qy (r:Rg)(hl:(r.buf.length:Int)≤4294967296):PC P0 g 73 [bG r] (.ret (.bool (bV r))):=by
 refine eC func73 ntmps73 results73 rfl ?_;simp only[ZZ,simprocAttr,i64,bG];refine rg fun K hK=>?_;simp only[ZZ,simprocAttr,i64,bG];apply hK;try clear hK K
 refine rg fun K hK=>?_;simp only[ZZ,simprocAttr,i64,bG];apply hK;try clear hK K
 refine rg fun K hK=>?_;simp only[ZZ,simprocAttr,i64,bG];refine mt (yK g _ _ _) func148 rfl ⟨⟨rfl,rfl⟩,rfl⟩ rfl ?_;cases h1:eK r.most 1 1024
 ·simp only[ZZ,simprocAttr,i64,bG];apply hK;try clear hK K
  apply aC;simp only[ZZ,simprocAttr,i64,bG,bV,h1,Bool.false_and]
 simp only[ZZ,simprocAttr,i64,bG];refine mt (yK g _ _ _) func148 rfl ⟨⟨rfl,rfl⟩,rfl⟩ rfl ?_;cases h2:eK r.buf.length 1 r.most
 ·simp only[ZZ,simprocAttr,i64,bG];apply hK;try clear hK K
  apply aC;simp only[ZZ,simprocAttr,i64,bG,bV,h1,h2,Bool.false_and,Bool.true_and]
 simp only[ZZ,simprocAttr,i64,bG];rw[IntWalk.i64_in _ (by omega)];refine mt (yK g _ _ _) func148 rfl ⟨⟨rfl,rfl⟩,rfl⟩ rfl ?_;cases h3:eK r.head 0 (r.buf.length - 1)
 ·simp only[ZZ,simprocAttr,i64,bG];apply hK;try clear hK K
  apply aC;simp only[ZZ,simprocAttr,i64,bG,bV,h1,h2,h3,Bool.false_and,Bool.true_and]
 simp only[ZZ,simprocAttr,i64,bG];refine mt (yK g _ _ _) func148 rfl ⟨⟨rfl,rfl⟩,rfl⟩ rfl ?_;simp only[ZZ,simprocAttr,i64,bG];apply hK;try clear hK K
 apply aC;simp only[ZZ,simprocAttr,i64,bG,bV,h1,h2,h3,Bool.true_and]
theorem Oj (r:Rg)(i:Int)(hl:0 < r.buf.length)(h1:0≤r.head)(h2:r.head≤4294967296)(h3:0≤i)(h4:i≤4294967296):PC P0 g 149 [bG r,.int .i64 i] (.ret (.int .i64 ((r.head+i) % r.buf.length))):=by
 have hne:¬((r.buf.length:Int)=0):=by omega
 refine eC func149 ntmps149 results149 rfl ?_;simp only[ZZ,simprocAttr,i64,bG];refine rg fun K hK=>?_;simp only[ZZ,simprocAttr,i64,bG];apply hK;refine rg fun K hK=>?_;simp only[ZZ,simprocAttr,i64,bG,hne,IntWalk.i64_in (r.head+i) (by omega),Int.tmod_eq_emod_of_nonneg (show 0≤r.head+i by omega)];apply hK;apply aC;simp only[ZZ,simprocAttr,i64,bG]
def cH (r:Rg)(i:Nat):Nat:=((r.head+i) % (r.buf.length:Int)).toNat
def cX (r:Rg)(i:Nat):Rf:=r.buf.getD (cH r i) ⟨0,0⟩
def aX (r:Rg):List Rf:=(List.range r.many.toNat).map (cX r)
def part (r:Rg)(m k:Nat):List Rf:=(List.range m).map fun i=>if i < k then cX r i else⟨0,0⟩
theorem Kt (r:Rg)(m k:Nat)(hk:k < m):(part r m k).set k (cX r k)=part r m (k+1):=by
 apply List.ext_getElem?;intro i;simp only[part,List.getElem?_set,List.getElem?_map,List.length_map,List.length_range];by_cases hi:k=i
 ·subst hi;simp[hk]
 ·rw[if_neg hi];by_cases him:i < m
  ·rw[List.getElem?_range him];simp only[Option.map_some];by_cases h1:i < k
   ·rw[if_pos h1,if_pos (by omega)]
   ·rw[if_neg h1,if_neg (by omega)]
  ·rw[List.getElem?_eq_none (by simp;omega)];rfl
theorem cT (r:Rg)(m:Nat):List.replicate m (V.agg [V.int .i64 0,V.int .i64 0])=(part r m 0).map aS:=by
 apply List.ext_getElem?;intro i;simp only[part,List.getElem?_map,List.getElem?_replicate];by_cases hi:i < m
 ·rw[List.getElem?_range hi,if_pos hi];rfl
 ·rw[if_neg hi,List.getElem?_eq_none (by simp;omega)];rfl
theorem Zc (r:Rg)(m k:Nat)(hk:k < m):(part r m k)[k]?=some ⟨0,0⟩:=by
 simp only[part,List.getElem?_map,List.getElem?_range hk,Option.map_some];simp
theorem uR (r:Rg)(m k:Nat):(part r m k).length=m:=by simp[part]
theorem Lt (r:Rg):part r r.many.toNat r.many.toNat=aX r:=by
 simp only[part,aX];apply List.map_congr_left;intro i hi;rw[if_pos (by simpa using hi)]
theorem jJ (r:Rf):(aS r).cells=[.int .i64 r.at_,.int .i64 r.gen]:=rfl
theorem uN (r:Rg)(i:Nat)(h0:0 < r.buf.length):cH r i < r.buf.length:=by
 have h1:=Int.emod_nonneg (r.head+i) (show(r.buf.length:Int)≠0 by omega);have h2:=Int.emod_lt_of_pos (r.head+i) (show(0:Int) < r.buf.length by omega);unfold cH;omega
theorem vE (r:Rg)(i:Nat)(h0:0 < r.buf.length):r.buf[cH r i]?=some (cX r i):=by
 have:=uN r i h0;rw[cX,List.getD,List.getElem?_eq_getElem this];rfl
theorem mO (r:Rg)(i:Nat)(h0:0 < r.buf.length):0≤(r.head+i) % (r.buf.length:Int):=Int.emod_nonneg _ (by omega)
theorem Re (r:Rg)(m k:Nat)(hk:k < m):(List.map aS (part r m k)).set k (V.agg [V.int .i64 (cX r k).at_,V.int .i64 (cX r k).gen])=List.map aS (part r m (k+1)):=by
 rw[←Kt r m k hk,←zY];rfl
theorem aRy (r:Rg)(hok:bV r=true):PC P0 g 74 [bG r] (.ret (.imm ((aX r).map aS))):=by
 obtain⟨buf,head,many,most⟩:=r;simp only[bV,eK,Bool.and_eq_true,decide_eq_true_eq]at hok;obtain⟨m,rfl⟩:∃ m:Nat,many=m:=⟨many.toNat,by omega⟩;have hm1:(0:Int)≤m:=by omega
 have hm2:(m:Int)≤1073741824:=by omega
 have hl0:0 < buf.length:=by omega
 have a1:0≤head:=by omega
 have a2:head≤4294967296:=by omega
 refine eC func74 ntmps74 results74 rfl ?_;simp only[ZZ,simprocAttr,i64,bG,hm1,hm2,Int.toNat_natCast,cT ⟨buf,head,m,most⟩,Nat.zero_add,Nat.add_zero];refine rg fun K hK=>?_;simp only[ZZ,simprocAttr,i64,bG,hm1,hm2,Int.toNat_natCast,cT ⟨buf,head,m,most⟩,Nat.zero_add,Nat.add_zero];apply hK;try clear hK K
 refine rg fun K hK=>?_;simp only[ZZ,simprocAttr,i64,bG,hm1,hm2,Int.toNat_natCast,cT ⟨buf,head,m,most⟩,Nat.zero_add,Nat.add_zero];apply hK;try clear hK K
 refine aF fun K1 hK1=>?_;refine rg fun K hK=>?_;simp only[ZZ,simprocAttr,i64,bG,hm1,hm2,Int.toNat_natCast,cT ⟨buf,head,m,most⟩,Nat.zero_add,Nat.add_zero];apply hK;try clear hK K
 refine aT ?_;refine cB (fun n T H=>∃ k:Nat,n=m - k∧k≤m∧T.length=27∧gt T 0=bG ⟨buf,head,m,most⟩∧gt T 1 = .ptr 0 0 0∧gt T 2 = .nils∧gt T 3 = .sl 1 0 m∧gt T 10 = .int .i64 m∧gt T 11 = .int .i64 k∧H=[.row 4 [bG ⟨buf,head,m,most⟩] false,.row 2 ((part ⟨buf,head,m,most⟩ m k).map aS) false]) (n:=m) ⟨0,rfl,by omega,rfl,rfl,rfl,rfl,rfl,rfl,rfl,rfl⟩ ?_;rintro n T H ⟨k,rfl,hk,hT,h0,h1,h2,h3,h10,h11,rfl⟩;rw[eW 27 T hT];simp only[show List.range 27=[0,1,2,3,4,5,6,7,8,9,10,11,12,13,14,15,16,17,18,19,20,21,22,23,24,25,26]from rfl,List.map_cons,List.map_nil,h0,h1,h2,h3,h10,h11];by_cases hkm:(k:Int) < m
 ·have hkn:k < m:=by omega
  have hk0:(0:Int)≤k:=by omega
  have hp:=mO ⟨buf,head,m,most⟩ k hl0;have hg:=vE ⟨buf,head,m,most⟩ k hl0;have hf:=Re ⟨buf,head,m,most⟩ m k hkn;simp only[cH]at hp hg;refine rg fun K hK=>?_;simp only[ZZ,simprocAttr,i64,bG,hm1,hm2,Int.toNat_natCast,cT ⟨buf,head,m,most⟩,Nat.zero_add,Nat.add_zero,hkm];apply hK;try clear hK K
  refine ct rfl fun K hK=>?_;apply aH;simp only[WX];apply hK;try clear hK K
  refine bl fun K hK=>?_;refine rg fun K hK=>?_;simp only[ZZ,simprocAttr,i64,bG,hm1,hm2,Int.toNat_natCast,cT ⟨buf,head,m,most⟩,Nat.zero_add,Nat.add_zero];apply hK;try clear hK K
  refine dl [0,1,2,3,6,4,5,7,8,9,10,11] (by kernel_rfl) fun K2 hK2=>?_;simp only[ZZ,simprocAttr,i64,bG,hm1,hm2,Int.toNat_natCast,cT ⟨buf,head,m,most⟩,Nat.zero_add,Nat.add_zero];refine mt (Oj g ⟨buf,head,m,most⟩ k hl0 a1 a2 hk0 (by omega)) func149 rfl ⟨⟨rfl,rfl⟩,rfl⟩ rfl ?_;simp only[ZZ,simprocAttr,i64,bG,hm1,hm2,Int.toNat_natCast,cT ⟨buf,head,m,most⟩,Nat.zero_add,Nat.add_zero,hp,hg,List.getElem?_map,Option.map_some,jJ,hk0,hkm,qJ,Zc _ m k hkn,aIl,hf];apply hK2;try simp only[WX]
  apply hK;try clear hK K
  refine rl fun K hK=>?_;simp only[ZZ,simprocAttr,i64,bG,hm1,hm2,Int.toNat_natCast,cT ⟨buf,head,m,most⟩,Nat.zero_add,Nat.add_zero,IntWalk.i64_in (k+1) (by omega)];apply hK;try clear hK K
  try simp only[WX]
  refine⟨m - (k+1),by omega,k+1,rfl,by omega,rfl,rfl,rfl,rfl,rfl,rfl,rfl,rfl⟩
 ·refine rg fun K hK=>?_;simp only[ZZ,simprocAttr,i64,bG,hm1,hm2,Int.toNat_natCast,cT ⟨buf,head,m,most⟩,Nat.zero_add,Nat.add_zero,hkm];apply hK;try clear hK K
  refine cf rfl fun K hK=>?_;apply bZ;simp only[WX,if_true];apply hK1;refine rg fun K hK=>?_;simp only[ZZ,simprocAttr,i64,bG,hm1,hm2,Int.toNat_natCast,cT ⟨buf,head,m,most⟩,Nat.zero_add,Nat.add_zero];apply hK;try clear hK K
  obtain rfl:m=k:=by omega
  have hpa:=Lt ⟨buf,head,m,most⟩;simp only[Int.toNat_natCast]at hpa;have hpl:=uR ⟨buf,head,m,most⟩ m m;rw[hpa]at hpl;apply aC;simp only[ZZ,simprocAttr,i64,bG,hm1,hm2,Int.toNat_natCast,cT ⟨buf,head,m,most⟩,Nat.zero_add,Nat.add_zero,hpa,hpl]
theorem gT (r:Rg)(h:bV r=true):1≤r.most∧r.most≤1024∧1≤r.buf.length∧(r.buf.length:Int)≤r.most∧0≤r.head∧r.head < r.buf.length∧0≤r.many∧r.many≤r.buf.length:=by
 simp only[bV,eK,Bool.and_eq_true,decide_eq_true_eq]at h;omega
def pO (room most:Int):Rg:=⟨List.replicate room.toNat ⟨0,0⟩,0,0,most⟩
theorem gR (n:Nat):List.replicate n (V.agg [V.int .i64 0,V.int .i64 0])=(List.replicate n (⟨0,0⟩:Rf)).map aS:=by rw[List.map_replicate];rfl
theorem aKh (room most:Int):PC P0 g 165 [.int .i64 room,.int .i64 most] (.ret (.tup (if eK most 1 1024 && eK room 1 most then [bG (pO room most),.bool true]else [.agg [.nils,i64 0,i64 0,i64 0],.bool false]))):=by
 refine eC func165 ntmps165 results165 rfl ?_;simp only[ZZ,simprocAttr,i64,gR];refine rg fun K hK=>?_;simp only[ZZ,simprocAttr,i64,gR];apply hK;try clear hK K
 refine aF fun K1 hK1=>?_;refine rg fun K hK=>?_;simp only[ZZ,simprocAttr,i64,gR];refine mt (yK g _ _ _) func148 rfl ⟨⟨rfl,rfl⟩,rfl⟩ rfl ?_;cases h1:eK most 1 1024
 ·simp only[ZZ,simprocAttr,i64,gR];apply hK;try clear hK K
  apply aB rfl;refine rg fun K hK=>?_;simp only[ZZ,simprocAttr,i64,gR];apply hK;try clear hK K
  apply aC;simp only[ZZ,simprocAttr,i64,gR,h1]
 simp only[ZZ,simprocAttr,i64,gR];refine mt (yK g _ _ _) func148 rfl ⟨⟨rfl,rfl⟩,rfl⟩ rfl ?_;cases h2:eK room 1 most
 ·simp only[ZZ,simprocAttr,i64,gR];apply hK;try clear hK K
  apply aB rfl;refine rg fun K hK=>?_;simp only[ZZ,simprocAttr,i64,gR];apply hK;try clear hK K
  apply aC;simp only[ZZ,simprocAttr,i64,gR,h1,h2]
 ·simp only[ZZ,simprocAttr,i64,gR];apply hK;try clear hK K
  apply aD rfl;apply aH;simp only[WX];apply hK1;have g1:=h1;have g2:=h2;simp only[eK,Bool.and_eq_true,decide_eq_true_eq]at h1 h2;have a1:0≤room:=by omega
  have a2:room≤1073741824:=by omega
  refine rg fun K hK=>?_;simp only[ZZ,simprocAttr,i64,gR,a1,a2];apply hK;try clear hK K
  apply aC;simp only[ZZ,simprocAttr,i64,gR,List.length_replicate,bG,pO,g1,g2]
def kS (r:Rg):Rg×Rf×Bool:=if bV r && !decide (r.many=0)then({r with many:=r.many - 1},cX r (r.many.toNat - 1),true)else(r,⟨0,0⟩,false)
def xQ (x:Rg×Rf×Bool):V:=.tup [bG x.1,aS x.2.1,.bool x.2.2]
theorem aKf (r:Rg)(hl:(r.buf.length:Int)≤4294967296):PC P0 g 170 [bG r] (.ret (xQ (kS r))):=by
 obtain⟨buf,head,many,most⟩:=r;refine eC func170 ntmps170 results170 rfl ?_;simp only[ZZ,simprocAttr,i64,bG];refine rg fun K hK=>?_;simp only[ZZ,simprocAttr,i64,bG];apply hK;try clear hK K
 refine aF fun K1 hK1=>?_;refine rg fun K hK=>?_;simp only[ZZ,simprocAttr,i64,bG];refine mt (Qy g ⟨buf,head,many,most⟩ hl) func73 rfl ⟨⟨rfl,rfl⟩,rfl⟩ rfl ?_;cases h1:bV ⟨buf,head,many,most⟩
 ·simp only[ZZ,simprocAttr,i64,bG];apply hK;try clear hK K
  apply aB rfl;refine rg fun K hK=>?_;simp only[ZZ,simprocAttr,i64,bG];apply hK;try clear hK K
  apply aC;simp only[ZZ,simprocAttr,i64,bG,xQ,kS,h1,bG,aS]
 by_cases h2:many=0
 ·have h2':(many == 0)=true:=by simp[h2]
  simp only[ZZ,simprocAttr,i64,bG,h2'];apply hK;try clear hK K
  apply aB rfl;refine rg fun K hK=>?_;simp only[ZZ,simprocAttr,i64,bG];apply hK;try clear hK K
  apply aC;simp only[ZZ,simprocAttr,i64,bG,xQ,kS,h1,bG,aS,h2]
 have h2':(many == 0)=false:=by simp[h2]
 have hm:=gT _ h1;simp only at hm;simp only[ZZ,simprocAttr,i64,bG,h2'];apply hK;try clear hK K
 apply aD rfl;apply aH;simp only[WX];apply hK1;have a1:(0:Int)≤many - 1:=by omega
 obtain⟨k,hk⟩:∃ k:Nat,many - 1=k:=⟨(many - 1).toNat,by omega⟩;refine rg fun K hK=>?_;simp only[ZZ,simprocAttr,i64,bG,IntWalk.i64_in (many - 1) (by omega)];apply hK;try clear hK K
 refine pr [1,5,0,2,3,4,6,7,8,9,10,11,12] [2,9] [0] (by kernel_rfl) fun K hK=>?_;simp only[ZZ,simprocAttr,i64,bG,hk,fL];refine mt (Oj g ⟨buf,head,k,most⟩ k (by dsimp only;omega) (by dsimp only;omega) (by dsimp only;omega) (by omega) (by omega)) func149 rfl ⟨⟨rfl,rfl⟩,rfl⟩ rfl ?_;have hp:=mO ⟨buf,head,k,most⟩ k (by dsimp only;omega);have hg:=vE ⟨buf,head,k,most⟩ k (by dsimp only;omega);simp only[cH]at hp hg;simp only[ZZ,simprocAttr,i64,bG,W0,hp,hg,List.getElem?_map,Option.map_some,jJ,fL];apply hK;try clear hK K
 apply aC;simp only[ZZ,simprocAttr,i64,bG,xQ,kS,h1,bG,aS,h2,hk,show many.toNat - 1=k by omega];rfl
def iS (r:Rg):Rg:={r with head:=(r.head+1) % (r.buf.length:Int),many:=r.many - 1}
theorem aGc (r:Rg)(h:0≤r.head)(h1:r.head < r.buf.length):r.buf[r.head.toNat]?=some (cX r 0):=by
 have:=vE r 0 (by omega)
 rwa [show cH r 0=r.head.toNat by unfold cH;rw[show((0:Nat):Int)=0 from rfl,Int.add_zero,Int.emod_eq_of_lt h h1]]at this
theorem aDb (r:Rg)(h0:0≤r.head)(h1:r.head < r.buf.length)(h2:(r.buf.length:Int)≤1024)(h3:1≤r.many)(h4:r.many≤1024):PC P0 g 283 [bG r] (.ret (.tup [bG (iS r),aS (cX r 0)])):=by
 obtain⟨buf,head,many,most⟩:=r;simp only at h0 h1 h2 h3 h4;have hi:=aGc ⟨buf,head,many,most⟩ h0 h1;simp only at hi;refine eC func283 ntmps283 results283 rfl ?_;simp only[ZZ,simprocAttr,i64,bG];refine rg fun K hK=>?_;simp only[ZZ,simprocAttr,i64,bG];apply hK;refine rg fun K hK=>?_;simp only[ZZ,simprocAttr,i64,bG,h0,hi,List.getElem?_map,Option.map_some,jJ];apply hK;refine rg fun K hK=>?_;simp only[ZZ,simprocAttr,i64,bG];refine mt (Oj g ⟨buf,head,many,most⟩ 1 (by dsimp only;omega) h0 (by dsimp only;omega) (by omega) (by omega)) func149 rfl ⟨⟨rfl,rfl⟩,rfl⟩ rfl ?_;simp only[ZZ,simprocAttr,i64,bG];apply hK;refine rg fun K hK=>?_;simp only[ZZ,simprocAttr,i64,bG,IntWalk.i64_in (many - 1) (by omega)];apply hK;refine pr [0,1,2,3] [1] [3] (by kernel_rfl) fun K hK=>?_;simp only[ZZ,simprocAttr,i64,bG,fL];apply hK;apply aC;simp only[ZZ,simprocAttr,i64,bG,bG,aS,iS]
def lD (r:Rg):Rg×Rf×Bool:=if bV r && !decide (r.many=0)then(iS r,cX r 0,true)else(r,⟨0,0⟩,false)
theorem aJv (r:Rg)(hl:(r.buf.length:Int)≤4294967296):PC P0 g 237 [bG r] (.ret (xQ (lD r))):=by
 obtain⟨buf,head,many,most⟩:=r;refine eC func237 ntmps237 results237 rfl ?_;simp only[ZZ,simprocAttr,i64,bG];refine rg fun K hK=>?_;simp only[ZZ,simprocAttr,i64,bG];apply hK;try clear hK K
 refine aF fun K1 hK1=>?_;refine rg fun K hK=>?_;simp only[ZZ,simprocAttr,i64,bG];refine mt (Qy g ⟨buf,head,many,most⟩ hl) func73 rfl ⟨⟨rfl,rfl⟩,rfl⟩ rfl ?_;cases h1:bV ⟨buf,head,many,most⟩
 ·simp only[ZZ,simprocAttr,i64,bG];apply hK;try clear hK K
  apply aB rfl;refine rg fun K hK=>?_;simp only[ZZ,simprocAttr,i64,bG];apply hK;try clear hK K
  apply aC;simp only[ZZ,simprocAttr,i64,bG,xQ,lD,h1,bG,aS]
 by_cases h2:many=0
 ·have h2':(many == 0)=true:=by simp[h2]
  simp only[ZZ,simprocAttr,i64,bG,h2'];apply hK;try clear hK K
  apply aB rfl;refine rg fun K hK=>?_;simp only[ZZ,simprocAttr,i64,bG];apply hK;try clear hK K
  apply aC;simp only[ZZ,simprocAttr,i64,bG,xQ,lD,h1,bG,aS,h2]
 have h2':(many == 0)=false:=by simp[h2]
 have hm:=gT _ h1;simp only at hm;simp only[ZZ,simprocAttr,i64,bG,h2'];apply hK;try clear hK K
 apply aD rfl;apply aH;simp only[WX];apply hK1;refine rg fun K hK=>?_;simp only[ZZ,simprocAttr,i64,bG];refine mt (aDb g ⟨buf,head,many,most⟩ (by dsimp only;omega) (by dsimp only;omega) (by dsimp only;omega) (by dsimp only;omega) (by dsimp only;omega)) func283 rfl ⟨⟨rfl,rfl⟩,rfl⟩ rfl ?_;simp only[ZZ,simprocAttr,i64,bG,aS,iS];apply hK;try clear hK K
 refine pr [0,1,2,3,4,5] [2] [4] (by kernel_rfl) fun K hK=>?_;simp only[ZZ,simprocAttr,i64,bG,fL];apply hK;try clear hK K
 apply aC;simp only[ZZ,simprocAttr,i64,bG,xQ,lD,h1,bG,aS,h2,iS]
def eP (r:Rg)(k:Nat):Rg:={r with head:=(r.head+k) % (r.buf.length:Int),many:=r.many - k}
theorem Js (r:Rg)(h:0≤r.head)(h1:r.head < r.buf.length):eP r 0=r:=by
 obtain⟨buf,head,many,most⟩:=r;simp only at h h1;simp only[eP,Rg.mk.injEq,true_and,and_true];exact⟨by rw[show((0:Nat):Int)=0 from rfl,Int.add_zero,Int.emod_eq_of_lt h h1],by omega⟩
theorem Hs (r:Rg)(k:Nat):iS (eP r k)=eP r (k+1):=by
 simp only[iS,eP,Rg.mk.injEq,true_and,and_true];refine⟨?_,by omega⟩;rw[Int.emod_add_emod,Int.add_assoc];rfl
theorem Is (r:Rg)(k:Nat):cX (eP r k) 0=cX r k:=by
 simp only[cX,cH,eP];rw[show((0:Nat):Int)=0 from rfl,Int.add_zero,Int.emod_emod_of_dvd _ (Int.dvd_refl _)]
def kT (r:Rg):Nat:=((r.many+1) / 2).toNat
def fN (r:Rg):Rg×List Rf:=(eP r (kT r),part r (kT r) (kT r))
theorem aJk (r:Rg)(hl:(r.buf.length:Int)≤4294967296)(hok:bV r=true):PC P0 g 282 [bG r] (.ret (.tup [bG (fN r).1,.imm ((fN r).2.map aS)])):=by
 have hm:=gT _ hok;obtain⟨buf,head,many,most⟩:=r;simp only at hm;obtain⟨m,hmm⟩:∃ m:Nat,(many+1) / 2=m:=⟨((many+1) / 2).toNat,by omega⟩;have hq:IntKind.i64.wrap ((many+1).tdiv 2)=m:=by rw[Int.tdiv_eq_ediv_of_nonneg (by omega),hmm,IntWalk.i64_in _ (by omega)]
 have hh:kT ⟨buf,head,many,most⟩=m:=by simp only[kT,hmm];omega
 have hm1:(0:Int)≤m:=by omega
 have hm2:(m:Int)≤1073741824:=by omega
 have hst0:=Js ⟨buf,head,many,most⟩ (by dsimp only;omega) (by dsimp only;omega);refine eC func282 ntmps282 results282 rfl ?_;simp only[ZZ,simprocAttr,i64,bG,hm1,hm2,Int.toNat_natCast,cT ⟨buf,head,many,most⟩];refine rg fun K hK=>?_;simp only[ZZ,simprocAttr,i64,bG,hm1,hm2,Int.toNat_natCast,cT ⟨buf,head,many,most⟩];apply hK;try clear hK K
 refine aF fun K1 hK1=>?_;refine rg fun K hK=>?_;simp only[ZZ,simprocAttr,i64,bG,hm1,hm2,Int.toNat_natCast,cT ⟨buf,head,many,most⟩];refine mt (Qy g ⟨buf,head,many,most⟩ hl) func73 rfl ⟨⟨rfl,rfl⟩,rfl⟩ rfl ?_;simp only[hok];simp only[ZZ,simprocAttr,i64,bG,hm1,hm2,Int.toNat_natCast,cT ⟨buf,head,many,most⟩];apply hK;try clear hK K
 apply aD rfl;apply aH;simp only[WX];apply hK1;refine rg fun K hK=>?_;simp only[ZZ,simprocAttr,i64,bG,hm1,hm2,Int.toNat_natCast,cT ⟨buf,head,many,most⟩];apply hK;try clear hK K
 refine rg fun K hK=>?_;simp only[ZZ,simprocAttr,i64,bG,hm1,hm2,Int.toNat_natCast,cT ⟨buf,head,many,most⟩,IntWalk.i64_in (many+1) (by omega),hq];apply hK;try clear hK K
 refine aF fun K1 hK1=>?_;refine rg fun K hK=>?_;simp only[ZZ,simprocAttr,i64,bG,hm1,hm2,Int.toNat_natCast,cT ⟨buf,head,many,most⟩];apply hK;try clear hK K
 refine aT ?_;refine cB (fun n T H=>∃ k:Nat,n=m - k∧k≤m∧T.length=35∧gt T 1 = .ptr 0 0 0∧gt T 2 = .ptr 1 0 0∧gt T 3 = .nils∧gt T 4 = .ptr 2 0 0∧gt T 5 = .sl 3 0 m∧gt T 19 = .int .i64 m∧gt T 20 = .int .i64 k∧H=[.row 4 [bG ⟨buf,head,many,most⟩] false,.row 4 [.agg [.nils,i64 0,i64 0,i64 0]] false,.row 4 [bG (eP ⟨buf,head,many,most⟩ k)] false,.row 2 ((part ⟨buf,head,many,most⟩ m k).map aS) false]) (n:=m) ⟨0,rfl,by omega,rfl,rfl,rfl,rfl,rfl,rfl,rfl,rfl,by rw[hst0];rfl⟩ ?_;rintro n T H ⟨k,rfl,hk,hT,h1,h2,h3,h4,h5,h19,h20,rfl⟩;rw[eW 35 T hT];simp only[show List.range 35=[0,1,2,3,4,5,6,7,8,9,10,11,12,13,14,15,16,17,18,19,20,21,22,23,24,25,26,27,28,29,30,31,32,33,34]from rfl,List.map_cons,List.map_nil,h1,h2,h3,h4,h5,h19,h20];by_cases hkm:(k:Int) < m
 ·have hkn:k < m:=by omega
  have hk0:(0:Int)≤k:=by omega
  have hf:=Re ⟨buf,head,many,most⟩ m k hkn;have hs:=Hs ⟨buf,head,many,most⟩ k;have hi:=Is ⟨buf,head,many,most⟩ k;have e1:=Int.emod_nonneg (head+k) (show(buf.length:Int)≠0 by omega);have e2:=Int.emod_lt_of_pos (head+k) (show(0:Int) < buf.length by omega);refine rg fun K hK=>?_;simp only[ZZ,simprocAttr,i64,bG,hm1,hm2,Int.toNat_natCast,cT ⟨buf,head,many,most⟩,hkm];apply hK;try clear hK K
  refine ct rfl fun K hK=>?_;apply aH;simp only[WX];apply hK;try clear hK K
  refine bl fun K hK=>?_;refine rg fun K hK=>?_;simp only[ZZ,simprocAttr,i64,bG,hm1,hm2,Int.toNat_natCast,cT ⟨buf,head,many,most⟩];apply hK;try clear hK K
  refine rl fun K2 hK2=>?_;simp only[ZZ,simprocAttr,i64,bG,hm1,hm2,Int.toNat_natCast,cT ⟨buf,head,many,most⟩];refine mt (aDb g (eP ⟨buf,head,many,most⟩ k) e1 e2 (by simp only[eP];omega) (by simp only[eP];omega) (by simp only[eP];omega)) func283 rfl ⟨⟨rfl,rfl⟩,rfl⟩ rfl ?_;rw[hs,hi];simp only[ZZ,simprocAttr,i64,bG,hm1,hm2,Int.toNat_natCast,cT ⟨buf,head,many,most⟩,hk0,hkm,qJ,Zc _ m k hkn,Option.map_some,jJ,hf,aS];apply hK2;try simp only[WX]
  apply hK;try clear hK K
  refine rl fun K hK=>?_;simp only[ZZ,simprocAttr,i64,bG,hm1,hm2,Int.toNat_natCast,cT ⟨buf,head,many,most⟩,IntWalk.i64_in (k+1) (by omega)];apply hK;try clear hK K
  try simp only[WX]
  refine⟨m - (k+1),by omega,k+1,rfl,by omega,rfl,rfl,rfl,rfl,rfl,rfl,rfl,rfl,rfl⟩
 ·refine rg fun K hK=>?_;simp only[ZZ,simprocAttr,i64,bG,hm1,hm2,Int.toNat_natCast,cT ⟨buf,head,many,most⟩,hkm];apply hK;try clear hK K
  refine cf rfl fun K hK=>?_;apply bZ;simp only[WX,if_true];apply hK1;refine rg fun K hK=>?_;simp only[ZZ,simprocAttr,i64,bG,hm1,hm2,Int.toNat_natCast,cT ⟨buf,head,many,most⟩];apply hK;try clear hK K
  obtain rfl:m=k:=by omega
  have hpl:=uR ⟨buf,head,many,most⟩ m m;apply aC;simp only[ZZ,simprocAttr,i64,bG,hm1,hm2,Int.toNat_natCast,cT ⟨buf,head,many,most⟩,fN,hh,hpl]
end
section
open Go.Proofs.Tryz
open Go Go.RowKit
variable (g:Gl)
theorem Yc (n a b:Int):PC P0 g 152 [.int .i64 n,.int .i64 a,.int .i64 b] (.ret (.bool (eK n a b))):=by
 refine eC func152 ntmps152 results152 rfl ?_;simp only[ZZ,simprocAttr,i64];refine rg fun K hK=>?_;simp only[ZZ,simprocAttr,i64];apply hK;try clear hK K
 refine rg fun K hK=>?_;by_cases h:a≤n
 ·simp only[ZZ,simprocAttr,i64,h];apply hK;try clear hK K
  apply aC;simp only[ZZ,simprocAttr,i64,eK,h,decide_true,Bool.true_and]
 ·simp only[ZZ,simprocAttr,i64,h];apply hK;try clear hK K
  apply aC;simp only[ZZ,simprocAttr,i64,eK,h,decide_false,Bool.false_and]
theorem Mj (n a b:Int):PC P0 g 164 [.int .i64 n,.int .i64 a,.int .i64 b] (.ret (.bool (eK n a b))):=by
 refine eC func164 ntmps164 results164 rfl ?_;simp only[ZZ,simprocAttr,i64];refine rg fun K hK=>?_;simp only[ZZ,simprocAttr,i64];apply hK;try clear hK K
 refine rg fun K hK=>?_;by_cases h:a≤n
 ·simp only[ZZ,simprocAttr,i64,h];apply hK;try clear hK K
  apply aC;simp only[ZZ,simprocAttr,i64,eK,h,decide_true,Bool.true_and]
 ·simp only[ZZ,simprocAttr,i64,h];apply hK;try clear hK K
  apply aC;simp only[ZZ,simprocAttr,i64,eK,h,decide_false,Bool.false_and]
theorem aIw (n a b:Int):PC P0 g 81 [.int .i64 n,.int .i64 a,.int .i64 b] (.ret (.bool (eK n a b))):=by
 refine eC func81 ntmps81 results81 rfl ?_;simp only[ZZ,simprocAttr,i64];refine rg fun K hK=>?_;simp only[ZZ,simprocAttr,i64];apply hK;try clear hK K
 refine rg fun K hK=>?_;by_cases h:a≤n
 ·simp only[ZZ,simprocAttr,i64,h];apply hK;try clear hK K
  apply aC;simp only[ZZ,simprocAttr,i64,eK,h,decide_true,Bool.true_and]
 ·simp only[ZZ,simprocAttr,i64,h];apply hK;try clear hK K
  apply aC;simp only[ZZ,simprocAttr,i64,eK,h,decide_false,Bool.false_and]
def dN:Rf:=⟨-1,0⟩
theorem Im:PC P0 g 87 [] (.ret (aS dN)):=by
 refine eC func87 ntmps87 results87 rfl ?_;simp only[ZZ,simprocAttr,i64];refine rg fun K hK=>?_;simp only[ZZ,simprocAttr,i64];apply hK;refine rg fun K hK=>?_;simp only[ZZ,simprocAttr,i64];apply hK;apply aC;simp only[ZZ,simprocAttr,i64,aS,dN]
theorem It:PC P0 g 163 [] (.ret (aS dN)):=by
 refine eC func163 ntmps163 results163 rfl ?_;simp only[ZZ,simprocAttr,i64];refine rg fun K hK=>?_;simp only[ZZ,simprocAttr,i64];apply hK;refine rg fun K hK=>?_;simp only[ZZ,simprocAttr,i64];apply hK;apply aC;simp only[ZZ,simprocAttr,i64,aS,dN]
theorem aKg:PC P0 g 166 [] (.ret (aS dN)):=by
 refine eC func166 ntmps166 results166 rfl ?_;simp only[ZZ,simprocAttr,i64];refine rg fun K hK=>?_;simp only[ZZ,simprocAttr,i64];apply hK;refine rg fun K hK=>?_;simp only[ZZ,simprocAttr,i64];apply hK;apply aC;simp only[ZZ,simprocAttr,i64,aS,dN]
def bB (n:Int):Int:=(n.tmod 251+251).tmod 251
theorem yJ (n:Int):PC P0 g 203 [.int .i64 n] (.ret (.int .i64 (bB n))):=by
 have h1:=Int.tmod_lt_of_pos n (show(0:Int) < 251 by omega);have h2 : -251 < n.tmod 251:=by have:=Int.tmod_lt_of_pos (-n) (show(0:Int) < 251 by omega);rw[Int.neg_tmod]at this;omega
 refine eC func203 ntmps203 results203 rfl ?_;simp only[ZZ,simprocAttr,i64];refine rg fun K hK=>?_;simp only[ZZ,simprocAttr,i64];apply hK;refine rg fun K hK=>?_;simp only[ZZ,simprocAttr,i64,IntWalk.i64_in (n.tmod 251+251) (by omega)];apply hK;apply aC;simp only[ZZ,simprocAttr,i64,bB]
def Ya (re im:Int):Val:=⟨bB re,bB im⟩
theorem Wc (re im:Int):PC P0 g 293 [.int .i64 re,.int .i64 im] (.ret (eVal (Ya re im))):=by
 refine eC func293 ntmps293 results293 rfl ?_;simp only[ZZ,simprocAttr,i64];refine rg fun K hK=>?_;simp only[ZZ,simprocAttr,i64];apply hK;refine rg fun K hK=>?_;simp only[ZZ,simprocAttr,i64];refine mt (yJ g _) func203 rfl ⟨⟨rfl,rfl⟩,rfl⟩ rfl ?_;simp only[ZZ,simprocAttr,i64];refine mt (yJ g _) func203 rfl ⟨⟨rfl,rfl⟩,rfl⟩ rfl ?_;simp only[ZZ,simprocAttr,i64];apply hK;apply aC;simp only[ZZ,simprocAttr,i64,eVal,Ya]
def xJ (s:Int×Int)(n:Int):Bool:=decide (s.1≤n) && decide (n≤s.2)
def Gb (s:Int×Int):V:=.agg [.int .i64 s.1,.int .i64 s.2]
theorem aDi (s:Int×Int)(n:Int):PC P0 g 222 [Gb s,.int .i64 n] (.ret (.bool (xJ s n))):=by
 refine eC func222 ntmps222 results222 rfl ?_;simp only[ZZ,simprocAttr,i64,Gb];refine rg fun K hK=>?_;simp only[ZZ,simprocAttr,i64,Gb];apply hK;try clear hK K
 refine rg fun K hK=>?_;by_cases h:s.1≤n
 ·simp only[ZZ,simprocAttr,i64,Gb,h];apply hK;try clear hK K
  apply aC;simp only[ZZ,simprocAttr,i64,Gb,xJ,h]
 ·simp only[ZZ,simprocAttr,i64,Gb,h];apply hK;try clear hK K
  apply aC;simp only[ZZ,simprocAttr,i64,Gb,xJ,h]
def gJ (n:Int):(Int×Int)×(Int×Int):=
 if n=0 then((0,250),(0,250))else if n=1∨n=2 then((0,15),(0,0))else if n=10∨n=11 then((0,199),(0,0))else if n=13 then((0,15),(0,7))else if n=14 then((0,7),(0,0))else if n=16 then((16,255),(0,0))else((0,0),(0,0))
theorem aJy (n:Int):PC P0 g 221 [.int .i64 n] (.ret (.tup [Gb (gJ n).1,Gb (gJ n).2])):=by
 refine eC func221 ntmps221 results221 rfl ?_;simp only[ZZ,simprocAttr,i64];refine rg fun K hK=>?_;simp only[ZZ,simprocAttr,i64];apply hK;refine rg fun K hK=>?_;simp only[ZZ,simprocAttr,i64];apply hK;refine aF fun K1 hK1=>?_;refine rg fun K hK=>?_;simp only[ZZ,simprocAttr,i64];apply hK;refine aT ?_;by_cases h0:n=0
 ·have e0:(n == 0)=true:=by simp[h0]
  refine rg fun K hK=>?_;simp only[ZZ,simprocAttr,i64,e0];apply hK;apply aB rfl;refine pr [0,1,2,3] [1] [2] (by kernel_rfl) fun K hK=>?_;simp only[ZZ,simprocAttr,i64,fL];apply hK;apply aC;simp only[ZZ,simprocAttr,i64,Gb,gJ,h0]
 have e0:(n == 0)=false:=by simp[h0]
 refine rg fun K hK=>?_;simp only[ZZ,simprocAttr,i64,e0];apply hK;apply aD rfl;refine aF fun K2 hK2=>?_;by_cases h1:n=1
 ·have e1:(n == 1)=true:=by simp[h1]
  refine rg fun K hK=>?_;simp only[ZZ,simprocAttr,i64,e1];apply hK;apply aB rfl;apply aH;simp only[WX];apply hK2;try clear hK2 K2
  apply aB rfl;refine rg fun K hK=>?_;simp only[ZZ,simprocAttr,i64];apply hK;apply aC;simp only[ZZ,simprocAttr,i64,Gb,gJ,h1,Int.reduceEq,true_or,or_true,if_true,if_false]
 have e1:(n == 1)=false:=by simp[h1]
 refine rg fun K hK=>?_;simp only[ZZ,simprocAttr,i64,e1];apply hK;apply aD rfl;by_cases h2:n=2
 ·have e2:(n == 2)=true:=by simp[h2]
  refine rl fun K hK=>?_;simp only[ZZ,simprocAttr,i64,e2];apply hK;try simp only[WX]
  apply hK2;try clear hK2 K2
  apply aB rfl;refine rg fun K hK=>?_;simp only[ZZ,simprocAttr,i64];apply hK;apply aC;simp only[ZZ,simprocAttr,i64,Gb,gJ,h2,Int.reduceEq,true_or,or_true,if_true,if_false]
 have e2:(n == 2)=false:=by simp[h2]
 refine rl fun K hK=>?_;simp only[ZZ,simprocAttr,i64,e2];apply hK;try simp only[WX]
 apply hK2;try clear hK2 K2
 apply aD rfl;refine aF fun K2 hK2=>?_;by_cases h3:n=10
 ·have e3:(n == 10)=true:=by simp[h3]
  refine rg fun K hK=>?_;simp only[ZZ,simprocAttr,i64,e3];apply hK;apply aB rfl;apply aH;simp only[WX];apply hK2;try clear hK2 K2
  apply aB rfl;refine rg fun K hK=>?_;simp only[ZZ,simprocAttr,i64];apply hK;apply aC;simp only[ZZ,simprocAttr,i64,Gb,gJ,h3,Int.reduceEq,true_or,or_true,or_self,if_true,if_false]
 have e3:(n == 10)=false:=by simp[h3]
 refine rg fun K hK=>?_;simp only[ZZ,simprocAttr,i64,e3];apply hK;apply aD rfl;by_cases h4:n=11
 ·have e4:(n == 11)=true:=by simp[h4]
  refine rl fun K hK=>?_;simp only[ZZ,simprocAttr,i64,e4];apply hK;try simp only[WX]
  apply hK2;try clear hK2 K2
  apply aB rfl;refine rg fun K hK=>?_;simp only[ZZ,simprocAttr,i64];apply hK;apply aC;simp only[ZZ,simprocAttr,i64,Gb,gJ,h4,Int.reduceEq,true_or,or_true,or_self,if_true,if_false]
 have e4:(n == 11)=false:=by simp[h4]
 refine rl fun K hK=>?_;simp only[ZZ,simprocAttr,i64,e4];apply hK;try simp only[WX]
 apply hK2;try clear hK2 K2
 apply aD rfl;by_cases h5:n=13
 ·have e5:(n == 13)=true:=by simp[h5]
  refine rg fun K hK=>?_;simp only[ZZ,simprocAttr,i64,e5];apply hK;apply aB rfl;refine pr [0,1,2,3] [1] [4] (by kernel_rfl) fun K hK=>?_;simp only[ZZ,simprocAttr,i64,fL];apply hK;apply aC;simp only[ZZ,simprocAttr,i64,Gb,gJ,h5,Int.reduceEq,or_self,if_true,if_false]
 have e5:(n == 13)=false:=by simp[h5]
 refine rg fun K hK=>?_;simp only[ZZ,simprocAttr,i64,e5];apply hK;apply aD rfl;by_cases h6:n=14
 ·have e6:(n == 14)=true:=by simp[h6]
  refine rg fun K hK=>?_;simp only[ZZ,simprocAttr,i64,e6];apply hK;apply aB rfl;refine rg fun K hK=>?_;simp only[ZZ,simprocAttr,i64];apply hK;apply aC;simp only[ZZ,simprocAttr,i64,Gb,gJ,h6,Int.reduceEq,or_self,if_true,if_false]
 have e6:(n == 14)=false:=by simp[h6]
 refine rg fun K hK=>?_;simp only[ZZ,simprocAttr,i64,e6];apply hK;apply aD rfl;by_cases h7:n=16
 ·have e7:(n == 16)=true:=by simp[h7]
  refine rg fun K hK=>?_;simp only[ZZ,simprocAttr,i64,e7];apply hK;apply aB rfl;refine rg fun K hK=>?_;simp only[ZZ,simprocAttr,i64];apply hK;apply aC;simp only[ZZ,simprocAttr,i64,Gb,gJ,h7,Int.reduceEq,or_self,if_true,if_false]
 have e7:(n == 16)=false:=by simp[h7]
 refine rg fun K hK=>?_;simp only[ZZ,simprocAttr,i64,e7];apply hK;apply aD rfl;apply aH;simp only[WX];apply hK1;refine rg fun K hK=>?_;simp only[ZZ,simprocAttr,i64];apply hK;apply aC;simp only[ZZ,simprocAttr,i64,Gb,gJ,h0,h1,h2,h3,h4,h5,h6,h7,or_self,if_true,if_false]
def fH (x:Ins):Bool:=decide (0≤x.op) && decide (x.op < 17) && xJ (gJ x.op).1 x.a && xJ (gJ x.op).2 x.b
theorem Nj (x:Ins):PC P0 g 155 [aK x] (.ret (.bool (fH x))):=by
 obtain⟨op,a,b⟩:=x;refine eC func155 ntmps155 results155 rfl ?_;simp only[ZZ,simprocAttr,i64,aK];refine rg fun K hK=>?_;simp only[ZZ,simprocAttr,i64,aK];apply hK;try clear hK K
 refine rg fun K hK=>?_;simp only[ZZ,simprocAttr,i64,aK];refine mt (aJy g _) func221 rfl ⟨⟨rfl,rfl⟩,rfl⟩ rfl ?_;simp only[ZZ,simprocAttr,i64,aK,Gb];apply hK;try clear hK K
 refine rg fun K hK=>?_;by_cases h1:0≤op
 ·by_cases h2:op < 17
  ·simp only[ZZ,simprocAttr,i64,aK,h1,h2];refine mt (aDi g _ _) func222 rfl ⟨⟨rfl,rfl⟩,rfl⟩ rfl ?_;cases h3:xJ (gJ op).1 a
   ·simp only[ZZ,simprocAttr,i64,aK];apply hK;try clear hK K
    apply aC;simp only[ZZ,simprocAttr,i64,aK,fH,h1,h2,h3]
   simp only[ZZ,simprocAttr,i64,aK];refine mt (aDi g _ _) func222 rfl ⟨⟨rfl,rfl⟩,rfl⟩ rfl ?_;simp only[ZZ,simprocAttr,i64,aK];apply hK;try clear hK K
   apply aC;simp only[ZZ,simprocAttr,i64,aK,fH,h1,h2,h3]
  ·simp only[ZZ,simprocAttr,i64,aK,h1,h2];apply hK;try clear hK K
   apply aC;simp only[ZZ,simprocAttr,i64,aK,fH,h1,h2]
 ·simp only[ZZ,simprocAttr,i64,aK,h1];apply hK;try clear hK K
  apply aC;simp only[ZZ,simprocAttr,i64,aK,fH,h1]
end
section
open Go.Proofs.Tryz
open Go Go.RowKit
variable (g:Gl)
def wH {α:Type}(p:α→Bool)(l:List α):Int:=match l.findIdx? p with|some i=>i|none => -1
theorem lU {α:Type}{p:α→Bool}{l:List α}{k:Nat}{x:α}(hx:l[k]?=some x)(hp:p x=true)(hno:∀(i:Nat)(a:α),i < k→l[i]?=some a→p a=false):wH p l=k:=by
 have:l.findIdx? p=some k:=by
  rw[List.findIdx?_eq_some_iff_getElem];obtain⟨h1,h2⟩:=List.getElem?_eq_some_iff.1 hx;refine⟨h1,by rw[h2];exact hp,fun j hj=>?_⟩;have:=hno j _ hj (List.getElem?_eq_getElem (by omega));simp[this]
 rw[wH,this]
theorem nU {α:Type}{p:α→Bool}{l:List α}(hno:∀(i:Nat)(a:α),l[i]?=some a→p a=false):wH p l = -1:=by
 have:l.findIdx? p=none:=by
  rw[List.findIdx?_eq_none_iff];intro x hx;obtain⟨i,hi⟩:=List.mem_iff_getElem?.1 hx;exact hno i x hi
 rw[wH,this]
theorem Fb {α:Type}(p:α→Bool)(l:List α):decide (0≤wH p l)=l.any p:=by
 cases h:l.findIdx? p with
 | some i=>
  rw[wH,h];have:=List.findIdx?_eq_some_iff_getElem.1 h;obtain⟨h1,h2,_⟩:=this;have:l.any p=true:=List.any_eq_true.2 ⟨l[i],List.getElem_mem h1,h2⟩;rw[this];simp
 | none=>
  rw[wH,h];rw[List.findIdx?_eq_none_iff]at h;have:l.any p=false:=by rw[List.any_eq_false];intro x hx;simp[h x hx]
  rw[this];simp
theorem aJz (l:List Ins){f:FuncId}{fn:Func}{c:Code}(hf:P0.funcs[f]?=some fn)(hb:fn.body=some c)(hc:(sD f=false∧gZ f=none)∧Ym.contains f=false)(p:Ins→Bool)(hp:∀ a,a∈l→PC P0 g f [aK a] (.ret (.bool (p a))))(hl:l.length≤4294967296):PC P0 g 220 [.imm (l.map aK),.fn f [] []] (.ret (.int .i64 (wH p l))):=by
 refine eC func220 ntmps220 results220 rfl ?_;simp only[ZZ,simprocAttr,i64];refine rg fun K hK=>?_;simp only[ZZ,simprocAttr,i64];apply hK;try clear hK K
 refine aF fun K1 hK1=>?_;refine rg fun K hK=>?_;simp only[ZZ,simprocAttr,i64];apply hK;try clear hK K
 refine aT ?_;refine cB (fun n T H=>∃ k:Nat,n=l.length - k∧k≤l.length∧T.length=19∧gt T 0 = .imm (l.map aK)∧gt T 1 = .fn f [] []∧gt T 7 = .int .i64 l.length∧gt T 8 = .int .i64 k∧H=[]∧∀ i a,i < k→l[i]?=some a→p a=false) (n:=l.length) ⟨0,rfl,by omega,rfl,rfl,rfl,rfl,rfl,rfl,fun i a h=>by omega⟩ ?_;rintro n T H ⟨k,rfl,hk,hT,h0,h1,h7,h8,rfl,hno⟩;rw[eW 19 T hT];simp only[show List.range 19=[0,1,2,3,4,5,6,7,8,9,10,11,12,13,14,15,16,17,18]from rfl,List.map_cons,List.map_nil,h0,h1,h7,h8];by_cases hkm:(k:Int) < l.length
 ·have hkn:k < l.length:=by omega
  have hk0:(0:Int)≤k:=by omega
  have hx:=List.getElem?_eq_getElem hkn;generalize l[k]=x at hx;refine rg fun K hK=>?_;simp only[ZZ,simprocAttr,i64,hkm];apply hK;try clear hK K
  refine ct rfl fun K hK=>?_;apply aH;simp only[WX];apply hK;try clear hK K
  refine bl fun K2 hK2=>?_;refine rg fun K hK=>?_;simp only[ZZ,simprocAttr,i64];apply hK;try clear hK K
  refine rg fun K hK=>?_;simp only[ZZ,simprocAttr,i64,hk0,Int.toNat_natCast,List.getElem?_map,hx,Option.map_some,pB];refine mt (hp x (List.mem_of_getElem? hx)) hf hb hc rfl ?_;cases hpx:p x
  ·simp only[ZZ,simprocAttr,i64];apply hK;try clear hK K
   apply aD rfl;apply aH;simp only[WX];apply hK2;refine rl fun K hK=>?_;simp only[ZZ,simprocAttr,i64,IntWalk.i64_in (k+1) (by omega)];apply hK;try clear hK K
   try simp only[WX]
   refine⟨l.length - (k+1),by omega,k+1,rfl,by omega,rfl,rfl,rfl,rfl,rfl,trivial,fun i a hi ha=>?_⟩;by_cases hik:i=k
   ·subst hik;rw[hx]at ha;cases ha;exact hpx
   ·exact hno i a (by omega) ha
  ·simp only[ZZ,simprocAttr,i64];apply hK;try clear hK K
   apply aB rfl;refine rg fun K hK=>?_;simp only[ZZ,simprocAttr,i64];apply hK;try clear hK K
   apply aC;simp only[ZZ,simprocAttr,i64,lU hx hpx hno]
 ·refine rg fun K hK=>?_;simp only[ZZ,simprocAttr,i64,hkm];apply hK;try clear hK K
  refine cf rfl fun K hK=>?_;apply bZ;simp only[WX,if_true];apply hK1;refine rg fun K hK=>?_;simp only[ZZ,simprocAttr,i64];apply hK;try clear hK K
  obtain rfl:l.length=k:=by omega
  apply aC;simp only[ZZ,simprocAttr,i64,nU (l:=l) (p:=p) (fun i a ha=>hno i a (List.getElem?_eq_some_iff.1 ha).1 ha)]
theorem aKp (l:List Ins){f:FuncId}{fn:Func}{c:Code}(hf:P0.funcs[f]?=some fn)(hb:fn.body=some c)(hc:(sD f=false∧gZ f=none)∧Ym.contains f=false)(p:Ins→Bool)(hp:∀ a,a∈l→PC P0 g f [aK a] (.ret (.bool (p a))))(hl:l.length≤4294967296):PC P0 g 153 [.imm (l.map aK),.fn f [] []] (.ret (.bool (l.any p))):=by
 refine eC func153 ntmps153 results153 rfl ?_;simp only[ZZ,simprocAttr,i64];refine rg fun K hK=>?_;simp only[ZZ,simprocAttr,i64];apply hK;refine rg fun K hK=>?_;simp only[ZZ,simprocAttr,i64];refine mt (aJz g l hf hb hc p hp hl) func220 rfl ⟨⟨rfl,rfl⟩,rfl⟩ rfl ?_;simp only[ZZ,simprocAttr,i64,Fb];apply hK;apply aC;simp only[ZZ,simprocAttr,i64]
theorem aJw (l:List Val){f:FuncId}{fn:Func}{c:Code}(hf:P0.funcs[f]?=some fn)(hb:fn.body=some c)(hc:(sD f=false∧gZ f=none)∧Ym.contains f=false)(p:Val→Bool)(hp:∀ a,a∈l→PC P0 g f [eVal a] (.ret (.bool (p a))))(hl:l.length≤4294967296):PC P0 g 230 [.imm (l.map eVal),.fn f [] []] (.ret (.int .i64 (wH p l))):=by
 refine eC func230 ntmps230 results230 rfl ?_;simp only[ZZ,simprocAttr,i64];refine rg fun K hK=>?_;simp only[ZZ,simprocAttr,i64];apply hK;try clear hK K
 refine aF fun K1 hK1=>?_;refine rg fun K hK=>?_;simp only[ZZ,simprocAttr,i64];apply hK;try clear hK K
 refine aT ?_;refine cB (fun n T H=>∃ k:Nat,n=l.length - k∧k≤l.length∧T.length=19∧gt T 0 = .imm (l.map eVal)∧gt T 1 = .fn f [] []∧gt T 7 = .int .i64 l.length∧gt T 8 = .int .i64 k∧H=[]∧∀ i a,i < k→l[i]?=some a→p a=false) (n:=l.length) ⟨0,rfl,by omega,rfl,rfl,rfl,rfl,rfl,rfl,fun i a h=>by omega⟩ ?_;rintro n T H ⟨k,rfl,hk,hT,h0,h1,h7,h8,rfl,hno⟩;rw[eW 19 T hT];simp only[show List.range 19=[0,1,2,3,4,5,6,7,8,9,10,11,12,13,14,15,16,17,18]from rfl,List.map_cons,List.map_nil,h0,h1,h7,h8];by_cases hkm:(k:Int) < l.length
 ·have hkn:k < l.length:=by omega
  have hk0:(0:Int)≤k:=by omega
  have hx:=List.getElem?_eq_getElem hkn;generalize l[k]=x at hx;refine rg fun K hK=>?_;simp only[ZZ,simprocAttr,i64,hkm];apply hK;try clear hK K
  refine ct rfl fun K hK=>?_;apply aH;simp only[WX];apply hK;try clear hK K
  refine bl fun K2 hK2=>?_;refine rg fun K hK=>?_;simp only[ZZ,simprocAttr,i64];apply hK;try clear hK K
  refine rg fun K hK=>?_;simp only[ZZ,simprocAttr,i64,hk0,Int.toNat_natCast,List.getElem?_map,hx,Option.map_some,oZ];refine mt (hp x (List.mem_of_getElem? hx)) hf hb hc rfl ?_;cases hpx:p x
  ·simp only[ZZ,simprocAttr,i64];apply hK;try clear hK K
   apply aD rfl;apply aH;simp only[WX];apply hK2;refine rl fun K hK=>?_;simp only[ZZ,simprocAttr,i64,IntWalk.i64_in (k+1) (by omega)];apply hK;try clear hK K
   try simp only[WX]
   refine⟨l.length - (k+1),by omega,k+1,rfl,by omega,rfl,rfl,rfl,rfl,rfl,trivial,fun i a hi ha=>?_⟩;by_cases hik:i=k
   ·subst hik;rw[hx]at ha;cases ha;exact hpx
   ·exact hno i a (by omega) ha
  ·simp only[ZZ,simprocAttr,i64];apply hK;try clear hK K
   apply aB rfl;refine rg fun K hK=>?_;simp only[ZZ,simprocAttr,i64];apply hK;try clear hK K
   apply aC;simp only[ZZ,simprocAttr,i64,lU hx hpx hno]
 ·refine rg fun K hK=>?_;simp only[ZZ,simprocAttr,i64,hkm];apply hK;try clear hK K
  refine cf rfl fun K hK=>?_;apply bZ;simp only[WX,if_true];apply hK1;refine rg fun K hK=>?_;simp only[ZZ,simprocAttr,i64];apply hK;try clear hK K
  obtain rfl:l.length=k:=by omega
  apply aC;simp only[ZZ,simprocAttr,i64,nU (l:=l) (p:=p) (fun i a ha=>hno i a (List.getElem?_eq_some_iff.1 ha).1 ha)]
theorem aKk (l:List Val){f:FuncId}{fn:Func}{c:Code}(hf:P0.funcs[f]?=some fn)(hb:fn.body=some c)(hc:(sD f=false∧gZ f=none)∧Ym.contains f=false)(p:Val→Bool)(hp:∀ a,a∈l→PC P0 g f [eVal a] (.ret (.bool (p a))))(hl:l.length≤4294967296):PC P0 g 160 [.imm (l.map eVal),.fn f [] []] (.ret (.bool (l.any p))):=by
 refine eC func160 ntmps160 results160 rfl ?_;simp only[ZZ,simprocAttr,i64];refine rg fun K hK=>?_;simp only[ZZ,simprocAttr,i64];apply hK;refine rg fun K hK=>?_;simp only[ZZ,simprocAttr,i64];refine mt (aJw g l hf hb hc p hp hl) func230 rfl ⟨⟨rfl,rfl⟩,rfl⟩ rfl ?_;simp only[ZZ,simprocAttr,i64,Fb];apply hK;apply aC;simp only[ZZ,simprocAttr,i64]
theorem aJo (l:List Slt){f:FuncId}{fn:Func}{c:Code}(hf:P0.funcs[f]?=some fn)(hb:fn.body=some c)(hc:(sD f=false∧gZ f=none)∧Ym.contains f=false)(p:Slt→Bool)(hp:∀ a,a∈l→PC P0 g f [cF a] (.ret (.bool (p a))))(hl:l.length≤4294967296):PC P0 g 270 [.imm (l.map cF),.fn f [] []] (.ret (.int .i64 (wH p l))):=by
 refine eC func270 ntmps270 results270 rfl ?_;simp only[ZZ,simprocAttr,i64];refine rg fun K hK=>?_;simp only[ZZ,simprocAttr,i64];apply hK;try clear hK K
 refine aF fun K1 hK1=>?_;refine rg fun K hK=>?_;simp only[ZZ,simprocAttr,i64];apply hK;try clear hK K
 refine aT ?_;refine cB (fun n T H=>∃ k:Nat,n=l.length - k∧k≤l.length∧T.length=19∧gt T 0 = .imm (l.map cF)∧gt T 1 = .fn f [] []∧gt T 7 = .int .i64 l.length∧gt T 8 = .int .i64 k∧H=[]∧∀ i a,i < k→l[i]?=some a→p a=false) (n:=l.length) ⟨0,rfl,by omega,rfl,rfl,rfl,rfl,rfl,rfl,fun i a h=>by omega⟩ ?_;rintro n T H ⟨k,rfl,hk,hT,h0,h1,h7,h8,rfl,hno⟩;rw[eW 19 T hT];simp only[show List.range 19=[0,1,2,3,4,5,6,7,8,9,10,11,12,13,14,15,16,17,18]from rfl,List.map_cons,List.map_nil,h0,h1,h7,h8];by_cases hkm:(k:Int) < l.length
 ·have hkn:k < l.length:=by omega
  have hk0:(0:Int)≤k:=by omega
  have hx:=List.getElem?_eq_getElem hkn;generalize l[k]=x at hx;refine rg fun K hK=>?_;simp only[ZZ,simprocAttr,i64,hkm];apply hK;try clear hK K
  refine ct rfl fun K hK=>?_;apply aH;simp only[WX];apply hK;try clear hK K
  refine bl fun K2 hK2=>?_;refine rg fun K hK=>?_;simp only[ZZ,simprocAttr,i64];apply hK;try clear hK K
  refine rg fun K hK=>?_;simp only[ZZ,simprocAttr,i64,hk0,Int.toNat_natCast,List.getElem?_map,hx,Option.map_some,pA];refine mt (hp x (List.mem_of_getElem? hx)) hf hb hc rfl ?_;cases hpx:p x
  ·simp only[ZZ,simprocAttr,i64];apply hK;try clear hK K
   apply aD rfl;apply aH;simp only[WX];apply hK2;refine rl fun K hK=>?_;simp only[ZZ,simprocAttr,i64,IntWalk.i64_in (k+1) (by omega)];apply hK;try clear hK K
   try simp only[WX]
   refine⟨l.length - (k+1),by omega,k+1,rfl,by omega,rfl,rfl,rfl,rfl,rfl,trivial,fun i a hi ha=>?_⟩;by_cases hik:i=k
   ·subst hik;rw[hx]at ha;cases ha;exact hpx
   ·exact hno i a (by omega) ha
  ·simp only[ZZ,simprocAttr,i64];apply hK;try clear hK K
   apply aB rfl;refine rg fun K hK=>?_;simp only[ZZ,simprocAttr,i64];apply hK;try clear hK K
   apply aC;simp only[ZZ,simprocAttr,i64,lU hx hpx hno]
 ·refine rg fun K hK=>?_;simp only[ZZ,simprocAttr,i64,hkm];apply hK;try clear hK K
  refine cf rfl fun K hK=>?_;apply bZ;simp only[WX,if_true];apply hK1;refine rg fun K hK=>?_;simp only[ZZ,simprocAttr,i64];apply hK;try clear hK K
  obtain rfl:l.length=k:=by omega
  apply aC;simp only[ZZ,simprocAttr,i64,nU (l:=l) (p:=p) (fun i a ha=>hno i a (List.getElem?_eq_some_iff.1 ha).1 ha)]
theorem aKa (l:List Slt){f:FuncId}{fn:Func}{c:Code}(hf:P0.funcs[f]?=some fn)(hb:fn.body=some c)(hc:(sD f=false∧gZ f=none)∧Ym.contains f=false)(p:Slt→Bool)(hp:∀ a,a∈l→PC P0 g f [cF a] (.ret (.bool (p a))))(hl:l.length≤4294967296):PC P0 g 212 [.imm (l.map cF),.fn f [] []] (.ret (.bool (l.any p))):=by
 refine eC func212 ntmps212 results212 rfl ?_;simp only[ZZ,simprocAttr,i64];refine rg fun K hK=>?_;simp only[ZZ,simprocAttr,i64];apply hK;refine rg fun K hK=>?_;simp only[ZZ,simprocAttr,i64];refine mt (aJo g l hf hb hc p hp hl) func270 rfl ⟨⟨rfl,rfl⟩,rfl⟩ rfl ?_;simp only[ZZ,simprocAttr,i64,Fb];apply hK;apply aC;simp only[ZZ,simprocAttr,i64]
end
section
open Go.Proofs.Tryz
open Go Go.RowKit
variable (g:Gl)
def mT (f:Fun):Bool:=eK f.ar 0 16 && eK f.lo 0 16 && eK f.sl 0 8
theorem aDk (f:Fun):PC P0 g 151 [bL f] (.ret (.bool (mT f))):=by
 obtain⟨ar,lo,sl,code⟩:=f;refine eC func151 ntmps151 results151 rfl ?_;simp only[ZZ,simprocAttr,i64,bL];refine rg fun K hK=>?_;simp only[ZZ,simprocAttr,i64,bL];apply hK;try clear hK K
 refine rg fun K hK=>?_;simp only[ZZ,simprocAttr,i64,bL];refine mt (Yc g _ _ _) func152 rfl ⟨⟨rfl,rfl⟩,rfl⟩ rfl ?_;cases h1:eK ar 0 16
 ·simp only[ZZ,simprocAttr,i64,bL];apply hK;try clear hK K
  apply aC;simp only[ZZ,simprocAttr,i64,bL,mT,h1]
 simp only[ZZ,simprocAttr,i64,bL];refine mt (Yc g _ _ _) func152 rfl ⟨⟨rfl,rfl⟩,rfl⟩ rfl ?_;cases h2:eK lo 0 16
 ·simp only[ZZ,simprocAttr,i64,bL];apply hK;try clear hK K
  apply aC;simp only[ZZ,simprocAttr,i64,bL,mT,h1,h2]
 simp only[ZZ,simprocAttr,i64,bL];refine mt (Yc g _ _ _) func152 rfl ⟨⟨rfl,rfl⟩,rfl⟩ rfl ?_;simp only[ZZ,simprocAttr,i64,bL];apply hK;try clear hK K
 apply aC;simp only[ZZ,simprocAttr,i64,bL,mT,h1,h2]
theorem aKo (x:Ins):PC P0 g 154 [aK x] (.ret (.bool (!fH x))):=by
 refine eC func154 ntmps154 results154 rfl ?_;simp only[ZZ,simprocAttr,i64,aK];refine rg fun K hK=>?_;simp only[ZZ,simprocAttr,i64,aK];apply hK;refine rg fun K hK=>?_;simp only[ZZ,simprocAttr,i64,aK];refine mt (Nj g x) func155 rfl ⟨⟨rfl,rfl⟩,rfl⟩ rfl ?_;simp only[ZZ,simprocAttr,i64,aK];apply hK;apply aC;simp only[ZZ,simprocAttr,i64,aK]
def gH (f:Fun):Bool:=mT f && eK f.code.length 1 200 && !(f.code.any fun x => !fH x)
def bW (p:List Fun):Bool:=p.all gH && eK p.length 1 16
theorem aFk (l:List Fun)(hl:l.length≤4294967296)(hc:∀ f,f∈l→f.code.length≤4294967296):PC P0 g 76 [.imm (l.map bL)] (.ret (.bool (bW l))):=by
 refine eC func76 ntmps76 results76 rfl ?_;simp only[ZZ,simprocAttr,i64];refine rg fun K hK=>?_;simp only[ZZ,simprocAttr,i64];apply hK;try clear hK K
 refine aF fun K1 hK1=>?_;refine rg fun K hK=>?_;simp only[ZZ,simprocAttr,i64];apply hK;try clear hK K
 refine aT ?_;refine cB (fun n T H=>∃ k:Nat,n=l.length - k∧k≤l.length∧T.length=30∧gt T 0 = .imm (l.map bL)∧gt T 5 = .imm (l.map bL)∧gt T 6 = .int .i64 l.length∧gt T 7 = .int .i64 k∧(l.take k).all gH=true) (n:=l.length) ⟨0,rfl,by omega,rfl,rfl,rfl,rfl,rfl,rfl⟩ ?_;rintro n T H ⟨k,rfl,hk,hT,h0,h5,h6,h7,hall⟩;rw[eW 30 T hT];simp only[show List.range 30=[0,1,2,3,4,5,6,7,8,9,10,11,12,13,14,15,16,17,18,19,20,21,22,23,24,25,26,27,28,29]from rfl,List.map_cons,List.map_nil,h0,h5,h6,h7];by_cases hkm:(k:Int) < l.length
 ·have hkn:k < l.length:=by omega
  have hk0:(0:Int)≤k:=by omega
  have hx:=List.getElem?_eq_getElem hkn;generalize l[k]=x at hx;have hcx:=hc x (List.mem_of_getElem? hx);obtain⟨ar,lo,sl,code⟩:=x;have hno:gH ⟨ar,lo,sl,code⟩=false→bW l=false:=fun h=>by
   unfold bW;rw[show l.all gH=false from List.all_eq_false.2 ⟨_,List.mem_of_getElem? hx,by simp[h]⟩];rfl
  refine rg fun K hK=>?_;simp only[ZZ,simprocAttr,i64,hkm];apply hK;try clear hK K
  refine ct rfl fun K hK=>?_;apply aH;simp only[WX];apply hK;try clear hK K
  refine bl fun K2 hK2=>?_;refine rg fun K hK=>?_;simp only[ZZ,simprocAttr,i64,hk0,Int.toNat_natCast,List.getElem?_map,hx,Option.map_some,WH];apply hK;try clear hK K
  refine rg fun K hK=>?_;simp only[ZZ,simprocAttr,i64,WH];refine mt (aDk g ⟨ar,lo,sl,code⟩) func151 rfl ⟨⟨rfl,rfl⟩,rfl⟩ rfl ?_;cases h1:mT ⟨ar,lo,sl,code⟩
  ·simp only[ZZ,simprocAttr,i64];apply hK;try clear hK K
   apply aB rfl;refine rg fun K hK=>?_;simp only[ZZ,simprocAttr,i64];apply hK;try clear hK K
   apply aC;simp only[ZZ,simprocAttr,i64,hno (by simp[gH,h1])]
  simp only[ZZ,simprocAttr,i64,WH];refine mt (Yc g _ _ _) func152 rfl ⟨⟨rfl,rfl⟩,rfl⟩ rfl ?_;cases h2:eK code.length 1 200
  ·simp only[ZZ,simprocAttr,i64];apply hK;try clear hK K
   apply aB rfl;refine rg fun K hK=>?_;simp only[ZZ,simprocAttr,i64];apply hK;try clear hK K
   apply aC;simp only[ZZ,simprocAttr,i64,hno (by simp[gH,h1,h2])]
  simp only[ZZ,simprocAttr,i64,WH];refine mt (aKp g code func154 rfl ⟨⟨rfl,rfl⟩,rfl⟩ (fun x => !fH x) (fun a _=>aKo g a) hcx) func153 rfl ⟨⟨rfl,rfl⟩,rfl⟩ rfl ?_;cases h3:code.any fun x => !fH x
  ·simp only[ZZ,simprocAttr,i64];apply hK;try clear hK K
   apply aD rfl;apply aH;simp only[WX];apply hK2;refine rl fun K hK=>?_;simp only[ZZ,simprocAttr,i64,IntWalk.i64_in (k+1) (by omega)];apply hK;try clear hK K
   try simp only[WX]
   refine⟨l.length - (k+1),by omega,k+1,rfl,by omega,rfl,rfl,rfl,rfl,rfl,?_⟩;rw[List.take_add_one,List.all_append,hall,hx];simp[gH,h1,h2,h3]
  ·simp only[ZZ,simprocAttr,i64];apply hK;try clear hK K
   apply aB rfl;refine rg fun K hK=>?_;simp only[ZZ,simprocAttr,i64];apply hK;try clear hK K
   apply aC;simp only[ZZ,simprocAttr,i64,hno (by simp only[gH,h1,h2,h3];rfl)]
 ·refine rg fun K hK=>?_;simp only[ZZ,simprocAttr,i64,hkm];apply hK;try clear hK K
  refine cf rfl fun K hK=>?_;apply bZ;simp only[WX,if_true];apply hK1;obtain rfl:l.length=k:=by omega
  rw[List.take_length]at hall;refine rg fun K hK=>?_;simp only[ZZ,simprocAttr,i64];refine mt (Yc g _ _ _) func152 rfl ⟨⟨rfl,rfl⟩,rfl⟩ rfl ?_;simp only[ZZ,simprocAttr,i64];apply hK;try clear hK K
  apply aC;simp only[ZZ,simprocAttr,i64,bW,hall]
def aGn (v:Val):Bool:=decide ([v.re,v.im]=[bB v.re,bB v.im])
theorem aKi (v:Val):PC P0 g 162 [eVal v] (.ret (.bool (aGn v))):=by
 refine eC func162 ntmps162 results162 rfl ?_;simp only[ZZ,simprocAttr,i64,eVal];refine rg fun K hK=>?_;simp only[ZZ,simprocAttr,i64,eVal];apply hK;refine dr [1,4,0,2,5,3,6,7,8,9] (by kernel_rfl) fun K hK=>?_;simp only[ZZ,simprocAttr,i64,eVal];refine mt (yJ g _) func203 rfl ⟨⟨rfl,rfl⟩,rfl⟩ rfl ?_;simp only[ZZ,simprocAttr,i64,eVal];refine mt (yJ g _) func203 rfl ⟨⟨rfl,rfl⟩,rfl⟩ rfl ?_;simp only[ZZ,simprocAttr,i64,eVal];apply hK;apply aC;simp only[ZZ,simprocAttr,i64,eVal,aGn]
theorem aKj (v:Val):PC P0 g 161 [eVal v] (.ret (.bool (!aGn v))):=by
 refine eC func161 ntmps161 results161 rfl ?_;simp only[ZZ,simprocAttr,i64,eVal];refine rg fun K hK=>?_;simp only[ZZ,simprocAttr,i64,eVal];apply hK;refine rg fun K hK=>?_;simp only[ZZ,simprocAttr,i64,eVal];refine mt (aKi g v) func162 rfl ⟨⟨rfl,rfl⟩,rfl⟩ rfl ?_;simp only[ZZ,simprocAttr,i64,eVal];apply hK;apply aC;simp only[ZZ,simprocAttr,i64,eVal]
def fR (s:Slt):Bool:=s.state == 1
theorem aJd (s:Slt):PC P0 g 299 [cF s] (.ret (.bool (fR s))):=by
 refine eC func299 ntmps299 results299 rfl ?_;simp only[ZZ,simprocAttr,i64,cF];refine rg fun K hK=>?_;simp only[ZZ,simprocAttr,i64,cF];apply hK;refine rg fun K hK=>?_;simp only[ZZ,simprocAttr,i64,cF];apply hK;apply aC;simp only[ZZ,simprocAttr,i64,cF,fR]
theorem aRx (most:Int):PC P0 g 79 [.int .i64 most] (.ret (.tup (if eK most 1 1024 then [bJ ⟨[],[],most⟩,.bool true]else [bJ ⟨[],[],0⟩,.bool false]))):=by
 have key:PC P0 g 79 [.int .i64 most] (.ret (.tup (if eK most 1 1024 then [.agg [.nils,.nils,i64 most],.bool true]else [.agg [.nils,.nils,i64 0],.bool false]))):=by
  refine eC func79 ntmps79 results79 rfl ?_;simp only[ZZ,simprocAttr,i64];refine rg fun K hK=>?_;simp only[ZZ,simprocAttr,i64];apply hK;try clear hK K
  refine aF fun K1 hK1=>?_;refine rg fun K hK=>?_;simp only[ZZ,simprocAttr,i64];refine mt (Mj g _ _ _) func164 rfl ⟨⟨rfl,rfl⟩,rfl⟩ rfl ?_;cases h1:eK most 1 1024
  ·simp only[ZZ,simprocAttr,i64];apply hK;try clear hK K
   apply aB rfl;refine rg fun K hK=>?_;simp only[ZZ,simprocAttr,i64];apply hK;try clear hK K
   apply aC;simp only[ZZ,simprocAttr,i64,h1]
  ·simp only[ZZ,simprocAttr,i64];apply hK;try clear hK K
   apply aD rfl;apply aH;simp only[WX];apply hK1;refine rg fun K hK=>?_;simp only[ZZ,simprocAttr,i64];apply hK;try clear hK K
   apply aC;simp only[ZZ,simprocAttr,i64,h1]
 have:=key.wkR;cases h1:eK most 1 1024<;>rw[h1]at this<;>exact this
end
section
open Go.Proofs.Tryz
open Go Go.RowKit
variable (g:Gl)
def dM (n:Int):Bool:=decide (0≤n) && decide (n≤4294967295)
theorem Kj (n:Int):PC P0 g 361 [.int .i64 n] (.ret (.bool (dM n))):=by
 refine eC func361 ntmps361 results361 rfl ?_;simp only[ZZ,simprocAttr,i64];refine rg fun K hK=>?_;simp only[ZZ,simprocAttr,i64];apply hK;try clear hK K
 refine rg fun K hK=>?_;by_cases h:0≤n
 ·simp only[ZZ,simprocAttr,i64,h];apply hK;try clear hK K
  apply aC;simp only[ZZ,simprocAttr,i64,dM,h]
 ·simp only[ZZ,simprocAttr,i64,h];apply hK;try clear hK K
  apply aC;simp only[ZZ,simprocAttr,i64,dM,h]
def Zy (x:Int):Int:=IntKind.u32.wrap (Zo .u32 x (Ug .u32 x 15)*2246822507)
def aFt:Nat→Int→Int
 | 0,x=>x
 | k+1,x=>Zy (aFt k x)
def aDp (s n:Int):Int:=Zo .u32 (IntKind.u32.wrap s) (IntKind.u32.wrap (IntKind.u32.wrap (IntKind.u32.wrap n+1)*2654435761))
def Wt (x:Int):Int:=IntKind.i64.wrap (Zo .u32 x (Ug .u32 x 13))
def mix (s n:Int):Int:=if dM s && dM n then Wt (aFt 2 (aDp s n))else 0
theorem aCz (s n:Int):PC P0 g 360 [.int .i64 s,.int .i64 n] (.ret (.int .i64 (mix s n))):=by
 refine eC func360 ntmps360 results360 rfl ?_;simp only[ZZ,simprocAttr,i64];refine rg fun K hK=>?_;simp only[ZZ,simprocAttr,i64];apply hK;try clear hK K
 refine aF fun K1 hK1=>?_;refine rg fun K hK=>?_;simp only[ZZ,simprocAttr,i64];refine mt (Kj g _) func361 rfl ⟨⟨rfl,rfl⟩,rfl⟩ rfl ?_;cases h1:dM s
 ·simp only[ZZ,simprocAttr,i64];apply hK;try clear hK K
  apply aB rfl;refine rg fun K hK=>?_;simp only[ZZ,simprocAttr,i64];apply hK;try clear hK K
  apply aC;simp only[ZZ,simprocAttr,i64,mix,h1]
 simp only[ZZ,simprocAttr,i64];refine mt (Kj g _) func361 rfl ⟨⟨rfl,rfl⟩,rfl⟩ rfl ?_;cases h2:dM n
 ·simp only[ZZ,simprocAttr,i64];apply hK;try clear hK K
  apply aB rfl;refine rg fun K hK=>?_;simp only[ZZ,simprocAttr,i64];apply hK;try clear hK K
  apply aC;simp only[ZZ,simprocAttr,i64,mix,h1,h2]
 simp only[ZZ,simprocAttr,i64];apply hK;try clear hK K
 apply aD rfl;apply aH;simp only[WX];apply hK1;refine rg fun K hK=>?_;simp only[ZZ,simprocAttr,i64];apply hK;try clear hK K
 refine aF fun K1 hK1=>?_;refine rg fun K hK=>?_;simp only[ZZ,simprocAttr,i64];apply hK;try clear hK K
 refine aT ?_;refine cB (fun m T H=>∃ k:Nat,m=2 - k∧k≤2∧T.length=34∧gt T 21 = .int .i64 k∧gt T 5 = .int .u32 (aFt k (aDp s n))) (n:=2) ⟨0,rfl,by omega,rfl,rfl,rfl⟩ ?_;rintro m T H ⟨k,rfl,hk,hT,h21,h5⟩;rw[eW 34 T hT];simp only[show List.range 34=[0,1,2,3,4,5,6,7,8,9,10,11,12,13,14,15,16,17,18,19,20,21,22,23,24,25,26,27,28,29,30,31,32,33]from rfl,List.map_cons,List.map_nil,h21,h5];by_cases hkm:(k:Int) < 2
 ·refine rg fun K hK=>?_;simp only[ZZ,simprocAttr,i64,hkm];apply hK;try clear hK K
  refine ct rfl fun K hK=>?_;apply aH;simp only[WX];apply hK;try clear hK K
  refine bl fun K2 hK2=>?_;refine rl fun K hK=>?_;simp only[ZZ,simprocAttr,i64];apply hK;try clear hK K
  try simp only[WX]
  apply hK2;refine rl fun K hK=>?_;simp only[ZZ,simprocAttr,i64,IntWalk.i64_in (k+1) (by omega)];apply hK;try clear hK K
  try simp only[WX]
  exact⟨2 - (k+1),by omega,k+1,rfl,by omega,rfl,rfl,rfl⟩
 ·refine rg fun K hK=>?_;simp only[ZZ,simprocAttr,i64,hkm];apply hK;try clear hK K
  refine cf rfl fun K hK=>?_;apply bZ;simp only[WX,if_true];apply hK1;obtain rfl:k=2:=by omega
  refine rg fun K hK=>?_;simp only[ZZ,simprocAttr,i64];apply hK;try clear hK K
  apply aC;simp only[ZZ,simprocAttr,i64,mix,h1,h2,Wt]
def qZ (s way k:Int):Int:=mix (mix s way) k
theorem aDa (s way k:Int):PC P0 g 331 [.int .i64 s,.int .i64 way,.int .i64 k] (.ret (.tup [.int .i64 (qZ s way k),.bool (dM s && dM k)])):=by
 refine eC func331 ntmps331 results331 rfl ?_;simp only[ZZ,simprocAttr,i64];refine rg fun K hK=>?_;simp only[ZZ,simprocAttr,i64];apply hK;try clear hK K
 refine rg fun K hK=>?_;simp only[ZZ,simprocAttr,i64];refine mt (aCz g _ _) func360 rfl ⟨⟨rfl,rfl⟩,rfl⟩ rfl ?_;simp only[ZZ,simprocAttr,i64];refine mt (aCz g _ _) func360 rfl ⟨⟨rfl,rfl⟩,rfl⟩ rfl ?_;simp only[ZZ,simprocAttr,i64];refine mt (Kj g _) func361 rfl ⟨⟨rfl,rfl⟩,rfl⟩ rfl ?_;cases h1:dM s
 ·simp only[ZZ,simprocAttr,i64];apply hK;try clear hK K
  apply aC;simp only[ZZ,simprocAttr,i64,qZ,h1]
 simp only[ZZ,simprocAttr,i64];refine mt (Kj g _) func361 rfl ⟨⟨rfl,rfl⟩,rfl⟩ rfl ?_;simp only[ZZ,simprocAttr,i64];apply hK;try clear hK K
 apply aC;simp only[ZZ,simprocAttr,i64,qZ,h1]
def sZ (s k:Int):Int:=if dM s && dM k then qZ s 1 k else 0
theorem aJj (s k:Int):PC P0 g 287 [.int .i64 s,.int .i64 k] (.ret (.int .i64 (sZ s k))):=by
 refine eC func287 ntmps287 results287 rfl ?_;simp only[ZZ,simprocAttr,i64];refine rg fun K hK=>?_;simp only[ZZ,simprocAttr,i64];apply hK;refine rg fun K hK=>?_;simp only[ZZ,simprocAttr,i64];refine mt (aDa g _ _ _) func331 rfl ⟨⟨rfl,rfl⟩,rfl⟩ rfl ?_;simp only[ZZ,simprocAttr,i64];apply hK;refine aF fun K1 hK1=>?_;cases h:dM s && dM k
 ·refine rg fun K hK=>?_;simp only[ZZ,simprocAttr,i64,h];apply hK;apply aB rfl;refine rg fun K hK=>?_;simp only[ZZ,simprocAttr,i64];apply hK;apply aC;simp only[ZZ,simprocAttr,i64,sZ,h]
 ·refine rg fun K hK=>?_;simp only[ZZ,simprocAttr,i64,h];apply hK;apply aD rfl;apply aH;simp only[WX];apply hK1;refine rg fun K hK=>?_;simp only[ZZ,simprocAttr,i64];apply hK;apply aC;simp only[ZZ,simprocAttr,i64,sZ,h]
def draw (s k:Int):Val:=if dM s && dM k then Ya (qZ s 2 k) (Ug .i64 (qZ s 2 k) 16)else⟨0,0⟩
theorem aJe (s k:Int):PC P0 g 295 [.int .i64 s,.int .i64 k] (.ret (eVal (draw s k))):=by
 refine eC func295 ntmps295 results295 rfl ?_;simp only[ZZ,simprocAttr,i64];refine rg fun K hK=>?_;simp only[ZZ,simprocAttr,i64];apply hK;refine rg fun K hK=>?_;simp only[ZZ,simprocAttr,i64];refine mt (aDa g _ _ _) func331 rfl ⟨⟨rfl,rfl⟩,rfl⟩ rfl ?_;simp only[ZZ,simprocAttr,i64];apply hK;refine aF fun K1 hK1=>?_;cases h:dM s && dM k
 ·refine rg fun K hK=>?_;simp only[ZZ,simprocAttr,i64,h];apply hK;apply aB rfl;refine rg fun K hK=>?_;simp only[ZZ,simprocAttr,i64];apply hK;apply aC;simp only[ZZ,simprocAttr,i64,draw,h,eVal]
 ·refine rg fun K hK=>?_;simp only[ZZ,simprocAttr,i64,h];apply hK;apply aD rfl;apply aH;simp only[WX];apply hK1;refine rg fun K hK=>?_;simp only[ZZ,simprocAttr,i64];refine mt (Wc g _ _) func293 rfl ⟨⟨rfl,rfl⟩,rfl⟩ rfl ?_;simp only[ZZ,simprocAttr,i64,eVal];apply hK;apply aC;simp only[ZZ,simprocAttr,i64,draw,h,eVal]
end
section
open Go Go.RowKit
variable (g:Gl)
def cZ:Frm:=⟨0,0,[],[],[],0,0,0,0,0,⟨0,⟨0,0⟩⟩,⟨0,0⟩,0⟩
def cI (p:List Fun)(fn:Int)(args:List Val)(s:Int):Bool:=
 bW p && decide (0≤fn) && decide (fn < p.length) && decide (0≤s) && decide (s≤4294967295) && (match p[fn.toNat]? with|some x=>decide (x.ar≤x.lo) && decide ((args.length:Int)=x.ar) && !(args.any fun v => !aGn v)|none=>false)
def dK (p:List Fun)(fn:Int)(args:List Val)(s:Int):Frm:=
 match p[fn.toNat]? with
 | some x=>⟨fn,0,[],args++List.replicate (x.lo.toNat - args.length) ⟨0,0⟩,List.replicate x.sl.toNat ⟨0,⟨0,0⟩,⟨0,⟨0,0⟩⟩⟩,s,0,0,0,0,⟨0,⟨0,0⟩⟩,dN,0⟩
 | none=>cZ
theorem Ly (n:Nat):List.replicate n (V.agg [V.int .i64 0,V.int .i64 0])=(List.replicate n (⟨0,0⟩:Val)).map eVal:=by rw[List.map_replicate];rfl
theorem Fj (n:Nat):List.replicate n (V.agg [V.int .i64 0,V.int .i64 0,V.int .i64 0,V.int .i64 0,V.int .i64 0,V.int .i64 0])=(List.replicate n (⟨0,⟨0,0⟩,⟨0,⟨0,0⟩⟩⟩:Slt)).map cF:=by rw[List.map_replicate];rfl
theorem aIx (p:List Fun)(fn:Int)(args:List Val)(s:Int)(hl:p.length≤4294967296)(hc:∀ f,f∈p→f.code.length≤4294967296)(ha:args.length≤4294967296) :
 PC P0 g 78 [.imm (p.map bL),.int .i64 fn,.imm (args.map eVal),.int .i64 s] (.ret (.tup (if cI p fn args s then [aJ (dK p fn args s),.bool true]else [aJ cZ,.bool false]))):=by
 have key:PC P0 g 78 [.imm (p.map bL),.int .i64 fn,.imm (args.map eVal),.int .i64 s] (.ret (.tup (if cI p fn args s then [.agg [i64 fn,i64 0,.nils,.imm ((dK p fn args s).locals.map eVal),.imm ((dK p fn args s).slots.map cF),i64 s,i64 0,i64 0,i64 0,i64 0,i64 0,i64 0,i64 0,i64 (-1),i64 0,i64 0],.bool true]
  else [.agg [i64 0,i64 0,.nils,.nils,.nils,i64 0,i64 0,i64 0,i64 0,i64 0,i64 0,i64 0,i64 0,i64 0,i64 0,i64 0],.bool false]))):=by
  refine eC Tryz.func78 Tryz.ntmps78 Tryz.results78 rfl ?_;simp only[ZZ,simprocAttr,i64];refine rg fun K hK=>?_;simp only[ZZ,simprocAttr,i64];apply hK;try clear hK K
  refine aF fun K1 hK1=>?_;refine rg fun K hK=>?_;simp only[ZZ,simprocAttr,i64];refine mt (aFk g p hl hc) Tryz.func76 rfl ⟨⟨rfl,rfl⟩,rfl⟩ rfl ?_;cases h1:bW p
  ·simp only[ZZ,simprocAttr,i64];apply hK;try clear hK K
   apply aB rfl;refine rg fun K hK=>?_;simp only[ZZ,simprocAttr,i64];apply hK;try clear hK K
   apply aC;simp only[ZZ,simprocAttr,i64,cI,h1]
  by_cases h2:fn < 0
  ·have h2':¬0≤fn:=by omega
   simp only[ZZ,simprocAttr,i64,h2];apply hK;try clear hK K
   apply aB rfl;refine rg fun K hK=>?_;simp only[ZZ,simprocAttr,i64];apply hK;try clear hK K
   apply aC;simp only[ZZ,simprocAttr,i64,cI,h1,h2']
  have h2':0≤fn:=by omega
  by_cases h3:(p.length:Int)≤fn
  ·have h3':¬fn < p.length:=by omega
   simp only[ZZ,simprocAttr,i64,h2,h3];apply hK;try clear hK K
   apply aB rfl;refine rg fun K hK=>?_;simp only[ZZ,simprocAttr,i64];apply hK;try clear hK K
   apply aC;simp only[ZZ,simprocAttr,i64,cI,h1,h2',h3']
  have h3':fn < p.length:=by omega
  by_cases h4:s < 0
  ·have h4':¬0≤s:=by omega
   simp only[ZZ,simprocAttr,i64,h2,h3,h4];apply hK;try clear hK K
   apply aB rfl;refine rg fun K hK=>?_;simp only[ZZ,simprocAttr,i64];apply hK;try clear hK K
   apply aC;simp only[ZZ,simprocAttr,i64,cI,h1,h2',h3',h4']
  have h4':0≤s:=by omega
  by_cases h5:4294967295 < s
  ·have h5':¬s≤4294967295:=by omega
   simp only[ZZ,simprocAttr,i64,h2,h3,h4,h5];apply hK;try clear hK K
   apply aB rfl;refine rg fun K hK=>?_;simp only[ZZ,simprocAttr,i64];apply hK;try clear hK K
   apply aC;simp only[ZZ,simprocAttr,i64,cI,h1,h2',h3',h4',h5']
  have h5':s≤4294967295:=by omega
  simp only[ZZ,simprocAttr,i64,h2,h3,h4,h5];apply hK;try clear hK K
  apply aD rfl;apply aH;simp only[WX];apply hK1;have hx:=List.getElem?_eq_getElem (show fn.toNat < p.length by omega);generalize p[fn.toNat]'(by omega)=x at hx;obtain⟨ar,lo,sl,code⟩:=x;have hpm:gH ⟨ar,lo,sl,code⟩=true:=by
   have:=h1;unfold bW at this;rw[Bool.and_eq_true,List.all_eq_true]at this;exact this.1 _ (List.mem_of_getElem? hx)
  simp only[gH,mT,eK,Bool.and_eq_true,decide_eq_true_eq]at hpm;refine rg fun K hK=>?_;simp only[ZZ,simprocAttr,i64,h2',List.getElem?_map,hx,Option.map_some];apply hK;try clear hK K
  refine aF fun K1 hK1=>?_;by_cases h6:lo < ar
  ·have h6':¬ar≤lo:=by omega
   refine rg fun K hK=>?_;simp only[ZZ,simprocAttr,i64,h6];apply hK;try clear hK K
   apply aB rfl;refine rg fun K hK=>?_;simp only[ZZ,simprocAttr,i64];apply hK;try clear hK K
   apply aC;simp only[ZZ,simprocAttr,i64,cI,h1,h2',h3',h4',h5',hx,h6']
  have h6':ar≤lo:=by omega
  by_cases h7:(args.length:Int)=ar
  rotate_right 1
  ·have h7':((args.length:Int) != ar)=true:=by simp[h7]
   refine rg fun K hK=>?_;simp only[ZZ,simprocAttr,i64,h6,h7'];apply hK;try clear hK K
   apply aB rfl;refine rg fun K hK=>?_;simp only[ZZ,simprocAttr,i64];apply hK;try clear hK K
   apply aC;simp only[ZZ,simprocAttr,i64,cI,h1,h2',h3',h4',h5',hx,h6',h7]
  have h7':((args.length:Int) != ar)=false:=by simp[h7]
  refine rg fun K hK=>?_;simp only[ZZ,simprocAttr,i64,h6,h7'];refine mt (aKk g args Tryz.func161 rfl ⟨⟨rfl,rfl⟩,rfl⟩ (fun v => !aGn v) (fun a _=>aKj g a) ha) Tryz.func160 rfl ⟨⟨rfl,rfl⟩,rfl⟩ rfl ?_;cases h8:args.any fun v => !aGn v
  rotate_right 1
  ·simp only[ZZ,simprocAttr,i64];apply hK;try clear hK K
   apply aB rfl;refine rg fun K hK=>?_;simp only[ZZ,simprocAttr,i64];apply hK;try clear hK K
   apply aC;simp only[ZZ,simprocAttr,i64,cI,h1,h2',h3',h4',h5',hx,h6',h7,h8]
  simp only[ZZ,simprocAttr,i64];apply hK;try clear hK K
  apply aD rfl;apply aH;simp only[WX];apply hK1;have c1:0≤lo:=by omega
  have c2:lo≤1073741824:=by omega
  have c3:0≤sl:=by omega
  have c4:sl≤1073741824:=by omega
  refine rg fun K hK=>?_;simp only[ZZ,simprocAttr,i64,c1,c2,Ly];apply hK;try clear hK K
  have hal:args.length≤lo.toNat:=by omega
  have hcp:List.take lo.toNat (List.map eVal args)++List.drop (min args.length lo.toNat) (List.map eVal (List.replicate lo.toNat ⟨0,0⟩))=List.map eVal (args++List.replicate (lo.toNat - args.length) ⟨0,0⟩):=by
   rw[List.take_of_length_le (by simpa using hal),Nat.min_eq_left hal,←List.map_drop,List.drop_replicate,←List.map_append]
  refine rg fun K hK=>?_;simp only[ZZ,simprocAttr,i64,List.length_replicate,Nat.le_refl,kM,hcp];apply hK;try clear hK K
  refine dr [0,1,2,5,3,6,4,7,8,9] (by kernel_rfl) fun K hK=>?_;simp only[ZZ,simprocAttr,i64,c3,c4,Fj];refine mt (It g) Tryz.func163 rfl ⟨⟨rfl,rfl⟩,rfl⟩ rfl ?_;simp only[ZZ,simprocAttr,i64,aS,dN,c3,c4,Fj];apply hK;try clear hK K
  have hll:(args++List.replicate (lo.toNat - args.length) (⟨0,0⟩:Val)).length=lo.toNat:=by simp;omega
  apply aC;simp only[ZZ,simprocAttr,i64,cI,h1,h2',h3',h4',h5',hx,h6',h7,h8,dK,List.length_replicate,hll]
 have:=key.wkR;cases h:cI p fn args s<;>rw[h]at this<;>simp only[if_true,if_false,Bool.false_eq_true,wk,wkL]at this ⊢
 ·exact this
 ·have hx:∃ x,p[fn.toNat]?=some x:=by
   cases hp:p[fn.toNat]? with
   | some x=>exact⟨x,rfl⟩
   | none=>simp[cI,hp]at h
  obtain⟨x,hx⟩:=hx;simp only[dK,hx]at this ⊢;exact this
end
section
open Go Go.RowKit
variable (g:Gl)
def oC (s:Slt):Bool:=s.state == 2 && s.out.trap != 0
def cJ (f:Frm):Outc×Bool:=
 if f.state != 2 || f.slots.any fR then(⟨0,⟨0,0⟩⟩,false)
 else if f.out.trap != 0 then(f.out,true)
 else match f.slots.find? oC with
  | some s=>(⟨s.out.trap,⟨0,0⟩⟩,true)
  | none=>(f.out,true)
theorem Ov {l:List Slt}{k:Nat}{x:Slt}(hx:l[k]?=some x)(hp:oC x=true)(hno:∀(i:Nat)(a:Slt),i < k→l[i]?=some a→oC a=false):l.find? oC=some x:=by
 rw[List.find?_eq_some_iff_getElem];obtain⟨h1,h2⟩:=List.getElem?_eq_some_iff.1 hx;refine⟨hp,k,h1,h2,fun j hj=>?_⟩;have:=hno j _ hj (List.getElem?_eq_getElem (by omega));simp[this]
theorem Xn {l:List Slt}(hno:∀(i:Nat)(a:Slt),l[i]?=some a→oC a=false):l.find? oC=none:=by
 rw[List.find?_eq_none];intro x hx;obtain⟨i,hi⟩:=List.mem_iff_getElem?.1 hx;simp[hno i x hi]
theorem aJt (f:Frm)(hl:f.slots.length≤4294967296):PC P0 g 250 [aJ f] (.ret (.tup [cQ (cJ f).1,.bool (cJ f).2])):=by
 obtain⟨fn,pc,stack,locals,slots,seed,spawned,draws,state,wait,⟨otrap,⟨ore,oim⟩⟩,⟨uat,ugen⟩,upSlot⟩:=f;simp only at hl;refine eC Tryz.func250 Tryz.ntmps250 Tryz.results250 rfl ?_;simp only[ZZ,simprocAttr,i64,aJ,aN];refine rg fun K hK=>?_;simp only[ZZ,simprocAttr,i64,aJ,aN];apply hK;try clear hK K
 refine rg fun K hK=>?_;simp only[ZZ,simprocAttr,i64,aJ,aN];apply hK;try clear hK K
 refine aF fun K1 hK1=>?_;cases h1:state != 2
 rotate_right 1
 ·refine rg fun K hK=>?_;simp only[ZZ,simprocAttr,i64,aJ,aN,h1];apply hK;try clear hK K
  apply aB rfl;refine rg fun K hK=>?_;simp only[ZZ,simprocAttr,i64,aJ,aN];apply hK;try clear hK K
  apply aC;simp only[ZZ,simprocAttr,i64,aJ,aN,cJ,h1,Bool.true_or,cQ]
 refine rg fun K hK=>?_;simp only[ZZ,simprocAttr,i64,aJ,aN,h1];refine mt (aKa g slots Tryz.func299 rfl ⟨⟨rfl,rfl⟩,rfl⟩ fR (fun a _=>aJd g a) hl) Tryz.func212 rfl ⟨⟨rfl,rfl⟩,rfl⟩ rfl ?_;cases h2:slots.any fR
 rotate_right 1
 ·simp only[ZZ,simprocAttr,i64,aJ,aN];apply hK;try clear hK K
  apply aB rfl;refine rg fun K hK=>?_;simp only[ZZ,simprocAttr,i64,aJ,aN];apply hK;try clear hK K
  apply aC;simp only[ZZ,simprocAttr,i64,aJ,aN,cJ,h1,h2,Bool.false_or,cQ]
 simp only[ZZ,simprocAttr,i64,aJ,aN];apply hK;try clear hK K
 apply aD rfl;apply aH;simp only[WX];apply hK1;refine aF fun K1 hK1=>?_;cases h3:otrap != 0
 rotate_right 1
 ·refine rg fun K hK=>?_;simp only[ZZ,simprocAttr,i64,aJ,aN,h3];apply hK;try clear hK K
  apply aB rfl;refine rg fun K hK=>?_;simp only[ZZ,simprocAttr,i64,aJ,aN];apply hK;try clear hK K
  apply aC;simp only[ZZ,simprocAttr,i64,aJ,aN,cJ,h1,h2,h3,Bool.false_or,cQ]
 refine rg fun K hK=>?_;simp only[ZZ,simprocAttr,i64,aJ,aN,h3];apply hK;try clear hK K
 apply aD rfl;apply aH;simp only[WX];apply hK1;refine aF fun K1 hK1=>?_;refine rg fun K hK=>?_;simp only[ZZ,simprocAttr,i64,aJ,aN];apply hK;try clear hK K
 refine aT ?_;refine cB (fun m T H=>∃ k:Nat,m=slots.length - k∧k≤slots.length∧T.length=46∧gt T 1 = .ptr 0 0 0∧gt T 2 = .ptr 1 0 0∧gt T 3 = .bool false∧gt T 24 = .imm (slots.map cF)∧gt T 25 = .int .i64 slots.length∧gt T 26 = .int .i64 k∧
  hb H 0=some (.row 16 [aJ ⟨fn,pc,stack,locals,slots,seed,spawned,draws,state,wait,⟨otrap,⟨ore,oim⟩⟩,⟨uat,ugen⟩,upSlot⟩] false)∧hb H 1=some (.row 3 [.agg [i64 0,i64 0,i64 0]] false)∧∀(i:Nat)(a:Slt),i < k→slots[i]?=some a→oC a=false) (n:=slots.length) ⟨0,rfl,by omega,rfl,rfl,rfl,rfl,rfl,rfl,rfl,rfl,rfl,fun i a h=>by omega⟩ ?_
 rintro m T H ⟨k,rfl,hk,hT,e1,e2,e3,e24,e25,e26,b0,b1,hno⟩;rw[eW 46 T hT];simp only[show List.range 46=[0,1,2,3,4,5,6,7,8,9,10,11,12,13,14,15,16,17,18,19,20,21,22,23,24,25,26,27,28,29,30,31,32,33,34,35,36,37,38,39,40,41,42,43,44,45]from rfl,List.map_cons,List.map_nil,e1,e2,e3,e24,e25,e26];have hl0:=aE b0;have hl1:=aE b1;simp only[aJ,aN]at b0;by_cases hkm:(k:Int) < slots.length
 ·have hkn:k < slots.length:=by omega
  have hk0:(0:Int)≤k:=by omega
  have hx:=List.getElem?_eq_getElem hkn;generalize slots[k]=x at hx;obtain⟨st,⟨ka,kg⟩,⟨xt,⟨xr,xi⟩⟩⟩:=x;refine rg fun K hK=>?_;simp only[ZZ,simprocAttr,i64,aJ,aN,hkm];apply hK;try clear hK K
  refine ct rfl fun K hK=>?_;apply aH;simp only[WX];apply hK;try clear hK K
  refine bl fun K2 hK2=>?_;refine rg fun K hK=>?_;simp only[ZZ,simprocAttr,i64,aJ,aN,hk0,Int.toNat_natCast,List.getElem?_map,hx,Option.map_some,WH];apply hK;try clear hK K
  cases g1:st == 2
  ·refine rg fun K hK=>?_;simp only[ZZ,simprocAttr,i64,aJ,aN,g1,WH];apply hK;try clear hK K
   apply aD rfl;apply aH;simp only[WX];apply hK2;try clear hK2 K2
   refine rl fun K hK=>?_;simp only[ZZ,simprocAttr,i64,aJ,aN,IntWalk.i64_in (k+1) (by omega)];apply hK;try clear hK K
   try simp only[WX]
   refine⟨slots.length - (k+1),by omega,k+1,rfl,by omega,rfl,rfl,rfl,rfl,rfl,rfl,rfl,by rw[bA _ hl0];exact b0,by rw[bA _ hl1];exact b1,fun i a hi ha=>?_⟩;by_cases hik:i=k
   ·subst hik;rw[hx]at ha;cases ha;simp[oC,g1]
   ·exact hno i a (by omega) ha
  cases g2:xt != 0
  ·refine rg fun K hK=>?_;simp only[ZZ,simprocAttr,i64,aJ,aN,g1,g2,WH];apply hK;try clear hK K
   apply aD rfl;apply aH;simp only[WX];apply hK2;try clear hK2 K2
   refine rl fun K hK=>?_;simp only[ZZ,simprocAttr,i64,aJ,aN,IntWalk.i64_in (k+1) (by omega)];apply hK;try clear hK K
   try simp only[WX]
   refine⟨slots.length - (k+1),by omega,k+1,rfl,by omega,rfl,rfl,rfl,rfl,rfl,rfl,rfl,by rw[bA _ hl0];exact b0,by rw[bA _ hl1];exact b1,fun i a hi ha=>?_⟩;by_cases hik:i=k
   ·subst hik;rw[hx]at ha;cases ha;simp[oC,g1,g2]
   ·exact hno i a (by omega) ha
  ·have hf:=Ov hx (by simp[oC,g1,g2]) hno;refine rg fun K hK=>?_;simp only[ZZ,simprocAttr,i64,aJ,aN,g1,g2,WH];apply hK;try clear hK K
   apply aB rfl;refine rg fun K hK=>?_;simp only[ZZ,simprocAttr,i64,aJ,aN,WH,hl1,b1];apply hK;try clear hK K
   apply aC;simp only[ZZ,simprocAttr,i64,aJ,aN,cJ,h1,h2,h3,Bool.false_or,cQ,hf,hl1,b1,aW,List.length_set,WH]
 ·refine rg fun K hK=>?_;simp only[ZZ,simprocAttr,i64,aJ,aN,hkm];apply hK;try clear hK K
  refine cf rfl fun K hK=>?_;apply bZ;simp only[WX,if_true];apply hK1;obtain rfl:slots.length=k:=by omega
  have hf:=Xn (l:=slots) (fun i a ha=>hno i a (List.getElem?_eq_some_iff.1 ha).1 ha);refine rg fun K hK=>?_;simp only[ZZ,simprocAttr,i64,aJ,aN,b0,b1];apply hK;try clear hK K
  apply aC;simp only[ZZ,simprocAttr,i64,aJ,aN,cJ,h1,h2,h3,Bool.false_or,cQ,hf,aW,hl1]
end
section
open Go Go.RowKit
variable (g:Gl)
def jM (f:Frm)(slot:Int):Bool:=decide (0≤slot) && decide (slot < f.slots.length) && (match f.slots[slot.toNat]? with|some s=>fR s|none=>false)
def fQ (f:Frm)(slot:Int)(o:Outc):Frm:=
 let f':={f with slots:=f.slots.set slot.toNat ⟨2,dN,o⟩}
 if f.state == 1 && f.wait == slot then {f' with state:=0,wait:=0}else f'
theorem aJr (f:Frm)(slot:Int)(o:Outc)(hs:f.stack.length≤1073741824)(hlo:f.locals.length≤1073741824)(hl:f.slots.length≤1073741824) :
 PC P0 g 252 [aJ f,.int .i64 slot,cQ o] (.ret (.tup (if jM f slot then [aJ (fQ f slot o),.bool true]else [aJ f,.bool false]))):=by
 obtain⟨fn,pc,stack,locals,slots,seed,spawned,draws,state,wait,⟨otrap,⟨ore,oim⟩⟩,⟨uat,ugen⟩,upSlot⟩:=f;obtain⟨xt,⟨xr,xi⟩⟩:=o;simp only at hs hlo hl;refine eC Tryz.func252 Tryz.ntmps252 Tryz.results252 rfl ?_;simp only[ZZ,simprocAttr,i64,aJ,aN,cQ];refine rg fun K hK=>?_;simp only[ZZ,simprocAttr,i64,aJ,aN,cQ];apply hK;refine aF fun K1 hK1=>?_;by_cases h1:slot < 0
 ·have h1':¬0≤slot:=by omega
  refine rg fun K hK=>?_;simp only[ZZ,simprocAttr,i64,aJ,aN,cQ,h1];apply hK;apply aB rfl;refine rg fun K hK=>?_;simp only[ZZ,simprocAttr,i64,aJ,aN,cQ];apply hK;apply aC;simp only[ZZ,simprocAttr,i64,aJ,aN,cQ,jM,h1']
 have h1':0≤slot:=by omega
 by_cases h2:(slots.length:Int)≤slot
 ·have h2':¬slot < slots.length:=by omega
  refine rg fun K hK=>?_;simp only[ZZ,simprocAttr,i64,aJ,aN,cQ,h1,h2];apply hK;apply aB rfl;refine rg fun K hK=>?_;simp only[ZZ,simprocAttr,i64,aJ,aN,cQ];apply hK;apply aC;simp only[ZZ,simprocAttr,i64,aJ,aN,cQ,jM,h1',h2']
 have h2':slot < slots.length:=by omega
 have hx:=List.getElem?_eq_getElem (show slot.toNat < slots.length by omega);generalize slots[slot.toNat]'(by omega)=x at hx;obtain⟨st,⟨ka,kg⟩,⟨yt,⟨yr,yi⟩⟩⟩:=x;cases h3:st == 1
 ·have h3':(st != 1)=true:=by simp at h3;simp[h3]
  refine rg fun K hK=>?_;simp only[ZZ,simprocAttr,i64,aJ,aN,cQ,h1,h2,h1',List.getElem?_map,hx,Option.map_some,h3'];apply hK;apply aB rfl;refine rg fun K hK=>?_;simp only[ZZ,simprocAttr,i64,aJ,aN,cQ];apply hK;apply aC;simp only[ZZ,simprocAttr,i64,aJ,aN,cQ,jM,h1',h2',hx,fR,h3]
 have h3':(st != 1)=false:=by simp at h3;simp[h3]
 refine rg fun K hK=>?_;simp only[ZZ,simprocAttr,i64,aJ,aN,cQ,h1,h2,h1',List.getElem?_map,hx,Option.map_some,h3'];apply hK;apply aD rfl;apply aH;simp only[WX];apply hK1;try clear hK1 K1
 refine rg fun K hK=>?_;simp only[ZZ,simprocAttr,i64,aJ,aN,cQ];refine en Tryz.func238 Tryz.ntmps238 Tryz.results238 rfl ⟨⟨rfl,rfl⟩,rfl⟩ ?_;simp only[ZZ,simprocAttr,i64,aJ,aN,cQ];refine rg fun K2 hK2=>?_;simp only[ZZ,simprocAttr,i64,aJ,aN,cQ];apply hK2;refine dr [0,3,6,1,4,7,2,9,5,8,10,11,12,13,14] (by kernel_rfl) fun K2 hK2=>?_;simp only[ZZ,simprocAttr,i64,aJ,aN,cQ];refine cl Tryz.func284 rfl ⟨rfl,rfl⟩ rfl rfl (kM _) (by simpa using hs) ?_;simp only[ZZ,simprocAttr,i64,aJ,aN,cQ];refine cl Tryz.func284 rfl ⟨rfl,rfl⟩ rfl rfl (kM _) (by simpa using hlo) ?_;simp only[ZZ,simprocAttr,i64,aJ,aN,cQ];refine cl Tryz.func146 rfl ⟨rfl,rfl⟩ rfl rfl (tQ _) (by simpa using hl) ?_;simp only[ZZ,simprocAttr,i64,aJ,aN,cQ];apply hK2;refine rg fun K2 hK2=>?_;simp only[ZZ,simprocAttr,i64,aJ,aN,cQ];apply hK2;apply aC;simp only[ZZ,simprocAttr,i64,aJ,aN,cQ,WH];apply hK;refine dr [0,2,1,4,3,5,6,7] (by kernel_rfl) fun K hK=>?_;simp only[ZZ,simprocAttr,i64,aJ,aN,cQ];refine mt (It g) Tryz.func163 rfl ⟨⟨rfl,rfl⟩,rfl⟩ rfl ?_;have hset:(List.map cF slots).set slot.toNat (V.agg [V.int .i64 2,V.int .i64 (-1),V.int .i64 0,V.int .i64 xt,V.int .i64 xr,V.int .i64 xi])=List.map cF (slots.set slot.toNat ⟨2,dN,⟨xt,⟨xr,xi⟩⟩⟩):=by rw[←zY];rfl
 simp only[ZZ,simprocAttr,i64,aJ,aN,cQ,aS,dN,h1',h2',qJ,hx,Option.map_some,hset];apply hK;have hok:jM ⟨fn,pc,stack,locals,slots,seed,spawned,draws,state,wait,⟨otrap,⟨ore,oim⟩⟩,⟨uat,ugen⟩,upSlot⟩ slot=true:=by simp only[jM,h1',h2',hx,fR,h3,decide_true,Bool.and_self]
 refine aF fun K1 hK1=>?_;cases h4:state == 1
 ·refine rg fun K hK=>?_;simp only[ZZ,simprocAttr,i64,aJ,aN,cQ,h4];apply hK;apply aD rfl;apply aH;simp only[WX];apply hK1;try clear hK1 K1
  refine rg fun K hK=>?_;simp only[ZZ,simprocAttr,i64,aJ,aN,cQ];apply hK;apply aC;simp only[ZZ,simprocAttr,i64,aJ,aN,cQ,hok,fQ,h4,List.length_set,dN]
 cases h5:wait == slot
 ·refine rg fun K hK=>?_;simp only[ZZ,simprocAttr,i64,aJ,aN,cQ,h4,h5];apply hK;apply aD rfl;apply aH;simp only[WX];apply hK1;try clear hK1 K1
  refine rg fun K hK=>?_;simp only[ZZ,simprocAttr,i64,aJ,aN,cQ];apply hK;apply aC;simp only[ZZ,simprocAttr,i64,aJ,aN,cQ,hok,fQ,h4,h5,List.length_set,dN]
 ·refine rg fun K hK=>?_;simp only[ZZ,simprocAttr,i64,aJ,aN,cQ,h4,h5];apply hK;apply aB rfl;refine rl fun K hK=>?_;simp only[ZZ,simprocAttr,i64,aJ,aN,cQ];apply hK;try simp only[WX]
  apply hK1;try clear hK1 K1
  refine rg fun K hK=>?_;simp only[ZZ,simprocAttr,i64,aJ,aN,cQ];apply hK;apply aC;simp only[ZZ,simprocAttr,i64,aJ,aN,cQ,hok,fQ,h4,h5,List.length_set,dN]
end
section
open Go Go.RowKit
variable (g:Gl)
def iG:List Fun→Nat
 | []=>0
 | f::l=>f.code.length+iG l
theorem Lb (l:List Fun)(k:Nat)(x:Fun)(h:l[k]?=some x):iG (l.take (k+1))=iG (l.take k)+x.code.length:=by
 induction l generalizing k with
 | nil=>simp at h
 | cons f l ih=>
  cases k with
  | zero=>simp at h;subst h;simp[iG]
  | succ k=>simp at h;simp only[List.take_succ_cons,iG,ih k h];omega
theorem Hi (l:List Fun)(h:∀ f,f∈l→f.code.length≤4294967296):iG l≤l.length*4294967296:=by
 induction l with
 | nil=>simp[iG]
 | cons f l ih=>
  have h1:=h f (by simp);have h2:=ih (fun f hf=>h f (by simp[hf]));simp only[iG,List.length_cons];omega
def mJ (p:List Fun)(most:Int):Bool:=decide ((p.length:Int)≤20) && decide ((iG p:Int)≤most)
theorem aSa (l:List Fun)(most:Int)(hl:l.length≤4294967296)(hc:∀ f,f∈l→f.code.length≤4294967296):PC P0 g 24 [.imm (l.map bL),.int .i64 most] (.ret (.bool (mJ l most))):=by
 refine eC Tryz.func24 Tryz.ntmps24 Tryz.results24 rfl ?_;simp only[ZZ,simprocAttr,i64];refine rg fun K hK=>?_;simp only[ZZ,simprocAttr,i64];apply hK;refine rg fun K hK=>?_;simp only[ZZ,simprocAttr,i64];apply hK;refine aF fun K1 hK1=>?_;refine rg fun K hK=>?_;simp only[ZZ,simprocAttr,i64];apply hK;refine aT ?_;refine cB (fun n T H=>∃ k:Nat,n=l.length - k∧k≤l.length∧(k=0∨(l.length:Int)≤20)∧T.length=34∧gt T 0 = .imm (l.map bL)∧gt T 1 = .int .i64 most∧gt T 5 = .int .i64 (iG (l.take k))∧gt T 6 = .int .i64 k∧H=[]) (n:=l.length) ⟨0,rfl,by omega,.inl rfl,rfl,rfl,rfl,rfl,rfl,rfl⟩ ?_;rintro n T H ⟨k,rfl,hk,hk20,hT,h0,h1,h5,h6,rfl⟩;rw[eW 34 T hT];simp only[show List.range 34=[0,1,2,3,4,5,6,7,8,9,10,11,12,13,14,15,16,17,18,19,20,21,22,23,24,25,26,27,28,29,30,31,32,33]from rfl,List.map_cons,List.map_nil,h0,h1,h5,h6];by_cases h20:(l.length:Int)≤20
 rotate_right 1
 ·
  refine aF fun K2 hK2=>?_;by_cases hkm:(k:Int) < l.length
  ·refine rg fun K hK=>?_;simp only[ZZ,simprocAttr,i64,hkm,h20];apply hK;apply aD rfl;apply bZ;simp only[WX,if_true];apply hK1;try clear hK1 K1
   refine rg fun K hK=>?_;simp only[ZZ,simprocAttr,i64,h20];apply hK;apply aC;simp only[ZZ,simprocAttr,i64,mJ,h20]
  ·refine rg fun K hK=>?_;simp only[ZZ,simprocAttr,i64,hkm,h20];apply hK;apply aD rfl;apply bZ;simp only[WX,if_true];apply hK1;try clear hK1 K1
   refine rg fun K hK=>?_;simp only[ZZ,simprocAttr,i64,h20];apply hK;apply aC;simp only[ZZ,simprocAttr,i64,mJ,h20]
 refine aF fun K2 hK2=>?_;by_cases hkm:(k:Int) < l.length
 ·have hkn:k < l.length:=by omega
  have hk0:(0:Int)≤k:=by omega
  have hx:=List.getElem?_eq_getElem hkn;generalize l[k]=x at hx;have hs:=Lb l k x hx;have hle:=Hi (l.take k) (fun f hf=>hc f (List.mem_of_mem_take hf));rw[List.length_take]at hle;have hxc:=hc x (List.mem_of_getElem? hx);obtain⟨ar,lo,sl,code⟩:=x;simp only at hs hxc;refine rg fun K hK=>?_;simp only[ZZ,simprocAttr,i64,hkm,h20];apply hK;apply aB rfl;apply aH;simp only[WX];apply hK2;refine bl fun K2 hK2=>?_;refine rl fun K hK=>?_;simp only[ZZ,simprocAttr,i64,hk0,Int.toNat_natCast,List.getElem?_map,hx,Option.map_some];apply hK;try simp only[WX]
  apply hK2;refine rl fun K hK=>?_;simp only[ZZ,simprocAttr,i64,IntWalk.i64_in (k+1) (by omega)];apply hK;try simp only[WX]
  refine⟨l.length - (k+1),by omega,k+1,rfl,by omega,.inr h20,rfl,rfl,rfl,?_,rfl,trivial⟩;rw[hs];show V.int .i64 (IntKind.i64.wrap _)=_;rw[IntWalk.i64_in _ (by omega)];simp
 ·obtain rfl:l.length=k:=by omega
  rw[List.take_length];refine rg fun K hK=>?_;simp only[ZZ,simprocAttr,i64,hkm,h20];apply hK;apply aD rfl;apply bZ;simp only[WX,if_true];apply hK1;try clear hK1 K1
  refine rg fun K hK=>?_;simp only[ZZ,simprocAttr,i64,h20];apply hK;apply aC;simp only[ZZ,simprocAttr,i64,mJ,h20]
end
section
open Go Go.RowKit
variable (g:Gl)
def gA (p:Pn)(r:Rf):Bool:=eK r.at_ 0 ((p.cells.length:Int) - 1) && match p.cells[r.at_.toNat]? with|some c=>c.used && c.gen == r.gen|none=>false
theorem Lj (p:Pn)(r:Rf)(hl:p.cells.length≤4294967296):PC P0 g 174 [bJ p,aS r] (.ret (.bool (gA p r))):=by
 obtain⟨cells,free,most⟩:=p;obtain⟨at_,gen⟩:=r;simp only at hl;refine eC Tryz.func174 Tryz.ntmps174 Tryz.results174 rfl ?_;simp only[ZZ,simprocAttr,i64,bJ,aS];refine rg fun K hK=>?_;simp only[ZZ,simprocAttr,i64,bJ,aS];apply hK;try clear hK K
 refine dr [0,2,1,3,4,5,6,7,8,10,9,11,12,13,14,15,16,17,19,24,18,20,21,22,23,25,26,27,28] (by kernel_rfl) fun K hK=>?_;simp only[ZZ,simprocAttr,i64,bJ,aS,IntWalk.i64_in ((cells.length:Int) - 1) (by omega)];refine mt (Mj g _ _ _) Tryz.func164 rfl ⟨⟨rfl,rfl⟩,rfl⟩ rfl ?_;cases h1:eK at_ 0 ((cells.length:Int) - 1)
 ·simp only[ZZ,simprocAttr,i64,bJ,aS];apply hK;try clear hK K
  apply aC;simp only[ZZ,simprocAttr,i64,bJ,aS,gA,h1]
 have h1':=h1;simp only[eK,Bool.and_eq_true,decide_eq_true_eq]at h1';have h0:0≤at_:=by omega
 have hx:=List.getElem?_eq_getElem (show at_.toNat < cells.length by omega);generalize cells[at_.toNat]'(by omega)=x at hx;obtain⟨cg,used,f⟩:=x;cases h2:used
 ·subst h2;simp only[ZZ,simprocAttr,i64,bJ,aS,h0,List.getElem?_map,hx,Option.map_some,aN];apply hK;try clear hK K
  apply aC;simp only[ZZ,simprocAttr,i64,bJ,aS,gA,h1,hx]
 ·subst h2;simp only[ZZ,simprocAttr,i64,bJ,aS,h0,List.getElem?_map,hx,Option.map_some,aN];apply hK;try clear hK K
  apply aC;simp only[ZZ,simprocAttr,i64,bJ,aS,gA,h1,hx]
theorem aKb (l m:List Int)(hl:l.length≤4294967296)(hm:m.length≤4294967296):PC P0 g 206 [.imm (l.map eI),.imm (m.map eI)] (.ret (.bool (decide (l=m)))):=by
 refine eC Tryz.func206 Tryz.ntmps206 Tryz.results206 rfl ?_;simp only[ZZ,simprocAttr,i64];refine rg fun K hK=>?_;simp only[ZZ,simprocAttr,i64];apply hK;refine aF fun K1 hK1=>?_;by_cases hlen:l.length=m.length
 rotate_right 1
 ·have h1:((l.length:Int) != m.length)=true:=by simp;omega
  have h2:¬l=m:=fun e=>hlen (by rw[e]);refine rg fun K hK=>?_;simp only[ZZ,simprocAttr,i64,h1];apply hK;apply aB rfl;refine rg fun K hK=>?_;simp only[ZZ,simprocAttr,i64];apply hK;apply aC;simp only[ZZ,simprocAttr,i64,h2]
 have h1:((l.length:Int) != m.length)=false:=by simp;omega
 refine rg fun K hK=>?_;simp only[ZZ,simprocAttr,i64,h1];apply hK;apply aD rfl;apply aH;simp only[WX];apply hK1;refine aF fun K1 hK1=>?_;refine rg fun K hK=>?_;simp only[ZZ,simprocAttr,i64];apply hK;refine aT ?_;refine cB (fun n T H=>∃ k:Nat,n=l.length - k∧k≤l.length∧T.length=26∧gt T 0 = .imm (l.map eI)∧gt T 1 = .imm (m.map eI)∧gt T 12 = .int .i64 l.length∧gt T 13 = .int .i64 k∧H=[]∧l.take k=m.take k) (n:=l.length) ⟨0,rfl,by omega,rfl,rfl,rfl,rfl,rfl,rfl,rfl⟩ ?_;rintro n T H ⟨k,rfl,hk,hT,e0,e1,e12,e13,rfl,heq⟩;rw[eW 26 T hT];simp only[show List.range 26=[0,1,2,3,4,5,6,7,8,9,10,11,12,13,14,15,16,17,18,19,20,21,22,23,24,25]from rfl,List.map_cons,List.map_nil,e0,e1,e12,e13];by_cases hkm:(k:Int) < l.length
 ·have hkn:k < l.length:=by omega
  have hk0:(0:Int)≤k:=by omega
  have hx:=List.getElem?_eq_getElem hkn;have hy:=List.getElem?_eq_getElem (show k < m.length by omega);generalize l[k]=x at hx;generalize m[k]'(by omega)=y at hy;refine rg fun K hK=>?_;simp only[ZZ,simprocAttr,i64,hkm];apply hK;refine ct rfl fun K hK=>?_;apply aH;simp only[WX];apply hK;refine bl fun K2 hK2=>?_;refine rg fun K hK=>?_;simp only[ZZ,simprocAttr,i64];apply hK;by_cases hxy:x=y
  ·have h3:(x != y)=false:=by simp[hxy]
   refine dr [0,1,4,5,2,3,6,7,8] (by kernel_rfl) fun K hK=>?_;simp only[ZZ,simprocAttr,i64,hk0,Int.toNat_natCast,List.getElem?_map,hx,hy,Option.map_some,h3];apply hK;apply aD rfl;apply aH;simp only[WX];apply hK2;refine rl fun K hK=>?_;simp only[ZZ,simprocAttr,i64,IntWalk.i64_in (k+1) (by omega)];apply hK;try simp only[WX]
   refine⟨l.length - (k+1),by omega,k+1,rfl,by omega,rfl,rfl,rfl,rfl,rfl,trivial,?_⟩;rw[List.take_add_one,List.take_add_one,hx,hy,heq,hxy]
  ·have h3:(x != y)=true:=by simp[hxy]
   have h4:¬l=m:=fun e=>hxy (by rw[e,hy]at hx;exact(Option.some.inj hx).symm);refine dr [0,1,4,5,2,3,6,7,8] (by kernel_rfl) fun K hK=>?_;simp only[ZZ,simprocAttr,i64,hk0,Int.toNat_natCast,List.getElem?_map,hx,hy,Option.map_some,h3];apply hK;apply aB rfl;refine rg fun K hK=>?_;simp only[ZZ,simprocAttr,i64];apply hK;apply aC;simp only[ZZ,simprocAttr,i64,h4]
 ·refine rg fun K hK=>?_;simp only[ZZ,simprocAttr,i64,hkm];apply hK;refine cf rfl fun K hK=>?_;apply bZ;simp only[WX,if_true];apply hK1;obtain rfl:l.length=k:=by omega
  have h4:l=m:=by rw[List.take_length,hlen,List.take_length]at heq;exact heq
  refine rg fun K hK=>?_;simp only[ZZ,simprocAttr,i64];apply hK;apply aC;simp only[ZZ,simprocAttr,i64,h4]
end
section
open Go Go.RowKit
variable (g:Gl)
def iR (f:Frm)(s l t p:V)(x:Ins)(ac:Act)(ar:V):V:=
 .agg [i64 f.fn,i64 f.pc,s,l,t,i64 f.seed,i64 f.spawned,i64 f.draws,i64 f.state,i64 f.wait,i64 f.out.trap,i64 f.out.v.re,i64 f.out.v.im,i64 f.up.at_,i64 f.up.gen,i64 f.upSlot,p,i64 x.op,i64 x.a,i64 x.b,i64 ac.kind,i64 ac.fn,i64 ac.slot,i64 ac.seed,ar]
def kA:Act:=⟨0,0,0,0,[]⟩
def dP (H H':aA)(b:Nat):Prop:=H.length≤H'.length∧∀ c,c < H.length→c≠b→hb H' c=hb H c
theorem aDu {Q:Ex→List V→aA→Prop}{dst:Option Tmp}{T:List V}{H:aA}{KK:List V→aA→Prop}{b:Nat}{f:Frm}{s l t p:V}{x:Ins}{ac:Act}{ar:V}(o:Outc)
 (hb0:hb H b=some (.row 25 [iR f s l t p x ac ar] false))
 (hk:∀ H',dP H H' b→hb H' b=some (.row 25 [iR {f with state:=2,out:=o} s l t p x {kA with kind:=4} .nils] false)→KK (put T dst (.tup [])) H') :
 aZ (Eg g) (FW (Eg g)) 242 [.ptr b 0 0,cQ o] dst T H KK Q:=by
 have hbl:=aE hb0;have hne:H.length≠b:=by omega
 have hne':b≠H.length:=by omega
 have hbe:(b == H.length)=false:=by simp;omega
 obtain⟨ot,⟨ore,oim⟩⟩:=o;simp only[iR]at hb0;refine en Tryz.func242 Tryz.ntmps242 Tryz.results242 rfl ⟨⟨rfl,rfl⟩,rfl⟩ ?_;simp only[ZZ,simprocAttr,i64];simp only[cQ];refine rg fun K hK=>?_;simp only[ZZ,simprocAttr,i64];apply hK;refine pr [0,1,3,4,5,2,6,7,8,9,10] [2] [H.length] (by kernel_rfl) fun K hK=>?_;simp only[ZZ,simprocAttr,i64,WH,hbl,hb0,hbe,beq_self_eq_true,aW,List.length_set,fL];apply hK;refine rl fun K hK=>?_;simp only[ZZ,simprocAttr,i64,WH,hbl,hb0,aW,List.length_set];apply hK;try simp only[WX]
 simp only[bF,aI,W5,List.mapM_nil,Option.pure_def];refine hk _ ⟨?_,fun c hc hcb=>?_⟩ ?_
 ·simp
 ·rw[bA _ (by simpa using hc)];simp only[aG (Ne.symm hcb)]
 ·rw[bA _ (by simpa using hbl),aW hbl];rfl
theorem aMc {Q:Ex→List V→aA→Prop}{dst:Option Tmp}{T:List V}{H:aA}{KK:List V→aA→Prop}{b:Nat}{f:Frm}{s l t p:V}{x:Ins}{ac:Act}{ar:V}(code:Int)
 (hb0:hb H b=some (.row 25 [iR f s l t p x ac ar] false))
 (hk:∀ H',dP H H' b→hb H' b=some (.row 25 [iR {f with state:=2,out:=⟨code,⟨0,0⟩⟩} s l t p x {kA with kind:=4} .nils] false)→KK (put T dst (.tup [])) H') :
 aZ (Eg g) (FW (Eg g)) 240 [.ptr b 0 0,.int .i64 code] dst T H KK Q:=by
 refine en Tryz.func240 Tryz.ntmps240 Tryz.results240 rfl ⟨⟨rfl,rfl⟩,rfl⟩ ?_;simp only[ZZ,simprocAttr,i64];refine FW.last fun K hK=>FW.region (xA _) ?_;simp only[ZZ,simprocAttr,i64];refine aDu g ⟨code,⟨0,0⟩⟩ hb0 ?_;intro H' h1 h2;simp only[ZZ,simprocAttr,i64];apply hK;simp only[bF,aI,W5,List.mapM_nil,Option.pure_def];exact hk H' h1 h2
theorem aMa {Q:Ex→List V→aA→Prop}{dst:Option Tmp}{T:List V}{H:aA}{KK:List V→aA→Prop}{b bs m:Nat}{f:Frm}{l t p:V}{x:Ins}{ac:Act}{ar:V}{st:List Val}(n:Int)(hn0:0≤n)(hn:n≤m)(hm:m≤1073741824)
 (hb0:hb H b=some (.row 25 [iR f (.sl bs 0 m) l t p x ac ar] false)) (hbs:hb H bs=some (.row 2 (st.map eVal) false)) (hst:m≤st.length)
 (hk:∀ H' b',dP H H' b→hb H' b=some (.row 25 [iR f (.sl bs 0 (m - n.toNat)) l t p x ac ar] false)→H.length≤b'→hb H' b'=some (.row 2 (((st.take m).drop (m - n.toNat)).map eVal) false)→KK (put T dst (.sl b' 0 n.toNat)) H') :
 aZ (Eg g) (FW (Eg g)) 243 [.ptr b 0 0,.int .i64 n] dst T H KK Q:=by
 have hbl:=aE hb0;have hbsl:=aE hbs;have e1:((m:Int) - n).toNat=m - n.toNat:=by omega
 have e2:0≤(m:Int) - n:=by omega
 have e3:(m:Int) - n≤m:=by omega
 simp only[iR]at hb0;refine en Tryz.func243 Tryz.ntmps243 Tryz.results243 rfl ⟨⟨rfl,rfl⟩,rfl⟩ ?_;simp only[ZZ,simprocAttr,i64];refine rg fun K hK=>?_;simp only[ZZ,simprocAttr,i64];apply hK;refine rg fun K hK=>?_;simp only[ZZ,simprocAttr,i64,hb0,IntWalk.i64_in ((m:Int) - n) (by omega)];apply hK;refine rg fun K hK=>?_;simp only[ZZ,simprocAttr,i64,hb0,hbs,qP _ _ _ e2 e3,tR _ _ _ e2 e3,e1];have hel:bS H (.sl bs (m - n.toNat) (m - (m - n.toNat)))=some (((st.take m).drop (m - n.toNat)).map eVal):=by
  rw[eZ,hbs];simp only[elB,List.length_map];rw[if_pos (by omega),←List.map_drop,←List.map_take,List.drop_take]
 have hlen:((st.take m).drop (m - n.toNat)).length=n.toNat:=by simp;omega
 refine cl Tryz.func284 rfl ⟨rfl,rfl⟩ rfl hel (kM _) (by rw[List.length_map,hlen];omega) ?_;simp only[ZZ,simprocAttr,i64,hlen];apply hK;have hne:b≠H.length:=by omega
 refine rg fun K hK=>?_;simp only[ZZ,simprocAttr,i64,WH,hbl,hbsl,hb0,hbs,qP _ _ _ e2 e3,tR _ _ _ e2 e3,e1,Nat.sub_zero];apply hK;refine rg fun K hK=>?_;simp only[ZZ,simprocAttr,i64];apply hK;apply aC;simp only[aM,aI,W1,W5,aL,aO,List.mapM_nil,Option.pure_def];refine hk _ _ ⟨?_,fun c hc hcb=>?_⟩ ?_ (Nat.le_refl _) ?_
 ·simp
 ·rw[bA _ (by simpa using hc),aG (Ne.symm hcb)]
 ·rw[bA _ (by simpa using hbl),aW hbl];rfl
 ·rw[cM _ (by simp)];rfl
theorem aLt {Q:Ex→List V→aA→Prop}{dst:Option Tmp}{T:List V}{H:aA}{KK:List V→aA→Prop}{b bs m:Nat}{f:Frm}{l t p:V}{x:Ins}{ac:Act}{ar:V}{st vs:List Val}{a:V}(hm:m+vs.length≤1073741824)
 (hb0:hb H b=some (.row 25 [iR f (.sl bs 0 m) l t p x ac ar] false)) (hbs:hb H bs=some (.row 2 (st.map eVal) false)) (hst:m≤st.length) (ha:bS H a=some (vs.map eVal))
 (hk:∀ H' b',H.length≤H'.length→(∀ c,c < H.length→c≠b→c≠bs→hb H' c=hb H c)→hb H' b=some (.row 25 [iR f (.sl b' 0 (m+vs.length)) l t p x ac ar] false)→H.length≤b'→hb H' b'=some (.row 2 ((st.take m++vs).map eVal) false)→KK (put T dst (.tup [])) H') :
 aZ (Eg g) (FW (Eg g)) 288 [.ptr b 0 0,a] dst T H KK Q:=by
 have hbl:=aE hb0;have hbsl:=aE hbs;have hne:bs≠b:=fun e=>by subst e;rw[hb0]at hbs;simp at hbs
 have hfold:List.take m (List.map eVal st)++List.map eVal vs=List.map eVal (st.take m++vs):=by rw[←List.map_take,←List.map_append]
 simp only[iR]at hb0;refine en Tryz.func288 Tryz.ntmps288 Tryz.results288 rfl ⟨⟨rfl,rfl⟩,rfl⟩ ?_;simp only[ZZ,simprocAttr,i64];refine FW.last fun K hK=>FW.region (xA _) ?_;simp only[ZZ,simprocAttr,i64,hb0,hbs,ha,kM,hst,hm,WH,hbl,hbsl,aG,hne,hfold,ne_eq,not_false_eq_true];apply hK;simp only[bF,aI,W5,List.mapM_nil,Option.pure_def];refine hk _ H.length ?_ (fun c hc hcb hcs=>?_) ?_ (Nat.le_refl _) ?_
 ·simp
 ·rw[bA _ (by simpa using hc),aG (Ne.symm hcb),aG (Ne.symm hcs)]
 ·rw[bA _ (by simpa using hbl),aW (by simpa using hbl)];rfl
 ·rw[cM _ (by simp)];rfl
end
section
open Go Go.RowKit
variable (g:Gl)
structure Kd where (name:List UInt8) (fields off on:Int)
 deriving DecidableEq
def Ko (k:Kd):List V:=[.str k.name,i64 k.fields,i64 k.off,i64 k.on]
def Px (k:Kd):V:=.agg (Ko k)
def kD:List Kd:=[⟨[112,117,115,104],2,0,1⟩,⟨[108,111,97,100],1,0,1⟩,⟨[115,116,111,114,101],1,1,0⟩,⟨[97,100,100],0,2,1⟩,⟨[115,117,98],0,2,1⟩,⟨[109,117,108],0,2,1⟩,⟨[100,105,118],0,2,1⟩,⟨[99,111,110,106],0,1,1⟩,⟨[100,117,112],0,1,2⟩,⟨[100,114,111,112],0,1,0⟩,⟨[106,117,109,112],1,0,0⟩,⟨[122,101,114,111],1,1,0⟩,⟨[114,97,110,100],0,0,1⟩,⟨[115,112,97,119,110],2,0,0⟩,⟨[106,111,105,110],1,0,1⟩,⟨[114,101,116],0,1,0⟩,⟨[116,114,97,112],1,0,0⟩]
def bE (n:Int):Kd:=if 0≤n∧n < 17 then kD.getD n.toNat ⟨[],0,0,0⟩else⟨[],0,0,0⟩
theorem aDe:PC P0 g 226 [] (.ret (.agg (kD.flatMap Ko))):=by
 refine eC Tryz.func226 Tryz.ntmps226 Tryz.results226 rfl ?_;simp only[ZZ,simprocAttr,i64];refine rg fun K hK=>?_;simp only[ZZ,simprocAttr,i64];apply hK;refine rg fun K hK=>?_;simp only[ZZ,simprocAttr,i64];apply hK;apply aC;simp only[ZZ,simprocAttr,i64,kD,Ko];rfl
theorem Ht (n:Int):PC P0 g 281 [.int .i64 n] (.ret (Px (bE n))):=by
 refine eC Tryz.func281 Tryz.ntmps281 Tryz.results281 rfl ?_;simp only[ZZ,simprocAttr,i64];refine rg fun K hK=>?_;simp only[ZZ,simprocAttr,i64];apply hK;refine aF fun K1 hK1=>?_;by_cases h1:n < 0
 ·have h2:bE n=⟨[],0,0,0⟩:=if_neg (by omega);refine rg fun K hK=>?_;simp only[ZZ,simprocAttr,i64,h1];apply hK;apply aB rfl;refine rg fun K hK=>?_;simp only[ZZ,simprocAttr,i64];apply hK;apply aC;simp only[ZZ,simprocAttr,i64,h2,Px,Ko]
 by_cases h3:17≤n
 ·have h2:bE n=⟨[],0,0,0⟩:=if_neg (by omega);refine rg fun K hK=>?_;simp only[ZZ,simprocAttr,i64,h1,h3];apply hK;apply aB rfl;refine rg fun K hK=>?_;simp only[ZZ,simprocAttr,i64];apply hK;apply aC;simp only[ZZ,simprocAttr,i64,h2,Px,Ko]
 refine rg fun K hK=>?_;simp only[ZZ,simprocAttr,i64,h1,h3];apply hK;apply aD rfl;apply aH;simp only[WX];apply hK1;refine rg fun K hK=>?_;simp only[ZZ,simprocAttr,i64];refine mt (aDe g ) Tryz.func226 rfl ⟨⟨rfl,rfl⟩,rfl⟩ rfl ?_;have:n=0∨n=1∨n=2∨n=3∨n=4∨n=5∨n=6∨n=7∨n=8∨n=9∨n=10∨n=11∨n=12∨n=13∨n=14∨n=15∨n=16:=by omega
 rcases this with rfl|rfl|rfl|rfl|rfl|rfl|rfl|rfl|rfl|rfl|rfl|rfl|rfl|rfl|rfl|rfl|rfl
 all_goals
  simp only[ZZ,simprocAttr,i64,kD,Ko,List.flatMap_cons,List.flatMap_nil];apply hK;apply aC;simp only[ZZ,simprocAttr,i64,bE,kD,Px,Ko];first|done|rfl
theorem Gt (n:Int):PC P0 g 285 [.int .i64 n] (.ret (.tup [i64 (bE n).off,i64 (bE n).on])):=by
 refine eC Tryz.func285 Tryz.ntmps285 Tryz.results285 rfl ?_;simp only[ZZ,simprocAttr,i64];refine rg fun K hK=>?_;simp only[ZZ,simprocAttr,i64];apply hK;refine rg fun K hK=>?_;simp only[ZZ,simprocAttr,i64];refine mt (Ht g _) Tryz.func281 rfl ⟨⟨rfl,rfl⟩,rfl⟩ rfl ?_;simp only[ZZ,simprocAttr,i64,Px,Ko];apply hK;refine dr [0,2,1,4,3,5] (by kernel_rfl) fun K hK=>?_;simp only[ZZ,simprocAttr,i64];apply hK;apply aC;simp only[ZZ,simprocAttr,i64]
theorem aJq (n:Int):PC P0 g 254 [.int .i64 n] (.ret (i64 (bE n).fields)):=by
 refine eC Tryz.func254 Tryz.ntmps254 Tryz.results254 rfl ?_;simp only[ZZ,simprocAttr,i64];refine rg fun K hK=>?_;simp only[ZZ,simprocAttr,i64];apply hK;refine rg fun K hK=>?_;simp only[ZZ,simprocAttr,i64];refine mt (Ht g _) Tryz.func281 rfl ⟨⟨rfl,rfl⟩,rfl⟩ rfl ?_;simp only[ZZ,simprocAttr,i64,Px,Ko];apply hK;apply aC;simp only[ZZ,simprocAttr,i64]
theorem aJx (n:Int):PC P0 g 229 [.int .i64 n] (.ret (.str (bE n).name)):=by
 refine eC Tryz.func229 Tryz.ntmps229 Tryz.results229 rfl ?_;simp only[ZZ,simprocAttr,i64];refine rg fun K hK=>?_;simp only[ZZ,simprocAttr,i64];apply hK;refine rg fun K hK=>?_;simp only[ZZ,simprocAttr,i64];refine mt (Ht g _) Tryz.func281 rfl ⟨⟨rfl,rfl⟩,rfl⟩ rfl ?_;simp only[ZZ,simprocAttr,i64,Px,Ko];apply hK;apply aC;simp only[ZZ,simprocAttr,i64]
end
section
open Go Go.RowKit
structure Acc (H0 H:aA)(s:Nat)(v:V)(es:List V):Prop where
 pre:∀ c,c < H0.length→hb H c=hb H0 c
 len:H0.length≤H.length
 sls:(v = .nils∧es=[])∨∃ b,H0.length≤b∧v = .sl b 0 es.length∧hb H b=some (.row s es false)∧es≠[]
theorem Acc.nil (H0:aA)(s:Nat):Acc H0 H0 s .nils []:=⟨fun _ _=>rfl,Nat.le_refl _,.inl ⟨rfl,rfl⟩⟩
variable {H0 H:aA}{s:Nat}{v:V}{es:List V}
theorem Acc.push (h:Acc H0 H s v es)(l:aA):Acc H0 (H++l) s v es:=by
 refine⟨fun c hc=>?_,by simp;have:=h.len;omega,?_⟩
 ·rw[bA _ (Nat.lt_of_lt_of_le hc h.len)];exact h.pre c hc
 ·rcases h.sls with h1|⟨b,h1,h2,h3⟩
  ·exact .inl h1
  ·exact .inr ⟨b,h1,h2,by rw[bA _ (aE h3.1)];exact h3.1,h3.2⟩
theorem Acc.row (h:Acc H0 H s v es){b i n:Nat}(hv:v = .sl b i n):hb H b=some (.row s es false)∧i=0∧n=es.length∧H0.length≤b:=by
 rcases h.sls with ⟨h1,_⟩|⟨b',h1,h2,h3⟩
 ·rw[h1]at hv;cases hv
 ·rw[h2]at hv;cases hv;exact⟨h3.1,rfl,rfl,h1⟩
theorem Acc.app (h:Acc H0 H s v es){t:TI}{xs:List V}(hk:t.known=true)(hby:t.bytes≤4096)(hs:t.size=s)(hx:aQ s xs=true)(hne:xs≠[])(hle:es.length+xs.length≤1073741824) :
 ∃ v' H',qS t H v (some xs) = .val v' H'∧Acc H0 H' s v' (es++xs):=by
 subst hs;have hlen:=h.len;have hne':¬xs.length=0:=by simpa using hne
 rcases h.sls with ⟨rfl,rfl⟩|⟨b,hb1,rfl,hb2,hne0⟩
 ·refine⟨_,_,by simp only[qS,hk,hby,hx,and_self,if_true];rw[if_neg hne',if_pos (by simpa using hle)],fun c hc=>?_,by simp;omega,.inr ⟨H.length,hlen,by simp,?_,by simpa using hne⟩⟩
  ·rw[bA _ (Nat.lt_of_lt_of_le hc hlen)];exact h.pre c hc
  ·rw[dS];rfl
 ·have hbl:=aE hb2;refine⟨.sl H.length 0 (es.length+xs.length),H.set b .dead++[.row t.size (es++xs) false],by rw[tS,hb2];simp[Pi,hk,hby,hx,hle],fun c hc=>?_,by simp;omega,.inr ⟨H.length,hlen,by simp,?_,by simp[hne]⟩⟩
  ·rw[bA _ (by simp;omega),aG (by omega)];exact h.pre c hc
  ·rw[cM _ (by simp)];rfl
theorem Acc.el (h:Acc H0 H s v es):bS H v=some es:=by
 rcases h.sls with ⟨rfl,rfl⟩|⟨b,hb1,rfl,hb2,hne0⟩
 ·rfl
 ·rw[eZ,hb2];simp[elB]
def mG (es:List V):V:=if es.isEmpty then .nils else .imm es
theorem aBp (es:List V):wk (mG es) = .imm es:=by
 cases es<;>rfl
theorem Acc.fz (h:Acc H0 H s v es)(he:es.mapM (fz H 7)=some es)(hs:aQ s es=true):F.fz H 8 v=some (mG es):=by
 rcases h.sls with ⟨rfl,rfl⟩|⟨b,hb1,rfl,hb2,hne0⟩
 ·rfl
 ·cases es with
  | nil=>exact absurd rfl hne0
  | cons x l=>
   rw[Je,hb2];simp only[mH,Nat.zero_add,Nat.le_refl,if_true,List.drop_zero,List.take_length,he,slO,hs,mG,List.isEmpty_cons,Bool.false_eq_true,if_false]
theorem Acc.len_eq (h:Acc H0 H s v es):pJ v=some es.length:=by
 rcases h.sls with ⟨rfl,rfl⟩|⟨b,hb1,rfl,hb2,hne0⟩<;>rfl
theorem Acc.lenD (h:Acc H0 H s v es)(e:TypeId):F.lenD (.slice e) v=some (.int .i64 es.length):=by
 rcases h.sls with ⟨rfl,rfl⟩|⟨b,hb1,rfl,hb2,hne0⟩<;>rfl
theorem aDx {E:Env}{rec:mC}{t:TI}{l:aA}{xs:List V}{dst:Option Tmp}{T:List V}{H1:aA}{K:List V→aA→Prop}{Q:Ex→List V→aA→Prop}(h:Acc H0 H s v es)(hle:es.length+xs.length≤1073741824)(hk:t.known=true)(hby:t.bytes≤4096)(hs:t.size=s)(hx:aQ s xs=true)(hne:xs≠[])
 (hK:∀ v' H',Acc H0 H' s v' (es++xs)→K (put T dst v') H'):fk1 E rec (qS t (H++l) v (some xs)) dst T H1 K Q:=by
 obtain⟨v',H',e,hA⟩:=(h.push l).app hk hby hs hx hne hle;rw[e];exact hK v' H' hA
def Xo (v v2:V):Prop:=∀ b i n i' n',v = .sl b i n→v2 = .sl b i' n'→False
theorem Xo.symm {v v2:V}(h:Xo v v2):Xo v2 v:=fun b i n i' n' h1 h2=>h b i' n' i n h2 h1
theorem Xo.nil (v:V):Xo .nils v:=fun b i n i' n' h1 _=>by cases h1
theorem Jv {E:Env}{rec:mC}{t:TI}{l:aA}{xs:List V}{dst:Option Tmp}{T:List V}{H1:aA}{K:List V→aA→Prop}{Q:Ex→List V→aA→Prop}{s2:Nat}{v2:V}{es2:List V}(h:Acc H0 H s v es)(h2:Acc H0 H s2 v2 es2)(hd:Xo v v2)(hle:es.length+xs.length≤1073741824)(hk:t.known=true)(hby:t.bytes≤4096)(hs:t.size=s)(hx:aQ s xs=true)(hne:xs≠[])
 (hK:∀ v' H',Acc H0 H' s v' (es++xs)→Acc H0 H' s2 v2 es2→Xo v' v2→(∀ b' i' n',v2 = .sl b' i' n'→b' < H.length)→K (put T dst v') H'):fk1 E rec (qS t (H++l) v (some xs)) dst T H1 K Q:=by
 have hp:=h.push l;have hp2:=h2.push l;obtain⟨v',H',e,hA⟩:=hp.app hk hby hs hx hne hle;rw[e];have hb2:∀ b' i' n',v2 = .sl b' i' n'→b' < H.length:=fun b' i' n' hv=>aE (h2.row hv).1;have key:(∀ c,c < (H++l).length→(∀ i n,v ≠ .sl c i n)→hb H' c=hb (H++l) c)∧∃ n,v' = .sl (H++l).length 0 n:=by
  subst hs;have hne':¬xs.length=0:=by simpa using hne
  rcases hp.sls with ⟨rfl,rfl⟩|⟨b,hb1,rfl,hb2,hne0⟩
  ·simp only[qS,hk,hby,hx,and_self,if_true]at e;rw[if_neg hne',if_pos (by simpa using hle)]at e;simp only[FO.val.injEq]at e;obtain⟨e1,e2⟩:=e;exact⟨fun c hc _=>by rw[←e2,bA _ hc],xs.length,e1.symm⟩
  ·rw[tS,hb2]at e;simp only[Pi,hk,hby,hx,true_and,Nat.zero_add,Nat.le_refl,hle,if_true,FO.val.injEq]at e;obtain⟨e1,e2⟩:=e;exact⟨fun c hc hcn=>by rw[←e2,bA _ (by simpa using hc),aG (by rintro rfl;exact hcn _ _ rfl)],_,e1.symm⟩
 obtain⟨k1,n,k2⟩:=key;refine hK v' H' hA ⟨hA.pre,hA.len,?_⟩ ?_ hb2
 ·rcases hp2.sls with h3|⟨b,h3,h4,h5,h6⟩
  ·exact .inl h3
  ·exact .inr ⟨b,h3,h4,by rw[k1 b (aE h5) (fun i n hv=>hd b i n 0 es2.length hv h4)];exact h5,h6⟩
 ·intro b i n' i' n'' hv1 hv2;rw[k2]at hv1;cases hv1;have:=hb2 _ _ _ hv2;simp at this;omega
end
section
open Go Go.RowKit Go.Maps Go.Sort Go.Shelf Go.Proofs
variable {P:Program}{ρ:Ren}
def Uo {α:Type}(F:Fence)(n:Nat)(P:Program)(g:Nat)(lb:Array Value)(enc:α→Value)(S:List α→Prop)(N:Nat)(w:World):Prop:=
 ∀(l:Nat)(J:List α→World→Prop)(W:World),Below w.heap.size w W→AbidesFrom W.heap.size J→(∀ s W1,J s W1→Below w.heap.size w W1)→
  (∀ pre x W1,J pre W1→pre.length < N→YieldAt F (n - 1) P l #[enc x] W1 fun e W'=>e = .returned (.bool true)∧J (pre++[x]) W'∧KeepsWalks W1 W')→
  J [] W→
  CallsIn F n P g (#[.func (.yield l) #[] #[]]++lb) W fun e W'=>(∃ v,e = .returned v)∧∃ xs,S xs∧J xs W'
set_option maxRecDepth 100000 in
set_option maxHeartbeats 2000000 in
theorem Oi (L:SlLaysZI.n11 P ρ)(F:Fence)(n:Nat)(h11:F.fn (ρ.f 11))(hro:F.round=none)(hn:2≤n)(g:Nat)(lb:Array Value)(hFg:F.fn g)(eg:∀ args w,(callFunc g args).run P w = .ok (.enter g args) w)
 (S:List Int→Prop)(N:Nat)(hN:N≤maxLen)(hNb:N*8≤140737488355328)(w:World)(hseq:Uo F (n - 1) P g lb encZ S N w) :
 CallsIn F n P (ρ.f 11) #[.slice none 0 0,.func (.func g) #[] lb] w fun e w'=>∃(v:Value)(ss:List Int),e = .returned v∧S ss∧w'.ownsRow w.heap.size (ρ.t 26) 1 v ss.length (ss.map encZ)∧(v = .slice none 0 0 ↔ ss=[])∧Below w.heap.size w w':=by
 have h1:1≤n:=by omega
 have mixed:=L.mixed;have t0:=L.t0;have a0:=L.a0;have z0:=L.z0;have v0:=L.v0;have t24:=L.t24;have a24:=L.a24;have z24:=L.z24;have v24:=L.v24;have t26:=L.t26;have a26:=L.a26;have z26:=L.z26;have v26:=L.v26;have t28:=L.t28;have a28:=L.a28;have z28:=L.z28;have v28:=L.v28;have hne:ρ.t 24≠ρ.t 26:=fun e=>by have h:=L.t24;rw[e,L.t26]at h;cases h
 have u0:=run_underlying L.t0;have u24:=run_underlying L.t24;have u26:=run_underlying L.t26;have u28:=run_underlying L.t28;obtain⟨_,_,FG⟩:=L.f11;refine callsIn_of_wp_marks FG rfl h11 ?_ hro;simp only[SlBodyZ.n11_ntmps ρ,List.size_toArray,List.length_cons,List.length_nil,Nat.reduceAdd,Nat.reduceSub,Array.replicate_succ,Array.replicate_zero,List.push_toArray,List.append_toArray,List.nil_append,List.cons_append]
 gi_wp2
 refine wpIn_rangeFunc ?_;intro fn hfn;rw[hro];obtain⟨W0,hW0⟩:∃ W0,w.alloc (.cells #[.slice none 0 0] (ρ.t 24))=W0:=⟨_,rfl⟩;have hs0:W0.heap.size=w.heap.size+1:=by rw[←hW0];simp
 have hv0:W0.heap[w.heap.size]?=some (.cells #[.slice none 0 0] (ρ.t 24) (0,0)):=by rw[←hW0];exact World.alloc_heap_new w _
 have hb0:Below w.heap.size w W0:=by rw[←hW0];exact(Below.refl _ w).alloc (Nat.le_refl _) _
 rw[hW0];obtain⟨W1,hW1⟩:∃ W1,(W0.alloc (.deferred (some []))).alloc (.loop (AnyZI.apRec ρ fn (.func (.func g) #[] lb) w.heap.size W0.heap.size .ready none))=W1:=⟨_,rfl⟩;have hold:∀ k,k < W0.heap.size→W1.heap[k]?=W0.heap[k]?:=fun k hk=>by
  rw[←hW1];exact(Below.heap_alloc _ _ k (by simp;omega)).trans (Below.heap_alloc _ _ k hk)
 have hb1:Below w.heap.size w W1:=by rw[←hW1];exact(hb0.alloc hb0.size _).alloc (by have:=hb0.size;simp;omega) _
 have hs1:W1.heap.size=W0.heap.size+2:=by rw[←hW1];simp
 have hM:AnyZI.ApAt ρ w fn (.func (.func g) #[] lb) w.heap.size (W0.heap.size+1) W0.heap.size [] W1:=
  ⟨⟨_,(hold w.heap.size (by omega)).trans hv0,⟨rfl,.inl ⟨rfl,rfl⟩⟩,by simp⟩,
   by rw[←hW1];have:=World.alloc_heap_new (W0.alloc (.deferred (some []))) (.loop (AnyZI.apRec ρ fn (.func (.func g) #[] lb) w.heap.size W0.heap.size .ready none));rwa [World.size_alloc]at this,
   by rw[←hW1];exact(Below.heap_alloc _ _ _ (by simp)).trans (World.alloc_heap_new W0 _),hb1⟩
 refine⟨W0.heap.size+1,[{target:=.collected W0.heap.size,args:=#[]}],W1,{target:=.fn (.func g) lb,args:=#[.func (.yield (W0.heap.size+1)) #[] #[]]},W1,g,
  #[.func (.yield (W0.heap.size+1)) #[] #[]]++lb,W1,?_,?_,?_,?_,fun _=>h1,?_⟩
 ·rw[←hW1];exact run_enterLoop_outer _ _ _ _ _
 ·simp[resolve,go_sem]
 ·intro f' hf';simp[Target.leads]at hf';subst hf';exact hFg
 ·simp[invoke,go_sem,eg]
 ·refine(hseq (W0.heap.size+1) (AnyZI.ApAt ρ w fn (.func (.func g) #[] lb) w.heap.size (W0.heap.size+1) W0.heap.size) W1 hb1 (AnyZI.ap_abides ρ _ _ _ _ _ _ _ hb1.size) (fun _ _ h=>h.below)
   (fun pre x W hJ hl=>AnyZI.apYield {L with} F (n - 1 - 1) w fn hfn _ w.heap.size (W0.heap.size+1) W0.heap.size (by omega) (by omega) (by omega) (Nat.le_refl _) (by omega) N hN hNb pre x W hJ hl) hM).mono ?_
  rintro e W2 ⟨⟨v0,rfl⟩,ss,hS,h2⟩;obtain⟨v,hv,hrow,hnil⟩:=h2.box;have hend:=run_endLoop (P:=P) h2.L (by simp[AnyZI.apRec]);obtain⟨W3,hW3⟩:∃ W3,W2.putObj (W0.heap.size+1) (.loop {AnyZI.apRec ρ fn (.func (.func g) #[] lb) w.heap.size W0.heap.size .ready none with state:=.exhausted})=W3:=⟨_,rfl⟩;rw[hW3]at hend;have hg3:W2.grownBy W3 (some (W0.heap.size+1)):=by rw[←hW3];exact grownBy_putObj_a _ _ _
  have hv3:W3.heap[w.heap.size]?=some (.cells #[v] (ρ.t 24) (0,0)):=by rw[←hW3];exact(World.putObj_heap_other (by omega)).trans hv
  have hK3:W3.heap[W0.heap.size]?=some (.deferred (some [])):=by rw[←hW3];exact(World.putObj_heap_other (by omega)).trans h2.K
  have hrow3:=hrow.kept hg3 (ownsRow_ne_a hrow h2.L (fun cur e=>by first|cases e|exact hne (Obj.cells.inj e).2.1));have hb3:Below w.heap.size w W3:=h2.below.grown hg3 h2.below.size (fun k e=>by cases e;omega);obtain⟨hc3,hf3⟩:=cell_of_box_a hv3;clear hW3;refine⟨none,W3,hend,?_⟩
  gi_wp2
  rw[←hs0];refine⟨by simp,.inl ⟨_,_,rfl,run_takeDeferred hK3,?_⟩⟩;exact⟨_,results_tmp rfl _ _ _,v,ss,rfl,hS,hrow3.kept (grownBy_putObj_a _ _ _) (ownsRow_ne_a hrow3 hK3 (fun cur e=>by first|cases e|exact hne (Obj.cells.inj e).2.1)),hnil,hb3.grown (grownBy_putObj_a _ _ _) hb3.size (fun k e=>by cases e;omega)⟩
set_option maxHeartbeats 1000000 in
theorem Kw (L:SlLaysZI.n8 P ρ)(F:Fence)(n:Nat)(h8:F.fn (ρ.f 8))(h11:F.fn (ρ.f 11))(hro:F.round=none)(hn:3≤n)(g:Nat)(lb:Array Value)(hFg:F.fn g)(eg:∀ args w,(callFunc g args).run P w = .ok (.enter g args) w)
 (S:List Int→Prop)(N:Nat)(hN:N≤maxLen)(hNb:N*8≤140737488355328)(w:World)(hseq:Uo F (n - 1 - 1) P g lb encZ S N w) :
 CallsIn F n P (ρ.f 8) #[.func (.func g) #[] lb] w fun e w'=>∃(v:Value)(ss:List Int),e = .returned v∧S ss∧w'.ownsRow w.heap.size (ρ.t 26) 1 v ss.length (ss.map encZ)∧(v = .slice none 0 0 ↔ ss=[])∧Below w.heap.size w w':=by
 have h1:1≤n:=by omega
 have e11:∀ args w,(callFunc (ρ.f 11) args).run P w = .ok (.enter (ρ.f 11) args) w:=L.f11.enters rfl;have mixed:=L.mixed;have t0:=L.t0;have a0:=L.a0;have z0:=L.z0;have v0:=L.v0;have t24:=L.t24;have a24:=L.a24;have z24:=L.z24;have v24:=L.v24;have t26:=L.t26;have a26:=L.a26;have z26:=L.z26;have v26:=L.v26;have t28:=L.t28;have a28:=L.a28;have z28:=L.z28;have v28:=L.v28;have u0:=run_underlying L.t0;have u24:=run_underlying L.t24;have u26:=run_underlying L.t26;have u28:=run_underlying L.t28;obtain⟨_,_,FG⟩:=L.f8;refine callsIn_of_wp FG rfl h8 ?_ hro;simp only[SlBodyZ.n8_ntmps ρ,List.size_toArray,List.length_cons,List.length_nil,Nat.reduceAdd,Nat.reduceSub,Array.replicate_succ,Array.replicate_zero,List.push_toArray,List.append_toArray,List.nil_append,List.cons_append]
 gi_wp2_with (gi_at_fn (ρ.f 11);refine(Oi {L with} F (n - 1) h11 hro (by omega) g lb hFg eg S N hN hNb _ hseq).mono ?_;rintro e w' ⟨v,ss,rfl,hS,hrow,hnil,hb⟩)
 go_ret
 exact⟨v,ss,rfl,hS,hrow,hnil,hb⟩
set_option maxRecDepth 100000 in
set_option maxHeartbeats 2000000 in
theorem Ay (L:SlLaysZI.n6 P ρ)(F:Fence)(n:Nat)(h6:F.fn (ρ.f 6))(h8:F.fn (ρ.f 8))(h9:F.fn (ρ.f 9))(h11:F.fn (ρ.f 11))(hro:F.round=none)(hn:4≤n)(hsort:AnyZI.SortsIn P ρ F (n - 1))(e9:∀ args w,(callFunc (ρ.f 9) args).run P w = .ok (.enter (ρ.f 9) args) w)(g:Nat)(lb:Array Value)(hFg:F.fn g)(eg:∀ args w,(callFunc g args).run P w = .ok (.enter g args) w)
 (zs:List Int)(hN:zs.length≤maxLen)(hNb:zs.length*8≤140737488355328)(w:World)(hseq:Uo F (n - 1 - 1 - 1) P g lb encZ (fun ys=>ys=zs) zs.length w) :
 CallsIn F n P (ρ.f 6) #[.func (.func g) #[] lb] w fun e w'=>∃(v:Value),e = .returned v∧
  w'.ownsRow w.heap.size (ρ.t 26) 1 v zs.length ((zs.mergeSort (fun x y=>decide (x≤y))).map encZ)∧(v = .slice none 0 0 ↔ zs=[])∧Below w.heap.size w w':=by
 have h1:1≤n:=by omega
 have e8:∀ args w,(callFunc (ρ.f 8) args).run P w = .ok (.enter (ρ.f 8) args) w:=L.f8.enters rfl;have mixed:=L.mixed;have t0:=L.t0;have a0:=L.a0;have z0:=L.z0;have v0:=L.v0;have t24:=L.t24;have a24:=L.a24;have z24:=L.z24;have v24:=L.v24;have t26:=L.t26;have a26:=L.a26;have z26:=L.z26;have v26:=L.v26;have t28:=L.t28;have a28:=L.a28;have z28:=L.z28;have v28:=L.v28;have u0:=run_underlying L.t0;have u24:=run_underlying L.t24;have u26:=run_underlying L.t26;have u28:=run_underlying L.t28;obtain⟨_,_,FG⟩:=L.f6;refine callsIn_of_wp FG rfl h6 ?_ hro;simp only[SlBodyZ.n6_ntmps ρ,List.size_toArray,List.length_cons,List.length_nil,Nat.reduceAdd,Nat.reduceSub,Array.replicate_succ,Array.replicate_zero,List.push_toArray,List.append_toArray,List.nil_append,List.cons_append]
 gi_wp2_with (gi_at_fn (ρ.f 8);refine(Kw {L with} F (n - 1) h8 h11 hro (by omega) g lb hFg eg _ _ hN hNb _ hseq).mono ?_;rintro e W ⟨v,ss,rfl,rfl,hrow,hnil,hb⟩)
 rcases hrow.2 with ⟨rfl,hz⟩|⟨gb,cap,cur,rfl,hbase,hgb,r1,r2,r3,r4⟩
 ·have hss:ss=[]:=List.eq_nil_of_length_eq_zero hz;subst hss
  gi_wp2_with (gi_at_fn (ρ.f 9);refine(hsort.2 none 0 W).mono ?_;rintro e w' ⟨rfl,rfl⟩)
  go_ret
  exact⟨.slice none 0 0,rfl,by simpa using hrow,by simp,hb⟩
 ·have hH:Holds encZ W gb 0 ss.toArray:=holds_of_block_i hgb (by simpa using r4);have hgl:gb < W.heap.size:=(Array.getElem?_eq_some_iff.1 hgb).1;have hsz:ss.length < 4611686018427387904:=by omega
  have cS:=hsort.1 gb 0 cap ss W hH hgl hsz
  gi_wp2_with (gi_at_fn (ρ.f 9);refine cS.mono ?_;rintro e w' ⟨rfl,nn,os,rfl⟩)
  go_ret
  exact⟨_,rfl,ownsRow_sorted_i (by simp) hbase hgb r1 r2 r3,hnil,hb.grown (grownBy_sorted_i _) hb.size (fun j hj=>by cases hj;exact hbase)⟩
end
end Go.Proofs.YtaimmacnafoanaaGreatDoor.F
namespace Go.Proofs.YtaimmacnafoanaaGreatDoor
open Go Go.RowKit Go.Maps Go.Sort Go.Shelf Go.Proofs
def Tryz.sorted207_ren:Go.Shelf.Ren:=⟨fun|6=>207|8=>266|9=>267|11=>309|13=>273|12=>310|23=>319|24=>320|14=>340|15=>341|16=>342|17=>343|18=>344|19=>345|20=>346|21=>347|22=>348|25=>364|26=>350|27=>351|28=>365|29=>366|30=>367|31=>372|n=>n,fun|26=>3|28=>287|24=>32|0=>0|3=>3|37=>270|48=>330|50=>378|4=>4|40=>391|39=>390|45=>244|5=>5|9=>9|51=>421|55=>425|57=>436|58=>335|33=>174|n=>n,fun|n=>n⟩
theorem Tryz.sorted207:Go.Proofs.SlLaysZI.n6 Tryz.prog Tryz.sorted207_ren where
 mixed:=by kernel_rfl
 f6:=⟨ "slices.Sorted[int]",by decide,Tryz.func207.trans (congrArg some (by kernel_rfl))⟩
 f8:=⟨ "slices.Collect[int]",by decide,Tryz.func266.trans (congrArg some (by kernel_rfl))⟩
 f11:=⟨ "slices.AppendSeq[[]int,int]",by decide,Tryz.func309.trans (congrArg some (by kernel_rfl))⟩
 t0:=Tryz.underlying0
 a0:=Tryz.isAgg0
 z0:=Tryz.sizeOf0
 v0:=Tryz.zeroValue0
 t24:=Tryz.underlying32
 a24:=Tryz.isAgg32
 z24:=Tryz.sizeOf32
 v24:=Tryz.zeroValue32
 t26:=Tryz.underlying3
 a26:=Tryz.isAgg3
 z26:=Tryz.sizeOf3
 v26:=Tryz.zeroValue3
 t28:=Tryz.underlying287
 a28:=Tryz.isAgg287
 z28:=Tryz.sizeOf287
 v28:=Tryz.zeroValue287
 i26:=by kernel_rfl
def Tryz.sort267_ren:Go.Shelf.Ren:=⟨fun|5=>267|8=>273|7=>310|19=>319|20=>320|10=>340|11=>341|12=>342|13=>343|14=>344|15=>345|16=>346|17=>347|18=>348|30=>364|31=>350|32=>351|33=>365|34=>366|35=>367|40=>372|n=>n,fun|23=>32|25=>3|3=>3|32=>270|22=>32|0=>0|44=>330|46=>378|4=>4|36=>391|35=>390|41=>244|5=>5|9=>9|53=>421|57=>425|63=>436|64=>335|n=>n,fun|n=>n⟩
theorem Tryz.sort267:Go.Proofs.SlLaysM.n5 Tryz.prog Tryz.sort267_ren where
 mixed:=by kernel_rfl
 f5:=⟨ "slices.Sort[[]int,int]",by decide,Tryz.func267.trans (congrArg some (by kernel_rfl))⟩
 f7:=⟨ "slices.pdqsortOrdered[int]",by decide,Tryz.func310.trans (congrArg some (by kernel_rfl))⟩
 f8:=Tryz.func273.trans (congrArg some (by kernel_rfl))
 f10:=⟨ "slices.insertionSortOrdered[int]",by decide,Tryz.func340.trans (congrArg some (by kernel_rfl))⟩
 f11:=⟨ "slices.heapSortOrdered[int]",by decide,Tryz.func341.trans (congrArg some (by kernel_rfl))⟩
 f12:=⟨ "slices.breakPatternsOrdered[int]",by decide,Tryz.func342.trans (congrArg some (by kernel_rfl))⟩
 f13:=⟨ "slices.choosePivotOrdered[int]",by decide,Tryz.func343.trans (congrArg some (by kernel_rfl))⟩
 f14:=⟨ "slices.reverseRangeOrdered[int]",by decide,Tryz.func344.trans (congrArg some (by kernel_rfl))⟩
 f15:=⟨ "slices.partialInsertionSortOrdered[int]",by decide,Tryz.func345.trans (congrArg some (by kernel_rfl))⟩
 f16:=⟨ "cmp.Less[int]",by decide,Tryz.func346.trans (congrArg some (by kernel_rfl))⟩
 f17:=⟨ "slices.partitionEqualOrdered[int]",by decide,Tryz.func347.trans (congrArg some (by kernel_rfl))⟩
 f18:=⟨ "slices.partitionOrdered[int]",by decide,Tryz.func348.trans (congrArg some (by kernel_rfl))⟩
 f19:=Tryz.func319.trans (congrArg some (by kernel_rfl))
 f20:=Tryz.func320.trans (congrArg some (by kernel_rfl))
 f30:=⟨ "slices.siftDownOrdered[int]",by decide,Tryz.func364.trans (congrArg some (by kernel_rfl))⟩
 f31:=Tryz.func350.trans (congrArg some (by kernel_rfl))
 f32:=Tryz.func351.trans (congrArg some (by kernel_rfl))
 f33:=⟨ "slices.medianAdjacentOrdered[int]",by decide,Tryz.func365.trans (congrArg some (by kernel_rfl))⟩
 f34:=⟨ "slices.medianOrdered[int]",by decide,Tryz.func366.trans (congrArg some (by kernel_rfl))⟩
 f35:=⟨ "cmp.isNaN[int]",by decide,Tryz.func367.trans (congrArg some (by kernel_rfl))⟩
 f40:=⟨ "slices.order2Ordered[int]",by decide,Tryz.func372.trans (congrArg some (by kernel_rfl))⟩
 t0:=Tryz.underlying0
 a0:=Tryz.isAgg0
 z0:=Tryz.sizeOf0
 v0:=Tryz.zeroValue0
 t3:=Tryz.underlying3
 a3:=Tryz.isAgg3
 z3:=Tryz.sizeOf3
 v3:=Tryz.zeroValue3
 t4:=Tryz.underlying4
 a4:=Tryz.isAgg4
 z4:=Tryz.sizeOf4
 v4:=Tryz.zeroValue4
 t5:=Tryz.underlying5
 a5:=Tryz.isAgg5
 z5:=Tryz.sizeOf5
 v5:=Tryz.zeroValue5
 t9:=Tryz.underlying9
 a9:=Tryz.isAgg9
 z9:=Tryz.sizeOf9
 v9:=Tryz.zeroValue9
 t22:=Tryz.underlying32
 a22:=Tryz.isAgg32
 z22:=Tryz.sizeOf32
 v22:=Tryz.zeroValue32
 t23:=Tryz.underlying32
 a23:=Tryz.isAgg32
 z23:=Tryz.sizeOf32
 v23:=Tryz.zeroValue32
 t25:=Tryz.underlying3
 a25:=Tryz.isAgg3
 z25:=Tryz.sizeOf3
 v25:=Tryz.zeroValue3
 t32:=Tryz.underlying270
 a32:=Tryz.isAgg270
 z32:=Tryz.sizeOf270
 v32:=Tryz.zeroValue270
 t35:=Tryz.underlying390
 a35:=Tryz.isAgg390
 z35:=Tryz.sizeOf390
 v35:=Tryz.zeroValue390
 t36:=Tryz.underlying391
 a36:=Tryz.isAgg391
 z36:=Tryz.sizeOf391
 v36:=Tryz.zeroValue391
 t41:=Tryz.underlying244
 a41:=Tryz.isAgg244
 z41:=Tryz.sizeOf244
 v41:=Tryz.zeroValue244
 t44:=Tryz.underlying330
 a44:=Tryz.isAgg330
 z44:=Tryz.sizeOf330
 v44:=Tryz.zeroValue330
 t46:=Tryz.underlying378
 a46:=Tryz.isAgg378
 z46:=Tryz.sizeOf378
 v46:=Tryz.zeroValue378
 t53:=Tryz.underlying421
 a53:=Tryz.isAgg421
 z53:=Tryz.sizeOf421
 v53:=Tryz.zeroValue421
 t57:=Tryz.underlying425
 a57:=Tryz.isAgg425
 z57:=Tryz.sizeOf425
 v57:=Tryz.zeroValue425
 t63:=Tryz.underlying436
 a63:=Tryz.isAgg436
 z63:=Tryz.sizeOf436
 v63:=Tryz.zeroValue436
 t64:=Tryz.underlying335
 a64:=Tryz.isAgg335
 z64:=Tryz.sizeOf335
 v64:=Tryz.zeroValue335
end Go.Proofs.YtaimmacnafoanaaGreatDoor
namespace Go.Proofs.YtaimmacnafoanaaGreatDoor.F
section
open Go Go.RowKit Go.Maps Go.Sort Go.Shelf Go.Proofs
attribute [local go_sem] Oper.semAt_some
set_option maxRecDepth 100000 in
set_option maxHeartbeats 2000000 in
theorem Kl (F:Fence)(n:Nat)(h7:F.fn 268)(hro:F.round=none)(hn:1≤n)(Bs Bo b off cap:Nat)(zs:List Int)(hreach:zs.length*8≤140737488351232)(w:World)(hBs:Bs < w.heap.size)(hb:b < w.heap.size)
 (hc0:w.cell? ⟨Bs,Bo,none⟩=some (.slice (some ⟨b,off,none⟩) zs.length cap))(hc:∀ j,j < zs.length→w.cell? ⟨b,off+j,none⟩=some (.int .i64 (zs[j]?.getD 0))) :
 Uo F n Tryz.prog 268 #[.pointer (some ⟨Bs,Bo,none⟩)] encZ (fun ys=>ys=zs) zs.length w:=fun l J W hW hAb hJB hY h0=>by
 have hBs':=(hW.cell (p:=⟨Bs,Bo,none⟩) hBs).trans hc0;refine callsIn_of_wp Tryz.func268 rfl h7 ?_ hro;simp only[Tryz.ntmps268,List.size_toArray,List.length_cons,List.length_nil,Nat.reduceAdd,Nat.reduceSub,Array.replicate_succ,Array.replicate_zero,List.push_toArray,List.append_toArray,List.nil_append,List.cons_append]
 gi_wp2
 gi_loopw [7] (fun i wr=>∃ k:Nat,k≤zs.length∧i = .int .i64 k∧J (zs.take k) wr)
  (fun i _=>zs.length - (RowKit.intOf i).toNat)
 case atStart=>exact⟨0,Nat.zero_le _,rfl,h0⟩
 case round=>
  obtain⟨k,hk,rfl,hJs⟩:=hrel;have hnx:=hJB _ _ hJs;have hcx:k < zs.length→wr.cell? ⟨b,off+k,none⟩=some (.int .i64 (zs[k]?.getD 0)):=fun h=>(hnx.cell (p:=⟨b,off+k,none⟩) hb).trans (hc k h);by_cases hlt:k < zs.length
  ·obtain⟨fn,tmps,assign,body,hy,hR⟩:=hY (zs.take k) zs[k] wr hJs (by rw[List.length_take];omega);have hcx':=hcx hlt;simp only[encZ]at hy
   gi_wp2
   refine hR.mono ?_;rintro e W3 ⟨rfl,hJ3,hk3⟩
   gi_wp2
   go_roundw
   case rel=>
    refine⟨k+1,by omega,by simp,?_⟩;rw[List.take_add_one,List.getElem?_eq_getElem hlt];exact hJ3
   case measure=>simp[RowKit.intOf];omega
  ·obtain rfl:k=zs.length:=by omega
   gi_wp2
   go_end0
   exact⟨⟨_,rfl⟩,_,rfl,by rw[List.take_length]at hJs;exact hJs⟩
set_option maxRecDepth 100000 in
set_option maxHeartbeats 1000000 in
theorem xB (F:Fence)(n:Nat)(h7:F.fn 268)(hro:F.round=none)(Bs Bo cap:Nat)(a:Option Addr)(w:World)(hBs:Bs < w.heap.size)
 (hc0:w.cell? ⟨Bs,Bo,none⟩=some (.slice a 0 cap)) :
 Uo F n Tryz.prog 268 #[.pointer (some ⟨Bs,Bo,none⟩)] encZ (fun ys=>ys=[]) 0 w:=fun l J W hW hAb hJB hY h0=>by
 have hBs':=(hW.cell (p:=⟨Bs,Bo,none⟩) hBs).trans hc0;refine callsIn_of_wp Tryz.func268 rfl h7 ?_ hro;simp only[Tryz.ntmps268,List.size_toArray,List.length_cons,List.length_nil,Nat.reduceAdd,Nat.reduceSub,Array.replicate_succ,Array.replicate_zero,List.push_toArray,List.append_toArray,List.nil_append,List.cons_append]
 gi_wp2
 gi_loopw [7] (fun i wr=>i = .int .i64 0∧J [] wr) (fun _ _=>0)
 case atStart=>exact⟨rfl,h0⟩
 case round=>
  obtain⟨rfl,hJs⟩:=hrel
  gi_wp2
  go_end0
  exact⟨⟨_,rfl⟩,_,rfl,hJs⟩
theorem Tg:AnyZI.SortsIn Tryz.prog Tryz.sorted207_ren Fence.wide 3:=
 ⟨fun blk off cap ss W hH hb hs=>callsIn_wide.2 (AnyM.slices_Sort_int Tryz.sort267 blk off cap ss W hH hb hs),
  fun p cap W=>callsIn_wide.2 (AnyM.slices_Sort_int_none Tryz.sort267 p cap W)⟩
theorem sorted207 (Bs Bo cap:Nat)(a:Option Addr)(zs:List Int)(hl:zs.length≤1073741824)(w:World)(hBs:Bs < w.heap.size)
 (hc0:w.cell? ⟨Bs,Bo,none⟩=some (.slice a zs.length cap))(hc:∀ j,j < zs.length→∃ b off,a=some ⟨b,off,none⟩∧b < w.heap.size)(hc':∀ b off,a=some ⟨b,off,none⟩→∀ j,j < zs.length→w.cell? ⟨b,off+j,none⟩=some (.int .i64 (zs[j]?.getD 0))) :
 Calls Tryz.prog 207 #[.func (.func 268) #[] #[.pointer (some ⟨Bs,Bo,none⟩)]] w fun e w'=>∃(v:Value),e = .returned v∧
  w'.ownsRow w.heap.size 3 1 v zs.length ((zs.mergeSort (fun x y=>decide (x≤y))).map encZ)∧(v = .slice none 0 0 ↔ zs=[])∧Below w.heap.size w w':=by
 have hseq:Uo Fence.wide 1 Tryz.prog 268 #[.pointer (some ⟨Bs,Bo,none⟩)] encZ (fun ys=>ys=zs) zs.length w:=by
  rcases Nat.eq_zero_or_pos zs.length with h0|h0
  ·have:zs=[]:=List.eq_nil_of_length_eq_zero h0;subst this;exact xB Fence.wide 1 trivial rfl Bs Bo cap a w hBs hc0
  ·obtain⟨b,off,rfl,hb⟩:=hc 0 h0;exact Kl Fence.wide 1 trivial rfl (Nat.le_refl _) Bs Bo b off cap zs (by omega) w hBs hb hc0 (hc' b off rfl)
 exact callsIn_wide.1 (Ay Tryz.sorted207 Fence.wide 4 trivial trivial trivial trivial rfl (Nat.le_refl _) Tg (Tryz.sort267.f5.enters rfl) 268 _ trivial (enters_of Tryz.func268 (by kernel_rfl) rfl) zs (by simp[maxLen];omega) (by omega) w hseq)
end
section
open Go Go.RowKit Go.Shelf Go.Proofs
attribute [local go_sem] Oper.semAt_some
def Dm (r:Int×Int):List Value:=[.int .i64 r.1,.int .i64 r.2]
set_option maxRecDepth 100000 in
set_option maxHeartbeats 2000000 in
theorem Ll (F:Fence)(n:Nat)(h7:F.fn 218)(hro:F.round=none)(hn:1≤n)(Bs Bo b off cap:Nat)(zs:List (Int×Int))(hreach:zs.length*16≤140737488351232)(w:World)(hBs:Bs < w.heap.size)(hb:b < w.heap.size)
 (hc0:w.cell? ⟨Bs,Bo,none⟩=some (.slice (some ⟨b,off,none⟩) zs.length cap))(hc1:∀ j,j < zs.length→w.cell? ⟨b,off+j*2,none⟩=some (.int .i64 (zs[j]?.getD (0,0)).1))(hc2:∀ j,j < zs.length→w.cell? ⟨b,off+j*2+1,none⟩=some (.int .i64 (zs[j]?.getD (0,0)).2)) :
 SeqStopsK F n Tryz.prog 218 #[.pointer (some ⟨Bs,Bo,none⟩)] (fun r=>#[qV r]) (Below w.heap.size) (fun ys=>ys=zs) (fun _=>True) zs.length w:=fun l J Jx W hW hAb hAx hY h0=>by
 have hBs':=(hW.cell (p:=⟨Bs,Bo,none⟩) hBs).trans hc0;refine callsIn_of_wp Tryz.func218 rfl h7 ?_ hro;simp only[Tryz.ntmps218,List.size_toArray,List.length_cons,List.length_nil,Nat.reduceAdd,Nat.reduceSub,Array.replicate_succ,Array.replicate_zero,List.push_toArray,List.append_toArray,List.nil_append,List.cons_append]
 gi_wp2
 gi_loopw [7] (fun i wr=>∃ k:Nat,k≤zs.length∧i = .int .i64 k∧J (zs.take k) wr∧Below w.heap.size w wr)
  (fun i _=>zs.length - (RowKit.intOf i).toNat)
 case atStart=>exact⟨0,Nat.zero_le _,rfl,h0,hW⟩
 case round=>
  obtain⟨k,hk,rfl,hJs,hnx⟩:=hrel;by_cases hlt:k < zs.length
  ·have hcx1:=(hnx.cell (p:=⟨b,off+k*2,none⟩) hb).trans (hc1 k hlt);have hcx2:=(hnx.cell (p:=⟨b,off+k*2+1,none⟩) hb).trans (hc2 k hlt);have e0:zs[k]?.getD (0,0)=zs[k]:=by rw[List.getElem?_eq_getElem hlt];rfl
   obtain⟨fn,tmps,assign,body,hy,hR⟩:=hY (zs.take k) zs[k] (wr.alloc (.cells #[.int .i64 zs[k].1,.int .i64 zs[k].2] 38)) (hAb _ _ _ none hJs (World.grownBy_alloc _ _ _) (fun r e=>by cases e)) (by rw[List.length_take];omega);simp only[qV]at hy
   gi_wp2
   refine hR.mono ?_;have hnx':Below w.heap.size w (wr.alloc (.cells #[.int .i64 zs[k].1,.int .i64 zs[k].2] 38)):=hnx.alloc hnx.size _;rintro e W3 (⟨rfl,hJ3,hk3⟩|⟨rfl,hJx3⟩)
   ·gi_wp2
    go_roundw
    case rel=>exact⟨k+1,by omega,by simp,by rw[List.take_add_one,List.getElem?_eq_getElem hlt];exact hJ3,hnx'.trans hk3⟩
    case measure=>simp[RowKit.intOf];omega
   ·gi_wp2
    refine bodyPost_ret (results_none rfl _ _ _) rfl ?_;exact⟨⟨_,rfl⟩,.inr ⟨_,trivial,hJx3⟩⟩
  ·obtain rfl:k=zs.length:=by omega
   gi_wp2
   go_end0
   exact⟨⟨_,rfl⟩,.inl ⟨_,rfl,by rw[List.take_length]at hJs;exact hJs⟩⟩
end
section
open Go Go.RowKit Go.Shelf Go.Proofs
attribute [local go_sem] Oper.semAt_some
set_option maxRecDepth 100000 in
set_option maxHeartbeats 1000000 in
theorem xC (F:Fence)(n:Nat)(h7:F.fn 218)(hro:F.round=none)(Bs Bo cap:Nat)(a:Option Addr)(w:World)(hBs:Bs < w.heap.size)
 (hc0:w.cell? ⟨Bs,Bo,none⟩=some (.slice a 0 cap)) :
 SeqStopsK F n Tryz.prog 218 #[.pointer (some ⟨Bs,Bo,none⟩)] (fun r=>#[qV r]) (Below w.heap.size) (fun ys=>ys=[]) (fun _=>True) 0 w:=fun l J Jx W hW hAb hAx hY h0=>by
 have hBs':=(hW.cell (p:=⟨Bs,Bo,none⟩) hBs).trans hc0;refine callsIn_of_wp Tryz.func218 rfl h7 ?_ hro;simp only[Tryz.ntmps218,List.size_toArray,List.length_cons,List.length_nil,Nat.reduceAdd,Nat.reduceSub,Array.replicate_succ,Array.replicate_zero,List.push_toArray,List.append_toArray,List.nil_append,List.cons_append]
 gi_wp2
 gi_loopw [7] (fun i wr=>i = .int .i64 0∧J [] wr) (fun _ _=>0)
 case atStart=>exact⟨rfl,h0⟩
 case round=>
  obtain⟨rfl,hJs⟩:=hrel
  gi_wp2
  go_end0
  exact⟨⟨_,rfl⟩,.inl ⟨_,rfl,hJs⟩⟩
theorem aUt:(Tryz.prog.info? 38).map (fun i=>(i.zero,i.size,i.bytes))=some (some (.agg #[.int .i64 0,.int .i64 0]),2,16):=by kernel_rfl
theorem xS (w:World)(x y:Value)(t:TypeId):∀ j u,[x,y][j]?=some u→(w.alloc (.cells #[x,y] t)).cell? ((⟨w.heap.size,0,none⟩:Addr).add j)=some u:=by
 intro j u hj;match j,hj with
 | 0,hj=>simp at hj;subst hj;simp[Addr.add]
 | 1,hj=>simp at hj;subst hj;simp[Addr.add]
 | j+2,hj=>simp at hj
set_option maxRecDepth 100000 in
set_option maxHeartbeats 2000000 in
theorem Ro (F:Fence)(n:Nat)(h271:F.fn 271)(h218:F.fn 218)(hro:F.round=none)(hn:3≤n)(Bs Bo:Nat)(zs:List (Int×Int))(hl:zs.length≤1073741824)(w:World)
 (hseq:SeqStopsK F (n - 1) Tryz.prog 218 #[.pointer (some ⟨Bs,Bo,none⟩)] (fun r=>#[qV r]) (Below w.heap.size) (fun ys=>ys=zs) (fun _=>True) zs.length w) :
 CallsIn F n Tryz.prog 271 #[.slice none 0 0,.func (.func 218) #[] #[.pointer (some ⟨Bs,Bo,none⟩)]] w fun e w'=>∃ v,e = .returned v∧w'.ownsRow w.heap.size 38 2 v zs.length (zs.flatMap Dm)∧Below w.heap.size w w':=by
 have h1:1≤n:=by omega
 obtain⟨i0,hi,hz0,hz1,hz2⟩:∃ i0,Tryz.prog.info? 38=some i0∧i0.zero=some (.agg #[.int .i64 0,.int .i64 0])∧i0.size=2∧i0.bytes=16:=by
  have:=aUt;cases h:Tryz.prog.info? 38 with
  | none=>rw[h]at this;cases this
  | some i=>rw[h]at this;simp at this;exact⟨i,rfl,this.1,this.2.1,this.2.2⟩
 refine callsIn_of_wp_marks Tryz.func271 rfl h271 ?_ hro;simp only[Tryz.ntmps271,List.size_toArray,List.length_cons,List.length_nil,Nat.reduceAdd,Nat.reduceSub,Array.replicate_succ,Array.replicate_zero,List.push_toArray,List.append_toArray,List.nil_append,List.cons_append]
 gi_wp2
 have bX:=Boxed.new w 36 (.slice none 0 0);have hB0:Below w.heap.size w (w.alloc (.cells #[.slice none 0 0] 36)):=(Below.refl _ w).alloc (Nat.le_refl _) _;refine wpIn_rangeFunc_ownH hro h1 (gf:=218) (lb:=#[.pointer (some ⟨Bs,Bo,none⟩)]) rfl h218 (enters_of Tryz.func218 (by kernel_rfl) rfl) hseq belowK_t (belowK_b (by simp)) hB0 (fun _=>rfl)
  (fun pre W=>(∃ v,Boxed W w.heap.size 36 v∧W.ownsRow w.heap.size 38 2 v pre.length (pre.flatMap Dm)∧True)∧Below w.heap.size w W)
  (fun _ _ _=>False)
  (OwnFrom.and (Own.from (holdsRow_own w.heap.size w.heap.size 36 38 2 List.length (fun pre=>pre.flatMap Dm) (fun _ _=>True)) _) (ownFrom_below (Nat.le_refl _) (by simp)))
  (fun _ _ _ _ _ hs _ _=>hs)
  ⟨⟨_,bX,⟨rfl,.inl ⟨rfl,rfl⟩⟩,trivial⟩,hB0⟩
  (fun x a' W=>∃ T,a'={tmps:=#[.slice none 0 0,.func (.func 218) #[] #[.pointer (some ⟨Bs,Bo,none⟩)],.pointer (some ⟨w.heap.size,0,none⟩),Go.undef,.slice none 0 0,.pointer (some ⟨T,0,none⟩),.func (.func 218) #[] #[.pointer (some ⟨Bs,Bo,none⟩)],qV x,Go.undef,Go.undef,Go.undef,Go.undef,Go.undef],defers:=[]}∧W.heap[T]?=some (.cells #[.int .i64 x.1,.int .i64 x.2] 38 (0,0))∧w.heap.size≤T)
  (fun x a' s A B row hs hg hr=>by
   obtain⟨T,e,hT,hle⟩:=hs;refine⟨T,e,(hg.block T (Array.getElem?_eq_some_iff.1 hT).1 (fun e'=>?_)).trans hT,hle⟩;obtain⟨_,o,ho,hc⟩:=hr T e'.symm;rw[hT]at ho;cases ho;cases hc)
  ?assign ?body ?done ?stop
 case assign=>
  rintro l pre x W K ⟨⟨v,hv,hr,-⟩,hB⟩ hK;simp only[qV]
  gi_wp2
  exact hK _ _ ((KeepsOthers.alloc _ _).from _) ((Below.refl _ _).alloc hB.size _) ⟨⟨v,hv.alloc _,hr.alloc _,trivial⟩,hB.alloc hB.size _⟩ ⟨_,rfl,World.alloc_heap_new _ _,hB.size⟩
 case body=>
  rintro l pre x a' W hl2 - ⟨⟨v,hv,hrow,-⟩,hB⟩ ⟨T,rfl,hT,hle⟩ hlen;have hc:=hv.cell;have hf:=hv.frozen;have hT0:W.cell? ⟨T,0,none⟩=some (.int .i64 x.1):=by simp[World.cell?,hT]
  have hT1:W.cell? ⟨T,1,none⟩=some (.int .i64 x.2):=by simp[World.cell?,hT]
  have t36:=Tryz.underlying36
  gi_wp2_with (first
   | (
    gi_at_builtin;refine wpListIn_append_own _ rfl _ _ 36 rfl w.heap.size 38 i0 (.agg #[.int .i64 0,.int .i64 0]) 2 16 Tryz.underlying36 hi hz0 hz1 hz2 rfl (by decide) _ _ _ rfl (hrow.alloc _) ⟨W.heap.size,0,none⟩ 1 1 (Dm x) rfl rfl (xS _ _ _ _) (by simp[Dm,Value.oneCell']) (by simp[maxLen];omega) (by omega) (by have:=hB.size;simp;omega) ?_;intro v' w3 hown' hg3 hnil3
    obtain⟨q1,q2,q3,q4,q5⟩:=hv.appended (by decide) hrow hB.size (Nat.le_refl _) hown' hg3;obtain⟨g',cap',rfl⟩:=ownsRow_succ hown';have hc3:=q1.cell;have hf3:=q1.frozen
    go_frame)
   | gi_round_op_a)
  exact⟨q4.from _,q5,⟨_,q2,by simpa using q3,trivial⟩,hB.trans q5⟩
 case done=>
  rintro D ys W hD rfl ⟨⟨v,hv,hrow,-⟩,hB⟩ hK;have hc:=hv.cell
  gi_wp2
  refine⟨by simp,.inl ⟨_,_,rfl,run_takeDeferred hK,?_⟩⟩;exact⟨_,results_tmp rfl _ _ _,v,rfl,ownsRow_putObj hrow _ hK rfl,hB.trans (belowK_b (w:=w) (Nat.le_refl _) W D _ _ (by simp at hD;omega) hK rfl rfl)⟩
 case stop=>
  rintro D c pre W _ _ h _;exact h.elim
end
section
open Go Go.RowKit Go.Shelf Go.Proofs
attribute [local go_sem] Oper.semAt_some
variable {w w':World}{im:Nat→Prop}{γ:fK}{B0:Nat}{H:aA}
theorem MC.ofT {P:Program}{g:Gl}{f:FuncId}{args:List V}{v:V}{H:aA} (h:∀(w:World)(im:Nat→Prop)(γ:fK)(B0:Nat)(xs:List Value),g.G w→RelH w im γ B0 H→RvL w im γ args xs→
 Calls P f ⟨xs⟩ w fun e w'=>(∃ y,e = .returned y∧Tv w' (newIm w w' im) v y)∧Below w.heap.size w w'):MC P g f args H v H:=by
 intro w im γ B0 xs hG hN hR hx;refine(h w im γ B0 xs hG hR hx).mono ?_;rintro e w' ⟨⟨y,rfl,hy⟩,hb⟩;have hk0:Keep w im γ w' (newIm w w' im) γ:=⟨fun B hB=>⟨.inl hB,hb.block B (hR.imlt B hB)⟩,fun _ _ h=>h⟩;refine⟨y,newIm w w' im,γ,rfl,.tree _ _ hy,?_,hk0,hb.mono hR.size,fun B hB=>?_⟩
 ·refine⟨fun b s es ro hH=>?_,hR.inj,fun B hB=>?_,hR.fresh,Nat.le_trans hR.size hb.size,hR.oh.call hb hk0.imm fun B hB=>hB.elim .inl fun h => .inr h.1⟩
  ·rcases hR.row _ _ _ _ hH with ⟨p,hp,hr⟩|hn
   case inr=>exact .inr hn
   obtain⟨pre,vs,post,ty,fzz,g1,g2,g3,g4⟩:=hr.hm;refine .inl ⟨p,hp,hr.hs,hr.hB,fun h => .inl (hr.hi h),fun h=>?_,hr.hl,pre,vs,post,ty,fzz,by rw[hb.block _ hr.block];exact g1,g2,g3.keep hk0,g4⟩;rintro(k|⟨k,_⟩)
   ·exact hr.hw h k
   ·have:=hr.block;omega
  ·rcases hB with hB|⟨_,hB⟩
   ·exact Nat.lt_of_lt_of_le (hR.imlt B hB) hb.size
   ·exact hB
 ·rcases hB with hB|⟨hB,_⟩
  ·exact .inl hB
  ·exact .inr (Nat.le_trans hR.size hB)
theorem qQ {w:World}{a:Addr}{v:Value}(h:w.cell? a=some v):a.block < w.heap.size:=by
 unfold World.cell? at h;cases ho:w.heap[a.block]? with
 | none=>simp[ho]at h
 | some o=>exact(Array.getElem?_eq_some_iff.1 ho).1
theorem MC.ofRow {P:Program}{g:Gl}{f:FuncId}{args:List V}{H:aA}{s:Nat}{es:List V}(hall:∀ e∈es,e.cells.length=s) (h:∀(w:World)(im:Nat→Prop)(γ:fK)(B0:Nat)(xs:List Value),g.G w→RelH w im γ B0 H→RvL w im γ args xs→
 ∃ cs ty,RvL w im γ (es.flatMap V.cells) cs∧(∀ c∈cs,c.oneCell'=true)∧Calls P f ⟨xs⟩ w fun e w'=>∃ y,e = .returned y∧w'.ownsRow w.heap.size ty s y es.length cs∧Below w.heap.size w w'):MC P g f args H (.sl H.length 0 es.length) (H++[.row s es false]):=by
 intro w im γ B0 xs hG hN hR hx;obtain⟨cs,ty,k1,k2,hcall⟩:=h w im γ B0 xs hG hR hx;have hlen:cs.length=es.length*s:=by rw[k1.len,cN hall]
 refine hcall.mono ?_;rintro e w' ⟨y,rfl,⟨_,ho⟩,hbel⟩;have hbB:Below B0 w w':=hbel.mono hR.size;have hk:dQ w im w' im:=fun B hB=>⟨hB,hbel.block B (hR.imlt B hB)⟩;rcases ho with ⟨rfl,hn⟩|⟨gb,cap,cur,rfl,h1,h2,h3,h4,h5,h6⟩
 ·have hes0:es=[]:=List.eq_nil_of_length_eq_zero hn;subst hes0;have hkk:Keep w im γ w' im γ:=⟨hk,fun _ _ h=>h⟩;have hR':RelH w' im γ B0 H:=by
   refine⟨fun b s es ro hH=>?_,hR.inj,fun B hB=>Nat.lt_of_lt_of_le (hR.imlt B hB) hbel.size,hR.fresh,Nat.le_trans hR.size hbel.size,hR.oh.call hbel hk fun B hB => .inl hB⟩;rcases hR.row _ _ _ _ hH with ⟨p,hp,hr⟩|hn
   ·exact .inl ⟨p,hp,hr.keep hkk (hbel.block _ hr.block)⟩
   ·exact .inr hn
  exact⟨_,im,γ,rfl,.sl0 _ _ _ .none,hR'.pushV s,hkk,hbB,fun B hB => .inl hB⟩
 ·have hK:=iN hR hk ⟨gb,0,s,cap*s⟩;have hcl:(cur.toList.drop (es.length*s)).length+es.length*s=cap*s:=by
   have:es.length*s≤cap*s:=Nat.mul_le_mul_right _ h3;rw[List.length_drop,Array.length_toList,h5];omega
  have hpush:=hR.push (w':=w') (s:=s) (es:=es) (p:=⟨gb,0,s,cap*s⟩) hk hbel.size (fun b s es ro q hH hq=>by
   have hr:=hR.at hH hq;have:=hr.block;exact⟨by show q.B≠gb;omega,hbel.block _ this⟩)
   ⟨rfl,Nat.le_trans hR.size h1,by simp,fun _ hB=>by have:=hR.imlt _ hB;simp only at this;omega,hall,[],cs,cur.toList.drop (es.length*s),ty,(0,0),by
    rw[←h6];simp only[List.nil_append,List.take_append_drop];exact h2,rfl,k1.keep hK,k2,by simp,by simp only[List.length_nil,hlen];omega⟩
   (fun b o q X h3 h4 hq hX=>by
    have:=(hR.oh.obj' h3 h4 hq X hX).2.1;exact⟨by show X≠gb;omega,hbel.block _ this⟩)
  refine⟨_,im,_,rfl,?_,hpush,hK,hbB,fun B hB => .inl hB⟩;have:=Rv.sl (w:=w') (im:=im) (γ:=upd γ H.length ⟨gb,0,s,cap*s⟩) H.length 0 es.length cap ⟨gb,0,s,cap*s⟩ (cL _ _ _) h3 (by simp);simpa using this
theorem zK {H:aA}{f b s:Nat}{c:V}{ro:Bool}{es:List V}{xs:List Value}(hR:RelH w im γ B0 H)(hx:RvL w im γ [.fn f [] [.ptr b 0 0]] xs)(hb:H[b]?=some (.row s [c] ro))(he:bS H c=some es)(hs:c.isStr=false)(hcc:c.cells=[c]) :
 ∃ B O a cap cs,xs=[.func (.func f) #[] #[.pointer (some ⟨B,O,none⟩)]]∧w.cell? ⟨B,O,none⟩=some (.slice a es.length cap)∧B < w.heap.size∧RvL w im γ (es.flatMap V.cells) cs∧(∀ c∈cs,c.oneCell'=true)∧
  (es=[]∨∃ b o,a=some ⟨b,o,none⟩∧w.rangeAt b o cs):=by
 obtain⟨x,rfl,hx1⟩:∃ x,xs=[x]∧Rv w im γ (.fn f [] [.ptr b 0 0]) x:=by
  cases hx with|cons _ x _ m h1 t=>cases t;exact⟨x,rfl,h1⟩
 obtain⟨p,hp,rfl⟩:∃ p,γ b=some p∧x = .func (.func f) #[] #[.pointer (some ⟨p.B,p.O+0*p.s+0,none⟩)]:=by
  cases hx1 with
  | tree _ _ h=>cases h
  | fn _ _ _ ps cs h1 h2=>
   cases h1;cases h2 with
   | cons _ y _ m h3 h4=>
    cases h4;obtain⟨p,hp,rfl⟩:=h3.ptr_inv;exact⟨p,hp,rfl⟩
 have hr:=hR.at hb hp;obtain⟨pre,vs,post,ty,fz,h1,h2,h3,h4,h5,h6⟩:=hr.hm;simp only[List.flatMap_cons,List.flatMap_nil,List.append_nil,hcc]at h3;obtain⟨X,rfl,hX⟩:∃ X,vs=[X]∧Rv w im γ c X:=by
  cases h3 with|cons _ x _ m hh t=>cases t;exact⟨x,rfl,hh⟩
 have hcell:w.cell? ⟨p.B,p.O+0*p.s+0,none⟩=some X:=by
  have e0:p.O+0*p.s+0=p.O:=by omega
  rw[e0];have:=lC (w:=w) (B:=p.B) (a:=pre) (m:=[X]) (p:=post) (ty:=ty) (fz:=fz) (by rw[h1]) 0 X rfl;rw[h2]at this;exact this
 obtain⟨cs,k1,k2,k3⟩:=wK hR hX he hs;rcases k3 with ⟨rfl,rfl⟩|⟨b',o,cap,rfl,hra⟩
 ·exact⟨p.B,_,none,0,cs,rfl,hcell,qQ hcell,k1,k2,.inl rfl⟩
 ·exact⟨p.B,_,_,cap,cs,rfl,hcell,qQ hcell,k1,k2,.inr ⟨b',o,rfl,hra⟩⟩
def eR2 (r:Int×Int):V:=.agg [.int .i64 r.1,.int .i64 r.2]
theorem uM {w:World}{im:Nat→Prop}{γ:fK}:∀(l:List (Int×Int))(cs:List Value),RvL w im γ ((l.map eR2).flatMap V.cells) cs→cs=l.flatMap Dm
 | [],cs,h=>by cases h;rfl
 | n::l,cs,h=>by
  cases h with
  | cons _ x _ m h1 h2=>
   cases h2 with
   | cons _ y _ m' h3 h4=>rw[h1.int_inv,h3.int_inv,uM l m' h4];rfl
theorem My {w:World}{b o:Nat}:∀(l:List (Int×Int)),w.rangeAt b o (l.flatMap Dm)→∀ j,j < l.length→w.cell? ⟨b,o+j*2,none⟩=some (.int .i64 (l[j]?.getD (0,0)).1)∧w.cell? ⟨b,o+j*2+1,none⟩=some (.int .i64 (l[j]?.getD (0,0)).2):=by
 intro l;induction l generalizing o with
 | nil=>intro _ j hj;simp at hj
 | cons x l ih=>
  intro h j hj;cases j with
  | zero=>
   refine⟨h 0 _ (by simp[Dm]),h 1 _ (by simp[Dm])⟩
  | succ j=>
   have h':w.rangeAt b (o+2) (l.flatMap Dm):=fun k v hk=>by
    have:=h (k+2) v (by simpa[Dm]using hk);rw[show o+2+k=o+(k+2) by omega];exact this
   have:=ih h' j (by simpa using hj);rw[show o+(j+1)*2=o+2+j*2 by omega];simpa using this
set_option maxHeartbeats 1000000 in
theorem Gi (Bs Bo cap:Nat)(a:Option Addr)(zs:List (Int×Int))(hl:zs.length≤1073741824)(w:World)(hBs:Bs < w.heap.size)(hc0:w.cell? ⟨Bs,Bo,none⟩=some (.slice a zs.length cap))(hc:zs=[]∨∃ b o,a=some ⟨b,o,none⟩∧w.rangeAt b o (zs.flatMap Dm)) :
 Calls Tryz.prog 216 #[.func (.func 218) #[] #[.pointer (some ⟨Bs,Bo,none⟩)]] w fun e w'=>∃ v,e = .returned v∧w'.ownsRow w.heap.size 38 2 v zs.length (zs.flatMap Dm)∧Below w.heap.size w w':=by
 have hseq:SeqStopsK Fence.wide 4 Tryz.prog 218 #[.pointer (some ⟨Bs,Bo,none⟩)] (fun r=>#[qV r]) (Below w.heap.size) (fun ys=>ys=zs) (fun _=>True) zs.length w:=by
  rcases Nat.eq_zero_or_pos zs.length with h0|h0
  ·have:zs=[]:=List.eq_nil_of_length_eq_zero h0;subst this;exact xC Fence.wide 4 trivial rfl Bs Bo cap a w hBs hc0
  ·obtain⟨b,o,rfl,hra⟩:=hc.resolve_left (fun e=>by rw[e]at h0;simp at h0);have hat:=My zs hra;exact Ll Fence.wide 4 trivial rfl (by omega) Bs Bo b o cap zs (by omega) w hBs (qQ (hat 0 h0).1) hc0 (fun j hj=>(hat j hj).1) (fun j hj=>(hat j hj).2)
 refine(callsIn_wide (n:=6)).1 ?_;refine callsIn_of_wp Tryz.func216 rfl trivial ?_ rfl;simp only[Tryz.ntmps216,List.size_toArray,List.length_cons,List.length_nil,Nat.reduceAdd,Nat.reduceSub,Array.replicate_succ,Array.replicate_zero,List.push_toArray,List.append_toArray,List.nil_append,List.cons_append]
 gi_wp2_with (refine⟨trivial,?_⟩;gi_at_call 271;refine(Ro Fence.wide 5 trivial trivial rfl (by omega) Bs Bo zs hl _ hseq).mono ?_;rintro e w' ⟨v,rfl,hrow,hb⟩)
 go_ret
 exact⟨v,rfl,hrow,hb⟩
theorem aKx (g:Gl){H:aA}{b:Nat}{c:V}{ro:Bool}{l:List (Int×Int)}(hb:H[b]?=some (.row 1 [c] ro))(he:bS H c=some (l.map eR2))(hs:c.isStr=false)(hcc:c.cells=[c])(hl:l.length≤1073741824) :
 MC P0 g 216 [.fn 218 [] [.ptr b 0 0]] H (.sl H.length 0 l.length) (H++[.row 2 (l.map eR2) false]):=by
 have:=MC.ofRow (P:=P0) (g:=g) (f:=216) (args:=[.fn 218 [] [.ptr b 0 0]]) (H:=H) (s:=2) (es:=l.map eR2) (fun e he=>by obtain⟨t,_,rfl⟩:=List.mem_map.1 he;rfl) fun w im γ B0 xs hG hR hx=>by
  obtain⟨B,O,a,cap,cs,rfl,h1,h2,h3,h4,h5⟩:=zK hR hx hb he hs hcc;have e:=uM l cs h3;subst e;rw[List.length_map]at h1;refine⟨_,38,h3,h4,?_⟩;rw[List.length_map];exact Gi B O cap a l hl w h2 h1 (h5.imp (fun e=>by simpa using e) id)
 rw[List.length_map]at this;exact this
end
section
open Go Go.RowKit Go.Maps Go.Sort Go.Shelf Go.Proofs
def Rh (x:Int):List Int→List Int
 | []=>[x]
 | y::l=>if x≤y then x::y::l else y::Rh x l
def fX:List Int→List Int
 | []=>[]
 | x::l=>Rh x (fX l)
theorem Oz (x:Int)(l:List Int):(Rh x l).length=l.length+1:=by
 induction l with
 | nil=>rfl
 | cons y l ih=>simp only[Rh];split<;>simp[ih]
theorem lH (l:List Int):(fX l).length=l.length:=by
 induction l with
 | nil=>rfl
 | cons y l ih=>simp[fX,Oz,ih]
theorem vG (x:Int)(l:List Int):(Rh x l).Perm (x::l):=by
 induction l with
 | nil=>exact .refl _
 | cons y l ih=>
  simp only[Rh];split
  ·exact .refl _
  ·exact(ih.cons y).trans (.swap x y l)
theorem Ae (l:List Int):(fX l).Perm l:=by
 induction l with
 | nil=>exact .refl _
 | cons x l ih=>exact(vG x _).trans (ih.cons x)
theorem aGf (x:Int)(l:List Int)(h:l.Pairwise (·≤·)):(Rh x l).Pairwise (·≤·):=by
 induction l with
 | nil=>simp[Rh]
 | cons y l ih=>
  rw[List.pairwise_cons]at h;simp only[Rh];split
  ·rename_i hxy;refine List.pairwise_cons.2 ⟨fun z hz=>?_,List.pairwise_cons.2 h⟩;rcases List.mem_cons.1 hz with rfl|hz
   ·exact hxy
   ·have:=h.1 z hz;omega
  ·refine List.pairwise_cons.2 ⟨fun z hz=>?_,ih h.2⟩;rcases List.mem_cons.1 ((vG x l).mem_iff.1 hz)with rfl|hz
   ·omega
   ·exact h.1 z hz
theorem Ku (l:List Int):(fX l).Pairwise (·≤·):=by
 induction l with
 | nil=>exact .nil
 | cons x l ih=>exact aGf x _ ih
theorem Ld (l:List Int):l.mergeSort (fun x y=>decide (x≤y))=fX l:=by
 refine List.Perm.eq_of_pairwise (le:=fun x y=>x≤y) (fun a b _ _ h1 h2=>by omega) ?_ (Ku l) ((List.mergeSort_perm _ _).trans (Ae l).symm);have:=List.pairwise_mergeSort (le:=fun x y:Int=>decide (x≤y)) (fun a b c h1 h2=>by simp at h1 h2 ⊢;omega) (fun a b=>by simp;omega) l;exact this.imp (by simp)
variable {w w':World}{im:Nat→Prop}{γ:fK}{B0:Nat}{H:aA}
theorem vF {w:World}{im:Nat→Prop}{γ:fK}:∀(l:List Int)(cs:List Value),RvL w im γ ((l.map fun n=>V.int .i64 n).flatMap V.cells) cs→cs=l.map (Value.int .i64)
 | [],cs,h=>by cases h;rfl
 | n::l,cs,h=>by
  cases h with
  | cons _ x _ m h1 h2=>rw[h1.int_inv,vF l m h2];rfl
theorem Xj {w:World}{im:Nat→Prop}:∀ l:List Int,TvL w im ((l.map fun n=>V.int .i64 n).flatMap V.cells) (l.map (Value.int .i64))
 | [] => .nil
 | s::l => .cons _ _ _ _ (.int _ s) (Xj l)
theorem aDq (g:Gl){H:aA}{b:Nat}{c:V}{ro:Bool}{l:List Int}(hb:H[b]?=some (.row 1 [c] ro))(he:bS H c=some (l.map fun n=>V.int .i64 n))(hs:c.isStr=false)(hcc:c.cells=[c])(hl:l.length≤1073741824) :
 MC P0 g 207 [.fn 268 [] [.ptr b 0 0]] H (.imm ((fX l).map fun n=>V.int .i64 n)) H:=by
 refine MC.ofT fun w im γ B0 xs hG hR hx=>?_;obtain⟨B,O,a,cap,cs,rfl,h1,h2,h3,h4,h5⟩:=zK hR hx hb he hs hcc;have ec:=vF l cs h3;subst ec;rw[List.length_map]at h1;have hce:∀ b off,a=some ⟨b,off,none⟩→∀ j,j < l.length→w.cell? ⟨b,off+j,none⟩=some (.int .i64 (l[j]?.getD 0)):=fun b off e j hj=>by
  rcases h5 with h5|⟨b',o,e',hra⟩
  ·have:l=[]:=by simpa using h5
   rw[this]at hj;simp at hj
  ·rw[e']at e;cases e;exact hra j _ (by rw[List.getElem?_map,List.getElem?_eq_getElem hj];rfl)
 have hc2:∀ j,j < l.length→∃ b off,a=some ⟨b,off,none⟩∧b < w.heap.size:=fun j hj=>by
  rcases h5 with h5|⟨b',o,e',hra⟩
  ·have:l=[]:=by simpa using h5
   rw[this]at hj;simp at hj
  ·exact⟨b',o,e',qQ (hce b' o e' j hj)⟩
 refine(sorted207 B O cap a l hl w h2 h1 hc2 hce).mono ?_;rintro e w' ⟨v,rfl,hrow,hnil,hb'⟩;refine⟨⟨v,rfl,?_⟩,hb'⟩;rw[Ld]at hrow;rcases hrow.2 with ⟨rfl,hz⟩|⟨gb,cap',cur,rfl,r0,r1,r2,r3,r4,r5⟩
 ·have:l=[]:=List.eq_nil_of_length_eq_zero hz;subst this;exact .imm0 none 0 (fun _=>rfl) .none
 ·rcases Nat.eq_zero_or_pos l.length with h0|h0
  ·have:l=[]:=List.eq_nil_of_length_eq_zero h0;subst this;exact .imm0 _ _ (fun h=>by cases h) (.some _ _)
  have:=Tv.imm (w:=w') (im:=newIm w w' im) ((fX l).map fun n=>V.int .i64 n) 1 gb 0 cap' ((fX l).map (Value.int .i64)) (fun e=>by
   rw[List.map_eq_nil_iff]at e;have:=lH l;rw[e]at this;simp at this;omega) (.inr ⟨r0,(Array.getElem?_eq_some_iff.1 r1).1⟩) (by rw[List.length_map,lH];exact r2) (fun e he=>by
   obtain⟨t,_,rfl⟩:=List.mem_map.1 he;rfl) (fun j v hj=>by
   simp only[World.cell?,Nat.zero_add];rw[r1];have e1:(fX l).map (Value.int .i64)=cur.toList.take (l.length*1):=r5.symm;rw[e1,List.getElem?_take]at hj;split at hj
   ·simpa using hj
   ·cases hj) (fun x hx=>by obtain⟨t,_,rfl⟩:=List.mem_map.1 hx;rfl) (Xj _)
  rw[List.length_map,lH]at this;exact this
end
section
open Go Go.RowKit
variable (g:Gl)
theorem aMr {dst:Option Tmp}{T:List V}{H:aA}{K:List V→aA→Prop}{Q:Ex→List V→aA→Prop}{b:Nat}{c:V}{l:List Int}(hb':hb H b=some (.row 1 [c] false))(he:bS H c=some (l.map eI))(hl:l.length≤1073741824)(hk:K (put T dst (.imm ((fX l).map eI))) H)(hs:c.isStr=false:=by rfl)(hcc:c.cells=[c]:=by rfl):aZ (Eg g) (FW (Eg g)) 207 [.fn 268 [] [.ptr b 0 0]] dst T H K Q:=
 mcc (aDq g (by simpa[hb]using hb') he hs hcc hl) Tryz.func207 rfl ⟨⟨rfl,rfl⟩,rfl⟩ hk
end
section
open Go Go.RowKit
variable (g:Gl)
def cE (k:Nat):List Cel→List Int
 | []=>[]
 | c::l=>(if c.used then []else [(k:Int)])++cE (k+1) l
theorem vR (l m:List Cel):∀ k,cE k (l++m)=cE k l++cE (k+l.length) m:=by
 induction l with
 | nil=>intro k;rfl
 | cons c l ih=>intro k;simp only[List.cons_append,cE,ih,List.append_assoc,List.length_cons];rw[show k+1+l.length=k+(l.length+1)from by omega]
theorem oW (l:List Cel):∀ k,(cE k l).length≤l.length:=by
 induction l with
 | nil=>intro k;exact Nat.le_refl _
 | cons c l ih=>intro k;have:=ih (k+1);simp only[cE,List.length_append,List.length_cons];split<;>simp<;>omega
theorem Pe (l:List Cel)(k:Nat)(c:Cel)(h:l[k]?=some c):cE 0 (l.take (k+1))=cE 0 (l.take k)++(if c.used then []else [(k:Int)]):=by
 have hk:=(List.getElem?_eq_some_iff.1 h).1;rw[List.take_add_one,h,Option.toList_some,vR];simp only[cE,List.append_nil,List.length_take,Nat.min_eq_left (Nat.le_of_lt hk),Nat.zero_add]
def sV (c:Cel):Bool:=eK c.gen 0 4294967295
def bN (p:Pn):Bool:=eK p.most 1 1024 && decide ((p.cells.length:Int)≤p.most) && p.cells.all sV && decide (cE 0 p.cells=fX p.free)
theorem yL (p:Pn)(hf:p.free.length≤1073741824):PC P0 g 128 [bJ p] (.ret (.bool (bN p))):=by
 obtain⟨cells,free,most⟩:=p;simp only at hf;refine eC Tryz.func128 Tryz.ntmps128 Tryz.results128 rfl ?_;simp only[ZZ,simprocAttr,i64,bJ];refine rg fun K hK=>?_;simp only[ZZ,simprocAttr,i64,bJ];apply hK;try clear hK K
 refine aF fun K1 hK1=>?_;refine rg fun K hK=>?_;simp only[ZZ,simprocAttr,i64,bJ];refine mt (Mj g _ _ _) Tryz.func164 rfl ⟨⟨rfl,rfl⟩,rfl⟩ rfl ?_;cases h1:eK most 1 1024
 ·simp only[ZZ,simprocAttr,i64,bJ];apply hK;try clear hK K
  apply aB rfl;refine rg fun K hK=>?_;simp only[ZZ,simprocAttr,i64,bJ];apply hK;try clear hK K
  apply aC;simp only[ZZ,simprocAttr,i64,bJ,bN,h1]
 by_cases h2:most < cells.length
 ·have h2':¬(cells.length:Int)≤most:=by omega
  simp only[ZZ,simprocAttr,i64,bJ,h2];apply hK;try clear hK K
  apply aB rfl;refine rg fun K hK=>?_;simp only[ZZ,simprocAttr,i64,bJ];apply hK;try clear hK K
  apply aC;simp only[ZZ,simprocAttr,i64,bJ,bN,h1,h2']
 have h2':(cells.length:Int)≤most:=by omega
 have hcl:cells.length≤1024:=by simp only[eK,Bool.and_eq_true,decide_eq_true_eq]at h1;omega
 simp only[ZZ,simprocAttr,i64,bJ,h2];apply hK;try clear hK K
 apply aD rfl;apply aH;simp only[WX];apply hK1;refine rg fun K hK=>?_;simp only[ZZ,simprocAttr,i64,bJ];apply hK;try clear hK K
 refine aF fun K1 hK1=>?_;refine rg fun K hK=>?_;simp only[ZZ,simprocAttr,i64,bJ];apply hK;try clear hK K
 refine aT ?_;refine cB (fun n T H=>∃ k:Nat,n=cells.length - k∧k≤cells.length∧T.length=44∧gt T 1 = .ptr 0 0 0∧gt T 19 = .imm (cells.map dX)∧gt T 20 = .int .i64 cells.length∧gt T 21 = .int .i64 k∧Acc [.row 3 [bJ ⟨cells,free,most⟩] false] H 1 (gt T 3) ((cE 0 (cells.take k)).map eI)∧(cells.take k).all sV=true) (n:=cells.length) ⟨0,rfl,by omega,rfl,rfl,rfl,rfl,rfl,Acc.nil _ _,rfl⟩ ?_;rintro n T H ⟨k,rfl,hk,hT,e1,e19,e20,e21,hA,hall⟩;generalize e3:gt T 3=v3 at hA;rw[eW 44 T hT];simp only[show List.range 44=[0,1,2,3,4,5,6,7,8,9,10,11,12,13,14,15,16,17,18,19,20,21,22,23,24,25,26,27,28,29,30,31,32,33,34,35,36,37,38,39,40,41,42,43]from rfl,List.map_cons,List.map_nil,e1,e3,e19,e20,e21];by_cases hkm:(k:Int) < cells.length
 ·have hkn:k < cells.length:=by omega
  have hk0:(0:Int)≤k:=by omega
  have hx:=List.getElem?_eq_getElem hkn;generalize cells[k]=x at hx;have htk:=Pe cells k x hx;have hall':(cells.take (k+1)).all sV=sV x:=by rw[List.take_add_one,List.all_append,hall,hx];simp
  obtain⟨cg,used,f⟩:=x;refine rg fun K hK=>?_;simp only[ZZ,simprocAttr,i64,bJ,hkm];apply hK;try clear hK K
  refine ct rfl fun K hK=>?_;apply aH;simp only[WX];apply hK;try clear hK K
  refine bl fun K2 hK2=>?_;refine rg fun K hK=>?_;simp only[ZZ,simprocAttr,i64,bJ,hk0,Int.toNat_natCast,List.getElem?_map,hx,Option.map_some,WH,aN];apply hK;try clear hK K
  refine aF fun K3 hK3=>?_;refine rg fun K hK=>?_;simp only[ZZ,simprocAttr,i64,bJ,WH];refine mt (Mj g _ _ _) Tryz.func164 rfl ⟨⟨rfl,rfl⟩,rfl⟩ rfl ?_;cases h3:eK cg 0 4294967295
  ·have h4:cells.all sV=false:=List.all_eq_false.2 ⟨_,List.mem_of_getElem? hx,by simp[sV,h3]⟩;simp only[ZZ,simprocAttr,i64,bJ];apply hK;try clear hK K
   apply aB rfl;refine rg fun K hK=>?_;simp only[ZZ,simprocAttr,i64,bJ];apply hK;try clear hK K
   apply aC;simp only[ZZ,simprocAttr,i64,bJ,bN,h1,h2',h4]
  have hall2:(cells.take (k+1)).all sV=true:=by rw[hall'];exact h3
  simp only[ZZ,simprocAttr,i64,bJ];apply hK;try clear hK K
  apply aD rfl;apply aH;simp only[WX];apply hK3;refine rg fun K hK=>?_;simp only[ZZ,simprocAttr,i64,bJ,WH];apply hK;try clear hK K
  cases used
  ·have hlen:=oW (cells.take k) 0;rw[List.length_take]at hlen;apply aB rfl;refine rl fun K hK=>?_;simp only[ZZ,simprocAttr,i64,bJ,WH];refine aDx hA (by simp;omega) rfl (by decide) rfl rfl (by simp) fun v' H' hA'=>?_;simp only[ZZ,simprocAttr,i64,bJ];apply hK;try clear hK K
   try simp only[WX]
   apply hK2;try clear hK2 K2
   refine rl fun K hK=>?_;simp only[ZZ,simprocAttr,i64,bJ,IntWalk.i64_in (k+1) (by omega)];apply hK;try clear hK K
   try simp only[WX]
   exact⟨cells.length - (k+1),by omega,k+1,rfl,by omega,rfl,rfl,rfl,rfl,rfl,by rw[htk,List.map_append];exact hA',hall2⟩
  ·apply aD rfl;apply aH;simp only[WX];apply hK2;try clear hK2 K2
   refine rl fun K hK=>?_;simp only[ZZ,simprocAttr,i64,bJ,IntWalk.i64_in (k+1) (by omega)];apply hK;try clear hK K
   try simp only[WX]
   exact⟨cells.length - (k+1),by omega,k+1,rfl,by omega,rfl,rfl,rfl,rfl,rfl,by rw[htk,List.map_append];exact(List.append_nil _).symm▸hA.push _,hall2⟩
 ·refine rg fun K hK=>?_;simp only[ZZ,simprocAttr,i64,bJ,hkm];apply hK;try clear hK K
  refine cf rfl fun K hK=>?_;apply bZ;simp only[WX,if_true];apply hK1;obtain rfl:cells.length=k:=by omega
  rw[List.take_length]at hA hall;have hfl:=oW cells 0;have h0:hb H 0=some (.row 3 [bJ ⟨cells,free,most⟩] false):=hA.pre 0 (by simp);refine rg fun K hK=>?_;simp only[ZZ,simprocAttr,i64,bJ,h0,bJ];refine en Tryz.func208 Tryz.ntmps208 Tryz.results208 rfl ⟨⟨rfl,rfl⟩,rfl⟩ ?_;simp only[ZZ,simprocAttr,i64,bJ];refine rg fun K2 hK2=>?_;simp only[ZZ,simprocAttr,i64,bJ];apply hK2;try clear hK2 K2
  refine rg fun K2 hK2=>?_;simp only[ZZ,simprocAttr,i64,bJ];apply hK2;try clear hK2 K2
  apply aC;simp only[ZZ,simprocAttr,i64,bJ,WH];refine aMr g (c:=.imm (free.map eI)) (l:=free) ?_ rfl hf ?_
  ·rw[dS];rfl
  simp only[ZZ,simprocAttr,i64,bJ];have hz:fz (H++[.row 1 [V.imm (free.map eI)] false]) 8 v3=some (mG ((cE 0 cells).map eI)):=(hA.push _).fz (Za eI _ _ (fun _=>rfl) _) (Vk _);have hp:=PC.wkA (l:=[mG ((cE 0 cells).map eI),.imm ((fX free).map eI)]) (by simpa only[wkL,aBp,wk]using aKb g (cE 0 cells) (fX free) (by omega) (by rw[lH];omega));refine mt hp Tryz.func206 rfl ⟨⟨rfl,rfl⟩,rfl⟩ (by simp only[fP,W5,W1,hz,vO]) ?_;simp only[ZZ,simprocAttr,i64,bJ];apply hK;try clear hK K
  apply aC;simp only[ZZ,simprocAttr,i64,bJ,bN,h1,h2',hall]
end
section
open Go Go.RowKit
variable (g:Gl)
theorem gE {p:Pn}(h:bN p=true):p.cells.length≤1024∧1≤p.most∧p.most≤1024∧(p.cells.length:Int)≤p.most:=by
 simp only[bN,eK,Bool.and_eq_true,decide_eq_true_eq]at h;omega
def bM (p:Pn)(r:Rf):Frm×Bool:=if bN p && gA p r then(match p.cells[r.at_.toNat]? with|some c=>(c.f,true)|none=>(cZ,false))else(cZ,false)
theorem gF {p:Pn}{r:Rf}(h:gA p r=true):∃ c,p.cells[r.at_.toNat]?=some c∧0≤r.at_∧r.at_ < p.cells.length∧c.used=true∧c.gen=r.gen:=by
 simp only[gA,eK,Bool.and_eq_true,decide_eq_true_eq]at h;obtain⟨⟨h1,h2⟩,h3⟩:=h;cases hc:p.cells[r.at_.toNat]? with
 | none=>rw[hc]at h3;cases h3
 | some c=>rw[hc]at h3;simp only[Bool.and_eq_true,beq_iff_eq]at h3;exact⟨c,rfl,h1,by omega,h3.1,h3.2⟩
theorem aIu (p:Pn)(r:Rf)(hf:p.free.length≤1073741824):PC P0 g 89 [bJ p,aS r] (.ret (.tup [aJ (bM p r).1,.bool (bM p r).2])):=by
 have key:PC P0 g 89 [bJ p,aS r] (.ret (.tup (if(bM p r).2 then [aJ (bM p r).1,.bool true]else [.agg [i64 0,i64 0,.nils,.nils,.nils,i64 0,i64 0,i64 0,i64 0,i64 0,i64 0,i64 0,i64 0,i64 0,i64 0,i64 0],.bool false]))):=by
  obtain⟨cells,free,most⟩:=p;obtain⟨at_,gen⟩:=r;refine eC Tryz.func89 Tryz.ntmps89 Tryz.results89 rfl ?_;simp only[ZZ,simprocAttr,i64,bJ,aS];refine rg fun K hK=>?_;simp only[ZZ,simprocAttr,i64,bJ,aS];apply hK;try clear hK K
  refine aF fun K1 hK1=>?_;refine rg fun K hK=>?_;simp only[ZZ,simprocAttr,i64,bJ,aS];refine mt (yL g ⟨cells,free,most⟩ hf) Tryz.func128 rfl ⟨⟨rfl,rfl⟩,rfl⟩ rfl ?_;cases h1:bN ⟨cells,free,most⟩
  ·have hg:bM ⟨cells,free,most⟩ ⟨at_,gen⟩=(cZ,false):=by simp[bM,h1]
   simp only[ZZ,simprocAttr,i64,bJ,aS];apply hK;try clear hK K
   apply aB rfl;refine rg fun K hK=>?_;simp only[ZZ,simprocAttr,i64,bJ,aS];apply hK;try clear hK K
   apply aC;simp only[ZZ,simprocAttr,i64,bJ,aS,hg]
  have hl:=gE h1;simp only[ZZ,simprocAttr,i64,bJ,aS];refine mt (Lj g ⟨cells,free,most⟩ ⟨at_,gen⟩ (by omega)) Tryz.func174 rfl ⟨⟨rfl,rfl⟩,rfl⟩ rfl ?_;cases h2:gA ⟨cells,free,most⟩ ⟨at_,gen⟩
  ·have hg:bM ⟨cells,free,most⟩ ⟨at_,gen⟩=(cZ,false):=by simp[bM,h2]
   simp only[ZZ,simprocAttr,i64,bJ,aS];apply hK;try clear hK K
   apply aB rfl;refine rg fun K hK=>?_;simp only[ZZ,simprocAttr,i64,bJ,aS];apply hK;try clear hK K
   apply aC;simp only[ZZ,simprocAttr,i64,bJ,aS,hg]
  obtain⟨c,hc,hr0,hr1,hu,hgn⟩:=gF h2;have hg:bM ⟨cells,free,most⟩ ⟨at_,gen⟩=(c.f,true):=by simp only[bM,h1,h2,Bool.and_self,if_true];simp only at hc;rw[hc]
  obtain⟨cg,used,f⟩:=c;simp only at hc hr0 hr1;simp only[ZZ,simprocAttr,i64,bJ,aS];apply hK;try clear hK K
  apply aD rfl;apply aH;simp only[WX];apply hK1;try clear hK1 K1
  refine rg fun K hK=>?_;simp only[ZZ,simprocAttr,i64,bJ,aS,hr0,List.getElem?_map,hc,Option.map_some,aN];apply hK;try clear hK K
  apply aC;simp only[ZZ,simprocAttr,i64,bJ,aS,hg,aJ,aN]
 have:=key.wkR;cases h:(bM p r).2
 ·have h0:(bM p r).1=cZ:=by
   simp only[bM]at h ⊢;split at h
   ·split at h
    ·cases h
    ·rename_i hc;simp only[hc,ite_self]
   ·rename_i hc;rw[if_neg hc]
  rw[h]at this;rw[h0];exact this
 ·rw[h]at this;exact this
end
section
open Go Go.RowKit
variable (g:Gl)
theorem Dk {Q:Ex→List V→aA→Prop}{dst:Option Tmp}{T:List V}{H:aA}{KK:List V→aA→Prop}(cells:List Cel)(free:List Int)(most:Int)(hc:cells.length≤1073741824)(hf:free.length≤1073741824)
 (hk:KK (put T dst (.agg [.sl (H.length+2) 0 cells.length,.sl (H.length+3) 0 free.length,i64 most])) (H++[.row 3 [.agg [.sl (H.length+2) 0 cells.length,.sl (H.length+3) 0 free.length,i64 most]] false,.row 3 [.agg [.sl (H.length+2) 0 cells.length,.sl (H.length+3) 0 free.length,i64 most]] false,.row 18 (cells.map dX) false,.row 1 (free.map eI) false])) :
 aZ (Eg g) (FW (Eg g)) 167 [bJ ⟨cells,free,most⟩] dst T H KK Q:=by
 simp only[bJ];refine en Tryz.func167 Tryz.ntmps167 Tryz.results167 rfl ⟨⟨rfl,rfl⟩,rfl⟩ ?_;simp only[ZZ,simprocAttr,i64];refine rg fun K hK=>?_;simp only[ZZ,simprocAttr,i64];apply hK;refine dr [0,3,1,4,2,6,5,7,8,9] (by kernel_rfl) fun K hK=>?_;simp only[ZZ,simprocAttr,i64,WH,fL];refine cl Tryz.func231 rfl ⟨rfl,rfl⟩ rfl rfl (Yk _) (by simpa using hc) ?_;simp only[ZZ,simprocAttr,i64,WH,fL];refine cl Tryz.func232 rfl ⟨rfl,rfl⟩ rfl rfl (Vk _) (by simpa using hf) ?_;simp only[ZZ,simprocAttr,i64,WH,fL];apply hK;refine rg fun K hK=>?_;simp only[ZZ,simprocAttr,i64,WH];apply hK;apply aC;simp only[ZZ,simprocAttr,i64,WH];exact hk
theorem Wz (H:aA)(n s:Nat)(ro:Bool):mH H n 0 0 (some (.row s [] ro))=some (.imm []):=rfl
theorem aAj {l:List V}{i:Nat}(h:i < l.length)(x:V):xP (l.set i x) i=some x:=by simp[xP,h]
theorem Zj (x y:Int)(l:List Int):y∈Rh x l ↔ y=x∨y∈l:=by
 induction l with
 | nil=>simp[Rh]
 | cons z l ih=>simp only[Rh];split<;>simp[ih];constructor<;>(intro h;rcases h with h|h|h<;>simp[h])
theorem Wm (y:Int)(l:List Int):y∈fX l ↔ y∈l:=by
 induction l with
 | nil=>simp[fX]
 | cons z l ih=>simp[fX,Zj,ih]
theorem vQ (l:List Cel)(y:Int):∀ k,y∈cE k l ↔ ∃ i c,l[i]?=some c∧c.used=false∧y=((k+i:Nat):Int):=by
 induction l with
 | nil=>intro k;simp[cE]
 | cons c l ih=>
  intro k;simp only[cE,List.mem_append,ih];constructor
  ·rintro(h|⟨i,d,h1,h2,h3⟩)
   ·refine⟨0,c,rfl,?_⟩;cases hu:c.used
    ·simpa[hu]using h
    ·simp[hu]at h
   ·exact⟨i+1,d,h1,h2,by rw[h3];congr 1;omega⟩
  ·rintro⟨i,d,h1,h2,h3⟩;cases i with
   | zero=>simp at h1;subst h1;left;simp[h2,h3]
   | succ i=>right;exact⟨i,d,by simpa using h1,h2,by rw[h3];congr 1;omega⟩
theorem sN {p:Pn}(h:bN p=true){y:Int}(hy:y∈p.free):∃ c,p.cells[y.toNat]?=some c∧c.used=false∧0≤y∧y < p.cells.length:=by
 simp only[bN,Bool.and_eq_true,decide_eq_true_eq]at h;rw[←Wm,←h.2,vQ]at hy;obtain⟨i,c,h1,h2,h3⟩:=hy;have:=(List.getElem?_eq_some_iff.1 h1).1;exact⟨c,by rw[h3];simpa using h1,h2,by omega,by omega⟩
theorem gS {p:Pn}(h:bN p=true):p.free.length≤1024:=by
 have h0:=gE h;simp only[bN,Bool.and_eq_true,decide_eq_true_eq]at h;have h1:=oW p.cells 0;rw[h.2,lH]at h1;omega
def cC (p:Pn)(f:Frm):Pn×Rf×Int:=
 if bN p then
  (match p.free.reverse with
  | at_::_=>(match p.cells[at_.toNat]? with
   | some c=>(⟨p.cells.set at_.toNat ⟨c.gen,true,f⟩,p.free.take (p.free.length - 1),p.most⟩,⟨at_,c.gen⟩,0)
   | none=>(p,⟨0,0⟩,1))
  | []=>if(p.cells.length:Int) == p.most then(p,⟨0,0⟩,120)else(⟨p.cells++[⟨0,true,f⟩],[],p.most⟩,⟨p.cells.length,0⟩,0))
 else(p,⟨0,0⟩,1)
theorem aIv (p:Pn)(f:Frm)(hf:p.free.length≤1073741824):PC P0 g 82 [bJ p,aJ f] (.ret (.tup [bJ (cC p f).1,aS (cC p f).2.1,i64 (cC p f).2.2])):=by
 obtain⟨cells,free,most⟩:=p;simp only at hf;refine eC Tryz.func82 Tryz.ntmps82 Tryz.results82 rfl ?_;simp only[ZZ,simprocAttr,i64,bJ,aJ,aS,aN];refine rg fun K hK=>?_;simp only[ZZ,simprocAttr,i64,bJ,aJ,aS,aN];apply hK;try clear hK K
 refine rg fun K hK=>?_;simp only[ZZ,simprocAttr,i64,bJ,aJ,aS,aN];apply hK;try clear hK K
 refine aF fun K1 hK1=>?_;refine aT ?_;refine rg fun K hK=>?_;simp only[ZZ,simprocAttr,i64,bJ,aJ,aS,aN];refine mt (yL g ⟨cells,free,most⟩ hf) Tryz.func128 rfl ⟨⟨rfl,rfl⟩,rfl⟩ rfl ?_;cases h1:bN ⟨cells,free,most⟩
 ·simp only[ZZ,simprocAttr,i64,bJ,aJ,aS,aN];apply hK;try clear hK K
  apply aB rfl;refine rg fun K hK=>?_;simp only[ZZ,simprocAttr,i64,bJ,aJ,aS,aN];apply hK;try clear hK K
  apply aC;simp only[ZZ,simprocAttr,i64,bJ,aJ,aS,aN,cC,h1]
 have hl:=gE h1;have hfr:=fun y hy=>sN h1 (y:=y) hy;simp only at hl hfr;have hl2:cells.length+1≤1073741824:=by omega
 simp only[ZZ,simprocAttr,i64,bJ,aJ,aS,aN];apply hK;try clear hK K
 apply aD rfl;rcases hrev:free.reverse with _|⟨at_,rest⟩
 ·have hfree:free=[]:=by simpa using hrev
  subst hfree;cases h2:(cells.length:Int) == most;rotate_left 1
  ·refine rg fun K hK=>?_;simp only[ZZ,simprocAttr,i64,bJ,aJ,aS,aN,h2];apply hK;try clear hK K
   apply aB rfl;refine rg fun K hK=>?_;simp only[ZZ,simprocAttr,i64,bJ,aJ,aS,aN];apply hK;try clear hK K
   apply aC;simp only[ZZ,simprocAttr,i64,bJ,aJ,aS,aN,cC,h1,h2,List.reverse_nil]
  ·refine rg fun K hK=>?_;simp only[ZZ,simprocAttr,i64,bJ,aJ,aS,aN,h2];apply hK;try clear hK K
   apply aD rfl;apply aH;simp only[WX];apply hK1;try clear hK1 K1
   refine rg fun K hK=>?_;simp only[ZZ,simprocAttr,i64,bJ,aJ,aS,aN];refine Dk g cells [] most (by omega) (by simp) ?_;simp only[ZZ,simprocAttr,i64,bJ,aJ,aS,aN];apply hK;try clear hK K
   refine rg fun K hK=>?_;simp only[ZZ,simprocAttr,i64,bJ,aJ,aS,aN];apply hK;try clear hK K
   refine aF fun K1 hK1=>?_;refine rg fun K hK=>?_;simp only[ZZ,simprocAttr,i64,bJ,aJ,aS,aN];apply hK;try clear hK K
   apply aD rfl;refine rl fun K hK=>?_;simp only[ZZ,simprocAttr,i64,bJ,aJ,aS,aN,Nat.zero_le,hl2];apply hK;try clear hK K
   try simp only[WX]
   apply hK1;try clear hK1 K1
   refine rg fun K hK=>?_;simp only[ZZ,simprocAttr,i64,bJ,aJ,aS,aN];apply hK;try clear hK K
   refine pr [0,1,3,4,2,5,6,7,8] [2] [1] (by kernel_rfl) fun K hK=>?_;simp only[ZZ,simprocAttr,i64,bJ,aJ,aS,aN,fL];apply hK;try clear hK K
   refine pr [1,2,3,4,0,5,6,7,8,9] [5] [0,9] (by kernel_rfl) fun K hK=>?_;simp only[ZZ,simprocAttr,i64,bJ,aJ,aS,aN,fL];apply hK;try clear hK K
   have hfold:(cells.map dX++[V.agg [i64 0,.bool true,i64 f.fn,i64 f.pc,.imm (f.stack.map eVal),.imm (f.locals.map eVal),.imm (f.slots.map cF),i64 f.seed,i64 f.spawned,i64 f.draws,i64 f.state,i64 f.wait,i64 f.out.trap,i64 f.out.v.re,i64 f.out.v.im,i64 f.up.at_,i64 f.up.gen,i64 f.upSlot]])=(cells++[(⟨0,true,f⟩:Cel)]).map dX:=by rw[List.map_append];rfl
   simp only[i64]at hfold;rw[hfold];apply aC;simp only[ZZ,simprocAttr,i64,bJ,aJ,aS,aN,cC,h1,h2,List.reverse_nil,List.length_append,Wz]
 ·have hne:free=rest.reverse++[at_]:=by have:=congrArg List.reverse hrev;simpa using this
  have hfl:free.length=rest.length+1:=by rw[hne];simp
  have hlast:free[rest.length]?=some at_:=by rw[hne,List.getElem?_append_right (by simp)];simp
  have hmem:at_∈free:=by rw[hne];simp
  obtain⟨c,hc,hu,ha0,ha1⟩:=hfr at_ hmem;have hz:((free.length:Int) == 0)=false:=by rw[beq_eq_false_iff_ne];omega
  have hgt:(0:Int) < free.length:=by omega
  have hw:IntKind.i64.wrap ((free.length:Int) - 1)=rest.length:=by rw[IntWalk.i64_in _ (by omega)];omega
  have hb1:(0:Int)≤rest.length:=by omega
  have hb2:(rest.length:Int) < free.length:=by omega
  have hb3:(rest.length:Int)≤free.length:=by omega
  obtain⟨i,hi⟩:∃ i:Nat,at_=i:=⟨at_.toNat,by omega⟩;subst hi;rw[Int.toNat_natCast]at hc;have hia:i < cells.length:=by omega
  obtain⟨cg,used,cf⟩:=c;refine rg fun K hK=>?_;simp only[ZZ,simprocAttr,i64,bJ,aJ,aS,aN,hz];apply hK;try clear hK K
  apply aD rfl;apply aH;simp only[WX];apply hK1;try clear hK1 K1
  refine rg fun K hK=>?_;simp only[ZZ,simprocAttr,i64,bJ,aJ,aS,aN];refine Dk g cells free most (by omega) (by omega) ?_;simp only[ZZ,simprocAttr,i64,bJ,aJ,aS,aN];apply hK;try clear hK K
  refine rg fun K hK=>?_;simp only[ZZ,simprocAttr,i64,bJ,aJ,aS,aN];apply hK;try clear hK K
  refine aF fun K1 hK1=>?_;refine rg fun K hK=>?_;simp only[ZZ,simprocAttr,i64,bJ,aJ,aS,aN,hgt];apply hK;try clear hK K
  apply aB rfl;refine dl [0,2,3,6,8,9,1,4,5,11,7,10,12,13] (by kernel_rfl) fun K hK=>?_;simp only[ZZ,simprocAttr,i64,bJ,aJ,aS,aN,hw,hb1,hb2,hb3,tR _ _ _ hb1 hb3,hlast,Option.map_some];apply hK;try clear hK K
  try simp only[WX]
  apply hK1;try clear hK1 K1
  refine rg fun K hK=>?_;simp only[ZZ,simprocAttr,i64,bJ,aJ,aS,aN,hia,hc,Option.map_some,ha1,List.length_map];apply hK;try clear hK K
  have hia':i < (cells.map dX).length:=by simpa using hia
  refine pr [0,1,3,4,2,5,6,7,8] [2] [1] (by kernel_rfl) fun K hK=>?_;simp only[ZZ,simprocAttr,i64,bJ,aJ,aS,aN,hc,Option.map_some,aN,aAj hia',fL];apply hK;try clear hK K
  have hfold:(cells.map dX).set i (V.agg [i64 cg,.bool true,i64 f.fn,i64 f.pc,.imm (f.stack.map eVal),.imm (f.locals.map eVal),.imm (f.slots.map cF),i64 f.seed,i64 f.spawned,i64 f.draws,i64 f.state,i64 f.wait,i64 f.out.trap,i64 f.out.v.re,i64 f.out.v.im,i64 f.up.at_,i64 f.up.gen,i64 f.upSlot])=(cells.set i (⟨cg,true,f⟩:Cel)).map dX:=by rw[List.map_set];rfl
  simp only[i64]at hfold;rw[hfold];refine pr [1,2,3,4,0,5,6,7,8,9] [5] [0,6] (by kernel_rfl) fun K hK=>?_;simp only[ZZ,simprocAttr,i64,bJ,aJ,aS,aN,List.getElem?_set_self hia,Option.map_some,fL];apply hK;try clear hK K
  have hsl:∀ H n ro,mH H (n+2) 0 rest.length (some (.row 1 (free.map eI) ro))=some (.imm ((free.take rest.length).map eI)):=fun H n ro=>by rw[aEf _ _ _ _ _ _ (by omega),List.drop_zero]
  have hp:cC ⟨cells,free,most⟩ f=(⟨cells.set i ⟨cg,true,f⟩,free.take rest.length,most⟩,⟨i,cg⟩,0):=by simp only[cC,h1,hrev,if_true,Int.toNat_natCast,hc,hfl,Nat.add_sub_cancel]
  apply aC;simp only[ZZ,simprocAttr,i64,bJ,aJ,aS,aN,hsl,hp,List.length_set,Nat.sub_zero]
end
section
open Go.Proofs.Tryz
open Go Go.RowKit
theorem yM {f:V→Option V}:∀ l:List V,(∀ v∈l,f v=some v)→l.mapM f=some l
 | [],_=>rfl
 | v::l,h=>by rw[fP,h v (by simp),yM l fun u hu=>h u (by simp[hu])];rfl
theorem Cv (H:aA)(n s:Nat)(l:List V)(ro:Bool)(hf:∀ v∈l,fz H n v=some v)(hs:∀ v∈l,v.cells.length=s):mH H n 0 l.length (some (.row s l ro))=some (.imm l):=by
 simp only[mH,Nat.zero_add,Nat.le_refl,if_true,List.drop_zero,List.take_length,yM l hf,slO,fV.2 hs]
theorem nE (l:List V):wkL l=l.map wk:=by
 induction l with
 | nil=>rfl
 | cons v l ih=>simp[wkL,ih]
theorem Ac (v:V):(wk v).cells=wkL v.cells:=by
 cases v<;>simp[wk,V.cells,wkL]
theorem Tv.wkI {w:World}{im:Nat→Prop}{es:List V}{x:Value}(h:Tv w im (.imm es) x):Tv w im (.imm (wkL es)) x:=by
 cases h with
 | imm0 a cap h hA=>exact .imm0 a cap h hA
 | imm _ s B O cap cs hne hB hcap hs hc h1 h=>
  have hlen:(wkL es).length=es.length:=by rw[nE];simp
  have:=Tv.imm (w:=w) (im:=im) (wkL es) s B O cap cs (by intro e;rw[e]at hlen;exact hne (List.eq_nil_of_length_eq_zero hlen.symm)) hB (by omega) (fun e he=>by
   rw[nE]at he;obtain⟨a,ha,rfl⟩:=List.mem_map.1 he;rw[Ac,nE,List.length_map];exact hs a ha) hc h1 (by
   have e:(wkL es).flatMap V.cells=wkL (es.flatMap V.cells):=by
    simp only[nE,List.flatMap_map,List.map_flatMap];congr 1;funext v;rw[Ac,nE]
   rw[e];exact h.wk)
  rwa [hlen]at this
variable (g:Gl)
theorem PC.wkPen {P:Program}{f:FuncId}{l:List V}{es fs:List V}{v u:V}(h:PC P g f l (.ret (.tup [.agg [.imm es,.imm fs,v],u]))):PC P g f l (.ret (.tup [.agg [.imm (wkL es),.imm fs,v],u])):=fun w im xs hG hi hx=>
 (h w im xs hG hi hx).mono fun e w' ⟨⟨y,e1,hy⟩,hb⟩=>⟨⟨y,e1,by
  cases hy with
  | tup _ xs h=>
   cases h with
   | cons _ x1 _ m1 h1 t1=>
    cases h1 with
    | agg _ ys g1 g2=>
     cases g2 with
     | cons _ z1 _ zs k1 k2=>exact .tup _ _ (.cons _ _ _ _ (.agg _ _ g1 (.cons _ _ _ _ k1.wkI k2)) t1)⟩,hb⟩
def bI (p:Pn)(r:Rf)(f:Frm):Pn×Int:=
 if bN p then(if gA p r then(match p.cells[r.at_.toNat]? with|some c=>({p with cells:=p.cells.set r.at_.toNat ⟨c.gen,c.used,f⟩},0)|none=>(p,121))else(p,121))else(p,1)
def fI (n:Int):Int:=pD .i64 (IntKind.i64.wrap (n+1)) 4294967295
def aR (p:Pn)(r:Rf):Pn×Int:=
 if bN p then(if gA p r then(match p.cells[r.at_.toNat]? with|some c=>({p with cells:=p.cells.set r.at_.toNat ⟨fI c.gen,false,cZ⟩,free:=p.free++[r.at_]},0)|none=>(p,121))else(p,121))else(p,1)
theorem aDd (p:Pn)(r:Rf)(f:Frm)(hf:p.free.length≤1073741824):PC P0 g 248 [bJ p,aS r,aJ f] (.ret (.tup [bJ (bI p r f).1,i64 (bI p r f).2])):=by
 obtain⟨cells,free,most⟩:=p;obtain⟨at_,gen⟩:=r;simp only at hf;refine eC func248 ntmps248 results248 rfl ?_;simp only[ZZ,simprocAttr,i64,bJ,aJ,aS,aN];refine rg fun K hK=>?_;simp only[ZZ,simprocAttr,i64,bJ,aJ,aS,aN];apply hK;try clear hK K
 refine rg fun K9 hK9=>?_;simp only[ZZ,simprocAttr,i64,bJ,aJ,aS,aN];refine en func296 ntmps296 results296 rfl ⟨⟨rfl,rfl⟩,rfl⟩ ?_;simp only[ZZ,simprocAttr,i64,bJ,aJ,aS,aN];refine rg fun K2 hK2=>?_;simp only[ZZ,simprocAttr,i64,bJ,aJ,aS,aN];apply hK2;refine aF fun K3 hK3=>?_;refine aT ?_;refine rg fun K hK=>?_;simp only[ZZ,simprocAttr,i64,bJ,aJ,aS,aN];refine mt (yL g ⟨cells,free,most⟩ hf) func128 rfl ⟨⟨rfl,rfl⟩,rfl⟩ rfl ?_;cases h1:bN ⟨cells,free,most⟩
 ·have hg:bI ⟨cells,free,most⟩ ⟨at_,gen⟩ f=(⟨cells,free,most⟩,1):=by simp[bI,h1]
  simp only[ZZ,simprocAttr,i64,bJ,aJ,aS,aN];apply hK;try clear hK K
  apply aB rfl;refine rg fun K hK=>?_;simp only[ZZ,simprocAttr,i64,bJ,aJ,aS,aN];apply hK;try clear hK K
  apply aC;simp only[ZZ,simprocAttr,i64,bJ,aJ,aS,aN];apply hK9;try clear hK9 K9
  apply aC;simp only[ZZ,simprocAttr,i64,bJ,aJ,aS,aN,hg]
 have hl:=gE h1;have hfl:=gS h1;simp only at hl hfl;simp only[ZZ,simprocAttr,i64,bJ,aJ,aS,aN];apply hK;try clear hK K
 apply aD rfl;refine rg fun K hK=>?_;simp only[ZZ,simprocAttr,i64,bJ,aJ,aS,aN];refine mt (Lj g ⟨cells,free,most⟩ ⟨at_,gen⟩ (by simp only;omega)) func174 rfl ⟨⟨rfl,rfl⟩,rfl⟩ rfl ?_;cases h2:gA ⟨cells,free,most⟩ ⟨at_,gen⟩
 ·have hg:bI ⟨cells,free,most⟩ ⟨at_,gen⟩ f=(⟨cells,free,most⟩,121):=by simp[bI,h1,h2]
  simp only[ZZ,simprocAttr,i64,bJ,aJ,aS,aN];apply hK;try clear hK K
  apply aB rfl;refine rg fun K hK=>?_;simp only[ZZ,simprocAttr,i64,bJ,aJ,aS,aN];apply hK;try clear hK K
  apply aC;simp only[ZZ,simprocAttr,i64,bJ,aJ,aS,aN];apply hK9;try clear hK9 K9
  apply aC;simp only[ZZ,simprocAttr,i64,bJ,aJ,aS,aN,hg]
 obtain⟨c,hc,hr0,hr1,hu,hgn⟩:=gF h2;have hg:bI ⟨cells,free,most⟩ ⟨at_,gen⟩ f=(⟨cells.set at_.toNat ⟨c.gen,c.used,f⟩,free,most⟩,0):=by simp only[bI,h1,h2,if_true];simp only at hc;rw[hc]
 obtain⟨cg,used,cf⟩:=c;simp only at hc hr0 hr1;simp only[ZZ,simprocAttr,i64,bJ,aJ,aS,aN];apply hK;try clear hK K
 apply aD rfl;apply aH;simp only[WX];apply hK3;refine rg fun K hK=>?_;simp only[ZZ,simprocAttr,i64,bJ,aJ,aS,aN];refine Dk g cells free most (by omega) (by omega) ?_;simp only[ZZ,simprocAttr,i64,bJ,aJ,aS,aN];apply hK;try clear hK K
 obtain⟨i,rfl⟩:∃ i:Nat,at_=i:=⟨at_.toNat,by omega⟩;rw[Int.toNat_natCast]at hc hg;have hia:i < cells.length:=by omega
 have hia':i < (cells.map dX).length:=by simpa using hia
 refine rg fun K hK=>?_;simp only[ZZ,simprocAttr,i64,bJ,aJ,aS,aN,hr1,hc,Option.map_some];refine en func297 ntmps297 results297 rfl ⟨⟨rfl,rfl⟩,rfl⟩ ?_;simp only[ZZ,simprocAttr,i64,bJ,aJ,aS,aN];refine rl fun K hK=>?_;simp only[ZZ,simprocAttr,i64,bJ,aJ,aS,aN,hr1,hc,Option.map_some,aN];apply hK;try clear hK K
 try simp only[WX]
 simp only[ZZ,simprocAttr,i64,bJ,aJ,aS,aN];apply hK;try clear hK K
 have hfold:∀ u,(cells.map dX).set i (V.agg [i64 cg,.bool u,i64 f.fn,i64 f.pc,.imm (f.stack.map eVal),.imm (f.locals.map eVal),.imm (f.slots.map cF),i64 f.seed,i64 f.spawned,i64 f.draws,i64 f.state,i64 f.wait,i64 f.out.trap,i64 f.out.v.re,i64 f.out.v.im,i64 f.up.at_,i64 f.up.gen,i64 f.upSlot])=(cells.set i (⟨cg,u,f⟩:Cel)).map dX:=fun u=>by rw[List.map_set];rfl
 simp only[i64]at hfold;rw[hfold];refine rg fun K hK=>?_;simp only[ZZ,simprocAttr,i64,bJ,aJ,aS,aN];apply hK;try clear hK K
 apply aC;simp only[ZZ,simprocAttr,i64,bJ,aJ,aS,aN];apply hK9;try clear hK9 K9
 apply aC;simp only[ZZ,simprocAttr,i64,bJ,aJ,aS,aN,hg,List.length_set]
theorem aJs (p:Pn)(r:Rf)(hf:p.free.length≤1073741824):PC P0 g 251 [bJ p,aS r] (.ret (.tup [bJ (aR p r).1,i64 (aR p r).2])):=by
 obtain⟨cells,free,most⟩:=p;obtain⟨at_,gen⟩:=r;simp only at hf;cases h1:bN ⟨cells,free,most⟩
 ·have hg:aR ⟨cells,free,most⟩ ⟨at_,gen⟩=(⟨cells,free,most⟩,1):=by simp[aR,h1]
  refine eC func251 ntmps251 results251 rfl ?_;simp only[ZZ,simprocAttr,i64,bJ,aS];refine rg fun K hK=>?_;simp only[ZZ,simprocAttr,i64,bJ,aS];apply hK;refine rg fun K9 hK9=>?_;simp only[ZZ,simprocAttr,i64,bJ,aS];refine en func296 ntmps296 results296 rfl ⟨⟨rfl,rfl⟩,rfl⟩ ?_;simp only[ZZ,simprocAttr,i64,bJ,aS];refine rg fun K2 hK2=>?_;simp only[ZZ,simprocAttr,i64,bJ,aS];apply hK2;refine aF fun K3 hK3=>?_;refine aT ?_;refine rg fun K hK=>?_;simp only[ZZ,simprocAttr,i64,bJ,aS];refine mt (yL g ⟨cells,free,most⟩ hf) func128 rfl ⟨⟨rfl,rfl⟩,rfl⟩ rfl ?_;simp only[ZZ,simprocAttr,i64,bJ,aS,h1];apply hK;apply aB rfl;refine rg fun K hK=>?_;simp only[ZZ,simprocAttr,i64,bJ,aS];apply hK;apply aC;simp only[ZZ,simprocAttr,i64,bJ,aS];apply hK9;try clear hK9 K9
  apply aC;simp only[ZZ,simprocAttr,i64,bJ,aS,hg]
 have hl:=gE h1;have hfl:=gS h1;simp only at hl hfl;cases h2:gA ⟨cells,free,most⟩ ⟨at_,gen⟩
 ·have hg:aR ⟨cells,free,most⟩ ⟨at_,gen⟩=(⟨cells,free,most⟩,121):=by simp[aR,h1,h2]
  refine eC func251 ntmps251 results251 rfl ?_;simp only[ZZ,simprocAttr,i64,bJ,aS];refine rg fun K hK=>?_;simp only[ZZ,simprocAttr,i64,bJ,aS];apply hK;refine rg fun K9 hK9=>?_;simp only[ZZ,simprocAttr,i64,bJ,aS];refine en func296 ntmps296 results296 rfl ⟨⟨rfl,rfl⟩,rfl⟩ ?_;simp only[ZZ,simprocAttr,i64,bJ,aS];refine rg fun K2 hK2=>?_;simp only[ZZ,simprocAttr,i64,bJ,aS];apply hK2;refine aF fun K3 hK3=>?_;refine aT ?_;refine rg fun K hK=>?_;simp only[ZZ,simprocAttr,i64,bJ,aS];refine mt (yL g ⟨cells,free,most⟩ hf) func128 rfl ⟨⟨rfl,rfl⟩,rfl⟩ rfl ?_;simp only[ZZ,simprocAttr,i64,bJ,aS,h1];apply hK;apply aD rfl;refine rg fun K hK=>?_;simp only[ZZ,simprocAttr,i64,bJ,aS];refine mt (Lj g ⟨cells,free,most⟩ ⟨at_,gen⟩ (by simp only;omega)) func174 rfl ⟨⟨rfl,rfl⟩,rfl⟩ rfl ?_;simp only[ZZ,simprocAttr,i64,bJ,aS,h2];apply hK;apply aB rfl;refine rg fun K hK=>?_;simp only[ZZ,simprocAttr,i64,bJ,aS];apply hK;apply aC;simp only[ZZ,simprocAttr,i64,bJ,aS];apply hK9;try clear hK9 K9
  apply aC;simp only[ZZ,simprocAttr,i64,bJ,aS,hg]
 obtain⟨c,hc,hr0,hr1,hu,hgn⟩:=gF h2;obtain⟨cg,used,cf⟩:=c;simp only at hc hr0 hr1;obtain⟨i,rfl⟩:∃ i:Nat,at_=i:=⟨at_.toNat,by omega⟩;rw[Int.toNat_natCast]at hc;have hg:aR ⟨cells,free,most⟩ ⟨i,gen⟩=(⟨cells.set i ⟨fI cg,false,cZ⟩,free++[(i:Int)],most⟩,0):=by simp only[aR,h1,h2,if_true,Int.toNat_natCast,hc]
 have hia:i < cells.length:=by omega
 have hia':i < (cells.map dX).length:=by simpa using hia
 have hap:free.length+1≤1073741824:=by omega
 have key:PC P0 g 251 [bJ ⟨cells,free,most⟩,aS ⟨i,gen⟩] (.ret (.tup [.agg [.imm ((cells.map dX).set i (.agg [i64 (fI cg),.bool false,i64 0,i64 0,.nils,.nils,.nils,i64 0,i64 0,i64 0,i64 0,i64 0,i64 0,i64 0,i64 0,i64 0,i64 0,i64 0])),.imm ((free++[(i:Int)]).map eI),i64 most],i64 0])):=by
  refine eC func251 ntmps251 results251 rfl ?_;simp only[ZZ,simprocAttr,i64,bJ,aS];refine rg fun K hK=>?_;simp only[ZZ,simprocAttr,i64,bJ,aS];apply hK;refine rg fun K9 hK9=>?_;simp only[ZZ,simprocAttr,i64,bJ,aS];refine en func296 ntmps296 results296 rfl ⟨⟨rfl,rfl⟩,rfl⟩ ?_;simp only[ZZ,simprocAttr,i64,bJ,aS];refine rg fun K2 hK2=>?_;simp only[ZZ,simprocAttr,i64,bJ,aS];apply hK2;refine aF fun K3 hK3=>?_;refine aT ?_;refine rg fun K hK=>?_;simp only[ZZ,simprocAttr,i64,bJ,aS];refine mt (yL g ⟨cells,free,most⟩ hf) func128 rfl ⟨⟨rfl,rfl⟩,rfl⟩ rfl ?_;simp only[ZZ,simprocAttr,i64,bJ,aS,h1];apply hK;apply aD rfl;refine rg fun K hK=>?_;simp only[ZZ,simprocAttr,i64,bJ,aS];refine mt (Lj g ⟨cells,free,most⟩ ⟨i,gen⟩ (by simp only;omega)) func174 rfl ⟨⟨rfl,rfl⟩,rfl⟩ rfl ?_;simp only[ZZ,simprocAttr,i64,bJ,aS,h2];apply hK;apply aD rfl;apply aH;simp only[WX];apply hK3;refine rg fun K hK=>?_;simp only[ZZ,simprocAttr,i64,bJ,aS];refine Dk g cells free most (by omega) (by omega) ?_;simp only[ZZ,simprocAttr,i64,bJ,aS];apply hK;refine rg fun K7 hK7=>?_;simp only[ZZ,simprocAttr,i64,bJ,aS,hr1,hc,Option.map_some];refine en func300 ntmps300 results300 rfl ⟨⟨rfl,rfl⟩,rfl⟩ ?_;simp only[ZZ,simprocAttr,i64,bJ,aS];refine rg fun K hK=>?_;simp only[ZZ,simprocAttr,i64,bJ,aS,hr1,hc,Option.map_some,aN];apply hK;refine dl [0,1,2,3,5,4,6,7,8,9,10,11] (by kernel_rfl) fun K hK=>?_;simp only[ZZ,simprocAttr,i64,bJ,aS,hap];apply hK;try simp only[WX]
  simp only[ZZ,simprocAttr,i64,bJ,aS];apply hK7;try clear hK7 K7
  refine rg fun K hK=>?_;simp only[ZZ,simprocAttr,i64,bJ,aS];apply hK;apply aC;simp only[ZZ,simprocAttr,i64,bJ,aS];apply hK9;try clear hK9 K9
  have hfr:free.map eI++[V.int .i64 (i:Int)]=(free++[(i:Int)]).map eI:=by rw[List.map_append];rfl
  rw[hfr];have hcx:∀(H:aA)(n:Nat)(ro:Bool),mH H (n+2) 0 cells.length (some (.row 18 ((cells.map dX).set i (.agg [i64 (fI cg),.bool false,i64 0,i64 0,.nils,.nils,.nils,i64 0,i64 0,i64 0,i64 0,i64 0,i64 0,i64 0,i64 0,i64 0,i64 0,i64 0])) ro))=some (.imm ((cells.map dX).set i (.agg [i64 (fI cg),.bool false,i64 0,i64 0,.nils,.nils,.nils,i64 0,i64 0,i64 0,i64 0,i64 0,i64 0,i64 0,i64 0,i64 0,i64 0,i64 0]))):=by
   intro H n ro;have:=Cv H (n+2) 18 ((cells.map dX).set i (.agg [i64 (fI cg),.bool false,i64 0,i64 0,.nils,.nils,.nils,i64 0,i64 0,i64 0,i64 0,i64 0,i64 0,i64 0,i64 0,i64 0,i64 0,i64 0])) ro (fun v hv=>by
    rcases List.mem_or_eq_of_mem_set hv with h|rfl
    ·obtain⟨c,_,rfl⟩:=List.mem_map.1 h;rfl
    ·rfl) (fun v hv=>by
    rcases List.mem_or_eq_of_mem_set hv with h|rfl
    ·obtain⟨c,_,rfl⟩:=List.mem_map.1 h;rfl
    ·rfl)
   rwa [List.length_set,List.length_map]at this
  simp only[fI,i64]at hcx;apply aC;simp only[ZZ,simprocAttr,i64,bJ,aS,hcx,fI,List.length_append]
 have:=key.wkPen;rw[nE,List.map_set]at this;rw[hg];have e:((cells.map dX).map wk)=cells.map dX:=by rw[List.map_map];rfl
 rw[e]at this;simp only[bJ,List.map_set];exact this
end
section
open Go Go.RowKit
variable (g:Gl)
def rU (p:List Fun)(f:Fun)(d e:V)(place:Int):V:=.agg [.imm (p.map bL),i64 f.ar,i64 f.lo,i64 f.sl,.imm (f.code.map aK),d,e,i64 place]
def bD (p:List Fun)(f:Fun)(x:Ins):Int:=
 if x.op=1∨x.op=2 then(if f.lo≤x.a then 82 else 0)
 else if x.op=14 then(if f.sl≤x.a then 82 else 0)
 else if x.op=13 then(if f.sl≤x.b then 82 else if(p.length:Int)≤x.a then 82 else 0)
 else if x.op=10∨x.op=11 then(if(f.code.length:Int)≤x.a then 83 else 0)
 else 0
section
variable {Q:Ex→List V→aA→Prop}{dst:Option Tmp}{T:List V}{H:aA}{KK:List V→aA→Prop}
theorem aMf {b:Nat}{d e:V}{place:Int}(p:List Fun)(f:Fun)(x:Ins)(hb0:hb H b=some (.row 8 [rU p f d e place] false))
 (hk:KK (put T dst (.int .i64 (bD p f x))) (H++[.row 3 [aK x] false])):aZ (Eg g) (FW (Eg g)) 188 [.ptr b 0 0,aK x] dst T H KK Q:=by
 have hbl:=aE hb0;obtain⟨op,a,b'⟩:=x;obtain⟨ar,lo,sl,code⟩:=f;simp only[rU]at hb0;refine en Tryz.func188 Tryz.ntmps188 Tryz.results188 rfl ⟨⟨rfl,rfl⟩,rfl⟩ ?_;simp only[ZZ,simprocAttr,i64,aK,WH,hbl,hb0];refine rg fun K hK=>?_;simp only[ZZ,simprocAttr,i64,aK,WH,hbl,hb0];apply hK;refine rg fun K hK=>?_;simp only[ZZ,simprocAttr,i64,aK,WH,hbl,hb0];apply hK;refine rg fun K hK=>?_;simp only[ZZ,simprocAttr,i64,aK,WH,hbl,hb0];apply hK;refine aF fun K1 hK1=>?_;refine rg fun K2 hK2=>?_;simp only[ZZ,simprocAttr,i64,aK,WH,hbl,hb0];apply hK2;refine aT ?_;refine aF fun K3 hK3=>?_;by_cases h1:op=1
 ·subst h1;refine rg fun K3 hK3=>?_;simp only[ZZ,simprocAttr,i64,aK,WH,hbl,hb0];apply hK3;try clear hK3 K3
  apply aB rfl;apply aH;simp only[WX];apply hK3;try clear hK3 K3
  apply aB rfl;refine rl fun K hK=>?_;simp only[ZZ,simprocAttr,i64,aK,WH,hbl,hb0];apply hK;try simp only[WX]
  apply hK1;try clear hK1 K1
  refine aF fun K1 hK1=>?_;by_cases h9:lo≤a
  ·refine rg fun K hK=>?_;simp only[ZZ,simprocAttr,i64,aK,WH,hbl,hb0,h9];apply hK;apply aB rfl;refine rg fun K hK=>?_;simp only[ZZ,simprocAttr,i64,aK,WH,hbl,hb0];apply hK;apply aC;simp only[ZZ,simprocAttr,i64,aK,WH,hbl,hb0];rw[show bD p ⟨ar,lo,sl,code⟩ ⟨1,a,b'⟩=82 by simp[bD,h9]]at hk;exact hk
  ·refine rg fun K hK=>?_;simp only[ZZ,simprocAttr,i64,aK,WH,hbl,hb0,h9];apply hK;apply aD rfl;apply aH;simp only[WX];apply hK1;try clear hK1 K1
   refine rg fun K hK=>?_;simp only[ZZ,simprocAttr,i64,aK,WH,hbl,hb0];apply hK;apply aC;simp only[ZZ,simprocAttr,i64,aK,WH,hbl,hb0];rw[show bD p ⟨ar,lo,sl,code⟩ ⟨1,a,b'⟩=0 by simp[bD,h9]]at hk;exact hk
 have h1':(op == 1)=false:=by simpa using h1
 by_cases h2:op=2
 ·subst h2;refine rg fun K3 hK3=>?_;simp only[ZZ,simprocAttr,i64,aK,WH,hbl,hb0];apply hK3;try clear hK3 K3
  apply aD rfl;refine rl fun K hK=>?_;simp only[ZZ,simprocAttr,i64,aK,WH,hbl,hb0];apply hK;try simp only[WX]
  apply hK3;try clear hK3 K3
  apply aB rfl;refine rl fun K hK=>?_;simp only[ZZ,simprocAttr,i64,aK,WH,hbl,hb0];apply hK;try simp only[WX]
  apply hK1;try clear hK1 K1
  refine aF fun K1 hK1=>?_;by_cases h9:lo≤a
  ·refine rg fun K hK=>?_;simp only[ZZ,simprocAttr,i64,aK,WH,hbl,hb0,h9];apply hK;apply aB rfl;refine rg fun K hK=>?_;simp only[ZZ,simprocAttr,i64,aK,WH,hbl,hb0];apply hK;apply aC;simp only[ZZ,simprocAttr,i64,aK,WH,hbl,hb0];rw[show bD p ⟨ar,lo,sl,code⟩ ⟨2,a,b'⟩=82 by simp[bD,h9]]at hk;exact hk
  ·refine rg fun K hK=>?_;simp only[ZZ,simprocAttr,i64,aK,WH,hbl,hb0,h9];apply hK;apply aD rfl;apply aH;simp only[WX];apply hK1;try clear hK1 K1
   refine rg fun K hK=>?_;simp only[ZZ,simprocAttr,i64,aK,WH,hbl,hb0];apply hK;apply aC;simp only[ZZ,simprocAttr,i64,aK,WH,hbl,hb0];rw[show bD p ⟨ar,lo,sl,code⟩ ⟨2,a,b'⟩=0 by simp[bD,h9]]at hk;exact hk
 have h2':(op == 2)=false:=by simpa using h2
 refine rg fun K3 hK3=>?_;simp only[ZZ,simprocAttr,i64,aK,WH,hbl,hb0,h1'];apply hK3;try clear hK3 K3
 apply aD rfl;refine rl fun K hK=>?_;simp only[ZZ,simprocAttr,i64,aK,WH,hbl,hb0,h2'];apply hK;try simp only[WX]
 apply hK3;try clear hK3 K3
 apply aD rfl;by_cases h3:op=14
 ·subst h3;refine rg fun K hK=>?_;simp only[ZZ,simprocAttr,i64,aK,WH,hbl,hb0];apply hK;apply aB rfl;refine rl fun K hK=>?_;simp only[ZZ,simprocAttr,i64,aK,WH,hbl,hb0];apply hK;try simp only[WX]
  apply hK1;try clear hK1 K1
  refine aF fun K1 hK1=>?_;by_cases h9:sl≤a
  ·refine rg fun K hK=>?_;simp only[ZZ,simprocAttr,i64,aK,WH,hbl,hb0,h9];apply hK;apply aB rfl;refine rg fun K hK=>?_;simp only[ZZ,simprocAttr,i64,aK,WH,hbl,hb0];apply hK;apply aC;simp only[ZZ,simprocAttr,i64,aK,WH,hbl,hb0];rw[show bD p ⟨ar,lo,sl,code⟩ ⟨14,a,b'⟩=82 by simp[bD,h9]]at hk;exact hk
  ·refine rg fun K hK=>?_;simp only[ZZ,simprocAttr,i64,aK,WH,hbl,hb0,h9];apply hK;apply aD rfl;apply aH;simp only[WX];apply hK1;try clear hK1 K1
   refine rg fun K hK=>?_;simp only[ZZ,simprocAttr,i64,aK,WH,hbl,hb0];apply hK;apply aC;simp only[ZZ,simprocAttr,i64,aK,WH,hbl,hb0];rw[show bD p ⟨ar,lo,sl,code⟩ ⟨14,a,b'⟩=0 by simp[bD,h9]]at hk;exact hk
 have h3':(op == 14)=false:=by simpa using h3
 refine rg fun K hK=>?_;simp only[ZZ,simprocAttr,i64,aK,WH,hbl,hb0,h3'];apply hK;apply aD rfl;by_cases h4:op=13
 ·subst h4;refine rg fun K hK=>?_;simp only[ZZ,simprocAttr,i64,aK,WH,hbl,hb0];apply hK;apply aB rfl;by_cases h5:sl≤b'
  ·refine dr [0,2,3,4,5,1,6,7] (by kernel_rfl) fun K hK=>?_;simp only[ZZ,simprocAttr,i64,aK,WH,hbl,hb0,h5];apply hK;apply aB rfl;refine rg fun K hK=>?_;simp only[ZZ,simprocAttr,i64,aK,WH,hbl,hb0];apply hK;apply aC;simp only[ZZ,simprocAttr,i64,aK,WH,hbl,hb0];rw[show bD p ⟨ar,lo,sl,code⟩ ⟨13,a,b'⟩=82 by simp[bD,h5]]at hk;exact hk
  refine dr [0,2,3,4,5,1,6,7] (by kernel_rfl) fun K hK=>?_;simp only[ZZ,simprocAttr,i64,aK,WH,hbl,hb0,h5];apply hK;apply aD rfl;apply aH;simp only[WX];apply hK1;try clear hK1 K1
  refine aF fun K1 hK1=>?_;by_cases h9:(p.length:Int)≤a
  ·refine rg fun K hK=>?_;simp only[ZZ,simprocAttr,i64,aK,WH,hbl,hb0,h9];apply hK;apply aB rfl;refine rg fun K hK=>?_;simp only[ZZ,simprocAttr,i64,aK,WH,hbl,hb0];apply hK;apply aC;simp only[ZZ,simprocAttr,i64,aK,WH,hbl,hb0];rw[show bD p ⟨ar,lo,sl,code⟩ ⟨13,a,b'⟩=82 by simp[bD,h5,h9]]at hk;exact hk
  ·refine rg fun K hK=>?_;simp only[ZZ,simprocAttr,i64,aK,WH,hbl,hb0,h9];apply hK;apply aD rfl;apply aH;simp only[WX];apply hK1;try clear hK1 K1
   refine rg fun K hK=>?_;simp only[ZZ,simprocAttr,i64,aK,WH,hbl,hb0];apply hK;apply aC;simp only[ZZ,simprocAttr,i64,aK,WH,hbl,hb0];rw[show bD p ⟨ar,lo,sl,code⟩ ⟨13,a,b'⟩=0 by simp[bD,h5,h9]]at hk;exact hk
 have h4':(op == 13)=false:=by simpa using h4
 refine rg fun K hK=>?_;simp only[ZZ,simprocAttr,i64,aK,WH,hbl,hb0,h4'];apply hK;apply aD rfl;refine aF fun K4 hK4=>?_;by_cases h5:op=10
 ·subst h5;refine rg fun K4 hK4=>?_;simp only[ZZ,simprocAttr,i64,aK,WH,hbl,hb0];apply hK4;try clear hK4 K4
  apply aB rfl;apply aH;simp only[WX];apply hK4;try clear hK4 K4
  apply aB rfl;refine aF fun K5 hK5=>?_;by_cases h9:(code.length:Int)≤a
  ·refine dr [0,2,3,4,5,1,6,7,8] (by kernel_rfl) fun K hK=>?_;simp only[ZZ,simprocAttr,i64,aK,WH,hbl,hb0,h9];apply hK;apply aB rfl;refine rg fun K hK=>?_;simp only[ZZ,simprocAttr,i64,aK,WH,hbl,hb0];apply hK;apply aC;simp only[ZZ,simprocAttr,i64,aK,WH,hbl,hb0];rw[show bD p ⟨ar,lo,sl,code⟩ ⟨10,a,b'⟩=83 by simp[bD,h9]]at hk;exact hk
  ·refine dr [0,2,3,4,5,1,6,7,8] (by kernel_rfl) fun K hK=>?_;simp only[ZZ,simprocAttr,i64,aK,WH,hbl,hb0,h9];apply hK;apply aD rfl;apply aH;simp only[WX];apply hK5;try clear hK5 K5
   refine rg fun K hK=>?_;simp only[ZZ,simprocAttr,i64,aK,WH,hbl,hb0];apply hK;apply aC;simp only[ZZ,simprocAttr,i64,aK,WH,hbl,hb0];rw[show bD p ⟨ar,lo,sl,code⟩ ⟨10,a,b'⟩=0 by simp[bD,h9]]at hk;exact hk
 have h5':(op == 10)=false:=by simpa using h5
 refine rg fun K4 hK4=>?_;simp only[ZZ,simprocAttr,i64,aK,WH,hbl,hb0,h5'];apply hK4;try clear hK4 K4
 apply aD rfl;by_cases h6:op=11
 ·subst h6;refine rl fun K hK=>?_;simp only[ZZ,simprocAttr,i64,aK,WH,hbl,hb0];apply hK;try simp only[WX]
  apply hK4;try clear hK4 K4
  apply aB rfl;refine aF fun K5 hK5=>?_;by_cases h9:(code.length:Int)≤a
  ·refine dr [0,2,3,4,5,1,6,7,8] (by kernel_rfl) fun K hK=>?_;simp only[ZZ,simprocAttr,i64,aK,WH,hbl,hb0,h9];apply hK;apply aB rfl;refine rg fun K hK=>?_;simp only[ZZ,simprocAttr,i64,aK,WH,hbl,hb0];apply hK;apply aC;simp only[ZZ,simprocAttr,i64,aK,WH,hbl,hb0];rw[show bD p ⟨ar,lo,sl,code⟩ ⟨11,a,b'⟩=83 by simp[bD,h9]]at hk;exact hk
  ·refine dr [0,2,3,4,5,1,6,7,8] (by kernel_rfl) fun K hK=>?_;simp only[ZZ,simprocAttr,i64,aK,WH,hbl,hb0,h9];apply hK;apply aD rfl;apply aH;simp only[WX];apply hK5;try clear hK5 K5
   refine rg fun K hK=>?_;simp only[ZZ,simprocAttr,i64,aK,WH,hbl,hb0];apply hK;apply aC;simp only[ZZ,simprocAttr,i64,aK,WH,hbl,hb0];rw[show bD p ⟨ar,lo,sl,code⟩ ⟨11,a,b'⟩=0 by simp[bD,h9]]at hk;exact hk
 have h6':(op == 11)=false:=by simpa using h6
 refine rl fun K hK=>?_;simp only[ZZ,simprocAttr,i64,aK,WH,hbl,hb0,h6'];apply hK;try simp only[WX]
 apply hK4;try clear hK4 K4
 apply aD rfl;refine rg fun K hK=>?_;simp only[ZZ,simprocAttr,i64,aK,WH,hbl,hb0];apply hK;apply aC;simp only[ZZ,simprocAttr,i64,aK,WH,hbl,hb0];rw[show bD p ⟨ar,lo,sl,code⟩ ⟨op,a,b'⟩=0 by simp[bD,h1,h2,h3,h4,h5,h6]]at hk;exact hk
end
end
end Go.Proofs.YtaimmacnafoanaaGreatDoor.F
