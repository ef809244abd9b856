/- The plain semantics of the program, and what it computes. -/
import Derived.Test.YtaimmacnafoanaaGreatDoorQ04
import Derived.Test.YtaimmacnafoanaaGreatDoorQ12
import Derived.Deep.WholeRow
import Derived.ScopeJumps
import Derived.Test.YtaimmacnafoanaaGreatDoorQ11
set_option linter.unusedVariables false
set_option linter.unusedSimpArgs false
set_option maxRecDepth 100000
set_option linter.unnecessarySimpa false
namespace Go.Proofs.YtaimmacnafoanaaGreatDoor.F
section
open Go Go.RowKit Go.Shelf Go.Proofs
mutual
def nz:V→Bool
 | .imm es=>nzL es && es.all (fun e => !e.cells.isEmpty)
 | .agg cs=>nzL cs
 | .tup vs=>nzL vs
 | .iface _ v=>nz v
 | _=>true
def nzL:List V→Bool
 | []=>true
 | v::l=>nz v && nzL l
end
theorem tL:∀{l:List V},nzL l=true ↔ ∀ v∈l,nz v=true
 | []=>by simp[nzL]
 | v::l=>by simp[nzL,tL (l:=l)]
theorem Rt {v:V}(h:nz v=true):nzL v.cells=true:=by
 cases v<;>simp_all [V.cells,nzL,nz]
theorem Wy {l:List V}(h:nzL l=true):nzL (l.flatMap V.cells)=true:=by
 rw[tL]at h ⊢;intro v hv;obtain⟨u,hu,hv⟩:=List.mem_flatMap.1 hv;exact tL.1 (Rt (h u hu)) v hv
mutual
theorem Tv.trim {w:World}{im S:Nat→Prop}(hS:∀ B O cs,im B→cs≠[]→w.rangeAt B O cs→S B):∀{v:V}{x:Value},Tv w im v x→nz v=true→Tv w S v x
 | _,_,.bool b,_ => .bool b
 | _,_,.int k n,_ => .int k n
 | _,_,.str s,_ => .str s
 | _,_,.flt b,_ => .flt b
 | _,_,.cpx a b,_ => .cpx a b
 | _,_,.nilp,_ => .nilp
 | _,_,.nils,_ => .nils
 | _,_,.nilf,_ => .nilf
 | _,_,.nili,_ => .nili
 | _,_,.nilm,_ => .nilm
 | _,_,.imm0 a cap h hA,_ => .imm0 a cap h hA
 | _,_,.imm es s B O cap cs hne hB hcap hs hc h1 h,hf=>by
  simp only[nz,Bool.and_eq_true]at hf;have hcs:cs≠[]:=by
   intro e;have hl:=h.len;rw[e]at hl;cases es with
   | nil=>exact hne rfl
   | cons e0 es=>
    have:=hf.2;simp only[List.all_cons,Bool.and_eq_true]at this;have h1:=this.1;cases hc0:e0.cells with
    | nil=>rw[hc0]at h1;simp at h1
    | cons y ys=>simp only[List.flatMap_cons,hc0,List.length_nil,List.length_append,List.length_cons]at hl;omega
  exact .imm es s B O cap cs hne (hS B O cs hB hcs hc) hcap hs hc h1 (TvL.trim hS h (Wy hf.1))
 | _,_,.fn f,_ => .fn f
 | _,_,.iface t v x h,hf => .iface t v x (Tv.trim hS h (by simpa[nz]using hf))
 | _,_,.agg cs xs h1 h,hf => .agg cs xs h1 (TvL.trim hS h (by simpa[nz]using hf))
 | _,_,.tup cs xs h,hf => .tup cs xs (TvL.trim hS h (by simpa[nz]using hf))
 | _,_,.any x,_ => .any x
theorem TvL.trim {w:World}{im S:Nat→Prop}(hS:∀ B O cs,im B→cs≠[]→w.rangeAt B O cs→S B):∀{l:List V}{m:List Value},TvL w im l m→nzL l=true→TvL w S l m
 | _,_,.nil,_ => .nil
 | _,_,.cons v x l m h t,hf=>by
  simp only[nzL,Bool.and_eq_true]at hf;exact .cons v x l m (Tv.trim hS h hf.1) (TvL.trim hS t hf.2)
end
theorem Xy {α:Type}{e:α→V}(h:∀ a,nz (e a)=true)(l:List α):nzL (l.map e)=true:=by
 rw[tL];intro v hv;obtain⟨a,_,rfl⟩:=List.mem_map.1 hv;exact h a
theorem Yy {α:Type}{e:α→V}(h:∀ a,nz (e a)=true)(h2:∀ a,(e a).cells.isEmpty=false)(l:List α):nz (.imm (l.map e))=true:=by
 simp only[nz,Xy h l,Bool.true_and,List.all_eq_true];intro v hv;obtain⟨a,_,rfl⟩:=List.mem_map.1 hv;rw[h2 a];rfl
theorem nzi (k:IntKind)(n:Int):nz (.int k n)=true:=rfl
theorem nzb (b:Bool):nz (.bool b)=true:=rfl
theorem nza (l:List V):nz (.agg l)=nzL l:=by simp only[nz]
theorem aFp (w:Wd):nzL (kY w)=true:=by
 have h1:nz (.imm (w.prog.map bL))=true:=Yy (fun f=>by simp only[bL,nza,nzi,nzL,i64,Yy (e:=aK) (fun a=>rfl) (fun a=>rfl),Bool.and_self]) (fun _=>rfl) _;have h2:nz (.imm (w.pen.cells.map dX))=true:=Yy (fun c=>by
  simp only[dX,aN,nza,nzi,nzb,nzL,i64,List.cons_append,List.nil_append,Yy (e:=eVal) (fun a=>rfl) (fun a=>rfl),Yy (e:=cF) (fun a=>rfl) (fun a=>rfl),Bool.and_self]) (fun _=>rfl) _
 have h3:nz (.imm (w.rings.map bG))=true:=Yy (fun f=>by simp only[bG,nza,nzi,nzL,i64,Yy (e:=aS) (fun a=>rfl) (fun a=>rfl),Bool.and_self]) (fun _=>rfl) _;have h4:nz (.imm (w.cur.map aS))=true:=Yy (fun _=>rfl) (fun _=>rfl) _;have h5:nz (.imm (w.pen.free.map eI))=true:=Yy (fun _=>rfl) (fun _=>rfl) _;simp only[kY,nzL,h1,h2,h3,h4,h5,i64,nzi,Bool.and_self]
def isC (W:World)(B:Nat):Prop:=∃ o:Obj,W.heap[B]?=some o∧o.isCells=true
structure FAt (n0:Nat)(w0:World)(E:Nat→Prop)(x:Wd)(W:World):Prop where
 st:∃(im:Nat→Prop)(cs:Array Value),W.heap[n0]?=some (.cells cs 45 (0,0))∧TvL W im (kY x) cs.toList∧(∀ c∈cs.toList,c.oneCell'=true)∧(∀ B,im B→B < W.heap.size∧B≠n0∧B≠n0+1∧((B < n0∧E B)∨(n0≤B∧isC W B)))
 z:∃ zs:Array Value,zs.size=19∧W.heap[n0+1]?=some (.cells zs 45 (0,0))
 b:Below n0 w0 W
 s0:n0=w0.heap.size
theorem Gm {w:World}{B O:Nat}{cs:List Value}(h:cs≠[])(hr:w.rangeAt B O cs):isC w B:=by
 cases cs with
 | nil=>exact absurd rfl h
 | cons v l=>
  have:=hr 0 v rfl;unfold World.cell? at this;cases ho:w.heap[B]? with
  | none=>simp[ho]at this
  | some o=>
   refine⟨o,ho,?_⟩;cases o<;>simp_all [Obj.isCells]
theorem FAt.own {n0:Nat}{w0:World}{E:Nat→Prop}{β:Type}{f:β→Wd}{Bq:Nat}(hq:n0≤Bq):OwnFrom Bq (fun s W=>FAt n0 w0 E (f s) W):=by
 intro s W W' row h hg hr;have keep:∀(k:Nat)(o:Obj),W.heap[k]?=some o→o.isCells=true∨k < Bq→W'.heap[k]?=some o:=by
  intro k o hk ho;refine(hg.block k (Array.getElem?_eq_some_iff.1 hk).1 (fun e=>?_)).trans hk;obtain⟨h1,o',h2,h3⟩:=hr k e.symm;rw[hk]at h2;cases h2;rcases ho with ho|ho
  ·rw[ho]at h3;cases h3
  ·omega
 obtain⟨im,cs,h1,h2,h3,h4⟩:=h.st;obtain⟨zs,z1,z2⟩:=h.z;have hK:dQ W im W' im:=fun B hB=>by
  refine⟨hB,?_⟩;obtain⟨q1,q2,q3,q4⟩:=h4 B hB;rcases q4 with ⟨q4,-⟩|⟨-,o,q5,q6⟩
  ·have:W.heap[B]?=some W.heap[B]:=Array.getElem?_eq_getElem q1;rw[keep B _ this (.inr (by omega)),this]
  ·rw[keep B o q5 (.inl q6),q5]
 exact⟨⟨im,cs,keep _ _ h1 (.inl rfl),h2.keep hK,h3,fun B hB=>by
  obtain⟨q1,q2,q3,q4⟩:=h4 B hB;refine⟨Nat.lt_of_lt_of_le q1 hg.size,q2,q3,q4.imp id ?_⟩;rintro⟨q7,o,q5,q6⟩;exact⟨q7,o,keep B o q5 (.inl q6),q6⟩⟩,⟨zs,z1,keep _ _ z2 (.inl rfl)⟩,h.b.grown hg (by have:=h.b.size;have:=h.s0;omega) (fun k e=>by obtain⟨q,_⟩:=hr k e;omega),h.s0⟩
end
section
open Go.Proofs.Tryz
open Go Go.RowKit Go.Shelf Go.Proofs
attribute [local go_sem] Oper.semAt_some
def oD (p:Int×Int×Bool):Pk:=⟨p.1,p.2.1,p.2.2⟩
def qI (x:Wd)(k:Nat):List Pk:=(kU k x.rings.length x.rings.length).map oD
def bP (x:Wd):Nat→Wd
 | 0=>x
 | k+1=>dJ (bP x k) (qI (bP x k) k)
def iQ (rounds:Int)(x:Wd)(k:Nat):Bool:=decide (min rounds 100000≤(k:Int)) || !decide ((bP x k).state=0)
def Mh (D:Nat):Deferred:={target:=.collected D,args:=#[]}
def FJ (n0:Nat)(w0:World)(E:Nat→Prop)(rounds:Int)(x:Wd)(K:Nat)(a:Go.Act)(W:World):Prop:=
 ∃(k:Nat)(ds:List Nat)(u0 u3 u6 u7 u8 u9 u10 u11 u12 u13 u14 u15 u16 u17 u18 u19 u20 u21 u22 u23 u24 u25 u26 u27:Value),
  k≤K∧a={tmps:=#[u0,.int .i64 rounds,.pointer (some ⟨n0,0,none⟩),u3,.pointer (some ⟨n0+1,0,none⟩),.int .i64 k,u6,u7,u8,u9,u10,u11,u12,u13,u14,u15,u16,u17,u18,u19,u20,u21,u22,u23,u24,u25,u26,u27],defers:=ds.map Mh}∧
  FAt n0 w0 E (bP x k) W∧(∀ D∈ds,n0+1 < D∧W.heap[D]?=some (.deferred (some [])))∧ds.Nodup
noncomputable def jY:Code:=match f27.body with
 | some (.seq _ (.scope c))=>c
 | _ => .skip
noncomputable def uK:Code:=match findLabel jY 0 with
 | some c=>c
 | none => .skip
noncomputable def R27:Code:=match uK with
 | .seq _ c=>c
 | _ => .skip
theorem Em:uK = .seq .skip R27:=by kernel_rfl
noncomputable def aCv:Code:=match jY with
 | .seq c _=>c
 | _ => .skip
theorem Yg:jY = .seq aCv (.seq (.label 0) R27):=by kernel_rfl
theorem aGu:findLabel jY 0=some uK:=by kernel_rfl
theorem vI:(Tryz.prog.info? 45).map (·.size)=some 19:=by kernel_rfl
theorem tW {ops:Array Oper}{rest:List Oper}{op:Oper}{a:Go.Act}{w:World}{Q:Exit→Go.Act→World→Prop}(hgd:op.guard=none)(x:Operand)(ho:op.op = .load 45 x)(b:Nat)(hx:a.eval x = .pointer (some ⟨b,0,none⟩))
 (c:Array Value)(hb:w.heap[b]?=some (.cells c 45 (0,0)))(hi:c.size=19)(h:wpList Tryz.prog ops Q rest (a.put op.dst (.agg c)) w):wpList Tryz.prog ops Q (op::rest) a w:=
 wpList_plain hgd fun K hK=>by
  have hr:=run_loadVar_row (P:=Tryz.prog) w b 45 45 c (0,0) _ hb underlying45 rfl (by rw[vI,hi]);unfold Oper.wp execOp;simp only[ho,hx,Instr.loadAt,Instr.sureAddr,Sem.run_bind,Sem.run_pure,Result.andThen_ok,hr];exact hK _ _ h
theorem sB {ops:Array Oper}{rest:List Oper}{op:Oper}{a:Go.Act}{w:World}{Q:Exit→Go.Act→World→Prop}(hgd:op.guard=none)(x y:Operand)(ho:op.op = .store 45 x y)(b:Nat)(c':Array Value)(hx:a.eval x = .pointer (some ⟨b,0,none⟩))(hy:a.eval y = .agg c')
 (c:Array Value)(hb:w.heap[b]?=some (.cells c 45 (0,0)))(hi:c'.size=19)(hs:c.size=19)(h1:∀ v∈c'.toList,v.oneCell'=true)(h:wpList Tryz.prog ops Q rest (a.put op.dst Go.undef) (w.setRow b c')):wpList Tryz.prog ops Q (op::rest) a w:=
 wpList_plain hgd fun K hK=>by
  unfold Oper.wp execOp;simp only[ho,hx,hy,Instr.storeAt,Instr.sureAddr,Sem.run_bind,Sem.run_pure,Result.andThen_ok,run_storeVar_row _ _ 45 45 c c' hb (by rw[vI,hi]) (by rw[hi,hs]) (by rw[Array.all_eq_true_iff_forall_mem];intro v hv;exact h1 v (by simpa using hv))];exact hK _ _ h
theorem qO {W:World}{b:Nat}{cs:Array Value}(hb:W.heap[b]?=some (.cells cs 45 (0,0)))(j:Nat)(v:Value)(h:cs[j]?=some v):W.cell? ⟨b,j,none⟩=some v:=by simp[World.cell?,hb,h]
def aUy (n0:Nat)(w0:World)(E:Nat→Prop)(x:Wd)(a:Go.Act)(W:World):Prop:=
 ∃(ds:List Nat)(im:Nat→Prop)(cs:Array Value),a.defers=ds.map Mh∧a.tmps[4]?=some (.pointer (some ⟨n0+1,0,none⟩))∧W.heap[n0+1]?=some (.cells cs 45 (0,0))∧TvL W im (kY x) cs.toList∧(∀ c∈cs.toList,c.oneCell'=true)∧
  (∀ B,im B→B < W.heap.size∧B≠n0∧B≠n0+1∧((B < n0∧E B)∨(n0≤B∧isC W B)))∧Below n0 w0 W∧(∀ D∈ds,n0+1 < D∧W.heap[D]?=some (.deferred (some [])))∧ds.Nodup
theorem bU {w:World}{b k:Nat}{c:Array Value}(h:k≠b):(w.setRow b c).heap[k]?=w.heap[k]?:=by
 show(w.heap.modify b _)[k]?=_;rw[Array.getElem?_modify];simp[Ne.symm h]
theorem lA {w:World}{b:Nat}{cs c:Array Value}{t:TypeId}{fz:Nat×Nat}(h:w.heap[b]?=some (.cells cs t fz)):(w.setRow b c).heap[b]?=some (.cells c t fz):=by
 show(w.heap.modify b _)[b]?=_;rw[Array.getElem?_modify];simp[h]
theorem gK {w:World}{b:Nat}{c:Array Value}:(w.setRow b c).heap.size=w.heap.size:=by
 show(w.heap.modify b _).size=_;rw[Array.size_modify]
theorem TvL.at_ {w:World}{im:Nat→Prop}{l:List V}{cs:Array Value}(h:TvL w im l cs.toList)(j:Nat)(v:V)(hv:l[j]?=some v):∃ y,cs[j]?=some y∧Tv w im v y:=by
 obtain⟨y,h1,h2⟩:=h.get j v hv;exact⟨y,by simpa using h1,h2⟩
set_option maxRecDepth 100000 in
set_option maxHeartbeats 2000000 in
theorem aEv (E:Nat→Prop)(rounds:Int)(h0:0≤rounds)(x:Wd)(K:Nat)(w:World)(a:Go.Act)(W:World)(k:Nat)(hs:iQ rounds x k=true)(ds:List Nat)(u0 u3 u6 u7 u8 u9 u10 u11 u12 u13 u14 u15 u16 u17 u18 u19 u20 u21 u22 u23 u24 u25 u26 u27:Value)
 (ha:a={tmps:=#[u0,.int .i64 rounds,.pointer (some ⟨w.heap.size,0,none⟩),u3,.pointer (some ⟨w.heap.size+1,0,none⟩),.int .i64 k,u6,u7,u8,u9,u10,u11,u12,u13,u14,u15,u16,u17,u18,u19,u20,u21,u22,u23,u24,u25,u26,u27],defers:=ds.map Mh})
 (hF:FAt w.heap.size w E (bP x k) W)(hds:∀ D∈ds,w.heap.size+1 < D∧W.heap[D]?=some (.deferred (some [])))(hnd:ds.Nodup)(Q:Exit→Go.Act→World→Prop)(hQ:∀ a W,aUy w.heap.size w E (bP x k) a W→Q .ret a W):R27.wp Tryz.prog Q a W:=by
 subst ha;obtain⟨im0,cs,q1,q2,q3,q4⟩:=hF.st;obtain⟨zs,z1,z2⟩:=hF.z;have hcs:cs.size=19:=by have:=q2.len;simpa[kY]using this
 have e12:W.cell? ⟨w.heap.size,12,none⟩=some (.int .i64 (bP x k).state):=by
  obtain⟨y,hy,hv⟩:=q2.at_ 12 _ rfl;rw[hv.int_inv]at hy;exact qO q1 12 _ hy
 simp only[iQ,Bool.or_eq_true,decide_eq_true_eq,Bool.not_eq_true',decide_eq_false_iff_not]at hs;have fin:∀(a:Go.Act),a.defers=ds.map Mh→a.tmps[4]?=some (.pointer (some ⟨w.heap.size+1,0,none⟩))→Q .ret a (W.setRow (w.heap.size+1) cs):=by
  intro a h1 h2;refine hQ _ _ ⟨ds,im0,cs,h1,h2,lA z2,q2.keep (fun B hB=>⟨hB,bU (q4 B hB).2.2.1⟩),q3,fun B hB=>?_,?_,fun D hD=>?_,hnd⟩
  ·obtain⟨r1,r2,r3,r4⟩:=q4 B hB;refine⟨by rw[gK];exact r1,r2,r3,r4.imp id ?_⟩;rintro⟨r7,o,r5,r6⟩;exact⟨r7,o,by rw[bU r3];exact r5,r6⟩
  ·exact hF.b.trans ⟨rfl,rfl,rfl,by rw[gK];exact Nat.le_refl _,fun c hc=>bU (by omega)⟩
  ·obtain⟨r1,r2⟩:=hds D hD;exact⟨r1,by rw[bU (by omega)];exact r2⟩
 generalize hst0:(bP x k).state=s at e12 hs;clear hQ q2 q4 hF hds hst0;simp only[R27,uK,jY,f27,findLabel,↓reduceIte,reduceCtorEq,beq_self_eq_true];by_cases hk1:min rounds 100000≤(k:Int)
 ·go_wp2_with (first|(refine tW rfl _ rfl w.heap.size rfl cs q1 hcs ?_)|(refine sB rfl _ _ rfl (w.heap.size+1) cs rfl rfl zs z2 hcs z1 q3 ?_))
  exact fin _ rfl rfl
 ·have hst:(s != 0)=true:=by simpa using hs.resolve_left hk1
  clear hs
  go_wp2_with (first|(refine tW rfl _ rfl w.heap.size rfl cs q1 hcs ?_)|(refine sB rfl _ _ rfl (w.heap.size+1) cs rfl rfl zs z2 hcs z1 q3 ?_))
  exact fin _ rfl rfl
theorem FAt.step {n0:Nat}{w0 W w':World}{E:Nat→Prop}{y z:Wd}{im:Nat→Prop}{ys:List Value}(h:FAt n0 w0 E y W)(q4:∀ B,im B→B < W.heap.size∧B≠n0∧B≠n0+1∧((B < n0∧E B)∨(n0≤B∧isC W B)))(hb:Below W.heap.size W w')(ht:TvL w' (newIm W w' im) (kY z) ys)(h1:∀ c∈ys,c.oneCell'=true) :
 FAt n0 w0 E z (w'.setRow n0 ⟨ys⟩):=by
 obtain⟨zs,z1,z2⟩:=h.z;obtain⟨im0,cs,q1,-⟩:=h.st;have hlt:=(Array.getElem?_eq_some_iff.1 z2).1;have ht':=ht.trim (S:=fun B=>newIm W w' im B∧isC w' B) (fun B O cs hB hne hr=>⟨hB,Gm hne hr⟩) (aFp z);have hn:∀ B,newIm W w' im B→B < w'.heap.size∧B≠n0∧B≠n0+1∧((B < n0∧E B)∨n0≤B):=by
  rintro B (hB|⟨hB,hB2⟩)
  ·obtain⟨r1,r2,r3,r4⟩:=q4 B hB;exact⟨Nat.lt_of_lt_of_le r1 hb.size,r2,r3,r4.imp id (fun h=>h.1)⟩
  ·exact⟨hB2,by omega,by omega,.inr (by omega)⟩
 have q1':w'.heap[n0]?=some (.cells cs 45 (0,0)):=(hb.block n0 (by omega)).trans q1;refine⟨⟨fun B=>newIm W w' im B∧isC w' B,⟨ys⟩,lA q1',ht'.keep (fun B hB=>⟨hB,bU (hn B hB.1).2.1⟩),h1,fun B hB=>?_⟩,⟨zs,z1,?_⟩,?_,h.s0⟩
 ·obtain⟨r1,r2,r3,r4⟩:=hn B hB.1;refine⟨by rw[gK];exact r1,r2,r3,r4.imp id fun r7=>⟨r7,?_⟩⟩;obtain⟨o,r5,r6⟩:=hB.2;exact⟨o,by rw[bU r2];exact r5,r6⟩
 ·rw[bU (by omega)];exact(hb.block _ hlt).trans z2
 ·have h3:=h.b.trans (hb.mono (Nat.le_trans (by have:=h.s0;omega) (Nat.le_of_lt hlt)));exact h3.trans ⟨rfl,rfl,rfl,by rw[gK];exact Nat.le_refl _,fun c hc=>bU (by have:=h.s0;omega)⟩
theorem Zb {F:Fence}{n:Nat}{ops:Array Oper}{rest:List Oper}{op:Oper}{a:Go.Act}{w:World}{Q:Exit→Go.Act→World→Prop}(hgd:op.guard=none)(x:Operand)(ho:op.op = .load 45 x)(b:Nat)(hx:a.eval x = .pointer (some ⟨b,0,none⟩))
 (c:Array Value)(hb:w.heap[b]?=some (.cells c 45 (0,0)))(hi:c.size=19)(h:wpListIn F n Tryz.prog ops Q rest (a.put op.dst (.agg c)) w):wpListIn F n Tryz.prog ops Q (op::rest) a w:=
 wpListIn_plain hgd fun K hK=>by
  have hr:=run_loadVar_row (P:=Tryz.prog) w b 45 45 c (0,0) _ hb underlying45 rfl (by rw[vI,hi]);unfold Oper.wpIn;refine⟨by simp[Oper.about,ho],?_⟩;rw[Oper.semAt_plain F _ _ (by rw[ho];intro c hc';cases hc')];unfold execOp;simp only[ho,hx,Instr.loadAt,Instr.sureAddr,Sem.run_bind,Sem.run_pure,Result.andThen_ok,hr];exact hK _ _ h
theorem zR {F:Fence}{n:Nat}{ops:Array Oper}{rest:List Oper}{op:Oper}{a:Go.Act}{w:World}{Q:Exit→Go.Act→World→Prop}(hgd:op.guard=none)(x y:Operand)(ho:op.op = .store 45 x y)(b:Nat)(c':Array Value)(hx:a.eval x = .pointer (some ⟨b,0,none⟩))(hy:a.eval y = .agg c')
 (c:Array Value)(hb:w.heap[b]?=some (.cells c 45 (0,0)))(hi:c'.size=19)(hs:c.size=19)(h1:∀ v∈c'.toList,v.oneCell'=true)(h:wpListIn F n Tryz.prog ops Q rest (a.put op.dst Go.undef) (w.setRow b c')):wpListIn F n Tryz.prog ops Q (op::rest) a w:=
 wpListIn_plain hgd fun K hK=>by
  unfold Oper.wpIn;refine⟨by simp[Oper.about,ho],?_⟩;rw[Oper.semAt_plain F _ _ (by rw[ho];intro c hc';cases hc')];unfold execOp;simp only[ho,hx,hy,Instr.storeAt,Instr.sureAddr,Sem.run_bind,Sem.run_pure,Result.andThen_ok,run_storeVar_row _ _ 45 45 c c' hb (by rw[vI,hi]) (by rw[hi,hs]) (by rw[Array.all_eq_true_iff_forall_mem];intro v hv;exact h1 v (by simpa using hv))];exact hK _ _ h
theorem wY {w:World}{im:Nat→Prop}{l:List V}{x:Value}(h:Tv w im (.agg l) x):∃ ys,x = .agg ⟨ys⟩∧(∀ c∈ys,c.oneCell'=true)∧TvL w im l ys:=by
 cases h with|agg _ xs h1 h2=>exact⟨xs,rfl,h1,h2⟩
set_option maxRecDepth 100000 in
set_option maxHeartbeats 2000000 in
theorem aTg (g:Gl)(E:Nat→Prop)(rounds:Int)(h0:0≤rounds)(x:Wd)(w:World)(hG:g.G w)(W:World)(k:Nat)(hs:iQ rounds x k=false)(hok:∀ l:List Pk,l.length < (bP x k).rings.length→WdOk (dJ (bP x k) l))(hr:(bP x k).rings.length < 4611686018427387904)
 (ds:List Nat) (u0 u3 u6 u7 u8 u9 u10 u11 u12 u13 u14 u15 u16 u17 u18 u19 u20 u21 u22 u23 u24 u25 u26 u27:Value) (a:Go.Act)
 (ha:a={tmps:=#[u0,.int .i64 rounds,.pointer (some ⟨w.heap.size,0,none⟩),u3,.pointer (some ⟨w.heap.size+1,0,none⟩),.int .i64 k,u6,u7,u8,u9,u10,u11,u12,u13,u14,u15,u16,u17,u18,u19,u20,u21,u22,u23,u24,u25,u26,u27],defers:=ds.map Mh})
 (hF:FAt w.heap.size w E (bP x k) W) (hds:∀ D∈ds,w.heap.size+1 < D∧W.heap[D]?=some (.deferred (some []))) (hnd:ds.Nodup) (Q:Exit→Go.Act→World→Prop)
 (hQ:∀(ds:List Nat)(u0 u3 u6 u7 u8 u9 u10 u11 u12 u13 u14 u15 u16 u17 u18 u19 u20 u21 u22 u23 u24 u25 u26 u27:Value)(W:World),FAt w.heap.size w E (bP x (k+1)) W→(∀ D∈ds,w.heap.size+1 < D∧W.heap[D]?=some (.deferred (some [])))→ds.Nodup→
  Q (.goto 0) {tmps:=#[u0,.int .i64 rounds,.pointer (some ⟨w.heap.size,0,none⟩),u3,.pointer (some ⟨w.heap.size+1,0,none⟩),.int .i64 ((k+1:Nat):Int),u6,u7,u8,u9,u10,u11,u12,u13,u14,u15,u16,u17,u18,u19,u20,u21,u22,u23,u24,u25,u26,u27],defers:=ds.map Mh} W):R27.wp Tryz.prog Q a W:=by
 subst ha;obtain⟨im0,cs,q1,q2,q3,q4⟩:=hF.st;have hcs:cs.size=19:=by have:=q2.len;simpa[kY]using this
 have e12:W.cell? ⟨w.heap.size,12,none⟩=some (.int .i64 (bP x k).state):=by
  obtain⟨y,hy,hv⟩:=q2.at_ 12 _ rfl;rw[hv.int_inv]at hy;exact qO q1 12 _ hy
 obtain⟨p7,cap7,e7⟩:∃ p cap,W.cell? ⟨w.heap.size,7,none⟩=some (.slice p (bP x k).rings.length cap):=by
  obtain⟨y,hy,hv⟩:=q2.at_ 7 _ rfl;rcases hv.imm_inv with ⟨h0,p,cap,_,rfl⟩|⟨s,B,O,cap,cs',hne,hB,hcap,hss,hc,h1,hTv,rfl⟩
  ·have:(bP x k).rings.length=0:=by simpa using congrArg List.length h0
   rw[this];exact⟨p,cap,qO q1 7 _ hy⟩
  ·rw[List.length_map]at hy;exact⟨_,cap,qO q1 7 _ hy⟩
 simp only[iQ,Bool.or_eq_false_iff,decide_eq_false_iff_not,Bool.not_eq_false',decide_eq_true_eq]at hs;obtain⟨hk1,hst⟩:=hs;have hkr:(k:Int) < 100000:=by omega
 rw[hst]at e12;generalize hm:(bP x k).rings.length=m at e7 hr;simp only[R27,uK,jY,f27,findLabel,↓reduceIte,reduceCtorEq,beq_self_eq_true]
 go_wp2
 have hlt:w.heap.size+1 < W.heap.size:=by obtain⟨zs,z1,z2⟩:=hF.z;exact(Array.getElem?_eq_some_iff.1 z2).1
 have hF1:FAt w.heap.size w E (bP x k) ((W.alloc (.cells #[.int .i64 k] 3)).alloc (.cells #[.int .i64 m] 3)):=by
  have ho:=FAt.own (n0:=w.heap.size) (w0:=w) (E:=E) (β:=Unit) (f:=fun _=>bP x k) (Bq:=w.heap.size) (Nat.le_refl _);exact ho.alloc (s:=()) _ (ho.alloc (s:=()) _ hF)
 have hcr:((W.alloc (.cells #[.int .i64 k] 3)).alloc (.cells #[.int .i64 m] 3)).cell? ⟨W.heap.size,0,none⟩=some (.int .i64 k):=by simp
 have hcw:((W.alloc (.cells #[.int .i64 k] 3)).alloc (.cells #[.int .i64 m] 3)).cell? ⟨W.heap.size+1,0,none⟩=some (.int .i64 m):=by
  have:=cell_one_new (W.alloc (.cells #[.int .i64 k] 3)) (.int .i64 m) 3 0 _ rfl;simpa[Addr.add]using this
 have hds1:∀ D∈ds,w.heap.size+1 < D∧((W.alloc (.cells #[.int .i64 k] 3)).alloc (.cells #[.int .i64 m] 3)).heap[D]?=some (.deferred (some [])):=fun D hD=>by
  obtain⟨r1,r2⟩:=hds D hD;have hl:=(Array.getElem?_eq_some_iff.1 r2).1;exact⟨r1,(Below.heap_alloc _ _ D (by simp;omega)).trans ((Below.heap_alloc _ _ D hl).trans r2)⟩
 have hs1:((W.alloc (.cells #[.int .i64 k] 3)).alloc (.cells #[.int .i64 m] 3)).heap.size=W.heap.size+2:=by simp
 generalize (W.alloc (.cells #[.int .i64 k] 3)).alloc (.cells #[.int .i64 m] 3)=W1 at *;refine(wpIn_wide (n:=9)).1 ?_;have hseq:=Vs 8 (W.heap.size+1) W.heap.size k m hr (by omega) (by omega) W1 (by omega) (by omega) hcw hcr;refine wpIn_rangeFunc_ownH rfl (by omega) (gf:=169) (lb:=#[.pointer (some ⟨W.heap.size+1,0,none⟩),.pointer (some ⟨W.heap.size,0,none⟩)]) rfl trivial (enters_of func169 (by kernel_rfl) rfl) hseq
  (fun {A B C} h1 h2=>⟨h2.1.trans h1.1,h2.2.trans h1.2⟩) (fun V l o o' hl ho hc hw=>?kb) (Below.refl _ _) (fun _=>rfl)
  (fun pre V=>FAt w.heap.size w E (dJ (bP x k) (pre.map oD)) V∧(∀ D∈ds,V.heap[D]?=some (.deferred (some [])))∧W1.heap.size≤V.heap.size)
  (fun _ _ _=>False) ?own (fun _ _ _ _ _ hs _ _=>hs) ⟨hF1,fun D hD=>(hds1 D hD).2,Nat.le_refl _⟩
  (fun p a' V=>∃ T,a'={tmps:=#[u0,.int .i64 rounds,.pointer (some ⟨w.heap.size,0,none⟩),u3,.pointer (some ⟨w.heap.size+1,0,none⟩),.int .i64 k,.pointer (some ⟨T,0,none⟩),.int .i64 k,.int .i64 rounds,.int .i64 (min rounds 100000),.bool false,.bool false,.pointer (some ⟨w.heap.size,12,none⟩),.int .i64 0,.bool false,.bool false,u16,.int .i64 k,.pointer (some ⟨w.heap.size,7,none⟩),.slice p7 m cap7,.int .i64 m,.func (.func 169) #[] #[.pointer (some ⟨W.heap.size+1,0,none⟩),.pointer (some ⟨W.heap.size,0,none⟩)],pkV p,u23,u24,u25,u26,u27],defers:=[]}∧V.heap[T]?=some (.cells #[.int .i64 p.1,.int .i64 p.2.1,.bool p.2.2] 60 (0,0))∧W1.heap.size≤T)
  ?ax ?assign ?body ?done ?stop
 case kb=>
  have hne:∀ B,B < W1.heap.size→(V.putObj l o').cell? ⟨B,0,none⟩=V.cell? ⟨B,0,none⟩:=fun B hB=>World.cell?_of_block (a:=⟨B,0,none⟩) (World.putObj_heap_other (by show B≠l;omega));exact⟨hne _ (by omega),hne _ (by omega)⟩
 case own=>
  refine OwnFrom.and (FAt.own (f:=fun pre:List (Int×Int×Bool)=>dJ (bP x k) (pre.map oD)) (by omega)) ?_;intro pre V V' row hs2 hg hr2;refine⟨fun D hD=>?_,Nat.le_trans hs2.2 hg.size⟩;have hl:=(Array.getElem?_eq_some_iff.1 (hds1 D hD).2).1;refine(hg.block D (Nat.lt_of_lt_of_le hl hs2.2) (fun e=>?_)).trans (hs2.1 D hD);obtain⟨hB,_⟩:=hr2 D e.symm;omega
 case ax=>
  intro p a' s A B row hs2 hg hr2;obtain⟨T,e,hT,hle⟩:=hs2;refine⟨T,e,(hg.block T (Array.getElem?_eq_some_iff.1 hT).1 (fun e'=>?_)).trans hT,hle⟩;obtain⟨_,o,ho,hc⟩:=hr2 T e'.symm;rw[hT]at ho;cases ho;cases hc
 case assign=>
  rintro l pre p V K ⟨hI1,hI2,hI3⟩ hK;simp only[pkV]
  gi_wp2
  refine hK _ _ ((KeepsOthers.alloc _ _).from _) ⟨?_,?_⟩ ⟨?_,fun D hD=>?_,?_⟩ ⟨V.heap.size,rfl,World.alloc_heap_new _ _,hI3⟩
  ·exact World.cell?_of_block (a:=⟨_,0,none⟩) (Below.heap_alloc _ _ _ (by show W.heap.size+1 < V.heap.size;omega))
  ·exact World.cell?_of_block (a:=⟨_,0,none⟩) (Below.heap_alloc _ _ _ (by show W.heap.size < V.heap.size;omega))
  ·exact(FAt.own (n0:=w.heap.size) (w0:=w) (E:=E) (β:=Unit) (f:=fun _=>dJ (bP x k) (pre.map oD)) (Bq:=w.heap.size) (Nat.le_refl _)).alloc (s:=()) _ hI1
  ·have hl:=(Array.getElem?_eq_some_iff.1 (hI2 D hD)).1;exact(Below.heap_alloc _ _ D hl).trans (hI2 D hD)
  ·simp;omega
 case body=>
  rintro l pre p a' V hl2 - ⟨hI1,hI2,hI3⟩ ⟨T,rfl,hT,hle⟩ hlen;obtain⟨im1,⟨l1⟩,p1,p2,p3,p4⟩:=hI1.st;have hl19:(⟨l1⟩:Array Value).size=19:=by have:=p2.len;simpa[kY]using this
  have hT0:V.cell? ⟨T,0,none⟩=some (.int .i64 p.1):=by simp[World.cell?,hT]
  have hT1:V.cell? ⟨T,1,none⟩=some (.int .i64 p.2.1):=by simp[World.cell?,hT]
  have hT2:V.cell? ⟨T,2,none⟩=some (.bool p.2.2):=by simp[World.cell?,hT]
  have hGV:g.G V:=g.st _ _ (hI1.b.mono (g.le _ hG)) hG;have hc28:=aJl g (dJ (bP x k) (pre.map oD)) (oD p) (hok _ (by rw[List.length_map,hm];exact hlen)) V im1 [.agg ⟨l1⟩,.agg #[.int .i64 p.1,.int .i64 p.2.1,.bool p.2.2]] hGV (fun B hB=>(p4 B hB).1)
   (.cons _ _ _ _ (.agg _ _ p3 p2) (.cons _ _ _ _ (.agg _ _ (by simp[Value.oneCell']) (.cons _ _ _ _ (.int _ _) (.cons _ _ _ _ (.int _ _) (.cons _ _ _ _ (.bool _) .nil)))) .nil))
  have hrun1:gL (dJ (bP x k) (pre.map oD)) (oD p)=dJ (bP x k) ((pre++[p]).map oD):=by rw[List.map_append];simp[dJ]
  rw[hrun1]at hc28;simp only[pkV]
  gi_wp2_with (first
   | (refine Zb rfl _ rfl w.heap.size rfl ⟨l1⟩ p1 hl19 ?_)
   | (refine⟨by simp[Fence.wide,Fence.inRound],?_⟩;gi_at_call 28;refine(CallsIn.inRound l (callsIn_wide.2 hc28)).mono ?_;rintro e w2 ⟨⟨y2,rfl,hy2⟩,hb2⟩;obtain⟨ys,rfl,ho2,hys⟩:=wY hy2)
   | (gi_at_call 28;refine(CallsIn.inRound l (callsIn_wide.2 hc28)).mono ?_;rintro e w2 ⟨⟨y2,rfl,hy2⟩,hb2⟩;obtain⟨ys,rfl,ho2,hys⟩:=wY hy2)
   | (refine zR rfl _ _ rfl w.heap.size ⟨ys⟩ rfl rfl ⟨l1⟩ ((hb2.block _ (Array.getElem?_eq_some_iff.1 p1).1).trans p1) (by simpa[kY]using hys.len) hl19 (by simpa using ho2) ?_))
  have hne:∀ B,B < V.heap.size→B≠w.heap.size→(w2.setRow w.heap.size ⟨ys⟩).heap[B]?=V.heap[B]?:=fun B hB hn=>(bU hn).trans (hb2.block B hB);refine⟨⟨by rw[gK];exact hb2.size,fun j o hj ho hc=>?_⟩,⟨?_,?_⟩,hI1.step p4 hb2 hys ho2,fun D hD=>?_,by rw[gK];exact Nat.le_trans hI3 hb2.size⟩
  ·exact(hne j (Array.getElem?_eq_some_iff.1 ho).1 (by omega)).trans ho
  ·exact World.cell?_of_block (a:=⟨W.heap.size+1,0,none⟩) (hne (W.heap.size+1) (by omega) (by omega))
  ·exact World.cell?_of_block (a:=⟨W.heap.size,0,none⟩) (hne W.heap.size (by omega) (by omega))
  ·exact(hne D (Array.getElem?_eq_some_iff.1 (hI2 D hD)).1 (by have:=(hds D hD).1;omega)).trans (hI2 D hD)
 case done=>
  rintro D ys V hD rfl ⟨hI1,hI2,hI3⟩ hKD
  go_wp2
  refine wp_goto ?_;have hF2:FAt w.heap.size w E (bP x (k+1)) V:=by
   have e:bP x (k+1)=dJ (bP x k) ((kU k m m).map oD):=by simp only[bP,qI,hm]
   rw[e];exact hI1
  have:=hQ (D::ds) u0 u3 u6 (.int .i64 k) (.int .i64 rounds) (.int .i64 (min rounds 100000)) (.bool false) (.bool false) (.pointer (some ⟨w.heap.size,12,none⟩)) (.int .i64 0) (.bool false) (.bool false) u16 (.int .i64 k) (.pointer (some ⟨w.heap.size,7,none⟩)) (.slice p7 m cap7) (.int .i64 m) (.func (.func 169) #[] #[.pointer (some ⟨W.heap.size+1,0,none⟩),.pointer (some ⟨W.heap.size,0,none⟩)]) u22 u23 u24 u25 (.int .i64 k) (.int .i64 (k+1)) V hF2 (fun D' hD'=>by
   rcases List.mem_cons.1 hD' with rfl|hD'
   ·exact⟨by omega,hKD⟩
   ·exact⟨(hds1 D' hD').1,hI2 D' hD'⟩) (List.nodup_cons.2 ⟨fun hmem=>by
   have hl:=(Array.getElem?_eq_some_iff.1 (hds1 D hmem).2).1;omega,hnd⟩)
  have e1:(((k+1:Nat):Int))=(k:Int)+1:=by omega
  rw[e1]at this;exact this
 case stop=>
  rintro D c pre V _ _ h _;exact h.elim
theorem pZ {fn:Func}{tmps:Array Value}{R:Ending→World→Prop}{n0:Nat}{v:Value}:∀(ds:List Nat)(W:World),(∀ D∈ds,n0+1 < D∧W.heap[D]?=some (.deferred (some [])))→ds.Nodup→
 (∀ W',W.heap.size=W'.heap.size→(∀ B,(B≤n0+1∨isC W B)→W'.heap[B]?=W.heap[B]?)→Below (n0+2) W W'→(results fn tmps).run Tryz.prog W' = .ok v W'∧R (.returned v) W')→LeavesInM Fence.wide 9 Tryz.prog fn tmps R (ds.map Mh) .returning W
 | [],W,_,_,h=>by
  obtain⟨h1,h2⟩:=h W rfl (fun _ _=>rfl) (Below.refl _ _);exact⟨v,h1,h2⟩
 | D::ds,W,hd,hn,h=>by
  obtain⟨h1,h2⟩:=hd D List.mem_cons_self;rw[List.nodup_cons]at hn;refine⟨by simp,.inl ⟨_,_,rfl,run_takeDeferred h2,?_⟩⟩;refine pZ (v:=v) ds _ (fun D' hD'=>⟨(hd D' (List.mem_cons_of_mem _ hD')).1,(World.putObj_heap_other (fun e=>hn.1 (by rw[←e];exact hD'))).trans (hd D' (List.mem_cons_of_mem _ hD')).2⟩) hn.2 fun W' e1 e2 e3=>?_;have hc:∀ B,(B≤n0+1∨isC W B)→B≠D:=by
   rintro B (hB|⟨o,ho,hc⟩) e
   ·omega
   ·subst e;rw[h2]at ho;cases ho;cases hc
  refine h W' (by rw[←e1];simp) (fun B hB=>?_) ?_
  ·rw[e2 B (hB.imp id fun⟨o,ho,hc'⟩=>⟨o,(World.putObj_heap_other (hc B (.inr ⟨o,ho,hc'⟩))).trans ho,hc'⟩),World.putObj_heap_other (hc B hB)]
  ·have hb0:Below (n0+2) W (W.putObj D (.deferred none)):=⟨rfl,rfl,rfl,by simp,fun c hc'=>World.putObj_heap_other (by omega)⟩;exact hb0.trans e3
theorem Fe (w:World)(o p:Obj):((w.alloc o).alloc p).heap[w.heap.size]?=some o:=by
 show((w.heap.push o).push p)[w.heap.size]?=some o;simp[Array.getElem?_push]
theorem Vh (w:World)(o p:Obj):((w.alloc o).alloc p).heap[w.heap.size+1]?=some p:=by
 have:=World.alloc_heap_new (w.alloc o) p
 rwa [show(w.alloc o).heap.size=w.heap.size+1 by simp]at this
theorem aRz (g:Gl)(rounds:Int)(h0:0≤rounds)(x:Wd)(K:Nat)(hK:∀ k,k < K→iQ rounds x k=false)(hs:iQ rounds x K=true)(hok:∀ k,k < K→∀ l:List Pk,l.length < (bP x k).rings.length→WdOk (dJ (bP x k) l))
 (hr:∀ k,k < K→(bP x k).rings.length < 4611686018427387904):PC P0 g 27 [hU x,.int .i64 rounds] (.ret (hU (bP x K))):=by
 intro w im args hG him hx;obtain⟨x1,x2,rfl,hx1,hx2⟩:=hx.two;obtain⟨xs,rfl,h1c,hxs⟩:=wY hx1;rw[hx2.int_inv];have pass:∀ a W,FJ w.heap.size w im rounds x K a W→R27.wp Tryz.prog (Exit.jump 0 (fun a' W'=>FJ w.heap.size w im rounds x K a' W'∧K - (RowKit.intOf (a'.tmps[5]?.getD Go.undef)).toNat < K - (RowKit.intOf (a.tmps[5]?.getD Go.undef)).toNat) (bodyPostM Fence.wide 9 Tryz.prog f27 fun e w'=>ResR w' (newIm w w' im) (.ret (hU (bP x K))) e∧Below w.heap.size w w')) a W:=by
  rintro a W ⟨k,ds,u0,u3,u6,u7,u8,u9,u10,u11,u12,u13,u14,u15,u16,u17,u18,u19,u20,u21,u22,u23,u24,u25,u26,u27,hk,rfl,hF,hds,hnd⟩;rcases Nat.lt_or_ge k K with hlt|hge
  ·refine aTg g im rounds h0 x w hG W k (hK k hlt) (hok k hlt) (hr k hlt) ds u0 u3 u6 u7 u8 u9 u10 u11 u12 u13 u14 u15 u16 u17 u18 u19 u20 u21 u22 u23 u24 u25 u26 u27 _ rfl hF hds hnd _ ?_;intro ds u0 u3 u6 u7 u8 u9 u10 u11 u12 u13 u14 u15 u16 u17 u18 u19 u20 u21 u22 u23 u24 u25 u26 u27 W2 hF2 hds2 hnd2;refine⟨rfl,⟨k+1,ds,u0,u3,u6,u7,u8,u9,u10,u11,u12,u13,u14,u15,u16,u17,u18,u19,u20,u21,u22,u23,u24,u25,u26,u27,hlt,rfl,hF2,hds2,hnd2⟩,?_⟩;simp[RowKit.intOf];omega
  ·obtain rfl:k=K:=by omega
   refine aEv im rounds h0 x k w _ W k hs ds u0 u3 u6 u7 u8 u9 u10 u11 u12 u13 u14 u15 u16 u17 u18 u19 u20 u21 u22 u23 u24 u25 u26 u27 rfl hF hds hnd _ ?_;rintro a W2 ⟨ds2,im2,cs,e1,e2,e3,e4,e5,e6,e7,e8,e9⟩;have hcs:cs.size=19:=by have:=e4.len;simpa[kY]using this
   show LeavesInM Fence.wide 9 Tryz.prog f27 a.tmps _ a.defers .returning W2;rw[e1];refine pZ (n0:=w.heap.size) (v:=.agg cs) ds2 W2 e8 e9 fun W3 r1 r2 r3=>?_;have e3':W3.heap[w.heap.size+1]?=some (.cells cs 45 (0,0)):=(r2 _ (.inl (by omega))).trans e3;refine⟨results_cell_row rfl _ _ (w.heap.size+1) 45 cs (0,0) _ (by rw[Array.getD_eq_getD_getElem?,e2];rfl) e3' underlying45 rfl (by rw[vI,hcs]),⟨.agg cs,rfl,?_⟩,e7.trans (r3.mono (by omega))⟩;refine .agg _ _ e5 (TvL.keep (fun B hB=>?_) e4);obtain⟨q1,q2,q3,q4⟩:=e6 B hB;rcases q4 with ⟨q4,q5⟩|⟨q4,q5⟩
   ·exact⟨.inl q5,r2 B (.inl (by omega))⟩
   ·exact⟨.inr ⟨q4,by rw[←r1];exact q1⟩,r2 B (.inr q5)⟩
 refine(callsIn_wide (n:=9)).1 ?_;refine callsIn_of_wp_marks func27 rfl trivial ?_ rfl;simp only[ntmps27,List.size_toArray,List.length_cons,List.length_nil,Nat.reduceAdd,Nat.reduceSub,Array.replicate_succ,Array.replicate_zero,List.push_toArray,List.append_toArray,List.nil_append,List.cons_append];refine wpIn_wide.2 ?_
 go_wp2
 have pass':∀ a W,FJ w.heap.size w im rounds x K a W→R27.wp Tryz.prog (Exit.jump 0 (FJ w.heap.size w im rounds x K) (bodyPostM Fence.wide 9 Tryz.prog f27 fun e w'=>ResR w' (newIm w w' im) (.ret (hU (bP x K))) e∧Below w.heap.size w w')) a W:=fun a W hJ=>Code.wp_mono (fun e a' W' h=>by
  cases e<;>first|exact h|exact⟨h.1,h.2.1⟩) (pass a W hJ)
 refine wp_scope_jumps (c:=jY) 0 (FJ w.heap.size w im rounds x K) (fun a _=>K - (RowKit.intOf (a.tmps[5]?.getD Go.undef)).toNat) aGu ?_ (fun a W hJ=>by rw[Em];exact wp_seq (wp_skip (pass a W hJ)));rw[Yg];refine wp_seq ?_;simp only[aCv,jY,f27]
 go_wp2
 rename_i KK hKK;refine wp_label (hKK _ _ (pass' _ _ ⟨0,[],_,_,_,_,_,_,_,_,_,_,_,_,_,_,_,_,_,_,_,_,_,_,_,_,Nat.zero_le _,rfl,⟨⟨im,⟨xs⟩,Fe _ _ _,hxs.keep (fun B hB=>⟨hB,?_⟩),h1c,fun B hB=>⟨?_,?_,?_,.inl ⟨him B hB,hB⟩⟩⟩,⟨_,?_,Vh _ _ _⟩,?_,rfl⟩,fun D hD=>(by cases hD),List.nodup_nil⟩))
 ·have:=him B hB;exact(Below.heap_alloc _ _ _ (by simp;omega)).trans (Below.heap_alloc _ _ _ this)
 ·have:=him B hB;simp;omega
 ·have:=him B hB;omega
 ·have:=him B hB;omega
 ·rfl
 ·exact((Below.refl _ w).alloc (Nat.le_refl _) _).alloc (by simp) _
end
section
open Go Go.RowKit
theorem Fine.rings {n:Nat}{w:Wd}(h:Fine n w):w.rings.length≤64:=by
 rcases h.s with ⟨_,d,hI⟩|⟨_,hE⟩|⟨_,d,hI⟩
 ·exact hI.ln.2.2
 ·exact hE.ln.2.2
 ·exact hI.ln.2.2
theorem Ye (x:Wd)(k:Nat):(qI x k).length=x.rings.length:=by simp[qI,uP]
theorem nT {n:Nat}{w:Wd}(h:Fine n w):∀ k:Nat,Fine (n+64*k) (bP w k)
 | 0=>h
 | k+1=>by
  have h1:=nT h k;have h2:=h1.run (qI (bP w k) k);exact h2.mono (by rw[Ye];have:=h1.rings;omega)
theorem aJm (g:Gl)(rounds:Int)(h0:0≤rounds)(x:Wd)(n:Nat)(hx:Fine n x)(K:Nat)(hK:∀ k,k < K→iQ rounds x k=false)(hs:iQ rounds x K=true)(hn:n+64*K≤1073741824):PC P0 g 27 [hU x,.int .i64 rounds] (.ret (hU (bP x K))):=
 aRz g rounds h0 x K hK hs (fun k hk l hl=>((nT hx k).run l).ok (by have:=(nT hx k).rings;omega)) (fun k hk=>by have:=(nT hx k).rings;omega)
def LP:List Fun:=[⟨1,1,1,[⟨1,0,0⟩,⟨13,1,0⟩,⟨14,0,0⟩,⟨15,0,0⟩]⟩,⟨1,1,0,[⟨1,0,0⟩,⟨1,0,0⟩,⟨5,0,0⟩,⟨15,0,0⟩]⟩]
def Qb:Frm:=⟨0,2,[],[⟨2,1⟩],[⟨1,⟨1,0⟩,⟨0,⟨0,0⟩⟩⟩],7,1,0,0,0,⟨0,⟨0,0⟩⟩,⟨-1,0⟩,0⟩
def Ti:Frm:=⟨1,0,[],[⟨2,1⟩],[],2457367826,0,0,0,0,⟨0,⟨0,0⟩⟩,⟨0,0⟩,0⟩
def M4:Wd:=⟨LP,⟨20,5,5⟩,⟨[⟨0,true,Qb⟩,⟨0,true,Ti⟩],[],5⟩,[⟨[⟨0,0⟩],0,1,5⟩,⟨[⟨1,0⟩],0,1,5⟩,⟨[⟨0,0⟩],0,0,5⟩],[dN,dN,dN],⟨0,0⟩,2,0,⟨0,⟨0,0⟩⟩,0,1,0⟩
theorem pm4:bN M4.pen=true:=by decide +kernel
theorem gt4 (x:Rf):gN M4.pen x=if x=⟨0,0⟩then some Qb else if x=⟨1,0⟩then some Ti else none:=by
 cases h:gN M4.pen x with
 | none=>
  split
  ·rename_i e;subst e;exact absurd h (by decide +kernel)
  ·split
   ·rename_i e;subst e;exact absurd h (by decide +kernel)
   ·rfl
 | some f=>
  obtain⟨h0,c,h1,h2,h3,h4⟩:=(fE pm4).1 h;obtain⟨a,b⟩:=x;simp only at h0 h1 h3;obtain⟨n,rfl⟩:=Int.eq_ofNat_of_zero_le h0;simp only[Int.toNat_natCast]at h1;match n,h1 with
  | 0,h1=>
   have:c=⟨0,true,Qb⟩:=by simpa[M4]using h1.symm
   subst this;simp only at h3 h4;subst h3 h4;rfl
  | 1,h1=>
   have:c=⟨0,true,Ti⟩:=by simpa[M4]using h1.symm
   subst this;simp only at h3 h4;subst h3 h4;rfl
  | n+2,h1=>simp[M4]at h1
theorem aTa:WInv M4 (fun x=>if x=⟨1,0⟩then 1 else 0) gG where
 pm:=pm4
 mo:=rfl
 ln:=⟨rfl,by decide,by decide⟩
 rg:=by decide +kernel
 rn:=by decide +kernel
 rd:=fun x hx=>by
  rw[gt4];by_cases h0:x=⟨0,0⟩
  ·subst h0;decide +kernel
  ·by_cases h1:x=⟨1,0⟩
   ·subst h1;decide +kernel
   ·rw[if_neg h0,if_neg h1];have e1:M4.cur.count x=0:=List.count_eq_zero.2 (by simp[M4];exact hx);have e2:rc M4.rings x=0:=List.count_eq_zero.2 (by
     rw[show M4.rings.flatMap aX=[⟨0,0⟩,⟨1,0⟩] by decide +kernel];simp[h0,h1])
    rw[e1,e2];rfl
 tr:=fun x f h=>by
  rw[gt4]at h;split at h
  ·rename_i e;subst e;cases h;refine⟨.inl rfl,fun _=>⟨rfl,rfl⟩,fun h=>absurd rfl h,fun i s hi hs=>?_,fun h=>absurd h (by decide),fun _=>rfl,fun h=>absurd h (by decide)⟩;match i,hi with
   | 0,hi=>
    have:s=⟨1,⟨1,0⟩,⟨0,⟨0,0⟩⟩⟩:=by simpa[Qb]using hi.symm
    subst this;exact⟨Ti,by rw[gt4];rfl,rfl,rfl,by decide⟩
   | i+1,hi=>simp[Qb]at hi
  ·split at h
   ·rename_i e;subst e;cases h;refine⟨.inl rfl,fun h=>absurd h (by decide),fun _=>⟨Qb,⟨1,⟨1,0⟩,⟨0,⟨0,0⟩⟩⟩,by rw[gt4];rfl,by decide,rfl,rfl,rfl,by decide +kernel⟩,fun i s hi hs=>by simp[Ti]at hi,fun h=>absurd h (by decide),fun _=>rfl,fun h=>absurd h (by decide)⟩
   ·cases h
 rt:=⟨Qb,by rw[gt4];rfl⟩
 ce:=fun c hc=>by
  have:c=⟨0,true,Qb⟩∨c=⟨0,true,Ti⟩:=by simpa[M4]using hc
  rcases this with rfl|rfl<;>exact⟨by simp[oB,Qb,Ti],by decide +kernel,by decide +kernel,fun _=>by decide +kernel⟩
 us:=by decide
 pr:=by decide +kernel
 oe:=⟨rfl,rfl⟩
theorem aMq:Fine 1 M4:=⟨by decide,.inl ⟨rfl,_,aTa⟩⟩
end
end Go.Proofs.YtaimmacnafoanaaGreatDoor.F
