/- The plain semantics of the program, and what it computes. -/
import Derived.Test.YtaimmacnafoanaaGreatDoorQ04
set_option linter.unusedVariables false
set_option linter.unusedSimpArgs false
set_option maxRecDepth 100000
namespace Go.Proofs.YtaimmacnafoanaaGreatDoor.F
section
open Go Go.RowKit
abbrev XO:=Ex×List V×aA
abbrev XR:=Option (List XO)
def Uf (k:XO→XR):List XO→XR
 | []=>some []
 | x::l=>match k x with
  | some r=>match Uf k l with|some s=>some (r++s)|none=>none
  | none=>none
def wV (r:XR)(k:XO→XR):XR:=match r with|some l=>Uf k l|none=>none
theorem wW {k:XO→XR}:∀{m l:List XO},Uf k m=some l→∀ x∈m,∃ lx,k x=some lx∧∀ y∈lx,y∈l
 | [],l,h,x,hx=>by simp at hx
 | z::m,l,h,x,hx=>by
  simp only[Uf]at h;split at h
  ·rename_i r hr;split at h
   ·rename_i s hs;cases h;rcases List.mem_cons.1 hx with rfl|hx
    ·exact⟨r,hr,fun y hy=>List.mem_append_left _ hy⟩
    ·obtain⟨lx,h1,h2⟩:=wW hs x hx;exact⟨lx,h1,fun y hy=>List.mem_append_right _ (h2 y hy)⟩
   ·cases h
  ·cases h
theorem nC {r:XR}{k:XO→XR}{l:List XO}(h:wV r k=some l):∃ m,r=some m∧∀ x∈m,∃ lx,k x=some lx∧∀ y∈lx,y∈l:=by
 unfold wV at h;split at h
 ·rename_i m;exact⟨m,rfl,wW h⟩
 ·cases h
abbrev Lx:=FuncId→Code→List V→aA→XR
structure XE where
 tb:cR
 pcm:FuncId→Bool
 cln:FuncId→Option Nat
 cd:FuncId→Option Func
 df:FuncId→Bool
 po:FuncId→Nat→Option (List Nat×List Nat)
 pt:FuncId→Nat→Option (OT×List Nat)
 orc:FuncId→List V→Option Res
 orm:FuncId→List V→aA→Option (V×aA)
def bT {α:Type}(n:Nat)(K:Nat→α):α:=match n with|0=>K 0|m+1=>K (Nat.succ m)
theorem jC {α:Type}(n:Nat)(K:Nat→α):bT n K=K n:=by cases n<;>rfl
def vT {α:Type}(n:Int)(K:Int→α):α:=match n with | .ofNat m=>bT m fun m=>K (.ofNat m) | .negSucc m=>bT m fun m=>K (.negSucc m)
theorem rP {α:Type}(n:Int)(K:Int→α):vT n K=K n:=by cases n<;>simp only[vT,jC]
def vW {α:Type}(n:Bool)(K:Bool→α):α:=match n with|true=>K true|false=>K false
theorem nR {α:Type}(n:Bool)(K:Bool→α):vW n K=K n:=by cases n<;>rfl
def dD {α β:Type}:List β→(List β→α)→α
 | [],K=>K []
 | x::l,K=>dD l fun l=>K (x::l)
theorem dI {α β:Type}(l:List β)(K:List β→α):dD l K=K l:=by
 induction l generalizing K with
 | nil=>rfl
 | cons x l ih=>simp only[dD,ih]
def vU {α:Type}(v:V)(K:V→α):α:=match v with
 | .bool b=>vW b fun b=>K (.bool b)
 | .int k n=>vT n fun n=>K (.int k n)
 | .str s=>dD s fun s=>K (.str s)
 | .flt n=>bT n fun n=>K (.flt n)
 | .cpx a b=>bT a fun a=>bT b fun b=>K (.cpx a b)
 | .nilp=>K .nilp
 | .ptr b i j=>bT b fun b=>bT i fun i=>bT j fun j=>K (.ptr b i j)
 | .ip e j=>bT j fun j=>K (.ip e j)
 | .nils=>K .nils
 | .sl b i n=>bT b fun b=>bT i fun i=>bT n fun n=>K (.sl b i n)
 | .imm es=>K (.imm es)
 | .fn f a c=>K (.fn f a c)
 | .nilf=>K .nilf
 | .iface t v=>K (.iface t v)
 | .nili=>K .nili
 | .nilm=>K .nilm
 | .agg cs=>K (.agg cs)
 | .tup vs=>K (.tup vs)
 | .mp b=>bT b fun b=>K (.mp b)
 | .glob n=>K (.glob n)
 | .any=>K .any
theorem yX {α:Type}(v:V)(K:V→α):vU v K=K v:=by cases v<;>simp only[vU,jC,rP,nR,dI]
def nP {α:Type}:List V→(List V→α)→α
 | [],K=>K []
 | x::l,K=>vU x fun x=>nP l fun l=>K (x::l)
theorem Ai {α:Type}(l:List V)(K:List V→α):nP l K=K l:=by
 induction l generalizing K with
 | nil=>rfl
 | cons x l ih=>simp only[nP,yX,ih]
def Bb {α:Type}(v:V)(K:V→α):α:=match v with
 | .bool b=>vW b fun b=>K (.bool b)
 | .int k n=>vT n fun n=>K (.int k n)
 | .str s=>dD s fun s=>K (.str s)
 | .flt n=>bT n fun n=>K (.flt n)
 | .cpx a b=>bT a fun a=>bT b fun b=>K (.cpx a b)
 | .nilp=>K .nilp
 | .ptr b i j=>bT b fun b=>bT i fun i=>bT j fun j=>K (.ptr b i j)
 | .ip e j=>vU e fun e=>bT j fun j=>K (.ip e j)
 | .nils=>K .nils
 | .sl b i n=>bT b fun b=>bT i fun i=>bT n fun n=>K (.sl b i n)
 | .imm es=>nP es fun es=>K (.imm es)
 | .fn f a c=>K (.fn f a c)
 | .nilf=>K .nilf
 | .iface t v=>vU v fun v=>K (.iface t v)
 | .nili=>K .nili
 | .nilm=>K .nilm
 | .agg cs=>nP cs fun cs=>K (.agg cs)
 | .tup vs=>nP vs fun vs=>K (.tup vs)
 | .mp b=>bT b fun b=>K (.mp b)
 | .glob n=>K (.glob n)
 | .any=>K .any
theorem yW {α:Type}(v:V)(K:V→α):Bb v K=K v:=by cases v<;>simp only[Bb,jC,rP,nR,dI,Ai,yX]
def tN {α:Type}:List V→(List V→α)→α
 | [],K=>K []
 | x::l,K=>Bb x fun x=>tN l fun l=>K (x::l)
theorem Zh {α:Type}(l:List V)(K:List V→α):tN l K=K l:=by
 induction l generalizing K with
 | nil=>rfl
 | cons x l ih=>simp only[tN,yW,ih]
mutual
def jO {α:Type}:V→(V→α)→α
 | .bool b,K=>vW b fun b=>K (.bool b)
 | .int k n,K=>vT n fun n=>K (.int k n)
 | .str s,K=>dD s fun s=>K (.str s)
 | .flt n,K=>bT n fun n=>K (.flt n)
 | .cpx a b,K=>bT a fun a=>bT b fun b=>K (.cpx a b)
 | .nilp,K=>K .nilp
 | .ptr b i j,K=>bT b fun b=>bT i fun i=>bT j fun j=>K (.ptr b i j)
 | .ip e j,K=>jO e fun e=>bT j fun j=>K (.ip e j)
 | .nils,K=>K .nils
 | .sl b i n,K=>bT b fun b=>bT i fun i=>bT n fun n=>K (.sl b i n)
 | .imm es,K=>forceDL es fun es=>K (.imm es)
 | .fn f a c,K=>K (.fn f a c)
 | .nilf,K=>K .nilf
 | .iface t v,K=>jO v fun v=>K (.iface t v)
 | .nili,K=>K .nili
 | .nilm,K=>K .nilm
 | .agg cs,K=>forceDL cs fun cs=>K (.agg cs)
 | .tup vs,K=>forceDL vs fun vs=>K (.tup vs)
 | .mp b,K=>bT b fun b=>K (.mp b)
 | .glob n,K=>K (.glob n)
 | .any,K=>K .any
def forceDL {α:Type}:List V→(List V→α)→α
 | [],K=>K []
 | x::l,K=>jO x fun x=>forceDL l fun l=>K (x::l)
end
mutual
theorem nQ {α:Type}:∀(v:V)(K:V→α),jO v K=K v
 | .ip e j,K=>by simp only[jO,jC,nQ e]
 | .imm l,K=>by simp only[jO,forceDL_eq l]
 | .iface t v,K=>by simp only[jO,nQ v]
 | .agg l,K=>by simp only[jO,forceDL_eq l]
 | .tup l,K=>by simp only[jO,forceDL_eq l]
 | .bool _,K | .int ..,K | .str _,K | .flt _,K | .cpx ..,K | .nilp,K | .ptr ..,K | .nils,K | .sl ..,K | .fn ..,K | .nilf,K | .nili,K | .nilm,K | .mp _,K | .glob _,K | .any,K=>by simp only[jO,jC,rP,nR,dI]
theorem forceDL_eq {α:Type}:∀(l:List V)(K:List V→α),forceDL l K=K l
 | [],K=>rfl
 | x::l,K=>by simp only[forceDL,nQ x,forceDL_eq l]
end
def tO {α:Type}(o:Blk)(K:Blk→α):α:=match o with
 | .row s es ro=>bT s fun s=>tN es fun es=>vW ro fun ro=>K (.row s es ro)
 | .maps es=>dD es fun es=>K (.maps es)
 | .bld t bs=>dD bs fun bs=>K (.bld t bs)
 | .dead=>K .dead
theorem vV {α:Type}(o:Blk)(K:Blk→α):tO o K=K o:=by cases o<;>simp only[tO,jC,nR,dI,Zh]
def gY {α:Type}:aA→Nat→(aA→α)→α
 | [],_,K=>K []
 | [o],_,K=>tO o fun o=>K [o]
 | o::l,0,K=>tO o fun o=>gY l 0 fun l=>K (o::l)
 | o::l,b+1,K=>gY l b fun l=>K (o::l)
theorem lS {α:Type}:∀(l:aA)(b:Nat)(K:aA→α),gY l b K=K l
 | [],b,K=>by cases b<;>rfl
 | [o],b,K=>by cases b<;>simp only[gY,vV]
 | o::o' :: l,0,K=>by simp only[gY,vV,lS (o' :: l) 0]
 | o::o' :: l,b+1,K=>by simp only[gY,lS (o' :: l) b]
def oX {α:Type}(T:List V)(op:Op)(H:aA)(K:aA→α):α:=match op with
 | .store _ p _=>match ev T p with | .ptr b _ _=>gY H b K|_=>K H
 | .alloc _ | .box .. | .buildSlice .. | .makeSlice .. | .convert .. | .makeMap ..=>gY H 1000000 K
 | .mapUpdate ..=>gY H 1000000 K
 | .call ..=>gY H 1000000 K
 | .slice ..=>gY H 1000000 K
 | _=>K H
theorem rO {α:Type}(T:List V)(op:Op)(H:aA)(K:aA→α):oX T op H K=K H:=by
 unfold oX;split
 ·split<;>first|rfl|exact lS _ _ _
 all_goals first|rfl|exact lS _ _ _
def Fg {α:Type}(T:List V)(d:Option Tmp)(v:V)(K:List V→α):α:=Bb v fun v=>dD (put T d v) K
theorem zN {α:Type}(T:List V)(d:Option Tmp)(v:V)(K:List V→α):Fg T d v K=K (put T d v):=by simp only[Fg,yW,dI]
mutual
def V.beq:V→V→Bool
 | .bool a,.bool b=>a == b
 | .int k a,.int k' b=>decide (k=k') && decide (a=b)
 | .str a,.str b=>decide (a=b)
 | .flt a,.flt b=>Nat.beq a b
 | .cpx a b,.cpx c d=>Nat.beq a c && Nat.beq b d
 | .nilp,.nilp=>true
 | .ptr a b c,.ptr a' b' c'=>Nat.beq a a' && (Nat.beq b b' && Nat.beq c c')
 | .ip e j,.ip e' j'=>V.beq e e' && Nat.beq j j'
 | .nils,.nils=>true
 | .sl a b c,.sl a' b' c'=>Nat.beq a a' && (Nat.beq b b' && Nat.beq c c')
 | .imm l,.imm m=>V.beqL l m
 | .fn f a b,.fn f' a' b'=>Nat.beq f f' && (V.beqL a a' && V.beqL b b')
 | .nilf,.nilf=>true
 | .iface t v,.iface t' v'=>Nat.beq t t' && V.beq v v'
 | .nili,.nili=>true
 | .nilm,.nilm=>true
 | .agg l,.agg m=>V.beqL l m
 | .tup l,.tup m=>V.beqL l m
 | .mp a,.mp b=>Nat.beq a b
 | .glob a,.glob b=>Nat.beq a b
 | .any,.any=>true
 | _,_=>false
def V.beqL:List V→List V→Bool
 | [],[]=>true
 | v::l,u::m=>V.beq v u && V.beqL l m
 | _,_=>false
end
mutual
theorem V.beq_eq:∀(a b:V),V.beq a b=true→a=b
 | .bool a,b,h=>by cases b<;>simp[V.beq]at h;subst h;rfl
 | .int k a,b,h=>by cases b<;>simp[V.beq]at h;obtain⟨rfl,rfl⟩:=h;rfl
 | .str a,b,h=>by cases b<;>simp[V.beq]at h;subst h;rfl
 | .flt a,b,h=>by cases b<;>simp[V.beq]at h;subst h;rfl
 | .cpx a b',b,h=>by cases b<;>simp[V.beq]at h;obtain⟨rfl,rfl⟩:=h;rfl
 | .nilp,b,h=>by cases b<;>simp[V.beq]at h;rfl
 | .ptr a b' c,b,h=>by cases b<;>simp[V.beq]at h;obtain⟨rfl,rfl,rfl⟩:=h;rfl
 | .ip e j,b,h=>by cases b<;>simp[V.beq]at h;obtain⟨h,rfl⟩:=h;rw[V.beq_eq _ _ h]
 | .nils,b,h=>by cases b<;>simp[V.beq]at h;rfl
 | .sl a b' c,b,h=>by cases b<;>simp[V.beq]at h;obtain⟨rfl,rfl,rfl⟩:=h;rfl
 | .imm l,b,h=>by cases b<;>simp[V.beq]at h;rw[V.beqL_eq _ _ h]
 | .fn f a b',b,h=>by cases b<;>simp[V.beq]at h;obtain⟨rfl,h1,h2⟩:=h;rw[V.beqL_eq _ _ h1,V.beqL_eq _ _ h2]
 | .nilf,b,h=>by cases b<;>simp[V.beq]at h;rfl
 | .iface t v,b,h=>by cases b<;>simp[V.beq]at h;obtain⟨rfl,h⟩:=h;rw[V.beq_eq _ _ h]
 | .nili,b,h=>by cases b<;>simp[V.beq]at h;rfl
 | .nilm,b,h=>by cases b<;>simp[V.beq]at h;rfl
 | .agg l,b,h=>by cases b<;>simp[V.beq]at h;rw[V.beqL_eq _ _ h]
 | .tup l,b,h=>by cases b<;>simp[V.beq]at h;rw[V.beqL_eq _ _ h]
 | .mp a,b,h=>by cases b<;>simp[V.beq]at h;subst h;rfl
 | .glob a,b,h=>by cases b<;>simp[V.beq]at h;subst h;rfl
 | .any,b,h=>by cases b<;>simp[V.beq]at h;rfl
theorem V.beqL_eq:∀(a b:List V),V.beqL a b=true→a=b
 | [],b,h=>by cases b<;>simp[V.beqL]at h;rfl
 | v::l,b,h=>by
  cases b<;>simp[V.beqL]at h;rw[V.beq_eq _ _ h.1,V.beqL_eq _ _ h.2]
end
def nL:List ((Int×Int)×V)→List ((Int×Int)×V)→Bool
 | [],[]=>true
 | (k,v)::l,(k',v')::m=>decide (k=k') && (V.beq v v' && nL l m)
 | _,_=>false
theorem uV:∀(a b:List ((Int×Int)×V)),nL a b=true→a=b
 | [],b,h=>by cases b<;>simp[nL]at h;rfl
 | (k,v)::l,b,h=>by
  cases b with
  | nil=>simp[nL]at h
  | cons x m=>
   obtain⟨k',v'⟩:=x;simp only[nL,Bool.and_eq_true,decide_eq_true_eq]at h;rw[h.1,V.beq_eq _ _ h.2.1,uV _ _ h.2.2]
def Blk.beq:Blk→Blk→Bool
 | .row s es ro,.row s' es' ro'=>Nat.beq s s' && ((ro == ro') && V.beqL es es')
 | .maps es,.maps es'=>nL es es'
 | .bld t bs,.bld t' bs'=>Nat.beq t t' && decide (bs=bs')
 | .dead,.dead=>true
 | _,_=>false
theorem Blk.beq_eq (a b:Blk)(h:Blk.beq a b=true):a=b:=by
 cases a<;>cases b<;>simp[Blk.beq]at h
 ·obtain⟨rfl,rfl,h⟩:=h;rw[V.beqL_eq _ _ h]
 ·rw[uV _ _ h]
 ·obtain⟨rfl,rfl⟩:=h;rfl
 ·rfl
def nO:aA→aA→Bool
 | [],[]=>true
 | a::l,b::m=>Blk.beq a b && nO l m
 | _,_=>false
theorem oU:∀(a b:aA),nO a b=true→a=b
 | [],b,h=>by cases b<;>simp[nO]at h;rfl
 | v::l,b,h=>by
  cases b<;>simp[nO]at h;rw[Blk.beq_eq _ _ h.1,oU _ _ h.2]
inductive PK where
 | ld (t:TypeId) (p v:V)
 | ix (t:TypeId) (x i v:V)
def PK.ok (tb:cR)(H:aA):PK→Prop
 | .ld t p v=>rJ tb H t p=some v
 | .ix t x i v=>bQ tb [x,i] H (.indexAddr t (.tmp 0) (.tmp 1)) = .val v H
def PK.okB (tb:cR)(H:aA):PK→Bool
 | .ld t p v=>match rJ tb H t p with|some u=>V.beq u v|none=>false
 | .ix t x i v=>match bQ tb [x,i] H (.indexAddr t (.tmp 0) (.tmp 1))with | .val u _=>V.beq u v|_=>false
theorem Lz {tb:cR}{T:List V}{H H':aA}{t:TypeId}{a b:Operand}{v:V}(h:bQ tb T H (.indexAddr t a b) = .val v H'):H'=H:=by
 simp only[bQ]at h;repeat' (split at h)
 all_goals first|(cases h;done)|(cases h;rfl)
theorem PK.okB_ok {tb:cR}{H:aA}{k:PK}(h:k.okB tb H=true):k.ok tb H:=by
 cases k with
 | ld t p v=>
  simp only[PK.okB]at h;split at h
  ·rename_i u hu;simp only[PK.ok];rw[hu,V.beq_eq _ _ h]
  ·cases h
 | ix t x i v=>
  simp only[PK.okB]at h;split at h
  ·rename_i u H' hu;simp only[PK.ok];rw[hu,V.beq_eq _ _ h,Lz hu]
  ·cases h
def Ed (tb:cR)(H:aA):List PK→Bool
 | []=>true
 | k::l=>k.okB tb H && Ed tb H l
theorem uS {tb:cR}{H:aA}:∀{l:List PK},Ed tb H l=true→∀ k∈l,k.ok tb H
 | [],_,k,hk=>by simp at hk
 | x::l,h,k,hk=>by
  simp only[Ed,Bool.and_eq_true]at h;rcases List.mem_cons.1 hk with rfl|hk
  ·exact PK.okB_ok h.1
  ·exact uS h.2 k hk
def Py (tb:cR)(T:List V)(H:aA):Op→Option PK
 | .load t p=>match rJ tb H t (ev T p)with|some v=>some (.ld t (ev T p) v)|none=>none
 | .indexAddr t a b=>match bQ tb [ev T a,ev T b] H (.indexAddr t (.tmp 0) (.tmp 1))with | .val v _=>some (.ix t (ev T a) (ev T b) v)|_=>none
 | _=>none
def PK.beq:PK→PK→Bool
 | .ld t p v,.ld t' p' v'=>Nat.beq t t' && (V.beq p p' && V.beq v v')
 | .ix t x i v,.ix t' x' i' v'=>Nat.beq t t' && (V.beq x x' && (V.beq i i' && V.beq v v'))
 | _,_=>false
theorem PK.beq_eq {a b:PK}(h:PK.beq a b=true):a=b:=by
 cases a<;>cases b<;>simp[PK.beq]at h
 ·obtain⟨rfl,h1,h2⟩:=h;rw[V.beq_eq _ _ h1,V.beq_eq _ _ h2]
 ·obtain⟨rfl,h1,h2,h3⟩:=h;rw[V.beq_eq _ _ h1,V.beq_eq _ _ h2,V.beq_eq _ _ h3]
def Et (k:PK):List PK→Bool
 | []=>false
 | x::l=>PK.beq k x || Et k l
theorem Tc {k:PK}:∀{l:List PK},Et k l=true→k∈l
 | [],h=>by simp[Et]at h
 | x::l,h=>by
  simp only[Et,Bool.or_eq_true]at h;rcases h with h|h
  ·rw[PK.beq_eq h];exact List.mem_cons_self
  ·exact List.mem_cons_of_mem _ (Tc h)
section
variable (X:XE)(rec:Lx)
def tY:List Operand→Option (List Tmp)
 | []=>some []
 | .tmp t::l=>match tY l with|some r=>some (t::r)|none=>none
 | _::_=>none
def Zk:Code→Option (Tmp×FuncId×List Tmp)
 | .region _ ⟨[⟨some tf,.makeFunc (.func f) ⟨[]⟩ ⟨caps⟩,_,_,_,none⟩,⟨none,.defer ⟨.value (.tmp tf'),⟨[]⟩,_⟩,_,_,_,none⟩]⟩ false=>
  if tf=tf' then(match tY caps with|some l=>some (tf,f,l)|none=>none)else none
 | _=>none
def Rc:Code→Option (Tmp×Tmp×Code)
 | .seq (.region _ ⟨[⟨some t,.call ⟨.builtin .recover,⟨[]⟩,_⟩,_,_,_,none⟩,⟨some u,.assign (.tmp t'),_,_,_,none⟩]⟩ false) rest=>if t=t' then some (t,u,rest)else none
 | _=>none
theorem yC:∀{l:List Operand}{r:List Tmp},tY l=some r→l=r.map Operand.tmp
 | [],r,h=>by simp only[tY]at h;cases h;rfl
 | x::l,r,h=>by
  cases x<;>simp only[tY]at h<;>try cases h
  split at h
  ·rename_i q hq;cases h;rw[yC hq];rfl
  ·cases h
theorem Kf {x:Code}{tf:Tmp}{f:FuncId}{caps:List Tmp}(h:Zk x=some (tf,f,caps)) :
 ∃ id ty0 p0 af0 tys ty1 p1 af1,x = .region id #[⟨some tf,.makeFunc (.func f) #[] (caps.map Operand.tmp).toArray,ty0,p0,af0,none⟩,⟨none,.defer ⟨.value (.tmp tf),#[],tys⟩,ty1,p1,af1,none⟩] false:=by
 unfold Zk at h;split at h
 ·split at h
  ·rename_i he;split at h
   ·rename_i l hl;cases h;subst he;rw[yC hl];exact⟨_,_,_,_,_,_,_,_,rfl⟩
   ·cases h
  ·cases h
 ·cases h
theorem Qc {x rest:Code}{t u:Tmp}(h:Rc x=some (t,u,rest)) :
 ∃ id tys ty0 p0 af0 ty1 p1 af1,x = .seq (.region id #[⟨some t,.call ⟨.builtin .recover,#[],tys⟩,ty0,p0,af0,none⟩,⟨some u,.assign (.tmp t),ty1,p1,af1,none⟩] false) rest:=by
 unfold Rc at h;split at h
 ·split at h
  ·rename_i he;cases h;subst he;exact⟨_,_,_,_,_,_,_,_,rfl⟩
  ·cases h
 ·cases h
def oL (fn:Func)(T:List V)(H:aA):Option Res:=
 match jW X.tb fn.results.toList T H with|some v=>(match fz H 8 v with|some v'=>jO v' fun v'=>some (.ret v')|none=>none)|none=>none
def Res.beq:Res→Res→Bool
 | .ret v,.ret u=>V.beq v u
 | .pan v,.pan u=>V.beq v u
 | _,_=>false
def xW (k:XO→Option Res):List XO→Option Res
 | []=>none
 | [x]=>k x
 | x::l=>match k x with
  | some a=>match xW k l with|some b=>if Res.beq a b then some a else none|none=>none
  | none=>none
def xX (fn fn2:Func)(f2:FuncId)(cs:List V)(t u:Tmp)(rest:Code):XO→Option Res
 | (.ret,T1,H1)=>(match rec f2 rest (put (put (cs++List.replicate (fn2.ntmps - cs.length) undef) (some t) .nili) (some u) .nili) H1 with
  | some [(.normal,_,H2)]=>oL X fn T1 H2
  | _=>none)
 | (.panic v,T1,H1)=>(match rec f2 rest (put (put (cs++List.replicate (fn2.ntmps - cs.length) undef) (some t) v) (some u) v) H1 with
  | some [(.normal,_,H2)]=>oL X fn T1 H2
  | _=>none)
 | _=>none
def Dp (f:FuncId)(fn:Func):Code→List V→aA→Option Res
 | .seq x y,T,H=>match Zk x with
  | some (tf,f2,caps)=>match X.cd f2 with
   | some fn2=>match fn2.body with
    | some b2=>match Rc b2 with
     | some (t,u,rest)=>
      if fn2.results.toList.length=0∧t < fn2.ntmps∧caps.length≤fn2.ntmps∧tf < T.length then
       (match rec f y (put T (some tf) (.fn f2 [] (caps.map fun x=>ev T (.tmp x)))) H with
       | some m=>xW (xX X rec fn fn2 f2 (caps.map fun x=>ev T (.tmp x)) t u rest) m
       | none=>none)
      else none
     | none=>none
    | none=>none
   | none=>none
  | none=>match rec f x T H with
   | some m=>xW (fun x=>match x with
    | (.normal,T',H')=>Dp f fn y T' H'
    | (.ret,T',H')=>oL X fn T' H'
    | _=>none) m
   | none=>none
 | _,_,_=>none
def aIb (fn:Func):XO→Option Res
 | (.normal,T,H)=>oL X fn T H
 | (.ret,T,H)=>oL X fn T H
 | (.panic v,T,H)=>match fz H 8 v with|some v'=>some (.pan v')|none=>none
 | _=>none
def xpc (f:FuncId)(l:List V):Option Res:=
 match X.orc f l with
 | some r=>some r
 | none=>match X.cd f with
  | some fn=>match fn.body with
   | some c=>if X.df f then Dp X rec f fn c (l++List.replicate (fn.ntmps - l.length) undef) []else match rec f c (l++List.replicate (fn.ntmps - l.length) undef) []with
    | some m=>xW (aIb X fn) m
    | none=>none
   | none=>none
  | none=>none
def Bl (H:aA)(v:V)(H1:aA):Bool:=Nat.blt H.length H1.length && (uW H.length v && Sa H.length (H1.take H.length))
def aEo (fn:Func)(H:aA):XO→Option (V×aA)
 | (.normal,T1,H1)=>match jW X.tb fn.results.toList T1 H1 with|some v=>if Nat.ble H.length H1.length && (uW H.length v && Sa H.length (H1.take H.length))then some (v,H1.take H.length)else none|none=>none
 | (.ret,T1,H1)=>match jW X.tb fn.results.toList T1 H1 with|some v=>if Nat.ble H.length H1.length && (uW H.length v && Sa H.length (H1.take H.length))then some (v,H1.take H.length)else none|none=>none
 | _=>none
def Ub (k:XO→Option (V×aA)):List XO→Option (V×aA)
 | []=>none
 | [x]=>k x
 | x::l=>match k x with
  | some a=>match Ub k l with|some b=>if V.beq a.1 b.1 && nO a.2 b.2 then some a else none|none=>none
  | none=>none
def aBs (fn:Func)(T:List V)(dst:Option Tmp):XO→XR
 | (.normal,T1,H1)=>match jW X.tb fn.results.toList T1 H1 with|some v=>some [(.normal,put T dst v,H1)]|none=>none
 | (.ret,T1,H1)=>match jW X.tb fn.results.toList T1 H1 with|some v=>some [(.normal,put T dst v,H1)]|none=>none
 | (.panic v,T1,H1)=>some [(.panic v,T,H1)]
 | _=>none
def tV (f:FuncId)(args:List V)(T:List V)(H:aA)(dst:Option Tmp):XR:=
 match X.cd f with
 | none=>none
 | some fn=>match fn.body with
  | none=>none
  | some c=>match X.cln f with
   | some s=>(match args with
    | [v]=>match bS H v with
     | some es=>if aQ s es=true∧v.isStr=false∧es.length≤1073741824 then some [(.normal,put T dst (.sl H.length 0 es.length),H++[.row s es false])]else none
     | none=>none
    | _=>none)
   | none=>if X.pcm f then(match args.mapM (fz H 8)with
    | some l=>match forceDL l (xpc X rec f)with
     | some (.ret v)=>some [(.normal,put T dst v,eA v H (args.flatMap (aU H 8)))]
     | some (.pan v)=>some [(.panic v,T,eA v H (args.flatMap (aU H 8)))]
     | none=>none
    | none=>none)
    else match X.orm f args H with
     | some (v,H')=>some [(.normal,put T dst v,H')]
     | none=>match rec f c (args++List.replicate (fn.ntmps - args.length) undef) H with
      | some [(.normal,T1,H1)]=>match jW X.tb fn.results.toList T1 H1 with|some v=>if Bl H v H1 then some [(.normal,put T dst v,H1.take H.length)]else some [(.normal,put T dst v,H1)]|none=>none
      | some [(.ret,T1,H1)]=>match jW X.tb fn.results.toList T1 H1 with|some v=>if Bl H v H1 then some [(.normal,put T dst v,H1.take H.length)]else some [(.normal,put T dst v,H1)]|none=>none
      | some [(.panic v,T1,H1)]=>some [(.panic v,T,H1)]
      | some m=>(match Ub (aEo X fn H) m with|some (v,H')=>some [(.normal,put T dst v,H')]|none=>Uf (aBs X fn T dst) m)
      | none=>none
def Hg (ops:Array Oper):List Oper→List V→aA→XR
 | [],T,H=>some [(.normal,T,H)]
 | o::rest,T,H=>match bK ops T o with
  | some true=>match bQ X.tb T H o.op with
   | .val v H'=>oX T o.op H' fun H'=>Fg T o.dst v fun T=>Hg ops rest T H'
   | .call f args=>wV (tV X rec f args T H o.dst) fun x=>match x with
    | (.normal,T',H')=>dD T' fun T'=>dD H' fun H'=>Hg ops rest T' H'
    | (.panic v,T',H')=>some [(.panic v,T',H')]
    | _=>none
   | .panic v=>some [(.panic v,T,H)]
   | .stuck=>none
  | some false=>dD (put T o.dst undef) fun T=>Hg ops rest T H
  | none=>none
def Oh (T:List V)(b:Bool):Op→List Nat→List Nat
 | .load _ p,l=>if b then(match ev T p with | .ptr k _ _=>k::l|_=>l)else l
 | _,l=>l
def Zg (T:List V):Op→List Nat→List Nat
 | .store _ p _,l=>(match ev T p with | .ptr k _ _=>k::l|_=>l)
 | _,l=>l
def aAp:List Nat→List Nat→Bool
 | [],_=>true
 | x::l,m => !m.contains x && aAp l m
def tT (ops:Array Oper):List (Bool×Oper)→List V→aA→List Nat→List Nat→Option XO
 | [],T,H,lb,sb=>if aAp sb lb then some (.normal,T,H)else none
 | (b,o)::rest,T,H,lb,sb=>match bK ops T o with
  | some true=>match bQ X.tb T H o.op with
   | .val v H'=>oX T o.op H' fun H'=>Fg T o.dst v fun T'=>tT ops rest T' H' (Oh T b o.op lb) (Zg T o.op sb)
   | .call f args=>match tV X rec f args T H o.dst with
    | some [(.normal,T',H')]=>dD T' fun T'=>dD H' fun H'=>tT ops rest T' H' (Oh T b o.op lb) (Zg T o.op sb)
    | _=>none
   | _=>none
  | some false=>dD (put T o.dst undef) fun T'=>tT ops rest T' H (Oh T b o.op lb) (Zg T o.op sb)
  | none=>none
def sOp (o:Oper):Bool:=eU (fun _=>false) X.pcm X.cln X.tb o.op == .s
def aIt (b:Bool)(P:List PK)(o:Oper)(T:List V)(H:aA):Bool:=match b with
 | true=>(match Py X.tb T H o.op with|some k=>Et k P && Ed X.tb H [k]|none=>false)
 | false=>true
def Ud (c:Bool)(o:Oper)(P:List PK)(H:aA):Bool:=match sOp X o && c with
 | true=>Ed X.tb H P
 | false=>true
def xst (l:List Oper)(pl:List Nat)(P:List PK)(i:Nat)(T:List V)(H:aA):Option (List V×aA):=
 let o:=fT l i
 match bK l.toArray T o with
 | some true=>if aIt X (pl.contains i) P o T H then(match bQ X.tb T H o.op with
  | .val v H'=>if Ud X (nk pl i) o P H' then oX T o.op H' fun H'=>Fg T o.dst v fun T=>some (T,H')else none
  | .call f args=>match tV X rec f args T H o.dst with
   | some [(.normal,T',H')]=>if Ud X (nk pl i) o P H' then dD T' fun T'=>dD H' fun H'=>some (T',H')else none
   | _=>none
  | _=>none)else none
 | some false=>if Ud X (nk pl i) o P H then dD (put T o.dst undef) fun T=>some (T,H)else none
 | none=>none
def Cp:XO→XO→Bool
 | (.normal,T,H),(.normal,T',H')=>V.beqL T T' && nO H H'
 | _,_=>false
def Ap (x:XO):List XO→Bool
 | []=>false
 | y::l=>Cp x y || Ap x l
def Cg:List XO→List XO→List XO
 | [],m=>m
 | x::l,m=>if Ap x m then Cg l m else x::Cg l m
def rW (l:List Oper)(pl:List Nat)(P:List PK):OT→List V→aA→XR
 | .nil,T,H=>some [(.normal,T,H)]
 | .one i t,T,H=>match xst X rec l pl P i T H with
  | some (T1,H1)=>rW l pl P t T1 H1
  | none=>none
 | .two i t j u,T,H=>match xst X rec l pl P i T H with
  | some (T1,H1)=>match rW l pl P t T1 H1 with
   | some m1=>match xst X rec l pl P j T H with
    | some (T3,H3)=>match rW l pl P u T3 H3 with
     | some m2=>some (Cg m1 m2)
     | none=>none
    | none=>none
   | none=>none
  | none=>none
def Ig (l:List Oper)(pl:List Nat):OT→List V→aA→List PK
 | .nil,_,_=>[]
 | .one i t,T,H=>let o:=fT l i
  match bK l.toArray T o with
  | some true=>match bQ X.tb T H o.op with
   | .val v H'=>let r:=oX T o.op H' fun H'=>Fg T o.dst v fun T=>Ig l pl t T H'
    if pl.contains i then(match Py X.tb T H o.op with|some k=>k::r|none=>r)else r
   | .call f args=>match tV X rec f args T H o.dst with
    | some [(.normal,T',H')]=>dD T' fun T'=>dD H' fun H'=>Ig l pl t T' H'
    | _=>[]
   | _=>[]
  | some false=>dD (put T o.dst undef) fun T=>Ig l pl t T H
  | none=>[]
 | .two i t j u,T,H=>let o:=fT l i
  match bK l.toArray T o with
  | some true=>match bQ X.tb T H o.op with
   | .val v H'=>let r:=oX T o.op H' fun H'=>Fg T o.dst v fun T=>Ig l pl t T H'
    if pl.contains i then(match Py X.tb T H o.op with|some k=>k::r|none=>r)else r
   | .call f args=>match tV X rec f args T H o.dst with
    | some [(.normal,T',H')]=>dD T' fun T'=>dD H' fun H'=>Ig l pl t T' H'
    | _=>[]
   | _=>[]
  | some false=>dD (put T o.dst undef) fun T=>Ig l pl t T H
  | none=>[]
def xlp (f:FuncId)(c:Code):Nat→List V→aA→XR
 | 0,_,_=>none
 | n+1,T,H=>wV (rec f c T H) fun x=>match x with
  | (.normal,T',H')=>xlp f c n T' H'
  | r=>some [r]
def Rx (f:FuncId)(c:Code):Nat→XR→XR
 | 0,_=>none
 | n+1,r=>wV r fun x=>match x with
  | (.goto l,T,H)=>(match findLabel c l with
   | some d=>Rx f c n (rec f d T H)
   | none=>none)
  | r=>some [r]
def aFo (r:Option XO):XR:=match r with|some x=>some [x]|none=>none
def jE (f:FuncId):Code→List V→aA→XR
 | .skip,T,H=>some [(.normal,T,H)]
 | .label _,T,H=>some [(.normal,T,H)]
 | .exit id,T,H=>some [(.exit id,T,H)]
 | .goto l,T,H=>some [(.goto l,T,H)]
 | .ret,T,H=>some [(.ret,T,H)]
 | .region _ ⟨l⟩ false,T,H=>Hg X rec ⟨l⟩ l T H
 | .region id ⟨l⟩ true,T,H=>match X.po f id with
  | some (p,pl)=>aFo (tT X rec ⟨l⟩ (sM ⟨l⟩ pl p) T H [] [])
  | none=>match X.pt f id with
   | some (t,pl)=>rW X rec l pl (Ig X rec l pl t T H) t T H
   | none=>none
 | .seq a b,T,H=>wV (rec f a T H) fun x=>match x with
  | (.normal,T',H')=>rec f b T' H'
  | r=>some [r]
 | .cond x p q,T,H=>match ev T x with
  | .bool true=>rec f p T H
  | .bool false=>rec f q T H
  | _=>none
 | .block id c,T,H=>wV (rec f c T H) fun x=>match x with
  | (.exit id',T',H')=>if id'=id then some [(.normal,T',H')]else some [(.exit id',T',H')]
  | r=>some [r]
 | .loop c,T,H=>xlp rec f c 1000000 T H
 | .scope c,T,H=>Rx rec f c 1000000 (rec f c T H)
 | _,_,_=>none
end
def oK (X:XE):Nat→Lx
 | 0=>fun _ _ _ _=>none
 | n+1=>jE X (oK X n)
def jX (X:XE)(f:FuncId):Code→Bool
 | .region id ⟨l⟩ true=>match X.po f id with
  | some (p,pl)=>p.length == l.length && Of pl (fun _=>false) X.pcm X.cln X.tb l.toArray p (Array.replicate l.length false)
  | none=>match X.pt f id with
   | some (t,pl)=>Dt pl (fun _=>false) X.pcm X.cln X.tb l.toArray && (t.len == l.length && Nb pl (fun _=>false) X.pcm X.cln X.tb l.toArray t (Array.replicate l.length false))
   | none=>true
 | .seq a b=>jX X f a && jX X f b
 | .cond _ a b=>jX X f a && jX X f b
 | .block _ c=>jX X f c
 | .loop c=>jX X f c
 | .scope c=>jX X f c
 | _=>true
structure XOk (X:XE)(E:Env):Prop where
 ok:EnvOk E
 tb:E.tab=X.tb
 pcm:E.pcm=X.pcm
 cln:E.cln=X.cln
 sp:E.sp=fun _=>false
 cd:∀ f fn,X.cd f=some fn→E.P.funcs[f]?=some fn
 po:∀ f fn c,X.cd f=some fn→fn.body=some c→jX X f c=true
 orc:∀ f l r,X.orc f l=some r→PC E.P E.g f l r
 orm:∀ f l H v H',X.orm f l H=some (v,H')→MC E.P E.g f l H v H'
variable {X:XE}{E:Env}{rec:Lx}
def tH (X:XE)(E:Env)(rec:Lx):Prop:=∀ f c T H m,rec f c T H=some m→jX X f c=true→∀ Q:Ex→List V→aA→Prop,(∀ x∈m,Q x.1 x.2.1 x.2.2)→FW E c Q T H
theorem tH.one {X:XE}{E:Env}{rec:Lx}(hr:tH X E rec){f:FuncId}{c:Code}{T T':List V}{H H':aA}{e:Ex}(h:rec f c T H=some [(e,T',H')])(hc:jX X f c=true){Q:Ex→List V→aA→Prop}(hQ:Q e T' H'):FW E c Q T H:=
 hr f c T H _ h hc Q fun x hx=>by simp at hx;subst hx;exact hQ
theorem iB (hX:XOk X E){fn:Func}{T:List V}{H:aA}{r:Res}(h:oL X fn T H=some r):dV E.tab fn.results.toList r .ret T H:=by
 unfold oL at h;simp only[dV,hX.tb];split at h
 ·rename_i v hv;rw[hv];simp only;split at h
  ·rename_i v' hv';rw[nQ]at h;cases h;rw[hv']
  ·cases h
 ·cases h
theorem Res.beq_eq {a b:Res}(h:Res.beq a b=true):a=b:=by
 cases a<;>cases b<;>simp[Res.beq]at h<;>rw[V.beq_eq _ _ h]
theorem pE {k:XO→Option Res}{r:Res}:∀{m:List XO},xW k m=some r→∀ x∈m,k x=some r
 | [],h,x,hx=>by simp at hx
 | [y],h,x,hx=>by simp at hx;subst hx;exact h
 | y::z::l,h,x,hx=>by
  simp only[xW]at h;split at h
  ·rename_i a ha;split at h
   ·rename_i b hb;split at h
    ·rename_i he;cases h;have e:=Res.beq_eq he;rcases List.mem_cons.1 hx with rfl|hx
     ·exact ha
     ·rw[e];exact pE (m:=z::l) hb x hx
    ·cases h
   ·cases h
  ·cases h
theorem Vi (hX:XOk X E)(hr:tH X E rec){f:FuncId}{fn:Func}{r:Res}{w0:World}{im0:Nat→Prop}{γ0:fK}:∀(c:Code)(T:List V)(H:aA),jX X f c=true→Dp X rec f fn c T H=some r→Wq E w0 im0 γ0 fn r c T H
 | .seq x y,T,H,hc,h=>by
  simp only[jX,Bool.and_eq_true]at hc;simp only[Dp]at h;split at h
  ·rename_i tf f2 caps hd;split at h
   ·rename_i fn2 hf2;split at h
    ·rename_i b2 hb2;split at h
     ·rename_i t u rest hrc;split at h
      ·rename_i hcond;obtain⟨h1,h2,h3,h4⟩:=hcond;obtain⟨id,ty0,p0,af0,tys,ty1,p1,af1,rfl⟩:=Kf hd;obtain⟨id2,tys2,ty2,p2,af2,ty3,p3,af3,rfl⟩:=Qc hrc;have hrs:fn2.results = #[]:=by
        have:fn2.results.toList=[]:=List.eq_nil_of_length_eq_zero h1;exact Array.toList_eq_nil_iff.1 this
       have hck:=hX.po _ _ _ hf2 hb2;simp only[jX,Bool.and_eq_true]at hck;have hcl:(caps.map fun x=>ev T (.tmp x)).length=caps.length:=by simp
       refine Wq.deferL hX.ok (m:=fn2.ntmps - caps.length) (hX.cd _ _ hf2) (Nat.sub_add_cancel h3).symm hrs hb2 (by rw[Nat.sub_add_cancel h3];exact h2) h4 ?_;split at h
       ·rename_i m hm;refine hr _ _ _ _ _ hm hc.2 _ fun x hx=>?_;have hk:=pE h x hx;obtain⟨e,T1,H1⟩:=x;cases e with
        | ret=>
         simp only[xX,hcl]at hk;simp only[zI];split at hk
         ·rename_i T2 H2 hrun2;exact hr.one hrun2 hck.2 ⟨rfl,iB hX hk⟩
         ·cases hk
        | panic v=>
         simp only[xX,hcl]at hk;simp only[zI];split at hk
         ·rename_i T2 H2 hrun2;exact hr.one hrun2 hck.2 ⟨rfl,iB hX hk⟩
         ·cases hk
        | normal=>cases hk
        | exit id=>cases hk
        | goto l=>cases hk
       ·cases h
      ·cases h
     ·cases h
    ·cases h
   ·cases h
  ·rename_i hd;refine Wq.seq hX.ok ?_;split at h
   ·rename_i m hm;refine hr _ _ _ _ _ hm hc.1 _ fun x hx=>?_;have hk:=pE h x hx;obtain⟨e,T1,H1⟩:=x;cases e with
    | normal=>exact Vi hX hr y T1 H1 hc.2 hk
    | ret=>exact iB hX hk
    | panic v=>cases hk
    | exit id=>cases hk
    | goto l=>cases hk
   ·cases h
 | .skip,T,H,_,h | .region ..,T,H,_,h | .cond ..,T,H,_,h | .block ..,T,H,_,h | .loop ..,T,H,_,h | .rangeFunc ..,T,H,_,h | .exit ..,T,H,_,h | .goto ..,T,H,_,h | .ret,T,H,_,h | .scope ..,T,H,_,h | .label ..,T,H,_,h | .refuse ..,T,H,_,h=>by simp[Dp]at h
theorem Gg (hX:XOk X E)(hr:tH X E rec){f:FuncId}{l:List V}{r:Res}(h:xpc X rec f l=some r):PC E.P E.g f l r:=by
 unfold xpc at h;split at h
 ·rename_i r' hr';cases h;exact hX.orc _ _ _ hr'
 ·split at h
  ·rename_i fn hf;split at h
   ·rename_i c hb;split at h
    ·exact PC.ofD hX.ok (hX.cd _ _ hf) rfl hb fun w0 im0=>Vi hX hr _ _ _ (hX.po _ _ _ hf hb) h
    refine PC.of' hX.ok (hX.cd _ _ hf) hb ?_;split at h
    ·rename_i m _ _ _ hm;refine hr _ _ _ _ _ hm (hX.po _ _ _ hf hb) _ fun x hx=>?_;have hk:=pE h x hx;obtain⟨e,T,H⟩:=x;cases e with
     | normal=>have:=iB hX hk;exact this
     | ret=>exact iB hX hk
     | panic v=>
      simp only[aIb]at hk;simp only[dV];split at hk
      ·rename_i v' hv';cases hk;rw[hv']
      ·cases hk
     | exit id=>cases hk
     | goto l=>cases hk
    ·cases h
   ·cases h
  ·cases h
theorem Tb {k:XO→Option (V×aA)}{r:V×aA}:∀{m:List XO},Ub k m=some r→∀ x∈m,k x=some r
 | [],h,x,hx=>by simp at hx
 | [y],h,x,hx=>by simp at hx;subst hx;exact h
 | y::z::l,h,x,hx=>by
  simp only[Ub]at h;split at h
  ·rename_i a ha;split at h
   ·rename_i b hb;split at h
    ·rename_i he;cases h;simp only[Bool.and_eq_true]at he;have e:r=b:=Prod.ext (V.beq_eq _ _ he.1) (oU _ _ he.2);rcases List.mem_cons.1 hx with rfl|hx
     ·exact ha
     ·rw[e];exact Tb (m:=z::l) hb x hx
    ·cases h
   ·cases h
  ·cases h
theorem tU (hX:XOk X E)(hr:tH X E rec){f:FuncId}{args T:List V}{H:aA}{dst:Option Tmp}{m:List XO}(h:tV X rec f args T H dst=some m){K:List V→aA→Prop}{Q:Ex→List V→aA→Prop}
 (hn:∀ T' H',(.normal,T',H')∈m→K T' H')(hp:∀ v T' H',(.panic v,T',H')∈m→Q (.panic v) T' H'):aZ E (FW E) f args dst T H K Q:=by
 unfold tV at h;unfold aZ;split at h
 ·cases h
 ·rename_i fn hf;rw[hX.cd _ _ hf];simp only;split at h
  ·cases h
  ·rename_i c hb;rw[hb];simp only[hX.sp,hX.cln,hX.pcm,Bool.false_eq_true,if_false];split at h
   ·rename_i s hs;rw[hs];simp only;split at h
    ·rename_i v;simp only[Ci];split at h
     ·rename_i es hes;rw[hes];simp only;split at h
      ·rename_i hc;cases h;rw[if_pos hc];exact hn _ _ (List.mem_cons_self)
      ·cases h
     ·cases h
    ·cases h
   ·rename_i hs;rw[hs];simp only;split at h
    ·rename_i hpc;rw[if_pos hpc];unfold qH;split at h
     ·rename_i l hl;rw[hl];simp only;rw[forceDL_eq]at h;split at h
      ·rename_i v hv;cases h;exact⟨_,Gg hX hr hv,hn _ _ (List.mem_cons_self)⟩
      ·rename_i v hv;cases h;exact⟨_,Gg hX hr hv,hp _ _ _ (List.mem_cons_self)⟩
      ·cases h
     ·cases h
    ·rename_i hpc;rw[if_neg hpc];split at h
     ·rename_i v H1 ho;cases h;exact .inr ⟨_,_,hX.orm _ _ _ _ _ ho,hn _ _ (List.mem_cons_self)⟩
     ·split at h
      ·rename_i T1 H1 hrun;split at h
       ·rename_i v hv;split at h
        ·rename_i hcl;cases h;simp only[Bl,Bool.and_eq_true]at hcl;refine .inr ⟨v,_,MC.of hX.ok (hX.cd _ _ hf) hb (hr.one hrun (hX.po _ _ _ hf hb) ⟨.inl rfl,by rw[hX.tb];exact hv,Nat.le_of_lt (Nat.le_of_ble_eq_true hcl.1),hcl.2.2,rfl⟩) hcl.2.1,hn _ _ (List.mem_cons_self)⟩
        ·refine .inl (hr.one hrun (hX.po _ _ _ hf hb) ?_);simp only[iW,hX.tb];cases h;rw[hv];exact hn _ _ (List.mem_cons_self)
       ·cases h
      ·rename_i T1 H1 hrun;split at h
       ·rename_i v hv;split at h
        ·rename_i hcl;cases h;simp only[Bl,Bool.and_eq_true]at hcl;refine .inr ⟨v,_,MC.of hX.ok (hX.cd _ _ hf) hb (hr.one hrun (hX.po _ _ _ hf hb) ⟨.inr rfl,by rw[hX.tb];exact hv,Nat.le_of_lt (Nat.le_of_ble_eq_true hcl.1),hcl.2.2,rfl⟩) hcl.2.1,hn _ _ (List.mem_cons_self)⟩
        ·refine .inl (hr.one hrun (hX.po _ _ _ hf hb) ?_);simp only[iW,hX.tb];cases h;rw[hv];exact hn _ _ (List.mem_cons_self)
       ·cases h
      ·rename_i v T1 H1 hrun;cases h;refine .inl (hr.one hrun (hX.po _ _ _ hf hb) ?_);exact hp _ _ _ (List.mem_cons_self)
      ·rename_i m _ _ _ hm;split at h
       ·rename_i v H2 hcut;cases h;have hall:=Tb hcut;have hlow:uW H.length v=true:=by
         cases m with
         | nil=>simp[Ub]at hcut
         | cons x m=>
          obtain⟨e,T1,H1⟩:=x;have hk:=hall _ (List.mem_cons_self);cases e<;>simp only[aEo]at hk<;>try cases hk
          all_goals
           split at hk
           ·split at hk
            ·rename_i hc;simp only[Bool.and_eq_true]at hc;cases hk;exact hc.2.1
            ·cases hk
           ·cases hk
        refine .inr ⟨v,_,MC.of hX.ok (hX.cd _ _ hf) hb (hr _ _ _ _ _ hm (hX.po _ _ _ hf hb) _ fun x hx=>?_) hlow,hn _ _ (List.mem_cons_self)⟩;have hk:=hall x hx;obtain⟨e,T1,H1⟩:=x;cases e<;>simp only[aEo]at hk<;>try cases hk
        all_goals
         split at hk
         ·rename_i v' hv;split at hk
          ·rename_i hc;simp only[Bool.and_eq_true]at hc;cases hk;exact⟨by simp,by rw[hX.tb];exact hv,Nat.le_of_ble_eq_true hc.1,hc.2.2,rfl⟩
          ·cases hk
         ·cases hk
       ·refine .inl (hr _ _ _ _ _ hm (hX.po _ _ _ hf hb) _ fun x hx=>?_);obtain⟨lx,h3,h4⟩:=wW h x hx;obtain⟨e,T1,H1⟩:=x;cases e<;>simp only[aBs]at h3<;>try cases h3
        ·simp only[iW,hX.tb];split at h3
         ·rename_i v hv;cases h3;rw[hv];exact hn _ _ (h4 _ (List.mem_cons_self))
         ·cases h3
        ·simp only[iW,hX.tb];split at h3
         ·rename_i v hv;cases h3;rw[hv];exact hn _ _ (h4 _ (List.mem_cons_self))
         ·cases h3
        ·exact hp _ _ _ (h4 _ (List.mem_cons_self))
      ·cases h
theorem tI (hX:XOk X E)(hr:tH X E rec){ops:Array Oper}{Q:Ex→List V→aA→Prop} :
 ∀(l:List Oper)(T:List V)(H:aA)(m:List XO),(∀ x∈m,Q x.1 x.2.1 x.2.2)→Hg X rec ops l T H=some m→lI E (FW E) ops Q l T H
 | [],T,H,m,hQ,h=>by simp only[Hg]at h;cases h;exact hQ _ (List.mem_cons_self)
 | o::rest,T,H,m,hQ,h=>by
  simp only[Hg]at h;simp only[lI];split at h
  ·rename_i hw;rw[hw];simp only[iZ,hX.tb];split at h
   ·rename_i v H1 ho;rw[ho];rw[rO,zN]at h;exact tI hX hr rest _ _ m hQ h
   ·rename_i f args ho;rw[ho];obtain⟨m1,h1,h2⟩:=nC h;refine tU hX hr h1 (fun T' H' hx=>?_) (fun v T' H' hx=>?_)
    ·obtain⟨lx,h3,h4⟩:=h2 _ hx;simp only[dI]at h3;exact tI hX hr rest _ _ lx (fun y hy=>hQ y (h4 y hy)) h3
    ·obtain⟨lx,h3,h4⟩:=h2 _ hx;cases h3;exact hQ _ (h4 _ (List.mem_cons_self))
   ·rename_i v ho;cases h;rw[ho];exact hQ _ (List.mem_cons_self)
   ·cases h
  ·rename_i hw;rw[hw];rw[dI]at h;exact tI hX hr rest _ _ m hQ h
  ·cases h
theorem zH:∀{l m:List Nat},aAp l m=true→∀ b∈l,b∉m
 | [],_,_,b,hb=>by simp at hb
 | x::l,m,h,b,hb=>by
  simp only[aAp,Bool.and_eq_true,Bool.not_eq_true',List.contains_eq_mem,decide_eq_false_iff_not]at h;rcases List.mem_cons.1 hb with rfl|hb
  ·exact h.1
  ·exact zH h.2 b hb
theorem vC (T:List V)(b:Bool)(o:Op)(l:List Nat):∀ x∈l,x∈Oh T b o l:=by
 intro x hx;unfold Oh;split
 ·split
  ·split
   ·exact List.mem_cons_of_mem _ hx
   ·exact hx
  ·exact hx
 ·exact hx
theorem uH (T:List V)(o:Op)(l:List Nat):∀ x∈l,x∈Zg T o l:=by
 intro x hx;unfold Zg;split
 ·split
  ·exact List.mem_cons_of_mem _ hx
  ·exact hx
 ·exact hx
theorem Ha {pin:List Nat}{b:Bool}{o:Oper}{T:List V}{lb sb:List Nat}(h1:∀ x∈Oh T b o.op lb,x∈pin)(h2:∀ x∈Zg T o.op sb,x∉pin):fL pin b o T=true:=by
 unfold fL;unfold Oh at h1;unfold Zg at h2;cases ho:o.op<;>rw[ho]at h1 h2<;>simp only at h1 h2 ⊢
 ·rename_i t p;cases b with
  | false=>rfl
  | true=>
   simp only[Bool.not_true,Bool.false_or,if_true]at h1 ⊢;unfold Hm;split
   ·rename_i k i j hk;rw[hk]at h1;simpa using h1 k (by simp)
   ·rfl
 ·rename_i t p x;unfold Mt;split
  ·rename_i k i j hk;rw[hk]at h2;simpa using h2 k (by simp)
  ·rfl
theorem pH (hX:XOk X E)(hr:tH X E rec){ops:Array Oper}{Q:Ex→List V→aA→Prop}{e:Ex}{T':List V}{H':aA}(hQ:Q e T' H') :
 ∀(l:List (Bool×Oper))(T:List V)(H:aA)(lb sb:List Nat),tT X rec ops l T H lb sb=some (e,T',H')→∃ pin,(∀ x∈lb,x∈pin)∧(∀ x∈sb,x∉pin)∧jP E (FW E) ops pin (tE Q) l T H
 | [],T,H,lb,sb,h=>by
  simp only[tT]at h;split at h
  ·rename_i hd;cases h;exact⟨lb,fun _ h=>h,zH hd,hQ⟩
  ·cases h
 | (b,o)::rest,T,H,lb,sb,h=>by
  simp only[tT]at h;split at h
  ·rename_i hw;split at h
   ·rename_i v H1 ho;rw[rO,zN]at h;obtain⟨pin,h1,h2,h3⟩:=pH hX hr hQ rest _ _ _ _ h;refine⟨pin,fun x hx=>h1 x (vC _ _ _ _ x hx),fun x hx=>h2 x (uH _ _ _ x hx),?_⟩;simp only[jP,hw];refine⟨Ha h1 h2,?_⟩;simp only[iZ,hX.tb,ho];exact h3
   ·rename_i f args ho;split at h
    ·rename_i T1 H1 hc;rw[dI,dI]at h;obtain⟨pin,h1,h2,h3⟩:=pH hX hr hQ rest _ _ _ _ h;refine⟨pin,fun x hx=>h1 x (vC _ _ _ _ x hx),fun x hx=>h2 x (uH _ _ _ x hx),?_⟩;simp only[jP,hw];refine⟨Ha h1 h2,?_⟩;simp only[iZ,hX.tb,ho];exact tU hX hr hc (fun T' H' hx=>by simp at hx;obtain⟨rfl,rfl⟩:=hx;exact h3) (fun v T' H' hx=>by simp at hx)
    ·cases h
   ·cases h
  ·rename_i hw;rw[dI]at h;obtain⟨pin,h1,h2,h3⟩:=pH hX hr hQ rest _ _ _ _ h;refine⟨pin,fun x hx=>h1 x (vC _ _ _ _ x hx),fun x hx=>h2 x (uH _ _ _ x hx),?_⟩;simp only[jP,hw];exact⟨Ha h1 h2,h3⟩
  ·cases h
theorem Dg (hX:XOk X E)(hr:tH X E rec){Q:Ex→List V→aA→Prop}{l:List Oper}{pl:List Nat}{P:List PK}{i:Nat}{T T1:List V}{H H1:aA}(h:xst X rec l pl P i T H=some (T1,H1)){K:List V→aA→Prop}(hK:K T1 H1) :
 yD E (FW E) l (fun H=>∀ k∈P,k.ok X.tb H) Q K (pl.contains i) (nk pl i) (fT l i) T H:=by
 have hS:isS E (fT l i)=sOp X (fT l i):=by simp only[isS,sOp,hX.sp,hX.pcm,hX.cln,hX.tb]
 have eff:∀{T':List V}{H':aA},Ud X (nk pl i) (fT l i) P H'=true→K T' H'→tG (isS E (fT l i) && nk pl i) (fun H=>∀ k∈P,k.ok X.tb H) K T' H':=by
  intro T' H' h1 h2;refine⟨fun hc=>?_,h2⟩;rw[hS]at hc;unfold Ud at h1;rw[hc]at h1;exact uS h1
 unfold xst at h;simp only at h;unfold yD;split at h
 ·rename_i hw;rw[hw];simp only[hX.tb];split at h
  ·rename_i hpin;refine⟨fun hb _=>?_,?_⟩
   ·unfold aIt at hpin;rw[hb]at hpin;simp only at hpin;split at hpin
    ·rename_i k hk;simp only[Bool.and_eq_true]at hpin;have hmem:=Tc hpin.1;have hok:k.ok X.tb H:=uS hpin.2 k (by simp);unfold Py at hk;split at hk
     ·rename_i t p ho;split at hk
      ·rename_i v hv;cases hk;rw[ho];refine⟨v,?_,fun H' hJ=>?_⟩
       ·simp only[bQ,hv,FO.of]
       ·have:=hJ _ hmem;simp only[PK.ok]at this;simp only[bQ,this,FO.of]
      ·cases hk
     ·rename_i t a b ho;split at hk
      ·rename_i v H' hv;cases hk;rw[ho];exact⟨v,hok,fun H' hJ=>hJ _ hmem⟩
      ·cases hk
     ·cases hk
    ·cases hpin
   ·split at h
    ·rename_i v H' ho;split at h
     ·rename_i hc;rw[rO,zN]at h;cases h;simp only[iZ,hX.tb,ho];exact eff hc hK
     ·cases h
    ·rename_i f args ho;split at h
     ·rename_i T' H' hcall;split at h
      ·rename_i hc;rw[dI,dI]at h;cases h;simp only[iZ,hX.tb,ho];exact tU hX hr hcall (fun T' H' hx=>by simp at hx;obtain⟨rfl,rfl⟩:=hx;exact eff hc hK) (fun v T' H' hx=>by simp at hx)
      ·cases h
     ·cases h
    ·cases h
  ·cases h
 ·rename_i hw;rw[hw];refine⟨fun _ hw'=>(by rw[hw]at hw';cases hw'),?_⟩;split at h
  ·rename_i hc;rw[dI]at h;cases h;exact eff hc hK
  ·cases h
 ·cases h
theorem Bp {a b:XO}(h:Cp a b=true):a=b:=by
 obtain⟨e,T,H⟩:=a;obtain⟨e',T',H'⟩:=b;cases e<;>cases e'<;>simp[Cp]at h;rw[V.beqL_eq _ _ h.1,oU _ _ h.2]
theorem Sb {x:XO}:∀{l:List XO},Ap x l=true→x∈l
 | [],h=>by simp[Ap]at h
 | y::l,h=>by
  simp only[Ap,Bool.or_eq_true]at h;rcases h with h|h
  ·rw[Bp h];exact List.mem_cons_self
  ·exact List.mem_cons_of_mem _ (Sb h)
theorem zM:∀{l m:List XO},∀ x∈m,x∈Cg l m
 | [],m,x,hx=>hx
 | y::l,m,x,hx=>by
  simp only[Cg];split
  ·exact zM x hx
  ·exact List.mem_cons_of_mem _ (zM x hx)
theorem Bg:∀{l m:List XO},∀ x∈l,x∈Cg l m
 | [],m,x,hx=>by simp at hx
 | y::l,m,x,hx=>by
  simp only[Cg];split
  ·rename_i hin;rcases List.mem_cons.1 hx with rfl|hx
   ·exact zM _ (Sb hin)
   ·exact Bg x hx
  ·rcases List.mem_cons.1 hx with rfl|hx
   ·exact List.mem_cons_self
   ·exact List.mem_cons_of_mem _ (Bg x hx)
theorem pG (hX:XOk X E)(hr:tH X E rec){Q:Ex→List V→aA→Prop}{l:List Oper}{pl:List Nat}{P:List PK} :
 ∀(t:OT)(T:List V)(H:aA)(m:List XO),(∀ x∈m,Q x.1 x.2.1 x.2.2)→rW X rec l pl P t T H=some m→vX E (FW E) l pl (fun H=>∀ k∈P,k.ok X.tb H) (tE Q) t T H
 | .nil,T,H,m,hQ,h=>by simp only[rW]at h;cases h;exact hQ _ (List.mem_cons_self)
 | .one i t,T,H,m,hQ,h=>by
  simp only[rW]at h;split at h
  ·rename_i T1 H1 h1;exact Dg hX hr h1 (pG hX hr t _ _ m hQ h)
  ·cases h
 | .two i t j u,T,H,m,hQ,h=>by
  simp only[rW]at h;split at h
  ·rename_i T1 H1 h1;split at h
   ·rename_i m1 h2;split at h
    ·rename_i T3 H3 h3;split at h
     ·rename_i m2 h4;cases h;exact⟨Dg hX hr h1 (pG hX hr t _ _ m1 (fun x hx=>hQ x (Bg x hx)) h2),Dg hX hr h3 (pG hX hr u _ _ m2 (fun x hx=>hQ x (zM x hx)) h4)⟩
     ·cases h
    ·cases h
   ·cases h
  ·cases h
theorem aEn (hr:tH X E rec){f:FuncId}{c:Code}(hc:jX X f c=true){Q:Ex→List V→aA→Prop}{n:Nat}{T:List V}{H:aA}{m:List XO}(hQ:∀ x∈m,Q x.1 x.2.1 x.2.2)(h:xlp rec f c n T H=some m):FW E (.loop c) Q T H:=by
 refine cB (fun n T H=>∃ m,xlp rec f c n T H=some m∧∀ x∈m,Q x.1 x.2.1 x.2.2) ⟨m,h,hQ⟩ ?_;rintro n T H ⟨m,h,hQ⟩;cases n with
 | zero=>simp[xlp]at h
 | succ n=>
  simp only[xlp]at h;obtain⟨m1,h1,h2⟩:=nC h;refine hr _ _ _ _ _ h1 hc _ fun x hx=>?_;obtain⟨lx,h3,h4⟩:=h2 x hx;obtain⟨e,T1,H1⟩:=x;cases e with
  | normal=>exact⟨n,Nat.lt_succ_self n,lx,h3,fun y hy=>hQ y (h4 y hy)⟩
  | _=>cases h3;exact hQ _ (h4 _ (List.mem_cons_self))
theorem wQ {f:FuncId}:∀{c d:Code}{l:Nat},findLabel c l=some d→jX X f c=true→jX X f d=true
 | .seq a b,d,l,h,hc=>by
  simp only[jX,Bool.and_eq_true]at hc;simp only[findLabel]at h;split at h
  ·rename_i r hr;cases h;simp only[jX,Bool.and_eq_true];exact⟨wQ hr hc.1,hc.2⟩
  ·exact wQ h hc.2
 | .label l',d,l,h,hc=>by
  simp only[findLabel]at h;split at h
  ·cases h;rfl
  ·cases h
 | .skip,d,l,h,hc=>by simp[findLabel]at h
 | .region ..,d,l,h,hc=>by simp[findLabel]at h
 | .cond ..,d,l,h,hc=>by simp[findLabel]at h
 | .block ..,d,l,h,hc=>by simp[findLabel]at h
 | .loop ..,d,l,h,hc=>by simp[findLabel]at h
 | .rangeFunc ..,d,l,h,hc=>by simp[findLabel]at h
 | .exit ..,d,l,h,hc=>by simp[findLabel]at h
 | .goto ..,d,l,h,hc=>by simp[findLabel]at h
 | .ret,d,l,h,hc=>by simp[findLabel]at h
 | .scope ..,d,l,h,hc=>by simp[findLabel]at h
 | .refuse ..,d,l,h,hc=>by simp[findLabel]at h
theorem aEm (hr:tH X E rec){f:FuncId}{c:Code}(hc:jX X f c=true){Q:Ex→List V→aA→Prop}{n:Nat}{T:List V}{H:aA}{m:List XO}(hQ:∀ x∈m,Q x.1 x.2.1 x.2.2)(h:Rx rec f c n (rec f c T H)=some m):FW E (.scope c) Q T H:=by
 have step:∀(n:Nat)(d:Code)(T:List V)(H:aA),jX X f d=true→(∃ m,Rx rec f c (n+1) (rec f d T H)=some m∧∀ x∈m,Q x.1 x.2.1 x.2.2)→
  FW E d (fun e1 T1 H1=>match e1 with | .goto l=>(∃ r,findLabel c l=some r)∧(∃ r,findLabel c l=some r∧∃ m,Rx rec f c n (rec f r T1 H1)=some m∧∀ x∈m,Q x.1 x.2.1 x.2.2)|e2=>Q e2 T1 H1) T H:=by
  rintro n d T H hd ⟨m,h,hQ⟩;simp only[Rx]at h;obtain⟨m1,h1,h2⟩:=nC h;refine hr _ _ _ _ _ h1 hd _ fun x hx=>?_;obtain⟨lx,h3,h4⟩:=h2 x hx;obtain⟨e,T1,H1⟩:=x;cases e with
  | goto l=>
   simp only at h3;split at h3
   ·rename_i d' hd';exact⟨⟨_,hd'⟩,d',hd',lx,h3,fun y hy=>hQ y (h4 y hy)⟩
   ·cases h3
  | normal=>cases h3;exact hQ _ (h4 _ (List.mem_cons_self))
  | exit id=>cases h3;exact hQ _ (h4 _ (List.mem_cons_self))
  | ret=>cases h3;exact hQ _ (h4 _ (List.mem_cons_self))
  | panic v=>cases h3;exact hQ _ (h4 _ (List.mem_cons_self))
 cases n with
 | zero=>simp[Rx]at h
 | succ n=>
  refine FW.scope (fun n l T H=>∃ r,findLabel c l=some r∧∃ m,Rx rec f c n (rec f r T H)=some m∧∀ x∈m,Q x.1 x.2.1 x.2.2) (.inr ⟨n,?_⟩) ?_
  ·refine FW.mono (step n c T H hc ⟨m,h,hQ⟩) ?_;intro e1 T1 H1 h1;cases e1 with
   | _=>exact h1
  ·rintro n l r T H hf ⟨r',hf',m,h,hQ⟩;rw[hf]at hf';cases hf';cases n with
   | zero=>simp[Rx]at h
   | succ n=>
    refine FW.mono (step n r T H (wQ hf hc) ⟨m,h,hQ⟩) ?_;intro e1 T1 H1 h1;cases e1 with
    | goto l=>exact⟨h1.1,n,Nat.lt_succ_self n,h1.2⟩
    | _=>exact h1
theorem Vy {r:Option XO}{m:List XO}(h:aFo r=some m):∃ x,r=some x∧m=[x]:=by
 unfold aFo at h;split at h
 ·cases h;exact⟨_,rfl,rfl⟩
 ·cases h
theorem pF (hX:XOk X E):∀ n,tH X E (oK X n)
 | 0,f,c,T,H,m,h,_,Q,_=>by simp[oK]at h
 | n+1,f,c,T,H,m,h,hc,Q,hQ=>by
  have hr:=pF hX n;simp only[oK]at h;cases c with
  | skip=>simp only[jE]at h;cases h;exact aH (hQ _ (List.mem_cons_self))
  | label l=>simp only[jE]at h;cases h;exact FW.label (hQ _ (List.mem_cons_self))
  | exit id=>simp only[jE]at h;cases h;exact bZ (hQ _ (List.mem_cons_self))
  | goto l=>simp only[jE]at h;cases h;exact nY (hQ _ (List.mem_cons_self))
  | ret=>simp only[jE]at h;cases h;exact aC (hQ _ (List.mem_cons_self))
  | region id ops d=>
   obtain⟨l⟩:=ops;cases d with
   | false=>
    simp only[jE]at h;exact FW.region hX.ok (tI hX hr _ _ _ _ hQ h)
   | true=>
    simp only[jE]at h;simp only[jX]at hc;split at h
    ·rename_i p pl hp;rw[hp]at hc;simp only at hc;obtain⟨⟨e,T',H'⟩,h1,rfl⟩:=Vy h;obtain⟨pin,-,-,h3⟩:=pH hX hr (hQ _ (List.mem_cons_self)) _ _ _ _ _ h1;refine FW.drawnP hX.ok p pl pin ?_ h3;rw[hX.sp,hX.pcm,hX.cln,hX.tb];exact hc
    ·rename_i hp;rw[hp]at hc;simp only at hc;split at h
     ·rename_i t pl ht;rw[ht]at hc;simp only at hc;refine FW.drawnN hX.ok _ t pl ?_ (pG hX hr _ _ _ _ hQ h);rw[hX.sp,hX.pcm,hX.cln,hX.tb];exact hc
     ·cases h
  | seq a b=>
   simp only[jX,Bool.and_eq_true]at hc;simp only[jE]at h;obtain⟨m1,h1,h2⟩:=nC h;refine FW.seq (hr _ _ _ _ _ h1 hc.1 _ fun x hx=>?_);obtain⟨lx,h3,h4⟩:=h2 x hx;obtain⟨e,T1,H1⟩:=x;cases e with
   | normal=>exact hr _ _ _ _ _ h3 hc.2 _ fun y hy=>hQ y (h4 y hy)
   | _=>cases h3;exact hQ _ (h4 _ (List.mem_cons_self))
  | cond x p q=>
   simp only[jX,Bool.and_eq_true]at hc;simp only[jE]at h;split at h
   ·rename_i hx;exact FW.cond hx (hr _ _ _ _ _ h hc.1 _ hQ)
   ·rename_i hx;exact FW.cond hx (hr _ _ _ _ _ h hc.2 _ hQ)
   ·cases h
  | block id c=>
   simp only[jX]at hc;simp only[jE]at h;obtain⟨m1,h1,h2⟩:=nC h;refine aT (hr _ _ _ _ _ h1 hc _ fun x hx=>?_);obtain⟨lx,h3,h4⟩:=h2 x hx;obtain⟨e,T1,H1⟩:=x;cases e with
   | exit id'=>
    simp only[nB];simp only at h3;split at h3
    ·rename_i he;cases h3;rw[if_pos he];exact hQ _ (h4 _ (List.mem_cons_self))
    ·rename_i he;cases h3;rw[if_neg he];exact hQ _ (h4 _ (List.mem_cons_self))
   | normal=>cases h3;exact hQ _ (h4 _ (List.mem_cons_self))
   | goto l=>cases h3;exact hQ _ (h4 _ (List.mem_cons_self))
   | ret=>cases h3;exact hQ _ (h4 _ (List.mem_cons_self))
   | panic v=>cases h3;exact hQ _ (h4 _ (List.mem_cons_self))
  | loop c=>simp only[jX]at hc;simp only[jE]at h;exact aEn hr hc hQ h
  | scope c=>simp only[jX]at hc;simp only[jE]at h;exact aEm hr hc hQ h
  | rangeFunc f p a b=>simp only[jE]at h;cases h
  | refuse _=>simp only[jE]at h;cases h
theorem Hl (hX:XOk X E)(n:Nat){f:FuncId}{l:List V}{r:Res}(h:xpc X (oK X n) f l=some r):PC E.P E.g f l r:=Gg hX (pF hX n) h
end
section
open Go.Proofs.Tryz
open Go Go.RowKit Go.Proofs
inductive BT (α:Type) where
 | nil
 | node (k:Nat) (v:α) (l r:BT α)
def BT.get {α:Type}:BT α→Nat→Option α
 | .nil,_=>none
 | .node k v l r,n=>bif Nat.blt n k then l.get n else bif Nat.blt k n then r.get n else some v
def BT.AllP {α:Type}(p:Nat→α→Prop):BT α→Prop
 | .nil=>True
 | .node k v l r=>p k v∧l.AllP p∧r.AllP p
def BT.all {α:Type}(p:Nat→α→Bool):BT α→Bool
 | .nil=>true
 | .node k v l r=>p k v && (l.all p && r.all p)
theorem BT.get_AllP {α:Type}{p:Nat→α→Prop}:∀{t:BT α},t.AllP p→∀ n v,t.get n=some v→p n v
 | .nil,_,n,v,h=>by simp[BT.get]at h
 | .node k u l r,ha,n,v,h=>by
  obtain⟨h1,h2,h3⟩:=ha;simp only[BT.get]at h;cases hb:Nat.blt n k with
  | true=>rw[hb]at h;exact BT.get_AllP h2 n v h
  | false=>
   rw[hb]at h;cases hc:Nat.blt k n with
   | true=>rw[hc]at h;exact BT.get_AllP h3 n v h
   | false=>
    rw[hc]at h;have:n=k:=by
     have a:¬n < k:=fun q=>by rw[(show Nat.blt _ _=true from Nat.ble_eq.mpr q)]at hb;cases hb
     have b:¬k < n:=fun q=>by rw[(show Nat.blt _ _=true from Nat.ble_eq.mpr q)]at hc;cases hc
     omega
    subst this;cases h;exact h1
def zS:BT TI:=(.node 156 ⟨.struct [(0,3),(1,3),(2,3),(3,154)],4,48,.agg [.int .i64 0,.int .i64 0,.int .i64 0,.nils],false⟩ (.node 77 ⟨.struct [(0,27),(1,3)],2,32,.agg [.nils,.int .i64 0],false⟩ (.node 32 ⟨.slice 3,1,24,.nils,false⟩ (.node 24 ⟨.struct [(0,3),(1,3),(2,3)],3,24,.agg [.int .i64 0,.int .i64 0,.int .i64 0],true⟩ (.node 9 ⟨.str,1,16,.str [],false⟩ (.node 4 ⟨.bool,1,1,.bool false,false⟩ (.node 3 ⟨.int .i64,1,8,.int .i64 0,false⟩ .nil .nil) (.node 5 ⟨.int .u8,1,1,.int .u8 0,false⟩ .nil .nil)) (.node 22 ⟨.slice 40,1,24,.nils,false⟩ (.node 20 ⟨.iface false,1,16,.nili,false⟩ .nil .nil) .nil)) (.node 28 ⟨.arr 3 3,3,24,.agg [.int .i64 0,.int .i64 0,.int .i64 0],false⟩ (.node 27 ⟨.slice 60,1,24,.nils,false⟩ (.node 26 ⟨.struct [(0,9),(1,22),(2,3),(3,3),(4,24)],7,80,.agg [.str [],.nils,.int .i64 0,.int .i64 0,.int .i64 0,.int .i64 0,.int .i64 0],false⟩ .nil .nil) .nil) (.node 31 ⟨.slice 100,1,24,.nils,false⟩ (.node 30 ⟨.slice 156,1,24,.nils,false⟩ .nil .nil) .nil))) (.node 43 ⟨.int .i64,1,8,.int .i64 0,false⟩ (.node 38 ⟨.struct [(0,3),(1,3)],2,16,.agg [.int .i64 0,.int .i64 0],true⟩ (.node 35 ⟨.slice 69,1,24,.nils,false⟩ (.node 34 ⟨.struct [(0,31),(1,32),(2,3)],3,56,.agg [.nils,.nils,.int .i64 0],false⟩ .nil .nil) (.node 36 ⟨.slice 38,1,24,.nils,false⟩ .nil .nil)) (.node 42 ⟨.struct [(0,3),(1,40)],3,24,.agg [.int .i64 0,.int .i64 0,.int .i64 0],true⟩ (.node 40 ⟨.struct [(0,3),(1,3)],2,16,.agg [.int .i64 0,.int .i64 0],true⟩ .nil .nil) .nil)) (.node 55 ⟨.slice 5,1,24,.nils,false⟩ (.node 53 ⟨.slice 9,1,24,.nils,false⟩ (.node 45 ⟨.struct [(0,30),(1,24),(4,34),(7,35),(8,36),(9,38),(11,3),(12,3),(13,42),(16,43),(17,3),(18,3)],19,232,.agg [.nils,.int .i64 0,.int .i64 0,.int .i64 0,.nils,.nils,.int .i64 0,.nils,.nils,.int .i64 0,.int .i64 0,.int .i64 0,.int .i64 0,.int .i64 0,.int .i64 0,.int .i64 0,.int .i64 0,.int .i64 0,.int .i64 0],false⟩ .nil .nil) .nil) (.node 69 ⟨.struct [(0,36),(1,3),(2,3),(3,3)],4,48,.agg [.nils,.int .i64 0,.int .i64 0,.int .i64 0],false⟩ (.node 60 ⟨.struct [(0,3),(1,3),(2,4)],3,24,.agg [.int .i64 0,.int .i64 0,.bool false],false⟩ .nil .nil) .nil)))) (.node 113 ⟨.struct [(0,45),(19,111),(22,28)],25,304,.agg [.nils,.int .i64 0,.int .i64 0,.int .i64 0,.nils,.nils,.int .i64 0,.nils,.nils,.int .i64 0,.int .i64 0,.int .i64 0,.int .i64 0,.int .i64 0,.int .i64 0,.int .i64 0,.int .i64 0,.int .i64 0,.int .i64 0,.str [],.str [],.str [],.int .i64 0,.int .i64 0,.int .i64 0],false⟩ (.node 96 ⟨.slice 216,1,24,.nils,false⟩ (.node 88 ⟨.struct [(0,86),(1,55)],2,32,.agg [.nilp,.nils],false⟩ (.node 83 ⟨.iface true,1,16,.nili,false⟩ (.node 81 ⟨.ptr,1,8,.nilp,false⟩ .nil .nil) (.node 86 ⟨.ptr,1,8,.nilp,false⟩ .nil .nil)) (.node 95 ⟨.func,1,8,.nilf,false⟩ (.node 90 ⟨.struct [(0,88)],2,32,.agg [.nilp,.nils],false⟩ .nil .nil) .nil)) (.node 105 ⟨.struct [(0,3),(1,43)],2,16,.agg [.int .i64 0,.int .i64 0],false⟩ (.node 100 ⟨.struct [(0,3),(1,4),(2,98)],18,192,.agg [.int .i64 0,.bool false,.int .i64 0,.int .i64 0,.nils,.nils,.nils,.int .i64 0,.int .i64 0,.int .i64 0,.int .i64 0,.int .i64 0,.int .i64 0,.int .i64 0,.int .i64 0,.int .i64 0,.int .i64 0,.int .i64 0],false⟩ (.node 98 ⟨.struct [(0,3),(1,3),(2,22),(3,22),(4,96),(5,3),(6,3),(7,3),(8,3),(9,3),(10,42),(13,38),(15,3)],16,176,.agg [.int .i64 0,.int .i64 0,.nils,.nils,.nils,.int .i64 0,.int .i64 0,.int .i64 0,.int .i64 0,.int .i64 0,.int .i64 0,.int .i64 0,.int .i64 0,.int .i64 0,.int .i64 0,.int .i64 0],false⟩ .nil .nil) .nil) (.node 111 ⟨.arr 3 9,3,48,.agg [.str [],.str [],.str []],false⟩ (.node 110 ⟨.ptr,1,8,.nilp,false⟩ .nil .nil) .nil))) (.node 137 ⟨.map 38 38,1,8,.nilm,false⟩ (.node 128 ⟨.struct [(0,30),(1,126)],2,48,.agg [.nils,.nils],false⟩ (.node 126 ⟨.slice 32,1,24,.nils,false⟩ (.node 123 ⟨.struct [(0,45)],19,232,.agg [.nils,.int .i64 0,.int .i64 0,.int .i64 0,.nils,.nils,.int .i64 0,.nils,.nils,.int .i64 0,.int .i64 0,.int .i64 0,.int .i64 0,.int .i64 0,.int .i64 0,.int .i64 0,.int .i64 0,.int .i64 0,.int .i64 0],false⟩ .nil .nil) .nil) (.node 133 ⟨.func,1,8,.nilf,false⟩ (.node 132 ⟨.struct [(0,45),(19,128)],21,280,.agg [.nils,.int .i64 0,.int .i64 0,.int .i64 0,.nils,.nils,.int .i64 0,.nils,.nils,.int .i64 0,.int .i64 0,.int .i64 0,.int .i64 0,.int .i64 0,.int .i64 0,.int .i64 0,.int .i64 0,.int .i64 0,.int .i64 0,.nils,.nils],false⟩ .nil .nil) .nil)) (.node 146 ⟨.struct [(0,69)],4,48,.agg [.nils,.int .i64 0,.int .i64 0,.int .i64 0],false⟩ (.node 144 ⟨.func,1,8,.nilf,false⟩ (.node 139 ⟨.struct [(0,45),(19,137)],20,240,.agg [.nils,.int .i64 0,.int .i64 0,.int .i64 0,.nils,.nils,.int .i64 0,.nils,.nils,.int .i64 0,.int .i64 0,.int .i64 0,.int .i64 0,.int .i64 0,.int .i64 0,.int .i64 0,.int .i64 0,.int .i64 0,.int .i64 0,.nilm],false⟩ .nil .nil) .nil) (.node 154 ⟨.slice 210,1,24,.nils,false⟩ (.node 149 ⟨.struct [(0,30)],1,24,.agg [.nils],false⟩ .nil .nil) .nil))))) (.node 248 ⟨.func,1,8,.nilf,false⟩ (.node 198 ⟨.struct [(0,3),(1,9)],2,24,.agg [.int .i64 0,.str []],false⟩ (.node 178 ⟨.func,1,8,.nilf,false⟩ (.node 173 ⟨.struct [(0,45),(19,60)],22,256,.agg [.nils,.int .i64 0,.int .i64 0,.int .i64 0,.nils,.nils,.int .i64 0,.nils,.nils,.int .i64 0,.int .i64 0,.int .i64 0,.int .i64 0,.int .i64 0,.int .i64 0,.int .i64 0,.int .i64 0,.int .i64 0,.int .i64 0,.int .i64 0,.int .i64 0,.bool false],false⟩ (.node 169 ⟨.func,1,8,.nilf,false⟩ (.node 166 ⟨.slice 77,1,24,.nils,false⟩ .nil .nil) (.node 171 ⟨.ptr,1,8,.nilp,false⟩ .nil .nil)) (.node 176 ⟨.struct [(0,43)],1,8,.agg [.int .i64 0],false⟩ (.node 174 ⟨.func,1,8,.nilf,false⟩ .nil .nil) .nil)) (.node 190 ⟨.slice 4,1,24,.nils,false⟩ (.node 187 ⟨.ptr,1,8,.nilp,false⟩ (.node 183 ⟨.arr 4 5,4,4,.agg [.int .u8 0,.int .u8 0,.int .u8 0,.int .u8 0],false⟩ .nil .nil) .nil) (.node 194 ⟨.slice 198,1,24,.nils,false⟩ (.node 192 ⟨.struct [(0,30),(1,156),(5,32),(6,190),(7,3)],8,128,.agg [.nils,.int .i64 0,.int .i64 0,.int .i64 0,.nils,.nils,.nils,.int .i64 0],false⟩ .nil .nil) .nil))) (.node 216 ⟨.struct [(0,3),(1,38),(3,42)],6,48,.agg [.int .i64 0,.int .i64 0,.int .i64 0,.int .i64 0,.int .i64 0,.int .i64 0],true⟩ (.node 206 ⟨.func,1,8,.nilf,false⟩ (.node 201 ⟨.struct [(0,199),(1,3)],2,16,.agg [.nilp,.int .i64 0],false⟩ (.node 199 ⟨.ptr,1,8,.nilp,false⟩ .nil .nil) .nil) (.node 213 ⟨.slice 20,1,24,.nils,false⟩ (.node 210 ⟨.struct [(0,3),(1,3),(2,3)],3,24,.agg [.int .i64 0,.int .i64 0,.int .i64 0],true⟩ .nil .nil) .nil)) (.node 231 ⟨.func,1,8,.nilf,false⟩ (.node 227 ⟨.func,1,8,.nilf,false⟩ (.node 223 ⟨.func,1,8,.nilf,false⟩ .nil .nil) .nil) (.node 240 ⟨.ptr,1,8,.nilp,false⟩ (.node 239 ⟨.func,1,8,.nilf,false⟩ .nil .nil) .nil)))) (.node 308 ⟨.func,1,8,.nilf,false⟩ (.node 281 ⟨.func,1,8,.nilf,false⟩ (.node 265 ⟨.ptr,1,8,.nilp,false⟩ (.node 253 ⟨.func,1,8,.nilf,false⟩ (.node 252 ⟨.ptr,1,8,.nilp,false⟩ .nil .nil) (.node 260 ⟨.struct [(0,3),(1,3),(2,3),(3,3),(4,22)],5,56,.agg [.int .i64 0,.int .i64 0,.int .i64 0,.int .i64 0,.nils],false⟩ .nil .nil)) (.node 278 ⟨.func,1,8,.nilf,false⟩ (.node 270 ⟨.int .u64,1,8,.int .u64 0,false⟩ .nil .nil) .nil)) (.node 303 ⟨.struct [(0,9),(1,3),(2,3),(3,3)],4,40,.agg [.str [],.int .i64 0,.int .i64 0,.int .i64 0],false⟩ (.node 297 ⟨.struct [(0,3),(1,3)],2,16,.agg [.int .i64 0,.int .i64 0],false⟩ (.node 287 ⟨.func,1,8,.nilf,false⟩ .nil .nil) .nil) (.node 307 ⟨.slice 303,1,24,.nils,false⟩ (.node 304 ⟨.arr 17 303,68,680,.agg [.str [],.int .i64 0,.int .i64 0,.int .i64 0,.str [],.int .i64 0,.int .i64 0,.int .i64 0,.str [],.int .i64 0,.int .i64 0,.int .i64 0,.str [],.int .i64 0,.int .i64 0,.int .i64 0,.str [],.int .i64 0,.int .i64 0,.int .i64 0,.str [],.int .i64 0,.int .i64 0,.int .i64 0,.str [],.int .i64 0,.int .i64 0,.int .i64 0,.str [],.int .i64 0,.int .i64 0,.int .i64 0,.str [],.int .i64 0,.int .i64 0,.int .i64 0,.str [],.int .i64 0,.int .i64 0,.int .i64 0,.str [],.int .i64 0,.int .i64 0,.int .i64 0,.str [],.int .i64 0,.int .i64 0,.int .i64 0,.str [],.int .i64 0,.int .i64 0,.int .i64 0,.str [],.int .i64 0,.int .i64 0,.int .i64 0,.str [],.int .i64 0,.int .i64 0,.int .i64 0,.str [],.int .i64 0,.int .i64 0,.int .i64 0,.str [],.int .i64 0,.int .i64 0,.int .i64 0],false⟩ .nil .nil) .nil))) (.node 340 ⟨.struct [(0,3),(1,43)],2,16,.agg [.int .i64 0,.int .i64 0],false⟩ (.node 316 ⟨.ptr,1,8,.nilp,false⟩ (.node 313 ⟨.struct [(0,45)],19,232,.agg [.nils,.int .i64 0,.int .i64 0,.int .i64 0,.nils,.nils,.int .i64 0,.nils,.nils,.int .i64 0,.int .i64 0,.int .i64 0,.int .i64 0,.int .i64 0,.int .i64 0,.int .i64 0,.int .i64 0,.int .i64 0,.int .i64 0],false⟩ (.node 312 ⟨.ptr,1,8,.nilp,false⟩ .nil .nil) .nil) (.node 330 ⟨.int .u32,1,4,.int .u32 0,false⟩ (.node 319 ⟨.struct [(0,98),(16,30),(17,210),(20,260)],25,280,.agg [.int .i64 0,.int .i64 0,.nils,.nils,.nils,.int .i64 0,.int .i64 0,.int .i64 0,.int .i64 0,.int .i64 0,.int .i64 0,.int .i64 0,.int .i64 0,.int .i64 0,.int .i64 0,.int .i64 0,.nils,.int .i64 0,.int .i64 0,.int .i64 0,.int .i64 0,.int .i64 0,.int .i64 0,.int .i64 0,.nils],false⟩ .nil .nil) .nil)) (.node 372 ⟨.ptr,1,8,.nilp,false⟩ (.node 348 ⟨.slice 22,1,24,.nils,false⟩ (.node 342 ⟨.struct [(0,340),(2,9)],3,32,.agg [.int .i64 0,.int .i64 0,.str []],false⟩ .nil .nil) .nil) (.node 410 ⟨.flt .f64,1,8,.flt 0,false⟩ (.node 373 ⟨.func,1,8,.nilf,false⟩ .nil .nil) .nil))))))
def Wx (t:TypeId):TI:=match zS.get t with|some i=>i|none=>⟨.other,0,0,.any,false⟩
theorem Nl:zS.AllP fun t i=>tab t=i:=⟨Qr,⟨aCc,⟨aCl,⟨Sq,⟨aId,⟨aIf,⟨aIg,trivial,trivial⟩,⟨aIe,trivial,trivial⟩⟩,⟨aCr,⟨aCs,trivial,trivial⟩,trivial⟩⟩,⟨aCo,⟨aCp,⟨aCq,trivial,trivial⟩,trivial⟩,⟨aCm,⟨aCn,trivial,trivial⟩,trivial⟩⟩⟩,⟨aCi,⟨Pp,⟨Sp,⟨aCk,trivial,trivial⟩,⟨aCj,trivial,trivial⟩⟩,⟨Lp,⟨Np,trivial,trivial⟩,trivial⟩⟩,⟨aCf,⟨aCg,⟨aCh,trivial,trivial⟩,trivial⟩,⟨aCd,⟨aCe,trivial,trivial⟩,trivial⟩⟩⟩⟩,⟨As,⟨aBv,⟨aBy,⟨aCa,⟨aCb,trivial,trivial⟩,⟨aBz,trivial,trivial⟩⟩,⟨aBw,⟨aBx,trivial,trivial⟩,trivial⟩⟩,⟨Es,⟨Fs,⟨aBu,trivial,trivial⟩,trivial⟩,⟨Cs,⟨Ds,trivial,trivial⟩,trivial⟩⟩⟩,⟨aEs,⟨Xr,⟨Yr,⟨Zr,trivial,trivial⟩,trivial⟩,⟨Vr,⟨Wr,trivial,trivial⟩,trivial⟩⟩,⟨Tr,⟨Ur,⟨aEr,trivial,trivial⟩,trivial⟩,⟨Rr,⟨Sr,trivial,trivial⟩,trivial⟩⟩⟩⟩⟩,⟨Qq,⟨Dr,⟨Jr,⟨Lr,⟨Nr,⟨Pr,trivial,trivial⟩,⟨Mr,trivial,trivial⟩⟩,⟨Pg,⟨Kr,trivial,trivial⟩,trivial⟩⟩,⟨Gr,⟨Hr,⟨Ir,trivial,trivial⟩,trivial⟩,⟨Er,⟨Fr,trivial,trivial⟩,trivial⟩⟩⟩,⟨Ng,⟨Zq,⟨Ar,⟨Cr,trivial,trivial⟩,trivial⟩,⟨Yq,⟨Og,trivial,trivial⟩,trivial⟩⟩,⟨Uq,⟨Vq,⟨Xq,trivial,trivial⟩,trivial⟩,⟨Rq,⟨Tq,trivial,trivial⟩,trivial⟩⟩⟩⟩,⟨Cq,⟨Jq,⟨Mq,⟨Oq,⟨Pq,trivial,trivial⟩,⟨Nq,trivial,trivial⟩⟩,⟨Kq,⟨Lq,trivial,trivial⟩,trivial⟩⟩,⟨Gq,⟨Hq,⟨Iq,trivial,trivial⟩,trivial⟩,⟨Dq,⟨Fq,trivial,trivial⟩,trivial⟩⟩⟩,⟨Vp,⟨Yp,⟨Zp,⟨Aq,trivial,trivial⟩,trivial⟩,⟨Wp,⟨Xp,trivial,trivial⟩,trivial⟩⟩,⟨Rp,⟨Tp,⟨Up,trivial,trivial⟩,trivial⟩,⟨Mp,⟨Qp,trivial,trivial⟩,trivial⟩⟩⟩⟩⟩⟩
theorem Lg:(iT.all fun t=>(zS.get t).isSome)=true:=by kernel_rfl
theorem Vx:tab=Wx:=by
 funext t;unfold Wx;cases h:zS.get t with
 | some i=>exact BT.get_AllP Nl t i h
 | none=>
  simp only;unfold tab;split
  ·rename_i hk;have:=qT Lg hk;rw[h]at this;cases this
  ·rfl
noncomputable def Db:BT Func:=(.node 192 f192 (.node 99 f99 (.node 55 f55 (.node 29 f29 (.node 17 f17 (.node 10 f10 (.node 7 f7 (.node 5 f5 (.node 4 f4 .nil .nil) .nil) (.node 9 f9 (.node 8 f8 .nil .nil) .nil)) (.node 13 f13 (.node 12 f12 (.node 11 f11 .nil .nil) .nil) (.node 16 f16 (.node 15 f15 .nil .nil) .nil))) (.node 24 f24 (.node 21 f21 (.node 20 f20 (.node 18 f18 .nil .nil) .nil) (.node 23 f23 (.node 22 f22 .nil .nil) .nil)) (.node 27 f27 (.node 26 f26 (.node 25 f25 .nil .nil) .nil) (.node 28 f28 .nil .nil)))) (.node 44 f44 (.node 35 f35 (.node 32 f32 (.node 31 f31 (.node 30 f30 .nil .nil) .nil) (.node 34 f34 (.node 33 f33 .nil .nil) .nil)) (.node 38 f38 (.node 37 f37 (.node 36 f36 .nil .nil) .nil) (.node 39 f39 .nil .nil))) (.node 50 f50 (.node 47 f47 (.node 46 f46 (.node 45 f45 .nil .nil) .nil) (.node 49 f49 (.node 48 f48 .nil .nil) .nil)) (.node 53 f53 (.node 52 f52 (.node 51 f51 .nil .nil) .nil) (.node 54 f54 .nil .nil))))) (.node 77 f77 (.node 66 f66 (.node 61 f61 (.node 58 f58 (.node 57 f57 (.node 56 f56 .nil .nil) .nil) (.node 60 f60 (.node 59 f59 .nil .nil) .nil)) (.node 64 f64 (.node 63 f63 (.node 62 f62 .nil .nil) .nil) (.node 65 f65 .nil .nil))) (.node 72 f72 (.node 69 f69 (.node 68 f68 (.node 67 f67 .nil .nil) .nil) (.node 71 f71 (.node 70 f70 .nil .nil) .nil)) (.node 75 f75 (.node 74 f74 (.node 73 f73 .nil .nil) .nil) (.node 76 f76 .nil .nil)))) (.node 88 f88 (.node 83 f83 (.node 80 f80 (.node 79 f79 (.node 78 f78 .nil .nil) .nil) (.node 82 f82 (.node 81 f81 .nil .nil) .nil)) (.node 86 f86 (.node 85 f85 (.node 84 f84 .nil .nil) .nil) (.node 87 f87 .nil .nil))) (.node 94 f94 (.node 91 f91 (.node 90 f90 (.node 89 f89 .nil .nil) .nil) (.node 93 f93 (.node 92 f92 .nil .nil) .nil)) (.node 97 f97 (.node 96 f96 (.node 95 f95 .nil .nil) .nil) (.node 98 f98 .nil .nil)))))) (.node 145 f145 (.node 123 f123 (.node 112 f112 (.node 107 f107 (.node 104 f104 (.node 103 f103 (.node 102 f102 .nil .nil) .nil) (.node 106 f106 (.node 105 f105 .nil .nil) .nil)) (.node 110 f110 (.node 109 f109 (.node 108 f108 .nil .nil) .nil) (.node 111 f111 .nil .nil))) (.node 118 f118 (.node 115 f115 (.node 114 f114 (.node 113 f113 .nil .nil) .nil) (.node 117 f117 (.node 116 f116 .nil .nil) .nil)) (.node 121 f121 (.node 120 f120 (.node 119 f119 .nil .nil) .nil) (.node 122 f122 .nil .nil)))) (.node 134 f134 (.node 129 f129 (.node 126 f126 (.node 125 f125 (.node 124 f124 .nil .nil) .nil) (.node 128 f128 (.node 127 f127 .nil .nil) .nil)) (.node 132 f132 (.node 131 f131 (.node 130 f130 .nil .nil) .nil) (.node 133 f133 .nil .nil))) (.node 140 f140 (.node 137 f137 (.node 136 f136 (.node 135 f135 .nil .nil) .nil) (.node 139 f139 (.node 138 f138 .nil .nil) .nil)) (.node 143 f143 (.node 142 f142 (.node 141 f141 .nil .nil) .nil) (.node 144 f144 .nil .nil))))) (.node 167 f167 (.node 156 f156 (.node 151 f151 (.node 148 f148 (.node 147 f147 (.node 146 f146 .nil .nil) .nil) (.node 150 f150 (.node 149 f149 .nil .nil) .nil)) (.node 154 f154 (.node 153 f153 (.node 152 f152 .nil .nil) .nil) (.node 155 f155 .nil .nil))) (.node 162 f162 (.node 159 f159 (.node 158 f158 (.node 157 f157 .nil .nil) .nil) (.node 161 f161 (.node 160 f160 .nil .nil) .nil)) (.node 165 f165 (.node 164 f164 (.node 163 f163 .nil .nil) .nil) (.node 166 f166 .nil .nil)))) (.node 178 f178 (.node 173 f173 (.node 170 f170 (.node 169 f169 (.node 168 f168 .nil .nil) .nil) (.node 172 f172 (.node 171 f171 .nil .nil) .nil)) (.node 176 f176 (.node 175 f175 (.node 174 f174 .nil .nil) .nil) (.node 177 f177 .nil .nil))) (.node 187 f187 (.node 182 f182 (.node 181 f181 (.node 179 f179 .nil .nil) .nil) (.node 184 f184 (.node 183 f183 .nil .nil) .nil)) (.node 190 f190 (.node 189 f189 (.node 188 f188 .nil .nil) .nil) (.node 191 f191 .nil .nil))))))) (.node 283 f283 (.node 237 f237 (.node 215 f215 (.node 204 f204 (.node 198 f198 (.node 195 f195 (.node 194 f194 (.node 193 f193 .nil .nil) .nil) (.node 197 f197 (.node 196 f196 .nil .nil) .nil)) (.node 201 f201 (.node 200 f200 (.node 199 f199 .nil .nil) .nil) (.node 203 f203 (.node 202 f202 .nil .nil) .nil))) (.node 210 f210 (.node 207 f207 (.node 206 f206 (.node 205 f205 .nil .nil) .nil) (.node 209 f209 (.node 208 f208 .nil .nil) .nil)) (.node 213 f213 (.node 212 f212 (.node 211 f211 .nil .nil) .nil) (.node 214 f214 .nil .nil)))) (.node 226 f226 (.node 221 f221 (.node 218 f218 (.node 217 f217 (.node 216 f216 .nil .nil) .nil) (.node 220 f220 (.node 219 f219 .nil .nil) .nil)) (.node 224 f224 (.node 223 f223 (.node 222 f222 .nil .nil) .nil) (.node 225 f225 .nil .nil))) (.node 232 f232 (.node 229 f229 (.node 228 f228 (.node 227 f227 .nil .nil) .nil) (.node 231 f231 (.node 230 f230 .nil .nil) .nil)) (.node 235 f235 (.node 234 f234 (.node 233 f233 .nil .nil) .nil) (.node 236 f236 .nil .nil))))) (.node 259 f259 (.node 248 f248 (.node 243 f243 (.node 240 f240 (.node 239 f239 (.node 238 f238 .nil .nil) .nil) (.node 242 f242 (.node 241 f241 .nil .nil) .nil)) (.node 246 f246 (.node 245 f245 (.node 244 f244 .nil .nil) .nil) (.node 247 f247 .nil .nil))) (.node 254 f254 (.node 251 f251 (.node 250 f250 (.node 249 f249 .nil .nil) .nil) (.node 253 f253 (.node 252 f252 .nil .nil) .nil)) (.node 257 f257 (.node 256 f256 (.node 255 f255 .nil .nil) .nil) (.node 258 f258 .nil .nil)))) (.node 271 f271 (.node 266 f266 (.node 262 f262 (.node 261 f261 (.node 260 f260 .nil .nil) .nil) (.node 264 f264 (.node 263 f263 .nil .nil) .nil)) (.node 269 f269 (.node 268 f268 (.node 267 f267 .nil .nil) .nil) (.node 270 f270 .nil .nil))) (.node 278 f278 (.node 274 f274 (.node 273 f273 (.node 272 f272 .nil .nil) .nil) (.node 277 f277 (.node 276 f276 .nil .nil) .nil)) (.node 281 f281 (.node 280 f280 (.node 279 f279 .nil .nil) .nil) (.node 282 f282 .nil .nil)))))) (.node 328 f328 (.node 305 f305 (.node 294 f294 (.node 289 f289 (.node 286 f286 (.node 285 f285 (.node 284 f284 .nil .nil) .nil) (.node 288 f288 (.node 287 f287 .nil .nil) .nil)) (.node 292 f292 (.node 291 f291 (.node 290 f290 .nil .nil) .nil) (.node 293 f293 .nil .nil))) (.node 300 f300 (.node 297 f297 (.node 296 f296 (.node 295 f295 .nil .nil) .nil) (.node 299 f299 (.node 298 f298 .nil .nil) .nil)) (.node 303 f303 (.node 302 f302 (.node 301 f301 .nil .nil) .nil) (.node 304 f304 .nil .nil)))) (.node 316 f316 (.node 311 f311 (.node 308 f308 (.node 307 f307 (.node 306 f306 .nil .nil) .nil) (.node 310 f310 (.node 309 f309 .nil .nil) .nil)) (.node 314 f314 (.node 313 f313 (.node 312 f312 .nil .nil) .nil) (.node 315 f315 .nil .nil))) (.node 323 f323 (.node 319 f319 (.node 318 f318 (.node 317 f317 .nil .nil) .nil) (.node 322 f322 (.node 320 f320 .nil .nil) .nil)) (.node 326 f326 (.node 325 f325 (.node 324 f324 .nil .nil) .nil) (.node 327 f327 .nil .nil))))) (.node 350 f350 (.node 339 f339 (.node 334 f334 (.node 331 f331 (.node 330 f330 (.node 329 f329 .nil .nil) .nil) (.node 333 f333 (.node 332 f332 .nil .nil) .nil)) (.node 337 f337 (.node 336 f336 (.node 335 f335 .nil .nil) .nil) (.node 338 f338 .nil .nil))) (.node 345 f345 (.node 342 f342 (.node 341 f341 (.node 340 f340 .nil .nil) .nil) (.node 344 f344 (.node 343 f343 .nil .nil) .nil)) (.node 348 f348 (.node 347 f347 (.node 346 f346 .nil .nil) .nil) (.node 349 f349 .nil .nil)))) (.node 362 f362 (.node 357 f357 (.node 353 f353 (.node 352 f352 (.node 351 f351 .nil .nil) .nil) (.node 355 f355 (.node 354 f354 .nil .nil) .nil)) (.node 360 f360 (.node 359 f359 (.node 358 f358 .nil .nil) .nil) (.node 361 f361 .nil .nil))) (.node 368 f368 (.node 365 f365 (.node 364 f364 (.node 363 f363 .nil .nil) .nil) (.node 367 f367 (.node 366 f366 .nil .nil) .nil)) (.node 371 f371 (.node 370 f370 (.node 369 f369 .nil .nil) .nil) (.node 372 f372 .nil .nil))))))))
theorem Vn:Db.AllP fun k fn=>Tryz.prog.funcs[k]?=some fn:=⟨func192,⟨func99,⟨func55,⟨func29,⟨func17,⟨func10,⟨func7,⟨func5,⟨func4,trivial,trivial⟩,trivial⟩,⟨func9,⟨func8,trivial,trivial⟩,trivial⟩⟩,⟨func13,⟨func12,⟨func11,trivial,trivial⟩,trivial⟩,⟨func16,⟨func15,trivial,trivial⟩,trivial⟩⟩⟩,⟨func24,⟨func21,⟨func20,⟨func18,trivial,trivial⟩,trivial⟩,⟨func23,⟨func22,trivial,trivial⟩,trivial⟩⟩,⟨func27,⟨func26,⟨func25,trivial,trivial⟩,trivial⟩,⟨func28,trivial,trivial⟩⟩⟩⟩,⟨func44,⟨func35,⟨func32,⟨func31,⟨func30,trivial,trivial⟩,trivial⟩,⟨func34,⟨func33,trivial,trivial⟩,trivial⟩⟩,⟨func38,⟨func37,⟨func36,trivial,trivial⟩,trivial⟩,⟨func39,trivial,trivial⟩⟩⟩,⟨func50,⟨func47,⟨func46,⟨func45,trivial,trivial⟩,trivial⟩,⟨func49,⟨func48,trivial,trivial⟩,trivial⟩⟩,⟨func53,⟨func52,⟨func51,trivial,trivial⟩,trivial⟩,⟨func54,trivial,trivial⟩⟩⟩⟩⟩,⟨func77,⟨func66,⟨func61,⟨func58,⟨func57,⟨func56,trivial,trivial⟩,trivial⟩,⟨func60,⟨func59,trivial,trivial⟩,trivial⟩⟩,⟨func64,⟨func63,⟨func62,trivial,trivial⟩,trivial⟩,⟨func65,trivial,trivial⟩⟩⟩,⟨func72,⟨func69,⟨func68,⟨func67,trivial,trivial⟩,trivial⟩,⟨func71,⟨func70,trivial,trivial⟩,trivial⟩⟩,⟨func75,⟨func74,⟨func73,trivial,trivial⟩,trivial⟩,⟨func76,trivial,trivial⟩⟩⟩⟩,⟨func88,⟨func83,⟨func80,⟨func79,⟨func78,trivial,trivial⟩,trivial⟩,⟨func82,⟨func81,trivial,trivial⟩,trivial⟩⟩,⟨func86,⟨func85,⟨func84,trivial,trivial⟩,trivial⟩,⟨func87,trivial,trivial⟩⟩⟩,⟨func94,⟨func91,⟨func90,⟨func89,trivial,trivial⟩,trivial⟩,⟨func93,⟨func92,trivial,trivial⟩,trivial⟩⟩,⟨func97,⟨func96,⟨func95,trivial,trivial⟩,trivial⟩,⟨func98,trivial,trivial⟩⟩⟩⟩⟩⟩,⟨func145,⟨func123,⟨func112,⟨func107,⟨func104,⟨func103,⟨func102,trivial,trivial⟩,trivial⟩,⟨func106,⟨func105,trivial,trivial⟩,trivial⟩⟩,⟨func110,⟨func109,⟨func108,trivial,trivial⟩,trivial⟩,⟨func111,trivial,trivial⟩⟩⟩,⟨func118,⟨func115,⟨func114,⟨func113,trivial,trivial⟩,trivial⟩,⟨func117,⟨func116,trivial,trivial⟩,trivial⟩⟩,⟨func121,⟨func120,⟨func119,trivial,trivial⟩,trivial⟩,⟨func122,trivial,trivial⟩⟩⟩⟩,⟨func134,⟨func129,⟨func126,⟨func125,⟨func124,trivial,trivial⟩,trivial⟩,⟨func128,⟨func127,trivial,trivial⟩,trivial⟩⟩,⟨func132,⟨func131,⟨func130,trivial,trivial⟩,trivial⟩,⟨func133,trivial,trivial⟩⟩⟩,⟨func140,⟨func137,⟨func136,⟨func135,trivial,trivial⟩,trivial⟩,⟨func139,⟨func138,trivial,trivial⟩,trivial⟩⟩,⟨func143,⟨func142,⟨func141,trivial,trivial⟩,trivial⟩,⟨func144,trivial,trivial⟩⟩⟩⟩⟩,⟨func167,⟨func156,⟨func151,⟨func148,⟨func147,⟨func146,trivial,trivial⟩,trivial⟩,⟨func150,⟨func149,trivial,trivial⟩,trivial⟩⟩,⟨func154,⟨func153,⟨func152,trivial,trivial⟩,trivial⟩,⟨func155,trivial,trivial⟩⟩⟩,⟨func162,⟨func159,⟨func158,⟨func157,trivial,trivial⟩,trivial⟩,⟨func161,⟨func160,trivial,trivial⟩,trivial⟩⟩,⟨func165,⟨func164,⟨func163,trivial,trivial⟩,trivial⟩,⟨func166,trivial,trivial⟩⟩⟩⟩,⟨func178,⟨func173,⟨func170,⟨func169,⟨func168,trivial,trivial⟩,trivial⟩,⟨func172,⟨func171,trivial,trivial⟩,trivial⟩⟩,⟨func176,⟨func175,⟨func174,trivial,trivial⟩,trivial⟩,⟨func177,trivial,trivial⟩⟩⟩,⟨func187,⟨func182,⟨func181,⟨func179,trivial,trivial⟩,trivial⟩,⟨func184,⟨func183,trivial,trivial⟩,trivial⟩⟩,⟨func190,⟨func189,⟨func188,trivial,trivial⟩,trivial⟩,⟨func191,trivial,trivial⟩⟩⟩⟩⟩⟩⟩,⟨func283,⟨func237,⟨func215,⟨func204,⟨func198,⟨func195,⟨func194,⟨func193,trivial,trivial⟩,trivial⟩,⟨func197,⟨func196,trivial,trivial⟩,trivial⟩⟩,⟨func201,⟨func200,⟨func199,trivial,trivial⟩,trivial⟩,⟨func203,⟨func202,trivial,trivial⟩,trivial⟩⟩⟩,⟨func210,⟨func207,⟨func206,⟨func205,trivial,trivial⟩,trivial⟩,⟨func209,⟨func208,trivial,trivial⟩,trivial⟩⟩,⟨func213,⟨func212,⟨func211,trivial,trivial⟩,trivial⟩,⟨func214,trivial,trivial⟩⟩⟩⟩,⟨func226,⟨func221,⟨func218,⟨func217,⟨func216,trivial,trivial⟩,trivial⟩,⟨func220,⟨func219,trivial,trivial⟩,trivial⟩⟩,⟨func224,⟨func223,⟨func222,trivial,trivial⟩,trivial⟩,⟨func225,trivial,trivial⟩⟩⟩,⟨func232,⟨func229,⟨func228,⟨func227,trivial,trivial⟩,trivial⟩,⟨func231,⟨func230,trivial,trivial⟩,trivial⟩⟩,⟨func235,⟨func234,⟨func233,trivial,trivial⟩,trivial⟩,⟨func236,trivial,trivial⟩⟩⟩⟩⟩,⟨func259,⟨func248,⟨func243,⟨func240,⟨func239,⟨func238,trivial,trivial⟩,trivial⟩,⟨func242,⟨func241,trivial,trivial⟩,trivial⟩⟩,⟨func246,⟨func245,⟨func244,trivial,trivial⟩,trivial⟩,⟨func247,trivial,trivial⟩⟩⟩,⟨func254,⟨func251,⟨func250,⟨func249,trivial,trivial⟩,trivial⟩,⟨func253,⟨func252,trivial,trivial⟩,trivial⟩⟩,⟨func257,⟨func256,⟨func255,trivial,trivial⟩,trivial⟩,⟨func258,trivial,trivial⟩⟩⟩⟩,⟨func271,⟨func266,⟨func262,⟨func261,⟨func260,trivial,trivial⟩,trivial⟩,⟨func264,⟨func263,trivial,trivial⟩,trivial⟩⟩,⟨func269,⟨func268,⟨func267,trivial,trivial⟩,trivial⟩,⟨func270,trivial,trivial⟩⟩⟩,⟨func278,⟨func274,⟨func273,⟨func272,trivial,trivial⟩,trivial⟩,⟨func277,⟨func276,trivial,trivial⟩,trivial⟩⟩,⟨func281,⟨func280,⟨func279,trivial,trivial⟩,trivial⟩,⟨func282,trivial,trivial⟩⟩⟩⟩⟩⟩,⟨func328,⟨func305,⟨func294,⟨func289,⟨func286,⟨func285,⟨func284,trivial,trivial⟩,trivial⟩,⟨func288,⟨func287,trivial,trivial⟩,trivial⟩⟩,⟨func292,⟨func291,⟨func290,trivial,trivial⟩,trivial⟩,⟨func293,trivial,trivial⟩⟩⟩,⟨func300,⟨func297,⟨func296,⟨func295,trivial,trivial⟩,trivial⟩,⟨func299,⟨func298,trivial,trivial⟩,trivial⟩⟩,⟨func303,⟨func302,⟨func301,trivial,trivial⟩,trivial⟩,⟨func304,trivial,trivial⟩⟩⟩⟩,⟨func316,⟨func311,⟨func308,⟨func307,⟨func306,trivial,trivial⟩,trivial⟩,⟨func310,⟨func309,trivial,trivial⟩,trivial⟩⟩,⟨func314,⟨func313,⟨func312,trivial,trivial⟩,trivial⟩,⟨func315,trivial,trivial⟩⟩⟩,⟨func323,⟨func319,⟨func318,⟨func317,trivial,trivial⟩,trivial⟩,⟨func322,⟨func320,trivial,trivial⟩,trivial⟩⟩,⟨func326,⟨func325,⟨func324,trivial,trivial⟩,trivial⟩,⟨func327,trivial,trivial⟩⟩⟩⟩⟩,⟨func350,⟨func339,⟨func334,⟨func331,⟨func330,⟨func329,trivial,trivial⟩,trivial⟩,⟨func333,⟨func332,trivial,trivial⟩,trivial⟩⟩,⟨func337,⟨func336,⟨func335,trivial,trivial⟩,trivial⟩,⟨func338,trivial,trivial⟩⟩⟩,⟨func345,⟨func342,⟨func341,⟨func340,trivial,trivial⟩,trivial⟩,⟨func344,⟨func343,trivial,trivial⟩,trivial⟩⟩,⟨func348,⟨func347,⟨func346,trivial,trivial⟩,trivial⟩,⟨func349,trivial,trivial⟩⟩⟩⟩,⟨func362,⟨func357,⟨func353,⟨func352,⟨func351,trivial,trivial⟩,trivial⟩,⟨func355,⟨func354,trivial,trivial⟩,trivial⟩⟩,⟨func360,⟨func359,⟨func358,trivial,trivial⟩,trivial⟩,⟨func361,trivial,trivial⟩⟩⟩,⟨func368,⟨func365,⟨func364,⟨func363,trivial,trivial⟩,trivial⟩,⟨func367,⟨func366,trivial,trivial⟩,trivial⟩⟩,⟨func371,⟨func370,⟨func369,trivial,trivial⟩,trivial⟩,⟨func372,trivial,trivial⟩⟩⟩⟩⟩⟩⟩⟩
def aFi:BT (List (Nat×(List Nat×List Nat))):=(.node 194 [(5,([0,1,2,3,5,6,7,8,4,10,9,11],[]))] (.node 88 [(3,([0,1,2,3,4,5,6,7],[]))] (.node 44 [(5,([0,1,3,2,4,5,6,7],[2,4]))] (.node 21 [(6,([0,1,4,5,2,3,6,7,8],[]))] (.node 10 [(3,([0,4,8,1,2,3,5,6,7,9,10,11,12],[]))] (.node 5 [(8,([0,2,5,7,10,12,1,3,4,15,6,8,9,16,11,13,14,17],[])),(9,([0,1,2,3,4,5,6,7,8,9,10,11,12,13,17,14,15,16,18,19,20,21],[])),(10,([0,1,2,3,4,5,6,7,8,9,10,11,12,13,14,15,16,17,18,19,20,21,22,23,24,25,26,27,28,29,30,31,32,34,33,35,36,37,38],[]))] (.node 4 [(15,([1,2,3,4,7,8,9,11,12,13,14,15,16,0,5,6,10,17,18,19,20,21,22],[]))] .nil .nil) (.node 7 [(5,([0,2,3,4,1,5,6],[]))] .nil .nil)) (.node 17 [(9,([0,1,6,2,3,4,5,7,8,9,10,11,12,13],[]))] (.node 16 [(6,([0,2,5,7,1,3,4,6,8,9,10,11],[]))] .nil .nil) .nil)) (.node 31 [(2,([0,1,2,3,4,5,6,7],[]))] (.node 28 [(6,([0,1,2],[]))] (.node 26 [(5,([1,2,0,3,4,5,6,7],[]))] .nil .nil) (.node 29 [(3,([0,4,7,8,1,5,9,10,2,3,6,11,12],[]))] .nil .nil)) (.node 38 [(5,([0,1,2,3,4,5,6],[]))] (.node 35 [(3,([0,1,2,3,4,5],[]))] .nil .nil) .nil))) (.node 72 [(1,([0,1,2,3,4],[]))] (.node 59 [(8,([0,2,3,1,4,5,6,7,8],[]))] (.node 47 [(11,([0,1,2,3,4,6,7,8,11,12,5,9,10,13,14],[]))] (.node 45 [(9,([0,1,2,3,5,6,4,7,8],[]))] .nil .nil) (.node 52 [(12,([0,2,5,7,1,3,4,6,8,9,10],[]))] .nil .nil)) (.node 69 [(9,([0,2,3,4,1,5,6,7,8,9],[]))] (.node 64 [(3,([0,1,2,3,4,5,6,7,8,9,10,11,12,13,14,15,16,17,18,19,20,21,23,22,24,25,26,27,28,29,30,31,32,33,34,35,36,37,38,39,40],[]))] .nil .nil) .nil)) (.node 78 [(8,([0,1,2,5,3,6,4,7,8,9],[]))] (.node 77 [(5,([0,1,2,3,4,5,6,7,8,9,10],[]))] (.node 74 [(5,([0,1,2,3,6,4,5,7,8,9,10,11],[]))] .nil .nil) .nil) (.node 86 [(6,([0,2,1,3,4,5],[1]))] (.node 82 [(9,([0,2,3,6,8,9,1,4,5,11,7,10,12,13],[])),(12,([0,1,3,4,2,5,6,7,8],[2])),(13,([1,2,3,4,0,5,6,7,8,9],[5]))] .nil .nil) .nil)))) (.node 169 [(3,([0,1,2,3,4,5,6,7,8,9,10,11,12,13],[]))] (.node 135 [(2,([0,1,2,4,3,5,6,7,8,9,10,11,13,12,14,15,16,17,18,19,20,22,21,23,24,25,26,27,28,29,30],[]))] (.node 119 [(6,([0,2,5,7,1,3,4,6,8,9,10],[]))] (.node 103 [(1,([0,1,2,3,5,6,7,8,4,9,10],[]))] (.node 90 [(1,([0,1,2,3,4,5,6,7,8,9,10,11,12],[])),(7,([0,1,2,3,5,6,7,8,9,4,10,11],[]))] .nil .nil) (.node 118 [(6,([0,1,4,5,2,3,6,7,8],[]))] .nil .nil)) (.node 130 [(5,([0,1,2,3,4,5,6,8,7,9,10,11,12,13],[]))] (.node 121 [(1,([0,5,1,6,2,3,4,7,8,9,10,11],[]))] .nil .nil) .nil)) (.node 159 [(1,([0,1,3,2,4,5,6],[]))] (.node 150 [(3,([0,1,3,4,5,6,7,2,9,8,10,11],[]))] (.node 141 [(6,([0,1,4,5,2,3,6,7,8],[]))] .nil .nil) (.node 156 [(9,([0,1,2,4,3,5],[]))] .nil .nil)) (.node 167 [(1,([0,3,1,4,2,6,5,7,8,9],[]))] (.node 162 [(1,([1,4,0,2,5,3,6,7,8,9],[]))] .nil .nil) .nil))) (.node 179 [(3,([0,1,2,3,4,5,6,7,8,9,10,11,12,13,14],[])),(4,([0,1,2,3],[])),(5,([0,1,3,4,5,2,6,7,8,9,10],[2])),(6,([0,1,2,3,5,4,6,7,8,9,10,11,12,13],[])),(13,([0,1,2,3,4],[2]))] (.node 174 [(1,([0,2,1,3,4,5,6,7,8,10,9,11,12,13,14,15,16,17,19,24,18,20,21,22,23,25,26,27,28],[]))] (.node 171 [(2,([0,1,2,3,5,4,6,7,8],[]))] (.node 170 [(4,([1,5,0,2,3,4,6,7,8,9,10,11,12],[2,9]))] .nil .nil) (.node 172 [(2,([0,1,2,3,5,6,7,8,4,9,10,11,12],[]))] .nil .nil)) (.node 176 [(1,([0,1,2,3,4,5,6,7,8,9,10,11,12,13,14,15],[]))] (.node 175 [(23,([0,1,2,4,5,6,3,7,8,9],[7]))] .nil .nil) .nil)) (.node 188 [(11,([0,2,3,4,5,1,6,7],[])),(15,([0,2,3,4,5,1,6,7,8],[]))] (.node 187 [(9,([0,1,2,4,5,3,6,7,8,9],[]))] (.node 184 [(1,([0,2,5,1,3,6,7,4,8,9],[]))] .nil .nil) .nil) (.node 193 [(3,([0,1,2,4,5,6,7,3,8,9,10,11,12,13,14,15,16],[]))] (.node 191 [(17,([0,1,2,3,4,5,7,8,9,10,11,6,12,13,14],[]))] .nil .nil) .nil))))) (.node 298 [(3,([0,1,4,5,2,3,6,8,7,9,10],[]))] (.node 245 [(0,([0,1,2,3,5,6,7,8,4,9,10,11,12,13],[])),(6,([0,1,2,3,5,6,7,8,10,4,9,11,12],[]))] (.node 215 [(4,([1,2,0,3,4,5],[]))] (.node 206 [(6,([0,1,4,5,2,3,6,7,8],[]))] (.node 200 [(3,([1,0,3,2,4,5,6],[]))] (.node 197 [(3,([0,1,2,5,6,7,8,3,4,9,10,11],[]))] .nil .nil) (.node 201 [(6,([0,1,4,5,2,3,6,7,8],[]))] .nil .nil)) (.node 214 [(7,([0,1,2,3,4,5,6,7,8,9],[]))] (.node 211 [(1,([0,2,7,1,3,4,5,6,8,9,10,11,12],[])),(2,([0,2,6,10,1,3,4,5,7,8,9,11,12,13,14,15,17,16,18,19,20],[]))] .nil .nil) .nil)) (.node 238 [(1,([0,3,6,1,4,7,2,9,5,8,10,11,12,13,14],[]))] (.node 236 [(1,([0,1,2,3,5,6,7,8,4,9,10,11,12,13,14,15,16,17,18],[])),(4,([0,1,2,3,5,6,7,8,12,4,9,10,11,13,14,15,16,17,18,19,20],[])),(7,([0,1,2,3,4,5,6,7],[])),(8,([0,1,2,3,4,5,6,7],[]))] (.node 221 [(4,([0,1,2,3],[1])),(12,([0,1,2,3],[1]))] .nil .nil) (.node 237 [(4,([0,1,2,3,4,5],[2]))] .nil .nil)) (.node 242 [(1,([0,1,3,4,5,2,6,7,8,9,10],[2]))] (.node 239 [(7,([0,1,2,3,5,6,7,8,4,9,10,11,12],[])),(9,([0,1,2,3,5,6,7,8,4,9,10,11,12],[])),(11,([0,1,2,3,5,6,7,4,8,9,10,11,12,13,14,15,17,18,19,20,16,21,22,23,24,25],[]))] .nil .nil) .nil))) (.node 285 [(2,([0,2,1,4,3,5],[]))] (.node 263 [(1,([0,1,2,4,5,6,7,3,8,9,10,11,12,13,14,15,16],[]))] (.node 252 [(4,([0,2,1,4,3,5,6,7],[]))] (.node 246 [(5,([0,3,1,2,4,5,6,7],[])),(7,([0,3,1,2,4,5,6,7],[])),(9,([0,3,1,2,4,5,6,7],[])),(11,([0,3,1,2,4,5,6,7,8,9,10,11],[]))] .nil .nil) (.node 257 [(3,([0,1,2,4,3,5,6,7,8,9],[]))] .nil .nil)) (.node 283 [(4,([0,1,2,3],[1]))] (.node 272 [(17,([0,1,2,3,4,5,6,9,10,7,8,11,12,13,14,15,16],[]))] .nil .nil) .nil)) (.node 290 [(1,([0,2,1,3,4,5,6],[]))] (.node 289 [(1,([0,2,1,3,4,5,6],[]))] (.node 286 [(2,([0,1,2,4,5,6,7,3,8,9,10,11,12],[]))] .nil .nil) .nil) (.node 292 [(3,([0,1,2,3,4,5],[]))] (.node 291 [(1,([0,2,1,3,4,5,6],[]))] .nil .nil) .nil)))) (.node 333 [(1,([0,4,1,5,2,3,6,7,8,9],[]))] (.node 315 [(3,([0,1,2,3,4,5,8,9,6,7,10,11,12,13,14,15],[]))] (.node 311 [(4,([0,1,2,3,4,5,6,9,10,11,7,8,12,13,14,15,16],[])),(6,([0,1,2,3,4,5,6,7,10,11,8,9,12,13,14,15,16,17],[]))] (.node 307 [(7,([0,1,2,3,4,5,6,7,8,9,10,11,12,13,14],[])),(8,([0,1,2,3,4,5,6,7,8,9,10,11,12,13,14],[])),(9,([0,1,2,3,4,5,6,7,8,9,10,11,12,13,14],[])),(10,([0,1,2,3,4,5,6,7,8,9,10,11,12,13,14],[])),(17,([0,1,2,3,4,5,6,7,8,9,10,11,12,13,14],[])),(18,([0,1,2,3,4,5,6,7,8,9,10,11,12,13,14],[])),(23,([0,1,2,3,4,5,6,7,8,9,10,11,12,13,14],[]))] (.node 300 [(1,([0,1,2,3,5,4,6,7,8,9,10,11],[]))] .nil .nil) (.node 310 [(17,([0,1,2,3,4,5,8,9,6,7,10,11,12,13,14],[]))] .nil .nil)) (.node 313 [(10,([0,1,2,3,4,5,6,7,8,9,12,13,10,11,14,15,16,17,18,19],[]))] (.node 312 [(10,([0,1,2,3,4,5,6,7,8,9,12,13,10,11,14,15,16,17,18,19],[]))] .nil .nil) .nil)) (.node 318 [(1,([0,1,2,3,4,5,8,9,6,7,10,11,12,13,14,15],[])),(3,([0,1,2,3,4,5,6,9,10,7,8,11,12,13,14,15],[])),(5,([0,1,2,3,4,5,6,9,10,7,8,11,12,13,14,15,16],[])),(8,([0,1,2,3,4,5,8,9,6,7,10,11,12,13,14,15],[])),(10,([0,1,2,3,4,5,8,9,6,7,10,11,12,13,14,15],[])),(13,([0,1,2,3,4,5,6,9,10,7,8,11,12,13,14,15],[])),(15,([0,1,2,3,4,5,6,9,10,7,8,11,12,13,14,15,16],[])),(18,([0,1,2,3,4,5,8,9,6,7,10,11,12,13,14,15],[])),(21,([0,1,2,3,4,5,8,9,6,7,10,11,12,13,14,15],[]))] (.node 317 [(1,([0,1,2,3,4,5,8,9,6,7,10,11,12,13,14,15],[])),(3,([0,1,2,3,4,5,6,9,10,7,8,11,12,13,14,15,16],[])),(5,([0,1,2,3,4,5,6,9,10,7,8,11,12,13,14,15],[])),(8,([0,1,2,3,4,5,8,9,6,7,10,11,12,13,14,15],[]))] (.node 316 [(5,([0,1,2,3,4,5,6,9,10,11,7,8,12,13,14,15,16,17],[])),(11,([0,1,2,3,4,5,6,7,10,11,8,9,12,13,14,15,16,17],[])),(16,([0,1,2,5,6,7,3,4,8,9,10,11,12],[])),(17,([0,1,2,3,4,5,6,7,10,11,8,9,12,13,14,15,16,17],[])),(22,([0,1,2,5,6,7,3,4,8,9,10,11,12],[])),(23,([0,1,2,3,4,5,6,7,10,11,8,9,12,13,14,15,16,17],[]))] .nil .nil) .nil) (.node 328 [(1,([0,1,3,2,4,5,6],[]))] (.node 327 [(1,([0,1,3,2,4,5,6],[]))] .nil .nil) .nil))) (.node 348 [(1,([0,1,2,3,4,5,8,9,6,7,10,11,12,13,14,15],[])),(3,([0,1,2,3,4,5,8,9,6,7,10,11,12,13],[])),(5,([0,1,2,3,4,5,8,9,6,7,10,11,12,13,14],[])),(8,([0,1,2,3,4,5,8,9,6,7,10,11,12,13,14,15],[])),(10,([0,1,2,3,4,5,8,9,6,7,10,11,12,13,14,15],[])),(13,([0,1,2,3,4,5,8,9,6,7,10,11,12,13],[])),(15,([0,1,2,3,4,5,8,9,6,7,10,11,12,13,14],[])),(18,([0,1,2,3,4,5,8,9,6,7,10,11,12,13,14,15],[])),(21,([0,1,2,3,4,5,8,9,6,7,10,11,12,13,14,15],[]))] (.node 344 [(3,([0,1,2,3,4,5,8,9,6,7,10,11,12,13,14,15],[]))] (.node 341 [(10,([0,1,2,3,4,5,6,7,8,9,12,13,10,11,14,15,16,17,18,19],[]))] (.node 340 [(4,([0,1,2,3,4,5,8,9,10,6,7,11,12,13,14],[])),(6,([0,1,2,3,4,5,6,7,10,11,8,9,12,13,14,15,16,17],[]))] .nil .nil) (.node 342 [(10,([0,1,2,3,4,5,6,7,8,9,12,13,10,11,14,15,16,17,18,19],[]))] .nil .nil)) (.node 347 [(1,([0,1,2,3,4,5,8,9,6,7,10,11,12,13,14,15],[])),(3,([0,1,2,3,4,5,8,9,6,7,10,11,12,13,14],[])),(5,([0,1,2,3,4,5,8,9,6,7,10,11,12,13],[])),(8,([0,1,2,3,4,5,8,9,6,7,10,11,12,13,14,15],[]))] (.node 345 [(5,([0,1,2,3,4,5,8,9,10,6,7,11,12,13,14,15],[])),(11,([0,1,2,3,4,5,6,7,10,11,8,9,12,13,14,15,16,17],[])),(16,([0,1,4,5,6,2,3,7,8,9,10],[])),(17,([0,1,2,3,4,5,6,7,10,11,8,9,12,13,14,15,16,17],[])),(22,([0,1,4,5,6,2,3,7,8,9,10],[])),(23,([0,1,2,3,4,5,6,7,10,11,8,9,12,13,14,15,16,17],[]))] .nil .nil) .nil)) (.node 364 [(3,([0,1,2,3,4,5,6,7,8,11,12,13,14,15,9,10,16,17,18,19],[])),(5,([0,1,2,3,6,7,8,9,4,5,10,11,12,13],[])),(6,([0,1,2,3,4,5,6,7,8,9,10,11,14,15,16,17,12,13,18,19,20,21,22,23],[]))] (.node 351 [(1,([0,1,3,4,2,5,6,7,8,9],[])),(2,([0,1,3,4,2,5,6,7,8,9],[])),(3,([0,1,3,4,2,5,6,7,8,9],[]))] (.node 349 [(3,([0,1,2,3,4,5,6,7,8,9,12,13,14,15,16,10,11,17,18,19,20,21],[])),(5,([0,1,2,3,4,7,8,9,10,5,6,11,12,13,14,15],[])),(6,([0,1,2,3,4,5,6,7,8,9,10,11,14,15,16,17,12,13,18,19,20,21,22,23],[]))] .nil .nil) .nil) (.node 372 [(1,([0,1,4,5,2,3,6,7,8],[]))] (.node 368 [(1,([0,1,2,5,6,3,4,7,8,9,10],[]))] .nil .nil) .nil))))))
def aFf:BT (List (Nat×(OT×List Nat))):=(.node 106 [(1,((.of [0,1,2,3,7,8,9,10,4,5,11,12,6,13,14] .nil),[11,12,1006]))] (.node 53 [(6,((.of [0,2,5,7,1,3,4,6,8,9] (.two 10 (.of [11,12,13] .nil) 11 (.of [10,12,13] .nil))),[6,8,9,1012]))] (.node 48 [(3,((.of [2,3,4,5,0,6,1,7,8,9] .nil),[6,1001])),(5,((.of [0,1,3,5,2,4,6,7,8,9,10,11] .nil),[3,5,1002,1004])),(6,((.of [0,1,2,3,5,7,4,6,8,9,10,11,12,13,14,15,16,17,18,19,20] .nil),[5,7,1004,1006])),(8,((.of [0,1,2,4,3,5,6,7,8,9,10,11,12,13] .nil),[4,1003]))] (.node 20 [(14,((.of [0,1,2,3,4,5,6,7,8,9] .nil),[1,1004])),(16,((.of [2,6,0,1,3,5,7,9,4,8,10,11,12,13,14] .nil),[0,5,7,1004,1008]))] (.node 5 [(7,((.of [1,2,0,3,4] (.two 5 (.of [6,7,8] .nil) 7 (.of [5,6,8] .nil))),[]))] .nil .nil) .nil) (.node 52 [(6,((.of [0,1,4,5,2,3,6,7] (.two 8 (.of [9,10,11] .nil) 9 (.of [8,10,11] .nil))),[6,7,1010]))] (.node 50 [(8,((.of [0,1,2,3,4,5,10,11,12,13,6,7,14,15] (.two 8 (.two 9 (.of [16,17,18,19,20,21,22,23,24,25] .nil) 16 (.of [9,17,18,19,20,21,22,23,24,25] .nil)) 16 (.of [8,9,17,18,19,20,21,22,23,24,25] .nil))),[14,15,1009]))] .nil .nil) .nil)) (.node 88 [(0,((.of [0,1,2,3,5,6,7,8,4,9,10,11,12,13,14,15,16] (.two 17 (.of [18,19,20,21] .nil) 18 (.of [17,19,20,21] .nil))),[]))] (.node 77 [(11,((.of [0,1,2,4,5,6,7,9,3,8,10,11,12,13,14,15,16,17,18] .nil),[3,1015]))] (.node 67 [(13,((.of [0,2,4,1,3,5,6] .nil),[4,1001,1003]))] .nil .nil) .nil) (.node 102 [(2,((.of [0,3,7,1,4,5,8,9] (.two 2 (.two 6 (.of [10,11,12,13] .nil) 10 (.of [6,11,12,13] .nil)) 10 (.of [2,6,11,12,13] .nil))),[1,8,1006]))] (.node 93 [(1,((.of [0,1,2,5,6,7,3,8,9,4,10,11] .nil),[8,1004]))] .nil .nil) .nil))) (.node 178 [(1,((.of [0,1,2,3,5,7,9,4,6,8,10,11,12,13,14,15,16,17] .nil),[])),(4,((.of [1,0,3,2,4,5,6] .nil),[2,1004])),(7,((.of [0,1,2,3,4,5,6,7,8,9,10,11,12,13,14,15,16,17] .nil),[])),(12,((.of [0,1,2,3,5,6,7,8,4,9,10,11,12] (.two 13 (.of [14,15,16,17,18,19,20] .nil) 18 (.of [13,14,15,16,17,19,20] .nil))),[])),(14,((.of [0,1,2,3,4,5,6,7] .nil),[]))] (.node 113 [(1,((.of [0,2] (.two 1 (.two 3 (.of [4,5,6,7] .nil) 6 (.of [3,4,5,7] .nil)) 6 (.of [1,3,4,5,7] .nil))),[2,1001])),(2,((.of [0,1,2,4,5,6,3,8,7,9,10,11] .nil),[4,5,1003])),(5,((.of [0,2,4,6,1,8,3,5,7,9,10,11,12,13,14,15] .nil),[2,4,6,1001,1003,1005]))] (.node 111 [(1,((.of [0,4,1,5,2,3,6] .nil),[5,1002]))] (.node 110 [(1,((.of [0,2,1,3,4,5] .nil),[2,1001]))] .nil .nil) .nil) (.node 173 [(1,((.of [0,1,2,3,4,5,6,7,8,9,10,12,13,14,15,11,16,17,18,19,20,21,22,23,24,26,27,28,29,25,30,31,32] .nil),[])),(5,((.of [0,1,2,3,5,6,7,8,4,9,10,11,12,13,14,15,16] (.two 17 (.of [18,19,20,21] .nil) 18 (.of [17,19,20,21] .nil))),[])),(7,((.of [0,1,2,3,4,5,6,7] .nil),[]))] (.node 123 [(3,((.of [0,1,2,5,6,7,11,3,8,9,4,10,12] .nil),[8,1004]))] .nil .nil) .nil)) (.node 233 [(4,((.of [0,1,2,3,5,6,7,8,9,4,10,11,12,13,14] .nil),[])),(5,((.of [0,1,2,3] (.two 4 (.of [5,6,7,8,9,10,11] .nil) 9 (.of [4,5,6,7,8,10,11] .nil))),[]))] (.node 204 [(0,((.of [0,1,2,6,9,10,11,3,12,13,4,5,7,8,14,15] .nil),[12,1004,1008]))] (.node 196 [(1,((.of [0,2,1,3,4,5] .nil),[2,1001]))] .nil .nil) .nil) (.node 247 [(3,((.of [0,1,2,3,4,6,7,8,9,5,10,11,12,13] .nil),[])),(5,((.of [0,1,2,3,4,6,7,8,9,5,10,11,12,13,14] .nil),[])),(7,((.of [0,1,2,3,5,6,7,8,10,4,9,11,12,13,14,15] .nil),[4,9,1011])),(22,((.of [0,1,2,3,4,6,7,8,9,5,10,11,12,13] .nil),[]))] (.node 244 [(0,((.of [0,1,2,3,5,6,7,8,4,9,10,11] .nil),[])),(4,((.of [0,1,2,3,4,6,7,8,9,11,12,13,14,16,17,18,19,22,23,5,10,15,20,21,24,25,26,27,28,29] .nil),[5,10,1024,1025]))] .nil .nil) .nil))))
def lkp {β:Type}:List (Nat×β)→Nat→Option β
 | [],_=>none
 | (k,v)::l,n=>bif Nat.beq k n then some v else lkp l n
def poX (f:FuncId)(id:Nat):Option (List Nat×List Nat):=match aFi.get f with|some l=>lkp l id|none=>none
def ptX (f:FuncId)(id:Nat):Option (OT×List Nat):=match aFf.get f with|some l=>lkp l id|none=>none
def inX:List Nat:=269::216::217::272::311::55::Ym
noncomputable abbrev Ez (g:Gl):Env:=⟨Tryz.prog,tab,g,fun f => !inX.contains f,gZ,sD,aEw⟩
theorem aTj (g:Gl):EnvOk (Ez g):={mB g []with spc:=(mB g []).spc,cln:=(mB g []).cln,tab:=(mB g []).tab,mixed:=(mB g []).mixed,names:=(mB g []).names}
noncomputable def X0:XE where
 tb:=Wx
 pcm f:=!inX.contains f
 cln:=gZ
 cd:=Db.get
 df f:=Nat.beq f 28 || Nat.beq f 15
 po:=poX
 pt:=ptX
 orc _ _:=none
 orm _ _ _:=none
noncomputable def aV (k:Nat)(fn:Func):Bool:=match fn.body with|some c=>jX X0 k c|none=>true
end
end Go.Proofs.YtaimmacnafoanaaGreatDoor.F
