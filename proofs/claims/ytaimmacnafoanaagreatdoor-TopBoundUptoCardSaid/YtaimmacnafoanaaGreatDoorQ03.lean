/- The plain semantics of the program, and what it computes. -/
import Derived.Test.YtaimmacnafoanaaGreatDoorQ02
set_option linter.unusedVariables false
set_option linter.unusedSimpArgs false
set_option maxRecDepth 100000
namespace Go.Proofs.YtaimmacnafoanaaGreatDoor.F
section
open Go Go.RowKit
variable (g:Gl)
def kO (p:List Fun)(x:Ins):Int:=if x.op=13 then(match p[x.a.toNat]? with|some f=>f.ar|none=>0)else(bE x.op).off
def xR (x:Ins):Int:=(bE x.op).on
def jT (x:Ins)(at_:Int):List Int:=
 if x.op=10 then [x.a]else if x.op=15∨x.op=16 then []else if x.op=11 then [at_+1,x.a]else [at_+1]
def iH:List Int→List Bool→Nat→Int
 | d::l,e::m,k=>if d != -1 && !e then k else iH l m (k+1)
 | _,_,_ => -1
def eB (b:Bool):V:=.bool b
section
variable {Q:Ex→List V→aA→Prop}{dst:Option Tmp}{T:List V}{H:aA}{KK:List V→aA→Prop}
theorem aLv {b:Nat}{d e:V}{place:Int}(p:List Fun)(f:Fun)(x:Ins)(hb0:hb H b=some (.row 8 [rU p f d e place] false))(ha:x.op=13→0≤x.a∧x.a < p.length)
 (hk:KK (put T dst (.tup [i64 (kO p x),i64 (xR x)])) (H++[.row 3 [aK x] false])):aZ (Eg g) (FW (Eg g)) 257 [.ptr b 0 0,aK x] dst T H KK Q:=by
 have hbl:=aE hb0;obtain⟨op,a,b'⟩:=x;obtain⟨ar,lo,sl,code⟩:=f;simp only[rU]at hb0;simp only[aK,kO,xR]at hk ha;refine en Tryz.func257 Tryz.ntmps257 Tryz.results257 rfl ⟨⟨rfl,rfl⟩,rfl⟩ ?_;simp only[ZZ,simprocAttr,i64,aK,WH,hbl,hb0];refine rg fun K hK=>?_;simp only[ZZ,simprocAttr,i64,aK,WH,hbl,hb0];apply hK;refine rg fun K hK=>?_;simp only[ZZ,simprocAttr,i64,aK,WH,hbl,hb0];refine mt (Gt g _) Tryz.func285 rfl ⟨⟨rfl,rfl⟩,rfl⟩ rfl ?_;simp only[ZZ,simprocAttr,i64,aK,WH,hbl,hb0];apply hK;refine aF fun K1 hK1=>?_;by_cases h1:op=13
 ·subst h1;obtain⟨h2,h3⟩:=ha rfl;have hx:=List.getElem?_eq_getElem (show a.toNat < p.length by omega);generalize p[a.toNat]'(by omega)=y at hx;rw[hx]at hk;obtain⟨yar,ylo,ysl,ycode⟩:=y;refine rg fun K hK=>?_;simp only[ZZ,simprocAttr,i64,aK,WH,hbl,hb0];apply hK;apply aB rfl;refine dl [0,1,2,4,3,5,6,7,8,9] (by kernel_rfl) fun K hK=>?_;simp only[ZZ,simprocAttr,i64,aK,WH,hbl,hb0,h2,h3,List.getElem?_map,hx,Option.map_some];apply hK;try simp only[WX]
  apply hK1;try clear hK1 K1
  refine rg fun K hK=>?_;simp only[ZZ,simprocAttr,i64,aK,WH,hbl,hb0];apply hK;apply aC;simp only[ZZ,simprocAttr,i64,aK,WH,hbl,hb0];exact hk
 ·have h1':(op == 13)=false:=by simpa using h1
  rw[if_neg h1]at hk;refine rg fun K hK=>?_;simp only[ZZ,simprocAttr,i64,aK,WH,hbl,hb0,h1'];apply hK;apply aD rfl;apply aH;simp only[WX];apply hK1;try clear hK1 K1
  refine rg fun K hK=>?_;simp only[ZZ,simprocAttr,i64,aK,WH,hbl,hb0];apply hK;apply aC;simp only[ZZ,simprocAttr,i64,aK,WH,hbl,hb0];exact hk
theorem Ji (d:List Int):∀(e:List Bool)(k:Nat),iH d e k = -1∨∃ i:Nat,iH d e k=(k+i:Nat)∧i < d.length∧i < e.length∧e[i]?=some false∧∃ x,d[i]?=some x∧x≠-1:=by
 induction d with
 | nil=>intro e k;left;rfl
 | cons x d ih=>
  intro e k;cases e with
  | nil=>left;rfl
  | cons y e=>
   simp only[iH];split
   ·rename_i h;simp only[Bool.and_eq_true,bne_iff_ne,Bool.not_eq_true']at h;exact .inr ⟨0,rfl,by simp,by simp,by simp[h.2],x,rfl,h.1⟩
   ·rcases ih e (k+1)with h|⟨i,h1,h2,h3,h4,h5⟩
    ·exact .inl h
    ·exact .inr ⟨i+1,by rw[h1];congr 1;omega,by simp;omega,by simp;omega,by simpa using h4,by simpa using h5⟩
theorem qM (d:List Int)(e:List Bool)(k:Nat)(h:∀ i x y,i < k→d[i]?=some x→e[i]?=some y→(x != -1 && !y)=false)(hd:k≤d.length)(hde:d.length=e.length):∀ j,iH d e j=iH (d.drop k) (e.drop k) (j+k):=by
 induction k generalizing d e with
 | zero=>intro j;rfl
 | succ k ih=>
  intro j;cases d with
  | nil=>simp at hd
  | cons x d=>
   cases e with
   | nil=>simp at hde
   | cons y e=>
    have h0:=h 0 x y (by omega) rfl rfl;rw[List.drop_succ_cons,List.drop_succ_cons,←Nat.add_assoc,Nat.add_right_comm,←ih d e (fun i x y hi h1 h2=>h (i+1) x y (by omega) (by simpa using h1) (by simpa using h2)) (by simpa using hd) (by simpa using hde) (j+1)];simp only[iH,h0,Bool.false_eq_true,if_false]
theorem aLw {b bd be:Nat}{place:Int}(p:List Fun)(f:Fun)(d:List Int)(e:List Bool)(hde:d.length=e.length)(hdl:d.length≤4294967296)(hb0:hb H b=some (.row 8 [rU p f (.sl bd 0 d.length) (.sl be 0 e.length) place] false))(hbd:hb H bd=some (.row 1 (d.map eI) false))(hbe:hb H be=some (.row 1 (e.map eB) false))
 (hk:KK (put T dst (.int .i64 (iH d e 0))) H):aZ (Eg g) (FW (Eg g)) 256 [.ptr b 0 0] dst T H KK Q:=by
 have hbl:=aE hb0;obtain⟨ar,lo,sl,code⟩:=f;simp only[rU]at hb0;refine en Tryz.func256 Tryz.ntmps256 Tryz.results256 rfl ⟨⟨rfl,rfl⟩,rfl⟩ ?_;simp only[ZZ,simprocAttr,i64,eI,hb0,hbd,hbe];refine rg fun K hK=>?_;simp only[ZZ,simprocAttr,i64,eI,hb0,hbd,hbe];apply hK;refine aF fun K1 hK1=>?_;refine rg fun K hK=>?_;simp only[ZZ,simprocAttr,i64,eI,hb0,hbd,hbe];apply hK;refine aT ?_;refine cB (fun n T' H'=>∃ k:Nat,n=d.length - k∧k≤d.length∧T'.length=29∧gt T' 0 = .ptr b 0 0∧gt T' 8 = .sl bd 0 d.length∧gt T' 9 = .int .i64 d.length∧gt T' 10 = .int .i64 k∧H'=H∧∀ i x y,i < k→d[i]?=some x→e[i]?=some y→(x != -1 && !y)=false) (n:=d.length) ⟨0,rfl,by omega,rfl,rfl,rfl,rfl,rfl,rfl,fun i x y h=>by omega⟩ ?_;rintro n T' H' ⟨k,rfl,hk',hT,e0,e8,e9,e10,rfl,hno⟩;rw[eW 29 T' hT];simp only[show List.range 29=[0,1,2,3,4,5,6,7,8,9,10,11,12,13,14,15,16,17,18,19,20,21,22,23,24,25,26,27,28]from rfl,List.map_cons,List.map_nil,e0,e8,e9,e10];by_cases hkm:(k:Int) < d.length
 ·have hkn:k < d.length:=by omega
  have hx:=List.getElem?_eq_getElem hkn;generalize d[k]=x at hx;have hy:=List.getElem?_eq_getElem (show k < e.length by omega);generalize e[k]'(by omega)=y at hy;have hkm':(k:Int) < e.length:=by omega
  refine rg fun K hK=>?_;simp only[ZZ,simprocAttr,i64,eI,hb0,hbd,hbe,hkm];apply hK;refine ct rfl fun K hK=>?_;apply aH;simp only[WX];apply hK;refine bl fun K2 hK2=>?_;refine rg fun K hK=>?_;simp only[ZZ,simprocAttr,i64,eI,hb0,hbd,hbe,hkm,List.getElem?_map,hx,Option.map_some];apply hK;have fin:(x != -1 && !y)=false→∀ i x y,i < k+1→d[i]?=some x→e[i]?=some y→(x != -1 && !y)=false:=by
   intro h i x' y' hi h1 h2;by_cases hik:i=k
   ·subst hik;rw[hx]at h1;rw[hy]at h2;cases h1;cases h2;exact h
   ·exact hno i x' y' (by omega) h1 h2
  cases h1:x != -1
  ·refine rg fun K hK=>?_;simp only[ZZ,simprocAttr,i64,eI,hb0,hbd,hbe,h1];apply hK;apply aD rfl;apply aH;simp only[WX];apply hK2;try clear hK2 K2
   refine rl fun K hK=>?_;simp only[ZZ,simprocAttr,i64,eI,hb0,hbd,hbe,IntWalk.i64_in (k+1) (by omega)];apply hK;try simp only[WX]
   exact⟨d.length - (k+1),by omega,k+1,rfl,by omega,rfl,rfl,rfl,rfl,rfl,trivial,fin (by rw[h1];rfl)⟩
  ·cases y
   ·refine rg fun K hK=>?_;simp only[ZZ,simprocAttr,i64,eI,hb0,hbd,hbe,h1,hkm',List.getElem?_map,hy,Option.map_some,eB];apply hK;apply aB rfl;refine rg fun K hK=>?_;simp only[ZZ,simprocAttr,i64,eI,hb0,hbd,hbe];apply hK;apply aC;simp only[ZZ,simprocAttr,i64,eI,hb0,hbd,hbe];rw[qM d e k hno hk' hde 0]at hk;rw[List.drop_eq_getElem_cons hkn,List.drop_eq_getElem_cons (show k < e.length by omega)]at hk;rw[List.getElem?_eq_getElem hkn,Option.some.injEq]at hx;rw[List.getElem?_eq_getElem (show k < e.length by omega),Option.some.injEq]at hy;simp only[iH,hx,hy,h1,Bool.not_false,Bool.and_self,if_true,Nat.zero_add]at hk;exact hk
   ·refine rg fun K hK=>?_;simp only[ZZ,simprocAttr,i64,eI,hb0,hbd,hbe,h1,hkm',List.getElem?_map,hy,Option.map_some,eB];apply hK;apply aD rfl;apply aH;simp only[WX];apply hK2;try clear hK2 K2
    refine rl fun K hK=>?_;simp only[ZZ,simprocAttr,i64,eI,hb0,hbd,hbe,IntWalk.i64_in (k+1) (by omega)];apply hK;try simp only[WX]
    exact⟨d.length - (k+1),by omega,k+1,rfl,by omega,rfl,rfl,rfl,rfl,rfl,trivial,fin (by simp)⟩
 ·refine rg fun K hK=>?_;simp only[ZZ,simprocAttr,i64,eI,hb0,hbd,hbe,hkm];apply hK;refine cf rfl fun K hK=>?_;apply bZ;simp only[WX,if_true];apply hK1;obtain rfl:d.length=k:=by omega
  refine rg fun K hK=>?_;simp only[ZZ,simprocAttr,i64,eI,hb0,hbd,hbe];apply hK;apply aC;simp only[ZZ,simprocAttr,i64,eI,hb0,hbd,hbe];rw[qM d e d.length hno (Nat.le_refl _) hde 0,List.drop_length]at hk;exact hk
end
end
section
open Go Go.RowKit
variable (g:Gl)
theorem aBo (n:Nat)(h:n < 4294967296):pD .u64 n 4294967295=n:=by
 unfold pD;have e:(BitVec.ofInt IntKind.u64.bits (n:Int) &&& BitVec.ofInt IntKind.u64.bits 4294967295).toNat=n:=by
  rw[BitVec.toNat_and];have h1:(BitVec.ofInt IntKind.u64.bits (n:Int)).toNat=n:=by
   rw[BitVec.ofInt_natCast,BitVec.toNat_ofNat];exact Nat.mod_eq_of_lt (Nat.lt_trans h (by decide))
  have h2:(BitVec.ofInt IntKind.u64.bits 4294967295).toNat=2 ^ 32 - 1:=by decide
  rw[h1,h2,Nat.and_two_pow_sub_one_eq_mod];exact Nat.mod_eq_of_lt h
 rw[e];exact IntWalk.u64_in _ (by omega)
theorem Cy (n:Nat)(h:n < 4294967296):Ug .u64 n 32=0:=by
 show((n:Int)).fdiv (2 ^ 32)=0;rw[Int.fdiv_eq_ediv_of_nonneg _ (by decide)];omega
theorem aJc (n:Nat)(h:n < 4294967296):PC P0 g 303 [.int .u64 1,.int .u64 n] (.ret (.tup [.int .u64 0,.int .u64 n])):=by
 have h1:pD .u64 1 4294967295=1:=by decide
 have h2:Ug .u64 1 32=0:=by decide
 have h3:=aBo n h;have h4:=Cy n h;have h5:IntKind.u64.wrap (1*(n:Int))=n:=by rw[Int.one_mul];exact IntWalk.u64_in _ (by omega)
 have h6:IntKind.u64.wrap (0*(n:Int))=0:=by rw[Int.zero_mul];rfl
 have h7:IntKind.u64.wrap (0+0)=0:=rfl;have h8:IntKind.u64.wrap (1*0)=0:=rfl;have h9:IntKind.u64.wrap (0*0)=0:=rfl;have h10:pD .u64 0 4294967295=0:=by decide
 have h11:Ug .u64 0 32=0:=by decide
 have h12:IntKind.u64.wrap 0=0:=rfl;refine eC Tryz.func303 Tryz.ntmps303 Tryz.results303 rfl ?_;simp only[ZZ,simprocAttr,i64,h1,h2,h3,h4,h5,h6,h7,h8,h9,h10,h11,h12];refine rg fun K hK=>?_;simp only[ZZ,simprocAttr,i64,h1,h2,h3,h4,h5,h6,h7,h8,h9,h10,h11,h12];apply hK;refine rg fun K hK=>?_;simp only[ZZ,simprocAttr,i64,h1,h2,h3,h4,h5,h6,h7,h8,h9,h10,h11,h12];apply hK;refine rg fun K hK=>?_;simp only[ZZ,simprocAttr,i64,h1,h2,h3,h4,h5,h6,h7,h8,h9,h10,h11,h12];apply hK;refine rg fun K hK=>?_;simp only[ZZ,simprocAttr,i64,h1,h2,h3,h4,h5,h6,h7,h8,h9,h10,h11,h12];apply hK;refine rg fun K hK=>?_;simp only[ZZ,simprocAttr,i64,h1,h2,h3,h4,h5,h6,h7,h8,h9,h10,h11,h12];apply hK;refine rg fun K hK=>?_;simp only[ZZ,simprocAttr,i64,h1,h2,h3,h4,h5,h6,h7,h8,h9,h10,h11,h12];apply hK;refine rg fun K hK=>?_;simp only[ZZ,simprocAttr,i64,h1,h2,h3,h4,h5,h6,h7,h8,h9,h10,h11,h12];apply hK;refine rg fun K hK=>?_;simp only[ZZ,simprocAttr,i64,h1,h2,h3,h4,h5,h6,h7,h8,h9,h10,h11,h12];apply hK;refine rg fun K hK=>?_;simp only[ZZ,simprocAttr,i64,h1,h2,h3,h4,h5,h6,h7,h8,h9,h10,h11,h12];apply hK;refine rg fun K hK=>?_;simp only[ZZ,simprocAttr,i64,h1,h2,h3,h4,h5,h6,h7,h8,h9,h10,h11,h12];apply hK;refine rg fun K hK=>?_;simp only[ZZ,simprocAttr,i64,h1,h2,h3,h4,h5,h6,h7,h8,h9,h10,h11,h12];apply hK;refine rg fun K hK=>?_;simp only[ZZ,simprocAttr,i64,h1,h2,h3,h4,h5,h6,h7,h8,h9,h10,h11,h12];apply hK;apply aC;simp only[ZZ,simprocAttr,i64,h1,h2,h3,h4,h5,h6,h7,h8,h9,h10,h11,h12]
theorem aJp (n:Nat)(h:n < 4294967296):PC P0 g 255 [.int .u64 1,.int .u64 n] (.ret (.tup [.int .u64 0,.int .u64 n])):=by
 refine eC Tryz.func255 Tryz.ntmps255 Tryz.results255 rfl ?_;simp only[ZZ,simprocAttr,i64];refine rg fun K hK=>?_;simp only[ZZ,simprocAttr,i64];apply hK;refine cf rfl fun K hK=>?_;apply aH;simp only[WX];apply hK;refine rg fun K hK=>?_;simp only[ZZ,simprocAttr,i64];refine mt (aJc g n h) Tryz.func303 rfl ⟨⟨rfl,rfl⟩,rfl⟩ rfl ?_;simp only[ZZ,simprocAttr,i64];apply hK;refine rg fun K hK=>?_;simp only[ZZ,simprocAttr,i64];apply hK;apply aC;simp only[ZZ,simprocAttr,i64]
def Ag (k n:Nat):List Int:=List.replicate k (-1)++List.replicate (n - k) 0
theorem Hy (k n:Nat)(h:k≤n):(Ag k n).length=n:=by simp[Ag];omega
theorem Gy (k n:Nat)(hk:k≤n):List.take k ((Ag k n).map eI)++(List.take (n - k) (List.take k ((Ag k n).map eI))++List.drop (k+min k (n - k)) ((Ag k n).map eI))=(Ag (k+min k (n - k)) n).map eI:=by
 simp only[←List.map_take,←List.map_drop,←List.map_append];congr 1;apply List.ext_getElem
 ·simp[Ag];omega
 ·intro i h1 h2;simp only[Ag,List.getElem_append,List.length_take,List.length_append,List.length_replicate,List.getElem_take,List.getElem_drop,List.getElem_replicate];simp only[Ag,List.length_append,List.length_replicate]at h2;repeat' split
  all_goals first|rfl|omega
section
variable {Q:Ex→List V→aA→Prop}{dst:Option Tmp}{T:List V}{H:aA}{KK:List V→aA→Prop}
theorem Lu {b:Nat}(n:Nat)(hn0:1≤n)(hn:n≤1024)(hb0:hb H b=some (.row 1 [eI (-1)] false))
 (hk:KK (put T dst (.sl H.length 0 n)) (H++[.row 1 ((List.replicate n (-1)).map eI) false])):aZ (Eg g) (FW (Eg g)) 187 [.sl b 0 1,.int .i64 n] dst T H KK Q:=by
 have hbl:=aE hb0;have h1:¬(n:Int) < 0:=by omega
 have h2:IntKind.u64.wrap (n:Int)=n:=IntWalk.u64_in _ (by omega);have h3:IntKind.u64.wrap 1=1:=rfl;have h4:¬(9223372036854775807:Int) < n:=by omega
 have h5:IntKind.i64.wrap (n:Int)=n:=IntWalk.i64_in _ (by omega);have h6:(n:Int)≤1073741824:=by omega
 refine en Tryz.func187 Tryz.ntmps187 Tryz.results187 rfl ⟨⟨rfl,rfl⟩,rfl⟩ ?_;simp only[ZZ,simprocAttr,i64];refine rg fun K hK=>?_;simp only[ZZ,simprocAttr,i64];apply hK;try clear hK K
 refine aF fun K1 hK1=>?_;refine rg fun K hK=>?_;simp only[ZZ,simprocAttr,i64,h1];apply hK;try clear hK K
 apply aD rfl;apply aH;simp only[WX];apply hK1;refine rg fun K hK=>?_;simp only[ZZ,simprocAttr,i64,h2,h3];refine mt (aJp g n (by omega)) Tryz.func255 rfl ⟨⟨rfl,rfl⟩,rfl⟩ rfl ?_;simp only[ZZ,simprocAttr,i64];apply hK;try clear hK K
 refine aF fun K1 hK1=>?_;refine rg fun K hK=>?_;simp only[ZZ,simprocAttr,i64,h4];apply hK;try clear hK K
 apply aD rfl;apply aH;simp only[WX];apply hK1;refine rg fun K hK=>?_;simp only[ZZ,simprocAttr,i64,h5,h6];apply hK;try clear hK K
 have hz:List.replicate n (V.int .i64 0)=(List.replicate n (0:Int)).map eI:=by rw[List.map_replicate];rfl
 rw[hz];refine rg fun K hK=>?_;simp only[ZZ,simprocAttr,i64,WH,hbl,hb0,List.length_replicate];apply hK;try clear hK K
 have e1:List.take n [eI (-1)]++List.drop (min 1 n) (List.map eI (List.replicate n 0))=(Ag 1 n).map eI:=by
  rw[List.take_of_length_le (by simpa using hn0),Nat.min_eq_left hn0,←List.map_drop,List.drop_replicate];simp[Ag,List.map_append]
 have e2:min 1 n=1:=Nat.min_eq_left hn0;rw[e1,e2];refine bl fun K hK=>?_;refine cB (fun m T' H'=>∃ k:Nat,m=n - k∧1≤k∧k≤n∧T'.length=48∧gt T' 7 = .sl H.length 0 n∧gt T' 8 = .int .i64 k∧H'=H++[.row 1 ((Ag k n).map eI) false]) (n:=n - 1) ⟨1,rfl,by omega,hn0,rfl,rfl,rfl,rfl⟩ ?_;rintro m T' H' ⟨k,rfl,hk1,hkn,hT,e7,e8,rfl⟩;rw[eW 48 T' hT];simp only[show List.range 48=[0,1,2,3,4,5,6,7,8,9,10,11,12,13,14,15,16,17,18,19,20,21,22,23,24,25,26,27,28,29,30,31,32,33,34,35,36,37,38,39,40,41,42,43,44,45,46,47]from rfl,List.map_cons,List.map_nil,e7,e8];have hl:=Hy k n hkn;by_cases hlt:(k:Int) < n
 ·have f1:(0:Int)≤k:=by omega
  have f2:(k:Int)≤n:=by omega
  refine aF fun K1 hK1=>?_;refine rg fun K hK=>?_;simp only[ZZ,simprocAttr,i64,hlt];apply hK;try clear hK K
  apply aB rfl;apply aH;simp only[WX];apply hK1;refine FW.last fun K2 hK2=>aT ?_;refine dl [0,1,2,4,5,3,6,7,8,9] (by kernel_rfl) fun K hK=>?_;have f3:aQ 1 (List.take k ((Ag k n).map eI))=true:=by rw[←List.map_take];exact Vk _
  have f4:k+(n - k)≤n:=by omega
  have f5:IntKind.i64.wrap ((k:Int)+(min k (n - k):Nat))=(k+min k (n - k):Nat):=by rw[IntWalk.i64_in _ (by omega)];omega
  have f6:(List.take k ((Ag k n).map eI)).length=k:=by simp[hl];omega
  simp only[ZZ,simprocAttr,i64,f1,f2,qP _ _ _ f1 f2,tR _ _ _ f1 f2,WH,Nat.sub_zero,hl,hkn,f3,f4,Gy k n hkn,List.length_take,f6];apply hK;try clear hK K
  simp only[WX];apply hK2;exact⟨n - (k+min k (n - k)),by omega,k+min k (n - k),rfl,by omega,by omega,rfl,rfl,congrArg _ f5,by first|rfl|skip⟩
 ·obtain rfl:n=k:=by omega
  refine aF fun K1 hK1=>?_;refine rg fun K hK=>?_;simp only[ZZ,simprocAttr,i64,hlt];apply hK;try clear hK K
  apply aD rfl;apply bZ;simp only[WX,if_true];apply hK;try clear hK K
  have e3:Ag n n=List.replicate n (-1):=by simp[Ag]
  rw[e3];refine rg fun K hK=>?_;simp only[ZZ,simprocAttr,i64];apply hK;try clear hK K
  apply aC;simp only[ZZ,simprocAttr,i64];exact hk
end
end
section
open Go Go.RowKit
variable (g:Gl)
structure ChkH (H:aA)(b bd be:Nat)(p:List Fun)(f:Fun)(d:List Int)(e:List Bool)(place:Int):Prop where
 obj:hb H b=some (.row 8 [rU p f (.sl bd 0 d.length) (.sl be 0 e.length) place] false)
 dep:hb H bd=some (.row 1 (d.map eI) false)
 don:hb H be=some (.row 1 (e.map eB) false)
 n1:b≠bd
 n2:b≠be
 n3:bd≠be
def nD (H H':aA)(x:Nat→Bool):Prop:=H.length≤H'.length∧∀ c,c < H.length→x c=false→hb H' c=hb H c
theorem nD.refl (H:aA)(x:Nat→Bool):nD H H x:=⟨Nat.le_refl _,fun _ _ _=>rfl⟩
theorem nD.trans {H H1 H2:aA}{x:Nat→Bool}(h:nD H H1 x)(k:nD H1 H2 x):nD H H2 x:=⟨Nat.le_trans h.1 k.1,fun c hc hx=>(k.2 c (Nat.lt_of_lt_of_le hc h.1) hx).trans (h.2 c hc hx)⟩
theorem nD.push {H:aA}(l:aA)(x:Nat→Bool):nD H (H++l) x:=⟨by simp,fun c hc _=>bA l hc⟩
theorem nD.set {H:aA}{b:Nat}(y:Blk){x:Nat→Bool}(hx:x b=true):nD H (H.set b y) x:=⟨by simp,fun c hc h=>aG (by rintro rfl;rw[hx]at h;cases h) _⟩
theorem Ga {tab:cR}{J:aA→Prop}{ops:Array Oper}{d:Option Tmp}{t:TypeId}{x:Operand}{ty:TypeId}{p:String}{af:Array Edge}{T:List V}{H:aA}{gu:Option (Nat×Bool)}{b i j:Nat}{v:V}{y:Blk}(hJ:∀ H',J H'→hb H' b=some y)(h1:ev T x = .ptr b i j)(h2:hb H b=some y)(h3:Iz (tab t) (some y) i j=some v) :
 nZ tab J true ops ⟨d,.load t x,ty,p,af,gu⟩ T H:=aFj h1 (by rw[h2];exact h3) fun H' h=>by rw[hJ H' h,h2]
def noX:Nat→Bool:=fun _=>false
section
variable {Q:Ex→List V→aA→Prop}{dst:Option Tmp}{T:List V}{H:aA}{KK:List V→aA→Prop}
theorem aDw (p:List Fun)(fn:Nat)(f:Fun)(hf:p[fn]?=some f)(hn0:1≤f.code.length)(hn:f.code.length≤1024)
 (hk:∀ H' b bd be,nD H H' noX→H.length≤b→H.length≤bd→H.length≤be→ChkH H' b bd be p f (List.replicate f.code.length (-1)) (List.replicate f.code.length false) 0→KK (put T dst (.ptr b 0 0)) H') :
 aZ (Eg g) (FW (Eg g)) 102 [.imm (p.map bL),.int .i64 fn] dst T H KK Q:=by
 have hfl:(fn:Int) < p.length:=by have:=(List.getElem?_eq_some_iff.1 hf).1;omega
 obtain⟨ar,lo,sl,code⟩:=f;simp only at hn0 hn hk;have hle:(code.length:Int)≤1073741824:=by omega
 have hz:List.replicate code.length (V.bool false)=(List.replicate code.length false).map eB:=by rw[List.map_replicate];rfl
 refine en Tryz.func102 Tryz.ntmps102 Tryz.results102 rfl ⟨⟨rfl,rfl⟩,rfl⟩ ?_;simp only[ZZ,simprocAttr,i64];refine rg fun K hK=>?_;simp only[ZZ,simprocAttr,i64];apply hK;try clear hK K
 refine rg fun K hK=>?_;simp only[ZZ,simprocAttr,i64,hfl,List.getElem?_map,hf,Option.map_some,WH];apply hK;try clear hK K
 have hrow:∀ l,hb (H++(.row 4 [bL ⟨ar,lo,sl,code⟩] false::l)) H.length=some (.row 4 [bL ⟨ar,lo,sl,code⟩] false):=fun l=>by rw[dS];rfl
 refine td (fun H'=>hb H' H.length=some (.row 4 [bL ⟨ar,lo,sl,code⟩] false)) (OT.of [0,1,3,4,5,7,8,9] (.two 2 (.two 6 (OT.of [10,11,12,13] .nil) 10 (OT.of [6,11,12,13] .nil)) 10 (OT.of [2,6,11,12,13] .nil))) [1,4,8] (by kernel_rfl) fun K hK=>?_;simp only[ZZ,simprocAttr,i64,WH,gV 187 ⟨rfl,rfl,rfl⟩,hle];refine⟨Ga (fun _ h=>h) rfl (hrow _) (by simp only[ZZ,simprocAttr];rfl),Ga (fun _ h=>h) rfl (hrow _) (by simp only[ZZ,simprocAttr];rfl),Ga (fun _ h=>h) rfl (hrow _) (by simp only[ZZ,simprocAttr];rfl),⟨?_,?_⟩,?_⟩
 ·refine Lu g code.length hn0 hn ?_ ?_
  ·rw[bO (n:=H.length) _ 1 rfl];rfl
  simp only[ZZ,simprocAttr,i64,WH,gV 187 ⟨rfl,rfl,rfl⟩,hle,hz];refine⟨rfl,hK _ _ ?_⟩;clear hK K;apply aC;simp only[ZZ,simprocAttr,i64,WH];exact hk _ (H.length+4) (H.length+2) (H.length+3) (nD.push _ _) (by omega) (by omega) (by omega) ⟨by rw[bO (n:=H.length) _ 4 rfl];simp only[rU,List.length_replicate];rfl,by rw[bO (n:=H.length) _ 2 rfl];rfl,by rw[bO (n:=H.length) _ 3 rfl];rfl,by omega,by omega,by omega⟩
 ·refine Lu g code.length hn0 hn ?_ ?_
  ·rw[bO (n:=H.length) _ 1 rfl];rfl
  simp only[ZZ,simprocAttr,i64,WH,gV 187 ⟨rfl,rfl,rfl⟩,hle,hz];refine⟨rfl,hK _ _ ?_⟩;clear hK K;apply aC;simp only[ZZ,simprocAttr,i64,WH];exact hk _ (H.length+4) (H.length+3) (H.length+2) (nD.push _ _) (by omega) (by omega) (by omega) ⟨by rw[bO (n:=H.length) _ 4 rfl];simp only[rU,List.length_replicate];rfl,by rw[bO (n:=H.length) _ 3 rfl];rfl,by rw[bO (n:=H.length) _ 2 rfl];rfl,by omega,by omega,by omega⟩
 ·refine Lu g code.length hn0 hn ?_ ?_
  ·rw[bO (n:=H.length) _ 2 rfl];rfl
  simp only[ZZ,simprocAttr,i64,WH,gV 187 ⟨rfl,rfl,rfl⟩,hle,hz];refine⟨rfl,hK _ _ ?_⟩;clear hK K;apply aC;simp only[ZZ,simprocAttr,i64,WH];exact hk _ (H.length+4) (H.length+3) (H.length+1) (nD.push _ _) (by omega) (by omega) (by omega) ⟨by rw[bO (n:=H.length) _ 4 rfl];simp only[rU,List.length_replicate];rfl,by rw[bO (n:=H.length) _ 3 rfl];rfl,by rw[bO (n:=H.length) _ 1 rfl];rfl,by omega,by omega,by omega⟩
theorem aLu {b:Nat}{d e:V}{place:Int}(p:List Fun)(f:Fun)(x:Ins)(at_:Nat)(hx:f.code[at_]?=some x)(hc:f.code.length≤1024)(hb0:hb H b=some (.row 8 [rU p f d e place] false))
 (hk:∀ l v,Acc H (H++l) 1 v ((jT x at_).map eI)→KK (put T dst v) (H++l)):aZ (Eg g) (FW (Eg g)) 258 [.ptr b 0 0,.int .i64 at_] dst T H KK Q:=by
 have hbl:=aE hb0;obtain⟨op,a,b'⟩:=x;obtain⟨ar,lo,sl,code⟩:=f;simp only at hx hc;have hal:=(List.getElem?_eq_some_iff.1 hx).1;have hal':(at_:Int) < code.length:=by omega
 have hw:IntKind.i64.wrap ((at_:Int)+1)=at_+1:=IntWalk.i64_in _ (by omega);simp only[rU]at hb0;simp only[jT]at hk;refine en Tryz.func258 Tryz.ntmps258 Tryz.results258 rfl ⟨⟨rfl,rfl⟩,rfl⟩ ?_;simp only[ZZ,simprocAttr,i64,aK,WH,hbl,hb0,hw];refine rg fun K hK=>?_;simp only[ZZ,simprocAttr,i64,aK,WH,hbl,hb0,hw];apply hK;refine rg fun K hK=>?_;simp only[ZZ,simprocAttr,i64,aK,WH,hbl,hb0,hw,hal',List.getElem?_map,hx,Option.map_some];apply hK;refine aF fun K1 hK1=>?_;refine rg fun K hK=>?_;simp only[ZZ,simprocAttr,i64,aK,WH,hbl,hb0,hw];apply hK;refine aT ?_;by_cases h1:op=10
 ·subst h1;refine rg fun K hK=>?_;simp only[ZZ,simprocAttr,i64,aK,WH,hbl,hb0,hw];apply hK;apply aB rfl;refine rg fun K hK=>?_;simp only[ZZ,simprocAttr,i64,aK,WH,hbl,hb0,hw];apply hK;apply aC;simp only[ZZ,simprocAttr,i64,aK,WH,hbl,hb0,hw];exact hk _ _ ⟨fun c hc=>bA _ hc,by simp,.inr ⟨H.length+1,by omega,rfl,by rw[bO (n:=H.length) _ 1 rfl];rfl,by simp⟩⟩
 have h1':(op == 10)=false:=by simpa using h1
 refine rg fun K hK=>?_;simp only[ZZ,simprocAttr,i64,aK,WH,hbl,hb0,hw,h1'];apply hK;apply aD rfl;refine aF fun K3 hK3=>?_;by_cases h2:op=15
 ·subst h2;refine rg fun K3 hK3=>?_;simp only[ZZ,simprocAttr,i64,aK,WH,hbl,hb0,hw];apply hK3;try clear hK3 K3
  apply aB rfl;apply aH;simp only[WX];apply hK3;try clear hK3 K3
  apply aB rfl;refine rg fun K hK=>?_;simp only[ZZ,simprocAttr,i64,aK,WH,hbl,hb0,hw];apply hK;apply aC;simp only[ZZ,simprocAttr,i64,aK,WH,hbl,hb0,hw];exact hk _ _ ⟨fun c hc=>bA _ hc,by simp,.inl ⟨rfl,rfl⟩⟩
 have h2':(op == 15)=false:=by simpa using h2
 refine rg fun K3 hK3=>?_;simp only[ZZ,simprocAttr,i64,aK,WH,hbl,hb0,hw,h2'];apply hK3;try clear hK3 K3
 apply aD rfl;by_cases h3:op=16
 ·subst h3;refine rl fun K hK=>?_;simp only[ZZ,simprocAttr,i64,aK,WH,hbl,hb0,hw];apply hK;try simp only[WX]
  apply hK3;try clear hK3 K3
  apply aB rfl;refine rg fun K hK=>?_;simp only[ZZ,simprocAttr,i64,aK,WH,hbl,hb0,hw];apply hK;apply aC;simp only[ZZ,simprocAttr,i64,aK,WH,hbl,hb0,hw];exact hk _ _ ⟨fun c hc=>bA _ hc,by simp,.inl ⟨rfl,rfl⟩⟩
 have h3':(op == 16)=false:=by simpa using h3
 refine rl fun K hK=>?_;simp only[ZZ,simprocAttr,i64,aK,WH,hbl,hb0,hw,h3'];apply hK;try simp only[WX]
 apply hK3;try clear hK3 K3
 apply aD rfl;by_cases h4:op=11
 ·subst h4;refine rg fun K hK=>?_;simp only[ZZ,simprocAttr,i64,aK,WH,hbl,hb0,hw];apply hK;apply aB rfl;refine rg fun K hK=>?_;simp only[ZZ,simprocAttr,i64,aK,WH,hbl,hb0,hw];apply hK;apply aC;simp only[ZZ,simprocAttr,i64,aK,WH,hbl,hb0,hw];exact hk _ _ ⟨fun c hc=>bA _ hc,by simp,.inr ⟨H.length+1,by omega,rfl,by rw[bO (n:=H.length) _ 1 rfl];rfl,by simp⟩⟩
 have h4':(op == 11)=false:=by simpa using h4
 refine rg fun K hK=>?_;simp only[ZZ,simprocAttr,i64,aK,WH,hbl,hb0,hw,h4'];apply hK;apply aD rfl;apply aH;simp only[WX];apply hK1;refine rg fun K hK=>?_;simp only[ZZ,simprocAttr,i64,aK,WH,hbl,hb0,hw];apply hK;apply aC;simp only[ZZ,simprocAttr,i64,aK,WH,hbl,hb0,hw];rw[if_neg h1,if_neg (by omega),if_neg h4]at hk;exact hk _ _ ⟨fun c hc=>bA _ hc,by simp,.inr ⟨H.length+1,by omega,rfl,by rw[bO (n:=H.length) _ 1 rfl];rfl,by simp⟩⟩
end
end
section
open Go Go.RowKit
def mU (l:Nat)(J:Nat→List V→aA→Prop)(n:Nat)(Q:Ex→List V→aA→Prop):Ex→List V→aA→Prop
 | .goto l',T,H=>l'=l∧∃ m,m < n∧J m T H
 | e,T,H=>Q e T H
theorem WG:(∀ l J n Q T H,mU l J n Q .normal T H=Q .normal T H)∧(∀ l J n Q T H,mU l J n Q .ret T H=Q .ret T H)∧(∀ l J n Q T H i,mU l J n Q (.exit i) T H=Q (.exit i) T H)∧(∀ l J n Q T H v,mU l J n Q (.panic v) T H=Q (.panic v) T H)∧(∀ l J n Q T H i,mU l J n Q (.goto i) T H=(i=l∧∃ m,m < n∧J m T H)):=
 ⟨fun _ _ _ _ _ _=>rfl,fun _ _ _ _ _ _=>rfl,fun _ _ _ _ _ _ _=>rfl,fun _ _ _ _ _ _ _=>rfl,fun _ _ _ _ _ _ _=>rfl⟩
variable {E:Env}{T:List V}{H:aA}{Q:Ex→List V→aA→Prop}
theorem FW.scope1 {a r:Code}{l n:Nat}(J:Nat→List V→aA→Prop)(ha:findLabel a l=none)(h0:FW E a (fM (J n) (mU l (fun _ _ _=>False) 0 Q)) T H)
 (pass:∀ n T H,J n T H→FW E r (mU l J n Q) T H):FW E (.scope (.seq a (.seq (.label l) r))) Q T H:=by
 have hf:findLabel (.seq a (.seq (.label l) r)) l=some (.seq .skip r):=by simp[findLabel,ha]
 have back:∀ n T H,J n T H→FW E r (fun e T' H'=>match e with | .goto l'=>(∃ r',findLabel (.seq a (.seq (.label l) r)) l'=some r')∧∃ m,m < n∧(l'=l∧∃ k,k≤m∧J k T' H')|e=>Q e T' H') T H:=by
  intro n T H hJ;refine FW.mono (pass n T H hJ) ?_;intro e T' H' h;cases e<;>try exact h
  obtain⟨rfl,m,hm,hJ'⟩:=h;exact⟨⟨_,hf⟩,m,hm,rfl,m,Nat.le_refl _,hJ'⟩
 refine FW.scope (fun n l' T H=>l'=l∧∃ k,k≤n∧J k T H) (.inr ⟨n,?_⟩) ?_
 ·refine FW.seq (FW.mono h0 ?_);intro e T' H' h;cases e with
  | normal=>
   refine FW.seq (FW.label ?_);refine FW.mono (back n T' H' h) ?_;intro e T'' H'' h;cases e<;>try exact h
   obtain⟨h1,m,hm,rfl,k,hk,hJ'⟩:=h;exact⟨h1,rfl,k,by omega,hJ'⟩
  | goto l'=>obtain⟨_,m,hm,_⟩:=h;exact absurd hm (by omega)
  | exit id=>exact h
  | ret=>exact h
  | panic v=>exact h
 ·rintro n' l' r' T' H' hfl ⟨rfl,k,hk,hJ⟩;rw[hf]at hfl;cases hfl;refine FW.seq (aH ?_);refine FW.mono (back k T' H' hJ) ?_;intro e T'' H'' h;cases e<;>try exact h
  obtain⟨h1,m,hm,rfl,j,hj,hJ'⟩:=h;exact⟨h1,m,by omega,rfl,j,hj,hJ'⟩
end
section
open Go Go.RowKit
variable (g:Gl)
def Bi (n:Nat)(beh:Int):List Int→List Int→Int×List Int
 | [],d=>(0,d)
 | t::l,d=>if t=n then(81,d)else if d.getD t.toNat 0 = -1 then Bi n beh l (d.set t.toNat beh)else if d.getD t.toNat 0=beh then Bi n beh l d else(84,d)
def lV (p:List Fun)(f:Fun):Nat→List Int→List Bool→Int→Int×List Int×List Bool×Int
 | 0,d,e,pl=>(0,d,e,pl)
 | k+1,d,e,pl=>
  let a:=iH d e 0
  if a < 0 then(0,d,e,pl)else
  let x:=f.code.getD a.toNat ⟨0,0,0⟩
  let da:=d.getD a.toNat 0
  let beh:=da - kO p x+xR x
  if da < kO p x∨16 < beh then(84,d,e.set a.toNat true,a)else
  match Bi f.code.length beh (jT x a) d with
  | (er,d')=>if er=0 then lV p f k d' (e.set a.toNat true) a else(er,d',e.set a.toNat true,a)
def wP:List Bool→Nat
 | []=>0
 | b::l=>(if b then 0 else 1)+wP l
theorem Nw (e:List Bool):∀ i,e[i]?=some false→wP (e.set i true)+1=wP e:=by
 induction e with
 | nil=>intro i h;simp at h
 | cons b e ih=>
  intro i h;cases i with
  | zero=>simp at h;subst h;simp[wP];omega
  | succ i=>have:=ih i (by simpa using h);simp only[List.set_cons_succ,wP];omega
theorem yP (n:Int):0≤(bE n).off∧(bE n).off≤2∧0≤(bE n).on∧(bE n).on≤2:=by
 unfold bE;split
 ·have:n=0∨n=1∨n=2∨n=3∨n=4∨n=5∨n=6∨n=7∨n=8∨n=9∨n=10∨n=11∨n=12∨n=13∨n=14∨n=15∨n=16:=by omega
  rcases this with rfl|rfl|rfl|rfl|rfl|rfl|rfl|rfl|rfl|rfl|rfl|rfl|rfl|rfl|rfl|rfl|rfl<;>decide
 ·decide
theorem iK {p:List Fun}(h:bW p=true){f:Fun}(hf:f∈p):gH f=true:=by
 simp only[bW,Bool.and_eq_true]at h;exact List.all_eq_true.1 h.1 f hf
theorem iP {f:Fun}(h:gH f=true):0≤f.ar∧f.ar≤16∧0≤f.lo∧f.lo≤16∧0≤f.sl∧f.sl≤8∧1≤f.code.length∧f.code.length≤200∧∀ x∈f.code,fH x=true:=by
 simp only[gH,mT,eK,Bool.and_eq_true,decide_eq_true_eq,Bool.not_eq_true',List.any_eq_false,Bool.not_eq_true,Bool.not_eq_false']at h;obtain⟨⟨⟨⟨h1,h2⟩,h3⟩,h4⟩,h5⟩:=h;exact⟨h1.1,h1.2,h2.1,h2.2,h3.1,h3.2,by omega,by omega,fun x hx=>by simpa using h5 x hx⟩
theorem Uw {p:List Fun}(h:bW p=true)(x:Ins):0≤kO p x∧kO p x≤16:=by
 unfold kO;split
 ·cases hx:p[x.a.toNat]? with
  | none=>simp
  | some f=>have:=iP (iK h (List.mem_of_getElem? hx));exact⟨this.1,this.2.1⟩
 ·have:=yP x.op;omega
theorem Qj {x:Ins}(h:fH x=true):0≤x.a:=by
 simp only[fH,Bool.and_eq_true]at h;have:=h.1.2;simp only[xJ,Bool.and_eq_true,decide_eq_true_eq]at this
 have h2:0≤(gJ x.op).1.1:=by
  unfold gJ;repeat' split
  all_goals decide
 omega
theorem Ho {p:List Fun}{f:Fun}{x:Ins}{a:Nat}(ha:a < f.code.length)(hop:fH x=true)(hfd:bD p f x=0):∀ t∈jT x a,0≤t∧t≤f.code.length:=by
 have h0:=Qj hop;unfold bD at hfd;unfold jT;intro t ht;split at ht
 ·rename_i h;simp only[h,show ¬((10:Int)=1∨(10:Int)=2) by omega,if_false,show ¬(10:Int)=14 by omega,show ¬(10:Int)=13 by omega,true_or,if_true]at hfd;simp only[List.mem_singleton]at ht;split at hfd<;>omega
 ·split at ht
  ·simp at ht
  ·split at ht
   ·rename_i h;simp only[h,show ¬((11:Int)=1∨(11:Int)=2) by omega,if_false,show ¬(11:Int)=14 by omega,show ¬(11:Int)=13 by omega,or_true,if_true]at hfd;simp only[List.mem_cons,List.not_mem_nil,or_false]at ht;split at hfd<;>omega
   ·simp only[List.mem_singleton]at ht;omega
theorem Ii (x:Ins)(a:Int):(jT x a).length≤2:=by by_cases h1:x.op=10<;>by_cases h2:x.op=15∨x.op=16<;>by_cases h3:x.op=11<;>simp[jT,h1,h2,h3]
theorem aAx {p:List Fun}{f:Fun}{x:Ins}(hop:fH x=true)(hfd:bD p f x=0)(h:x.op=13):0≤x.a∧x.a < p.length:=by
 refine⟨Qj hop,?_⟩;unfold bD at hfd;simp only[h,show ¬((13:Int)=1∨(13:Int)=2) by omega,if_false,show ¬(13:Int)=14 by omega,if_true]at hfd;repeat' split at hfd
 all_goals omega
theorem aAw (e:List Bool):wP e≤e.length:=by
 induction e with
 | nil=>exact Nat.le_refl _
 | cons b e ih=>simp only[wP,List.length_cons];split<;>omega
theorem ChkH.setD {H:aA}{b bd be:Nat}{p:List Fun}{f:Fun}{d:List Int}{e:List Bool}{pl:Int}(h:ChkH H b bd be p f d e pl)(i:Nat)(x:Int):ChkH (H.set bd (.row 1 ((d.map eI).set i (.int .i64 x)) false)) b bd be p f (d.set i x) e pl:=
 ⟨by rw[aG h.n1.symm,h.obj,List.length_set],by rw[aW (aE h.dep),List.map_set];rfl,by rw[aG h.n3];exact h.don,h.n1,h.n2,h.n3⟩
theorem ChkH.setE {H:aA}{b bd be:Nat}{p:List Fun}{f:Fun}{d:List Int}{e:List Bool}{pl:Int}(h:ChkH H b bd be p f d e pl)(i:Nat)(x:Bool):ChkH (H.set be (.row 1 ((e.map eB).set i (.bool x)) false)) b bd be p f d (e.set i x) pl:=
 ⟨by rw[aG h.n2.symm,h.obj,List.length_set],by rw[aG h.n3.symm];exact h.dep,by rw[aW (aE h.don),List.map_set];rfl,h.n1,h.n2,h.n3⟩
theorem ChkH.setP {H:aA}{b bd be:Nat}{p:List Fun}{f:Fun}{d:List Int}{e:List Bool}{pl:Int}(h:ChkH H b bd be p f d e pl)(x:Int):ChkH (H.set b (.row 8 [rU p f (.sl bd 0 d.length) (.sl be 0 e.length) x] false)) b bd be p f d e x:=
 ⟨by rw[aW (aE h.obj)],by rw[aG h.n1];exact h.dep,by rw[aG h.n2];exact h.don,h.n1,h.n2,h.n3⟩
theorem ChkH.push {H:aA}{b bd be:Nat}{p:List Fun}{f:Fun}{d:List Int}{e:List Bool}{pl:Int}(h:ChkH H b bd be p f d e pl)(l:aA):ChkH (H++l) b bd be p f d e pl:=
 ⟨by rw[bA _ (aE h.obj)];exact h.obj,by rw[bA _ (aE h.dep)];exact h.dep,by rw[bA _ (aE h.don)];exact h.don,h.n1,h.n2,h.n3⟩
theorem ChkH.of {H H':aA}{b bd be:Nat}{p:List Fun}{f:Fun}{d:List Int}{e:List Bool}{pl:Int}(h:ChkH H b bd be p f d e pl)(h1:hb H' b=hb H b)(h2:hb H' bd=hb H bd)(h3:hb H' be=hb H be):ChkH H' b bd be p f d e pl:=
 ⟨by rw[h1];exact h.obj,by rw[h2];exact h.dep,by rw[h3];exact h.don,h.n1,h.n2,h.n3⟩
section
variable {Q:Ex→List V→aA→Prop}{dst:Option Tmp}{T:List V}{H:aA}{KK:List V→aA→Prop}
theorem aDv {b bd be:Nat}(p:List Fun)(f:Fun)(d:List Int)(e:List Bool)(pl:Int)(hp:bW p=true)(hf:f∈p)(hfld:∀ x∈f.code,bD p f x=0)(hd:d.length=f.code.length)(he:e.length=f.code.length)(hbd:∀ x∈d,-1≤x∧x≤16)(hH:ChkH H b bd be p f d e pl)
 (hk:∀ H' d' e' pl' er,lV p f (f.code.length+1) (d.set 0 0) e pl=(er,d',e',pl')→nD H H' (fun c=>c == b || c == bd || c == be)→ChkH H' b bd be p f d' e' pl'→d'.length=f.code.length→KK (put T dst (.int .i64 er)) H') :
 aZ (Eg g) (FW (Eg g)) 189 [.ptr b 0 0] dst T H KK Q:=by
 have hfm:=iP (iK hp hf);obtain⟨-,-,-,-,-,-,hn1,hn2,hop⟩:=hfm;obtain⟨R,hR⟩:∃ R,R=lV p f (f.code.length+1) (d.set 0 0) e pl:=⟨_,rfl⟩;rw[←hR]at hk;have hbl:=aE hH.obj;have hbdl:=aE hH.dep;have hbel:=aE hH.don;have h0:=hH.obj;simp only[rU]at h0;have hdl:(0:Int) < d.length:=by omega
 have h1:=hH.dep;have hd0:0 < d.length:=by omega
 have hx0:=List.getElem?_eq_getElem hd0;refine en Tryz.func189 Tryz.ntmps189 Tryz.results189 rfl ⟨⟨rfl,rfl⟩,rfl⟩ ?_;simp only[ZZ,simprocAttr,i64,WG];refine rg fun K hK=>?_;simp only[ZZ,simprocAttr,i64,WG];apply hK;refine FW.scope1 (n:=wP e) (fun m T' H'=>∃ d e pl k,m=wP e∧T'.length=109∧gt T' 0 = .ptr b 0 0∧ChkH H' b bd be p f d e pl∧d.length=f.code.length∧e.length=f.code.length∧(∀ x∈d,-1≤x∧x≤16)∧wP e < k∧R=lV p f k d e pl∧nD H H' (fun c=>c == b || c == bd || c == be)) rfl ?_ ?_
 ·refine FW.last fun K hK=>FW.region (xA _) ?_;simp only[ZZ,simprocAttr,i64,WG,h0,h1,hdl,eI,hx0,Option.map_some,List.getElem?_map];apply hK;simp only[WX];refine⟨d.set 0 0,e,pl,f.code.length+1,rfl,rfl,rfl,hH.setD 0 0,by simpa using hd,he,?_,by have:=aAw e;omega,hR,nD.set _ (by simp)⟩;intro x hx;rcases List.mem_or_eq_of_mem_set hx with hx|rfl
  ·exact hbd x hx
  ·omega
 ·clear hR hbd hH h0 hdl h1 hd0 hx0 hbl hbdl hbel hd he;rintro m T' H' ⟨d,e,pl,k,rfl,hT,e0,hH,hd,he,hbd,hck,hR,hP⟩;obtain⟨k,rfl⟩:∃ j,k=j+1:=⟨k - 1,by omega⟩;rw[eW 109 T' hT];simp only[show List.range 109=[0,1,2,3,4,5,6,7,8,9,10,11,12,13,14,15,16,17,18,19,20,21,22,23,24,25,26,27,28,29,30,31,32,33,34,35,36,37,38,39,40,41,42,43,44,45,46,47,48,49,50,51,52,53,54,55,56,57,58,59,60,61,62,63,64,65,66,67,68,69,70,71,72,73,74,75,76,77,78,79,80,81,82,83,84,85,86,87,88,89,90,91,92,93,94,95,96,97,98,99,100,101,102,103,104,105,106,107,108]from rfl,List.map_cons,List.map_nil,e0];refine rg fun K hK=>?_;simp only[ZZ,simprocAttr,i64,WG];refine aLw g p f d e (by omega) (by omega) hH.obj hH.dep hH.don ?_;simp only[ZZ,simprocAttr,i64,WG];apply hK;simp only[lV]at hR;rcases Ji d e 0 with hm1|⟨a,ha,had,hae,hea,x,hdx,hx1⟩
  ·rw[hm1]at hR;simp only[show((-1:Int) < 0)=True by simp,if_true]at hR;refine aF fun K1 hK1=>?_;rw[hm1];refine rg fun K hK=>?_;simp only[ZZ,simprocAttr,i64,WG];apply hK;apply aB rfl;refine rg fun K hK=>?_;simp only[ZZ,simprocAttr,i64,WG];apply hK;apply aC;simp only[ZZ,simprocAttr,i64,WG];exact hk _ _ _ _ _ hR hP hH hd
  rw[Nat.zero_add]at ha;rw[ha]at hR ⊢;have hxb:=hbd x (List.mem_of_getElem? hdx);have hx0:0≤x:=by omega
  obtain⟨y,hy⟩:∃ y,f.code[a]?=some y:=⟨_,List.getElem?_eq_getElem (by omega)⟩;have hym:=List.mem_of_getElem? hy;have hyop:=hop y hym;have hyf:=hfld y hym;have hoff:=Uw hp y;have hon:0≤xR y∧xR y≤2:=by have:=yP y.op;unfold xR;omega
  simp only[show((a:Int) < 0)=False by simp,if_false,Int.toNat_natCast,List.getD_eq_getElem?_getD,hy,hdx,Option.getD_some]at hR;have hna:¬(a:Int) < 0:=by omega
  refine aF fun K1 hK1=>?_;refine rg fun K hK=>?_;simp only[ZZ,simprocAttr,i64,WG,hna];apply hK;apply aD rfl;apply aH;simp only[WX];apply hK1;have h0:=hH.obj;simp only[rU]at h0;have h2:=hH.don;have hael:(a:Int) < e.length:=by omega
  have hbl:=aE hH.obj;have hbel:=aE hH.don;have hbdl:=aE hH.dep;refine rg fun K hK=>?_;simp only[ZZ,simprocAttr,i64,WG,h0,h2,hael,aG,hH.n2,ne_eq,not_false_eq_true,hea,Option.map_some,eB,List.getElem?_map];apply hK;obtain⟨H1,hg⟩:∃ H1,H1=(List.set H' b (Blk.row 8 [rU p f (.sl bd 0 d.length) (.sl be 0 e.length) a] false)).set be (Blk.row 1 ((List.map eB e).set a (V.bool true)) false):=⟨_,rfl⟩;have hH1:ChkH H1 b bd be p f d (e.set a true) a:=by rw[hg];exact(hH.setP a).setE a true
  have hP1:nD H H1 (fun c=>c == b || c == bd || c == be):=by rw[hg];exact(hP.trans (nD.set _ (by simp))).trans (nD.set _ (by simp))
  simp only[rU,i64]at hg;rw[←hg];clear hg hP hH h0 h2 hbl hbel hbdl;have h0:=hH1.obj;simp only[rU]at h0;have hac:(a:Int) < f.code.length:=by omega
  refine rg fun K hK=>?_;simp only[ZZ,simprocAttr,i64,WG,h0,hac,hy,Option.map_some,List.getElem?_map];refine aLv g p f y hH1.obj (aAx hyop hyf) ?_;simp only[ZZ,simprocAttr,i64,WG];apply hK;have hH2:=hH1.push [.row 3 [aK y] false];have hP2:=hP1.trans (nD.push [.row 3 [aK y] false] _);obtain⟨H2,hg⟩:∃ H2,H2=H1++[.row 3 [aK y] false]:=⟨_,rfl⟩;rw[←hg]at hH2 hP2 ⊢;clear hg hH1 hP1 h0;have h0:=hH2.obj;have h1:=hH2.dep;simp only[rU]at h0;have had':(a:Int) < d.length:=by omega
  have hw1:IntKind.i64.wrap (x - kO p y)=x - kO p y:=IntWalk.i64_in _ (by omega);have hw2:IntKind.i64.wrap (x - kO p y+xR y)=x - kO p y+xR y:=IntWalk.i64_in _ (by omega);refine rg fun K hK=>?_;simp only[ZZ,simprocAttr,i64,WG,h0,h1,had',hdx,Option.map_some,eI,hw1,hw2,List.getElem?_map];apply hK;refine aF fun K1 hK1=>?_;by_cases hlt:x < kO p y
  ·rw[if_pos (.inl hlt)]at hR;refine rg fun K hK=>?_;simp only[ZZ,simprocAttr,i64,WG,h0,h1,had',hdx,Option.map_some,eI,hlt,List.getElem?_map];apply hK;apply aB rfl;refine rg fun K hK=>?_;simp only[ZZ,simprocAttr,i64,WG];apply hK;apply aC;simp only[ZZ,simprocAttr,i64,WG];exact hk _ _ _ _ _ hR hP2 hH2 hd
  by_cases hgt:16 < x - kO p y+xR y
  ·rw[if_pos (.inr hgt)]at hR;refine rg fun K hK=>?_;simp only[ZZ,simprocAttr,i64,WG,h0,h1,had',hdx,Option.map_some,eI,hlt,hgt,List.getElem?_map];apply hK;apply aB rfl;refine rg fun K hK=>?_;simp only[ZZ,simprocAttr,i64,WG];apply hK;apply aC;simp only[ZZ,simprocAttr,i64,WG];exact hk _ _ _ _ _ hR hP2 hH2 hd
  rw[if_neg (by omega)]at hR;refine rg fun K hK=>?_;simp only[ZZ,simprocAttr,i64,WG,h0,h1,had',hdx,Option.map_some,eI,hlt,hgt,List.getElem?_map];apply hK;apply aD rfl;apply aH;simp only[WX];apply hK1;obtain⟨beh,hbeh⟩:∃ beh,beh=x - kO p y+xR y:=⟨_,rfl⟩;rw[←hbeh]at hR hgt ⊢;have hb0:0≤beh:=by omega
  refine aF fun K1 hK1=>?_;refine rg fun K hK=>?_;simp only[ZZ,simprocAttr,i64,WG];refine aLu g p f y a hy (by omega) hH2.obj ?_;intro l v hA;have hlen:=hA.lenD 3;rw[List.length_map]at hlen;simp only[ZZ,simprocAttr,i64,WG,hlen];apply hK;have hnb:=Ho (show a < f.code.length by omega) hyop hyf;have hH3:=hH2.push l;have hP3:=hP2.trans (nD.push l _);have hv:(v = .nils∧jT y a=[])∨∃ bv,H2.length≤bv∧v = .sl bv 0 (jT y a).length∧hb (H2++l) bv=some (.row 1 ((jT y a).map eI) false):=by
   rcases hA.sls with ⟨h1,h2⟩|⟨bv,h1,h2,h3,_⟩
   ·exact .inl ⟨h1,by simpa using h2⟩
   ·exact .inr ⟨bv,h1,by rw[h2,List.length_map],h3⟩
  have hbd2:=aE hH2.dep;generalize H2++l=H3 at hH3 hP3 hv ⊢;clear hA hlen;have hnl:=Ii y a;generalize jT y a=nx at hR hnb hv hnl ⊢;refine aT ?_;refine cB (fun m T4 H4=>∃ j dj,m=nx.length - j∧j≤nx.length∧T4.length=109∧gt T4 0 = .ptr b 0 0∧gt T4 6 = .int .i64 beh∧gt T4 67=v∧gt T4 68 = .int .i64 nx.length∧gt T4 69 = .int .i64 j∧ChkH H4 b bd be p f dj (e.set a true) a∧dj.length=f.code.length∧(∀ x∈dj,-1≤x∧x≤16)∧Bi f.code.length beh nx d=Bi f.code.length beh (nx.drop j) dj∧nD H H4 (fun c=>c == b || c == bd || c == be)∧((v = .nils∧nx=[])∨∃ bv,H2.length≤bv∧v = .sl bv 0 nx.length∧hb H4 bv=some (.row 1 (nx.map eI) false))) (n:=nx.length) ⟨0,d,rfl,by omega,rfl,rfl,rfl,rfl,rfl,rfl,hH3,hd,hbd,rfl,hP3,hv⟩ ?_;clear hT e0;rintro m T4 H4 ⟨j,dj,rfl,hj,hT,e0,e6,e67,e68,e69,hH4,hdj,hbj,hfl,hP4,hv4⟩;rw[eW 109 T4 hT];simp only[show List.range 109=[0,1,2,3,4,5,6,7,8,9,10,11,12,13,14,15,16,17,18,19,20,21,22,23,24,25,26,27,28,29,30,31,32,33,34,35,36,37,38,39,40,41,42,43,44,45,46,47,48,49,50,51,52,53,54,55,56,57,58,59,60,61,62,63,64,65,66,67,68,69,70,71,72,73,74,75,76,77,78,79,80,81,82,83,84,85,86,87,88,89,90,91,92,93,94,95,96,97,98,99,100,101,102,103,104,105,106,107,108]from rfl,List.map_cons,List.map_nil,e0,e6,e67,e68,e69];by_cases hjm:(j:Int) < nx.length
  ·have hjn:j < nx.length:=by omega
   have hj0:(0:Int)≤j:=by omega
   have hto:=List.getElem?_eq_getElem hjn;rw[List.drop_eq_getElem_cons hjn]at hfl;generalize nx[j]=to at hto hfl;have hto2:=hnb to (List.mem_of_getElem? hto);rcases hv4 with ⟨_,h⟩|⟨bv,hbv,hve,hbvr⟩
   ·rw[h]at hjn;simp at hjn
   subst hve;have h0:=hH4.obj;have h1:=hH4.dep;simp only[rU]at h0;refine rg fun K hK=>?_;simp only[ZZ,simprocAttr,i64,WG,hjm];apply hK;refine ct rfl fun K hK=>?_;apply aH;simp only[WX];apply hK;refine bl fun K2 hK2=>?_;refine rg fun K hK=>?_;simp only[ZZ,simprocAttr,i64,WG,hjm,hbvr,hto,Option.map_some,List.getElem?_map,eI];apply hK;refine FW.last fun K6 hK6=>aT ?_;simp only[Bi]at hfl;by_cases h81:to=f.code.length
   ·have h81':(to == (f.code.length:Int))=true:=by simp[h81]
    rw[if_pos h81]at hfl;rw[hfl]at hR;refine rg fun K hK=>?_;simp only[ZZ,simprocAttr,i64,WG,h0,h81'];apply hK;apply aB rfl;refine rg fun K hK=>?_;simp only[ZZ,simprocAttr,i64,WG];apply hK;apply aC;simp only[ZZ,simprocAttr,i64,WG];exact hk _ _ _ _ _ hR hP4 hH4 hdj
   have h81':(to == (f.code.length:Int))=false:=by simp[h81]
   have htl:to < dj.length:=by omega
   rw[if_neg h81]at hfl;refine rg fun K hK=>?_;simp only[ZZ,simprocAttr,i64,WG,h0,h81'];apply hK;apply aD rfl;obtain⟨ti,rfl⟩:∃ ti:Nat,to=ti:=⟨to.toNat,by omega⟩;rw[Int.toNat_natCast,List.getD_eq_getElem?_getD]at hfl;have hdx:=List.getElem?_eq_getElem (show ti < dj.length by omega);generalize dj[ti]'(by omega)=dx at hdx;rw[hdx,Option.getD_some]at hfl;by_cases hm1:dx = -1
   ·have hm1':(dx == -1)=true:=by simp[hm1]
    rw[if_pos hm1]at hfl;refine rg fun K hK=>?_;simp only[ZZ,simprocAttr,i64,WG,h0,h1,htl,hdx,Option.map_some,List.getElem?_map,eI,hm1'];apply hK;apply aB rfl;refine rl fun K hK=>?_;simp only[ZZ,simprocAttr,i64,WG,h0,h1,htl,hdx,Option.map_some,List.getElem?_map,eI];apply hK;try simp only[WX]
    apply hK6;try clear hK6 K6
    apply hK2;try clear hK2 K2
    refine rl fun K hK=>?_;simp only[ZZ,simprocAttr,i64,WG,IntWalk.i64_in (j+1) (by omega)];apply hK;try simp only[WX]
    refine⟨nx.length - (j+1),by omega,j+1,dj.set ti beh,rfl,by omega,rfl,rfl,rfl,rfl,rfl,rfl,hH4.setD ti beh,by simpa using hdj,?_,hfl,hP4.trans (nD.set _ (by simp)),.inr ⟨bv,hbv,rfl,by rw[aG (by omega)];exact hbvr⟩⟩;intro z hz;rcases List.mem_or_eq_of_mem_set hz with hz|rfl
    ·exact hbj z hz
    ·omega
   have hm1':(dx == -1)=false:=by simp[hm1]
   rw[if_neg hm1]at hfl;refine rg fun K hK=>?_;simp only[ZZ,simprocAttr,i64,WG,h0,h1,htl,hdx,Option.map_some,List.getElem?_map,eI,hm1'];apply hK;apply aD rfl;by_cases he1:dx=beh
   ·have he1':(dx != beh)=false:=by simp[he1]
    rw[if_pos he1]at hfl;refine rg fun K hK=>?_;simp only[ZZ,simprocAttr,i64,WG,h0,h1,htl,hdx,Option.map_some,List.getElem?_map,eI,he1'];apply hK;apply aD rfl;apply aH;simp only[WX];apply hK6;try clear hK6 K6
    apply hK2;try clear hK2 K2
    refine rl fun K hK=>?_;simp only[ZZ,simprocAttr,i64,WG,IntWalk.i64_in (j+1) (by omega)];apply hK;try simp only[WX]
    exact⟨nx.length - (j+1),by omega,j+1,dj,rfl,by omega,rfl,rfl,rfl,rfl,rfl,rfl,hH4,hdj,hbj,hfl,hP4,.inr ⟨bv,hbv,rfl,hbvr⟩⟩
   ·have he1':(dx != beh)=true:=by simp[he1]
    rw[if_neg he1]at hfl;rw[hfl]at hR;refine rg fun K hK=>?_;simp only[ZZ,simprocAttr,i64,WG,h0,h1,htl,hdx,Option.map_some,List.getElem?_map,eI,he1'];apply hK;apply aB rfl;refine rg fun K hK=>?_;simp only[ZZ,simprocAttr,i64,WG];apply hK;apply aC;simp only[ZZ,simprocAttr,i64,WG];exact hk _ _ _ _ _ hR hP4 hH4 hdj
  ·refine rg fun K hK=>?_;simp only[ZZ,simprocAttr,i64,WG,hjm];apply hK;refine cf rfl fun K hK=>?_;apply bZ;simp only[WX,if_true];apply hK1;obtain rfl:nx.length=j:=by omega
   rw[List.drop_length]at hfl;simp only[Bi]at hfl;rw[hfl]at hR;simp only[if_true]at hR;apply nY;simp only[WG];have hc:=Nw e a hea;exact⟨trivial,wP (e.set a true),by omega,dj,e.set a true,a,k,rfl,rfl,rfl,hH4,hdj,by simpa using he,hbj,by omega,hR,hP4⟩
end
end
section
open Go Go.RowKit
variable (g:Gl)
def gB (p:List Fun)(f:Fun):List Ins→Int→Option (Int×Int)
 | [],_=>none
 | x::l,i=>if bD p f x=0 then gB p f l (i+1)else some (bD p f x,i)
def iA (p:List Fun)(f:Fun):Int×Int:=
 if f.lo < f.ar then(80,0)else
 match gB p f f.code 0 with
 | some (e,i)=>(e,i)
 | none=>let r:=lV p f (f.code.length+1) ((List.replicate f.code.length (-1)).set 0 0) (List.replicate f.code.length false) (f.code.length - 1);(r.1,r.2.2.2)
def Jf (p:List Fun)(f:Fun):List Int:=(lV p f (f.code.length+1) ((List.replicate f.code.length (-1)).set 0 0) (List.replicate f.code.length false) 0).2.1
theorem kV {p:List Fun}{f:Fun}:∀(l:List Ins)(i:Int),gB p f l i=none→∀ x∈l,bD p f x=0
 | [],_,_=>by simp
 | x::l,i,h=>by
  simp only[gB]at h;split at h
  ·rename_i h0;intro y hy;rcases List.mem_cons.1 hy with rfl|hy
   ·exact h0
   ·exact kV l _ h y hy
  ·cases h
section
variable {Q:Ex→List V→aA→Prop}{dst:Option Tmp}{T:List V}{H:aA}{KK:List V→aA→Prop}
theorem aMj {b bd be:Nat}(p:List Fun)(f:Fun)(hp:bW p=true)(hf:f∈p)(hH:ChkH H b bd be p f (List.replicate f.code.length (-1)) (List.replicate f.code.length false) 0)
 (hk:∀ H' d' e',nD H H' (fun c=>c == b || c == bd || c == be)→ChkH H' b bd be p f d' e' (iA p f).2→KK (put T dst (.int .i64 (iA p f).1)) H') :
 aZ (Eg g) (FW (Eg g)) 103 [.ptr b 0 0] dst T H KK Q:=by
 have hfm:=iP (iK hp hf);have hbl:=aE hH.obj;have h0:=hH.obj;simp only[rU]at h0;refine en Tryz.func103 Tryz.ntmps103 Tryz.results103 rfl ⟨⟨rfl,rfl⟩,rfl⟩ ?_;simp only[ZZ,simprocAttr,i64,h0];refine rg fun K hK=>?_;simp only[ZZ,simprocAttr,i64,h0];apply hK;refine aF fun K1 hK1=>?_;by_cases h80:f.lo < f.ar
 ·have e1:iA p f=(80,0):=by simp only[iA,h80,if_true]
  rw[e1]at hk;refine dr [0,1,2,3,5,6,7,8,4,9,10] (by kernel_rfl) fun K hK=>?_;simp only[ZZ,simprocAttr,i64,h0,h80];apply hK;apply aB rfl;refine rg fun K hK=>?_;simp only[ZZ,simprocAttr,i64,h0];apply hK;apply aC;simp only[ZZ,simprocAttr,i64,h0];exact hk _ _ _ (nD.refl _ _) hH
 refine dr [0,1,2,3,5,6,7,8,4,9,10] (by kernel_rfl) fun K hK=>?_;simp only[ZZ,simprocAttr,i64,h0,h80];apply hK;apply aD rfl;apply aH;simp only[WX];apply hK1;refine aF fun K1 hK1=>?_;refine rg fun K hK=>?_;simp only[ZZ,simprocAttr,i64,h0];apply hK;refine aT ?_;refine cB (fun m T4 H4=>∃ j pl,m=f.code.length - j∧j≤f.code.length∧T4.length=41∧gt T4 0 = .ptr b 0 0∧gt T4 21 = .imm (f.code.map aK)∧gt T4 22 = .int .i64 f.code.length∧gt T4 23 = .int .i64 j∧ChkH H4 b bd be p f (List.replicate f.code.length (-1)) (List.replicate f.code.length false) pl∧(pl=if j=0 then 0 else(j:Int) - 1)∧gB p f f.code 0=gB p f (f.code.drop j) j∧nD H H4 (fun c=>c == b || c == bd || c == be)) (n:=f.code.length) ⟨0,0,rfl,by omega,rfl,rfl,rfl,rfl,rfl,hH,rfl,rfl,nD.refl _ _⟩ ?_;clear h0;rintro m T4 H4 ⟨j,pl,rfl,hj,hT,e0,e21,e22,e23,hH4,hpl,hfl,hP4⟩;have h0:=hH4.obj;have hbl4:=aE hH4.obj;simp only[rU]at h0;rw[eW 41 T4 hT];simp only[show List.range 41=[0,1,2,3,4,5,6,7,8,9,10,11,12,13,14,15,16,17,18,19,20,21,22,23,24,25,26,27,28,29,30,31,32,33,34,35,36,37,38,39,40]from rfl,List.map_cons,List.map_nil,e0,e21,e22,e23];by_cases hjm:(j:Int) < f.code.length
 ·have hjn:j < f.code.length:=by omega
  have hx:=List.getElem?_eq_getElem hjn;rw[List.drop_eq_getElem_cons hjn]at hfl;generalize f.code[j]=x at hx hfl;simp only[gB]at hfl;refine rg fun K hK=>?_;simp only[ZZ,simprocAttr,i64,hjm];apply hK;refine ct rfl fun K hK=>?_;apply aH;simp only[WX];apply hK;refine bl fun K2 hK2=>?_;refine rg fun K hK=>?_;simp only[ZZ,simprocAttr,i64,WH,hjm,hx,Option.map_some,List.getElem?_map];apply hK;refine rg fun K hK=>?_;simp only[ZZ,simprocAttr,i64,WH,hbl4,h0];apply hK;have hH5:=(hH4.setP (j:Int)).push [.row 3 [aK x] false];have hP5:=(hP4.trans (nD.set (H:=H4) (b:=b) (.row 8 [rU p f (.sl bd 0 (List.replicate f.code.length (-1:Int)).length) (.sl be 0 (List.replicate f.code.length false).length) (j:Int)] false) (by simp))).trans (nD.push [.row 3 [aK x] false] _);obtain⟨H5,hg⟩:∃ H5,H5=H4.set b (.row 8 [rU p f (.sl bd 0 (List.replicate f.code.length (-1:Int)).length) (.sl be 0 (List.replicate f.code.length false).length) (j:Int)] false)++[.row 3 [aK x] false]:=⟨_,rfl⟩;rw[←hg]at hH5 hP5;have hx5:hb H5 H4.length=some (.row 3 [aK x] false):=by rw[hg,cM _ (by simp)];rfl
  simp only[rU,i64,aK]at hg;rw[←hg];clear hg hH4 hP4 h0;simp only[aK]at hx5;refine rg fun K hK=>?_;simp only[ZZ,simprocAttr,i64,hx5];refine aMf g p f x hH5.obj ?_;simp only[ZZ,simprocAttr,i64];apply hK;have hH6:=hH5.push [.row 3 [aK x] false];have hP6:=hP5.trans (nD.push [.row 3 [aK x] false] _);generalize H5++[.row 3 [aK x] false]=H6 at hH6 hP6 ⊢;by_cases hx0:bD p f x=0
  ·have h1:(bD p f x != 0)=false:=by simp[hx0]
   rw[if_pos hx0]at hfl;refine rg fun K hK=>?_;simp only[ZZ,simprocAttr,i64,h1];apply hK;apply aD rfl;apply aH;simp only[WX];apply hK2;refine rl fun K hK=>?_;simp only[ZZ,simprocAttr,i64,IntWalk.i64_in (j+1) (by omega)];apply hK;try simp only[WX]
   exact⟨f.code.length - (j+1),by omega,j+1,j,rfl,by omega,rfl,rfl,rfl,rfl,rfl,hH6,by simp,by simpa using hfl,hP6⟩
  ·have h1:(bD p f x != 0)=true:=by simp[hx0]
   rw[if_neg hx0]at hfl;have e1:iA p f=(bD p f x,(j:Int)):=by simp only[iA,h80,if_false,hfl]
   rw[e1]at hk;refine rg fun K hK=>?_;simp only[ZZ,simprocAttr,i64,h1];apply hK;apply aB rfl;refine rg fun K hK=>?_;simp only[ZZ,simprocAttr,i64];apply hK;apply aC;simp only[ZZ,simprocAttr,i64];exact hk _ _ _ hP6 hH6
 ·refine rg fun K hK=>?_;simp only[ZZ,simprocAttr,i64,hjm];apply hK;refine cf rfl fun K hK=>?_;apply bZ;simp only[WX,if_true];apply hK1;obtain rfl:f.code.length=j:=by omega
  rw[List.drop_length]at hfl;simp only[gB]at hfl;have hpl':pl=(f.code.length:Int) - 1:=by rw[hpl,if_neg (by omega)]
  subst hpl';refine rg fun K hK=>?_;simp only[ZZ,simprocAttr,i64];refine aDv g p f _ _ _ hp hf (kV _ _ hfl) (by simp) (by simp) (by intro x hx;simp at hx;omega) hH4 ?_;intro H' d' e' pl' er hr hP hH' _;have e1:iA p f=(er,pl'):=by simp only[iA,h80,if_false,hfl,hr]
  rw[e1]at hk;simp only[ZZ,simprocAttr,i64];apply hK;apply aC;simp only[ZZ,simprocAttr,i64];exact hk _ _ _ (hP4.trans hP) hH'
end
def sY (p:List Fun):List Fun→Int→Int×Int×Int
 | [],_=>(0,0,0)
 | f::l,i=>if(iA p f).1=0 then sY p l (i+1)else(i,(iA p f).2,(iA p f).1)
def kN (p:List Fun):Int×Int×Int:=if bW p then sY p p 0 else(0,0,1)
def pC (p:List Fun):Bool:=(kN p).2.2 == 0
theorem Sc {p:List Fun}(h:bW p=true):1≤p.length∧p.length≤16:=by
 simp only[bW,eK,Bool.and_eq_true,decide_eq_true_eq]at h;omega
theorem aFl (p:List Fun)(hl:p.length≤4294967296)(hc:∀ f,f∈p→f.code.length≤4294967296):PC P0 g 45 [.imm (p.map bL)] (.ret (.tup [i64 (kN p).1,i64 (kN p).2.1,i64 (kN p).2.2])):=by
 refine eC Tryz.func45 Tryz.ntmps45 Tryz.results45 rfl ?_;simp only[ZZ,simprocAttr,i64];refine rg fun K hK=>?_;simp only[ZZ,simprocAttr,i64];apply hK;try clear hK K
 refine aF fun K1 hK1=>?_;refine rg fun K hK=>?_;simp only[ZZ,simprocAttr,i64];refine mt (aFk g p hl hc) Tryz.func76 rfl ⟨⟨rfl,rfl⟩,rfl⟩ rfl ?_;cases h1:bW p
 ·simp only[ZZ,simprocAttr,i64];apply hK;try clear hK K
  apply aB rfl;refine rg fun K hK=>?_;simp only[ZZ,simprocAttr,i64];apply hK;try clear hK K
  apply aC;simp only[ZZ,simprocAttr,i64,kN,h1]
 have hpl:=Sc h1;simp only[ZZ,simprocAttr,i64];apply hK;try clear hK K
 apply aD rfl;apply aH;simp only[WX];apply hK1;refine aF fun K1 hK1=>?_;refine rg fun K hK=>?_;simp only[ZZ,simprocAttr,i64];apply hK;try clear hK K
 refine aT ?_;refine cB (fun m T H=>∃ j,m=p.length - j∧j≤p.length∧T.length=30∧gt T 0 = .imm (p.map bL)∧gt T 12 = .int .i64 p.length∧gt T 13 = .int .i64 j∧sY p p 0=sY p (p.drop j) j) (n:=p.length) ⟨0,rfl,by omega,rfl,rfl,rfl,rfl,rfl⟩ ?_;rintro m T H ⟨j,rfl,hj,hT,e0,e12,e13,hfl⟩;rw[eW 30 T hT];simp only[show List.range 30=[0,1,2,3,4,5,6,7,8,9,10,11,12,13,14,15,16,17,18,19,20,21,22,23,24,25,26,27,28,29]from rfl,List.map_cons,List.map_nil,e0,e12,e13];by_cases hjm:(j:Int) < p.length
 ·have hjn:j < p.length:=by omega
  have hx:=List.getElem?_eq_getElem hjn;rw[List.drop_eq_getElem_cons hjn]at hfl;generalize p[j]=f at hx hfl;have hfm:=List.mem_of_getElem? hx;obtain⟨-,-,-,-,-,-,hn1,hn2,hop⟩:=iP (iK h1 hfm);refine rg fun K hK=>?_;simp only[ZZ,simprocAttr,i64,hjm];apply hK;try clear hK K
  refine ct rfl fun K hK=>?_;apply aH;simp only[WX];apply hK;try clear hK K
  refine bl fun K2 hK2=>?_;refine rg fun K hK=>?_;simp only[ZZ,simprocAttr,i64];apply hK;try clear hK K
  refine rg fun K hK=>?_;simp only[ZZ,simprocAttr,i64];refine aDw g p j f hx hn1 (by omega) ?_;intro H' b bd be hP hb1 hb2 hb3 hH;simp only[ZZ,simprocAttr,i64];apply hK;try clear hK K
  refine rg fun K hK=>?_;simp only[ZZ,simprocAttr,i64];refine aMj g p f h1 hfm hH ?_;intro H2 d' e' hP2 hH2;simp only[ZZ,simprocAttr,i64];apply hK;try clear hK K
  simp only[sY]at hfl;by_cases h0:(iA p f).1=0
  ·rw[if_pos h0]at hfl;have h0':((iA p f).1 != 0)=false:=by simp[h0]
   refine rg fun K hK=>?_;simp only[ZZ,simprocAttr,i64,h0'];apply hK;try clear hK K
   apply aD rfl;apply aH;simp only[WX];apply hK2;refine rl fun K hK=>?_;simp only[ZZ,simprocAttr,i64,IntWalk.i64_in (j+1) (by omega)];apply hK;try clear hK K
   try simp only[WX]
   exact⟨p.length - (j+1),by omega,j+1,rfl,by omega,rfl,rfl,rfl,rfl,by simpa using hfl⟩
  ·rw[if_neg h0]at hfl;have h0':((iA p f).1 != 0)=true:=by simp[h0]
   have ho:=hH2.obj;simp only[rU]at ho;refine rg fun K hK=>?_;simp only[ZZ,simprocAttr,i64,h0'];apply hK;try clear hK K
   apply aB rfl;refine dr [0,1,2,3,5,6,4,7,8] (by kernel_rfl) fun K hK=>?_;simp only[ZZ,simprocAttr,i64,ho];apply hK;try clear hK K
   apply aC;simp only[ZZ,simprocAttr,i64,kN,h1,hfl]
 ·refine rg fun K hK=>?_;simp only[ZZ,simprocAttr,i64,hjm];apply hK;try clear hK K
  refine cf rfl fun K hK=>?_;apply bZ;simp only[WX,if_true];apply hK1;obtain rfl:p.length=j:=by omega
  rw[List.drop_length]at hfl;simp only[sY]at hfl;refine rg fun K hK=>?_;simp only[ZZ,simprocAttr,i64];apply hK;try clear hK K
  apply aC;simp only[ZZ,simprocAttr,i64,kN,h1,hfl]
end
section
open Go Go.RowKit
variable (g:Gl)
theorem Vw {p:List Fun}{f:Fun}(h:(iA p f).1=0):∀ x∈f.code,bD p f x=0:=by
 simp only[iA]at h;split at h
 ·cases h
 ·split at h
  ·rename_i e i hf;exfalso;have:∀(l:List Ins)(i:Int) r,gB p f l i=some r→r.1≠0:=by
    intro l;induction l with
    | nil=>intro i r h;cases h
    | cons x l ih=>
     intro i r h;simp only[gB]at h;split at h
     ·exact ih _ _ h
     ·rename_i h0;cases h;exact h0
   exact this _ _ _ hf h
  ·rename_i hf;exact kV _ _ hf
theorem Nf {p:List Fun}:∀(l:List Fun)(i:Int),(sY p l i).2.2=0→∀ f∈l,(iA p f).1=0
 | [],_,_=>by simp
 | f::l,i,h=>by
  simp only[sY]at h;split at h
  ·rename_i h0;intro y hy;rcases List.mem_cons.1 hy with rfl|hy
   ·exact h0
   ·exact Nf l _ h y hy
  ·rename_i h0;exact absurd h h0
theorem Fo {p:List Fun}(h:pC p=true):bW p=true∧∀ f∈p,(iA p f).1=0:=by
 simp only[pC,kN,beq_iff_eq]at h;split at h
 ·rename_i h1;exact⟨h1,Nf _ _ h⟩
 ·cases h
def lJ (p:List Fun)(fn:Int):List Int:=if pC p && decide (0≤fn)then(match p[fn.toNat]? with|some f=>Jf p f|none=>[])else []
theorem aDl (p:List Fun)(fn:Int)(hl:p.length≤4294967296)(hc:∀ f,f∈p→f.code.length≤4294967296):PC P0 g 124 [.imm (p.map bL),.int .i64 fn] (.ret (.imm ((lJ p fn).map eI))):=by
 have key:PC P0 g 124 [.imm (p.map bL),.int .i64 fn] (.ret (if pC p && decide (0≤fn) && decide (fn < p.length)then .imm ((lJ p fn).map eI)else .nils)):=by
  refine eC Tryz.func124 Tryz.ntmps124 Tryz.results124 rfl ?_;simp only[ZZ,simprocAttr,i64];refine rg fun K hK=>?_;simp only[ZZ,simprocAttr,i64];apply hK;try clear hK K
  refine aF fun K1 hK1=>?_;refine rg fun K hK=>?_;simp only[ZZ,simprocAttr,i64];refine mt (aFl g p hl hc) Tryz.func45 rfl ⟨⟨rfl,rfl⟩,rfl⟩ rfl ?_;cases h1:pC p
  ·have h1':((kN p).2.2 != 0)=true:=by unfold pC at h1;simp[bne,h1]
   simp only[ZZ,simprocAttr,i64];apply hK;try clear hK K
   refine rg fun K hK=>?_;simp only[ZZ,simprocAttr,i64,h1'];apply hK;try clear hK K
   apply aB rfl;refine rg fun K hK=>?_;simp only[ZZ,simprocAttr,i64];apply hK;try clear hK K
   apply aC;simp only[ZZ,simprocAttr,i64,h1]
  have h1':((kN p).2.2 != 0)=false:=by unfold pC at h1;simp[bne,h1]
  simp only[ZZ,simprocAttr,i64];apply hK;try clear hK K
  by_cases h2:fn < 0
  ·have h2':¬0≤fn:=by omega
   refine rg fun K hK=>?_;simp only[ZZ,simprocAttr,i64,h1',h2];apply hK;try clear hK K
   apply aB rfl;refine rg fun K hK=>?_;simp only[ZZ,simprocAttr,i64];apply hK;try clear hK K
   apply aC;simp only[ZZ,simprocAttr,i64,h1,h2']
  have h2':0≤fn:=by omega
  by_cases h3:(p.length:Int)≤fn
  ·have h3':¬fn < p.length:=by omega
   refine rg fun K hK=>?_;simp only[ZZ,simprocAttr,i64,h1',h2,h3];apply hK;try clear hK K
   apply aB rfl;refine rg fun K hK=>?_;simp only[ZZ,simprocAttr,i64];apply hK;try clear hK K
   apply aC;simp only[ZZ,simprocAttr,i64,h1,h2',h3']
  have h3':fn < p.length:=by omega
  refine rg fun K hK=>?_;simp only[ZZ,simprocAttr,i64,h1',h2,h3];apply hK;try clear hK K
  apply aD rfl;apply aH;simp only[WX];apply hK1;try clear hK1 K1
  obtain⟨i,rfl⟩:∃ i:Nat,fn=i:=⟨fn.toNat,by omega⟩;have hx:=List.getElem?_eq_getElem (show i < p.length by omega);generalize p[i]'(by omega)=f at hx;have hfm:=List.mem_of_getElem? hx;obtain⟨hp,hall⟩:=Fo h1;obtain⟨-,-,-,-,-,-,hn1,hn2,hop⟩:=iP (iK hp hfm);refine rg fun K hK=>?_;simp only[ZZ,simprocAttr,i64];refine aDw g p i f hx hn1 (by omega) ?_;intro H' b bd be hP hb1 hb2 hb3 hH;simp only[ZZ,simprocAttr,i64];apply hK;try clear hK K
  refine rg fun K hK=>?_;simp only[ZZ,simprocAttr,i64];refine aDv g p f _ _ _ hp hfm (Vw (hall f hfm)) (by simp) (by simp) (by intro x hx;simp at hx;omega) hH ?_;intro H2 d' e' pl' er hr hP2 hH2 hd';simp only[ZZ,simprocAttr,i64];apply hK;try clear hK K
  have ho:=hH2.obj;have hd:=hH2.dep;simp only[rU]at ho;have e1:lJ p (i:Int)=d':=by simp only[lJ,h1,h2',decide_true,Bool.and_self,if_true,Int.toNat_natCast,hx,Jf,hr]
  refine rg fun K hK=>?_;simp only[ZZ,simprocAttr,i64,ho];apply hK;try clear hK K
  apply aC;simp only[ZZ,simprocAttr,i64,h1,h2',h3',e1,hd]
 have:=key.wkR;cases h:pC p && decide (0≤fn) && decide (fn < p.length)
 ·rw[h]at this;have e1:lJ p fn=[]:=by
   simp only[lJ];split
   ·rename_i h1;rw[h1,Bool.true_and]at h;have:p[fn.toNat]?=none:=List.getElem?_eq_none (by simp only[Bool.and_eq_true,decide_eq_true_eq,decide_eq_false_iff_not]at h h1;omega);rw[this]
   ·rfl
  rw[e1];exact this
 ·rw[h]at this;exact this
end
section
open Go Go.RowKit
variable (g:Gl)
def gX (workers ring:Int):Bool:=eK workers 1 64 && eK ring 1 1024
theorem Oc {α:Type}(k:Nat)(a:α):List.replicate (k+1) a=List.replicate k a++[a]:=by rw[List.replicate_succ']
section
variable {Q:Ex→List V→aA→Prop}{dst:Option Tmp}{T:List V}{H:aA}{KK:List V→aA→Prop}
theorem aTe (workers fuel frames ring:Int)(hbad:gX workers ring=false→∀ H',nD H H' noX→KK (put T dst (.tup [.nils,.nils])) H')
 (hok:gX workers ring=true→∀ H' v w,Acc H H' 4 v ((List.replicate workers.toNat (pO 1 ring)).map bG)→Acc H H' 2 w ((List.replicate workers.toNat dN).map aS)→Xo v w→KK (put T dst (.tup [v,w])) H') :
 aZ (Eg g) (FW (Eg g)) 80 [.int .i64 workers,.agg [i64 fuel,i64 frames,i64 ring]] dst T H KK Q:=by
 refine en Tryz.func80 Tryz.ntmps80 Tryz.results80 rfl ⟨⟨rfl,rfl⟩,rfl⟩ ?_;simp only[ZZ,simprocAttr,i64,WH];refine rg fun K hK=>?_;simp only[ZZ,simprocAttr,i64,WH];apply hK;try clear hK K
 refine aF fun K1 hK1=>?_;refine rg fun K hK=>?_;simp only[ZZ,simprocAttr,i64,WH];refine mt (aIw g _ _ _) Tryz.func81 rfl ⟨⟨rfl,rfl⟩,rfl⟩ rfl ?_;cases h1:eK workers 1 64
 ·simp only[ZZ,simprocAttr,i64,WH];apply hK;try clear hK K
  apply aB rfl;refine rg fun K hK=>?_;simp only[ZZ,simprocAttr,i64,WH];apply hK;try clear hK K
  apply aC;simp only[ZZ,simprocAttr,i64,WH];exact hbad (by simp[gX,h1]) _ (nD.push _ _)
 have hw:=h1;simp only[eK,Bool.and_eq_true,decide_eq_true_eq]at hw;simp only[ZZ,simprocAttr,i64,WH];apply hK;try clear hK K
 apply aD rfl;apply aH;simp only[WX];apply hK1;refine rg fun K hK=>?_;simp only[ZZ,simprocAttr,i64,WH];apply hK;try clear hK K
 refine rg fun K hK=>?_;simp only[ZZ,simprocAttr,i64,WH];apply hK;try clear hK K
 refine aF fun K1 hK1=>?_;refine rg fun K hK=>?_;simp only[ZZ,simprocAttr,i64,WH];apply hK;try clear hK K
 refine aT ?_;have hrow:hb (H++[.row 3 [.agg [i64 fuel,i64 frames,i64 ring]] false]) H.length=some (.row 3 [.agg [i64 fuel,i64 frames,i64 ring]] false):=by rw[dS];rfl
 simp only[i64]at hrow;refine cB (fun m T4 H4=>∃ j:Nat,m=workers.toNat - j∧(j:Int)≤workers∧T4.length=35∧gt T4 3 = .ptr H.length 0 0∧gt T4 13 = .int .i64 workers∧gt T4 14 = .int .i64 j∧Acc (H++[.row 3 [.agg [i64 fuel,i64 frames,i64 ring]] false]) H4 4 (gt T4 6) ((List.replicate j (pO 1 ring)).map bG)∧Acc (H++[.row 3 [.agg [i64 fuel,i64 frames,i64 ring]] false]) H4 2 (gt T4 7) ((List.replicate j dN).map aS)∧Xo (gt T4 6) (gt T4 7)∧(0 < j→gX workers ring=true)) (n:=workers.toNat) ⟨0,rfl,by omega,rfl,rfl,rfl,rfl,Acc.nil _ _,Acc.nil _ _,Xo.nil _,fun h=>absurd h (by omega)⟩ ?_;rintro m T4 H4 ⟨j,rfl,hj,hT,e3,e13,e14,hA,hB,hD,hfr⟩;generalize e6:gt T4 6=v6 at hA hD;generalize e7:gt T4 7=v7 at hB hD;rw[eW 35 T4 hT];simp only[show List.range 35=[0,1,2,3,4,5,6,7,8,9,10,11,12,13,14,15,16,17,18,19,20,21,22,23,24,25,26,27,28,29,30,31,32,33,34]from rfl,List.map_cons,List.map_nil,e3,e6,e7,e13,e14];by_cases hjm:(j:Int) < workers
 ·have hr0:hb H4 H.length=_:=(hA.pre H.length (by simp)).trans hrow;have hkey:=aKh g 1 ring;refine rg fun K hK=>?_;simp only[ZZ,simprocAttr,i64,WH,hjm];apply hK;try clear hK K
  refine ct rfl fun K hK=>?_;apply aH;simp only[WX];apply hK;try clear hK K
  refine bl fun K2 hK2=>?_;refine rg fun K hK=>?_;simp only[ZZ,simprocAttr,i64,WH,hr0];refine mt hkey Tryz.func165 rfl ⟨⟨rfl,rfl⟩,rfl⟩ rfl ?_;cases h2:eK ring 1 1024
  ·simp only[ZZ,simprocAttr,i64,WH];apply hK;try clear hK K
   refine aF fun K3 hK3=>?_;refine rg fun K hK=>?_;simp only[ZZ,simprocAttr,i64,WH];apply hK;try clear hK K
   apply aB rfl;refine rg fun K hK=>?_;simp only[ZZ,simprocAttr,i64,WH];apply hK;try clear hK K
   apply aC;simp only[ZZ,simprocAttr,i64,WH];refine hbad (by simp[gX,h1,h2]) _ ?_;have:nD H H4 noX:=⟨by have:=hA.len;simp at this;omega,fun c hc _=>by rw[hA.pre c (by simp;omega),bA _ hc]⟩;exact this.trans (nD.push _ _)
  ·have h3:eK 1 1 ring=true:=by simp only[eK,Bool.and_eq_true,decide_eq_true_eq]at h2 ⊢;omega
   have hf:gX workers ring=true:=by simp[gX,h1,h2]
   simp only[ZZ,simprocAttr,i64,WH,h3,bG];apply hK;try clear hK K
   refine aF fun K3 hK3=>?_;refine rg fun K hK=>?_;simp only[ZZ,simprocAttr,i64,WH];apply hK;try clear hK K
   apply aD rfl;apply aH;simp only[WX];apply hK3;refine rl fun K hK=>?_;simp only[ZZ,simprocAttr,i64,WH];refine Jv hA hB hD (by simp;omega) rfl (by decide) rfl rfl (by simp) fun v' H' hA' hB' hD' hlt=>?_;simp only[ZZ,simprocAttr,i64,WH];refine mt (aKg g ) Tryz.func166 rfl ⟨⟨rfl,rfl⟩,rfl⟩ rfl ?_;simp only[ZZ,simprocAttr,i64,WH,aS];refine Jv hB' hA' hD'.symm (by simp;omega) rfl (by decide) rfl rfl (by simp) fun w' H2 hB2 hA2 hD2 hlt2=>?_;simp only[ZZ,simprocAttr,i64,WH];apply hK;try clear hK K
   simp only[WX];apply hK2;refine rl fun K hK=>?_;simp only[ZZ,simprocAttr,i64,WH,IntWalk.i64_in (j+1) (by omega)];apply hK;try clear hK K
   try simp only[WX]
   exact⟨workers.toNat - (j+1),by omega,j+1,rfl,by omega,rfl,rfl,rfl,rfl,by rw[Oc,List.map_append];exact hA2,by rw[Oc,List.map_append];exact hB2,hD2.symm,fun _=>hf⟩
 ·refine rg fun K hK=>?_;simp only[ZZ,simprocAttr,i64,WH,hjm];apply hK;try clear hK K
  refine cf rfl fun K hK=>?_;apply bZ;simp only[WX,if_true];apply hK1;have hjw:workers.toNat=j:=by omega
  rw[←hjw]at hA hB;refine rg fun K hK=>?_;simp only[ZZ,simprocAttr,i64,WH];apply hK;try clear hK K
  apply aC;simp only[ZZ,simprocAttr,i64,WH];refine hok (hfr (by omega)) _ _ _ ⟨?_,?_,?_⟩ ⟨?_,?_,?_⟩ hD
  ·intro c hc;rw[hA.pre c (by simp;omega),bA _ hc]
  ·have:=hA.len;simp at this;omega
  ·rcases hA.sls with h|⟨b,h1,h2⟩
   ·exact .inl h
   ·exact .inr ⟨b,by simp at h1;omega,h2⟩
  ·intro c hc;rw[hA.pre c (by simp;omega),bA _ hc]
  ·have:=hA.len;simp at this;omega
  ·rcases hB.sls with h|⟨b,h1,h2⟩
   ·exact .inl h
   ·exact .inr ⟨b,by simp at h1;omega,h2⟩
end
end
section
open Go Go.RowKit
variable (g:Gl)
def eV (p:List Fun)(args:List Val)(s workers:Int)(l:Lim):Bool:=pC p && cI p 0 args s && eK l.frames 1 1024 && gX workers l.ring && eK l.fuel 1 100000
def eD (p:List Fun)(args:List Val)(s workers:Int)(l:Lim):Wd:=
 ⟨p,l,⟨[⟨0,true,dK p 0 args s⟩],[],l.frames⟩,List.replicate workers.toNat (pO 1 l.ring),(List.replicate workers.toNat dN).set 0 ⟨0,0⟩,⟨0,0⟩,0,0,⟨0,⟨0,0⟩⟩,0,0,0⟩
def Tt:Wd:=⟨[],⟨0,0,0⟩,⟨[],[],0⟩,[],[],⟨0,0⟩,0,0,⟨0,⟨0,0⟩⟩,0,0,0⟩
theorem aFr {tab:cR}{t e:TypeId}(h:(tab t).desc = .slice e)(b i n:Nat):dL tab .eql t (.sl b i (n+1)) .nils true=some (.bool false):=by
 simp only[dL,h,Vt,if_true]
theorem aJu (p:List Fun)(args:List Val)(s workers:Int)(l:Lim)(hl:p.length≤4294967296)(hc:∀ f,f∈p→f.code.length≤4294967296)(ha:args.length≤4294967296) :
 PC P0 g 25 [.imm (p.map bL),.imm (args.map eVal),.int .i64 s,.int .i64 workers,.agg [i64 l.fuel,i64 l.frames,i64 l.ring]] (.ret (.tup (if eV p args s workers l then [hU (eD p args s workers l),i64 0]else [hU Tt,i64 1]))):=by
 obtain⟨fuel,frames,ring⟩:=l;have key:PC P0 g 25 [.imm (p.map bL),.imm (args.map eVal),.int .i64 s,.int .i64 workers,.agg [i64 fuel,i64 frames,i64 ring]] (.ret (.tup (if eV p args s workers ⟨fuel,frames,ring⟩then [hU (eD p args s workers ⟨fuel,frames,ring⟩),i64 0]else [.agg [.nils,i64 0,i64 0,i64 0,.nils,.nils,i64 0,.nils,.nils,i64 0,i64 0,i64 0,i64 0,i64 0,i64 0,i64 0,i64 0,i64 0,i64 0],i64 1]))):=by
  refine eC Tryz.func25 Tryz.ntmps25 Tryz.results25 rfl ?_;simp only[ZZ,simprocAttr,i64];refine rg fun K hK=>?_;simp only[ZZ,simprocAttr,i64];apply hK;try clear hK K
  refine rg fun K hK=>?_;simp only[ZZ,simprocAttr,i64];refine mt (aFl g p hl hc) Tryz.func45 rfl ⟨⟨rfl,rfl⟩,rfl⟩ rfl ?_;simp only[ZZ,simprocAttr,i64];apply hK;try clear hK K
  refine rg fun K hK=>?_;simp only[ZZ,simprocAttr,i64];refine mt (aIx g p 0 args s hl hc ha) Tryz.func78 rfl ⟨⟨rfl,rfl⟩,rfl⟩ rfl ?_;obtain⟨fv,hfv⟩:∃ fv,fv=(if cI p 0 args s then dK p 0 args s else cZ):=⟨_,rfl⟩;have e1:(V.tup (if cI p 0 args s then [aJ (dK p 0 args s),.bool true]else [aJ cZ,.bool false])) = .tup [aJ fv,.bool (cI p 0 args s)]:=by rw[hfv];cases cI p 0 args s<;>rfl
  rw[e1];simp only[ZZ,simprocAttr,i64,aJ,aN];apply hK;try clear hK K
  refine rg fun K hK=>?_;simp only[ZZ,simprocAttr,i64];refine mt (aRx g _) Tryz.func79 rfl ⟨⟨rfl,rfl⟩,rfl⟩ rfl ?_;obtain⟨pv,hpv⟩:∃ pv:Int,pv=(if eK frames 1 1024 then frames else 0):=⟨_,rfl⟩;have e2:(V.tup (if eK frames 1 1024 then [bJ ⟨[],[],frames⟩,.bool true]else [bJ ⟨[],[],0⟩,.bool false])) = .tup [bJ ⟨[],[],pv⟩,.bool (eK frames 1 1024)]:=by rw[hpv];cases eK frames 1 1024<;>rfl
  rw[e2];simp only[ZZ,simprocAttr,i64,bJ];apply hK;try clear hK K
  refine rg fun K hK=>?_;simp only[ZZ,simprocAttr,i64];refine aTe g workers fuel frames ring ?_ ?_
  ·intro hf H' hP;have hl1:1 < H'.length:=by have:=hP.1;simp at this;omega
   have h0:=hP.2 0 (by simp) rfl;have h1:=hP.2 1 (by simp) rfl;simp only[W1]at h0 h1;simp only[ZZ,simprocAttr,i64];apply hK;try clear hK K
   refine aF fun K1 hK1=>?_;cases hw:pC p
   ·have hw':((kN p).2.2 != 0)=true:=by unfold pC at hw;simp[bne,hw]
    refine rg fun K hK=>?_;simp only[ZZ,simprocAttr,i64,h0,hw'];apply hK;try clear hK K
    apply aB rfl;refine rg fun K hK=>?_;simp only[ZZ,simprocAttr,i64,h1,hl1];apply hK;try clear hK K
    apply aC;simp only[ZZ,simprocAttr,i64,aW hl1,eV,hw]
   have hw':((kN p).2.2 != 0)=false:=by unfold pC at hw;simp[bne,hw]
   cases hi:cI p 0 args s
   ·refine rg fun K hK=>?_;simp only[ZZ,simprocAttr,i64,h0,hw',hi];apply hK;try clear hK K
    apply aB rfl;refine rg fun K hK=>?_;simp only[ZZ,simprocAttr,i64,h1,hl1];apply hK;try clear hK K
    apply aC;simp only[ZZ,simprocAttr,i64,aW hl1,eV,hw,hi]
   cases hh:eK frames 1 1024
   ·refine rg fun K hK=>?_;simp only[ZZ,simprocAttr,i64,h0,hw',hi,hh];apply hK;try clear hK K
    apply aB rfl;refine rg fun K hK=>?_;simp only[ZZ,simprocAttr,i64,h1,hl1];apply hK;try clear hK K
    apply aC;simp only[ZZ,simprocAttr,i64,aW hl1,eV,hw,hi,hh]
   refine rg fun K hK=>?_;simp only[ZZ,simprocAttr,i64,h0,hw',hi,hh];apply hK;try clear hK K
   apply aB rfl;refine rg fun K hK=>?_;simp only[ZZ,simprocAttr,i64,h1,hl1];apply hK;try clear hK K
   apply aC;simp only[ZZ,simprocAttr,i64,aW hl1,eV,hw,hi,hh,hf]
  ·intro hf H' v u hA hB hD;have hl1:1 < H'.length:=by have:=hA.len;simp at this;omega
   have hl2:2 < H'.length:=by have:=hA.len;simp at this;omega
   have hl3:3 < H'.length:=by have:=hA.len;simp at this;omega
   have h0:=hA.pre 0 (by simp);have h1:=hA.pre 1 (by simp);have h2:=hA.pre 2 (by simp);have h3:=hA.pre 3 (by simp);simp only[W1]at h0 h1 h2 h3;have hwk:1≤workers.toNat∧workers.toNat≤64:=by simp only[gX,eK,Bool.and_eq_true,decide_eq_true_eq]at hf;omega
   obtain⟨bv,hbv1,rfl,hbv2,-⟩:∃ b,4≤b∧v = .sl b 0 workers.toNat∧hb H' b=some (.row 4 ((List.replicate workers.toNat (pO 1 ring)).map bG) false)∧True:=by
    rcases hA.sls with ⟨_,h⟩|⟨b,g1,g2,g3,_⟩
    ·have:=congrArg List.length h;simp at this;omega
    ·exact⟨b,by simpa using g1,by simpa using g2,g3,trivial⟩
   obtain⟨bu,hbu1,rfl,hbu2,-⟩:∃ b,4≤b∧u = .sl b 0 workers.toNat∧hb H' b=some (.row 2 ((List.replicate workers.toNat dN).map aS) false)∧True:=by
    rcases hB.sls with ⟨_,h⟩|⟨b,g1,g2,g3,_⟩
    ·have:=congrArg List.length h;simp at this;omega
    ·exact⟨b,by simpa using g1,by simpa using g2,g3,trivial⟩
   obtain⟨nw,hnw⟩:∃ nw,workers.toNat=nw+1:=⟨workers.toNat - 1,by omega⟩;rw[hnw]at hbv2 hbu2 hD ⊢;have hne:bv≠bu:=fun e=>hD bv 0 _ 0 _ rfl (by rw[e]);simp only[ZZ,simprocAttr,i64];apply hK;try clear hK K
   refine aF fun K1 hK1=>?_;cases hw:pC p
   ·have hw':((kN p).2.2 != 0)=true:=by unfold pC at hw;simp[bne,hw]
    refine rg fun K hK=>?_;simp only[ZZ,simprocAttr,i64,h0,hw'];apply hK;try clear hK K
    apply aB rfl;refine rg fun K hK=>?_;simp only[ZZ,simprocAttr,i64,h1,hl1];apply hK;try clear hK K
    apply aC;simp only[ZZ,simprocAttr,i64,aW hl1,eV,hw]
   have hw':((kN p).2.2 != 0)=false:=by unfold pC at hw;simp[bne,hw]
   cases hi:cI p 0 args s
   ·refine rg fun K hK=>?_;simp only[ZZ,simprocAttr,i64,h0,hw',hi];apply hK;try clear hK K
    apply aB rfl;refine rg fun K hK=>?_;simp only[ZZ,simprocAttr,i64,h1,hl1];apply hK;try clear hK K
    apply aC;simp only[ZZ,simprocAttr,i64,aW hl1,eV,hw,hi]
   cases hh:eK frames 1 1024
   ·refine rg fun K hK=>?_;simp only[ZZ,simprocAttr,i64,h0,hw',hi,hh];apply hK;try clear hK K
    apply aB rfl;refine rg fun K hK=>?_;simp only[ZZ,simprocAttr,i64,h1,hl1];apply hK;try clear hK K
    apply aC;simp only[ZZ,simprocAttr,i64,aW hl1,eV,hw,hi,hh]
   have hnil:=fun b i n=>aFr (tab:=tab) (t:=35) (e:=69) (by rw[Sp]) b i n;have hcst:∀ v,nM (.const v)=true:=fun _=>rfl;refine rg fun K hK=>?_;simp only[ZZ,simprocAttr,i64,h0,hw',hi,hh,hcst,hnil];refine mt (aIw g _ _ _) Tryz.func81 rfl ⟨⟨rfl,rfl⟩,rfl⟩ rfl ?_;cases hfu:eK fuel 1 100000
   ·simp only[ZZ,simprocAttr,i64];apply hK;try clear hK K
    apply aB rfl;refine rg fun K hK=>?_;simp only[ZZ,simprocAttr,i64,h1,hl1];apply hK;try clear hK K
    apply aC;simp only[ZZ,simprocAttr,i64,aW hl1,eV,hw,hi,hh,hf,hfu]
   have hnok:eV p args s workers ⟨fuel,frames,ring⟩=true:=by simp[eV,hw,hi,hh,hf,hfu]
   rw[hi,if_pos rfl]at hfv;rw[hh,if_pos rfl]at hpv;subst hfv hpv;simp only[ZZ,simprocAttr,i64];apply hK;try clear hK K
   apply aD rfl;apply aH;simp only[WX];apply hK1;refine rg fun K hK=>?_;simp only[ZZ,simprocAttr,i64,WH,h0];apply hK;try clear hK K
   have hul:=aE hbu2;have hvl:=aE hbv2;have hpl:cC ⟨[],[],pv⟩ (dK p 0 args s)=(⟨[⟨0,true,dK p 0 args s⟩],[],pv⟩,⟨0,0⟩,0):=by
    have h1:1≤pv∧pv≤1024:=by simpa[eK]using hh
    have hm:bN ⟨[],[],pv⟩=true:=by simp[bN,hh,cE,fX];omega
    have h5:(((0:Nat):Int) == pv)=false:=by rw[beq_eq_false_iff_ne];omega
    simp only[cC,hm,if_true,List.reverse_nil,List.length_nil,h5,Bool.false_eq_true,if_false,List.nil_append];rfl
   refine rg fun K hK=>?_;simp only[ZZ,simprocAttr,i64,WH,h3,h2,hl2,hl3];refine mt (aIv g ⟨[],[],pv⟩ (dK p 0 args s) (by simp)) Tryz.func82 rfl ⟨⟨rfl,rfl⟩,rfl⟩ rfl ?_;rw[hpl];simp only[ZZ,simprocAttr,i64,WH,bJ,aS];apply hK;try clear hK K
   have hset:(List.map aS (List.replicate (nw+1) dN)).set 0 (.agg [.int .i64 0,.int .i64 0])=(List.set (List.replicate (nw+1) dN) 0 ⟨0,0⟩).map aS:=by rw[List.map_set];rfl
   have h0n:((0:Int) < ((nw+1:Nat):Int)):=by omega
   have hrn:(List.replicate (nw+1) dN)[0]?=some dN:=by simp
   refine rg fun K hK=>?_;simp only[ZZ,simprocAttr,i64,WH,hul,hbu2,h0n,hrn,Option.map_some];apply hK;try clear hK K
   rw[hset];have hbvr:∀ y,hb (H'.set bu y) bv=hb H' bv:=fun y=>aG hne.symm _;have hH1:∀ y,(H'.set bu y).length=H'.length:=fun y=>List.length_set;have hsel:∀ y,hb (H'.set bu y) 1=hb H' 1:=fun y=>aG (by omega) _;refine rg fun K hK=>?_;simp only[ZZ,simprocAttr,i64,WH,hl1,hsel,h1];apply hK;try clear hK K
   have g1:∀ X Y,hb ((H'.set bu X).set 1 Y) 1=some Y:=fun X Y=>aW (by simpa using hl1) _;have g2:∀ X Y,hb ((H'.set bu X).set 1 Y) bv=hb H' bv:=fun X Y=>by rw[aG (by omega),aG hne.symm]
   have g3:∀ X Y,hb ((H'.set bu X).set 1 Y) bu=some X:=fun X Y=>by rw[aG (by omega),aW hul]
   apply aC;simp only[ZZ,simprocAttr,i64,WH,hl1,hul,hvl,g1,g2,g3,hbv2,hnok,eD,hnw,hU,kY,List.length_set,List.length_replicate]
 have:=key.wkR;cases h:eV p args s workers ⟨fuel,frames,ring⟩<;>rw[h]at this<;>exact this
end
section
open Go.Proofs.Tryz
open Go Go.RowKit
variable (g:Gl)
theorem cP (n:Int):0≤bB n∧bB n < 251:=by
 have h1:=Int.tmod_lt_of_pos n (show(0:Int) < 251 by omega);have h2 : -251 < n.tmod 251:=by have:=Int.tmod_lt_of_pos (-n) (show(0:Int) < 251 by omega);rw[Int.neg_tmod]at this;omega
 exact⟨Int.tmod_nonneg _ (by omega),Int.tmod_lt_of_pos _ (by omega)⟩
theorem Ri:(∀ H n a b,fz H (n+1) (.cpx a b)=some (.cpx a b))∧(∀ H n b,fz H (n+1) (.flt b)=some (.flt b))∧(∀ H n a b,aU H (n+1) (.cpx a b)=[])∧(∀ H n b,aU H (n+1) (.flt b)=[])∧
 (∀ a b,flat (.cpx a b)=true)∧(∀ b,flat (.flt b)=true):=⟨fun _ _ _ _=>rfl,fun _ _ _=>rfl,fun _ _ _ _=>rfl,fun _ _ _=>rfl,fun _ _=>rfl,fun _=>rfl⟩
theorem oE (v:Val):PC P0 g 333 [eVal v] (.ret (.cpx (jB false (bB v.re)) (jB false (bB v.im)))):=by
 refine eC func333 ntmps333 results333 rfl ?_;simp only[ZZ,simprocAttr,i64,eVal];refine rg fun K hK=>?_;simp only[ZZ,simprocAttr,i64,eVal];apply hK;refine dr [0,4,1,5,2,3,6,7,8,9] (by kernel_rfl) fun K hK=>?_;simp only[ZZ,simprocAttr,i64,eVal];refine mt (yJ g _) func203 rfl ⟨⟨rfl,rfl⟩,rfl⟩ rfl ?_;simp only[ZZ,simprocAttr,i64,eVal,WFl];refine mt (yJ g _) func203 rfl ⟨⟨rfl,rfl⟩,rfl⟩ rfl ?_;simp only[ZZ,simprocAttr,i64,eVal,WFl];apply hK;apply aC;simp only[ZZ,simprocAttr,i64,eVal,Ri]
theorem Vc (s:Bool)(x y:Int)(hx:x.natAbs < 2 ^ 40)(hy:y.natAbs < 2 ^ 40):PC P0 g 332 [.cpx (jB false x) (jB s y)] (.ret (eVal (Ya x y))):=by
 refine eC func332 ntmps332 results332 rfl ?_;simp only[ZZ,simprocAttr,i64];refine rg fun K hK=>?_;simp only[ZZ,simprocAttr,i64];apply hK;refine rg fun K hK=>?_;simp only[ZZ,simprocAttr,i64,WFl,aMp false hx,aMp s hy];refine mt (Wc g _ _) func293 rfl ⟨⟨rfl,rfl⟩,rfl⟩ rfl ?_;simp only[ZZ,simprocAttr,i64];apply hK;apply aC;simp only[ZZ,simprocAttr,i64,eVal]
def Zu (a b:Val):Val:=Ya (bB a.re+bB b.re) (bB a.im+bB b.im)
def Vu (a b:Val):Val:=Ya (bB a.re - bB b.re) (bB a.im - bB b.im)
def Ie (a b:Val):Val:=Ya (bB a.re*bB b.re - bB a.im*bB b.im) (bB a.re*bB b.im+bB a.im*bB b.re)
def Fk (a:Val):Val:=Ya (bB a.re) (-bB a.im)
theorem aJi (a b:Val):PC P0 g 289 [eVal a,eVal b] (.ret (eVal (Zu a b))):=by
 have ha:=cP a.re;have hb:=cP a.im;have hc:=cP b.re;have hd:=cP b.im;have hs:=aUu (a:=bB a.re) (b:=bB a.im) (c:=bB b.re) (d:=bB b.im) (by omega) (by omega) (by omega) (by omega);refine eC func289 ntmps289 results289 rfl ?_;simp only[ZZ,simprocAttr,i64,eVal];refine rg fun K hK=>?_;simp only[ZZ,simprocAttr,i64,eVal];apply hK;refine dr [0,2,1,3,4,5,6] (by kernel_rfl) fun K hK=>?_;simp only[ZZ,simprocAttr,i64,eVal];refine mt (oE g _) func333 rfl ⟨⟨rfl,rfl⟩,rfl⟩ rfl ?_;simp only[ZZ,simprocAttr,i64,eVal,Ri];refine mt (oE g _) func333 rfl ⟨⟨rfl,rfl⟩,rfl⟩ rfl ?_;simp only[ZZ,simprocAttr,i64,eVal,Ri,WFl,hs];refine mt (Vc g false (bB a.re+bB b.re) (bB a.im+bB b.im) (by omega) (by omega)) func332 rfl ⟨⟨rfl,rfl⟩,rfl⟩ (by simp only[ZZ,simprocAttr,i64,eVal,Ri,WH]) ?_;simp only[ZZ,simprocAttr,i64,eVal];apply hK;apply aC;simp only[ZZ,simprocAttr,i64,eVal,eVal,Zu]
theorem aJh (a b:Val):PC P0 g 290 [eVal a,eVal b] (.ret (eVal (Vu a b))):=by
 have ha:=cP a.re;have hb:=cP a.im;have hc:=cP b.re;have hd:=cP b.im;have hs:=aTm (a:=bB a.re) (b:=bB a.im) (c:=bB b.re) (d:=bB b.im) (by omega) (by omega) (by omega) (by omega);refine eC func290 ntmps290 results290 rfl ?_;simp only[ZZ,simprocAttr,i64,eVal];refine rg fun K hK=>?_;simp only[ZZ,simprocAttr,i64,eVal];apply hK;refine dr [0,2,1,3,4,5,6] (by kernel_rfl) fun K hK=>?_;simp only[ZZ,simprocAttr,i64,eVal];refine mt (oE g _) func333 rfl ⟨⟨rfl,rfl⟩,rfl⟩ rfl ?_;simp only[ZZ,simprocAttr,i64,eVal,Ri];refine mt (oE g _) func333 rfl ⟨⟨rfl,rfl⟩,rfl⟩ rfl ?_;simp only[ZZ,simprocAttr,i64,eVal,Ri,WFl,hs];refine mt (Vc g false (bB a.re - bB b.re) (bB a.im - bB b.im) (by omega) (by omega)) func332 rfl ⟨⟨rfl,rfl⟩,rfl⟩ (by simp only[ZZ,simprocAttr,i64,eVal,Ri,WH]) ?_;simp only[ZZ,simprocAttr,i64,eVal];apply hK;apply aC;simp only[ZZ,simprocAttr,i64,eVal,eVal,Vu]
theorem Xc (a b:Val):PC P0 g 291 [eVal a,eVal b] (.ret (eVal (Ie a b))):=by
 have ha:=cP a.re;have hb:=cP a.im;have hc:=cP b.re;have hd:=cP b.im;have hs:=aTn (a:=bB a.re) (b:=bB a.im) (c:=bB b.re) (d:=bB b.im) (by omega) (by omega) (by omega) (by omega);have b1:=sR ha.1 hc.1 (by omega) (by omega);have b2:=sR hb.1 hd.1 (by omega) (by omega);have b3:=sR ha.1 hd.1 (by omega) (by omega);have b4:=sR hb.1 hc.1 (by omega) (by omega);have c1:=Int.mul_nonneg ha.1 hc.1;have c2:=Int.mul_nonneg hb.1 hd.1;have c3:=nK ha.2 hc.2 ha.1 hc.1;have c4:=nK hb.2 hd.2 hb.1 hd.1;have c5:=Int.mul_nonneg ha.1 hd.1;have c6:=Int.mul_nonneg hb.1 hc.1;have c7:=nK ha.2 hd.2 ha.1 hd.1;have c8:=nK hb.2 hc.2 hb.1 hc.1;refine eC func291 ntmps291 results291 rfl ?_;simp only[ZZ,simprocAttr,i64,eVal];refine rg fun K hK=>?_;simp only[ZZ,simprocAttr,i64,eVal];apply hK;refine dr [0,2,1,3,4,5,6] (by kernel_rfl) fun K hK=>?_;simp only[ZZ,simprocAttr,i64,eVal];refine mt (oE g _) func333 rfl ⟨⟨rfl,rfl⟩,rfl⟩ rfl ?_;simp only[ZZ,simprocAttr,i64,eVal,Ri];refine mt (oE g _) func333 rfl ⟨⟨rfl,rfl⟩,rfl⟩ rfl ?_;simp only[ZZ,simprocAttr,i64,eVal,Ri,WFl,hs];refine mt (Vc g false (bB a.re*bB b.re - bB a.im*bB b.im) (bB a.re*bB b.im+bB a.im*bB b.re) (by omega) (by omega)) func332 rfl ⟨⟨rfl,rfl⟩,rfl⟩ (by simp only[ZZ,simprocAttr,i64,eVal,Ri,WH]) ?_;simp only[ZZ,simprocAttr,i64,eVal];apply hK;apply aC;simp only[ZZ,simprocAttr,i64,eVal,eVal,Ie]
theorem aJf (a:Val):PC P0 g 294 [eVal a] (.ret (eVal (Fk a))):=by
 have ha:=cP a.re;have hb:=cP a.im;have hn:=aTh (z:=bB a.im) (by omega);refine eC func294 ntmps294 results294 rfl ?_;simp only[ZZ,simprocAttr,i64,eVal];refine rg fun K hK=>?_;simp only[ZZ,simprocAttr,i64,eVal];apply hK;refine rg fun K hK=>?_;simp only[ZZ,simprocAttr,i64,eVal];refine mt (oE g _) func333 rfl ⟨⟨rfl,rfl⟩,rfl⟩ rfl ?_;simp only[ZZ,simprocAttr,i64,eVal,Ri];apply hK;refine rg fun K hK=>?_;simp only[ZZ,simprocAttr,i64,eVal,WFl,hn];refine mt (Vc g true (bB a.re) (-bB a.im) (by omega) (by omega)) func332 rfl ⟨⟨rfl,rfl⟩,rfl⟩ rfl ?_;simp only[ZZ,simprocAttr,i64,eVal];apply hK;apply aC;simp only[ZZ,simprocAttr,i64,eVal,eVal,Fk]
def yU:Nat→Int→Val→Val→Val
 | 0,_,_,out=>out
 | k+1,n,a,out=>if 0 < n then yU k (n.tdiv 2) (Ie a a) (if n.tmod 2=1 then Ie out a else out)else out
def Wu (a:Val)(n:Int):Val:=if n < 0 then⟨0,0⟩else yU 63 n (Ya (bB a.re) (bB a.im)) (Ya 1 0)
theorem Xh (k:Nat)(n:Int)(a out:Val)(h:¬0 < n):yU k n a out=out:=by cases k<;>simp[yU,h]
theorem aJb (a:Val)(n:Int)(hn:n < 9223372036854775808):PC P0 g 334 [eVal a,.int .i64 n] (.ret (eVal (Wu a n))):=by
 have ha:=cP a.re;have hb:=cP a.im;refine eC func334 ntmps334 results334 rfl ?_;simp only[ZZ,simprocAttr,i64,eVal];refine rg fun K hK=>?_;simp only[ZZ,simprocAttr,i64,eVal];apply hK;refine aF fun K1 hK1=>?_;by_cases h0:n < 0
 ·refine rg fun K hK=>?_;simp only[ZZ,simprocAttr,i64,eVal,h0];apply hK;apply aB rfl;refine rg fun K hK=>?_;simp only[ZZ,simprocAttr,i64,eVal];apply hK;apply aC;simp only[ZZ,simprocAttr,i64,eVal,eVal,Wu,h0]
 refine rg fun K hK=>?_;simp only[ZZ,simprocAttr,i64,eVal,h0];apply hK;apply aD rfl;apply aH;simp only[WX];apply hK1;try clear hK1 K1
 refine rg fun K hK=>?_;simp only[ZZ,simprocAttr,i64,eVal];refine mt (Wc g _ _) func293 rfl ⟨⟨rfl,rfl⟩,rfl⟩ rfl ?_;simp only[ZZ,simprocAttr,i64,eVal];apply hK;refine aF fun K1 hK1=>?_;refine rg fun K1 hK1=>?_;simp only[ZZ,simprocAttr,i64,eVal];refine mt (oE g _) func333 rfl ⟨⟨rfl,rfl⟩,rfl⟩ rfl ?_;simp only[ZZ,simprocAttr,i64,eVal,Ri];refine mt (Vc g false (bB a.re) (bB a.im) (by omega) (by omega)) func332 rfl ⟨⟨rfl,rfl⟩,rfl⟩ (by simp only[ZZ,simprocAttr,i64,eVal,Ri,WH]) ?_;simp only[ZZ,simprocAttr,i64,eVal];apply hK1;try clear hK1 K1
 refine aT ?_;refine cB (fun m T H=>∃(k:Nat)(j:Int)(x out:Val),m=j.toNat∧j < 2 ^ k∧T.length=27∧gt T 1 = .int .i64 j∧gt T 2 = .ptr 0 0 0∧gt T 4 = .ptr 1 0 0∧gt T 5 = .ptr 2 0 0∧H=[.row 2 [eVal x] false,.row 2 [.agg [i64 0,i64 0]] false,.row 2 [eVal out] false]∧0≤j∧j≤n∧yU k j x out=Wu a n) (n:=n.toNat) ⟨63,n,_,_,rfl,by omega,rfl,rfl,rfl,rfl,rfl,rfl,by omega,Int.le_refl _,by rw[Wu,if_neg h0]⟩ ?_;rintro m T H ⟨k,j,x,out,rfl,hj,hT,e1,e2,e4,e5,rfl,hj0,hjn,hR⟩;rw[eW 27 T hT];simp only[show List.range 27=[0,1,2,3,4,5,6,7,8,9,10,11,12,13,14,15,16,17,18,19,20,21,22,23,24,25,26]from rfl,List.map_cons,List.map_nil,e1,e2,e4,e5];refine aF fun K4 hK4=>?_;by_cases hp:0 < j
 ·obtain⟨k,rfl⟩:∃ k',k=k' + 1:=by
   cases k with
   | zero=>exfalso;simp at hj;omega
   | succ k'=>exact⟨k',rfl⟩
  have hd:j.tdiv 2=j / 2:=Int.tdiv_eq_ediv_of_nonneg hj0;have hm:j.tmod 2=j % 2:=Int.tmod_eq_emod_of_nonneg hj0;have hj2:j.tdiv 2 < 2 ^ k:=by rw[hd,Int.pow_succ]at *;omega
  have w1:IntKind.i64.wrap (j.tmod 2)=j.tmod 2:=IntWalk.i64_in _ (by omega);have w2:IntKind.i64.wrap (j.tdiv 2)=j.tdiv 2:=IntWalk.i64_in _ (by omega);unfold yU at hR;rw[if_pos hp]at hR;refine rg fun K4 hK4=>?_;simp only[ZZ,simprocAttr,i64,eVal,hp];apply hK4;try clear hK4 K4
  apply aB rfl;apply aH;simp only[WX];apply hK4;try clear hK4 K4
  refine bl fun K2 hK2=>?_;refine aF fun K3 hK3=>?_;by_cases ho:j.tmod 2=1
  ·rw[if_pos ho]at hR;have ho':(j.tmod 2 == 1)=true:=by simpa using ho
   refine rg fun K3 hK3=>?_;simp only[ZZ,simprocAttr,i64,eVal,w1,ho'];apply hK3;try clear hK3 K3
   apply aB rfl;refine rl fun K hK=>?_;simp only[ZZ,simprocAttr,i64,eVal];refine mt (Xc g _ _) func291 rfl ⟨⟨rfl,rfl⟩,rfl⟩ rfl ?_;simp only[ZZ,simprocAttr,i64,eVal];apply hK;try simp only[WX]
   apply hK3;try clear hK3 K3
   refine rl fun K hK=>?_;simp only[ZZ,simprocAttr,i64,eVal];refine mt (Xc g _ _) func291 rfl ⟨⟨rfl,rfl⟩,rfl⟩ rfl ?_;simp only[ZZ,simprocAttr,i64,eVal];apply hK;try simp only[WX]
   apply hK2;try clear hK2 K2
   refine rl fun K hK=>?_;simp only[ZZ,simprocAttr,i64,eVal,w2];apply hK;try simp only[WX]
   exact⟨_,by omega,k,_,_,_,rfl,hj2,rfl,rfl,rfl,rfl,rfl,rfl,by omega,by omega,hR⟩
  ·rw[if_neg ho]at hR;have ho':(j.tmod 2 == 1)=false:=by simpa using ho
   refine rg fun K3 hK3=>?_;simp only[ZZ,simprocAttr,i64,eVal,w1,ho'];apply hK3;try clear hK3 K3
   apply aD rfl;apply aH;simp only[WX];apply hK3;try clear hK3 K3
   refine rl fun K hK=>?_;simp only[ZZ,simprocAttr,i64,eVal];refine mt (Xc g _ _) func291 rfl ⟨⟨rfl,rfl⟩,rfl⟩ rfl ?_;simp only[ZZ,simprocAttr,i64,eVal];apply hK;try simp only[WX]
   apply hK2;try clear hK2 K2
   refine rl fun K hK=>?_;simp only[ZZ,simprocAttr,i64,eVal,w2];apply hK;try simp only[WX]
   exact⟨_,by omega,k,_,_,_,rfl,hj2,rfl,rfl,rfl,rfl,rfl,rfl,by omega,by omega,hR⟩
 ·rw[Xh _ _ _ _ hp]at hR;subst hR;refine rg fun K4 hK4=>?_;simp only[ZZ,simprocAttr,i64,eVal,hp];apply hK4;try clear hK4 K4
  apply aD rfl;apply bZ;simp only[WX,if_true];apply hK1;try clear hK1 K1
  refine rg fun K hK=>?_;simp only[ZZ,simprocAttr,i64,eVal];apply hK;apply aC;simp only[ZZ,simprocAttr,i64,eVal,eVal]
def oV (b:Val):Bool:=!(decide (bB b.re=0) && decide (bB b.im=0))
def Fn (a b:Val):Val:=if oV b then Ie a (Wu b 62999)else⟨0,0⟩
theorem WFc (a b:Nat):cD (.complex .f64 a b) = .cpx a b:=by rw[cD]
theorem aJg (a b:Val):PC P0 g 292 [eVal a,eVal b] (.ret (.tup [eVal (Fn a b),.bool (oV b)])):=by
 have hc:=cP b.re;have hd:=cP b.im;have q1:=feq false false (x:=bB b.re) (y:=0) (by omega) (by omega);have q2:=feq false false (x:=bB b.im) (y:=0) (by omega) (by omega);rw[show jB false 0=0 from rfl]at q1 q2;refine eC func292 ntmps292 results292 rfl ?_;simp only[ZZ,simprocAttr,i64,eVal];refine rg fun K hK=>?_;simp only[ZZ,simprocAttr,i64,eVal];apply hK;refine aF fun K1 hK1=>?_;cases ho:oV b
 ·have ho':(decide (bB b.re=0) && decide (bB b.im=0))=true:=by rw[oV]at ho;simpa only[Bool.not_eq_true',Bool.not_eq_false']using ho
  refine rg fun K hK=>?_;simp only[ZZ,simprocAttr,i64,eVal];refine mt (oE g _) func333 rfl ⟨⟨rfl,rfl⟩,rfl⟩ rfl ?_;simp only[ZZ,simprocAttr,i64,eVal,Ri,WFl,q1,q2,ho',WFc];apply hK;apply aB rfl;refine rg fun K hK=>?_;simp only[ZZ,simprocAttr,i64,eVal];apply hK;apply aC;simp only[ZZ,simprocAttr,i64,eVal,eVal,Fn,ho]
 ·have ho':(decide (bB b.re=0) && decide (bB b.im=0))=false:=by rw[oV]at ho;simpa only[Bool.not_eq_true',Bool.not_eq_false']using ho
  refine rg fun K hK=>?_;simp only[ZZ,simprocAttr,i64,eVal];refine mt (oE g _) func333 rfl ⟨⟨rfl,rfl⟩,rfl⟩ rfl ?_;simp only[ZZ,simprocAttr,i64,eVal,Ri,WFl,q1,q2,ho',WFc];apply hK;apply aD rfl;apply aH;simp only[WX];apply hK1;refine dr [0,1,2,3,4,5] (by kernel_rfl) fun K hK=>?_;simp only[ZZ,simprocAttr,i64,eVal];refine mt (aJb g _ _ (by omega)) func334 rfl ⟨⟨rfl,rfl⟩,rfl⟩ rfl ?_;simp only[ZZ,simprocAttr,i64,eVal];refine mt (Xc g _ _) func291 rfl ⟨⟨rfl,rfl⟩,rfl⟩ rfl ?_;simp only[ZZ,simprocAttr,i64,eVal];apply hK;apply aC;simp only[ZZ,simprocAttr,i64,eVal,eVal,Fn,ho]
end
section
open Go Go.RowKit
variable (g:Gl)
structure RnH (H H0:aA)(r bs bl bt:Nat)(f:Frm)(p:V)(x:Ins)(ac:Act)(ar:V):Prop where
 h0:∀ c,c < 3→hb H c=hb H0 c
 lo:3≤r∧3≤bs∧3≤bl∧3≤bt∧bs≠bl
 hr:hb H r=some (.row 25 [iR f (.sl bs 0 f.stack.length) (.sl bl 0 f.locals.length) (.sl bt 0 f.slots.length) p x ac ar] false)
 hs:∃ st:List Val,hb H bs=some (.row 2 (st.map eVal) false)∧f.stack.length≤st.length∧st.take f.stack.length=f.stack
 hl:hb H bl=some (.row 2 (f.locals.map eVal) false)
 ht:hb H bt=some (.row 6 (f.slots.map cF) false)
 ha:(ar = .nils∧ac.args=[])∨∃ ba,3≤ba∧ar = .sl ba 0 ac.args.length∧hb H ba=some (.row 2 (ac.args.map eVal) false)
theorem RnH.ne {H H0:aA}{r bs bl bt:Nat}{f:Frm}{p:V}{x:Ins}{ac:Act}{ar:V}(h:RnH H H0 r bs bl bt f p x ac ar):bs≠r∧bl≠r∧bt≠r∧bs≠bt∧bl≠bt:=by
 obtain⟨st,h1,_⟩:=h.hs;have h2:=h.hl;have h3:=h.ht;have h4:=h.hr;refine⟨fun e=>?_,fun e=>?_,fun e=>?_,fun e=>?_,fun e=>?_⟩<;>subst e<;>simp_all
theorem RnH.upd {H H' H0:aA}{r bs bl bt:Nat}{f:Frm}{p:V}{x:Ins}{ac:Act}{ar:V}(h:RnH H H0 r bs bl bt f p x ac ar)(hB:dP H H' r){f':Frm}{x':Ins}
 (e1:f'.stack=f.stack) (e2:f'.locals=f.locals) (e3:f'.slots=f.slots)
 (hr:hb H' r=some (.row 25 [iR f' (.sl bs 0 f.stack.length) (.sl bl 0 f.locals.length) (.sl bt 0 f.slots.length) p x' ac ar] false)):RnH H' H0 r bs bl bt f' p x' ac ar:=by
 obtain⟨n1,n2,n3,_⟩:=h.ne;have l:=h.lo;obtain⟨st,s1,s2,s3⟩:=h.hs;refine⟨fun c hc=>?_,l,by rw[e1,e2,e3];exact hr,⟨st,?_,by rw[e1];exact s2,by rw[e1];exact s3⟩,?_,?_,?_⟩
 ·rw[hB.2 c (by have:=aE h.hr;omega) (by omega)];exact h.h0 c hc
 ·rw[hB.2 bs (aE s1) n1];exact s1
 ·rw[hB.2 bl (aE h.hl) n2,e2];exact h.hl
 ·rw[hB.2 bt (aE h.ht) n3,e3];exact h.ht
 ·rcases h.ha with h|⟨ba,q1,q2,q3⟩
  ·exact .inl h
  ·have:ba≠r:=fun e=>by subst e;rw[h.hr]at q3;simp at q3
   exact .inr ⟨ba,q1,q2,by rw[hB.2 ba (aE q3) this];exact q3⟩
theorem RnH.updA {H H' H0:aA}{r bs bl bt:Nat}{f:Frm}{p:V}{x:Ins}{ac:Act}{ar:V}(h:RnH H H0 r bs bl bt f p x ac ar)(hB:dP H H' r){f':Frm}{x':Ins}{ac':Act}
 (e1:f'.stack=f.stack) (e2:f'.locals=f.locals) (e3:f'.slots=f.slots) (e4:ac'.args=[])
 (hr:hb H' r=some (.row 25 [iR f' (.sl bs 0 f.stack.length) (.sl bl 0 f.locals.length) (.sl bt 0 f.slots.length) p x' ac' .nils] false)):RnH H' H0 r bs bl bt f' p x' ac' .nils:=by
 obtain⟨n1,n2,n3,_⟩:=h.ne;have l:=h.lo;obtain⟨st,s1,s2,s3⟩:=h.hs;refine⟨fun c hc=>?_,l,by rw[e1,e2,e3];exact hr,⟨st,?_,by rw[e1];exact s2,by rw[e1];exact s3⟩,?_,?_,.inl ⟨rfl,e4⟩⟩
 ·rw[hB.2 c (by have:=aE h.hr;omega) (by omega)];exact h.h0 c hc
 ·rw[hB.2 bs (aE s1) n1];exact s1
 ·rw[hB.2 bl (aE h.hl) n2,e2];exact h.hl
 ·rw[hB.2 bt (aE h.ht) n3,e3];exact h.ht
theorem dP.set {H:aA}{b:Nat}(k:Blk):dP H (H.set b k) b:=⟨by simp,fun c _ hcb=>aG (Ne.symm hcb) _⟩
def fD (p:List Fun)(f:Frm)(y:Ins):Bool:=
 if y.op=1∨y.op=2 then decide (y.a < f.locals.length)else if y.op=14 then decide (y.a < f.slots.length)
 else if y.op=13 then decide (y.a < p.length) && decide (y.b < f.slots.length)else true
def fZ (p:List Fun)(f:Frm)(l:List Ins):Option Ins:=
 if 0≤f.pc∧f.pc < l.length then match l[f.pc.toNat]? with|some y=>if fH y && fD p f y then some y else none|none=>none else none
section
variable {Q:Ex→List V→aA→Prop}{dst:Option Tmp}{T:List V}{H H0:aA}{KK:List V→aA→Prop}{r bs bl bt:Nat}{f:Frm}{x:Ins}{ac:Act}{ar:V}{p:List Fun}
theorem aMd (l:List Ins)(hl:l.length≤1073741824)(h:RnH H H0 r bs bl bt f (.imm (p.map bL)) x ac ar)
 (hk:∀ H' x',RnH H' H0 r bs bl bt f (.imm (p.map bL)) x' ac ar→((fZ p f l).isSome=true→fZ p f l=some x')→KK (put T dst (.bool (fZ p f l).isSome)) H') :
 aZ (Eg g) (FW (Eg g)) 239 [.ptr r 0 0,.imm (l.map aK)] dst T H KK Q:=by
 have hrr:=h.hr;have hrl:=aE hrr;simp only[iR]at hrr;refine en Tryz.func239 Tryz.ntmps239 Tryz.results239 rfl ⟨⟨rfl,rfl⟩,rfl⟩ ?_;simp only[ZZ,simprocAttr,i64];refine rg fun K hK=>?_;simp only[ZZ,simprocAttr,i64];apply hK;refine aF fun K1 hK1=>?_;by_cases h1:f.pc < 0
 ·have e:fZ p f l=none:=by rw[fZ,if_neg (by omega)]
  refine rg fun K hK=>?_;simp only[ZZ,simprocAttr,i64,WH,hrr,h1];apply hK;apply aB rfl;refine rg fun K hK=>?_;simp only[ZZ,simprocAttr,i64];apply hK;apply aC;simp only[WX,aM,aI,W1,W5,aL,aO,List.mapM_nil,Option.pure_def];have:=hk H x h (by rw[e];simp);rw[e]at this;exact this
 have h1':0≤f.pc:=by omega
 by_cases h2:(l.length:Int)≤f.pc
 ·have e:fZ p f l=none:=by rw[fZ,if_neg (by omega)]
  refine rg fun K hK=>?_;simp only[ZZ,simprocAttr,i64,WH,hrr,h1,h2];apply hK;apply aB rfl;refine rg fun K hK=>?_;simp only[ZZ,simprocAttr,i64];apply hK;apply aC;simp only[WX,aM,aI,W1,W5,aL,aO,List.mapM_nil,Option.pure_def];have:=hk H x h (by rw[e];simp);rw[e]at this;exact this
 have hx:=List.getElem?_eq_getElem (show f.pc.toNat < l.length by omega);generalize l[f.pc.toNat]'(by omega)=y at hx;have e0:fZ p f l=if fH y && fD p f y then some y else none:=by
  rw[fZ,if_pos ⟨h1',by omega⟩,hx]
 cases h3:fH y
 ·have e:fZ p f l=none:=by rw[e0,h3];rfl
  refine rg fun K hK=>?_;simp only[ZZ,simprocAttr,i64,WH,hrr,h1,h2,h1',List.getElem?_map,hx,Option.map_some];refine mt (Nj g y) Tryz.func155 rfl ⟨⟨rfl,rfl⟩,rfl⟩ rfl ?_;simp only[ZZ,simprocAttr,i64,h3];apply hK;apply aB rfl;refine rg fun K hK=>?_;simp only[ZZ,simprocAttr,i64];apply hK;apply aC;simp only[WX,aM,aI,W1,W5,aL,aO,List.mapM_nil,Option.pure_def];have:=hk H x h (by rw[e];simp);rw[e]at this;exact this
 rw[h3,Bool.true_and]at e0;refine rg fun K hK=>?_;simp only[ZZ,simprocAttr,i64,WH,hrr,h1,h2,h1',List.getElem?_map,hx,Option.map_some];refine mt (Nj g y) Tryz.func155 rfl ⟨⟨rfl,rfl⟩,rfl⟩ rfl ?_;simp only[ZZ,simprocAttr,i64,h3];apply hK;apply aD rfl;apply aH;simp only[WX];apply hK1;refine rg fun K hK=>?_;simp only[ZZ,simprocAttr,i64,WH,hrl,hrr,h1',List.getElem?_map,hx,Option.map_some,aK];apply hK;obtain⟨op,a,b⟩:=y;have hq:RnH (H.set r (.row 25 [iR f (.sl bs 0 f.stack.length) (.sl bl 0 f.locals.length) (.sl bt 0 f.slots.length) (.imm (p.map bL)) ⟨op,a,b⟩ ac ar] false)) H0 r bs bl bt f (.imm (p.map bL)) ⟨op,a,b⟩ ac ar:=h.upd (dP.set _) rfl rfl rfl (aW hrl _);obtain⟨H1,hH1⟩:∃ H1,H1=H.set r (.row 25 [iR f (.sl bs 0 f.stack.length) (.sl bl 0 f.locals.length) (.sl bt 0 f.slots.length) (.imm (p.map bL)) ⟨op,a,b⟩ ac ar] false):=⟨_,rfl⟩;rw[←hH1]at hq;simp only[iR]at hH1;rw[←hH1];clear hH1;have hr1:=hq.hr;simp only[iR]at hr1;have fin:∀ c:Bool,fD p f ⟨op,a,b⟩=c→KK (put T dst (.bool c)) H1:=by
  intro c hc;have:=hk H1 ⟨op,a,b⟩ hq (by rw[e0];split<;>simp);have e:(fZ p f l).isSome=c:=by rw[e0,←hc];cases fD p f ⟨op,a,b⟩<;>rfl
  rw[e]at this;exact this
 refine aF fun K1 hK1=>?_;refine rg fun K hK=>?_;simp only[ZZ,simprocAttr,i64,WH,hr1];apply hK;refine aT ?_;refine aF fun K2 hK2=>?_;by_cases q1:op=1
 ·subst q1;refine rg fun K hK=>?_;simp only[ZZ,simprocAttr,i64];apply hK;apply aB rfl;apply aH;simp only[WX];apply hK2;try clear hK2 K2
  apply aB rfl;refine dr [0,1,2,3,5,6,7,8,4,9,10,11,12] (by kernel_rfl) fun K hK=>?_;simp only[ZZ,simprocAttr,i64,WH,hr1];apply hK;apply aC;simp only[WX,aM,aI,W1,W5,aL,aO,List.mapM_nil,Option.pure_def];exact fin _ (by rw[fD,if_pos (.inl rfl)])
 have q1':(op == 1)=false:=by simpa using q1
 refine rg fun K hK=>?_;simp only[ZZ,simprocAttr,i64,q1'];apply hK;apply aD rfl;by_cases q2:op=2
 ·subst q2;refine rl fun K hK=>?_;simp only[ZZ,simprocAttr,i64];apply hK;try simp only[WX]
  apply hK2;try clear hK2 K2
  apply aB rfl;refine dr [0,1,2,3,5,6,7,8,4,9,10,11,12] (by kernel_rfl) fun K hK=>?_;simp only[ZZ,simprocAttr,i64,WH,hr1];apply hK;apply aC;simp only[WX,aM,aI,W1,W5,aL,aO,List.mapM_nil,Option.pure_def];exact fin _ (by rw[fD,if_pos (.inr rfl)])
 have q2':(op == 2)=false:=by simpa using q2
 refine rl fun K hK=>?_;simp only[ZZ,simprocAttr,i64,q2'];apply hK;try simp only[WX]
 apply hK2;try clear hK2 K2
 apply aD rfl;have q12:¬(op=1∨op=2):=by simp[q1,q2]
 by_cases q3:op=14
 ·subst q3;refine rg fun K hK=>?_;simp only[ZZ,simprocAttr,i64];apply hK;apply aB rfl;refine dr [0,1,2,3,5,6,7,8,4,9,10,11,12] (by kernel_rfl) fun K hK=>?_;simp only[ZZ,simprocAttr,i64,WH,hr1];apply hK;apply aC;simp only[WX,aM,aI,W1,W5,aL,aO,List.mapM_nil,Option.pure_def];exact fin _ (by rw[fD,if_neg q12,if_pos rfl])
 have q3':(op == 14)=false:=by simpa using q3
 refine rg fun K hK=>?_;simp only[ZZ,simprocAttr,i64,q3'];apply hK;apply aD rfl;by_cases q4:op=13
 ·subst q4;refine rg fun K hK=>?_;simp only[ZZ,simprocAttr,i64];apply hK;apply aB rfl;by_cases q5:a < p.length
  ·refine dr [0,1,2,3,5,6,7,4,8,9,10,11,12,13,14,15,17,18,19,20,16,21,22,23,24,25] (by kernel_rfl) fun K hK=>?_;simp only[ZZ,simprocAttr,i64,WH,hr1,q5];apply hK;apply aC;simp only[WX,aM,aI,W1,W5,aL,aO,List.mapM_nil,Option.pure_def];exact fin _ (by rw[fD,if_neg q12,if_neg q3,if_pos rfl];simp[q5])
  ·refine dr [0,1,2,3,5,6,7,4,8,9,10,11,12,13,14,15,17,18,19,20,16,21,22,23,24,25] (by kernel_rfl) fun K hK=>?_;simp only[ZZ,simprocAttr,i64,WH,hr1,q5];apply hK;apply aC;simp only[WX,aM,aI,W1,W5,aL,aO,List.mapM_nil,Option.pure_def];exact fin _ (by rw[fD,if_neg q12,if_neg q3,if_pos rfl];simp[q5])
 have q4':(op == 13)=false:=by simpa using q4
 refine rg fun K hK=>?_;simp only[ZZ,simprocAttr,i64,q4'];apply hK;apply aD rfl;apply aH;simp only[WX];apply hK1;refine rg fun K hK=>?_;simp only[ZZ,simprocAttr,i64];apply hK;apply aC;simp only[WX,aM,aI,W1,W5,aL,aO,List.mapM_nil,Option.pure_def];exact fin _ (by rw[fD,if_neg q12,if_neg q3,if_neg q4])
def iL (p:List Fun)(x:Ins):Int:=if x.op=13 then(match p[x.a.toNat]? with|some y=>y.ar|none=>0)else(bE x.op).off
theorem aDt (h:RnH H H0 r bs bl bt f (.imm (p.map bL)) x ac ar)(hx:x.op=13→0≤x.a∧x.a < p.length)
 (hk:KK (put T dst (.int .i64 (iL p x))) H):aZ (Eg g) (FW (Eg g)) 286 [.ptr r 0 0] dst T H KK Q:=by
 have hrr:=h.hr;have hrl:=aE hrr;obtain⟨op,a,b⟩:=x;simp only[iR]at hrr;simp only at hx;refine en Tryz.func286 Tryz.ntmps286 Tryz.results286 rfl ⟨⟨rfl,rfl⟩,rfl⟩ ?_;simp only[ZZ,simprocAttr,i64];refine rg fun K hK=>?_;simp only[ZZ,simprocAttr,i64];apply hK;refine aF fun K1 hK1=>?_;by_cases h1:op=13
 ·have ⟨h2,h3⟩:=hx h1;have hy:=List.getElem?_eq_getElem (show a.toNat < p.length by omega);generalize p[a.toNat]'(by omega)=y at hy;obtain⟨ar',lo,sl,code⟩:=y;subst h1;refine rg fun K hK=>?_;simp only[ZZ,simprocAttr,i64,WH,hrr];apply hK;apply aB rfl;refine dr [0,1,2,4,5,6,7,3,8,9,10,11,12] (by kernel_rfl) fun K hK=>?_;simp only[ZZ,simprocAttr,i64,WH,hrr,h2,List.getElem?_map,hy,Option.map_some];apply hK;apply aC;simp only[WX,aM,aI,W1,W5,aL,aO,List.mapM_nil,Option.pure_def];have e:iL p ⟨13,a,b⟩=ar':=by rw[iL,if_pos rfl,hy]
  rw[e]at hk;exact hk
 ·have h1':(op == 13)=false:=by simpa using h1
  refine rg fun K hK=>?_;simp only[ZZ,simprocAttr,i64,WH,hrr,h1'];apply hK;apply aD rfl;apply aH;simp only[WX];apply hK1;refine rg fun K hK=>?_;simp only[ZZ,simprocAttr,i64,WH,hrr];refine mt (Gt g op) Tryz.func285 rfl ⟨⟨rfl,rfl⟩,rfl⟩ rfl ?_;simp only[ZZ,simprocAttr,i64];apply hK;refine rg fun K hK=>?_;simp only[ZZ,simprocAttr,i64];apply hK;apply aC;simp only[WX,aM,aI,W1,W5,aL,aO,List.mapM_nil,Option.pure_def];have e:iL p ⟨op,a,b⟩=(bE op).off:=by rw[iL,if_neg h1]
  rw[e]at hk;exact hk
def jZ (p:List Fun)(f:Frm)(x:Ins):Bool:=
 decide (0≤iL p x) && decide (iL p x≤f.stack.length) && (decide ((bE x.op).on=0) || decide ((f.stack.length:Int) - iL p x+(bE x.op).on≤16))
theorem aMb (h:RnH H H0 r bs bl bt f (.imm (p.map bL)) x ac ar)(hx:x.op=13→0≤x.a∧x.a < p.length)(hl:f.stack.length≤1073741824)(hp:iL p x≤1073741824)(ho:0≤(bE x.op).on∧(bE x.op).on≤1024)
 (hk:KK (put T dst (.bool (jZ p f x))) H):aZ (Eg g) (FW (Eg g)) 241 [.ptr r 0 0] dst T H KK Q:=by
 have hrr:=h.hr;have hrl:=aE hrr;simp only[iR]at hrr;refine en Tryz.func241 Tryz.ntmps241 Tryz.results241 rfl ⟨⟨rfl,rfl⟩,rfl⟩ ?_;simp only[ZZ,simprocAttr,i64];refine rg fun K hK=>?_;simp only[ZZ,simprocAttr,i64];apply hK;refine rg fun K hK=>?_;simp only[ZZ,simprocAttr,i64,WH,hrr];refine mt (Gt g x.op) Tryz.func285 rfl ⟨⟨rfl,rfl⟩,rfl⟩ rfl ?_;simp only[ZZ,simprocAttr,i64];apply hK;refine rg fun K hK=>?_;simp only[ZZ,simprocAttr,i64];refine aDt g h hx ?_;simp only[ZZ,simprocAttr,i64];apply hK;by_cases h1:0≤iL p x
 ·by_cases h2:iL p x≤f.stack.length
  ·by_cases h3:(bE x.op).on=0
   ·skip;have h3':((bE x.op).on == 0)=true:=by simpa using h3
    refine rg fun K hK=>?_;simp only[ZZ,simprocAttr,i64,WH,hrr,h1,h2,h3'];apply hK;apply aC;simp only[WX,aM,aI,W1,W5,aL,aO,List.mapM_nil,Option.pure_def];have e:jZ p f x=true:=by simp[jZ,h1,h2,h3]
    rw[e]at hk;exact hk
   ·have h3':((bE x.op).on == 0)=false:=by simpa using h3
    refine rg fun K hK=>?_;simp only[ZZ,simprocAttr,i64,WH,hrr,h1,h2,h3',IntWalk.i64_in ((f.stack.length:Int) - iL p x) (by omega),IntWalk.i64_in ((f.stack.length:Int) - iL p x+(bE x.op).on) (by omega)];apply hK;apply aC;simp only[WX,aM,aI,W1,W5,aL,aO,List.mapM_nil,Option.pure_def];have e:jZ p f x=decide ((f.stack.length:Int) - iL p x+(bE x.op).on≤16):=by simp[jZ,h1,h2,h3]
    rw[e]at hk;exact hk
  ·refine rg fun K hK=>?_;simp only[ZZ,simprocAttr,i64,WH,hrr,h1,h2];apply hK;apply aC;simp only[WX,aM,aI,W1,W5,aL,aO,List.mapM_nil,Option.pure_def];have e:jZ p f x=false:=by simp[jZ,h1,h2]
   rw[e]at hk;exact hk
 ·refine rg fun K hK=>?_;simp only[ZZ,simprocAttr,i64,WH,hrr,h1];apply hK;apply aC;simp only[WX,aM,aI,W1,W5,aL,aO,List.mapM_nil,Option.pure_def];have e:jZ p f x=false:=by simp[jZ,h1]
  rw[e]at hk;exact hk
end
end
section
open Go Go.RowKit
variable (g:Gl)
theorem Dz {α:Type}(l:List α)(h:l.length=2):∃ a b,l=[a,b]:=by
 match l,h with
 | [a,b],_=>exact⟨a,b,rfl⟩
theorem RnH.app {H H0:aA}{r bs bl bt:Nat}{f:Frm}{p:V}{x:Ins}{ac:Act}{ar:V}(h:RnH H H0 r bs bl bt f p x ac ar)(l:aA):RnH (H++l) H0 r bs bl bt f p x ac ar:=by
 obtain⟨st,s1,s2,s3⟩:=h.hs;refine⟨fun c hc=>?_,h.lo,?_,⟨st,?_,s2,s3⟩,?_,?_,?_⟩
 ·rw[bA _ (by have:=aE h.hr;have:=h.lo;omega)];exact h.h0 c hc
 ·rw[bA _ (aE h.hr)];exact h.hr
 ·rw[bA _ (aE s1)];exact s1
 ·rw[bA _ (aE h.hl)];exact h.hl
 ·rw[bA _ (aE h.ht)];exact h.ht
 ·rcases h.ha with h|⟨ba,q1,q2,q3⟩
  ·exact .inl h
  ·exact .inr ⟨ba,q1,q2,by rw[bA _ (aE q3)];exact q3⟩
def cG (f:Frm)(n:Nat):Frm:={f with stack:=f.stack.take (f.stack.length - n)}
def cK (f:Frm)(vs:List Val):Frm:={f with stack:=f.stack++vs}
def cA (f:Frm)(c:Int):Frm:={f with state:=2,out:=⟨c,⟨0,0⟩⟩}
def dW:Act:={kA with kind:=4}
def eG:Act:={kA with kind:=1}
theorem uO {tab:cR}{J:aA→Prop}{ops:Array Oper}{d:Option Tmp}{t:TypeId}{x:Operand}{ty:TypeId}{p:String}{af:Array Edge}{T:List V}{H:aA}{gu:Option (Nat×Bool)}{b i j:Nat}{v:V}(hJ:∀ H',J H'→∃ y,hb H' b=some y∧Iz (tab t) (some y) i j=some v)(h1:ev T x = .ptr b i j)(h2:J H) :
 nZ tab J true ops ⟨d,.load t x,ty,p,af,gu⟩ T H:=fun _ _=>by
 refine⟨v,?_,fun H' hH=>?_⟩
 ·obtain⟨y,q1,q2⟩:=hJ H h2;show FO.of (rJ tab H t (ev T x)) H=_;rw[h1,qB,q1,q2];rfl
 ·obtain⟨y,q1,q2⟩:=hJ H' hH;show FO.of (rJ tab H' t (ev T x)) H'=_;rw[h1,qB,q1,q2];rfl
section
variable {Q:Ex→List V→aA→Prop}{dst:Option Tmp}{T:List V}{H H0:aA}{KK:List V→aA→Prop}{r bs bl bt:Nat}{f:Frm}{x:Ins}{ac:Act}{ar p:V}
theorem mS (h:RnH H H0 r bs bl bt f p x ac ar)(n:Nat)(hn:n≤f.stack.length)(hm:f.stack.length≤1073741824)
 (hk:∀ H' b',RnH H' H0 r bs bl bt (cG f n) p x ac ar→dP H H' r→H.length≤b'→hb H' b'=some (.row 2 ((f.stack.drop (f.stack.length - n)).map eVal) false)→KK (put T dst (.sl b' 0 n)) H') :
 aZ (Eg g) (FW (Eg g)) 243 [.ptr r 0 0,.int .i64 n] dst T H KK Q:=by
 obtain⟨st,s1,s2,s3⟩:=h.hs;refine aMa g (st:=st) (n:Int) (by omega) (by omega) hm h.hr s1 s2 ?_;intro H' b' hB hr hb1 hb2;rw[Int.toNat_natCast]at hr hb2 ⊢;have l:=h.lo;obtain⟨n1,n2,n3,_⟩:=h.ne;refine hk H' b' ?_ hB hb1 (by rw[s3]at hb2;exact hb2);have hlen:(cG f n).stack.length=f.stack.length - n:=by simp[cG]
 refine⟨fun c hc=>?_,l,?_,⟨st,?_,?_,?_⟩,?_,?_,?_⟩
 ·rw[hB.2 c (by have:=aE h.hr;omega) (by omega)];exact h.h0 c hc
 ·rw[hr,hlen];rfl
 ·rw[hB.2 bs (aE s1) n1];exact s1
 ·rw[hlen];omega
 ·rw[hlen];show _=f.stack.take _;rw[←s3,List.take_take,s3,Nat.min_eq_left (by omega)]
 ·rw[hB.2 bl (aE h.hl) n2];exact h.hl
 ·rw[hB.2 bt (aE h.ht) n3];exact h.ht
 ·rcases h.ha with h|⟨ba,q1,q2,q3⟩
  ·exact .inl h
  ·have:ba≠r:=fun e=>by subst e;rw[h.hr]at q3;simp at q3
   exact .inr ⟨ba,q1,q2,by rw[hB.2 ba (aE q3) this];exact q3⟩
theorem mR (h:RnH H H0 r bs bl bt f p x ac ar)(hac:ar = .nils∧ac.args=[])(vs:List Val){a:V}(hm:f.stack.length+vs.length≤1073741824)(ha:bS H a=some (vs.map eVal))
 (hk:∀ H' b',RnH H' H0 r b' bl bt (cK f vs) p x ac ar→KK (put T dst (.tup [])) H') :
 aZ (Eg g) (FW (Eg g)) 288 [.ptr r 0 0,a] dst T H KK Q:=by
 obtain⟨st,s1,s2,s3⟩:=h.hs;refine aLt g (st:=st) (vs:=vs) hm h.hr s1 s2 ha ?_;intro H' b' h1 h2 hr hb1 hb2;have l:=h.lo;obtain⟨n1,n2,n3,n4,n5⟩:=h.ne;have hrl:=aE h.hr;have hll:=aE h.hl;refine hk H' b' ⟨fun c hc=>?_,⟨l.1,by omega,l.2.2.1,l.2.2.2.1,by omega⟩,?_,⟨f.stack++vs,?_,Nat.le_refl _,?_⟩,?_,?_,.inl hac⟩
 ·rw[h2 c (by omega) (by omega) (by omega)];exact h.h0 c hc
 ·rw[hr];simp only[cK,List.length_append];rfl
 ·rw[hb2,s3]
 ·exact List.take_length
 ·rw[h2 bl hll n2 (Ne.symm l.2.2.2.2)];exact h.hl
 ·rw[h2 bt (aE h.ht) n3 (Ne.symm n4)];exact h.ht
theorem oT (h:RnH H H0 r bs bl bt f p x ac ar)(c:Int)
 (hk:∀ H',RnH H' H0 r bs bl bt (cA f c) p x dW .nils→KK (put T dst (.tup [])) H') :
 aZ (Eg g) (FW (Eg g)) 240 [.ptr r 0 0,.int .i64 c] dst T H KK Q:=
 aMc g c h.hr fun H' hB hr=>hk H' (h.updA hB rfl rfl rfl rfl hr)
theorem aGg (h:RnH H H0 r bs bl bt f p x ac ar)(o:Outc)
 (hk:∀ H',RnH H' H0 r bs bl bt {f with state:=2,out:=o} p x dW .nils→KK (put T dst (.tup [])) H') :
 aZ (Eg g) (FW (Eg g)) 242 [.ptr r 0 0,cQ o] dst T H KK Q:=
 aDu g o h.hr fun H' hB hr=>hk H' (h.updA hB rfl rfl rfl rfl hr)
def bin (op:Int)(a b:Val):Val:=if op=3 then Zu a b else if op=4 then Vu a b else if op=5 then Ie a b else Fn a b
def fY (f:Frm)(op:Int):Frm×Act:=
 match f.stack.drop (f.stack.length - 2)with
 | [a,b]=>if op=6∧oV b=false then(cA f 1,dW)else({cK (cG f 2) [bin op a b]with pc:=f.pc+1},eG)
 | _=>(f,eG)
theorem Bk (h:RnH H H0 r bs bl bt f p x eG .nils)(h2:2≤f.stack.length)(hm:f.stack.length≤1048576)(hpc:0≤f.pc∧f.pc≤1073741824)(hop:x.op=3∨x.op=4∨x.op=5∨x.op=6)
 (hk:∀ H' bs',RnH H' H0 r bs' bl bt (fY f x.op).1 p x (fY f x.op).2 .nils→KK (put T dst (.tup [])) H') :
 aZ (Eg g) (FW (Eg g)) 246 [.ptr r 0 0] dst T H KK Q:=by
 obtain⟨a,b,hab⟩:∃ a b,f.stack.drop (f.stack.length - 2)=[a,b]:=by
  have:(f.stack.drop (f.stack.length - 2)).length=2:=by rw[List.length_drop];omega
  exact Dz _ this
 obtain⟨op,xa,xb⟩:=x;refine en Tryz.func246 Tryz.ntmps246 Tryz.results246 rfl ⟨⟨rfl,rfl⟩,rfl⟩ ?_;simp only[ZZ,simprocAttr,i64];refine rg fun K hK=>?_;simp only[ZZ,simprocAttr,i64];refine mS g h 2 h2 (by omega) ?_;intro H1 b1 hq hB hb1 hbb;rw[hab]at hbb;have hbl1:=aE hbb;have hqr:=hq.hr;have hql:=aE hqr;have hne:b1≠r:=fun e=>by subst e;rw[hqr]at hbb;simp at hbb
 simp only[iR]at hqr;simp only[ZZ,simprocAttr,i64];apply hK;refine rg fun K hK=>?_;simp only[ZZ,simprocAttr,i64];apply hK;refine rg fun K hK=>?_;simp only[ZZ,simprocAttr,i64];apply hK;refine aF fun K1 hK1=>?_;refine rg fun K hK=>?_;simp only[ZZ,simprocAttr,i64,WH,hqr,hql];apply hK;refine aT ?_;have main:∀(v:Val)(T':List V),gt T' 0 = .ptr r 0 0→gt T' 3 = .ptr H1.length 0 0→T'.length=71→fY f op=({cK (cG f 2) [v]with pc:=f.pc+1},eG)→K1 T' (H1++[.row 2 [eVal v] false]):=by
  intro v T' e0 e3 hT hd;apply hK1;rw[eW 71 T' hT];simp only[show List.range 71=[0,1,2,3,4,5,6,7,8,9,10,11,12,13,14,15,16,17,18,19,20,21,22,23,24,25,26,27,28,29,30,31,32,33,34,35,36,37,38,39,40,41,42,43,44,45,46,47,48,49,50,51,52,53,54,55,56,57,58,59,60,61,62,63,64,65,66,67,68,69,70]from rfl,List.map_cons,List.map_nil,e0,e3];refine rg fun K hK=>?_;simp only[ZZ,simprocAttr,i64,WH];refine mR g (hq.app _) ⟨rfl,rfl⟩ [v] (by simp[cG];omega) (by rw[eZ,bO (n:=H1.length) _ 1 rfl];rfl) ?_;intro H2 b2 hq2;have hr2:=hq2.hr;have hl2:=aE hr2;simp only[iR]at hr2;have w1:IntKind.i64.wrap (f.pc+1)=f.pc+1:=IntWalk.i64_in _ (by omega);simp only[ZZ,simprocAttr,i64];apply hK;refine rl fun K hK=>?_;simp only[ZZ,simprocAttr,i64,WH,hr2,hl2,cK,cG,w1];apply hK;try simp only[WX]
  simp only[WX,bF,aI,W5,List.mapM_nil,Option.pure_def];rw[hd]at hk;exact hk _ b2 (hq2.upd (f':={cK (cG f 2) [v]with pc:=f.pc+1}) (dP.set _) rfl rfl rfl (aW hl2 _))
 rcases hop with rfl|rfl|rfl|rfl
 ·have hd:fY f 3=({cK (cG f 2) [Zu a b]with pc:=f.pc+1},eG):=by rw[fY,hab];rfl
  refine rg fun K hK=>?_;simp only[ZZ,simprocAttr,i64];apply hK;apply aB rfl;refine dl [0,3,1,2,4,5,6,7] (by kernel_rfl) fun K hK=>?_;simp only[ZZ,simprocAttr,i64,WH,hbb,hbl1];refine mt (aJi g a b) Tryz.func289 rfl ⟨⟨rfl,rfl⟩,rfl⟩ rfl ?_;simp only[ZZ,simprocAttr,i64,WH];apply hK;try simp only[WX]
  exact main (Zu a b) _ rfl rfl rfl hd
 ·have hd:fY f 4=({cK (cG f 2) [Vu a b]with pc:=f.pc+1},eG):=by rw[fY,hab];rfl
  refine rg fun K hK=>?_;simp only[ZZ,simprocAttr,i64];apply hK;apply aD rfl;refine rg fun K hK=>?_;simp only[ZZ,simprocAttr,i64];apply hK;apply aB rfl;refine dl [0,3,1,2,4,5,6,7] (by kernel_rfl) fun K hK=>?_;simp only[ZZ,simprocAttr,i64,WH,hbb,hbl1];refine mt (aJh g a b) Tryz.func290 rfl ⟨⟨rfl,rfl⟩,rfl⟩ rfl ?_;simp only[ZZ,simprocAttr,i64,WH];apply hK;try simp only[WX]
  exact main (Vu a b) _ rfl rfl rfl hd
 ·have hd:fY f 5=({cK (cG f 2) [Ie a b]with pc:=f.pc+1},eG):=by rw[fY,hab];rfl
  refine rg fun K hK=>?_;simp only[ZZ,simprocAttr,i64];apply hK;apply aD rfl;refine rg fun K hK=>?_;simp only[ZZ,simprocAttr,i64];apply hK;apply aD rfl;refine rg fun K hK=>?_;simp only[ZZ,simprocAttr,i64];apply hK;apply aB rfl;refine dl [0,3,1,2,4,5,6,7] (by kernel_rfl) fun K hK=>?_;simp only[ZZ,simprocAttr,i64,WH,hbb,hbl1];refine mt (Xc g a b) Tryz.func291 rfl ⟨⟨rfl,rfl⟩,rfl⟩ rfl ?_;simp only[ZZ,simprocAttr,i64,WH];apply hK;try simp only[WX]
  exact main (Ie a b) _ rfl rfl rfl hd
 ·refine rg fun K hK=>?_;simp only[ZZ,simprocAttr,i64];apply hK;apply aD rfl;refine rg fun K hK=>?_;simp only[ZZ,simprocAttr,i64];apply hK;apply aD rfl;refine rg fun K hK=>?_;simp only[ZZ,simprocAttr,i64];apply hK;apply aD rfl;refine rg fun K hK=>?_;simp only[ZZ,simprocAttr,i64];apply hK;apply aB rfl;refine dr [0,3,1,2,4,5,6,7,8,9,10,11] (by kernel_rfl) fun K hK=>?_;simp only[ZZ,simprocAttr,i64,WH,hbb,hbl1];refine mt (aJg g a b) Tryz.func292 rfl ⟨⟨rfl,rfl⟩,rfl⟩ rfl ?_;simp only[ZZ,simprocAttr,i64,WH];apply hK;cases ho:oV b
  ·have hd:fY f 6=(cA f 1,dW):=by rw[fY,hab];simp[ho]
   refine rg fun K hK=>?_;simp only[ZZ,simprocAttr,i64];apply hK;apply aB rfl;refine rg fun K hK=>?_;simp only[ZZ,simprocAttr,i64];refine mR g (hq.app _) ⟨rfl,rfl⟩ [a,b] (by simp[cG];omega) (by rw[eZ,bA _ hbl1,hbb];rfl) ?_;intro H2 b2 hq2;simp only[ZZ,simprocAttr,i64];apply hK;refine rg fun K hK=>?_;simp only[ZZ,simprocAttr,i64];refine oT g hq2 1 ?_;intro H3 hq3;simp only[ZZ,simprocAttr,i64];apply hK;apply aC;simp only[WX,aM,aI,W1,W5,aL,aO,List.mapM_nil,Option.pure_def];rw[hd]at hk;have e:cA (cK (cG f 2) [a,b]) 1=cA f 1:=by
    show({f with stack:=f.stack.take (f.stack.length - 2)++[a,b],state:=2,out:=⟨1,⟨0,0⟩⟩}:Frm)={f with state:=2,out:=⟨1,⟨0,0⟩⟩};rw[←hab,List.take_append_drop]
   rw[e]at hq3;exact hk _ b2 hq3
  ·have hd:fY f 6=({cK (cG f 2) [Fn a b]with pc:=f.pc+1},eG):=by rw[fY,hab];simp only[ho,Bool.true_eq_false,and_false,if_false];rfl
   refine rg fun K hK=>?_;simp only[ZZ,simprocAttr,i64];apply hK;apply aD rfl;apply aH;simp only[WX];exact main (Fn a b) _ rfl rfl rfl hd
def bC (f:Frm)(i:Int)(s:Slt):Frm:={f with slots:=f.slots.set i.toNat s}
def eT (f:Frm)(a:Int):Frm×Act:=
 match f.slots[a.toNat]? with
 | some s=>
  if s.state=1 then({f with state:=1,wait:=a},{kA with kind:=3})
  else if s.state=2 then(if s.out.trap=0 then {cK (bC f a ⟨0,⟨0,0⟩,⟨0,⟨0,0⟩⟩⟩) [s.out.v]with pc:=f.pc+1}else cA (bC f a ⟨0,⟨0,0⟩,⟨0,⟨0,0⟩⟩⟩) s.out.trap,if s.out.trap=0 then eG else dW)
  else(cA f 2,dW)
 | none=>(f,eG)
theorem RnH.slot {H H0:aA}{r bs bl bt:Nat}{f:Frm}{p:V}{x:Ins}{ac:Act}{ar:V}(h:RnH H H0 r bs bl bt f p x ac ar)(i:Int)(s:Slt) :
 RnH (H.set bt (.row 6 ((f.slots.set i.toNat s).map cF) false)) H0 r bs bl bt (bC f i s) p x ac ar:=by
 obtain⟨n1,n2,n3,n4,n5⟩:=h.ne;have l:=h.lo;obtain⟨st,s1,s2,s3⟩:=h.hs;refine⟨fun c hc=>?_,l,?_,⟨st,?_,s2,s3⟩,?_,?_,?_⟩
 ·rw[aG (by omega)];exact h.h0 c hc
 ·rw[aG n3,h.hr];simp only[bC,List.length_set];rfl
 ·rw[aG (Ne.symm n4)];exact s1
 ·rw[aG (Ne.symm n5)];exact h.hl
 ·rw[aW (aE h.ht)];rfl
 ·rcases h.ha with h|⟨ba,q1,q2,q3⟩
  ·exact .inl h
  ·have:bt≠ba:=fun e=>by subst e;have:=h.ht;rw[q3]at this;simp at this
   exact .inr ⟨ba,q1,q2,by rw[aG this];exact q3⟩
theorem aLy (h:RnH H H0 r bs bl bt f p x eG .nils)(hm:f.stack.length≤1048576)(hpc:0≤f.pc∧f.pc≤1073741824)(hx:0≤x.a∧x.a < f.slots.length)
 (hk:∀ H' bs',RnH H' H0 r bs' bl bt (eT f x.a).1 p x (eT f x.a).2 .nils→KK (put T dst (.tup [])) H') :
 aZ (Eg g) (FW (Eg g)) 245 [.ptr r 0 0] dst T H KK Q:=by
 obtain⟨op,xa,xb⟩:=x;simp only at hx hk;have hs:=List.getElem?_eq_getElem (show xa.toNat < f.slots.length by omega);generalize f.slots[xa.toNat]'(by omega)=s at hs;have hrr:=h.hr;have hrl:=aE hrr;have htt:=h.ht;have htl:=aE htt;obtain⟨n1,n2,n3,n4,n5⟩:=h.ne;simp only[iR]at hrr;obtain⟨st,kid,ot,ov⟩:=s;refine en Tryz.func245 Tryz.ntmps245 Tryz.results245 rfl ⟨⟨rfl,rfl⟩,rfl⟩ ?_;simp only[ZZ,simprocAttr,i64];refine dr [0,1,2,3,5,6,7,8,4,9,10,11,12,13] (by kernel_rfl) fun K hK=>?_;simp only[ZZ,simprocAttr,i64,WH,hrr,htt,hx,List.getElem?_map,hs,Option.map_some,cF];apply hK;have hq0:=h.app [.row 6 [cF ⟨st,kid,ot,ov⟩] false];have hb0:hb (H++[.row 6 [cF ⟨st,kid,ot,ov⟩] false]) H.length=some (.row 6 [cF ⟨st,kid,ot,ov⟩] false):=by rw[dS];rfl
 obtain⟨H1,hH1⟩:∃ H1,H1=H++[.row 6 [cF ⟨st,kid,ot,ov⟩] false]:=⟨_,rfl⟩;rw[←hH1]at hq0 hb0;simp only[cF,i64]at hH1;rw[←hH1];obtain⟨c,hc⟩:∃ c,c=H.length:=⟨_,rfl⟩;rw[←hc]at hb0;rw[←hc];have hcr:c≠r:=by omega
 have hct:c≠bt:=by omega
 clear hH1 hc hrr hrl htt htl h;have hrr:=hq0.hr;have hrl:=aE hrr;have htt:=hq0.ht;have htl:=aE htt;have hbl:=aE hb0;simp only[iR]at hrr;simp only[cF]at hb0;refine aF fun K1 hK1=>?_;refine rg fun K hK=>?_;simp only[ZZ,simprocAttr,i64,WH,hb0];apply hK;refine aT ?_;by_cases s1:st=1
 ·subst s1;refine rg fun K hK=>?_;simp only[ZZ,simprocAttr,i64];apply hK;apply aB rfl;refine rg fun K hK=>?_;simp only[ZZ,simprocAttr,i64,WH,hrr,hrl,aW,List.length_set];apply hK;apply aC;simp only[WX,aM,aI,W1,W5,aL,aO,List.mapM_nil,Option.pure_def];have hd:eT f xa=({f with state:=1,wait:=xa},{kA with kind:=3}):=by rw[eT,hs];rfl
  rw[hd]at hk;refine hk _ bs (hq0.updA (f':={f with state:=1,wait:=xa}) (ac':={kA with kind:=3}) ?_ rfl rfl rfl rfl (aW hrl _));exact dP.set _
 have s1':(st == 1)=false:=by simpa using s1
 by_cases s2:st=2
 ·subst s2;refine rg fun K hK=>?_;simp only[ZZ,simprocAttr,i64];apply hK;apply aD rfl;refine rg fun K hK=>?_;simp only[ZZ,simprocAttr,i64];apply hK;apply aB rfl;apply aH;simp only[WX];apply hK1;refine dr [0,1,2,3,5,6,7,8,10,4,9,11,12] (by kernel_rfl) fun K hK=>?_;simp only[ZZ,simprocAttr,i64,WH,hrr,hrl,htt,htl,hx,List.getElem?_map,hs,Option.map_some,cF];apply hK;have hq:=hq0.slot xa ⟨0,⟨0,0⟩,⟨0,⟨0,0⟩⟩⟩;obtain⟨H2,hH2⟩:∃ H2,H2=H1.set bt (.row 6 ((f.slots.set xa.toNat ⟨0,⟨0,0⟩,⟨0,⟨0,0⟩⟩⟩).map cF) false):=⟨_,rfl⟩;have hc2:hb H2 c=hb H1 c:=by rw[hH2,aG (Ne.symm hct)]
  rw[hb0]at hc2;rw[←hH2]at hq;rw[List.map_set]at hH2;simp only[cF,i64]at hH2;rw[←hH2];clear hH2 hrr hrl htt htl;have hrr:=hq.hr;have hrl:=aE hrr;have hcl:=aE hc2;simp only[iR]at hrr;refine aF fun K1 hK1=>?_;by_cases s3:ot=0
  ·subst s3;have hd:eT f xa=({cK (bC f xa ⟨0,⟨0,0⟩,⟨0,⟨0,0⟩⟩⟩) [ov]with pc:=f.pc+1},eG):=by rw[eT,hs];rfl
   refine rg fun K hK=>?_;simp only[ZZ,simprocAttr,i64,WH,hc2];apply hK;apply aD rfl;apply aH;simp only[WX];apply hK1;refine rg fun K hK=>?_;simp only[ZZ,simprocAttr,i64,WH,hc2];refine mR g (hq.app _) ⟨rfl,rfl⟩ [ov] (by simp[bC];omega) (by rw[eZ,dS];rfl) ?_;intro H3 b3 hq3;simp only[ZZ,simprocAttr,i64];apply hK;have hr3:=hq3.hr;have hl3:=aE hr3;simp only[iR]at hr3;have w1:IntKind.i64.wrap (f.pc+1)=f.pc+1:=IntWalk.i64_in _ (by omega);refine rl fun K hK=>?_;simp only[ZZ,simprocAttr,i64,WH,hr3,hl3,cK,bC,w1];apply hK;try simp only[WX]
   simp only[WX,bF,aI,W5,List.mapM_nil,Option.pure_def];rw[hd]at hk;exact hk _ b3 (hq3.upd (f':={cK (bC f xa ⟨0,⟨0,0⟩,⟨0,⟨0,0⟩⟩⟩) [ov]with pc:=f.pc+1}) (dP.set _) rfl rfl rfl (aW hl3 _))
  ·have s3':(ot != 0)=true:=by simpa using s3
   have hd:eT f xa=(cA (bC f xa ⟨0,⟨0,0⟩,⟨0,⟨0,0⟩⟩⟩) ot,dW):=by
    rw[eT,hs];show(if(2:Int)=1 then _ else if(2:Int)=2 then _ else _)=_;rw[if_neg (by omega),if_pos rfl,if_neg s3,if_neg s3]
   refine rg fun K hK=>?_;simp only[ZZ,simprocAttr,i64,WH,hc2,s3'];apply hK;apply aB rfl;refine rg fun K hK=>?_;simp only[ZZ,simprocAttr,i64,WH,hc2];refine oT g hq ot ?_;intro H3 hq3;simp only[ZZ,simprocAttr,i64];apply hK;apply aC;simp only[WX,aM,aI,W1,W5,aL,aO,List.mapM_nil,Option.pure_def];rw[hd]at hk;exact hk _ bs hq3
 ·have s2':(st == 2)=false:=by simpa using s2
  refine rg fun K hK=>?_;simp only[ZZ,simprocAttr,i64,s1'];apply hK;apply aD rfl;refine rg fun K hK=>?_;simp only[ZZ,simprocAttr,i64,s2'];apply hK;apply aD rfl;refine rg fun K hK=>?_;simp only[ZZ,simprocAttr,i64];refine oT g hq0 2 ?_;intro H2 hq2;simp only[ZZ,simprocAttr,i64];apply hK;apply aC;simp only[WX,aM,aI,W1,W5,aL,aO,List.mapM_nil,Option.pure_def];have hd:eT f xa=(cA f 2,dW):=by rw[eT,hs];simp only[s1,s2,if_false]
  rw[hd]at hk;exact hk _ bs hq2
end
end
section
open Go Go.RowKit
variable (g:Gl)
def bY:Slt:=⟨1,dN,⟨0,⟨0,0⟩⟩⟩
def fJ (p:List Fun)(f:Frm)(x:Ins):Frm×Act:=
 match f.slots[x.b.toNat]? with
 | some s=>if s.state=0 then({cG (bC f x.b bY) (iL p x).toNat with spawned:=f.spawned+1,pc:=f.pc+1},⟨2,x.a,x.b,sZ f.seed f.spawned,f.stack.drop (f.stack.length - (iL p x).toNat)⟩)else(cA f 2,dW)
 | none=>(f,eG)
theorem RnH.updB {H H' H0:aA}{r bs bl bt:Nat}{f:Frm}{p:V}{x:Ins}{ac:Act}{ar:V}(h:RnH H H0 r bs bl bt f p x ac ar)(hB:dP H H' r){f':Frm}{x':Ins}{ac':Act}{ar':V}
 (e1:f'.stack=f.stack) (e2:f'.locals=f.locals) (e3:f'.slots=f.slots) (e4:(ar' = .nils∧ac'.args=[])∨∃ ba,3≤ba∧ar' = .sl ba 0 ac'.args.length∧hb H' ba=some (.row 2 (ac'.args.map eVal) false))
 (hr:hb H' r=some (.row 25 [iR f' (.sl bs 0 f.stack.length) (.sl bl 0 f.locals.length) (.sl bt 0 f.slots.length) p x' ac' ar'] false)):RnH H' H0 r bs bl bt f' p x' ac' ar':=by
 obtain⟨n1,n2,n3,_⟩:=h.ne;have l:=h.lo;obtain⟨st,s1,s2,s3⟩:=h.hs;refine⟨fun c hc=>?_,l,by rw[e1,e2,e3];exact hr,⟨st,?_,by rw[e1];exact s2,by rw[e1];exact s3⟩,?_,?_,e4⟩
 ·rw[hB.2 c (by have:=aE h.hr;omega) (by omega)];exact h.h0 c hc
 ·rw[hB.2 bs (aE s1) n1];exact s1
 ·rw[hB.2 bl (aE h.hl) n2,e2];exact h.hl
 ·rw[hB.2 bt (aE h.ht) n3,e3];exact h.ht
section
variable {Q:Ex→List V→aA→Prop}{dst:Option Tmp}{T:List V}{H H0:aA}{KK:List V→aA→Prop}{r bs bl bt:Nat}{f:Frm}{x:Ins}{ac:Act}{ar:V}
theorem aLz (p:List Fun)(h:RnH H H0 r bs bl bt f (.imm (p.map bL)) x eG .nils)(hm:f.stack.length≤1048576)(hpc:0≤f.pc∧f.pc≤1073741824)(hsp:0≤f.spawned∧f.spawned≤1073741824)
 (hop:x.op=13) (hxa:0≤x.a∧x.a < p.length) (hxb:0≤x.b∧x.b < f.slots.length) (hof:0≤iL p x∧iL p x≤f.stack.length)
 (hk:∀ H' bs' ar',RnH H' H0 r bs' bl bt (fJ p f x).1 (.imm (p.map bL)) x (fJ p f x).2 ar'→(ar' = .nils ↔ (fJ p f x).2.kind≠2)→KK (put T dst (.tup [])) H') :
 aZ (Eg g) (FW (Eg g)) 244 [.ptr r 0 0] dst T H KK Q:=by
 obtain⟨op,xa,xb⟩:=x;simp only at hop hxa hxb;subst hop;have hs:=List.getElem?_eq_getElem (show xb.toNat < f.slots.length by omega);generalize f.slots[xb.toNat]'(by omega)=s at hs;have hrr:=h.hr;have hrl:=aE hrr;have htt:=h.ht;have htl:=aE htt;simp only[iR]at hrr;obtain⟨st,kid,ot,ov⟩:=s;have q1:=hxb.1;have q2:=hxb.2;refine en Tryz.func244 Tryz.ntmps244 Tryz.results244 rfl ⟨⟨rfl,rfl⟩,rfl⟩ ?_;simp only[ZZ,simprocAttr,i64];refine dr [0,1,2,3,5,6,7,8,4,9,10,11] (by kernel_rfl) fun K hK=>?_;simp only[ZZ,simprocAttr,i64,WH,hrr,htt,q1,q2,List.getElem?_map,hs,Option.map_some,cF];apply hK;refine aF fun K1 hK1=>?_;by_cases s1:st=0
 ·subst s1;refine rg fun K hK=>?_;simp only[ZZ,simprocAttr,i64,WH,htt,htl,List.getElem?_map,hs,Option.map_some,cF];apply hK;apply aD rfl;apply aH;simp only[WX];apply hK1;refine rg fun K hK=>?_;simp only[ZZ,simprocAttr,i64];refine mt (It g ) Tryz.func163 rfl ⟨⟨rfl,rfl⟩,rfl⟩ rfl ?_;simp only[ZZ,simprocAttr,i64,WH,htt,htl,List.getElem?_map,hs,Option.map_some,cF,aS,dN];apply hK;have hq:=h.slot xb bY;obtain⟨H2,hH2⟩:∃ H2,H2=H.set bt (.row 6 ((f.slots.set xb.toNat bY).map cF) false):=⟨_,rfl⟩;rw[←hH2]at hq;rw[List.map_set]at hH2;simp only[cF,i64,bY,dN]at hH2;rw[←hH2];clear hH2 hrr hrl htt htl;have hrr:=hq.hr;have hrl:=aE hrr;have hJ:∀ i v,i=18∧v = .int .i64 xa∨i=19∧v = .int .i64 xb→∀ H',(∃ f' s l t ac ar,hb H' r=some (.row 25 [iR f' s l t (.imm (p.map bL)) ⟨13,xa,xb⟩ ac ar] false))→∃ y,hb H' r=some y∧Iz (tab 3) (some y) 0 i=some v:=by
   rintro i v (⟨rfl,rfl⟩|⟨rfl,rfl⟩) H' ⟨f',s,l,t,ac,ar,e⟩<;>exact⟨_,e,by simp only[iR,ZZ,simprocAttr]⟩
  have hJ0:∃ f' s l t ac ar,hb H2 r=some (.row 25 [iR f' s l t (.imm (p.map bL)) ⟨13,xa,xb⟩ ac ar] false):=⟨_,_,_,_,_,_,hq.hr⟩;simp only[iR]at hrr;obtain⟨n,hn⟩:∃ n:Nat,iL p ⟨13,xa,xb⟩=n:=⟨(iL p ⟨13,xa,xb⟩).toNat,by omega⟩;rw[hn]at hof;refine td (fun H'=>∃ f' s l t ac ar,hb H' r=some (.row 25 [iR f' s l t (.imm (p.map bL)) ⟨13,xa,xb⟩ ac ar] false)) (OT.of [0,1,2,3,4,5,6,7,8,9,10,11,12,13,14,15,16,17,18,19,20,21,22,23,24,25,26,27,28,29] .nil) [5,10] (by kernel_rfl) fun K hK=>?_;simp only[ZZ,simprocAttr,i64,WH,hrr,gV 286 ⟨rfl,rfl,rfl⟩,gV 243 ⟨rfl,rfl,rfl⟩,lQ 287 ⟨rfl,rfl⟩];refine⟨uO (hJ 18 _ (.inl ⟨rfl,rfl⟩)) rfl hJ0,uO (hJ 19 _ (.inr ⟨rfl,rfl⟩)) rfl hJ0,?_⟩;refine mt (aJj g _ _) Tryz.func287 rfl ⟨⟨rfl,rfl⟩,rfl⟩ rfl ?_;simp only[ZZ,simprocAttr,i64,gV 286 ⟨rfl,rfl,rfl⟩,gV 243 ⟨rfl,rfl,rfl⟩,lQ 287 ⟨rfl,rfl⟩];refine aDt g hq (fun _=>hxa) ?_;simp only[ZZ,simprocAttr,i64,gV 286 ⟨rfl,rfl,rfl⟩,gV 243 ⟨rfl,rfl,rfl⟩,lQ 287 ⟨rfl,rfl⟩];refine⟨hJ0,?_⟩;rw[hn];have hlen:(bC f xb bY).stack.length=f.stack.length:=rfl;refine mS g hq n (by rw[hlen];omega) (by rw[hlen];omega) ?_;intro H3 b3 hq3 hB3 hb3 hbb;have hr3:=hq3.hr;have hl3:=aE hr3;have hne:b3≠r:=by omega
  have hJ3:∃ f' s l t ac ar,hb H3 r=some (.row 25 [iR f' s l t (.imm (p.map bL)) ⟨13,xa,xb⟩ ac ar] false):=⟨_,_,_,_,_,_,hr3⟩;simp only[iR]at hr3;simp only[ZZ,simprocAttr,i64,WH,hr3,hl3,gV 286 ⟨rfl,rfl,rfl⟩,gV 243 ⟨rfl,rfl,rfl⟩];refine⟨⟨cG (bC f xb bY) n,_,_,_,eG,.nils,rfl⟩,⟨cG (bC f xb bY) n,_,_,_,⟨2,xa,xb,_,[]⟩,.sl b3 0 n,aW hl3 _⟩,?_⟩;apply hK;have hnl:(f.stack.drop (f.stack.length - n)).length=n:=by rw[List.length_drop];omega
  have hrest:(f.stack.drop (f.stack.length - n))=(bC f xb bY).stack.drop ((bC f xb bY).stack.length - n):=rfl;have hq4:=hq3.updB (f':=cG (bC f xb bY) n) (x':=⟨13,xa,xb⟩) (ac':=⟨2,xa,xb,sZ f.seed f.spawned,f.stack.drop (f.stack.length - n)⟩) (ar':=.sl b3 0 n) (dP.set (.row 25 [iR (cG (bC f xb bY) n) (.sl bs 0 (cG (bC f xb bY) n).stack.length) (.sl bl 0 (cG (bC f xb bY) n).locals.length) (.sl bt 0 (cG (bC f xb bY) n).slots.length) (.imm (p.map bL)) ⟨13,xa,xb⟩ ⟨2,xa,xb,sZ f.seed f.spawned,f.stack.drop (f.stack.length - n)⟩ (.sl b3 0 n)] false)) rfl rfl rfl
   (.inr ⟨b3,by have:=aE hq.hr;have:=hq.lo;omega,by rw[hnl],by rw[aG (Ne.symm hne)];exact hbb⟩) (aW hl3 _)
  obtain⟨H4,hH4⟩:∃ H4,H4=H3.set r (.row 25 [iR (cG (bC f xb bY) n) (.sl bs 0 (cG (bC f xb bY) n).stack.length) (.sl bl 0 (cG (bC f xb bY) n).locals.length) (.sl bt 0 (cG (bC f xb bY) n).slots.length) (.imm (p.map bL)) ⟨13,xa,xb⟩ ⟨2,xa,xb,sZ f.seed f.spawned,f.stack.drop (f.stack.length - n)⟩ (.sl b3 0 n)] false):=⟨_,rfl⟩;rw[←hH4]at hq4;simp only[iR,i64]at hH4;have e1:(bC f xb bY).seed=f.seed:=rfl;have e2:(bC f xb bY).spawned=f.spawned:=rfl;rw[e1,e2,←hH4];clear hH4 hr3 hl3 hrr hrl hJ hJ0 hJ3;have hr4:=hq4.hr;have hl4:=aE hr4;simp only[iR]at hr4;have w0:IntKind.i64.wrap (f.spawned+1)=f.spawned+1:=IntWalk.i64_in _ (by omega);have w1:IntKind.i64.wrap (f.pc+1)=f.pc+1:=IntWalk.i64_in _ (by omega);have hd:fJ p f ⟨13,xa,xb⟩=({cG (bC f xb bY) n with spawned:=f.spawned+1,pc:=f.pc+1},⟨2,xa,xb,sZ f.seed f.spawned,f.stack.drop (f.stack.length - n)⟩):=by
   rw[fJ,hs];show(if(0:Int)=0 then _ else _)=_;rw[if_pos rfl,hn];rfl
  rw[hd]at hk;refine rg fun K hK=>?_;simp only[ZZ,simprocAttr,i64,WH,hr4,hl4,bC,cG,w0];apply hK;refine rl fun K hK=>?_;simp only[ZZ,simprocAttr,i64,WH,hr4,hl4,aW,List.length_set,bC,cG,w1];apply hK;try simp only[WX]
  simp only[WX,bF,aI,W5,List.mapM_nil,Option.pure_def];refine hk _ bs _ (hq4.upd (f':={cG (bC f xb bY) n with spawned:=f.spawned+1,pc:=f.pc+1}) ?_ rfl rfl rfl ?_) ⟨fun e=>(by cases e),fun e=>absurd rfl e⟩
  ·exact dP.set _
  ·rw[aW hl4];simp only[iR,cG,bC,List.length_set]
 ·have s1':(st != 0)=true:=by simpa using s1
  have hd:fJ p f ⟨13,xa,xb⟩=(cA f 2,dW):=by rw[fJ,hs];show(if st=0 then _ else _)=_;rw[if_neg s1]
  refine rg fun K hK=>?_;simp only[ZZ,simprocAttr,i64,WH,htt,htl,List.getElem?_map,hs,Option.map_some,cF,s1'];apply hK;apply aB rfl;refine rg fun K hK=>?_;simp only[ZZ,simprocAttr,i64];refine oT g h 2 ?_;intro H2 hq2;simp only[ZZ,simprocAttr,i64];apply hK;apply aC;simp only[WX,aM,aI,W1,W5,aL,aO,List.mapM_nil,Option.pure_def];rw[hd]at hk;exact hk _ bs _ hq2 ⟨fun _=>by show(4:Int)≠2;decide,fun _=>rfl⟩
end
end
section
open Go Go.RowKit
variable (g:Gl)
def hO (f:Frm):Val:=(f.stack.drop (f.stack.length - 1)).headD ⟨0,0⟩
def gC (f:Frm)(x:Ins):Frm:=
 if x.op=0 then {cK f [Ya x.a x.b]with pc:=f.pc+1}
 else if x.op=1 then(match f.locals[x.a.toNat]? with|some v=>{cK f [v]with pc:=f.pc+1} | none=>f)
 else if x.op=2 then {cG f 1 with locals:=f.locals.set x.a.toNat (hO f),pc:=f.pc+1}
 else if x.op=7 then {cK (cG f 1) [Fk (hO f)]with pc:=f.pc+1}
 else if x.op=8 then {cK (cG f 1) [hO f,hO f]with pc:=f.pc+1}
 else if x.op=9 then {cG f 1 with pc:=f.pc+1}
 else if x.op=10 then {f with pc:=x.a}
 else if x.op=11 then {cG f 1 with pc:=if Ya (hO f).re (hO f).im=⟨0,0⟩then x.a else f.pc+1}
 else if x.op=12 then {cK f [draw f.seed f.draws]with draws:=f.draws+1,pc:=f.pc+1}
 else {f with pc:=f.pc+1}
theorem tX (f:Frm)(h:1≤f.stack.length):f.stack.drop (f.stack.length - 1)=[hO f]:=by
 have:(f.stack.drop (f.stack.length - 1)).length=1:=by rw[List.length_drop];omega
 unfold hO;match hq:f.stack.drop (f.stack.length - 1),this with
 | [v],_=>rfl
section
variable {Q:Ex→List V→aA→Prop}{dst:Option Tmp}{T:List V}{H H0:aA}{KK:List V→aA→Prop}{r bs bl bt:Nat}{f:Frm}{x:Ins}{ac:Act}{ar p:V}
theorem aLx (h:RnH H H0 r bs bl bt f p x eG .nils)(hm:f.stack.length≤1048576)(hpc:0≤f.pc∧f.pc≤1073741824)(hdr:0≤f.draws∧f.draws≤1073741824)
 (h1:x.op=2∨x.op=7∨x.op=8∨x.op=9∨x.op=11→1≤f.stack.length) (hxl:x.op=1∨x.op=2→0≤x.a∧x.a < f.locals.length)
 (hk:∀ H' bs',RnH H' H0 r bs' bl bt (gC f x) p x eG .nils→KK (put T dst (.tup [])) H') :
 aZ (Eg g) (FW (Eg g)) 247 [.ptr r 0 0] dst T H KK Q:=by
 have hrr:=h.hr;have hrl:=aE hrr;simp only[iR]at hrr;have w1:IntKind.i64.wrap (f.pc+1)=f.pc+1:=IntWalk.i64_in _ (by omega);refine en Tryz.func247 Tryz.ntmps247 Tryz.results247 rfl ⟨⟨rfl,rfl⟩,rfl⟩ ?_;simp only[ZZ,simprocAttr,i64];refine rg fun K hK=>?_;simp only[ZZ,simprocAttr,i64,WH,hrr,w1];apply hK;try clear hK K
 refine aF fun K1 hK1=>?_;have fin:∀(n:Int)(f1:Frm)(b1:Nat)(H1:aA)(T':List V),RnH H1 H0 r b1 bl bt f1 p x eG .nils→gt T' 0 = .ptr r 0 0→gt T' 2 = .int .i64 n→T'.length=146→gC f x={f1 with pc:=n}→K1 T' H1:=by
  intro n f1 b1 H1 T' hq e0 e2 hT hd;apply hK1;rw[eW 146 T' hT];simp only[show List.range 146=[0,1,2,3,4,5,6,7,8,9,10,11,12,13,14,15,16,17,18,19,20,21,22,23,24,25,26,27,28,29,30,31,32,33,34,35,36,37,38,39,40,41,42,43,44,45,46,47,48,49,50,51,52,53,54,55,56,57,58,59,60,61,62,63,64,65,66,67,68,69,70,71,72,73,74,75,76,77,78,79,80,81,82,83,84,85,86,87,88,89,90,91,92,93,94,95,96,97,98,99,100,101,102,103,104,105,106,107,108,109,110,111,112,113,114,115,116,117,118,119,120,121,122,123,124,125,126,127,128,129,130,131,132,133,134,135,136,137,138,139,140,141,142,143,144,145]from rfl,List.map_cons,List.map_nil,e0,e2];have hr1:=hq.hr;have hl1:=aE hr1;simp only[iR]at hr1;refine rl fun K hK=>?_;simp only[ZZ,simprocAttr,i64,WH,hr1,hl1];apply hK;try clear hK K
  try simp only[WX]
  simp only[WX,bF,aI,W5,List.mapM_nil,Option.pure_def];refine hk _ b1 (hd▸hq.upd (f':={f1 with pc:=n}) (dP.set _) rfl rfl rfl (aW hl1 _))
 obtain⟨op,xa,xb⟩:=x;simp only at h1 hxl;refine rg fun K hK=>?_;simp only[ZZ,simprocAttr,i64,WH,hrr];apply hK;try clear hK K
 refine aT ?_;by_cases c0:op=0
 ·subst c0;refine rg fun K hK=>?_;simp only[ZZ,simprocAttr,i64];apply hK;try clear hK K
  apply aB rfl;refine dl [0,1,2,3,4,6,7,8,9,5,10,11,12,13] (by kernel_rfl) fun K hK=>?_;simp only[ZZ,simprocAttr,i64,WH,hrr];refine mt (Wc g _ _) Tryz.func293 rfl ⟨⟨rfl,rfl⟩,rfl⟩ rfl ?_;simp only[ZZ,simprocAttr,i64];refine mR g (h.app _) ⟨rfl,rfl⟩ [Ya xa xb] (by simp;omega) (by show bS _ (.sl H.length 0 1)=_;rw[eZ,dS];rfl) ?_;intro H2 b2 hq2;simp only[ZZ,simprocAttr,i64];apply hK;try clear hK K
  try simp only[WX]
  exact fin _ _ b2 _ _ hq2 rfl rfl rfl rfl
 have c0':(op == 0)=false:=by simpa using c0
 refine rg fun K hK=>?_;simp only[ZZ,simprocAttr,i64,c0'];apply hK;try clear hK K
 apply aD rfl;by_cases c1:op=1
 ·subst c1;have ⟨q1,q2⟩:=hxl (.inl rfl);have hs:=List.getElem?_eq_getElem (show xa.toNat < f.locals.length by omega);generalize f.locals[xa.toNat]'(by omega)=v at hs;have hll:=h.hl;refine rg fun K hK=>?_;simp only[ZZ,simprocAttr,i64];apply hK;try clear hK K
  apply aB rfl;refine dl [0,1,2,3,4,6,7,8,9,5,10,11,12,13,14] (by kernel_rfl) fun K hK=>?_;simp only[ZZ,simprocAttr,i64,WH,hrr,hll,q1,q2,List.getElem?_map,hs,Option.map_some];refine mR g (h.app _) ⟨rfl,rfl⟩ [v] (by simp;omega) (by show bS _ (.sl H.length 0 1)=_;rw[eZ,dS];rfl) ?_;intro H2 b2 hq2;simp only[ZZ,simprocAttr,i64];apply hK;try clear hK K
  try simp only[WX]
  exact fin _ _ b2 _ _ hq2 rfl rfl rfl (by rw[gC];simp only[hs];rfl)
 have c1':(op == 1)=false:=by simpa using c1
 refine rg fun K hK=>?_;simp only[ZZ,simprocAttr,i64,c1'];apply hK;try clear hK K
 apply aD rfl;by_cases c2:op=2
 ·subst c2;have ⟨q1,q2⟩:=hxl (.inr rfl);have hs:=List.getElem?_eq_getElem (show xa.toNat < f.locals.length by omega);generalize f.locals[xa.toNat]'(by omega)=u at hs;have hJ:∀ i n v,(n=22∧i=3∧v = .sl bl 0 f.locals.length)∨(n=3∧i=18∧v = .int .i64 xa)→∀ H',(∃ f' s t ac ar,hb H' r=some (.row 25 [iR f' s (.sl bl 0 f.locals.length) t p ⟨2,xa,xb⟩ ac ar] false))→∃ y,hb H' r=some y∧Iz (tab n) (some y) 0 i=some v:=by
   rintro i n v (⟨rfl,rfl,rfl⟩|⟨rfl,rfl,rfl⟩) H' ⟨f',s,t,ac,ar,e⟩<;>exact⟨_,e,by simp only[iR,ZZ,simprocAttr]⟩
  have hJ0:∃ f' s t ac ar,hb H r=some (.row 25 [iR f' s (.sl bl 0 f.locals.length) t p ⟨2,xa,xb⟩ ac ar] false):=⟨_,_,_,_,_,h.hr⟩;refine rg fun K hK=>?_;simp only[ZZ,simprocAttr,i64];apply hK;try clear hK K
  apply aB rfl;refine tl (fun H'=>∃ f' s t ac ar,hb H' r=some (.row 25 [iR f' s (.sl bl 0 f.locals.length) t p ⟨2,xa,xb⟩ ac ar] false)) (OT.of [0,1,2,3,4,5,6,7,8,9,10,11,12,13,14,15] .nil) [4,9] (by kernel_rfl) fun K hK=>?_;simp only[ZZ,simprocAttr,i64,WH,hrr,gV 243 ⟨rfl,rfl,rfl⟩];refine⟨uO (hJ 3 22 _ (.inl ⟨rfl,rfl,rfl⟩)) rfl hJ0,uO (hJ 18 3 _ (.inr ⟨rfl,rfl,rfl⟩)) rfl hJ0,?_⟩;refine mS g h 1 (h1 (by simp)) (by omega) ?_;intro H2 b2 hq2 hB2 hb2 hbb;rw[tX f (h1 (by simp))]at hbb;have hbbl:=aE hbb;obtain⟨n1,n2,n3,n4,n5⟩:=hq2.ne;have lo:=hq2.lo;have hll:=hq2.hl;have hlll:=aE hll;have hj2:∃ f' s t ac ar,hb H2 r=some (.row 25 [iR f' s (.sl bl 0 f.locals.length) t p ⟨2,xa,xb⟩ ac ar] false):=⟨_,_,_,_,_,hq2.hr⟩;have e1:(cG f 1).locals=f.locals:=rfl;rw[e1]at hll;simp only[ZZ,simprocAttr,i64,WH,hbb,hbbl,hll,hlll,q1,q2,List.getElem?_map,hs,Option.map_some,gV 243 ⟨rfl,rfl,rfl⟩];refine⟨hj2,?_,?_⟩
  ·obtain⟨f',s,t,ac,ar,e⟩:=hj2;exact⟨f',s,t,ac,ar,by rw[aG n2];exact e⟩
  apply hK;try clear hK K
  try simp only[WX]
  have hq3:RnH (H2.set bl (.row 2 ((f.locals.set xa.toNat (hO f)).map eVal) false)) H0 r bs bl bt {cG f 1 with locals:=f.locals.set xa.toNat (hO f)} p ⟨2,xa,xb⟩ eG .nils:=by
   obtain⟨st,s1,s2,s3⟩:=hq2.hs;refine⟨fun c hc=>?_,lo,?_,⟨st,?_,s2,s3⟩,aW hlll _,?_,.inl ⟨rfl,rfl⟩⟩
   ·rw[aG (by omega)];exact hq2.h0 c hc
   ·rw[aG n2,hq2.hr];simp only[cG,List.length_set];rfl
   ·rw[aG (Ne.symm lo.2.2.2.2)];exact s1
   ·rw[aG n5];exact hq2.ht
  rw[List.map_set]at hq3;exact fin _ _ bs _ _ hq3 rfl rfl rfl rfl
 have c2':(op == 2)=false:=by simpa using c2
 refine rg fun K hK=>?_;simp only[ZZ,simprocAttr,i64,c2'];apply hK;try clear hK K
 apply aD rfl;by_cases c7:op=7
 ·subst c7;refine rg fun K hK=>?_;simp only[ZZ,simprocAttr,i64];apply hK;try clear hK K
  apply aB rfl;refine rl fun K hK=>?_;simp only[ZZ,simprocAttr,i64];refine mS g h 1 (h1 (by simp)) (by omega) ?_;intro H2 b2 hq2 hB2 hb2 hbb;rw[tX f (h1 (by simp))]at hbb;have hbbl:=aE hbb;simp only[ZZ,simprocAttr,i64,WH,hbb,hbbl];refine mt (aJf g _) Tryz.func294 rfl ⟨⟨rfl,rfl⟩,rfl⟩ rfl ?_;simp only[ZZ,simprocAttr,i64,WH];refine mR g (hq2.app _) ⟨rfl,rfl⟩ [Fk (hO f)] (by simp[cG];omega) (by show bS _ (.sl H2.length 0 1)=_;rw[eZ,dS];rfl) ?_;intro H3 b3 hq3;simp only[ZZ,simprocAttr,i64];apply hK;try clear hK K
  try simp only[WX]
  exact fin _ _ b3 _ _ hq3 rfl rfl rfl rfl
 have c7':(op == 7)=false:=by simpa using c7
 refine rg fun K hK=>?_;simp only[ZZ,simprocAttr,i64,c7'];apply hK;try clear hK K
 apply aD rfl;by_cases c8:op=8
 ·subst c8;refine rg fun K hK=>?_;simp only[ZZ,simprocAttr,i64];apply hK;try clear hK K
  apply aB rfl;refine rg fun K hK=>?_;simp only[ZZ,simprocAttr,i64];refine mS g h 1 (h1 (by simp)) (by omega) ?_;intro H2 b2 hq2 hB2 hb2 hbb;rw[tX f (h1 (by simp))]at hbb;have hbbl:=aE hbb;simp only[ZZ,simprocAttr,i64,WH,hbb,hbbl];apply hK;try clear hK K
  refine rl fun K hK=>?_;simp only[ZZ,simprocAttr,i64,WH];refine mR g (hq2.app _) ⟨rfl,rfl⟩ [hO f,hO f] (by simp[cG];omega) (by show bS _ (.sl (H2.length+1) 0 2)=_;rw[eZ,bO (n:=H2.length) _ 1 rfl];rfl) ?_;intro H3 b3 hq3;simp only[ZZ,simprocAttr,i64];apply hK;try clear hK K
  try simp only[WX]
  exact fin _ _ b3 _ _ hq3 rfl rfl rfl rfl
 have c8':(op == 8)=false:=by simpa using c8
 refine rg fun K hK=>?_;simp only[ZZ,simprocAttr,i64,c8'];apply hK;try clear hK K
 apply aD rfl;by_cases c9:op=9
 ·subst c9;refine rg fun K hK=>?_;simp only[ZZ,simprocAttr,i64];apply hK;try clear hK K
  apply aB rfl;refine rl fun K hK=>?_;simp only[ZZ,simprocAttr,i64];refine mS g h 1 (h1 (by simp)) (by omega) ?_;intro H2 b2 hq2 hB2 hb2 hbb;simp only[ZZ,simprocAttr,i64];apply hK;try clear hK K
  try simp only[WX]
  exact fin _ _ bs _ _ hq2 rfl rfl rfl rfl
 have c9':(op == 9)=false:=by simpa using c9
 refine rg fun K hK=>?_;simp only[ZZ,simprocAttr,i64,c9'];apply hK;try clear hK K
 apply aD rfl;by_cases c10:op=10
 ·subst c10;refine rg fun K hK=>?_;simp only[ZZ,simprocAttr,i64];apply hK;try clear hK K
  apply aB rfl;refine rl fun K hK=>?_;simp only[ZZ,simprocAttr,i64,WH,hrr];apply hK;try clear hK K
  try simp only[WX]
  exact fin _ _ bs _ _ h rfl rfl rfl rfl
 have c10':(op == 10)=false:=by simpa using c10
 refine rg fun K hK=>?_;simp only[ZZ,simprocAttr,i64,c10'];apply hK;try clear hK K
 apply aD rfl;by_cases c11:op=11
 ·subst c11;refine rg fun K hK=>?_;simp only[ZZ,simprocAttr,i64];apply hK;try clear hK K
  apply aB rfl;refine rg fun K hK=>?_;simp only[ZZ,simprocAttr,i64];refine mS g h 1 (h1 (by simp)) (by omega) ?_;intro H2 b2 hq2 hB2 hb2 hbb;rw[tX f (h1 (by simp))]at hbb;have hbbl:=aE hbb;simp only[ZZ,simprocAttr,i64,WH,hbb,hbbl];apply hK;try clear hK K
  refine rg fun K hK=>?_;simp only[ZZ,simprocAttr,i64,WH];refine mt (Wc g _ _) Tryz.func293 rfl ⟨⟨rfl,rfl⟩,rfl⟩ rfl ?_;by_cases hz:Ya (hO f).re (hO f).im=⟨0,0⟩
  ·have hz':decide ([(Ya (hO f).re (hO f).im).re,(Ya (hO f).re (hO f).im).im]=[0,0])=true:=by rw[hz];rfl
   simp only[ZZ,simprocAttr,i64,WH,hz',eVal];apply hK;try clear hK K
   apply aB rfl;have hr2:=hq2.hr;have hrl2:=aE hr2;simp only[iR]at hr2;refine rl fun K hK=>?_;simp only[ZZ,simprocAttr,i64,WH,hr2,hrl2];apply hK;try clear hK K
   try simp only[WX]
   exact fin _ _ bs _ _ (hq2.app _) rfl rfl rfl (by rw[gC];simp only[hz,if_true];rfl)
  ·have hz':decide ([(Ya (hO f).re (hO f).im).re,(Ya (hO f).re (hO f).im).im]=[0,0])=false:=by
    rw[decide_eq_false_iff_not];intro e;apply hz;generalize Ya (hO f).re (hO f).im=z at e;obtain⟨zr,zi⟩:=z;simp at e;rw[e.1,e.2]
   simp only[ZZ,simprocAttr,i64,WH,hz',eVal];apply hK;try clear hK K
   apply aD rfl;apply aH;simp only[WX];exact fin _ _ bs _ _ (hq2.app _) rfl rfl rfl (by rw[gC];simp only[hz,if_false];rfl)
 have c11':(op == 11)=false:=by simpa using c11
 refine rg fun K hK=>?_;simp only[ZZ,simprocAttr,i64,c11'];apply hK;try clear hK K
 apply aD rfl;by_cases c12:op=12
 ·subst c12;have w2:IntKind.i64.wrap (f.draws+1)=f.draws+1:=IntWalk.i64_in _ (by omega);refine rg fun K hK=>?_;simp only[ZZ,simprocAttr,i64];apply hK;try clear hK K
  apply aB rfl;refine dr [0,1,2,3,4,6,7,8,9,5,10,11,12,13] (by kernel_rfl) fun K hK=>?_;simp only[ZZ,simprocAttr,i64,WH,hrr];refine mt (aJe g _ _) Tryz.func295 rfl ⟨⟨rfl,rfl⟩,rfl⟩ rfl ?_;simp only[ZZ,simprocAttr,i64];refine mR g (h.app _) ⟨rfl,rfl⟩ [draw f.seed f.draws] (by simp;omega) (by show bS _ (.sl H.length 0 1)=_;rw[eZ,dS];rfl) ?_;intro H2 b2 hq2;have hr2:=hq2.hr;have hrl2:=aE hr2;simp only[iR]at hr2;simp only[ZZ,simprocAttr,i64];apply hK;try clear hK K
  refine rl fun K hK=>?_;simp only[ZZ,simprocAttr,i64,WH,hr2,hrl2,cK,w2];apply hK;try clear hK K
  try simp only[WX]
  exact fin _ _ b2 _ _ (hq2.upd (f':={cK f [draw f.seed f.draws]with draws:=f.draws+1}) (dP.set _) rfl rfl rfl (aW hrl2 _)) rfl rfl rfl rfl
 have c12':(op == 12)=false:=by simpa using c12
 refine rg fun K hK=>?_;simp only[ZZ,simprocAttr,i64,c12'];apply hK;try clear hK K
 apply aD rfl;apply aH;simp only[WX];exact fin _ _ bs _ _ h rfl rfl rfl (by rw[gC];simp only[c0,c1,c2,c7,c8,c9,c10,c11,c12,if_false])
end
end
section
open Go Go.RowKit
variable (g:Gl)
def Le (l:Nat)(J:List V→aA→Prop)(Q:Ex→List V→aA→Prop):Ex→List V→aA→Prop
 | .goto l',T,H=>l'=l∧J T H
 | e,T,H=>Q e T H
def noG (Q:Ex→List V→aA→Prop):Ex→List V→aA→Prop
 | .goto _,_,_=>False
 | e,T,H=>Q e T H
theorem fB:(∀ l J Q T H,Le l J Q .normal T H=Q .normal T H)∧(∀ l J Q T H,Le l J Q .ret T H=Q .ret T H)∧(∀ l J Q T H i,Le l J Q (.exit i) T H=Q (.exit i) T H)∧(∀ l J Q T H v,Le l J Q (.panic v) T H=Q (.panic v) T H)∧(∀ l J Q T H i,Le l J Q (.goto i) T H=(i=l∧J T H))∧
 (∀ Q T H,noG Q .normal T H=Q .normal T H)∧(∀ Q T H,noG Q .ret T H=Q .ret T H)∧(∀ Q T H v,noG Q (.panic v) T H=Q (.panic v) T H)∧(∀ Q T H v,noG Q (.exit v) T H=Q (.exit v) T H):=
 ⟨fun _ _ _ _ _=>rfl,fun _ _ _ _ _=>rfl,fun _ _ _ _ _ _=>rfl,fun _ _ _ _ _ _=>rfl,fun _ _ _ _ _ _=>rfl,fun _ _ _=>rfl,fun _ _ _=>rfl,fun _ _ _ _=>rfl,fun _ _ _ _=>rfl⟩
theorem FW.scopeF {E:Env}{T:List V}{H:aA}{Q:Ex→List V→aA→Prop}{c r:Code}{l:Nat}(J:List V→aA→Prop)(hf:findLabel c l=some (.seq .skip r))(pass:∀ T H,J T H→FW E r (noG Q) T H)
 (h0:(∀ T H,J T H→FW E (.seq (.label l) r) (Le l J Q) T H)→FW E c (Le l J Q) T H):FW E (.scope c) Q T H:=by
 have up:∀ T H,J T H→FW E (.seq (.label l) r) (Le l J Q) T H:=fun T H h=>by
  refine FW.seq (FW.label ?_);refine FW.mono (pass T H h) ?_;intro e T' H' h;cases e<;>first|exact h|exact h.elim
 refine FW.scope (fun n l' T H=>l'=l∧J T H) (.inr ⟨0,?_⟩) ?_
 ·refine FW.mono (h0 up) ?_;intro e T' H' h;cases e<;>try exact h
  obtain⟨rfl,h⟩:=h;exact⟨⟨_,hf⟩,rfl,h⟩
 ·rintro n l' r' T' H' hfl ⟨rfl,h⟩;rw[hf]at hfl;cases hfl;refine FW.seq (aH ?_);refine FW.mono (pass T' H' h) ?_;intro e T'' H'' h;cases e<;>first|exact h|exact h.elim
def mE (a:Act):V:=.agg [i64 a.kind,i64 a.fn,i64 a.slot,i64 a.seed,.imm (a.args.map eVal)]
def jS (p:List Fun)(f:Frm)(x:Ins):Frm×Act:=
 if x.op=16 then(cA f x.a,dW)else if x.op=15 then({cG f 1 with state:=2,out:=⟨0,hO f⟩},dW)
 else if x.op=13 then fJ p f x else if x.op=14 then eT f x.a
 else if x.op=3∨x.op=4∨x.op=5∨x.op=6 then fY f x.op else(gC f x,eG)
def kI (p:List Fun)(f:Frm):Frm×Act:=
 if f.state=0∧0≤f.fn∧f.fn < p.length then
  match p[f.fn.toNat]? with
  | some y=>(match fZ p f y.code with|some x=>if jZ p f x then jS p f x else(cA f 3,dW)|none=>(cA f 4,dW))
  | none=>(f,kA)
 else(f,kA)
theorem Wj (n:Int):0≤(bE n).on∧(bE n).on≤1024:=by
 by_cases h:0≤n∧n < 17
 ·obtain⟨h1,h2⟩:=h;have:n=0∨n=1∨n=2∨n=3∨n=4∨n=5∨n=6∨n=7∨n=8∨n=9∨n=10∨n=11∨n=12∨n=13∨n=14∨n=15∨n=16:=by omega
  rcases this with rfl|rfl|rfl|rfl|rfl|rfl|rfl|rfl|rfl|rfl|rfl|rfl|rfl|rfl|rfl|rfl|rfl<;>decide
 ·rw[bE,if_neg h];decide
theorem aQr {R p:aA→Prop}{H:aA}(hR:R H)(h:∀ H1,R H1→p H1):p H:=h H hR
theorem Rd (n:Int):0≤(bE n).off∧(bE n).off≤2∧(n=2∨n=7∨n=8∨n=9∨n=11∨n=15→(bE n).off=1)∧(n=3∨n=4∨n=5∨n=6→(bE n).off=2):=by
 by_cases h:0≤n∧n < 17
 ·obtain⟨h1,h2⟩:=h;have:n=0∨n=1∨n=2∨n=3∨n=4∨n=5∨n=6∨n=7∨n=8∨n=9∨n=10∨n=11∨n=12∨n=13∨n=14∨n=15∨n=16:=by omega
  rcases this with rfl|rfl|rfl|rfl|rfl|rfl|rfl|rfl|rfl|rfl|rfl|rfl|rfl|rfl|rfl|rfl|rfl<;>decide
 ·rw[bE,if_neg h];exact⟨by decide,by decide,fun _=>by omega,fun _=>by omega⟩
theorem Dd {x:Ins}(h:fH x=true):0≤x.op∧x.op < 17∧(x.op=1∨x.op=2∨x.op=13∨x.op=14→0≤x.a)∧(x.op=13→0≤x.b):=by
 unfold fH at h;simp only[Bool.and_eq_true,decide_eq_true_eq,xJ]at h;obtain⟨⟨⟨h1,h2⟩,h3⟩,h4⟩:=h;refine⟨h1,h2,fun e=>?_,fun e=>?_⟩
 ·unfold gJ at h3;rcases e with e|e|e|e<;>simp[e]at h3<;>omega
 ·unfold gJ at h4;simp[e]at h4;omega
def Vf (a:Act):V:=.agg [i64 a.kind,i64 a.fn,i64 a.slot,i64 a.seed,if a.kind=2 then .imm (a.args.map eVal)else .nils]
def pOk (p:List Fun):Prop:=∀ y∈p,y.code.length≤1048576∧y.ar≤1073741824
theorem tZ {p:List Fun}{f:Frm}{l:List Ins}{x:Ins}(h:fZ p f l=some x):0≤f.pc∧f.pc < l.length∧fH x=true∧fD p f x=true:=by
 unfold fZ at h;split at h
 ·rename_i h1;split at h
  ·split at h
   ·rename_i h2;cases h;rw[Bool.and_eq_true]at h2;exact⟨h1.1,h1.2,h2.1,h2.2⟩
   ·cases h
  ·cases h
 ·cases h
theorem Yu (p:List Fun)(f:Frm)(h:(kI p f).2.kind≠2):(kI p f).2.args=[]:=by
 revert h;unfold kI;split
 ·split
  ·split
   ·split
    ·unfold jS;split
     ·exact fun _=>rfl
     split
     ·exact fun _=>rfl
     split
     ·unfold fJ;split
      ·split
       ·exact fun h=>absurd rfl h
       ·exact fun _=>rfl
      ·exact fun _=>rfl
     split
     ·unfold eT;split
      ·split
       ·exact fun _=>rfl
       ·split
        ·intro _;show(if _ then eG else dW).args=[];split<;>rfl
        ·exact fun _=>rfl
      ·exact fun _=>rfl
     split
     ·unfold fY;split
      ·split<;>exact fun _=>rfl
      ·exact fun _=>rfl
     ·exact fun _=>rfl
    ·exact fun _=>rfl
   ·exact fun _=>rfl
  ·exact fun _=>rfl
 ·exact fun _=>rfl
theorem aKe (p:List Fun)(f:Frm)(hp:pOk p)(hs:f.stack.length≤1048576)(hlo:f.locals.length≤1048576)(hsl:f.slots.length≤1048576)
 (hsp:0≤f.spawned∧f.spawned≤1073741824)(hdr:0≤f.draws∧f.draws≤1073741824) :
 PC P0 g 175 [.imm (p.map bL),aJ f] (.ret (.tup [aJ (kI p f).1,mE (kI p f).2])):=by
 have key:PC P0 g 175 [.imm (p.map bL),aJ f] (.ret (.tup [aJ (kI p f).1,Vf (kI p f).2])):=by
  refine eC Tryz.func175 Tryz.ntmps175 Tryz.results175 rfl ?_;simp only[ZZ,simprocAttr,i64];simp only[aJ,aN];refine rg fun K hK=>?_;simp only[ZZ,simprocAttr,i64];apply hK;try clear hK K
  refine FW.scopeF (l:=0) (fun T H=>∃ bs bl bt pV x ar,RnH H [.row 16 [.agg (aN f)] false,.row 16 [.agg [i64 0,i64 0,.nils,.nils,.nils,i64 0,i64 0,i64 0,i64 0,i64 0,i64 0,i64 0,i64 0,i64 0,i64 0,i64 0]] false,.row 5 [.agg [i64 0,i64 0,i64 0,i64 0,.nils]] false] 8 bs bl bt (kI p f).1 pV x (kI p f).2 ar∧(ar = .nils ↔ (kI p f).2.kind≠2)∧gt T 4 = .ptr 1 0 0∧gt T 5 = .ptr 2 0 0∧gt T 6 = .ptr 8 0 0∧T.length=96) rfl ?_ ?_
  ·rintro T H ⟨bs,bl,bt,pV,x,ar,hq,har,e4,e5,e6,hT⟩;have b1:=hq.h0 1 (by omega);have b2:=hq.h0 2 (by omega);have hr:=hq.hr;have hl:=aE hr;have lo:=hq.lo;have hll:=hq.hl;have htt:=hq.ht;obtain⟨st,s1,s2,s3⟩:=hq.hs;have bl1:1 < H.length:=by omega
   have bl2:2 < H.length:=by omega
   generalize hF:(kI p f).1=F at *;generalize hA:(kI p f).2=A at *;obtain⟨fn,pc,stack,locals,slots,seed,spawned,draws,state,wait,⟨otrap,⟨ore,oim⟩⟩,⟨uat,ugen⟩,upSlot⟩:=F;obtain⟨ak,af,as_,ase,aa⟩:=A;simp only[iR]at hr;simp only at s1 s2 s3 hll htt har;change hb H 1=some (.row 16 [.agg [i64 0,i64 0,.nils,.nils,.nils,i64 0,i64 0,i64 0,i64 0,i64 0,i64 0,i64 0,i64 0,i64 0,i64 0,i64 0]] false)at b1;change hb H 2=some (.row 5 [.agg [i64 0,i64 0,i64 0,i64 0,.nils]] false)at b2;have n1:1≠bs:=by omega
   have n2:2≠bs:=by omega
   have n3:1≠bl:=by omega
   have n4:2≠bl:=by omega
   have n5:1≠bt:=by omega
   have n6:2≠bt:=by omega
   have n7:(1:Nat)≠2:=by omega
   have n8:(2:Nat)≠1:=by omega
   have hS:List.take stack.length (List.map eVal st)=List.map eVal stack:=by rw[←List.map_take,s3]
   rw[eW 96 T hT];simp only[show List.range 96=[0,1,2,3,4,5,6,7,8,9,10,11,12,13,14,15,16,17,18,19,20,21,22,23,24,25,26,27,28,29,30,31,32,33,34,35,36,37,38,39,40,41,42,43,44,45,46,47,48,49,50,51,52,53,54,55,56,57,58,59,60,61,62,63,64,65,66,67,68,69,70,71,72,73,74,75,76,77,78,79,80,81,82,83,84,85,86,87,88,89,90,91,92,93,94,95]from rfl,List.map_cons,List.map_nil,e4,e5,e6];have fS:∀ H n ro,mH H (n+2) 0 stack.length (some (.row 2 (List.map eVal st) ro))=some (.imm (stack.map eVal)):=fun H n ro=>by
    rw[Nk _ _ _ _ _ _ (by rw[Nat.zero_add];exact s2),List.drop_zero,s3]
   refine pr [0,1,2,4,5,6,3,7,8,9] [7] [8] (by kernel_rfl) fun K hK=>?_;simp only[ZZ,simprocAttr,i64,fB,WH,hr,b1,b2,bl1,bl2,aG n7,aG n8,aW,fL];apply hK;try clear hK K
   apply aC;rcases hq.ha with ⟨q1,q2⟩|⟨ba,q1,q2,q3⟩
   ·subst q1;have hk:ak≠2:=har.1 rfl;simp only[ZZ,simprocAttr,i64,fB,WH,aW,bl1,bl2,aG n7,aG n8,aG n1,aG n2,aG n3,aG n4,aG n5,aG n6,s1,hll,htt,fS,Vf,hk,aJ,aN]
   ·subst q2;have hk:ak=2:=by
     by_cases h:ak=2
     ·exact h
     ·have:=har.2 h;cases this
    have n9:1≠ba:=by omega
    have n10:2≠ba:=by omega
    simp only[ZZ,simprocAttr,i64,fB,WH,aW,bl1,bl2,aG n7,aG n8,aG n1,aG n2,aG n3,aG n4,aG n5,aG n6,aG n9,aG n10,s1,hll,htt,q3,fS,Vf,hk,aJ,aN]
  intro hlab;refine aF fun K1 hK1=>?_;have ref:¬(f.state=0∧0≤f.fn∧f.fn < p.length)→kI p f=(f,kA):=fun h=>by rw[kI,if_neg h]
  by_cases c1:f.state=0
  case neg=>
   have c1':(f.state != 0)=true:=by simpa using c1
   refine rg fun K hK=>?_;simp only[ZZ,simprocAttr,i64,fB,c1'];apply hK;try clear hK K
   apply aB rfl;refine rg fun K hK=>?_;simp only[ZZ,simprocAttr,i64,fB];apply hK;try clear hK K
   apply aC;simp only[ZZ,simprocAttr,i64,fB,ref (fun h=>c1 h.1),Vf,kA,aJ,aN]
  have c1':(f.state != 0)=false:=by simpa using c1
  by_cases c2:f.fn < 0
  ·refine rg fun K hK=>?_;simp only[ZZ,simprocAttr,i64,fB,c1',c2];apply hK;try clear hK K
   apply aB rfl;refine rg fun K hK=>?_;simp only[ZZ,simprocAttr,i64,fB];apply hK;try clear hK K
   apply aC;simp only[ZZ,simprocAttr,i64,fB,ref (fun h=>absurd h.2.1 (by omega)),Vf,kA,aJ,aN]
  by_cases c3:(p.length:Int)≤f.fn
  ·refine rg fun K hK=>?_;simp only[ZZ,simprocAttr,i64,fB,c1',c2,c3];apply hK;try clear hK K
   apply aB rfl;refine rg fun K hK=>?_;simp only[ZZ,simprocAttr,i64,fB];apply hK;try clear hK K
   apply aC;simp only[ZZ,simprocAttr,i64,fB,ref (fun h=>absurd h.2.2 (by omega)),Vf,kA,aJ,aN]
  refine rg fun K hK=>?_;simp only[ZZ,simprocAttr,i64,fB,c1',c2,c3];apply hK;try clear hK K
  apply aD rfl;apply aH;simp only[WX];apply hK1;try clear hK1 K1
  refine rg fun K hK=>?_;simp only[ZZ,simprocAttr,i64,fB];refine en Tryz.func238 Tryz.ntmps238 Tryz.results238 rfl ⟨⟨rfl,rfl⟩,rfl⟩ ?_;simp only[ZZ,simprocAttr,i64,fB];refine rg fun K2 hK2=>?_;simp only[ZZ,simprocAttr,i64,fB];apply hK2;try clear hK2 K2
  refine dr [0,3,6,1,4,7,2,9,5,8,10,11,12,13,14] (by kernel_rfl) fun K2 hK2=>?_;simp only[ZZ,simprocAttr,i64,fB];refine cl Tryz.func284 rfl ⟨rfl,rfl⟩ rfl rfl (kM _) (by simp;omega) ?_;simp only[ZZ,simprocAttr,i64,fB];refine cl Tryz.func284 rfl ⟨rfl,rfl⟩ rfl rfl (kM _) (by simp;omega) ?_;simp only[ZZ,simprocAttr,i64,fB];refine cl Tryz.func146 rfl ⟨rfl,rfl⟩ rfl rfl (tQ _) (by simp;omega) ?_;simp only[ZZ,simprocAttr,i64,fB];apply hK2;try clear hK2 K2
  refine rg fun K2 hK2=>?_;simp only[ZZ,simprocAttr,i64,fB];apply hK2;try clear hK2 K2
  apply aC;simp only[ZZ,simprocAttr,i64,fB,WH];apply hK;try clear hK K
  have c2':0≤f.fn:=by omega
  have c3':f.fn < p.length:=by omega
  have hx:=List.getElem?_eq_getElem (show f.fn.toNat < p.length by omega);generalize p[f.fn.toNat]'(by omega)=y at hx;have hdo:kI p f=match fZ p f y.code with|some x=>if jZ p f x then jS p f x else(cA f 3,dW)|none=>(cA f 4,dW):=by
   rw[kI,if_pos ⟨c1,c2',c3'⟩,hx]
  obtain⟨yar,lo,sl,code⟩:=y;have hpy:=hp _ (List.mem_of_getElem? hx);simp only at hpy hdo;refine aQr (R:=fun H=>RnH H [.row 16 [.agg (aN f)] false,.row 16 [.agg [i64 0,i64 0,.nils,.nils,.nils,i64 0,i64 0,i64 0,i64 0,i64 0,i64 0,i64 0,i64 0,i64 0,i64 0,i64 0]] false,.row 5 [.agg [i64 0,i64 0,i64 0,i64 0,.nils]] false] 8 5 6 7 f (.imm (p.map bL)) ⟨0,0,0⟩ eG .nils) (p:=fun H=>FW _ _ _ _ H) ?_ ?_
  ·refine⟨fun c hc=>?_,⟨by omega,by omega,by omega,by omega,by omega⟩,rfl,⟨f.stack,rfl,Nat.le_refl _,List.take_length⟩,rfl,rfl,.inl ⟨rfl,rfl⟩⟩;have:c=0∨c=1∨c=2:=by omega
   rcases this with rfl|rfl|rfl<;>rfl
  intro H1 hq1;have b0:=hq1.h0 0 (by omega);change hb H1 0=some (.row 16 [.agg (aN f)] false)at b0;simp only[aN]at b0;refine bl fun K hK=>?_;refine rg fun K hK=>?_;simp only[ZZ,simprocAttr,i64,fB,WH,b0,c2',List.getElem?_map,hx,Option.map_some,bL];refine aMd g code (by omega) hq1 ?_;intro H2 x2 hq2 hx2;cases hth:fZ p f code with
  | none=>
   rw[hth]at hdo;simp only[ZZ,simprocAttr,i64,fB];apply hK;try clear hK K
   apply aB rfl;refine rg fun K hK=>?_;simp only[ZZ,simprocAttr,i64,fB];refine oT g hq2 4 ?_;intro H3 hq3;simp only[ZZ,simprocAttr,i64,fB];apply hK;try clear hK K
   apply nY;simp only[WX,fB];exact⟨trivial,5,6,7,_,_,.nils,by rw[hdo];exact hq3,by rw[hdo];exact⟨fun _=>by show(4:Int)≠2;decide,fun _=>rfl⟩,rfl,rfl,rfl,rfl⟩
  | some x=>
   rw[hth]at hdo hx2;obtain rfl:x=x2:=by have:=hx2 rfl;cases this;rfl
   obtain⟨p1,p2,p3,p4⟩:=tZ hth;obtain⟨o1,o2,o3,o4⟩:=Dd p3;obtain⟨ko1,ko2⟩:=Wj x.op;obtain⟨kf1,kf2,kf3,kf4⟩:=Rd x.op;have x13:x.op=13→(0≤x.a∧x.a < p.length)∧(0≤x.b∧x.b < f.slots.length):=fun e=>by
    unfold fD at p4;rw[if_neg (by omega),if_neg (by omega),if_pos e,Bool.and_eq_true,decide_eq_true_eq,decide_eq_true_eq]at p4;exact⟨⟨o3 (by simp[e]),p4.1⟩,⟨o4 e,p4.2⟩⟩
   have x14:x.op=14→0≤x.a∧x.a < f.slots.length:=fun e=>by
    unfold fD at p4;rw[if_neg (by omega),if_pos e,decide_eq_true_eq]at p4;exact⟨o3 (by simp[e]),p4⟩
   have x12:x.op=1∨x.op=2→0≤x.a∧x.a < f.locals.length:=fun e=>by
    unfold fD at p4;rw[if_pos e,decide_eq_true_eq]at p4;exact⟨o3 (by rcases e with e|e<;>simp[e]),p4⟩
   have hoff:iL p x≤1073741824:=by
    unfold iL;split
    ·split
     ·rename_i e y hy;exact(hp _ (List.mem_of_getElem? hy)).2
     ·omega
    ·omega
   simp only[ZZ,simprocAttr,i64,fB];apply hK;try clear hK K
   apply aD rfl;refine rg fun K hK=>?_;simp only[ZZ,simprocAttr,i64,fB];refine aMb g hq2 (fun e=>(x13 e).1) (by omega) hoff ⟨ko1,ko2⟩ ?_;cases hrm:jZ p f x with
   | false=>
    simp only[hrm,Bool.false_eq_true,if_false]at hdo;simp only[ZZ,simprocAttr,i64,fB];apply hK;try clear hK K
    apply aB rfl;refine rg fun K hK=>?_;simp only[ZZ,simprocAttr,i64,fB];refine oT g hq2 3 ?_;intro H3 hq3;simp only[ZZ,simprocAttr,i64,fB];apply hK;try clear hK K
    apply nY;simp only[WX,fB];exact⟨trivial,5,6,7,_,_,.nils,by rw[hdo];exact hq3,by rw[hdo];exact⟨fun _=>by show(4:Int)≠2;decide,fun _=>rfl⟩,rfl,rfl,rfl,rfl⟩
   | true=>
    simp only[hrm,if_true]at hdo;have hr2:=hq2.hr;simp only[iR]at hr2;have rm:=hrm;unfold jZ at rm;rw[Bool.and_eq_true,Bool.and_eq_true,decide_eq_true_eq,decide_eq_true_eq]at rm;obtain⟨⟨rm1,rm2⟩,_⟩:=rm;have eoff:x.op≠13→iL p x=(bE x.op).off:=fun e=>by rw[iL,if_neg e]
    simp only[ZZ,simprocAttr,i64,fB];apply hK;try clear hK K
    apply aD rfl;apply aH;simp only[WX,fB];apply hK;try clear hK K
    refine aF fun K1 hK1=>?_;have fin:∀ T' H' bs' ar' pV x',RnH H' [.row 16 [.agg (aN f)] false,.row 16 [.agg [i64 0,i64 0,.nils,.nils,.nils,i64 0,i64 0,i64 0,i64 0,i64 0,i64 0,i64 0,i64 0,i64 0,i64 0,i64 0]] false,.row 5 [.agg [i64 0,i64 0,i64 0,i64 0,.nils]] false] 8 bs' 6 7 (jS p f x).1 pV x' (jS p f x).2 ar'→(ar' = .nils ↔ (jS p f x).2.kind≠2)→gt T' 4 = .ptr 1 0 0→gt T' 5 = .ptr 2 0 0→gt T' 6 = .ptr 8 0 0→T'.length=96→K1 T' H':=by
     intro T' H' bs' ar' pV x' h1 h2 h3 h4 h5 h6;apply hK1;try clear hK1 K1
     exact hlab _ _ ⟨bs',6,7,pV,x',ar',by rw[hdo];exact h1,by rw[hdo];exact h2,h3,h4,h5,h6⟩
    refine rg fun K hK=>?_;simp only[ZZ,simprocAttr,i64,fB,WH,hr2];apply hK;try clear hK K
    refine aT ?_;clear hdo hlab hth;have nil4:(V.nils=V.nils ↔ (dW.kind≠2)):=⟨fun _=>by show(4:Int)≠2;decide,fun _=>rfl⟩;by_cases d16:x.op=16
    ·have e:jS p f x=(cA f x.a,dW):=by rw[jS,if_pos d16]
     refine rg fun K hK=>?_;simp only[ZZ,simprocAttr,i64,fB,d16];apply hK;try clear hK K
     apply aB rfl;refine rl fun K hK=>?_;simp only[ZZ,simprocAttr,i64,fB,WH,hr2];refine oT g hq2 x.a ?_;intro H3 hq3;simp only[ZZ,simprocAttr,i64,fB];apply hK;try clear hK K
     try simp only[WX]
     exact fin _ _ 5 _ _ _ (by rw[e];exact hq3) (by rw[e];exact nil4) rfl rfl rfl rfl
    have d16':(x.op == 16)=false:=by simpa using d16
    refine rg fun K hK=>?_;simp only[ZZ,simprocAttr,i64,fB,d16'];apply hK;try clear hK K
    apply aD rfl;by_cases d15:x.op=15
    ·have e:jS p f x=({cG f 1 with state:=2,out:=⟨0,hO f⟩},dW):=by rw[jS,if_neg d16,if_pos d15]
     have h1:1≤f.stack.length:=by have:=eoff (by omega);have:=kf3 (by omega);omega
     refine rg fun K hK=>?_;simp only[ZZ,simprocAttr,i64,fB,d15];apply hK;try clear hK K
     apply aB rfl;refine rl fun K hK=>?_;simp only[ZZ,simprocAttr,i64,fB];refine mS g hq2 1 h1 (by omega) ?_;intro H3 b3 hq3 hB3 hb3 hbb;rw[tX f h1]at hbb;have hbbl:=aE hbb;simp only[ZZ,simprocAttr,i64,fB,WH,hbb,hbbl];refine aGg g hq3 ⟨0,hO f⟩ ?_;intro H4 hq4;simp only[ZZ,simprocAttr,i64,fB];apply hK;try clear hK K
     try simp only[WX]
     exact fin _ _ 5 _ _ _ (by rw[e];exact hq4) (by rw[e];exact nil4) rfl rfl rfl rfl
    have d15':(x.op == 15)=false:=by simpa using d15
    refine rg fun K hK=>?_;simp only[ZZ,simprocAttr,i64,fB,d15'];apply hK;try clear hK K
    apply aD rfl;by_cases d13:x.op=13
    ·have e:jS p f x=fJ p f x:=by rw[jS,if_neg d16,if_neg d15,if_pos d13]
     refine rg fun K hK=>?_;simp only[ZZ,simprocAttr,i64,fB,d13];apply hK;try clear hK K
     apply aB rfl;refine rl fun K hK=>?_;simp only[ZZ,simprocAttr,i64,fB];refine aLz g p hq2 hs ⟨p1,by omega⟩ hsp d13 (x13 d13).1 (x13 d13).2 ⟨rm1,rm2⟩ ?_;intro H3 b3 ar3 hq3 hn3;simp only[ZZ,simprocAttr,i64,fB];apply hK;try clear hK K
     try simp only[WX]
     exact fin _ _ b3 _ _ _ (by rw[e];exact hq3) (by rw[e];exact hn3) rfl rfl rfl rfl
    have d13':(x.op == 13)=false:=by simpa using d13
    refine rg fun K hK=>?_;simp only[ZZ,simprocAttr,i64,fB,d13'];apply hK;try clear hK K
    apply aD rfl;have eo:=eoff d13;by_cases d14:x.op=14
    ·have e:jS p f x=eT f x.a:=by rw[jS,if_neg d16,if_neg d15,if_neg d13,if_pos d14]
     have hn:(V.nils=V.nils ↔ (eT f x.a).2.kind≠2):=⟨fun _=>by
      unfold eT;split
      ·split
       ·show(3:Int)≠2;decide
       ·split
        ·show(if _ then eG else dW).kind≠2;split
         ·show(1:Int)≠2;decide
         ·show(4:Int)≠2;decide
        ·show(4:Int)≠2;decide
      ·show(1:Int)≠2;decide,fun _=>rfl⟩
     refine rg fun K hK=>?_;simp only[ZZ,simprocAttr,i64,fB,d14];apply hK;try clear hK K
     apply aB rfl;refine rl fun K hK=>?_;simp only[ZZ,simprocAttr,i64,fB];refine aLy g hq2 hs ⟨p1,by omega⟩ (x14 d14) ?_;intro H3 b3 hq3;simp only[ZZ,simprocAttr,i64,fB];apply hK;try clear hK K
     try simp only[WX]
     exact fin _ _ b3 _ _ _ (by rw[e];exact hq3) (by rw[e];exact hn) rfl rfl rfl rfl
    have d14':(x.op == 14)=false:=by simpa using d14
    refine rg fun K hK=>?_;simp only[ZZ,simprocAttr,i64,fB,d14'];apply hK;try clear hK K
    apply aD rfl;by_cases dt:x.op=3∨x.op=4∨x.op=5∨x.op=6
    ·have e:jS p f x=fY f x.op:=by rw[jS,if_neg d16,if_neg d15,if_neg d13,if_neg d14,if_pos dt]
     have hn:(V.nils=V.nils ↔ (fY f x.op).2.kind≠2):=⟨fun _=>by
      unfold fY;split
      ·split
       ·show(4:Int)≠2;decide
       ·show(1:Int)≠2;decide
      ·show(1:Int)≠2;decide,fun _=>rfl⟩
     have h2:2≤f.stack.length:=by have:=kf4 dt;omega
     have dt0:=dt;refine aF fun K2 hK2=>?_;rcases dt with d|d|d|d
     ·refine rg fun K hK=>?_;simp only[ZZ,simprocAttr,i64,fB,d];apply hK;try clear hK K
      apply aB rfl;apply aH;simp only[WX];apply hK2;try clear hK2 K2
      apply aB rfl;refine rl fun K hK=>?_;simp only[ZZ,simprocAttr,i64,fB];refine Bk g hq2 h2 hs ⟨p1,by omega⟩ dt0 ?_;intro H3 b3 hq3;simp only[ZZ,simprocAttr,i64,fB];apply hK;try clear hK K
      try simp only[WX]
      exact fin _ _ b3 _ _ _ (by rw[e];exact hq3) (by rw[e];exact hn) rfl rfl rfl rfl
     ·refine rg fun K hK=>?_;simp only[ZZ,simprocAttr,i64,fB,d];apply hK;try clear hK K
      apply aD rfl;refine rg fun K hK=>?_;simp only[ZZ,simprocAttr,i64,fB,d];apply hK;try clear hK K
      apply aB rfl;apply aH;simp only[WX];apply hK2;try clear hK2 K2
      apply aB rfl;refine rl fun K hK=>?_;simp only[ZZ,simprocAttr,i64,fB];refine Bk g hq2 h2 hs ⟨p1,by omega⟩ dt0 ?_;intro H3 b3 hq3;simp only[ZZ,simprocAttr,i64,fB];apply hK;try clear hK K
      try simp only[WX]
      exact fin _ _ b3 _ _ _ (by rw[e];exact hq3) (by rw[e];exact hn) rfl rfl rfl rfl
     ·refine rg fun K hK=>?_;simp only[ZZ,simprocAttr,i64,fB,d];apply hK;try clear hK K
      apply aD rfl;refine rg fun K hK=>?_;simp only[ZZ,simprocAttr,i64,fB,d];apply hK;try clear hK K
      apply aD rfl;refine rg fun K hK=>?_;simp only[ZZ,simprocAttr,i64,fB,d];apply hK;try clear hK K
      apply aB rfl;apply aH;simp only[WX];apply hK2;try clear hK2 K2
      apply aB rfl;refine rl fun K hK=>?_;simp only[ZZ,simprocAttr,i64,fB];refine Bk g hq2 h2 hs ⟨p1,by omega⟩ dt0 ?_;intro H3 b3 hq3;simp only[ZZ,simprocAttr,i64,fB];apply hK;try clear hK K
      try simp only[WX]
      exact fin _ _ b3 _ _ _ (by rw[e];exact hq3) (by rw[e];exact hn) rfl rfl rfl rfl
     ·refine rg fun K hK=>?_;simp only[ZZ,simprocAttr,i64,fB,d];apply hK;try clear hK K
      apply aD rfl;refine rg fun K hK=>?_;simp only[ZZ,simprocAttr,i64,fB,d];apply hK;try clear hK K
      apply aD rfl;refine rg fun K hK=>?_;simp only[ZZ,simprocAttr,i64,fB,d];apply hK;try clear hK K
      apply aD rfl;refine rl fun K hK=>?_;simp only[ZZ,simprocAttr,i64,fB,d];apply hK;try clear hK K
      try simp only[WX]
      apply hK2;try clear hK2 K2
      apply aB rfl;refine rl fun K hK=>?_;simp only[ZZ,simprocAttr,i64,fB];refine Bk g hq2 h2 hs ⟨p1,by omega⟩ dt0 ?_;intro H3 b3 hq3;simp only[ZZ,simprocAttr,i64,fB];apply hK;try clear hK K
      try simp only[WX]
      exact fin _ _ b3 _ _ _ (by rw[e];exact hq3) (by rw[e];exact hn) rfl rfl rfl rfl
    ·have e:jS p f x=(gC f x,eG):=by rw[jS,if_neg d16,if_neg d15,if_neg d13,if_neg d14,if_neg dt]
     have t3:(x.op == 3)=false:=by simp;omega
     have t4:(x.op == 4)=false:=by simp;omega
     have t5:(x.op == 5)=false:=by simp;omega
     have t6:(x.op == 6)=false:=by simp;omega
     refine aF fun K2 hK2=>?_;refine rg fun K hK=>?_;simp only[ZZ,simprocAttr,i64,fB,t3];apply hK;try clear hK K
     apply aD rfl;refine rg fun K hK=>?_;simp only[ZZ,simprocAttr,i64,fB,t4];apply hK;try clear hK K
     apply aD rfl;refine rg fun K hK=>?_;simp only[ZZ,simprocAttr,i64,fB,t5];apply hK;try clear hK K
     apply aD rfl;refine rl fun K hK=>?_;simp only[ZZ,simprocAttr,i64,fB,t6];apply hK;try clear hK K
     try simp only[WX]
     apply hK2;try clear hK2 K2
     apply aD rfl;refine rl fun K hK=>?_;simp only[ZZ,simprocAttr,i64,fB];refine aLx g hq2 hs ⟨p1,by omega⟩ hdr (fun h=>by have:=kf3 (by omega);omega) x12 ?_;intro H3 b3 hq3;simp only[ZZ,simprocAttr,i64,fB];apply hK;try clear hK K
     try simp only[WX]
     exact fin _ _ b3 _ _ _ (by rw[e];exact hq3) (by rw[e];exact⟨fun _=>by show(1:Int)≠2;decide,fun _=>rfl⟩) rfl rfl rfl rfl
 have:=PC.wkR key;simp only[wk,wkL]at this;have e1:wk (aJ (kI p f).1)=aJ (kI p f).1:=by simp only[aJ,aN,wk,wkL,i64]
 have e2:wk (Vf (kI p f).2)=mE (kI p f).2:=by
  simp only[Vf,mE,wk,wkL,i64];by_cases h:(kI p f).2.kind=2
  ·simp only[h,if_true,wk]
  ·simp only[h,if_false,wk,Yu p f h,List.map_nil]
 rw[e1,e2]at this;exact this
end
section
open Go.Proofs.Tryz
open Go Go.RowKit
variable (g:Gl)
def Sh {α:Type}(e:α→V)(s:Nat)(H:aA)(v:V)(l:List α):Prop:=v = .imm (l.map e)∨∃ b,v = .sl b 0 l.length∧hb H b=some (.row s (l.map e) false)
theorem Sh.el {α:Type}{e:α→V}{s:Nat}{H:aA}{v:V}{l:List α}(h:Sh e s H v l):bS H v=some (l.map e):=by
 rcases h with rfl|⟨b,rfl,h⟩
 ·rfl
 ·rw[eZ,h];simp only[elB,List.length_map];rw[if_pos (by omega),List.drop_zero,List.take_of_length_le (by simp)]
theorem Sh.ns {α:Type}{e:α→V}{s:Nat}{H:aA}{v:V}{l:List α}(h:Sh e s H v l):v.isStr=false:=by
 rcases h with rfl|⟨b,rfl,h⟩<;>rfl
theorem Sh.but {α:Type}{e:α→V}{s:Nat}{H H':aA}{v:V}{l:List α}{r n:Nat}{es:List V}{ro:Bool}(h:Sh e s H v l)(hB:dP H H' r)(hr:hb H r=some (.row n es ro))(hn:s≠n):Sh e s H' v l:=by
 rcases h with rfl|⟨b,rfl,h⟩
 ·exact .inl rfl
 ·have:b≠r:=fun q=>by subst q;rw[h]at hr;simp at hr;exact hn hr.1
  exact .inr ⟨b,rfl,by rw[hB.2 b (aE h) this];exact h⟩
theorem Sh.app {α:Type}{e:α→V}{s:Nat}{H:aA}{v:V}{l:List α}(h:Sh e s H v l)(m:aA):Sh e s (H++m) v l:=by
 rcases h with rfl|⟨b,rfl,h⟩
 ·exact .inl rfl
 ·exact .inr ⟨b,rfl,by rw[bA _ (aE h)];exact h⟩
theorem dP.trans {H H' H'':aA}{b:Nat}(h:dP H H' b)(k:dP H' H'' b):dP H H'' b:=⟨Nat.le_trans h.1 k.1,fun c hc hcb=>by rw[k.2 c (Nat.lt_of_lt_of_le hc h.1) hcb,h.2 c hc hcb]⟩
theorem dP.app {H:aA}{b:Nat}(m:aA):dP H (H++m) b:=⟨by simp,fun c hc _=>bA _ hc⟩
theorem dP.refl {H:aA}{b:Nat}:dP H H b:=⟨Nat.le_refl _,fun _ _ _=>rfl⟩
def iE (w:Wd)(k:Pk)(rv cv:V):V:=.agg [.imm (w.prog.map bL),i64 w.lim.fuel,i64 w.lim.frames,i64 w.lim.ring,.imm (w.pen.cells.map dX),.imm (w.pen.free.map eI),i64 w.pen.most,rv,cv,i64 w.root.at_,i64 w.root.gen,i64 w.used,i64 w.state,i64 w.out.trap,i64 w.out.v.re,i64 w.out.v.im,i64 w.err,i64 w.steals,i64 w.misses,i64 k.worker,i64 k.victim,.bool k.half]
structure WkH (H:aA)(r:Nat)(w:Wd)(k:Pk)(rv cv:V):Prop where
 hr:hb H r=some (.row 22 [iE w k rv cv] false)
 hv:Sh bG 4 H rv w.rings
 hc:Sh aS 2 H cv w.cur
theorem WkH.app {H:aA}{r:Nat}{w:Wd}{k:Pk}{rv cv:V}(h:WkH H r w k rv cv)(m:aA):WkH (H++m) r w k rv cv:=⟨by rw[bA _ (aE h.hr)];exact h.hr,h.hv.app m,h.hc.app m⟩
theorem WkH.upd {H H':aA}{r:Nat}{w:Wd}{k:Pk}{rv cv:V}(h:WkH H r w k rv cv)(hB:dP H H' r){w':Wd}(e1:w'.rings=w.rings)(e2:w'.cur=w.cur)(hr:hb H' r=some (.row 22 [iE w' k rv cv] false)):WkH H' r w' k rv cv:=
 ⟨hr,by rw[e1];exact h.hv.but hB h.hr (by omega),by rw[e2];exact h.hc.but hB h.hr (by omega)⟩
theorem WkH.setApp {H:aA}{r:Nat}{w:Wd}{k:Pk}{rv cv:V}(h:WkH H r w k rv cv){w':Wd}(e1:w'.rings=w.rings)(e2:w'.cur=w.cur)(l:aA):WkH (H.set r (.row 22 [iE w' k rv cv] false)++l) r w' k rv cv∧dP H (H.set r (.row 22 [iE w' k rv cv] false)++l) r:=by
 have hB:dP H (H.set r (.row 22 [iE w' k rv cv] false)++l) r:=(dP.set _).trans (dP.app _);have hl:=aE h.hr;refine⟨h.upd hB e1 e2 ?_,hB⟩;rw[bA _ (by simpa using hl),aW hl]
theorem WkH.set {H:aA}{r:Nat}{w:Wd}{k:Pk}{rv cv:V}(h:WkH H r w k rv cv){w':Wd}(e1:w'.rings=w.rings)(e2:w'.cur=w.cur):WkH (H.set r (.row 22 [iE w' k rv cv] false)) r w' k rv cv∧dP H (H.set r (.row 22 [iE w' k rv cv] false)) r:=by
 have:=h.setApp e1 e2 [];simpa using this
def mkI (d:TD)(t:TypeId)(x:V)(H:aA):FO:=match d with | .iface _ => .stuck | .other => .stuck|_ => .val (.iface t x) H
def aKq (x:V):FO:=match x with | .iface t v => .panic (.iface t v)|_ => .stuck
theorem WPn:(∀ tab T H t x,bQ tab T H (.makeInterface t x)=mkI (tab t).desc t (ev T x) H)∧(∀ fs t x H,mkI (.struct fs) t x H = .val (.iface t x) H)∧(∀ tab T H x,bQ tab T H (.panic x)=aKq (ev T x))∧(∀ t v,aKq (.iface t v) = .panic (.iface t v))∧
 (∀ E rec v d T H K Q,fk1 E rec (.panic v) d T H K Q=Q (.panic v) T H)∧(∀ tab rs r v T H,dV tab rs r (.panic v) T H=match fz H 8 v with|some v'=>r = .pan v' | none=>False)∧(∀ H n t v,fz H (n+1) (.iface t v)=(fz H n v).map (.iface t))∧(∀(f:V→V) v,(some v).map f=some (f v)):=by
 refine⟨?_,?_,?_,?_,?_,?_,?_,?_⟩
 ·intro tab T H t x;rfl
 ·intros;rfl
 ·intro tab T H x;rfl
 ·intros;rfl
 ·intros;rfl
 ·intros;rfl
 ·intro H n t v;simp only[fz];cases fz H n v<;>rfl
 ·intros;rfl
theorem aDj:PC P0 g 177 [.int .i64 0] (.ret (.tup [])):=by
 refine eC func177 ntmps177 results177 rfl ?_;simp only[ZZ,simprocAttr,i64];refine rg fun K hK=>?_;simp only[ZZ,simprocAttr,i64];apply hK;apply aD rfl;exact aH rfl
theorem Jj (e:Int)(h:e≠0):PC P0 g 177 [.int .i64 e] (.pan (.iface 176 (.agg [i64 e]))):=by
 have h':(e != 0)=true:=by simpa using h
 refine eC func177 ntmps177 results177 rfl ?_;simp only[ZZ,simprocAttr,i64];refine rg fun K hK=>?_;simp only[ZZ,simprocAttr,i64,h'];apply hK;apply aB rfl;refine FW.region (xA _) ?_;simp only[ZZ,simprocAttr,i64,WPn]
section
variable {Q:Ex→List V→aA→Prop}{dst:Option Tmp}{T:List V}{H:aA}{KK:List V→aA→Prop}{r:Nat}{w:Wd}{k:Pk}{rv cv:V}
theorem De (n:Int)(q:Rg)(h:WkH H r w k rv cv)(hn:0≤n∧n < w.rings.length)(hl:w.rings.length≤1073741824)
 (hk:∀ H' rv',WkH H' r {w with rings:=w.rings.set n.toNat q} k rv' cv→dP H H' r→KK (put T dst (.tup [])) H') :
 aZ (Eg g) (FW (Eg g)) 171 [.ptr r 0 0,.int .i64 n,bG q] dst T H KK Q:=by
 have q1:=hn.1;have q2:=hn.2;have h1:=h.app [.row 4 [bG q] false];have hB1:dP H (H++[.row 4 [bG q] false]) r:=dP.app _;have hc1:hb (H++[.row 4 [bG q] false]) H.length=some (.row 4 [bG q] false):=by rw[dS];rfl
 refine en func171 ntmps171 results171 rfl ⟨⟨rfl,rfl⟩,rfl⟩ ?_;simp only[ZZ,simprocAttr,i64];simp only[bG]at h1 hc1 hB1 ⊢;refine rg fun K hK=>?_;simp only[ZZ,simprocAttr,i64];apply hK;obtain⟨H1,hH1⟩:∃ H1,H1=H++[.row 4 [.agg [.imm (q.buf.map aS),i64 q.head,i64 q.many,i64 q.most]] false]:=⟨_,rfl⟩;rw[←hH1]at h1 hc1 hB1;simp only[i64]at hH1;rw[←hH1];obtain⟨c,hcd⟩:∃ c,c=H.length:=⟨_,rfl⟩;rw[←hcd]at hc1 ⊢;have hcr:c≠r:=by have:=aE h.hr;omega
 clear hH1 hcd;have hr1:=h1.hr;have hrl:=aE hr1;simp only[iE]at hr1;refine rg fun K hK=>?_;simp only[ZZ,simprocAttr,i64,WH,hr1];refine cl func234 rfl ⟨rfl,rfl⟩ h1.hv.ns h1.hv.el (Wv _) (by simp;omega) ?_;simp only[ZZ,simprocAttr,i64,WH,hr1,hrl];apply hK;have h2:WkH (H1.set r (.row 22 [iE w k (.sl H1.length 0 w.rings.length) cv] false)++[.row 4 (w.rings.map bG) false]) r w k (.sl H1.length 0 w.rings.length) cv:=by
  refine⟨?_,.inr ⟨H1.length,rfl,?_⟩,?_⟩
  ·rw[bA _ (by simpa using hrl),aW hrl]
  ·rw[cM (n:=H1.length) _ (by simp)];rfl
  ·exact(h1.hc.but (dP.set _) h1.hr (by omega)).app _
 have hB2:dP H (H1.set r (.row 22 [iE w k (.sl H1.length 0 w.rings.length) cv] false)++[.row 4 (w.rings.map bG) false]) r:=hB1.trans ((dP.set _).trans (dP.app _));have hc2:hb (H1.set r (.row 22 [iE w k (.sl H1.length 0 w.rings.length) cv] false)++[.row 4 (w.rings.map bG) false]) c=some (.row 4 [.agg [.imm (q.buf.map aS),i64 q.head,i64 q.many,i64 q.most]] false):=by
  rw[bA _ (by have:=aE hc1;simpa using this),aG (Ne.symm hcr)];exact hc1
 have hv2:hb (H1.set r (.row 22 [iE w k (.sl H1.length 0 w.rings.length) cv] false)++[.row 4 (w.rings.map bG) false]) H1.length=some (.row 4 (w.rings.map bG) false):=by
  rw[cM (n:=H1.length) _ (by simp)];rfl
 obtain⟨H2,hH2⟩:∃ H2,H2=H1.set r (.row 22 [iE w k (.sl H1.length 0 w.rings.length) cv] false)++[.row 4 (w.rings.map bG) false]:=⟨_,rfl⟩;rw[←hH2]at h2 hB2 hc2 hv2;obtain⟨d,hd⟩:∃ d,d=H1.length:=⟨_,rfl⟩;have hdr:r≠d:=by omega
 have hdh:H.length≤d:=by rw[hd];exact hB1.1
 simp only[iE,i64]at hH2;rw[←hd]at hH2 h2 hv2 ⊢;rw[←hH2];clear hH2 hd hr1 hrl hc1 h1 hB1;have hr2:=h2.hr;have hrl:=aE hr2;have hvl:=aE hv2;simp only[iE]at hr2;have hx:=List.getElem?_eq_getElem (show n.toNat < w.rings.length by omega);generalize w.rings[n.toNat]'(by omega)=y at hx;refine dl [0,1,2,3,5,4,6,7,8] (by kernel_rfl) fun K hK=>?_;simp only[ZZ,simprocAttr,i64,WH,hr2,hc2,hv2,hvl,q1,q2,List.getElem?_map,hx,Option.map_some,rR];apply hK;try simp only[WX]
 simp only[WX,bF,aI,W5,List.mapM_nil,Option.pure_def];have e:List.map bG (w.rings.set n.toNat q)=(w.rings.map bG).set n.toNat (bG q):=List.map_set;refine hk _ (.sl d 0 w.rings.length) ⟨?_,?_,?_⟩ ?_
 ·rw[aG (Ne.symm hdr)];exact h2.hr
 ·refine .inr ⟨d,by simp,?_⟩;rw[aW hvl,e];rfl
 ·have hh:=h2.hc;rcases hh with hh|⟨b',e1,e2⟩
  ·exact .inl hh
  ·have:d≠b':=fun q=>by subst q;rw[hv2]at e2;simp at e2
   exact .inr ⟨b',e1,by rw[aG this];exact e2⟩
 ·refine⟨by simpa using hB2.1,fun c' hc' hcr'=>?_⟩;rw[aG (by omega),hB2.2 c' hc' hcr']
theorem Mu (q:Rf)(h:WkH H r w k rv cv)(hn:0≤k.worker∧k.worker < w.cur.length)(hl:w.cur.length≤1073741824)
 (hk:∀ H' cv',WkH H' r {w with cur:=w.cur.set k.worker.toNat q} k rv cv'→dP H H' r→(∃ d m,H.length≤d∧cv' = .sl d 0 m)→KK (put T dst (.tup [])) H') :
 aZ (Eg g) (FW (Eg g)) 172 [.ptr r 0 0,aS q] dst T H KK Q:=by
 have q1:=hn.1;have q2:=hn.2;have h1:=h.app [.row 2 [aS q] false];have hB1:dP H (H++[.row 2 [aS q] false]) r:=dP.app _;have hc1:hb (H++[.row 2 [aS q] false]) H.length=some (.row 2 [aS q] false):=by rw[dS];rfl
 refine en func172 ntmps172 results172 rfl ⟨⟨rfl,rfl⟩,rfl⟩ ?_;simp only[ZZ,simprocAttr,i64];simp only[aS]at h1 hc1 hB1 ⊢;refine rg fun K hK=>?_;simp only[ZZ,simprocAttr,i64];apply hK;obtain⟨H1,hH1⟩:∃ H1,H1=H++[.row 2 [.agg [i64 q.at_,i64 q.gen]] false]:=⟨_,rfl⟩;rw[←hH1]at h1 hc1 hB1;simp only[i64]at hH1;rw[←hH1];obtain⟨c,hcd⟩:∃ c,c=H.length:=⟨_,rfl⟩;rw[←hcd]at hc1 ⊢;have hcr:c≠r:=by have:=aE h.hr;omega
 clear hH1 hcd;have hr1:=h1.hr;have hrl:=aE hr1;simp only[iE]at hr1;refine rg fun K hK=>?_;simp only[ZZ,simprocAttr,i64,WH,hr1];refine cl func235 rfl ⟨rfl,rfl⟩ h1.hc.ns h1.hc.el (Ib _) (by simp;omega) ?_;simp only[ZZ,simprocAttr,i64,WH,hr1,hrl];apply hK;have h2:WkH (H1.set r (.row 22 [iE w k rv (.sl H1.length 0 w.cur.length)] false)++[.row 2 (w.cur.map aS) false]) r w k rv (.sl H1.length 0 w.cur.length):=by
  refine⟨?_,?_,.inr ⟨H1.length,rfl,?_⟩⟩
  ·rw[bA _ (by simpa using hrl),aW hrl]
  ·exact(h1.hv.but (dP.set _) h1.hr (by omega)).app _
  ·rw[cM (n:=H1.length) _ (by simp)];rfl
 have hB2:dP H (H1.set r (.row 22 [iE w k rv (.sl H1.length 0 w.cur.length)] false)++[.row 2 (w.cur.map aS) false]) r:=hB1.trans ((dP.set _).trans (dP.app _));have hc2:hb (H1.set r (.row 22 [iE w k rv (.sl H1.length 0 w.cur.length)] false)++[.row 2 (w.cur.map aS) false]) c=some (.row 2 [.agg [i64 q.at_,i64 q.gen]] false):=by
  rw[bA _ (by have:=aE hc1;simpa using this),aG (Ne.symm hcr)];exact hc1
 have hv2:hb (H1.set r (.row 22 [iE w k rv (.sl H1.length 0 w.cur.length)] false)++[.row 2 (w.cur.map aS) false]) H1.length=some (.row 2 (w.cur.map aS) false):=by
  rw[cM (n:=H1.length) _ (by simp)];rfl
 obtain⟨H2,hH2⟩:∃ H2,H2=H1.set r (.row 22 [iE w k rv (.sl H1.length 0 w.cur.length)] false)++[.row 2 (w.cur.map aS) false]:=⟨_,rfl⟩;rw[←hH2]at h2 hB2 hc2 hv2;obtain⟨d,hd⟩:∃ d,d=H1.length:=⟨_,rfl⟩;have hdr:r≠d:=by omega
 have hdh:H.length≤d:=by rw[hd];exact hB1.1
 simp only[iE,i64]at hH2;rw[←hd]at hH2 h2 hv2 ⊢;rw[←hH2];clear hH2 hd hr1 hrl hc1 h1 hB1;have hr2:=h2.hr;have hrl:=aE hr2;have hvl:=aE hv2;simp only[iE]at hr2;have hx:=List.getElem?_eq_getElem (show k.worker.toNat < w.cur.length by omega);generalize w.cur[k.worker.toNat]'(by omega)=y at hx;refine dl [0,1,2,3,5,6,7,8,4,9,10,11,12] (by kernel_rfl) fun K hK=>?_;simp only[ZZ,simprocAttr,i64,WH,hr2,hc2,hv2,hvl,q1,q2,List.getElem?_map,hx,Option.map_some,rS];apply hK;try simp only[WX]
 simp only[WX,bF,aI,W5,List.mapM_nil,Option.pure_def];have e:List.map aS (w.cur.set k.worker.toNat q)=(w.cur.map aS).set k.worker.toNat (aS q):=List.map_set;refine hk _ (.sl d 0 w.cur.length) ⟨?_,?_,?_⟩ ?_ ⟨d,_,hdh,rfl⟩
 ·rw[aG (Ne.symm hdr)];exact h2.hr
 ·have hh:=h2.hv;rcases hh with hh|⟨b',e1,e2⟩
  ·exact .inl hh
  ·have:d≠b':=fun q=>by subst q;rw[hv2]at e2;simp at e2
   exact .inr ⟨b',e1,by rw[aG this];exact e2⟩
 ·refine .inr ⟨d,by simp,?_⟩;rw[aW hvl,e];rfl
 ·refine⟨by simpa using hB2.1,fun c' hc' hcr'=>?_⟩;rw[aG (by omega),hB2.2 c' hc' hcr']
theorem Ce (q:Rf)(h:WkH H r w k rv cv)(hn:0≤k.worker∧k.worker < w.cur.length)(hl:w.cur.length≤1073741824)
 (hk:∀ H' cv',WkH H' r {w with cur:=w.cur.set k.worker.toNat q} k rv cv'→dP H H' r→KK (put T dst (.tup [])) H') :
 aZ (Eg g) (FW (Eg g)) 172 [.ptr r 0 0,aS q] dst T H KK Q:=Mu g q h hn hl fun H' cv' h1 h2 _=>hk H' cv' h1 h2
theorem Ck (q:Rf)(f:Frm)(h:WkH H r w k rv cv)(hf:w.pen.free.length≤1073741824)
 (hk:∀ H',WkH H' r {w with pen:=(bI w.pen q f).1} k rv cv→dP H H' r→KK (put T dst (.tup [])) H') :
 aZ (Eg g) (FW (Eg g)) 176 [.ptr r 0 0,aS q,aJ f] dst T H KK Q:=by
 have hr:=h.hr;have hrl:=aE hr;simp only[iE]at hr;have hc:=aDd g w.pen q f hf;simp only[bJ,aS,aJ,aN]at hc;refine en func176 ntmps176 results176 rfl ⟨⟨rfl,rfl⟩,rfl⟩ ?_;simp only[ZZ,simprocAttr,i64];simp only[aS,aJ,aN];refine rg fun K hK=>?_;simp only[ZZ,simprocAttr,i64];apply hK;refine dl [0,1,2,3,4,5,6,7,8,9,10,11,12,13,14,15] (by kernel_rfl) fun K hK=>?_;simp only[ZZ,simprocAttr,i64,WH,hr,hrl];refine mt hc func248 rfl ⟨⟨rfl,rfl⟩,rfl⟩ rfl ?_;simp only[ZZ,simprocAttr,i64,WH,hr,hrl];apply hK;try simp only[WX]
 simp only[WX,bF,aI,W5,List.mapM_nil,Option.pure_def];have:=h.setApp (w':={w with pen:=(bI w.pen q f).1}) rfl rfl;exact hk _ (this _).1 (this _).2
theorem aLo (n:Int)(h:WkH H r w k (.imm (w.rings.map bG)) (.imm (w.cur.map aS)))
 (hk:KK (put T dst (.bool (decide (0≤n) && decide (n < w.rings.length) && decide (n < w.cur.length)))) H) :
 aZ (Eg g) (FW (Eg g)) 85 [.ptr r 0 0,.int .i64 n] dst T H KK Q:=by
 have hr:=h.hr;have hrl:=aE hr;simp only[iE]at hr;refine en func85 ntmps85 results85 rfl ⟨⟨rfl,rfl⟩,rfl⟩ ?_;simp only[ZZ,simprocAttr,i64];refine rg fun K hK=>?_;simp only[ZZ,simprocAttr,i64];apply hK;by_cases h1:0≤n
 ·by_cases h2:n < w.rings.length
  ·refine rg fun K hK=>?_;simp only[ZZ,simprocAttr,i64,WH,hr,h1,h2];apply hK;apply aC;simp only[WX,aM,aI,W1,W5,aL,aO,List.mapM_nil,Option.pure_def];simp only[h1,h2,decide_true,Bool.true_and]at hk;exact hk
  ·refine rg fun K hK=>?_;simp only[ZZ,simprocAttr,i64,WH,hr,h1,h2];apply hK;apply aC;simp only[WX,aM,aI,W1,W5,aL,aO,List.mapM_nil,Option.pure_def];simp only[h1,h2,decide_true,decide_false,Bool.true_and,Bool.false_and]at hk;exact hk
 ·refine rg fun K hK=>?_;simp only[ZZ,simprocAttr,i64,WH,hr,h1];apply hK;apply aC;simp only[WX,aM,aI,W1,W5,aL,aO,List.mapM_nil,Option.pure_def];simp only[h1,decide_false,Bool.false_and]at hk;exact hk
end
end
section
open Go Go.RowKit
variable (g:Gl)
def fO (r:Rg):Rg:=⟨aX r++List.replicate ((min (2*r.buf.length) r.most.toNat) - r.many.toNat) ⟨0,0⟩,0,r.many,r.most⟩
theorem lG (r:Rg):(aX r).length=r.many.toNat:=by simp[aX]
theorem aLr {Q:Ex→List V→aA→Prop}{dst:Option Tmp}{T:List V}{H:aA}{KK:List V→aA→Prop}(r:Rg)(hok:bV r=true)(b:Nat)(hb0:hb H b=some (.row 2 (r.buf.map aS) false))
 (hk:∀ H' b',H.length≤H'.length→(∀ c,c < H.length→c≠b→hb H' c=hb H c)→H.length≤b'→hb H' b'=some (.row 2 ((fO r).buf.map aS) false)→KK (put T dst (.agg [.sl b' 0 (fO r).buf.length,i64 0,i64 r.many,i64 r.most])) H') :
 aZ (Eg g) (FW (Eg g)) 335 [.agg [.sl b 0 r.buf.length,i64 r.head,i64 r.many,i64 r.most]] dst T H KK Q:=by
 have hm:=gT _ hok;have hbl:=aE hb0;obtain⟨buf,head,many,most⟩:=r;simp only at hm hb0 hk;obtain⟨n,hn⟩:∃ n:Nat,(if most < 2*(buf.length:Int)then most else 2*(buf.length:Int))=n:=⟨(if most < 2*(buf.length:Int)then most else 2*(buf.length:Int)).toNat,by split<;>omega⟩;have hn1:(0:Int)≤n:=by omega
 have hn2:(n:Int)≤1073741824:=by split at hn<;>omega
 refine en Tryz.func335 Tryz.ntmps335 Tryz.results335 rfl ⟨⟨rfl,rfl⟩,rfl⟩ ?_;simp only[ZZ,simprocAttr,i64];refine rg fun K hK=>?_;simp only[ZZ,simprocAttr,i64];apply hK;refine rg fun K hK=>?_;simp only[ZZ,simprocAttr,i64,WH,hbl,hb0,IntWalk.i64_in (2*(buf.length:Int)) (by omega),hn,hn1,hn2,Int.toNat_natCast,gR,List.length_append,Nat.add_assoc];apply hK;refine rg fun K hK=>?_;simp only[ZZ,simprocAttr,i64,WH,hbl,hb0];refine mt (aRy g ⟨buf,head,many,most⟩ hok) Tryz.func74 rfl ⟨⟨rfl,rfl⟩,rfl⟩ (by simp only[ZZ,simprocAttr,i64,hbl,hb0,bG,WH]) ?_;have hil:((aX ⟨buf,head,many,most⟩).length:Int)≤n:=by rw[lG];split at hn<;>(dsimp only;omega)
 simp only[ZZ,simprocAttr,i64,WH,WI,hbl,hb0,aG,aW,List.length_set,Ib,List.length_replicate,Nat.le_refl];apply hK;refine rg fun K hK=>?_;simp only[ZZ,simprocAttr,i64,WH,List.length_set,hbl,hb0];apply hK;refine rg fun K hK=>?_;simp only[ZZ,simprocAttr,i64,WH,List.length_set,hbl,hb0];apply hK;apply aC;simp only[ZZ,simprocAttr,i64,WH,List.length_set];have hnn:n=min (2*buf.length) most.toNat:=by split at hn<;>omega
 have e1:List.take n (List.map aS (aX ⟨buf,head,many,most⟩))++List.drop (min (aX ⟨buf,head,many,most⟩).length n) (List.map aS (List.replicate n ⟨0,0⟩))=List.map aS (fO ⟨buf,head,many,most⟩).buf:=by
  have hil2:(aX ⟨buf,head,many,most⟩).length≤n:=by omega
  rw[List.take_of_length_le (by simpa using hil2),Nat.min_eq_left hil2,←List.map_drop,List.drop_replicate,←List.map_append];simp only[fO,lG,hnn]
 have e2:(fO ⟨buf,head,many,most⟩).buf.length=n:=by
  have:=lG ⟨buf,head,many,most⟩;simp only at this;simp only[fO,List.length_append,List.length_replicate,←hnn];omega
 rw[e1];have:=hk (List.set H b (Blk.row 2 (List.map aS buf) true)++[Blk.row 4 [V.agg [V.sl (List.length H+2) 0 n,V.int IntKind.i64 0,V.int IntKind.i64 many,V.int IntKind.i64 most]] false,Blk.row 4 [V.agg [V.sl (List.length H+2) 0 n,V.int IntKind.i64 0,V.int IntKind.i64 many,V.int IntKind.i64 most]] false,Blk.row 2 (List.map aS (fO ⟨buf,head,many,most⟩).buf) false]) (H.length+2) ?_ ?_ (by omega) ?_
 ·rw[e2]at this;exact this
 ·simp
 ·intro c hc hcb;rw[bA _ (by simpa using hc),aG (Ne.symm hcb)]
 ·rw[bO _ 2 (by simp)];rfl
def dR (r:Rg):Rg:=if r.many=r.buf.length then fO r else r
def eS (r:Rg)(x:Rf):Rg:={dR r with buf:=(dR r).buf.set (cH (dR r) r.many.toNat) x,many:=r.many+1}
theorem vL (r:Rg)(h:bV r=true)(hm:r.many=r.buf.length)(hlt:r.many < r.most):bV (fO r)=true∧r.many < (fO r).buf.length:=by
 have hl:=gT _ h;have h2:(fO r).buf.length=min (2*r.buf.length) r.most.toNat:=by
  have:=lG r;simp only[fO,List.length_append,List.length_replicate];omega
 constructor
 ·simp only[bV,eK,Bool.and_eq_true,decide_eq_true_eq,h2];simp only[fO];omega
 ·omega
theorem aLs {Q:Ex→List V→aA→Prop}{dst:Option Tmp}{T:List V}{H:aA}{KK:List V→aA→Prop}(r:Rg)(x:Rf)(hok:bV r=true)(hlt:r.many < r.most)(b:Nat)(hb0:hb H b=some (.row 2 (r.buf.map aS) false))
 (hk:∀ H' b',H.length≤H'.length→(∀ c,c < H.length→c≠b→hb H' c=hb H c)→(b'=b∨H.length≤b')→hb H' b'=some (.row 2 ((eS r x).buf.map aS) false)→KK (put T dst (.agg [.sl b' 0 (eS r x).buf.length,i64 (eS r x).head,i64 (eS r x).many,i64 (eS r x).most])) H') :
 aZ (Eg g) (FW (Eg g)) 298 [.agg [.sl b 0 r.buf.length,i64 r.head,i64 r.many,i64 r.most],aS x] dst T H KK Q:=by
 have hm:=gT _ hok;have hbl:=aE hb0;refine en Tryz.func298 Tryz.ntmps298 Tryz.results298 rfl ⟨⟨rfl,rfl⟩,rfl⟩ ?_;simp only[ZZ,simprocAttr,i64];simp only[aS];refine rg fun K hK=>?_;simp only[ZZ,simprocAttr,i64];apply hK;refine aF fun K1 hK1=>?_;refine rg fun K hK=>?_;simp only[ZZ,simprocAttr,i64,WH,hbl,hb0];apply hK;have after:∀(q:Rg)(H':aA)(b':Nat)(T':List V),q=dR r→T'.length=32→gt T' 2 = .ptr H.length 0 0→gt T' 3 = .ptr (H.length+1) 0 0→gt T' 4 = .ptr (H.length+2) 0 0→H.length+3≤H'.length→hb H' H.length=some (.row 4 [.agg [.sl b' 0 q.buf.length,i64 q.head,i64 q.many,i64 q.most]] false)→
  hb H' (H.length+1)=some (.row 2 [.agg [i64 x.at_,i64 x.gen]] false)→hb H' (H.length+2)=some (.row 4 [.agg [.nils,i64 0,i64 0,i64 0]] false)→hb H' b'=some (.row 2 (q.buf.map aS) false)→(b'=b∨H.length+3≤b')→(∀ c,c < H.length→c≠b→hb H' c=hb H c)→bV q=true→q.many < q.buf.length→K1 T' H':=by
  intro q H' b' T hq hT h2 h3 h4 hl g0 g1 g2 gb hbb hkeep hqok hqlt;have hqm:=gT _ hqok;obtain⟨k,hqk⟩:∃ k:Nat,q.many=k:=⟨q.many.toNat,by omega⟩;have n0:H.length≠b':=by omega
  have n1:H.length+1≠b':=by omega
  have n2:H.length+2≠b':=by omega
  have m0:b'≠H.length:=by omega
  have m1:b'≠H.length+1:=by omega
  have m2:b'≠H.length+2:=by omega
  have l0:H.length < H'.length:=by omega
  have l1:H.length+1 < H'.length:=by omega
  have l2:H.length+2 < H'.length:=by omega
  have lb:=aE gb;rw[eW 32 T hT];simp only[show List.range 32=[0,1,2,3,4,5,6,7,8,9,10,11,12,13,14,15,16,17,18,19,20,21,22,23,24,25,26,27,28,29,30,31]from rfl,List.map_cons,List.map_nil,h2,h3,h4];have hp0:0 < q.buf.length:=by omega
  have hpn:=mO q k hp0;have hpl:=uN q k hp0;have hpl2:(q.head + ↑k) % ↑q.buf.length < (q.buf.length:Int):=by unfold cH at hpl;omega
  have hpg:q.buf[cH q k]?=some (q.buf[cH q k]'hpl):=List.getElem?_eq_getElem hpl;unfold cH at hpg hpl;apply hK1;refine dr [0,1,4,5,2,3,6,8,7,9,10] (by kernel_rfl) fun K hK=>?_;simp only[ZZ,simprocAttr,i64,g0,g1,g2,gb,hqk];refine mt (Oj g q k hp0 hqm.2.2.2.2.1 (by omega) (by omega) (by omega)) Tryz.func149 rfl ⟨⟨rfl,rfl⟩,rfl⟩ (by simp only[ZZ,simprocAttr,i64,gb,bG,Hb,hqk,WH]) ?_;have hsx:(List.map aS q.buf).set ((q.head + ↑k) % ↑q.buf.length).toNat (V.agg [V.int .i64 x.at_,V.int .i64 x.gen])=List.map aS (q.buf.set ((q.head + ↑k) % ↑q.buf.length).toNat x):=by rw[←zY];rfl
  simp only[ZZ,simprocAttr,i64,g0,g1,g2,gb,hpn,hpl2,Int.toNat_natCast,qJ,hpg,Option.map_some,aG,n0,n1,n2,jJ,hsx];apply hK;refine rg fun K hK=>?_;simp only[ZZ,simprocAttr,i64,g0,g1,g2,gb,hqk,aG,n0,n1,n2,m0,m1,m2,aW,l0,l1,l2,lb,List.length_set,ne_eq,not_false_eq_true,IntWalk.i64_in (k+1) (by omega)];apply hK;have c1:H.length≠H.length+2:=by omega
  have c2:H.length+2≠H.length:=by omega
  refine rg fun K hK=>?_;simp only[ZZ,simprocAttr,i64,g0,g1,g2,gb,hqk,aG,n0,n1,n2,m0,m1,m2,aW,l0,l1,l2,lb,List.length_set,ne_eq,not_false_eq_true,c1,c2];apply hK;apply aC;simp only[ZZ,simprocAttr,i64,WH,g0,g1,g2,gb,hqk,aG,n0,n1,n2,m0,m1,m2,aW,l0,l1,l2,lb,List.length_set,ne_eq,not_false_eq_true,c1,c2];have hpm:(dR r).many=r.many:=by unfold dR;split<;>rfl
  have hkr:r.many.toNat=k:=by rw[hq,hpm]at hqk;omega
  have hres:eS r x=⟨q.buf.set ((q.head + ↑k) % ↑q.buf.length).toNat x,q.head,↑k+1,q.most⟩:=by
   subst hq;simp only[eS,hkr,cH,Rg.mk.injEq,true_and,and_true];omega
  have:=hk (((List.set H' b' (Blk.row 2 (List.map aS (q.buf.set ((q.head + ↑k) % ↑q.buf.length).toNat x)) false)).set (List.length H) (Blk.row 4 [V.agg [V.sl b' 0 q.buf.length,V.int IntKind.i64 q.head,V.int IntKind.i64 (↑k+1),V.int IntKind.i64 q.most]] false)).set (List.length H+2) (Blk.row 4 [V.agg [V.sl b' 0 q.buf.length,V.int IntKind.i64 q.head,V.int IntKind.i64 (↑k+1),V.int IntKind.i64 q.most]] false)) b' (by simp only[List.length_set];omega) (fun c hc hcb=>?_) (by omega) ?_
  ·rw[hres]at this;simp only[List.length_set]at this;exact this
  ·rw[aG (by omega),aG (by omega),aG (by rcases hbb with h|h<;>omega)];exact hkeep c hc hcb
  ·rw[aG (by omega),aG (by omega),aW lb,hres]
 by_cases hfull:r.many=r.buf.length
 ·have hfb:(r.many == ↑r.buf.length)=true:=by simp[hfull]
  have hg:=vL r hok hfull hlt;rw[hfb];apply aB rfl;refine rl fun K hK=>?_;simp only[ZZ,simprocAttr,i64,WH,hbl,hb0];refine aLr g r hok b (by rw[bA _ hbl];exact hb0) ?_;intro H' b' g1 g2 g3 g4;simp only[WH,List.length_cons,List.length_nil,Nat.reduceAdd]at g1 g2 g3;have e0:hb H' H.length=_:=(g2 H.length (by omega) (by omega)).trans (by rw[dS]);have e1:hb H' (H.length+1)=_:=(g2 (H.length+1) (by omega) (by omega)).trans (by rw[rL]);have e2:hb H' (H.length+2)=_:=(g2 (H.length+2) (by omega) (by omega)).trans (by rw[rL]);simp only[ZZ,simprocAttr,i64,e0];apply hK;try simp only[WX]
  refine after (fO r) _ b' _ (by simp[dR,hfull]) rfl rfl rfl rfl (by simp only[List.length_set];omega) (by rw[aW (by omega)];rfl) (by rw[aG (by omega)];exact e1) (by rw[aG (by omega)];exact e2) (by rw[aG (by omega)];exact g4) (.inr (by omega)) (fun c hc hcb=>?_) hg.1 hg.2;rw[aG (by omega),g2 c (by omega) hcb,bA _ hc]
 ·have hfb:(r.many == ↑r.buf.length)=false:=by simp[hfull]
  rw[hfb];apply aD rfl;apply aH;simp only[WX];refine after r _ b _ (by simp[dR,hfull]) rfl rfl rfl rfl (by simp) (by rw[dS];rfl) (by rw[rL];rfl) (by rw[rL];rfl) (by rw[bA _ hbl];exact hb0) (.inl rfl) (fun c hc hcb=>by rw[bA _ hc]) hok (by omega)
theorem yG (r:Rg)(x:Rf)(h:bV r=true)(hlt:r.many < r.most):bV (eS r x)=true∧(eS r x).many=r.many+1∧(eS r x).most=r.most:=by
 have hl:=gT _ h;unfold eS dR;split
 ·rename_i hf;have hg:=vL r h hf hlt;have hg2:=gT _ hg.1;refine⟨?_,rfl,rfl⟩;have e1:(fO r).many=r.many:=rfl;have e2:(fO r).most=r.most:=rfl;simp only[bV,eK,Bool.and_eq_true,decide_eq_true_eq,List.length_set];rw[e1,e2]at hg2;rw[e2];omega
 ·refine⟨?_,rfl,rfl⟩;simp only[bV,eK,Bool.and_eq_true,decide_eq_true_eq,List.length_set];omega
def dC (r:Rg)(l:List Rf):Rg:=l.foldl eS r
theorem sL (r:Rg):∀(l:List Rf),bV r=true→r.many+l.length≤r.most→bV (dC r l)=true∧(dC r l).many=r.many+l.length∧(dC r l).most=r.most:=by
 intro l;induction l generalizing r with
 | nil=>intro h _;exact⟨h,by simp[dC],rfl⟩
 | cons x l ih=>
  intro h hl;simp only[List.length_cons]at hl;have h1:=yG r x h (by omega);have h2:=ih (eS r x) h1.1 (by rw[h1.2.1,h1.2.2];omega);refine⟨h2.1,?_,h2.2.2.trans h1.2.2⟩;show(dC (eS r x) l).many=_;rw[h2.2.1,h1.2.1];simp only[List.length_cons];omega
theorem Ea (r:Rg)(l:List Rf)(k:Nat)(x:Rf)(h:l[k]?=some x):dC r (l.take (k+1))=eS (dC r (l.take k)) x:=by
 rw[List.take_add_one,h];simp[dC,List.foldl_append]
def fW (r:Rg)(l:List Rf):Rg×Int:=if bV r then(if r.most < r.many+l.length then(r,110)else(dC r l,0))else(r,1)
theorem aDc (r:Rg)(l:List Rf)(hl:(r.buf.length:Int)≤4294967296)(hll:l.length≤4294967296):PC P0 g 249 [bG r,.imm (l.map aS)] (.ret (.tup [bG (fW r l).1,.int .i64 (fW r l).2])):=by
 refine eC Tryz.func249 Tryz.ntmps249 Tryz.results249 rfl ?_;simp only[ZZ,simprocAttr,i64];simp only[bG];refine rg fun K hK=>?_;simp only[ZZ,simprocAttr,i64];apply hK;try clear hK K
 refine bl fun K1 hK1=>?_;refine rg fun K hK=>?_;simp only[ZZ,simprocAttr,i64];refine mt (Qy g r hl) Tryz.func73 rfl ⟨⟨rfl,rfl⟩,rfl⟩ rfl ?_;cases hok:bV r
 ·simp only[ZZ,simprocAttr,i64];apply hK;try clear hK K
  apply aB rfl;refine rg fun K hK=>?_;simp only[ZZ,simprocAttr,i64];apply hK;try clear hK K
  apply aC;simp only[ZZ,simprocAttr,i64,fW,hok,bG]
 have hm:=gT _ hok;simp only[ZZ,simprocAttr,i64];apply hK;try clear hK K
 apply aD rfl;by_cases hov:r.most < r.many+l.length
 ·refine rg fun K hK=>?_;simp only[ZZ,simprocAttr,i64,IntWalk.i64_in (r.many+l.length) (by omega),hov];apply hK;try clear hK K
  apply aB rfl;refine rg fun K hK=>?_;simp only[ZZ,simprocAttr,i64];apply hK;try clear hK K
  apply aC;simp only[ZZ,simprocAttr,i64,fW,hok,hov,bG]
 refine rg fun K hK=>?_;simp only[ZZ,simprocAttr,i64,IntWalk.i64_in (r.many+l.length) (by omega),hov];apply hK;try clear hK K
 apply aD rfl;apply aH;simp only[WX];apply hK1;refine rg fun K hK=>?_;simp only[ZZ,simprocAttr,i64];apply hK;try clear hK K
 refine rg fun K hK=>?_;simp only[ZZ,simprocAttr,i64];refine cl Tryz.func235 rfl ⟨rfl,rfl⟩ rfl rfl (Ib _) (by simp;omega) ?_;simp only[ZZ,simprocAttr,i64];apply hK;try clear hK K
 refine aF fun K1 hK1=>?_;refine rg fun K hK=>?_;simp only[ZZ,simprocAttr,i64];apply hK;try clear hK K
 refine aT ?_;have hp0:dC r (l.take 0)=r:=rfl;refine cB (fun n T H=>∃ k b:Nat,n=l.length - k∧k≤l.length∧T.length=43∧gt T 2 = .ptr 0 0 0∧gt T 4 = .ptr 1 0 0∧gt T 5 = .int .i64 0∧gt T 6 = .ptr 2 0 0∧gt T 31 = .imm (l.map aS)∧gt T 32 = .int .i64 l.length∧gt T 33 = .int .i64 k∧hb H 1=some (.row 4 [.agg [.nils,i64 0,i64 0,i64 0]] false)∧
  hb H 2=some (.row 4 [.agg [.sl b 0 (dC r (l.take k)).buf.length,i64 (dC r (l.take k)).head,i64 (dC r (l.take k)).many,i64 (dC r (l.take k)).most]] false)∧hb H b=some (.row 2 ((dC r (l.take k)).buf.map aS) false)∧3≤b) (n:=l.length) ⟨0,3,rfl,by omega,rfl,rfl,rfl,rfl,rfl,rfl,rfl,rfl,rfl,by rw[hp0];rfl,by rw[hp0];rfl,by omega⟩ ?_
 rintro n T H ⟨k,b,rfl,hk,hT,h2,h4,h5,h6,h31,h32,h33,g1,g2,gb,hb3⟩;rw[eW 43 T hT];simp only[show List.range 43=[0,1,2,3,4,5,6,7,8,9,10,11,12,13,14,15,16,17,18,19,20,21,22,23,24,25,26,27,28,29,30,31,32,33,34,35,36,37,38,39,40,41,42]from rfl,List.map_cons,List.map_nil,h2,h4,h5,h6,h31,h32,h33];have hlb:=aE gb;have hl2:=aE g2;by_cases hkm:(k:Int) < l.length
 ·have hkn:k < l.length:=by omega
  have hk0:(0:Int)≤k:=by omega
  have hx:=List.getElem?_eq_getElem hkn;generalize l[k]=x at hx;have hstep:=Ea r l k x hx;have hlt:(l.take k).length=k:=by rw[List.length_take];omega
  have hma:=sL r (l.take k) hok (by rw[hlt];omega);rw[hlt]at hma;refine rg fun K hK=>?_;simp only[ZZ,simprocAttr,i64,hkm];apply hK;try clear hK K
  refine ct rfl fun K hK=>?_;apply aH;simp only[WX];apply hK;try clear hK K
  refine bl fun K hK=>?_;refine rg fun K hK=>?_;simp only[ZZ,simprocAttr,i64,hk0,Int.toNat_natCast,List.getElem?_map,hx,Option.map_some,WH,jJ];apply hK;try clear hK K
  refine rl fun K2 hK2=>?_;simp only[ZZ,simprocAttr,i64,WH,g2,hl2,jJ];refine aLs g (dC r (l.take k)) x hma.1 (by omega) b (by rw[bA _ hlb];exact gb) ?_;intro H' b' j1 j2 j3 j4;simp only[WH,List.length_cons,List.length_nil,Nat.reduceAdd]at j1 j2 j3;have e2:hb H' 2=_:=(j2 2 (by omega) (by omega)).trans (by rw[bA _ hl2,g2]);simp only[ZZ,simprocAttr,i64,e2];apply hK2;try simp only[WX]
  apply hK;try clear hK K
  refine rl fun K hK=>?_;simp only[ZZ,simprocAttr,i64,IntWalk.i64_in (k+1) (by omega)];apply hK;try clear hK K
  try simp only[WX]
  refine⟨l.length - (k+1),by omega,k+1,b',rfl,by omega,rfl,rfl,rfl,rfl,rfl,rfl,rfl,rfl,?_,?_,?_,by omega⟩
  ·rw[aG (by omega),j2 1 (by omega) (by omega),bA _ (by omega),g1]
  ·rw[aW (by omega),hstep]
  ·rw[aG (by omega),hstep];exact j4
 ·refine rg fun K hK=>?_;simp only[ZZ,simprocAttr,i64,hkm];apply hK;try clear hK K
  refine cf rfl fun K hK=>?_;apply bZ;simp only[WX,if_true];apply hK1;obtain rfl:l.length=k:=by omega
  rw[List.take_length]at g2 gb;have hl1:1 < H.length:=by omega
  have hn1:1≠b:=by omega
  refine rg fun K hK=>?_;simp only[ZZ,simprocAttr,i64,g2,g1];apply hK;try clear hK K
  apply aC;simp only[ZZ,simprocAttr,i64,fW,hok,hov,bG,g1,g2,gb,aW,aG,hl2,hlb,hl1,hn1,ne_eq,not_false_eq_true]
end
section
open Go Go.RowKit
variable (g:Gl)
def eJ (w:Wd)(n:Int):Rg:=w.rings.getD n.toNat ⟨[],0,0,0⟩
def mQ (w:Wd)(n:Int)(r:Rg):Wd:={w with rings:=w.rings.set n.toNat r}
def eM (w:Wd)(k:Pk)(r:Rf):Wd:={w with cur:=w.cur.set k.worker.toNat r}
def vN (w:Wd)(k:Pk):Option Wd:=
 match(fN (eJ w k.victim)).2 with
 | []=>none
 | x::xs=>if(fW (eJ w k.worker) xs).2=0 then some (eM (mQ (mQ w k.victim (fN (eJ w k.victim)).1) k.worker (fW (eJ w k.worker) xs).1) k x)else none
structure WOk (w:Wd)(k:Pk):Prop where
 n:0≤k.worker∧k.worker < w.rings.length∧k.worker < w.cur.length
 l:w.rings.length≤1048576∧w.cur.length≤1048576
 b:∀ r∈w.rings,(r.buf.length:Int)≤1048576
 m:∀ r∈w.rings,bV r=true
section
variable {Q:Ex→List V→aA→Prop}{dst:Option Tmp}{T:List V}{H:aA}{KK:List V→aA→Prop}{r:Nat}{w:Wd}{k:Pk}{rv cv:V}
theorem aMe (h:WkH H r w k (.imm (w.rings.map bG)) cv)(hok:WOk w k)(hv:0≤k.victim∧k.victim < w.rings.length)
 (hk:∀ H' rv' cv',WkH H' r ((vN w k).getD w) k rv' cv'→dP H H' r→KK (put T dst (.bool (vN w k).isSome)) H') :
 aZ (Eg g) (FW (Eg g)) 236 [.ptr r 0 0] dst T H KK Q:=by
 have hr:=h.hr;have hrl:=aE hr;simp only[iE]at hr;obtain⟨v1,v2⟩:=hv;obtain⟨n1,n2,n3⟩:=hok.n;have hxv:=List.getElem?_eq_getElem (show k.victim.toNat < w.rings.length by omega);have ev:w.rings[k.victim.toNat]'(by omega)=eJ w k.victim:=by rw[eJ,List.getD_eq_getElem?_getD,hxv];rfl
 rw[ev]at hxv;have hxw:=List.getElem?_eq_getElem (show k.worker.toNat < w.rings.length by omega);have ew:w.rings[k.worker.toNat]'(by omega)=eJ w k.worker:=by rw[eJ,List.getD_eq_getElem?_getD,hxw];rfl
 rw[ew]at hxw;have hbv:=hok.b _ (List.mem_of_getElem? hxv);have hbw:=hok.b _ (List.mem_of_getElem? hxw);have hmv:=hok.m _ (List.mem_of_getElem? hxv);have hgh:vN w k=match(fN (eJ w k.victim)).2 with | []=>none|x::xs=>if(fW (eJ w k.worker) xs).2=0 then some (eM (mQ (mQ w k.victim (fN (eJ w k.victim)).1) k.worker (fW (eJ w k.worker) xs).1) k x)else none:=rfl
 have hlen:(fN (eJ w k.victim)).2.length≤4294967296:=by
  simp only[fN,uR,kT];have:=gT _ hmv;omega
 generalize hV:eJ w k.victim=vr at *;generalize hW:eJ w k.worker=wr at *;have c1:=aJk g vr (by omega) hmv;simp only[bG]at c1;refine en Tryz.func236 Tryz.ntmps236 Tryz.results236 rfl ⟨⟨rfl,rfl⟩,rfl⟩ ?_;simp only[ZZ,simprocAttr,i64];refine rg fun K hK=>?_;simp only[ZZ,simprocAttr,i64];apply hK;refine dr [0,1,2,3,5,6,7,8,4,9,10,11,12,13,14,15,16,17,18] (by kernel_rfl) fun K hK=>?_;simp only[ZZ,simprocAttr,i64,WH,hr,v1,v2,List.getElem?_map,hxv,Option.map_some,bG];refine mt c1 Tryz.func282 rfl ⟨⟨rfl,rfl⟩,rfl⟩ rfl ?_;simp only[ZZ,simprocAttr,i64,WH,hr];apply hK;refine aF fun K1 hK1=>?_;generalize hL:(fN vr).2=L at *;generalize (fN vr).1=lft at *;cases L with
 | nil=>
  refine rg fun K hK=>?_;simp only[ZZ,simprocAttr,i64];apply hK;apply aB rfl;refine rg fun K hK=>?_;simp only[ZZ,simprocAttr,i64];apply hK;apply aC;simp only[WX,aM,aI,W1,W5,aL,aO,List.mapM_nil,Option.pure_def];rw[hgh]at hk;exact hk _ _ _ (h.app _) (dP.app _)
 | cons x xs=>
  have c2:=aDc g wr xs (by omega) (by simp at hlen;omega);simp only[bG]at c2;simp only at hgh;generalize hP:(fW wr xs).1=own at *;generalize hE:(fW wr xs).2=er at *;have hb1:nA (xs.length+1) (some (V.int .i64 1)) none=some (1,xs.length+1):=by simpa using qP (xs.length+1) .i64 1 (by omega) (by omega)
  have ht:List.take xs.length (xs.map aS)=xs.map aS:=List.take_of_length_le (by simp);refine rg fun K hK=>?_;simp only[ZZ,simprocAttr,i64];apply hK;apply aD rfl;apply aH;simp only[WX];apply hK1;refine dr [0,1,2,3,5,6,7,8,12,4,9,10,11,13,14,15,16,17,18,19,20] (by kernel_rfl) fun K hK=>?_;simp only[ZZ,simprocAttr,i64,WH,hr,hrl,n1,n2,List.getElem?_map,hxw,Option.map_some,bG,hb1,ht,Nat.add_sub_cancel];refine mt c2 Tryz.func249 rfl ⟨⟨rfl,rfl⟩,rfl⟩ rfl ?_;simp only[ZZ,simprocAttr,i64,WH,hr,hrl];apply hK;refine aF fun K1 hK1=>?_;by_cases h0:er=0
  ·have h0':(er != 0)=false:=by simpa using h0
   rw[if_pos h0]at hgh;refine rg fun K hK=>?_;simp only[ZZ,simprocAttr,i64,h0'];apply hK;apply aD rfl;apply aH;simp only[WX];apply hK1;have e1:=h.app [.row 4 [bG lft] false,.row 4 [bG own] false];have hB1:dP H (H++[.row 4 [bG lft] false,.row 4 [bG own] false]) r:=dP.app _;have hl1:hb (H++[.row 4 [bG lft] false,.row 4 [bG own] false]) H.length=some (.row 4 [bG lft] false):=by rw[dS];rfl
   have hl2:hb (H++[.row 4 [bG lft] false,.row 4 [bG own] false]) (H.length+1)=some (.row 4 [bG own] false):=by rw[bO (n:=H.length) _ 1 rfl];rfl
   obtain⟨H1,hH1⟩:∃ H1,H1=H++[.row 4 [bG lft] false,.row 4 [bG own] false]:=⟨_,rfl⟩;rw[←hH1]at e1 hB1 hl1 hl2;simp only[bG,i64]at hH1;rw[←hH1];clear hH1;have hra:=e1.hr;simp only[iE]at hra;simp only[bG]at hl1 hl2;refine dr [0,1,2,3,4,5,6,7] (by kernel_rfl) fun K hK=>?_;simp only[ZZ,simprocAttr,i64,WH,hra,hl1];refine De g k.victim lft e1 ⟨v1,v2⟩ (by have:=hok.l.1;omega) ?_;intro H2 rv2 e2 hB2;have hB12:=hB1.trans hB2;have hrb:=e2.hr;have hm2:hb H2 (H.length+1)=some (.row 4 [bG own] false):=by
    rw[hB2.2 _ (aE hl2) (by omega)];exact hl2
   simp only[iE]at hrb;simp only[bG]at hm2;simp only[ZZ,simprocAttr,i64,WH];apply hK;refine dr [0,1,2,3,4,5,6,7] (by kernel_rfl) fun K hK=>?_;simp only[ZZ,simprocAttr,i64,WH,hrb,hm2];refine De g k.worker own e2 ⟨n1,by simpa using n2⟩ (by have:=hok.l.1;simp;omega) ?_;intro H3 rv3 e3 hB3;simp only[ZZ,simprocAttr,i64,WH];apply hK;refine rg fun K hK=>?_;simp only[ZZ,simprocAttr,i64,WH];refine Ce g x e3 ⟨n1,by simpa using n3⟩ (by have:=hok.l.2;simpa using(by omega)) ?_;intro H4 cv4 e4 hB4;simp only[ZZ,simprocAttr,i64];apply hK;refine rg fun K hK=>?_;simp only[ZZ,simprocAttr,i64];apply hK;apply aC;simp only[WX,aM,aI,W1,W5,aL,aO,List.mapM_nil,Option.pure_def];rw[hgh]at hk;exact hk _ _ _ e4 ((hB12.trans hB3).trans hB4)
  ·have h0':(er != 0)=true:=by simpa using h0
   rw[if_neg h0]at hgh;refine rg fun K hK=>?_;simp only[ZZ,simprocAttr,i64,h0'];apply hK;apply aB rfl;refine rg fun K hK=>?_;simp only[ZZ,simprocAttr,i64];apply hK;apply aC;simp only[WX,aM,aI,W1,W5,aL,aO,List.mapM_nil,Option.pure_def];rw[hgh]at hk;exact hk _ _ _ (h.app _) (dP.app _)
end
end
section
open Go Go.RowKit
variable (g:Gl)
def fF (w:Wd)(k:Pk):Option Wd:=
 if 0≤k.victim∧k.victim < w.rings.length∧k.victim≠k.worker then
  if k.half then vN w k else if(lD (eJ w k.victim)).2.2 then some (eM (mQ w k.victim (lD (eJ w k.victim)).1) k (lD (eJ w k.victim)).2.1)else none
 else none
def yT (w:Wd)(k:Pk):Wd:=
 if(kS (eJ w k.worker)).2.2 then eM (mQ w k.worker (kS (eJ w k.worker)).1) k (kS (eJ w k.worker)).2.1
 else match fF w k with|some w'=>{w' with steals:=w'.steals+1} | none=>{w with misses:=w.misses+1}
theorem uJ {w:Wd}{n:Int}(h:0≤n∧n < w.rings.length):w.rings[n.toNat]?=some (eJ w n):=by
 have hx:=List.getElem?_eq_getElem (show n.toNat < w.rings.length by omega);rw[hx,eJ,List.getD_eq_getElem?_getD,hx];rfl
section
variable {Q:Ex→List V→aA→Prop}{dst:Option Tmp}{T:List V}{H:aA}{KK:List V→aA→Prop}{r:Nat}{w:Wd}{k:Pk}{rv cv:V}
theorem aMi (h:WkH H r w k (.imm (w.rings.map bG)) cv)(hok:WOk w k)
 (hk:∀ H' rv' cv',WkH H' r ((fF w k).getD w) k rv' cv'→dP H H' r→KK (put T dst (.bool (fF w k).isSome)) H') :
 aZ (Eg g) (FW (Eg g)) 173 [.ptr r 0 0] dst T H KK Q:=by
 have hr:=h.hr;have hrl:=aE hr;simp only[iE]at hr;obtain⟨n1,n2,n3⟩:=hok.n;refine en Tryz.func173 Tryz.ntmps173 Tryz.results173 rfl ⟨⟨rfl,rfl⟩,rfl⟩ ?_;simp only[ZZ,simprocAttr,i64];refine rg fun K hK=>?_;simp only[ZZ,simprocAttr,i64];apply hK;refine aF fun K1 hK1=>?_;by_cases h1:k.victim < 0
 ·have e:fF w k=none:=by rw[fF,if_neg (by omega)]
  refine dr [0,1,2,3,4,5,6,7,8,9,10,12,13,14,15,11,16,17,18,19,20,21,22,23,24,26,27,28,29,25,30,31,32] (by kernel_rfl) fun K hK=>?_;simp only[ZZ,simprocAttr,i64,WH,hr,h1];apply hK;apply aB rfl;refine rg fun K hK=>?_;simp only[ZZ,simprocAttr,i64];apply hK;apply aC;simp only[WX,aM,aI,W1,W5,aL,aO,List.mapM_nil,Option.pure_def];rw[e]at hk;exact hk _ _ _ h dP.refl
 have h1':0≤k.victim:=by omega
 by_cases h2:(w.rings.length:Int)≤k.victim
 ·have e:fF w k=none:=by rw[fF,if_neg (by omega)]
  refine dr [0,1,2,3,4,5,6,7,8,9,10,12,13,14,15,11,16,17,18,19,20,21,22,23,24,26,27,28,29,25,30,31,32] (by kernel_rfl) fun K hK=>?_;simp only[ZZ,simprocAttr,i64,WH,hr,h1,h2];apply hK;apply aB rfl;refine rg fun K hK=>?_;simp only[ZZ,simprocAttr,i64];apply hK;apply aC;simp only[WX,aM,aI,W1,W5,aL,aO,List.mapM_nil,Option.pure_def];rw[e]at hk;exact hk _ _ _ h dP.refl
 have h2':k.victim < w.rings.length:=by omega
 by_cases h3:k.victim=k.worker
 ·have e:fF w k=none:=by rw[fF,if_neg (by omega)]
  have h3':(k.victim == k.worker)=true:=by simpa using h3
  refine dr [0,1,2,3,4,5,6,7,8,9,10,12,13,14,15,11,16,17,18,19,20,21,22,23,24,26,27,28,29,25,30,31,32] (by kernel_rfl) fun K hK=>?_;simp only[ZZ,simprocAttr,i64,WH,hr,h1,h2,h3'];apply hK;apply aB rfl;refine rg fun K hK=>?_;simp only[ZZ,simprocAttr,i64];apply hK;apply aC;simp only[WX,aM,aI,W1,W5,aL,aO,List.mapM_nil,Option.pure_def];rw[e]at hk;exact hk _ _ _ h dP.refl
 have h3':(k.victim == k.worker)=false:=by simpa using h3
 have e0:fF w k=if k.half then vN w k else if(lD (eJ w k.victim)).2.2 then some (eM (mQ w k.victim (lD (eJ w k.victim)).1) k (lD (eJ w k.victim)).2.1)else none:=by
  rw[fF,if_pos ⟨h1',h2',h3⟩]
 refine dr [0,1,2,3,4,5,6,7,8,9,10,12,13,14,15,11,16,17,18,19,20,21,22,23,24,26,27,28,29,25,30,31,32] (by kernel_rfl) fun K hK=>?_;simp only[ZZ,simprocAttr,i64,WH,hr,h1,h2,h3'];apply hK;apply aD rfl;apply aH;simp only[WX];apply hK1;refine aF fun K2 hK2=>?_;cases hh:k.half
 ·rw[hh]at e0 hr;simp only[Bool.false_eq_true,if_false]at e0;refine rg fun K hK=>?_;simp only[ZZ,simprocAttr,i64,WH,hr];apply hK;apply aD rfl;apply aH;simp only[WX];apply hK2;have hxv:=uJ ⟨h1',h2'⟩;have hbv:=hok.b _ (List.mem_of_getElem? hxv);generalize eJ w k.victim=vr at *;have c1:=aJv g vr (by omega);simp only[xQ,bG,aS]at c1;generalize hX:lD vr=X at *;obtain⟨x1,x2,x3⟩:=X;simp only at c1 e0;refine td (fun _=>True) (OT.of [0,1,2,3,4,5,6,7,8,9,10,11,12,13,14,15,16] (.two 17 (OT.of [18,19,20,21] .nil) 18 (OT.of [17,19,20,21] .nil))) [] (by kernel_rfl) fun K hK=>?_;have fin:∀ H1 T' c3 c4,WkH H1 r w k (.imm (w.rings.map bG)) cv→dP H H1 r→hb H1 c3=some (.row 4 [bG x1] false)→hb H1 c4=some (.row 2 [aS x2] false)→c3≠r→c4≠r→gt T' 0 = .ptr r 0 0→gt T' 3 = .ptr c3 0 0→gt T' 4 = .ptr c4 0 0→gt T' 5 = .bool x3→T'.length=76→K T' H1:=by
   intro H1 T' c3 c4 a1 a2 a3 a4 n3' n4' b0 b3 b4 b5 hT;have hr1:=a1.hr;have hrl1:=aE hr1;simp only[iE]at hr1;simp only[bG]at a3;simp only[aS]at a4;apply hK;rw[eW 76 T' hT];simp only[show List.range 76=[0,1,2,3,4,5,6,7,8,9,10,11,12,13,14,15,16,17,18,19,20,21,22,23,24,25,26,27,28,29,30,31,32,33,34,35,36,37,38,39,40,41,42,43,44,45,46,47,48,49,50,51,52,53,54,55,56,57,58,59,60,61,62,63,64,65,66,67,68,69,70,71,72,73,74,75]from rfl,List.map_cons,List.map_nil,b0,b3,b4,b5];refine aF fun K3 hK3=>?_;cases x3 with
   | true=>
    simp only[if_true]at e0;refine rg fun K hK=>?_;simp only[ZZ,simprocAttr,i64];apply hK;apply aB rfl;refine dr [0,1,2,3,4,5,6,7] (by kernel_rfl) fun K hK=>?_;simp only[ZZ,simprocAttr,i64,WH,hr1,a3];refine De g k.victim x1 a1 ⟨h1',h2'⟩ (by have:=hok.l.1;omega) ?_;intro H2 rv2 d1 d2;have d4:hb H2 c4=some (.row 2 [aS x2] false):=by rw[d2.2 _ (aE a4) n4'];exact a4
    simp only[aS]at d4;simp only[ZZ,simprocAttr,i64];apply hK;refine rl fun K hK=>?_;simp only[ZZ,simprocAttr,i64,WH,d4];refine Ce g x2 d1 ⟨n1,by simpa using n3⟩ (by have:=hok.l.2;simpa using(by omega)) ?_;intro H3 cv3 f1 f2;simp only[ZZ,simprocAttr,i64];apply hK;try simp only[WX]
    apply hK3;try clear hK3 K3
    refine rg fun K hK=>?_;simp only[ZZ,simprocAttr,i64];apply hK;apply aC;simp only[WX,aM,aI,W1,W5,aL,aO,List.mapM_nil,Option.pure_def];rw[e0]at hk;exact hk _ _ _ f1 ((a2.trans d2).trans f2)
   | false=>
    simp only[Bool.false_eq_true,if_false]at e0;refine rg fun K hK=>?_;simp only[ZZ,simprocAttr,i64];apply hK;apply aD rfl;apply aH;simp only[WX];apply hK3;try clear hK3 K3
    refine rg fun K hK=>?_;simp only[ZZ,simprocAttr,i64];apply hK;apply aC;simp only[WX,aM,aI,W1,W5,aL,aO,List.mapM_nil,Option.pure_def];rw[e0]at hk;exact hk _ _ _ a1 a2
  simp only[ZZ,simprocAttr,i64,WH,hr,h1',h2',List.getElem?_map,hxv,Option.map_some,bG];refine mt c1 Tryz.func237 rfl ⟨⟨rfl,rfl⟩,rfl⟩ rfl ?_;simp only[ZZ,simprocAttr,i64,WH,hr,hrl,lQ 237 ⟨rfl,rfl⟩];refine⟨fin _ _ _ _ (h.app _) (dP.app _) ?_ ?_ (by omega) (by omega) rfl rfl rfl rfl rfl,fin _ _ _ _ (h.app _) (dP.app _) ?_ ?_ (by omega) (by omega) rfl rfl rfl rfl rfl⟩
  ·rw[cM (n:=H.length) _ rfl];rfl
  ·rw[bO (n:=H.length) _ 1 rfl];rfl
  ·rw[bO (n:=H.length) _ 1 rfl];rfl
  ·rw[cM (n:=H.length) _ rfl];rfl
 ·rw[hh]at e0 hr;simp only[if_true]at e0;refine rg fun K hK=>?_;simp only[ZZ,simprocAttr,i64,WH,hr];apply hK;apply aB rfl;refine rg fun K hK=>?_;simp only[ZZ,simprocAttr,i64];refine aMe g h hok ⟨h1',h2'⟩ ?_;intro H2 rv2 cv2 a1 a2;simp only[ZZ,simprocAttr,i64];apply hK;apply aC;simp only[WX,aM,aI,W1,W5,aL,aO,List.mapM_nil,Option.pure_def];rw[e0]at hk;exact hk _ _ _ a1 a2
theorem aTd (h:WkH H r w k (.imm (w.rings.map bG)) cv)(hok:WOk w k)(hcn : -4611686018427387904≤w.steals∧w.steals≤4611686018427387904∧-4611686018427387904≤w.misses∧w.misses≤4611686018427387904)
 (hk:∀ H' rv' cv',WkH H' r (yT w k) k rv' cv'→dP H H' r→KK (put T dst (.tup [])) H') :
 aZ (Eg g) (FW (Eg g)) 88 [.ptr r 0 0] dst T H KK Q:=by
 have hr:=h.hr;have hrl:=aE hr;simp only[iE]at hr;obtain⟨n1,n2,n3⟩:=hok.n;have e0:yT w k=if(kS (eJ w k.worker)).2.2 then eM (mQ w k.worker (kS (eJ w k.worker)).1) k (kS (eJ w k.worker)).2.1 else match fF w k with|some w'=>{w' with steals:=w'.steals+1} | none=>{w with misses:=w.misses+1}:=rfl
 have hxv:=uJ (w:=w) (n:=k.worker) ⟨n1,n2⟩;have hbv:=hok.b _ (List.mem_of_getElem? hxv);have est:∀ w',fF w k=some w'→w'.steals=w.steals:=by
  intro w' e;unfold fF at e;split at e
  ·split at e
   ·unfold vN at e;split at e
    ·cases e
    ·split at e
     ·cases e;rfl
     ·cases e
   ·split at e
    ·cases e;rfl
    ·cases e
  ·cases e
 generalize eJ w k.worker=vr at *;have c1:=aKf g vr (by omega);simp only[xQ,bG,aS]at c1;generalize hX:kS vr=X at *;obtain⟨x1,x2,x3⟩:=X;simp only at c1 e0;have w1:IntKind.i64.wrap (w.steals+1)=w.steals+1:=IntWalk.i64_in _ (by omega);have w2:IntKind.i64.wrap (w.misses+1)=w.misses+1:=IntWalk.i64_in _ (by omega);refine en Tryz.func88 Tryz.ntmps88 Tryz.results88 rfl ⟨⟨rfl,rfl⟩,rfl⟩ ?_;simp only[ZZ,simprocAttr,i64];refine td (fun _=>True) (OT.of [0,1,2,3,4,5,6,7,8,9,10,11,12,13,14,15,16] (.two 17 (OT.of [18,19,20,21] .nil) 18 (OT.of [17,19,20,21] .nil))) [] (by kernel_rfl) fun K hK=>?_;have fin:∀ H1 T' c3 c4,WkH H1 r w k (.imm (w.rings.map bG)) cv→dP H H1 r→hb H1 c3=some (.row 4 [bG x1] false)→hb H1 c4=some (.row 2 [aS x2] false)→c3≠r→c4≠r→gt T' 0 = .ptr r 0 0→gt T' 2 = .ptr c3 0 0→gt T' 3 = .ptr c4 0 0→gt T' 4 = .bool x3→T'.length=56→K T' H1:=by
  intro H1 T' c3 c4 a1 a2 a3 a4 n3' n4' b0 b3 b4 b5 hT;have hr1:=a1.hr;have hrl1:=aE hr1;simp only[iE]at hr1;simp only[bG]at a3;simp only[aS]at a4;apply hK;try clear hK K
  rw[eW 56 T' hT];simp only[show List.range 56=[0,1,2,3,4,5,6,7,8,9,10,11,12,13,14,15,16,17,18,19,20,21,22,23,24,25,26,27,28,29,30,31,32,33,34,35,36,37,38,39,40,41,42,43,44,45,46,47,48,49,50,51,52,53,54,55]from rfl,List.map_cons,List.map_nil,b0,b3,b4,b5];refine aT ?_;cases x3 with
  | true=>
   simp only[if_true]at e0;refine rg fun K hK=>?_;simp only[ZZ,simprocAttr,i64];apply hK;try clear hK K
   apply aB rfl;refine dr [0,1,2,3,4,5,6,7] (by kernel_rfl) fun K hK=>?_;simp only[ZZ,simprocAttr,i64,WH,hr1,a3];refine De g k.worker x1 a1 ⟨n1,n2⟩ (by have:=hok.l.1;omega) ?_;intro H2 rv2 d1 d2;have d4:hb H2 c4=some (.row 2 [aS x2] false):=by rw[d2.2 _ (aE a4) n4'];exact a4
   simp only[aS]at d4;simp only[ZZ,simprocAttr,i64];apply hK;try clear hK K
   refine rl fun K hK=>?_;simp only[ZZ,simprocAttr,i64,WH,d4];refine Ce g x2 d1 ⟨n1,by simpa using n3⟩ (by have:=hok.l.2;simpa using(by omega)) ?_;intro H3 cv3 f1 f2;simp only[ZZ,simprocAttr,i64];apply hK;try clear hK K
   try simp only[WX]
   simp only[WX,bF,aI,W5,List.mapM_nil,Option.pure_def];rw[e0]at hk;exact hk _ _ _ f1 ((a2.trans d2).trans f2)
  | false=>
   simp only[Bool.false_eq_true,if_false]at e0;refine rg fun K hK=>?_;simp only[ZZ,simprocAttr,i64];apply hK;try clear hK K
   apply aD rfl;refine rg fun K hK=>?_;simp only[ZZ,simprocAttr,i64];refine aMi g a1 hok ?_;intro H2 rv2 cv2 d1 d2;have hr2:=d1.hr;have hrl2:=aE hr2;simp only[iE]at hr2;cases hs:fF w k with
   | some w'=>
    rw[hs]at d1 hr2 e0;have es:=est w' hs;simp only[Option.getD_some]at d1 hr2 e0;simp only[ZZ,simprocAttr,i64];apply hK;try clear hK K
    apply aB rfl;refine rl fun K hK=>?_;simp only[ZZ,simprocAttr,i64,WH,hr2,hrl2,es,w1];apply hK;try clear hK K
    try simp only[WX]
    simp only[WX,bF,aI,W5,List.mapM_nil,Option.pure_def];rw[e0]at hk;have:=d1.set (w':={w' with steals:=w'.steals+1}) rfl rfl;rw[es]at this hk;exact hk _ _ _ this.1 ((a2.trans d2).trans this.2)
   | none=>
    rw[hs]at d1 hr2 e0;simp only[Option.getD_none]at d1 hr2 e0;simp only[ZZ,simprocAttr,i64];apply hK;try clear hK K
    apply aD rfl;refine rl fun K hK=>?_;simp only[ZZ,simprocAttr,i64,WH,hr2,hrl2,w2];apply hK;try clear hK K
    try simp only[WX]
    simp only[WX,bF,aI,W5,List.mapM_nil,Option.pure_def];rw[e0]at hk;have:=d1.set (w':={w with misses:=w.misses+1}) rfl rfl;exact hk _ _ _ this.1 ((a2.trans d2).trans this.2)
 simp only[ZZ,simprocAttr,i64,WH,hr,n1,n2,List.getElem?_map,hxv,Option.map_some,bG];refine mt c1 Tryz.func170 rfl ⟨⟨rfl,rfl⟩,rfl⟩ rfl ?_;simp only[ZZ,simprocAttr,i64,WH,hr,hrl,lQ 170 ⟨rfl,rfl⟩];refine⟨fin _ _ _ _ (h.app _) (dP.app _) ?_ ?_ (by omega) (by omega) rfl rfl rfl rfl rfl,fin _ _ _ _ (h.app _) (dP.app _) ?_ ?_ (by omega) (by omega) rfl rfl rfl rfl rfl⟩
 ·rw[cM (n:=H.length) _ rfl];rfl
 ·rw[bO (n:=H.length) _ 1 rfl];rfl
 ·rw[bO (n:=H.length) _ 1 rfl];rfl
 ·rw[cM (n:=H.length) _ rfl];rfl
end
end
end Go.Proofs.YtaimmacnafoanaaGreatDoor.F
