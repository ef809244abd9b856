/- The plain semantics of the program, and what it computes. -/
import Derived.Calls
import Derived.Orders
import Derived.Below
import Derived.WalkKit
import Derived.Laws.ComplexArith
import Derived.Laws.CopyRow
import Derived.Deep.MidRow
import Derived.Laws.AppendOwn
import Derived.Laws.MakeOwn
import Derived.Laws.IdiomStrings
import Derived.Laws.Append
import Derived.Laws.BytesString
import Derived.MapKept
import Derived.RangeFuncRecord
import Derived.Tactics
import Derived.ScopeJumps
set_option linter.unusedVariables false
set_option linter.unusedSimpArgs false
set_option maxRecDepth 100000
namespace Go.Proofs.YtaimmacnafoanaaGreatDoor.F
section
open Go Go.RowKit
inductive V where
 | bool (b:Bool)
 | int (k:IntKind) (n:Int)
 | str (s:List UInt8)
 | flt (b:Nat)
 | cpx (a b:Nat)
 | nilp
 | ptr (b i j:Nat)
 | ip (e:V) (j:Nat)
 | nils
 | sl (b i n:Nat)
 | imm (es:List V)
 | fn (f:FuncId) (first cap:List V)
 | nilf
 | iface (t:TypeId) (v:V)
 | nili
 | nilm
 | agg (cs:List V)
 | tup (vs:List V)
 | mp (b:Nat)
 | glob (g:Nat)
 | any
 deriving Inhabited
abbrev V.i64 (n:Int):V:=.int .i64 n
abbrev J (n:Int):V:=.int .i64 n
def V.cells:V→List V
 | .agg cs=>cs
 | v=>[v]
abbrev undef:V:=.tup []
def V.fit:V→Bool
 | .any | .tup _=>false
 | _=>true
inductive Blk where
 | row (s:Nat) (es:List V) (ro:Bool)
 | maps (es:List ((Int×Int)×V))
 | bld (t:TypeId) (bs:List UInt8)
 | dead
 deriving Inhabited
abbrev aA:=List Blk
def qR (t:TypeId):Bool:=t == 88 || t == 90
inductive TD where
 | bool|int (k:IntKind)|str|flt (k:FloatKind)
 | struct (fs:List (Nat×TypeId))
 | arr (n:Nat) (e:TypeId)
 | slice (e:TypeId)
 | ptr|func|iface (m:Bool)|map (k e:TypeId)|other
 deriving Inhabited
structure TI where
 desc:TD
 size:Nat
 bytes:Nat
 zero:V
 eq:Bool
 deriving Inhabited
abbrev cR:=TypeId→TI
def TI.isAgg (t:TI):Bool:=match t.desc with | .struct _=>true | .arr ..=>true|_=>false
def TI.known (t:TI):Bool:=match t.desc with | .other=>false|_=>true
mutual
def cD:Value→V
 | .bool b => .bool b
 | .int k n => .int k n
 | .string s => .str s.data.toList
 | .float .f64 n => .flt n
 | .complex .f64 a b => .cpx a b
 | .pointer none => .nilp
 | .slice none 0 0 => .nils
 | .nilFunc => .nilf
 | .nilIface => .nili
 | .map none => .nilm
 | .agg cs=>if cs.toList.all (·.oneCell')then .agg (ofArr cs)else .any
 | .tuple cs => .tup (ofArr cs)
 | _ => .any
def ofArr:Array Value→List V
 | ⟨l⟩=>ofLst l
def ofLst:List Value→List V
 | []=>[]
 | v::l=>cD v::ofLst l
end
def ev (T:List V):Operand→V
 | .tmp t=>T.getD t undef
 | .const v=>cD v
 | .global g => .glob g
 | .func f => .fn f [] []
def put (T:List V)(d:Option Tmp)(v:V):List V:=match d with|some d=>T.set d v|none=>T
def sC:List V→Nat→List V→List V
 | l,_,[]=>l
 | [],_,_::_=>[]
 | _::l,0,v::vs=>v::sC l 0 vs
 | c::l,j+1,v::vs=>c::sC l j (v::vs)
def tF (H:aA):V→Option (V×Nat)
 | .ptr b i j=>match H[b]? with
  | some (.row _ es _)=>match es[i]? with
   | some e=>some (e,j)
   | none=>none
  | _=>none
 | .ip e j=>some (e,j)
 | _=>none
def Fa (t:TI)(cs:List V)(j:Nat):Option V:=
 if t.known then
  if t.isAgg then if j+t.size≤cs.length then some (.agg ((cs.drop j).take t.size))else none
  else cs[j]?
 else none
def rJ (tab:cR)(H:aA)(t:TypeId)(p:V):Option V:=
 match tF H p with
 | some (e,j)=>Fa (tab t) e.cells j
 | none=>none
def Ls (e:V)(j:Nat)(v:V):V:=if j=0∧v.cells.length=e.cells.length then v else .agg (sC e.cells j v.cells)
def Ks (tab:cR)(H:aA)(t:TypeId)(p v:V):Option aA:=
 match p with
 | .ptr b i j=>match H[b]? with
  | some (.row s es false)=>match es[i]? with
   | some e=>if(tab t).known=true∧v.cells.length=(tab t).size∧j+v.cells.length≤e.cells.length then some (H.set b (.row s (es.set i (Ls e j v)) false))else none
   | none=>none
  | _=>none
 | _=>none
def dZ (H:aA)(b:Nat):Option Nat:=match H[b]? with|some (.row s _ _)=>some s|_=>none
def bS (H:aA):V→Option (List V)
 | .sl b i n=>match H[b]? with
  | some (.row _ es _)=>if i+n≤es.length then some ((es.drop i).take n)else none
  | _=>none
 | .imm es=>some es
 | .nils=>some []
 | .str s=>some (s.map fun c => .int .u8 c.toNat)
 | _=>none
def pJ:V→Option Nat
 | .sl _ _ n=>some n
 | .imm es=>some es.length
 | .nils=>some 0
 | .str s=>some s.length
 | _=>none
def dA:TypeDesc→TD
 | .bool => .bool
 | .int k => .int k
 | .string => .str
 | .float k => .flt k
 | .struct fs => .struct (fs.toList.map fun f=>(f.offset,f.type))
 | .array n e => .arr n e
 | .slice e => .slice e
 | .pointer _ => .ptr
 | .func .. => .func
 | .interface ms => .iface (!ms.isEmpty)
 | .map k e => .map k e
 | _ => .other
inductive FO where
 | val (v:V) (H:aA)
 | call (f:FuncId) (args:List V)
 | panic (v:V)
 | stuck
 deriving Inhabited
def FO.of (v:Option V)(H:aA):FO:=match v with|some v => .val v H|none => .stuck
def FO.unit (H:Option aA):FO:=match H with|some H => .val undef H|none => .stuck
def gW:List V→Option (List Int)
 | []=>some []
 | .int .i64 n::l=>match gW l with|some r=>some (n::r)|none=>none
 | _::_=>none
def yR (op:BinOp)(k:IntKind)(a b:Int):Option V:=
 match op with
 | .add=>some (.int k (k.wrap (a+b)))
 | .sub=>some (.int k (k.wrap (a - b)))
 | .mul=>some (.int k (k.wrap (a*b)))
 | .quo=>if b=0 then none else some (.int k (k.wrap (a.tdiv b)))
 | .rem=>if b=0 then none else some (.int k (a.tmod b))
 | .and=>some (.int k (k.wrap (BitVec.ofInt k.bits a &&& BitVec.ofInt k.bits b).toNat))
 | .or=>some (.int k (k.wrap (BitVec.ofInt k.bits a ||| BitVec.ofInt k.bits b).toNat))
 | .xor=>some (.int k (k.wrap (BitVec.ofInt k.bits a ^^^ BitVec.ofInt k.bits b).toNat))
 | .eql=>some (.bool (a == b))
 | .neq=>some (.bool (a != b))
 | .lss=>some (.bool (decide (a < b)))
 | .leq=>some (.bool (decide (a≤b)))
 | .gtr=>some (.bool (decide (b < a)))
 | .geq=>some (.bool (decide (b≤a)))
 | _=>none
def tJ (op:BinOp)(k:IntKind)(a b:Int):Option V:=
 if b < 0 then none else
 match op with
 | .shl=>some (.int k (k.wrap (a*2 ^ (min b.toNat k.bits))))
 | .shr=>some (.int k (a.fdiv (2 ^ (min b.toNat k.bits))))
 | _=>none
def Zi (op:BinOp)(a b:List UInt8):Option V:=
 match op with
 | .add=>if a.length+b.length≤1099511627776 then some (.str (a++b))else none
 | .eql=>some (.bool (a == b))
 | .neq=>some (.bool !(a == b))
 | _=>none
def Vt:TD→V→V→Option Bool
 | .ptr,.nilp,.nilp=>some true
 | .ptr,.ptr ..,.nilp=>some false
 | .ptr,.ip ..,.nilp=>some false
 | .slice _,.nils,.nils=>some true
 | .slice _,.sl _ _ (_+1),.nils=>some false
 | .slice _,.imm (_::_),.nils=>some false
 | .func,.nilf,.nilf=>some true
 | .func,.fn ..,.nilf=>some false
 | .iface _,.nili,.nili=>some true
 | .iface _,.iface ..,.nili=>some false
 | _,_,_=>none
def nM:Operand→Bool
 | .const _=>true
 | _=>false
def dL (tab:cR)(op:BinOp)(t:TypeId)(x y:V)(nilOk:Bool):Option V:=
 match op,x,y with
 | .shl,.int k a,.int _ b=>tJ .shl k a b
 | .shr,.int k a,.int _ b=>tJ .shr k a b
 | op,.int k a,.int k' b=>if k=k' then yR op k a b else none
 | op,.str a,.str b=>Zi op a b
 | .eql,.bool a,.bool b=>match(tab t).desc with | .bool=>some (.bool (a == b))|_=>none
 | .neq,.bool a,.bool b=>match(tab t).desc with | .bool=>some (.bool (!(a == b)))|_=>none
 | .eql,.agg xs,.agg ys=>match gW xs,gW ys with
  | some p,some q=>if(tab t).eq=true∧p.length=(tab t).size∧q.length=(tab t).size then some (.bool (decide (p=q)))else none
  | _,_=>none
 | .neq,.agg xs,.agg ys=>match gW xs,gW ys with
  | some p,some q=>if(tab t).eq=true∧p.length=(tab t).size∧q.length=(tab t).size then some (.bool (!decide (p=q)))else none
  | _,_=>none
 | .add,.cpx a b,.cpx c d=>(cSumBits .add .f64 a b c d).map fun p => .cpx p.1 p.2
 | .sub,.cpx a b,.cpx c d=>(cSumBits .sub .f64 a b c d).map fun p => .cpx p.1 p.2
 | .mul,.cpx a b,.cpx c d=>(cMulBits a b c d).map fun p => .cpx p.1 p.2
 | .eql,.cpx a b,.cpx c d=>some (.bool (Op.floatEq .f64 a c && Op.floatEq .f64 b d))
 | .eql,x,y=>if nilOk then(match Vt (tab t).desc x y with|some b=>some (.bool b)|none=>none)else none
 | .neq,x,y=>if nilOk then(match Vt (tab t).desc x y with|some b=>some (.bool !b)|none=>none)else none
 | _,_,_=>none
def unV (op:UnOp)(x:V):Option V:=
 match op,x with
 | .neg,.int k n=>some (.int k (k.wrap (0 - n)))
 | .xor,.int k n=>some (.int k (k.wrap (BitVec.ofInt k.bits (if k.signed then -1 else k.max) ^^^ BitVec.ofInt k.bits n).toNat))
 | .not,.bool b=>some (.bool !b)
 | .neg,.flt b=>some (.flt (Op.negFloat .f64 b))
 | _,_=>none
def gD:List V→Option (List UInt8)
 | []=>some []
 | .int .u8 n::l=>(gD l).map (UInt8.ofNat n.toNat :: ·)
 | _::_=>none
def eF (place:Nat→Option (Nat×Nat)):List V→List (Nat×V)→Option (List V)
 | cs,[]=>some cs
 | cs,(i,v)::r=>match place i with
  | some (off,size)=>if v.fit=true∧v.cells.length=size∧off+size≤cs.length then eF place (sC cs off v.cells) r else none
  | none=>none
def fieldPlace (tab:cR)(fs:List (Nat×TypeId))(i:Nat):Option (Nat×Nat):=(fs[i]?).map fun f=>(f.1,(tab f.2).size)
def gP (size len:Nat):List V→List (Nat×V)→Option (List V)
 | es,[]=>some es
 | es,(i,v)::r=>if v.fit=true∧v.cells.length=size∧i < len then gP size len (es.set i v) r else none
def nA (n:Nat)(lo hi:Option V):Option (Nat×Nat):=
 match(match hi with|some (.int _ h)=>if 0≤h∧h≤n then some h.toNat else none|none=>some n|_=>none)with
 | some h=>match(match lo with|some (.int _ l)=>if 0≤l∧l≤h then some l.toNat else none|none=>some 0|_=>none)with
  | some l=>some (l,h)
  | none=>none
 | none=>none
def aQ (s:Nat)(xs:List V):Bool:=xs.all fun e=>e.cells.length == s
def TI.row (t:TI):Bool:=match t.desc with | .slice _=>true | .str=>true|_=>false
def hC (tab:cR)(H:aA)(t u:TypeId)(s x:V):FO:=
 if(tab u).row then
 match(tab t).desc with
 | .slice e=>match bS H x with
  | some xs=>
   if(tab e).known=true∧(tab e).bytes≤4096∧aQ (tab e).size xs=true then
   match s with
   | .nils=>if xs.length=0 then .val .nils H else if xs.length≤1073741824 then .val (.sl H.length 0 xs.length) (H++[.row (tab e).size xs false])else .stuck
   | .sl b i n=>match H[b]? with
    | some (.row sz es false)=>if sz=(tab e).size∧i+n≤es.length∧n+xs.length≤1073741824 then
     .val (.sl H.length 0 (n+xs.length)) (H.set b .dead++[.row sz ((es.drop i).take n++xs) false])else .stuck
    | _ => .stuck
   | _ => .stuck
   else .stuck
  | none => .stuck
 | _ => .stuck
 else .stuck
def mX (tab:cR)(H:aA)(t:TypeId)(d x:V):FO:=
 match(tab t).desc,bS H x with
 | .slice e,some xs=>match d with
  | .sl b i n=>match H[b]? with
   | some (.row sz es false)=>if(tab e).known=true∧sz=(tab e).size∧i+n≤es.length∧aQ (tab e).size xs=true then
    .val (.int .i64 (min xs.length n:Nat)) (H.set b (.row sz (es.take i++(xs.take n++es.drop (i+min xs.length n))) false))else .stuck
   | _ => .stuck
  | _ => .stuck
 | _,_ => .stuck
def V.isStr:V→Bool
 | .str _=>true
 | _=>false
def Gz (tab:cR)(t:TypeId)(x:V):Option V:=
 match(tab t).desc with
 | .slice _=>match pJ x with|some n=>if x.isStr then none else some (.int .i64 n)|none=>none
 | .str=>match pJ x with|some n=>if x.isStr then some (.int .i64 n)else none|none=>none
 | .arr n _=>some (.int .i64 n)
 | _=>none
def kF (f:Int→Int→Int):List V→Option V
 | [.int k a,.int k' b]=>if k=k' then some (.int k (f a b))else none
 | _=>none
def aQp (tab:cR)(t:TypeId)(x:V):Option V:=
 match(tab t).desc,x with
 | .slice _,.nils=>some (.int .i64 0)
 | _,_=>none
def dB (tab:cR)(H:aA)(ρ:Operand→V)(c:Call):FO:=
 match c.callee with
 | .value g=>match ρ g with
  | .fn f first cap => .call f (first++c.args.toList.map ρ++cap)
  | _ => .stuck
 | .invoke .. => .stuck
 | .builtin b=>match b,c.args.toList.map ρ,c.argTypes.toList with
  | .append,[s,x],[t,u]=>hC tab H t u s x
  | .copy,[d,x],[t,_]=>mX tab H t d x
  | .len,[x],[t] => .of (Gz tab t x) H
  | .max,l,_ => .of (kF (fun x y=>if y > x then y else x) l) H
  | .min,l,_ => .of (kF (fun x y=>if y < x then y else x) l) H
  | .real,[.cpx a _],_ => .val (.flt a) H
  | .imag,[.cpx _ b],_ => .val (.flt b) H
  | .complex,[.flt a,.flt b],_ => .val (.cpx a b) H
  | .panic,[.iface t v],_ => .panic (.iface t v)
  | .cap,[x],[t] => .of (aQp tab t x) H
  | _,_,_ => .stuck
def mY (tab:cR)(H:aA)(src dst:TypeId)(x:V):FO:=
 match(tab src).desc,(tab dst).desc,x with
 | .int _,.int k,.int _ n => .val (.int k (k.wrap n)) H
 | .int _,.flt .f64,.int _ n => .val (.flt (FloatKind.f64.nearest n)) H
 | .flt _,.int k,.flt b => .of ((floatToIntVal .f64 b k).map (.int k)) H
 | .str,.str,.str s => .val (.str s) H
 | .str,.slice e,.str s=>match(tab e).desc with
  | .int .u8 => .val (.sl H.length 0 s.length) (H++[.row 1 (s.map fun c => .int .u8 c.toNat) false])
  | _ => .stuck
 | .slice e,.str,x=>if x.isStr then .stuck else match(tab e).desc,bS H x with
  | .int .u8,some es => .of ((gD es).map .str) H
  | _,_ => .stuck
 | _,_,_ => .stuck
def mkE (k:Nat)(cs:List V):V:=if k=1 then cs.headD undef else .agg cs
def jU (k:Nat):Nat→List V→List V
 | 0,_=>[]
 | n+1,cs=>mkE k (cs.take k)::jU k n (cs.drop k)
def Rj:V→Bool
 | .agg _=>false
 | _=>true
def Pb (tab:cR)(H:aA)(n:Nat)(e:TypeId)(b:Nat):FO:=match H[b]? with
 | some (.row s [el] false)=>if(tab e).known=true∧1≤(tab e).size∧s=n*(tab e).size∧el.cells.all Rj=true then .val (.sl H.length 0 n) (H.set b .dead++[.row (tab e).size (jU (tab e).size n el.cells) false])else .stuck
 | _ => .stuck
mutual
def flat:V→Bool
 | .bool _ | .int .. | .str _ | .nilp | .nils | .nilf | .nili | .nilm | .flt _ | .cpx ..=>true
 | .fn _ [] []=>true
 | .agg l=>flatL l
 | .tup l=>flatL l
 | .iface _ v=>flat v
 | _=>false
def flatL:List V→Bool
 | []=>true
 | v::l=>flat v && flatL l
end
def Jd:List ((Int×Int)×V)→Int×Int→Option V
 | [],_=>none
 | (k,v)::l,q=>if k=q then some v else Jd l q
def uT:List ((Int×Int)×V)→Int×Int→V→List ((Int×Int)×V)
 | [],q,x=>[(q,x)]
 | (k,v)::l,q,x=>if k=q then(k,x)::l else(k,v)::uT l q x
def mA (tab:cR)(t:TypeId):Option TypeId:=match(tab t).desc with
 | .map 38 e=>(match(tab 38).desc with
  | .struct _=>if(tab 38).eq=true∧(tab 38).known=true∧(tab 38).size=2∧(tab e).known=true then some e else none
  | _=>none)
 | _=>none
def bQ (tab:cR)(T:List V)(H:aA)(op:Op):FO:=
 let ρ:=ev T
 match op with
 | .move x | .assign x => .val (ρ x) H
 | .pick c a b=>match ρ c with | .bool t => .val (if t then ρ a else ρ b) H|_ => .stuck
 | .alloc t=>if qR t then(match(tab t).zero with | .agg [.nilp,.nils]=>if(tab t).known then .val (.ptr H.length 0 0) (H++[.bld t []])else .stuck|_ => .stuck)else if(tab t).known then .val (.ptr H.length 0 0) (H++[.row (tab t).zero.cells.length [(tab t).zero] false])else .stuck
 | .box _ x=>if(ρ x).fit then .val (.ptr H.length 0 0) (H++[.row (ρ x).cells.length [ρ x] false])else .stuck
 | .build t ps=>match(tab t).desc with
  | .struct fs => .of ((eF (fieldPlace tab fs) (tab t).zero.cells (ps.toList.map fun p=>(p.1,ρ p.2))).map .agg) H
  | .arr _ e=>if(tab e).known=false then .stuck else .of ((eF (fun i=>some (i*(tab e).size,(tab e).size)) (tab t).zero.cells (ps.toList.map fun p=>(p.1,ρ p.2))).map .agg) H
  | _ => .stuck
 | .buildSlice t n ps=>match(tab t).desc with
  | .slice e=>if(tab e).known=true∧n*(tab e).size≤16777216 then
   match gP (tab e).size n (List.replicate n (tab e).zero) (ps.toList.map fun p=>(p.1,ρ p.2))with
   | some es => .val (.sl H.length 0 n) (H++[.row (tab e).size es false])
   | none => .stuck
   else .stuck
  | _ => .stuck
 | .load t p => .of (rJ tab H t (ρ p)) H
 | .store t p x=>if(ρ x).fit then .unit (Ks tab H t (ρ p) (ρ x))else .stuck
 | .nilCheck x=>match ρ x with
  | .ptr b i j => .val (.ptr b i j) H
  | .ip e j => .val (.ip e j) H
  | _ => .stuck
 | .binOp op t x y _ => .of (dL tab op t (ρ x) (ρ y) (nM y)) H
 | .unOp op _ x => .of (unV op (ρ x)) H
 | .convert s d x=>mY tab H s d (ρ x)
 | .makeInterface t x=>match(tab t).desc with
  | .iface _ => .stuck
  | .other => .stuck
  | _ => .val (.iface t (ρ x)) H
 | .makeFunc (.func f) first cap => .val (.fn f (first.toList.map ρ) (cap.toList.map ρ)) H
 | .makeSlice t l c=>match(tab t).desc,ρ l,ρ c with
  | .slice e,.int .i64 n,.int .i64 m=>if(tab e).known=true∧n=m∧0≤n∧n≤1073741824∧(tab e).bytes≤4096 then
   .val (.sl H.length 0 n.toNat) (H++[.row (tab e).size (List.replicate n.toNat (tab e).zero) false])else .stuck
  | _,_,_ => .stuck
 | .slice t x lo hi mx=>match mx,nA ((pJ (ρ x)).getD 0) (lo.map ρ) (hi.map ρ)with
  | none,some (l,h)=>match(tab t).desc,ρ x with
   | .str,.str s => .val (.str ((s.drop l).take (h - l))) H
   | .slice e,.sl b i _=>if(tab e).known=true∧dZ H b=some (tab e).size then .val (.sl b (i+l) (h - l)) H else .stuck
   | .slice e,.imm es=>if(tab e).known=true∧aQ (tab e).size es=true then .val (.imm ((es.drop l).take (h - l))) H else .stuck
   | .slice e,.nils=>if(tab e).known=true then .val .nils H else .stuck
   | .arr n e,.ptr b 0 0=>if lo.isSome || hi.isSome then .stuck else Pb tab H n e b
   | _,_ => .stuck
  | _,_ => .stuck
 | .fieldAddr t x f=>match(tab t).desc,(ρ x)with
  | .struct fs,.ptr b i j=>match fs[f]? with
   | some (off,ft)=>if(tab ft).size=0 then .stuck else .val (.ptr b i (j+off)) H
   | none => .stuck
  | .struct fs,.ip e j=>match fs[f]? with
   | some (off,ft)=>if(tab ft).size=0 then .stuck else .val (.ip e (j+off)) H
   | none => .stuck
  | _,_ => .stuck
 | .field t x f=>match(tab t).desc,(ρ x)with
  | .struct fs,.agg cs=>match fs[f]? with
   | some (off,ft) => .of (Fa (tab ft) cs off) H
   | none => .stuck
  | _,_ => .stuck
 | .indexAddr t x ix=>match(tab t).desc,ρ x,ρ ix with
  | .slice e,.sl b i n,.int _ k=>if 0≤k∧k < n∧(tab e).known=true∧dZ H b=some (tab e).size then .val (.ptr b (i+k.toNat) 0) H else .stuck
  | .slice e,.imm es,.int _ k=>if 0≤k then match es[k.toNat]? with
   | some v=>if(tab e).known=true∧v.cells.length=(tab e).size then .val (.ip v 0) H else .stuck
   | none => .stuck
   else .stuck
  | .arr n e,.ptr b i j,.int _ k=>if 0≤k∧k < n∧(tab e).known=true then .val (.ptr b i (j+k.toNat*(tab e).size)) H else .stuck
  | _,_,_ => .stuck
 | .index t x ix=>match(tab t).desc,ρ x,ρ ix with
  | .str,.str s,.int _ k=>if 0≤k then match s[k.toNat]? with
   | some c => .val (.int .u8 c.toNat) H
   | none => .stuck
   else .stuck
  | .arr n e,.agg cs,.int _ k=>if 0≤k∧k < n then .of (Fa (tab e) cs (k.toNat*(tab e).size)) H else .stuck
  | _,_,_ => .stuck
 | .typeAssert x _ t ok=>match(tab t).desc,ρ x with
  | .iface _,_ => .stuck
  | .other,_ => .stuck
  | _,.iface u v=>if u=t then .val (if ok then .tup [v,.bool true]else v) H else if ok then .val (.tup [(tab t).zero,.bool false]) H else .stuck
  | _,_ => .stuck
 | .extract x ix=>match ρ x with
  | .tup vs => .of vs[ix]? H
  | _ => .stuck
 | .call c=>dB tab H ρ c
 | .makeMap t none=>match mA tab t with
  | some _ => .val (.mp H.length) (H++[.maps []])
  | none => .stuck
 | .mapUpdate t m k x=>match mA tab t,ρ m,ρ k with
  | some _,.mp b,.agg [.int .i64 i,.int .i64 j]=>if flat (ρ x)then(match H[b]? with
   | some (.maps es) => .val undef (H.set b (.maps (uT es (i,j) (ρ x))))
   | _ => .stuck)else .stuck
  | _,_,_ => .stuck
 | .lookup t m k true=>match mA tab t,ρ m,ρ k with
  | some e,.mp b,.agg [.int .i64 i,.int .i64 j]=>(match H[b]? with
   | some (.maps es)=>match Jd es (i,j)with
    | some v => .val (.tup [v,.bool true]) H
    | none => .val (.tup [(tab e).zero,.bool false]) H
   | _ => .stuck)
  | _,_,_ => .stuck
 | .panic x=>match ρ x with
  | .iface t v => .panic (.iface t v)
  | _ => .stuck
 | _ => .stuck
end
section
open Go Go.RowKit
def OkA (A:Option Addr):Prop:=A=none∨∃ b o,A=some ⟨b,o,none⟩
theorem OkA.none:OkA none:=.inl rfl
theorem OkA.some (b o:Nat):OkA (some ⟨b,o,Option.none⟩):=.inr ⟨b,o,rfl⟩
mutual
inductive Tv (w:World)(im:Nat→Prop):V→Value→Prop
 | bool (b:Bool):Tv w im (.bool b) (.bool b)
 | int (k:IntKind) (n:Int):Tv w im (.int k n) (.int k n)
 | str (s:List UInt8):Tv w im (.str s) (.string ⟨⟨s⟩⟩)
 | flt (b:Nat):Tv w im (.flt b) (.float .f64 b)
 | cpx (a b:Nat):Tv w im (.cpx a b) (.complex .f64 a b)
 | nilp:Tv w im .nilp (.pointer none)
 | nils:Tv w im .nils (.slice none 0 0)
 | nilf:Tv w im .nilf .nilFunc
 | nili:Tv w im .nili .nilIface
 | nilm:Tv w im .nilm (.map none)
 | imm0 (a:Option Addr) (cap:Nat) (h:a=none→cap=0) (hA:OkA a):Tv w im (.imm []) (.slice a 0 cap)
 | imm (es:List V) (s B O cap:Nat) (cs:List Value) (hne:es≠[]) (hB:im B) (hcap:es.length≤cap) (hs:∀ e∈es,e.cells.length=s)
  (hc:w.rangeAt B O cs)(h1:∀ x∈cs,x.oneCell'=true)(h:TvL w im (es.flatMap V.cells) cs):Tv w im (.imm es) (.slice (some ⟨B,O,none⟩) es.length cap)
 | fn (f:FuncId):Tv w im (.fn f [] []) (.func (.func f) #[] #[])
 | iface (t:TypeId) (v:V) (x:Value) (h:Tv w im v x):Tv w im (.iface t v) (.iface t x)
 | agg (cs:List V) (xs:List Value) (h1:∀ x∈xs,x.oneCell'=true) (h:TvL w im cs xs):Tv w im (.agg cs) (.agg ⟨xs⟩)
 | tup (cs:List V) (xs:List Value) (h:TvL w im cs xs):Tv w im (.tup cs) (.tuple ⟨xs⟩)
 | any (x:Value):Tv w im .any x
inductive TvL (w:World)(im:Nat→Prop):List V→List Value→Prop
 | nil:TvL w im [] []
 | cons (v:V) (x:Value) (l:List V) (m:List Value) (h:Tv w im v x) (t:TvL w im l m):TvL w im (v::l) (x::m)
end
structure Pl where
 B:Nat
 O:Nat
 s:Nat
 N:Nat
abbrev fK:=Nat→Option Pl
mutual
inductive Rv (w:World)(im:Nat→Prop)(γ:fK):V→Value→Prop
 | tree (v:V) (x:Value) (h:Tv w im v x):Rv w im γ v x
 | ptr (b i j:Nat) (p:Pl) (h:γ b=some p):Rv w im γ (.ptr b i j) (.pointer (some ⟨p.B,p.O+i*p.s+j,none⟩))
 | ip (e:V) (j B O:Nat) (cs:List Value) (hB:im B) (hc:w.rangeAt B O cs) (h1:∀ x∈cs,x.oneCell'=true) (h:TvL w im e.cells cs):Rv w im γ (.ip e j) (.pointer (some ⟨B,O+j,none⟩))
 | sl (b i n cap:Nat) (p:Pl) (h:γ b=some p) (hcap:n≤cap) (hN:p.O+(i+cap)*p.s≤p.N):Rv w im γ (.sl b i n) (.slice (some ⟨p.B,p.O+i*p.s,none⟩) n cap)
 | sl0 (b i:Nat) (a:Option Addr) (hA:OkA a):Rv w im γ (.sl b i 0) (.slice a 0 0)
 | fn (f:FuncId) (p c:List V) (ps cs:List Value) (hp:RvL w im γ p ps) (hc:RvL w im γ c cs):Rv w im γ (.fn f p c) (.func (.func f) ⟨ps⟩ ⟨cs⟩)
 | iface (t:TypeId) (v:V) (x:Value) (h:Rv w im γ v x):Rv w im γ (.iface t v) (.iface t x)
 | agg (cs:List V) (xs:List Value) (h1:∀ x∈xs,x.oneCell'=true) (h:RvL w im γ cs xs):Rv w im γ (.agg cs) (.agg ⟨xs⟩)
 | tup (cs:List V) (xs:List Value) (h:RvL w im γ cs xs):Rv w im γ (.tup cs) (.tuple ⟨xs⟩)
 | glob (g:Nat):Rv w im γ (.glob g) (.pointer (some ⟨g,0,none⟩))
 | mp (b:Nat) (p:Pl) (h:γ b=some p):Rv w im γ (.mp b) (.map (some p.B))
inductive RvL (w:World)(im:Nat→Prop)(γ:fK):List V→List Value→Prop
 | nil:RvL w im γ [] []
 | cons (v:V) (x:Value) (l:List V) (m:List Value) (h:Rv w im γ v x) (t:RvL w im γ l m):RvL w im γ (v::l) (x::m)
end
variable {w w':World}{im im':Nat→Prop}{γ γ':fK}
def dQ (w:World)(im:Nat→Prop)(w':World)(im':Nat→Prop):Prop:=∀ B,im B→im' B∧w'.heap[B]?=w.heap[B]?
structure Keep (w:World)(im:Nat→Prop)(γ:fK)(w':World)(im':Nat→Prop)(γ':fK):Prop where
 imm:dQ w im w' im'
 inj:∀ b p,γ b=some p→γ' b=some p
theorem dQ.refl:dQ w im w im:=fun _ h=>⟨h,rfl⟩
theorem dQ.trans {w'':World}{im'':Nat→Prop}(h:dQ w im w' im')(k:dQ w' im' w'' im''):dQ w im w'' im'':=
 fun B hB=>⟨(k B (h B hB).1).1,(k B (h B hB).1).2.trans (h B hB).2⟩
theorem Keep.refl:Keep w im γ w im γ:=⟨dQ.refl,fun _ _ h=>h⟩
theorem Keep.trans {w'':World}{im'':Nat→Prop}{γ'':fK}(h:Keep w im γ w' im' γ')(k:Keep w' im' γ' w'' im'' γ''):Keep w im γ w'' im'' γ'':=
 ⟨h.imm.trans k.imm,fun b p hp=>k.inj b p (h.inj b p hp)⟩
theorem pP {B O:Nat}{cs:List Value}(hk:w'.heap[B]?=w.heap[B]?)(h:w.rangeAt B O cs):w'.rangeAt B O cs:=by
 intro j v hj;rw[World.cell?_of_block (w:=w) (a:=⟨B,O+j,none⟩) hk];exact h j v hj
mutual
theorem Tv.keep (hk:dQ w im w' im'):∀{v:V}{x:Value},Tv w im v x→Tv w' im' v x
 | _,_,.bool b => .bool b
 | _,_,.int k n => .int k n
 | _,_,.str s => .str s
 | _,_,.flt b => .flt b
 | _,_,.cpx a b => .cpx a b
 | _,_,.nilp => .nilp
 | _,_,.nils => .nils
 | _,_,.nilf => .nilf
 | _,_,.nili => .nili
 | _,_,.nilm => .nilm
 | _,_,.imm0 a cap h hA => .imm0 a cap h hA
 | _,_,.imm es s B O cap cs hne hB hcap hs hc h1 h => .imm es s B O cap cs hne (hk B hB).1 hcap hs (pP (hk B hB).2 hc) h1 (TvL.keep hk h)
 | _,_,.fn f => .fn f
 | _,_,.iface t v x h => .iface t v x (Tv.keep hk h)
 | _,_,.agg cs xs h1 h => .agg cs xs h1 (TvL.keep hk h)
 | _,_,.tup cs xs h => .tup cs xs (TvL.keep hk h)
 | _,_,.any x => .any x
theorem TvL.keep (hk:dQ w im w' im'):∀{l:List V}{m:List Value},TvL w im l m→TvL w' im' l m
 | _,_,.nil => .nil
 | _,_,.cons v x l m h t => .cons v x l m (Tv.keep hk h) (TvL.keep hk t)
end
mutual
theorem Rv.keep (hk:Keep w im γ w' im' γ'):∀{v:V}{x:Value},Rv w im γ v x→Rv w' im' γ' v x
 | _,_,.tree v x h => .tree v x (h.keep hk.imm)
 | _,_,.ptr b i j p h => .ptr b i j p (hk.inj _ _ h)
 | _,_,.ip e j B O cs hB hc h1 h => .ip e j B O cs (hk.imm B hB).1 (pP (hk.imm B hB).2 hc) h1 (h.keep hk.imm)
 | _,_,.sl b i n cap p h hcap hN => .sl b i n cap p (hk.inj _ _ h) hcap hN
 | _,_,.sl0 b i a hA => .sl0 b i a hA
 | _,_,.fn f p c ps cs hp hc => .fn f p c ps cs (RvL.keep hk hp) (RvL.keep hk hc)
 | _,_,.iface t v x h => .iface t v x (Rv.keep hk h)
 | _,_,.agg cs xs h1 h => .agg cs xs h1 (RvL.keep hk h)
 | _,_,.tup cs xs h => .tup cs xs (RvL.keep hk h)
 | _,_,.glob g => .glob g
 | _,_,.mp b p h => .mp b p (hk.inj _ _ h)
theorem RvL.keep (hk:Keep w im γ w' im' γ'):∀{l:List V}{m:List Value},RvL w im γ l m→RvL w' im' γ' l m
 | _,_,.nil => .nil
 | _,_,.cons v x l m h t => .cons v x l m (Rv.keep hk h) (RvL.keep hk t)
end
theorem TvL.len:∀{l:List V}{m:List Value},TvL w im l m→m.length=l.length
 | _,_,.nil=>rfl
 | _,_,.cons _ _ _ _ _ t=>by simp[TvL.len t]
theorem RvL.len:∀{l:List V}{m:List Value},RvL w im γ l m→m.length=l.length
 | _,_,.nil=>rfl
 | _,_,.cons _ _ _ _ _ t=>by simp[RvL.len t]
theorem TvL.rv:∀{l:List V}{m:List Value},TvL w im l m→RvL w im γ l m
 | _,_,.nil => .nil
 | _,_,.cons _ _ _ _ h t => .cons _ _ _ _ (.tree _ _ h) (TvL.rv t)
theorem RvL.get:∀{l:List V}{m:List Value},RvL w im γ l m→∀(i:Nat)(v:V),l[i]?=some v→∃ x,m[i]?=some x∧Rv w im γ v x
 | _,_,.nil=>fun i v h=>by simp at h
 | _,_,.cons _ x _ _ hx t=>fun i v h=>by
  cases i with
  | zero=>simp at h;subst h;exact⟨x,rfl,hx⟩
  | succ i=>simpa using RvL.get t i v (by simpa using h)
theorem RvL.append {l l2:List V}{m m2:List Value}(h:RvL w im γ l m)(k:RvL w im γ l2 m2):RvL w im γ (l++l2) (m++m2):=by
 revert h;induction l generalizing m with
 | nil=>intro h;cases h;exact k
 | cons v l ih=>intro h;cases h with|cons _ x _ m' hx t=>exact .cons _ _ _ _ hx (ih t)
theorem RvL.split:∀{l l2:List V}{m:List Value},RvL w im γ (l++l2) m→∃ a b,m=a++b∧RvL w im γ l a∧RvL w im γ l2 b
 | [],_,m,h=>⟨[],m,rfl,.nil,h⟩
 | v::l,l2,_,.cons _ x _ m hx t=>let ⟨a,b,e,h1,h2⟩:=RvL.split (l:=l) t;⟨x::a,b,by rw[e];rfl,.cons _ _ _ _ hx h1,h2⟩
theorem TvL.append {l l2:List V}{m m2:List Value}(h:TvL w im l m)(k:TvL w im l2 m2):TvL w im (l++l2) (m++m2):=by
 revert h;induction l generalizing m with
 | nil=>intro h;cases h;exact k
 | cons v l ih=>intro h;cases h with|cons _ x _ m' hx t=>exact .cons _ _ _ _ hx (ih t)
theorem TvL.split:∀{l l2:List V}{m:List Value},TvL w im (l++l2) m→∃ a b,m=a++b∧TvL w im l a∧TvL w im l2 b
 | [],_,m,h=>⟨[],m,rfl,.nil,h⟩
 | v::l,l2,_,.cons _ x _ m hx t=>let ⟨a,b,e,h1,h2⟩:=TvL.split (l:=l) t;⟨x::a,b,by rw[e];rfl,.cons _ _ _ _ hx h1,h2⟩
theorem TvL.get:∀{l:List V}{m:List Value},TvL w im l m→∀(i:Nat)(v:V),l[i]?=some v→∃ x,m[i]?=some x∧Tv w im v x
 | _,_,.nil=>fun i v h=>by simp at h
 | _,_,.cons _ x _ _ hx t=>fun i v h=>by
  cases i with
  | zero=>simp at h;subst h;exact⟨x,rfl,hx⟩
  | succ i=>simpa using TvL.get t i v (by simpa using h)
theorem RvL.take {l:List V}{m:List Value}(h:RvL w im γ l m)(n:Nat):RvL w im γ (l.take n) (m.take n):=by
 rw[←List.take_append_drop n l]at h;obtain⟨a,b,e,h1,h2⟩:=h.split;have hl:=h1.len;by_cases hn:n≤l.length
 ·have:a.length=n:=by rw[hl,List.length_take];omega
  rw[e,List.take_left' this];exact h1
 ·have hn':l.length≤n:=by omega
  rw[List.drop_eq_nil_of_le hn']at h2;cases h2;rw[e,List.append_nil,List.take_of_length_le (l:=a) (by rw[hl,List.length_take];omega)];exact h1
theorem RvL.drop {l:List V}{m:List Value}(h:RvL w im γ l m)(n:Nat):RvL w im γ (l.drop n) (m.drop n):=by
 have hl0:=h.len;rw[←List.take_append_drop n l]at h;obtain⟨a,b,e,h1,h2⟩:=h.split;have hl:=h1.len;by_cases hn:n≤l.length
 ·have:a.length=n:=by rw[hl,List.length_take];omega
  rw[e,List.drop_left' this];exact h2
 ·have hn':l.length≤n:=by omega
  rw[List.drop_eq_nil_of_le hn',List.drop_eq_nil_of_le (by omega)];exact .nil
theorem TvL.take {l:List V}{m:List Value}(h:TvL w im l m)(n:Nat):TvL w im (l.take n) (m.take n):=by
 rw[←List.take_append_drop n l]at h;obtain⟨a,b,e,h1,h2⟩:=h.split;have hl:=h1.len;by_cases hn:n≤l.length
 ·have:a.length=n:=by rw[hl,List.length_take];omega
  rw[e,List.take_left' this];exact h1
 ·have hn':l.length≤n:=by omega
  rw[List.drop_eq_nil_of_le hn']at h2;cases h2;rw[e,List.append_nil,List.take_of_length_le (l:=a) (by rw[hl,List.length_take];omega)];exact h1
theorem TvL.drop {l:List V}{m:List Value}(h:TvL w im l m)(n:Nat):TvL w im (l.drop n) (m.drop n):=by
 have hl0:=h.len;rw[←List.take_append_drop n l]at h;obtain⟨a,b,e,h1,h2⟩:=h.split;have hl:=h1.len;by_cases hn:n≤l.length
 ·have:a.length=n:=by rw[hl,List.length_take];omega
  rw[e,List.drop_left' this];exact h2
 ·have hn':l.length≤n:=by omega
  rw[List.drop_eq_nil_of_le hn',List.drop_eq_nil_of_le (by omega)];exact .nil
theorem RvL.set {l:List V}{m:List Value}(h:RvL w im γ l m){v:V}{x:Value}(hv:Rv w im γ v x)(i:Nat):RvL w im γ (l.set i v) (m.set i x):=by
 revert h;induction l generalizing m i with
 | nil=>intro h;cases h;exact .nil
 | cons a l ih=>
  intro h;cases h with
  | cons _ y _ m' hy t=>
   cases i with
   | zero=>exact .cons _ _ _ _ hv t
   | succ i=>exact .cons _ _ _ _ hy (ih i t)
theorem Rv.int_inv {k:IntKind}{n:Int}{x:Value}(h:Rv w im γ (.int k n) x):x = .int k n:=by
 cases h with|tree _ _ h=>cases h;rfl
theorem Rv.bool_inv {b:Bool}{x:Value}(h:Rv w im γ (.bool b) x):x = .bool b:=by
 cases h with|tree _ _ h=>cases h;rfl
theorem Rv.str_inv {s:List UInt8}{x:Value}(h:Rv w im γ (.str s) x):x = .string ⟨⟨s⟩⟩:=by
 cases h with|tree _ _ h=>cases h;rfl
theorem Rv.flt_inv {b:Nat}{x:Value}(h:Rv w im γ (.flt b) x):x = .float .f64 b:=by
 cases h with|tree _ _ h=>cases h;rfl
theorem Rv.cpx_inv {a b:Nat}{x:Value}(h:Rv w im γ (.cpx a b) x):x = .complex .f64 a b:=by
 cases h with|tree _ _ h=>cases h;rfl
theorem Rv.nilp_inv {x:Value}(h:Rv w im γ .nilp x):x = .pointer none:=by
 cases h with|tree _ _ h=>cases h;rfl
theorem Rv.nils_inv {x:Value}(h:Rv w im γ .nils x):x = .slice none 0 0:=by
 cases h with|tree _ _ h=>cases h;rfl
theorem Rv.nilf_inv {x:Value}(h:Rv w im γ .nilf x):x = .nilFunc:=by
 cases h with|tree _ _ h=>cases h;rfl
theorem Rv.nilm_inv {x:Value}(h:Rv w im γ .nilm x):x = .map none:=by
 cases h with|tree _ _ h=>cases h;rfl
theorem Rv.nili_inv {x:Value}(h:Rv w im γ .nili x):x = .nilIface:=by
 cases h with|tree _ _ h=>cases h;rfl
theorem Rv.ptr_inv {b i j:Nat}{x:Value}(h:Rv w im γ (.ptr b i j) x):∃ p,γ b=some p∧x = .pointer (some ⟨p.B,p.O+i*p.s+j,none⟩):=by
 cases h with
 | tree _ _ h=>cases h
 | ptr _ _ _ p h=>exact⟨p,h,rfl⟩
theorem Rv.ip_inv {e:V}{j:Nat}{x:Value}(h:Rv w im γ (.ip e j) x):∃ B O cs,im B∧w.rangeAt B O cs∧(∀ x∈cs,x.oneCell'=true)∧TvL w im e.cells cs∧x = .pointer (some ⟨B,O+j,none⟩):=by
 cases h with
 | tree _ _ h=>cases h
 | ip _ _ B O cs hB hc h1 h=>exact⟨B,O,cs,hB,hc,h1,h,rfl⟩
theorem Rv.sl_inv {b i n:Nat}{x:Value}(h:Rv w im γ (.sl b i n) x) :
 (∃ p cap,γ b=some p∧n≤cap∧p.O+(i+cap)*p.s≤p.N∧x = .slice (some ⟨p.B,p.O+i*p.s,none⟩) n cap)∨(n=0∧∃ a:Option Addr,x = .slice a 0 0∧OkA a):=by
 cases h with
 | tree _ _ h=>cases h
 | sl _ _ _ cap p h hcap hN=>exact .inl ⟨p,cap,h,hcap,hN,rfl⟩
 | sl0 _ _ a hA=>exact .inr ⟨rfl,a,rfl,hA⟩
theorem Rv.imm_inv {es:List V}{x:Value}(h:Rv w im γ (.imm es) x):Tv w im (.imm es) x:=by
 cases h with|tree _ _ h=>exact h
theorem Tv.imm_inv {es:List V}{x:Value}(h:Tv w im (.imm es) x) :
 (es=[]∧∃(a:Option Addr)(cap:Nat),((a=none→cap=0)∧OkA a)∧x = .slice a 0 cap)∨(∃ s B O cap cs,es≠[]∧im B∧es.length≤cap∧(∀ e∈es,e.cells.length=s)∧w.rangeAt B O cs∧(∀ x∈cs,x.oneCell'=true)∧TvL w im (es.flatMap V.cells) cs∧x = .slice (some ⟨B,O,none⟩) es.length cap):=by
 cases h with
 | imm0 a cap h hA=>exact .inl ⟨rfl,a,cap,⟨h,hA⟩,rfl⟩
 | imm _ s B O cap cs hne hB hcap hs hc h1 h=>exact .inr ⟨s,B,O,cap,cs,hne,hB,hcap,hs,hc,h1,h,rfl⟩
theorem Rv.agg_inv {cs:List V}{x:Value}(h:Rv w im γ (.agg cs) x):∃ xs,x = .agg ⟨xs⟩∧(∀ x∈xs,x.oneCell'=true)∧RvL w im γ cs xs:=by
 cases h with
 | tree _ _ h=>cases h with|agg _ xs h1 h=>exact⟨xs,rfl,h1,h.rv⟩
 | agg _ xs h1 h=>exact⟨xs,rfl,h1,h⟩
theorem Rv.tup_inv {cs:List V}{x:Value}(h:Rv w im γ (.tup cs) x):∃ xs,x = .tuple ⟨xs⟩∧RvL w im γ cs xs:=by
 cases h with
 | tree _ _ h=>cases h with|tup _ xs h=>exact⟨xs,rfl,h.rv⟩
 | tup _ xs h=>exact⟨xs,rfl,h⟩
theorem Rv.iface_inv {t:TypeId}{v:V}{x:Value}(h:Rv w im γ (.iface t v) x):∃ y,x = .iface t y∧Rv w im γ v y:=by
 cases h with
 | tree _ _ h=>cases h with|iface _ _ y h=>exact⟨y,rfl,.tree _ _ h⟩
 | iface _ _ y h=>exact⟨y,rfl,h⟩
theorem Rv.fn_inv {f:FuncId}{p c:List V}{x:Value}(h:Rv w im γ (.fn f p c) x):∃ ps cs,x = .func (.func f) ⟨ps⟩ ⟨cs⟩∧RvL w im γ p ps∧RvL w im γ c cs:=by
 cases h with
 | tree _ _ h=>cases h;exact⟨[],[],rfl,.nil,.nil⟩
 | fn _ _ _ ps cs hp hc=>exact⟨ps,cs,rfl,hp,hc⟩
theorem Rv.cells {v:V}{x:Value}(h:Rv w im γ v x)(hf:v.fit=true):RvL w im γ v.cells x.cells.toList∧∀ y∈x.cells.toList,y.oneCell'=true:=by
 have one:∀{v:V}{x:Value},Rv w im γ v x→x.oneCell'=true→v.cells=[v]→RvL w im γ v.cells x.cells.toList∧∀ y∈x.cells.toList,y.oneCell'=true:=by
  intro v x h h1 hv;have hx:x.cells = #[x]:=by cases x<;>first|rfl|simp[Value.oneCell']at h1
  rw[hx,hv];exact⟨.cons _ _ _ _ h .nil,fun y hy=>by simp at hy;rw[hy];exact h1⟩
 cases v with
 | agg cs=>
  obtain⟨xs,rfl,h1,h2⟩:=h.agg_inv;exact⟨h2,h1⟩
 | tup vs=>simp[V.fit]at hf
 | any=>simp[V.fit]at hf
 | bool b=>exact one h (by rw[h.bool_inv];rfl) rfl
 | int k n=>exact one h (by rw[h.int_inv];rfl) rfl
 | str s=>exact one h (by rw[h.str_inv];rfl) rfl
 | flt b=>exact one h (by rw[h.flt_inv];rfl) rfl
 | cpx a b=>exact one h (by rw[h.cpx_inv];rfl) rfl
 | nilp=>exact one h (by rw[h.nilp_inv];rfl) rfl
 | ptr b i j=>exact one h (by obtain⟨_,_,rfl⟩:=h.ptr_inv;rfl) rfl
 | ip e j=>exact one h (by obtain⟨_,_,_,_,_,_,_,rfl⟩:=h.ip_inv;rfl) rfl
 | nils=>exact one h (by rw[h.nils_inv];rfl) rfl
 | sl b i n=>exact one h (by rcases h.sl_inv with ⟨_,_,_,_,_,rfl⟩|⟨_,_,rfl,_⟩<;>rfl) rfl
 | imm es=>exact one h (by rcases h.imm_inv.imm_inv with ⟨_,_,_,_,rfl⟩|⟨_,_,_,_,_,_,_,_,_,_,_,_,rfl⟩<;>rfl) rfl
 | fn f p c=>exact one h (by obtain⟨_,_,rfl,_⟩:=h.fn_inv;rfl) rfl
 | nilf=>exact one h (by rw[h.nilf_inv];rfl) rfl
 | iface t v=>exact one h (by obtain⟨_,rfl,_⟩:=h.iface_inv;rfl) rfl
 | nili=>exact one h (by rw[h.nili_inv];rfl) rfl
 | nilm=>exact one h (by rw[h.nilm_inv];rfl) rfl
 | mp b=>exact one h (by cases h with|tree _ _ h=>cases h|mp b p h=>rfl) rfl
 | glob g=>exact one h (by cases h with|tree _ _ h=>cases h|glob g=>rfl) rfl
end
section
open Go Go.RowKit
variable {w w':World}{im im':Nat→Prop}{γ γ':fK}{P:Program}{tab:cR}
structure TabOk (P:Program)(tab:cR):Prop where
 ok:∀ t,(tab t).known=true→∃ i d,P.info? t=some i∧P.underlying t=some d∧dA d=(tab t).desc∧i.size=(tab t).size∧i.bytes=(tab t).bytes∧∃ z,i.zero=some z∧cD z=(tab t).zero
 eq:∀ t,(tab t).eq=true→∀(p q:List Int)(x y:Operand)(w:World),p.length=(tab t).size→q.length=(tab t).size→
  (∀ op,(eqGuard op t x y (.agg (p.map (Value.int .i64)).toArray) (.agg (q.map (Value.int .i64)).toArray)).run P w = .ok () w)∧(Op.equal t (.agg (p.map (Value.int .i64)).toArray) (.agg (q.map (Value.int .i64)).toArray)).run P w = .ok (decide (p=q)) w
 zer:∀ t,(tab t).known=true→(tab t).zero.fit=true∧(tab t).zero.cells.length=(tab t).size
 fld:∀ t fs,(tab t).desc = .struct fs→∀ f∈fs,(tab f.2).known=true
 unk:∀ t,(tab t).known=false→(tab t).size=0
 key:∀ b (i j:Int) (w:World),(Instr.checkKey b 10000 38 (.agg #[.int .i64 i,.int .i64 j])).run P w = .ok () w
mutual
theorem jL:∀ v:Value,Tv w im (cD v) v
 | .bool b=>by rw[cD];exact .bool b
 | .int k n=>by rw[cD];exact .int k n
 | .float .f64 n=>by rw[cD];exact .flt n
 | .float .f32 n=>by rw[cD]<;>first|exact .any _|simp
 | .complex .f64 a b=>by rw[cD];exact .cpx a b
 | .complex .f32 a b=>by rw[cD]<;>first|exact .any _|simp
 | .string s=>by rw[cD];exact .str _
 | .pointer none=>by rw[cD];exact .nilp
 | .pointer (some a)=>by rw[cD]<;>first|exact .any _|simp
 | .slice none 0 0=>by rw[cD];exact .nils
 | .slice none 0 (n+1)=>by rw[cD]<;>first|exact .any _|simp
 | .slice none (n+1) c=>by rw[cD]<;>first|exact .any _|simp
 | .slice (some a) n c=>by rw[cD]<;>first|exact .any _|simp
 | .map none=>by rw[cD];exact .nilm
 | .map (some r)=>by rw[cD]<;>first|exact .any _|simp
 | .chan r=>by rw[cD]<;>first|exact .any _|simp
 | .func f a b=>by rw[cD]<;>first|exact .any _|simp
 | .nilFunc=>by rw[cD];exact .nilf
 | .iface t v=>by rw[cD]<;>first|exact .any _|simp
 | .nilIface=>by rw[cD];exact .nili
 | .agg ⟨l⟩=>by
  rw[cD];by_cases h:l.all (·.oneCell')=true
  ·rw[if_pos h];exact .agg _ _ (by simpa using h) (ofLst_tv l)
  ·rw[if_neg h];exact .any _
 | .tuple ⟨l⟩=>by rw[cD];exact .tup _ _ (ofLst_tv l)
theorem ofLst_tv:∀ l:List Value,TvL w im (ofLst l) l
 | []=>by rw[ofLst];exact .nil
 | v::l=>by rw[ofLst];exact .cons _ _ _ _ (jL v) (ofLst_tv l)
end
structure RowR (w:World)(im:Nat→Prop)(γ:fK)(B0 s:Nat)(es:List V)(ro:Bool)(p:Pl):Prop where
 hs:p.s=s
 hB:B0≤p.B
 hi:ro=true→im p.B
 hw:ro=false→¬im p.B
 hl:∀ e∈es,e.cells.length=s
 hm:∃ pre vs post ty fz,w.heap[p.B]?=some (.cells ⟨pre++(vs++post)⟩ ty fz)∧pre.length=p.O∧RvL w im γ (es.flatMap V.cells) vs∧(∀ v∈vs,v.oneCell'=true)∧(∀ k,p.O≤k→k < p.N→¬(fz.1≤k∧k < fz.2))∧pre.length+(vs.length+post.length)=p.N
def xD (bs:List UInt8):List Value:=bs.map fun c => .int .u8 c.toNat
def qV (k:Int×Int):Value:=.agg #[.int .i64 k.1,.int .i64 k.2]
inductive MapsR (w:World)(im:Nat→Prop):List ((Int×Int)×V)→List MapEntry→Prop
 | nil:MapsR w im [] []
 | cons (k:Int×Int) (v:V) (e:MapEntry) (l:List ((Int×Int)×V)) (m:List MapEntry) (hk:e.key=qV k) (hv:Tv w im v e.val) (h:MapsR w im l m):MapsR w im ((k,v)::l) (e::m)
def Vo (w:World)(im:Nat→Prop)(B0:Nat)(p:Pl):Blk→Prop
 | .bld t bs=>p.O=0∧qR t=true∧∃ q v,w.heap[p.B]?=some (.cells #[q,v] t (0,0))∧(q = .pointer none∨q = .pointer (some ⟨p.B,0,none⟩))∧w.ownsRow B0 5 1 v bs.length (xD bs)∧v.ownBlock≠some p.B
 | .maps es=>∃ ms ck,w.heap[p.B]?=some (.map ms ck)∧MapsR w im es ms.toList
 | _=>True
def gI (w:World)(p:Pl):Blk→Nat→Prop
 | .row ..,X=>X=p.B
 | .bld ..,X=>X=p.B∨∃ q v t,w.heap[p.B]?=some (.cells #[q,v] t (0,0))∧v.ownBlock=some X
 | .maps _,X=>X=p.B
 | .dead,_=>False
def iU:Blk→Bool
 | .bld .. | .maps _=>true
 | _=>false
theorem Cb (w:World)(p:Pl){o:Blk}(ho:iU o=true):gI w p o p.B:=by
 cases o with
 | row=>cases ho
 | dead=>cases ho
 | bld=>exact .inl rfl
 | maps=>rfl
theorem jD {p:Pl}{o:Blk}{X:Nat}(hk:iU o=true→w'.heap[p.B]?=w.heap[p.B]?)(h:gI w' p o X):gI w p o X:=by
 cases o with
 | row=>exact h
 | dead=>exact h
 | maps=>exact h
 | bld t bs=>
  rcases h with h|⟨q,v,t,h1,h2⟩
  ·exact .inl h
  ·exact .inr ⟨q,v,t,by rw[←hk rfl];exact h1,h2⟩
structure ObjH (w:World)(im:Nat→Prop)(γ:fK)(B0:Nat)(H:aA):Prop where
 obj:∀(b:Nat)(o:Blk),H[b]?=some o→iU o=true→∃ p,γ b=some p∧Vo w im B0 p o∧∀ X,gI w p o X→B0≤X∧X < w.heap.size∧¬im X
 sep:∀(b b':Nat)(o o':Blk) p p' X,b≠b'→H[b]?=some o→iU o=true→H[b']?=some o'→γ b=some p→γ b'=some p'→gI w p o X→¬gI w p' o' X
theorem MapsR.keep (hk:dQ w im w' im'):∀{l:List ((Int×Int)×V)}{m:List MapEntry},MapsR w im l m→MapsR w' im' l m
 | _,_,.nil => .nil
 | _,_,.cons k v e l m h1 h2 h => .cons k v e l m h1 (h2.keep hk) (h.keep hk)
theorem Vo.keep {B0:Nat}{p:Pl}{o:Blk}(h:Vo w im B0 p o)(hk:dQ w im w' im')(hX:∀ X,gI w p o X→w'.heap[X]?=w.heap[X]?):Vo w' im' B0 p o:=by
 cases o with
 | row=>trivial
 | dead=>trivial
 | bld t bs=>
  obtain⟨h1,h2,q,v,h3,h4,h5,h7⟩:=h;refine⟨h1,h2,q,v,by rw[hX _ (.inl rfl)];exact h3,h4,⟨h5.1,?_⟩,h7⟩;rcases h5.2 with h5|⟨g,cap,cur,rfl,g1,g2,g3⟩
  ·exact .inl h5
  ·refine .inr ⟨g,cap,cur,rfl,g1,?_,g3⟩;rw[hX _ (.inr ⟨_,_,_,h3,rfl⟩)];exact g2
 | maps es=>
  obtain⟨ms,ck,h1,h2⟩:=h;exact⟨ms,ck,by rw[hX _ rfl];exact h1,h2.keep hk⟩
theorem ObjH.mono {B0:Nat}{H H':aA}(h:ObjH w im γ B0 H)(hH:∀(b:Nat)(o:Blk),H'[b]?=some o→iU o=true→H[b]?=some o)
 (hw:∀(b:Nat)(o:Blk) p X,H[b]?=some o→iU o=true→γ b=some p→gI w p o X→w'.heap[X]?=w.heap[X]?∧¬im' X) (hsz:w.heap.size≤w'.heap.size) (hk:dQ w im w' im') (hγ:∀ b p,γ b=some p→γ' b=some p)
 (hs:∀(b b':Nat)(o o':Blk) p p' X,b≠b'→H[b]?=some o→iU o=true→H'[b']?=some o'→γ b=some p→γ' b'=some p'→gI w p o X→¬gI w p' o' X):ObjH w' im' γ' B0 H':=by
 have key:∀(b:Nat)(o:Blk),H'[b]?=some o→iU o=true→∃ p,γ b=some p∧γ' b=some p∧w'.heap[p.B]?=w.heap[p.B]?:=fun b o h1 h2=>by
  obtain⟨p,hp,_⟩:=h.obj b o (hH b o h1 h2) h2;exact⟨p,hp,hγ b p hp,(hw b o p p.B (hH b o h1 h2) h2 hp (Cb w p h2)).1⟩
 refine⟨fun b o h1 h2=>?_,fun b b' o o' p p' X hne h1 h2 h3 hp hp' hX hX'=>?_⟩
 ·obtain⟨p,hp,hr,hf⟩:=h.obj b o (hH b o h1 h2) h2;obtain⟨q,hq,_,hqB⟩:=key b o h1 h2;rw[hp]at hq;cases hq;refine⟨p,hγ b p hp,hr.keep hk fun X hX=>(hw b o p X (hH b o h1 h2) h2 hp hX).1,fun X hX=>?_⟩;have hX:=jD (fun _=>hqB) hX;exact⟨(hf X hX).1,Nat.lt_of_lt_of_le (hf X hX).2.1 hsz,(hw b o p X (hH b o h1 h2) h2 hp hX).2⟩
 ·obtain⟨q,hq,hq',hqB⟩:=key b o h1 h2;rw[hp]at hq';cases hq';refine hs b b' o o' p p' X hne (hH b o h1 h2) h2 h3 hq hp' (jD (fun _=>hqB) hX) (jD (fun ho'=>?_) hX');obtain⟨q2,_,e2,e3⟩:=key b' o' h3 ho';rw[hp']at e2;cases e2;exact e3
theorem ObjH.obj' {B0:Nat}{H:aA}(h:ObjH w im γ B0 H){b:Nat}{o:Blk}{p:Pl}(h1:H[b]?=some o)(h2:iU o=true)(hp:γ b=some p):∀ X,gI w p o X→B0≤X∧X < w.heap.size∧¬im X:=by
 obtain⟨q,hq,_,e⟩:=h.obj b o h1 h2;rw[hp]at hq;cases hq;exact e
structure RelH (w:World)(im:Nat→Prop)(γ:fK)(B0:Nat)(H:aA):Prop where
 row:∀ b s es ro,H[b]?=some (.row s es ro)→(∃ p,γ b=some p∧RowR w im γ B0 s es ro p)∨(es=[]∧γ b=none)
 inj:∀ b b' s es ro s' es' ro' p p',b≠b'→H[b]?=some (.row s es ro)→H[b']?=some (.row s' es' ro')→γ b=some p→γ b'=some p'→p.B≠p'.B
 imlt:∀ B,im B→B < w.heap.size
 fresh:∀ b,H.length≤b→γ b=none
 size:B0≤w.heap.size
 oh:ObjH w im γ B0 H
theorem RelH.at {B0:Nat}{H:aA}(hR:RelH w im γ B0 H){b s:Nat}{es:List V}{ro:Bool}(h:H[b]?=some (.row s es ro)){p:Pl}(hp:γ b=some p):RowR w im γ B0 s es ro p:=by
 rcases hR.row _ _ _ _ h with ⟨q,hq,hr⟩|⟨_,hn⟩
 ·rw[hp]at hq;cases hq;exact hr
 ·rw[hp]at hn;cases hn
theorem cN {s:Nat}:∀{es:List V},(∀ e∈es,e.cells.length=s)→(es.flatMap V.cells).length=es.length*s
 | [],_=>by simp
 | e::es,h=>by
  rw[List.flatMap_cons,List.length_append,h e (by simp),cN (fun e he=>h e (by simp[he])),List.length_cons,Nat.succ_mul];omega
theorem jQ {es:List V}{i:Nat}{e:V}(h:es[i]?=some e):es.flatMap V.cells=(es.take i).flatMap V.cells++(e.cells++(es.drop (i+1)).flatMap V.cells):=by
 have hi:=(List.getElem?_eq_some_iff.1 h).1
 conv=>lhs;rw[←List.take_append_drop i es,List.drop_eq_getElem_cons hi]
 rw[List.flatMap_append,List.flatMap_cons,(List.getElem?_eq_some_iff.1 h).2]
theorem lC {B:Nat}{a m p:List Value}{ty:TypeId}{fz:Nat×Nat}(h:w.heap[B]?=some (.cells ⟨a++(m++p)⟩ ty fz)):w.rangeAt B a.length m:=by
 intro j v hj;rw[cell_of_row w B (a.length+j) _ ty fz h];have hjl:=(List.getElem?_eq_some_iff.1 hj).1;simp only[List.getElem?_toArray];rw[List.getElem?_append_right (by omega),Nat.add_sub_cancel_left,List.getElem?_append_left hjl];exact hj
theorem Nd {B0:Nat}{H:aA}(hR:RelH w im γ B0 H){p e:V}{j:Nat}{x:Value}(hp:Rv w im γ p x)(hl:tF H p=some (e,j)) :
 ∃ B O vs,x = .pointer (some ⟨B,O+j,none⟩)∧w.rangeAt B O vs∧RvL w im γ e.cells vs∧(∀ v∈vs,v.oneCell'=true):=by
 unfold tF at hl;split at hl
 ·rename_i b i j';obtain⟨p,hg,rfl⟩:=hp.ptr_inv;split at hl
  ·rename_i s' es ro hH;split at hl
   ·rename_i e' hE;cases hl;have hr:=hR.at hH hg;obtain⟨pre,vs,post,ty,fz,h1,h2,h3,h4,h5,h6⟩:=hr.hm;have hss:p.s=s':=hr.hs;subst hss;rw[jQ hE]at h3;obtain⟨a,b2,e1,k1,k2⟩:=h3.split;obtain⟨m,c,e2,k3,k4⟩:=k2.split;subst e1 e2;have hla:a.length=i*p.s:=by
     rw[k1.len,cN (s:=p.s) (fun e he=>hr.hl e (List.mem_of_mem_take he)),List.length_take];have:=(List.getElem?_eq_some_iff.1 hE).1;rw[Nat.min_eq_left (by omega)]
    refine⟨p.B,p.O+i*p.s,m,rfl,?_,k3,fun v hv=>h4 v (by simp[hv])⟩;have:=lC (w:=w) (B:=p.B) (a:=pre++a) (m:=m) (p:=c++post) (ty:=ty) (fz:=fz) (by rw[h1];simp);rw[List.length_append,h2,hla]at this;exact this
   ·cases hl
  ·cases hl
 ·rename_i e' j';cases hl;obtain⟨B,O,cs,hB,hc,h1,h2,rfl⟩:=hp.ip_inv;exact⟨B,O,cs,rfl,hc,h2.rv,h1⟩
 ·cases hl
theorem cY {ht:TabOk P tab}{t:TypeId}(hk:(tab t).known=true):∃ i d,P.info? t=some i∧P.underlying t=some d∧dA d=(tab t).desc∧i.size=(tab t).size∧d.isRow=(tab t).isAgg∧(∀ W,(isAgg t).run P W = .ok ((tab t).isAgg) W)∧(∀ W,(sizeOf t).run P W = .ok (tab t).size W):=by
 obtain⟨i,d,h1,h2,h3,h4,h5,_⟩:=ht.ok t hk;have hd:d.isRow=(tab t).isAgg:=by
  unfold TI.isAgg;rw[←h3];cases d<;>rfl
 refine⟨i,d,h1,h2,h3,h4,hd,fun W=>?_,fun W=>?_⟩
 ·unfold isAgg;rw[Sem.run_bind,run_underlying h2 W,←hd];cases d<;>rfl
 ·simp[sizeOf,typeInfo,h1,h4]
theorem Ij {cs:List V}{xs:List Value}(h:RvL w im γ cs xs)(h1:∀ v∈xs,v.oneCell'=true)(ht:TabOk P tab){t:TypeId}{j:Nat}{v:V}(hp:Fa (tab t) cs j=some v) :
 ∃ x,(∀ W,(part t ⟨xs⟩ j).run P W = .ok x W)∧Rv w im γ v x:=by
 unfold Fa at hp;split at hp
 ·rename_i hk;obtain⟨i,d,k1,k2,k3,k4,k5,k6,k7⟩:=cY (ht:=ht) hk;split at hp
  ·rename_i ha;split at hp
   ·rename_i hle;cases hp;refine⟨.agg ⟨(xs.drop j).take (tab t).size⟩,fun W=>?_,.agg _ _ (fun v hv=>h1 v (List.mem_of_mem_drop (List.mem_of_mem_take hv))) ((h.drop j).take _)⟩;simp only[part,Sem.run_bind,k6,Result.andThen_ok,ha,if_true,k7,Sem.run_pure];congr 2;apply Array.ext';simp[List.extract_eq_take_drop]
   ·cases hp
  ·rename_i ha;obtain⟨x,hx,hr⟩:=h.get j v hp;refine⟨x,fun W=>?_,hr⟩;simp only[part,Sem.run_bind,k6,Result.andThen_ok];rw[if_neg (by simpa using ha)];simp only[List.getElem?_toArray,hx,Sem.run_pure]
 ·cases hp
theorem Od {B0:Nat}{H:aA}(hR:RelH w im γ B0 H)(ht:TabOk P tab){t:TypeId}{p v:V}{x:Value}(hp:Rv w im γ p x)(hl:rJ tab H t p=some v) :
 ∃ y,(Instr.loadAt t x).run P w = .ok y w∧Rv w im γ v y:=by
 unfold rJ at hl;split at hl
 ·rename_i e j hlook;obtain⟨B,O,vs,rfl,hr,h1,h2⟩:=Nd hR hp hlook;unfold Fa at hl;split at hl
  ·rename_i hk;obtain⟨i,d,k1,k2,k3,k4,k5,k6,k7⟩:=cY (ht:=ht) hk;split at hl
   ·rename_i ha;split at hl
    ·rename_i hle;cases hl;have hlen:=h1.len;have hrange:w.rangeAt B (O+j) ((vs.drop j).take (tab t).size):=by
      intro k u hk;rw[List.getElem?_take]at hk;split at hk
      ·rw[List.getElem?_drop]at hk;rw[Nat.add_assoc];exact hr (j+k) u hk
      ·cases hk
     have:=run_loadAt_mid (P:=P) w B (O+j) t ((vs.drop j).take (tab t).size) d hrange k2 (by rw[k5,ha]) (by rw[k1];simp[k4];omega);exact⟨_,this,.agg _ _ (fun v hv=>h2 v (List.mem_of_mem_drop (List.mem_of_mem_take hv))) ((h1.drop j).take _)⟩
    ·cases hl
   ·rename_i ha;obtain⟨y,hy,hv⟩:=h1.get j v hl;refine⟨y,?_,hv⟩;have hc:=hr j y hy;simp only[Instr.loadAt,Instr.sureAddr,loadVar,Sem.run_bind,Sem.run_pure,Result.andThen_ok,k6];rw[if_neg (by simpa using ha),run_load,hc]
  ·cases hl
 ·cases hl
end
section
open Go Go.RowKit
variable {w w':World}{im im':Nat→Prop}{γ γ':fK}{P:Program}{tab:cR}
theorem RowR.keep {B0 s:Nat}{es:List V}{ro:Bool}{p:Pl}(h:RowR w im γ B0 s es ro p)(hk:Keep w im γ w' im γ')(hp:w'.heap[p.B]?=w.heap[p.B]?):RowR w' im γ' B0 s es ro p:=by
 obtain⟨pre,vs,post,ty,fz,h1,h2,h3,h4,h5⟩:=h.hm;exact⟨h.hs,h.hB,h.hi,h.hw,h.hl,pre,vs,post,ty,fz,by rw[hp,h1],h2,h3.keep hk,h4,h5⟩
theorem RowR.block {B0 s:Nat}{es:List V}{ro:Bool}{p:Pl}(h:RowR w im γ B0 s es ro p):p.B < w.heap.size:=by
 obtain⟨pre,vs,post,ty,fz,h1,_⟩:=h.hm;exact(Array.getElem?_eq_some_iff.1 h1).1
def upd (γ:fK)(b:Nat)(p:Pl):fK:=fun c=>if c=b then some p else γ c
theorem cL (γ:fK)(b:Nat)(p:Pl):upd γ b p b=some p:=by simp[upd]
theorem cO (γ:fK){b c:Nat}(p:Pl)(h:c≠b):upd γ b p c=γ c:=by simp[upd,h]
theorem iN {H:aA}{B0:Nat}(hR:RelH w im γ B0 H)(hk:dQ w im w' im)(p:Pl):Keep w im γ w' im (upd γ H.length p):=
 ⟨hk,fun b q hb=>by
  by_cases h:b=H.length
  ·subst h;rw[hR.fresh _ (Nat.le_refl _)]at hb;cases hb
  ·rw[cO _ _ h];exact hb⟩
theorem RelH.push {H:aA}{B0 s:Nat}{es:List V}{p:Pl}(hR:RelH w im γ B0 H)(hk:dQ w im w' im)(hsz:w.heap.size≤w'.heap.size)
 (hold:∀ b s es ro q,H[b]?=some (.row s es ro)→γ b=some q→q.B≠p.B∧w'.heap[q.B]?=w.heap[q.B]?)
 (hnew:RowR w' im (upd γ H.length p) B0 s es false p)
 (hob:∀(b:Nat)(o:Blk) q X,H[b]?=some o→iU o=true→γ b=some q→gI w q o X→X≠p.B∧w'.heap[X]?=w.heap[X]?):RelH w' im (upd γ H.length p) B0 (H++[.row s es false]):=by
 have hK:=iN hR hk p;have hlt:∀ b s es ro,H[b]?=some (.row s es ro)→b < H.length:=fun b s es ro h=>(List.getElem?_eq_some_iff.1 h).1;have cs:∀ b s' es' ro',(H++[Blk.row s es false])[b]?=some (.row s' es' ro')→(b < H.length∧H[b]?=some (.row s' es' ro'))∨(b=H.length∧s'=s∧es'=es∧ro'=false):=by
  intro b s' es' ro' h;by_cases hb:b < H.length
  ·rw[List.getElem?_append_left hb]at h;exact .inl ⟨hb,h⟩
  ·rw[List.getElem?_append_right (by omega)]at h;by_cases he:b=H.length
   ·subst he;simp at h;exact .inr ⟨rfl,h.1.symm,h.2.1.symm,by simpa using h.2.2⟩
   ·rw[List.getElem?_eq_none (by simp;omega)]at h;cases h
 have ap:∀(b:Nat)(o:Blk),(H++[Blk.row s es false])[b]?=some o→(b < H.length∧H[b]?=some o)∨(b=H.length∧o=Blk.row s es false):=by
  intro b o h;by_cases hb:b < H.length
  ·rw[List.getElem?_append_left hb]at h;exact .inl ⟨hb,h⟩
  ·rw[List.getElem?_append_right (by omega)]at h;by_cases he:b=H.length
   ·subst he;simp at h;exact .inr ⟨rfl,h.symm⟩
   ·rw[List.getElem?_eq_none (by simp;omega)]at h;cases h
 have hoh:ObjH w' im (upd γ H.length p) B0 (H++[.row s es false]):=by
  refine hR.oh.mono (fun b o h h2=>?_) (fun b o q X h h2 hq hX=>⟨(hob b o q X h h2 hq hX).2,?_⟩) hsz hk hK.inj (fun b b' o o' q q' X hne h h2 h3 hq hq' hX=>?_)
  ·rcases ap _ _ h with ⟨_,h⟩|⟨_,rfl⟩
   ·exact h
   ·cases h2
  ·obtain⟨q',e1,_,e2⟩:=hR.oh.obj b o h h2;rw[hq]at e1;cases e1;exact(e2 X hX).2.2
  ·rcases ap _ _ h3 with ⟨hb',h3⟩|⟨rfl,rfl⟩
   ·rw[cO _ _ (by omega)]at hq';exact hR.oh.sep b b' o o' q q' X hne h h2 h3 hq hq' hX
   ·rw[cL]at hq';cases hq';exact(hob b o q X h h2 hq hX).1
 refine⟨?_,?_,fun B hB=>Nat.lt_of_lt_of_le (hR.imlt B hB) hsz,?_,Nat.le_trans hR.size hsz,hoh⟩
 ·intro b s' es' ro' h;rcases cs _ _ _ _ h with ⟨hb,h⟩|⟨rfl,rfl,rfl,rfl⟩
  ·rcases hR.row _ _ _ _ h with ⟨q,hq,hr⟩|⟨he,hn⟩
   ·exact .inl ⟨q,by rw[cO _ _ (by omega)];exact hq,hr.keep hK (hold _ _ _ _ _ h hq).2⟩
   ·exact .inr ⟨he,by rw[cO _ _ (by omega)];exact hn⟩
  ·exact .inl ⟨p,cL _ _ _,hnew⟩
 ·intro b b' s1 es1 ro1 s2 es2 ro2 p1 p2 hne h h' hp hp';rcases cs _ _ _ _ h with ⟨hb,h⟩|⟨rfl,rfl,rfl,rfl⟩
  ·rw[cO _ _ (by omega)]at hp;rcases cs _ _ _ _ h' with ⟨hb',h'⟩|⟨rfl,e1,e2,e3⟩
   ·rw[cO _ _ (by omega)]at hp';exact hR.inj _ _ _ _ _ _ _ _ _ _ hne h h' hp hp'
   ·rw[cL]at hp';cases hp';exact(hold _ _ _ _ _ h hp).1
  ·rw[cL]at hp;cases hp;rcases cs _ _ _ _ h' with ⟨hb',h'⟩|⟨rfl,_,_,_⟩
   ·rw[cO _ _ (by omega)]at hp';exact fun e=>(hold _ _ _ _ _ h' hp').1 e.symm
   ·exact absurd rfl hne
 ·intro b hb;rw[cO _ _ (by simp at hb;omega)];exact hR.fresh _ (by simp at hb;omega)
theorem sT (himlt:∀ B,im B→B < w.heap.size)(o:Obj):dQ w im (w.alloc o) im:=fun B hB=>⟨hB,heap_alloc_old w o (himlt B hB)⟩
theorem RelH.alloc {H:aA}{B0 s:Nat}{es:List V}(hR:RelH w im γ B0 H)(hl:∀ e∈es,e.cells.length=s){vs post:List Value}(hv:RvL w im γ (es.flatMap V.cells) vs)(h1:∀ v∈vs,v.oneCell'=true)(ty:TypeId)
 (fz:Nat×Nat)(hfz:∀ k,k < vs.length+post.length→¬(fz.1≤k∧k < fz.2)) :
 RelH (w.alloc (.cells ⟨vs++post⟩ ty fz)) im (upd γ H.length ⟨w.heap.size,0,s,vs.length+post.length⟩) B0 (H++[.row s es false])∧Keep w im γ (w.alloc (.cells ⟨vs++post⟩ ty fz)) im (upd γ H.length ⟨w.heap.size,0,s,vs.length+post.length⟩):=by
 have hk:=sT (w:=w) hR.imlt (.cells ⟨vs++post⟩ ty fz);have hK:=iN hR hk ⟨w.heap.size,0,s,vs.length+post.length⟩;refine⟨hR.push hk (by simp) (fun b s es ro q hb hq=>?_) ?_ ?_,hK⟩
 ·have hr:=hR.at hb hq;have:=hr.block;exact⟨by show q.B≠w.heap.size;omega,heap_alloc_old _ _ this⟩
 ·exact⟨rfl,hR.size,by simp,fun _ hB=>Nat.lt_irrefl _ (hR.imlt _ hB),hl,[],vs,post,ty,fz,by simpa using heap_alloc_new w _,rfl,hv.keep hK,h1,fun k _ hk=>hfz k hk,by simp⟩
 ·intro b o q X hb h2 hq hX;obtain⟨q',e1,_,e2⟩:=hR.oh.obj b o hb h2;rw[hq]at e1;cases e1;have:=(e2 X hX).2.1;exact⟨by show X≠w.heap.size;omega,heap_alloc_old _ _ this⟩
theorem RelH.pushO {H:aA}{B0:Nat}(hR:RelH w im γ B0 H){o:Blk}(ho:iU o=true)(ob:Obj){p:Pl}(hpB:p.B=w.heap.size)(hp:∀ X,gI (w.alloc ob) p o X→X=w.heap.size)(hr:Vo (w.alloc ob) im B0 p o) :
 RelH (w.alloc ob) im (upd γ H.length p) B0 (H++[o])∧Keep w im γ (w.alloc ob) im (upd γ H.length p):=by
 have hk:=sT (w:=w) hR.imlt ob;have hK:=iN hR hk p;have ap:∀(b:Nat)(o':Blk),(H++[o])[b]?=some o'→(b < H.length∧H[b]?=some o')∨(b=H.length∧o'=o):=by
  intro b o' h;by_cases hb:b < H.length
  ·rw[List.getElem?_append_left hb]at h;exact .inl ⟨hb,h⟩
  ·rw[List.getElem?_append_right (by omega)]at h;by_cases he:b=H.length
   ·subst he;simp at h;exact .inr ⟨rfl,h.symm⟩
   ·rw[List.getElem?_eq_none (by simp;omega)]at h;cases h
 have rw':∀(b s:Nat) es ro,(H++[o])[b]?=some (Blk.row s es ro)→b < H.length∧H[b]?=some (Blk.row s es ro):=by
  intro b s es ro h;rcases ap _ _ h with h|⟨_,rfl⟩
  ·exact h
  ·cases ho
 have hlt:∀ X,gI (w.alloc ob) p o X→¬X < w.heap.size:=fun X hX h=>by rw[hp X hX]at h;omega
 refine⟨⟨fun b s es ro h=>?_,fun b b' s1 es1 ro1 s2 es2 ro2 p1 p2 hne h h' hp1 hp2=>?_,fun B hB=>Nat.lt_of_lt_of_le (hR.imlt B hB) (by simp),fun b hb=>?_,Nat.le_trans hR.size (by simp),⟨fun b o' h h2=>?_,fun b b' o1 o2 q q' X hne h h2 h3 hq hq' hX=>?_⟩⟩,hK⟩
 ·obtain⟨hb,h⟩:=rw' _ _ _ _ h;rcases hR.row _ _ _ _ h with ⟨q,hq,hr⟩|⟨he,hn⟩
  ·exact .inl ⟨q,by rw[cO _ _ (by omega)];exact hq,hr.keep hK (heap_alloc_old _ _ hr.block)⟩
  ·exact .inr ⟨he,by rw[cO _ _ (by omega)];exact hn⟩
 ·obtain⟨hb,h⟩:=rw' _ _ _ _ h;obtain⟨hb',h'⟩:=rw' _ _ _ _ h';rw[cO _ _ (by omega)]at hp1 hp2;exact hR.inj _ _ _ _ _ _ _ _ _ _ hne h h' hp1 hp2
 ·rw[cO _ _ (by simp at hb;omega)];exact hR.fresh _ (by simp at hb;omega)
 ·rcases ap _ _ h with ⟨hb,h⟩|⟨rfl,rfl⟩
  ·obtain⟨q,hq,a1,a2⟩:=hR.oh.obj b o' h h2;refine⟨q,by rw[cO _ _ (by omega)];exact hq,a1.keep hk fun X hX=>heap_alloc_old _ _ (a2 X hX).2.1,fun X hX=>?_⟩;have hX:=jD (fun ho=>heap_alloc_old _ _ (a2 q.B (Cb w q ho)).2.1) hX;exact⟨(a2 X hX).1,Nat.lt_of_lt_of_le (a2 X hX).2.1 (by simp),(a2 X hX).2.2⟩
  ·exact⟨p,cL _ _ _,hr,fun X hX=>by rw[hp X hX];exact⟨hR.size,by simp,fun h=>Nat.lt_irrefl _ (hR.imlt _ h)⟩⟩
 ·have back:∀(c:Nat) o3 q3,H[c]?=some o3→γ c=some q3→∀ X,gI (w.alloc ob) q3 o3 X→gI w q3 o3 X:=by
   intro c o3 q3 h hq X hX;exact jD (fun ho=>heap_alloc_old _ _ (hR.oh.obj' h ho hq q3.B (Cb w q3 ho)).2.1) hX
  have old:∀(c:Nat) o3 q3,H[c]?=some o3→γ c=some q3→∀ X,gI w q3 o3 X→X < w.heap.size:=by
   intro c o3 q3 h hq X hX;cases o3 with
   | row s es ro=>have:=(hR.at h hq).block;cases hX;exact this
   | dead=>exact hX.elim
   | bld t bs=>exact(hR.oh.obj' h rfl hq X hX).2.1
   | maps es=>exact(hR.oh.obj' h rfl hq X hX).2.1
  rcases ap _ _ h with ⟨hb,hh⟩|⟨rfl,rfl⟩
  ·rw[cO _ _ (by omega)]at hq;have hX0:=back _ _ _ hh hq X hX;rcases ap _ _ h3 with ⟨hb',hh3⟩|⟨rfl,rfl⟩
   ·rw[cO _ _ (by omega)]at hq';exact fun hX'=>hR.oh.sep b b' o1 o2 q q' X hne hh h2 hh3 hq hq' hX0 (back _ _ _ hh3 hq' X hX')
   ·rw[cL]at hq';cases hq';exact fun hX'=>hlt X hX' (old _ _ _ hh hq X hX0)
  ·rw[cL]at hq;cases hq;rcases ap _ _ h3 with ⟨hb',hh3⟩|⟨rfl,rfl⟩
   ·rw[cO _ _ (by omega)]at hq';exact fun hX'=>hlt X hX (old _ _ _ hh3 hq' X (back _ _ _ hh3 hq' X hX'))
   ·exact absurd rfl hne
theorem RelH.cells {H:aA}{B0 b s:Nat}{es:List V}{ro:Bool}(hR:RelH w im γ B0 H)(h:H[b]?=some (.row s es ro)):∀ e∈es,e.cells.length=s:=by
 rcases hR.row _ _ _ _ h with ⟨p,_,hr⟩|⟨rfl,_⟩
 ·exact hr.hl
 ·simp
theorem RelH.pushV {H:aA}{B0:Nat}(s:Nat)(hR:RelH w im γ B0 H):RelH w im γ B0 (H++[.row s [] false]):=by
 have cs:∀ b s' es' ro',(H++[Blk.row s [] false])[b]?=some (.row s' es' ro')→(b < H.length∧H[b]?=some (.row s' es' ro'))∨(b=H.length∧es'=[]):=by
  intro b s' es' ro' h;by_cases hb:b < H.length
  ·rw[List.getElem?_append_left hb]at h;exact .inl ⟨hb,h⟩
  ·rw[List.getElem?_append_right (by omega)]at h;by_cases he:b=H.length
   ·subst he;simp at h;exact .inr ⟨rfl,by simp[h.2.1]⟩
   ·rw[List.getElem?_eq_none (by simp;omega)]at h;cases h
 have ap:∀(b:Nat)(o:Blk),(H++[Blk.row s [] false])[b]?=some o→(b < H.length∧H[b]?=some o)∨(b=H.length∧o=Blk.row s [] false):=by
  intro b o h;by_cases hb:b < H.length
  ·rw[List.getElem?_append_left hb]at h;exact .inl ⟨hb,h⟩
  ·rw[List.getElem?_append_right (by omega)]at h;by_cases he:b=H.length
   ·subst he;simp at h;exact .inr ⟨rfl,h.symm⟩
   ·rw[List.getElem?_eq_none (by simp;omega)]at h;cases h
 have hoh:ObjH w im γ B0 (H++[.row s [] false]):=by
  refine hR.oh.mono (fun b o h h2=>?_) (fun b o q X h h2 hq hX=>⟨rfl,?_⟩) (Nat.le_refl _) dQ.refl (fun _ _ h=>h) (fun b b' o o' q q' X hne h h2 h3 hq hq' hX=>?_)
  ·rcases ap _ _ h with ⟨_,h⟩|⟨_,rfl⟩
   ·exact h
   ·cases h2
  ·obtain⟨q',e1,_,e2⟩:=hR.oh.obj b o h h2;rw[hq]at e1;cases e1;exact(e2 X hX).2.2
  ·rcases ap _ _ h3 with ⟨hb',h3⟩|⟨rfl,rfl⟩
   ·exact hR.oh.sep b b' o o' q q' X hne h h2 h3 hq hq' hX
   ·rw[hR.fresh _ (Nat.le_refl _)]at hq';cases hq'
 refine⟨?_,?_,hR.imlt,?_,hR.size,hoh⟩
 ·intro b s' es' ro' h;rcases cs _ _ _ _ h with ⟨hb,h⟩|⟨rfl,rfl⟩
  ·exact hR.row _ _ _ _ h
  ·exact .inr ⟨rfl,hR.fresh _ (Nat.le_refl _)⟩
 ·intro b b' s1 es1 ro1 s2 es2 ro2 p1 p2 hne h h' hp hp';rcases cs _ _ _ _ h with ⟨hb,h⟩|⟨rfl,rfl⟩
  ·rcases cs _ _ _ _ h' with ⟨hb',h'⟩|⟨rfl,rfl⟩
   ·exact hR.inj _ _ _ _ _ _ _ _ _ _ hne h h' hp hp'
   ·rw[hR.fresh _ (Nat.le_refl _)]at hp';cases hp'
  ·rw[hR.fresh _ (Nat.le_refl _)]at hp;cases hp
 ·intro b hb;exact hR.fresh _ (by simp at hb;omega)
theorem RelH.setRow {H:aA}{B0 s b:Nat}{es es':List V}{p:Pl}{pre vs vs' post:List Value}{ty:TypeId}{fz:Nat×Nat}(hR:RelH w im γ B0 H)(hb:H[b]?=some (.row s es false))(hg:γ b=some p)
 (h1:w.heap[p.B]?=some (.cells ⟨pre++(vs++post)⟩ ty fz)) (h2:pre.length=p.O) (h5:∀ k,p.O≤k→k < p.N→¬(fz.1≤k∧k < fz.2)) (h6:pre.length+(vs.length+post.length)=p.N)
 (hl:∀ e∈es',e.cells.length=s)(hv:RvL w im γ (es'.flatMap V.cells) vs')(h1':∀ v∈vs',v.oneCell'=true){post':List Value}(hlen:vs'.length+post'.length=vs.length+post.length) :
 RelH (w.setRow p.B ⟨pre++(vs' ++ post')⟩) im γ B0 (H.set b (.row s es' false))∧Keep w im γ (w.setRow p.B ⟨pre++(vs' ++ post')⟩) im γ:=by
 have hr:=hR.at hb hg;have hni:=hr.hw rfl;have hk:dQ w im (w.setRow p.B ⟨pre++(vs' ++ post')⟩) im:=fun B hB=>⟨hB,setRow_other _ _ _ _ (fun e=>hni (e▸hB))⟩;have hK:Keep w im γ (w.setRow p.B ⟨pre++(vs' ++ post')⟩) im γ:=⟨hk,fun _ _ h=>h⟩;have hbl:b < H.length:=(List.getElem?_eq_some_iff.1 hb).1;have cs:∀(c:Nat) s2 es2 ro2,(List.set H b (Blk.row s es' false))[c]?=some (Blk.row s2 es2 ro2)→(c=b∧s2=s∧es2=es'∧ro2=false)∨(c≠b∧H[c]?=some (Blk.row s2 es2 ro2)):=by
  intro c s2 es2 ro2 h;by_cases hc:b=c
  ·subst hc;rw[List.getElem?_set_self hbl]at h;cases h;exact .inl ⟨rfl,rfl,rfl,rfl⟩
  ·rw[List.getElem?_set_ne hc]at h;exact .inr ⟨Ne.symm hc,h⟩
 have rowof:∀(c:Nat) s2 es2 ro2,(List.set H b (Blk.row s es' false))[c]?=some (Blk.row s2 es2 ro2)→∃ s3 es3 ro3,H[c]?=some (Blk.row s3 es3 ro3):=by
  intro c s2 es2 ro2 h;rcases cs _ _ _ _ h with ⟨rfl,_,_,_⟩|⟨_,h⟩
  ·exact⟨_,_,_,hb⟩
  ·exact⟨_,_,_,h⟩
 have st:∀(c:Nat)(o:Blk),(List.set H b (Blk.row s es' false))[c]?=some o→(c=b∧o=Blk.row s es' false)∨(c≠b∧H[c]?=some o):=by
  intro c o h;by_cases hc:b=c
  ·subst hc;rw[List.getElem?_set_self hbl]at h;cases h;exact .inl ⟨rfl,rfl⟩
  ·rw[List.getElem?_set_ne hc]at h;exact .inr ⟨Ne.symm hc,h⟩
 have hoh:ObjH (w.setRow p.B ⟨pre++(vs' ++ post')⟩) im γ B0 (H.set b (.row s es' false)):=by
  refine hR.oh.mono (fun c o h h2=>?_) (fun c o q X h h2 hq hX=>?_) (by simp) hk (fun _ _ h=>h) (fun c c' o o' q q' X hne h h2 h3 hq hq' hX=>?_)
  ·rcases st _ _ h with ⟨_,rfl⟩|⟨_,h⟩
   ·cases h2
   ·exact h
  ·have hcb:c≠b:=fun e=>by rw[e,hb]at h;cases h;cases h2
   have hXB:X≠p.B:=fun e=>hR.oh.sep c b o _ q p X hcb h h2 hb hq hg hX e;obtain⟨q',e1,_,e2⟩:=hR.oh.obj c o h h2;rw[hq]at e1;cases e1;exact⟨setRow_other _ _ _ _ hXB,(e2 X hX).2.2⟩
  ·rcases st _ _ h3 with ⟨rfl,rfl⟩|⟨_,h3⟩
   ·rw[hg]at hq';cases hq';exact(hR.oh.sep c c' o (.row s es false) q p X hne h h2 hb hq hg hX:¬gI w p (.row s es false) X)
   ·exact hR.oh.sep c c' o o' q q' X hne h h2 h3 hq hq' hX
 refine⟨⟨?_,?_,fun B hB=>by simpa using hR.imlt B hB,fun c hc=>hR.fresh c (by simpa using hc),by simpa using hR.size,hoh⟩,hK⟩
 ·intro c s2 es2 ro2 h;rcases cs _ _ _ _ h with ⟨rfl,rfl,rfl,rfl⟩|⟨hc,h⟩
  ·exact .inl ⟨p,hg,hr.hs,hr.hB,hr.hi,hr.hw,hl,pre,vs',post',ty,fz,setRow_heap w _ _ _ _ _ h1,h2,hv.keep hK,h1',h5,by omega⟩
  ·rcases hR.row _ _ _ _ h with ⟨q,hq,hr2⟩|hn
   ·exact .inl ⟨q,hq,hr2.keep hK (setRow_other _ _ _ _ (hR.inj _ _ _ _ _ _ _ _ _ _ hc h hb hq hg))⟩
   ·exact .inr hn
 ·intro c c' s1 es1 ro1 s2 es2 ro2 p1 p2 hne h h' hp hp';obtain⟨_,_,_,h⟩:=rowof _ _ _ _ h;obtain⟨_,_,_,h'⟩:=rowof _ _ _ _ h';exact hR.inj _ _ _ _ _ _ _ _ _ _ hne h h' hp hp'
theorem dY (P:Program)(g o:Nat)(t:TypeId)(fz:Nat×Nat):∀(vs:List Value)(i:Nat)(cur:Array Value)(w:World),w.heap[g]?=some (.cells cur t fz)→(∀ k,k < vs.length→¬(fz.1≤o+i+k∧o+i+k < fz.2))→o+i+vs.length≤cur.size→(∀ v∈vs,v.oneCell'=true)→
 (storeCells ⟨g,o,none⟩ vs i).run P w = .ok () (w.setRow g (cur.toList.take (o+i)++vs++cur.toList.drop (o+i+vs.length)).toArray)
 | [],i,cur,w,hg,_,_,_=>by
  simp only[storeCells,List.append_nil,List.length_nil,Nat.add_zero,List.take_append_drop,Array.toArray_toList];rw[setRow_self w g cur t fz hg];rfl
 | v::rest,i,cur,w,hg,hfz,hl,h1=>by
  have hi:o+i < cur.size:=by simp at hl;omega
  have hadd:(⟨g,o,none⟩:Addr).add i=⟨g,o+i,none⟩:=by unfold Addr.add;split<;>simp_all
  have hcell:w.cell? ⟨g,o+i,none⟩=some cur[o+i]:=by simp[World.cell?,hg,hi]
  have hfro:w.frozen? ⟨g,o+i,none⟩=false:=by
   obtain⟨lo,hi'⟩:=fz;have:=hfz 0 (by simp);simp only[World.frozen?,hg,Bool.and_eq_false_iff,decide_eq_false_iff_not];simp only[Nat.add_zero]at this;omega
  have hst:(store ((⟨g,o,none⟩:Addr).add i) v).run P w = .ok () (w.setRow g (cur.setIfInBounds (o+i) v)):=by
   rw[hadd,run_store P w _ v _ (h1 v (by simp)),hcell];simp[hfro,setCell_eq_setRow w g (o+i) cur t fz v hg]
  have ih:=dY P g o t fz rest (i+1) (cur.setIfInBounds (o+i) v) (w.setRow g (cur.setIfInBounds (o+i) v)) (setRow_heap w g cur _ t _ hg) (fun k hk=>by have:=hfz (k+1) (by simp;omega);rw[show o+(i+1)+k=o+i+(k+1) by omega];exact this) (by simp at hl ⊢;omega) (fun x hx=>h1 x (by simp[hx]));simp only[storeCells,Sem.run_bind,hst,Result.andThen_ok,ih,setRow_setRow];congr 3;have e:=list_seg_step cur.toList (o+i) v rest (by simp at hl ⊢;omega);simpa[Array.toList_setIfInBounds,Nat.add_assoc]using e
theorem zX:∀(l:List V)(j:Nat)(vs:List V),j+vs.length≤l.length→sC l j vs=l.take j++(vs++l.drop (j+vs.length))
 | l,j,[],h=>by
  have:sC l j []=l:=by cases l<;>cases j<;>rfl
  rw[this];simp
 | [],j,v::vs,h=>by simp at h
 | c::l,0,v::vs,h=>by
  have ih:=zX l 0 vs (by simp at h ⊢;omega);rw[sC,ih];simp
 | c::l,j+1,v::vs,h=>by
  have ih:=zX l j (v::vs) (by simp at h ⊢;omega);rw[sC,ih];simp only[List.take_succ_cons,List.cons_append,List.length_cons];rw[show j+1+(vs.length+1)=(j+(vs.length+1))+1 by omega,List.drop_succ_cons]
theorem yE {e v:V}{j:Nat}(h:j+v.cells.length≤e.cells.length):(Ls e j v).cells=e.cells.take j++(v.cells++e.cells.drop (j+v.cells.length)):=by
 unfold Ls;split
 ·rename_i hc;obtain⟨rfl,hc⟩:=hc;rw[Nat.zero_add,hc,List.take_zero,List.drop_eq_nil_of_le (Nat.le_refl _)];simp
 ·show sC _ _ _=_;exact zX _ _ _ h
theorem Sl {B0:Nat}{H H':aA}(hR:RelH w im γ B0 H)(ht:TabOk P tab){t:TypeId}{p v:V}{x y:Value}(hp:Rv w im γ p x)(hv:Rv w im γ v y)(hf:v.fit=true)(hl:Ks tab H t p v=some H') :
 ∃ w',(Instr.storeAt t x y).run P w = .ok () w'∧RelH w' im γ B0 H'∧Keep w im γ w' im γ∧Below B0 w w':=by
 unfold Ks at hl;split at hl
 ·rename_i b i j;obtain⟨p,hg,rfl⟩:=hp.ptr_inv;split at hl
  ·rename_i s' es hH;split at hl
   ·rename_i e hE;split at hl
    ·rename_i hc;obtain⟨hk,hsz,hjl⟩:=hc;cases hl;have hr:=hR.at hH hg;have hss:p.s=s':=hr.hs;subst hss;obtain⟨pre,vs,post,ty,fz,h1,h2,h3,h4,h5,h6⟩:=hr.hm;obtain⟨cv,c1⟩:=hv.cells hf;have hcl:=cv.len;have hyv:y.cells.size=v.cells.length:=by simpa using hcl
     have h3':=h3;rw[jQ hE]at h3';obtain⟨a,b2,e1,k1,k2⟩:=h3'.split;obtain⟨m,c,e2,k3,k4⟩:=k2.split;subst e1 e2;have hil:=(List.getElem?_eq_some_iff.1 hE).1;have hla:a.length=i*p.s:=by
      rw[k1.len,cN (s:=p.s) (fun e he=>hr.hl e (List.mem_of_mem_take he)),List.length_take];rw[Nat.min_eq_left (by omega)]
     have hml:=k3.len;have hes:e.cells.length=p.s:=hr.hl e (List.mem_of_getElem? hE);obtain⟨ti,d,q1,q2,q3,q4,q5,q6,q7⟩:=cY (ht:=ht) hk;have hrun:(storeVar t ⟨p.B,p.O+i*p.s+j,none⟩ y).run P w = .ok () (w.setRow p.B ⟨pre++((a++((m.take j++(y.cells.toList++m.drop (j+v.cells.length)))++c))++post)⟩):=by
      have hst:=dY P p.B (p.O+i*p.s+j) ty fz y.cells.toList 0 _ w h1 (fun k hk=>by
       have:=h5 (p.O+i*p.s+j+0+k) (by omega) (by simp at h6 hk;omega);exact this) (by simp at h2 ⊢;omega) c1
      simp only[Nat.add_zero,Array.length_toList]at hst;unfold storeVar;simp only[Sem.run_bind,q7,Result.andThen_ok];have hys:y.cells.size=(tab t).size:=by rw[←hsz];simpa using hcl
      rw[if_neg (by simp[hys])];rw[hst];congr 2;have hy:y.cells.size=v.cells.length:=by simpa using hcl
      rw[hy];have e0:pre++(a++(m++c)++post)=(pre++a)++(m++(c++post)):=by simp
      have lpa:(pre++a).length=p.O+i*p.s:=by simp[h2,hla]
      congr 1;rw[e0,show p.O+i*p.s+j=(pre++a).length+j by omega,List.take_length_add_append,Nat.add_assoc,List.drop_length_add_append,List.take_append_of_le_length (by omega),List.drop_append_of_le_length (by omega)];simp
     have hnew:=hR.setRow (vs':=a++((m.take j++(y.cells.toList++m.drop (j+v.cells.length)))++c)) (post':=post) hH hg h1 h2 h5 h6 (es':=es.set i (Ls e j v)) (fun e' he'=>by
      rcases List.mem_or_eq_of_mem_set he' with h|rfl
      ·exact hr.hl _ h
      ·rw[yE hjl];simp;omega) (by
      have hset:(es.set i (Ls e j v))[i]?=some (Ls e j v):=List.getElem?_set_self hil;rw[jQ hset,List.take_set_of_le (Nat.le_refl _),List.drop_set_of_lt (by omega),yE hjl];exact k1.append ((RvL.append (k3.take j) (cv.append (k3.drop _))).append k4)) (by
      intro u hu;simp only[List.mem_append]at hu;rcases hu with hu|(hu|hu|hu)|hu
      ·exact h4 u (by simp[hu])
      ·exact h4 u (by simp[List.mem_of_mem_take hu])
      ·exact c1 u hu
      ·exact h4 u (by simp[List.mem_of_mem_drop hu])
      ·exact h4 u (by simp[hu])) (by simp;simp at hcl;omega)
     refine⟨_,?_,hnew.1,hnew.2,?_⟩
     ·simp only[Instr.storeAt,Instr.sureAddr,Sem.run_bind,Sem.run_pure,Result.andThen_ok];exact hrun
     ·exact⟨rfl,rfl,rfl,by simp,fun k hk=>setRow_other _ _ _ _ (by have:=hr.hB;omega)⟩
    ·cases hl
   ·cases hl
  ·cases hl
 ·cases hl
end
section
open Go Go.RowKit
variable {w w':World}{im im':Nat→Prop}{γ γ':fK}{P:Program}{tab:cR}
def aY (P:Program)(o:Oper)(a:Act)(w:World)(im:Nat→Prop)(γ:fK)(B0:Nat)(v:V)(H':aA):Prop:=
 ∃ x w' γ',(∀ next Q,next (a.put o.dst x) w'→o.wp P a w next Q)∧Rv w' im γ' v x∧RelH w' im γ' B0 H'∧Keep w im γ w' im γ'∧Below B0 w w'
theorem aP {T:List V}{a:Act}(hT:RvL w im γ T a.tmps.toList)(x:Operand):Rv w im γ (ev T x) (a.eval x):=by
 cases x with
 | tmp t=>
  simp only[ev,Act.eval];rw[List.getD_eq_getElem?_getD,Array.getD_eq_getD_getElem?];cases h:T[t]? with
  | none=>
   have:a.tmps[t]?=none:=by
    rw[Array.getElem?_eq_none_iff];have:=hT.len;have h2:=List.getElem?_eq_none_iff.1 h;simp at this;omega
   rw[this];exact .tree _ _ (.tup [] [] .nil)
  | some v=>
   obtain⟨y,hy,hr⟩:=hT.get t v h;have:a.tmps[t]?=some y:=by simpa using hy
   rw[this];exact hr
 | const v=>exact .tree _ _ (jL v)
 | global g=>exact .glob g
 | func f=>exact .tree _ _ (.fn f)
theorem tP {T:List V}{a:Act}(hT:RvL w im γ T a.tmps.toList):∀ l:List Operand,RvL w im γ (l.map (ev T)) (l.map a.eval)
 | [] => .nil
 | x::l => .cons _ _ _ _ (aP hT x) (tP hT l)
variable {o:Oper}{a:Act}{B0:Nat}{H H':aA}{T:List V}{v:V}
theorem jF {x:Value}{w':World}(h:(execOp a.eval o).run P w = .ok (.value x) w'):∀ next Q,next (a.put o.dst x) w'→o.wp P a w next Q:=by
 intro next Q hn
 unfold Oper.wp;rw[h];exact hn
theorem aY.pure {x:Value}(hR:RelH w im γ B0 H)(h:(execOp a.eval o).run P w = .ok (.value x) w)(hv:Rv w im γ v x):aY P o a w im γ B0 v H:=
 ⟨x,w,γ,jF h,hv,hR,Keep.refl,Below.refl _ _⟩
theorem FO.of_val {x:Option V}(h:FO.of x H = .val v H'):x=some v∧H'=H:=by
 cases x with
 | none=>cases h
 | some y=>cases h;exact⟨rfl,rfl⟩
theorem Pj {x:Operand}(hR:RelH w im γ B0 H)(hT:RvL w im γ T a.tmps.toList)(ho:o.op = .move x∨o.op = .assign x):aY P o a w im γ B0 (ev T x) H:=by
 refine aY.pure (x:=a.eval x) hR ?_ (aP hT x);rcases ho with ho|ho<;>simp[execOp,ho]
theorem Sy {c x y:Operand}{t:Bool}(hR:RelH w im γ B0 H)(hT:RvL w im γ T a.tmps.toList)(ho:o.op = .pick c x y)(hc:ev T c = .bool t):aY P o a w im γ B0 (if t then ev T x else ev T y) H:=by
 have h:=aP hT c;rw[hc]at h;have hb:=h.bool_inv;refine aY.pure (x:=if t then a.eval x else a.eval y) hR ?_ ?_
 ·simp only[execOp,ho,hb,asBool,Sem.run_bind,Sem.run_pure,Result.andThen_ok]
 ·cases t<;>simp<;>exact aP hT _
theorem oP (t:TypeId)(x:Value):(newVar t x).run P w = .ok ⟨w.heap.size,0,none⟩ (w.alloc (.cells x.cells t)):=by
 simp[newVar,newRow]
theorem Sj (hR:RelH w im γ B0 H){x:Value}(hv:Rv w im γ v x)(hf:v.fit=true)(t:TypeId):∃ γ',RelH (w.alloc (.cells x.cells t)) im γ' B0 (H++[.row v.cells.length [v] false])∧Keep w im γ (w.alloc (.cells x.cells t)) im γ'∧γ' H.length=some ⟨w.heap.size,0,v.cells.length,v.cells.length⟩:=by
 obtain⟨c1,c2⟩:=hv.cells hf;have:=hR.alloc (es:=[v]) (s:=v.cells.length) (by simp) (vs:=x.cells.toList) (post:=[]) (by simpa using c1) c2 t (0,0) (by simp);simp only[List.append_nil,List.length_nil,Nat.add_zero,Array.toArray_toList]at this;refine⟨_,this.1,this.2,?_⟩;have hl:=c1.len;rw[cL];simp at hl;simp[hl]
theorem dH (h:B0≤w.heap.size)(ob:Obj):Below B0 w (w.alloc ob):=(Below.refl _ _).alloc h _
theorem aFn {t:TypeId}{x:Operand}(hR:RelH w im γ B0 H)(hT:RvL w im γ T a.tmps.toList)(ho:o.op = .box t x)(hf:(ev T x).fit=true) :
 aY P o a w im γ B0 (.ptr H.length 0 0) (H++[.row (ev T x).cells.length [ev T x] false]):=by
 obtain⟨γ',h1,h2,h3⟩:=Sj hR (aP hT x) hf t;refine⟨.pointer (some ⟨w.heap.size,0,none⟩),_,γ',jF ?_,?_,h1,h2,dH hR.size _⟩
 ·simp only[execOp,ho,Instr.box,Sem.run_bind,oP,Result.andThen_ok,Sem.run_pure]
 ·simpa using Rv.ptr (w:=w.alloc (.cells (a.eval x).cells t)) (im:=im) H.length 0 0 _ h3
theorem pN {t:TypeId}{i:TypeInfo}{z:Value}(h:P.info? t=some i)(hz:i.zero=some z)(w:World):(zeroValue t).run P w = .ok z w:=by
 simp[zeroValue,typeInfo,h,hz]
theorem Qt {t:TypeId}(hR:RelH w im γ B0 H)(ht:TabOk P tab)(ho:o.op = .alloc t)(hk:(tab t).known=true)(hf:(tab t).zero.fit=true) :
 aY P o a w im γ B0 (.ptr H.length 0 0) (H++[.row (tab t).zero.cells.length [(tab t).zero] false]):=by
 obtain⟨i,d,k1,k2,k3,k4,k5,z,k6,k7⟩:=ht.ok t hk;have hz:Rv w im γ (tab t).zero z:=by rw[←k7];exact .tree _ _ (jL z)
 obtain⟨γ',h1,h2,h3⟩:=Sj hR hz hf t;refine⟨.pointer (some ⟨w.heap.size,0,none⟩),_,γ',jF ?_,?_,h1,h2,dH hR.size _⟩
 ·simp only[execOp,ho,Instr.alloc,Sem.run_bind,pN k1 k6,oP,Result.andThen_ok,Sem.run_pure]
 ·simpa using Rv.ptr (w:=w.alloc (.cells z.cells t)) (im:=im) H.length 0 0 _ h3
theorem Ty {t:TypeId}{p:Operand}(hR:RelH w im γ B0 H)(ht:TabOk P tab)(hT:RvL w im γ T a.tmps.toList)(ho:o.op = .load t p)(hl:rJ tab H t (ev T p)=some v):aY P o a w im γ B0 v H:=by
 obtain⟨y,h1,h2⟩:=Od hR ht (aP hT p) hl;refine aY.pure (x:=y) hR ?_ h2;simp only[execOp,ho,Sem.run_bind,h1,Result.andThen_ok,Sem.run_pure]
theorem Nt {t:TypeId}{p x:Operand}(hR:RelH w im γ B0 H)(ht:TabOk P tab)(hT:RvL w im γ T a.tmps.toList)(ho:o.op = .store t p x)(hf:(ev T x).fit=true)(hl:Ks tab H t (ev T p) (ev T x)=some H'):aY P o a w im γ B0 undef H':=by
 obtain⟨w',h1,h2,h3,h4⟩:=Sl hR ht (aP hT p) (aP hT x) hf hl;refine⟨Go.undef,w',γ,fun next Q hn=>?_,.tree _ _ (.tup [] [] .nil),h2,h3,h4⟩;unfold Oper.wp;simp only[execOp,ho,Sem.run_bind,h1,Result.andThen_ok,Sem.run_pure];exact hn
theorem sP {x:Operand}(hR:RelH w im γ B0 H)(hT:RvL w im γ T a.tmps.toList)(ho:o.op = .nilCheck x)(hx:∃ b i j e,ev T x = .ptr b i j∨ev T x = .ip e j):aY P o a w im γ B0 (ev T x) H:=by
 have h:=aP hT x;obtain⟨b,i,j,e,hx|hx⟩:=hx
 ·refine aY.pure (x:=a.eval x) hR ?_ h;rw[hx]at h;obtain⟨p,_,e⟩:=h.ptr_inv;simp[execOp,ho,e]
 ·refine aY.pure (x:=a.eval x) hR ?_ h;rw[hx]at h;obtain⟨B,O,cs,_,_,_,_,e⟩:=h.ip_inv;simp[execOp,ho,e]
theorem sH {t ft:TypeId}{f off:Nat}{fs:List (Nat×TypeId)}(ht:TabOk P tab)(hd:(tab t).desc = .struct fs)(hf:fs[f]?=some (off,ft))(hk:(tab ft).known=true)(hs:(tab ft).size≠0)(B O:Nat) :
 (Instr.fieldAt t (.pointer (some ⟨B,O,none⟩)) f).run P w = .ok (.pointer (some ⟨B,O+off,none⟩)) w:=by
 have hkt:(tab t).known=true:=by unfold TI.known;rw[hd]
 obtain⟨i,d,k1,k2,k3,k4,k5,k6,k7⟩:=cY (ht:=ht) hkt;obtain⟨i',d',l1,l2,l3,l4,l5,l6,l7⟩:=cY (ht:=ht) hk;rw[hd]at k3;cases d<;>simp[dA]at k3;rename_i fields;rw[←k3]at hf;simp only[List.getElem?_map,Option.map_eq_some_iff]at hf;obtain⟨g,hg,he⟩:=hf;cases he;have hg':fields[f]?=some g:=by simpa using hg
 have hadd:(⟨B,O,none⟩:Addr).add g.offset=⟨B,O+g.offset,none⟩:=Addr.add_mid _ _ _;simp only[Instr.fieldAt,Sem.run_bind,run_underlying k2,Result.andThen_ok,hg',Instr.sureAddr,Sem.run_pure,Go.fieldPlace,l7];rw[if_neg hs];simp only[Sem.run_pure,Result.andThen_ok,hadd]
theorem pT {t ft:TypeId}{x:Operand}{f off:Nat}{fs:List (Nat×TypeId)}(hR:RelH w im γ B0 H)(ht:TabOk P tab)(hT:RvL w im γ T a.tmps.toList)(ho:o.op = .fieldAddr t x f)(hd:(tab t).desc = .struct fs)(hf:fs[f]?=some (off,ft))(hk:(tab ft).known=true)(hs:(tab ft).size≠0) :
 (∀ b i j,ev T x = .ptr b i j→aY P o a w im γ B0 (.ptr b i (j+off)) H)∧(∀ e j,ev T x = .ip e j→aY P o a w im γ B0 (.ip e (j+off)) H):=by
 have h:=aP hT x;refine⟨fun b i j hx=>?_,fun e j hx=>?_⟩
 ·rw[hx]at h;obtain⟨p,hp,e⟩:=h.ptr_inv;refine aY.pure (x:=.pointer (some ⟨p.B,p.O+i*p.s+(j+off),none⟩)) hR ?_ (.ptr b i (j+off) p hp);simp only[execOp,ho,e,Sem.run_bind,sH ht hd hf hk hs,Result.andThen_ok,Sem.run_pure,Nat.add_assoc]
 ·rw[hx]at h;obtain⟨B,O,cs,h1,h2,h3,h4,e⟩:=h.ip_inv;refine aY.pure (x:=.pointer (some ⟨B,O+(j+off),none⟩)) hR ?_ (.ip _ (j+off) B O cs h1 h2 h3 h4);simp only[execOp,ho,e,Sem.run_bind,sH ht hd hf hk hs,Result.andThen_ok,Sem.run_pure,Nat.add_assoc]
theorem Ot {t ft:TypeId}{x:Operand}{f off:Nat}{fs:List (Nat×TypeId)}{cs:List V}(hR:RelH w im γ B0 H)(ht:TabOk P tab)(hT:RvL w im γ T a.tmps.toList)(ho:o.op = .field t x f)(hd:(tab t).desc = .struct fs)(hf:fs[f]?=some (off,ft))(hx:ev T x = .agg cs)(hp:Fa (tab ft) cs off=some v) :
 aY P o a w im γ B0 v H:=by
 have h:=aP hT x;rw[hx]at h;obtain⟨xs,e,h1,h2⟩:=h.agg_inv;obtain⟨y,hy,hv⟩:=Ij h2 h1 ht hp;have hkt:(tab t).known=true:=by unfold TI.known;rw[hd]
 obtain⟨i,d,k1,k2,k3,k4,k5,k6,k7⟩:=cY (ht:=ht) hkt;rw[hd]at k3;cases d<;>simp[dA]at k3;rename_i fields;rw[←k3]at hf;simp only[List.getElem?_map,Option.map_eq_some_iff]at hf;obtain⟨g,hg,he⟩:=hf;cases he;have hg':fields[f]?=some g:=by simpa using hg
 refine aY.pure (x:=y) hR ?_ hv;simp only[execOp,ho,e,Instr.field,Sem.run_bind,run_underlying k2,Result.andThen_ok,hg',asAgg,Sem.run_pure,hy]
theorem Ih {x:Operand}{ix:Nat}{vs:List V}(hR:RelH w im γ B0 H)(hT:RvL w im γ T a.tmps.toList)(ho:o.op = .extract x ix)(hx:ev T x = .tup vs)(hi:vs[ix]?=some v):aY P o a w im γ B0 v H:=by
 have h:=aP hT x;rw[hx]at h;obtain⟨xs,e,h2⟩:=h.tup_inv;obtain⟨y,hy,hv⟩:=h2.get ix v hi;refine aY.pure (x:=y) hR ?_ hv;simp[execOp,ho,e,Instr.extract,hy]
theorem Ry {op:UnOp}{t:TypeId}{x:Operand}(hR:RelH w im γ B0 H)(hT:RvL w im γ T a.tmps.toList)(ho:o.op = .unOp op t x)(hv:unV op (ev T x)=some v):aY P o a w im γ B0 v H:=by
 have h:=aP hT x;unfold unV at hv;split at hv
 ·rename_i k n hx;cases hv;rw[hx]at h;have e:=h.int_inv;exact aY.pure (x:=.int k (k.wrap (0 - n))) hR (by simp[execOp,ho,e,Op.unary,Op.intArith]) (.tree _ _ (.int _ _))
 ·rename_i k n hx;cases hv;rw[hx]at h;have e:=h.int_inv;exact aY.pure (x:=.int k (k.wrap (BitVec.ofInt k.bits (if k.signed then -1 else k.max) ^^^ BitVec.ofInt k.bits n).toNat)) hR (by simp[execOp,ho,e,Op.unary,Op.intBits]) (.tree _ _ (.int _ _))
 ·rename_i b hx;cases hv;rw[hx]at h;have e:=h.bool_inv;exact aY.pure (x:=.bool !b) hR (by simp[execOp,ho,e,Op.unary]) (.tree _ _ (.bool _))
 ·rename_i b hx;cases hv;rw[hx]at h;have e:=h.flt_inv;exact aY.pure (x:=.float .f64 (Op.negFloat .f64 b)) hR (by simp[execOp,ho,e,Op.unary]) (.tree _ _ (.flt _))
 ·cases hv
theorem rE {t:TypeId}{x:Operand}(hR:RelH w im γ B0 H)(ht:TabOk P tab)(hT:RvL w im γ T a.tmps.toList)(ho:o.op = .makeInterface t x)(hk:(tab t).known=true)(hd:∀ m,(tab t).desc ≠ .iface m):aY P o a w im γ B0 (.iface t (ev T x)) H:=by
 obtain⟨i,d,k1,k2,k3,k4,k5,k6,k7⟩:=cY (ht:=ht) hk;refine aY.pure (x:=.iface t (a.eval x)) hR ?_ (.iface _ _ _ (aP hT x));have:∀ ms,d ≠ .interface ms:=fun ms e=>by subst e;exact hd _ k3.symm
 simp only[execOp,ho,Instr.makeInterface,Sem.run_bind,run_underlying k2,Result.andThen_ok];cases d<;>simp at this ⊢
theorem Bd {f:FuncId}{p c:Array Operand}(hR:RelH w im γ B0 H)(hT:RvL w im γ T a.tmps.toList)(ho:o.op = .makeFunc (.func f) p c):aY P o a w im γ B0 (.fn f (p.toList.map (ev T)) (c.toList.map (ev T))) H:=by
 refine aY.pure (x:=.func (.func f) ⟨p.toList.map a.eval⟩ ⟨c.toList.map a.eval⟩) hR ?_ (.fn _ _ _ _ _ (tP hT _) (tP hT _));simp only[execOp,ho,Instr.makeFunc,Sem.run_bind,Sem.run_pure,Result.andThen_ok];congr 3<;>(apply Array.ext';simp)
theorem oF {x:Operand}{u t tt:TypeId}{ok:Bool}{y:V}(hR:RelH w im γ B0 H)(ht:TabOk P tab)(hT:RvL w im γ T a.tmps.toList)(ho:o.op = .typeAssert x tt t ok)(hk:(tab t).known=true)(hd:∀ m,(tab t).desc ≠ .iface m)(hx:ev T x = .iface u y) :
 (u=t→aY P o a w im γ B0 (if ok then .tup [y,.bool true]else y) H)∧(u≠t→ok=true→aY P o a w im γ B0 (.tup [(tab t).zero,.bool false]) H):=by
 obtain⟨i,d,k1,k2,k3,k4,k5,z,k6,k7⟩:=ht.ok t hk;have h:=aP hT x;rw[hx]at h;obtain⟨x',e,hy⟩:=h.iface_inv;have hni:∀ ms,d ≠ .interface ms:=fun ms e=>by subst e;exact hd _ k3.symm
 refine⟨fun hu=>?_,fun hu hok=>?_⟩
 ·refine aY.pure (x:=if ok then .tuple #[x',.bool true]else x') hR ?_ ?_
  ·simp only[execOp,ho,Instr.typeAssert,Sem.run_bind,run_underlying k2,Result.andThen_ok,e];cases d<;>simp[hu]at hni ⊢
  ·cases ok
   ·exact hy
   ·exact .tup _ _ (.cons _ _ _ _ hy (.cons _ _ _ _ (.tree _ _ (.bool true)) .nil))
 ·subst hok;refine aY.pure (x:=.tuple #[z,.bool false]) hR ?_ ?_
  ·simp only[execOp,ho,Instr.typeAssert,Sem.run_bind,run_underlying k2,Result.andThen_ok,e];cases d<;>simp[hu,pN k1 k6]at hni ⊢
  ·rw[←k7];exact .tup _ _ (.cons _ _ _ _ (.tree _ _ (jL z)) (.cons _ _ _ _ (.tree _ _ (.bool false)) .nil))
end
section
open Go Go.RowKit
variable {w w':World}{im im':Nat→Prop}{γ γ':fK}{P:Program}{tab:cR}
variable {o:Oper}{a:Act}{B0:Nat}{H H':aA}{T:List V}{v:V}
theorem cU {t:TypeId}(h:(tab t).desc ≠ .other):(tab t).known=true:=by
 unfold TI.known;split
 ·rename_i e;exact absurd e h
 ·rfl
theorem vD (ht:TabOk P tab){t:TypeId}(h:(tab t).size≠0):(tab t).known=true:=by
 cases hk:(tab t).known with
 | true=>rfl
 | false=>exact absurd (ht.unk t hk) h
theorem Nu {es:List V}{x:Value}(h:Tv w im (.imm es) x){i:Nat}{e:V}(hi:es[i]?=some e) :
 ∃ B O s cap cs,im B∧x = .slice (some ⟨B,O,none⟩) es.length cap∧(∀ e∈es,e.cells.length=s)∧w.rangeAt B (O+i*s) cs∧(∀ x∈cs,x.oneCell'=true)∧TvL w im e.cells cs:=by
 rcases h.imm_inv with ⟨rfl,_⟩|⟨s,B,O,cap,cs,hne,hB,hcap,hs,hc,h1,hT,rfl⟩
 ·simp at hi
 ·rw[jQ hi]at hT;obtain⟨m,b2,e1,k1,k2⟩:=hT.split;obtain⟨c,d,e2,k3,k4⟩:=k2.split;subst e1 e2;have hil:=(List.getElem?_eq_some_iff.1 hi).1;have hla:m.length=i*s:=by
   have:=k1.len;rw[this,cN (s:=s) (fun e he=>hs e (List.mem_of_mem_take he)),List.length_take,Nat.min_eq_left (by omega)]
  refine⟨B,O,s,cap,c,hB,rfl,hs,?_,fun x hx=>h1 x (by simp[hx]),k3⟩;intro j u hj;have hjl:=(List.getElem?_eq_some_iff.1 hj).1;have:=hc (m.length+j) u (by rw[List.getElem?_append_right (by omega),Nat.add_sub_cancel_left,List.getElem?_append_left hjl];exact hj);rw[hla,←Nat.add_assoc]at this;exact this
theorem tD {t e:TypeId}{x ix:Operand}{b i n:Nat}{k:IntKind}{c:Int}(hR:RelH w im γ B0 H)(ht:TabOk P tab)(hT:RvL w im γ T a.tmps.toList)(ho:o.op = .indexAddr t x ix)(hd:(tab t).desc = .slice e)(hke:(tab e).known=true)
 (hx:ev T x = .sl b i n)(hi:ev T ix = .int k c)(h0:0≤c)(h1:c < n)(hs:∀ p,γ b=some p→p.s=(tab e).size):aY P o a w im γ B0 (.ptr b (i+c.toNat) 0) H:=by
 have hX:=aP hT x;have hI:=aP hT ix;rw[hx]at hX;rw[hi]at hI;have eI:=hI.int_inv;obtain⟨ti,d,k1,k2,k3,k4,k5,k6,k7⟩:=cY (ht:=ht) (cU (by rw[hd];simp):(tab t).known=true);obtain⟨ti',d',l1,l2,l3,l4,l5,l6,l7⟩:=cY (ht:=ht) hke;rw[hd]at k3;cases d<;>simp[dA]at k3;rw[k3]at k2;rcases hX.sl_inv with ⟨p,cap,hp,hn,hN,eX⟩|⟨hn,_⟩
 ·refine aY.pure (x:=.pointer (some ⟨p.B,p.O+(i+c.toNat)*p.s+0,none⟩)) hR ?_ (.ptr b (i+c.toNat) 0 p hp);simp only[execOp,ho,eX,eI,Instr.indexAt,asIntOf,Sem.run_bind,Sem.run_pure,run_underlying k2,Result.andThen_ok,Sem.run_ite];rw[if_pos ⟨h0,h1⟩];simp only[Sem.run_bind,l7,Result.andThen_ok,Sem.run_pure,Addr.add_mid,hs p hp];rw[Nat.add_mul,←Nat.add_assoc,Nat.add_zero]
 ·subst hn;omega
theorem rF {t e:TypeId}{x ix:Operand}{es:List V}{k:IntKind}{c:Int}{u:V}(hR:RelH w im γ B0 H)(ht:TabOk P tab)(hT:RvL w im γ T a.tmps.toList)(ho:o.op = .indexAddr t x ix)(hd:(tab t).desc = .slice e)(hke:(tab e).known=true)
 (hx:ev T x = .imm es)(hi:ev T ix = .int k c)(h0:0≤c)(hu:es[c.toNat]?=some u)(hs:u.cells.length=(tab e).size):aY P o a w im γ B0 (.ip u 0) H:=by
 have hX:=aP hT x;have hI:=aP hT ix;rw[hx]at hX;rw[hi]at hI;have eI:=hI.int_inv;obtain⟨ti,d,k1,k2,k3,k4,k5,k6,k7⟩:=cY (ht:=ht) (cU (by rw[hd];simp):(tab t).known=true);obtain⟨ti',d',l1,l2,l3,l4,l5,l6,l7⟩:=cY (ht:=ht) hke;rw[hd]at k3;cases d<;>simp[dA]at k3;rw[k3]at k2;obtain⟨B,O,s,cap,cs,hB,eX,hss,hr,h1,h2⟩:=Nu hX.imm_inv hu;have hs':s=(tab e).size:=by rw[←hs];exact(hss u (List.mem_of_getElem? hu)).symm
 have hlt:=(List.getElem?_eq_some_iff.1 hu).1;refine aY.pure (x:=.pointer (some ⟨B,O+c.toNat*s+0,none⟩)) hR ?_ (.ip u 0 B (O+c.toNat*s) cs hB hr h1 h2);simp only[execOp,ho,eX,eI,Instr.indexAt,asIntOf,Sem.run_bind,Sem.run_pure,run_underlying k2,Result.andThen_ok,Sem.run_ite];rw[if_pos ⟨h0,by omega⟩];simp only[Sem.run_bind,l7,Result.andThen_ok,Sem.run_pure,Addr.add_mid,←hs',Nat.add_zero]
theorem rG {t e:TypeId}{x ix:Operand}{b i j n:Nat}{k:IntKind}{c:Int}(hR:RelH w im γ B0 H)(ht:TabOk P tab)(hT:RvL w im γ T a.tmps.toList)(ho:o.op = .indexAddr t x ix)(hd:(tab t).desc = .arr n e)(hke:(tab e).known=true)
 (hx:ev T x = .ptr b i j)(hi:ev T ix = .int k c)(h0:0≤c)(h1:c < n):aY P o a w im γ B0 (.ptr b i (j+c.toNat*(tab e).size)) H:=by
 have hX:=aP hT x;have hI:=aP hT ix;rw[hx]at hX;rw[hi]at hI;have eI:=hI.int_inv;obtain⟨ti,d,k1,k2,k3,k4,k5,k6,k7⟩:=cY (ht:=ht) (cU (by rw[hd];simp):(tab t).known=true);obtain⟨ti',d',l1,l2,l3,l4,l5,l6,l7⟩:=cY (ht:=ht) hke;rw[hd]at k3;cases d<;>simp[dA]at k3;rw[k3.1,k3.2]at k2;obtain⟨p,hp,eX⟩:=hX.ptr_inv;refine aY.pure (x:=.pointer (some ⟨p.B,p.O+i*p.s+(j+c.toNat*(tab e).size),none⟩)) hR ?_ (.ptr b i _ p hp);simp only[execOp,ho,eX,eI,Instr.indexAt,asIntOf,Instr.sureAddr,Sem.run_bind,Sem.run_pure,run_underlying k2,Result.andThen_ok,Sem.run_ite];rw[if_pos ⟨h0,h1⟩];simp only[Sem.run_bind,l7,Result.andThen_ok,Sem.run_pure,Addr.add_mid,Nat.add_assoc]
theorem Ma {t:TypeId}{x ix:Operand}{s:List UInt8}{k:IntKind}{c:Int}{u:UInt8}(hR:RelH w im γ B0 H)(ht:TabOk P tab)(hT:RvL w im γ T a.tmps.toList)(ho:o.op = .index t x ix)(hd:(tab t).desc = .str)
 (hx:ev T x = .str s)(hi:ev T ix = .int k c)(h0:0≤c)(hu:s[c.toNat]?=some u):aY P o a w im γ B0 (.int .u8 u.toNat) H:=by
 have hX:=aP hT x;have hI:=aP hT ix;rw[hx]at hX;rw[hi]at hI;have eI:=hI.int_inv;have eX:=hX.str_inv;obtain⟨ti,d,k1,k2,k3,k4,k5,k6,k7⟩:=cY (ht:=ht) (cU (by rw[hd];simp):(tab t).known=true);rw[hd]at k3;cases d<;>simp[dA]at k3;refine aY.pure (x:=.int .u8 u.toNat) hR ?_ (.tree _ _ (.int _ _));have hb:(⟨⟨s⟩⟩:ByteArray)[c.toNat]?=some u:=by
  have hlt:=(List.getElem?_eq_some_iff.1 hu).1;have hs:c.toNat < (⟨⟨s⟩⟩:ByteArray).size:=hlt;rw[getElem?_pos (⟨⟨s⟩⟩:ByteArray) c.toNat hs];have:=(List.getElem?_eq_some_iff.1 hu).2;exact congrArg some this
 simp only[execOp,ho,eX,eI,Instr.index,asIntOf,Sem.run_bind,Sem.run_pure,run_underlying k2,Result.andThen_ok];rw[if_pos h0,hb];rfl
theorem Na {t e:TypeId}{x ix:Operand}{cs:List V}{n:Nat}{k:IntKind}{c:Int}(hR:RelH w im γ B0 H)(ht:TabOk P tab)(hT:RvL w im γ T a.tmps.toList)(ho:o.op = .index t x ix)(hd:(tab t).desc = .arr n e)
 (hx:ev T x = .agg cs)(hi:ev T ix = .int k c)(h0:0≤c)(h1:c < n)(hp:Fa (tab e) cs (c.toNat*(tab e).size)=some v):aY P o a w im γ B0 v H:=by
 have hX:=aP hT x;have hI:=aP hT ix;rw[hx]at hX;rw[hi]at hI;have eI:=hI.int_inv;obtain⟨xs,eX,g1,g2⟩:=hX.agg_inv;obtain⟨y,hy,hv⟩:=Ij g2 g1 ht hp;have hke:(tab e).known=true:=by
  unfold Fa at hp;split at hp
  ·assumption
  ·cases hp
 obtain⟨ti,d,k1,k2,k3,k4,k5,k6,k7⟩:=cY (ht:=ht) (cU (by rw[hd];simp):(tab t).known=true);obtain⟨ti',d',l1,l2,l3,l4,l5,l6,l7⟩:=cY (ht:=ht) hke;rw[hd]at k3;cases d<;>simp[dA]at k3;rw[k3.1,k3.2]at k2;refine aY.pure (x:=y) hR ?_ hv;simp only[execOp,ho,eX,eI,Instr.index,asIntOf,Sem.run_bind,Sem.run_pure,run_underlying k2,Result.andThen_ok,Sem.run_ite];rw[if_pos ⟨h0,h1⟩];simp only[Sem.run_bind,l7,hy,Result.andThen_ok,Sem.run_pure]
theorem gQ {k:IntKind}{c:Int}{y:Nat}(code:BoundsCode)(h0:0≤c)(h1:c≤y):(Instr.sliceBound (.int k c) y code).run P w = .ok c.toNat w:=by
 simp only[Instr.sliceBound,asIntOf,Sem.run_bind,Sem.run_pure,Result.andThen_ok];rw[if_pos ⟨h0,h1⟩];rfl
theorem rV {n d h:Nat}{x:Option Operand}(hT:RvL w im γ T a.tmps.toList)(hb:(match x.map (ev T)with|some (.int _ h)=>if 0≤h∧h≤n then some h.toNat else none|none=>some d|_=>none)=some h) :
 (x=none∧h=d)∨∃ y k c,x=some y∧a.eval y = .int k c∧0≤c∧c≤n∧h=c.toNat:=by
 cases x with
 | none=>simp at hb;exact .inl ⟨rfl,hb.symm⟩
 | some y=>
  simp only[Option.map_some]at hb;have hv:=aP hT y;split at hb
  ·rename_i k c hc1;simp only[Option.some.injEq]at hc1;rw[hc1]at hv;split at hb
   ·rename_i hle;cases hb;exact .inr ⟨y,_,c,rfl,hv.int_inv,hle.1,hle.2,rfl⟩
   ·cases hb
  ·rename_i hc1;cases hc1
  ·cases hb
theorem jI {n cap l h:Nat}{lo hi:Option Operand}(isS:Bool)(hT:RvL w im γ T a.tmps.toList)(hb:nA n (lo.map (ev T)) (hi.map (ev T))=some (l,h))(hc:n≤cap) :
 l≤h∧h≤n∧(Instr.sliceBounds isS n cap (lo.map a.eval) (hi.map a.eval) none).run P w = .ok (l,h,cap) w:=by
 unfold nA at hb;split at hb
 ·rename_i h' e1;split at hb
  ·rename_i l' e2;simp only[Option.some.injEq,Prod.mk.injEq]at hb;obtain⟨rfl,rfl⟩:=hb;rcases rV (d:=n) hT e1 with ⟨rfl,rfl⟩|⟨y,k,c,rfl,hy,c0,c1,rfl⟩
   ·rcases rV (d:=0) hT e2 with ⟨rfl,rfl⟩|⟨y2,k2,c2,rfl,hy2,d0,d1,rfl⟩
    ·exact⟨Nat.zero_le _,Nat.le_refl _,by simp[Instr.sliceBounds]⟩
    ·exact⟨by omega,Nat.le_refl _,by simp[Instr.sliceBounds,hy2,gQ _ d0 d1]⟩
   ·rcases rV (d:=0) hT e2 with ⟨rfl,rfl⟩|⟨y2,k2,c2,rfl,hy2,d0,d1,rfl⟩
    ·exact⟨Nat.zero_le _,by omega,by simp[Instr.sliceBounds,hy,gQ (y:=cap) _ c0 (by omega)]⟩
    ·exact⟨by omega,by omega,by simp[Instr.sliceBounds,hy,hy2,gQ (y:=cap) _ c0 (by omega),gQ _ d0 d1]⟩
  ·cases hb
 ·cases hb
end
section
open Go Go.RowKit
variable {w w':World}{im im':Nat→Prop}{γ γ':fK}{P:Program}{tab:cR}
variable {o:Oper}{a:Act}{B0:Nat}{H H':aA}{T:List V}{v:V}
theorem dE (ht:TabOk P tab){t:TypeId}{d:TD}(hd:(tab t).desc=d)(hk:d ≠ .other):∃ d',P.underlying t=some d'∧dA d'=d:=by
 obtain⟨i,d',k1,k2,k3,_⟩:=ht.ok t (cU (by rw[hd];exact hk));exact⟨d',k2,by rw[k3,hd]⟩
theorem wI (s:List UInt8)(l h:Nat):(⟨⟨s⟩⟩:ByteArray).extract l h=⟨⟨(s.drop l).take (h - l)⟩⟩:=by
 have:((⟨⟨s⟩⟩:ByteArray).extract l h).data=⟨(s.drop l).take (h - l)⟩:=by
  apply Array.ext';simp[ByteArray.extract,ByteArray.copySlice,List.extract_eq_take_drop]
 rw[←this]
theorem Ia {t:TypeId}{x:Operand}{lo hi:Option Operand}{s:List UInt8}{l h:Nat}(hR:RelH w im γ B0 H)(ht:TabOk P tab)(hT:RvL w im γ T a.tmps.toList)(ho:o.op = .slice t x lo hi none)(hd:(tab t).desc = .str)(hx:ev T x = .str s)
 (hb:nA s.length (lo.map (ev T)) (hi.map (ev T))=some (l,h)):aY P o a w im γ B0 (.str ((s.drop l).take (h - l))) H:=by
 have hX:=aP hT x;rw[hx]at hX;have eX:=hX.str_inv;obtain⟨d,k2,k3⟩:=dE ht hd (by simp);cases d<;>simp[dA]at k3;obtain⟨h1,h2,h3⟩:=jI (P:=P) (w:=w) (cap:=s.length) false hT hb (Nat.le_refl _);refine aY.pure (x:=.string ⟨⟨(s.drop l).take (h - l)⟩⟩) hR ?_ (.tree _ _ (.str _));have hsz:(⟨⟨s⟩⟩:ByteArray).size=s.length:=rfl;simp only[execOp,ho,eX,Option.map_none,Instr.sliceAt,Sem.run_bind,run_underlying k2,Result.andThen_ok,Instr.slice,Option.isSome_none,Bool.false_eq_true,if_false,Sem.run_pure,hsz,h3,wI]
theorem Ad {t e:TypeId}{x:Operand}{lo hi:Option Operand}{b i n l h:Nat}(hR:RelH w im γ B0 H)(ht:TabOk P tab)(hT:RvL w im γ T a.tmps.toList)(ho:o.op = .slice t x lo hi none)(hd:(tab t).desc = .slice e)(hke:(tab e).known=true)(hx:ev T x = .sl b i n)
 (hb:nA n (lo.map (ev T)) (hi.map (ev T))=some (l,h))(hs:∀ p,γ b=some p→p.s=(tab e).size):aY P o a w im γ B0 (.sl b (i+l) (h - l)) H:=by
 have hX:=aP hT x;rw[hx]at hX;obtain⟨d,k2,k3⟩:=dE ht hd (by simp);cases d<;>simp[dA]at k3;rw[k3]at k2;obtain⟨ti',d',l1,l2,l3,l4,l5,l6,l7⟩:=cY (ht:=ht) hke;rcases hX.sl_inv with ⟨p,cap,hp,hn,hN,eX⟩|⟨hn,ad,eX,hA⟩
 ·obtain⟨h1,h2,h3⟩:=jI (P:=P) (w:=w) (cap:=cap) true hT hb hn;have hps:=hs p hp;by_cases hc:cap=l
  ·subst hc;have e0:h - cap=0:=by omega
   rw[e0];refine aY.pure (x:=.slice (some ⟨p.B,p.O+i*p.s,none⟩) 0 0) hR ?_ (.sl0 b _ _ (.some _ _));simp only[execOp,ho,eX,Option.map_none,Instr.sliceAt,Sem.run_bind,run_underlying k2,Result.andThen_ok,Instr.slice,h3,l7,Sem.run_pure,e0,if_true,Nat.sub_self]
  ·refine aY.pure (x:=.slice (some ⟨p.B,p.O+(i+l)*p.s,none⟩) (h - l) (cap - l)) hR ?_ (.sl b (i+l) (h - l) (cap - l) p hp (by omega) (by rw[show i+l+(cap - l)=i+cap by omega];exact hN));simp only[execOp,ho,eX,Option.map_none,Instr.sliceAt,Sem.run_bind,run_underlying k2,Result.andThen_ok,Instr.slice,h3,l7,Sem.run_pure,hc,if_false,Option.map_some,Addr.add_mid,hps];rw[Nat.add_mul,Nat.add_assoc]
 ·subst hn;obtain⟨h1,h2,h3⟩:=jI (P:=P) (w:=w) (cap:=0) true hT hb (Nat.le_refl _);obtain rfl:h=0:=by omega
  obtain rfl:l=0:=by omega
  refine aY.pure (x:=.slice ad 0 0) hR ?_ (.sl0 b _ _ hA);simp only[execOp,ho,eX,Option.map_none,Instr.sliceAt,Sem.run_bind,run_underlying k2,Result.andThen_ok,Instr.slice,h3,l7,Sem.run_pure,if_true]
theorem gM {s:Nat}:∀{es:List V}(i:Nat),(∀ e∈es,e.cells.length=s)→(es.take i).flatMap V.cells=(es.flatMap V.cells).take (i*s)
 | [],i,_=>by simp
 | e::es,0,_=>by simp
 | e::es,i+1,h=>by
  have hl:=h e (by simp);rw[List.take_succ_cons,List.flatMap_cons,List.flatMap_cons,gM i (fun e he=>h e (by simp[he])),Nat.succ_mul,List.take_append,List.take_of_length_le (l:=e.cells) (by omega),hl,Nat.add_sub_cancel]
theorem iD {s:Nat}:∀{es:List V}(i:Nat),(∀ e∈es,e.cells.length=s)→(es.drop i).flatMap V.cells=(es.flatMap V.cells).drop (i*s)
 | [],i,_=>by simp
 | e::es,0,_=>by simp
 | e::es,i+1,h=>by
  have hl:=h e (by simp);rw[List.drop_succ_cons,List.flatMap_cons,iD i (fun e he=>h e (by simp[he])),Nat.succ_mul,List.drop_append,List.drop_eq_nil_of_le (as:=e.cells) (by omega),hl,Nat.add_sub_cancel,List.nil_append]
theorem Ja {t e:TypeId}{x:Operand}{lo hi:Option Operand}{es:List V}{l h:Nat}(hR:RelH w im γ B0 H)(ht:TabOk P tab)(hT:RvL w im γ T a.tmps.toList)(ho:o.op = .slice t x lo hi none)(hd:(tab t).desc = .slice e)(hke:(tab e).known=true)(hx:ev T x = .imm es)
 (hb:nA es.length (lo.map (ev T)) (hi.map (ev T))=some (l,h))(hs:∀ u∈es,u.cells.length=(tab e).size):aY P o a w im γ B0 (.imm ((es.drop l).take (h - l))) H:=by
 have hX:=aP hT x;rw[hx]at hX;obtain⟨d,k2,k3⟩:=dE ht hd (by simp);cases d<;>simp[dA]at k3;rw[k3]at k2;obtain⟨ti',d',l1,l2,l3,l4,l5,l6,l7⟩:=cY (ht:=ht) hke;have run:∀(A:Option Addr)(cap:Nat),es.length≤cap→a.eval x = .slice A es.length cap→l≤h∧h≤es.length∧(execOp a.eval o).run P w = .ok (.value (.slice (if cap=l then A else A.map (·.add (l*(tab e).size))) (h - l) (cap - l))) w:=by
  intro A cap hcap eX;obtain⟨h1,h2,h3⟩:=jI (P:=P) (w:=w) (cap:=cap) true hT hb hcap;refine⟨h1,h2,?_⟩;simp only[execOp,ho,eX,Option.map_none,Instr.sliceAt,Sem.run_bind,run_underlying k2,Result.andThen_ok,Instr.slice,h3,l7,Sem.run_pure]
 rcases hX.imm_inv.imm_inv with ⟨rfl,A,cap,⟨hA,hA2⟩,eX⟩|⟨s,B,O,cap,cs,hne,hB,hcap,hss,hc,h1,hTv,eX⟩
 ·obtain⟨q1,q2,q3⟩:=run A cap (Nat.zero_le _) eX;simp at q2;subst q2;obtain rfl:l=0:=by omega
  refine aY.pure hR q3 (.tree _ _ ?_);simp only[List.drop_nil,List.take_nil,Nat.sub_self];refine Tv.imm0 _ _ (fun hn=>?_) ?_
  ·split at hn
   ·omega
   ·rw[Option.map_eq_none_iff]at hn;have:=hA hn;omega
  ·split
   ·exact hA2
   ·rcases hA2 with rfl|⟨b,o,rfl⟩
    ·exact .none
    ·simp only[Option.map_some,Addr.add_mid];exact .some _ _
 ·obtain⟨q1,q2,q3⟩:=run _ cap hcap eX;refine aY.pure hR q3 (.tree _ _ ?_);by_cases hz:h=l
  ·subst hz;simp only[Nat.sub_self,List.take_zero];refine Tv.imm0 _ _ (fun hn=>?_) ?_
   ·split at hn<;>simp at hn
   ·split
    ·exact .some _ _
    ·simp only[Option.map_some,Addr.add_mid];exact .some _ _
  ·have hse:s=(tab e).size:=by
    obtain⟨u,hu⟩:=List.exists_mem_of_ne_nil _ hne;rw[←hss u hu,hs u hu]
   have hlen:((es.drop l).take (h - l)).length=h - l:=by simp;omega
   have hcl:¬cap=l:=by omega
   rw[if_neg hcl,Option.map_some,Addr.add_mid,←hse];have key:=Tv.imm (w:=w) (im:=im) ((es.drop l).take (h - l)) s B (O+l*s) (cap - l) ((cs.drop (l*s)).take ((h - l)*s)) (by intro e;rw[e]at hlen;simp at hlen;omega) hB (by omega) (fun u hu=>hss u (List.mem_of_mem_drop (List.mem_of_mem_take hu)))
    (by
     intro j u hj;rw[List.getElem?_take]at hj;split at hj
     ·rw[List.getElem?_drop]at hj;rw[Nat.add_assoc];exact hc _ u hj
     ·cases hj) (fun u hu=>h1 u (List.mem_of_mem_drop (List.mem_of_mem_take hu))) (by
     rw[gM (s:=s) _ (fun u hu=>hss u (List.mem_of_mem_drop hu)),iD (s:=s) _ hss];exact(hTv.drop _).take _)
   rw[hlen]at key;exact key
theorem xH {t e:TypeId}{x:Operand}{lo hi:Option Operand}{l h:Nat}(hR:RelH w im γ B0 H)(ht:TabOk P tab)(hT:RvL w im γ T a.tmps.toList)(ho:o.op = .slice t x lo hi none)(hd:(tab t).desc = .slice e)(hke:(tab e).known=true)(hx:ev T x = .nils)
 (hb:nA 0 (lo.map (ev T)) (hi.map (ev T))=some (l,h)):aY P o a w im γ B0 .nils H:=by
 have hX:=aP hT x;rw[hx]at hX;have eX:=hX.nils_inv;obtain⟨d,k2,k3⟩:=dE ht hd (by simp);cases d<;>simp[dA]at k3;rw[k3]at k2;obtain⟨ti',d',l1,l2,l3,l4,l5,l6,l7⟩:=cY (ht:=ht) hke;obtain⟨h1,h2,h3⟩:=jI (P:=P) (w:=w) (cap:=0) true hT hb (Nat.le_refl _);obtain rfl:h=0:=by omega
 obtain rfl:l=0:=by omega
 refine aY.pure (x:=.slice none 0 0) hR ?_ (.tree _ _ .nils);simp only[execOp,ho,eX,Option.map_none,Instr.sliceAt,Sem.run_bind,run_underlying k2,Result.andThen_ok,Instr.slice,h3,l7,Sem.run_pure,if_true]
theorem lX {op:BinOp}{t:TypeId}{x y:Operand}{k k':IntKind}{m n:Int}:(eqGuard op t x y (.int k m) (.int k' n)).run P w = .ok () w:=by
 unfold eqGuard;split<;>simp
theorem vJ:∀{l:List V}{p:List Int}{xs:List Value},gW l=some p→RvL w im γ l xs→xs=p.map (Value.int .i64)
 | [],_,_,h,.nil=>by simp[gW]at h;subst h;rfl
 | v::l,p,_,h,.cons _ x _ m hx t=>by
  unfold gW at h;split at h
  ·rename_i e;cases e
  ·rename_i n l' e;cases e;split at h
   ·rename_i r hr;cases h;rw[vJ hr t,hx.int_inv];rfl
   ·cases h
  ·cases h
theorem Pa {op:BinOp}{t u:TypeId}{x y:Operand}{k:IntKind}{m n:Int}(hR:RelH w im γ B0 H)(hT:RvL w im γ T a.tmps.toList)(ho:o.op = .binOp op t x y u)(hx:ev T x = .int k m)(hy:ev T y = .int k n)(hv:yR op k m n=some v):aY P o a w im γ B0 v H:=by
 have eX:=(hx▸aP hT x).int_inv;have eY:=(hy▸aP hT y).int_inv;have hrun:∀ z,(binOp op t (.int k m) (.int k n)).run P w = .ok z w→(execOp a.eval o).run P w = .ok (.value z) w:=fun z hz=>by
  simp only[execOp,ho,eX,eY,Sem.run_bind,lX,Result.andThen_ok,hz,Sem.run_pure]
 cases op<;>simp only[yR]at hv<;>first
  | (cases hv;refine aY.pure hR ?_ (.tree _ _ (.int _ _));exact hrun _ (by simp[binOp,Op.intArith,Op.intBits,Op.intCmp]))
  | (cases hv;refine aY.pure hR ?_ (.tree _ _ (.bool _));exact hrun _ (by simp[binOp,Op.intArith,Op.intBits,Op.intCmp]))
  | (
   split at hv
   ·cases hv
   ·rename_i hz;cases hv;refine aY.pure hR ?_ (.tree _ _ (.int _ _));exact hrun _ (by simp[binOp,Op.intDiv,hz]))
  | cases hv
theorem mP {op:BinOp}{t u:TypeId}{x y:Operand}{k k':IntKind}{m n:Int}(hop:op = .shl∨op = .shr)(hR:RelH w im γ B0 H)(hT:RvL w im γ T a.tmps.toList)(ho:o.op = .binOp op t x y u)(hx:ev T x = .int k m)(hy:ev T y = .int k' n)(hv:tJ op k m n=some v):aY P o a w im γ B0 v H:=by
 have eX:=(hx▸aP hT x).int_inv;have eY:=(hy▸aP hT y).int_inv;have hrun:∀ z,(binOp op t (.int k m) (.int k' n)).run P w = .ok z w→(execOp a.eval o).run P w = .ok (.value z) w:=fun z hz=>by
  simp only[execOp,ho,eX,eY,Sem.run_bind,lX,Result.andThen_ok,hz,Sem.run_pure]
 unfold tJ at hv;split at hv
 ·cases hv
 ·rename_i hn;rcases hop with rfl|rfl
  ·cases hv;refine aY.pure hR ?_ (.tree _ _ (.int _ _));exact hrun _ (by simp[binOp,Op.shift,hn])
  ·cases hv;refine aY.pure hR ?_ (.tree _ _ (.int _ _));exact hrun _ (by simp[binOp,Op.shift,hn])
theorem Oa {op:BinOp}{t u:TypeId}{x y:Operand}{m n:List UInt8}(hR:RelH w im γ B0 H)(hT:RvL w im γ T a.tmps.toList)(ho:o.op = .binOp op t x y u)(hx:ev T x = .str m)(hy:ev T y = .str n)(hv:Zi op m n=some v):aY P o a w im γ B0 v H:=by
 have eX:=(hx▸aP hT x).str_inv;have eY:=(hy▸aP hT y).str_inv;have hg:(eqGuard op t x y (.string ⟨⟨m⟩⟩) (.string ⟨⟨n⟩⟩)).run P w = .ok () w:=by unfold eqGuard;split<;>simp
 have hrun:∀ z,(binOp op t (.string ⟨⟨m⟩⟩) (.string ⟨⟨n⟩⟩)).run P w = .ok z w→(execOp a.eval o).run P w = .ok (.value z) w:=fun z hz=>by
  simp only[execOp,ho,eX,eY,Sem.run_bind,hg,Result.andThen_ok,hz,Sem.run_pure]
 have hl:∀ s:List UInt8,(⟨⟨s⟩⟩:ByteArray).toList=s:=fun s=>by rw[ByteArray.toList_eq]
 cases op<;>simp only[Zi]at hv<;>try cases hv
 ·split at hv
  ·rename_i hle;cases hv;refine aY.pure (x:=.string ⟨⟨m++n⟩⟩) hR (hrun _ ?_) (.tree _ _ (.str _));have h1:(⟨⟨m⟩⟩:ByteArray).size=m.length:=rfl;have h2:(⟨⟨n⟩⟩:ByteArray).size=n.length:=rfl;have h3:¬((((⟨⟨m⟩⟩:ByteArray).size+(⟨⟨n⟩⟩:ByteArray).size:Nat):Int) > IntKind.i64.max):=by
    rw[h1,h2];simp only[IntKind.max,IntKind.signed,IntKind.bits];simp;omega
   have h4:(⟨⟨m⟩⟩:ByteArray) ++ ⟨⟨n⟩⟩=⟨⟨m++n⟩⟩:=by
    have:((⟨⟨m⟩⟩:ByteArray) ++ ⟨⟨n⟩⟩).data=⟨m++n⟩:=by rw[ByteArray.data_append];simp
    rw[←this]
   simp only[binOp,Op.stringOp];rw[if_neg h3,h4];rfl
  ·cases hv
 ·exact aY.pure hR (hrun (.bool (m == n)) (by simp[binOp,Op.stringOp,hl])) (.tree _ _ (.bool _))
 ·exact aY.pure hR (hrun (.bool !(m == n)) (by simp[binOp,Op.stringOp,hl])) (.tree _ _ (.bool _))
theorem jH (t:TypeId)(x y:Value):Op.equal t x y=Op.equalIn (9999+1) t x y:=rfl
theorem sI {t:TypeId}{m n:Bool}(h:P.underlying t=some .bool):(Op.equal t (.bool m) (.bool n)).run P w = .ok (m == n) w:=by
 rw[jH,Op.equalIn];simp only[Sem.run_bind,run_underlying h,Result.andThen_ok,Sem.run_pure]
theorem dU {t e:TypeId}{p:Option Addr}(h:P.underlying t=some (.pointer e)):(Op.equal t (.pointer p) (.pointer none)).run P w = .ok p.isNone w:=by
 rw[jH,Op.equalIn];cases p<;>simp only[Sem.run_bind,run_underlying h,Result.andThen_ok,Sem.run_pure]<;>rfl
theorem cV {t e:TypeId}{p:Option Addr}{n c:Nat}(h:P.underlying t=some (.slice e)):(Op.equal t (.slice p n c) (.slice none 0 0)).run P w = .ok p.isNone w:=by
 rw[jH,Op.equalIn];cases p<;>simp only[Sem.run_bind,run_underlying h,Result.andThen_ok,Sem.run_pure]<;>rfl
theorem dF {t:TypeId}{ps rs:Array TypeId}{va:Bool}(h:P.underlying t=some (.func ps rs va)):(Op.equal t .nilFunc .nilFunc).run P w = .ok true w∧∀ f a b,(Op.equal t (.func f a b) .nilFunc).run P w = .ok false w:=by
 refine⟨?_,fun f a b=>?_⟩<;>rw[jH,Op.equalIn]<;>simp only[Sem.run_bind,run_underlying h,Result.andThen_ok,Sem.run_pure]
theorem cW {t:TypeId}{ms:Array (String×TypeId)}(h:P.underlying t=some (.interface ms)):(Op.equal t .nilIface .nilIface).run P w = .ok true w∧∀ u v,(Op.equal t (.iface u v) .nilIface).run P w = .ok false w:=by
 refine⟨?_,fun f a=>?_⟩<;>rw[jH,Op.equalIn]<;>simp only[Sem.run_bind,run_underlying h,Result.andThen_ok,Sem.run_pure]
theorem oG {op:BinOp}{t u:TypeId}{x y:Operand}{m n:Bool}(hR:RelH w im γ B0 H)(ht:TabOk P tab)(hT:RvL w im γ T a.tmps.toList)(ho:o.op = .binOp op t x y u)(hd:(tab t).desc = .bool)(hx:ev T x = .bool m)(hy:ev T y = .bool n) :
 (op = .eql→aY P o a w im γ B0 (.bool (m == n)) H)∧(op = .neq→aY P o a w im γ B0 (.bool (!(m == n))) H):=by
 have eX:=(hx▸aP hT x).bool_inv;have eY:=(hy▸aP hT y).bool_inv;obtain⟨d,k2,k3⟩:=dE ht hd (by simp);cases d<;>simp[dA]at k3;have hg:(eqGuard op t x y (.bool m) (.bool n)).run P w = .ok () w:=by unfold eqGuard;split<;>simp
 refine⟨fun e=>?_,fun e=>?_⟩<;>subst e
 ·exact aY.pure (x:=.bool (m == n)) hR (by simp only[execOp,ho,eX,eY,Sem.run_bind,hg,Result.andThen_ok,binOp,sI k2,Sem.run_pure]) (.tree _ _ (.bool _))
 ·exact aY.pure (x:=.bool (!(m == n))) hR (by simp only[execOp,ho,eX,eY,Sem.run_bind,hg,Result.andThen_ok,binOp,sI k2,Sem.run_pure]) (.tree _ _ (.bool _))
theorem pW {op:BinOp}{t u:TypeId}{x y:Operand}{xs ys:List V}{p q:List Int}(hR:RelH w im γ B0 H)(ht:TabOk P tab)(hT:RvL w im γ T a.tmps.toList)(ho:o.op = .binOp op t x y u)(he:(tab t).eq=true)(hx:ev T x = .agg xs)(hy:ev T y = .agg ys)
 (hp:gW xs=some p)(hq:gW ys=some q)(h1:p.length=(tab t).size)(h2:q.length=(tab t).size) :
 (op = .eql→aY P o a w im γ B0 (.bool (decide (p=q))) H)∧(op = .neq→aY P o a w im γ B0 (.bool (!decide (p=q))) H):=by
 obtain⟨cx,eX,_,rX⟩:=(hx▸aP hT x).agg_inv;obtain⟨cy,eY,_,rY⟩:=(hy▸aP hT y).agg_inv;have e1:=vJ hp rX;have e2:=vJ hq rY;subst e1 e2;obtain⟨k1,k2⟩:=ht.eq t he p q x y w h1 h2;refine⟨fun e=>?_,fun e=>?_⟩<;>subst e
 ·exact aY.pure (x:=.bool (decide (p=q))) hR (by simp only[execOp,ho,eX,eY,Sem.run_bind,k1,Result.andThen_ok,binOp,k2,Sem.run_pure]) (.tree _ _ (.bool _))
 ·exact aY.pure (x:=.bool (!decide (p=q))) hR (by simp only[execOp,ho,eX,eY,Sem.run_bind,k1,Result.andThen_ok,binOp,k2,Sem.run_pure]) (.tree _ _ (.bool _))
theorem pU {op:BinOp}{t u:TypeId}{x y:Operand}{b:Bool}(hR:RelH w im γ B0 H)(ht:TabOk P tab)(hT:RvL w im γ T a.tmps.toList)(ho:o.op = .binOp op t x y u)(hc:nM y=true)(hn:Vt (tab t).desc (ev T x) (ev T y)=some b) :
 (op = .eql→aY P o a w im γ B0 (.bool b) H)∧(op = .neq→aY P o a w im γ B0 (.bool !b) H):=by
 have hX:=aP hT x;have hY:=aP hT y;have key:(∀ op,(eqGuard op t x y (a.eval x) (a.eval y)).run P w = .ok () w)∧(binOp .eql t (a.eval x) (a.eval y)).run P w = .ok (.bool b) w∧(binOp .neq t (a.eval x) (a.eval y)).run P w = .ok (.bool !b) w:=by
  have hcc:∃ cv,y = .const cv:=by cases y<;>simp[nM]at hc;exact⟨_,rfl⟩
  obtain⟨cv,rfl⟩:=hcc;unfold Vt at hn;split at hn<;>try (cases hn)
  all_goals
   rename_i hd h1 h2;rw[h1]at hX;rw[h2]at hY;obtain⟨d,k2,k3⟩:=dE ht hd (by simp);cases d<;>simp[dA]at k3
  ·rw[hX.nilp_inv,hY.nilp_inv];refine⟨fun op=>by unfold eqGuard;split<;>simp,?_,?_⟩<;>first|simp[binOp,dU k2]|simp[binOp,cV k2]|simp[binOp,dF k2]|simp[binOp,cW k2]
  ·obtain⟨p,_,e⟩:=hX.ptr_inv;rw[e,hY.nilp_inv];refine⟨fun op=>by unfold eqGuard;split<;>simp,?_,?_⟩<;>first|simp[binOp,dU k2]|simp[binOp,cV k2]|simp[binOp,dF k2]|simp[binOp,cW k2]
  ·obtain⟨B,O,cs,_,_,_,_,e⟩:=hX.ip_inv;rw[e,hY.nilp_inv];refine⟨fun op=>by unfold eqGuard;split<;>simp,?_,?_⟩<;>first|simp[binOp,dU k2]|simp[binOp,cV k2]|simp[binOp,dF k2]|simp[binOp,cW k2]
  ·rw[hX.nils_inv,hY.nils_inv];refine⟨fun op=>by unfold eqGuard;split<;>simp,?_,?_⟩<;>first|simp[binOp,dU k2]|simp[binOp,cV k2]|simp[binOp,dF k2]|simp[binOp,cW k2]
  ·rcases hX.sl_inv with ⟨p,cap,_,_,_,e⟩|⟨h0,ad,e,_⟩<;>first|(cases h0;done) |
    (rw[e,hY.nils_inv];refine⟨fun op=>by unfold eqGuard;split<;>simp,?_,?_⟩<;>first|simp[binOp,dU k2]|simp[binOp,cV k2]|simp[binOp,dF k2]|simp[binOp,cW k2])
  ·rcases hX.imm_inv.imm_inv with ⟨h0,ad,cap,_,e⟩|⟨s,B,O,cap,cs,_,_,_,_,_,_,_,e⟩<;>first|(cases h0;done) |
    (rw[e,hY.nils_inv];refine⟨fun op=>by unfold eqGuard;split<;>simp,?_,?_⟩<;>first|simp[binOp,dU k2]|simp[binOp,cV k2]|simp[binOp,dF k2]|simp[binOp,cW k2])
  ·rw[hX.nilf_inv,hY.nilf_inv];refine⟨fun op=>by unfold eqGuard;split<;>simp,?_,?_⟩<;>first|simp[binOp,dU k2]|simp[binOp,cV k2]|simp[binOp,dF k2]|simp[binOp,cW k2]
  ·obtain⟨ps,cs,e,_,_⟩:=hX.fn_inv;rw[e,hY.nilf_inv];refine⟨fun op=>by unfold eqGuard;split<;>simp,?_,?_⟩<;>first|simp[binOp,dU k2]|simp[binOp,cV k2]|simp[binOp,dF k2]|simp[binOp,cW k2]
  ·rw[hX.nili_inv,hY.nili_inv];refine⟨fun op=>by unfold eqGuard;split<;>simp,?_,?_⟩<;>first|simp[binOp,dU k2]|simp[binOp,cV k2]|simp[binOp,dF k2]|simp[binOp,cW k2]
  ·obtain⟨z,e,_⟩:=hX.iface_inv;rw[e,hY.nili_inv];refine⟨fun op=>by unfold eqGuard;split<;>simp,?_,?_⟩<;>first|simp[binOp,dU k2]|simp[binOp,cV k2]|simp[binOp,dF k2]|simp[binOp,cW k2]
 obtain⟨k1,k2,k3⟩:=key;refine⟨fun e=>?_,fun e=>?_⟩<;>subst e
 ·exact aY.pure (x:=.bool b) hR (by simp only[execOp,ho,Sem.run_bind,k1,Result.andThen_ok,k2,Sem.run_pure]) (.tree _ _ (.bool _))
 ·exact aY.pure (x:=.bool !b) hR (by simp only[execOp,ho,Sem.run_bind,k1,Result.andThen_ok,k3,Sem.run_pure]) (.tree _ _ (.bool _))
theorem iY {op:BinOp}{t u:TypeId}{x y:Operand}{m n p q:Nat}(hR:RelH w im γ B0 H)(hT:RvL w im γ T a.tmps.toList)(ho:o.op = .binOp op t x y u)(hx:ev T x = .cpx m n)(hy:ev T y = .cpx p q) :
 (∀ r,op = .add∨op = .sub→cSumBits op .f64 m n p q=some r→aY P o a w im γ B0 (.cpx r.1 r.2) H)∧(∀ r,op = .mul→cMulBits m n p q=some r→aY P o a w im γ B0 (.cpx r.1 r.2) H)∧
 (op = .eql→aY P o a w im γ B0 (.bool (Op.floatEq .f64 m p && Op.floatEq .f64 n q)) H):=by
 have eX:=(hx▸aP hT x).cpx_inv;have eY:=(hy▸aP hT y).cpx_inv;have hg:(eqGuard op t x y (.complex .f64 m n) (.complex .f64 p q)).run P w = .ok () w:=by unfold eqGuard;split<;>simp
 refine⟨fun r h1 h2=>?_,fun r h1 h2=>?_,fun h1=>?_⟩
 ·exact aY.pure (x:=.complex .f64 r.1 r.2) hR (by simp only[execOp,ho,eX,eY,Sem.run_bind,hg,Result.andThen_ok,run_complex_sum w op h1 t .f64 m n p q r.1 r.2 h2,Sem.run_pure]) (.tree _ _ (.cpx _ _))
 ·subst h1;exact aY.pure (x:=.complex .f64 r.1 r.2) hR (by simp only[execOp,ho,eX,eY,Sem.run_bind,hg,Result.andThen_ok,run_complex_mul w t m n p q r.1 r.2 h2,Sem.run_pure]) (.tree _ _ (.cpx _ _))
 ·subst h1;refine aY.pure (x:=.bool (Op.floatEq .f64 m p && Op.floatEq .f64 n q)) hR ?_ (.tree _ _ (.bool _));simp only[execOp,ho,eX,eY,Sem.run_bind,hg,Result.andThen_ok];simp[binOp,Op.complexOp,Op.Complex.cmp,Op.floatCmp,Op.floatEq,asBool]
theorem Pt {op:BinOp}{t u:TypeId}{x y:Operand}(hR:RelH w im γ B0 H)(ht:TabOk P tab)(hT:RvL w im γ T a.tmps.toList)(ho:o.op = .binOp op t x y u)(hv:dL tab op t (ev T x) (ev T y) (nM y)=some v):aY P o a w im γ B0 v H:=by
 unfold dL at hv;split at hv
 ·rename_i h1 h2;exact mP (.inl rfl) hR hT ho h1 h2 hv
 ·rename_i h1 h2;exact mP (.inr rfl) hR hT ho h1 h2 hv
 ·rename_i h1 h2;split at hv
  ·rename_i hk;subst hk;exact Pa hR hT ho h1 h2 hv
  ·cases hv
 ·rename_i h1 h2;exact Oa hR hT ho h1 h2 hv
 ·rename_i h1 h2;split at hv
  ·rename_i hd;cases hv;exact(oG hR ht hT ho hd h1 h2).1 rfl
  ·cases hv
 ·rename_i h1 h2;split at hv
  ·rename_i hd;cases hv;exact(oG hR ht hT ho hd h1 h2).2 rfl
  ·cases hv
 ·rename_i h1 h2;split at hv
  ·rename_i p q hp hq;split at hv
   ·rename_i hc;cases hv;exact(pW hR ht hT ho hc.1 h1 h2 hp hq hc.2.1 hc.2.2).1 rfl
   ·cases hv
  ·cases hv
 ·rename_i h1 h2;split at hv
  ·rename_i p q hp hq;split at hv
   ·rename_i hc;cases hv;exact(pW hR ht hT ho hc.1 h1 h2 hp hq hc.2.1 hc.2.2).2 rfl
   ·cases hv
  ·cases hv
 ·rename_i h1 h2;obtain⟨r,hr,rfl⟩:=Option.map_eq_some_iff.1 hv;exact(iY hR hT ho h1 h2).1 r (.inl rfl) hr
 ·rename_i h1 h2;obtain⟨r,hr,rfl⟩:=Option.map_eq_some_iff.1 hv;exact(iY hR hT ho h1 h2).1 r (.inr rfl) hr
 ·rename_i h1 h2;obtain⟨r,hr,rfl⟩:=Option.map_eq_some_iff.1 hv;exact(iY hR hT ho h1 h2).2.1 r rfl hr
 ·rename_i h1 h2;cases hv;exact(iY hR hT ho h1 h2).2.2 rfl
 ·split at hv
  ·rename_i hc;split at hv
   ·rename_i b hb;cases hv;exact(pU hR ht hT ho hc hb).1 rfl
   ·cases hv
  ·cases hv
 ·split at hv
  ·rename_i hc;split at hv
   ·rename_i b hb;cases hv;exact(pU hR ht hT ho hc hb).2 rfl
   ·cases hv
  ·cases hv
 ·cases hv
end
section
open Go Go.RowKit
variable {w w':World}{im im':Nat→Prop}{γ γ':fK}{P:Program}{tab:cR}
variable {o:Oper}{a:Act}{B0:Nat}{H H':aA}{T:List V}{v:V}
theorem wA (off:Nat):∀(vs:List Value)(k:Nat)(cs:Array Value),off+k+vs.length≤cs.size→
 ((vs.zipIdx k).foldl (fun(cs:Array Value) (p:Value×Nat)=>cs.setIfInBounds (off+p.2) p.1) cs).toList=cs.toList.take (off+k)++vs++cs.toList.drop (off+k+vs.length)
 | [],k,cs,h=>by simp
 | v::vs,k,cs,h=>by
  have h':off+k+(vs.length+1)≤cs.toList.length:=by simpa using h
  have e:=list_seg_step cs.toList (off+k) v vs (by simpa using h');rw[List.zipIdx_cons,List.foldl_cons,wA off vs (k+1) _ (by simp at h ⊢;omega)];simp only[Array.toList_setIfInBounds,List.length_cons];rw[show off+(k+1)=off+k+1 by omega];exact e
theorem wC {place:Nat→Option (Nat×Nat)}:∀{ps:List (Nat×V)}{qs:List (Nat×Value)}{cs cs':List V}{xs:Array Value},eF place cs ps=some cs'→RvL w im γ (ps.map (·.2)) (qs.map (·.2))→ps.map (·.1)=qs.map (·.1)→
 RvL w im γ cs xs.toList→(∀ x∈xs.toList,x.oneCell'=true)→∃ ys,Instr.fill place xs qs=some ys∧RvL w im γ cs' ys.toList∧(∀ x∈ys.toList,x.oneCell'=true)
 | [],[],cs,cs',xs,h,_,_,hx,h1=>by cases h;exact⟨xs,rfl,hx,h1⟩
 | [],_::_,_,_,_,_,h,_,_,_=>by cases h
 | _::_,[],_,_,_,_,h,_,_,_=>by cases h
 | (i,v)::ps,(i',x)::qs,cs,cs',xs,h,hv,hi,hx,h1=>by
  simp only[List.map_cons,List.cons.injEq]at hi;obtain⟨rfl,hi⟩:=hi;simp only[List.map_cons]at hv;cases hv with
  | cons _ _ _ _ hv1 hv2=>
   unfold eF at h;split at h
   ·rename_i off size hp;split at h
    ·rename_i hc;obtain⟨hf,hsz,hle⟩:=hc;obtain⟨c1,c2⟩:=hv1.cells hf;have hcl:x.cells.size=v.cells.length:=by simpa using c1.len
     have hxl:=hx.len;have hset:∀(l:List Value),(⟨l⟩:Array Value).zipIdx=⟨l.zipIdx⟩:=fun l=>by simp
     have key:=wA off x.cells.toList 0 xs (by simp at hxl ⊢;omega);simp only[Nat.add_zero]at key;have hnew:RvL w im γ (sC cs off v.cells) (xs.toList.take off++x.cells.toList++xs.toList.drop (off+x.cells.toList.length)):=by
      rw[zX _ _ _ (by omega),List.append_assoc,c1.len];exact(hx.take _).append (c1.append (hx.drop _))
     obtain⟨ys,k1,k2,k3⟩:=wC (place:=place) (xs:=⟨xs.toList.take off++x.cells.toList++xs.toList.drop (off+x.cells.toList.length)⟩) h hv2 hi hnew (by
      intro u hu;simp only[List.mem_append]at hu;rcases hu with (hu|hu)|hu
      ·exact h1 u (List.mem_of_mem_take hu)
      ·exact c2 u hu
      ·exact h1 u (List.mem_of_mem_drop hu))
     refine⟨ys,?_,k2,k3⟩;have e2:(x.cells.zipIdx.foldl (fun cs (c,j)=>cs.setIfInBounds (off+j) c) xs)=⟨xs.toList.take off++x.cells.toList++xs.toList.drop (off+x.cells.toList.length)⟩:=by
      apply Array.ext';rw[←key];rw[←Array.foldl_toList];simp
     unfold Instr.fill;simp only[hp];rw[if_neg (by simp[hcl,hsz];simp at hxl;omega),e2];exact k1
    ·cases h
   ·cases h
theorem rD (hT:RvL w im γ T a.tmps.toList):∀ l:List (Nat×Operand),RvL w im γ ((l.map fun p=>(p.1,ev T p.2)).map (·.2)) ((l.map fun p=>(p.1,a.eval p.2)).map (·.2))∧(l.map fun p=>(p.1,ev T p.2)).map (·.1)=(l.map fun p=>(p.1,a.eval p.2)).map (·.1)
 | []=>⟨.nil,rfl⟩
 | (i,x)::l=>⟨.cons _ _ _ _ (aP hT x) (rD hT l).1,by simp[Function.comp_def]⟩
theorem kZ (ht:TabOk P tab){t:TypeId}(hk:(tab t).known=true):∃ i z,P.info? t=some i∧i.zero=some z∧i.size=(tab t).size∧i.bytes=(tab t).bytes∧∀(w:World)(im:Nat→Prop)(γ:fK),Rv w im γ (tab t).zero z:=by
 obtain⟨i,d,k1,k2,k3,k4,k5,z,k6,k7⟩:=ht.ok t hk;exact⟨i,z,k1,k6,k4,k5,fun w im γ=>by rw[←k7];exact .tree _ _ (jL z)⟩
theorem Cd {t:TypeId}{ps:Array (Nat×Operand)}{cs:List V}(hR:RelH w im γ B0 H)(ht:TabOk P tab)(hT:RvL w im γ T a.tmps.toList)(ho:o.op = .build t ps)(hz:(tab t).zero.fit=true)
 (h:(∃ fs,(tab t).desc = .struct fs∧(∀ f∈fs,(tab f.2).known=true)∧eF (fieldPlace tab fs) (tab t).zero.cells (ps.toList.map fun p=>(p.1,ev T p.2))=some cs)∨
  (∃ n e,(tab t).desc = .arr n e∧(tab e).known=true∧eF (fun i=>some (i*(tab e).size,(tab e).size)) (tab t).zero.cells (ps.toList.map fun p=>(p.1,ev T p.2))=some cs)) :
 aY P o a w im γ B0 (.agg cs) H:=by
 obtain⟨p1,p2⟩:=rD hT ps.toList;have hkt:(tab t).known=true:=by
  rcases h with ⟨fs,hd,_⟩|⟨n,e,hd,_⟩<;>exact cU (by rw[hd];simp)
 obtain⟨i,z,g1,g2,g3,g4,g5⟩:=kZ ht hkt;obtain⟨z1,z2⟩:=(g5 w im γ).cells hz;have fin:∀ ys,P.built t ((ps.toList.map fun p=>(p.1,a.eval p.2)))=some ys→RvL w im γ cs ys.toList→(∀ x∈ys.toList,x.oneCell'=true)→aY P o a w im γ B0 (.agg cs) H:=by
  intro ys hb r1 r2;refine aY.pure (x:=.agg ys) hR ?_ (.agg _ _ r2 r1);have hrun:=run_build (P:=P) w t (ps.map fun(i,x)=>(i,a.eval x)) ys (by simpa using hb);simp only[execOp,ho,Sem.run_bind];rw[hrun];rfl
 rcases h with ⟨fs,hd,hk,hl⟩|⟨n,e,hd,hk,hl⟩
 ·obtain⟨d,k2,k3⟩:=dE ht hd (by simp);cases d<;>simp[dA]at k3;rename_i fields;obtain⟨ys,r1,r2,r3⟩:=wC hl p1 p2 z1 z2;have hm:fields.toList.mapM (fun f=>(P.info? f.type).map fun i=>(f.offset,i.size))=some (fs.map fun f=>(f.1,(tab f.2).size)):=by
   subst k3;revert hk;generalize fields.toList=l;intro hk;induction l with
   | nil=>rfl
   | cons f l ih=>
    obtain⟨i',d',q1,q2,q3,q4,_⟩:=ht.ok f.type (hk (f.offset,f.type) (by simp));simp only[List.mapM_cons,q1,Option.map_some,Option.bind_eq_bind,Option.bind_some,List.map_cons];rw[ih (fun g hg=>hk g (by simp at hg ⊢;exact .inr hg))];simp[q4]
  refine fin ys ?_ r2 r3;unfold Program.built;simp only[g1,k2,g2,hm];have:(fun x=>(fs.map fun f=>(f.1,(tab f.2).size)).toArray[x]?)=fieldPlace tab fs:=by
   funext x;simp[fieldPlace]
  rw[←this]at r1;exact r1
 ·obtain⟨d,k2,k3⟩:=dE ht hd (by simp);cases d<;>simp[dA]at k3;rw[k3.1,k3.2]at k2;obtain⟨ie,ze,q1,q2,q3,q4,q5⟩:=kZ ht hk;obtain⟨ys,r1,r2,r3⟩:=wC hl p1 p2 z1 z2;refine fin ys ?_ r2 r3;unfold Program.built;simp only[g1,k2,g2,q1,q3];exact r1
theorem pY {z:Array Value}{s:Nat}(hz:z.size=s):∀ n,(madeCells z (n*s)).toList=(List.replicate n z.toList).flatten:=by
 intro n;induction n with
 | zero=>simp[madeCells]
 | succ n ih=>
  rw[List.replicate_succ',List.flatten_append,List.flatten_singleton,←ih];apply List.ext_getElem?;intro q;simp only[madeCells,Array.toList_map,Array.toList_range,List.getElem?_map,List.getElem?_append,List.length_map,List.length_range];by_cases hq:q < n*s
  ·have:q < (n+1)*s:=by rw[Nat.succ_mul];omega
   rw[if_pos hq,List.getElem?_range this,List.getElem?_range hq]
  ·rw[if_neg hq];by_cases hq2:q < (n+1)*s
   ·rw[List.getElem?_range hq2];rw[Nat.succ_mul]at hq2;have hm:q % z.size=q - n*s:=by
     rw[hz];have:q=(q - n*s)+n*s:=by omega
     rw[this,Nat.add_mul_mod_self_right,Nat.mod_eq_of_lt (by omega)];omega
    have hlt:q - n*s < z.size:=by rw[hz];omega
    simp[hm,hlt]
   ·rw[List.getElem?_eq_none (by simpa using hq2)];rw[Nat.succ_mul]at hq2;rw[List.getElem?_eq_none (by simp[hz];omega)];rfl
theorem Da {z:V}{x:Value}(h:Rv w im γ z x)(hf:z.fit=true):∀ n,RvL w im γ ((List.replicate n z).flatMap V.cells) (List.replicate n x.cells.toList).flatten∧∀ u∈(List.replicate n x.cells.toList).flatten,u.oneCell'=true
 | 0=>⟨.nil,by simp⟩
 | n+1=>by
  obtain⟨c1,c2⟩:=h.cells hf;obtain⟨r1,r2⟩:=Da h hf n;refine⟨?_,?_⟩
  ·rw[List.replicate_succ,List.replicate_succ,List.flatMap_cons,List.flatten_cons];exact c1.append r1
  ·intro u hu;rw[List.replicate_succ,List.flatten_cons,List.mem_append]at hu;rcases hu with hu|hu
   ·exact c2 u hu
   ·exact r2 u hu
theorem La {t e:TypeId}{x y:Operand}{n:Int}(hR:RelH w im γ B0 H)(ht:TabOk P tab)(hT:RvL w im γ T a.tmps.toList)(ho:o.op = .makeSlice t x y)(hd:(tab t).desc = .slice e)(hke:(tab e).known=true)(hx:ev T x = .int .i64 n)(hy:ev T y = .int .i64 n)
 (h0:0≤n)(h1:n≤1073741824)(hb:(tab e).bytes≤4096)(hz:(tab e).zero.fit=true)(hs:(tab e).zero.cells.length=(tab e).size) :
 aY P o a w im γ B0 (.sl H.length 0 n.toNat) (H++[.row (tab e).size (List.replicate n.toNat (tab e).zero) false]):=by
 have eX:=(hx▸aP hT x).int_inv;have eY:=(hy▸aP hT y).int_inv;obtain⟨d,k2,k3⟩:=dE ht hd (by simp);cases d<;>simp[dA]at k3;rw[k3]at k2;obtain⟨ie,z,q1,q2,q3,q4,q5⟩:=kZ ht hke;have hzc:=((q5 w im γ).cells hz).1.len;have hzs:z.cells.size=(tab e).size:=by rw[←hs];simpa using hzc
 have hbb:(ie.bytes:Int)*n≤281474976710656:=by
  rw[q4];have h3:((tab e).bytes:Int)*n≤4096*n:=Int.mul_le_mul_of_nonneg_right (by omega) h0;omega
 have hrun:=run_make (P:=P) w t e ie z k2 q1 q2 .i64 .i64 n n h0 (Int.le_refl _) hbb (by omega);rw[q3]at hrun;obtain⟨r1,r2⟩:=Da (q5 w im γ) hz n.toNat;rw[←pY hzs]at r1 r2;have hnew:=hR.alloc (es:=List.replicate n.toNat (tab e).zero) (s:=(tab e).size) (fun u hu=>by rw[List.eq_of_mem_replicate hu];exact hs) (post:=[]) r1 r2 e (0,0) (by simp);simp only[List.append_nil,List.length_nil,Nat.add_zero,Array.toArray_toList]at hnew;refine⟨.slice (some ⟨w.heap.size,0,none⟩) n.toNat n.toNat,_,_,jF ?_,?_,hnew.1,hnew.2,dH hR.size _⟩
 ·simp only[execOp,ho,eX,eY,Sem.run_bind,hrun,Result.andThen_ok,Sem.run_pure]
 ·have:=Rv.sl (w:=w.alloc (.cells (madeCells z.cells (n.toNat*(tab e).size)) e)) (im:=im) H.length 0 n.toNat n.toNat ⟨w.heap.size,0,(tab e).size,(madeCells z.cells (n.toNat*(tab e).size)).toList.length⟩ (cL γ H.length _) (Nat.le_refl _) (by simp[madeCells]);simpa using this
theorem uF {size len:Nat}:∀{ps:List (Nat×V)}{es es':List V},gP size len es ps=some es'→es'.length=es.length
 | [],es,es',h=>by cases h;rfl
 | (i,v)::ps,es,es',h=>by
  unfold gP at h;split at h
  ·rw[uF h];simp
  ·cases h
theorem lL {size len:Nat}:∀{ps:List (Nat×V)}{es es':List V},gP size len es ps=some es'→(∀ e∈es,e.cells.length=size)→∀ e∈es',e.cells.length=size
 | [],es,es',h,hl=>by cases h;exact hl
 | (i,v)::ps,es,es',h,hl=>by
  unfold gP at h;split at h
  ·rename_i hc;refine lL h (fun e he=>?_);rcases List.mem_or_eq_of_mem_set he with he|rfl
   ·exact hl e he
   ·exact hc.2.1
  ·cases h
theorem sE {size len:Nat}:∀{ps:List (Nat×V)}{qs:List (Nat×Value)}{es es':List V}{xs:Array Value},gP size len es ps=some es'→es.length=len→(∀ e∈es,e.cells.length=size)→RvL w im γ (ps.map (·.2)) (qs.map (·.2))→ps.map (·.1)=qs.map (·.1)→
 RvL w im γ (es.flatMap V.cells) xs.toList→(∀ x∈xs.toList,x.oneCell'=true)→∃ ys,Instr.fill (fun i=>some (i*size,size)) xs qs=some ys∧RvL w im γ (es'.flatMap V.cells) ys.toList∧(∀ x∈ys.toList,x.oneCell'=true)
 | [],[],es,es',xs,h,_,_,_,_,hx,h1=>by cases h;exact⟨xs,rfl,hx,h1⟩
 | [],_::_,_,_,_,_,_,_,h,_,_,_=>by cases h
 | _::_,[],_,_,_,_,_,_,h,_,_,_=>by cases h
 | (i,v)::ps,(i',x)::qs,es,es',xs,h,hlen,hl,hv,hi,hx,h1=>by
  simp only[List.map_cons,List.cons.injEq]at hi;obtain⟨rfl,hi⟩:=hi;simp only[List.map_cons]at hv;cases hv with
  | cons _ _ _ _ hv1 hv2=>
   unfold gP at h;split at h
   ·rename_i hc;obtain⟨hf,hsz,hle⟩:=hc;obtain⟨c1,c2⟩:=hv1.cells hf;have hcl:x.cells.size=v.cells.length:=by simpa using c1.len
    have hxl:=hx.len;rw[cN hl]at hxl;have hi2:i < es.length:=by omega
    have hmul:(i+1)*size≤es.length*size:=Nat.mul_le_mul_right _ hi2;rw[Nat.succ_mul]at hmul;have key:=wA (i*size) x.cells.toList 0 xs (by simp at hxl ⊢;omega);simp only[Nat.add_zero]at key;have hget:(es.set i v)[i]?=some v:=List.getElem?_set_self hi2;have hnew:RvL w im γ ((es.set i v).flatMap V.cells) (xs.toList.take (i*size)++x.cells.toList++xs.toList.drop (i*size+x.cells.toList.length)):=by
     rw[jQ hget,List.take_set_of_le (Nat.le_refl _),List.drop_set_of_lt (by omega),gM (s:=size) _ hl,iD (s:=size) _ hl,List.append_assoc,c1.len,hsz,Nat.succ_mul];exact(hx.take _).append (c1.append (hx.drop _))
    obtain⟨ys,k1,k2,k3⟩:=sE (xs:=⟨xs.toList.take (i*size)++x.cells.toList++xs.toList.drop (i*size+x.cells.toList.length)⟩) h (by simp[hlen]) (fun e he=>by
     rcases List.mem_or_eq_of_mem_set he with he|rfl
     ·exact hl e he
     ·exact hsz) hv2 hi hnew (by
     intro u hu;simp only[List.mem_append]at hu;rcases hu with (hu|hu)|hu
     ·exact h1 u (List.mem_of_mem_take hu)
     ·exact c2 u hu
     ·exact h1 u (List.mem_of_mem_drop hu))
    refine⟨ys,?_,k2,k3⟩;have e2:(x.cells.zipIdx.foldl (fun cs (c,j)=>cs.setIfInBounds (i*size+j) c) xs)=⟨xs.toList.take (i*size)++x.cells.toList++xs.toList.drop (i*size+x.cells.toList.length)⟩:=by
     apply Array.ext';rw[←key];rw[←Array.foldl_toList];simp
    unfold Instr.fill;simp only;rw[if_neg (by simp[hcl,hsz];simp at hxl;omega),e2];exact k1
   ·cases h
theorem tC (w:World)(t e:TypeId)(len:Nat)(parts:Array (Nat×Value))(cells:Array Value)(ie:TypeInfo)(z:Value)(hu:P.underlying t=some (.slice e))(hie:P.info? e=some ie)(hz:ie.zero=some z)(hsmall:¬len*ie.size > 2 ^ 24)
 (h:Instr.fill (fun i=>some (i*ie.size,ie.size)) (madeCells z.cells (len*ie.size)) parts.toList=some cells) :
 (Instr.buildSlice t len parts).run P w = .ok (.slice (some ⟨w.heap.size,0,none⟩) len len) (w.alloc (.cells cells e)):=by
 by_cases h0:len*ie.size=0
 ·rw[h0]at h;have:madeCells z.cells 0 = #[]:=by simp[madeCells]
  rw[this]at h;simp[Instr.buildSlice,run_underlying hu,sizeOf,typeInfo,zeroValue,hie,hz,hsmall,h0,h,newRow,Array.range_zero']
 ·simp only[madeCells]at h;simp[Instr.buildSlice,run_underlying hu,sizeOf,typeInfo,zeroValue,hie,hz,hsmall,h0,h,newRow]
theorem xI {t e:TypeId}{n:Nat}{ps:Array (Nat×Operand)}{es:List V}(hR:RelH w im γ B0 H)(ht:TabOk P tab)(hT:RvL w im γ T a.tmps.toList)(ho:o.op = .buildSlice t n ps)(hd:(tab t).desc = .slice e)(hke:(tab e).known=true)
 (hz:(tab e).zero.fit=true)(hs:(tab e).zero.cells.length=(tab e).size)(hn:n*(tab e).size≤16777216)(h:gP (tab e).size n (List.replicate n (tab e).zero) (ps.toList.map fun p=>(p.1,ev T p.2))=some es) :
 aY P o a w im γ B0 (.sl H.length 0 n) (H++[.row (tab e).size es false]):=by
 obtain⟨p1,p2⟩:=rD hT ps.toList;obtain⟨d,k2,k3⟩:=dE ht hd (by simp);cases d<;>simp[dA]at k3;rw[k3]at k2;obtain⟨ie,z,q1,q2,q3,q4,q5⟩:=kZ ht hke;have hzc:=((q5 w im γ).cells hz).1.len;have hzs:z.cells.size=(tab e).size:=by rw[←hs];simpa using hzc
 obtain⟨r1,r2⟩:=Da (q5 w im γ) hz n;rw[←pY hzs]at r1 r2;have hrl:∀ u∈List.replicate n (tab e).zero,u.cells.length=(tab e).size:=fun u hu=>by rw[List.eq_of_mem_replicate hu];exact hs
 obtain⟨ys,f1,f2,f3⟩:=sE h (by simp) hrl p1 p2 r1 r2;have hrun:=tC (P:=P) w t e n (ps.map fun(i,x)=>(i,a.eval x)) ys ie z k2 q1 q2 (by rw[q3];omega) (by rw[q3];simpa using f1);have hnew:=hR.alloc (es:=es) (s:=(tab e).size) (lL h hrl) (vs:=ys.toList) (post:=[]) f2 f3 e (0,0) (by simp);simp only[List.append_nil,List.length_nil,Nat.add_zero,Array.toArray_toList]at hnew;refine⟨.slice (some ⟨w.heap.size,0,none⟩) n n,_,_,jF ?_,?_,hnew.1,hnew.2,dH hR.size _⟩
 ·simp only[execOp,ho,Sem.run_bind];rw[hrun];rfl
 ·have hyl:=f2.len;rw[cN (lL h hrl),uF h,List.length_replicate]at hyl;have:=Rv.sl (w:=w.alloc (.cells ys e)) (im:=im) H.length 0 n n ⟨w.heap.size,0,(tab e).size,ys.toList.length⟩ (cL γ H.length _) (Nat.le_refl _) (by simp;simp at hyl;omega);simpa using this
end
section
open Go Go.RowKit
variable {w w':World}{im im':Nat→Prop}{γ γ':fK}{P:Program}{tab:cR}
variable {o:Oper}{a:Act}{B0:Nat}{H H':aA}{T:List V}{v:V}
theorem fV {s:Nat}{xs:List V}:aQ s xs=true ↔ ∀ e∈xs,e.cells.length=s:=by simp[aQ]
theorem lF (h:w'.heap=w.heap):Keep w im γ w' im γ:=⟨fun B hB=>⟨hB,by rw[h]⟩,fun _ _ h=>h⟩
theorem RelH.heap (hR:RelH w im γ B0 H)(h:w'.heap=w.heap):RelH w' im γ B0 H:=by
 refine⟨fun b s es ro hb=>?_,hR.inj,fun B hB=>by rw[h];exact hR.imlt B hB,hR.fresh,by rw[h];exact hR.size,hR.oh.mono (fun _ _ h _=>h) (fun b o p X hb h2 hp hX=>⟨by rw[h],(hR.oh.obj' hb h2 hp X hX).2.2⟩) (by rw[h];exact Nat.le_refl _) (fun B hB=>⟨hB,by rw[h]⟩) (fun _ _ h=>h) hR.oh.sep⟩;rcases hR.row _ _ _ _ hb with ⟨p,hp,hr⟩|hn
 ·exact .inl ⟨p,hp,hr.keep (lF h) (by rw[h])⟩
 ·exact .inr hn
theorem nV (hR:RelH w im γ B0 H){x:V}{X:Value}{xs:List V}(hx:Rv w im γ x X)(he:bS H x=some xs) :
 ∃ news,RvL w im γ (xs.flatMap V.cells) news∧(∀ u∈news,u.oneCell'=true)∧(∀ W,(Builtin.lenOf X).run P W = .ok xs.length W)∧
  (∀ s,(∀ e∈xs,e.cells.length=s)→∀ k,k≤xs.length→∀ W:World,W.heap=w.heap→(Builtin.firstCells s k X).run P W = .ok (news.take (k*s)).toArray W):=by
 have cellW:∀ W:World,W.heap=w.heap→∀ A,W.cell? A=w.cell? A:=fun W hW A=>by simp[World.cell?,hW]
 have arr:∀(B O cap n s:Nat)(news:List Value),w.rangeAt B O news→news.length=n*s→∀ k,k≤n→∀ W:World,W.heap=w.heap→(Builtin.firstCells s k (.slice (some ⟨B,O,none⟩) n cap)).run P W = .ok (news.take (k*s)).toArray W:=by
  intro B O cap n s news hr hl k hk W hW;have hks:k*s≤n*s:=Nat.mul_le_mul_right _ hk;refine run_firstCells_some (P:=P) W s k ⟨B,O,none⟩ n cap (news.take (k*s)) (by rw[List.length_take,Nat.min_eq_left (by omega)]) (fun j v hj=>?_);rw[Addr.add_mid,cellW W hW];rw[List.getElem?_take]at hj;split at hj
  ·exact hr j v hj
  ·cases hj
 unfold bS at he;split at he
 ·rename_i b i n;split at he
  ·rename_i s es ro hH;split at he
   ·rename_i hle;cases he;rcases hR.row _ _ _ _ hH with ⟨p,hp,hr⟩|⟨he,hγ⟩
    case inr=>
     subst he;simp only[List.length_nil,Nat.le_zero,Nat.add_eq_zero_iff]at hle;obtain⟨hi0,hn0⟩:=hle;subst hn0;rcases hx.sl_inv with ⟨q,cap,hq,_,_,e⟩|⟨_,ad,e,_⟩
     ·rw[hγ]at hq;cases hq
     ·subst e;refine⟨[],by simpa using RvL.nil,by simp,fun W=>by simp[Builtin.lenOf],fun s _ k hk W _=>?_⟩;have hk0:k=0:=by simpa using hk
      subst hk0;cases ad<;>simp[Builtin.firstCells,loadCells,loadCellsFrom]
    obtain⟨pre,vs,post,ty,fz,h1,h2,h3,h4,h5,h6⟩:=hr.hm;have hps:=hr.hs;have hlen:((es.drop i).take n).length=n:=by simp;omega
    have hvl:=h3.len;rw[cN hr.hl]at hvl;have hfl:((es.drop i).take n).flatMap V.cells=((es.flatMap V.cells).drop (i*s)).take (n*s):=by
     rw[gM (s:=s) _ (fun e he=>hr.hl e (List.mem_of_mem_drop he)),iD (s:=s) _ hr.hl]
    have hb1:(i+n)*s≤es.length*s:=Nat.mul_le_mul_right _ hle;rw[Nat.add_mul]at hb1;refine⟨(vs.drop (i*s)).take (n*s),?_,fun u hu=>h4 u (List.mem_of_mem_drop (List.mem_of_mem_take hu)),?_,?_⟩
    ·rw[hfl];exact(h3.drop _).take _
    ·intro W;rcases hx.sl_inv with ⟨q,cap,_,_,_,e⟩|⟨hn,ad,e,_⟩
     ·rw[e,hlen];rfl
     ·rw[e,hlen,hn];rfl
    ·intro s' hs' k hk W hW;rw[hlen]at hk;rcases hx.sl_inv with ⟨q,cap,hq,_,_,e⟩|⟨hn,ad,e,_⟩
     ·rw[hp]at hq;cases hq;rw[e];have hrange:w.rangeAt p.B (p.O+i*s) ((vs.drop (i*s)).take (n*s)):=by
       have:=lC (w:=w) (B:=p.B) (a:=pre++vs.take (i*s)) (m:=(vs.drop (i*s)).take (n*s)) (p:=(vs.drop (i*s)).drop (n*s)++post) (ty:=ty) (fz:=fz) (by
        rw[h1];congr 3;rw[List.append_assoc,←List.append_assoc ((vs.drop (i*s)).take (n*s)),List.take_append_drop,←List.append_assoc (vs.take (i*s)),List.take_append_drop])
       rw[List.length_append,List.length_take,h2,Nat.min_eq_left (by omega)]at this;exact this
      rw[hps];by_cases hn0:n=0
      ·subst hn0;have hk0:k=0:=by omega
       subst hk0;simp[Builtin.firstCells,loadCells,loadCellsFrom]
      ·have hss:s'=s:=by
        have:∃ u,u∈(es.drop i).take n:=List.exists_mem_of_ne_nil _ (by intro e;rw[e]at hlen;simp at hlen;omega);obtain⟨u,hu⟩:=this;rw[←hs' u hu,hr.hl u (List.mem_of_mem_drop (List.mem_of_mem_take hu))]
       subst hss;exact arr _ _ _ n s' _ hrange (by simp;omega) k hk W hW
     ·subst hn;have hk0:k=0:=by omega
      subst hk0;rw[e];cases ad<;>simp[Builtin.firstCells,loadCells,loadCellsFrom]
   ·cases he
  ·cases he
 ·rename_i es;cases he;rcases hx.imm_inv.imm_inv with ⟨rfl,A,cap,hA,e⟩|⟨s,B,O,cap,cs,hne,hB,hcap,hss,hc,h1,hTv,e⟩
  ·refine⟨[],.nil,by simp,fun W=>by rw[e];rfl,fun s _ k hk W _=>?_⟩;simp at hk;subst hk;rw[e];cases A<;>simp[Builtin.firstCells,loadCells,loadCellsFrom]
  ·refine⟨cs,hTv.rv,h1,fun W=>by rw[e];rfl,fun s' hs' k hk W hW=>?_⟩;have hse:s'=s:=by
    obtain⟨u,hu⟩:=List.exists_mem_of_ne_nil _ hne;rw[←hss u hu,hs' u hu]
   subst hse;rw[e];exact arr _ _ _ xs.length s' _ hc (by rw[hTv.len,cN hss]) k hk W hW
 ·cases he;refine⟨[],.nil,by simp,fun W=>by rw[hx.nils_inv];rfl,fun s _ k hk W _=>?_⟩;rw[hx.nils_inv];simp[Builtin.firstCells]
 ·rename_i s;cases he;have hf:∀ s:List UInt8,(s.map fun c=>V.int .u8 c.toNat).flatMap V.cells=s.map fun c=>V.int .u8 c.toNat:=by
   intro s;induction s with
   | nil=>rfl
   | cons c s ih=>
    rw[List.map_cons,List.flatMap_cons,ih];rfl
  have hrel:∀ l:List UInt8,RvL w im γ (l.map fun c=>V.int .u8 c.toNat) (l.map fun c=>Value.int .u8 c.toNat):=by
   intro l;induction l with
   | nil=>exact .nil
   | cons c l ih=>exact .cons _ _ _ _ (.tree _ _ (.int _ _)) ih
  refine⟨s.map fun c => .int .u8 c.toNat,?_,?_,?_,?_⟩
  ·rw[hf];exact hrel s
  ·intro u hu;obtain⟨c,_,rfl⟩:=List.mem_map.1 hu;rfl
  ·intro W;rw[hx.str_inv];simp[Builtin.lenOf];rfl
  ·intro s' hs' k hk W hW;rw[hx.str_inv];simp only[Builtin.firstCells,wI,Sem.run_pure,List.drop_zero,Nat.sub_zero];congr 1;apply Array.ext';simp only[List.length_map]at hk;by_cases hs0:s=[]
   ·subst hs0;simp
   ·have hs1:s'=1:=by
     obtain⟨c,l,rfl⟩:=List.exists_cons_of_ne_nil hs0;exact(hs' (.int .u8 c.toNat) (by simp)).symm
    subst hs1;simp[List.map_take]
 ·cases he
theorem RelH.kill (hR:RelH w im γ B0 H)(b:Nat):RelH w im γ B0 (H.set b .dead):=by
 have cs:∀(c:Nat) s2 es2 ro2,(List.set H b Blk.dead)[c]?=some (Blk.row s2 es2 ro2)→c≠b∧H[c]?=some (Blk.row s2 es2 ro2):=by
  intro c s2 es2 ro2 h;by_cases hc:b=c
  ·subst hc;rw[List.getElem?_set]at h;simp at h
  ·rw[List.getElem?_set_ne hc]at h;exact⟨Ne.symm hc,h⟩
 have st:∀(c:Nat)(o:Blk),(List.set H b Blk.dead)[c]?=some o→iU o=true→c≠b∧H[c]?=some o:=by
  intro c o h h2;by_cases hc:b=c
  ·subst hc;rw[List.getElem?_set]at h;simp at h;rw[←h.2]at h2;cases h2
  ·rw[List.getElem?_set_ne hc]at h;exact⟨Ne.symm hc,h⟩
 exact⟨fun c s es ro h=>hR.row _ _ _ _ (cs _ _ _ _ h).2,fun c c' s1 es1 ro1 s2 es2 ro2 p1 p2 hne h h' hp hp'=>hR.inj _ _ _ _ _ _ _ _ _ _ hne (cs _ _ _ _ h).2 (cs _ _ _ _ h').2 hp hp',hR.imlt,fun c hc=>hR.fresh c (by simpa using hc),hR.size,
  hR.oh.mono (fun c o h h2=>(st c o h h2).2) (fun c o p X h h2 hp hX=>⟨rfl,(hR.oh.obj' h h2 hp X hX).2.2⟩) (Nat.le_refl _) dQ.refl (fun _ _ h=>h) (fun c c' o o' q q' X hne h h2 h3 hq hq' hX=>by
   by_cases hc:b=c'
   ·subst hc;rw[List.getElem?_set]at h3;simp at h3;rw[←h3.2];exact fun h=>h
   ·rw[List.getElem?_set_ne hc]at h3;exact hR.oh.sep c c' o o' q q' X hne h h2 h3 hq hq' hX)⟩
theorem Td {b:Nat}{c s:Nat}{es:List V}{ro:Bool}(h:(List.set H b Blk.dead)[c]?=some (Blk.row s es ro)):c≠b∧H[c]?=some (Blk.row s es ro):=by
 by_cases hc:b=c
 ·subst hc;rw[List.getElem?_set]at h;simp at h
 ·rw[List.getElem?_set_ne hc]at h;exact⟨Ne.symm hc,h⟩
theorem fG {t u ty e:TypeId}{i:TypeInfo}{z X:Value}{n:Nat}{news:List Value}(ht:P.underlying t=some (.slice e))(hu:(∃ e',P.underlying u=some (.slice e'))∨P.underlying u=some .string)(hi:P.info? e=some i)(hz:i.zero=some z)
 (hl:∀ W,(Builtin.lenOf X).run P W = .ok n W)(hf:∀ W:World,W.heap=w.heap→(Builtin.firstCells i.size n X).run P W = .ok news.toArray W)(hb:n*i.bytes≤140737488355328) :
 (n=0→(Builtin.append_ #[t,u] ty #[.slice none 0 0,X]).run P w = .ok (.slice none 0 0) w)∧
 (0 < n→(n:Int)≤9223372036854775807→(Builtin.append_ #[t,u] ty #[.slice none 0 0,X]).run P w = .ok (.slice (some ⟨w.heap.size,0,none⟩) n (grownCap w n 0 e)) (w.drew.alloc (.cells (news.toArray++Builtin.zeroCells z.cells (grownCap w n 0 e - n)) e))):=by
 refine⟨fun h0=>?_,fun h0 h63=>?_⟩
 ·subst h0;have hfw:=hf w rfl;rcases hu with ⟨e',hu⟩|hu<;>simp[Builtin.append_,run_underlying ht,run_underlying hu,sizeOf,typeInfo,hi,hl,hfw]
 ·have hn:¬(0+n≤0):=by omega
  have hn':¬n=0:=by omega
  have h48:=growslice_fits (need:=0+n) (old:=0) (bytes:=i.bytes) (by omega) (by rw[Nat.zero_add];exact hb);have hfd:=hf w.drew rfl;have hnil:(Builtin.firstCells i.size 0 (.slice none 0 0)).run P w.drew = .ok #[] w.drew:=rfl;have h63':¬(9223372036854775807 < (n:Int)):=by omega
  have h48':¬(281474976710656 < Builtin.nextslicecap n 0*i.bytes):=by rw[Nat.zero_add]at h48;omega
  rcases hu with ⟨e',hu⟩|hu<;>simp[Builtin.append_,run_underlying ht,run_underlying hu,sizeOf,typeInfo,zeroValue,hi,hz,hl,hn',h63',h48',Question.forced,hfd,hnil,newRow,grownCap]
theorem rB {t u ty e:TypeId}{i:TypeInfo}{z X:Value}{n sLen sCap:Nat}{A:Addr}{olds news:List Value}(ht:P.underlying t=some (.slice e))(hu:(∃ e',P.underlying u=some (.slice e'))∨P.underlying u=some .string)(hi:P.info? e=some i)(hz:i.zero=some z)
 (hl:∀ W,(Builtin.lenOf X).run P W = .ok n W) (hf:∀ W:World,W.heap=w.heap→(Builtin.firstCells i.size n X).run P W = .ok news.toArray W) (ho:∀ W:World,W.heap=w.heap→(Builtin.firstCells i.size sLen (.slice (some A) sLen sCap)).run P W = .ok olds.toArray W)
 (hg:sCap < sLen+n)(h63:((sLen+n:Nat):Int)≤9223372036854775807)(hb:(sLen+n)*i.bytes≤140737488355328) :
 (Builtin.append_ #[t,u] ty #[.slice (some A) sLen sCap,X]).run P w = .ok (.slice (some ⟨w.heap.size,0,none⟩) (sLen+n) (grownCap w (sLen+n) sCap e)) (w.drew.alloc (.cells (olds.toArray++news.toArray++Builtin.zeroCells z.cells (grownCap w (sLen+n) sCap e - (sLen+n))) e)):=by
 have hn:¬(sLen+n≤sCap):=by omega
 have h48:=growslice_fits hg hb;have hfd:=hf w.drew rfl;have hod:=ho w.drew rfl;have h63':¬(9223372036854775807 < ((sLen:Int)+(n:Int))):=by omega
 have h48':¬(281474976710656 < Builtin.nextslicecap (sLen+n) sCap*i.bytes):=by omega
 rcases hu with ⟨e',hu⟩|hu<;>simp[Builtin.append_,run_underlying ht,run_underlying hu,sizeOf,typeInfo,zeroValue,hi,hz,hl,hn,h63',h48',Question.forced,hfd,hod,newRow,grownCap]<;>(congr 2;apply Array.ext';simp)
theorem lY {t u ty e:TypeId}{i:TypeInfo}{X:Value}{n sLen sCap:Nat}{A:Addr}{news:List Value}{w':World}(ht:P.underlying t=some (.slice e))(hu:(∃ e',P.underlying u=some (.slice e'))∨P.underlying u=some .string)(hi:P.info? e=some i)
 (hl:∀ W,(Builtin.lenOf X).run P W = .ok n W)(hf:∀ W:World,W.heap=w.heap→(Builtin.firstCells i.size n X).run P W = .ok news.toArray W)(hg:sLen+n≤sCap)(hst:(storeCells (A.add (sLen*i.size)) news).run P w = .ok () w') :
 (Builtin.append_ #[t,u] ty #[.slice (some A) sLen sCap,X]).run P w = .ok (.slice (some A) (sLen+n) sCap) w':=by
 have hfd:=hf w rfl;rcases hu with ⟨e',hu⟩|hu<;>simp[Builtin.append_,run_underlying ht,run_underlying hu,sizeOf,typeInfo,hi,hl,hg,hfd,hst]
theorem Am (ht:TabOk P tab){u:TypeId}(h:(tab u).row=true):(∃ e',P.underlying u=some (.slice e'))∨P.underlying u=some .string:=by
 unfold TI.row at h;split at h
 ·rename_i e hd;obtain⟨d,k2,k3⟩:=dE ht hd (by simp);cases d<;>simp[dA]at k3;exact .inl ⟨_,k2⟩
 ·rename_i hd;obtain⟨d,k2,k3⟩:=dE ht hd (by simp);cases d<;>simp[dA]at k3;exact .inr k2
 ·cases h
theorem kR {z:Value}{n:Nat}:(Builtin.zeroCells z.cells n).size=n*z.cells.size:=by simp[Builtin.zeroCells]
theorem Mi {t u ty:TypeId}{s x:V}{S X:Value}(hR:RelH w im γ B0 H)(ht:TabOk P tab)(hs:Rv w im γ s S)(hx:Rv w im γ x X)(h:hC tab H t u s x = .val v H') :
 ∃ y w' γ',(Builtin.append_ #[t,u] ty #[S,X]).run P w = .ok y w'∧Rv w' im γ' v y∧RelH w' im γ' B0 H'∧Keep w im γ w' im γ'∧Below B0 w w':=by
 unfold hC at h;split at h
 ·rename_i hrow;have hu:=Am ht hrow;split at h
  ·rename_i e hd;obtain⟨d,k2,k3⟩:=dE ht hd (by simp);cases d<;>simp[dA]at k3;rw[k3]at k2;split at h
   ·rename_i xs hxs;split at h
    ·rename_i hc;obtain⟨hke,hbytes,hall⟩:=hc;obtain⟨hzf,hzl⟩:=ht.zer e hke;rw[fV]at hall;obtain⟨ie,z,q1,q2,q3,q4,q5⟩:=kZ ht hke;obtain⟨news,n1,n2,n3,n4⟩:=nV (P:=P) hR hx hxs;have hf:∀ W:World,W.heap=w.heap→(Builtin.firstCells ie.size xs.length X).run P W = .ok news.toArray W:=fun W hW=>by
      have:=n4 ie.size (by rw[q3];exact hall) xs.length (Nat.le_refl _) W hW;rw[List.take_of_length_le (by rw[n1.len,cN hall,q3];exact Nat.le_refl _)]at this;exact this
     have hnl:news.length=xs.length*(tab e).size:=by rw[n1.len,cN hall]
     have hbx:∀ k,k≤1073741824→k*ie.bytes≤140737488355328:=fun k hk=>by
      rw[q4];have:=Nat.mul_le_mul hk hbytes;omega
     have hdrew:w.drew.heap=w.heap:=rfl;have hRd:=hR.heap hdrew;have hKd:Keep w im γ w.drew im γ:=lF hdrew;have hBd:Below B0 w w.drew:=(Below.refl _ _).drew;split at h
     ·
      have hS:=hs.nils_inv;subst hS;split at h
      ·rename_i h0;cases h;have hrun:=(fG (P:=P) (w:=w) (t:=t) (u:=u) (ty:=ty) (X:=X) k2 hu q1 q2 n3 hf (hbx _ (by omega))).1 h0;exact⟨_,w,γ,hrun,.tree _ _ .nils,hR,Keep.refl,Below.refl _ _⟩
      ·rename_i h0;split at h
       ·rename_i hle;cases h;have hrun:=(fG (P:=P) (w:=w) (t:=t) (u:=u) (ty:=ty) (X:=X) k2 hu q1 q2 n3 hf (hbx _ hle)).2 (by omega) (by omega);have hnew:=hRd.alloc (es:=xs) (s:=(tab e).size) hall (vs:=news) (post:=(Builtin.zeroCells z.cells (grownCap w xs.length 0 e - xs.length)).toList) (n1.keep hKd) n2 e (0,0) (by simp);have harr:(⟨news++(Builtin.zeroCells z.cells (grownCap w xs.length 0 e - xs.length)).toList⟩:Array Value)=news.toArray++Builtin.zeroCells z.cells (grownCap w xs.length 0 e - xs.length):=by
         apply Array.ext';simp
        rw[harr]at hnew;have hge:=grownCap_ge w xs.length 0 e;refine⟨_,_,_,hrun,?_,hnew.1,hKd.trans hnew.2,hBd.trans (dH hRd.size _)⟩;have hzc:=((q5 w im γ).cells hzf).1.len;have hzs:z.cells.size=(tab e).size:=by rw[←hzl];simpa using hzc
        have:=Rv.sl (w:=w.drew.alloc (.cells (news.toArray++Builtin.zeroCells z.cells (grownCap w xs.length 0 e - xs.length)) e)) (im:=im) (γ:=upd γ H.length ⟨w.drew.heap.size,0,(tab e).size,news.length+(Builtin.zeroCells z.cells (grownCap w xs.length 0 e - xs.length)).toList.length⟩) H.length 0 xs.length (grownCap w xs.length 0 e) ⟨w.drew.heap.size,0,(tab e).size,news.length+(Builtin.zeroCells z.cells (grownCap w xs.length 0 e - xs.length)).toList.length⟩ (cL _ _ _) hge (by
         simp only[Array.length_toList,kR,hzs,hnl,←Nat.add_mul];rw[show xs.length+(grownCap w xs.length 0 e - xs.length)=grownCap w xs.length 0 e by omega];simp)
        simpa using this
       ·cases h
     ·
      rename_i b i n;split at h
      ·rename_i sz es hH;split at h
       ·rename_i hc;obtain⟨hsz,hin,hle⟩:=hc;cases h;have hcl:=hR.cells hH;have hRk:=hR.kill b;have hold:=nV (P:=P) hR hs (show bS H (.sl b i n)=some ((es.drop i).take n) by simp[bS,hH,hin]);obtain⟨olds,o1,o2,o3,o4⟩:=hold;have hbl:((es.drop i).take n).length=n:=by simp;omega
        have hbc:∀ u∈(es.drop i).take n,u.cells.length=sz:=fun u hu=>hcl u (List.mem_of_mem_drop (List.mem_of_mem_take hu));have hol:olds.length=n*sz:=by rw[o1.len,cN hbc,hbl]
        have hof:∀ W:World,W.heap=w.heap→(Builtin.firstCells ie.size n S).run P W = .ok olds.toArray W:=fun W hW=>by
         have:=o4 ie.size (by rw[q3,←hsz];exact hbc) n (by omega) W hW;rw[List.take_of_length_le (by rw[hol,q3,hsz];exact Nat.le_refl _)]at this;exact this
        have hall':∀ u∈(es.drop i).take n++xs,u.cells.length=sz:=fun u hu=>by
         rcases List.mem_append.1 hu with hu|hu
         ·exact hbc u hu
         ·rw[hsz];exact hall u hu
        have hrel:RvL w im γ (((es.drop i).take n++xs).flatMap V.cells) (olds++news):=by
         rw[List.flatMap_append];exact o1.append n1
        have hone:∀ u∈olds++news,u.oneCell'=true:=fun u hu=>by
         rcases List.mem_append.1 hu with hu|hu
         ·exact o2 u hu
         ·exact n2 u hu
        have grows:∀(A:Addr)(cap:Nat),S = .slice (some A) n cap→cap < n+xs.length→∃ y w' γ',(Builtin.append_ #[t,u] ty #[S,X]).run P w = .ok y w'∧Rv w' im γ' (.sl H.length 0 (n+xs.length)) y∧RelH w' im γ' B0 (H.set b .dead++[.row sz ((es.drop i).take n++xs) false])∧Keep w im γ w' im γ'∧Below B0 w w':=by
         intro A cap hS hcap;rw[hS];have hrun:=rB (P:=P) (w:=w) (t:=t) (u:=u) (ty:=ty) (X:=X) (A:=A) (sLen:=n) (sCap:=cap) (olds:=olds) k2 hu q1 q2 n3 hf (by rw[←hS];exact hof) hcap (by omega) (hbx _ hle);have hnew:=(hRk.heap hdrew).alloc (es:=(es.drop i).take n++xs) (s:=sz) hall' (vs:=olds++news) (post:=(Builtin.zeroCells z.cells (grownCap w (n+xs.length) cap e - (n+xs.length))).toList) (hrel.keep hKd) hone e (0,0) (by simp);have harr:(⟨(olds++news)++(Builtin.zeroCells z.cells (grownCap w (n+xs.length) cap e - (n+xs.length))).toList⟩:Array Value)=olds.toArray++news.toArray++Builtin.zeroCells z.cells (grownCap w (n+xs.length) cap e - (n+xs.length)):=by
          apply Array.ext';simp
         rw[harr,List.length_set]at hnew;have hge:=grownCap_ge w (n+xs.length) cap e;refine⟨_,_,_,hrun,?_,hnew.1,hKd.trans hnew.2,hBd.trans (dH hRd.size _)⟩;have hzc:=((q5 w im γ).cells hzf).1.len;have hzs:z.cells.size=(tab e).size:=by rw[←hzl];simpa using hzc
         have:=Rv.sl (w:=w.drew.alloc (.cells (olds.toArray++news.toArray++Builtin.zeroCells z.cells (grownCap w (n+xs.length) cap e - (n+xs.length))) e)) (im:=im) (γ:=upd γ H.length ⟨w.drew.heap.size,0,sz,(olds++news).length+(Builtin.zeroCells z.cells (grownCap w (n+xs.length) cap e - (n+xs.length))).toList.length⟩) H.length 0 (n+xs.length) (grownCap w (n+xs.length) cap e) ⟨w.drew.heap.size,0,sz,(olds++news).length+(Builtin.zeroCells z.cells (grownCap w (n+xs.length) cap e - (n+xs.length))).toList.length⟩ (cL _ _ _) hge (by
          simp only[Array.length_toList,kR,hzs,hnl,hol,List.length_append,hsz,←Nat.add_mul];rw[show n+xs.length+(grownCap w (n+xs.length) cap e - (n+xs.length))=grownCap w (n+xs.length) cap e by omega];simp)
         simpa using this
        rcases hs.sl_inv with ⟨p,cap,hp,hcap,hN,hS⟩|⟨hn0,A,hS,hA⟩
        ·have hr:=hR.at hH hp;obtain⟨pre,vs,post,tb,fz,g1,g2,g3,g4,g5,g6⟩:=hr.hm;have hps:p.s=sz:=hr.hs;by_cases hfit:n+xs.length≤cap
         ·
          have hps':p.s=(tab e).size:=by rw[hps,hsz]
          have hcs:(i+(n+xs.length))*p.s≤(i+cap)*p.s:=Nat.mul_le_mul_right _ (by omega);have hst:=dY P p.B (p.O+i*p.s+n*p.s) tb fz news 0 _ w g1 (fun k hk=>g5 _ (by omega) (by
           rw[Nat.add_mul,Nat.add_mul]at hcs;rw[hps']at hcs hN ⊢;omega)) (by
           rw[Nat.add_mul,Nat.add_mul]at hcs;simp only[List.size_toArray,List.length_append];rw[hps']at hcs hN ⊢;omega) n2
          simp only[Nat.add_zero]at hst;have hadd:(⟨p.B,p.O+i*p.s,none⟩:Addr).add (n*ie.size)=⟨p.B,p.O+i*p.s+n*p.s,none⟩:=by rw[Addr.add_mid,q3,hps']
          have hrun:=lY (P:=P) (w:=w) (t:=t) (u:=u) (ty:=ty) (X:=X) (A:=⟨p.B,p.O+i*p.s,none⟩) (sLen:=n) (sCap:=cap) k2 hu q1 n3 hf hfit (by rw[hadd];exact hst);rw[hS];have hvl:=g3.len;rw[cN hr.hl]at hvl;have hi1:(i+n)*p.s≤es.length*p.s:=Nat.mul_le_mul_right _ hin;rw[Nat.add_mul]at hi1;have holds:olds=(vs.drop (i*p.s)).take (n*p.s):=by
           have hr1:=o4 p.s (by rw[hps];exact hbc) n (by omega) w rfl;rw[List.take_of_length_le (by rw[hol,hps];exact Nat.le_refl _)]at hr1;have hrange:w.rangeAt p.B (p.O+i*p.s) ((vs.drop (i*p.s)).take (n*p.s)):=by
            have:=lC (w:=w) (B:=p.B) (a:=pre++vs.take (i*p.s)) (m:=(vs.drop (i*p.s)).take (n*p.s)) (p:=(vs.drop (i*p.s)).drop (n*p.s)++post) (ty:=tb) (fz:=fz) (by
             rw[g1];congr 3;rw[List.append_assoc,←List.append_assoc ((vs.drop (i*p.s)).take (n*p.s)),List.take_append_drop,←List.append_assoc (vs.take (i*p.s)),List.take_append_drop])
            rw[List.length_append,List.length_take,g2,Nat.min_eq_left (by rw[←hps]at hvl;omega)]at this;exact this
           have hr2:=run_firstCells_some (P:=P) (w:=w) p.s n ⟨p.B,p.O+i*p.s,none⟩ n cap ((vs.drop (i*p.s)).take (n*p.s)) (by rw[←hps]at hvl;simp;omega) (fun j v hj=>by rw[Addr.add_mid];exact hrange j v hj);rw[hS,hr2]at hr1;simpa using hr1.symm
          have hpO:pre.length=p.O:=g2;have harr:(⟨pre++(vs++post)⟩:Array Value).toList.take (p.O+i*p.s+n*p.s)++news++(⟨pre++(vs++post)⟩:Array Value).toList.drop (p.O+i*p.s+n*p.s+news.length) =
           (pre++vs.take (i*p.s))++((olds++news)++(vs++post).drop (i*p.s+n*p.s+news.length)):=by
           simp only;rw[holds];rw[show p.O+i*p.s+n*p.s=pre.length+(i*p.s+n*p.s) by omega,List.take_length_add_append,Nat.add_assoc pre.length,List.drop_length_add_append];rw[List.take_append_of_le_length (by rw[←hps]at hvl;omega)];have:vs.take (i*p.s+n*p.s)=vs.take (i*p.s)++(vs.drop (i*p.s)).take (n*p.s):=by rw[List.take_add]
           rw[this];simp
          rw[harr]at hrun;have hni:=hr.hw rfl;have hk:dQ w im (w.setRow p.B ((pre++vs.take (i*p.s))++((olds++news)++(vs++post).drop (i*p.s+n*p.s+news.length))).toArray) im:=fun B hB=>⟨hB,setRow_other _ _ _ _ (fun e=>hni (e▸hB))⟩;have hpush:=hRk.push (w':=w.setRow p.B ((pre++vs.take (i*p.s))++((olds++news)++(vs++post).drop (i*p.s+n*p.s+news.length))).toArray) (s:=sz) (es:=(es.drop i).take n++xs) (p:=⟨p.B,p.O+i*p.s,sz,p.N⟩) hk (by simp)
           (fun b' s' es' ro' q hb' hq=>by
            obtain⟨hne,hb2⟩:=Td hb';have:=hR.inj _ _ _ _ _ _ _ _ _ _ hne hb2 hH hq hp;exact⟨this,setRow_other _ _ _ _ this⟩)
           ⟨rfl,hr.hB,by simp,fun _=>hni,hall',pre++vs.take (i*p.s),olds++news,(vs++post).drop (i*p.s+n*p.s+news.length),tb,fz,setRow_heap w _ _ _ _ _ g1,by
            rw[←hps]at hvl;simp[hpO];omega,hrel.keep (iN hRk hk _),hone,fun k h1 h2=>g5 k (by simp only at h1;omega) h2,by
            rw[←hps]at hvl;rw[Nat.add_mul,Nat.add_mul,Nat.add_mul]at hcs;rw[Nat.add_mul]at hN;have hsx:xs.length*p.s=news.length:=by rw[hnl,hps']
            have hol':olds.length=n*p.s:=by rw[hol,hps]
            simp only[List.length_append,List.length_drop,List.length_take,hol'];rw[Nat.min_eq_left (by omega)];omega⟩
           (fun c o q X hc h2 hq hX=>by
            have hcb:c≠b:=fun e=>by
             subst e;rw[List.getElem?_set]at hc;simp at hc;rw[←hc.2]at h2;cases h2
            rw[List.getElem?_set_ne (Ne.symm hcb)]at hc;have:X≠p.B:=fun e=>hR.oh.sep c b o _ q p X hcb hc h2 hH hq hp hX e;exact⟨this,setRow_other _ _ _ _ this⟩)
          rw[List.length_set]at hpush;refine⟨_,_,_,hrun,?_,hpush,by have:=iN hRk hk ⟨p.B,p.O+i*p.s,sz,p.N⟩;rw[List.length_set]at this;exact this,⟨rfl,rfl,rfl,by simp,fun k hk=>setRow_other _ _ _ _ (by have:=hr.hB;omega)⟩⟩;have hN':p.O+i*p.s+(0+cap)*sz≤p.N:=by rw[←hps,Nat.zero_add];rw[Nat.add_mul]at hN;omega
          have:=Rv.sl (w:=w.setRow p.B ((pre++vs.take (i*p.s))++((olds++news)++(vs++post).drop (i*p.s+n*p.s+news.length))).toArray) (im:=im) (γ:=upd γ H.length ⟨p.B,p.O+i*p.s,sz,p.N⟩) H.length 0 (n+xs.length) cap ⟨p.B,p.O+i*p.s,sz,p.N⟩ (cL _ _ _) hfit hN';simpa using this
         ·exact grows _ cap hS (by omega)
        ·subst hn0;by_cases hx0:xs.length=0
         ·have hxe:xs=[]:=List.eq_nil_of_length_eq_zero hx0;subst hxe;have hrun:(Builtin.append_ #[t,u] ty #[.slice A 0 0,X]).run P w = .ok (.slice A 0 0) w:=by
           cases A with
           | none=>exact(fG (P:=P) (w:=w) (t:=t) (u:=u) (ty:=ty) (X:=X) k2 hu q1 q2 n3 hf (hbx _ (by simp))).1 rfl
           | some A=>
            exact lY (P:=P) (w:=w) (t:=t) (u:=u) (ty:=ty) (X:=X) (A:=A) (sLen:=0) (sCap:=0) (news:=news) (w':=w) k2 hu q1 n3 hf (by simp) (by
             have:news=[]:=List.eq_nil_of_length_eq_zero (by rw[hnl];simp);subst this;rfl)
          rw[hS];refine⟨_,w,γ,hrun,.sl0 _ _ _ hA,?_,Keep.refl,Below.refl _ _⟩;simpa using hRk.pushV sz
         ·cases A with
          | some A=>exact grows A 0 hS (by omega)
          | none=>
           rw[hS];have hrun:=(fG (P:=P) (w:=w) (t:=t) (u:=u) (ty:=ty) (X:=X) k2 hu q1 q2 n3 hf (hbx _ (by omega))).2 (by omega) (by omega);have hnew:=(hRk.heap hdrew).alloc (es:=(es.drop i).take 0++xs) (s:=sz) hall' (vs:=news) (post:=(Builtin.zeroCells z.cells (grownCap w xs.length 0 e - xs.length)).toList) (by simpa using n1.keep hKd) n2 e (0,0) (by simp);have harr:(⟨news++(Builtin.zeroCells z.cells (grownCap w xs.length 0 e - xs.length)).toList⟩:Array Value)=news.toArray++Builtin.zeroCells z.cells (grownCap w xs.length 0 e - xs.length):=by
            apply Array.ext';simp
           rw[harr,List.length_set]at hnew;have hge:=grownCap_ge w xs.length 0 e;refine⟨_,_,_,hrun,?_,hnew.1,hKd.trans hnew.2,hBd.trans (dH hRd.size _)⟩;have hzc:=((q5 w im γ).cells hzf).1.len;have hzs:z.cells.size=(tab e).size:=by rw[←hzl];simpa using hzc
           have:=Rv.sl (w:=w.drew.alloc (.cells (news.toArray++Builtin.zeroCells z.cells (grownCap w xs.length 0 e - xs.length)) e)) (im:=im) (γ:=upd γ H.length ⟨w.drew.heap.size,0,sz,news.length+(Builtin.zeroCells z.cells (grownCap w xs.length 0 e - xs.length)).toList.length⟩) H.length 0 xs.length (grownCap w xs.length 0 e) ⟨w.drew.heap.size,0,sz,news.length+(Builtin.zeroCells z.cells (grownCap w xs.length 0 e - xs.length)).toList.length⟩ (cL _ _ _) hge (by
            simp only[Array.length_toList,kR,hzs,hnl,hsz,←Nat.add_mul];rw[show xs.length+(grownCap w xs.length 0 e - xs.length)=grownCap w xs.length 0 e by omega];simp)
           simpa using this
       ·cases h
      ·cases h
     ·cases h
    ·cases h
   ·cases h
  ·cases h
 ·cases h
end
section
open Go Go.RowKit
variable {w w':World}{im im':Nat→Prop}{γ γ':fK}{P:Program}{tab:cR}
variable {o:Oper}{a:Act}{B0:Nat}{H H':aA}{T:List V}{v:V}
theorem Iw {t u ty:TypeId}{d x:V}{D X:Value}(hR:RelH w im γ B0 H)(ht:TabOk P tab)(hd:Rv w im γ d D)(hx:Rv w im γ x X)(h:mX tab H t d x = .val v H') :
 ∃ y w',(Builtin.copy_ #[t,u] ty #[D,X]).run P w = .ok y w'∧Rv w' im γ v y∧RelH w' im γ B0 H'∧Keep w im γ w' im γ∧Below B0 w w':=by
 unfold mX at h;split at h
 ·rename_i e xs hde hxs;obtain⟨d',k2,k3⟩:=dE ht hde (by simp);cases d'<;>simp[dA]at k3;rw[k3]at k2;split at h
  ·rename_i b i n;split at h
   ·rename_i sz es hH;split at h
    ·rename_i hc;obtain⟨hke,hsz,hin,hall⟩:=hc;rw[fV]at hall;cases h;obtain⟨ie,z,q1,q2,q3,q4,q5⟩:=kZ ht hke;obtain⟨news,n1,n2,n3,n4⟩:=nV (P:=P) hR hx hxs;have empty:n=0→(∃ A:Option Addr,D = .slice A 0 0)→∃ y w',(Builtin.copy_ #[t,u] ty #[D,X]).run P w = .ok y w'∧Rv w' im γ (.int .i64 (min xs.length n:Nat)) y∧RelH w' im γ B0 (H.set b (.row sz (es.take i++(xs.take n++es.drop (i+min xs.length n))) false))∧Keep w im γ w' im γ∧Below B0 w w':=by
      rintro rfl ⟨A,hD⟩;have hf:=n4 ie.size (by rw[q3];exact hall) (min xs.length 0) (Nat.min_le_left _ _) w rfl;rw[q3,←hsz]at hf;have hlen:Nat.min xs.length 0=min xs.length 0:=rfl;have e0:min xs.length 0=0:=by omega
      refine⟨goInt (min xs.length 0:Nat),w,?_,.tree _ _ (.int _ _),?_,Keep.refl,Below.refl _ _⟩
      ·rw[hD];simp only[Builtin.copy_,List.getElem?_toArray,List.getElem?_cons_zero,List.getElem?_cons_succ,Sem.run_bind,run_underlying k2,Result.andThen_ok,n3,hlen,sizeOf,typeInfo,run_program,q1,Sem.run_pure,q3,←hsz,hf];cases A<;>simp[e0,storeCells]
      ·have hes:es.take i++(xs.take 0++es.drop (i+min xs.length 0))=es:=by rw[e0];simp
       have hset:List.set H b (Blk.row sz es false)=H:=by
        apply List.ext_getElem?;intro j;by_cases hj:b=j
        ·subst hj;rw[List.getElem?_set_self (List.getElem?_eq_some_iff.1 hH).1,hH]
        ·rw[List.getElem?_set_ne hj]
       rw[hes,hset];exact hR
     rcases hR.row _ _ _ _ hH with ⟨p,hp,hr⟩|⟨hes0,hγ⟩
     case inr=>
      rcases hd.sl_inv with ⟨p',cap,hp',_⟩|⟨hn0,A,hD,_⟩
      ·rw[hγ]at hp';cases hp'
      ·exact empty hn0 ⟨A,hD⟩
     obtain⟨pre,vs,post,tb,fz,g1,g2,g3,g4,g5,g6⟩:=hr.hm;have hps:p.s=sz:=hr.hs;have hf:=n4 ie.size (by rw[q3];exact hall) (min xs.length n) (Nat.min_le_left _ _) w rfl;rw[q3]at hf;have hnl:news.length=xs.length*(tab e).size:=by rw[n1.len,cN hall]
     have hk1:min xs.length n*sz≤xs.length*sz:=Nat.mul_le_mul_right _ (Nat.min_le_left _ _);have hk2:min xs.length n*sz≤n*sz:=Nat.mul_le_mul_right _ (Nat.min_le_right _ _);have hk3:(i+n)*sz≤es.length*sz:=Nat.mul_le_mul_right _ hin;rw[Nat.add_mul]at hk3;have hvl:=g3.len;rw[cN hr.hl]at hvl;rw[←hsz]at hf hnl;have htl:(news.take (min xs.length n*sz)).length=min xs.length n*sz:=by rw[List.length_take,Nat.min_eq_left (by omega)]
     have hxt:xs.take n=xs.take (min xs.length n):=by
      rw[List.take_eq_take_iff];omega
     have hnew:=hR.setRow (vs':=vs.take (i*sz)++(news.take (min xs.length n*sz)++vs.drop (i*sz+min xs.length n*sz))) (post':=post) hH hp g1 g2 g5 g6 (es':=es.take i++(xs.take n++es.drop (i+min xs.length n))) (fun u hu=>by
      simp only[List.mem_append]at hu;rcases hu with hu|hu|hu
      ·exact hr.hl u (List.mem_of_mem_take hu)
      ·rw[hsz];exact hall u (List.mem_of_mem_take hu)
      ·exact hr.hl u (List.mem_of_mem_drop hu)) (by
      rw[List.flatMap_append,List.flatMap_append,gM (s:=sz) _ hr.hl,iD (s:=sz) _ hr.hl,hxt,gM (s:=sz) _ (by rw[hsz];exact hall),Nat.add_mul];exact(g3.take _).append ((n1.take _).append (g3.drop _))) (by
      intro u hu;simp only[List.mem_append]at hu;rcases hu with hu|hu|hu
      ·exact g4 u (List.mem_of_mem_take hu)
      ·exact n2 u (List.mem_of_mem_take hu)
      ·exact g4 u (List.mem_of_mem_drop hu)) (by
      have l1:(vs.take (i*sz)).length=i*sz:=by rw[List.length_take,Nat.min_eq_left (by omega)]
      simp only[List.length_append,List.length_drop,l1,htl];omega)
     have hlen:Nat.min xs.length n=min xs.length n:=rfl;rcases hd.sl_inv with ⟨p',cap,hp',hcap,hN,hD⟩|⟨hn0,A,hD,_⟩
     ·rw[hp]at hp';cases hp';have hst:=dY P p.B (p.O+i*p.s) tb fz (news.take (min xs.length n*sz)) 0 _ w g1 (fun k hk=>g5 _ (by omega) (by rw[hps];rw[htl]at hk;omega)) (by
       simp only[List.size_toArray,List.length_append,htl];rw[hps];omega) (fun u hu=>n2 u (List.mem_of_mem_take hu))
      simp only[Nat.add_zero]at hst;have harr:(⟨pre++(vs++post)⟩:Array Value).toList.take (p.O+i*p.s)++news.take (min xs.length n*sz)++(⟨pre++(vs++post)⟩:Array Value).toList.drop (p.O+i*p.s+(news.take (min xs.length n*sz)).length) =
       pre++(vs.take (i*sz)++(news.take (min xs.length n*sz)++vs.drop (i*sz+min xs.length n*sz))++post):=by
       simp only;rw[htl,hps,←g2,List.take_length_add_append,Nat.add_assoc pre.length,List.drop_length_add_append,List.take_append_of_le_length (by omega),List.drop_append_of_le_length (by omega)];simp
      rw[harr]at hst;refine⟨goInt (min xs.length n:Nat),_,?_,.tree _ _ (.int _ _),hnew.1,hnew.2,⟨rfl,rfl,rfl,by simp,fun k hk=>setRow_other _ _ _ _ (by have:=hr.hB;omega)⟩⟩;rw[hD];simp only[Builtin.copy_,List.getElem?_toArray,List.getElem?_cons_zero,List.getElem?_cons_succ,Sem.run_bind,run_underlying k2,Result.andThen_ok,n3,hlen,sizeOf,typeInfo,run_program,q1,Sem.run_pure,q3,←hsz,hf,hst]
     ·exact empty hn0 ⟨A,hD⟩
    ·cases h
   ·cases h
  ·cases h
 ·cases h
theorem tA:∀{es:List V}{s:List UInt8}{news:List Value},gD es=some s→RvL w im γ (es.flatMap V.cells) news→∃ ns:List Int,news=ns.map (Value.int .u8)∧s=ns.map fun n=>UInt8.ofNat n.toNat
 | [],s,news,h,hr=>by
  simp[gD]at h;subst h;cases hr;exact⟨[],rfl,rfl⟩
 | v::es,s,news,h,hr=>by
  unfold gD at h;split at h
  ·rename_i e;cases e
  ·rename_i n l e;cases e;cases hb:gD es with
   | none=>rw[hb]at h;cases h
   | some r=>
    rw[hb]at h;simp at h;subst h;rw[List.flatMap_cons]at hr;obtain⟨A,B,e1,h1,h2⟩:=hr.split;subst e1;cases h1 with
    | cons _ x _ m hx t=>
     cases t;obtain⟨ns,e2,e3⟩:=tA hb h2;subst e2 e3;exact⟨n::ns,by rw[hx.int_inv];rfl,rfl⟩
  ·cases h
theorem yY:∀(ns:List Int)(s:List UInt8),ns.foldl (fun(r:ByteArray) n=>r.push (UInt8.ofNat n.toNat)) ⟨⟨s⟩⟩=⟨⟨s++ns.map fun n=>UInt8.ofNat n.toNat⟩⟩
 | [],s=>by simp
 | n::ns,s=>by
  rw[List.foldl_cons];have:(⟨⟨s⟩⟩:ByteArray).push (UInt8.ofNat n.toNat)=⟨⟨s++[UInt8.ofNat n.toNat]⟩⟩:=by
   simp[ByteArray.push]
  rw[this,yY ns];simp
theorem Jh {s d:TypeId}{x:Operand}(hR:RelH w im γ B0 H)(ht:TabOk P tab)(hT:RvL w im γ T a.tmps.toList)(ho:o.op = .convert s d x)(h:mY tab H s d (ev T x) = .val v H'):aY P o a w im γ B0 v H':=by
 have hX:=aP hT x;unfold mY at h;split at h
 ·rename_i k k' m n h1 h2 h3;cases h;rw[h3]at hX;have eX:=hX.int_inv;obtain⟨d1,k1,j1⟩:=dE ht h1 (by simp);obtain⟨d2,k2,j2⟩:=dE ht h2 (by simp);cases d1<;>simp[dA]at j1;cases d2<;>simp[dA]at j2;subst j2;refine aY.pure (x:=.int _ (IntKind.wrap _ n)) hR ?_ (.tree _ _ (.int _ _));simp only[execOp,ho,eX,convert,Sem.run_bind,run_underlying k1,run_underlying k2,Result.andThen_ok,Conv.intToInt,Sem.run_pure]
 ·rename_i k' m n h1 h2 h3;cases h;rw[h3]at hX;have eX:=hX.int_inv;obtain⟨d1,k1,j1⟩:=dE ht h1 (by simp);obtain⟨d2,k2,j2⟩:=dE ht h2 (by simp);cases d2<;>simp[dA]at j2;subst j2;refine aY.pure (x:=.float .f64 (FloatKind.f64.nearest n)) hR ?_ (.tree _ _ (.flt _));simp only[execOp,ho,eX,Sem.run_bind,run_convert_int_float w s d _ .f64 n (by rw[k1];rfl) k2,floatOfInt,Result.andThen_ok,Sem.run_pure]
 ·rename_i k0 k b h1 h2 h3;obtain⟨hv,rfl⟩:=FO.of_val h;obtain⟨n,hn,rfl⟩:=Option.map_eq_some_iff.1 hv;rw[h3]at hX;have eX:=hX.flt_inv;obtain⟨d1,k1,j1⟩:=dE ht h1 (by simp);obtain⟨d2,k2,j2⟩:=dE ht h2 (by simp);cases d2<;>simp[dA]at j2;subst j2;refine aY.pure (x:=.int _ n) hR ?_ (.tree _ _ (.int _ _));simp only[execOp,ho,eX,Sem.run_bind,run_convert_float_int w s d .f64 _ b n (by rw[k1];rfl) k2 hn,Result.andThen_ok,Sem.run_pure]
 ·rename_i s' h1 h2 h3;cases h;rw[h3]at hX;have eX:=hX.str_inv;obtain⟨d1,k1,j1⟩:=dE ht h1 (by simp);obtain⟨d2,k2,j2⟩:=dE ht h2 (by simp);cases d1<;>simp[dA]at j1;cases d2<;>simp[dA]at j2;refine aY.pure (x:=.string ⟨⟨s'⟩⟩) hR ?_ (.tree _ _ (.str _));simp only[execOp,ho,eX,convert,Sem.run_bind,run_underlying k1,run_underlying k2,Result.andThen_ok,Sem.run_pure]
 ·rename_i e s' h1 h2 h3;split at h
  ·rename_i he;cases h;rw[h3]at hX;have eX:=hX.str_inv;obtain⟨d1,k1,j1⟩:=dE ht h1 (by simp);obtain⟨d2,k2,j2⟩:=dE ht h2 (by simp);obtain⟨d3,k3,j3⟩:=dE ht he (by simp);cases d1<;>simp[dA]at j1;cases d2<;>simp[dA]at j2;cases d3<;>simp[dA]at j3;subst j3;rw[j2]at k2;have hrun:=run_bytes_of_string (P:=P) w s d e ⟨⟨s'⟩⟩ k1 k2 k3;have hdrew:w.drew.heap=w.heap:=rfl;have hrel:∀ l:List UInt8,RvL w.drew im γ ((l.map fun c=>V.int .u8 c.toNat).flatMap V.cells) (l.map fun c=>Value.int .u8 c.toNat):=by
    intro l;induction l with
    | nil=>exact .nil
    | cons c l ih=>exact .cons _ _ _ _ (.tree _ _ (.int _ _)) ih
   have hge:=grownCap_ge w s'.length 0 e;have hbr:∀ cap,s'.length≤cap→bytesRow ⟨⟨s'⟩⟩ cap=⟨(s'.map fun c=>Value.int .u8 c.toNat)++(List.replicate (cap - s'.length) (.int .u8 0))⟩:=by
    intro cap _;apply Array.ext';simp[bytesRow];rfl
   have hsz:(⟨⟨s'⟩⟩:ByteArray).size=s'.length:=rfl;rw[hsz]at hrun;rw[hbr _ hge]at hrun;have hszc:(⟨(s'.map fun c=>Value.int .u8 c.toNat)++(List.replicate (grownCap w s'.length 0 e - s'.length) (.int .u8 0))⟩:Array Value).size=grownCap w s'.length 0 e:=by
    simp;omega
   rw[hszc]at hrun;have hnew:=(hR.heap hdrew).alloc (es:=s'.map fun c=>V.int .u8 c.toNat) (s:=1) (fun u hu=>by obtain⟨c,_,rfl⟩:=List.mem_map.1 hu;rfl) (vs:=s'.map fun c=>Value.int .u8 c.toNat) (post:=List.replicate (grownCap w s'.length 0 e - s'.length) (.int .u8 0)) (hrel s')
    (fun u hu=>by obtain⟨c,_,rfl⟩:=List.mem_map.1 hu;rfl) e (grownCap w s'.length 0 e,grownCap w s'.length 0 e+1) (fun k hk=>by simp at hk;simp only;omega)
   refine⟨_,_,_,jF (by
    simp only[execOp,ho,eX,Sem.run_bind];rw[hrun];rfl),?_,hnew.1,(lF hdrew).trans hnew.2,(Below.refl _ _).drew.trans (dH (w:=w.drew) hR.size _)⟩
   have:=Rv.sl (w:=w.drew.alloc (.cells ⟨(s'.map fun c=>Value.int .u8 c.toNat)++(List.replicate (grownCap w s'.length 0 e - s'.length) (.int .u8 0))⟩ e (grownCap w s'.length 0 e,grownCap w s'.length 0 e+1))) (im:=im) (γ:=upd γ H.length ⟨w.drew.heap.size,0,1,(s'.map fun c=>Value.int .u8 c.toNat).length+(List.replicate (grownCap w s'.length 0 e - s'.length) (Value.int .u8 0)).length⟩) H.length 0 s'.length (grownCap w s'.length 0 e) _ (cL _ _ _) hge (by simp;omega);simpa using this
  ·cases h
 ·rename_i xx e h1 h2;split at h
  ·cases h
  rename_i hns;split at h
  ·rename_i es he hes;cases hb:gD es with
   | none=>rw[hb]at h;cases h
   | some s'=>
    rw[hb]at h;cases h;obtain⟨d1,k1,j1⟩:=dE ht h1 (by simp);obtain⟨d2,k2,j2⟩:=dE ht h2 (by simp);obtain⟨d3,k3,j3⟩:=dE ht he (by simp);cases d1<;>simp[dA]at j1;cases d2<;>simp[dA]at j2;cases d3<;>simp[dA]at j3;subst j3;rw[j1]at k1;obtain⟨news,n1,n2,n3,n4⟩:=nV (P:=P) hR hX hes;obtain⟨ns,e1,e2⟩:=tA hb n1;subst e1 e2;have hall:∀ u∈es,u.cells.length=1:=by
     have:∀(l:List V) r,gD l=some r→∀ u∈l,u.cells.length=1:=by
      intro l;induction l with
      | nil=>intro r _ u hu;simp at hu
      | cons a l ih=>
       intro r hr u hu;unfold gD at hr;split at hr
       ·rename_i e;cases e
       ·rename_i n l' e;cases e;cases hq:gD l with
        | none=>rw[hq]at hr;cases hr
        | some r'=>
         rcases List.mem_cons.1 hu with rfl|hu
         ·rfl
         ·exact ih r' hq u hu
       ·cases hr
     exact this es _ hb
    have hf:=n4 1 hall es.length (Nat.le_refl _) w rfl;have hlen:(ns.map (Value.int .u8)).length=es.length:=by rw[n1.len,cN hall,Nat.mul_one]
    rw[List.take_of_length_le (by omega)]at hf;have hXs:∃ p n c,a.eval x = .slice p n c∧n=es.length:=by
     have h3':=n3 w;cases hq:ev T x with
     | sl b i n=>
      rw[hq]at hX;rcases hX.sl_inv with ⟨p,cap,_,_,_,e⟩|⟨_,A,e,_⟩
      ·rw[e]at h3';simp[Builtin.lenOf]at h3';exact⟨_,_,_,e,h3'⟩
      ·rw[e]at h3';simp[Builtin.lenOf]at h3';exact⟨_,_,_,e,h3'⟩
     | imm l=>
      rw[hq]at hX;rcases hX.imm_inv.imm_inv with ⟨_,A,cap,_,e⟩|⟨s,B,O,cap,cs,_,_,_,_,_,_,_,e⟩
      ·rw[e]at h3';simp[Builtin.lenOf]at h3';exact⟨_,_,_,e,h3'⟩
      ·rw[e]at h3';simp[Builtin.lenOf]at h3';exact⟨_,_,_,e,h3'⟩
     | nils=>
      rw[hq]at hX;have e:=hX.nils_inv;rw[e]at h3';simp[Builtin.lenOf]at h3';exact⟨_,_,_,e,h3'⟩
     | str s=>rw[hq]at hns;simp[V.isStr]at hns
     | _=>rw[hq]at hes;simp[bS]at hes
    obtain⟨p,n,c,eX,hn⟩:=hXs;subst hn;refine aY.pure (x:=.string ⟨⟨ns.map fun n=>UInt8.ofNat n.toNat⟩⟩) hR ?_ (.tree _ _ (.str _));have hrun:(convert s d (a.eval x)).run P w = .ok (.string ⟨⟨ns.map fun n=>UInt8.ofNat n.toNat⟩⟩) w:=by
     rw[eX,run_convert_bytes_string w s d e p _ c k1 k3 k2];cases p with
     | none=>
      rw[eX]at hf;simp[Builtin.firstCells]at hf;subst hf;simp[Conv.bytesToString];rfl
     | some A=>
      rw[eX]at hf;simp only[Builtin.firstCells,Nat.mul_one]at hf;rw[run_bytesToString w A _ c ns hf];have:=yY ns [];simp only[List.nil_append]at this;rw[←this];rfl
    simp only[execOp,ho,Sem.run_bind,hrun,Result.andThen_ok,Sem.run_pure]
  ·cases h
 ·cases h
end
section
open Go Go.RowKit
variable {w w':World}{im im':Nat→Prop}{γ γ':fK}{P:Program}{tab:cR}
variable {o:Oper}{a:Act}{B0:Nat}{H H':aA}{T:List V}{v:V}
mutual
theorem Rv.flatT:∀{v:V}{x:Value},Rv w im γ v x→flat v=true→Tv w im v x
 | _,_,.tree v x h,_=>h
 | _,_,.ptr ..,hf=>by simp[flat]at hf
 | _,_,.ip ..,hf=>by simp[flat]at hf
 | _,_,.sl ..,hf=>by simp[flat]at hf
 | _,_,.sl0 ..,hf=>by simp[flat]at hf
 | _,_,.fn f p c ps cs hp hc,hf=>by
  cases p with
  | cons _ _=>simp[flat]at hf
  | nil=>
   cases c with
   | cons _ _=>simp[flat]at hf
   | nil=>cases hp;cases hc;exact .fn f
 | _,_,.iface t v x h,hf => .iface t v x (Rv.flatT h (by simpa[flat]using hf))
 | _,_,.agg cs xs h1 h,hf => .agg cs xs h1 (RvL.flatT h (by simpa[flat]using hf))
 | _,_,.tup cs xs h,hf => .tup cs xs (RvL.flatT h (by simpa[flat]using hf))
 | _,_,.glob _,hf=>by simp[flat]at hf
 | _,_,.mp ..,hf=>by simp[flat]at hf
theorem RvL.flatT:∀{l:List V}{m:List Value},RvL w im γ l m→flatL l=true→TvL w im l m
 | _,_,.nil,_ => .nil
 | _,_,.cons v x l m h t,hf=>by
  simp only[flatL,Bool.and_eq_true]at hf;exact .cons v x l m (Rv.flatT h hf.1) (RvL.flatT t hf.2)
end
theorem zJ (k:Nat)(hk:1≤k):∀(n:Nat)(cs:List V),cs.length=n*k→cs.all Rj=true→(jU k n cs).flatMap V.cells=cs∧(∀ u∈jU k n cs,u.cells.length=k)∧(jU k n cs).length=n
 | 0,cs,h,_=>by
  have:cs=[]:=List.eq_nil_of_length_eq_zero (by simpa using h);subst this;exact⟨rfl,fun u hu=>by simp[jU]at hu,rfl⟩
 | n+1,cs,h,ha=>by
  rw[Nat.succ_mul]at h;obtain⟨h1,h2,h3⟩:=zJ k hk n (cs.drop k) (by simp;omega) (by
   rw[List.all_eq_true]at ha ⊢;exact fun v hv=>ha v (List.mem_of_mem_drop hv))
  have hm:(mkE k (cs.take k)).cells=cs.take k:=by
   unfold mkE;split
   ·rename_i e;subst e;cases cs with
    | nil=>simp at h
    | cons v l=>
     have:=(List.all_eq_true.1 ha) v (by simp);simp only[List.take_succ_cons,List.take_zero,List.headD_cons];cases v<;>simp[V.cells]at this ⊢;simp[Rj]at this
   ·rfl
  refine⟨?_,?_,by simp[jU,h3]⟩
  ·simp only[jU,List.flatMap_cons,h1,hm,List.take_append_drop]
  ·intro u hu;simp only[jU,List.mem_cons]at hu;rcases hu with rfl|hu
   ·rw[hm,List.length_take];omega
   ·exact h2 u hu
theorem Jm {t e:TypeId}{x:Operand}{n b s:Nat}{el:V}(hR:RelH w im γ B0 H)(ht:TabOk P tab)(hT:RvL w im γ T a.tmps.toList)(ho:o.op = .slice t x none none none)(hd:(tab t).desc = .arr n e)(hx:ev T x = .ptr b 0 0)
 (hb:H[b]?=some (.row s [el] false))(hc:(tab e).known=true∧1≤(tab e).size∧s=n*(tab e).size∧el.cells.all Rj=true) :
 aY P o a w im γ B0 (.sl H.length 0 n) (H.set b .dead++[.row (tab e).size (jU (tab e).size n el.cells) false]):=by
 obtain⟨c1,c2,c3,c4⟩:=hc;have hX:=aP hT x;rw[hx]at hX;obtain⟨p,hp,eX⟩:=hX.ptr_inv;have hr:=hR.at hb hp;obtain⟨d,k2,k3⟩:=dE ht hd (by simp);cases d<;>simp[dA]at k3;rw[k3.1,k3.2]at k2;obtain⟨ti',d',l1,l2,l3,l4,l5,l6,l7⟩:=cY (ht:=ht) c1;obtain⟨pre,vs,post,ty,fz,g1,g2,g3,g4,g5,g6⟩:=hr.hm;have hlen:el.cells.length=n*(tab e).size:=by rw[hr.hl el (by simp),c3]
 obtain⟨q1,q2,q3⟩:=zJ (tab e).size c2 n el.cells hlen c4;simp only[List.flatMap_cons,List.flatMap_nil,List.append_nil]at g3;have hvl:vs.length=n*(tab e).size:=by rw[g3.len,hlen]
 have hK:=iN (hR.kill b) dQ.refl ⟨p.B,p.O,(tab e).size,p.N⟩;have hpush:=(hR.kill b).push (w':=w) (s:=(tab e).size) (es:=jU (tab e).size n el.cells) (p:=⟨p.B,p.O,(tab e).size,p.N⟩) dQ.refl (Nat.le_refl _)
  (fun b' s' es' ro' q hb' hq=>by
   obtain⟨hne,hb2⟩:=Td hb';exact⟨show q.B≠p.B from hR.inj _ _ _ _ _ _ _ _ _ _ hne hb2 hb hq hp,rfl⟩)
  ⟨rfl,hr.hB,by simp,hr.hw,q2,pre,vs,post,ty,fz,g1,g2,by rw[q1];exact g3.keep hK,g4,g5,g6⟩
  (fun c o q X hc h2 hq hX=>by
   have hcb:c≠b:=fun e=>by
    subst e;rw[List.getElem?_set]at hc;simp at hc;rw[←hc.2]at h2;cases h2
   rw[List.getElem?_set_ne (Ne.symm hcb)]at hc;exact⟨show X≠p.B from fun e=>hR.oh.sep c b o _ q p X hcb hc h2 hb hq hp hX e,rfl⟩)
 rw[List.length_set]at hpush hK;refine⟨.slice (some ⟨p.B,p.O,none⟩) n n,w,_,jF ?_,?_,hpush,hK,Below.refl _ _⟩
 ·by_cases h0:n=0
  ·subst h0;simp[execOp,ho,eX,Instr.sliceAt,run_underlying k2,Instr.sureAddr,Instr.sliceBounds,l7]
  ·simp[execOp,ho,eX,Instr.sliceAt,run_underlying k2,Instr.sureAddr,Instr.sliceBounds,l7,h0,Ne.symm h0,Addr.add]
 ·have:=Rv.sl (w:=w) (im:=im) (γ:=upd γ H.length ⟨p.B,p.O,(tab e).size,p.N⟩) H.length 0 n n ⟨p.B,p.O,(tab e).size,p.N⟩ (cL _ _ _) (Nat.le_refl _) (by simp only[Nat.zero_add];rw[←hvl];omega);simpa using this
theorem Lm {t:TypeId}(hR:RelH w im γ B0 H)(ht:TabOk P tab)(ho:o.op = .alloc t)(hk:(tab t).known=true)(hz:(tab t).zero = .agg [.nilp,.nils])(hb:qR t=true) :
 aY P o a w im γ B0 (.ptr H.length 0 0) (H++[.bld t []]):=by
 obtain⟨i,d,k1,k2,k3,k4,k5,z,k6,k7⟩:=ht.ok t hk;have hzr:Rv w im γ (tab t).zero z:=by rw[←k7];exact .tree _ _ (jL z)
 rw[hz]at hzr;obtain⟨xs,rfl,_,hx⟩:=hzr.agg_inv;have hxs:xs=[.pointer none,.slice none 0 0]:=by
  cases hx with
  | cons _ x _ m h1 h2=>
   cases h2 with
   | cons _ y _ m' h3 h4=>
    cases h4;rw[h1.nilp_inv,h3.nils_inv]
 subst hxs;obtain⟨h1,h2⟩:=hR.pushO (o:=.bld t []) rfl (.cells #[.pointer none,.slice none 0 0] t) (p:=⟨w.heap.size,0,2,w.heap.size⟩) rfl (fun X hX=>by
  rcases hX with h|⟨q,v,t',h1,h2⟩
  ·exact h
  ·rw[heap_alloc_new]at h1;simp only[Option.some.injEq,Obj.cells.injEq]at h1;have e:v = .slice none 0 0:=by have:=congrArg (fun a=>a[1]?) h1.1;simpa using this.symm
   rw[e]at h2;cases h2)
  ⟨rfl,hb,.pointer none,.slice none 0 0,heap_alloc_new w _,.inl rfl,⟨rfl,.inl ⟨rfl,rfl⟩⟩,by simp[Value.ownBlock]⟩
 refine⟨.pointer (some ⟨w.heap.size,0,none⟩),_,_,jF ?_,?_,h1,h2,dH hR.size _⟩
 ·simp only[execOp,ho,Instr.alloc,Sem.run_bind,pN k1 k6,oP,Result.andThen_ok,Sem.run_pure];rfl
 ·simpa using Rv.ptr (w:=w.alloc (.cells #[.pointer none,.slice none 0 0] t)) (im:=im) H.length 0 0 _ (cL γ H.length ⟨w.heap.size,0,2,w.heap.size⟩)
theorem lO {t e:TypeId}(h:mA tab t=some e):(tab t).desc = .map 38 e∧(∃ fs,(tab 38).desc = .struct fs)∧(tab 38).eq=true∧(tab 38).known=true∧(tab 38).size=2∧(tab e).known=true:=by
 unfold mA at h;split at h
 ·rename_i e' hd;split at h
  ·rename_i fs hs;split at h
   ·rename_i hc;cases h;exact⟨hd,⟨fs,hs⟩,hc⟩
   ·cases h
  ·cases h
 ·cases h
theorem yA (ht:TabOk P tab){t e:TypeId}(h:mA tab t=some e):P.underlying t=some (.map 38 e):=by
 obtain⟨h1,_⟩:=lO h;obtain⟨i,d,k1,k2,k3,_⟩:=ht.ok t (by unfold TI.known;rw[h1]);rw[h1]at k3;cases d<;>simp[dA]at k3;rw[k2,k3.1,k3.2]
theorem Gp (ht:TabOk P tab){t e:TypeId}(h:mA tab t=some e):∃ fs,P.underlying 38=some (.struct fs):=by
 obtain⟨_,⟨fs,h2⟩,_,h3,_⟩:=lO h;obtain⟨i,d,k1,k2,k3,_⟩:=ht.ok 38 h3;rw[h2]at k3;cases d<;>simp[dA]at k3;exact⟨_,k2⟩
theorem aEc (ht:TabOk P tab){t e:TypeId}(h:mA tab t=some e)(p q:Int×Int)(w:World):(Op.equal 38 (qV p) (qV q)).run P w = .ok (decide (p=q)) w:=by
 obtain⟨_,_,h3,_,h4,_⟩:=lO h;have:=(ht.eq 38 h3 [p.1,p.2] [q.1,q.2] (.tmp 0) (.tmp 0) w (by rw[h4];rfl) (by rw[h4];rfl)).2;have e1:decide ([p.1,p.2]=[q.1,q.2])=decide (p=q):=by
  rw[decide_eq_decide];obtain⟨p1,p2⟩:=p;obtain⟨q1,q2⟩:=q;simp
 rw[e1]at this;exact this
theorem wB (hE:∀ p q:Int×Int,(Op.equal 38 (qV p) (qV q)).run P w = .ok (decide (p=q)) w)(q:Int×Int):∀(es:List ((Int×Int)×V))(ms:List MapEntry)(i:Nat),MapsR w im es ms→
 (Jd es q=none∧(Instr.findAsking 38 (qV q) ms i).run P w = .ok none w∧(∀(x:V)(y:Value)(c:Nat),Tv w im x y→MapsR w im (uT es q x) (ms++[{key:=qV q,val:=y,born:=c}])))∨
 ∃ j e v,Jd es q=some v∧(Instr.findAsking 38 (qV q) ms i).run P w = .ok (some (i+j,e.val)) w∧ms[j]?=some e∧e.key=qV q∧Tv w im v e.val∧
  ∀(x:V)(y:Value),Tv w im x y→MapsR w im (uT es q x) (ms.modify j fun e=>{e with key:=qV q,val:=y})
 | [],_,i,.nil => .inl ⟨rfl,by simp[Instr.findAsking],fun x y c h => .cons _ _ _ _ _ rfl h .nil⟩
 | _::_,_::_,i,.cons k v e l m hk hv h=>by
  have he:=hE q k;by_cases hq:k=q
  ·subst hq;refine .inr ⟨0,e,v,by simp[Jd],?_,rfl,hk,hv,fun x y hx=>?_⟩
   ·simp[Instr.findAsking,hk,he]
   ·simp only[uT,if_true,List.modify_zero_cons];exact .cons _ _ _ _ _ rfl hx h
  ·have he':(Op.equal 38 (qV q) e.key).run P w = .ok false w:=by rw[hk,he];simp[Ne.symm hq]
   rcases wB hE q l m (i+1) h with ⟨h1,h2,h3⟩|⟨j,e',v',h1,h2,h3,h4,h5,h6⟩
   ·refine .inl ⟨by simp[Jd,hq,h1],by simp[Instr.findAsking,he',h2],fun x y c hx=>?_⟩;simp only[uT,if_neg hq,List.cons_append];exact .cons _ _ _ _ _ hk hv (h3 x y c hx)
   ·refine .inr ⟨j+1,e',v',by simp[Jd,hq,h1],?_,by simpa using h3,h4,h5,fun x y hx=>?_⟩
    ·simp[Instr.findAsking,he',h2];omega
    ·simp only[uT,if_neg hq,List.modify_succ_cons];exact .cons _ _ _ _ _ hk hv (h6 x y hx)
theorem nH (ht:TabOk P tab){t e:TypeId}(h:mA tab t=some e)(q:Int×Int)(ms:List MapEntry){r:Option (Nat×Value)}(hr:(Instr.findAsking 38 (qV q) ms 0).run P w = .ok r w):(Instr.findKey 38 (qV q) ms).run P w = .ok r w:=by
 obtain⟨fs,hu⟩:=Gp ht h;cases ms with
 | nil=>
  simp[Instr.findAsking]at hr;subst hr;simp[Instr.findKey,run_underlying hu,Instr.findNow]
 | cons e l=>simp[Instr.findKey,run_underlying hu,Instr.findNow,Instr.sameNow,hr]
theorem Rv.mp_inv {b:Nat}{x:Value}(h:Rv w im γ (.mp b) x):∃ p,γ b=some p∧x = .map (some p.B):=by
 cases h with
 | tree _ _ h=>cases h
 | mp b p h=>exact⟨p,h,rfl⟩
theorem Xs {i j:Int}{x:Value}(h:Rv w im γ (.agg [.int .i64 i,.int .i64 j]) x):x=qV (i,j):=by
 obtain⟨xs,rfl,_,hx⟩:=h.agg_inv;cases hx with
 | cons _ x _ m h1 h2=>
  cases h2 with
  | cons _ y _ m' h3 h4=>
   cases h4;rw[h1.int_inv,h3.int_inv];rfl
theorem Hh {t e:TypeId}(hR:RelH w im γ B0 H)(ht:TabOk P tab)(ho:o.op = .makeMap t none)(hm:mA tab t=some e):aY P o a w im γ B0 (.mp H.length) (H++[.maps []]):=by
 obtain⟨h1,h2⟩:=hR.pushO (o:=.maps []) rfl (.map #[] 0) (p:=⟨w.heap.size,0,0,w.heap.size⟩) rfl (fun X hX=>hX) ⟨#[],0,heap_alloc_new w _,.nil⟩;refine⟨.map (some w.heap.size),_,_,jF ?_,?_,h1,h2,dH hR.size _⟩
 ·simp[execOp,ho,Instr.makeMap]
 ·exact Rv.mp H.length _ (cL γ H.length ⟨w.heap.size,0,0,w.heap.size⟩)
theorem Km {t e:TypeId}{m k:Operand}{b:Nat}{i j:Int}{es:List ((Int×Int)×V)}(hR:RelH w im γ B0 H)(ht:TabOk P tab)(hT:RvL w im γ T a.tmps.toList)(ho:o.op = .lookup t m k true)(hm:mA tab t=some e)
 (e1:ev T m = .mp b)(e2:ev T k = .agg [.int .i64 i,.int .i64 j])(hb:H[b]?=some (.maps es)) :
 aY P o a w im γ B0 (match Jd es (i,j)with|some v => .tup [v,.bool true]|none => .tup [(tab e).zero,.bool false]) H:=by
 have r1:=aP hT m;have r2:=aP hT k;rw[e1]at r1;rw[e2]at r2;obtain⟨p,hp,hx⟩:=r1.mp_inv;have hy:=Xs r2;obtain⟨p',hp',⟨ms,ck,g1,g2⟩,_⟩:=hR.oh.obj b _ hb rfl;rw[hp]at hp';cases hp';have hu:=yA ht hm;obtain⟨_,_,_,_,_,hke⟩:=lO hm;obtain⟨zi,d,k1,k2,k3,k4,k5,z,k6,k7⟩:=ht.ok e hke;have hz:Rv w im γ (tab e).zero z:=by rw[←k7];exact .tree _ _ (jL z)
 have hck:=ht.key ms.isEmpty i j w;have hck':(Instr.checkKey ms.isEmpty 10000 38 (qV (i,j))).run P w = .ok () w:=hck;rcases wB (aEc ht hm · · w) (i,j) es ms.toList 0 g2 with ⟨f1,f2,_⟩|⟨n,en,v,f1,f2,f3,f4,f5,_⟩
 ·rw[f1];refine aY.pure (x:=.tuple #[z,.bool false]) hR ?_ (.tup _ _ (.cons _ _ _ _ hz (.cons _ _ _ _ (.tree _ _ (.bool _)) .nil)));simp[execOp,ho,Instr.lookup,run_underlying hu,hx,hy,MapKept.run_getObj_map g1,hck',nH ht hm (i,j) ms.toList f2,pN k1 k6]
 ·rw[f1];refine aY.pure (x:=.tuple #[en.val,.bool true]) hR ?_ (.tup _ _ (.cons _ _ _ _ (.tree _ _ f5) (.cons _ _ _ _ (.tree _ _ (.bool _)) .nil)));simp[execOp,ho,Instr.lookup,run_underlying hu,hx,hy,MapKept.run_getObj_map g1,hck',nH ht hm (i,j) ms.toList f2]
theorem Ey (q:Int×Int):Instr.sameBits 10000 (qV q) (qV q)=true:=by
 simp[Instr.sameBits,qV]
theorem RelH.setO {b:Nat}{o o':Blk}{p:Pl}(hR:RelH w im γ B0 H)(hb:H[b]?=some o)(ho:iU o=true)(ho':iU o'=true∨o' = .dead)(hp:γ b=some p)(hs:w.heap.size≤w'.heap.size)
 (hf:∀ X,gI w' p o' X→gI w p o X∨(w.heap.size≤X∧X < w'.heap.size))(hX:∀ X,X < w.heap.size→¬gI w p o X→w'.heap[X]?=w.heap[X]?)(hr:Vo w' im B0 p o'):RelH w' im γ B0 (H.set b o')∧Keep w im γ w' im γ:=by
 have hof:=hR.oh.obj' hb ho hp;have hk:dQ w im w' im:=fun B hB=>⟨hB,hX B (hR.imlt B hB) fun h=>(hof B h).2.2 hB⟩;have hK:Keep w im γ w' im γ:=⟨hk,fun _ _ h=>h⟩;have hbl:b < H.length:=(List.getElem?_eq_some_iff.1 hb).1;have st:∀(c:Nat)(x:Blk),(List.set H b o')[c]?=some x→(c=b∧x=o')∨(c≠b∧H[c]?=some x):=by
  intro c x h;by_cases hc:b=c
  ·subst hc;rw[List.getElem?_set_self hbl]at h;cases h;exact .inl ⟨rfl,rfl⟩
  ·rw[List.getElem?_set_ne hc]at h;exact .inr ⟨Ne.symm hc,h⟩
 have rw':∀(c s:Nat) es ro,(List.set H b o')[c]?=some (Blk.row s es ro)→c≠b∧H[c]?=some (Blk.row s es ro):=by
  intro c s es ro h;rcases st _ _ h with ⟨_,rfl⟩|h
  ·rcases ho' with h|h<;>cases h
  ·exact h
 have oldlt:∀(c:Nat) x q,H[c]?=some x→γ c=some q→∀ X,gI w q x X→X < w.heap.size:=by
  intro c x q h hq X hX;cases x with
  | row s es ro=>have:=(hR.at h hq).block;cases hX;exact this
  | dead=>exact hX.elim
  | bld t bs=>exact(hR.oh.obj' h rfl hq X hX).2.1
  | maps es=>exact(hR.oh.obj' h rfl hq X hX).2.1
 have same:∀(c:Nat) x q,c≠b→H[c]?=some x→γ c=some q→∀ X,gI w q x X→w'.heap[X]?=w.heap[X]?:=by
  intro c x q hc h hq X hX';exact hX X (oldlt c x q h hq X hX') fun hf=>hR.oh.sep b c o x p q X (Ne.symm hc) hb ho h hp hq hf hX'
 have back:∀(c:Nat) x q,c≠b→H[c]?=some x→γ c=some q→∀ X,gI w' q x X→gI w q x X:=by
  intro c x q hc h hq X hX';exact jD (fun hx=>same c x q hc h hq q.B (Cb w q hx)) hX'
 refine⟨⟨fun c s es ro h=>?_,fun c c' s1 es1 ro1 s2 es2 ro2 p1 p2 hne h h' hp1 hp2=>hR.inj _ _ _ _ _ _ _ _ _ _ hne (rw' _ _ _ _ h).2 (rw' _ _ _ _ h').2 hp1 hp2,fun B hB=>Nat.lt_of_lt_of_le (hR.imlt B hB) hs,fun c hc=>hR.fresh c (by simpa using hc),Nat.le_trans hR.size hs,
  ⟨fun c x h h2=>?_,fun c c' x x' q q' X hne h h2 h3 hq hq' hX'=>?_⟩⟩,hK⟩
 ·obtain⟨hc,h⟩:=rw' _ _ _ _ h;rcases hR.row _ _ _ _ h with ⟨q,hq,hr2⟩|hn
  ·exact .inl ⟨q,hq,hr2.keep hK (same c _ q hc h hq q.B rfl)⟩
  ·exact .inr hn
 ·rcases st _ _ h with ⟨rfl,rfl⟩|⟨hc,h⟩
  ·refine⟨p,hp,hr,fun X hX=>?_⟩;rcases hf X hX with h4|h4
   ·have:=hof X h4;exact⟨this.1,Nat.lt_of_lt_of_le this.2.1 hs,this.2.2⟩
   ·exact⟨Nat.le_trans hR.size h4.1,h4.2,fun h5=>by have:=hR.imlt X h5;omega⟩
  ·obtain⟨q,hq,a1,a2⟩:=hR.oh.obj c x h h2;refine⟨q,hq,a1.keep hk (same c x q hc h hq),fun X hX'=>?_⟩;have:=a2 X (back c x q hc h hq X hX');exact⟨this.1,Nat.lt_of_lt_of_le this.2.1 hs,this.2.2⟩
 ·rcases st _ _ h with ⟨rfl,rfl⟩|⟨hc,hh⟩
  ·rw[hp]at hq;cases hq;rcases st _ _ h3 with ⟨rfl,_⟩|⟨hc',hh3⟩
   ·exact absurd rfl hne
   ·intro h5;have h6:=back c' x' q' hc' hh3 hq' X h5;rcases hf X hX' with h4|h4
    ·exact hR.oh.sep c c' o x' p q' X hne hb ho hh3 hp hq' h4 h6
    ·have:=oldlt c' x' q' hh3 hq' X h6;omega
  ·have h5:=back c x q hc hh hq X hX';rcases st _ _ h3 with ⟨rfl,rfl⟩|⟨hc',hh3⟩
   ·rw[hp]at hq';cases hq';intro h4;rcases hf X h4 with h6|h6
    ·exact hR.oh.sep c c' x o q p X hne hh h2 hb hq hp h5 h6
    ·have:=oldlt c x q hh hq X h5;omega
   ·exact fun h6=>hR.oh.sep c c' x x' q q' X hne hh h2 hh3 hq hq' h5 (back c' x' q' hc' hh3 hq' X h6)
theorem Ka {t e:TypeId}{m k x:Operand}{b:Nat}{i j:Int}{es:List ((Int×Int)×V)}(hR:RelH w im γ B0 H)(ht:TabOk P tab)(hT:RvL w im γ T a.tmps.toList)(ho:o.op = .mapUpdate t m k x)(hm:mA tab t=some e)
 (e1:ev T m = .mp b)(e2:ev T k = .agg [.int .i64 i,.int .i64 j])(hf':flat (ev T x)=true)(hb:H[b]?=some (.maps es)) :
 aY P o a w im γ B0 undef (H.set b (.maps (uT es (i,j) (ev T x)))):=by
 have hf:=(aP hT x).flatT hf';have r1:=aP hT m;have r2:=aP hT k;rw[e1]at r1;rw[e2]at r2;obtain⟨p,hp,hx⟩:=r1.mp_inv;have hy:=Xs r2;obtain⟨p',hp',⟨ms,ck,g1,g2⟩,gf⟩:=hR.oh.obj b _ hb rfl;rw[hp]at hp';cases hp';have hu:=yA ht hm;have hck':(Instr.checkKey false 10000 38 (qV (i,j))).run P w = .ok () w:=ht.key false i j w;have hlt:=(Array.getElem?_eq_some_iff.1 g1).1;have hB:B0≤p.B:=(gf p.B rfl).1;have fin:∀(ms':Array MapEntry)(ck':Nat),MapsR w im (uT es (i,j) (ev T x)) ms'.toList→(Instr.mapUpdate t (a.eval m) (a.eval k) (a.eval x)).run P w = .ok () (w.putObj p.B (.map ms' ck'))→aY P o a w im γ B0 undef (H.set b (.maps (uT es (i,j) (ev T x)))):=by
  intro ms' ck' h1 h2;have hni:=(gf p.B rfl).2.2;have hk:dQ w im (w.putObj p.B (.map ms' ck')) im:=fun B hB=>⟨hB,World.putObj_heap_other fun e=>hni (e▸hB)⟩;obtain⟨h3,h4⟩:=hR.setO (w':=w.putObj p.B (.map ms' ck')) hb rfl (o':=.maps (uT es (i,j) (ev T x))) (.inl rfl) hp (by simp) (fun X hX => .inl hX) (fun X _ hX=>World.putObj_heap_other hX) ⟨ms',ck',World.putObj_heap_same hlt,h1.keep hk⟩;refine⟨Go.undef,_,γ,fun next Q hn=>?_,.tree _ _ (.tup [] [] .nil),h3,h4,⟨rfl,rfl,rfl,by simp,fun c hc=>World.putObj_heap_other (by omega)⟩⟩;unfold Oper.wp;simp only[execOp,ho,Sem.run_bind,h2,Result.andThen_ok,Sem.run_pure];exact hn
 rcases wB (aEc ht hm · · w) (i,j) es ms.toList 0 g2 with ⟨f1,f2,f3⟩|⟨n,en,v,f1,f2,f3,f4,f5,f6⟩
 ·refine fin (ms.push {key:=qV (i,j),val:=a.eval x,born:=ck}) (ck+1) (by simpa using f3 _ _ ck hf) ?_;simp[Instr.mapUpdate,run_underlying hu,hx,hy,MapKept.run_getObj_map g1,hck',nH ht hm (i,j) ms.toList f2,MapKept.run_setObj_map _ g1,World.putObj]
 ·have hn:ms[n]?=some en:=by simpa using f3
  refine fin (ms.modify n fun e=>{e with key:=qV (i,j),val:=a.eval x}) ck (by simpa using f6 _ _ hf) ?_;simp[Instr.mapUpdate,run_underlying hu,hx,hy,MapKept.run_getObj_map g1,hck',nH ht hm (i,j) ms.toList f2,hn,f4,Instr.keyThatStays,Ey,MapKept.run_setObj_map _ g1,World.putObj]
end
section
open Go Go.RowKit
variable {w w':World}{im im':Nat→Prop}{γ γ':fK}{P:Program}{tab:cR}
variable {o:Oper}{a:Act}{B0:Nat}{H H':aA}{T:List V}{v:V}
theorem uI (hR:RelH w im γ B0 H){b s:Nat}(h:dZ H b=some s):∀ p,γ b=some p→p.s=s:=by
 intro p hp;unfold dZ at h;split at h
 ·rename_i s' es ro hH;cases h;exact(hR.at hH hp).hs
 ·cases h
theorem uZ {α:Type}{l:Array α}{x y:α}(h:l.toList=[x,y]):l = #[x,y]:=by
 apply Array.ext';rw[h]
theorem vA {α:Type}{l:Array α}{x:α}(h:l.toList=[x]):l = #[x]:=by
 apply Array.ext';rw[h]
theorem Xt {α β:Type}{f:α→β}{l:List α}{x y:β}(h:l.map f=[x,y]):∃ p q,l=[p,q]∧f p=x∧f q=y:=by
 match l,h with
 | [p,q],h=>simp at h;exact⟨p,q,rfl,h.1,h.2⟩
theorem Yt {α β:Type}{f:α→β}{l:List α}{x:β}(h:l.map f=[x]):∃ p,l=[p]∧f p=x:=by
 match l,h with
 | [p],h=>simp at h;exact⟨p,rfl,h⟩
theorem sJ {c:Call}{b:Builtin}(ho:o.op = .call c)(hc:c.callee = .builtin b):(execOp a.eval o).run P w=(builtin b c.argTypes o.type (c.args.map fun | .const _=>true|_=>false) (c.args.map a.eval)).run P w:=by
 simp only[execOp,ho,resolve,hc,Sem.run_bind,Sem.run_pure,Result.andThen_ok,invoke];rfl
theorem Dc {x:V}{X:Value}{n:Nat}(hx:Rv w im γ x X)(h:pJ x=some n):(∃ p c,X = .slice p n c∧x.isStr=false)∨(∃ s,X = .string ⟨⟨s⟩⟩∧s.length=n∧x = .str s):=by
 cases x with
 | sl b i k=>
  simp[pJ]at h;subst h;rcases hx.sl_inv with ⟨p,cap,_,_,_,e⟩|⟨h0,A,e,_⟩
  ·exact .inl ⟨_,_,e,rfl⟩
  ·subst h0;exact .inl ⟨_,_,e,rfl⟩
 | imm es=>
  simp[pJ]at h;subst h;rcases hx.imm_inv.imm_inv with ⟨rfl,A,cap,_,e⟩|⟨s,B,O,cap,cs,_,_,_,_,_,_,_,e⟩
  ·exact .inl ⟨_,_,e,rfl⟩
  ·exact .inl ⟨_,_,e,rfl⟩
 | nils=>simp[pJ]at h;subst h;exact .inl ⟨_,_,hx.nils_inv,rfl⟩
 | str s=>simp[pJ]at h;subst h;exact .inr ⟨s,hx.str_inv,rfl,rfl⟩
 | _=>simp[pJ]at h
theorem sU {f:Int→Int→Int}{l:List V}(h:kF f l=some v):∃ k x y,l=[.int k x,.int k y]∧v = .int k (f x y):=by
 unfold kF at h;split at h
 ·split at h
  ·rename_i hk;subst hk;cases h;exact⟨_,_,_,rfl,rfl⟩
  ·cases h
 ·cases h
theorem Zs (ts:Array TypeId)(t:TypeId)(k:FloatKind)(a b:Nat):Builtin.real_ ts t #[.complex k a b]=pure (.float k a):=rfl
theorem Ou (ts:Array TypeId)(t:TypeId)(k:FloatKind)(a b:Nat):Builtin.imag_ ts t #[.complex k a b]=pure (.float k b):=rfl
theorem Mf (ts:Array TypeId)(t:TypeId)(k:FloatKind)(a b:Nat):Builtin.complex_ ts t #[.float k a,.float k b]=pure (.complex k a b):=by
 show(if k=k then pure (.complex k a b)else stuck _:Sem Value)=_;rw[if_pos rfl]
theorem Kh {c:Call}{b:Builtin}(hR:RelH w im γ B0 H)(ht:TabOk P tab)(hT:RvL w im γ T a.tmps.toList)(ho:o.op = .call c)(hc:c.callee = .builtin b)(h:dB tab H (ev T) c = .val v H'):aY P o a w im γ B0 v H':=by
 have hrb:=sJ (a:=a) (P:=P) (w:=w) ho hc;unfold dB at h;rw[hc]at h;simp only at h;split at h
 ·
  rename_i s x t u hargs hts;obtain⟨p,q,e1,e2,e3⟩:=Xt hargs;have ha:=uZ e1;have ht2:=uZ hts;subst e2 e3;obtain⟨y,w',γ',k1,k2,k3,k4,k5⟩:=Mi (ty:=o.type) hR ht (aP hT p) (aP hT q) h;refine⟨y,w',γ',jF ?_,k2,k3,k4,k5⟩;rw[hrb,ha,ht2];simp only[builtin,Sem.run_bind];have:(#[p,q]:Array Operand).map a.eval = #[a.eval p,a.eval q]:=by simp
  rw[this,k1];rfl
 ·rename_i d x t u hargs hts;obtain⟨p,q,e1,e2,e3⟩:=Xt hargs;have ha:=uZ e1;have ht2:=uZ hts;subst e2 e3;obtain⟨y,w',k1,k2,k3,k4,k5⟩:=Iw (u:=u) (ty:=o.type) hR ht (aP hT p) (aP hT q) h;refine⟨y,w',γ,jF ?_,k2,k3,k4,k5⟩;rw[hrb,ha,ht2];simp only[builtin,Sem.run_bind];have:(#[p,q]:Array Operand).map a.eval = #[a.eval p,a.eval q]:=by simp
  rw[this,k1];rfl
 ·rename_i x t hargs hts;obtain⟨p,e1,e2⟩:=Yt hargs;have ha:=vA e1;have ht2:=vA hts;subst e2;obtain⟨h1,rfl⟩:=FO.of_val h;have hX:=aP hT p;have fin:∀ n:Nat,v = .int .i64 n→(Builtin.len_ #[t] o.type #[a.eval p]).run P w = .ok (goInt n) w→aY P o a w im γ B0 v H':=by
   intro n hv hrun;subst hv;refine aY.pure (x:=goInt n) hR ?_ (.tree _ _ (.int _ _));rw[hrb,ha,ht2];simp only[builtin,Sem.run_bind];have:(#[p]:Array Operand).map a.eval = #[a.eval p]:=by simp
   rw[this,hrun];rfl
  unfold Gz at h1;split at h1
  ·rename_i e hd;obtain⟨d,k2,k3⟩:=dE ht hd (by simp);cases d<;>simp[dA]at k3;cases hv:pJ (ev T p)with
   | none=>rw[hv]at h1;cases h1
   | some n=>
    simp only[hv]at h1;split at h1
    ·cases h1
    ·rename_i hns;cases h1;rcases Dc hX hv with ⟨A,cp,e,_⟩|⟨s,e,hl,hs⟩
     ·exact fin n rfl (by rw[e];simp[Builtin.len_,run_underlying k2])
     ·rw[hs]at hns;simp[V.isStr]at hns
  ·rename_i hd;obtain⟨d,k2,k3⟩:=dE ht hd (by simp);cases d<;>simp[dA]at k3;cases hv:pJ (ev T p)with
   | none=>rw[hv]at h1;cases h1
   | some n=>
    simp only[hv]at h1;split at h1
    ·rename_i hs;cases h1;rcases Dc hX hv with ⟨A,cp,e,hn⟩|⟨s,e,hl,_⟩
     ·rw[hn]at hs;cases hs
     ·refine fin n rfl (by
       rw[e];have:(⟨⟨s⟩⟩:ByteArray).size=n:=hl;simp[Builtin.len_,run_underlying k2,this])
    ·cases h1
  ·rename_i n e hd;obtain⟨d,k2,k3⟩:=dE ht hd (by simp);cases d<;>simp[dA]at k3;cases h1;obtain⟨rfl,_⟩:=k3;exact fin _ rfl (by simp[Builtin.len_,run_underlying k2])
  ·cases h1
 ·obtain⟨h1,rfl⟩:=FO.of_val h;obtain⟨k,x,y,hl,rfl⟩:=sU h1;obtain⟨p,q,e1,e2,e3⟩:=Xt hl;have ha:=uZ e1;have e4:=(e2▸aP hT p).int_inv;have e5:=(e3▸aP hT q).int_inv;refine aY.pure (x:=.int k (if y > x then y else x)) hR ?_ (.tree _ _ (.int _ _));rw[hrb,ha];simp[builtin,Builtin.max_,Builtin.max2,e4,e5]
 ·obtain⟨h1,rfl⟩:=FO.of_val h;obtain⟨k,x,y,hl,rfl⟩:=sU h1;obtain⟨p,q,e1,e2,e3⟩:=Xt hl;have ha:=uZ e1;have e4:=(e2▸aP hT p).int_inv;have e5:=(e3▸aP hT q).int_inv;refine aY.pure (x:=.int k (if y < x then y else x)) hR ?_ (.tree _ _ (.int _ _));rw[hrb,ha];simp[builtin,Builtin.min_,Builtin.min2,e4,e5]
 ·rename_i c d hl;cases h;obtain⟨p,e1,e2⟩:=Yt hl;have ha:=vA e1;have e4:=(e2▸aP hT p).cpx_inv;refine aY.pure (x:=.float .f64 c) hR ?_ (.tree _ _ (.flt _));rw[hrb,ha];simp[builtin,Zs,e4]
 ·rename_i c d hl;cases h;obtain⟨p,e1,e2⟩:=Yt hl;have ha:=vA e1;have e4:=(e2▸aP hT p).cpx_inv;refine aY.pure (x:=.float .f64 d) hR ?_ (.tree _ _ (.flt _));rw[hrb,ha];simp[builtin,Ou,e4]
 ·rename_i c d hl;cases h;obtain⟨p,q,e1,e2,e3⟩:=Xt hl;have ha:=uZ e1;have e4:=(e2▸aP hT p).flt_inv;have e5:=(e3▸aP hT q).flt_inv;refine aY.pure (x:=.complex .f64 c d) hR ?_ (.tree _ _ (.cpx _ _));rw[hrb,ha];simp[builtin,Mf,e4,e5]
 ·cases h
 ·rename_i x t hargs hts;obtain⟨p,e1,e2⟩:=Yt hargs;have ha:=vA e1;have ht1:=vA hts;subst e2;obtain⟨h1,rfl⟩:=FO.of_val h;unfold aQp at h1;split at h1
  ·rename_i e hd hx;cases h1;have hn:=(hx▸aP hT p).nils_inv;obtain⟨i,d,k1,k2,k3,_⟩:=ht.ok t (cU (by rw[hd];simp));rw[hd]at k3;have hu:∃ e',P.underlying t=some (.slice e'):=by cases d<;>simp[dA]at k3;exact⟨_,k2⟩
   obtain⟨e',hu⟩:=hu;refine aY.pure (x:=.int .i64 0) hR ?_ (.tree _ _ (.int _ _));rw[hrb,ha,ht1];simp[builtin,Builtin.cap_,run_underlying hu,hn,goInt]
  ·cases h1
 ·cases h
theorem Zz (hR:RelH w im γ B0 H)(ht:TabOk P tab)(hT:RvL w im γ T a.tmps.toList)(h:bQ tab T H o.op = .val v H'):aY P o a w im γ B0 v H':=by
 generalize ho:o.op=op at h;cases op with
 | move x=>cases h;exact Pj hR hT (.inl ho)
 | assign x=>cases h;exact Pj hR hT (.inr ho)
 | pick c x y=>
  simp only[bQ]at h;split at h
  ·rename_i t hc;cases h;exact Sy hR hT ho hc
  ·cases h
 | alloc t=>
  simp only[bQ]at h;split at h
  ·rename_i hb;split at h
   ·rename_i hz;split at h
    ·rename_i hk;cases h;exact Lm hR ht ho hk hz hb
    ·cases h
   ·cases h
  ·split at h
   ·rename_i hk;cases h;exact Qt hR ht ho hk (ht.zer t hk).1
   ·cases h
 | box t x=>
  simp only[bQ]at h;split at h
  ·rename_i hf;cases h;exact aFn hR hT ho hf
  ·cases h
 | build t ps=>
  simp only[bQ]at h;split at h
  ·rename_i fs hd;obtain⟨h1,rfl⟩:=FO.of_val h;obtain⟨cs,hc,rfl⟩:=Option.map_eq_some_iff.1 h1;exact Cd hR ht hT ho (ht.zer t (cU (by rw[hd];simp))).1 (.inl ⟨fs,hd,ht.fld t fs hd,hc⟩)
  ·rename_i n e hd;split at h
   ·cases h
   ·rename_i hk;obtain⟨h1,rfl⟩:=FO.of_val h;obtain⟨cs,hc,rfl⟩:=Option.map_eq_some_iff.1 h1;exact Cd hR ht hT ho (ht.zer t (cU (by rw[hd];simp))).1 (.inr ⟨n,e,hd,by simpa using hk,hc⟩)
  ·cases h
 | buildSlice t n ps=>
  simp only[bQ]at h;split at h
  ·rename_i e hd;split at h
   ·rename_i hc;split at h
    ·rename_i es he;cases h;exact xI hR ht hT ho hd hc.1 (ht.zer e hc.1).1 (ht.zer e hc.1).2 hc.2 he
    ·cases h
   ·cases h
  ·cases h
 | load t p=>obtain⟨h1,rfl⟩:=FO.of_val h;exact Ty hR ht hT ho h1
 | store t p x=>
  simp only[bQ]at h;split at h
  ·rename_i hf;unfold FO.unit at h;split at h
   ·rename_i H2 hs;cases h;exact Nt hR ht hT ho hf hs
   ·cases h
  ·cases h
 | nilCheck x=>
  simp only[bQ]at h;split at h
  ·rename_i b i j hx;cases h;rw[←hx];exact sP hR hT ho ⟨b,i,j,.nils,.inl hx⟩
  ·rename_i e j hx;cases h;rw[←hx];exact sP hR hT ho ⟨0,0,j,e,.inr hx⟩
  ·cases h
 | binOp op t x y u=>obtain⟨h1,rfl⟩:=FO.of_val h;exact Pt hR ht hT ho h1
 | unOp op t x=>obtain⟨h1,rfl⟩:=FO.of_val h;exact Ry hR hT ho h1
 | convert s d x=>exact Jh hR ht hT ho h
 | makeInterface t x=>
  simp only[bQ]at h;split at h
  ·cases h
  ·cases h
  ·rename_i h1 h2;cases h;exact rE hR ht hT ho (cU h2) h1
 | makeFunc f p c=>
  cases f<;>simp only[bQ]at h<;>first|cases h;done|skip
  cases h;exact Bd hR hT ho
 | makeSlice t x y=>
  simp only[bQ]at h;split at h
  ·rename_i e n m hd hx hy;split at h
   ·rename_i hc;obtain⟨hk,rfl,h0,h1,hb⟩:=hc;cases h;exact La hR ht hT ho hd hk hx hy h0 h1 hb (ht.zer e hk).1 (ht.zer e hk).2
   ·cases h
  ·cases h
 | slice t x lo hi mx=>
  simp only[bQ]at h;split at h
  ·rename_i l h2 hb;split at h
   ·rename_i s hd hx;cases h;rw[hx]at hb;exact Ia hR ht hT ho hd hx hb
   ·rename_i e b i n hd hx;split at h
    ·rename_i hc;cases h;rw[hx]at hb;exact Ad hR ht hT ho hd hc.1 hx hb (uI hR hc.2)
    ·cases h
   ·rename_i e es hd hx;split at h
    ·rename_i hc;cases h;rw[hx]at hb;exact Ja hR ht hT ho hd hc.1 hx hb (fV.1 hc.2)
    ·cases h
   ·rename_i e hd hx;split at h
    ·rename_i hc;cases h;rw[hx]at hb;exact xH hR ht hT ho hd hc hx hb
    ·cases h
   ·rename_i n e b hd hx;split at h
    ·cases h
    ·rename_i hlh;unfold Pb at h;split at h
     ·rename_i s el hb2;split at h
      ·rename_i hc;cases h;cases lo with
       | some _=>simp at hlh
       | none=>
        cases hi with
        | some _=>simp at hlh
        | none=>exact Jm hR ht hT ho hd hx hb2 hc
      ·cases h
     ·cases h
   ·cases h
  ·cases h
 | fieldAddr t x f=>
  simp only[bQ]at h;split at h
  ·rename_i fs b i j hd hx;split at h
   ·rename_i off ft hf;split at h
    ·cases h
    ·rename_i hs;cases h;exact(pT hR ht hT ho hd hf (vD ht hs) hs).1 _ _ _ hx
   ·cases h
  ·rename_i fs e j hd hx;split at h
   ·rename_i off ft hf;split at h
    ·cases h
    ·rename_i hs;cases h;exact(pT hR ht hT ho hd hf (vD ht hs) hs).2 _ _ hx
   ·cases h
  ·cases h
 | field t x f=>
  simp only[bQ]at h;split at h
  ·rename_i fs cs hd hx;split at h
   ·rename_i off ft hf;obtain⟨h1,rfl⟩:=FO.of_val h;exact Ot hR ht hT ho hd hf hx h1
   ·cases h
  ·cases h
 | indexAddr t x ix=>
  simp only[bQ]at h;split at h
  ·rename_i e b i n k c hd hx hi;split at h
   ·rename_i hc;cases h;exact tD hR ht hT ho hd hc.2.2.1 hx hi hc.1 hc.2.1 (uI hR hc.2.2.2)
   ·cases h
  ·rename_i e es k c hd hx hi;split at h
   ·rename_i h0;split at h
    ·rename_i u hu;split at h
     ·rename_i hc;cases h;exact rF hR ht hT ho hd hc.1 hx hi h0 hu hc.2
     ·cases h
    ·cases h
   ·cases h
  ·rename_i n e b i j k c hd hx hi;split at h
   ·rename_i hc;cases h;exact rG hR ht hT ho hd hc.2.2 hx hi hc.1 hc.2.1
   ·cases h
  ·cases h
 | index t x ix=>
  simp only[bQ]at h;split at h
  ·rename_i s k c hd hx hi;split at h
   ·rename_i h0;split at h
    ·rename_i u hu;cases h;exact Ma hR ht hT ho hd hx hi h0 hu
    ·cases h
   ·cases h
  ·rename_i n e cs k c hd hx hi;split at h
   ·rename_i hc;obtain⟨h1,rfl⟩:=FO.of_val h;exact Na hR ht hT ho hd hx hi hc.1 hc.2 h1
   ·cases h
  ·cases h
 | typeAssert x tt t ok=>
  simp only[bQ]at h;split at h
  ·cases h
  ·cases h
  ·rename_i u y hx hd1 hd2;split at h
   ·rename_i hu;cases h;exact(oF hR ht hT ho (cU (by assumption)) (by assumption) hx).1 hu
   ·rename_i hu;split at h
    ·rename_i hok;cases h;exact(oF hR ht hT ho (cU (by assumption)) (by assumption) hx).2 hu hok
    ·cases h
  ·cases h
 | extract x ix=>
  simp only[bQ]at h;split at h
  ·rename_i vs hx;obtain⟨h1,rfl⟩:=FO.of_val h;exact Ih hR hT ho hx h1
  ·cases h
 | call c=>
  simp only[bQ]at h;cases hc:c.callee with
  | value g=>
   unfold dB at h;rw[hc]at h;simp only at h;split at h<;>cases h
  | invoke r m=>
   unfold dB at h;rw[hc]at h;cases h
  | builtin b=>exact Kh hR ht hT ho hc h
 | panic x=>
  simp only[bQ]at h;split at h<;>cases h
 | makeMap t r=>
  cases r with
  | none=>
   simp only[bQ]at h;split at h
   ·rename_i hm;cases h;exact Hh hR ht ho hm
   ·cases h
  | some r=>simp only[bQ]at h;cases h
 | mapUpdate t m k x=>
  simp only[bQ]at h;split at h
  ·rename_i hm e1 e2;split at h
   ·rename_i hf;split at h
    ·rename_i hb;cases h;exact Ka hR ht hT ho hm e1 e2 hf hb
    ·cases h
   ·cases h
  ·cases h
 | lookup t m k ok=>
  cases ok with
  | false=>simp only[bQ]at h;cases h
  | true=>
   simp only[bQ]at h;split at h
   ·rename_i hm e1 e2;split at h
    ·rename_i hb;have:=Km hR ht hT ho hm e1 e2 hb;split at h
     ·rename_i hv;rw[hv]at this;cases h;exact this
     ·rename_i hv;rw[hv]at this;cases h;exact this
    ·cases h
   ·cases h
 | _=>simp only[bQ]at h;cases h
theorem Fv {f:FuncId}{args:List V}(hT:RvL w im γ T a.tmps.toList)(h:bQ tab T H o.op = .call f args):∃ xs:List Value,RvL w im γ args xs∧(execOp a.eval o).run P w=(callFunc f ⟨xs⟩).run P w:=by
 generalize ho:o.op=op at h;have of_ne:∀(x:Option V)(H:aA),FO.of x H ≠ .call f args:=fun x H e=>by cases x<;>cases e
 have unit_ne:∀(x:Option aA),FO.unit x ≠ .call f args:=fun x e=>by cases x<;>cases e
 have app_ne:∀ t u s x,hC tab H t u s x ≠ .call f args:=fun t u s x e=>by
  unfold hC at e;repeat (first|(split at e)|cases e)
 have copy_ne:∀ t s x,mX tab H t s x ≠ .call f args:=fun t s x e=>by
  unfold mX at e;repeat (first|(split at e)|cases e)
 have conv_ne:∀ t s x,mY tab H t s x ≠ .call f args:=fun t s x e=>by
  unfold mY at e;repeat (first|(split at e)|cases e|exact absurd e (of_ne _ _))
 have re_ne:∀ n e b,Pb tab H n e b ≠ .call f args:=fun n e b h=>by
  unfold Pb at h;repeat (first|(split at h)|cases h)
 cases op with
 | call c=>
  simp only[bQ]at h;unfold dB at h;split at h
  ·rename_i g hc;split at h
   ·rename_i f' first cap hg
    simp only[FO.call.injEq]at h;obtain⟨rfl,rfl⟩:=h;have hG:=aP hT g;rw[hg]at hG;obtain⟨ps,cs,e,h1,h2⟩:=hG.fn_inv;refine⟨ps++c.args.toList.map a.eval++cs,(h1.append (tP hT _)).append h2,?_⟩;simp only[execOp,ho,resolve,hc,e,Deferred.ofValue,Sem.run_bind,Sem.run_pure,Result.andThen_ok,invoke];congr 2;apply Array.ext';simp
   ·cases h
  ·cases h
  ·rename_i b hc;split at h
   ·exact absurd h (app_ne _ _ _ _)
   ·exact absurd h (copy_ne _ _ _)
   ·exact absurd h (of_ne _ _)
   ·exact absurd h (of_ne _ _)
   ·exact absurd h (of_ne _ _)
   all_goals first|cases h|exact absurd h (of_ne _ _)
 | convert s d x=>exact absurd h (conv_ne _ _ _)
 | makeFunc f p c=>cases f<;>simp only[bQ]at h<;>cases h
 | makeMap t r=>cases r<;>simp only[bQ]at h<;>repeat (first|(split at h)|cases h)
 | lookup t m k ok=>cases ok<;>simp only[bQ]at h<;>repeat (first|(split at h)|cases h)
 | _=>
  simp only[bQ]at h;repeat (first|(exact absurd h (of_ne _ _))|(exact absurd h (unit_ne _))|(exact absurd h (re_ne _ _ _))|(split at h)|cases h)
theorem On {v:V}(hT:RvL w im γ T a.tmps.toList)(h:bQ tab T H o.op = .panic v):∃ x,Rv w im γ v x∧(execOp a.eval o).run P w = .halt (.panic x) w:=by
 generalize ho:o.op=op at h;have of_ne:∀(x:Option V)(H:aA),FO.of x H ≠ .panic v:=fun x H e=>by cases x<;>cases e
 have unit_ne:∀(x:Option aA),FO.unit x ≠ .panic v:=fun x e=>by cases x<;>cases e
 have app_ne:∀ t u s x,hC tab H t u s x ≠ .panic v:=fun t u s x e=>by
  unfold hC at e;repeat (first|(split at e)|cases e)
 have copy_ne:∀ t s x,mX tab H t s x ≠ .panic v:=fun t s x e=>by
  unfold mX at e;repeat (first|(split at e)|cases e)
 have conv_ne:∀ t s x,mY tab H t s x ≠ .panic v:=fun t s x e=>by
  unfold mY at e;repeat (first|(split at e)|cases e|exact absurd e (of_ne _ _))
 have re_ne:∀ n e b,Pb tab H n e b ≠ .panic v:=fun n e b h=>by
  unfold Pb at h;repeat (first|(split at h)|cases h)
 cases op with
 | call c=>
  simp only[bQ]at h;unfold dB at h;split at h
  ·rename_i g hc;split at h<;>cases h
  ·cases h
  ·rename_i b hc;split at h
   ·exact absurd h (app_ne _ _ _ _)
   ·exact absurd h (copy_ne _ _ _)
   ·exact absurd h (of_ne _ _)
   ·exact absurd h (of_ne _ _)
   ·exact absurd h (of_ne _ _)
   ·cases h
   ·cases h
   ·cases h
   ·rename_i t y hargs;cases h;obtain⟨p,e1,e2⟩:=Yt hargs;have ha:=vA e1;have hX:=aP hT p;rw[e2]at hX;refine⟨a.eval p,hX,?_⟩;obtain⟨z,e,_⟩:=hX.iface_inv;rw[sJ ho hc,ha];simp[builtin,Instr.panic,e]
   ·exact absurd h (of_ne _ _)
   ·cases h
 | convert s d x=>exact absurd h (conv_ne _ _ _)
 | makeFunc f p c=>cases f<;>simp only[bQ]at h<;>cases h
 | panic x=>
  simp only[bQ]at h;split at h
  ·rename_i t y hx;cases h;have hX:=aP hT x;rw[hx]at hX;refine⟨a.eval x,hX,?_⟩;obtain⟨z,e,_⟩:=hX.iface_inv;simp[execOp,ho,Instr.panic,e]
  ·cases h
 | makeMap t r=>cases r<;>simp only[bQ]at h<;>repeat (first|(split at h)|cases h)
 | lookup t m k ok=>cases ok<;>simp only[bQ]at h<;>repeat (first|(split at h)|cases h)
 | _=>
  simp only[bQ]at h;repeat (first|(exact absurd h (of_ne _ _))|(exact absurd h (unit_ne _))|(exact absurd h (re_ne _ _ _))|(split at h)|cases h)
end
section
open Go Go.RowKit
structure Gl where
 N:Nat
 G:World→Prop
 st:∀ w w',Below N w w'→G w→G w'
 le:∀ w,G w→N≤w.heap.size
structure Env where
 P:Program
 tab:cR
 g:Gl
 pcm:FuncId→Bool
 cln:FuncId→Option Nat
 sp:FuncId→Bool
 spc:FuncId→List V→aA→Option V
inductive Res where
 | ret (v:V)
 | pan (v:V)
def newIm (w w':World)(im:Nat→Prop):Nat→Prop:=fun B=>im B∨(w.heap.size≤B∧B < w'.heap.size)
def ResR (w':World)(im:Nat→Prop):Res→Ending→Prop
 | .ret v,e=>∃ y,e = .returned y∧Tv w' im v y
 | .pan v,e=>∃ y,e = .panicked [{v:=y,recovered:=false}]∧Tv w' im v y
def PC (P:Program)(g:Gl)(f:FuncId)(args:List V)(r:Res):Prop:=
 ∀(w:World)(im:Nat→Prop)(xs:List Value),g.G w→(∀ B,im B→B < w.heap.size)→TvL w im args xs→
  Calls P f ⟨xs⟩ w fun e w'=>ResR w' (newIm w w' im) r e∧Below w.heap.size w w'
def fz (H:aA):Nat→V→Option V
 | 0,_=>none
 | n+1,v=>match v with
  | .sl b i k=>match H[b]? with
   | some (.row s es _)=>if i+k≤es.length then(match((es.drop i).take k).mapM (fz H n)with|some l=>if aQ s l then some (.imm l)else none|none=>none)else none
   | _=>none
  | .agg cs=>match cs.mapM (fz H n)with|some l=>some (.agg l)|none=>none
  | .tup cs=>match cs.mapM (fz H n)with|some l=>some (.tup l)|none=>none
  | .iface t v=>match fz H n v with|some v=>some (.iface t v)|none=>none
  | .fn f [] []=>some (.fn f [] [])
  | .fn .. | .ptr .. | .ip .. | .mp _ | .glob _=>none
  | v=>some v
def aU (H:aA):Nat→V→List Nat
 | 0,_=>[]
 | n+1,v=>match v with
  | .sl b i k=>match H[b]? with
   | some (.row _ es _)=>b::((es.drop i).take k).flatMap (aU H n)
   | _=>[]
  | .agg cs=>cs.flatMap (aU H n)
  | .tup cs=>cs.flatMap (aU H n)
  | .iface _ v=>aU H n v
  | _=>[]
def seal1 (H:aA)(b:Nat):aA:=match H[b]? with|some (.row s es _)=>H.set b (.row s es true)|_=>H
def bH (H:aA)(l:List Nat):aA:=l.foldl seal1 H
def eA (v:V)(H:aA)(l:List Nat):aA:=if flat v then H else bH H l
inductive Ex where
 | normal
 | exit (id:Nat)
 | goto (l:Nat)
 | ret
 | panic (v:V)
def bK (ops:Array Oper)(T:List V)(o:Oper):Option Bool:=
 match o.guard with
 | none=>some true
 | some (j,want)=>match(ops[j]?).bind (·.dst)with
  | some d=>match T.getD d undef with
   | .bool b=>some (b == want)
   | .tup _=>some false
   | _=>none
  | none=>some false
def iJ (tab:cR)(T:List V)(H:aA):ResultVar→Option V
 | .tmp t=>some (T.getD t undef)
 | .cell a t=>rJ tab H t (T.getD a undef)
def jW (tab:cR)(rs:List ResultVar)(T:List V)(H:aA):Option V:=
 match rs.mapM (iJ tab T H)with
 | some [v]=>some v
 | some l=>some (.tup l)
 | none=>none
abbrev mC:=Code→(Ex→List V→aA→Prop)→List V→aA→Prop
def iW (tab:cR)(rs:List ResultVar)(T0:List V)(dst:Option Tmp)(K:List V→aA→Prop)(Q:Ex→List V→aA→Prop):Ex→List V→aA→Prop
 | .normal,T,H=>match jW tab rs T H with|some v=>K (put T0 dst v) H|none=>False
 | .ret,T,H=>match jW tab rs T H with|some v=>K (put T0 dst v) H|none=>False
 | .panic v,T,H=>Q (.panic v) T0 H
 | _,_,_=>False
def qH (E:Env)(f:FuncId)(args:List V)(dst:Option Tmp)(T:List V)(H:aA)(K:List V→aA→Prop)(Q:Ex→List V→aA→Prop):Prop:=
 match args.mapM (fz H 8)with
 | some l=>∃ r,PC E.P E.g f l r∧(match r with
  | .ret v=>K (put T dst v) (eA v H (args.flatMap (aU H 8)))
  | .pan v=>Q (.panic v) T (eA v H (args.flatMap (aU H 8))))
 | none=>False
def Ci (s:Nat)(args:List V)(dst:Option Tmp)(T:List V)(H:aA)(K:List V→aA→Prop):Prop:=
 match args with
 | [v]=>match bS H v with
  | some es=>if aQ s es=true∧v.isStr=false∧es.length≤1073741824 then K (put T dst (.sl H.length 0 es.length)) (H++[.row s es false])else False
  | none=>False
 | _=>False
def MC (P:Program)(g:Gl)(f:FuncId)(args:List V)(H:aA)(v:V)(H':aA):Prop:=
 ∀(w:World)(im:Nat→Prop)(γ:fK)(B0:Nat)(xs:List Value),g.G w→g.N≤B0→RelH w im γ B0 H→RvL w im γ args xs→
  Calls P f ⟨xs⟩ w fun e w'=>∃ y im' γ',e = .returned y∧Rv w' im' γ' v y∧RelH w' im' γ' B0 H'∧Keep w im γ w' im' γ'∧Below B0 w w'∧∀ B,im' B→im B∨B0≤B
def aZ (E:Env)(rec:mC)(f:FuncId)(args:List V)(dst:Option Tmp)(T:List V)(H:aA)(K:List V→aA→Prop)(Q:Ex→List V→aA→Prop):Prop:=
 match E.P.funcs[f]? with
 | some fn=>match fn.body with
  | some c=>if E.sp f then(match E.spc f args H with|some v=>K (put T dst v) H|none=>False)else match E.cln f with
   | some s=>Ci s args dst T H K
   | none=>if E.pcm f then qH E f args dst T H K Q
   else rec c (iW E.tab fn.results.toList T dst K Q) (args++List.replicate (fn.ntmps - args.length) undef) H∨∃ v H',MC E.P E.g f args H v H'∧K (put T dst v) H'
  | none=>False
 | none=>False
def iZ (E:Env)(rec:mC)(o:Oper)(T:List V)(H:aA)(K:List V→aA→Prop)(Q:Ex→List V→aA→Prop):Prop:=
 match bQ E.tab T H o.op with
 | .val v H'=>K (put T o.dst v) H'
 | .call f args=>aZ E rec f args o.dst T H K Q
 | .panic v=>Q (.panic v) T H
 | .stuck=>False
def lI (E:Env)(rec:mC)(ops:Array Oper)(Q:Ex→List V→aA→Prop):List Oper→List V→aA→Prop
 | [],T,H=>Q .normal T H
 | o::rest,T,H=>match bK ops T o with
  | some true=>iZ E rec o T H (lI E rec ops Q rest) Q
  | some false=>lI E rec ops Q rest (put T o.dst undef) H
  | none=>False
def eL (E:Env)(rec:mC)(ops:Array Oper)(Q:Ex→List V→aA→Prop)(i:Nat)(K:List V→aA→Prop)(T:List V)(H:aA):Prop:=
 match ops[i]? with
 | none=>K T H
 | some o=>match bK ops T o with
  | some true=>iZ E rec o T H K Q
  | some false=>K (put T o.dst undef) H
  | none=>False
def xN (E:Env)(rec:mC)(ops:Array Oper)(Q:Ex→List V→aA→Prop):Nat→Array Bool→List V→aA→Prop
 | 0,listed,T,H=>Region.ready .any ops listed=[]∧Q .normal T H
 | n+1,listed,T,H=>(Region.ready .any ops listed=[]→Q .normal T H)∧∀ i∈Region.ready .any ops listed,eL E rec ops Q i (xN E rec ops Q n (listed.setIfInBounds i true)) T H
def fM (K:List V→aA→Prop)(Q:Ex→List V→aA→Prop):Ex→List V→aA→Prop
 | .normal,T,H=>K T H
 | e,T,H=>Q e T H
def nB (id:Nat)(Q:Ex→List V→aA→Prop):Ex→List V→aA→Prop
 | .exit id',T,H=>if id'=id then Q .normal T H else Q (.exit id') T H
 | e,T,H=>Q e T H
def aDr (c:Code)(R:Code→List V→aA→Prop)(Q:Ex→List V→aA→Prop):Ex→List V→aA→Prop
 | .goto l,T,H=>match findLabel c l with|some rest=>R rest T H|none=>Q (.goto l) T H
 | e,T,H=>Q e T H
end
section
open Go Go.RowKit
variable {w w':World}{im im':Nat→Prop}{γ γ':fK}{B0:Nat}{H H':aA}
def jV (H:aA)(γ:fK)(im':Nat→Prop)(ids:List Nat):Prop:=∀ b∈ids,∀ s es ro p,H[b]?=some (.row s es ro)→γ b=some p→im' p.B
theorem gU {f:V→Option V}{v:V}{l:List V}{r:List V}(h:(v::l).mapM f=some r):∃ v' l',f v=some v'∧l.mapM f=some l'∧r=v' :: l':=by
 simp only[List.mapM_cons,Option.bind_eq_bind,Option.pure_def]at h;cases hf:f v with
 | none=>rw[hf]at h;cases h
 | some v'=>
  cases hl:l.mapM f with
  | none=>rw[hf,hl]at h;cases h
  | some l'=>rw[hf,hl]at h;cases h;exact⟨v',l',rfl,rfl,rfl⟩
theorem qF {n:Nat}(ih:∀(v v':V)(x:Value),Rv w im γ v x→fz H n v=some v'→jV H γ im' (aU H n v)→Tv w im' v' x) :
 ∀{l r:List V}{xs:List Value},RvL w im γ l xs→l.mapM (fz H n)=some r→jV H γ im' (l.flatMap (aU H n))→TvL w im' r xs
 | [],r,xs,h,hm,_=>by cases h;simp at hm;subst hm;exact .nil
 | v::l,r,_,.cons _ x _ xs hx ht,hm,hc=>by
  obtain⟨v',l',h1,h2,rfl⟩:=gU hm;refine .cons _ _ _ _ (ih _ _ _ hx h1 (fun b hb=>hc b (by simp[hb]))) (qF ih ht h2 (fun b hb=>hc b ?_));rw[List.flatMap_cons];exact List.mem_append_right _ hb
theorem Ke {n:Nat}(ih:∀ m,m≤n→∀(v v':V)(x:Value),Rv w im γ v x→fz H m v=some v'→jV H γ im' (aU H m v)→Tv w im' v' x){u u':V}{cs:List Value}(h:RvL w im γ u.cells cs)(hf:fz H n u=some u')(hc:jV H γ im' (aU H n u)) :
 TvL w im' u'.cells cs:=by
 cases n with
 | zero=>simp[fz]at hf
 | succ n=>
  have one:(∀ l,u ≠ .agg l)→(∀ l,u' ≠ .agg l)→TvL w im' u'.cells cs:=by
   intro h1 h2;have e1:u.cells=[u]:=by cases u<;>first|rfl|exact absurd rfl (h1 _)
   have e2:u'.cells=[u']:=by cases u'<;>first|rfl|exact absurd rfl (h2 _)
   rw[e1]at h;rw[e2];cases h with
   | cons _ x _ m hx t=>
    cases t;exact .cons _ _ _ _ (ih _ (Nat.le_refl _) _ _ _ hx hf hc) .nil
  cases u with
  | agg l=>
   simp only[fz]at hf;split at hf
   ·rename_i r hr;cases hf;exact qF (ih n (by omega)) h hr hc
   ·cases hf
  | sl b i k=>
   refine one (by simp) ?_;simp only[fz]at hf;repeat' (split at hf)
   all_goals first|(cases hf;done)|(cases hf;simp)
  | tup l=>
   refine one (by simp) ?_;simp only[fz]at hf;repeat' (split at hf)
   all_goals first|(cases hf;done)|(cases hf;simp)
  | iface t v=>
   refine one (by simp) ?_;simp only[fz]at hf;repeat' (split at hf)
   all_goals first|(cases hf;done)|(cases hf;simp)
  | fn f p c=>
   refine one (by simp) ?_;cases p<;>cases c<;>simp only[fz]at hf<;>cases hf<;>simp
  | _=>simp only[fz]at hf;cases hf<;>exact one (by simp) (by simp)
theorem rM (hR:RelH w im γ B0 H)(hi:∀ B,im B→im' B):∀(n:Nat)(v v':V)(x:Value),Rv w im γ v x→fz H n v=some v'→jV H γ im' (aU H n v)→Tv w im' v' x:=by
 have hk:dQ w im w im':=fun B hB=>⟨hi B hB,rfl⟩;intro n;induction n using Nat.strongRecOn with
 | _ n ih=>
  intro v v' x hx hf hc;cases n with
  | zero=>simp[fz]at hf
  | succ n=>
   cases v with
   | agg l=>
    simp only[fz]at hf;split at hf
    ·rename_i r hr;cases hf;obtain⟨xs,rfl,h1,h2⟩:=hx.agg_inv;exact .agg _ _ h1 (qF (ih n (by omega)) h2 hr (by simpa[aU]using hc))
    ·cases hf
   | tup l=>
    simp only[fz]at hf;split at hf
    ·rename_i r hr;cases hf;obtain⟨xs,rfl,h2⟩:=hx.tup_inv;exact .tup _ _ (qF (ih n (by omega)) h2 hr (by simpa[aU]using hc))
    ·cases hf
   | iface t u=>
    simp only[fz]at hf;split at hf
    ·rename_i r hr;cases hf;obtain⟨y,rfl,h2⟩:=hx.iface_inv;exact .iface _ _ _ (ih n (by omega) _ _ _ h2 hr (by simpa[aU]using hc))
    ·cases hf
   | fn f p c=>
    cases p<;>cases c<;>simp only[fz]at hf<;>cases hf;obtain⟨ps,cs,rfl,h1,h2⟩:=hx.fn_inv;cases h1;cases h2;exact .fn f
   | sl b i k=>
    simp only[fz]at hf;split at hf
    ·rename_i s es ro hH;split at hf
     ·rename_i hle;split at hf
      ·rename_i l hl;split at hf
       ·rename_i hall;cases hf;rw[fV]at hall;rcases hR.row _ _ _ _ hH with ⟨p,hp,hr⟩|⟨he,hγ⟩
        case inr=>
         subst he;simp only[List.length_nil,Nat.le_zero,Nat.add_eq_zero_iff]at hle;obtain⟨hi0,hk0⟩:=hle;subst hk0;simp at hl;subst hl;rcases hx.sl_inv with ⟨q,cap,hq,_⟩|⟨_,A,e,hA⟩
         ·rw[hγ]at hq;cases hq
         ·subst e;exact .imm0 _ _ (fun _=>rfl) hA
        obtain⟨pre,vs,post,ty,fzz,g1,g2,g3,g4,g5,g6⟩:=hr.hm;have hps:p.s=s:=hr.hs;have hcov:im' p.B:=hc b (by simp[aU,hH]) _ _ _ _ hH hp;have hll:∀{l r:List V},l.mapM (fz H n)=some r→r.length=l.length:=by
         intro l;induction l with
         | nil=>intro r h;simp at h;subst h;rfl
         | cons a l ih=>
          intro r h;obtain⟨_,_,_,h2,rfl⟩:=gU h;simp[ih h2]
        have hlen:l.length=k:=by rw[hll hl];simp;omega
        have hvl:=g3.len;rw[cN hr.hl]at hvl;have hb1:(i+k)*s≤es.length*s:=Nat.mul_le_mul_right _ hle;rw[Nat.add_mul]at hb1;rcases hx.sl_inv with ⟨q,cap,hq,hcap,hN,e⟩|⟨hk0,A,e,hA⟩
        ·rw[hp]at hq;cases hq;subst e;by_cases hk0:k=0
         ·have:l=[]:=List.eq_nil_of_length_eq_zero (by omega);subst this hk0;exact .imm0 _ _ (by simp) (.some _ _)
         ·have hrange:w.rangeAt p.B (p.O+i*p.s) ((vs.drop (i*s)).take (k*s)):=by
           have:=lC (w:=w) (B:=p.B) (a:=pre++vs.take (i*s)) (m:=(vs.drop (i*s)).take (k*s)) (p:=(vs.drop (i*s)).drop (k*s)++post) (ty:=ty) (fz:=fzz) (by
            rw[g1];congr 3;rw[List.append_assoc,←List.append_assoc ((vs.drop (i*s)).take (k*s)),List.take_append_drop,←List.append_assoc (vs.take (i*s)),List.take_append_drop])
           rw[List.length_append,List.length_take,g2,Nat.min_eq_left (by omega),←hps]at this;rw[←hps];exact this
          have hsub:RvL w im γ (((es.drop i).take k).flatMap V.cells) ((vs.drop (i*s)).take (k*s)):=by
           rw[gM (s:=s) _ (fun e he=>hr.hl e (List.mem_of_mem_drop he)),iD (s:=s) _ hr.hl];exact(g3.drop _).take _
          have key:∀(m r:List V)(cs:List Value),RvL w im γ (m.flatMap V.cells) cs→m.mapM (fz H n)=some r→jV H γ im' (m.flatMap (aU H n))→TvL w im' (r.flatMap V.cells) cs:=by
           intro m;induction m with
           | nil=>intro r cs h1 h2 _;cases h1;simp at h2;subst h2;exact .nil
           | cons u m ihm=>
            intro r cs h1 h2 h3;obtain⟨u',r',k1,k2,rfl⟩:=gU h2;rw[List.flatMap_cons]at h1;obtain⟨A,B,e1,j1,j2⟩:=h1.split;subst e1;rw[List.flatMap_cons];refine TvL.append (Ke (fun m hm=>ih m (by omega)) j1 k1 (fun b hb=>h3 b (by simp[hb]))) (ihm _ _ j2 k2 (fun b hb=>h3 b ?_));rw[List.flatMap_cons];exact List.mem_append_right _ hb
          have hT:=key _ _ _ hsub hl (fun b' hb'=>hc b' (by
           simp only[aU,hH];exact List.mem_cons_of_mem _ hb'))
          have:=Tv.imm (w:=w) (im:=im') l s p.B (p.O+i*p.s) cap ((vs.drop (i*s)).take (k*s)) (by intro e;rw[e]at hlen;simp at hlen;omega) hcov (by omega) hall hrange (fun u hu=>g4 u (List.mem_of_mem_drop (List.mem_of_mem_take hu))) hT;rw[hlen]at this;exact this
        ·subst e hk0;have:l=[]:=List.eq_nil_of_length_eq_zero hlen;subst this;exact .imm0 _ _ (fun _=>rfl) hA
       ·cases hf
      ·cases hf
     ·cases hf
    ·cases hf
   | ptr b i j=>simp[fz]at hf
   | ip e j=>simp[fz]at hf
   | mp b=>simp[fz]at hf
   | glob g=>simp[fz]at hf
   | _=>
    simp only[fz]at hf;cases hf;cases hx with|tree _ _ h=>exact h.keep hk
theorem nG {b c s:Nat}{es:List V}{ro:Bool}(h:(seal1 H b)[c]?=some (.row s es ro)):∃ ro',H[c]?=some (.row s es ro')∧(c≠b→ro'=ro)∧(c=b→ro=true):=by
 unfold seal1 at h;split at h
 ·rename_i s' es' ro' hb;by_cases hc:b=c
  ·subst hc;rw[List.getElem?_set_self (List.getElem?_eq_some_iff.1 hb).1]at h;cases h;exact⟨_,hb,fun h=>absurd rfl h,fun _=>rfl⟩
  ·rw[List.getElem?_set_ne hc]at h;exact⟨_,h,fun _=>rfl,fun e=>absurd e.symm hc⟩
 ·rename_i hno;refine⟨_,h,fun _=>rfl,fun e=>?_⟩;subst e;exact absurd h (hno _ _ _)
theorem sG {b c s:Nat}{es:List V}{ro:Bool}(h:H[c]?=some (.row s es ro)):∃ ro',(seal1 H b)[c]?=some (.row s es ro'):=by
 unfold seal1;split
 ·rename_i s' es' ro' hb;by_cases hc:b=c
  ·subst hc;rw[hb]at h;cases h;exact⟨_,List.getElem?_set_self (List.getElem?_eq_some_iff.1 hb).1⟩
  ·exact⟨_,by rw[List.getElem?_set_ne hc];exact h⟩
 ·exact⟨_,h⟩
theorem rA {b:Nat}:(seal1 H b).length=H.length:=by
 unfold seal1;split<;>simp
theorem yF {b c:Nat}{o:Blk}(h:(seal1 H b)[c]?=some o):∃ o',H[c]?=some o'∧(iU o=true→o'=o)∧∀(W:World) p X,gI W p o X→gI W p o' X:=by
 unfold seal1 at h;split at h
 ·rename_i s es ro hb;by_cases hc:b=c
  ·subst hc;rw[List.getElem?_set_self (List.getElem?_eq_some_iff.1 hb).1]at h;cases h;exact⟨_,hb,fun h=>by(cases h),fun _ p X h=>h⟩
  ·rw[List.getElem?_set_ne hc]at h;exact⟨o,h,fun _=>rfl,fun _ _ _ h=>h⟩
 ·exact⟨o,h,fun _=>rfl,fun _ _ _ h=>h⟩
theorem Xl (hR:RelH w im γ B0 H)(b:Nat):∃ im',RelH w im' γ B0 (seal1 H b)∧(∀ B,im B→im' B)∧(∀ s es ro p,H[b]?=some (.row s es ro)→γ b=some p→im' p.B)∧(∀ B,im' B→im B∨B0≤B):=by
 refine⟨fun B=>im B∨∃ s es ro p,H[b]?=some (.row s es ro)∧γ b=some p∧p.B=B,⟨?_,?_,?_,?_,hR.size,?_⟩,fun B h => .inl h,fun s es ro p h hp => .inr ⟨s,es,ro,p,h,hp,rfl⟩,?_⟩
 ·intro c s es ro h;obtain⟨ro',h1,h2,h3⟩:=nG h;rcases hR.row _ _ _ _ h1 with ⟨p,hp,hr⟩|hn
  case inr=>exact .inr hn
  obtain⟨pre,vs,post,ty,fzz,g1,g2,g3,g4⟩:=hr.hm;have hk:Keep w im γ w (fun B=>im B∨∃ s es ro p,H[b]?=some (.row s es ro)∧γ b=some p∧p.B=B) γ:=⟨fun B hB=>⟨.inl hB,rfl⟩,fun _ _ h=>h⟩;refine .inl ⟨p,hp,hr.hs,hr.hB,fun hro=>?_,fun hro=>?_,hr.hl,pre,vs,post,ty,fzz,g1,g2,g3.keep hk,g4⟩
  ·by_cases hc:c=b
   ·subst hc;exact .inr ⟨_,_,_,p,h1,hp,rfl⟩
   ·exact .inl (hr.hi (by rw[h2 hc];exact hro))
  ·by_cases hc:c=b
   ·rw[h3 hc]at hro;cases hro
   ·rintro(h|⟨s',es',ro2,q,hb,hq,e⟩)
    ·exact hr.hw (by rw[h2 hc];exact hro) h
    ·exact hR.inj _ _ _ _ _ _ _ _ _ _ hc h1 hb hp hq e.symm
 ·intro c c' s1 es1 ro1 s2 es2 ro2 p1 p2 hne h h' hp hp';obtain⟨_,h1,_⟩:=nG h;obtain⟨_,h2,_⟩:=nG h';exact hR.inj _ _ _ _ _ _ _ _ _ _ hne h1 h2 hp hp'
 ·rintro B (h|⟨s,es,ro,p,hb,hp,rfl⟩)
  ·exact hR.imlt B h
  ·have hr:=hR.at hb hp;exact hr.block
 ·intro c hc;rw[rA]at hc;exact hR.fresh c hc
 ·refine hR.oh.mono (fun c o h h2=>?_) (fun c o q X h h2 hq hX=>⟨rfl,?_⟩) (Nat.le_refl _) (fun B h=>⟨.inl h,rfl⟩) (fun _ _ h=>h) (fun c c' o o' q q' X hne h h2 h3 hq hq' hX=>?_)
  ·obtain⟨o',h3,h4,_⟩:=yF h;rw[←h4 h2];exact h3
  ·rintro(h3|⟨s,es,ro,p,hb,hp,e⟩)
   ·exact(hR.oh.obj' h h2 hq X hX).2.2 h3
   ·exact hR.oh.sep c b o _ q p X (fun e2=>by subst e2;rw[hb]at h;cases h;cases h2) h h2 hb hq hp hX e.symm
  ·obtain⟨o'',h4,_,h5⟩:=yF h3;exact fun h6=>hR.oh.sep c c' o o'' q q' X hne h h2 h4 hq hq' hX (h5 _ _ _ h6)
 ·rintro B (h|⟨s,es,ro,p,hb,hp,rfl⟩)
  ·exact .inl h
  ·have hr:=hR.at hb hp;exact .inr hr.hB
theorem mM:∀(ids:List Nat){H:aA}{im:Nat→Prop},RelH w im γ B0 H→∃ im',RelH w im' γ B0 (bH H ids)∧(∀ B,im B→im' B)∧jV H γ im' ids∧(∀ B,im' B→im B∨B0≤B)
 | [],H,im,hR=>⟨im,hR,fun _ h=>h,fun b hb=>by simp at hb,fun _ h => .inl h⟩
 | b::ids,H,im,hR=>by
  obtain⟨im1,h1,h2,h3,h4⟩:=Xl hR b;obtain⟨im2,k1,k2,k3,k4⟩:=mM ids h1;refine⟨im2,k1,fun B h=>k2 B (h2 B h),fun c hc s es ro p hH hp=>?_,fun B h=>?_⟩
  ·rcases List.mem_cons.1 hc with rfl|hc
   ·exact k2 _ (h3 _ _ _ _ hH hp)
   ·obtain⟨ro',hro⟩:=sG (b:=b) hH;exact k3 c hc _ _ _ _ hro hp
  ·rcases k4 B h with h|h
   ·exact h4 B h
   ·exact .inr h
end
end Go.Proofs.YtaimmacnafoanaaGreatDoor.F
