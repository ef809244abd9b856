/- The plain semantics of the program, and what it computes. -/
import Derived.Test.YtaimmacnafoanaaGreatDoorQ11
set_option linter.unusedVariables false
set_option linter.unusedSimpArgs false
set_option maxRecDepth 100000
namespace Go.Proofs.YtaimmacnafoanaaGreatDoor.F
section
open Go Go.RowKit Go.Proofs
def Ts (X:XE)(n:Nat)(f:FuncId):List Code→List V→aA→Option (List V×aA)
 | [],T,H=>some (T,H)
 | c::l,T,H=>match oK X n f c T H with
  | some [(.normal,T',H')]=>Ts X n f l T' H'
  | _=>none
def Wl:List Code→Code→Code
 | [],b=>b
 | c::l,b => .seq c (Wl l b)
variable {X:XE}{E:Env}
theorem Ba (hX:XOk X E){n:Nat}{f:FuncId}{b:Code}{Q:Ex→List V→aA→Prop}:∀(l:List Code){T T':List V}{H H':aA},Ts X n f l T H=some (T',H')→jX X f (Wl l b)=true→(jX X f b=true→FW E b Q T' H')→FW E (Wl l b) Q T H
 | [],T,T',H,H',h,hc,hb=>by cases h;exact hb hc
 | c::l,T,T',H,H',h,hc,hb=>by
  simp only[Ts]at h;simp only[Wl,jX,Bool.and_eq_true]at hc;split at h
  ·rename_i T1 H1 h1;refine FW.seq ?_;exact(pF hX n).one h1 hc.1 (Ba hX l h hc.2 hb)
  ·cases h
def aGz (X:XE)(n:Nat)(f:FuncId)(fn fn2:Func)(f2:FuncId)(cs:List V)(t u:Tmp)(rest b:Code)(r:Res):XO→Bool
 | (.normal,T,H)=>match oK X n f b T H with
  | some m=>m.all fun y=>match xX X (oK X n) fn fn2 f2 cs t u rest y with
   | some r'=>Res.beq r' r
   | none=>false
  | none=>false
 | _=>false
theorem aAh (hX:XOk X E){n:Nat}{f:FuncId}{fn fn2:Func}{f2:FuncId}{cs:List V}{t u:Tmp}{rest b:Code}{r:Res}(hcb:jX X f b=true)(hcr:jX X f2 rest=true){m:List XO}{a:Code}{T:List V}{H:aA}(ha:oK X n f a T H=some m)(hca:jX X f a=true)(hm:m.all (aGz X n f fn fn2 f2 cs t u rest b r)=true) :
 FW E (.seq a b) (zI E fn r cs rest (fn2.ntmps - cs.length) t u) T H:=by
 have hr:=pF hX n;refine FW.seq (hr _ _ _ _ _ ha hca _ fun x hx=>?_);have hx':=List.all_eq_true.1 hm x hx;obtain⟨e,T1,H1⟩:=x;cases e with
 | normal=>
  simp only[aGz]at hx';split at hx'
  ·rename_i m2 hm2;refine hr _ _ _ _ _ hm2 hcb _ fun y hy=>?_;have hy':=List.all_eq_true.1 hx' y hy;split at hy'
   ·rename_i r' hk;have e:=Res.beq_eq hy';subst e;obtain⟨e,T2,H2⟩:=y;cases e with
    | ret=>
     simp only[xX]at hk;simp only[zI];split at hk
     ·rename_i T3 H3 hrun2;exact hr.one hrun2 hcr ⟨rfl,iB hX hk⟩
     ·cases hk
    | panic v=>
     simp only[xX]at hk;simp only[zI];split at hk
     ·rename_i T3 H3 hrun2;exact hr.one hrun2 hcr ⟨rfl,iB hX hk⟩
     ·cases hk
    | normal=>cases hk
    | exit id=>cases hk
    | goto l=>cases hk
   ·cases hy'
  ·cases hx'
 | ret=>cases hx'
 | panic v=>cases hx'
 | exit id=>cases hx'
 | goto l=>cases hx'
end
end Go.Proofs.YtaimmacnafoanaaGreatDoor.F
