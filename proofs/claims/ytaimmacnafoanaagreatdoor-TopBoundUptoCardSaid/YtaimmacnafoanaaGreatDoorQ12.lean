/- The plain semantics of the program, and what it computes. -/
import Derived.Test.YtaimmacnafoanaaGreatDoorQ02
import Derived.Shelf.RegionOpen
import Derived.Sort.QuietIn
set_option linter.unusedVariables false
set_option linter.unusedSimpArgs false
set_option maxRecDepth 100000
namespace Go.Proofs.YtaimmacnafoanaaGreatDoor.F
section
open Go Go.RowKit Go.Shelf Go.Proofs
attribute [local go_sem] Oper.semAt_some
def pkV (p:Int×Int×Bool):Value:=.agg #[.int .i64 p.1,.int .i64 p.2.1,.bool p.2.2]
def Ft (r:Int)(m k:Nat):Int×Int×Bool:=(k,((k:Int)+r+1) % m,r.tmod 2 == 1)
def kU (r:Int)(m:Nat):Nat→List (Int×Int×Bool)
 | 0=>[]
 | k+1=>kU r m k++[Ft r m k]
theorem uP (r:Int)(m k:Nat):(kU r m k).length=k:=by
 induction k with
 | zero=>rfl
 | succ k ih=>simp[kU,ih]
def KpF (Bw Br:Nat)(A B:World):Prop:=B.cell? ⟨Bw,0,none⟩=A.cell? ⟨Bw,0,none⟩∧B.cell? ⟨Br,0,none⟩=A.cell? ⟨Br,0,none⟩
set_option maxRecDepth 100000 in
set_option maxHeartbeats 2000000 in
theorem Vs (n:Nat)(Bw Br:Nat)(r:Int)(m:Nat)(hm:m < 4611686018427387904)(h0r:0≤r)(h1r:r < 4611686018427387904)(w:World)(hBw:Bw < w.heap.size)(hBr:Br < w.heap.size)
 (hw:w.cell? ⟨Bw,0,none⟩=some (.int .i64 m))(hr:w.cell? ⟨Br,0,none⟩=some (.int .i64 r)) :
 SeqStopsK Fence.wide n Tryz.prog 169 #[.pointer (some ⟨Bw,0,none⟩),.pointer (some ⟨Br,0,none⟩)] (fun p=>#[pkV p]) (KpF Bw Br) (fun ys=>ys=kU r m m) (fun _=>True) m w:=fun l J Jx W hW hAb hAx hY h0=>by
 refine callsIn_of_wp Tryz.func169 rfl trivial ?_ rfl;simp only[Tryz.ntmps169,List.size_toArray,List.length_cons,List.length_nil,Nat.reduceAdd,Nat.reduceSub,Array.replicate_succ,Array.replicate_zero,List.push_toArray,List.append_toArray,List.nil_append,List.cons_append];have hw':=(hW.cell (p:=⟨Bw,0,none⟩) hBw).trans hw
 gi_wp2
 gi_loopw [6] (fun i wr=>∃ k:Nat,k≤m∧i = .int .i64 k∧J (kU r m k) wr∧wr.cell? ⟨Bw,0,none⟩=some (.int .i64 m)∧wr.cell? ⟨Br,0,none⟩=some (.int .i64 r))
  (fun i _=>m - (RowKit.intOf i).toNat)
 case atStart=>exact⟨0,Nat.zero_le _,rfl,h0,hw',(hW.cell (p:=⟨Br,0,none⟩) hBr).trans hr⟩
 case round=>
  obtain⟨k,hk,rfl,hJs,hcw,hcr⟩:=hrel;by_cases hlt:k < m
  ·have hgd:wr.grownBy wr.drew none:=⟨rfl,rfl,rfl,Nat.le_refl _,fun _ _ _=>rfl⟩;obtain⟨fn,tmps,assign,body,hy,hR⟩:=hY (kU r m k) (Ft r m k) wr.drew (hAb _ _ _ none hJs hgd (fun r e=>by cases e)) (by rw[uP];exact hlt);simp only[pkV,Ft]at hy;have hy2:=hy;rw[Int.tmod_eq_emod_of_nonneg h0r]at hy2;have hmx:Tryz.prog.follows .mixedOrders=true:=by kernel_rfl
   have hm0:(m:Int)≠0:=by omega
   gi_wp2
   have hR':RoundIn Fence.wide (n - 1) Tryz.prog l fn tmps assign body wr.drew fun e W'=>∃ b:Bool,e = .returned (.bool b)∧(b=true→J (kU r m k++[Ft r m k]) W'∧KpF Bw Br wr.drew W')∧(b=false→Jx (kU r m k++[Ft r m k]) W'):=hR.mono fun e W' h=>by
    rcases h with ⟨rfl,h1,h2⟩|⟨rfl,h1⟩
    ·exact⟨true,rfl,fun _=>⟨h1,h2⟩,fun h=>by cases h⟩
    ·exact⟨false,rfl,fun h=>(by cases h),fun _=>h1⟩
   gi_region_with_o (refine⟨by simp[Fence.wide],?_⟩;refine hR'.mono ?_;rintro e W3 ⟨b,rfl,hb1,hb2⟩)
   all_goals
    cases b
    ·have hx:=hb2 rfl;clear hb1 hb2
     gi_wp2
     refine bodyPost_ret (results_none rfl _ _ _) rfl ?_;first|exact⟨⟨_,rfl⟩,.inr ⟨_,trivial,hx⟩⟩|exact⟨⟨_,rfl⟩,.inr ⟨_,hx⟩⟩
    ·obtain⟨hx1,hx2⟩:=hb1 rfl;clear hb1 hb2
     gi_wp2
     go_roundw
     case rel=>exact⟨k+1,by omega,by simp,hx1,hx2.1.trans hcw,hx2.2.trans hcr⟩
     case measure=>simp[RowKit.intOf];omega
  ·obtain rfl:k=m:=by omega
   gi_wp2
   go_end0
   exact⟨⟨_,rfl⟩,.inl ⟨_,rfl,hJs⟩⟩
end
end Go.Proofs.YtaimmacnafoanaaGreatDoor.F
