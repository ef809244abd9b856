/- The plain semantics of the program, and what it computes. -/
import Derived.Test.YtaimmacnafoanaaGreatDoorQ04
import Derived.Test.YtaimmacnafoanaaGreatDoorQ28
set_option linter.unusedVariables false
set_option linter.unusedSimpArgs false
set_option maxRecDepth 100000
namespace Go.Proofs.YtaimmacnafoanaaGreatDoor.F
section
open Go Go.RowKit
theorem aUv (n:Int):0≤pD .i64 n 7∧pD .i64 n 7≤7:=by
 unfold pD;have h1:(BitVec.ofInt IntKind.i64.bits n &&& BitVec.ofInt IntKind.i64.bits 7).toNat≤7:=by
  rw[BitVec.toNat_and];exact Nat.and_le_right
 generalize (BitVec.ofInt IntKind.i64.bits n &&& BitVec.ofInt IntKind.i64.bits 7).toNat=m at h1;rw[IntWalk.i64_in _ (by omega)];omega
theorem Qo {x:St}{lim:Int}{fs:List Fun}(h:aBk x lim=some fs):x.l.fuel≤lim:=by
 unfold aBk at h;split at h
 ·cases h
 ·split at h
  ·rename_i h1;omega
  ·cases h
def atN (turns:List Int)(t:Nat):Int:=if turns=[]then 0 else t
theorem aGk (H:aA)(n b:Nat)(a c a' c':Int)(x x' ro:Bool):yS H (n+2) b 0 2 (some (.row 3 [.agg [.int .i64 a,.int .i64 c,.bool x],.agg [.int .i64 a',.int .i64 c',.bool x']] ro))=[b]:=rfl
variable {g:Gl}
set_option maxHeartbeats 2000000 in
theorem pc4 (hg:GlOk g)(x:St)(turns:List Int)(hs:x.text.length≤1048576)(ha:x.args.length≤1048576)(ht:turns.length≤1048576):PC P0 g 4 [eSt x,.imm (turns.map eI)] (.ret (.bool true)):=by
 have p7:=pc7 hg x 100 hs (by omega);unfold aBh at p7;obtain⟨L,hL⟩:∃ L,aBk x 100=L:=⟨_,rfl⟩;rw[hL]at p7;obtain⟨text,args,s,W,⟨fuel,frames,ring⟩⟩:=x;have hfu:∀ fs,L=some fs→fuel≤100:=fun fs e=>Qo (hL.trans e);clear hL;simp only at p7 hs ha;simp only[eSt,i64]at p7;refine eC Tryz.func4 Tryz.ntmps4 Tryz.results4 rfl ?_;simp only[ZZ,simprocAttr,i64,eSt];refine rg fun K hK=>?_;simp only[ZZ,simprocAttr,i64,eSt];apply hK;try clear hK K
 refine rg fun K hK=>?_;simp only[ZZ,simprocAttr,i64,eSt];refine mt p7 Tryz.func7 rfl ⟨⟨rfl,rfl⟩,rfl⟩ rfl ?_;cases L with
 | none=>
  simp only[ZZ,simprocAttr,i64,eSt,zW];apply hK;try clear hK K
  refine aF fun K1 hK1=>?_;refine rg fun K hK=>?_;simp only[ZZ,simprocAttr,i64,eSt];refine mt (Cz hg) Tryz.func8 rfl ⟨⟨rfl,rfl⟩,rfl⟩ rfl ?_;simp only[ZZ,simprocAttr,i64,eSt];apply hK;try clear hK K
  apply aB rfl;refine rg fun K hK=>?_;simp only[ZZ,simprocAttr,i64,eSt];refine mt (Cz hg) Tryz.func8 rfl ⟨⟨rfl,rfl⟩,rfl⟩ rfl ?_;simp only[ZZ,simprocAttr,i64,eSt];apply hK;try clear hK K
  apply aC;simp only[ZZ,simprocAttr,i64,eSt]
 | some fs=>
  simp only;cases hnk:eV fs args s W ⟨fuel,frames,ring⟩with
  | false=>
   generalize Tt=w0;simp only[Bool.false_eq_true,if_false];simp only[ZZ,simprocAttr,i64,eSt,hU,kY];apply hK;try clear hK K
   refine aF fun K1 hK1=>?_;refine rg fun K hK=>?_;simp only[ZZ,simprocAttr,i64,eSt];refine mt (Cz hg) Tryz.func8 rfl ⟨⟨rfl,rfl⟩,rfl⟩ rfl ?_;simp only[ZZ,simprocAttr,i64,eSt];apply hK;try clear hK K
   apply aB rfl;refine rg fun K hK=>?_;simp only[ZZ,simprocAttr,i64,eSt];refine mt (Cz hg) Tryz.func8 rfl ⟨⟨rfl,rfl⟩,rfl⟩ rfl ?_;simp only[ZZ,simprocAttr,i64,eSt];apply hK;try clear hK K
   apply aC;simp only[ZZ,simprocAttr,i64,eSt]
  | true=>
   obtain⟨w0,hw0⟩:∃ w0,eD fs args s W ⟨fuel,frames,ring⟩=w0:=⟨_,rfl⟩;simp only[if_true,hw0];have hfine:=yZ hnk;have hb:=Oo hnk turns;rw[hw0]at hfine hb;simp only[ZZ,simprocAttr,i64,eSt,hU,kY];apply hK;try clear hK K
   refine aF fun K1 hK1=>?_;by_cases h6:(6:Int) < W
   ·clear hw0;refine rg fun K hK=>?_;simp only[ZZ,simprocAttr,i64,eSt];refine mt (Cz hg) Tryz.func8 rfl ⟨⟨rfl,rfl⟩,rfl⟩ rfl ?_;simp only[ZZ,simprocAttr,i64,eSt,h6];apply hK;try clear hK K
    apply aB rfl;refine rg fun K hK=>?_;simp only[ZZ,simprocAttr,i64,eSt];refine mt (Cz hg) Tryz.func8 rfl ⟨⟨rfl,rfl⟩,rfl⟩ rfl ?_;simp only[ZZ,simprocAttr,i64,eSt];apply hK;try clear hK K
    apply aC;simp only[ZZ,simprocAttr,i64,eSt]
   by_cases h100:(100:Int) < turns.length
   ·clear hw0;refine rg fun K hK=>?_;simp only[ZZ,simprocAttr,i64,eSt];refine mt (Cz hg) Tryz.func8 rfl ⟨⟨rfl,rfl⟩,rfl⟩ rfl ?_;simp only[ZZ,simprocAttr,i64,eSt,h6,h100];apply hK;try clear hK K
    apply aB rfl;refine rg fun K hK=>?_;simp only[ZZ,simprocAttr,i64,eSt];refine mt (Cz hg) Tryz.func8 rfl ⟨⟨rfl,rfl⟩,rfl⟩ rfl ?_;simp only[ZZ,simprocAttr,i64,eSt];apply hK;try clear hK K
    apply aC;simp only[ZZ,simprocAttr,i64,eSt]
   refine rg fun K hK=>?_;simp only[ZZ,simprocAttr,i64,eSt];refine mt (Cz hg) Tryz.func8 rfl ⟨⟨rfl,rfl⟩,rfl⟩ rfl ?_;simp only[ZZ,simprocAttr,i64,eSt,h6,h100];apply hK;try clear hK K
   apply aD rfl;apply aH;simp only[WX];apply hK1;refine rg fun K hK=>?_;simp only[ZZ,simprocAttr,i64,eSt];apply hK;try clear hK K
   refine aF fun K1 hK1=>?_;refine rg fun K hK=>?_;simp only[ZZ,simprocAttr,i64,eSt];apply hK;try clear hK K
   have hfu:=hfu fs rfl;have hnk':=hnk;simp only[eV,gX,eK,Bool.and_eq_true,decide_eq_true_eq]at hnk';obtain⟨Wn,rfl⟩:∃ n:Nat,W=n:=⟨W.toNat,by omega⟩;have hW1:1≤Wn∧Wn≤6:=by omega
   obtain⟨F,hF⟩:∃ F:Nat,3*fuel+3=F:=⟨(3*fuel+3).toNat,by omega⟩;have hF2:F≤303:=by omega
   have hfw1:IntKind.i64.wrap (3*fuel)=3*fuel:=IntWalk.i64_in _ (by omega);have hfw2:IntKind.i64.wrap (3*fuel+3)=F:=by rw[IntWalk.i64_in _ (by omega)];omega
   have hbd:(fA turns Wn w0 (F*Wn)).state=1∨(fA turns Wn w0 (F*Wn)).state=2:=by
    rw[show((3*(⟨fuel,frames,ring⟩:Lim).fuel+3).toNat)=F by simp only;omega,Int.toNat_natCast]at hb;exact hb
   have hbk:=fun t=>aBg hfine turns Wn t;clear hb hfine hnk hnk' p7;refine aT ?_;refine cB (fun m T H=>∃ i:Nat,m=F - i∧i≤F∧T.length=94∧gt T 1 = .imm (turns.map eI)∧gt T 2 = .ptr 0 0 0∧gt T 6 = .ptr 1 0 0∧gt T 8 = .int .i64 (atN turns (i*Wn))∧gt T 9 = .int .i64 i∧hb H 0=some (.row 7 [.agg [.str text,.imm (args.map eVal),.int .i64 s,.int .i64 Wn,.int .i64 fuel,.int .i64 frames,.int .i64 ring]] false)∧hb H 1=some (.row 19 [hU (fA turns Wn w0 (i*Wn))] false)) (n:=F) ⟨0,rfl,by omega,rfl,rfl,rfl,rfl,by rw[Nat.zero_mul];unfold atN;split<;>rfl,rfl,rfl,by rw[Nat.zero_mul];rfl⟩ ?_;rintro m T4 H4 ⟨i,rfl,hi,hT,e1,e2,e6,e8,e9,h0,h1⟩;have hl0:=aE h0;have hl1:=aE h1;rw[eW 94 T4 hT];simp only[show List.range 94=[0,1,2,3,4,5,6,7,8,9,10,11,12,13,14,15,16,17,18,19,20,21,22,23,24,25,26,27,28,29,30,31,32,33,34,35,36,37,38,39,40,41,42,43,44,45,46,47,48,49,50,51,52,53,54,55,56,57,58,59,60,61,62,63,64,65,66,67,68,69,70,71,72,73,74,75,76,77,78,79,80,81,82,83,84,85,86,87,88,89,90,91,92,93]from rfl,List.map_cons,List.map_nil,e1,e2,e6,e8,e9];refine aF fun K2 hK2=>?_;by_cases hif:(i:Int) < F;rotate_left
   ·obtain rfl:F=i:=by omega
    refine rg fun K hK=>?_;simp only[ZZ,simprocAttr,i64,WH,h0,hl0,hfw1,hfw2,hif];apply hK;try clear hK K
    apply aD rfl;apply bZ;simp only[WX,if_true];apply hK1;generalize fA turns Wn w0 (F*Wn)=wf at hbd h1;simp only[hU,kY]at h1;rcases hbd with hst|hst
    ·refine rg fun K hK=>?_;simp only[ZZ,simprocAttr,i64,WH,h1,hl1,hst];apply hK;try clear hK K
     apply aC;simp only[ZZ,simprocAttr,i64,WH]
    ·refine rg fun K hK=>?_;simp only[ZZ,simprocAttr,i64,WH,h1,hl1,hst];apply hK;try clear hK K
     apply aC;simp only[ZZ,simprocAttr,i64,WH]
   ·refine rg fun K hK=>?_;simp only[ZZ,simprocAttr,i64,WH,h0,hl0,hfw1,hfw2,hif];apply hK;try clear hK K
    apply aB rfl;apply aH;simp only[WX];apply hK2;refine bl fun K2 hK2=>?_;refine rg fun K hK=>?_;simp only[ZZ,simprocAttr,i64,WH];apply hK;try clear hK K
    refine aT ?_;refine cB (fun m T H=>∃ k:Nat,m=Wn - k∧k≤Wn∧T.length=94∧gt T 1 = .imm (turns.map eI)∧gt T 2 = .ptr 0 0 0∧gt T 6 = .ptr 1 0 0∧gt T 8 = .int .i64 (atN turns (i*Wn+k))∧gt T 9 = .int .i64 i∧gt T 10 = .int .i64 k∧hb H 0=some (.row 7 [.agg [.str text,.imm (args.map eVal),.int .i64 s,.int .i64 Wn,.int .i64 fuel,.int .i64 frames,.int .i64 ring]] false)∧hb H 1=some (.row 19 [hU (fA turns Wn w0 (i*Wn+k))] false)) (n:=Wn) ⟨0,rfl,by omega,rfl,rfl,rfl,rfl,rfl,rfl,rfl,h0,h1⟩ ?_;clear hT e1 e2 e6 e8 e9 h0 h1 hl0 hl1;rintro m T5 H5 ⟨k,rfl,hk,hT,e1,e2,e6,e8,e9,e10,h0,h1⟩;have hl0:=aE h0;have hl1:=aE h1;rw[eW 94 T5 hT];simp only[show List.range 94=[0,1,2,3,4,5,6,7,8,9,10,11,12,13,14,15,16,17,18,19,20,21,22,23,24,25,26,27,28,29,30,31,32,33,34,35,36,37,38,39,40,41,42,43,44,45,46,47,48,49,50,51,52,53,54,55,56,57,58,59,60,61,62,63,64,65,66,67,68,69,70,71,72,73,74,75,76,77,78,79,80,81,82,83,84,85,86,87,88,89,90,91,92,93]from rfl,List.map_cons,List.map_nil,e1,e2,e6,e8,e9,e10];refine aF fun K3 hK3=>?_;by_cases hkf:(k:Int) < Wn;rotate_left
    ·obtain rfl:Wn=k:=by omega
     refine rg fun K hK=>?_;simp only[ZZ,simprocAttr,i64,WH,h0,hl0,hkf];apply hK;try clear hK K
     apply aD rfl;apply bZ;simp only[WX,if_true];apply hK2;have w1:IntKind.i64.wrap ((i:Int)+1)=((i+1:Nat):Int):=by rw[IntWalk.i64_in _ (by omega)];omega
     refine rl fun K hK=>?_;simp only[ZZ,simprocAttr,i64,WH,w1];apply hK;try clear hK K
     try simp only[WX]
     refine⟨F - (i+1),by omega,i+1,rfl,by omega,rfl,rfl,rfl,rfl,?_,rfl,h0,?_⟩
     ·rw[Nat.succ_mul];rfl
     ·rw[Nat.succ_mul];exact h1
    ·refine rg fun K hK=>?_;simp only[ZZ,simprocAttr,i64,WH,h0,hl0,hkf];apply hK;try clear hK K
     apply aB rfl;apply aH;simp only[WX];apply hK3;refine bl fun K3 hK3=>?_;refine rg fun K hK=>?_;simp only[ZZ,simprocAttr,i64,WH];apply hK;try clear hK K
     obtain⟨t,ht'⟩:∃ t,i*Wn+k=t:=⟨_,rfl⟩;have htW:t % Wn=k:=by rw[←ht',Nat.mul_comm,Nat.mul_add_mod,Nat.mod_eq_of_lt (by omega)]
     have ht2:t < 2000:=by
      have:i*Wn≤303*6:=Nat.mul_le_mul (by omega) (by omega);omega
     rw[ht']at h1 ⊢;obtain⟨n,hn⟩:∃ n,bkN turns Wn t=n:=⟨_,rfl⟩;have hn07:0≤n∧n≤7:=by
      rw[←hn];unfold bkN;split
      ·rw[htW];omega
      ·exact aUv _
     have w1:IntKind.i64.wrap ((k:Int)+1)=((k+1:Nat):Int):=by rw[IntWalk.i64_in _ (by omega)];omega
     refine aF fun K4 hK4=>?_;have after:∀ T':List V,T'.length=94→gt T' 1 = .imm (turns.map eI)→gt T' 2 = .ptr 0 0 0→gt T' 6 = .ptr 1 0 0→gt T' 8 = .int .i64 (atN turns (t+1))→gt T' 9 = .int .i64 i→gt T' 10 = .int .i64 k→gt T' 11 = .int .i64 n→K4 T' H5:=by
      intro T6 hT e1 e2 e6 e8 e9 e10 e11;apply hK4;clear hK4 K4;rw[eW 94 T6 hT];simp only[show List.range 94=[0,1,2,3,4,5,6,7,8,9,10,11,12,13,14,15,16,17,18,19,20,21,22,23,24,25,26,27,28,29,30,31,32,33,34,35,36,37,38,39,40,41,42,43,44,45,46,47,48,49,50,51,52,53,54,55,56,57,58,59,60,61,62,63,64,65,66,67,68,69,70,71,72,73,74,75,76,77,78,79,80,81,82,83,84,85,86,87,88,89,90,91,92,93]from rfl,List.map_cons,List.map_nil,e1,e2,e6,e8,e9,e10,e11];have hW0:((Wn:Int)=0)=False:=by simp;omega
      have w2:IntKind.i64.wrap ((k:Int)+n)=k+n:=IntWalk.i64_in _ (by omega);have w3:IntKind.i64.wrap ((k:Int)+n+1)=k+n+1:=IntWalk.i64_in _ (by omega);have hpair:lW turns Wn t=[⟨((k:Int)+n).tmod Wn,n,decide (3 < n)⟩,⟨k,((k:Int)+n+1).tmod Wn,false⟩]:=by
       unfold lW;rw[htW,hn]
      have hsucc:=wU turns Wn w0 t;have p9:=pc9 g (fA turns Wn w0 t) (lW turns Wn t) (by rw[hpair];simp) ((hbk t).oks _ (by rw[hpair];simp;omega));rw[←hsucc,hpair]at p9;simp only[List.map_cons,List.map_nil,Yv,i64]at p9;have hfin:t+1=i*Wn+(k+1):=by omega
      clear hsucc hpair;generalize fA turns Wn w0 t=wa at p9 h1;rw[hfin]at p9;generalize hwb:fA turns Wn w0 (i*Wn+(k+1))=wb at p9;simp only[hU,kY]at h1 p9;refine dl [1,2,3,4,7,8,9,11,12,13,14,15,16,0,5,6,10,17,18,19,20,21,22] (by kernel_rfl) fun K hK=>?_;simp only[ZZ,simprocAttr,i64,WH,h0,hl0,h1,hl1,w2,w3,hW0];refine mt p9 Tryz.func9 rfl ⟨⟨rfl,rfl⟩,rfl⟩ (by simp only[ZZ,simprocAttr,i64,WH];rfl) ?_;have q0:H5.length≠0:=by omega
      have q1:H5.length≠1:=by omega
      simp only[ZZ,simprocAttr,i64,WH,h0,hl0,h1,hl1,aGk,WI,aG,q0,q1,ne_eq,not_false_eq_true,List.length_set];apply hK;clear hK K;simp only[WX];apply hK3;clear hK3 K3;refine rl fun K hK=>?_;simp only[ZZ,simprocAttr,i64,WH,w1];apply hK;try clear hK K
      try simp only[WX]
      refine⟨Wn - (k+1),by omega,k+1,rfl,by omega,rfl,rfl,rfl,rfl,by rw[←hfin];rfl,rfl,rfl,?_,?_⟩
      ·rw[bA _ (by rw[List.length_set];omega),aG (by omega)];exact h0
      ·rw[bA _ (by rw[List.length_set];omega),aW (by omega),hwb];rfl
     by_cases hte:turns=[]
     ·subst hte;have hnk:n=k:=by rw[←hn,bkN,if_pos rfl,htW]
      refine rg fun K hK=>?_;simp only[ZZ,simprocAttr,i64,WH,List.map_nil];apply hK;try clear hK K
      apply aD rfl;apply aH;simp only[WX];exact after _ rfl rfl rfl rfl rfl rfl rfl (by rw[hnk];rfl)
     ·have hlen:(0:Int) < turns.length:=by have:=List.length_pos_iff.2 hte;omega
      have hl00:((turns.length:Int)=0)=False:=by simp;omega
      have hat:atN turns t=t:=if_neg hte;have hat1:atN turns (t+1)=((t+1:Nat):Int):=if_neg hte;have hw4:IntKind.i64.wrap ((t:Int)+1)=((t+1:Nat):Int):=by rw[IntWalk.i64_in _ (by omega)];omega
      have htm:(t:Int).tmod turns.length=((t % turns.length:Nat):Int):=by rw[Int.ofNat_tmod]
      have hml:t % turns.length < turns.length:=Nat.mod_lt _ (by omega);have hml':((t % turns.length:Nat):Int) < turns.length:=by omega
      have hx:=List.getElem?_eq_getElem hml;have hn':pD .i64 (turns[t % turns.length]'hml) 7=n:=by
       rw[←hn,bkN,if_neg hte,List.getD_eq_getElem?_getD,hx];rfl
      generalize turns[t % turns.length]'hml=y at hx hn';rw[hat];refine rg fun K hK=>?_;simp only[ZZ,simprocAttr,i64,WH,hlen];apply hK;try clear hK K
      apply aB rfl;refine rg fun K hK=>?_;simp only[ZZ,simprocAttr,i64,WH,hl00,htm,hml',List.getElem?_map,hx,Option.map_some,eI,hn'];apply hK;try clear hK K
      refine rl fun K hK=>?_;simp only[ZZ,simprocAttr,i64,WH,hw4];apply hK;try clear hK K
      try simp only[WX]
      exact after _ rfl rfl rfl rfl (by rw[hat1];rfl) rfl rfl rfl
end
end Go.Proofs.YtaimmacnafoanaaGreatDoor.F
