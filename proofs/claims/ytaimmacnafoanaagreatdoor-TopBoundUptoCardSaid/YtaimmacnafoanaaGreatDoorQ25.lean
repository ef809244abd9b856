/- The plain semantics of the program, and what it computes. -/
import Derived.Test.YtaimmacnafoanaaGreatDoorQ20
import Derived.Test.YtaimmacnafoanaaGreatDoorQ21
import Derived.Test.YtaimmacnafoanaaGreatDoorQ22
import Derived.Test.YtaimmacnafoanaaGreatDoorQ23
import Derived.Test.YtaimmacnafoanaaGreatDoorQ24
set_option linter.unusedVariables false
set_option linter.unusedSimpArgs false
set_option maxRecDepth 100000
namespace Go.Proofs.YtaimmacnafoanaaGreatDoor.F
section
open Go Go.RowKit Go.Proofs
theorem aIq:oK XL 300 15 (mZ 0) ([Yf,.str IMG]++List.replicate 43 undef) []=some [(.normal,TL1,HL1)]:=by kernel_rfl
theorem ecs:([4,5,6].map fun x=>ev TL1 (.tmp x))=[.ptr 0 0 0,.ptr 1 0 0,.ptr 2 0 0]:=by kernel_rfl
theorem aAy:∀ l,jX (X1 l) 44 r44=true:=fun l=>by rw[kW];kernel_rfl
theorem aCw:put TL1 (some 12) (.fn 44 [] ([4,5,6].map fun x=>ev TL1 (.tmp x)))=TL2∧HL1=HL2:=⟨by kernel_rfl,by kernel_rfl⟩
theorem aIr:m8.all aAi=true:=by
 have e:m8=m8.take 3++((m8.drop 3).take 3++m8.drop 6):=by
  have h1:=List.take_append_drop 3 m8;have h2:=List.take_append_drop 3 (m8.drop 3);rw[List.drop_drop]at h2;rw[h2,h1]
 rw[e,List.all_append,List.all_append,aFc,aFb,aFa];rfl
theorem aLa:oK XL 300 15 (mZ 8) TL8 HL8=some m8:=by
 have h:=aFd;unfold m8;cases hx:oK XL 300 15 (mZ 8) TL8 HL8 with
 | none=>rw[hx]at h;cases h
 | some m=>rfl
theorem aTl:Zk (mZ 1)=some (12,44,[4,5,6]):=by kernel_rfl
theorem aHj:∃ b,Tryz.f44.body=some b∧Rc b=some (6,3,r44):=by
 refine⟨_,rfl,?_⟩;kernel_rfl
theorem aAz:∀ l,jX (X1 l) 15 Ob=true:=fun l=>by rw[kW];kernel_rfl
theorem aSu {g:Gl}(hg:GlOk g):PC P0 g 15 [Yf,.str IMG] (.ret (.tup [Zf,.int .i64 73,.int .i64 0])):=by
 have hX:XOk XL (Ez g):=aEk hg (fb4 hg);have hck:=aAz FB4;rw[zL]at hck;simp only[jX,Bool.and_eq_true]at hck;obtain⟨hc0,hc1,hcs⟩:=hck;have hb:Tryz.f15.body=some Ob:=by kernel_rfl
 refine PC.ofD (E:=Ez g) hX.ok Tryz.func15 (n:=45) Tryz.ntmps15 hb fun w0 im0=>?_;rw[zL];have hr:=pF hX 300;refine Wq.seq hX.ok ?_;refine hr.one aIq hc0 ?_;obtain⟨b44,hb44,hrec⟩:=aHj;obtain⟨id2,tys2,ty2,p2,af2,ty3,p3,af3,rfl⟩:=Qc hrec;obtain⟨id,ty0,p0,af0,tys,ty1,p1,af1,e1⟩:=Kf aTl;rw[e1];refine Wq.deferL hX.ok (m:=19) (fn2:=Tryz.f44) Tryz.func44 Tryz.ntmps44 rfl hb44 (by decide) (by show 12 < 45;decide) ?_;rw[aCw.1,aCw.2,ecs];refine Ba hX [mZ 2,mZ 3,mZ 4,mZ 5,mZ 6] (b:=Wl [mZ 7] (.seq (mZ 8) (.seq (mZ 9) (.seq (mZ 10) .ret)))) aIp hcs fun hc7=>?_;refine Ba hX [mZ 7] aIo hc7 fun hc8=>?_;simp only[jX,Bool.and_eq_true]at hc8;exact aAh hX (fn2:=Tryz.f44) (by simp only[jX,Bool.and_eq_true];exact hc8.2) (aAy FB4) aLa hc8.1 aIr
end
end Go.Proofs.YtaimmacnafoanaaGreatDoor.F
