/-
  Contracts of the walk:WdC.
-/
import Derived.Test.YtifjccndenojlaaGreatWf43
set_option maxHeartbeats 16000000
set_option maxRecDepth 100000
set_option linter.unusedVariables false
set_option linter.unusedSimpArgs false
namespace Go.Proofs.YtifjccndenojlaaGreat
open Go.RowKit
open Go.Proofs.Tryz
theorem Nr(c:kR)(l:List Stp)(x0 x1 x2:Int)(_:c.rng)(hl:∀s∈l,s.rng)(hln:l.length<=140737488355328)(hx0: -9223372036854775808<=x0/\x0<=9223372036854775807):aH prog 3 [c.av,.sl 10 l.length true (IE l),.agg [.v (.int .i64 x0),.v (.int .i64 x1),.v (.int .i64 x2)]] (.v (.bool true)) []:=by
 have hsh:=rX;have hfc:=CP c;have hmc:=Gi c;generalize Ph c=d at hfc hmc;obtain⟨n,hn,hn1,hn5⟩:=xJ hmc;have hnew:=Np hmc;have hI:=uM.new hmc;have hdn:(wy0 d).ns.length=n:=by
  show((List.range d.n.toNat).map (ny0 d)).length=n;rw[aoO,aqC];omega
 have hst:=yx l;have hl':∀s∈l.take 60,s.rng:=λ s hs=>hl s (apn hs);have ahE:(l.take 60).length<=60:=by rw[aou];omega
 generalize l.take 60=L at hst hl' ahE;generalize wy0 d=w at hnew hI hdn;obtain⟨dn,dw,dq,dh,dl,dp⟩:=d;obtain⟨cn,cw,cq,ch,cl,cp⟩:=c;dsimp only[kR.av,kR.cs]at hfc hnew hn⊢;subst hn;refine K1.E 0x8000000820000fffffef func3 ?_;repeat' ((conv=>whnf);first|refine K1.u ?_|refine K1.P1 hsh ?_|refine K1.P1 hfc ?_|refine K1.C 0 [] (hnew) rfl ?_|refine K1.P1 hst ?_|fail)
 all_goals(conv=>whnf)
 clear hsh hfc hnew hst;refine aI.mk {p:Nat×Wy//p.1<=L.length/\uM p.1 p.2/\p.2.ns.length=n} (λ p=>⟨[(12,.v (.int .i64 (p.1.1:Int))),(11,.sl 10 L.length true (IE L)),(9,.box 3 0),(8,.box 2 0),(5,.box 1 0)],[(3,.obs (ji p.1.1 p.1.2)),(2,.box 23 [.v (.int .i64 (n:Int)),.v (.int .i64 dw),.v (.int .i64 dq),.v (.int .i64 dh),.v (.int .i64 dl),.v (.int .i64 dp)]),(1,.box 25 [.v (.int .i64 x0),.v (.int .i64 x1),.v (.int .i64 x2)])],[],4⟩) (λ p=>L.length-p.1.1) ⟨(0,w),aoB _,hI,hdn⟩ _
  (dO.mk' [] _ _ _ rfl ⟨aY.int rfl,au,au,au,au,trivial⟩ ⟨ay rfl,ay rfl,ay rfl,trivial⟩ rfl) ?_
 clear hI hdn w;rintro⟨⟨j,w⟩,hj,hI,hw⟩;dsimp only at hj hI hw⊢;by_cases hjl:j<L.length
 ·have hg:=Nq hl' hjl;have hft:=CY _ (n:Int) o_ hg;have hst:=yu hI o_ (CV (L.getD (j:Int).toNat default) n) hg.bit hg.mask;have hI':=hI.step o_ (CV (L.getD (j:Int).toNat default) n);have hw':=(Ag w (CV (L.getD (j:Int).toNat default) n)).1.trans hw;generalize CV (L.getD (j:Int).toNat default) n=s at*;generalize w.step s=r at*;obtain⟨w',x⟩:=r;dsimp only[Stp.av,Stp.cs]at hft hst hI' hw';obtain⟨z,hz⟩:∃z:{p:Nat×Wy//p.1<=L.length/\uM p.1 p.2/\p.2.ns.length=n},z.1=(j+1,w'):=⟨⟨(j+1,w'),hjl,hI',hw'⟩,rfl⟩;clear hI hI';generalize ji j w=B at*;repeat' ((conv=>whnf);first|refine K1.u ?_|refine K1.P1 hft ?_|refine K1.C 1 [(0,_)] (hst) rfl ?_|refine K1.o (id:=10) (nN [0,1,2,3,4,5,6] [(7,some [6,4]),(8,some [6,4])]) ?_|fail)
  all_goals(conv=>whnf)
  all_goals exact⟨z,_,dO.mk' [] _ _ _ rfl ⟨aY.int (by rw[hz];rfl),au,au,au,au,trivial⟩ ⟨⟨_,rfl,by rw[hz];exact dK.refl _⟩,ay rfl,ay rfl,trivial⟩ rfl,by rw[hz];show L.length-(j+1)<L.length-j;omega⟩
 ·have hA:=akm x0;have hB:=akm x1;have hC:=anU x2;have hF:0<=(w.fl.length:Int)/\(w.fl.length:Int)<=60:=by have:=hI.Zx;omega
  have c0:=G6 hI;have c1:=yw hI o_ (r:=0) o_;have c2:=nZ hI;have a5:=BD hI (m:=j+5) (q:=j+6) o_ o_ rfl ⟨11,5,Nv,0,0,0,0⟩ rfl rfl (TU (by unfold Wy.has;dsimp only;omega) (by dsimp only;omega) (by dsimp only;omega));have a4:=BD hI (m:=j+4) (q:=j+5) o_ o_ rfl ⟨4,0,Nv,-1-kX x1 1023,0,0,0⟩ rfl rfl (TV (by dsimp only;omega) (by dsimp only;omega));have a3:=BD hI (m:=j+3) (q:=j+4) o_ o_ rfl ⟨4+kX x2 3,0,Nv,(w.fl.length:Int)+kX x1 1023,0,0,0⟩ rfl rfl (TV (by dsimp only;omega) (by dsimp only;omega));have c3:=yw (hI.mono (m:=j+6) o_) o_ (r:=0) o_;have c4:=G6 (hI.mono (m:=j+6) o_);have c5:=nZ (hI.mono (m:=j+6) o_);have hll:=hI.lens o_ (r:=0) o_;have c6:=Ah (w.nd (0:Nat)).up (w.nd (0:Nat)).clk (w.nd (0:Nat)).sent (w.nd (0:Nat)).held (w.nd (0:Nat)).log hll.1 hll.2;have c7:=Ah false aW 0 [] [] s_ s_;have fin:∀kd wh:Int,(kd<0\/12<=kd)->(wh<0\/6<=wh)-> -2000<=kd->kd<=2000-> -2000<=wh->wh<=2000->
   aj prog 11 [(0,.obs (ji j w))] [.box 0 0,(⟨kd,0,Nv,0,0,0,0⟩:Stp).av] (.v (.int .i64 1)) [(0,.obs (ji (j+1) w))]/\
   aj prog 11 [(0,.obs (ji (j+1) w))] [.box 0 0,(⟨kX x2 3,wh,Nv,0,0,0,0⟩:Stp).av] (.v (.int .i64 1)) [(0,.obs (ji (j+2) w))]/\
   aj prog 11 [(0,.obs (ji (j+2) w))] [.box 0 0,(⟨8+kX x2 3,wh,Nv,0,0,0,0⟩:Stp).av] (.v (.int .i64 1)) [(0,.obs (ji (j+3) w))]/\
   aj prog 16 [(0,.obs (ji (j+6) w))] [.box 0 0,.v (.int .i64 wh)] (.bI [.v (.slice none 0 0),.v (.int .i64 1)]) [(0,.obs (ji (j+6) w))]/\
   aj prog 14 [(0,.obs (ji (j+6) w))] [.box 0 0,.v (.int .i64 wh)] (rW false aW 0 [] []) [(0,.obs (ji (j+6) w))]:=λ kd wh h1 h2 _ _ _ _=>
   ⟨BD hI o_ o_ rfl _ rfl rfl (ady h1),BD hI o_ o_ rfl _ rfl rfl (TU (by unfold Wy.has;dsimp only;omega) (by dsimp only;omega) (by dsimp only;omega)),
    BD hI o_ o_ rfl _ rfl rfl (TU (by unfold Wy.has;dsimp only;omega) (by dsimp only;omega) (by dsimp only;omega)),TY (hI.mono o_) (by unfold Wy.has;omega),TW (hI.mono o_) (by unfold Wy.has;omega)⟩
  unfold yK at c1 c3;rw[show((0:Nat):Int)=0 from rfl]at*;generalize Nj w.hb=S at c0 c4;generalize(w.nd 0).up=up at*;generalize(w.nd 0).clk=ck at*;generalize(w.nd 0).sent=sn at*;generalize(w.nd 0).held=hd at*;generalize(w.nd 0).log=lg at*;generalize ji j w=B0 at*;generalize ji (j+1) w=B1 at*;generalize ji (j+2) w=B2 at*;generalize ji (j+3) w=B3 at*;generalize ji (j+4) w=B4 at*;generalize ji (j+5) w=B5 at*;generalize ji (j+6) w=B6 at*;generalize(w.fl.length:Int)=F at*;clear hI hw hl' hll;obtain⟨ck0,ck1,ck2,ck3,ck4⟩:=ck;unfold kX at*;by_cases hx:x0<0;have f:=fin _ _ (.inl (show-1-kX x0 1023<0 by unfold kX;omega)) (.inl (show-1-kX x1 1023<0 by unfold kX;omega)) (by unfold kX;omega) (by unfold kX;omega) (by unfold kX;omega) (by unfold kX;omega);rotate_left;have f:=fin _ _ (.inr (show 12<=12+kX x0 1023 by unfold kX;omega)) (.inr (show 6<=6+kX x1 1023 by unfold kX;omega)) (by unfold kX;omega) (by unfold kX;omega) (by unfold kX;omega) (by unfold kX;omega);all_goals
   obtain⟨a0,a1,a2,d0,d1⟩:=f;unfold kX at*;clear fin;dsimp only[Stp.av,Stp.cs,Nv]at a0 a1 a2 a3 a4 a5;cases up
  all_goals
   dsimp only[rW,cond_true,cond_false]at c1 c3 c6 c7 d1;repeat' ((conv=>whnf);first|refine K1.u ?_|refine K1.C 1 [(0,_)] (c0) rfl ?_|refine K1.C 1 [(0,_)] (c1) rfl ?_|refine K1.C 1 [(0,_)] (c2) rfl ?_|refine K1.C 1 [(0,_)] (a0) rfl ?_|refine K1.C 1 [(0,_)] (a1) rfl ?_|refine K1.C 1 [(0,_)] (a2) rfl ?_|refine K1.C 1 [(0,_)] (a3) rfl ?_|refine K1.C 1 [(0,_)] (a4) rfl ?_|refine K1.C 1 [(0,_)] (a5) rfl ?_|refine K1.C 1 [(0,_)] (d0) rfl ?_|refine K1.C 1 [(0,_)] (d1) rfl ?_|refine K1.C 1 [(0,_)] (c3) rfl ?_|refine K1.C 1 [(0,_)] (c4) rfl ?_|refine K1.C 1 [(0,_)] (c5) rfl ?_|refine K1.P1 c6 ?_|refine K1.P1 c7 ?_|refine Ub.mk S.vs S.vs (S=S) rfl rfl (YJ _ _) ?_|refine oC.yes rfl ?_|refine aU.fF ?_|refine K1.o (id:=28) (nN [0,1,2,3,4,5,6,7,8,9,10,11,12,13,14,15,16,17,18,19,20,21,22,23,24,25,26,27,28,29,30,31,32,33,34,35,36,37,38,40] ((39,some [1,4,8,12,16,20,24,29])::nN [41,42,43,44,46] ((45,some [1,4,8,12,16,20,24,29,41,40])::nN [47,48,49] []))) ?_|refine fO.lex 70 bQ (dM bQ _) fG (by kernel_rfl) ?_|refine Both.mk ?_ ?_|exact LeC.mk rfl rfl rfl rfl rfl|refine K1.z ?_|fail)
   all_goals(conv=>whnf)
   all_goals exact bn.mk (au)
end Go.Proofs.YtifjccndenojlaaGreat
