/-
  Contracts of the walk:WdG.
-/
import Derived.Test.YtifjccndenojlaaGreatWf43
set_option maxHeartbeats 16000000
set_option maxRecDepth 100000
set_option linter.unusedVariables false
set_option linter.unusedSimpArgs false
namespace Go.Proofs.YtifjccndenojlaaGreat
open Go.RowKit
open Go.Proofs.Tryz
theorem IL(c:kR)(l:List Stp)(bs:List UInt8)(_:c.rng)(hl:∀s∈l,s.rng)(hln:l.length<=140737488355328)(hbs:bs.length<=140737488355328):aH prog 4 [c.av,.sl 10 l.length true (IE l),.sl 1 bs.length true (aO bs)] (.v (.bool true)) []:=by
 have hsh:=rX;have hfc:=CP c;have hmc:=Gi c;generalize Ph c=d at hfc hmc;obtain⟨n,hn,hn1,hn5⟩:=xJ hmc;have hnew:=Np hmc;have hI:=uM.new hmc;have hdn:(wy0 d).ns.length=n:=by
  show((List.range d.n.toNat).map (ny0 d)).length=n;rw[aoO,aqC];omega
 have hst:=yx l;have hl':∀s∈l.take 60,s.rng:=λ s hs=>hl s (apn hs);have ahE:(l.take 60).length<=60:=by rw[aou];omega
 generalize l.take 60=L at hst hl' ahE;generalize wy0 d=w at hnew hI hdn;obtain⟨dn,dw,dq,dh,dl,dp⟩:=d;obtain⟨cn,cw,cq,ch,cl,cp⟩:=c;dsimp only[kR.av,kR.cs]at hfc hnew hn⊢;subst hn;refine K1.E 0x1000000000000020004100007ffcf func4 ?_;repeat' ((conv=>whnf);first|refine K1.u ?_|refine K1.P1 hsh ?_|refine K1.P1 hfc ?_|refine K1.C 0 [] (hnew) rfl ?_|refine K1.P1 hst ?_|fail)
 all_goals(conv=>whnf)
 clear hsh hfc hnew hst;refine aI.mk {p:Nat×Nat×Wy//p.1<=L.length/\p.2.1<=2*p.1/\uM p.2.1 p.2.2/\p.2.2.ns.length=n} (λ p=>⟨[(12,.v (.int .i64 (p.1.1:Int))),(11,.sl 10 L.length true (IE L)),(9,.box 2 0),(8,.box 1 0),(2,.sl 1 bs.length true (aO bs))],[(2,.obs (ji p.1.2.1 p.1.2.2)),(1,.box 23 [.v (.int .i64 (n:Int)),.v (.int .i64 dw),.v (.int .i64 dq),.v (.int .i64 dh),.v (.int .i64 dl),.v (.int .i64 dp)])],[],3⟩) (λ p=>L.length-p.1.1) ⟨(0,0,w),aoB _,aoB _,hI,hdn⟩ _
  (dO.mk' [] _ _ _ rfl ⟨aY.int rfl,au,au,au,au,trivial⟩ ⟨ay rfl,ay rfl,trivial⟩ rfl) ?_
 clear hI hdn w;rintro⟨⟨j,k,w⟩,hj,hk,hI,hw⟩;dsimp only at hj hk hI hw⊢;by_cases hjl:j<L.length
 ·have hg:=Nq hl' hjl;have hft:=CY _ (n:Int) o_ hg;have hst:=yu hI o_ (CV (L.getD (j:Int).toNat default) n) hg.bit hg.mask;have hI':=hI.step o_ (CV (L.getD (j:Int).toNat default) n);have hw':=(Ag w (CV (L.getD (j:Int).toNat default) n)).1.trans hw;generalize CV (L.getD (j:Int).toNat default) n=s at*;generalize w.step s=r at*;obtain⟨w',x⟩:=r;dsimp only[Stp.av,Stp.cs]at hft hst hI' hw';have hF:0<=(w'.fl.length:Int)/\(w'.fl.length:Int)<=200:=by have:=hI'.Zx;omega
  have c0:=nZ hI';have c1:=G6 hI';have c2:=yw hI' o_ (r:=0) o_;have hll:=hI'.lens o_ (r:=0) o_;unfold yK at c2;rw[show((0:Nat):Int)=0 from rfl]at*;have c3:=Ah (w'.nd 0).up (w'.nd 0).clk (w'.nd 0).sent (w'.nd 0).held (w'.nd 0).log hll.1 hll.2;obtain⟨z1,hz1⟩:∃z:{p:Nat×Nat×Wy//p.1<=L.length/\p.2.1<=2*p.1/\uM p.2.1 p.2.2/\p.2.2.ns.length=n},z.1=(j+1,k+1,w'):=⟨⟨(j+1,k+1,w'),by dsimp only;omega,by dsimp only;omega,hI',hw'⟩,rfl⟩;by_cases hjb:j<bs.length
  ·obtain⟨q,hq,hq8⟩:∃q:Nat,((bs.getD (j:Int).toNat default).toNat:Int)%8=(q:Int)/\q<8:=⟨((bs.getD (j:Int).toNat default).toNat)%8,o_,Nat.mod_lt _ o_⟩;have hd:=yu hI' o_ ⟨6,0,Nv,(q:Int),0,0,0⟩ (by dsimp only;omega) (by dsimp only;omega);have hI2:=hI'.step o_ ⟨6,0,Nv,(q:Int),0,0,0⟩;have hw2:=(Ag w' ⟨6,0,Nv,(q:Int),0,0,0⟩).1.trans hw';obtain⟨W2,x2,hs,h1,h2,h3⟩:∃W2 x2,w'.step ⟨6,0,Nv,(q:Int),0,0,0⟩=(W2,x2)/\W2.hb=w'.hb/\W2.nd 0=w'.nd 0/\(((q:Int)<(w'.fl.length:Int)/\x2=0/\(W2.fl.length:Int)=(w'.fl.length:Int)-1)\/(¬ (q:Int)<(w'.fl.length:Int)/\x2=24)):=by
    by_cases hqf:q<w'.fl.length
    ·exact⟨_,_,step_drop rfl (by dsimp only;omega),rfl,rfl,.inl ⟨o_,rfl,by show((w'.fl.eraseIdx q).length:Int)=_;rw[aqI,if_pos hqf];omega⟩⟩
    ·exact⟨_,_,TV (by dsimp only;omega) (by dsimp only;omega),rfl,rfl,.inr ⟨o_,rfl⟩⟩
   rw[hs]at hd hI2 hw2;dsimp only at hI2 hw2;have e0:=nZ hI2;have e1:=G6 hI2;have e2:=yw hI2 o_ (r:=0) o_;obtain⟨z2,hz2⟩:∃z:{p:Nat×Nat×Wy//p.1<=L.length/\p.2.1<=2*p.1/\uM p.2.1 p.2.2/\p.2.2.ns.length=n},z.1=(j+1,k+1+1,W2):=⟨⟨(j+1,k+1+1,W2),by dsimp only;omega,by dsimp only;omega,hI2,hw2⟩,rfl⟩;unfold yK at e2;rw[show((0:Nat):Int)=0 from rfl]at e2;rw[h1]at e1;rw[h2]at e2;clear hI hI' hI2 h1 h2 hs hll hz1 z1 hw hw' hw2;generalize Nj w'.hb=S at*;generalize(w'.nd 0).up=up at*;generalize(w'.nd 0).clk=ck at*;generalize(w'.nd 0).sent=sn at*;generalize(w'.nd 0).held=hd' at*;generalize(w'.nd 0).log=lg at*;obtain⟨ck0,ck1,ck2,ck3,ck4⟩:=ck;obtain⟨B2,hB2⟩:∃B,ji (k+1+1) W2=B:=⟨_,rfl⟩;rw[hB2]at hd e0 e1 e2;generalize ji (k+1) w'=B1 at*;generalize ji k w=B0 at*;generalize(w'.fl.length:Int)=F at*;dsimp only[Stp.av,Stp.cs,Nv]at hd;cases up;all_goals
    dsimp only[rW,cond_true,cond_false]at c2 c3 e2;repeat' ((conv=>whnf);first|refine K1.u ?_|refine K1.P1 hft ?_|refine K1.C 1 [(0,_)] (hst) rfl ?_|refine K1.C 1 [(0,_)] (c0) rfl ?_|refine K1.C 1 [(0,_)] (c1) rfl ?_|refine K1.C 1 [(0,_)] (c2) rfl ?_|refine K1.o (id:=10) (nN [0,1,2,3,4,5,6] [(7,some [6,4]),(8,some [6,4])]) ?_|refine K1.z ?_|fail)
    all_goals(conv=>whnf)
    rw[hq];rcases h3 with⟨hqf,rfl,hf2⟩|⟨hqf,rfl⟩;all_goals
     try rw[hf2]at e0
     repeat' ((conv=>whnf);first|refine K1.u ?_|refine K1.C 1 [(0,_)] (hd) rfl ?_|refine K1.C 1 [(0,_)] (e0) rfl ?_|refine K1.C 1 [(0,_)] (e1) rfl ?_|refine K1.C 1 [(0,_)] (e2) rfl ?_|refine K1.P1 c3 ?_|refine Ub.mk S.vs S.vs (S=S) rfl rfl (YJ _ _) ?_|refine oC.yes rfl ?_|refine K1.o (id:=18) (nN [0,1,2,3,4,5,6,7,8,9,10,11,12,13,14,15,16,17,18,20,21] ((19,some [5,4,1,8,11,16])::nN [22,23,24,25,26,28] ((27,some [5,4,1,8,11,16,22,21])::nN [29,30,31,32,33,34] []))) ?_|refine fO.lex 70 bQ (dM bQ _) fG (by kernel_rfl) ?_|refine Both.mk ?_ ?_|exact LeC.mk rfl rfl rfl rfl rfl|fail)
     all_goals(conv=>whnf)
     all_goals first
      |exact⟨z2,_,dO.mk' [] _ _ _ rfl ⟨aY.int (by rw[hz2];rfl),au,au,au,au,trivial⟩ ⟨⟨_,rfl,by rw[hz2,<-hB2];exact dK.refl _⟩,ay rfl,trivial⟩ rfl,by rw[hz2];show L.length-(j+1)<L.length-j;omega⟩
      |fail
  ·repeat' ((conv=>whnf);first|refine K1.u ?_|refine K1.P1 hft ?_|refine K1.C 1 [(0,_)] (hst) rfl ?_|refine K1.o (id:=10) (nN [0,1,2,3,4,5,6] [(7,some [6,4]),(8,some [6,4])]) ?_|fail)
   all_goals(conv=>whnf)
   all_goals exact⟨z1,_,dO.mk' [] _ _ _ rfl ⟨aY.int (by rw[hz1];rfl),au,au,au,au,trivial⟩ ⟨⟨_,rfl,by rw[hz1];exact dK.refl _⟩,ay rfl,trivial⟩ rfl,by rw[hz1];show L.length-(j+1)<L.length-j;omega⟩
 ·repeat' ((conv=>whnf);first|refine K1.u ?_|refine aU.fF ?_|fail)
  all_goals(conv=>whnf)
  all_goals exact bn.mk (au)
end Go.Proofs.YtifjccndenojlaaGreat
