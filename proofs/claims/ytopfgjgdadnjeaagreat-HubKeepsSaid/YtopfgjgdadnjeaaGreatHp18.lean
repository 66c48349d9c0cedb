/-
  Contracts of the walk:Ref7,RefT,RefU.
-/
import Derived.Test.YtopfgjgdadnjeaaGreatHp17
import Derived.Test.YtopfgjgdadnjeaaGreatHp9
import Derived.Test.YtopfgjgdadnjeaaGreatHp10
set_option maxHeartbeats 16000000
set_option maxRecDepth 100000
set_option linter.unusedVariables false
set_option linter.unusedSimpArgs false
namespace Go.Proofs.YtopfgjgdadnjeaaGreat
open Go.RowKit
variable{e:Ev}{c hi lo r sz:Int}{l:List Ev}{bs:List UInt8}{j:Nat}{s s':Sq}
theorem oz(n:Int):aC Tryz.prog 64 [.v (.int .i64 n)] (.v (.bool (qp n))) []:=by
 refine K1.E 0x5 Tryz.func64 ?_;repeat' ((conv=>whnf);first|refine K1.u ?_|refine aO.dW ?_|refine K1.z ?_|refine K1.y (λ _=>?_) (λ _=>?_)|fail)
 all_goals(conv=>whnf)
 all_goals(refine aW.mk (bI.of ?_))
 all_goals simp[qp,iJ, *]
theorem GR(c0 c1 c2 c3 c4:Int):aC Tryz.prog 65 [.agg [.v (.int .i64 c0),.v (.int .i64 c1),.v (.int .i64 c2),.v (.int .i64 c3),.v (.int .i64 c4)]] (.v (.bool (BG ⟨c0,c1,c2,c3,c4⟩))) []:=by
 refine K1.E 0x102f Tryz.func65 ?_;repeat' ((conv=>whnf);first|refine K1.u ?_|refine K1.P1 (oz _) ?_|refine aK.jA 3 6 rfl ?_|refine aO.dW ?_|refine K1.z ?_|refine K1.y (λ _=>?_) (λ _=>?_)|fail)
 all_goals(conv=>whnf)
 all_goals(refine aW.mk (bI.of ?_))
 all_goals simp[BG, *]
theorem Gm(l:List Ev)(hl:l.length<=140737488355328):aC Tryz.prog 63 [.sl 12 l.length true (jH l)] (.v (.bool (l.all (λ e=>decide (fH e=0))&&decide (l.length<=20)))) []:=by
 refine K1.E 0x808d Tryz.func63 ?_;repeat' ((conv=>whnf);first|refine K1.u ?_|refine aO.dW ?_|refine K1.z ?_|refine K1.y (λ _=>?_) (λ _=>?_)|fail)
 conv=>whnf
 refine aK.mk {j:Nat//j<=l.length/\ ∀i,i<j->fH (l.getD i default)=0} (λ j=>⟨[(0,.sl 12 l.length true (jH l)),(3,.v (.int .i64 (j.1:Int)))],[],[],4⟩) (λ j=>l.length-j.1) ⟨0,Nat.zero_le _,λ i h=>absurd h (Nat.not_lt_zero i)⟩ _
  (iw.mk' [] _ _ _ rfl ⟨aP,bI.int rfl,trivial⟩ trivial rfl) ?_
 rintro⟨j,hj,hall⟩;dsimp only;repeat' ((conv=>whnf);first|refine K1.u ?_|refine K1.P1 (Cb (l.getD (j:Int).toNat default)) ?_|refine aO.dW ?_|refine K1.z ?_|refine K1.y (λ _=>?_) (λ _=>?_)|fail)
 all_goals(conv=>whnf)
 all_goals first
  |(refine⟨⟨j+1,by omega,λ i hi=>?_⟩,_,iw.mk' [] _ _ _ rfl ⟨aP,bI.int rfl,trivial⟩ trivial rfl,by show l.length-(j+1)<l.length-j;omega⟩
    rcases Nat.lt_or_ge i j with h|h
    ·exact hall i h
    ·rw[show i=j by omega];exact ‹fH (l.getD (j:Int).toNat default)=0›)
  |(refine aW.mk (bI.of ?_)
    have hno:=O9 (l:=l) (j:=j) (by omega) ‹¬fH (l.getD (j:Int).toNat default)=0›;simp[hno])
  |(refine aW.mk (bI.of ?_)
    have hyes:=JI (l:=l) (λ i hi=>hall i (by omega));rw[hyes,Bool.true_and];first
     |rw[decide_eq_true (show l.length<=20 by omega)]
     |rw[decide_eq_false (show¬l.length<=20 by omega)])
theorem Uw(l:List Ev)(r:Int):l.all (pU 1 r)=(l.all (λ e=>decide (fH e=0))&&l.all (λ e=>decide (e.r=r))):=by
 induction l with
 |nil=>rfl
 |cons e l ih=>
  simp only[List.all_cons,ih,pU];cases decide (fH e=0)<;>cases decide (e.r=r)<;>simp
theorem Ux(l:List Ev){k:Int}(hk:k≠1)(r:Int):l.all (pU k r)=l.all (λ e=>decide (fH e=0)):=by
 induction l with
 |nil=>rfl
 |cons e l ih=>simp only[List.all_cons,ih,pU,decide_eq_true hk,Bool.true_or,Bool.and_true]
theorem ZH(hj:j<l.length)(h:¬ (l.getD j default).r=r):l.all (λ e=>decide (e.r=r))=false:=JL (p:=λ e=>decide (e.r=r)) hj (decide_eq_false h)
theorem XV(h:∀i,i<l.length->(l.getD i default).r=r):l.all (λ e=>decide (e.r=r))=true:=Mc (p:=λ e=>decide (e.r=r)) λ i hi=>decide_eq_true (h i hi)
theorem Gn{c:dD}(h:¬c=aJ):Ah c=false:=by
 cases hc:Ah c with
 |false=>rfl
 |true=>exact absurd ((iH c).1 hc) h
theorem rO(x:Rc)(hl:x.ev.length<=140737488355328):aC Tryz.prog 33 [x.av] (.v (.bool (iC x))) []:=by
 obtain⟨k,r,u,⟨c0,c1,c2,c3,c4⟩,ev⟩:=x;dsimp only at hl;have hevs:=Gm ev hl;obtain⟨A,hA⟩:∃A,A=ev.all (λ e=>decide (fH e=0)):=⟨_,rfl⟩;rw[<-hA]at hevs;obtain⟨B,hB⟩:∃B,B=(A&&decide (ev.length<=20)):=⟨_,rfl⟩;rw[<-hB]at hevs;have ok0:qp 0=true:=rfl;rcases(show k=1\/k=2\/(k=3\/k=5)\/k=4\/ ¬ (1<=k/\k<=5) by omega)with rfl|rfl|hk|rfl|hk
 ·have hm:iC ⟨1,r,u,⟨c0,c1,c2,c3,c4⟩,ev⟩=(decide (0<=r)&&decide (r<5)&&decide (u=0)&&Ah ⟨c0,c1,c2,c3,c4⟩&&B&&decide (ev.length≠0)&&ev.all (λ e=>decide (e.r=r))):=by
   rw[Bool.eq_iff_iff];simp only[iC,Uw,<-hA,hB,Bool.and_eq_true,Bool.or_eq_true,decide_eq_true_eq,KE,vC,vF,uY,iH];constructor
   ·intro h;simp at h⊢;grind
   ·intro h;obtain⟨⟨⟨⟨⟨⟨h1,h2⟩,h3⟩,h4⟩,h5⟩,h6⟩,h7⟩:=h;simp only[aJ,dD.mk.injEq]at h4;obtain⟨rfl,rfl,rfl,rfl,rfl⟩:=h4;simp[h1,h2,h3,h5,h6,h7,qp,BG,aJ,iJ]
  rw[hm];clear hm hB hA;dsimp only[Rc.av,Rc.cs];refine K1.E 0x200080000100210c101f Tryz.func33 ?_;repeat' ((conv=>whnf);first|refine K1.u ?_|refine K1.P1 (oz _) ?_|refine K1.P1 hevs ?_|refine GZ.mk (dD.vs ⟨c0,c1,c2,c3,c4⟩) (dD.vs aJ) (dD.mk c0 c1 c2 c3 c4=aJ) rfl rfl (mZ _ _) ?_|refine aO.dW ?_|refine K1.z ?_|refine K1.y (λ _=>?_) (λ _=>?_)|fail)
  all_goals(conv=>whnf)
  all_goals first
   |(refine aW.mk (bI.of ?_);simp;omega)
   |refine aK.mk {j:Nat//j<=ev.length/\ ∀i,i<j->(ev.getD i default).r=r} (λ j=>⟨[(1,.box 0 0),(3,.v (.bool _)),(4,.v (.int .i64 (j.1:Int)))],
     [(0,.box 52 [.v (.int .i64 1),.v (.int .i64 r),.v (.int .i64 u),.v (.int .i64 c0),.v (.int .i64 c1),.v (.int .i64 c2),.v (.int .i64 c3),.v (.int .i64 c4),.sl 12 ev.length true (jH ev)])],[],4⟩) (λ j=>ev.length-j.1) ⟨0,Nat.zero_le _,λ i h=>absurd h (Nat.not_lt_zero i)⟩ _
     (iw.mk' [] _ _ _ rfl ⟨aP,aP,bI.int rfl,trivial⟩ ⟨aY rfl,trivial⟩ rfl) ?_
  all_goals(rintro⟨j,hj,hall⟩;dsimp only)
  all_goals repeat' ((conv=>whnf);first|refine K1.u ?_|refine K1.P1 hevs ?_|refine aO.dW ?_|refine K1.z ?_|refine K1.y (λ _=>?_) (λ _=>?_)|fail)
  all_goals(conv=>whnf)
  all_goals first
   |(refine⟨⟨j+1,by omega,λ i hi=>?_⟩,_,iw.mk' [] _ _ _ rfl ⟨aP,aP,bI.int rfl,trivial⟩ ⟨aY rfl,trivial⟩ rfl,by show ev.length-(j+1)<ev.length-j;omega⟩
     rcases Nat.lt_or_ge i j with h|h
     ·exact hall i h
     ·rw[show i=j by omega];exact ‹(ev.getD (j:Int).toNat default).r=r›)
   |(refine aW.mk (bI.of ?_)
     rw[ZH (l:=ev) (j:=j) (r:=r) (by omega) ‹¬ (ev.getD (j:Int).toNat default).r=r›,Bool.and_false])
   |(refine aW.mk (bI.of ?_)
     rw[XV (l:=ev) (r:=r) (λ i hi=>hall i (by omega)),Bool.and_true];first
       |(rw[Gn ‹¬dD.mk c0 c1 c2 c3 c4=aJ›];simp;done)
       |(rw[(iH _).2 ‹dD.mk c0 c1 c2 c3 c4=aJ›];simp[-List.length_eq_zero_iff, *]<;>omega)
       |(simp[-List.length_eq_zero_iff, *];done)
       |(simp[-List.length_eq_zero_iff, *];omega))
 ·have hm:iC ⟨2,r,u,⟨c0,c1,c2,c3,c4⟩,ev⟩=(decide (0<=r)&&decide (r<5)&&qp u&&Ah ⟨c0,c1,c2,c3,c4⟩&&decide (ev.length=0)):=by
   rw[Bool.eq_iff_iff];simp only[iC,Bool.and_eq_true,Bool.or_eq_true,decide_eq_true_eq,KE,vC,vF,uY,iH];constructor
   ·intro h;simp at h⊢;grind
   ·intro h;obtain⟨⟨⟨⟨h1,h2⟩,h3⟩,h4⟩,h5⟩:=h;have h5:=List.eq_nil_of_length_eq_zero h5;subst h5;simp only[aJ,dD.mk.injEq]at h4;obtain⟨rfl,rfl,rfl,rfl,rfl⟩:=h4;simp[h1,h2,h3,BG,aJ,ok0]
  rw[hm];clear hm hB hA;dsimp only[Rc.av,Rc.cs];refine K1.E 0x200080000100210c101f Tryz.func33 ?_;repeat' ((conv=>whnf);first|refine K1.u ?_|refine K1.P1 (oz _) ?_|refine GZ.mk (dD.vs ⟨c0,c1,c2,c3,c4⟩) (dD.vs aJ) (dD.mk c0 c1 c2 c3 c4=aJ) rfl rfl (mZ _ _) ?_|refine aO.dW ?_|refine K1.z ?_|refine K1.y (λ _=>?_) (λ _=>?_)|fail)
  all_goals(conv=>whnf)
  all_goals(refine aW.mk (bI.of ?_))
  all_goals first
   |(simp[-List.length_eq_zero_iff, *]<;>omega;done)
   |(rw[Gn ‹¬dD.mk c0 c1 c2 c3 c4=aJ›];simp;done)
   |(rw[(iH _).2 ‹dD.mk c0 c1 c2 c3 c4=aJ›];simp[-List.length_eq_zero_iff, *]<;>omega)
 ·have hm:iC ⟨k,r,u,⟨c0,c1,c2,c3,c4⟩,ev⟩=(decide (0<=r)&&decide (r<5)&&decide (u=0)&&BG ⟨c0,c1,c2,c3,c4⟩&&decide (ev.length=0)):=by
   rw[Bool.eq_iff_iff];simp only[iC,Bool.and_eq_true,Bool.or_eq_true,decide_eq_true_eq,KE,vC,vF,uY,iH];constructor
   ·intro h;rcases hk with rfl|rfl<;>(simp at h⊢;grind)
   ·intro h;obtain⟨⟨⟨⟨h1,h2⟩,h3⟩,h4⟩,h5⟩:=h;have h5:=List.eq_nil_of_length_eq_zero h5;subst h5;rcases hk with rfl|rfl<;>simp[h1,h2,h3,h4,ok0]
  rw[hm];clear hm hB hA;have ac0:=GR c0 c1 c2 c3 c4;dsimp only[Rc.av,Rc.cs];rcases hk with rfl|rfl;all_goals
   refine K1.E 0x200080000100210c101f Tryz.func33 ?_;repeat' ((conv=>whnf);first|refine K1.u ?_|refine K1.P1 (oz _) ?_|refine K1.P1 ac0 ?_|refine GZ.mk (dD.vs ⟨c0,c1,c2,c3,c4⟩) (dD.vs aJ) (dD.mk c0 c1 c2 c3 c4=aJ) rfl rfl (mZ _ _) ?_|refine aO.dW ?_|refine K1.z ?_|refine K1.y (λ _=>?_) (λ _=>?_)|fail)
   all_goals(conv=>whnf)
   all_goals(refine aW.mk (bI.of ?_))
   all_goals first
    |(simp[-List.length_eq_zero_iff, *]<;>omega;done)
    |(simp only[‹BG _=_›];simp[-List.length_eq_zero_iff]<;>omega)
 ·have hm:iC ⟨4,r,u,⟨c0,c1,c2,c3,c4⟩,ev⟩=(decide (0<=r)&&decide (r<5)&&decide (u=0)&&Ah ⟨c0,c1,c2,c3,c4⟩&&B):=by
   rw[Bool.eq_iff_iff];simp only[iC,Ux ev (show(4:Int)≠1 by decide),<-hA,hB,Bool.and_eq_true,Bool.or_eq_true,decide_eq_true_eq,KE,vC,vF,uY,iH];constructor
   ·intro h;simp at h⊢;grind
   ·intro h;obtain⟨⟨⟨⟨h1,h2⟩,h3⟩,h4⟩,h5⟩:=h;simp only[aJ,dD.mk.injEq]at h4;obtain⟨rfl,rfl,rfl,rfl,rfl⟩:=h4;simp[h1,h2,h3,h5,qp,BG,aJ,iJ]
  rw[hm];clear hm hB hA;dsimp only[Rc.av,Rc.cs];refine K1.E 0x200080000100210c101f Tryz.func33 ?_;repeat' ((conv=>whnf);first|refine K1.u ?_|refine K1.P1 (oz _) ?_|refine K1.P1 hevs ?_|refine GZ.mk (dD.vs ⟨c0,c1,c2,c3,c4⟩) (dD.vs aJ) (dD.mk c0 c1 c2 c3 c4=aJ) rfl rfl (mZ _ _) ?_|refine aO.dW ?_|refine K1.z ?_|refine K1.y (λ _=>?_) (λ _=>?_)|fail)
  all_goals(conv=>whnf)
  all_goals(refine aW.mk (bI.of ?_))
  all_goals first
   |(simp[-List.length_eq_zero_iff, *]<;>omega;done)
   |(rw[Gn ‹¬dD.mk c0 c1 c2 c3 c4=aJ›];simp;done)
   |(rw[(iH _).2 ‹dD.mk c0 c1 c2 c3 c4=aJ›];simp[-List.length_eq_zero_iff, *]<;>omega)
 ·have hm:iC ⟨k,r,u,⟨c0,c1,c2,c3,c4⟩,ev⟩=false:=by
   simp only[iC,KE,decide_eq_false hk,Bool.false_and]
  rw[hm];clear hm hB hA;dsimp only[Rc.av,Rc.cs];refine K1.E 0x200080000100210c101f Tryz.func33 ?_;repeat' ((conv=>whnf);first|refine K1.u ?_|refine K1.P1 (oz _) ?_|refine GZ.mk (dD.vs ⟨c0,c1,c2,c3,c4⟩) (dD.vs aJ) (dD.mk c0 c1 c2 c3 c4=aJ) rfl rfl (mZ _ _) ?_|refine aO.dW ?_|refine K1.z ?_|refine K1.y (λ _=>?_) (λ _=>?_)|fail)
  all_goals(conv=>whnf)
  all_goals exact aW.mk (aP)
theorem IU(x:Rc)(hl:x.ev.length<=140737488355328)(h:iC x=false):aC Tryz.prog 13 [x.av] (.bJ [.v (.slice none 0 0),.v (.int .i64 1)]) []:=by
 have hm:=rO x hl;rw[h]at hm;refine K1.E 0x8808001001008ff Tryz.func13 ?_;repeat' ((conv=>whnf);first|refine K1.u ?_|refine K1.P1 hm ?_|refine aO.dW ?_|refine K1.z ?_|refine K1.y (λ _=>?_) (λ _=>?_)|fail)
 conv=>whnf
 exact aW.mk (aP)
theorem NJ(d:Nat)(x:Rc)(h:iC x=true)(hk:x.k=1\/x.k=4):
  aC Tryz.prog 13 [x.av] (.bJ [.own d,.v (.int .i64 0)]) [(d,.row 5 1 (bg x).length true (aG (bg x)))]:=by
 have m:=iP h;have hm:=rO x (by have:=m.l;omega);rw[h]at hm;obtain⟨k,r,u,c,ev⟩:=x;obtain⟨mk,mr,mu,nY,nH,me0,mc,ml,m1,xX⟩:=m;dsimp only at mk mr mu ml mc nY nH me0 xX m1 hk;have uj:=wF xX;have hat:∀j,j<ev.length->fH (ev.getD j default)=0:=λ j hj=>BM uj hj;have WI:∀j,j<ev.length->(dK (ev.getD j default)).length<=44:=λ j hj=>kL (hat j hj);have hlen:∀j,(dJ (ev.take j)).length<=44*j:=λ j=>Nat.le_trans (oM λ e he=>lM uj e (List.mem_of_mem_take he)) (Nat.mul_le_mul_left _ (by rw[List.length_take];omega));obtain⟨kk,hkk⟩:∃kk,kk=k:=⟨_,rfl⟩;have hmore:∀j,(([byteOf' kk,byteOf' r]++[byteOf' (ev.length:Int)])++dJ (ev.take j)).length=3+(dJ (ev.take j)).length:=λ j=>by simp;omega
 rcases hk with rfl|rfl;all_goals
  dsimp only[Rc.av,Rc.cs]at hm⊢;refine K1.E 0x8808001001008ff Tryz.func13 ?_;repeat' ((conv=>whnf);first|refine K1.u ?_|refine K1.P1 hm ?_|refine K1.z ?_|refine K1.y (λ _=>?_) (λ _=>?_)|fail)
  conv=>whnf
  refine aK.mk {j:Nat//j<=ev.length} (λ j=>⟨[(1,.box 0 0),(4,.own 90),(6,.v (.int .i64 (j.1:Int)))],
   [(0,.box 52 [.v (.int .i64 kk),.v (.int .i64 r),.v (.int .i64 u),.v (.int .i64 c.c0),.v (.int .i64 c.c1),.v (.int .i64 c.c2),.v (.int .i64 c.c3),.v (.int .i64 c.c4),.sl 12 ev.length true (jH ev)]),(90,.row 5 1 (([byteOf' kk,byteOf' r]++[byteOf' (ev.length:Int)])++dJ (ev.take j.1)).length true (aG (([byteOf' kk,byteOf' r]++[byteOf' (ev.length:Int)])++dJ (ev.take j.1))))],[],91⟩) (λ j=>ev.length-j.1) ⟨0,Nat.zero_le _⟩ _
   (iw.mk' [(3,90)] _ _ _ rfl ⟨aP,aP,bI.int rfl,trivial⟩ ⟨⟨_,rfl,by rw[hkk];exact fP.refl _⟩,⟨_,rfl,fP.lH (aS.app (aS.two (by omega) (by omega) (by omega) (by omega)) (aS.one (by omega) (by omega)) rfl) (by simp<;>omega) (by simp[dJ,hkk])⟩,trivial⟩ rfl) ?_
  rintro⟨j,hj⟩;dsimp only;have WJ:=WI (j:Int).toNat;have hmj:=hmore j;have hlj:=hlen j;have hsl:=bP (ak (([byteOf' kk,byteOf' r]++[byteOf' (ev.length:Int)])++dJ (ev.take j)).length++(([byteOf' kk,byteOf' r]++[byteOf' (ev.length:Int)])++dJ (ev.take j)));have hvs:(ak (([byteOf' kk,byteOf' r]++[byteOf' (ev.length:Int)])++dJ (ev.take j)).length).length<=10:=aX 9 _;repeat' ((conv=>whnf);first|refine K1.u ?_|refine K1.F1 (Gi _ (ev.getD (j:Int).toNat default) (hat _ (by omega))) ?_ rfl rfl|refine K1.F1 (dM _ (([byteOf' kk,byteOf' r]++[byteOf' (ev.length:Int)])++dJ (ev.take j)).length (by omega)) ?_ rfl rfl|refine K1.F1 (jU _ (ak (([byteOf' kk,byteOf' r]++[byteOf' (ev.length:Int)])++dJ (ev.take j)).length++(([byteOf' kk,byteOf' r]++[byteOf' (ev.length:Int)])++dJ (ev.take j))) (aS.app (aS.bytes _) (aS.bytes _) rfl) List.length_append.symm (by rw[List.length_append];omega)) ?_ rfl rfl|refine K1.z ?_|refine K1.y (λ _=>?_) (λ _=>?_)|fail)
  ·conv=>whnf
   refine⟨⟨j+1,by omega⟩,_,iw.mk' [(92,90)] _ _ _ rfl ⟨aP,aP,bI.int rfl,trivial⟩ ⟨aY rfl,⟨_,rfl,fP.lH (aS.app (aS.bytes _) (aS.bytes _) rfl) List.length_append.symm ?_⟩,trivial⟩ rfl,by show ev.length-(j+1)<ev.length-j;omega⟩;rw[nX (by omega),List.append_assoc];rfl
  ·conv=>whnf
   refine aO.o8 d rfl rfl ?_ (aP);refine fP.lH (aS.bytes _) rfl ?_;rw[List.take_of_length_le (by omega)];unfold bg fK;simp[hkk,uY,vC,vF,byteOf,byteOf']
theorem XW(d:Nat)(x:Rc)(h:iC x=true)(hk:x.k=2):
  aC Tryz.prog 13 [x.av] (.bJ [.own d,.v (.int .i64 0)]) [(d,.row 5 1 (bg x).length true (aG (bg x)))]:=by
 have m:=iP h;have hm:=rO x (by have:=m.l;omega);rw[h]at hm;obtain⟨k,r,u,c,ev⟩:=x;obtain⟨mk,mr,mu,nY,nH,me0,mc,ml,m1,xX⟩:=m;dsimp only at mk mr mu ml mc nY nH me0 xX m1 hk;obtain⟨kk,hkk⟩:∃kk,kk=k:=⟨_,rfl⟩;obtain⟨un,rfl,hun⟩:=dR mu;have hvu:(ak un).length<=10:=aX 9 _;have hmore:([byteOf' kk,byteOf' r]++ak un).length=2+(ak un).length:=by simp;omega
 have hsl:=bP (ak (2+(ak un).length)++([byteOf' kk,byteOf' r]++ak un));have hvs:(ak (2+(ak un).length)).length<=10:=aX 9 _;subst hk;have hP:aS (kJ 2 (chunk 1 [.v (.int .u8 2),.v (.int .u8 r)]) (aG (ak un))) ([byteOf' kk,byteOf' r]++ak un):=hkk▸aS.app (aS.two (by omega) (by omega) (by omega) (by omega)) (aS.bytes _) rfl;have hn:2+(ak un).length=([byteOf' kk,byteOf' r]++ak un).length:=by omega
 dsimp only[Rc.av,Rc.cs]at hm⊢;refine K1.E 0x8808001001008ff Tryz.func13 ?_;repeat' ((conv=>whnf);first|refine K1.u ?_|refine K1.P1 hm ?_|refine K1.F1 (dM _ un (by omega)) ?_ rfl rfl|refine K1.F1 (dM _ (2+(ak un).length) (by omega)) ?_ rfl rfl|refine K1.F1 (jU _ (ak (2+(ak un).length)++([byteOf' kk,byteOf' r]++ak un)) (aS.app (aS.bytes _) hP rfl) (by rw[List.length_append,<-hn]) (by rw[List.length_append,<-hn];omega)) ?_ rfl rfl|refine K1.z ?_|refine K1.y (λ _=>?_) (λ _=>?_)|fail)
 conv=>whnf
 refine aO.o8 d rfl rfl ?_ (aP);refine fP.lH (aS.bytes _) rfl ?_;rw[hn];unfold bg fK;simp[hkk,uY,vC,vF,byteOf,byteOf',gu]
theorem NK(d:Nat)(x:Rc)(h:iC x=true)(hk:x.k=3\/x.k=5):
  aC Tryz.prog 13 [x.av] (.bJ [.own d,.v (.int .i64 0)]) [(d,.row 5 1 (bg x).length true (aG (bg x)))]:=by
 have m:=iP h;have hm:=rO x (by have:=m.l;omega);rw[h]at hm;obtain⟨k,r,u,⟨c0,c1,c2,c3,c4⟩,ev⟩:=x;obtain⟨mk,mr,mu,nY,nH,me0,⟨m0,m1,m2,m3,m4⟩,ml,Aq,xX⟩:=m;dsimp only at mk mr mu ml m0 m1 m2 m3 m4 nY nH me0 xX Aq hk;obtain⟨kk,hkk⟩:∃kk,kk=k:=⟨_,rfl⟩;obtain⟨c0,rfl,hc0⟩:=dR m0;obtain⟨c1,rfl,hc1⟩:=dR m1;obtain⟨c2,rfl,hc2⟩:=dR m2;obtain⟨c3,rfl,hc3⟩:=dR m3;obtain⟨c4,rfl,hc4⟩:=dR m4;have q0:(ak c0).length<=10:=aX 9 _;have q1:(ak c1).length<=10:=aX 9 _;have q2:(ak c2).length<=10:=aX 9 _;have q3:(ak c3).length<=10:=aX 9 _;have q4:(ak c4).length<=10:=aX 9 _;obtain⟨n,hn0⟩:∃n,n=2+(ak c0).length+(ak c1).length+(ak c2).length+(ak c3).length+(ak c4).length:=⟨_,rfl⟩;have hn:n=([byteOf' kk,byteOf' r]++ak c0++ak c1++ak c2++ak c3++ak c4).length:=by rw[hn0];simp;omega
 have hvs:(ak (2+(ak c0).length+(ak c1).length+(ak c2).length+(ak c3).length+(ak c4).length)).length<=10:=aX 9 _;have hsl:=bP (ak (2+(ak c0).length+(ak c1).length+(ak c2).length+(ak c3).length+(ak c4).length)++([byteOf' kk,byteOf' r]++ak c0++ak c1++ak c2++ak c3++ak c4));rcases hk with rfl|rfl;all_goals
  have hP:=aS.app (aS.app (aS.app (aS.app (aS.app (aS.two (x:=kk) (y:=r) (by omega) (by omega) (by omega) (by omega)) (aS.bytes (ak c0)) rfl) (aS.bytes (ak c1)) (n:=2+(ak c0).length) (by simp<;>omega)) (aS.bytes (ak c2)) (n:=2+(ak c0).length+(ak c1).length) (by simp<;>omega)) (aS.bytes (ak c3)) (n:=2+(ak c0).length+(ak c1).length+(ak c2).length) (by simp<;>omega)) (aS.bytes (ak c4)) (n:=2+(ak c0).length+(ak c1).length+(ak c2).length+(ak c3).length) (by simp<;>omega);rw[hkk]at hP hn;dsimp only[Rc.av,Rc.cs]at hm⊢;refine K1.E 0x8808001001008ff Tryz.func13 ?_;repeat' ((conv=>whnf);first|refine K1.u ?_|refine K1.P1 hm ?_|refine K1.F1 (dM _ c0 (by omega)) ?_ rfl rfl|refine K1.F1 (dM _ c1 (by omega)) ?_ rfl rfl|refine K1.F1 (dM _ c2 (by omega)) ?_ rfl rfl|refine K1.F1 (dM _ c3 (by omega)) ?_ rfl rfl|refine K1.F1 (dM _ c4 (by omega)) ?_ rfl rfl|refine K1.F1 (dM _ (2+(ak c0).length+(ak c1).length+(ak c2).length+(ak c3).length+(ak c4).length) (by omega)) ?_ rfl rfl|refine K1.F1 (jU _ (ak (2+(ak c0).length+(ak c1).length+(ak c2).length+(ak c3).length+(ak c4).length)++([byteOf' _,byteOf' r]++ak c0++ak c1++ak c2++ak c3++ak c4)) (aS.app (aS.bytes _) hP rfl) (by rw[List.length_append,<-hn,hn0]) (by rw[List.length_append,<-hn,hn0];omega)) ?_ rfl rfl|refine aK.jA 5 6 rfl ?_|refine K1.z ?_|refine K1.y (λ _=>?_) (λ _=>?_)|fail)
  conv=>whnf
  refine aO.o8 d rfl rfl ?_ (aP);refine fP.lH (aS.bytes _) rfl ?_;rw[<-hn0,hn];unfold bg fK;simp[uY,vC,vF,byteOf,byteOf',gu,vw]
theorem qJ(d:Nat)(x:Rc)(h:iC x=true):
  aC Tryz.prog 13 [x.av] (.bJ [.own d,.v (.int .i64 0)]) [(d,.row 5 1 (bg x).length true (aG (bg x)))]:=by
 have m:=(iP h).k;rcases(show x.k=1\/x.k=2\/x.k=3\/x.k=4\/x.k=5 by omega)with hk|hk|hk|hk|hk
 ·exact NJ d x h (.inl hk)
 ·exact XW d x h hk
 ·exact NK d x h (.inl hk)
 ·exact NJ d x h (.inr hk)
 ·exact NK d x h (.inr hk)
def lead:List UInt8->Nat
 |[]=>0
 |c::t=>if 128<=c.toNat then lead t+1 else 0
def zx(b:List UInt8):Nat->Nat->Nat
 |0,n=>n
 |k+1,n=>zx b k ((n*128+(b.getD k default).toNat%128)%18446744073709551616)
def jf(b:List UInt8):Nat×Nat×Int:=
 if lead (b.take 10)=(b.take 10).length then(if(b.take 10).length=10 then(0,0,3)else(0,0,2))
 else if ak (zx b (lead (b.take 10)+1) 0)=b.take (lead (b.take 10)+1)then(zx b (lead (b.take 10)+1) 0,lead (b.take 10)+1,0)else(0,0,3)
theorem J4:∀l:List UInt8,lead l<=l.length
 |[]=>Nat.le_refl _
 |c::t=>by
  have:=J4 t;unfold lead;split<;>simp<;>omega
theorem Rq:∀(l:List UInt8)(i:Nat),i<lead l->128<=(l.getD i default).toNat
 |[],i,h=>absurd h (Nat.not_lt_zero i)
 |c::t,i,h=>by
  unfold lead at h;split at h
  ·rename_i hc;cases i with
   |zero=>exact hc
   |succ i=>exact Rq t i (by omega)
  ·omega
theorem NM:∀(l:List UInt8),lead l<l.length->(l.getD (lead l) default).toNat<128
 |[],h=>absurd h (Nat.lt_irrefl 0)
 |c::t,h=>by
  unfold lead at h⊢;split
  ·rename_i hc;rw[if_pos hc]at h;exact NM t (by simpa using h)
  ·show c.toNat<128;omega
theorem ZI{l:List UInt8}{k:Nat}(hk:k<=l.length)(h:∀i,i<k->128<=(l.getD i default).toNat)(he:k=l.length\/(l.getD k default).toNat<128):lead l=k:=by
 have h1:=J4 l;rcases Nat.lt_trichotomy (lead l) k with h2|h2|h2
 ·have:=h _ h2;have:=NM l (by omega);omega
 ·exact h2
 ·have:=Rq l k h2;omega
theorem getD_take'{l:List UInt8}{i:Nat}(h:j<i):(l.take i).getD j default=l.getD j default:=by
 rw[List.getD,List.getD,List.getElem?_take_of_lt h]
theorem J5{a b:List UInt8}(h:a≠b):¬ (⟨a.toArray⟩:ByteArray)=⟨b.toArray⟩:=λ e=>h (by
 have:=congrArg (λ s=>s.data.toList) e;simpa using this)
theorem w64(n:Int):IntKind.u64.wrap n=n%18446744073709551616:=by simp[IntKind.wrap,IntKind.bits,IntKind.signed]
theorem ZJ(b:List UInt8)(hl:b.length<=1000000000):aC Tryz.prog 88 [.sl 1 b.length true (aG b)] (.bJ [.v (.int .u64 ((jf b).1:Int)),.v (.int .i64 ((jf b).2.1:Int)),.v (.int .i64 (jf b).2.2)]) []:=by
 obtain⟨M,hM⟩:∃M,M=(b.take 10).length:=⟨_,rfl⟩;have hM2:M=if 10<b.length then 10 else b.length:=by rw[hM,List.length_take];split<;>omega
 have hM3:M<=10/\M<=b.length:=by rw[hM2];split<;>omega
 have hM4:M=10\/M=b.length:=by rw[hM2];split<;>omega
 have hget:∀i,i<M->(b.take 10).getD i default=b.getD i default:=λ i hi=>getD_take' (by omega);refine K1.E 0x80000942001fd Tryz.func88 ?_;repeat' ((conv=>whnf);first|refine K1.u ?_|refine aO.dW ?_|refine K1.o (id:=14) (nN [0,3,4,5,6,7] ((1,some [])::nN [2,8] [])) ?_|refine K1.z ?_|refine K1.y (λ _=>?_) (λ _=>?_)|fail)
 conv=>whnf
 refine aK.mk {k:Nat//k<=M/\ ∀i,i<k->128<=(b.getD i default).toNat} (λ k=>⟨[(0,.sl 1 b.length true (aG b)),(5,.v (.int .i64 (M:Int))),(6,.v (.int .i64 (k.1:Int)))],[],[],0⟩) (λ k=>M-k.1) ⟨0,Nat.zero_le _,λ i h=>absurd h (Nat.not_lt_zero i)⟩ _
  (iw.mk' [] _ _ _ rfl ⟨aP,bI.int (by rw[hM2];split<;>split<;>omega),bI.int rfl,trivial⟩ trivial rfl) ?_
 rintro⟨k,hk,hall⟩;dsimp only;by_cases hgo:k<M/\128<=(b.getD k default).toNat
 ·have h128:128<=(b.getD (k:Int).toNat default).toNat:=hgo.2;repeat' ((conv=>whnf);first|refine K1.u ?_|refine aO.dW ?_|refine K1.o (id:=14) (nN [0,3,4,5,6,7] ((1,some [])::nN [2,8] [])) ?_|refine K1.z ?_|refine K1.y (λ _=>?_) (λ _=>?_)|fail)
  all_goals(conv=>whnf)
  all_goals first
   |(refine⟨⟨k+1,by omega,λ i hi=>?_⟩,_,iw.mk' [] _ _ _ rfl ⟨aP,aP,bI.int rfl,trivial⟩ trivial rfl,by show M-(k+1)<M-k;omega⟩
     rcases Nat.lt_or_ge i k with h|h
     ·exact hall i h
     ·rw[show i=k by omega];exact hgo.2)
   |(exfalso;omega)
 ·have hlead:lead (b.take 10)=k:=ZI (by omega) (λ i hi=>by rw[hget i (by omega)];exact hall i hi) (by
   rcases Nat.lt_or_ge k M with h|h
   ·exact .inr (by rw[hget k h];omega)
   ·exact .inl (by omega))
  by_cases hkM:k=M
  ·have hr:jf b=if M=10 then(0,0,3)else(0,0,2):=by
    unfold jf;rw[hlead,<-hM,if_pos hkM]
   rw[hr];by_cases h10:M=10
   ·rw[if_pos h10];repeat' ((conv=>whnf);first|refine K1.u ?_|refine aO.dW ?_|refine K1.o (id:=14) (nN [0,3,4,5,6,7] ((1,some [])::nN [2,8] [])) ?_|refine K1.z ?_|refine K1.y (λ _=>?_) (λ _=>?_)|fail)
    all_goals(conv=>whnf)
    all_goals first
     |exact aW.mk (aP)
     |(exfalso;omega)
   ·rw[if_neg h10];repeat' ((conv=>whnf);first|refine K1.u ?_|refine aO.dW ?_|refine K1.o (id:=14) (nN [0,3,4,5,6,7] ((1,some [])::nN [2,8] [])) ?_|refine K1.z ?_|refine K1.y (λ _=>?_) (λ _=>?_)|fail)
    all_goals(conv=>whnf)
    all_goals first
     |exact aW.mk (aP)
     |(exfalso;omega)
  ·have hlt:k<M:=by omega
   have acj:(b.getD k default).toNat<128:=by omega
   have ac1:(b.getD (k:Int).toNat default).toNat<128:=acj;have hr:jf b=if ak (zx b (k+1) 0)=b.take (k+1)then(zx b (k+1) 0,k+1,0)else(0,0,3):=by
    unfold jf;rw[hlead,<-hM,if_neg hkM]
   rw[hr];clear hr hall;repeat' ((conv=>whnf);first|refine K1.u ?_|refine aO.dW ?_|refine K1.o (id:=14) (nN [0,3,4,5,6,7] ((1,some [])::nN [2,8] [])) ?_|refine K1.z ?_|refine K1.y (λ _=>?_) (λ _=>?_)|fail)
   all_goals(conv=>whnf)
   all_goals first
    |refine aK.mk {p:Nat×Nat//p.1<=k+1/\p.2<18446744073709551616/\zx b p.1 p.2=zx b (k+1) 0} (λ p=>⟨[(0,.sl 1 b.length true (aG b)),(6,.v (.int .i64 (k:Int))),(7,.v (.int .u64 (p.1.2:Int))),(8,.v (.int .i64 ((p.1.1:Int)-1)))],[],[],0⟩) (λ p=>p.1.1) ⟨(k+1,0),by dsimp only;omega,by dsimp only;omega,rfl⟩ _
      (iw.mk' [] _ _ _ rfl ⟨aP,aP,bI.int rfl,bI.int (by dsimp only;omega),trivial⟩ trivial rfl) ?_
    |(exfalso;omega)
   rintro⟨⟨j,n⟩,hj,hn,hs⟩;dsimp only at hj hn hs⊢;rcases j with _|j
   ·have hn0:n=zx b (k+1) 0:=hs;have hput:=λ d=>dM d n (by omega);rw[<-hn0];by_cases hv:ak n=b.take (k+1)
    ·rw[if_pos hv];repeat' ((conv=>whnf);first|refine K1.u ?_|refine K1.F1 (hput _) ?_|refine Bs.of (ak n) (aS.bytes _) rfl ?_|refine Bs.of (b.take (k+1)) ((aS.bytes b).take _) (by rw[List.length_take];omega) ?_|refine lD.yes (by rw[hv]) ?_|refine aO.dW ?_|refine K1.o (id:=14) (nN [0,3,4,5,6,7] ((1,some [])::nN [2,8] [])) ?_|refine K1.z ?_|refine K1.y (λ _=>?_) (λ _=>?_)|fail)
     all_goals(conv=>whnf)
     all_goals first
      |exact aW.mk (aP)
      |(exfalso;omega)
    ·rw[if_neg hv];repeat' ((conv=>whnf);first|refine K1.u ?_|refine K1.F1 (hput _) ?_|refine Bs.of (ak n) (aS.bytes _) rfl ?_|refine Bs.of (b.take (k+1)) ((aS.bytes b).take _) (by rw[List.length_take];omega) ?_|refine lD.no (J5 hv) ?_|refine aO.dW ?_|refine K1.o (id:=14) (nN [0,3,4,5,6,7] ((1,some [])::nN [2,8] [])) ?_|refine K1.z ?_|refine K1.y (λ _=>?_) (λ _=>?_)|fail)
     all_goals(conv=>whnf)
     all_goals first
      |exact aW.mk (aP)
      |(exfalso;omega)
   ·have e1:(((j+1:Nat):Int)-1).toNat=j:=by omega
    repeat' ((conv=>whnf);first|refine K1.u ?_|refine KA.mk (Ja (by omega) (by omega)) ?_|refine Wr.raw .u64 ?_|refine aO.dW ?_|refine K1.o (id:=14) (nN [0,3,4,5,6,7] ((1,some [])::nN [2,8] [])) ?_|refine K1.z ?_|refine K1.y (λ _=>?_) (λ _=>?_)|fail)
    all_goals(conv=>whnf)
    refine⟨⟨(j,(n*128+(b.getD j default).toNat%128)%18446744073709551616),by dsimp only;omega,by dsimp only;omega,hs⟩,_,iw.mk' [] _ _ _ rfl ⟨aP,aP,bI.int ?_,bI.int ?_,trivial⟩ trivial rfl,by show j<j+1;omega⟩
    ·simp only[w64];rw[e1];omega
    ·dsimp only;omega
theorem uS{n:Nat}{F:Nat->List AV}(b:List UInt8)(hF:aS F b)(hn:n=b.length)(hl:b.length<=1000000000):aC Tryz.prog 88 [.sl 1 n true F] (.bJ [.v (.int .u64 ((jf b).1:Int)),.v (.int .i64 ((jf b).2.1:Int)),.v (.int .i64 (jf b).2.2)]) []:=
 (ZJ b hl).args (.of (λ X u hu=>bI.lH (sc:=true) hF hn X u hu) .nil)
theorem xQ(c:UInt8)(b:List UInt8):∀k n,zx (c::b) (k+1) n=(zx b k n*128+c.toNat%128)%18446744073709551616
 |0,_=>rfl
 |k+1,n=>by
  show zx (c::b) (k+1) _=_;rw[xQ c b k];rfl
theorem NP(t:List UInt8):∀(f n:Nat),n<128^(f+1)->n<=4294967296->zx (fE f n++t) (fE f n).length 0=n
 |0,n,hn,_=>by
  have hn:n<128:=by simpa using hn
  show zx (UInt8.ofNat n::t) (0+1) 0=n;rw[xQ,uZ (by omega)];show(0*128+n%128)%18446744073709551616=n;omega
 |f+1,n,hn,h32=>by
  by_cases h:n<128
  ·simp only[fE,if_pos h];show zx (UInt8.ofNat n::t) (0+1) 0=n;rw[xQ,uZ (by omega)];show(0*128+n%128)%18446744073709551616=n;omega
  ·simp only[fE,if_neg h,List.cons_append,List.length_cons];rw[xQ,uZ (by omega),NP t f (n/128) (by rw[Nat.pow_succ]at hn;exact Nat.div_lt_of_lt_mul (by omega)) (by omega)];omega
theorem NQ(t:List UInt8):∀(f n:Nat),n<128^(f+1)->lead (fE f n++t)+1=(fE f n).length
 |0,n,hn=>by
  have hn:n<128:=by simpa using hn
  show lead (UInt8.ofNat n::t)+1=1;unfold lead;rw[uZ (by omega),if_neg (by omega)]
 |f+1,n,hn=>by
  by_cases h:n<128
  ·simp only[fE,if_pos h];show lead (UInt8.ofNat n::t)+1=1;unfold lead;rw[uZ (by omega),if_neg (by omega)]
  ·simp only[fE,if_neg h,List.cons_append,List.length_cons];unfold lead;rw[uZ (by omega),if_pos (by omega),NQ t f (n/128) (by rw[Nat.pow_succ]at hn;exact Nat.div_lt_of_lt_mul (by omega))]
theorem lZ(n:Nat)(t:List UInt8)(h:n<=4294967296):jf (ak n++t)=(n,(ak n).length,0):=by
 have hb:n<128^(9+1):=by
  have:128^(9+1)=1180591620717411303424:=by decide
  omega
 have h10:(ak n).length<=10:=aX 9 n;have hp:1<=(ak n).length:=sG 9 n;have e:(ak n++t).take 10=ak n++t.take (10-(ak n).length):=by rw[List.take_append,List.take_of_length_le h10]
 have hl:lead ((ak n++t).take 10)+1=(ak n).length:=by rw[e];exact NQ _ 9 n hb
 have hs:zx (ak n++t) (ak n).length 0=n:=NP t 9 n hb h;have hle:(ak n).length<=((ak n++t).take 10).length:=by rw[e,List.length_append];omega
 unfold jf;rw[hl,hs,if_neg (by omega),List.take_left,if_pos rfl]
theorem AZ(b:List UInt8):(jf b).2.1<=b.length:=by
 have h1:=J4 (b.take 10);have h2:(b.take 10).length<=b.length:=by rw[List.length_take];omega
 unfold jf;split
 ·split<;>exact Nat.zero_le _
 ·split
  ·show lead (b.take 10)+1<=b.length;omega
  ·exact Nat.zero_le _
def iG(bs:List UInt8)(lo hi:Int)(s:Sq):Int×Sq:=
 if s.2≠0 then(0,s)
 else if bs.length<=s.1 then(0,(s.1,2))
 else if lo<=((bs.getD s.1 0).toNat:Int)/\((bs.getD s.1 0).toNat:Int)<=hi then(((bs.getD s.1 0).toNat:Int),(s.1+1,0))
 else(((bs.getD s.1 0).toNat:Int),(s.1+1,3))
def iR(bs:List UInt8)(lo hi:Int)(s:Sq):Int×Sq:=
 if s.2≠0 then(0,s)
 else if(jf (bs.drop s.1)).2.2≠0 then(0,(s.1,(jf (bs.drop s.1)).2.2))
 else if lo<=((jf (bs.drop s.1)).1:Int)/\((jf (bs.drop s.1)).1:Int)<=hi then(((jf (bs.drop s.1)).1:Int),(s.1+(jf (bs.drop s.1)).2.1,0))
 else(0,(s.1+(jf (bs.drop s.1)).2.1,3))
def jC(bs:List UInt8)(sz:Int)(s:Sq):ByteArray×Sq:=
 if s.2≠0 then(⟨#[]⟩,s)
 else if((bs.length:Int)-s.1<sz)then(⟨#[]⟩,(s.1,2))
 else(Du bs s.1 sz.toNat,(s.1+sz.toNat,0))
def ZK(bs:List UInt8)(s:Sq):AO:= .box 169 [.sl 1 bs.length true (aG bs),.v (.int .i64 (s.1:Int)),.v (.int .i64 s.2)]
theorem fP.rd{t:TypeId}{a:AV}{k l:IntKind}{x x' y y':Int}(h:x=x')(h':y=y'):fP (.box t [a,.v (.int k x),.v (.int l y)]) (.box t [a,.v (.int k x'),.v (.int l y')]):=by rw[h,h'];exact fP.refl _
theorem acn(bs:List UInt8)(u:Nat)(x lo hi:Int)(hl:bs.length<=1000000000)(hu:u<=bs.length):
  au Tryz.prog 128 [(0,ZK bs (u,x))] [.box 0 0,.v (.int .i64 lo),.v (.int .i64 hi)] (.v (.int .i64 (iG bs lo hi (u,x)).1)) [(0,ZK bs (iG bs lo hi (u,x)).2)]:=by
 unfold ZK;dsimp only;refine K1.M 0x20000004010c7 Tryz.func128 10 ?_;repeat' ((conv=>whnf);first|refine K1.u ?_|refine K1.P1 (Gh _ _ _) ?_|refine K1.z ?_|refine K1.y (λ _=>?_) (λ _=>?_)|fail)
 all_goals(conv=>whnf)
 all_goals(refine Dt.auto rfl rfl ⟨⟨_,rfl,fP.rd ?_ ?_⟩,trivial⟩ rfl rfl (bI.int ?_))
 all_goals(unfold iG;simp only[Int.toNat_natCast]at*;grind)
theorem XY(bs:List UInt8)(u:Nat)(x lo hi:Int)(hl:bs.length<=1000000000)(hu:u<=bs.length)(h0:0<=lo)(h1:lo<=hi)(h2:hi<=16777216):
  au Tryz.prog 129 [(0,ZK bs (u,x))] [.box 0 0,.v (.int .i64 lo),.v (.int .i64 hi)] (.v (.int .i64 (iR bs lo hi (u,x)).1)) [(0,ZK bs (iR bs lo hi (u,x)).2)]:=by
 unfold ZK;dsimp only;have hv:=AZ (bs.drop u);rw[List.length_drop]at hv;have hs:=uS (n:=bs.length-u) (bs.drop u) ((aS.bytes bs).drop u) (by simp) (by simp;omega);obtain⟨⟨v,k,e⟩,hr⟩:∃p,jf (bs.drop u)=p:=⟨_,rfl⟩;unfold iR;rw[hr]at hv hs⊢;dsimp only at hv hs⊢;refine K1.M 0x200000400043c7 Tryz.func129 10 ?_;repeat' ((conv=>whnf);first|refine K1.u ?_|refine K1.P1 hs ?_|refine K1.o (id:=3) (nN [0,1,2,3,4,5,6,7,8] ((9,some [7,5,3,1])::nN [10,11,12,13,14,15,16] [])) ?_|refine K1.z ?_|refine K1.y (λ _=>?_) (λ _=>?_)|fail)
 all_goals(conv=>whnf)
 all_goals(refine Dt.auto rfl rfl ⟨⟨_,rfl,fP.rd ?_ ?_⟩,trivial⟩ rfl rfl (bI.int ?_))
 all_goals(simp only[hr]at*;grind)
theorem ZL(bs:List UInt8)(u:Nat)(x sz:Int)(hl:bs.length<=1000000000)(hu:u<=bs.length)(h0:0<=sz)(h2:sz<=16777216):
  au Tryz.prog 130 [(0,ZK bs (u,x))] [.box 0 0,.v (.int .i64 sz)] (.v (.string (jC bs sz (u,x)).1)) [(0,ZK bs (jC bs sz (u,x)).2)]:=by
 unfold ZK;dsimp only;obtain⟨z,rfl⟩:=Int.eq_ofNat_of_zero_le h0;refine K1.M 0x400433 Tryz.func130 10 ?_;repeat' ((conv=>whnf);first|refine K1.u ?_|refine Bs.of ((bs.drop u).take z) (((aS.bytes bs).drop u).take z) (by rw[List.length_take,List.length_drop];omega) ?_|refine K1.o (id:=6) (nN [0,1,2,3,4,5,6,7,8,9,10,11,12,13,14,15,16] []) ?_|refine K1.z ?_|refine K1.y (λ _=>?_) (λ _=>?_)|fail)
 all_goals(conv=>whnf)
 all_goals(refine Dt.auto rfl rfl ⟨⟨_,rfl,fP.rd ?_ ?_⟩,trivial⟩ rfl rfl (bI.str ?_))
 all_goals(unfold jC;first|(simp only[Du,Int.toNat_natCast]at*;grind)|grind)
theorem fC(h:iG bs lo hi s=(c,s'))(h0:s'.2=0):s.2=0/\lo<=c/\c<=hi:=by
 unfold iG at h;split at h
 ·cases h;exact absurd h0 ‹_›
 ·split at h
  ·cases h;cases h0
  ·split at h
   ·cases h;exact⟨by omega,by assumption⟩
   ·cases h;cases h0
theorem fD(h:iR bs lo hi s=(c,s'))(h0:s'.2=0):s.2=0:=by
 unfold iR at h;split at h
 ·cases h;exact absurd h0 ‹_›
 ·omega
theorem jd{c:ByteArray}(h:jC bs sz s=(c,s'))(h0:s'.2=0):s.2=0:=by
 unfold jC at h;split at h
 ·cases h;exact absurd h0 ‹_›
 ·omega
theorem dZ(h:iG bs lo hi s=(c,s'))(hu:s.1<=bs.length):s'.1<=bs.length/\(0<=c/\c<=255):=by
 have:=UInt8.toNat_lt (bs.getD s.1 0);unfold iG at h;split at h
 ·cases h;exact⟨hu,by omega⟩
 ·split at h
  ·cases h;exact⟨hu,by omega⟩
  ·split at h<;>cases h<;>exact⟨by dsimp only;omega,by omega⟩
theorem eF(h:iR bs lo hi s=(c,s'))(hu:s.1<=bs.length)(_h0:0<=lo)(h1:0<=hi):s'.1<=bs.length/\(0<=c/\c<=hi):=by
 have hv:=AZ (bs.drop s.1);rw[List.length_drop]at hv;unfold iR at h;split at h
 ·cases h;exact⟨hu,by omega⟩
 ·split at h
  ·cases h;exact⟨hu,by omega⟩
  ·split at h
   ·cases h;exact⟨by dsimp only;omega,by omega⟩
   ·cases h;exact⟨by dsimp only;omega,by omega⟩
theorem iD{c:ByteArray}(h:jC bs sz s=(c,s'))(hu:s.1<=bs.length)(_h0:0<=sz):s'.1<=bs.length:=by
 unfold jC at h;split at h
 ·cases h;exact hu
 ·split at h
  ·cases h;exact hu
  ·cases h;dsimp only;omega
theorem bK(h:dA bs lo hi s=(c,s'))(h0:s'.2=0):iG bs lo hi s=(c,s'):=by
 unfold dA at h;unfold iG;split at h
 ·cases h;exact absurd h0 ‹_›
 ·rename_i h1;rw[if_neg h1];split at h
  ·cases h;cases h0
  ·rename_i h2;rw[if_neg h2];split at h
   ·rename_i h3;rw[if_pos h3];exact h
   ·cases h;cases h0
theorem aZ(h:dB bs lo hi s=(c,s'))(h0:s'.2=0)(hb:hi<=4294967296):iR bs lo hi s=(c,s'):=by
 unfold dB at h;unfold iR;split at h
 ·cases h;exact absurd h0 ‹_›
 ·rename_i h1;rw[if_neg h1];obtain⟨⟨m,k,e⟩,hv⟩:∃p,dH (bs.drop s.1)=p:=⟨_,rfl⟩;rw[hv]at h;dsimp only at h;split at h
  ·cases h;exact absurd h0 ‹_›
  ·rename_i h2;obtain rfl:e=0:=by omega
   split at h
   ·rename_i h3;obtain⟨h4,h5,h6⟩:=Md hv;have e1:bs.drop s.1=ak m++(bs.drop s.1).drop k:=by rw[<-h6,List.take_append_drop]
    rw[e1,lZ m _ (by omega),<-h4];dsimp only;rw[if_neg (by omega),if_pos h3];exact h
   ·cases h;cases h0
theorem eX{may:ByteArray->Int}{c:ByteArray}(h:dY bs sz may s=(c,s'))(h0:s'.2=0):jC bs sz s=(c,s')/\may c=0:=by
 unfold dY at h;unfold jC;split at h
 ·cases h;exact absurd h0 ‹_›
 ·rename_i h1;rw[if_neg h1];split at h
  ·cases h;cases h0
  ·rename_i h2;rw[if_neg h2];cases h;dsimp only at h0;split at h0
   ·rename_i h3;exact⟨by rw[if_pos h3],h3⟩
   ·cases h0
theorem aF(bs:List UInt8)(s s':Sq)(lo hi c:Int)(h:iG bs lo hi s=(c,s'))(hl:bs.length<=1000000000)(hu:s.1<=bs.length):
  au Tryz.prog 128 [(0,.box 169 [.sl 1 bs.length true (aG bs),.v (.int .i64 (s.1:Int)),.v (.int .i64 s.2)])] [.box 0 0,.v (.int .i64 lo),.v (.int .i64 hi)] (.v (.int .i64 c)) [(0,.box 169 [.sl 1 bs.length true (aG bs),.v (.int .i64 (s'.1:Int)),.v (.int .i64 s'.2)])]:=by
 have:=acn bs s.1 s.2 lo hi hl hu;rw[show(s.1,s.2)=s from rfl,h]at this;exact this
theorem ay(bs:List UInt8)(s s':Sq)(lo hi c:Int)(h:iR bs lo hi s=(c,s'))(hl:bs.length<=1000000000)(hu:s.1<=bs.length)(h0:0<=lo)(h1:lo<=hi)(h2:hi<=16777216):
  au Tryz.prog 129 [(0,.box 169 [.sl 1 bs.length true (aG bs),.v (.int .i64 (s.1:Int)),.v (.int .i64 s.2)])] [.box 0 0,.v (.int .i64 lo),.v (.int .i64 hi)] (.v (.int .i64 c)) [(0,.box 169 [.sl 1 bs.length true (aG bs),.v (.int .i64 (s'.1:Int)),.v (.int .i64 s'.2)])]:=by
 have:=XY bs s.1 s.2 lo hi hl hu h0 h1 h2;rw[show(s.1,s.2)=s from rfl,h]at this;exact this
theorem bZ(bs:List UInt8)(s s':Sq)(sz:Int)(c:ByteArray)(h:jC bs sz s=(c,s'))(hl:bs.length<=1000000000)(hu:s.1<=bs.length)(h0:0<=sz/\sz<=255):
  au Tryz.prog 130 [(0,.box 169 [.sl 1 bs.length true (aG bs),.v (.int .i64 (s.1:Int)),.v (.int .i64 s.2)])] [.box 0 0,.v (.int .i64 sz)] (.v (.string c)) [(0,.box 169 [.sl 1 bs.length true (aG bs),.v (.int .i64 (s'.1:Int)),.v (.int .i64 s'.2)])]:=by
 have:=ZL bs s.1 s.2 sz hl hu h0.1 (by omega);rw[show(s.1,s.2)=s from rfl,h]at this;exact this
def oU(s:Sq)(e:Ev):Ev×Nat×Int:=if s.2=0 then(e,s.1,0)else(yT,0,s.2)
theorem iL(h:s.2=0):oU s e=(e,s.1,0):=if_pos h
theorem gY(h:¬s.2=0):oU s e=(yT,0,s.2):=if_neg h
theorem gZ(h:s.1<=bs.length):(oU s e).2.1<=bs.length:=by
 unfold oU;split
 ·exact h
 ·exact Nat.zero_le _
theorem lQ{bs:List UInt8}{r:Int}{s:Sq}:∀j,(lY bs r s j).2.2=0->s.2=0
 |0,h=>h
 |j+1,h=>by
  refine lQ (bs:=bs) (r:=r) j ?_;have h:(nI bs r j (lY bs r s j).2).2.2=0:=h;unfold nI at h;split at h
  ·exact h
  ·exact bM (rfl:dB bs 0 1048576 (lY bs r s j).2=(_,_)) h
def zy(bs:List UInt8)(p:Ev×Nat×Int):Prop:=
 aC Tryz.prog 112 [.sl 1 bs.length true (aG bs)] (qZ p) []/\p.2.1<=bs.length/\ ∀e m,lg bs=(e,m,0)->p=(e,m,0)
theorem iI{m:Nat}(h:lg bs=(e,m,0)):eP bs (0,0)=(e,(m,0)):=by
 unfold lg at h;split at h
 ·rename_i h1;simp only[Prod.mk.injEq]at h;exact absurd h.2.2 h1
 ·rename_i h1;obtain⟨⟨a,b,c⟩,hf⟩:∃p,eP bs (0,0)=p:=⟨_,rfl⟩;rw[hf]at h h1⊢;dsimp only at h h1;obtain rfl:c=0:=by omega
  cases h;rfl
end Go.Proofs.YtopfgjgdadnjeaaGreat
