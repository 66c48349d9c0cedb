/-
  Contracts of the walk:LvG,TxL,BkM,BkX2,MkM,NdIa,HbA,HbB,HbC,HbD,HbE.
-/
import Derived.Test.YtifjccndenojlaaGreatWf14
import Derived.Test.YtifjccndenojlaaGreatWf9
import Derived.Test.YtifjccndenojlaaGreatWf10
import Derived.Test.YtifjccndenojlaaGreatWf11
import Derived.Test.YtifjccndenojlaaGreatWf12
set_option maxHeartbeats 16000000
set_option maxRecDepth 100000
set_option linter.unusedVariables false
set_option linter.unusedSimpArgs false
namespace Go.Proofs.YtifjccndenojlaaGreat
open Go.RowKit
open Go.Proofs.Tryz
variable{r:AV}{f:FuncId}{most:Int}{ho:List (Nat×AO)}{aZ:List AV}{m:Nat}{f':Nat->List AV}
theorem abR(l:List Ev)(e:Ev)(hk:e.k=5)(r:Ev)(rs:List Ev)(hr:l.filter (dY 4 (λ a=>decide (a.l=e.l)&&decide (a.v=e.v)) e)=r::rs)(hl:l.length<=1000000000):
  aj prog 134 [(0,jT l)] [.own 0,e.av] (.own 1) [(1,jT (r::rs))]:=by
 have hw:=zS 171 (λ a=>decide (a.l=e.l)&&decide (a.v=e.v)) 4 e (Jg e) l r rs hr hl;have hlf:=aoI (dY 4 (λ a=>decide (a.l=e.l)&&decide (a.v=e.v)) e) l;rw[hr]at hlf;simp only[aoE]at hlf;dsimp only[Ev.av,Ev.cs]at hw⊢;refine K1.M 0x2020021041bb func134 10 ?_;repeat' ((conv=>whnf);first|refine K1.u ?_|refine K1.C 2 [(0,_),(1,_)] (hw) rfl ?_|fail)
 all_goals(conv=>whnf)
 first
  |exact⟨[(11,1)],rfl,rfl,⟨ay rfl,trivial⟩,rfl,rfl,au⟩
  |fail
theorem abS(l:List Ev)(e:Ev)(hk:e.k=5)(hr:l.filter (dY 4 (λ a=>decide (a.l=e.l)&&decide (a.v=e.v)) e)=[])(hl:l.length<=1000000000):
  aj prog 134 [(0,jT l)] [.own 0,e.av] (.v (.slice none 0 0)) []:=by
 have hw:=zT 171 (λ a=>decide (a.l=e.l)&&decide (a.v=e.v)) 4 e (Jg e) l hr hl;have hlf:=aoI (dY 4 (λ a=>decide (a.l=e.l)&&decide (a.v=e.v)) e) l;rw[hr]at hlf;simp only[aoZ]at hlf;dsimp only[Ev.av,Ev.cs]at hw⊢;refine K1.M 0x2020021041bb func134 10 ?_;repeat' ((conv=>whnf);first|refine K1.u ?_|refine K1.C 2 [(0,_),(1,_)] (hw) rfl ?_|fail)
 all_goals(conv=>whnf)
 exact⟨[],rfl,rfl,trivial,rfl,rfl,au⟩
theorem afw(l:List Ev)(e:Ev)(hk:e.k=4)(hc:l.any (KW e)=false)(hl:l.length<=1000000000):
  aj prog 134 [(0,jT l)] [.own 0,e.av] (.own 0) [(0,jT l)]:=by
 have hcr:=iM l e o_;rw[hc]at hcr;dsimp only[Ev.av,Ev.cs]at hcr⊢;refine K1.M 0x2020021041bb func134 10 ?_;repeat' ((conv=>whnf);first|refine K1.u ?_|refine K1.P1 hcr ?_|fail)
 all_goals(conv=>whnf)
 exact⟨[],rfl,rfl,⟨ay rfl,trivial⟩,rfl,rfl,au⟩
theorem abT(l:List Ev)(e:Ev)(hk:e.k=2)(r:Ev)(rs:List Ev)(hr:l.filter (dY 1 (λ _=>true) e)=r::rs)(x:Ev)(xs:List Ev)(hx:(r::rs).filter (tq (r::rs))=x::xs)(hl:l.length<=1000000000):
  aj prog 134 [(0,jT l)] [.own 0,e.av] (.own 1) [(1,jT (x::xs))]:=by
 have hlf:=aoI (dY 1 (λ _=>true) e) l;rw[hr]at hlf;have hw:=EI 168 (λ _=>true) 1 e YE l r rs hr hl;have hc:=λ d=>VF d (r::rs) x xs hx o_;dsimp only[Ev.av,Ev.cs]at hw⊢;refine K1.M 0x2020021041bb func134 10 ?_;repeat' ((conv=>whnf);first|refine K1.u ?_|refine K1.C 1 [(0,_)] (hw) rfl ?_|refine K1.F1 (hc _) ?_|fail)
 all_goals(conv=>whnf)
 first
  |exact⟨[(12,1)],rfl,rfl,⟨ay rfl,trivial⟩,rfl,rfl,au⟩
  |fail
theorem abU(l:List Ev)(e:Ev)(hk:e.k=2)(r:Ev)(rs:List Ev)(hr:l.filter (dY 1 (λ _=>true) e)=r::rs)(hx:(r::rs).filter (tq (r::rs))=[])(hl:l.length<=1000000000):
  aj prog 134 [(0,jT l)] [.own 0,e.av] (.v (.slice none 0 0)) []:=by
 have hlf:=aoI (dY 1 (λ _=>true) e) l;rw[hr]at hlf;have hw:=EI 168 (λ _=>true) 1 e YE l r rs hr hl;have hc:=HY (r::rs) hx o_;dsimp only[Ev.av,Ev.cs]at hw⊢;refine K1.M 0x2020021041bb func134 10 ?_;repeat' ((conv=>whnf);first|refine K1.u ?_|refine K1.C 1 [(0,_)] (hw) rfl ?_|refine K1.P1 hc ?_|fail)
 all_goals(conv=>whnf)
 exact⟨[],rfl,rfl,trivial,rfl,rfl,au⟩
theorem abV(l:List Ev)(e:Ev)(hk:e.k=2)(hr:l.filter (dY 1 (λ _=>true) e)=[])(hl:l.length<=1000000000):
  aj prog 134 [(0,jT l)] [.own 0,e.av] (.v (.slice none 0 0)) []:=by
 have hlf:=aoI (dY 1 (λ _=>true) e) l;rw[hr]at hlf;have hw:=Sm 168 (λ _=>true) 1 e YE l hr hl;have hc:=HY [] rfl d_;dsimp only[Ev.av,Ev.cs]at hw⊢;refine K1.M 0x2020021041bb func134 10 ?_;repeat' ((conv=>whnf);first|refine K1.u ?_|refine K1.C 1 [(0,_)] (hw) rfl ?_|refine bZ.plain _ _ hc (Ip.cons (.nil 12 true (dI []) d_) .nil) rfl ?_|fail)
 all_goals(conv=>whnf)
 exact⟨[],rfl,rfl,trivial,rfl,rfl,au⟩
def ams(d:Nat):List Ev->AV
 |[]=> .v (.slice none 0 0)
 |_::_=> .own d
def amu(d:Nat):List Ev->List (Nat×AO)
 |[]=>[]
 |r::rs=>[(d,.row 83 12 (rs.length+1) true (dI (r::rs)))]
theorem VJ(d:Nat)(l:List Ev)(hl:l.length<=1000000000)(R:List Ev)(hr:aF l=R):
  aH prog 123 [.sl 12 l.length true (dI l)] (ams d R) (amu d R):=by
 refine K1.E 0x800f5d func123 ?_
 conv=>whnf
 refine aI.mk (aic (bU l) l) (λ x=>match x with
  |⟨(j,[]),_⟩=>⟨[(0,.sl 12 l.length true (dI l)),(3,.box 0 0),(4,.v (.slice none 0 0)),(8,.sl 12 l.length true (dI l)),(9,.v (.int .i64 (l.length:Int))),(10,.v (.int .i64 (j:Int)))],
    [(0,.box 260 [.v (.int .i64 2),.v (.func (.func 155) #[] #[])])],[],1⟩
  |⟨(j,y::ys),_⟩=>⟨[(0,.sl 12 l.length true (dI l)),(3,.box 0 0),(4,.own 90),(8,.sl 12 l.length true (dI l)),(9,.v (.int .i64 (l.length:Int))),(10,.v (.int .i64 (j:Int)))],
    [(0,.box 260 [.v (.int .i64 2),.v (.func (.func 155) #[] #[])]),(90,.row 83 12 (ys.length+1) true (dI (y::ys)))],[],91⟩) (λ x=>l.length-x.1.1) ⟨(0,[]),aoB _,rfl⟩ _
  (dO.mk' [] _ _ _ rfl ⟨au,au,au,au,aY.int rfl,aY.int rfl,trivial⟩ ⟨ay rfl,trivial⟩ rfl) ?_
 rintro⟨⟨j,ys⟩,hj,hys⟩;dsimp only at hj hys;rcases ys with _|⟨y,ys⟩
 ·dsimp only;by_cases hjl:j<l.length
  ·have hab:=xG 2 155 gu sV l (l.getD (j:Int).toNat default) o_;have hft:=jA (p:=bU l) hjl;rw[<-hys,aoN]at hft;have hlv:bU l (l.getD j default)=(decide ((l.getD (j:Int).toNat default).k=1)&& !fM 2 gu l (l.getD (j:Int).toNat default)):=by rw[show(j:Int).toNat=j by omega];rfl
   rw[hlv]at hft;generalize fM 2 gu l (l.getD (j:Int).toNat default)=q at hab hft;have hk0:¬ (l.getD (j:Int).toNat default).k=1->([]:List Ev)=(l.take (j+1)).filter (bU l):=λ h=>by rw[hft,decide_eq_false h];simp
   have hq0:q=true->([]:List Ev)=(l.take (j+1)).filter (bU l):=λ h=>by rw[hft,h];simp
   have hq1:(l.getD (j:Int).toNat default).k=1->q=false->[l.getD j default]=(l.take (j+1)).filter (bU l):=λ h h'=>by rw[hft,decide_eq_true h,h'];simp
   clear hft hlv;dsimp only[Ev.av,Ev.cs]at hab⊢;repeat' ((conv=>whnf);first|refine K1.u ?_|refine K1.P1 hab ?_|refine K1.y (λ _=>?_) (λ _=>?_)|fail)
   all_goals(conv=>whnf)
   all_goals first
    |exact⟨⟨(j+1,[]),hjl,by first|exact hk0 a_|exact hq0 a_⟩,_,dO.mk' [] _ _ _ rfl ⟨au,au,au,au,aY.int rfl,aY.int rfl,trivial⟩ ⟨ay rfl,trivial⟩ rfl,by show l.length-(j+1)<l.length-j;omega⟩
    |(refine⟨⟨(j+1,[l.getD j default]),hjl,hq1 a_ a_⟩,_,dO.mk' [(3,90)] _ _ _ rfl ⟨au,au,au,au,aY.int rfl,aY.int rfl,trivial⟩ ⟨ay rfl,⟨_,rfl,dK.row rfl (λ m hm=>?_)⟩,trivial⟩ rfl,by show l.length-(j+1)<l.length-j;omega⟩
      have hm:m<1:=hm;obtain rfl:m=0:=o_
      rfl)
  ·have e:aF l=[]:=by rw[hys,aoF o_];rfl
   rw[hr]at e;subst e;repeat' ((conv=>whnf);first|refine K1.u ?_|refine aU.fF ?_|fail)
   conv=>whnf
   exact bn.mk (au)
 ·dsimp only;have hyl:ys.length+1<=j:=by
   have h1:=congrArg List.length hys;have h2:=aoI (bU l) (l.take j);rw[aou]at h2;rw[aoE]at h1;omega
  by_cases hjl:j<l.length
  ·have hab:=xG 2 155 gu sV l (l.getD (j:Int).toNat default) o_;have hft:=jA (p:=bU l) hjl;rw[<-hys]at hft;have hlv:bU l (l.getD j default)=(decide ((l.getD (j:Int).toNat default).k=1)&& !fM 2 gu l (l.getD (j:Int).toNat default)):=by rw[show(j:Int).toNat=j by omega];rfl
   rw[hlv]at hft;generalize fM 2 gu l (l.getD (j:Int).toNat default)=q at hab hft;have hk0:¬ (l.getD (j:Int).toNat default).k=1->y::ys=(l.take (j+1)).filter (bU l):=λ h=>by rw[hft,decide_eq_false h];simp
   have hq0:q=true->y::ys=(l.take (j+1)).filter (bU l):=λ h=>by rw[hft,h];simp
   have hq1:(l.getD (j:Int).toNat default).k=1->q=false->y::(ys++[l.getD j default])=(l.take (j+1)).filter (bU l):=λ h h'=>by rw[hft,decide_eq_true h,h'];simp
   clear hft hlv;dsimp only[Ev.av,Ev.cs]at hab⊢;repeat' ((conv=>whnf);first|refine K1.u ?_|refine K1.P1 hab ?_|refine K1.y (λ _=>?_) (λ _=>?_)|fail)
   all_goals(conv=>whnf)
   all_goals first
    |exact⟨⟨(j+1,y::ys),hjl,by first|exact hk0 a_|exact hq0 a_⟩,_,dO.mk' [] _ _ _ rfl ⟨au,au,au,au,aY.int rfl,aY.int rfl,trivial⟩ ⟨ay rfl,ay rfl,trivial⟩ rfl,by show l.length-(j+1)<l.length-j;omega⟩
    |(refine⟨⟨(j+1,y::(ys++[l.getD j default])),hjl,hq1 a_ a_⟩,_,dO.mk' [(93,90)] _ _ _ rfl ⟨au,au,au,au,aY.int rfl,aY.int rfl,trivial⟩ ⟨ay rfl,⟨_,rfl,dK.row s_ (λ m hm=>?_)⟩,trivial⟩ rfl,by show l.length-(j+1)<l.length-j;omega⟩
      exact dP (c:=Ev.cs) (l:=y::ys) rfl rfl m hm)
  ·have e:aF l=y::ys:=by rw[hys,aoF o_];rfl
   rw[hr]at e;subst e;repeat' ((conv=>whnf);first|refine K1.u ?_|refine aU.uV d rfl rfl (dK.refl _) (au)|fail)
theorem YF(d:Nat)(l:List Ev)(hl:l.length<=1000000000)(r:Ev)(rs:List Ev)(hr:aF l=r::rs):
  aH prog 123 [.sl 12 l.length true (dI l)] (.own d) [(d,.row 83 12 (rs.length+1) true (dI (r::rs)))]:=
 VJ d l hl (r::rs) hr
theorem YG(l:List Ev)(hl:l.length<=1000000000)(hr:aF l=[]):
  aH prog 123 [.sl 12 l.length true (dI l)] (.v (.slice none 0 0)) []:=
 VJ 0 l hl [] hr
theorem La(d:Nat)(l cr:List Ev)(hl:l.length<=1000000000)(hc:cr.length<=1000000000)(R:List Ev)(hr:bg l cr=R):
  aH prog 124 [.sl 12 l.length true (dI l),.sl 12 cr.length true (dI cr)] (ams d R) (amu d R):=by
 refine K1.E 0x4004218f2f3 func124 ?_
 conv=>whnf
 refine aI.mk (aic (countB l cr) l) (λ x=>match x with
  |⟨(j,[]),_⟩=>⟨[(0,.sl 12 l.length true (dI l)),(1,.sl 12 cr.length true (dI cr)),(5,.box 0 0),(6,.box 1 0),(7,.v (.slice none 0 0)),(12,.sl 12 l.length true (dI l)),(13,.v (.int .i64 (l.length:Int))),(14,.v (.int .i64 (j:Int)))],
    [(0,.box 260 [.v (.int .i64 1),.v (.func (.func 155) #[] #[])]),(1,.box 260 [.v (.int .i64 5),.v (.func (.func 157) #[] #[])])],[],2⟩
  |⟨(j,y::ys),_⟩=>⟨[(0,.sl 12 l.length true (dI l)),(1,.sl 12 cr.length true (dI cr)),(5,.box 0 0),(6,.box 1 0),(7,.own 90),(12,.sl 12 l.length true (dI l)),(13,.v (.int .i64 (l.length:Int))),(14,.v (.int .i64 (j:Int)))],
    [(0,.box 260 [.v (.int .i64 1),.v (.func (.func 155) #[] #[])]),(1,.box 260 [.v (.int .i64 5),.v (.func (.func 157) #[] #[])]),(90,.row 83 12 (ys.length+1) true (dI (y::ys)))],[],91⟩) (λ x=>l.length-x.1.1) ⟨(0,[]),aoB _,rfl⟩ _
  (dO.mk' [] _ _ _ rfl ⟨au,au,au,au,au,au,aY.int rfl,aY.int rfl,trivial⟩ ⟨ay rfl,ay rfl,trivial⟩ rfl) ?_
 rintro⟨⟨j,ys⟩,hj,hys⟩;dsimp only at hj hys;rcases ys with _|⟨y,ys⟩
 ·dsimp only;by_cases hjl:j<l.length
  ·have hab:=xG 5 157 lJ KE l (l.getD (j:Int).toNat default) o_;have hun:=KF 1 155 gu sV cr (l.getD (j:Int).toNat default) o_;have hft:=jA (p:=countB l cr) hjl;rw[<-hys,aoN]at hft;have hlv:countB l cr (l.getD j default)=((decide ((l.getD (j:Int).toNat default).k=3)||(decide ((l.getD (j:Int).toNat default).k=4)&& !fM 5 lJ l (l.getD (j:Int).toNat default)))&&gU 1 gu cr (l.getD (j:Int).toNat default)):=by rw[show(j:Int).toNat=j by omega];rfl
   rw[hlv]at hft;generalize fM 5 lJ l (l.getD (j:Int).toNat default)=q1 at hab hft;generalize gU 1 gu cr (l.getD (j:Int).toNat default)=q2 at hun hft;have n1:¬ (l.getD (j:Int).toNat default).k=3-> ¬ (l.getD (j:Int).toNat default).k=4->([]:List Ev)=(l.take (j+1)).filter (countB l cr):=λ h h'=>by rw[hft,decide_eq_false h,decide_eq_false h'];simp
   have n2:q2=false->([]:List Ev)=(l.take (j+1)).filter (countB l cr):=λ h=>by rw[hft,h];simp
   have n3:(l.getD (j:Int).toNat default).k=4->q1=true->([]:List Ev)=(l.take (j+1)).filter (countB l cr):=λ h h'=>by rw[hft,decide_eq_false (show¬ (l.getD (j:Int).toNat default).k=3 by omega),h'];simp
   have y1:(l.getD (j:Int).toNat default).k=3->q2=true->[l.getD j default]=(l.take (j+1)).filter (countB l cr):=λ h h'=>by rw[hft,decide_eq_true h,h'];simp
   have y2:(l.getD (j:Int).toNat default).k=4->q1=false->q2=true->[l.getD j default]=(l.take (j+1)).filter (countB l cr):=λ h h' h2=>by rw[hft,decide_eq_true h,h',h2];simp
   clear hft hlv;dsimp only[Ev.av,Ev.cs]at hab hun⊢;repeat' ((conv=>whnf);first|refine K1.u ?_|refine K1.P1 hab ?_|refine K1.P1 hun ?_|refine K1.y (λ _=>?_) (λ _=>?_)|fail)
   all_goals(conv=>whnf)
   all_goals first
    |exact⟨⟨(j+1,([]:List Ev)),hjl,by first|exact n1 a_ a_|exact n2 a_|exact n3 a_ a_⟩,_,dO.mk' [] _ _ _ rfl ⟨au,au,au,au,au,au,aY.int rfl,aY.int rfl,trivial⟩ ⟨ay rfl,ay rfl,trivial⟩ rfl,by show l.length-(j+1)<l.length-j;omega⟩
    |(refine⟨⟨(j+1,[l.getD j default]),hjl,by first|exact y1 a_ a_|exact y2 a_ a_ a_⟩,_,dO.mk' [(4,90)] _ _ _ rfl ⟨au,au,au,au,au,au,aY.int rfl,aY.int rfl,trivial⟩ ⟨ay rfl,ay rfl,⟨_,rfl,dK.row s_ (λ m hm=>?_)⟩,trivial⟩ rfl,by show l.length-(j+1)<l.length-j;omega⟩
      have hm:m<1:=hm;obtain rfl:m=0:=o_
      rfl)
  ·have e:bg l cr=([]:List Ev):=by rw[hys,aoF o_];rfl
   rw[hr]at e;subst e;repeat' ((conv=>whnf);first|refine K1.u ?_|refine aU.fF ?_|fail)
   conv=>whnf
   exact bn.mk (au)
 ·dsimp only;have hyl:ys.length+1<=j:=by
   have h1:=congrArg List.length hys;have h2:=aoI (countB l cr) (l.take j);rw[aou]at h2;rw[aoE]at h1;omega
  by_cases hjl:j<l.length
  ·have hab:=xG 5 157 lJ KE l (l.getD (j:Int).toNat default) o_;have hun:=KF 1 155 gu sV cr (l.getD (j:Int).toNat default) o_;have hft:=jA (p:=countB l cr) hjl;rw[<-hys]at hft;have hlv:countB l cr (l.getD j default)=((decide ((l.getD (j:Int).toNat default).k=3)||(decide ((l.getD (j:Int).toNat default).k=4)&& !fM 5 lJ l (l.getD (j:Int).toNat default)))&&gU 1 gu cr (l.getD (j:Int).toNat default)):=by rw[show(j:Int).toNat=j by omega];rfl
   rw[hlv]at hft;generalize fM 5 lJ l (l.getD (j:Int).toNat default)=q1 at hab hft;generalize gU 1 gu cr (l.getD (j:Int).toNat default)=q2 at hun hft;have n1:¬ (l.getD (j:Int).toNat default).k=3-> ¬ (l.getD (j:Int).toNat default).k=4->y::ys=(l.take (j+1)).filter (countB l cr):=λ h h'=>by rw[hft,decide_eq_false h,decide_eq_false h'];simp
   have n2:q2=false->y::ys=(l.take (j+1)).filter (countB l cr):=λ h=>by rw[hft,h];simp
   have n3:(l.getD (j:Int).toNat default).k=4->q1=true->y::ys=(l.take (j+1)).filter (countB l cr):=λ h h'=>by rw[hft,decide_eq_false (show¬ (l.getD (j:Int).toNat default).k=3 by omega),h'];simp
   have y1:(l.getD (j:Int).toNat default).k=3->q2=true->y::(ys++[l.getD j default])=(l.take (j+1)).filter (countB l cr):=λ h h'=>by rw[hft,decide_eq_true h,h'];simp
   have y2:(l.getD (j:Int).toNat default).k=4->q1=false->q2=true->y::(ys++[l.getD j default])=(l.take (j+1)).filter (countB l cr):=λ h h' h2=>by rw[hft,decide_eq_true h,h',h2];simp
   clear hft hlv;dsimp only[Ev.av,Ev.cs]at hab hun⊢;repeat' ((conv=>whnf);first|refine K1.u ?_|refine K1.P1 hab ?_|refine K1.P1 hun ?_|refine K1.y (λ _=>?_) (λ _=>?_)|fail)
   all_goals(conv=>whnf)
   all_goals first
    |exact⟨⟨(j+1,y::ys),hjl,by first|exact n1 a_ a_|exact n2 a_|exact n3 a_ a_⟩,_,dO.mk' [] _ _ _ rfl ⟨au,au,au,au,au,au,aY.int rfl,aY.int rfl,trivial⟩ ⟨ay rfl,ay rfl,ay rfl,trivial⟩ rfl,by show l.length-(j+1)<l.length-j;omega⟩
    |(refine⟨⟨(j+1,y::(ys++[l.getD j default])),hjl,by first|exact y1 a_ a_|exact y2 a_ a_ a_⟩,_,dO.mk' [(93,90)] _ _ _ rfl ⟨au,au,au,au,au,au,aY.int rfl,aY.int rfl,trivial⟩ ⟨ay rfl,ay rfl,⟨_,rfl,dK.row s_ (λ m hm=>?_)⟩,trivial⟩ rfl,by show l.length-(j+1)<l.length-j;omega⟩
      exact dP (c:=Ev.cs) (l:=y::ys) rfl rfl m hm)
  ·have e:bg l cr=y::ys:=by rw[hys,aoF o_];rfl
   rw[hr]at e;subst e;repeat' ((conv=>whnf);first|refine K1.u ?_|refine aU.uV d rfl rfl (dK.refl _) (au)|fail)
theorem Sr(d:Nat)(l cr:List Ev)(hl:l.length<=1000000000)(hc:cr.length<=1000000000)(r:Ev)(rs:List Ev)(hr:bg l cr=r::rs):
  aH prog 124 [.sl 12 l.length true (dI l),.sl 12 cr.length true (dI cr)] (.own d) [(d,.row 83 12 (rs.length+1) true (dI (r::rs)))]:=
 La d l cr hl hc (r::rs) hr
theorem Sv(l cr:List Ev)(hl:l.length<=1000000000)(hc:cr.length<=1000000000)(hr:bg l cr=[]):
  aH prog 124 [.sl 12 l.length true (dI l),.sl 12 cr.length true (dI cr)] (.v (.slice none 0 0)) []:=
 La 0 l cr hl hc [] hr
inductive Back(f:FuncId)(aZ:List AV)(C:List Ev):Prop where
 |nil (h:C=[]) (hs:aH prog f aZ (.v (.slice none 0 0)) [])
 |own (h:0<C.length) (hs:∀d,aH prog f aZ (.own d) [(d,.row 83 12 C.length true (dI C))])
theorem VK(l:List Ev)(hl:l.length<=1000000000):Back 123 [.sl 12 l.length true (dI l)] (aF l):=by
 cases h:aF l with
 |nil=>exact .nil rfl (YG l hl h)
 |cons r rs=>exact .own s_ (λ d=>YF d l hl r rs h)
theorem NP(l C:List Ev)(hl:l.length<=1000000000)(hc:C.length<=1000000000):Back 124 [.sl 12 l.length true (dI l),.sl 12 C.length true (dI C)] (bg l C):=by
 cases h:bg l C with
 |nil=>exact .nil rfl (Sv l C hl hc h)
 |cons r rs=>exact .own s_ (λ d=>Sr d l C hl hc r rs h)
theorem Back.args{f:FuncId}{aZ bvs:List AV}{C:List Ev}(h:Back f bvs C)(hc:Ch aZ bvs):Back f aZ C:=by
 cases h with
 |nil h hs=>exact .nil h (hs.args hc)
 |own h hs=>exact .own h λ d=>(hs d).args hc
theorem anC(l:List Ev)(hl:l.length<=1000000000):
  aj prog 84 [(0,.row 83 12 l.length true (dI l))] [.own 0] (.sl 7 (pz l).length false (F8 (pz l))) [(0,.row 83 12 l.length true (dI l))]:=by
 have VL:=VK l hl;have hcl:(aF l).length<=l.length:=aoI ..;have IC:=NP l (aF l) hl o_;have hwl:(bg l (aF l)).length<=l.length:=aoI ..;have hof:pz l=(Lib.compact (sortL ((aF l).map λ e=>dU e.key))).map λ k=>dV ⟨k.toArray⟩ (bg l (aF l)):=rfl;generalize pz l=O at hof⊢;generalize bg l (aF l)=ws at IC hwl hof;generalize aF l=C at VL hcl IC hof;have hcon:=λ k=>RN k ws o_;dsimp only[Cont.cs]at hcon;have amv:C=[]->Back 124 [.sl 12 l.length true (dI l),.v (.slice none 0 0)] ws:=λ h=>by
  subst h;exact IC.args (.same (.of (λ X u h=>C1.gW d_ h) .nil))
 rcases VL with⟨hC,VL⟩|⟨hC,VL⟩;rcases amv hC with⟨hW,IC⟩|⟨hW,IC⟩;rotate_left 2;rcases IC with⟨hW,IC⟩|⟨hW,IC⟩;all_goals refine K1.M 0x7800f05bd func84 10 ?_
 all_goals first
  |(repeat' ((conv=>whnf);first|refine K1.u ?_|refine K1.P1 VL ?_|refine K1.P1 IC ?_|refine K1.z ?_|refine K1.y (λ _=>?_) (λ _=>?_)|fail)
    conv=>whnf
    refine aI.nil 16 80 83 12 (dI []) rfl o_ ?_;conv=>whnf
    refine aI.FP 80 rfl ?_;conv=>whnf
    refine aI.nil 4 82 83 12 (dI []) rfl o_ ?_;conv=>whnf
    refine aI.FP 82 rfl ?_;conv=>whnf)
  |(repeat' ((conv=>whnf);first|refine K1.u ?_|refine K1.P1 VL ?_|refine K1.F1 (IC _) ?_|refine K1.z ?_|refine K1.y (λ _=>?_) (λ _=>?_)|fail)
    conv=>whnf
    refine aI.nil 16 80 83 12 (dI []) rfl o_ ?_;conv=>whnf
    refine aI.FP 80 rfl ?_;conv=>whnf
    refine aI.FP 10 rfl ?_;conv=>whnf)
  |(repeat' ((conv=>whnf);first|refine K1.u ?_|refine K1.F1 (VL _) ?_|refine K1.P1 IC ?_|refine K1.z ?_|refine K1.y (λ _=>?_) (λ _=>?_)|fail)
    conv=>whnf
    refine aI.FP 10 rfl ?_;conv=>whnf
    refine aI.nil 4 82 83 12 (dI []) rfl o_ ?_;conv=>whnf
    refine aI.FP 82 rfl ?_;conv=>whnf)
  |(repeat' ((conv=>whnf);first|refine K1.u ?_|refine K1.F1 (VL _) ?_|refine K1.F1 (IC _) ?_|refine K1.z ?_|refine K1.y (λ _=>?_) (λ _=>?_)|fail)
    conv=>whnf
    refine aI.FP 10 rfl ?_;conv=>whnf
    refine aI.FP 11 rfl ?_;conv=>whnf)
 all_goals
  refine aI.nil 5 90 9 1 (iD []) rfl o_ ?_;conv=>whnf
  refine aI.mk {j:Nat//j<=C.length} (λ j=>⟨[(4,.sl 12 ws.length true (dI ws)),(5,.own 90),(16,.sl 12 C.length true (dI C)),(17,.v (.int .i64 (C.length:Int))),(18,.v (.int .i64 (j.1:Int)))],
    [(90,.row 9 1 ((C.take j.1).map λ e=>dU e.key).length true (iD ((C.take j.1).map λ e=>dU e.key))),(0,.row 83 12 l.length true (dI l))],[[(0,.own 0)]],91⟩) (λ j=>C.length-j.1) ⟨0,aoB _⟩ _
   (dO.mk' [] _ _ _ rfl ⟨by first|exact au|(rw[hW];exact au),au,by first|exact au|(rw[hC];exact au),by first|exact au|exact aY.int (by rw[hC];rfl),aY.int rfl,trivial⟩ ⟨ay rfl,ay rfl,trivial⟩ rfl) ?_
  rintro⟨j,hj⟩;dsimp only;have lm:((C.take j).map λ e=>dU e.key).length=j:=by rw[aoO,aou];omega
  by_cases hjl:j<C.length
  ·have hg:(C.take (j+1)).map (λ e=>dU e.key)=(C.take j).map (λ e=>dU e.key)++[dU (C.getD (j:Int).toNat default).key]:=by
    rw[show(C.getD (j:Int).toNat default)=C.getD j default from rfl,List.getD,aom hjl,apB,aom hjl,apt];rfl
   repeat' ((conv=>whnf);first|refine K1.u ?_|refine K1.z ?_|refine K1.y (λ _=>?_) (λ _=>?_)|fail)
   conv=>whnf
   refine⟨⟨j+1,hjl⟩,_,dO.mk' [(93,90)] _ _ _ rfl ⟨au,au,au,au,aY.int rfl,trivial⟩ ⟨⟨_,rfl,dK.row ?_ (λ m hm=>?_)⟩,ay rfl,trivial⟩ rfl,by show C.length-(j+1)<C.length-j;omega⟩
   ·show _=((C.take (j+1)).map λ e=>dU e.key).length;rw[hg,aop];rfl
   ·show _=iD ((C.take (j+1)).map λ e=>dU e.key) m;rw[hg];exact KG (x:=dU (C.getD (j:Int).toNat default).key) rfl (by rw[Es];rfl) m hm
  ·rw[aoF (show C.length<=j by omega)]at lm⊢;generalize(C.map λ e=>dU e.key)=K at lm hof⊢;have hso:=xH K o_;have hsl:(sortL K).length=K.length:=apX ..;have hco:=qB (sortL K) o_;have hle:=xI (sortL K);rw[hsl]at hco hle;generalize Lib.compact (sortL K)=M at hco hle hof;repeat' ((conv=>whnf);first|refine K1.u ?_|refine K1.C 1 [(0,_)] (hso) rfl ?_|refine K1.C 1 [(0,_)] (hco) rfl ?_|refine K1.z ?_|refine K1.y (λ _=>?_) (λ _=>?_)|fail)
   conv=>whnf
   refine aI.nil 8 190 68 7 (F8 []) rfl o_ ?_;conv=>whnf
   refine aI.mk {j:Nat//j<=M.length} (λ j=>⟨[(4,.sl 12 ws.length true (dI ws)),(8,.own 190),(31,.own 92),(32,.v (.int .i64 (M.length:Int))),(33,.v (.int .i64 (j.1:Int)))],
    [(92,.row 9 1 M.length true (iD M)),(190,.row 68 7 ((M.take j.1).map λ k=>dV ⟨k.toArray⟩ ws).length false (F8 ((M.take j.1).map λ k=>dV ⟨k.toArray⟩ ws))),(0,.row 83 12 l.length true (dI l))],[[(0,.own 0)]],191⟩) (λ j=>M.length-j.1) ⟨0,aoB _⟩ _
    (dO.mk' [] _ _ _ rfl ⟨au,au,au,aY.int rfl,aY.int rfl,trivial⟩ ⟨ay rfl,⟨_,rfl,dK.aif rfl (λ i hi=>absurd hi (aoM i))⟩,ay rfl,trivial⟩ rfl) ?_
   rintro⟨j,hj⟩;dsimp only;have lo:((M.take j).map λ k=>dV ⟨k.toArray⟩ ws).length=j:=by rw[aoO,aou];omega
   by_cases hjl:j<M.length
   ·have hg:(M.take (j+1)).map (λ k=>dV ⟨k.toArray⟩ ws)=(M.take j).map (λ k=>dV ⟨k.toArray⟩ ws)++[dV ⟨(M.getD (j:Int).toNat []).toArray⟩ ws]:=by
     rw[show M.getD (j:Int).toNat []=M.getD j []from rfl,List.getD,aom hjl,apB,aom hjl,apt];rfl
    repeat' ((conv=>whnf);first|refine K1.w ?_|refine K1.a ?_|refine K1.b ?_|refine K1.d ?_|refine K1.P1 (hcon _) ?_|refine K1.z ?_|refine K1.q ?_|refine K1.bt ?_|refine K1.bf ?_|refine K1.y (λ _=>?_) (λ _=>?_)|refine vK.dec (λ _=>?_) (λ _=>?_)|refine vK.mk (λ _=>?_) (λ _=>?_))
    rotate_left
    ·exact absurd (show Nat.ble _ _=false by assumption) (by rw[aqD,Nat.ble_eq];omega)
    conv=>whnf
    refine⟨⟨j+1,hjl⟩,_,dO.mk' [(192,190)] _ _ _ rfl ⟨au,au,au,aY.int rfl,aY.int rfl,trivial⟩ ⟨ay rfl,⟨_,rfl,dK.row ?_ (λ m hm=>?_)⟩,ay rfl,trivial⟩ rfl,by show M.length-(j+1)<M.length-j;omega⟩
    ·show _=((M.take (j+1)).map λ k=>dV ⟨k.toArray⟩ ws).length;rw[hg,aop];rfl
    ·show _=F8 ((M.take (j+1)).map λ k=>dV ⟨k.toArray⟩ ws) m;rw[hg];exact dP (c:=Cont.cs) rfl rfl m hm
   ·rw[aoF (show M.length<=j by omega)]at lo⊢;rw[hof];repeat' ((conv=>whnf);first|refine K1.u ?_|refine K1.z ?_|refine K1.y (λ _=>?_) (λ _=>?_)|fail)
    conv=>whnf
    exact⟨[],rfl,rfl,⟨ay rfl,trivial⟩,rfl,rfl,au⟩

theorem nV.five{r:Nat}(hr:r<5){K:Nat->Prop}(h0:r=0->K 0)(h1:r=1->K 1)(h2:r=2->K 2)(h3:r=3->K 3)(h4:r=4->K 4):nV (r:Int) 5 K:=by
 rcases(show r=0\/r=1\/r=2\/r=3\/r=4 by omega)with rfl|rfl|rfl|rfl|rfl
 ·exact .lit 0 rfl rfl (h0 rfl)
 ·exact .lit 1 rfl rfl (h1 rfl)
 ·exact .lit 2 rfl rfl (h2 rfl)
 ·exact .lit 3 rfl rfl (h3 rfl)
 ·exact .lit 4 rfl rfl (h4 rfl)
structure jY where
 (base:Int)(kept:List Ev)
def jY.len(s:jY):Int:=s.base+(s.kept.length:Int)
def Sz(most base:Int)(m:AV):AO:= .box 240 [.v (.int .i64 most),.v (.int .i64 base),m]
def SA(most:Int)(s:jY)(_:Unit):List (Nat×AO):=[(0,Sz most s.base (.own 9)),(9,bH s.kept)]
def EJ(most:Int)(s:jY):OB:=OB.pack (SA most s)
theorem Lc(most:Int)(s:jY):Closes (SA most s ()) 0 (EJ most s):=Closes.pack (SA most s) () rfl λ _ hok=>vY (hok _ aol)
theorem abW(most:Int)(s:jY):Closes [(0,Sz most s.base (.own 8)),(8,bH s.kept)] 0 (EJ most s):=
 Closes.imp (Lc most s) λ X hnd hok=>by
  have h0:=hok _ aol;have h8:=hok (8,bH s.kept) (aoq _ aol);have e:ah (atV X.ρ 9 (X.ρ 8)) (SA most s ())=ah X.ρ [(0,Sz most s.base (.own 8)),(8,bH s.kept)]:=rfl;refine⟨atV X.ρ 9 (X.ρ 8),rfl,by rw[e];exact hnd,λ b hb=>by rw[e]at hb;exact hb,λ p hp=>?_⟩;simp only[SA,aot,apy,or_false]at hp;rcases hp with rfl|rfl
  ·obtain⟨b,us,h1,h2,h3,h4⟩:=h0;exact⟨b,us,h1,h2,h3,λ i x u hx hu=>by
    match i,hx with
    |0,hx=>cases hx;exact h4 0 _ u rfl hu
    |1,hx=>cases hx;exact h4 1 _ u rfl hu
    |2,hx=>cases hx;exact h4 2 _ u rfl hu⟩
  ·exact h8
theorem alc(most base:Int):Closes [(0,Sz most base (.v (.slice none 0 0)))] 0 (EJ most ⟨base,[]⟩):=
 Closes.imp (Lc most ⟨base,[]⟩) λ X hnd hok=>by
  have h0:=hok _ aol;have e:ah (atV X.ρ 9 (.slice none 0 0)) (SA most ⟨base,[]⟩ ())=ah X.ρ [(0,Sz most base (.v (.slice none 0 0)))]:=rfl;refine⟨atV X.ρ 9 (.slice none 0 0),rfl,by rw[e];exact hnd,λ b hb=>by rw[e]at hb;exact hb,λ p hp=>?_⟩;simp only[SA,aot,apy,or_false]at hp;rcases hp with rfl|rfl
  ·obtain⟨b,us,h1,h2,h3,h4⟩:=h0;exact⟨b,us,h1,h2,h3,λ i x u hx hu=>by
    match i,hx with
    |0,hx=>cases hx;exact h4 0 _ u rfl hu
    |1,hx=>cases hx;exact h4 1 _ u rfl hu
    |2,hx=>cases hx;exact h4 2 _ u rfl hu⟩
  ·exact⟨[],apA X.w _ _ _,o_,λ i hi=>absurd hi s_,(λ _ x hx=>by cases hx),aG.nil⟩
theorem YH{s s':jY}(hE:Enters prog f)(h:aj prog f [(0,Sz most s.base (.own 9)),(9,bH s.kept)] aZ r ([(0,Sz most s'.base (.own 9)),(9,bH s'.kept)]++ho))
  (hb:(aZ.all (pO (λ _=>false) 0)&&fV (λ i=>bP i ho) 0 r&&fU ho ho&& !(bP 0 ho))=true):aj prog f [(0,.obs (EJ most s))] aZ r ((0,.obs (EJ most s'))::ho):=
 aj.opn hE (Opens.pack (SA most s)) (λ _=>⟨_,Lc most s',rfl,rfl,h⟩) hb
theorem aax{s s':jY}(hE:Enters prog f)(h:aj prog f [(0,Sz most s.base (.own 9)),(9,bH s.kept)] aZ r ([(0,Sz most s'.base (.own 8)),(8,bH s'.kept)]++ho))
  (hb:(aZ.all (pO (λ _=>false) 0)&&fV (λ i=>bP i ho) 0 r&&fU ho ho&& !(bP 0 ho))=true):aj prog f [(0,.obs (EJ most s))] aZ r ((0,.obs (EJ most s'))::ho):=
 aj.opn hE (Opens.pack (SA most s)) (λ _=>⟨_,abW most s',rfl,rfl,h⟩) hb
theorem zU(most:Int):aj prog 99 [] [.v (.int .i64 most)] (.box 0 0) [(0,.obs (EJ most ⟨0,[]⟩))]:=by
 refine aj.cls (hs':=[(0,Sz most 0 (.v (.slice none 0 0)))]) (ho:=[]) (alc most 0) ?_ rfl;dsimp only[Sz,List.append_nil];refine K1.M 0x5 func99 10 ?_
 all_goals(conv=>whnf)
 exact⟨[(10,0)],rfl,rfl,⟨ay rfl,trivial⟩,rfl,rfl,au⟩
theorem abX(most:Int)(s:jY):aj prog 97 [(0,.obs (EJ most s))] [.box 0 0] (.v (.int .i64 s.base)) [(0,.obs (EJ most s))]:=by
 refine YH (ho:=[]) ⟨_,_,func97,rfl,rfl⟩ ?_ rfl;dsimp only[Sz,bH,List.append_nil];refine K1.M 0x5 func97 10 ?_
 all_goals(conv=>whnf)
 exact⟨[],rfl,rfl,⟨ay rfl,ay rfl,trivial⟩,rfl,rfl,au⟩
theorem afx(most:Int)(s:jY)(h0:0<=s.base)(h1:s.base<=1000000000000)(h2:s.kept.length<=1048576):aj prog 98 [(0,.obs (EJ most s))] [.box 0 0] (.v (.int .i64 s.len)) [(0,.obs (EJ most s))]:=by
 refine YH (ho:=[]) ⟨_,_,func98,rfl,rfl⟩ ?_ rfl;dsimp only[Sz,bH,List.append_nil];refine K1.M 0x5 func98 10 ?_;repeat' ((conv=>whnf);first|refine K1.u ?_|fail)
 all_goals(conv=>whnf)
 exact⟨[],rfl,rfl,⟨ay rfl,ay rfl,trivial⟩,rfl,rfl,au⟩
def qM(n:Int)(e:Ev):Bool:=decide (n<e.n)
theorem VN{p:Ev->Bool}{l:List Ev}{j:Nat}(h:j<l.length):(l.take (j+1)).filter p=(l.take j).filter p++(if p (l.getD j default)then [l.getD j default]else []):=by
 rw[aqf h,apT];have e:l[j]=l.getD j default:=by simp[List.getD,h]
 rw[e];congr 1;cases hp:p (l.getD j default)<;>simp only[apo,List.filter_nil,hp]<;>rfl
theorem abY(most:Int)(s:jY)(n:Int)(h2:s.kept.length<=1048576):
  aj prog 180 [(0,.obs (EJ most s))] [.box 0 0,.v (.int .i64 n)] (.own 1) [(0,.obs (EJ most s)),(1,bH (s.kept.filter (qM n)))]:=by
 refine YH ⟨_,_,func180,rfl,rfl⟩ ?_ rfl;obtain⟨base,l⟩:=s;dsimp only[Sz,bH,List.cons_append,List.nil_append]at h2⊢;refine K1.M 0x1078b3 func180 10 ?_
 conv=>whnf
 refine aI.nil 5 90 83 12 (dI []) rfl o_ ?_;refine aI.mk {j:Nat//j<=l.length} (λ j=>⟨[(13,.v (.int .i64 (j.1:Int))),(12,.v (.int .i64 (l.length:Int))),(11,.own 9),(5,.own 90),(1,.v (.int .i64 n))],[(90,.row 83 12 ((l.take j.1).filter (qM n)).length true (dI ((l.take j.1).filter (qM n)))),(0,.box 240 [.v (.int .i64 most),.v (.int .i64 base),.own 9]),(9,.row 83 12 l.length true (dI l))],[[(0,.box 0 0),(1,.own 9)]],91⟩)
  (λ j=>l.length-j.1) ⟨0,aoB _⟩ _ (dO.mk' [] _ _ _ rfl ⟨aY.int rfl,au,au,au,au,trivial⟩ ⟨ay rfl,ay rfl,ay rfl,trivial⟩ rfl) ?_
 rintro⟨j,hj⟩;dsimp only;by_cases hjl:j<l.length
 ·have hf:=VN (p:=qM n) hjl;have hb:Nat.ble ((j:Int).toNat+1) l.length=true:=apm (by rw[apc];exact hjl);have e:l.getD j default=l.getD (j:Int).toNat default:=rfl;rw[e]at hf;have hfl:=aoI (qM n) (l.take j);rw[aou]at hfl;cases ho:qM n (l.getD (j:Int).toNat default)with
  |true=>
   have hq:n<(l.getD (j:Int).toNat default).n:=by simpa[qM]using ho
   rw[ho,if_pos rfl]at hf;repeat' ((conv=>whnf);first|refine K1.u ?_|fail)
   all_goals(conv=>whnf)
   refine⟨⟨j+1,hjl⟩,_,dO.mk' [(93,90)] _ _ _ rfl ⟨aY.int rfl,au,au,au,au,trivial⟩ ⟨⟨_,rfl,dK.row (by rw[hf];simp) (λ m hm=>?_)⟩,ay rfl,ay rfl,trivial⟩ rfl,by show l.length-(j+1)<l.length-j;omega⟩;rw[hf];exact dP (c:=Ev.cs) (l:=(l.take j).filter (qM n)) rfl rfl m hm
  |false=>
   have hq:¬n<(l.getD (j:Int).toNat default).n:=by simpa[qM]using ho
   rw[ho,if_neg s_,aor]at hf;repeat' ((conv=>whnf);first|refine K1.u ?_|fail)
   all_goals(conv=>whnf)
   exact⟨⟨j+1,hjl⟩,_,dO.mk' [] _ _ _ rfl ⟨aY.int rfl,au,au,au,au,trivial⟩ ⟨⟨_,rfl,by rw[hf];exact dK.refl _⟩,ay rfl,ay rfl,trivial⟩ rfl,by show l.length-(j+1)<l.length-j;omega⟩
 ·have e1:l.take j=l:=aoF o_;rw[e1];repeat' ((conv=>whnf);first|refine K1.u ?_|fail)
  all_goals(conv=>whnf)
  exact⟨[(90,1)],rfl,rfl,⟨ay rfl,ay rfl,ay rfl,trivial⟩,rfl,rfl,au⟩
theorem VO(most base:Int)(l:List Ev)(h0:0<=base)(h1:base<=1000000000000)(h2:l.length<=1048576):aj prog 98 [(0,Sz most base (.own 1)),(1,bH l)] [.box 0 0] (.v (.int .i64 (base+l.length))) [(0,Sz most base (.own 1)),(1,bH l)]:=by
 dsimp only[Sz,bH];refine K1.M 0x5 func98 10 ?_;repeat' ((conv=>whnf);first|refine K1.u ?_|fail)
 all_goals(conv=>whnf)
 exact⟨[],rfl,rfl,⟨ay rfl,ay rfl,trivial⟩,rfl,rfl,au⟩
theorem afy{k:Nat}{f:Nat->List AV}(h:m<k):Ud 0 k f f' m=f' m:=by
 have hb:Nat.ble k m=false:=by
  rw[aoU];intro e;have:=aox e;omega
 show(bif Nat.ble k (m-0)then _ else f' (m-0))=f' m;rw[aqo,hb];rfl
theorem afz{α:Type}[Inhabited α]{c:α->List AV}{l:List α}(k m:Nat):og c (l.drop k) m=og c l (k+m):=by
 show c ((l.drop k).getD m default)=c (l.getD (k+m) default);simp only[aoG,apC]
def tu(base len n:Int):Int:=if(if base+len<n then base+len else n)>base then(if base+len<n then base+len else n)else base
theorem EK(base len n:Int)(h:0<=len):base<=tu base len n/\tu base len n<=base+len:=by
 unfold tu;split<;>(try split)<;>omega
def jO(s:jY)(n:Int):jY:=⟨tu s.base s.kept.length n,s.kept.drop (tu s.base s.kept.length n-s.base).toNat⟩
theorem afA(most:Int)(s:jY)(n:Int)(h0:0<=s.base)(h1:s.base<=1000000000000)(h2:s.kept.length<=1048576):
  aj prog 141 [(0,.obs (EJ most s))] [.box 0 0,.v (.int .i64 n)] (.bI []) [(0,.obs (EJ most (jO s n)))]:=by
 refine aax (ho:=[]) ⟨_,_,func141,rfl,rfl⟩ ?_ rfl;obtain⟨base,l⟩:=s;dsimp only[List.append_nil,jO]at h0 h1 h2⊢;have hl:=VO most base l h0 h1 h2;have hc:=EK base l.length n o_;dsimp only[Sz,bH]at hl⊢;refine K1.M 0x33 func141 10 ?_;repeat' ((conv=>whnf);first|refine K1.u ?_|refine K1.C 2 [(0,_),(1,_)] (hl) rfl ?_|refine K1.o (id:=0) (nN [0,1,2,3,4,5] ((6,some [])::nN [7,8,9] [])) ?_|fail)
 all_goals(conv=>whnf)
 generalize hb:tu base l.length n=b at hc⊢;unfold tu at hb;rw[hb];clear hb;repeat' ((conv=>whnf);first|refine K1.u ?_|refine AMk.full o_ rfl (by simp only;omega) o_ ?_|refine ASl.part ?_|refine K1.o (id:=2) (nN [0,1,2,3,4,5,6,7,8,9,10,11] [(12,some [10,9,7,4,2])]) ?_|fail)
 all_goals(conv=>whnf)
 refine⟨[(12,8)],rfl,rfl,⟨ay rfl,⟨_,rfl,dK.row (by rw[aoK];omega) (λ m hm=>?_)⟩,trivial⟩,rfl,rfl,au⟩;exact(afy (show m<l.length-(b-base).toNat by have hm:m<(base+(l.length:Int)-b).toNat:=hm;omega)).trans (afz _ _).symm
theorem aiD{a b:Nat}{z f:Nat->List AV}(h:m<a+b):Ud a b (Ud 0 a z f) f' m=kV a f f' m:=by
 show kV a (Ud 0 a z f) (kV b f' _) m=kV a f f' m;unfold kV;cases hb:Nat.ble a m with
 |true=>
  have:=aox hb;have hb2:Nat.ble b (m-a)=false:=by
   rw[aoU];intro e;have:=aox e;omega
  simp only[cond_true,hb2,cond_false]
 |false=>
  have hlt:m<a:=by
   rcases aoP m a with h1|h1
   ·exact h1
   ·rw[apm h1]at hb;cases hb
  simp only[cond_false];exact afy hlt
def rQ(s:jY)(l:List Ev)(j:Nat):Prop:=if j=0 then(l.getD 0 default).n<=s.len+1 else(l.getD j default).n=(l.getD (j-1) default).n+1
instance(s:jY)(l:List Ev)(j:Nat):Decidable (rQ s l j):=by unfold rQ;infer_instance
def newS(s:jY)(l:List Ev):List Ev:=l.dropWhile λ e=>decide (e.n<=s.len)
def jZ(most:Int)(s:jY)(l:List Ev):jY×Int:=
 if(List.range l.length).all (λ j=>decide (rQ s l j))then
  (if newS s l=[]then(s,0)else if most<(s.kept.length:Int)+((newS s l).length:Int)then(s,21)else(⟨s.base,s.kept++newS s l⟩,0))
 else(s,20)
theorem VP(most:Int)(s s':jY)(l:List Ev)(x:Int)(h0:0<=s.base)(h1:s.base<=1000000000000)(h2:s.kept.length<=1048576)(h3:l.length<=1000000)(hN:∀j,0<=(l.getD j default).n/\(l.getD j default).n<=1000000000)(hp:jZ most s l=(s',x)):
  aj prog 102 [(0,.obs (EJ most s))] [.box 0 0,.sl 12 l.length true (dI l)] (.v (.int .i64 x)) [(0,.obs (EJ most s'))]:=by
 refine aax (ho:=[]) ⟨_,_,func102,rfl,rfl⟩ ?_ rfl;obtain⟨base,k⟩:=s;have hl:=VO most base k h0 h1 h2;dsimp only[Sz,bH,List.append_nil]at h0 h1 h2 hl⊢;refine K1.M 0x2000840020000001ff3 func102 10 ?_
 conv=>whnf
 refine aI.mk {j:Nat//j<=l.length/\ ∀i,i<j->rQ ⟨base,k⟩ l i} (λ j=>⟨[(11,.v (.int .i64 (j.1:Int))),(10,.v (.int .i64 (l.length:Int))),(9,.sl 12 l.length true (dI l)),(0,.box 0 0),(1,.sl 12 l.length true (dI l))],[(0,.box 240 [.v (.int .i64 most),.v (.int .i64 base),.own 9]),(9,.row 83 12 k.length true (dI k))],[[(0,.box 0 0),(1,.own 9)]],10⟩)
  (λ j=>l.length-j.1) ⟨0,aoB _,λ i hi=>absurd hi (aoM _)⟩ _ (dO.mk' [] _ _ _ rfl ⟨aY.int rfl,au,au,au,au,trivial⟩ ⟨ay rfl,ay rfl,trivial⟩ rfl) ?_
 rintro⟨j,hj,hok⟩;dsimp only;have back:∀(hjl:j<l.length),rQ ⟨base,k⟩ l j-> ∃y:{j:Nat//j<=l.length/\ ∀i,i<j->rQ ⟨base,k⟩ l i},y.1=j+1:=λ hjl h=>⟨⟨j+1,hjl,λ i hi=>by
  rcases aoP i j with hi'|hi'
  ·exact hok i hi'
  ·obtain rfl:i=j:=o_
   exact h⟩,rfl⟩
 by_cases hjl:j<l.length
 ·have bad:¬rQ ⟨base,k⟩ l j->s'=⟨base,k⟩/\x=20:=λ h=>by
   unfold jZ at hp;rw[if_neg (λ hall=>h (by
    have:=aoD.1 hall j (ap4.2 hjl);simpa using this))]at hp
   cases hp;exact⟨rfl,rfl⟩
  by_cases hj0:j=0
  ·have hn:=hN (j:Int).toNat;by_cases ho:rQ ⟨base,k⟩ l j
   ·obtain⟨y,hy⟩:=back hjl ho;have ho':(l.getD (j:Int).toNat default).n<=base+(k.length:Int)+1:=by
     unfold rQ at ho;rw[if_pos hj0]at ho;rw[show(j:Int).toNat=0 by omega];exact ho
    repeat' ((conv=>whnf);first|refine K1.u ?_|refine K1.C 2 [(0,_),(1,_)] (hl) rfl ?_|refine K1.o (id:=4) (nN [0,1,2,3,4,5] ((6,some [1])::nN [7,8,9,10,11,12,13,14,15,16,17,18,19,20,21,22,23,24,25] [])) ?_|fail)
    all_goals(conv=>whnf)
    all_goals exact⟨y,_,dO.mk' [] _ _ _ rfl ⟨aY.int (by rw[hy];rfl),au,au,au,au,trivial⟩ ⟨ay rfl,ay rfl,trivial⟩ rfl,by show l.length-y.1<l.length-j;omega⟩
   ·obtain⟨rfl,rfl⟩:=bad ho;have ho':¬ (l.getD (j:Int).toNat default).n<=base+(k.length:Int)+1:=by
     unfold rQ at ho;rw[if_pos hj0]at ho;rw[show(j:Int).toNat=0 by omega];exact ho
    repeat' ((conv=>whnf);first|refine K1.u ?_|refine K1.C 2 [(0,_),(1,_)] (hl) rfl ?_|refine K1.o (id:=4) (nN [0,1,2,3,4,5] ((6,some [1])::nN [7,8,9,10,11,12,13,14,15,16,17,18,19,20,21,22,23,24,25] [])) ?_|fail)
    all_goals(conv=>whnf)
    all_goals exact⟨[(9,8)],rfl,rfl,⟨ay rfl,ay rfl,trivial⟩,rfl,rfl,au⟩
  ·have hn:=hN ((j:Int)-1).toNat;have hm:=hN (j:Int).toNat;by_cases ho:rQ ⟨base,k⟩ l j
   ·obtain⟨y,hy⟩:=back hjl ho;have ho':(l.getD (j:Int).toNat default).n=(l.getD ((j:Int)-1).toNat default).n+1:=by
     unfold rQ at ho;rw[if_neg hj0]at ho;rw[show((j:Int)-1).toNat=j-1 by omega,show(j:Int).toNat=j by omega];exact ho
    repeat' ((conv=>whnf);first|refine K1.u ?_|refine K1.o (id:=4) (nN [0,1,2,3,4,5] ((6,some [1])::nN [7,8,9,10,11,12,13,14,15,16,17,18,19,20,21,22,23,24,25] [])) ?_|fail)
    all_goals(conv=>whnf)
    all_goals exact⟨y,_,dO.mk' [] _ _ _ rfl ⟨aY.int (by rw[hy];rfl),au,au,au,au,trivial⟩ ⟨ay rfl,ay rfl,trivial⟩ rfl,by show l.length-y.1<l.length-j;omega⟩
   ·obtain⟨rfl,rfl⟩:=bad ho;have ho':¬ (l.getD (j:Int).toNat default).n=(l.getD ((j:Int)-1).toNat default).n+1:=by
     unfold rQ at ho;rw[if_neg hj0]at ho;rw[show((j:Int)-1).toNat=j-1 by omega,show(j:Int).toNat=j by omega];exact ho
    repeat' ((conv=>whnf);first|refine K1.u ?_|refine K1.o (id:=4) (nN [0,1,2,3,4,5] ((6,some [1])::nN [7,8,9,10,11,12,13,14,15,16,17,18,19,20,21,22,23,24,25] [])) ?_|fail)
    all_goals(conv=>whnf)
    all_goals exact⟨[(9,8)],rfl,rfl,⟨ay rfl,ay rfl,trivial⟩,rfl,rfl,au⟩
 ·have hall:(List.range l.length).all (λ j=>decide (rQ ⟨base,k⟩ l j))=true:=aoD.2 λ i hi=>decide_eq_true (hok i (by have:=ap4.1 hi;omega));unfold jZ at hp;rw[if_pos hall]at hp;clear hall back hok;repeat' ((conv=>whnf);first|refine K1.u ?_|fail)
  conv=>whnf
  have hN':∀e∈l,0<=e.n/\e.n<=1000000000:=λ e he=>by
   obtain⟨i,hi,rfl⟩:=ape he;have:=hN i;rwa [show l.getD i default=l[i] by simp[List.getD,hi]]at this
  clear hN;refine aI.mk {t:List Ev//newS ⟨base,k⟩ l=t.dropWhile (λ e=>decide (e.n<=(⟨base,k⟩:jY).len))/\t.length<=l.length/\ ∀e∈t,0<=e.n/\e.n<=1000000000} (λ t=>⟨[(0,.box 0 0),(1,.sl 12 t.1.length true (dI t.1))],[(0,.box 240 [.v (.int .i64 most),.v (.int .i64 base),.own 9]),(9,.row 83 12 k.length true (dI k))],[[(0,.box 0 0),(1,.own 9)]],10⟩)
   (λ t=>t.1.length) ⟨l,rfl,aoH _,hN'⟩ _ (dO.mk' [] _ _ _ rfl ⟨au,au,trivial⟩ ⟨ay rfl,ay rfl,trivial⟩ rfl) ?_
  rintro⟨t,hnew,htl,hN⟩;dsimp only;rw[hnew]at hp;rcases t with _|⟨e,t⟩
  ·have hlen:(([]:List Ev).length:Int)=0:=rfl;rw[List.dropWhile_nil,if_pos rfl]at hp;obtain⟨rfl,rfl⟩:=Prod.mk.inj hp;repeat' ((conv=>whnf);first|refine K1.u ?_|refine K1.o (id:=7) (nN [0,1,2,3,4,5,6,7,8] ((9,some [2])::nN [10,11] [])) ?_|fail)
   all_goals(conv=>whnf)
   all_goals exact⟨[(9,8)],rfl,rfl,⟨ay rfl,ay rfl,trivial⟩,rfl,rfl,au⟩
  ·have hen:=hN e aol;have hlen:((e::t).length:Int)=(t.length:Int)+1:=s_
   by_cases hle:e.n<=base+(k.length:Int)
   ·have hle0:(dI (e::t) 0)=Ev.cs e:=rfl;have hnext:newS ⟨base,k⟩ l=t.dropWhile (λ e=>decide (e.n<=(⟨base,k⟩:jY).len)):=by
     rw[hnew,List.dropWhile_cons_of_pos (by rw[decide_eq_true_eq];exact hle)]
    clear hp;repeat' ((conv=>whnf);first|refine K1.u ?_|refine K1.C 2 [(0,_),(1,_)] (hl) rfl ?_|refine K1.o (id:=7) (nN [0,1,2,3,4,5,6,7,8] ((9,some [2])::nN [10,11] [])) ?_|fail)
    all_goals(conv=>whnf)
    refine⟨⟨t,hnext,by rw[aoE]at htl;omega,λ e he=>hN e (aoq _ he)⟩,_,dO.mk' [] _ _ _ rfl ⟨au,aY.sl s_ (λ i _=>?_),trivial⟩ ⟨ay rfl,ay rfl,trivial⟩ rfl,s_⟩;show dI (e::t) (1+i)=dI t i;rw[Nat.add_comm];rfl
   ·have hd:(e::t).dropWhile (λ e=>decide (e.n<=(⟨base,k⟩:jY).len))=e::t:=List.dropWhile_cons_of_neg (by rw[decide_eq_true_eq];exact hle);rw[hd,if_neg s_]at hp;by_cases hm:most<(k.length:Int)+((e::t).length:Int)
    ·rw[if_pos hm]at hp;obtain⟨rfl,rfl⟩:=Prod.mk.inj hp;repeat' ((conv=>whnf);first|refine K1.u ?_|refine K1.C 2 [(0,_),(1,_)] (hl) rfl ?_|refine K1.o (id:=7) (nN [0,1,2,3,4,5,6,7,8] ((9,some [2])::nN [10,11] [])) ?_|fail)
     all_goals(conv=>whnf)
     all_goals exact⟨[(9,8)],rfl,rfl,⟨ay rfl,ay rfl,trivial⟩,rfl,rfl,au⟩
    ·rw[if_neg hm]at hp;obtain⟨rfl,rfl⟩:=Prod.mk.inj hp;repeat' ((conv=>whnf);first|refine K1.u ?_|refine K1.C 2 [(0,_),(1,_)] (hl) rfl ?_|refine AMk.full o_ rfl (by simp only;omega) o_ ?_|refine ASl.part ?_|refine K1.o (id:=7) (nN [0,1,2,3,4,5,6,7,8] ((9,some [2])::nN [10,11] [])) ?_|fail)
     all_goals(conv=>whnf)
     refine⟨[(11,8)],rfl,rfl,⟨ay rfl,⟨_,rfl,dK.row (by show((k.length:Int)+((e::t).length:Int)).toNat=(k++e::t).length;rw[aop];omega) (λ m hm=>?_)⟩,trivial⟩,rfl,rfl,au⟩;refine(aiD (a:=k.length) (b:=(e::t).length) (by have hm:m<((k.length:Int)+((e::t).length:Int)).toNat:=hm;omega)).trans ?_;exact els_app (c:=Ev.cs) (l:=k) (l':=e::t) rfl m
instance:Inhabited aV:=⟨⟨0,0,0,0,0⟩⟩
def yQ(c:aV):List AV:=[.v (.int .i64 c.c0),.v (.int .i64 c.c1),.v (.int .i64 c.c2),.v (.int .i64 c.c3),.v (.int .i64 c.c4)]
abbrev clF(l:List aV):Nat->List AV:=og yQ l
structure Pt where
 (sh:List jY)(told:List aV)
def ptrs:Nat->List jY->List AV
 |_,[]=>[]
 |i,_::l=> .box i 0::ptrs (i+1) l
def YI(most:Int):Nat->List jY->List (Nat×AO)
 |_,[]=>[]
 |i,s::l=>(i,.obs (EJ most s))::YI most (i+1) l
def ptB:AO:= .box 204 [.own 10,.own 11]
def wC(l:List aV):AO:= .row 41 5 l.length true (clF l)
def rD(most:Int)(p:Pt)(_:Unit):List (Nat×AO):=(0,ptB)::(10,.rn (200:Nat) (ptrs 20 p.sh))::(11,wC p.told)::YI most 20 p.sh
def Bd(most:Int)(p:Pt):OB:=OB.pack (rD most p)
theorem VQ(most:Int)(p:Pt):Closes (rD most p ()) 0 (Bd most p):=Closes.pack (rD most p) () rfl λ _ hok=>vY (hok _ aol)
def yR(n:Nat):Pt:=⟨List.replicate n ⟨0,[]⟩,List.replicate n aW⟩
theorem EL{n:Nat}(h:m<n):clF (List.replicate n aW) m=yQ aW:=by
 show yQ ((List.replicate n aW).getD m default)=_;rw[aoG,ap',if_pos h];rfl
theorem afB(w q h l p:Int):aj prog 63 [] [.agg [.v (.int .i64 1),.v (.int .i64 w),.v (.int .i64 q),.v (.int .i64 h),.v (.int .i64 l),.v (.int .i64 p)]] (.box 0 0) (rD w (yR 1) ()):=by
 dsimp only[rD,yR,List.replicate,ptB,wC,ptrs,YI];refine K1.M 0xe01f func63 40 ?_;repeat' ((conv=>whnf);first|refine K1.u ?_|refine K1.C 0 [] (zU _) rfl ?_|refine AMk.full d_ rfl d_ d_ ?_|refine aI.yP 14 6 rfl ?_|refine K1.o (id:=5) (nN [0,1,2,3,4,5,6] ((7,some [6])::(8,some [6])::(9,some [6,4,2])::nN [10,11] [(12,some [6,4,2,10])])) ?_|fail)
 all_goals(conv=>whnf)
 exact⟨[(42,0),(45,10),(41,11),(43,20)],rfl,rfl,⟨ay rfl,ay rfl,⟨_,rfl,dK.row rfl (λ m hm=>(EL (n:=1) hm).symm)⟩,ay rfl,trivial⟩,rfl,rfl,au⟩
theorem afC(w q h l p:Int):aj prog 63 [] [.agg [.v (.int .i64 2),.v (.int .i64 w),.v (.int .i64 q),.v (.int .i64 h),.v (.int .i64 l),.v (.int .i64 p)]] (.box 0 0) (rD w (yR 2) ()):=by
 dsimp only[rD,yR,List.replicate,ptB,wC,ptrs,YI];refine K1.M 0xe01f func63 40 ?_;repeat' ((conv=>whnf);first|refine K1.u ?_|refine K1.C 0 [] (zU _) rfl ?_|refine AMk.full d_ rfl d_ d_ ?_|refine aI.yP 14 6 rfl ?_|refine K1.o (id:=5) (nN [0,1,2,3,4,5,6] ((7,some [6])::(8,some [6])::(9,some [6,4,2])::nN [10,11] [(12,some [6,4,2,10])])) ?_|fail)
 all_goals(conv=>whnf)
 exact⟨[(42,0),(48,10),(41,11),(43,20),(46,21)],rfl,rfl,⟨ay rfl,ay rfl,⟨_,rfl,dK.row rfl (λ m hm=>(EL (n:=2) hm).symm)⟩,ay rfl,ay rfl,trivial⟩,rfl,rfl,au⟩
theorem afD(w q h l p:Int):aj prog 63 [] [.agg [.v (.int .i64 3),.v (.int .i64 w),.v (.int .i64 q),.v (.int .i64 h),.v (.int .i64 l),.v (.int .i64 p)]] (.box 0 0) (rD w (yR 3) ()):=by
 dsimp only[rD,yR,List.replicate,ptB,wC,ptrs,YI];refine K1.M 0xe01f func63 40 ?_;repeat' ((conv=>whnf);first|refine K1.u ?_|refine K1.C 0 [] (zU _) rfl ?_|refine AMk.full d_ rfl d_ d_ ?_|refine aI.yP 14 6 rfl ?_|refine K1.o (id:=5) (nN [0,1,2,3,4,5,6] ((7,some [6])::(8,some [6])::(9,some [6,4,2])::nN [10,11] [(12,some [6,4,2,10])])) ?_|fail)
 all_goals(conv=>whnf)
 exact⟨[(42,0),(51,10),(41,11),(43,20),(46,21),(49,22)],rfl,rfl,⟨ay rfl,ay rfl,⟨_,rfl,dK.row rfl (λ m hm=>(EL (n:=3) hm).symm)⟩,ay rfl,ay rfl,ay rfl,trivial⟩,rfl,rfl,au⟩
theorem afE(w q h l p:Int):aj prog 63 [] [.agg [.v (.int .i64 4),.v (.int .i64 w),.v (.int .i64 q),.v (.int .i64 h),.v (.int .i64 l),.v (.int .i64 p)]] (.box 0 0) (rD w (yR 4) ()):=by
 dsimp only[rD,yR,List.replicate,ptB,wC,ptrs,YI];refine K1.M 0xe01f func63 40 ?_;repeat' ((conv=>whnf);first|refine K1.u ?_|refine K1.C 0 [] (zU _) rfl ?_|refine AMk.full d_ rfl d_ d_ ?_|refine aI.yP 14 6 rfl ?_|refine K1.o (id:=5) (nN [0,1,2,3,4,5,6] ((7,some [6])::(8,some [6])::(9,some [6,4,2])::nN [10,11] [(12,some [6,4,2,10])])) ?_|fail)
 all_goals(conv=>whnf)
 exact⟨[(42,0),(54,10),(41,11),(43,20),(46,21),(49,22),(52,23)],rfl,rfl,⟨ay rfl,ay rfl,⟨_,rfl,dK.row rfl (λ m hm=>(EL (n:=4) hm).symm)⟩,ay rfl,ay rfl,ay rfl,ay rfl,trivial⟩,rfl,rfl,au⟩
theorem afF(w q h l p:Int):aj prog 63 [] [.agg [.v (.int .i64 5),.v (.int .i64 w),.v (.int .i64 q),.v (.int .i64 h),.v (.int .i64 l),.v (.int .i64 p)]] (.box 0 0) (rD w (yR 5) ()):=by
 dsimp only[rD,yR,List.replicate,ptB,wC,ptrs,YI];refine K1.M 0xe01f func63 40 ?_;repeat' ((conv=>whnf);first|refine K1.u ?_|refine K1.C 0 [] (zU _) rfl ?_|refine AMk.full d_ rfl d_ d_ ?_|refine aI.yP 14 6 rfl ?_|refine K1.o (id:=5) (nN [0,1,2,3,4,5,6] ((7,some [6])::(8,some [6])::(9,some [6,4,2])::nN [10,11] [(12,some [6,4,2,10])])) ?_|fail)
 all_goals(conv=>whnf)
 exact⟨[(42,0),(57,10),(41,11),(43,20),(46,21),(49,22),(52,23),(55,24)],rfl,rfl,⟨ay rfl,ay rfl,⟨_,rfl,dK.row rfl (λ m hm=>(EL (n:=5) hm).symm)⟩,ay rfl,ay rfl,ay rfl,ay rfl,ay rfl,trivial⟩,rfl,rfl,au⟩
theorem VR(c:kR)(n:Nat)(hn:c.n=(n:Int))(h1:1<=n)(h5:n<=5):aj prog 63 [] [c.av] (.box 0 0) [(0,.obs (Bd c.w (yR n)))]:=by
 refine aj.cls (hs':=rD c.w (yR n) ()) (ho:=[]) (VQ _ _) ?_ rfl;obtain⟨cn,w,q,h,l,p⟩:=c;dsimp only at hn⊢;subst hn;rw[aor];rcases(show n=1\/n=2\/n=3\/n=4\/n=5 by omega)with rfl|rfl|rfl|rfl|rfl
 ·exact afB w q h l p
 ·exact afC w q h l p
 ·exact afD w q h l p
 ·exact afE w q h l p
 ·exact afF w q h l p
end Go.Proofs.YtifjccndenojlaaGreat
