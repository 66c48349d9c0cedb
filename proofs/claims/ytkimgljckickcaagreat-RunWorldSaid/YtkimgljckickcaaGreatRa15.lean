/-
  Contracts of the walk:LvG,TxL,BkM,BkX2,MkM,NdIa,HbA,HbB,HbC,HbD,HbE,HbF.
-/
import Derived.Test.YtkimgljckickcaaGreatRa14
import Derived.Test.YtkimgljckickcaaGreatRa9
import Derived.Test.YtkimgljckickcaaGreatRa10
import Derived.Test.YtkimgljckickcaaGreatRa12
import Derived.Test.YtkimgljckickcaaGreatRa11
set_option maxHeartbeats 16000000
set_option maxRecDepth 100000
set_option linter.unusedVariables false
set_option linter.unusedSimpArgs false
namespace Go.Proofs.YtkimgljckickcaaGreat
open Go.RowKit
open Go.Proofs.Tryz
variable{r:AV}{f:FuncId}{most:Int}{ho:List (Nat×AO)}{aW:List AV}{m:Nat}{f':Nat->List AV}
theorem aaz(l:List Ev)(e:Ev)(hk:e.k=5)(r:Ev)(rs:List Ev)(hr:l.filter (dO 4 (λ a=>decide (a.l=e.l)&&decide (a.v=e.v)) e)=r::rs)(hl:l.length<=1000000000):
  aj prog 188 [(0,jM l)] [.own 0,e.av] (.own 1) [(1,jM (r::rs))]:=by
 have hw:=yY 224 (λ a=>decide (a.l=e.l)&&decide (a.v=e.v)) 4 e (Ic e) l r rs hr hl;have hlf:=anj (dO 4 (λ a=>decide (a.l=e.l)&&decide (a.v=e.v)) e) l;rw[hr]at hlf;simp only[anb]at hlf;dsimp only[Ev.av,Ev.cs]at hw⊢;refine K1.M 0x2020021041bb func188 10 ?_;repeat' ((conv=>whnf);first|refine K1.u ?_|refine K1.C 2 [(0,_),(1,_)] (hw) rfl ?_|fail)
 all_goals(conv=>whnf)
 first
  |exact iF [(11,1)]
  |fail
theorem aaA(l:List Ev)(e:Ev)(hk:e.k=5)(hr:l.filter (dO 4 (λ a=>decide (a.l=e.l)&&decide (a.v=e.v)) e)=[])(hl:l.length<=1000000000):
  aj prog 188 [(0,jM l)] [.own 0,e.av] (.v (.slice none 0 0)) []:=by
 have hw:=yZ 224 (λ a=>decide (a.l=e.l)&&decide (a.v=e.v)) 4 e (Ic e) l hr hl;have hlf:=anj (dO 4 (λ a=>decide (a.l=e.l)&&decide (a.v=e.v)) e) l;rw[hr]at hlf;simp only[anD]at hlf;dsimp only[Ev.av,Ev.cs]at hw⊢;refine K1.M 0x2020021041bb func188 10 ?_;repeat' ((conv=>whnf);first|refine K1.u ?_|refine K1.C 2 [(0,_),(1,_)] (hw) rfl ?_|fail)
 all_goals(conv=>whnf)
 exact iF []
theorem aec(l:List Ev)(e:Ev)(hk:e.k=4)(hc:l.any (JL e)=false)(hl:l.length<=1000000000):
  aj prog 188 [(0,jM l)] [.own 0,e.av] (.own 0) [(0,jM l)]:=by
 have hcr:=iH l e o_;rw[hc]at hcr;dsimp only[Ev.av,Ev.cs]at hcr⊢;refine K1.M 0x2020021041bb func188 10 ?_;repeat' ((conv=>whnf);first|refine K1.u ?_|refine K1.P1 hcr ?_|fail)
 all_goals(conv=>whnf)
 exact iF []
theorem aaB(l:List Ev)(e:Ev)(hk:e.k=2)(r:Ev)(rs:List Ev)(hr:l.filter (dO 1 (λ _=>true) e)=r::rs)(x:Ev)(xs:List Ev)(hx:(r::rs).filter (sF (r::rs))=x::xs)(hl:l.length<=1000000000):
  aj prog 188 [(0,jM l)] [.own 0,e.av] (.own 1) [(1,jM (x::xs))]:=by
 have hlf:=anj (dO 1 (λ _=>true) e) l;rw[hr]at hlf;have hw:=D5 221 (λ _=>true) 1 e Xj l r rs hr hl;have hc:=λ d=>Un d (r::rs) x xs hx o_;dsimp only[Ev.av,Ev.cs]at hw⊢;refine K1.M 0x2020021041bb func188 10 ?_;repeat' ((conv=>whnf);first|refine K1.u ?_|refine K1.C 1 [(0,_)] (hw) rfl ?_|refine K1.F1 (hc _) ?_|fail)
 all_goals(conv=>whnf)
 first
  |exact iF [(12,1)]
  |fail
theorem aaC(l:List Ev)(e:Ev)(hk:e.k=2)(r:Ev)(rs:List Ev)(hr:l.filter (dO 1 (λ _=>true) e)=r::rs)(hx:(r::rs).filter (sF (r::rs))=[])(hl:l.length<=1000000000):
  aj prog 188 [(0,jM l)] [.own 0,e.av] (.v (.slice none 0 0)) []:=by
 have hlf:=anj (dO 1 (λ _=>true) e) l;rw[hr]at hlf;have hw:=D5 221 (λ _=>true) 1 e Xj l r rs hr hl;have hc:=Gv (r::rs) hx o_;dsimp only[Ev.av,Ev.cs]at hw⊢;refine K1.M 0x2020021041bb func188 10 ?_;repeat' ((conv=>whnf);first|refine K1.u ?_|refine K1.C 1 [(0,_)] (hw) rfl ?_|refine K1.P1 hc ?_|fail)
 all_goals(conv=>whnf)
 exact iF []
theorem aaD(l:List Ev)(e:Ev)(hk:e.k=2)(hr:l.filter (dO 1 (λ _=>true) e)=[])(hl:l.length<=1000000000):
  aj prog 188 [(0,jM l)] [.own 0,e.av] (.v (.slice none 0 0)) []:=by
 have hlf:=anj (dO 1 (λ _=>true) e) l;rw[hr]at hlf;have hw:=Qz 221 (λ _=>true) 1 e Xj l hr hl;have hc:=Gv [] rfl d_;dsimp only[Ev.av,Ev.cs]at hw⊢;refine K1.M 0x2020021041bb func188 10 ?_;repeat' ((conv=>whnf);first|refine K1.u ?_|refine K1.C 1 [(0,_)] (hw) rfl ?_|refine bQ.plain _ _ hc (GY.cons (.nil 12 true (dA []) d_) .nil) rfl ?_|fail)
 all_goals(conv=>whnf)
 exact iF []
def akQ(d:Nat):List Ev->AV
 |[]=> .v (.slice none 0 0)
 |_::_=> .own d
def akR(d:Nat):List Ev->List (Nat×AO)
 |[]=>[]
 |r::rs=>[(d,.row 74 12 (rs.length+1) true (dA (r::rs)))]
theorem Uu(d:Nat)(l:List Ev)(hl:l.length<=1000000000)(R:List Ev)(hr:aB l=R):
  aF prog 57 [.sl 12 l.length true (dA l)] (akQ d R) (akR d R):=by
 refine K1.E 0x800f5d func57 ?_
 conv=>whnf
 refine aI.mk (agL (bP l) l) (λ x=>match x with
  |⟨(j,[]),_⟩=>⟨[(0,.sl 12 l.length true (dA l)),(3,.box 0 0),(4,.v (.slice none 0 0)),(8,.sl 12 l.length true (dA l)),(9,.v (.int .i64 (l.length:Int))),(10,.v (.int .i64 (j:Int)))],
    [(0,.box 189 [.v (.int .i64 2),.v (.func (.func 101) #[] #[])])],[],1⟩
  |⟨(j,y::ys),_⟩=>⟨[(0,.sl 12 l.length true (dA l)),(3,.box 0 0),(4,.own 90),(8,.sl 12 l.length true (dA l)),(9,.v (.int .i64 (l.length:Int))),(10,.v (.int .i64 (j:Int)))],
    [(0,.box 189 [.v (.int .i64 2),.v (.func (.func 101) #[] #[])]),(90,.row 74 12 (ys.length+1) true (dA (y::ys)))],[],91⟩) (λ x=>l.length-x.1.1) ⟨(0,[]),ane _,rfl⟩ _
  (dZ.mk' [] _ _ _ rfl gQ nM rfl) ?_
 rintro⟨⟨j,ys⟩,hj,hys⟩;dsimp only at hj hys;rcases ys with _|⟨y,ys⟩
 ·dsimp only;by_cases hjl:j<l.length
  ·have hab:=wQ 2 101 fM rY l (l.getD (j:Int).toNat default) o_;have hft:=jq (p:=bP l) hjl;rw[<-hys,ano]at hft;have hlv:bP l (l.getD j default)=(decide ((l.getD (j:Int).toNat default).k=1)&& !fK 2 fM l (l.getD (j:Int).toNat default)):=by rw[show(j:Int).toNat=j by omega];rfl
   rw[hlv]at hft;generalize fK 2 fM l (l.getD (j:Int).toNat default)=q at hab hft;have hk0:¬ (l.getD (j:Int).toNat default).k=1->([]:List Ev)=(l.take (j+1)).filter (bP l):=λ h=>by rw[hft,decide_eq_false h];simp
   have hq0:q=true->([]:List Ev)=(l.take (j+1)).filter (bP l):=λ h=>by rw[hft,h];simp
   have hq1:(l.getD (j:Int).toNat default).k=1->q=false->[l.getD j default]=(l.take (j+1)).filter (bP l):=λ h h'=>by rw[hft,decide_eq_true h,h'];simp
   clear hft hlv;dsimp only[Ev.av,Ev.cs]at hab⊢;repeat' ((conv=>whnf);first|refine K1.u ?_|refine K1.P1 hab ?_|refine K1.y (λ _=>?_) (λ _=>?_)|fail)
   all_goals(conv=>whnf)
   all_goals first
    |exact⟨⟨(j+1,[]),hjl,by first|exact hk0 a_|exact hq0 a_⟩,_,dZ.mk' [] _ _ _ rfl gQ nM rfl,by show l.length-(j+1)<l.length-j;omega⟩
    |(refine⟨⟨(j+1,[l.getD j default]),hjl,hq1 a_ a_⟩,_,dZ.mk' [(3,90)] _ _ _ rfl gQ ⟨dB rfl,⟨_,rfl,dK.row rfl (λ m hm=>?_)⟩,trivial⟩ rfl,by show l.length-(j+1)<l.length-j;omega⟩
      have hm:m<1:=hm;obtain rfl:m=0:=o_
      rfl)
  ·have e:aB l=[]:=by rw[hys,anf o_];rfl
   rw[hr]at e;subst e;repeat' ((conv=>whnf);first|refine K1.u ?_|refine aT.fH ?_|fail)
   conv=>whnf
   exact bF.mk (bY)
 ·dsimp only;have hyl:ys.length+1<=j:=by
   have h1:=congrArg List.length hys;have h2:=anj (bP l) (l.take j);rw[am5]at h2;rw[anb]at h1;omega
  by_cases hjl:j<l.length
  ·have hab:=wQ 2 101 fM rY l (l.getD (j:Int).toNat default) o_;have hft:=jq (p:=bP l) hjl;rw[<-hys]at hft;have hlv:bP l (l.getD j default)=(decide ((l.getD (j:Int).toNat default).k=1)&& !fK 2 fM l (l.getD (j:Int).toNat default)):=by rw[show(j:Int).toNat=j by omega];rfl
   rw[hlv]at hft;generalize fK 2 fM l (l.getD (j:Int).toNat default)=q at hab hft;have hk0:¬ (l.getD (j:Int).toNat default).k=1->y::ys=(l.take (j+1)).filter (bP l):=λ h=>by rw[hft,decide_eq_false h];simp
   have hq0:q=true->y::ys=(l.take (j+1)).filter (bP l):=λ h=>by rw[hft,h];simp
   have hq1:(l.getD (j:Int).toNat default).k=1->q=false->y::(ys++[l.getD j default])=(l.take (j+1)).filter (bP l):=λ h h'=>by rw[hft,decide_eq_true h,h'];simp
   clear hft hlv;dsimp only[Ev.av,Ev.cs]at hab⊢;repeat' ((conv=>whnf);first|refine K1.u ?_|refine K1.P1 hab ?_|refine K1.y (λ _=>?_) (λ _=>?_)|fail)
   all_goals(conv=>whnf)
   all_goals first
    |exact⟨⟨(j+1,y::ys),hjl,by first|exact hk0 a_|exact hq0 a_⟩,_,dZ.mk' [] _ _ _ rfl gQ nM rfl,by show l.length-(j+1)<l.length-j;omega⟩
    |(refine⟨⟨(j+1,y::(ys++[l.getD j default])),hjl,hq1 a_ a_⟩,_,dZ.mk' [(93,90)] _ _ _ rfl gQ ⟨dB rfl,⟨_,rfl,dK.row s_ (λ m hm=>?_)⟩,trivial⟩ rfl,by show l.length-(j+1)<l.length-j;omega⟩
      exact eF (c:=Ev.cs) (l:=y::ys) rfl rfl m hm)
  ·have e:aB l=y::ys:=by rw[hys,anf o_];rfl
   rw[hr]at e;subst e;repeat' ((conv=>whnf);first|refine K1.u ?_|refine aT.uX d rfl rfl (dK.refl _) (bY)|fail)
theorem Xk(d:Nat)(l:List Ev)(hl:l.length<=1000000000)(r:Ev)(rs:List Ev)(hr:aB l=r::rs):
  aF prog 57 [.sl 12 l.length true (dA l)] (.own d) [(d,.row 74 12 (rs.length+1) true (dA (r::rs)))]:=
 Uu d l hl (r::rs) hr
theorem Xl(l:List Ev)(hl:l.length<=1000000000)(hr:aB l=[]):
  aF prog 57 [.sl 12 l.length true (dA l)] (.v (.slice none 0 0)) []:=
 Uu 0 l hl [] hr
theorem JQ(d:Nat)(l cr:List Ev)(hl:l.length<=1000000000)(hc:cr.length<=1000000000)(R:List Ev)(hr:bI l cr=R):
  aF prog 58 [.sl 12 l.length true (dA l),.sl 12 cr.length true (dA cr)] (akQ d R) (akR d R):=by
 refine K1.E 0x4004218f2f3 func58 ?_
 conv=>whnf
 refine aI.mk (agL (countB l cr) l) (λ x=>match x with
  |⟨(j,[]),_⟩=>⟨[(0,.sl 12 l.length true (dA l)),(1,.sl 12 cr.length true (dA cr)),(5,.box 0 0),(6,.box 1 0),(7,.v (.slice none 0 0)),(12,.sl 12 l.length true (dA l)),(13,.v (.int .i64 (l.length:Int))),(14,.v (.int .i64 (j:Int)))],
    [(0,.box 189 [.v (.int .i64 1),.v (.func (.func 101) #[] #[])]),(1,.box 189 [.v (.int .i64 5),.v (.func (.func 103) #[] #[])])],[],2⟩
  |⟨(j,y::ys),_⟩=>⟨[(0,.sl 12 l.length true (dA l)),(1,.sl 12 cr.length true (dA cr)),(5,.box 0 0),(6,.box 1 0),(7,.own 90),(12,.sl 12 l.length true (dA l)),(13,.v (.int .i64 (l.length:Int))),(14,.v (.int .i64 (j:Int)))],
    [(0,.box 189 [.v (.int .i64 1),.v (.func (.func 101) #[] #[])]),(1,.box 189 [.v (.int .i64 5),.v (.func (.func 103) #[] #[])]),(90,.row 74 12 (ys.length+1) true (dA (y::ys)))],[],91⟩) (λ x=>l.length-x.1.1) ⟨(0,[]),ane _,rfl⟩ _
  (dZ.mk' [] _ _ _ rfl gQ nM rfl) ?_
 rintro⟨⟨j,ys⟩,hj,hys⟩;dsimp only at hj hys;rcases ys with _|⟨y,ys⟩
 ·dsimp only;by_cases hjl:j<l.length
  ·have hab:=wQ 5 103 lq Jv l (l.getD (j:Int).toNat default) o_;have hun:=Jw 1 101 fM rY cr (l.getD (j:Int).toNat default) o_;have hft:=jq (p:=countB l cr) hjl;rw[<-hys,ano]at hft;have hlv:countB l cr (l.getD j default)=((decide ((l.getD (j:Int).toNat default).k=3)||(decide ((l.getD (j:Int).toNat default).k=4)&& !fK 5 lq l (l.getD (j:Int).toNat default)))&&iq 1 fM cr (l.getD (j:Int).toNat default)):=by rw[show(j:Int).toNat=j by omega];rfl
   rw[hlv]at hft;generalize fK 5 lq l (l.getD (j:Int).toNat default)=q1 at hab hft;generalize iq 1 fM cr (l.getD (j:Int).toNat default)=q2 at hun hft;have n1:¬ (l.getD (j:Int).toNat default).k=3-> ¬ (l.getD (j:Int).toNat default).k=4->([]:List Ev)=(l.take (j+1)).filter (countB l cr):=λ h h'=>by rw[hft,decide_eq_false h,decide_eq_false h'];simp
   have n2:q2=false->([]:List Ev)=(l.take (j+1)).filter (countB l cr):=λ h=>by rw[hft,h];simp
   have n3:(l.getD (j:Int).toNat default).k=4->q1=true->([]:List Ev)=(l.take (j+1)).filter (countB l cr):=λ h h'=>by rw[hft,decide_eq_false (show¬ (l.getD (j:Int).toNat default).k=3 by omega),h'];simp
   have y1:(l.getD (j:Int).toNat default).k=3->q2=true->[l.getD j default]=(l.take (j+1)).filter (countB l cr):=λ h h'=>by rw[hft,decide_eq_true h,h'];simp
   have y2:(l.getD (j:Int).toNat default).k=4->q1=false->q2=true->[l.getD j default]=(l.take (j+1)).filter (countB l cr):=λ h h' h2=>by rw[hft,decide_eq_true h,h',h2];simp
   clear hft hlv;dsimp only[Ev.av,Ev.cs]at hab hun⊢;repeat' ((conv=>whnf);first|refine K1.u ?_|refine K1.P1 hab ?_|refine K1.P1 hun ?_|refine K1.y (λ _=>?_) (λ _=>?_)|fail)
   all_goals(conv=>whnf)
   all_goals first
    |exact⟨⟨(j+1,([]:List Ev)),hjl,by first|exact n1 a_ a_|exact n2 a_|exact n3 a_ a_⟩,_,dZ.mk' [] _ _ _ rfl gQ nM rfl,by show l.length-(j+1)<l.length-j;omega⟩
    |(refine⟨⟨(j+1,[l.getD j default]),hjl,by first|exact y1 a_ a_|exact y2 a_ a_ a_⟩,_,dZ.mk' [(4,90)] _ _ _ rfl gQ ⟨dB rfl,dB rfl,⟨_,rfl,dK.row s_ (λ m hm=>?_)⟩,trivial⟩ rfl,by show l.length-(j+1)<l.length-j;omega⟩
      have hm:m<1:=hm;obtain rfl:m=0:=o_
      rfl)
  ·have e:bI l cr=([]:List Ev):=by rw[hys,anf o_];rfl
   rw[hr]at e;subst e;repeat' ((conv=>whnf);first|refine K1.u ?_|refine aT.fH ?_|fail)
   conv=>whnf
   exact bF.mk (bY)
 ·dsimp only;have hyl:ys.length+1<=j:=by
   have h1:=congrArg List.length hys;have h2:=anj (countB l cr) (l.take j);rw[am5]at h2;rw[anb]at h1;omega
  by_cases hjl:j<l.length
  ·have hab:=wQ 5 103 lq Jv l (l.getD (j:Int).toNat default) o_;have hun:=Jw 1 101 fM rY cr (l.getD (j:Int).toNat default) o_;have hft:=jq (p:=countB l cr) hjl;rw[<-hys]at hft;have hlv:countB l cr (l.getD j default)=((decide ((l.getD (j:Int).toNat default).k=3)||(decide ((l.getD (j:Int).toNat default).k=4)&& !fK 5 lq l (l.getD (j:Int).toNat default)))&&iq 1 fM cr (l.getD (j:Int).toNat default)):=by rw[show(j:Int).toNat=j by omega];rfl
   rw[hlv]at hft;generalize fK 5 lq l (l.getD (j:Int).toNat default)=q1 at hab hft;generalize iq 1 fM cr (l.getD (j:Int).toNat default)=q2 at hun hft;have n1:¬ (l.getD (j:Int).toNat default).k=3-> ¬ (l.getD (j:Int).toNat default).k=4->y::ys=(l.take (j+1)).filter (countB l cr):=λ h h'=>by rw[hft,decide_eq_false h,decide_eq_false h'];simp
   have n2:q2=false->y::ys=(l.take (j+1)).filter (countB l cr):=λ h=>by rw[hft,h];simp
   have n3:(l.getD (j:Int).toNat default).k=4->q1=true->y::ys=(l.take (j+1)).filter (countB l cr):=λ h h'=>by rw[hft,decide_eq_false (show¬ (l.getD (j:Int).toNat default).k=3 by omega),h'];simp
   have y1:(l.getD (j:Int).toNat default).k=3->q2=true->y::(ys++[l.getD j default])=(l.take (j+1)).filter (countB l cr):=λ h h'=>by rw[hft,decide_eq_true h,h'];simp
   have y2:(l.getD (j:Int).toNat default).k=4->q1=false->q2=true->y::(ys++[l.getD j default])=(l.take (j+1)).filter (countB l cr):=λ h h' h2=>by rw[hft,decide_eq_true h,h',h2];simp
   clear hft hlv;dsimp only[Ev.av,Ev.cs]at hab hun⊢;repeat' ((conv=>whnf);first|refine K1.u ?_|refine K1.P1 hab ?_|refine K1.P1 hun ?_|refine K1.y (λ _=>?_) (λ _=>?_)|fail)
   all_goals(conv=>whnf)
   all_goals first
    |exact⟨⟨(j+1,y::ys),hjl,by first|exact n1 a_ a_|exact n2 a_|exact n3 a_ a_⟩,_,dZ.mk' [] _ _ _ rfl gQ nM rfl,by show l.length-(j+1)<l.length-j;omega⟩
    |(refine⟨⟨(j+1,y::(ys++[l.getD j default])),hjl,by first|exact y1 a_ a_|exact y2 a_ a_ a_⟩,_,dZ.mk' [(93,90)] _ _ _ rfl gQ ⟨dB rfl,dB rfl,⟨_,rfl,dK.row s_ (λ m hm=>?_)⟩,trivial⟩ rfl,by show l.length-(j+1)<l.length-j;omega⟩
      exact eF (c:=Ev.cs) (l:=y::ys) rfl rfl m hm)
  ·have e:bI l cr=y::ys:=by rw[hys,anf o_];rfl
   rw[hr]at e;subst e;repeat' ((conv=>whnf);first|refine K1.u ?_|refine aT.uX d rfl rfl (dK.refl _) (bY)|fail)
theorem QA(d:Nat)(l cr:List Ev)(hl:l.length<=1000000000)(hc:cr.length<=1000000000)(r:Ev)(rs:List Ev)(hr:bI l cr=r::rs):
  aF prog 58 [.sl 12 l.length true (dA l),.sl 12 cr.length true (dA cr)] (.own d) [(d,.row 74 12 (rs.length+1) true (dA (r::rs)))]:=
 JQ d l cr hl hc (r::rs) hr
theorem QB(l cr:List Ev)(hl:l.length<=1000000000)(hc:cr.length<=1000000000)(hr:bI l cr=[]):
  aF prog 58 [.sl 12 l.length true (dA l),.sl 12 cr.length true (dA cr)] (.v (.slice none 0 0)) []:=
 JQ 0 l cr hl hc [] hr
inductive Back(f:FuncId)(aW:List AV)(C:List Ev):Prop where
 |nil (h:C=[]) (hs:aF prog f aW (.v (.slice none 0 0)) [])
 |own (h:0<C.length) (hs:∀d,aF prog f aW (.own d) [(d,.row 74 12 C.length true (dA C))])
theorem Uw(l:List Ev)(hl:l.length<=1000000000):Back 57 [.sl 12 l.length true (dA l)] (aB l):=by
 cases h:aB l with
 |nil=>exact .nil rfl (Xl l hl h)
 |cons r rs=>exact .own s_ (λ d=>Xk d l hl r rs h)
theorem LW(l C:List Ev)(hl:l.length<=1000000000)(hc:C.length<=1000000000):Back 58 [.sl 12 l.length true (dA l),.sl 12 C.length true (dA C)] (bI l C):=by
 cases h:bI l C with
 |nil=>exact .nil rfl (QB l C hl hc h)
 |cons r rs=>exact .own s_ (λ d=>QA d l C hl hc r rs h)
theorem Back.args{f:FuncId}{aW bvs:List AV}{C:List Ev}(h:Back f bvs C)(hc:Ch aW bvs):Back f aW C:=by
 cases h with
 |nil h hs=>exact .nil h (hs.args hc)
 |own h hs=>exact .own h λ d=>(hs d).args hc
theorem al4(l:List Ev)(hl:l.length<=1000000000):
  aj prog 27 [(0,.row 74 12 l.length true (dA l))] [.own 0] (.sl 7 (qV l).length false (TQ (qV l))) [(0,.row 74 12 l.length true (dA l))]:=by
 have Ux:=Uw l hl;have hcl:(aB l).length<=l.length:=anj ..;have He:=LW l (aB l) hl o_;have hwl:(bI l (aB l)).length<=l.length:=anj ..;have hof:qV l=(Lib.compact (sortL ((aB l).map λ e=>dM e.key))).map λ k=>fC ⟨k.toArray⟩ (bI l (aB l)):=rfl;generalize qV l=O at hof⊢;generalize bI l (aB l)=ws at He hwl hof;generalize aB l=C at Ux hcl He hof;have hcon:=λ k=>Qn k ws o_;dsimp only[Cont.cs]at hcon;have akS:C=[]->Back 58 [.sl 12 l.length true (dA l),.v (.slice none 0 0)] ws:=λ h=>by
  subst h;exact He.args (.same (.of (λ X u h=>C1.iC d_ h) .nil))
 rcases Ux with⟨hC,Ux⟩|⟨hC,Ux⟩;rcases akS hC with⟨hW,He⟩|⟨hW,He⟩;rotate_left 2;rcases He with⟨hW,He⟩|⟨hW,He⟩;all_goals refine K1.M 0x7800f05bd func27 10 ?_
 all_goals first
  |(repeat' ((conv=>whnf);first|refine K1.u ?_|refine K1.P1 Ux ?_|refine K1.P1 He ?_|refine K1.z ?_|refine K1.y (λ _=>?_) (λ _=>?_)|fail)
    conv=>whnf
    refine aI.nil 16 80 74 12 (dA []) rfl o_ ?_;conv=>whnf
    refine aI.EO 80 rfl ?_;conv=>whnf
    refine aI.nil 4 82 74 12 (dA []) rfl o_ ?_;conv=>whnf
    refine aI.EO 82 rfl ?_;conv=>whnf)
  |(repeat' ((conv=>whnf);first|refine K1.u ?_|refine K1.P1 Ux ?_|refine K1.F1 (He _) ?_|refine K1.z ?_|refine K1.y (λ _=>?_) (λ _=>?_)|fail)
    conv=>whnf
    refine aI.nil 16 80 74 12 (dA []) rfl o_ ?_;conv=>whnf
    refine aI.EO 80 rfl ?_;conv=>whnf
    refine aI.EO 10 rfl ?_;conv=>whnf)
  |(repeat' ((conv=>whnf);first|refine K1.u ?_|refine K1.F1 (Ux _) ?_|refine K1.P1 He ?_|refine K1.z ?_|refine K1.y (λ _=>?_) (λ _=>?_)|fail)
    conv=>whnf
    refine aI.EO 10 rfl ?_;conv=>whnf
    refine aI.nil 4 82 74 12 (dA []) rfl o_ ?_;conv=>whnf
    refine aI.EO 82 rfl ?_;conv=>whnf)
  |(repeat' ((conv=>whnf);first|refine K1.u ?_|refine K1.F1 (Ux _) ?_|refine K1.F1 (He _) ?_|refine K1.z ?_|refine K1.y (λ _=>?_) (λ _=>?_)|fail)
    conv=>whnf
    refine aI.EO 10 rfl ?_;conv=>whnf
    refine aI.EO 11 rfl ?_;conv=>whnf)
 all_goals
  refine aI.nil 5 90 9 1 (jh []) rfl o_ ?_;conv=>whnf
  refine aI.mk {j:Nat//j<=C.length} (λ j=>⟨[(4,.sl 12 ws.length true (dA ws)),(5,.own 90),(16,.sl 12 C.length true (dA C)),(17,.v (.int .i64 (C.length:Int))),(18,.v (.int .i64 (j.1:Int)))],
    [(90,.row 9 1 ((C.take j.1).map λ e=>dM e.key).length true (jh ((C.take j.1).map λ e=>dM e.key))),(0,.row 74 12 l.length true (dA l))],[[(0,.own 0)]],91⟩) (λ j=>C.length-j.1) ⟨0,ane _⟩ _
   (dZ.mk' [] _ _ _ rfl ⟨by first|exact bY|(rw[hW];exact bY),bY,by first|exact bY|(rw[hC];exact bY),by first|exact bY|exact dJ.int (by rw[hC];rfl),dJ.int rfl,trivial⟩ nM rfl) ?_
  rintro⟨j,hj⟩;dsimp only;have lm:((C.take j).map λ e=>dM e.key).length=j:=by rw[anu,am5];omega
  by_cases hjl:j<C.length
  ·have hg:(C.take (j+1)).map (λ e=>dM e.key)=(C.take j).map (λ e=>dM e.key)++[dM (C.getD (j:Int).toNat default).key]:=by
    rw[show(C.getD (j:Int).toNat default)=C.getD j default from rfl,List.getD,amX hjl,aoa,amX hjl,an2];rfl
   repeat' ((conv=>whnf);first|refine K1.u ?_|refine K1.z ?_|refine K1.y (λ _=>?_) (λ _=>?_)|fail)
   conv=>whnf
   refine⟨⟨j+1,hjl⟩,_,dZ.mk' [(93,90)] _ _ _ rfl gQ ⟨⟨_,rfl,dK.row ?_ (λ m hm=>?_)⟩,dB rfl,trivial⟩ rfl,by show C.length-(j+1)<C.length-j;omega⟩
   ·show _=((C.take (j+1)).map λ e=>dM e.key).length;rw[hg,am0];rfl
   ·show _=jh ((C.take (j+1)).map λ e=>dM e.key) m;rw[hg];exact Jz (x:=dM (C.getD (j:Int).toNat default).key) rfl (by rw[Jy];rfl) m hm
  ·rw[anf (show C.length<=j by omega)]at lm⊢;generalize(C.map λ e=>dM e.key)=K at lm hof⊢;have hso:=wR K o_;have hsl:(sortL K).length=K.length:=aou ..;have hco:=pJ (sortL K) o_;have hle:=wS (sortL K);rw[hsl]at hco hle;generalize Lib.compact (sortL K)=M at hco hle hof;repeat' ((conv=>whnf);first|refine K1.u ?_|refine K1.C 1 [(0,_)] (hso) rfl ?_|refine K1.C 1 [(0,_)] (hco) rfl ?_|refine K1.z ?_|refine K1.y (λ _=>?_) (λ _=>?_)|fail)
   conv=>whnf
   refine aI.nil 8 190 86 7 (TQ []) rfl o_ ?_;conv=>whnf
   refine aI.mk {j:Nat//j<=M.length} (λ j=>⟨[(4,.sl 12 ws.length true (dA ws)),(8,.own 190),(31,.own 92),(32,.v (.int .i64 (M.length:Int))),(33,.v (.int .i64 (j.1:Int)))],
    [(92,.row 9 1 M.length true (jh M)),(190,.row 86 7 ((M.take j.1).map λ k=>fC ⟨k.toArray⟩ ws).length false (TQ ((M.take j.1).map λ k=>fC ⟨k.toArray⟩ ws))),(0,.row 74 12 l.length true (dA l))],[[(0,.own 0)]],191⟩) (λ j=>M.length-j.1) ⟨0,ane _⟩ _
    (dZ.mk' [] _ _ _ rfl gQ ⟨dB rfl,⟨_,rfl,dK.ajd rfl (λ i hi=>absurd hi (anA i))⟩,dB rfl,trivial⟩ rfl) ?_
   rintro⟨j,hj⟩;dsimp only;have lo:((M.take j).map λ k=>fC ⟨k.toArray⟩ ws).length=j:=by rw[anu,am5];omega
   by_cases hjl:j<M.length
   ·have hg:(M.take (j+1)).map (λ k=>fC ⟨k.toArray⟩ ws)=(M.take j).map (λ k=>fC ⟨k.toArray⟩ ws)++[fC ⟨(M.getD (j:Int).toNat []).toArray⟩ ws]:=by
     rw[show M.getD (j:Int).toNat []=M.getD j []from rfl,List.getD,amX hjl,aoa,amX hjl,an2];rfl
    repeat' ((conv=>whnf);first|refine K1.w ?_|refine K1.a ?_|refine K1.b ?_|refine K1.d ?_|refine K1.P1 (hcon _) ?_|refine K1.z ?_|refine K1.q ?_|refine K1.bt ?_|refine K1.bf ?_|refine K1.y (λ _=>?_) (λ _=>?_)|refine uS.dec (λ _=>?_) (λ _=>?_)|refine uS.mk (λ _=>?_) (λ _=>?_))
    rotate_left
    ·exact absurd (show Nat.ble _ _=false by assumption) (by rw[ao9,Nat.ble_eq];omega)
    conv=>whnf
    refine⟨⟨j+1,hjl⟩,_,dZ.mk' [(192,190)] _ _ _ rfl gQ ⟨dB rfl,⟨_,rfl,dK.row ?_ (λ m hm=>?_)⟩,dB rfl,trivial⟩ rfl,by show M.length-(j+1)<M.length-j;omega⟩
    ·show _=((M.take (j+1)).map λ k=>fC ⟨k.toArray⟩ ws).length;rw[hg,am0];rfl
    ·show _=TQ ((M.take (j+1)).map λ k=>fC ⟨k.toArray⟩ ws) m;rw[hg];exact eF (c:=Cont.cs) rfl rfl m hm
   ·rw[anf (show M.length<=j by omega)]at lo⊢;rw[hof];repeat' ((conv=>whnf);first|refine K1.u ?_|refine K1.z ?_|refine K1.y (λ _=>?_) (λ _=>?_)|fail)
    conv=>whnf
    exact iF []

theorem mJ.five{r:Nat}(hr:r<5){K:Nat->Prop}(h0:r=0->K 0)(h1:r=1->K 1)(h2:r=2->K 2)(h3:r=3->K 3)(h4:r=4->K 4):mJ (r:Int) 5 K:=by
 rcases(show r=0\/r=1\/r=2\/r=3\/r=4 by omega)with rfl|rfl|rfl|rfl|rfl
 ·exact .lit 0 rfl rfl (h0 rfl)
 ·exact .lit 1 rfl rfl (h1 rfl)
 ·exact .lit 2 rfl rfl (h2 rfl)
 ·exact .lit 3 rfl rfl (h3 rfl)
 ·exact .lit 4 rfl rfl (h4 rfl)
structure jU where
 (base:Int)(kept:List Ev)
def jU.len(s:jU):Int:=s.base+(s.kept.length:Int)
def QC(most base:Int)(m:AV):AO:= .box 304 [.v (.int .i64 most),.v (.int .i64 base),m]
def QD(most:Int)(s:jU)(_:Unit):List (Nat×AO):=[(0,QC most s.base (.own 9)),(9,bn s.kept)]
def D6(most:Int)(s:jU):OB:=OB.pack (QD most s)
theorem JR(most:Int)(s:jU):Closes (QD most s ()) 0 (D6 most s):=Closes.pack (QD most s) () rfl λ _ hok=>vF (hok _ amW)
theorem aaE(most:Int)(s:jU):Closes [(0,QC most s.base (.own 8)),(8,bn s.kept)] 0 (D6 most s):=
 Closes.imp (JR most s) λ X hnd hok=>by
  have h0:=hok _ amW;have h8:=hok (8,bn s.kept) (am1 _ amW);have e:ah (atV X.ρ 9 (X.ρ 8)) (QD most s ())=ah X.ρ [(0,QC most s.base (.own 8)),(8,bn s.kept)]:=rfl;refine⟨atV X.ρ 9 (X.ρ 8),rfl,by rw[e];exact hnd,λ b hb=>by rw[e]at hb;exact hb,λ p hp=>?_⟩;simp only[QD,am4,aol,or_false]at hp;rcases hp with rfl|rfl
  ·obtain⟨b,us,h1,h2,h3,h4⟩:=h0;exact⟨b,us,h1,h2,h3,λ i x u hx hu=>by
    match i,hx with
    |0,hx=>cases hx;exact h4 0 _ u rfl hu
    |1,hx=>cases hx;exact h4 1 _ u rfl hu
    |2,hx=>cases hx;exact h4 2 _ u rfl hu⟩
  ·exact h8
theorem ajy(most base:Int):Closes [(0,QC most base (.v (.slice none 0 0)))] 0 (D6 most ⟨base,[]⟩):=
 Closes.imp (JR most ⟨base,[]⟩) λ X hnd hok=>by
  have h0:=hok _ amW;have e:ah (atV X.ρ 9 (.slice none 0 0)) (QD most ⟨base,[]⟩ ())=ah X.ρ [(0,QC most base (.v (.slice none 0 0)))]:=rfl;refine⟨atV X.ρ 9 (.slice none 0 0),rfl,by rw[e];exact hnd,λ b hb=>by rw[e]at hb;exact hb,λ p hp=>?_⟩;simp only[QD,am4,aol,or_false]at hp;rcases hp with rfl|rfl
  ·obtain⟨b,us,h1,h2,h3,h4⟩:=h0;exact⟨b,us,h1,h2,h3,λ i x u hx hu=>by
    match i,hx with
    |0,hx=>cases hx;exact h4 0 _ u rfl hu
    |1,hx=>cases hx;exact h4 1 _ u rfl hu
    |2,hx=>cases hx;exact h4 2 _ u rfl hu⟩
  ·exact⟨[],aoi X.w _ _ _,o_,λ i hi=>absurd hi s_,(λ _ x hx=>by cases hx),aC.nil⟩
theorem Xm{s s':jU}(hE:Enters prog f)(h:aj prog f [(0,QC most s.base (.own 9)),(9,bn s.kept)] aW r ([(0,QC most s'.base (.own 9)),(9,bn s'.kept)]++ho))
  (hb:(aW.all (oQ (λ _=>false) 0)&&fG (λ i=>bJ i ho) 0 r&&fF ho ho&& !(bJ 0 ho))=true):aj prog f [(0,.obs (D6 most s))] aW r ((0,.obs (D6 most s'))::ho):=
 aj.opn hE (Opens.pack (QD most s)) (λ _=>⟨_,JR most s',rfl,rfl,h⟩) hb
theorem Y3{s s':jU}(hE:Enters prog f)(h:aj prog f [(0,QC most s.base (.own 9)),(9,bn s.kept)] aW r ([(0,QC most s'.base (.own 8)),(8,bn s'.kept)]++ho))
  (hb:(aW.all (oQ (λ _=>false) 0)&&fG (λ i=>bJ i ho) 0 r&&fF ho ho&& !(bJ 0 ho))=true):aj prog f [(0,.obs (D6 most s))] aW r ((0,.obs (D6 most s'))::ho):=
 aj.opn hE (Opens.pack (QD most s)) (λ _=>⟨_,aaE most s',rfl,rfl,h⟩) hb
theorem aed(most:Int):aj prog 170 [] [.v (.int .i64 most)] (.box 0 0) [(0,.obs (D6 most ⟨0,[]⟩))]:=by
 refine aj.cls (hs':=[(0,QC most 0 (.v (.slice none 0 0)))]) (ho:=[]) (ajy most 0) ?_ rfl;dsimp only[QC,List.append_nil];refine K1.M 0x5 func170 10 ?_
 all_goals(conv=>whnf)
 exact iF [(10,0)]
theorem aaF(most:Int)(s:jU):aj prog 140 [(0,.obs (D6 most s))] [.box 0 0] (.v (.int .i64 s.base)) [(0,.obs (D6 most s))]:=by
 refine Xm (ho:=[]) ⟨_,_,func140,rfl,rfl⟩ ?_ rfl;dsimp only[QC,bn,List.append_nil];refine K1.M 0x5 func140 10 ?_
 all_goals(conv=>whnf)
 exact iF []
theorem aee(most:Int)(s:jU)(h0:0<=s.base)(h1:s.base<=1000000000000)(h2:s.kept.length<=1048576):aj prog 141 [(0,.obs (D6 most s))] [.box 0 0] (.v (.int .i64 s.len)) [(0,.obs (D6 most s))]:=by
 refine Xm (ho:=[]) ⟨_,_,func141,rfl,rfl⟩ ?_ rfl;dsimp only[QC,bn,List.append_nil];refine K1.M 0x5 func141 10 ?_;repeat' ((conv=>whnf);first|refine K1.u ?_|fail)
 all_goals(conv=>whnf)
 exact iF []
def ql(n:Int)(e:Ev):Bool:=decide (n<e.n)
theorem Uy{p:Ev->Bool}{l:List Ev}{j:Nat}(h:j<l.length):(l.take (j+1)).filter p=(l.take j).filter p++(if p (l.getD j default)then [l.getD j default]else []):=by
 rw[aoQ h,aoq];have e:l[j]=l.getD j default:=by simp[List.getD,h]
 rw[e];congr 1;cases hp:p (l.getD j default)<;>simp only[anX,List.filter_nil,hp]<;>rfl
theorem aaG(most:Int)(s:jU)(n:Int)(h2:s.kept.length<=1048576):
  aj prog 229 [(0,.obs (D6 most s))] [.box 0 0,.v (.int .i64 n)] (.own 1) [(0,.obs (D6 most s)),(1,bn (s.kept.filter (ql n)))]:=by
 refine Xm ⟨_,_,func229,rfl,rfl⟩ ?_ rfl;obtain⟨base,l⟩:=s;dsimp only[QC,bn,List.cons_append,List.nil_append]at h2⊢;refine K1.M 0x1078b3 func229 10 ?_
 conv=>whnf
 refine aI.nil 5 90 74 12 (dA []) rfl o_ ?_;refine aI.mk {j:Nat//j<=l.length} (λ j=>⟨[(13,.v (.int .i64 (j.1:Int))),(12,.v (.int .i64 (l.length:Int))),(11,.own 9),(5,.own 90),(1,.v (.int .i64 n))],[(90,.row 74 12 ((l.take j.1).filter (ql n)).length true (dA ((l.take j.1).filter (ql n)))),(0,.box 304 [.v (.int .i64 most),.v (.int .i64 base),.own 9]),(9,.row 74 12 l.length true (dA l))],[[(0,.box 0 0),(1,.own 9)]],91⟩)
  (λ j=>l.length-j.1) ⟨0,ane _⟩ _ (dZ.mk' [] _ _ _ rfl gQ nM rfl) ?_
 rintro⟨j,hj⟩;dsimp only;by_cases hjl:j<l.length
 ·have hf:=Uy (p:=ql n) hjl;have hb:Nat.ble ((j:Int).toNat+1) l.length=true:=an0 (by rw[anP];exact hjl);have e:l.getD j default=l.getD (j:Int).toNat default:=rfl;rw[e]at hf;have hfl:=anj (ql n) (l.take j);rw[am5]at hfl;cases ho:ql n (l.getD (j:Int).toNat default)with
  |true=>
   have hq:n<(l.getD (j:Int).toNat default).n:=by simpa[ql]using ho
   rw[ho,if_pos rfl]at hf;repeat' ((conv=>whnf);first|refine K1.u ?_|fail)
   all_goals(conv=>whnf)
   refine⟨⟨j+1,hjl⟩,_,dZ.mk' [(93,90)] _ _ _ rfl gQ ⟨⟨_,rfl,dK.row (by rw[hf];simp) (λ m hm=>?_)⟩,dB rfl,dB rfl,trivial⟩ rfl,by show l.length-(j+1)<l.length-j;omega⟩;rw[hf];exact eF (c:=Ev.cs) (l:=(l.take j).filter (ql n)) rfl rfl m hm
  |false=>
   have hq:¬n<(l.getD (j:Int).toNat default).n:=by simpa[ql]using ho
   rw[ho,if_neg s_,am2]at hf;repeat' ((conv=>whnf);first|refine K1.u ?_|fail)
   all_goals(conv=>whnf)
   exact⟨⟨j+1,hjl⟩,_,dZ.mk' [] _ _ _ rfl gQ ⟨⟨_,rfl,by rw[hf];exact dK.refl _⟩,dB rfl,dB rfl,trivial⟩ rfl,by show l.length-(j+1)<l.length-j;omega⟩
 ·have e1:l.take j=l:=anf o_;rw[e1];repeat' ((conv=>whnf);first|refine K1.u ?_|fail)
  all_goals(conv=>whnf)
  exact iF [(90,1)]
theorem Uz(most base:Int)(l:List Ev)(h0:0<=base)(h1:base<=1000000000000)(h2:l.length<=1048576):aj prog 141 [(0,QC most base (.own 1)),(1,bn l)] [.box 0 0] (.v (.int .i64 (base+l.length))) [(0,QC most base (.own 1)),(1,bn l)]:=by
 dsimp only[QC,bn];refine K1.M 0x5 func141 10 ?_;repeat' ((conv=>whnf);first|refine K1.u ?_|fail)
 all_goals(conv=>whnf)
 exact iF []
theorem aef{k:Nat}{f:Nat->List AV}(h:m<k):RH 0 k f f' m=f' m:=by
 have hb:Nat.ble k m=false:=by
  rw[anw];intro e;have:=am7 e;omega
 show(bif Nat.ble k (m-0)then _ else f' (m-0))=f' m;rw[apk,hb];rfl
theorem aeg{α:Type}[Inhabited α]{c:α->List AV}{l:List α}(k m:Nat):qh c (l.drop k) m=qh c l (k+m):=by
 show c ((l.drop k).getD m default)=c (l.getD (k+m) default);simp only[ang,aop]
def sG(base len n:Int):Int:=if(if base+len<n then base+len else n)>base then(if base+len<n then base+len else n)else base
theorem D7(base len n:Int)(h:0<=len):base<=sG base len n/\sG base len n<=base+len:=by
 unfold sG;split<;>(try split)<;>omega
def jG(s:jU)(n:Int):jU:=⟨sG s.base s.kept.length n,s.kept.drop (sG s.base s.kept.length n-s.base).toNat⟩
theorem aeh(most:Int)(s:jU)(n:Int)(h0:0<=s.base)(h1:s.base<=1000000000000)(h2:s.kept.length<=1048576):
  aj prog 210 [(0,.obs (D6 most s))] [.box 0 0,.v (.int .i64 n)] (.aZ []) [(0,.obs (D6 most (jG s n)))]:=by
 refine Y3 (ho:=[]) ⟨_,_,func210,rfl,rfl⟩ ?_ rfl;obtain⟨base,l⟩:=s;dsimp only[List.append_nil,jG]at h0 h1 h2⊢;have hl:=Uz most base l h0 h1 h2;have hc:=D7 base l.length n o_;dsimp only[QC,bn]at hl⊢;refine K1.M 0x33 func210 10 ?_;repeat' ((conv=>whnf);first|refine K1.u ?_|refine K1.C 2 [(0,_),(1,_)] (hl) rfl ?_|refine K1.o (id:=0) (nN [0,1,2,3,4,5] ((6,some [])::nN [7,8,9] [])) ?_|fail)
 all_goals(conv=>whnf)
 generalize hb:sG base l.length n=b at hc⊢;unfold sG at hb;rw[hb];clear hb;repeat' ((conv=>whnf);first|refine K1.u ?_|refine AMk.full o_ rfl (by simp only;omega) o_ ?_|refine ASl.part ?_|refine K1.o (id:=2) (nN [0,1,2,3,4,5,6,7,8,9,10,11] [(12,some [10,9,7,4,2])]) ?_|fail)
 all_goals(conv=>whnf)
 refine⟨[(12,8)],rfl,rfl,⟨dB rfl,⟨_,rfl,dK.row (by rw[anl];omega) (λ m hm=>?_)⟩,trivial⟩,rfl,rfl,bY⟩;exact(aef (show m<l.length-(b-base).toNat by have hm:m<(base+(l.length:Int)-b).toNat:=hm;omega)).trans (aeg _ _).symm
theorem ag5{a b:Nat}{z f:Nat->List AV}(h:m<a+b):RH a b (RH 0 a z f) f' m=lV a f f' m:=by
 show lV a (RH 0 a z f) (lV b f' _) m=lV a f f' m;unfold lV;cases hb:Nat.ble a m with
 |true=>
  have:=am7 hb;have hb2:Nat.ble b (m-a)=false:=by
   rw[anw];intro e;have:=am7 e;omega
  simp only[cond_true,hb2,cond_false]
 |false=>
  have hlt:m<a:=by
   rcases anr m a with h1|h1
   ·exact h1
   ·rw[an0 h1]at hb;cases hb
  simp only[cond_false];exact aef hlt
def qX(s:jU)(l:List Ev)(j:Nat):Prop:=if j=0 then(l.getD 0 default).n<=s.len+1 else(l.getD j default).n=(l.getD (j-1) default).n+1
instance(s:jU)(l:List Ev)(j:Nat):Decidable (qX s l j):=by unfold qX;infer_instance
def newS(s:jU)(l:List Ev):List Ev:=l.dropWhile λ e=>decide (e.n<=s.len)
def jV(most:Int)(s:jU)(l:List Ev):jU×Int:=
 if(List.range l.length).all (λ j=>decide (qX s l j))then
  (if newS s l=[]then(s,0)else if most<(s.kept.length:Int)+((newS s l).length:Int)then(s,21)else(⟨s.base,s.kept++newS s l⟩,0))
 else(s,20)
theorem UA(most:Int)(s s':jU)(l:List Ev)(x:Int)(h0:0<=s.base)(h1:s.base<=1000000000000)(h2:s.kept.length<=1048576)(h3:l.length<=1000000)(hN:∀j,0<=(l.getD j default).n/\(l.getD j default).n<=1000000000)(hp:jV most s l=(s',x)):
  aj prog 172 [(0,.obs (D6 most s))] [.box 0 0,.sl 12 l.length true (dA l)] (.v (.int .i64 x)) [(0,.obs (D6 most s'))]:=by
 refine Y3 (ho:=[]) ⟨_,_,func172,rfl,rfl⟩ ?_ rfl;obtain⟨base,k⟩:=s;have hl:=Uz most base k h0 h1 h2;dsimp only[QC,bn,List.append_nil]at h0 h1 h2 hl⊢;refine K1.M 0x2000840020000001ff3 func172 10 ?_
 conv=>whnf
 refine aI.mk {j:Nat//j<=l.length/\ ∀i,i<j->qX ⟨base,k⟩ l i} (λ j=>⟨[(11,.v (.int .i64 (j.1:Int))),(10,.v (.int .i64 (l.length:Int))),(9,.sl 12 l.length true (dA l)),(0,.box 0 0),(1,.sl 12 l.length true (dA l))],[(0,.box 304 [.v (.int .i64 most),.v (.int .i64 base),.own 9]),(9,.row 74 12 k.length true (dA k))],[[(0,.box 0 0),(1,.own 9)]],10⟩)
  (λ j=>l.length-j.1) ⟨0,ane _,λ i hi=>absurd hi (anA _)⟩ _ (dZ.mk' [] _ _ _ rfl gQ nM rfl) ?_
 rintro⟨j,hj,hok⟩;dsimp only;have back:∀(hjl:j<l.length),qX ⟨base,k⟩ l j-> ∃y:{j:Nat//j<=l.length/\ ∀i,i<j->qX ⟨base,k⟩ l i},y.1=j+1:=λ hjl h=>⟨⟨j+1,hjl,λ i hi=>by
  rcases anr i j with hi'|hi'
  ·exact hok i hi'
  ·obtain rfl:i=j:=o_
   exact h⟩,rfl⟩
 by_cases hjl:j<l.length
 ·have bad:¬qX ⟨base,k⟩ l j->s'=⟨base,k⟩/\x=20:=λ h=>by
   unfold jV at hp;rw[if_neg (λ hall=>h (by
    have:=anh.1 hall j (ao3.2 hjl);simpa using this))]at hp
   cases hp;exact⟨rfl,rfl⟩
  by_cases hj0:j=0
  ·have hn:=hN (j:Int).toNat;by_cases ho:qX ⟨base,k⟩ l j
   ·obtain⟨y,hy⟩:=back hjl ho;have ho':(l.getD (j:Int).toNat default).n<=base+(k.length:Int)+1:=by
     unfold qX at ho;rw[if_pos hj0]at ho;rw[show(j:Int).toNat=0 by omega];exact ho
    repeat' ((conv=>whnf);first|refine K1.u ?_|refine K1.C 2 [(0,_),(1,_)] (hl) rfl ?_|refine K1.o (id:=4) (nN [0,1,2,3,4,5] ((6,some [1])::nN [7,8,9,10,11,12,13,14,15,16,17,18,19,20,21,22,23,24,25] [])) ?_|fail)
    all_goals(conv=>whnf)
    all_goals exact⟨y,_,dZ.mk' [] _ _ _ rfl ⟨dJ.int (by rw[hy];rfl),bY,bY,bY,bY,trivial⟩ nM rfl,by show l.length-y.1<l.length-j;omega⟩
   ·obtain⟨rfl,rfl⟩:=bad ho;have ho':¬ (l.getD (j:Int).toNat default).n<=base+(k.length:Int)+1:=by
     unfold qX at ho;rw[if_pos hj0]at ho;rw[show(j:Int).toNat=0 by omega];exact ho
    repeat' ((conv=>whnf);first|refine K1.u ?_|refine K1.C 2 [(0,_),(1,_)] (hl) rfl ?_|refine K1.o (id:=4) (nN [0,1,2,3,4,5] ((6,some [1])::nN [7,8,9,10,11,12,13,14,15,16,17,18,19,20,21,22,23,24,25] [])) ?_|fail)
    all_goals(conv=>whnf)
    all_goals exact iF [(9,8)]
  ·have hn:=hN ((j:Int)-1).toNat;have hm:=hN (j:Int).toNat;by_cases ho:qX ⟨base,k⟩ l j
   ·obtain⟨y,hy⟩:=back hjl ho;have ho':(l.getD (j:Int).toNat default).n=(l.getD ((j:Int)-1).toNat default).n+1:=by
     unfold qX at ho;rw[if_neg hj0]at ho;rw[show((j:Int)-1).toNat=j-1 by omega,show(j:Int).toNat=j by omega];exact ho
    repeat' ((conv=>whnf);first|refine K1.u ?_|refine K1.o (id:=4) (nN [0,1,2,3,4,5] ((6,some [1])::nN [7,8,9,10,11,12,13,14,15,16,17,18,19,20,21,22,23,24,25] [])) ?_|fail)
    all_goals(conv=>whnf)
    all_goals exact⟨y,_,dZ.mk' [] _ _ _ rfl ⟨dJ.int (by rw[hy];rfl),bY,bY,bY,bY,trivial⟩ nM rfl,by show l.length-y.1<l.length-j;omega⟩
   ·obtain⟨rfl,rfl⟩:=bad ho;have ho':¬ (l.getD (j:Int).toNat default).n=(l.getD ((j:Int)-1).toNat default).n+1:=by
     unfold qX at ho;rw[if_neg hj0]at ho;rw[show((j:Int)-1).toNat=j-1 by omega,show(j:Int).toNat=j by omega];exact ho
    repeat' ((conv=>whnf);first|refine K1.u ?_|refine K1.o (id:=4) (nN [0,1,2,3,4,5] ((6,some [1])::nN [7,8,9,10,11,12,13,14,15,16,17,18,19,20,21,22,23,24,25] [])) ?_|fail)
    all_goals(conv=>whnf)
    all_goals exact iF [(9,8)]
 ·have hall:(List.range l.length).all (λ j=>decide (qX ⟨base,k⟩ l j))=true:=anh.2 λ i hi=>decide_eq_true (hok i (by have:=ao3.1 hi;omega));unfold jV at hp;rw[if_pos hall]at hp;clear hall back hok;repeat' ((conv=>whnf);first|refine K1.u ?_|fail)
  conv=>whnf
  have hN':∀e∈l,0<=e.n/\e.n<=1000000000:=λ e he=>by
   obtain⟨i,hi,rfl⟩:=anR he;have:=hN i;rwa [show l.getD i default=l[i] by simp[List.getD,hi]]at this
  clear hN;refine aI.mk {t:List Ev//newS ⟨base,k⟩ l=t.dropWhile (λ e=>decide (e.n<=(⟨base,k⟩:jU).len))/\t.length<=l.length/\ ∀e∈t,0<=e.n/\e.n<=1000000000} (λ t=>⟨[(0,.box 0 0),(1,.sl 12 t.1.length true (dA t.1))],[(0,.box 304 [.v (.int .i64 most),.v (.int .i64 base),.own 9]),(9,.row 74 12 k.length true (dA k))],[[(0,.box 0 0),(1,.own 9)]],10⟩)
   (λ t=>t.1.length) ⟨l,rfl,ani _,hN'⟩ _ (dZ.mk' [] _ _ _ rfl gQ nM rfl) ?_
  rintro⟨t,hnew,htl,hN⟩;dsimp only;rw[hnew]at hp;rcases t with _|⟨e,t⟩
  ·have hlen:(([]:List Ev).length:Int)=0:=rfl;rw[List.dropWhile_nil,if_pos rfl]at hp;obtain⟨rfl,rfl⟩:=Prod.mk.inj hp;repeat' ((conv=>whnf);first|refine K1.u ?_|refine K1.o (id:=7) (nN [0,1,2,3,4,5,6,7,8] ((9,some [2])::nN [10,11] [])) ?_|fail)
   all_goals(conv=>whnf)
   all_goals exact iF [(9,8)]
  ·have hen:=hN e amW;have hlen:((e::t).length:Int)=(t.length:Int)+1:=s_
   by_cases hle:e.n<=base+(k.length:Int)
   ·have hle0:(dA (e::t) 0)=Ev.cs e:=rfl;have hnext:newS ⟨base,k⟩ l=t.dropWhile (λ e=>decide (e.n<=(⟨base,k⟩:jU).len)):=by
     rw[hnew,List.dropWhile_cons_of_pos (by rw[decide_eq_true_eq];exact hle)]
    clear hp;repeat' ((conv=>whnf);first|refine K1.u ?_|refine K1.C 2 [(0,_),(1,_)] (hl) rfl ?_|refine K1.o (id:=7) (nN [0,1,2,3,4,5,6,7,8] ((9,some [2])::nN [10,11] [])) ?_|fail)
    all_goals(conv=>whnf)
    refine⟨⟨t,hnext,by rw[anb]at htl;omega,λ e he=>hN e (am1 _ he)⟩,_,dZ.mk' [] _ _ _ rfl ⟨bY,dJ.sl s_ (λ i _=>?_),trivial⟩ nM rfl,s_⟩;show dA (e::t) (1+i)=dA t i;rw[Nat.add_comm];rfl
   ·have hd:(e::t).dropWhile (λ e=>decide (e.n<=(⟨base,k⟩:jU).len))=e::t:=List.dropWhile_cons_of_neg (by rw[decide_eq_true_eq];exact hle);rw[hd,if_neg s_]at hp;by_cases hm:most<(k.length:Int)+((e::t).length:Int)
    ·rw[if_pos hm]at hp;obtain⟨rfl,rfl⟩:=Prod.mk.inj hp;repeat' ((conv=>whnf);first|refine K1.u ?_|refine K1.C 2 [(0,_),(1,_)] (hl) rfl ?_|refine K1.o (id:=7) (nN [0,1,2,3,4,5,6,7,8] ((9,some [2])::nN [10,11] [])) ?_|fail)
     all_goals(conv=>whnf)
     all_goals exact iF [(9,8)]
    ·rw[if_neg hm]at hp;obtain⟨rfl,rfl⟩:=Prod.mk.inj hp;repeat' ((conv=>whnf);first|refine K1.u ?_|refine K1.C 2 [(0,_),(1,_)] (hl) rfl ?_|refine AMk.full o_ rfl (by simp only;omega) o_ ?_|refine ASl.part ?_|refine K1.o (id:=7) (nN [0,1,2,3,4,5,6,7,8] ((9,some [2])::nN [10,11] [])) ?_|fail)
     all_goals(conv=>whnf)
     refine⟨[(11,8)],rfl,rfl,⟨dB rfl,⟨_,rfl,dK.row (by show((k.length:Int)+((e::t).length:Int)).toNat=(k++e::t).length;rw[am0];omega) (λ m hm=>?_)⟩,trivial⟩,rfl,rfl,bY⟩;refine(ag5 (a:=k.length) (b:=(e::t).length) (by have hm:m<((k.length:Int)+((e::t).length:Int)).toNat:=hm;omega)).trans ?_;exact els_app (c:=Ev.cs) (l:=k) (l':=e::t) rfl m
instance:Inhabited aS:=⟨⟨0,0,0,0,0⟩⟩
def yg(c:aS):List AV:=[.v (.int .i64 c.c0),.v (.int .i64 c.c1),.v (.int .i64 c.c2),.v (.int .i64 c.c3),.v (.int .i64 c.c4)]
abbrev clF(l:List aS):Nat->List AV:=qh yg l
structure Pt where
 (sh:List jU)(told:List aS)
def ptrs:Nat->List jU->List AV
 |_,[]=>[]
 |i,_::l=> .box i 0::ptrs (i+1) l
def shs(most:Int):Nat->List jU->List (Nat×AO)
 |_,[]=>[]
 |i,s::l=>(i,.obs (D6 most s))::shs most (i+1) l
def ptB:AO:= .box 257 [.own 10,.own 11]
def D8(l:List aS):AO:= .row 33 5 l.length true (clF l)
def uP(most:Int)(p:Pt)(_:Unit):List (Nat×AO):=(0,ptB)::(10,.rn (253:Nat) (ptrs 20 p.sh))::(11,D8 p.told)::shs most 20 p.sh
def BL(most:Int)(p:Pt):OB:=OB.pack (uP most p)
theorem UC(most:Int)(p:Pt):Closes (uP most p ()) 0 (BL most p):=Closes.pack (uP most p) () rfl λ _ hok=>vF (hok _ amW)
def EK(n:Nat):Pt:=⟨List.replicate n ⟨0,[]⟩,List.replicate n aV⟩
theorem ag6{n:Nat}(h:m<n):clF (List.replicate n aV) m=yg aV:=by
 show yg ((List.replicate n aV).getD m default)=_;rw[ang,aoI,if_pos h];rfl
theorem zf{p:Prop}(h:p:=by
 dsimp only[uP,EK,List.replicate,ptB,D8,ptrs,shs];refine K1.M 0xe01f func112 40 ?_;repeat' ((conv=>whnf);first|refine K1.u ?_|refine K1.C 0 [] (aed _) rfl ?_|refine AMk.full d_ rfl d_ d_ ?_|refine aI.Au 14 6 rfl ?_|refine K1.o (id:=5) (nN [0,1,2,3,4,5,6] ((7,some [6])::(8,some [6])::(9,some [6,4,2])::nN [10,11] [(12,some [6,4,2,10])])) ?_|refine K1.z ?_|refine K1.y (λ _=>?_) (λ _=>?_)|fail)
 all_goals(conv=>whnf)
 refine⟨(42,0)::(42+3*m0,10)::(41,11)::(List.range m0).map (λ i=>(43+3*i,20+i)),rfl,rfl, ?_,rfl,rfl,bY⟩;repeat' first
  |exact trivial
  |refine⟨dB rfl, ?_⟩
  |refine⟨⟨_,rfl,dK.row rfl (λ m hm=>(ag6 (n:=m0) hm).symm)⟩, ?_⟩):p:=h
theorem UD(c:lZ)(n:Nat)(hn:c.n=(n:Int))(h1:1<=n)(h5:n<=5):aj prog 112 [] [c.av] (.box 0 0) [(0,.obs (BL c.w (EK n)))]:=by
 refine aj.cls (hs':=uP c.w (EK n) ()) (ho:=[]) (UC _ _) ?_ rfl;obtain⟨cn,w,q,h,l,p⟩:=c;dsimp only[lZ.av,lZ.cs]at hn⊢;rw[am2];rcases(show(cn=1/\n=1)\/(cn=2/\n=2)\/(cn=3/\n=3)\/(cn=4/\n=4)\/(cn=5/\n=5) by omega)with⟨rfl,rfl⟩|⟨rfl,rfl⟩|⟨rfl,rfl⟩|⟨rfl,rfl⟩|⟨rfl,rfl⟩
 ·let m0:=1;exact zf
 ·let m0:=2;exact zf
 ·let m0:=3;exact zf
 ·let m0:=4;exact zf
 ·let m0:=5;exact zf
structure iQ(s:jU):Prop where
 b0:0<=s.base
 ln:s.base+(s.kept.length:Int)<=1048576
theorem iQ.b1{s:jU}(h:iQ s):s.base<=1000000000000:=by have:=h.b0;have:=h.ln;omega
theorem iQ.k{s:jU}(h:iQ s):s.kept.length<=1048576:=by have:=h.b0;have:=h.ln;omega
structure qA(p:Pt):Prop where
 h1:1<=p.sh.length
 h5:p.sh.length<=5
 t:p.told.length=p.sh.length
 s:∀s∈p.sh,iQ s
def nums(l:List Int):List AV:=[.v (.int .i64 (l.getD 0 0)),.v (.int .i64 (l.getD 1 0)),.v (.int .i64 (l.getD 2 0)),.v (.int .i64 (l.getD 3 0)),.v (.int .i64 (l.getD 4 0))]
def Pt.site(p:Pt):List AV:= .v (.bool true)::(nums (p.sh.map jU.base)++(nums (p.sh.map jU.len)++(yg (p.told.getD 0 aV)++(yg (p.told.getD 1 aV)++(yg (p.told.getD 2 aV)++(yg (p.told.getD 3 aV)++yg (p.told.getD 4 aV)))))))
theorem JU{p p':Pt}(hE:Enters prog f)(h:aj prog f (uP most p ()) aW r (uP most p' ()++ho))
  (hb:(aW.all (oQ (λ _=>false) 0)&&fG (λ i=>bJ i ho) 0 r&&fF ho ho&& !(bJ 0 ho))=true):aj prog f [(0,.obs (BL most p))] aW r ((0,.obs (BL most p'))::ho):=
 aj.opn hE (Opens.pack (uP most p)) (λ _=>⟨_,UC most p',rfl,rfl,h⟩) hb
theorem Pt.cases{C:Pt->Prop}(p:Pt)(hp:qA p)(h1:∀s0 t0,iQ s0->C ⟨[s0],[t0]⟩)(h2:∀s0 s1 t0 t1,iQ s0->iQ s1->C ⟨[s0,s1],[t0,t1]⟩)
  (h3:∀s0 s1 s2 t0 t1 t2,iQ s0->iQ s1->iQ s2->C ⟨[s0,s1,s2],[t0,t1,t2]⟩)(h4:∀s0 s1 s2 s3 t0 t1 t2 t3,iQ s0->iQ s1->iQ s2->iQ s3->C ⟨[s0,s1,s2,s3],[t0,t1,t2,t3]⟩)
  (h5:∀s0 s1 s2 s3 s4 t0 t1 t2 t3 t4,iQ s0->iQ s1->iQ s2->iQ s3->iQ s4->C ⟨[s0,s1,s2,s3,s4],[t0,t1,t2,t3,t4]⟩):C p:=by
 obtain⟨sh,told⟩:=p;obtain⟨a1,a5,at',as'⟩:=hp;dsimp only at a1 a5 at' as';rcases sh with _|⟨s0,_|⟨s1,_|⟨s2,_|⟨s3,_|⟨s4,_|⟨s5,sh⟩⟩⟩⟩⟩⟩
 ·simp at a1
 ·rcases told with _|⟨t0,_|⟨t1,told⟩⟩
  ·simp at at'
  ·exact h1 s0 t0 (as' _ s_)
  ·simp at at'
 ·rcases told with _|⟨t0,_|⟨t1,_|⟨t2,told⟩⟩⟩
  ·simp at at'
  ·simp at at'
  ·exact h2 s0 s1 t0 t1 (as' _ s_) (as' _ s_)
  ·simp at at'
 ·rcases told with _|⟨t0,_|⟨t1,_|⟨t2,_|⟨t3,told⟩⟩⟩⟩
  ·simp at at'
  ·simp at at'
  ·simp at at'
  ·exact h3 s0 s1 s2 t0 t1 t2 (as' _ s_) (as' _ s_) (as' _ s_)
  ·simp at at'
 ·rcases told with _|⟨t0,_|⟨t1,_|⟨t2,_|⟨t3,_|⟨t4,told⟩⟩⟩⟩⟩
  ·simp at at'
  ·simp at at'
  ·simp at at'
  ·simp at at'
  ·exact h4 s0 s1 s2 s3 t0 t1 t2 t3 (as' _ s_) (as' _ s_) (as' _ s_) (as' _ s_)
  ·simp at at'
 ·rcases told with _|⟨t0,_|⟨t1,_|⟨t2,_|⟨t3,_|⟨t4,_|⟨t5,told⟩⟩⟩⟩⟩⟩
  ·simp at at'
  ·simp at at'
  ·simp at at'
  ·simp at at'
  ·simp at at'
  ·exact h5 s0 s1 s2 s3 s4 t0 t1 t2 t3 t4 (as' _ s_) (as' _ s_) (as' _ s_) (as' _ s_) (as' _ s_)
  ·simp at at'
 ·simp at a5
instance:Inhabited jU:=⟨⟨0,[]⟩⟩
theorem Pt.JV{C:Pt->Nat->Prop}(p:Pt)(r:Nat)(hp:qA p)(hr:r<p.sh.length)
  (h10:∀s0 t0,iQ s0->C ⟨[s0],[t0]⟩ 0)
  (h20:∀s0 s1 t0 t1,iQ s0->iQ s1->C ⟨[s0,s1],[t0,t1]⟩ 0)
  (h21:∀s0 s1 t0 t1,iQ s0->iQ s1->C ⟨[s0,s1],[t0,t1]⟩ 1)
  (h30:∀s0 s1 s2 t0 t1 t2,iQ s0->iQ s1->iQ s2->C ⟨[s0,s1,s2],[t0,t1,t2]⟩ 0)
  (h31:∀s0 s1 s2 t0 t1 t2,iQ s0->iQ s1->iQ s2->C ⟨[s0,s1,s2],[t0,t1,t2]⟩ 1)
  (h32:∀s0 s1 s2 t0 t1 t2,iQ s0->iQ s1->iQ s2->C ⟨[s0,s1,s2],[t0,t1,t2]⟩ 2)
  (h40:∀s0 s1 s2 s3 t0 t1 t2 t3,iQ s0->iQ s1->iQ s2->iQ s3->C ⟨[s0,s1,s2,s3],[t0,t1,t2,t3]⟩ 0)
  (h41:∀s0 s1 s2 s3 t0 t1 t2 t3,iQ s0->iQ s1->iQ s2->iQ s3->C ⟨[s0,s1,s2,s3],[t0,t1,t2,t3]⟩ 1)
  (h42:∀s0 s1 s2 s3 t0 t1 t2 t3,iQ s0->iQ s1->iQ s2->iQ s3->C ⟨[s0,s1,s2,s3],[t0,t1,t2,t3]⟩ 2)
  (h43:∀s0 s1 s2 s3 t0 t1 t2 t3,iQ s0->iQ s1->iQ s2->iQ s3->C ⟨[s0,s1,s2,s3],[t0,t1,t2,t3]⟩ 3)
  (h50:∀s0 s1 s2 s3 s4 t0 t1 t2 t3 t4,iQ s0->iQ s1->iQ s2->iQ s3->iQ s4->C ⟨[s0,s1,s2,s3,s4],[t0,t1,t2,t3,t4]⟩ 0)
  (h51:∀s0 s1 s2 s3 s4 t0 t1 t2 t3 t4,iQ s0->iQ s1->iQ s2->iQ s3->iQ s4->C ⟨[s0,s1,s2,s3,s4],[t0,t1,t2,t3,t4]⟩ 1)
  (h52:∀s0 s1 s2 s3 s4 t0 t1 t2 t3 t4,iQ s0->iQ s1->iQ s2->iQ s3->iQ s4->C ⟨[s0,s1,s2,s3,s4],[t0,t1,t2,t3,t4]⟩ 2)
  (h53:∀s0 s1 s2 s3 s4 t0 t1 t2 t3 t4,iQ s0->iQ s1->iQ s2->iQ s3->iQ s4->C ⟨[s0,s1,s2,s3,s4],[t0,t1,t2,t3,t4]⟩ 3)
  (h54:∀s0 s1 s2 s3 s4 t0 t1 t2 t3 t4,iQ s0->iQ s1->iQ s2->iQ s3->iQ s4->C ⟨[s0,s1,s2,s3,s4],[t0,t1,t2,t3,t4]⟩ 4):C p r:=by
 refine Pt.cases (C:=λ p=>r<p.sh.length->C p r) p hp ?_ ?_ ?_ ?_ ?_ hr
 ·intro s0 t0 g0 hr;rcases(show r=0 by simp at hr;omega)with rfl
  ·exact h10 s0 t0 g0
 ·intro s0 s1 t0 t1 g0 g1 hr;rcases(show r=0\/r=1 by simp at hr;omega)with rfl|rfl
  ·exact h20 s0 s1 t0 t1 g0 g1
  ·exact h21 s0 s1 t0 t1 g0 g1
 ·intro s0 s1 s2 t0 t1 t2 g0 g1 g2 hr;rcases(show r=0\/r=1\/r=2 by simp at hr;omega)with rfl|rfl|rfl
  ·exact h30 s0 s1 s2 t0 t1 t2 g0 g1 g2
  ·exact h31 s0 s1 s2 t0 t1 t2 g0 g1 g2
  ·exact h32 s0 s1 s2 t0 t1 t2 g0 g1 g2
 ·intro s0 s1 s2 s3 t0 t1 t2 t3 g0 g1 g2 g3 hr;rcases(show r=0\/r=1\/r=2\/r=3 by simp at hr;omega)with rfl|rfl|rfl|rfl
  ·exact h40 s0 s1 s2 s3 t0 t1 t2 t3 g0 g1 g2 g3
  ·exact h41 s0 s1 s2 s3 t0 t1 t2 t3 g0 g1 g2 g3
  ·exact h42 s0 s1 s2 s3 t0 t1 t2 t3 g0 g1 g2 g3
  ·exact h43 s0 s1 s2 s3 t0 t1 t2 t3 g0 g1 g2 g3
 ·intro s0 s1 s2 s3 s4 t0 t1 t2 t3 t4 g0 g1 g2 g3 g4 hr;rcases(show r=0\/r=1\/r=2\/r=3\/r=4 by simp at hr;omega)with rfl|rfl|rfl|rfl|rfl
  ·exact h50 s0 s1 s2 s3 s4 t0 t1 t2 t3 t4 g0 g1 g2 g3 g4
  ·exact h51 s0 s1 s2 s3 s4 t0 t1 t2 t3 t4 g0 g1 g2 g3 g4
  ·exact h52 s0 s1 s2 s3 s4 t0 t1 t2 t3 t4 g0 g1 g2 g3 g4
  ·exact h53 s0 s1 s2 s3 s4 t0 t1 t2 t3 t4 g0 g1 g2 g3 g4
  ·exact h54 s0 s1 s2 s3 s4 t0 t1 t2 t3 t4 g0 g1 g2 g3 g4
theorem UE(most:Int)(s:jU)(h:iQ s):aj prog 141 [(0,.obs (D6 most s))] [.box 0 0] (.v (.int .i64 s.len)) [(0,.obs (D6 most s))]:=aee most s h.b0 h.b1 h.k
theorem dV(most:Int)(p:Pt)(hp:qA p):aj prog 94 [(0,.obs (BL most p))] [.box 0 0] (.agg p.site) [(0,.obs (BL most p))]:=by
 refine JU (ho:=[]) ⟨_,_,func94,rfl,rfl⟩ ?_ rfl;rw[am2];refine Pt.cases (C:=λ p=>aj prog 94 (uP most p ()) [.box 0 0] (.agg p.site) (uP most p ())) p hp ?_ ?_ ?_ ?_ ?_;all_goals
  intros;dsimp only[uP,ptB,D8,ptrs,shs];refine K1.M 0xd func94 40 ?_;repeat' ((conv=>whnf);first|refine K1.u ?_|refine K1.C 1 [(0,_)] (UE _ _ a_) rfl ?_ rfl rfl rfl|refine K1.C 1 [(0,_)] (aaF _ _) rfl ?_|refine K1.I 0x78f3 func139 ?_|refine aI.Au 13 6 rfl ?_|refine ASl.part ?_|refine mJ.mk d_ ?_|refine nR.yes d_ ?_|refine nR.no d_ ?_|refine K1.o (id:=2) (nN [0,1,2,3,4,5] [(6,some [5,3])]) ?_|fail)
  all_goals(conv=>whnf)
  refine⟨[],rfl,rfl, ?_,rfl,rfl,bY⟩;repeat' first|exact trivial|refine⟨dB rfl, ?_⟩
end Go.Proofs.YtkimgljckickcaaGreat
