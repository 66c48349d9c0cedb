/-
  Contracts of the walk:LvB,LvC,LvO,LvU,LvD,LvE,Ay,LvI,LvH.
-/
import Derived.Test.YtifjccndenojlaaGreatWf13
import Derived.Test.YtifjccndenojlaaGreatWf10
import Derived.Test.YtifjccndenojlaaGreatWf3
import Derived.Test.YtifjccndenojlaaGreatWf9
set_option maxHeartbeats 16000000
set_option maxRecDepth 100000
set_option linter.unusedVariables false
set_option linter.unusedSimpArgs false
namespace Go.Proofs.YtifjccndenojlaaGreat
open Go.RowKit
open Go.Proofs.Tryz
variable{S st:AS}{k k':ByteArray}{K:ByteArray->List Ev}{X:CX}{a e:Ev}{same:Ev->Bool}{kind n:Int}{kv:List (ByteArray×List Ev)}{rs:List (ByteArray×RW)}{back:List (List (Nat×AV))}{H:List (Nat×AO)}{sl:List (Nat×AV)}{ss:List ByteArray}{l:List Ev}{b i j m s:Nat}{f:Nat->List AV}{ρ':Nat->Value}{A B C p:Prop}{t:TypeId}
def tq(l:List Ev)(a:Ev):Bool:=decide (a.k=1)||l.any (KW a)
theorem VF(d:Nat)(l:List Ev)(r:Ev)(rs:List Ev)(hr:l.filter (tq l)=r::rs)(hl:l.length<=1000000000):
  aH prog 166 [.sl 12 l.length true (dI l)] (.own d) [(d,.row 83 12 (rs.length+1) true (dI (r::rs)))]:=by
 refine K1.E 0x803ed func166 ?_
 conv=>whnf
 refine aI.mk (aic (tq l) l) (λ x=>match x with
  |⟨(j,[]),_⟩=>⟨[(0,.sl 12 l.length true (dI l)),(3,.v (.slice none 0 0)),(6,.sl 12 l.length true (dI l)),(7,.v (.int .i64 (l.length:Int))),(8,.v (.int .i64 (j:Int)))],
    [],[],1⟩
  |⟨(j,y::ys),_⟩=>⟨[(0,.sl 12 l.length true (dI l)),(3,.own 90),(6,.sl 12 l.length true (dI l)),(7,.v (.int .i64 (l.length:Int))),(8,.v (.int .i64 (j:Int)))],
    [(90,.row 83 12 (ys.length+1) true (dI (y::ys)))],[],91⟩) (λ x=>l.length-x.1.1) ⟨(0,[]),aoB _,rfl⟩ _
  (dO.mk' [] _ _ _ rfl ⟨au,au,au,aY.int rfl,aY.int rfl,trivial⟩ trivial rfl) ?_
 rintro⟨⟨j,ys⟩,hj,hys⟩;dsimp only at hj hys;rcases ys with _|⟨y,ys⟩
 ·dsimp only;by_cases hjl:j<l.length
  ·have hab:=iM l (l.getD (j:Int).toNat default) o_;have hft:=jA (p:=tq l) hjl;rw[<-hys,aoN]at hft;have hlv:tq l (l.getD j default)=(decide ((l.getD (j:Int).toNat default).k=1)||l.any (KW (l.getD (j:Int).toNat default))):=by rw[show(j:Int).toNat=j by omega];rfl
   rw[hlv]at hft;generalize l.any (KW (l.getD (j:Int).toNat default))=q at hab hft;have hq0:¬ (l.getD (j:Int).toNat default).k=1->q=false->([]:List Ev)=(l.take (j+1)).filter (tq l):=λ h h'=>by rw[hft,decide_eq_false h,h'];simp
   have hq1:q=true->[l.getD j default]=(l.take (j+1)).filter (tq l):=λ h'=>by rw[hft,h'];simp
   have hk1:(l.getD (j:Int).toNat default).k=1->[l.getD j default]=(l.take (j+1)).filter (tq l):=λ h=>by rw[hft,decide_eq_true h];simp
   clear hft hlv;dsimp only[Ev.av,Ev.cs]at hab⊢;repeat' ((conv=>whnf);first|refine K1.u ?_|refine K1.P1 hab ?_|refine K1.y (λ _=>?_) (λ _=>?_)|fail)
   all_goals(conv=>whnf)
   all_goals first
    |exact⟨⟨(j+1,[]),hjl,hq0 a_ a_⟩,_,dO.mk' [] _ _ _ rfl ⟨au,au,au,aY.int rfl,aY.int rfl,trivial⟩ trivial rfl,by show l.length-(j+1)<l.length-j;omega⟩
    |(refine⟨⟨(j+1,[l.getD j default]),hjl,by first|exact hq1 a_|exact hk1 a_⟩,_,dO.mk' [(3,90)] _ _ _ rfl ⟨au,au,au,aY.int rfl,aY.int rfl,trivial⟩ ⟨⟨_,rfl,dK.row rfl (λ m hm=>?_)⟩,trivial⟩ rfl,by show l.length-(j+1)<l.length-j;omega⟩
      have hm:m<1:=hm;obtain rfl:m=0:=o_
      rfl)
  ·have e:l.filter (tq l)=[]:=by rw[aoF o_]at hys;exact hys.symm
   rw[hr]at e;cases e
 ·dsimp only;have hyl:ys.length+1<=j:=by
   have h1:=congrArg List.length hys;have h2:=aoI (tq l) (l.take j);rw[aou]at h2;rw[aoE]at h1;omega
  by_cases hjl:j<l.length
  ·have hab:=iM l (l.getD (j:Int).toNat default) o_;have hft:=jA (p:=tq l) hjl;rw[<-hys]at hft;have hlv:tq l (l.getD j default)=(decide ((l.getD (j:Int).toNat default).k=1)||l.any (KW (l.getD (j:Int).toNat default))):=by rw[show(j:Int).toNat=j by omega];rfl
   rw[hlv]at hft;generalize l.any (KW (l.getD (j:Int).toNat default))=q at hab hft;have hq0:¬ (l.getD (j:Int).toNat default).k=1->q=false->y::ys=(l.take (j+1)).filter (tq l):=λ h h'=>by rw[hft,decide_eq_false h,h'];simp
   have hq1:q=true->y::(ys++[l.getD j default])=(l.take (j+1)).filter (tq l):=λ h'=>by rw[hft,h'];simp
   have hk1:(l.getD (j:Int).toNat default).k=1->y::(ys++[l.getD j default])=(l.take (j+1)).filter (tq l):=λ h=>by rw[hft,decide_eq_true h];simp
   clear hft hlv;dsimp only[Ev.av,Ev.cs]at hab⊢;repeat' ((conv=>whnf);first|refine K1.u ?_|refine K1.P1 hab ?_|refine K1.y (λ _=>?_) (λ _=>?_)|fail)
   all_goals(conv=>whnf)
   all_goals first
    |exact⟨⟨(j+1,y::ys),hjl,hq0 a_ a_⟩,_,dO.mk' [] _ _ _ rfl ⟨au,au,au,aY.int rfl,aY.int rfl,trivial⟩ ⟨ay rfl,trivial⟩ rfl,by show l.length-(j+1)<l.length-j;omega⟩
    |(refine⟨⟨(j+1,y::(ys++[l.getD j default])),hjl,by first|exact hq1 a_|exact hk1 a_⟩,_,dO.mk' [(93,90)] _ _ _ rfl ⟨au,au,au,aY.int rfl,aY.int rfl,trivial⟩ ⟨⟨_,rfl,dK.row s_ (λ m hm=>?_)⟩,trivial⟩ rfl,by show l.length-(j+1)<l.length-j;omega⟩
      exact dP (c:=Ev.cs) (l:=y::ys) rfl rfl m hm)
  ·have e:l.filter (tq l)=y::ys:=by rw[aoF o_]at hys;exact hys.symm
   rw[hr]at e;cases e;repeat' ((conv=>whnf);first|refine K1.u ?_|refine aU.uV d rfl rfl (dK.refl _) (au)|fail)
theorem HY(l:List Ev)(hr:l.filter (tq l)=[])(hl:l.length<=1000000000):
  aH prog 166 [.sl 12 l.length true (dI l)] (.v (.slice none 0 0)) []:=by
 refine K1.E 0x803ed func166 ?_
 conv=>whnf
 refine aI.mk {j:Nat//j<=l.length} (λ j=>⟨[(0,.sl 12 l.length true (dI l)),(3,.v (.slice none 0 0)),(6,.sl 12 l.length true (dI l)),(7,.v (.int .i64 (l.length:Int))),(8,.v (.int .i64 (j.1:Int)))],
   [],[],1⟩) (λ j=>l.length-j.1) ⟨0,aoB _⟩ _
  (dO.mk' [] _ _ _ rfl ⟨au,au,au,aY.int rfl,aY.int rfl,trivial⟩ trivial rfl) ?_
 rintro⟨j,hj⟩;dsimp only;by_cases hjl:j<l.length
 ·have hab:=iM l (l.getD (j:Int).toNat default) o_;have hlv:(decide ((l.getD (j:Int).toNat default).k=1)||l.any (KW (l.getD (j:Int).toNat default)))=false:=by
   have hm:l.getD (j:Int).toNat default∈l:=by
    rw[show(j:Int).toNat=j by omega,List.getD,aom hjl];exact ao1 _
   have:=aqx.1 hr _ hm;simpa[tq]using this
  rw[ap9]at hlv;have hk:¬ (l.getD (j:Int).toNat default).k=1:=of_decide_eq_false hlv.1;rw[hlv.2]at hab;clear hlv;dsimp only[Ev.av,Ev.cs]at hab⊢;repeat' ((conv=>whnf);first|refine K1.u ?_|refine K1.P1 hab ?_|fail)
  all_goals(conv=>whnf)
  all_goals exact⟨⟨j+1,hjl⟩,_,dO.mk' [] _ _ _ rfl ⟨au,au,au,aY.int rfl,aY.int rfl,trivial⟩ trivial rfl,by show l.length-(j+1)<l.length-j;omega⟩
 ·repeat' ((conv=>whnf);first|refine K1.u ?_|refine aU.fF ?_|fail)
  conv=>whnf
  exact bn.mk (au)
abbrev jT(l:List Ev):AO:= .row 83 12 l.length true (dI l)
def dY(kind:Int)(same:Ev->Bool)(e a:Ev):Bool:= !decide (a.k=kind)||(!same a|| !aP a e)
theorem ak5(h:¬a.k=kind):dY kind same e a=true:=by unfold dY;rw[decide_eq_false h];rfl
theorem ak6(h:same a=false):dY kind same e a=true:=by unfold dY;rw[h];simp
theorem ak7(h:aP a e=false):dY kind same e a=true:=by unfold dY;rw[h];simp
theorem ak8(h:a.k=kind)(h1:same a=true)(h2:aP a e=true):dY kind same e a=false:=by unfold dY;rw[decide_eq_true h,h1,h2];rfl
def aj3(j:Nat):List Ev->AV
 |[]=> .v (.slice none 0 0)
 |_::_=> .own j
def afn(j:Nat):List Ev->List (Nat×AO)
 |[]=>[]
 |r::rs=>[(j,.row 83 12 (rs.length+1) true (dI (r::rs)))]
theorem wle(h:p:=by
 exact⟨⟨(j+1,_),hjl,hz⟩,_,dO.mk' [(n0,90)] _ _ _ rfl ⟨au,au,au,au,au,au,aY.int rfl,aY.int rfl,trivial⟩ (by repeat' first|exact trivial|refine⟨ay rfl, ?_⟩|refine⟨⟨_,rfl,dK.row s_ (λ m hm=>?_)⟩,trivial⟩|exact dP (c:=Ev.cs) (l:=y::ys) rfl rfl m hm|(obtain rfl:m=0:=(by have:m<1:=hm;omega);rfl)) rfl,by show l.length-(j+1)<l.length-j;omega⟩):p:=h
theorem wsc(h:p:=by
 dsimp only[Ev.av,Ev.cs];refine K1.M 0x20000fb2f func167 10 ?_;repeat' ((conv=>whnf);first|refine K1.u ?_|refine aU.fF ?_|refine K1.z ?_|refine K1.y (λ _=>?_) (λ _=>?_)|fail)
 conv=>whnf
 first|refine aI.FP 1 rfl ?_|refine aI.FP 0 rfl ?_
 refine aI.mk (aic (dY kind same e) l) (λ x=>⟨[(0,.sl 12 l.length true (dI l)),(2,.v (.int .i64 kind)),(3,.fn g (bif b0 then [.box 0 0]else [])),(5,.box 10 0),(9,match x.1.2 with|[]=> .v (.slice none 0 0)|_::_=> .own 90),(12,.sl 12 l.length true (dI l)),(13,.v (.int .i64 (l.length:Int))),(14,.v (.int .i64 (x.1.1:Int)))],(10,.box 83 e.cs)::((bif b0 then [(0,.box 83 e.cs)]else [])++(afn 90 x.1.2)),[bif b0 then [(0,.box 0 0),(1,.sl 12 l.length true (dI l))]else [(0,.sl 12 l.length true (dI l))]],91⟩) (λ x=>l.length-x.1.1) ⟨(0,[]),aoB _,rfl⟩ _
  (dO.mk' [] _ _ _ rfl ⟨au,au,au,au,au,au,aY.int rfl,aY.int rfl,trivial⟩ (by repeat' first|exact trivial|refine⟨ay rfl, ?_⟩) rfl) ?_
 rintro⟨⟨j,ys⟩,hj,hys⟩;dsimp only at hj hys;by_cases hjl:j<l.length
 ·have hab:=hs (l.getD (j:Int).toNat default);have hbb:=xE (l.getD (j:Int).toNat default) e;have hft:=jA (p:=dY kind same e) hjl;rw[<-hys,show l.getD j default=l.getD (j:Int).toNat default from rfl]at hft;have hk:¬ (l.getD (j:Int).toNat default).k=kind->ys++[l.getD j default]=(l.take (j+1)).filter (dY kind same e):=λ h=>by rw[hft,ak5 h];rfl
  have hsm:same (l.getD (j:Int).toNat default)=false->ys++[l.getD j default]=(l.take (j+1)).filter (dY kind same e):=λ h=>by rw[hft,ak6 h];rfl
  have hbl:aP (l.getD (j:Int).toNat default) e=false->ys++[l.getD j default]=(l.take (j+1)).filter (dY kind same e):=λ h=>by rw[hft,ak7 h];rfl
  have hno:(l.getD (j:Int).toNat default).k=kind->same (l.getD (j:Int).toNat default)=true->aP (l.getD (j:Int).toNat default) e=true->ys=(l.take (j+1)).filter (dY kind same e):=λ h h1 h2=>by rw[hft,ak8 h h1 h2];simp
  clear hft;generalize same (l.getD (j:Int).toNat default)=q1 at hab hsm hno;generalize aP (l.getD (j:Int).toNat default) e=q2 at hbb hbl hno;have hyl:ys.length<=j:=by
   have h2:=aoI (dY kind same e) (l.take j);rw[<-hys,aou]at h2;omega
  rcases ys with _|⟨y,ys⟩;all_goals
   dsimp only;dsimp only[Ev.av,Ev.cs]at hab hbb⊢;try dsimp only[List.length_cons]at hyl
   repeat' ((conv=>whnf);first|refine K1.u ?_|refine K1.C 1 [(0,_)] (hab) rfl ?_|refine K1.P1 hab ?_|refine K1.P1 hbb ?_|refine aU.fF ?_|refine K1.z ?_|refine K1.y (λ _=>?_) (λ _=>?_)|fail)
   all_goals(conv=>whnf)
   all_goals first
    |exact⟨⟨(j+1,_),hjl,hno a_ a_ a_⟩,_,dO.mk' [] _ _ _ rfl ⟨au,au,au,au,au,au,aY.int rfl,aY.int rfl,trivial⟩ (by repeat' first|exact trivial|refine⟨ay rfl, ?_⟩) rfl,by show l.length-(j+1)<l.length-j;omega⟩
    |skip
   all_goals first|have hz:=hk a_|have hz:=hsm a_|have hz:=hbl a_
   all_goals first|(let n0:=92;exact wle)|(let n0:=93;exact wle)|(let n0:=94;exact wle)|(let n0:=95;exact wle)|trace_state
 ·have e0:l.filter (dY kind same e)=ys:=by rw[aoF o_]at hys;exact hys.symm
  rw[hr]at e0;subst e0;cases R;all_goals
   dsimp only;repeat' ((conv=>whnf);first|refine K1.u ?_|refine aU.fF ?_|refine K1.z ?_|refine K1.y (λ _=>?_) (λ _=>?_)|fail)
   conv=>whnf
   first
    |exact⟨[],rfl,rfl,(by repeat' first|exact trivial|refine⟨ay rfl, ?_⟩),rfl,rfl,au⟩
    |exact⟨[(90,2)],rfl,rfl,(by repeat' first|exact trivial|refine⟨ay rfl, ?_⟩),rfl,rfl,au⟩
    |exact⟨[(90,1)],rfl,rfl,(by repeat' first|exact trivial|refine⟨ay rfl, ?_⟩),rfl,rfl,au⟩):p:=h
theorem PE(g:FuncId)(same:Ev->Bool)(kind:Int)(e:Ev)(hs:∀a,aj prog g [(0,.box 83 e.cs)] [a.av,.box 0 0] (.v (.bool (same a))) [(0,.box 83 e.cs)])
  (l:List Ev)(R:List Ev)(hr:l.filter (dY kind same e)=R)(hl:l.length<=1000000000):
  aj prog 167 [(0,.box 83 e.cs),(1,jT l)] [.own 1,e.av,.v (.int .i64 kind),.fn g [.box 0 0]] (aj3 2 R) ((0,.box 83 e.cs)::afn 2 R):=by
 let b0:=true;exact wsc
theorem zS(g:FuncId)(same:Ev->Bool)(kind:Int)(e:Ev)(hs:∀a,aj prog g [(0,.box 83 e.cs)] [a.av,.box 0 0] (.v (.bool (same a))) [(0,.box 83 e.cs)])
  (l:List Ev)(r:Ev)(rs:List Ev)(hr:l.filter (dY kind same e)=r::rs)(hl:l.length<=1000000000):
  aj prog 167 [(0,.box 83 e.cs),(1,jT l)] [.own 1,e.av,.v (.int .i64 kind),.fn g [.box 0 0]] (.own 2) [(0,.box 83 e.cs),(2,.row 83 12 (rs.length+1) true (dI (r::rs)))]:=
 PE g same kind e hs l (r::rs) hr hl
theorem zT(g:FuncId)(same:Ev->Bool)(kind:Int)(e:Ev)(hs:∀a,aj prog g [(0,.box 83 e.cs)] [a.av,.box 0 0] (.v (.bool (same a))) [(0,.box 83 e.cs)])
  (l:List Ev)(hr:l.filter (dY kind same e)=[])(hl:l.length<=1000000000):
  aj prog 167 [(0,.box 83 e.cs),(1,jT l)] [.own 1,e.av,.v (.int .i64 kind),.fn g [.box 0 0]] (.v (.slice none 0 0)) [(0,.box 83 e.cs)]:=
 PE g same kind e hs l [] hr hl
theorem jv.split{X:CX}{k:ByteArray}{r:RW}{post:List (ByteArray×RW)}:∀{pre:List (ByteArray×RW)}{hs:List Value},jv X (pre++(k,r)::post) hs-> ∃hp v hq,hs=hp++v::hq/\hp.length=pre.length/\pJ X v r.e r.s r.n r.sc r.f/\jv X (pre++post) (hp++hq)
 |[],_,⟨v,q,e,hr,hq⟩=>⟨[],v,q,e,rfl,hr,hq⟩
 |(_,r')::pre,_,⟨v',q,e,hr,hq⟩=>by
  obtain⟨hp,v,hq',e',hl,h1,h2⟩:=jv.split hq;exact⟨v'::hp,v,hq',by rw[e,e'];rfl,by simp[hl],h1,v',_,rfl,hr,h2⟩
theorem jv.len{X:CX}:∀{rs:List (ByteArray×RW)}{hs:List Value},jv X rs hs->hs.length=rs.length
 |[],_,h=>by rw[show _=[]from h];rfl
 |_::l,_,⟨v,q,e,_,hq⟩=>by rw[e,aoE,aoE,jv.len hq]
theorem jv.ρ{w:World}{k:Nat->Prop}{ρ ρ':Nat->Value}{rs:List (ByteArray×RW)}{hs:List Value}(h:jv ⟨w,k,ρ⟩ rs hs):jv ⟨w,k,ρ'⟩ rs hs:=
 jv.mono (X:=⟨w,k,ρ⟩) (Y:=⟨w,k,ρ'⟩) (λ _ h=>h) (λ _ _=>rfl) (λ _ _=>rfl) h
theorem afo{v:Value}{pre post:List ByteArray}{hp hq:List Value}(hl:hp.length=pre.length):(mV (pre++k::post) (hp++v::hq)).Perm (Ir k v++mV (pre++post) (hp++hq)):=by
 have h1:(pre++k::post)[pre.length]? =some k:=s_
 have h2:(hp++v::hq)[pre.length]? =some v:=by rw[<-hl];simp
 have:=D5 h1 h2;have e1:(pre++k::post).eraseIdx pre.length=pre++post:=by rw[List.eraseIdx_append_of_length_le (aoH _)];simp
 have e2:(hp++v::hq).eraseIdx pre.length=hp++hq:=by rw[<-hl,List.eraseIdx_append_of_length_le (aoH _)];simp
 rw[e1,e2]at this;exact this
def re2(ρ:Nat->Value)(i:Nat)(u:Value)(j:Nat)(v:Value):Nat->Value:=λ x=>if x=i then u else if x=j then v else ρ x
theorem afp{r:RW}{pre post:List (ByteArray×RW)}(hij:i≠j)(h:aT X i (.mp t [] (pre++(k,r)::post))):
  ∃u v,dJ u=dJ (X.ρ i)/\(blks u++blks v).Perm (blks (X.ρ i))/\aT ⟨X.w,X.keep,re2 X.ρ i u j v⟩ i (.mp t [(k,some j)] (pre++post))/\aT ⟨X.w,X.keep,re2 X.ρ i u j v⟩ j (.row r.e r.s r.n r.sc r.f):=by
 obtain⟨b,es,c,vs,hs,e,hh,hi,hr,hp,hn,hst⟩:=h;have hvs:vs=[]:=hi;subst hvs;obtain⟨hp',v,hq,rfl,hl,hrow,hrest⟩:=hr.split;have hbv:iQ v=blks v:=by obtain⟨us,ho,_⟩:=hrow;exact Jp ho
 have hv:dJ v=v:=by obtain⟨us,ho,_⟩:=hrow;exact eY ho
 refine⟨.tuple (.map (some b):: .map (some b)::(hp'++hq)).toArray,v,by rw[e];rfl, ?_,⟨b,es,c,[v],hp'++hq,by simp[re2],hh,⟨v,[],rfl,λ i' hi'=>by cases hi';simp[Ui,re2,hij.symm,hv],rfl⟩,hrest.ρ, ?_, ?_,hst⟩, ?_⟩
 ·rw[e,nG,nG,apa,apa,aqv,aqv,apa,hbv];simp only[aoL];refine(apY _ (apY _ ?_));exact aqh
 ·refine hp.trans ?_;simp only[ap1,aoN,apt,apd,ao6];rw[lq];refine(afo (by simpa using hl)).trans (.of_eq ?_);simp
 ·simp only[ap1,aoN,apt,apd,ao6]at hn⊢;exact(apK.nodup_iff).1 hn
 ·show pJ _ (re2 X.ρ i _ j v j) _ _ _ _ _;rw[show re2 X.ρ i (.tuple (.map (some b):: .map (some b)::(hp'++hq)).toArray) j v j=v by simp[re2,hij.symm]];exact hrow.mono (X:=X) (λ _ h=>h) (λ _ _=>rfl) (λ _ _=>rfl)
theorem afq(hij:i≠j)(hk:k ∉ rs.map (·.1))(h:aT X i (.mp t [] rs)):
  aT ⟨X.w,X.keep,re2 X.ρ i (X.ρ i) j (.slice none 0 0)⟩ i (.mp t [(k,some j)] rs):=by
 obtain⟨b,es,c,vs,hs,e,hh,hi,hr,hp,hn,hst⟩:=h;have hvs:vs=[]:=hi;subst hvs;refine⟨b,es,c,[.slice none 0 0],hs,by simp[re2,e],hh,⟨_,[],rfl,λ i' hi'=>by cases hi';simp[Ui,re2,hij.symm,dJ],rfl⟩,hr.ρ, ?_, ?_,hst⟩
 ·refine hp.trans ?_;simp only[ap1,aoN,apd,ao6];rw[lq];exact .refl _
 ·simp only[ap1,aoN,apd,ao6]at hn⊢;exact apj.2 ⟨hk,hn⟩
theorem aj6{e:TypeId}{n:Nat}{sc:Bool}(h:aT X i (.mp t [(k,some j)] rs))(hr:aT X j (.row e s n sc f)):
  ∃u,dJ u=dJ (X.ρ i)/\(blks u).Perm (blks (X.ρ i)++blks (X.ρ j))/\aT ⟨X.w,X.keep,re2 X.ρ i u i u⟩ i (.mp t [] ((k,⟨e,s,n,sc,f⟩)::rs)):=by
 obtain⟨b,es,c,vs,hs,e',hh,hi,anA,hp,hn,hst⟩:=h;obtain⟨v,q,rfl,hv,hq⟩:=hi;have hq:q=[]:=hq;subst hq;have hv:v=dJ (X.ρ j):=hv j rfl;rw[DL hr]at hv;have hrow:pJ X v e s n sc f:=by rw[hv];exact hr
 have hbv:iQ v=blks v:=by obtain⟨us,ho,_⟩:=hrow;exact Jp ho
 refine⟨.tuple (.map (some b):: .map (some b)::v::hs).toArray,by rw[e'];rfl, ?_,b,es,c,[],v::hs,by simp[re2],hh,rfl,⟨v,hs,rfl,hrow.mono (X:=X) (λ _ h=>h) (λ _ _=>rfl) (λ _ _=>rfl),jv.ρ (w:=X.w) (k:=X.keep) (ρ:=X.ρ) anA⟩,hp,hn,hst⟩;rw[e',nG,nG,apa,apa,apa,hbv,hv];simp only[aoL];exact(apY _ aqh)
theorem ak9(hj:X.ρ j= .slice none 0 0)(hk:k ∉ rs.map (·.1))(h:aT X i (.mp t [] rs)):aT X i (.mp t [(k,some j)] rs):=by
 obtain⟨b,es,c,vs,hs,e,hh,hi,hr,hp,hn,hst⟩:=h;have hvs:vs=[]:=hi;subst hvs;refine⟨b,es,c,[.slice none 0 0],hs,e,hh,⟨_,[],rfl,λ i' hi'=>by cases hi';simp[Ui,hj,dJ],rfl⟩,hr, ?_, ?_,hst⟩
 ·refine hp.trans ?_;simp only[ap1,aoN,apd,ao6];rw[lq];exact .refl _
 ·simp only[ap1,aoN,apd,ao6]at hn⊢;exact apj.2 ⟨hk,hn⟩
def afr(x:AV)(st S:AS):Prop:= ∀(g:Base)(N:Nat)(bs:List (Array Value))(ρ:Nat->Value)(a:Act)(w:World)(u:Value),Rel g N bs ρ a w st->C2 (aC g w ρ st.heap) x u-> ∃ρ',Rel g N bs ρ' a w S/\C2 (aC g w ρ' S.heap) x u
theorem bZ.thn{P:Program}{L:Lay}(hL:bJ P L){W:Walk}(hW:Iz P W){d:Nat}{f:FuncId}{aZ:List AV}{K:AV->AS->Prop}(hE:Enters P f)(h:bZ P L W d f aZ st (λ x st'=> ∃S,afr x st' S/\K x S)):bZ P L W d f aZ st K:=by
 refine .sem hE λ g N bs ρ a w args R hargs=>?_;refine((qh R hargs h (λ lv fn c hf' hnm hb hsz h'=>xg hL hW R hargs lv fn c hf' hb hsz h')).2).mono ?_;rintro e w' ⟨u,x,st',ρ',rfl,⟨S,hI,hK⟩,R',hc⟩;obtain⟨X8,R2,hc2⟩:=hI _ _ _ _ _ _ _ R' hc;exact⟨u,x,S,X8,rfl,hK,R2,hc2⟩
theorem afr.foc(id d:Nat){e:TypeId}(hs:0<s)(hf:aK id (st.obj d d (.row e s 0 true f)).heap=some (.mp t [] rs))(hk:k ∉ rs.map (·.1)):
  afr (.bI []) st ⟨(st.obj d d (.row e s 0 true f)).sl,setObj id (.mp t [(k,some d)] rs) (st.obj d d (.row e s 0 true f)).heap,(st.obj d d (.row e s 0 true f)).back,(st.obj d d (.row e s 0 true f)).base⟩:=by
 intro g N bs ρ a w u R hc;have R1:Rel g N bs (cu ρ d (.slice none 0 0)) a w (st.obj d d (.row e s 0 true f)):=by
  refine R.obj d d R.below (aoH _) (λ _ _ _=>rfl) (λ b hb=>by cases hb) (λ _=>?_);exact⟨[],by simpa[aC,cu]using apA w _ e s,hs,λ i hi=>absurd hi o_,(λ _ x hx=>by cases hx),aG.nil⟩
 have ho:=R1.objs _ (aA hf);have hd:cu ρ d (.slice none 0 0) d= .slice none 0 0:=by simp[cu]
 obtain⟨b,es,c,vs,hs',e',_⟩:=ho;have e':cu ρ d (.slice none 0 0) id=_:=e';obtain⟨vs',rfl,hvs'⟩:∃us:List Value,u= .tuple us.toArray/\aG _ [] us:=hc;refine⟨_,R1.write hf (b:=b) (by rw[e'];exact aol) (apD _ _) rfl (λ _ _=>rfl) (λ hk' hm=>?_),vs',rfl,hvs'.1,λ i x u hx=>by simp at hx⟩;exact aT.same (X:=aC g w (cu ρ d (.slice none 0 0)) (st.obj d d (.row e s 0 true f)).heap) (Y:=aC g w (cu ρ d (.slice none 0 0)) (setObj id (.mp t [(k,some d)] rs) (st.obj d d (.row e s 0 true f)).heap)) hk' hm rfl (λ _ _=>rfl) (ak9 hd hk (R1.objs _ (aA hf)))
def stB(d:Int)(m:AV)(n:Int):AO:= .box 179 [.v (.int .u32 d),.v (.int .i32 0),.v (.int .u32 0),m,.v (.int .i64 n)]
def rwE(l:List Ev):RW:=⟨83,12,l.length,true,dI l⟩
abbrev jB:TypeId:=163
def fA(kv:List (ByteArray×List Ev)):List (ByteArray×RW):=kv.map λ p=>(p.1,rwE p.2)
theorem PG(kv:List (ByteArray×List Ev)):(fA kv).map (·.1)=kv.map (·.1):=by simp[fA,Function.comp_def]
def oW:List (ByteArray×List Ev)->ByteArray->List Ev
 |[],_=>[]
 |p::l,k=>if p.1=k then p.2 else oW l k
structure KV(K:ByteArray->List Ev)(m:Nat)(kv:List (ByteArray×List Ev)):Prop where
 nd:(kv.map (·.1)).Nodup
 eq:∀k,K k=oW kv k
 ln:kv.length<=m
 ky:∀p∈kv,p.1.size<=9223372036854775807
inductive aj7(K:ByteArray->List Ev)(m:Nat):Type where
 |new (h:∀k,K k=[])
 |old (kv:List (ByteArray×List Ev)) (h:KV K m kv)
def vg(K:ByteArray->List Ev)(n:Int)(m:Nat):aj7 K m->List (Nat×AO)
 | .new _=>[(0,stB 0 (.v (.map none)) n)]
 | .old kv _=>[(0,stB 1 (.own 1) n),(1,.mp jB [] (fA kv))]
def yF(K:ByteArray->List Ev)(n:Int)(m:Nat):OB:=OB.pack (vg K n m)
inductive amr(K:ByteArray->List Ev)(m:Nat)(k:ByteArray):Type where
 |new (h:∀k,K k=[])
 |old (kv:List (ByteArray×List Ev)) (hn:(kv.map (·.1)).Nodup) (hk:k ∉ kv.map (·.1)) (he:∀q,q≠k->K q=oW kv q) (hm:kv.length<=m) (hky:∀p∈kv,p.1.size<=9223372036854775807)
def YA(K:ByteArray->List Ev)(n:Int)(m:Nat)(k:ByteArray):amr K m k->List (Nat×AO)
 | .new _=>[(0,stB 0 (.v (.map none)) n)]
 | .old kv _ _ _ _ _=>[(0,stB 1 (.own 1) n),(1,.mp jB [(k,some 2)] (fA kv)),(2,jT (K k))]
theorem A8:∀{kv:List (ByteArray×List Ev)}{k:ByteArray},k∈kv.map (·.1)-> ∃pre l post,kv=pre++(k,l)::post/\k ∉ pre.map (·.1)
 |[],_,h=>by cases h
 |(q,l)::kv,k,h=>by
  by_cases e:q=k
  ·subst e;exact⟨[],l,kv,rfl,s_⟩
  ·have:k∈kv.map (·.1):=by
    rcases aot.1 h with h|h
    ·exact absurd h.symm e
    ·exact h
   obtain⟨pre,l',post,rfl,hn⟩:=A8 this;exact⟨(q,l)::pre,l',post,rfl,by simp only[apd,aot,not_or];exact⟨λ h=>e h.symm,hn⟩⟩
theorem CS:∀{kv:List (ByteArray×List Ev)}{k:ByteArray},k ∉ kv.map (·.1)->oW kv k=[]
 |[],_,_=>rfl
 |(q,l)::kv,k,h=>by
  simp only[apd,aot,not_or]at h;simp only[oW];rw[if_neg (λ e=>h.1 e.symm)];exact CS h.2
theorem Ba:∀{pre post:List (ByteArray×List Ev)}{k:ByteArray},k ∉ pre.map (·.1)->oW (pre++post) k=oW post k
 |[],_,_,_=>rfl
 |(q,l)::pre,post,k,h=>by
  simp only[apd,aot,not_or]at h;simp only[ao6,oW];rw[if_neg (λ e=>h.1 e.symm)];exact Ba h.2
theorem Gs{k:ByteArray}{l:List Ev}:∀{pre post:List (ByteArray×List Ev)}{q:ByteArray},q≠k->oW (pre++(k,l)::post) q=oW (pre++post) q
 |[],_,q,h=>by simp only[aoN,oW];rw[if_neg (λ e=>h e.symm)]
 |(p,m)::pre,post,q,h=>by
  simp only[ao6,oW];rw[Gs h]
theorem VG(K:ByteArray->List Ev)(n:Int)(m:Nat)(k:ByteArray):Opens (yF K n m) 0 (YA K n m k):=by
 refine(Opens.pack (vg K n m)).imp λ X y hnd hok=>?_;cases y with
 |new h=>exact⟨.new h,X.ρ,rfl,.refl _,hok⟩
 |old kv h=>
  have h0:=hok (0,stB 1 (.own 1) n) aol;have h1:=hok (1,.mp jB [] (fA kv)) (aoq _ aol);have box:∀(ρ':Nat->Value),ρ' 0=X.ρ 0->dJ (ρ' 1)=dJ (X.ρ 1)->aT ⟨X.w,X.keep,ρ'⟩ 0 (stB 1 (.own 1) n):=by
   intro ρ' e0 e1;obtain⟨b,us,e,hh,ha⟩:=h0;refine⟨b,us,e0.trans e,hh,ha.1,λ i x u hx hu=>?_⟩;have:=ha.2 i x u hx hu;exact C0.jX (X:=X) (Y:=⟨X.w,X.keep,ρ'⟩) (q:=λ _=>false) (j:=1) (λ _ h=>h) rfl (λ _ h=>by cases h) e1 (by
    have hm:=ao3 hx;simp only[aot,apy,or_false]at hm;rcases hm with rfl|rfl|rfl|rfl|rfl<;>rfl) this
  by_cases hk:k∈kv.map (·.1)
  ·obtain⟨pre,l,post,rfl,hpre⟩:=A8 hk;have hK:K k=l:=by rw[h.eq,Ba hpre];simp[oW]
   have hm:fA (pre++(k,l)::post)=fA pre++(k,rwE l)::fA post:=by simp[fA]
   rw[hm]at h1;obtain⟨u,v,hu,hp,g1,g2⟩:=afp (i:=1) (j:=2) d_ h1;have hnd':=h.nd;rw[apt,apd]at hnd';have YB:=(apK.nodup_iff).1 hnd';rw[<-apt]at YB;refine⟨.old (pre++post) (apj.1 YB).2 (apj.1 YB).1 (λ q hq=>by rw[h.eq,Gs hq]) (by have:=h.ln;simp at this⊢;omega) (λ p hp=>h.ky p (by rcases aov.1 hp with hp|hp<;>simp[hp])),re2 X.ρ 1 u 2 v,by simp[re2], ?_, ?_⟩
   ·show(ah (re2 X.ρ 1 u 2 v) [(0,stB 1 (.own 1) n),(1,.mp jB [(k,some 2)] (fA (pre++post))),(2,jT (K k))]).Perm (ah X.ρ [(0,stB 1 (.own 1) n),(1,.mp jB [] (fA (pre++(k,l)::post)))]);simp only[aS];rw[show re2 X.ρ 1 u 2 v 0=X.ρ 0 from rfl,show re2 X.ρ 1 u 2 v 1=u from rfl,show re2 X.ρ 1 u 2 v 2=v from rfl];refine apY _ ?_;rw[<-aoL];exact hp.append_right _
   ·intro p hp';simp only[YA,aot,apy,or_false]at hp';rcases hp' with rfl|rfl|rfl
    ·exact box _ rfl hu
    ·have:fA (pre++post)=fA pre++fA post:=by simp[fA]
     rw[this];exact g1
    ·rw[hK];exact g2
  ·refine⟨.old kv h.nd hk (λ q _=>h.eq q) h.ln h.ky,re2 X.ρ 1 (X.ρ 1) 2 (.slice none 0 0),by simp[re2], ?_, ?_⟩
   ·show(ah (re2 X.ρ 1 (X.ρ 1) 2 (.slice none 0 0)) [(0,stB 1 (.own 1) n),(1,.mp jB [(k,some 2)] (fA kv)),(2,jT (K k))]).Perm (ah X.ρ [(0,stB 1 (.own 1) n),(1,.mp jB [] (fA kv))]);simp only[aS];exact .refl _
   ·intro p hp';simp only[YA,aot,apy,or_false]at hp';rcases hp' with rfl|rfl|rfl
    ·exact box _ rfl rfl
    ·exact afq (i:=1) d_ (by rw[PG];exact hk) h1
    ·rw[h.eq,CS hk];exact⟨[],apA _ _ _ _,d_,λ i hi=>absurd hi s_,λ _ x hx=>absurd hx (by simp[flat]),aG.nil⟩
theorem Sj{cs:List AV}(h:aT X 0 (.box t cs)):(dJ (X.ρ 0)).oneCell'=true:=by
 obtain⟨b,us,e,_⟩:=h;rw[e];rfl
theorem PI(K:ByteArray->List Ev)(n:Int)(m:Nat)(h:∀k,K k=[]):Closes [(0,stB 0 (.v (.map none)) n)] 0 (yF K n m):=
 Closes.pack (vg K n m) (.new h) rfl λ _ hok=>Sj (hok _ aol)
theorem EH(K':ByteArray->List Ev)(n:Int)(m:Nat)(j:Nat)(_hj:2<=j)(k:ByteArray)(l:List Ev)(kv:List (ByteArray×List Ev))(hn:(kv.map (·.1)).Nodup)(hk:k ∉ kv.map (·.1))(he:∀q,q≠k->K' q=oW kv q)(hl:K' k=l)(hm:kv.length+1<=m)(hky:∀p∈kv,p.1.size<=9223372036854775807)(hks:k.size<=9223372036854775807):
  Closes [(0,stB 1 (.own 1) n),(1,.mp jB [(k,some j)] (fA kv)),(j,jT l)] 0 (yF K' n m):=by
 have hkv:KV K' m ((k,l)::kv):=⟨apj.2 ⟨hk,hn⟩,λ q=>by
  simp only[oW];split
  ·rename_i e;rw[<-e];exact hl
  ·rename_i e;exact he q (λ h=>e h.symm),by simpa using hm,λ p hp=>by
  rcases aot.1 hp with rfl|hp
  ·exact hks
  ·exact hky p hp⟩
 refine(Closes.pack (vg K' n m) (.old ((k,l)::kv) hkv) rfl λ X hok=>Sj (hok _ aol)).imp λ X hnd hok=>?_;have h0:=hok (0,stB 1 (.own 1) n) aol;have h1:=hok (1,.mp jB [(k,some j)] (fA kv)) (aoq _ aol);have h2:=hok (j,jT l) (aoq _ (aoq _ aol));obtain⟨u,hu,hp,g1⟩:=aj6 h1 h2;have hsub:(ah (re2 X.ρ 1 u 1 u) [(0,stB 1 (.own 1) n),(1,.mp jB [] (fA ((k,l)::kv)))]).Perm (ah X.ρ [(0,stB 1 (.own 1) n),(1,.mp jB [(k,some j)] (fA kv)),(j,jT l)]):=by
  simp only[aS];rw[show re2 X.ρ 1 u 1 u 0=X.ρ 0 from rfl,show re2 X.ρ 1 u 1 u 1=u from rfl];refine apY _ ?_;rw[<-aoL];exact hp.append_right _
 refine⟨re2 X.ρ 1 u 1 u,rfl,hsub.nodup_iff.2 hnd,λ b hb=>hsub.mem_iff.1 hb,λ p hp'=>?_⟩;simp only[vg,aot,apy,or_false]at hp';rcases hp' with rfl|rfl
 ·obtain⟨b,us,e,hh,ha⟩:=h0;refine⟨b,us,e,hh,ha.1,λ i x v hx hv=>?_⟩;have:=ha.2 i x v hx hv;exact C0.jX (X:=X) (Y:=⟨X.w,X.keep,re2 X.ρ 1 u 1 u⟩) (q:=λ _=>false) (j:=1) (λ _ h=>h) rfl (λ _ h=>by cases h) hu (by
   have hm:=ao3 hx;simp only[aot,apy,or_false]at hm;rcases hm with rfl|rfl|rfl|rfl|rfl<;>rfl) this
 ·exact g1
theorem yN.leR{σ:List (Nat×Nat)}(h:dO σ st S):yN st S:=λ _ _ _ _ _ _ R=>R.OD h
theorem KX{q:Nat->Bool}{j:Nat}:∀{l:List (Nat×AV)}(t:Nat),(l.all λ p=>fV q j p.2)=true->fV q j (tN l t)=true
 |[],_,_=>rfl
 |p::l,t,h=>by
  simp only[List.all_cons,aon]at h;simp only[tN];cases Nat.beq t p.1 with
  |true=>exact h.1
  |false=>exact KX t h.2
theorem PK{X Y:CX}{q:Nat->Bool}{j:Nat}(hk:∀b,X.keep b->Y.keep b)(hm:Y.w=X.w)(hρ:∀i,q i=true->Y.ρ i=X.ρ i)(hj:dJ (Y.ρ j)=dJ (X.ρ j)):
 ∀{fs:List (List (Nat×AV))}{bs:List (Array Value)},(fs.all λ f=>f.all λ p=>fV q j p.2)=true->mW X fs bs->mW Y fs bs
 |[],[],_,_=>trivial
 |_::_,_::_,h,k=>by
  simp only[List.all_cons,aon]at h;exact⟨λ t=>C2.jX hk hm hρ hj (KX t h.1) (k.1 t),PK hk hm hρ hj h.2 k.2⟩
 |[],_::_,_,k=>k.elim
 |_::_,[],_,k=>k.elim
theorem yN.Uc(q:Nat->Bool)(j:Nat)(hsl:S.sl=st.sl)(hbk:S.back=st.back)(h1:(st.sl.all λ p=>fV q j p.2)=true)(h2:(st.back.all λ f=>f.all λ p=>fV q j p.2)=true)
  (h:∀X:CX,(ah X.ρ st.heap).Nodup->(∀p∈st.heap,aT X p.1 p.2)-> ∃ρ':Nat->Value,(∀i,q i=true->ρ' i=X.ρ i)/\dJ (ρ' j)=dJ (X.ρ j)/\(ah ρ' S.heap).Nodup/\(∀b∈ah ρ' S.heap,b∈ah X.ρ st.heap)/\ ∀p∈S.heap,aT ⟨X.w,X.keep,ρ'⟩ p.1 p.2):yN st S:=by
 intro g N bs ρ a w R;obtain⟨ρ',g1,g2,gn,g3,g4⟩:=h (aC g w ρ st.heap) R.apart R.objs;have hk:∀b,aJ g w ρ st.heap b->aJ g w ρ' S.heap b:=λ b hb=>⟨hb.1,hb.2.1,λ h=>hb.2.2 (g3 b h)⟩;refine⟨ρ',R.size,R.defers,R.below,λ t=>?_,λ p hp=>?_,gn,λ b hb=>R.own b (g3 b hb), ?_⟩
 ·show C2 _ (tN S.sl t) _;rw[hsl];exact C2.jX (X:=aC g w ρ st.heap) (Y:=aC g w ρ' S.heap) hk rfl g1 g2 (KX t h1) (R.tmps t)
 ·have:=g4 p hp;exact aT.same (X:=⟨w,aJ g w ρ st.heap,ρ'⟩) (Y:=aC g w ρ' S.heap) hk (λ _ _=>rfl) rfl (λ _ _=>rfl) this
 ·rw[hbk];exact PK (X:=aC g w ρ st.heap) (Y:=aC g w ρ' S.heap) hk rfl g1 g2 h2 R.back
theorem yN.ak'(q:Nat->Bool)(j:Nat)(hsl:S.sl=st.sl)(hbk:S.back=st.back)(h1:(st.sl.all λ p=>fV q j p.2)=true)(h2:(st.back.all λ f=>f.all λ p=>fV q j p.2)=true)
  (h:∀X:CX,(ah X.ρ st.heap).Nodup->(∀p∈st.heap,aT X p.1 p.2)-> ∃ρ':Nat->Value,(∀i,q i=true->ρ' i=X.ρ i)/\dJ (ρ' j)=dJ (X.ρ j)/\(ah ρ' S.heap).Perm (ah X.ρ st.heap)/\ ∀p∈S.heap,aT ⟨X.w,X.keep,ρ'⟩ p.1 p.2):yN st S:=
 yN.Uc q j hsl hbk h1 h2 λ X hn ho=>by
  obtain⟨ρ',g1,g2,g3,g4⟩:=h X hn ho;exact⟨ρ',g1,g2,g3.nodup_iff.2 hn,λ b hb=>g3.mem_iff.1 hb,g4⟩
def rowA:AO->Bool
 | .row .. =>true
 |_=>false
def n12(i:Nat):Bool:= !(Nat.beq i 1)&& !(Nat.beq i 2)
theorem VH{p:Nat×AO}(hp:rowA p.2=true)(hρ:ρ' p.1=X.ρ p.1)(h:aT X p.1 p.2):aT ⟨X.w,X.keep,ρ'⟩ p.1 p.2:=by
 obtain⟨i,o⟩:=p;cases o with
 |row e s n sc f=>
  show pJ _ (ρ' i) e s n sc f;rw[show ρ' i=X.ρ i from hρ];exact pJ.mono (X:=X) (Y:=⟨X.w,X.keep,ρ'⟩) (λ _ h=>h) (λ _ _=>rfl) (λ _ _=>rfl) h
 |_=>cases hp
theorem YC{p:Nat×AO}(hp:(rowA p.2&&n12 p.1)=true)(hρ:∀i,n12 i=true->ρ' i=X.ρ i)(h:aT X p.1 p.2):aT ⟨X.w,X.keep,ρ'⟩ p.1 p.2:=by
 simp only[aon]at hp;exact VH hp.1 (hρ _ hp.2) h
theorem yN.cls{hs':List (Nat×AO)}{o:OB}(hC:Closes hs' 0 o)
  (h1:(sl.all λ p=>fV (λ i=>bP i H) 0 p.2)=true)(h2:(back.all λ f=>f.all λ p=>fV (λ i=>bP i H) 0 p.2)=true)(hH:(H.all λ p=>rowA p.2)=true)(h0:bP 0 H=false):
  yN ⟨sl,hs'++H,back,b⟩ ⟨sl,(0,.obs o)::H,back,b⟩:=by
 refine yN.Uc (λ i=>bP i H) 0 rfl rfl h1 h2 λ X hnd hok=>?_;dsimp only at hnd hok⊢;rw[dA,ao9]at hnd;obtain⟨us,a1,a2,a3⟩:=hC X.w X.keep X.ρ hnd.1 λ p hp=>hok p (aoT _ hp);have hne:∀i,bP i H=true->(if i=0 then Value.tuple us else X.ρ i)=X.ρ i:=λ i hi=>by
  have:i≠0:=by rintro rfl;rw[h0]at hi;cases hi
  rw[if_neg this]
 have hb:ah (λ i=>if i=0 then Value.tuple us else X.ρ i) ((0,.obs o)::H)=blks (.tuple us)++ah X.ρ H:=by
  rw[aS,fD λ p hp=>hne p.1 (bY.2 ⟨p,hp,rfl⟩)];rfl
 refine⟨λ i=>if i=0 then .tuple us else X.ρ i,hne,a2, ?_,λ b hb'=>?_,λ p hp=>?_⟩
 ·rw[hb,ao9];exact⟨(o.lt a1).2.2,hnd.2.1,λ a ha c hc=>hnd.2.2 a (a3 a ha) c hc⟩
 ·rw[hb]at hb';rw[dA];exact(aov.1 hb').elim (λ h=>aoT _ (a3 b h)) (λ h=>aoV _ h)
 ·rcases aot.1 hp with rfl|hp
  ·exact⟨us,rfl,a1⟩
  ·exact VH (aoD.1 hH p hp) (hne p.1 (bY.2 ⟨p,hp,rfl⟩)) (hok p (aoV _ hp))
theorem Closes.obs(o:OB):Closes [(0,.obs o)] 0 o:=by
 intro w k ρ hnd hok;obtain⟨us,e,hR⟩:=hok _ aol;have e:ρ 0= .tuple us:=e;have hR:o.R w k (ρ 0):=hR;rw[e]at hR;exact⟨us,hR,by show _=dJ (ρ 0);rw[e],λ b hb=>aQ.2 ⟨_,aol,by show b∈blks (ρ 0);rw[e];exact hb⟩⟩
theorem Sl(ρ:Nat->Value)(u v:Value)(i:Nat)(h:n12 i=true):re2 ρ 1 u 2 v i=ρ i:=by
 simp only[n12,aon,aoX]at h;have h1:i≠1:=λ e=>by rw[e]at h;simp at h
 have h2:i≠2:=λ e=>by rw[e]at h;simp at h
 simp[re2,h1,h2]
theorem Bc(ρ:Nat->Value)(u v:Value)(i:Nat)(h:n12 i=true):re2 ρ 1 u 1 v i=ρ i:=by
 simp only[n12,aon,aoX]at h;have h1:i≠1:=λ e=>by rw[e]at h;simp at h
 simp[re2,h1]
theorem CU{ρ:Nat->Value}(hH:(H.all λ p=>rowA p.2&&n12 p.1)=true)(hρ:∀i,n12 i=true->ρ' i=ρ i):ah ρ' H=ah ρ H:=
 fD λ p hp=>hρ _ (by
  have:=aoD.1 hH p hp;simp only[aon]at this;exact this.2)
theorem YD(e0:ρ' 0=X.ρ 0)(e1:dJ (ρ' 1)=dJ (X.ρ 1))(h0:aT X 0 (stB 1 (.own 1) n)):aT ⟨X.w,X.keep,ρ'⟩ 0 (stB 1 (.own 1) n):=by
 obtain⟨b,us,e,hh,ha⟩:=h0;refine⟨b,us,e0.trans e,hh,ha.1,λ i x u hx hu=>?_⟩;have:=ha.2 i x u hx hu;exact C0.jX (X:=X) (Y:=⟨X.w,X.keep,ρ'⟩) (q:=λ _=>false) (j:=1) (λ _ h=>h) rfl (λ _ h=>by cases h) e1 (by
  have hm:=ao3 hx;simp only[aot,apy,or_false]at hm;rcases hm with rfl|rfl|rfl|rfl|rfl<;>rfl) this
theorem VI{pre post:List (ByteArray×List Ev)}
  (h1:(sl.all λ p=>fV n12 1 p.2)=true)(h2:(back.all λ f=>f.all λ p=>fV n12 1 p.2)=true)(hH:(H.all λ p=>rowA p.2&&n12 p.1)=true):
  yN ⟨sl,(0,stB 1 (.own 1) n)::(1,.mp jB [] (fA (pre++(k,l)::post)))::H,back,b⟩ ⟨sl,(0,stB 1 (.own 1) n)::(1,.mp jB [(k,some 2)] (fA (pre++post)))::(2,jT l)::H,back,b⟩:=by
 refine yN.ak' n12 1 rfl rfl h1 h2 λ X hnd hok=>?_;have g0:=hok (0,stB 1 (.own 1) n) aol;have g1:=hok (1,.mp jB [] (fA (pre++(k,l)::post))) (aoq _ aol);rw[show fA (pre++(k,l)::post)=fA pre++(k,rwE l)::fA post by simp[fA]]at g1;obtain⟨u,v,hu,hp,a1,a2⟩:=afp (i:=1) (j:=2) d_ g1;refine⟨re2 X.ρ 1 u 2 v,Sl X.ρ u v,hu, ?_,λ p hp'=>?_⟩
 ·simp only[aS];rw[show re2 X.ρ 1 u 2 v 0=X.ρ 0 from rfl,show re2 X.ρ 1 u 2 v 1=u from rfl,show re2 X.ρ 1 u 2 v 2=v from rfl,CU hH (Sl X.ρ u v)];refine apY _ ?_;rw[<-aoL];exact hp.append_right _
 ·simp only[aot]at hp';rcases hp' with rfl|rfl|rfl|hp'
  ·exact YD rfl hu g0
  ·rw[show fA (pre++post)=fA pre++fA post by simp[fA]];exact a1
  ·exact a2
  ·exact YC (aoD.1 hH p hp') (Sl X.ρ u v) (hok p (aoq _ (aoq _ hp')))
theorem PL
  (h1:(sl.all λ p=>fV n12 1 p.2)=true)(h2:(back.all λ f=>f.all λ p=>fV n12 1 p.2)=true)(hH:(H.all λ p=>rowA p.2&&n12 p.1)=true):
  yN ⟨sl,(0,stB 1 (.own 1) n)::(1,.mp jB [(k,some 2)] (fA kv))::(2,jT l)::H,back,b⟩ ⟨sl,(0,stB 1 (.own 1) n)::(1,.mp jB [] (fA ((k,l)::kv)))::H,back,b⟩:=by
 refine yN.ak' n12 1 rfl rfl h1 h2 λ X hnd hok=>?_;have g0:=hok (0,stB 1 (.own 1) n) aol;have g1:=hok (1,.mp jB [(k,some 2)] (fA kv)) (aoq _ aol);have g2:=hok (2,jT l) (aoq _ (aoq _ aol));obtain⟨u,hu,hp,a1⟩:=aj6 g1 g2;refine⟨re2 X.ρ 1 u 1 u,Bc X.ρ u u,hu, ?_,λ p hp'=>?_⟩
 ·simp only[aS];rw[show re2 X.ρ 1 u 1 u 0=X.ρ 0 from rfl,show re2 X.ρ 1 u 1 u 1=u from rfl,CU hH (Bc X.ρ u u)];refine apY _ ?_;rw[<-aoL];exact hp.append_right _
 ·simp only[aot]at hp';rcases hp' with rfl|rfl|hp'
  ·exact YD rfl hu g0
  ·exact a1
  ·exact YC (aoD.1 hH p hp') (Bc X.ρ u u) (hok p (aoq _ (aoq _ (aoq _ hp'))))
theorem afs{rs':List (ByteArray×RW)}(hp:rs'.Perm rs):∀{hs':List Value},jv X rs' hs'-> ∃hs,jv X rs hs/\(mV (rs.map (·.1)) hs).Perm (mV (rs'.map (·.1)) hs')/\(hs.flatMap iQ).Perm (hs'.flatMap iQ):=by
 induction hp with
 |nil=>exact λ{hs'} h=>⟨hs',h,.refl _,.refl _⟩
 |cons p _ ih=>
  intro hs' h;obtain⟨v,q,rfl,hr,hq⟩:∃v q,hs'=v::q/\_/\_:=h;obtain⟨hs,h1,h2,h3⟩:=ih hq;refine⟨v::hs,⟨v,hs,rfl,hr,h1⟩, ?_, ?_⟩
  ·simp only[apd,lq];exact h2.append_left _
  ·simp only[apa];exact h3.append_left _
 |swap p q l=>
  intro hs' h;obtain⟨v,r,rfl,hr,u,t,rfl,hu,ht⟩:∃v r,hs'=v::r/\_/\ ∃u t,r=u::t/\_/\_:=h;refine⟨u::v::t,⟨u,v::t,rfl,hu,v,t,rfl,hr,ht⟩, ?_, ?_⟩
  ·simp only[apd,lq,<-aoL];exact aqh.append_right _
  ·simp only[apa,<-aoL];exact aqh.append_right _
 |trans _ _ ih1 ih2=>
  intro hs' h;obtain⟨h1,a1,a2,a3⟩:=ih1 h;obtain⟨h2,b1,b2,b3⟩:=ih2 a1;exact⟨h2,b1,b2.trans a2,b3.trans a3⟩
theorem aft{kv':List (ByteArray×List Ev)}(hp:kv.Perm kv')
  (h1:(sl.all λ p=>fV n12 1 p.2)=true)(h2:(back.all λ f=>f.all λ p=>fV n12 1 p.2)=true)(hH:(H.all λ p=>rowA p.2&&n12 p.1)=true):
  yN ⟨sl,(0,stB 1 (.own 1) n)::(1,.mp jB [] (fA kv))::H,back,b⟩ ⟨sl,(0,stB 1 (.own 1) n)::(1,.mp jB [] (fA kv'))::H,back,b⟩:=by
 refine yN.ak' n12 1 rfl rfl h1 h2 λ X hnd hok=>?_;have g0:=hok (0,stB 1 (.own 1) n) aol;obtain⟨c,es,cl,vs,hs,e,hh,hi,hr,hpe,hn,hst⟩:=hok (1,.mp jB [] (fA kv)) (aoq _ aol);have e:X.ρ 1=_:=e;have hvs:vs=[]:=hi;subst hvs;have hpr:(fA kv).Perm (fA kv'):=hp.map _;obtain⟨hs2,a1,a2,a3⟩:=afs hpr hr;simp only[ap1,aoN]at hpe hn;obtain⟨u,eu⟩:∃u:Value,u= .tuple (.map (some c):: .map (some c)::hs2).toArray:=⟨_,rfl⟩;have hu:dJ u=dJ (X.ρ 1):=by rw[e,eu];rfl
 refine⟨re2 X.ρ 1 u 1 u,Bc X.ρ u u,hu, ?_,λ p hp'=>?_⟩
 ·simp only[aS];rw[show re2 X.ρ 1 u 1 u 0=X.ρ 0 from rfl,show re2 X.ρ 1 u 1 u 1=u from rfl,CU hH (Bc X.ρ u u)];refine apY _ (List.Perm.append_right _ ?_);rw[e,eu,nG,nG,apa,apa];exact a3.append_left _
 ·simp only[aot]at hp';rcases hp' with rfl|rfl|hp'
  ·exact YD rfl hu g0
  ·refine⟨c,es,cl,[],hs2,eu,hh,rfl,jv.ρ (w:=X.w) (k:=X.keep) (ρ:=X.ρ) a1,hpe.trans (by simpa using a2.symm), ?_,hst⟩;simpa using((hpr.map _).nodup_iff).1 hn
  ·exact YC (aoD.1 hH p hp') (Bc X.ρ u u) (hok p (aoq _ (aoq _ hp')))
structure FOK(K:ByteArray->List Ev)(m:Nat)(k:ByteArray)(ss:List ByteArray)(kv:List (ByteArray×List Ev)):Prop where
 nd:(kv.map (·.1)).Nodup
 nk:k ∉ kv.map (·.1)
 eq:∀q,q≠k->K q=oW kv q
 ln:kv.length+1<=m
 ky:∀p∈kv,p.1.size<=9223372036854775807
 ks:k.size<=9223372036854775807
 mem:∀x∈ss,x=k\/x∈kv.map (·.1)
theorem FOK.close(h:FOK K m k ss kv):KV K m ((k,K k)::kv)/\ ∀x∈ss,x∈((k,K k)::kv).map (·.1):=by
 refine⟨⟨apj.2 ⟨h.nk,h.nd⟩,λ q=>?_,h.ln,λ p hp=>?_⟩,λ x hx=>?_⟩
 ·simp only[oW];split
  ·rename_i e;rw[<-e]
  ·rename_i e;exact h.eq q (λ h=>e h.symm)
 ·rcases aot.1 hp with rfl|hp
  ·exact h.ks
  ·exact h.ky p hp
 ·rcases h.mem x hx with rfl|h
  ·exact aol
  ·exact aoq _ h
theorem FOK.open(h:KV K m kv)(hs:∀x∈ss,x∈kv.map (·.1))(hk:k∈kv.map (·.1)):
  ∃pre post,kv=pre++(k,K k)::post/\FOK K m k ss (pre++post):=by
 obtain⟨pre,l,post,rfl,hpre⟩:=A8 hk;have hK:K k=l:=by rw[h.eq,Ba hpre];simp[oW]
 have hnd':=h.nd;rw[apt,apd]at hnd';have YB:=(apK.nodup_iff).1 hnd';rw[<-apt]at YB;refine⟨pre,post,by rw[hK],(apj.1 YB).2,(apj.1 YB).1,λ q hq=>by rw[h.eq,Gs hq],by have:=h.ln;simp at this⊢;omega,λ p hp=>h.ky p (by rcases aov.1 hp with hp|hp<;>simp[hp]),h.ky (k,l) s_,λ x hx=>?_⟩;have:=hs x hx;simp only[apt,apd,aov,aot]at this⊢;grind
theorem afu(hf:FOK K m k ss kv)(hk:k'∈ss)
  (h1:(sl.all λ p=>fV n12 1 p.2)=true)(h2:(back.all λ f=>f.all λ p=>fV n12 1 p.2)=true)(hH:(H.all λ p=>rowA p.2&&n12 p.1)=true):
  ∃kv',FOK K m k' ss kv'/\((k,K k)::kv).Perm ((k',K k')::kv')/\yN ⟨sl,(0,stB 1 (.own 1) n)::(1,.mp jB [(k,some 2)] (fA kv))::(2,jT (K k))::H,back,b⟩ ⟨sl,(0,stB 1 (.own 1) n)::(1,.mp jB [(k',some 2)] (fA kv'))::(2,jT (K k'))::H,back,b⟩:=by
 obtain⟨c1,c2⟩:=hf.close;obtain⟨pre,post,e,hf'⟩:=FOK.open c1 c2 (c2 k' hk)
 refine⟨pre++post,hf',by rw[e];exact apK,(PL h1 h2 hH).trans ?_⟩;rw[e];exact VI h1 h2 hH
theorem abO(hf:KV K m kv)(hs:∀x∈ss,x∈kv.map (·.1))(hk:k'∈ss)
  (h1:(sl.all λ p=>fV n12 1 p.2)=true)(h2:(back.all λ f=>f.all λ p=>fV n12 1 p.2)=true)(hH:(H.all λ p=>rowA p.2&&n12 p.1)=true):
  ∃kv',FOK K m k' ss kv'/\kv.Perm ((k',K k')::kv')/\yN ⟨sl,(0,stB 1 (.own 1) n)::(1,.mp jB [] (fA kv))::H,back,b⟩ ⟨sl,(0,stB 1 (.own 1) n)::(1,.mp jB [(k',some 2)] (fA kv'))::(2,jT (K k'))::H,back,b⟩:=by
 obtain⟨pre,post,e,hf'⟩:=FOK.open hf hs (hs k' hk)
 refine⟨pre++post,hf',by rw[e];exact apK, ?_⟩;rw[e];exact VI h1 h2 hH
theorem KY(g:FuncId)(same:Ev->Bool)(kind:Int)(e:Ev)(hs:∀a,aH prog g [a.av] (.v (.bool (same a))) [])
  (l:List Ev)(R:List Ev)(hr:l.filter (dY kind same e)=R)(hl:l.length<=1000000000):
  aj prog 167 [(0,jT l)] [.own 0,e.av,.v (.int .i64 kind),.fn g []] (aj3 1 R) (afn 1 R):=by
 let b0:=false;exact wsc
theorem EI(g:FuncId)(same:Ev->Bool)(kind:Int)(e:Ev)(hs:∀a,aH prog g [a.av] (.v (.bool (same a))) [])
  (l:List Ev)(r:Ev)(rs:List Ev)(hr:l.filter (dY kind same e)=r::rs)(hl:l.length<=1000000000):
  aj prog 167 [(0,jT l)] [.own 0,e.av,.v (.int .i64 kind),.fn g []] (.own 1) [(1,.row 83 12 (rs.length+1) true (dI (r::rs)))]:=
 KY g same kind e hs l (r::rs) hr hl
theorem Sm(g:FuncId)(same:Ev->Bool)(kind:Int)(e:Ev)(hs:∀a,aH prog g [a.av] (.v (.bool (same a))) [])
  (l:List Ev)(hr:l.filter (dY kind same e)=[])(hl:l.length<=1000000000):
  aj prog 167 [(0,jT l)] [.own 0,e.av,.v (.int .i64 kind),.fn g []] (.v (.slice none 0 0)) []:=
 KY g same kind e hs l [] hr hl
theorem YE(a:Ev):aH prog 168 [a.av] (.v (.bool true)) []:=by
 dsimp only[Ev.av,Ev.cs];refine K1.E 0x5 func168 ?_;repeat' ((conv=>whnf);first|refine aU.fF ?_|fail)
 conv=>whnf
 exact bn.mk (au)
theorem aaw(e a:Ev):aj prog 170 [(0,.box 83 e.cs)] [a.av,.box 0 0] (.v (.bool (decide (a.l=e.l)))) [(0,.box 83 e.cs)]:=by
 dsimp only[Ev.av,Ev.cs];refine K1.M 0xf func170 10 ?_;repeat' ((conv=>whnf);first|refine K1.y (λ _=>?_) (λ _=>?_)|fail)
 all_goals(conv=>whnf)
 all_goals refine⟨[],rfl,rfl,⟨ay rfl,trivial⟩,rfl,rfl, ?_⟩
 ·rw[decide_eq_true a_];exact au
 ·rw[decide_eq_false a_];exact au
theorem Jg(e a:Ev):aj prog 171 [(0,.box 83 e.cs)] [a.av,.box 0 0] (.v (.bool (decide (a.l=e.l)&&decide (a.v=e.v)))) [(0,.box 83 e.cs)]:=by
 dsimp only[Ev.av,Ev.cs];refine K1.M 0xf func171 10 ?_;repeat' ((conv=>whnf);first|refine K1.y (λ _=>?_) (λ _=>?_)|fail)
 all_goals(conv=>whnf)
 all_goals refine⟨[],rfl,rfl,⟨ay rfl,trivial⟩,rfl,rfl, ?_⟩
 all_goals first
  |(rw[show(decide (a.l=e.l)&&decide (a.v=e.v))=true by simp[*]];exact au)
  |(rw[show(decide (a.l=e.l)&&decide (a.v=e.v))=false by simp[*]];exact au)
theorem ala(l:List Ev)(e:Ev)(hk:e.k=1)(hl:l.length<=1000000000):
  aj prog 134 [(0,jT l)] [.own 0,e.av] (.own 1) [(1,jT (l++[e]))]:=by
 obtain⟨er,en,ec,eh,ek,KZ,el,ev⟩:=e;dsimp only at hk;subst hk;dsimp only[Ev.av,Ev.cs];refine K1.M 0x2020021041bb func134 10 ?_;repeat' ((conv=>whnf);first|refine K1.u ?_|fail)
 conv=>whnf
 refine⟨[(12,1)],rfl,rfl,⟨⟨_,rfl,dK.row s_ (λ m hm=>?_)⟩,trivial⟩,rfl,rfl,au⟩;exact dP (c:=Ev.cs) (l:=l) rfl rfl m hm
theorem afv(l:List Ev)(e:Ev)(hk:e.k=3)(hc:l.any (KW e)=false)(hl:l.length<=1000000000):
  aj prog 134 [(0,jT l)] [.own 0,e.av] (.own 0) [(0,jT l)]:=by
 have hcr:=iM l e o_;rw[hc]at hcr;dsimp only[Ev.av,Ev.cs]at hcr⊢;refine K1.M 0x2020021041bb func134 10 ?_;repeat' ((conv=>whnf);first|refine K1.u ?_|refine K1.P1 hcr ?_|fail)
 all_goals(conv=>whnf)
 exact⟨[],rfl,rfl,⟨ay rfl,trivial⟩,rfl,rfl,au⟩
section
variable{P:Program}{L:Lay}{N:Nat}{st:AS}
theorem PN(lv:Nat):∀(l:List (Nat×AV))(t:Nat),tN (Iq lv l) t=if QN lv t=true then tN l t else .junk
 |[],t=>by simp[Iq,tN]
 |(k,v)::l,t=>by
  have ih:=PN lv l t;simp only[Iq];cases hk:QN lv k with
  |true=>
   simp only[cond_true,tN];cases hb:Nat.beq t k with
   |true=>rw[aos hb,hk];simp
   |false=>simpa using ih
  |false=>
   simp only[cond_false,tN];cases hb:Nat.beq t k with
   |true=>rw[ih,aos hb,hk];simp
   |false=>simpa using ih
theorem Jw.alb{st S:AS}(lv:Nat)(h:Jw (st.wX lv) S):Jw st S:=by
 refine⟨λ t=>?_,h.hp,h.nd,h.bk⟩;rcases h.tm t with k|k
 ·exact .inl k
 ·refine .inr ?_;have e:(st.wX lv).tmps t=if QN lv t=true then st.tmps t else .junk:=PN lv st.sl t
  rw[e]at k;split at k
  ·exact k
  ·exact λ X u _=>k X u (by trivial)
theorem fO.anB(lv:Nat)(hL:bJ P L){W:Walk}(hW:Iz P W){id:Nat}{ops:Array Oper}{K:AS->Prop}(S:AS)(hm:P.follows .mixedOrders=true)(hs:Region.noSelect ops=true)(h:xw P L W N ops.toList.length ops.toList (λ st'=>nrm lv st' (λ s=>Jw s S)) ops.toList.length [] st)(hK:K S):fO P L W N id ops K st:=by
 have go:∀{st':AS},nrm lv st' (λ s=>Jw s S)->Jw st' S:=λ h=>by rw[Jt]at h;exact h.alb lv
 have:=fO.any (P:=P) (L:=L) (N:=N) (id:=id) hL hW hm hs h;cases this with
 |quiet hm hB hq h=>
  refine .sem λ g bs ρ a w E R hE=>?_;refine wp_region_quiet (C:=λ w'=>w'=w.drew) hm hB rfl ?_;have R':Rel g N bs ρ a w.drew st:=R.world (apD _ _).drew;exact vN hL (E:=λ a w=>E .normal a w) (ops:=ops.toList) (λ a w1 st R h=>hE _ _ _ _ (R.less (go h)) hK) ops.toList hq R' h
 |sem h=>exact .sem λ g bs ρ a w E R hE=>h g bs ρ a w E R λ ρ a w st R h=>hE _ _ _ _ (R.less (go h)) hK
structure bD(P:Program)(L:Lay)(W:Walk)(N:Nat)(n:Nat)(ops:List Oper)(Q:AS->Prop)(f:Nat)(done:List Nat)(st:AS):Prop where
 mk::
 h:xw P L W N n ops Q f done st
section
variable{W:Walk}{n:Nat}{ops:List Oper}{Q:AS->Prop}{f:Nat}{done:List Nat}
theorem bD.eq:bD P L W N n ops Q f done=xw P L W N n ops Q f done:=funext λ _=>propext ⟨λ k=>k.h,.mk⟩
theorem bD.fin(h1:gq n done 0 ops=[])(h:Q st):bD P L W N n ops Q f done st:= .mk (by
 cases f with
 |zero=>simp only[xw,h1];exact h
 |succ f=>simp only[xw,h1];exact h)
theorem bD.pick(j:Nat)(o:Oper)(h2:zC L N st ops done (gq n done 0 ops)=some j)(h3:ops[j]? =some o)(h:qL P L W N ops o st (bD P L W N n ops Q f (j::done))):bD P L W N n ops Q (f+1) done st:= .mk (by
 rw[bD.eq]at h;cases h1:gq n done 0 ops with
 |nil=>rw[h1]at h2;cases h2
 |cons i r=>
  rw[h1]at h2;simp only[xw,h1,h2,h3];exact h)
theorem bD.one(i:Nat)(o:Oper)(h1:gq n done 0 ops=[i])(h2:zC L N st ops done [i]=none)(h3:ops[i]? =some o)(h:qL P L W N ops o st (bD P L W N n ops Q f (i::done))):bD P L W N n ops Q (f+1) done st:= .mk (by
 rw[bD.eq]at h;simp only[xw,h1,h2,abo,h3];exact h)
theorem bD.fork(i j:Nat)(o p:Oper)(h1:gq n done 0 ops=[i,j])(h2:zC L N st ops done [i,j]=none)(h3:ops[i]? =some o)(h4:ops[j]? =some p)
  (h:qL P L W N ops o st (bD P L W N n ops Q f (i::done)))(k:qL P L W N ops p st (bD P L W N n ops Q f (j::done))):bD P L W N n ops Q (f+1) done st:= .mk (by
 rw[bD.eq]at h k;simp only[xw,h1,h2,abo,h3,h4];exact⟨h,k⟩)
theorem bD.mQ(i j q:Nat)(o p r:Oper)(h1:gq n done 0 ops=[i,j,q])(h2:zC L N st ops done [i,j,q]=none)(h3:ops[i]? =some o)(h4:ops[j]? =some p)(h5:ops[q]? =some r)
  (h:qL P L W N ops o st (bD P L W N n ops Q f (i::done)))(k:qL P L W N ops p st (bD P L W N n ops Q f (j::done)))(m:qL P L W N ops r st (bD P L W N n ops Q f (q::done))):bD P L W N n ops Q (f+1) done st:= .mk (by
 rw[bD.eq]at h k m;simp only[xw,h1,h2,abo,h3,h4,h5];exact⟨h,k,m⟩)
theorem fO.aiC(lv:Nat)(hL:bJ P L)(hW:Iz P W){id:Nat}{ops:Array Oper}{K:AS->Prop}(S:AS)(hm:P.follows .mixedOrders=true)(hs:Region.noSelect ops=true)(m:Nat)(l:List Oper)(hm':ops.toList.length=m)(hl:ops.toList=l)(h:bD P L W N m l (λ st'=>nrm lv st' (λ s=>Jw s S)) m [] st)(hK:K S):fO P L W N id ops K st:=
 fO.anB lv hL hW S hm hs (by subst hm' hl;exact h.h) hK
end
end
theorem Jw.NM{l:List (Nat×AV)}{h:List (Nat×AO)}{x:List (Nat×AV)}(ht:LeT st l)(hh:LeH st h)(hn:nodupB (h.map (·.1))=true)(hb:st.back=[x]):Jw st ⟨l,h,[[]],b⟩:=by
 have:=Jw.mk' (st:=st) l h ht hh hn;exact⟨this.tm,this.hp,this.nd,by rw[hb];exact⟨λ _=> .inl rfl,trivial⟩⟩
theorem ay1(q:B)(h:B->A:=by first|exact λ q=>bD.pick 0 _ rfl rfl q|exact λ q=>bD.pick 1 _ rfl rfl q|exact λ q=>bD.pick 2 _ rfl rfl q|exact λ q=>bD.pick 3 _ rfl rfl q|exact λ q=>bD.pick 4 _ rfl rfl q|exact λ q=>bD.pick 5 _ rfl rfl q|exact λ q=>bD.pick 6 _ rfl rfl q|exact λ q=>bD.pick 7 _ rfl rfl q|exact λ q=>bD.one 0 _ rfl rfl rfl q|exact λ q=>bD.one 1 _ rfl rfl rfl q|exact λ q=>bD.one 2 _ rfl rfl rfl q|exact λ q=>bD.one 3 _ rfl rfl rfl q|exact λ q=>bD.one 4 _ rfl rfl rfl q|exact λ q=>bD.one 5 _ rfl rfl rfl q|exact λ q=>bD.one 6 _ rfl rfl rfl q|exact λ q=>bD.one 7 _ rfl rfl rfl q):A:=h q
theorem ay2(q:B)(r:C)(h:B->C->A:=by first|exact λ q r=>bD.fork 0 1 _ _ rfl rfl rfl rfl q r|exact λ q r=>bD.fork 0 2 _ _ rfl rfl rfl rfl q r|exact λ q r=>bD.fork 0 3 _ _ rfl rfl rfl rfl q r|exact λ q r=>bD.fork 0 4 _ _ rfl rfl rfl rfl q r|exact λ q r=>bD.fork 0 5 _ _ rfl rfl rfl rfl q r|exact λ q r=>bD.fork 0 6 _ _ rfl rfl rfl rfl q r|exact λ q r=>bD.fork 1 2 _ _ rfl rfl rfl rfl q r|exact λ q r=>bD.fork 1 3 _ _ rfl rfl rfl rfl q r|exact λ q r=>bD.fork 1 4 _ _ rfl rfl rfl rfl q r|exact λ q r=>bD.fork 1 5 _ _ rfl rfl rfl rfl q r|exact λ q r=>bD.fork 1 6 _ _ rfl rfl rfl rfl q r|exact λ q r=>bD.fork 2 3 _ _ rfl rfl rfl rfl q r|exact λ q r=>bD.fork 2 4 _ _ rfl rfl rfl rfl q r|exact λ q r=>bD.fork 2 5 _ _ rfl rfl rfl rfl q r|exact λ q r=>bD.fork 2 6 _ _ rfl rfl rfl rfl q r|exact λ q r=>bD.fork 3 4 _ _ rfl rfl rfl rfl q r|exact λ q r=>bD.fork 3 5 _ _ rfl rfl rfl rfl q r|exact λ q r=>bD.fork 3 6 _ _ rfl rfl rfl rfl q r|exact λ q r=>bD.fork 4 5 _ _ rfl rfl rfl rfl q r|exact λ q r=>bD.fork 4 6 _ _ rfl rfl rfl rfl q r|exact λ q r=>bD.fork 5 6 _ _ rfl rfl rfl rfl q r):A:=h q r
theorem ay3{D:Prop}(q:B)(r:C)(s:D)(h:B->C->D->A:=by first|exact λ q r s=>bD.mQ 0 1 2 _ _ _ rfl rfl rfl rfl rfl q r s|exact λ q r s=>bD.mQ 0 1 3 _ _ _ rfl rfl rfl rfl rfl q r s|exact λ q r s=>bD.mQ 0 1 4 _ _ _ rfl rfl rfl rfl rfl q r s|exact λ q r s=>bD.mQ 0 1 5 _ _ _ rfl rfl rfl rfl rfl q r s|exact λ q r s=>bD.mQ 0 2 3 _ _ _ rfl rfl rfl rfl rfl q r s|exact λ q r s=>bD.mQ 0 2 4 _ _ _ rfl rfl rfl rfl rfl q r s|exact λ q r s=>bD.mQ 0 2 5 _ _ _ rfl rfl rfl rfl rfl q r s|exact λ q r s=>bD.mQ 0 3 4 _ _ _ rfl rfl rfl rfl rfl q r s|exact λ q r s=>bD.mQ 0 3 5 _ _ _ rfl rfl rfl rfl rfl q r s|exact λ q r s=>bD.mQ 0 4 5 _ _ _ rfl rfl rfl rfl rfl q r s|exact λ q r s=>bD.mQ 1 2 3 _ _ _ rfl rfl rfl rfl rfl q r s|exact λ q r s=>bD.mQ 1 2 4 _ _ _ rfl rfl rfl rfl rfl q r s|exact λ q r s=>bD.mQ 1 2 5 _ _ _ rfl rfl rfl rfl rfl q r s|exact λ q r s=>bD.mQ 1 3 4 _ _ _ rfl rfl rfl rfl rfl q r s|exact λ q r s=>bD.mQ 1 3 5 _ _ _ rfl rfl rfl rfl rfl q r s|exact λ q r s=>bD.mQ 1 4 5 _ _ _ rfl rfl rfl rfl rfl q r s|exact λ q r s=>bD.mQ 2 3 4 _ _ _ rfl rfl rfl rfl rfl q r s|exact λ q r s=>bD.mQ 2 3 5 _ _ _ rfl rfl rfl rfl rfl q r s|exact λ q r s=>bD.mQ 2 4 5 _ _ _ rfl rfl rfl rfl rfl q r s|exact λ q r s=>bD.mQ 3 4 5 _ _ _ rfl rfl rfl rfl rfl q r s):A:=h q r s
theorem abP(l:List Ev)(e:Ev)(hk:e.k=4)(hc:l.any (KW e)=true)(r:Ev)(rs:List Ev)(hr:l.filter (dY 4 (λ a=>decide (a.l=e.l)&&decide (a.v=e.v)) e)=r::rs)(hl:l.length<=1000000000):
  aj prog 134 [(0,jT l)] [.own 0,e.av] (.own 1) [(1,jT ((r::rs)++[e]))]:=by
 have hw:=zS 171 (λ a=>decide (a.l=e.l)&&decide (a.v=e.v)) 4 e (Jg e) l r rs hr hl;have hcr:=iM l e o_;rw[hc]at hcr;have hlf:=aoI (dY 4 (λ a=>decide (a.l=e.l)&&decide (a.v=e.v)) e) l;rw[hr]at hlf;simp only[aoE]at hlf;dsimp only[Ev.av,Ev.cs]at hw hcr⊢;refine K1.M 0x2020021041bb func134 10 ?_;repeat' ((conv=>whnf);first|refine K1.u ?_|refine K1.P1 hcr ?_|refine K1.C 2 [(0,_),(1,_)] (hw) rfl ?_|refine fO.aiC 16 (id:=15) bQ (dM bQ _) ⟨[(4,.own 13)],[(13,jT ((r::rs)++[e]))],[[]],14⟩ fG (by kernel_rfl) 8 _ rfl rfl ?_ ?_|refine bD.fin rfl ?_|refine Jw.NM ⟨au,trivial⟩ ⟨⟨_,rfl,dK.row s_ (λ m hm=>dP (c:=Ev.cs) (l:=r::rs) rfl rfl m hm)⟩,trivial⟩ rfl rfl|refine ay1 ?_|refine ay2 ?_ ?_|fail)
 all_goals(conv=>whnf)
 exact⟨[(13,1)],rfl,rfl,⟨ay rfl,trivial⟩,rfl,rfl,au⟩
theorem abQ(l:List Ev)(e:Ev)(hk:e.k=3)(hc:l.any (KW e)=true)(r:Ev)(rs:List Ev)(hr:l.filter (dY 3 (λ a=>decide (a.l=e.l)) e)=r::rs)(hl:l.length<=1000000000):
  aj prog 134 [(0,jT l)] [.own 0,e.av] (.own 1) [(1,jT ((r::rs)++[e]))]:=by
 have hw:=zS 170 (λ a=>decide (a.l=e.l)) 3 e (aaw e) l r rs hr hl;have hcr:=iM l e o_;rw[hc]at hcr;have hlf:=aoI (dY 3 (λ a=>decide (a.l=e.l)) e) l;rw[hr]at hlf;simp only[aoE]at hlf;dsimp only[Ev.av,Ev.cs]at hw hcr⊢;refine K1.M 0x2020021041bb func134 10 ?_;repeat' ((conv=>whnf);first|refine K1.u ?_|refine K1.P1 hcr ?_|refine K1.C 2 [(0,_),(1,_)] (hw) rfl ?_|refine fO.aiC 16 (id:=9) bQ (dM bQ _) ⟨[(4,.own 13)],[(13,jT ((r::rs)++[e]))],[[]],14⟩ fG (by kernel_rfl) 8 _ rfl rfl ?_ ?_|refine bD.fin rfl ?_|refine Jw.NM ⟨au,trivial⟩ ⟨⟨_,rfl,dK.row s_ (λ m hm=>dP (c:=Ev.cs) (l:=r::rs) rfl rfl m hm)⟩,trivial⟩ rfl rfl|refine ay1 ?_|refine ay2 ?_ ?_|refine ay3 ?_ ?_ ?_|fail)
 all_goals(conv=>whnf)
 exact⟨[(13,1)],rfl,rfl,⟨ay rfl,trivial⟩,rfl,rfl,au⟩
end Go.Proofs.YtifjccndenojlaaGreat
