/-
  Contracts of the walk:LvB,LvC,LvO,LvU,LvD,LvE,Ay,LvI,LvH.
-/
import Derived.Test.YtkimgljckickcaaGreatRa13
import Derived.Test.YtkimgljckickcaaGreatRa10
import Derived.Test.YtkimgljckickcaaGreatRa3
import Derived.Test.YtkimgljckickcaaGreatRa9
set_option maxHeartbeats 16000000
set_option maxRecDepth 100000
set_option linter.unusedVariables false
set_option linter.unusedSimpArgs false
namespace Go.Proofs.YtkimgljckickcaaGreat
open Go.RowKit
open Go.Proofs.Tryz
variable{S st:AS}{k k':ByteArray}{K:ByteArray->List Ev}{X:CX}{a e:Ev}{same:Ev->Bool}{kind n:Int}{kv:List (ByteArray×List Ev)}{rs:List (ByteArray×RW)}{back:List (List (Nat×AV))}{H:List (Nat×AO)}{sl:List (Nat×AV)}{ss:List ByteArray}{l:List Ev}{b i j m s:Nat}{f:Nat->List AV}{ρ':Nat->Value}{A B C p:Prop}{t:TypeId}
def sF(l:List Ev)(a:Ev):Bool:=decide (a.k=1)||l.any (JL a)
theorem Un(d:Nat)(l:List Ev)(r:Ev)(rs:List Ev)(hr:l.filter (sF l)=r::rs)(hl:l.length<=1000000000):
  aF prog 219 [.sl 12 l.length true (dA l)] (.own d) [(d,.row 74 12 (rs.length+1) true (dA (r::rs)))]:=by
 refine K1.E 0x803ed func219 ?_
 conv=>whnf
 refine aI.mk (agL (sF l) l) (λ x=>match x with
  |⟨(j,[]),_⟩=>⟨[(0,.sl 12 l.length true (dA l)),(3,.v (.slice none 0 0)),(6,.sl 12 l.length true (dA l)),(7,.v (.int .i64 (l.length:Int))),(8,.v (.int .i64 (j:Int)))],
    [],[],1⟩
  |⟨(j,y::ys),_⟩=>⟨[(0,.sl 12 l.length true (dA l)),(3,.own 90),(6,.sl 12 l.length true (dA l)),(7,.v (.int .i64 (l.length:Int))),(8,.v (.int .i64 (j:Int)))],
    [(90,.row 74 12 (ys.length+1) true (dA (y::ys)))],[],91⟩) (λ x=>l.length-x.1.1) ⟨(0,[]),ane _,rfl⟩ _
  (dZ.mk' [] _ _ _ rfl gQ trivial rfl) ?_
 rintro⟨⟨j,ys⟩,hj,hys⟩;dsimp only at hj hys;rcases ys with _|⟨y,ys⟩
 ·dsimp only;by_cases hjl:j<l.length
  ·have hab:=iH l (l.getD (j:Int).toNat default) o_;have hft:=jq (p:=sF l) hjl;rw[<-hys,ano]at hft;have hlv:sF l (l.getD j default)=(decide ((l.getD (j:Int).toNat default).k=1)||l.any (JL (l.getD (j:Int).toNat default))):=by rw[show(j:Int).toNat=j by omega];rfl
   rw[hlv]at hft;generalize l.any (JL (l.getD (j:Int).toNat default))=q at hab hft;have hq0:¬ (l.getD (j:Int).toNat default).k=1->q=false->([]:List Ev)=(l.take (j+1)).filter (sF l):=λ h h'=>by rw[hft,decide_eq_false h,h'];simp
   have hq1:q=true->[l.getD j default]=(l.take (j+1)).filter (sF l):=λ h'=>by rw[hft,h'];simp
   have hk1:(l.getD (j:Int).toNat default).k=1->[l.getD j default]=(l.take (j+1)).filter (sF l):=λ h=>by rw[hft,decide_eq_true h];simp
   clear hft hlv;dsimp only[Ev.av,Ev.cs]at hab⊢;repeat' ((conv=>whnf);first|refine K1.u ?_|refine K1.P1 hab ?_|refine K1.y (λ _=>?_) (λ _=>?_)|fail)
   all_goals(conv=>whnf)
   all_goals first
    |exact⟨⟨(j+1,[]),hjl,hq0 a_ a_⟩,_,dZ.mk' [] _ _ _ rfl gQ trivial rfl,by show l.length-(j+1)<l.length-j;omega⟩
    |(refine⟨⟨(j+1,[l.getD j default]),hjl,by first|exact hq1 a_|exact hk1 a_⟩,_,dZ.mk' [(3,90)] _ _ _ rfl gQ ⟨⟨_,rfl,dK.row rfl (λ m hm=>?_)⟩,trivial⟩ rfl,by show l.length-(j+1)<l.length-j;omega⟩
      have hm:m<1:=hm;obtain rfl:m=0:=o_
      rfl)
  ·have e:l.filter (sF l)=[]:=by rw[anf o_]at hys;exact hys.symm
   rw[hr]at e;cases e
 ·dsimp only;have hyl:ys.length+1<=j:=by
   have h1:=congrArg List.length hys;have h2:=anj (sF l) (l.take j);rw[am5]at h2;rw[anb]at h1;omega
  by_cases hjl:j<l.length
  ·have hab:=iH l (l.getD (j:Int).toNat default) o_;have hft:=jq (p:=sF l) hjl;rw[<-hys]at hft;have hlv:sF l (l.getD j default)=(decide ((l.getD (j:Int).toNat default).k=1)||l.any (JL (l.getD (j:Int).toNat default))):=by rw[show(j:Int).toNat=j by omega];rfl
   rw[hlv]at hft;generalize l.any (JL (l.getD (j:Int).toNat default))=q at hab hft;have hq0:¬ (l.getD (j:Int).toNat default).k=1->q=false->y::ys=(l.take (j+1)).filter (sF l):=λ h h'=>by rw[hft,decide_eq_false h,h'];simp
   have hq1:q=true->y::(ys++[l.getD j default])=(l.take (j+1)).filter (sF l):=λ h'=>by rw[hft,h'];simp
   have hk1:(l.getD (j:Int).toNat default).k=1->y::(ys++[l.getD j default])=(l.take (j+1)).filter (sF l):=λ h=>by rw[hft,decide_eq_true h];simp
   clear hft hlv;dsimp only[Ev.av,Ev.cs]at hab⊢;repeat' ((conv=>whnf);first|refine K1.u ?_|refine K1.P1 hab ?_|refine K1.y (λ _=>?_) (λ _=>?_)|fail)
   all_goals(conv=>whnf)
   all_goals first
    |exact⟨⟨(j+1,y::ys),hjl,hq0 a_ a_⟩,_,dZ.mk' [] _ _ _ rfl gQ nM rfl,by show l.length-(j+1)<l.length-j;omega⟩
    |(refine⟨⟨(j+1,y::(ys++[l.getD j default])),hjl,by first|exact hq1 a_|exact hk1 a_⟩,_,dZ.mk' [(93,90)] _ _ _ rfl gQ ⟨⟨_,rfl,dK.row s_ (λ m hm=>?_)⟩,trivial⟩ rfl,by show l.length-(j+1)<l.length-j;omega⟩
      exact eF (c:=Ev.cs) (l:=y::ys) rfl rfl m hm)
  ·have e:l.filter (sF l)=y::ys:=by rw[anf o_]at hys;exact hys.symm
   rw[hr]at e;cases e;repeat' ((conv=>whnf);first|refine K1.u ?_|refine aT.uX d rfl rfl (dK.refl _) (bY)|fail)
theorem Gv(l:List Ev)(hr:l.filter (sF l)=[])(hl:l.length<=1000000000):
  aF prog 219 [.sl 12 l.length true (dA l)] (.v (.slice none 0 0)) []:=by
 refine K1.E 0x803ed func219 ?_
 conv=>whnf
 refine aI.mk {j:Nat//j<=l.length} (λ j=>⟨[(0,.sl 12 l.length true (dA l)),(3,.v (.slice none 0 0)),(6,.sl 12 l.length true (dA l)),(7,.v (.int .i64 (l.length:Int))),(8,.v (.int .i64 (j.1:Int)))],
   [],[],1⟩) (λ j=>l.length-j.1) ⟨0,ane _⟩ _
  (dZ.mk' [] _ _ _ rfl gQ trivial rfl) ?_
 rintro⟨j,hj⟩;dsimp only;by_cases hjl:j<l.length
 ·have hab:=iH l (l.getD (j:Int).toNat default) o_;have hlv:(decide ((l.getD (j:Int).toNat default).k=1)||l.any (JL (l.getD (j:Int).toNat default)))=false:=by
   have hm:l.getD (j:Int).toNat default∈l:=by
    rw[show(j:Int).toNat=j by omega,List.getD,amX hjl];exact anH _
   have:=ao4.1 hr _ hm;simpa[sF]using this
  rw[aoH]at hlv;have hk:¬ (l.getD (j:Int).toNat default).k=1:=of_decide_eq_false hlv.1;rw[hlv.2]at hab;clear hlv;dsimp only[Ev.av,Ev.cs]at hab⊢;repeat' ((conv=>whnf);first|refine K1.u ?_|refine K1.P1 hab ?_|fail)
  all_goals(conv=>whnf)
  all_goals exact⟨⟨j+1,hjl⟩,_,dZ.mk' [] _ _ _ rfl gQ trivial rfl,by show l.length-(j+1)<l.length-j;omega⟩
 ·repeat' ((conv=>whnf);first|refine K1.u ?_|refine aT.fH ?_|fail)
  conv=>whnf
  exact bF.mk (bY)
abbrev jM(l:List Ev):AO:= .row 74 12 l.length true (dA l)
def dO(kind:Int)(same:Ev->Bool)(e a:Ev):Bool:= !decide (a.k=kind)||(!same a|| !aJ a e)
theorem ajq(h:¬a.k=kind):dO kind same e a=true:=by unfold dO;rw[decide_eq_false h];rfl
theorem ajr(h:same a=false):dO kind same e a=true:=by unfold dO;rw[h];simp
theorem ajs(h:aJ a e=false):dO kind same e a=true:=by unfold dO;rw[h];simp
theorem ajt(h:a.k=kind)(h1:same a=true)(h2:aJ a e=true):dO kind same e a=false:=by unfold dO;rw[decide_eq_true h,h1,h2];rfl
def aiy(j:Nat):List Ev->AV
 |[]=> .v (.slice none 0 0)
 |_::_=> .own j
def ad3(j:Nat):List Ev->List (Nat×AO)
 |[]=>[]
 |r::rs=>[(j,.row 74 12 (rs.length+1) true (dA (r::rs)))]
theorem wle(h:p:=by
 exact⟨⟨(j+1,_),hjl,hz⟩,_,dZ.mk' [(n0,90)] _ _ _ rfl gQ (by repeat' first|exact trivial|refine⟨dB rfl, ?_⟩|refine⟨⟨_,rfl,dK.row s_ (λ m hm=>?_)⟩,trivial⟩|exact eF (c:=Ev.cs) (l:=y::ys) rfl rfl m hm|(obtain rfl:m=0:=(by have:m<1:=hm;omega);rfl)) rfl,by show l.length-(j+1)<l.length-j;omega⟩):p:=h
theorem wsc(h:p:=by
 dsimp only[Ev.av,Ev.cs];refine K1.M 0x20000fb2f func220 10 ?_;repeat' ((conv=>whnf);first|refine K1.u ?_|refine aT.fH ?_|refine K1.z ?_|refine K1.y (λ _=>?_) (λ _=>?_)|fail)
 conv=>whnf
 first|refine aI.EO 1 rfl ?_|refine aI.EO 0 rfl ?_
 refine aI.mk (agL (dO kind same e) l) (λ x=>⟨[(0,.sl 12 l.length true (dA l)),(2,.v (.int .i64 kind)),(3,.fn g (bif b0 then [.box 0 0]else [])),(5,.box 10 0),(9,match x.1.2 with|[]=> .v (.slice none 0 0)|_::_=> .own 90),(12,.sl 12 l.length true (dA l)),(13,.v (.int .i64 (l.length:Int))),(14,.v (.int .i64 (x.1.1:Int)))],(10,.box 74 e.cs)::((bif b0 then [(0,.box 74 e.cs)]else [])++(ad3 90 x.1.2)),[bif b0 then [(0,.box 0 0),(1,.sl 12 l.length true (dA l))]else [(0,.sl 12 l.length true (dA l))]],91⟩) (λ x=>l.length-x.1.1) ⟨(0,[]),ane _,rfl⟩ _
  (dZ.mk' [] _ _ _ rfl gQ (by repeat' first|exact trivial|refine⟨dB rfl, ?_⟩) rfl) ?_
 rintro⟨⟨j,ys⟩,hj,hys⟩;dsimp only at hj hys;by_cases hjl:j<l.length
 ·have hab:=hs (l.getD (j:Int).toNat default);have hbb:=wM (l.getD (j:Int).toNat default) e;have hft:=jq (p:=dO kind same e) hjl;rw[<-hys,show l.getD j default=l.getD (j:Int).toNat default from rfl]at hft;have hk:¬ (l.getD (j:Int).toNat default).k=kind->ys++[l.getD j default]=(l.take (j+1)).filter (dO kind same e):=λ h=>by rw[hft,ajq h];rfl
  have hsm:same (l.getD (j:Int).toNat default)=false->ys++[l.getD j default]=(l.take (j+1)).filter (dO kind same e):=λ h=>by rw[hft,ajr h];rfl
  have hbl:aJ (l.getD (j:Int).toNat default) e=false->ys++[l.getD j default]=(l.take (j+1)).filter (dO kind same e):=λ h=>by rw[hft,ajs h];rfl
  have hno:(l.getD (j:Int).toNat default).k=kind->same (l.getD (j:Int).toNat default)=true->aJ (l.getD (j:Int).toNat default) e=true->ys=(l.take (j+1)).filter (dO kind same e):=λ h h1 h2=>by rw[hft,ajt h h1 h2];simp
  clear hft;generalize same (l.getD (j:Int).toNat default)=q1 at hab hsm hno;generalize aJ (l.getD (j:Int).toNat default) e=q2 at hbb hbl hno;have hyl:ys.length<=j:=by
   have h2:=anj (dO kind same e) (l.take j);rw[<-hys,am5]at h2;omega
  rcases ys with _|⟨y,ys⟩;all_goals
   dsimp only;dsimp only[Ev.av,Ev.cs]at hab hbb⊢;try dsimp only[List.length_cons]at hyl
   repeat' ((conv=>whnf);first|refine K1.u ?_|refine K1.C 1 [(0,_)] (hab) rfl ?_|refine K1.P1 hab ?_|refine K1.P1 hbb ?_|refine aT.fH ?_|refine K1.z ?_|refine K1.y (λ _=>?_) (λ _=>?_)|fail)
   all_goals(conv=>whnf)
   all_goals first
    |exact⟨⟨(j+1,_),hjl,hno a_ a_ a_⟩,_,dZ.mk' [] _ _ _ rfl gQ (by repeat' first|exact trivial|refine⟨dB rfl, ?_⟩) rfl,by show l.length-(j+1)<l.length-j;omega⟩
    |skip
   all_goals first|have hz:=hk a_|have hz:=hsm a_|have hz:=hbl a_
   all_goals first|(let n0:=92;exact wle)|(let n0:=93;exact wle)|(let n0:=94;exact wle)|(let n0:=95;exact wle)|trace_state
 ·have e0:l.filter (dO kind same e)=ys:=by rw[anf o_]at hys;exact hys.symm
  rw[hr]at e0;subst e0;cases R;all_goals
   dsimp only;repeat' ((conv=>whnf);first|refine K1.u ?_|refine aT.fH ?_|refine K1.z ?_|refine K1.y (λ _=>?_) (λ _=>?_)|fail)
   conv=>whnf
   first
    |exact⟨[],rfl,rfl,(by repeat' first|exact trivial|refine⟨dB rfl, ?_⟩),rfl,rfl,bY⟩
    |exact⟨[(90,2)],rfl,rfl,(by repeat' first|exact trivial|refine⟨dB rfl, ?_⟩),rfl,rfl,bY⟩
    |exact⟨[(90,1)],rfl,rfl,(by repeat' first|exact trivial|refine⟨dB rfl, ?_⟩),rfl,rfl,bY⟩):p:=h
theorem N9(g:FuncId)(same:Ev->Bool)(kind:Int)(e:Ev)(hs:∀a,aj prog g [(0,.box 74 e.cs)] [a.av,.box 0 0] (.v (.bool (same a))) [(0,.box 74 e.cs)])
  (l:List Ev)(R:List Ev)(hr:l.filter (dO kind same e)=R)(hl:l.length<=1000000000):
  aj prog 220 [(0,.box 74 e.cs),(1,jM l)] [.own 1,e.av,.v (.int .i64 kind),.fn g [.box 0 0]] (aiy 2 R) ((0,.box 74 e.cs)::ad3 2 R):=by
 let b0:=true;exact wsc
theorem yY(g:FuncId)(same:Ev->Bool)(kind:Int)(e:Ev)(hs:∀a,aj prog g [(0,.box 74 e.cs)] [a.av,.box 0 0] (.v (.bool (same a))) [(0,.box 74 e.cs)])
  (l:List Ev)(r:Ev)(rs:List Ev)(hr:l.filter (dO kind same e)=r::rs)(hl:l.length<=1000000000):
  aj prog 220 [(0,.box 74 e.cs),(1,jM l)] [.own 1,e.av,.v (.int .i64 kind),.fn g [.box 0 0]] (.own 2) [(0,.box 74 e.cs),(2,.row 74 12 (rs.length+1) true (dA (r::rs)))]:=
 N9 g same kind e hs l (r::rs) hr hl
theorem yZ(g:FuncId)(same:Ev->Bool)(kind:Int)(e:Ev)(hs:∀a,aj prog g [(0,.box 74 e.cs)] [a.av,.box 0 0] (.v (.bool (same a))) [(0,.box 74 e.cs)])
  (l:List Ev)(hr:l.filter (dO kind same e)=[])(hl:l.length<=1000000000):
  aj prog 220 [(0,.box 74 e.cs),(1,jM l)] [.own 1,e.av,.v (.int .i64 kind),.fn g [.box 0 0]] (.v (.slice none 0 0)) [(0,.box 74 e.cs)]:=
 N9 g same kind e hs l [] hr hl
theorem jl.split{X:CX}{k:ByteArray}{r:RW}{post:List (ByteArray×RW)}:∀{pre:List (ByteArray×RW)}{hs:List Value},jl X (pre++(k,r)::post) hs-> ∃hp v hq,hs=hp++v::hq/\hp.length=pre.length/\oO X v r.e r.s r.n r.sc r.f/\jl X (pre++post) (hp++hq)
 |[],_,⟨v,q,e,hr,hq⟩=>⟨[],v,q,e,rfl,hr,hq⟩
 |(_,r')::pre,_,⟨v',q,e,hr,hq⟩=>by
  obtain⟨hp,v,hq',e',hl,h1,h2⟩:=jl.split hq;exact⟨v'::hp,v,hq',by rw[e,e'];rfl,by simp[hl],h1,v',_,rfl,hr,h2⟩
theorem jl.len{X:CX}:∀{rs:List (ByteArray×RW)}{hs:List Value},jl X rs hs->hs.length=rs.length
 |[],_,h=>by rw[show _=[]from h];rfl
 |_::l,_,⟨v,q,e,_,hq⟩=>by rw[e,anb,anb,jl.len hq]
theorem jl.ρ{w:World}{k:Nat->Prop}{ρ ρ':Nat->Value}{rs:List (ByteArray×RW)}{hs:List Value}(h:jl ⟨w,k,ρ⟩ rs hs):jl ⟨w,k,ρ'⟩ rs hs:=
 jl.mono (X:=⟨w,k,ρ⟩) (Y:=⟨w,k,ρ'⟩) (λ _ h=>h) (λ _ _=>rfl) (λ _ _=>rfl) h
theorem ad4{v:Value}{pre post:List ByteArray}{hp hq:List Value}(hl:hp.length=pre.length):(mF (pre++k::post) (hp++v::hq)).Perm (G5 k v++mF (pre++post) (hp++hq)):=by
 have h1:(pre++k::post)[pre.length]? =some k:=s_
 have h2:(hp++v::hq)[pre.length]? =some v:=by rw[<-hl];simp
 have:=Dl h1 h2;have e1:(pre++k::post).eraseIdx pre.length=pre++post:=by rw[List.eraseIdx_append_of_length_le (ani _)];simp
 have e2:(hp++v::hq).eraseIdx pre.length=hp++hq:=by rw[<-hl,List.eraseIdx_append_of_length_le (ani _)];simp
 rw[e1,e2]at this;exact this
def re2(ρ:Nat->Value)(i:Nat)(u:Value)(j:Nat)(v:Value):Nat->Value:=λ x=>if x=i then u else if x=j then v else ρ x
theorem ad5{r:RW}{pre post:List (ByteArray×RW)}(hij:i≠j)(h:aQ X i (.mp t [] (pre++(k,r)::post))):
  ∃u v,dD u=dD (X.ρ i)/\(blks u++blks v).Perm (blks (X.ρ i))/\aQ ⟨X.w,X.keep,re2 X.ρ i u j v⟩ i (.mp t [(k,some j)] (pre++post))/\aQ ⟨X.w,X.keep,re2 X.ρ i u j v⟩ j (.row r.e r.s r.n r.sc r.f):=by
 obtain⟨b,es,c,vs,hs,e,hh,hi,hr,hp,hn,hst⟩:=h;have hvs:vs=[]:=hi;subst hvs;obtain⟨hp',v,hq,rfl,hl,hrow,hrest⟩:=hr.split;have hbv:iK v=blks v:=by obtain⟨us,ho,_⟩:=hrow;exact Ik ho
 have hv:dD v=v:=by obtain⟨us,ho,_⟩:=hrow;exact dY ho
 refine⟨.tuple (.map (some b):: .map (some b)::(hp'++hq)).toArray,v,by rw[e];rfl, ?_,⟨b,es,c,[v],hp'++hq,by simp[re2],hh,⟨v,[],rfl,λ i' hi'=>by cases hi';simp[RU,re2,hij.symm,hv],rfl⟩,hrest.ρ, ?_, ?_,hst⟩, ?_⟩
 ·rw[e,mY,mY,anN,anN,ao0,ao0,anN,hbv];simp only[anm];refine(aov _ (aov _ ?_));exact aoR
 ·refine hp.trans ?_;simp only[aox,ano,an2,anS,anJ];rw[kS];refine(ad4 (by simpa using hl)).trans (.of_eq ?_);simp
 ·simp only[aox,ano,an2,anS,anJ]at hn⊢;exact(aoO.nodup_iff).1 hn
 ·show oO _ (re2 X.ρ i _ j v j) _ _ _ _ _;rw[show re2 X.ρ i (.tuple (.map (some b):: .map (some b)::(hp'++hq)).toArray) j v j=v by simp[re2,hij.symm]];exact hrow.mono (X:=X) (λ _ h=>h) (λ _ _=>rfl) (λ _ _=>rfl)
theorem ad6(hij:i≠j)(hk:k ∉ rs.map (·.1))(h:aQ X i (.mp t [] rs)):
  aQ ⟨X.w,X.keep,re2 X.ρ i (X.ρ i) j (.slice none 0 0)⟩ i (.mp t [(k,some j)] rs):=by
 obtain⟨b,es,c,vs,hs,e,hh,hi,hr,hp,hn,hst⟩:=h;have hvs:vs=[]:=hi;subst hvs;refine⟨b,es,c,[.slice none 0 0],hs,by simp[re2,e],hh,⟨_,[],rfl,λ i' hi'=>by cases hi';simp[RU,re2,hij.symm,dD],rfl⟩,hr.ρ, ?_, ?_,hst⟩
 ·refine hp.trans ?_;simp only[aox,ano,anS,anJ];rw[kS];exact .refl _
 ·simp only[aox,ano,anS,anJ]at hn⊢;exact an1.2 ⟨hk,hn⟩
theorem aiz{e:TypeId}{n:Nat}{sc:Bool}(h:aQ X i (.mp t [(k,some j)] rs))(hr:aQ X j (.row e s n sc f)):
  ∃u,dD u=dD (X.ρ i)/\(blks u).Perm (blks (X.ρ i)++blks (X.ρ j))/\aQ ⟨X.w,X.keep,re2 X.ρ i u i u⟩ i (.mp t [] ((k,⟨e,s,n,sc,f⟩)::rs)):=by
 obtain⟨b,es,c,vs,hs,e',hh,hi,al2,hp,hn,hst⟩:=h;obtain⟨v,q,rfl,hv,hq⟩:=hi;have hq:q=[]:=hq;subst hq;have hv:v=dD (X.ρ j):=hv j rfl;rw[CV hr]at hv;have hrow:oO X v e s n sc f:=by rw[hv];exact hr
 have hbv:iK v=blks v:=by obtain⟨us,ho,_⟩:=hrow;exact Ik ho
 refine⟨.tuple (.map (some b):: .map (some b)::v::hs).toArray,by rw[e'];rfl, ?_,b,es,c,[],v::hs,by simp[re2],hh,rfl,⟨v,hs,rfl,hrow.mono (X:=X) (λ _ h=>h) (λ _ _=>rfl) (λ _ _=>rfl),jl.ρ (w:=X.w) (k:=X.keep) (ρ:=X.ρ) al2⟩,hp,hn,hst⟩;rw[e',mY,mY,anN,anN,anN,hbv,hv];simp only[anm];exact(aov _ aoR)
theorem aju(hj:X.ρ j= .slice none 0 0)(hk:k ∉ rs.map (·.1))(h:aQ X i (.mp t [] rs)):aQ X i (.mp t [(k,some j)] rs):=by
 obtain⟨b,es,c,vs,hs,e,hh,hi,hr,hp,hn,hst⟩:=h;have hvs:vs=[]:=hi;subst hvs;refine⟨b,es,c,[.slice none 0 0],hs,e,hh,⟨_,[],rfl,λ i' hi'=>by cases hi';simp[RU,hj,dD],rfl⟩,hr, ?_, ?_,hst⟩
 ·refine hp.trans ?_;simp only[aox,ano,anS,anJ];rw[kS];exact .refl _
 ·simp only[aox,ano,anS,anJ]at hn⊢;exact an1.2 ⟨hk,hn⟩
def ad7(x:AV)(st S:AS):Prop:= ∀(g:Base)(N:Nat)(bs:List (Array Value))(ρ:Nat->Value)(a:Act)(w:World)(u:Value),Rel g N bs ρ a w st->C2 (aA g w ρ st.heap) x u-> ∃ρ',Rel g N bs ρ' a w S/\C2 (aA g w ρ' S.heap) x u
theorem bQ.thn{P:Program}{L:Lay}(hL:bD P L){W:Walk}(hW:G9 P W){d:Nat}{f:FuncId}{aW:List AV}{K:AV->AS->Prop}(hE:Enters P f)(h:bQ P L W d f aW st (λ x st'=> ∃S,ad7 x st' S/\K x S)):bQ P L W d f aW st K:=by
 refine .sem hE λ g N bs ρ a w args R hargs=>?_;refine((o9 R hargs h (λ lv fn c hf' hnm hb hsz h'=>wF hL hW R hargs lv fn c hf' hb hsz h')).2).mono ?_;rintro e w' ⟨u,x,st',ρ',rfl,⟨S,hI,hK⟩,R',hc⟩;obtain⟨WB,R2,hc2⟩:=hI _ _ _ _ _ _ _ R' hc;exact⟨u,x,S,WB,rfl,hK,R2,hc2⟩
theorem ad7.foc(id d:Nat){e:TypeId}(hs:0<s)(hf:aG id (st.obj d d (.row e s 0 true f)).heap=some (.mp t [] rs))(hk:k ∉ rs.map (·.1)):
  ad7 (.aZ []) st ⟨(st.obj d d (.row e s 0 true f)).sl,setObj id (.mp t [(k,some d)] rs) (st.obj d d (.row e s 0 true f)).heap,(st.obj d d (.row e s 0 true f)).back,(st.obj d d (.row e s 0 true f)).base⟩:=by
 intro g N bs ρ a w u R hc;have R1:Rel g N bs (bZ ρ d (.slice none 0 0)) a w (st.obj d d (.row e s 0 true f)):=by
  refine R.obj d d R.below (ani _) (λ _ _ _=>rfl) (λ b hb=>by cases hb) (λ _=>?_);exact⟨[],by simpa[aA,bZ]using aoi w _ e s,hs,λ i hi=>absurd hi o_,(λ _ x hx=>by cases hx),aC.nil⟩
 have ho:=R1.objs _ (au hf);have hd:bZ ρ d (.slice none 0 0) d= .slice none 0 0:=by simp[bZ]
 obtain⟨b,es,c,vs,hs',e',_⟩:=ho;have e':bZ ρ d (.slice none 0 0) id=_:=e';obtain⟨vs',rfl,hvs'⟩:∃us:List Value,u= .tuple us.toArray/\aC _ [] us:=hc;refine⟨_,R1.write hf (b:=b) (by rw[e'];exact amW) (aob _ _) rfl (λ _ _=>rfl) (λ hk' hm=>?_),vs',rfl,hvs'.1,λ i x u hx=>by simp at hx⟩;exact aQ.same (X:=aA g w (bZ ρ d (.slice none 0 0)) (st.obj d d (.row e s 0 true f)).heap) (Y:=aA g w (bZ ρ d (.slice none 0 0)) (setObj id (.mp t [(k,some d)] rs) (st.obj d d (.row e s 0 true f)).heap)) hk' hm rfl (λ _ _=>rfl) (aju hd hk (R1.objs _ (au hf)))
def stB(d:Int)(m:AV)(n:Int):AO:= .box 237 [.v (.int .u32 d),.v (.int .i32 0),.v (.int .u32 0),m,.v (.int .i64 n)]
def rwE(l:List Ev):RW:=⟨74,12,l.length,true,dA l⟩
abbrev jr:TypeId:=221
def eG(kv:List (ByteArray×List Ev)):List (ByteArray×RW):=kv.map λ p=>(p.1,rwE p.2)
theorem Oa(kv:List (ByteArray×List Ev)):(eG kv).map (·.1)=kv.map (·.1):=by simp[eG,Function.comp_def]
def oH:List (ByteArray×List Ev)->ByteArray->List Ev
 |[],_=>[]
 |p::l,k=>if p.1=k then p.2 else oH l k
structure KV(K:ByteArray->List Ev)(m:Nat)(kv:List (ByteArray×List Ev)):Prop where
 nd:(kv.map (·.1)).Nodup
 eq:∀k,K k=oH kv k
 ln:kv.length<=m
 ky:∀p∈kv,p.1.size<=9223372036854775807
inductive aiA(K:ByteArray->List Ev)(m:Nat):Type where
 |new (h:∀k,K k=[])
 |old (kv:List (ByteArray×List Ev)) (h:KV K m kv)
def uK(K:ByteArray->List Ev)(n:Int)(m:Nat):aiA K m->List (Nat×AO)
 | .new _=>[(0,stB 0 (.v (.map none)) n)]
 | .old kv _=>[(0,stB 1 (.own 1) n),(1,.mp jr [] (eG kv))]
def xR(K:ByteArray->List Ev)(n:Int)(m:Nat):OB:=OB.pack (uK K n m)
inductive akP(K:ByteArray->List Ev)(m:Nat)(k:ByteArray):Type where
 |new (h:∀k,K k=[])
 |old (kv:List (ByteArray×List Ev)) (hn:(kv.map (·.1)).Nodup) (hk:k ∉ kv.map (·.1)) (he:∀q,q≠k->K q=oH kv q) (hm:kv.length<=m) (hky:∀p∈kv,p.1.size<=9223372036854775807)
def Xf(K:ByteArray->List Ev)(n:Int)(m:Nat)(k:ByteArray):akP K m k->List (Nat×AO)
 | .new _=>[(0,stB 0 (.v (.map none)) n)]
 | .old kv _ _ _ _ _=>[(0,stB 1 (.own 1) n),(1,.mp jr [(k,some 2)] (eG kv)),(2,jM (K k))]
theorem zZ:∀{kv:List (ByteArray×List Ev)}{k:ByteArray},k∈kv.map (·.1)-> ∃pre l post,kv=pre++(k,l)::post/\k ∉ pre.map (·.1)
 |[],_,h=>by cases h
 |(q,l)::kv,k,h=>by
  by_cases e:q=k
  ·subst e;exact⟨[],l,kv,rfl,s_⟩
  ·have:k∈kv.map (·.1):=by
    rcases am4.1 h with h|h
    ·exact absurd h.symm e
    ·exact h
   obtain⟨pre,l',post,rfl,hn⟩:=zZ this;exact⟨(q,l)::pre,l',post,rfl,by simp only[anS,am4,not_or];exact⟨λ h=>e h.symm,hn⟩⟩
theorem BJ:∀{kv:List (ByteArray×List Ev)}{k:ByteArray},k ∉ kv.map (·.1)->oH kv k=[]
 |[],_,_=>rfl
 |(q,l)::kv,k,h=>by
  simp only[anS,am4,not_or]at h;simp only[oH];rw[if_neg (λ e=>h.1 e.symm)];exact BJ h.2
theorem Aa:∀{pre post:List (ByteArray×List Ev)}{k:ByteArray},k ∉ pre.map (·.1)->oH (pre++post) k=oH post k
 |[],_,_,_=>rfl
 |(q,l)::pre,post,k,h=>by
  simp only[anS,am4,not_or]at h;simp only[anJ,oH];rw[if_neg (λ e=>h.1 e.symm)];exact Aa h.2
theorem FD{k:ByteArray}{l:List Ev}:∀{pre post:List (ByteArray×List Ev)}{q:ByteArray},q≠k->oH (pre++(k,l)::post) q=oH (pre++post) q
 |[],_,q,h=>by simp only[ano,oH];rw[if_neg (λ e=>h e.symm)]
 |(p,m)::pre,post,q,h=>by
  simp only[anJ,oH];rw[FD h]
theorem Uo(K:ByteArray->List Ev)(n:Int)(m:Nat)(k:ByteArray):Opens (xR K n m) 0 (Xf K n m k):=by
 refine(Opens.pack (uK K n m)).imp λ X y hnd hok=>?_;cases y with
 |new h=>exact⟨.new h,X.ρ,rfl,.refl _,hok⟩
 |old kv h=>
  have h0:=hok (0,stB 1 (.own 1) n) amW;have h1:=hok (1,.mp jr [] (eG kv)) (am1 _ amW);have box:∀(ρ':Nat->Value),ρ' 0=X.ρ 0->dD (ρ' 1)=dD (X.ρ 1)->aQ ⟨X.w,X.keep,ρ'⟩ 0 (stB 1 (.own 1) n):=by
   intro ρ' e0 e1;obtain⟨b,us,e,hh,ha⟩:=h0;refine⟨b,us,e0.trans e,hh,ha.1,λ i x u hx hu=>?_⟩;have:=ha.2 i x u hx hu;exact C0.jT (X:=X) (Y:=⟨X.w,X.keep,ρ'⟩) (q:=λ _=>false) (j:=1) (λ _ h=>h) rfl (λ _ h=>by cases h) e1 (by
    have hm:=anG hx;simp only[am4,aol,or_false]at hm;rcases hm with rfl|rfl|rfl|rfl|rfl<;>rfl) this
  by_cases hk:k∈kv.map (·.1)
  ·obtain⟨pre,l,post,rfl,hpre⟩:=zZ hk;have hK:K k=l:=by rw[h.eq,Aa hpre];simp[oH]
   have hm:eG (pre++(k,l)::post)=eG pre++(k,rwE l)::eG post:=by simp[eG]
   rw[hm]at h1;obtain⟨u,v,hu,hp,g1,g2⟩:=ad5 (i:=1) (j:=2) d_ h1;have hnd':=h.nd;rw[an2,anS]at hnd';have Xg:=(aoO.nodup_iff).1 hnd';rw[<-an2]at Xg;refine⟨.old (pre++post) (an1.1 Xg).2 (an1.1 Xg).1 (λ q hq=>by rw[h.eq,FD hq]) (by have:=h.ln;simp at this⊢;omega) (λ p hp=>h.ky p (by rcases am6.1 hp with hp|hp<;>simp[hp])),re2 X.ρ 1 u 2 v,by simp[re2], ?_, ?_⟩
   ·show(ah (re2 X.ρ 1 u 2 v) [(0,stB 1 (.own 1) n),(1,.mp jr [(k,some 2)] (eG (pre++post))),(2,jM (K k))]).Perm (ah X.ρ [(0,stB 1 (.own 1) n),(1,.mp jr [] (eG (pre++(k,l)::post)))]);simp only[aP];rw[show re2 X.ρ 1 u 2 v 0=X.ρ 0 from rfl,show re2 X.ρ 1 u 2 v 1=u from rfl,show re2 X.ρ 1 u 2 v 2=v from rfl];refine aov _ ?_;rw[<-anm];exact hp.append_right _
   ·intro p hp';simp only[Xf,am4,aol,or_false]at hp';rcases hp' with rfl|rfl|rfl
    ·exact box _ rfl hu
    ·have:eG (pre++post)=eG pre++eG post:=by simp[eG]
     rw[this];exact g1
    ·rw[hK];exact g2
  ·refine⟨.old kv h.nd hk (λ q _=>h.eq q) h.ln h.ky,re2 X.ρ 1 (X.ρ 1) 2 (.slice none 0 0),by simp[re2], ?_, ?_⟩
   ·show(ah (re2 X.ρ 1 (X.ρ 1) 2 (.slice none 0 0)) [(0,stB 1 (.own 1) n),(1,.mp jr [(k,some 2)] (eG kv)),(2,jM (K k))]).Perm (ah X.ρ [(0,stB 1 (.own 1) n),(1,.mp jr [] (eG kv))]);simp only[aP];exact .refl _
   ·intro p hp';simp only[Xf,am4,aol,or_false]at hp';rcases hp' with rfl|rfl|rfl
    ·exact box _ rfl rfl
    ·exact ad6 (i:=1) d_ (by rw[Oa];exact hk) h1
    ·rw[h.eq,BJ hk];exact⟨[],aoi _ _ _ _,d_,λ i hi=>absurd hi s_,λ _ x hx=>absurd hx (by simp[flat]),aC.nil⟩
theorem Qx{cs:List AV}(h:aQ X 0 (.box t cs)):(dD (X.ρ 0)).oneCell'=true:=by
 obtain⟨b,us,e,_⟩:=h;rw[e];rfl
theorem Ob(K:ByteArray->List Ev)(n:Int)(m:Nat)(h:∀k,K k=[]):Closes [(0,stB 0 (.v (.map none)) n)] 0 (xR K n m):=
 Closes.pack (uK K n m) (.new h) rfl λ _ hok=>Qx (hok _ amW)
theorem DZ(K':ByteArray->List Ev)(n:Int)(m:Nat)(j:Nat)(_hj:2<=j)(k:ByteArray)(l:List Ev)(kv:List (ByteArray×List Ev))(hn:(kv.map (·.1)).Nodup)(hk:k ∉ kv.map (·.1))(he:∀q,q≠k->K' q=oH kv q)(hl:K' k=l)(hm:kv.length+1<=m)(hky:∀p∈kv,p.1.size<=9223372036854775807)(hks:k.size<=9223372036854775807):
  Closes [(0,stB 1 (.own 1) n),(1,.mp jr [(k,some j)] (eG kv)),(j,jM l)] 0 (xR K' n m):=by
 have hkv:KV K' m ((k,l)::kv):=⟨an1.2 ⟨hk,hn⟩,λ q=>by
  simp only[oH];split
  ·rename_i e;rw[<-e];exact hl
  ·rename_i e;exact he q (λ h=>e h.symm),by simpa using hm,λ p hp=>by
  rcases am4.1 hp with rfl|hp
  ·exact hks
  ·exact hky p hp⟩
 refine(Closes.pack (uK K' n m) (.old ((k,l)::kv) hkv) rfl λ X hok=>Qx (hok _ amW)).imp λ X hnd hok=>?_;have h0:=hok (0,stB 1 (.own 1) n) amW;have h1:=hok (1,.mp jr [(k,some j)] (eG kv)) (am1 _ amW);have h2:=hok (j,jM l) (am1 _ (am1 _ amW));obtain⟨u,hu,hp,g1⟩:=aiz h1 h2;have hsub:(ah (re2 X.ρ 1 u 1 u) [(0,stB 1 (.own 1) n),(1,.mp jr [] (eG ((k,l)::kv)))]).Perm (ah X.ρ [(0,stB 1 (.own 1) n),(1,.mp jr [(k,some j)] (eG kv)),(j,jM l)]):=by
  simp only[aP];rw[show re2 X.ρ 1 u 1 u 0=X.ρ 0 from rfl,show re2 X.ρ 1 u 1 u 1=u from rfl];refine aov _ ?_;rw[<-anm];exact hp.append_right _
 refine⟨re2 X.ρ 1 u 1 u,rfl,hsub.nodup_iff.2 hnd,λ b hb=>hsub.mem_iff.1 hb,λ p hp'=>?_⟩;simp only[uK,am4,aol,or_false]at hp';rcases hp' with rfl|rfl
 ·obtain⟨b,us,e,hh,ha⟩:=h0;refine⟨b,us,e,hh,ha.1,λ i x v hx hv=>?_⟩;have:=ha.2 i x v hx hv;exact C0.jT (X:=X) (Y:=⟨X.w,X.keep,re2 X.ρ 1 u 1 u⟩) (q:=λ _=>false) (j:=1) (λ _ h=>h) rfl (λ _ h=>by cases h) hu (by
   have hm:=anG hx;simp only[am4,aol,or_false]at hm;rcases hm with rfl|rfl|rfl|rfl|rfl<;>rfl) this
 ·exact g1
theorem xO.leR{σ:List (Nat×Nat)}(h:dZ σ st S):xO st S:=λ _ _ _ _ _ _ R=>R.Nb h
theorem JM{q:Nat->Bool}{j:Nat}:∀{l:List (Nat×AV)}(t:Nat),(l.all λ p=>fG q j p.2)=true->fG q j (sQ l t)=true
 |[],_,_=>rfl
 |p::l,t,h=>by
  simp only[List.all_cons,amY]at h;simp only[sQ];cases Nat.beq t p.1 with
  |true=>exact h.1
  |false=>exact JM t h.2
theorem Oc{X Y:CX}{q:Nat->Bool}{j:Nat}(hk:∀b,X.keep b->Y.keep b)(hm:Y.w=X.w)(hρ:∀i,q i=true->Y.ρ i=X.ρ i)(hj:dD (Y.ρ j)=dD (X.ρ j)):
 ∀{fs:List (List (Nat×AV))}{bs:List (Array Value)},(fs.all λ f=>f.all λ p=>fG q j p.2)=true->mG X fs bs->mG Y fs bs
 |[],[],_,_=>trivial
 |_::_,_::_,h,k=>by
  simp only[List.all_cons,amY]at h;exact⟨λ t=>C2.jT hk hm hρ hj (JM t h.1) (k.1 t),Oc hk hm hρ hj h.2 k.2⟩
 |[],_::_,_,k=>k.elim
 |_::_,[],_,k=>k.elim
theorem xO.RG(q:Nat->Bool)(j:Nat)(hsl:S.sl=st.sl)(hbk:S.back=st.back)(h1:(st.sl.all λ p=>fG q j p.2)=true)(h2:(st.back.all λ f=>f.all λ p=>fG q j p.2)=true)
  (h:∀X:CX,(ah X.ρ st.heap).Nodup->(∀p∈st.heap,aQ X p.1 p.2)-> ∃ρ':Nat->Value,(∀i,q i=true->ρ' i=X.ρ i)/\dD (ρ' j)=dD (X.ρ j)/\(ah ρ' S.heap).Nodup/\(∀b∈ah ρ' S.heap,b∈ah X.ρ st.heap)/\ ∀p∈S.heap,aQ ⟨X.w,X.keep,ρ'⟩ p.1 p.2):xO st S:=by
 intro g N bs ρ a w R;obtain⟨ρ',g1,g2,gn,g3,g4⟩:=h (aA g w ρ st.heap) R.apart R.objs;have hk:∀b,aH g w ρ st.heap b->aH g w ρ' S.heap b:=λ b hb=>⟨hb.1,hb.2.1,λ h=>hb.2.2 (g3 b h)⟩;refine⟨ρ',R.size,R.defers,R.below,λ t=>?_,λ p hp=>?_,gn,λ b hb=>R.own b (g3 b hb), ?_⟩
 ·show C2 _ (sQ S.sl t) _;rw[hsl];exact C2.jT (X:=aA g w ρ st.heap) (Y:=aA g w ρ' S.heap) hk rfl g1 g2 (JM t h1) (R.tmps t)
 ·have:=g4 p hp;exact aQ.same (X:=⟨w,aH g w ρ st.heap,ρ'⟩) (Y:=aA g w ρ' S.heap) hk (λ _ _=>rfl) rfl (λ _ _=>rfl) this
 ·rw[hbk];exact Oc (X:=aA g w ρ st.heap) (Y:=aA g w ρ' S.heap) hk rfl g1 g2 h2 R.back
theorem xO.ajv(q:Nat->Bool)(j:Nat)(hsl:S.sl=st.sl)(hbk:S.back=st.back)(h1:(st.sl.all λ p=>fG q j p.2)=true)(h2:(st.back.all λ f=>f.all λ p=>fG q j p.2)=true)
  (h:∀X:CX,(ah X.ρ st.heap).Nodup->(∀p∈st.heap,aQ X p.1 p.2)-> ∃ρ':Nat->Value,(∀i,q i=true->ρ' i=X.ρ i)/\dD (ρ' j)=dD (X.ρ j)/\(ah ρ' S.heap).Perm (ah X.ρ st.heap)/\ ∀p∈S.heap,aQ ⟨X.w,X.keep,ρ'⟩ p.1 p.2):xO st S:=
 xO.RG q j hsl hbk h1 h2 λ X hn ho=>by
  obtain⟨ρ',g1,g2,g3,g4⟩:=h X hn ho;exact⟨ρ',g1,g2,g3.nodup_iff.2 hn,λ b hb=>g3.mem_iff.1 hb,g4⟩
def rowA:AO->Bool
 | .row .. =>true
 |_=>false
def n12(i:Nat):Bool:= !(Nat.beq i 1)&& !(Nat.beq i 2)
theorem Ur{p:Nat×AO}(hp:rowA p.2=true)(hρ:ρ' p.1=X.ρ p.1)(h:aQ X p.1 p.2):aQ ⟨X.w,X.keep,ρ'⟩ p.1 p.2:=by
 obtain⟨i,o⟩:=p;cases o with
 |row e s n sc f=>
  show oO _ (ρ' i) e s n sc f;rw[show ρ' i=X.ρ i from hρ];exact oO.mono (X:=X) (Y:=⟨X.w,X.keep,ρ'⟩) (λ _ h=>h) (λ _ _=>rfl) (λ _ _=>rfl) h
 |_=>cases hp
theorem Xh{p:Nat×AO}(hp:(rowA p.2&&n12 p.1)=true)(hρ:∀i,n12 i=true->ρ' i=X.ρ i)(h:aQ X p.1 p.2):aQ ⟨X.w,X.keep,ρ'⟩ p.1 p.2:=by
 simp only[amY]at hp;exact Ur hp.1 (hρ _ hp.2) h
theorem xO.cls{hs':List (Nat×AO)}{o:OB}(hC:Closes hs' 0 o)
  (h1:(sl.all λ p=>fG (λ i=>bJ i H) 0 p.2)=true)(h2:(back.all λ f=>f.all λ p=>fG (λ i=>bJ i H) 0 p.2)=true)(hH:(H.all λ p=>rowA p.2)=true)(h0:bJ 0 H=false):
  xO ⟨sl,hs'++H,back,b⟩ ⟨sl,(0,.obs o)::H,back,b⟩:=by
 refine xO.RG (λ i=>bJ i H) 0 rfl rfl h1 h2 λ X hnd hok=>?_;dsimp only at hnd hok⊢;rw[cu,anM]at hnd;obtain⟨us,a1,a2,a3⟩:=hC X.w X.keep X.ρ hnd.1 λ p hp=>hok p (anv _ hp);have hne:∀i,bJ i H=true->(if i=0 then Value.tuple us else X.ρ i)=X.ρ i:=λ i hi=>by
  have:i≠0:=by rintro rfl;rw[h0]at hi;cases hi
  rw[if_neg this]
 have hb:ah (λ i=>if i=0 then Value.tuple us else X.ρ i) ((0,.obs o)::H)=blks (.tuple us)++ah X.ρ H:=by
  rw[aP,eX λ p hp=>hne p.1 (bM.2 ⟨p,hp,rfl⟩)];rfl
 refine⟨λ i=>if i=0 then .tuple us else X.ρ i,hne,a2, ?_,λ b hb'=>?_,λ p hp=>?_⟩
 ·rw[hb,anM];exact⟨(o.lt a1).2.2,hnd.2.1,λ a ha c hc=>hnd.2.2 a (a3 a ha) c hc⟩
 ·rw[hb]at hb';rw[cu];exact(am6.1 hb').elim (λ h=>anv _ (a3 b h)) (λ h=>anx _ h)
 ·rcases am4.1 hp with rfl|hp
  ·exact⟨us,rfl,a1⟩
  ·exact Ur (anh.1 hH p hp) (hne p.1 (bM.2 ⟨p,hp,rfl⟩)) (hok p (anx _ hp))
theorem Closes.obs(o:OB):Closes [(0,.obs o)] 0 o:=by
 intro w k ρ hnd hok;obtain⟨us,e,hR⟩:=hok _ amW;have e:ρ 0= .tuple us:=e;have hR:o.R w k (ρ 0):=hR;rw[e]at hR;exact⟨us,hR,by show _=dD (ρ 0);rw[e],λ b hb=>aN.2 ⟨_,amW,by show b∈blks (ρ 0);rw[e];exact hb⟩⟩
theorem Qy(ρ:Nat->Value)(u v:Value)(i:Nat)(h:n12 i=true):re2 ρ 1 u 2 v i=ρ i:=by
 simp only[n12,amY,anB]at h;have h1:i≠1:=λ e=>by rw[e]at h;simp at h
 have h2:i≠2:=λ e=>by rw[e]at h;simp at h
 simp[re2,h1,h2]
theorem Ac(ρ:Nat->Value)(u v:Value)(i:Nat)(h:n12 i=true):re2 ρ 1 u 1 v i=ρ i:=by
 simp only[n12,amY,anB]at h;have h1:i≠1:=λ e=>by rw[e]at h;simp at h
 simp[re2,h1]
theorem BK{ρ:Nat->Value}(hH:(H.all λ p=>rowA p.2&&n12 p.1)=true)(hρ:∀i,n12 i=true->ρ' i=ρ i):ah ρ' H=ah ρ H:=
 eX λ p hp=>hρ _ (by
  have:=anh.1 hH p hp;simp only[amY]at this;exact this.2)
theorem Xi(e0:ρ' 0=X.ρ 0)(e1:dD (ρ' 1)=dD (X.ρ 1))(h0:aQ X 0 (stB 1 (.own 1) n)):aQ ⟨X.w,X.keep,ρ'⟩ 0 (stB 1 (.own 1) n):=by
 obtain⟨b,us,e,hh,ha⟩:=h0;refine⟨b,us,e0.trans e,hh,ha.1,λ i x u hx hu=>?_⟩;have:=ha.2 i x u hx hu;exact C0.jT (X:=X) (Y:=⟨X.w,X.keep,ρ'⟩) (q:=λ _=>false) (j:=1) (λ _ h=>h) rfl (λ _ h=>by cases h) e1 (by
  have hm:=anG hx;simp only[am4,aol,or_false]at hm;rcases hm with rfl|rfl|rfl|rfl|rfl<;>rfl) this
theorem Us{pre post:List (ByteArray×List Ev)}
  (h1:(sl.all λ p=>fG n12 1 p.2)=true)(h2:(back.all λ f=>f.all λ p=>fG n12 1 p.2)=true)(hH:(H.all λ p=>rowA p.2&&n12 p.1)=true):
  xO ⟨sl,(0,stB 1 (.own 1) n)::(1,.mp jr [] (eG (pre++(k,l)::post)))::H,back,b⟩ ⟨sl,(0,stB 1 (.own 1) n)::(1,.mp jr [(k,some 2)] (eG (pre++post)))::(2,jM l)::H,back,b⟩:=by
 refine xO.ajv n12 1 rfl rfl h1 h2 λ X hnd hok=>?_;have g0:=hok (0,stB 1 (.own 1) n) amW;have g1:=hok (1,.mp jr [] (eG (pre++(k,l)::post))) (am1 _ amW);rw[show eG (pre++(k,l)::post)=eG pre++(k,rwE l)::eG post by simp[eG]]at g1;obtain⟨u,v,hu,hp,a1,a2⟩:=ad5 (i:=1) (j:=2) d_ g1;refine⟨re2 X.ρ 1 u 2 v,Qy X.ρ u v,hu, ?_,λ p hp'=>?_⟩
 ·simp only[aP];rw[show re2 X.ρ 1 u 2 v 0=X.ρ 0 from rfl,show re2 X.ρ 1 u 2 v 1=u from rfl,show re2 X.ρ 1 u 2 v 2=v from rfl,BK hH (Qy X.ρ u v)];refine aov _ ?_;rw[<-anm];exact hp.append_right _
 ·simp only[am4]at hp';rcases hp' with rfl|rfl|rfl|hp'
  ·exact Xi rfl hu g0
  ·rw[show eG (pre++post)=eG pre++eG post by simp[eG]];exact a1
  ·exact a2
  ·exact Xh (anh.1 hH p hp') (Qy X.ρ u v) (hok p (am1 _ (am1 _ hp')))
theorem Oe
  (h1:(sl.all λ p=>fG n12 1 p.2)=true)(h2:(back.all λ f=>f.all λ p=>fG n12 1 p.2)=true)(hH:(H.all λ p=>rowA p.2&&n12 p.1)=true):
  xO ⟨sl,(0,stB 1 (.own 1) n)::(1,.mp jr [(k,some 2)] (eG kv))::(2,jM l)::H,back,b⟩ ⟨sl,(0,stB 1 (.own 1) n)::(1,.mp jr [] (eG ((k,l)::kv)))::H,back,b⟩:=by
 refine xO.ajv n12 1 rfl rfl h1 h2 λ X hnd hok=>?_;have g0:=hok (0,stB 1 (.own 1) n) amW;have g1:=hok (1,.mp jr [(k,some 2)] (eG kv)) (am1 _ amW);have g2:=hok (2,jM l) (am1 _ (am1 _ amW));obtain⟨u,hu,hp,a1⟩:=aiz g1 g2;refine⟨re2 X.ρ 1 u 1 u,Ac X.ρ u u,hu, ?_,λ p hp'=>?_⟩
 ·simp only[aP];rw[show re2 X.ρ 1 u 1 u 0=X.ρ 0 from rfl,show re2 X.ρ 1 u 1 u 1=u from rfl,BK hH (Ac X.ρ u u)];refine aov _ ?_;rw[<-anm];exact hp.append_right _
 ·simp only[am4]at hp';rcases hp' with rfl|rfl|hp'
  ·exact Xi rfl hu g0
  ·exact a1
  ·exact Xh (anh.1 hH p hp') (Ac X.ρ u u) (hok p (am1 _ (am1 _ (am1 _ hp'))))
theorem ad8{rs':List (ByteArray×RW)}(hp:rs'.Perm rs):∀{hs':List Value},jl X rs' hs'-> ∃hs,jl X rs hs/\(mF (rs.map (·.1)) hs).Perm (mF (rs'.map (·.1)) hs')/\(hs.flatMap iK).Perm (hs'.flatMap iK):=by
 induction hp with
 |nil=>exact λ{hs'} h=>⟨hs',h,.refl _,.refl _⟩
 |cons p _ ih=>
  intro hs' h;obtain⟨v,q,rfl,hr,hq⟩:∃v q,hs'=v::q/\_/\_:=h;obtain⟨hs,h1,h2,h3⟩:=ih hq;refine⟨v::hs,⟨v,hs,rfl,hr,h1⟩, ?_, ?_⟩
  ·simp only[anS,kS];exact h2.append_left _
  ·simp only[anN];exact h3.append_left _
 |swap p q l=>
  intro hs' h;obtain⟨v,r,rfl,hr,u,t,rfl,hu,ht⟩:∃v r,hs'=v::r/\_/\ ∃u t,r=u::t/\_/\_:=h;refine⟨u::v::t,⟨u,v::t,rfl,hu,v,t,rfl,hr,ht⟩, ?_, ?_⟩
  ·simp only[anS,kS,<-anm];exact aoR.append_right _
  ·simp only[anN,<-anm];exact aoR.append_right _
 |trans _ _ ih1 ih2=>
  intro hs' h;obtain⟨h1,a1,a2,a3⟩:=ih1 h;obtain⟨h2,b1,b2,b3⟩:=ih2 a1;exact⟨h2,b1,b2.trans a2,b3.trans a3⟩
theorem ad9{kv':List (ByteArray×List Ev)}(hp:kv.Perm kv')
  (h1:(sl.all λ p=>fG n12 1 p.2)=true)(h2:(back.all λ f=>f.all λ p=>fG n12 1 p.2)=true)(hH:(H.all λ p=>rowA p.2&&n12 p.1)=true):
  xO ⟨sl,(0,stB 1 (.own 1) n)::(1,.mp jr [] (eG kv))::H,back,b⟩ ⟨sl,(0,stB 1 (.own 1) n)::(1,.mp jr [] (eG kv'))::H,back,b⟩:=by
 refine xO.ajv n12 1 rfl rfl h1 h2 λ X hnd hok=>?_;have g0:=hok (0,stB 1 (.own 1) n) amW;obtain⟨c,es,cl,vs,hs,e,hh,hi,hr,hpe,hn,hst⟩:=hok (1,.mp jr [] (eG kv)) (am1 _ amW);have e:X.ρ 1=_:=e;have hvs:vs=[]:=hi;subst hvs;have hpr:(eG kv).Perm (eG kv'):=hp.map _;obtain⟨hs2,a1,a2,a3⟩:=ad8 hpr hr;simp only[aox,ano]at hpe hn;obtain⟨u,eu⟩:∃u:Value,u= .tuple (.map (some c):: .map (some c)::hs2).toArray:=⟨_,rfl⟩;have hu:dD u=dD (X.ρ 1):=by rw[e,eu];rfl
 refine⟨re2 X.ρ 1 u 1 u,Ac X.ρ u u,hu, ?_,λ p hp'=>?_⟩
 ·simp only[aP];rw[show re2 X.ρ 1 u 1 u 0=X.ρ 0 from rfl,show re2 X.ρ 1 u 1 u 1=u from rfl,BK hH (Ac X.ρ u u)];refine aov _ (List.Perm.append_right _ ?_);rw[e,eu,mY,mY,anN,anN];exact a3.append_left _
 ·simp only[am4]at hp';rcases hp' with rfl|rfl|hp'
  ·exact Xi rfl hu g0
  ·refine⟨c,es,cl,[],hs2,eu,hh,rfl,jl.ρ (w:=X.w) (k:=X.keep) (ρ:=X.ρ) a1,hpe.trans (by simpa using a2.symm), ?_,hst⟩;simpa using((hpr.map _).nodup_iff).1 hn
  ·exact Xh (anh.1 hH p hp') (Ac X.ρ u u) (hok p (am1 _ (am1 _ hp')))
structure FOK(K:ByteArray->List Ev)(m:Nat)(k:ByteArray)(ss:List ByteArray)(kv:List (ByteArray×List Ev)):Prop where
 nd:(kv.map (·.1)).Nodup
 nk:k ∉ kv.map (·.1)
 eq:∀q,q≠k->K q=oH kv q
 ln:kv.length+1<=m
 ky:∀p∈kv,p.1.size<=9223372036854775807
 ks:k.size<=9223372036854775807
 mem:∀x∈ss,x=k\/x∈kv.map (·.1)
theorem FOK.close(h:FOK K m k ss kv):KV K m ((k,K k)::kv)/\ ∀x∈ss,x∈((k,K k)::kv).map (·.1):=by
 refine⟨⟨an1.2 ⟨h.nk,h.nd⟩,λ q=>?_,h.ln,λ p hp=>?_⟩,λ x hx=>?_⟩
 ·simp only[oH];split
  ·rename_i e;rw[<-e]
  ·rename_i e;exact h.eq q (λ h=>e h.symm)
 ·rcases am4.1 hp with rfl|hp
  ·exact h.ks
  ·exact h.ky p hp
 ·rcases h.mem x hx with rfl|h
  ·exact amW
  ·exact am1 _ h
theorem FOK.open(h:KV K m kv)(hs:∀x∈ss,x∈kv.map (·.1))(hk:k∈kv.map (·.1)):
  ∃pre post,kv=pre++(k,K k)::post/\FOK K m k ss (pre++post):=by
 obtain⟨pre,l,post,rfl,hpre⟩:=zZ hk;have hK:K k=l:=by rw[h.eq,Aa hpre];simp[oH]
 have hnd':=h.nd;rw[an2,anS]at hnd';have Xg:=(aoO.nodup_iff).1 hnd';rw[<-an2]at Xg;refine⟨pre,post,by rw[hK],(an1.1 Xg).2,(an1.1 Xg).1,λ q hq=>by rw[h.eq,FD hq],by have:=h.ln;simp at this⊢;omega,λ p hp=>h.ky p (by rcases am6.1 hp with hp|hp<;>simp[hp]),h.ky (k,l) s_,λ x hx=>?_⟩;have:=hs x hx;simp only[an2,anS,am6,am4]at this⊢;grind
theorem aea(hf:FOK K m k ss kv)(hk:k'∈ss)
  (h1:(sl.all λ p=>fG n12 1 p.2)=true)(h2:(back.all λ f=>f.all λ p=>fG n12 1 p.2)=true)(hH:(H.all λ p=>rowA p.2&&n12 p.1)=true):
  ∃kv',FOK K m k' ss kv'/\((k,K k)::kv).Perm ((k',K k')::kv')/\xO ⟨sl,(0,stB 1 (.own 1) n)::(1,.mp jr [(k,some 2)] (eG kv))::(2,jM (K k))::H,back,b⟩ ⟨sl,(0,stB 1 (.own 1) n)::(1,.mp jr [(k',some 2)] (eG kv'))::(2,jM (K k'))::H,back,b⟩:=by
 obtain⟨c1,c2⟩:=hf.close;obtain⟨pre,post,e,hf'⟩:=FOK.open c1 c2 (c2 k' hk)
 refine⟨pre++post,hf',by rw[e];exact aoO,(Oe h1 h2 hH).trans ?_⟩;rw[e];exact Us h1 h2 hH
theorem aaw(hf:KV K m kv)(hs:∀x∈ss,x∈kv.map (·.1))(hk:k'∈ss)
  (h1:(sl.all λ p=>fG n12 1 p.2)=true)(h2:(back.all λ f=>f.all λ p=>fG n12 1 p.2)=true)(hH:(H.all λ p=>rowA p.2&&n12 p.1)=true):
  ∃kv',FOK K m k' ss kv'/\kv.Perm ((k',K k')::kv')/\xO ⟨sl,(0,stB 1 (.own 1) n)::(1,.mp jr [] (eG kv))::H,back,b⟩ ⟨sl,(0,stB 1 (.own 1) n)::(1,.mp jr [(k',some 2)] (eG kv'))::(2,jM (K k'))::H,back,b⟩:=by
 obtain⟨pre,post,e,hf'⟩:=FOK.open hf hs (hs k' hk)
 refine⟨pre++post,hf',by rw[e];exact aoO, ?_⟩;rw[e];exact Us h1 h2 hH
theorem JO(g:FuncId)(same:Ev->Bool)(kind:Int)(e:Ev)(hs:∀a,aF prog g [a.av] (.v (.bool (same a))) [])
  (l:List Ev)(R:List Ev)(hr:l.filter (dO kind same e)=R)(hl:l.length<=1000000000):
  aj prog 220 [(0,jM l)] [.own 0,e.av,.v (.int .i64 kind),.fn g []] (aiy 1 R) (ad3 1 R):=by
 let b0:=false;exact wsc
theorem D5(g:FuncId)(same:Ev->Bool)(kind:Int)(e:Ev)(hs:∀a,aF prog g [a.av] (.v (.bool (same a))) [])
  (l:List Ev)(r:Ev)(rs:List Ev)(hr:l.filter (dO kind same e)=r::rs)(hl:l.length<=1000000000):
  aj prog 220 [(0,jM l)] [.own 0,e.av,.v (.int .i64 kind),.fn g []] (.own 1) [(1,.row 74 12 (rs.length+1) true (dA (r::rs)))]:=
 JO g same kind e hs l (r::rs) hr hl
theorem Qz(g:FuncId)(same:Ev->Bool)(kind:Int)(e:Ev)(hs:∀a,aF prog g [a.av] (.v (.bool (same a))) [])
  (l:List Ev)(hr:l.filter (dO kind same e)=[])(hl:l.length<=1000000000):
  aj prog 220 [(0,jM l)] [.own 0,e.av,.v (.int .i64 kind),.fn g []] (.v (.slice none 0 0)) []:=
 JO g same kind e hs l [] hr hl
theorem Xj(a:Ev):aF prog 221 [a.av] (.v (.bool true)) []:=by
 dsimp only[Ev.av,Ev.cs];refine K1.E 0x5 func221 ?_;repeat' ((conv=>whnf);first|refine aT.fH ?_|fail)
 conv=>whnf
 exact bF.mk (bY)
theorem Y2(e a:Ev):aj prog 223 [(0,.box 74 e.cs)] [a.av,.box 0 0] (.v (.bool (decide (a.l=e.l)))) [(0,.box 74 e.cs)]:=by
 dsimp only[Ev.av,Ev.cs];refine K1.M 0xf func223 10 ?_;repeat' ((conv=>whnf);first|refine K1.y (λ _=>?_) (λ _=>?_)|fail)
 all_goals(conv=>whnf)
 all_goals refine⟨[],rfl,rfl,nM,rfl,rfl, ?_⟩
 ·rw[decide_eq_true a_];exact bY
 ·rw[decide_eq_false a_];exact bY
theorem Ic(e a:Ev):aj prog 224 [(0,.box 74 e.cs)] [a.av,.box 0 0] (.v (.bool (decide (a.l=e.l)&&decide (a.v=e.v)))) [(0,.box 74 e.cs)]:=by
 dsimp only[Ev.av,Ev.cs];refine K1.M 0xf func224 10 ?_;repeat' ((conv=>whnf);first|refine K1.y (λ _=>?_) (λ _=>?_)|fail)
 all_goals(conv=>whnf)
 all_goals refine⟨[],rfl,rfl,nM,rfl,rfl, ?_⟩
 all_goals first
  |(rw[show(decide (a.l=e.l)&&decide (a.v=e.v))=true by simp[*]];exact bY)
  |(rw[show(decide (a.l=e.l)&&decide (a.v=e.v))=false by simp[*]];exact bY)
theorem ajw(l:List Ev)(e:Ev)(hk:e.k=1)(hl:l.length<=1000000000):
  aj prog 188 [(0,jM l)] [.own 0,e.av] (.own 1) [(1,jM (l++[e]))]:=by
 obtain⟨er,en,ec,eh,ek,Ut,el,ev⟩:=e;dsimp only at hk;subst hk;dsimp only[Ev.av,Ev.cs];refine K1.M 0x2020021041bb func188 10 ?_;repeat' ((conv=>whnf);first|refine K1.u ?_|fail)
 conv=>whnf
 refine⟨[(12,1)],rfl,rfl,⟨⟨_,rfl,dK.row s_ (λ m hm=>?_)⟩,trivial⟩,rfl,rfl,bY⟩;exact eF (c:=Ev.cs) (l:=l) rfl rfl m hm
theorem aeb(l:List Ev)(e:Ev)(hk:e.k=3)(hc:l.any (JL e)=false)(hl:l.length<=1000000000):
  aj prog 188 [(0,jM l)] [.own 0,e.av] (.own 0) [(0,jM l)]:=by
 have hcr:=iH l e o_;rw[hc]at hcr;dsimp only[Ev.av,Ev.cs]at hcr⊢;refine K1.M 0x2020021041bb func188 10 ?_;repeat' ((conv=>whnf);first|refine K1.u ?_|refine K1.P1 hcr ?_|fail)
 all_goals(conv=>whnf)
 exact iF []
section
variable{P:Program}{L:Lay}{N:Nat}{st:AS}
theorem Og(lv:Nat):∀(l:List (Nat×AV))(t:Nat),sQ (GZ lv l) t=if PD lv t=true then sQ l t else .junk
 |[],t=>by simp[GZ,sQ]
 |(k,v)::l,t=>by
  have ih:=Og lv l t;simp only[GZ];cases hk:PD lv k with
  |true=>
   simp only[cond_true,sQ];cases hb:Nat.beq t k with
   |true=>rw[am3 hb,hk];simp
   |false=>simpa using ih
  |false=>
   simp only[cond_false,sQ];cases hb:Nat.beq t k with
   |true=>rw[ih,am3 hb,hk];simp
   |false=>simpa using ih
theorem Iw.ajx{st S:AS}(lv:Nat)(h:Iw (st.wB lv) S):Iw st S:=by
 refine⟨λ t=>?_,h.hp,h.nd,h.bk⟩;rcases h.tm t with k|k
 ·exact .inl k
 ·refine .inr ?_;have e:(st.wB lv).tmps t=if PD lv t=true then st.tmps t else .junk:=Og lv st.sl t
  rw[e]at k;split at k
  ·exact k
  ·exact λ X u _=>k X u (by trivial)
theorem fU.al3(lv:Nat)(hL:bD P L){W:Walk}(hW:G9 P W){id:Nat}{ops:Array Oper}{K:AS->Prop}(S:AS)(hm:P.follows .mixedOrders=true)(hs:Region.noSelect ops=true)(h:wI P L W N ops.toList.length ops.toList (λ st'=>nrm lv st' (λ s=>Iw s S)) ops.toList.length [] st)(hK:K S):fU P L W N id ops K st:=by
 have go:∀{st':AS},nrm lv st' (λ s=>Iw s S)->Iw st' S:=λ h=>by rw[Iq]at h;exact h.ajx lv
 have:=fU.any (P:=P) (L:=L) (N:=N) (id:=id) hL hW hm hs h;cases this with
 |quiet hm hB hq h=>
  refine .sem λ g bs ρ a w E R hE=>?_;refine wp_region_quiet (C:=λ w'=>w'=w.drew) hm hB rfl ?_;have R':Rel g N bs ρ a w.drew st:=R.world (aob _ _).drew;exact uT hL (E:=λ a w=>E .normal a w) (ops:=ops.toList) (λ a w1 st R h=>hE _ _ _ _ (R.less (go h)) hK) ops.toList hq R' h
 |sem h=>exact .sem λ g bs ρ a w E R hE=>h g bs ρ a w E R λ ρ a w st R h=>hE _ _ _ _ (R.less (go h)) hK
structure aX(P:Program)(L:Lay)(W:Walk)(N:Nat)(n:Nat)(ops:List Oper)(Q:AS->Prop)(f:Nat)(done:List Nat)(st:AS):Prop where
 mk::
 h:wI P L W N n ops Q f done st
section
variable{W:Walk}{n:Nat}{ops:List Oper}{Q:AS->Prop}{f:Nat}{done:List Nat}
theorem aX.eq:aX P L W N n ops Q f done=wI P L W N n ops Q f done:=funext λ _=>propext ⟨λ k=>k.h,.mk⟩
theorem aX.fin(h1:fJ n done 0 ops=[])(h:Q st):aX P L W N n ops Q f done st:= .mk (by
 cases f with
 |zero=>simp only[wI,h1];exact h
 |succ f=>simp only[wI,h1];exact h)
theorem aX.pick(j:Nat)(o:Oper)(h2:yL L N st ops done (fJ n done 0 ops)=some j)(h3:ops[j]? =some o)(h:qg P L W N ops o st (aX P L W N n ops Q f (j::done))):aX P L W N n ops Q (f+1) done st:= .mk (by
 rw[aX.eq]at h;cases h1:fJ n done 0 ops with
 |nil=>rw[h1]at h2;cases h2
 |cons i r=>
  rw[h1]at h2;simp only[wI,h1,h2,h3];exact h)
theorem aX.one(i:Nat)(o:Oper)(h1:fJ n done 0 ops=[i])(h2:yL L N st ops done [i]=none)(h3:ops[i]? =some o)(h:qg P L W N ops o st (aX P L W N n ops Q f (i::done))):aX P L W N n ops Q (f+1) done st:= .mk (by
 rw[aX.eq]at h;simp only[wI,h1,h2,Z5,h3];exact h)
theorem aX.fork(i j:Nat)(o p:Oper)(h1:fJ n done 0 ops=[i,j])(h2:yL L N st ops done [i,j]=none)(h3:ops[i]? =some o)(h4:ops[j]? =some p)
  (h:qg P L W N ops o st (aX P L W N n ops Q f (i::done)))(k:qg P L W N ops p st (aX P L W N n ops Q f (j::done))):aX P L W N n ops Q (f+1) done st:= .mk (by
 rw[aX.eq]at h k;simp only[wI,h1,h2,Z5,h3,h4];exact⟨h,k⟩)
theorem aX.mD(i j q:Nat)(o p r:Oper)(h1:fJ n done 0 ops=[i,j,q])(h2:yL L N st ops done [i,j,q]=none)(h3:ops[i]? =some o)(h4:ops[j]? =some p)(h5:ops[q]? =some r)
  (h:qg P L W N ops o st (aX P L W N n ops Q f (i::done)))(k:qg P L W N ops p st (aX P L W N n ops Q f (j::done)))(m:qg P L W N ops r st (aX P L W N n ops Q f (q::done))):aX P L W N n ops Q (f+1) done st:= .mk (by
 rw[aX.eq]at h k m;simp only[wI,h1,h2,Z5,h3,h4,h5];exact⟨h,k,m⟩)
theorem fU.ag4(lv:Nat)(hL:bD P L)(hW:G9 P W){id:Nat}{ops:Array Oper}{K:AS->Prop}(S:AS)(hm:P.follows .mixedOrders=true)(hs:Region.noSelect ops=true)(m:Nat)(l:List Oper)(hm':ops.toList.length=m)(hl:ops.toList=l)(h:aX P L W N m l (λ st'=>nrm lv st' (λ s=>Iw s S)) m [] st)(hK:K S):fU P L W N id ops K st:=
 fU.al3 lv hL hW S hm hs (by subst hm' hl;exact h.h) hK
end
end
theorem Iw.LV{l:List (Nat×AV)}{h:List (Nat×AO)}{x:List (Nat×AV)}(ht:LeT st l)(hh:LeH st h)(hn:nodupB (h.map (·.1))=true)(hb:st.back=[x]):Iw st ⟨l,h,[[]],b⟩:=by
 have:=Iw.mk' (st:=st) l h ht hh hn;exact⟨this.tm,this.hp,this.nd,by rw[hb];exact⟨λ _=> .inl rfl,trivial⟩⟩
theorem ay1(q:B)(h:B->A:=by first|exact λ q=>aX.pick 0 _ rfl rfl q|exact λ q=>aX.pick 1 _ rfl rfl q|exact λ q=>aX.pick 2 _ rfl rfl q|exact λ q=>aX.pick 3 _ rfl rfl q|exact λ q=>aX.pick 4 _ rfl rfl q|exact λ q=>aX.pick 5 _ rfl rfl q|exact λ q=>aX.pick 6 _ rfl rfl q|exact λ q=>aX.pick 7 _ rfl rfl q|exact λ q=>aX.one 0 _ rfl rfl rfl q|exact λ q=>aX.one 1 _ rfl rfl rfl q|exact λ q=>aX.one 2 _ rfl rfl rfl q|exact λ q=>aX.one 3 _ rfl rfl rfl q|exact λ q=>aX.one 4 _ rfl rfl rfl q|exact λ q=>aX.one 5 _ rfl rfl rfl q|exact λ q=>aX.one 6 _ rfl rfl rfl q|exact λ q=>aX.one 7 _ rfl rfl rfl q):A:=h q
theorem ay2(q:B)(r:C)(h:B->C->A:=by first|exact λ q r=>aX.fork 0 1 _ _ rfl rfl rfl rfl q r|exact λ q r=>aX.fork 0 2 _ _ rfl rfl rfl rfl q r|exact λ q r=>aX.fork 0 3 _ _ rfl rfl rfl rfl q r|exact λ q r=>aX.fork 0 4 _ _ rfl rfl rfl rfl q r|exact λ q r=>aX.fork 0 5 _ _ rfl rfl rfl rfl q r|exact λ q r=>aX.fork 0 6 _ _ rfl rfl rfl rfl q r|exact λ q r=>aX.fork 1 2 _ _ rfl rfl rfl rfl q r|exact λ q r=>aX.fork 1 3 _ _ rfl rfl rfl rfl q r|exact λ q r=>aX.fork 1 4 _ _ rfl rfl rfl rfl q r|exact λ q r=>aX.fork 1 5 _ _ rfl rfl rfl rfl q r|exact λ q r=>aX.fork 1 6 _ _ rfl rfl rfl rfl q r|exact λ q r=>aX.fork 2 3 _ _ rfl rfl rfl rfl q r|exact λ q r=>aX.fork 2 4 _ _ rfl rfl rfl rfl q r|exact λ q r=>aX.fork 2 5 _ _ rfl rfl rfl rfl q r|exact λ q r=>aX.fork 2 6 _ _ rfl rfl rfl rfl q r|exact λ q r=>aX.fork 3 4 _ _ rfl rfl rfl rfl q r|exact λ q r=>aX.fork 3 5 _ _ rfl rfl rfl rfl q r|exact λ q r=>aX.fork 3 6 _ _ rfl rfl rfl rfl q r|exact λ q r=>aX.fork 4 5 _ _ rfl rfl rfl rfl q r|exact λ q r=>aX.fork 4 6 _ _ rfl rfl rfl rfl q r|exact λ q r=>aX.fork 5 6 _ _ rfl rfl rfl rfl q r):A:=h q r
theorem ay3{D:Prop}(q:B)(r:C)(s:D)(h:B->C->D->A:=by first|exact λ q r s=>aX.mD 0 1 2 _ _ _ rfl rfl rfl rfl rfl q r s|exact λ q r s=>aX.mD 0 1 3 _ _ _ rfl rfl rfl rfl rfl q r s|exact λ q r s=>aX.mD 0 1 4 _ _ _ rfl rfl rfl rfl rfl q r s|exact λ q r s=>aX.mD 0 1 5 _ _ _ rfl rfl rfl rfl rfl q r s|exact λ q r s=>aX.mD 0 2 3 _ _ _ rfl rfl rfl rfl rfl q r s|exact λ q r s=>aX.mD 0 2 4 _ _ _ rfl rfl rfl rfl rfl q r s|exact λ q r s=>aX.mD 0 2 5 _ _ _ rfl rfl rfl rfl rfl q r s|exact λ q r s=>aX.mD 0 3 4 _ _ _ rfl rfl rfl rfl rfl q r s|exact λ q r s=>aX.mD 0 3 5 _ _ _ rfl rfl rfl rfl rfl q r s|exact λ q r s=>aX.mD 0 4 5 _ _ _ rfl rfl rfl rfl rfl q r s|exact λ q r s=>aX.mD 1 2 3 _ _ _ rfl rfl rfl rfl rfl q r s|exact λ q r s=>aX.mD 1 2 4 _ _ _ rfl rfl rfl rfl rfl q r s|exact λ q r s=>aX.mD 1 2 5 _ _ _ rfl rfl rfl rfl rfl q r s|exact λ q r s=>aX.mD 1 3 4 _ _ _ rfl rfl rfl rfl rfl q r s|exact λ q r s=>aX.mD 1 3 5 _ _ _ rfl rfl rfl rfl rfl q r s|exact λ q r s=>aX.mD 1 4 5 _ _ _ rfl rfl rfl rfl rfl q r s|exact λ q r s=>aX.mD 2 3 4 _ _ _ rfl rfl rfl rfl rfl q r s|exact λ q r s=>aX.mD 2 3 5 _ _ _ rfl rfl rfl rfl rfl q r s|exact λ q r s=>aX.mD 2 4 5 _ _ _ rfl rfl rfl rfl rfl q r s|exact λ q r s=>aX.mD 3 4 5 _ _ _ rfl rfl rfl rfl rfl q r s):A:=h q r s
theorem aax(l:List Ev)(e:Ev)(hk:e.k=4)(hc:l.any (JL e)=true)(r:Ev)(rs:List Ev)(hr:l.filter (dO 4 (λ a=>decide (a.l=e.l)&&decide (a.v=e.v)) e)=r::rs)(hl:l.length<=1000000000):
  aj prog 188 [(0,jM l)] [.own 0,e.av] (.own 1) [(1,jM ((r::rs)++[e]))]:=by
 have hw:=yY 224 (λ a=>decide (a.l=e.l)&&decide (a.v=e.v)) 4 e (Ic e) l r rs hr hl;have hcr:=iH l e o_;rw[hc]at hcr;have hlf:=anj (dO 4 (λ a=>decide (a.l=e.l)&&decide (a.v=e.v)) e) l;rw[hr]at hlf;simp only[anb]at hlf;dsimp only[Ev.av,Ev.cs]at hw hcr⊢;refine K1.M 0x2020021041bb func188 10 ?_;repeat' ((conv=>whnf);first|refine K1.u ?_|refine K1.P1 hcr ?_|refine K1.C 2 [(0,_),(1,_)] (hw) rfl ?_|refine fU.ag4 16 (id:=15) bU (dS bU _) ⟨[(4,.own 13)],[(13,jM ((r::rs)++[e]))],[[]],14⟩ iy (by kernel_rfl) 8 _ rfl rfl ?_ ?_|refine aX.fin rfl ?_|refine Iw.LV gQ ⟨⟨_,rfl,dK.row s_ (λ m hm=>eF (c:=Ev.cs) (l:=r::rs) rfl rfl m hm)⟩,trivial⟩ rfl rfl|refine ay1 ?_|refine ay2 ?_ ?_|fail)
 all_goals(conv=>whnf)
 exact iF [(13,1)]
theorem aay(l:List Ev)(e:Ev)(hk:e.k=3)(hc:l.any (JL e)=true)(r:Ev)(rs:List Ev)(hr:l.filter (dO 3 (λ a=>decide (a.l=e.l)) e)=r::rs)(hl:l.length<=1000000000):
  aj prog 188 [(0,jM l)] [.own 0,e.av] (.own 1) [(1,jM ((r::rs)++[e]))]:=by
 have hw:=yY 223 (λ a=>decide (a.l=e.l)) 3 e (Y2 e) l r rs hr hl;have hcr:=iH l e o_;rw[hc]at hcr;have hlf:=anj (dO 3 (λ a=>decide (a.l=e.l)) e) l;rw[hr]at hlf;simp only[anb]at hlf;dsimp only[Ev.av,Ev.cs]at hw hcr⊢;refine K1.M 0x2020021041bb func188 10 ?_;repeat' ((conv=>whnf);first|refine K1.u ?_|refine K1.P1 hcr ?_|refine K1.C 2 [(0,_),(1,_)] (hw) rfl ?_|refine fU.ag4 16 (id:=9) bU (dS bU _) ⟨[(4,.own 13)],[(13,jM ((r::rs)++[e]))],[[]],14⟩ iy (by kernel_rfl) 8 _ rfl rfl ?_ ?_|refine aX.fin rfl ?_|refine Iw.LV gQ ⟨⟨_,rfl,dK.row s_ (λ m hm=>eF (c:=Ev.cs) (l:=r::rs) rfl rfl m hm)⟩,trivial⟩ rfl rfl|refine ay1 ?_|refine ay2 ?_ ?_|refine ay3 ?_ ?_ ?_|fail)
 all_goals(conv=>whnf)
 exact iF [(13,1)]
end Go.Proofs.YtkimgljckickcaaGreat
