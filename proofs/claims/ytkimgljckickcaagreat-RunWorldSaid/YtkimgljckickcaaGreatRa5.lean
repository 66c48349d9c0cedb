/-
  Contracts of the walk:AmC.
-/
import Derived.Test.YtkimgljckickcaaGreatRa4
import Derived.Orders
set_option maxHeartbeats 16000000
set_option maxRecDepth 100000
set_option linter.unusedVariables false
set_option linter.unusedSimpArgs false
namespace Go.Proofs.YtkimgljckickcaaGreat
open Go.RowKit
variable{st:AS}{r:AV}{listed:Array Bool}{f:FuncId}{hin hout:List (Nat×AO)}{aW:List AV}{done:List Nat}{ops:List Oper}{d n:Nat}{P:Program}
def akx(k:Nat):AO->AV
 | .box .. => .box k 0
 | .row .. => .own k
 | .mp .. => .own k
 | .obs _=> .own k
 | .rn .. => .own k
def Hw:Nat->List (Nat×AO)->List (Nat×AV)
 |_,[]=>[]
 |n,(k,o)::l=>(n,akx k o)::Hw (n+1) l
def Jc(aW:List AV)(hin:List (Nat×AO))(base:Nat):AS:=⟨Dc 0 aW,hin,[Hw 0 hin],base⟩
def P9:AO->Bool
 | .box .. =>false
 | .row .. =>false
 | .mp .. =>true
 | .obs _=>true
 | .rn .. =>false
def ail(k:Nat)(o:AO)(hout:List (Nat×AO)):Bool:=match aG k hout with|some o'=>P9 o==P9 o'|none=>true
def Jd(hout:List (Nat×AO))(back:List (List (Nat×AV))):Nat->List (Nat×AO)->Bool
 |_,[]=>true
 |n,(k,o)::l=>(!(bJ k hout)||(ail k o hout&&match back,o with
  |[f],.box .. =>(match sQ f n with| .box i j=>Nat.beq i k&&Nat.beq j 0|_=>false)
  |[f],.row .. =>(match sQ f n with| .own i=>Nat.beq i k|_=>false)
  |[f],.mp .. =>(match sQ f n with| .own i=>Nat.beq i k|_=>false)
  |[f],.obs _=>(match sQ f n with| .own i=>Nat.beq i k|_=>false)
  |[f],.rn .. =>(match sQ f n with| .own i=>Nat.beq i k|_=>false)
  |_,_=>false))&&Jd hout back (n+1) l
def Je(h hout:List (Nat×AO)):AV->AV
 | .own i=>bif bJ i hout then .own i else LH h (.own i)
 | .box i k=>bif bJ i hout then .box i k else .junk
 | .dn i s j k=>bif bJ i hout then .dn i s j k else .junk
 | .jB i s j k=>bif bJ i hout then .jB i s j k else .junk
 | .v x=> .v x
 | .sl s n sc f=> .sl s n sc f
 |_=> .junk
def ac4(h hout:List (Nat×AO)):AV->AV
 | .agg cs=> .agg (cs.map (Je h hout))
 |x=>Je h hout x
def ac5(h hout:List (Nat×AO)):AV->AV
 | .aZ vs=> .aZ (vs.map (ac4 h hout))
 |x=>ac4 h hout x
structure Qa(hin:List (Nat×AO))(σ:List (Nat×Nat))(st:AS)(x r:AV)(hout:List (Nat×AO)):Prop where
 nd:nodupB (σ.map (·.2))=true
 fx:Jd hout (st.ren σ).back 0 hin=true
 hp:LeH (st.ren σ) hout
 hn:nodupB (hout.map (·.1))=true
 hc:fF hout hout=true
 hr:dJ (ac5 (st.ren σ).heap hout (ER σ x)) r
def Tj(L:Lay)(fn:Func)(hin:List (Nat×AO))(r:AV)(hout:List (Nat×AO)):jd->AS->Prop
 | .normal,st=>oN L st fn.results.toList (λ x=> ∃σ,Qa hin σ st x r hout)
 | .ret,st=>oN L st fn.results.toList (λ x=> ∃σ,Qa hin σ st x r hout)
 | .exit _,_=>False
section
variable{P:Program}{L:Lay}{g:Base}{N:Nat}{bs:List (Array Value)}{ρ:Nat->Value}{a:Act}{w:World}{st:AS}
def pq(ρ:Nat->Value):List (Nat×AO)->List Value
 |[]=>[]
 |(k,_)::l=>dD (ρ k)::pq ρ l
theorem Tm{X:CX}:∀{hin:List (Nat×AO)}{n:Nat}{pre:List Value},pre.length=n->(∀p∈hin,aQ X p.1 p.2)-> ∀t,C2 X (sQ (Hw n hin) t) ((pre++pq X.ρ hin).toArray.getD t undef)
 |[],n,pre,_,_,t=>trivial
 |(k,o)::l,n,pre,hp,ho,t=>by
  have ih:=Tm (X:=X) (hin:=l) (n:=n+1) (pre:=pre++[dD (X.ρ k)]) (by simp[hp]) (λ p hp=>ho p (am1 _ hp)) t;simp only[Hw,sQ];cases hb:Nat.beq t n with
  |true=>
   have e:=am3 hb;have ev:(pre++pq X.ρ ((k,o)::l)).toArray.getD t undef=dD (X.ρ k):=by
    simp[pq,e,<-hp]
   rw[ev];have h0:=ho (k,o) amW;cases o with
   |box ty cs=>obtain⟨b,us,e',_⟩:=h0;exact⟨b,by rw[e'];rfl,by rw[e'];rfl⟩
   |row=>exact rfl
   |mp=>exact rfl
   |obs=>exact rfl
   |rn=>exact rfl
  |false=>
   have e3:pre++pq X.ρ ((k,o)::l)=pre++[dD (X.ρ k)]++pq X.ρ l:=by simp[pq]
   rw[e3];exact ih
theorem aQ.aZ{X:CX}{k:Nat}{o:AO}(h:aQ X k o):(P9 o=true-> ∃us,X.ρ k= .tuple us)/\(P9 o=false->dD (X.ρ k)=X.ρ k):=by
 cases o with
 |box t cs=>obtain⟨b,us,e,_⟩:=h;exact⟨λ h=>(by cases h),λ _=>by rw[e];rfl⟩
 |row e s n sc f=>exact⟨λ h=>(by cases h),λ _=>CV h⟩
 |mp t ks rs=>obtain⟨b,es,c,vs,hs,e,_⟩:=h;exact⟨λ _=>⟨_,e⟩,λ h=>(by cases h)⟩
 |obs o=>obtain⟨us,e,_⟩:=h;exact⟨λ _=>⟨_,e⟩,λ h=>(by cases h)⟩
 |rn e cs=>obtain⟨us,⟨hown,_⟩,_⟩:=h;exact⟨λ h=>(by cases h),λ _=>dY hown⟩
theorem kind_eq{X Y:CX}{k:Nat}{o o':AO}(h:aQ X k o)(h':aQ Y k o')(hk:P9 o=P9 o')(e:dD (Y.ρ k)=dD (X.ρ k)):CU (Y.ρ k) (X.ρ k):=by
 cases hb:P9 o with
 |true=>exact .inr ⟨h'.aZ.1 (hk▸hb),h.aZ.1 hb,e⟩
 |false=>
  rw[h.aZ.2 hb,h'.aZ.2 (hk▸hb)]at e;exact .inl e
theorem Tn{X Y:CX}{hout:List (Nat×AO)}{back:List (List (Nat×AV))}:∀{hin:List (Nat×AO)}{n:Nat}{pre:List Value}{vs:List Value},pre.length=n->vs=pre++pq Y.ρ hin->(∀p∈hin,aQ Y p.1 p.2)->(∀p∈hin,bJ p.1 hout=true-> ∃o,aG p.1 hout=some o/\aQ X p.1 o)->mG X back [vs.toArray]->Jd hout back n hin=true-> ∀p∈hin,bJ p.1 hout=true->CU (X.ρ p.1) (Y.ρ p.1)
 |[],_,_,_,_,_,_,_,_,_,p,hp,_=>by cases hp
 |(k,o)::l,n,pre,vs,hlen,hvs,jg,rW,hbk,hf,p,hp,hn=>by
  simp only[Jd,amY,anT,anB]at hf;rcases am4.1 hp with rfl|hp
  ·rcases hf.1 with h|⟨hkb,h⟩
   ·rw[h]at hn;cases hn
   ·have ev:vs.toArray.getD n undef=dD (Y.ρ k):=by
     rw[hvs];simp[pq,<-hlen]
    obtain⟨o',ho',hok'⟩:=rW _ amW hn;have hok:=jg _ amW;have hkk:P9 o=P9 o':=by
     unfold ail at hkb;rw[ho']at hkb;exact eq_of_beq hkb
    refine kind_eq hok hok' hkk ?_;match back,hbk,h with
    |[f],hbk,h=>
     have h2:=hbk.1 n;rw[ev]at h2;have own:(match sQ f n with| .own i=>Nat.beq i k|_=>false)=true->dD (X.ρ k)=dD (Y.ρ k):=by
      intro h;split at h
      ·rename_i i e;rw[e]at h2;have e1:=am3 h;subst e1;exact(C2.kE h2).symm
      ·cases h
     cases o with
     |box t cs=>
      dsimp only at h;split at h
      ·rename_i i j e;rw[e]at h2;simp only[amY]at h;have e1:=am3 h.1;have e2:=am3 h.2;subst e1 e2;obtain⟨b,h3,h4⟩:=C2.kD h2;exact h3.trans h4.symm
      ·cases h
     |row=>exact own h
     |mp=>exact own h
     |obs=>exact own h
     |rn=>exact own h
    |[],hbk,h=>exact hbk.elim
    |_::_::_,hbk,h=>exact hbk.2.elim
  ·exact Tn (pre:=pre++[dD (Y.ρ k)]) (by simp[hlen]) (by rw[hvs];simp[pq]) (λ p hp=>jg p (am1 _ hp)) (λ p hp=>rW p (am1 _ hp)) hbk hf.2 p hp hn
theorem WH{h:List (Nat×AO)}(hn:(h.map (·.1)).Nodup):∀p∈h,aG p.1 h=some p.2:=by
 induction h with
 |nil=>intro p hp;cases hp
 |cons q h ih=>
  intro p hp;have hn':=an1.1 hn;simp only[aG];rcases am4.1 hp with rfl|hp
  ·simp
  ·have:Nat.beq q.1 p.1=false:=by
    rw[anw];intro e;exact hn'.1 (ant.2 ⟨p,hp,(am3 e).symm⟩)
   rw[this];exact ih hn'.2 p hp
theorem uU{k:Nat->Prop}(hk:∀b,aH g w ρ st.heap b->k b){hout:List (Nat×AO)}{x:AV}{u:Value}(hr:∀i,bJ i hout=false->Reads st ρ w k (.own i))(h:C0 (aA g w ρ st.heap) x u):C0 ⟨w,k,ρ⟩ (Je st.heap hout x) u:=by
 cases x with
 |own i=>
  simp only[Je];cases hb:bJ i hout with
  |true=>exact h
  |false=>
   have:=zI hk (hr i hb) h;revert this;simp only[LH];cases aG i st.heap with
   |none=>exact λ h=>h
   |some o=>cases o<;>exact λ h=>h
 |box i j=>
  simp only[Je];cases bJ i hout with
  |true=>exact h
  |false=>trivial
 |dn i s j m=>
  simp only[Je];cases bJ i hout with
  |true=>exact h
  |false=>trivial
 |jB i s j m=>
  simp only[Je];cases bJ i hout with
  |true=>exact h
  |false=>trivial
 |v y=>exact h
 |sl s n sc f=>exact PC.mono hk (λ _ _=>rfl) h
 |_=>trivial
theorem rX{k:Nat->Prop}(hk:∀b,aH g w ρ st.heap b->k b){hout:List (Nat×AO)}{x:AV}{u:Value}(hr:∀i,bJ i hout=false->Reads st ρ w k (.own i))(h:C1 (aA g w ρ st.heap) x u):C1 ⟨w,k,ρ⟩ (ac4 st.heap hout x) u:=by
 cases x with
 |agg cs=>
  obtain⟨us,rfl,ha⟩:=h;exact⟨us,rfl,ha.oZ λ _ _=>uU hk hr⟩
 |own i=>exact C1.uO (uU hk hr (x:= .own i) h)
 |box i j=>exact C1.uO (uU hk hr (x:= .box i j) h)
 |dn i s j m=>exact C1.uO (uU hk hr (x:= .dn i s j m) h)
 |jB i s j m=>exact C1.uO (uU hk hr (x:= .jB i s j m) h)
 |v y=>exact h
 |sl s n sc f=>exact C1.uO (uU hk hr (x:= .sl s n sc f) h)
 |_=>trivial
theorem ac6{k:Nat->Prop}(hk:∀b,aH g w ρ st.heap b->k b){hout:List (Nat×AO)}{x:AV}{u:Value}(hr:∀i,bJ i hout=false->Reads st ρ w k (.own i))(h:C2 (aA g w ρ st.heap) x u):C2 ⟨w,k,ρ⟩ (ac5 st.heap hout x) u:=by
 cases x with
 |aZ vs=>
  obtain⟨us,rfl,ha⟩:=h;exact⟨us,rfl,ha.oZ λ _ _=>rX hk hr⟩
 |agg cs=>exact C2.mg (rX hk hr (x:= .agg cs) h)
 |own i=>exact C2.mg (rX hk hr (x:= .own i) h)
 |box i j=>exact C2.mg (rX hk hr (x:= .box i j) h)
 |dn i s j m=>exact C2.mg (rX hk hr (x:= .dn i s j m) h)
 |jB i s j m=>exact C2.mg (rX hk hr (x:= .jB i s j m) h)
 |v y=>exact h
 |sl s n sc f=>exact C2.mg (rX hk hr (x:= .sl s n sc f) h)
 |_=>trivial
theorem YC{st:AS}:∀{h:List (Nat×AO)},LeH st h-> ∀p∈h,∃o,aG p.1 st.heap=some o/\dK o p.2
 |[],_,p,hp=>by cases hp
 |q::l,h,p,hp=>by
  rcases am4.1 hp with rfl|hp
  ·exact h.1
  ·exact YC h.2 p hp
theorem Nc(hL:bD P L)(lv base:Nat){f:FuncId}{fn:Func}{c:Code}{hin:List (Nat×AO)}{aW:List AV}{r:AV}{hout:List (Nat×AO)}{S:AS}(hf:P.funcs[f]? =some fn)(hn:(fn.name== "runtime.NumGoroutine")=false)(hb:fn.body=some c)(hsz:Nat.ble aW.length fn.ntmps=true)(hI:xO (Jc aW hin base) S)
  (h:zC P L 9 fn.ntmps lv c (Tj L fn hin r hout) S):aj P f hin aW r hout:=by
 refine⟨⟨fn,c,hf,hn,hb⟩,λ w keep ρ args hkeep jg hnd hin' hargs=> ?_⟩;have hsz:=am7 hsz;have hlen:=hargs.1.symm;refine calls_of_wp hf hb ?_;let g:Base:=(dN w keep (λ b=>b∈ah ρ hin));have hk0:∀b,keep b->aH g w ρ hin b:=λ b hb=>⟨hkeep b hb,λ _=> .inl hb,λ h=>(hin' b h).2 hb⟩;have Jb:aC (C2 (aA g w ρ hin)) aW args:=hargs.imp λ _ _ h=>C2.mg (C1.same (X:=⟨w,keep,ρ⟩) (Y:=aA g w ρ hin) hk0 (λ _ _=>rfl) rfl h);have ain:∀p∈hin,aQ (aA g w ρ hin) p.1 p.2:=λ p hp=>by
  exact aQ.same (X:=⟨w,keep,ρ⟩) hk0 (λ _ _=>rfl) rfl (λ _ _=>rfl) (jg p hp)
 have R0:Rel g fn.ntmps [(pq ρ hin).toArray] ρ {tmps:=args.toArray++Array.replicate (fn.ntmps-args.toArray.size) undef,defers:=[]} w (Jc aW hin base):=
  ⟨by simp;omega,rfl,dG.refl _ _ _,tH Jb hsz,ain,hnd,λ b hb=> .inr hb,⟨λ t=>Tm (n:=0) (pre:=[]) rfl ain t,trivial⟩⟩
 have fin:∀(e:Exit),(e= .normal\/e= .ret)-> ∀ρ1 a w' st,Rel g fn.ntmps [(pq ρ hin).toArray] ρ1 a w' st->oN L st fn.results.toList (λ x=> ∃σ,Qa hin σ st x r hout)->
   bodyPost P fn (λ e w'=> ∃u ρ',e= .returned u/\dG (λ b=>b∈ah ρ hin) w.heap.size w w'/\(∀p∈hin,∀q∈hout,q.1=p.1->CU (ρ' p.1) (ρ p.1))/\C2 (aA g w' ρ' hout) r u/\(∀p∈hout,aQ (aA g w' ρ' hout) p.1 p.2)/\(ah ρ' hout).Nodup/\ ∀b∈ah ρ' hout,w.heap.size<=b\/b∈ah ρ hin) e a w':=by
  intro e he ρ1 a w' st R1 hq;obtain⟨x,u,⟨σ,hret⟩,hc,hrun⟩:=P7 hL R1 hq;have post:a.defers=[]/\ ∃v,(results fn a.tmps).run P w'= .ok v w'/\ ∃u ρ',Ending.returned v= .returned u/\dG (λ b=>b∈ah ρ hin) w.heap.size w w'/\(∀p∈hin,∀q∈hout,q.1=p.1->CU (ρ' p.1) (ρ p.1))/\C2 (aA g w' ρ' hout) r u/\(∀p∈hout,aQ (aA g w' ρ' hout) p.1 p.2)/\(ah ρ' hout).Nodup/\ ∀b∈ah ρ' hout,w.heap.size<=b\/b∈ah ρ hin:=by
   have R:=R1.ren hret.nd;have hc:C2 (aA g w' (oP σ ρ1) (st.ren σ).heap) (ER σ x) u:=
    C2.ren (X:=aA g w' ρ1 st.heap) (Y:=aA g w' (oP σ ρ1) (st.ren σ).heap) (λ b h=>⟨h.1,h.2.1,λ h'=>h.2.2 ((Bl (nT hret.nd) ρ1 st.heap).subset h')⟩) rfl (λ k i e=>I8 (nT hret.nd) e) hc
   generalize hst:st.ren σ=st' at*;generalize amv:oP σ ρ1=ρ' at*;have hfx:=hret.fx;rw[hst]at hfx;have hp:=hret.hp;rw[hst]at hp;have hrr:=hret.hr;rw[hst]at hrr;have hmem:=YC hp;have aio:∀b,b∈ah ρ' hout->b∈ah ρ' st'.heap:=λ b hb=>by
    obtain⟨p,hp,e⟩:=aN.1 hb;obtain⟨o,ho,_⟩:=hmem p hp;exact aN.2 ⟨_,au ho,e⟩
   have hk:∀b,aH g w' ρ' st'.heap b->aH g w' ρ' hout b:=λ b h=>⟨h.1,h.2.1,λ h'=>h.2.2 (aio b h')⟩;refine⟨R1.defers,u,hrun,u,ρ',rfl,R.below, ?_, ?_, ?_,Bg (nT hret.hn) R.apart (λ p hp=>by obtain⟨o,ho,_⟩:=hmem p hp;exact⟨_,au ho,rfl⟩),λ b hb=>R.own b (aio b hb)⟩
   ·intro p hp q hq e;exact Tn (Y:=⟨w,keep,ρ⟩) (pre:=[]) (n:=0) rfl rfl jg (λ p hp hno=>by
     obtain⟨q,hq,eq⟩:=bM.1 hno;obtain⟨o,ho,hoe⟩:=hmem q hq;have hfo:=WH (nT hret.hn) q hq;rw[eq]at ho hfo;exact⟨q.2,hfo,hoe _ _ (R.objs _ (au ho))⟩) R.back hfx p hp (bM.2 ⟨q,hq,e⟩)
   ·refine hrr _ _ (ac6 (st:=st') hk (λ i hi=>λ j e s n sc f hij hf=> ?_) hc);refine zH R hf hk λ b hb=> ?_;have hin0:=aN.2 ⟨_,au hf,hb⟩;have:=R.jK hin0;refine⟨this.1,λ hlt=> ?_,λ hin1=> ?_⟩
    ·grind
    ·obtain⟨p,hp,ep⟩:=aN.1 hin1;obtain⟨o,ho,_⟩:=hmem p hp;have:=fE R.apart _ (au ho) _ (au hf) ep hb;dsimp only at this;cases hij;rw[<-this,bM.2 ⟨p,hp,rfl⟩]at hi;cases hi
   ·intro p hp;obtain⟨o,ho,hoe⟩:=hmem p hp;refine hoe _ _ ?_;exact aQ.same (X:=aA g w' ρ' st'.heap) hk (λ _ _=>rfl) rfl (λ _ _=>rfl) (R.objs _ (au ho))
  rcases he with rfl|rfl
  ·exact post
  ·exact post
 obtain⟨ρI,RI⟩:=hI _ _ _ _ _ _ R0;exact dS hL 9 g fn.ntmps lv [(pq ρ hin).toArray] c (Tj L fn hin r hout) _ ⟨λ ρ a w' st R h=>fin _ (.inl rfl) ρ a w' st R h,λ i ρ a w' st R h=>h.elim,λ ρ a w' st R h=>fin _ (.inr rfl) ρ a w' st R h⟩ RI h
theorem ac7(hL:bD P L)(lv base:Nat){f:FuncId}{fn:Func}{c:Code}{hin:List (Nat×AO)}{aW:List AV}{r:AV}{hout:List (Nat×AO)}(hf:P.funcs[f]? =some fn)(hn:(fn.name== "runtime.NumGoroutine")=false)(hb:fn.body=some c)(hsz:Nat.ble aW.length fn.ntmps=true)
 (h:zC P L 9 fn.ntmps lv c (Tj L fn hin r hout) (Jc aW hin base)):aj P f hin aW r hout:=Nc hL lv base hf hn hb hsz (xO.refl _) h
end
def LK(σ:List (Nat×Nat))(i:Nat):Bool:=match jY σ i with|some _=>true|none=>false
def WI(σ:List (Nat×Nat)):AV->Bool
 | .own i=>LK σ i
 | .dn i .. =>LK σ i
 | .jB i .. =>LK σ i
 | .box i _=>LK σ i
 | .cf _ i _=>LK σ i
 |_=>true
def key1(σ:List (Nat×Nat)):AV->Bool
 | .agg cs=>cs.all (WI σ)
 | .fn _ cs=>cs.all (WI σ)
 |x=>WI σ x
def key2(σ:List (Nat×Nat)):AV->Bool
 | .aZ vs=>vs.all (key1 σ)
 |x=>key1 σ x
def agv(σ:List (Nat×Nat)):AO->Bool
 | .box _ cs=>cs.all (WI σ)
 | .row .. =>true
 | .mp _ ks _=>ks.all λ p=>match p.2 with|some i=>LK σ i|none=>true
 | .obs _=>true
 | .rn _ cs=>cs.all (WI σ)
def x9(σ:List (Nat×Nat)):List (Nat×AO)->Bool
 |[]=>true
 |(k,o)::l=>LK σ k&&agv σ o&&x9 σ l
section
variable{σ:List (Nat×Nat)}{X Y:CX}
theorem lW{i:Nat}(h:LK σ i=true):∃j,jY σ i=some j/\lG σ i=some j:=by
 unfold LK at h;cases e:jY σ i with
 |none=>rw[e]at h;cases h
 |some j=>exact⟨j,rfl,by simp[lG,e]⟩
theorem C0.jL(hw:Y.w=X.w)(hk:Y.keep=X.keep)(hρ:∀k i,jY σ k=some i->Y.ρ i=X.ρ k){x:AV}{u:Value}(hr:WI σ x=true):C0 Y (qO σ x) u↔C0 X x u:=by
 obtain⟨w,k,ρ⟩:=X;obtain⟨w',k',ρ'⟩:=Y;subst hw hk;cases x with
 |own id=>
  obtain⟨j,e,e'⟩:=lW hr;simp only[qO,e',C0];rw[show ρ' j=ρ id from hρ id j e]
 |dn id s i n=>
  obtain⟨j,e,e'⟩:=lW hr;simp only[qO,e',C0];rw[show ρ' j=ρ id from hρ id j e]
 |jB id s i n=>
  obtain⟨j,e,e'⟩:=lW hr;simp only[qO,e',C0];rw[show ρ' j=ρ id from hρ id j e]
 |box id off=>
  obtain⟨j,e,e'⟩:=lW hr;simp only[qO,e',C0];rw[show ρ' j=ρ id from hρ id j e]
 |cf gg id off=>
  obtain⟨j,e,e'⟩:=lW hr;simp only[qO,e',C0];rw[show ρ' j=ρ id from hρ id j e]
 |_=>exact Iff.rfl
theorem aC.EU{R S:AV->Value->Prop}{m:AV->AV}{q:AV->Bool}(hi:∀x u,q x=true->(S (m x) u↔R x u)):∀{xs:List AV}{us:List Value},xs.all q=true->(aC S (xs.map m) us↔aC R xs us)
 |xs,us,hq=>by
  constructor
  ·intro h;refine⟨by simpa using h.1,λ i x u hx hu=>(hi x u (anh.1 hq x (anG hx))).1 (h.2 i _ u (by rw[anE,hx];rfl) hu)⟩
  ·intro h;refine⟨by simpa using h.1,λ i y u hy hu=> ?_⟩;rw[anE]at hy;cases hx:xs[i]? with
   |none=>rw[hx]at hy;cases hy
   |some x=>rw[hx]at hy;cases hy;exact(hi x u (anh.1 hq x (anG hx))).2 (h.2 i x u hx hu)
theorem C1.jL(hw:Y.w=X.w)(hk:Y.keep=X.keep)(hρ:∀k i,jY σ k=some i->Y.ρ i=X.ρ k){x:AV}{u:Value}(hr:key1 σ x=true):C1 Y (Sl σ x) u↔C1 X x u:=by
 have c0:∀{y:AV},WI σ y=true->(∀cs,y≠ .agg cs)->(∀g cs,y≠ .fn g cs)->(C1 Y (qO σ y) u↔C1 X y u):=by
  intro y hy h1 h2;have:=C0.jL hw hk hρ (u:=u) hy;constructor
  ·intro h;refine C1.uO (this.1 ?_);have hne:∀cs,qO σ y≠ .agg cs:=by
    intro cs e;cases y<;>simp only[qO]at e<;>first|(split at e<;>cases e;done)|exact h1 _ rfl|cases e
   have hne2:∀g cs,qO σ y≠ .fn g cs:=by
    intro g cs e;cases y<;>simp only[qO]at e<;>first|(split at e<;>cases e;done)|exact h2 _ _ rfl|cases e
   revert h hne hne2;cases qO σ y<;>intro h hne hne2<;>first|exact h|exact absurd rfl (hne _)|exact absurd rfl (hne2 _ _)
  ·intro h;refine C1.uO (this.2 ?_);revert h h1 h2;cases y<;>intro h1 h2 h<;>first|exact h|exact absurd rfl (h1 _)|exact absurd rfl (h2 _ _)
 cases x with
 |agg cs=>exact exists_congr λ us=>and_congr_right λ _=>aC.EU (λ x u h=>C0.jL hw hk hρ h) hr
 |fn g cs=>exact exists_congr λ us=>and_congr_right λ _=>aC.EU (λ x u h=>C0.jL hw hk hρ h) hr
 |v y=>exact c0 (y:= .v y) rfl (λ _ h=>by cases h) (λ _ _ h=>by cases h)
 |aZ vs=>exact c0 (y:= .aZ vs) rfl (λ _ h=>by cases h) (λ _ _ h=>by cases h)
 |sl s n sc f=>exact c0 (y:= .sl s n sc f) rfl (λ _ h=>by cases h) (λ _ _ h=>by cases h)
 |own i=>exact c0 (y:= .own i) hr (λ _ h=>by cases h) (λ _ _ h=>by cases h)
 |dn i s j k=>exact c0 (y:= .dn i s j k) hr (λ _ h=>by cases h) (λ _ _ h=>by cases h)
 |jB i s j k=>exact c0 (y:= .jB i s j k) hr (λ _ h=>by cases h) (λ _ _ h=>by cases h)
 |box i k=>exact c0 (y:= .box i k) hr (λ _ h=>by cases h) (λ _ _ h=>by cases h)
 |cf gg i k=>exact c0 (y:= .cf gg i k) hr (λ _ h=>by cases h) (λ _ _ h=>by cases h)
 |el cs k=>exact c0 (y:= .el cs k) rfl (λ _ h=>by cases h) (λ _ _ h=>by cases h)
 |junk=>exact c0 (y:= .junk) rfl (λ _ h=>by cases h) (λ _ _ h=>by cases h)
theorem C2.jL(hw:Y.w=X.w)(hk:Y.keep=X.keep)(hρ:∀k i,jY σ k=some i->Y.ρ i=X.ρ k){x:AV}{u:Value}(hr:key2 σ x=true)(h:C2 X x u):C2 Y (ER σ x) u:=by
 cases x with
 |aZ vs=>
  obtain⟨us,e,ha⟩:=h;exact⟨us,e,(aC.EU (λ x u h=>C1.jL hw hk hρ h) hr).2 ha⟩
 |agg cs=>exact C2.mg ((C1.jL hw hk hρ (x:= .agg cs) hr).2 h)
 |fn g cs=>exact C2.mg ((C1.jL hw hk hρ (x:= .fn g cs) hr).2 h)
 |v y=>exact C2.mg ((C1.jL hw hk hρ (x:= .v y) hr).2 h)
 |sl s n sc f=>exact C2.mg ((C1.jL hw hk hρ (x:= .sl s n sc f) hr).2 h)
 |own i=>exact C2.mg ((C1.jL hw hk hρ (x:= .own i) hr).2 h)
 |dn i s j k=>exact C2.mg ((C1.jL hw hk hρ (x:= .dn i s j k) hr).2 h)
 |jB i s j k=>exact C2.mg ((C1.jL hw hk hρ (x:= .jB i s j k) hr).2 h)
 |box i k=>exact C2.mg ((C1.jL hw hk hρ (x:= .box i k) hr).2 h)
 |cf gg i k=>exact C2.mg ((C1.jL hw hk hρ (x:= .cf gg i k) hr).2 h)
 |el cs k=>exact C2.mg ((C1.jL hw hk hρ (x:= .el cs k) hr).2 h)
 |junk=>exact C2.mg ((C1.jL hw hk hρ (x:= .junk) hr).2 h)
theorem jJ.jL{ρ ρ':Nat->Value}(hρ:∀k i,jY σ k=some i->ρ' i=ρ k):∀{ks:List (ByteArray×Option Nat)}{vs:List Value},(ks.all λ p=>match p.2 with|some i=>LK σ i|none=>true)=true->(jJ ρ' (jL σ ks) vs↔jJ ρ ks vs)
 |[],_,_=>Iff.rfl
 |(k,none)::l,vs,h=>by
  simp only[List.all_cons,amY]at h;simp only[Go.Proofs.YtkimgljckickcaaGreat.jL,jJ];exact exists_congr λ v=>exists_congr λ r=>and_congr_right λ _=>and_congr ⟨λ _ i hi=>(by cases hi),λ _ i hi=>(by cases hi)⟩ (jJ.jL hρ h.2)
 |(k,some i)::l,vs,h=>by
  simp only[List.all_cons,amY]at h;obtain⟨j,e,e'⟩:=lW h.1;simp only[Go.Proofs.YtkimgljckickcaaGreat.jL,jJ,e'];refine exists_congr λ v=>exists_congr λ r=>and_congr_right λ _=>and_congr ?_ (jJ.jL hρ h.2);constructor
  ·intro q x hx;cases hx;rw[<-hρ i j e];exact q j rfl
  ·intro q x hx;cases hx;rw[hρ i j e];exact q i rfl
theorem aQ.jL(hw:Y.w=X.w)(hk:Y.keep=X.keep)(hρ:∀k i,jY σ k=some i->Y.ρ i=X.ρ k){k i:Nat}{o:AO}(hi:jY σ k=some i)(hr:agv σ o=true):aQ Y i (o.ren σ)↔aQ X k o:=by
 cases o with
 |box t cs=>
  simp only[aQ,hw,hρ k i hi];exact exists_congr λ b=>exists_congr λ us=>and_congr_right λ _=>and_congr_right λ _=>aC.EU (λ x u h=>C0.jL hw hk hρ h) hr
 |row e s n sc f=>
  simp only[AO.ren,aQ,oO,hw,hk,hρ k i hi]
 |mp t ks rs=>
  have hh:∀hs,jl Y rs hs↔jl X rs hs:=λ hs=>⟨jl.mono (by rw[hk];exact λ _ h=>h) (λ _ _=>by rw[hw]) (λ _ _=>by rw[hw]),jl.mono (by rw[hk];exact λ _ h=>h) (λ _ _=>by rw[hw]) (λ _ _=>by rw[hw])⟩;simp only[AO.ren,aQ,hw,hρ k i hi,zB,hh];exact exists_congr λ b=>exists_congr λ es=>exists_congr λ c=>exists_congr λ vs=>exists_congr λ hs=>and_congr_right λ _=>and_congr_right λ _=>and_congr_left λ _=>jJ.jL (λ k i e=>congrArg dD (hρ k i e)) hr
 |obs o=>
  simp only[AO.ren,aQ,hw,hk,hρ k i hi]
 |rn e cs=>
  simp only[AO.ren,aQ,hw,hρ k i hi,anu];exact exists_congr λ us=>and_congr_right λ _=>aC.EU (λ x u h=>C0.jL hw hk hρ h) hr
theorem qc{ρ ρ':Nat->Value}(hρ:∀k i,jY σ k=some i->ρ' i=ρ k):∀{h:List (Nat×AO)},x9 σ h=true->ah ρ' (iO σ h)=ah ρ h
 |[],_=>rfl
 |(k,o)::l,h=>by
  simp only[x9,amY]at h;obtain⟨j,e,e'⟩:=lW h.1.1;simp only[iO,e'];rw[aP,aP,qc hρ h.2];dsimp only;rw[hρ k j e]
theorem Dz:∀{h:List (Nat×AO)},x9 σ h=true-> ∀p∈h,∃i,jY σ p.1=some i/\(i,p.2.ren σ)∈iO σ h/\agv σ p.2=true
 |[],_,p,hp=>by cases hp
 |(k,o)::l,h,p,hp=>by
  simp only[x9,amY]at h;obtain⟨j,e,e'⟩:=lW h.1.1;simp only[iO,e'];rcases am4.1 hp with rfl|hp
  ·exact⟨j,e,amW,h.1.2⟩
  ·obtain⟨i,h1,h2,h3⟩:=Dz h.2 p hp;exact⟨i,h1,am1 _ h2,h3⟩
theorem zL:∀{h:List (Nat×AO)},x9 σ h=true-> ∀q∈iO σ h,∃p∈h,jY σ p.1=some q.1/\q.2=p.2.ren σ/\agv σ p.2=true
 |[],_,q,hq=>by cases hq
 |(k,o)::l,h,q,hq=>by
  simp only[x9,amY]at h;obtain⟨j,e,e'⟩:=lW h.1.1;simp only[iO,e']at hq;rcases am4.1 hq with rfl|hq
  ·exact⟨(k,o),amW,e,rfl,h.1.2⟩
  ·obtain⟨p,h1,h2⟩:=zL h.2 q hq;exact⟨p,am1 _ h1,h2⟩
end
theorem aj.ren(h:aj P f hin aW r hout)(σ:List (Nat×Nat))
  (hb:(uz (σ.map (·.2))&&x9 σ hin&&x9 σ hout&&aW.all (key1 σ)&&key2 σ r)=true):aj P f (iO σ hin) (aW.map (Sl σ)) (ER σ r) (iO σ hout):=by
 simp only[amY]at hb;obtain⟨⟨⟨⟨hnd,hki⟩,hko⟩,hka⟩,hkr⟩:=hb;have hn:=EP hnd;refine⟨h.1,λ w keep ρ args hkeep jg alH hnk hargs=> ?_⟩;let WJ:Nat->Value:=λ k=>match jY σ k with|some i=>ρ i|none=>undef
 have e0:∀k i,jY σ k=some i->ρ i=WJ k:=λ k i e=>by simp only[WJ,e]
 have Ar:=qc e0 hki;have key:=h.2 w keep WJ args hkeep (λ p hp=>by
   obtain⟨i,h1,h2,h3⟩:=Dz hki p hp;exact(aQ.jL (X:=⟨w,keep,WJ⟩) (Y:=⟨w,keep,ρ⟩) rfl rfl e0 h1 h3).1 (jg _ h2)) (by rw[<-Ar];exact alH) (by rw[<-Ar];exact hnk)
  ((aC.EU (λ x u h=>C1.jL (X:=⟨w,keep,WJ⟩) (Y:=⟨w,keep,ρ⟩) rfl rfl e0 h) hka).1 hargs)
 refine key.mono ?_;rintro e w' ⟨u,ac8,rfl,hbel,hfix,hc,ho,hnd',hnew⟩;let ρ':Nat->Value:=λ i=>match WG σ i with|some k=>ac8 k|none=>ρ i
 have e1:∀k i,jY σ k=some i->ρ' i=ac8 k:=λ k i e=>by simp only[ρ',zJ hn (rE e)]
 have ac9:=qc e1 hko;have hM:(λ b=>b∈ah ρ (iO σ hin))=(λ b=>b∈ah WJ hin):=by rw[Ar]
 have hkk:(aA (dN w keep (λ b=>b∈ah ρ (iO σ hin))) w' ρ' (iO σ hout)).keep=(aA (dN w keep (λ b=>b∈ah WJ hin)) w' ac8 hout).keep:=by
  funext b
  simp only[aA,aH,ac9,Ar]
 refine⟨u,ρ',rfl,by rw[hM];exact hbel, ?_,C2.jL (X:=aA (dN w keep (λ b=>b∈ah WJ hin)) w' ac8 hout) (Y:=aA (dN w keep (λ b=>b∈ah ρ (iO σ hin))) w' ρ' (iO σ hout)) rfl hkk e1 hkr hc, ?_,by rw[ac9];exact hnd',by rw[ac9,Ar];exact hnew⟩
 ·intro p hp q hq epq;obtain⟨p0,hp0,h1,_⟩:=zL hki p hp;obtain⟨q0,hq0,h2,_⟩:=zL hko q hq;have hk0:q0.1=p0.1:=by
   have k1:=zJ hn (rE h1);have k2:=zJ hn (rE h2);rw[epq,k1]at k2;exact(Option.some.inj k2).symm
  rw[e1 _ _ h1,e0 _ _ h1];exact hfix p0 hp0 q0 hq0 hk0
 ·intro q hq;obtain⟨p,hp,h1,h2,h3⟩:=zL hko q hq;rw[h2];exact(aQ.jL (X:=aA (dN w keep (λ b=>b∈ah WJ hin)) w' ac8 hout) (Y:=aA (dN w keep (λ b=>b∈ah ρ (iO σ hin))) w' ρ' (iO σ hout)) rfl hkk e1 h1 h3).2 (ho p hp)
theorem bQ.Qb{L:Lay}{W:Walk}{K:AV->AS->Prop}(k:Nat)(τ:List (Nat×Nat)){agw:List AV}(hs:aj P f hin agw r hout)
  (ha:agw.map (Sl ((k,d)::τ))=aW)(hh:ZM st (iO ((k,d)::τ) hin))
  (hb:(uz (((k,d)::τ).map (·.2))&&x9 ((k,d)::τ) hin&&x9 ((k,d)::τ) hout&&agw.all (key1 ((k,d)::τ))&&key2 ((k,d)::τ) r)=true)
  (hb2:(uz ((iO ((k,d)::τ) hin).map (·.1))&&(agw.map (Sl ((k,d)::τ))).all RZ&&fF (iO ((k,d)::τ) hout) (iO ((k,d)::τ) hout)&&acv (iO ((k,d)::τ) hout) (ER ((k,d)::τ) r)&&wu d (iO ((k,d)::τ) hin) (iO ((k,d)::τ) hout))=true)
  (hK:K (ER ((k,d)::τ) r) (st.RG d (iO ((k,d)::τ) hin) (iO ((k,d)::τ) hout))):bQ P L W d f aW st K:=by
 subst ha;exact .RG _ _ _ (hs.ren _ hb) hh hb2 hK
section
variable{P:Program}
def ak{α:Type}(P:Program)(m:Sem α):Prop:= ∀(w w':World)(u:α)(w1:World),m.run P w= .ok u w1->w1=w/\m.run P w'= .ok u w'
theorem ak.pure{α:Type}(x:α):ak P (Pure.pure x:Sem α):=by
 intro w w' u w1 h;cases h;exact⟨rfl,rfl⟩
theorem ak.halt{α:Type}(h:Halt):ak P (Sem.halt h:Sem α):=by
 intro w w' u w1 h;cases h
theorem ak.stuck{α:Type}(h:String):ak P (Go.stuck h:Sem α):=ak.halt _
theorem ak.unsupported{α:Type}(h:Unsupported):ak P (Go.unsupported h:Sem α):=ak.halt _
theorem ak.program:ak P (Go.program):=by
 intro w w' u w1 h;cases h;exact⟨rfl,rfl⟩
theorem ak.bind{α β:Type}{m:Sem α}{k:α->Sem β}(hm:ak P m)(hk:∀x,ak P (k x)):ak P (m>>=k):=by
 intro w w' u w1 h;rw[am']at h⊢;cases e:m.run P w with
 |ok x w0=>
  rw[e]at h;obtain⟨rfl,e'⟩:=hm w w' x w0 e;rw[e'];exact hk x _ w' u w1 h
 |halt x w0=>rw[e]at h;cases h
theorem ak.dead{α:Type}{m:Sem α}(h:∀w u w1,m.run P w≠ .ok u w1):ak P m:=λ w _ u w1 e=>absurd e (h w u w1)
theorem zM{α β:Type}{m:Sem α}{k:α->Sem β}(hk:∀x w u w1,(k x).run P w≠ .ok u w1)(w:World)(u:β)(w1:World):(m>>=k).run P w≠ .ok u w1:=by
 rw[am'];cases e:m.run P w with
 |ok x w0=>rw[am8];exact hk x w0 u w1
 |halt x w0=>exact λ h=>by cases h
theorem Bo{α:Type}(e:RuntimeError)(w:World)(u:α)(w1:World):(runtimePanic e:Sem α).run P w≠ .ok u w1:=by
 cases e<;>first|exact(λ h=>by cases h)|exact zM (λ _=>zM λ _ w u w1 h=>by cases h) _ _ _
theorem ak.bounds{α:Type}(k:IntKind)(x y:Int)(c:BoundsCode):ak P (boundsPanic k x y c:Sem α):=by
 refine ak.dead λ w u w1=> ?_;unfold boundsPanic;split
 ·exact zM (λ _ w u w1=>Bo _ w u w1) w u w1
 ·exact zM (λ _ w u w1=>Bo _ w u w1) w u w1
theorem ak.WL{α:Type}(e:RuntimeError):ak P (runtimePanic e:Sem α):=ak.dead λ w u w1=>Bo e w u w1
theorem ak.underlying(t:TypeId):ak P (Go.underlying t):=by
 refine ak.bind ak.program λ p=> ?_;split
 ·exact ak.pure _
 ·exact ak.halt _
theorem ak.typeInfo(t:TypeId):ak P (Go.typeInfo t):=by
 refine ak.bind ak.program λ p=> ?_;split
 ·exact ak.pure _
 ·exact ak.halt _
theorem ak.sizeOf(t:TypeId):ak P (Go.sizeOf t):=ak.bind (ak.typeInfo t) λ _=>ak.pure _
theorem ak.asIntOf(v:Value):ak P (Go.asIntOf v):=by
 unfold Go.asIntOf;split
 ·exact ak.pure _
 ·exact ak.halt _
 ·exact ak.halt _
theorem ak.asBool(v:Value):ak P (Go.asBool v):=by
 unfold Go.asBool;split
 ·exact ak.pure _
 ·exact ak.halt _
theorem ak.sureAddr(v:Value):ak P (Instr.sureAddr v):=by
 unfold Instr.sureAddr;split
 ·exact ak.pure _
 ·exact ak.halt _
theorem ak.indexAt(t:TypeId)(x i:Value):ak P (Instr.indexAt t x i):=by
 unfold Instr.indexAt;with_reducible repeat' first
  |exact ak.pure _
  |exact ak.stuck _
  |exact ak.unsupported _
  |exact ak.bounds _ _ _ _
  |refine ak.bind (ak.asIntOf _) λ _=> ?_
  |refine ak.bind (ak.underlying _) λ _=> ?_
  |refine ak.bind (ak.sureAddr _) λ _=> ?_
  |refine ak.bind (ak.sizeOf _) λ _=> ?_
  |refine ak.bind (ak.pure _) λ _=> ?_
  |refine ak.bind (ak.stuck _) λ _=> ?_
  |(dsimp only;split)
  |split
theorem ak.asAgg(v:Value):ak P (Go.asAgg v):=by
 unfold Go.asAgg;split
 ·exact ak.pure _
 ·exact ak.halt _
theorem ak.isAgg(t:TypeId):ak P (Go.isAgg t):=by
 refine ak.bind (ak.underlying _) λ _=> ?_;split<;>exact ak.pure _
theorem ak.part(t:TypeId)(cs:Array Value)(off:Nat):ak P (Go.part t cs off):=by
 refine ak.bind (ak.isAgg _) λ _=> ?_;split
 ·exact ak.bind (ak.sizeOf _) λ _=>ak.pure _
 ·split
  ·exact ak.pure _
  ·exact ak.halt _
theorem ak.field(t:TypeId)(x:Value)(i:Nat):ak P (Instr.field t x i):=by
 refine ak.bind (ak.underlying _) λ _=> ?_;split
 ·split
  ·exact ak.bind (ak.asAgg _) λ _=>ak.part _ _ _
  ·exact ak.stuck _
 ·exact ak.stuck _
theorem ak.index(t:TypeId)(x i:Value):ak P (Instr.index t x i):=by
 unfold Instr.index;with_reducible repeat' first
  |exact ak.pure _
  |exact ak.stuck _
  |exact ak.bounds _ _ _ _
  |exact ak.part _ _ _
  |refine ak.bind (ak.asIntOf _) λ _=> ?_
  |refine ak.bind (ak.underlying _) λ _=> ?_
  |refine ak.bind (ak.sizeOf _) λ _=> ?_
  |refine ak.bind (ak.pure _) λ _=> ?_
  |(dsimp only;split)
  |split
theorem ak.extract(v:Value)(i:Nat):ak P (Instr.extract v i):=by
 unfold Instr.extract;split
 ·split
  ·exact ak.pure _
  ·exact ak.halt _
 ·exact ak.halt _
theorem ak.intArith(op:BinOp)(k:IntKind)(x y:Int):ak P (Op.intArith op k x y):=by
 unfold Op.intArith;split<;>first|exact ak.pure _|exact ak.halt _
theorem ak.intBits(op:BinOp)(k:IntKind)(x y:Int):ak P (Op.intBits op k x y):=by
 unfold Op.intBits;split<;>first|exact ak.pure _|exact ak.halt _
theorem ak.intCmp(op:BinOp)(x y:Int):ak P (Op.intCmp op x y):=by
 unfold Op.intCmp;split<;>first|exact ak.pure _|exact ak.halt _
theorem ak.intDiv(op:BinOp)(k:IntKind)(x y:Int):ak P (Op.intDiv op k x y):=by
 unfold Op.intDiv;split
 ·exact ak.WL _
 ·split<;>first|exact ak.pure _|exact ak.halt _
theorem ak.shift(op:BinOp)(k k':IntKind)(x y:Int):ak P (Op.shift op k x k' y):=by
 unfold Op.shift;split
 ·exact ak.WL _
 ·dsimp only;split<;>first|exact ak.pure _|exact ak.halt _
theorem ak.unary(op:UnOp)(x:Value):ak P (Op.unary op x):=by
 unfold Op.unary;split<;>first|exact ak.pure _|exact ak.halt _|exact ak.intArith _ _ _ _|exact ak.intBits _ _ _ _
theorem ak.ai2(op:BinOp)(t:TypeId)(k k':IntKind)(x y:Int):ak P (binOp op t (.int k x) (.int k' y)):=by
 cases op<;>unfold binOp<;>dsimp only<;>first|exact ak.shift _ _ _ _ _|(split<;>first|exact ak.halt _|exact ak.intArith _ _ _ _|exact ak.intBits _ _ _ _|exact ak.intCmp _ _ _|exact ak.intDiv _ _ _ _)
theorem ak.aky(op:BinOp)(t:TypeId)(x y:Operand)(k k':IntKind)(a b:Int):ak P (eqGuard op t x y (.int k a) (.int k' b)):=by
 cases op<;>exact ak.pure _
theorem ak.agx{s t:TypeId}{k:IntKind}(ht:P.underlying t=some (.int k))(k':IntKind)(n:Int):ak P (convert s t (.int k' n)):=by
 intro w w' u w1 h;unfold convert at h⊢;simp only[am']at h⊢;cases e:(Go.underlying s).run P w with
 |halt x w0=>rw[e]at h;cases h
 |ok d w0=>
  obtain⟨rfl,e'⟩:=ak.underlying s w w' d w0 e;have hu:∀w,(Go.underlying t).run P w= .ok (.int k) w:=by
   intro w;unfold Go.underlying;simp only[am',run_program,am8,ht];rfl
  rw[e,am8,hu]at h;rw[e',am8,hu];have hf:ak P (Conv.intToInt k n):=ak.pure _;cases d<;>exact hf w0 w' u w1 h
theorem ak.Nh{α β:Type}{m:Sem α}{k:α->Sem β}{x:α}(hm:∀w,m.run P w= .ok x w)(hk:ak P (k x)):ak P (m>>=k):=by
 intro w w' u w1 h;rw[am',hm]at h;rw[am',hm];exact hk w w' u w1 h
theorem ak.stringOp(op:BinOp)(x y:ByteArray):ak P (Op.stringOp op x y):=by
 unfold Op.stringOp;split
 ·split
  ·exact ak.halt _
  ·exact ak.pure _
 all_goals first|exact ak.pure _|exact ak.halt _
theorem ak.ai3(op:BinOp)(t:TypeId)(x y:ByteArray):ak P (binOp op t (.string x) (.string y)):=by
 cases op<;>unfold binOp<;>dsimp only<;>exact ak.stringOp _ x y
theorem ak.eqStr(op:BinOp)(t:TypeId)(x y:Operand)(a b:ByteArray):ak P (eqGuard op t x y (.string a) (.string b)):=by
 cases op<;>exact ak.pure _
theorem ak.sliceBound(x:Value)(y:Nat)(c:BoundsCode):ak P (Instr.sliceBound x y c):=by
 refine ak.bind (ak.asIntOf _) λ _=> ?_;dsimp only;split
 ·exact ak.pure _
 ·exact ak.bounds _ _ _ _
theorem ak.sliceBounds(b:Bool)(l c:Nat)(lo hi:Option Value):ak P (Instr.sliceBounds b l c lo hi none):=by
 unfold Instr.sliceBounds;cases lo<;>cases hi<;>with_reducible repeat' first
  |exact ak.pure _
  |refine ak.bind (ak.sliceBound _ _ _) λ _=> ?_
  |refine ak.bind (ak.pure _) λ _=> ?_
  |dsimp only
theorem ak.slice(t:TypeId){x:Value}(hx:(∃A n c,x= .slice A n c)\/(∃s,x= .string s)\/ ∃A,x= .pointer (some A))(lo hi:Option Value):ak P (Instr.sliceAt t x lo hi none):=by
 refine ak.bind (ak.underlying _) λ d=> ?_;split
 ·refine ak.bind (ak.sureAddr _) λ _=>ak.bind (ak.sliceBounds _ _ _ _ _) λ _=> ?_;exact ak.bind (ak.sizeOf _) λ _=>ak.pure _
 ·unfold Instr.slice;refine ak.bind (ak.underlying _) λ d=> ?_;rcases hx with⟨A,n,c,rfl⟩|⟨s,rfl⟩|⟨A,rfl⟩
  ·cases d<;>first
    |exact ak.halt _
    |exact ak.bind (ak.sliceBounds _ _ _ _ _) λ _=>ak.bind (ak.sizeOf _) λ _=>ak.pure _
  ·cases d<;>first
    |exact ak.halt _
    |exact ak.bind (ak.sliceBounds _ _ _ _ _) λ _=>ak.pure _
  ·cases d<;>first
    |exact ak.halt _
    |(refine ak.bind (ak.pure _) λ _=>ak.bind (ak.underlying _) λ d=> ?_
      cases d<;>first
       |exact ak.halt _
       |exact ak.bind (ak.sliceBounds _ _ _ _ _) λ _=>ak.bind (ak.sizeOf _) λ _=>ak.pure _)
theorem ak.arrayAt(t:TypeId)(x:Value):ak P (Instr.arrayAt t x):=by
 refine ak.bind (ak.underlying _) λ d=> ?_;split
 ·split
  ·split
   ·exact ak.WL _
   ·exact ak.pure _
  ·exact ak.halt _
 ·exact ak.halt _
theorem ak.len(t ty:TypeId){x:Value}(hx:(∃A n c,x= .slice A n c)\/ ∃s,x= .string s):ak P (Builtin.len_ #[t] ty #[x]):=by
 refine ak.bind (ak.underlying _) λ d=> ?_;rcases hx with⟨A,n,c,rfl⟩|⟨s,rfl⟩<;>cases d<;>first
  |exact ak.pure _
  |exact ak.halt _
  |(refine ak.bind (ak.underlying _) λ d=> ?_
    cases d<;>first|exact ak.pure _|exact ak.halt _)
end
def ac':AV->Bool
 | .v (.int _ _)=>true
 |_=>false
def agy:AV->Bool
 | .v (.string _)=>true
 |_=>false
def sliceB:AV->Bool
 | .v (.string _)=>true
 | .v (.slice _ _ _)=>true
 | .sl .. =>true
 |_=>false
def ai4:AV->Bool
 | .own _=>true
 | .box _ _=>true
 |x=>sliceB x
def alI:AV->Bool
 | .box _ _=>true
 |_=>false
def ai5(L:Lay)(t:TypeId):Bool:=match aU L t with|some i=>(match i.kind with| .int _=>true|_=>false)|none=>false
def yI(L:Lay)(st:AS)(op:Op):Bool:=
 match op with
 | .move _=>true
 | .assign _=>true
 | .pick .. =>true
 | .extract .. =>true
 | .fieldAddr .. =>true
 | .indexAddr .. =>true
 | .unOp .. =>true
 | .build .. =>true
 | .field .. =>true
 | .index .. =>true
 | .nilCheck x=>alI (st.ev x)
 | .binOp _ _ x y _=>(ac' (st.ev x)&&ac' (st.ev y))||(agy (st.ev x)&&agy (st.ev y))
 | .convert _ t x=>ac' (st.ev x)&&ai5 L t
 | .slice _ x _ _ none=>ai4 (st.ev x)
 | .sliceToArrayPointer _ x=>sliceB (st.ev x)
 | .call {callee:= .builtin .len,args:=xs,argTypes:=ts}=>(match ts.toList,xs.toList with|[_],[x]=>sliceB (st.ev x)|_,_=>false)
 |_=>false
section
variable{P:Program}{L:Lay}{g:Base}{N:Nat}{bs:List (Array Value)}{ρ:Nat->Value}{a:Act}{w:World}{st:AS}
theorem Jf{X:CX}{x:AV}{u:Value}(hx:C2 X x u)(h:ac' x=true):∃k n,u= .int k n:=by
 unfold ac' at h;split at h
 ·exact⟨_,_,C2.cO hx⟩
 ·cases h
theorem Tq{X:CX}{x:AV}{u:Value}(hx:C2 X x u)(h:agy x=true):∃s,u= .string s:=by
 unfold agy at h;split at h
 ·exact⟨_,C2.cO hx⟩
 ·cases h
theorem Jg{X:CX}{x:AV}{u:Value}(hx:C2 X x u)(h:sliceB x=true):(∃A n c,u= .slice A n c)\/ ∃s,u= .string s:=by
 unfold sliceB at h;split at h
 ·exact .inr ⟨_,C2.cO hx⟩
 ·exact .inl ⟨_,_,_,C2.cO hx⟩
 ·cases C2.wC hx with
  |sl _ _ _ _ A c us _ _ _ _ _ _ _ _=>exact .inl ⟨_,_,_,rfl⟩
 ·cases h
theorem ak.fieldAt(hL:bD P L){t:TypeId}{p:AV}{pv:Value}{i:Nat}{K:AV->Prop}(h:o7 L t p i K):ak P (Instr.fieldAt t pv i):=by
 unfold o7 at h;split at h
 ·rename_i ti hti;split at h
  ·rename_i fs hk;split at h
   ·rename_i o ft hfs;split at h
    ·rename_i fi hfi;obtain⟨fields,hu,hmap⟩:=mV hL hti hk;obtain⟨f,hf,ho,hft⟩:=Iz hmap hfs;cases hs:Nat.ble 1 fi.size with
     |false=>rw[hs]at h;exact h.elim
     |true=>
      have h1:=am7 hs;refine ak.Nh (λ w=>run_underlying hu w) ?_;dsimp only;rw[hf];refine ak.bind (ak.sureAddr _) λ a=>ak.bind ?_ λ _=>ak.pure _;refine ak.Nh (λ w=>by rw[hft];exact gy hL hfi w) ?_;rw[if_neg o_];exact ak.pure _
    ·exact h.elim
   ·exact h.elim
  ·exact h.elim
 ·exact h.elim
theorem ada(hL:bD P L){t:TypeId}{i:TI}(h:aU L t=some i):∃z,∀w,(zeroValue t).run P w= .ok z w:=by
 obtain⟨info,z,d,h1,h2,h3,h4,h5,h6,h7⟩:=jm hL h;exact⟨z,λ w=>by simp[zeroValue,typeInfo,h1,h3]⟩
theorem ak.agz(hL:bD P L){hh:List (Nat×AO)}{t:TypeId}{ps:List (Nat×AV)}{parts:Array (Nat×Value)}{K:AV->Prop}(h:EM L hh t ps K):ak P (Instr.build t parts):=by
 unfold EM at h;split at h
 ·rename_i ti hti;obtain⟨z,hz⟩:=ada hL hti;refine ak.Nh hz ?_;split at h
  ·rename_i fs hk;obtain⟨fields,hu,hmap⟩:=mV hL hti hk;refine ak.Nh (λ w=>run_underlying hu w) ?_;split at h
   ·rename_i pl acP;rw[<-hmap]at acP;refine ak.Nh (x:=pl.toArray) (λ w=> ?_) ?_
    ·have hm:=yF hL w acP;rw[Array.mapM_eq_mapM_toList];simp only[Sem.run_map,hm,am8]
    ·split
     ·exact ak.pure _
     ·exact ak.halt _
   ·exact h.elim
  ·rename_i n e hk;refine ak.Nh (λ w=>run_underlying (pW hL hti hk) w) ?_;refine ak.bind (ak.sizeOf _) λ _=> ?_;split
   ·exact ak.pure _
   ·exact ak.halt _
  ·exact h.elim
 ·exact h.elim
theorem agA(hL:bD P L){t:TypeId}(h:ai5 L t=true):∃k,P.underlying t=some (.int k):=by
 unfold ai5 at h;split at h
 ·rename_i i hi;split at h
  ·rename_i k hk;exact⟨k,Bd hL hi hk⟩
  ·cases h
 ·cases h
theorem WM{L:Lay}{st:AS}{t:TypeId}{id:Nat}{x:AV}{lo hi:Option AV}{mx:Option AV}{K:AV->AS->Prop}(hx:x= .own id)(h:aslice L st t x lo hi mx K):∃e s n sc f,aG id st.heap=some (.row e s n sc f):=by
 unfold aslice at h;split at h
 ·grind
 ·exact h.elim
theorem Tt(hL:bD P L){W:Walk}(R:Rel g N bs ρ a w st){o:Oper}{d:Nat}{K:AV->AS->Prop}(hp:yI L st o.op=true)(h:Wj P L W d st o.op K):
  ∃x u st' ρ',K x st'/\Rel g N bs ρ' a w st'/\C2 (aA g w ρ' st'.heap) x u/\ ∀w',(execOp a.eval o).run P w'= .ok (.value u) w':=by
 have fin:∀{m:Sem Value},ak P m->(∀w,(execOp a.eval o).run P w=(do pure (.value (<-m)):Sem Next).run P w)->(∃x u,K x st/\C2 (aA g w ρ st.heap) x u/\(execOp a.eval o).run P w= .ok (.value u) w)-> ∃x u st' ρ',K x st'/\Rel g N bs ρ' a w st'/\C2 (aA g w ρ' st'.heap) x u/\ ∀w',(execOp a.eval o).run P w'= .ok (.value u) w':=by
  rintro m hm e ⟨x,u,h1,h2,h3⟩;refine⟨x,u,st,ρ,h1,R,h2,λ w'=> ?_⟩;rw[e]at h3⊢;exact(ak.bind hm (λ _=>ak.pure _) w w' _ _ h3).2
 have plain:∀{u0:Value},(execOp a.eval o=pure (.value u0))->(∃x u,K x st/\C2 (aA g w ρ st.heap) x u/\(execOp a.eval o).run P w= .ok (.value u) w)-> ∃x u st' ρ',K x st'/\Rel g N bs ρ' a w st'/\C2 (aA g w ρ' st'.heap) x u/\ ∀w',(execOp a.eval o).run P w'= .ok (.value u) w':=by
  rintro u0 e ⟨x,u,h1,h2,h3⟩;refine⟨x,u,st,ρ,h1,R,h2,λ w'=> ?_⟩;rw[e]at h3⊢;cases h3;rfl
 have quiet:mM o.op=true-> ∃x u,K x st/\C2 (aA g w ρ st.heap) x u/\(execOp a.eval o).run P w= .ok (.value u) w:=λ hq=>zK hL R hq h;unfold yI at hp;split at hp
 ·rename_i x e;exact plain (u0:=a.eval x) (by simp only[execOp,e]) (quiet (by rw[e];rfl))
 ·rename_i x e;exact plain (u0:=a.eval x) (by simp only[execOp,e]) (quiet (by rw[e];rfl))
 ·rename_i c x y e;refine fin (m:=do pure (if<-asBool (a.eval c)then a.eval x else a.eval y)) (ak.bind (ak.asBool _) λ _=>ak.pure _) ?_ (quiet (by rw[e];rfl));intro w;simp only[execOp,e];cases hc:a.eval c<;>rfl
 ·rename_i x i e;exact fin (ak.extract (a.eval x) i) (λ _=>by simp only[execOp,e]) (quiet (by rw[e];rfl))
 ·rename_i t x i e;have h':o7 L t (st.ev x) i (λ y=>K y st):=by rw[e]at h;exact h
  exact fin (m:=Instr.fieldAt t (a.eval x) i) (ak.fieldAt hL h') (λ _=>by simp only[execOp,e]) (quiet (by rw[e];rfl))
 ·rename_i t x i e;exact fin (ak.indexAt t (a.eval x) (a.eval i)) (λ _=>by simp only[execOp,e]) (quiet (by rw[e];rfl))
 ·rename_i op t x e;exact fin (ak.unary op (a.eval x)) (λ _=>by simp only[execOp,e]) (quiet (by rw[e];rfl))
 ·rename_i t parts e;have h':EM L st.heap t (parts.toList.map λ p=>(p.1,st.ev p.2)) (λ y=>K y st):=by rw[e]at h;exact h
  exact fin (m:=Instr.build t (parts.map λ(i,x)=>(i,a.eval x))) (ak.agz hL h') (λ _=>by simp only[execOp,e]) (quiet (by rw[e];rfl))
 ·rename_i t x i e;exact fin (ak.field t (a.eval x) i) (λ _=>by simp only[execOp,e]) (quiet (by rw[e];rfl))
 ·rename_i t x i e;exact fin (ak.index t (a.eval x) (a.eval i)) (λ _=>by simp only[execOp,e]) (quiet (by rw[e];rfl))
 ·rename_i x e;have hx:=R.ev x;have:∃b q,a.eval x= .pointer (some ⟨b,q,none⟩):=by
   cases hev:st.ev x with
   |box id off=>
    rw[hev]at hx;obtain⟨b,_,h⟩:∃b,dD (ρ id)= .pointer (some ⟨b,0,none⟩)/\a.eval x= .pointer (some ⟨b,off,none⟩):=hx;exact⟨b,off,h⟩
   |_=>rw[hev]at hp;cases hp
  obtain⟨b,q,hb⟩:=this;exact plain (u0:=a.eval x) (by simp only[execOp,e,hb]) (quiet (by rw[e];rfl))
 ·rename_i op t x y ty e;refine fin (m:=do eqGuard op t x y (a.eval x) (a.eval y);binOp op t (a.eval x) (a.eval y)) ?_ (λ _=>by simp only[execOp,e]) (quiet (by rw[e];rfl));simp only[anT,amY]at hp;rcases hp with⟨h1,h2⟩|⟨h1,h2⟩
  ·obtain⟨k,n,e1⟩:=Jf (R.ev x) h1;obtain⟨k',m,e2⟩:=Jf (R.ev y) h2;rw[e1,e2];exact ak.bind (ak.aky _ _ _ _ _ _ _ _) λ _=>ak.ai2 _ _ _ _ _ _
  ·obtain⟨k,e1⟩:=Tq (R.ev x) h1;obtain⟨k',e2⟩:=Tq (R.ev y) h2;rw[e1,e2];exact ak.bind (ak.eqStr _ _ _ _ _ _) λ _=>ak.ai3 _ _ _ _
 ·rename_i s t x e;refine fin (m:=convert s t (a.eval x)) ?_ (λ _=>by simp only[execOp,e]) (quiet (by rw[e];rfl));simp only[amY]at hp;obtain⟨k,n,e1⟩:=Jf (R.ev x) hp.1;obtain⟨k',hk⟩:=agA hL hp.2;rw[e1];exact ak.agx hk _ _
 ·rename_i t x lo hi e;have h':=h;rw[e]at h';obtain⟨z,u,st',ρ',h1,h2,h3,h4,h5⟩:=IZ hL R (R.ev x) h';refine⟨z,u,st',ρ',h1,h2,h3,λ w'=> ?_⟩;have hval:(∃A n c,a.eval x= .slice A n c)\/(∃s,a.eval x= .string s)\/ ∃A,a.eval x= .pointer (some A):=by
   cases hev:st.ev x with
   |own id=>
    obtain⟨e1,s1,n1,sc1,f1,hfo⟩:=WM hev (h');have hx:=R.ev x;rw[hev]at hx;obtain⟨us,hown,_⟩:=R.objs _ (au hfo);have hxv:=(C2.kE hx).trans (dY hown);rcases hown.2 with⟨hv,_⟩|⟨b,cap,cur,hv,_⟩<;>exact .inl ⟨_,_,_,hxv.trans hv⟩
   |box id k=>
    have hx:=R.ev x;rw[hev]at hx;obtain⟨b,_,hv⟩:=C2.kD hx;exact .inr (.inr ⟨_,hv⟩)
   |_=>exact(Jg (R.ev x) (by rw[hev]at hp⊢;exact hp)).imp_right .inl
  have:=((ak.slice t hval (lo.map a.eval) (hi.map a.eval)) w w' _ _ h4).2;simp only[execOp,e,am',Option.map_none,this,am8,anp]
 ·rename_i t x e;exact fin (ak.arrayAt t (a.eval x)) (λ _=>by simp only[execOp,e]) (quiet (by rw[e];rfl))
 ·rename_i xs ts e;split at hp
  ·rename_i t x e1 e2;have ht:ts= #[t]:=by apply aoX;simpa using e1
   have hx:xs= #[x]:=by apply aoX;simpa using e2
   subst ht hx;refine fin (m:=Builtin.len_ #[t] o.type #[a.eval x]) (ak.len _ _ (Jg (R.ev x) hp)) ?_ (quiet (by rw[e];rfl));simp only[execOp,e,resolve,am',anp,invoke];simp[builtin]
  ·cases hp
 ·cases hp
end
def zN:Op->Option (List Operand)
 | .alloc _=>some []
 | .move x=>some [x]
 | .assign x=>some [x]
 | .box _ x=>some [x]
 | .load _ x=>some [x]
 | .nilCheck x=>some [x]
 | .unOp _ _ x=>some [x]
 | .convert _ _ x=>some [x]
 | .sliceToArrayPointer _ x=>some [x]
 | .fieldAddr _ x _=>some [x]
 | .field _ x _=>some [x]
 | .extract x _=>some [x]
 | .pick c a b=>some [c,a,b]
 | .build _ ps=>some (ps.toList.map (·.2))
 | .buildSlice _ _ ps=>some (ps.toList.map (·.2))
 | .store _ a v=>some [a,v]
 | .binOp _ _ a v _=>some [a,v]
 | .indexAddr _ a v=>some [a,v]
 | .index _ a v=>some [a,v]
 | .slice _ x l h m=>some ([x]++l.toList++h.toList++m.toList)
 | .makeFunc _ f c=>some (f.toList++c.toList)
 | .call {callee:= .builtin _,args:=xs,.. }=>some xs.toList
 | .call {callee:= .value f,args:=xs,.. }=>some (f::xs.toList)
 |_=>none
theorem Qc{o:Op}{l:List Operand}(h:zN o=some l):o.operands.toList=l:=by
 unfold zN at h;split at h<;>simp only[ank,reduceCtorEq]at h<;>subst h<;>simp[Op.operands,Call.operands]
def Tv(d:Nat):List Operand->Bool
 |[]=>false
 | .tmp t::l=>Nat.beq t d||Tv d l
 |_::l=>Tv d l
theorem Jh{d:Nat}:∀{l:List Operand},Tv d l=false-> ∀t,t∈(l.filterMap λ| .tmp t=>some t|_=>none)->t≠d
 |[],_,t,ht=>by simp at ht
 |x::l,h,t,ht=>by
  cases x with
  |tmp t'=>
   simp only[Tv,aoH]at h;simp only[List.filterMap_cons,am4]at ht;rcases ht with rfl|ht
   ·exact λ e=>by rw[e]at h;simp at h
   ·exact Jh h.2 t ht
  |_=>exact Jh (l:=l) h t (by simpa using ht)
def yJ(ops:List Oper)(o:Oper)(d:Nat):Bool:=
 (match zN o.op with|some l=>Tv d l|none=>true)||
 (match o.guard with
  |some (j,_)=>(match ops[j]? with|some oj=>(match oj.dst with|some t=>Nat.beq t d|none=>false)|none=>false)
  |none=>false)
theorem rF{o:Oper}(h:yJ ops o d=false):(o.looksAt ops.toArray).contains d=false:=by
 simp only[yJ,aoH]at h;obtain⟨h1,h2⟩:=h;rw[anw];intro hc;have hm:d∈o.looksAt ops.toArray:=by simpa using hc
 rcases am6.1 hm with hm|hm
 ·cases hl:zN o.op with
  |none=>rw[hl]at h1;cases h1
  |some l=>
   rw[hl]at h1;rw[Qc hl]at hm;exact Jh h1 d hm rfl
 ·cases hg:o.guard with
  |none=>rw[hg]at hm;simp at hm
  |some gd=>
   obtain⟨j,wnt⟩:=gd;rw[hg]at hm h2;simp only[List.getElem?_toArray,Option.mem_toList]at hm;dsimp only at h2;cases hj:ops[j]? with
   |none=>rw[hj]at hm;simp at hm
   |some oj=>
    rw[hj]at hm h2;simp only[ao2]at hm;dsimp only at h2;rw[hm]at h2;simp at h2
def YD(o:Oper)(d:Nat):Bool:=match o.dst with|some t=>Nat.beq t d|none=>false
def apartB(ops:List Oper)(x y:Oper):Bool:=
 (match x.dst with|some d=> !(yJ ops y d)&& !(YD y d)|none=>true)&&
 (match y.dst with|some d=> !(yJ ops x d)|none=>true)
theorem Z4{x y:Oper}(h:apartB ops x y=true):x.apart ops.toArray y=true:=by
 simp only[apartB,amY]at h;obtain⟨h1,h2⟩:=h;unfold Oper.apart;rw[amY];constructor
 ·cases hx:x.dst with
  |none=>rfl
  |some d=>
   rw[hx]at h1;simp only[amY,anB]at h1;dsimp only;rw[rF h1.1];have h3:=h1.2;unfold YD at h3;cases hy:y.dst with
   |none=>rfl
   |some t=>
    rw[hy]at h3;have:t≠d:=λ e=>by rw[e]at h3;simp at h3
    simp[this]
 ·cases hy:y.dst with
  |none=>rfl
  |some d=>
   rw[hy]at h2;simp only[anB]at h2;dsimp only;rw[rF h2];rfl
def lX(k:Nat):List Nat->Bool
 |[]=>false
 |j::l=>Nat.beq j k||lX k l
def Lst(n:Nat)(done:List Nat)(listed:Array Bool):Prop:=listed.size=n/\ ∀k,k<n->listed[k]? =some (lX k done)
theorem Lst.LM(h:Lst n done listed){k:Nat}(hk:k<n)(d:Bool):listed.getD k d=lX k done:=by
 have:=h.2 k hk;rw[Array.getD_eq_getD_getElem?,this];rfl
theorem Lst.set(h:Lst n done listed){i:Nat}(hi:i<n):Lst n (i::done) (listed.setIfInBounds i true):=by
 refine⟨by simp[h.1],λ k hk=> ?_⟩;rw[Array.getElem?_setIfInBounds];by_cases e:i=k
 ·subst e;simp[h.1,hi,lX]
 ·rw[if_neg e,h.2 k hk];simp[lX,beq_false e]
def wG(n:Nat)(done:List Nat):List Edge->Bool
 |[]=>true
 |e::l=>(!(Region.binds .any e)||(Nat.ble (e.on+1) n&&lX e.on done))&&wG n done l
theorem EW{n:Nat}{done:List Nat}{listed:Array Bool}(h:Lst n done listed):∀{l:List Edge},wG n done l=true↔ ∀e∈l,Region.binds .any e=true->listed.getD e.on false=true
 |[]=>by simp[wG]
 |e::l=>by
  simp only[wG,amY,anT,anB,EW h (l:=l),am4,forall_eq_or_imp];refine and_congr ⟨λ h1 hb=> ?_,λ h1=> ?_⟩ Iff.rfl
  ·rcases h1 with h1|⟨h1,h2⟩
   ·rw[hb]at h1;cases h1
   ·rw[h.LM (am7 h1)];exact h2
  ·cases hb:Region.binds .any e with
   |false=>exact .inl rfl
   |true=>
    have h2:=h1 hb;have hlt:e.on<n:=by
     rcases anr e.on n with h'|h'
     ·exact h'
     ·rw[Array.getD_eq_getD_getElem?,aoA (by rw[h.1];exact h')]at h2;cases h2
    exact .inr ⟨an0 hlt,by rw[<-h.LM hlt false];exact h2⟩
def fJ(n:Nat)(done:List Nat):Nat->List Oper->List Nat
 |_,[]=>[]
 |k,o::r=>bif !(lX k done)&&wG n done o.after.toList then k::fJ n done (k+1) r else fJ n done (k+1) r
theorem Gj{n:Nat}{done:List Nat}{j:Nat}:∀{l:List Oper}{k:Nat},j∈fJ n done k l↔ ∃i o,j=k+i/\l[i]? =some o/\lX j done=false/\wG n done o.after.toList=true
 |[],k=>by simp[fJ]
 |o::l,k=>by
  have ih:=Gj (n:=n) (done:=done) (j:=j) (l:=l) (k:=k+1);have key:(∃i o',j=k+i/\(o::l)[i]? =some o'/\lX j done=false/\wG n done o'.after.toList=true)↔(j=k/\lX j done=false/\wG n done o.after.toList=true)\/j∈fJ n done (k+1) l:=by
   rw[ih];constructor
   ·grind
   ·rintro(⟨h1,h3⟩|⟨i,o',h1,h2,h3⟩)
    ·simp_all
    ·exact⟨i+1,o',o_,by simpa using h2,h3⟩
  rw[key];simp only[fJ];cases hb:(!(lX k done)&&wG n done o.after.toList)with
  |true=>
   simp only[amY,anB]at hb;simp only[cond_true,am4];constructor
   ·grind
   ·grind
  |false=>
   constructor
   ·exact .inr
   ·grind
theorem lY(h:Lst ops.length done listed){j:Nat}:j∈Region.ready .any ops.toArray listed↔j∈fJ ops.length done 0 ops:=by
 rw[mem_ready,Gj];constructor
 ·rintro⟨h1,o,h2,h3⟩;have h2:ops[j]? =some o:=by simpa using h2
  have hlt:=(anc.1 h2).1;exact⟨j,o,o_,h2,by rw[<-h.LM hlt true];exact h1,(EW h).2 λ e he=>h3 e (by simpa using he)⟩
 ·rintro⟨i,o,h1,h2,h3,h4⟩;obtain rfl:j=i:=o_
  have hlt:=(anc.1 h2).1;exact⟨by rw[h.LM hlt];exact h3,o,by simpa using h2,λ e he=>(EW h).1 h4 e (by simpa using he)⟩
def Ji(i:Nat):List Edge->Bool
 |[]=>false
 |e::l=>(Region.binds .any e&&Nat.beq e.on i)||Ji i l
theorem EX{i:Nat}:∀{l:List Edge},Ji i l=true-> ∃e∈l,Region.binds .any e=true/\e.on=i
 |[],h=>by cases h
 |e::l,h=>by
  simp only[Ji,anT,amY]at h;rcases h with⟨h1,h2⟩|h
  ·exact⟨e,amW,h1,am3 h2⟩
  ·obtain⟨e',h1,h2⟩:=EX h;exact⟨e',am1 _ h1,h2⟩
def Gl(ops:List Oper)(done:List Nat)(i:Nat)(oi:Oper):Nat->List Oper->Bool
 |_,[]=>true
 |k,o::r=>(Nat.beq k i||lX k done||Ji i o.after.toList||apartB ops oi o)&&Gl ops done i oi (k+1) r
theorem Tz{ops:List Oper}{done:List Nat}{i:Nat}{oi:Oper}:∀{l:List Oper}{k:Nat},Gl ops done i oi k l=true-> ∀(j:Nat)(oj:Oper),l[j]? =some oj->k+j≠i->lX (k+j) done=false->(∀e∈oj.after,Region.binds .any e=true->e.on≠i)->oi.apart ops.toArray oj=true
 |[],k,_,j,oj,hj=>by simp at hj
 |o::l,k,h,j,oj,hj=>by
  simp only[Gl,amY,anT]at h;obtain⟨h1,h2⟩:=h;intro hne hm hw;cases j with
  |zero=>
   simp only[aoh,ank]at hj;subst hj;rcases h1 with((h1|h1)|h1)|h1
   ·exact absurd (am3 h1) (by simpa using hne)
   ·rw[apg]at hm;rw[hm]at h1;cases h1
   ·obtain⟨e,he,hb,hi⟩:=EX h1;exact absurd hi (hw e (by simpa using he) hb)
   ·exact Z4 h1
  |succ j=>
   refine Tz h2 j oj (by simpa using hj) o_ (by rw[show k+1+j=k+(j+1) by omega];exact hm) hw
def yK(N:Nat)(st:AS)(ops:List Oper)(o:Oper):Option Bool:=
 match o.guard with
 |none=>some true
 |some (j,want)=>match ops[j]? with
  |some oj=>(match oj.dst with
   |some dj=>bif Nat.ble (dj+1) N then(match st.tmps dj with| .v (.bool b)=>some (b==want)| .v (.tuple _)=>some false|_=>none)else none
   |none=>none)
  |none=>none
def yL(L:Lay)(N:Nat)(st:AS)(ops:List Oper)(done:List Nat):List Nat->Option Nat
 |[]=>none
 |i::r=>match ops[i]? with
  |some o=>bif (match yK N st ops o with|some true=>yI L st o.op|some false=>true|none=>false)&&Gl ops done i o 0 ops then some i else yL L N st ops done r
  |none=>yL L N st ops done r
def qg(P:Program)(L:Lay)(W:Walk)(N:Nat)(ops:List Oper)(o:Oper)(st:AS)(K:AS->Prop):Prop:=
 match yK N st ops o with
 |some true=>Bc P L W o.dst st o.op (λ x st'=>qE N st' o.dst x K)
 |some false=>qE N st o.dst (.v undef) K
 |none=>False
structure Both(A B:Prop):Prop where
 one:A
 two:B
def Z5(F:Nat->Prop):List Nat->Prop
 |[]=>True
 |[j]=>F j
 |j::l=>Both (F j) (Z5 F l)
theorem TA{F:Nat->Prop}:∀{l:List Nat},Z5 F l-> ∀j∈l,F j
 |[],_,j,hj=>by cases hj
 |[i],h,j,hj=>by rw[amZ.1 hj];exact h
 |i::k::l,h,j,hj=>by
  rcases am4.1 hj with rfl|hj
  ·exact h.one
  ·exact TA h.two j hj
def wI(P:Program)(L:Lay)(W:Walk)(N:Nat)(n:Nat)(ops:List Oper)(Q:AS->Prop):Nat->List Nat->AS->Prop
 |0,done,st=>(match fJ n done 0 ops with|[]=>Q st|_::_=>False)
 |f+1,done,st=>match fJ n done 0 ops with
  |[]=>Q st
  |i::r=>match yL L N st ops done (i::r)with
   |some j=>(match ops[j]? with|some o=>qg P L W N ops o st (wI P L W N n ops Q f (j::done))|none=>False)
   |none=>Z5 (λ j=>match ops[j]? with|some o=>qg P L W N ops o st (wI P L W N n ops Q f (j::done))|none=>False) (i::r)
section
variable{P:Program}{L:Lay}{g:Base}{N:Nat}{bs:List (Array Value)}{ρ:Nat->Value}{a:Act}{w:World}{st:AS}
theorem mX(R:Rel g N bs ρ a w st){ops:List Oper}{o:Oper}{b:Bool}(h:yK N st ops o=some b):Region.wanted o (yielded ops.toArray a.tmps)=b:=by
 obtain⟨dst,op,ty,pos,after,guard⟩:=o;unfold yK at h;cases guard with
 |none=>cases h;rfl
 |some gd=>
  obtain⟨j,want⟩:=gd;dsimp only at h;split at h
  ·rename_i oj hoj;split at h
   ·rename_i dj hdj;cases hb:Nat.ble (dj+1) N with
    |false=>rw[hb]at h;cases h
    |true=>
     rw[hb,cond_true]at h;have hlt:=am7 hb;have hd:=R.tmps dj;have hget:a.tmps[dj]? =some (a.tmps.getD dj undef):=by
      have:dj<a.tmps.size:=by rw[R.size];exact hlt
      simp[this]
     have hops:((ops.toArray[j]?).bind (·.dst))=some dj:=by simp[hoj,hdj]
     split at h
     ·rename_i b' eb;rw[eb]at hd;have hd:=C2.cO hd;have hy:yielded ops.toArray a.tmps j=some b':=by
       unfold yielded;rw[hops];simp only[ao2,hget,hd]
      simp only[ank]at h;simp only[Region.wanted,hy];rw[<-h];cases b'<;>cases want<;>rfl
     ·rename_i vs eb;rw[eb]at hd;have hd:=C2.cO hd;have hy:yielded ops.toArray a.tmps j=none:=by
       unfold yielded;rw[hops];simp only[ao2,hget,hd]
      cases h;simp only[Region.wanted,hy];rfl
     ·cases h
   ·cases h
  ·cases h
theorem Jj{ops:List Oper}{done:List Nat}{j:Nat}:∀{l:List Nat},yL L N st ops done l=some j->j∈l/\ ∃o,ops[j]? =some o/\Gl ops done j o 0 ops=true/\((yK N st ops o=some true/\yI L st o.op=true)\/yK N st ops o=some false)
 |[],h=>by cases h
 |i::r,h=>by
  have rest:yL L N st ops done r=some j->j∈i::r/\ ∃o,ops[j]? =some o/\Gl ops done j o 0 ops=true/\((yK N st ops o=some true/\yI L st o.op=true)\/yK N st ops o=some false):=λ h=>
   ⟨am1 _ (Jj h).1,(Jj h).2⟩
  simp only[yL]at h;cases ho:ops[i]? with
  |none=>rw[ho]at h;exact rest h
  |some o=>
   rw[ho]at h;dsimp only at h;cases hw:yK N st ops o with
   |none=>rw[hw]at h;exact rest h
   |some b=>
    rw[hw]at h;cases b with
    |true=>
     dsimp only at h;cases hb:(yI L st o.op&&Gl ops done i o 0 ops)with
     |false=>rw[hb]at h;exact rest h
     |true=>
      rw[hb]at h;simp only[cond_true,ank]at h;subst h;simp only[amY]at hb;exact⟨amW,o,ho,hb.2,.inl ⟨hw,hb.1⟩⟩
    |false=>
     dsimp only at h;cases hb:(true&&Gl ops done i o 0 ops)with
     |false=>rw[hb]at h;exact rest h
     |true=>
      rw[hb]at h;simp only[cond_true,ank]at h;subst h;simp only[ao7]at hb;exact⟨amW,o,ho,hb,.inr hw⟩
theorem TB(hL:bD P L){W:Walk}(hW:G9 P W){ops:List Oper}(hs:Region.noSelect ops.toArray=true){Q:AS->Prop}{E:Exit->Act->World->Prop}(hE:∀e a w,e≠ .normal-> ¬E e a w)(hQ:∀ρ a w st,Rel g N bs ρ a w st->Q st->E .normal a w):
 ∀(f:Nat){done:List Nat}{listed:Array Bool}{ρ:Nat->Value}{a:Act}{w:World}{st:AS},Lst ops.length done listed->Rel g N bs ρ a w st->wI P L W N ops.length ops Q f done st->wpAny P .any ops.toArray E f listed a w
 |0,done,listed,ρ,a,w,st,hl,R,h=>by
  simp only[wI]at h;split at h
  ·rename_i e;refine⟨?_,hQ _ _ _ _ R h⟩;cases hr:Region.ready .any ops.toArray listed with
   |nil=>rfl
   |cons j r=>
    have:j∈fJ ops.length done 0 ops:=(lY hl).1 (by rw[hr];exact amW);rw[e]at this;cases this
  ·exact h.elim
 |f+1,done,listed,ρ,a,w,st,hl,R,h=>by
  have ih:= @TB hL W hW ops hs Q E hE hQ f;simp only[wI]at h;split at h
  ·rename_i e;have hr:Region.ready .any ops.toArray listed=[]:=by
    cases hr:Region.ready .any ops.toArray listed with
    |nil=>rfl
    |cons j r=>
     have:j∈fJ ops.length done 0 ops:=(lY hl).1 (by rw[hr];exact amW);rw[e]at this;cases this
   exact wpAny_done hr (hQ _ _ _ _ R h) _
  ·rename_i i r e;have hne:Region.ready .any ops.toArray listed≠[]:=λ h0=>by
    have:i∈Region.ready .any ops.toArray listed:=(lY hl).2 (by rw[e];exact amW);rw[h0]at this;cases this
   split at h
   ·rename_i j hp;obtain⟨hm,o,ho,hf,hw⟩:=Jj hp;rw[ho]at h;dsimp only at h;have hlt:j<ops.length:=(anc.1 ho).1;have hr:j∈Region.ready .any ops.toArray listed:=(lY hl).2 (by rw[e];exact hm);have hoA:ops.toArray[j]? =some o:=by simpa using ho
    have hfree:∀j' oj,ops.toArray[j']? =some oj->j'≠j->listed.getD j' true=false->(∀e∈oj.after,Region.binds .any e=true->e.on≠j)->o.apart ops.toArray oj=true:=by
     intro j' oj h1 h2 h3 h4;have h1':ops[j']? =some oj:=by simpa using h1
     have hlt':j'<ops.length:=(anc.1 h1').1;refine Tz hf j' oj h1' o_ ?_ h4;rw[anZ,<-hl.LM hlt' true];exact h3
    have take:∀{v:Value},Yields P ops.toArray o v a->wpAny P .any ops.toArray E f (listed.setIfInBounds j true) (a.put o.dst v) w->wpAny P .any ops.toArray E (f+1) listed a w:=
     λ hy H=>wpAny_first hoA (Region.noSelect_spec hs) (λ c a w h=>absurd h (hE _ _ _ s_)) f listed a w hfree hr hy H
    unfold qg at h;rcases hw with⟨hw,hpu⟩|hw
    ·rw[hw]at h;dsimp only at h;have go:∀d,Wj P L W d st o.op (λ x st'=>qE N st' o.dst x (wI P L W N ops.length ops Q f (j::done)))->wpAny P .any ops.toArray E (f+1) listed a w:=by
      intro d hd;obtain⟨x,u,st',ρ',h1,R1,h2,h3⟩:=Tt hL R hpu hd;obtain⟨st2,k2,R2⟩:=gV R1 h2 h1;exact take (.inl ⟨mX R hw,h3⟩) (ih (hl.set hlt) R2 k2)
     unfold Bc at h;cases hd:o.dst with
     |none=>rw[hd]at h;dsimp only at h;exact go 0 (by rw[hd];exact h)
     |some d=>rw[hd]at h;dsimp only at h;exact go d (by rw[hd];exact h)
    ·rw[hw]at h;dsimp only at h;obtain⟨st2,k2,R2⟩:=gV R (show C2 (aA g w ρ st.heap) (.v undef) undef from rfl) h;exact take (.inr ⟨mX R hw,rfl⟩) (ih (hl.set hlt) R2 k2)
   ·rw[<-e]at h;refine⟨λ h0=>absurd h0 hne,λ j hj=> ?_⟩;have hjm:=(lY hl).1 hj;have hF:=TA h j hjm;cases ho:ops[j]? with
    |none=>rw[ho]at hF;exact hF.elim
    |some o=>
     rw[ho]at hF;dsimp only at hF;have hlt:j<ops.length:=(anc.1 ho).1;have hoA:ops.toArray[j]? =some o:=by simpa using ho
     unfold wpOp;rw[hoA];dsimp only;unfold qg at hF;split at hF
     ·rename_i hw;rw[mX R hw];simp only[if_true];refine .inl ?_;have go:∀d,Wj P L W d st o.op (λ x st'=>qE N st' o.dst x (wI P L W N ops.length ops Q f (j::done)))->o.wp P a w (wpAny P .any ops.toArray E f (listed.setIfInBounds j true)) E:=by
       intro d hd;refine Ht hL hW R (d:=d) hd ?_;intro x st' u ρ' w' hx R' hc;obtain⟨st2,h2,R2⟩:=gV R' hc hx;exact ih (hl.set hlt) R2 h2
      unfold Bc at hF;cases hd:o.dst with
      |none=>rw[hd]at hF;dsimp only at hF;exact go 0 (by rw[hd];exact hF)
      |some d=>rw[hd]at hF;dsimp only at hF;exact go d (by rw[hd];exact hF)
     ·rename_i hw;rw[mX R hw];simp only[anV,if_false];obtain⟨st2,k2,R2⟩:=gV R (show C2 (aA g w ρ st.heap) (.v undef) undef from rfl) hF;exact ih (hl.set hlt) R2 k2
     ·exact hF.elim
theorem fU.any(hL:bD P L){W:Walk}(hW:G9 P W){id:Nat}{ops:Array Oper}{K:AS->Prop}{st:AS}(hm:P.follows .mixedOrders=true)(hs:Region.noSelect ops=true)(h:wI P L W N ops.toList.length ops.toList K ops.toList.length [] st):fU P L W N id ops K st:=by
 refine .sem λ g bs ρ a w E R hK=> ?_;refine Code.wp_mono (Q:=λ e a w=>e= .normal/\E .normal a w) (λ e a w h=>by obtain⟨rfl,h⟩:=h;exact h) ?_;have e1:ops.size=ops.toList.length:=s_
 refine wp_region_any hm ?_;have hl:Lst ops.toList.length [] (Array.replicate ops.size false):=by
  refine⟨s_,λ k hk=> ?_⟩;rw[Array.getElem?_replicate,if_pos (by rw[e1];exact hk)];rfl
 have R':=R.world (aob _ _).drew;have:=TB (g:=g) (bs:=bs) (N:=N) hL hW (by simpa using hs) (Q:=K) (E:=λ e a w=>e= .normal/\E .normal a w) (λ e a w hne h=>hne h.1) (λ ρ a w st R h=>⟨rfl,hK ρ a w st R h⟩) ops.toList.length hl R' h;simpa using this
theorem fU.cut(hL:bD P L){W:Walk}(hW:G9 P W){id:Nat}{ops:Array Oper}{K:AS->Prop}{st:AS}(S:AS)(hm:P.follows .mixedOrders=true)(hs:Region.noSelect ops=true)(h:wI P L W N ops.toList.length ops.toList (λ st'=>Iw st' S) ops.toList.length [] st)(hK:K S):fU P L W N id ops K st:=by
 have:=fU.any (P:=P) (L:=L) (id:=id) hL hW hm hs h;cases this with
 |quiet hm hB hq h=>
  refine .sem λ g bs ρ a w E R hE=> ?_;refine wp_region_quiet (C:=λ w'=>w'=w.drew) hm hB rfl ?_;have R':=R.world (aob _ _).drew;exact uT hL (ops:=ops.toList) (λ a w1 st R h=>hE _ _ _ _ (R.less h) hK) ops.toList hq R' h
 |sem h=>exact .sem λ g bs ρ a w E R hE=>h g bs ρ a w E R λ ρ a w st R h=>hE _ _ _ _ (R.less h) hK
end
def WO(P:Program)(L:Lay)(W:Walk)(N:Nat)(n:Nat)(ops:List Oper)(Q:AS->Prop):Nat->List Nat->AS->Prop
 |0,_,st=>Q st
 |f+1,done,st=>match fJ n done 0 ops with
  |[]=>Q st
  |i::r=>match yL L N st ops done (i::r)with
   |some j=>(match ops[j]? with|some o=>qg P L W N ops o st (WO P L W N n ops Q f (j::done))|none=>False)
   |none=>(match ops[i]? with|some o=>qg P L W N ops o st (WO P L W N n ops Q f (i::done))|none=>False)
def slotsOf(st:AS)(N:Nat):Nat->Nat->(List (Nat×AV)->Prop)->Prop
 |0,_,K=>K []
 |f+1,k,K=>bif Nat.ble N k then K []else match st.tmps k with
  | .junk=>slotsOf st N f (k+1) K
  | .v (.tuple _)=>slotsOf st N f (k+1) K
  | .v x=>slotsOf st N f (k+1) (λ l=>K ((k,.v x)::l))
  | .agg cs=>slotsOf st N f (k+1) (λ l=>K ((k,.agg cs)::l))
  | .aZ vs=>slotsOf st N f (k+1) (λ l=>K ((k,.aZ vs)::l))
  | .sl s m sc g=>slotsOf st N f (k+1) (λ l=>K ((k,.sl s m sc g)::l))
  | .own i=>slotsOf st N f (k+1) (λ l=>K ((k,.own i)::l))
  | .dn i s j m=>slotsOf st N f (k+1) (λ l=>K ((k,.dn i s j m)::l))
  | .jB i s j m=>slotsOf st N f (k+1) (λ l=>K ((k,.jB i s j m)::l))
  | .box i m=>slotsOf st N f (k+1) (λ l=>K ((k,.box i m)::l))
  | .cf g i m=>slotsOf st N f (k+1) (λ l=>K ((k,.cf g i m)::l))
  | .el cs m=>slotsOf st N f (k+1) (λ l=>K ((k,.el cs m)::l))
  | .fn g cs=>slotsOf st N f (k+1) (λ l=>K ((k,.fn g cs)::l))
theorem Bq{st:AS}{N:Nat}:∀{f k:Nat}{K:List (Nat×AV)->Prop},slotsOf st N f k K-> ∃l,K l
 |0,_,_,h=>⟨[],h⟩
 |f+1,k,K,h=>by
  simp only[slotsOf]at h;cases hb:Nat.ble N k with
  |true=>rw[hb]at h;exact⟨[],h⟩
  |false=>
   rw[hb]at h;simp only[cond_false]at h;split at h<;>(obtain⟨l,hl⟩:=Bq h;exact⟨_,hl⟩)
def DC(st:AS):List (Nat×AV)->List AV
 |[]=>[]
 |p::l=>st.tmps p.1::DC st l
def valsOf:List (Nat×AV)->List AV
 |[]=>[]
 |p::l=>p.2::valsOf l
def Qd(st:AS):List (Nat×AO)->List (Option AO)
 |[]=>[]
 |p::l=>aG p.1 st.heap::Qd st l
def Qe:List (Nat×AO)->List (Option AO)
 |[]=>[]
 |p::l=>some p.2::Qe l
theorem EY{st:AS}:∀{l:List (Nat×AV)},DC st l=valsOf l-> ∀t,sQ l t= .junk\/dJ (st.tmps t) (sQ l t)
 |[],_,t=> .inl rfl
 |p::l,h,t=>by
  simp only[DC,valsOf,aoV]at h;simp only[sQ];cases hb:Nat.beq t p.1 with
  |true=>
   obtain rfl:=am3 hb;rw[h.1];exact .inr (dJ.refl _)
  |false=>exact EY h.2 t
theorem TD{st:AS}:∀{l:List (Nat×AO)},Qd st l=Qe l-> ∀p∈l,∃o,aG p.1 st.heap=some o/\dK o p.2
 |[],_,p,hp=>by cases hp
 |q::l,h,p,hp=>by
  simp only[Qd,Qe,aoV]at h;rcases am4.1 hp with rfl|hp
  ·exact⟨_,h.1,dK.refl _⟩
  ·exact TD h.2 p hp
def WQ(F:Nat):List (List (Nat×AV))->(List (List (Nat×AV))->Prop)->Prop
 |[],K=>K []
 |f::fs,K=>slotsOf ⟨f,[],[],0⟩ F F 0 (λ l=>WQ F fs (λ ls=>K (l::ls)))
theorem Nj{F:Nat}:∀{fs:List (List (Nat×AV))}{K:List (List (Nat×AV))->Prop},WQ F fs K-> ∃ls,K ls
 |[],_,h=>⟨[],h⟩
 |f::fs,K,h=>by
  obtain⟨l,h⟩:=Bq h;obtain⟨ls,h⟩:=Nj h;exact⟨_,h⟩
def Qg:List (List (Nat×AV))->List (List (Nat×AV))->List (List AV)
 |[],[]=>[]
 |f::fs,l::ls=>DC ⟨f,[],[],0⟩ l::Qg fs ls
 |_::_,[]=>[[]]
 |[],_::_=>[[]]
def DF:List (List (Nat×AV))->List (List AV)
 |[]=>[]
 |l::ls=>valsOf l::DF ls
def yM:List (Nat×AO)->(List (Nat×AO)->Prop)->Prop
 |[],K=>K []
 |p::l,K=>match p.2 with
  | .box t cs=>yM l (λ h=>K ((p.1,.box t cs)::h))
  | .row e s n sc f=>yM l (λ h=>K ((p.1,.row e s n sc f)::h))
  | .mp t ks rs=>yM l (λ h=>K ((p.1,.mp t ks rs)::h))
  | .obs o=>yM l (λ h=>K ((p.1,.obs o)::h))
  | .rn e cs=>yM l (λ h=>K ((p.1,.rn e cs)::h))
theorem Nk:∀{l:List (Nat×AO)}{K:List (Nat×AO)->Prop},yM l K-> ∃h,K h
 |[],_,h=>⟨[],h⟩
 |p::l,K,h=>by
  simp only[yM]at h;split at h<;>(obtain⟨l,h⟩:=Nk h;exact⟨_,h⟩)
inductive LeC(st:AS)(l:List (Nat×AV))(h:List (Nat×AO))(ls:List (List (Nat×AV))):Prop where
 |mk (hl:st.back.length=ls.length) (hb:Qg st.back ls=DF ls) (hn:nodupB (h.map (·.1))=true) (ht:DC st l=valsOf l) (hh:Qd st h=Qe h):LeC st l h ls
theorem TF:∀{fs:List (List (Nat×AV))}{ls:List (List (Nat×AV))},fs.length=ls.length->Qg fs ls=DF ls->qF fs ls
 |[],[],_,_=>trivial
 |f::fs,l::ls,hl,h=>by
  simp only[Qg,DF,aoV]at h;exact⟨EY (st:=⟨f,[],[],0⟩) h.1,TF (by simpa using hl) h.2⟩
 |[],_::_,hl,_=>by simp at hl
 |_::_,[],hl,_=>by simp at hl
theorem LeC.les{b:Nat}{l:List (Nat×AV)}{hs:List (Nat×AO)}{ls:List (List (Nat×AV))}(h:LeC st l hs ls):Iw st ⟨l,hs,ls,b⟩:=by
 obtain⟨hl,hb,hn,ht,hh⟩:=h;exact⟨EY ht,TD hh,nT hn,TF hl hb⟩
section
variable{P:Program}{L:Lay}{g:Base}{N:Nat}{bs:List (Array Value)}{ρ:Nat->Value}{a:Act}{w:World}{st:AS}
theorem adb{o:Oper}{G:Prop}(h:o.wp P a w (λ _ _=>G) (λ _ _ _=>G)):G:=by
 unfold Oper.wp at h;cases e:(execOp a.eval o).run P w with
 |ok n w'=>
  rw[e]at h;cases n<;>simp only[Oper.upon]at h;all_goals first
    |exact h
    |exact h.elim
    |(obtain⟨v,w'',r,_⟩:=h default [];exact r)
    |(obtain⟨en,w'',fr,r,_⟩:=h []
      cases en with
      |returned v=>exact r
      |panicked c=>exact r
      |outgrown=>obtain⟨_,_,r⟩:=r;exact r)
 |halt x w'=>
  rw[e]at h;cases x<;>simp only[Oper.upon]at h;exact h
theorem YE(hL:bD P L){W:Walk}(hW:G9 P W){ops:List Oper}{Q:AS->Prop}:∀(f:Nat){done:List Nat}{ρ:Nat->Value}{a:Act}{w:World}{st:AS},Rel g N bs ρ a w st->WO P L W N ops.length ops Q f done st-> ∃S,Q S
 |0,done,ρ,a,w,st,R,h=>⟨st,h⟩
 |f+1,done,ρ,a,w,st,R,h=>by
  have ih:= @YE hL W hW ops Q f;have step:∀{o:Oper}{d:List Nat},qg P L W N ops o st (WO P L W N ops.length ops Q f d)-> ∃S,Q S:=by
   intro o d h;unfold qg at h;split at h
   ·have go:∀k,Wj P L W k st o.op (λ x st'=>qE N st' o.dst x (WO P L W N ops.length ops Q f d))-> ∃S,Q S:=by
     intro k hk;refine adb (P:=P) (o:=o) (a:=a) (w:=w) (Ht hL hW R (d:=k) hk ?_);intro x st' u ρ' w' hx R' hc;obtain⟨st2,h2,R2⟩:=gV R' hc hx;exact ih R2 h2
    unfold Bc at h;cases hd:o.dst with
    |none=>rw[hd]at h;dsimp only at h;exact go 0 (by rw[hd];exact h)
    |some k=>rw[hd]at h;dsimp only at h;exact go k (by rw[hd];exact h)
   ·obtain⟨st2,k2,R2⟩:=gV R (show C2 (aA g w ρ st.heap) (.v undef) undef from rfl) h;exact ih R2 k2
   ·exact h.elim
  simp only[WO]at h;split at h
  ·exact⟨st,h⟩
  ·split at h
   ·split at h
    ·exact step h
    ·exact h.elim
   ·split at h
    ·exact step h
    ·exact h.elim
theorem fU.lex(F:Nat)(hL:bD P L){W:Walk}(hW:G9 P W){id:Nat}{ops:Array Oper}{K:AS->Prop}{st:AS}(hm:P.follows .mixedOrders=true)(hs:Region.noSelect ops=true)
  (h:WO P L W N ops.toList.length ops.toList (λ S=>slotsOf S N 400 0 λ l=>yM S.heap λ hs=>WQ F S.back λ ls=>Both (wI P L W N ops.toList.length ops.toList (λ st'=>LeC st' l hs ls) ops.toList.length [] st) (K ⟨l,hs,ls,S.base⟩)) ops.toList.length [] st):fU P L W N id ops K st:=by
 refine .sem λ g bs ρ a w E R hE=> ?_;obtain⟨S,h1⟩:=YE hL hW ops.toList.length R h;obtain⟨l,h1⟩:=Bq h1;obtain⟨hs',h1⟩:=Nk h1;obtain⟨ls,h1,hK⟩:=Nj h1;have:=fU.any (P:=P) (L:=L) (id:=id) hL hW hm hs h1;cases this with
 |quiet hm hB hq h=>
  refine wp_region_quiet (C:=λ w'=>w'=w.drew) hm hB rfl ?_;have R':=R.world (aob _ _).drew;exact uT hL (ops:=ops.toList) (λ a w1 st R h=>hE _ _ _ _ (R.less h.les) hK) ops.toList hq R' h
 |sem h=>exact h g bs ρ a w E R λ ρ a w st R h=>hE _ _ _ _ (R.less h.les) hK
end
section
variable{P:Program}{ops:Array Oper}{Q:Exit->Act->World->Prop}{T:List (Nat×List Nat)}
def YieldsAt(P:Program)(ops:Array Oper)(o:Oper)(v:Value)(a:Act)(w:World):Prop:=
 (Region.wanted o (yielded ops a.tmps)=true/\(execOp a.eval o).run P w= .ok (.value v) w)\/(Region.wanted o (yielded ops a.tmps)=false/\v=undef)
theorem YieldsAt.of_same{o:Oper}{v:Value}{a a':Act}{w:World}(hy:YieldsAt P ops o v a w)(he:execOp a'.eval o=execOp a.eval o)(hw:Region.wanted o (yielded ops a'.tmps)=Region.wanted o (yielded ops a.tmps)):YieldsAt P ops o v a' w:=by
 unfold YieldsAt at*;rw[he,hw];exact hy
theorem YieldsAt.put{o:Oper}{v:Value}{a:Act}{w:World}(hs:∀cs b,o.op≠ .select cs b){dst:Option Tmp}{u:Value}(h:∀d,dst=some d->d ∉ o.looksAt ops):YieldsAt P ops o v (a.put dst u) w↔YieldsAt P ops o v a w:=by
 have e1:=execOp_put o hs a dst u h;have e2:=wanted_put o a dst u h;unfold YieldsAt;rw[e1,e2]
theorem YieldsAt.wpOp{i:Nat}{o:Oper}{v:Value}{a:Act}{w:World}(hi:ops[i]? =some o)(hy:YieldsAt P ops o v a w){K:Act->World->Prop}(h:K (a.put o.dst v) w):wpOp P ops Q i K a w:=by
 unfold Go.wpOp;simp only[hi];rcases hy with⟨hw,hv⟩|⟨hw,rfl⟩
 ·simp only[hw,if_true,Oper.wp,hv,Oper.upon];exact .inl h
 ·simp only[hw,anV,if_false];exact h
def alive(T:List (Nat×List Nat))(listed:Array Bool)(p:Nat):Prop:= ∀k l,(k,l)∈T->listed.getD k false=true->p ∉ l
def YF(P:Program)(ops:Array Oper)(T:List (Nat×List Nat))(listed:Array Bool)(pend:List (Nat×Value))(a:Act)(w:World):Prop:=
 ∀p∈pend,alive T listed p.1-> ∀o,ops[p.1]? =some o->YieldsAt P ops o p.2 a w
def jE(P:Program)(ops:Array Oper)(Q:Exit->Act->World->Prop)(T:List (Nat×List Nat)):Nat->Array Bool->List (Nat×Value)->Act->World->Prop
 |0,listed,_,a,w=>Region.ready .any ops listed=[]/\Q .normal a w
 |f+1,listed,pend,a,w=>(Region.ready .any ops listed=[]->Q .normal a w)/\ ∀j∈Region.ready .any ops listed,wpOp P ops Q j (λ a' w'=>YF P ops T (listed.setIfInBounds j true) pend a' w'/\jE P ops Q T f (listed.setIfInBounds j true) pend a' w') a w
theorem jE.less:∀{f:Nat}{listed:Array Bool}{pend aip:List (Nat×Value)}{a:Act}{w:World},(∀p∈aip,p∈pend)->jE P ops Q T f listed pend a w->jE P ops Q T f listed aip a w
 |0,_,_,_,_,_,_,h=>h
 |_+1,_,_,_,_,_,hs,h=>⟨h.1,λ j hj=>wpOp_mono (λ _ _ k=>⟨λ p hp=>k.1 p (hs p hp),jE.less hs k.2⟩) (h.2 j hj)⟩
theorem jE.any:∀{f:Nat}{listed:Array Bool}{pend:List (Nat×Value)}{a:Act}{w:World},jE P ops Q T f listed pend a w->wpAny P .any ops Q f listed a w
 |0,_,_,_,_,h=>h
 |_+1,_,_,_,_,h=>⟨h.1,λ j hj=>wpOp_mono (λ _ _ k=>jE.any k.2) (h.2 j hj)⟩
def Closed(T:List (Nat×List Nat))(listed:Array Bool):Prop:= ∀k l,(k,l)∈T->listed.getD k false=true-> ∀p∈l,listed.getD p false=true
theorem Z7{j:Nat}{oi oj:Oper}{v:Value}(hj:ops[j]? =some oj)(h1:∀d,oi.dst=some d->d ∉ oj.looksAt ops)(h2:∀d,oi.dst=some d->oj.dst≠some d)
  (hsj:∀cs b,oj.op≠ .select cs b)(hQ:∀c a w,Q (.panic c) (a.put oi.dst v) w->Q (.panic c) a w){K:Act->World->Prop}{a:Act}{w:World}
  (h:wpOp P ops Q j K (a.put oi.dst v) w):wpOp P ops Q j (λ a' w'=>K (a'.put oi.dst v) w') a w:=by
 unfold wpOp at*;simp only[hj]at*;rw[wanted_put oj a oi.dst v h1]at h;split
 ·rename_i hw;simp only[hw]at h;rcases h with h|⟨hasks,hlets⟩;case inr=>exact .inr ⟨by unfold Oper.asks at*;rw[execOp_put oj hsj a oi.dst v h1]at hasks;exact hasks,hlets⟩
  refine .inl ?_;unfold Oper.wp at*;rw[execOp_put oj hsj a oi.dst v h1]at h;generalize(execOp a.eval oj).run P w=r at*;cases r with
  |ok n w'=>
   cases n<;>simp only[Oper.upon]at h⊢;case value u=>rw[<-Act.put_comm a v u h2];exact h
   case skip=>rw[<-Act.put_comm a v undef h2];exact h
   case defer d=>
    rw[<-Act.put_comm _ v undef h2,<-Act.put_defers];exact h
   case enter f args=>
    refine Calls.mono h λ e w'' he=> ?_;cases e with
    |returned u=>dsimp only at he⊢;rw[<-Act.put_comm a v u h2];exact he
    |panicked c=>exact hQ _ _ _ he
    |outgrown=>exact he
   case row row args=>exact Rows.mono h λ u w'' he=>by rw[<-Act.put_comm a v u h2];exact he
  |halt x w'=>
   cases x<;>simp only[Oper.upon]at h⊢;case panic u=>exact hQ _ _ _ h
 ·rename_i hw;simp only[hw]at h;rw[<-Act.put_comm a v undef h2];exact h
def WR(pu:Bool)(x:Nat×Value)(pend:List (Nat×Value)):List (Nat×Value):=match pu with|true=>pend|false=>x::pend
def Nl(ops:Array Oper)(listed:Array Bool)(pend:List (Nat×Value)):Prop:=
 ∀p∈pend,∀o,ops[p.1]? =some o-> ∀k ok,ops[k]? =some ok->listed.getD k true=false-> ∀d,ok.dst=some d->d ∉ o.looksAt ops
theorem Qh{i:Nat}{oi:Oper}{v:Value}(hi:ops[i]? =some oi)(hsel:∀(j:Nat)(o:Oper) cs b,ops[j]? =some o->o.op≠ .select cs b)
  (hQ:∀c a w,Q (.panic c) (a.put oi.dst v) w->Q (.panic c) a w)(hT:∀l,(i,l)∈T->False){U:List (Nat×List Nat)}(hTU:∀x∈T,x∈U)(hTr:∀(k:Nat)(l:List Nat)(listed:Array Bool),(k,l)∈U->Closed U listed->k∈Region.ready .any ops listed-> ∀p∈l,listed.getD p false=true)(pu:Bool):
  ∀ (fuel:Nat)(listed:Array Bool)(pend:List (Nat×Value))(a:Act)(w:World),
   (∀j oj,ops[j]? =some oj->j≠i->listed.getD j true=false->(∀d,oi.dst=some d->oj.dst≠some d)/\((∀e∈oj.after,Region.binds .any e=true->e.on≠i)->(∀d,oj.dst=some d->d ∉ oi.looksAt ops)/\ ∀d,oi.dst=some d->d ∉ oj.looksAt ops))->
   (∀d,oi.dst=some d->d ∉ oi.looksAt ops)->
   i∈Region.ready .any ops listed->Closed U listed->Nl ops listed pend->YF P ops T listed pend a w->YieldsAt P ops oi v a w->(pu=true->Yields P ops oi v a)->
   jE P ops Q T fuel (listed.setIfInBounds i true) (WR pu (i,v) pend) (a.put oi.dst v) w->jE P ops Q T (fuel+1) listed pend a w:=by
 intro fuel;have hsub:∀(pend:List (Nat×Value)),∀p∈pend,p∈(WR pu (i,v) pend):=by
  intro pend p hp;cases pu
  ·exact am1 _ hp
  ·exact hp
 have self:∀(listed:Array Bool)(pend:List (Nat×Value))(a:Act)(w:World),i∈Region.ready .any ops listed->Nl ops listed pend->YF P ops T listed pend a w->YF P ops T (listed.setIfInBounds i true) pend (a.put oi.dst v) w:=by
  intro listed pend a w hr hB hO p hp hal o ho;have hal':alive T listed p.1:=λ k l hk hl=>hal k l hk (getD_set_true hl);have:=hO p hp hal' o ho;exact(YieldsAt.put (λ cs b=>hsel _ _ cs b ho) λ d hd=>hB p hp o ho i oi hi (mem_ready.1 hr).1 d hd).2 this
 induction fuel with
 |zero=>
  intro listed pend a w _ _ hr _ hB hO hy _ H;refine⟨λ h=>(by rw[h]at hr;cases hr),λ j hj=> ?_⟩;by_cases hji:j=i
  ·subst hji;exact hy.wpOp hi ⟨self listed pend a w hr hB hO,jE.less (hsub pend) H⟩
  ·have:=ready_mono hj hji;rw[H.1]at this;cases this
 |succ fuel ih=>
  intro listed pend a w hfree hself hr hC hB hO hy hpu H;refine⟨λ h=>(by rw[h]at hr;cases hr),λ j hj=> ?_⟩;by_cases hji:j=i
  ·subst hji;exact hy.wpOp hi ⟨self listed pend a w hr hB hO,jE.less (hsub pend) H⟩
  ·have h1:=H.2 j (ready_mono hj hji);obtain⟨hjun,oj,hoj,hall⟩:=mem_ready.1 hj;have alJ:=(mem_ready.1 hr).1;have YG:listed.getD i false=false:=by
    rcases anr i listed.size with h'|h'
    ·grind
    ·grind
   have hnot:∀e∈oj.after,Region.binds .any e=true->e.on≠i:=λ e he hb heq=>by
    have h1:=hall e he hb;rw[heq,YG]at h1;cases h1
   obtain⟨f2,f3⟩:=hfree j oj hoj hji hjun;obtain⟨f1,hb3⟩:=f3 hnot;have uV:Closed U (listed.setIfInBounds j true):=by
    intro k l hk hl p hp;by_cases hkj:k=j
    ·subst hkj;exact getD_set_true (hTr k l listed hk hC hj p hp)
    ·rw[getD_set_ne false (apn hkj)]at hl;exact getD_set_true (hC k l hk hl p hp)
   have agB:Nl ops (listed.setIfInBounds j true) pend:=λ p hp o ho k ok hk hun d hd=>by
    refine hB p hp o ho k ok hk ?_ d hd;by_cases hkj:j=k
    ·simp_all
    ·simp_all
   have h2:=Z7 hoj hb3 f2 (λ cs b=>hsel j oj cs b hoj) hQ h1;have ade:∀p,alive T (listed.setIfInBounds j true) p->alive T ((listed.setIfInBounds i true).setIfInBounds j true) p:=by
    intro p hal k l hk hl;by_cases hki:k=i
    ·grind
    ·refine hal k l hk ?_;rw[Array.setIfInBounds_comm _ _ (apn hji),getD_set_ne false (apn hki)]at hl;exact hl
   have agC:alive T ((listed.setIfInBounds i true).setIfInBounds j true) i:=by
    refine ade i λ k l hk hl hin=> ?_;have h0:=uV k l (hTU _ hk) hl i hin;rw[getD_set_ne false hji,YG]at h0;cases h0
   have hfree':∀k ok,ops[k]? =some ok->k≠i->(listed.setIfInBounds j true).getD k true=false->(∀d,oi.dst=some d->ok.dst≠some d)/\((∀e∈ok.after,Region.binds .any e=true->e.on≠i)->(∀d,ok.dst=some d->d ∉ oi.looksAt ops)/\ ∀d,oi.dst=some d->d ∉ ok.looksAt ops):=λ k ok hk hki hun=>by
    refine hfree k ok hk hki ?_;by_cases hjk:j=k
    ·grind
    ·simp_all
   have fin:∀(a':Act)(w':World),(pu=true->Yields P ops oi v a')->(YF P ops T ((listed.setIfInBounds i true).setIfInBounds j true) (WR pu (i,v) pend) (a'.put oi.dst v) w'/\jE P ops Q T fuel ((listed.setIfInBounds i true).setIfInBounds j true) (WR pu (i,v) pend) (a'.put oi.dst v) w')->
     YF P ops T (listed.setIfInBounds j true) pend a' w'/\jE P ops Q T (fuel+1) (listed.setIfInBounds j true) pend a' w':=by
    rintro a' w' yN ⟨k1,k2⟩;have kO:YF P ops T (listed.setIfInBounds j true) pend a' w':=by
     intro p hp hal o ho;have:=k1 p (hsub pend p hp) (ade p.1 hal) o ho;exact(YieldsAt.put (λ cs b=>hsel _ _ cs b ho) λ d hd=>hB p hp o ho i oi hi alJ d hd).1 this
    refine⟨kO, ?_⟩;have hyi:YieldsAt P ops oi v a' w':=by
     cases hp:pu with
     |true=>
      rcases yN hp with⟨q1,q2⟩|q
      ·exact .inl ⟨q1,q2 w'⟩
      ·exact .inr q
     |false=>
      rw[hp]at k1;exact(YieldsAt.put (λ cs b=>hsel _ _ cs b hi) hself).1 (k1 (i,v) amW agC oi hi)
    refine ih (listed.setIfInBounds j true) pend a' w' hfree' hself (ready_mono hr (apn hji)) uV agB kO hyi yN ?_;rw[Array.setIfInBounds_comm _ _ hji];exact k2
   cases hp:pu with
   |false=>exact wpOp_mono (λ a' w' h3=>fin a' w' (λ e=>by rw[hp]at e;cases e) h3) h2
   |true=>
    have h2':=wpOp_put hoj (Oper.adf hb3 f2 f1) (λ cs b=>hsel i oi cs b hi) (λ cs b=>hsel j oj cs b hoj) hQ (hpu hp) h1;exact wpOp_mono (λ a' w' h3=>fin a' w' (λ _=>h3.1) h3.2) h2'
where
 Oper.adf {x y:Oper} (h1:∀d,x.dst=some d->d ∉ y.looksAt ops) (h2:∀d,x.dst=some d->y.dst≠some d) (h3:∀d,y.dst=some d->d ∉ x.looksAt ops):x.apart ops y=true:=by
  unfold Oper.apart;rw[amY];constructor
  ·grind
  ·grind
end
def Qi(p:Nat):List Edge->Bool
 |[]=>false
 |e::l=>(Region.binds .any e&&Nat.beq e.on p)||Qi p l
def Hy(U:List (Nat×List Nat))(p:Nat):List Edge->Bool
 |[]=>false
 |e::l=>(Region.binds .any e&&U.any (λ x=>Nat.beq x.1 e.on&&lX p x.2))||Hy U p l
def adg(ops:List Oper)(U:List (Nat×List Nat)):Bool:=
 U.all λ x=>match ops[x.1]? with|some o=>x.2.all λ p=>Qi p o.after.toList||Hy U p o.after.toList|none=>false
def Qj(ops:List Oper)(done:List Nat)(i:Nat)(oi:Oper):Nat->List Oper->Bool
 |_,[]=>true
 |k,o::r=>(Nat.beq k i||lX k done||((match oi.dst with|some d=> !(YD o d)|none=>true)&&(Ji i o.after.toList||((match o.dst with|some d=> !(yJ ops oi d)|none=>true)&&(match oi.dst with|some d=> !(yJ ops o d)|none=>true)))))&&Qj ops done i oi (k+1) r
def Bv(ops:List Oper)(done:List Nat)(i:Nat)(oi:Oper):Nat->List Oper->Bool
 |_,[]=>true
 |k,o::r=>(Nat.beq k i||lX k done||(match o.dst with|some d=> !(yJ ops oi d)|none=>true))&&Bv ops done i oi (k+1) r
def adh:Op->Bool
 | .move _=>true
 | .assign _=>true
 | .pick .. =>true
 | .extract .. =>true
 | .fieldAddr .. =>true
 | .indexAddr .. =>true
 | .unOp .. =>true
 | .build .. =>true
 |_=>false
def Bz:List (Nat×Option (List Nat))->List (Nat×List Nat)
 |[]=>[]
 |(i,some l)::r=>(i,l)::Bz r
 |(_,none)::r=>Bz r
def adi(i:Nat):List Nat->Bool
 |[k]=>Nat.beq k i
 |_=>false
def acH:List Nat->Bool
 |[]=>true
 |_=>false
def WS(ops:List Oper)(T:List (Nat×List Nat)):List (Nat×Option (List Nat))->List Nat->Bool
 |[],done=>acH (fJ ops.length done 0 ops)
 |(i,none)::r,done=>(match ops[i]? with
  |some o=>lX i (fJ ops.length done 0 ops)&&Qj ops done i o 0 ops&&(adh o.op||Bv ops done i o 0 ops)&&(match o.dst with|some d=> !(yJ ops o d)|none=>false)&& !(T.any λ x=>Nat.beq x.1 i)
  |none=>false)&&WS ops T r (i::done)
 |(i,some _)::r,done=>adi i (fJ ops.length done 0 ops)&&WS ops T r (i::done)
def agD:List (Nat×List Nat)->List (Nat×List Nat)->Bool
 |[],_=>true
 |x::T,U=>U.any (λ y=>Nat.beq x.1 y.1&&(x.2==y.2))&&agD T U
def EZ(ops:List Oper)(sc:List (Nat×Option (List Nat)))(U:List (Nat×List Nat)):Bool:=
 adg ops U&&agD (Bz sc) U&&WS ops (Bz sc) sc []
def ai6:AV->Bool
 | .v _=>true
 | .own _=>true
 | .dn .. =>true
 | .box .. =>true
 | .cf .. =>true
 |_=>false
def ai7:AV->Bool
 | .agg cs=>cs.all ai6
 |x=>ai6 x
structure Still(A B:AV)(K:Prop):Prop where
 mk::
 eq:A=B
 det:ai7 A=true
 k:K
def LP(P:Program)(L:Lay)(W:Walk)(N:Nat)(ops:List Oper):List Nat->AS->Prop->Prop
 |[],_,K=>K
 |p::r,st,K=>match ops[p]? with
  |some o=>(match o.dst with
   |some d=>Wj P L W d st o.op (λ y _=>Still y (st.tmps d) (LP P L W N ops r st K))
   |none=>False)
  |none=>False
def outOf(l:List Nat):List Nat->List Nat
 |[]=>[]
 |p::r=>bif lX p l then outOf l r else p::outOf l r
def WT(L:Lay)(st:AS):Op->Bool
 | .load t p=>match aU L t with
   |some i=>(match st.ev p with
    | .box id k=>(match aG id st.heap with
      |some (.box _ cs)=>Nat.ble (k+(bif i.isAgg then i.size else 1)) cs.length
      |_=>false)
    |_=>false)
   |none=>false
 |_=>false
def TG(L:Lay)(st:AS)(ops:List Oper)(p:Nat):Bool:=match ops[p]? with|some o=>WT L st o.op|none=>false
def wJ(L:Lay)(st:AS)(ops:List Oper):List Nat->List Nat
 |[]=>[]
 |p::r=>bif TG L st ops p then wJ L st ops r else p::wJ L st ops r
def aiq(P:Program)(L:Lay)(W:Walk)(N:Nat)(ops:List Oper)(o:Oper)(pl:List Nat)(st:AS)(K:AS->Prop):Prop:=
 match yK N st ops o with
 |some true=>(match o.op with
  | .call c=>(match c.callee with
    | .value x=>(match(st.ev x).acj with
      | .fn g caps=>nameOf st (λ d=>Bh P d g (c.args.toList.map st.ev++caps) st (λ x st'=>qE N st' o.dst x (λ st2=>LP P L W N ops (wJ L st ops pl) st2 (K st2))))
      |_=>False)
    |_=>False)
  |_=>False)
 |some false=>qE N st o.dst (.v undef) (λ st2=>LP P L W N ops (wJ L st ops pl) st2 (K st2))
 |none=>False
def wK(P:Program)(L:Lay)(W:Walk)(N:Nat)(ops:List Oper)(kp:Bool)(Q:AS->Prop):List (Nat×Option (List Nat))->List Nat->AS->Prop
 |[],_,st=>Q st
 |(i,none)::r,pend,st=>match ops[i]? with
  |some o=>(match yK N st ops o with
   |some true=>(match yI L st o.op with
    |true=>Bc P L W o.dst st o.op (λ x st'=>qE N st' o.dst x (wK P L W N ops kp Q r pend))
    |false=>(match mM o.op with
    |true=>Bc P L W o.dst st o.op (λ x st'=>qE N st' o.dst x (wK P L W N ops kp Q r (i::pend)))
    |false=>False))
   |some false=>qE N st o.dst (.v undef) (wK P L W N ops kp Q r pend)
   |none=>False)
  |none=>False
 |(i,some l)::r,pend,st=>match ops[i]? with
  |some o=>(match kp with
   |true=>aiq P L W N ops o (outOf l pend) st (wK P L W N ops kp Q r (outOf l pend))
   |false=>qg P L W N ops o st (λ st'=>LP P L W N ops (outOf l pend) st' (wK P L W N ops kp Q r (outOf l pend) st')))
  |none=>False
section
variable{P:Program}{L:Lay}{g:Base}{N:Nat}{bs:List (Array Value)}{ρ:Nat->Value}{a:Act}{w:World}{st:AS}
theorem wL{X:CX}{y:AV}{u v:Value}(h:ai6 y=true)(hu:C0 X y u)(hv:C0 X y v):u=v:=by
 cases y with
 |v x=>exact Eq.trans (show u=x from hu) (hv).symm
 |own id=>exact Eq.trans (show u=dD (X.ρ id)from hu) (hv).symm
 |dn id s i k=>
  obtain⟨b,n,c,h1,rfl⟩:=hu;obtain⟨b',n',c',h2,rfl⟩:=hv;rw[h1]at h2;cases h2;rfl
 |jB id s i k=>cases h
 |box id off=>
  obtain⟨b,h1,rfl⟩:=hu;obtain⟨b',h2,rfl⟩:=hv;rw[h1]at h2;cases h2;rfl
 |cf gg id off=>
  obtain⟨b,h1,rfl⟩:=hu;obtain⟨b',h2,rfl⟩:=hv;rw[h1]at h2;cases h2;rfl
 |_=>cases h
theorem agE{X:CX}{y:AV}{u v:Value}(h:ai7 y=true)(hu:C2 X y u)(hv:C2 X y v):u=v:=by
 cases y with
 |agg cs=>
  obtain⟨us,rfl,h1⟩:=hu;obtain⟨vs,rfl,h2⟩:=hv;have:us=vs:=by
   apply aos;intro i;by_cases hi:i<cs.length
   ·have hx:=amX hi;obtain⟨u,e1,k1⟩:=h1.get hx;obtain⟨v,e2,k2⟩:=h2.get hx;rw[e1,e2,wL (anh.1 h _ (anH hi)) k1 k2]
   ·rw[anz (by rw[<-h1.1];omega),anz (by rw[<-h2.1];omega)]
  rw[this]
 |v x=>exact wL (X:=X) (y:= .v x) h hu hv
 |own id=>exact wL (y:= .own id) h hu hv
 |dn id s i k=>exact wL (y:= .dn id s i k) h hu hv
 |jB id s i k=>exact wL (y:= .jB id s i k) h hu hv
 |box id off=>exact wL (y:= .box id off) h hu hv
 |cf gg id off=>exact wL (y:= .cf gg id off) h hu hv
 |_=>cases h
theorem Np{p:Nat}:∀{l:List Edge},Qi p l=true-> ∃e∈l,Region.binds .any e=true/\e.on=p
 |[],h=>by cases h
 |e::l,h=>by
  simp only[Qi,anT,amY]at h;rcases h with⟨h1,h2⟩|h
  ·exact⟨e,amW,h1,am3 h2⟩
  ·obtain⟨e',h1,h2⟩:=Np h;exact⟨e',am1 _ h1,h2⟩
theorem Hz{p:Nat}:∀{l:List Nat},lX p l=true↔p∈l
 |[]=>by simp[lX]
 |q::l=>by
  simp only[lX,anT,am4,Hz (l:=l)];refine or_congr ⟨λ h=>(am3 h).symm,λ h=>by rw[h];simp⟩ Iff.rfl
theorem Jk{U:List (Nat×List Nat)}{p:Nat}:∀{l:List Edge},Hy U p l=true-> ∃e∈l,Region.binds .any e=true/\ ∃x∈U,x.1=e.on/\p∈x.2
 |[],h=>by cases h
 |e::l,h=>by
  simp only[Hy,anT,amY,an6]at h;rcases h with⟨h1,x,hx,h2,h3⟩|h
  ·exact⟨e,amW,h1,x,hx,am3 h2,Hz.1 h3⟩
  ·obtain⟨e',h1,h2⟩:=Jk h;exact⟨e',am1 _ h1,h2⟩
theorem Jl{ops:List Oper}{U:List (Nat×List Nat)}(h:adg ops U=true)(k:Nat)(l:List Nat)(listed:Array Bool)(hk:(k,l)∈U)(hC:Closed U listed)(hr:k∈Region.ready .any ops.toArray listed):∀p∈l,listed.getD p false=true:=by
 intro p hp;have:=anh.1 h _ hk;obtain⟨_,o,ho,hall⟩:=mem_ready.1 hr;have ho:ops[k]? =some o:=by simpa using ho
 rw[ho]at this;have:=anh.1 this p hp;rw[anT]at this;rcases this with h1|h1
 ·obtain⟨e,he,hb,rfl⟩:=Np h1;exact hall e (by simpa using he) hb
 ·obtain⟨e,he,hb,⟨k',l'⟩,hx,e1,h3⟩:=Jk h1;have h2:=hall e (by simpa using he) hb;rw[<-e1]at h2;exact hC k' l' hx h2 p h3
theorem agF{T U:List (Nat×List Nat)}(h:agD T U=true):∀x∈T,x∈U:=by
 induction T with
 |nil=>intro x hx;cases hx
 |cons y T ih=>
  simp only[agD,amY,an6]at h;obtain⟨⟨z,hz,h1,h2⟩,h3⟩:=h;intro x hx;rcases am4.1 hx with rfl|hx
  ·have e1:=am3 h1;have e2:=eq_of_beq h2;have:=Prod.ext e1 e2;rw[this];exact hz
  ·grind
theorem Nq{ops:List Oper}{done:List Nat}{i:Nat}{oi:Oper}:∀{l:List Oper}{k:Nat},Qj ops done i oi k l=true-> ∀(j:Nat)(oj:Oper),l[j]? =some oj->k+j≠i->lX (k+j) done=false->
 (∀d,oi.dst=some d->oj.dst≠some d)/\((∀e∈oj.after,Region.binds .any e=true->e.on≠i)->(∀d,oj.dst=some d->d ∉ oi.looksAt ops.toArray)/\ ∀d,oi.dst=some d->d ∉ oj.looksAt ops.toArray)
 |[],k,_,j,oj,hj=>by simp at hj
 |o::l,k,h,j,oj,hj=>by
  simp only[Qj,amY,anT]at h;obtain⟨h1,h2⟩:=h;intro hne hm;cases j with
  |zero=>
   simp only[aoh,ank]at hj;subst hj;rcases h1 with(h1|h1)|⟨h1,h3⟩
   ·exact absurd (am3 h1) (by simpa using hne)
   ·rw[apg]at hm;rw[hm]at h1;cases h1
   ·refine⟨λ d hd=> ?_,λ hw=> ?_⟩
    ·rw[hd]at h1;simp only[anB]at h1;intro e;unfold YD at h1;rw[e]at h1;simp at h1
    ·rcases h3 with h4|⟨h3,h4⟩
     ·obtain⟨e,he,hb,hi⟩:=EX h4;exact absurd hi (hw e (by simpa using he) hb)
     ·refine⟨λ d hd=> ?_,λ d hd=> ?_⟩
      ·rw[hd]at h3;simp only[anB]at h3;have:=rF h3;simpa using this
      ·rw[hd]at h4;simp only[anB]at h4;have:=rF h4;simpa using this
  |succ j=>
   exact Nq h2 j oj (by simpa using hj) o_ (by rw[show k+1+j=k+(j+1) by omega];exact hm)
theorem Nr{ops:List Oper}{done:List Nat}{i:Nat}{oi:Oper}:∀{l:List Oper}{k:Nat},Bv ops done i oi k l=true-> ∀(j:Nat)(oj:Oper),l[j]? =some oj->k+j≠i->lX (k+j) done=false-> ∀d,oj.dst=some d->d ∉ oi.looksAt ops.toArray
 |[],k,_,j,oj,hj=>by simp at hj
 |o::l,k,h,j,oj,hj=>by
  simp only[Bv,amY,anT]at h;obtain⟨h1,h2⟩:=h;intro hne hm d hd;cases j with
  |zero=>
   simp only[aoh,ank]at hj;subst hj;rcases h1 with(h1|h1)|h1
   ·exact absurd (am3 h1) (by simpa using hne)
   ·rw[apg]at hm;rw[hm]at h1;cases h1
   ·rw[hd]at h1;simp only[anB]at h1;have:=rF h1;simpa using this
  |succ j=>
   exact Nr h2 j oj (by simpa using hj) o_ (by rw[show k+1+j=k+(j+1) by omega];exact hm) d hd
theorem TJ{op:Op}(h:adh op=true)(L:Lay)(st:AS):yI L st op=true:=by
 cases op<;>first|rfl|cases h
theorem adk{i:Nat}{l:List Nat}(h:adi i l=true):l=[i]:=by
 unfold adi at h;split at h
 ·simp_all
 ·cases h
theorem BA:∀{sc:List (Nat×Option (List Nat))}{k:Nat}{l:List Nat},(k,some l)∈sc->(k,l)∈Bz sc
 |[],_,_,h=>by cases h
 |(i,none)::r,k,l,h=>by
  rcases am4.1 h with h|h
  ·cases h
  ·show(k,l)∈Bz r;exact BA h
 |(i,some m)::r,k,l,h=>by
  rcases am4.1 h with h|h
  ·cases h;exact amW
  ·exact am1 _ (BA h)
theorem E5{l:List Nat}{p:Nat}:∀{q:List Nat},p∈q->p ∉ l->p∈outOf l q
 |[],h,_=>by cases h
 |x::q,h,hn=>by
  simp only[outOf];cases hb:lX x l with
  |true=>
   rcases am4.1 h with rfl|h
   ·exact absurd (Hz.1 hb) hn
   ·exact E5 h hn
  |false=>
   rcases am4.1 h with rfl|h
   ·exact amW
   ·exact am1 _ (E5 h hn)
theorem zO{l:List Nat}{p:Nat}:∀{q:List Nat},p∈outOf l q->p∈q
 |[],h=>h
 |x::q,h=>by
  simp only[outOf]at h;cases hb:lX x l with
  |true=>rw[hb]at h;exact am1 _ (zO h)
  |false=>
   rw[hb]at h;rcases am4.1 h with rfl|h
   ·exact amW
   ·exact am1 _ (zO h)
theorem YH(hL:bD P L){W:Walk}{ops:List Oper}{K:Prop}(R:Rel g N bs ρ a w st):∀{l:List Nat},(∀p∈l,∃o,ops[p]? =some o/\mM o.op=true)->LP P L W N ops l st K->K/\ ∀p∈l,∃o d,ops[p]? =some o/\o.dst=some d/\(execOp a.eval o).run P w= .ok (.value (a.tmps.getD d undef)) w
 |[],_,h=>⟨h,λ p hp=>by cases hp⟩
 |p::r,hq,h=>by
  simp only[LP]at h;split at h
  ·rename_i o ho;obtain⟨o',ho',hqo⟩:=hq p amW;rw[ho]at ho';cases ho';split at h
   ·rename_i d hd;obtain⟨y,u,hs,hc,hrun⟩:=zK hL R (o:=o) hqo h;obtain⟨e,alK,hr⟩:=hs;obtain⟨hK,hall⟩:=YH hL R (λ p hp=>hq p (am1 _ hp)) hr;refine⟨hK,λ q hq'=> ?_⟩;rcases am4.1 hq' with rfl|hq'
    ·refine⟨o,d,ho,hd, ?_⟩;have ht:=R.tmps d;rw[<-e]at ht;rw[hrun,agE alK hc ht]
    ·exact hall q hq'
   ·exact h.elim
  ·exact h.elim
theorem Gm{a:Act}{dst:Option Tmp}{u:Value}{d:Nat}(h:∀t,dst=some t->t≠d):(a.put dst u).tmps.getD d undef=a.tmps.getD d undef:=by
 cases dst with
 |none=>rfl
 |some t=>
  have:=h t rfl;simp[Act.put,Array.getElem?_setIfInBounds_ne this]
def Slots(ops:List Oper)(done:List Nat)(pend:List (Nat×Value))(a:Act):Prop:=
 ∀p∈pend,∃o d,ops[p.1]? =some o/\mM o.op=true/\o.dst=some d/\a.tmps.getD d undef=p.2/\ ∀k ok,ops[k]? =some ok->lX k done=false->ok.dst≠some d
theorem agG(hL:bD P L){t:TypeId}{i:TI}(hi:aU L t=some i){k n:Nat}(hn:k+(bif i.isAgg then i.size else 1)<=n){b:Nat}{us:List Value}(hl:us.length=n):
  ∃u,∀W:World,(∀(j:Nat)(y:Value),us[j]? =some y->W.cell? ⟨b,0+j,none⟩=some y)->(loadVar t ⟨b,0+k,none⟩).run P W= .ok u W:=by
 cases hg:i.isAgg with
 |true=>
  rw[hg]at hn;simp only[cond_true]at hn;refine⟨.agg ((us.drop k).take i.size).toArray,λ W hc=> ?_⟩;have hlen:((us.drop k).take i.size).length=i.size:=by rw[am5,anl];omega
  have hl:=run_loadCells_list (P:=P) W ⟨b,0+k,none⟩ ((us.drop k).take i.size) (λ j v hv=>by
   rw[anW];rw[anU]at hv;split at hv
   ·grind
   ·cases hv)
  rw[hlen]at hl;simp only[loadVar,am',o8 hL hi,hg,am8,if_true,gy hL hi,hl,anp]
 |false=>
  rw[hg]at hn;simp only[cond_false]at hn;refine⟨us[k]'o_,λ W hc=> ?_⟩;have:=hc k _ (amX o_);rw[anZ]at this⊢;simp[loadVar,o8 hL hi,hg,this]
theorem Z8(hL:bD P L)(R:Rel g N bs ρ a w st){o:Oper}(h:WT L st o.op=true):∃u,∀W:World,Below w.heap.size w W->(execOp a.eval o).run P W= .ok (.value u) W:=by
 unfold WT at h;split at h
 ·rename_i t p e;split at h
  ·rename_i i hi;split at h
   ·rename_i id k ep;split at h
    ·rename_i t' cs hf;have hn:=am7 h;have hp:=R.ev p;rw[ep]at hp;obtain⟨b,hb,hpv⟩:=C2.kD hp;obtain⟨b',us,e',hh,ha⟩:=R.objs _ (au hf);have hb:dD (ρ id)=_:=hb;have e':ρ id=_:=e';rw[e']at hb;cases hb;have hlt:=(anQ.1 hh).1;obtain⟨u,hu⟩:=agG (P:=P) hL hi hn (b:=b) ha.1.symm;refine⟨u,λ W hB=> ?_⟩;have hW:=(hB.block b hlt).trans hh;have hr:=hu W (λ j y hy=>by
      rw[cell_of_row _ _ _ _ _ _ hW];simpa using hy)
     have:(Instr.loadAt t (a.eval p)).run P W= .ok u W:=by
      rw[hpv];simpa[Instr.loadAt,Instr.sureAddr]using hr
     simp[execOp,e,this]
    ·cases h
   ·cases h
  ·cases h
 ·cases h
theorem BD{L:Lay}{ops:List Oper}{p:Nat}:∀{l:List Nat},p∈l->TG L st ops p=true\/p∈wJ L st ops l
 |[],h=>by cases h
 |q::l,h=>by
  unfold wJ;cases hb:TG L st ops q with
  |true=>
   rcases am4.1 h with rfl|h
   ·exact .inl hb
   ·exact BD h
  |false=>
   rcases am4.1 h with rfl|h
   ·exact .inr amW
   ·exact(BD h).imp id λ h=>am1 _ h
theorem BF{L:Lay}{ops:List Oper}{p:Nat}:∀{l:List Nat},p∈wJ L st ops l->p∈l
 |[],h=>h
 |q::l,h=>by
  unfold wJ at h;cases hb:TG L st ops q with
  |true=>rw[hb]at h;exact am1 _ (BF h)
  |false=>
   rw[hb]at h;rcases am4.1 h with rfl|h
   ·exact amW
   ·exact am1 _ (BF h)
theorem Z9(R:Rel g N bs ρ a w st){o:Oper}{c:Call}(e:o.op= .call c){x:Operand}(ec:c.callee= .value x){gg:FuncId}{caps:List AV}(ex:(st.ev x).acj= .fn gg caps){d:Nat}{K:AV->AS->Prop}{next:Act->World->Prop}{Q:Exit->Act->World->Prop}
  (h:Bh P d gg (c.args.toList.map st.ev++caps) st K)(hk:∀x st' u ρ' w',K x st'->Rel g N bs ρ' a w' st'->C2 (aA g w' ρ' st'.heap) x u->Below w.heap.size w w'->next (a.put o.dst u) w'):o.wp P a w next Q:=by
 have hx:=CW (R.ev x);rw[ex]at hx;obtain⟨us,hv,ha⟩:=C2.ES hx;have hargs:=(wE R c.args.toList).app (S9 ha);obtain⟨hent,hcall⟩:=Bj R hargs h;have hrun:(execOp a.eval o).run P w= .ok (.enter gg (c.args.toList.map a.eval++us).toArray) w:=by
  have hcf:=nZ hent (c.args.toList.map a.eval++us).toArray w;have eq:(c.args.toList.map a.eval++us).toArray=(#[]++c.args.map a.eval)++us.toArray:=by
   apply aoX;simp
  rw[eq]at hcf⊢;simp only[execOp,e,resolve,ec,Deferred.ofValue,hv,am',anp,invoke];exact hcf
 unfold Oper.wp;rw[hrun];refine hcall.mono ?_;rintro e' w' ⟨u,y,st',ρ',rfl,h1,h2,h3,h4⟩;exact hk _ _ _ _ _ h1 h2 h3 h4
theorem Jm(hL:bD P L){W:Walk}(hW:G9 P W){ops:List Oper}(hs:Region.noSelect ops.toArray=true){kp:Bool}{Q:AS->Prop}{E:Exit->Act->World->Prop}(hE:∀e a w,e≠ .normal-> ¬E e a w)(hQ:∀ρ a w st,Rel g N bs ρ a w st->Q st->E .normal a w)
 {T U:List (Nat×List Nat)}(hTU:∀x∈T,x∈U)(hU:adg ops U=true):
 ∀ (sc:List (Nat×Option (List Nat))){done:List Nat}{listed:Array Bool}{pend:List (Nat×Value)}{pl:List Nat}{ρ:Nat->Value}{a:Act}{w:World}{st:AS},
  (∀k l,(k,some l)∈sc->(k,l)∈T)->WS ops T sc done=true->Lst ops.length done listed->Closed U listed->Nl ops.toArray listed pend->Slots ops done pend a->YF P ops.toArray T listed pend a w->(∀p∈pend,alive T listed p.1->p.1∈pl)->(∀p∈pl,∃o,ops[p]? =some o/\mM o.op=true)->
  Rel g N bs ρ a w st->wK P L W N ops kp Q sc pl st->jE P ops.toArray E T sc.length listed pend a w
 |[],done,listed,pend,pl,ρ,a,w,st,_,Jo,hl,_,_,_,_,_,_,R,h=>by
  refine⟨?_,hQ _ _ _ _ R h⟩;have e:fJ ops.length done 0 ops=[]:=by
   simp only[WS]at Jo;cases hr:fJ ops.length done 0 ops with
   |nil=>rfl
   |cons x l=>rw[hr]at Jo;cases Jo
  cases hr:Region.ready .any ops.toArray listed with
  |nil=>rfl
  |cons j r=>
   have:j∈fJ ops.length done 0 ops:=(lY hl).1 (by rw[hr];exact amW);rw[e]at this;cases this
 |(i,none)::r,done,listed,pend,pl,ρ,a,w,st,hTs,Jo,hl,hC,hB,hS,hO,hpl,hpq,R,h=>by
  have ih:= @Jm hL W hW ops hs kp Q E hE hQ T U hTU hU r;simp only[WS,amY]at Jo;obtain⟨hi,hrest⟩:=Jo;simp only[wK]at h;split at hi
  ·rename_i o ho;rw[ho]at h;dsimp only at h;simp only[amY]at hi;obtain⟨⟨⟨⟨hm,hf⟩,hbl⟩,hself⟩,hT⟩:=hi;have hlt:i<ops.length:=(anc.1 ho).1;have hoA:ops.toArray[i]? =some o:=by simpa using ho
   have hr:i∈Region.ready .any ops.toArray listed:=(lY hl).2 (Hz.1 hm);have hsel:=Region.noSelect_spec hs;have hT':∀l,(i,l)∈T->False:=by
    intro l hx;simp only[anB,ao8]at hT;have:=hT _ hx;simp at this
   have adl:∀d,o.dst=some d->d ∉ o.looksAt ops.toArray:=by
    intro d hd;rw[hd]at hself;simp only[anB]at hself;simpa using rF hself
   have hfree:∀j oj,ops.toArray[j]? =some oj->j≠i->listed.getD j true=false->(∀d,o.dst=some d->oj.dst≠some d)/\((∀e∈oj.after,Region.binds .any e=true->e.on≠i)->(∀d,oj.dst=some d->d ∉ o.looksAt ops.toArray)/\ ∀d,o.dst=some d->d ∉ oj.looksAt ops.toArray):=by
    intro j oj h1 h2 h3;have h1':ops[j]? =some oj:=by simpa using h1
    have hlt':j<ops.length:=(anc.1 h1').1;exact Nq hf j oj h1' o_ (by rw[anZ,<-hl.LM hlt' true];exact h3)
   have hun:lX i done=false:=by
    rw[<-hl.LM hlt true];exact(mem_ready.1 hr).1
   have ai8:Bv ops done i o 0 ops=true-> ∀j oj,ops.toArray[j]? =some oj->j≠i->listed.getD j true=false-> ∀d,oj.dst=some d->d ∉ o.looksAt ops.toArray:=by
    intro hbl j oj h1 h2 h3;have h1':ops[j]? =some oj:=by simpa using h1
    have hlt':j<ops.length:=(anc.1 h1').1;exact Nr hbl j oj h1' o_ (by rw[anZ,<-hl.LM hlt' true];exact h3)
   have uV:Closed U (listed.setIfInBounds i true):=by
    intro k l hk hll p hp;by_cases hki:k=i
    ·subst hki;exact getD_set_true (Jl hU k l listed hk hC hr p hp)
    ·rw[getD_set_ne false (apn hki)]at hll;exact getD_set_true (hC k l hk hll p hp)
   have hal:∀p,alive T (listed.setIfInBounds i true) p->alive T listed p:=λ p hp k l hk hll=>hp k l hk (getD_set_true hll);have hal2:∀p,alive T listed p->alive T (listed.setIfInBounds i true) p:=λ p hp k l hk hll=>by
    by_cases hki:k=i
    ·subst hki;exact(hT' l hk).elim
    ·rw[getD_set_ne false (apn hki)]at hll;exact hp k l hk hll
   have unl:∀k,(listed.setIfInBounds i true).getD k true=false->listed.getD k true=false:=by
    intro k hk;by_cases hki:i=k
    ·subst hki;have hsz:i<listed.size:=by rw[hl.1];exact hlt
     simp[hsz]at hk
    ·rw[getD_set_ne true hki]at hk;exact hk
   have akz:∀k,lX k (i::done)=false->lX k done=false:=by
    intro k hk;simp only[lX,aoH]at hk;exact hk.2
   have step:∀(v:Value)(pu:Bool)(pl':List Nat)(ρ':Nat->Value)(st':AS),YieldsAt P ops.toArray o v a w->(pu=true->Yields P ops.toArray o v a)->(∀p∈pl,p∈pl')->(pu=false->i∈pl'/\mM o.op=true/\Bv ops done i o 0 ops=true/\ ∃d,o.dst=some d/\d<N)->(∀p∈pl',∃o,ops[p]? =some o/\mM o.op=true)->Rel g N bs ρ' (a.put o.dst v) w st'->wK P L W N ops kp Q r pl' st'->jE P ops.toArray E T (r.length+1) listed pend a w:=by
    intro v pu pl' ρ' st' hy hpu hsub hin hq' R' h';refine Qh hoA hsel (λ c a w h=>absurd h (hE _ _ _ s_)) hT' hTU (λ k l listed hk hC hr=>Jl hU k l listed hk hC hr) pu r.length listed pend a w hfree adl hr hC hB hO hy hpu ?_;have hB':Nl ops.toArray (listed.setIfInBounds i true) (WR pu (i,v) pend):=by
     intro p hp o' ho' k ok hk hku d hd;have akA:=unl k hku;have hki:k≠i:=by
      rintro rfl;have hsz:k<listed.size:=by rw[hl.1];exact hlt
      simp[hsz]at hku
     have old:p∈pend->d ∉ o'.looksAt ops.toArray:=λ hp=>hB p hp o' ho' k ok hk akA d hd;cases yN:pu with
     |true=>rw[yN]at hp;exact old hp
     |false=>
      rw[yN]at hp;rcases am4.1 hp with rfl|hp
      ·dsimp only at ho';rw[hoA]at ho';cases ho';exact ai8 (hin yN).2.2.1 k ok hk hki akA d hd
      ·exact old hp
    have hS':Slots ops (i::done) (WR pu (i,v) pend) (a.put o.dst v):=by
     intro p hp;have old:p∈pend-> ∃o' d,ops[p.1]? =some o'/\mM o'.op=true/\o'.dst=some d/\(a.put o.dst v).tmps.getD d undef=p.2/\ ∀k ok,ops[k]? =some ok->lX k (i::done)=false->ok.dst≠some d:=by
      intro hp;obtain⟨o',d,h1,h2,h3,h4,h5⟩:=hS p hp;refine⟨o',d,h1,h2,h3, ?_,λ k ok hk hkd=>h5 k ok hk (akz k hkd)⟩;rw[Gm λ t ht e=>h5 i o ho hun (by rw[ht,e])];exact h4
     cases yN:pu with
     |true=>rw[yN]at hp;exact old hp
     |false=>
      rw[yN]at hp;rcases am4.1 hp with rfl|hp
      ·obtain⟨_,hq,_,d,hd,hdN⟩:=hin yN;refine⟨o,d,ho,hq,hd, ?_,λ k ok hk hkd=> ?_⟩
       ·rw[hd];have:d<a.tmps.size:=by rw[R.size];exact hdN
        simp[Act.put,this]
       ·have hlt':k<ops.length:=(anc.1 hk).1;have hki:k≠i:=by
         rintro rfl;simp[lX]at hkd
        exact(hfree k ok (by simpa using hk) hki (by rw[hl.LM hlt' true];exact akz k hkd)).1 d hd
      ·exact old hp
    have hO':YF P ops.toArray T (listed.setIfInBounds i true) (WR pu (i,v) pend) (a.put o.dst v) w:=by
     intro p hp hap o' ho';have old:p∈pend->YieldsAt P ops.toArray o' p.2 (a.put o.dst v) w:=λ hp=>
      (YieldsAt.put (λ cs b=>hsel _ _ cs b ho') λ d hd=>hB p hp o' ho' i o hoA (mem_ready.1 hr).1 d hd).2 (hO p hp (hal _ hap) o' ho')
     cases yN:pu with
     |true=>rw[yN]at hp;exact old hp
     |false=>
      rw[yN]at hp;rcases am4.1 hp with rfl|hp
      ·dsimp only at ho';rw[hoA]at ho';cases ho';exact(YieldsAt.put (λ cs b=>hsel _ _ cs b hoA) adl).2 hy
      ·exact old hp
    refine ih (λ k l hk=>hTs k l (am1 _ hk)) hrest (hl.set hlt) uV hB' hS' hO' ?_ hq' R' h';intro p hp hap;have old:p∈pend->p.1∈pl':=λ hp=>hsub _ (hpl p hp (hal _ hap));cases yN:pu with
    |true=>rw[yN]at hp;exact old hp
    |false=>
     rw[yN]at hp;rcases am4.1 hp with rfl|hp
     ·exact(hin yN).1
     ·exact old hp
   split at h
   ·rename_i hw;have hwant:=mX R hw;split at h
    ·rename_i hpu;have go:∀d,Wj P L W d st o.op (λ x st'=>qE N st' o.dst x (wK P L W N ops kp Q r pl))->jE P ops.toArray E T (r.length+1) listed pend a w:=by
      intro d hd;obtain⟨x,u,st',ρ',h1,R1,h2,h3⟩:=Tt hL R hpu hd;obtain⟨st2,k2,R2⟩:=gV R1 h2 h1;exact step u true pl _ st2 (.inl ⟨hwant,h3 w⟩) (λ _=> .inl ⟨hwant,h3⟩) (λ _ h=>h) (λ e=>by cases e) hpq R2 k2
     unfold Bc at h;cases hd:o.dst with
     |none=>rw[hd]at h;dsimp only at h;exact go 0 (by rw[hd];exact h)
     |some d=>rw[hd]at h;dsimp only at h;exact go d (by rw[hd];exact h)
    ·rename_i hnp;have alL:Bv ops done i o 0 ops=true:=by
      rcases anT _ _▸hbl with h1|h1
      ·rw[TJ h1 L st]at hnp;cases hnp
      ·exact h1
     cases hq:mM o.op with
     |false=>rw[hq]at h;exact h.elim
     |true=>
     rw[hq]at h;dsimp only at h;unfold Bc at h;cases hd:o.dst with
     |none=>
      rw[hd]at hself;cases hself
     |some d=>
      rw[hd]at h;dsimp only at h;obtain⟨x,u,h1,h2,h3⟩:=zK hL R (o:=o) hq h;have hdN:d<N:=by
       unfold qE at h1;dsimp only at h1;cases hb:Nat.ble (d+1) N with
       |false=>rw[hb]at h1;exact h1.elim
       |true=>exact am7 hb
      obtain⟨st2,k2,R2⟩:=gV R h2 h1;exact step u false (i::pl) ρ st2 (.inl ⟨hwant,h3⟩) (λ e=>by cases e) (λ _ h=>am1 _ h) (λ _=>⟨amW,hq,alL,d,hd,hdN⟩) (λ p hp=>by
       rcases am4.1 hp with rfl|hp
       ·exact⟨o,ho,hq⟩
       ·exact hpq p hp) (by rw[hd];exact R2) k2
   ·rename_i hw;have hwant:=mX R hw;obtain⟨st2,k2,R2⟩:=gV R (show C2 (aA g w ρ st.heap) (.v undef) undef from rfl) h;exact step undef true pl ρ st2 (.inr ⟨hwant,rfl⟩) (λ _=> .inr ⟨hwant,rfl⟩) (λ _ h=>h) (λ e=>by cases e) hpq R2 k2
   ·exact h.elim
  ·cases hi
 |(i,some l)::r,done,listed,pend,pl,ρ,a,w,st,hTs,Jo,hl,hC,hB,hS,hO,hpl,hpq,R,h=>by
  have ih:= @Jm hL W hW ops hs kp Q E hE hQ T U hTU hU r;simp only[WS,amY]at Jo;obtain⟨hi,hrest⟩:=Jo;have e:=adk hi;have hr:i∈Region.ready .any ops.toArray listed:=(lY hl).2 (by rw[e];exact amW);refine⟨λ h0=>(by rw[h0]at hr;cases hr),λ j hj=> ?_⟩;have hji:j=i:=by
   have:=(lY hl).1 hj;rw[e]at this;exact amZ.1 this
  subst hji;simp only[wK]at h;split at h
  ·rename_i o ho;have hlt:j<ops.length:=(anc.1 ho).1;have hoA:ops.toArray[j]? =some o:=by simpa using ho
   have hsel:=Region.noSelect_spec hs;have hun:lX j done=false:=by
    rw[<-hl.LM hlt true];exact(mem_ready.1 hj).1
   have hjT:(j,l)∈T:=hTs j l amW;have uV:Closed U (listed.setIfInBounds j true):=by
    intro k l hk hll p hp;by_cases hki:k=j
    ·subst hki;exact getD_set_true (Jl hU k l listed hk hC hr p hp)
    ·rw[getD_set_ne false (apn hki)]at hll;exact getD_set_true (hC k l hk hll p hp)
   have hB':Nl ops.toArray (listed.setIfInBounds j true) pend:=by
    intro p hp o' ho' k ok hk hku d hd;refine hB p hp o' ho' k ok hk ?_ d hd;by_cases hki:j=k
    ·subst hki;exact(mem_ready.1 hj).1
    ·rw[getD_set_ne true hki]at hku;exact hku
   have hsz:j<listed.size:=by rw[hl.1];exact hlt
   have hal:∀p,alive T (listed.setIfInBounds j true) p->alive T listed p/\p ∉ l:=λ p hp=>⟨λ k l hk hll=>hp k l hk (getD_set_true hll),hp j l hjT (by simp[hsz])⟩;have fin0:∀(u:Value)(ρ':Nat->Value)(w':World)(st':AS),Rel g N bs ρ' (a.put o.dst u) w' st'->(∀p∈outOf l pl,∀o2 d,ops[p]? =some o2->o2.dst=some d->(∀v,(execOp a.eval o2).run P w= .ok (.value v) w->v=(a.put o.dst u).tmps.getD d undef->(execOp (a.put o.dst u).eval o2=execOp a.eval o2)->(execOp (a.put o.dst u).eval o2).run P w'= .ok (.value v) w'))->wK P L W N ops kp Q r (outOf l pl) st'->YF P ops.toArray T (listed.setIfInBounds j true) pend (a.put o.dst u) w'/\jE P ops.toArray E T r.length (listed.setIfInBounds j true) pend (a.put o.dst u) w':=by
    intro u ρ' w' st' R' hre hK;have alM:∀p∈outOf l pl,∃o,ops[p]? =some o/\mM o.op=true:=λ p hp=>hpq p (zO hp);have hS':Slots ops (j::done) pend (a.put o.dst u):=by
     intro p hp;obtain⟨o',d,h1,h2,h3,h4,h5⟩:=hS p hp;refine⟨o',d,h1,h2,h3, ?_,λ k ok hk hkd=>h5 k ok hk ?_⟩
     ·rw[Gm λ t ht e=>h5 j o ho hun (by rw[ht,e])];exact h4
     ·simp only[lX,aoH]at hkd;exact hkd.2
    have hin:∀p∈pend,alive T (listed.setIfInBounds j true) p.1->p.1∈outOf l pl:=λ p hp hap=>E5 (hpl p hp (hal _ hap).1) (hal _ hap).2;have hO':YF P ops.toArray T (listed.setIfInBounds j true) pend (a.put o.dst u) w':=by
     intro p hp hap o' ho';have ho2:ops[p.1]? =some o':=by simpa using ho'
     obtain⟨o3,d3,q1,q2,q3,q4,q5⟩:=hS' p hp;rw[ho2]at q1;obtain rfl:o'=o3:=by simpa using q1
     have:=hO p hp (hal _ hap).1 o' ho';have hd':∀d,o.dst=some d->d ∉ o'.looksAt ops.toArray:=λ d hd=>hB p hp o' ho' j o hoA (mem_ready.1 hj).1 d hd;have hw':=wanted_put (ops:=ops.toArray) o' a o.dst u hd';have he':=execOp_put (ops:=ops.toArray) o' (λ cs b=>hsel _ _ cs b ho') a o.dst u hd';rcases this with⟨h1,h2⟩|⟨h1,h2⟩
     ·exact .inl ⟨by rw[hw'];exact h1,hre p.1 (hin p hp hap) o' d3 ho2 q3 _ h2 q4.symm he'⟩
     ·exact .inr ⟨by rw[hw'];exact h1,h2⟩
    exact⟨hO',ih (λ k l hk=>hTs k l (am1 _ hk)) hrest (hl.set hlt) uV hB' hS' hO' hin alM R' hK⟩
   have akB:∀(u:Value)(ρ':Nat->Value)(w':World)(st':AS)(l':List Nat){K:Prop},Rel g N bs ρ' (a.put o.dst u) w' st'->(∀p∈l',p∈outOf l pl)->LP P L W N ops l' st' K->K/\ ∀p∈l',∀o2 d,ops[p]? =some o2->o2.dst=some d->(∀v,(execOp a.eval o2).run P w= .ok (.value v) w->v=(a.put o.dst u).tmps.getD d undef->(execOp (a.put o.dst u).eval o2=execOp a.eval o2)->(execOp (a.put o.dst u).eval o2).run P w'= .ok (.value v) w'):=by
    intro u ρ' w' st' l' K R' hsub hk;obtain⟨hK,hre⟩:=YH hL R' (λ p hp=>hpq p (zO (hsub p hp))) hk;refine⟨hK,λ p hp o2 d h1 h2 v _ h4 _=> ?_⟩;obtain⟨o3,d3,k1,k2,k3⟩:=hre p hp;rw[h1]at k1;obtain rfl:o2=o3:=by simpa using k1
    rw[h2]at k2;obtain rfl:d=d3:=by simpa using k2
    rw[k3,h4]
   have fin:∀(u:Value)(ρ':Nat->Value)(w':World)(st':AS),Rel g N bs ρ' (a.put o.dst u) w' st'->LP P L W N ops (outOf l pl) st' (wK P L W N ops kp Q r (outOf l pl) st')->YF P ops.toArray T (listed.setIfInBounds j true) pend (a.put o.dst u) w'/\jE P ops.toArray E T r.length (listed.setIfInBounds j true) pend (a.put o.dst u) w':=by
    intro u ρ' w' st' R' hk;obtain⟨hK,hre⟩:=akB u ρ' w' st' _ R' (λ p hp=>hp) hk;exact fin0 u ρ' w' st' R' hre hK
   have akC:∀(u:Value)(ρ':Nat->Value)(w':World)(st':AS),Rel g N bs ρ' (a.put o.dst u) w' st'->Below w.heap.size w w'->LP P L W N ops (wJ L st ops (outOf l pl)) st' (wK P L W N ops kp Q r (outOf l pl) st')->YF P ops.toArray T (listed.setIfInBounds j true) pend (a.put o.dst u) w'/\jE P ops.toArray E T r.length (listed.setIfInBounds j true) pend (a.put o.dst u) w':=by
    intro u ρ' w' st' R' hBw hk;obtain⟨hK,hre⟩:=akB u ρ' w' st' _ R' (λ p hp=>BF hp) hk;refine fin0 u ρ' w' st' R' (λ p hp o2 d h1 h2 v h3 h4 h5=> ?_) hK;rcases BD (L:=L) (st:=st) (ops:=ops) hp with hkp|hnk
    ·unfold TG at hkp;rw[h1]at hkp;obtain⟨v',hv'⟩:=Z8 (P:=P) hL R (o:=o2) hkp;have e1:=hv' w (aob _ _);rw[e1]at h3;have e2:v'=v:=by simpa using h3
     rw[h5,hv' w' hBw,e2]
    ·exact hre p hnk o2 d h1 h2 v h3 h4 h5
   unfold wpOp;rw[hoA];dsimp only;cases kp with
   |true=>
    dsimp only at h;unfold aiq at h;split at h
    ·rename_i hw;rw[mX R hw];simp only[if_true];refine .inl ?_;split at h
     ·rename_i c ec;split at h
      ·rename_i x ex;split at h
       ·rename_i gg caps ev;rw[iM]at h;refine Z9 R ec ex ev h ?_;intro x st' u ρ' w' hx R' hc hBw;obtain⟨st2,h2,R2⟩:=gV R' hc hx;exact akC u ρ' w' st2 R2 hBw h2
       ·exact h.elim
      ·exact h.elim
     ·exact h.elim
    ·rename_i hw;rw[mX R hw];simp only[anV,if_false];obtain⟨st2,k2,R2⟩:=gV R (show C2 (aA g w ρ st.heap) (.v undef) undef from rfl) h;exact akC undef ρ w st2 R2 (aob _ _) k2
    ·exact h.elim
   |false=>
    dsimp only at h;unfold qg at h;split at h
    ·rename_i hw;rw[mX R hw];simp only[if_true];refine .inl ?_;have go:∀d,Wj P L W d st o.op (λ x st'=>qE N st' o.dst x (λ st'=>LP P L W N ops (outOf l pl) st' (wK P L W N ops false Q r (outOf l pl) st')))->o.wp P a w (λ a' w'=>YF P ops.toArray T (listed.setIfInBounds j true) pend a' w'/\jE P ops.toArray E T r.length (listed.setIfInBounds j true) pend a' w') E:=by
      intro d hd;refine Ht hL hW R (d:=d) hd ?_;intro x st' u ρ' w' hx R' hc;obtain⟨st2,h2,R2⟩:=gV R' hc hx;exact fin u ρ' w' st2 R2 h2
     unfold Bc at h;cases hd:o.dst with
     |none=>rw[hd]at h;dsimp only at h;exact go 0 (by rw[hd];exact h)
     |some d=>rw[hd]at h;dsimp only at h;exact go d (by rw[hd];exact h)
    ·rename_i hw;rw[mX R hw];simp only[anV,if_false];obtain⟨st2,k2,R2⟩:=gV R (show C2 (aA g w ρ st.heap) (.v undef) undef from rfl) h;exact fin undef ρ w st2 R2 k2
    ·exact h.elim
  ·exact h.elim
theorem fU.adn(kp:Bool)(hL:bD P L){W:Walk}(hW:G9 P W)(sc:List (Nat×Option (List Nat)))(U:List (Nat×List Nat)){id:Nat}{ops:Array Oper}{K:AS->Prop}{st:AS}(hm:P.follows .mixedOrders=true)(hs:(Region.noSelect ops&&Nat.beq sc.length ops.size&&EZ ops.toList sc U)=true)
  (h:wK P L W N ops.toList kp K sc [] st):fU P L W N id ops K st:=by
 refine .sem λ g bs ρ a w E R hK=> ?_;simp only[amY,EZ]at hs;obtain⟨⟨hns,hlen⟩,⟨hU,hTU⟩,Jo⟩:=hs;refine Code.wp_mono (Q:=λ e a w=>e= .normal/\E .normal a w) (λ e a w h=>by obtain⟨rfl,h⟩:=h;exact h) ?_;have e1:ops.size=ops.toList.length:=s_
 refine wp_region_any hm ?_;have hl:Lst ops.toList.length [] (Array.replicate ops.size false):=by
  refine⟨s_,λ k hk=> ?_⟩;rw[Array.getElem?_replicate,if_pos (by rw[e1];exact hk)];rfl
 have hnone:∀k,(Array.replicate ops.size false).getD k false=false:=by
  intro k;rw[Array.getD_eq_getD_getElem?,Array.getElem?_replicate];split<;>rfl
 have R':=R.world (aob _ _).drew;have:=Jm (g:=g) (bs:=bs) (N:=N) hL hW (by simpa using hns) (Q:=K) (E:=λ e a w=>e= .normal/\E .normal a w) (λ e a w hne h=>hne h.1) (λ ρ a w st R h=>⟨rfl,hK ρ a w st R h⟩) (agF hTU) hU sc (pend:=[]) (pl:=[])
  (λ k l h=>BA h) Jo hl (λ k l hk hll=>by rw[hnone]at hll;cases hll) (λ p hp=>by cases hp) (λ p hp=>by cases hp) (λ p hp=>by cases hp) (λ p hp=>by cases hp) (λ p hp=>by cases hp) R' h
 have h3:=this.any;have e2:=am3 hlen;rw[e2]at h3;simpa using h3
theorem fU.sched(hL:bD P L){W:Walk}(hW:G9 P W)(sc:List (Nat×Option (List Nat)))(U:List (Nat×List Nat)){id:Nat}{ops:Array Oper}{K:AS->Prop}{st:AS}(hm:P.follows .mixedOrders=true)(hs:(Region.noSelect ops&&Nat.beq sc.length ops.size&&EZ ops.toList sc U)=true)
 (h:wK P L W N ops.toList false K sc [] st):fU P L W N id ops K st:= .adn false hL hW sc U hm hs h
theorem fU.keep(hL:bD P L){W:Walk}(hW:G9 P W)(sc:List (Nat×Option (List Nat)))(U:List (Nat×List Nat)){id:Nat}{ops:Array Oper}{K:AS->Prop}{st:AS}(hm:P.follows .mixedOrders=true)(hs:(Region.noSelect ops&&Nat.beq sc.length ops.size&&EZ ops.toList sc U)=true)
 (h:wK P L W N ops.toList true K sc [] st):fU P L W N id ops K st:= .adn true hL hW sc U hm hs h
end
end Go.Proofs.YtkimgljckickcaaGreat
