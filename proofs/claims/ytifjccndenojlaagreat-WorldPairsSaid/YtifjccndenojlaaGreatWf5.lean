/-
  Contracts of the walk:AmC.
-/
import Derived.Test.YtifjccndenojlaaGreatWf4
import Derived.Orders
set_option maxHeartbeats 16000000
set_option maxRecDepth 100000
set_option linter.unusedVariables false
set_option linter.unusedSimpArgs false
namespace Go.Proofs.YtifjccndenojlaaGreat
open Go.RowKit
variable{st:AS}{r:AV}{listed:Array Bool}{f:FuncId}{hin hout:List (Nat×AO)}{aZ:List AV}{done:List Nat}{ops:List Oper}{d n:Nat}{P:Program}
def al8(k:Nat):AO->AV
 | .box .. => .box k 0
 | .row .. => .own k
 | .mp .. => .own k
 | .obs _=> .own k
 | .rn .. => .own k
def I5:Nat->List (Nat×AO)->List (Nat×AV)
 |_,[]=>[]
 |n,(k,o)::l=>(n,al8 k o)::I5 (n+1) l
def Rk(aZ:List AV)(hin:List (Nat×AO))(base:Nat):AS:=⟨DV 0 aZ,hin,[I5 0 hin],base⟩
def Rl:AO->Bool
 | .box .. =>false
 | .row .. =>false
 | .mp .. =>true
 | .obs _=>true
 | .rn .. =>false
def ajR(k:Nat)(o:AO)(hout:List (Nat×AO)):Bool:=match aK k hout with|some o'=>Rl o==Rl o'|none=>true
def J3(hout:List (Nat×AO))(back:List (List (Nat×AV))):Nat->List (Nat×AO)->Bool
 |_,[]=>true
 |n,(k,o)::l=>(!(bP k hout)||(ajR k o hout&&match back,o with
  |[f],.box .. =>(match tN f n with| .box i j=>Nat.beq i k&&Nat.beq j 0|_=>false)
  |[f],.row .. =>(match tN f n with| .own i=>Nat.beq i k|_=>false)
  |[f],.mp .. =>(match tN f n with| .own i=>Nat.beq i k|_=>false)
  |[f],.obs _=>(match tN f n with| .own i=>Nat.beq i k|_=>false)
  |[f],.rn .. =>(match tN f n with| .own i=>Nat.beq i k|_=>false)
  |_,_=>false))&&J3 hout back (n+1) l
def J4(h hout:List (Nat×AO)):AV->AV
 | .own i=>bif bP i hout then .own i else Nz h (.own i)
 | .box i k=>bif bP i hout then .box i k else .junk
 | .dG i s j k=>bif bP i hout then .dG i s j k else .junk
 | .jH i s j k=>bif bP i hout then .jH i s j k else .junk
 | .v x=> .v x
 | .sl s n sc f=> .sl s n sc f
 |_=> .junk
def aev(h hout:List (Nat×AO)):AV->AV
 | .agg cs=> .agg (cs.map (J4 h hout))
 |x=>J4 h hout x
def aew(h hout:List (Nat×AO)):AV->AV
 | .bI vs=> .bI (vs.map (aev h hout))
 |x=>aev h hout x
structure Rn(hin:List (Nat×AO))(σ:List (Nat×Nat))(st:AS)(x r:AV)(hout:List (Nat×AO)):Prop where
 nd:nodupB (σ.map (·.2))=true
 fx:J3 hout (st.ren σ).back 0 hin=true
 hp:LeH (st.ren σ) hout
 hn:nodupB (hout.map (·.1))=true
 hc:fU hout hout=true
 hr:aY (aew (st.ren σ).heap hout (FT σ x)) r
def ZY(L:Lay)(fn:Func)(hin:List (Nat×AO))(r:AV)(hout:List (Nat×AO)):jk->AS->Prop
 | .normal,st=>pF L st fn.results.toList (λ x=> ∃σ,Rn hin σ st x r hout)
 | .ret,st=>pF L st fn.results.toList (λ x=> ∃σ,Rn hin σ st x r hout)
 | .exit _,_=>False
section
variable{P:Program}{L:Lay}{g:Base}{N:Nat}{bs:List (Array Value)}{ρ:Nat->Value}{a:Act}{w:World}{st:AS}
def qj(ρ:Nat->Value):List (Nat×AO)->List Value
 |[]=>[]
 |(k,_)::l=>dJ (ρ k)::qj ρ l
theorem UW{X:CX}:∀{hin:List (Nat×AO)}{n:Nat}{pre:List Value},pre.length=n->(∀p∈hin,aT X p.1 p.2)-> ∀t,C2 X (tN (I5 n hin) t) ((pre++qj X.ρ hin).toArray.getD t undef)
 |[],n,pre,_,_,t=>trivial
 |(k,o)::l,n,pre,hp,ho,t=>by
  have ih:=UW (X:=X) (hin:=l) (n:=n+1) (pre:=pre++[dJ (X.ρ k)]) (by simp[hp]) (λ p hp=>ho p (aoq _ hp)) t;simp only[I5,tN];cases hb:Nat.beq t n with
  |true=>
   have e:=aos hb;have ev:(pre++qj X.ρ ((k,o)::l)).toArray.getD t undef=dJ (X.ρ k):=by
    simp[qj,e,<-hp]
   simp only[cond_true];rw[ev];have h0:=ho (k,o) aol;cases o with
   |box ty cs=>obtain⟨b,us,e',_⟩:=h0;exact⟨b,by rw[e'];rfl,by rw[e'];rfl⟩
   |row=>exact rfl
   |mp=>exact rfl
   |obs=>exact rfl
   |rn=>exact rfl
  |false=>
   simp only[cond_false];have e3:pre++qj X.ρ ((k,o)::l)=pre++[dJ (X.ρ k)]++qj X.ρ l:=by simp[qj]
   rw[e3];exact ih
theorem aT.bI{X:CX}{k:Nat}{o:AO}(h:aT X k o):(Rl o=true-> ∃us,X.ρ k= .tuple us)/\(Rl o=false->dJ (X.ρ k)=X.ρ k):=by
 cases o with
 |box t cs=>obtain⟨b,us,e,_⟩:=h;exact⟨λ h=>(by cases h),λ _=>by rw[e];rfl⟩
 |row e s n sc f=>exact⟨λ h=>(by cases h),λ _=>DL h⟩
 |mp t ks rs=>obtain⟨b,es,c,vs,hs,e,_⟩:=h;exact⟨λ _=>⟨_,e⟩,λ h=>(by cases h)⟩
 |obs o=>obtain⟨us,e,_⟩:=h;exact⟨λ _=>⟨_,e⟩,λ h=>(by cases h)⟩
 |rn e cs=>obtain⟨us,⟨hown,_⟩,_⟩:=h;exact⟨λ h=>(by cases h),λ _=>eY hown⟩
theorem kind_eq{X Y:CX}{k:Nat}{o o':AO}(h:aT X k o)(h':aT Y k o')(hk:Rl o=Rl o')(e:dJ (Y.ρ k)=dJ (X.ρ k)):DK (Y.ρ k) (X.ρ k):=by
 cases hb:Rl o with
 |true=>exact .inr ⟨h'.bI.1 (hk▸hb),h.bI.1 hb,e⟩
 |false=>
  rw[h.bI.2 hb,h'.bI.2 (hk▸hb)]at e;exact .inl e
theorem UY{X Y:CX}{hout:List (Nat×AO)}{back:List (List (Nat×AV))}:∀{hin:List (Nat×AO)}{n:Nat}{pre:List Value}{vs:List Value},pre.length=n->vs=pre++qj Y.ρ hin->(∀p∈hin,aT Y p.1 p.2)->(∀p∈hin,bP p.1 hout=true-> ∃o,aK p.1 hout=some o/\aT X p.1 o)->mW X back [vs.toArray]->J3 hout back n hin=true-> ∀p∈hin,bP p.1 hout=true->DK (X.ρ p.1) (Y.ρ p.1)
 |[],_,_,_,_,_,_,_,_,_,p,hp,_=>by cases hp
 |(k,o)::l,n,pre,vs,hlen,hvs,jo,sS,hbk,hf,p,hp,hn=>by
  simp only[J3,aon,apf,aoX]at hf;rcases aot.1 hp with rfl|hp
  ·rcases hf.1 with h|⟨hkb,h⟩
   ·rw[h]at hn;cases hn
   ·have ev:vs.toArray.getD n undef=dJ (Y.ρ k):=by
     rw[hvs];simp[qj,<-hlen]
    obtain⟨o',ho',hok'⟩:=sS _ aol hn;have hok:=jo _ aol;have hkk:Rl o=Rl o':=by
     unfold ajR at hkb;rw[ho']at hkb;exact eq_of_beq hkb
    refine kind_eq hok hok' hkk ?_;match back,hbk,h with
    |[f],hbk,h=>
     have h2:=hbk.1 n;rw[ev]at h2;have own:(match tN f n with| .own i=>Nat.beq i k|_=>false)=true->dJ (X.ρ k)=dJ (Y.ρ k):=by
      intro h;split at h
      ·rename_i i e;rw[e]at h2;have e1:=aos h;subst e1;exact(C2.kK h2).symm
      ·cases h
     cases o with
     |box t cs=>
      dsimp only at h;split at h
      ·rename_i i j e;rw[e]at h2;simp only[aon]at h;have e1:=aos h.1;have e2:=aos h.2;subst e1 e2;obtain⟨b,h3,h4⟩:=C2.kJ h2;exact h3.trans h4.symm
      ·cases h
     |row=>exact own h
     |mp=>exact own h
     |obs=>exact own h
     |rn=>exact own h
    |[],hbk,h=>exact hbk.elim
    |_::_::_,hbk,h=>exact hbk.2.elim
  ·exact UY (pre:=pre++[dJ (Y.ρ k)]) (vs:=vs) (by simp[hlen]) (by rw[hvs];simp[qj]) (λ p hp=>jo p (aoq _ hp)) (λ p hp=>sS p (aoq _ hp)) hbk hf.2 p hp hn
theorem Yc{h:List (Nat×AO)}(hn:(h.map (·.1)).Nodup):∀p∈h,aK p.1 h=some p.2:=by
 induction h with
 |nil=>intro p hp;cases hp
 |cons q h ih=>
  intro p hp;have hn':=apj.1 hn;simp only[aK];rcases aot.1 hp with rfl|hp
  ·simp
  ·have:Nat.beq q.1 p.1=false:=by
    rw[aoU];intro e;exact hn'.1 (aoR.2 ⟨p,hp,(aos e).symm⟩)
   rw[this];exact ih hn'.2 p hp
theorem vO{k:Nat->Prop}(hk:∀b,aJ g w ρ st.heap b->k b){hout:List (Nat×AO)}{x:AV}{u:Value}(hr:∀i,bP i hout=false->Reads st ρ w k (.own i))(h:C0 (aC g w ρ st.heap) x u):C0 ⟨w,k,ρ⟩ (J4 st.heap hout x) u:=by
 cases x with
 |own i=>
  simp only[J4];cases hb:bP i hout with
  |true=>exact h
  |false=>
   have:=Aq hk (hr i hb) h;revert this;simp only[Nz,cond_false];cases aK i st.heap with
   |none=>exact λ h=>h
   |some o=>cases o<;>exact λ h=>h
 |box i j=>
  simp only[J4];cases bP i hout with
  |true=>exact h
  |false=>trivial
 |dG i s j m=>
  simp only[J4];cases bP i hout with
  |true=>exact h
  |false=>trivial
 |jH i s j m=>
  simp only[J4];cases bP i hout with
  |true=>exact h
  |false=>trivial
 |v y=>exact h
 |sl s n sc f=>exact PC.mono hk (λ _ _=>rfl) h
 |_=>trivial
theorem sU{k:Nat->Prop}(hk:∀b,aJ g w ρ st.heap b->k b){hout:List (Nat×AO)}{x:AV}{u:Value}(hr:∀i,bP i hout=false->Reads st ρ w k (.own i))(h:C1 (aC g w ρ st.heap) x u):C1 ⟨w,k,ρ⟩ (aev st.heap hout x) u:=by
 cases x with
 |agg cs=>
  obtain⟨us,rfl,ha⟩:=h;exact⟨us,rfl,ha.pW λ _ _=>vO hk hr⟩
 |own i=>exact C1.vG (vO hk hr (x:= .own i) h)
 |box i j=>exact C1.vG (vO hk hr (x:= .box i j) h)
 |dG i s j m=>exact C1.vG (vO hk hr (x:= .dG i s j m) h)
 |jH i s j m=>exact C1.vG (vO hk hr (x:= .jH i s j m) h)
 |v y=>exact h
 |sl s n sc f=>exact C1.vG (vO hk hr (x:= .sl s n sc f) h)
 |_=>trivial
theorem aex{k:Nat->Prop}(hk:∀b,aJ g w ρ st.heap b->k b){hout:List (Nat×AO)}{x:AV}{u:Value}(hr:∀i,bP i hout=false->Reads st ρ w k (.own i))(h:C2 (aC g w ρ st.heap) x u):C2 ⟨w,k,ρ⟩ (aew st.heap hout x) u:=by
 cases x with
 |bI vs=>
  obtain⟨us,rfl,ha⟩:=h;exact⟨us,rfl,ha.pW λ _ _=>sU hk hr⟩
 |agg cs=>exact C2.mP (sU hk hr (x:= .agg cs) h)
 |own i=>exact C2.mP (sU hk hr (x:= .own i) h)
 |box i j=>exact C2.mP (sU hk hr (x:= .box i j) h)
 |dG i s j m=>exact C2.mP (sU hk hr (x:= .dG i s j m) h)
 |jH i s j m=>exact C2.mP (sU hk hr (x:= .jH i s j m) h)
 |v y=>exact h
 |sl s n sc f=>exact C2.mP (sU hk hr (x:= .sl s n sc f) h)
 |_=>trivial
theorem Z4{st:AS}:∀{h:List (Nat×AO)},LeH st h-> ∀p∈h,∃o,aK p.1 st.heap=some o/\dK o p.2
 |[],_,p,hp=>by cases hp
 |q::l,h,p,hp=>by
  rcases aot.1 hp with rfl|hp
  ·exact h.1
  ·exact Z4 h.2 p hp
theorem abl(hL:bJ P L)(lv base:Nat){f:FuncId}{fn:Func}{c:Code}{hin:List (Nat×AO)}{aZ:List AV}{r:AV}{hout:List (Nat×AO)}{S:AS}(hf:P.funcs[f]? =some fn)(hn:(fn.name== "runtime.NumGoroutine")=false)(hb:fn.body=some c)(hsz:Nat.ble aZ.length fn.ntmps=true)(hI:yN (Rk aZ hin base) S)
  (h:BG P L 9 fn.ntmps lv c (ZY L fn hin r hout) S):aj P f hin aZ r hout:=by
 refine⟨⟨fn,c,hf,hn,hb⟩,λ w keep ρ args hkeep jo hnd hin' hargs=> ?_⟩;have hsz:=aox hsz;have hlen:args.length=aZ.length:=hargs.1.symm;refine calls_of_wp hf hb ?_;let g:Base:=(dX w keep (λ b=>b∈ah ρ hin));have hk0:∀b,keep b->aJ g w ρ hin b:=λ b hb=>⟨hkeep b hb,λ _=> .inl hb,λ h=>(hin' b h).2 hb⟩;have JZ:aG (C2 (aC g w ρ hin)) aZ args:=hargs.imp λ _ _ h=>C2.mP (C1.same (X:=⟨w,keep,ρ⟩) (Y:=aC g w ρ hin) hk0 (λ _ _=>rfl) rfl h);have ajS:∀p∈hin,aT (aC g w ρ hin) p.1 p.2:=λ p hp=>by
  exact aT.same (X:=⟨w,keep,ρ⟩) (Y:=aC g w ρ hin) hk0 (λ _ _=>rfl) rfl (λ _ _=>rfl) (jo p hp)
 have R0:Rel g fn.ntmps [(qj ρ hin).toArray] ρ {tmps:=args.toArray++Array.replicate (fn.ntmps-args.toArray.size) undef,defers:=[]} w (Rk aZ hin base):=
  ⟨by simp;omega,rfl,dL.refl _ _ _,um JZ hsz,ajS,hnd,λ b hb=> .inr hb,⟨λ t=>UW (X:=aC g w ρ hin) (n:=0) (pre:=[]) rfl ajS t,trivial⟩⟩
 have fin:∀(e:Exit),(e= .normal\/e= .ret)-> ∀ρ1 a w' st,Rel g fn.ntmps [(qj ρ hin).toArray] ρ1 a w' st->pF L st fn.results.toList (λ x=> ∃σ,Rn hin σ st x r hout)->
   bodyPost P fn (λ e w'=> ∃u ρ',e= .returned u/\dL (λ b=>b∈ah ρ hin) w.heap.size w w'/\(∀p∈hin,∀q∈hout,q.1=p.1->DK (ρ' p.1) (ρ p.1))/\C2 (aC g w' ρ' hout) r u/\(∀p∈hout,aT (aC g w' ρ' hout) p.1 p.2)/\(ah ρ' hout).Nodup/\ ∀b∈ah ρ' hout,w.heap.size<=b\/b∈ah ρ hin) e a w':=by
  intro e he ρ1 a w' st R1 hq;obtain⟨x,u,⟨σ,hret⟩,hc,hrun⟩:=Ri hL R1 hq;have post:a.defers=[]/\ ∃v,(results fn a.tmps).run P w'= .ok v w'/\ ∃u ρ',Ending.returned v= .returned u/\dL (λ b=>b∈ah ρ hin) w.heap.size w w'/\(∀p∈hin,∀q∈hout,q.1=p.1->DK (ρ' p.1) (ρ p.1))/\C2 (aC g w' ρ' hout) r u/\(∀p∈hout,aT (aC g w' ρ' hout) p.1 p.2)/\(ah ρ' hout).Nodup/\ ∀b∈ah ρ' hout,w.heap.size<=b\/b∈ah ρ hin:=by
   have R:=R1.ren hret.nd;have hc:C2 (aC g w' (pK σ ρ1) (st.ren σ).heap) (FT σ x) u:=
    C2.ren (X:=aC g w' ρ1 st.heap) (Y:=aC g w' (pK σ ρ1) (st.ren σ).heap) (λ b h=>⟨h.1,h.2.1,λ h'=>h.2.2 ((Cc (oG hret.nd) ρ1 st.heap).subset h')⟩) rfl (λ k i e=>JW (oG hret.nd) e) hc
   generalize hst:st.ren σ=st' at*;generalize anZ:pK σ ρ1=ρ' at*;have hfx:=hret.fx;rw[hst]at hfx;have hp:=hret.hp;rw[hst]at hp;have hrr:=hret.hr;rw[hst]at hrr;have hmem:=Z4 hp;have ajT:∀b,b∈ah ρ' hout->b∈ah ρ' st'.heap:=λ b hb=>by
    obtain⟨p,hp,e⟩:=aQ.1 hb;obtain⟨o,ho,_⟩:=hmem p hp;exact aQ.2 ⟨_,aA ho,e⟩
   have hk:∀b,aJ g w' ρ' st'.heap b->aJ g w' ρ' hout b:=λ b h=>⟨h.1,h.2.1,λ h'=>h.2.2 (ajT b h')⟩;refine⟨R1.defers,u,hrun,u,ρ',rfl,R.below, ?_, ?_, ?_,Cb (oG hret.hn) R.apart (λ p hp=>by obtain⟨o,ho,_⟩:=hmem p hp;exact⟨_,aA ho,rfl⟩),λ b hb=>R.own b (ajT b hb)⟩
   ·intro p hp q hq e;exact UY (X:=aC g w' ρ' st'.heap) (Y:=⟨w,keep,ρ⟩) (pre:=[]) (n:=0) rfl rfl jo (λ p hp hno=>by
     obtain⟨q,hq,eq⟩:=bY.1 hno;obtain⟨o,ho,hoe⟩:=hmem q hq;have hfo:=Yc (oG hret.hn) q hq;rw[eq]at ho hfo;exact⟨q.2,hfo,hoe _ _ (R.objs _ (aA ho))⟩) R.back hfx p hp (bY.2 ⟨q,hq,e⟩)
   ·refine hrr _ _ (aex (st:=st') (ρ:=ρ') hk (λ i hi=>λ j e s n sc f hij hf=> ?_) hc);refine vM R hf hk λ b hb=> ?_;have hin0:=aQ.2 ⟨_,aA hf,hb⟩;have:=R.iJ hin0;refine⟨this.1,λ hlt=> ?_,λ hin1=> ?_⟩
    ·exact this.2.elim (λ h=>absurd hlt o_) .inr
    ·obtain⟨p,hp,ep⟩:=aQ.1 hin1;obtain⟨o,ho,_⟩:=hmem p hp;have:=fQ R.apart _ (aA ho) _ (aA hf) ep hb;dsimp only at this;cases hij;rw[<-this,bY.2 ⟨p,hp,rfl⟩]at hi;cases hi
   ·intro p hp;obtain⟨o,ho,hoe⟩:=hmem p hp;refine hoe _ _ ?_;exact aT.same (X:=aC g w' ρ' st'.heap) (Y:=aC g w' ρ' hout) hk (λ _ _=>rfl) rfl (λ _ _=>rfl) (R.objs _ (aA ho))
  rcases he with rfl|rfl
  ·exact post
  ·exact post
 obtain⟨ρI,RI⟩:=hI _ _ _ _ _ _ R0;exact dM hL 9 g fn.ntmps lv [(qj ρ hin).toArray] c (ZY L fn hin r hout) _ ⟨λ ρ a w' st R h=>fin _ (.inl rfl) ρ a w' st R h,λ i ρ a w' st R h=>h.elim,λ ρ a w' st R h=>fin _ (.inr rfl) ρ a w' st R h⟩ RI h
theorem aey(hL:bJ P L)(lv base:Nat){f:FuncId}{fn:Func}{c:Code}{hin:List (Nat×AO)}{aZ:List AV}{r:AV}{hout:List (Nat×AO)}(hf:P.funcs[f]? =some fn)(hn:(fn.name== "runtime.NumGoroutine")=false)(hb:fn.body=some c)(hsz:Nat.ble aZ.length fn.ntmps=true)
 (h:BG P L 9 fn.ntmps lv c (ZY L fn hin r hout) (Rk aZ hin base)):aj P f hin aZ r hout:=abl hL lv base hf hn hb hsz (yN.refl _) h
end
def ND(σ:List (Nat×Nat))(i:Nat):Bool:=match kE σ i with|some _=>true|none=>false
def Yd(σ:List (Nat×Nat)):AV->Bool
 | .own i=>ND σ i
 | .dG i .. =>ND σ i
 | .jH i .. =>ND σ i
 | .box i _=>ND σ i
 | .cf _ i _=>ND σ i
 |_=>true
def key1(σ:List (Nat×Nat)):AV->Bool
 | .agg cs=>cs.all (Yd σ)
 | .fn _ cs=>cs.all (Yd σ)
 |x=>Yd σ x
def key2(σ:List (Nat×Nat)):AV->Bool
 | .bI vs=>vs.all (key1 σ)
 |x=>key1 σ x
def ahX(σ:List (Nat×Nat)):AO->Bool
 | .box _ cs=>cs.all (Yd σ)
 | .row .. =>true
 | .mp _ ks _=>ks.all λ p=>match p.2 with|some i=>ND σ i|none=>true
 | .obs _=>true
 | .rn _ cs=>cs.all (Yd σ)
def yO(σ:List (Nat×Nat)):List (Nat×AO)->Bool
 |[]=>true
 |(k,o)::l=>ND σ k&&ahX σ o&&yO σ l
section
variable{σ:List (Nat×Nat)}{X Y:CX}
theorem mG{i:Nat}(h:ND σ i=true):∃j,kE σ i=some j/\lT σ i=some j:=by
 unfold ND at h;cases e:kE σ i with
 |none=>rw[e]at h;cases h
 |some j=>exact⟨j,rfl,by simp[lT,e]⟩
theorem C0.jS(hw:Y.w=X.w)(hk:Y.keep=X.keep)(hρ:∀k i,kE σ k=some i->Y.ρ i=X.ρ k){x:AV}{u:Value}(hr:Yd σ x=true):C0 Y (rG σ x) u↔C0 X x u:=by
 obtain⟨w,k,ρ⟩:=X;obtain⟨w',k',ρ'⟩:=Y;dsimp only at hw hk;subst hw hk;cases x with
 |own id=>
  obtain⟨j,e,e'⟩:=mG hr;simp only[rG,e',C0];rw[show ρ' j=ρ id from hρ id j e]
 |dG id s i n=>
  obtain⟨j,e,e'⟩:=mG hr;simp only[rG,e',C0];rw[show ρ' j=ρ id from hρ id j e]
 |jH id s i n=>
  obtain⟨j,e,e'⟩:=mG hr;simp only[rG,e',C0];rw[show ρ' j=ρ id from hρ id j e]
 |box id off=>
  obtain⟨j,e,e'⟩:=mG hr;simp only[rG,e',C0];rw[show ρ' j=ρ id from hρ id j e]
 |cf gg id off=>
  obtain⟨j,e,e'⟩:=mG hr;simp only[rG,e',C0];rw[show ρ' j=ρ id from hρ id j e]
 |_=>exact Iff.rfl
theorem aG.FW{R S:AV->Value->Prop}{m:AV->AV}{q:AV->Bool}(hi:∀x u,q x=true->(S (m x) u↔R x u)):∀{xs:List AV}{us:List Value},xs.all q=true->(aG S (xs.map m) us↔aG R xs us)
 |xs,us,hq=>by
  constructor
  ·intro h;refine⟨by simpa using h.1,λ i x u hx hu=>(hi x u (aoD.1 hq x (ao3 hx))).1 (h.2 i _ u (by rw[ao0,hx];rfl) hu)⟩
  ·intro h;refine⟨by simpa using h.1,λ i y u hy hu=> ?_⟩;rw[ao0]at hy;cases hx:xs[i]? with
   |none=>rw[hx]at hy;cases hy
   |some x=>rw[hx]at hy;cases hy;exact(hi x u (aoD.1 hq x (ao3 hx))).2 (h.2 i x u hx hu)
theorem C1.jS(hw:Y.w=X.w)(hk:Y.keep=X.keep)(hρ:∀k i,kE σ k=some i->Y.ρ i=X.ρ k){x:AV}{u:Value}(hr:key1 σ x=true):C1 Y (Ur σ x) u↔C1 X x u:=by
 have c0:∀{y:AV},Yd σ y=true->(∀cs,y≠ .agg cs)->(∀g cs,y≠ .fn g cs)->(C1 Y (rG σ y) u↔C1 X y u):=by
  intro y hy h1 h2;have:=C0.jS hw hk hρ (u:=u) hy;constructor
  ·intro h;refine C1.vG (this.1 ?_);have hne:∀cs,rG σ y≠ .agg cs:=by
    intro cs e;cases y<;>simp only[rG]at e<;>first|(split at e<;>cases e;done)|exact h1 _ rfl|cases e
   have hne2:∀g cs,rG σ y≠ .fn g cs:=by
    intro g cs e;cases y<;>simp only[rG]at e<;>first|(split at e<;>cases e;done)|exact h2 _ _ rfl|cases e
   revert h hne hne2;cases rG σ y<;>intro h hne hne2<;>first|exact h|exact absurd rfl (hne _)|exact absurd rfl (hne2 _ _)
  ·intro h;refine C1.vG (this.2 ?_);revert h h1 h2;cases y<;>intro h1 h2 h<;>first|exact h|exact absurd rfl (h1 _)|exact absurd rfl (h2 _ _)
 cases x with
 |agg cs=>exact exists_congr λ us=>and_congr_right λ _=>aG.FW (λ x u h=>C0.jS hw hk hρ h) hr
 |fn g cs=>exact exists_congr λ us=>and_congr_right λ _=>aG.FW (λ x u h=>C0.jS hw hk hρ h) hr
 |v y=>exact c0 (y:= .v y) rfl (λ _ h=>by cases h) (λ _ _ h=>by cases h)
 |bI vs=>exact c0 (y:= .bI vs) rfl (λ _ h=>by cases h) (λ _ _ h=>by cases h)
 |sl s n sc f=>exact c0 (y:= .sl s n sc f) rfl (λ _ h=>by cases h) (λ _ _ h=>by cases h)
 |own i=>exact c0 (y:= .own i) hr (λ _ h=>by cases h) (λ _ _ h=>by cases h)
 |dG i s j k=>exact c0 (y:= .dG i s j k) hr (λ _ h=>by cases h) (λ _ _ h=>by cases h)
 |jH i s j k=>exact c0 (y:= .jH i s j k) hr (λ _ h=>by cases h) (λ _ _ h=>by cases h)
 |box i k=>exact c0 (y:= .box i k) hr (λ _ h=>by cases h) (λ _ _ h=>by cases h)
 |cf gg i k=>exact c0 (y:= .cf gg i k) hr (λ _ h=>by cases h) (λ _ _ h=>by cases h)
 |el cs k=>exact c0 (y:= .el cs k) rfl (λ _ h=>by cases h) (λ _ _ h=>by cases h)
 |junk=>exact c0 (y:= .junk) rfl (λ _ h=>by cases h) (λ _ _ h=>by cases h)
theorem C2.jS(hw:Y.w=X.w)(hk:Y.keep=X.keep)(hρ:∀k i,kE σ k=some i->Y.ρ i=X.ρ k){x:AV}{u:Value}(hr:key2 σ x=true)(h:C2 X x u):C2 Y (FT σ x) u:=by
 cases x with
 |bI vs=>
  obtain⟨us,e,ha⟩:=h;exact⟨us,e,(aG.FW (λ x u h=>C1.jS hw hk hρ h) hr).2 ha⟩
 |agg cs=>exact C2.mP ((C1.jS hw hk hρ (x:= .agg cs) hr).2 h)
 |fn g cs=>exact C2.mP ((C1.jS hw hk hρ (x:= .fn g cs) hr).2 h)
 |v y=>exact C2.mP ((C1.jS hw hk hρ (x:= .v y) hr).2 h)
 |sl s n sc f=>exact C2.mP ((C1.jS hw hk hρ (x:= .sl s n sc f) hr).2 h)
 |own i=>exact C2.mP ((C1.jS hw hk hρ (x:= .own i) hr).2 h)
 |dG i s j k=>exact C2.mP ((C1.jS hw hk hρ (x:= .dG i s j k) hr).2 h)
 |jH i s j k=>exact C2.mP ((C1.jS hw hk hρ (x:= .jH i s j k) hr).2 h)
 |box i k=>exact C2.mP ((C1.jS hw hk hρ (x:= .box i k) hr).2 h)
 |cf gg i k=>exact C2.mP ((C1.jS hw hk hρ (x:= .cf gg i k) hr).2 h)
 |el cs k=>exact C2.mP ((C1.jS hw hk hρ (x:= .el cs k) hr).2 h)
 |junk=>exact C2.mP ((C1.jS hw hk hρ (x:= .junk) hr).2 h)
theorem jR.jS{ρ ρ':Nat->Value}(hρ:∀k i,kE σ k=some i->ρ' i=ρ k):∀{ks:List (ByteArray×Option Nat)}{vs:List Value},(ks.all λ p=>match p.2 with|some i=>ND σ i|none=>true)=true->(jR ρ' (jS σ ks) vs↔jR ρ ks vs)
 |[],_,_=>Iff.rfl
 |(k,none)::l,vs,h=>by
  simp only[List.all_cons,aon]at h;simp only[Go.Proofs.YtifjccndenojlaaGreat.jS,jR];exact exists_congr λ v=>exists_congr λ r=>and_congr_right λ _=>and_congr ⟨λ _ i hi=>(by cases hi),λ _ i hi=>(by cases hi)⟩ (jR.jS hρ h.2)
 |(k,some i)::l,vs,h=>by
  simp only[List.all_cons,aon]at h;obtain⟨j,e,e'⟩:=mG h.1;simp only[Go.Proofs.YtifjccndenojlaaGreat.jS,jR,e'];refine exists_congr λ v=>exists_congr λ r=>and_congr_right λ _=>and_congr ?_ (jR.jS hρ h.2);constructor
  ·intro q x hx;cases hx;rw[<-hρ i j e];exact q j rfl
  ·intro q x hx;cases hx;rw[hρ i j e];exact q i rfl
theorem aT.jS(hw:Y.w=X.w)(hk:Y.keep=X.keep)(hρ:∀k i,kE σ k=some i->Y.ρ i=X.ρ k){k i:Nat}{o:AO}(hi:kE σ k=some i)(hr:ahX σ o=true):aT Y i (o.ren σ)↔aT X k o:=by
 cases o with
 |box t cs=>
  simp only[AO.ren,aT,hw,hρ k i hi];exact exists_congr λ b=>exists_congr λ us=>and_congr_right λ _=>and_congr_right λ _=>aG.FW (λ x u h=>C0.jS hw hk hρ h) hr
 |row e s n sc f=>
  simp only[AO.ren,aT,pJ,hw,hk,hρ k i hi]
 |mp t ks rs=>
  have hh:∀hs,jv Y rs hs↔jv X rs hs:=λ hs=>⟨jv.mono (by rw[hk];exact λ _ h=>h) (λ _ _=>by rw[hw]) (λ _ _=>by rw[hw]),jv.mono (by rw[hk];exact λ _ h=>h) (λ _ _=>by rw[hw]) (λ _ _=>by rw[hw])⟩;simp only[AO.ren,aT,hw,hρ k i hi,Aj,hh];exact exists_congr λ b=>exists_congr λ es=>exists_congr λ c=>exists_congr λ vs=>exists_congr λ hs=>and_congr_right λ _=>and_congr_right λ _=>and_congr_left λ _=>jR.jS (λ k i e=>congrArg dJ (hρ k i e)) hr
 |obs o=>
  simp only[AO.ren,aT,hw,hk,hρ k i hi]
 |rn e cs=>
  simp only[AO.ren,aT,hw,hρ k i hi,aoO];exact exists_congr λ us=>and_congr_right λ _=>aG.FW (λ x u h=>C0.jS hw hk hρ h) hr
theorem qK{ρ ρ':Nat->Value}(hρ:∀k i,kE σ k=some i->ρ' i=ρ k):∀{h:List (Nat×AO)},yO σ h=true->ah ρ' (iL σ h)=ah ρ h
 |[],_=>rfl
 |(k,o)::l,h=>by
  simp only[yO,aon]at h;obtain⟨j,e,e'⟩:=mG h.1.1;simp only[iL,e'];rw[aS,aS,qK hρ h.2];dsimp only;rw[hρ k j e]
theorem Eh:∀{h:List (Nat×AO)},yO σ h=true-> ∀p∈h,∃i,kE σ p.1=some i/\(i,p.2.ren σ)∈iL σ h/\ahX σ p.2=true
 |[],_,p,hp=>by cases hp
 |(k,o)::l,h,p,hp=>by
  simp only[yO,aon]at h;obtain⟨j,e,e'⟩:=mG h.1.1;simp only[iL,e'];rcases aot.1 hp with rfl|hp
  ·exact⟨j,e,aol,h.1.2⟩
  ·obtain⟨i,h1,h2,h3⟩:=Eh h.2 p hp;exact⟨i,h1,aoq _ h2,h3⟩
theorem Aw:∀{h:List (Nat×AO)},yO σ h=true-> ∀q∈iL σ h,∃p∈h,kE σ p.1=some q.1/\q.2=p.2.ren σ/\ahX σ p.2=true
 |[],_,q,hq=>by cases hq
 |(k,o)::l,h,q,hq=>by
  simp only[yO,aon]at h;obtain⟨j,e,e'⟩:=mG h.1.1;simp only[iL,e']at hq;rcases aot.1 hq with rfl|hq
  ·exact⟨(k,o),aol,e,rfl,h.1.2⟩
  ·obtain⟨p,h1,h2⟩:=Aw h.2 q hq;exact⟨p,aoq _ h1,h2⟩
end
theorem aj.ren(h:aj P f hin aZ r hout)(σ:List (Nat×Nat))
  (hb:(uQ (σ.map (·.2))&&yO σ hin&&yO σ hout&&aZ.all (key1 σ)&&key2 σ r)=true):aj P f (iL σ hin) (aZ.map (Ur σ)) (FT σ r) (iL σ hout):=by
 simp only[aon]at hb;obtain⟨⟨⟨⟨hnd,hki⟩,hko⟩,hka⟩,hkr⟩:=hb;have hn:=FQ hnd;refine⟨h.1,λ w keep ρ args hkeep jo anb hnk hargs=> ?_⟩;let XI:Nat->Value:=λ k=>match kE σ k with|some i=>ρ i|none=>undef
 have e0:∀k i,kE σ k=some i->ρ i=XI k:=λ k i e=>by simp only[XI,e]
 have BH:ah ρ (iL σ hin)=ah XI hin:=qK e0 hki;have key:=h.2 w keep XI args hkeep (λ p hp=>by
   obtain⟨i,h1,h2,h3⟩:=Eh hki p hp;exact(aT.jS (X:=⟨w,keep,XI⟩) (Y:=⟨w,keep,ρ⟩) rfl rfl e0 h1 h3).1 (jo _ h2)) (by rw[<-BH];exact anb) (by rw[<-BH];exact hnk)
  ((aG.FW (λ x u h=>C1.jS (X:=⟨w,keep,XI⟩) (Y:=⟨w,keep,ρ⟩) rfl rfl e0 h) hka).1 hargs)
 refine key.mono ?_;rintro e w' ⟨u,abm,rfl,hbel,hfix,hc,ho,hnd',hnew⟩;let ρ':Nat->Value:=λ i=>match Yb σ i with|some k=>abm k|none=>ρ i
 have e1:∀k i,kE σ k=some i->ρ' i=abm k:=λ k i e=>by simp only[ρ',Ar hn (su e)]
 have aez:ah ρ' (iL σ hout)=ah abm hout:=qK e1 hko;have hM:(λ b=>b∈ah ρ (iL σ hin))=(λ b=>b∈ah XI hin):=by rw[BH]
 have hkk:(aC (dX w keep (λ b=>b∈ah ρ (iL σ hin))) w' ρ' (iL σ hout)).keep=(aC (dX w keep (λ b=>b∈ah XI hin)) w' abm hout).keep:=by
  funext b
  simp only[aC,aJ,aez,BH]
 refine⟨u,ρ',rfl,by rw[hM];exact hbel, ?_,C2.jS (X:=aC (dX w keep (λ b=>b∈ah XI hin)) w' abm hout) (Y:=aC (dX w keep (λ b=>b∈ah ρ (iL σ hin))) w' ρ' (iL σ hout)) rfl hkk e1 hkr hc, ?_,by rw[aez];exact hnd',by rw[aez,BH];exact hnew⟩
 ·intro p hp q hq epq;obtain⟨p0,hp0,h1,_⟩:=Aw hki p hp;obtain⟨q0,hq0,h2,_⟩:=Aw hko q hq;have hk0:q0.1=p0.1:=by
   have k1:=Ar hn (su h1);have k2:=Ar hn (su h2);rw[epq,k1]at k2;exact(Option.some.inj k2).symm
  rw[e1 _ _ h1,e0 _ _ h1];exact hfix p0 hp0 q0 hq0 hk0
 ·intro q hq;obtain⟨p,hp,h1,h2,h3⟩:=Aw hko q hq;rw[h2];exact(aT.jS (X:=aC (dX w keep (λ b=>b∈ah XI hin)) w' abm hout) (Y:=aC (dX w keep (λ b=>b∈ah ρ (iL σ hin))) w' ρ' (iL σ hout)) rfl hkk e1 h1 h3).2 (ho p hp)
theorem bZ.Ro{L:Lay}{W:Walk}{K:AV->AS->Prop}(k:Nat)(τ:List (Nat×Nat)){ahY:List AV}(hs:aj P f hin ahY r hout)
  (ha:ahY.map (Ur ((k,d)::τ))=aZ)(hh:aa7 st (iL ((k,d)::τ) hin))
  (hb:(uQ (((k,d)::τ).map (·.2))&&yO ((k,d)::τ) hin&&yO ((k,d)::τ) hout&&ahY.all (key1 ((k,d)::τ))&&key2 ((k,d)::τ) r)=true)
  (hb2:(uQ ((iL ((k,d)::τ) hin).map (·.1))&&(ahY.map (Ur ((k,d)::τ))).all Um&&fU (iL ((k,d)::τ) hout) (iL ((k,d)::τ) hout)&&adU (iL ((k,d)::τ) hout) (FT ((k,d)::τ) r)&&wW d (iL ((k,d)::τ) hin) (iL ((k,d)::τ) hout))=true)
  (hK:K (FT ((k,d)::τ) r) (st.Uc d (iL ((k,d)::τ) hin) (iL ((k,d)::τ) hout))):bZ P L W d f aZ st K:=by
 subst ha;exact .Uc _ _ _ (hs.ren _ hb) hh hb2 hK
section
variable{P:Program}
def ak{α:Type}(P:Program)(m:Sem α):Prop:= ∀(w w':World)(u:α)(w1:World),m.run P w= .ok u w1->w1=w/\m.run P w'= .ok u w'
theorem ak.pure{α:Type}(x:α):ak P (Pure.pure x:Sem α):=by
 intro w w' u w1 h;simp only[aoQ]at h⊢;cases h;exact⟨rfl,rfl⟩
theorem ak.halt{α:Type}(h:Halt):ak P (Sem.halt h:Sem α):=by
 intro w w' u w1 h;simp only[Sem.run_halt]at h;cases h
theorem ak.stuck{α:Type}(h:String):ak P (Go.stuck h:Sem α):=ak.halt _
theorem ak.unsupported{α:Type}(h:Unsupported):ak P (Go.unsupported h:Sem α):=ak.halt _
theorem ak.program:ak P (Go.program):=by
 intro w w' u w1 h;simp only[run_program]at h⊢;cases h;exact⟨rfl,rfl⟩
theorem ak.bind{α β:Type}{m:Sem α}{k:α->Sem β}(hm:ak P m)(hk:∀x,ak P (k x)):ak P (m>>=k):=by
 intro w w' u w1 h;rw[aoy]at h⊢;cases e:m.run P w with
 |ok x w0=>
  rw[e]at h;obtain⟨rfl,e'⟩:=hm w w' x w0 e;rw[e',aow];exact hk x _ w' u w1 h
 |halt x w0=>rw[e]at h;cases h
theorem ak.dead{α:Type}{m:Sem α}(h:∀w u w1,m.run P w≠ .ok u w1):ak P m:=λ w _ u w1 e=>absurd e (h w u w1)
theorem vP{α β:Type}{m:Sem α}{k:α->Sem β}(hk:∀x w u w1,(k x).run P w≠ .ok u w1)(w:World)(u:β)(w1:World):(m>>=k).run P w≠ .ok u w1:=by
 rw[aoy];cases e:m.run P w with
 |ok x w0=>rw[aow];exact hk x w0 u w1
 |halt x w0=>exact λ h=>by cases h
theorem Ce{α:Type}(e:RuntimeError)(w:World)(u:α)(w1:World):(runtimePanic e:Sem α).run P w≠ .ok u w1:=by
 unfold runtimePanic;refine vP (λ p w u w1=> ?_) w u w1;cases e<;>first|exact(λ h=>by cases h)|exact vP (λ _=>vP λ _ w u w1 h=>by cases h) _ _ _
theorem ak.bounds{α:Type}(k:IntKind)(x y:Int)(c:BoundsCode):ak P (boundsPanic k x y c:Sem α):=by
 refine ak.dead λ w u w1=> ?_;unfold boundsPanic;dsimp only;split
 ·exact vP (λ _ w u w1=>Ce _ w u w1) w u w1
 ·exact vP (λ _ w u w1=>Ce _ w u w1) w u w1
theorem ak.Ye{α:Type}(e:RuntimeError):ak P (runtimePanic e:Sem α):=ak.dead λ w u w1=>Ce e w u w1
theorem ak.underlying(t:TypeId):ak P (Go.underlying t):=by
 unfold Go.underlying;refine ak.bind ak.program λ p=> ?_;split
 ·exact ak.pure _
 ·exact ak.halt _
theorem ak.typeInfo(t:TypeId):ak P (Go.typeInfo t):=by
 unfold Go.typeInfo;refine ak.bind ak.program λ p=> ?_;split
 ·exact ak.pure _
 ·exact ak.halt _
theorem ak.sizeOf(t:TypeId):ak P (Go.sizeOf t):=ak.bind (ak.typeInfo t) λ _=>ak.pure _
theorem ak.asIntOf(v:Value):ak P (Go.asIntOf v):=by
 unfold Go.asIntOf;split
 ·exact ak.pure _
 ·exact ak.halt _
 ·exact ak.halt _
theorem ak.asBool(v:Value):ak P (Go.asBool v):=by
 unfold Go.asBool;split
 ·exact ak.pure _
 ·exact ak.halt _
theorem ak.sureAddr(v:Value):ak P (Instr.sureAddr v):=by
 unfold Instr.sureAddr;split
 ·exact ak.pure _
 ·exact ak.halt _
theorem ak.indexAt(t:TypeId)(x i:Value):ak P (Instr.indexAt t x i):=by
 unfold Instr.indexAt;with_reducible repeat' first
  |exact ak.pure _
  |exact ak.stuck _
  |exact ak.unsupported _
  |exact ak.bounds _ _ _ _
  |refine ak.bind (ak.asIntOf _) λ _=> ?_
  |refine ak.bind (ak.underlying _) λ _=> ?_
  |refine ak.bind (ak.sureAddr _) λ _=> ?_
  |refine ak.bind (ak.sizeOf _) λ _=> ?_
  |refine ak.bind (ak.pure _) λ _=> ?_
  |refine ak.bind (ak.stuck _) λ _=> ?_
  |(dsimp only;split)
  |split
theorem ak.asAgg(v:Value):ak P (Go.asAgg v):=by
 unfold Go.asAgg;split
 ·exact ak.pure _
 ·exact ak.halt _
theorem ak.isAgg(t:TypeId):ak P (Go.isAgg t):=by
 unfold Go.isAgg;refine ak.bind (ak.underlying _) λ _=> ?_;split<;>exact ak.pure _
theorem ak.part(t:TypeId)(cs:Array Value)(off:Nat):ak P (Go.part t cs off):=by
 unfold Go.part;refine ak.bind (ak.isAgg _) λ _=> ?_;split
 ·exact ak.bind (ak.sizeOf _) λ _=>ak.pure _
 ·split
  ·exact ak.pure _
  ·exact ak.halt _
theorem ak.field(t:TypeId)(x:Value)(i:Nat):ak P (Instr.field t x i):=by
 unfold Instr.field;refine ak.bind (ak.underlying _) λ _=> ?_;split
 ·split
  ·exact ak.bind (ak.asAgg _) λ _=>ak.part _ _ _
  ·exact ak.stuck _
 ·exact ak.stuck _
theorem ak.index(t:TypeId)(x i:Value):ak P (Instr.index t x i):=by
 unfold Instr.index;with_reducible repeat' first
  |exact ak.pure _
  |exact ak.stuck _
  |exact ak.bounds _ _ _ _
  |exact ak.part _ _ _
  |refine ak.bind (ak.asIntOf _) λ _=> ?_
  |refine ak.bind (ak.underlying _) λ _=> ?_
  |refine ak.bind (ak.sizeOf _) λ _=> ?_
  |refine ak.bind (ak.pure _) λ _=> ?_
  |(dsimp only;split)
  |split
theorem ak.extract(v:Value)(i:Nat):ak P (Instr.extract v i):=by
 unfold Instr.extract;split
 ·split
  ·exact ak.pure _
  ·exact ak.halt _
 ·exact ak.halt _
theorem ak.intArith(op:BinOp)(k:IntKind)(x y:Int):ak P (Op.intArith op k x y):=by
 unfold Op.intArith;split<;>first|exact ak.pure _|exact ak.halt _
theorem ak.intBits(op:BinOp)(k:IntKind)(x y:Int):ak P (Op.intBits op k x y):=by
 unfold Op.intBits;dsimp only;split<;>first|exact ak.pure _|exact ak.halt _
theorem ak.intCmp(op:BinOp)(x y:Int):ak P (Op.intCmp op x y):=by
 unfold Op.intCmp;split<;>first|exact ak.pure _|exact ak.halt _
theorem ak.intDiv(op:BinOp)(k:IntKind)(x y:Int):ak P (Op.intDiv op k x y):=by
 unfold Op.intDiv;split
 ·exact ak.Ye _
 ·split<;>first|exact ak.pure _|exact ak.halt _
theorem ak.shift(op:BinOp)(k k':IntKind)(x y:Int):ak P (Op.shift op k x k' y):=by
 unfold Op.shift;split
 ·exact ak.Ye _
 ·dsimp only;split<;>first|exact ak.pure _|exact ak.halt _
theorem ak.unary(op:UnOp)(x:Value):ak P (Op.unary op x):=by
 unfold Op.unary;split<;>first|exact ak.pure _|exact ak.halt _|exact ak.intArith _ _ _ _|exact ak.intBits _ _ _ _
theorem ak.akH(op:BinOp)(t:TypeId)(k k':IntKind)(x y:Int):ak P (binOp op t (.int k x) (.int k' y)):=by
 cases op<;>unfold binOp<;>dsimp only<;>first|exact ak.shift _ _ _ _ _|(split<;>first|exact ak.halt _|exact ak.intArith _ _ _ _|exact ak.intBits _ _ _ _|exact ak.intCmp _ _ _|exact ak.intDiv _ _ _ _)
theorem ak.al9(op:BinOp)(t:TypeId)(x y:Operand)(k k':IntKind)(a b:Int):ak P (eqGuard op t x y (.int k a) (.int k' b)):=by
 cases op<;>exact ak.pure _
theorem ak.ahZ{s t:TypeId}{k:IntKind}(ht:P.underlying t=some (.int k))(k':IntKind)(n:Int):ak P (convert s t (.int k' n)):=by
 intro w w' u w1 h;unfold convert at h⊢;simp only[aoy]at h⊢;cases e:(Go.underlying s).run P w with
 |halt x w0=>rw[e]at h;cases h
 |ok d w0=>
  obtain⟨rfl,e'⟩:=ak.underlying s w w' d w0 e;have hu:∀w,(Go.underlying t).run P w= .ok (.int k) w:=by
   intro w;unfold Go.underlying;simp only[aoy,run_program,aow,ht];rfl
  rw[e,aow,hu,aow]at h;rw[e',aow,hu,aow];have hf:ak P (Conv.intToInt k n):=ak.pure _;cases d<;>exact hf w0 w' u w1 h
theorem ak.OE{α β:Type}{m:Sem α}{k:α->Sem β}{x:α}(hm:∀w,m.run P w= .ok x w)(hk:ak P (k x)):ak P (m>>=k):=by
 intro w w' u w1 h;rw[aoy,hm,aow]at h;rw[aoy,hm,aow];exact hk w w' u w1 h
theorem ak.stringOp(op:BinOp)(x y:ByteArray):ak P (Op.stringOp op x y):=by
 unfold Op.stringOp;dsimp only;split
 ·split
  ·exact ak.halt _
  ·exact ak.pure _
 all_goals first|exact ak.pure _|exact ak.halt _
theorem ak.akI(op:BinOp)(t:TypeId)(x y:ByteArray):ak P (binOp op t (.string x) (.string y)):=by
 cases op<;>unfold binOp<;>dsimp only<;>exact ak.stringOp _ x y
theorem ak.eqStr(op:BinOp)(t:TypeId)(x y:Operand)(a b:ByteArray):ak P (eqGuard op t x y (.string a) (.string b)):=by
 cases op<;>exact ak.pure _
theorem ak.sliceBound(x:Value)(y:Nat)(c:BoundsCode):ak P (Instr.sliceBound x y c):=by
 unfold Instr.sliceBound;refine ak.bind (ak.asIntOf _) λ _=> ?_;dsimp only;split
 ·exact ak.pure _
 ·exact ak.bounds _ _ _ _
theorem ak.sliceBounds(b:Bool)(l c:Nat)(lo hi:Option Value):ak P (Instr.sliceBounds b l c lo hi none):=by
 unfold Instr.sliceBounds;cases lo<;>cases hi<;>with_reducible repeat' first
  |exact ak.pure _
  |refine ak.bind (ak.sliceBound _ _ _) λ _=> ?_
  |refine ak.bind (ak.pure _) λ _=> ?_
  |dsimp only
theorem ak.slice(t:TypeId){x:Value}(hx:(∃A n c,x= .slice A n c)\/(∃s,x= .string s)\/ ∃A,x= .pointer (some A))(lo hi:Option Value):ak P (Instr.sliceAt t x lo hi none):=by
 unfold Instr.sliceAt;refine ak.bind (ak.underlying _) λ d=> ?_;split
 ·refine ak.bind (ak.sureAddr _) λ _=>ak.bind (ak.sliceBounds _ _ _ _ _) λ _=> ?_;exact ak.bind (ak.sizeOf _) λ _=>ak.pure _
 ·unfold Instr.slice;refine ak.bind (ak.underlying _) λ d=> ?_;rcases hx with⟨A,n,c,rfl⟩|⟨s,rfl⟩|⟨A,rfl⟩
  ·cases d<;>first
    |exact ak.halt _
    |exact ak.bind (ak.sliceBounds _ _ _ _ _) λ _=>ak.bind (ak.sizeOf _) λ _=>ak.pure _
  ·cases d<;>first
    |exact ak.halt _
    |exact ak.bind (ak.sliceBounds _ _ _ _ _) λ _=>ak.pure _
  ·cases d<;>first
    |exact ak.halt _
    |(refine ak.bind (ak.pure _) λ _=>ak.bind (ak.underlying _) λ d=> ?_
      cases d<;>first
       |exact ak.halt _
       |exact ak.bind (ak.sliceBounds _ _ _ _ _) λ _=>ak.bind (ak.sizeOf _) λ _=>ak.pure _)
theorem ak.arrayAt(t:TypeId)(x:Value):ak P (Instr.arrayAt t x):=by
 unfold Instr.arrayAt;refine ak.bind (ak.underlying _) λ d=> ?_;split
 ·split
  ·split
   ·exact ak.Ye _
   ·exact ak.pure _
  ·exact ak.halt _
 ·exact ak.halt _
theorem ak.len(t ty:TypeId){x:Value}(hx:(∃A n c,x= .slice A n c)\/ ∃s,x= .string s):ak P (Builtin.len_ #[t] ty #[x]):=by
 unfold Builtin.len_;show ak P ((Go.underlying t)>>=_);refine ak.bind (ak.underlying _) λ d=> ?_;rcases hx with⟨A,n,c,rfl⟩|⟨s,rfl⟩<;>cases d<;>first
  |exact ak.pure _
  |exact ak.halt _
  |(refine ak.bind (ak.underlying _) λ d=> ?_
    cases d<;>first|exact ak.pure _|exact ak.halt _)
end
def aeA:AV->Bool
 | .v (.int _ _)=>true
 |_=>false
def ah0:AV->Bool
 | .v (.string _)=>true
 |_=>false
def sliceB:AV->Bool
 | .v (.string _)=>true
 | .v (.slice _ _ _)=>true
 | .sl .. =>true
 |_=>false
def akJ:AV->Bool
 | .own _=>true
 | .box _ _=>true
 |x=>sliceB x
def anc:AV->Bool
 | .box _ _=>true
 |_=>false
def akK(L:Lay)(t:TypeId):Bool:=match aX L t with|some i=>(match i.kind with| .int _=>true|_=>false)|none=>false
def zy(L:Lay)(st:AS)(op:Op):Bool:=
 match op with
 | .move _=>true
 | .assign _=>true
 | .pick .. =>true
 | .extract .. =>true
 | .fieldAddr .. =>true
 | .indexAddr .. =>true
 | .unOp .. =>true
 | .build .. =>true
 | .field .. =>true
 | .index .. =>true
 | .nilCheck x=>anc (st.ev x)
 | .binOp _ _ x y _=>(aeA (st.ev x)&&aeA (st.ev y))||(ah0 (st.ev x)&&ah0 (st.ev y))
 | .convert _ t x=>aeA (st.ev x)&&akK L t
 | .slice _ x _ _ none=>akJ (st.ev x)
 | .sliceToArrayPointer _ x=>sliceB (st.ev x)
 | .call {callee:= .builtin .len,args:=xs,argTypes:=ts}=>(match ts.toList,xs.toList with|[_],[x]=>sliceB (st.ev x)|_,_=>false)
 |_=>false
section
variable{P:Program}{L:Lay}{g:Base}{N:Nat}{bs:List (Array Value)}{ρ:Nat->Value}{a:Act}{w:World}{st:AS}
theorem J5{X:CX}{x:AV}{u:Value}(hx:C2 X x u)(h:aeA x=true):∃k n,u= .int k n:=by
 unfold aeA at h;split at h
 ·exact⟨_,_,C2.dD hx⟩
 ·cases h
theorem UZ{X:CX}{x:AV}{u:Value}(hx:C2 X x u)(h:ah0 x=true):∃s,u= .string s:=by
 unfold ah0 at h;split at h
 ·exact⟨_,C2.dD hx⟩
 ·cases h
theorem J6{X:CX}{x:AV}{u:Value}(hx:C2 X x u)(h:sliceB x=true):(∃A n c,u= .slice A n c)\/ ∃s,u= .string s:=by
 unfold sliceB at h;split at h
 ·exact .inr ⟨_,C2.dD hx⟩
 ·exact .inl ⟨_,_,_,C2.dD hx⟩
 ·cases C2.wY hx with
  |sl _ _ _ _ A c us _ _ _ _ _ _ _ _=>exact .inl ⟨_,_,_,rfl⟩
 ·cases h
theorem ak.fieldAt(hL:bJ P L){t:TypeId}{p:AV}{pv:Value}{i:Nat}{K:AV->Prop}(h:qc L t p i K):ak P (Instr.fieldAt t pv i):=by
 unfold qc at h;split at h
 ·rename_i ti hti;split at h
  ·rename_i fs hk;split at h
   ·rename_i o ft hfs;split at h
    ·rename_i fi hfi;obtain⟨fields,hu,hmap⟩:=ni hL hti hk;obtain⟨f,hf,ho,hft⟩:=Jz hmap hfs;cases hs:Nat.ble 1 fi.size with
     |false=>rw[hs]at h;exact h.elim
     |true=>
      have h1:=aox hs;unfold Instr.fieldAt;refine ak.OE (x:= .struct fields) (λ w=>run_underlying hu w) ?_;dsimp only;rw[hf];dsimp only;refine ak.bind (ak.sureAddr _) λ a=>ak.bind ?_ λ _=>ak.pure _;unfold fieldPlace;refine ak.OE (x:=fi.size) (λ w=>by rw[hft];exact gQ hL hfi w) ?_;rw[if_neg o_];exact ak.pure _
    ·exact h.elim
   ·exact h.elim
  ·exact h.elim
 ·exact h.elim
theorem aeB(hL:bJ P L){t:TypeId}{i:TI}(h:aX L t=some i):∃z,∀w,(zeroValue t).run P w= .ok z w:=by
 obtain⟨info,z,d,h1,h2,h3,h4,h5,h6,h7⟩:=jw hL h;exact⟨z,λ w=>by simp[zeroValue,typeInfo,h1,h3]⟩
theorem ak.ah1(hL:bJ P L){hh:List (Nat×AO)}{t:TypeId}{ps:List (Nat×AV)}{parts:Array (Nat×Value)}{K:AV->Prop}(h:FN L hh t ps K):ak P (Instr.build t parts):=by
 unfold FN at h;split at h
 ·rename_i ti hti;obtain⟨z,hz⟩:=aeB hL hti;unfold Instr.build;refine ak.OE hz ?_;split at h
  ·rename_i fs hk;obtain⟨fields,hu,hmap⟩:=ni hL hti hk;refine ak.OE (x:= .struct fields) (λ w=>run_underlying hu w) ?_;dsimp only;split at h
   ·rename_i pl aee;rw[<-hmap]at aee;refine ak.OE (x:=pl.toArray) (λ w=> ?_) ?_
    ·have hm:=zq hL w aee;rw[Array.mapM_eq_mapM_toList];simp only[Sem.run_map,hm,aow]
    ·split
     ·exact ak.pure _
     ·exact ak.halt _
   ·exact h.elim
  ·rename_i n e hk;refine ak.OE (x:= .array n e) (λ w=>run_underlying (qH hL hti hk) w) ?_;dsimp only;refine ak.bind (ak.sizeOf _) λ _=> ?_;split
   ·exact ak.pure _
   ·exact ak.halt _
  ·exact h.elim
 ·exact h.elim
theorem ah2(hL:bJ P L){t:TypeId}(h:akK L t=true):∃k,P.underlying t=some (.int k):=by
 unfold akK at h;split at h
 ·rename_i i hi;split at h
  ·rename_i k hk;exact⟨k,BX hL hi hk⟩
  ·cases h
 ·cases h
theorem Yf{L:Lay}{st:AS}{t:TypeId}{id:Nat}{x:AV}{lo hi:Option AV}{mx:Option AV}{K:AV->AS->Prop}(hx:x= .own id)(h:aslice L st t x lo hi mx K):∃e s n sc f,aK id st.heap=some (.row e s n sc f):=by
 unfold aslice at h;split at h
 ·split at h;all_goals first
   |(cases hx;done)
   |exact h.elim
   |skip
  cases hx;split at h
  ·rename_i hfo;exact⟨_,_,_,_,_,hfo⟩
  ·exact h.elim
 ·exact h.elim
theorem U0(hL:bJ P L){W:Walk}(R:Rel g N bs ρ a w st){o:Oper}{d:Nat}{K:AV->AS->Prop}(hp:zy L st o.op=true)(h:XY P L W d st o.op K):
  ∃x u st' ρ',K x st'/\Rel g N bs ρ' a w st'/\C2 (aC g w ρ' st'.heap) x u/\ ∀w',(execOp a.eval o).run P w'= .ok (.value u) w':=by
 have fin:∀{m:Sem Value},ak P m->(∀w,(execOp a.eval o).run P w=(do pure (.value (<-m)):Sem Next).run P w)->(∃x u,K x st/\C2 (aC g w ρ st.heap) x u/\(execOp a.eval o).run P w= .ok (.value u) w)-> ∃x u st' ρ',K x st'/\Rel g N bs ρ' a w st'/\C2 (aC g w ρ' st'.heap) x u/\ ∀w',(execOp a.eval o).run P w'= .ok (.value u) w':=by
  rintro m hm e ⟨x,u,h1,h2,h3⟩;refine⟨x,u,st,ρ,h1,R,h2,λ w'=> ?_⟩;rw[e]at h3⊢;exact(ak.bind hm (λ _=>ak.pure _) w w' _ _ h3).2
 have plain:∀{u0:Value},(execOp a.eval o=pure (.value u0))->(∃x u,K x st/\C2 (aC g w ρ st.heap) x u/\(execOp a.eval o).run P w= .ok (.value u) w)-> ∃x u st' ρ',K x st'/\Rel g N bs ρ' a w st'/\C2 (aC g w ρ' st'.heap) x u/\ ∀w',(execOp a.eval o).run P w'= .ok (.value u) w':=by
  rintro u0 e ⟨x,u,h1,h2,h3⟩;refine⟨x,u,st,ρ,h1,R,h2,λ w'=> ?_⟩;rw[e]at h3⊢;simp only[aoQ]at h3⊢;cases h3;rfl
 have quiet:mX o.op=true-> ∃x u,K x st/\C2 (aC g w ρ st.heap) x u/\(execOp a.eval o).run P w= .ok (.value u) w:=λ hq=>Au hL R hq h;unfold zy at hp;split at hp
 ·rename_i x e;exact plain (u0:=a.eval x) (by simp only[execOp,e]) (quiet (by rw[e];rfl))
 ·rename_i x e;exact plain (u0:=a.eval x) (by simp only[execOp,e]) (quiet (by rw[e];rfl))
 ·rename_i c x y e;refine fin (m:=do pure (if<-asBool (a.eval c)then a.eval x else a.eval y)) (ak.bind (ak.asBool _) λ _=>ak.pure _) ?_ (quiet (by rw[e];rfl));intro w;simp only[execOp,e];cases hc:a.eval c<;>rfl
 ·rename_i x i e;exact fin (ak.extract (a.eval x) i) (λ _=>by simp only[execOp,e]) (quiet (by rw[e];rfl))
 ·rename_i t x i e;have h':qc L t (st.ev x) i (λ y=>K y st):=by rw[e]at h;exact h
  exact fin (m:=Instr.fieldAt t (a.eval x) i) (ak.fieldAt hL h') (λ _=>by simp only[execOp,e]) (quiet (by rw[e];rfl))
 ·rename_i t x i e;exact fin (ak.indexAt t (a.eval x) (a.eval i)) (λ _=>by simp only[execOp,e]) (quiet (by rw[e];rfl))
 ·rename_i op t x e;exact fin (ak.unary op (a.eval x)) (λ _=>by simp only[execOp,e]) (quiet (by rw[e];rfl))
 ·rename_i t parts e;have h':FN L st.heap t (parts.toList.map λ p=>(p.1,st.ev p.2)) (λ y=>K y st):=by rw[e]at h;exact h
  exact fin (m:=Instr.build t (parts.map λ(i,x)=>(i,a.eval x))) (ak.ah1 hL h') (λ _=>by simp only[execOp,e]) (quiet (by rw[e];rfl))
 ·rename_i t x i e;exact fin (ak.field t (a.eval x) i) (λ _=>by simp only[execOp,e]) (quiet (by rw[e];rfl))
 ·rename_i t x i e;exact fin (ak.index t (a.eval x) (a.eval i)) (λ _=>by simp only[execOp,e]) (quiet (by rw[e];rfl))
 ·rename_i x e;have hx:=R.ev x;have:∃b q,a.eval x= .pointer (some ⟨b,q,none⟩):=by
   cases hev:st.ev x with
   |box id off=>
    rw[hev]at hx;obtain⟨b,_,h⟩:∃b,dJ (ρ id)= .pointer (some ⟨b,0,none⟩)/\a.eval x= .pointer (some ⟨b,off,none⟩):=hx;exact⟨b,off,h⟩
   |_=>rw[hev]at hp;cases hp
  obtain⟨b,q,hb⟩:=this;exact plain (u0:=a.eval x) (by simp only[execOp,e,hb]) (quiet (by rw[e];rfl))
 ·rename_i op t x y ty e;refine fin (m:=do eqGuard op t x y (a.eval x) (a.eval y);binOp op t (a.eval x) (a.eval y)) ?_ (λ _=>by simp only[execOp,e]) (quiet (by rw[e];rfl));simp only[apf,aon]at hp;rcases hp with⟨h1,h2⟩|⟨h1,h2⟩
  ·obtain⟨k,n,e1⟩:=J5 (R.ev x) h1;obtain⟨k',m,e2⟩:=J5 (R.ev y) h2;rw[e1,e2];exact ak.bind (ak.al9 _ _ _ _ _ _ _ _) λ _=>ak.akH _ _ _ _ _ _
  ·obtain⟨k,e1⟩:=UZ (R.ev x) h1;obtain⟨k',e2⟩:=UZ (R.ev y) h2;rw[e1,e2];exact ak.bind (ak.eqStr _ _ _ _ _ _) λ _=>ak.akI _ _ _ _
 ·rename_i s t x e;refine fin (m:=convert s t (a.eval x)) ?_ (λ _=>by simp only[execOp,e]) (quiet (by rw[e];rfl));simp only[aon]at hp;obtain⟨k,n,e1⟩:=J5 (R.ev x) hp.1;obtain⟨k',hk⟩:=ah2 hL hp.2;rw[e1];exact ak.ahZ hk _ _
 ·rename_i t x lo hi e;have h':=h;rw[e]at h';obtain⟨z,u,st',ρ',h1,h2,h3,h4,h5⟩:=JQ (mx:=none) hL R (R.ev x) h';refine⟨z,u,st',ρ',h1,h2,h3,λ w'=> ?_⟩;have hval:(∃A n c,a.eval x= .slice A n c)\/(∃s,a.eval x= .string s)\/ ∃A,a.eval x= .pointer (some A):=by
   cases hev:st.ev x with
   |own id=>
    obtain⟨e1,s1,n1,sc1,f1,hfo⟩:=Yf hev (show aslice L st t (st.ev x) (lo.map st.ev) (hi.map st.ev) none K from h');have hx:=R.ev x;rw[hev]at hx;obtain⟨us,hown,_⟩:=R.objs _ (aA hfo);have hown:w.ownsRow 0 e1 s1 (ρ id) n1 us:=hown;have hxv:a.eval x=ρ id:=(C2.kK hx).trans (eY hown);rcases hown.2 with⟨hv,_⟩|⟨b,cap,cur,hv,_⟩<;>exact .inl ⟨_,_,_,hxv.trans hv⟩
   |box id k=>
    have hx:=R.ev x;rw[hev]at hx;obtain⟨b,_,hv⟩:=C2.kJ hx;exact .inr (.inr ⟨_,hv⟩)
   |_=>exact(J6 (R.ev x) (by rw[hev]at hp⊢;exact hp)).imp_right .inl
  have:=((ak.slice (P:=P) t hval (lo.map a.eval) (hi.map a.eval)) w w' _ _ h4).2;simp only[execOp,e,aoy,Option.map_none,this,aow,aoQ]
 ·rename_i t x e;exact fin (m:=Instr.arrayAt t (a.eval x)) (ak.arrayAt t (a.eval x)) (λ _=>by simp only[execOp,e]) (quiet (by rw[e];rfl))
 ·rename_i xs ts e;split at hp
  ·rename_i t x e1 e2;have ht:ts= #[t]:=by apply aqp;simpa using e1
   have hx:xs= #[x]:=by apply aqp;simpa using e2
   subst ht hx;refine fin (m:=Builtin.len_ #[t] o.type #[a.eval x]) (ak.len _ _ (J6 (R.ev x) hp)) ?_ (quiet (by rw[e];rfl));intro w;simp only[execOp,e,resolve,aoy,aoQ,aow,invoke];simp[builtin]
  ·cases hp
 ·cases hp
end
def Az:Op->Option (List Operand)
 | .alloc _=>some []
 | .move x=>some [x]
 | .assign x=>some [x]
 | .box _ x=>some [x]
 | .load _ x=>some [x]
 | .nilCheck x=>some [x]
 | .unOp _ _ x=>some [x]
 | .convert _ _ x=>some [x]
 | .sliceToArrayPointer _ x=>some [x]
 | .fieldAddr _ x _=>some [x]
 | .field _ x _=>some [x]
 | .extract x _=>some [x]
 | .pick c a b=>some [c,a,b]
 | .build _ ps=>some (ps.toList.map (·.2))
 | .buildSlice _ _ ps=>some (ps.toList.map (·.2))
 | .store _ a v=>some [a,v]
 | .binOp _ _ a v _=>some [a,v]
 | .indexAddr _ a v=>some [a,v]
 | .index _ a v=>some [a,v]
 | .slice _ x l h m=>some ([x]++l.toList++h.toList++m.toList)
 | .makeFunc _ f c=>some (f.toList++c.toList)
 | .call {callee:= .builtin _,args:=xs,.. }=>some xs.toList
 | .call {callee:= .value f,args:=xs,.. }=>some (f::xs.toList)
 |_=>none
theorem Rq{o:Op}{l:List Operand}(h:Az o=some l):o.operands.toList=l:=by
 unfold Az at h;split at h<;>simp only[aoJ,reduceCtorEq]at h<;>subst h<;>simp[Op.operands,Call.operands]
def U1(d:Nat):List Operand->Bool
 |[]=>false
 | .tmp t::l=>Nat.beq t d||U1 d l
 |_::l=>U1 d l
theorem J7{d:Nat}:∀{l:List Operand},U1 d l=false-> ∀t,t∈(l.filterMap λ| .tmp t=>some t|_=>none)->t≠d
 |[],_,t,ht=>by simp at ht
 |x::l,h,t,ht=>by
  cases x with
  |tmp t'=>
   simp only[U1,ap9]at h;simp only[List.filterMap_cons,aot]at ht;rcases ht with rfl|ht
   ·exact λ e=>by rw[e]at h;simp at h
   ·exact J7 h.2 t ht
  |_=>exact J7 (l:=l) h t (by simpa using ht)
def zA(ops:List Oper)(o:Oper)(d:Nat):Bool:=
 (match Az o.op with|some l=>U1 d l|none=>true)||
 (match o.guard with
  |some (j,_)=>(match ops[j]? with|some oj=>(match oj.dst with|some t=>Nat.beq t d|none=>false)|none=>false)
  |none=>false)
theorem sD{o:Oper}(h:zA ops o d=false):(o.looksAt ops.toArray).contains d=false:=by
 simp only[zA,ap9]at h;obtain⟨h1,h2⟩:=h;rw[aoU];intro hc;have hm:d∈o.looksAt ops.toArray:=by simpa using hc
 unfold Oper.looksAt at hm;rcases aov.1 hm with hm|hm
 ·cases hl:Az o.op with
  |none=>rw[hl]at h1;cases h1
  |some l=>
   rw[hl]at h1;rw[Rq hl]at hm;exact J7 h1 d hm rfl
 ·cases hg:o.guard with
  |none=>rw[hg]at hm;simp at hm
  |some gd=>
   obtain⟨j,wnt⟩:=gd;rw[hg]at hm h2;simp only[List.getElem?_toArray,Option.mem_toList]at hm;dsimp only at h2;cases hj:ops[j]? with
   |none=>rw[hj]at hm;simp at hm
   |some oj=>
    rw[hj]at hm h2;simp only[aqw]at hm;dsimp only at h2;rw[hm]at h2;simp at h2
def Z5(o:Oper)(d:Nat):Bool:=match o.dst with|some t=>Nat.beq t d|none=>false
def apartB(ops:List Oper)(x y:Oper):Bool:=
 (match x.dst with|some d=> !(zA ops y d)&& !(Z5 y d)|none=>true)&&
 (match y.dst with|some d=> !(zA ops x d)|none=>true)
theorem abn{x y:Oper}(h:apartB ops x y=true):x.apart ops.toArray y=true:=by
 simp only[apartB,aon]at h;obtain⟨h1,h2⟩:=h;unfold Oper.apart;rw[aon];constructor
 ·cases hx:x.dst with
  |none=>rfl
  |some d=>
   rw[hx]at h1;simp only[aon,aoX]at h1;dsimp only;rw[sD h1.1];have h3:=h1.2;unfold Z5 at h3;cases hy:y.dst with
   |none=>rfl
   |some t=>
    rw[hy]at h3;have:t≠d:=λ e=>by rw[e]at h3;simp at h3
    simp[this]
 ·cases hy:y.dst with
  |none=>rfl
  |some d=>
   rw[hy]at h2;simp only[aoX]at h2;dsimp only;rw[sD h2];rfl
def mJ(k:Nat):List Nat->Bool
 |[]=>false
 |j::l=>Nat.beq j k||mJ k l
def Lst(n:Nat)(done:List Nat)(listed:Array Bool):Prop:=listed.size=n/\ ∀k,k<n->listed[k]? =some (mJ k done)
theorem Lst.NG(h:Lst n done listed){k:Nat}(hk:k<n)(d:Bool):listed.getD k d=mJ k done:=by
 have:=h.2 k hk;rw[Array.getD_eq_getD_getElem?,this];rfl
theorem Lst.set(h:Lst n done listed){i:Nat}(hi:i<n):Lst n (i::done) (listed.setIfInBounds i true):=by
 refine⟨by simp[h.1],λ k hk=> ?_⟩;rw[Array.getElem?_setIfInBounds];by_cases e:i=k
 ·subst e;simp[h.1,hi,mJ]
 ·rw[if_neg e,h.2 k hk];simp[mJ,beq_false e]
def xq(n:Nat)(done:List Nat):List Edge->Bool
 |[]=>true
 |e::l=>(!(Region.binds .any e)||(Nat.ble (e.on+1) n&&mJ e.on done))&&xq n done l
theorem FX{n:Nat}{done:List Nat}{listed:Array Bool}(h:Lst n done listed):∀{l:List Edge},xq n done l=true↔ ∀e∈l,Region.binds .any e=true->listed.getD e.on false=true
 |[]=>by simp[xq]
 |e::l=>by
  simp only[xq,aon,apf,aoX,FX h (l:=l),aot,forall_eq_or_imp];refine and_congr ⟨λ h1 hb=> ?_,λ h1=> ?_⟩ Iff.rfl
  ·rcases h1 with h1|⟨h1,h2⟩
   ·rw[hb]at h1;cases h1
   ·rw[h.NG (aox h1)];exact h2
  ·cases hb:Region.binds .any e with
   |false=>exact .inl rfl
   |true=>
    have h2:=h1 hb;have hlt:e.on<n:=by
     rcases aoP e.on n with h'|h'
     ·exact h'
     ·rw[Array.getD_eq_getD_getElem?,apU (by rw[h.1];exact h')]at h2;cases h2
    exact .inr ⟨apm hlt,by rw[<-h.NG hlt false];exact h2⟩
def gq(n:Nat)(done:List Nat):Nat->List Oper->List Nat
 |_,[]=>[]
 |k,o::r=>bif !(mJ k done)&&xq n done o.after.toList then k::gq n done (k+1) r else gq n done (k+1) r
theorem Hf{n:Nat}{done:List Nat}{j:Nat}:∀{l:List Oper}{k:Nat},j∈gq n done k l↔ ∃i o,j=k+i/\l[i]? =some o/\mJ j done=false/\xq n done o.after.toList=true
 |[],k=>by simp[gq]
 |o::l,k=>by
  have ih:=Hf (n:=n) (done:=done) (j:=j) (l:=l) (k:=k+1);have key:(∃i o',j=k+i/\(o::l)[i]? =some o'/\mJ j done=false/\xq n done o'.after.toList=true)↔(j=k/\mJ j done=false/\xq n done o.after.toList=true)\/j∈gq n done (k+1) l:=by
   rw[ih];constructor
   ·rintro⟨i,o',h1,h2,h3⟩;cases i with
    |zero=>simp only[apz,aoJ]at h2;subst h2;exact .inl ⟨h1,h3⟩
    |succ i=>exact .inr ⟨i,o',o_,by simpa using h2,h3⟩
   ·rintro(⟨h1,h3⟩|⟨i,o',h1,h2,h3⟩)
    ·exact⟨0,o,o_,rfl,h3⟩
    ·exact⟨i+1,o',o_,by simpa using h2,h3⟩
  rw[key];simp only[gq];cases hb:(!(mJ k done)&&xq n done o.after.toList)with
  |true=>
   simp only[aon,aoX]at hb;simp only[cond_true,aot];constructor
   ·rintro(rfl|h)
    ·exact .inl ⟨rfl,hb⟩
    ·exact .inr h
   ·rintro(h|h)
    ·exact .inl h.1
    ·exact .inr h
  |false=>
   simp only[cond_false];constructor
   ·exact .inr
   ·rintro(⟨rfl,h1,h2⟩|h)
    ·rw[h1,h2]at hb;cases hb
    ·exact h
theorem mM(h:Lst ops.length done listed){j:Nat}:j∈Region.ready .any ops.toArray listed↔j∈gq ops.length done 0 ops:=by
 rw[mem_ready,Hf];constructor
 ·rintro⟨h1,o,h2,h3⟩;have h2:ops[j]? =some o:=by simpa using h2
  have hlt:j<ops.length:=(aoC.1 h2).1;exact⟨j,o,o_,h2,by rw[<-h.NG hlt true];exact h1,(FX h).2 λ e he=>h3 e (by simpa using he)⟩
 ·rintro⟨i,o,h1,h2,h3,h4⟩;obtain rfl:j=i:=o_
  have hlt:j<ops.length:=(aoC.1 h2).1;exact⟨by rw[h.NG hlt];exact h3,o,by simpa using h2,λ e he=>(FX h).1 h4 e (by simpa using he)⟩
def J8(i:Nat):List Edge->Bool
 |[]=>false
 |e::l=>(Region.binds .any e&&Nat.beq e.on i)||J8 i l
theorem FY{i:Nat}:∀{l:List Edge},J8 i l=true-> ∃e∈l,Region.binds .any e=true/\e.on=i
 |[],h=>by cases h
 |e::l,h=>by
  simp only[J8,apf,aon]at h;rcases h with⟨h1,h2⟩|h
  ·exact⟨e,aol,h1,aos h2⟩
  ·obtain⟨e',h1,h2⟩:=FY h;exact⟨e',aoq _ h1,h2⟩
def Hg(ops:List Oper)(done:List Nat)(i:Nat)(oi:Oper):Nat->List Oper->Bool
 |_,[]=>true
 |k,o::r=>(Nat.beq k i||mJ k done||J8 i o.after.toList||apartB ops oi o)&&Hg ops done i oi (k+1) r
theorem U2{ops:List Oper}{done:List Nat}{i:Nat}{oi:Oper}:∀{l:List Oper}{k:Nat},Hg ops done i oi k l=true-> ∀(j:Nat)(oj:Oper),l[j]? =some oj->k+j≠i->mJ (k+j) done=false->(∀e∈oj.after,Region.binds .any e=true->e.on≠i)->oi.apart ops.toArray oj=true
 |[],k,_,j,oj,hj=>by simp at hj
 |o::l,k,h,j,oj,hj=>by
  simp only[Hg,aon,apf]at h;obtain⟨h1,h2⟩:=h;intro hne hm hw;cases j with
  |zero=>
   simp only[apz,aoJ]at hj;subst hj;rcases h1 with((h1|h1)|h1)|h1
   ·exact absurd (aos h1) (by simpa using hne)
   ·rw[aqL]at hm;rw[hm]at h1;cases h1
   ·obtain⟨e,he,hb,hi⟩:=FY h1;exact absurd hi (hw e (by simpa using he) hb)
   ·exact abn h1
  |succ j=>
   refine U2 h2 j oj (by simpa using hj) o_ (by rw[show k+1+j=k+(j+1) by omega];exact hm) hw
def zB(N:Nat)(st:AS)(ops:List Oper)(o:Oper):Option Bool:=
 match o.guard with
 |none=>some true
 |some (j,want)=>match ops[j]? with
  |some oj=>(match oj.dst with
   |some dj=>bif Nat.ble (dj+1) N then(match st.tmps dj with| .v (.bool b)=>some (b==want)| .v (.tuple _)=>some false|_=>none)else none
   |none=>none)
  |none=>none
def zC(L:Lay)(N:Nat)(st:AS)(ops:List Oper)(done:List Nat):List Nat->Option Nat
 |[]=>none
 |i::r=>match ops[i]? with
  |some o=>bif (match zB N st ops o with|some true=>zy L st o.op|some false=>true|none=>false)&&Hg ops done i o 0 ops then some i else zC L N st ops done r
  |none=>zC L N st ops done r
def qL(P:Program)(L:Lay)(W:Walk)(N:Nat)(ops:List Oper)(o:Oper)(st:AS)(K:AS->Prop):Prop:=
 match zB N st ops o with
 |some true=>BU P L W o.dst st o.op (λ x st'=>qY N st' o.dst x K)
 |some false=>qY N st o.dst (.v undef) K
 |none=>False
structure Both(A B:Prop):Prop where
 one:A
 two:B
def abo(F:Nat->Prop):List Nat->Prop
 |[]=>True
 |[j]=>F j
 |j::l=>Both (F j) (abo F l)
theorem U3{F:Nat->Prop}:∀{l:List Nat},abo F l-> ∀j∈l,F j
 |[],_,j,hj=>by cases hj
 |[i],h,j,hj=>by rw[aoo.1 hj];exact h
 |i::k::l,h,j,hj=>by
  rcases aot.1 hj with rfl|hj
  ·exact h.one
  ·exact U3 h.two j hj
def xw(P:Program)(L:Lay)(W:Walk)(N:Nat)(n:Nat)(ops:List Oper)(Q:AS->Prop):Nat->List Nat->AS->Prop
 |0,done,st=>(match gq n done 0 ops with|[]=>Q st|_::_=>False)
 |f+1,done,st=>match gq n done 0 ops with
  |[]=>Q st
  |i::r=>match zC L N st ops done (i::r)with
   |some j=>(match ops[j]? with|some o=>qL P L W N ops o st (xw P L W N n ops Q f (j::done))|none=>False)
   |none=>abo (λ j=>match ops[j]? with|some o=>qL P L W N ops o st (xw P L W N n ops Q f (j::done))|none=>False) (i::r)
section
variable{P:Program}{L:Lay}{g:Base}{N:Nat}{bs:List (Array Value)}{ρ:Nat->Value}{a:Act}{w:World}{st:AS}
theorem nD(R:Rel g N bs ρ a w st){ops:List Oper}{o:Oper}{b:Bool}(h:zB N st ops o=some b):Region.wanted o (yielded ops.toArray a.tmps)=b:=by
 obtain⟨dst,op,ty,pos,after,guard⟩:=o;unfold zB at h;cases guard with
 |none=>cases h;rfl
 |some gd=>
  obtain⟨j,want⟩:=gd;dsimp only at h;split at h
  ·rename_i oj hoj;split at h
   ·rename_i dj hdj;cases hb:Nat.ble (dj+1) N with
    |false=>rw[hb]at h;cases h
    |true=>
     rw[hb,cond_true]at h;have hlt:=aox hb;have hd:=R.tmps dj;have hget:a.tmps[dj]? =some (a.tmps.getD dj undef):=by
      have:dj<a.tmps.size:=by rw[R.size];exact hlt
      simp[this]
     have hops:((ops.toArray[j]?).bind (·.dst))=some dj:=by simp[hoj,hdj]
     split at h
     ·rename_i b' eb;rw[eb]at hd;have hd:=C2.dD hd;have hy:yielded ops.toArray a.tmps j=some b':=by
       unfold yielded;rw[hops];simp only[aqw,hget,hd]
      simp only[aoJ]at h;simp only[Region.wanted,hy];rw[<-h];cases b'<;>cases want<;>rfl
     ·rename_i vs eb;rw[eb]at hd;have hd:=C2.dD hd;have hy:yielded ops.toArray a.tmps j=none:=by
       unfold yielded;rw[hops];simp only[aqw,hget,hd]
      cases h;simp only[Region.wanted,hy];rfl
     ·cases h
   ·cases h
  ·cases h
theorem J9{ops:List Oper}{done:List Nat}{j:Nat}:∀{l:List Nat},zC L N st ops done l=some j->j∈l/\ ∃o,ops[j]? =some o/\Hg ops done j o 0 ops=true/\((zB N st ops o=some true/\zy L st o.op=true)\/zB N st ops o=some false)
 |[],h=>by cases h
 |i::r,h=>by
  have rest:zC L N st ops done r=some j->j∈i::r/\ ∃o,ops[j]? =some o/\Hg ops done j o 0 ops=true/\((zB N st ops o=some true/\zy L st o.op=true)\/zB N st ops o=some false):=λ h=>
   ⟨aoq _ (J9 h).1,(J9 h).2⟩
  simp only[zC]at h;cases ho:ops[i]? with
  |none=>rw[ho]at h;exact rest h
  |some o=>
   rw[ho]at h;dsimp only at h;cases hw:zB N st ops o with
   |none=>rw[hw]at h;exact rest h
   |some b=>
    rw[hw]at h;cases b with
    |true=>
     dsimp only at h;cases hb:(zy L st o.op&&Hg ops done i o 0 ops)with
     |false=>rw[hb]at h;exact rest h
     |true=>
      rw[hb]at h;simp only[cond_true,aoJ]at h;subst h;simp only[aon]at hb;exact⟨aol,o,ho,hb.2,.inl ⟨hw,hb.1⟩⟩
    |false=>
     dsimp only at h;cases hb:(true&&Hg ops done i o 0 ops)with
     |false=>rw[hb]at h;exact rest h
     |true=>
      rw[hb]at h;simp only[cond_true,aoJ]at h;subst h;simp only[aqA]at hb;exact⟨aol,o,ho,hb,.inr hw⟩
theorem U4(hL:bJ P L){W:Walk}(hW:Iz P W){ops:List Oper}(hs:Region.noSelect ops.toArray=true){Q:AS->Prop}{E:Exit->Act->World->Prop}(hE:∀e a w,e≠ .normal-> ¬E e a w)(hQ:∀ρ a w st,Rel g N bs ρ a w st->Q st->E .normal a w):
 ∀(f:Nat){done:List Nat}{listed:Array Bool}{ρ:Nat->Value}{a:Act}{w:World}{st:AS},Lst ops.length done listed->Rel g N bs ρ a w st->xw P L W N ops.length ops Q f done st->wpAny P .any ops.toArray E f listed a w
 |0,done,listed,ρ,a,w,st,hl,R,h=>by
  simp only[xw]at h;split at h
  ·rename_i e;refine⟨?_,hQ _ _ _ _ R h⟩;cases hr:Region.ready .any ops.toArray listed with
   |nil=>rfl
   |cons j r=>
    have:j∈gq ops.length done 0 ops:=(mM hl).1 (by rw[hr];exact aol);rw[e]at this;cases this
  ·exact h.elim
 |f+1,done,listed,ρ,a,w,st,hl,R,h=>by
  have ih:= @U4 hL W hW ops hs Q E hE hQ f;simp only[xw]at h;split at h
  ·rename_i e;have hr:Region.ready .any ops.toArray listed=[]:=by
    cases hr:Region.ready .any ops.toArray listed with
    |nil=>rfl
    |cons j r=>
     have:j∈gq ops.length done 0 ops:=(mM hl).1 (by rw[hr];exact aol);rw[e]at this;cases this
   exact wpAny_done hr (hQ _ _ _ _ R h) _
  ·rename_i i r e;have hne:Region.ready .any ops.toArray listed≠[]:=λ h0=>by
    have:i∈Region.ready .any ops.toArray listed:=(mM hl).2 (by rw[e];exact aol);rw[h0]at this;cases this
   split at h
   ·rename_i j hp;obtain⟨hm,o,ho,hf,hw⟩:=J9 hp;rw[ho]at h;dsimp only at h;have hlt:j<ops.length:=(aoC.1 ho).1;have hr:j∈Region.ready .any ops.toArray listed:=(mM hl).2 (by rw[e];exact hm);have hoA:ops.toArray[j]? =some o:=by simpa using ho
    have hfree:∀j' oj,ops.toArray[j']? =some oj->j'≠j->listed.getD j' true=false->(∀e∈oj.after,Region.binds .any e=true->e.on≠j)->o.apart ops.toArray oj=true:=by
     intro j' oj h1 h2 h3 h4;have h1':ops[j']? =some oj:=by simpa using h1
     have hlt':j'<ops.length:=(aoC.1 h1').1;refine U2 hf j' oj h1' o_ ?_ h4;rw[apl,<-hl.NG hlt' true];exact h3
    have take:∀{v:Value},Yields P ops.toArray o v a->wpAny P .any ops.toArray E f (listed.setIfInBounds j true) (a.put o.dst v) w->wpAny P .any ops.toArray E (f+1) listed a w:=
     λ hy H=>wpAny_first hoA (Region.noSelect_spec hs) (λ c a w h=>absurd h (hE _ _ _ s_)) f listed a w hfree hr hy H
    unfold qL at h;rcases hw with⟨hw,hpu⟩|hw
    ·rw[hw]at h;dsimp only at h;have go:∀d,XY P L W d st o.op (λ x st'=>qY N st' o.dst x (xw P L W N ops.length ops Q f (j::done)))->wpAny P .any ops.toArray E (f+1) listed a w:=by
      intro d hd;obtain⟨x,u,st',ρ',h1,R1,h2,h3⟩:=U0 hL R hpu hd;obtain⟨st2,k2,R2⟩:=iq R1 h2 h1;exact take (.inl ⟨nD R hw,h3⟩) (ih (hl.set hlt) R2 k2)
     unfold BU at h;cases hd:o.dst with
     |none=>rw[hd]at h;dsimp only at h;exact go 0 (by rw[hd];exact h)
     |some d=>rw[hd]at h;dsimp only at h;exact go d (by rw[hd];exact h)
    ·rw[hw]at h;dsimp only at h;obtain⟨st2,k2,R2⟩:=iq R (show C2 (aC g w ρ st.heap) (.v undef) undef from rfl) h;exact take (.inr ⟨nD R hw,rfl⟩) (ih (hl.set hlt) R2 k2)
   ·rw[<-e]at h;refine⟨λ h0=>absurd h0 hne,λ j hj=> ?_⟩;have hjm:=(mM hl).1 hj;have hF:=U3 h j hjm;cases ho:ops[j]? with
    |none=>rw[ho]at hF;exact hF.elim
    |some o=>
     rw[ho]at hF;dsimp only at hF;have hlt:j<ops.length:=(aoC.1 ho).1;have hoA:ops.toArray[j]? =some o:=by simpa using ho
     unfold wpOp;rw[hoA];dsimp only;unfold qL at hF;split at hF
     ·rename_i hw;rw[nD R hw];simp only[if_true];refine .inl ?_;have go:∀d,XY P L W d st o.op (λ x st'=>qY N st' o.dst x (xw P L W N ops.length ops Q f (j::done)))->o.wp P a w (wpAny P .any ops.toArray E f (listed.setIfInBounds j true)) E:=by
       intro d hd;refine IZ hL hW R (d:=d) hd ?_;intro x st' u ρ' w' hx R' hc;obtain⟨st2,h2,R2⟩:=iq R' hc hx;exact ih (hl.set hlt) R2 h2
      unfold BU at hF;cases hd:o.dst with
      |none=>rw[hd]at hF;dsimp only at hF;exact go 0 (by rw[hd];exact hF)
      |some d=>rw[hd]at hF;dsimp only at hF;exact go d (by rw[hd];exact hF)
     ·rename_i hw;rw[nD R hw];simp only[aph,if_false];obtain⟨st2,k2,R2⟩:=iq R (show C2 (aC g w ρ st.heap) (.v undef) undef from rfl) hF;exact ih (hl.set hlt) R2 k2
     ·exact hF.elim
theorem fO.any(hL:bJ P L){W:Walk}(hW:Iz P W){id:Nat}{ops:Array Oper}{K:AS->Prop}{st:AS}(hm:P.follows .mixedOrders=true)(hs:Region.noSelect ops=true)(h:xw P L W N ops.toList.length ops.toList K ops.toList.length [] st):fO P L W N id ops K st:=by
 refine .sem λ g bs ρ a w E R hK=> ?_;refine Code.wp_mono (Q:=λ e a w=>e= .normal/\E .normal a w) (λ e a w h=>by obtain⟨rfl,h⟩:=h;exact h) ?_;have e1:ops.size=ops.toList.length:=s_
 refine wp_region_any hm ?_;have hl:Lst ops.toList.length [] (Array.replicate ops.size false):=by
  refine⟨s_,λ k hk=> ?_⟩;rw[Array.getElem?_replicate,if_pos (by rw[e1];exact hk)];rfl
 have R':Rel g N bs ρ a w.drew st:=R.world (apD _ _).drew;have:=U4 (g:=g) (bs:=bs) (N:=N) hL hW (ops:=ops.toList) (by simpa using hs) (Q:=K) (E:=λ e a w=>e= .normal/\E .normal a w) (λ e a w hne h=>hne h.1) (λ ρ a w st R h=>⟨rfl,hK ρ a w st R h⟩) ops.toList.length hl R' h;rw[e1];simpa using this
theorem fO.cut(hL:bJ P L){W:Walk}(hW:Iz P W){id:Nat}{ops:Array Oper}{K:AS->Prop}{st:AS}(S:AS)(hm:P.follows .mixedOrders=true)(hs:Region.noSelect ops=true)(h:xw P L W N ops.toList.length ops.toList (λ st'=>Jw st' S) ops.toList.length [] st)(hK:K S):fO P L W N id ops K st:=by
 have:=fO.any (P:=P) (L:=L) (N:=N) (id:=id) hL hW hm hs h;cases this with
 |quiet hm hB hq h=>
  refine .sem λ g bs ρ a w E R hE=> ?_;refine wp_region_quiet (C:=λ w'=>w'=w.drew) hm hB rfl ?_;have R':Rel g N bs ρ a w.drew st:=R.world (apD _ _).drew;exact vN hL (E:=λ a w=>E .normal a w) (ops:=ops.toList) (λ a w1 st R h=>hE _ _ _ _ (R.less h) hK) ops.toList hq R' h
 |sem h=>exact .sem λ g bs ρ a w E R hE=>h g bs ρ a w E R λ ρ a w st R h=>hE _ _ _ _ (R.less h) hK
end
def Yg(P:Program)(L:Lay)(W:Walk)(N:Nat)(n:Nat)(ops:List Oper)(Q:AS->Prop):Nat->List Nat->AS->Prop
 |0,_,st=>Q st
 |f+1,done,st=>match gq n done 0 ops with
  |[]=>Q st
  |i::r=>match zC L N st ops done (i::r)with
   |some j=>(match ops[j]? with|some o=>qL P L W N ops o st (Yg P L W N n ops Q f (j::done))|none=>False)
   |none=>(match ops[i]? with|some o=>qL P L W N ops o st (Yg P L W N n ops Q f (i::done))|none=>False)
def slotsOf(st:AS)(N:Nat):Nat->Nat->(List (Nat×AV)->Prop)->Prop
 |0,_,K=>K []
 |f+1,k,K=>bif Nat.ble N k then K []else match st.tmps k with
  | .junk=>slotsOf st N f (k+1) K
  | .v (.tuple _)=>slotsOf st N f (k+1) K
  | .v x=>slotsOf st N f (k+1) (λ l=>K ((k,.v x)::l))
  | .agg cs=>slotsOf st N f (k+1) (λ l=>K ((k,.agg cs)::l))
  | .bI vs=>slotsOf st N f (k+1) (λ l=>K ((k,.bI vs)::l))
  | .sl s m sc g=>slotsOf st N f (k+1) (λ l=>K ((k,.sl s m sc g)::l))
  | .own i=>slotsOf st N f (k+1) (λ l=>K ((k,.own i)::l))
  | .dG i s j m=>slotsOf st N f (k+1) (λ l=>K ((k,.dG i s j m)::l))
  | .jH i s j m=>slotsOf st N f (k+1) (λ l=>K ((k,.jH i s j m)::l))
  | .box i m=>slotsOf st N f (k+1) (λ l=>K ((k,.box i m)::l))
  | .cf g i m=>slotsOf st N f (k+1) (λ l=>K ((k,.cf g i m)::l))
  | .el cs m=>slotsOf st N f (k+1) (λ l=>K ((k,.el cs m)::l))
  | .fn g cs=>slotsOf st N f (k+1) (λ l=>K ((k,.fn g cs)::l))
theorem Ci{st:AS}{N:Nat}:∀{f k:Nat}{K:List (Nat×AV)->Prop},slotsOf st N f k K-> ∃l,K l
 |0,_,_,h=>⟨[],h⟩
 |f+1,k,K,h=>by
  simp only[slotsOf]at h;cases hb:Nat.ble N k with
  |true=>rw[hb]at h;exact⟨[],h⟩
  |false=>
   rw[hb]at h;simp only[cond_false]at h;split at h<;>(obtain⟨l,hl⟩:=Ci h;exact⟨_,hl⟩)
def Ei(st:AS):List (Nat×AV)->List AV
 |[]=>[]
 |p::l=>st.tmps p.1::Ei st l
def valsOf:List (Nat×AV)->List AV
 |[]=>[]
 |p::l=>p.2::valsOf l
def Rt(st:AS):List (Nat×AO)->List (Option AO)
 |[]=>[]
 |p::l=>aK p.1 st.heap::Rt st l
def Ru:List (Nat×AO)->List (Option AO)
 |[]=>[]
 |p::l=>some p.2::Ru l
theorem FZ{st:AS}:∀{l:List (Nat×AV)},Ei st l=valsOf l-> ∀t,tN l t= .junk\/aY (st.tmps t) (tN l t)
 |[],_,t=> .inl rfl
 |p::l,h,t=>by
  simp only[Ei,valsOf,aqm]at h;simp only[tN];cases hb:Nat.beq t p.1 with
  |true=>
   obtain rfl:=aos hb;rw[h.1];exact .inr (aY.refl _)
  |false=>exact FZ h.2 t
theorem U5{st:AS}:∀{l:List (Nat×AO)},Rt st l=Ru l-> ∀p∈l,∃o,aK p.1 st.heap=some o/\dK o p.2
 |[],_,p,hp=>by cases hp
 |q::l,h,p,hp=>by
  simp only[Rt,Ru,aqm]at h;rcases aot.1 hp with rfl|hp
  ·exact⟨_,h.1,dK.refl _⟩
  ·exact U5 h.2 p hp
def Yh(F:Nat):List (List (Nat×AV))->(List (List (Nat×AV))->Prop)->Prop
 |[],K=>K []
 |f::fs,K=>slotsOf ⟨f,[],[],0⟩ F F 0 (λ l=>Yh F fs (λ ls=>K (l::ls)))
theorem OG{F:Nat}:∀{fs:List (List (Nat×AV))}{K:List (List (Nat×AV))->Prop},Yh F fs K-> ∃ls,K ls
 |[],_,h=>⟨[],h⟩
 |f::fs,K,h=>by
  obtain⟨l,h⟩:=Ci h;obtain⟨ls,h⟩:=OG h;exact⟨_,h⟩
def Rw:List (List (Nat×AV))->List (List (Nat×AV))->List (List AV)
 |[],[]=>[]
 |f::fs,l::ls=>Ei ⟨f,[],[],0⟩ l::Rw fs ls
 |_::_,[]=>[[]]
 |[],_::_=>[[]]
def Ej:List (List (Nat×AV))->List (List AV)
 |[]=>[]
 |l::ls=>valsOf l::Ej ls
def zD:List (Nat×AO)->(List (Nat×AO)->Prop)->Prop
 |[],K=>K []
 |p::l,K=>match p.2 with
  | .box t cs=>zD l (λ h=>K ((p.1,.box t cs)::h))
  | .row e s n sc f=>zD l (λ h=>K ((p.1,.row e s n sc f)::h))
  | .mp t ks rs=>zD l (λ h=>K ((p.1,.mp t ks rs)::h))
  | .obs o=>zD l (λ h=>K ((p.1,.obs o)::h))
  | .rn e cs=>zD l (λ h=>K ((p.1,.rn e cs)::h))
theorem OH:∀{l:List (Nat×AO)}{K:List (Nat×AO)->Prop},zD l K-> ∃h,K h
 |[],_,h=>⟨[],h⟩
 |p::l,K,h=>by
  simp only[zD]at h;split at h<;>(obtain⟨l,h⟩:=OH h;exact⟨_,h⟩)
inductive LeC(st:AS)(l:List (Nat×AV))(h:List (Nat×AO))(ls:List (List (Nat×AV))):Prop where
 |mk (hl:st.back.length=ls.length) (hb:Rw st.back ls=Ej ls) (hn:nodupB (h.map (·.1))=true) (ht:Ei st l=valsOf l) (hh:Rt st h=Ru h):LeC st l h ls
theorem U6:∀{fs:List (List (Nat×AV))}{ls:List (List (Nat×AV))},fs.length=ls.length->Rw fs ls=Ej ls->qZ fs ls
 |[],[],_,_=>trivial
 |f::fs,l::ls,hl,h=>by
  simp only[Rw,Ej,aqm]at h;exact⟨FZ (st:=⟨f,[],[],0⟩) h.1,U6 (by simpa using hl) h.2⟩
 |[],_::_,hl,_=>by simp at hl
 |_::_,[],hl,_=>by simp at hl
theorem LeC.les{b:Nat}{l:List (Nat×AV)}{hs:List (Nat×AO)}{ls:List (List (Nat×AV))}(h:LeC st l hs ls):Jw st ⟨l,hs,ls,b⟩:=by
 obtain⟨hl,hb,hn,ht,hh⟩:=h;exact⟨FZ ht,U5 hh,oG hn,U6 hl hb⟩
section
variable{P:Program}{L:Lay}{g:Base}{N:Nat}{bs:List (Array Value)}{ρ:Nat->Value}{a:Act}{w:World}{st:AS}
theorem aeC{o:Oper}{G:Prop}(h:o.wp P a w (λ _ _=>G) (λ _ _ _=>G)):G:=by
 unfold Oper.wp at h;cases e:(execOp a.eval o).run P w with
 |ok n w'=>
  rw[e]at h;cases n<;>simp only[Oper.upon]at h;all_goals first
    |exact h
    |exact h.elim
    |(obtain⟨v,w'',r,_⟩:=h default [];exact r)
    |(obtain⟨en,w'',fr,r,_⟩:=h []
      cases en with
      |returned v=>exact r
      |panicked c=>exact r
      |outgrown=>obtain⟨_,_,r⟩:=r;exact r)
 |halt x w'=>
  rw[e]at h;cases x<;>simp only[Oper.upon]at h;exact h
theorem Z7(hL:bJ P L){W:Walk}(hW:Iz P W){ops:List Oper}{Q:AS->Prop}:∀(f:Nat){done:List Nat}{ρ:Nat->Value}{a:Act}{w:World}{st:AS},Rel g N bs ρ a w st->Yg P L W N ops.length ops Q f done st-> ∃S,Q S
 |0,done,ρ,a,w,st,R,h=>⟨st,h⟩
 |f+1,done,ρ,a,w,st,R,h=>by
  have ih:= @Z7 hL W hW ops Q f;have step:∀{o:Oper}{d:List Nat},qL P L W N ops o st (Yg P L W N ops.length ops Q f d)-> ∃S,Q S:=by
   intro o d h;unfold qL at h;split at h
   ·have go:∀k,XY P L W k st o.op (λ x st'=>qY N st' o.dst x (Yg P L W N ops.length ops Q f d))-> ∃S,Q S:=by
     intro k hk;refine aeC (P:=P) (o:=o) (a:=a) (w:=w) (IZ hL hW R (d:=k) hk ?_);intro x st' u ρ' w' hx R' hc;obtain⟨st2,h2,R2⟩:=iq R' hc hx;exact ih R2 h2
    unfold BU at h;cases hd:o.dst with
    |none=>rw[hd]at h;dsimp only at h;exact go 0 (by rw[hd];exact h)
    |some k=>rw[hd]at h;dsimp only at h;exact go k (by rw[hd];exact h)
   ·obtain⟨st2,k2,R2⟩:=iq R (show C2 (aC g w ρ st.heap) (.v undef) undef from rfl) h;exact ih R2 k2
   ·exact h.elim
  simp only[Yg]at h;split at h
  ·exact⟨st,h⟩
  ·split at h
   ·split at h
    ·exact step h
    ·exact h.elim
   ·split at h
    ·exact step h
    ·exact h.elim
theorem fO.lex(F:Nat)(hL:bJ P L){W:Walk}(hW:Iz P W){id:Nat}{ops:Array Oper}{K:AS->Prop}{st:AS}(hm:P.follows .mixedOrders=true)(hs:Region.noSelect ops=true)
  (h:Yg P L W N ops.toList.length ops.toList (λ S=>slotsOf S N 400 0 λ l=>zD S.heap λ hs=>Yh F S.back λ ls=>Both (xw P L W N ops.toList.length ops.toList (λ st'=>LeC st' l hs ls) ops.toList.length [] st) (K ⟨l,hs,ls,S.base⟩)) ops.toList.length [] st):fO P L W N id ops K st:=by
 refine .sem λ g bs ρ a w E R hE=> ?_;obtain⟨S,h1⟩:=Z7 hL hW ops.toList.length R h;obtain⟨l,h1⟩:=Ci h1;obtain⟨hs',h1⟩:=OH h1;obtain⟨ls,h1,hK⟩:=OG h1;have:=fO.any (P:=P) (L:=L) (N:=N) (id:=id) hL hW hm hs h1;cases this with
 |quiet hm hB hq h=>
  refine wp_region_quiet (C:=λ w'=>w'=w.drew) hm hB rfl ?_;have R':Rel g N bs ρ a w.drew st:=R.world (apD _ _).drew;exact vN hL (E:=λ a w=>E .normal a w) (ops:=ops.toList) (λ a w1 st R h=>hE _ _ _ _ (R.less h.les) hK) ops.toList hq R' h
 |sem h=>exact h g bs ρ a w E R λ ρ a w st R h=>hE _ _ _ _ (R.less h.les) hK
end
section
variable{P:Program}{ops:Array Oper}{Q:Exit->Act->World->Prop}{T:List (Nat×List Nat)}
def YieldsAt(P:Program)(ops:Array Oper)(o:Oper)(v:Value)(a:Act)(w:World):Prop:=
 (Region.wanted o (yielded ops a.tmps)=true/\(execOp a.eval o).run P w= .ok (.value v) w)\/(Region.wanted o (yielded ops a.tmps)=false/\v=undef)
theorem YieldsAt.of_same{o:Oper}{v:Value}{a a':Act}{w:World}(hy:YieldsAt P ops o v a w)(he:execOp a'.eval o=execOp a.eval o)(hw:Region.wanted o (yielded ops a'.tmps)=Region.wanted o (yielded ops a.tmps)):YieldsAt P ops o v a' w:=by
 unfold YieldsAt at*;rw[he,hw];exact hy
theorem YieldsAt.put{o:Oper}{v:Value}{a:Act}{w:World}(hs:∀cs b,o.op≠ .select cs b){dst:Option Tmp}{u:Value}(h:∀d,dst=some d->d ∉ o.looksAt ops):YieldsAt P ops o v (a.put dst u) w↔YieldsAt P ops o v a w:=by
 have e1:=execOp_put (ops:=ops) o hs a dst u h;have e2:=wanted_put (ops:=ops) o a dst u h;unfold YieldsAt;rw[e1,e2]
theorem YieldsAt.wpOp{i:Nat}{o:Oper}{v:Value}{a:Act}{w:World}(hi:ops[i]? =some o)(hy:YieldsAt P ops o v a w){K:Act->World->Prop}(h:K (a.put o.dst v) w):wpOp P ops Q i K a w:=by
 unfold Go.wpOp;simp only[hi];rcases hy with⟨hw,hv⟩|⟨hw,rfl⟩
 ·simp only[hw,if_true,Oper.wp,hv,Oper.upon];exact .inl h
 ·simp only[hw,aph,if_false];exact h
def alive(T:List (Nat×List Nat))(listed:Array Bool)(p:Nat):Prop:= ∀k l,(k,l)∈T->listed.getD k false=true->p ∉ l
def Z8(P:Program)(ops:Array Oper)(T:List (Nat×List Nat))(listed:Array Bool)(pend:List (Nat×Value))(a:Act)(w:World):Prop:=
 ∀p∈pend,alive T listed p.1-> ∀o,ops[p.1]? =some o->YieldsAt P ops o p.2 a w
def jK(P:Program)(ops:Array Oper)(Q:Exit->Act->World->Prop)(T:List (Nat×List Nat)):Nat->Array Bool->List (Nat×Value)->Act->World->Prop
 |0,listed,_,a,w=>Region.ready .any ops listed=[]/\Q .normal a w
 |f+1,listed,pend,a,w=>(Region.ready .any ops listed=[]->Q .normal a w)/\ ∀j∈Region.ready .any ops listed,wpOp P ops Q j (λ a' w'=>Z8 P ops T (listed.setIfInBounds j true) pend a' w'/\jK P ops Q T f (listed.setIfInBounds j true) pend a' w') a w
theorem jK.less:∀{f:Nat}{listed:Array Bool}{pend ajU:List (Nat×Value)}{a:Act}{w:World},(∀p∈ajU,p∈pend)->jK P ops Q T f listed pend a w->jK P ops Q T f listed ajU a w
 |0,_,_,_,_,_,_,h=>h
 |_+1,_,_,_,_,_,hs,h=>⟨h.1,λ j hj=>wpOp_mono (λ _ _ k=>⟨λ p hp=>k.1 p (hs p hp),jK.less hs k.2⟩) (h.2 j hj)⟩
theorem jK.any:∀{f:Nat}{listed:Array Bool}{pend:List (Nat×Value)}{a:Act}{w:World},jK P ops Q T f listed pend a w->wpAny P .any ops Q f listed a w
 |0,_,_,_,_,h=>h
 |_+1,_,_,_,_,h=>⟨h.1,λ j hj=>wpOp_mono (λ _ _ k=>jK.any k.2) (h.2 j hj)⟩
def Closed(T:List (Nat×List Nat))(listed:Array Bool):Prop:= ∀k l,(k,l)∈T->listed.getD k false=true-> ∀p∈l,listed.getD p false=true
theorem abp{j:Nat}{oi oj:Oper}{v:Value}(hj:ops[j]? =some oj)(h1:∀d,oi.dst=some d->d ∉ oj.looksAt ops)(h2:∀d,oi.dst=some d->oj.dst≠some d)
  (hsj:∀cs b,oj.op≠ .select cs b)(hQ:∀c a w,Q (.panic c) (a.put oi.dst v) w->Q (.panic c) a w){K:Act->World->Prop}{a:Act}{w:World}
  (h:wpOp P ops Q j K (a.put oi.dst v) w):wpOp P ops Q j (λ a' w'=>K (a'.put oi.dst v) w') a w:=by
 unfold wpOp at*;simp only[hj]at*;rw[wanted_put oj a oi.dst v h1]at h;split
 ·rename_i hw;simp only[hw,if_true]at h;rcases h with h|⟨hasks,hlets⟩;case inr=>exact .inr ⟨by unfold Oper.asks at*;rw[execOp_put oj hsj a oi.dst v h1]at hasks;exact hasks,hlets⟩
  refine .inl ?_;unfold Oper.wp at*;rw[execOp_put oj hsj a oi.dst v h1]at h;generalize(execOp a.eval oj).run P w=r at*;cases r with
  |ok n w'=>
   cases n<;>simp only[Oper.upon]at h⊢;case value u=>rw[<-Act.put_comm a v u h2];exact h
   case skip=>rw[<-Act.put_comm a v undef h2];exact h
   case defer d=>
    rw[<-Act.put_comm _ v undef h2,<-Act.put_defers];exact h
   case enter f args=>
    refine Calls.mono h λ e w'' he=> ?_;cases e with
    |returned u=>dsimp only at he⊢;rw[<-Act.put_comm a v u h2];exact he
    |panicked c=>exact hQ _ _ _ he
    |outgrown=>exact he
   case row row args=>exact Rows.mono h λ u w'' he=>by rw[<-Act.put_comm a v u h2];exact he
  |halt x w'=>
   cases x<;>simp only[Oper.upon]at h⊢;case panic u=>exact hQ _ _ _ h
 ·rename_i hw;simp only[hw]at h;rw[<-Act.put_comm a v undef h2];exact h
def Yi(pu:Bool)(x:Nat×Value)(pend:List (Nat×Value)):List (Nat×Value):=match pu with|true=>pend|false=>x::pend
def OI(ops:Array Oper)(listed:Array Bool)(pend:List (Nat×Value)):Prop:=
 ∀p∈pend,∀o,ops[p.1]? =some o-> ∀k ok,ops[k]? =some ok->listed.getD k true=false-> ∀d,ok.dst=some d->d ∉ o.looksAt ops
theorem Rz{i:Nat}{oi:Oper}{v:Value}(hi:ops[i]? =some oi)(hsel:∀(j:Nat)(o:Oper) cs b,ops[j]? =some o->o.op≠ .select cs b)
  (hQ:∀c a w,Q (.panic c) (a.put oi.dst v) w->Q (.panic c) a w)(hT:∀l,(i,l)∈T->False){U:List (Nat×List Nat)}(hTU:∀x∈T,x∈U)(hTr:∀(k:Nat)(l:List Nat)(listed:Array Bool),(k,l)∈U->Closed U listed->k∈Region.ready .any ops listed-> ∀p∈l,listed.getD p false=true)(pu:Bool):
  ∀ (fuel:Nat)(listed:Array Bool)(pend:List (Nat×Value))(a:Act)(w:World),
   (∀j oj,ops[j]? =some oj->j≠i->listed.getD j true=false->(∀d,oi.dst=some d->oj.dst≠some d)/\((∀e∈oj.after,Region.binds .any e=true->e.on≠i)->(∀d,oj.dst=some d->d ∉ oi.looksAt ops)/\ ∀d,oi.dst=some d->d ∉ oj.looksAt ops))->
   (∀d,oi.dst=some d->d ∉ oi.looksAt ops)->
   i∈Region.ready .any ops listed->Closed U listed->OI ops listed pend->Z8 P ops T listed pend a w->YieldsAt P ops oi v a w->(pu=true->Yields P ops oi v a)->
   jK P ops Q T fuel (listed.setIfInBounds i true) (Yi pu (i,v) pend) (a.put oi.dst v) w->jK P ops Q T (fuel+1) listed pend a w:=by
 intro fuel;have hsub:∀(pend:List (Nat×Value)),∀p∈pend,p∈(Yi pu (i,v) pend):=by
  intro pend p hp;cases pu
  ·exact aoq _ hp
  ·exact hp
 have self:∀(listed:Array Bool)(pend:List (Nat×Value))(a:Act)(w:World),i∈Region.ready .any ops listed->OI ops listed pend->Z8 P ops T listed pend a w->Z8 P ops T (listed.setIfInBounds i true) pend (a.put oi.dst v) w:=by
  intro listed pend a w hr hB hO p hp hal o ho;have hal':alive T listed p.1:=λ k l hk hl=>hal k l hk (getD_set_true hl);have:=hO p hp hal' o ho;exact(YieldsAt.put (λ cs b=>hsel _ _ cs b ho) λ d hd=>hB p hp o ho i oi hi (mem_ready.1 hr).1 d hd).2 this
 induction fuel with
 |zero=>
  intro listed pend a w _ _ hr _ hB hO hy _ H;refine⟨λ h=>(by rw[h]at hr;cases hr),λ j hj=> ?_⟩;by_cases hji:j=i
  ·subst hji;exact hy.wpOp hi ⟨self listed pend a w hr hB hO,jK.less (hsub pend) H⟩
  ·have:=ready_mono hj hji;rw[H.1]at this;cases this
 |succ fuel ih=>
  intro listed pend a w hfree hself hr hC hB hO hy hpu H;refine⟨λ h=>(by rw[h]at hr;cases hr),λ j hj=> ?_⟩;by_cases hji:j=i
  ·subst hji;exact hy.wpOp hi ⟨self listed pend a w hr hB hO,jK.less (hsub pend) H⟩
  ·have h1:=H.2 j (ready_mono hj hji);obtain⟨hjun,oj,hoj,hall⟩:=mem_ready.1 hj;have akL:=(mem_ready.1 hr).1;have Z9:listed.getD i false=false:=by
    rcases aoP i listed.size with h'|h'
    ·simp[h']at akL⊢;exact akL
    ·simp[apU h']
   have hnot:∀e∈oj.after,Region.binds .any e=true->e.on≠i:=λ e he hb heq=>by
    have h1:=hall e he hb;rw[heq,Z9]at h1;cases h1
   obtain⟨f2,f3⟩:=hfree j oj hoj hji hjun;obtain⟨f1,hb3⟩:=f3 hnot;have an0:i<ops.size:=(ao5.1 hi).1;have vS:Closed U (listed.setIfInBounds j true):=by
    intro k l hk hl p hp;by_cases hkj:k=j
    ·subst hkj;exact getD_set_true (hTr k l listed hk hC hj p hp)
    ·rw[getD_set_ne false (aqP hkj)]at hl;exact getD_set_true (hC k l hk hl p hp)
   have ah3:OI ops (listed.setIfInBounds j true) pend:=λ p hp o ho k ok hk hun d hd=>by
    refine hB p hp o ho k ok hk ?_ d hd;by_cases hkj:j=k
    ·subst hkj;exact hjun
    ·rw[getD_set_ne true hkj]at hun;exact hun
   have ane:∀(a':Act)(u:Value),Yields P ops oi v a'->Yields P ops oi v (a'.put oj.dst u):=λ a' u hy=>hy.of_same (execOp_put oi (λ cs b=>hsel i oi cs b hi) a' oj.dst u f1) (wanted_put oi a' oj.dst u f1);have h2:=abp hoj hb3 f2 (λ cs b=>hsel j oj cs b hoj) hQ h1;have aeD:∀p,alive T (listed.setIfInBounds j true) p->alive T ((listed.setIfInBounds i true).setIfInBounds j true) p:=by
    intro p hal k l hk hl;by_cases hki:k=i
    ·subst hki;exact(hT l hk).elim
    ·refine hal k l hk ?_;rw[Array.setIfInBounds_comm _ _ (aqP hji),getD_set_ne false (aqP hki)]at hl;exact hl
   have ah4:alive T ((listed.setIfInBounds i true).setIfInBounds j true) i:=by
    refine aeD i λ k l hk hl hin=> ?_;have h0:=vS k l (hTU _ hk) hl i hin;rw[getD_set_ne false hji,Z9]at h0;cases h0
   have hfree':∀k ok,ops[k]? =some ok->k≠i->(listed.setIfInBounds j true).getD k true=false->(∀d,oi.dst=some d->ok.dst≠some d)/\((∀e∈ok.after,Region.binds .any e=true->e.on≠i)->(∀d,ok.dst=some d->d ∉ oi.looksAt ops)/\ ∀d,oi.dst=some d->d ∉ ok.looksAt ops):=λ k ok hk hki hun=>by
    refine hfree k ok hk hki ?_;by_cases hjk:j=k
    ·subst hjk;exact hjun
    ·rw[getD_set_ne true hjk]at hun;exact hun
   have fin:∀(a':Act)(w':World),(pu=true->Yields P ops oi v a')->(Z8 P ops T ((listed.setIfInBounds i true).setIfInBounds j true) (Yi pu (i,v) pend) (a'.put oi.dst v) w'/\jK P ops Q T fuel ((listed.setIfInBounds i true).setIfInBounds j true) (Yi pu (i,v) pend) (a'.put oi.dst v) w')->
     Z8 P ops T (listed.setIfInBounds j true) pend a' w'/\jK P ops Q T (fuel+1) (listed.setIfInBounds j true) pend a' w':=by
    rintro a' w' zF ⟨k1,k2⟩;have kO:Z8 P ops T (listed.setIfInBounds j true) pend a' w':=by
     intro p hp hal o ho;have:=k1 p (hsub pend p hp) (aeD p.1 hal) o ho;exact(YieldsAt.put (λ cs b=>hsel _ _ cs b ho) λ d hd=>hB p hp o ho i oi hi akL d hd).1 this
    refine⟨kO, ?_⟩;have hyi:YieldsAt P ops oi v a' w':=by
     cases hp:pu with
     |true=>
      rcases zF hp with⟨q1,q2⟩|q
      ·exact .inl ⟨q1,q2 w'⟩
      ·exact .inr q
     |false=>
      rw[hp]at k1;exact(YieldsAt.put (λ cs b=>hsel _ _ cs b hi) hself).1 (k1 (i,v) aol ah4 oi hi)
    refine ih (listed.setIfInBounds j true) pend a' w' hfree' hself (ready_mono hr (aqP hji)) vS ah3 kO hyi zF ?_;rw[Array.setIfInBounds_comm _ _ hji];exact k2
   cases hp:pu with
   |false=>exact wpOp_mono (λ a' w' h3=>fin a' w' (λ e=>by rw[hp]at e;cases e) h3) h2
   |true=>
    have h2':=wpOp_put (v:=v) hoj (Oper.aeE hb3 f2 f1) (λ cs b=>hsel i oi cs b hi) (λ cs b=>hsel j oj cs b hoj) hQ (hpu hp) h1;exact wpOp_mono (λ a' w' h3=>fin a' w' (λ _=>h3.1) h3.2) h2'
where
 Oper.aeE {x y:Oper} (h1:∀d,x.dst=some d->d ∉ y.looksAt ops) (h2:∀d,x.dst=some d->y.dst≠some d) (h3:∀d,y.dst=some d->d ∉ x.looksAt ops):x.apart ops y=true:=by
  unfold Oper.apart;rw[aon];constructor
  ·cases hx:x.dst with
   |none=>rfl
   |some d=>simpa using⟨h1 d hx,h2 d hx⟩
  ·cases hy:y.dst with
   |none=>rfl
   |some d=>simpa using h3 d hy
end
def RD(p:Nat):List Edge->Bool
 |[]=>false
 |e::l=>(Region.binds .any e&&Nat.beq e.on p)||RD p l
def I7(U:List (Nat×List Nat))(p:Nat):List Edge->Bool
 |[]=>false
 |e::l=>(Region.binds .any e&&U.any (λ x=>Nat.beq x.1 e.on&&mJ p x.2))||I7 U p l
def aeF(ops:List Oper)(U:List (Nat×List Nat)):Bool:=
 U.all λ x=>match ops[x.1]? with|some o=>x.2.all λ p=>RD p o.after.toList||I7 U p o.after.toList|none=>false
def RF(ops:List Oper)(done:List Nat)(i:Nat)(oi:Oper):Nat->List Oper->Bool
 |_,[]=>true
 |k,o::r=>(Nat.beq k i||mJ k done||((match oi.dst with|some d=> !(Z5 o d)|none=>true)&&(J8 i o.after.toList||((match o.dst with|some d=> !(zA ops oi d)|none=>true)&&(match oi.dst with|some d=> !(zA ops o d)|none=>true)))))&&RF ops done i oi (k+1) r
def Cj(ops:List Oper)(done:List Nat)(i:Nat)(oi:Oper):Nat->List Oper->Bool
 |_,[]=>true
 |k,o::r=>(Nat.beq k i||mJ k done||(match o.dst with|some d=> !(zA ops oi d)|none=>true))&&Cj ops done i oi (k+1) r
def aeG:Op->Bool
 | .move _=>true
 | .assign _=>true
 | .pick .. =>true
 | .extract .. =>true
 | .fieldAddr .. =>true
 | .indexAddr .. =>true
 | .unOp .. =>true
 | .build .. =>true
 |_=>false
def Cm:List (Nat×Option (List Nat))->List (Nat×List Nat)
 |[]=>[]
 |(i,some l)::r=>(i,l)::Cm r
 |(_,none)::r=>Cm r
def aeH(i:Nat):List Nat->Bool
 |[k]=>Nat.beq k i
 |_=>false
def ad6:List Nat->Bool
 |[]=>true
 |_=>false
def Yj(ops:List Oper)(T:List (Nat×List Nat)):List (Nat×Option (List Nat))->List Nat->Bool
 |[],done=>ad6 (gq ops.length done 0 ops)
 |(i,none)::r,done=>(match ops[i]? with
  |some o=>mJ i (gq ops.length done 0 ops)&&RF ops done i o 0 ops&&(aeG o.op||Cj ops done i o 0 ops)&&(match o.dst with|some d=> !(zA ops o d)|none=>false)&& !(T.any λ x=>Nat.beq x.1 i)
  |none=>false)&&Yj ops T r (i::done)
 |(i,some _)::r,done=>aeH i (gq ops.length done 0 ops)&&Yj ops T r (i::done)
def ah5:List (Nat×List Nat)->List (Nat×List Nat)->Bool
 |[],_=>true
 |x::T,U=>U.any (λ y=>Nat.beq x.1 y.1&&(x.2==y.2))&&ah5 T U
def F5(ops:List Oper)(sc:List (Nat×Option (List Nat)))(U:List (Nat×List Nat)):Bool:=
 aeF ops U&&ah5 (Cm sc) U&&Yj ops (Cm sc) sc []
def akM:AV->Bool
 | .v _=>true
 | .own _=>true
 | .dG .. =>true
 | .box .. =>true
 | .cf .. =>true
 |_=>false
def akN:AV->Bool
 | .agg cs=>cs.all akM
 |x=>akM x
structure Still(A B:AV)(K:Prop):Prop where
 mk::
 eq:A=B
 det:akN A=true
 k:K
def NH(P:Program)(L:Lay)(W:Walk)(N:Nat)(ops:List Oper):List Nat->AS->Prop->Prop
 |[],_,K=>K
 |p::r,st,K=>match ops[p]? with
  |some o=>(match o.dst with
   |some d=>XY P L W d st o.op (λ y _=>Still y (st.tmps d) (NH P L W N ops r st K))
   |none=>False)
  |none=>False
def outOf(l:List Nat):List Nat->List Nat
 |[]=>[]
 |p::r=>bif mJ p l then outOf l r else p::outOf l r
inductive Ko(P:Program)(d:Nat)(f:FuncId)(aZ:List AV)(st:AS)(K:AV->AS->Prop):Prop where
 |plain (bs:List AV) (r:AV) (hs:aH P f bs r []) (hsub:Ip st.heap aZ bs) (hr:ok2 none r=true):K r (bif oD r then st else vJ st aZ)->Ko P d f aZ st K
 |fresh (bs:List AV) (r:AV) (e:TypeId) (s n:Nat) (sc:Bool) (g:Nat->List AV) (hs:aH P f bs r [(d,.row e s n sc g)]) (hsub:Ip st.heap aZ bs) (hr:ok2 (some d) r=true):
   K r ((bif oD r&&sc then st else vJ st aZ).obj d d (.row e s n sc g))->Ko P d f aZ st K
def Yk(L:Lay)(st:AS):Op->Bool
 | .load t p=>match aX L t with
   |some i=>(match st.ev p with
    | .box id k=>(match aK id st.heap with
      |some (.box _ cs)=>Nat.ble (k+(bif i.isAgg then i.size else 1)) cs.length
      |_=>false)
    |_=>false)
   |none=>false
 |_=>false
def U7(L:Lay)(st:AS)(ops:List Oper)(p:Nat):Bool:=match ops[p]? with|some o=>Yk L st o.op|none=>false
def xA(L:Lay)(st:AS)(ops:List Oper):List Nat->List Nat
 |[]=>[]
 |p::r=>bif U7 L st ops p then xA L st ops r else p::xA L st ops r
def ajV(P:Program)(L:Lay)(W:Walk)(N:Nat)(ops:List Oper)(o:Oper)(pl:List Nat)(st:AS)(K:AS->Prop):Prop:=
 match zB N st ops o with
 |some true=>(match o.op with
  | .call c=>(match c.callee with
    | .value x=>(match(st.ev x).adN with
      | .fn g caps=>nameOf st (λ d=>Ko P d g (c.args.toList.map st.ev++caps) st (λ x st'=>qY N st' o.dst x (λ st2=>NH P L W N ops (xA L st ops pl) st2 (K st2))))
      |_=>False)
    |_=>False)
  |_=>False)
 |some false=>qY N st o.dst (.v undef) (λ st2=>NH P L W N ops (xA L st ops pl) st2 (K st2))
 |none=>False
def xB(P:Program)(L:Lay)(W:Walk)(N:Nat)(ops:List Oper)(kp:Bool)(Q:AS->Prop):List (Nat×Option (List Nat))->List Nat->AS->Prop
 |[],_,st=>Q st
 |(i,none)::r,pend,st=>match ops[i]? with
  |some o=>(match zB N st ops o with
   |some true=>(match zy L st o.op with
    |true=>BU P L W o.dst st o.op (λ x st'=>qY N st' o.dst x (xB P L W N ops kp Q r pend))
    |false=>(match mX o.op with
    |true=>BU P L W o.dst st o.op (λ x st'=>qY N st' o.dst x (xB P L W N ops kp Q r (i::pend)))
    |false=>False))
   |some false=>qY N st o.dst (.v undef) (xB P L W N ops kp Q r pend)
   |none=>False)
  |none=>False
 |(i,some l)::r,pend,st=>match ops[i]? with
  |some o=>(match kp with
   |true=>ajV P L W N ops o (outOf l pend) st (xB P L W N ops kp Q r (outOf l pend))
   |false=>qL P L W N ops o st (λ st'=>NH P L W N ops (outOf l pend) st' (xB P L W N ops kp Q r (outOf l pend) st')))
  |none=>False
section
variable{P:Program}{L:Lay}{g:Base}{N:Nat}{bs:List (Array Value)}{ρ:Nat->Value}{a:Act}{w:World}{st:AS}
theorem xC{X:CX}{y:AV}{u v:Value}(h:akM y=true)(hu:C0 X y u)(hv:C0 X y v):u=v:=by
 cases y with
 |v x=>exact Eq.trans (show u=x from hu) (show v=x from hv).symm
 |own id=>exact Eq.trans (show u=dJ (X.ρ id)from hu) (show v=dJ (X.ρ id)from hv).symm
 |dG id s i k=>
  obtain⟨b,n,c,h1,rfl⟩:=hu;obtain⟨b',n',c',h2,rfl⟩:=hv;rw[h1]at h2;cases h2;rfl
 |jH id s i k=>cases h
 |box id off=>
  obtain⟨b,h1,rfl⟩:=hu;obtain⟨b',h2,rfl⟩:=hv;rw[h1]at h2;cases h2;rfl
 |cf gg id off=>
  obtain⟨b,h1,rfl⟩:=hu;obtain⟨b',h2,rfl⟩:=hv;rw[h1]at h2;cases h2;rfl
 |_=>cases h
theorem ah6{X:CX}{y:AV}{u v:Value}(h:akN y=true)(hu:C2 X y u)(hv:C2 X y v):u=v:=by
 cases y with
 |agg cs=>
  obtain⟨us,rfl,h1⟩:=hu;obtain⟨vs,rfl,h2⟩:=hv;have:us=vs:=by
   apply apV;intro i;by_cases hi:i<cs.length
   ·have hx:cs[i]? =some cs[i]:=aom hi;obtain⟨u,e1,k1⟩:=h1.get hx;obtain⟨v,e2,k2⟩:=h2.get hx;rw[e1,e2,xC (aoD.1 h _ (ao1 hi)) k1 k2]
   ·rw[aoW (by rw[<-h1.1];omega),aoW (by rw[<-h2.1];omega)]
  rw[this]
 |v x=>exact xC (X:=X) (y:= .v x) h hu hv
 |own id=>exact xC (X:=X) (y:= .own id) h hu hv
 |dG id s i k=>exact xC (X:=X) (y:= .dG id s i k) h hu hv
 |jH id s i k=>exact xC (X:=X) (y:= .jH id s i k) h hu hv
 |box id off=>exact xC (X:=X) (y:= .box id off) h hu hv
 |cf gg id off=>exact xC (X:=X) (y:= .cf gg id off) h hu hv
 |_=>cases h
theorem OJ{p:Nat}:∀{l:List Edge},RD p l=true-> ∃e∈l,Region.binds .any e=true/\e.on=p
 |[],h=>by cases h
 |e::l,h=>by
  simp only[RD,apf,aon]at h;rcases h with⟨h1,h2⟩|h
  ·exact⟨e,aol,h1,aos h2⟩
  ·obtain⟨e',h1,h2⟩:=OJ h;exact⟨e',aoq _ h1,h2⟩
theorem I8{p:Nat}:∀{l:List Nat},mJ p l=true↔p∈l
 |[]=>by simp[mJ]
 |q::l=>by
  simp only[mJ,apf,aot,I8 (l:=l)];refine or_congr ⟨λ h=>(aos h).symm,λ h=>by rw[h];simp⟩ Iff.rfl
theorem Kq{U:List (Nat×List Nat)}{p:Nat}:∀{l:List Edge},I7 U p l=true-> ∃e∈l,Region.binds .any e=true/\ ∃x∈U,x.1=e.on/\p∈x.2
 |[],h=>by cases h
 |e::l,h=>by
  simp only[I7,apf,aon,aps]at h;rcases h with⟨h1,x,hx,h2,h3⟩|h
  ·exact⟨e,aol,h1,x,hx,aos h2,I8.1 h3⟩
  ·obtain⟨e',h1,h2⟩:=Kq h;exact⟨e',aoq _ h1,h2⟩
theorem Kr{ops:List Oper}{U:List (Nat×List Nat)}(h:aeF ops U=true)(k:Nat)(l:List Nat)(listed:Array Bool)(hk:(k,l)∈U)(hC:Closed U listed)(hr:k∈Region.ready .any ops.toArray listed):∀p∈l,listed.getD p false=true:=by
 intro p hp;have:=aoD.1 h _ hk;dsimp only at this;obtain⟨_,o,ho,hall⟩:=mem_ready.1 hr;have ho:ops[k]? =some o:=by simpa using ho
 rw[ho]at this;dsimp only at this;have:=aoD.1 this p hp;rw[apf]at this;rcases this with h1|h1
 ·obtain⟨e,he,hb,rfl⟩:=OJ h1;exact hall e (by simpa using he) hb
 ·obtain⟨e,he,hb,⟨k',l'⟩,hx,e1,h3⟩:=Kq h1;have h2:=hall e (by simpa using he) hb;dsimp only at e1 h3;rw[<-e1]at h2;exact hC k' l' hx h2 p h3
theorem ah7{T U:List (Nat×List Nat)}(h:ah5 T U=true):∀x∈T,x∈U:=by
 induction T with
 |nil=>intro x hx;cases hx
 |cons y T ih=>
  simp only[ah5,aon,aps]at h;obtain⟨⟨z,hz,h1,h2⟩,h3⟩:=h;intro x hx;rcases aot.1 hx with rfl|hx
  ·have e1:=aos h1;have e2:=eq_of_beq h2;have:x=z:=Prod.ext e1 e2;rw[this];exact hz
  ·exact ih h3 x hx
theorem OL{ops:List Oper}{done:List Nat}{i:Nat}{oi:Oper}:∀{l:List Oper}{k:Nat},RF ops done i oi k l=true-> ∀(j:Nat)(oj:Oper),l[j]? =some oj->k+j≠i->mJ (k+j) done=false->
 (∀d,oi.dst=some d->oj.dst≠some d)/\((∀e∈oj.after,Region.binds .any e=true->e.on≠i)->(∀d,oj.dst=some d->d ∉ oi.looksAt ops.toArray)/\ ∀d,oi.dst=some d->d ∉ oj.looksAt ops.toArray)
 |[],k,_,j,oj,hj=>by simp at hj
 |o::l,k,h,j,oj,hj=>by
  simp only[RF,aon,apf]at h;obtain⟨h1,h2⟩:=h;intro hne hm;cases j with
  |zero=>
   simp only[apz,aoJ]at hj;subst hj;rcases h1 with(h1|h1)|⟨h1,h3⟩
   ·exact absurd (aos h1) (by simpa using hne)
   ·rw[aqL]at hm;rw[hm]at h1;cases h1
   ·refine⟨λ d hd=> ?_,λ hw=> ?_⟩
    ·rw[hd]at h1;simp only[aoX]at h1;intro e;unfold Z5 at h1;rw[e]at h1;simp at h1
    ·rcases h3 with h4|⟨h3,h4⟩
     ·obtain⟨e,he,hb,hi⟩:=FY h4;exact absurd hi (hw e (by simpa using he) hb)
     ·refine⟨λ d hd=> ?_,λ d hd=> ?_⟩
      ·rw[hd]at h3;simp only[aoX]at h3;have:=sD h3;simpa using this
      ·rw[hd]at h4;simp only[aoX]at h4;have:=sD h4;simpa using this
  |succ j=>
   exact OL h2 j oj (by simpa using hj) o_ (by rw[show k+1+j=k+(j+1) by omega];exact hm)
theorem OM{ops:List Oper}{done:List Nat}{i:Nat}{oi:Oper}:∀{l:List Oper}{k:Nat},Cj ops done i oi k l=true-> ∀(j:Nat)(oj:Oper),l[j]? =some oj->k+j≠i->mJ (k+j) done=false-> ∀d,oj.dst=some d->d ∉ oi.looksAt ops.toArray
 |[],k,_,j,oj,hj=>by simp at hj
 |o::l,k,h,j,oj,hj=>by
  simp only[Cj,aon,apf]at h;obtain⟨h1,h2⟩:=h;intro hne hm d hd;cases j with
  |zero=>
   simp only[apz,aoJ]at hj;subst hj;rcases h1 with(h1|h1)|h1
   ·exact absurd (aos h1) (by simpa using hne)
   ·rw[aqL]at hm;rw[hm]at h1;cases h1
   ·rw[hd]at h1;simp only[aoX]at h1;have:=sD h1;simpa using this
  |succ j=>
   exact OM h2 j oj (by simpa using hj) o_ (by rw[show k+1+j=k+(j+1) by omega];exact hm) d hd
theorem U8{op:Op}(h:aeG op=true)(L:Lay)(st:AS):zy L st op=true:=by
 cases op<;>first|rfl|cases h
theorem aeI{i:Nat}{l:List Nat}(h:aeH i l=true):l=[i]:=by
 unfold aeH at h;split at h
 ·rw[aos h]
 ·cases h
theorem CB:∀{sc:List (Nat×Option (List Nat))}{k:Nat}{l:List Nat},(k,some l)∈sc->(k,l)∈Cm sc
 |[],_,_,h=>by cases h
 |(i,none)::r,k,l,h=>by
  rcases aot.1 h with h|h
  ·cases h
  ·show(k,l)∈Cm r;exact CB h
 |(i,some m)::r,k,l,h=>by
  rcases aot.1 h with h|h
  ·cases h;exact aol
  ·exact aoq _ (CB h)
theorem F6{l:List Nat}{p:Nat}:∀{q:List Nat},p∈q->p ∉ l->p∈outOf l q
 |[],h,_=>by cases h
 |x::q,h,hn=>by
  simp only[outOf];cases hb:mJ x l with
  |true=>
   rcases aot.1 h with rfl|h
   ·exact absurd (I8.1 hb) hn
   ·exact F6 h hn
  |false=>
   rcases aot.1 h with rfl|h
   ·exact aol
   ·exact aoq _ (F6 h hn)
theorem AA{l:List Nat}{p:Nat}:∀{q:List Nat},p∈outOf l q->p∈q
 |[],h=>h
 |x::q,h=>by
  simp only[outOf]at h;cases hb:mJ x l with
  |true=>rw[hb]at h;exact aoq _ (AA h)
  |false=>
   rw[hb]at h;rcases aot.1 h with rfl|h
   ·exact aol
   ·exact aoq _ (AA h)
theorem aac(hL:bJ P L){W:Walk}{ops:List Oper}{K:Prop}(R:Rel g N bs ρ a w st):∀{l:List Nat},(∀p∈l,∃o,ops[p]? =some o/\mX o.op=true)->NH P L W N ops l st K->K/\ ∀p∈l,∃o d,ops[p]? =some o/\o.dst=some d/\(execOp a.eval o).run P w= .ok (.value (a.tmps.getD d undef)) w
 |[],_,h=>⟨h,λ p hp=>by cases hp⟩
 |p::r,hq,h=>by
  simp only[NH]at h;split at h
  ·rename_i o ho;obtain⟨o',ho',hqo⟩:=hq p aol;rw[ho]at ho';cases ho';split at h
   ·rename_i d hd;obtain⟨y,u,hs,hc,hrun⟩:=Au hL R (o:=o) hqo h;obtain⟨e,anf,hr⟩:=hs;obtain⟨hK,hall⟩:=aac hL R (λ p hp=>hq p (aoq _ hp)) hr;refine⟨hK,λ q hq'=> ?_⟩;rcases aot.1 hq' with rfl|hq'
    ·refine⟨o,d,ho,hd, ?_⟩;have ht:=R.tmps d;rw[<-e]at ht;rw[hrun,ah6 anf hc ht]
    ·exact hall q hq'
   ·exact h.elim
  ·exact h.elim
theorem Hl{a:Act}{dst:Option Tmp}{u:Value}{d:Nat}(h:∀t,dst=some t->t≠d):(a.put dst u).tmps.getD d undef=a.tmps.getD d undef:=by
 cases dst with
 |none=>rfl
 |some t=>
  have:=h t rfl;simp[Act.put,Array.getElem?_setIfInBounds_ne this]
def Slots(ops:List Oper)(done:List Nat)(pend:List (Nat×Value))(a:Act):Prop:=
 ∀p∈pend,∃o d,ops[p.1]? =some o/\mX o.op=true/\o.dst=some d/\a.tmps.getD d undef=p.2/\ ∀k ok,ops[k]? =some ok->mJ k done=false->ok.dst≠some d
theorem ah8(hL:bJ P L){t:TypeId}{i:TI}(hi:aX L t=some i){k n:Nat}(hn:k+(bif i.isAgg then i.size else 1)<=n){b:Nat}{us:List Value}(hl:us.length=n):
  ∃u,∀W:World,(∀(j:Nat)(y:Value),us[j]? =some y->W.cell? ⟨b,0+j,none⟩=some y)->(loadVar t ⟨b,0+k,none⟩).run P W= .ok u W:=by
 cases hg:i.isAgg with
 |true=>
  rw[hg]at hn;simp only[cond_true]at hn;refine⟨.agg ((us.drop k).take i.size).toArray,λ W hc=> ?_⟩;have hlen:((us.drop k).take i.size).length=i.size:=by rw[aou,aoK];omega
  have hl:=run_loadCells_list (P:=P) W ⟨b,0+k,none⟩ ((us.drop k).take i.size) (λ j v hv=>by
   rw[apk];rw[apg]at hv;split at hv
   ·rw[apC]at hv;rw[Nat.add_assoc];exact hc _ _ hv
   ·cases hv)
  rw[hlen]at hl;simp only[loadVar,aoy,qg hL hi,hg,aow,if_true,gQ hL hi,hl,aoQ]
 |false=>
  rw[hg]at hn;simp only[cond_false]at hn;refine⟨us[k]'o_,λ W hc=> ?_⟩;have:=hc k _ (aom (show k<us.length by omega));rw[apl]at this⊢;simp[loadVar,aoy,qg hL hi,hg,this]
theorem abq(hL:bJ P L)(R:Rel g N bs ρ a w st){o:Oper}(h:Yk L st o.op=true):∃u,∀W:World,Below w.heap.size w W->(execOp a.eval o).run P W= .ok (.value u) W:=by
 unfold Yk at h;split at h
 ·rename_i t p e;split at h
  ·rename_i i hi;split at h
   ·rename_i id k ep;split at h
    ·rename_i t' cs hf;have hn:=aox h;have hp:=R.ev p;rw[ep]at hp;obtain⟨b,hb,hpv⟩:=C2.kJ hp;obtain⟨b',us,e',hh,ha⟩:=R.objs _ (aA hf);have hb:dJ (ρ id)=_:=hb;have e':ρ id=_:=e';rw[e']at hb;cases hb;have hh:w.heap[b]? =_:=hh;have hlt:b<w.heap.size:=(ao5.1 hh).1;obtain⟨u,hu⟩:=ah8 (P:=P) hL hi hn (b:=b) (us:=us) ha.1.symm;refine⟨u,λ W hB=> ?_⟩;have hW:W.heap[b]? =_:=(hB.block b hlt).trans hh;have hr:=hu W (λ j y hy=>by
      rw[apl,cell_of_row _ _ _ _ _ _ hW];simpa using hy)
     rw[apl]at hr;have:(Instr.loadAt t (a.eval p)).run P W= .ok u W:=by
      rw[hpv];simpa[Instr.loadAt,Instr.sureAddr]using hr
     simp[execOp,e,this]
    ·cases h
   ·cases h
  ·cases h
 ·cases h
theorem CG{L:Lay}{ops:List Oper}{p:Nat}:∀{l:List Nat},p∈l->U7 L st ops p=true\/p∈xA L st ops l
 |[],h=>by cases h
 |q::l,h=>by
  unfold xA;cases hb:U7 L st ops q with
  |true=>
   rcases aot.1 h with rfl|h
   ·exact .inl hb
   ·exact CG h
  |false=>
   rcases aot.1 h with rfl|h
   ·exact .inr aol
   ·exact(CG h).imp id λ h=>aoq _ h
theorem CJ{L:Lay}{ops:List Oper}{p:Nat}:∀{l:List Nat},p∈xA L st ops l->p∈l
 |[],h=>h
 |q::l,h=>by
  unfold xA at h;cases hb:U7 L st ops q with
  |true=>rw[hb]at h;exact aoq _ (CJ h)
  |false=>
   rw[hb]at h;rcases aot.1 h with rfl|h
   ·exact aol
   ·exact aoq _ (CJ h)
theorem Yl(R:Rel g N bs ρ a w st){f:FuncId}{aZ:List AV}{args:List Value}(hargs:aG (C2 (aC g w ρ st.heap)) aZ args){K:AV->AS->Prop}{d:Nat}(h:Ko P d f aZ st K):
  Enters P f/\Calls P f args.toArray w λ e w'=> ∃u x st' ρ',e= .returned u/\K x st'/\Rel g N bs ρ' a w' st'/\C2 (aC g w' ρ' st'.heap) x u/\Below w.heap.size w w':=by
 have mid:∀(frozen:Bool),∃k:Nat->Prop,∃st1,st1=(bif frozen then st else vJ st aZ)/\Rel g N bs ρ a w st1/\(∀b,k b->b<w.heap.size)/\(∀b,aJ g w ρ st.heap b->k b)/\(∀x∈aZ,Reads st ρ w k x/\ ∀cs,x= .agg cs-> ∀c∈cs,Reads st ρ w k c)/\(frozen=false-> ∀b,k b->aJ g w ρ st1.heap b):=by
  intro frozen;cases frozen with
  |true=>
   refine⟨λ b=>b<w.heap.size,st,rfl,R,λ b h=>h,λ b h=>h.1,λ x hx=> ?_,λ h=>by cases h⟩;have rd:∀y:AV,Reads st ρ w (λ b=>b<w.heap.size) y:=λ y id e s n sc f hy hf=>
    vM R hf (λ b h=>h.1) (λ b hb=>(R.iJ (aQ.2 ⟨_,aA hf,hb⟩)).1)
   exact⟨rd x,λ cs e c hc=>rd c⟩
  |false=>
   obtain⟨R1,h1,k1⟩:=IY aZ R;exact⟨aJ g w ρ (vJ st aZ).heap,vJ st aZ,rfl,R1,λ b h=>h.1,h1.keep,k1,λ _ b h=>h⟩
 cases h with
 |plain bb r hs hsub hr hK=>
  obtain⟨k,st1,e1,R1,hk1,hk2,hk3,hk4⟩:=mid (oD r);rw[<-e1]at hK;refine⟨hs.1,(hs.2 w k args hk1 (IX hk2 hsub hk3 hargs)).mono ?_⟩;rintro e w' ⟨u,Ox,rfl,hb,hc,_,_,_⟩;refine⟨u,r,st1,ρ,rfl,hK,R1.world hb, ?_,hb⟩;refine Ee (X:=aC (base0 w k) w' Ox []) (d:=none) hr ?_ rfl (λ i h=>by cases h) hc;cases hq:oD r with
  |true=>exact .inl rfl
  |false=>
   refine .inr λ b hbk=> ?_;have hkb:b<w.heap.size->aJ g w ρ st1.heap b:=λ h=>hk4 hq b ((hbk.2.1 h).elim id False.elim);refine⟨hbk.1,λ hlt=>(hkb (by have:=R.below.size;omega)).2.1 hlt,λ hin=> ?_⟩;have:=(R1.iJ hin).1;exact(hkb this).2.2 hin
 |fresh bb r e s n sc f' hs hsub hr hK=>
  obtain⟨k,st1,e1,R1,hk1,hk2,hk3,hk4⟩:=mid (oD r&&sc);rw[<-e1]at hK;refine⟨hs.1,(hs.2 w k args hk1 (IX hk2 hsub hk3 hargs)).mono ?_⟩;rintro e0 w' ⟨u,Ox,rfl,hb,hc,ho,hnd,hnew⟩;obtain⟨us,hown,hs0,hfl,hsc,ha⟩:=ho _ (aoo.2 rfl);have hown:w'.ownsRow 0 e s (Ox d) n us:=hown;have hBw:=R.below.size;have hkeep:(oD r&&sc)=false-> ∀b,aJ (base0 w k) w' Ox [(d,.row e s n sc f')] b->aJ g w' (cu ρ d (Ox d)) (st1.obj d d (.row e s n sc f')).heap b:=by
   intro hq b hbk;have hkb:b<w.heap.size->aJ g w ρ st1.heap b:=λ h=>hk4 hq b ((hbk.2.1 h).elim id False.elim);refine⟨hbk.1,λ hlt=>(hkb o_).2.1 hlt,λ hin=> ?_⟩;have hbl:ah (cu ρ d (Ox d)) (st1.obj d d (.row e s n sc f')).heap=blks (Ox d)++ah ρ (gone d d st1.heap):=by
    show ah _ (_::_)=_;rw[aS,yZ,oz]
    ·simp[cu]
    ·intro p hp;simp only[pX,aoR]at hp;obtain⟨q,hq,rfl⟩:=hp;exact(vI.1 hq).2.1
   rw[hbl,aov]at hin;rcases hin with h1|h1
   ·exact hbk.2.2 (by rw[aS];exact aoT _ h1)
   ·have hin':=fH h1;exact(hkb (R1.iJ hin').1).2.2 hin'
  have hblk:∀b∈blks (Ox d),w.heap.size<=b:=λ b hb'=>hnew b (aQ.2 ⟨_,aoo.2 rfl,hb'⟩);have R2:Rel g N bs (cu ρ d (Ox d)) a w' (st1.obj d d (.row e s n sc f')):=by
   refine R1.obj d d (R.below.then hb hBw) hb.size (λ b hlt _=>hb.block b hlt) (λ b hb'=> .inl (hblk b hb')) (λ hE=> ?_) (pY hown);refine⟨us,by simpa[aC,cu]using hown,hs0,hfl,hsc, ?_⟩;cases hq:(oD r&&sc)with
   |true=>
    simp only[aon]at hq;refine⟨ha.1,λ i x u hx hu=> ?_⟩;obtain⟨y,rfl⟩:=hsc hq.2 x (ao3 hx);have:=ha.2 i _ u hx hu;cases this with
    |v _ h1=>exact .v _ h1
   |false=>exact ha.imp λ _ _=>PC.mono (hkeep hq) λ _ _=>rfl
  refine⟨u,r,_,_,rfl,hK,R2, ?_,hb⟩;refine Ee (X:=aC (base0 w k) w' Ox [(d,.row e s n sc f')]) (d:=some d) hr ?_ rfl (λ i h=>by cases h;simp[aC,cu]) hc;cases hq:(oD r&&sc)with
  |true=>simp only[aon]at hq;exact .inl hq.1
  |false=>exact .inr (hkeep hq)
theorem abr(R:Rel g N bs ρ a w st){o:Oper}{c:Call}(e:o.op= .call c){x:Operand}(ec:c.callee= .value x){gg:FuncId}{caps:List AV}(ex:(st.ev x).adN= .fn gg caps){d:Nat}{K:AV->AS->Prop}{next:Act->World->Prop}{Q:Exit->Act->World->Prop}
  (h:Ko P d gg (c.args.toList.map st.ev++caps) st K)(hk:∀x st' u ρ' w',K x st'->Rel g N bs ρ' a w' st'->C2 (aC g w' ρ' st'.heap) x u->Below w.heap.size w w'->next (a.put o.dst u) w'):o.wp P a w next Q:=by
 have hx:=DN (R.ev x);rw[ex]at hx;obtain⟨us,hv,ha⟩:=C2.FU hx;have hargs:=(wZ R c.args.toList).app (UN ha);obtain⟨hent,hcall⟩:=Yl R hargs h;have hrun:(execOp a.eval o).run P w= .ok (.enter gg (c.args.toList.map a.eval++us).toArray) w:=by
  have hcf:=oL hent (c.args.toList.map a.eval++us).toArray w;have eq:(c.args.toList.map a.eval++us).toArray=(#[]++c.args.map a.eval)++us.toArray:=by
   apply aqp;simp
  rw[eq]at hcf⊢;simp only[execOp,e,resolve,ec,Deferred.ofValue,hv,aoy,aoQ,aow,invoke];exact hcf
 unfold Oper.wp;rw[hrun,Oper.upon_enter];refine hcall.mono ?_;rintro e' w' ⟨u,y,st',ρ',rfl,h1,h2,h3,h4⟩;exact hk _ _ _ _ _ h1 h2 h3 h4
theorem Kt(hL:bJ P L){W:Walk}(hW:Iz P W){ops:List Oper}(hs:Region.noSelect ops.toArray=true){kp:Bool}{Q:AS->Prop}{E:Exit->Act->World->Prop}(hE:∀e a w,e≠ .normal-> ¬E e a w)(hQ:∀ρ a w st,Rel g N bs ρ a w st->Q st->E .normal a w)
 {T U:List (Nat×List Nat)}(hTU:∀x∈T,x∈U)(hU:aeF ops U=true):
 ∀ (sc:List (Nat×Option (List Nat))){done:List Nat}{listed:Array Bool}{pend:List (Nat×Value)}{pl:List Nat}{ρ:Nat->Value}{a:Act}{w:World}{st:AS},
  (∀k l,(k,some l)∈sc->(k,l)∈T)->Yj ops T sc done=true->Lst ops.length done listed->Closed U listed->OI ops.toArray listed pend->Slots ops done pend a->Z8 P ops.toArray T listed pend a w->(∀p∈pend,alive T listed p.1->p.1∈pl)->(∀p∈pl,∃o,ops[p]? =some o/\mX o.op=true)->
  Rel g N bs ρ a w st->xB P L W N ops kp Q sc pl st->jK P ops.toArray E T sc.length listed pend a w
 |[],done,listed,pend,pl,ρ,a,w,st,_,Ku,hl,_,_,_,_,_,_,R,h=>by
  refine⟨?_,hQ _ _ _ _ R h⟩;have e:gq ops.length done 0 ops=[]:=by
   simp only[Yj]at Ku;cases hr:gq ops.length done 0 ops with
   |nil=>rfl
   |cons x l=>rw[hr]at Ku;cases Ku
  cases hr:Region.ready .any ops.toArray listed with
  |nil=>rfl
  |cons j r=>
   have:j∈gq ops.length done 0 ops:=(mM hl).1 (by rw[hr];exact aol);rw[e]at this;cases this
 |(i,none)::r,done,listed,pend,pl,ρ,a,w,st,hTs,Ku,hl,hC,hB,hS,hO,hpl,hpq,R,h=>by
  have ih:= @Kt hL W hW ops hs kp Q E hE hQ T U hTU hU r;simp only[Yj,aon]at Ku;obtain⟨hi,hrest⟩:=Ku;simp only[xB]at h;split at hi
  ·rename_i o ho;rw[ho]at h;dsimp only at h;simp only[aon]at hi;obtain⟨⟨⟨⟨hm,hf⟩,hbl⟩,hself⟩,hT⟩:=hi;have hlt:i<ops.length:=(aoC.1 ho).1;have hoA:ops.toArray[i]? =some o:=by simpa using ho
   have hr:i∈Region.ready .any ops.toArray listed:=(mM hl).2 (I8.1 hm);have hsel:=Region.noSelect_spec hs;have hT':∀l,(i,l)∈T->False:=by
    intro l hx;simp only[aoX,aqB]at hT;have:=hT _ hx;simp at this
   have aeJ:∀d,o.dst=some d->d ∉ o.looksAt ops.toArray:=by
    intro d hd;rw[hd]at hself;simp only[aoX]at hself;simpa using sD hself
   have hfree:∀j oj,ops.toArray[j]? =some oj->j≠i->listed.getD j true=false->(∀d,o.dst=some d->oj.dst≠some d)/\((∀e∈oj.after,Region.binds .any e=true->e.on≠i)->(∀d,oj.dst=some d->d ∉ o.looksAt ops.toArray)/\ ∀d,o.dst=some d->d ∉ oj.looksAt ops.toArray):=by
    intro j oj h1 h2 h3;have h1':ops[j]? =some oj:=by simpa using h1
    have hlt':j<ops.length:=(aoC.1 h1').1;exact OL hf j oj h1' o_ (by rw[apl,<-hl.NG hlt' true];exact h3)
   have hun:mJ i done=false:=by
    rw[<-hl.NG hlt true];exact(mem_ready.1 hr).1
   have akO:Cj ops done i o 0 ops=true-> ∀j oj,ops.toArray[j]? =some oj->j≠i->listed.getD j true=false-> ∀d,oj.dst=some d->d ∉ o.looksAt ops.toArray:=by
    intro hbl j oj h1 h2 h3;have h1':ops[j]? =some oj:=by simpa using h1
    have hlt':j<ops.length:=(aoC.1 h1').1;exact OM hbl j oj h1' o_ (by rw[apl,<-hl.NG hlt' true];exact h3)
   have vS:Closed U (listed.setIfInBounds i true):=by
    intro k l hk hll p hp;by_cases hki:k=i
    ·subst hki;exact getD_set_true (Kr hU k l listed hk hC hr p hp)
    ·rw[getD_set_ne false (aqP hki)]at hll;exact getD_set_true (hC k l hk hll p hp)
   have hal:∀p,alive T (listed.setIfInBounds i true) p->alive T listed p:=λ p hp k l hk hll=>hp k l hk (getD_set_true hll);have hal2:∀p,alive T listed p->alive T (listed.setIfInBounds i true) p:=λ p hp k l hk hll=>by
    by_cases hki:k=i
    ·subst hki;exact(hT' l hk).elim
    ·rw[getD_set_ne false (aqP hki)]at hll;exact hp k l hk hll
   have unl:∀k,(listed.setIfInBounds i true).getD k true=false->listed.getD k true=false:=by
    intro k hk;by_cases hki:i=k
    ·subst hki;have hsz:i<listed.size:=by rw[hl.1];exact hlt
     simp[hsz]at hk
    ·rw[getD_set_ne true hki]at hk;exact hk
   have ama:∀k,mJ k (i::done)=false->mJ k done=false:=by
    intro k hk;simp only[mJ,ap9]at hk;exact hk.2
   have step:∀(v:Value)(pu:Bool)(pl':List Nat)(ρ':Nat->Value)(st':AS),YieldsAt P ops.toArray o v a w->(pu=true->Yields P ops.toArray o v a)->(∀p∈pl,p∈pl')->(pu=false->i∈pl'/\mX o.op=true/\Cj ops done i o 0 ops=true/\ ∃d,o.dst=some d/\d<N)->(∀p∈pl',∃o,ops[p]? =some o/\mX o.op=true)->Rel g N bs ρ' (a.put o.dst v) w st'->xB P L W N ops kp Q r pl' st'->jK P ops.toArray E T (r.length+1) listed pend a w:=by
    intro v pu pl' ρ' st' hy hpu hsub hin hq' R' h';refine Rz hoA hsel (λ c a w h=>absurd h (hE _ _ _ s_)) hT' hTU (λ k l listed hk hC hr=>Kr hU k l listed hk hC hr) pu r.length listed pend a w hfree aeJ hr hC hB hO hy hpu ?_;have hB':OI ops.toArray (listed.setIfInBounds i true) (Yi pu (i,v) pend):=by
     intro p hp o' ho' k ok hk hku d hd;have amb:=unl k hku;have hki:k≠i:=by
      rintro rfl;have hsz:k<listed.size:=by rw[hl.1];exact hlt
      simp[hsz]at hku
     have old:p∈pend->d ∉ o'.looksAt ops.toArray:=λ hp=>hB p hp o' ho' k ok hk amb d hd;cases zF:pu with
     |true=>rw[zF]at hp;exact old hp
     |false=>
      rw[zF]at hp;rcases aot.1 hp with rfl|hp
      ·dsimp only at ho';rw[hoA]at ho';cases ho';exact akO (hin zF).2.2.1 k ok hk hki amb d hd
      ·exact old hp
    have hS':Slots ops (i::done) (Yi pu (i,v) pend) (a.put o.dst v):=by
     intro p hp;have old:p∈pend-> ∃o' d,ops[p.1]? =some o'/\mX o'.op=true/\o'.dst=some d/\(a.put o.dst v).tmps.getD d undef=p.2/\ ∀k ok,ops[k]? =some ok->mJ k (i::done)=false->ok.dst≠some d:=by
      intro hp;obtain⟨o',d,h1,h2,h3,h4,h5⟩:=hS p hp;refine⟨o',d,h1,h2,h3, ?_,λ k ok hk hkd=>h5 k ok hk (ama k hkd)⟩;rw[Hl λ t ht e=>h5 i o ho hun (by rw[ht,e])];exact h4
     cases zF:pu with
     |true=>rw[zF]at hp;exact old hp
     |false=>
      rw[zF]at hp;rcases aot.1 hp with rfl|hp
      ·obtain⟨_,hq,_,d,hd,hdN⟩:=hin zF;refine⟨o,d,ho,hq,hd, ?_,λ k ok hk hkd=> ?_⟩
       ·rw[hd];have:d<a.tmps.size:=by rw[R.size];exact hdN
        simp[Act.put,this]
       ·have hlt':k<ops.length:=(aoC.1 hk).1;have hki:k≠i:=by
         rintro rfl;simp[mJ]at hkd
        exact(hfree k ok (by simpa using hk) hki (by rw[hl.NG hlt' true];exact ama k hkd)).1 d hd
      ·exact old hp
    have hO':Z8 P ops.toArray T (listed.setIfInBounds i true) (Yi pu (i,v) pend) (a.put o.dst v) w:=by
     intro p hp hap o' ho';have old:p∈pend->YieldsAt P ops.toArray o' p.2 (a.put o.dst v) w:=λ hp=>
      (YieldsAt.put (λ cs b=>hsel _ _ cs b ho') λ d hd=>hB p hp o' ho' i o hoA (mem_ready.1 hr).1 d hd).2 (hO p hp (hal _ hap) o' ho')
     cases zF:pu with
     |true=>rw[zF]at hp;exact old hp
     |false=>
      rw[zF]at hp;rcases aot.1 hp with rfl|hp
      ·dsimp only at ho';rw[hoA]at ho';cases ho';exact(YieldsAt.put (λ cs b=>hsel _ _ cs b hoA) aeJ).2 hy
      ·exact old hp
    refine ih (λ k l hk=>hTs k l (aoq _ hk)) hrest (hl.set hlt) vS hB' hS' hO' ?_ hq' R' h';intro p hp hap;have old:p∈pend->p.1∈pl':=λ hp=>hsub _ (hpl p hp (hal _ hap));cases zF:pu with
    |true=>rw[zF]at hp;exact old hp
    |false=>
     rw[zF]at hp;rcases aot.1 hp with rfl|hp
     ·exact(hin zF).1
     ·exact old hp
   split at h
   ·rename_i hw;have hwant:=nD R hw;split at h
    ·rename_i hpu;have go:∀d,XY P L W d st o.op (λ x st'=>qY N st' o.dst x (xB P L W N ops kp Q r pl))->jK P ops.toArray E T (r.length+1) listed pend a w:=by
      intro d hd;obtain⟨x,u,st',ρ',h1,R1,h2,h3⟩:=U0 hL R hpu hd;obtain⟨st2,k2,R2⟩:=iq R1 h2 h1;exact step u true pl _ st2 (.inl ⟨hwant,h3 w⟩) (λ _=> .inl ⟨hwant,h3⟩) (λ _ h=>h) (λ e=>by cases e) hpq R2 k2
     unfold BU at h;cases hd:o.dst with
     |none=>rw[hd]at h;dsimp only at h;exact go 0 (by rw[hd];exact h)
     |some d=>rw[hd]at h;dsimp only at h;exact go d (by rw[hd];exact h)
    ·rename_i hnp;have ang:Cj ops done i o 0 ops=true:=by
      rcases apf _ _▸hbl with h1|h1
      ·rw[U8 h1 L st]at hnp;cases hnp
      ·exact h1
     cases hq:mX o.op with
     |false=>rw[hq]at h;exact h.elim
     |true=>
     rw[hq]at h;dsimp only at h;unfold BU at h;cases hd:o.dst with
     |none=>
      rw[hd]at hself;cases hself
     |some d=>
      rw[hd]at h;dsimp only at h;obtain⟨x,u,h1,h2,h3⟩:=Au hL R (o:=o) hq h;have hdN:d<N:=by
       unfold qY at h1;dsimp only at h1;cases hb:Nat.ble (d+1) N with
       |false=>rw[hb]at h1;exact h1.elim
       |true=>exact aox hb
      obtain⟨st2,k2,R2⟩:=iq R h2 h1;exact step u false (i::pl) ρ st2 (.inl ⟨hwant,h3⟩) (λ e=>by cases e) (λ _ h=>aoq _ h) (λ _=>⟨aol,hq,ang,d,hd,hdN⟩) (λ p hp=>by
       rcases aot.1 hp with rfl|hp
       ·exact⟨o,ho,hq⟩
       ·exact hpq p hp) (by rw[hd];exact R2) k2
   ·rename_i hw;have hwant:=nD R hw;obtain⟨st2,k2,R2⟩:=iq R (show C2 (aC g w ρ st.heap) (.v undef) undef from rfl) h;exact step undef true pl ρ st2 (.inr ⟨hwant,rfl⟩) (λ _=> .inr ⟨hwant,rfl⟩) (λ _ h=>h) (λ e=>by cases e) hpq R2 k2
   ·exact h.elim
  ·cases hi
 |(i,some l)::r,done,listed,pend,pl,ρ,a,w,st,hTs,Ku,hl,hC,hB,hS,hO,hpl,hpq,R,h=>by
  have ih:= @Kt hL W hW ops hs kp Q E hE hQ T U hTU hU r;simp only[Yj,aon]at Ku;obtain⟨hi,hrest⟩:=Ku;have e:=aeI hi;have hr:i∈Region.ready .any ops.toArray listed:=(mM hl).2 (by rw[e];exact aol);refine⟨λ h0=>(by rw[h0]at hr;cases hr),λ j hj=> ?_⟩;have hji:j=i:=by
   have:=(mM hl).1 hj;rw[e]at this;exact aoo.1 this
  subst hji;simp only[xB]at h;split at h
  ·rename_i o ho;have hlt:j<ops.length:=(aoC.1 ho).1;have hoA:ops.toArray[j]? =some o:=by simpa using ho
   have hsel:=Region.noSelect_spec hs;have hun:mJ j done=false:=by
    rw[<-hl.NG hlt true];exact(mem_ready.1 hj).1
   have hjT:(j,l)∈T:=hTs j l aol;have vS:Closed U (listed.setIfInBounds j true):=by
    intro k l hk hll p hp;by_cases hki:k=j
    ·subst hki;exact getD_set_true (Kr hU k l listed hk hC hr p hp)
    ·rw[getD_set_ne false (aqP hki)]at hll;exact getD_set_true (hC k l hk hll p hp)
   have hB':OI ops.toArray (listed.setIfInBounds j true) pend:=by
    intro p hp o' ho' k ok hk hku d hd;refine hB p hp o' ho' k ok hk ?_ d hd;by_cases hki:j=k
    ·subst hki;exact(mem_ready.1 hj).1
    ·rw[getD_set_ne true hki]at hku;exact hku
   have hsz:j<listed.size:=by rw[hl.1];exact hlt
   have hal:∀p,alive T (listed.setIfInBounds j true) p->alive T listed p/\p ∉ l:=λ p hp=>⟨λ k l hk hll=>hp k l hk (getD_set_true hll),hp j l hjT (by simp[hsz])⟩;have fin0:∀(u:Value)(ρ':Nat->Value)(w':World)(st':AS),Rel g N bs ρ' (a.put o.dst u) w' st'->(∀p∈outOf l pl,∀o2 d,ops[p]? =some o2->o2.dst=some d->(∀v,(execOp a.eval o2).run P w= .ok (.value v) w->v=(a.put o.dst u).tmps.getD d undef->(execOp (a.put o.dst u).eval o2=execOp a.eval o2)->(execOp (a.put o.dst u).eval o2).run P w'= .ok (.value v) w'))->xB P L W N ops kp Q r (outOf l pl) st'->Z8 P ops.toArray T (listed.setIfInBounds j true) pend (a.put o.dst u) w'/\jK P ops.toArray E T r.length (listed.setIfInBounds j true) pend (a.put o.dst u) w':=by
    intro u ρ' w' st' R' hre hK;have anh:∀p∈outOf l pl,∃o,ops[p]? =some o/\mX o.op=true:=λ p hp=>hpq p (AA hp);have hS':Slots ops (j::done) pend (a.put o.dst u):=by
     intro p hp;obtain⟨o',d,h1,h2,h3,h4,h5⟩:=hS p hp;refine⟨o',d,h1,h2,h3, ?_,λ k ok hk hkd=>h5 k ok hk ?_⟩
     ·rw[Hl λ t ht e=>h5 j o ho hun (by rw[ht,e])];exact h4
     ·simp only[mJ,ap9]at hkd;exact hkd.2
    have hin:∀p∈pend,alive T (listed.setIfInBounds j true) p.1->p.1∈outOf l pl:=λ p hp hap=>F6 (hpl p hp (hal _ hap).1) (hal _ hap).2;have hO':Z8 P ops.toArray T (listed.setIfInBounds j true) pend (a.put o.dst u) w':=by
     intro p hp hap o' ho';have ho2:ops[p.1]? =some o':=by simpa using ho'
     obtain⟨o3,d3,q1,q2,q3,q4,q5⟩:=hS' p hp;rw[ho2]at q1;obtain rfl:o'=o3:=by simpa using q1
     have:=hO p hp (hal _ hap).1 o' ho';have hd':∀d,o.dst=some d->d ∉ o'.looksAt ops.toArray:=λ d hd=>hB p hp o' ho' j o hoA (mem_ready.1 hj).1 d hd;have hw':=wanted_put (ops:=ops.toArray) o' a o.dst u hd';have he':=execOp_put (ops:=ops.toArray) o' (λ cs b=>hsel _ _ cs b ho') a o.dst u hd';rcases this with⟨h1,h2⟩|⟨h1,h2⟩
     ·exact .inl ⟨by rw[hw'];exact h1,hre p.1 (hin p hp hap) o' d3 ho2 q3 _ h2 q4.symm he'⟩
     ·exact .inr ⟨by rw[hw'];exact h1,h2⟩
    exact⟨hO',ih (λ k l hk=>hTs k l (aoq _ hk)) hrest (hl.set hlt) vS hB' hS' hO' hin anh R' hK⟩
   have amc:∀(u:Value)(ρ':Nat->Value)(w':World)(st':AS)(l':List Nat){K:Prop},Rel g N bs ρ' (a.put o.dst u) w' st'->(∀p∈l',p∈outOf l pl)->NH P L W N ops l' st' K->K/\ ∀p∈l',∀o2 d,ops[p]? =some o2->o2.dst=some d->(∀v,(execOp a.eval o2).run P w= .ok (.value v) w->v=(a.put o.dst u).tmps.getD d undef->(execOp (a.put o.dst u).eval o2=execOp a.eval o2)->(execOp (a.put o.dst u).eval o2).run P w'= .ok (.value v) w'):=by
    intro u ρ' w' st' l' K R' hsub hk;obtain⟨hK,hre⟩:=aac hL R' (λ p hp=>hpq p (AA (hsub p hp))) hk;refine⟨hK,λ p hp o2 d h1 h2 v _ h4 _=> ?_⟩;obtain⟨o3,d3,k1,k2,k3⟩:=hre p hp;rw[h1]at k1;obtain rfl:o2=o3:=by simpa using k1
    rw[h2]at k2;obtain rfl:d=d3:=by simpa using k2
    rw[k3,h4]
   have fin:∀(u:Value)(ρ':Nat->Value)(w':World)(st':AS),Rel g N bs ρ' (a.put o.dst u) w' st'->NH P L W N ops (outOf l pl) st' (xB P L W N ops kp Q r (outOf l pl) st')->Z8 P ops.toArray T (listed.setIfInBounds j true) pend (a.put o.dst u) w'/\jK P ops.toArray E T r.length (listed.setIfInBounds j true) pend (a.put o.dst u) w':=by
    intro u ρ' w' st' R' hk;obtain⟨hK,hre⟩:=amc u ρ' w' st' _ R' (λ p hp=>hp) hk;exact fin0 u ρ' w' st' R' hre hK
   have amd:∀(u:Value)(ρ':Nat->Value)(w':World)(st':AS),Rel g N bs ρ' (a.put o.dst u) w' st'->Below w.heap.size w w'->NH P L W N ops (xA L st ops (outOf l pl)) st' (xB P L W N ops kp Q r (outOf l pl) st')->Z8 P ops.toArray T (listed.setIfInBounds j true) pend (a.put o.dst u) w'/\jK P ops.toArray E T r.length (listed.setIfInBounds j true) pend (a.put o.dst u) w':=by
    intro u ρ' w' st' R' hBw hk;obtain⟨hK,hre⟩:=amc u ρ' w' st' _ R' (λ p hp=>CJ hp) hk;refine fin0 u ρ' w' st' R' (λ p hp o2 d h1 h2 v h3 h4 h5=> ?_) hK;rcases CG (L:=L) (st:=st) (ops:=ops) hp with hkp|hnk
    ·unfold U7 at hkp;rw[h1]at hkp;obtain⟨v',hv'⟩:=abq (P:=P) hL R (o:=o2) hkp;have e1:=hv' w (apD _ _);rw[e1]at h3;have e2:v'=v:=by simpa using h3
     rw[h5,hv' w' hBw,e2]
    ·exact hre p hnk o2 d h1 h2 v h3 h4 h5
   unfold wpOp;rw[hoA];dsimp only;cases kp with
   |true=>
    dsimp only at h;unfold ajV at h;split at h
    ·rename_i hw;rw[nD R hw];simp only[if_true];refine .inl ?_;split at h
     ·rename_i c ec;split at h
      ·rename_i x ex;split at h
       ·rename_i gg caps ev;rw[iU]at h;refine abr R ec ex ev h ?_;intro x st' u ρ' w' hx R' hc hBw;obtain⟨st2,h2,R2⟩:=iq R' hc hx;exact amd u ρ' w' st2 R2 hBw h2
       ·exact h.elim
      ·exact h.elim
     ·exact h.elim
    ·rename_i hw;rw[nD R hw];simp only[aph,if_false];obtain⟨st2,k2,R2⟩:=iq R (show C2 (aC g w ρ st.heap) (.v undef) undef from rfl) h;exact amd undef ρ w st2 R2 (apD _ _) k2
    ·exact h.elim
   |false=>
    dsimp only at h;unfold qL at h;split at h
    ·rename_i hw;rw[nD R hw];simp only[if_true];refine .inl ?_;have go:∀d,XY P L W d st o.op (λ x st'=>qY N st' o.dst x (λ st'=>NH P L W N ops (outOf l pl) st' (xB P L W N ops false Q r (outOf l pl) st')))->o.wp P a w (λ a' w'=>Z8 P ops.toArray T (listed.setIfInBounds j true) pend a' w'/\jK P ops.toArray E T r.length (listed.setIfInBounds j true) pend a' w') E:=by
      intro d hd;refine IZ hL hW R (d:=d) hd ?_;intro x st' u ρ' w' hx R' hc;obtain⟨st2,h2,R2⟩:=iq R' hc hx;exact fin u ρ' w' st2 R2 h2
     unfold BU at h;cases hd:o.dst with
     |none=>rw[hd]at h;dsimp only at h;exact go 0 (by rw[hd];exact h)
     |some d=>rw[hd]at h;dsimp only at h;exact go d (by rw[hd];exact h)
    ·rename_i hw;rw[nD R hw];simp only[aph,if_false];obtain⟨st2,k2,R2⟩:=iq R (show C2 (aC g w ρ st.heap) (.v undef) undef from rfl) h;exact fin undef ρ w st2 R2 k2
    ·exact h.elim
  ·exact h.elim
theorem fO.aeK(kp:Bool)(hL:bJ P L){W:Walk}(hW:Iz P W)(sc:List (Nat×Option (List Nat)))(U:List (Nat×List Nat)){id:Nat}{ops:Array Oper}{K:AS->Prop}{st:AS}(hm:P.follows .mixedOrders=true)(hs:(Region.noSelect ops&&Nat.beq sc.length ops.size&&F5 ops.toList sc U)=true)
  (h:xB P L W N ops.toList kp K sc [] st):fO P L W N id ops K st:=by
 refine .sem λ g bs ρ a w E R hK=> ?_;simp only[aon,F5]at hs;obtain⟨⟨hns,hlen⟩,⟨hU,hTU⟩,Ku⟩:=hs;refine Code.wp_mono (Q:=λ e a w=>e= .normal/\E .normal a w) (λ e a w h=>by obtain⟨rfl,h⟩:=h;exact h) ?_;have e1:ops.size=ops.toList.length:=s_
 refine wp_region_any hm ?_;have hl:Lst ops.toList.length [] (Array.replicate ops.size false):=by
  refine⟨s_,λ k hk=> ?_⟩;rw[Array.getElem?_replicate,if_pos (by rw[e1];exact hk)];rfl
 have hnone:∀k,(Array.replicate ops.size false).getD k false=false:=by
  intro k;rw[Array.getD_eq_getD_getElem?,Array.getElem?_replicate];split<;>rfl
 have R':Rel g N bs ρ a w.drew st:=R.world (apD _ _).drew;have:=Kt (g:=g) (bs:=bs) (N:=N) hL hW (ops:=ops.toList) (by simpa using hns) (Q:=K) (E:=λ e a w=>e= .normal/\E .normal a w) (λ e a w hne h=>hne h.1) (λ ρ a w st R h=>⟨rfl,hK ρ a w st R h⟩) (ah7 hTU) hU sc (pend:=[]) (pl:=[])
  (λ k l h=>CB h) Ku hl (λ k l hk hll=>by rw[hnone]at hll;cases hll) (λ p hp=>by cases hp) (λ p hp=>by cases hp) (λ p hp=>by cases hp) (λ p hp=>by cases hp) (λ p hp=>by cases hp) R' h
 have h3:=this.any;have e2:sc.length=ops.size:=aos hlen;rw[e2]at h3;simpa using h3
theorem fO.sched(hL:bJ P L){W:Walk}(hW:Iz P W)(sc:List (Nat×Option (List Nat)))(U:List (Nat×List Nat)){id:Nat}{ops:Array Oper}{K:AS->Prop}{st:AS}(hm:P.follows .mixedOrders=true)(hs:(Region.noSelect ops&&Nat.beq sc.length ops.size&&F5 ops.toList sc U)=true)
 (h:xB P L W N ops.toList false K sc [] st):fO P L W N id ops K st:= .aeK false hL hW sc U hm hs h
theorem fO.keep(hL:bJ P L){W:Walk}(hW:Iz P W)(sc:List (Nat×Option (List Nat)))(U:List (Nat×List Nat)){id:Nat}{ops:Array Oper}{K:AS->Prop}{st:AS}(hm:P.follows .mixedOrders=true)(hs:(Region.noSelect ops&&Nat.beq sc.length ops.size&&F5 ops.toList sc U)=true)
 (h:xB P L W N ops.toList true K sc [] st):fO P L W N id ops K st:= .aeK true hL hW sc U hm hs h
end
end Go.Proofs.YtifjccndenojlaaGreat
