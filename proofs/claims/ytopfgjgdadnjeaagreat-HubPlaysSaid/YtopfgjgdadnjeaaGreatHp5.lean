/-
  Contracts of the walk:AmC.
-/
import Derived.Test.YtopfgjgdadnjeaaGreatHp4
import Derived.Orders
set_option maxHeartbeats 16000000
set_option maxRecDepth 100000
set_option linter.unusedVariables false
set_option linter.unusedSimpArgs false
namespace Go.Proofs.YtopfgjgdadnjeaaGreat
open Go.RowKit
variable{r:AV}{listed:Array Bool}{f:FuncId}{hin hout:List (Nat×AO)}{bD:List AV}{done:List Nat}{ops:List Oper}{d n:Nat}{P:Program}
def abT(k:Nat):AO->AV
 | .box .. => .box k 0
 | .row .. => .own k
 | .mp .. => .own k
 | .obs _=> .own k
 | .rn .. => .own k
def DN:Nat->List (Nat×AO)->List (Nat×AV)
 |_,[]=>[]
 |n,(k,o)::l=>(n,abT k o)::DN (n+1) l
def EM(bD:List AV)(hin:List (Nat×AO))(base:Nat):AS:=⟨zH 0 bD,hin,[DN 0 hin],base⟩
def Jy:AO->Bool
 | .box .. =>false
 | .row .. =>false
 | .mp .. =>true
 | .obs _=>true
 | .rn .. =>false
def aag(k:Nat)(o:AO)(hout:List (Nat×AO)):Bool:=match aQ k hout with|some o'=>Jy o==Jy o'|none=>true
def EN(hout:List (Nat×AO))(back:List (List (Nat×AV))):Nat->List (Nat×AO)->Bool
 |_,[]=>true
 |n,(k,o)::l=>(!(bW k hout)||(aag k o hout&&match back,o with
  |[f],.box .. =>(match xU f n with| .box i j=>Nat.beq i k&&Nat.beq j 0|_=>false)
  |[f],.row .. =>(match xU f n with| .own i=>Nat.beq i k|_=>false)
  |[f],.mp .. =>(match xU f n with| .own i=>Nat.beq i k|_=>false)
  |[f],.obs _=>(match xU f n with| .own i=>Nat.beq i k|_=>false)
  |[f],.rn .. =>(match xU f n with| .own i=>Nat.beq i k|_=>false)
  |_,_=>false))&&EN hout back (n+1) l
def EO(h hout:List (Nat×AO)):AV->AV
 | .own i=>bif bW i hout then .own i else Gt h (.own i)
 | .box i k=>bif bW i hout then .box i k else .junk
 | .dP i s j k=>bif bW i hout then .dP i s j k else .junk
 | .jm i s j k=>bif bW i hout then .jm i s j k else .junk
 | .v x=> .v x
 | .sl s n sc f=> .sl s n sc f
 |_=> .junk
def VQ(h hout:List (Nat×AO)):AV->AV
 | .agg cs=> .agg (cs.map (EO h hout))
 |x=>EO h hout x
def VR(h hout:List (Nat×AO)):AV->AV
 | .bJ vs=> .bJ (vs.map (VQ h hout))
 |x=>VQ h hout x
structure Dt(hin:List (Nat×AO))(σ:List (Nat×Nat))(st:AS)(x r:AV)(hout:List (Nat×AO)):Prop where
 nd:nodupB (σ.map (·.2))=true
 fx:EN hout (st.ren σ).back 0 hin=true
 hp:LeH (st.ren σ) hout
 hn:nodupB (hout.map (·.1))=true
 hc:iF hout hout=true
 hr:bI (VR (st.ren σ).heap hout (Bj σ x)) r
def LD(L:Lay)(fn:Func)(hin:List (Nat×AO))(r:AV)(hout:List (Nat×AO)):jK->AS->Prop
 | .normal,st=>qO L st fn.results.toList (λ x=> ∃σ,Dt hin σ st x r hout)
 | .ret,st=>qO L st fn.results.toList (λ x=> ∃σ,Dt hin σ st x r hout)
 | .exit _,_=>False
section
variable{P:Program}{L:Lay}{g:Base}{N:Nat}{bs:List (Array Value)}{ρ:Nat->Value}{a:Act}{w:World}{st:AS}
def nS(ρ:Nat->Value):List (Nat×AO)->List Value
 |[]=>[]
 |(k,_)::l=>fM (ρ k)::nS ρ l
theorem LG{X:CX}:∀{hin:List (Nat×AO)}{n:Nat}{pre:List Value},pre.length=n->(∀p∈hin,bn X p.1 p.2)-> ∀t,C2 X (xU (DN n hin) t) ((pre++nS X.ρ hin).toArray.getD t undef)
 |[],n,pre,_,_,t=>trivial
 |(k,o)::l,n,pre,hp,ho,t=>by
  have ih:=LG (X:=X) (hin:=l) (n:=n+1) (pre:=pre++[fM (X.ρ k)]) (by simp[hp]) (λ p hp=>ho p (List.mem_cons_of_mem _ hp)) t;simp only[DN,xU];cases hb:Nat.beq t n with
  |true=>
   have e:=Nat.eq_of_beq_eq_true hb;have ev:(pre++nS X.ρ ((k,o)::l)).toArray.getD t undef=fM (X.ρ k):=by
    simp[nS,e,<-hp]
   simp only[cond_true];rw[ev];have h0:=ho (k,o) List.mem_cons_self;cases o with
   |box ty cs=>obtain⟨b,us,e',_⟩:=h0;exact⟨b,by rw[e'];rfl,by rw[e'];rfl⟩
   |row=>exact rfl
   |mp=>exact rfl
   |obs=>exact rfl
   |rn=>exact rfl
  |false=>
   simp only[cond_false];have e3:pre++nS X.ρ ((k,o)::l)=pre++[fM (X.ρ k)]++nS X.ρ l:=by simp[nS]
   rw[e3];exact ih
theorem bn.bJ{X:CX}{k:Nat}{o:AO}(h:bn X k o):(Jy o=true-> ∃us,X.ρ k= .tuple us)/\(Jy o=false->fM (X.ρ k)=X.ρ k):=by
 cases o with
 |box t cs=>obtain⟨b,us,e,_⟩:=h;exact⟨λ h=>(by cases h),λ _=>by rw[e];rfl⟩
 |row e s n sc f=>exact⟨λ h=>(by cases h),λ _=>Dy h⟩
 |mp t ks rs=>obtain⟨b,es,c,vs,hs,e,_⟩:=h;exact⟨λ _=>⟨_,e⟩,λ h=>(by cases h)⟩
 |obs o=>obtain⟨us,e,_⟩:=h;exact⟨λ _=>⟨_,e⟩,λ h=>(by cases h)⟩
 |rn e cs=>obtain⟨us,⟨hown,_⟩,_⟩:=h;exact⟨λ h=>(by cases h),λ _=>iO hown⟩
theorem kind_eq{X Y:CX}{k:Nat}{o o':AO}(h:bn X k o)(h':bn Y k o')(hk:Jy o=Jy o')(e:fM (Y.ρ k)=fM (X.ρ k)):Bd (Y.ρ k) (X.ρ k):=by
 cases hb:Jy o with
 |true=>exact .inr ⟨h'.bJ.1 (hk▸hb),h.bJ.1 hb,e⟩
 |false=>
  rw[h.bJ.2 hb,h'.bJ.2 (hk▸hb)]at e;exact .inl e
theorem LH{X Y:CX}{hout:List (Nat×AO)}{back:List (List (Nat×AV))}:∀{hin:List (Nat×AO)}{n:Nat}{pre:List Value}{vs:List Value},pre.length=n->vs=pre++nS Y.ρ hin->(∀p∈hin,bn Y p.1 p.2)->(∀p∈hin,bW p.1 hout=true-> ∃o,aQ p.1 hout=some o/\bn X p.1 o)->mF X back [vs.toArray]->EN hout back n hin=true-> ∀p∈hin,bW p.1 hout=true->Bd (X.ρ p.1) (Y.ρ p.1)
 |[],_,_,_,_,_,_,_,_,_,p,hp,_=>by cases hp
 |(k,o)::l,n,pre,vs,hlen,hvs,oH,QG,hbk,hf,p,hp,hn=>by
  simp only[EN,Bool.and_eq_true,Bool.or_eq_true,Bool.not_eq_true']at hf;rcases List.mem_cons.1 hp with rfl|hp
  ·rcases hf.1 with h|⟨hkb,h⟩
   ·rw[h]at hn;cases hn
   ·have ev:vs.toArray.getD n undef=fM (Y.ρ k):=by
     rw[hvs];simp[nS,<-hlen]
    obtain⟨o',ho',hok'⟩:=QG _ List.mem_cons_self hn;have hok:=oH _ List.mem_cons_self;have hkk:Jy o=Jy o':=by
     unfold aag at hkb;rw[ho']at hkb;exact eq_of_beq hkb
    refine kind_eq hok hok' hkk ?_;match back,hbk,h with
    |[f],hbk,h=>
     have h2:=hbk.1 n;rw[ev]at h2;have own:(match xU f n with| .own i=>Nat.beq i k|_=>false)=true->fM (X.ρ k)=fM (Y.ρ k):=by
      intro h;split at h
      ·rename_i i e;rw[e]at h2;have e1:=Nat.eq_of_beq_eq_true h;subst e1;exact(C2.kW h2).symm
      ·cases h
     cases o with
     |box t cs=>
      dsimp only at h;split at h
      ·rename_i i j e;rw[e]at h2;simp only[Bool.and_eq_true]at h;have e1:=Nat.eq_of_beq_eq_true h.1;have e2:=Nat.eq_of_beq_eq_true h.2;subst e1 e2;obtain⟨b,h3,h4⟩:=C2.lK h2;exact h3.trans h4.symm
      ·cases h
     |row=>exact own h
     |mp=>exact own h
     |obs=>exact own h
     |rn=>exact own h
    |[],hbk,h=>exact hbk.elim
    |_::_::_,hbk,h=>exact hbk.2.elim
  ·exact LH (pre:=pre++[fM (Y.ρ k)]) (vs:=vs) (by simp[hlen]) (by rw[hvs];simp[nS]) (λ p hp=>oH p (List.mem_cons_of_mem _ hp)) (λ p hp=>QG p (List.mem_cons_of_mem _ hp)) hbk hf.2 p hp hn
theorem OO{h:List (Nat×AO)}(hn:(h.map (·.1)).Nodup):∀p∈h,aQ p.1 h=some p.2:=by
 induction h with
 |nil=>intro p hp;cases hp
 |cons q h ih=>
  intro p hp;have hn':=List.nodup_cons.1 hn;simp only[aQ];rcases List.mem_cons.1 hp with rfl|hp
  ·simp
  ·have:Nat.beq q.1 p.1=false:=by
    rw[Bool.eq_false_iff];intro e;exact hn'.1 (List.mem_map.2 ⟨p,hp,(Nat.eq_of_beq_eq_true e).symm⟩)
   rw[this];exact ih hn'.2 p hp
theorem sQ{k:Nat->Prop}(hk:∀b,aI g w ρ st.heap b->k b){hout:List (Nat×AO)}{x:AV}{u:Value}(hr:∀i,bW i hout=false->Reads st ρ w k (.own i))(h:C0 (aB g w ρ st.heap) x u):C0 ⟨w,k,ρ⟩ (EO st.heap hout x) u:=by
 cases x with
 |own i=>
  simp only[EO];cases hb:bW i hout with
  |true=>exact h
  |false=>
   have:=xu hk (hr i hb) h;revert this;simp only[Gt,cond_false];cases aQ i st.heap with
   |none=>exact λ h=>h
   |some o=>cases o<;>exact λ h=>h
 |box i j=>
  simp only[EO];cases bW i hout with
  |true=>exact h
  |false=>trivial
 |dP i s j m=>
  simp only[EO];cases bW i hout with
  |true=>exact h
  |false=>trivial
 |jm i s j m=>
  simp only[EO];cases bW i hout with
  |true=>exact h
  |false=>trivial
 |v y=>exact h
 |sl s n sc f=>exact PC.mono hk (λ _ _=>rfl) h
 |_=>trivial
theorem qA{k:Nat->Prop}(hk:∀b,aI g w ρ st.heap b->k b){hout:List (Nat×AO)}{x:AV}{u:Value}(hr:∀i,bW i hout=false->Reads st ρ w k (.own i))(h:C1 (aB g w ρ st.heap) x u):C1 ⟨w,k,ρ⟩ (VQ st.heap hout x) u:=by
 cases x with
 |agg cs=>
  obtain⟨us,rfl,ha⟩:=h;exact⟨us,rfl,ha.mD λ _ _=>sQ hk hr⟩
 |own i=>exact C1.sH (sQ hk hr (x:= .own i) h)
 |box i j=>exact C1.sH (sQ hk hr (x:= .box i j) h)
 |dP i s j m=>exact C1.sH (sQ hk hr (x:= .dP i s j m) h)
 |jm i s j m=>exact C1.sH (sQ hk hr (x:= .jm i s j m) h)
 |v y=>exact h
 |sl s n sc f=>exact C1.sH (sQ hk hr (x:= .sl s n sc f) h)
 |_=>trivial
theorem VT{k:Nat->Prop}(hk:∀b,aI g w ρ st.heap b->k b){hout:List (Nat×AO)}{x:AV}{u:Value}(hr:∀i,bW i hout=false->Reads st ρ w k (.own i))(h:C2 (aB g w ρ st.heap) x u):C2 ⟨w,k,ρ⟩ (VR st.heap hout x) u:=by
 cases x with
 |bJ vs=>
  obtain⟨us,rfl,ha⟩:=h;exact⟨us,rfl,ha.mD λ _ _=>qA hk hr⟩
 |agg cs=>exact C2.kF (qA hk hr (x:= .agg cs) h)
 |own i=>exact C2.kF (qA hk hr (x:= .own i) h)
 |box i j=>exact C2.kF (qA hk hr (x:= .box i j) h)
 |dP i s j m=>exact C2.kF (qA hk hr (x:= .dP i s j m) h)
 |jm i s j m=>exact C2.kF (qA hk hr (x:= .jm i s j m) h)
 |v y=>exact h
 |sl s n sc f=>exact C2.kF (qA hk hr (x:= .sl s n sc f) h)
 |_=>trivial
theorem QH{st:AS}:∀{h:List (Nat×AO)},LeH st h-> ∀p∈h,∃o,aQ p.1 st.heap=some o/\fP o p.2
 |[],_,p,hp=>by cases hp
 |q::l,h,p,hp=>by
  rcases List.mem_cons.1 hp with rfl|hp
  ·exact h.1
  ·exact QH h.2 p hp
theorem Ht(hL:bQ P L)(lv base:Nat){f:FuncId}{fn:Func}{c:Code}{hin:List (Nat×AO)}{bD:List AV}{r:AV}{hout:List (Nat×AO)}{S:AS}(hf:P.funcs[f]? =some fn)(hn:(fn.name== "runtime.NumGoroutine")=false)(hb:fn.body=some c)(hsz:Nat.ble bD.length fn.ntmps=true)(hI:RZ (EM bD hin base) S)
  (h:Cm P L 9 fn.ntmps lv c (LD L fn hin r hout) S):au P f hin bD r hout:=by
 refine⟨⟨fn,c,hf,hn,hb⟩,λ w keep ρ args hkeep oH hnd hin' hargs=> ?_⟩;have hsz:=Nat.le_of_ble_eq_true hsz;have hlen:args.length=bD.length:=hargs.1.symm;refine calls_of_wp hf hb ?_;let g:Base:=(ig w keep (λ b=>b∈ah ρ hin));have hk0:∀b,keep b->aI g w ρ hin b:=λ b hb=>⟨hkeep b hb,λ _=> .inl hb,λ h=>(hin' b h).2 hb⟩;have EK:aN (C2 (aB g w ρ hin)) bD args:=hargs.imp λ _ _ h=>C2.kF (C1.same (X:=⟨w,keep,ρ⟩) (Y:=aB g w ρ hin) hk0 (λ _ _=>rfl) rfl h);have aah:∀p∈hin,bn (aB g w ρ hin) p.1 p.2:=λ p hp=>by
  exact bn.same (X:=⟨w,keep,ρ⟩) (Y:=aB g w ρ hin) hk0 (λ _ _=>rfl) rfl (λ _ _=>rfl) (oH p hp)
 have R0:Rel g fn.ntmps [(nS ρ hin).toArray] ρ {tmps:=args.toArray++Array.replicate (fn.ntmps-args.toArray.size) undef,defers:=[]} w (EM bD hin base):=
  ⟨by simp;omega,rfl,gy.refl _ _ _,qX EK hsz,aah,hnd,λ b hb=> .inr hb,⟨λ t=>LG (X:=aB g w ρ hin) (n:=0) (pre:=[]) rfl aah t,trivial⟩⟩
 have fin:∀(e:Exit),(e= .normal\/e= .ret)-> ∀Vt a w' st,Rel g fn.ntmps [(nS ρ hin).toArray] Vt a w' st->qO L st fn.results.toList (λ x=> ∃σ,Dt hin σ st x r hout)->
   bodyPost P fn (λ e w'=> ∃u ρ',e= .returned u/\gy (λ b=>b∈ah ρ hin) w.heap.size w w'/\(∀p∈hin,∀q∈hout,q.1=p.1->Bd (ρ' p.1) (ρ p.1))/\C2 (aB g w' ρ' hout) r u/\(∀p∈hout,bn (aB g w' ρ' hout) p.1 p.2)/\(ah ρ' hout).Nodup/\ ∀b∈ah ρ' hout,w.heap.size<=b\/b∈ah ρ hin) e a w':=by
  intro e he Vt a w' st R1 hq;obtain⟨x,u,⟨σ,hret⟩,hc,hrun⟩:=DJ hL R1 hq;have post:a.defers=[]/\ ∃v,(results fn a.tmps).run P w'= .ok v w'/\ ∃u ρ',Ending.returned v= .returned u/\gy (λ b=>b∈ah ρ hin) w.heap.size w w'/\(∀p∈hin,∀q∈hout,q.1=p.1->Bd (ρ' p.1) (ρ p.1))/\C2 (aB g w' ρ' hout) r u/\(∀p∈hout,bn (aB g w' ρ' hout) p.1 p.2)/\(ah ρ' hout).Nodup/\ ∀b∈ah ρ' hout,w.heap.size<=b\/b∈ah ρ hin:=by
   have R:=R1.ren hret.nd;have hc:C2 (aB g w' (mV σ Vt) (st.ren σ).heap) (Bj σ x) u:=
    C2.ren (X:=aB g w' Vt st.heap) (Y:=aB g w' (mV σ Vt) (st.ren σ).heap) (λ b h=>⟨h.1,h.2.1,λ h'=>h.2.2 ((yI (oI hret.nd) Vt st.heap).subset h')⟩) rfl (λ k i e=>EI (oI hret.nd) e) hc
   generalize hst:st.ren σ=st' at*;generalize ac5:mV σ Vt=ρ' at*;have hfx:=hret.fx;rw[hst]at hfx;have hp:=hret.hp;rw[hst]at hp;have hrr:=hret.hr;rw[hst]at hrr;have hmem:=QH hp;have aai:∀b,b∈ah ρ' hout->b∈ah ρ' st'.heap:=λ b hb=>by
    obtain⟨p,hp,e⟩:=aU.1 hb;obtain⟨o,ho,_⟩:=hmem p hp;exact aU.2 ⟨_,aA ho,e⟩
   have hk:∀b,aI g w' ρ' st'.heap b->aI g w' ρ' hout b:=λ b h=>⟨h.1,h.2.1,λ h'=>h.2.2 (aai b h')⟩;refine⟨R1.defers,u,hrun,u,ρ',rfl,R.below, ?_, ?_, ?_,yH (oI hret.hn) R.apart (λ p hp=>by obtain⟨o,ho,_⟩:=hmem p hp;exact⟨_,aA ho,rfl⟩),λ b hb=>R.own b (aai b hb)⟩
   ·intro p hp q hq e;exact LH (X:=aB g w' ρ' st'.heap) (Y:=⟨w,keep,ρ⟩) (pre:=[]) (n:=0) rfl rfl oH (λ p hp hno=>by
     obtain⟨q,hq,eq⟩:=cO.1 hno;obtain⟨o,ho,hoe⟩:=hmem q hq;have hfo:=OO (oI hret.hn) q hq;rw[eq]at ho hfo;exact⟨q.2,hfo,hoe _ _ (R.objs _ (aA ho))⟩) R.back hfx p hp (cO.2 ⟨q,hq,e⟩)
   ·refine hrr _ _ (VT (st:=st') (ρ:=ρ') hk (λ i hi=>λ j e s n sc f hij hf=> ?_) hc);refine nR R hf hk λ b hb=> ?_;have hin0:=aU.2 ⟨_,aA hf,hb⟩;have:=R.iq hin0;refine⟨this.1,λ hlt=> ?_,λ hin1=> ?_⟩
    ·exact this.2.elim (λ h=>absurd hlt (by omega)) .inr
    ·obtain⟨p,hp,ep⟩:=aU.1 hin1;obtain⟨o,ho,_⟩:=hmem p hp;have:=gJ R.apart _ (aA ho) _ (aA hf) ep hb;dsimp only at this;cases hij;rw[<-this,cO.2 ⟨p,hp,rfl⟩]at hi;cases hi
   ·intro p hp;obtain⟨o,ho,hoe⟩:=hmem p hp;refine hoe _ _ ?_;exact bn.same (X:=aB g w' ρ' st'.heap) (Y:=aB g w' ρ' hout) hk (λ _ _=>rfl) rfl (λ _ _=>rfl) (R.objs _ (aA ho))
  rcases he with rfl|rfl
  ·exact post
  ·exact post
 obtain⟨ρI,RI⟩:=hI _ _ _ _ _ _ R0;exact fF hL 9 g fn.ntmps lv [(nS ρ hin).toArray] c (LD L fn hin r hout) _ ⟨λ ρ a w' st R h=>fin _ (.inl rfl) ρ a w' st R h,λ i ρ a w' st R h=>h.elim,λ ρ a w' st R h=>fin _ (.inr rfl) ρ a w' st R h⟩ RI h
theorem VU(hL:bQ P L)(lv base:Nat){f:FuncId}{fn:Func}{c:Code}{hin:List (Nat×AO)}{bD:List AV}{r:AV}{hout:List (Nat×AO)}(hf:P.funcs[f]? =some fn)(hn:(fn.name== "runtime.NumGoroutine")=false)(hb:fn.body=some c)(hsz:Nat.ble bD.length fn.ntmps=true)
 (h:Cm P L 9 fn.ntmps lv c (LD L fn hin r hout) (EM bD hin base)):au P f hin bD r hout:=Ht hL lv base hf hn hb hsz (RZ.refl _) h
end
def Gw(σ:List (Nat×Nat))(i:Nat):Bool:=match jV σ i with|some _=>true|none=>false
def OQ(σ:List (Nat×Nat)):AV->Bool
 | .own i=>Gw σ i
 | .dP i .. =>Gw σ i
 | .jm i .. =>Gw σ i
 | .box i _=>Gw σ i
 | .cf _ i _=>Gw σ i
 |_=>true
def key1(σ:List (Nat×Nat)):AV->Bool
 | .agg cs=>cs.all (OQ σ)
 | .fn _ cs=>cs.all (OQ σ)
 |x=>OQ σ x
def key2(σ:List (Nat×Nat)):AV->Bool
 | .bJ vs=>vs.all (key1 σ)
 |x=>key1 σ x
def YN(σ:List (Nat×Nat)):AO->Bool
 | .box _ cs=>cs.all (OQ σ)
 | .row .. =>true
 | .mp _ ks _=>ks.all λ p=>match p.2 with|some i=>Gw σ i|none=>true
 | .obs _=>true
 | .rn _ cs=>cs.all (OQ σ)
def yJ(σ:List (Nat×Nat)):List (Nat×AO)->Bool
 |[]=>true
 |(k,o)::l=>Gw σ k&&YN σ o&&yJ σ l
section
variable{σ:List (Nat×Nat)}{X Y:CX}
theorem kX{i:Nat}(h:Gw σ i=true):∃j,jV σ i=some j/\kK σ i=some j:=by
 unfold Gw at h;cases e:jV σ i with
 |none=>rw[e]at h;cases h
 |some j=>exact⟨j,rfl,by simp[kK,e]⟩
theorem C0.jE(hw:Y.w=X.w)(hk:Y.keep=X.keep)(hρ:∀k i,jV σ k=some i->Y.ρ i=X.ρ k){x:AV}{u:Value}(hr:OQ σ x=true):C0 Y (pJ σ x) u↔C0 X x u:=by
 obtain⟨w,k,ρ⟩:=X;obtain⟨w',k',ρ'⟩:=Y;dsimp only at hw hk;subst hw hk;cases x with
 |own id=>
  obtain⟨j,e,e'⟩:=kX hr;simp only[pJ,e',C0];rw[show ρ' j=ρ id from hρ id j e]
 |dP id s i n=>
  obtain⟨j,e,e'⟩:=kX hr;simp only[pJ,e',C0];rw[show ρ' j=ρ id from hρ id j e]
 |jm id s i n=>
  obtain⟨j,e,e'⟩:=kX hr;simp only[pJ,e',C0];rw[show ρ' j=ρ id from hρ id j e]
 |box id off=>
  obtain⟨j,e,e'⟩:=kX hr;simp only[pJ,e',C0];rw[show ρ' j=ρ id from hρ id j e]
 |cf gg id off=>
  obtain⟨j,e,e'⟩:=kX hr;simp only[pJ,e',C0];rw[show ρ' j=ρ id from hρ id j e]
 |_=>exact Iff.rfl
theorem aN.Bv{R S:AV->Value->Prop}{m:AV->AV}{q:AV->Bool}(hi:∀x u,q x=true->(S (m x) u↔R x u)):∀{xs:List AV}{us:List Value},xs.all q=true->(aN S (xs.map m) us↔aN R xs us)
 |xs,us,hq=>by
  constructor
  ·intro h;refine⟨by simpa using h.1,λ i x u hx hu=>(hi x u (List.all_eq_true.1 hq x (List.mem_of_getElem? hx))).1 (h.2 i _ u (by rw[List.getElem?_map,hx];rfl) hu)⟩
  ·intro h;refine⟨by simpa using h.1,λ i y u hy hu=> ?_⟩;rw[List.getElem?_map]at hy;cases hx:xs[i]? with
   |none=>rw[hx]at hy;cases hy
   |some x=>rw[hx]at hy;cases hy;exact(hi x u (List.all_eq_true.1 hq x (List.mem_of_getElem? hx))).2 (h.2 i x u hx hu)
theorem C1.jE(hw:Y.w=X.w)(hk:Y.keep=X.keep)(hρ:∀k i,jV σ k=some i->Y.ρ i=X.ρ k){x:AV}{u:Value}(hr:key1 σ x=true):C1 Y (KN σ x) u↔C1 X x u:=by
 have c0:∀{y:AV},OQ σ y=true->(∀cs,y≠ .agg cs)->(∀g cs,y≠ .fn g cs)->(C1 Y (pJ σ y) u↔C1 X y u):=by
  intro y hy h1 h2;have:=C0.jE hw hk hρ (u:=u) hy;constructor
  ·intro h;refine C1.sH (this.1 ?_);have hne:∀cs,pJ σ y≠ .agg cs:=by
    intro cs e;cases y<;>simp only[pJ]at e<;>first|(split at e<;>cases e;done)|exact h1 _ rfl|cases e
   have hne2:∀g cs,pJ σ y≠ .fn g cs:=by
    intro g cs e;cases y<;>simp only[pJ]at e<;>first|(split at e<;>cases e;done)|exact h2 _ _ rfl|cases e
   revert h hne hne2;cases pJ σ y<;>intro h hne hne2<;>first|exact h|exact absurd rfl (hne _)|exact absurd rfl (hne2 _ _)
  ·intro h;refine C1.sH (this.2 ?_);revert h h1 h2;cases y<;>intro h1 h2 h<;>first|exact h|exact absurd rfl (h1 _)|exact absurd rfl (h2 _ _)
 cases x with
 |agg cs=>exact exists_congr λ us=>and_congr_right λ _=>aN.Bv (λ x u h=>C0.jE hw hk hρ h) hr
 |fn g cs=>exact exists_congr λ us=>and_congr_right λ _=>aN.Bv (λ x u h=>C0.jE hw hk hρ h) hr
 |v y=>exact c0 (y:= .v y) rfl (λ _ h=>by cases h) (λ _ _ h=>by cases h)
 |bJ vs=>exact c0 (y:= .bJ vs) rfl (λ _ h=>by cases h) (λ _ _ h=>by cases h)
 |sl s n sc f=>exact c0 (y:= .sl s n sc f) rfl (λ _ h=>by cases h) (λ _ _ h=>by cases h)
 |own i=>exact c0 (y:= .own i) hr (λ _ h=>by cases h) (λ _ _ h=>by cases h)
 |dP i s j k=>exact c0 (y:= .dP i s j k) hr (λ _ h=>by cases h) (λ _ _ h=>by cases h)
 |jm i s j k=>exact c0 (y:= .jm i s j k) hr (λ _ h=>by cases h) (λ _ _ h=>by cases h)
 |box i k=>exact c0 (y:= .box i k) hr (λ _ h=>by cases h) (λ _ _ h=>by cases h)
 |cf gg i k=>exact c0 (y:= .cf gg i k) hr (λ _ h=>by cases h) (λ _ _ h=>by cases h)
 |el cs k=>exact c0 (y:= .el cs k) rfl (λ _ h=>by cases h) (λ _ _ h=>by cases h)
 |junk=>exact c0 (y:= .junk) rfl (λ _ h=>by cases h) (λ _ _ h=>by cases h)
theorem C2.jE(hw:Y.w=X.w)(hk:Y.keep=X.keep)(hρ:∀k i,jV σ k=some i->Y.ρ i=X.ρ k){x:AV}{u:Value}(hr:key2 σ x=true)(h:C2 X x u):C2 Y (Bj σ x) u:=by
 cases x with
 |bJ vs=>
  obtain⟨us,e,ha⟩:=h;exact⟨us,e,(aN.Bv (λ x u h=>C1.jE hw hk hρ h) hr).2 ha⟩
 |agg cs=>exact C2.kF ((C1.jE hw hk hρ (x:= .agg cs) hr).2 h)
 |fn g cs=>exact C2.kF ((C1.jE hw hk hρ (x:= .fn g cs) hr).2 h)
 |v y=>exact C2.kF ((C1.jE hw hk hρ (x:= .v y) hr).2 h)
 |sl s n sc f=>exact C2.kF ((C1.jE hw hk hρ (x:= .sl s n sc f) hr).2 h)
 |own i=>exact C2.kF ((C1.jE hw hk hρ (x:= .own i) hr).2 h)
 |dP i s j k=>exact C2.kF ((C1.jE hw hk hρ (x:= .dP i s j k) hr).2 h)
 |jm i s j k=>exact C2.kF ((C1.jE hw hk hρ (x:= .jm i s j k) hr).2 h)
 |box i k=>exact C2.kF ((C1.jE hw hk hρ (x:= .box i k) hr).2 h)
 |cf gg i k=>exact C2.kF ((C1.jE hw hk hρ (x:= .cf gg i k) hr).2 h)
 |el cs k=>exact C2.kF ((C1.jE hw hk hρ (x:= .el cs k) hr).2 h)
 |junk=>exact C2.kF ((C1.jE hw hk hρ (x:= .junk) hr).2 h)
theorem jD.jE{ρ ρ':Nat->Value}(hρ:∀k i,jV σ k=some i->ρ' i=ρ k):∀{ks:List (ByteArray×Option Nat)}{vs:List Value},(ks.all λ p=>match p.2 with|some i=>Gw σ i|none=>true)=true->(jD ρ' (jE σ ks) vs↔jD ρ ks vs)
 |[],_,_=>Iff.rfl
 |(k,none)::l,vs,h=>by
  simp only[List.all_cons,Bool.and_eq_true]at h;simp only[Go.Proofs.YtopfgjgdadnjeaaGreat.jE,jD];exact exists_congr λ v=>exists_congr λ r=>and_congr_right λ _=>and_congr ⟨λ _ i hi=>(by cases hi),λ _ i hi=>(by cases hi)⟩ (jD.jE hρ h.2)
 |(k,some i)::l,vs,h=>by
  simp only[List.all_cons,Bool.and_eq_true]at h;obtain⟨j,e,e'⟩:=kX h.1;simp only[Go.Proofs.YtopfgjgdadnjeaaGreat.jE,jD,e'];refine exists_congr λ v=>exists_congr λ r=>and_congr_right λ _=>and_congr ?_ (jD.jE hρ h.2);constructor
  ·intro q x hx;cases hx;rw[<-hρ i j e];exact q j rfl
  ·intro q x hx;cases hx;rw[hρ i j e];exact q i rfl
theorem bn.jE(hw:Y.w=X.w)(hk:Y.keep=X.keep)(hρ:∀k i,jV σ k=some i->Y.ρ i=X.ρ k){k i:Nat}{o:AO}(hi:jV σ k=some i)(hr:YN σ o=true):bn Y i (o.ren σ)↔bn X k o:=by
 cases o with
 |box t cs=>
  simp only[AO.ren,bn,hw,hρ k i hi];exact exists_congr λ b=>exists_congr λ us=>and_congr_right λ _=>and_congr_right λ _=>aN.Bv (λ x u h=>C0.jE hw hk hρ h) hr
 |row e s n sc f=>
  simp only[AO.ren,bn,xZ,hw,hk,hρ k i hi]
 |mp t ks rs=>
  have hh:∀hs,sJ Y rs hs↔sJ X rs hs:=λ hs=>⟨sJ.mono (by rw[hk];exact λ _ h=>h) (λ _ _=>by rw[hw]) (λ _ _=>by rw[hw]),sJ.mono (by rw[hk];exact λ _ h=>h) (λ _ _=>by rw[hw]) (λ _ _=>by rw[hw])⟩;simp only[AO.ren,bn,hw,hρ k i hi,wY,hh];exact exists_congr λ b=>exists_congr λ es=>exists_congr λ c=>exists_congr λ vs=>exists_congr λ hs=>and_congr_right λ _=>and_congr_right λ _=>and_congr_left λ _=>jD.jE (λ k i e=>congrArg fM (hρ k i e)) hr
 |obs o=>
  simp only[AO.ren,bn,hw,hk,hρ k i hi]
 |rn e cs=>
  simp only[AO.ren,bn,hw,hρ k i hi,List.length_map];exact exists_congr λ us=>and_congr_right λ _=>aN.Bv (λ x u h=>C0.jE hw hk hρ h) hr
theorem oL{ρ ρ':Nat->Value}(hρ:∀k i,jV σ k=some i->ρ' i=ρ k):∀{h:List (Nat×AO)},yJ σ h=true->ah ρ' (iU σ h)=ah ρ h
 |[],_=>rfl
 |(k,o)::l,h=>by
  simp only[yJ,Bool.and_eq_true]at h;obtain⟨j,e,e'⟩:=kX h.1.1;simp only[iU,e'];rw[aT,aT,oL hρ h.2];dsimp only;rw[hρ k j e]
theorem Af:∀{h:List (Nat×AO)},yJ σ h=true-> ∀p∈h,∃i,jV σ p.1=some i/\(i,p.2.ren σ)∈iU σ h/\YN σ p.2=true
 |[],_,p,hp=>by cases hp
 |(k,o)::l,h,p,hp=>by
  simp only[yJ,Bool.and_eq_true]at h;obtain⟨j,e,e'⟩:=kX h.1.1;simp only[iU,e'];rcases List.mem_cons.1 hp with rfl|hp
  ·exact⟨j,e,List.mem_cons_self,h.1.2⟩
  ·obtain⟨i,h1,h2,h3⟩:=Af h.2 p hp;exact⟨i,h1,List.mem_cons_of_mem _ h2,h3⟩
theorem xE:∀{h:List (Nat×AO)},yJ σ h=true-> ∀q∈iU σ h,∃p∈h,jV σ p.1=some q.1/\q.2=p.2.ren σ/\YN σ p.2=true
 |[],_,q,hq=>by cases hq
 |(k,o)::l,h,q,hq=>by
  simp only[yJ,Bool.and_eq_true]at h;obtain⟨j,e,e'⟩:=kX h.1.1;simp only[iU,e']at hq;rcases List.mem_cons.1 hq with rfl|hq
  ·exact⟨(k,o),List.mem_cons_self,e,rfl,h.1.2⟩
  ·obtain⟨p,h1,h2⟩:=xE h.2 q hq;exact⟨p,List.mem_cons_of_mem _ h1,h2⟩
end
theorem au.ren(h:au P f hin bD r hout)(σ:List (Nat×Nat))
  (hb:(rV (σ.map (·.2))&&yJ σ hin&&yJ σ hout&&bD.all (key1 σ)&&key2 σ r)=true):au P f (iU σ hin) (bD.map (KN σ)) (Bj σ r) (iU σ hout):=by
 simp only[Bool.and_eq_true]at hb;obtain⟨⟨⟨⟨hnd,hki⟩,hko⟩,hka⟩,hkr⟩:=hb;have hn:=Bh hnd;refine⟨h.1,λ w keep ρ args hkeep oH acG hnk hargs=> ?_⟩;let Oh:Nat->Value:=λ k=>match jV σ k with|some i=>ρ i|none=>undef
 have e0:∀k i,jV σ k=some i->ρ i=Oh k:=λ k i e=>by simp only[Oh,e]
 have Bq:ah ρ (iU σ hin)=ah Oh hin:=oL e0 hki;have key:=h.2 w keep Oh args hkeep (λ p hp=>by
   obtain⟨i,h1,h2,h3⟩:=Af hki p hp;exact(bn.jE (X:=⟨w,keep,Oh⟩) (Y:=⟨w,keep,ρ⟩) rfl rfl e0 h1 h3).1 (oH _ h2)) (by rw[<-Bq];exact acG) (by rw[<-Bq];exact hnk)
  ((aN.Bv (λ x u h=>C1.jE (X:=⟨w,keep,Oh⟩) (Y:=⟨w,keep,ρ⟩) rfl rfl e0 h) hka).1 hargs)
 refine key.mono ?_;rintro e w' ⟨u,SE,rfl,hbel,hfix,hc,ho,hnd',hnew⟩;let ρ':Nat->Value:=λ i=>match OM σ i with|some k=>SE k|none=>ρ i
 have e1:∀k i,jV σ k=some i->ρ' i=SE k:=λ k i e=>by simp only[ρ',xA hn (qc e)]
 have VW:ah ρ' (iU σ hout)=ah SE hout:=oL e1 hko;have hM:(λ b=>b∈ah ρ (iU σ hin))=(λ b=>b∈ah Oh hin):=by rw[Bq]
 have hkk:(aB (ig w keep (λ b=>b∈ah ρ (iU σ hin))) w' ρ' (iU σ hout)).keep=(aB (ig w keep (λ b=>b∈ah Oh hin)) w' SE hout).keep:=by
  funext b
  simp only[aB,aI,VW,Bq]
 refine⟨u,ρ',rfl,by rw[hM];exact hbel, ?_,C2.jE (X:=aB (ig w keep (λ b=>b∈ah Oh hin)) w' SE hout) (Y:=aB (ig w keep (λ b=>b∈ah ρ (iU σ hin))) w' ρ' (iU σ hout)) rfl hkk e1 hkr hc, ?_,by rw[VW];exact hnd',by rw[VW,Bq];exact hnew⟩
 ·intro p hp q hq epq;obtain⟨p0,hp0,h1,_⟩:=xE hki p hp;obtain⟨q0,hq0,h2,_⟩:=xE hko q hq;have hk0:q0.1=p0.1:=by
   have k1:=xA hn (qc h1);have k2:=xA hn (qc h2);rw[epq,k1]at k2;exact(Option.some.inj k2).symm
  rw[e1 _ _ h1,e0 _ _ h1];exact hfix p0 hp0 q0 hq0 hk0
 ·intro q hq;obtain⟨p,hp,h1,h2,h3⟩:=xE hko q hq;rw[h2];exact(bn.jE (X:=aB (ig w keep (λ b=>b∈ah Oh hin)) w' SE hout) (Y:=aB (ig w keep (λ b=>b∈ah ρ (iU σ hin))) w' ρ' (iU σ hout)) rfl hkk e1 h1 h3).2 (ho p hp)
theorem fV.acH{L:Lay}{W:Walk}{st:AS}{K:AV->AS->Prop}(k:Nat)(τ:List (Nat×Nat)){YO:List AV}(hs:au P f hin YO r hout)
  (ha:YO.map (KN ((k,d)::τ))=bD)(hh:RS st (iU ((k,d)::τ) hin))
  (hb:(rV (((k,d)::τ).map (·.2))&&yJ ((k,d)::τ) hin&&yJ ((k,d)::τ) hout&&YO.all (key1 ((k,d)::τ))&&key2 ((k,d)::τ) r)=true)
  (hb2:(rV ((iU ((k,d)::τ) hin).map (·.1))&&(YO.map (KN ((k,d)::τ))).all KI&&iF (iU ((k,d)::τ) hout) (iU ((k,d)::τ) hout)&&Vf (iU ((k,d)::τ) hout) (Bj ((k,d)::τ) r)&&uq d (iU ((k,d)::τ) hin) (iU ((k,d)::τ) hout))=true)
  (hK:K (Bj ((k,d)::τ) r) (st.Oz d (iU ((k,d)::τ) hin) (iU ((k,d)::τ) hout))):fV P L W d f bD st K:=by
 subst ha;exact .Oz _ _ _ (hs.ren _ hb) hh hb2 hK
section
variable{P:Program}
def aj{α:Type}(P:Program)(m:Sem α):Prop:= ∀(w w':World)(u:α)(w1:World),m.run P w= .ok u w1->w1=w/\m.run P w'= .ok u w'
theorem aj.pure{α:Type}(x:α):aj P (Pure.pure x:Sem α):=by
 intro w w' u w1 h;simp only[Sem.run_pure]at h⊢;cases h;exact⟨rfl,rfl⟩
theorem aj.halt{α:Type}(h:Halt):aj P (Sem.halt h:Sem α):=by
 intro w w' u w1 h;simp only[Sem.run_halt]at h;cases h
theorem aj.stuck{α:Type}(h:String):aj P (Go.stuck h:Sem α):=aj.halt _
theorem aj.unsupported{α:Type}(h:Unsupported):aj P (Go.unsupported h:Sem α):=aj.halt _
theorem aj.program:aj P (Go.program):=by
 intro w w' u w1 h;simp only[run_program]at h⊢;cases h;exact⟨rfl,rfl⟩
theorem aj.bind{α β:Type}{m:Sem α}{k:α->Sem β}(hm:aj P m)(hk:∀x,aj P (k x)):aj P (m>>=k):=by
 intro w w' u w1 h;rw[Sem.run_bind]at h⊢;cases e:m.run P w with
 |ok x w0=>
  rw[e]at h;obtain⟨rfl,e'⟩:=hm w w' x w0 e;rw[e',Result.andThen_ok];exact hk x _ w' u w1 h
 |halt x w0=>rw[e]at h;cases h
theorem aj.dead{α:Type}{m:Sem α}(h:∀w u w1,m.run P w≠ .ok u w1):aj P m:=λ w _ u w1 e=>absurd e (h w u w1)
theorem sS{α β:Type}{m:Sem α}{k:α->Sem β}(hk:∀x w u w1,(k x).run P w≠ .ok u w1)(w:World)(u:β)(w1:World):(m>>=k).run P w≠ .ok u w1:=by
 rw[Sem.run_bind];cases e:m.run P w with
 |ok x w0=>rw[Result.andThen_ok];exact hk x w0 u w1
 |halt x w0=>exact λ h=>by cases h
theorem yK{α:Type}(e:RuntimeError)(w:World)(u:α)(w1:World):(runtimePanic e:Sem α).run P w≠ .ok u w1:=by
 unfold runtimePanic;refine sS (λ p w u w1=> ?_) w u w1;cases e<;>first|exact(λ h=>by cases h)|exact sS (λ _=>sS λ _ w u w1 h=>by cases h) _ _ _
theorem aj.bounds{α:Type}(k:IntKind)(x y:Int)(c:BoundsCode):aj P (boundsPanic k x y c:Sem α):=by
 refine aj.dead λ w u w1=> ?_;unfold boundsPanic;dsimp only;split
 ·exact sS (λ _ w u w1=>yK _ w u w1) w u w1
 ·exact sS (λ _ w u w1=>yK _ w u w1) w u w1
theorem aj.OT{α:Type}(e:RuntimeError):aj P (runtimePanic e:Sem α):=aj.dead λ w u w1=>yK e w u w1
theorem aj.underlying(t:TypeId):aj P (Go.underlying t):=by
 unfold Go.underlying;refine aj.bind aj.program λ p=> ?_;split
 ·exact aj.pure _
 ·exact aj.halt _
theorem aj.typeInfo(t:TypeId):aj P (Go.typeInfo t):=by
 unfold Go.typeInfo;refine aj.bind aj.program λ p=> ?_;split
 ·exact aj.pure _
 ·exact aj.halt _
theorem aj.sizeOf(t:TypeId):aj P (Go.sizeOf t):=aj.bind (aj.typeInfo t) λ _=>aj.pure _
theorem aj.asIntOf(v:Value):aj P (Go.asIntOf v):=by
 unfold Go.asIntOf;split
 ·exact aj.pure _
 ·exact aj.halt _
 ·exact aj.halt _
theorem aj.asBool(v:Value):aj P (Go.asBool v):=by
 unfold Go.asBool;split
 ·exact aj.pure _
 ·exact aj.halt _
theorem aj.sureAddr(v:Value):aj P (Instr.sureAddr v):=by
 unfold Instr.sureAddr;split
 ·exact aj.pure _
 ·exact aj.halt _
theorem aj.indexAt(t:TypeId)(x i:Value):aj P (Instr.indexAt t x i):=by
 unfold Instr.indexAt;with_reducible repeat' first
  |exact aj.pure _
  |exact aj.stuck _
  |exact aj.unsupported _
  |exact aj.bounds _ _ _ _
  |refine aj.bind (aj.asIntOf _) λ _=> ?_
  |refine aj.bind (aj.underlying _) λ _=> ?_
  |refine aj.bind (aj.sureAddr _) λ _=> ?_
  |refine aj.bind (aj.sizeOf _) λ _=> ?_
  |refine aj.bind (aj.pure _) λ _=> ?_
  |refine aj.bind (aj.stuck _) λ _=> ?_
  |(dsimp only;split)
  |split
theorem aj.asAgg(v:Value):aj P (Go.asAgg v):=by
 unfold Go.asAgg;split
 ·exact aj.pure _
 ·exact aj.halt _
theorem aj.isAgg(t:TypeId):aj P (Go.isAgg t):=by
 unfold Go.isAgg;refine aj.bind (aj.underlying _) λ _=> ?_;split<;>exact aj.pure _
theorem aj.part(t:TypeId)(cs:Array Value)(off:Nat):aj P (Go.part t cs off):=by
 unfold Go.part;refine aj.bind (aj.isAgg _) λ _=> ?_;split
 ·exact aj.bind (aj.sizeOf _) λ _=>aj.pure _
 ·split
  ·exact aj.pure _
  ·exact aj.halt _
theorem aj.field(t:TypeId)(x:Value)(i:Nat):aj P (Instr.field t x i):=by
 unfold Instr.field;refine aj.bind (aj.underlying _) λ _=> ?_;split
 ·split
  ·exact aj.bind (aj.asAgg _) λ _=>aj.part _ _ _
  ·exact aj.stuck _
 ·exact aj.stuck _
theorem aj.index(t:TypeId)(x i:Value):aj P (Instr.index t x i):=by
 unfold Instr.index;with_reducible repeat' first
  |exact aj.pure _
  |exact aj.stuck _
  |exact aj.bounds _ _ _ _
  |exact aj.part _ _ _
  |refine aj.bind (aj.asIntOf _) λ _=> ?_
  |refine aj.bind (aj.underlying _) λ _=> ?_
  |refine aj.bind (aj.sizeOf _) λ _=> ?_
  |refine aj.bind (aj.pure _) λ _=> ?_
  |(dsimp only;split)
  |split
theorem aj.extract(v:Value)(i:Nat):aj P (Instr.extract v i):=by
 unfold Instr.extract;split
 ·split
  ·exact aj.pure _
  ·exact aj.halt _
 ·exact aj.halt _
theorem aj.intArith(op:BinOp)(k:IntKind)(x y:Int):aj P (Op.intArith op k x y):=by
 unfold Op.intArith;split<;>first|exact aj.pure _|exact aj.halt _
theorem aj.intBits(op:BinOp)(k:IntKind)(x y:Int):aj P (Op.intBits op k x y):=by
 unfold Op.intBits;dsimp only;split<;>first|exact aj.pure _|exact aj.halt _
theorem aj.intCmp(op:BinOp)(x y:Int):aj P (Op.intCmp op x y):=by
 unfold Op.intCmp;split<;>first|exact aj.pure _|exact aj.halt _
theorem aj.intDiv(op:BinOp)(k:IntKind)(x y:Int):aj P (Op.intDiv op k x y):=by
 unfold Op.intDiv;split
 ·exact aj.OT _
 ·split<;>first|exact aj.pure _|exact aj.halt _
theorem aj.shift(op:BinOp)(k k':IntKind)(x y:Int):aj P (Op.shift op k x k' y):=by
 unfold Op.shift;split
 ·exact aj.OT _
 ·dsimp only;split<;>first|exact aj.pure _|exact aj.halt _
theorem aj.unary(op:UnOp)(x:Value):aj P (Op.unary op x):=by
 unfold Op.unary;split<;>first|exact aj.pure _|exact aj.halt _|exact aj.intArith _ _ _ _|exact aj.intBits _ _ _ _
theorem aj.aaN(op:BinOp)(t:TypeId)(k k':IntKind)(x y:Int):aj P (binOp op t (.int k x) (.int k' y)):=by
 cases op<;>unfold binOp<;>dsimp only<;>first|exact aj.shift _ _ _ _ _|(split<;>first|exact aj.halt _|exact aj.intArith _ _ _ _|exact aj.intBits _ _ _ _|exact aj.intCmp _ _ _|exact aj.intDiv _ _ _ _)
theorem aj.abU(op:BinOp)(t:TypeId)(x y:Operand)(k k':IntKind)(a b:Int):aj P (eqGuard op t x y (.int k a) (.int k' b)):=by
 cases op<;>exact aj.pure _
theorem aj.YP{s t:TypeId}{k:IntKind}(ht:P.underlying t=some (.int k))(k':IntKind)(n:Int):aj P (convert s t (.int k' n)):=by
 intro w w' u w1 h;unfold convert at h⊢;simp only[Sem.run_bind]at h⊢;cases e:(Go.underlying s).run P w with
 |halt x w0=>rw[e]at h;cases h
 |ok d w0=>
  obtain⟨rfl,e'⟩:=aj.underlying s w w' d w0 e;have hu:∀w,(Go.underlying t).run P w= .ok (.int k) w:=by
   intro w;unfold Go.underlying;simp only[Sem.run_bind,run_program,Result.andThen_ok,ht];rfl
  rw[e,Result.andThen_ok,hu,Result.andThen_ok]at h;rw[e',Result.andThen_ok,hu,Result.andThen_ok];have hf:aj P (Conv.intToInt k n):=aj.pure _;cases d<;>exact hf w0 w' u w1 h
theorem aj.Hu{α β:Type}{m:Sem α}{k:α->Sem β}{x:α}(hm:∀w,m.run P w= .ok x w)(hk:aj P (k x)):aj P (m>>=k):=by
 intro w w' u w1 h;rw[Sem.run_bind,hm,Result.andThen_ok]at h;rw[Sem.run_bind,hm,Result.andThen_ok];exact hk w w' u w1 h
theorem aj.stringOp(op:BinOp)(x y:ByteArray):aj P (Op.stringOp op x y):=by
 unfold Op.stringOp;dsimp only;split
 ·split
  ·exact aj.halt _
  ·exact aj.pure _
 all_goals first|exact aj.pure _|exact aj.halt _
theorem aj.aaO(op:BinOp)(t:TypeId)(x y:ByteArray):aj P (binOp op t (.string x) (.string y)):=by
 cases op<;>unfold binOp<;>dsimp only<;>exact aj.stringOp _ x y
theorem aj.eqStr(op:BinOp)(t:TypeId)(x y:Operand)(a b:ByteArray):aj P (eqGuard op t x y (.string a) (.string b)):=by
 cases op<;>exact aj.pure _
theorem aj.sliceBound(x:Value)(y:Nat)(c:BoundsCode):aj P (Instr.sliceBound x y c):=by
 unfold Instr.sliceBound;refine aj.bind (aj.asIntOf _) λ _=> ?_;dsimp only;split
 ·exact aj.pure _
 ·exact aj.bounds _ _ _ _
theorem aj.sliceBounds(b:Bool)(l c:Nat)(lo hi:Option Value):aj P (Instr.sliceBounds b l c lo hi none):=by
 unfold Instr.sliceBounds;cases lo<;>cases hi<;>with_reducible repeat' first
  |exact aj.pure _
  |refine aj.bind (aj.sliceBound _ _ _) λ _=> ?_
  |refine aj.bind (aj.pure _) λ _=> ?_
  |dsimp only
theorem aj.slice(t:TypeId){x:Value}(hx:(∃A n c,x= .slice A n c)\/(∃s,x= .string s)\/ ∃A,x= .pointer (some A))(lo hi:Option Value):aj P (Instr.sliceAt t x lo hi none):=by
 unfold Instr.sliceAt;refine aj.bind (aj.underlying _) λ d=> ?_;split
 ·refine aj.bind (aj.sureAddr _) λ _=>aj.bind (aj.sliceBounds _ _ _ _ _) λ _=> ?_;exact aj.bind (aj.sizeOf _) λ _=>aj.pure _
 ·unfold Instr.slice;refine aj.bind (aj.underlying _) λ d=> ?_;rcases hx with⟨A,n,c,rfl⟩|⟨s,rfl⟩|⟨A,rfl⟩
  ·cases d<;>first
    |exact aj.halt _
    |exact aj.bind (aj.sliceBounds _ _ _ _ _) λ _=>aj.bind (aj.sizeOf _) λ _=>aj.pure _
  ·cases d<;>first
    |exact aj.halt _
    |exact aj.bind (aj.sliceBounds _ _ _ _ _) λ _=>aj.pure _
  ·cases d<;>first
    |exact aj.halt _
    |(refine aj.bind (aj.pure _) λ _=>aj.bind (aj.underlying _) λ d=> ?_
      cases d<;>first
       |exact aj.halt _
       |exact aj.bind (aj.sliceBounds _ _ _ _ _) λ _=>aj.bind (aj.sizeOf _) λ _=>aj.pure _)
theorem aj.arrayAt(t:TypeId)(x:Value):aj P (Instr.arrayAt t x):=by
 unfold Instr.arrayAt;refine aj.bind (aj.underlying _) λ d=> ?_;split
 ·split
  ·split
   ·exact aj.OT _
   ·exact aj.pure _
  ·exact aj.halt _
 ·exact aj.halt _
theorem aj.len(t ty:TypeId){x:Value}(hx:(∃A n c,x= .slice A n c)\/ ∃s,x= .string s):aj P (Builtin.len_ #[t] ty #[x]):=by
 unfold Builtin.len_;show aj P ((Go.underlying t)>>=_);refine aj.bind (aj.underlying _) λ d=> ?_;rcases hx with⟨A,n,c,rfl⟩|⟨s,rfl⟩<;>cases d<;>first
  |exact aj.pure _
  |exact aj.halt _
  |(refine aj.bind (aj.underlying _) λ d=> ?_
    cases d<;>first|exact aj.pure _|exact aj.halt _)
end
def VX:AV->Bool
 | .v (.int _ _)=>true
 |_=>false
def YQ:AV->Bool
 | .v (.string _)=>true
 |_=>false
def sliceB:AV->Bool
 | .v (.string _)=>true
 | .v (.slice _ _ _)=>true
 | .sl .. =>true
 |_=>false
def aaP:AV->Bool
 | .own _=>true
 | .box _ _=>true
 |x=>sliceB x
def acI:AV->Bool
 | .box _ _=>true
 |_=>false
def aaQ(L:Lay)(t:TypeId):Bool:=match aV L t with|some i=>(match i.kind with| .int _=>true|_=>false)|none=>false
def vW(L:Lay)(st:AS)(op:Op):Bool:=
 match op with
 | .move _=>true
 | .assign _=>true
 | .pick .. =>true
 | .extract .. =>true
 | .fieldAddr .. =>true
 | .indexAddr .. =>true
 | .unOp .. =>true
 | .build .. =>true
 | .field .. =>true
 | .index .. =>true
 | .nilCheck x=>acI (st.ev x)
 | .binOp _ _ x y _=>(VX (st.ev x)&&VX (st.ev y))||(YQ (st.ev x)&&YQ (st.ev y))
 | .convert _ t x=>VX (st.ev x)&&aaQ L t
 | .slice _ x _ _ none=>aaP (st.ev x)
 | .sliceToArrayPointer _ x=>sliceB (st.ev x)
 | .call {callee:= .builtin .len,args:=xs,argTypes:=ts}=>(match ts.toList,xs.toList with|[_],[x]=>sliceB (st.ev x)|_,_=>false)
 |_=>false
section
variable{P:Program}{L:Lay}{g:Base}{N:Nat}{bs:List (Array Value)}{ρ:Nat->Value}{a:Act}{w:World}{st:AS}
theorem EP{X:CX}{x:AV}{u:Value}(hx:C2 X x u)(h:VX x=true):∃k n,u= .int k n:=by
 unfold VX at h;split at h
 ·exact⟨_,_,C2.dN hx⟩
 ·cases h
theorem LJ{X:CX}{x:AV}{u:Value}(hx:C2 X x u)(h:YQ x=true):∃s,u= .string s:=by
 unfold YQ at h;split at h
 ·exact⟨_,C2.dN hx⟩
 ·cases h
theorem ER{X:CX}{x:AV}{u:Value}(hx:C2 X x u)(h:sliceB x=true):(∃A n c,u= .slice A n c)\/ ∃s,u= .string s:=by
 unfold sliceB at h;split at h
 ·exact .inr ⟨_,C2.dN hx⟩
 ·exact .inl ⟨_,_,_,C2.dN hx⟩
 ·cases C2.uw hx with
  |sl _ _ _ _ A c us _ _ _ _ _ _ _ _=>exact .inl ⟨_,_,_,rfl⟩
 ·cases h
theorem aj.fieldAt(hL:bQ P L){t:TypeId}{p:AV}{pv:Value}{i:Nat}{K:AV->Prop}(h:nO L t p i K):aj P (Instr.fieldAt t pv i):=by
 unfold nO at h;split at h
 ·rename_i ti hti;split at h
  ·rename_i fs hk;split at h
   ·rename_i o ft hfs;split at h
    ·rename_i fi hfi;obtain⟨fields,hu,hmap⟩:=lF hL hti hk;obtain⟨f,hf,ho,hft⟩:=Ee hmap hfs;cases hs:Nat.ble 1 fi.size with
     |false=>rw[hs]at h;exact h.elim
     |true=>
      have h1:=Nat.le_of_ble_eq_true hs;unfold Instr.fieldAt;refine aj.Hu (x:= .struct fields) (λ w=>run_underlying hu w) ?_;dsimp only;rw[hf];dsimp only;refine aj.bind (aj.sureAddr _) λ a=>aj.bind ?_ λ _=>aj.pure _;unfold fieldPlace;refine aj.Hu (x:=fi.size) (λ w=>by rw[hft];exact iy hL hfi w) ?_;rw[if_neg (by omega)];exact aj.pure _
    ·exact h.elim
   ·exact h.elim
  ·exact h.elim
 ·exact h.elim
theorem VY(hL:bQ P L){t:TypeId}{i:TI}(h:aV L t=some i):∃z,∀w,(zeroValue t).run P w= .ok z w:=by
 obtain⟨info,z,d,h1,h2,h3,h4,h5,h6,h7⟩:=jk hL h;exact⟨z,λ w=>by simp[zeroValue,typeInfo,h1,h3]⟩
theorem aj.YR(hL:bQ P L){hh:List (Nat×AO)}{t:TypeId}{ps:List (Nat×AV)}{parts:Array (Nat×Value)}{K:AV->Prop}(h:Bg L hh t ps K):aj P (Instr.build t parts):=by
 unfold Bg at h;split at h
 ·rename_i ti hti;obtain⟨z,hz⟩:=VY hL hti;unfold Instr.build;refine aj.Hu hz ?_;split at h
  ·rename_i fs hk;obtain⟨fields,hu,hmap⟩:=lF hL hti hk;refine aj.Hu (x:= .struct fields) (λ w=>run_underlying hu w) ?_;dsimp only;split at h
   ·rename_i pl VE;rw[<-hmap]at VE;refine aj.Hu (x:=pl.toArray) (λ w=> ?_) ?_
    ·have hm:=vT hL w VE;rw[Array.mapM_eq_mapM_toList];simp only[Sem.run_map,hm,Result.andThen_ok]
    ·split
     ·exact aj.pure _
     ·exact aj.halt _
   ·exact h.elim
  ·rename_i n e hk;refine aj.Hu (x:= .array n e) (λ w=>run_underlying (oJ hL hti hk) w) ?_;dsimp only;refine aj.bind (aj.sizeOf _) λ _=> ?_;split
   ·exact aj.pure _
   ·exact aj.halt _
  ·exact h.elim
 ·exact h.elim
theorem YS(hL:bQ P L){t:TypeId}(h:aaQ L t=true):∃k,P.underlying t=some (.int k):=by
 unfold aaQ at h;split at h
 ·rename_i i hi;split at h
  ·rename_i k hk;exact⟨k,yF hL hi hk⟩
  ·cases h
 ·cases h
theorem OU{L:Lay}{st:AS}{t:TypeId}{id:Nat}{x:AV}{lo hi:Option AV}{mx:Option AV}{K:AV->AS->Prop}(hx:x= .own id)(h:aslice L st t x lo hi mx K):∃e s n sc f,aQ id st.heap=some (.row e s n sc f):=by
 unfold aslice at h;split at h
 ·split at h;all_goals first
   |(cases hx;done)
   |exact h.elim
   |skip
  cases hx;split at h
  ·rename_i hfo;exact⟨_,_,_,_,_,hfo⟩
  ·exact h.elim
 ·exact h.elim
theorem LK(hL:bQ P L){W:Walk}(R:Rel g N bs ρ a w st){o:Oper}{d:Nat}{K:AV->AS->Prop}(hp:vW L st o.op=true)(h:Qy P L W d st o.op K):
  ∃x u st' ρ',K x st'/\Rel g N bs ρ' a w st'/\C2 (aB g w ρ' st'.heap) x u/\ ∀w',(execOp a.eval o).run P w'= .ok (.value u) w':=by
 have fin:∀{m:Sem Value},aj P m->(∀w,(execOp a.eval o).run P w=(do pure (.value (<-m)):Sem Next).run P w)->(∃x u,K x st/\C2 (aB g w ρ st.heap) x u/\(execOp a.eval o).run P w= .ok (.value u) w)-> ∃x u st' ρ',K x st'/\Rel g N bs ρ' a w st'/\C2 (aB g w ρ' st'.heap) x u/\ ∀w',(execOp a.eval o).run P w'= .ok (.value u) w':=by
  rintro m hm e ⟨x,u,h1,h2,h3⟩;refine⟨x,u,st,ρ,h1,R,h2,λ w'=> ?_⟩;rw[e]at h3⊢;exact(aj.bind hm (λ _=>aj.pure _) w w' _ _ h3).2
 have plain:∀{u0:Value},(execOp a.eval o=pure (.value u0))->(∃x u,K x st/\C2 (aB g w ρ st.heap) x u/\(execOp a.eval o).run P w= .ok (.value u) w)-> ∃x u st' ρ',K x st'/\Rel g N bs ρ' a w st'/\C2 (aB g w ρ' st'.heap) x u/\ ∀w',(execOp a.eval o).run P w'= .ok (.value u) w':=by
  rintro u0 e ⟨x,u,h1,h2,h3⟩;refine⟨x,u,st,ρ,h1,R,h2,λ w'=> ?_⟩;rw[e]at h3⊢;simp only[Sem.run_pure]at h3⊢;cases h3;rfl
 have quiet:lS o.op=true-> ∃x u,K x st/\C2 (aB g w ρ st.heap) x u/\(execOp a.eval o).run P w= .ok (.value u) w:=λ hq=>xC hL R hq h;unfold vW at hp;split at hp
 ·rename_i x e;exact plain (u0:=a.eval x) (by simp only[execOp,e]) (quiet (by rw[e];rfl))
 ·rename_i x e;exact plain (u0:=a.eval x) (by simp only[execOp,e]) (quiet (by rw[e];rfl))
 ·rename_i c x y e;refine fin (m:=do pure (if<-asBool (a.eval c)then a.eval x else a.eval y)) (aj.bind (aj.asBool _) λ _=>aj.pure _) ?_ (quiet (by rw[e];rfl));intro w;simp only[execOp,e];cases hc:a.eval c<;>rfl
 ·rename_i x i e;exact fin (aj.extract (a.eval x) i) (λ _=>by simp only[execOp,e]) (quiet (by rw[e];rfl))
 ·rename_i t x i e;have h':nO L t (st.ev x) i (λ y=>K y st):=by rw[e]at h;exact h
  exact fin (m:=Instr.fieldAt t (a.eval x) i) (aj.fieldAt hL h') (λ _=>by simp only[execOp,e]) (quiet (by rw[e];rfl))
 ·rename_i t x i e;exact fin (aj.indexAt t (a.eval x) (a.eval i)) (λ _=>by simp only[execOp,e]) (quiet (by rw[e];rfl))
 ·rename_i op t x e;exact fin (aj.unary op (a.eval x)) (λ _=>by simp only[execOp,e]) (quiet (by rw[e];rfl))
 ·rename_i t parts e;have h':Bg L st.heap t (parts.toList.map λ p=>(p.1,st.ev p.2)) (λ y=>K y st):=by rw[e]at h;exact h
  exact fin (m:=Instr.build t (parts.map λ(i,x)=>(i,a.eval x))) (aj.YR hL h') (λ _=>by simp only[execOp,e]) (quiet (by rw[e];rfl))
 ·rename_i t x i e;exact fin (aj.field t (a.eval x) i) (λ _=>by simp only[execOp,e]) (quiet (by rw[e];rfl))
 ·rename_i t x i e;exact fin (aj.index t (a.eval x) (a.eval i)) (λ _=>by simp only[execOp,e]) (quiet (by rw[e];rfl))
 ·rename_i x e;have hx:=R.ev x;have:∃b q,a.eval x= .pointer (some ⟨b,q,none⟩):=by
   cases hev:st.ev x with
   |box id off=>
    rw[hev]at hx;obtain⟨b,_,h⟩:∃b,fM (ρ id)= .pointer (some ⟨b,0,none⟩)/\a.eval x= .pointer (some ⟨b,off,none⟩):=hx;exact⟨b,off,h⟩
   |_=>rw[hev]at hp;cases hp
  obtain⟨b,q,hb⟩:=this;exact plain (u0:=a.eval x) (by simp only[execOp,e,hb]) (quiet (by rw[e];rfl))
 ·rename_i op t x y ty e;refine fin (m:=do eqGuard op t x y (a.eval x) (a.eval y);binOp op t (a.eval x) (a.eval y)) ?_ (λ _=>by simp only[execOp,e]) (quiet (by rw[e];rfl));simp only[Bool.or_eq_true,Bool.and_eq_true]at hp;rcases hp with⟨h1,h2⟩|⟨h1,h2⟩
  ·obtain⟨k,n,e1⟩:=EP (R.ev x) h1;obtain⟨k',m,e2⟩:=EP (R.ev y) h2;rw[e1,e2];exact aj.bind (aj.abU _ _ _ _ _ _ _ _) λ _=>aj.aaN _ _ _ _ _ _
  ·obtain⟨k,e1⟩:=LJ (R.ev x) h1;obtain⟨k',e2⟩:=LJ (R.ev y) h2;rw[e1,e2];exact aj.bind (aj.eqStr _ _ _ _ _ _) λ _=>aj.aaO _ _ _ _
 ·rename_i s t x e;refine fin (m:=convert s t (a.eval x)) ?_ (λ _=>by simp only[execOp,e]) (quiet (by rw[e];rfl));simp only[Bool.and_eq_true]at hp;obtain⟨k,n,e1⟩:=EP (R.ev x) hp.1;obtain⟨k',hk⟩:=YS hL hp.2;rw[e1];exact aj.YP hk _ _
 ·rename_i t x lo hi e;have h':=h;rw[e]at h';obtain⟨z,u,st',ρ',h1,h2,h3,h4,h5⟩:=EC (mx:=none) hL R (R.ev x) h';refine⟨z,u,st',ρ',h1,h2,h3,λ w'=> ?_⟩;have hval:(∃A n c,a.eval x= .slice A n c)\/(∃s,a.eval x= .string s)\/ ∃A,a.eval x= .pointer (some A):=by
   cases hev:st.ev x with
   |own id=>
    obtain⟨e1,s1,n1,sc1,f1,hfo⟩:=OU hev (show aslice L st t (st.ev x) (lo.map st.ev) (hi.map st.ev) none K from h');have hx:=R.ev x;rw[hev]at hx;obtain⟨us,hown,_⟩:=R.objs _ (aA hfo);have hown:w.ownsRow 0 e1 s1 (ρ id) n1 us:=hown;have hxv:a.eval x=ρ id:=(C2.kW hx).trans (iO hown);rcases hown.2 with⟨hv,_⟩|⟨b,cap,cur,hv,_⟩<;>exact .inl ⟨_,_,_,hxv.trans hv⟩
   |box id k=>
    have hx:=R.ev x;rw[hev]at hx;obtain⟨b,_,hv⟩:=C2.lK hx;exact .inr (.inr ⟨_,hv⟩)
   |_=>exact(ER (R.ev x) (by rw[hev]at hp⊢;exact hp)).imp_right .inl
  have:=((aj.slice (P:=P) t hval (lo.map a.eval) (hi.map a.eval)) w w' _ _ h4).2;simp only[execOp,e,Sem.run_bind,Option.map_none,this,Result.andThen_ok,Sem.run_pure]
 ·rename_i t x e;exact fin (m:=Instr.arrayAt t (a.eval x)) (aj.arrayAt t (a.eval x)) (λ _=>by simp only[execOp,e]) (quiet (by rw[e];rfl))
 ·rename_i xs ts e;split at hp
  ·rename_i t x e1 e2;have ht:ts= #[t]:=by apply Array.ext';simpa using e1
   have hx:xs= #[x]:=by apply Array.ext';simpa using e2
   subst ht hx;refine fin (m:=Builtin.len_ #[t] o.type #[a.eval x]) (aj.len _ _ (ER (R.ev x) hp)) ?_ (quiet (by rw[e];rfl));intro w;simp only[execOp,e,resolve,Sem.run_bind,Sem.run_pure,Result.andThen_ok,invoke];simp[builtin]
  ·cases hp
 ·cases hp
end
def xG:Op->Option (List Operand)
 | .alloc _=>some []
 | .move x=>some [x]
 | .assign x=>some [x]
 | .box _ x=>some [x]
 | .load _ x=>some [x]
 | .nilCheck x=>some [x]
 | .unOp _ _ x=>some [x]
 | .convert _ _ x=>some [x]
 | .sliceToArrayPointer _ x=>some [x]
 | .fieldAddr _ x _=>some [x]
 | .field _ x _=>some [x]
 | .extract x _=>some [x]
 | .pick c a b=>some [c,a,b]
 | .build _ ps=>some (ps.toList.map (·.2))
 | .buildSlice _ _ ps=>some (ps.toList.map (·.2))
 | .store _ a v=>some [a,v]
 | .binOp _ _ a v _=>some [a,v]
 | .indexAddr _ a v=>some [a,v]
 | .index _ a v=>some [a,v]
 | .slice _ x l h m=>some ([x]++l.toList++h.toList++m.toList)
 | .makeFunc _ f c=>some (f.toList++c.toList)
 | .call {callee:= .builtin _,args:=xs,.. }=>some xs.toList
 | .call {callee:= .value f,args:=xs,.. }=>some (f::xs.toList)
 |_=>none
theorem Jz{o:Op}{l:List Operand}(h:xG o=some l):o.operands.toList=l:=by
 unfold xG at h;split at h<;>simp only[Option.some.injEq,reduceCtorEq]at h<;>subst h<;>simp[Op.operands,Call.operands]
def LM(d:Nat):List Operand->Bool
 |[]=>false
 | .tmp t::l=>Nat.beq t d||LM d l
 |_::l=>LM d l
theorem ES{d:Nat}:∀{l:List Operand},LM d l=false-> ∀t,t∈(l.filterMap λ| .tmp t=>some t|_=>none)->t≠d
 |[],_,t,ht=>by simp at ht
 |x::l,h,t,ht=>by
  cases x with
  |tmp t'=>
   simp only[LM,Bool.or_eq_false_iff]at h;simp only[List.filterMap_cons,List.mem_cons]at ht;rcases ht with rfl|ht
   ·exact λ e=>by rw[e]at h;simp at h
   ·exact ES h.2 t ht
  |_=>exact ES (l:=l) h t (by simpa using ht)
def vX(ops:List Oper)(o:Oper)(d:Nat):Bool:=
 (match xG o.op with|some l=>LM d l|none=>true)||
 (match o.guard with
  |some (j,_)=>(match ops[j]? with|some oj=>(match oj.dst with|some t=>Nat.beq t d|none=>false)|none=>false)
  |none=>false)
theorem qg{o:Oper}(h:vX ops o d=false):(o.looksAt ops.toArray).contains d=false:=by
 simp only[vX,Bool.or_eq_false_iff]at h;obtain⟨h1,h2⟩:=h;rw[Bool.eq_false_iff];intro hc;have hm:d∈o.looksAt ops.toArray:=by simpa using hc
 unfold Oper.looksAt at hm;rcases List.mem_append.1 hm with hm|hm
 ·cases hl:xG o.op with
  |none=>rw[hl]at h1;cases h1
  |some l=>
   rw[hl]at h1;rw[Jz hl]at hm;exact ES h1 d hm rfl
 ·cases hg:o.guard with
  |none=>rw[hg]at hm;simp at hm
  |some gd=>
   obtain⟨j,wnt⟩:=gd;rw[hg]at hm h2;simp only[List.getElem?_toArray,Option.mem_toList]at hm;dsimp only at h2;cases hj:ops[j]? with
   |none=>rw[hj]at hm;simp at hm
   |some oj=>
    rw[hj]at hm h2;simp only[Option.bind_some]at hm;dsimp only at h2;rw[hm]at h2;simp at h2
def QI(o:Oper)(d:Nat):Bool:=match o.dst with|some t=>Nat.beq t d|none=>false
def apartB(ops:List Oper)(x y:Oper):Bool:=
 (match x.dst with|some d=> !(vX ops y d)&& !(QI y d)|none=>true)&&
 (match y.dst with|some d=> !(vX ops x d)|none=>true)
theorem SG{x y:Oper}(h:apartB ops x y=true):x.apart ops.toArray y=true:=by
 simp only[apartB,Bool.and_eq_true]at h;obtain⟨h1,h2⟩:=h;unfold Oper.apart;rw[Bool.and_eq_true];constructor
 ·cases hx:x.dst with
  |none=>rfl
  |some d=>
   rw[hx]at h1;simp only[Bool.and_eq_true,Bool.not_eq_true']at h1;dsimp only;rw[qg h1.1];have h3:=h1.2;unfold QI at h3;cases hy:y.dst with
   |none=>rfl
   |some t=>
    rw[hy]at h3;have:t≠d:=λ e=>by rw[e]at h3;simp at h3
    simp[this]
 ·cases hy:y.dst with
  |none=>rfl
  |some d=>
   rw[hy]at h2;simp only[Bool.not_eq_true']at h2;dsimp only;rw[qg h2];rfl
def kY(k:Nat):List Nat->Bool
 |[]=>false
 |j::l=>Nat.beq j k||kY k l
def VZ(n:Nat)(done:List Nat)(listed:Array Bool):Prop:=listed.size=n/\ ∀k,k<n->listed[k]? =some (kY k done)
theorem VZ.Gx(h:VZ n done listed){k:Nat}(hk:k<n)(d:Bool):listed.getD k d=kY k done:=by
 have:=h.2 k hk;rw[Array.getD_eq_getD_getElem?,this];rfl
theorem VZ.set(h:VZ n done listed){i:Nat}(hi:i<n):VZ n (i::done) (listed.setIfInBounds i true):=by
 refine⟨by simp[h.1],λ k hk=> ?_⟩;rw[Array.getElem?_setIfInBounds];by_cases e:i=k
 ·subst e;simp[h.1,hi,kY]
 ·rw[if_neg e,h.2 k hk];simp[kY,beq_false e]
def uz(n:Nat)(done:List Nat):List Edge->Bool
 |[]=>true
 |e::l=>(!(Region.binds .any e)||(Nat.ble (e.on+1) n&&kY e.on done))&&uz n done l
theorem Bz{n:Nat}{done:List Nat}{listed:Array Bool}(h:VZ n done listed):∀{l:List Edge},uz n done l=true↔ ∀e∈l,Region.binds .any e=true->listed.getD e.on false=true
 |[]=>by simp[uz]
 |e::l=>by
  simp only[uz,Bool.and_eq_true,Bool.or_eq_true,Bool.not_eq_true',Bz h (l:=l),List.mem_cons,forall_eq_or_imp];refine and_congr ⟨λ h1 hb=> ?_,λ h1=> ?_⟩ Iff.rfl
  ·rcases h1 with h1|⟨h1,h2⟩
   ·rw[hb]at h1;cases h1
   ·rw[h.Gx (Nat.le_of_ble_eq_true h1)];exact h2
  ·cases hb:Region.binds .any e with
   |false=>exact .inl rfl
   |true=>
    have h2:=h1 hb;have hlt:e.on<n:=by
     rcases Nat.lt_or_ge e.on n with h'|h'
     ·exact h'
     ·rw[Array.getD_eq_getD_getElem?,Array.getElem?_eq_none (by rw[h.1];exact h')]at h2;cases h2
    exact .inr ⟨Nat.ble_eq_true_of_le hlt,by rw[<-h.Gx hlt false];exact h2⟩
def gK(n:Nat)(done:List Nat):Nat->List Oper->List Nat
 |_,[]=>[]
 |k,o::r=>bif !(kY k done)&&uz n done o.after.toList then k::gK n done (k+1) r else gK n done (k+1) r
theorem CP{n:Nat}{done:List Nat}{j:Nat}:∀{l:List Oper}{k:Nat},j∈gK n done k l↔ ∃i o,j=k+i/\l[i]? =some o/\kY j done=false/\uz n done o.after.toList=true
 |[],k=>by simp[gK]
 |o::l,k=>by
  have ih:=CP (n:=n) (done:=done) (j:=j) (l:=l) (k:=k+1);have key:(∃i o',j=k+i/\(o::l)[i]? =some o'/\kY j done=false/\uz n done o'.after.toList=true)↔(j=k/\kY j done=false/\uz n done o.after.toList=true)\/j∈gK n done (k+1) l:=by
   rw[ih];constructor
   ·rintro⟨i,o',h1,h2,h3⟩;cases i with
    |zero=>simp only[List.getElem?_cons_zero,Option.some.injEq]at h2;subst h2;exact .inl ⟨h1,h3⟩
    |succ i=>exact .inr ⟨i,o',by omega,by simpa using h2,h3⟩
   ·rintro(⟨h1,h3⟩|⟨i,o',h1,h2,h3⟩)
    ·exact⟨0,o,by omega,rfl,h3⟩
    ·exact⟨i+1,o',by omega,by simpa using h2,h3⟩
  rw[key];simp only[gK];cases hb:(!(kY k done)&&uz n done o.after.toList)with
  |true=>
   simp only[Bool.and_eq_true,Bool.not_eq_true']at hb;simp only[cond_true,List.mem_cons];constructor
   ·rintro(rfl|h)
    ·exact .inl ⟨rfl,hb⟩
    ·exact .inr h
   ·rintro(h|h)
    ·exact .inl h.1
    ·exact .inr h
  |false=>
   simp only[cond_false];constructor
   ·exact .inr
   ·rintro(⟨rfl,h1,h2⟩|h)
    ·rw[h1,h2]at hb;cases hb
    ·exact h
theorem kZ(h:VZ ops.length done listed){j:Nat}:j∈Region.ready .any ops.toArray listed↔j∈gK ops.length done 0 ops:=by
 rw[mem_ready,CP];constructor
 ·rintro⟨h1,o,h2,h3⟩;have h2:ops[j]? =some o:=by simpa using h2
  have hlt:j<ops.length:=(List.getElem?_eq_some_iff.1 h2).1;exact⟨j,o,by omega,h2,by rw[<-h.Gx hlt true];exact h1,(Bz h).2 λ e he=>h3 e (by simpa using he)⟩
 ·rintro⟨i,o,h1,h2,h3,h4⟩;obtain rfl:j=i:=by omega
  have hlt:j<ops.length:=(List.getElem?_eq_some_iff.1 h2).1;exact⟨by rw[h.Gx hlt];exact h3,o,by simpa using h2,λ e he=>(Bz h).1 h4 e (by simpa using he)⟩
def ET(i:Nat):List Edge->Bool
 |[]=>false
 |e::l=>(Region.binds .any e&&Nat.beq e.on i)||ET i l
theorem BA{i:Nat}:∀{l:List Edge},ET i l=true-> ∃e∈l,Region.binds .any e=true/\e.on=i
 |[],h=>by cases h
 |e::l,h=>by
  simp only[ET,Bool.or_eq_true,Bool.and_eq_true]at h;rcases h with⟨h1,h2⟩|h
  ·exact⟨e,List.mem_cons_self,h1,Nat.eq_of_beq_eq_true h2⟩
  ·obtain⟨e',h1,h2⟩:=BA h;exact⟨e',List.mem_cons_of_mem _ h1,h2⟩
def CQ(ops:List Oper)(done:List Nat)(i:Nat)(oi:Oper):Nat->List Oper->Bool
 |_,[]=>true
 |k,o::r=>(Nat.beq k i||kY k done||ET i o.after.toList||apartB ops oi o)&&CQ ops done i oi (k+1) r
theorem LP{ops:List Oper}{done:List Nat}{i:Nat}{oi:Oper}:∀{l:List Oper}{k:Nat},CQ ops done i oi k l=true-> ∀(j:Nat)(oj:Oper),l[j]? =some oj->k+j≠i->kY (k+j) done=false->(∀e∈oj.after,Region.binds .any e=true->e.on≠i)->oi.apart ops.toArray oj=true
 |[],k,_,j,oj,hj=>by simp at hj
 |o::l,k,h,j,oj,hj=>by
  simp only[CQ,Bool.and_eq_true,Bool.or_eq_true]at h;obtain⟨h1,h2⟩:=h;intro hne hm hw;cases j with
  |zero=>
   simp only[List.getElem?_cons_zero,Option.some.injEq]at hj;subst hj;rcases h1 with((h1|h1)|h1)|h1
   ·exact absurd (Nat.eq_of_beq_eq_true h1) (by simpa using hne)
   ·rw[Nat.add_zero]at hm;rw[hm]at h1;cases h1
   ·obtain⟨e,he,hb,hi⟩:=BA h1;exact absurd hi (hw e (by simpa using he) hb)
   ·exact SG h1
  |succ j=>
   refine LP h2 j oj (by simpa using hj) (by omega) (by rw[show k+1+j=k+(j+1) by omega];exact hm) hw
def vY(N:Nat)(st:AS)(ops:List Oper)(o:Oper):Option Bool:=
 match o.guard with
 |none=>some true
 |some (j,want)=>match ops[j]? with
  |some oj=>(match oj.dst with
   |some dj=>bif Nat.ble (dj+1) N then(match st.tmps dj with| .v (.bool b)=>some (b==want)| .v (.tuple _)=>some false|_=>none)else none
   |none=>none)
  |none=>none
def yt(L:Lay)(N:Nat)(st:AS)(ops:List Oper)(done:List Nat):List Nat->Option Nat
 |[]=>none
 |i::r=>match ops[i]? with
  |some o=>bif (match vY N st ops o with|some true=>vW L st o.op|some false=>true|none=>false)&&CQ ops done i o 0 ops then some i else yt L N st ops done r
  |none=>yt L N st ops done r
def sU(P:Program)(L:Lay)(W:Walk)(N:Nat)(ops:List Oper)(o:Oper)(st:AS)(K:AS->Prop):Prop:=
 match vY N st ops o with
 |some true=>zJ P L W o.dst st o.op (λ x st'=>pI N st' o.dst x K)
 |some false=>pI N st o.dst (.v undef) K
 |none=>False
structure Both(A B:Prop):Prop where
 one:A
 two:B
def SH(F:Nat->Prop):List Nat->Prop
 |[]=>True
 |[j]=>F j
 |j::l=>Both (F j) (SH F l)
theorem LQ{F:Nat->Prop}:∀{l:List Nat},SH F l-> ∀j∈l,F j
 |[],_,j,hj=>by cases hj
 |[i],h,j,hj=>by rw[List.mem_singleton.1 hj];exact h
 |i::k::l,h,j,hj=>by
  rcases List.mem_cons.1 hj with rfl|hj
  ·exact h.one
  ·exact LQ h.two j hj
def vZ(P:Program)(L:Lay)(W:Walk)(N:Nat)(n:Nat)(ops:List Oper)(Q:AS->Prop):Nat->List Nat->AS->Prop
 |0,done,st=>(match gK n done 0 ops with|[]=>Q st|_::_=>False)
 |f+1,done,st=>match gK n done 0 ops with
  |[]=>Q st
  |i::r=>match yt L N st ops done (i::r)with
   |some j=>(match ops[j]? with|some o=>sU P L W N ops o st (vZ P L W N n ops Q f (j::done))|none=>False)
   |none=>SH (λ j=>match ops[j]? with|some o=>sU P L W N ops o st (vZ P L W N n ops Q f (j::done))|none=>False) (i::r)
section
variable{P:Program}{L:Lay}{g:Base}{N:Nat}{bs:List (Array Value)}{ρ:Nat->Value}{a:Act}{w:World}{st:AS}
theorem lG(R:Rel g N bs ρ a w st){ops:List Oper}{o:Oper}{b:Bool}(h:vY N st ops o=some b):Region.wanted o (yielded ops.toArray a.tmps)=b:=by
 obtain⟨dst,op,ty,pos,after,guard⟩:=o;unfold vY at h;cases guard with
 |none=>cases h;rfl
 |some gd=>
  obtain⟨j,want⟩:=gd;dsimp only at h;split at h
  ·rename_i oj hoj;split at h
   ·rename_i dj hdj;cases hb:Nat.ble (dj+1) N with
    |false=>rw[hb]at h;cases h
    |true=>
     rw[hb,cond_true]at h;have hlt:=Nat.le_of_ble_eq_true hb;have hd:=R.tmps dj;have hget:a.tmps[dj]? =some (a.tmps.getD dj undef):=by
      have:dj<a.tmps.size:=by rw[R.size];exact hlt
      simp[this]
     have hops:((ops.toArray[j]?).bind (·.dst))=some dj:=by simp[hoj,hdj]
     split at h
     ·rename_i b' eb;rw[eb]at hd;have hd:=C2.dN hd;have hy:yielded ops.toArray a.tmps j=some b':=by
       unfold yielded;rw[hops];simp only[Option.bind_some,hget,hd]
      simp only[Option.some.injEq]at h;simp only[Region.wanted,hy];rw[<-h];cases b'<;>cases want<;>rfl
     ·rename_i vs eb;rw[eb]at hd;have hd:=C2.dN hd;have hy:yielded ops.toArray a.tmps j=none:=by
       unfold yielded;rw[hops];simp only[Option.bind_some,hget,hd]
      cases h;simp only[Region.wanted,hy];rfl
     ·cases h
   ·cases h
  ·cases h
theorem EU{ops:List Oper}{done:List Nat}{j:Nat}:∀{l:List Nat},yt L N st ops done l=some j->j∈l/\ ∃o,ops[j]? =some o/\CQ ops done j o 0 ops=true/\((vY N st ops o=some true/\vW L st o.op=true)\/vY N st ops o=some false)
 |[],h=>by cases h
 |i::r,h=>by
  have rest:yt L N st ops done r=some j->j∈i::r/\ ∃o,ops[j]? =some o/\CQ ops done j o 0 ops=true/\((vY N st ops o=some true/\vW L st o.op=true)\/vY N st ops o=some false):=λ h=>
   ⟨List.mem_cons_of_mem _ (EU h).1,(EU h).2⟩
  simp only[yt]at h;cases ho:ops[i]? with
  |none=>rw[ho]at h;exact rest h
  |some o=>
   rw[ho]at h;dsimp only at h;cases hw:vY N st ops o with
   |none=>rw[hw]at h;exact rest h
   |some b=>
    rw[hw]at h;cases b with
    |true=>
     dsimp only at h;cases hb:(vW L st o.op&&CQ ops done i o 0 ops)with
     |false=>rw[hb]at h;exact rest h
     |true=>
      rw[hb]at h;simp only[cond_true,Option.some.injEq]at h;subst h;simp only[Bool.and_eq_true]at hb;exact⟨List.mem_cons_self,o,ho,hb.2,.inl ⟨hw,hb.1⟩⟩
    |false=>
     dsimp only at h;cases hb:(true&&CQ ops done i o 0 ops)with
     |false=>rw[hb]at h;exact rest h
     |true=>
      rw[hb]at h;simp only[cond_true,Option.some.injEq]at h;subst h;simp only[Bool.true_and]at hb;exact⟨List.mem_cons_self,o,ho,hb,.inr hw⟩
theorem LU(hL:bQ P L){W:Walk}(hW:KD P W){ops:List Oper}(hs:Region.noSelect ops.toArray=true){Q:AS->Prop}{E:Exit->Act->World->Prop}(hE:∀e a w,e≠ .normal-> ¬E e a w)(hQ:∀ρ a w st,Rel g N bs ρ a w st->Q st->E .normal a w):
 ∀(f:Nat){done:List Nat}{listed:Array Bool}{ρ:Nat->Value}{a:Act}{w:World}{st:AS},VZ ops.length done listed->Rel g N bs ρ a w st->vZ P L W N ops.length ops Q f done st->wpAny P .any ops.toArray E f listed a w
 |0,done,listed,ρ,a,w,st,hl,R,h=>by
  simp only[vZ]at h;split at h
  ·rename_i e;refine⟨?_,hQ _ _ _ _ R h⟩;cases hr:Region.ready .any ops.toArray listed with
   |nil=>rfl
   |cons j r=>
    have:j∈gK ops.length done 0 ops:=(kZ hl).1 (by rw[hr];exact List.mem_cons_self);rw[e]at this;cases this
  ·exact h.elim
 |f+1,done,listed,ρ,a,w,st,hl,R,h=>by
  have ih:= @LU hL W hW ops hs Q E hE hQ f;simp only[vZ]at h;split at h
  ·rename_i e;have hr:Region.ready .any ops.toArray listed=[]:=by
    cases hr:Region.ready .any ops.toArray listed with
    |nil=>rfl
    |cons j r=>
     have:j∈gK ops.length done 0 ops:=(kZ hl).1 (by rw[hr];exact List.mem_cons_self);rw[e]at this;cases this
   exact wpAny_done hr (hQ _ _ _ _ R h) _
  ·rename_i i r e;have hne:Region.ready .any ops.toArray listed≠[]:=λ h0=>by
    have:i∈Region.ready .any ops.toArray listed:=(kZ hl).2 (by rw[e];exact List.mem_cons_self);rw[h0]at this;cases this
   split at h
   ·rename_i j hp;obtain⟨hm,o,ho,hf,hw⟩:=EU hp;rw[ho]at h;dsimp only at h;have hlt:j<ops.length:=(List.getElem?_eq_some_iff.1 ho).1;have hr:j∈Region.ready .any ops.toArray listed:=(kZ hl).2 (by rw[e];exact hm);have UU:ops.toArray[j]? =some o:=by simpa using ho
    have hfree:∀j' oj,ops.toArray[j']? =some oj->j'≠j->listed.getD j' true=false->(∀e∈oj.after,Region.binds .any e=true->e.on≠j)->o.apart ops.toArray oj=true:=by
     intro j' oj h1 h2 h3 h4;have h1':ops[j']? =some oj:=by simpa using h1
     have hlt':j'<ops.length:=(List.getElem?_eq_some_iff.1 h1').1;refine LP hf j' oj h1' (by omega) ?_ h4;rw[Nat.zero_add,<-hl.Gx hlt' true];exact h3
    have take:∀{v:Value},Yields P ops.toArray o v a->wpAny P .any ops.toArray E f (listed.setIfInBounds j true) (a.put o.dst v) w->wpAny P .any ops.toArray E (f+1) listed a w:=
     λ hy H=>wpAny_first UU (Region.noSelect_spec hs) (λ c a w h=>absurd h (hE _ _ _ (by simp))) f listed a w hfree hr hy H
    unfold sU at h;rcases hw with⟨hw,hpu⟩|hw
    ·rw[hw]at h;dsimp only at h;have go:∀d,Qy P L W d st o.op (λ x st'=>pI N st' o.dst x (vZ P L W N ops.length ops Q f (j::done)))->wpAny P .any ops.toArray E (f+1) listed a w:=by
      intro d hd;obtain⟨x,u,st',ρ',h1,R1,h2,h3⟩:=LK hL R hpu hd;obtain⟨st2,k2,R2⟩:=iV R1 h2 h1;exact take (.inl ⟨lG R hw,h3⟩) (ih (hl.set hlt) R2 k2)
     unfold zJ at h;cases hd:o.dst with
     |none=>rw[hd]at h;dsimp only at h;exact go 0 (by rw[hd];exact h)
     |some d=>rw[hd]at h;dsimp only at h;exact go d (by rw[hd];exact h)
    ·rw[hw]at h;dsimp only at h;obtain⟨st2,k2,R2⟩:=iV R (show C2 (aB g w ρ st.heap) (.v undef) undef from rfl) h;exact take (.inr ⟨lG R hw,rfl⟩) (ih (hl.set hlt) R2 k2)
   ·rw[<-e]at h;refine⟨λ h0=>absurd h0 hne,λ j hj=> ?_⟩;have hjm:=(kZ hl).1 hj;have hF:=LQ h j hjm;cases ho:ops[j]? with
    |none=>rw[ho]at hF;exact hF.elim
    |some o=>
     rw[ho]at hF;dsimp only at hF;have hlt:j<ops.length:=(List.getElem?_eq_some_iff.1 ho).1;have UU:ops.toArray[j]? =some o:=by simpa using ho
     unfold wpOp;rw[UU];dsimp only;unfold sU at hF;split at hF
     ·rename_i hw;rw[lG R hw];simp only[if_true];refine .inl ?_;have go:∀d,Qy P L W d st o.op (λ x st'=>pI N st' o.dst x (vZ P L W N ops.length ops Q f (j::done)))->o.wp P a w (wpAny P .any ops.toArray E f (listed.setIfInBounds j true)) E:=by
       intro d hd;refine Jv hL hW R (d:=d) hd ?_;intro x st' u ρ' w' hx R' hc;obtain⟨st2,h2,R2⟩:=iV R' hc hx;exact ih (hl.set hlt) R2 h2
      unfold zJ at hF;cases hd:o.dst with
      |none=>rw[hd]at hF;dsimp only at hF;exact go 0 (by rw[hd];exact hF)
      |some d=>rw[hd]at hF;dsimp only at hF;exact go d (by rw[hd];exact hF)
     ·rename_i hw;rw[lG R hw];simp only[Bool.false_eq_true,if_false];obtain⟨st2,k2,R2⟩:=iV R (show C2 (aB g w ρ st.heap) (.v undef) undef from rfl) hF;exact ih (hl.set hlt) R2 k2
     ·exact hF.elim
theorem kG.any(hL:bQ P L){W:Walk}(hW:KD P W){id:Nat}{ops:Array Oper}{K:AS->Prop}{st:AS}(hm:P.follows .mixedOrders=true)(hs:Region.noSelect ops=true)(h:vZ P L W N ops.toList.length ops.toList K ops.toList.length [] st):kG P L W N id ops K st:=by
 refine .sem λ g bs ρ a w E R hK=> ?_;refine Code.wp_mono (Q:=λ e a w=>e= .normal/\E .normal a w) (λ e a w h=>by obtain⟨rfl,h⟩:=h;exact h) ?_;have e1:ops.size=ops.toList.length:=by simp
 refine wp_region_any hm ?_;have hl:VZ ops.toList.length [] (Array.replicate ops.size false):=by
  refine⟨by simp,λ k hk=> ?_⟩;rw[Array.getElem?_replicate,if_pos (by rw[e1];exact hk)];rfl
 have R':Rel g N bs ρ a w.drew st:=R.world (Below.refl _ _).drew;have:=LU (g:=g) (bs:=bs) (N:=N) hL hW (ops:=ops.toList) (by simpa using hs) (Q:=K) (E:=λ e a w=>e= .normal/\E .normal a w) (λ e a w hne h=>hne h.1) (λ ρ a w st R h=>⟨rfl,hK ρ a w st R h⟩) ops.toList.length hl R' h;rw[e1];simpa using this
theorem kG.cut(hL:bQ P L){W:Walk}(hW:KD P W){id:Nat}{ops:Array Oper}{K:AS->Prop}{st:AS}(S:AS)(hm:P.follows .mixedOrders=true)(hs:Region.noSelect ops=true)(h:vZ P L W N ops.toList.length ops.toList (λ st'=>LeS st' S) ops.toList.length [] st)(hK:K S):kG P L W N id ops K st:=by
 have:=kG.any (P:=P) (L:=L) (N:=N) (id:=id) hL hW hm hs h;cases this with
 |quiet hm hB hq h=>
  refine .sem λ g bs ρ a w E R hE=> ?_;refine wp_region_quiet (C:=λ w'=>w'=w.drew) hm hB rfl ?_;have R':Rel g N bs ρ a w.drew st:=R.world (Below.refl _ _).drew;exact Ae hL (E:=λ a w=>E .normal a w) (ops:=ops.toList) (λ a w1 st R h=>hE _ _ _ _ (R.less h) hK) ops.toList hq R' h
 |sem h=>exact .sem λ g bs ρ a w E R hE=>h g bs ρ a w E R λ ρ a w st R h=>hE _ _ _ _ (R.less h) hK
end
def JA(st:AS):List (Nat×AV)->List AV
 |[]=>[]
 |p::l=>st.tmps p.1::JA st l
def valsOf:List (Nat×AV)->List AV
 |[]=>[]
 |p::l=>p.2::valsOf l
def V3(st:AS):List (Nat×AO)->List (Option AO)
 |[]=>[]
 |p::l=>aQ p.1 st.heap::V3 st l
def V4:List (Nat×AO)->List (Option AO)
 |[]=>[]
 |p::l=>some p.2::V4 l
def V5:List (List (Nat×AV))->List (List (Nat×AV))->List (List AV)
 |[],[]=>[]
 |f::fs,l::ls=>JA ⟨f,[],[],0⟩ l::V5 fs ls
 |_::_,[]=>[[]]
 |[],_::_=>[[]]
def LV:List (List (Nat×AV))->List (List AV)
 |[]=>[]
 |l::ls=>valsOf l::LV ls
inductive LeC(st:AS)(l:List (Nat×AV))(h:List (Nat×AO))(ls:List (List (Nat×AV))):Prop where
 |mk (hl:st.back.length=ls.length) (hb:V5 st.back ls=LV ls) (hn:nodupB (h.map (·.1))=true) (ht:JA st l=valsOf l) (hh:V3 st h=V4 h):LeC st l h ls
section
variable{P:Program}{L:Lay}{g:Base}{N:Nat}{bs:List (Array Value)}{ρ:Nat->Value}{a:Act}{w:World}{st:AS}
end
section
variable{P:Program}{ops:Array Oper}{Q:Exit->Act->World->Prop}{T:List (Nat×List Nat)}
def YieldsAt(P:Program)(ops:Array Oper)(o:Oper)(v:Value)(a:Act)(w:World):Prop:=
 (Region.wanted o (yielded ops a.tmps)=true/\(execOp a.eval o).run P w= .ok (.value v) w)\/(Region.wanted o (yielded ops a.tmps)=false/\v=undef)
theorem YieldsAt.of_same{o:Oper}{v:Value}{a a':Act}{w:World}(hy:YieldsAt P ops o v a w)(he:execOp a'.eval o=execOp a.eval o)(hw:Region.wanted o (yielded ops a'.tmps)=Region.wanted o (yielded ops a.tmps)):YieldsAt P ops o v a' w:=by
 unfold YieldsAt at*;rw[he,hw];exact hy
theorem YieldsAt.put{o:Oper}{v:Value}{a:Act}{w:World}(hs:∀cs b,o.op≠ .select cs b){dst:Option Tmp}{u:Value}(h:∀d,dst=some d->d ∉ o.looksAt ops):YieldsAt P ops o v (a.put dst u) w↔YieldsAt P ops o v a w:=by
 have e1:=execOp_put (ops:=ops) o hs a dst u h;have e2:=wanted_put (ops:=ops) o a dst u h;unfold YieldsAt;rw[e1,e2]
theorem YieldsAt.wpOp{i:Nat}{o:Oper}{v:Value}{a:Act}{w:World}(hi:ops[i]? =some o)(hy:YieldsAt P ops o v a w){K:Act->World->Prop}(h:K (a.put o.dst v) w):wpOp P ops Q i K a w:=by
 unfold Go.wpOp;simp only[hi];rcases hy with⟨hw,hv⟩|⟨hw,rfl⟩
 ·simp only[hw,if_true,Oper.wp,hv,Oper.upon];exact .inl h
 ·simp only[hw,Bool.false_eq_true,if_false];exact h
def alive(T:List (Nat×List Nat))(listed:Array Bool)(p:Nat):Prop:= ∀k l,(k,l)∈T->listed.getD k false=true->p ∉ l
def QJ(P:Program)(ops:Array Oper)(T:List (Nat×List Nat))(listed:Array Bool)(pend:List (Nat×Value))(a:Act)(w:World):Prop:=
 ∀p∈pend,alive T listed p.1-> ∀o,ops[p.1]? =some o->YieldsAt P ops o p.2 a w
def jq(P:Program)(ops:Array Oper)(Q:Exit->Act->World->Prop)(T:List (Nat×List Nat)):Nat->Array Bool->List (Nat×Value)->Act->World->Prop
 |0,listed,_,a,w=>Region.ready .any ops listed=[]/\Q .normal a w
 |f+1,listed,pend,a,w=>(Region.ready .any ops listed=[]->Q .normal a w)/\ ∀j∈Region.ready .any ops listed,wpOp P ops Q j (λ a' w'=>QJ P ops T (listed.setIfInBounds j true) pend a' w'/\jq P ops Q T f (listed.setIfInBounds j true) pend a' w') a w
theorem jq.less:∀{f:Nat}{listed:Array Bool}{pend aaj:List (Nat×Value)}{a:Act}{w:World},(∀p∈aaj,p∈pend)->jq P ops Q T f listed pend a w->jq P ops Q T f listed aaj a w
 |0,_,_,_,_,_,_,h=>h
 |_+1,_,_,_,_,_,hs,h=>⟨h.1,λ j hj=>wpOp_mono (λ _ _ k=>⟨λ p hp=>k.1 p (hs p hp),jq.less hs k.2⟩) (h.2 j hj)⟩
theorem jq.any:∀{f:Nat}{listed:Array Bool}{pend:List (Nat×Value)}{a:Act}{w:World},jq P ops Q T f listed pend a w->wpAny P .any ops Q f listed a w
 |0,_,_,_,_,h=>h
 |_+1,_,_,_,_,h=>⟨h.1,λ j hj=>wpOp_mono (λ _ _ k=>jq.any k.2) (h.2 j hj)⟩
def Closed(T:List (Nat×List Nat))(listed:Array Bool):Prop:= ∀k l,(k,l)∈T->listed.getD k false=true-> ∀p∈l,listed.getD p false=true
theorem SI{j:Nat}{oi oj:Oper}{v:Value}(hj:ops[j]? =some oj)(h1:∀d,oi.dst=some d->d ∉ oj.looksAt ops)(h2:∀d,oi.dst=some d->oj.dst≠some d)
  (hsj:∀cs b,oj.op≠ .select cs b)(hQ:∀c a w,Q (.panic c) (a.put oi.dst v) w->Q (.panic c) a w){K:Act->World->Prop}{a:Act}{w:World}
  (h:wpOp P ops Q j K (a.put oi.dst v) w):wpOp P ops Q j (λ a' w'=>K (a'.put oi.dst v) w') a w:=by
 unfold wpOp at*;simp only[hj]at*;rw[wanted_put oj a oi.dst v h1]at h;split
 ·rename_i hw;simp only[hw,if_true]at h;rcases h with h|⟨hasks,hlets⟩;case inr=>exact .inr ⟨by unfold Oper.asks at*;rw[execOp_put oj hsj a oi.dst v h1]at hasks;exact hasks,hlets⟩
  refine .inl ?_;unfold Oper.wp at*;rw[execOp_put oj hsj a oi.dst v h1]at h;generalize(execOp a.eval oj).run P w=r at*;cases r with
  |ok n w'=>
   cases n<;>simp only[Oper.upon]at h⊢;case value u=>rw[<-Act.put_comm a v u h2];exact h
   case skip=>rw[<-Act.put_comm a v undef h2];exact h
   case defer d=>
    rw[<-Act.put_comm _ v undef h2,<-Act.put_defers];exact h
   case enter f args=>
    refine Calls.mono h λ e w'' he=> ?_;cases e with
    |returned u=>dsimp only at he⊢;rw[<-Act.put_comm a v u h2];exact he
    |panicked c=>exact hQ _ _ _ he
    |outgrown=>exact he
   case row row args=>exact Rows.mono h λ u w'' he=>by rw[<-Act.put_comm a v u h2];exact he
  |halt x w'=>
   cases x<;>simp only[Oper.upon]at h⊢;case panic u=>exact hQ _ _ _ h
 ·rename_i hw;simp only[hw]at h;rw[<-Act.put_comm a v undef h2];exact h
def OV(pu:Bool)(x:Nat×Value)(pend:List (Nat×Value)):List (Nat×Value):=match pu with|true=>pend|false=>x::pend
def Hw(ops:Array Oper)(listed:Array Bool)(pend:List (Nat×Value)):Prop:=
 ∀p∈pend,∀o,ops[p.1]? =some o-> ∀k ok,ops[k]? =some ok->listed.getD k true=false-> ∀d,ok.dst=some d->d ∉ o.looksAt ops
theorem JB{i:Nat}{oi:Oper}{v:Value}(hi:ops[i]? =some oi)(hsel:∀(j:Nat)(o:Oper) cs b,ops[j]? =some o->o.op≠ .select cs b)
  (hQ:∀c a w,Q (.panic c) (a.put oi.dst v) w->Q (.panic c) a w)(hT:∀l,(i,l)∈T->False){U:List (Nat×List Nat)}(hTU:∀x∈T,x∈U)(hTr:∀(k:Nat)(l:List Nat)(listed:Array Bool),(k,l)∈U->Closed U listed->k∈Region.ready .any ops listed-> ∀p∈l,listed.getD p false=true)(pu:Bool):
  ∀ (fuel:Nat)(listed:Array Bool)(pend:List (Nat×Value))(a:Act)(w:World),
   (∀j oj,ops[j]? =some oj->j≠i->listed.getD j true=false->(∀d,oi.dst=some d->oj.dst≠some d)/\((∀e∈oj.after,Region.binds .any e=true->e.on≠i)->(∀d,oj.dst=some d->d ∉ oi.looksAt ops)/\ ∀d,oi.dst=some d->d ∉ oj.looksAt ops))->
   (∀d,oi.dst=some d->d ∉ oi.looksAt ops)->
   i∈Region.ready .any ops listed->Closed U listed->Hw ops listed pend->QJ P ops T listed pend a w->YieldsAt P ops oi v a w->(pu=true->Yields P ops oi v a)->
   jq P ops Q T fuel (listed.setIfInBounds i true) (OV pu (i,v) pend) (a.put oi.dst v) w->jq P ops Q T (fuel+1) listed pend a w:=by
 intro fuel;have hsub:∀(pend:List (Nat×Value)),∀p∈pend,p∈(OV pu (i,v) pend):=by
  intro pend p hp;cases pu
  ·exact List.mem_cons_of_mem _ hp
  ·exact hp
 have self:∀(listed:Array Bool)(pend:List (Nat×Value))(a:Act)(w:World),i∈Region.ready .any ops listed->Hw ops listed pend->QJ P ops T listed pend a w->QJ P ops T (listed.setIfInBounds i true) pend (a.put oi.dst v) w:=by
  intro listed pend a w hr hB hO p hp hal o ho;have hal':alive T listed p.1:=λ k l hk hl=>hal k l hk (getD_set_true hl);have:=hO p hp hal' o ho;exact(YieldsAt.put (λ cs b=>hsel _ _ cs b ho) λ d hd=>hB p hp o ho i oi hi (mem_ready.1 hr).1 d hd).2 this
 induction fuel with
 |zero=>
  intro listed pend a w _ _ hr _ hB hO hy _ H;refine⟨λ h=>(by rw[h]at hr;cases hr),λ j hj=> ?_⟩;by_cases hji:j=i
  ·subst hji;exact hy.wpOp hi ⟨self listed pend a w hr hB hO,jq.less (hsub pend) H⟩
  ·have:=ready_mono hj hji;rw[H.1]at this;cases this
 |succ fuel ih=>
  intro listed pend a w hfree hself hr hC hB hO hy hpu H;refine⟨λ h=>(by rw[h]at hr;cases hr),λ j hj=> ?_⟩;by_cases hji:j=i
  ·subst hji;exact hy.wpOp hi ⟨self listed pend a w hr hB hO,jq.less (hsub pend) H⟩
  ·have h1:=H.2 j (ready_mono hj hji);obtain⟨hjun,oj,hoj,hall⟩:=mem_ready.1 hj;have aaR:=(mem_ready.1 hr).1;have QK:listed.getD i false=false:=by
    rcases Nat.lt_or_ge i listed.size with h'|h'
    ·simp[h']at aaR⊢;exact aaR
    ·simp[Array.getElem?_eq_none h']
   have hnot:∀e∈oj.after,Region.binds .any e=true->e.on≠i:=λ e he hb heq=>by
    have h1:=hall e he hb;rw[heq,QK]at h1;cases h1
   obtain⟨f2,f3⟩:=hfree j oj hoj hji hjun;obtain⟨f1,hb3⟩:=f3 hnot;have ac6:i<ops.size:=(Array.getElem?_eq_some_iff.1 hi).1;have sV:Closed U (listed.setIfInBounds j true):=by
    intro k l hk hl p hp;by_cases hkj:k=j
    ·subst hkj;exact getD_set_true (hTr k l listed hk hC hj p hp)
    ·rw[getD_set_ne false (Ne.symm hkj)]at hl;exact getD_set_true (hC k l hk hl p hp)
   have YT:Hw ops (listed.setIfInBounds j true) pend:=λ p hp o ho k ok hk hun d hd=>by
    refine hB p hp o ho k ok hk ?_ d hd;by_cases hkj:j=k
    ·subst hkj;exact hjun
    ·rw[getD_set_ne true hkj]at hun;exact hun
   have acJ:∀(a':Act)(u:Value),Yields P ops oi v a'->Yields P ops oi v (a'.put oj.dst u):=λ a' u hy=>hy.of_same (execOp_put oi (λ cs b=>hsel i oi cs b hi) a' oj.dst u f1) (wanted_put oi a' oj.dst u f1);have h2:=SI hoj hb3 f2 (λ cs b=>hsel j oj cs b hoj) hQ h1;have V6:∀p,alive T (listed.setIfInBounds j true) p->alive T ((listed.setIfInBounds i true).setIfInBounds j true) p:=by
    intro p hal k l hk hl;by_cases hki:k=i
    ·subst hki;exact(hT l hk).elim
    ·refine hal k l hk ?_;rw[Array.setIfInBounds_comm _ _ (Ne.symm hji),getD_set_ne false (Ne.symm hki)]at hl;exact hl
   have YU:alive T ((listed.setIfInBounds i true).setIfInBounds j true) i:=by
    refine V6 i λ k l hk hl hin=> ?_;have h0:=sV k l (hTU _ hk) hl i hin;rw[getD_set_ne false hji,QK]at h0;cases h0
   have hfree':∀k ok,ops[k]? =some ok->k≠i->(listed.setIfInBounds j true).getD k true=false->(∀d,oi.dst=some d->ok.dst≠some d)/\((∀e∈ok.after,Region.binds .any e=true->e.on≠i)->(∀d,ok.dst=some d->d ∉ oi.looksAt ops)/\ ∀d,oi.dst=some d->d ∉ ok.looksAt ops):=λ k ok hk hki hun=>by
    refine hfree k ok hk hki ?_;by_cases hjk:j=k
    ·subst hjk;exact hjun
    ·rw[getD_set_ne true hjk]at hun;exact hun
   have fin:∀(a':Act)(w':World),(pu=true->Yields P ops oi v a')->(QJ P ops T ((listed.setIfInBounds i true).setIfInBounds j true) (OV pu (i,v) pend) (a'.put oi.dst v) w'/\jq P ops Q T fuel ((listed.setIfInBounds i true).setIfInBounds j true) (OV pu (i,v) pend) (a'.put oi.dst v) w')->
     QJ P ops T (listed.setIfInBounds j true) pend a' w'/\jq P ops Q T (fuel+1) (listed.setIfInBounds j true) pend a' w':=by
    rintro a' w' wo ⟨k1,k2⟩;have kO:QJ P ops T (listed.setIfInBounds j true) pend a' w':=by
     intro p hp hal o ho;have:=k1 p (hsub pend p hp) (V6 p.1 hal) o ho;exact(YieldsAt.put (λ cs b=>hsel _ _ cs b ho) λ d hd=>hB p hp o ho i oi hi aaR d hd).1 this
    refine⟨kO, ?_⟩;have hyi:YieldsAt P ops oi v a' w':=by
     cases hp:pu with
     |true=>
      rcases wo hp with⟨q1,q2⟩|q
      ·exact .inl ⟨q1,q2 w'⟩
      ·exact .inr q
     |false=>
      rw[hp]at k1;exact(YieldsAt.put (λ cs b=>hsel _ _ cs b hi) hself).1 (k1 (i,v) List.mem_cons_self YU oi hi)
    refine ih (listed.setIfInBounds j true) pend a' w' hfree' hself (ready_mono hr (Ne.symm hji)) sV YT kO hyi wo ?_;rw[Array.setIfInBounds_comm _ _ hji];exact k2
   cases hp:pu with
   |false=>exact wpOp_mono (λ a' w' h3=>fin a' w' (λ e=>by rw[hp]at e;cases e) h3) h2
   |true=>
    have h2':=wpOp_put (v:=v) hoj (Oper.V7 hb3 f2 f1) (λ cs b=>hsel i oi cs b hi) (λ cs b=>hsel j oj cs b hoj) hQ (hpu hp) h1;exact wpOp_mono (λ a' w' h3=>fin a' w' (λ _=>h3.1) h3.2) h2'
where
 Oper.V7 {x y:Oper} (h1:∀d,x.dst=some d->d ∉ y.looksAt ops) (h2:∀d,x.dst=some d->y.dst≠some d) (h3:∀d,y.dst=some d->d ∉ x.looksAt ops):x.apart ops y=true:=by
  unfold Oper.apart;rw[Bool.and_eq_true];constructor
  ·cases hx:x.dst with
   |none=>rfl
   |some d=>simpa using⟨h1 d hx,h2 d hx⟩
  ·cases hy:y.dst with
   |none=>rfl
   |some d=>simpa using h3 d hy
end
def JC(p:Nat):List Edge->Bool
 |[]=>false
 |e::l=>(Region.binds .any e&&Nat.beq e.on p)||JC p l
def DR(U:List (Nat×List Nat))(p:Nat):List Edge->Bool
 |[]=>false
 |e::l=>(Region.binds .any e&&U.any (λ x=>Nat.beq x.1 e.on&&kY p x.2))||DR U p l
def V8(ops:List Oper)(U:List (Nat×List Nat)):Bool:=
 U.all λ x=>match ops[x.1]? with|some o=>x.2.all λ p=>JC p o.after.toList||DR U p o.after.toList|none=>false
def JD(ops:List Oper)(done:List Nat)(i:Nat)(oi:Oper):Nat->List Oper->Bool
 |_,[]=>true
 |k,o::r=>(Nat.beq k i||kY k done||((match oi.dst with|some d=> !(QI o d)|none=>true)&&(ET i o.after.toList||((match o.dst with|some d=> !(vX ops oi d)|none=>true)&&(match oi.dst with|some d=> !(vX ops o d)|none=>true)))))&&JD ops done i oi (k+1) r
def yL(ops:List Oper)(done:List Nat)(i:Nat)(oi:Oper):Nat->List Oper->Bool
 |_,[]=>true
 |k,o::r=>(Nat.beq k i||kY k done||(match o.dst with|some d=> !(vX ops oi d)|none=>true))&&yL ops done i oi (k+1) r
def V9:Op->Bool
 | .move _=>true
 | .assign _=>true
 | .pick .. =>true
 | .extract .. =>true
 | .fieldAddr .. =>true
 | .indexAddr .. =>true
 | .unOp .. =>true
 | .build .. =>true
 |_=>false
def yM:List (Nat×Option (List Nat))->List (Nat×List Nat)
 |[]=>[]
 |(i,some l)::r=>(i,l)::yM r
 |(_,none)::r=>yM r
def Wh(i:Nat):List Nat->Bool
 |[k]=>Nat.beq k i
 |_=>false
def Vu:List Nat->Bool
 |[]=>true
 |_=>false
def OW(ops:List Oper)(T:List (Nat×List Nat)):List (Nat×Option (List Nat))->List Nat->Bool
 |[],done=>Vu (gK ops.length done 0 ops)
 |(i,none)::r,done=>(match ops[i]? with
  |some o=>kY i (gK ops.length done 0 ops)&&JD ops done i o 0 ops&&(V9 o.op||yL ops done i o 0 ops)&&(match o.dst with|some d=> !(vX ops o d)|none=>false)&& !(T.any λ x=>Nat.beq x.1 i)
  |none=>false)&&OW ops T r (i::done)
 |(i,some _)::r,done=>Wh i (gK ops.length done 0 ops)&&OW ops T r (i::done)
def YV:List (Nat×List Nat)->List (Nat×List Nat)->Bool
 |[],_=>true
 |x::T,U=>U.any (λ y=>Nat.beq x.1 y.1&&(x.2==y.2))&&YV T U
def BD(ops:List Oper)(sc:List (Nat×Option (List Nat)))(U:List (Nat×List Nat)):Bool:=
 V8 ops U&&YV (yM sc) U&&OW ops (yM sc) sc []
def aaS:AV->Bool
 | .v _=>true
 | .own _=>true
 | .dP .. =>true
 | .box .. =>true
 | .cf .. =>true
 |_=>false
def aaT:AV->Bool
 | .agg cs=>cs.all aaS
 |x=>aaS x
structure Still(A B:AV)(K:Prop):Prop where
 mk::
 eq:A=B
 det:aaT A=true
 k:K
def Gy(P:Program)(L:Lay)(W:Walk)(N:Nat)(ops:List Oper):List Nat->AS->Prop->Prop
 |[],_,K=>K
 |p::r,st,K=>match ops[p]? with
  |some o=>(match o.dst with
   |some d=>Qy P L W d st o.op (λ y _=>Still y (st.tmps d) (Gy P L W N ops r st K))
   |none=>False)
  |none=>False
def outOf(l:List Nat):List Nat->List Nat
 |[]=>[]
 |p::r=>bif kY p l then outOf l r else p::outOf l r
inductive EW(P:Program)(d:Nat)(f:FuncId)(bD:List AV)(st:AS)(K:AV->AS->Prop):Prop where
 |plain (bs:List AV) (r:AV) (hs:aC P f bs r []) (hsub:Ea st.heap bD bs) (hr:ok2 none r=true):K r (bif mJ r then st else sO st bD)->EW P d f bD st K
 |fresh (bs:List AV) (r:AV) (e:TypeId) (s n:Nat) (sc:Bool) (g:Nat->List AV) (hs:aC P f bs r [(d,.row e s n sc g)]) (hsub:Ea st.heap bD bs) (hr:ok2 (some d) r=true):
   K r ((bif mJ r&&sc then st else sO st bD).obj d d (.row e s n sc g))->EW P d f bD st K
def OX(L:Lay)(st:AS):Op->Bool
 | .load t p=>match aV L t with
   |some i=>(match st.ev p with
    | .box id k=>(match aQ id st.heap with
      |some (.box _ cs)=>Nat.ble (k+(bif i.isAgg then i.size else 1)) cs.length
      |_=>false)
    |_=>false)
   |none=>false
 |_=>false
def LW(L:Lay)(st:AS)(ops:List Oper)(p:Nat):Bool:=match ops[p]? with|some o=>OX L st o.op|none=>false
def uD(L:Lay)(st:AS)(ops:List Oper):List Nat->List Nat
 |[]=>[]
 |p::r=>bif LW L st ops p then uD L st ops r else p::uD L st ops r
def aak(P:Program)(L:Lay)(W:Walk)(N:Nat)(ops:List Oper)(o:Oper)(pl:List Nat)(st:AS)(K:AS->Prop):Prop:=
 match vY N st ops o with
 |some true=>(match o.op with
  | .call c=>(match c.callee with
    | .value x=>(match(st.ev x).U5 with
      | .fn g caps=>nameOf st (λ d=>EW P d g (c.args.toList.map st.ev++caps) st (λ x st'=>pI N st' o.dst x (λ st2=>Gy P L W N ops (uD L st ops pl) st2 (K st2))))
      |_=>False)
    |_=>False)
  |_=>False)
 |some false=>pI N st o.dst (.v undef) (λ st2=>Gy P L W N ops (uD L st ops pl) st2 (K st2))
 |none=>False
def uF(P:Program)(L:Lay)(W:Walk)(N:Nat)(ops:List Oper)(kp:Bool)(Q:AS->Prop):List (Nat×Option (List Nat))->List Nat->AS->Prop
 |[],_,st=>Q st
 |(i,none)::r,pend,st=>match ops[i]? with
  |some o=>(match vY N st ops o with
   |some true=>(match vW L st o.op with
    |true=>zJ P L W o.dst st o.op (λ x st'=>pI N st' o.dst x (uF P L W N ops kp Q r pend))
    |false=>(match lS o.op with
    |true=>zJ P L W o.dst st o.op (λ x st'=>pI N st' o.dst x (uF P L W N ops kp Q r (i::pend)))
    |false=>False))
   |some false=>pI N st o.dst (.v undef) (uF P L W N ops kp Q r pend)
   |none=>False)
  |none=>False
 |(i,some l)::r,pend,st=>match ops[i]? with
  |some o=>(match kp with
   |true=>aak P L W N ops o (outOf l pend) st (uF P L W N ops kp Q r (outOf l pend))
   |false=>sU P L W N ops o st (λ st'=>Gy P L W N ops (outOf l pend) st' (uF P L W N ops kp Q r (outOf l pend) st')))
  |none=>False
section
variable{P:Program}{L:Lay}{g:Base}{N:Nat}{bs:List (Array Value)}{ρ:Nat->Value}{a:Act}{w:World}{st:AS}
theorem uG{X:CX}{y:AV}{u v:Value}(h:aaS y=true)(hu:C0 X y u)(hv:C0 X y v):u=v:=by
 cases y with
 |v x=>exact Eq.trans (show u=x from hu) (show v=x from hv).symm
 |own id=>exact Eq.trans (show u=fM (X.ρ id)from hu) (show v=fM (X.ρ id)from hv).symm
 |dP id s i k=>
  obtain⟨b,n,c,h1,rfl⟩:=hu;obtain⟨b',n',c',h2,rfl⟩:=hv;rw[h1]at h2;cases h2;rfl
 |jm id s i k=>cases h
 |box id off=>
  obtain⟨b,h1,rfl⟩:=hu;obtain⟨b',h2,rfl⟩:=hv;rw[h1]at h2;cases h2;rfl
 |cf gg id off=>
  obtain⟨b,h1,rfl⟩:=hu;obtain⟨b',h2,rfl⟩:=hv;rw[h1]at h2;cases h2;rfl
 |_=>cases h
theorem YW{X:CX}{y:AV}{u v:Value}(h:aaT y=true)(hu:C2 X y u)(hv:C2 X y v):u=v:=by
 cases y with
 |agg cs=>
  obtain⟨us,rfl,h1⟩:=hu;obtain⟨vs,rfl,h2⟩:=hv;have:us=vs:=by
   apply List.ext_getElem?;intro i;by_cases hi:i<cs.length
   ·have hx:cs[i]? =some cs[i]:=List.getElem?_eq_getElem hi;obtain⟨u,e1,k1⟩:=h1.get hx;obtain⟨v,e2,k2⟩:=h2.get hx;rw[e1,e2,uG (List.all_eq_true.1 h _ (List.getElem_mem hi)) k1 k2]
   ·rw[List.getElem?_eq_none (by rw[<-h1.1];omega),List.getElem?_eq_none (by rw[<-h2.1];omega)]
  rw[this]
 |v x=>exact uG (X:=X) (y:= .v x) h hu hv
 |own id=>exact uG (X:=X) (y:= .own id) h hu hv
 |dP id s i k=>exact uG (X:=X) (y:= .dP id s i k) h hu hv
 |jm id s i k=>exact uG (X:=X) (y:= .jm id s i k) h hu hv
 |box id off=>exact uG (X:=X) (y:= .box id off) h hu hv
 |cf gg id off=>exact uG (X:=X) (y:= .cf gg id off) h hu hv
 |_=>cases h
theorem Hy{p:Nat}:∀{l:List Edge},JC p l=true-> ∃e∈l,Region.binds .any e=true/\e.on=p
 |[],h=>by cases h
 |e::l,h=>by
  simp only[JC,Bool.or_eq_true,Bool.and_eq_true]at h;rcases h with⟨h1,h2⟩|h
  ·exact⟨e,List.mem_cons_self,h1,Nat.eq_of_beq_eq_true h2⟩
  ·obtain⟨e',h1,h2⟩:=Hy h;exact⟨e',List.mem_cons_of_mem _ h1,h2⟩
theorem DT{p:Nat}:∀{l:List Nat},kY p l=true↔p∈l
 |[]=>by simp[kY]
 |q::l=>by
  simp only[kY,Bool.or_eq_true,List.mem_cons,DT (l:=l)];refine or_congr ⟨λ h=>(Nat.eq_of_beq_eq_true h).symm,λ h=>by rw[h];simp⟩ Iff.rfl
theorem EX{U:List (Nat×List Nat)}{p:Nat}:∀{l:List Edge},DR U p l=true-> ∃e∈l,Region.binds .any e=true/\ ∃x∈U,x.1=e.on/\p∈x.2
 |[],h=>by cases h
 |e::l,h=>by
  simp only[DR,Bool.or_eq_true,Bool.and_eq_true,List.any_eq_true]at h;rcases h with⟨h1,x,hx,h2,h3⟩|h
  ·exact⟨e,List.mem_cons_self,h1,x,hx,Nat.eq_of_beq_eq_true h2,DT.1 h3⟩
  ·obtain⟨e',h1,h2⟩:=EX h;exact⟨e',List.mem_cons_of_mem _ h1,h2⟩
theorem EY{ops:List Oper}{U:List (Nat×List Nat)}(h:V8 ops U=true)(k:Nat)(l:List Nat)(listed:Array Bool)(hk:(k,l)∈U)(hC:Closed U listed)(hr:k∈Region.ready .any ops.toArray listed):∀p∈l,listed.getD p false=true:=by
 intro p hp;have:=List.all_eq_true.1 h _ hk;dsimp only at this;obtain⟨_,o,ho,hall⟩:=mem_ready.1 hr;have ho:ops[k]? =some o:=by simpa using ho
 rw[ho]at this;dsimp only at this;have:=List.all_eq_true.1 this p hp;rw[Bool.or_eq_true]at this;rcases this with h1|h1
 ·obtain⟨e,he,hb,rfl⟩:=Hy h1;exact hall e (by simpa using he) hb
 ·obtain⟨e,he,hb,⟨k',l'⟩,hx,e1,h3⟩:=EX h1;have h2:=hall e (by simpa using he) hb;dsimp only at e1 h3;rw[<-e1]at h2;exact hC k' l' hx h2 p h3
theorem YX{T U:List (Nat×List Nat)}(h:YV T U=true):∀x∈T,x∈U:=by
 induction T with
 |nil=>intro x hx;cases hx
 |cons y T ih=>
  simp only[YV,Bool.and_eq_true,List.any_eq_true]at h;obtain⟨⟨z,hz,h1,h2⟩,h3⟩:=h;intro x hx;rcases List.mem_cons.1 hx with rfl|hx
  ·have e1:=Nat.eq_of_beq_eq_true h1;have e2:=eq_of_beq h2;have:x=z:=Prod.ext e1 e2;rw[this];exact hz
  ·exact ih h3 x hx
theorem Hz{ops:List Oper}{done:List Nat}{i:Nat}{oi:Oper}:∀{l:List Oper}{k:Nat},JD ops done i oi k l=true-> ∀(j:Nat)(oj:Oper),l[j]? =some oj->k+j≠i->kY (k+j) done=false->
 (∀d,oi.dst=some d->oj.dst≠some d)/\((∀e∈oj.after,Region.binds .any e=true->e.on≠i)->(∀d,oj.dst=some d->d ∉ oi.looksAt ops.toArray)/\ ∀d,oi.dst=some d->d ∉ oj.looksAt ops.toArray)
 |[],k,_,j,oj,hj=>by simp at hj
 |o::l,k,h,j,oj,hj=>by
  simp only[JD,Bool.and_eq_true,Bool.or_eq_true]at h;obtain⟨h1,h2⟩:=h;intro hne hm;cases j with
  |zero=>
   simp only[List.getElem?_cons_zero,Option.some.injEq]at hj;subst hj;rcases h1 with(h1|h1)|⟨h1,h3⟩
   ·exact absurd (Nat.eq_of_beq_eq_true h1) (by simpa using hne)
   ·rw[Nat.add_zero]at hm;rw[hm]at h1;cases h1
   ·refine⟨λ d hd=> ?_,λ hw=> ?_⟩
    ·rw[hd]at h1;simp only[Bool.not_eq_true']at h1;intro e;unfold QI at h1;rw[e]at h1;simp at h1
    ·rcases h3 with h4|⟨h3,h4⟩
     ·obtain⟨e,he,hb,hi⟩:=BA h4;exact absurd hi (hw e (by simpa using he) hb)
     ·refine⟨λ d hd=> ?_,λ d hd=> ?_⟩
      ·rw[hd]at h3;simp only[Bool.not_eq_true']at h3;have:=qg h3;simpa using this
      ·rw[hd]at h4;simp only[Bool.not_eq_true']at h4;have:=qg h4;simpa using this
  |succ j=>
   exact Hz h2 j oj (by simpa using hj) (by omega) (by rw[show k+1+j=k+(j+1) by omega];exact hm)
theorem HY{ops:List Oper}{done:List Nat}{i:Nat}{oi:Oper}:∀{l:List Oper}{k:Nat},yL ops done i oi k l=true-> ∀(j:Nat)(oj:Oper),l[j]? =some oj->k+j≠i->kY (k+j) done=false-> ∀d,oj.dst=some d->d ∉ oi.looksAt ops.toArray
 |[],k,_,j,oj,hj=>by simp at hj
 |o::l,k,h,j,oj,hj=>by
  simp only[yL,Bool.and_eq_true,Bool.or_eq_true]at h;obtain⟨h1,h2⟩:=h;intro hne hm d hd;cases j with
  |zero=>
   simp only[List.getElem?_cons_zero,Option.some.injEq]at hj;subst hj;rcases h1 with(h1|h1)|h1
   ·exact absurd (Nat.eq_of_beq_eq_true h1) (by simpa using hne)
   ·rw[Nat.add_zero]at hm;rw[hm]at h1;cases h1
   ·rw[hd]at h1;simp only[Bool.not_eq_true']at h1;have:=qg h1;simpa using this
  |succ j=>
   exact HY h2 j oj (by simpa using hj) (by omega) (by rw[show k+1+j=k+(j+1) by omega];exact hm) d hd
theorem LX{op:Op}(h:V9 op=true)(L:Lay)(st:AS):vW L st op=true:=by
 cases op<;>first|rfl|cases h
theorem Wi{i:Nat}{l:List Nat}(h:Wh i l=true):l=[i]:=by
 unfold Wh at h;split at h
 ·rw[Nat.eq_of_beq_eq_true h]
 ·cases h
theorem yN:∀{sc:List (Nat×Option (List Nat))}{k:Nat}{l:List Nat},(k,some l)∈sc->(k,l)∈yM sc
 |[],_,_,h=>by cases h
 |(i,none)::r,k,l,h=>by
  rcases List.mem_cons.1 h with h|h
  ·cases h
  ·show(k,l)∈yM r;exact yN h
 |(i,some m)::r,k,l,h=>by
  rcases List.mem_cons.1 h with h|h
  ·cases h;exact List.mem_cons_self
  ·exact List.mem_cons_of_mem _ (yN h)
theorem BF{l:List Nat}{p:Nat}:∀{q:List Nat},p∈q->p ∉ l->p∈outOf l q
 |[],h,_=>by cases h
 |x::q,h,hn=>by
  simp only[outOf];cases hb:kY x l with
  |true=>
   rcases List.mem_cons.1 h with rfl|h
   ·exact absurd (DT.1 hb) hn
   ·exact BF h hn
  |false=>
   rcases List.mem_cons.1 h with rfl|h
   ·exact List.mem_cons_self
   ·exact List.mem_cons_of_mem _ (BF h hn)
theorem xH{l:List Nat}{p:Nat}:∀{q:List Nat},p∈outOf l q->p∈q
 |[],h=>h
 |x::q,h=>by
  simp only[outOf]at h;cases hb:kY x l with
  |true=>rw[hb]at h;exact List.mem_cons_of_mem _ (xH h)
  |false=>
   rw[hb]at h;rcases List.mem_cons.1 h with rfl|h
   ·exact List.mem_cons_self
   ·exact List.mem_cons_of_mem _ (xH h)
theorem QL(hL:bQ P L){W:Walk}{ops:List Oper}{K:Prop}(R:Rel g N bs ρ a w st):∀{l:List Nat},(∀p∈l,∃o,ops[p]? =some o/\lS o.op=true)->Gy P L W N ops l st K->K/\ ∀p∈l,∃o d,ops[p]? =some o/\o.dst=some d/\(execOp a.eval o).run P w= .ok (.value (a.tmps.getD d undef)) w
 |[],_,h=>⟨h,λ p hp=>by cases hp⟩
 |p::r,hq,h=>by
  simp only[Gy]at h;split at h
  ·rename_i o ho;obtain⟨o',ho',hqo⟩:=hq p List.mem_cons_self;rw[ho]at ho';cases ho';split at h
   ·rename_i d hd;obtain⟨y,u,hs,hc,hrun⟩:=xC hL R (o:=o) hqo h;obtain⟨e,acK,hr⟩:=hs;obtain⟨hK,hall⟩:=QL hL R (λ p hp=>hq p (List.mem_cons_of_mem _ hp)) hr;refine⟨hK,λ q hq'=> ?_⟩;rcases List.mem_cons.1 hq' with rfl|hq'
    ·refine⟨o,d,ho,hd, ?_⟩;have ht:=R.tmps d;rw[<-e]at ht;rw[hrun,YW acK hc ht]
    ·exact hall q hq'
   ·exact h.elim
  ·exact h.elim
theorem CS{a:Act}{dst:Option Tmp}{u:Value}{d:Nat}(h:∀t,dst=some t->t≠d):(a.put dst u).tmps.getD d undef=a.tmps.getD d undef:=by
 cases dst with
 |none=>rfl
 |some t=>
  have:=h t rfl;simp[Act.put,Array.getElem?_setIfInBounds_ne this]
def Slots(ops:List Oper)(done:List Nat)(pend:List (Nat×Value))(a:Act):Prop:=
 ∀p∈pend,∃o d,ops[p.1]? =some o/\lS o.op=true/\o.dst=some d/\a.tmps.getD d undef=p.2/\ ∀k ok,ops[k]? =some ok->kY k done=false->ok.dst≠some d
theorem YZ(hL:bQ P L){t:TypeId}{i:TI}(hi:aV L t=some i){k n:Nat}(hn:k+(bif i.isAgg then i.size else 1)<=n){b:Nat}{us:List Value}(hl:us.length=n):
  ∃u,∀W:World,(∀(j:Nat)(y:Value),us[j]? =some y->W.cell? ⟨b,0+j,none⟩=some y)->(loadVar t ⟨b,0+k,none⟩).run P W= .ok u W:=by
 cases hg:i.isAgg with
 |true=>
  rw[hg]at hn;simp only[cond_true]at hn;refine⟨.agg ((us.drop k).take i.size).toArray,λ W hc=> ?_⟩;have hlen:((us.drop k).take i.size).length=i.size:=by rw[List.length_take,List.length_drop];omega
  have hl:=run_loadCells_list (P:=P) W ⟨b,0+k,none⟩ ((us.drop k).take i.size) (λ j v hv=>by
   rw[Addr.add_lit];rw[List.getElem?_take]at hv;split at hv
   ·rw[List.getElem?_drop]at hv;rw[Nat.add_assoc];exact hc _ _ hv
   ·cases hv)
  rw[hlen]at hl;simp only[loadVar,Sem.run_bind,nP hL hi,hg,Result.andThen_ok,if_true,iy hL hi,hl,Sem.run_pure]
 |false=>
  rw[hg]at hn;simp only[cond_false]at hn;refine⟨us[k]'(by omega),λ W hc=> ?_⟩;have:=hc k _ (List.getElem?_eq_getElem (show k<us.length by omega));rw[Nat.zero_add]at this⊢;simp[loadVar,Sem.run_bind,nP hL hi,hg,this]
theorem SK(hL:bQ P L)(R:Rel g N bs ρ a w st){o:Oper}(h:OX L st o.op=true):∃u,∀W:World,Below w.heap.size w W->(execOp a.eval o).run P W= .ok (.value u) W:=by
 unfold OX at h;split at h
 ·rename_i t p e;split at h
  ·rename_i i hi;split at h
   ·rename_i id k ep;split at h
    ·rename_i t' cs hf;have hn:=Nat.le_of_ble_eq_true h;have hp:=R.ev p;rw[ep]at hp;obtain⟨b,hb,hpv⟩:=C2.lK hp;obtain⟨b',us,e',hh,ha⟩:=R.objs _ (aA hf);have hb:fM (ρ id)=_:=hb;have e':ρ id=_:=e';rw[e']at hb;cases hb;have hh:w.heap[b]? =_:=hh;have hlt:b<w.heap.size:=(Array.getElem?_eq_some_iff.1 hh).1;obtain⟨u,hu⟩:=YZ (P:=P) hL hi hn (b:=b) (us:=us) ha.1.symm;refine⟨u,λ W hB=> ?_⟩;have hW:W.heap[b]? =_:=(hB.block b hlt).trans hh;have hr:=hu W (λ j y hy=>by
      rw[Nat.zero_add,cell_of_row _ _ _ _ _ _ hW];simpa using hy)
     rw[Nat.zero_add]at hr;have:(Instr.loadAt t (a.eval p)).run P W= .ok u W:=by
      rw[hpv];simpa[Instr.loadAt,Instr.sureAddr]using hr
     simp[execOp,e,this]
    ·cases h
   ·cases h
  ·cases h
 ·cases h
theorem yO{L:Lay}{ops:List Oper}{p:Nat}:∀{l:List Nat},p∈l->LW L st ops p=true\/p∈uD L st ops l
 |[],h=>by cases h
 |q::l,h=>by
  unfold uD;cases hb:LW L st ops q with
  |true=>
   rcases List.mem_cons.1 h with rfl|h
   ·exact .inl hb
   ·exact yO h
  |false=>
   rcases List.mem_cons.1 h with rfl|h
   ·exact .inr List.mem_cons_self
   ·exact(yO h).imp id λ h=>List.mem_cons_of_mem _ h
theorem yP{L:Lay}{ops:List Oper}{p:Nat}:∀{l:List Nat},p∈uD L st ops l->p∈l
 |[],h=>h
 |q::l,h=>by
  unfold uD at h;cases hb:LW L st ops q with
  |true=>rw[hb]at h;exact List.mem_cons_of_mem _ (yP h)
  |false=>
   rw[hb]at h;rcases List.mem_cons.1 h with rfl|h
   ·exact List.mem_cons_self
   ·exact List.mem_cons_of_mem _ (yP h)
theorem OY(R:Rel g N bs ρ a w st){f:FuncId}{bD:List AV}{args:List Value}(hargs:aN (C2 (aB g w ρ st.heap)) bD args){K:AV->AS->Prop}{d:Nat}(h:EW P d f bD st K):
  Enters P f/\Calls P f args.toArray w λ e w'=> ∃u x st' ρ',e= .returned u/\K x st'/\Rel g N bs ρ' a w' st'/\C2 (aB g w' ρ' st'.heap) x u/\Below w.heap.size w w':=by
 have mid:∀(frozen:Bool),∃k:Nat->Prop,∃st1,st1=(bif frozen then st else sO st bD)/\Rel g N bs ρ a w st1/\(∀b,k b->b<w.heap.size)/\(∀b,aI g w ρ st.heap b->k b)/\(∀x∈bD,Reads st ρ w k x/\ ∀cs,x= .agg cs-> ∀c∈cs,Reads st ρ w k c)/\(frozen=false-> ∀b,k b->aI g w ρ st1.heap b):=by
  intro frozen;cases frozen with
  |true=>
   refine⟨λ b=>b<w.heap.size,st,rfl,R,λ b h=>h,λ b h=>h.1,λ x hx=> ?_,λ h=>by cases h⟩;have rd:∀y:AV,Reads st ρ w (λ b=>b<w.heap.size) y:=λ y id e s n sc f hy hf=>
    nR R hf (λ b h=>h.1) (λ b hb=>(R.iq (aU.2 ⟨_,aA hf,hb⟩)).1)
   exact⟨rd x,λ cs e c hc=>rd c⟩
  |false=>
   obtain⟨R1,h1,k1⟩:=DI bD R;exact⟨aI g w ρ (sO st bD).heap,sO st bD,rfl,R1,λ b h=>h.1,h1.keep,k1,λ _ b h=>h⟩
 cases h with
 |plain bb r hs hsub hr hK=>
  obtain⟨k,st1,e1,R1,hk1,hk2,hk3,hk4⟩:=mid (mJ r);rw[<-e1]at hK;refine⟨hs.1,(hs.2 w k args hk1 (DF hk2 hsub hk3 hargs)).mono ?_⟩;rintro e w' ⟨u,Gv,rfl,hb,hc,_,_,_⟩;refine⟨u,r,st1,ρ,rfl,hK,R1.world hb, ?_,hb⟩;refine Aa (X:=aB (base0 w k) w' Gv []) (d:=none) hr ?_ rfl (λ i h=>by cases h) hc;cases hq:mJ r with
  |true=>exact .inl rfl
  |false=>
   refine .inr λ b hbk=> ?_;have hkb:b<w.heap.size->aI g w ρ st1.heap b:=λ h=>hk4 hq b ((hbk.2.1 h).elim id False.elim);refine⟨hbk.1,λ hlt=>(hkb (by have:=R.below.size;omega)).2.1 hlt,λ hin=> ?_⟩;have:=(R1.iq hin).1;exact(hkb this).2.2 hin
 |fresh bb r e s n sc f' hs hsub hr hK=>
  obtain⟨k,st1,e1,R1,hk1,hk2,hk3,hk4⟩:=mid (mJ r&&sc);rw[<-e1]at hK;refine⟨hs.1,(hs.2 w k args hk1 (DF hk2 hsub hk3 hargs)).mono ?_⟩;rintro e0 w' ⟨u,Gv,rfl,hb,hc,ho,hnd,hnew⟩;obtain⟨us,hown,hs0,hfl,hsc,ha⟩:=ho _ (List.mem_singleton.2 rfl);have hown:w'.ownsRow 0 e s (Gv d) n us:=hown;have hBw:=R.below.size;have hkeep:(mJ r&&sc)=false-> ∀b,aI (base0 w k) w' Gv [(d,.row e s n sc f')] b->aI g w' (dV ρ d (Gv d)) (st1.obj d d (.row e s n sc f')).heap b:=by
   intro hq b hbk;have hkb:b<w.heap.size->aI g w ρ st1.heap b:=λ h=>hk4 hq b ((hbk.2.1 h).elim id False.elim);refine⟨hbk.1,λ hlt=>(hkb (by omega)).2.1 hlt,λ hin=> ?_⟩;have hbl:ah (dV ρ d (Gv d)) (st1.obj d d (.row e s n sc f')).heap=blks (Gv d)++ah ρ (gone d d st1.heap):=by
    show ah _ (_::_)=_;rw[aT,vK,mG]
    ·simp[dV]
    ·intro p hp;simp only[nK,List.mem_map]at hp;obtain⟨q,hq,rfl⟩:=hp;exact(sK.1 hq).2.1
   rw[hbl,List.mem_append]at hin;rcases hin with h1|h1
   ·exact hbk.2.2 (by rw[aT];exact List.mem_append_left _ h1)
   ·have hin':=fQ h1;exact(hkb (R1.iq hin').1).2.2 hin'
  have hblk:∀b∈blks (Gv d),w.heap.size<=b:=λ b hb'=>hnew b (aU.2 ⟨_,List.mem_singleton.2 rfl,hb'⟩);have R2:Rel g N bs (dV ρ d (Gv d)) a w' (st1.obj d d (.row e s n sc f')):=by
   refine R1.obj d d (R.below.then hb hBw) hb.size (λ b hlt _=>hb.block b hlt) (λ b hb'=> .inl (hblk b hb')) (λ hE=> ?_) (nM hown);refine⟨us,by simpa[aB,dV]using hown,hs0,hfl,hsc, ?_⟩;cases hq:(mJ r&&sc)with
   |true=>
    simp only[Bool.and_eq_true]at hq;refine⟨ha.1,λ i x u hx hu=> ?_⟩;obtain⟨y,rfl⟩:=hsc hq.2 x (List.mem_of_getElem? hx);have:=ha.2 i _ u hx hu;cases this with
    |v _ h1=>exact .v _ h1
   |false=>exact ha.imp λ _ _=>PC.mono (hkeep hq) λ _ _=>rfl
  refine⟨u,r,_,_,rfl,hK,R2, ?_,hb⟩;refine Aa (X:=aB (base0 w k) w' Gv [(d,.row e s n sc f')]) (d:=some d) hr ?_ rfl (λ i h=>by cases h;simp[aB,dV]) hc;cases hq:(mJ r&&sc)with
  |true=>simp only[Bool.and_eq_true]at hq;exact .inl hq.1
  |false=>exact .inr (hkeep hq)
theorem SL(R:Rel g N bs ρ a w st){o:Oper}{c:Call}(e:o.op= .call c){x:Operand}(ec:c.callee= .value x){gg:FuncId}{caps:List AV}(ex:(st.ev x).U5= .fn gg caps){d:Nat}{K:AV->AS->Prop}{next:Act->World->Prop}{Q:Exit->Act->World->Prop}
  (h:EW P d gg (c.args.toList.map st.ev++caps) st K)(hk:∀x st' u ρ' w',K x st'->Rel g N bs ρ' a w' st'->C2 (aB g w' ρ' st'.heap) x u->Below w.heap.size w w'->next (a.put o.dst u) w'):o.wp P a w next Q:=by
 have hx:=zD (R.ev x);rw[ex]at hx;obtain⟨us,hv,ha⟩:=C2.Bl hx;have hargs:=(xB R c.args.toList).app (Lp ha);obtain⟨hent,hcall⟩:=OY R hargs h;have hrun:(execOp a.eval o).run P w= .ok (.enter gg (c.args.toList.map a.eval++us).toArray) w:=by
  have hcf:=uy hent (c.args.toList.map a.eval++us).toArray w;have eq:(c.args.toList.map a.eval++us).toArray=(#[]++c.args.map a.eval)++us.toArray:=by
   apply Array.ext';simp
  rw[eq]at hcf⊢;simp only[execOp,e,resolve,ec,Deferred.ofValue,hv,Sem.run_bind,Sem.run_pure,Result.andThen_ok,invoke];exact hcf
 unfold Oper.wp;rw[hrun,Oper.upon_enter];refine hcall.mono ?_;rintro e' w' ⟨u,y,st',ρ',rfl,h1,h2,h3,h4⟩;exact hk _ _ _ _ _ h1 h2 h3 h4
theorem EZ(hL:bQ P L){W:Walk}(hW:KD P W){ops:List Oper}(hs:Region.noSelect ops.toArray=true){kp:Bool}{Q:AS->Prop}{E:Exit->Act->World->Prop}(hE:∀e a w,e≠ .normal-> ¬E e a w)(hQ:∀ρ a w st,Rel g N bs ρ a w st->Q st->E .normal a w)
 {T U:List (Nat×List Nat)}(hTU:∀x∈T,x∈U)(hU:V8 ops U=true):
 ∀ (sc:List (Nat×Option (List Nat))){done:List Nat}{listed:Array Bool}{pend:List (Nat×Value)}{pl:List Nat}{ρ:Nat->Value}{a:Act}{w:World}{st:AS},
  (∀k l,(k,some l)∈sc->(k,l)∈T)->OW ops T sc done=true->VZ ops.length done listed->Closed U listed->Hw ops.toArray listed pend->Slots ops done pend a->QJ P ops.toArray T listed pend a w->(∀p∈pend,alive T listed p.1->p.1∈pl)->(∀p∈pl,∃o,ops[p]? =some o/\lS o.op=true)->
  Rel g N bs ρ a w st->uF P L W N ops kp Q sc pl st->jq P ops.toArray E T sc.length listed pend a w
 |[],done,listed,pend,pl,ρ,a,w,st,_,E5,hl,_,_,_,_,_,_,R,h=>by
  refine⟨?_,hQ _ _ _ _ R h⟩;have e:gK ops.length done 0 ops=[]:=by
   simp only[OW]at E5;cases hr:gK ops.length done 0 ops with
   |nil=>rfl
   |cons x l=>rw[hr]at E5;cases E5
  cases hr:Region.ready .any ops.toArray listed with
  |nil=>rfl
  |cons j r=>
   have:j∈gK ops.length done 0 ops:=(kZ hl).1 (by rw[hr];exact List.mem_cons_self);rw[e]at this;cases this
 |(i,none)::r,done,listed,pend,pl,ρ,a,w,st,hTs,E5,hl,hC,hB,hS,hO,hpl,hpq,R,h=>by
  have ih:= @EZ hL W hW ops hs kp Q E hE hQ T U hTU hU r;simp only[OW,Bool.and_eq_true]at E5;obtain⟨hi,hrest⟩:=E5;simp only[uF]at h;split at hi
  ·rename_i o ho;rw[ho]at h;dsimp only at h;simp only[Bool.and_eq_true]at hi;obtain⟨⟨⟨⟨hm,hf⟩,hbl⟩,hself⟩,hT⟩:=hi;have hlt:i<ops.length:=(List.getElem?_eq_some_iff.1 ho).1;have UU:ops.toArray[i]? =some o:=by simpa using ho
   have hr:i∈Region.ready .any ops.toArray listed:=(kZ hl).2 (DT.1 hm);have hsel:=Region.noSelect_spec hs;have hT':∀l,(i,l)∈T->False:=by
    intro l hx;simp only[Bool.not_eq_true',List.any_eq_false]at hT;have:=hT _ hx;simp at this
   have Wj:∀d,o.dst=some d->d ∉ o.looksAt ops.toArray:=by
    intro d hd;rw[hd]at hself;simp only[Bool.not_eq_true']at hself;simpa using qg hself
   have hfree:∀j oj,ops.toArray[j]? =some oj->j≠i->listed.getD j true=false->(∀d,o.dst=some d->oj.dst≠some d)/\((∀e∈oj.after,Region.binds .any e=true->e.on≠i)->(∀d,oj.dst=some d->d ∉ o.looksAt ops.toArray)/\ ∀d,o.dst=some d->d ∉ oj.looksAt ops.toArray):=by
    intro j oj h1 h2 h3;have h1':ops[j]? =some oj:=by simpa using h1
    have hlt':j<ops.length:=(List.getElem?_eq_some_iff.1 h1').1;exact Hz hf j oj h1' (by omega) (by rw[Nat.zero_add,<-hl.Gx hlt' true];exact h3)
   have hun:kY i done=false:=by
    rw[<-hl.Gx hlt true];exact(mem_ready.1 hr).1
   have aaU:yL ops done i o 0 ops=true-> ∀j oj,ops.toArray[j]? =some oj->j≠i->listed.getD j true=false-> ∀d,oj.dst=some d->d ∉ o.looksAt ops.toArray:=by
    intro hbl j oj h1 h2 h3;have h1':ops[j]? =some oj:=by simpa using h1
    have hlt':j<ops.length:=(List.getElem?_eq_some_iff.1 h1').1;exact HY hbl j oj h1' (by omega) (by rw[Nat.zero_add,<-hl.Gx hlt' true];exact h3)
   have sV:Closed U (listed.setIfInBounds i true):=by
    intro k l hk hll p hp;by_cases hki:k=i
    ·subst hki;exact getD_set_true (EY hU k l listed hk hC hr p hp)
    ·rw[getD_set_ne false (Ne.symm hki)]at hll;exact getD_set_true (hC k l hk hll p hp)
   have hal:∀p,alive T (listed.setIfInBounds i true) p->alive T listed p:=λ p hp k l hk hll=>hp k l hk (getD_set_true hll);have hal2:∀p,alive T listed p->alive T (listed.setIfInBounds i true) p:=λ p hp k l hk hll=>by
    by_cases hki:k=i
    ·subst hki;exact(hT' l hk).elim
    ·rw[getD_set_ne false (Ne.symm hki)]at hll;exact hp k l hk hll
   have unl:∀k,(listed.setIfInBounds i true).getD k true=false->listed.getD k true=false:=by
    intro k hk;by_cases hki:i=k
    ·subst hki;have hsz:i<listed.size:=by rw[hl.1];exact hlt
     simp[hsz]at hk
    ·rw[getD_set_ne true hki]at hk;exact hk
   have abV:∀k,kY k (i::done)=false->kY k done=false:=by
    intro k hk;simp only[kY,Bool.or_eq_false_iff]at hk;exact hk.2
   have step:∀(v:Value)(pu:Bool)(pl':List Nat)(ρ':Nat->Value)(st':AS),YieldsAt P ops.toArray o v a w->(pu=true->Yields P ops.toArray o v a)->(∀p∈pl,p∈pl')->(pu=false->i∈pl'/\lS o.op=true/\yL ops done i o 0 ops=true/\ ∃d,o.dst=some d/\d<N)->(∀p∈pl',∃o,ops[p]? =some o/\lS o.op=true)->Rel g N bs ρ' (a.put o.dst v) w st'->uF P L W N ops kp Q r pl' st'->jq P ops.toArray E T (r.length+1) listed pend a w:=by
    intro v pu pl' ρ' st' hy hpu hsub hin hq' R' h';refine JB UU hsel (λ c a w h=>absurd h (hE _ _ _ (by simp))) hT' hTU (λ k l listed hk hC hr=>EY hU k l listed hk hC hr) pu r.length listed pend a w hfree Wj hr hC hB hO hy hpu ?_;have hB':Hw ops.toArray (listed.setIfInBounds i true) (OV pu (i,v) pend):=by
     intro p hp o' ho' k ok hk hku d hd;have abW:=unl k hku;have hki:k≠i:=by
      rintro rfl;have hsz:k<listed.size:=by rw[hl.1];exact hlt
      simp[hsz]at hku
     have old:p∈pend->d ∉ o'.looksAt ops.toArray:=λ hp=>hB p hp o' ho' k ok hk abW d hd;cases wo:pu with
     |true=>rw[wo]at hp;exact old hp
     |false=>
      rw[wo]at hp;rcases List.mem_cons.1 hp with rfl|hp
      ·dsimp only at ho';rw[UU]at ho';cases ho';exact aaU (hin wo).2.2.1 k ok hk hki abW d hd
      ·exact old hp
    have hS':Slots ops (i::done) (OV pu (i,v) pend) (a.put o.dst v):=by
     intro p hp;have old:p∈pend-> ∃o' d,ops[p.1]? =some o'/\lS o'.op=true/\o'.dst=some d/\(a.put o.dst v).tmps.getD d undef=p.2/\ ∀k ok,ops[k]? =some ok->kY k (i::done)=false->ok.dst≠some d:=by
      intro hp;obtain⟨o',d,h1,h2,h3,h4,h5⟩:=hS p hp;refine⟨o',d,h1,h2,h3, ?_,λ k ok hk hkd=>h5 k ok hk (abV k hkd)⟩;rw[CS λ t ht e=>h5 i o ho hun (by rw[ht,e])];exact h4
     cases wo:pu with
     |true=>rw[wo]at hp;exact old hp
     |false=>
      rw[wo]at hp;rcases List.mem_cons.1 hp with rfl|hp
      ·obtain⟨_,hq,_,d,hd,hdN⟩:=hin wo;refine⟨o,d,ho,hq,hd, ?_,λ k ok hk hkd=> ?_⟩
       ·rw[hd];have:d<a.tmps.size:=by rw[R.size];exact hdN
        simp[Act.put,this]
       ·have hlt':k<ops.length:=(List.getElem?_eq_some_iff.1 hk).1;have hki:k≠i:=by
         rintro rfl;simp[kY]at hkd
        exact(hfree k ok (by simpa using hk) hki (by rw[hl.Gx hlt' true];exact abV k hkd)).1 d hd
      ·exact old hp
    have hO':QJ P ops.toArray T (listed.setIfInBounds i true) (OV pu (i,v) pend) (a.put o.dst v) w:=by
     intro p hp hap o' ho';have old:p∈pend->YieldsAt P ops.toArray o' p.2 (a.put o.dst v) w:=λ hp=>
      (YieldsAt.put (λ cs b=>hsel _ _ cs b ho') λ d hd=>hB p hp o' ho' i o UU (mem_ready.1 hr).1 d hd).2 (hO p hp (hal _ hap) o' ho')
     cases wo:pu with
     |true=>rw[wo]at hp;exact old hp
     |false=>
      rw[wo]at hp;rcases List.mem_cons.1 hp with rfl|hp
      ·dsimp only at ho';rw[UU]at ho';cases ho';exact(YieldsAt.put (λ cs b=>hsel _ _ cs b UU) Wj).2 hy
      ·exact old hp
    refine ih (λ k l hk=>hTs k l (List.mem_cons_of_mem _ hk)) hrest (hl.set hlt) sV hB' hS' hO' ?_ hq' R' h';intro p hp hap;have old:p∈pend->p.1∈pl':=λ hp=>hsub _ (hpl p hp (hal _ hap));cases wo:pu with
    |true=>rw[wo]at hp;exact old hp
    |false=>
     rw[wo]at hp;rcases List.mem_cons.1 hp with rfl|hp
     ·exact(hin wo).1
     ·exact old hp
   split at h
   ·rename_i hw;have hwant:=lG R hw;split at h
    ·rename_i hpu;have go:∀d,Qy P L W d st o.op (λ x st'=>pI N st' o.dst x (uF P L W N ops kp Q r pl))->jq P ops.toArray E T (r.length+1) listed pend a w:=by
      intro d hd;obtain⟨x,u,st',ρ',h1,R1,h2,h3⟩:=LK hL R hpu hd;obtain⟨st2,k2,R2⟩:=iV R1 h2 h1;exact step u true pl _ st2 (.inl ⟨hwant,h3 w⟩) (λ _=> .inl ⟨hwant,h3⟩) (λ _ h=>h) (λ e=>by cases e) hpq R2 k2
     unfold zJ at h;cases hd:o.dst with
     |none=>rw[hd]at h;dsimp only at h;exact go 0 (by rw[hd];exact h)
     |some d=>rw[hd]at h;dsimp only at h;exact go d (by rw[hd];exact h)
    ·rename_i hnp;have acL:yL ops done i o 0 ops=true:=by
      rcases Bool.or_eq_true _ _▸hbl with h1|h1
      ·rw[LX h1 L st]at hnp;cases hnp
      ·exact h1
     cases hq:lS o.op with
     |false=>rw[hq]at h;exact h.elim
     |true=>
     rw[hq]at h;dsimp only at h;unfold zJ at h;cases hd:o.dst with
     |none=>
      rw[hd]at hself;cases hself
     |some d=>
      rw[hd]at h;dsimp only at h;obtain⟨x,u,h1,h2,h3⟩:=xC hL R (o:=o) hq h;have hdN:d<N:=by
       unfold pI at h1;dsimp only at h1;cases hb:Nat.ble (d+1) N with
       |false=>rw[hb]at h1;exact h1.elim
       |true=>exact Nat.le_of_ble_eq_true hb
      obtain⟨st2,k2,R2⟩:=iV R h2 h1;exact step u false (i::pl) ρ st2 (.inl ⟨hwant,h3⟩) (λ e=>by cases e) (λ _ h=>List.mem_cons_of_mem _ h) (λ _=>⟨List.mem_cons_self,hq,acL,d,hd,hdN⟩) (λ p hp=>by
       rcases List.mem_cons.1 hp with rfl|hp
       ·exact⟨o,ho,hq⟩
       ·exact hpq p hp) (by rw[hd];exact R2) k2
   ·rename_i hw;have hwant:=lG R hw;obtain⟨st2,k2,R2⟩:=iV R (show C2 (aB g w ρ st.heap) (.v undef) undef from rfl) h;exact step undef true pl ρ st2 (.inr ⟨hwant,rfl⟩) (λ _=> .inr ⟨hwant,rfl⟩) (λ _ h=>h) (λ e=>by cases e) hpq R2 k2
   ·exact h.elim
  ·cases hi
 |(i,some l)::r,done,listed,pend,pl,ρ,a,w,st,hTs,E5,hl,hC,hB,hS,hO,hpl,hpq,R,h=>by
  have ih:= @EZ hL W hW ops hs kp Q E hE hQ T U hTU hU r;simp only[OW,Bool.and_eq_true]at E5;obtain⟨hi,hrest⟩:=E5;have e:=Wi hi;have hr:i∈Region.ready .any ops.toArray listed:=(kZ hl).2 (by rw[e];exact List.mem_cons_self);refine⟨λ h0=>(by rw[h0]at hr;cases hr),λ j hj=> ?_⟩;have hji:j=i:=by
   have:=(kZ hl).1 hj;rw[e]at this;exact List.mem_singleton.1 this
  subst hji;simp only[uF]at h;split at h
  ·rename_i o ho;have hlt:j<ops.length:=(List.getElem?_eq_some_iff.1 ho).1;have UU:ops.toArray[j]? =some o:=by simpa using ho
   have hsel:=Region.noSelect_spec hs;have hun:kY j done=false:=by
    rw[<-hl.Gx hlt true];exact(mem_ready.1 hj).1
   have hjT:(j,l)∈T:=hTs j l List.mem_cons_self;have sV:Closed U (listed.setIfInBounds j true):=by
    intro k l hk hll p hp;by_cases hki:k=j
    ·subst hki;exact getD_set_true (EY hU k l listed hk hC hr p hp)
    ·rw[getD_set_ne false (Ne.symm hki)]at hll;exact getD_set_true (hC k l hk hll p hp)
   have hB':Hw ops.toArray (listed.setIfInBounds j true) pend:=by
    intro p hp o' ho' k ok hk hku d hd;refine hB p hp o' ho' k ok hk ?_ d hd;by_cases hki:j=k
    ·subst hki;exact(mem_ready.1 hj).1
    ·rw[getD_set_ne true hki]at hku;exact hku
   have hsz:j<listed.size:=by rw[hl.1];exact hlt
   have hal:∀p,alive T (listed.setIfInBounds j true) p->alive T listed p/\p ∉ l:=λ p hp=>⟨λ k l hk hll=>hp k l hk (getD_set_true hll),hp j l hjT (by simp[hsz])⟩;have fin0:∀(u:Value)(ρ':Nat->Value)(w':World)(st':AS),Rel g N bs ρ' (a.put o.dst u) w' st'->(∀p∈outOf l pl,∀o2 d,ops[p]? =some o2->o2.dst=some d->(∀v,(execOp a.eval o2).run P w= .ok (.value v) w->v=(a.put o.dst u).tmps.getD d undef->(execOp (a.put o.dst u).eval o2=execOp a.eval o2)->(execOp (a.put o.dst u).eval o2).run P w'= .ok (.value v) w'))->uF P L W N ops kp Q r (outOf l pl) st'->QJ P ops.toArray T (listed.setIfInBounds j true) pend (a.put o.dst u) w'/\jq P ops.toArray E T r.length (listed.setIfInBounds j true) pend (a.put o.dst u) w':=by
    intro u ρ' w' st' R' hre hK;have acM:∀p∈outOf l pl,∃o,ops[p]? =some o/\lS o.op=true:=λ p hp=>hpq p (xH hp);have hS':Slots ops (j::done) pend (a.put o.dst u):=by
     intro p hp;obtain⟨o',d,h1,h2,h3,h4,h5⟩:=hS p hp;refine⟨o',d,h1,h2,h3, ?_,λ k ok hk hkd=>h5 k ok hk ?_⟩
     ·rw[CS λ t ht e=>h5 j o ho hun (by rw[ht,e])];exact h4
     ·simp only[kY,Bool.or_eq_false_iff]at hkd;exact hkd.2
    have hin:∀p∈pend,alive T (listed.setIfInBounds j true) p.1->p.1∈outOf l pl:=λ p hp hap=>BF (hpl p hp (hal _ hap).1) (hal _ hap).2;have hO':QJ P ops.toArray T (listed.setIfInBounds j true) pend (a.put o.dst u) w':=by
     intro p hp hap o' ho';have ho2:ops[p.1]? =some o':=by simpa using ho'
     obtain⟨o3,d3,q1,q2,q3,q4,q5⟩:=hS' p hp;rw[ho2]at q1;obtain rfl:o'=o3:=by simpa using q1
     have:=hO p hp (hal _ hap).1 o' ho';have hd':∀d,o.dst=some d->d ∉ o'.looksAt ops.toArray:=λ d hd=>hB p hp o' ho' j o UU (mem_ready.1 hj).1 d hd;have hw':=wanted_put (ops:=ops.toArray) o' a o.dst u hd';have he':=execOp_put (ops:=ops.toArray) o' (λ cs b=>hsel _ _ cs b ho') a o.dst u hd';rcases this with⟨h1,h2⟩|⟨h1,h2⟩
     ·exact .inl ⟨by rw[hw'];exact h1,hre p.1 (hin p hp hap) o' d3 ho2 q3 _ h2 q4.symm he'⟩
     ·exact .inr ⟨by rw[hw'];exact h1,h2⟩
    exact⟨hO',ih (λ k l hk=>hTs k l (List.mem_cons_of_mem _ hk)) hrest (hl.set hlt) sV hB' hS' hO' hin acM R' hK⟩
   have abX:∀(u:Value)(ρ':Nat->Value)(w':World)(st':AS)(l':List Nat){K:Prop},Rel g N bs ρ' (a.put o.dst u) w' st'->(∀p∈l',p∈outOf l pl)->Gy P L W N ops l' st' K->K/\ ∀p∈l',∀o2 d,ops[p]? =some o2->o2.dst=some d->(∀v,(execOp a.eval o2).run P w= .ok (.value v) w->v=(a.put o.dst u).tmps.getD d undef->(execOp (a.put o.dst u).eval o2=execOp a.eval o2)->(execOp (a.put o.dst u).eval o2).run P w'= .ok (.value v) w'):=by
    intro u ρ' w' st' l' K R' hsub hk;obtain⟨hK,hre⟩:=QL hL R' (λ p hp=>hpq p (xH (hsub p hp))) hk;refine⟨hK,λ p hp o2 d h1 h2 v _ h4 _=> ?_⟩;obtain⟨o3,d3,k1,k2,k3⟩:=hre p hp;rw[h1]at k1;obtain rfl:o2=o3:=by simpa using k1
    rw[h2]at k2;obtain rfl:d=d3:=by simpa using k2
    rw[k3,h4]
   have fin:∀(u:Value)(ρ':Nat->Value)(w':World)(st':AS),Rel g N bs ρ' (a.put o.dst u) w' st'->Gy P L W N ops (outOf l pl) st' (uF P L W N ops kp Q r (outOf l pl) st')->QJ P ops.toArray T (listed.setIfInBounds j true) pend (a.put o.dst u) w'/\jq P ops.toArray E T r.length (listed.setIfInBounds j true) pend (a.put o.dst u) w':=by
    intro u ρ' w' st' R' hk;obtain⟨hK,hre⟩:=abX u ρ' w' st' _ R' (λ p hp=>hp) hk;exact fin0 u ρ' w' st' R' hre hK
   have abY:∀(u:Value)(ρ':Nat->Value)(w':World)(st':AS),Rel g N bs ρ' (a.put o.dst u) w' st'->Below w.heap.size w w'->Gy P L W N ops (uD L st ops (outOf l pl)) st' (uF P L W N ops kp Q r (outOf l pl) st')->QJ P ops.toArray T (listed.setIfInBounds j true) pend (a.put o.dst u) w'/\jq P ops.toArray E T r.length (listed.setIfInBounds j true) pend (a.put o.dst u) w':=by
    intro u ρ' w' st' R' hBw hk;obtain⟨hK,hre⟩:=abX u ρ' w' st' _ R' (λ p hp=>yP hp) hk;refine fin0 u ρ' w' st' R' (λ p hp o2 d h1 h2 v h3 h4 h5=> ?_) hK;rcases yO (L:=L) (st:=st) (ops:=ops) hp with hkp|hnk
    ·unfold LW at hkp;rw[h1]at hkp;obtain⟨v',hv'⟩:=SK (P:=P) hL R (o:=o2) hkp;have e1:=hv' w (Below.refl _ _);rw[e1]at h3;have e2:v'=v:=by simpa using h3
     rw[h5,hv' w' hBw,e2]
    ·exact hre p hnk o2 d h1 h2 v h3 h4 h5
   unfold wpOp;rw[UU];dsimp only;cases kp with
   |true=>
    dsimp only at h;unfold aak at h;split at h
    ·rename_i hw;rw[lG R hw];simp only[if_true];refine .inl ?_;split at h
     ·rename_i c ec;split at h
      ·rename_i x ex;split at h
       ·rename_i gg caps ev;rw[jg]at h;refine SL R ec ex ev h ?_;intro x st' u ρ' w' hx R' hc hBw;obtain⟨st2,h2,R2⟩:=iV R' hc hx;exact abY u ρ' w' st2 R2 hBw h2
       ·exact h.elim
      ·exact h.elim
     ·exact h.elim
    ·rename_i hw;rw[lG R hw];simp only[Bool.false_eq_true,if_false];obtain⟨st2,k2,R2⟩:=iV R (show C2 (aB g w ρ st.heap) (.v undef) undef from rfl) h;exact abY undef ρ w st2 R2 (Below.refl _ _) k2
    ·exact h.elim
   |false=>
    dsimp only at h;unfold sU at h;split at h
    ·rename_i hw;rw[lG R hw];simp only[if_true];refine .inl ?_;have go:∀d,Qy P L W d st o.op (λ x st'=>pI N st' o.dst x (λ st'=>Gy P L W N ops (outOf l pl) st' (uF P L W N ops false Q r (outOf l pl) st')))->o.wp P a w (λ a' w'=>QJ P ops.toArray T (listed.setIfInBounds j true) pend a' w'/\jq P ops.toArray E T r.length (listed.setIfInBounds j true) pend a' w') E:=by
      intro d hd;refine Jv hL hW R (d:=d) hd ?_;intro x st' u ρ' w' hx R' hc;obtain⟨st2,h2,R2⟩:=iV R' hc hx;exact fin u ρ' w' st2 R2 h2
     unfold zJ at h;cases hd:o.dst with
     |none=>rw[hd]at h;dsimp only at h;exact go 0 (by rw[hd];exact h)
     |some d=>rw[hd]at h;dsimp only at h;exact go d (by rw[hd];exact h)
    ·rename_i hw;rw[lG R hw];simp only[Bool.false_eq_true,if_false];obtain⟨st2,k2,R2⟩:=iV R (show C2 (aB g w ρ st.heap) (.v undef) undef from rfl) h;exact fin undef ρ w st2 R2 k2
    ·exact h.elim
  ·exact h.elim
theorem kG.Wn(kp:Bool)(hL:bQ P L){W:Walk}(hW:KD P W)(sc:List (Nat×Option (List Nat)))(U:List (Nat×List Nat)){id:Nat}{ops:Array Oper}{K:AS->Prop}{st:AS}(hm:P.follows .mixedOrders=true)(hs:(Region.noSelect ops&&Nat.beq sc.length ops.size&&BD ops.toList sc U)=true)
  (h:uF P L W N ops.toList kp K sc [] st):kG P L W N id ops K st:=by
 refine .sem λ g bs ρ a w E R hK=> ?_;simp only[Bool.and_eq_true,BD]at hs;obtain⟨⟨hns,hlen⟩,⟨hU,hTU⟩,E5⟩:=hs;refine Code.wp_mono (Q:=λ e a w=>e= .normal/\E .normal a w) (λ e a w h=>by obtain⟨rfl,h⟩:=h;exact h) ?_;have e1:ops.size=ops.toList.length:=by simp
 refine wp_region_any hm ?_;have hl:VZ ops.toList.length [] (Array.replicate ops.size false):=by
  refine⟨by simp,λ k hk=> ?_⟩;rw[Array.getElem?_replicate,if_pos (by rw[e1];exact hk)];rfl
 have hnone:∀k,(Array.replicate ops.size false).getD k false=false:=by
  intro k;rw[Array.getD_eq_getD_getElem?,Array.getElem?_replicate];split<;>rfl
 have R':Rel g N bs ρ a w.drew st:=R.world (Below.refl _ _).drew;have:=EZ (g:=g) (bs:=bs) (N:=N) hL hW (ops:=ops.toList) (by simpa using hns) (Q:=K) (E:=λ e a w=>e= .normal/\E .normal a w) (λ e a w hne h=>hne h.1) (λ ρ a w st R h=>⟨rfl,hK ρ a w st R h⟩) (YX hTU) hU sc (pend:=[]) (pl:=[])
  (λ k l h=>yN h) E5 hl (λ k l hk hll=>by rw[hnone]at hll;cases hll) (λ p hp=>by cases hp) (λ p hp=>by cases hp) (λ p hp=>by cases hp) (λ p hp=>by cases hp) (λ p hp=>by cases hp) R' h
 have h3:=this.any;have e2:sc.length=ops.size:=Nat.eq_of_beq_eq_true hlen;rw[e2]at h3;simpa using h3
theorem kG.sched(hL:bQ P L){W:Walk}(hW:KD P W)(sc:List (Nat×Option (List Nat)))(U:List (Nat×List Nat)){id:Nat}{ops:Array Oper}{K:AS->Prop}{st:AS}(hm:P.follows .mixedOrders=true)(hs:(Region.noSelect ops&&Nat.beq sc.length ops.size&&BD ops.toList sc U)=true)
 (h:uF P L W N ops.toList false K sc [] st):kG P L W N id ops K st:= .Wn false hL hW sc U hm hs h
theorem kG.keep(hL:bQ P L){W:Walk}(hW:KD P W)(sc:List (Nat×Option (List Nat)))(U:List (Nat×List Nat)){id:Nat}{ops:Array Oper}{K:AS->Prop}{st:AS}(hm:P.follows .mixedOrders=true)(hs:(Region.noSelect ops&&Nat.beq sc.length ops.size&&BD ops.toList sc U)=true)
 (h:uF P L W N ops.toList true K sc [] st):kG P L W N id ops K st:= .Wn true hL hW sc U hm hs h
end
end Go.Proofs.YtopfgjgdadnjeaaGreat
