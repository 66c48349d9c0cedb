/-
  Contracts of the walk:AmC.
-/
import Derived.Test.YtimhagicagdkfaaGreatNi3
import Derived.Orders
set_option maxHeartbeats 16000000
set_option maxRecDepth 100000
set_option linter.unusedVariables false
set_option linter.unusedSimpArgs false
namespace Go.Proofs.YtimhagicagdkfaaGreat
section
open Go.RowKit
def adv (k:Nat):AO→AV
  | .box .. => .box k 0
  | .row .. => .own k
  | .mp .. => .own k
  | .obs _=> .own k
  | .rn .. => .own k
def DZ:Nat→List (Nat×AO)→List (Nat×AV)
  |_,[]=>[]
  |n,(k,o)::l=>(n,adv k o)::DZ (n+1) l
def Qi (cu:List AV) (hin:List (Nat×AO)) (base:Nat):AS:=⟨zO 0 cu,hin,[DZ 0 hin],base⟩
def KD:AO→Bool
  | .box .. =>false
  | .row .. =>false
  | .mp .. =>true
  | .obs _=>true
  | .rn .. =>false
def abB (k:Nat) (o:AO) (hout:List (Nat×AO)):Bool:=match aP k hout with|some o'=>KD o==KD o'|none=>true
def E5 (hout:List (Nat×AO)) (back:List (List (Nat×AV))):Nat→List (Nat×AO)→Bool
  |_,[]=>true
  | n,(k,o)::l=>(!(gG k hout)||(abB k o hout&&match back,o with
    |[f],.box .. =>(match qK f n with| .box i j=>Nat.beq i k&&Nat.beq j 0|_=>false)
    |[f],.row .. =>(match qK f n with| .own i=>Nat.beq i k|_=>false)
    |[f],.mp .. =>(match qK f n with| .own i=>Nat.beq i k|_=>false)
    |[f],.obs _=>(match qK f n with| .own i=>Nat.beq i k|_=>false)
    |[f],.rn .. =>(match qK f n with| .own i=>Nat.beq i k|_=>false)
    |_,_=>false))&&E5 hout back (n+1) l
def E8 (h hout:List (Nat×AO)):AV→AV
  | .own i=>bif gG i hout then .own i else Hr h (.own i)
  | .box i k=>bif gG i hout then .box i k else .junk
  | .dP i s j k=>bif gG i hout then .dP i s j k else .junk
  | .ji i s j k=>bif gG i hout then .ji i s j k else .junk
  | .v x=> .v x
  | .sl s n sc f=> .sl s n sc f
  |_=> .junk
def Xw (h hout:List (Nat×AO)):AV→AV
  | .agg cs=> .agg (cs.map (E8 h hout))
  |x=>E8 h hout x
def Xx (h hout:List (Nat×AO)):AV→AV
  | .dL vs=> .dL (vs.map (Xw h hout))
  |x=>Xw h hout x
structure KE (hin:List (Nat×AO)) (σ:List (Nat×Nat)) (st:AS) (x r:AV) (hout:List (Nat×AO)):Prop where
 nd:nodupB (σ.map (·.2))=true
 fx:E5 hout (st.ren σ).back 0 hin=true
 hp:ZU (st.ren σ) hout
 hn:nodupB (hout.map (·.1))=true
 hc:jQ hout hout=true
 hr:aT (Xx (st.ren σ).heap hout (BD σ x)) r
def Xy (L:Lay) (fn:Func) (hin:List (Nat×AO)) (r:AV) (hout:List (Nat×AO)):jE→AS→Prop
  | .normal,st=>l9 L st fn.results.toList (fun x=> ∃σ,KE hin σ st x r hout)
  | .ret,st=>l9 L st fn.results.toList (fun x=> ∃σ,KE hin σ st x r hout)
  | .exit _,_=>False
section
variable {P:Program} {L:Lay} {g:Base} {N:Nat} {bs:List (Array Value)} {ρ:Nat→Value} {a:Act} {w:World} {st:AS}
def nR (ρ:Nat→Value):List (Nat×AO)→List Value
  |[]=>[]
  |(k,_)::l=>dZ (ρ k)::nR ρ l
theorem Nu {X:CX}: ∀ {hin:List (Nat×AO)} {n:Nat} {pre:List Value},pre.length=n→(∀p∈hin,aZ X p.1 p.2)→ ∀t,C2 X (qK (DZ n hin) t) ((pre++nR X.ρ hin).toArray.getD t undef)
  |[],n,pre,_,_,t=>trivial
  | (k,o)::l,n,pre,hp,ho,t=>by
    have ih:=Nu (X:=X) (hin:=l) (n:=n+1) (pre:=pre++[dZ (X.ρ k)]) (by simp[hp]) (fun p hp=>ho p (List.mem_cons_of_mem _ hp)) t
    simp only[DZ,qK]
    cases hb:Nat.beq t n with
    | true=>
      have e:=Nat.eq_of_beq_eq_true hb
      have ev:(pre++nR X.ρ ((k,o)::l)).toArray.getD t undef=dZ (X.ρ k):=by
       simp[nR,e,←hp]
      simp only[cond_true]
      rw[ev]
      have h0:=ho (k,o) List.mem_cons_self
      cases o with
      |box ty cs=>obtain⟨b,us,e',_⟩:=h0;exact⟨b,by rw[e'];rfl,by rw[e'];rfl⟩
      |row=>exact rfl
      |mp=>exact rfl
      |obs=>exact rfl
      |rn=>exact rfl
    | false=>
      simp only[cond_false]
      have e3:pre++nR X.ρ ((k,o)::l)=pre++[dZ (X.ρ k)]++nR X.ρ l:=by simp[nR]
      rw[e3]
      exact ih
theorem aZ.dL {X:CX} {k:Nat} {o:AO} (h:aZ X k o):(KD o=true→ ∃us,X.ρ k= .tuple us)∧(KD o=false→dZ (X.ρ k)=X.ρ k):=by
 cases o with
 |box t cs=>obtain⟨b,us,e,_⟩:=h;exact⟨fun h=>(by cases h),fun _=>by rw[e];rfl⟩
 |row e s n sc f=>exact⟨fun h=>(by cases h),fun _=>zK h⟩
 |mp t ks rs=>obtain⟨b,es,c,vs,hs,e,_⟩:=h;exact⟨fun _=>⟨_,e⟩,fun h=>(by cases h)⟩
 |obs o=>obtain⟨us,e,_⟩:=h;exact⟨fun _=>⟨_,e⟩,fun h=>(by cases h)⟩
 |rn e cs=>obtain⟨us,⟨hown,_⟩,_⟩:=h;exact⟨fun h=>(by cases h),fun _=>fQ hown⟩
theorem kind_eq {X Y:CX} {k:Nat} {o o':AO} (h:aZ X k o) (h':aZ Y k o') (hk:KD o=KD o') (e:dZ (Y.ρ k)=dZ (X.ρ k)):zJ (Y.ρ k) (X.ρ k):=by
 cases hb:KD o with
 |true=>exact .inr ⟨h'.dL.1 (hk▸hb),h.dL.1 hb,e⟩
 | false=>
   rw[h.dL.2 hb,h'.dL.2 (hk▸hb)]at e
   exact .inl e
theorem Nv {X Y:CX} {hout:List (Nat×AO)} {back:List (List (Nat×AV))}: ∀ {hin:List (Nat×AO)} {n:Nat} {pre:List Value} {vs:List Value},pre.length=n→vs=pre++nR Y.ρ hin→(∀p∈hin,aZ Y p.1 p.2)→(∀p∈hin,gG p.1 hout=true→ ∃o,aP p.1 hout=some o∧aZ X p.1 o)→lS X back [vs.toArray]→E5 hout back n hin=true→ ∀p∈hin,gG p.1 hout=true→zJ (X.ρ p.1) (Y.ρ p.1)
  |[],_,_,_,_,_,_,_,_,_,p,hp,_=>by cases hp
  | (k, o) :: l,n,pre,vs,hlen,hvs,kL,ql,hbk,hf,p,hp,hn=>by
    simp only[E5,Bool.and_eq_true,Bool.or_eq_true,Bool.not_eq_true']at hf
    rcases List.mem_cons.1 hp with rfl|hp
    · rcases hf.1 with h|⟨hkb,h⟩
      · rw[h]at hn;cases hn
      · have ev:vs.toArray.getD n undef=dZ (Y.ρ k):=by
         rw[hvs];simp[nR,←hlen]
        obtain⟨o',ho',hok'⟩:=ql _ List.mem_cons_self hn
        have hok:=kL _ List.mem_cons_self
        have hkk:KD o=KD o':=by
         unfold abB at hkb
         rw[ho']at hkb
         exact eq_of_beq hkb
        refine kind_eq hok hok' hkk ?_
        match back,hbk,h with
        | [f],hbk,h=>
          have h2:=hbk.1 n
          rw[ev]at h2
          have own:(match qK f n with| .own i=>Nat.beq i k|_=>false)=true→dZ (X.ρ k)=dZ (Y.ρ k):=by
           intro h
           split at h
           · rename_i i e
             rw[e]at h2
             have e1:=Nat.eq_of_beq_eq_true h
             subst e1
             exact(C2.jR h2).symm
           · cases h
          cases o with
          | box t cs=>
            dsimp only at h
            split at h
            · rename_i i j e
              rw[e]at h2
              simp only[Bool.and_eq_true]at h
              have e1:=Nat.eq_of_beq_eq_true h.1
              have e2:=Nat.eq_of_beq_eq_true h.2
              subst e1 e2
              obtain⟨b,h3,h4⟩:=C2.kJ h2
              exact h3.trans h4.symm
            · cases h
          |row=>exact own h
          |mp=>exact own h
          |obs=>exact own h
          |rn=>exact own h
        |[],hbk,h=>exact hbk.elim
        |_::_::_,hbk,h=>exact hbk.2.elim
    · exact Nv (pre:=pre++[dZ (Y.ρ k)]) (vs:=vs) (by simp[hlen]) (by rw[hvs];simp[nR]) (fun p hp=>kL p (List.mem_cons_of_mem _ hp)) (fun p hp=>ql p (List.mem_cons_of_mem _ hp)) hbk hf.2 p hp hn
theorem Qj {h:List (Nat×AO)} (hn:(h.map (·.1)).Nodup): ∀p∈h,aP p.1 h=some p.2:=by
 induction h with
 |nil=>intro p hp;cases hp
 | cons q h ih=>
   intro p hp
   have hn':=List.nodup_cons.1 hn
   simp only[aP]
   rcases List.mem_cons.1 hp with rfl|hp
   · simp
   · have:Nat.beq q.1 p.1=false:=by
      rw[Bool.eq_false_iff]
      intro e
      exact hn'.1 (List.mem_map.2 ⟨p,hp,(Nat.eq_of_beq_eq_true e).symm⟩)
     rw[this]
     exact ih hn'.2 p hp
theorem sJ {k:Nat→Prop} (hk: ∀b,aI g w ρ st.heap b→k b) {hout:List (Nat×AO)} {x:AV} {u:Value} (hr: ∀i,gG i hout=false→Reads st ρ w k (.own i)) (h:C0 (aB g w ρ st.heap) x u):C0 ⟨w,k,ρ⟩ (E8 st.heap hout x) u:=by
 cases x with
 | own i=>
   simp only[E8]
   cases hb:gG i hout with
   |true=>exact h
   | false=>
     have:=xA hk (hr i hb) h
     revert this
     simp only[Hr,cond_false]
     cases aP i st.heap with
     |none=>exact fun h=>h
     |some o=>cases o<;>exact fun h=>h
 | box i j=>
   simp only[E8]
   cases gG i hout with
   |true=>exact h
   |false=>trivial
 | dP i s j m=>
   simp only[E8]
   cases gG i hout with
   |true=>exact h
   |false=>trivial
 | ji i s j m=>
   simp only[E8]
   cases gG i hout with
   |true=>exact h
   |false=>trivial
 |v y=>exact h
 |sl s n sc f=>exact PC.mono hk (fun _ _=>rfl) h
 |_=>trivial
theorem qm {k:Nat→Prop} (hk: ∀b,aI g w ρ st.heap b→k b) {hout:List (Nat×AO)} {x:AV} {u:Value} (hr: ∀i,gG i hout=false→Reads st ρ w k (.own i)) (h:C1 (aB g w ρ st.heap) x u):C1 ⟨w,k,ρ⟩ (Xw st.heap hout x) u:=by
 cases x with
 | agg cs=>
   obtain⟨us,rfl,ha⟩:=h
   exact⟨us,rfl,ha.l7 fun _ _=>sJ hk hr⟩
 |own i=>exact C1.su (sJ hk hr (x:= .own i) h)
 |box i j=>exact C1.su (sJ hk hr (x:= .box i j) h)
 |dP i s j m=>exact C1.su (sJ hk hr (x:= .dP i s j m) h)
 |ji i s j m=>exact C1.su (sJ hk hr (x:= .ji i s j m) h)
 |v y=>exact h
 |sl s n sc f=>exact C1.su (sJ hk hr (x:= .sl s n sc f) h)
 |_=>trivial
theorem Xz {k:Nat→Prop} (hk: ∀b,aI g w ρ st.heap b→k b) {hout:List (Nat×AO)} {x:AV} {u:Value} (hr: ∀i,gG i hout=false→Reads st ρ w k (.own i)) (h:C2 (aB g w ρ st.heap) x u):C2 ⟨w,k,ρ⟩ (Xx st.heap hout x) u:=by
 cases x with
 | dL vs=>
   obtain⟨us,rfl,ha⟩:=h
   exact⟨us,rfl,ha.l7 fun _ _=>qm hk hr⟩
 |agg cs=>exact C2.jL (qm hk hr (x:= .agg cs) h)
 |own i=>exact C2.jL (qm hk hr (x:= .own i) h)
 |box i j=>exact C2.jL (qm hk hr (x:= .box i j) h)
 |dP i s j m=>exact C2.jL (qm hk hr (x:= .dP i s j m) h)
 |ji i s j m=>exact C2.jL (qm hk hr (x:= .ji i s j m) h)
 |v y=>exact h
 |sl s n sc f=>exact C2.jL (qm hk hr (x:= .sl s n sc f) h)
 |_=>trivial
theorem Sl {st:AS}: ∀ {h:List (Nat×AO)},ZU st h→ ∀p∈h,∃o,aP p.1 st.heap=some o∧cO o p.2
  |[],_,p,hp=>by cases hp
  | q::l,h,p,hp=>by
    rcases List.mem_cons.1 hp with rfl|hp
    · exact h.1
    · exact Sl h.2 p hp
theorem XA (hL:bQ P L) (lv base:Nat) {f:FuncId} {fn:Func} {c:Code} {hin:List (Nat×AO)} {cu:List AV} {r:AV} {hout:List (Nat×AO)} (hf:P.funcs[f]? =some fn) (hn:(fn.name== "runtime.NumGoroutine")=false) (hb:fn.body=some c) (hsz:Nat.ble cu.length fn.ntmps=true)
  (h:yC P L 9 fn.ntmps lv c (Xy L fn hin r hout) (Qi cu hin base)):aW P f hin cu r hout:=by
 refine⟨⟨fn,c,hf,hn,hb⟩,fun w keep ρ args hkeep kL hnd hin' hargs=> ?_⟩
 have hsz:=Nat.le_of_ble_eq_true hsz
 have hlen:args.length=cu.length:=hargs.1.symm
 refine calls_of_wp hf hb ?_
 let g:Base:=(gU w keep (fun b=>b∈ah ρ hin))
 have hk0: ∀b,keep b→aI g w ρ hin b:=fun b hb=>⟨hkeep b hb,fun _=> .inl hb,fun h=>(hin' b h).2 hb⟩
 have yS:aF (C2 (aB g w ρ hin)) cu args:=hargs.imp fun _ _ h=>C2.jL (C1.same (X:=⟨w,keep,ρ⟩) (Y:=aB g w ρ hin) hk0 (fun _ _=>rfl) rfl h)
 have abC: ∀p∈hin,aZ (aB g w ρ hin) p.1 p.2:=fun p hp=>by
  exact aZ.same (X:=⟨w,keep,ρ⟩) (Y:=aB g w ρ hin) hk0 (fun _ _=>rfl) rfl (fun _ _=>rfl) (kL p hp)
 have R0:Rel g fn.ntmps [(nR ρ hin).toArray] ρ {tmps:=args.toArray++Array.replicate (fn.ntmps-args.toArray.size) undef,defers:=[]} w (Qi cu hin base):=
  ⟨by simp;omega,rfl,eF.refl _ _ _,oJ yS hsz,abC,hnd,fun b hb=> .inr hb,⟨fun t=>Nu (X:=aB g w ρ hin) (n:=0) (pre:=[]) rfl abC t,trivial⟩⟩
 have fin: ∀ (e:Exit),(e= .normal∨e= .ret)→ ∀ZV a w' st,Rel g fn.ntmps [(nR ρ hin).toArray] ZV a w' st→l9 L st fn.results.toList (fun x=> ∃σ,KE hin σ st x r hout)→
   bodyPost P fn (fun e w'=> ∃u ρ',e= .returned u∧eF (fun b=>b∈ah ρ hin) w.heap.size w w'∧(∀p∈hin,∀q∈hout,q.1=p.1→zJ (ρ' p.1) (ρ p.1))∧C2 (aB g w' ρ' hout) r u∧(∀p∈hout,aZ (aB g w' ρ' hout) p.1 p.2)∧(ah ρ' hout).Nodup∧ ∀b∈ah ρ' hout,w.heap.size≤b∨b∈ah ρ hin) e a w':=by
  intro e he ZV a w' st R1 hq
  obtain⟨x,u,⟨σ,hret⟩,hc,hrun⟩:=Ag hL R1 hq
  have post:a.defers=[]∧ ∃v,(results fn a.tmps).run P w'= .ok v w'∧ ∃u ρ',Ending.returned v= .returned u∧eF (fun b=>b∈ah ρ hin) w.heap.size w w'∧(∀p∈hin,∀q∈hout,q.1=p.1→zJ (ρ' p.1) (ρ p.1))∧C2 (aB g w' ρ' hout) r u∧(∀p∈hout,aZ (aB g w' ρ' hout) p.1 p.2)∧(ah ρ' hout).Nodup∧ ∀b∈ah ρ' hout,w.heap.size≤b∨b∈ah ρ hin:=by
   have R:=R1.ren hret.nd
   have hc:C2 (aB g w' (qj σ ZV) (st.ren σ).heap) (BD σ x) u:=
    C2.ren (X:=aB g w' ZV st.heap) (Y:=aB g w' (qj σ ZV) (st.ren σ).heap) (fun b h=>⟨h.1,h.2.1,fun h'=>h.2.2 ((yR (oD hret.nd) ZV st.heap).subset h')⟩) rfl (fun k i e=>EX (oD hret.nd) e) hc
   generalize hst:st.ren σ=st' at*
   generalize aeP:qj σ ZV=ρ' at*
   have hfx:=hret.fx
   rw[hst]at hfx
   have hp:=hret.hp
   rw[hst]at hp
   have hrr:=hret.hr
   rw[hst]at hrr
   have hmem:=Sl hp
   have abD: ∀b,b∈ah ρ' hout→b∈ah ρ' st'.heap:=fun b hb=>by
    obtain⟨p,hp,e⟩:=aO.1 hb
    obtain⟨o,ho,_⟩:=hmem p hp
    exact aO.2 ⟨_,au ho,e⟩
   have hk: ∀b,aI g w' ρ' st'.heap b→aI g w' ρ' hout b:=fun b h=>⟨h.1,h.2.1,fun h'=>h.2.2 (abD b h')⟩
   refine⟨R1.defers,u,hrun,u,ρ',rfl,R.below, ?_, ?_, ?_,yQ (oD hret.hn) R.apart (fun p hp=>by obtain⟨o,ho,_⟩:=hmem p hp;exact⟨_,au ho,rfl⟩),fun b hb=>R.own b (abD b hb)⟩
   · intro p hp q hq e
     exact Nv (X:=aB g w' ρ' st'.heap) (Y:=⟨w,keep,ρ⟩) (pre:=[]) (n:=0) rfl rfl kL (fun p hp hno=>by
      obtain⟨q,hq,eq⟩:=fG.1 hno
      obtain⟨o,ho,hoe⟩:=hmem q hq
      have hfo:=Qj (oD hret.hn) q hq
      rw[eq]at ho hfo
      exact⟨q.2,hfo,hoe _ _ (R.objs _ (au ho))⟩) R.back hfx p hp (fG.2 ⟨q,hq,e⟩)
   · refine hrr _ _ (Xz (st:=st') (ρ:=ρ') hk (fun i hi=>fun j e s n sc f hij hf=> ?_) hc)
     refine kU R hf hk fun b hb=> ?_
     have hin0:=aO.2 ⟨_,au hf,hb⟩
     have:=R.gI hin0
     refine⟨this.1,fun hlt=> ?_,fun hin1=> ?_⟩
     · exact this.2.elim (fun h=>absurd hlt (by omega)) .inr
     · obtain⟨p,hp,ep⟩:=aO.1 hin1
       obtain⟨o,ho,_⟩:=hmem p hp
       have:=fF R.apart _ (au ho) _ (au hf) ep hb
       dsimp only at this
       cases hij
       rw[←this,fG.2 ⟨p,hp,rfl⟩]at hi
       cases hi
   · intro p hp
     obtain⟨o,ho,hoe⟩:=hmem p hp
     refine hoe _ _ ?_
     exact aZ.same (X:=aB g w' ρ' st'.heap) (Y:=aB g w' ρ' hout) hk (fun _ _=>rfl) rfl (fun _ _=>rfl) (R.objs _ (au ho))
  rcases he with rfl|rfl
  · exact post
  · exact post
 exact fM hL 9 g fn.ntmps lv [(nR ρ hin).toArray] c (Xy L fn hin r hout) _ ⟨fun ρ a w' st R h=>fin _ (.inl rfl) ρ a w' st R h,fun i ρ a w' st R h=>h.elim,fun ρ a w' st R h=>fin _ (.inr rfl) ρ a w' st R h⟩ R0 h
end
end
section
open Go.RowKit
def HY (σ:List (Nat×Nat)) (i:Nat):Bool:=match kH σ i with|some _=>true|none=>false
def Qk (σ:List (Nat×Nat)):AV→Bool
  | .own i=>HY σ i
  | .dP i .. =>HY σ i
  | .ji i .. =>HY σ i
  | .box i _=>HY σ i
  | .cf _ i _=>HY σ i
  |_=>true
def key1 (σ:List (Nat×Nat)):AV→Bool
  | .agg cs=>cs.all (Qk σ)
  | .fn _ cs=>cs.all (Qk σ)
  |x=>Qk σ x
def key2 (σ:List (Nat×Nat)):AV→Bool
  | .dL vs=>vs.all (key1 σ)
  |x=>key1 σ x
def aac (σ:List (Nat×Nat)):AO→Bool
  | .box _ cs=>cs.all (Qk σ)
  | .row .. =>true
  | .mp _ ks _=>ks.all fun p=>match p.2 with|some i=>HY σ i|none=>true
  | .obs _=>true
  | .rn _ cs=>cs.all (Qk σ)
def yu (σ:List (Nat×Nat)):List (Nat×AO)→Bool
  |[]=>true
  |(k,o)::l=>HY σ k&&aac σ o&&yu σ l
section
variable {σ:List (Nat×Nat)} {X Y:CX}
theorem kV {i:Nat} (h:HY σ i=true): ∃j,kH σ i=some j∧kT σ i=some j:=by
 unfold HY at h
 cases e:kH σ i with
 |none=>rw[e]at h;cases h
 |some j=>exact⟨j,rfl,by simp[kT,e]⟩
theorem C0.jJ (hw:Y.w=X.w) (hk:Y.keep=X.keep) (hρ: ∀k i,kH σ k=some i→Y.ρ i=X.ρ k) {x:AV} {u:Value} (hr:Qk σ x=true):C0 Y (o8 σ x) u↔C0 X x u:=by
 obtain⟨w,k,ρ⟩:=X
 obtain⟨w',k',ρ'⟩:=Y
 dsimp only at hw hk
 subst hw hk
 cases x with
 | own id=>
   obtain⟨j,e,e'⟩:=kV hr
   simp only[o8,e',C0]
   rw[show ρ' j=ρ id from hρ id j e]
 | dP id s i n=>
   obtain⟨j,e,e'⟩:=kV hr
   simp only[o8,e',C0]
   rw[show ρ' j=ρ id from hρ id j e]
 | ji id s i n=>
   obtain⟨j,e,e'⟩:=kV hr
   simp only[o8,e',C0]
   rw[show ρ' j=ρ id from hρ id j e]
 | box id off=>
   obtain⟨j,e,e'⟩:=kV hr
   simp only[o8,e',C0]
   rw[show ρ' j=ρ id from hρ id j e]
 | cf gg id off=>
   obtain⟨j,e,e'⟩:=kV hr
   simp only[o8,e',C0]
   rw[show ρ' j=ρ id from hρ id j e]
 |_=>exact Iff.rfl
theorem aF.BG {R S:AV→Value→Prop} {m:AV→AV} {q:AV→Bool} (hi: ∀x u,q x=true→(S (m x) u↔R x u)): ∀ {xs:List AV} {us:List Value},xs.all q=true→(aF S (xs.map m) us↔aF R xs us)
  | xs,us,hq=>by
    constructor
    · intro h
      refine⟨by simpa using h.1,fun i x u hx hu=>(hi x u (List.all_eq_true.1 hq x (List.mem_of_getElem? hx))).1 (h.2 i _ u (by rw[List.getElem?_map,hx];rfl) hu)⟩
    · intro h
      refine⟨by simpa using h.1,fun i y u hy hu=> ?_⟩
      rw[List.getElem?_map]at hy
      cases hx:xs[i]? with
      |none=>rw[hx]at hy;cases hy
      |some x=>rw[hx]at hy;cases hy;exact(hi x u (List.all_eq_true.1 hq x (List.mem_of_getElem? hx))).2 (h.2 i x u hx hu)
theorem C1.jJ (hw:Y.w=X.w) (hk:Y.keep=X.keep) (hρ: ∀k i,kH σ k=some i→Y.ρ i=X.ρ k) {x:AV} {u:Value} (hr:key1 σ x=true):C1 Y (MJ σ x) u↔C1 X x u:=by
 have c0: ∀ {y:AV},Qk σ y=true→(∀cs,y≠ .agg cs)→(∀g cs,y≠ .fn g cs)→(C1 Y (o8 σ y) u↔C1 X y u):=by
  intro y hy h1 h2
  have:=C0.jJ hw hk hρ (u:=u) hy
  constructor
  · intro h
    refine C1.su (this.1 ?_)
    have hne: ∀cs,o8 σ y≠ .agg cs:=by
     intro cs e
     cases y<;>simp only[o8]at e<;>first|(split at e<;>cases e;done)|exact h1 _ rfl|cases e
    have hne2: ∀g cs,o8 σ y≠ .fn g cs:=by
     intro g cs e
     cases y<;>simp only[o8]at e<;>first|(split at e<;>cases e;done)|exact h2 _ _ rfl|cases e
    revert h hne hne2
    cases o8 σ y<;>intro h hne hne2<;>first|exact h|exact absurd rfl (hne _)|exact absurd rfl (hne2 _ _)
  · intro h
    refine C1.su (this.2 ?_)
    revert h h1 h2
    cases y<;>intro h1 h2 h<;>first|exact h|exact absurd rfl (h1 _)|exact absurd rfl (h2 _ _)
 cases x with
 |agg cs=>exact exists_congr fun us=>and_congr_right fun _=>aF.BG (fun x u h=>C0.jJ hw hk hρ h) hr
 |fn g cs=>exact exists_congr fun us=>and_congr_right fun _=>aF.BG (fun x u h=>C0.jJ hw hk hρ h) hr
 |v y=>exact c0 (y:= .v y) rfl (fun _ h=>by cases h) (fun _ _ h=>by cases h)
 |dL vs=>exact c0 (y:= .dL vs) rfl (fun _ h=>by cases h) (fun _ _ h=>by cases h)
 |sl s n sc f=>exact c0 (y:= .sl s n sc f) rfl (fun _ h=>by cases h) (fun _ _ h=>by cases h)
 |own i=>exact c0 (y:= .own i) hr (fun _ h=>by cases h) (fun _ _ h=>by cases h)
 |dP i s j k=>exact c0 (y:= .dP i s j k) hr (fun _ h=>by cases h) (fun _ _ h=>by cases h)
 |ji i s j k=>exact c0 (y:= .ji i s j k) hr (fun _ h=>by cases h) (fun _ _ h=>by cases h)
 |box i k=>exact c0 (y:= .box i k) hr (fun _ h=>by cases h) (fun _ _ h=>by cases h)
 |cf gg i k=>exact c0 (y:= .cf gg i k) hr (fun _ h=>by cases h) (fun _ _ h=>by cases h)
 |el cs k=>exact c0 (y:= .el cs k) rfl (fun _ h=>by cases h) (fun _ _ h=>by cases h)
 |junk=>exact c0 (y:= .junk) rfl (fun _ h=>by cases h) (fun _ _ h=>by cases h)
theorem C2.jJ (hw:Y.w=X.w) (hk:Y.keep=X.keep) (hρ: ∀k i,kH σ k=some i→Y.ρ i=X.ρ k) {x:AV} {u:Value} (hr:key2 σ x=true) (h:C2 X x u):C2 Y (BD σ x) u:=by
 cases x with
 | dL vs=>
   obtain⟨us,e,ha⟩:=h
   exact⟨us,e,(aF.BG (fun x u h=>C1.jJ hw hk hρ h) hr).2 ha⟩
 |agg cs=>exact C2.jL ((C1.jJ hw hk hρ (x:= .agg cs) hr).2 h)
 |fn g cs=>exact C2.jL ((C1.jJ hw hk hρ (x:= .fn g cs) hr).2 h)
 |v y=>exact C2.jL ((C1.jJ hw hk hρ (x:= .v y) hr).2 h)
 |sl s n sc f=>exact C2.jL ((C1.jJ hw hk hρ (x:= .sl s n sc f) hr).2 h)
 |own i=>exact C2.jL ((C1.jJ hw hk hρ (x:= .own i) hr).2 h)
 |dP i s j k=>exact C2.jL ((C1.jJ hw hk hρ (x:= .dP i s j k) hr).2 h)
 |ji i s j k=>exact C2.jL ((C1.jJ hw hk hρ (x:= .ji i s j k) hr).2 h)
 |box i k=>exact C2.jL ((C1.jJ hw hk hρ (x:= .box i k) hr).2 h)
 |cf gg i k=>exact C2.jL ((C1.jJ hw hk hρ (x:= .cf gg i k) hr).2 h)
 |el cs k=>exact C2.jL ((C1.jJ hw hk hρ (x:= .el cs k) hr).2 h)
 |junk=>exact C2.jL ((C1.jJ hw hk hρ (x:= .junk) hr).2 h)
theorem jG.jJ {ρ ρ':Nat→Value} (hρ: ∀k i,kH σ k=some i→ρ' i=ρ k): ∀ {ks:List (ByteArray×Option Nat)} {vs:List Value},(ks.all fun p=>match p.2 with|some i=>HY σ i|none=>true)=true→(jG ρ' (jJ σ ks) vs↔jG ρ ks vs)
  |[],_,_=>Iff.rfl
  | (k,none)::l,vs,h=>by
    simp only[List.all_cons,Bool.and_eq_true]at h
    simp only[Go.Proofs.YtimhagicagdkfaaGreat.jJ,jG]
    exact exists_congr fun v=>exists_congr fun r=>and_congr_right fun _=>and_congr ⟨fun _ i hi=>(by cases hi),fun _ i hi=>(by cases hi)⟩ (jG.jJ hρ h.2)
  | (k,some i)::l,vs,h=>by
    simp only[List.all_cons,Bool.and_eq_true]at h
    obtain⟨j,e,e'⟩:=kV h.1
    simp only[Go.Proofs.YtimhagicagdkfaaGreat.jJ,jG,e']
    refine exists_congr fun v=>exists_congr fun r=>and_congr_right fun _=>and_congr ?_ (jG.jJ hρ h.2)
    constructor
    · intro q x hx
      cases hx
      rw[←hρ i j e]
      exact q j rfl
    · intro q x hx
      cases hx
      rw[hρ i j e]
      exact q i rfl
theorem aZ.jJ (hw:Y.w=X.w) (hk:Y.keep=X.keep) (hρ: ∀k i,kH σ k=some i→Y.ρ i=X.ρ k) {k i:Nat} {o:AO} (hi:kH σ k=some i) (hr:aac σ o=true):aZ Y i (o.ren σ)↔aZ X k o:=by
 cases o with
 | box t cs=>
   simp only[AO.ren,aZ,hw,hρ k i hi]
   exact exists_congr fun b=>exists_congr fun us=>and_congr_right fun _=>and_congr_right fun _=>aF.BG (fun x u h=>C0.jJ hw hk hρ h) hr
 | row e s n sc f=>
   simp only[AO.ren,aZ,oC,hw,hk,hρ k i hi]
 | mp t ks rs=>
   have hh: ∀hs,jl Y rs hs↔jl X rs hs:=fun hs=>⟨jl.mono (by rw[hk];exact fun _ h=>h) (fun _ _=>by rw[hw]) (fun _ _=>by rw[hw]),jl.mono (by rw[hk];exact fun _ h=>h) (fun _ _=>by rw[hw]) (fun _ _=>by rw[hw])⟩
   simp only[AO.ren,aZ,hw,hρ k i hi,wY,hh]
   exact exists_congr fun b=>exists_congr fun es=>exists_congr fun c=>exists_congr fun vs=>exists_congr fun hs=>and_congr_right fun _=>and_congr_right fun _=>and_congr_left fun _=>jG.jJ (fun k i e=>congrArg dZ (hρ k i e)) hr
 | obs o=>
   simp only[AO.ren,aZ,hw,hk,hρ k i hi]
 | rn e cs=>
   simp only[AO.ren,aZ,hw,hρ k i hi,List.length_map]
   exact exists_congr fun us=>and_congr_right fun _=>aF.BG (fun x u h=>C0.jJ hw hk hρ h) hr
theorem qU {ρ ρ':Nat→Value} (hρ: ∀k i,kH σ k=some i→ρ' i=ρ k): ∀ {h:List (Nat×AO)},yu σ h=true→ah ρ' (iQ σ h)=ah ρ h
  |[],_=>rfl
  | (k,o)::l,h=>by
    simp only[yu,Bool.and_eq_true]at h
    obtain⟨j,e,e'⟩:=kV h.1.1
    simp only[iQ,e']
    rw[aU,aU,qU hρ h.2]
    dsimp only
    rw[hρ k j e]
theorem Fa: ∀ {h:List (Nat×AO)},yu σ h=true→ ∀p∈h,∃i,kH σ p.1=some i∧(i,p.2.ren σ)∈iQ σ h∧aac σ p.2=true
  |[],_,p,hp=>by cases hp
  | (k,o)::l,h,p,hp=>by
    simp only[yu,Bool.and_eq_true]at h
    obtain⟨j,e,e'⟩:=kV h.1.1
    simp only[iQ,e']
    rcases List.mem_cons.1 hp with rfl|hp
    · exact⟨j,e,List.mem_cons_self,h.1.2⟩
    · obtain⟨i,h1,h2,h3⟩:=Fa h.2 p hp
      exact⟨i,h1,List.mem_cons_of_mem _ h2,h3⟩
theorem xH: ∀ {h:List (Nat×AO)},yu σ h=true→ ∀q∈iQ σ h,∃p∈h,kH σ p.1=some q.1∧q.2=p.2.ren σ∧aac σ p.2=true
  |[],_,q,hq=>by cases hq
  | (k,o)::l,h,q,hq=>by
    simp only[yu,Bool.and_eq_true]at h
    obtain⟨j,e,e'⟩:=kV h.1.1
    simp only[iQ,e']at hq
    rcases List.mem_cons.1 hq with rfl|hq
    · exact⟨(k,o),List.mem_cons_self,e,rfl,h.1.2⟩
    · obtain⟨p,h1,h2⟩:=xH h.2 q hq
      exact⟨p,List.mem_cons_of_mem _ h1,h2⟩
end
theorem aW.ren {P:Program} {f:FuncId} {hin:List (Nat×AO)} {cu:List AV} {r:AV} {hout:List (Nat×AO)} (h:aW P f hin cu r hout) (σ:List (Nat×Nat))
  (hb:(rG (σ.map (·.2))&&yu σ hin&&yu σ hout&&cu.all (key1 σ)&&key2 σ r)=true):aW P f (iQ σ hin) (cu.map (MJ σ)) (BD σ r) (iQ σ hout):=by
 simp only[Bool.and_eq_true]at hb
 obtain⟨⟨⟨⟨hnd,hki⟩,hko⟩,hka⟩,hkr⟩:=hb
 have hn:=BA hnd
 refine⟨h.1,fun w keep ρ args hkeep kL aec hnk hargs=> ?_⟩
 let PE:Nat→Value:=fun k=>match kH σ k with|some i=>ρ i|none=>undef
 have e0: ∀k i,kH σ k=some i→ρ i=PE k:=fun k i e=>by simp only[PE,e]
 have yt:ah ρ (iQ σ hin)=ah PE hin:=qU e0 hki
 have key:=h.2 w keep PE args hkeep (fun p hp=>by
   obtain⟨i,h1,h2,h3⟩:=Fa hki p hp
   exact(aZ.jJ (X:=⟨w,keep,PE⟩) (Y:=⟨w,keep,ρ⟩) rfl rfl e0 h1 h3).1 (kL _ h2)) (by rw[←yt];exact aec) (by rw[←yt];exact hnk)
  ((aF.BG (fun x u h=>C1.jJ (X:=⟨w,keep,PE⟩) (Y:=⟨w,keep,ρ⟩) rfl rfl e0 h) hka).1 hargs)
 refine key.mono ?_
 rintro e w' ⟨u,UC,rfl,hbel,hfix,hc,ho,hnd',hnew⟩
 let ρ':Nat→Value:=fun i=>match Qh σ i with|some k=>UC k|none=>ρ i
 have e1: ∀k i,kH σ k=some i→ρ' i=UC k:=fun k i e=>by simp only[ρ',Ah hn (sH e)]
 have XB:ah ρ' (iQ σ hout)=ah UC hout:=qU e1 hko
 have hM:(fun b=>b∈ah ρ (iQ σ hin))=(fun b=>b∈ah PE hin):=by rw[yt]
 have hkk:(aB (gU w keep (fun b=>b∈ah ρ (iQ σ hin))) w' ρ' (iQ σ hout)).keep=(aB (gU w keep (fun b=>b∈ah PE hin)) w' UC hout).keep:=by
  funext b
  simp only[aB,aI,XB,yt]
 refine⟨u,ρ',rfl,by rw[hM];exact hbel, ?_,C2.jJ (X:=aB (gU w keep (fun b=>b∈ah PE hin)) w' UC hout) (Y:=aB (gU w keep (fun b=>b∈ah ρ (iQ σ hin))) w' ρ' (iQ σ hout)) rfl hkk e1 hkr hc, ?_,by rw[XB];exact hnd',by rw[XB,yt];exact hnew⟩
 · intro p hp q hq epq
   obtain⟨p0,hp0,h1,_⟩:=xH hki p hp
   obtain⟨q0,hq0,h2,_⟩:=xH hko q hq
   have hk0:q0.1=p0.1:=by
    have k1:=Ah hn (sH h1)
    have k2:=Ah hn (sH h2)
    rw[epq,k1]at k2
    exact(Option.some.inj k2).symm
   rw[e1 _ _ h1,e0 _ _ h1]
   exact hfix p0 hp0 q0 hq0 hk0
 · intro q hq
   obtain⟨p,hp,h1,h2,h3⟩:=xH hko q hq
   rw[h2]
   exact(aZ.jJ (X:=aB (gU w keep (fun b=>b∈ah PE hin)) w' UC hout) (Y:=aB (gU w keep (fun b=>b∈ah ρ (iQ σ hin))) w' ρ' (iQ σ hout)) rfl hkk e1 h1 h3).2 (ho p hp)
theorem dJ.Fb {P:Program} {L:Lay} {W:Walk} {d:Nat} {f:FuncId} {cu:List AV} {st:AS} {K:AV→AS→Prop} (k:Nat) (τ:List (Nat×Nat)) {hin:List (Nat×AO)} {aad:List AV} {r:AV} {hout:List (Nat×AO)} (hs:aW P f hin aad r hout)
  (ha:aad.map (MJ ((k,d)::τ))=cu) (hh:Uk st (iQ ((k,d)::τ) hin))
  (hb:(rG (((k,d)::τ).map (·.2))&&yu ((k,d)::τ) hin&&yu ((k,d)::τ) hout&&aad.all (key1 ((k,d)::τ))&&key2 ((k,d)::τ) r)=true)
  (hb2:(rG ((iQ ((k,d)::τ) hin).map (·.1))&&(aad.map (MJ ((k,d)::τ))).all MG&&jQ (iQ ((k,d)::τ) hout) (iQ ((k,d)::τ) hout)&&WS (iQ ((k,d)::τ) hout) (BD ((k,d)::τ) r)&&tK d (iQ ((k,d)::τ) hin) (iQ ((k,d)::τ) hout))=true)
  (hK:K (BD ((k,d)::τ) r) (st.PZ d (iQ ((k,d)::τ) hin) (iQ ((k,d)::τ) hout))):dJ P L W d f cu st K:=by
 subst ha
 exact .PZ _ _ _ (hs.ren _ hb) hh hb2 hK
end
section
open Go.RowKit
section
variable {P:Program}
def ak {α:Type} (P:Program) (m:Sem α):Prop:= ∀ (w w':World) (u:α) (w1:World),m.run P w= .ok u w1→w1=w∧m.run P w'= .ok u w'
theorem ak.pure {α:Type} (x:α):ak P (Pure.pure x:Sem α):=by
 intro w w' u w1 h
 simp only[Sem.run_pure]at h⊢
 cases h
 exact⟨rfl,rfl⟩
theorem ak.halt {α:Type} (h:Halt):ak P (Sem.halt h:Sem α):=by
 intro w w' u w1 h
 simp only[Sem.run_halt]at h
 cases h
theorem ak.stuck {α:Type} (h:String):ak P (Go.stuck h:Sem α):=ak.halt _
theorem ak.unsupported {α:Type} (h:Unsupported):ak P (Go.unsupported h:Sem α):=ak.halt _
theorem ak.program:ak P (Go.program):=by
 intro w w' u w1 h
 simp only[run_program]at h⊢
 cases h
 exact⟨rfl,rfl⟩
theorem ak.bind {α β:Type} {m:Sem α} {k:α→Sem β} (hm:ak P m) (hk: ∀x,ak P (k x)):ak P (m>>=k):=by
 intro w w' u w1 h
 rw[Sem.run_bind]at h⊢
 cases e:m.run P w with
 | ok x w0=>
   rw[e]at h
   obtain⟨rfl,e'⟩:=hm w w' x w0 e
   rw[e',Result.andThen_ok]
   exact hk x _ w' u w1 h
 |halt x w0=>rw[e]at h;cases h
theorem ak.dead {α:Type} {m:Sem α} (h: ∀w u w1,m.run P w≠ .ok u w1):ak P m:=fun w _ u w1 e=>absurd e (h w u w1)
theorem sK {α β:Type} {m:Sem α} {k:α→Sem β} (hk: ∀x w u w1,(k x).run P w≠ .ok u w1) (w:World) (u:β) (w1:World):(m>>=k).run P w≠ .ok u w1:=by
 rw[Sem.run_bind]
 cases e:m.run P w with
 |ok x w0=>rw[Result.andThen_ok];exact hk x w0 u w1
 |halt x w0=>exact fun h=>by cases h
theorem yT {α:Type} (e:RuntimeError) (w:World) (u:α) (w1:World):(runtimePanic e:Sem α).run P w≠ .ok u w1:=by
 unfold runtimePanic
 refine sK (fun p w u w1=> ?_) w u w1
 cases e<;>first|exact(fun h=>by cases h)|exact sK (fun _=>sK fun _ w u w1 h=>by cases h) _ _ _
theorem ak.bounds {α:Type} (k:IntKind) (x y:Int) (c:BoundsCode):ak P (boundsPanic k x y c:Sem α):=by
 refine ak.dead fun w u w1=> ?_
 unfold boundsPanic
 dsimp only
 split
 · exact sK (fun _ w u w1=>yT _ w u w1) w u w1
 · exact sK (fun _ w u w1=>yT _ w u w1) w u w1
theorem ak.Ql {α:Type} (e:RuntimeError):ak P (runtimePanic e:Sem α):=ak.dead fun w u w1=>yT e w u w1
theorem ak.underlying (t:TypeId):ak P (Go.underlying t):=by
 unfold Go.underlying
 refine ak.bind ak.program fun p=> ?_
 split
 · exact ak.pure _
 · exact ak.halt _
theorem ak.typeInfo (t:TypeId):ak P (Go.typeInfo t):=by
 unfold Go.typeInfo
 refine ak.bind ak.program fun p=> ?_
 split
 · exact ak.pure _
 · exact ak.halt _
theorem ak.sizeOf (t:TypeId):ak P (Go.sizeOf t):=ak.bind (ak.typeInfo t) fun _=>ak.pure _
theorem ak.asIntOf (v:Value):ak P (Go.asIntOf v):=by
 unfold Go.asIntOf
 split
 · exact ak.pure _
 · exact ak.halt _
 · exact ak.halt _
theorem ak.asBool (v:Value):ak P (Go.asBool v):=by
 unfold Go.asBool
 split
 · exact ak.pure _
 · exact ak.halt _
theorem ak.sureAddr (v:Value):ak P (Instr.sureAddr v):=by
 unfold Instr.sureAddr
 split
 · exact ak.pure _
 · exact ak.halt _
theorem ak.indexAt (t:TypeId) (x i:Value):ak P (Instr.indexAt t x i):=by
 unfold Instr.indexAt
 with_reducible repeat' first
   |exact ak.pure _
   |exact ak.stuck _
   |exact ak.unsupported _
   |exact ak.bounds _ _ _ _
   |refine ak.bind (ak.asIntOf _) fun _=> ?_
   |refine ak.bind (ak.underlying _) fun _=> ?_
   |refine ak.bind (ak.sureAddr _) fun _=> ?_
   |refine ak.bind (ak.sizeOf _) fun _=> ?_
   |refine ak.bind (ak.pure _) fun _=> ?_
   |refine ak.bind (ak.stuck _) fun _=> ?_
   |(dsimp only;split)
   |split
theorem ak.asAgg (v:Value):ak P (Go.asAgg v):=by
 unfold Go.asAgg
 split
 · exact ak.pure _
 · exact ak.halt _
theorem ak.isAgg (t:TypeId):ak P (Go.isAgg t):=by
 unfold Go.isAgg
 refine ak.bind (ak.underlying _) fun _=> ?_
 split<;>exact ak.pure _
theorem ak.part (t:TypeId) (cs:Array Value) (off:Nat):ak P (Go.part t cs off):=by
 unfold Go.part
 refine ak.bind (ak.isAgg _) fun _=> ?_
 split
 · exact ak.bind (ak.sizeOf _) fun _=>ak.pure _
 · split
   · exact ak.pure _
   · exact ak.halt _
theorem ak.field (t:TypeId) (x:Value) (i:Nat):ak P (Instr.field t x i):=by
 unfold Instr.field
 refine ak.bind (ak.underlying _) fun _=> ?_
 split
 · split
   · exact ak.bind (ak.asAgg _) fun _=>ak.part _ _ _
   · exact ak.stuck _
 · exact ak.stuck _
theorem ak.index (t:TypeId) (x i:Value):ak P (Instr.index t x i):=by
 unfold Instr.index
 with_reducible repeat' first
   |exact ak.pure _
   |exact ak.stuck _
   |exact ak.bounds _ _ _ _
   |exact ak.part _ _ _
   |refine ak.bind (ak.asIntOf _) fun _=> ?_
   |refine ak.bind (ak.underlying _) fun _=> ?_
   |refine ak.bind (ak.sizeOf _) fun _=> ?_
   |refine ak.bind (ak.pure _) fun _=> ?_
   |(dsimp only;split)
   |split
theorem ak.extract (v:Value) (i:Nat):ak P (Instr.extract v i):=by
 unfold Instr.extract
 split
 · split
   · exact ak.pure _
   · exact ak.halt _
 · exact ak.halt _
theorem ak.intArith (op:BinOp) (k:IntKind) (x y:Int):ak P (Op.intArith op k x y):=by
 unfold Op.intArith
 split<;>first|exact ak.pure _|exact ak.halt _
theorem ak.intBits (op:BinOp) (k:IntKind) (x y:Int):ak P (Op.intBits op k x y):=by
 unfold Op.intBits
 dsimp only
 split<;>first|exact ak.pure _|exact ak.halt _
theorem ak.intCmp (op:BinOp) (x y:Int):ak P (Op.intCmp op x y):=by
 unfold Op.intCmp
 split<;>first|exact ak.pure _|exact ak.halt _
theorem ak.intDiv (op:BinOp) (k:IntKind) (x y:Int):ak P (Op.intDiv op k x y):=by
 unfold Op.intDiv
 split
 · exact ak.Ql _
 · split<;>first|exact ak.pure _|exact ak.halt _
theorem ak.shift (op:BinOp) (k k':IntKind) (x y:Int):ak P (Op.shift op k x k' y):=by
 unfold Op.shift
 split
 · exact ak.Ql _
 · dsimp only
   split<;>first|exact ak.pure _|exact ak.halt _
theorem ak.unary (op:UnOp) (x:Value):ak P (Op.unary op x):=by
 unfold Op.unary
 split<;>first|exact ak.pure _|exact ak.halt _|exact ak.intArith _ _ _ _|exact ak.intBits _ _ _ _
theorem ak.acg (op:BinOp) (t:TypeId) (k k':IntKind) (x y:Int):ak P (binOp op t (.int k x) (.int k' y)):=by
 cases op<;>unfold binOp<;>dsimp only<;>first|exact ak.shift _ _ _ _ _|(split<;>first|exact ak.halt _|exact ak.intArith _ _ _ _|exact ak.intBits _ _ _ _|exact ak.intCmp _ _ _|exact ak.intDiv _ _ _ _)
theorem ak.adw (op:BinOp) (t:TypeId) (x y:Operand) (k k':IntKind) (a b:Int):ak P (eqGuard op t x y (.int k a) (.int k' b)):=by
 cases op<;>exact ak.pure _
theorem ak.aae {s t:TypeId} {k:IntKind} (ht:P.underlying t=some (.int k)) (k':IntKind) (n:Int):ak P (convert s t (.int k' n)):=by
 intro w w' u w1 h
 unfold convert at h⊢
 simp only[Sem.run_bind]at h⊢
 cases e:(Go.underlying s).run P w with
 |halt x w0=>rw[e]at h;cases h
 | ok d w0=>
   obtain⟨rfl,e'⟩:=ak.underlying s w w' d w0 e
   have hu: ∀w,(Go.underlying t).run P w= .ok (.int k) w:=by
    intro w
    unfold Go.underlying
    simp only[Sem.run_bind,run_program,Result.andThen_ok,ht]
    rfl
   rw[e,Result.andThen_ok,hu,Result.andThen_ok]at h
   rw[e',Result.andThen_ok,hu,Result.andThen_ok]
   have hf:ak P (Conv.intToInt k n):=ak.pure _
   cases d<;>exact hf w0 w' u w1 h
theorem ak.IK {α β:Type} {m:Sem α} {k:α→Sem β} {x:α} (hm: ∀w,m.run P w= .ok x w) (hk:ak P (k x)):ak P (m>>=k):=by
 intro w w' u w1 h
 rw[Sem.run_bind,hm,Result.andThen_ok]at h
 rw[Sem.run_bind,hm,Result.andThen_ok]
 exact hk w w' u w1 h
theorem ak.stringOp (op:BinOp) (x y:ByteArray):ak P (Op.stringOp op x y):=by
 unfold Op.stringOp
 dsimp only
 split
 · split
   · exact ak.halt _
   · exact ak.pure _
 all_goals first|exact ak.pure _|exact ak.halt _
theorem ak.ach (op:BinOp) (t:TypeId) (x y:ByteArray):ak P (binOp op t (.string x) (.string y)):=by
 cases op<;>unfold binOp<;>dsimp only<;>exact ak.stringOp _ x y
theorem ak.eqStr (op:BinOp) (t:TypeId) (x y:Operand) (a b:ByteArray):ak P (eqGuard op t x y (.string a) (.string b)):=by
 cases op<;>exact ak.pure _
theorem ak.sliceBound (x:Value) (y:Nat) (c:BoundsCode):ak P (Instr.sliceBound x y c):=by
 unfold Instr.sliceBound
 refine ak.bind (ak.asIntOf _) fun _=> ?_
 dsimp only
 split
 · exact ak.pure _
 · exact ak.bounds _ _ _ _
theorem ak.sliceBounds (b:Bool) (l c:Nat) (lo hi:Option Value):ak P (Instr.sliceBounds b l c lo hi none):=by
 unfold Instr.sliceBounds
 cases lo<;>cases hi<;>with_reducible repeat' first
   |exact ak.pure _
   |refine ak.bind (ak.sliceBound _ _ _) fun _=> ?_
   |refine ak.bind (ak.pure _) fun _=> ?_
   |dsimp only
theorem ak.slice (t:TypeId) {x:Value} (hx:(∃A n c,x= .slice A n c)∨(∃s,x= .string s)∨ ∃A,x= .pointer (some A)) (lo hi:Option Value):ak P (Instr.sliceAt t x lo hi none):=by
 unfold Instr.sliceAt
 refine ak.bind (ak.underlying _) fun d=> ?_
 split
 · refine ak.bind (ak.sureAddr _) fun _=>ak.bind (ak.sliceBounds _ _ _ _ _) fun _=> ?_
   exact ak.bind (ak.sizeOf _) fun _=>ak.pure _
 · unfold Instr.slice
   refine ak.bind (ak.underlying _) fun d=> ?_
   rcases hx with⟨A,n,c,rfl⟩|⟨s,rfl⟩|⟨A,rfl⟩
   · cases d<;>first
       |exact ak.halt _
       |exact ak.bind (ak.sliceBounds _ _ _ _ _) fun _=>ak.bind (ak.sizeOf _) fun _=>ak.pure _
   · cases d<;>first
       |exact ak.halt _
       |exact ak.bind (ak.sliceBounds _ _ _ _ _) fun _=>ak.pure _
   · cases d<;>first
       |exact ak.halt _
       | (refine ak.bind (ak.pure _) fun _=>ak.bind (ak.underlying _) fun d=> ?_
          cases d<;>first
            |exact ak.halt _
            |exact ak.bind (ak.sliceBounds _ _ _ _ _) fun _=>ak.bind (ak.sizeOf _) fun _=>ak.pure _)
theorem ak.arrayAt (t:TypeId) (x:Value):ak P (Instr.arrayAt t x):=by
 unfold Instr.arrayAt
 refine ak.bind (ak.underlying _) fun d=> ?_
 split
 · split
   · split
     · exact ak.Ql _
     · exact ak.pure _
   · exact ak.halt _
 · exact ak.halt _
theorem ak.len (t ty:TypeId) {x:Value} (hx:(∃A n c,x= .slice A n c)∨ ∃s,x= .string s):ak P (Builtin.len_ #[t] ty #[x]):=by
 unfold Builtin.len_
 show ak P ((Go.underlying t)>>=_)
 refine ak.bind (ak.underlying _) fun d=> ?_
 rcases hx with⟨A,n,c,rfl⟩|⟨s,rfl⟩<;>cases d<;>first
   |exact ak.pure _
   |exact ak.halt _
   | (refine ak.bind (ak.underlying _) fun d=> ?_
      cases d<;>first|exact ak.pure _|exact ak.halt _)
end
end
section
open Go.RowKit
def XC:AV→Bool
  | .v (.int _ _)=>true
  |_=>false
def aaf:AV→Bool
  | .v (.string _)=>true
  |_=>false
def sliceB:AV→Bool
  | .v (.string _)=>true
  | .v (.slice _ _ _)=>true
  | .sl .. =>true
  |_=>false
def aci:AV→Bool
  | .own _=>true
  | .box _ _=>true
  |x=>sliceB x
def aed:AV→Bool
  | .box _ _=>true
  |_=>false
def acj (L:Lay) (t:TypeId):Bool:=match aY L t with|some i=>(match i.kind with| .int _=>true|_=>false)|none=>false
def vN (L:Lay) (st:AS) (op:Op):Bool:=
 match op with
 | .move _=>true
 | .assign _=>true
 | .pick .. =>true
 | .extract .. =>true
 | .fieldAddr .. =>true
 | .indexAddr .. =>true
 | .unOp .. =>true
 | .build .. =>true
 | .field .. =>true
 | .index .. =>true
 | .nilCheck x=>aed (st.ev x)
 | .binOp _ _ x y _=>(XC (st.ev x)&&XC (st.ev y))||(aaf (st.ev x)&&aaf (st.ev y))
 | .convert _ t x=>XC (st.ev x)&&acj L t
 | .slice _ x _ _ none=>aci (st.ev x)
 | .sliceToArrayPointer _ x=>sliceB (st.ev x)
 | .call {callee:= .builtin .len,args:=xs,argTypes:=ts}=>(match ts.toList,xs.toList with|[_],[x]=>sliceB (st.ev x)|_,_=>false)
 |_=>false
section
variable {P:Program} {L:Lay} {g:Base} {N:Nat} {bs:List (Array Value)} {ρ:Nat→Value} {a:Act} {w:World} {st:AS}
theorem Fe {X:CX} {x:AV} {u:Value} (hx:C2 X x u) (h:XC x=true): ∃k n,u= .int k n:=by
 unfold XC at h
 split at h
 · exact⟨_,_,C2.dK hx⟩
 · cases h
theorem Nw {X:CX} {x:AV} {u:Value} (hx:C2 X x u) (h:aaf x=true): ∃s,u= .string s:=by
 unfold aaf at h
 split at h
 · exact⟨_,C2.dK hx⟩
 · cases h
theorem Fg {X:CX} {x:AV} {u:Value} (hx:C2 X x u) (h:sliceB x=true):(∃A n c,u= .slice A n c)∨ ∃s,u= .string s:=by
 unfold sliceB at h
 split at h
 · exact .inr ⟨_,C2.dK hx⟩
 · exact .inl ⟨_,_,_,C2.dK hx⟩
 · cases C2.tV hx with
   |sl _ _ _ _ A c us _ _ _ _ _ _ _ _=>exact .inl ⟨_,_,_,rfl⟩
 · cases h
theorem ak.fieldAt (hL:bQ P L) {t:TypeId} {p:AV} {pv:Value} {i:Nat} {K:AV→Prop} (h:nN L t p i K):ak P (Instr.fieldAt t pv i):=by
 unfold nN at h
 split at h
 · rename_i ti hti
   split at h
   · rename_i fs hk
     split at h
     · rename_i o ft hfs
       split at h
       · rename_i fi hfi
         obtain⟨fields,hu,hmap⟩:=lD hL hti hk
         obtain⟨f,hf,ho,hft⟩:=Ez hmap hfs
         cases hs:Nat.ble 1 fi.size with
         |false=>rw[hs]at h;exact h.elim
         | true=>
           have h1:=Nat.le_of_ble_eq_true hs
           unfold Instr.fieldAt
           refine ak.IK (x:= .struct fields) (fun w=>run_underlying hu w) ?_
           dsimp only
           rw[hf]
           dsimp only
           refine ak.bind (ak.sureAddr _) fun a=>ak.bind ?_ fun _=>ak.pure _
           unfold fieldPlace
           refine ak.IK (x:=fi.size) (fun w=>by rw[hft];exact iq hL hfi w) ?_
           rw[if_neg (by omega)]
           exact ak.pure _
       · exact h.elim
     · exact h.elim
   · exact h.elim
 · exact h.elim
theorem XD (hL:bQ P L) {t:TypeId} {i:TI} (h:aY L t=some i): ∃z,∀w,(zeroValue t).run P w= .ok z w:=by
 obtain⟨info,z,d,h1,h2,h3,h4,h5,h6,h7⟩:=jm hL h
 exact⟨z,fun w=>by simp[zeroValue,typeInfo,h1,h3]⟩
theorem ak.aag (hL:bQ P L) {hh:List (Nat×AO)} {t:TypeId} {ps:List (Nat×AV)} {parts:Array (Nat×Value)} {K:AV→Prop} (h:Bv L hh t ps K):ak P (Instr.build t parts):=by
 unfold Bv at h
 split at h
 · rename_i ti hti
   obtain⟨z,hz⟩:=XD hL hti
   unfold Instr.build
   refine ak.IK hz ?_
   split at h
   · rename_i fs hk
     obtain⟨fields,hu,hmap⟩:=lD hL hti hk
     refine ak.IK (x:= .struct fields) (fun w=>run_underlying hu w) ?_
     dsimp only
     split at h
     · rename_i pl Xj
       rw[←hmap]at Xj
       refine ak.IK (x:=pl.toArray) (fun w=> ?_) ?_
       · have hm:=vG hL w Xj
         rw[Array.mapM_eq_mapM_toList]
         simp only[Sem.run_map,hm,Result.andThen_ok]
       · split
         · exact ak.pure _
         · exact ak.halt _
     · exact h.elim
   · rename_i n e hk
     refine ak.IK (x:= .array n e) (fun w=>run_underlying (oG hL hti hk) w) ?_
     dsimp only
     refine ak.bind (ak.sizeOf _) fun _=> ?_
     split
     · exact ak.pure _
     · exact ak.halt _
   · exact h.elim
 · exact h.elim
theorem aah (hL:bQ P L) {t:TypeId} (h:acj L t=true): ∃k,P.underlying t=some (.int k):=by
 unfold acj at h
 split at h
 · rename_i i hi
   split at h
   · rename_i k hk
     exact⟨k,yO hL hi hk⟩
   · cases h
 · cases h
theorem Qm {L:Lay} {st:AS} {t:TypeId} {id:Nat} {x:AV} {lo hi:Option AV} {mx:Option AV} {K:AV→AS→Prop} (hx:x= .own id) (h:aslice L st t x lo hi mx K): ∃e s n sc f,aP id st.heap=some (.row e s n sc f):=by
 unfold aslice at h
 split at h
 · split at h
   all_goals first
     |(cases hx;done)
     |exact h.elim
     |skip
   cases hx
   split at h
   · rename_i hfo
     exact⟨_,_,_,_,_,hfo⟩
   · exact h.elim
 · exact h.elim
theorem Ny (hL:bQ P L) {W:Walk} (R:Rel g N bs ρ a w st) {o:Oper} {d:Nat} {K:AV→AS→Prop} (hp:vN L st o.op=true) (h:P6 P L W d st o.op K):
  ∃x u st' ρ',K x st'∧Rel g N bs ρ' a w st'∧C2 (aB g w ρ' st'.heap) x u∧ ∀w',(execOp a.eval o).run P w'= .ok (.value u) w':=by
 have fin: ∀ {m:Sem Value},ak P m→(∀w,(execOp a.eval o).run P w=(do pure (.value (←m)):Sem Next).run P w)→(∃x u,K x st∧C2 (aB g w ρ st.heap) x u∧(execOp a.eval o).run P w= .ok (.value u) w)→ ∃x u st' ρ',K x st'∧Rel g N bs ρ' a w st'∧C2 (aB g w ρ' st'.heap) x u∧ ∀w',(execOp a.eval o).run P w'= .ok (.value u) w':=by
  rintro m hm e ⟨x,u,h1,h2,h3⟩
  refine⟨x,u,st,ρ,h1,R,h2,fun w'=> ?_⟩
  rw[e]at h3⊢
  exact(ak.bind hm (fun _=>ak.pure _) w w' _ _ h3).2
 have plain: ∀ {u0:Value},(execOp a.eval o=pure (.value u0))→(∃x u,K x st∧C2 (aB g w ρ st.heap) x u∧(execOp a.eval o).run P w= .ok (.value u) w)→ ∃x u st' ρ',K x st'∧Rel g N bs ρ' a w st'∧C2 (aB g w ρ' st'.heap) x u∧ ∀w',(execOp a.eval o).run P w'= .ok (.value u) w':=by
  rintro u0 e ⟨x,u,h1,h2,h3⟩
  refine⟨x,u,st,ρ,h1,R,h2,fun w'=> ?_⟩
  rw[e]at h3⊢
  simp only[Sem.run_pure]at h3⊢
  cases h3
  rfl
 have quiet:lu o.op=true→ ∃x u,K x st∧C2 (aB g w ρ st.heap) x u∧(execOp a.eval o).run P w= .ok (.value u) w:=fun hq=>xE hL R hq h
 unfold vN at hp
 split at hp
 · rename_i x e
   exact plain (u0:=a.eval x) (by simp only[execOp,e]) (quiet (by rw[e];rfl))
 · rename_i x e
   exact plain (u0:=a.eval x) (by simp only[execOp,e]) (quiet (by rw[e];rfl))
 · rename_i c x y e
   refine fin (m:=do pure (if←asBool (a.eval c)then a.eval x else a.eval y)) (ak.bind (ak.asBool _) fun _=>ak.pure _) ?_ (quiet (by rw[e];rfl))
   intro w
   simp only[execOp,e]
   cases hc:a.eval c<;>rfl
 · rename_i x i e
   exact fin (ak.extract (a.eval x) i) (fun _=>by simp only[execOp,e]) (quiet (by rw[e];rfl))
 · rename_i t x i e
   have h':nN L t (st.ev x) i (fun y=>K y st):=by rw[e]at h;exact h
   exact fin (m:=Instr.fieldAt t (a.eval x) i) (ak.fieldAt hL h') (fun _=>by simp only[execOp,e]) (quiet (by rw[e];rfl))
 · rename_i t x i e
   exact fin (ak.indexAt t (a.eval x) (a.eval i)) (fun _=>by simp only[execOp,e]) (quiet (by rw[e];rfl))
 · rename_i op t x e
   exact fin (ak.unary op (a.eval x)) (fun _=>by simp only[execOp,e]) (quiet (by rw[e];rfl))
 · rename_i t parts e
   have h':Bv L st.heap t (parts.toList.map fun p=>(p.1,st.ev p.2)) (fun y=>K y st):=by rw[e]at h;exact h
   exact fin (m:=Instr.build t (parts.map fun(i,x)=>(i,a.eval x))) (ak.aag hL h') (fun _=>by simp only[execOp,e]) (quiet (by rw[e];rfl))
 · rename_i t x i e
   exact fin (ak.field t (a.eval x) i) (fun _=>by simp only[execOp,e]) (quiet (by rw[e];rfl))
 · rename_i t x i e
   exact fin (ak.index t (a.eval x) (a.eval i)) (fun _=>by simp only[execOp,e]) (quiet (by rw[e];rfl))
 · rename_i x e
   have hx:=R.ev x
   have: ∃b q,a.eval x= .pointer (some ⟨b,q,none⟩):=by
    cases hev:st.ev x with
    | box id off=>
      rw[hev]at hx
      obtain⟨b,_,h⟩: ∃b,dZ (ρ id)= .pointer (some ⟨b,0,none⟩)∧a.eval x= .pointer (some ⟨b,off,none⟩):=hx
      exact⟨b,off,h⟩
    |_=>rw[hev]at hp;cases hp
   obtain⟨b,q,hb⟩:=this
   exact plain (u0:=a.eval x) (by simp only[execOp,e,hb]) (quiet (by rw[e];rfl))
 · rename_i op t x y ty e
   refine fin (m:=do eqGuard op t x y (a.eval x) (a.eval y);binOp op t (a.eval x) (a.eval y)) ?_ (fun _=>by simp only[execOp,e]) (quiet (by rw[e];rfl))
   simp only[Bool.or_eq_true,Bool.and_eq_true]at hp
   rcases hp with⟨h1,h2⟩|⟨h1,h2⟩
   · obtain⟨k,n,e1⟩:=Fe (R.ev x) h1
     obtain⟨k',m,e2⟩:=Fe (R.ev y) h2
     rw[e1,e2]
     exact ak.bind (ak.adw _ _ _ _ _ _ _ _) fun _=>ak.acg _ _ _ _ _ _
   · obtain⟨k,e1⟩:=Nw (R.ev x) h1
     obtain⟨k',e2⟩:=Nw (R.ev y) h2
     rw[e1,e2]
     exact ak.bind (ak.eqStr _ _ _ _ _ _) fun _=>ak.ach _ _ _ _
 · rename_i s t x e
   refine fin (m:=convert s t (a.eval x)) ?_ (fun _=>by simp only[execOp,e]) (quiet (by rw[e];rfl))
   simp only[Bool.and_eq_true]at hp
   obtain⟨k,n,e1⟩:=Fe (R.ev x) hp.1
   obtain⟨k',hk⟩:=aah hL hp.2
   rw[e1]
   exact ak.aae hk _ _
 · rename_i t x lo hi e
   have h':=h
   rw[e]at h'
   obtain⟨z,u,st',ρ',h1,h2,h3,h4,h5⟩:=ES (mx:=none) hL R (R.ev x) h'
   refine⟨z,u,st',ρ',h1,h2,h3,fun w'=> ?_⟩
   have hval:(∃A n c,a.eval x= .slice A n c)∨(∃s,a.eval x= .string s)∨ ∃A,a.eval x= .pointer (some A):=by
    cases hev:st.ev x with
    | own id=>
      obtain⟨e1,s1,n1,sc1,f1,hfo⟩:=Qm hev (show aslice L st t (st.ev x) (lo.map st.ev) (hi.map st.ev) none K from h')
      have hx:=R.ev x
      rw[hev]at hx
      obtain⟨us,hown,_⟩:=R.objs _ (au hfo)
      have hown:w.ownsRow 0 e1 s1 (ρ id) n1 us:=hown
      have hxv:a.eval x=ρ id:=(C2.jR hx).trans (fQ hown)
      rcases hown.2 with⟨hv,_⟩|⟨b,cap,cur,hv,_⟩<;>exact .inl ⟨_,_,_,hxv.trans hv⟩
    | box id k=>
      have hx:=R.ev x
      rw[hev]at hx
      obtain⟨b,_,hv⟩:=C2.kJ hx
      exact .inr (.inr ⟨_,hv⟩)
    |_=>exact(Fg (R.ev x) (by rw[hev]at hp⊢;exact hp)).imp_right .inl
   have:=((ak.slice (P:=P) t hval (lo.map a.eval) (hi.map a.eval)) w w' _ _ h4).2
   simp only[execOp,e,Sem.run_bind,Option.map_none,this,Result.andThen_ok,Sem.run_pure]
 · rename_i t x e
   exact fin (m:=Instr.arrayAt t (a.eval x)) (ak.arrayAt t (a.eval x)) (fun _=>by simp only[execOp,e]) (quiet (by rw[e];rfl))
 · rename_i xs ts e
   split at hp
   · rename_i t x e1 e2
     have ht:ts= #[t]:=by apply Array.ext';simpa using e1
     have hx:xs= #[x]:=by apply Array.ext';simpa using e2
     subst ht hx
     refine fin (m:=Builtin.len_ #[t] o.type #[a.eval x]) (ak.len _ _ (Fg (R.ev x) hp)) ?_ (quiet (by rw[e];rfl))
     intro w
     simp only[execOp,e,resolve,Sem.run_bind,Sem.run_pure,Result.andThen_ok,invoke]
     simp[builtin]
   · cases hp
 · cases hp
end
end
section
open Go.RowKit
def xI:Op→Option (List Operand)
  | .alloc _=>some []
  | .move x=>some [x]
  | .assign x=>some [x]
  | .box _ x=>some [x]
  | .load _ x=>some [x]
  | .nilCheck x=>some [x]
  | .unOp _ _ x=>some [x]
  | .convert _ _ x=>some [x]
  | .sliceToArrayPointer _ x=>some [x]
  | .fieldAddr _ x _=>some [x]
  | .field _ x _=>some [x]
  | .extract x _=>some [x]
  | .pick c a b=>some [c,a,b]
  | .build _ ps=>some (ps.toList.map (·.2))
  | .buildSlice _ _ ps=>some (ps.toList.map (·.2))
  | .store _ a v=>some [a,v]
  | .binOp _ _ a v _=>some [a,v]
  | .indexAddr _ a v=>some [a,v]
  | .index _ a v=>some [a,v]
  | .slice _ x l h m=>some ([x]++l.toList++h.toList++m.toList)
  | .makeFunc _ f c=>some (f.toList++c.toList)
  | .call {callee:= .builtin _,args:=xs,.. }=>some xs.toList
  | .call {callee:= .value f,args:=xs,.. }=>some (f::xs.toList)
  |_=>none
theorem KF {o:Op} {l:List Operand} (h:xI o=some l):o.operands.toList=l:=by
 unfold xI at h
 split at h<;>simp only[Option.some.injEq,reduceCtorEq]at h<;>subst h<;>simp[Op.operands,Call.operands]
def Nz (d:Nat):List Operand→Bool
  |[]=>false
  | .tmp t::l=>Nat.beq t d||Nz d l
  |_::l=>Nz d l
theorem Fh {d:Nat}: ∀ {l:List Operand},Nz d l=false→ ∀t,t∈(l.filterMap fun| .tmp t=>some t|_=>none)→t≠d
  |[],_,t,ht=>by simp at ht
  | x ::l,h,t,ht=>by
    cases x with
    | tmp t'=>
      simp only[Nz,Bool.or_eq_false_iff]at h
      simp only[List.filterMap_cons,List.mem_cons]at ht
      rcases ht with rfl|ht
      · exact fun e=>by rw[e]at h;simp at h
      · exact Fh h.2 t ht
    |_=>exact Fh (l:=l) h t (by simpa using ht)
def vO (ops:List Oper) (o:Oper) (d:Nat):Bool:=
 (match xI o.op with|some l=>Nz d l|none=>true)||
 (match o.guard with
  |some (j,_)=>(match ops[j]? with|some oj=>(match oj.dst with|some t=>Nat.beq t d|none=>false)|none=>false)
  |none=>false)
theorem pU {ops:List Oper} {o:Oper} {d:Nat} (h:vO ops o d=false):(o.looksAt ops.toArray).contains d=false:=by
 simp only[vO,Bool.or_eq_false_iff]at h
 obtain⟨h1,h2⟩:=h
 rw[Bool.eq_false_iff]
 intro hc
 have hm:d∈o.looksAt ops.toArray:=by simpa using hc
 unfold Oper.looksAt at hm
 rcases List.mem_append.1 hm with hm|hm
 · cases hl:xI o.op with
   |none=>rw[hl]at h1;cases h1
   | some l=>
     rw[hl]at h1
     rw[KF hl]at hm
     exact Fh h1 d hm rfl
 · cases hg:o.guard with
   |none=>rw[hg]at hm;simp at hm
   | some gd=>
     obtain⟨j,wnt⟩:=gd
     rw[hg]at hm h2
     simp only[List.getElem?_toArray,Option.mem_toList]at hm
     dsimp only at h2
     cases hj:ops[j]? with
     |none=>rw[hj]at hm;simp at hm
     | some oj=>
       rw[hj]at hm h2
       simp only[Option.bind_some]at hm
       dsimp only at h2
       rw[hm]at h2
       simp at h2
def Sm (o:Oper) (d:Nat):Bool:=match o.dst with|some t=>Nat.beq t d|none=>false
def apartB (ops:List Oper) (x y:Oper):Bool:=
 (match x.dst with|some d=> !(vO ops y d)&& !(Sm y d)|none=>true)&&
 (match y.dst with|some d=> !(vO ops x d)|none=>true)
theorem UD {ops:List Oper} {x y:Oper} (h:apartB ops x y=true):x.apart ops.toArray y=true:=by
 simp only[apartB,Bool.and_eq_true]at h
 obtain⟨h1,h2⟩:=h
 unfold Oper.apart
 rw[Bool.and_eq_true]
 constructor
 · cases hx:x.dst with
   |none=>rfl
   | some d=>
     rw[hx]at h1
     simp only[Bool.and_eq_true,Bool.not_eq_true']at h1
     dsimp only
     rw[pU h1.1]
     have h3:=h1.2
     unfold Sm at h3
     cases hy:y.dst with
     |none=>rfl
     | some t=>
       rw[hy]at h3
       have:t≠d:=fun e=>by rw[e]at h3;simp at h3
       simp[this]
 · cases hy:y.dst with
   |none=>rfl
   | some d=>
     rw[hy]at h2
     simp only[Bool.not_eq_true']at h2
     dsimp only
     rw[pU h2]
     rfl
def kW (k:Nat):List Nat→Bool
  |[]=>false
  |j::l=>Nat.beq j k||kW k l
def XE (n:Nat) (done:List Nat) (listed:Array Bool):Prop:=listed.size=n∧ ∀k,k<n→listed[k]? =some (kW k done)
theorem XE.H6 {n:Nat} {done:List Nat} {listed:Array Bool} (h:XE n done listed) {k:Nat} (hk:k<n) (d:Bool):listed.getD k d=kW k done:=by
 have:=h.2 k hk
 rw[Array.getD_eq_getD_getElem?,this]
 rfl
theorem XE.set {n:Nat} {done:List Nat} {listed:Array Bool} (h:XE n done listed) {i:Nat} (hi:i<n):XE n (i::done) (listed.setIfInBounds i true):=by
 refine⟨by simp[h.1],fun k hk=> ?_⟩
 rw[Array.getElem?_setIfInBounds]
 by_cases e:i=k
 · subst e
   simp[h.1,hi,kW]
 · rw[if_neg e,h.2 k hk]
   simp[kW,beq_false e]
def tX (n:Nat) (done:List Nat):List Edge→Bool
  |[]=>true
  |e::l=>(!(Region.binds .any e)||(Nat.ble (e.on+1) n&&kW e.on done))&&tX n done l
theorem BH {n:Nat} {done:List Nat} {listed:Array Bool} (h:XE n done listed): ∀ {l:List Edge},tX n done l=true↔ ∀e∈l,Region.binds .any e=true→listed.getD e.on false=true
  |[]=>by simp[tX]
  | e :: l=>by
    simp only[tX,Bool.and_eq_true,Bool.or_eq_true,Bool.not_eq_true',BH h (l:=l),List.mem_cons,forall_eq_or_imp]
    refine and_congr ⟨fun h1 hb=> ?_,fun h1=> ?_⟩ Iff.rfl
    · rcases h1 with h1|⟨h1,h2⟩
      · rw[hb]at h1;cases h1
      · rw[h.H6 (Nat.le_of_ble_eq_true h1)];exact h2
    · cases hb:Region.binds .any e with
      |false=>exact .inl rfl
      | true=>
        have h2:=h1 hb
        have hlt:e.on<n:=by
         rcases Nat.lt_or_ge e.on n with h'|h'
         · exact h'
         · rw[Array.getD_eq_getD_getElem?,Array.getElem?_eq_none (by rw[h.1];exact h')]at h2;cases h2
        exact .inr ⟨Nat.ble_eq_true_of_le hlt,by rw[←h.H6 hlt false];exact h2⟩
def gK (n:Nat) (done:List Nat):Nat→List Oper→List Nat
  |_,[]=>[]
  |k,o::r=>bif !(kW k done)&&tX n done o.after.toList then k::gK n done (k+1) r else gK n done (k+1) r
theorem CV {n:Nat} {done:List Nat} {j:Nat}: ∀ {l:List Oper} {k:Nat},j∈gK n done k l↔ ∃i o,j=k+i∧l[i]? =some o∧kW j done=false∧tX n done o.after.toList=true
  |[],k=>by simp[gK]
  | o ::l,k=>by
    have ih:=CV (n:=n) (done:=done) (j:=j) (l:=l) (k:=k+1)
    have key:(∃i o',j=k+i∧(o::l)[i]? =some o'∧kW j done=false∧tX n done o'.after.toList=true)↔(j=k∧kW j done=false∧tX n done o.after.toList=true)∨j∈gK n done (k+1) l:=by
     rw[ih]
     constructor
     · rintro⟨i,o',h1,h2,h3⟩
       cases i with
       |zero=>simp only[List.getElem?_cons_zero,Option.some.injEq]at h2;subst h2;exact .inl ⟨h1,h3⟩
       |succ i=>exact .inr ⟨i,o',by omega,by simpa using h2,h3⟩
     · rintro(⟨h1,h3⟩|⟨i,o',h1,h2,h3⟩)
       · exact⟨0,o,by omega,rfl,h3⟩
       · exact⟨i+1,o',by omega,by simpa using h2,h3⟩
    rw[key]
    simp only[gK]
    cases hb:(!(kW k done)&&tX n done o.after.toList)with
    | true=>
      simp only[Bool.and_eq_true,Bool.not_eq_true']at hb
      simp only[cond_true,List.mem_cons]
      constructor
      · rintro(rfl|h)
        · exact .inl ⟨rfl,hb⟩
        · exact .inr h
      · rintro(h|h)
        · exact .inl h.1
        · exact .inr h
    | false=>
      simp only[cond_false]
      constructor
      · exact .inr
      · rintro(⟨rfl,h1,h2⟩|h)
        · rw[h1,h2]at hb;cases hb
        · exact h
theorem kX {ops:List Oper} {done:List Nat} {listed:Array Bool} (h:XE ops.length done listed) {j:Nat}:j∈Region.ready .any ops.toArray listed↔j∈gK ops.length done 0 ops:=by
 rw[mem_ready,CV]
 constructor
 · rintro⟨h1,o,h2,h3⟩
   have h2:ops[j]? =some o:=by simpa using h2
   have hlt:j<ops.length:=(List.getElem?_eq_some_iff.1 h2).1
   exact⟨j,o,by omega,h2,by rw[←h.H6 hlt true];exact h1,(BH h).2 fun e he=>h3 e (by simpa using he)⟩
 · rintro⟨i,o,h1,h2,h3,h4⟩
   obtain rfl:j=i:=by omega
   have hlt:j<ops.length:=(List.getElem?_eq_some_iff.1 h2).1
   exact⟨by rw[h.H6 hlt];exact h3,o,by simpa using h2,fun e he=>(BH h).1 h4 e (by simpa using he)⟩
def Fj (i:Nat):List Edge→Bool
  |[]=>false
  |e::l=>(Region.binds .any e&&Nat.beq e.on i)||Fj i l
theorem BI {i:Nat}: ∀ {l:List Edge},Fj i l=true→ ∃e∈l,Region.binds .any e=true∧e.on=i
  |[],h=>by cases h
  | e ::l,h=>by
    simp only[Fj,Bool.or_eq_true,Bool.and_eq_true]at h
    rcases h with⟨h1,h2⟩|h
    · exact⟨e,List.mem_cons_self,h1,Nat.eq_of_beq_eq_true h2⟩
    · obtain⟨e',h1,h2⟩:=BI h
      exact⟨e',List.mem_cons_of_mem _ h1,h2⟩
def CW (ops:List Oper) (done:List Nat) (i:Nat) (oi:Oper):Nat→List Oper→Bool
  |_,[]=>true
  |k,o::r=>(Nat.beq k i||kW k done||Fj i o.after.toList||apartB ops oi o)&&CW ops done i oi (k+1) r
theorem NC {ops:List Oper} {done:List Nat} {i:Nat} {oi:Oper}: ∀ {l:List Oper} {k:Nat},CW ops done i oi k l=true→ ∀ (j:Nat) (oj:Oper),l[j]? =some oj→k+j≠i→kW (k+j) done=false→(∀e∈oj.after,Region.binds .any e=true→e.on≠i)→oi.apart ops.toArray oj=true
  |[],k,_,j,oj,hj=>by simp at hj
  | o ::l,k,h,j,oj,hj=>by
    simp only[CW,Bool.and_eq_true,Bool.or_eq_true]at h
    obtain⟨h1,h2⟩:=h
    intro hne hm hw
    cases j with
    | zero=>
      simp only[List.getElem?_cons_zero,Option.some.injEq]at hj
      subst hj
      rcases h1 with((h1|h1)|h1)|h1
      · exact absurd (Nat.eq_of_beq_eq_true h1) (by simpa using hne)
      · rw[Nat.add_zero]at hm;rw[hm]at h1;cases h1
      · obtain⟨e,he,hb,hi⟩:=BI h1
        exact absurd hi (hw e (by simpa using he) hb)
      · exact UD h1
    | succ j=>
      refine NC h2 j oj (by simpa using hj) (by omega) (by rw[show k+1+j=k+(j+1) by omega];exact hm) hw
def vP (N:Nat) (st:AS) (ops:List Oper) (o:Oper):Option Bool:=
 match o.guard with
 |none=>some true
 | some (j,want)=>match ops[j]? with
   | some oj=>(match oj.dst with
     |some dj=>bif Nat.ble (dj+1) N then(match st.tmps dj with| .v (.bool b)=>some (b==want)| .v (.tuple _)=>some false|_=>none)else none
     |none=>none)
   |none=>none
def vS (L:Lay) (N:Nat) (st:AS) (ops:List Oper) (done:List Nat):List Nat→Option Nat
  |[]=>none
  | i::r=>match ops[i]? with
    |some o=>bif (match vP N st ops o with|some true=>vN L st o.op|some false=>true|none=>false)&&CW ops done i o 0 ops then some i else vS L N st ops done r
    |none=>vS L N st ops done r
def oK (P:Program) (L:Lay) (W:Walk) (N:Nat) (ops:List Oper) (o:Oper) (st:AS) (K:AS→Prop):Prop:=
 match vP N st ops o with
 |some true=>yN P L W o.dst st o.op (fun x st'=>oP N st' o.dst x K)
 |some false=>oP N st o.dst (.v undef) K
 |none=>False
structure Both (A B:Prop):Prop where
 one:A
 two:B
def UE (F:Nat→Prop):List Nat→Prop
  |[]=>True
  |[j]=>F j
  |j::l=>Both (F j) (UE F l)
theorem ND {F:Nat→Prop}: ∀ {l:List Nat},UE F l→ ∀j∈l,F j
  |[],_,j,hj=>by cases hj
  |[i],h,j,hj=>by rw[List.mem_singleton.1 hj];exact h
  | i::k::l,h,j,hj=>by
    rcases List.mem_cons.1 hj with rfl|hj
    · exact h.one
    · exact ND h.two j hj
def tY (P:Program) (L:Lay) (W:Walk) (N:Nat) (n:Nat) (ops:List Oper) (Q:AS→Prop):Nat→List Nat→AS→Prop
  |0,done,st=>(match gK n done 0 ops with|[]=>Q st|_::_=>False)
  | f +1,done,st=>match gK n done 0 ops with
    |[]=>Q st
    | i::r=>match vS L N st ops done (i::r)with
      |some j=>(match ops[j]? with|some o=>oK P L W N ops o st (tY P L W N n ops Q f (j::done))|none=>False)
      |none=>UE (fun j=>match ops[j]? with|some o=>oK P L W N ops o st (tY P L W N n ops Q f (j::done))|none=>False) (i::r)
section
variable {P:Program} {L:Lay} {g:Base} {N:Nat} {bs:List (Array Value)} {ρ:Nat→Value} {a:Act} {w:World} {st:AS}
theorem lF (R:Rel g N bs ρ a w st) {ops:List Oper} {o:Oper} {b:Bool} (h:vP N st ops o=some b):Region.wanted o (yielded ops.toArray a.tmps)=b:=by
 obtain⟨dst,op,ty,pos,after,guard⟩:=o
 unfold vP at h
 cases guard with
 |none=>cases h;rfl
 | some gd =>
   obtain⟨j,want⟩:=gd
   dsimp only at h
   split at h
   · rename_i oj hoj
     split at h
     · rename_i dj hdj
       cases hb:Nat.ble (dj+1) N with
       |false=>rw[hb]at h;cases h
       | true=>
         rw[hb,cond_true]at h
         have hlt:=Nat.le_of_ble_eq_true hb
         have hd:=R.tmps dj
         have hget:a.tmps[dj]? =some (a.tmps.getD dj undef):=by
          have:dj<a.tmps.size:=by rw[R.size];exact hlt
          simp[this]
         have hops:((ops.toArray[j]?).bind (·.dst))=some dj:=by simp[hoj,hdj]
         split at h
         · rename_i b' eb
           rw[eb]at hd
           have hd:=C2.dK hd
           have hy:yielded ops.toArray a.tmps j=some b':=by
            unfold yielded
            rw[hops]
            simp only[Option.bind_some,hget,hd]
           simp only[Option.some.injEq]at h
           simp only[Region.wanted,hy]
           rw[←h]
           cases b'<;>cases want<;>rfl
         · rename_i vs eb
           rw[eb]at hd
           have hd:=C2.dK hd
           have hy:yielded ops.toArray a.tmps j=none:=by
            unfold yielded
            rw[hops]
            simp only[Option.bind_some,hget,hd]
           cases h
           simp only[Region.wanted,hy]
           rfl
         · cases h
     · cases h
   · cases h
theorem Fp {ops:List Oper} {done:List Nat} {j:Nat}: ∀ {l:List Nat},vS L N st ops done l=some j→j∈l∧ ∃o,ops[j]? =some o∧CW ops done j o 0 ops=true∧((vP N st ops o=some true∧vN L st o.op=true)∨vP N st ops o=some false)
  |[],h=>by cases h
  | i :: r, h=>by
    have rest:vS L N st ops done r=some j→j∈i::r∧ ∃o,ops[j]? =some o∧CW ops done j o 0 ops=true∧((vP N st ops o=some true∧vN L st o.op=true)∨vP N st ops o=some false):=fun h=>
     ⟨List.mem_cons_of_mem _ (Fp h).1,(Fp h).2⟩
    simp only[vS]at h
    cases ho:ops[i]? with
    |none=>rw[ho]at h;exact rest h
    | some o=>
      rw[ho]at h
      dsimp only at h
      cases hw:vP N st ops o with
      |none=>rw[hw]at h;exact rest h
      | some b=>
        rw[hw]at h
        cases b with
        | true=>
          dsimp only at h
          cases hb:(vN L st o.op&&CW ops done i o 0 ops)with
          |false=>rw[hb]at h;exact rest h
          | true=>
            rw[hb]at h
            simp only[cond_true,Option.some.injEq]at h
            subst h
            simp only[Bool.and_eq_true]at hb
            exact⟨List.mem_cons_self,o,ho,hb.2,.inl ⟨hw,hb.1⟩⟩
        | false=>
          dsimp only at h
          cases hb:(true&&CW ops done i o 0 ops)with
          |false=>rw[hb]at h;exact rest h
          | true=>
            rw[hb]at h
            simp only[cond_true,Option.some.injEq]at h
            subst h
            simp only[Bool.true_and]at hb
            exact⟨List.mem_cons_self,o,ho,hb,.inr hw⟩
theorem NG (hL:bQ P L) {W:Walk} (hW:Hz P W) {ops:List Oper} (hs:Region.noSelect ops.toArray=true) {Q:AS→Prop} {E:Exit→Act→World→Prop} (hE: ∀e a w,e≠ .normal→ ¬E e a w) (hQ: ∀ρ a w st,Rel g N bs ρ a w st→Q st→E .normal a w):
  ∀ (f:Nat) {done:List Nat} {listed:Array Bool} {ρ:Nat→Value} {a:Act} {w:World} {st:AS},XE ops.length done listed→Rel g N bs ρ a w st→tY P L W N ops.length ops Q f done st→wpAny P .any ops.toArray E f listed a w
  | 0,done,listed,ρ,a,w,st,hl,R,h=>by
    simp only[tY]at h
    split at h
    · rename_i e
      refine⟨?_,hQ _ _ _ _ R h⟩
      cases hr:Region.ready .any ops.toArray listed with
      |nil=>rfl
      | cons j r=>
        have:j∈gK ops.length done 0 ops:=(kX hl).1 (by rw[hr];exact List.mem_cons_self)
        rw[e]at this
        cases this
    · exact h.elim
  | f + 1, done,listed,ρ,a,w,st,hl,R,h=>by
    have ih:= @NG hL W hW ops hs Q E hE hQ f
    simp only[tY]at h
    split at h
    · rename_i e
      have hr:Region.ready .any ops.toArray listed=[]:=by
       cases hr:Region.ready .any ops.toArray listed with
       |nil=>rfl
       | cons j r=>
         have:j∈gK ops.length done 0 ops:=(kX hl).1 (by rw[hr];exact List.mem_cons_self)
         rw[e]at this
         cases this
      exact wpAny_done hr (hQ _ _ _ _ R h) _
    · rename_i i r e
      have hne:Region.ready .any ops.toArray listed≠[]:=fun h0=>by
       have:i∈Region.ready .any ops.toArray listed:=(kX hl).2 (by rw[e];exact List.mem_cons_self)
       rw[h0]at this
       cases this
      split at h
      · rename_i j hp
        obtain⟨hm,o,ho,hf,hw⟩:=Fp hp
        rw[ho]at h
        dsimp only at h
        have hlt:j<ops.length:=(List.getElem?_eq_some_iff.1 ho).1
        have hr:j∈Region.ready .any ops.toArray listed:=(kX hl).2 (by rw[e];exact hm)
        have Wv:ops.toArray[j]? =some o:=by simpa using ho
        have hfree: ∀j' oj,ops.toArray[j']? =some oj→j'≠j→listed.getD j' true=false→(∀e∈oj.after,Region.binds .any e=true→e.on≠j)→o.apart ops.toArray oj=true:=by
         intro j' oj h1 h2 h3 h4
         have h1':ops[j']? =some oj:=by simpa using h1
         have hlt':j'<ops.length:=(List.getElem?_eq_some_iff.1 h1').1
         refine NC hf j' oj h1' (by omega) ?_ h4
         rw[Nat.zero_add,←hl.H6 hlt' true]
         exact h3
        have take: ∀ {v:Value},Yields P ops.toArray o v a→wpAny P .any ops.toArray E f (listed.setIfInBounds j true) (a.put o.dst v) w→wpAny P .any ops.toArray E (f+1) listed a w:=
         fun hy H=>wpAny_first Wv (Region.noSelect_spec hs) (fun c a w h=>absurd h (hE _ _ _ (by simp))) f listed a w hfree hr hy H
        unfold oK at h
        rcases hw with⟨hw,hpu⟩|hw
        · rw[hw]at h
          dsimp only at h
          have go: ∀d,P6 P L W d st o.op (fun x st'=>oP N st' o.dst x (tY P L W N ops.length ops Q f (j::done)))→wpAny P .any ops.toArray E (f+1) listed a w:=by
           intro d hd
           obtain⟨x,u,st',ρ',h1,R1,h2,h3⟩:=Ny hL R hpu hd
           obtain⟨st2,k2,R2⟩:=iE R1 h2 h1
           exact take (.inl ⟨lF R hw,h3⟩) (ih (hl.set hlt) R2 k2)
          unfold yN at h
          cases hd:o.dst with
          |none=>rw[hd]at h;dsimp only at h;exact go 0 (by rw[hd];exact h)
          |some d=>rw[hd]at h;dsimp only at h;exact go d (by rw[hd];exact h)
        · rw[hw]at h
          dsimp only at h
          obtain⟨st2,k2,R2⟩:=iE R (show C2 (aB g w ρ st.heap) (.v undef) undef from rfl) h
          exact take (.inr ⟨lF R hw,rfl⟩) (ih (hl.set hlt) R2 k2)
      · rw [←e]at h
        refine⟨fun h0=>absurd h0 hne,fun j hj=> ?_⟩
        have hjm:=(kX hl).1 hj
        have hF:=ND h j hjm
        cases ho:ops[j]? with
        |none=>rw[ho]at hF;exact hF.elim
        | some o=>
          rw[ho]at hF
          dsimp only at hF
          have hlt:j<ops.length:=(List.getElem?_eq_some_iff.1 ho).1
          have Wv:ops.toArray[j]? =some o:=by simpa using ho
          unfold wpOp
          rw[Wv]
          dsimp only
          unfold oK at hF
          split at hF
          · rename_i hw
            rw[lF R hw]
            simp only[if_true]
            refine .inl ?_
            have go: ∀d,P6 P L W d st o.op (fun x st'=>oP N st' o.dst x (tY P L W N ops.length ops Q f (j::done)))→o.wp P a w (wpAny P .any ops.toArray E f (listed.setIfInBounds j true)) E:=by
             intro d hd
             refine DY hL hW R (d:=d) hd ?_
             intro x st' u ρ' w' hx R' hc
             obtain⟨st2,h2,R2⟩:=iE R' hc hx
             exact ih (hl.set hlt) R2 h2
            unfold yN at hF
            cases hd:o.dst with
            |none=>rw[hd]at hF;dsimp only at hF;exact go 0 (by rw[hd];exact hF)
            |some d=>rw[hd]at hF;dsimp only at hF;exact go d (by rw[hd];exact hF)
          · rename_i hw
            rw[lF R hw]
            simp only[Bool.false_eq_true,if_false]
            obtain⟨st2,k2,R2⟩:=iE R (show C2 (aB g w ρ st.heap) (.v undef) undef from rfl) hF
            exact ih (hl.set hlt) R2 k2
          · exact hF.elim
theorem iG.any (hL:bQ P L) {W:Walk} (hW:Hz P W) {id:Nat} {ops:Array Oper} {K:AS→Prop} {st:AS} (hm:P.follows .mixedOrders=true) (hs:Region.noSelect ops=true) (h:tY P L W N ops.toList.length ops.toList K ops.toList.length [] st):iG P L W N id ops K st:=by
 refine .sem fun g bs ρ a w E R hK=> ?_
 refine Code.wp_mono (Q:=fun e a w=>e= .normal∧E .normal a w) (fun e a w h=>by obtain⟨rfl,h⟩:=h;exact h) ?_
 have e1:ops.size=ops.toList.length:=by simp
 refine wp_region_any hm ?_
 have hl:XE ops.toList.length [] (Array.replicate ops.size false):=by
  refine⟨by simp,fun k hk=> ?_⟩
  rw[Array.getElem?_replicate,if_pos (by rw[e1];exact hk)]
  rfl
 have R':Rel g N bs ρ a w.drew st:=R.world (Below.refl _ _).drew
 have:=NG (g:=g) (bs:=bs) (N:=N) hL hW (ops:=ops.toList) (by simpa using hs) (Q:=K) (E:=fun e a w=>e= .normal∧E .normal a w) (fun e a w hne h=>hne h.1) (fun ρ a w st R h=>⟨rfl,hK ρ a w st R h⟩) ops.toList.length hl R' h
 rw[e1]
 simpa using this
theorem iG.cut (hL:bQ P L) {W:Walk} (hW:Hz P W) {id:Nat} {ops:Array Oper} {K:AS→Prop} {st:AS} (S:AS) (hm:P.follows .mixedOrders=true) (hs:Region.noSelect ops=true) (h:tY P L W N ops.toList.length ops.toList (fun st'=>Ey st' S) ops.toList.length [] st) (hK:K S):iG P L W N id ops K st:=by
 have:=iG.any (P:=P) (L:=L) (N:=N) (id:=id) hL hW hm hs h
 cases this with
 | quiet hm hB hq h=>
   refine .sem fun g bs ρ a w E R hE=> ?_
   refine wp_region_quiet (C:=fun w'=>w'=w.drew) hm hB rfl ?_
   have R':Rel g N bs ρ a w.drew st:=R.world (Below.refl _ _).drew
   exact vK hL (E:=fun a w=>E .normal a w) (ops:=ops.toList) (fun a w1 st R h=>hE _ _ _ _ (R.less h) hK) ops.toList hq R' h
 |sem h=>exact .sem fun g bs ρ a w E R hE=>h g bs ρ a w E R fun ρ a w st R h=>hE _ _ _ _ (R.less h) hK
end
end
section
open Go.RowKit
def Qn (P:Program) (L:Lay) (W:Walk) (N:Nat) (n:Nat) (ops:List Oper) (Q:AS→Prop):Nat→List Nat→AS→Prop
  |0,_,st=>Q st
  | f +1,done,st=>match gK n done 0 ops with
    |[]=>Q st
    | i::r=>match vS L N st ops done (i::r)with
      |some j=>(match ops[j]? with|some o=>oK P L W N ops o st (Qn P L W N n ops Q f (j::done))|none=>False)
      |none=>(match ops[i]? with|some o=>oK P L W N ops o st (Qn P L W N n ops Q f (i::done))|none=>False)
def slotsOf (st:AS) (N:Nat):Nat→Nat→(List (Nat×AV)→Prop)→Prop
  |0,_,K=>K []
  | f+1,k,K=>bif Nat.ble N k then K []else match st.tmps k with
    | .junk=>slotsOf st N f (k+1) K
    | .v (.tuple _)=>slotsOf st N f (k+1) K
    | .v x=>slotsOf st N f (k+1) (fun l=>K ((k,.v x)::l))
    | .agg cs=>slotsOf st N f (k+1) (fun l=>K ((k,.agg cs)::l))
    | .dL vs=>slotsOf st N f (k+1) (fun l=>K ((k,.dL vs)::l))
    | .sl s m sc g=>slotsOf st N f (k+1) (fun l=>K ((k,.sl s m sc g)::l))
    | .own i=>slotsOf st N f (k+1) (fun l=>K ((k,.own i)::l))
    | .dP i s j m=>slotsOf st N f (k+1) (fun l=>K ((k,.dP i s j m)::l))
    | .ji i s j m=>slotsOf st N f (k+1) (fun l=>K ((k,.ji i s j m)::l))
    | .box i m=>slotsOf st N f (k+1) (fun l=>K ((k,.box i m)::l))
    | .cf g i m=>slotsOf st N f (k+1) (fun l=>K ((k,.cf g i m)::l))
    | .el cs m=>slotsOf st N f (k+1) (fun l=>K ((k,.el cs m)::l))
    | .fn g cs=>slotsOf st N f (k+1) (fun l=>K ((k,.fn g cs)::l))
theorem yU {st:AS} {N:Nat}: ∀ {f k:Nat} {K:List (Nat×AV)→Prop},slotsOf st N f k K→ ∃l,K l
  |0,_,_,h=>⟨[],h⟩
  | f +1,k,K,h=>by
    simp only[slotsOf]at h
    cases hb:Nat.ble N k with
    |true=>rw[hb]at h;exact⟨[],h⟩
    | false=>
      rw[hb]at h
      simp only[cond_false]at h
      split at h<;>(obtain⟨l,hl⟩:=yU h;exact⟨_,hl⟩)
def Ai (st:AS):List (Nat×AV)→List AV
  |[]=>[]
  |p::l=>st.tmps p.1::Ai st l
def valsOf:List (Nat×AV)→List AV
  |[]=>[]
  |p::l=>p.2::valsOf l
def KG (st:AS):List (Nat×AO)→List (Option AO)
  |[]=>[]
  |p::l=>aP p.1 st.heap::KG st l
def KH:List (Nat×AO)→List (Option AO)
  |[]=>[]
  |p::l=>some p.2::KH l
theorem BJ {st:AS}: ∀ {l:List (Nat×AV)},Ai st l=valsOf l→ ∀t,qK l t= .junk∨aT (st.tmps t) (qK l t)
  |[],_,t=> .inl rfl
  | p ::l,h,t=>by
    simp only[Ai,valsOf,List.cons.injEq]at h
    simp only[qK]
    cases hb:Nat.beq t p.1 with
    | true=>
      obtain rfl:=Nat.eq_of_beq_eq_true hb
      rw[h.1]
      exact .inr (aT.refl _)
    |false=>exact BJ h.2 t
theorem NH {st:AS}: ∀ {l:List (Nat×AO)},KG st l=KH l→ ∀p∈l,∃o,aP p.1 st.heap=some o∧cO o p.2
  |[],_,p,hp=>by cases hp
  | q::l,h,p,hp=>by
    simp only[KG,KH,List.cons.injEq]at h
    rcases List.mem_cons.1 hp with rfl|hp
    · exact⟨_,h.1,cO.refl _⟩
    · exact NH h.2 p hp
def Qo (F:Nat):List (List (Nat×AV))→(List (List (Nat×AV))→Prop)→Prop
  |[],K=>K []
  |f::fs,K=>slotsOf ⟨f,[],[],0⟩ F F 0 (fun l=>Qo F fs (fun ls=>K (l::ls)))
theorem IL {F:Nat}: ∀ {fs:List (List (Nat×AV))} {K:List (List (Nat×AV))→Prop},Qo F fs K→ ∃ls,K ls
  |[],_,h=>⟨[],h⟩
  | f::fs,K,h=>by
    obtain⟨l,h⟩:=yU h
    obtain⟨ls,h⟩:=IL h
    exact⟨_,h⟩
def KI:List (List (Nat×AV))→List (List (Nat×AV))→List (List AV)
  |[],[]=>[]
  |f::fs,l::ls=>Ai ⟨f,[],[],0⟩ l::KI fs ls
  |_::_,[]=>[[]]
  |[],_::_=>[[]]
def Aj:List (List (Nat×AV))→List (List AV)
  |[]=>[]
  |l::ls=>valsOf l::Aj ls
def vT:List (Nat×AO)→(List (Nat×AO)→Prop)→Prop
  |[],K=>K []
  | p::l,K=>match p.2 with
    | .box t cs=>vT l (fun h=>K ((p.1,.box t cs)::h))
    | .row e s n sc f=>vT l (fun h=>K ((p.1,.row e s n sc f)::h))
    | .mp t ks rs=>vT l (fun h=>K ((p.1,.mp t ks rs)::h))
    | .obs o=>vT l (fun h=>K ((p.1,.obs o)::h))
    | .rn e cs=>vT l (fun h=>K ((p.1,.rn e cs)::h))
theorem IQ: ∀ {l:List (Nat×AO)} {K:List (Nat×AO)→Prop},vT l K→ ∃h,K h
  |[],_,h=>⟨[],h⟩
  | p::l,K,h=>by
    simp only[vT]at h
    split at h<;>(obtain⟨l,h⟩:=IQ h;exact⟨_,h⟩)
inductive LeC (st:AS) (l:List (Nat×AV)) (h:List (Nat×AO)) (ls:List (List (Nat×AV))):Prop where
  |mk (hl:st.back.length=ls.length) (hb:KI st.back ls=Aj ls) (hn:nodupB (h.map (·.1))=true) (ht:Ai st l=valsOf l) (hh:KG st h=KH h):LeC st l h ls
theorem NI: ∀ {fs:List (List (Nat×AV))} {ls:List (List (Nat×AV))},fs.length=ls.length→KI fs ls=Aj ls→oQ fs ls
  |[],[],_,_=>trivial
  | f::fs,l::ls,hl,h=>by
    simp only[KI,Aj,List.cons.injEq]at h
    exact⟨BJ (st:=⟨f,[],[],0⟩) h.1,NI (by simpa using hl) h.2⟩
  |[],_::_,hl,_=>by simp at hl
  |_::_,[],hl,_=>by simp at hl
theorem LeC.les {st:AS} {b:Nat} {l:List (Nat×AV)} {hs:List (Nat×AO)} {ls:List (List (Nat×AV))} (h:LeC st l hs ls):Ey st ⟨l,hs,ls,b⟩:=by
 obtain⟨hl,hb,hn,ht,hh⟩:=h
 exact⟨BJ ht,NH hh,oD hn,NI hl hb⟩
section
variable {P:Program} {L:Lay} {g:Base} {N:Nat} {bs:List (Array Value)} {ρ:Nat→Value} {a:Act} {w:World} {st:AS}
theorem XF {o:Oper} {G:Prop} (h:o.wp P a w (fun _ _=>G) (fun _ _ _=>G)):G:=by
 unfold Oper.wp at h
 cases e:(execOp a.eval o).run P w with
 | ok n w'=>
   rw[e]at h
   cases n<;>simp only[Oper.upon]at h
   all_goals first
     |exact h
     |exact h.elim
     |(obtain⟨v,w'',r,_⟩:=h default [];exact r)
     | (obtain⟨en,w'',fr,r,_⟩:=h []
        cases en with
        |returned v=>exact r
        |panicked c=>exact r
        |outgrown=>obtain⟨_,_,r⟩:=r;exact r)
 | halt x w'=>
   rw[e]at h
   cases x<;>simp only[Oper.upon]at h
   exact h
theorem Sr (hL:bQ P L) {W:Walk} (hW:Hz P W) {ops:List Oper} {Q:AS→Prop}: ∀ (f:Nat) {done:List Nat} {ρ:Nat→Value} {a:Act} {w:World} {st:AS},Rel g N bs ρ a w st→Qn P L W N ops.length ops Q f done st→ ∃S,Q S
  |0,done,ρ,a,w,st,R,h=>⟨st,h⟩
  | f + 1,done,ρ,a,w,st,R,h=>by
    have ih:= @Sr hL W hW ops Q f
    have step: ∀ {o:Oper} {d:List Nat},oK P L W N ops o st (Qn P L W N ops.length ops Q f d)→ ∃S,Q S:=by
     intro o d h
     unfold oK at h
     split at h
     · have go: ∀k,P6 P L W k st o.op (fun x st'=>oP N st' o.dst x (Qn P L W N ops.length ops Q f d))→ ∃S,Q S:=by
        intro k hk
        refine XF (P:=P) (o:=o) (a:=a) (w:=w) (DY hL hW R (d:=k) hk ?_)
        intro x st' u ρ' w' hx R' hc
        obtain⟨st2,h2,R2⟩:=iE R' hc hx
        exact ih R2 h2
       unfold yN at h
       cases hd:o.dst with
       |none=>rw[hd]at h;dsimp only at h;exact go 0 (by rw[hd];exact h)
       |some k=>rw[hd]at h;dsimp only at h;exact go k (by rw[hd];exact h)
     · obtain⟨st2,k2,R2⟩:=iE R (show C2 (aB g w ρ st.heap) (.v undef) undef from rfl) h
       exact ih R2 k2
     · exact h.elim
    simp only[Qn]at h
    split at h
    · exact⟨st,h⟩
    · split at h
      · split at h
        · exact step h
        · exact h.elim
      · split at h
        · exact step h
        · exact h.elim
theorem iG.lex (F:Nat) (hL:bQ P L) {W:Walk} (hW:Hz P W) {id:Nat} {ops:Array Oper} {K:AS→Prop} {st:AS} (hm:P.follows .mixedOrders=true) (hs:Region.noSelect ops=true)
  (h:Qn P L W N ops.toList.length ops.toList (fun S=>slotsOf S N 400 0 fun l=>vT S.heap fun hs=>Qo F S.back fun ls=>Both (tY P L W N ops.toList.length ops.toList (fun st'=>LeC st' l hs ls) ops.toList.length [] st) (K ⟨l,hs,ls,S.base⟩)) ops.toList.length [] st):iG P L W N id ops K st:=by
 refine .sem fun g bs ρ a w E R hE=> ?_
 obtain⟨S,h1⟩:=Sr hL hW ops.toList.length R h
 obtain⟨l,h1⟩:=yU h1
 obtain⟨hs',h1⟩:=IQ h1
 obtain⟨ls,h1,hK⟩:=IL h1
 have:=iG.any (P:=P) (L:=L) (N:=N) (id:=id) hL hW hm hs h1
 cases this with
 | quiet hm hB hq h=>
   refine wp_region_quiet (C:=fun w'=>w'=w.drew) hm hB rfl ?_
   have R':Rel g N bs ρ a w.drew st:=R.world (Below.refl _ _).drew
   exact vK hL (E:=fun a w=>E .normal a w) (ops:=ops.toList) (fun a w1 st R h=>hE _ _ _ _ (R.less h.les) hK) ops.toList hq R' h
 |sem h=>exact h g bs ρ a w E R fun ρ a w st R h=>hE _ _ _ _ (R.less h.les) hK
end
end
section
open Go.RowKit
section
variable {P:Program} {ops:Array Oper} {Q:Exit→Act→World→Prop} {T:List (Nat×List Nat)}
def YieldsAt (P:Program) (ops:Array Oper) (o:Oper) (v:Value) (a:Act) (w:World):Prop:=
 (Region.wanted o (yielded ops a.tmps)=true∧(execOp a.eval o).run P w= .ok (.value v) w)∨(Region.wanted o (yielded ops a.tmps)=false∧v=undef)
theorem YieldsAt.of_same {o:Oper} {v:Value} {a a':Act} {w:World} (hy:YieldsAt P ops o v a w) (he:execOp a'.eval o=execOp a.eval o) (hw:Region.wanted o (yielded ops a'.tmps)=Region.wanted o (yielded ops a.tmps)):YieldsAt P ops o v a' w:=by
 unfold YieldsAt at*
 rw[he,hw]
 exact hy
theorem YieldsAt.put {o:Oper} {v:Value} {a:Act} {w:World} (hs: ∀cs b,o.op≠ .select cs b) {dst:Option Tmp} {u:Value} (h: ∀d,dst=some d→d ∉ o.looksAt ops):YieldsAt P ops o v (a.put dst u) w↔YieldsAt P ops o v a w:=by
 have e1:=execOp_put (ops:=ops) o hs a dst u h
 have e2:=wanted_put (ops:=ops) o a dst u h
 unfold YieldsAt
 rw[e1,e2]
theorem YieldsAt.wpOp {i:Nat} {o:Oper} {v:Value} {a:Act} {w:World} (hi:ops[i]? =some o) (hy:YieldsAt P ops o v a w) {K:Act→World→Prop} (h:K (a.put o.dst v) w):wpOp P ops Q i K a w:=by
 unfold Go.wpOp
 simp only[hi]
 rcases hy with⟨hw,hv⟩|⟨hw,rfl⟩
 · simp only[hw,if_true,Oper.wp,hv,Oper.upon];exact .inl h
 · simp only[hw,Bool.false_eq_true,if_false];exact h
def alive (T:List (Nat×List Nat)) (listed:Array Bool) (p:Nat):Prop:= ∀k l,(k,l)∈T→listed.getD k false=true→p ∉ l
def Sv (P:Program) (ops:Array Oper) (T:List (Nat×List Nat)) (listed:Array Bool) (pend:List (Nat×Value)) (a:Act) (w:World):Prop:=
 ∀p∈pend,alive T listed p.1→ ∀o,ops[p.1]? =some o→YieldsAt P ops o p.2 a w
def jy (P:Program) (ops:Array Oper) (Q:Exit→Act→World→Prop) (T:List (Nat×List Nat)):Nat→Array Bool→List (Nat×Value)→Act→World→Prop
  |0,listed,_,a,w=>Region.ready .any ops listed=[]∧Q .normal a w
  |f+1,listed,pend,a,w=>(Region.ready .any ops listed=[]→Q .normal a w)∧ ∀j∈Region.ready .any ops listed,wpOp P ops Q j (fun a' w'=>Sv P ops T (listed.setIfInBounds j true) pend a' w'∧jy P ops Q T f (listed.setIfInBounds j true) pend a' w') a w
theorem jy.less: ∀ {f:Nat} {listed:Array Bool} {pend abE:List (Nat×Value)} {a:Act} {w:World},(∀p∈abE,p∈pend)→jy P ops Q T f listed pend a w→jy P ops Q T f listed abE a w
  |0,_,_,_,_,_,_,h=>h
  |_+1,_,_,_,_,_,hs,h=>⟨h.1,fun j hj=>wpOp_mono (fun _ _ k=>⟨fun p hp=>k.1 p (hs p hp),jy.less hs k.2⟩) (h.2 j hj)⟩
theorem jy.any: ∀ {f:Nat} {listed:Array Bool} {pend:List (Nat×Value)} {a:Act} {w:World},jy P ops Q T f listed pend a w→wpAny P .any ops Q f listed a w
  |0,_,_,_,_,h=>h
  |_+1,_,_,_,_,h=>⟨h.1,fun j hj=>wpOp_mono (fun _ _ k=>jy.any k.2) (h.2 j hj)⟩
def Closed (T:List (Nat×List Nat)) (listed:Array Bool):Prop:= ∀k l,(k,l)∈T→listed.getD k false=true→ ∀p∈l,listed.getD p false=true
theorem UF {j:Nat} {oi oj:Oper} {v:Value} (hj:ops[j]? =some oj) (h1: ∀d,oi.dst=some d→d ∉ oj.looksAt ops) (h2: ∀d,oi.dst=some d→oj.dst≠some d)
  (hsj: ∀cs b,oj.op≠ .select cs b) (hQ: ∀c a w,Q (.panic c) (a.put oi.dst v) w→Q (.panic c) a w) {K:Act→World→Prop} {a:Act} {w:World}
  (h:wpOp P ops Q j K (a.put oi.dst v) w):wpOp P ops Q j (fun a' w'=>K (a'.put oi.dst v) w') a w:=by
 unfold wpOp at*
 simp only[hj]at*
 rw[wanted_put oj a oi.dst v h1]at h
 split
 · rename_i hw
   simp only[hw,if_true]at h
   rcases h with h|⟨hasks,hlets⟩
   case inr=>exact .inr ⟨by unfold Oper.asks at*;rw[execOp_put oj hsj a oi.dst v h1]at hasks;exact hasks,hlets⟩
   refine .inl ?_
   unfold Oper.wp at*
   rw[execOp_put oj hsj a oi.dst v h1]at h
   generalize(execOp a.eval oj).run P w=r at*
   cases r with
   | ok n w'=>
     cases n<;>simp only[Oper.upon]at h⊢
     case value u=>rw[←Act.put_comm a v u h2];exact h
     case skip=>rw[←Act.put_comm a v undef h2];exact h
     case defer d=>
      rw[←Act.put_comm _ v undef h2,←Act.put_defers]
      exact h
     case enter f args=>
      refine Calls.mono h fun e w'' he=> ?_
      cases e with
      |returned u=>dsimp only at he⊢;rw[←Act.put_comm a v u h2];exact he
      |panicked c=>exact hQ _ _ _ he
      |outgrown=>exact he
     case row row args=>exact Rows.mono h fun u w'' he=>by rw[←Act.put_comm a v u h2];exact he
   | halt x w'=>
     cases x<;>simp only[Oper.upon]at h⊢
     case panic u=>exact hQ _ _ _ h
 · rename_i hw
   simp only[hw]at h
   rw[←Act.put_comm a v undef h2];exact h
def Qp (pu:Bool) (x:Nat×Value) (pend:List (Nat×Value)):List (Nat×Value):=match pu with|true=>pend|false=>x::pend
def IU (ops:Array Oper) (listed:Array Bool) (pend:List (Nat×Value)):Prop:=
 ∀p∈pend,∀o,ops[p.1]? =some o→ ∀k ok,ops[k]? =some ok→listed.getD k true=false→ ∀d,ok.dst=some d→d ∉ o.looksAt ops
theorem KJ {i:Nat} {oi:Oper} {v:Value} (hi:ops[i]? =some oi) (hsel: ∀ (j:Nat) (o:Oper) cs b,ops[j]? =some o→o.op≠ .select cs b)
  (hQ: ∀c a w,Q (.panic c) (a.put oi.dst v) w→Q (.panic c) a w) (hT: ∀l,(i,l)∈T→False) {U:List (Nat×List Nat)} (hTU: ∀x∈T,x∈U) (hTr: ∀ (k:Nat) (l:List Nat) (listed:Array Bool),(k,l)∈U→Closed U listed→k∈Region.ready .any ops listed→ ∀p∈l,listed.getD p false=true) (pu:Bool):
  ∀ (fuel:Nat) (listed:Array Bool) (pend:List (Nat×Value)) (a:Act) (w:World),
   (∀j oj,ops[j]? =some oj→j≠i→listed.getD j true=false→(∀d,oi.dst=some d→oj.dst≠some d)∧((∀e∈oj.after,Region.binds .any e=true→e.on≠i)→(∀d,oj.dst=some d→d ∉ oi.looksAt ops)∧ ∀d,oi.dst=some d→d ∉ oj.looksAt ops))→
   (∀d,oi.dst=some d→d ∉ oi.looksAt ops)→
   i∈Region.ready .any ops listed→Closed U listed→IU ops listed pend→Sv P ops T listed pend a w→YieldsAt P ops oi v a w→(pu=true→Yields P ops oi v a)→
   jy P ops Q T fuel (listed.setIfInBounds i true) (Qp pu (i,v) pend) (a.put oi.dst v) w→jy P ops Q T (fuel+1) listed pend a w:=by
 intro fuel
 have hsub: ∀ (pend:List (Nat×Value)),∀p∈pend,p∈(Qp pu (i,v) pend):=by
  intro pend p hp
  cases pu
  · exact List.mem_cons_of_mem _ hp
  · exact hp
 have self: ∀ (listed:Array Bool) (pend:List (Nat×Value)) (a:Act) (w:World),i∈Region.ready .any ops listed→IU ops listed pend→Sv P ops T listed pend a w→Sv P ops T (listed.setIfInBounds i true) pend (a.put oi.dst v) w:=by
  intro listed pend a w hr hB hO p hp hal o ho
  have hal':alive T listed p.1:=fun k l hk hl=>hal k l hk (getD_set_true hl)
  have:=hO p hp hal' o ho
  exact(YieldsAt.put (fun cs b=>hsel _ _ cs b ho) fun d hd=>hB p hp o ho i oi hi (mem_ready.1 hr).1 d hd).2 this
 induction fuel with
 | zero=>
   intro listed pend a w _ _ hr _ hB hO hy _ H
   refine⟨fun h=>(by rw[h]at hr;cases hr),fun j hj=> ?_⟩
   by_cases hji:j=i
   · subst hji;exact hy.wpOp hi ⟨self listed pend a w hr hB hO,jy.less (hsub pend) H⟩
   · have:=ready_mono hj hji
     rw[H.1]at this
     cases this
 | succ fuel ih=>
   intro listed pend a w hfree hself hr hC hB hO hy hpu H
   refine⟨fun h=>(by rw[h]at hr;cases hr),fun j hj=> ?_⟩
   by_cases hji:j=i
   · subst hji;exact hy.wpOp hi ⟨self listed pend a w hr hB hO,jy.less (hsub pend) H⟩
   · have h1:=H.2 j (ready_mono hj hji)
     obtain⟨hjun,oj,hoj,hall⟩:=mem_ready.1 hj
     have acn:=(mem_ready.1 hr).1
     have Sz:listed.getD i false=false:=by
      rcases Nat.lt_or_ge i listed.size with h'|h'
      · simp[h']at acn⊢;exact acn
      · simp[Array.getElem?_eq_none h']
     have hnot: ∀e∈oj.after,Region.binds .any e=true→e.on≠i:=fun e he hb heq=>by
      have h1:=hall e he hb
      rw[heq,Sz]at h1
      cases h1
     obtain⟨f2,f3⟩:=hfree j oj hoj hji hjun
     obtain⟨f1,hb3⟩:=f3 hnot
     have aeQ:i<ops.size:=(Array.getElem?_eq_some_iff.1 hi).1
     have sN:Closed U (listed.setIfInBounds j true):=by
      intro k l hk hl p hp
      by_cases hkj:k=j
      · subst hkj
        exact getD_set_true (hTr k l listed hk hC hj p hp)
      · rw[getD_set_ne false (Ne.symm hkj)]at hl
        exact getD_set_true (hC k l hk hl p hp)
     have aai:IU ops (listed.setIfInBounds j true) pend:=fun p hp o ho k ok hk hun d hd=>by
      refine hB p hp o ho k ok hk ?_ d hd
      by_cases hkj:j=k
      · subst hkj;exact hjun
      · rw[getD_set_ne true hkj]at hun;exact hun
     --what is kept of i's own promise while j comes up
     have aee: ∀ (a':Act) (u:Value),Yields P ops oi v a'→Yields P ops oi v (a'.put oj.dst u):=fun a' u hy=>hy.of_same (execOp_put oi (fun cs b=>hsel i oi cs b hi) a' oj.dst u f1) (wanted_put oi a' oj.dst u f1)
     have h2:=UF hoj hb3 f2 (fun cs b=>hsel j oj cs b hoj) hQ h1
     have XG: ∀p,alive T (listed.setIfInBounds j true) p→alive T ((listed.setIfInBounds i true).setIfInBounds j true) p:=by
      intro p hal k l hk hl
      by_cases hki:k=i
      · subst hki;exact(hT l hk).elim
      · refine hal k l hk ?_
        rw[Array.setIfInBounds_comm _ _ (Ne.symm hji),getD_set_ne false (Ne.symm hki)]at hl
        exact hl
     have aaj:alive T ((listed.setIfInBounds i true).setIfInBounds j true) i:=by
      refine XG i fun k l hk hl hin=> ?_
      have h0:=sN k l (hTU _ hk) hl i hin
      rw[getD_set_ne false hji,Sz]at h0
      cases h0
     have hfree': ∀k ok,ops[k]? =some ok→k≠i→(listed.setIfInBounds j true).getD k true=false→(∀d,oi.dst=some d→ok.dst≠some d)∧((∀e∈ok.after,Region.binds .any e=true→e.on≠i)→(∀d,ok.dst=some d→d ∉ oi.looksAt ops)∧ ∀d,oi.dst=some d→d ∉ ok.looksAt ops):=fun k ok hk hki hun=>by
      refine hfree k ok hk hki ?_
      by_cases hjk:j=k
      · subst hjk;exact hjun
      · rw[getD_set_ne true hjk]at hun;exact hun
     --j comes up:the state behind it
     have fin: ∀ (a':Act) (w':World),(pu=true→Yields P ops oi v a')→(Sv P ops T ((listed.setIfInBounds i true).setIfInBounds j true) (Qp pu (i,v) pend) (a'.put oi.dst v) w'∧jy P ops Q T fuel ((listed.setIfInBounds i true).setIfInBounds j true) (Qp pu (i,v) pend) (a'.put oi.dst v) w')→
       Sv P ops T (listed.setIfInBounds j true) pend a' w'∧jy P ops Q T (fuel+1) (listed.setIfInBounds j true) pend a' w':=by
      rintro a' w' vU ⟨k1,k2⟩
      have kO:Sv P ops T (listed.setIfInBounds j true) pend a' w':=by
       intro p hp hal o ho
       have:=k1 p (hsub pend p hp) (XG p.1 hal) o ho
       exact(YieldsAt.put (fun cs b=>hsel _ _ cs b ho) fun d hd=>hB p hp o ho i oi hi acn d hd).1 this
      refine⟨kO, ?_⟩
      have hyi:YieldsAt P ops oi v a' w':=by
       cases hp:pu with
       | true=>
         rcases vU hp with⟨q1,q2⟩|q
         · exact .inl ⟨q1,q2 w'⟩
         · exact .inr q
       | false=>
         rw[hp]at k1
         exact(YieldsAt.put (fun cs b=>hsel _ _ cs b hi) hself).1 (k1 (i,v) List.mem_cons_self aaj oi hi)
      refine ih (listed.setIfInBounds j true) pend a' w' hfree' hself (ready_mono hr (Ne.symm hji)) sN aai kO hyi vU ?_
      rw[Array.setIfInBounds_comm _ _ hji]
      exact k2
     cases hp:pu with
     |false=>exact wpOp_mono (fun a' w' h3=>fin a' w' (fun e=>by rw[hp]at e;cases e) h3) h2
     | true=>
       have h2':=wpOp_put (v:=v) hoj (Oper.XH hb3 f2 f1) (fun cs b=>hsel i oi cs b hi) (fun cs b=>hsel j oj cs b hoj) hQ (hpu hp) h1
       exact wpOp_mono (fun a' w' h3=>fin a' w' (fun _=>h3.1) h3.2) h2'
where
 Oper.XH {x y:Oper} (h1: ∀d,x.dst=some d→d ∉ y.looksAt ops) (h2: ∀d,x.dst=some d→y.dst≠some d) (h3: ∀d,y.dst=some d→d ∉ x.looksAt ops):x.apart ops y=true:=by
  unfold Oper.apart
  rw[Bool.and_eq_true]
  constructor
  · cases hx:x.dst with
    |none=>rfl
    |some d=>simpa using⟨h1 d hx,h2 d hx⟩
  · cases hy:y.dst with
    |none=>rfl
    |some d=>simpa using h3 d hy
end
end
section
open Go.RowKit
def KL (p:Nat):List Edge→Bool
  |[]=>false
  |e::l=>(Region.binds .any e&&Nat.beq e.on p)||KL p l
def D5 (U:List (Nat×List Nat)) (p:Nat):List Edge→Bool
  |[]=>false
  |e::l=>(Region.binds .any e&&U.any (fun x=>Nat.beq x.1 e.on&&kW p x.2))||D5 U p l
def XI (ops:List Oper) (U:List (Nat×List Nat)):Bool:=
 U.all fun x=>match ops[x.1]? with|some o=>x.2.all fun p=>KL p o.after.toList||D5 U p o.after.toList|none=>false
def KN (ops:List Oper) (done:List Nat) (i:Nat) (oi:Oper):Nat→List Oper→Bool
  |_,[]=>true
  |k,o::r=>(Nat.beq k i||kW k done||((match oi.dst with|some d=> !(Sm o d)|none=>true)&&(Fj i o.after.toList||((match o.dst with|some d=> !(vO ops oi d)|none=>true)&&(match oi.dst with|some d=> !(vO ops o d)|none=>true)))))&&KN ops done i oi (k+1) r
def yV (ops:List Oper) (done:List Nat) (i:Nat) (oi:Oper):Nat→List Oper→Bool
  |_,[]=>true
  |k,o::r=>(Nat.beq k i||kW k done||(match o.dst with|some d=> !(vO ops oi d)|none=>true))&&yV ops done i oi (k+1) r
def XJ:Op→Bool
  | .move _=>true
  | .assign _=>true
  | .pick .. =>true
  | .extract .. =>true
  | .fieldAddr .. =>true
  | .indexAddr .. =>true
  | .unOp .. =>true
  | .build .. =>true
  |_=>false
def BK:List (Nat×Option (List Nat))→List (Nat×List Nat)
  |[]=>[]
  |(i,some l)::r=>(i,l)::BK r
  |(_,none)::r=>BK r
def XK (i:Nat):List Nat→Bool
  |[k]=>Nat.beq k i
  |_=>false
def Xc:List Nat→Bool
  |[]=>true
  |_=>false
def Qq (ops:List Oper) (T:List (Nat×List Nat)):List (Nat×Option (List Nat))→List Nat→Bool
  |[],done=>Xc (gK ops.length done 0 ops)
  | (i,none)::r,done=>(match ops[i]? with
    |some o=>kW i (gK ops.length done 0 ops)&&KN ops done i o 0 ops&&(XJ o.op||yV ops done i o 0 ops)&&(match o.dst with|some d=> !(vO ops o d)|none=>false)&& !(T.any fun x=>Nat.beq x.1 i)
    |none=>false)&&Qq ops T r (i::done)
  |(i,some _)::r,done=>XK i (gK ops.length done 0 ops)&&Qq ops T r (i::done)
def aak:List (Nat×List Nat)→List (Nat×List Nat)→Bool
  |[],_=>true
  |x::T,U=>U.any (fun y=>Nat.beq x.1 y.1&&(x.2==y.2))&&aak T U
def BL (ops:List Oper) (sc:List (Nat×Option (List Nat))) (U:List (Nat×List Nat)):Bool:=
 XI ops U&&aak (BK sc) U&&Qq ops (BK sc) sc []
def aco:AV→Bool
  | .v _=>true
  | .own _=>true
  | .dP .. =>true
  | .box .. =>true
  | .cf .. =>true
  |_=>false
def acp:AV→Bool
  | .agg cs=>cs.all aco
  |x=>aco x
structure Still (A B:AV) (K:Prop):Prop where
 mk::
 eq:A=B
 det:acp A=true
 k:K
def H7 (P:Program) (L:Lay) (W:Walk) (N:Nat) (ops:List Oper):List Nat→AS→Prop→Prop
  |[],_,K=>K
  | p ::r,st,K=>match ops[p]? with
    | some o=>(match o.dst with
      |some d=>P6 P L W d st o.op (fun y _=>Still y (st.tmps d) (H7 P L W N ops r st K))
      |none=>False)
    |none=>False
def outOf (l:List Nat):List Nat→List Nat
  |[]=>[]
  |p::r=>bif kW p l then outOf l r else p::outOf l r
inductive Fq (P:Program) (d:Nat) (f:FuncId) (cu:List AV) (st:AS) (K:AV→AS→Prop):Prop where
  |plain (bs:List AV) (r:AV) (hs:aG P f bs r []) (hsub:Dx st.heap cu bs) (hr:ok2 none r=true):K r (bif mD r then st else sG st cu)→Fq P d f cu st K
  |fresh (bs:List AV) (r:AV) (e:TypeId) (s n:Nat) (sc:Bool) (g:Nat→List AV) (hs:aG P f bs r [(d,.row e s n sc g)]) (hsub:Dx st.heap cu bs) (hr:ok2 (some d) r=true):
     K r ((bif mD r&&sc then st else sG st cu).obj d d (.row e s n sc g))→Fq P d f cu st K
def Qr (L:Lay) (st:AS):Op→Bool
  | .load t p=>match aY L t with
    | some i=>(match st.ev p with
      | .box id k=>(match aP id st.heap with
        |some (.box _ cs)=>Nat.ble (k+(bif i.isAgg then i.size else 1)) cs.length
        |_=>false)
      |_=>false)
    |none=>false
  |_=>false
def NJ (L:Lay) (st:AS) (ops:List Oper) (p:Nat):Bool:=match ops[p]? with|some o=>Qr L st o.op|none=>false
def tZ (L:Lay) (st:AS) (ops:List Oper):List Nat→List Nat
  |[]=>[]
  |p::r=>bif NJ L st ops p then tZ L st ops r else p::tZ L st ops r
def abG (P:Program) (L:Lay) (W:Walk) (N:Nat) (ops:List Oper) (o:Oper) (pl:List Nat) (st:AS) (K:AS→Prop):Prop:=
 match vP N st ops o with
 | some true=>(match o.op with
   | .call c=>(match c.callee with
     | .value x=>(match(st.ev x).WI with
       | .fn g caps=>nameOf st (fun d=>Fq P d g (c.args.toList.map st.ev++caps) st (fun x st'=>oP N st' o.dst x (fun st2=>H7 P L W N ops (tZ L st ops pl) st2 (K st2))))
       |_=>False)
     |_=>False)
   |_=>False)
 |some false=>oP N st o.dst (.v undef) (fun st2=>H7 P L W N ops (tZ L st ops pl) st2 (K st2))
 |none=>False
def uf (P:Program) (L:Lay) (W:Walk) (N:Nat) (ops:List Oper) (kp:Bool) (Q:AS→Prop):List (Nat×Option (List Nat))→List Nat→AS→Prop
  |[],_,st=>Q st
  | (i, none)::r,pend,st=>match ops[i]? with
    | some o=>(match vP N st ops o with
      | some true=>(match vN L st o.op with
        |true=>yN P L W o.dst st o.op (fun x st'=>oP N st' o.dst x (uf P L W N ops kp Q r pend))
        | false=>(match lu o.op with
          |true=>yN P L W o.dst st o.op (fun x st'=>oP N st' o.dst x (uf P L W N ops kp Q r (i::pend)))
          |false=>False))
      |some false=>oP N st o.dst (.v undef) (uf P L W N ops kp Q r pend)
      |none=>False)
    |none=>False
  | (i,some l)::r,pend,st=>match ops[i]? with
    | some o=>(match kp with
      |true=>abG P L W N ops o (outOf l pend) st (uf P L W N ops kp Q r (outOf l pend))
      |false=>oK P L W N ops o st (fun st'=>H7 P L W N ops (outOf l pend) st' (uf P L W N ops kp Q r (outOf l pend) st')))
    |none=>False
section
variable {P:Program} {L:Lay} {g:Base} {N:Nat} {bs:List (Array Value)} {ρ:Nat→Value} {a:Act} {w:World} {st:AS}
theorem ug {X:CX} {y:AV} {u v:Value} (h:aco y=true) (hu:C0 X y u) (hv:C0 X y v):u=v:=by
 cases y with
 |v x=>exact Eq.trans (show u=x from hu) (show v=x from hv).symm
 |own id=>exact Eq.trans (show u=dZ (X.ρ id)from hu) (show v=dZ (X.ρ id)from hv).symm
 | dP id s i k=>
   obtain⟨b,n,c,h1,rfl⟩:=hu
   obtain⟨b',n',c',h2,rfl⟩:=hv
   rw[h1]at h2
   cases h2
   rfl
 |ji id s i k=>cases h
 | box id off=>
   obtain⟨b,h1,rfl⟩:=hu
   obtain⟨b',h2,rfl⟩:=hv
   rw[h1]at h2
   cases h2
   rfl
 | cf gg id off=>
   obtain⟨b,h1,rfl⟩:=hu
   obtain⟨b',h2,rfl⟩:=hv
   rw[h1]at h2
   cases h2
   rfl
 |_=>cases h
theorem aal {X:CX} {y:AV} {u v:Value} (h:acp y=true) (hu:C2 X y u) (hv:C2 X y v):u=v:=by
 cases y with
 | agg cs=>
   obtain⟨us,rfl,h1⟩:=hu
   obtain⟨vs,rfl,h2⟩:=hv
   have:us=vs:=by
    apply List.ext_getElem?
    intro i
    by_cases hi:i<cs.length
    · have hx:cs[i]? =some cs[i]:=List.getElem?_eq_getElem hi
      obtain⟨u,e1,k1⟩:=h1.get hx
      obtain⟨v,e2,k2⟩:=h2.get hx
      rw[e1,e2,ug (List.all_eq_true.1 h _ (List.getElem_mem hi)) k1 k2]
    · rw[List.getElem?_eq_none (by rw[←h1.1];omega),List.getElem?_eq_none (by rw[←h2.1];omega)]
   rw[this]
 |v x=>exact ug (X:=X) (y:= .v x) h hu hv
 |own id=>exact ug (X:=X) (y:= .own id) h hu hv
 |dP id s i k=>exact ug (X:=X) (y:= .dP id s i k) h hu hv
 |ji id s i k=>exact ug (X:=X) (y:= .ji id s i k) h hu hv
 |box id off=>exact ug (X:=X) (y:= .box id off) h hu hv
 |cf gg id off=>exact ug (X:=X) (y:= .cf gg id off) h hu hv
 |_=>cases h
theorem IV {p:Nat}: ∀ {l:List Edge},KL p l=true→ ∃e∈l,Region.binds .any e=true∧e.on=p
  |[],h=>by cases h
  | e ::l,h=>by
    simp only[KL,Bool.or_eq_true,Bool.and_eq_true]at h
    rcases h with⟨h1,h2⟩|h
    · exact⟨e,List.mem_cons_self,h1,Nat.eq_of_beq_eq_true h2⟩
    · obtain⟨e',h1,h2⟩:=IV h
      exact⟨e',List.mem_cons_of_mem _ h1,h2⟩
theorem D6 {p:Nat}: ∀ {l:List Nat},kW p l=true↔p∈l
  |[]=>by simp[kW]
  | q::l=>by
    simp only[kW,Bool.or_eq_true,List.mem_cons,D6 (l:=l)]
    refine or_congr ⟨fun h=>(Nat.eq_of_beq_eq_true h).symm,fun h=>by rw[h];simp⟩ Iff.rfl
theorem Fv {U:List (Nat×List Nat)} {p:Nat}: ∀ {l:List Edge},D5 U p l=true→ ∃e∈l,Region.binds .any e=true∧ ∃x∈U,x.1=e.on∧p∈x.2
  |[],h=>by cases h
  | e ::l,h=>by
    simp only[D5,Bool.or_eq_true,Bool.and_eq_true,List.any_eq_true]at h
    rcases h with⟨h1,x,hx,h2,h3⟩|h
    · exact⟨e,List.mem_cons_self,h1,x,hx,Nat.eq_of_beq_eq_true h2,D6.1 h3⟩
    · obtain⟨e',h1,h2⟩:=Fv h
      exact⟨e',List.mem_cons_of_mem _ h1,h2⟩
theorem Fz {ops:List Oper} {U:List (Nat×List Nat)} (h:XI ops U=true) (k:Nat) (l:List Nat) (listed:Array Bool) (hk:(k,l)∈U) (hC:Closed U listed) (hr:k∈Region.ready .any ops.toArray listed): ∀p∈l,listed.getD p false=true:=by
 intro p hp
 have:=List.all_eq_true.1 h _ hk
 dsimp only at this
 obtain⟨_,o,ho,hall⟩:=mem_ready.1 hr
 have ho:ops[k]? =some o:=by simpa using ho
 rw[ho]at this
 dsimp only at this
 have:=List.all_eq_true.1 this p hp
 rw[Bool.or_eq_true]at this
 rcases this with h1|h1
 · obtain⟨e,he,hb,rfl⟩:=IV h1
   exact hall e (by simpa using he) hb
 · obtain⟨e,he,hb,⟨k',l'⟩,hx,e1,h3⟩:=Fv h1
   have h2:=hall e (by simpa using he) hb
   dsimp only at e1 h3
   rw[←e1]at h2
   exact hC k' l' hx h2 p h3
theorem aam {T U:List (Nat×List Nat)} (h:aak T U=true): ∀x∈T,x∈U:=by
 induction T with
 |nil=>intro x hx;cases hx
 | cons y T ih=>
   simp only[aak,Bool.and_eq_true,List.any_eq_true]at h
   obtain⟨⟨z,hz,h1,h2⟩,h3⟩:=h
   intro x hx
   rcases List.mem_cons.1 hx with rfl|hx
   · have e1:=Nat.eq_of_beq_eq_true h1
     have e2:=eq_of_beq h2
     have:x=z:=Prod.ext e1 e2
     rw[this];exact hz
   · exact ih h3 x hx
theorem IW {ops:List Oper} {done:List Nat} {i:Nat} {oi:Oper}: ∀ {l:List Oper} {k:Nat},KN ops done i oi k l=true→ ∀ (j:Nat) (oj:Oper),l[j]? =some oj→k+j≠i→kW (k+j) done=false→
  (∀d,oi.dst=some d→oj.dst≠some d)∧((∀e∈oj.after,Region.binds .any e=true→e.on≠i)→(∀d,oj.dst=some d→d ∉ oi.looksAt ops.toArray)∧ ∀d,oi.dst=some d→d ∉ oj.looksAt ops.toArray)
  |[],k,_,j,oj,hj=>by simp at hj
  | o :: l, k,h,j,oj,hj=>by
    simp only[KN,Bool.and_eq_true,Bool.or_eq_true]at h
    obtain⟨h1,h2⟩:=h
    intro hne hm
    cases j with
    | zero=>
      simp only[List.getElem?_cons_zero,Option.some.injEq]at hj
      subst hj
      rcases h1 with(h1|h1)|⟨h1,h3⟩
      · exact absurd (Nat.eq_of_beq_eq_true h1) (by simpa using hne)
      · rw[Nat.add_zero]at hm;rw[hm]at h1;cases h1
      · refine⟨fun d hd=> ?_,fun hw=> ?_⟩
        · rw[hd]at h1
          simp only[Bool.not_eq_true']at h1
          intro e
          unfold Sm at h1
          rw[e]at h1
          simp at h1
        · rcases h3 with h4|⟨h3,h4⟩
          · obtain⟨e,he,hb,hi⟩:=BI h4
            exact absurd hi (hw e (by simpa using he) hb)
          · refine⟨fun d hd=> ?_,fun d hd=> ?_⟩
            · rw[hd]at h3
              simp only[Bool.not_eq_true']at h3
              have:=pU h3
              simpa using this
            · rw[hd]at h4
              simp only[Bool.not_eq_true']at h4
              have:=pU h4
              simpa using this
    | succ j=>
      exact IW h2 j oj (by simpa using hj) (by omega) (by rw[show k+1+j=k+(j+1) by omega];exact hm)
theorem IX {ops:List Oper} {done:List Nat} {i:Nat} {oi:Oper}: ∀ {l:List Oper} {k:Nat},yV ops done i oi k l=true→ ∀ (j:Nat) (oj:Oper),l[j]? =some oj→k+j≠i→kW (k+j) done=false→ ∀d,oj.dst=some d→d ∉ oi.looksAt ops.toArray
  |[],k,_,j,oj,hj=>by simp at hj
  | o ::l,k,h,j,oj,hj=>by
    simp only[yV,Bool.and_eq_true,Bool.or_eq_true]at h
    obtain⟨h1,h2⟩:=h
    intro hne hm d hd
    cases j with
    | zero=>
      simp only[List.getElem?_cons_zero,Option.some.injEq]at hj
      subst hj
      rcases h1 with(h1|h1)|h1
      · exact absurd (Nat.eq_of_beq_eq_true h1) (by simpa using hne)
      · rw[Nat.add_zero]at hm;rw[hm]at h1;cases h1
      · rw[hd]at h1
        simp only[Bool.not_eq_true']at h1
        have:=pU h1
        simpa using this
    | succ j=>
      exact IX h2 j oj (by simpa using hj) (by omega) (by rw[show k+1+j=k+(j+1) by omega];exact hm) d hd
theorem NK {op:Op} (h:XJ op=true) (L:Lay) (st:AS):vN L st op=true:=by
 cases op<;>first|rfl|cases h
theorem XL {i:Nat} {l:List Nat} (h:XK i l=true):l=[i]:=by
 unfold XK at h
 split at h
 · rw[Nat.eq_of_beq_eq_true h]
 · cases h
theorem yX: ∀ {sc:List (Nat×Option (List Nat))} {k:Nat} {l:List Nat},(k,some l)∈sc→(k,l)∈BK sc
  |[],_,_,h=>by cases h
  | (i,none)::r,k,l,h=>by
    rcases List.mem_cons.1 h with h|h
    · cases h
    · show(k,l)∈BK r
      exact yX h
  | (i,some m)::r,k,l,h=>by
    rcases List.mem_cons.1 h with h|h
    · cases h;exact List.mem_cons_self
    · exact List.mem_cons_of_mem _ (yX h)
theorem BM {l:List Nat} {p:Nat}: ∀ {q:List Nat},p∈q→p ∉ l→p∈outOf l q
  |[],h,_=>by cases h
  | x ::q,h,hn=>by
    simp only[outOf]
    cases hb:kW x l with
    | true=>
      rcases List.mem_cons.1 h with rfl|h
      · exact absurd (D6.1 hb) hn
      · exact BM h hn
    | false=>
      rcases List.mem_cons.1 h with rfl|h
      · exact List.mem_cons_self
      · exact List.mem_cons_of_mem _ (BM h hn)
theorem xJ {l:List Nat} {p:Nat}: ∀ {q:List Nat},p∈outOf l q→p∈q
  |[],h=>h
  | x ::q,h=>by
    simp only[outOf]at h
    cases hb:kW x l with
    |true=>rw[hb]at h;exact List.mem_cons_of_mem _ (xJ h)
    | false=>
      rw[hb]at h
      rcases List.mem_cons.1 h with rfl|h
      · exact List.mem_cons_self
      · exact List.mem_cons_of_mem _ (xJ h)
theorem SA (hL:bQ P L) {W:Walk} {ops:List Oper} {K:Prop} (R:Rel g N bs ρ a w st): ∀ {l:List Nat},(∀p∈l,∃o,ops[p]? =some o∧lu o.op=true)→H7 P L W N ops l st K→K∧ ∀p∈l,∃o d,ops[p]? =some o∧o.dst=some d∧(execOp a.eval o).run P w= .ok (.value (a.tmps.getD d undef)) w
  |[],_,h=>⟨h,fun p hp=>by cases hp⟩
  | p ::r,hq,h=>by
    simp only[H7]at h
    split at h
    · rename_i o ho
      obtain⟨o',ho',hqo⟩:=hq p List.mem_cons_self
      rw[ho]at ho'
      cases ho'
      split at h
      · rename_i d hd
        obtain⟨y,u,hs,hc,hrun⟩:=xE hL R (o:=o) hqo h
        obtain⟨e,aef,hr⟩:=hs
        obtain⟨hK,hall⟩:=SA hL R (fun p hp=>hq p (List.mem_cons_of_mem _ hp)) hr
        refine⟨hK,fun q hq'=> ?_⟩
        rcases List.mem_cons.1 hq' with rfl|hq'
        · refine⟨o,d,ho,hd, ?_⟩
          have ht:=R.tmps d
          rw[←e]at ht
          rw[hrun,aal aef hc ht]
        · exact hall q hq'
      · exact h.elim
    · exact h.elim
theorem CY {a:Act} {dst:Option Tmp} {u:Value} {d:Nat} (h: ∀t,dst=some t→t≠d):(a.put dst u).tmps.getD d undef=a.tmps.getD d undef:=by
 cases dst with
 |none=>rfl
 | some t=>
   have:=h t rfl
   simp[Act.put,Array.getElem?_setIfInBounds_ne this]
def Slots (ops:List Oper) (done:List Nat) (pend:List (Nat×Value)) (a:Act):Prop:=
 ∀p∈pend,∃o d,ops[p.1]? =some o∧lu o.op=true∧o.dst=some d∧a.tmps.getD d undef=p.2∧ ∀k ok,ops[k]? =some ok→kW k done=false→ok.dst≠some d
theorem aan (hL:bQ P L) {t:TypeId} {i:TI} (hi:aY L t=some i) {k n:Nat} (hn:k+(bif i.isAgg then i.size else 1)≤n) {b:Nat} {us:List Value} (hl:us.length=n):
  ∃u,∀W:World,(∀ (j:Nat) (y:Value),us[j]? =some y→W.cell? ⟨b,0+j,none⟩=some y)→(loadVar t ⟨b,0+k,none⟩).run P W= .ok u W:=by
 cases hg:i.isAgg with
 | true=>
   rw[hg]at hn
   simp only[cond_true]at hn
   refine⟨.agg ((us.drop k).take i.size).toArray,fun W hc=> ?_⟩
   have hlen:((us.drop k).take i.size).length=i.size:=by rw[List.length_take,List.length_drop];omega
   have hl:=run_loadCells_list (P:=P) W ⟨b,0+k,none⟩ ((us.drop k).take i.size) (fun j v hv=>by
    rw[Addr.add_lit]
    rw[List.getElem?_take]at hv
    split at hv
    · rw[List.getElem?_drop]at hv
      rw[Nat.add_assoc]
      exact hc _ _ hv
    · cases hv)
   rw[hlen]at hl
   simp only[loadVar,Sem.run_bind,nO hL hi,hg,Result.andThen_ok,if_true,iq hL hi,hl,Sem.run_pure]
 | false=>
   rw[hg]at hn
   simp only[cond_false]at hn
   refine⟨us[k]'(by omega),fun W hc=> ?_⟩
   have:=hc k _ (List.getElem?_eq_getElem (show k<us.length by omega))
   rw[Nat.zero_add]at this⊢
   simp[loadVar,Sem.run_bind,nO hL hi,hg,this]
theorem UG (hL:bQ P L) (R:Rel g N bs ρ a w st) {o:Oper} (h:Qr L st o.op=true): ∃u,∀W:World,Below w.heap.size w W→(execOp a.eval o).run P W= .ok (.value u) W:=by
 unfold Qr at h
 split at h
 · rename_i t p e
   split at h
   · rename_i i hi
     split at h
     · rename_i id k ep
       split at h
       · rename_i t' cs hf
         have hn:=Nat.le_of_ble_eq_true h
         have hp:=R.ev p
         rw[ep]at hp
         obtain⟨b,hb,hpv⟩:=C2.kJ hp
         obtain⟨b',us,e',hh,ha⟩:=R.objs _ (au hf)
         have hb:dZ (ρ id)=_:=hb
         have e':ρ id=_:=e'
         rw[e']at hb
         cases hb
         have hh:w.heap[b]? =_:=hh
         have hlt:b<w.heap.size:=(Array.getElem?_eq_some_iff.1 hh).1
         obtain⟨u,hu⟩:=aan (P:=P) hL hi hn (b:=b) (us:=us) ha.1.symm
         refine⟨u,fun W hB=> ?_⟩
         have hW:W.heap[b]? =_:=(hB.block b hlt).trans hh
         have hr:=hu W (fun j y hy=>by
          rw[Nat.zero_add,cell_of_row _ _ _ _ _ _ hW]
          simpa using hy)
         rw[Nat.zero_add]at hr
         have:(Instr.loadAt t (a.eval p)).run P W= .ok u W:=by
          rw[hpv]
          simpa[Instr.loadAt,Instr.sureAddr]using hr
         simp[execOp,e,this]
       · cases h
     · cases h
   · cases h
 · cases h
theorem yY {L:Lay} {ops:List Oper} {p:Nat}: ∀ {l:List Nat},p∈l→NJ L st ops p=true∨p∈tZ L st ops l
  |[],h=>by cases h
  | q ::l,h=>by
    unfold tZ
    cases hb:NJ L st ops q with
    | true=>
      rcases List.mem_cons.1 h with rfl|h
      · exact .inl hb
      · exact yY h
    | false=>
      rcases List.mem_cons.1 h with rfl|h
      · exact .inr List.mem_cons_self
      · exact(yY h).imp id fun h=>List.mem_cons_of_mem _ h
theorem yZ {L:Lay} {ops:List Oper} {p:Nat}: ∀ {l:List Nat},p∈tZ L st ops l→p∈l
  |[],h=>h
  | q ::l,h=>by
    unfold tZ at h
    cases hb:NJ L st ops q with
    |true=>rw[hb]at h;exact List.mem_cons_of_mem _ (yZ h)
    | false=>
      rw[hb]at h
      rcases List.mem_cons.1 h with rfl|h
      · exact List.mem_cons_self
      · exact List.mem_cons_of_mem _ (yZ h)
theorem Qs (R:Rel g N bs ρ a w st) {f:FuncId} {cu:List AV} {args:List Value} (hargs:aF (C2 (aB g w ρ st.heap)) cu args) {K:AV→AS→Prop} {d:Nat} (h:Fq P d f cu st K):
  Enters P f∧Calls P f args.toArray w fun e w'=> ∃u x st' ρ',e= .returned u∧K x st'∧Rel g N bs ρ' a w' st'∧C2 (aB g w' ρ' st'.heap) x u∧Below w.heap.size w w':=by
 have mid: ∀ (frozen:Bool),∃k:Nat→Prop,∃st1,st1=(bif frozen then st else sG st cu)∧Rel g N bs ρ a w st1∧(∀b,k b→b<w.heap.size)∧(∀b,aI g w ρ st.heap b→k b)∧(∀x∈cu,Reads st ρ w k x∧ ∀cs,x= .agg cs→ ∀c∈cs,Reads st ρ w k c)∧(frozen=false→ ∀b,k b→aI g w ρ st1.heap b):=by
  intro frozen
  cases frozen with
  | true=>
    refine⟨fun b=>b<w.heap.size,st,rfl,R,fun b h=>h,fun b h=>h.1,fun x hx=> ?_,fun h=>by cases h⟩
    have rd: ∀y:AV,Reads st ρ w (fun b=>b<w.heap.size) y:=fun y id e s n sc f hy hf=>
     kU R hf (fun b h=>h.1) (fun b hb=>(R.gI (aO.2 ⟨_,au hf,hb⟩)).1)
    exact⟨rd x,fun cs e c hc=>rd c⟩
  | false=>
    obtain⟨R1,h1,k1⟩:=DW cu R
    exact⟨aI g w ρ (sG st cu).heap,sG st cu,rfl,R1,fun b h=>h.1,h1.keep,k1,fun _ b h=>h⟩
 cases h with
 | plain bb r hs hsub hr hK=>
   obtain⟨k,st1,e1,R1,hk1,hk2,hk3,hk4⟩:=mid (mD r)
   rw[←e1]at hK
   refine⟨hs.1,(hs.2 w k args hk1 (DV hk2 hsub hk3 hargs)).mono ?_⟩
   rintro e w' ⟨u,Hy,rfl,hb,hc,_,_,_⟩
   refine⟨u,r,st1,ρ,rfl,hK,R1.world hb, ?_,hb⟩
   refine Af (X:=aB (base0 w k) w' Hy []) (d:=none) hr ?_ rfl (fun i h=>by cases h) hc
   cases hq:mD r with
   |true=>exact .inl rfl
   | false=>
     refine .inr fun b hbk=> ?_
     have hkb:b<w.heap.size→aI g w ρ st1.heap b:=fun h=>hk4 hq b ((hbk.2.1 h).elim id False.elim)
     refine⟨hbk.1,fun hlt=>(hkb (by have:=R.below.size;omega)).2.1 hlt,fun hin=> ?_⟩
     have:=(R1.gI hin).1
     exact(hkb this).2.2 hin
 | fresh bb r e s n sc f' hs hsub hr hK=>
   obtain⟨k,st1,e1,R1,hk1,hk2,hk3,hk4⟩:=mid (mD r&&sc)
   rw[←e1]at hK
   refine⟨hs.1,(hs.2 w k args hk1 (DV hk2 hsub hk3 hargs)).mono ?_⟩
   rintro e0 w' ⟨u,Hy,rfl,hb,hc,ho,hnd,hnew⟩
   obtain⟨us,hown,hs0,hfl,hsc,ha⟩:=ho _ (List.mem_singleton.2 rfl)
   have hown:w'.ownsRow 0 e s (Hy d) n us:=hown
   have hBw:=R.below.size
   have hkeep:(mD r&&sc)=false→ ∀b,aI (base0 w k) w' Hy [(d,.row e s n sc f')] b→aI g w' (dF ρ d (Hy d)) (st1.obj d d (.row e s n sc f')).heap b:=by
    intro hq b hbk
    have hkb:b<w.heap.size→aI g w ρ st1.heap b:=fun h=>hk4 hq b ((hbk.2.1 h).elim id False.elim)
    refine⟨hbk.1,fun hlt=>(hkb (by omega)).2.1 hlt,fun hin=> ?_⟩
    have hbl:ah (dF ρ d (Hy d)) (st1.obj d d (.row e s n sc f')).heap=blks (Hy d)++ah ρ (gone d d st1.heap):=by
     show ah _ (_::_)=_
     rw[aU,uX,mg]
     · simp[dF]
     · intro p hp
       simp only[nK,List.mem_map]at hp
       obtain⟨q,hq,rfl⟩:=hp
       exact(sD.1 hq).2.1
    rw[hbl,List.mem_append]at hin
    rcases hin with h1|h1
    · exact hbk.2.2 (by rw[aU];exact List.mem_append_left _ h1)
    · have hin':=gX h1
      exact(hkb (R1.gI hin').1).2.2 hin'
   have hblk: ∀b∈blks (Hy d),w.heap.size≤b:=fun b hb'=>hnew b (aO.2 ⟨_,List.mem_singleton.2 rfl,hb'⟩)
   have R2:Rel g N bs (dF ρ d (Hy d)) a w' (st1.obj d d (.row e s n sc f')):=by
    refine R1.obj d d (R.below.then hb hBw) hb.size (fun b hlt _=>hb.block b hlt) (fun b hb'=> .inl (hblk b hb')) (fun hE=> ?_) (nM hown)
    refine⟨us,by simpa[aB,dF]using hown,hs0,hfl,hsc, ?_⟩
    cases hq:(mD r&&sc)with
    | true=>
      simp only[Bool.and_eq_true]at hq
      refine⟨ha.1,fun i x u hx hu=> ?_⟩
      obtain⟨y,rfl⟩:=hsc hq.2 x (List.mem_of_getElem? hx)
      have:=ha.2 i _ u hx hu
      cases this with
      |v _ h1=>exact .v _ h1
    |false=>exact ha.imp fun _ _=>PC.mono (hkeep hq) fun _ _=>rfl
   refine⟨u,r,_,_,rfl,hK,R2, ?_,hb⟩
   refine Af (X:=aB (base0 w k) w' Hy [(d,.row e s n sc f')]) (d:=some d) hr ?_ rfl (fun i h=>by cases h;simp[aB,dF]) hc
   cases hq:(mD r&&sc)with
   |true=>simp only[Bool.and_eq_true]at hq;exact .inl hq.1
   |false=>exact .inr (hkeep hq)
theorem UH (R:Rel g N bs ρ a w st) {o:Oper} {c:Call} (e:o.op= .call c) {x:Operand} (ec:c.callee= .value x) {gg:FuncId} {caps:List AV} (ex:(st.ev x).WI= .fn gg caps) {d:Nat} {K:AV→AS→Prop} {next:Act→World→Prop} {Q:Exit→Act→World→Prop}
  (h:Fq P d gg (c.args.toList.map st.ev++caps) st K) (hk: ∀x st' u ρ' w',K x st'→Rel g N bs ρ' a w' st'→C2 (aB g w' ρ' st'.heap) x u→Below w.heap.size w w'→next (a.put o.dst u) w'):o.wp P a w next Q:=by
 have hx:=zL (R.ev x)
 rw[ex]at hx
 obtain⟨us,hv,ha⟩:=C2.BF hx
 have hargs:=(xC R c.args.toList).app (Nl ha)
 obtain⟨hent,hcall⟩:=Qs R hargs h
 have hrun:(execOp a.eval o).run P w= .ok (.enter gg (c.args.toList.map a.eval++us).toArray) w:=by
  have hcf:=pz hent (c.args.toList.map a.eval++us).toArray w
  have eq:(c.args.toList.map a.eval++us).toArray=(#[]++c.args.map a.eval)++us.toArray:=by
   apply Array.ext';simp
  rw[eq]at hcf⊢
  simp only[execOp,e,resolve,ec,Deferred.ofValue,hv,Sem.run_bind,Sem.run_pure,Result.andThen_ok,invoke]
  exact hcf
 unfold Oper.wp
 rw[hrun,Oper.upon_enter]
 refine hcall.mono ?_
 rintro e' w' ⟨u,y,st',ρ',rfl,h1,h2,h3,h4⟩
 exact hk _ _ _ _ _ h1 h2 h3 h4
theorem FB (hL:bQ P L) {W:Walk} (hW:Hz P W) {ops:List Oper} (hs:Region.noSelect ops.toArray=true) {kp:Bool} {Q:AS→Prop} {E:Exit→Act→World→Prop} (hE: ∀e a w,e≠ .normal→ ¬E e a w) (hQ: ∀ρ a w st,Rel g N bs ρ a w st→Q st→E .normal a w)
  {T U:List (Nat×List Nat)} (hTU: ∀x∈T,x∈U) (hU:XI ops U=true):
  ∀ (sc:List (Nat×Option (List Nat))) {done:List Nat} {listed:Array Bool} {pend:List (Nat×Value)} {pl:List Nat} {ρ:Nat→Value} {a:Act} {w:World} {st:AS},
   (∀k l,(k,some l)∈sc→(k,l)∈T)→Qq ops T sc done=true→XE ops.length done listed→Closed U listed→IU ops.toArray listed pend→Slots ops done pend a→Sv P ops.toArray T listed pend a w→(∀p∈pend,alive T listed p.1→p.1∈pl)→(∀p∈pl,∃o,ops[p]? =some o∧lu o.op=true)→
   Rel g N bs ρ a w st→uf P L W N ops kp Q sc pl st→jy P ops.toArray E T sc.length listed pend a w
  | [],done,listed,pend,pl,ρ,a,w,st,_,FC,hl,_,_,_,_,_,_,R,h=>by
    refine⟨?_,hQ _ _ _ _ R h⟩
    have e:gK ops.length done 0 ops=[]:=by
     simp only[Qq]at FC
     cases hr:gK ops.length done 0 ops with
     |nil=>rfl
     |cons x l=>rw[hr]at FC;cases FC
    cases hr:Region.ready .any ops.toArray listed with
    |nil=>rfl
    | cons j r=>
      have:j∈gK ops.length done 0 ops:=(kX hl).1 (by rw[hr];exact List.mem_cons_self)
      rw[e]at this
      cases this
  | (i, none) ::r,done,listed,pend,pl,ρ,a,w,st,hTs,FC,hl,hC,hB,hS,hO,hpl,hpq,R,h=>by
    have ih:= @FB hL W hW ops hs kp Q E hE hQ T U hTU hU r
    simp only[Qq,Bool.and_eq_true]at FC
    obtain⟨hi,hrest⟩:=FC
    simp only[uf]at h
    split at hi
    · rename_i o ho
      rw[ho]at h
      dsimp only at h
      simp only[Bool.and_eq_true]at hi
      obtain⟨⟨⟨⟨hm,hf⟩,hbl⟩,hself⟩,hT⟩:=hi
      have hlt:i<ops.length:=(List.getElem?_eq_some_iff.1 ho).1
      have Wv:ops.toArray[i]? =some o:=by simpa using ho
      have hr:i∈Region.ready .any ops.toArray listed:=(kX hl).2 (D6.1 hm)
      have hsel:=Region.noSelect_spec hs
      have hT': ∀l,(i,l)∈T→False:=by
       intro l hx
       simp only[Bool.not_eq_true',List.any_eq_false]at hT
       have:=hT _ hx
       simp at this
      have XM: ∀d,o.dst=some d→d ∉ o.looksAt ops.toArray:=by
       intro d hd
       rw[hd]at hself
       simp only[Bool.not_eq_true']at hself
       simpa using pU hself
      have hfree: ∀j oj,ops.toArray[j]? =some oj→j≠i→listed.getD j true=false→(∀d,o.dst=some d→oj.dst≠some d)∧((∀e∈oj.after,Region.binds .any e=true→e.on≠i)→(∀d,oj.dst=some d→d ∉ o.looksAt ops.toArray)∧ ∀d,o.dst=some d→d ∉ oj.looksAt ops.toArray):=by
       intro j oj h1 h2 h3
       have h1':ops[j]? =some oj:=by simpa using h1
       have hlt':j<ops.length:=(List.getElem?_eq_some_iff.1 h1').1
       exact IW hf j oj h1' (by omega) (by rw[Nat.zero_add,←hl.H6 hlt' true];exact h3)
      have hun:kW i done=false:=by
       rw[←hl.H6 hlt true]
       exact(mem_ready.1 hr).1
      have acr:yV ops done i o 0 ops=true→ ∀j oj,ops.toArray[j]? =some oj→j≠i→listed.getD j true=false→ ∀d,oj.dst=some d→d ∉ o.looksAt ops.toArray:=by
       intro hbl j oj h1 h2 h3
       have h1':ops[j]? =some oj:=by simpa using h1
       have hlt':j<ops.length:=(List.getElem?_eq_some_iff.1 h1').1
       exact IX hbl j oj h1' (by omega) (by rw[Nat.zero_add,←hl.H6 hlt' true];exact h3)
      have sN:Closed U (listed.setIfInBounds i true):=by
       intro k l hk hll p hp
       by_cases hki:k=i
       · subst hki
         exact getD_set_true (Fz hU k l listed hk hC hr p hp)
       · rw[getD_set_ne false (Ne.symm hki)]at hll
         exact getD_set_true (hC k l hk hll p hp)
      have hal: ∀p,alive T (listed.setIfInBounds i true) p→alive T listed p:=fun p hp k l hk hll=>hp k l hk (getD_set_true hll)
      have hal2: ∀p,alive T listed p→alive T (listed.setIfInBounds i true) p:=fun p hp k l hk hll=>by
       by_cases hki:k=i
       · subst hki;exact(hT' l hk).elim
       · rw[getD_set_ne false (Ne.symm hki)]at hll
         exact hp k l hk hll
      have unl: ∀k,(listed.setIfInBounds i true).getD k true=false→listed.getD k true=false:=by
       intro k hk
       by_cases hki:i=k
       · subst hki
         have hsz:i<listed.size:=by rw[hl.1];exact hlt
         simp[hsz]at hk
       · rw[getD_set_ne true hki]at hk;exact hk
      have adx: ∀k,kW k (i::done)=false→kW k done=false:=by
       intro k hk
       simp only[kW,Bool.or_eq_false_iff]at hk
       exact hk.2
      --the step:the value v,whether it needs nothing of the memory
      have step: ∀ (v:Value) (pu:Bool) (pl':List Nat) (ρ':Nat→Value) (st':AS),YieldsAt P ops.toArray o v a w→(pu=true→Yields P ops.toArray o v a)→(∀p∈pl,p∈pl')→(pu=false→i∈pl'∧lu o.op=true∧yV ops done i o 0 ops=true∧ ∃d,o.dst=some d∧d<N)→(∀p∈pl',∃o,ops[p]? =some o∧lu o.op=true)→Rel g N bs ρ' (a.put o.dst v) w st'→uf P L W N ops kp Q r pl' st'→jy P ops.toArray E T (r.length+1) listed pend a w:=by
       intro v pu pl' ρ' st' hy hpu hsub hin hq' R' h'
       refine KJ Wv hsel (fun c a w h=>absurd h (hE _ _ _ (by simp))) hT' hTU (fun k l listed hk hC hr=>Fz hU k l listed hk hC hr) pu r.length listed pend a w hfree XM hr hC hB hO hy hpu ?_
       have hB':IU ops.toArray (listed.setIfInBounds i true) (Qp pu (i,v) pend):=by
        intro p hp o' ho' k ok hk hku d hd
        have ady:=unl k hku
        have hki:k≠i:=by
         rintro rfl
         have hsz:k<listed.size:=by rw[hl.1];exact hlt
         simp[hsz]at hku
        have old:p∈pend→d ∉ o'.looksAt ops.toArray:=fun hp=>hB p hp o' ho' k ok hk ady d hd
        cases vU:pu with
        |true=>rw[vU]at hp;exact old hp
        | false=>
          rw[vU]at hp
          rcases List.mem_cons.1 hp with rfl|hp
          · dsimp only at ho'
            rw[Wv]at ho'
            cases ho'
            exact acr (hin vU).2.2.1 k ok hk hki ady d hd
          · exact old hp
       have hS':Slots ops (i::done) (Qp pu (i,v) pend) (a.put o.dst v):=by
        intro p hp
        have old:p∈pend→ ∃o' d,ops[p.1]? =some o'∧lu o'.op=true∧o'.dst=some d∧(a.put o.dst v).tmps.getD d undef=p.2∧ ∀k ok,ops[k]? =some ok→kW k (i::done)=false→ok.dst≠some d:=by
         intro hp
         obtain⟨o',d,h1,h2,h3,h4,h5⟩:=hS p hp
         refine⟨o',d,h1,h2,h3, ?_,fun k ok hk hkd=>h5 k ok hk (adx k hkd)⟩
         rw[CY fun t ht e=>h5 i o ho hun (by rw[ht,e])]
         exact h4
        cases vU:pu with
        |true=>rw[vU]at hp;exact old hp
        | false=>
          rw[vU]at hp
          rcases List.mem_cons.1 hp with rfl|hp
          · obtain⟨_,hq,_,d,hd,hdN⟩:=hin vU
            refine⟨o,d,ho,hq,hd, ?_,fun k ok hk hkd=> ?_⟩
            · rw[hd]
              have:d<a.tmps.size:=by rw[R.size];exact hdN
              simp[Act.put,this]
            · have hlt':k<ops.length:=(List.getElem?_eq_some_iff.1 hk).1
              have hki:k≠i:=by
               rintro rfl
               simp[kW]at hkd
              exact(hfree k ok (by simpa using hk) hki (by rw[hl.H6 hlt' true];exact adx k hkd)).1 d hd
          · exact old hp
       have hO':Sv P ops.toArray T (listed.setIfInBounds i true) (Qp pu (i,v) pend) (a.put o.dst v) w:=by
        intro p hp hap o' ho'
        have old:p∈pend→YieldsAt P ops.toArray o' p.2 (a.put o.dst v) w:=fun hp=>
         (YieldsAt.put (fun cs b=>hsel _ _ cs b ho') fun d hd=>hB p hp o' ho' i o Wv (mem_ready.1 hr).1 d hd).2 (hO p hp (hal _ hap) o' ho')
        cases vU:pu with
        |true=>rw[vU]at hp;exact old hp
        | false=>
          rw[vU]at hp
          rcases List.mem_cons.1 hp with rfl|hp
          · dsimp only at ho'
            rw[Wv]at ho'
            cases ho'
            exact(YieldsAt.put (fun cs b=>hsel _ _ cs b Wv) XM).2 hy
          · exact old hp
       refine ih (fun k l hk=>hTs k l (List.mem_cons_of_mem _ hk)) hrest (hl.set hlt) sN hB' hS' hO' ?_ hq' R' h'
       intro p hp hap
       have old:p∈pend→p.1∈pl':=fun hp=>hsub _ (hpl p hp (hal _ hap))
       cases vU:pu with
       |true=>rw[vU]at hp;exact old hp
       | false=>
         rw[vU]at hp
         rcases List.mem_cons.1 hp with rfl|hp
         · exact(hin vU).1
         · exact old hp
      split at h
      · rename_i hw
        have hwant:=lF R hw
        split at h
        · rename_i hpu
          have go: ∀d,P6 P L W d st o.op (fun x st'=>oP N st' o.dst x (uf P L W N ops kp Q r pl))→jy P ops.toArray E T (r.length+1) listed pend a w:=by
           intro d hd
           obtain⟨x,u,st',ρ',h1,R1,h2,h3⟩:=Ny hL R hpu hd
           obtain⟨st2,k2,R2⟩:=iE R1 h2 h1
           exact step u true pl _ st2 (.inl ⟨hwant,h3 w⟩) (fun _=> .inl ⟨hwant,h3⟩) (fun _ h=>h) (fun e=>by cases e) hpq R2 k2
          unfold yN at h
          cases hd:o.dst with
          |none=>rw[hd]at h;dsimp only at h;exact go 0 (by rw[hd];exact h)
          |some d=>rw[hd]at h;dsimp only at h;exact go d (by rw[hd];exact h)
        · rename_i hnp
          have aeg:yV ops done i o 0 ops=true:=by
           rcases Bool.or_eq_true _ _▸hbl with h1|h1
           · rw[NK h1 L st]at hnp;cases hnp
           · exact h1
          cases hq:lu o.op with
          |false=>rw[hq]at h;exact h.elim
          |true=>
          rw[hq]at h
          dsimp only at h
          unfold yN at h
          cases hd:o.dst with
          | none=>
            rw[hd]at hself
            cases hself
          | some d=>
            rw[hd]at h
            dsimp only at h
            obtain⟨x,u,h1,h2,h3⟩:=xE hL R (o:=o) hq h
            have hdN:d<N:=by
             unfold oP at h1
             dsimp only at h1
             cases hb:Nat.ble (d+1) N with
             |false=>rw[hb]at h1;exact h1.elim
             |true=>exact Nat.le_of_ble_eq_true hb
            obtain⟨st2,k2,R2⟩:=iE R h2 h1
            exact step u false (i::pl) ρ st2 (.inl ⟨hwant,h3⟩) (fun e=>by cases e) (fun _ h=>List.mem_cons_of_mem _ h) (fun _=>⟨List.mem_cons_self,hq,aeg,d,hd,hdN⟩) (fun p hp=>by
             rcases List.mem_cons.1 hp with rfl|hp
             · exact⟨o,ho,hq⟩
             · exact hpq p hp) (by rw[hd];exact R2) k2
      · rename_i hw
        have hwant:=lF R hw
        obtain⟨st2,k2,R2⟩:=iE R (show C2 (aB g w ρ st.heap) (.v undef) undef from rfl) h
        exact step undef true pl ρ st2 (.inr ⟨hwant,rfl⟩) (fun _=> .inr ⟨hwant,rfl⟩) (fun _ h=>h) (fun e=>by cases e) hpq R2 k2
      · exact h.elim
    · cases hi
  | (i, some l) ::r,done,listed,pend,pl,ρ,a,w,st,hTs,FC,hl,hC,hB,hS,hO,hpl,hpq,R,h=>by
    have ih:= @FB hL W hW ops hs kp Q E hE hQ T U hTU hU r
    simp only[Qq,Bool.and_eq_true]at FC
    obtain⟨hi,hrest⟩:=FC
    have e:=XL hi
    have hr:i∈Region.ready .any ops.toArray listed:=(kX hl).2 (by rw[e];exact List.mem_cons_self)
    refine⟨fun h0=>(by rw[h0]at hr;cases hr),fun j hj=> ?_⟩
    have hji:j=i:=by
     have:=(kX hl).1 hj
     rw[e]at this
     exact List.mem_singleton.1 this
    subst hji
    simp only[uf]at h
    split at h
    · rename_i o ho
      have hlt:j<ops.length:=(List.getElem?_eq_some_iff.1 ho).1
      have Wv:ops.toArray[j]? =some o:=by simpa using ho
      have hsel:=Region.noSelect_spec hs
      have hun:kW j done=false:=by
       rw[←hl.H6 hlt true]
       exact(mem_ready.1 hj).1
      have hjT:(j,l)∈T:=hTs j l List.mem_cons_self
      have sN:Closed U (listed.setIfInBounds j true):=by
       intro k l hk hll p hp
       by_cases hki:k=j
       · subst hki
         exact getD_set_true (Fz hU k l listed hk hC hr p hp)
       · rw[getD_set_ne false (Ne.symm hki)]at hll
         exact getD_set_true (hC k l hk hll p hp)
      have hB':IU ops.toArray (listed.setIfInBounds j true) pend:=by
       intro p hp o' ho' k ok hk hku d hd
       refine hB p hp o' ho' k ok hk ?_ d hd
       by_cases hki:j=k
       · subst hki;exact(mem_ready.1 hj).1
       · rw[getD_set_ne true hki]at hku;exact hku
      have hsz:j<listed.size:=by rw[hl.1];exact hlt
      have hal: ∀p,alive T (listed.setIfInBounds j true) p→alive T listed p∧p ∉ l:=fun p hp=>⟨fun k l hk hll=>hp k l hk (getD_set_true hll),hp j l hjT (by simp[hsz])⟩
      --behind the step
      have fin0: ∀ (u:Value) (ρ':Nat→Value) (w':World) (st':AS),Rel g N bs ρ' (a.put o.dst u) w' st'→(∀p∈outOf l pl,∀o2 d,ops[p]? =some o2→o2.dst=some d→(∀v,(execOp a.eval o2).run P w= .ok (.value v) w→v=(a.put o.dst u).tmps.getD d undef→(execOp (a.put o.dst u).eval o2=execOp a.eval o2)→(execOp (a.put o.dst u).eval o2).run P w'= .ok (.value v) w'))→uf P L W N ops kp Q r (outOf l pl) st'→Sv P ops.toArray T (listed.setIfInBounds j true) pend (a.put o.dst u) w'∧jy P ops.toArray E T r.length (listed.setIfInBounds j true) pend (a.put o.dst u) w':=by
       intro u ρ' w' st' R' hre hK
       have aeh: ∀p∈outOf l pl,∃o,ops[p]? =some o∧lu o.op=true:=fun p hp=>hpq p (xJ hp)
       have hS':Slots ops (j::done) pend (a.put o.dst u):=by
        intro p hp
        obtain⟨o',d,h1,h2,h3,h4,h5⟩:=hS p hp
        refine⟨o',d,h1,h2,h3, ?_,fun k ok hk hkd=>h5 k ok hk ?_⟩
        · rw[CY fun t ht e=>h5 j o ho hun (by rw[ht,e])]
          exact h4
        · simp only[kW,Bool.or_eq_false_iff]at hkd
          exact hkd.2
       have hin: ∀p∈pend,alive T (listed.setIfInBounds j true) p.1→p.1∈outOf l pl:=fun p hp hap=>BM (hpl p hp (hal _ hap).1) (hal _ hap).2
       have hO':Sv P ops.toArray T (listed.setIfInBounds j true) pend (a.put o.dst u) w':=by
        intro p hp hap o' ho'
        have ho2:ops[p.1]? =some o':=by simpa using ho'
        obtain⟨o3,d3,q1,q2,q3,q4,q5⟩:=hS' p hp
        rw[ho2]at q1
        obtain rfl:o'=o3:=by simpa using q1
        have:=hO p hp (hal _ hap).1 o' ho'
        have hd': ∀d,o.dst=some d→d ∉ o'.looksAt ops.toArray:=fun d hd=>hB p hp o' ho' j o Wv (mem_ready.1 hj).1 d hd
        have hw':=wanted_put (ops:=ops.toArray) o' a o.dst u hd'
        have he':=execOp_put (ops:=ops.toArray) o' (fun cs b=>hsel _ _ cs b ho') a o.dst u hd'
        rcases this with⟨h1,h2⟩|⟨h1,h2⟩
        · exact .inl ⟨by rw[hw'];exact h1,hre p.1 (hin p hp hap) o' d3 ho2 q3 _ h2 q4.symm he'⟩
        · exact .inr ⟨by rw[hw'];exact h1,h2⟩
       exact⟨hO',ih (fun k l hk=>hTs k l (List.mem_cons_of_mem _ hk)) hrest (hl.set hlt) sN hB' hS' hO' hin aeh R' hK⟩
      have adz: ∀ (u:Value) (ρ':Nat→Value) (w':World) (st':AS) (l':List Nat) {K:Prop},Rel g N bs ρ' (a.put o.dst u) w' st'→(∀p∈l',p∈outOf l pl)→H7 P L W N ops l' st' K→K∧ ∀p∈l',∀o2 d,ops[p]? =some o2→o2.dst=some d→(∀v,(execOp a.eval o2).run P w= .ok (.value v) w→v=(a.put o.dst u).tmps.getD d undef→(execOp (a.put o.dst u).eval o2=execOp a.eval o2)→(execOp (a.put o.dst u).eval o2).run P w'= .ok (.value v) w'):=by
       intro u ρ' w' st' l' K R' hsub hk
       obtain⟨hK,hre⟩:=SA hL R' (fun p hp=>hpq p (xJ (hsub p hp))) hk
       refine⟨hK,fun p hp o2 d h1 h2 v _ h4 _=> ?_⟩
       obtain⟨o3,d3,k1,k2,k3⟩:=hre p hp
       rw[h1]at k1
       obtain rfl:o2=o3:=by simpa using k1
       rw[h2]at k2
       obtain rfl:d=d3:=by simpa using k2
       rw[k3,h4]
      have fin: ∀ (u:Value) (ρ':Nat→Value) (w':World) (st':AS),Rel g N bs ρ' (a.put o.dst u) w' st'→H7 P L W N ops (outOf l pl) st' (uf P L W N ops kp Q r (outOf l pl) st')→Sv P ops.toArray T (listed.setIfInBounds j true) pend (a.put o.dst u) w'∧jy P ops.toArray E T r.length (listed.setIfInBounds j true) pend (a.put o.dst u) w':=by
       intro u ρ' w' st' R' hk
       obtain⟨hK,hre⟩:=adz u ρ' w' st' _ R' (fun p hp=>hp) hk
       exact fin0 u ρ' w' st' R' hre hK
      have adA: ∀ (u:Value) (ρ':Nat→Value) (w':World) (st':AS),Rel g N bs ρ' (a.put o.dst u) w' st'→Below w.heap.size w w'→H7 P L W N ops (tZ L st ops (outOf l pl)) st' (uf P L W N ops kp Q r (outOf l pl) st')→Sv P ops.toArray T (listed.setIfInBounds j true) pend (a.put o.dst u) w'∧jy P ops.toArray E T r.length (listed.setIfInBounds j true) pend (a.put o.dst u) w':=by
       intro u ρ' w' st' R' hBw hk
       obtain⟨hK,hre⟩:=adz u ρ' w' st' _ R' (fun p hp=>yZ hp) hk
       refine fin0 u ρ' w' st' R' (fun p hp o2 d h1 h2 v h3 h4 h5=> ?_) hK
       rcases yY (L:=L) (st:=st) (ops:=ops) hp with hkp|hnk
       · unfold NJ at hkp
         rw[h1]at hkp
         obtain⟨v',hv'⟩:=UG (P:=P) hL R (o:=o2) hkp
         have e1:=hv' w (Below.refl _ _)
         rw[e1]at h3
         have e2:v'=v:=by simpa using h3
         rw[h5,hv' w' hBw,e2]
       · exact hre p hnk o2 d h1 h2 v h3 h4 h5
      unfold wpOp
      rw[Wv]
      dsimp only
      cases kp with
      | true=>
        dsimp only at h
        unfold abG at h
        split at h
        · rename_i hw
          rw[lF R hw]
          simp only[if_true]
          refine .inl ?_
          split at h
          · rename_i c ec
            split at h
            · rename_i x ex
              split at h
              · rename_i gg caps ev
                rw[iP]at h
                refine UH R ec ex ev h ?_
                intro x st' u ρ' w' hx R' hc hBw
                obtain⟨st2,h2,R2⟩:=iE R' hc hx
                exact adA u ρ' w' st2 R2 hBw h2
              · exact h.elim
            · exact h.elim
          · exact h.elim
        · rename_i hw
          rw[lF R hw]
          simp only[Bool.false_eq_true,if_false]
          obtain⟨st2,k2,R2⟩:=iE R (show C2 (aB g w ρ st.heap) (.v undef) undef from rfl) h
          exact adA undef ρ w st2 R2 (Below.refl _ _) k2
        · exact h.elim
      | false=>
        dsimp only at h
        unfold oK at h
        split at h
        · rename_i hw
          rw[lF R hw]
          simp only[if_true]
          refine .inl ?_
          have go: ∀d,P6 P L W d st o.op (fun x st'=>oP N st' o.dst x (fun st'=>H7 P L W N ops (outOf l pl) st' (uf P L W N ops false Q r (outOf l pl) st')))→o.wp P a w (fun a' w'=>Sv P ops.toArray T (listed.setIfInBounds j true) pend a' w'∧jy P ops.toArray E T r.length (listed.setIfInBounds j true) pend a' w') E:=by
           intro d hd
           refine DY hL hW R (d:=d) hd ?_
           intro x st' u ρ' w' hx R' hc
           obtain⟨st2,h2,R2⟩:=iE R' hc hx
           exact fin u ρ' w' st2 R2 h2
          unfold yN at h
          cases hd:o.dst with
          |none=>rw[hd]at h;dsimp only at h;exact go 0 (by rw[hd];exact h)
          |some d=>rw[hd]at h;dsimp only at h;exact go d (by rw[hd];exact h)
        · rename_i hw
          rw[lF R hw]
          simp only[Bool.false_eq_true,if_false]
          obtain⟨st2,k2,R2⟩:=iE R (show C2 (aB g w ρ st.heap) (.v undef) undef from rfl) h
          exact fin undef ρ w st2 R2 k2
        · exact h.elim
    · exact h.elim
theorem iG.XO (kp:Bool) (hL:bQ P L) {W:Walk} (hW:Hz P W) (sc:List (Nat×Option (List Nat))) (U:List (Nat×List Nat)) {id:Nat} {ops:Array Oper} {K:AS→Prop} {st:AS} (hm:P.follows .mixedOrders=true) (hs:(Region.noSelect ops&&Nat.beq sc.length ops.size&&BL ops.toList sc U)=true)
  (h:uf P L W N ops.toList kp K sc [] st):iG P L W N id ops K st:=by
 refine .sem fun g bs ρ a w E R hK=> ?_
 simp only[Bool.and_eq_true,BL]at hs
 obtain⟨⟨hns,hlen⟩,⟨hU,hTU⟩,FC⟩:=hs
 refine Code.wp_mono (Q:=fun e a w=>e= .normal∧E .normal a w) (fun e a w h=>by obtain⟨rfl,h⟩:=h;exact h) ?_
 have e1:ops.size=ops.toList.length:=by simp
 refine wp_region_any hm ?_
 have hl:XE ops.toList.length [] (Array.replicate ops.size false):=by
  refine⟨by simp,fun k hk=> ?_⟩
  rw[Array.getElem?_replicate,if_pos (by rw[e1];exact hk)]
  rfl
 have hnone: ∀k,(Array.replicate ops.size false).getD k false=false:=by
  intro k
  rw[Array.getD_eq_getD_getElem?,Array.getElem?_replicate]
  split<;>rfl
 have R':Rel g N bs ρ a w.drew st:=R.world (Below.refl _ _).drew
 have:=FB (g:=g) (bs:=bs) (N:=N) hL hW (ops:=ops.toList) (by simpa using hns) (Q:=K) (E:=fun e a w=>e= .normal∧E .normal a w) (fun e a w hne h=>hne h.1) (fun ρ a w st R h=>⟨rfl,hK ρ a w st R h⟩) (aam hTU) hU sc (pend:=[]) (pl:=[])
  (fun k l h=>yX h) FC hl (fun k l hk hll=>by rw[hnone]at hll;cases hll) (fun p hp=>by cases hp) (fun p hp=>by cases hp) (fun p hp=>by cases hp) (fun p hp=>by cases hp) (fun p hp=>by cases hp) R' h
 have h3:=this.any
 have e2:sc.length=ops.size:=Nat.eq_of_beq_eq_true hlen
 rw[e2]at h3
 simpa using h3
theorem iG.sched (hL:bQ P L) {W:Walk} (hW:Hz P W) (sc:List (Nat×Option (List Nat))) (U:List (Nat×List Nat)) {id:Nat} {ops:Array Oper} {K:AS→Prop} {st:AS} (hm:P.follows .mixedOrders=true) (hs:(Region.noSelect ops&&Nat.beq sc.length ops.size&&BL ops.toList sc U)=true)
  (h:uf P L W N ops.toList false K sc [] st):iG P L W N id ops K st:= .XO false hL hW sc U hm hs h
theorem iG.keep (hL:bQ P L) {W:Walk} (hW:Hz P W) (sc:List (Nat×Option (List Nat))) (U:List (Nat×List Nat)) {id:Nat} {ops:Array Oper} {K:AS→Prop} {st:AS} (hm:P.follows .mixedOrders=true) (hs:(Region.noSelect ops&&Nat.beq sc.length ops.size&&BL ops.toList sc U)=true)
  (h:uf P L W N ops.toList true K sc [] st):iG P L W N id ops K st:= .XO true hL hW sc U hm hs h
end
end
end Go.Proofs.YtimhagicagdkfaaGreat
