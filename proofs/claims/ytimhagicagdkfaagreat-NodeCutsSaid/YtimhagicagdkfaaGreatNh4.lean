/-
  Contracts of the walk:AmC.
-/
import Derived.Test.YtimhagicagdkfaaGreatNh3
import Derived.Orders
set_option maxHeartbeats 16000000
set_option maxRecDepth 100000
set_option linter.unusedVariables false
set_option linter.unusedSimpArgs false
namespace Go.Proofs.YtimhagicagdkfaaGreat
section
open Go.RowKit
def adT (k:Nat):AO→AV
  | .box .. => .box k 0
  | .row .. => .own k
  | .mp .. => .own k
  | .obs _=> .own k
  | .rn .. => .own k
def EN:Nat→List (Nat×AO)→List (Nat×AV)
  |_,[]=>[]
  |n,(k,o)::l=>(n,adT k o)::EN (n+1) l
def QO (dn:List AV) (hin:List (Nat×AO)) (base:Nat):AS:=⟨Aj 0 dn,hin,[EN 0 hin],base⟩
def Ls:AO→Bool
  | .box .. =>false
  | .row .. =>false
  | .mp .. =>true
  | .obs _=>true
  | .rn .. =>false
def ab7 (k:Nat) (o:AO) (hout:List (Nat×AO)):Bool:=match aP k hout with|some o'=>Ls o==Ls o'|none=>true
def Gf (hout:List (Nat×AO)) (back:List (List (Nat×AV))):Nat→List (Nat×AO)→Bool
  |_,[]=>true
  | n,(k,o)::l=>(!(gG k hout)||(ab7 k o hout&&match back,o with
    |[f],.box .. =>(match qW f n with| .box i j=>Nat.beq i k&&Nat.beq j 0|_=>false)
    |[f],.row .. =>(match qW f n with| .own i=>Nat.beq i k|_=>false)
    |[f],.mp .. =>(match qW f n with| .own i=>Nat.beq i k|_=>false)
    |[f],.obs _=>(match qW f n with| .own i=>Nat.beq i k|_=>false)
    |[f],.rn .. =>(match qW f n with| .own i=>Nat.beq i k|_=>false)
    |_,_=>false))&&Gf hout back (n+1) l
def Gg (h hout:List (Nat×AO)):AV→AV
  | .own i=>bif gG i hout then .own i else IV h (.own i)
  | .box i k=>bif gG i hout then .box i k else .junk
  | .dP i s j k=>bif gG i hout then .dP i s j k else .junk
  | .jq i s j k=>bif gG i hout then .jq i s j k else .junk
  | .v x=> .v x
  | .sl s n sc f=> .sl s n sc f
  |_=> .junk
def Ya (h hout:List (Nat×AO)):AV→AV
  | .agg cs=> .agg (cs.map (Gg h hout))
  |x=>Gg h hout x
def Yb (h hout:List (Nat×AO)):AV→AV
  | .dF vs=> .dF (vs.map (Ya h hout))
  |x=>Ya h hout x
structure Lu (hin:List (Nat×AO)) (σ:List (Nat×Nat)) (st:AS) (x r:AV) (hout:List (Nat×AO)):Prop where
 nd:nodupB (σ.map (·.2))=true
 fx:Gf hout (st.ren σ).back 0 hin=true
 hp:LeH (st.ren σ) hout
 hn:nodupB (hout.map (·.1))=true
 hc:jT hout hout=true
 hr:aS (Yb (st.ren σ).heap hout (CJ σ x)) r
def Yc (L:Lay) (fn:Func) (hin:List (Nat×AO)) (r:AV) (hout:List (Nat×AO)):jI→AS→Prop
  | .normal,st=>mP L st fn.results.toList (fun x=> ∃σ,Lu hin σ st x r hout)
  | .ret,st=>mP L st fn.results.toList (fun x=> ∃σ,Lu hin σ st x r hout)
  | .exit _,_=>False
section
variable {P:Program} {L:Lay} {g:Base} {N:Nat} {bs:List (Array Value)} {ρ:Nat→Value} {a:Act} {w:World} {st:AS}
def oq (ρ:Nat→Value):List (Nat×AO)→List Value
  |[]=>[]
  |(k,_)::l=>eP (ρ k)::oq ρ l
theorem Ob {X:CX}: ∀ {hin:List (Nat×AO)} {n:Nat} {pre:List Value},pre.length=n→(∀p∈hin,bn X p.1 p.2)→ ∀t,C2 X (qW (EN n hin) t) ((pre++oq X.ρ hin).toArray.getD t undef)
  |[],n,pre,_,_,t=>trivial
  | (k,o)::l,n,pre,hp,ho,t=>by
    have ih:=Ob (X:=X) (hin:=l) (n:=n+1) (pre:=pre++[eP (X.ρ k)]) (by simp[hp]) (fun p hp=>ho p (List.mem_cons_of_mem _ hp)) t
    simp only[EN,qW]
    cases hb:Nat.beq t n with
    | true=>
      have e:=Nat.eq_of_beq_eq_true hb
      have ev:(pre++oq X.ρ ((k,o)::l)).toArray.getD t undef=eP (X.ρ k):=by
       simp[oq,e,←hp]
      simp only[cond_true]
      rw[ev]
      have h0:=ho (k,o) List.mem_cons_self
      cases o with
      |box ty cs=>obtain⟨b,us,e',_⟩:=h0;exact⟨b,by rw[e'];rfl,by rw[e'];rfl⟩
      |row=>exact rfl
      |mp=>exact rfl
      |obs=>exact rfl
      |rn=>exact rfl
    | false=>
      simp only[cond_false]
      have e3:pre++oq X.ρ ((k,o)::l)=pre++[eP (X.ρ k)]++oq X.ρ l:=by simp[oq]
      rw[e3]
      exact ih
theorem bn.dF {X:CX} {k:Nat} {o:AO} (h:bn X k o):(Ls o=true→ ∃us,X.ρ k= .tuple us)∧(Ls o=false→eP (X.ρ k)=X.ρ k):=by
 cases o with
 |box t cs=>obtain⟨b,us,e,_⟩:=h;exact⟨fun h=>(by cases h),fun _=>by rw[e];rfl⟩
 |row e s n sc f=>exact⟨fun h=>(by cases h),fun _=>Af h⟩
 |mp t ks rs=>obtain⟨b,es,c,vs,hs,e,_⟩:=h;exact⟨fun _=>⟨_,e⟩,fun h=>(by cases h)⟩
 |obs o=>obtain⟨us,e,_⟩:=h;exact⟨fun _=>⟨_,e⟩,fun h=>(by cases h)⟩
 |rn e cs=>obtain⟨us,⟨hown,_⟩,_⟩:=h;exact⟨fun h=>(by cases h),fun _=>gu hown⟩
theorem kind_eq {X Y:CX} {k:Nat} {o o':AO} (h:bn X k o) (h':bn Y k o') (hk:Ls o=Ls o') (e:eP (Y.ρ k)=eP (X.ρ k)):Ae (Y.ρ k) (X.ρ k):=by
 cases hb:Ls o with
 |true=>exact .inr ⟨h'.dF.1 (hk▸hb),h.dF.1 hb,e⟩
 | false=>
   rw[h.dF.2 hb,h'.dF.2 (hk▸hb)]at e
   exact .inl e
theorem Oc {X Y:CX} {hout:List (Nat×AO)} {back:List (List (Nat×AV))}: ∀ {hin:List (Nat×AO)} {n:Nat} {pre:List Value} {vs:List Value},pre.length=n→vs=pre++oq Y.ρ hin→(∀p∈hin,bn Y p.1 p.2)→(∀p∈hin,gG p.1 hout=true→ ∃o,aP p.1 hout=some o∧bn X p.1 o)→lZ X back [vs.toArray]→Gf hout back n hin=true→ ∀p∈hin,gG p.1 hout=true→Ae (X.ρ p.1) (Y.ρ p.1)
  |[],_,_,_,_,_,_,_,_,_,p,hp,_=>by cases hp
  | (k, o) :: l,n,pre,vs,hlen,hvs,lK,qC,hbk,hf,p,hp,hn=>by
    simp only[Gf,Bool.and_eq_true,Bool.or_eq_true,Bool.not_eq_true']at hf
    rcases List.mem_cons.1 hp with rfl|hp
    · rcases hf.1 with h|⟨hkb,h⟩
      · rw[h]at hn;cases hn
      · have ev:vs.toArray.getD n undef=eP (Y.ρ k):=by
         rw[hvs];simp[oq,←hlen]
        obtain⟨o',ho',hok'⟩:=qC _ List.mem_cons_self hn
        have hok:=lK _ List.mem_cons_self
        have hkk:Ls o=Ls o':=by
         unfold ab7 at hkb
         rw[ho']at hkb
         exact eq_of_beq hkb
        refine kind_eq hok hok' hkk ?_
        match back,hbk,h with
        | [f],hbk,h=>
          have h2:=hbk.1 n
          rw[ev]at h2
          have own:(match qW f n with| .own i=>Nat.beq i k|_=>false)=true→eP (X.ρ k)=eP (Y.ρ k):=by
           intro h
           split at h
           · rename_i i e
             rw[e]at h2
             have e1:=Nat.eq_of_beq_eq_true h
             subst e1
             exact(C2.jU h2).symm
           · cases h
          cases o with
          | box t cs=>
            dsimp only at h
            split at h
            · rename_i i j e
              rw[e]at h2
              simp only[Bool.and_eq_true]at h
              have e1:=Nat.eq_of_beq_eq_true h.1
              have e2:=Nat.eq_of_beq_eq_true h.2
              subst e1 e2
              obtain⟨b,h3,h4⟩:=C2.kN h2
              exact h3.trans h4.symm
            · cases h
          |row=>exact own h
          |mp=>exact own h
          |obs=>exact own h
          |rn=>exact own h
        |[],hbk,h=>exact hbk.elim
        |_::_::_,hbk,h=>exact hbk.2.elim
    · exact Oc (pre:=pre++[eP (Y.ρ k)]) (vs:=vs) (by simp[hlen]) (by rw[hvs];simp[oq]) (fun p hp=>lK p (List.mem_cons_of_mem _ hp)) (fun p hp=>qC p (List.mem_cons_of_mem _ hp)) hbk hf.2 p hp hn
theorem QS {h:List (Nat×AO)} (hn:(h.map (·.1)).Nodup): ∀p∈h,aP p.1 h=some p.2:=by
 induction h with
 |nil=>intro p hp;cases hp
 | cons q h ih=>
   intro p hp
   have hn':=List.nodup_cons.1 hn
   simp only[aP]
   rcases List.mem_cons.1 hp with rfl|hp
   · simp
   · have:Nat.beq q.1 p.1=false:=by
      rw[Bool.eq_false_iff]
      intro e
      exact hn'.1 (List.mem_map.2 ⟨p,hp,(Nat.eq_of_beq_eq_true e).symm⟩)
     rw[this]
     exact ih hn'.2 p hp
theorem tJ {k:Nat→Prop} (hk: ∀b,aK g w ρ st.heap b→k b) {hout:List (Nat×AO)} {x:AV} {u:Value} (hr: ∀i,gG i hout=false→Reads st ρ w k (.own i)) (h:C0 (aC g w ρ st.heap) x u):C0 ⟨w,k,ρ⟩ (Gg st.heap hout x) u:=by
 cases x with
 | own i=>
   simp only[Gg]
   cases hb:gG i hout with
   |true=>exact h
   | false=>
     have:=xQ hk (hr i hb) h
     revert this
     simp only[IV,cond_false]
     cases aP i st.heap with
     |none=>exact fun h=>h
     |some o=>cases o<;>exact fun h=>h
 | box i j=>
   simp only[Gg]
   cases gG i hout with
   |true=>exact h
   |false=>trivial
 | dP i s j m=>
   simp only[Gg]
   cases gG i hout with
   |true=>exact h
   |false=>trivial
 | jq i s j m=>
   simp only[Gg]
   cases gG i hout with
   |true=>exact h
   |false=>trivial
 |v y=>exact h
 |sl s n sc f=>exact PC.mono hk (fun _ _=>rfl) h
 |_=>trivial
theorem qE {k:Nat→Prop} (hk: ∀b,aK g w ρ st.heap b→k b) {hout:List (Nat×AO)} {x:AV} {u:Value} (hr: ∀i,gG i hout=false→Reads st ρ w k (.own i)) (h:C1 (aC g w ρ st.heap) x u):C1 ⟨w,k,ρ⟩ (Ya st.heap hout x) u:=by
 cases x with
 | agg cs=>
   obtain⟨us,rfl,ha⟩:=h
   exact⟨us,rfl,ha.mO fun _ _=>tJ hk hr⟩
 |own i=>exact C1.sZ (tJ hk hr (x:= .own i) h)
 |box i j=>exact C1.sZ (tJ hk hr (x:= .box i j) h)
 |dP i s j m=>exact C1.sZ (tJ hk hr (x:= .dP i s j m) h)
 |jq i s j m=>exact C1.sZ (tJ hk hr (x:= .jq i s j m) h)
 |v y=>exact h
 |sl s n sc f=>exact C1.sZ (tJ hk hr (x:= .sl s n sc f) h)
 |_=>trivial
theorem Yd {k:Nat→Prop} (hk: ∀b,aK g w ρ st.heap b→k b) {hout:List (Nat×AO)} {x:AV} {u:Value} (hr: ∀i,gG i hout=false→Reads st ρ w k (.own i)) (h:C2 (aC g w ρ st.heap) x u):C2 ⟨w,k,ρ⟩ (Yb st.heap hout x) u:=by
 cases x with
 | dF vs=>
   obtain⟨us,rfl,ha⟩:=h
   exact⟨us,rfl,ha.mO fun _ _=>qE hk hr⟩
 |agg cs=>exact C2.jP (qE hk hr (x:= .agg cs) h)
 |own i=>exact C2.jP (qE hk hr (x:= .own i) h)
 |box i j=>exact C2.jP (qE hk hr (x:= .box i j) h)
 |dP i s j m=>exact C2.jP (qE hk hr (x:= .dP i s j m) h)
 |jq i s j m=>exact C2.jP (qE hk hr (x:= .jq i s j m) h)
 |v y=>exact h
 |sl s n sc f=>exact C2.jP (qE hk hr (x:= .sl s n sc f) h)
 |_=>trivial
theorem TG {st:AS}: ∀ {h:List (Nat×AO)},LeH st h→ ∀p∈h,∃o,aP p.1 st.heap=some o∧bW o p.2
  |[],_,p,hp=>by cases hp
  | q::l,h,p,hp=>by
    rcases List.mem_cons.1 hp with rfl|hp
    · exact h.1
    · exact TG h.2 p hp
theorem Ye (hL:bQ P L) (lv base:Nat) {f:FuncId} {fn:Func} {c:Code} {hin:List (Nat×AO)} {dn:List AV} {r:AV} {hout:List (Nat×AO)} (hf:P.funcs[f]? =some fn) (hn:(fn.name== "runtime.NumGoroutine")=false) (hb:fn.body=some c) (hsz:Nat.ble dn.length fn.ntmps=true)
  (h:yR P L 9 fn.ntmps lv c (Yc L fn hin r hout) (QO dn hin base)):aV P f hin dn r hout:=by
 refine⟨⟨fn,c,hf,hn,hb⟩,fun w keep ρ args hkeep lK hnd hin' hargs=> ?_⟩
 have hsz:=Nat.le_of_ble_eq_true hsz
 have hlen:args.length=dn.length:=hargs.1.symm
 refine calls_of_wp hf hb ?_
 let g:Base:=(gU w keep (fun b=>b∈ah ρ hin))
 have hk0: ∀b,keep b→aK g w ρ hin b:=fun b hb=>⟨hkeep b hb,fun _=> .inl hb,fun h=>(hin' b h).2 hb⟩
 have zx:aI (C2 (aC g w ρ hin)) dn args:=hargs.imp fun _ _ h=>C2.jP (C1.same (X:=⟨w,keep,ρ⟩) (Y:=aC g w ρ hin) hk0 (fun _ _=>rfl) rfl h)
 have ab8: ∀p∈hin,bn (aC g w ρ hin) p.1 p.2:=fun p hp=>by
  exact bn.same (X:=⟨w,keep,ρ⟩) (Y:=aC g w ρ hin) hk0 (fun _ _=>rfl) rfl (fun _ _=>rfl) (lK p hp)
 have R0:Rel g fn.ntmps [(oq ρ hin).toArray] ρ {tmps:=args.toArray++Array.replicate (fn.ntmps-args.toArray.size) undef,defers:=[]} w (QO dn hin base):=
  ⟨by simp;omega,rfl,fM.refl _ _ _,o7 zx hsz,ab8,hnd,fun b hb=> .inr hb,⟨fun t=>Ob (X:=aC g w ρ hin) (n:=0) (pre:=[]) rfl ab8 t,trivial⟩⟩
 have fin: ∀ (e:Exit),(e= .normal∨e= .ret)→ ∀ρ1 a w' st,Rel g fn.ntmps [(oq ρ hin).toArray] ρ1 a w' st→mP L st fn.results.toList (fun x=> ∃σ,Lu hin σ st x r hout)→
   bodyPost P fn (fun e w'=> ∃u ρ',e= .returned u∧fM (fun b=>b∈ah ρ hin) w.heap.size w w'∧(∀p∈hin,∀q∈hout,q.1=p.1→Ae (ρ' p.1) (ρ p.1))∧C2 (aC g w' ρ' hout) r u∧(∀p∈hout,bn (aC g w' ρ' hout) p.1 p.2)∧(ah ρ' hout).Nodup∧ ∀b∈ah ρ' hout,w.heap.size≤b∨b∈ah ρ hin) e a w':=by
  intro e he ρ1 a w' st R1 hq
  obtain⟨x,u,⟨σ,hret⟩,hc,hrun⟩:=AX hL R1 hq
  have post:a.defers=[]∧ ∃v,(results fn a.tmps).run P w'= .ok v w'∧ ∃u ρ',Ending.returned v= .returned u∧fM (fun b=>b∈ah ρ hin) w.heap.size w w'∧(∀p∈hin,∀q∈hout,q.1=p.1→Ae (ρ' p.1) (ρ p.1))∧C2 (aC g w' ρ' hout) r u∧(∀p∈hout,bn (aC g w' ρ' hout) p.1 p.2)∧(ah ρ' hout).Nodup∧ ∀b∈ah ρ' hout,w.heap.size≤b∨b∈ah ρ hin:=by
   have R:=R1.ren hret.nd
   have hc:C2 (aC g w' (qB σ ρ1) (st.ren σ).heap) (CJ σ x) u:=
    C2.ren (X:=aC g w' ρ1 st.heap) (Y:=aC g w' (qB σ ρ1) (st.ren σ).heap) (fun b h=>⟨h.1,h.2.1,fun h'=>h.2.2 ((zu (oU hret.nd) ρ1 st.heap).subset h')⟩) rfl (fun k i e=>F7 (oU hret.nd) e) hc
   generalize hst:st.ren σ=st' at*
   generalize afa:qB σ ρ1=ρ' at*
   have hfx:=hret.fx
   rw[hst]at hfx
   have hp:=hret.hp
   rw[hst]at hp
   have hrr:=hret.hr
   rw[hst]at hrr
   have hmem:=TG hp
   have ab9: ∀b,b∈ah ρ' hout→b∈ah ρ' st'.heap:=fun b hb=>by
    obtain⟨p,hp,e⟩:=aQ.1 hb
    obtain⟨o,ho,_⟩:=hmem p hp
    exact aQ.2 ⟨_,ay ho,e⟩
   have hk: ∀b,aK g w' ρ' st'.heap b→aK g w' ρ' hout b:=fun b h=>⟨h.1,h.2.1,fun h'=>h.2.2 (ab9 b h')⟩
   refine⟨R1.defers,u,hrun,u,ρ',rfl,R.below, ?_, ?_, ?_,zq (oU hret.hn) R.apart (fun p hp=>by obtain⟨o,ho,_⟩:=hmem p hp;exact⟨_,ay ho,rfl⟩),fun b hb=>R.own b (ab9 b hb)⟩
   · intro p hp q hq e
     exact Oc (X:=aC g w' ρ' st'.heap) (Y:=⟨w,keep,ρ⟩) (pre:=[]) (n:=0) rfl rfl lK (fun p hp hno=>by
      obtain⟨q,hq,eq⟩:=fH.1 hno
      obtain⟨o,ho,hoe⟩:=hmem q hq
      have hfo:=QS (oU hret.hn) q hq
      rw[eq]at ho hfo
      exact⟨q.2,hfo,hoe _ _ (R.objs _ (ay ho))⟩) R.back hfx p hp (fH.2 ⟨q,hq,e⟩)
   · refine hrr _ _ (Yd (st:=st') (ρ:=ρ') hk (fun i hi=>fun j e s n sc f hij hf=> ?_) hc)
     refine lq R hf hk fun b hb=> ?_
     have hin0:=aQ.2 ⟨_,ay hf,hb⟩
     have:=R.gI hin0
     refine⟨this.1,fun hlt=> ?_,fun hin1=> ?_⟩
     · exact this.2.elim (fun h=>absurd hlt (by omega)) .inr
     · obtain⟨p,hp,ep⟩:=aQ.1 hin1
       obtain⟨o,ho,_⟩:=hmem p hp
       have:=fG R.apart _ (ay ho) _ (ay hf) ep hb
       dsimp only at this
       cases hij
       rw[←this,fH.2 ⟨p,hp,rfl⟩]at hi
       cases hi
   · intro p hp
     obtain⟨o,ho,hoe⟩:=hmem p hp
     refine hoe _ _ ?_
     exact bn.same (X:=aC g w' ρ' st'.heap) (Y:=aC g w' ρ' hout) hk (fun _ _=>rfl) rfl (fun _ _=>rfl) (R.objs _ (ay ho))
  rcases he with rfl|rfl
  · exact post
  · exact post
 exact fO hL 9 g fn.ntmps lv [(oq ρ hin).toArray] c (Yc L fn hin r hout) _ ⟨fun ρ a w' st R h=>fin _ (.inl rfl) ρ a w' st R h,fun i ρ a w' st R h=>h.elim,fun ρ a w' st R h=>fin _ (.inr rfl) ρ a w' st R h⟩ R0 h
end
end
section
open Go.RowKit
def I4 (σ:List (Nat×Nat)) (i:Nat):Bool:=match kM σ i with|some _=>true|none=>false
def QT (σ:List (Nat×Nat)):AV→Bool
  | .own i=>I4 σ i
  | .dP i .. =>I4 σ i
  | .jq i .. =>I4 σ i
  | .box i _=>I4 σ i
  | .cf _ i _=>I4 σ i
  |_=>true
def key1 (σ:List (Nat×Nat)):AV→Bool
  | .agg cs=>cs.all (QT σ)
  | .fn _ cs=>cs.all (QT σ)
  |x=>QT σ x
def key2 (σ:List (Nat×Nat)):AV→Bool
  | .dF vs=>vs.all (key1 σ)
  |x=>key1 σ x
def aaI (σ:List (Nat×Nat)):AO→Bool
  | .box _ cs=>cs.all (QT σ)
  | .row .. =>true
  | .mp _ ks _=>ks.all fun p=>match p.2 with|some i=>I4 σ i|none=>true
  | .obs _=>true
  | .rn _ cs=>cs.all (QT σ)
def yL (σ:List (Nat×Nat)):List (Nat×AO)→Bool
  |[]=>true
  |(k,o)::l=>I4 σ k&&aaI σ o&&yL σ l
section
variable {σ:List (Nat×Nat)} {X Y:CX}
theorem lu {i:Nat} (h:I4 σ i=true): ∃j,kM σ i=some j∧kZ σ i=some j:=by
 unfold I4 at h
 cases e:kM σ i with
 |none=>rw[e]at h;cases h
 |some j=>exact⟨j,rfl,by simp[kZ,e]⟩
theorem C0.jO (hw:Y.w=X.w) (hk:Y.keep=X.keep) (hρ: ∀k i,kM σ k=some i→Y.ρ i=X.ρ k) {x:AV} {u:Value} (hr:QT σ x=true):C0 Y (pU σ x) u↔C0 X x u:=by
 obtain⟨w,k,ρ⟩:=X
 obtain⟨w',k',ρ'⟩:=Y
 dsimp only at hw hk
 subst hw hk
 cases x with
 | own id=>
   obtain⟨j,e,e'⟩:=lu hr
   simp only[pU,e',C0]
   rw[show ρ' j=ρ id from hρ id j e]
 | dP id s i n=>
   obtain⟨j,e,e'⟩:=lu hr
   simp only[pU,e',C0]
   rw[show ρ' j=ρ id from hρ id j e]
 | jq id s i n=>
   obtain⟨j,e,e'⟩:=lu hr
   simp only[pU,e',C0]
   rw[show ρ' j=ρ id from hρ id j e]
 | box id off=>
   obtain⟨j,e,e'⟩:=lu hr
   simp only[pU,e',C0]
   rw[show ρ' j=ρ id from hρ id j e]
 | cf gg id off=>
   obtain⟨j,e,e'⟩:=lu hr
   simp only[pU,e',C0]
   rw[show ρ' j=ρ id from hρ id j e]
 |_=>exact Iff.rfl
theorem aI.CP {R S:AV→Value→Prop} {m:AV→AV} {q:AV→Bool} (hi: ∀x u,q x=true→(S (m x) u↔R x u)): ∀ {xs:List AV} {us:List Value},xs.all q=true→(aI S (xs.map m) us↔aI R xs us)
  | xs,us,hq=>by
    constructor
    · intro h
      refine⟨by simpa using h.1,fun i x u hx hu=>(hi x u (List.all_eq_true.1 hq x (List.mem_of_getElem? hx))).1 (h.2 i _ u (by rw[List.getElem?_map,hx];rfl) hu)⟩
    · intro h
      refine⟨by simpa using h.1,fun i y u hy hu=> ?_⟩
      rw[List.getElem?_map]at hy
      cases hx:xs[i]? with
      |none=>rw[hx]at hy;cases hy
      |some x=>rw[hx]at hy;cases hy;exact(hi x u (List.all_eq_true.1 hq x (List.mem_of_getElem? hx))).2 (h.2 i x u hx hu)
theorem C1.jO (hw:Y.w=X.w) (hk:Y.keep=X.keep) (hρ: ∀k i,kM σ k=some i→Y.ρ i=X.ρ k) {x:AV} {u:Value} (hr:key1 σ x=true):C1 Y (Ny σ x) u↔C1 X x u:=by
 have c0: ∀ {y:AV},QT σ y=true→(∀cs,y≠ .agg cs)→(∀g cs,y≠ .fn g cs)→(C1 Y (pU σ y) u↔C1 X y u):=by
  intro y hy h1 h2
  have:=C0.jO hw hk hρ (u:=u) hy
  constructor
  · intro h
    refine C1.sZ (this.1 ?_)
    have hne: ∀cs,pU σ y≠ .agg cs:=by
     intro cs e
     cases y<;>simp only[pU]at e<;>first|(split at e<;>cases e;done)|exact h1 _ rfl|cases e
    have hne2: ∀g cs,pU σ y≠ .fn g cs:=by
     intro g cs e
     cases y<;>simp only[pU]at e<;>first|(split at e<;>cases e;done)|exact h2 _ _ rfl|cases e
    revert h hne hne2
    cases pU σ y<;>intro h hne hne2<;>first|exact h|exact absurd rfl (hne _)|exact absurd rfl (hne2 _ _)
  · intro h
    refine C1.sZ (this.2 ?_)
    revert h h1 h2
    cases y<;>intro h1 h2 h<;>first|exact h|exact absurd rfl (h1 _)|exact absurd rfl (h2 _ _)
 cases x with
 |agg cs=>exact exists_congr fun us=>and_congr_right fun _=>aI.CP (fun x u h=>C0.jO hw hk hρ h) hr
 |fn g cs=>exact exists_congr fun us=>and_congr_right fun _=>aI.CP (fun x u h=>C0.jO hw hk hρ h) hr
 |v y=>exact c0 (y:= .v y) rfl (fun _ h=>by cases h) (fun _ _ h=>by cases h)
 |dF vs=>exact c0 (y:= .dF vs) rfl (fun _ h=>by cases h) (fun _ _ h=>by cases h)
 |sl s n sc f=>exact c0 (y:= .sl s n sc f) rfl (fun _ h=>by cases h) (fun _ _ h=>by cases h)
 |own i=>exact c0 (y:= .own i) hr (fun _ h=>by cases h) (fun _ _ h=>by cases h)
 |dP i s j k=>exact c0 (y:= .dP i s j k) hr (fun _ h=>by cases h) (fun _ _ h=>by cases h)
 |jq i s j k=>exact c0 (y:= .jq i s j k) hr (fun _ h=>by cases h) (fun _ _ h=>by cases h)
 |box i k=>exact c0 (y:= .box i k) hr (fun _ h=>by cases h) (fun _ _ h=>by cases h)
 |cf gg i k=>exact c0 (y:= .cf gg i k) hr (fun _ h=>by cases h) (fun _ _ h=>by cases h)
 |el cs k=>exact c0 (y:= .el cs k) rfl (fun _ h=>by cases h) (fun _ _ h=>by cases h)
 |junk=>exact c0 (y:= .junk) rfl (fun _ h=>by cases h) (fun _ _ h=>by cases h)
theorem C2.jO (hw:Y.w=X.w) (hk:Y.keep=X.keep) (hρ: ∀k i,kM σ k=some i→Y.ρ i=X.ρ k) {x:AV} {u:Value} (hr:key2 σ x=true) (h:C2 X x u):C2 Y (CJ σ x) u:=by
 cases x with
 | dF vs=>
   obtain⟨us,e,ha⟩:=h
   exact⟨us,e,(aI.CP (fun x u h=>C1.jO hw hk hρ h) hr).2 ha⟩
 |agg cs=>exact C2.jP ((C1.jO hw hk hρ (x:= .agg cs) hr).2 h)
 |fn g cs=>exact C2.jP ((C1.jO hw hk hρ (x:= .fn g cs) hr).2 h)
 |v y=>exact C2.jP ((C1.jO hw hk hρ (x:= .v y) hr).2 h)
 |sl s n sc f=>exact C2.jP ((C1.jO hw hk hρ (x:= .sl s n sc f) hr).2 h)
 |own i=>exact C2.jP ((C1.jO hw hk hρ (x:= .own i) hr).2 h)
 |dP i s j k=>exact C2.jP ((C1.jO hw hk hρ (x:= .dP i s j k) hr).2 h)
 |jq i s j k=>exact C2.jP ((C1.jO hw hk hρ (x:= .jq i s j k) hr).2 h)
 |box i k=>exact C2.jP ((C1.jO hw hk hρ (x:= .box i k) hr).2 h)
 |cf gg i k=>exact C2.jP ((C1.jO hw hk hρ (x:= .cf gg i k) hr).2 h)
 |el cs k=>exact C2.jP ((C1.jO hw hk hρ (x:= .el cs k) hr).2 h)
 |junk=>exact C2.jP ((C1.jO hw hk hρ (x:= .junk) hr).2 h)
theorem jK.jO {ρ ρ':Nat→Value} (hρ: ∀k i,kM σ k=some i→ρ' i=ρ k): ∀ {ks:List (ByteArray×Option Nat)} {vs:List Value},(ks.all fun p=>match p.2 with|some i=>I4 σ i|none=>true)=true→(jK ρ' (jO σ ks) vs↔jK ρ ks vs)
  |[],_,_=>Iff.rfl
  | (k,none)::l,vs,h=>by
    simp only[List.all_cons,Bool.and_eq_true]at h
    simp only[Go.Proofs.YtimhagicagdkfaaGreat.jO,jK]
    exact exists_congr fun v=>exists_congr fun r=>and_congr_right fun _=>and_congr ⟨fun _ i hi=>(by cases hi),fun _ i hi=>(by cases hi)⟩ (jK.jO hρ h.2)
  | (k,some i)::l,vs,h=>by
    simp only[List.all_cons,Bool.and_eq_true]at h
    obtain⟨j,e,e'⟩:=lu h.1
    simp only[Go.Proofs.YtimhagicagdkfaaGreat.jO,jK,e']
    refine exists_congr fun v=>exists_congr fun r=>and_congr_right fun _=>and_congr ?_ (jK.jO hρ h.2)
    constructor
    · intro q x hx
      cases hx
      rw[←hρ i j e]
      exact q j rfl
    · intro q x hx
      cases hx
      rw[hρ i j e]
      exact q i rfl
theorem bn.jO (hw:Y.w=X.w) (hk:Y.keep=X.keep) (hρ: ∀k i,kM σ k=some i→Y.ρ i=X.ρ k) {k i:Nat} {o:AO} (hi:kM σ k=some i) (hr:aaI σ o=true):bn Y i (o.ren σ)↔bn X k o:=by
 cases o with
 | box t cs=>
   simp only[AO.ren,bn,hw,hρ k i hi]
   exact exists_congr fun b=>exists_congr fun us=>and_congr_right fun _=>and_congr_right fun _=>aI.CP (fun x u h=>C0.jO hw hk hρ h) hr
 | row e s n sc f=>
   simp only[AO.ren,bn,oQ,hw,hk,hρ k i hi]
 | mp t ks rs=>
   have hh: ∀hs,jv Y rs hs↔jv X rs hs:=fun hs=>⟨jv.mono (by rw[hk];exact fun _ h=>h) (fun _ _=>by rw[hw]) (fun _ _=>by rw[hw]),jv.mono (by rw[hk];exact fun _ h=>h) (fun _ _=>by rw[hw]) (fun _ _=>by rw[hw])⟩
   simp only[AO.ren,bn,hw,hρ k i hi,xJ,hh]
   exact exists_congr fun b=>exists_congr fun es=>exists_congr fun c=>exists_congr fun vs=>exists_congr fun hs=>and_congr_right fun _=>and_congr_right fun _=>and_congr_left fun _=>jK.jO (fun k i e=>congrArg eP (hρ k i e)) hr
 | obs o=>
   simp only[AO.ren,bn,hw,hk,hρ k i hi]
 | rn e cs=>
   simp only[AO.ren,bn,hw,hρ k i hi,List.length_map]
   exact exists_congr fun us=>and_congr_right fun _=>aI.CP (fun x u h=>C0.jO hw hk hρ h) hr
theorem rG {ρ ρ':Nat→Value} (hρ: ∀k i,kM σ k=some i→ρ' i=ρ k): ∀ {h:List (Nat×AO)},yL σ h=true→ah ρ' (iY σ h)=ah ρ h
  |[],_=>rfl
  | (k,o)::l,h=>by
    simp only[yL,Bool.and_eq_true]at h
    obtain⟨j,e,e'⟩:=lu h.1.1
    simp only[iY,e']
    rw[aX,aX,rG hρ h.2]
    dsimp only
    rw[hρ k j e]
theorem Gh: ∀ {h:List (Nat×AO)},yL σ h=true→ ∀p∈h,∃i,kM σ p.1=some i∧(i,p.2.ren σ)∈iY σ h∧aaI σ p.2=true
  |[],_,p,hp=>by cases hp
  | (k,o)::l,h,p,hp=>by
    simp only[yL,Bool.and_eq_true]at h
    obtain⟨j,e,e'⟩:=lu h.1.1
    simp only[iY,e']
    rcases List.mem_cons.1 hp with rfl|hp
    · exact⟨j,e,List.mem_cons_self,h.1.2⟩
    · obtain⟨i,h1,h2,h3⟩:=Gh h.2 p hp
      exact⟨i,h1,List.mem_cons_of_mem _ h2,h3⟩
theorem xY: ∀ {h:List (Nat×AO)},yL σ h=true→ ∀q∈iY σ h,∃p∈h,kM σ p.1=some q.1∧q.2=p.2.ren σ∧aaI σ p.2=true
  |[],_,q,hq=>by cases hq
  | (k,o)::l,h,q,hq=>by
    simp only[yL,Bool.and_eq_true]at h
    obtain⟨j,e,e'⟩:=lu h.1.1
    simp only[iY,e']at hq
    rcases List.mem_cons.1 hq with rfl|hq
    · exact⟨(k,o),List.mem_cons_self,e,rfl,h.1.2⟩
    · obtain⟨p,h1,h2⟩:=xY h.2 q hq
      exact⟨p,List.mem_cons_of_mem _ h1,h2⟩
end
theorem aV.ren {P:Program} {f:FuncId} {hin:List (Nat×AO)} {dn:List AV} {r:AV} {hout:List (Nat×AO)} (h:aV P f hin dn r hout) (σ:List (Nat×Nat))
  (hb:(sF (σ.map (·.2))&&yL σ hin&&yL σ hout&&dn.all (key1 σ)&&key2 σ r)=true):aV P f (iY σ hin) (dn.map (Ny σ)) (CJ σ r) (iY σ hout):=by
 simp only[Bool.and_eq_true]at hb
 obtain⟨⟨⟨⟨hnd,hki⟩,hko⟩,hka⟩,hkr⟩:=hb
 have hn:=CG hnd
 refine⟨h.1,fun w keep ρ args hkeep lK aeA hnk hargs=> ?_⟩
 let Qo:Nat→Value:=fun k=>match kM σ k with|some i=>ρ i|none=>undef
 have e0: ∀k i,kM σ k=some i→ρ i=Qo k:=fun k i e=>by simp only[Qo,e]
 have yK:ah ρ (iY σ hin)=ah Qo hin:=rG e0 hki
 have key:=h.2 w keep Qo args hkeep (fun p hp=>by
   obtain⟨i,h1,h2,h3⟩:=Gh hki p hp
   exact(bn.jO (X:=⟨w,keep,Qo⟩) (Y:=⟨w,keep,ρ⟩) rfl rfl e0 h1 h3).1 (lK _ h2)) (by rw[←yK];exact aeA) (by rw[←yK];exact hnk)
  ((aI.CP (fun x u h=>C1.jO (X:=⟨w,keep,Qo⟩) (Y:=⟨w,keep,ρ⟩) rfl rfl e0 h) hka).1 hargs)
 refine key.mono ?_
 rintro e w' ⟨u,Vf,rfl,hbel,hfix,hc,ho,hnd',hnew⟩
 let ρ':Nat→Value:=fun i=>match QN σ i with|some k=>Vf k|none=>ρ i
 have e1: ∀k i,kM σ k=some i→ρ' i=Vf k:=fun k i e=>by simp only[ρ',AY hn (tH e)]
 have Yf:ah ρ' (iY σ hout)=ah Vf hout:=rG e1 hko
 have hM:(fun b=>b∈ah ρ (iY σ hin))=(fun b=>b∈ah Qo hin):=by rw[yK]
 have hkk:(aC (gU w keep (fun b=>b∈ah ρ (iY σ hin))) w' ρ' (iY σ hout)).keep=(aC (gU w keep (fun b=>b∈ah Qo hin)) w' Vf hout).keep:=by
  funext b
  simp only[aC,aK,Yf,yK]
 refine⟨u,ρ',rfl,by rw[hM];exact hbel, ?_,C2.jO (X:=aC (gU w keep (fun b=>b∈ah Qo hin)) w' Vf hout) (Y:=aC (gU w keep (fun b=>b∈ah ρ (iY σ hin))) w' ρ' (iY σ hout)) rfl hkk e1 hkr hc, ?_,by rw[Yf];exact hnd',by rw[Yf,yK];exact hnew⟩
 · intro p hp q hq epq
   obtain⟨p0,hp0,h1,_⟩:=xY hki p hp
   obtain⟨q0,hq0,h2,_⟩:=xY hko q hq
   have hk0:q0.1=p0.1:=by
    have k1:=AY hn (tH h1)
    have k2:=AY hn (tH h2)
    rw[epq,k1]at k2
    exact(Option.some.inj k2).symm
   rw[e1 _ _ h1,e0 _ _ h1]
   exact hfix p0 hp0 q0 hq0 hk0
 · intro q hq
   obtain⟨p,hp,h1,h2,h3⟩:=xY hko q hq
   rw[h2]
   exact(bn.jO (X:=aC (gU w keep (fun b=>b∈ah Qo hin)) w' Vf hout) (Y:=aC (gU w keep (fun b=>b∈ah ρ (iY σ hin))) w' ρ' (iY σ hout)) rfl hkk e1 h1 h3).2 (ho p hp)
theorem dK.Gi {P:Program} {L:Lay} {W:Walk} {d:Nat} {f:FuncId} {dn:List AV} {st:AS} {K:AV→AS→Prop} (k:Nat) (τ:List (Nat×Nat)) {hin:List (Nat×AO)} {aaJ:List AV} {r:AV} {hout:List (Nat×AO)} (hs:aV P f hin aaJ r hout)
  (ha:aaJ.map (Ny ((k,d)::τ))=dn) (hh:U1 st (iY ((k,d)::τ) hin))
  (hb:(sF (((k,d)::τ).map (·.2))&&yL ((k,d)::τ) hin&&yL ((k,d)::τ) hout&&aaJ.all (key1 ((k,d)::τ))&&key2 ((k,d)::τ) r)=true)
  (hb2:(sF ((iY ((k,d)::τ) hin).map (·.1))&&(aaJ.map (Ny ((k,d)::τ))).all Nu&&jT (iY ((k,d)::τ) hout) (iY ((k,d)::τ) hout)&&XA (iY ((k,d)::τ) hout) (CJ ((k,d)::τ) r)&&uw d (iY ((k,d)::τ) hin) (iY ((k,d)::τ) hout))=true)
  (hK:K (CJ ((k,d)::τ) r) (st.QB d (iY ((k,d)::τ) hin) (iY ((k,d)::τ) hout))):dK P L W d f dn st K:=by
 subst ha
 exact .QB _ _ _ (hs.ren _ hb) hh hb2 hK
end
section
open Go.RowKit
section
variable {P:Program}
def au {α:Type} (P:Program) (m:Sem α):Prop:= ∀ (w w':World) (u:α) (w1:World),m.run P w= .ok u w1→w1=w∧m.run P w'= .ok u w'
theorem au.pure {α:Type} (x:α):au P (Pure.pure x:Sem α):=by
 intro w w' u w1 h
 simp only[Sem.run_pure]at h⊢
 cases h
 exact⟨rfl,rfl⟩
theorem au.halt {α:Type} (h:Halt):au P (Sem.halt h:Sem α):=by
 intro w w' u w1 h
 simp only[Sem.run_halt]at h
 cases h
theorem au.stuck {α:Type} (h:String):au P (Go.stuck h:Sem α):=au.halt _
theorem au.unsupported {α:Type} (h:Unsupported):au P (Go.unsupported h:Sem α):=au.halt _
theorem au.program:au P (Go.program):=by
 intro w w' u w1 h
 simp only[run_program]at h⊢
 cases h
 exact⟨rfl,rfl⟩
theorem au.bind {α β:Type} {m:Sem α} {k:α→Sem β} (hm:au P m) (hk: ∀x,au P (k x)):au P (m>>=k):=by
 intro w w' u w1 h
 rw[Sem.run_bind]at h⊢
 cases e:m.run P w with
 | ok x w0=>
   rw[e]at h
   obtain⟨rfl,e'⟩:=hm w w' x w0 e
   rw[e',Result.andThen_ok]
   exact hk x _ w' u w1 h
 |halt x w0=>rw[e]at h;cases h
theorem au.dead {α:Type} {m:Sem α} (h: ∀w u w1,m.run P w≠ .ok u w1):au P m:=fun w _ u w1 e=>absurd e (h w u w1)
theorem tK {α β:Type} {m:Sem α} {k:α→Sem β} (hk: ∀x w u w1,(k x).run P w≠ .ok u w1) (w:World) (u:β) (w1:World):(m>>=k).run P w≠ .ok u w1:=by
 rw[Sem.run_bind]
 cases e:m.run P w with
 |ok x w0=>rw[Result.andThen_ok];exact hk x w0 u w1
 |halt x w0=>exact fun h=>by cases h
theorem zy {α:Type} (e:RuntimeError) (w:World) (u:α) (w1:World):(runtimePanic e:Sem α).run P w≠ .ok u w1:=by
 unfold runtimePanic
 refine tK (fun p w u w1=> ?_) w u w1
 cases e<;>first|exact(fun h=>by cases h)|exact tK (fun _=>tK fun _ w u w1 h=>by cases h) _ _ _
theorem au.bounds {α:Type} (k:IntKind) (x y:Int) (c:BoundsCode):au P (boundsPanic k x y c:Sem α):=by
 refine au.dead fun w u w1=> ?_
 unfold boundsPanic
 dsimp only
 split
 · exact tK (fun _ w u w1=>zy _ w u w1) w u w1
 · exact tK (fun _ w u w1=>zy _ w u w1) w u w1
theorem au.QU {α:Type} (e:RuntimeError):au P (runtimePanic e:Sem α):=au.dead fun w u w1=>zy e w u w1
theorem au.underlying (t:TypeId):au P (Go.underlying t):=by
 unfold Go.underlying
 refine au.bind au.program fun p=> ?_
 split
 · exact au.pure _
 · exact au.halt _
theorem au.typeInfo (t:TypeId):au P (Go.typeInfo t):=by
 unfold Go.typeInfo
 refine au.bind au.program fun p=> ?_
 split
 · exact au.pure _
 · exact au.halt _
theorem au.sizeOf (t:TypeId):au P (Go.sizeOf t):=au.bind (au.typeInfo t) fun _=>au.pure _
theorem au.asIntOf (v:Value):au P (Go.asIntOf v):=by
 unfold Go.asIntOf
 split
 · exact au.pure _
 · exact au.halt _
 · exact au.halt _
theorem au.asBool (v:Value):au P (Go.asBool v):=by
 unfold Go.asBool
 split
 · exact au.pure _
 · exact au.halt _
theorem au.sureAddr (v:Value):au P (Instr.sureAddr v):=by
 unfold Instr.sureAddr
 split
 · exact au.pure _
 · exact au.halt _
theorem au.indexAt (t:TypeId) (x i:Value):au P (Instr.indexAt t x i):=by
 unfold Instr.indexAt
 with_reducible repeat' first
   |exact au.pure _
   |exact au.stuck _
   |exact au.unsupported _
   |exact au.bounds _ _ _ _
   |refine au.bind (au.asIntOf _) fun _=> ?_
   |refine au.bind (au.underlying _) fun _=> ?_
   |refine au.bind (au.sureAddr _) fun _=> ?_
   |refine au.bind (au.sizeOf _) fun _=> ?_
   |refine au.bind (au.pure _) fun _=> ?_
   |refine au.bind (au.stuck _) fun _=> ?_
   |(dsimp only;split)
   |split
theorem au.asAgg (v:Value):au P (Go.asAgg v):=by
 unfold Go.asAgg
 split
 · exact au.pure _
 · exact au.halt _
theorem au.isAgg (t:TypeId):au P (Go.isAgg t):=by
 unfold Go.isAgg
 refine au.bind (au.underlying _) fun _=> ?_
 split<;>exact au.pure _
theorem au.part (t:TypeId) (cs:Array Value) (off:Nat):au P (Go.part t cs off):=by
 unfold Go.part
 refine au.bind (au.isAgg _) fun _=> ?_
 split
 · exact au.bind (au.sizeOf _) fun _=>au.pure _
 · split
   · exact au.pure _
   · exact au.halt _
theorem au.field (t:TypeId) (x:Value) (i:Nat):au P (Instr.field t x i):=by
 unfold Instr.field
 refine au.bind (au.underlying _) fun _=> ?_
 split
 · split
   · exact au.bind (au.asAgg _) fun _=>au.part _ _ _
   · exact au.stuck _
 · exact au.stuck _
theorem au.index (t:TypeId) (x i:Value):au P (Instr.index t x i):=by
 unfold Instr.index
 with_reducible repeat' first
   |exact au.pure _
   |exact au.stuck _
   |exact au.bounds _ _ _ _
   |exact au.part _ _ _
   |refine au.bind (au.asIntOf _) fun _=> ?_
   |refine au.bind (au.underlying _) fun _=> ?_
   |refine au.bind (au.sizeOf _) fun _=> ?_
   |refine au.bind (au.pure _) fun _=> ?_
   |(dsimp only;split)
   |split
theorem au.extract (v:Value) (i:Nat):au P (Instr.extract v i):=by
 unfold Instr.extract
 split
 · split
   · exact au.pure _
   · exact au.halt _
 · exact au.halt _
theorem au.intArith (op:BinOp) (k:IntKind) (x y:Int):au P (Op.intArith op k x y):=by
 unfold Op.intArith
 split<;>first|exact au.pure _|exact au.halt _
theorem au.intBits (op:BinOp) (k:IntKind) (x y:Int):au P (Op.intBits op k x y):=by
 unfold Op.intBits
 dsimp only
 split<;>first|exact au.pure _|exact au.halt _
theorem au.intCmp (op:BinOp) (x y:Int):au P (Op.intCmp op x y):=by
 unfold Op.intCmp
 split<;>first|exact au.pure _|exact au.halt _
theorem au.intDiv (op:BinOp) (k:IntKind) (x y:Int):au P (Op.intDiv op k x y):=by
 unfold Op.intDiv
 split
 · exact au.QU _
 · split<;>first|exact au.pure _|exact au.halt _
theorem au.shift (op:BinOp) (k k':IntKind) (x y:Int):au P (Op.shift op k x k' y):=by
 unfold Op.shift
 split
 · exact au.QU _
 · dsimp only
   split<;>first|exact au.pure _|exact au.halt _
theorem au.unary (op:UnOp) (x:Value):au P (Op.unary op x):=by
 unfold Op.unary
 split<;>first|exact au.pure _|exact au.halt _|exact au.intArith _ _ _ _|exact au.intBits _ _ _ _
theorem au.acQ (op:BinOp) (t:TypeId) (k k':IntKind) (x y:Int):au P (binOp op t (.int k x) (.int k' y)):=by
 cases op<;>unfold binOp<;>dsimp only<;>first|exact au.shift _ _ _ _ _|(split<;>first|exact au.halt _|exact au.intArith _ _ _ _|exact au.intBits _ _ _ _|exact au.intCmp _ _ _|exact au.intDiv _ _ _ _)
theorem au.adU (op:BinOp) (t:TypeId) (x y:Operand) (k k':IntKind) (a b:Int):au P (eqGuard op t x y (.int k a) (.int k' b)):=by
 cases op<;>exact au.pure _
theorem au.aaK {s t:TypeId} {k:IntKind} (ht:P.underlying t=some (.int k)) (k':IntKind) (n:Int):au P (convert s t (.int k' n)):=by
 intro w w' u w1 h
 unfold convert at h⊢
 simp only[Sem.run_bind]at h⊢
 cases e:(Go.underlying s).run P w with
 |halt x w0=>rw[e]at h;cases h
 | ok d w0=>
   obtain⟨rfl,e'⟩:=au.underlying s w w' d w0 e
   have hu: ∀w,(Go.underlying t).run P w= .ok (.int k) w:=by
    intro w
    unfold Go.underlying
    simp only[Sem.run_bind,run_program,Result.andThen_ok,ht]
    rfl
   rw[e,Result.andThen_ok,hu,Result.andThen_ok]at h
   rw[e',Result.andThen_ok,hu,Result.andThen_ok]
   have hf:au P (Conv.intToInt k n):=au.pure _
   cases d<;>exact hf w0 w' u w1 h
theorem au.Jz {α β:Type} {m:Sem α} {k:α→Sem β} {x:α} (hm: ∀w,m.run P w= .ok x w) (hk:au P (k x)):au P (m>>=k):=by
 intro w w' u w1 h
 rw[Sem.run_bind,hm,Result.andThen_ok]at h
 rw[Sem.run_bind,hm,Result.andThen_ok]
 exact hk w w' u w1 h
theorem au.stringOp (op:BinOp) (x y:ByteArray):au P (Op.stringOp op x y):=by
 unfold Op.stringOp
 dsimp only
 split
 · split
   · exact au.halt _
   · exact au.pure _
 all_goals first|exact au.pure _|exact au.halt _
theorem au.acR (op:BinOp) (t:TypeId) (x y:ByteArray):au P (binOp op t (.string x) (.string y)):=by
 cases op<;>unfold binOp<;>dsimp only<;>exact au.stringOp _ x y
theorem au.eqStr (op:BinOp) (t:TypeId) (x y:Operand) (a b:ByteArray):au P (eqGuard op t x y (.string a) (.string b)):=by
 cases op<;>exact au.pure _
theorem au.sliceBound (x:Value) (y:Nat) (c:BoundsCode):au P (Instr.sliceBound x y c):=by
 unfold Instr.sliceBound
 refine au.bind (au.asIntOf _) fun _=> ?_
 dsimp only
 split
 · exact au.pure _
 · exact au.bounds _ _ _ _
theorem au.sliceBounds (b:Bool) (l c:Nat) (lo hi:Option Value):au P (Instr.sliceBounds b l c lo hi none):=by
 unfold Instr.sliceBounds
 cases lo<;>cases hi<;>with_reducible repeat' first
   |exact au.pure _
   |refine au.bind (au.sliceBound _ _ _) fun _=> ?_
   |refine au.bind (au.pure _) fun _=> ?_
   |dsimp only
theorem au.slice (t:TypeId) {x:Value} (hx:(∃A n c,x= .slice A n c)∨(∃s,x= .string s)∨ ∃A,x= .pointer (some A)) (lo hi:Option Value):au P (Instr.sliceAt t x lo hi none):=by
 unfold Instr.sliceAt
 refine au.bind (au.underlying _) fun d=> ?_
 split
 · refine au.bind (au.sureAddr _) fun _=>au.bind (au.sliceBounds _ _ _ _ _) fun _=> ?_
   exact au.bind (au.sizeOf _) fun _=>au.pure _
 · unfold Instr.slice
   refine au.bind (au.underlying _) fun d=> ?_
   rcases hx with⟨A,n,c,rfl⟩|⟨s,rfl⟩|⟨A,rfl⟩
   · cases d<;>first
       |exact au.halt _
       |exact au.bind (au.sliceBounds _ _ _ _ _) fun _=>au.bind (au.sizeOf _) fun _=>au.pure _
   · cases d<;>first
       |exact au.halt _
       |exact au.bind (au.sliceBounds _ _ _ _ _) fun _=>au.pure _
   · cases d<;>first
       |exact au.halt _
       | (refine au.bind (au.pure _) fun _=>au.bind (au.underlying _) fun d=> ?_
          cases d<;>first
            |exact au.halt _
            |exact au.bind (au.sliceBounds _ _ _ _ _) fun _=>au.bind (au.sizeOf _) fun _=>au.pure _)
theorem au.arrayAt (t:TypeId) (x:Value):au P (Instr.arrayAt t x):=by
 unfold Instr.arrayAt
 refine au.bind (au.underlying _) fun d=> ?_
 split
 · split
   · split
     · exact au.QU _
     · exact au.pure _
   · exact au.halt _
 · exact au.halt _
theorem au.len (t ty:TypeId) {x:Value} (hx:(∃A n c,x= .slice A n c)∨ ∃s,x= .string s):au P (Builtin.len_ #[t] ty #[x]):=by
 unfold Builtin.len_
 show au P ((Go.underlying t)>>=_)
 refine au.bind (au.underlying _) fun d=> ?_
 rcases hx with⟨A,n,c,rfl⟩|⟨s,rfl⟩<;>cases d<;>first
   |exact au.pure _
   |exact au.halt _
   | (refine au.bind (au.underlying _) fun d=> ?_
      cases d<;>first|exact au.pure _|exact au.halt _)
end
end
section
open Go.RowKit
def Yg:AV→Bool
  | .v (.int _ _)=>true
  |_=>false
def aaL:AV→Bool
  | .v (.string _)=>true
  |_=>false
def sliceB:AV→Bool
  | .v (.string _)=>true
  | .v (.slice _ _ _)=>true
  | .sl .. =>true
  |_=>false
def acS:AV→Bool
  | .own _=>true
  | .box _ _=>true
  |x=>sliceB x
def aeB:AV→Bool
  | .box _ _=>true
  |_=>false
def acT (L:Lay) (t:TypeId):Bool:=match aZ L t with|some i=>(match i.kind with| .int _=>true|_=>false)|none=>false
def wz (L:Lay) (st:AS) (op:Op):Bool:=
 match op with
 | .move _=>true
 | .assign _=>true
 | .pick .. =>true
 | .extract .. =>true
 | .fieldAddr .. =>true
 | .indexAddr .. =>true
 | .unOp .. =>true
 | .build .. =>true
 | .field .. =>true
 | .index .. =>true
 | .nilCheck x=>aeB (st.ev x)
 | .binOp _ _ x y _=>(Yg (st.ev x)&&Yg (st.ev y))||(aaL (st.ev x)&&aaL (st.ev y))
 | .convert _ t x=>Yg (st.ev x)&&acT L t
 | .slice _ x _ _ none=>acS (st.ev x)
 | .sliceToArrayPointer _ x=>sliceB (st.ev x)
 | .call {callee:= .builtin .len,args:=xs,argTypes:=ts}=>(match ts.toList,xs.toList with|[_],[x]=>sliceB (st.ev x)|_,_=>false)
 |_=>false
section
variable {P:Program} {L:Lay} {g:Base} {N:Nat} {bs:List (Array Value)} {ρ:Nat→Value} {a:Act} {w:World} {st:AS}
theorem Gj {X:CX} {x:AV} {u:Value} (hx:C2 X x u) (h:Yg x=true): ∃k n,u= .int k n:=by
 unfold Yg at h
 split at h
 · exact⟨_,_,C2.dM hx⟩
 · cases h
theorem Oe {X:CX} {x:AV} {u:Value} (hx:C2 X x u) (h:aaL x=true): ∃s,u= .string s:=by
 unfold aaL at h
 split at h
 · exact⟨_,C2.dM hx⟩
 · cases h
theorem Gl {X:CX} {x:AV} {u:Value} (hx:C2 X x u) (h:sliceB x=true):(∃A n c,u= .slice A n c)∨ ∃s,u= .string s:=by
 unfold sliceB at h
 split at h
 · exact .inr ⟨_,C2.dM hx⟩
 · exact .inl ⟨_,_,_,C2.dM hx⟩
 · cases C2.uz hx with
   |sl _ _ _ _ A c us _ _ _ _ _ _ _ _=>exact .inl ⟨_,_,_,rfl⟩
 · cases h
theorem au.fieldAt (hL:bQ P L) {t:TypeId} {p:AV} {pv:Value} {i:Nat} {K:AV→Prop} (h:nZ L t p i K):au P (Instr.fieldAt t pv i):=by
 unfold nZ at h
 split at h
 · rename_i ti hti
   split at h
   · rename_i fs hk
     split at h
     · rename_i o ft hfs
       split at h
       · rename_i fi hfi
         obtain⟨fields,hu,hmap⟩:=lM hL hti hk
         obtain⟨f,hf,ho,hft⟩:=Fz hmap hfs
         cases hs:Nat.ble 1 fi.size with
         |false=>rw[hs]at h;exact h.elim
         | true=>
           have h1:=Nat.le_of_ble_eq_true hs
           unfold Instr.fieldAt
           refine au.Jz (x:= .struct fields) (fun w=>run_underlying hu w) ?_
           dsimp only
           rw[hf]
           dsimp only
           refine au.bind (au.sureAddr _) fun a=>au.bind ?_ fun _=>au.pure _
           unfold fieldPlace
           refine au.Jz (x:=fi.size) (fun w=>by rw[hft];exact iw hL hfi w) ?_
           rw[if_neg (by omega)]
           exact au.pure _
       · exact h.elim
     · exact h.elim
   · exact h.elim
 · exact h.elim
theorem Yh (hL:bQ P L) {t:TypeId} {i:TI} (h:aZ L t=some i): ∃z,∀w,(zeroValue t).run P w= .ok z w:=by
 obtain⟨info,z,d,h1,h2,h3,h4,h5,h6,h7⟩:=jw hL h
 exact⟨z,fun w=>by simp[zeroValue,typeInfo,h1,h3]⟩
theorem au.aaM (hL:bQ P L) {hh:List (Nat×AO)} {t:TypeId} {ps:List (Nat×AV)} {parts:Array (Nat×Value)} {K:AV→Prop} (h:Cm L hh t ps K):au P (Instr.build t parts):=by
 unfold Cm at h
 split at h
 · rename_i ti hti
   obtain⟨z,hz⟩:=Yh hL hti
   unfold Instr.build
   refine au.Jz hz ?_
   split at h
   · rename_i fs hk
     obtain⟨fields,hu,hmap⟩:=lM hL hti hk
     refine au.Jz (x:= .struct fields) (fun w=>run_underlying hu w) ?_
     dsimp only
     split at h
     · rename_i pl XV
       rw[←hmap]at XV
       refine au.Jz (x:=pl.toArray) (fun w=> ?_) ?_
       · have hm:=vW hL w XV
         rw[Array.mapM_eq_mapM_toList]
         simp only[Sem.run_map,hm,Result.andThen_ok]
       · split
         · exact au.pure _
         · exact au.halt _
     · exact h.elim
   · rename_i n e hk
     refine au.Jz (x:= .array n e) (fun w=>run_underlying (oV hL hti hk) w) ?_
     dsimp only
     refine au.bind (au.sizeOf _) fun _=> ?_
     split
     · exact au.pure _
     · exact au.halt _
   · exact h.elim
 · exact h.elim
theorem aaN (hL:bQ P L) {t:TypeId} (h:acT L t=true): ∃k,P.underlying t=some (.int k):=by
 unfold acT at h
 split at h
 · rename_i i hi
   split at h
   · rename_i k hk
     exact⟨k,zn hL hi hk⟩
   · cases h
 · cases h
theorem QV {L:Lay} {st:AS} {t:TypeId} {id:Nat} {x:AV} {lo hi:Option AV} {mx:Option AV} {K:AV→AS→Prop} (hx:x= .own id) (h:aslice L st t x lo hi mx K): ∃e s n sc f,aP id st.heap=some (.row e s n sc f):=by
 unfold aslice at h
 split at h
 · split at h
   all_goals first
     |(cases hx;done)
     |exact h.elim
     |skip
   cases hx
   split at h
   · rename_i hfo
     exact⟨_,_,_,_,_,hfo⟩
   · exact h.elim
 · exact h.elim
theorem Og (hL:bQ P L) {W:Walk} (R:Rel g N bs ρ a w st) {o:Oper} {d:Nat} {K:AV→AS→Prop} (hp:wz L st o.op=true) (h:QD P L W d st o.op K):
  ∃x u st' ρ',K x st'∧Rel g N bs ρ' a w st'∧C2 (aC g w ρ' st'.heap) x u∧ ∀w',(execOp a.eval o).run P w'= .ok (.value u) w':=by
 have fin: ∀ {m:Sem Value},au P m→(∀w,(execOp a.eval o).run P w=(do pure (.value (←m)):Sem Next).run P w)→(∃x u,K x st∧C2 (aC g w ρ st.heap) x u∧(execOp a.eval o).run P w= .ok (.value u) w)→ ∃x u st' ρ',K x st'∧Rel g N bs ρ' a w st'∧C2 (aC g w ρ' st'.heap) x u∧ ∀w',(execOp a.eval o).run P w'= .ok (.value u) w':=by
  rintro m hm e ⟨x,u,h1,h2,h3⟩
  refine⟨x,u,st,ρ,h1,R,h2,fun w'=> ?_⟩
  rw[e]at h3⊢
  exact(au.bind hm (fun _=>au.pure _) w w' _ _ h3).2
 have plain: ∀ {u0:Value},(execOp a.eval o=pure (.value u0))→(∃x u,K x st∧C2 (aC g w ρ st.heap) x u∧(execOp a.eval o).run P w= .ok (.value u) w)→ ∃x u st' ρ',K x st'∧Rel g N bs ρ' a w st'∧C2 (aC g w ρ' st'.heap) x u∧ ∀w',(execOp a.eval o).run P w'= .ok (.value u) w':=by
  rintro u0 e ⟨x,u,h1,h2,h3⟩
  refine⟨x,u,st,ρ,h1,R,h2,fun w'=> ?_⟩
  rw[e]at h3⊢
  simp only[Sem.run_pure]at h3⊢
  cases h3
  rfl
 have quiet:lH o.op=true→ ∃x u,K x st∧C2 (aC g w ρ st.heap) x u∧(execOp a.eval o).run P w= .ok (.value u) w:=fun hq=>xW hL R hq h
 unfold wz at hp
 split at hp
 · rename_i x e
   exact plain (u0:=a.eval x) (by simp only[execOp,e]) (quiet (by rw[e];rfl))
 · rename_i x e
   exact plain (u0:=a.eval x) (by simp only[execOp,e]) (quiet (by rw[e];rfl))
 · rename_i c x y e
   refine fin (m:=do pure (if←asBool (a.eval c)then a.eval x else a.eval y)) (au.bind (au.asBool _) fun _=>au.pure _) ?_ (quiet (by rw[e];rfl))
   intro w
   simp only[execOp,e]
   cases hc:a.eval c<;>rfl
 · rename_i x i e
   exact fin (au.extract (a.eval x) i) (fun _=>by simp only[execOp,e]) (quiet (by rw[e];rfl))
 · rename_i t x i e
   have h':nZ L t (st.ev x) i (fun y=>K y st):=by rw[e]at h;exact h
   exact fin (m:=Instr.fieldAt t (a.eval x) i) (au.fieldAt hL h') (fun _=>by simp only[execOp,e]) (quiet (by rw[e];rfl))
 · rename_i t x i e
   exact fin (au.indexAt t (a.eval x) (a.eval i)) (fun _=>by simp only[execOp,e]) (quiet (by rw[e];rfl))
 · rename_i op t x e
   exact fin (au.unary op (a.eval x)) (fun _=>by simp only[execOp,e]) (quiet (by rw[e];rfl))
 · rename_i t parts e
   have h':Cm L st.heap t (parts.toList.map fun p=>(p.1,st.ev p.2)) (fun y=>K y st):=by rw[e]at h;exact h
   exact fin (m:=Instr.build t (parts.map fun(i,x)=>(i,a.eval x))) (au.aaM hL h') (fun _=>by simp only[execOp,e]) (quiet (by rw[e];rfl))
 · rename_i t x i e
   exact fin (au.field t (a.eval x) i) (fun _=>by simp only[execOp,e]) (quiet (by rw[e];rfl))
 · rename_i t x i e
   exact fin (au.index t (a.eval x) (a.eval i)) (fun _=>by simp only[execOp,e]) (quiet (by rw[e];rfl))
 · rename_i x e
   have hx:=R.ev x
   have: ∃b q,a.eval x= .pointer (some ⟨b,q,none⟩):=by
    cases hev:st.ev x with
    | box id off=>
      rw[hev]at hx
      obtain⟨b,_,h⟩: ∃b,eP (ρ id)= .pointer (some ⟨b,0,none⟩)∧a.eval x= .pointer (some ⟨b,off,none⟩):=hx
      exact⟨b,off,h⟩
    |_=>rw[hev]at hp;cases hp
   obtain⟨b,q,hb⟩:=this
   exact plain (u0:=a.eval x) (by simp only[execOp,e,hb]) (quiet (by rw[e];rfl))
 · rename_i op t x y ty e
   refine fin (m:=do eqGuard op t x y (a.eval x) (a.eval y);binOp op t (a.eval x) (a.eval y)) ?_ (fun _=>by simp only[execOp,e]) (quiet (by rw[e];rfl))
   simp only[Bool.or_eq_true,Bool.and_eq_true]at hp
   rcases hp with⟨h1,h2⟩|⟨h1,h2⟩
   · obtain⟨k,n,e1⟩:=Gj (R.ev x) h1
     obtain⟨k',m,e2⟩:=Gj (R.ev y) h2
     rw[e1,e2]
     exact au.bind (au.adU _ _ _ _ _ _ _ _) fun _=>au.acQ _ _ _ _ _ _
   · obtain⟨k,e1⟩:=Oe (R.ev x) h1
     obtain⟨k',e2⟩:=Oe (R.ev y) h2
     rw[e1,e2]
     exact au.bind (au.eqStr _ _ _ _ _ _) fun _=>au.acR _ _ _ _
 · rename_i s t x e
   refine fin (m:=convert s t (a.eval x)) ?_ (fun _=>by simp only[execOp,e]) (quiet (by rw[e];rfl))
   simp only[Bool.and_eq_true]at hp
   obtain⟨k,n,e1⟩:=Gj (R.ev x) hp.1
   obtain⟨k',hk⟩:=aaN hL hp.2
   rw[e1]
   exact au.aaK hk _ _
 · rename_i t x lo hi e
   have h':=h
   rw[e]at h'
   obtain⟨z,u,st',ρ',h1,h2,h3,h4,h5⟩:=FX (mx:=none) hL R (R.ev x) h'
   refine⟨z,u,st',ρ',h1,h2,h3,fun w'=> ?_⟩
   have hval:(∃A n c,a.eval x= .slice A n c)∨(∃s,a.eval x= .string s)∨ ∃A,a.eval x= .pointer (some A):=by
    cases hev:st.ev x with
    | own id=>
      obtain⟨e1,s1,n1,sc1,f1,hfo⟩:=QV hev (show aslice L st t (st.ev x) (lo.map st.ev) (hi.map st.ev) none K from h')
      have hx:=R.ev x
      rw[hev]at hx
      obtain⟨us,hown,_⟩:=R.objs _ (ay hfo)
      have hown:w.ownsRow 0 e1 s1 (ρ id) n1 us:=hown
      have hxv:a.eval x=ρ id:=(C2.jU hx).trans (gu hown)
      rcases hown.2 with⟨hv,_⟩|⟨b,cap,cur,hv,_⟩<;>exact .inl ⟨_,_,_,hxv.trans hv⟩
    | box id k=>
      have hx:=R.ev x
      rw[hev]at hx
      obtain⟨b,_,hv⟩:=C2.kN hx
      exact .inr (.inr ⟨_,hv⟩)
    |_=>exact(Gl (R.ev x) (by rw[hev]at hp⊢;exact hp)).imp_right .inl
   have:=((au.slice (P:=P) t hval (lo.map a.eval) (hi.map a.eval)) w w' _ _ h4).2
   simp only[execOp,e,Sem.run_bind,Option.map_none,this,Result.andThen_ok,Sem.run_pure]
 · rename_i t x e
   exact fin (m:=Instr.arrayAt t (a.eval x)) (au.arrayAt t (a.eval x)) (fun _=>by simp only[execOp,e]) (quiet (by rw[e];rfl))
 · rename_i xs ts e
   split at hp
   · rename_i t x e1 e2
     have ht:ts= #[t]:=by apply Array.ext';simpa using e1
     have hx:xs= #[x]:=by apply Array.ext';simpa using e2
     subst ht hx
     refine fin (m:=Builtin.len_ #[t] o.type #[a.eval x]) (au.len _ _ (Gl (R.ev x) hp)) ?_ (quiet (by rw[e];rfl))
     intro w
     simp only[execOp,e,resolve,Sem.run_bind,Sem.run_pure,Result.andThen_ok,invoke]
     simp[builtin]
   · cases hp
 · cases hp
end
end
section
open Go.RowKit
def xZ:Op→Option (List Operand)
  | .alloc _=>some []
  | .move x=>some [x]
  | .assign x=>some [x]
  | .box _ x=>some [x]
  | .load _ x=>some [x]
  | .nilCheck x=>some [x]
  | .unOp _ _ x=>some [x]
  | .convert _ _ x=>some [x]
  | .sliceToArrayPointer _ x=>some [x]
  | .fieldAddr _ x _=>some [x]
  | .field _ x _=>some [x]
  | .extract x _=>some [x]
  | .pick c a b=>some [c,a,b]
  | .build _ ps=>some (ps.toList.map (·.2))
  | .buildSlice _ _ ps=>some (ps.toList.map (·.2))
  | .store _ a v=>some [a,v]
  | .binOp _ _ a v _=>some [a,v]
  | .indexAddr _ a v=>some [a,v]
  | .index _ a v=>some [a,v]
  | .slice _ x l h m=>some ([x]++l.toList++h.toList++m.toList)
  | .makeFunc _ f c=>some (f.toList++c.toList)
  | .call {callee:= .builtin _,args:=xs,.. }=>some xs.toList
  | .call {callee:= .value f,args:=xs,.. }=>some (f::xs.toList)
  |_=>none
theorem LC {o:Op} {l:List Operand} (h:xZ o=some l):o.operands.toList=l:=by
 unfold xZ at h
 split at h<;>simp only[Option.some.injEq,reduceCtorEq]at h<;>subst h<;>simp[Op.operands,Call.operands]
def Oh (d:Nat):List Operand→Bool
  |[]=>false
  | .tmp t::l=>Nat.beq t d||Oh d l
  |_::l=>Oh d l
theorem Gm {d:Nat}: ∀ {l:List Operand},Oh d l=false→ ∀t,t∈(l.filterMap fun| .tmp t=>some t|_=>none)→t≠d
  |[],_,t,ht=>by simp at ht
  | x ::l,h,t,ht=>by
    cases x with
    | tmp t'=>
      simp only[Oh,Bool.or_eq_false_iff]at h
      simp only[List.filterMap_cons,List.mem_cons]at ht
      rcases ht with rfl|ht
      · exact fun e=>by rw[e]at h;simp at h
      · exact Gm h.2 t ht
    |_=>exact Gm (l:=l) h t (by simpa using ht)
def wB (ops:List Oper) (o:Oper) (d:Nat):Bool:=
 (match xZ o.op with|some l=>Oh d l|none=>true)||
 (match o.guard with
  |some (j,_)=>(match ops[j]? with|some oj=>(match oj.dst with|some t=>Nat.beq t d|none=>false)|none=>false)
  |none=>false)
theorem qj {ops:List Oper} {o:Oper} {d:Nat} (h:wB ops o d=false):(o.looksAt ops.toArray).contains d=false:=by
 simp only[wB,Bool.or_eq_false_iff]at h
 obtain⟨h1,h2⟩:=h
 rw[Bool.eq_false_iff]
 intro hc
 have hm:d∈o.looksAt ops.toArray:=by simpa using hc
 unfold Oper.looksAt at hm
 rcases List.mem_append.1 hm with hm|hm
 · cases hl:xZ o.op with
   |none=>rw[hl]at h1;cases h1
   | some l=>
     rw[hl]at h1
     rw[LC hl]at hm
     exact Gm h1 d hm rfl
 · cases hg:o.guard with
   |none=>rw[hg]at hm;simp at hm
   | some gd=>
     obtain⟨j,wnt⟩:=gd
     rw[hg]at hm h2
     simp only[List.getElem?_toArray,Option.mem_toList]at hm
     dsimp only at h2
     cases hj:ops[j]? with
     |none=>rw[hj]at hm;simp at hm
     | some oj=>
       rw[hj]at hm h2
       simp only[Option.bind_some]at hm
       dsimp only at h2
       rw[hm]at h2
       simp at h2
def TJ (o:Oper) (d:Nat):Bool:=match o.dst with|some t=>Nat.beq t d|none=>false
def apartB (ops:List Oper) (x y:Oper):Bool:=
 (match x.dst with|some d=> !(wB ops y d)&& !(TJ y d)|none=>true)&&
 (match y.dst with|some d=> !(wB ops x d)|none=>true)
theorem Vg {ops:List Oper} {x y:Oper} (h:apartB ops x y=true):x.apart ops.toArray y=true:=by
 simp only[apartB,Bool.and_eq_true]at h
 obtain⟨h1,h2⟩:=h
 unfold Oper.apart
 rw[Bool.and_eq_true]
 constructor
 · cases hx:x.dst with
   |none=>rfl
   | some d=>
     rw[hx]at h1
     simp only[Bool.and_eq_true,Bool.not_eq_true']at h1
     dsimp only
     rw[qj h1.1]
     have h3:=h1.2
     unfold TJ at h3
     cases hy:y.dst with
     |none=>rfl
     | some t=>
       rw[hy]at h3
       have:t≠d:=fun e=>by rw[e]at h3;simp at h3
       simp[this]
 · cases hy:y.dst with
   |none=>rfl
   | some d=>
     rw[hy]at h2
     simp only[Bool.not_eq_true']at h2
     dsimp only
     rw[qj h2]
     rfl
def lC (k:Nat):List Nat→Bool
  |[]=>false
  |j::l=>Nat.beq j k||lC k l
def Yi (n:Nat) (done:List Nat) (listed:Array Bool):Prop:=listed.size=n∧ ∀k,k<n→listed[k]? =some (lC k done)
theorem Yi.I5 {n:Nat} {done:List Nat} {listed:Array Bool} (h:Yi n done listed) {k:Nat} (hk:k<n) (d:Bool):listed.getD k d=lC k done:=by
 have:=h.2 k hk
 rw[Array.getD_eq_getD_getElem?,this]
 rfl
theorem Yi.set {n:Nat} {done:List Nat} {listed:Array Bool} (h:Yi n done listed) {i:Nat} (hi:i<n):Yi n (i::done) (listed.setIfInBounds i true):=by
 refine⟨by simp[h.1],fun k hk=> ?_⟩
 rw[Array.getElem?_setIfInBounds]
 by_cases e:i=k
 · subst e
   simp[h.1,hi,lC]
 · rw[if_neg e,h.2 k hk]
   simp[lC,beq_false e]
def uD (n:Nat) (done:List Nat):List Edge→Bool
  |[]=>true
  |e::l=>(!(Region.binds .any e)||(Nat.ble (e.on+1) n&&lC e.on done))&&uD n done l
theorem CQ {n:Nat} {done:List Nat} {listed:Array Bool} (h:Yi n done listed): ∀ {l:List Edge},uD n done l=true↔ ∀e∈l,Region.binds .any e=true→listed.getD e.on false=true
  |[]=>by simp[uD]
  | e :: l=>by
    simp only[uD,Bool.and_eq_true,Bool.or_eq_true,Bool.not_eq_true',CQ h (l:=l),List.mem_cons,forall_eq_or_imp]
    refine and_congr ⟨fun h1 hb=> ?_,fun h1=> ?_⟩ Iff.rfl
    · rcases h1 with h1|⟨h1,h2⟩
      · rw[hb]at h1;cases h1
      · rw[h.I5 (Nat.le_of_ble_eq_true h1)];exact h2
    · cases hb:Region.binds .any e with
      |false=>exact .inl rfl
      | true=>
        have h2:=h1 hb
        have hlt:e.on<n:=by
         rcases Nat.lt_or_ge e.on n with h'|h'
         · exact h'
         · rw[Array.getD_eq_getD_getElem?,Array.getElem?_eq_none (by rw[h.1];exact h')]at h2;cases h2
        exact .inr ⟨Nat.ble_eq_true_of_le hlt,by rw[←h.I5 hlt false];exact h2⟩
def gK (n:Nat) (done:List Nat):Nat→List Oper→List Nat
  |_,[]=>[]
  |k,o::r=>bif !(lC k done)&&uD n done o.after.toList then k::gK n done (k+1) r else gK n done (k+1) r
theorem DY {n:Nat} {done:List Nat} {j:Nat}: ∀ {l:List Oper} {k:Nat},j∈gK n done k l↔ ∃i o,j=k+i∧l[i]? =some o∧lC j done=false∧uD n done o.after.toList=true
  |[],k=>by simp[gK]
  | o ::l,k=>by
    have ih:=DY (n:=n) (done:=done) (j:=j) (l:=l) (k:=k+1)
    have key:(∃i o',j=k+i∧(o::l)[i]? =some o'∧lC j done=false∧uD n done o'.after.toList=true)↔(j=k∧lC j done=false∧uD n done o.after.toList=true)∨j∈gK n done (k+1) l:=by
     rw[ih]
     constructor
     · rintro⟨i,o',h1,h2,h3⟩
       cases i with
       |zero=>simp only[List.getElem?_cons_zero,Option.some.injEq]at h2;subst h2;exact .inl ⟨h1,h3⟩
       |succ i=>exact .inr ⟨i,o',by omega,by simpa using h2,h3⟩
     · rintro(⟨h1,h3⟩|⟨i,o',h1,h2,h3⟩)
       · exact⟨0,o,by omega,rfl,h3⟩
       · exact⟨i+1,o',by omega,by simpa using h2,h3⟩
    rw[key]
    simp only[gK]
    cases hb:(!(lC k done)&&uD n done o.after.toList)with
    | true=>
      simp only[Bool.and_eq_true,Bool.not_eq_true']at hb
      simp only[cond_true,List.mem_cons]
      constructor
      · rintro(rfl|h)
        · exact .inl ⟨rfl,hb⟩
        · exact .inr h
      · rintro(h|h)
        · exact .inl h.1
        · exact .inr h
    | false=>
      simp only[cond_false]
      constructor
      · exact .inr
      · rintro(⟨rfl,h1,h2⟩|h)
        · rw[h1,h2]at hb;cases hb
        · exact h
theorem lD {ops:List Oper} {done:List Nat} {listed:Array Bool} (h:Yi ops.length done listed) {j:Nat}:j∈Region.ready .any ops.toArray listed↔j∈gK ops.length done 0 ops:=by
 rw[mem_ready,DY]
 constructor
 · rintro⟨h1,o,h2,h3⟩
   have h2:ops[j]? =some o:=by simpa using h2
   have hlt:j<ops.length:=(List.getElem?_eq_some_iff.1 h2).1
   exact⟨j,o,by omega,h2,by rw[←h.I5 hlt true];exact h1,(CQ h).2 fun e he=>h3 e (by simpa using he)⟩
 · rintro⟨i,o,h1,h2,h3,h4⟩
   obtain rfl:j=i:=by omega
   have hlt:j<ops.length:=(List.getElem?_eq_some_iff.1 h2).1
   exact⟨by rw[h.I5 hlt];exact h3,o,by simpa using h2,fun e he=>(CQ h).1 h4 e (by simpa using he)⟩
def Gn (i:Nat):List Edge→Bool
  |[]=>false
  |e::l=>(Region.binds .any e&&Nat.beq e.on i)||Gn i l
theorem CS {i:Nat}: ∀ {l:List Edge},Gn i l=true→ ∃e∈l,Region.binds .any e=true∧e.on=i
  |[],h=>by cases h
  | e ::l,h=>by
    simp only[Gn,Bool.or_eq_true,Bool.and_eq_true]at h
    rcases h with⟨h1,h2⟩|h
    · exact⟨e,List.mem_cons_self,h1,Nat.eq_of_beq_eq_true h2⟩
    · obtain⟨e',h1,h2⟩:=CS h
      exact⟨e',List.mem_cons_of_mem _ h1,h2⟩
def DZ (ops:List Oper) (done:List Nat) (i:Nat) (oi:Oper):Nat→List Oper→Bool
  |_,[]=>true
  |k,o::r=>(Nat.beq k i||lC k done||Gn i o.after.toList||apartB ops oi o)&&DZ ops done i oi (k+1) r
theorem Oi {ops:List Oper} {done:List Nat} {i:Nat} {oi:Oper}: ∀ {l:List Oper} {k:Nat},DZ ops done i oi k l=true→ ∀ (j:Nat) (oj:Oper),l[j]? =some oj→k+j≠i→lC (k+j) done=false→(∀e∈oj.after,Region.binds .any e=true→e.on≠i)→oi.apart ops.toArray oj=true
  |[],k,_,j,oj,hj=>by simp at hj
  | o ::l,k,h,j,oj,hj=>by
    simp only[DZ,Bool.and_eq_true,Bool.or_eq_true]at h
    obtain⟨h1,h2⟩:=h
    intro hne hm hw
    cases j with
    | zero=>
      simp only[List.getElem?_cons_zero,Option.some.injEq]at hj
      subst hj
      rcases h1 with((h1|h1)|h1)|h1
      · exact absurd (Nat.eq_of_beq_eq_true h1) (by simpa using hne)
      · rw[Nat.add_zero]at hm;rw[hm]at h1;cases h1
      · obtain⟨e,he,hb,hi⟩:=CS h1
        exact absurd hi (hw e (by simpa using he) hb)
      · exact Vg h1
    | succ j=>
      refine Oi h2 j oj (by simpa using hj) (by omega) (by rw[show k+1+j=k+(j+1) by omega];exact hm) hw
def wC (N:Nat) (st:AS) (ops:List Oper) (o:Oper):Option Bool:=
 match o.guard with
 |none=>some true
 | some (j,want)=>match ops[j]? with
   | some oj=>(match oj.dst with
     |some dj=>bif Nat.ble (dj+1) N then(match st.tmps dj with| .v (.bool b)=>some (b==want)| .v (.tuple _)=>some false|_=>none)else none
     |none=>none)
   |none=>none
def wE (L:Lay) (N:Nat) (st:AS) (ops:List Oper) (done:List Nat):List Nat→Option Nat
  |[]=>none
  | i::r=>match ops[i]? with
    |some o=>bif (match wC N st ops o with|some true=>wz L st o.op|some false=>true|none=>false)&&DZ ops done i o 0 ops then some i else wE L N st ops done r
    |none=>wE L N st ops done r
def o8 (P:Program) (L:Lay) (W:Walk) (N:Nat) (ops:List Oper) (o:Oper) (st:AS) (K:AS→Prop):Prop:=
 match wC N st ops o with
 |some true=>zl P L W o.dst st o.op (fun x st'=>pG N st' o.dst x K)
 |some false=>pG N st o.dst (.v undef) K
 |none=>False
structure Both (A B:Prop):Prop where
 one:A
 two:B
def Vh (F:Nat→Prop):List Nat→Prop
  |[]=>True
  |[j]=>F j
  |j::l=>Both (F j) (Vh F l)
theorem Oj {F:Nat→Prop}: ∀ {l:List Nat},Vh F l→ ∀j∈l,F j
  |[],_,j,hj=>by cases hj
  |[i],h,j,hj=>by rw[List.mem_singleton.1 hj];exact h
  | i::k::l,h,j,hj=>by
    rcases List.mem_cons.1 hj with rfl|hj
    · exact h.one
    · exact Oj h.two j hj
def uF (P:Program) (L:Lay) (W:Walk) (N:Nat) (n:Nat) (ops:List Oper) (Q:AS→Prop):Nat→List Nat→AS→Prop
  |0,done,st=>(match gK n done 0 ops with|[]=>Q st|_::_=>False)
  | f +1,done,st=>match gK n done 0 ops with
    |[]=>Q st
    | i::r=>match wE L N st ops done (i::r)with
      |some j=>(match ops[j]? with|some o=>o8 P L W N ops o st (uF P L W N n ops Q f (j::done))|none=>False)
      |none=>Vh (fun j=>match ops[j]? with|some o=>o8 P L W N ops o st (uF P L W N n ops Q f (j::done))|none=>False) (i::r)
section
variable {P:Program} {L:Lay} {g:Base} {N:Nat} {bs:List (Array Value)} {ρ:Nat→Value} {a:Act} {w:World} {st:AS}
theorem lQ (R:Rel g N bs ρ a w st) {ops:List Oper} {o:Oper} {b:Bool} (h:wC N st ops o=some b):Region.wanted o (yielded ops.toArray a.tmps)=b:=by
 obtain⟨dst,op,ty,pos,after,guard⟩:=o
 unfold wC at h
 cases guard with
 |none=>cases h;rfl
 | some gd =>
   obtain⟨j,want⟩:=gd
   dsimp only at h
   split at h
   · rename_i oj hoj
     split at h
     · rename_i dj hdj
       cases hb:Nat.ble (dj+1) N with
       |false=>rw[hb]at h;cases h
       | true=>
         rw[hb,cond_true]at h
         have hlt:=Nat.le_of_ble_eq_true hb
         have hd:=R.tmps dj
         have hget:a.tmps[dj]? =some (a.tmps.getD dj undef):=by
          have:dj<a.tmps.size:=by rw[R.size];exact hlt
          simp[this]
         have hops:((ops.toArray[j]?).bind (·.dst))=some dj:=by simp[hoj,hdj]
         split at h
         · rename_i b' eb
           rw[eb]at hd
           have hd:=C2.dM hd
           have hy:yielded ops.toArray a.tmps j=some b':=by
            unfold yielded
            rw[hops]
            simp only[Option.bind_some,hget,hd]
           simp only[Option.some.injEq]at h
           simp only[Region.wanted,hy]
           rw[←h]
           cases b'<;>cases want<;>rfl
         · rename_i vs eb
           rw[eb]at hd
           have hd:=C2.dM hd
           have hy:yielded ops.toArray a.tmps j=none:=by
            unfold yielded
            rw[hops]
            simp only[Option.bind_some,hget,hd]
           cases h
           simp only[Region.wanted,hy]
           rfl
         · cases h
     · cases h
   · cases h
theorem Gp {ops:List Oper} {done:List Nat} {j:Nat}: ∀ {l:List Nat},wE L N st ops done l=some j→j∈l∧ ∃o,ops[j]? =some o∧DZ ops done j o 0 ops=true∧((wC N st ops o=some true∧wz L st o.op=true)∨wC N st ops o=some false)
  |[],h=>by cases h
  | i :: r, h=>by
    have rest:wE L N st ops done r=some j→j∈i::r∧ ∃o,ops[j]? =some o∧DZ ops done j o 0 ops=true∧((wC N st ops o=some true∧wz L st o.op=true)∨wC N st ops o=some false):=fun h=>
     ⟨List.mem_cons_of_mem _ (Gp h).1,(Gp h).2⟩
    simp only[wE]at h
    cases ho:ops[i]? with
    |none=>rw[ho]at h;exact rest h
    | some o=>
      rw[ho]at h
      dsimp only at h
      cases hw:wC N st ops o with
      |none=>rw[hw]at h;exact rest h
      | some b=>
        rw[hw]at h
        cases b with
        | true=>
          dsimp only at h
          cases hb:(wz L st o.op&&DZ ops done i o 0 ops)with
          |false=>rw[hb]at h;exact rest h
          | true=>
            rw[hb]at h
            simp only[cond_true,Option.some.injEq]at h
            subst h
            simp only[Bool.and_eq_true]at hb
            exact⟨List.mem_cons_self,o,ho,hb.2,.inl ⟨hw,hb.1⟩⟩
        | false=>
          dsimp only at h
          cases hb:(true&&DZ ops done i o 0 ops)with
          |false=>rw[hb]at h;exact rest h
          | true=>
            rw[hb]at h
            simp only[cond_true,Option.some.injEq]at h
            subst h
            simp only[Bool.true_and]at hb
            exact⟨List.mem_cons_self,o,ho,hb,.inr hw⟩
theorem Ol (hL:bQ P L) {W:Walk} (hW:IZ P W) {ops:List Oper} (hs:Region.noSelect ops.toArray=true) {Q:AS→Prop} {E:Exit→Act→World→Prop} (hE: ∀e a w,e≠ .normal→ ¬E e a w) (hQ: ∀ρ a w st,Rel g N bs ρ a w st→Q st→E .normal a w):
  ∀ (f:Nat) {done:List Nat} {listed:Array Bool} {ρ:Nat→Value} {a:Act} {w:World} {st:AS},Yi ops.length done listed→Rel g N bs ρ a w st→uF P L W N ops.length ops Q f done st→wpAny P .any ops.toArray E f listed a w
  | 0,done,listed,ρ,a,w,st,hl,R,h=>by
    simp only[uF]at h
    split at h
    · rename_i e
      refine⟨?_,hQ _ _ _ _ R h⟩
      cases hr:Region.ready .any ops.toArray listed with
      |nil=>rfl
      | cons j r=>
        have:j∈gK ops.length done 0 ops:=(lD hl).1 (by rw[hr];exact List.mem_cons_self)
        rw[e]at this
        cases this
    · exact h.elim
  | f + 1, done,listed,ρ,a,w,st,hl,R,h=>by
    have ih:= @Ol hL W hW ops hs Q E hE hQ f
    simp only[uF]at h
    split at h
    · rename_i e
      have hr:Region.ready .any ops.toArray listed=[]:=by
       cases hr:Region.ready .any ops.toArray listed with
       |nil=>rfl
       | cons j r=>
         have:j∈gK ops.length done 0 ops:=(lD hl).1 (by rw[hr];exact List.mem_cons_self)
         rw[e]at this
         cases this
      exact wpAny_done hr (hQ _ _ _ _ R h) _
    · rename_i i r e
      have hne:Region.ready .any ops.toArray listed≠[]:=fun h0=>by
       have:i∈Region.ready .any ops.toArray listed:=(lD hl).2 (by rw[e];exact List.mem_cons_self)
       rw[h0]at this
       cases this
      split at h
      · rename_i j hp
        obtain⟨hm,o,ho,hf,hw⟩:=Gp hp
        rw[ho]at h
        dsimp only at h
        have hlt:j<ops.length:=(List.getElem?_eq_some_iff.1 ho).1
        have hr:j∈Region.ready .any ops.toArray listed:=(lD hl).2 (by rw[e];exact hm)
        have Xk:ops.toArray[j]? =some o:=by simpa using ho
        have hfree: ∀j' oj,ops.toArray[j']? =some oj→j'≠j→listed.getD j' true=false→(∀e∈oj.after,Region.binds .any e=true→e.on≠j)→o.apart ops.toArray oj=true:=by
         intro j' oj h1 h2 h3 h4
         have h1':ops[j']? =some oj:=by simpa using h1
         have hlt':j'<ops.length:=(List.getElem?_eq_some_iff.1 h1').1
         refine Oi hf j' oj h1' (by omega) ?_ h4
         rw[Nat.zero_add,←hl.I5 hlt' true]
         exact h3
        have take: ∀ {v:Value},Yields P ops.toArray o v a→wpAny P .any ops.toArray E f (listed.setIfInBounds j true) (a.put o.dst v) w→wpAny P .any ops.toArray E (f+1) listed a w:=
         fun hy H=>wpAny_first Xk (Region.noSelect_spec hs) (fun c a w h=>absurd h (hE _ _ _ (by simp))) f listed a w hfree hr hy H
        unfold o8 at h
        rcases hw with⟨hw,hpu⟩|hw
        · rw[hw]at h
          dsimp only at h
          have go: ∀d,QD P L W d st o.op (fun x st'=>pG N st' o.dst x (uF P L W N ops.length ops Q f (j::done)))→wpAny P .any ops.toArray E (f+1) listed a w:=by
           intro d hd
           obtain⟨x,u,st',ρ',h1,R1,h2,h3⟩:=Og hL R hpu hd
           obtain⟨st2,k2,R2⟩:=iE R1 h2 h1
           exact take (.inl ⟨lQ R hw,h3⟩) (ih (hl.set hlt) R2 k2)
          unfold zl at h
          cases hd:o.dst with
          |none=>rw[hd]at h;dsimp only at h;exact go 0 (by rw[hd];exact h)
          |some d=>rw[hd]at h;dsimp only at h;exact go d (by rw[hd];exact h)
        · rw[hw]at h
          dsimp only at h
          obtain⟨st2,k2,R2⟩:=iE R (show C2 (aC g w ρ st.heap) (.v undef) undef from rfl) h
          exact take (.inr ⟨lQ R hw,rfl⟩) (ih (hl.set hlt) R2 k2)
      · rw [←e]at h
        refine⟨fun h0=>absurd h0 hne,fun j hj=> ?_⟩
        have hjm:=(lD hl).1 hj
        have hF:=Oj h j hjm
        cases ho:ops[j]? with
        |none=>rw[ho]at hF;exact hF.elim
        | some o=>
          rw[ho]at hF
          dsimp only at hF
          have hlt:j<ops.length:=(List.getElem?_eq_some_iff.1 ho).1
          have Xk:ops.toArray[j]? =some o:=by simpa using ho
          unfold wpOp
          rw[Xk]
          dsimp only
          unfold o8 at hF
          split at hF
          · rename_i hw
            rw[lQ R hw]
            simp only[if_true]
            refine .inl ?_
            have go: ∀d,QD P L W d st o.op (fun x st'=>pG N st' o.dst x (uF P L W N ops.length ops Q f (j::done)))→o.wp P a w (wpAny P .any ops.toArray E f (listed.setIfInBounds j true)) E:=by
             intro d hd
             refine EM hL hW R (d:=d) hd ?_
             intro x st' u ρ' w' hx R' hc
             obtain⟨st2,h2,R2⟩:=iE R' hc hx
             exact ih (hl.set hlt) R2 h2
            unfold zl at hF
            cases hd:o.dst with
            |none=>rw[hd]at hF;dsimp only at hF;exact go 0 (by rw[hd];exact hF)
            |some d=>rw[hd]at hF;dsimp only at hF;exact go d (by rw[hd];exact hF)
          · rename_i hw
            rw[lQ R hw]
            simp only[Bool.false_eq_true,if_false]
            obtain⟨st2,k2,R2⟩:=iE R (show C2 (aC g w ρ st.heap) (.v undef) undef from rfl) hF
            exact ih (hl.set hlt) R2 k2
          · exact hF.elim
theorem iK.any (hL:bQ P L) {W:Walk} (hW:IZ P W) {id:Nat} {ops:Array Oper} {K:AS→Prop} {st:AS} (hm:P.follows .mixedOrders=true) (hs:Region.noSelect ops=true) (h:uF P L W N ops.toList.length ops.toList K ops.toList.length [] st):iK P L W N id ops K st:=by
 refine .sem fun g bs ρ a w E R hK=> ?_
 refine Code.wp_mono (Q:=fun e a w=>e= .normal∧E .normal a w) (fun e a w h=>by obtain⟨rfl,h⟩:=h;exact h) ?_
 have e1:ops.size=ops.toList.length:=by simp
 refine wp_region_any hm ?_
 have hl:Yi ops.toList.length [] (Array.replicate ops.size false):=by
  refine⟨by simp,fun k hk=> ?_⟩
  rw[Array.getElem?_replicate,if_pos (by rw[e1];exact hk)]
  rfl
 have R':Rel g N bs ρ a w.drew st:=R.world (Below.refl _ _).drew
 have:=Ol (g:=g) (bs:=bs) (N:=N) hL hW (ops:=ops.toList) (by simpa using hs) (Q:=K) (E:=fun e a w=>e= .normal∧E .normal a w) (fun e a w hne h=>hne h.1) (fun ρ a w st R h=>⟨rfl,hK ρ a w st R h⟩) ops.toList.length hl R' h
 rw[e1]
 simpa using this
theorem iK.cut (hL:bQ P L) {W:Walk} (hW:IZ P W) {id:Nat} {ops:Array Oper} {K:AS→Prop} {st:AS} (S:AS) (hm:P.follows .mixedOrders=true) (hs:Region.noSelect ops=true) (h:uF P L W N ops.toList.length ops.toList (fun st'=>Fv st' S) ops.toList.length [] st) (hK:K S):iK P L W N id ops K st:=by
 have:=iK.any (P:=P) (L:=L) (N:=N) (id:=id) hL hW hm hs h
 cases this with
 | quiet hm hB hq h=>
   refine .sem fun g bs ρ a w E R hE=> ?_
   refine wp_region_quiet (C:=fun w'=>w'=w.drew) hm hB rfl ?_
   have R':Rel g N bs ρ a w.drew st:=R.world (Below.refl _ _).drew
   exact vZ hL (E:=fun a w=>E .normal a w) (ops:=ops.toList) (fun a w1 st R h=>hE _ _ _ _ (R.less h) hK) ops.toList hq R' h
 |sem h=>exact .sem fun g bs ρ a w E R hE=>h g bs ρ a w E R fun ρ a w st R h=>hE _ _ _ _ (R.less h) hK
end
end
section
open Go.RowKit
def QW (P:Program) (L:Lay) (W:Walk) (N:Nat) (n:Nat) (ops:List Oper) (Q:AS→Prop):Nat→List Nat→AS→Prop
  |0,_,st=>Q st
  | f +1,done,st=>match gK n done 0 ops with
    |[]=>Q st
    | i::r=>match wE L N st ops done (i::r)with
      |some j=>(match ops[j]? with|some o=>o8 P L W N ops o st (QW P L W N n ops Q f (j::done))|none=>False)
      |none=>(match ops[i]? with|some o=>o8 P L W N ops o st (QW P L W N n ops Q f (i::done))|none=>False)
def slotsOf (st:AS) (N:Nat):Nat→Nat→(List (Nat×AV)→Prop)→Prop
  |0,_,K=>K []
  | f+1,k,K=>bif Nat.ble N k then K []else match st.tmps k with
    | .junk=>slotsOf st N f (k+1) K
    | .v (.tuple _)=>slotsOf st N f (k+1) K
    | .v x=>slotsOf st N f (k+1) (fun l=>K ((k,.v x)::l))
    | .agg cs=>slotsOf st N f (k+1) (fun l=>K ((k,.agg cs)::l))
    | .dF vs=>slotsOf st N f (k+1) (fun l=>K ((k,.dF vs)::l))
    | .sl s m sc g=>slotsOf st N f (k+1) (fun l=>K ((k,.sl s m sc g)::l))
    | .own i=>slotsOf st N f (k+1) (fun l=>K ((k,.own i)::l))
    | .dP i s j m=>slotsOf st N f (k+1) (fun l=>K ((k,.dP i s j m)::l))
    | .jq i s j m=>slotsOf st N f (k+1) (fun l=>K ((k,.jq i s j m)::l))
    | .box i m=>slotsOf st N f (k+1) (fun l=>K ((k,.box i m)::l))
    | .cf g i m=>slotsOf st N f (k+1) (fun l=>K ((k,.cf g i m)::l))
    | .el cs m=>slotsOf st N f (k+1) (fun l=>K ((k,.el cs m)::l))
    | .fn g cs=>slotsOf st N f (k+1) (fun l=>K ((k,.fn g cs)::l))
theorem zA {st:AS} {N:Nat}: ∀ {f k:Nat} {K:List (Nat×AV)→Prop},slotsOf st N f k K→ ∃l,K l
  |0,_,_,h=>⟨[],h⟩
  | f +1,k,K,h=>by
    simp only[slotsOf]at h
    cases hb:Nat.ble N k with
    |true=>rw[hb]at h;exact⟨[],h⟩
    | false=>
      rw[hb]at h
      simp only[cond_false]at h
      split at h<;>(obtain⟨l,hl⟩:=zA h;exact⟨_,hl⟩)
def AZ (st:AS):List (Nat×AV)→List AV
  |[]=>[]
  |p::l=>st.tmps p.1::AZ st l
def valsOf:List (Nat×AV)→List AV
  |[]=>[]
  |p::l=>p.2::valsOf l
def LD (st:AS):List (Nat×AO)→List (Option AO)
  |[]=>[]
  |p::l=>aP p.1 st.heap::LD st l
def LG:List (Nat×AO)→List (Option AO)
  |[]=>[]
  |p::l=>some p.2::LG l
theorem CU {st:AS}: ∀ {l:List (Nat×AV)},AZ st l=valsOf l→ ∀t,qW l t= .junk∨aS (st.tmps t) (qW l t)
  |[],_,t=> .inl rfl
  | p ::l,h,t=>by
    simp only[AZ,valsOf,List.cons.injEq]at h
    simp only[qW]
    cases hb:Nat.beq t p.1 with
    | true=>
      obtain rfl:=Nat.eq_of_beq_eq_true hb
      rw[h.1]
      exact .inr (aS.refl _)
    |false=>exact CU h.2 t
theorem Om {st:AS}: ∀ {l:List (Nat×AO)},LD st l=LG l→ ∀p∈l,∃o,aP p.1 st.heap=some o∧bW o p.2
  |[],_,p,hp=>by cases hp
  | q::l,h,p,hp=>by
    simp only[LD,LG,List.cons.injEq]at h
    rcases List.mem_cons.1 hp with rfl|hp
    · exact⟨_,h.1,bW.refl _⟩
    · exact Om h.2 p hp
def QX (F:Nat):List (List (Nat×AV))→(List (List (Nat×AV))→Prop)→Prop
  |[],K=>K []
  |f::fs,K=>slotsOf ⟨f,[],[],0⟩ F F 0 (fun l=>QX F fs (fun ls=>K (l::ls)))
theorem JA {F:Nat}: ∀ {fs:List (List (Nat×AV))} {K:List (List (Nat×AV))→Prop},QX F fs K→ ∃ls,K ls
  |[],_,h=>⟨[],h⟩
  | f::fs,K,h=>by
    obtain⟨l,h⟩:=zA h
    obtain⟨ls,h⟩:=JA h
    exact⟨_,h⟩
def LH:List (List (Nat×AV))→List (List (Nat×AV))→List (List AV)
  |[],[]=>[]
  |f::fs,l::ls=>AZ ⟨f,[],[],0⟩ l::LH fs ls
  |_::_,[]=>[[]]
  |[],_::_=>[[]]
def A8:List (List (Nat×AV))→List (List AV)
  |[]=>[]
  |l::ls=>valsOf l::A8 ls
def wF:List (Nat×AO)→(List (Nat×AO)→Prop)→Prop
  |[],K=>K []
  | p::l,K=>match p.2 with
    | .box t cs=>wF l (fun h=>K ((p.1,.box t cs)::h))
    | .row e s n sc f=>wF l (fun h=>K ((p.1,.row e s n sc f)::h))
    | .mp t ks rs=>wF l (fun h=>K ((p.1,.mp t ks rs)::h))
    | .obs o=>wF l (fun h=>K ((p.1,.obs o)::h))
    | .rn e cs=>wF l (fun h=>K ((p.1,.rn e cs)::h))
theorem JB: ∀ {l:List (Nat×AO)} {K:List (Nat×AO)→Prop},wF l K→ ∃h,K h
  |[],_,h=>⟨[],h⟩
  | p::l,K,h=>by
    simp only[wF]at h
    split at h<;>(obtain⟨l,h⟩:=JB h;exact⟨_,h⟩)
inductive LeC (st:AS) (l:List (Nat×AV)) (h:List (Nat×AO)) (ls:List (List (Nat×AV))):Prop where
  |mk (hl:st.back.length=ls.length) (hb:LH st.back ls=A8 ls) (hn:nodupB (h.map (·.1))=true) (ht:AZ st l=valsOf l) (hh:LD st h=LG h):LeC st l h ls
theorem Oo: ∀ {fs:List (List (Nat×AV))} {ls:List (List (Nat×AV))},fs.length=ls.length→LH fs ls=A8 ls→pI fs ls
  |[],[],_,_=>trivial
  | f::fs,l::ls,hl,h=>by
    simp only[LH,A8,List.cons.injEq]at h
    exact⟨CU (st:=⟨f,[],[],0⟩) h.1,Oo (by simpa using hl) h.2⟩
  |[],_::_,hl,_=>by simp at hl
  |_::_,[],hl,_=>by simp at hl
theorem LeC.les {st:AS} {b:Nat} {l:List (Nat×AV)} {hs:List (Nat×AO)} {ls:List (List (Nat×AV))} (h:LeC st l hs ls):Fv st ⟨l,hs,ls,b⟩:=by
 obtain⟨hl,hb,hn,ht,hh⟩:=h
 exact⟨CU ht,Om hh,oU hn,Oo hl hb⟩
section
variable {P:Program} {L:Lay} {g:Base} {N:Nat} {bs:List (Array Value)} {ρ:Nat→Value} {a:Act} {w:World} {st:AS}
theorem Yj {o:Oper} {G:Prop} (h:o.wp P a w (fun _ _=>G) (fun _ _ _=>G)):G:=by
 unfold Oper.wp at h
 cases e:(execOp a.eval o).run P w with
 | ok n w'=>
   rw[e]at h
   cases n<;>simp only[Oper.upon]at h
   all_goals first
     |exact h
     |exact h.elim
     |(obtain⟨v,w'',r,_⟩:=h default [];exact r)
     | (obtain⟨en,w'',fr,r,_⟩:=h []
        cases en with
        |returned v=>exact r
        |panicked c=>exact r
        |outgrown=>obtain⟨_,_,r⟩:=r;exact r)
 | halt x w'=>
   rw[e]at h
   cases x<;>simp only[Oper.upon]at h
   exact h
theorem TL (hL:bQ P L) {W:Walk} (hW:IZ P W) {ops:List Oper} {Q:AS→Prop}: ∀ (f:Nat) {done:List Nat} {ρ:Nat→Value} {a:Act} {w:World} {st:AS},Rel g N bs ρ a w st→QW P L W N ops.length ops Q f done st→ ∃S,Q S
  |0,done,ρ,a,w,st,R,h=>⟨st,h⟩
  | f + 1,done,ρ,a,w,st,R,h=>by
    have ih:= @TL hL W hW ops Q f
    have step: ∀ {o:Oper} {d:List Nat},o8 P L W N ops o st (QW P L W N ops.length ops Q f d)→ ∃S,Q S:=by
     intro o d h
     unfold o8 at h
     split at h
     · have go: ∀k,QD P L W k st o.op (fun x st'=>pG N st' o.dst x (QW P L W N ops.length ops Q f d))→ ∃S,Q S:=by
        intro k hk
        refine Yj (P:=P) (o:=o) (a:=a) (w:=w) (EM hL hW R (d:=k) hk ?_)
        intro x st' u ρ' w' hx R' hc
        obtain⟨st2,h2,R2⟩:=iE R' hc hx
        exact ih R2 h2
       unfold zl at h
       cases hd:o.dst with
       |none=>rw[hd]at h;dsimp only at h;exact go 0 (by rw[hd];exact h)
       |some k=>rw[hd]at h;dsimp only at h;exact go k (by rw[hd];exact h)
     · obtain⟨st2,k2,R2⟩:=iE R (show C2 (aC g w ρ st.heap) (.v undef) undef from rfl) h
       exact ih R2 k2
     · exact h.elim
    simp only[QW]at h
    split at h
    · exact⟨st,h⟩
    · split at h
      · split at h
        · exact step h
        · exact h.elim
      · split at h
        · exact step h
        · exact h.elim
theorem iK.lex (F:Nat) (hL:bQ P L) {W:Walk} (hW:IZ P W) {id:Nat} {ops:Array Oper} {K:AS→Prop} {st:AS} (hm:P.follows .mixedOrders=true) (hs:Region.noSelect ops=true)
  (h:QW P L W N ops.toList.length ops.toList (fun S=>slotsOf S N 400 0 fun l=>wF S.heap fun hs=>QX F S.back fun ls=>Both (uF P L W N ops.toList.length ops.toList (fun st'=>LeC st' l hs ls) ops.toList.length [] st) (K ⟨l,hs,ls,S.base⟩)) ops.toList.length [] st):iK P L W N id ops K st:=by
 refine .sem fun g bs ρ a w E R hE=> ?_
 obtain⟨S,h1⟩:=TL hL hW ops.toList.length R h
 obtain⟨l,h1⟩:=zA h1
 obtain⟨hs',h1⟩:=JB h1
 obtain⟨ls,h1,hK⟩:=JA h1
 have:=iK.any (P:=P) (L:=L) (N:=N) (id:=id) hL hW hm hs h1
 cases this with
 | quiet hm hB hq h=>
   refine wp_region_quiet (C:=fun w'=>w'=w.drew) hm hB rfl ?_
   have R':Rel g N bs ρ a w.drew st:=R.world (Below.refl _ _).drew
   exact vZ hL (E:=fun a w=>E .normal a w) (ops:=ops.toList) (fun a w1 st R h=>hE _ _ _ _ (R.less h.les) hK) ops.toList hq R' h
 |sem h=>exact h g bs ρ a w E R fun ρ a w st R h=>hE _ _ _ _ (R.less h.les) hK
end
end
section
open Go.RowKit
section
variable {P:Program} {ops:Array Oper} {Q:Exit→Act→World→Prop} {T:List (Nat×List Nat)}
def YieldsAt (P:Program) (ops:Array Oper) (o:Oper) (v:Value) (a:Act) (w:World):Prop:=
 (Region.wanted o (yielded ops a.tmps)=true∧(execOp a.eval o).run P w= .ok (.value v) w)∨(Region.wanted o (yielded ops a.tmps)=false∧v=undef)
theorem YieldsAt.of_same {o:Oper} {v:Value} {a a':Act} {w:World} (hy:YieldsAt P ops o v a w) (he:execOp a'.eval o=execOp a.eval o) (hw:Region.wanted o (yielded ops a'.tmps)=Region.wanted o (yielded ops a.tmps)):YieldsAt P ops o v a' w:=by
 unfold YieldsAt at*
 rw[he,hw]
 exact hy
theorem YieldsAt.put {o:Oper} {v:Value} {a:Act} {w:World} (hs: ∀cs b,o.op≠ .select cs b) {dst:Option Tmp} {u:Value} (h: ∀d,dst=some d→d ∉ o.looksAt ops):YieldsAt P ops o v (a.put dst u) w↔YieldsAt P ops o v a w:=by
 have e1:=execOp_put (ops:=ops) o hs a dst u h
 have e2:=wanted_put (ops:=ops) o a dst u h
 unfold YieldsAt
 rw[e1,e2]
theorem YieldsAt.wpOp {i:Nat} {o:Oper} {v:Value} {a:Act} {w:World} (hi:ops[i]? =some o) (hy:YieldsAt P ops o v a w) {K:Act→World→Prop} (h:K (a.put o.dst v) w):wpOp P ops Q i K a w:=by
 unfold Go.wpOp
 simp only[hi]
 rcases hy with⟨hw,hv⟩|⟨hw,rfl⟩
 · simp only[hw,if_true,Oper.wp,hv,Oper.upon];exact .inl h
 · simp only[hw,Bool.false_eq_true,if_false];exact h
def alive (T:List (Nat×List Nat)) (listed:Array Bool) (p:Nat):Prop:= ∀k l,(k,l)∈T→listed.getD k false=true→p ∉ l
def TM (P:Program) (ops:Array Oper) (T:List (Nat×List Nat)) (listed:Array Bool) (pend:List (Nat×Value)) (a:Act) (w:World):Prop:=
 ∀p∈pend,alive T listed p.1→ ∀o,ops[p.1]? =some o→YieldsAt P ops o p.2 a w
def jF (P:Program) (ops:Array Oper) (Q:Exit→Act→World→Prop) (T:List (Nat×List Nat)):Nat→Array Bool→List (Nat×Value)→Act→World→Prop
  |0,listed,_,a,w=>Region.ready .any ops listed=[]∧Q .normal a w
  |f+1,listed,pend,a,w=>(Region.ready .any ops listed=[]→Q .normal a w)∧ ∀j∈Region.ready .any ops listed,wpOp P ops Q j (fun a' w'=>TM P ops T (listed.setIfInBounds j true) pend a' w'∧jF P ops Q T f (listed.setIfInBounds j true) pend a' w') a w
theorem jF.less: ∀ {f:Nat} {listed:Array Bool} {pend acd:List (Nat×Value)} {a:Act} {w:World},(∀p∈acd,p∈pend)→jF P ops Q T f listed pend a w→jF P ops Q T f listed acd a w
  |0,_,_,_,_,_,_,h=>h
  |_+1,_,_,_,_,_,hs,h=>⟨h.1,fun j hj=>wpOp_mono (fun _ _ k=>⟨fun p hp=>k.1 p (hs p hp),jF.less hs k.2⟩) (h.2 j hj)⟩
theorem jF.any: ∀ {f:Nat} {listed:Array Bool} {pend:List (Nat×Value)} {a:Act} {w:World},jF P ops Q T f listed pend a w→wpAny P .any ops Q f listed a w
  |0,_,_,_,_,h=>h
  |_+1,_,_,_,_,h=>⟨h.1,fun j hj=>wpOp_mono (fun _ _ k=>jF.any k.2) (h.2 j hj)⟩
def Closed (T:List (Nat×List Nat)) (listed:Array Bool):Prop:= ∀k l,(k,l)∈T→listed.getD k false=true→ ∀p∈l,listed.getD p false=true
theorem Vj {j:Nat} {oi oj:Oper} {v:Value} (hj:ops[j]? =some oj) (h1: ∀d,oi.dst=some d→d ∉ oj.looksAt ops) (h2: ∀d,oi.dst=some d→oj.dst≠some d)
  (hsj: ∀cs b,oj.op≠ .select cs b) (hQ: ∀c a w,Q (.panic c) (a.put oi.dst v) w→Q (.panic c) a w) {K:Act→World→Prop} {a:Act} {w:World}
  (h:wpOp P ops Q j K (a.put oi.dst v) w):wpOp P ops Q j (fun a' w'=>K (a'.put oi.dst v) w') a w:=by
 unfold wpOp at*
 simp only[hj]at*
 rw[wanted_put oj a oi.dst v h1]at h
 split
 · rename_i hw
   simp only[hw,if_true]at h
   rcases h with h|⟨hasks,hlets⟩
   case inr=>exact .inr ⟨by unfold Oper.asks at*;rw[execOp_put oj hsj a oi.dst v h1]at hasks;exact hasks,hlets⟩
   refine .inl ?_
   unfold Oper.wp at*
   rw[execOp_put oj hsj a oi.dst v h1]at h
   generalize(execOp a.eval oj).run P w=r at*
   cases r with
   | ok n w'=>
     cases n<;>simp only[Oper.upon]at h⊢
     case value u=>rw[←Act.put_comm a v u h2];exact h
     case skip=>rw[←Act.put_comm a v undef h2];exact h
     case defer d=>
      rw[←Act.put_comm _ v undef h2,←Act.put_defers]
      exact h
     case enter f args=>
      refine Calls.mono h fun e w'' he=> ?_
      cases e with
      |returned u=>dsimp only at he⊢;rw[←Act.put_comm a v u h2];exact he
      |panicked c=>exact hQ _ _ _ he
      |outgrown=>exact he
     case row row args=>exact Rows.mono h fun u w'' he=>by rw[←Act.put_comm a v u h2];exact he
   | halt x w'=>
     cases x<;>simp only[Oper.upon]at h⊢
     case panic u=>exact hQ _ _ _ h
 · rename_i hw
   simp only[hw]at h
   rw[←Act.put_comm a v undef h2];exact h
def QY (pu:Bool) (x:Nat×Value) (pend:List (Nat×Value)):List (Nat×Value):=match pu with|true=>pend|false=>x::pend
def JC (ops:Array Oper) (listed:Array Bool) (pend:List (Nat×Value)):Prop:=
 ∀p∈pend,∀o,ops[p.1]? =some o→ ∀k ok,ops[k]? =some ok→listed.getD k true=false→ ∀d,ok.dst=some d→d ∉ o.looksAt ops
theorem LJ {i:Nat} {oi:Oper} {v:Value} (hi:ops[i]? =some oi) (hsel: ∀ (j:Nat) (o:Oper) cs b,ops[j]? =some o→o.op≠ .select cs b)
  (hQ: ∀c a w,Q (.panic c) (a.put oi.dst v) w→Q (.panic c) a w) (hT: ∀l,(i,l)∈T→False) {U:List (Nat×List Nat)} (hTU: ∀x∈T,x∈U) (hTr: ∀ (k:Nat) (l:List Nat) (listed:Array Bool),(k,l)∈U→Closed U listed→k∈Region.ready .any ops listed→ ∀p∈l,listed.getD p false=true) (pu:Bool):
  ∀ (fuel:Nat) (listed:Array Bool) (pend:List (Nat×Value)) (a:Act) (w:World),
   (∀j oj,ops[j]? =some oj→j≠i→listed.getD j true=false→(∀d,oi.dst=some d→oj.dst≠some d)∧((∀e∈oj.after,Region.binds .any e=true→e.on≠i)→(∀d,oj.dst=some d→d ∉ oi.looksAt ops)∧ ∀d,oi.dst=some d→d ∉ oj.looksAt ops))→
   (∀d,oi.dst=some d→d ∉ oi.looksAt ops)→
   i∈Region.ready .any ops listed→Closed U listed→JC ops listed pend→TM P ops T listed pend a w→YieldsAt P ops oi v a w→(pu=true→Yields P ops oi v a)→
   jF P ops Q T fuel (listed.setIfInBounds i true) (QY pu (i,v) pend) (a.put oi.dst v) w→jF P ops Q T (fuel+1) listed pend a w:=by
 intro fuel
 have hsub: ∀ (pend:List (Nat×Value)),∀p∈pend,p∈(QY pu (i,v) pend):=by
  intro pend p hp
  cases pu
  · exact List.mem_cons_of_mem _ hp
  · exact hp
 have self: ∀ (listed:Array Bool) (pend:List (Nat×Value)) (a:Act) (w:World),i∈Region.ready .any ops listed→JC ops listed pend→TM P ops T listed pend a w→TM P ops T (listed.setIfInBounds i true) pend (a.put oi.dst v) w:=by
  intro listed pend a w hr hB hO p hp hal o ho
  have hal':alive T listed p.1:=fun k l hk hl=>hal k l hk (getD_set_true hl)
  have:=hO p hp hal' o ho
  exact(YieldsAt.put (fun cs b=>hsel _ _ cs b ho) fun d hd=>hB p hp o ho i oi hi (mem_ready.1 hr).1 d hd).2 this
 induction fuel with
 | zero=>
   intro listed pend a w _ _ hr _ hB hO hy _ H
   refine⟨fun h=>(by rw[h]at hr;cases hr),fun j hj=> ?_⟩
   by_cases hji:j=i
   · subst hji;exact hy.wpOp hi ⟨self listed pend a w hr hB hO,jF.less (hsub pend) H⟩
   · have:=ready_mono hj hji
     rw[H.1]at this
     cases this
 | succ fuel ih=>
   intro listed pend a w hfree hself hr hC hB hO hy hpu H
   refine⟨fun h=>(by rw[h]at hr;cases hr),fun j hj=> ?_⟩
   by_cases hji:j=i
   · subst hji;exact hy.wpOp hi ⟨self listed pend a w hr hB hO,jF.less (hsub pend) H⟩
   · have h1:=H.2 j (ready_mono hj hji)
     obtain⟨hjun,oj,hoj,hall⟩:=mem_ready.1 hj
     have acU:=(mem_ready.1 hr).1
     have TN:listed.getD i false=false:=by
      rcases Nat.lt_or_ge i listed.size with h'|h'
      · simp[h']at acU⊢;exact acU
      · simp[Array.getElem?_eq_none h']
     have hnot: ∀e∈oj.after,Region.binds .any e=true→e.on≠i:=fun e he hb heq=>by
      have h1:=hall e he hb
      rw[heq,TN]at h1
      cases h1
     obtain⟨f2,f3⟩:=hfree j oj hoj hji hjun
     obtain⟨f1,hb3⟩:=f3 hnot
     have afb:i<ops.size:=(Array.getElem?_eq_some_iff.1 hi).1
     have tN:Closed U (listed.setIfInBounds j true):=by
      intro k l hk hl p hp
      by_cases hkj:k=j
      · subst hkj
        exact getD_set_true (hTr k l listed hk hC hj p hp)
      · rw[getD_set_ne false (Ne.symm hkj)]at hl
        exact getD_set_true (hC k l hk hl p hp)
     have aaO:JC ops (listed.setIfInBounds j true) pend:=fun p hp o ho k ok hk hun d hd=>by
      refine hB p hp o ho k ok hk ?_ d hd
      by_cases hkj:j=k
      · subst hkj;exact hjun
      · rw[getD_set_ne true hkj]at hun;exact hun
     --what is kept of i's own promise while j comes up
     have aeC: ∀ (a':Act) (u:Value),Yields P ops oi v a'→Yields P ops oi v (a'.put oj.dst u):=fun a' u hy=>hy.of_same (execOp_put oi (fun cs b=>hsel i oi cs b hi) a' oj.dst u f1) (wanted_put oi a' oj.dst u f1)
     have h2:=Vj hoj hb3 f2 (fun cs b=>hsel j oj cs b hoj) hQ h1
     have Yk: ∀p,alive T (listed.setIfInBounds j true) p→alive T ((listed.setIfInBounds i true).setIfInBounds j true) p:=by
      intro p hal k l hk hl
      by_cases hki:k=i
      · subst hki;exact(hT l hk).elim
      · refine hal k l hk ?_
        rw[Array.setIfInBounds_comm _ _ (Ne.symm hji),getD_set_ne false (Ne.symm hki)]at hl
        exact hl
     have aaP:alive T ((listed.setIfInBounds i true).setIfInBounds j true) i:=by
      refine Yk i fun k l hk hl hin=> ?_
      have h0:=tN k l (hTU _ hk) hl i hin
      rw[getD_set_ne false hji,TN]at h0
      cases h0
     have hfree': ∀k ok,ops[k]? =some ok→k≠i→(listed.setIfInBounds j true).getD k true=false→(∀d,oi.dst=some d→ok.dst≠some d)∧((∀e∈ok.after,Region.binds .any e=true→e.on≠i)→(∀d,ok.dst=some d→d ∉ oi.looksAt ops)∧ ∀d,oi.dst=some d→d ∉ ok.looksAt ops):=fun k ok hk hki hun=>by
      refine hfree k ok hk hki ?_
      by_cases hjk:j=k
      · subst hjk;exact hjun
      · rw[getD_set_ne true hjk]at hun;exact hun
     --j comes up:the state behind it
     have fin: ∀ (a':Act) (w':World),(pu=true→Yields P ops oi v a')→(TM P ops T ((listed.setIfInBounds i true).setIfInBounds j true) (QY pu (i,v) pend) (a'.put oi.dst v) w'∧jF P ops Q T fuel ((listed.setIfInBounds i true).setIfInBounds j true) (QY pu (i,v) pend) (a'.put oi.dst v) w')→
       TM P ops T (listed.setIfInBounds j true) pend a' w'∧jF P ops Q T (fuel+1) (listed.setIfInBounds j true) pend a' w':=by
      rintro a' w' wG ⟨k1,k2⟩
      have kO:TM P ops T (listed.setIfInBounds j true) pend a' w':=by
       intro p hp hal o ho
       have:=k1 p (hsub pend p hp) (Yk p.1 hal) o ho
       exact(YieldsAt.put (fun cs b=>hsel _ _ cs b ho) fun d hd=>hB p hp o ho i oi hi acU d hd).1 this
      refine⟨kO, ?_⟩
      have hyi:YieldsAt P ops oi v a' w':=by
       cases hp:pu with
       | true=>
         rcases wG hp with⟨q1,q2⟩|q
         · exact .inl ⟨q1,q2 w'⟩
         · exact .inr q
       | false=>
         rw[hp]at k1
         exact(YieldsAt.put (fun cs b=>hsel _ _ cs b hi) hself).1 (k1 (i,v) List.mem_cons_self aaP oi hi)
      refine ih (listed.setIfInBounds j true) pend a' w' hfree' hself (ready_mono hr (Ne.symm hji)) tN aaO kO hyi wG ?_
      rw[Array.setIfInBounds_comm _ _ hji]
      exact k2
     cases hp:pu with
     |false=>exact wpOp_mono (fun a' w' h3=>fin a' w' (fun e=>by rw[hp]at e;cases e) h3) h2
     | true=>
       have h2':=wpOp_put (v:=v) hoj (Oper.Yl hb3 f2 f1) (fun cs b=>hsel i oi cs b hi) (fun cs b=>hsel j oj cs b hoj) hQ (hpu hp) h1
       exact wpOp_mono (fun a' w' h3=>fin a' w' (fun _=>h3.1) h3.2) h2'
where
 Oper.Yl {x y:Oper} (h1: ∀d,x.dst=some d→d ∉ y.looksAt ops) (h2: ∀d,x.dst=some d→y.dst≠some d) (h3: ∀d,y.dst=some d→d ∉ x.looksAt ops):x.apart ops y=true:=by
  unfold Oper.apart
  rw[Bool.and_eq_true]
  constructor
  · cases hx:x.dst with
    |none=>rfl
    |some d=>simpa using⟨h1 d hx,h2 d hx⟩
  · cases hy:y.dst with
    |none=>rfl
    |some d=>simpa using h3 d hy
end
end
section
open Go.RowKit
def LK (p:Nat):List Edge→Bool
  |[]=>false
  |e::l=>(Region.binds .any e&&Nat.beq e.on p)||LK p l
def EO (U:List (Nat×List Nat)) (p:Nat):List Edge→Bool
  |[]=>false
  |e::l=>(Region.binds .any e&&U.any (fun x=>Nat.beq x.1 e.on&&lC p x.2))||EO U p l
def Ym (ops:List Oper) (U:List (Nat×List Nat)):Bool:=
 U.all fun x=>match ops[x.1]? with|some o=>x.2.all fun p=>LK p o.after.toList||EO U p o.after.toList|none=>false
def LM (ops:List Oper) (done:List Nat) (i:Nat) (oi:Oper):Nat→List Oper→Bool
  |_,[]=>true
  |k,o::r=>(Nat.beq k i||lC k done||((match oi.dst with|some d=> !(TJ o d)|none=>true)&&(Gn i o.after.toList||((match o.dst with|some d=> !(wB ops oi d)|none=>true)&&(match oi.dst with|some d=> !(wB ops o d)|none=>true)))))&&LM ops done i oi (k+1) r
def zB (ops:List Oper) (done:List Nat) (i:Nat) (oi:Oper):Nat→List Oper→Bool
  |_,[]=>true
  |k,o::r=>(Nat.beq k i||lC k done||(match o.dst with|some d=> !(wB ops oi d)|none=>true))&&zB ops done i oi (k+1) r
def Yn:Op→Bool
  | .move _=>true
  | .assign _=>true
  | .pick .. =>true
  | .extract .. =>true
  | .fieldAddr .. =>true
  | .indexAddr .. =>true
  | .unOp .. =>true
  | .build .. =>true
  |_=>false
def CV:List (Nat×Option (List Nat))→List (Nat×List Nat)
  |[]=>[]
  |(i,some l)::r=>(i,l)::CV r
  |(_,none)::r=>CV r
def Yo (i:Nat):List Nat→Bool
  |[k]=>Nat.beq k i
  |_=>false
def XL:List Nat→Bool
  |[]=>true
  |_=>false
def QZ (ops:List Oper) (T:List (Nat×List Nat)):List (Nat×Option (List Nat))→List Nat→Bool
  |[],done=>XL (gK ops.length done 0 ops)
  | (i,none)::r,done=>(match ops[i]? with
    |some o=>lC i (gK ops.length done 0 ops)&&LM ops done i o 0 ops&&(Yn o.op||zB ops done i o 0 ops)&&(match o.dst with|some d=> !(wB ops o d)|none=>false)&& !(T.any fun x=>Nat.beq x.1 i)
    |none=>false)&&QZ ops T r (i::done)
  |(i,some _)::r,done=>Yo i (gK ops.length done 0 ops)&&QZ ops T r (i::done)
def aaQ:List (Nat×List Nat)→List (Nat×List Nat)→Bool
  |[],_=>true
  |x::T,U=>U.any (fun y=>Nat.beq x.1 y.1&&(x.2==y.2))&&aaQ T U
def CW (ops:List Oper) (sc:List (Nat×Option (List Nat))) (U:List (Nat×List Nat)):Bool:=
 Ym ops U&&aaQ (CV sc) U&&QZ ops (CV sc) sc []
def acV:AV→Bool
  | .v _=>true
  | .own _=>true
  | .dP .. =>true
  | .box .. =>true
  | .cf .. =>true
  |_=>false
def acW:AV→Bool
  | .agg cs=>cs.all acV
  |x=>acV x
structure Still (A B:AV) (K:Prop):Prop where
 mk::
 eq:A=B
 det:acW A=true
 k:K
def I7 (P:Program) (L:Lay) (W:Walk) (N:Nat) (ops:List Oper):List Nat→AS→Prop→Prop
  |[],_,K=>K
  | p ::r,st,K=>match ops[p]? with
    | some o=>(match o.dst with
      |some d=>QD P L W d st o.op (fun y _=>Still y (st.tmps d) (I7 P L W N ops r st K))
      |none=>False)
    |none=>False
def outOf (l:List Nat):List Nat→List Nat
  |[]=>[]
  |p::r=>bif lC p l then outOf l r else p::outOf l r
inductive Gq (P:Program) (d:Nat) (f:FuncId) (dn:List AV) (st:AS) (K:AV→AS→Prop):Prop where
  |plain (bs:List AV) (r:AV) (hs:aH P f bs r []) (hsub:En st.heap dn bs) (hr:ok2 none r=true):K r (bif mX r then st else tC st dn)→Gq P d f dn st K
  |fresh (bs:List AV) (r:AV) (e:TypeId) (s n:Nat) (sc:Bool) (g:Nat→List AV) (hs:aH P f bs r [(d,.row e s n sc g)]) (hsub:En st.heap dn bs) (hr:ok2 (some d) r=true):
     K r ((bif mX r&&sc then st else tC st dn).obj d d (.row e s n sc g))→Gq P d f dn st K
def Q5 (L:Lay) (st:AS):Op→Bool
  | .load t p=>match aZ L t with
    | some i=>(match st.ev p with
      | .box id k=>(match aP id st.heap with
        |some (.box _ cs)=>Nat.ble (k+(bif i.isAgg then i.size else 1)) cs.length
        |_=>false)
      |_=>false)
    |none=>false
  |_=>false
def Oq (L:Lay) (st:AS) (ops:List Oper) (p:Nat):Bool:=match ops[p]? with|some o=>Q5 L st o.op|none=>false
def uG (L:Lay) (st:AS) (ops:List Oper):List Nat→List Nat
  |[]=>[]
  |p::r=>bif Oq L st ops p then uG L st ops r else p::uG L st ops r
def ace (P:Program) (L:Lay) (W:Walk) (N:Nat) (ops:List Oper) (o:Oper) (pl:List Nat) (st:AS) (K:AS→Prop):Prop:=
 match wC N st ops o with
 | some true=>(match o.op with
   | .call c=>(match c.callee with
     | .value x=>(match(st.ev x).Xt with
       | .fn g caps=>nameOf st (fun d=>Gq P d g (c.args.toList.map st.ev++caps) st (fun x st'=>pG N st' o.dst x (fun st2=>I7 P L W N ops (uG L st ops pl) st2 (K st2))))
       |_=>False)
     |_=>False)
   |_=>False)
 |some false=>pG N st o.dst (.v undef) (fun st2=>I7 P L W N ops (uG L st ops pl) st2 (K st2))
 |none=>False
def uH (P:Program) (L:Lay) (W:Walk) (N:Nat) (ops:List Oper) (kp:Bool) (Q:AS→Prop):List (Nat×Option (List Nat))→List Nat→AS→Prop
  |[],_,st=>Q st
  | (i, none)::r,pend,st=>match ops[i]? with
    | some o=>(match wC N st ops o with
      | some true=>(match wz L st o.op with
        |true=>zl P L W o.dst st o.op (fun x st'=>pG N st' o.dst x (uH P L W N ops kp Q r pend))
        | false=>(match lH o.op with
          |true=>zl P L W o.dst st o.op (fun x st'=>pG N st' o.dst x (uH P L W N ops kp Q r (i::pend)))
          |false=>False))
      |some false=>pG N st o.dst (.v undef) (uH P L W N ops kp Q r pend)
      |none=>False)
    |none=>False
  | (i,some l)::r,pend,st=>match ops[i]? with
    | some o=>(match kp with
      |true=>ace P L W N ops o (outOf l pend) st (uH P L W N ops kp Q r (outOf l pend))
      |false=>o8 P L W N ops o st (fun st'=>I7 P L W N ops (outOf l pend) st' (uH P L W N ops kp Q r (outOf l pend) st')))
    |none=>False
section
variable {P:Program} {L:Lay} {g:Base} {N:Nat} {bs:List (Array Value)} {ρ:Nat→Value} {a:Act} {w:World} {st:AS}
theorem uI {X:CX} {y:AV} {u v:Value} (h:acV y=true) (hu:C0 X y u) (hv:C0 X y v):u=v:=by
 cases y with
 |v x=>exact Eq.trans (show u=x from hu) (show v=x from hv).symm
 |own id=>exact Eq.trans (show u=eP (X.ρ id)from hu) (show v=eP (X.ρ id)from hv).symm
 | dP id s i k=>
   obtain⟨b,n,c,h1,rfl⟩:=hu
   obtain⟨b',n',c',h2,rfl⟩:=hv
   rw[h1]at h2
   cases h2
   rfl
 |jq id s i k=>cases h
 | box id off=>
   obtain⟨b,h1,rfl⟩:=hu
   obtain⟨b',h2,rfl⟩:=hv
   rw[h1]at h2
   cases h2
   rfl
 | cf gg id off=>
   obtain⟨b,h1,rfl⟩:=hu
   obtain⟨b',h2,rfl⟩:=hv
   rw[h1]at h2
   cases h2
   rfl
 |_=>cases h
theorem aaR {X:CX} {y:AV} {u v:Value} (h:acW y=true) (hu:C2 X y u) (hv:C2 X y v):u=v:=by
 cases y with
 | agg cs=>
   obtain⟨us,rfl,h1⟩:=hu
   obtain⟨vs,rfl,h2⟩:=hv
   have:us=vs:=by
    apply List.ext_getElem?
    intro i
    by_cases hi:i<cs.length
    · have hx:cs[i]? =some cs[i]:=List.getElem?_eq_getElem hi
      obtain⟨u,e1,k1⟩:=h1.get hx
      obtain⟨v,e2,k2⟩:=h2.get hx
      rw[e1,e2,uI (List.all_eq_true.1 h _ (List.getElem_mem hi)) k1 k2]
    · rw[List.getElem?_eq_none (by rw[←h1.1];omega),List.getElem?_eq_none (by rw[←h2.1];omega)]
   rw[this]
 |v x=>exact uI (X:=X) (y:= .v x) h hu hv
 |own id=>exact uI (X:=X) (y:= .own id) h hu hv
 |dP id s i k=>exact uI (X:=X) (y:= .dP id s i k) h hu hv
 |jq id s i k=>exact uI (X:=X) (y:= .jq id s i k) h hu hv
 |box id off=>exact uI (X:=X) (y:= .box id off) h hu hv
 |cf gg id off=>exact uI (X:=X) (y:= .cf gg id off) h hu hv
 |_=>cases h
theorem JD {p:Nat}: ∀ {l:List Edge},LK p l=true→ ∃e∈l,Region.binds .any e=true∧e.on=p
  |[],h=>by cases h
  | e ::l,h=>by
    simp only[LK,Bool.or_eq_true,Bool.and_eq_true]at h
    rcases h with⟨h1,h2⟩|h
    · exact⟨e,List.mem_cons_self,h1,Nat.eq_of_beq_eq_true h2⟩
    · obtain⟨e',h1,h2⟩:=JD h
      exact⟨e',List.mem_cons_of_mem _ h1,h2⟩
theorem EP {p:Nat}: ∀ {l:List Nat},lC p l=true↔p∈l
  |[]=>by simp[lC]
  | q::l=>by
    simp only[lC,Bool.or_eq_true,List.mem_cons,EP (l:=l)]
    refine or_congr ⟨fun h=>(Nat.eq_of_beq_eq_true h).symm,fun h=>by rw[h];simp⟩ Iff.rfl
theorem Gs {U:List (Nat×List Nat)} {p:Nat}: ∀ {l:List Edge},EO U p l=true→ ∃e∈l,Region.binds .any e=true∧ ∃x∈U,x.1=e.on∧p∈x.2
  |[],h=>by cases h
  | e ::l,h=>by
    simp only[EO,Bool.or_eq_true,Bool.and_eq_true,List.any_eq_true]at h
    rcases h with⟨h1,x,hx,h2,h3⟩|h
    · exact⟨e,List.mem_cons_self,h1,x,hx,Nat.eq_of_beq_eq_true h2,EP.1 h3⟩
    · obtain⟨e',h1,h2⟩:=Gs h
      exact⟨e',List.mem_cons_of_mem _ h1,h2⟩
theorem Gt {ops:List Oper} {U:List (Nat×List Nat)} (h:Ym ops U=true) (k:Nat) (l:List Nat) (listed:Array Bool) (hk:(k,l)∈U) (hC:Closed U listed) (hr:k∈Region.ready .any ops.toArray listed): ∀p∈l,listed.getD p false=true:=by
 intro p hp
 have:=List.all_eq_true.1 h _ hk
 dsimp only at this
 obtain⟨_,o,ho,hall⟩:=mem_ready.1 hr
 have ho:ops[k]? =some o:=by simpa using ho
 rw[ho]at this
 dsimp only at this
 have:=List.all_eq_true.1 this p hp
 rw[Bool.or_eq_true]at this
 rcases this with h1|h1
 · obtain⟨e,he,hb,rfl⟩:=JD h1
   exact hall e (by simpa using he) hb
 · obtain⟨e,he,hb,⟨k',l'⟩,hx,e1,h3⟩:=Gs h1
   have h2:=hall e (by simpa using he) hb
   dsimp only at e1 h3
   rw[←e1]at h2
   exact hC k' l' hx h2 p h3
theorem aaS {T U:List (Nat×List Nat)} (h:aaQ T U=true): ∀x∈T,x∈U:=by
 induction T with
 |nil=>intro x hx;cases hx
 | cons y T ih=>
   simp only[aaQ,Bool.and_eq_true,List.any_eq_true]at h
   obtain⟨⟨z,hz,h1,h2⟩,h3⟩:=h
   intro x hx
   rcases List.mem_cons.1 hx with rfl|hx
   · have e1:=Nat.eq_of_beq_eq_true h1
     have e2:=eq_of_beq h2
     have:x=z:=Prod.ext e1 e2
     rw[this];exact hz
   · exact ih h3 x hx
theorem JE {ops:List Oper} {done:List Nat} {i:Nat} {oi:Oper}: ∀ {l:List Oper} {k:Nat},LM ops done i oi k l=true→ ∀ (j:Nat) (oj:Oper),l[j]? =some oj→k+j≠i→lC (k+j) done=false→
  (∀d,oi.dst=some d→oj.dst≠some d)∧((∀e∈oj.after,Region.binds .any e=true→e.on≠i)→(∀d,oj.dst=some d→d ∉ oi.looksAt ops.toArray)∧ ∀d,oi.dst=some d→d ∉ oj.looksAt ops.toArray)
  |[],k,_,j,oj,hj=>by simp at hj
  | o :: l, k,h,j,oj,hj=>by
    simp only[LM,Bool.and_eq_true,Bool.or_eq_true]at h
    obtain⟨h1,h2⟩:=h
    intro hne hm
    cases j with
    | zero=>
      simp only[List.getElem?_cons_zero,Option.some.injEq]at hj
      subst hj
      rcases h1 with(h1|h1)|⟨h1,h3⟩
      · exact absurd (Nat.eq_of_beq_eq_true h1) (by simpa using hne)
      · rw[Nat.add_zero]at hm;rw[hm]at h1;cases h1
      · refine⟨fun d hd=> ?_,fun hw=> ?_⟩
        · rw[hd]at h1
          simp only[Bool.not_eq_true']at h1
          intro e
          unfold TJ at h1
          rw[e]at h1
          simp at h1
        · rcases h3 with h4|⟨h3,h4⟩
          · obtain⟨e,he,hb,hi⟩:=CS h4
            exact absurd hi (hw e (by simpa using he) hb)
          · refine⟨fun d hd=> ?_,fun d hd=> ?_⟩
            · rw[hd]at h3
              simp only[Bool.not_eq_true']at h3
              have:=qj h3
              simpa using this
            · rw[hd]at h4
              simp only[Bool.not_eq_true']at h4
              have:=qj h4
              simpa using this
    | succ j=>
      exact JE h2 j oj (by simpa using hj) (by omega) (by rw[show k+1+j=k+(j+1) by omega];exact hm)
theorem JF {ops:List Oper} {done:List Nat} {i:Nat} {oi:Oper}: ∀ {l:List Oper} {k:Nat},zB ops done i oi k l=true→ ∀ (j:Nat) (oj:Oper),l[j]? =some oj→k+j≠i→lC (k+j) done=false→ ∀d,oj.dst=some d→d ∉ oi.looksAt ops.toArray
  |[],k,_,j,oj,hj=>by simp at hj
  | o ::l,k,h,j,oj,hj=>by
    simp only[zB,Bool.and_eq_true,Bool.or_eq_true]at h
    obtain⟨h1,h2⟩:=h
    intro hne hm d hd
    cases j with
    | zero=>
      simp only[List.getElem?_cons_zero,Option.some.injEq]at hj
      subst hj
      rcases h1 with(h1|h1)|h1
      · exact absurd (Nat.eq_of_beq_eq_true h1) (by simpa using hne)
      · rw[Nat.add_zero]at hm;rw[hm]at h1;cases h1
      · rw[hd]at h1
        simp only[Bool.not_eq_true']at h1
        have:=qj h1
        simpa using this
    | succ j=>
      exact JF h2 j oj (by simpa using hj) (by omega) (by rw[show k+1+j=k+(j+1) by omega];exact hm) d hd
theorem Ot {op:Op} (h:Yn op=true) (L:Lay) (st:AS):wz L st op=true:=by
 cases op<;>first|rfl|cases h
theorem Yp {i:Nat} {l:List Nat} (h:Yo i l=true):l=[i]:=by
 unfold Yo at h
 split at h
 · rw[Nat.eq_of_beq_eq_true h]
 · cases h
theorem zC: ∀ {sc:List (Nat×Option (List Nat))} {k:Nat} {l:List Nat},(k,some l)∈sc→(k,l)∈CV sc
  |[],_,_,h=>by cases h
  | (i,none)::r,k,l,h=>by
    rcases List.mem_cons.1 h with h|h
    · cases h
    · show(k,l)∈CV r
      exact zC h
  | (i,some m)::r,k,l,h=>by
    rcases List.mem_cons.1 h with h|h
    · cases h;exact List.mem_cons_self
    · exact List.mem_cons_of_mem _ (zC h)
theorem CY {l:List Nat} {p:Nat}: ∀ {q:List Nat},p∈q→p ∉ l→p∈outOf l q
  |[],h,_=>by cases h
  | x ::q,h,hn=>by
    simp only[outOf]
    cases hb:lC x l with
    | true=>
      rcases List.mem_cons.1 h with rfl|h
      · exact absurd (EP.1 hb) hn
      · exact CY h hn
    | false=>
      rcases List.mem_cons.1 h with rfl|h
      · exact List.mem_cons_self
      · exact List.mem_cons_of_mem _ (CY h hn)
theorem x9 {l:List Nat} {p:Nat}: ∀ {q:List Nat},p∈outOf l q→p∈q
  |[],h=>h
  | x ::q,h=>by
    simp only[outOf]at h
    cases hb:lC x l with
    |true=>rw[hb]at h;exact List.mem_cons_of_mem _ (x9 h)
    | false=>
      rw[hb]at h
      rcases List.mem_cons.1 h with rfl|h
      · exact List.mem_cons_self
      · exact List.mem_cons_of_mem _ (x9 h)
theorem TP (hL:bQ P L) {W:Walk} {ops:List Oper} {K:Prop} (R:Rel g N bs ρ a w st): ∀ {l:List Nat},(∀p∈l,∃o,ops[p]? =some o∧lH o.op=true)→I7 P L W N ops l st K→K∧ ∀p∈l,∃o d,ops[p]? =some o∧o.dst=some d∧(execOp a.eval o).run P w= .ok (.value (a.tmps.getD d undef)) w
  |[],_,h=>⟨h,fun p hp=>by cases hp⟩
  | p ::r,hq,h=>by
    simp only[I7]at h
    split at h
    · rename_i o ho
      obtain⟨o',ho',hqo⟩:=hq p List.mem_cons_self
      rw[ho]at ho'
      cases ho'
      split at h
      · rename_i d hd
        obtain⟨y,u,hs,hc,hrun⟩:=xW hL R (o:=o) hqo h
        obtain⟨e,aeD,hr⟩:=hs
        obtain⟨hK,hall⟩:=TP hL R (fun p hp=>hq p (List.mem_cons_of_mem _ hp)) hr
        refine⟨hK,fun q hq'=> ?_⟩
        rcases List.mem_cons.1 hq' with rfl|hq'
        · refine⟨o,d,ho,hd, ?_⟩
          have ht:=R.tmps d
          rw[←e]at ht
          rw[hrun,aaR aeD hc ht]
        · exact hall q hq'
      · exact h.elim
    · exact h.elim
theorem D5 {a:Act} {dst:Option Tmp} {u:Value} {d:Nat} (h: ∀t,dst=some t→t≠d):(a.put dst u).tmps.getD d undef=a.tmps.getD d undef:=by
 cases dst with
 |none=>rfl
 | some t=>
   have:=h t rfl
   simp[Act.put,Array.getElem?_setIfInBounds_ne this]
def Slots (ops:List Oper) (done:List Nat) (pend:List (Nat×Value)) (a:Act):Prop:=
 ∀p∈pend,∃o d,ops[p.1]? =some o∧lH o.op=true∧o.dst=some d∧a.tmps.getD d undef=p.2∧ ∀k ok,ops[k]? =some ok→lC k done=false→ok.dst≠some d
theorem aaT (hL:bQ P L) {t:TypeId} {i:TI} (hi:aZ L t=some i) {k n:Nat} (hn:k+(bif i.isAgg then i.size else 1)≤n) {b:Nat} {us:List Value} (hl:us.length=n):
  ∃u,∀W:World,(∀ (j:Nat) (y:Value),us[j]? =some y→W.cell? ⟨b,0+j,none⟩=some y)→(loadVar t ⟨b,0+k,none⟩).run P W= .ok u W:=by
 cases hg:i.isAgg with
 | true=>
   rw[hg]at hn
   simp only[cond_true]at hn
   refine⟨.agg ((us.drop k).take i.size).toArray,fun W hc=> ?_⟩
   have hlen:((us.drop k).take i.size).length=i.size:=by rw[List.length_take,List.length_drop];omega
   have hl:=run_loadCells_list (P:=P) W ⟨b,0+k,none⟩ ((us.drop k).take i.size) (fun j v hv=>by
    rw[Addr.add_lit]
    rw[List.getElem?_take]at hv
    split at hv
    · rw[List.getElem?_drop]at hv
      rw[Nat.add_assoc]
      exact hc _ _ hv
    · cases hv)
   rw[hlen]at hl
   simp only[loadVar,Sem.run_bind,og hL hi,hg,Result.andThen_ok,if_true,iw hL hi,hl,Sem.run_pure]
 | false=>
   rw[hg]at hn
   simp only[cond_false]at hn
   refine⟨us[k]'(by omega),fun W hc=> ?_⟩
   have:=hc k _ (List.getElem?_eq_getElem (show k<us.length by omega))
   rw[Nat.zero_add]at this⊢
   simp[loadVar,Sem.run_bind,og hL hi,hg,this]
theorem Vk (hL:bQ P L) (R:Rel g N bs ρ a w st) {o:Oper} (h:Q5 L st o.op=true): ∃u,∀W:World,Below w.heap.size w W→(execOp a.eval o).run P W= .ok (.value u) W:=by
 unfold Q5 at h
 split at h
 · rename_i t p e
   split at h
   · rename_i i hi
     split at h
     · rename_i id k ep
       split at h
       · rename_i t' cs hf
         have hn:=Nat.le_of_ble_eq_true h
         have hp:=R.ev p
         rw[ep]at hp
         obtain⟨b,hb,hpv⟩:=C2.kN hp
         obtain⟨b',us,e',hh,ha⟩:=R.objs _ (ay hf)
         have hb:eP (ρ id)=_:=hb
         have e':ρ id=_:=e'
         rw[e']at hb
         cases hb
         have hh:w.heap[b]? =_:=hh
         have hlt:b<w.heap.size:=(Array.getElem?_eq_some_iff.1 hh).1
         obtain⟨u,hu⟩:=aaT (P:=P) hL hi hn (b:=b) (us:=us) ha.1.symm
         refine⟨u,fun W hB=> ?_⟩
         have hW:W.heap[b]? =_:=(hB.block b hlt).trans hh
         have hr:=hu W (fun j y hy=>by
          rw[Nat.zero_add,cell_of_row _ _ _ _ _ _ hW]
          simpa using hy)
         rw[Nat.zero_add]at hr
         have:(Instr.loadAt t (a.eval p)).run P W= .ok u W:=by
          rw[hpv]
          simpa[Instr.loadAt,Instr.sureAddr]using hr
         simp[execOp,e,this]
       · cases h
     · cases h
   · cases h
 · cases h
theorem zD {L:Lay} {ops:List Oper} {p:Nat}: ∀ {l:List Nat},p∈l→Oq L st ops p=true∨p∈uG L st ops l
  |[],h=>by cases h
  | q ::l,h=>by
    unfold uG
    cases hb:Oq L st ops q with
    | true=>
      rcases List.mem_cons.1 h with rfl|h
      · exact .inl hb
      · exact zD h
    | false=>
      rcases List.mem_cons.1 h with rfl|h
      · exact .inr List.mem_cons_self
      · exact(zD h).imp id fun h=>List.mem_cons_of_mem _ h
theorem zF {L:Lay} {ops:List Oper} {p:Nat}: ∀ {l:List Nat},p∈uG L st ops l→p∈l
  |[],h=>h
  | q ::l,h=>by
    unfold uG at h
    cases hb:Oq L st ops q with
    |true=>rw[hb]at h;exact List.mem_cons_of_mem _ (zF h)
    | false=>
      rw[hb]at h
      rcases List.mem_cons.1 h with rfl|h
      · exact List.mem_cons_self
      · exact List.mem_cons_of_mem _ (zF h)
theorem Q7 (R:Rel g N bs ρ a w st) {f:FuncId} {dn:List AV} {args:List Value} (hargs:aI (C2 (aC g w ρ st.heap)) dn args) {K:AV→AS→Prop} {d:Nat} (h:Gq P d f dn st K):
  Enters P f∧Calls P f args.toArray w fun e w'=> ∃u x st' ρ',e= .returned u∧K x st'∧Rel g N bs ρ' a w' st'∧C2 (aC g w' ρ' st'.heap) x u∧Below w.heap.size w w':=by
 have mid: ∀ (frozen:Bool),∃k:Nat→Prop,∃st1,st1=(bif frozen then st else tC st dn)∧Rel g N bs ρ a w st1∧(∀b,k b→b<w.heap.size)∧(∀b,aK g w ρ st.heap b→k b)∧(∀x∈dn,Reads st ρ w k x∧ ∀cs,x= .agg cs→ ∀c∈cs,Reads st ρ w k c)∧(frozen=false→ ∀b,k b→aK g w ρ st1.heap b):=by
  intro frozen
  cases frozen with
  | true=>
    refine⟨fun b=>b<w.heap.size,st,rfl,R,fun b h=>h,fun b h=>h.1,fun x hx=> ?_,fun h=>by cases h⟩
    have rd: ∀y:AV,Reads st ρ w (fun b=>b<w.heap.size) y:=fun y id e s n sc f hy hf=>
     lq R hf (fun b h=>h.1) (fun b hb=>(R.gI (aQ.2 ⟨_,ay hf,hb⟩)).1)
    exact⟨rd x,fun cs e c hc=>rd c⟩
  | false=>
    obtain⟨R1,h1,k1⟩:=EK dn R
    exact⟨aK g w ρ (tC st dn).heap,tC st dn,rfl,R1,fun b h=>h.1,h1.keep,k1,fun _ b h=>h⟩
 cases h with
 | plain bb r hs hsub hr hK=>
   obtain⟨k,st1,e1,R1,hk1,hk2,hk3,hk4⟩:=mid (mX r)
   rw[←e1]at hK
   refine⟨hs.1,(hs.2 w k args hk1 (EJ hk2 hsub hk3 hargs)).mono ?_⟩
   rintro e w' ⟨u,IY,rfl,hb,hc,_,_,_⟩
   refine⟨u,r,st1,ρ,rfl,hK,R1.world hb, ?_,hb⟩
   refine AU (X:=aC (base0 w k) w' IY []) (d:=none) hr ?_ rfl (fun i h=>by cases h) hc
   cases hq:mX r with
   |true=>exact .inl rfl
   | false=>
     refine .inr fun b hbk=> ?_
     have hkb:b<w.heap.size→aK g w ρ st1.heap b:=fun h=>hk4 hq b ((hbk.2.1 h).elim id False.elim)
     refine⟨hbk.1,fun hlt=>(hkb (by have:=R.below.size;omega)).2.1 hlt,fun hin=> ?_⟩
     have:=(R1.gI hin).1
     exact(hkb this).2.2 hin
 | fresh bb r e s n sc f' hs hsub hr hK=>
   obtain⟨k,st1,e1,R1,hk1,hk2,hk3,hk4⟩:=mid (mX r&&sc)
   rw[←e1]at hK
   refine⟨hs.1,(hs.2 w k args hk1 (EJ hk2 hsub hk3 hargs)).mono ?_⟩
   rintro e0 w' ⟨u,IY,rfl,hb,hc,ho,hnd,hnew⟩
   obtain⟨us,hown,hs0,hfl,hsc,ha⟩:=ho _ (List.mem_singleton.2 rfl)
   have hown:w'.ownsRow 0 e s (IY d) n us:=hown
   have hBw:=R.below.size
   have hkeep:(mX r&&sc)=false→ ∀b,aK (base0 w k) w' IY [(d,.row e s n sc f')] b→aK g w' (dD ρ d (IY d)) (st1.obj d d (.row e s n sc f')).heap b:=by
    intro hq b hbk
    have hkb:b<w.heap.size→aK g w ρ st1.heap b:=fun h=>hk4 hq b ((hbk.2.1 h).elim id False.elim)
    refine⟨hbk.1,fun hlt=>(hkb (by omega)).2.1 hlt,fun hin=> ?_⟩
    have hbl:ah (dD ρ d (IY d)) (st1.obj d d (.row e s n sc f')).heap=blks (IY d)++ah ρ (gone d d st1.heap):=by
     show ah _ (_::_)=_
     rw[aX,vM,mW]
     · simp[dD]
     · intro p hp
       simp only[nX,List.mem_map]at hp
       obtain⟨q,hq,rfl⟩:=hp
       exact(tq.1 hq).2.1
    rw[hbl,List.mem_append]at hin
    rcases hin with h1|h1
    · exact hbk.2.2 (by rw[aX];exact List.mem_append_left _ h1)
    · have hin':=gY h1
      exact(hkb (R1.gI hin').1).2.2 hin'
   have hblk: ∀b∈blks (IY d),w.heap.size≤b:=fun b hb'=>hnew b (aQ.2 ⟨_,List.mem_singleton.2 rfl,hb'⟩)
   have R2:Rel g N bs (dD ρ d (IY d)) a w' (st1.obj d d (.row e s n sc f')):=by
    refine R1.obj d d (R.below.then hb hBw) hb.size (fun b hlt _=>hb.block b hlt) (fun b hb'=> .inl (hblk b hb')) (fun hE=> ?_) (nY hown)
    refine⟨us,by simpa[aC,dD]using hown,hs0,hfl,hsc, ?_⟩
    cases hq:(mX r&&sc)with
    | true=>
      simp only[Bool.and_eq_true]at hq
      refine⟨ha.1,fun i x u hx hu=> ?_⟩
      obtain⟨y,rfl⟩:=hsc hq.2 x (List.mem_of_getElem? hx)
      have:=ha.2 i _ u hx hu
      cases this with
      |v _ h1=>exact .v _ h1
    |false=>exact ha.imp fun _ _=>PC.mono (hkeep hq) fun _ _=>rfl
   refine⟨u,r,_,_,rfl,hK,R2, ?_,hb⟩
   refine AU (X:=aC (base0 w k) w' IY [(d,.row e s n sc f')]) (d:=some d) hr ?_ rfl (fun i h=>by cases h;simp[aC,dD]) hc
   cases hq:(mX r&&sc)with
   |true=>simp only[Bool.and_eq_true]at hq;exact .inl hq.1
   |false=>exact .inr (hkeep hq)
theorem Vl (R:Rel g N bs ρ a w st) {o:Oper} {c:Call} (e:o.op= .call c) {x:Operand} (ec:c.callee= .value x) {gg:FuncId} {caps:List AV} (ex:(st.ev x).Xt= .fn gg caps) {d:Nat} {K:AV→AS→Prop} {next:Act→World→Prop} {Q:Exit→Act→World→Prop}
  (h:Gq P d gg (c.args.toList.map st.ev++caps) st K) (hk: ∀x st' u ρ' w',K x st'→Rel g N bs ρ' a w' st'→C2 (aC g w' ρ' st'.heap) x u→Below w.heap.size w w'→next (a.put o.dst u) w'):o.wp P a w next Q:=by
 have hx:=Ag (R.ev x)
 rw[ex]at hx
 obtain⟨us,hv,ha⟩:=C2.CO hx
 have hargs:=(xU R c.args.toList).app (NZ ha)
 obtain⟨hent,hcall⟩:=Q7 R hargs h
 have hrun:(execOp a.eval o).run P w= .ok (.enter gg (c.args.toList.map a.eval++us).toArray) w:=by
  have hcf:=pX hent (c.args.toList.map a.eval++us).toArray w
  have eq:(c.args.toList.map a.eval++us).toArray=(#[]++c.args.map a.eval)++us.toArray:=by
   apply Array.ext';simp
  rw[eq]at hcf⊢
  simp only[execOp,e,resolve,ec,Deferred.ofValue,hv,Sem.run_bind,Sem.run_pure,Result.andThen_ok,invoke]
  exact hcf
 unfold Oper.wp
 rw[hrun,Oper.upon_enter]
 refine hcall.mono ?_
 rintro e' w' ⟨u,y,st',ρ',rfl,h1,h2,h3,h4⟩
 exact hk _ _ _ _ _ h1 h2 h3 h4
theorem Gu (hL:bQ P L) {W:Walk} (hW:IZ P W) {ops:List Oper} (hs:Region.noSelect ops.toArray=true) {kp:Bool} {Q:AS→Prop} {E:Exit→Act→World→Prop} (hE: ∀e a w,e≠ .normal→ ¬E e a w) (hQ: ∀ρ a w st,Rel g N bs ρ a w st→Q st→E .normal a w)
  {T U:List (Nat×List Nat)} (hTU: ∀x∈T,x∈U) (hU:Ym ops U=true):
  ∀ (sc:List (Nat×Option (List Nat))) {done:List Nat} {listed:Array Bool} {pend:List (Nat×Value)} {pl:List Nat} {ρ:Nat→Value} {a:Act} {w:World} {st:AS},
   (∀k l,(k,some l)∈sc→(k,l)∈T)→QZ ops T sc done=true→Yi ops.length done listed→Closed U listed→JC ops.toArray listed pend→Slots ops done pend a→TM P ops.toArray T listed pend a w→(∀p∈pend,alive T listed p.1→p.1∈pl)→(∀p∈pl,∃o,ops[p]? =some o∧lH o.op=true)→
   Rel g N bs ρ a w st→uH P L W N ops kp Q sc pl st→jF P ops.toArray E T sc.length listed pend a w
  | [],done,listed,pend,pl,ρ,a,w,st,_,Gv,hl,_,_,_,_,_,_,R,h=>by
    refine⟨?_,hQ _ _ _ _ R h⟩
    have e:gK ops.length done 0 ops=[]:=by
     simp only[QZ]at Gv
     cases hr:gK ops.length done 0 ops with
     |nil=>rfl
     |cons x l=>rw[hr]at Gv;cases Gv
    cases hr:Region.ready .any ops.toArray listed with
    |nil=>rfl
    | cons j r=>
      have:j∈gK ops.length done 0 ops:=(lD hl).1 (by rw[hr];exact List.mem_cons_self)
      rw[e]at this
      cases this
  | (i, none) ::r,done,listed,pend,pl,ρ,a,w,st,hTs,Gv,hl,hC,hB,hS,hO,hpl,hpq,R,h=>by
    have ih:= @Gu hL W hW ops hs kp Q E hE hQ T U hTU hU r
    simp only[QZ,Bool.and_eq_true]at Gv
    obtain⟨hi,hrest⟩:=Gv
    simp only[uH]at h
    split at hi
    · rename_i o ho
      rw[ho]at h
      dsimp only at h
      simp only[Bool.and_eq_true]at hi
      obtain⟨⟨⟨⟨hm,hf⟩,hbl⟩,hself⟩,hT⟩:=hi
      have hlt:i<ops.length:=(List.getElem?_eq_some_iff.1 ho).1
      have Xk:ops.toArray[i]? =some o:=by simpa using ho
      have hr:i∈Region.ready .any ops.toArray listed:=(lD hl).2 (EP.1 hm)
      have hsel:=Region.noSelect_spec hs
      have hT': ∀l,(i,l)∈T→False:=by
       intro l hx
       simp only[Bool.not_eq_true',List.any_eq_false]at hT
       have:=hT _ hx
       simp at this
      have Yq: ∀d,o.dst=some d→d ∉ o.looksAt ops.toArray:=by
       intro d hd
       rw[hd]at hself
       simp only[Bool.not_eq_true']at hself
       simpa using qj hself
      have hfree: ∀j oj,ops.toArray[j]? =some oj→j≠i→listed.getD j true=false→(∀d,o.dst=some d→oj.dst≠some d)∧((∀e∈oj.after,Region.binds .any e=true→e.on≠i)→(∀d,oj.dst=some d→d ∉ o.looksAt ops.toArray)∧ ∀d,o.dst=some d→d ∉ oj.looksAt ops.toArray):=by
       intro j oj h1 h2 h3
       have h1':ops[j]? =some oj:=by simpa using h1
       have hlt':j<ops.length:=(List.getElem?_eq_some_iff.1 h1').1
       exact JE hf j oj h1' (by omega) (by rw[Nat.zero_add,←hl.I5 hlt' true];exact h3)
      have hun:lC i done=false:=by
       rw[←hl.I5 hlt true]
       exact(mem_ready.1 hr).1
      have acX:zB ops done i o 0 ops=true→ ∀j oj,ops.toArray[j]? =some oj→j≠i→listed.getD j true=false→ ∀d,oj.dst=some d→d ∉ o.looksAt ops.toArray:=by
       intro hbl j oj h1 h2 h3
       have h1':ops[j]? =some oj:=by simpa using h1
       have hlt':j<ops.length:=(List.getElem?_eq_some_iff.1 h1').1
       exact JF hbl j oj h1' (by omega) (by rw[Nat.zero_add,←hl.I5 hlt' true];exact h3)
      have tN:Closed U (listed.setIfInBounds i true):=by
       intro k l hk hll p hp
       by_cases hki:k=i
       · subst hki
         exact getD_set_true (Gt hU k l listed hk hC hr p hp)
       · rw[getD_set_ne false (Ne.symm hki)]at hll
         exact getD_set_true (hC k l hk hll p hp)
      have hal: ∀p,alive T (listed.setIfInBounds i true) p→alive T listed p:=fun p hp k l hk hll=>hp k l hk (getD_set_true hll)
      have hal2: ∀p,alive T listed p→alive T (listed.setIfInBounds i true) p:=fun p hp k l hk hll=>by
       by_cases hki:k=i
       · subst hki;exact(hT' l hk).elim
       · rw[getD_set_ne false (Ne.symm hki)]at hll
         exact hp k l hk hll
      have unl: ∀k,(listed.setIfInBounds i true).getD k true=false→listed.getD k true=false:=by
       intro k hk
       by_cases hki:i=k
       · subst hki
         have hsz:i<listed.size:=by rw[hl.1];exact hlt
         simp[hsz]at hk
       · rw[getD_set_ne true hki]at hk;exact hk
      have adV: ∀k,lC k (i::done)=false→lC k done=false:=by
       intro k hk
       simp only[lC,Bool.or_eq_false_iff]at hk
       exact hk.2
      --the step:the value v,whether it needs nothing of the memory
      have step: ∀ (v:Value) (pu:Bool) (pl':List Nat) (ρ':Nat→Value) (st':AS),YieldsAt P ops.toArray o v a w→(pu=true→Yields P ops.toArray o v a)→(∀p∈pl,p∈pl')→(pu=false→i∈pl'∧lH o.op=true∧zB ops done i o 0 ops=true∧ ∃d,o.dst=some d∧d<N)→(∀p∈pl',∃o,ops[p]? =some o∧lH o.op=true)→Rel g N bs ρ' (a.put o.dst v) w st'→uH P L W N ops kp Q r pl' st'→jF P ops.toArray E T (r.length+1) listed pend a w:=by
       intro v pu pl' ρ' st' hy hpu hsub hin hq' R' h'
       refine LJ Xk hsel (fun c a w h=>absurd h (hE _ _ _ (by simp))) hT' hTU (fun k l listed hk hC hr=>Gt hU k l listed hk hC hr) pu r.length listed pend a w hfree Yq hr hC hB hO hy hpu ?_
       have hB':JC ops.toArray (listed.setIfInBounds i true) (QY pu (i,v) pend):=by
        intro p hp o' ho' k ok hk hku d hd
        have adW:=unl k hku
        have hki:k≠i:=by
         rintro rfl
         have hsz:k<listed.size:=by rw[hl.1];exact hlt
         simp[hsz]at hku
        have old:p∈pend→d ∉ o'.looksAt ops.toArray:=fun hp=>hB p hp o' ho' k ok hk adW d hd
        cases wG:pu with
        |true=>rw[wG]at hp;exact old hp
        | false=>
          rw[wG]at hp
          rcases List.mem_cons.1 hp with rfl|hp
          · dsimp only at ho'
            rw[Xk]at ho'
            cases ho'
            exact acX (hin wG).2.2.1 k ok hk hki adW d hd
          · exact old hp
       have hS':Slots ops (i::done) (QY pu (i,v) pend) (a.put o.dst v):=by
        intro p hp
        have old:p∈pend→ ∃o' d,ops[p.1]? =some o'∧lH o'.op=true∧o'.dst=some d∧(a.put o.dst v).tmps.getD d undef=p.2∧ ∀k ok,ops[k]? =some ok→lC k (i::done)=false→ok.dst≠some d:=by
         intro hp
         obtain⟨o',d,h1,h2,h3,h4,h5⟩:=hS p hp
         refine⟨o',d,h1,h2,h3, ?_,fun k ok hk hkd=>h5 k ok hk (adV k hkd)⟩
         rw[D5 fun t ht e=>h5 i o ho hun (by rw[ht,e])]
         exact h4
        cases wG:pu with
        |true=>rw[wG]at hp;exact old hp
        | false=>
          rw[wG]at hp
          rcases List.mem_cons.1 hp with rfl|hp
          · obtain⟨_,hq,_,d,hd,hdN⟩:=hin wG
            refine⟨o,d,ho,hq,hd, ?_,fun k ok hk hkd=> ?_⟩
            · rw[hd]
              have:d<a.tmps.size:=by rw[R.size];exact hdN
              simp[Act.put,this]
            · have hlt':k<ops.length:=(List.getElem?_eq_some_iff.1 hk).1
              have hki:k≠i:=by
               rintro rfl
               simp[lC]at hkd
              exact(hfree k ok (by simpa using hk) hki (by rw[hl.I5 hlt' true];exact adV k hkd)).1 d hd
          · exact old hp
       have hO':TM P ops.toArray T (listed.setIfInBounds i true) (QY pu (i,v) pend) (a.put o.dst v) w:=by
        intro p hp hap o' ho'
        have old:p∈pend→YieldsAt P ops.toArray o' p.2 (a.put o.dst v) w:=fun hp=>
         (YieldsAt.put (fun cs b=>hsel _ _ cs b ho') fun d hd=>hB p hp o' ho' i o Xk (mem_ready.1 hr).1 d hd).2 (hO p hp (hal _ hap) o' ho')
        cases wG:pu with
        |true=>rw[wG]at hp;exact old hp
        | false=>
          rw[wG]at hp
          rcases List.mem_cons.1 hp with rfl|hp
          · dsimp only at ho'
            rw[Xk]at ho'
            cases ho'
            exact(YieldsAt.put (fun cs b=>hsel _ _ cs b Xk) Yq).2 hy
          · exact old hp
       refine ih (fun k l hk=>hTs k l (List.mem_cons_of_mem _ hk)) hrest (hl.set hlt) tN hB' hS' hO' ?_ hq' R' h'
       intro p hp hap
       have old:p∈pend→p.1∈pl':=fun hp=>hsub _ (hpl p hp (hal _ hap))
       cases wG:pu with
       |true=>rw[wG]at hp;exact old hp
       | false=>
         rw[wG]at hp
         rcases List.mem_cons.1 hp with rfl|hp
         · exact(hin wG).1
         · exact old hp
      split at h
      · rename_i hw
        have hwant:=lQ R hw
        split at h
        · rename_i hpu
          have go: ∀d,QD P L W d st o.op (fun x st'=>pG N st' o.dst x (uH P L W N ops kp Q r pl))→jF P ops.toArray E T (r.length+1) listed pend a w:=by
           intro d hd
           obtain⟨x,u,st',ρ',h1,R1,h2,h3⟩:=Og hL R hpu hd
           obtain⟨st2,k2,R2⟩:=iE R1 h2 h1
           exact step u true pl _ st2 (.inl ⟨hwant,h3 w⟩) (fun _=> .inl ⟨hwant,h3⟩) (fun _ h=>h) (fun e=>by cases e) hpq R2 k2
          unfold zl at h
          cases hd:o.dst with
          |none=>rw[hd]at h;dsimp only at h;exact go 0 (by rw[hd];exact h)
          |some d=>rw[hd]at h;dsimp only at h;exact go d (by rw[hd];exact h)
        · rename_i hnp
          have aeE:zB ops done i o 0 ops=true:=by
           rcases Bool.or_eq_true _ _▸hbl with h1|h1
           · rw[Ot h1 L st]at hnp;cases hnp
           · exact h1
          cases hq:lH o.op with
          |false=>rw[hq]at h;exact h.elim
          |true=>
          rw[hq]at h
          dsimp only at h
          unfold zl at h
          cases hd:o.dst with
          | none=>
            rw[hd]at hself
            cases hself
          | some d=>
            rw[hd]at h
            dsimp only at h
            obtain⟨x,u,h1,h2,h3⟩:=xW hL R (o:=o) hq h
            have hdN:d<N:=by
             unfold pG at h1
             dsimp only at h1
             cases hb:Nat.ble (d+1) N with
             |false=>rw[hb]at h1;exact h1.elim
             |true=>exact Nat.le_of_ble_eq_true hb
            obtain⟨st2,k2,R2⟩:=iE R h2 h1
            exact step u false (i::pl) ρ st2 (.inl ⟨hwant,h3⟩) (fun e=>by cases e) (fun _ h=>List.mem_cons_of_mem _ h) (fun _=>⟨List.mem_cons_self,hq,aeE,d,hd,hdN⟩) (fun p hp=>by
             rcases List.mem_cons.1 hp with rfl|hp
             · exact⟨o,ho,hq⟩
             · exact hpq p hp) (by rw[hd];exact R2) k2
      · rename_i hw
        have hwant:=lQ R hw
        obtain⟨st2,k2,R2⟩:=iE R (show C2 (aC g w ρ st.heap) (.v undef) undef from rfl) h
        exact step undef true pl ρ st2 (.inr ⟨hwant,rfl⟩) (fun _=> .inr ⟨hwant,rfl⟩) (fun _ h=>h) (fun e=>by cases e) hpq R2 k2
      · exact h.elim
    · cases hi
  | (i, some l) ::r,done,listed,pend,pl,ρ,a,w,st,hTs,Gv,hl,hC,hB,hS,hO,hpl,hpq,R,h=>by
    have ih:= @Gu hL W hW ops hs kp Q E hE hQ T U hTU hU r
    simp only[QZ,Bool.and_eq_true]at Gv
    obtain⟨hi,hrest⟩:=Gv
    have e:=Yp hi
    have hr:i∈Region.ready .any ops.toArray listed:=(lD hl).2 (by rw[e];exact List.mem_cons_self)
    refine⟨fun h0=>(by rw[h0]at hr;cases hr),fun j hj=> ?_⟩
    have hji:j=i:=by
     have:=(lD hl).1 hj
     rw[e]at this
     exact List.mem_singleton.1 this
    subst hji
    simp only[uH]at h
    split at h
    · rename_i o ho
      have hlt:j<ops.length:=(List.getElem?_eq_some_iff.1 ho).1
      have Xk:ops.toArray[j]? =some o:=by simpa using ho
      have hsel:=Region.noSelect_spec hs
      have hun:lC j done=false:=by
       rw[←hl.I5 hlt true]
       exact(mem_ready.1 hj).1
      have hjT:(j,l)∈T:=hTs j l List.mem_cons_self
      have tN:Closed U (listed.setIfInBounds j true):=by
       intro k l hk hll p hp
       by_cases hki:k=j
       · subst hki
         exact getD_set_true (Gt hU k l listed hk hC hr p hp)
       · rw[getD_set_ne false (Ne.symm hki)]at hll
         exact getD_set_true (hC k l hk hll p hp)
      have hB':JC ops.toArray (listed.setIfInBounds j true) pend:=by
       intro p hp o' ho' k ok hk hku d hd
       refine hB p hp o' ho' k ok hk ?_ d hd
       by_cases hki:j=k
       · subst hki;exact(mem_ready.1 hj).1
       · rw[getD_set_ne true hki]at hku;exact hku
      have hsz:j<listed.size:=by rw[hl.1];exact hlt
      have hal: ∀p,alive T (listed.setIfInBounds j true) p→alive T listed p∧p ∉ l:=fun p hp=>⟨fun k l hk hll=>hp k l hk (getD_set_true hll),hp j l hjT (by simp[hsz])⟩
      --behind the step
      have fin0: ∀ (u:Value) (ρ':Nat→Value) (w':World) (st':AS),Rel g N bs ρ' (a.put o.dst u) w' st'→(∀p∈outOf l pl,∀o2 d,ops[p]? =some o2→o2.dst=some d→(∀v,(execOp a.eval o2).run P w= .ok (.value v) w→v=(a.put o.dst u).tmps.getD d undef→(execOp (a.put o.dst u).eval o2=execOp a.eval o2)→(execOp (a.put o.dst u).eval o2).run P w'= .ok (.value v) w'))→uH P L W N ops kp Q r (outOf l pl) st'→TM P ops.toArray T (listed.setIfInBounds j true) pend (a.put o.dst u) w'∧jF P ops.toArray E T r.length (listed.setIfInBounds j true) pend (a.put o.dst u) w':=by
       intro u ρ' w' st' R' hre hK
       have aeF: ∀p∈outOf l pl,∃o,ops[p]? =some o∧lH o.op=true:=fun p hp=>hpq p (x9 hp)
       have hS':Slots ops (j::done) pend (a.put o.dst u):=by
        intro p hp
        obtain⟨o',d,h1,h2,h3,h4,h5⟩:=hS p hp
        refine⟨o',d,h1,h2,h3, ?_,fun k ok hk hkd=>h5 k ok hk ?_⟩
        · rw[D5 fun t ht e=>h5 j o ho hun (by rw[ht,e])]
          exact h4
        · simp only[lC,Bool.or_eq_false_iff]at hkd
          exact hkd.2
       have hin: ∀p∈pend,alive T (listed.setIfInBounds j true) p.1→p.1∈outOf l pl:=fun p hp hap=>CY (hpl p hp (hal _ hap).1) (hal _ hap).2
       have hO':TM P ops.toArray T (listed.setIfInBounds j true) pend (a.put o.dst u) w':=by
        intro p hp hap o' ho'
        have ho2:ops[p.1]? =some o':=by simpa using ho'
        obtain⟨o3,d3,q1,q2,q3,q4,q5⟩:=hS' p hp
        rw[ho2]at q1
        obtain rfl:o'=o3:=by simpa using q1
        have:=hO p hp (hal _ hap).1 o' ho'
        have hd': ∀d,o.dst=some d→d ∉ o'.looksAt ops.toArray:=fun d hd=>hB p hp o' ho' j o Xk (mem_ready.1 hj).1 d hd
        have hw':=wanted_put (ops:=ops.toArray) o' a o.dst u hd'
        have he':=execOp_put (ops:=ops.toArray) o' (fun cs b=>hsel _ _ cs b ho') a o.dst u hd'
        rcases this with⟨h1,h2⟩|⟨h1,h2⟩
        · exact .inl ⟨by rw[hw'];exact h1,hre p.1 (hin p hp hap) o' d3 ho2 q3 _ h2 q4.symm he'⟩
        · exact .inr ⟨by rw[hw'];exact h1,h2⟩
       exact⟨hO',ih (fun k l hk=>hTs k l (List.mem_cons_of_mem _ hk)) hrest (hl.set hlt) tN hB' hS' hO' hin aeF R' hK⟩
      have adX: ∀ (u:Value) (ρ':Nat→Value) (w':World) (st':AS) (l':List Nat) {K:Prop},Rel g N bs ρ' (a.put o.dst u) w' st'→(∀p∈l',p∈outOf l pl)→I7 P L W N ops l' st' K→K∧ ∀p∈l',∀o2 d,ops[p]? =some o2→o2.dst=some d→(∀v,(execOp a.eval o2).run P w= .ok (.value v) w→v=(a.put o.dst u).tmps.getD d undef→(execOp (a.put o.dst u).eval o2=execOp a.eval o2)→(execOp (a.put o.dst u).eval o2).run P w'= .ok (.value v) w'):=by
       intro u ρ' w' st' l' K R' hsub hk
       obtain⟨hK,hre⟩:=TP hL R' (fun p hp=>hpq p (x9 (hsub p hp))) hk
       refine⟨hK,fun p hp o2 d h1 h2 v _ h4 _=> ?_⟩
       obtain⟨o3,d3,k1,k2,k3⟩:=hre p hp
       rw[h1]at k1
       obtain rfl:o2=o3:=by simpa using k1
       rw[h2]at k2
       obtain rfl:d=d3:=by simpa using k2
       rw[k3,h4]
      have fin: ∀ (u:Value) (ρ':Nat→Value) (w':World) (st':AS),Rel g N bs ρ' (a.put o.dst u) w' st'→I7 P L W N ops (outOf l pl) st' (uH P L W N ops kp Q r (outOf l pl) st')→TM P ops.toArray T (listed.setIfInBounds j true) pend (a.put o.dst u) w'∧jF P ops.toArray E T r.length (listed.setIfInBounds j true) pend (a.put o.dst u) w':=by
       intro u ρ' w' st' R' hk
       obtain⟨hK,hre⟩:=adX u ρ' w' st' _ R' (fun p hp=>hp) hk
       exact fin0 u ρ' w' st' R' hre hK
      have adY: ∀ (u:Value) (ρ':Nat→Value) (w':World) (st':AS),Rel g N bs ρ' (a.put o.dst u) w' st'→Below w.heap.size w w'→I7 P L W N ops (uG L st ops (outOf l pl)) st' (uH P L W N ops kp Q r (outOf l pl) st')→TM P ops.toArray T (listed.setIfInBounds j true) pend (a.put o.dst u) w'∧jF P ops.toArray E T r.length (listed.setIfInBounds j true) pend (a.put o.dst u) w':=by
       intro u ρ' w' st' R' hBw hk
       obtain⟨hK,hre⟩:=adX u ρ' w' st' _ R' (fun p hp=>zF hp) hk
       refine fin0 u ρ' w' st' R' (fun p hp o2 d h1 h2 v h3 h4 h5=> ?_) hK
       rcases zD (L:=L) (st:=st) (ops:=ops) hp with hkp|hnk
       · unfold Oq at hkp
         rw[h1]at hkp
         obtain⟨v',hv'⟩:=Vk (P:=P) hL R (o:=o2) hkp
         have e1:=hv' w (Below.refl _ _)
         rw[e1]at h3
         have e2:v'=v:=by simpa using h3
         rw[h5,hv' w' hBw,e2]
       · exact hre p hnk o2 d h1 h2 v h3 h4 h5
      unfold wpOp
      rw[Xk]
      dsimp only
      cases kp with
      | true=>
        dsimp only at h
        unfold ace at h
        split at h
        · rename_i hw
          rw[lQ R hw]
          simp only[if_true]
          refine .inl ?_
          split at h
          · rename_i c ec
            split at h
            · rename_i x ex
              split at h
              · rename_i gg caps ev
                rw[iW]at h
                refine Vl R ec ex ev h ?_
                intro x st' u ρ' w' hx R' hc hBw
                obtain⟨st2,h2,R2⟩:=iE R' hc hx
                exact adY u ρ' w' st2 R2 hBw h2
              · exact h.elim
            · exact h.elim
          · exact h.elim
        · rename_i hw
          rw[lQ R hw]
          simp only[Bool.false_eq_true,if_false]
          obtain⟨st2,k2,R2⟩:=iE R (show C2 (aC g w ρ st.heap) (.v undef) undef from rfl) h
          exact adY undef ρ w st2 R2 (Below.refl _ _) k2
        · exact h.elim
      | false=>
        dsimp only at h
        unfold o8 at h
        split at h
        · rename_i hw
          rw[lQ R hw]
          simp only[if_true]
          refine .inl ?_
          have go: ∀d,QD P L W d st o.op (fun x st'=>pG N st' o.dst x (fun st'=>I7 P L W N ops (outOf l pl) st' (uH P L W N ops false Q r (outOf l pl) st')))→o.wp P a w (fun a' w'=>TM P ops.toArray T (listed.setIfInBounds j true) pend a' w'∧jF P ops.toArray E T r.length (listed.setIfInBounds j true) pend a' w') E:=by
           intro d hd
           refine EM hL hW R (d:=d) hd ?_
           intro x st' u ρ' w' hx R' hc
           obtain⟨st2,h2,R2⟩:=iE R' hc hx
           exact fin u ρ' w' st2 R2 h2
          unfold zl at h
          cases hd:o.dst with
          |none=>rw[hd]at h;dsimp only at h;exact go 0 (by rw[hd];exact h)
          |some d=>rw[hd]at h;dsimp only at h;exact go d (by rw[hd];exact h)
        · rename_i hw
          rw[lQ R hw]
          simp only[Bool.false_eq_true,if_false]
          obtain⟨st2,k2,R2⟩:=iE R (show C2 (aC g w ρ st.heap) (.v undef) undef from rfl) h
          exact fin undef ρ w st2 R2 k2
        · exact h.elim
    · exact h.elim
theorem iK.Yr (kp:Bool) (hL:bQ P L) {W:Walk} (hW:IZ P W) (sc:List (Nat×Option (List Nat))) (U:List (Nat×List Nat)) {id:Nat} {ops:Array Oper} {K:AS→Prop} {st:AS} (hm:P.follows .mixedOrders=true) (hs:(Region.noSelect ops&&Nat.beq sc.length ops.size&&CW ops.toList sc U)=true)
  (h:uH P L W N ops.toList kp K sc [] st):iK P L W N id ops K st:=by
 refine .sem fun g bs ρ a w E R hK=> ?_
 simp only[Bool.and_eq_true,CW]at hs
 obtain⟨⟨hns,hlen⟩,⟨hU,hTU⟩,Gv⟩:=hs
 refine Code.wp_mono (Q:=fun e a w=>e= .normal∧E .normal a w) (fun e a w h=>by obtain⟨rfl,h⟩:=h;exact h) ?_
 have e1:ops.size=ops.toList.length:=by simp
 refine wp_region_any hm ?_
 have hl:Yi ops.toList.length [] (Array.replicate ops.size false):=by
  refine⟨by simp,fun k hk=> ?_⟩
  rw[Array.getElem?_replicate,if_pos (by rw[e1];exact hk)]
  rfl
 have hnone: ∀k,(Array.replicate ops.size false).getD k false=false:=by
  intro k
  rw[Array.getD_eq_getD_getElem?,Array.getElem?_replicate]
  split<;>rfl
 have R':Rel g N bs ρ a w.drew st:=R.world (Below.refl _ _).drew
 have:=Gu (g:=g) (bs:=bs) (N:=N) hL hW (ops:=ops.toList) (by simpa using hns) (Q:=K) (E:=fun e a w=>e= .normal∧E .normal a w) (fun e a w hne h=>hne h.1) (fun ρ a w st R h=>⟨rfl,hK ρ a w st R h⟩) (aaS hTU) hU sc (pend:=[]) (pl:=[])
  (fun k l h=>zC h) Gv hl (fun k l hk hll=>by rw[hnone]at hll;cases hll) (fun p hp=>by cases hp) (fun p hp=>by cases hp) (fun p hp=>by cases hp) (fun p hp=>by cases hp) (fun p hp=>by cases hp) R' h
 have h3:=this.any
 have e2:sc.length=ops.size:=Nat.eq_of_beq_eq_true hlen
 rw[e2]at h3
 simpa using h3
theorem iK.sched (hL:bQ P L) {W:Walk} (hW:IZ P W) (sc:List (Nat×Option (List Nat))) (U:List (Nat×List Nat)) {id:Nat} {ops:Array Oper} {K:AS→Prop} {st:AS} (hm:P.follows .mixedOrders=true) (hs:(Region.noSelect ops&&Nat.beq sc.length ops.size&&CW ops.toList sc U)=true)
  (h:uH P L W N ops.toList false K sc [] st):iK P L W N id ops K st:= .Yr false hL hW sc U hm hs h
theorem iK.keep (hL:bQ P L) {W:Walk} (hW:IZ P W) (sc:List (Nat×Option (List Nat))) (U:List (Nat×List Nat)) {id:Nat} {ops:Array Oper} {K:AS→Prop} {st:AS} (hm:P.follows .mixedOrders=true) (hs:(Region.noSelect ops&&Nat.beq sc.length ops.size&&CW ops.toList sc U)=true)
  (h:uH P L W N ops.toList true K sc [] st):iK P L W N id ops K st:= .Yr true hL hW sc U hm hs h
end
end
end Go.Proofs.YtimhagicagdkfaaGreat
