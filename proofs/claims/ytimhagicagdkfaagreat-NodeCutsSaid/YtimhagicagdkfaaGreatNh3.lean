/-
  Contracts of the walk:AmB.
-/
import Derived.Test.YtimhagicagdkfaaGreatNh2
import Derived.Laws.OwnMore
set_option maxHeartbeats 16000000
set_option maxRecDepth 100000
set_option linter.unusedVariables false
set_option linter.unusedSimpArgs false
namespace Go.Proofs.YtimhagicagdkfaaGreat
section
open Go.RowKit
section
variable {P:Program} {L:Lay} {g:Base} {N:Nat} {bs:List (Array Value)} {ρ:Nat→Value} {a:Act} {w:World} {st:AS}
theorem cells_one {u:Value} (h:u.oneCell'=true):u.cells.toList=[u]:=by cases u<;>first|rfl|(simp[Value.oneCell']at h)
theorem Ll (R:Rel g N bs ρ a w st) {x:AV} {u:Value} (h:C0 (aC g w ρ st.heap) x u) (ho:vG st.heap x=true):u.oneCell'=true:=by
 cases x with
 |v y=>cases h;exact ho
 | sl s n sc f=>
   cases(show PC _ _ _ _ from h)with
   |sl=>rfl
 | own id=>
   have hu:u=eP (ρ id):=h
   simp only[vG]at ho
   cases hf:aP id st.heap with
   |none=>rw[hf]at ho;cases ho
   | some o=>
     rw[hf]at ho
     cases o with
     |box=>cases ho
     | row e s n sc f=>
       obtain⟨us,hown,_⟩:=R.objs _ (ay hf)
       have hown:w.ownsRow 0 e s (ρ id) n us:=hown
       rcases hown.2 with⟨hv,_⟩|⟨b,cap,cur,hv,_⟩<;>rw[hu,hv]<;>rfl
     | mp t ks rs=>
       obtain⟨b,es,c,vs,hs,e,_⟩:=R.objs _ (ay hf)
       have e:ρ id=_:=e
       rw[hu,e]
       rfl
     | obs o=>
       obtain⟨us,e,hr⟩:=R.objs _ (ay hf)
       rw[hu]
       exact(o.lt hr).2.1
     | rn e cs=>
       obtain⟨us,⟨hown,_⟩,_⟩:=R.objs _ (ay hf)
       have hown:w.ownsRow 0 e 1 (ρ id) cs.length us:=hown
       rcases hown.2 with⟨hv,_⟩|⟨b,cap,cur,hv,_⟩<;>rw[hu,hv]<;>rfl
 |dP id s i k=>obtain⟨b,n,c,_,rfl⟩:=h;rfl
 |jq id s i k=>rcases h with⟨b,c,_,_,rfl⟩|⟨_,A,c,rfl⟩<;>rfl
 |box id k=>obtain⟨b,_,rfl⟩:=h;rfl
 |cf gg id k=>obtain⟨b,_,rfl⟩:=h;unfold cfV;cases Nat.blt gg million<;>rfl
 |el cs k=>obtain⟨b,o,us,rfl,_⟩:=h;rfl
 |agg cs=>cases ho
 |dF cs=>cases ho
 |fn gg cs=>cases ho
 |junk=>cases ho
theorem xP (R:Rel g N bs ρ a w st) {x:AV} {xs:List AV} {u:Value} (h:C2 (aC g w ρ st.heap) x u) (hc:x.cells? =some xs) (hone:xs.all (vG st.heap)=true):
  aI (C0 (aC g w ρ st.heap)) xs u.cells.toList∧ ∀y∈u.cells.toList,y.oneCell'=true:=by
 have key :aI (C0 (aC g w ρ st.heap)) xs u.cells.toList:=by
  have one: ∀ {x:AV},x.cells? =some [x]→xs=[x]→C0 (aC g w ρ st.heap) x u→aI (C0 (aC g w ρ st.heap)) xs u.cells.toList:=by
   intro x _ e h0
   subst e
   have:=Ll R h0 (by simpa using hone)
   rw[cells_one this]
   exact aI.cons h0 aI.nil
  cases x with
  | agg cs=>
    obtain⟨us,rfl,ha⟩:=C2.rE h
    simp only[AV.cells?,Option.some.injEq]at hc
    subst hc
    simpa[Value.cells]using ha
  |dF vs=>cases hc
  | fn gg cs=>
    cases cs with
    | cons c cs=>
      cases cs with
      |cons c' cs=>cases hc
      | nil=>
        cases c<;>simp only[AV.cells?,adJ]at hc<;>first|(cases hc;done)|skip
        rename_i id off
        cases hb:Nat.blt gg million with
        |false=>rw[hb]at hc;cases hc
        |true=>
        rw[hb]at hc
        simp only[cond_true,Option.some.injEq]at hc
        subst hc
        obtain⟨us,rfl,hl,hu⟩:=C2.CO h
        match us,hl,hu with
        | [u],_,hu=>
          obtain⟨b,h1,rfl⟩:C0 _ (.box id off) u:=hu 0 _ _ rfl rfl
          rw[cells_one rfl]
          exact aI.cons ⟨b,h1,by unfold cfV;rw[hb];rfl⟩ aI.nil
    | nil=>
      simp only[AV.cells?,Option.some.injEq]at hc
      subst hc
      obtain⟨us,rfl,hl,_⟩:=C2.CO h
      have hu:us=[]:=List.eq_nil_of_length_eq_zero hl.symm
      subst hu
      rw[cells_one rfl]
      exact aI.cons rfl aI.nil
  | junk=>
    simp only[AV.cells?,Option.some.injEq]at hc
    subst hc
    simp[vG]at hone
  |v y=>exact one (x:= .v y) rfl (by simpa[AV.cells?]using hc.symm) h
  |sl s n sc f=>exact one (x:= .sl s n sc f) rfl (by simpa[AV.cells?]using hc.symm) h
  |own id=>exact one (x:= .own id) rfl (by simpa[AV.cells?]using hc.symm) h
  |dP id s i k=>exact one (x:= .dP id s i k) rfl (by simpa[AV.cells?]using hc.symm) h
  |jq id s i k=>exact one (x:= .jq id s i k) rfl (by simpa[AV.cells?]using hc.symm) h
  |box id k=>exact one (x:= .box id k) rfl (by simpa[AV.cells?]using hc.symm) h
  |cf gg id k=>exact one (x:= .cf gg id k) rfl (by simpa[AV.cells?]using hc.symm) h
  |el cs k=>exact one (x:= .el cs k) rfl (by simpa[AV.cells?]using hc.symm) h
 refine⟨key,fun y hy=> ?_⟩
 obtain⟨i,hi,rfl⟩:=List.getElem_of_mem hy
 have hx:xs[i]? =some (xs[i]'(by rw[key.1];exact hi)):=List.getElem?_eq_getElem _
 have h0:=key.2 i _ _ hx (List.getElem?_eq_getElem hi)
 exact Ll R h0 (List.all_eq_true.1 hone _ (List.getElem_mem _))
theorem Rel.XT (R:Rel g N bs ρ a w st) (d:Nat) (t:TypeId) {cs:List AV} {us:List Value} (ha:aI (C0 (aC g w ρ st.heap)) cs us):
  Rel g N bs (dD ρ d (.pointer (some ⟨w.heap.size,0,none⟩))) a (w.alloc (.cells us.toArray t)) (st.obj d d (.box t cs)):=by
 refine R.obj d d (R.below.alloc R.below.size _) (by simp) (fun b hb _=>Below.heap_alloc w _ b hb) (fun b hb=> ?_) (fun hE=> ?_)
 · rw[List.mem_singleton.1 hb];exact .inl (Nat.le_refl _)
 · exact⟨w.heap.size,us,by simp[aC,dD],heap_alloc_new w _,ha.mO fun _ _=>C0.ext hE⟩
theorem ng {s:Nat} {n:Nat} {f:Nat→List AV} (h: ∀i,i<n→(f i).length=s):(flat n f).length=n*s:=mY.flat_length h
theorem oh: ∀ {n:Nat} {f f':Nat→List AV},(∀i,i<n→f i=f' i)→flat n f=flat n f'
  |0,_,_,_=>rfl
  | n+1,f,f',h=>by
    show f 0++_=f' 0++_
    rw[h 0 (by omega),oh (fun i hi=>h (i+1) (by omega))]
theorem zo {s:Nat}: ∀ {n:Nat} {cs:List AV},cs.length=n*s→flat n (chunk s cs)=cs
  | 0,cs,h=>by
    have:cs=[]:=List.eq_nil_of_length_eq_zero (by simpa using h)
    subst this;rfl
  | n+1,cs,h=>by
    show chunk s cs 0++flat n (fun i=>chunk s cs (i+1))=cs
    have e:(fun i=>chunk s cs (i+1))=chunk s (cs.drop s):=by
     funext i
     simp[chunk,List.drop_drop,Nat.succ_mul,Nat.add_comm]
    rw[e,zo (by rw[List.length_drop,h,Nat.succ_mul];omega)]
    simp[chunk]
theorem Jp {s n:Nat} {cs:List AV} (h:cs.length=n*s): ∀i,i<n→(chunk s cs i).length=s:=by
 intro i hi
 have:(i+1)*s≤n*s:=Nat.mul_le_mul_right _ hi
 rw[Nat.succ_mul]at this
 rw[chunk,List.length_take,List.length_drop,h]
 omega
theorem Lm {x:AV} {X:CX} {u:Value} (h:C0 X x u) (hp:DR x=true):PC X.w X.keep x u:=by
 cases x with
 |v y=>cases h;exact .v _ hp
 |sl s n sc f=>exact h
 |_=>cases hp
theorem Rel.newRow (R:Rel g N bs ρ a w st) (d:Nat) (e:TypeId) {s n:Nat} {sc:Bool} {f:Nat→List AV} {us:List Value} (hs:0<s) (hn:n≤maxLen) (hf: ∀i,i<n→(f i).length=s) (hsc:sc=true→ ∀x∈flat n f,∃y,x= .v y)
  (ha:aI (PC w (aK g w ρ st.heap)) (flat n f) us):
  Rel g N bs (dD ρ d (.slice (some ⟨w.heap.size,0,none⟩) n n)) a (w.alloc (.cells us.toArray e)) (st.obj d d (.row e s n sc f)):=by
 refine R.obj d d (R.below.alloc R.below.size _) (by simp) (fun b hb _=>Below.heap_alloc w _ b hb) (fun b hb=> ?_) (fun hE=> ?_)
 · rw[List.mem_singleton.1 hb];exact .inl (Nat.le_refl _)
 · have hlen:us.length=n*s:=by rw[←ha.1,ng hf]
   refine⟨us,⟨hlen,.inr ⟨w.heap.size,n,us.toArray,by simp[aC,dD],Nat.zero_le _,heap_alloc_new w _,Nat.le_refl _,hn,by simpa using hlen, ?_⟩⟩,hs,hf,hsc,ha.imp fun _ _=>PC.mono hE.keep hE.mem⟩
   rw[←hlen]
   exact List.take_length
theorem Rel.adM (R:Rel g N bs ρ a w st) (d:Nat) (e:TypeId) {n:Nat} {cs:List AV} {us:List Value} (hn:n≤maxLen) (ha:aI (C0 (aC g w ρ st.heap)) cs us) (hone:cs.all (vG st.heap)=true) (hcn:cs.length=n):
  Rel g N bs (dD ρ d (.slice (some ⟨w.heap.size,0,none⟩) n n)) a (w.alloc (.cells us.toArray e)) (st.obj d d (.rn e cs)):=by
 refine R.obj d d (R.below.alloc R.below.size _) (by simp) (fun b hb _=>Below.heap_alloc w _ b hb) (fun b hb=> ?_) (fun hE=> ?_)
 · rw[List.mem_singleton.1 hb];exact .inl (Nat.le_refl _)
 · have hlen:us.length=n:=by rw[←ha.1,hcn]
   refine⟨us,⟨⟨by simp[hlen,hcn],.inr ⟨w.heap.size,n,us.toArray,by simp[aC,dD,hcn],Nat.zero_le _,heap_alloc_new w _,by simp[hcn],hn,by simp[hlen], ?_⟩⟩,fun u hu=> ?_⟩,ha.mO fun _ _=>C0.ext hE⟩
   · simp[hcn,←hlen]
   · obtain⟨i,hi,rfl⟩:=List.getElem_of_mem hu
     exact Ll R (ha.2 i _ _ (List.getElem?_eq_getElem (by rw[ha.1];exact hi)) (List.getElem?_eq_getElem hi)) (List.all_eq_true.1 hone _ (List.getElem_mem _))
theorem NP (vs:List Value): ∀ (k:Nat) (off:Nat) (cells:Array Value),off+k+vs.length≤cells.size→
  ((vs.zipIdx k).foldl (fun cs (p:Value×Nat)=>cs.setIfInBounds (off+p.2) p.1) cells).toList=cells.toList.take (off+k)++(vs++cells.toList.drop (off+k+vs.length)):=by
 induction vs with
 |nil=>intro k off cells _;simp
 | cons v vs ih=>
   intro k off cells h
   simp only[List.zipIdx_cons,List.foldl_cons]
   simp only[List.length_cons]at h
   rw[ih (k+1) off _ (by simp;omega)]
   simp only[Array.toList_setIfInBounds,List.length_cons]
   have e:=list_seg_step cells.toList (off+k) v vs (by simp;omega)
   have e1:off+(k+1)=off+k+1:=by omega
   have e2:off+k+1+vs.length=off+k+(vs.length+1):=by omega
   rw[e1]
   simpa[e2]using e
theorem EI (R:Rel g N bs ρ a w st) {place:Nat→Option (Nat×Nat)}: ∀ {parts:List (Nat×AV)} {pv:List (Nat×Value)} {cs cs':List AV} {cells:Array Value},aI (C0 (aC g w ρ st.heap)) cs cells.toList→
  parts.length=pv.length→(∀ (i:Nat) (p:Nat×AV) (q:Nat×Value),parts[i]? =some p→pv[i]? =some q→p.1=q.1∧C2 (aC g w ρ st.heap) p.2 q.2)→yQ st.heap place cs parts=some cs'→
  ∃cells':Array Value,Instr.fill place cells pv=some cells'∧aI (C0 (aC g w ρ st.heap)) cs' cells'.toList
  | [],pv,cs,cs',cells,ha,hl,_,h=>by
    have:pv=[]:=List.eq_nil_of_length_eq_zero (by simpa using hl.symm)
    subst this
    simp only[yQ,Option.some.injEq]at h
    subst h
    exact⟨cells,rfl,ha⟩
  |(i,x)::r,[],_,_,_,_,hl,_,_=>by simp at hl
  | (i, x) ::r,(j,v)::pv,cs,cs',cells,ha,hl,hp,h=>by
    obtain⟨hij,hc⟩:=hp 0 _ _ rfl rfl
    dsimp only at hij hc
    subst hij
    simp only[yQ]at h
    cases hpl:place i with
    |none=>simp[hpl]at h
    | some os=>
      obtain⟨o,s⟩:=os
      cases hxs:x.cells? with
      |none=>simp[hpl,hxs]at h
      | some xs=>
        simp only[hpl,hxs]at h
        cases hb:(Nat.beq xs.length s&&Nat.ble (o+xs.length) cs.length&&xs.all (vG st.heap))with
        |false=>rw[hb]at h;cases h
        | true=>
          rw[hb]at h
          simp only[cond_true]at h
          simp only[Bool.and_eq_true]at hb
          obtain⟨⟨h1,h2⟩,h3⟩:=hb
          have h1:=Nat.eq_of_beq_eq_true h1
          have h2:=Nat.le_of_ble_eq_true h2
          obtain⟨hcells,_⟩:=xP R hc hxs h3
          have hlv:v.cells.size=xs.length:=by rw[←Array.length_toList];exact hcells.1.symm
          have hlc:cells.size=cs.length:=by rw[←Array.length_toList];exact ha.1.symm
          have hfold:(v.cells.zipIdx.foldl (fun cs (p:Value×Nat)=>cs.setIfInBounds (o+p.2) p.1) cells).toList=cells.toList.take o++(v.cells.toList++cells.toList.drop (o+v.cells.toList.length)):=by
           rw[←Array.foldl_toList,Array.toList_zipIdx]
           exact NP v.cells.toList 0 o cells (by simp;omega)
          have hnew:aI (C0 (aC g w ρ st.heap)) (splice cs o xs) (v.cells.zipIdx.foldl (fun cs (p:Value×Nat)=>cs.setIfInBounds (o+p.2) p.1) cells).toList:=by
           rw[hfold]
           have:=(ha.take o).app (hcells.app (ha.drop (o+xs.length)))
           rw[show o+xs.length=o+v.cells.toList.length by rw[←hcells.1]]at this
           unfold splice
           rw[show o+xs.length=o+v.cells.toList.length by rw[←hcells.1]]
           exact this
          obtain⟨cells',hf,ha'⟩:=EI R (place:=place) hnew (by simpa using hl) (fun k p q hk hq=>hp (k+1) p q (by simpa using hk) (by simpa using hq)) h
          refine⟨cells', ?_,ha'⟩
          simp only[Instr.fill,hpl]
          rw[if_neg (by simp;omega)]
          exact hf
theorem FQ {X:CX} {cs xs:List AV} {us vs:List Value} (h:aI (C0 X) cs us) (k:Nat) (hx:aI (C0 X) xs vs):aI (C0 X) (splice cs k xs) (us.take k++vs++us.drop (k+vs.length)):=by
 unfold splice
 rw[List.append_assoc,hx.1]
 exact(h.take k).app (hx.app (h.drop _))
theorem pW {w:World} {b:Nat} {cs:Array Value}:Below b w (w.setRow b cs):=⟨rfl,rfl,rfl,by simp[World.setRow],fun k hk=>setRow_other w b k _ (by omega)⟩
theorem jV (hL:bQ P L) (R:Rel g N bs ρ a w st) {t:TypeId} {p x:AV} {pv xv:Value} (hp:C2 (aC g w ρ st.heap) p pv) (hx:C2 (aC g w ρ st.heap) x xv) {K:AS→Prop} (h:Qv L st t p x K):
  ∃st' w',K st'∧Rel g N bs ρ a w' st'∧(Instr.storeAt t pv xv).run P w= .ok () w':=by
 unfold Qv at h
 split at h
 · rename_i i id k xs hi hxs
   obtain⟨b,hb,rfl⟩:=C2.kN hp
   cases hq:(Nat.beq xs.length i.size&&xs.all (vG st.heap))with
   |false=>rw[hq]at h;exact h.elim
   | true =>
     rw[hq]at h
     simp only[cond_true]at h
     simp only[Bool.and_eq_true]at hq
     have hsz:=Nat.eq_of_beq_eq_true hq.1
     obtain⟨hcells,hone⟩:=xP R hx hxs hq.2
     split at h
     · rename_i t' cs hfo
       cases hle:Nat.ble (k+xs.length) cs.length with
       |false=>rw[hle]at h;exact h.elim
       | true=>
         rw[hle]at h
         have hle:=Nat.le_of_ble_eq_true hle
         obtain⟨b',us,e,hh,ha⟩:=R.objs _ (ay hfo)
         have hb:eP (ρ id)=_:=hb
         have e:ρ id=_:=e
         rw[e]at hb
         cases hb
         have hb:=e
         have hh:w.heap[b]? =some (.cells us.toArray t' (0,0)):=hh
         have hlen:xv.cells.toList.length=xs.length:=hcells.1.symm
         have XU:us.length=cs.length:=ha.1.symm
         have aex:xv.cells.size=xs.length:=by rw[←Array.length_toList];exact hlen
         have hrun:=run_storeCells_at P b k t' xv.cells.toList 0 us.toArray w hh (by simp;omega) hone
         have hnew:aI (C0 (aC g w ρ st.heap)) (splice cs k xs) (us.take (k+0)++xv.cells.toList++us.drop (k+0+xv.cells.toList.length)):=by
          have:=FQ ha k hcells
          simpa using this
         refine⟨_,w.setRow b (us.toArray.toList.take (k+0)++xv.cells.toList++us.toArray.toList.drop (k+0+xv.cells.toList.length)).toArray,h, ?_, ?_⟩
         · refine R.write hfo (b:=b) (by rw[hb];exact List.mem_cons_self) pW (by simp[World.setRow]) (fun k' hk'=>setRow_other w b k' _ (by omega)) (fun hk hm=> ?_)
           exact⟨b,_,hb,setRow_heap w b _ _ t' _ hh,hnew.imp fun _ _=>C0.same (X:=aC g w ρ st.heap) (Y:=aC g _ ρ (setObj id _ st.heap)) hk hm rfl⟩
         · have hsize: ¬xv.cells.size≠i.size:=by
            rw[←Array.length_toList,hlen,hsz];simp
           simp only[Instr.storeAt,Instr.sureAddr,Sem.run_bind,Sem.run_pure,Result.andThen_ok,storeVar,iw hL hi,if_neg hsize]
           exact hrun
     · exact h.elim
 · rename_i i id s j k xs hi hxs
   obtain⟨b,n0,c0,hb,rfl⟩:=C2.Ap hp
   cases hq:(Nat.beq xs.length i.size&&xs.all DR)with
   |false=>rw[hq]at h;exact h.elim
   | true=>
     rw[hq]at h
     simp only[cond_true]at h
     simp only[Bool.and_eq_true]at hq
     have hsz:=Nat.eq_of_beq_eq_true hq.1
     have hpure:=hq.2
     have hone':xs.all (vG st.heap)=true:=by
      rw[List.all_eq_true]at hpure⊢
      intro y hy
      have:=hpure y hy
      cases y<;>first|exact this|rfl|(simp[DR]at this)
     obtain⟨hcells,hone⟩:=xP R hx hxs hone'
     split at h
     · rename_i e s' n sc f hfo
       cases hs:(Nat.beq s s'&&Nat.ble (k+xs.length) s)with
       |false=>rw[hs]at h;exact h.elim
       | true =>
         rw[hs]at h
         simp only[cond_true]at h
         simp only[Bool.and_eq_true]at hs
         obtain rfl:=Nat.eq_of_beq_eq_true hs.1
         have hks:=Nat.le_of_ble_eq_true hs.2
         cases hj:Nat.ble (j+1) n with
         |false=>rw[hj]at h;exact h.elim
         | true =>
           rw[hj]at h
           have hjn:=Nat.le_of_ble_eq_true hj
           obtain⟨us,hown,hs0,hfl,hsc,ha⟩:=R.objs _ (ay hfo)
           have hown:w.ownsRow 0 e s (ρ id) n us:=hown
           have ha:aI (PC w (aK g w ρ st.heap)) (flat n f) us:=ha
           have hb:ρ id=_:=hb
           rw[hb]at hown
           rcases hown.2 with⟨hv,_⟩|⟨b',cap,cur,hv,hB,hh,hnc,hcm,hcs,htake⟩
           · cases hv
           · simp only[Value.slice.injEq,Option.some.injEq,Addr.mk.injEq]at hv
             obtain⟨⟨hv1,_⟩,hv2,hv3⟩:=hv
             obtain rfl:=hv1
             obtain rfl:=hv2.symm
             obtain rfl:=hv3
             have XU:us.length=n*s:=hown.1
             have hlen:xv.cells.toList.length=xs.length:=hcells.1.symm
             have hjs:(j+1)*s≤n*s:=Nat.mul_le_mul_right _ hjn
             rw[Nat.succ_mul]at hjs
             have hns:n*s≤c0*s:=Nat.mul_le_mul_right _ hnc
             have hsize:xv.cells.size=xs.length:=by rw[←Array.length_toList];exact hlen
             have hrun:=run_storeCells_at P b (j*s+k) e xv.cells.toList 0 cur w hh (by simp;omega) hone
             have hpc:aI (PC w (aK g w ρ st.heap)) xs xv.cells.toList:=⟨hcells.1,fun q y u hy hu=>Lm (hcells.2 q y u hy hu) (List.all_eq_true.1 hpure y (List.mem_of_getElem? hy))⟩
             have hf': ∀m,m<n→((fun m=>bif Nat.beq m j then splice (f j) k xs else f m) m).length=s:=by
              intro m hm
              dsimp only
              cases hmj:Nat.beq m j with
              |false=>exact hfl m hm
              | true=>
                have:=hfl j (by omega)
                simp only[cond_true,splice,List.length_append,List.length_take,List.length_drop]
                omega
             refine⟨_,w.setRow b (cur.toList.take (j*s+k+0)++xv.cells.toList++cur.toList.drop (j*s+k+0+xv.cells.toList.length)).toArray,h, ?_, ?_⟩
             · refine R.write hfo (b:=b) (by rw[hb];exact List.mem_cons_self) pW (by simp[World.setRow]) (fun k' hk'=>setRow_other w b k' _ (by omega)) (fun hk hm=> ?_)
               refine⟨us.take (j*s+k)++xv.cells.toList++us.drop (j*s+k+xv.cells.toList.length),⟨?_,.inr ⟨b,c0,_,hb,hB,setRow_heap w b _ _ e _ hh,hnc,hcm, ?_, ?_⟩⟩,hs0,hf', ?_, ?_⟩
               · simp only[List.length_append,List.length_take,List.length_drop,hlen,XU]
                 omega
               · simp only[List.size_toArray,List.length_append,List.length_take,List.length_drop,Array.length_toList,hcs,hlen]
                 omega
               · rw[←htake]
                 exact DW cur.toList (j*s+k) xv.cells.toList (n*s) (by rw[hlen];omega) (by rw[Array.length_toList];omega)
               · intro U7 y hy
                 simp only[Bool.and_eq_true]at U7
                 exact QH hy (hsc U7.1) (by
                  intro z hz
                  unfold splice at hz
                  rcases List.mem_append.1 hz with h1|h1
                  · exact .inl (List.mem_of_mem_take h1)
                  · rcases List.mem_append.1 h1 with h2|h2
                    · right
                      have:=List.all_eq_true.1 U7.2 z h2
                      cases z<;>first|exact⟨_,rfl⟩|(simp[isV]at this)
                    · exact .inl (List.mem_of_mem_drop h2)) (by omega)
               · have hall:=NQ ha hfl (show j<n by omega) (show k+xs.length≤s from hks) hpc
                 rw[←hlen]at hall
                 exact hall.imp fun _ _=>PC.mono hk hm
             · have hsize': ¬xv.cells.size≠i.size:=by rw[hsize,hsz];simp
               simp only[Instr.storeAt,Instr.sureAddr,Sem.run_bind,Sem.run_pure,Result.andThen_ok,storeVar,iw hL hi,if_neg hsize']
               exact hrun
     · exact h.elim
 · exact h.elim
where
 DW (l:List Value) (k:Nat) (vs:List Value) (m:Nat) (h:k+vs.length≤m) (hm:m≤l.length):((l.take (k+0)++vs++l.drop (k+0+vs.length)).toArray.toList).take m=(l.take m).take k++vs++(l.take m).drop (k+vs.length):=by
  simp only[Nat.add_zero]
  rw[List.take_append,List.take_append,List.take_take,List.drop_take,List.length_append,List.length_take,Nat.min_eq_left (show k≤l.length by omega),Nat.min_eq_right (show k≤m by omega)]
  rw[List.take_take,Nat.min_eq_left (show k≤m by omega),List.take_of_length_le (l:=vs) (by omega)]
 QH {n:Nat} {f:Nat→List AV} {j:Nat} {c:List AV} {y:AV} (hy:y∈flat n (fun m=>bif Nat.beq m j then c else f m)) (hf: ∀x∈flat n f,∃y,x= .v y) (hc: ∀z∈c,z∈f j∨ ∃y,z= .v y) (hj:j<n): ∃z,y= .v z:=by
  have mem: ∀ {n:Nat} {f:Nat→List AV} {y:AV},y∈flat n f↔ ∃i,i<n∧y∈f i:=ni
  obtain⟨i,hi,hyi⟩:=mem.1 hy
  cases hb:Nat.beq i j with
  |false=>rw[hb]at hyi;exact hf y (mem.2 ⟨i,hi,hyi⟩)
  | true=>
    rw[hb]at hyi
    rcases hc y hyi with h1|h1
    · exact hf y (mem.2 ⟨j,hj,h1⟩)
    · exact h1
 ni: ∀ {n:Nat} {f:Nat→List AV} {y:AV},y∈flat n f↔ ∃i,i<n∧y∈f i
   |0,f,y=>by simp[flat]
   | n +1,f,y=>by
     show y∈f 0++_↔_
     rw[List.mem_append,ni (n:=n)]
     constructor
     · rintro(h|⟨i,hi,h⟩)
       · exact⟨0,by omega,h⟩
       · exact⟨i+1,by omega,h⟩
     · rintro⟨i,hi,h⟩
       cases i with
       |zero=>exact .inl h
       |succ i=>exact .inr ⟨i,by omega,h⟩
 NQ {R:AV→Value→Prop} {s:Nat} {xs:List AV} {vs:List Value} {k:Nat}: ∀ {n:Nat} {f:Nat→List AV} {us:List Value} {j:Nat},aI R (flat n f) us→(∀i,i<n→(f i).length=s)→j<n→k+xs.length≤s→aI R xs vs→
   aI R (flat n (fun m=>bif Nat.beq m j then splice (f j) k xs else f m)) (us.take (j*s+k)++vs++us.drop (j*s+k+xs.length))
   |0,_,_,_,_,_,h,_,_=>absurd h (by omega)
   | n+1,f,us,0,ha,hl,_,hk,hx=>by
     have e0:flat (n+1) (fun m=>bif Nat.beq m 0 then splice (f 0) k xs else f m)=splice (f 0) k xs++flat n (fun i=>f (i+1)):=rfl
     have e1:flat (n+1) f=f 0++flat n (fun i=>f (i+1)):=rfl
     have h0:=hl 0 (by omega)
     rw[e1]at ha
     have g1:=ha.take k
     rw[List.take_append_of_le_length (by omega)]at g1
     have g2:=ha.drop (k+xs.length)
     rw[List.drop_append_of_le_length (by omega)]at g2
     rw[e0,splice,Nat.zero_mul,Nat.zero_add,List.append_assoc,List.append_assoc,List.append_assoc]
     exact g1.app (hx.app g2)
   | n+1,f,us,j+1,ha,hl,hj,hk,hx=>by
     have e0:flat (n+1) (fun m=>bif Nat.beq m (j+1)then splice (f (j+1)) k xs else f m)=f 0++flat n (fun m=>bif Nat.beq m j then splice (f (j+1)) k xs else f (m+1)):=rfl
     have e1:flat (n+1) f=f 0++flat n (fun i=>f (i+1)):=rfl
     have h0:=hl 0 (by omega)
     rw[e1]at ha
     have g1:=ha.take s
     rw[List.take_append_of_le_length (by omega),List.take_of_length_le (by omega)]at g1
     have g2:=ha.drop s
     rw[←h0,List.drop_left,h0]at g2
     have ih:=NQ (s:=s) (j:=j) (k:=k) g2 (fun i hi=>hl (i+1) (by omega)) (by omega) hk hx
     rw[e0]
     have:=g1.app ih
     have e2:us.take ((j+1)*s+k)=us.take s++(us.drop s).take (j*s+k):=by
      rw[Nat.succ_mul,show j*s+s+k=s+(j*s+k) by omega,List.take_add]
     have e3:us.drop ((j+1)*s+k+xs.length)=(us.drop s).drop (j*s+k+xs.length):=by
      rw[List.drop_drop,Nat.succ_mul];congr 1;omega
     rw[e2,e3]
     simpa[List.append_assoc]using this
end
end
section
open Go.RowKit
section
variable {P:Program} {L:Lay} {g:Base} {N:Nat} {bs:List (Array Value)} {ρ:Nat→Value} {a:Act} {w:World} {st:AS}
theorem NR (R:Rel g N bs ρ a w st) (parts:Array (Nat×Operand)):
  (parts.toList.map fun p=>(p.1,st.ev p.2)).length=((parts.map fun(i,x)=>(i,a.eval x)).toList).length∧
  ∀ (i:Nat) (p:Nat×AV) (q:Nat×Value),(parts.toList.map fun p=>(p.1,st.ev p.2))[i]? =some p→((parts.map fun(i,x)=>(i,a.eval x)).toList)[i]? =some q→p.1=q.1∧C2 (aC g w ρ st.heap) p.2 q.2:=by
 refine⟨by simp,fun i p q hp hq=> ?_⟩
 rw[List.getElem?_map]at hp
 rw[Array.toList_map,List.getElem?_map]at hq
 cases hx:parts.toList[i]? with
 |none=>rw[hx]at hp;cases hp
 | some y=>
   rw[hx]at hp hq
   cases hp
   cases hq
   exact⟨rfl,R.ev y.2⟩
theorem vW (hL:bQ P L) (w:World): ∀ {fields:List Field} {pl:List (Nat×Nat)},placesOf L (fields.map fun f=>(f.offset,f.type))=some pl→
  (fields.mapM fun f=>(do pure (f.offset,←sizeOf f.type):Sem (Nat×Nat))).run P w= .ok pl w
  | [],pl,h=>by
    simp only[List.map_nil,placesOf,Option.some.injEq]at h
    subst h
    simp
  | f ::r,pl,h=>by
    simp only[List.map_cons,placesOf]at h
    cases hi:aZ L f.type with
    |none=>rw[hi]at h;cases h
    | some i=>
      cases hr:placesOf L (r.map fun f=>(f.offset,f.type))with
      |none=>rw[hi,hr]at h;cases h
      | some l=>
        rw[hi,hr]at h
        simp only[Option.some.injEq]at h
        subst h
        have ih:=vW hL w hr
        simp only[List.mapM_cons,Sem.run_bind,iw hL hi,Result.andThen_ok,Sem.run_pure,ih]
theorem FT {X:CX} (l:List Value):aI (C0 X) (l.map .v) l:=aI.vs l
theorem FU (hL:bQ P L) (R:Rel g N bs ρ a w st) {t:TypeId} {parts:Array (Nat×Operand)} {K:AV→Prop} (h:Cm L st.heap t (parts.toList.map fun p=>(p.1,st.ev p.2)) K):
  ∃y u,K y∧C2 (aC g w ρ st.heap) y u∧(Instr.build t (parts.map fun(i,x)=>(i,a.eval x))).run P w= .ok u w:=by
 obtain⟨hpl,hpp⟩:=NR R parts
 unfold Cm at h
 split at h
 · rename_i ti hti
   obtain⟨z,hz,hzc⟩:=Am hL hti w
   have h0:aI (C0 (aC g w ρ st.heap)) (ti.zero.map .v) z.cells.toList:=by rw[hzc];exact FT _
   split at h
   · rename_i fs hk
     obtain⟨fields,hu,hmap⟩:=lM hL hti hk
     split at h
     · rename_i pl XV
       split at h
       · rename_i cs Jq
         obtain⟨cells',hf,ha⟩:=EI R h0 hpl hpp Jq
         refine⟨_,.agg cells',h,⟨cells'.toList,by simp,ha⟩, ?_⟩
         rw[←hmap]at XV
         have hm:=vW hL w XV
         have hm':(fields.mapM fun f=>(do pure (f.offset,←sizeOf f.type):Sem (Nat×Nat))).run P w= .ok pl.toArray w:=by
          rw[Array.mapM_eq_mapM_toList]
          simp only[Sem.run_map,hm,Result.andThen_ok]
         have hg:(fun(x:Nat)=>pl.toArray[x]?)=(fun(x:Nat)=>pl[x]?):=by funext x;simp
         simp only[Instr.build,Sem.run_bind,hz,Result.andThen_ok,run_underlying hu,hm']
         rw[hg,hf]
         rfl
       · exact h.elim
     · exact h.elim
   · rename_i n e hk
     have hu:=oV hL hti hk
     split at h
     · rename_i ei pV
       split at h
       · rename_i cs Jq
         obtain⟨cells',hf,ha⟩:=EI R h0 hpl hpp Jq
         refine⟨_,.agg cells',h,⟨cells'.toList,by simp,ha⟩, ?_⟩
         simp only[Instr.build,Sem.run_bind,hz,Result.andThen_ok,run_underlying hu,iw hL pV,hf]
         rfl
       · exact h.elim
     · exact h.elim
   · exact h.elim
 · exact h.elim
theorem AB (z:List Value): ∀n,∃us:List Value,Xv (z.map .v) n=us.map .v∧us=(List.replicate n z).flatten
  |0=>⟨[],rfl,rfl⟩
  | n+1=>by
    obtain⟨us,h1,h2⟩:=AB z n
    exact⟨z++us,by simp[Xv,h1],by rw[h2,List.replicate_succ,List.flatten_cons]⟩
theorem FV (z:Array Value) (s:Nat) (hz:z.size=s): ∀n,((Array.range (n*s)).map (z[· %z.size]!)).toList=(List.replicate n z.toList).flatten:=by
 intro n
 induction n with
 |zero=>simp
 | succ n ih=>
   rw[List.replicate_succ',List.flatten_append,←ih]
   have e:(Array.range ((n+1)*s)).toList=(Array.range (n*s)).toList++(List.range s).map (n*s+ ·):=by
    rw[Array.toList_range,Array.toList_range,Nat.succ_mul,List.range_add]
   rw[Array.toList_map,e,List.map_append,Array.toList_map]
   congr 1
   simp only[List.map_map,List.flatten_cons,List.flatten_nil,List.append_nil]
   apply List.ext_getElem
   · simp[hz]
   · intro i h1 h2
     simp only[List.length_map,List.length_range]at h1
     simp[hz,Nat.add_comm (n*s) i,getElem!_pos,h1,Nat.add_mul_mod_self_right,Nat.mod_eq_of_lt h1]
theorem vk (hL:bQ P L) (R:Rel g N bs ρ a w st) {d:Nat} {t:TypeId} {n:Nat} {parts:Array (Nat×Operand)} {K:AV→AS→Prop} (h:ru L d st t n (parts.toList.map fun p=>(p.1,st.ev p.2)) K):
  ∃y u st' ρ' w',K y st'∧Rel g N bs ρ' a w' st'∧C2 (aC g w' ρ' st'.heap) y u∧(Instr.buildSlice t n (parts.map fun(i,x)=>(i,a.eval x))).run P w= .ok u w':=by
 obtain⟨hpl,hpp⟩:=NR R parts
 unfold ru at h
 split at h
 · rename_i ti hti
   split at h
   · rename_i e hk
     have hu:=cZ hL hti hk
     split at h
     · rename_i ei pV
       cases hb:(Nat.ble 1 ei.size&&Nat.beq ei.zero.length ei.size&&Nat.ble (n*ei.size) 65536)with
       |false=>rw[hb]at h;exact h.elim
       | true =>
         rw[hb]at h
         simp only[cond_true]at h
         simp only[Bool.and_eq_true]at hb
         obtain⟨⟨hb1,hb2⟩,hb3⟩:=hb
         have hs:=Nat.le_of_ble_eq_true hb1
         have hzl:=Nat.eq_of_beq_eq_true hb2
         have hbig:=Nat.le_of_ble_eq_true hb3
         obtain⟨z,hz,hzc⟩:=Am hL pV w
         have hzs:z.cells.size=ei.size:=by rw[←Array.length_toList,hzc];exact hzl
         split at h
         · rename_i cs Jq
           have hcells:aI (C0 (aC g w ρ st.heap)) (Xv (ei.zero.map .v) n) ((Array.range (n*ei.size)).map (z.cells[· %z.cells.size]!)).toList:=by
            obtain⟨us,h1,h2⟩:=AB ei.zero n
            rw[h1,FV z.cells ei.size hzs n,hzc,←h2]
            exact FT us
           obtain⟨cells',hf,ha⟩:=EI R hcells hpl hpp Jq
           have hlen:cs.length=n*ei.size:=by
            have:=NS Jq
            rw[this]
            have:=hcells.1
            simpa using this
           have hmod:(Instr.buildSlice t n (parts.map fun(i,x)=>(i,a.eval x))).run P w= .ok (.slice (some ⟨w.heap.size,0,none⟩) n n) (w.alloc (.cells cells' e)):=by
            have hbig': ¬n*ei.size>2^24:=by omega
            by_cases h00:n*ei.size=0
            · have:n=0:=by
               rcases Nat.mul_eq_zero.1 h00 with h|h
               · exact h
               · omega
              subst this
              have hf0:Instr.fill (fun i=>some (i*ei.size,ei.size)) ((Array.range (0*ei.size)).map ((#[]:Array Value)[· %(#[]:Array Value).size]!)) (parts.map fun(i,x)=>(i,a.eval x)).toList=some cells':=by
               have hz0: ∀F:Nat→Value,(Array.range (0*ei.size)).map F= #[]:=by intro F;simp
               rw[hz0]at hf⊢
               exact hf
              simp only[Instr.buildSlice,Sem.run_bind,run_underlying hu,Result.andThen_ok,iw hL pV,if_neg hbig',Sem.run_pure,if_pos h00,hf0]
              simp[newRow]
            · simp only[Instr.buildSlice,Sem.run_bind,run_underlying hu,Result.andThen_ok,iw hL pV,if_neg hbig',Sem.run_pure,if_neg h00,hz,hf]
              simp[newRow]
           cases hp:cs.all DR with
           | false=>
             rw[hp]at h
             simp only[cond_false]at h
             cases hq:(Nat.beq ei.size 1&&Nat.beq cs.length n&&cs.all (vG st.heap))with
             |false=>rw[hq]at h;exact h.elim
             | true=>
               rw[hq]at h
               simp only[cond_true]at h
               simp only[Bool.and_eq_true]at hq
               have hs1:=Nat.eq_of_beq_eq_true hq.1.1
               have hcn:=Nat.eq_of_beq_eq_true hq.1.2
               refine⟨_,.slice (some ⟨w.heap.size,0,none⟩) n n,_,_,_,h,R.adM d e (us:=cells'.toList) (by simp only[maxLen];omega) ha hq.2 hcn,by simp[C2,C1,C0,aC,dD,eP],by simpa using hmod⟩
           | true=>
             rw[hp]at h
             simp only[cond_true]at h
             have hfl:=zo (s:=ei.size) hlen
             have hpc:aI (PC w (aK g w ρ st.heap)) (flat n (chunk ei.size cs)) cells'.toList:=by
              rw[hfl]
              exact⟨ha.1,fun i x u hx hu=>Lm (ha.2 i x u hx hu) (List.all_eq_true.1 hp x (List.mem_of_getElem? hx))⟩
             have hn:n≤n*ei.size:=Nat.le_mul_of_pos_right n hs
             have hR:=R.newRow d e (sc:=cs.all isV) hs (by simp only[maxLen];omega) (Jp hlen) (fun hv x hx=>by
              rw[hfl]at hx
              have:=List.all_eq_true.1 hv x hx
              cases x<;>first|exact⟨_,rfl⟩|(simp[isV]at this)) hpc
             exact⟨_,.slice (some ⟨w.heap.size,0,none⟩) n n,_,_,_,h,hR,by simp[C2,C1,C0,aC,dD,eP],by simpa using hmod⟩
         · exact h.elim
     · exact h.elim
   · exact h.elim
 · exact h.elim
where
 NS {h:List (Nat×AO)} {place:Nat→Option (Nat×Nat)}: ∀ {parts:List (Nat×AV)} {cs cs':List AV},yQ h place cs parts=some cs'→cs'.length=cs.length
   |[],cs,cs',e=>by simp only[yQ,Option.some.injEq]at e;rw[e]
   | (i, x)::r,cs,cs',e=>by
     simp only[yQ]at e
     split at e
     · rename_i o s xs _ _
       cases hb:(Nat.beq xs.length s&&Nat.ble (o+xs.length) cs.length&&xs.all (vG h))with
       |false=>rw[hb]at e;cases e
       | true=>
         rw[hb]at e
         simp only[cond_true]at e
         simp only[Bool.and_eq_true]at hb
         have:=Nat.le_of_ble_eq_true hb.1.2
         rw[NS e,splice]
         simp only[List.length_append,List.length_take,List.length_drop]
         omega
     · cases e
theorem PC.XW {w:World} {k:Nat→Prop} {x:AV} {u:Value} (h:PC w k x u):u.oneCell'=true:=by
 cases h with
 |v x h=>exact h
 |sl=>rfl
theorem PC.AL {w:World} {k:Nat→Prop} {xs:List AV} {us:List Value} (h:aI (PC w k) xs us): ∀u∈us,u.oneCell'=true:=by
 intro u hu
 obtain⟨i,hi,rfl⟩:=List.getElem_of_mem hu
 exact PC.XW (h.2 i _ _ (List.getElem?_eq_getElem (by rw[h.1];exact hi)) (List.getElem?_eq_getElem hi))
theorem Jr (hL:bQ P L) (R:Rel g N bs ρ a w st) {s:Nat} (hs0:0<s) {t:TypeId} {y:AV} {yv:Value} (hy:C2 (aC g w ρ st.heap) y yv) {m:Nat} {sc:Bool} {f:Nat→List AV} (h:Tc L st s t y=some (m,sc,f)):
  ∃us,Src P s t yv m us w∧aI (PC w (aK g w ρ st.heap)) (flat m f) us∧(∀i,i<m→(f i).length=s)∧(sc=true→ ∀x∈flat m f,∃z,x= .v z):=by
 unfold Tc at h
 split at h
 · rename_i ti hti
   split at h
   · rename_i e s' n sc' f' hk
     cases hb:Nat.beq s s' with
     |false=>rw[hb]at h;cases h
     | true=>
       rw[hb]at h
       obtain rfl:=Nat.eq_of_beq_eq_true hb
       simp only[cond_true,Option.some.injEq,Prod.mk.injEq]at h
       obtain⟨rfl,rfl,rfl⟩:=h
       cases C2.uz hy with
       | sl _ _ _ _ A c us _ hnc hcc hl hfl hsc hu' hr=>
         have hall:aI (PC w (aK g w ρ st.heap)) (flat n f') us:=⟨by rw[hl];exact ng hfl,hu'⟩
         refine⟨us, ?_,hall,hfl,hsc⟩
         rcases hr with hz|⟨b,o,rfl,kb,hcell⟩
         · subst hz
           have:us=[]:=List.eq_nil_of_length_eq_zero (by simpa using hl)
           subst this
           cases A with
           |none=>exact Src.ofNil w (cZ hL hti hk) c
           |some aa=>exact Src.ofSlice w (cZ hL hti hk) aa 0 c [] (by simp) (by simp) (by simp)
         · exact Src.ofSlice w (cZ hL hti hk) ⟨b,o,none⟩ n c us hl (fun j u hj=>by rw[Addr.add_lit];exact hcell j u hj) (PC.AL hall)
   · rename_i e id hk
     split at h
     · rename_i e' s' n sc' f' hfo
       cases hb:Nat.beq s s' with
       |false=>rw[hb]at h;cases h
       | true=>
         rw[hb]at h
         obtain rfl:=Nat.eq_of_beq_eq_true hb
         simp only[cond_true,Option.some.injEq,Prod.mk.injEq]at h
         obtain⟨rfl,rfl,rfl⟩:=h
         obtain⟨us,hown,_,hfl,hsc,ha⟩:=R.objs _ (ay hfo)
         have hown:w.ownsRow 0 e' s (ρ id) n us:=hown
         have ha:aI (PC w (aK g w ρ st.heap)) (flat n f') us:=ha
         have hyv:yv=ρ id:=(C2.jU hy).trans (gu hown)
         refine⟨us, ?_,ha,hfl,hsc⟩
         rcases hown.2 with⟨hv,hz⟩|⟨b,cap,cur,hv,_⟩
         · subst hz
           have:us=[]:=List.eq_nil_of_length_eq_zero (by simpa using hown.1)
           subst this
           rw[hyv,hv]
           exact Src.ofNil w (cZ hL hti hk) 0
         · rw[hyv,hv]
           exact Src.ofSlice w (cZ hL hti hk) ⟨b,0,none⟩ n cap us hown.1 (hown.cells (g:=b) (by rw[hv];rfl)) (PC.AL ha)
     · cases h
   · rename_i e c1 hk
     simp only[Option.some.injEq,Prod.mk.injEq]at h
     obtain⟨rfl,rfl,rfl⟩:=h
     obtain rfl:=C2.dM hy
     exact⟨[],Src.ofNil w (cZ hL hti hk) c1,aI.nil,fun i hi=>absurd hi (by omega),fun _ x hx=>by cases hx⟩
   · rename_i b hk
     cases hb:Nat.beq s 1 with
     |false=>rw[hb]at h;cases h
     | true=>
       rw[hb]at h
       have:=Nat.eq_of_beq_eq_true hb
       subst this
       simp only[cond_true,Option.some.injEq,Prod.mk.injEq]at h
       obtain⟨rfl,rfl,rfl⟩:=h
       obtain rfl:=C2.dM hy
       refine⟨byteCells b,Src.ofString w (sG hL hti hk) b, ?_,fun _ _=>rfl,fun _ x hx=> ?_⟩
       · have:=Tz (R:=PC w (aK g w ρ st.heap)) (fun c=> .v _ rfl) b.data.toList
         rw[Array.length_toList]at this
         exact this
       · obtain⟨i,_,hx⟩:=jV.ni.1 hx
         simp only[List.mem_singleton]at hx
         exact⟨_,hx⟩
   · cases h
 · cases h
where
 Tz {R:AV→Value→Prop} (hR: ∀c:UInt8,R (.v (.int .u8 (c.toNat:Int))) (.int .u8 (c.toNat:Int))): ∀l:List UInt8,aI R (flat l.length (fun i=>[.v (.int .u8 ((l.getD i 0).toNat:Int))])) (l.map fun b=>Value.int .u8 b.toNat)
   |[]=>aI.nil
   | c::l=>by
     have ih:=Tz hR l
     have e:flat (c::l).length (fun i=>[AV.v (.int .u8 (((c::l).getD i 0).toNat:Int))])= .v (.int .u8 (c.toNat:Int))::flat l.length (fun i=>[.v (.int .u8 ((l.getD i 0).toNat:Int))]):=by
      show _++_=_
      simp
     rw[e]
     exact aI.cons (hR c) ih
end
theorem Lp (z:Array Value) (s n:Nat) (hz:z.size=s):(madeCells z (n*s)).toList=(List.replicate n z.toList).flatten:=FV z s hz n
theorem AP (cs:List AV): ∀n,flat n (fun _=>cs)=(List.replicate n cs).flatten
  |0=>rfl
  | n+1=>by
    show cs++flat n (fun _=>cs)=_
    rw[AP cs n,List.replicate_succ,List.flatten_cons]
section
variable {P:Program} {L:Lay} {g:Base} {N:Nat} {bs:List (Array Value)} {ρ:Nat→Value} {a:Act} {w:World} {st:AS}
theorem U8 (hL:bQ P L) (R:Rel g N bs ρ a w st) {d:Nat} {t:TypeId} {l c:AV} {lv cv:Value} (hl:C2 (aC g w ρ st.heap) l lv) (hc:C2 (aC g w ρ st.heap) c cv) {K:AV→AS→Prop} (h:Xz L d st t l c K):
  ∃y u st' ρ' w',K y st'∧Rel g N bs ρ' a w' st'∧C2 (aC g w' ρ' st'.heap) y u∧(Instr.makeSlice t lv cv).run P w= .ok u w':=by
 unfold Xz at h
 split at h
 · rename_i ti kl ln kc cn hti
   obtain rfl:=C2.dM hl
   obtain rfl:=C2.dM hc
   split at h
   · rename_i e hk
     have hu:=cZ hL hti hk
     split at h
     · rename_i ei pV
       obtain⟨info,z0,dd,hi1,hi2,hi3,hi4,hi5,hi6,hi7⟩:=jw hL pV
       cases hb:((Nat.ble 1 ei.size&&Nat.beq ei.zero.length ei.size)&&ei.zero.all (fun x=>x.oneCell'))with
       |false=>rw[hb]at h;exact h.elim
       | true=>
         rw[hb]at h
         simp only[cond_true]at h
         simp only[Bool.and_eq_true]at hb
         obtain⟨hb,hone⟩:=hb
         have hs:=Nat.le_of_ble_eq_true hb.1
         have hzl:=Nat.eq_of_beq_eq_true hb.2
         have hzs:z0.cells.size=ei.size:=by rw[←Array.length_toList,hi6];exact hzl
         have hfl: ∀ (n i:Nat),i<n→((fun _=>ei.zero.map AV.v:Nat→List AV) i).length=ei.size:=fun n i _=>by simp[hzl]
         rcases h with⟨h0,hc0,hcb,hcm,h⟩|⟨h0,hlc,hcb,hcm,h⟩
         · subst h0
           obtain⟨c,rfl⟩:=Int.eq_ofNat_of_zero_le hc0
           have hcb':info.bytes*c≤281474976710656:=by rw[hi5,Nat.mul_comm];have:((c*ei.bytes:Nat):Int)≤140737488355328:=(by simpa using hcb);omega
           obtain⟨w',hrun,hown',hgrow⟩:=run_make_own (P:=P) w 0 t e info z0 ei.size hu hi1 hi3 hi4 kl kc c hcb' (by simp only[maxLen];omega) (Nat.zero_le _)
           refine⟨_,.slice (some ⟨w.heap.size,0,none⟩) 0 c,_,dD ρ d (.slice (some ⟨w.heap.size,0,none⟩) 0 c),w',h, ?_,by simp[C2,C1,C0,aC,dD,eP],hrun⟩
           refine R.obj d d (R.below.grown hgrow R.below.size (fun k hk=>by cases hk)) hgrow.size (fun b hb _=>hgrow.block b hb (by simp)) (fun b hb=> ?_) (fun hE=> ?_)
           · rw[List.mem_singleton.1 hb];exact .inl (Nat.le_refl _)
           · exact⟨[],by simpa[aC,dD]using hown',hs,hfl 0,fun _ x hx=>by simp[flat]at hx,aI.nil⟩
         · subst hlc
           obtain⟨c,rfl⟩:=Int.eq_ofNat_of_zero_le h0
           have hcb':info.bytes*c≤281474976710656:=by rw[hi5,Nat.mul_comm];have:((c*ei.bytes:Nat):Int)≤140737488355328:=(by simpa using hcb);omega
           obtain⟨w',hrun,hown',hgrow⟩:=run_make_full (P:=P) w 0 t e info z0 ei.size hu hi1 hi3 hi4 kl kc c hcb' (by simp only[maxLen];omega) (Nat.zero_le _)
           rw[Int.toNat_natCast]at h
           refine⟨_,.slice (some ⟨w.heap.size,0,none⟩) c c,_,dD ρ d (.slice (some ⟨w.heap.size,0,none⟩) c c),w',h, ?_,by simp[C2,C1,C0,aC,dD,eP],hrun⟩
           refine R.obj d d (R.below.grown hgrow R.below.size (fun k hk=>by cases hk)) hgrow.size (fun b hb _=>hgrow.block b hb (by simp)) (fun b hb=> ?_) (fun hE=> ?_)
           · rw[List.mem_singleton.1 hb];exact .inl (Nat.le_refl _)
           · refine⟨_,by simpa[aC,dD]using hown',hs,hfl c,fun _ x hx=> ?_, ?_⟩
             · rw[AP]at hx
               obtain⟨l,hl,hx⟩:=List.mem_flatten.1 hx
               rw[List.eq_of_mem_replicate hl]at hx
               obtain⟨y,_,rfl⟩:=List.mem_map.1 hx
               exact⟨y,rfl⟩
             · rw[AP,Lp z0.cells ei.size c hzs,hi6]
               obtain⟨us,h1,h2⟩:=AB ei.zero c
               have:(List.replicate c (ei.zero.map AV.v)).flatten=us.map .v:=by
                rw[h2,List.map_flatten,List.map_replicate]
               rw[this,←h2]
               exact⟨by simp,fun i x u hx hu=>by
                rw[List.getElem?_map]at hx
                rw[hu]at hx
                cases hx
                refine .v u ?_
                obtain⟨l,hl,hm⟩:=List.mem_flatten.1 (show u∈(List.replicate c ei.zero).flatten by rw[←h2];exact List.mem_of_getElem? hu)
                rw[List.eq_of_mem_replicate hl]at hm
                exact List.all_eq_true.1 hone u hm⟩
     · exact h.elim
   · exact h.elim
 · exact h.elim
end
end
section
open Go.RowKit
section
variable {P:Program} {L:Lay} {g:Base} {N:Nat} {bs:List (Array Value)} {ρ:Nat→Value} {a:Act} {w:World} {st:AS}
theorem oK {w:World} {B:Nat} {e:TypeId} {s n:Nat} {v:Value} {us:List Value} (h:w.ownsRow B e s v n us) {b:Nat}:v.ownBlock=some b↔b∈blks v:=by
 rw[Xp h,Option.mem_toList]
theorem vX: ∀ {n m:Nat} {f f':Nat→List AV},flat (n+m) (pR n f f')=flat n f++flat m f'
  | 0,m,f,f'=>by
    rw[Nat.zero_add]
    exact oh fun i _=>by cases i<;>rfl
  | n+1,m,f,f'=>by
    rw[show n+1+m=(n+m)+1 by omega]
    show pR (n+1) f f' 0++flat (n+m) (fun i=>pR (n+1) f f' (i+1))=f 0++flat n (fun i=>f (i+1))++flat m f'
    have e:(fun i=>pR (n+1) f f' (i+1))=pR n (fun i=>f (i+1)) f':=by
     funext i
     unfold pR
     have e1:Nat.ble (n+1) (i+1)=Nat.ble n i:=rfl
     rw[e1,show i+1-(n+1)=i-n by omega]
    rw[e,vX,List.append_assoc]
    rfl
theorem aaB {s n m:Nat} {f f':Nat→List AV} (h: ∀i,i<n→(f i).length=s) (h': ∀i,i<m→(f' i).length=s): ∀i,i<n+m→(pR n f f' i).length=s:=by
 intro i hi
 unfold pR
 cases hb:Nat.ble n i with
 |true=>exact h' _ (by have:=Nat.le_of_ble_eq_true hb;omega)
 | false=>
   have: ¬n≤i:=fun h=>by rw[Nat.ble_eq_true_of_le h]at hb;cases hb
   exact h i (by omega)
theorem NT (hL:bQ P L) (R:Rel g N bs ρ a w st) {d:Nat} {t tx ty:TypeId} {x y:AV} {xv yv:Value} (hx:C2 (aC g w ρ st.heap) x xv) (hy:C2 (aC g w ρ st.heap) y yv) {K:AV→AS→Prop} (h:KP L d st t tx x y K):
  ∃z u st' ρ' w',K z st'∧Rel g N bs ρ' a w' st'∧C2 (aC g w' ρ' st'.heap) z u∧(Builtin.append_ #[t,tx] ty #[xv,yv]).run P w= .ok u w':=by
 unfold KP at h
 split at h
 · rename_i ti hti
   split at h
   · rename_i e hk
     have hu:=cZ hL hti hk
     split at h
     · rename_i ei pV
       obtain⟨info,z0,dd,hi1,hi2,hi3,hi4,hi5,hi6,hi7⟩:=jw hL pV
       cases hb:(Nat.ble 1 ei.size&&Nat.beq ei.zero.length ei.size)with
       |false=>rw[hb]at h;exact h.elim
       | true=>
         rw[hb]at h
         simp only[cond_true]at h
         simp only[Bool.and_eq_true]at hb
         have hs:=Nat.le_of_ble_eq_true hb.1
         have hzl:=Nat.eq_of_beq_eq_true hb.2
         split at h
         · rename_i m sc' f' hsrc
           obtain⟨news,XY,han,hfn,adN⟩:=Jr hL R hs hy hsrc
           have hzs:z0.cells.size=ei.size:=by rw[←Array.length_toList,hi6];exact hzl
           split at h
           · obtain⟨⟨hq1,hq2⟩,h⟩:=h
             obtain rfl:=C2.dM hx
             obtain⟨v',w',hrun,hown',hgrow,hat⟩:=mZ (P:=P) w 0 t tx ty e info z0 ei.size ei.bytes hu hi1 hi3 hi4 hi5 hzs _ 0 [] (World.ownsRow_nil w _ _ _) yv m news XY (by simp only[maxLen];omega) (by simpa using hq1) (Nat.zero_le _)
             simp only[Nat.zero_add,List.nil_append]at hown'
             refine⟨_,v',_,dD ρ d v',w',h, ?_,by simp[C2,C1,C0,aC,dD,gu hown'],hrun⟩
             refine R.obj d d (R.below.grown hgrow R.below.size (fun k hk=>by simp[Value.ownBlock]at hk)) hgrow.size (fun b hb _=>hgrow.block b hb (by simp[Value.ownBlock])) (fun b hb=> ?_) (fun hE=> ?_) (nY hown')
             · rw[←oK hown']at hb
               rcases hat with h1|h1
               · rw[h1]at hb;simp[Value.ownBlock]at hb
               · rw[h1]at hb;cases hb;exact .inl (Nat.le_refl _)
             · exact⟨news,by simpa[aC,dD]using hown',hs,hfn,adN,han.imp fun _ _=>PC.mono hE.keep hE.mem⟩
           · rename_i id
             split at h
             · rename_i e' s n sc f hfo
               cases hb:(Nat.beq e e'&&Nat.beq s ei.size)with
               |false=>rw[hb]at h;exact h.elim
               | true=>
                 rw[hb]at h
                 simp only[cond_true]at h
                 simp only[Bool.and_eq_true]at hb
                 obtain rfl:=Nat.eq_of_beq_eq_true hb.1
                 have hse:=Nat.eq_of_beq_eq_true hb.2
                 subst hse
                 obtain⟨⟨hq1,hq2⟩,h⟩:=h
                 obtain⟨us,hown,hs0,hfl,hsc,ha⟩:=R.objs _ (ay hfo)
                 have hown:w.ownsRow 0 e ei.size (ρ id) n us:=hown
                 have ha:aI (PC w (aK g w ρ st.heap)) (flat n f) us:=ha
                 have hxv:xv=ρ id:=(C2.jU hx).trans (gu hown)
                 subst hxv
                 obtain⟨v',w',hrun,hown',hgrow,hat⟩:=mZ (P:=P) w 0 t tx ty e info z0 ei.size ei.bytes hu hi1 hi3 hi4 hi5 hzs (ρ id) n us hown yv m news XY (by simp only[maxLen];omega) hq1 (Nat.zero_le _)
                 refine⟨_,v',_,dD ρ d v',w',h, ?_,by simp[C2,C1,C0,aC,dD,gu hown'],hrun⟩
                 refine R.obj d id (R.below.grown hgrow R.below.size (fun k hk=>R.own k (aQ.2 ⟨_,ay hfo,(oK hown).1 hk⟩))) hgrow.size (fun b hb hne=>hgrow.block b hb (fun e=>hne _ (ay hfo) rfl ((oK hown).1 e.symm))) (fun b hb=> ?_) (fun hE=> ?_) (nY hown')
                 · rw[←oK hown']at hb
                   rcases hat with h1|h1
                   · exact .inr ⟨_,ay hfo,rfl,by rw[←oK hown,←h1];exact hb⟩
                   · rw[h1]at hb;cases hb;exact .inl (Nat.le_refl _)
                 · refine⟨us++news,by simpa[aC,dD]using hown',hs,aaB hfl hfn,fun hv x hx=> ?_, ?_⟩
                   · simp only[Bool.and_eq_true]at hv
                     rw[vX]at hx
                     rcases List.mem_append.1 hx with h1|h1
                     · exact hsc hv.1 x h1
                     · exact adN hv.2 x h1
                   · rw[vX]
                     exact(ha.imp fun _ _=>PC.mono hE.keep hE.mem).app (han.imp fun _ _=>PC.mono hE.keep hE.mem)
             · exact h.elim
           · exact h.elim
         · have hzs :z0.cells.size=ei.size:=by rw[←Array.length_toList,hi6];exact hzl
           unfold ab4 at h
           split at h
           · rename_i j adO _
             split at h
             · rename_i e2 e3 ds hk' hfj
               cases hb:(Nat.beq ei.size 1&&Nat.ble ei.bytes 1024&&Nat.ble ds.length 1024)with
               |false=>rw[hb]at h;exact h.elim
               | true=>
                 rw[hb]at h
                 simp only[cond_true]at h
                 simp only[Bool.and_eq_true]at hb
                 have hs1:=Nat.eq_of_beq_eq_true hb.1.1
                 have hby:=Nat.le_of_ble_eq_true hb.1.2
                 have hdl:=Nat.le_of_ble_eq_true hb.2
                 obtain⟨news,⟨Js,XZ⟩,haj⟩:=R.objs _ (ay hfj)
                 have Js:w.ownsRow 0 e3 1 (ρ j) ds.length news:=Js
                 have haj:aI (C0 (aC g w ρ st.heap)) ds news:=haj
                 have hyv:yv=ρ j:=(C2.jU hy).trans (gu Js)
                 have hnl:news.length=ds.length:=haj.1.symm
                 have XY:Src P ei.size tx yv ds.length news w:=by
                  rw[hs1]
                  rcases Js.2 with⟨hv,hz⟩|⟨b,cap,cur,hv,_⟩
                  · have:news=[]:=List.eq_nil_of_length_eq_zero (by omega)
                    subst this
                    rw[hyv,hv,hz]
                    exact Src.ofNil w (cZ hL adO hk') 0
                  · rw[hyv,hv]
                    exact Src.ofSlice w (cZ hL adO hk') ⟨b,0,none⟩ ds.length cap news Js.1 (Js.cells (g:=b) (by rw[hv];rfl)) XZ
                 have hq: ∀k,k≤2048→k*ei.bytes≤140737488355328:=fun k hk=>Nat.le_trans (Nat.mul_le_mul hk hby) (by omega)
                 split at h
                 · obtain rfl:=C2.dM hx
                   obtain⟨v',w',hrun,hown',hgrow,hat⟩:=mZ (P:=P) w 0 t tx ty e info z0 ei.size ei.bytes hu hi1 hi3 hi4 hi5 hzs _ 0 [] (World.ownsRow_nil w _ _ _) yv ds.length news XY (by simp only[maxLen];omega) (hq _ (by omega)) (Nat.zero_le _)
                   simp only[Nat.zero_add,List.nil_append]at hown'
                   refine⟨_,v',_,dD ρ d v',w',h, ?_,by simp[C2,C1,C0,aC,dD,gu hown'],hrun⟩
                   refine R.obj d d (R.below.grown hgrow R.below.size (fun k hk=>by simp[Value.ownBlock]at hk)) hgrow.size (fun b hb _=>hgrow.block b hb (by simp[Value.ownBlock])) (fun b hb=> ?_) (fun hE=> ?_) (nY hown')
                   · rw[←oK hown']at hb
                     rcases hat with h1|h1
                     · rw[h1]at hb;simp[Value.ownBlock]at hb
                     · rw[h1]at hb;cases hb;exact .inl (Nat.le_refl _)
                   · rw[hs1]at hown'
                     exact⟨news,⟨by simpa[aC,dD]using hown',XZ⟩,haj.mO fun _ _=>C0.ext hE⟩
                 · rename_i id
                   split at h
                   · rename_i e' cs hfo
                     cases hb:(Nat.beq e e'&&Nat.ble cs.length 1024)with
                     |false=>rw[hb]at h;exact h.elim
                     | true=>
                       rw[hb]at h
                       simp only[cond_true]at h
                       simp only[Bool.and_eq_true]at hb
                       obtain rfl:=Nat.eq_of_beq_eq_true hb.1
                       have hcl:=Nat.le_of_ble_eq_true hb.2
                       obtain⟨us,⟨hown,hone⟩,ha⟩:=R.objs _ (ay hfo)
                       have hown:w.ownsRow 0 e 1 (ρ id) cs.length us:=hown
                       have ha:aI (C0 (aC g w ρ st.heap)) cs us:=ha
                       have hxv:xv=ρ id:=(C2.jU hx).trans (gu hown)
                       subst hxv
                       obtain⟨v',w',hrun,hown',hgrow,hat⟩:=mZ (P:=P) w 0 t tx ty e info z0 ei.size ei.bytes hu hi1 hi3 hi4 hi5 hzs (ρ id) cs.length us (by rw[hs1];exact hown) yv ds.length news XY (by simp only[maxLen];omega) (hq _ (by omega)) (Nat.zero_le _)
                       refine⟨_,v',_,dD ρ d v',w',h, ?_,by simp[C2,C1,C0,aC,dD,gu hown'],hrun⟩
                       refine R.obj d id (R.below.grown hgrow R.below.size (fun k hk=>R.own k (aQ.2 ⟨_,ay hfo,(oK hown).1 hk⟩))) hgrow.size (fun b hb hne=>hgrow.block b hb (fun e=>hne _ (ay hfo) rfl ((oK hown).1 e.symm))) (fun b hb=> ?_) (fun hE=> ?_) (nY hown')
                       · rw[←oK hown']at hb
                         rcases hat with h1|h1
                         · exact .inr ⟨_,ay hfo,rfl,by rw[←oK hown,←h1];exact hb⟩
                         · rw[h1]at hb;cases hb;exact .inl (Nat.le_refl _)
                       · rw[hs1]at hown'
                         refine⟨us++news,⟨by simpa[aC,dD]using hown',fun u hu=>(List.mem_append.1 hu).elim (hone u) (XZ u)⟩, ?_⟩
                         rw[List.map_append]
                         exact(ha.mO fun _ _=>C0.ext hE).app (haj.mO fun _ _=>C0.ext hE)
                   · exact h.elim
                 · exact h.elim
             · exact h.elim
           · exact h.elim
     · exact h.elim
   · exact h.elim
 · exact h.elim
theorem C0.thaw {X Y:CX} (hk: ∀b,X.keep b→Y.keep b) (hm: ∀b,X.keep b→Y.w.heap[b]? =X.w.heap[b]?) (hρ:Y.ρ=X.ρ) {id s n:Nat} {sc:Bool} {f:Nat→List AV} (hrow:PC Y.w Y.keep (.sl s n sc f) (eP (X.ρ id))) {av:AV} {u:Value} (h:C0 X av u):
  C0 Y (Ah id (.sl s n sc f) av) u:=by
 cases av with
 | own i=>
   simp only[Ah]
   cases hb:Nat.beq i id with
   | true=>
     obtain rfl:=Nat.eq_of_beq_eq_true hb
     have hu:u=eP (X.ρ i):=h
     rw[hu]
     exact hrow
   |false=>exact C0.same hk hm hρ h
 |_=>exact C0.same hk hm hρ h
theorem C1.thaw {X Y:CX} (hk: ∀b,X.keep b→Y.keep b) (hm: ∀b,X.keep b→Y.w.heap[b]? =X.w.heap[b]?) (hρ:Y.ρ=X.ρ) {id s n:Nat} {sc:Bool} {f:Nat→List AV} (hrow:PC Y.w Y.keep (.sl s n sc f) (eP (X.ρ id))) {av:AV} {u:Value} (h:C1 X av u):
  C1 Y (Xw id (.sl s n sc f) av) u:=by
 cases av with
 |agg cs=>obtain⟨us,e,ha⟩:=h;exact⟨us,e,ha.mO fun _ _=>C0.thaw hk hm hρ hrow⟩
 |fn gg cs=>obtain⟨us,e,ha⟩:=h;exact⟨us,e,ha.mO fun _ _=>C0.thaw hk hm hρ hrow⟩
 | own i=>
   have h0:=C0.thaw hk hm hρ hrow (av:= .own i) h
   simp only[Ah]at h0
   simp only[Xw]
   revert h0
   cases Nat.beq i id<;>exact fun h=>h
 |v x=>exact C1.same hk hm hρ (av:= .v x) h
 |sl s n sc f=>exact C1.same hk hm hρ (av:= .sl s n sc f) h
 |dP i s j k=>exact C1.same hk hm hρ (av:= .dP i s j k) h
 |jq i s j k=>exact C1.same hk hm hρ (av:= .jq i s j k) h
 |box i k=>exact C1.same hk hm hρ (av:= .box i k) h
 |cf gg i k=>exact C1.same hk hm hρ (av:= .cf gg i k) h
 |el cs k=>exact C1.same hk hm hρ (av:= .el cs k) h
 |junk=>trivial
 |dF vs=>exact h
theorem C2.thaw {X Y:CX} (hk: ∀b,X.keep b→Y.keep b) (hm: ∀b,X.keep b→Y.w.heap[b]? =X.w.heap[b]?) (hρ:Y.ρ=X.ρ) {id s n:Nat} {sc:Bool} {f:Nat→List AV} (hrow:PC Y.w Y.keep (.sl s n sc f) (eP (X.ρ id))) {av:AV} {u:Value} (h:C2 X av u):
  C2 Y (DT id (.sl s n sc f) av) u:=by
 cases av with
 |dF vs=>obtain⟨us,e,ha⟩:=h;exact⟨us,e,ha.mO fun _ _=>C1.thaw hk hm hρ hrow⟩
 |agg cs=>exact C2.jP (C1.thaw hk hm hρ hrow (av:= .agg cs) h)
 |fn gg cs=>exact C2.jP (C1.thaw hk hm hρ hrow (av:= .fn gg cs) h)
 |own i=>exact C2.jP (C1.thaw hk hm hρ hrow (av:= .own i) h)
 |v x=>exact C2.jP (C1.thaw hk hm hρ hrow (av:= .v x) h)
 |sl s n sc f=>exact C2.jP (C1.thaw hk hm hρ hrow (av:= .sl s n sc f) h)
 |dP i s j k=>exact C2.jP (C1.thaw hk hm hρ hrow (av:= .dP i s j k) h)
 |jq i s j k=>exact C2.jP (C1.thaw hk hm hρ hrow (av:= .jq i s j k) h)
 |box i k=>exact C2.jP (C1.thaw hk hm hρ hrow (av:= .box i k) h)
 |cf gg i k=>exact C2.jP (C1.thaw hk hm hρ hrow (av:= .cf gg i k) h)
 |el cs k=>exact C2.jP (C1.thaw hk hm hρ hrow (av:= .el cs k) h)
 |junk=>trivial
theorem Rel.freeze (R:Rel g N bs ρ a w st) {id:Nat} {e:TypeId} {s n:Nat} {sc:Bool} {f:Nat→List AV} (hf:aP id st.heap=some (.row e s n sc f)):
  Rel g N bs ρ a w (st.freeze id s n sc f)∧PC w (aK g w ρ (st.freeze id s n sc f).heap) (.sl s n sc f) (ρ id):=by
 have hblocks:ah ρ (st.freeze id s n sc f).heap=ah ρ (st.heap.filter fun p=> !Nat.beq p.1 id):=by
  simp[AS.freeze,ah,List.flatMap_map]
 have hsub: ∀b,b∈ah ρ (st.freeze id s n sc f).heap→b∈ah ρ st.heap:=fun b h=>by rw[hblocks]at h;exact gY h
 have hk: ∀b,aK g w ρ st.heap b→aK g w ρ (st.freeze id s n sc f).heap b:=fun b h=>⟨h.1,h.2.1,fun h'=>h.2.2 (hsub b h')⟩
 have hm: ∀b,aK g w ρ st.heap b→w.heap[b]? =w.heap[b]? :=fun _ _=>rfl
 obtain⟨us,hown,hs0,hfl,hsc,ha⟩:=R.objs _ (ay hf)
 have hown:w.ownsRow 0 e s (ρ id) n us:=hown
 have ha:aI (PC w (aK g w ρ st.heap)) (flat n f) us:=ha
 have hrow:PC w (aK g w ρ (st.freeze id s n sc f).heap) (.sl s n sc f) (ρ id):=by
  have ha':=ha.imp fun _ _=>PC.mono hk hm
  rcases hown.2 with⟨hv,hz⟩|⟨b,cap,cur,hv,hB,hh,hnc,hcm,_⟩
  · rw[hv]
    subst hz
    exact .sl s 0 sc f none 0 us hs0 (Nat.le_refl _) (by simp[maxLen]) hown.1 hfl hsc ha'.2 (.inl rfl)
  · rw[hv]
    refine .sl s n sc f _ cap us hs0 hnc hcm hown.1 hfl hsc ha'.2 (.inr ⟨b,0,rfl,⟨(Array.getElem?_eq_some_iff.1 hh).1,fun hlt=>(R.own b (aQ.2 ⟨_,ay hf,by rw[hv];exact List.mem_cons_self⟩)).elim (fun h=>absurd hlt (by omega)) .inr, ?_⟩,fun j u hj=> ?_⟩)
    · intro hin
      rw[hblocks]at hin
      obtain⟨p,hp,hpe⟩:=aQ.1 hin
      obtain⟨hp1,hp2⟩:=List.mem_filter.1 hp
      have:=fG R.apart p hp1 _ (ay hf) hpe (by rw[hv];exact List.mem_cons_self)
      simp[this]at hp2
    · have:=hown.cells (g:=b) (by rw[hv];rfl) j u hj
      rwa [Addr.add_lit]at this
 have hrow':PC w (aK g w ρ (st.freeze id s n sc f).heap) (.sl s n sc f) (eP (ρ id)):=by rw[gu hown];exact hrow
 refine⟨⟨R.size,R.defers,R.below,fun t=>by rw[show(st.freeze id s n sc f).tmps t=DT id (.sl s n sc f) (st.tmps t)from qA rfl st.sl t];exact C2.thaw (X:=aC g w ρ st.heap) (Y:=aC g w ρ (st.freeze id s n sc f).heap) hk hm rfl hrow' (R.tmps t), ?_, ?_,fun b hb=>R.own b (hsub b hb),R.back.map rfl fun _ _=>C2.thaw (X:=aC g w ρ st.heap) (Y:=aC g w ρ (st.freeze id s n sc f).heap) hk hm rfl hrow'⟩,hrow⟩
 · intro p hp
   simp only[AS.freeze,List.mem_map]at hp
   obtain⟨q,hq,rfl⟩:=hp
   have ho:=R.objs q (List.mem_filter.1 hq).1
   refine bn.move (X:=aC g w ρ st.heap) (Y:=aC g w ρ (st.freeze id s n sc f).heap) hk hm rfl (fun _ _=>rfl) ?_ ho
   cases q.2 with
   |box t cs=>exact⟨rfl,fun us ha=>ha.mO fun _ _=>C0.thaw (X:=aC g w ρ st.heap) (Y:=aC g w ρ (st.freeze id s n sc f).heap) hk hm rfl hrow'⟩
   |row=>rfl
   |mp t ks rs=>exact⟨rfl,rfl,mG id ks,fun vs hv=>hv.vK fun _ _=>rfl⟩
   |obs o=>rfl
   |rn e' cs=>exact⟨rfl,by simp,fun us ha=>ha.mO fun _ _=>C0.thaw (X:=aC g w ρ st.heap) (Y:=aC g w ρ (st.freeze id s n sc f).heap) hk hm rfl hrow'⟩
 · rw[hblocks]
   exact pO R.apart
theorem Rel.iJ (R:Rel g N bs ρ a w st) {id:Nat} {t:TypeId} {cs:List AV} (hf:aP id st.heap=some (.box t cs)):
  Rel g N bs ρ a w (st.iJ id)∧ ∃b us,ρ id= .pointer (some ⟨b,0,none⟩)∧w.heap[b]? =some (.cells us.toArray t (0,0))∧aI (C0 (aC g w ρ st.heap)) cs us∧aK g w ρ (st.iJ id).heap b∧
   (∀b,aK g w ρ st.heap b→aK g w ρ (st.iJ id).heap b):=by
 have hblocks:ah ρ (st.iJ id).heap=ah ρ (st.heap.filter fun p=> !Nat.beq p.1 id):=mW ρ id _
 have hsub: ∀b,b∈ah ρ (st.iJ id).heap→b∈ah ρ st.heap:=fun b h=>by rw[hblocks]at h;exact gY h
 have hk: ∀b,aK g w ρ st.heap b→aK g w ρ (st.iJ id).heap b:=fun b h=>⟨h.1,h.2.1,fun h'=>h.2.2 (hsub b h')⟩
 have hE:Ext id (aC g w ρ st.heap) (aC g w ρ (st.iJ id).heap):=⟨hk,fun _ _=>rfl,fun _ _=> .refl _⟩
 obtain⟨b,us,hv,hh,ha⟩:=R.objs _ (ay hf)
 have hv:ρ id= .pointer (some ⟨b,0,none⟩):=hv
 refine⟨⟨R.size,R.defers,R.below,fun t=>by rw[show(st.iJ id).tmps t=sD id (st.tmps t)from qA rfl st.sl t];exact C2.ext hE (R.tmps t), ?_, ?_,fun b hb=>R.own b (hsub b hb),R.back.map rfl fun _ _=>C2.ext hE⟩,
  b,us,hv,hh,ha,⟨(Array.getElem?_eq_some_iff.1 hh).1,fun hlt=>(R.own b (aQ.2 ⟨_,ay hf,by rw[hv];exact List.mem_cons_self⟩)).elim (fun h=>absurd hlt (by omega)) .inr, ?_⟩,hk⟩
 · intro p hp
   simp only[AS.iJ,nX,List.mem_map]at hp
   obtain⟨q,hq,rfl⟩:=hp
   obtain⟨hq1,hq2⟩:=List.mem_filter.1 hq
   exact bn.ext hE rfl (fun _ _=>rfl) (R.objs q hq1)
 · rw[hblocks]
   exact pO R.apart
 · intro hin
   rw[hblocks]at hin
   obtain⟨p,hp,hpe⟩:=aQ.1 hin
   obtain⟨hp1,hp2⟩:=List.mem_filter.1 hp
   have:=fG R.apart p hp1 _ (ay hf) hpe (by rw[hv];exact List.mem_cons_self)
   simp[this]at hp2
theorem PC.cut {w:World} {k:Nat→Prop} {s n:Nat} {sc:Bool} {f:Nat→List AV} {A:Option Addr} {c:Nat} (h:PC w k (.sl s n sc f) (.slice A n c)) {lo hi:Nat} (h1:lo≤hi) (h2:hi≤n):
  PC w k (.sl s (hi-lo) sc (fun i=>f (lo+i))) (.slice (if c=lo then A else A.map (·.add (lo*s))) (hi-lo) (c-lo)):=by
 cases h with
 | sl _ _ _ _ _ _ us hs0 hnc hcc hl hfl hsc hu' hr=>
   have hlh:(hi-lo)*s=hi*s-lo*s:=Nat.sub_mul hi lo s
   have h1s:lo*s≤hi*s:=Nat.mul_le_mul_right _ h1
   have h2s:hi*s≤n*s:=Nat.mul_le_mul_right _ h2
   have adP: ∀ {n:Nat} {f:Nat→List AV},(∀i,i<n→(f i).length=s)→ ∀lo hi,lo≤hi→hi≤n→flat (hi-lo) (fun i=>f (lo+i))=((flat n f).drop (lo*s)).take ((hi-lo)*s):=fun h lo hi=>oW h lo hi
   have hfc:=adP hfl lo hi h1 h2
   have hall:aI (PC w k) (flat n f) us:=⟨by rw[hl];exact ng hfl,hu'⟩
   have hall':=(hall.drop (lo*s)).take ((hi-lo)*s)
   rw[←hfc]at hall'
   refine .sl s (hi-lo) sc _ _ _ ((us.drop (lo*s)).take ((hi-lo)*s)) hs0 (by omega) (by omega) ?_ (fun i hi'=>hfl (lo+i) (by omega)) ?_ hall'.2 ?_
   · rw[List.length_take,List.length_drop,hl];omega
   · intro hv x hx
     rw[hfc]at hx
     exact hsc hv x (List.mem_of_mem_drop (List.mem_of_mem_take hx))
   · rcases hr with hz|⟨b,o,rfl,kb,hcell⟩
     · left;omega
     · by_cases hcl:c=lo
       · left;omega
       · right
         rw[if_neg hcl]
         refine⟨b,o+lo*s,by simp[Addr.add_lit],kb,fun j u hj=> ?_⟩
         rw[List.getElem?_take]at hj
         split at hj
         · rw[List.getElem?_drop]at hj
           rw[Nat.add_assoc]
           exact hcell _ u hj
         · cases hj
where
 oW {s:Nat}: ∀ {n:Nat} {f:Nat→List AV},(∀i,i<n→(f i).length=s)→ ∀lo hi,lo≤hi→hi≤n→flat (hi-lo) (fun i=>f (lo+i))=((flat n f).drop (lo*s)).take ((hi-lo)*s)
   | 0,f,_,lo,hi,h1,h2=>by
     have:hi=0:=by omega
     subst this
     simp[flat]
   |n+1,f,h,0,0,_,_=>by simp[flat]
   | n+1,f,h,0,hi+1,_,h2=>by
     have ih:=oW (n:=n) (f:=fun i=>f (i+1)) (fun i hi=>h (i+1) (by omega)) 0 hi (by omega) (by omega)
     have e:flat (hi+1-0) (fun i=>f (0+i))=f 0++flat hi (fun i=>f (i+1)):=by simp[flat]
     have e2:flat (n+1) f=f 0++flat n (fun i=>f (i+1)):=rfl
     have h0:=h 0 (by omega)
     rw[e,e2]
     simp only[Nat.sub_zero,Nat.zero_mul,List.drop_zero,Nat.zero_add]at ih⊢
     rw[ih,Nat.succ_mul,List.take_append,List.take_of_length_le (l:=f 0) (by omega),h0,show hi*s+s-s=hi*s by omega]
   | n+1,f,h,lo+1,hi,h1,h2=>by
     obtain⟨hi',rfl⟩: ∃k,hi=k+1:=⟨hi-1,by omega⟩
     have ih:=oW (n:=n) (f:=fun i=>f (i+1)) (fun i hi=>h (i+1) (by omega)) lo hi' (by omega) (by omega)
     have e2:flat (n+1) f=f 0++flat n (fun i=>f (i+1)):=rfl
     have h0:=h 0 (by omega)
     rw[show hi'+1-(lo+1)=hi'-lo by omega,e2,Nat.succ_mul,List.drop_append,List.drop_of_length_le (l:=f 0) (by omega),List.nil_append,h0,show lo*s+s-s=lo*s by omega,←ih]
     apply oh
     intro i _
     congr 1
     omega
theorem jr (k:IntKind) (i:Int) (y:Nat) (code:BoundsCode) (h0:0≤i) (h1:i≤(y:Int)) (w:World):(Instr.sliceBound (.int k i) y code).run P w= .ok i.toNat w:=by
 simp[Instr.sliceBound,asIntOf,h0,h1]
theorem qg {t e:TypeId} {ei:TI} (hL:bQ P L) (hu:P.underlying t=some (.slice e)) (pV:aZ L e=some ei) {A:Option Addr} {n c l h:Nat} {lo hi:Option Value} (w:World)
  (hb:(Instr.sliceBounds true n c lo hi none).run P w= .ok (l,h,c) w):(Instr.sliceAt t (.slice A n c) lo hi none).run P w= .ok (.slice (if c=l then A else A.map (·.add (l*ei.size))) (h-l) (c-l)) w:=by
 simp only[Instr.sliceAt,Instr.slice,Sem.run_bind,run_underlying hu,Result.andThen_ok,hb,iw hL pV,Sem.run_pure]
theorem NU (hL:bQ P L) {X:CX} {t:TypeId} {ti:TI} {e:TypeId} (hti:aZ L t=some ti) (hk:ti.kind= .slice e) {ei:TI} (pV:aZ L e=some ei) {n:Nat} {sc:Bool} {f:Nat→List AV} {xv:Value} (hx:PC X.w X.keep (.sl ei.size n sc f) xv)
  {lo hi:Option AV} {QI hiv:Option Value} (hlo: ∀y,lo=some y→ ∃v,QI=some v∧C2 X y v) (Ew:lo=none→QI=none) (hhi: ∀y,hi=some y→ ∃v,hiv=some v∧C2 X y v) (Ey:hi=none→hiv=none) {K:AV→Prop} (h:UY ei.size n sc f lo hi K) (w:World):
  ∃z u,K z∧PC X.w X.keep z u∧(Instr.sliceAt t xv QI hiv none).run P w= .ok u w:=by
 have hu:=cZ hL hti hk
 cases hx with
 | sl _ _ _ _ A c us hs0 hnc hcc hl hfl hsc hu' hr=>
   have hx:PC X.w X.keep (.sl ei.size n sc f) (.slice A n c):= .sl ei.size n sc f A c us hs0 hnc hcc hl hfl hsc hu' hr
   have fin: ∀ {l hh:Nat},l≤hh→hh≤n→K (.sl ei.size (hh-l) sc (fun i=>f (l+i)))→(Instr.sliceBounds true n c QI hiv none).run P w= .ok (l,hh,c) w→ ∃z u,K z∧PC X.w X.keep z u∧(Instr.sliceAt t (.slice A n c) QI hiv none).run P w= .ok u w:=
    fun h1 h2 hk hb=>⟨_,_,hk,PC.cut hx h1 h2,qg hL hu pV w hb⟩
   unfold UY at h;simp only[Cj]at h
   split at h
   · rw[Ew rfl,Ey rfl]at fin⊢
     refine fin (l:=0) (hh:=n) (by omega) (by omega) ?_ (by simp[Instr.sliceBounds])
     simpa using h
   · rename_i k hh
     obtain⟨v,hv,hc⟩:=hhi _ rfl
     obtain rfl:=C2.dM hc
     rw[Ew rfl,hv]at fin⊢
     cases hb:inB hh (n+1)with
     |false=>rw[hb]at h;exact h.elim
     | true=>
       rw[hb]at h
       obtain⟨h0,h1⟩:=jh hb
       refine fin (l:=0) (hh:=hh.toNat) (by omega) (by omega) (by simpa using h) ?_
       simp[Instr.sliceBounds,jr k hh c _ h0 (by omega)]
   · rename_i k ll
     obtain⟨v,hv,hc⟩:=hlo _ rfl
     obtain rfl:=C2.dM hc
     rw[Ey rfl,hv]at fin⊢
     cases hb:inB ll (n+1)with
     |false=>rw[hb]at h;exact h.elim
     | true=>
       rw[hb]at h
       obtain⟨h0,h1⟩:=jh hb
       refine fin (l:=ll.toNat) (hh:=n) (by omega) (by omega) h ?_
       simp[Instr.sliceBounds,jr k ll n _ h0 (by omega)]
   · rename_i k ll k' hh
     obtain⟨v,hv,hc⟩:=hlo _ rfl
     obtain rfl:=C2.dM hc
     obtain⟨v',hv',hc'⟩:=hhi _ rfl
     obtain rfl:=C2.dM hc'
     rw[hv,hv']at fin⊢
     cases hb:inB hh (n+1)with
     |false=>rw[hb]at h;exact h.elim
     | true=>
       rw[hb]at h
       simp only[cond_true]at h
       obtain⟨h0,h1⟩:=jh hb
       cases hb':inB ll (hh.toNat+1)with
       |false=>rw[hb']at h;exact h.elim
       | true=>
         rw[hb']at h
         obtain⟨h2,h3⟩:=jh hb'
         refine fin (l:=ll.toNat) (hh:=hh.toNat) (by omega) (by omega) h ?_
         simp[Instr.sliceBounds,jr k' hh c _ h0 (by omega),jr k ll hh.toNat _ h2 (by omega)]
   · exact h.elim
theorem FW {X:CX} {n:Nat} {lo hi:Option AV} {QI hiv:Option Value} (hlo: ∀y,lo=some y→ ∃v,QI=some v∧C2 X y v) (Ew:lo=none→QI=none) (hhi: ∀y,hi=some y→ ∃v,hiv=some v∧C2 X y v) (Ey:hi=none→hiv=none) {K:Nat→Nat→Prop} (h:Xy n lo hi K) (w:World):
  ∃l hh,l≤hh∧hh≤n∧K l hh∧ ∀c,n≤c→(Instr.sliceBounds true n c QI hiv none).run P w= .ok (l,hh,c) w:=by
 unfold Xy at h;simp only[Cj]at h
 split at h
 · rw[Ew rfl,Ey rfl]
   exact⟨0,n,by omega,by omega,h,fun c _=>by simp[Instr.sliceBounds]⟩
 · rename_i k hh
   obtain⟨v,hv,hc⟩:=hhi _ rfl
   obtain rfl:=C2.dM hc
   rw[Ew rfl,hv]
   cases hb:inB hh (n+1)with
   |false=>rw[hb]at h;exact h.elim
   | true=>
     rw[hb]at h
     obtain⟨h0,h1⟩:=jh hb
     exact⟨0,hh.toNat,by omega,by omega,h,fun c hnc=>by simp[Instr.sliceBounds,jr k hh c _ h0 (by omega)]⟩
 · rename_i k ll
   obtain⟨v,hv,hc⟩:=hlo _ rfl
   obtain rfl:=C2.dM hc
   rw[Ey rfl,hv]
   cases hb:inB ll (n+1)with
   |false=>rw[hb]at h;exact h.elim
   | true=>
     rw[hb]at h
     obtain⟨h0,h1⟩:=jh hb
     exact⟨ll.toNat,n,by omega,by omega,h,fun c hnc=>by simp[Instr.sliceBounds,jr k ll n _ h0 (by omega)]⟩
 · rename_i k ll k' hh
   obtain⟨v,hv,hc⟩:=hlo _ rfl
   obtain rfl:=C2.dM hc
   obtain⟨v',hv',hc'⟩:=hhi _ rfl
   obtain rfl:=C2.dM hc'
   rw[hv,hv']
   cases hb:inB hh (n+1)with
   |false=>rw[hb]at h;exact h.elim
   | true=>
     rw[hb]at h
     simp only[cond_true]at h
     obtain⟨h0,h1⟩:=jh hb
     cases hb':inB ll (hh.toNat+1)with
     |false=>rw[hb']at h;exact h.elim
     | true=>
       rw[hb']at h
       obtain⟨h2,h3⟩:=jh hb'
       exact⟨ll.toNat,hh.toNat,by omega,by omega,h,fun c hnc=>by simp[Instr.sliceBounds,jr k' hh c _ h0 (by omega),jr k ll hh.toNat _ h2 (by omega)]⟩
 · exact h.elim
theorem U9 (hL:bQ P L) {X:CX} {t:TypeId} {ti:TI} (hti:aZ L t=some ti) (hk:ti.kind= .str) {b:ByteArray}
  {lo hi:Option AV} {QI hiv:Option Value} (hlo: ∀y,lo=some y→ ∃v,QI=some v∧C2 X y v) (Ew:lo=none→QI=none) (hhi: ∀y,hi=some y→ ∃v,hiv=some v∧C2 X y v) (Ey:hi=none→hiv=none) {K:AV→Prop} (h:Xx b lo hi K) (w:World):
  ∃z u,K z∧C2 X z u∧(Instr.sliceAt t (.string b) QI hiv none).run P w= .ok u w:=by
 have hu:=sG hL hti hk
 have fin: ∀ {l hh:Nat},K (.v (.string (b.extract l hh)))→(Instr.sliceBounds false b.size b.size QI hiv none).run P w= .ok (l,hh,b.size) w→ ∃z u,K z∧C2 X z u∧(Instr.sliceAt t (.string b) QI hiv none).run P w= .ok u w:=by
  intro l hh hk hb
  refine⟨_,_,hk,rfl, ?_⟩
  simp[Instr.sliceAt,Instr.slice,run_underlying hu,hb]
 unfold Xx at h;simp only[Cj]at h
 split at h
 · rw[Ew rfl,Ey rfl]at fin⊢
   refine fin (l:=0) (hh:=b.size) ?_ (by simp[Instr.sliceBounds])
   simpa using h
 · rename_i k hh
   obtain⟨v,hv,hc⟩:=hhi _ rfl
   obtain rfl:=C2.dM hc
   rw[Ew rfl,hv]at fin⊢
   cases hb:inB hh (b.size+1)with
   |false=>rw[hb]at h;exact h.elim
   | true=>
     rw[hb]at h
     obtain⟨h0,h1⟩:=jh hb
     refine fin (l:=0) (hh:=hh.toNat) h ?_
     simp[Instr.sliceBounds,jr k hh b.size _ h0 (by omega)]
 · rename_i k ll
   obtain⟨v,hv,hc⟩:=hlo _ rfl
   obtain rfl:=C2.dM hc
   rw[Ey rfl,hv]at fin⊢
   cases hb:inB ll (b.size+1)with
   |false=>rw[hb]at h;exact h.elim
   | true=>
     rw[hb]at h
     obtain⟨h0,h1⟩:=jh hb
     refine fin (l:=ll.toNat) (hh:=b.size) h ?_
     simp[Instr.sliceBounds,jr k ll b.size _ h0 (by omega)]
 · rename_i k ll k' hh
   obtain⟨v,hv,hc⟩:=hlo _ rfl
   obtain rfl:=C2.dM hc
   obtain⟨v',hv',hc'⟩:=hhi _ rfl
   obtain rfl:=C2.dM hc'
   rw[hv,hv']at fin⊢
   cases hb:inB hh (b.size+1)with
   |false=>rw[hb]at h;exact h.elim
   | true=>
     rw[hb]at h
     simp only[cond_true]at h
     obtain⟨h0,h1⟩:=jh hb
     cases hb':inB ll (hh.toNat+1)with
     |false=>rw[hb']at h;exact h.elim
     | true=>
       rw[hb']at h
       obtain⟨h2,h3⟩:=jh hb'
       refine fin (l:=ll.toNat) (hh:=hh.toNat) h ?_
       simp[Instr.sliceBounds,jr k' hh b.size _ h0 (by omega),jr k ll hh.toNat _ h2 (by omega)]
 · exact h.elim
theorem FX (hL:bQ P L) (R:Rel g N bs ρ a w st) {t:TypeId} {x:AV} {xv:Value} {lo hi mx:Option Operand} (hx:C2 (aC g w ρ st.heap) x xv) {K:AV→AS→Prop} (h:aslice L st t x (lo.map st.ev) (hi.map st.ev) (mx.map st.ev) K):
  ∃z u st' ρ',K z st'∧Rel g N bs ρ' a w st'∧C2 (aC g w ρ' st'.heap) z u∧(Instr.sliceAt t xv (lo.map a.eval) (hi.map a.eval) (mx.map a.eval)).run P w= .ok u w∧((∀id,x≠ .own id)→ρ'=ρ):=by
 have side: ∀ {X:CX} {o:Option Operand},(∀x,C2 X (st.ev x) (a.eval x))→(∀y,o.map st.ev=some y→ ∃v,o.map a.eval=some v∧C2 X y v)∧(o.map st.ev=none→o.map a.eval=none):=by
  intro X o hX
  cases o with
  |none=>exact⟨(fun y h=>by cases h),fun _=>rfl⟩
  |some o=>exact⟨(fun y h=>by cases h;exact⟨_,rfl,hX o⟩),(fun h=>by cases h)⟩
 unfold aslice at h
 split at h
 · rename_i ti hmx hti
   have aey:mx=none:=by cases mx with|none=>rfl|some m=>cases hmx
   subst aey
   split at h
   · rename_i e s n sc f hk
     split at h
     · rename_i ei pV
       cases hb:Nat.beq s ei.size with
       |false=>rw[hb]at h;exact h.elim
       | true=>
         rw[hb]at h
         simp only[cond_true]at h
         obtain rfl:=Nat.eq_of_beq_eq_true hb
         obtain⟨s1,s2⟩:=side (o:=lo) R.ev
         obtain⟨s3,s4⟩:=side (o:=hi) R.ev
         obtain⟨z,u,hk',hp,hr⟩:=NU (X:=aC g w ρ st.heap) hL hti hk pV (C2.uz hx) s1 s2 s3 s4 h w
         exact⟨z,u,st,ρ,hk',R,C2.sZ (C0.Qq hp),hr,fun _=>rfl⟩
     · exact h.elim
   · rename_i e hk
     split at h
     rotate_left
     · exact h.elim
     rename_i ei pV
     obtain rfl:=C2.dM hx
     obtain⟨s1,s2⟩:=side (o:=lo) R.ev
     obtain⟨s3,s4⟩:=side (o:=hi) R.ev
     obtain⟨l,hh,g1,g2,g3,g4⟩:=FW (X:=aC g w ρ st.heap) (P:=P) s1 s2 s3 s4 h w
     have e1:l=0:=by omega
     have e2:hh=0:=by omega
     subst e1 e2
     have hu:=cZ hL hti hk
     exact⟨_,.slice none 0 0,st,ρ,g3,R,rfl,qg (A:=none) hL hu pV w (g4 0 (Nat.le_refl _)),fun _=>rfl⟩
   · rename_i e id hk
     split at h
     · rename_i e' s n sc f hfo
       split at h
       · rename_i ei pV
         cases hb:Nat.beq s ei.size with
         |false=>rw[hb]at h;exact h.elim
         | true =>
           rw[hb]at h
           simp only[cond_true]at h
           obtain rfl:=Nat.eq_of_beq_eq_true hb
           have hxv:xv=ρ id:=(C2.jU hx).trans (Af (X:=aC g w ρ st.heap) (R.objs _ (ay hfo)))
           subst hxv
           have hu:=cZ hL hti hk
           obtain⟨us,hown,hs0,hfl,hsc,ha⟩:=R.objs _ (ay hfo)
           have hown:w.ownsRow 0 e' ei.size (ρ id) n us:=hown
           have ha:aI (PC w (aK g w ρ st.heap)) (flat n f) us:=ha
           obtain⟨s1,s2⟩:=side (o:=lo) R.ev
           obtain⟨s3,s4⟩:=side (o:=hi) R.ev
           rcases h with h|h|h
           · obtain⟨R',hrow⟩:=R.freeze hfo
             obtain⟨z,u,hk',hp,hr⟩:=X0 (X:=aC g w ρ st.heap) (Y:=aC g w ρ (st.freeze id ei.size n sc f).heap) hL hti hk pV hrow R.ev h w
             exact⟨z,u,_,ρ,hk',R',C2.sZ (C0.Qq hp),hr,fun _=>rfl⟩
           · obtain⟨l,hh,g1,g2,g3,g4⟩:=FW (X:=aC g w ρ st.heap) (P:=P) s1 s2 s3 s4 h w
             rcases hown.2 with⟨hv,hz⟩|⟨b,cap,cur,hv,hB,hcur,hnc,hcm,hcs,htake⟩
             · have e1:l=0:=by omega
               have e2:hh=0:=by omega
               subst e1 e2 hz
               refine⟨_,.slice none 0 0,st,ρ,g3,R,.inr ⟨rfl,none,0,rfl⟩, ?_,fun _=>rfl⟩
               rw[hv]
               exact qg (A:=none) hL hu pV w (g4 0 (by omega))
             · have hsl:=qg (A:=some ⟨b,0,none⟩) hL hu pV w (g4 cap hnc)
               by_cases hc:cap=l
               · have e0:hh-l=0:=by omega
                 refine⟨_,.slice (some ⟨b,0,none⟩) (hh-l) (cap-l),st,ρ,g3,R,.inr ⟨e0,some ⟨b,0,none⟩,cap-l,by rw[e0]⟩,by rw[hv];simpa[hc]using hsl,fun _=>rfl⟩
               · refine⟨_,.slice (some ⟨b,l*ei.size,none⟩) (hh-l) (cap-l),st,ρ,g3,R,.inl ⟨b,cap-l, ?_,by omega,rfl⟩, ?_,fun _=>rfl⟩
                 · show jm (eP (ρ id))=[b]
                   rw[hv];rfl
                 · rw[hv];rw[if_neg hc]at hsl;simpa only[Option.map_some,Addr.add_lit,Nat.zero_add,Option.map_none]using hsl
           · obtain⟨l,hh,g1,g2,g3,g4⟩:=FW (X:=aC g w ρ st.heap) (P:=P) s1 s2 s3 s4 h w
             cases hl:Nat.beq l 0 with
             |false=>rw[hl]at g3;exact g3.elim
             | true=>
               rw[hl]at g3
               obtain rfl:=Nat.eq_of_beq_eq_true hl
               simp only[cond_true,iW]at g3
               have XU:us.length=n*ei.size:=hown.1
               have hhn:hh*ei.size≤n*ei.size:=Nat.mul_le_mul_right _ g2
               have key: ∀v,w.ownsRow 0 e' ei.size v hh (us.take (hh*ei.size))→(∀b∈blks v,b∈blks (ρ id))→Rel g N bs (dD ρ st.base v) a w (st.obj st.base id (.row e' ei.size hh sc f)):=fun v hov hbv=>by
                refine R.obj st.base id R.below (Nat.le_refl _) (fun _ _ _=>rfl) (fun b hb=> .inr ⟨_,ay hfo,rfl,hbv b hb⟩) (fun hE=> ?_) (nY hov)
                refine⟨us.take (hh*ei.size),by simpa[aC,dD]using hov,hs0,fun i hi=>hfl i (by omega),fun hv x hx=> ?_, ?_⟩
                · obtain⟨i,hi,hx⟩:=jV.ni.1 hx
                  exact hsc hv x (jV.ni.2 ⟨i,by omega,hx⟩)
                · have:=PC.cut.oW (n:=0) (lo:=0) (hi:=0) hfl 0 hh (Nat.zero_le _) g2
                  simp only[Nat.sub_zero,Nat.zero_add,Nat.zero_mul,List.drop_zero]at this
                  rw[this]
                  exact(ha.imp fun _ _=>PC.mono hE.keep hE.mem).take _
               rcases hown.2 with⟨hv,hz⟩|⟨b,cap,cur,hv,hB,hcur,hnc,hcm,hcs,htake⟩
               · have e2:hh=0:=by omega
                 subst e2 hz
                 refine⟨_,.slice none 0 0,_,_,g3,key _ ⟨by simp,.inl ⟨rfl,rfl⟩⟩ (fun b hb=>by cases hb),by simp[C2,C1,C0,aC,dD,eP], ?_,fun hne=>absurd rfl (hne id)⟩
                 rw[hv]
                 exact qg (A:=none) hL hu pV w (g4 0 (by omega))
               · have hsl:=qg (A:=some ⟨b,0,none⟩) hL hu pV w (g4 cap hnc)
                 refine⟨_,.slice (some ⟨b,0,none⟩) hh cap,_,_,g3,key _ ⟨by rw[List.length_take,XU,Nat.min_eq_left hhn],.inr ⟨b,cap,cur,rfl,hB,hcur,by omega,hcm,hcs,by rw[←htake,List.take_take,Nat.min_eq_left hhn]⟩⟩ (fun c hc=>by rw[hv];exact hc),by simp[C2,C1,C0,aC,dD,eP], ?_,fun hne=>absurd rfl (hne id)⟩
                 rw[hv]
                 simpa[Addr.add]using hsl
       · exact h.elim
     · exact h.elim
   · rename_i b hk
     obtain rfl:=C2.dM hx
     obtain⟨s1,s2⟩:=side (o:=lo) R.ev
     obtain⟨s3,s4⟩:=side (o:=hi) R.ev
     obtain⟨z,u,hk',hp,hr⟩:=U9 (X:=aC g w ρ st.heap) hL hti hk s1 s2 s3 s4 h w
     exact⟨z,u,st,ρ,hk',R,hp,hr,fun _=>rfl⟩
   · rename_i m e id k hk
     rcases h with h|h|h
     split at h
     · rename_i cs ei hlo hhi hfo pV
       have Ew:lo=none:=by cases lo with|none=>rfl|some m=>cases hlo
       have Ey:hi=none:=by cases hi with|none=>rfl|some m=>cases hhi
       subst Ew Ey
       cases hb:(Nat.ble 1 ei.size&&Nat.beq cs.length (m*ei.size)&&Nat.ble m 65536&&cs.all DR)with
       |false=>rw[hb]at h;exact h.elim
       | true=>
         rw[hb]at h
         simp only[cond_true]at h
         simp only[Bool.and_eq_true]at hb
         obtain⟨⟨⟨hb1,hb2⟩,hb3⟩,hp⟩:=hb
         have hs:=Nat.le_of_ble_eq_true hb1
         have hlen:=Nat.eq_of_beq_eq_true hb2
         have hm:=Nat.le_of_ble_eq_true hb3
         have hu:=oV hL hti hk
         obtain⟨R',b,us,hv,hh,ha,hkb,hkk⟩:=R.iJ hfo
         obtain⟨b',hb',hxv⟩:=C2.kN hx
         have hb':eP (ρ id)= .pointer (some ⟨b',0,none⟩):=hb'
         rw[hv]at hb'
         cases hb'
         subst hxv
         have XU:us.length=m*ei.size:=by rw[←ha.1,hlen]
         have hfl:=zo (s:=ei.size) hlen
         have hpc:aI (PC w (aK g w ρ (st.iJ id).heap)) (flat m (chunk ei.size cs)) us:=by
          rw[hfl]
          exact⟨ha.1,fun i x u hx hu=>PC.mono hkk (fun _ _=>rfl) (Lm (ha.2 i x u hx hu) (List.all_eq_true.1 hp x (List.mem_of_getElem? hx)))⟩
         refine⟨_,.slice (some ⟨b,0,none⟩) m m,_,ρ,h,R',C2.sZ (C0.Qq (X:=aC g w ρ (st.iJ id).heap) (.sl ei.size m _ _ _ m us hs (Nat.le_refl _) (by simp only[maxLen];omega) XU (Jp hlen) (fun hv x hx=> ?_) hpc.2 (.inr ⟨b,0,rfl,hkb,fun j u hj=> ?_⟩))), ?_⟩
         · rw[hfl]at hx
           have:=List.all_eq_true.1 hv x hx
           cases x<;>first|exact⟨_,rfl⟩|(simp[isV]at this)
         · have hj':(us.toArray)[j]? =some u:=by simpa using hj
           simp only[World.cell?,aC,hh,Nat.zero_add]
           simpa using hj
         · refine⟨?_,fun _=>rfl⟩
           simp[Instr.sliceAt,run_underlying hu,Instr.sliceBounds,Instr.sureAddr,iw hL pV,Addr.add]
     · exact h.elim
     · split at h
       · rename_i ei hlo hhi pV
         have Ew:lo=none:=by cases lo with|none=>rfl|some m=>cases hlo
         have Ey:hi=none:=by cases hi with|none=>rfl|some m=>cases hhi
         subst Ew Ey
         have hu:=oV hL hti hk
         obtain⟨b,hb,rfl⟩:=C2.kN hx
         have hb:eP (ρ id)= .pointer (some ⟨b,0,none⟩):=hb
         refine⟨_,.slice (some ⟨b,k*1,none⟩) m m,st,ρ,h,R,.inl ⟨b,m,by show jm (eP (ρ id))=[b];rw[hb];rfl,Nat.le_refl _,rfl⟩, ?_,fun _=>rfl⟩
         simp[Instr.sliceAt,run_underlying hu,Instr.sliceBounds,Instr.sureAddr,iw hL pV,Addr.add]
       · exact h.elim
     · exact h.elim
   · exact h.elim
 · exact h.elim
where
 X0 (hL:bQ P L) {X Y:CX} {t:TypeId} {ti:TI} {e:TypeId} (hti:aZ L t=some ti) (hk:ti.kind= .slice e) {ei:TI} (pV:aZ L e=some ei) {n:Nat} {sc:Bool} {f:Nat→List AV} {xv:Value} (hx:PC Y.w Y.keep (.sl ei.size n sc f) xv)
   {lo hi:Option Operand} (hev: ∀o,C2 X (st.ev o) (a.eval o)) {K:AV→Prop} (h:UY ei.size n sc f (lo.map st.ev) (hi.map st.ev) K) (w:World):
   ∃z u,K z∧PC Y.w Y.keep z u∧(Instr.sliceAt t xv (lo.map a.eval) (hi.map a.eval) none).run P w= .ok u w:=by
  --the bounds are plain numbers:they read in either memory alike
  have plain: ∀o:Operand,(∃k n,st.ev o= .v (.int k n))→C2 Y (st.ev o) (a.eval o):=by
   rintro o ⟨k,n,e⟩
   have:=hev o
   rw[e]at this⊢
   exact this
  have side: ∀ {o:Option Operand},(∀x,o=some x→ ∃k n,st.ev x= .v (.int k n))→(∀y,o.map st.ev=some y→ ∃v,o.map a.eval=some v∧C2 Y y v)∧(o.map st.ev=none→o.map a.eval=none):=by
   intro o ho
   cases o with
   |none=>exact⟨(fun y h=>by cases h),fun _=>rfl⟩
   |some o=>exact⟨(fun y h=>by cases h;exact⟨_,rfl,plain o (ho o rfl)⟩),(fun h=>by cases h)⟩
  have h':=h
  unfold UY at h';simp only[Cj]at h'
  have ints:(∀x,lo=some x→ ∃k n,st.ev x= .v (.int k n))∧(∀x,hi=some x→ ∃k n,st.ev x= .v (.int k n)):=by
   split at h'
   · rename_i e1 e2
     exact⟨(fun x e=>by rw[e]at e1;cases e1),fun x e=>by rw[e]at e2;cases e2⟩
   · rename_i k hh e1 e2
     exact⟨(fun x e=>by rw[e]at e1;cases e1),fun x e=>by rw[e]at e2;simp only[Option.map_some,Option.some.injEq]at e2;exact⟨_,_,e2⟩⟩
   · rename_i k hh e1 e2
     exact⟨(fun x e=>by rw[e]at e1;simp only[Option.map_some,Option.some.injEq]at e1;exact⟨_,_,e1⟩),fun x e=>by rw[e]at e2;cases e2⟩
   · rename_i k ll k' hh e1 e2
     exact⟨(fun x e=>by rw[e]at e1;simp only[Option.map_some,Option.some.injEq]at e1;exact⟨_,_,e1⟩),fun x e=>by rw[e]at e2;simp only[Option.map_some,Option.some.injEq]at e2;exact⟨_,_,e2⟩⟩
   · exact h'.elim
  obtain⟨s1,s2⟩:=side ints.1
  obtain⟨s3,s4⟩:=side ints.2
  exact NU (X:=Y) hL hti hk pV hx s1 s2 s3 s4 h w
end
section
variable {P:Program} {L:Lay} {g:Base} {N:Nat} {bs:List (Array Value)} {ρ:Nat→Value} {a:Act} {w:World} {st:AS}
theorem FY (hL:bQ P L) (_R:Rel g N bs ρ a w st) {t:TypeId} {x:AV} {xv:Value} (hx:C2 (aC g w ρ st.heap) x xv) {K:AV→Prop} (h:Qz L t x K):
  ∃z u,K z∧C2 (aC g w ρ st.heap) z u∧(Instr.arrayAt t xv).run P w= .ok u w:=by
 unfold Qz at h
 split at h
 · rename_i ti s n sc f hti
   split at h
   · rename_i m e hk
     have hu:=oV hL hti hk
     split at h
     · rename_i ei pV
       cases hb:(Nat.beq s ei.size&&Nat.ble 1 m)with
       |false=>rw[hb]at h;exact h.elim
       | true =>
         rw[hb]at h
         simp only[cond_true]at h
         simp only[Bool.and_eq_true]at hb
         have hm:=Nat.le_of_ble_eq_true hb.2
         obtain⟨hmn,h⟩:=h
         cases C2.uz hx with
         | sl _ _ _ _ A c us hs0 hnc hcc hl hfl hsc hu' hr=>
           rcases hr with h0|⟨b,o,rfl,kb,hcell⟩
           · omega
           · have hall:aI (PC w (aK g w ρ st.heap)) (flat n f) us:=⟨by rw[hl];exact ng hfl,hu'⟩
             have hpre:flat m f=(flat n f).take (m*s):=by
              have:=PC.cut.oW (n:=0) (lo:=0) (hi:=0) hfl 0 m (Nat.zero_le _) hmn
              simpa using this
             refine⟨_,.pointer (some ⟨b,o,none⟩),h,⟨b,o,us.take (m*s),by simp,kb,by rw[hpre];exact hall.take _,fun j y hj=> ?_⟩, ?_⟩
             · rw[List.getElem?_take]at hj
               split at hj
               · exact hcell j y hj
               · cases hj
             · have: ¬n<m:=by omega
               simp[Instr.arrayAt,run_underlying hu,this]
     · exact h.elim
   · exact h.elim
 · exact h.elim
end
section
variable {P:Program} {L:Lay} {g:Base} {N:Nat} {bs:List (Array Value)} {ρ:Nat→Value} {a:Act} {w:World} {st:AS}
theorem Rel.adQ (R:Rel g N bs ρ a w st) {id:Nat} {o':AO} (lK:bn (aC g w ρ st.heap) id o'):Rel g N bs ρ a w ⟨st.sl,setObj id o' st.heap,st.back,st.base⟩:=by
 have hk: ∀k,aK g w ρ st.heap k→aK g w ρ (setObj id o' st.heap) k:=fun k h=>⟨h.1,h.2.1,by rw[jE];exact h.2.2⟩
 refine⟨R.size,R.defers,R.below,fun t=>C2.same (X:=aC g w ρ st.heap) (Y:=aC g w ρ (setObj id o' st.heap)) hk (fun _ _=>rfl) rfl (R.tmps t),fun p hp=> ?_,by rw[jE];exact R.apart,by rw[jE];exact R.own,R.back.imp fun _ _=>C2.same (X:=aC g w ρ st.heap) (Y:=aC g w ρ (setObj id o' st.heap)) hk (fun _ _=>rfl) rfl⟩
 rcases uq hp with rfl|hp'
 · exact bn.same (X:=aC g w ρ st.heap) (Y:=aC g w ρ (setObj id o' st.heap)) hk (fun _ _=>rfl) rfl (fun _ _=>rfl) lK
 · exact bn.same (X:=aC g w ρ st.heap) (Y:=aC g w ρ (setObj id o' st.heap)) hk (fun _ _=>rfl) rfl (fun _ _=>rfl) (R.objs p hp')
theorem NV {n lo k:Nat} {f f':Nat→List AV} (h:lo+k≤n):flat n (Tm lo k f f')=flat lo f++(flat k f'++flat (n-(lo+k)) (fun i=>f (lo+k+i))):=by
 obtain⟨r,rfl⟩: ∃r,n=lo+(k+r):=⟨n-(lo+k),by omega⟩
 rw[show lo+(k+r)-(lo+k)=r by omega]
 unfold Tm
 rw[vX,vX]
theorem aaC {S:AV→Value→Prop} {s n lo k:Nat} {f f':Nat→List AV} {us vs:List Value} (h:lo+k≤n) (hfl: ∀i,i<n→(f i).length=s) (ha:aI S (flat n f) us) (hv:aI S (flat k f') vs):
  aI S (flat n (Tm lo k f f')) (us.take (lo*s)++vs++us.drop ((lo+k)*s)):=by
 rw[NV h,List.append_assoc]
 have e1:=PC.cut.oW (n:=0) (lo:=0) (hi:=0) hfl 0 lo (Nat.zero_le _) (by omega)
 simp only[Nat.sub_zero,Nat.zero_add,Nat.zero_mul,List.drop_zero]at e1
 have e2:=PC.cut.oW (n:=0) (lo:=0) (hi:=0) hfl (lo+k) n h (Nat.le_refl _)
 have hl:(flat n f).length=n*s:=ng hfl
 rw[List.take_of_length_le (by rw[List.length_drop,hl,Nat.sub_mul];exact Nat.le_refl _)]at e2
 rw[e1,e2]
 exact(ha.take _).app (hv.app (ha.drop _))
theorem TA {s n lo k:Nat} {f f':Nat→List AV} (_:lo+k≤n) (hfl: ∀i,i<n→(f i).length=s) (hgl: ∀i,i<k→(f' i).length=s): ∀i,i<n→(Tm lo k f f' i).length=s:=by
 intro i hi
 unfold Tm pR
 cases h1:Nat.ble lo i with
 |false=>exact hfl i hi
 | true=>
   have h1:=Nat.le_of_ble_eq_true h1
   simp only[cond_true]
   cases h2:Nat.ble k (i-lo)with
   | true=>
     have h2:=Nat.le_of_ble_eq_true h2
     exact hfl _ (by omega)
   | false=>
     refine hgl _ ?_
     rcases Nat.lt_or_ge (i-lo) k with h3|h3
     · exact h3
     · rw[Nat.ble_eq_true_of_le h3]at h2;cases h2
theorem adR {n lo k:Nat} {f f':Nat→List AV} (h:lo+k≤n) (hf: ∀x∈flat n f,∃y,x= .v y) (hg: ∀x∈flat k f',∃y,x= .v y): ∀x∈flat n (Tm lo k f f'),∃y,x= .v y:=by
 intro x hx
 rw[NV h]at hx
 rcases List.mem_append.1 hx with hx|hx
 · obtain⟨i,hi,hx⟩:=jV.ni.1 hx
   exact hf x (jV.ni.2 ⟨i,by omega,hx⟩)
 · rcases List.mem_append.1 hx with hx|hx
   · exact hg x hx
   · obtain⟨i,hi,hx⟩:=jV.ni.1 hx
     exact hf x (jV.ni.2 ⟨lo+k+i,by omega,hx⟩)
theorem Rel.QJ (R:Rel g N bs ρ a w st) {id:Nat} {e:TypeId} {s n:Nat} {sc sc':Bool} {f f':Nat→List AV} (hf:aP id st.heap=some (.row e s n sc f)) {lo k:Nat} {vs:List Value} (hlk:lo+k≤n) (hgl: ∀i,i<k→(f' i).length=s)
  (hav:aI (PC w (aK g w ρ st.heap)) (flat k f') vs) (hsv:sc'=true→sc=true∧ ∀x∈flat k f',∃y,x= .v y):
  (k=0→Rel g N bs ρ a w ⟨st.sl,setObj id (.row e s n sc' (Tm lo k f f')) st.heap,st.back,st.base⟩)∧
  (0<k→ ∀b,jm (eP (ρ id))=[b]→ ∃w',(storeCells ⟨b,lo*s,none⟩ vs 0).run P w= .ok () w'∧Rel g N bs ρ a w' ⟨st.sl,setObj id (.row e s n sc' (Tm lo k f f')) st.heap,st.back,st.base⟩):=by
 obtain⟨us,hown,hs0,hfl,hsc,ha⟩:=R.objs _ (ay hf)
 have hown:w.ownsRow 0 e s (ρ id) n us:=hown
 have ha:aI (PC w (aK g w ρ st.heap)) (flat n f) us:=ha
 have XU:us.length=n*s:=hown.1
 have hvl:vs.length=k*s:=by rw[←hav.1,ng hgl]
 have hall:=aaC hlk hfl ha hav
 have hv':sc'=true→ ∀x∈flat n (Tm lo k f f'),∃y,x= .v y:=fun h=>adR hlk (hsc (hsv h).1) (hsv h).2
 refine⟨fun hk0=>R.adQ ?_,fun hk0 b hb=> ?_⟩
 · subst hk0
   refine⟨us,hown,hs0,TA hlk hfl hgl,hv', ?_⟩
   have e0:vs=[]:=List.eq_nil_of_length_eq_zero (by omega)
   subst e0
   have hall':aI (PC w (aK g w ρ st.heap)) (flat n (Tm lo 0 f f')) us:=by simpa using hall
   exact hall'
 · rcases hown.2 with⟨_,hz⟩|⟨b',cap,cur,hv,hB,hh,hnc,hcm,hcs,htake⟩
   · omega
   · have hb2:jm (eP (ρ id))=[b']:=by rw[hv];rfl
     rw[hb2]at hb
     cases hb
     have hls:(lo+k)*s≤n*s:=Nat.mul_le_mul_right _ hlk
     rw[Nat.add_mul]at hls
     have hns:n*s≤cap*s:=Nat.mul_le_mul_right _ hnc
     have hrun:=run_storeCells_at P b (lo*s) e vs 0 cur w hh (by omega) (PC.AL hav)
     refine⟨_,hrun,R.write hf (b:=b) (by rw[hv];exact List.mem_cons_self) pW (by simp[World.setRow]) (fun k' hk'=>setRow_other w b k' _ (by omega)) (fun hk hm=> ?_)⟩
     refine⟨us.take (lo*s)++vs++us.drop ((lo+k)*s),⟨?_,.inr ⟨b,cap,_,hv,hB,setRow_heap w b _ _ e _ hh,hnc,hcm, ?_, ?_⟩⟩,hs0,TA hlk hfl hgl,hv',hall.imp fun _ _=>PC.mono hk hm⟩
     · simp only[List.length_append,List.length_take,List.length_drop,hvl,XU,Nat.add_mul]
       omega
     · simp only[List.size_toArray,List.length_append,List.length_take,List.length_drop,Array.length_toList,hcs,hvl]
       omega
     · rw[←htake]
       have:=jV.DW cur.toList (lo*s) vs (n*s) (by omega) (by rw[Array.length_toList];omega)
       rw[show lo*s+vs.length=(lo+k)*s by rw[hvl,Nat.add_mul]]at this
       simpa using this
theorem sH {t tx ty e:TypeId} {s:Nat} (hu:P.underlying t=some (.slice e)) (hsz:(sizeOf e).run P w= .ok s w) {yv:Value} {vs:List Value} (hS:Src P s tx yv 0 vs w) (A:Option Addr) (m c:Nat):
  (Builtin.copy_ #[t,tx] ty #[.slice A m c,yv]).run P w= .ok (goInt 0) w:=by
 have hv:vs=[]:=List.eq_nil_of_length_eq_zero (by simpa using hS.newsLen)
 subst hv
 have hc:=hS.cells
 cases A<;>simp[Builtin.copy_,run_underlying hu,hS.len,hsz,hc,storeCells]
theorem sJ {t tx ty e:TypeId} {s n m c:Nat} (hu:P.underlying t=some (.slice e)) (hsz:(sizeOf e).run P w= .ok s w) {yv:Value} {vs:List Value} (hS:Src P s tx yv n vs w) (hn:n≤m) {b:Addr} {w':World} (hst:(storeCells b vs 0).run P w= .ok () w'):
  (Builtin.copy_ #[t,tx] ty #[.slice (some b) m c,yv]).run P w= .ok (goInt n) w':=by
 have hc:=hS.cells
 simp[Builtin.copy_,run_underlying hu,hS.len,hsz,Nat.min_eq_left hn,hc,hst]
theorem FZ {t e ty:TypeId} {z:Value} {s m c:Nat} (hu:P.underlying t=some (.slice e)) (hz:(zeroValue e).run P w= .ok z w) (hzs:z.cells.size=s) {b:Addr} {w':World} (hm:0<m) (hst:(storeCells b (List.replicate m z.cells.toList).flatten 0).run P w= .ok () w'):
  (Builtin.clear_ #[t] ty #[.slice (some b) m c]).run P w= .ok (.tuple #[]) w':=by
 obtain⟨m,rfl⟩: ∃k,m=k+1:=⟨m-1,by omega⟩
 have e1:(Builtin.zeroCells z.cells (m+1)).toList=(List.replicate (m+1) z.cells.toList).flatten:=by
  have:=FV z.cells s hzs (m+1)
  rw[←hzs]at this
  exact this
 simp[Builtin.clear_,run_underlying hu,hz,e1,hst]
theorem X3 (hL:bQ P L) (R:Rel g N bs ρ a w st) {s:Nat} (hs0:0<s) {t:TypeId} {y:AV} {yv:Value} (hy:C2 (aC g w ρ st.heap) y yv) {K:Nat→Bool→(Nat→List AV)→Prop} (h:acG L st s t y K):
  ∃m sc f us,K m sc f∧Src P s t yv m us w∧aI (PC w (aK g w ρ st.heap)) (flat m f) us∧(∀i,i<m→(f i).length=s)∧(sc=true→ ∀x∈flat m f,∃z,x= .v z):=by
 unfold acG at h
 split at h
 · rename_i id s1 lo m
   split at h
   · rename_i ti hti
     split at h
     · rename_i e e' s' r sc f hk hfo
       cases hb:(Nat.beq s s1&&Nat.beq s s')with
       |false=>rw[hb]at h;exact h.elim
       | true=>
         rw[hb]at h
         simp only[Bool.and_eq_true]at hb
         obtain rfl:=Nat.eq_of_beq_eq_true hb.1
         obtain rfl:=Nat.eq_of_beq_eq_true hb.2
         obtain⟨hmr,h⟩:=h
         obtain⟨us,hown,_,hfl,hsc,ha⟩:=R.objs _ (ay hfo)
         have hown:w.ownsRow 0 e' s (ρ id) r us:=hown
         have ha:aI (PC w (aK g w ρ st.heap)) (flat r f) us:=ha
         have hcut:=PC.cut.oW (n:=0) (lo:=0) (hi:=0) hfl lo (lo+m) (by omega) hmr
         rw[show lo+m-lo=m by omega]at hcut
         have hall:=(ha.drop (lo*s)).take (m*s)
         rw[←hcut]at hall
         have aaD: ∀i,i<m→(f (lo+i)).length=s:=fun i hi=>hfl _ (by omega)
         have XU:((us.drop (lo*s)).take (m*s)).length=m*s:=by rw[←hall.1,ng aaD]
         refine⟨m,sc,_,(us.drop (lo*s)).take (m*s),h, ?_,hall,aaD,fun h x hx=> ?_⟩
         · rcases C2.rD hy with⟨b,c,hbk,hmc,rfl⟩|⟨hm0,A,c,rfl⟩
           · rcases hown.2 with⟨hv,hz⟩|⟨b',cap,cur,hv,_⟩
             · have hbk:jm (eP (ρ id))=[b]:=hbk
               rw[hv]at hbk
               cases hbk
             · have hbk:jm (eP (ρ id))=[b]:=hbk
               rw[hv]at hbk
               cases hbk
               have hcell:=hown.cells (g:=b') (by rw[hv];rfl)
               refine Src.ofSlice w (cZ hL hti hk) ⟨b',lo*s,none⟩ m c _ XU (fun j u hj=> ?_) (PC.AL hall)
               rw[List.getElem?_take]at hj
               split at hj
               · rw[List.getElem?_drop]at hj
                 have:=hcell _ _ hj
                 rw[Addr.add_lit]at this⊢
                 rwa [Nat.zero_add]at this
               · cases hj
           · subst hm0
             rw[show(us.drop (lo*s)).take (0*s)=[] by simp]
             cases A with
             | none=>
               have:=Src.ofNil (P:=P) (size:=s) w (cZ hL hti hk) c
               exact this
             |some aa=>exact Src.ofSlice w (cZ hL hti hk) aa 0 c [] (by simp) (by simp) (by simp)
         · rw[hcut]at hx
           exact hsc h x (List.mem_of_mem_drop (List.mem_of_mem_take hx))
     · exact h.elim
   · exact h.elim
 · split at h
   · rename_i n sc' g' hsrc
     obtain⟨us,h1,h2,h3,h4⟩:=Jr hL R hs0 hy hsrc
     exact⟨n,sc',g',us,h,h1,h2,h3,h4⟩
   · exact h.elim
theorem Va (hL:bQ P L) (R:Rel g N bs ρ a w st) {t tx ty:TypeId} {x y:AV} {xv yv:Value} (hx:C2 (aC g w ρ st.heap) x xv) (hy:C2 (aC g w ρ st.heap) y yv) {K:AV→AS→Prop} (h:XK L st t tx x y K):
  ∃z u st' w',K z st'∧Rel g N bs ρ a w' st'∧C2 (aC g w' ρ st'.heap) z u∧(Builtin.copy_ #[t,tx] ty #[xv,yv]).run P w= .ok u w':=by
 unfold XK at h
 split at h
 · rename_i ti hti
   split at h
   · rename_i e hk
     have hu:=cZ hL hti hk
     split at h
     · rename_i ei pV
       · cases hb : Nat.ble 1 ei.size with
         |false=>rw[hb]at h;exact h.elim
         | true=>
           rw[hb]at h
           simp only[cond_true]at h
           have hs:=Nat.le_of_ble_eq_true hb
           have hsz:=iw hL pV w
           have h':=X3 hL R hs hy h
           clear h
           obtain⟨n,sc',f',vs,h,hS,hav,hgl,hsv⟩:=h'
           split at h
           · rename_i id
             split at h
             · rename_i e' s m sc f hfo
               cases hb:Nat.beq s ei.size with
               |false=>rw[hb]at h;exact h.elim
               | true=>
                 rw[hb]at h
                 obtain rfl:=Nat.eq_of_beq_eq_true hb
                 obtain⟨hnm,h⟩:=h
                 obtain⟨us,hown,_⟩:=R.objs _ (ay hfo)
                 have hown:w.ownsRow 0 e' ei.size (ρ id) m us:=hown
                 have hxv:xv=ρ id:=(C2.jU hx).trans (gu hown)
                 subst hxv
                 obtain⟨h0,h1⟩:=R.QJ (P:=P) hfo (lo:=0) (k:=n) (f':=f') (sc':=sc&&sc') (vs:=vs) (by omega) hgl hav (fun h=>by simp only[Bool.and_eq_true]at h;exact⟨h.1,hsv h.2⟩)
                 rcases Nat.eq_zero_or_pos n with hn|hn
                 · refine⟨_,_,_,w,h,h0 hn,rfl, ?_⟩
                   subst hn
                   rcases hown.2 with⟨hv,hz⟩|⟨b,cap,cur,hv,_⟩<;>rw[hv]<;>exact sH hu hsz hS _ _ _
                 · rcases hown.2 with⟨hv,hz⟩|⟨b,cap,cur,hv,_⟩
                   · omega
                   · obtain⟨w',hst,R'⟩:=h1 hn b (by rw[hv];rfl)
                     refine⟨_,_,_,w',h,R',rfl, ?_⟩
                     rw[hv]
                     rw[Nat.zero_mul]at hst
                     exact sJ hu hsz hS hnm hst
             · exact h.elim
           · rename_i id s lo m
             split at h
             · rename_i e' s' r sc f hfo
               cases hb:(Nat.beq s ei.size&&Nat.beq s' s)with
               |false=>rw[hb]at h;exact h.elim
               | true=>
                 rw[hb]at h
                 simp only[Bool.and_eq_true]at hb
                 obtain rfl:=Nat.eq_of_beq_eq_true hb.1
                 obtain rfl:=Nat.eq_of_beq_eq_true hb.2
                 obtain⟨⟨hnm,hmr⟩,h⟩:=h
                 obtain⟨h0,h1⟩:=R.QJ (P:=P) hfo (lo:=lo) (k:=n) (f':=f') (sc':=sc&&sc') (vs:=vs) (by omega) hgl hav (fun h=>by simp only[Bool.and_eq_true]at h;exact⟨h.1,hsv h.2⟩)
                 rcases Nat.eq_zero_or_pos n with hn|hn
                 · refine⟨_,_,_,w,h,h0 hn,rfl, ?_⟩
                   subst hn
                   rcases C2.rD hx with⟨b,c,_,_,rfl⟩|⟨_,A,c,rfl⟩<;>exact sH hu hsz hS _ _ _
                 · rcases C2.rD hx with⟨b,c,hbk,hmc,rfl⟩|⟨hm0,_⟩
                   · obtain⟨w',hst,R'⟩:=h1 hn b hbk
                     exact⟨_,_,_,w',h,R',rfl,sJ hu hsz hS hnm hst⟩
                   · omega
             · rename_i t' cs hfo
               cases hb:(Nat.beq s 1&&Nat.ble n m&&Nat.ble (lo+n*ei.size) cs.length)with
               |false=>rw[hb]at h;exact h.elim
               | true=>
                 rw[hb]at h
                 simp only[cond_true]at h
                 simp only[Bool.and_eq_true]at hb
                 obtain rfl:=Nat.eq_of_beq_eq_true hb.1.1
                 have hnm:=Nat.le_of_ble_eq_true hb.1.2
                 have hle:=Nat.le_of_ble_eq_true hb.2
                 obtain⟨b',us,e1,hh,ha⟩:=R.objs _ (ay hfo)
                 have e1:ρ id= .pointer (some ⟨b',0,none⟩):=e1
                 have hh:w.heap[b']? =some (.cells us.toArray t' (0,0)):=hh
                 have ha:aI (C0 (aC g w ρ st.heap)) cs us:=ha
                 have hfl:(flat n f').length=n*ei.size:=ng hgl
                 have hvl:vs.length=n*ei.size:=by rw[←hav.1,hfl]
                 have XU:us.length=cs.length:=ha.1.symm
                 have hnew:=FQ ha lo (xs:=flat n f') (vs:=vs) (hav.imp fun _ _=>C0.Qq (X:=aC g w ρ st.heap))
                 have hrun:=run_storeCells_at P b' lo t' vs 0 us.toArray w hh (by simp;omega) (PC.AL hav)
                 have R':=R.write (o':= .box t' (splice cs lo (flat n f'))) hfo (b:=b') (by rw[e1];exact List.mem_cons_self) (w':=w.setRow b' (us.toArray.toList.take (lo+0)++vs++us.toArray.toList.drop (lo+0+vs.length)).toArray) pW (by simp[World.setRow]) (fun k' hk'=>setRow_other w b' k' _ (by omega)) (fun hk hm=>⟨b',_,e1,setRow_heap w b' _ _ t' _ hh,by
                  have:=hnew.imp fun _ _=>C0.same (X:=aC g w ρ st.heap) (Y:=aC g (w.setRow b' (us.toArray.toList.take (lo+0)++vs++us.toArray.toList.drop (lo+0+vs.length)).toArray) ρ (setObj id (.box t' (splice cs lo (flat n f'))) st.heap)) hk hm rfl
                  simpa using this⟩)
                 rcases Nat.eq_zero_or_pos n with hn|hn
                 · subst hn
                   have e0:vs=[]:=List.eq_nil_of_length_eq_zero (by omega)
                   subst e0
                   have hself:w.setRow b' (us.toArray.toList.take (lo+0)++[]++us.toArray.toList.drop (lo+0+0)).toArray=w:=by
                    simpa using setRow_self w b' us.toArray t' (0,0) hh
                   rw[show([]:List Value).length=0 from rfl,hself]at R'
                   refine⟨_,_,_,w,h,R',rfl, ?_⟩
                   rcases C2.rD hx with⟨b,c,_,_,rfl⟩|⟨_,A,c,rfl⟩<;>exact sH hu hsz hS _ _ _
                 · rcases C2.rD hx with⟨b,c,hbk,hmc,rfl⟩|⟨hm0,_⟩
                   · have hbk:jm (eP (ρ id))=[b]:=hbk
                     rw[e1]at hbk
                     cases hbk
                     rw[Nat.mul_one]
                     exact⟨_,_,_,_,h,R',rfl,sJ hu hsz hS hnm hrun⟩
                   · omega
             · exact h.elim
           · exact h.elim
     · exact h.elim
   · exact h.elim
 · exact h.elim
theorem QK (hL:bQ P L) (R:Rel g N bs ρ a w st) {t ty:TypeId} {x:AV} {xv:Value} (hx:C2 (aC g w ρ st.heap) x xv) {K:AV→AS→Prop} (h:QC L st t x K):
  ∃z st' w',K z st'∧Rel g N bs ρ a w' st'∧C2 (aC g w' ρ st'.heap) z (.tuple #[])∧(Builtin.clear_ #[t] ty #[xv]).run P w= .ok (.tuple #[]) w':=by
 unfold QC at h
 split at h
 · rename_i ti hti
   split at h
   · rename_i e n c hk
     have hu:=cZ hL hti hk
     obtain rfl:=C2.dM hx
     exact⟨_,st,w,h,R,rfl,by simp[Builtin.clear_,run_underlying hu]⟩
   · rename_i e id s lo m hk
     have hu:=cZ hL hti hk
     split at h
     · rename_i ei pV
       split at h
       · rename_i e' s' r sc f hfo
         cases hb:(Nat.beq s ei.size&&Nat.beq s' s&&Nat.beq ei.zero.length ei.size&&Nat.ble 1 ei.size&&ei.zero.all (fun x=>x.oneCell'))with
         |false=>rw[hb]at h;exact h.elim
         | true=>
           rw[hb]at h
           simp only[Bool.and_eq_true]at hb
           obtain⟨⟨⟨⟨hb1,hb2⟩,hb3⟩,hb4⟩,hone⟩:=hb
           obtain rfl:=Nat.eq_of_beq_eq_true hb1
           obtain rfl:=Nat.eq_of_beq_eq_true hb2
           have hzl:=Nat.eq_of_beq_eq_true hb3
           obtain⟨hmr,h⟩:=h
           obtain⟨z,hz,hzc⟩:=Am hL pV w
           have hzs:z.cells.size=ei.size:=by rw[←Array.length_toList,hzc];exact hzl
           obtain⟨us,h1,h2⟩:=AB ei.zero m
           have hfl:flat m (fun _=>ei.zero.map AV.v)=us.map .v:=by
            rw[AP,h2,List.map_flatten,List.map_replicate]
           obtain⟨h0,h3⟩:=R.QJ (P:=P) hfo (lo:=lo) (k:=m) (f':=fun _=>ei.zero.map .v) (sc':=sc) (vs:=us) hmr (fun i _=>by simpa using hzl) (by
            rw[hfl]
            exact⟨by simp,fun i x u hx hu=>by
             rw[List.getElem?_map,hu]at hx
             cases hx
             refine .v u ?_
             have hmem:u∈(List.replicate m ei.zero).flatten:=by rw[←h2];exact List.mem_of_getElem? hu
             obtain⟨l,hl,hm⟩:=List.mem_flatten.1 hmem
             rw[List.eq_of_mem_replicate hl]at hm
             exact List.all_eq_true.1 hone u hm⟩) (fun hsc=>⟨hsc,fun x hx=>by
             rw[hfl]at hx
             obtain⟨y,_,rfl⟩:=List.mem_map.1 hx
             exact⟨y,rfl⟩⟩)
           rcases Nat.eq_zero_or_pos m with hn|hn
           · refine⟨_,_,w,h,h0 hn,rfl, ?_⟩
             subst hn
             rcases C2.rD hx with⟨b,c,_,_,rfl⟩|⟨_,A,c,rfl⟩
             · simp[Builtin.clear_,run_underlying hu]
             · cases A<;>simp[Builtin.clear_,run_underlying hu]
           · rcases C2.rD hx with⟨b,c,hbk,hmc,rfl⟩|⟨hm0,_⟩
             · obtain⟨w',hst,R'⟩:=h3 hn b hbk
               refine⟨_,_,w',h,R',rfl,FZ hu hz hzs hn ?_⟩
               rw[hzc,←h2]
               exact hst
             · omega
       · exact h.elim
     · exact h.elim
   · exact h.elim
 · exact h.elim
end
end
section
open Go.RowKit
theorem fH {i:Nat}: ∀ {h:List (Nat×AO)},gG i h=true↔ ∃p∈h,p.1=i
  |[]=>by simp[gG]
  | (k,o)::l=>by
    simp only[gG,Bool.or_eq_true,fH (h:=l),List.mem_cons]
    constructor
    · rintro(h|⟨p,hp,e⟩)
      · exact⟨(k,o),.inl rfl,Nat.eq_of_beq_eq_true h⟩
      · exact⟨p,.inr hp,e⟩
    · rintro⟨p,rfl|hp,e⟩
      · left;rw[show k=i from e];simp
      · exact .inr ⟨p,hp,e⟩
theorem zq {ρ:Nat→Value} {h:List (Nat×AO)}: ∀ {l:List (Nat×AO)},(l.map (·.1)).Nodup→(ah ρ h).Nodup→(∀p∈l,∃q∈h,q.1=p.1)→(ah ρ l).Nodup
    |[],_,_,_=>by simp[ah]
    | p::l,hn,hh,hs=>by
      have hn':=List.nodup_cons.1 hn
      have ih:=zq hn'.2 hh (fun q hq=>hs q (List.mem_cons_of_mem _ hq))
      rw[aX,List.nodup_append]
      obtain⟨p',hp',e1⟩:=hs p List.mem_cons_self
      refine⟨by rw[←e1];exact jS hh hp',ih,fun x hx y hy e=> ?_⟩
      subst e
      obtain⟨q,hq,hqe⟩:=aQ.1 hy
      obtain⟨q',hq',e2⟩:=hs q (List.mem_cons_of_mem _ hq)
      have:=fG hh p' hp' q' hq' (by rw[e1];exact hx) (by rw[e2];exact hqe)
      exact hn'.1 (List.mem_map.2 ⟨q,hq,by rw[←e2,←this,e1]⟩)
theorem NW {st:AS}: ∀ {h:List (Nat×AO)},U1 st h→ ∀p∈h,aP p.1 st.heap=some p.2
  |[],_,p,hp=>by cases hp
  | (k,o)::l,h,p,hp=>by
    rcases List.mem_cons.1 hp with rfl|hp
    · exact h.1
    · exact NW h.2 p hp
theorem qh {d:Nat} {hin:List (Nat×AO)} {p:Nat×AO}: ∀ {h:List (Nat×AO)},p∈tu d hin h→p∈h∧p.1≠d∧gG p.1 hin=false
  |[],hp=>by cases hp
  | (k, o)::l,hp=>by
    simp only[tu]at hp
    cases hb:(Nat.beq k d||gG k hin)with
    | true=>
      rw[hb]at hp
      have:=qh hp
      exact⟨List.mem_cons_of_mem _ this.1,this.2⟩
    | false=>
      rw[hb]at hp
      rcases List.mem_cons.1 hp with rfl|hp
      · simp only[Bool.or_eq_false_iff]at hb
        exact⟨List.mem_cons_self,fun e=>(by rw[show k=d from e]at hb;simp at hb),hb.2⟩
      · have:=qh hp
        exact⟨List.mem_cons_of_mem _ this.1,this.2⟩
theorem Jt {d:Nat} {hin:List (Nat×AO)} (ρ:Nat→Value): ∀h:List (Nat×AO),(ah ρ (tu d hin h)).Sublist (ah ρ h)
  |[]=>by simp[tu,ah]
  | (k,o)::l=>by
    have ih:=Jt (d:=d) (hin:=hin) ρ l
    simp only[tu]
    cases(Nat.beq k d||gG k hin)with
    |true=>rw[aX];exact ih.trans (List.sublist_append_right _ _)
    |false=>rw[cond_false,aX,aX];exact List.Sublist.append (List.Sublist.refl _) ih
theorem oZ {h:List (Nat×AO)}: ∀ {l:List (Nat×AO)},jT h l=true→ ∀p∈l,XB h p.2=true
  |[],_,p,hp=>by cases hp
  | (k,o)::l,hc,p,hp=>by
    simp only[jT,Bool.and_eq_true]at hc
    rcases List.mem_cons.1 hp with rfl|hp
    · exact hc.1
    · exact oZ hc.2 p hp
theorem vY {d:Nat} {hin:List (Nat×AO)}: ∀ {l:List (Nat×AO)},uw d hin l=true→ ∀p∈l,(∃q∈hin,q.1=p.1)∨p.1=d
  |[],_,p,hp=>by cases hp
  | (k,o)::l,hc,p,hp=>by
    simp only[uw,Bool.and_eq_true,Bool.or_eq_true]at hc
    rcases List.mem_cons.1 hp with rfl|hp
    · exact hc.1.imp (fun h=>fH.1 h) (fun h=>Nat.eq_of_beq_eq_true h)
    · exact vY hc.2 p hp
theorem C0.over {X Y:CX} {h:List (Nat×AO)} (hk: ∀b,X.keep b→Y.keep b) (hm:Y.w=X.w) (hρ: ∀i,gG i h=true→Y.ρ i=X.ρ i) {av:AV} {u:Value} (hr:U0 h av=true) (hc:C0 X av u):C0 Y av u:=by
 have hmm: ∀b,X.keep b→Y.w.heap[b]? =X.w.heap[b]? :=fun _ _=>by rw[hm]
 cases av with
 |own id=>exact(show u=eP (X.ρ id)from hc).trans (congrArg eP (hρ id hr)).symm
 |dP id s j k=>obtain⟨b,n,c,h1,h2⟩:=hc;exact⟨b,n,c,(hρ id hr).trans h1,h2⟩
 |jq id s j k=>exact Or.imp (fun⟨b,c,h1,h2⟩=>⟨b,c,(congrArg (fun v=>jm (eP v)) (hρ id hr)).trans h1,h2⟩) _root_.id hc
 |box id off=>obtain⟨b,h1,h2⟩:=hc;exact⟨b,(congrArg eP (hρ id hr)).trans h1,h2⟩
 |cf gg id off=>obtain⟨b,h1,h2⟩:=hc;exact⟨b,(congrArg eP (hρ id hr)).trans h1,h2⟩
 | el cs k=>
   obtain⟨b,o,us,e,kb,ha,hcell⟩:=hc
   exact⟨b,o,us,e,hk b kb,ha.imp (fun _ _=>PC.mono hk hmm),fun j y hj=>(World.cell?_of_block (hmm b kb)).trans (hcell j y hj)⟩
 |sl s n sc f=>exact PC.mono hk hmm hc
 |v x=>exact hc
 |junk=>trivial
 |agg cs=>exact hc
 |dF cs=>exact hc
 |fn g caps=>exact hc
theorem aI.IX {R S:AV→Value→Prop} {q:AV→Bool} {xs:List AV} {us:List Value} (h:aI R xs us) (hq:xs.all q=true) (hi: ∀x u,q x=true→R x u→S x u):aI S xs us:=
 ⟨h.1,fun i x u hx hu=>hi x u (List.all_eq_true.1 hq x (List.mem_of_getElem? hx)) (h.2 i x u hx hu)⟩
theorem C1.over {X Y:CX} {h:List (Nat×AO)} (hk: ∀b,X.keep b→Y.keep b) (hm:Y.w=X.w) (hρ: ∀i,gG i h=true→Y.ρ i=X.ρ i) {av:AV} {u:Value} (hr:acB h av=true) (hc:C1 X av u):C1 Y av u:=by
 cases av with
 |agg cs=>obtain⟨us,e,ha⟩:=hc;exact⟨us,e,ha.IX hr fun _ _ q k=>C0.over hk hm hρ q k⟩
 |fn g cs=>obtain⟨us,e,ha⟩:=hc;exact⟨us,e,ha.IX hr fun _ _ q k=>C0.over hk hm hρ q k⟩
 |own id=>exact C1.sZ (C0.over hk hm hρ (av:= .own id) hr hc)
 |dP id s j k=>exact C1.sZ (C0.over hk hm hρ (av:= .dP id s j k) hr hc)
 |jq id s j k=>exact C1.sZ (C0.over hk hm hρ (av:= .jq id s j k) hr hc)
 |box id k=>exact C1.sZ (C0.over hk hm hρ (av:= .box id k) hr hc)
 |cf gg id k=>exact C1.sZ (C0.over hk hm hρ (av:= .cf gg id k) hr hc)
 |el cs k=>exact C1.sZ (C0.over hk hm hρ (av:= .el cs k) hr hc)
 |sl s n sc f=>exact C1.sZ (C0.over hk hm hρ (av:= .sl s n sc f) hr hc)
 |v x=>exact hc
 |junk=>trivial
 |dF cs=>exact hc
theorem C2.over {X Y:CX} {h:List (Nat×AO)} (hk: ∀b,X.keep b→Y.keep b) (hm:Y.w=X.w) (hρ: ∀i,gG i h=true→Y.ρ i=X.ρ i) {av:AV} {u:Value} (hr:XA h av=true) (hc:C2 X av u):C2 Y av u:=by
 cases av with
 |dF vs=>obtain⟨us,e,ha⟩:=hc;exact⟨us,e,ha.IX hr fun _ _ q k=>C1.over hk hm hρ q k⟩
 |agg cs=>exact C2.jP (C1.over hk hm hρ (av:= .agg cs) hr hc)
 |fn g cs=>exact C2.jP (C1.over hk hm hρ (av:= .fn g cs) hr hc)
 |own id=>exact C2.jP (C1.over hk hm hρ (av:= .own id) hr hc)
 |dP id s j k=>exact C2.jP (C1.over hk hm hρ (av:= .dP id s j k) hr hc)
 |jq id s j k=>exact C2.jP (C1.over hk hm hρ (av:= .jq id s j k) hr hc)
 |box id k=>exact C2.jP (C1.over hk hm hρ (av:= .box id k) hr hc)
 |cf gg id k=>exact C2.jP (C1.over hk hm hρ (av:= .cf gg id k) hr hc)
 |el cs k=>exact C2.jP (C1.over hk hm hρ (av:= .el cs k) hr hc)
 |sl s n sc f=>exact C2.jP (C1.over hk hm hρ (av:= .sl s n sc f) hr hc)
 |v x=>exact hc
 |junk=>trivial
theorem X4 {X:CX} {x:AV} {u:Value} (hn:Nu x=true) (h:C2 X x u):C1 X x u:=by
 cases x<;>first|exact h|cases hn
theorem bn.over {X Y:CX} {h:List (Nat×AO)} (hk: ∀b,X.keep b→Y.keep b) (hm:Y.w=X.w) (hρ: ∀i,gG i h=true→Y.ρ i=X.ρ i) {p:Nat×AO} (hp:gG p.1 h=true) (hr:XB h p.2=true) (ho:bn X p.1 p.2):bn Y p.1 p.2:=by
 have hmm: ∀b:Nat,Y.w.heap[b]? =X.w.heap[b]? :=fun _=>by rw[hm]
 refine bn.move hk (fun b _=>hmm b) (hρ _ hp) (fun b _=>hmm b) ?_ ho
 cases hpo:p.2 with
 |box t cs=>rw[hpo]at hr;exact⟨rfl,fun us ha=>ha.IX hr fun _ _ q k=>C0.over hk hm hρ q k⟩
 |row=>rfl
 | mp t ks rs=>
   rw[hpo]at hr
   refine⟨rfl,rfl,rfl,fun vs hi=>hi.imp fun p hp' i hi'=>congrArg eP (hρ _ ?_)⟩
   have:=List.all_eq_true.1 hr p hp'
   rw[hi']at this
   exact this
 |obs o=>rfl
 |rn e cs=>rw[hpo]at hr;exact⟨rfl,rfl,fun us ha=>ha.IX hr fun _ _ q k=>C0.over hk hm hρ q k⟩
theorem gV (ρ:Nat→Value) (h k:List (Nat×AO)):ah ρ (h++k)=ah ρ h++ah ρ k:=by
 simp[ah]
theorem jy {ρ ρ':Nat→Value} {h:List (Nat×AO)} (e: ∀p∈h,ρ' p.1=ρ p.1):ah ρ' h=ah ρ h:=by
 induction h with
 |nil=>rfl
 |cons p h ih=>rw[aX,aX,e p List.mem_cons_self,ih fun q hq=>e q (List.mem_cons_of_mem _ hq)]
section
variable {P:Program} {g:Base} {N:Nat} {bs:List (Array Value)} {ρ:Nat→Value} {a:Act} {w:World} {st:AS}
theorem aaE (R:Rel g N bs ρ a w st) {f:FuncId} {dn:List AV} {args:List Value} (hargs:aI (C2 (aC g w ρ st.heap)) dn args) {hin hout:List (Nat×AO)} {r:AV} {d:Nat} (hs:aV P f hin dn r hout) (hh:U1 st hin)
  (hb:(sF (hin.map (·.1))&&dn.all Nu&&jT hout hout&&XA hout r&&uw d hin hout)=true):
  Calls P f args.toArray w fun e w'=> ∃u ρ',e= .returned u∧Rel g N bs ρ' a w' (st.QB d hin hout)∧C2 (aC g w' ρ' (st.QB d hin hout).heap) r u:=by
 simp only[Bool.and_eq_true]at hb
 obtain⟨⟨⟨⟨hnd,hnt⟩,hcl⟩,hrr⟩,hnm⟩:=hb
 have hfind:=NW hh
 have hsub: ∀p∈hin,p∈st.heap:=fun p hp=>ay (hfind p hp)
 have yK: ∀b,b∈ah ρ hin→b∈ah ρ st.heap:=fun b hb=>by
  obtain⟨p,hp,e⟩:=aQ.1 hb
  exact aQ.2 ⟨p,hsub p hp,e⟩
 have acL:=zq (CG hnd) R.apart fun p hp=>⟨p,hsub p hp,rfl⟩
 refine(hs.2 w (aK g w ρ st.heap) ρ args (fun b h=>h.1) (fun p hp=>R.objs p (hsub p hp)) acL (fun b hb=>⟨(R.gI (yK b hb)).1,fun h=>h.2.2 (yK b hb)⟩) (hargs.IX hnt fun _ _=>X4)).mono ?_
 rintro e w' ⟨u,ρ',rfl,hbel,hfix,hc,lK,hnd',hnew⟩
 let TB:Nat→Value:=fun i=>if gG i hout=true then ρ' i else ρ i
 have e2: ∀i,gG i hout=true→TB i=ρ' i:=fun i h=>by simp only[TB,if_pos h]
 have aez: ∀i,i≠d→Ae (TB i) (ρ i):=fun i hi=>by
  by_cases h:gG i hout=true
  · rw[e2 i h]
    obtain⟨q,hq,eq⟩:=fH.1 h
    rcases vY hnm q hq with⟨p,hp,ep⟩|h'
    · have:=hfix p hp q hq ep.symm
      rw[←eq,←ep];exact this
    · exact absurd (eq.symm.trans h') hi
  · simp only[TB,if_neg h];exact .refl _
 have hrest: ∀p∈tu d hin st.heap,TB p.1=ρ p.1:=fun p hp=>by
  have h:=qh hp
  by_cases hh:gG p.1 hout=true
  · obtain⟨q,hq,eq⟩:=fH.1 hh
    rcases vY hnm q hq with⟨p',hp',ep⟩|h'
    · have:=h.2.2
      rw[←eq,←ep,fH.2 ⟨p',hp',rfl⟩]at this
      cases this
    · exact absurd (eq.symm.trans h') h.2.1
  · simp only[TB,if_neg hh]
 have hb2:ah TB (st.QB d hin hout).heap=ah ρ' hout++ah ρ (tu d hin st.heap):=by
  show ah TB (hout++nX d (tu d hin st.heap))=_
  rw[gV,mW,jy hrest,jy fun p hp=>e2 p.1 (fH.2 ⟨p,hp,rfl⟩)]
 have F5:=Jt (d:=d) (hin:=hin) ρ st.heap
 --a block of what is left is none of those that were given
 have hapart: ∀b,b∈ah ρ (tu d hin st.heap)→b ∉ ah ρ hin:=by
  intro b hb hb'
  obtain⟨p,hp,ep⟩:=aQ.1 hb
  obtain⟨q,hq,eq⟩:=aQ.1 hb'
  have:=fG R.apart p (qh hp).1 q (hsub q hq) ep eq
  have hno:=(qh hp).2.2
  rw[this,fH.2 ⟨q,hq,rfl⟩]at hno
  cases hno
 have hE:Ext d (aC g w ρ st.heap) (aC g w' TB (st.QB d hin hout).heap):=by
  refine⟨fun b hk=>⟨Nat.lt_of_lt_of_le hk.1 hbel.size,hk.2.1, ?_⟩,fun b hk=>hbel.block b hk.1 fun hin'=>hk.2.2 (yK b hin'),fun i hi=>aez i hi⟩
  rw[hb2,List.mem_append]
  rintro(h|h)
  · rcases hnew b h with h|h
    · exact absurd hk.1 (by omega)
    · exact hk.2.2 (yK b h)
  · exact hk.2.2 (F5.subset h)
 have hkY: ∀b,(aC (gU w (aK g w ρ st.heap) (fun b=>b∈ah ρ hin)) w' ρ' hout).keep b→(aC g w' TB (st.QB d hin hout).heap).keep b:=by
  rintro b ⟨h1,h2,h3⟩
  refine⟨h1,fun hlt=> ?_, ?_⟩
  · rcases h2 (Nat.lt_of_lt_of_le hlt R.below.size)with h|h
    · exact h.2.1 hlt
    · exact(R.own b (yK b h)).elim (fun h=>absurd hlt (by omega)) .inr
  · rw[hb2,List.mem_append]
    rintro(h|h)
    · exact h3 h
    · have hlt:=(R.gI (F5.subset h)).1
      rcases h2 hlt with h'|h'
      · exact h'.2.2 (F5.subset h)
      · exact hapart b h h'
 refine⟨u,TB,rfl,⟨R.size,R.defers, ?_,fun t=> ?_, ?_, ?_, ?_,R.back.map rfl fun _ _=>C2.ext hE⟩,C2.over hkY rfl e2 hrr hc⟩
 · exact R.below.trans ⟨hbel.os,hbel.tape,hbel.output,hbel.size,fun k hk hM=>hbel.block k (Nat.lt_of_lt_of_le hk R.below.size) fun hin'=>(R.own k (yK k hin')).elim (fun h=>absurd hk (by omega)) hM⟩
 · rw[show(st.QB d hin hout).tmps t=sD d (st.tmps t)from qA rfl st.sl t]
   exact C2.ext hE (R.tmps t)
 · intro p hp
   rcases List.mem_append.1 hp with hp|hp
   · exact bn.over hkY rfl e2 (fH.2 ⟨p,hp,rfl⟩) (oZ hcl p hp) (lK p hp)
   · simp only[nX,List.mem_map]at hp
     obtain⟨q,hq,rfl⟩:=hp
     have hq':=qh hq
     refine bn.ext hE (hrest q hq) (fun b hb=> ?_) (R.objs q hq'.1)
     have hm:b∈ah ρ (tu d hin st.heap):=aQ.2 ⟨q,hq,hb⟩
     exact hbel.block b (R.gI (F5.subset hm)).1 (hapart b hm)
 · rw[hb2,List.nodup_append]
   refine⟨hnd',R.apart.sublist F5,fun x hx y hy e=> ?_⟩
   subst e
   rcases hnew x hx with h|h
   · exact absurd (R.gI (F5.subset hy)).1 (by omega)
   · exact hapart x hy h
 · intro x hx
   rw[hb2,List.mem_append]at hx
   rcases hx with hx|hx
   · rcases hnew x hx with h|h
     · exact .inl (Nat.le_trans R.below.size h)
     · exact R.own x (yK x h)
   · exact R.own x (F5.subset hx)
end
end
section
open Go.RowKit
section
variable {P:Program} {L:Lay} {g:Base} {N:Nat} {bs:List (Array Value)} {ρ:Nat→Value} {a:Act} {w:World} {st:AS}
theorem lq (R:Rel g N bs ρ a w st) {id:Nat} {e:TypeId} {s n:Nat} {sc:Bool} {f:Nat→List AV} (hf:aP id st.heap=some (.row e s n sc f)) {k:Nat→Prop} (hk: ∀b,aK g w ρ st.heap b→k b) (hb: ∀b∈blks (ρ id),k b):
  PC w k (.sl s n sc f) (ρ id):=by
 obtain⟨us,hown,hs0,hfl,hsc,ha⟩:=R.objs _ (ay hf)
 have hown:w.ownsRow 0 e s (ρ id) n us:=hown
 have ha:aI (PC w (aK g w ρ st.heap)) (flat n f) us:=ha
 have ha':=ha.imp fun _ _=>PC.mono hk fun _ _=>rfl
 rcases hown.2 with⟨hv,hz⟩|⟨b,cap,cur,hv,hB,hh,hnc,hcm,_⟩
 · rw[hv]
   subst hz
   exact .sl s 0 sc f none 0 us hs0 (Nat.le_refl _) (by simp[maxLen]) hown.1 hfl hsc ha'.2 (.inl rfl)
 · have hkb:=hb b (by rw[hv];exact List.mem_cons_self)
   rw[hv]
   refine .sl s n sc f _ cap us hs0 hnc hcm hown.1 hfl hsc ha'.2 (.inr ⟨b,0,rfl,hkb,fun j u hj=> ?_⟩)
   have:=hown.cells (g:=b) (by rw[hv];rfl) j u hj
   rwa [Addr.add_lit]at this
def Reads (st:AS) (ρ:Nat→Value) (w:World) (k:Nat→Prop) (x:AV):Prop:=
 ∀id e s n sc f,x= .own id→aP id st.heap=some (.row e s n sc f)→PC w k (.sl s n sc f) (ρ id)
theorem nil_reads {w:World} {k:Nat→Prop} {s:Nat} {sc:Bool} {f:Nat→List AV} (h0:0<s):PC w k (.sl s 0 sc f) (.slice none 0 0):=
 .sl s 0 sc f none 0 [] h0 (Nat.zero_le _) (by simp[maxLen]) (by simp) (fun i hi=>absurd hi (by omega)) (fun _ x hx=>by cases hx) (fun i x u hx=>by simp[flat]at hx) (.inl rfl)
theorem PC.hd {w:World} {k:Nat→Prop} {s n:Nat} {sc:Bool} {f:Nat→List AV} {v:Value} (h:PC w k (.sl s n sc f) v):eP v=v:=by cases h;rfl
theorem xQ {k:Nat→Prop} (hk: ∀b,aK g w ρ st.heap b→k b) {x:AV} {u:Value} (hr:Reads st ρ w k x) (h:C0 (aC g w ρ st.heap) x u):C0 ⟨w,k,fun _=>undef⟩ (IV st.heap x) u:=by
 cases x with
 |v y=>exact h
 |sl s n sc f=>exact PC.mono hk (fun _ _=>rfl) h
 | own id=>
   simp only[IV]
   cases hf:aP id st.heap with
   |none=>trivial
   | some o=>
     cases o with
     |box t cs=>trivial
     |mp t ks rs=>trivial
     |obs o=>trivial
     |rn e cs=>trivial
     | row e s n sc f=>
       have hu:u=eP (ρ id):=h
       rw[hu,PC.hd (hr id e s n sc f rfl hf)]
       exact hr id e s n sc f rfl hf
 |_=>trivial
theorem aaF {k:Nat→Prop} (hk: ∀b,aK g w ρ st.heap b→k b) {x y:AV} {u:Value} (hs:aax st.heap x y) (hr:Reads st ρ w k x) (h:C0 (aC g w ρ st.heap) x u):C0 ⟨w,k,fun _=>undef⟩ y u:=by
 cases hs with
 |eq=>exact xQ hk hr h
 | nil s sc f h0=>
   cases h
   exact nil_reads h0
theorem TD {k:Nat→Prop} (hk: ∀b,aK g w ρ st.heap b→k b) {x y:AV} {u:Value} (hs:UZ st.heap x y) (hr:Reads st ρ w k x) (hr': ∀cs,x= .agg cs→ ∀c∈cs,Reads st ρ w k c) (h:C2 (aC g w ρ st.heap) x u):C1 ⟨w,k,fun _=>undef⟩ y u:=by
 cases hs with
 | eq=>
   cases x with
   | agg cs=>
     obtain⟨us,rfl,ha⟩:=C2.rE h
     refine⟨us,rfl, ?_⟩
     refine⟨by simpa using ha.1,fun i y v hy hv=> ?_⟩
     rw[List.getElem?_map]at hy
     cases hc:cs[i]? with
     |none=>rw[hc]at hy;cases hy
     | some c=>
       rw[hc]at hy
       cases hy
       exact xQ hk (hr' cs rfl c (List.mem_of_getElem? hc)) (ha.2 i c v hc hv)
   |v y=>exact h
   |sl s n sc f=>exact C1.sZ (xQ (x:= .sl s n sc f) hk hr h)
   |own id=>exact C1.sZ (xQ (x:= .own id) hk hr h)
   |_=>trivial
 | nil s sc f h0=>
   obtain rfl:=C2.dM h
   exact nil_reads h0
 | agg cs ds hl hp=>
   obtain⟨us,rfl,ha⟩:=C2.rE h
   refine⟨us,rfl,by rw[←hl];exact ha.1,fun i y v hy hv=> ?_⟩
   have hi:i<cs.length:=by
    rcases Nat.lt_or_ge i cs.length with h'|h'
    · exact h'
    · rw[List.getElem?_eq_none (by omega)]at hy;cases hy
   have hc:cs[i]? =some cs[i]:=List.getElem?_eq_getElem hi
   exact aaF hk (hp i _ y hc hy) (hr' cs rfl _ (List.getElem_mem hi)) (ha.2 i _ v hc hv)
theorem EJ {k:Nat→Prop} (hk: ∀b,aK g w ρ st.heap b→k b) {xs ys:List AV} {us:List Value} (hs:En st.heap xs ys) (hr: ∀x∈xs,Reads st ρ w k x∧ ∀cs,x= .agg cs→ ∀c∈cs,Reads st ρ w k c) (h:aI (C2 (aC g w ρ st.heap)) xs us):aI (C1 ⟨w,k,fun _=>undef⟩) ys us:=by
 refine⟨by rw[←hs.1];exact h.1,fun i y u hy hu=> ?_⟩
 have hi:i<xs.length:=by
  rcases Nat.lt_or_ge i xs.length with h'|h'
  · exact h'
  · rw[List.getElem?_eq_none (by rw[←hs.1];exact h')]at hy;cases hy
 have hx:xs[i]? =some xs[i]:=List.getElem?_eq_getElem hi
 have:=hr _ (List.getElem_mem hi)
 exact TD hk (hs.2 i _ y hx hy) this.1 this.2 (h.2 i _ u hx hu)
structure Later (g:Base) (ρ:Nat→Value) (w:World) (st st':AS):Prop where
 keep: ∀b,aK g w ρ st.heap b→aK g w ρ st'.heap b
 rows: ∀id e s n sc f,aP id st.heap=some (.row e s n sc f)→aP id st'.heap=some (.row e s n sc f)∨PC w (aK g w ρ st'.heap) (.sl s n sc f) (ρ id)
theorem Later.refl:Later g ρ w st st:=⟨fun _ h=>h,fun _ _ _ _ _ _ h=> .inl h⟩
theorem Later.trans {s1 s2 s3:AS} (h:Later g ρ w s1 s2) (k:Later g ρ w s2 s3):Later g ρ w s1 s3:=
 ⟨fun b hb=>k.keep b (h.keep b hb),fun id e s n sc f hf=>by
  rcases h.rows id e s n sc f hf with h1|h1
  · exact k.rows id e s n sc f h1
  · exact .inr (PC.mono k.keep (fun _ _=>rfl) h1)⟩
theorem DX {id i:Nat} {a:AV} {e:TypeId} {s n:Nat} {sc:Bool} {f:Nat→List AV} (hne:i≠id): ∀ {h:List (Nat×AO)},aP i h=some (.row e s n sc f)→aP i ((h.filter fun p=> !Nat.beq p.1 id).map fun p=>(p.1,p.2.thaw id a))=some (.row e s n sc f)
  |[],h=>by cases h
  | p ::h,hf=>by
    simp only[aP]at hf
    rw[List.filter_cons]
    cases hb:Nat.beq p.1 i with
    | true=>
      rw[hb]at hf
      simp only[cond_true,Option.some.injEq]at hf
      have hpi:=Nat.eq_of_beq_eq_true hb
      have:Nat.beq p.1 id=false:=beq_false (by rw[hpi];exact hne)
      rw[this]
      simp only[Bool.not_false,if_true,List.map_cons,aP,hb,cond_true,hf]
      rfl
    | false=>
      rw[hb]at hf
      have ih:=DX (a:=a) hne (h:=h) hf
      split
      · simp only[List.map_cons,aP,hb,cond_false]
        exact ih
      · exact ih
theorem TF (R:Rel g N bs ρ a w st) (x:AV):Rel g N bs ρ a w (KQ st x)∧Later g ρ w st (KQ st x)∧ ∀id e s n sc f,x= .own id→aP id st.heap=some (.row e s n sc f)→PC w (aK g w ρ (KQ st x).heap) (.sl s n sc f) (ρ id):=by
 cases x with
 | own id=>
   simp only[KQ]
   cases hf:aP id st.heap with
   |none=>exact⟨R,Later.refl,fun id' e s n sc f hx hf'=>by cases hx;rw[hf]at hf';cases hf'⟩
   | some o=>
     cases o with
     |box t cs=>exact⟨R,Later.refl,fun id' e s n sc f hx hf'=>by cases hx;rw[hf]at hf';cases hf'⟩
     |mp t ks rs=>exact⟨R,Later.refl,fun id' e s n sc f hx hf'=>by cases hx;rw[hf]at hf';cases hf'⟩
     |obs o=>exact⟨R,Later.refl,fun id' e s n sc f hx hf'=>by cases hx;rw[hf]at hf';cases hf'⟩
     |rn e cs=>exact⟨R,Later.refl,fun id' e s n sc f hx hf'=>by cases hx;rw[hf]at hf';cases hf'⟩
     | row e s n sc f=>
       obtain⟨R',hrow⟩:=R.freeze hf
       refine⟨R',⟨fun b hb=> ?_,fun i e' s' n' sc' f' hf'=> ?_⟩,fun id' e' s' n' sc' f' hx hf'=>by cases hx;rw[hf]at hf';cases hf';exact hrow⟩
       · refine⟨hb.1,hb.2.1,fun hin=>hb.2.2 ?_⟩
         have:ah ρ (st.freeze id s n sc f).heap=ah ρ (st.heap.filter fun p=> !Nat.beq p.1 id):=by simp[AS.freeze,ah,List.flatMap_map]
         rw[this]at hin
         exact gY hin
       · by_cases e:i=id
         · subst e
           rw[hf]at hf'
           cases hf'
           exact .inr hrow
         · exact .inl (DX e hf')
 |_=>exact⟨R,Later.refl,fun id e s n sc f hx=>by cases hx⟩
theorem NY: ∀ (l:List AV) {st:AS},Rel g N bs ρ a w st→Rel g N bs ρ a w (l.foldl KQ st)∧Later g ρ w st (l.foldl KQ st)∧ ∀x∈l,∀id e s n sc f,x= .own id→aP id st.heap=some (.row e s n sc f)→PC w (aK g w ρ (l.foldl KQ st).heap) (.sl s n sc f) (ρ id)
  |[],st,R=>⟨R,Later.refl,fun x hx=>by cases hx⟩
  | x ::l,st,R=>by
    obtain⟨R1,h1,k1⟩:=TF R x
    obtain⟨R2,h2,k2⟩:=NY l R1
    refine⟨R2,h1.trans h2,fun y hy id e s n sc f hx hf=> ?_⟩
    rcases List.mem_cons.1 hy with rfl|hy'
    · exact PC.mono h2.keep (fun _ _=>rfl) (k1 id e s n sc f hx hf)
    · rcases h1.rows id e s n sc f hf with h|h
      · exact k2 y hy' id e s n sc f hx h
      · exact PC.mono h2.keep (fun _ _=>rfl) h
theorem acM (R:Rel g N bs ρ a w st) (x:AV):Rel g N bs ρ a w (CB st x)∧Later g ρ w st (CB st x)∧Reads st ρ w (aK g w ρ (CB st x).heap) x∧ ∀cs,x= .agg cs→ ∀c∈cs,Reads st ρ w (aK g w ρ (CB st x).heap) c:=by
 cases x with
 | agg cs=>
   obtain⟨R1,h1,k1⟩:=NY cs R
   exact⟨R1,h1,(fun id e s n sc f hx=>by cases hx),fun cs' e c hc=>by cases e;exact k1 c hc⟩
 | own id=>
   obtain⟨R1,h1,k1⟩:=TF R (.own id)
   exact⟨R1,h1,k1,fun cs e=>by cases e⟩
 |_=>exact⟨R,Later.refl,(fun id e s n sc f hx=>by cases hx),fun cs e=>by cases e⟩
theorem EK: ∀ (l:List AV) {st:AS},Rel g N bs ρ a w st→Rel g N bs ρ a w (tC st l)∧Later g ρ w st (tC st l)∧ ∀x∈l,Reads st ρ w (aK g w ρ (tC st l).heap) x∧ ∀cs,x= .agg cs→ ∀c∈cs,Reads st ρ w (aK g w ρ (tC st l).heap) c
  |[],st,R=>⟨R,Later.refl,fun x hx=>by cases hx⟩
  | x::l,st,R=>by
    obtain⟨R1,h1,k1,k1'⟩:=acM R x
    obtain⟨R2,h2,k2⟩:=EK l R1
    have lift: ∀ {y:AV},Reads st ρ w (aK g w ρ (CB st x).heap) y→Reads st ρ w (aK g w ρ (tC (CB st x) l).heap) y:=
     fun h id e s n sc f hx hf=>PC.mono h2.keep (fun _ _=>rfl) (h id e s n sc f hx hf)
    have ab6: ∀ {y:AV},Reads (CB st x) ρ w (aK g w ρ (tC (CB st x) l).heap) y→Reads st ρ w (aK g w ρ (tC (CB st x) l).heap) y:=by
     intro y h id e s n sc f hx hf
     rcases h1.rows id e s n sc f hf with h'|h'
     · exact h id e s n sc f hx h'
     · exact PC.mono h2.keep (fun _ _=>rfl) h'
    refine⟨R2,h1.trans h2,fun y hy=> ?_⟩
    rcases List.mem_cons.1 hy with rfl|hy'
    · exact⟨lift k1,fun cs e c hc=>lift (k1' cs e c hc)⟩
    · exact⟨ab6 (k2 y hy').1,fun cs e c hc=>ab6 ((k2 y hy').2 cs e c hc)⟩
theorem F6 {X Y:CX} {d:Option Nat} {x:AV} {u:Value} (hr:ok0 d x=true) (hs:XC x=true∨(∀b,X.keep b→Y.keep b)) (hw:Y.w=X.w) (hd: ∀i,d=some i→Y.ρ i=X.ρ i) (h:C0 X x u):C0 Y x u:=by
 cases x with
 |v y=>exact h
 | sl s n sc f=>
   rcases hs with h1|h1
   · cases h1
   · exact PC.mono h1 (fun b _=>by rw[hw]) h
 | own i=>
   cases d with
   |none=>cases hr
   | some j=>
     simp only[ok0]at hr
     have:=Nat.eq_of_beq_eq_true hr
     subst this
     show u=eP (Y.ρ i)
     rw[hd i rfl]
     exact h
 |_=>cases hr
theorem AQ {X Y:CX} {d:Option Nat} {x:AV} {u:Value} (hr:ok1 d x=true) (hs:XD x=true∨(∀b,X.keep b→Y.keep b)) (hw:Y.w=X.w) (hd: ∀i,d=some i→Y.ρ i=X.ρ i) (h:C1 X x u):C1 Y x u:=by
 cases x with
 | agg cs=>
   obtain⟨us,e,ha⟩:=h
   refine⟨us,e,ha.1,fun i y v hy hv=>F6 (d:=d) (List.all_eq_true.1 hr y (List.mem_of_getElem? hy)) ?_ hw hd (ha.2 i y v hy hv)⟩
   rcases hs with h1|h1
   · exact .inl (List.all_eq_true.1 h1 y (List.mem_of_getElem? hy))
   · exact .inr h1
 |v y=>exact h
 |sl s n sc f=>exact F6 (x:= .sl s n sc f) hr hs hw hd h
 |own i=>exact F6 (x:= .own i) hr hs hw hd h
 |_=>cases hr
theorem AU {X Y:CX} {d:Option Nat} {x:AV} {u:Value} (hr:ok2 d x=true) (hs:mX x=true∨(∀b,X.keep b→Y.keep b)) (hw:Y.w=X.w) (hd: ∀i,d=some i→Y.ρ i=X.ρ i) (h:C2 X x u):C2 Y x u:=by
 cases x with
 | dF cs=>
   obtain⟨us,e,ha⟩:=h
   refine⟨us,e,ha.1,fun i y v hy hv=>AQ (d:=d) (List.all_eq_true.1 hr y (List.mem_of_getElem? hy)) ?_ hw hd (ha.2 i y v hy hv)⟩
   rcases hs with h1|h1
   · exact .inl (List.all_eq_true.1 h1 y (List.mem_of_getElem? hy))
   · exact .inr h1
 |agg cs=>exact C2.jP (AQ (x:= .agg cs) hr hs hw hd h)
 |v y=>exact h
 |sl s n sc f=>exact C2.jP (AQ (x:= .sl s n sc f) hr hs hw hd h)
 |own i=>exact C2.jP (AQ (x:= .own i) hr hs hw hd h)
 |_=>cases hr
theorem pX {f:FuncId} (h:Enters P f) (args:Array Value) (w:World):(callFunc f args).run P w= .ok (.enter f args) w:=by
 obtain⟨fn,c,h1,h2,h3⟩:=h
 have h2': ¬fn.name= "runtime.NumGoroutine" :=fun e=>by rw[e]at h2;simp at h2
 simp[callFunc,h1,h2',h3,Sem.run,program]
theorem xR (R:Rel g N bs ρ a w st) {f:FuncId} {dn:List AV} {args:List Value} (hargs:aI (C2 (aC g w ρ st.heap)) dn args) {L:Lay} {W:Walk} {K:AV→AS→Prop} {d:Nat} (h:dK P L W d f dn st K) (hin: ∀lv fn c,P.funcs[f]? =some fn→(fn.name== "runtime.NumGoroutine")=false→fn.body=some c→Nat.ble dn.length fn.ntmps=true→W fn.ntmps lv c (fun e st'=>match e with| .exit _=>False| .normal=>mP L st' fn.results.toList (fun x=>vH (st'.out) (K x))| .ret=>mP L st' fn.results.toList (fun x=>vH (st'.out) (K x))) (st.into dn)→Calls P f args.toArray w fun e w'=> ∃u x st' ρ',e= .returned u∧K x st'∧Rel g N bs ρ' a w' st'∧C2 (aC g w' ρ' st'.heap) x u):
  Enters P f∧Calls P f args.toArray w fun e w'=> ∃u x st' ρ',e= .returned u∧K x st'∧Rel g N bs ρ' a w' st'∧C2 (aC g w' ρ' st'.heap) x u:=by
 have mid: ∀ (frozen:Bool),∃k:Nat→Prop,∃st1,st1=(bif frozen then st else tC st dn)∧Rel g N bs ρ a w st1∧(∀b,k b→b<w.heap.size)∧(∀b,aK g w ρ st.heap b→k b)∧(∀x∈dn,Reads st ρ w k x∧ ∀cs,x= .agg cs→ ∀c∈cs,Reads st ρ w k c)∧(frozen=false→ ∀b,k b→aK g w ρ st1.heap b):=by
  intro frozen
  cases frozen with
  | true=>
    refine⟨fun b=>b<w.heap.size,st,rfl,R,fun b h=>h,fun b h=>h.1,fun x hx=> ?_,fun h=>by cases h⟩
    have rd: ∀y:AV,Reads st ρ w (fun b=>b<w.heap.size) y:=fun y id e s n sc f hy hf=>
     lq R hf (fun b h=>h.1) (fun b hb=>(R.gI (aQ.2 ⟨_,ay hf,hb⟩)).1)
    exact⟨rd x,fun cs e c hc=>rd c⟩
  | false=>
    obtain⟨R1,h1,k1⟩:=EK dn R
    exact⟨aK g w ρ (tC st dn).heap,tC st dn,rfl,R1,fun b h=>h.1,h1.keep,k1,fun _ b h=>h⟩
 cases h with
 | inl lv fn c hf hn hb hsz h=>
   rw[XH]at h
   exact⟨⟨fn,c,hf,hn,hb⟩,hin lv fn c hf hn hb hsz h⟩
 | QB hin hout r hs hh hb hK=>
   refine⟨hs.1,(aaE R hargs hs hh hb).mono ?_⟩
   rintro e w' ⟨u,ρ',rfl,R',hc⟩
   exact⟨u,r,_,ρ',rfl,hK,R',hc⟩
 |sem hE hs=>exact⟨hE,hs g N bs ρ a w args R hargs⟩
 | plain bb r hs hsub hr hK=>
   obtain⟨k,st1,e1,R1,hk1,hk2,hk3,hk4⟩:=mid (mX r)
   rw[←e1]at hK
   refine⟨hs.1,(hs.2 w k args hk1 (EJ hk2 hsub hk3 hargs)).mono ?_⟩
   rintro e w' ⟨u,IY,rfl,hb,hc,_,_,_⟩
   refine⟨u,r,st1,ρ,rfl,hK,R1.world hb, ?_⟩
   refine AU (X:=aC (base0 w k) w' IY []) (d:=none) hr ?_ rfl (fun i h=>by cases h) hc
   cases hq:mX r with
   |true=>exact .inl rfl
   | false=>
     refine .inr fun b hbk=> ?_
     have hkb:b<w.heap.size→aK g w ρ st1.heap b:=fun h=>hk4 hq b ((hbk.2.1 h).elim id False.elim)
     refine⟨hbk.1,fun hlt=>(hkb (by have:=R.below.size;omega)).2.1 hlt,fun hin=> ?_⟩
     have:=(R1.gI hin).1
     exact(hkb this).2.2 hin
 | fresh bb r e s n sc f' hs hsub hr hK=>
   obtain⟨k,st1,e1,R1,hk1,hk2,hk3,hk4⟩:=mid (mX r&&sc)
   rw[←e1]at hK
   refine⟨hs.1,(hs.2 w k args hk1 (EJ hk2 hsub hk3 hargs)).mono ?_⟩
   rintro e0 w' ⟨u,IY,rfl,hb,hc,ho,hnd,hnew⟩
   obtain⟨us,hown,hs0,hfl,hsc,ha⟩:=ho _ (List.mem_singleton.2 rfl)
   have hown:w'.ownsRow 0 e s (IY d) n us:=hown
   have hBw:=R.below.size
   have hkeep:(mX r&&sc)=false→ ∀b,aK (base0 w k) w' IY [(d,.row e s n sc f')] b→aK g w' (dD ρ d (IY d)) (st1.obj d d (.row e s n sc f')).heap b:=by
    intro hq b hbk
    have hkb:b<w.heap.size→aK g w ρ st1.heap b:=fun h=>hk4 hq b ((hbk.2.1 h).elim id False.elim)
    refine⟨hbk.1,fun hlt=>(hkb (by omega)).2.1 hlt,fun hin=> ?_⟩
    have hbl:ah (dD ρ d (IY d)) (st1.obj d d (.row e s n sc f')).heap=blks (IY d)++ah ρ (gone d d st1.heap):=by
     show ah _ (_::_)=_
     rw[aX,vM,mW]
     · simp[dD]
     · intro p hp
       simp only[nX,List.mem_map]at hp
       obtain⟨q,hq,rfl⟩:=hp
       exact(tq.1 hq).2.1
    rw[hbl,List.mem_append]at hin
    rcases hin with h1|h1
    · exact hbk.2.2 (by rw[aX];exact List.mem_append_left _ h1)
    · have hin':=gY h1
      exact(hkb (R1.gI hin').1).2.2 hin'
   have hblk: ∀b∈blks (IY d),w.heap.size≤b:=fun b hb'=>hnew b (aQ.2 ⟨_,List.mem_singleton.2 rfl,hb'⟩)
   have R2:Rel g N bs (dD ρ d (IY d)) a w' (st1.obj d d (.row e s n sc f')):=by
    refine R1.obj d d (R.below.then hb hBw) hb.size (fun b hlt _=>hb.block b hlt) (fun b hb'=> .inl (hblk b hb')) (fun hE=> ?_) (nY hown)
    refine⟨us,by simpa[aC,dD]using hown,hs0,hfl,hsc, ?_⟩
    cases hq:(mX r&&sc)with
    | true=>
      simp only[Bool.and_eq_true]at hq
      refine⟨ha.1,fun i x u hx hu=> ?_⟩
      obtain⟨y,rfl⟩:=hsc hq.2 x (List.mem_of_getElem? hx)
      have:=ha.2 i _ u hx hu
      cases this with
      |v _ h1=>exact .v _ h1
    |false=>exact ha.imp fun _ _=>PC.mono (hkeep hq) fun _ _=>rfl
   refine⟨u,r,_,_,rfl,hK,R2, ?_⟩
   refine AU (X:=aC (base0 w k) w' IY [(d,.row e s n sc f')]) (d:=some d) hr ?_ rfl (fun i h=>by cases h;simp[aC,dD]) hc
   cases hq:(mX r&&sc)with
   |true=>simp only[Bool.and_eq_true]at hq;exact .inl hq.1
   |false=>exact .inr (hkeep hq)
end
end
section
open Go.RowKit
section
variable {P:Program} {L:Lay} {g:Base} {N:Nat} {bs:List (Array Value)} {ρ:Nat→Value} {a:Act} {w:World} {st:AS}
def QL (tmps:Array Value):ResultVar→Sem Value
  | .tmp t=>pure (tmps.getD t undef)
  | .cell a t=>do loadVar t (←asAddr (tmps.getD a undef))
theorem QM (fn:Func) (tmps:Array Value):results fn tmps=(do let vs←fn.results.mapM (QL tmps);pure (if h:vs.size=1 then vs[0]else .tuple vs)):=by
 unfold results
 congr 2
theorem Vb {P:Program} {w:World} {t:TypeId} {u:Value}: ∀ {v:Value},(Instr.loadAt t v).run P w= .ok u w→((do loadVar t (←asAddr v):Sem Value)).run P w= .ok u w:=by
 intro v h3
 cases v with
 | pointer q=>
   cases q with
   |none=>simp[Instr.loadAt,Instr.sureAddr]at h3
   |some q=>simpa[Instr.loadAt,Instr.sureAddr,asAddr]using h3
 |_=>simp[Instr.loadAt,Instr.sureAddr]at h3
theorem Vd (hL:bQ P L) (R:Rel g N bs ρ a w st) {r:ResultVar} {K:AV→Prop} (h:ab5 L st r K):
  ∃x u,K x∧C2 (aC g w ρ st.heap) x u∧(QL a.tmps r).run P w= .ok u w:=by
 cases r with
 |tmp t=>exact⟨_,_,h,R.tmps t,rfl⟩
 | cell p t=>
   obtain⟨x,u,h1,h2,h3⟩:=xM hL R (R.tmps p) h
   exact⟨x,u,h1,h2,Vb h3⟩
theorem Ju (hL:bQ P L) (R:Rel g N bs ρ a w st): ∀ {rs:List ResultVar} {K:List AV→Prop},XG L st rs K→
  ∃xs us,K xs∧aI (C2 (aC g w ρ st.heap)) xs us∧(rs.mapM (QL a.tmps)).run P w= .ok us w
  |[],K,h=>⟨[],[],h,aI.nil,rfl⟩
  | r::rs,K,h=>by
    obtain⟨x,u,h1,h2,h3⟩:=Vd hL R h
    obtain⟨xs,us,k1,k2,k3⟩:=Ju hL R h1
    refine⟨x::xs,u::us,k1,aI.cons h2 k2, ?_⟩
    simp only[List.mapM_cons,Sem.run_bind,h3,Result.andThen_ok,k3,Sem.run_pure]
theorem C1.Nw {X:CX} {x:AV} {u:Value} (h:C2 X x u):C1 X (Nw x) u:=by
 cases x<;>first|exact h|trivial
theorem AX (hL:bQ P L) (R:Rel g N bs ρ a w st) {fn:Func} {K:AV→Prop} (h:mP L st fn.results.toList K):
  ∃x u,K x∧C2 (aC g w ρ st.heap) x u∧(results fn a.tmps).run P w= .ok u w:=by
 unfold mP at h
 obtain⟨xs,us,h1,h2,h3⟩:=Ju hL R h
 have hr:(results fn a.tmps).run P w= .ok (if h:us.toArray.size=1 then us.toArray[0]else .tuple us.toArray) w:=by
  rw[QM,Array.mapM_eq_mapM_toList]
  simp only[Sem.run_bind,Sem.run_map,h3,Result.andThen_ok]
  rfl
 have hl:=h2.1
 match xs,us,h1,h2,hl,hr with
 |[],[],h1,h2,_,hr=>exact⟨.dF [],.tuple #[],h1,⟨[],rfl,aI.nil⟩,by rw[hr];rfl⟩
 |[x],[u],h1,h2,_,hr=>exact⟨x,u,h1,h2.2 0 _ _ rfl rfl,by rw[hr];rfl⟩
 |x::y::xs,u::v::us,h1,h2,_,hr=>exact⟨.dF ((x::y::xs).map Nw),.tuple (u::v::us).toArray,h1,⟨_,rfl,h2.mO fun _ _=>C1.Nw⟩,by rw[hr];rfl⟩
theorem o7 {X:CX} {dn:List AV} {args:List Value} (hargs:aI (C2 X) dn args) {n:Nat} (hsz:dn.length≤n): ∀t,C2 X (qW (Aj 0 dn) t) ((args.toArray++Array.replicate (n-args.toArray.size) undef).getD t undef):=by
 intro t
 have hlen:args.length=dn.length:=hargs.1.symm
 have adS: ∀ (l:List AV) (k t:Nat),qW (Aj k l) (k+t)=l.getD t .junk:=by
  intro l
  induction l with
  |nil=>intro k t;simp[Aj,qW]
  | cons x l ih=>
    intro k t
    simp only[Aj,qW]
    cases t with
    |zero=>simp
    | succ t=>
      have e:Nat.beq (k+(t+1)) k=false:=beq_false (by omega)
      rw[e,cond_false,show k+(t+1)=(k+1)+t by omega,ih]
      simp
 have hen:=adS dn 0 t
 rw[Nat.zero_add]at hen
 rw[hen]
 by_cases ht:t<args.length
 · have e1:(args.toArray++Array.replicate (n-args.toArray.size) undef).getD t undef=args[t]:=by
    rw[←Array.getElem_eq_getD (h:=by simp;omega)]
    simp[ht]
   have e2:dn.getD t .junk=dn[t]'(by omega):=by
    rw[List.getD,List.getElem?_eq_getElem (by omega)];rfl
   rw[e1,e2]
   exact hargs.2 t _ _ (List.getElem?_eq_getElem (by omega)) (List.getElem?_eq_getElem ht)
 · have e1:(args.toArray++Array.replicate (n-args.toArray.size) undef).getD t undef=undef:=by
    by_cases h2:t<n
    · have h3:(args.toArray++Array.replicate (n-args.toArray.size) undef)[t]? =some undef:=by
       rw[Array.getElem?_append_right (by simpa using Nat.le_of_not_lt ht),Array.getElem?_replicate,if_pos (by simp;omega)]
      rw[Array.getD_eq_getD_getElem?,h3]
      rfl
    · rw[Array.getD_eq_getD_getElem?,Array.getElem?_eq_none (by simp;omega)]
      rfl
   have e2:dn.getD t .junk= .junk:=by
    rw[List.getD,List.getElem?_eq_none (by omega)];rfl
   rw[e1,e2]
   trivial
end
end
section
open Go.RowKit
def QN:List (Nat×Nat)→Nat→Option Nat
  |[],_=>none
  |(k,i)::r,x=>bif Nat.beq x i then some k else QN r x
def qB (σ:List (Nat×Nat)) (ρ:Nat→Value):Nat→Value:=fun i=>match QN σ i with|some k=>ρ k|none=>ρ i
theorem tH: ∀ {σ:List (Nat×Nat)} {k i:Nat},kM σ k=some i→(k,i)∈σ
  |[],_,_,h=>by cases h
  | (k',i')::r,k,i,h=>by
    simp only[kM]at h
    cases hb:Nat.beq k k' with
    | true=>
      rw[hb]at h
      simp only[cond_true,Option.some.injEq]at h
      rw[Nat.eq_of_beq_eq_true hb,←h]
      exact List.mem_cons_self
    | false=>
      rw[hb]at h
      exact List.mem_cons_of_mem _ (tH h)
theorem Jv: ∀ {σ:List (Nat×Nat)} {i:Nat},U4 σ i=false→QN σ i=none
  |[],_,_=>rfl
  | (k',i')::r,i,h=>by
    simp only[U4,Bool.or_eq_false_iff]at h
    simp only[QN,h.1,cond_false]
    exact Jv h.2
theorem AY: ∀ {σ:List (Nat×Nat)} {k i:Nat},(σ.map (·.2)).Nodup→(k,i)∈σ→QN σ i=some k
  |[],_,_,_,h=>by cases h
  | (k',i')::r,k,i,hn,h=>by
    have hn':=List.nodup_cons.1 hn
    simp only[QN]
    rcases List.mem_cons.1 h with h|h
    · cases h;simp
    · have hne:i≠i':=fun e=>hn'.1 (List.mem_map.2 ⟨(k,i),h,e⟩)
      rw[beq_false hne,cond_false]
      exact AY hn'.2 h
theorem F7 {σ:List (Nat×Nat)} (hn:(σ.map (·.2)).Nodup) {ρ:Nat→Value} {k i:Nat} (h:kZ σ k=some i):qB σ ρ i=ρ k:=by
 unfold kZ at h
 cases hl:kM σ k with
 | some j=>
   rw[hl]at h
   simp only[Option.some.injEq]at h
   subst h
   simp only[qB,AY hn (tH hl)]
 | none=>
   rw[hl]at h
   dsimp only at h
   cases ht:U4 σ k with
   |true=>rw[ht]at h;cases h
   | false=>
     rw[ht]at h
     simp only[cond_false,Option.some.injEq]at h
     subst h
     simp only[qB,Jv ht]
section
variable {σ:List (Nat×Nat)} {X Y:CX}
theorem C0.ren (hk: ∀b,X.keep b→Y.keep b) (hm:Y.w=X.w) (hρ: ∀k i,kZ σ k=some i→Y.ρ i=X.ρ k) {av:AV} {u:Value} (h:C0 X av u):C0 Y (pU σ av) u:=by
 have hmm: ∀b,X.keep b→Y.w.heap[b]? =X.w.heap[b]? :=fun _ _=>by rw[hm]
 cases av with
 | own id=>
   simp only[pU]
   cases e:kZ σ id with
   |some i=>exact(show u=eP (X.ρ id)from h).trans (congrArg eP (hρ id i e)).symm
   |none=>trivial
 | dP id s j k=>
   simp only[pU]
   cases e:kZ σ id with
   | some i=>
     obtain⟨b,n,c,h1,h2⟩:=h
     exact⟨b,n,c,(hρ id i e).trans h1,h2⟩
   |none=>trivial
 | jq id s j k=>
   simp only[pU]
   cases e:kZ σ id with
   | some i=>
     exact Or.imp (fun⟨b,c,h1,h2⟩=>⟨b,c,(congrArg (fun v=>jm (eP v)) (hρ id i e)).trans h1,h2⟩) _root_.id h
   |none=>trivial
 | box id off=>
   simp only[pU]
   cases e:kZ σ id with
   | some i=>
     obtain⟨b,h1,h2⟩:=h
     exact⟨b,(congrArg eP (hρ id i e)).trans h1,h2⟩
   |none=>trivial
 | cf gg id off=>
   simp only[pU]
   cases e:kZ σ id with
   | some i=>
     obtain⟨b,h1,h2⟩:=h
     exact⟨b,(congrArg eP (hρ id i e)).trans h1,h2⟩
   |none=>trivial
 | el cs k=>
   obtain⟨b,o,us,e,kb,ha,hc⟩:=h
   exact⟨b,o,us,e,hk b kb,ha.imp (fun _ _=>PC.mono hk hmm),fun j y hj=>(World.cell?_of_block (hmm b kb)).trans (hc j y hj)⟩
 |sl s n sc f=>exact PC.mono hk hmm h
 |v x=>exact h
 |junk=>trivial
 |agg cs=>exact h
 |dF cs=>exact h
 |fn g caps=>exact h
theorem C1.ren (hk: ∀b,X.keep b→Y.keep b) (hm:Y.w=X.w) (hρ: ∀k i,kZ σ k=some i→Y.ρ i=X.ρ k) {av:AV} {u:Value} (h:C1 X av u):C1 Y (Ny σ av) u:=by
 cases av with
 |agg cs=>obtain⟨us,e,ha⟩:=h;exact⟨us,e,ha.mO fun _ _=>C0.ren hk hm hρ⟩
 |fn g cs=>obtain⟨us,e,ha⟩:=h;exact⟨us,e,ha.mO fun _ _=>C0.ren hk hm hρ⟩
 |own id=>exact C1.sZ (C0.ren hk hm hρ (av:= .own id) h)
 |dP id s j k=>exact C1.sZ (C0.ren hk hm hρ (av:= .dP id s j k) h)
 |jq id s j k=>exact C1.sZ (C0.ren hk hm hρ (av:= .jq id s j k) h)
 |box id k=>exact C1.sZ (C0.ren hk hm hρ (av:= .box id k) h)
 |cf gg id k=>exact C1.sZ (C0.ren hk hm hρ (av:= .cf gg id k) h)
 |el cs k=>exact C1.sZ (C0.ren hk hm hρ (av:= .el cs k) h)
 |sl s n sc f=>exact C1.sZ (C0.ren hk hm hρ (av:= .sl s n sc f) h)
 |v x=>exact h
 |junk=>trivial
 |dF cs=>exact h
theorem C2.ren (hk: ∀b,X.keep b→Y.keep b) (hm:Y.w=X.w) (hρ: ∀k i,kZ σ k=some i→Y.ρ i=X.ρ k) {av:AV} {u:Value} (h:C2 X av u):C2 Y (CJ σ av) u:=by
 cases av with
 |dF vs=>obtain⟨us,e,ha⟩:=h;exact⟨us,e,ha.mO fun _ _=>C1.ren hk hm hρ⟩
 |agg cs=>exact C2.jP (C1.ren hk hm hρ (av:= .agg cs) h)
 |fn g cs=>exact C2.jP (C1.ren hk hm hρ (av:= .fn g cs) h)
 |own id=>exact C2.jP (C1.ren hk hm hρ (av:= .own id) h)
 |dP id s j k=>exact C2.jP (C1.ren hk hm hρ (av:= .dP id s j k) h)
 |jq id s j k=>exact C2.jP (C1.ren hk hm hρ (av:= .jq id s j k) h)
 |box id k=>exact C2.jP (C1.ren hk hm hρ (av:= .box id k) h)
 |cf gg id k=>exact C2.jP (C1.ren hk hm hρ (av:= .cf gg id k) h)
 |el cs k=>exact C2.jP (C1.ren hk hm hρ (av:= .el cs k) h)
 |sl s n sc f=>exact C2.jP (C1.ren hk hm hρ (av:= .sl s n sc f) h)
 |v x=>exact h
 |junk=>trivial
end
theorem zu {σ:List (Nat×Nat)} (hn:(σ.map (·.2)).Nodup) (ρ:Nat→Value): ∀h,(ah (qB σ ρ) (iY σ h)).Sublist (ah ρ h)
  |[]=>by simp[iY,ah]
  | (k,o)::h=>by
    have ih:=zu hn ρ h
    simp only[iY]
    rw[aX ρ]
    cases e:kZ σ k with
    |none=>exact ih.trans (List.sublist_append_right _ _)
    | some i=>
      dsimp only
      rw[aX]
      dsimp only
      rw[F7 hn e]
      exact List.Sublist.append (List.Sublist.refl _) ih
theorem F8 {σ:List (Nat×Nat)}: ∀ {h:List (Nat×AO)} {p:Nat×AO},p∈iY σ h→ ∃k o,(k,o)∈h∧kZ σ k=some p.1∧p.2=o.ren σ
  |[],_,hp=>by cases hp
  | (k, o)::h,p,hp=>by
    simp only[iY]at hp
    cases e:kZ σ k with
    | none=>
      rw[e]at hp
      obtain⟨k',o',h1,h2⟩:=F8 hp
      exact⟨k',o',List.mem_cons_of_mem _ h1,h2⟩
    | some i=>
      rw[e]at hp
      rcases List.mem_cons.1 hp with rfl|hp
      · exact⟨k,o,List.mem_cons_self,e,rfl⟩
      · obtain⟨k',o',h1,h2⟩:=F8 hp
        exact⟨k',o',List.mem_cons_of_mem _ h1,h2⟩
section
variable {g:Base} {N:Nat} {bs:List (Array Value)} {ρ:Nat→Value} {a:Act} {w:World} {st:AS}
theorem Rel.ren (R:Rel g N bs ρ a w st) {σ:List (Nat×Nat)} (hnd:nodupB (σ.map (·.2))=true):Rel g N bs (qB σ ρ) a w (st.ren σ):=by
 have hn:=oU hnd
 have hsub:=zu hn ρ st.heap
 have hk: ∀b,aK g w ρ st.heap b→aK g w (qB σ ρ) (st.ren σ).heap b:=fun b h=>⟨h.1,h.2.1,fun h'=>h.2.2 (hsub.subset h')⟩
 have hρ: ∀k i,kZ σ k=some i→qB σ ρ i=ρ k:=fun k i e=>F7 hn e
 refine⟨R.size,R.defers,R.below,fun t=> ?_,fun p hp=> ?_,R.apart.sublist hsub,fun b hb=>R.own b (hsub.subset hb),R.back.map rfl fun _ _=>C2.ren (X:=aC g w ρ st.heap) (Y:=aC g w (qB σ ρ) (st.ren σ).heap) hk rfl hρ⟩
 · rw[show(st.ren σ).tmps t=CJ σ (st.tmps t)from qA rfl st.sl t]
   exact C2.ren (X:=aC g w ρ st.heap) (Y:=aC g w (qB σ ρ) (st.ren σ).heap) hk rfl hρ (R.tmps t)
 · obtain⟨k,o,h1,h2,h3⟩:=F8 hp
   have ho:=R.objs _ h1
   rw[h3]
   refine bn.move (X:=aC g w ρ st.heap) (Y:=aC g w (qB σ ρ) (st.ren σ).heap) hk (fun _ _=>rfl) (hρ _ _ h2) (fun _ _=>rfl) ?_ ho
   cases o with
   |box t cs=>exact⟨rfl,fun us ha=>ha.mO fun _ _=>C0.ren (X:=aC g w ρ st.heap) (Y:=aC g w (qB σ ρ) (st.ren σ).heap) hk rfl hρ⟩
   |row=>rfl
   |mp t ks rs=>exact⟨rfl,rfl,xJ σ ks,fun vs hv=>hv.ren fun k i e=>congrArg eP (hρ k i e)⟩
   |obs o=>rfl
   |rn e cs=>exact⟨rfl,by simp,fun us ha=>ha.mO fun _ _=>C0.ren (X:=aC g w ρ st.heap) (Y:=aC g w (qB σ ρ) (st.ren σ).heap) hk rfl hρ⟩
end
end
section
open Go.RowKit
section
variable {P:Program} {L:Lay} {g:Base} {N:Nat} {bs:List (Array Value)} {ρ:Nat→Value} {a:Act} {w:World} {st:AS}
theorem xU (R:Rel g N bs ρ a w st) (l:List Operand):aI (C2 (aC g w ρ st.heap)) (l.map st.ev) (l.map a.eval):=by
 induction l with
 |nil=>exact aI.nil
 |cons x l ih=>exact aI.cons (R.ev x) ih
theorem NZ {X:CX} {caps:List AV} {us:List Value} (h:aI (C0 X) caps us):aI (C2 X) caps us:=h.imp fun _ _=>C2.sZ
open Classical in
noncomputable def least (p:Nat→Prop):Nat:=if h: ∃n,p n then Classical.choose (exists_least h)else 0
where
 exists_least {p:Nat→Prop} (h: ∃n,p n): ∃n,p n∧ ∀k,p k→n≤k:=by
  obtain⟨n,hn⟩:=h
  induction n using Nat.strongRecOn with
  | ind n ih=>
    by_cases h: ∃k,k<n∧p k
    · obtain⟨k,hk,hp⟩:=h
      exact ih k hk hp
    · exact⟨n,hn,fun k hk=>Nat.le_of_not_lt fun hlt=>h ⟨k,hlt,hk⟩⟩
theorem F9 {p:Nat→Prop} (h: ∃n,p n):p (least p):=by
 unfold least
 rw[dif_pos h]
 exact(Classical.choose_spec (least.exists_least h)).1
theorem least_le {p:Nat→Prop} {n:Nat} (h:p n):least p≤n:=by
 unfold least
 rw[dif_pos ⟨n,h⟩]
 exact(Classical.choose_spec (least.exists_least ⟨n,h⟩)).2 n h
theorem Ve {X:CX} {h:List (Nat×AO)} {x:AV} {u:Value} (hx:C2 X x u) (ho:vG h x=true):C0 X x u:=by
 cases x<;>first|exact hx|(cases ho;done)
theorem rF {R:AV→Value→Prop} {x:AV} {us:List Value} (h:aI R [x] us): ∃u,us=[u]∧R x u:=by
 match us,h with
 |[],h=>have:=h.1;simp at this
 |[u],h=>exact⟨u,rfl,h.2 0 _ _ rfl rfl⟩
 |_::_::_,h=>have:=h.1;simp at this
theorem lN {R:AV→Value→Prop} {x y:AV} {us:List Value} (h:aI R [x,y] us): ∃u v,us=[u,v]∧R x u∧R y v:=by
 match us,h with
 |[],h=>have:=h.1;simp at this
 |[_],h=>have:=h.1;simp at this
 |[u,v],h=>exact⟨u,v,rfl,h.2 0 _ _ rfl rfl,h.2 1 _ _ rfl rfl⟩
 |_::_::_::_,h=>have:=h.1;simp at this
def IZ (P:Program) (W:Walk):Prop:= ∀ (g:Base) (N lv:Nat) (bs:List (Array Value)) (c:Code) (Q:jI→AS→Prop) (E:Exit→Act→World→Prop) {ρ:Nat→Value} {a:Act} {w:World} {st:AS},qOf g N bs Q E→Rel g N bs ρ a w st→W N lv c Q st→c.wp P E a w
theorem X5 (hL:bQ P L) {W:Walk} (hW:IZ P W) (R:Rel g N bs ρ a w st) {dn:List AV} {args:List Value} (hargs:aI (C2 (aC g w ρ st.heap)) dn args) {K:AV→AS→Prop} (lv:Nat) (fn:Func) (c:Code) (hsz:Nat.ble dn.length fn.ntmps=true)
  (h:W fn.ntmps lv c (fun e st'=>match e with| .exit _=>False| .normal=>mP L st' fn.results.toList (fun x=>vH (st'.out) (K x))| .ret=>mP L st' fn.results.toList (fun x=>vH (st'.out) (K x))) (st.into dn)):
  c.wp P (bodyPost P fn fun e w'=> ∃u x st' ρ',e= .returned u∧K x st'∧Rel g N bs ρ' a w' st'∧C2 (aC g w' ρ' st'.heap) x u) {tmps:=args.toArray++Array.replicate (fn.ntmps-args.toArray.size) undef,defers:=[]} w:=by
 have hsz:=Nat.le_of_ble_eq_true hsz
 have hlen:args.length=dn.length:=hargs.1.symm
 let g0:Base:=⟨g.w,g.keep,g.mu,[]⟩
 have R0:Rel g0 fn.ntmps (a.tmps::bs) ρ {tmps:=args.toArray++Array.replicate (fn.ntmps-args.toArray.size) undef,defers:=[]} w (st.into dn):=
  ⟨by simp;omega,rfl,R.below,o7 hargs hsz,R.objs,R.apart,R.own,⟨R.tmps,R.back⟩⟩
 have post: ∀ρ' a' w' st',Rel g0 fn.ntmps (a.tmps::bs) ρ' a' w' st'→mP L st' fn.results.toList (fun x=>vH (st'.out) (K x))→
   a'.defers=[]∧ ∃v,(results fn a'.tmps).run P w'= .ok v w'∧ ∃u x st' ρ',Ending.returned v= .returned u∧K x st'∧Rel g N bs ρ' a w' st'∧C2 (aC g w' ρ' st'.heap) x u:=by
  intro ρ' a' w' st' R' hq
  obtain⟨x,u,hret,hc,hrun⟩:=AX hL R' hq
  rw[Ti]at hret
  refine⟨R'.defers,u,hrun,u,x,st'.out,ρ',rfl,hret, ?_⟩
  have hback:=R'.back
  revert hc
  cases hbk:st'.back with
  |nil=>rw[hbk]at hback;exact hback.elim
  | cons f r=>
    rw[hbk]at hback
    have e:st'.out=⟨f,st'.heap,r,st'.base⟩:=by simp[AS.out,hbk]
    rw[e]
    exact fun hc=>⟨⟨R.size,R.defers,R'.below,hback.1,R'.objs,R'.apart,R'.own,hback.2⟩,hc⟩
 refine hW g0 fn.ntmps lv (a.tmps::bs) c _ _ ⟨?_, ?_, ?_⟩ R0 h
 · exact fun ρ' a' w' st' R' hq=>post ρ' a' w' st' R' hq
 · exact fun i ρ' a' w' st' R' hq=>hq.elim
 · exact fun ρ' a' w' st' R' hq=>post ρ' a' w' st' R' hq
theorem EL (hL:bQ P L) {W:Walk} (hW:IZ P W) (R:Rel g N bs ρ a w st) {f:FuncId} {dn:List AV} {args:List Value} (hargs:aI (C2 (aC g w ρ st.heap)) dn args) {K:AV→AS→Prop} (lv:Nat) (fn:Func) (c:Code) (hf:P.funcs[f]? =some fn) (hb:fn.body=some c) (hsz:Nat.ble dn.length fn.ntmps=true)
  (h:W fn.ntmps lv c (fun e st'=>match e with| .exit _=>False| .normal=>mP L st' fn.results.toList (fun x=>vH (st'.out) (K x))| .ret=>mP L st' fn.results.toList (fun x=>vH (st'.out) (K x))) (st.into dn)):
  Calls P f args.toArray w fun e w'=> ∃u x st' ρ',e= .returned u∧K x st'∧Rel g N bs ρ' a w' st'∧C2 (aC g w' ρ' st'.heap) x u:=
 calls_of_wp hf hb (X5 hL hW R hargs lv fn c hsz h)
theorem acN (g m:Nat):Nat.blt (Nat.add g m) m=false:=by
 rw[Bool.eq_false_iff]
 intro e
 rw[Nat.blt_eq]at e
 exact absurd e (Nat.not_lt.2 (Nat.le_add_left m g))
theorem aaG (g m:Nat):Nat.sub (Nat.add g m) m=g:=Nat.add_sub_cancel g m
theorem aaH (g:FuncId) (p:Value):cfV (Nat.add g million) p= .func (.func g) #[p] #[]:=by
 unfold cfV
 rw[acN,aaG]
 rfl
theorem acO {g:FuncId} (h:Nat.blt g million=false) (p:Value):cfV g p= .func (.func (Nat.sub g million)) #[p] #[]:=by
 unfold cfV
 rw[h]
 rfl
theorem X6 (hL:bQ P L) {W:Walk} (hW:IZ P W) (R:Rel g N bs ρ a w st) {o:Oper} {d:Nat} {K:AV→AS→Prop} {next:Act→World→Prop} {Q:Exit→Act→World→Prop} {c:Call} {x:Operand} {f0 id off b:Nat} (e:o.op= .call c) (ec:c.callee= .value x)
  (hb1:eP ((aC g w ρ st.heap).ρ id)= .pointer (some ⟨b,0,none⟩)) (hv:a.eval x= .func (.func f0) #[.pointer (some ⟨b,off,none⟩)] #[]) (h:dK P L W d f0 (.box id off::c.args.toList.map st.ev) st K)
  (hk: ∀x st' u ρ' w',K x st'→Rel g N bs ρ' a w' st'→C2 (aC g w' ρ' st'.heap) x u→next (a.put o.dst u) w'):o.wp P a w next Q:=by
 have hargs:aI (C2 (aC g w ρ st.heap)) (.box id off::c.args.toList.map st.ev) (.pointer (some ⟨b,off,none⟩)::c.args.toList.map a.eval):=aI.cons ⟨b,hb1,rfl⟩ (xU R c.args.toList)
 obtain⟨hent,hcall⟩:=xR R hargs h (fun lv fn c hf _ hb hsz h=>EL hL hW R hargs lv fn c hf hb hsz h)
 have hrun:(execOp a.eval o).run P w= .ok (.enter f0 (.pointer (some ⟨b,off,none⟩)::c.args.toList.map a.eval).toArray) w:=by
  have hcf:=pX hent (.pointer (some ⟨b,off,none⟩)::c.args.toList.map a.eval).toArray w
  have eq:(.pointer (some ⟨b,off,none⟩)::c.args.toList.map a.eval).toArray=(#[.pointer (some ⟨b,off,none⟩)]++c.args.map a.eval)++ #[]:=by
   apply Array.ext';simp
  rw[eq]at hcf⊢
  simp only[execOp,e,resolve,ec,Deferred.ofValue,hv,Sem.run_bind,Sem.run_pure,Result.andThen_ok,invoke]
  exact hcf
 unfold Oper.wp
 rw[hrun,Oper.upon_enter]
 refine hcall.mono ?_
 rintro e' w' ⟨u,y,st',ρ',rfl,h1,h2,h3⟩
 exact hk _ _ _ _ _ h1 h2 h3
theorem EM (hL:bQ P L) {W:Walk} (hW:IZ P W) (R:Rel g N bs ρ a w st) {o:Oper} {d:Nat} {K:AV→AS→Prop} (h:QD P L W d st o.op K) {next:Act→World→Prop} {Q:Exit→Act→World→Prop}
  (hk: ∀x st' u ρ' w',K x st'→Rel g N bs ρ' a w' st'→C2 (aC g w' ρ' st'.heap) x u→next (a.put o.dst u) w'):o.wp P a w next Q:=by
 have same: ∀ {x:AV} {u:Value},K x st→C2 (aC g w ρ st.heap) x u→(execOp a.eval o).run P w= .ok (.value u) w→o.wp P a w next Q:=
  fun h1 h2 h3=>kE h3 (hk _ _ _ _ _ h1 R h2)
 unfold QD at h
 have sem:nS P st o.op K→o.wp P a w next Q:=fun hs=>by
  cases hs with
  | q x hK hs=>
    obtain⟨u,h1,h2⟩:=hs g N bs ρ a w o rfl R
    exact same hK h1 h2
  |mk hq hs=>exact hs g N bs ρ a w o next Q rfl R hk
 cases hsb:acI st o.op with
 |true=>rw[hsb]at h;exact sem h
 |false=>
 rw[hsb,cond_false]at h
 split at h
 · rename_i x e
   exact same h (R.ev x) (by simp[execOp,e])
 · rename_i x e
   exact same h (R.ev x) (by simp[execOp,e])
 · rename_i c x y e
   split at h
   · rename_i t et
     have hc:=R.ev c
     rw[et]at hc
     have hc:=C2.dM hc
     cases t with
     |true=>exact same h (R.ev x) (by simp[execOp,e,hc,asBool])
     |false=>exact same h (R.ev y) (by simp[execOp,e,hc,asBool])
   · exact h.elim
 · rename_i t e
   split at h
   · rename_i i hi
     rw[iW]at h
     obtain⟨z,hz,hzc⟩:=Am hL hi w
     have hR:=R.XT st.base t (cs:=i.zero.map .v) (us:=i.zero) (FT _)
     refine kE (u:= .pointer (some ⟨w.heap.size,0,none⟩)) (w':=w.alloc (.cells i.zero.toArray t)) ?_ (hk _ _ _ _ _ h hR ⟨w.heap.size,by simp[aC,dD,eP],rfl⟩)
     have hz':z.cells=i.zero.toArray:=by rw[←hzc]
     simp[execOp,e,Instr.alloc,hz,newVar,newRow,hz']
   · exact h.elim
 · rename_i t x e
   split at h
   · rename_i cs hcs
     cases hb:cs.all (vG st.heap)with
     |false=>rw[hb]at h;exact h.elim
     | true=>
       rw[hb,cond_true,iW]at h
       obtain⟨hall,_⟩:=xP R (R.ev x) hcs hb
       have hR:=R.XT st.base t hall
       refine kE (u:= .pointer (some ⟨w.heap.size,0,none⟩)) (w':=w.alloc (.cells (a.eval x).cells.toList.toArray t)) ?_ (hk _ _ _ _ _ h hR ⟨w.heap.size,by simp[aC,dD,eP],rfl⟩)
       simp[execOp,e,Instr.box,newVar,newRow]
   · exact h.elim
 · rename_i t p e
   obtain⟨x,u,h1,h2,h3⟩:=xM hL R (R.ev p) h
   exact same h1 h2 (by simp[execOp,e,h3])
 · rename_i t p x e
   obtain⟨st',w',h1,h2,h3⟩:=jV hL R (R.ev p) (R.ev x) h
   have hrun:(execOp a.eval o).run P w= .ok .skip w':=by simp[execOp,e,h3]
   unfold Oper.wp
   rw[hrun]
   exact hk _ _ _ _ _ h1 h2 rfl
 · rename_i t x i e
   obtain⟨y,u,h1,h2,h3⟩:=vS hL (R.ev x) h w
   exact same h1 h2 (by simp[execOp,e,h3])
 · rename_i t x i e
   obtain⟨y,u,h1,h2,h3⟩:=FB hL (R.ev x) h w
   exact same h1 h2 (by simp[execOp,e,h3])
 · rename_i t x i e
   obtain⟨y,u,h1,h2,h3⟩:=mY hL R (R.ev x) (R.ev i) h
   exact same h1 h2 (by simp[execOp,e,h3])
 · rename_i t x i e
   obtain⟨y,u,h1,h2,h3⟩:=FC hL (R.ev x) (R.ev i) h w
   exact same h1 h2 (by simp[execOp,e,h3])
 · rename_i x i e
   obtain⟨y,u,h1,h2,h3⟩:=Aq (P:=P) (R.ev x) h w
   exact same h1 h2 (by simp[execOp,e,h3])
 · rename_i t parts e
   obtain⟨y,u,h1,h2,h3⟩:=FU hL R h
   exact same h1 h2 (by simp only[execOp,e,Sem.run_bind,h3,Result.andThen_ok,Sem.run_pure])
 · rename_i t n parts e
   rw[iW]at h
   cases hb:(parts.toList.map fun p=>st.ev p.2).all XJ with
   | true=>
     rw[hb]at h
     obtain⟨y,u,st',ρ',w',h1,h2,h3,h4⟩:=vk hL R h
     exact kE (by simp only[execOp,e,Sem.run_bind,h4,Result.andThen_ok,Sem.run_pure]) (hk _ _ _ _ _ h1 h2 h3)
   | false=>
     rw[hb]at h
     simp only[cond_false]at h
     rw[Ti]at h
     obtain⟨R1,_,_⟩:=EK (parts.toList.map fun p=>st.ev p.2) R
     obtain⟨y,u,st',ρ',w',h1,h2,h3,h4⟩:=vk hL R1 h
     exact kE (by simp only[execOp,e,Sem.run_bind,h4,Result.andThen_ok,Sem.run_pure]) (hk _ _ _ _ _ h1 h2 h3)
 · rename_i op t x y ty e
   obtain⟨z,u,h1,h2,h3,h4⟩:=ND (ox:=x) (oy:=y) hL (R.ev x) (R.ev y) h w
   exact same h1 h2 (by simp only[execOp,e,Sem.run_bind,h3,h4,Result.andThen_ok,Sem.run_pure])
 · rename_i op t x e
   obtain⟨z,u,h1,h2,h3⟩:=Tt (P:=P) (R.ev x) h w
   exact same h1 h2 (by simp only[execOp,e,Sem.run_bind,h3,Result.andThen_ok,Sem.run_pure])
 · rename_i s t x e
   obtain⟨z,u,h1,h2,h3⟩:=Ar hL R (R.ev x) h
   exact same h1 h2 (by simp only[execOp,e,Sem.run_bind,h3,Result.andThen_ok,Sem.run_pure])
 · rename_i t x lo hi mx e
   obtain⟨z,u,st',ρ',h1,h2,h3,h4,_⟩:=FX hL R (R.ev x) h
   exact kE (by simp only[execOp,e,Sem.run_bind,h4,Result.andThen_ok,Sem.run_pure]) (hk _ _ _ _ _ h1 h2 h3)
 · rename_i x e
   have hx:=Ag (R.ev x)
   split at h
   · rename_i i k ex
     rw[ex]at hx
     obtain⟨b,hb,hv⟩:=C2.kN hx
     exact same h ⟨b,hb,rfl⟩ (by simp[execOp,e,hv])
   · rename_i gg cs ex
     rw[ex]at hx
     obtain⟨us,hv,ha⟩:=C2.CO hx
     exact same h ⟨us,rfl,ha⟩ (by simp[execOp,e,hv])
   · exact h.elim
 · rename_i gg first caps e
   split at h
   · rename_i ef
     have hf:first= #[]:=by simpa using ef
     subst hf
     cases hb:(caps.toList.map st.ev).all (vG st.heap)with
     |false=>rw[hb]at h;exact h.elim
     | true=>
       rw[hb]at h
       refine same h (u:= .func (.func gg) #[] (caps.map a.eval)) ⟨caps.toList.map a.eval,by rw[←Array.toList_map], ?_⟩ (by simp[execOp,e,Instr.makeFunc])
       have:=xU R caps.toList
       exact⟨this.1,fun i x u hx hu=>Ve (this.2 i x u hx hu) (List.all_eq_true.1 hb x (List.mem_of_getElem? hx))⟩
   · rename_i x r ef
     split at h
     · rename_i id off ex
       cases hb:Nat.blt gg million&&r.isEmpty&&caps.toList.isEmpty with
       |false=>rw[hb]at h;exact h.elim
       | true=>
         rw[hb]at h
         simp only[Bool.and_eq_true,List.isEmpty_iff]at hb
         obtain⟨⟨hb1,rfl⟩,hb2⟩:=hb
         have hf:first= #[x]:=by apply Array.ext';simpa using ef
         have hc:caps= #[]:=by apply Array.ext';simpa using hb2
         subst hf hc
         have hx:=R.ev x
         rw[ex]at hx
         obtain⟨b,h1,hv⟩:=C2.kN hx
         exact same h (u:= .func (.func gg) #[.pointer (some ⟨b,off,none⟩)] #[]) ⟨b,h1,(aaH gg _).symm⟩ (by simp[execOp,e,Instr.makeFunc,hv])
     · exact h.elim
 · rename_i c e
   split at h
   · rename_i b ec
     have hex: ∀ {u:Value} {w':World},(builtin b c.argTypes o.type (c.args.map fun| .const _=>true|_=>false) (c.args.map a.eval)).run P w= .ok (.value u) w'→(execOp a.eval o).run P w= .ok (.value u) w':=by
      intro u w' h
      simp only[execOp,e,resolve,ec,Sem.run_bind,Sem.run_pure,Result.andThen_ok,invoke]
      exact h
     have ha:=xU R c.args.toList
     have hca:c.args.map a.eval=(c.args.toList.map a.eval).toArray:=by apply Array.ext';simp
     have hct:c.argTypes=c.argTypes.toList.toArray:=by simp
     rw[iW]at h
     unfold vP at h
     split at h
     · rename_i t x et ex
       rw[ex]at ha
       obtain⟨v,hv,hc⟩:=rF ha
       obtain⟨z,u,h1,h2,h3⟩:=NH (ty:=o.type) hL R hc h
       exact same h1 h2 (hex (by rw[hca,hv,hct,et];simp only[builtin,Sem.run_bind,h3,Result.andThen_ok,Sem.run_pure]))
     · rename_i t tx x y et ex
       rw[ex]at ha
       obtain⟨v1,v2,hv,hc1,hc2⟩:=lN ha
       obtain⟨z,u,st',ρ',w',h1,h2,h3,h4⟩:=NT (ty:=o.type) hL R hc1 hc2 h
       exact kE (hex (by rw[hca,hv,hct,et];simp only[builtin,Sem.run_bind,h4,Result.andThen_ok,Sem.run_pure])) (hk _ _ _ _ _ h1 h2 h3)
     · rename_i x y ex
       rw[ex]at ha
       obtain⟨v1,v2,hv,hc1,hc2⟩:=lN ha
       obtain⟨z,u,h1,h2,h3⟩:=NI (P:=P) hc1 hc2 h c.argTypes o.type w
       exact same h1 h2 (hex (by rw[hca,hv];simp only[builtin,Sem.run_bind,h3,Result.andThen_ok,Sem.run_pure]))
     · rename_i x y ex
       rw[ex]at ha
       obtain⟨v1,v2,hv,hc1,hc2⟩:=lN ha
       obtain⟨z,u,h1,h2,h3⟩:=NJ (P:=P) hc1 hc2 h c.argTypes o.type w
       exact same h1 h2 (hex (by rw[hca,hv];simp only[builtin,Sem.run_bind,h3,Result.andThen_ok,Sem.run_pure]))
     · rename_i t QG x y et ex
       rw[ex]at ha
       obtain⟨v1,v2,hv,hc1,hc2⟩:=lN ha
       obtain⟨z,st',ρ',w',h1,h2,h3,h4⟩:=NM (QG:=QG) (ty:=o.type) hL R hc1 hc2 h
       exact kE (hex (by rw[hca,hv,hct,et];simp only[builtin,Sem.run_bind,h4,Result.andThen_ok,Sem.run_pure])) (hk _ _ _ _ _ h1 h2 h3)
     · rename_i t tx x y et ex
       rw[ex]at ha
       obtain⟨v1,v2,hv,hc1,hc2⟩:=lN ha
       obtain⟨z,u,st',w',h1,h2,h3,h4⟩:=Va (ty:=o.type) hL R hc1 hc2 h
       exact kE (hex (by rw[hca,hv,hct,et];simp only[builtin,Sem.run_bind,h4,Result.andThen_ok,Sem.run_pure])) (hk _ _ _ _ _ h1 h2 h3)
     · rename_i t x et ex
       rw[ex]at ha
       obtain⟨v,hv,hc⟩:=rF ha
       obtain⟨z,st',w',h1,h2,h3,h4⟩:=QK (ty:=o.type) hL R hc h
       exact kE (hex (by rw[hca,hv,hct,et];simp only[builtin,Sem.run_bind,h4,Result.andThen_ok,Sem.run_pure])) (hk _ _ _ _ _ h1 h2 h3)
     · exact h.elim
   · rename_i x ec
     split at h
     · rename_i gg caps ex
       rw[iW]at h
       have hx:=Ag (R.ev x)
       rw[ex]at hx
       obtain⟨us,hv,ha⟩:=C2.CO hx
       have hargs:=(xU R c.args.toList).app (NZ ha)
       obtain⟨hent,hcall⟩:=xR R hargs h (fun lv fn c hf _ hb hsz h=>EL hL hW R hargs lv fn c hf hb hsz h)
       have hrun:(execOp a.eval o).run P w= .ok (.enter gg (c.args.toList.map a.eval++us).toArray) w:=by
        have hcf:=pX hent (c.args.toList.map a.eval++us).toArray w
        have eq:(c.args.toList.map a.eval++us).toArray=(#[]++c.args.map a.eval)++us.toArray:=by
         apply Array.ext';simp
        rw[eq]at hcf⊢
        simp only[execOp,e,resolve,ec,Deferred.ofValue,hv,Sem.run_bind,Sem.run_pure,Result.andThen_ok,invoke]
        exact hcf
       unfold Oper.wp
       rw[hrun,Oper.upon_enter]
       refine hcall.mono ?_
       rintro e' w' ⟨u,y,st',ρ',rfl,h1,h2,h3⟩
       exact hk _ _ _ _ _ h1 h2 h3
     · rename_i gg id off ex
       cases hge:Nat.blt gg million with
       |true=>rw[hge]at h;exact h.elim
       |false=>
       rw[hge,cond_false,iW]at h
       have hx:=Ag (R.ev x)
       rw[ex]at hx
       obtain⟨b,hb1,hv⟩:=C2.acK hx
       rw[acO hge]at hv
       exact X6 hL hW R e ec hb1 hv h hk
     · exact h.elim
   · exact h.elim
 · rename_i t l c e
   rw[iW]at h
   obtain⟨y,u,st',ρ',w',h1,h2,h3,h4⟩:=U8 hL R (R.ev l) (R.ev c) h
   exact kE (by simp only[execOp,e,Sem.run_bind,h4,Result.andThen_ok,Sem.run_pure]) (hk _ _ _ _ _ h1 h2 h3)
 · rename_i t x e
   obtain⟨z,u,h1,h2,h3⟩:=FY hL R (R.ev x) h
   exact same h1 h2 (by simp only[execOp,e,Sem.run_bind,h3,Result.andThen_ok,Sem.run_pure])
 · rename_i t x i e
   obtain⟨z,u,h1,h2,h3⟩:=DV hL R (R.ev x) (R.ev i) h
   exact same h1 h2 (by simp only[execOp,e,Sem.run_bind,h3,Result.andThen_ok,Sem.run_pure])
 · rename_i t m i x e
   obtain⟨st',w',h1,h2,h3⟩:=FP hL R (R.ev m) (R.ev i) (R.ev x) h
   have hrun:(execOp a.eval o).run P w= .ok .skip w':=by simp[execOp,e,h3]
   unfold Oper.wp
   rw[hrun]
   exact hk _ _ _ _ _ h1 h2 rfl
 · rename_i t e
   cases hsm:Tq L t with
   |false=>rw[hsm]at h;exact sem (by rw[e];exact h)
   |true=>
   rw[hsm]at h
   obtain⟨z,u,st',ρ',w',h1,h2,h3,h4⟩:=Lj (P:=P) R h
   exact kE (by simp only[execOp,e,Option.map_none,Sem.run_bind,h4,Result.andThen_ok,Sem.run_pure]) (hk _ _ _ _ _ h1 h2 h3)
 · exact sem h
theorem iE (R:Rel g N bs ρ a w st) {d:Option Tmp} {x:AV} {u:Value} (hx:C2 (aC g w ρ st.heap) x u) {K:AS→Prop} (h:pG N st d x K): ∃st',K st'∧Rel g N bs ρ (a.put d u) w st':=by
 unfold pG at h
 cases d with
 |none=>exact⟨st,h,R⟩
 | some d=>
   dsimp only at h
   cases hb:Nat.ble (d+1) N with
   |false=>rw[hb]at h;exact h.elim
   | true=>
     rw[hb,cond_true,force_eq]at h
     obtain⟨sl,hh,bk,b⟩:=st
     exact⟨_,h,R.put (Nat.le_of_ble_eq_true hb) hx⟩
theorem N7 (hL:bQ P L) {W:Walk} (hW:IZ P W) {ops:List Oper} {Q:AS→Prop} {QQ:Exit→Act→World→Prop} (hQ: ∀a w ρ st,Rel g N bs ρ a w st→Q st→QQ .normal a w):
  ∀ (l:List Oper) {ρ:Nat→Value} {a:Act} {w:World} {st:AS},Rel g N bs ρ a w st→vI P L W N ops Q l st→wpList P ops.toArray QQ l a w
  |[],ρ,a,w,st,R,h=>hQ a w ρ st R h
  | ⟨dst, op, ty,pos,after,guard⟩::rest,ρ,a,w,st,R,h=>by
    have ih:= @N7 hL W hW ops Q QQ hQ rest
    have go: ∀d,QD P L W d st op (fun x st'=>pG N st' dst x (vI P L W N ops Q rest))→Oper.wp P ⟨dst,op,ty,pos,after,guard⟩ a w (wpList P ops.toArray QQ rest) QQ:=by
     intro d hd
     refine EM hL hW R (o:=⟨dst,op,ty,pos,after,guard⟩) (d:=d) hd ?_
     intro x st' u ρ' w' hx R' hc
     obtain⟨st2,h2,R2⟩:=iE R' hc hx
     exact ih R2 h2
    have go':zl P L W dst st op (fun x st'=>pG N st' dst x (vI P L W N ops Q rest))→Oper.wp P ⟨dst,op,ty,pos,after,guard⟩ a w (wpList P ops.toArray QQ rest) QQ:=by
     intro hd
     unfold zl at hd
     cases dst with
     |none=>exact go 0 hd
     |some d=>exact go d hd
    have skip:pG N st dst (.v undef) (vI P L W N ops Q rest)→wpList P ops.toArray QQ rest (a.put dst undef) w:=by
     intro hd
     obtain⟨st2,h2,R2⟩:=iE R (show C2 (aC g w ρ st.heap) (.v undef) undef from rfl) hd
     exact ih R2 h2
    simp only[vI]at h
    cases guard with
    | none=>
      dsimp only at h
      refine wpList_step (fun K hK=> ?_)
      have hw:=go' h
      simp only[Region.wanted,if_true]
      exact X7 hw hK
    | some gd =>
      obtain⟨j,want⟩:=gd
      dsimp only at h
      split at h
      · rename_i dj hdj
        cases hb:Nat.ble (dj+1) N with
        |false=>rw[hb]at h;exact h.elim
        | true =>
          rw[hb,cond_true]at h
          have hlt:=Nat.le_of_ble_eq_true hb
          have hd:=R.tmps dj
          have hget:a.tmps[dj]? =some (a.tmps.getD dj undef):=by
           have:dj<a.tmps.size:=by rw[R.size];exact hlt
           simp[this]
          have hops:((ops.toArray[j]?).bind (·.dst))=some dj:=by simpa using hdj
          split at h
          · rename_i b eb
            rw[eb]at hd
            have hd:=C2.dM hd
            have hy:yielded ops.toArray a.tmps j=some b:=by
             unfold yielded
             rw[hops]
             simp only[Option.bind_some,hget,hd]
            split at h
            · rename_i hbw
              refine wpList_step (fun K hK=> ?_)
              have hwant:Region.wanted ⟨dst,op,ty,pos,after,some (j,want)⟩ (yielded ops.toArray a.tmps)=true:=by
               simp only[Region.wanted,hy]
               simpa using hbw
              rw[if_pos hwant]
              exact X7 (go' h) hK
            · rename_i hbw
              refine wpList_skip ?_ (skip h)
              simp only[Region.wanted,hy]
              simpa using hbw
          · rename_i vs eb
            rw[eb]at hd
            have hd:=C2.dM hd
            have hy:yielded ops.toArray a.tmps j=none:=by
             unfold yielded
             rw[hops]
             simp only[Option.bind_some,hget,hd]
            refine wpList_skip ?_ (skip h)
            simp only[Region.wanted,hy]
            rfl
          · exact h.elim
      · exact h.elim
where
 X7 {o:Oper} {a:Act} {w:World} {K K':Act→World→Prop} {Q:Exit→Act→World→Prop} (h:o.wp P a w K Q) (hk: ∀a w,K a w→K' a w):o.wp P a w K' Q:=by
  unfold Oper.wp Oper.upon at*
  split at h
  · exact hk _ _ h
  · exact hk _ _ h
  · exact hk _ _ h
  · refine h.mono ?_
    intro e w'' he
    cases e with
    |returned v=>exact hk _ _ he
    |panicked c=>exact he
    |outgrown=>exact he
  · exact h.mono fun _ _ he=>hk _ _ he
  · exact h
  · exact h
theorem xW (hL:bQ P L) {W:Walk} (R:Rel g N bs ρ a w st) {o:Oper} {d:Nat} {K:AV→AS→Prop} (hq:lH o.op=true) (h:QD P L W d st o.op K): ∃x u,K x st∧C2 (aC g w ρ st.heap) x u∧(execOp a.eval o).run P w= .ok (.value u) w:=by
 unfold QD at h
 have sem:nS P st o.op K→ ∃x u,K x st∧C2 (aC g w ρ st.heap) x u∧(execOp a.eval o).run P w= .ok (.value u) w:=fun hs=>by
  cases hs with
  | q x hK hs=>
    obtain⟨u,h1,h2⟩:=hs g N bs ρ a w o rfl R
    exact⟨x,u,hK,h1,h2⟩
  |mk hq' hs=>rw[hq]at hq';cases hq'
 cases hsb:acI st o.op with
 |true=>rw[hsb]at h;exact sem h
 |false=>
 rw[hsb,cond_false]at h
 split at h
 · rename_i x e
   exact⟨_,_,h,R.ev x,by simp[execOp,e]⟩
 · rename_i x e
   exact⟨_,_,h,R.ev x,by simp[execOp,e]⟩
 · rename_i c x y e
   split at h
   · rename_i t et
     have hc:=R.ev c
     rw[et]at hc
     have hc:=C2.dM hc
     cases t with
     |true=>exact⟨_,_,h,R.ev x,by simp[execOp,e,hc,asBool]⟩
     |false=>exact⟨_,_,h,R.ev y,by simp[execOp,e,hc,asBool]⟩
   · exact h.elim
 · rename_i e;rw[e]at hq;cases hq
 · rename_i e;rw[e]at hq;cases hq
 · rename_i t p e
   obtain⟨x,u,h1,h2,h3⟩:=xM hL R (R.ev p) h
   exact⟨_,_,h1,h2,by simp[execOp,e,h3]⟩
 · rename_i e;rw[e]at hq;cases hq
 · rename_i t x i e
   obtain⟨y,u,h1,h2,h3⟩:=vS hL (R.ev x) h w
   exact⟨_,_,h1,h2,by simp[execOp,e,h3]⟩
 · rename_i t x i e
   obtain⟨y,u,h1,h2,h3⟩:=FB hL (R.ev x) h w
   exact⟨_,_,h1,h2,by simp[execOp,e,h3]⟩
 · rename_i t x i e
   obtain⟨y,u,h1,h2,h3⟩:=mY hL R (R.ev x) (R.ev i) h
   exact⟨_,_,h1,h2,by simp[execOp,e,h3]⟩
 · rename_i t x i e
   obtain⟨y,u,h1,h2,h3⟩:=FC hL (R.ev x) (R.ev i) h w
   exact⟨_,_,h1,h2,by simp[execOp,e,h3]⟩
 · rename_i x i e
   obtain⟨y,u,h1,h2,h3⟩:=Aq (P:=P) (R.ev x) h w
   exact⟨_,_,h1,h2,by simp[execOp,e,h3]⟩
 · rename_i t parts e
   obtain⟨y,u,h1,h2,h3⟩:=FU hL R h
   exact⟨_,_,h1,h2,by simp only[execOp,e,Sem.run_bind,h3,Result.andThen_ok,Sem.run_pure]⟩
 · rename_i e;rw[e]at hq;cases hq
 · rename_i op t x y ty e
   obtain⟨z,u,h1,h2,h3,h4⟩:=ND (ox:=x) (oy:=y) hL (R.ev x) (R.ev y) h w
   exact⟨_,_,h1,h2,by simp only[execOp,e,Sem.run_bind,h3,h4,Result.andThen_ok,Sem.run_pure]⟩
 · rename_i op t x e
   obtain⟨z,u,h1,h2,h3⟩:=Tt (P:=P) (R.ev x) h w
   exact⟨_,_,h1,h2,by simp only[execOp,e,Sem.run_bind,h3,Result.andThen_ok,Sem.run_pure]⟩
 · rename_i s t x e
   obtain⟨z,u,h1,h2,h3⟩:=Ar hL R (R.ev x) h
   exact⟨_,_,h1,h2,by simp only[execOp,e,Sem.run_bind,h3,Result.andThen_ok,Sem.run_pure]⟩
 · rename_i e;rw[e]at hq;cases hq
 · rename_i x e
   have hx:=Ag (R.ev x)
   split at h
   · rename_i i k ex
     rw[ex]at hx
     obtain⟨b,hb,hv⟩:=C2.kN hx
     exact⟨_,_,h,⟨b,hb,rfl⟩,by simp[execOp,e,hv]⟩
   · rename_i gg cs ex
     rw[ex]at hx
     obtain⟨us,hv,ha⟩:=C2.CO hx
     exact⟨_,_,h,⟨us,rfl,ha⟩,by simp[execOp,e,hv]⟩
   · exact h.elim
 · rename_i e;rw[e]at hq;cases hq
 · rename_i c e
   rw[e]at hq
   obtain⟨callee,args,ats⟩:=c
   cases callee with
   |value x=>cases hq
   |invoke r m=>cases hq
   | builtin b=>
     have hex: ∀ {u:Value} {w':World},(builtin b ats o.type (args.map fun| .const _=>true|_=>false) (args.map a.eval)).run P w= .ok (.value u) w'→(execOp a.eval o).run P w= .ok (.value u) w':=by
      intro u w' h
      simp only[execOp,e,resolve,Sem.run_bind,Sem.run_pure,Result.andThen_ok,invoke]
      exact h
     have ha:=xU R args.toList
     have hca:args.map a.eval=(args.toList.map a.eval).toArray:=by apply Array.ext';simp
     have hct:ats=ats.toList.toArray:=by simp
     dsimp only at h
     rw[iW]at h
     cases b<;>first|(cases hq;done)|skip
     · unfold vP at h
       split at h
       · rename_i t x et1 et ex
         rw[ex]at ha
         obtain⟨v,hv,hc⟩:=rF ha
         obtain⟨z,u,h1,h2,h3⟩:=NH (ty:=o.type) hL R hc h
         exact⟨_,_,h1,h2,hex (by rw[hca,hv,hct,et];simp only[builtin,Sem.run_bind,h3,Result.andThen_ok,Sem.run_pure])⟩
       · rename_i e1 _ _;cases e1
       · rename_i e1 _;cases e1
       · rename_i e1 _;cases e1
       · rename_i e1 _ _;cases e1
       · rename_i e1 _ _;cases e1
       · rename_i e1 _ _;cases e1
       · exact h.elim
     · unfold vP at h
       split at h
       · rename_i e1 _ _;cases e1
       · rename_i e1 _ _;cases e1
       · rename_i e1 _;cases e1
       · rename_i x y _ ex
         rw[ex]at ha
         obtain⟨v,v',hv,hc,hc'⟩:=lN ha
         obtain⟨z,u,h1,h2,h3⟩:=NJ (P:=P) hc hc' h ats o.type w
         exact⟨_,_,h1,h2,hex (by rw[hca,hv];simp only[builtin,Sem.run_bind,h3,Result.andThen_ok,Sem.run_pure])⟩
       · rename_i e1 _ _;cases e1
       · rename_i e1 _ _;cases e1
       · rename_i e1 _ _;cases e1
       · exact h.elim
     · unfold vP at h
       split at h
       · rename_i e1 _ _;cases e1
       · rename_i e1 _ _;cases e1
       · rename_i x y _ ex
         rw[ex]at ha
         obtain⟨v,v',hv,hc,hc'⟩:=lN ha
         obtain⟨z,u,h1,h2,h3⟩:=NI (P:=P) hc hc' h ats o.type w
         exact⟨_,_,h1,h2,hex (by rw[hca,hv];simp only[builtin,Sem.run_bind,h3,Result.andThen_ok,Sem.run_pure])⟩
       · rename_i e1 _;cases e1
       · rename_i e1 _ _;cases e1
       · rename_i e1 _ _;cases e1
       · rename_i e1 _ _;cases e1
       · exact h.elim
 · rename_i e;rw[e]at hq;cases hq
 · rename_i t x e
   obtain⟨z,u,h1,h2,h3⟩:=FY hL R (R.ev x) h
   exact⟨_,_,h1,h2,by simp only[execOp,e,Sem.run_bind,h3,Result.andThen_ok,Sem.run_pure]⟩
 · rename_i t x i e
   obtain⟨z,u,h1,h2,h3⟩:=DV hL R (R.ev x) (R.ev i) h
   exact⟨_,_,h1,h2,by simp only[execOp,e,Sem.run_bind,h3,Result.andThen_ok,Sem.run_pure]⟩
 · rename_i e;rw[e]at hq;cases hq
 · rename_i e;rw[e]at hq;cases hq
 · exact sem h
theorem vZ (hL:bQ P L) {W:Walk} {ops:List Oper} {Q:AS→Prop} {E:Act→World→Prop} (hQ: ∀a w' st,Rel g N bs ρ a w' st→Q st→E a w'):
  ∀ (l:List Oper) {a:Act} {w:World} {st:AS},l.all (fun o=>lH o.op)=true→Rel g N bs ρ a w st→vI P L W N ops Q l st→wpQuiet P ops.toArray (fun w'=>w'=w) (fun a'=> ∀w',w'=w→E a' w') l a
  |[],a,w,st,_,R,h=>fun w' e=>by rw[e];exact hQ a w st R h
  | ⟨dst, op, ty,pos,after,guard⟩::rest,a,w,st,hqq,R,h=>by
    simp only[List.all_cons,Bool.and_eq_true]at hqq
    obtain⟨hqo,hqr⟩:=hqq
    have ih:= @vZ hL W ops Q E hQ rest
    have go: ∀d,QD P L W d st op (fun x st'=>pG N st' dst x (vI P L W N ops Q rest))→Oper.quiet P ⟨dst,op,ty,pos,after,guard⟩ a (fun w'=>w'=w) (wpQuiet P ops.toArray (fun w'=>w'=w) (fun a'=> ∀w',w'=w→E a' w') rest):=by
     intro d hd
     obtain⟨x,u,h1,h2,h3⟩:=xW hL R (o:=⟨dst,op,ty,pos,after,guard⟩) (d:=d) hqo hd
     obtain⟨st2,k2,R2⟩:=iE R h2 h1
     refine⟨u,fun w' e=> ?_,ih hqr R2 k2⟩
     subst e
     unfold Oper.quietAt
     rw[h3]
     exact⟨rfl,rfl⟩
    have go':zl P L W dst st op (fun x st'=>pG N st' dst x (vI P L W N ops Q rest))→Oper.quiet P ⟨dst,op,ty,pos,after,guard⟩ a (fun w'=>w'=w) (wpQuiet P ops.toArray (fun w'=>w'=w) (fun a'=> ∀w',w'=w→E a' w') rest):=by
     intro hd
     unfold zl at hd
     cases dst with
     |none=>exact go 0 hd
     |some d=>exact go d hd
    have skip:pG N st dst (.v undef) (vI P L W N ops Q rest)→wpQuiet P ops.toArray (fun w'=>w'=w) (fun a'=> ∀w',w'=w→E a' w') rest (a.put dst undef):=by
     intro hd
     obtain⟨st2,h2,R2⟩:=iE R (show C2 (aC g w ρ st.heap) (.v undef) undef from rfl) hd
     exact ih hqr R2 h2
    simp only[vI]at h
    simp only[wpQuiet]
    cases guard with
    | none=>
      dsimp only at h
      rw[if_pos (by simp[Region.wanted])]
      exact go' h
    | some gd =>
      obtain⟨j,want⟩:=gd
      dsimp only at h
      split at h
      · rename_i dj hdj
        cases hb:Nat.ble (dj+1) N with
        |false=>rw[hb]at h;exact h.elim
        | true=>
          rw[hb,cond_true]at h
          have hlt:=Nat.le_of_ble_eq_true hb
          have hd:=R.tmps dj
          have hget:a.tmps[dj]? =some (a.tmps.getD dj undef):=by
           have:dj<a.tmps.size:=by rw[R.size];exact hlt
           simp[this]
          have hops:((ops.toArray[j]?).bind (·.dst))=some dj:=by simpa using hdj
          split at h
          · rename_i b eb
            rw[eb]at hd
            have hd:=C2.dM hd
            have hy:yielded ops.toArray a.tmps j=some b:=by
             unfold yielded
             rw[hops]
             simp only[Option.bind_some,hget,hd]
            split at h
            · rename_i hbw
              rw[if_pos (by simp only[Region.wanted,hy];simpa using hbw)]
              exact go' h
            · rename_i hbw
              rw[if_neg (by simp only[Region.wanted,hy];simpa using hbw)]
              exact skip h
          · rename_i vs eb
            rw[eb]at hd
            have hd:=C2.dM hd
            have hy:yielded ops.toArray a.tmps j=none:=by
             unfold yielded
             rw[hops]
             simp only[Option.bind_some,hget,hd]
            rw[if_neg (by simp only[Region.wanted,hy];simp)]
            exact skip h
          · exact h.elim
      · exact h.elim
theorem Jw {X:CX}: ∀ {fs hs:List (List (Nat×AV))} {bs:List (Array Value)},lZ X fs bs→pI fs hs→lZ X hs bs
  |[],[],[],_,_=>trivial
  |_::_,_::_,_::_,k,l=>⟨fun t=>by
     rcases l.1 t with e|e
     · rw[e];trivial
     · exact e _ _ (k.1 t),Jw k.2 l.2⟩
  |[],_::_,_,_,l=>l.elim
  |_::_,[],_,_,l=>l.elim
  |[],[],_::_,k,_=>k.elim
  |_::_,_::_,[],k,_=>k.elim
theorem Rel.less (R:Rel g N bs ρ a w st) {S:AS} (h:Fv st S):Rel g N bs ρ a w S:=by
 have hb: ∀b,b∈ah ρ S.heap→b∈ah ρ st.heap:=by
  intro b hb
  obtain⟨p,hp,e⟩:=aQ.1 hb
  obtain⟨o,ho,_⟩:=h.hp p hp
  exact aQ.2 ⟨_,ay ho,e⟩
 have hk: ∀b,aK g w ρ st.heap b→aK g w ρ S.heap b:=fun b h=>⟨h.1,h.2.1,fun h'=>h.2.2 (hb b h')⟩
 refine⟨R.size,R.defers,R.below,fun t=> ?_,fun p hp=> ?_, ?_,fun b h=>R.own b (hb b h),Jw (R.back.imp fun _ _=>C2.same (X:=aC g w ρ st.heap) (Y:=aC g w ρ S.heap) hk (fun _ _=>rfl) rfl) h.bk⟩
 · rcases h.tm t with e|e
   · rw[e];trivial
   · exact e _ _ (C2.same (X:=aC g w ρ st.heap) (Y:=aC g w ρ S.heap) hk (fun _ _=>rfl) rfl (R.tmps t))
 · obtain⟨o,ho,he⟩:=h.hp p hp
   refine he _ _ ?_
   exact bn.same (X:=aC g w ρ st.heap) (Y:=aC g w ρ S.heap) hk (fun _ _=>rfl) rfl (fun _ _=>rfl) (R.objs _ (ay ho))
 · exact Jy h.nd R.apart (fun p hp=>by obtain⟨o,ho,_⟩:=h.hp p hp;exact⟨_,ay ho,rfl⟩)
where
 Jy {ρ:Nat→Value} {h:List (Nat×AO)}: ∀ {l:List (Nat×AO)},(l.map (·.1)).Nodup→(ah ρ h).Nodup→(∀p∈l,∃q∈h,q.1=p.1)→(ah ρ l).Nodup
   |[],_,_,_=>by simp[ah]
   | p::l,hn,hh,hs=>by
     have hn':=List.nodup_cons.1 hn
     have ih:=Jy hn'.2 hh (fun q hq=>hs q (List.mem_cons_of_mem _ hq))
     rw[aX,List.nodup_append]
     obtain⟨p',hp',e1⟩:=hs p List.mem_cons_self
     refine⟨by rw[←e1];exact jS hh hp',ih,fun x hx y hy e=> ?_⟩
     subst e
     obtain⟨q,hq,hqe⟩:=aQ.1 hy
     obtain⟨q',hq',e2⟩:=hs q (List.mem_cons_of_mem _ hq)
     have:=fG hh p' hp' q' hq' (by rw[e1];exact hx) (by rw[e2];exact hqe)
     exact hn'.1 (List.mem_map.2 ⟨q,hq,by rw[←e2,←this,e1]⟩)
theorem Rel.N8 (R:Rel g N bs ρ a w st) {σ:List (Nat×Nat)} {S:AS} (h:dL σ st S): ∃ρ',Rel g N bs ρ' a w S:=⟨_,(R.ren h.nd).less h.le⟩
theorem Rel.nilRow (R:Rel g N bs ρ a w st) (t d:Nat) (e:TypeId) (s:Nat) (f:Nat→List AV) (ht:st.tmps t= .v (.slice none 0 0)) (hs:0<s):Rel g N bs (dD ρ d (.slice none 0 0)) a w ((st.obj d d (.row e s 0 true f)).put t (.own d)):=by
 have R1:Rel g N bs (dD ρ d (.slice none 0 0)) a w (st.obj d d (.row e s 0 true f)):=by
  refine R.obj d d R.below (Nat.le_refl _) (fun _ _ _=>rfl) (fun b hb=>by cases hb) (fun _=> ?_)
  exact⟨[],by simpa[aC,dD]using World.ownsRow_nil w _ e s,hs,fun i hi=>absurd hi (by omega),(fun _ x hx=>by cases hx),aI.nil⟩
 refine⟨R1.size,R1.defers,R1.below,fun t'=> ?_,R1.objs,R1.apart,R1.own,R1.back⟩
 show C2 _ (upd t (.own d) _ t') _
 by_cases e':t'=t
 · subst e'
   have h0:=R.tmps t'
   rw[ht]at h0
   have h0:=C2.dM h0
   simp only[upd,Nat.beq_refl,cond_true]
   show a.tmps.getD t' undef=eP (dD ρ d (.slice none 0 0) d)
   rw[h0]
   simp[dD,eP]
 · simp only[upd,beq_false e',cond_false]
   exact R1.tmps t'
theorem Rel.acP (R:Rel g N bs ρ a w st) (id k d:Nat) (e:TypeId) (s:Nat) (f:Nat→List AV) {t:TypeId} {cs:List AV} (hs:0<s) (hf:aP id (st.obj d d (.row e s 0 true f)).heap=some (.box t cs)) (hk:cs[k]? =some (.v (.slice none 0 0))):
  Rel g N bs (dD ρ d (.slice none 0 0)) a w ⟨(st.obj d d (.row e s 0 true f)).sl,setObj id (.box t (cs.set k (.own d))) (st.obj d d (.row e s 0 true f)).heap,(st.obj d d (.row e s 0 true f)).back,(st.obj d d (.row e s 0 true f)).base⟩:=by
 have R1:Rel g N bs (dD ρ d (.slice none 0 0)) a w (st.obj d d (.row e s 0 true f)):=by
  refine R.obj d d R.below (Nat.le_refl _) (fun _ _ _=>rfl) (fun b hb=>by cases hb) (fun _=> ?_)
  exact⟨[],by simpa[aC,dD]using World.ownsRow_nil w _ e s,hs,fun i hi=>absurd hi (by omega),(fun _ x hx=>by cases hx),aI.nil⟩
 obtain⟨b,us,e',hh,ha⟩:=R1.objs _ (ay hf)
 have e':dD ρ d (.slice none 0 0) id=_:=e'
 refine R1.write hf (b:=b) (by rw[e'];exact List.mem_cons_self) (Below.refl _ _) rfl (fun _ _=>rfl) (fun hk' hm=> ?_)
 refine⟨b,us,e',hh,by rw[List.length_set];exact ha.1,fun i x u hx hu=> ?_⟩
 by_cases hi:i=k
 · subst hi
   have hlt:i<cs.length:=(List.getElem?_eq_some_iff.1 hk).1
   rw[List.getElem?_set_self hlt]at hx
   cases hx
   have h0:u= .slice none 0 0:=ha.2 i _ u hk hu
   show u=eP (dD ρ d (.slice none 0 0) d)
   rw[h0]
   simp[dD,eP]
 · rw[List.getElem?_set_ne (fun h=>hi h.symm)]at hx
   exact C0.same (X:=aC g w (dD ρ d (.slice none 0 0)) (st.obj d d (.row e s 0 true f)).heap) (Y:=aC g w (dD ρ d (.slice none 0 0)) (setObj id (.box t (cs.set k (.own d))) (st.obj d d (.row e s 0 true f)).heap)) hk' hm rfl (ha.2 i x u hx hu)
theorem N9 (lv:Nat): ∀ (l:List (Nat×AV)) (t:Nat),qW (Eo lv l) t=bif KT lv t then qW l t else .junk
  |[],t=>by simp[Eo,qW]
  | (k, v)::l,t=>by
    have ih:=N9 lv l t
    simp only[Eo]
    cases hk:KT lv k with
    | true=>
      simp only[cond_true,qW]
      cases hb:Nat.beq t k with
      | true=>
        obtain rfl:=Nat.eq_of_beq_eq_true hb
        rw[hk]
        rfl
      |false=>exact ih
    | false=>
      simp only[cond_false,qW]
      rw[ih]
      cases hb:Nat.beq t k with
      | true=>
        obtain rfl:=Nat.eq_of_beq_eq_true hb
        rw[hk]
        rfl
      |false=>rfl
theorem Rel.vO (R:Rel g N bs ρ a w st) (lv:Nat):Rel g N bs ρ a w (st.vO lv):=by
 refine⟨R.size,R.defers,R.below,fun t=> ?_,R.objs,R.apart,R.own,R.back⟩
 have:=R.tmps t
 show C2 _ (qW (Eo lv st.sl) t) _
 rw[N9]
 cases KT lv t with
 |true=>exact this
 |false=>trivial
theorem Oa {c:Code} {body:(jI→AS→Prop)→AS→Prop} (hc: ∀ {Q:jI→AS→Prop} {E:Exit→Act→World→Prop} {ρ:Nat→Value} {a:Act} {w:World} {st:AS},qOf g N bs Q E→Rel g N bs ρ a w st→body Q st→c.wp P E a w) {Q:jI→AS→Prop} {E:Exit→Act→World→Prop} (hq:qOf g N bs Q E)
  (X:Type) (S:X→AS) (m:X→Nat) (B:X→AS→Prop) (hB: ∀x st' ρ' a' w',B x st'→Rel g N bs ρ' a' w' st'→ ∃y ρ',Rel g N bs ρ' a' w' (S y)∧m y<m x)
  (hb: ∀x,body (fun e st'=>match e with| .normal=>B x st'| .exit i=>Q (.exit i) st'| .ret=>Q .ret st') (S x)) {a:Act} {w:World} (h0: ∃x ρ',Rel g N bs ρ' a w (S x)):(Code.loop c).wp P E a w:=by
 have hex: ∀a w,(∃x ρ,Rel g N bs ρ a w (S x))→ ∃n,∃x ρ,Rel g N bs ρ a w (S x)∧m x=n:=fun a w ⟨x,ρ,h⟩=>⟨m x,x,ρ,h,rfl⟩
 refine wp_loop (fun a w=> ∃x ρ,Rel g N bs ρ a w (S x)) (fun a w=>least (fun n=> ∃x ρ,Rel g N bs ρ a w (S x)∧m x=n)) h0 ?_
 intro a w hI
 obtain⟨x,ρ,Rx,hx⟩:=F9 (hex a w hI)
 refine hc (Q:=fun e st'=>match e with| .normal=>B x st'| .exit i=>Q (.exit i) st'| .ret=>Q .ret st') ⟨?_, ?_, ?_⟩ Rx (hb x)
 · intro ρ' a' w' st' R' hBx
   obtain⟨y,ρy,Ry,hlt⟩:=hB x st' ρ' a' w' hBx R'
   refine⟨⟨y,ρy,Ry⟩, ?_⟩
   have:=least_le (p:=fun n=> ∃x ρ,Rel g N bs ρ a' w' (S x)∧m x=n) ⟨y,ρy,Ry,rfl⟩
   omega
 · intro i ρ a w st R h;exact hq.2.1 i ρ a w st R h
 · intro ρ a w st R h;exact hq.2.2 ρ a w st R h
theorem X8 {c:Code} {body:(jI→AS→Prop)→AS→Prop} (hc: ∀ {Q:jI→AS→Prop} {E:Exit→Act→World→Prop} {ρ:Nat→Value} {a:Act} {w:World} {st:AS},qOf g N bs Q E→Rel g N bs ρ a w st→body Q st→c.wp P E a w) {Q:jI→AS→Prop} {E:Exit→Act→World→Prop} (hq:qOf g N bs Q E) {st:AS} (h:aN body Q st):
  ∀ {ρ:Nat→Value} {a:Act} {w:World},Rel g N bs ρ a w st→(Code.loop c).wp P E a w:=by
 induction h with
 |nil t d e s f ht hs h ih=>exact fun R=>ih (R.nilRow t d e s f ht hs)
 |XL id k d e s f hs hf hk h ih=>exact fun R=>ih (R.acP id k d e s f hs hf hk)
 |CB id hf h ih=>exact fun R=>ih (R.freeze hf).1
 | imp S h0 h ih=>
   intro ρ a w R
   obtain⟨ρ',R'⟩:=h0 g N bs ρ a w R
   exact ih R'
 | rounds n h=>
   intro ρ a w R
   refine wp_loop_rounds n ?_
   have key: ∀n {ρ:Nat→Value} {a:Act} {w:World} {st:AS},Rel g N bs ρ a w st→Ak body Q n st→Code.rounds P c E n a w:=by
    intro n
    induction n with
    |zero=>intro ρ a w st R h;exact h.elim
    | succ n ih=>
      intro ρ a w st R h
      rw[rounds_succ]
      refine hc (Q:=fun e st'=>match e with| .normal=>Ak body Q n st'| .exit i=>Q (.exit i) st'| .ret=>Q .ret st') ⟨?_, ?_, ?_⟩ R h
      · intro ρ a w st R h;exact ih R h
      · intro i ρ a w st R h;exact hq.2.1 i ρ a w st R h
      · intro ρ a w st R h;exact hq.2.2 ρ a w st R h
   exact key n R h
 | mkI X S m x0 h0 hb=>
   intro ρ a w R
   exact Oa hc hq X S m _ (fun x st' ρ' a' w' hB R'=>by
    obtain⟨y,hy,hlt⟩:=hB
    obtain⟨ρy,Ry⟩:=hy g N bs ρ' a' w' R'
    exact⟨y,ρy,Ry,hlt⟩) hb ⟨x0,h0 g N bs ρ a w R⟩
 | mk X S m x0 σ h0 hb=>
   intro ρ a w R
   exact Oa hc hq X S m _ (fun x st' ρ' a' w' hB R'=>by
    obtain⟨y,σ,hy,hlt⟩:=hB
    obtain⟨ρy,Ry⟩:=R'.N8 hy
    exact⟨y,ρy,Ry,hlt⟩) hb ⟨x0,R.N8 h0⟩
theorem nC (hL:bQ P L) {W:Walk} (hW:IZ P W) (lv:Nat): ∀ (c:Code) {Q:jI→AS→Prop} {E:Exit→Act→World→Prop} {ρ:Nat→Value} {a:Act} {w:World} {st:AS},qOf g N bs Q E→Rel g N bs ρ a w st→kL P L W N lv c Q st→c.wp P E a w
  | .skip,Q,E,ρ,a,w,st,hq,R,h=>wp_skip (hq.1 _ _ _ _ R h)
  | .region id ops draw,Q,E,ρ,a,w,st,hq,R,h=>by
    cases draw with
    | true=>
      have h:iK P L W N id ops (fun st'=>nrm lv st' (Q .normal)) st:=h
      cases h with
      | quiet hm hB hqq h=>
        refine wp_region_quiet (C:=fun w'=>w'=w.drew) hm hB rfl ?_
        have R':Rel g N bs ρ a w.drew st:=R.world (Below.refl _ _).drew
        exact vZ hL (E:=fun a w=>E .normal a w) (ops:=ops.toList) (fun a w1 st R h=>hq.1 _ a w1 _ (R.vO lv) (KY lv st (Q .normal)▸h)) ops.toList hqq R' h
      |sem h=>exact h g bs ρ a w E R (fun ρ a w st R h=>hq.1 ρ a w _ (R.vO lv) (KY lv st (Q .normal)▸h))
    | false=>
      have h:vI P L W N ops.toList (fun st'=>nrm lv st' (Q .normal)) ops.toList st:=h
      refine wp_region_list ?_
      have:=N7 (QQ:=E) hL hW (fun a w ρ st R h=>hq.1 ρ a w _ (R.vO lv) (KY lv st (Q .normal)▸h)) ops.toList R h
      simpa using this
  | .seq x y,Q,E,ρ,a,w,st,hq,R,h=>by
    refine wp_seq (nC hL hW lv x (Q:=fun e st'=>match e with| .normal=>kL P L W N lv y Q st'| .exit i=>Q (.exit i) st'| .ret=>Q .ret st') ⟨?_, ?_, ?_⟩ R h)
    · intro ρ a w st R h;exact nC hL hW lv y hq R h
    · intro i ρ a w st R h;exact hq.2.1 i ρ a w st R h
    · intro ρ a w st R h;exact hq.2.2 ρ a w st R h
  | .cond c x y,Q,E,ρ,a,w,st,hq,R,h=>by
    simp only[kL]at h
    split at h
    · rename_i t et
      have hc:=R.ev c
      rw[et]at hc
      have hc:=C2.dM hc
      cases t with
      |true=>exact wp_cond hc (by simpa using nC hL hW lv x hq R h)
      |false=>exact wp_cond hc (by simpa using nC hL hW lv y hq R h)
    · exact h.elim
  | .block id c,Q,E,ρ,a,w,st,hq,R,h=>by
    refine wp_block (nC hL hW lv c (Q:=fun e st'=>match e with| .normal=>Q .normal st'| .exit i=>(bif Nat.beq i id then Q .normal st' else Q (.exit i) st')| .ret=>Q .ret st') ⟨?_, ?_, ?_⟩ R h)
    · intro ρ a w st R h;exact hq.1 ρ a w st R h
    · intro i ρ a w st R h
      dsimp only at h
      show Exit.inBlock id E (.exit i) a w
      simp only[Exit.inBlock]
      cases hb:Nat.beq i id with
      | true=>
        rw[hb]at h
        rw[if_pos (Nat.eq_of_beq_eq_true hb)]
        exact hq.1 ρ a w st R h
      | false=>
        rw[hb]at h
        rw[if_neg (fun e=>by rw[e]at hb;simp at hb)]
        exact hq.2.1 i ρ a w st R h
    · intro ρ a w st R h;exact hq.2.2 ρ a w st R h
  | .loop c,Q,E,ρ,a,w,st,hq,R,h=>X8 (body:=kL P L W N lv c) (fun hq R h=>nC hL hW lv c hq R h) hq h R
  | .exit id,Q,E,ρ,a,w,st,hq,R,h=>wp_exit (hq.2.1 id ρ a w st R h)
  | .ret,Q,E,ρ,a,w,st,hq,R,h=>wp_ret (hq.2.2 ρ a w st R h)
  | .rangeFunc ..,_,E,ρ,a,w,_,hq,R,⟨h⟩=>h g bs E ρ a w hq R
  | .scope _,_,E,ρ,a,w,_,hq,R,⟨h⟩=>h g bs E ρ a w hq R
  | .label _,_,E,ρ,a,w,_,hq,R,⟨h⟩=>h g bs E ρ a w hq R
  | .goto _,_,E,ρ,a,w,_,hq,R,⟨h⟩=>h g bs E ρ a w hq R
  | .refuse _,_,E,ρ,a,w,_,hq,R,⟨h⟩=>h g bs E ρ a w hq R
theorem fO (hL:bQ P L): ∀n,IZ P (yR P L n)
  |0=>fun _ _ _ _ _ _ _ _ _ _ _ _ _ h=>h.elim
  |n+1=>fun _ _ lv _ c _ _ _ _ _ _ hq R h=>nC hL (fO hL n) lv c hq R h
end
end
section
open Go.RowKit
section
variable {P:Program} {L:Lay} {g:Base} {N:Nat} {bs:List (Array Value)} {ρ:Nat→Value} {a:Act} {w:World} {st:AS}
theorem xX {k:Nat→Prop} (hk: ∀b,aK g w ρ st.heap b→k b) {x:AV} {u:Value} (hr: ∀y,Reads st ρ w k y) (h:C2 (aC g w ρ st.heap) x u):C1 ⟨w,k,fun _=>undef⟩ (QA st.heap x) u:=
 TD hk (.eq x) (hr x) (fun _ _ c _=>hr c) h
theorem Lr {k:Nat→Prop} (hk: ∀b,aK g w ρ st.heap b→k b) {id d:Nat} {ρ':Nat→Value} (hd:ρ' d=ρ id) {x:AV} {u:Value} (hr: ∀i,i≠id→Reads st ρ w k (.own i)) (h:C0 (aC g w ρ st.heap) x u):C0 ⟨w,k,ρ'⟩ (aaz st.heap id d x) u:=by
 cases x with
 | own i=>
   simp only[aaz]
   cases hb:Nat.beq i id with
   | true=>
     obtain rfl:=Nat.eq_of_beq_eq_true hb
     show u=eP (ρ' d)
     rw[hd]
     exact h
   | false=>
     have hne:i≠id:=fun e=>by rw[e]at hb;simp at hb
     have:=xQ hk (hr i hne) h
     revert this
     simp only[IV,cond_false]
     cases aP i st.heap with
     |none=>exact fun h=>h
     |some o=>cases o<;>exact fun h=>h
 |v y=>exact h
 |sl s n sc f=>exact PC.mono hk (fun _ _=>rfl) h
 |_=>trivial
theorem lX {k:Nat→Prop} (hk: ∀b,aK g w ρ st.heap b→k b) {id d:Nat} {ρ':Nat→Value} (hd:ρ' d=ρ id) {x:AV} {u:Value} (hr: ∀i,i≠id→Reads st ρ w k (.own i)) (h:C2 (aC g w ρ st.heap) x u):C1 ⟨w,k,ρ'⟩ (acJ st.heap id d x) u:=by
 cases x with
 | agg cs=>
   obtain⟨us,rfl,ha⟩:=C2.rE h
   exact⟨us,rfl,ha.mO fun _ _=>Lr hk hd hr⟩
 |own i=>exact C1.sZ (Lr hk hd hr (x:= .own i) h)
 |v y=>exact h
 |sl s n sc f=>exact C1.sZ (Lr hk hd hr (x:= .sl s n sc f) h)
 |_=>trivial
theorem X9 (hL:bQ P L) (lv:Nat) {f:FuncId} {fn:Func} {c:Code} {dn:List AV} {r:AV} {hh:List (Nat×AO)} (hf:P.funcs[f]? =some fn) (hn:(fn.name== "runtime.NumGoroutine")=false) (hb:fn.body=some c) (hsz:Nat.ble dn.length fn.ntmps=true)
  (h:yR P L 9 fn.ntmps lv c (Nz L fn r hh) (start dn)):aH P f dn r hh:=by
 refine⟨⟨fn,c,hf,hn,hb⟩,fun w keep args hkeep hargs=> ?_⟩
 have hsz:=Nat.le_of_ble_eq_true hsz
 have hlen:args.length=dn.length:=hargs.1.symm
 refine calls_of_wp hf hb ?_
 let g:Base:=base0 w keep
 have zx:aI (C2 (aC g w (fun _=>undef) [])) dn args:=hargs.imp fun _ _ h=>C2.jP (C1.same (X:=⟨w,keep,fun _=>undef⟩) (Y:=aC g w (fun _=>undef) []) (fun b hb=>⟨hkeep b hb,fun _=> .inl hb,by simp[ah]⟩) (fun _ _=>rfl) rfl h)
 have R0:Rel g fn.ntmps [] (fun _=>undef) {tmps:=args.toArray++Array.replicate (fn.ntmps-args.toArray.size) undef,defers:=[]} w (start dn):=
  ⟨by simp;omega,rfl,fM.refl _ _ _,o7 zx hsz,(fun p hp=>by cases hp),by simp[start,ah],(fun b hb=>by simp[start,ah]at hb),trivial⟩
 have fin: ∀ (e:Exit),(e= .normal∨e= .ret)→ ∀ρ a w' st,Rel g fn.ntmps [] ρ a w' st→mP L st fn.results.toList (fun x=>aJ st x r hh)→
   bodyPost P fn (fun e w'=> ∃u ρ,e= .returned u∧Below w.heap.size w w'∧C2 (aC (base0 w keep) w' ρ hh) r u∧(∀p∈hh,bn (aC (base0 w keep) w' ρ hh) p.1 p.2)∧(ah ρ hh).Nodup∧ ∀b∈ah ρ hh,w.heap.size≤b) e a w':=by
  intro e he ρ a w' st R hq
  obtain⟨x,u,hret,hc,hrun⟩:=AX hL R hq
  have post:a.defers=[]∧ ∃v,(results fn a.tmps).run P w'= .ok v w'∧ ∃u ρ,Ending.returned v= .returned u∧Below w.heap.size w w'∧C2 (aC (base0 w keep) w' ρ hh) r u∧(∀p∈hh,bn (aC (base0 w keep) w' ρ hh) p.1 p.2)∧(ah ρ hh).Nodup∧ ∀b∈ah ρ hh,w.heap.size≤b:=by
   have hbel:Below w.heap.size w w':=R.below.less fun _ h=>h
   have hlt': ∀ {b:Nat},b∈ah ρ st.heap→g.w.heap.size≤b:=fun{b} h=>(R.own b h).elim id False.elim
   refine⟨R.defers,u,hrun, ?_⟩
   cases hret with
   | plain _ hr=>
     let k:Nat→Prop:=aK g w' (fun _=>undef) []
     have hk: ∀b,aK g w' ρ st.heap b→k b:=fun b h=>⟨h.1,h.2.1,by simp[ah]⟩
     have rd: ∀y,Reads st ρ w' k y:=fun y id e s n sc f _ hf=>lq R hf hk fun b hb=>by
      have hin:=aQ.2 ⟨_,ay hf,hb⟩
      have:=R.gI hin
      exact⟨this.1,fun hlt=>absurd hlt (by have:=hlt' hin;omega),by simp[ah]⟩
     refine⟨u,fun _=>undef,rfl,hbel,hr _ _ ?_,(fun p hp=>by cases hp),by simp[ah],(fun b hb=>by simp[ah]at hb)⟩
     cases x with
     | dF vs=>
       obtain⟨us,rfl,ha⟩:=C2.uy hc
       exact⟨us,rfl,ha.mO fun y v hy=>xX hk rd (C2.jP hy)⟩
     |_=>exact C2.jP (xX hk rd hc)
   | nil d e s f hx hs=>
     subst hx
     obtain rfl:=C2.dM hc
     have hb:ah (fun _:Nat=>Value.slice none 0 0) [(d,AO.row e s 0 true f)]=[]:=rfl
     refine⟨.slice none 0 0,fun _=> .slice none 0 0,rfl,hbel,rfl,fun p hp=> ?_,by rw[hb];exact List.nodup_nil,fun b hb'=>by rw[hb]at hb';cases hb'⟩
     obtain rfl:=List.mem_singleton.1 hp
     exact⟨[],World.ownsRow_nil w' _ e s,hs,fun i hi=>absurd hi (by omega),(fun _ x hx=>by cases hx),aI.nil⟩
   | own id d _ e s n sc f o' hfo ho hr=>
     have hin:=ay hfo
     let ρ':Nat→Value:=fun i=>if i=d then ρ id else undef
     have wu:ρ' d=ρ id:=by simp[ρ']
     have hbl: ∀o'':AO,ah ρ' [(d,o'')]=blks (ρ id):=by intro o'';rw[aX];simp[ρ',ah]
     let k:Nat→Prop:=aK g w' ρ' [(d,o')]
     have hk: ∀b,aK g w' ρ st.heap b→k b:=fun b h=>⟨h.1,h.2.1,fun hb=>h.2.2 (by
      rw[hbl]at hb
      exact aQ.2 ⟨_,hin,hb⟩)⟩
     have rd: ∀i,i≠id→Reads st ρ w' k (.own i):=fun i hi j e s n sc f hij hf=>lq R hf hk fun b hb=>by
      cases hij
      have hin0:=aQ.2 ⟨_,ay hf,hb⟩
      have:=R.gI hin0
      refine⟨this.1,fun hlt=>absurd hlt (by have:=hlt' hin0;omega),fun hin'=> ?_⟩
      rw[hbl]at hin'
      exact hi (fG R.apart _ (ay hf) _ hin hb hin')
     refine⟨u,ρ',rfl,hbel,hr _ _ ?_, ?_, ?_, ?_⟩
     · cases x with
       | dF vs=>
         obtain⟨us,rfl,ha⟩:=C2.uy hc
         exact⟨us,rfl,ha.mO fun y v hy=>lX hk wu rd (C2.jP hy)⟩
       |agg cs=>exact C2.jP (lX hk wu rd hc)
       |v y=>exact hc
       |own i=>exact C2.jP (lX hk wu rd (x:= .own i) hc)
       |sl s n sc f=>exact C2.jP (lX hk wu rd (x:= .sl s n sc f) hc)
       |_=>trivial
     · intro p hp
       simp only[List.mem_singleton]at hp
       subst hp
       refine ho _ _ ?_
       obtain⟨us,hown,hs,hfl,hsc,ha⟩:=R.objs _ hin
       exact⟨us,by simpa[aC,wu]using hown,hs,hfl,hsc,ha.imp fun _ _=>PC.mono hk (fun _ _=>rfl)⟩
     · rw[hbl]
       exact jS R.apart hin
     · intro b hb
       rw[hbl]at hb
       exact hlt' (aQ.2 ⟨_,hin,hb⟩)
  rcases he with rfl|rfl
  · exact post
  · exact post
 exact fO hL 9 g fn.ntmps lv [] c (Nz L fn r hh) _ ⟨fun ρ a w' st R h=>fin _ (.inl rfl) ρ a w' st R h,fun i ρ a w' st R h=>h.elim,fun ρ a w' st R h=>fin _ (.inr rfl) ρ a w' st R h⟩ R0 h
end
end
end Go.Proofs.YtimhagicagdkfaaGreat
