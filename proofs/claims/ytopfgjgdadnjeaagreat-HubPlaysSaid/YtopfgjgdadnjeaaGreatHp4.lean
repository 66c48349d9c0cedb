/-
  Contracts of the walk:AmB.
-/
import Derived.Test.YtopfgjgdadnjeaaGreatHp3
import Derived.Laws.OwnMore
set_option maxHeartbeats 16000000
set_option maxRecDepth 100000
set_option linter.unusedVariables false
set_option linter.unusedSimpArgs false
namespace Go.Proofs.YtopfgjgdadnjeaaGreat
open Go.RowKit
variable{X:CX}{h:List (Nat×AO)}{ρ:Nat->Value}{u:Value}
section
variable{P:Program}{L:Lay}{g:Base}{N:Nat}{bs:List (Array Value)}{ρ:Nat->Value}{a:Act}{w:World}{st:AS}
theorem cells_one{u:Value}(h:u.oneCell'=true):u.cells.toList=[u]:=by cases u<;>first|rfl|(simp[Value.oneCell']at h)
theorem Js(R:Rel g N bs ρ a w st){x:AV}{u:Value}(h:C0 (aB g w ρ st.heap) x u)(ho:vg st.heap x=true):u.oneCell'=true:=by
 cases x with
 |v y=>cases h;exact ho
 |sl s n sc f=>
  cases(show PC _ _ _ _ from h)with
  |sl=>rfl
 |own id=>
  have hu:u=fM (ρ id):=h;simp only[vg]at ho;cases hf:aQ id st.heap with
  |none=>rw[hf]at ho;cases ho
  |some o=>
   rw[hf]at ho;cases o with
   |box=>cases ho
   |row e s n sc f=>
    obtain⟨us,hown,_⟩:=R.objs _ (aA hf);have hown:w.ownsRow 0 e s (ρ id) n us:=hown;rcases hown.2 with⟨hv,_⟩|⟨b,cap,cur,hv,_⟩<;>rw[hu,hv]<;>rfl
   |mp t ks rs=>
    obtain⟨b,es,c,vs,hs,e,_⟩:=R.objs _ (aA hf);have e:ρ id=_:=e;rw[hu,e];rfl
   |obs o=>
    obtain⟨us,e,hr⟩:=R.objs _ (aA hf);rw[hu];exact(o.lt hr).2.1
   |rn e cs=>
    obtain⟨us,⟨hown,_⟩,_⟩:=R.objs _ (aA hf);have hown:w.ownsRow 0 e 1 (ρ id) cs.length us:=hown;rcases hown.2 with⟨hv,_⟩|⟨b,cap,cur,hv,_⟩<;>rw[hu,hv]<;>rfl
 |dP id s i k=>obtain⟨b,n,c,_,rfl⟩:=h;rfl
 |jm id s i k=>rcases h with⟨b,c,_,_,rfl⟩|⟨_,A,c,rfl⟩<;>rfl
 |box id k=>obtain⟨b,_,rfl⟩:=h;rfl
 |cf gg id k=>obtain⟨b,_,rfl⟩:=h;unfold Yy;cases Nat.blt gg million<;>rfl
 |el cs k=>obtain⟨b,o,us,rfl,_⟩:=h;rfl
 |agg cs=>cases ho
 |bJ cs=>cases ho
 |fn gg cs=>cases ho
 |junk=>cases ho
theorem xq(R:Rel g N bs ρ a w st){x:AV}{xs:List AV}{u:Value}(h:C2 (aB g w ρ st.heap) x u)(hc:x.cells? =some xs)(hone:xs.all (vg st.heap)=true):
  aN (C0 (aB g w ρ st.heap)) xs u.cells.toList/\ ∀y∈u.cells.toList,y.oneCell'=true:=by
 have key:aN (C0 (aB g w ρ st.heap)) xs u.cells.toList:=by
  have one:∀{x:AV},x.cells? =some [x]->xs=[x]->C0 (aB g w ρ st.heap) x u->aN (C0 (aB g w ρ st.heap)) xs u.cells.toList:=by
   intro x _ e h0;subst e;have:=Js R h0 (by simpa using hone);rw[cells_one this];exact aN.cons h0 aN.nil
  cases x with
  |agg cs=>
   obtain⟨us,rfl,ha⟩:=C2.qW h;simp only[AV.cells?,Option.some.injEq]at hc;subst hc;simpa[Value.cells]using ha
  |bJ vs=>cases hc
  |fn gg cs=>
   cases cs with
   |cons c cs=>
    cases cs with
    |cons c' cs=>cases hc
    |nil=>
     cases c<;>simp only[AV.cells?,abG]at hc<;>first|(cases hc;done)|skip
     rename_i id off;cases hb:Nat.blt gg million with
     |false=>rw[hb]at hc;cases hc
     |true=>
     rw[hb]at hc;simp only[cond_true,Option.some.injEq]at hc;subst hc;obtain⟨us,rfl,hl,hu⟩:=C2.Bl h;match us,hl,hu with
     |[u],_,hu=>
      obtain⟨b,h1,rfl⟩:C0 _ (.box id off) u:=hu 0 _ _ rfl rfl;rw[cells_one rfl];exact aN.cons ⟨b,h1,by unfold Yy;rw[hb];rfl⟩ aN.nil
   |nil=>
    simp only[AV.cells?,Option.some.injEq]at hc;subst hc;obtain⟨us,rfl,hl,_⟩:=C2.Bl h;have hu:us=[]:=List.eq_nil_of_length_eq_zero hl.symm;subst hu;rw[cells_one rfl];exact aN.cons rfl aN.nil
  |junk=>
   simp only[AV.cells?,Option.some.injEq]at hc;subst hc;simp[vg]at hone
  |v y=>exact one (x:= .v y) rfl (by simpa[AV.cells?]using hc.symm) h
  |sl s n sc f=>exact one (x:= .sl s n sc f) rfl (by simpa[AV.cells?]using hc.symm) h
  |own id=>exact one (x:= .own id) rfl (by simpa[AV.cells?]using hc.symm) h
  |dP id s i k=>exact one (x:= .dP id s i k) rfl (by simpa[AV.cells?]using hc.symm) h
  |jm id s i k=>exact one (x:= .jm id s i k) rfl (by simpa[AV.cells?]using hc.symm) h
  |box id k=>exact one (x:= .box id k) rfl (by simpa[AV.cells?]using hc.symm) h
  |cf gg id k=>exact one (x:= .cf gg id k) rfl (by simpa[AV.cells?]using hc.symm) h
  |el cs k=>exact one (x:= .el cs k) rfl (by simpa[AV.cells?]using hc.symm) h
 refine⟨key,λ y hy=> ?_⟩;obtain⟨i,hi,rfl⟩:=List.getElem_of_mem hy;have hx:xs[i]? =some (xs[i]'(by rw[key.1];exact hi)):=List.getElem?_eq_getElem _;have h0:=key.2 i _ _ hx (List.getElem?_eq_getElem hi);exact Js R h0 (List.all_eq_true.1 hone _ (List.getElem_mem _))
theorem Rel.VB(R:Rel g N bs ρ a w st)(d:Nat)(t:TypeId){cs:List AV}{us:List Value}(ha:aN (C0 (aB g w ρ st.heap)) cs us):
  Rel g N bs (dV ρ d (.pointer (some ⟨w.heap.size,0,none⟩))) a (w.alloc (.cells us.toArray t)) (st.obj d d (.box t cs)):=by
 refine R.obj d d (R.below.alloc R.below.size _) (by simp) (λ b hb _=>Below.heap_alloc w _ b hb) (λ b hb=> ?_) (λ hE=> ?_)
 ·rw[List.mem_singleton.1 hb];exact .inl (Nat.le_refl _)
 ·exact⟨w.heap.size,us,by simp[aB,dV],heap_alloc_new w _,ha.mD λ _ _=>C0.ext hE⟩
theorem mP{s:Nat}{n:Nat}{f:Nat->List AV}(h:∀i,i<n->(f i).length=s):(flat n f).length=n*s:=mM.flat_length h
theorem qx:∀{n:Nat}{f f':Nat->List AV},(∀i,i<n->f i=f' i)->flat n f=flat n f'
 |0,_,_,_=>rfl
 |n+1,f,f',h=>by
  show f 0++_=f' 0++_;rw[h 0 (by omega),qx (λ i hi=>h (i+1) (by omega))]
theorem yG{s:Nat}:∀{n:Nat}{cs:List AV},cs.length=n*s->flat n (chunk s cs)=cs
 |0,cs,h=>by
  have:cs=[]:=List.eq_nil_of_length_eq_zero (by simpa using h);subst this;rfl
 |n+1,cs,h=>by
  show chunk s cs 0++flat n (λ i=>chunk s cs (i+1))=cs;have e:(λ i=>chunk s cs (i+1))=chunk s (cs.drop s):=by
   funext i
   simp[chunk,List.drop_drop,Nat.succ_mul,Nat.add_comm]
  rw[e,yG (by rw[List.length_drop,h,Nat.succ_mul];omega)];simp[chunk]
theorem G8{s n:Nat}{cs:List AV}(h:cs.length=n*s):∀i,i<n->(chunk s cs i).length=s:=by
 intro i hi;have:(i+1)*s<=n*s:=Nat.mul_le_mul_right _ hi;rw[Nat.succ_mul]at this;rw[chunk,List.length_take,List.length_drop,h];omega
theorem Jt{x:AV}{X:CX}{u:Value}(h:C0 X x u)(hp:Cj x=true):PC X.w X.keep x u:=by
 cases x with
 |v y=>cases h;exact .v _ hp
 |sl s n sc f=>exact h
 |_=>cases hp
theorem Rel.newRow(R:Rel g N bs ρ a w st)(d:Nat)(e:TypeId){s n:Nat}{sc:Bool}{f:Nat->List AV}{us:List Value}(hs:0<s)(hn:n<=maxLen)(hf:∀i,i<n->(f i).length=s)(hsc:sc=true-> ∀x∈flat n f,∃y,x= .v y)
  (ha:aN (PC w (aI g w ρ st.heap)) (flat n f) us):
  Rel g N bs (dV ρ d (.slice (some ⟨w.heap.size,0,none⟩) n n)) a (w.alloc (.cells us.toArray e)) (st.obj d d (.row e s n sc f)):=by
 refine R.obj d d (R.below.alloc R.below.size _) (by simp) (λ b hb _=>Below.heap_alloc w _ b hb) (λ b hb=> ?_) (λ hE=> ?_)
 ·rw[List.mem_singleton.1 hb];exact .inl (Nat.le_refl _)
 ·have hlen:us.length=n*s:=by rw[<-ha.1,mP hf]
  refine⟨us,⟨hlen,.inr ⟨w.heap.size,n,us.toArray,by simp[aB,dV],Nat.zero_le _,heap_alloc_new w _,Nat.le_refl _,hn,by simpa using hlen, ?_⟩⟩,hs,hf,hsc,ha.imp λ _ _=>PC.mono hE.keep hE.mem⟩;rw[<-hlen];exact List.take_length
theorem Rel.abL(R:Rel g N bs ρ a w st)(d:Nat)(e:TypeId){n:Nat}{cs:List AV}{us:List Value}(hn:n<=maxLen)(ha:aN (C0 (aB g w ρ st.heap)) cs us)(hone:cs.all (vg st.heap)=true)(hcn:cs.length=n):
  Rel g N bs (dV ρ d (.slice (some ⟨w.heap.size,0,none⟩) n n)) a (w.alloc (.cells us.toArray e)) (st.obj d d (.rn e cs)):=by
 refine R.obj d d (R.below.alloc R.below.size _) (by simp) (λ b hb _=>Below.heap_alloc w _ b hb) (λ b hb=> ?_) (λ hE=> ?_)
 ·rw[List.mem_singleton.1 hb];exact .inl (Nat.le_refl _)
 ·have hlen:us.length=n:=by rw[<-ha.1,hcn]
  refine⟨us,⟨⟨by simp[hlen,hcn],.inr ⟨w.heap.size,n,us.toArray,by simp[aB,dV,hcn],Nat.zero_le _,heap_alloc_new w _,by simp[hcn],hn,by simp[hlen], ?_⟩⟩,λ u hu=> ?_⟩,ha.mD λ _ _=>C0.ext hE⟩
  ·simp[hcn,<-hlen]
  ·obtain⟨i,hi,rfl⟩:=List.getElem_of_mem hu;exact Js R (ha.2 i _ _ (List.getElem?_eq_getElem (by rw[ha.1];exact hi)) (List.getElem?_eq_getElem hi)) (List.all_eq_true.1 hone _ (List.getElem_mem _))
theorem KZ(vs:List Value):∀(k:Nat)(off:Nat)(cells:Array Value),off+k+vs.length<=cells.size->
  ((vs.zipIdx k).foldl (λ cs (p:Value×Nat)=>cs.setIfInBounds (off+p.2) p.1) cells).toList=cells.toList.take (off+k)++(vs++cells.toList.drop (off+k+vs.length)):=by
 induction vs with
 |nil=>intro k off cells _;simp
 |cons v vs ih=>
  intro k off cells h;simp only[List.zipIdx_cons,List.foldl_cons];simp only[List.length_cons]at h;rw[ih (k+1) off _ (by simp;omega)];simp only[Array.toList_setIfInBounds,List.length_cons];have e:=list_seg_step cells.toList (off+k) v vs (by simp;omega);have e1:off+(k+1)=off+k+1:=by omega
  have e2:off+k+1+vs.length=off+k+(vs.length+1):=by omega
  rw[e1];simpa[e2]using e
theorem DC(R:Rel g N bs ρ a w st){place:Nat->Option (Nat×Nat)}:∀{parts:List (Nat×AV)}{pv:List (Nat×Value)}{cs cs':List AV}{cells:Array Value},aN (C0 (aB g w ρ st.heap)) cs cells.toList->
 parts.length=pv.length->(∀(i:Nat)(p:Nat×AV)(q:Nat×Value),parts[i]? =some p->pv[i]? =some q->p.1=q.1/\C2 (aB g w ρ st.heap) p.2 q.2)->yg st.heap place cs parts=some cs'->
 ∃cells':Array Value,Instr.fill place cells pv=some cells'/\aN (C0 (aB g w ρ st.heap)) cs' cells'.toList
 |[],pv,cs,cs',cells,ha,hl,_,h=>by
  have:pv=[]:=List.eq_nil_of_length_eq_zero (by simpa using hl.symm);subst this;simp only[yg,Option.some.injEq]at h;subst h;exact⟨cells,rfl,ha⟩
 |(i,x)::r,[],_,_,_,_,hl,_,_=>by simp at hl
 |(i,x)::r,(j,v)::pv,cs,cs',cells,ha,hl,hp,h=>by
  obtain⟨hij,hc⟩:=hp 0 _ _ rfl rfl;dsimp only at hij hc;subst hij;simp only[yg]at h;cases hpl:place i with
  |none=>simp[hpl]at h
  |some os=>
   obtain⟨o,s⟩:=os;cases hxs:x.cells? with
   |none=>simp[hpl,hxs]at h
   |some xs=>
    simp only[hpl,hxs]at h;cases hb:(Nat.beq xs.length s&&Nat.ble (o+xs.length) cs.length&&xs.all (vg st.heap))with
    |false=>rw[hb]at h;cases h
    |true=>
     rw[hb]at h;simp only[cond_true]at h;simp only[Bool.and_eq_true]at hb;obtain⟨⟨h1,h2⟩,h3⟩:=hb;have h1:=Nat.eq_of_beq_eq_true h1;have h2:=Nat.le_of_ble_eq_true h2;obtain⟨hcells,_⟩:=xq R hc hxs h3;have hlv:v.cells.size=xs.length:=by rw[<-Array.length_toList];exact hcells.1.symm
     have hlc:cells.size=cs.length:=by rw[<-Array.length_toList];exact ha.1.symm
     have hfold:(v.cells.zipIdx.foldl (λ cs (p:Value×Nat)=>cs.setIfInBounds (o+p.2) p.1) cells).toList=cells.toList.take o++(v.cells.toList++cells.toList.drop (o+v.cells.toList.length)):=by
      rw[<-Array.foldl_toList,Array.toList_zipIdx];exact KZ v.cells.toList 0 o cells (by simp;omega)
     have hnew:aN (C0 (aB g w ρ st.heap)) (splice cs o xs) (v.cells.zipIdx.foldl (λ cs (p:Value×Nat)=>cs.setIfInBounds (o+p.2) p.1) cells).toList:=by
      rw[hfold];have:=(ha.take o).app (hcells.app (ha.drop (o+xs.length)));rw[show o+xs.length=o+v.cells.toList.length by rw[<-hcells.1]]at this;unfold splice;rw[show o+xs.length=o+v.cells.toList.length by rw[<-hcells.1]];exact this
     obtain⟨cells',hf,ha'⟩:=DC R (place:=place) hnew (by simpa using hl) (λ k p q hk hq=>hp (k+1) p q (by simpa using hk) (by simpa using hq)) h;refine⟨cells', ?_,ha'⟩;simp only[Instr.fill,hpl];rw[if_neg (by simp;omega)];exact hf
theorem Et{X:CX}{cs xs:List AV}{us vs:List Value}(h:aN (C0 X) cs us)(k:Nat)(hx:aN (C0 X) xs vs):aN (C0 X) (splice cs k xs) (us.take k++vs++us.drop (k+vs.length)):=by
 unfold splice;rw[List.append_assoc,hx.1];exact(h.take k).app (hx.app (h.drop _))
theorem pO{w:World}{b:Nat}{cs:Array Value}:Below b w (w.setRow b cs):=⟨rfl,rfl,rfl,by simp[World.setRow],λ k hk=>setRow_other w b k _ (by omega)⟩
theorem jQ(hL:bQ P L)(R:Rel g N bs ρ a w st){t:TypeId}{p x:AV}{pv xv:Value}(hp:C2 (aB g w ρ st.heap) p pv)(hx:C2 (aB g w ρ st.heap) x xv){K:AS->Prop}(h:Oq L st t p x K):
  ∃st' w',K st'/\Rel g N bs ρ a w' st'/\(Instr.storeAt t pv xv).run P w= .ok () w':=by
 unfold Oq at h;split at h
 ·rename_i i id k xs hi hxs;obtain⟨b,hb,rfl⟩:=C2.lK hp;cases hq:(Nat.beq xs.length i.size&&xs.all (vg st.heap))with
  |false=>rw[hq]at h;exact h.elim
  |true=>
   rw[hq]at h;simp only[cond_true]at h;simp only[Bool.and_eq_true]at hq;have hsz:=Nat.eq_of_beq_eq_true hq.1;obtain⟨hcells,hone⟩:=xq R hx hxs hq.2;split at h
   ·rename_i t' cs hfo;cases hle:Nat.ble (k+xs.length) cs.length with
    |false=>rw[hle]at h;exact h.elim
    |true=>
     rw[hle]at h;have hle:=Nat.le_of_ble_eq_true hle;obtain⟨b',us,e,hh,ha⟩:=R.objs _ (aA hfo);have hb:fM (ρ id)=_:=hb;have e:ρ id=_:=e;rw[e]at hb;cases hb;have hb:=e;have hh:w.heap[b]? =some (.cells us.toArray t' (0,0)):=hh;have hlen:xv.cells.toList.length=xs.length:=hcells.1.symm;have VD:us.length=cs.length:=ha.1.symm;have acD:xv.cells.size=xs.length:=by rw[<-Array.length_toList];exact hlen
     have hrun:=run_storeCells_at P b k t' xv.cells.toList 0 us.toArray w hh (by simp;omega) hone;have hnew:aN (C0 (aB g w ρ st.heap)) (splice cs k xs) (us.take (k+0)++xv.cells.toList++us.drop (k+0+xv.cells.toList.length)):=by
      have:=Et ha k hcells;simpa using this
     refine⟨_,w.setRow b (us.toArray.toList.take (k+0)++xv.cells.toList++us.toArray.toList.drop (k+0+xv.cells.toList.length)).toArray,h, ?_, ?_⟩
     ·refine R.write hfo (b:=b) (by rw[hb];exact List.mem_cons_self) pO (by simp[World.setRow]) (λ k' hk'=>setRow_other w b k' _ (by omega)) (λ hk hm=> ?_);exact⟨b,_,hb,setRow_heap w b _ _ t' _ hh,hnew.imp λ _ _=>C0.same (X:=aB g w ρ st.heap) (Y:=aB g _ ρ (setObj id _ st.heap)) hk hm rfl⟩
     ·have hsize:¬xv.cells.size≠i.size:=by
       rw[<-Array.length_toList,hlen,hsz];simp
      simp only[Instr.storeAt,Instr.sureAddr,Sem.run_bind,Sem.run_pure,Result.andThen_ok,storeVar,iy hL hi,if_neg hsize];exact hrun
   ·exact h.elim
 ·rename_i i id s j k xs hi hxs;obtain⟨b,n0,c0,hb,rfl⟩:=C2.zM hp;cases hq:(Nat.beq xs.length i.size&&xs.all Cj)with
  |false=>rw[hq]at h;exact h.elim
  |true=>
   rw[hq]at h;simp only[cond_true]at h;simp only[Bool.and_eq_true]at hq;have hsz:=Nat.eq_of_beq_eq_true hq.1;have hpure:=hq.2;have hone':xs.all (vg st.heap)=true:=by
    rw[List.all_eq_true]at hpure⊢;intro y hy;have:=hpure y hy;cases y<;>first|exact this|rfl|(simp[Cj]at this)
   obtain⟨hcells,hone⟩:=xq R hx hxs hone';split at h
   ·rename_i e s' n sc f hfo;cases hs:(Nat.beq s s'&&Nat.ble (k+xs.length) s)with
    |false=>rw[hs]at h;exact h.elim
    |true=>
     rw[hs]at h;simp only[cond_true]at h;simp only[Bool.and_eq_true]at hs;obtain rfl:=Nat.eq_of_beq_eq_true hs.1;have hks:=Nat.le_of_ble_eq_true hs.2;cases hj:Nat.ble (j+1) n with
     |false=>rw[hj]at h;exact h.elim
     |true=>
      rw[hj]at h;have hjn:=Nat.le_of_ble_eq_true hj;obtain⟨us,hown,hs0,hfl,hsc,ha⟩:=R.objs _ (aA hfo);have hown:w.ownsRow 0 e s (ρ id) n us:=hown;have ha:aN (PC w (aI g w ρ st.heap)) (flat n f) us:=ha;have hb:ρ id=_:=hb;rw[hb]at hown;rcases hown.2 with⟨hv,_⟩|⟨b',cap,cur,hv,hB,hh,hnc,hcm,hcs,htake⟩
      ·cases hv
      ·simp only[Value.slice.injEq,Option.some.injEq,Addr.mk.injEq]at hv;obtain⟨⟨hv1,_⟩,hv2,hv3⟩:=hv;obtain rfl:=hv1;obtain rfl:=hv2.symm;obtain rfl:=hv3;have VD:us.length=n*s:=hown.1;have hlen:xv.cells.toList.length=xs.length:=hcells.1.symm;have hjs:(j+1)*s<=n*s:=Nat.mul_le_mul_right _ hjn;rw[Nat.succ_mul]at hjs;have hns:n*s<=c0*s:=Nat.mul_le_mul_right _ hnc;have hsize:xv.cells.size=xs.length:=by rw[<-Array.length_toList];exact hlen
       have hrun:=run_storeCells_at P b (j*s+k) e xv.cells.toList 0 cur w hh (by simp;omega) hone;have hpc:aN (PC w (aI g w ρ st.heap)) xs xv.cells.toList:=⟨hcells.1,λ q y u hy hu=>Jt (hcells.2 q y u hy hu) (List.all_eq_true.1 hpure y (List.mem_of_getElem? hy))⟩;have hf':∀m,m<n->((λ m=>bif Nat.beq m j then splice (f j) k xs else f m) m).length=s:=by
        intro m hm;dsimp only;cases hmj:Nat.beq m j with
        |false=>exact hfl m hm
        |true=>
         have:=hfl j (by omega);simp only[cond_true,splice,List.length_append,List.length_take,List.length_drop];omega
       refine⟨_,w.setRow b (cur.toList.take (j*s+k+0)++xv.cells.toList++cur.toList.drop (j*s+k+0+xv.cells.toList.length)).toArray,h, ?_, ?_⟩
       ·refine R.write hfo (b:=b) (by rw[hb];exact List.mem_cons_self) pO (by simp[World.setRow]) (λ k' hk'=>setRow_other w b k' _ (by omega)) (λ hk hm=> ?_);refine⟨us.take (j*s+k)++xv.cells.toList++us.drop (j*s+k+xv.cells.toList.length),⟨?_,.inr ⟨b,c0,_,hb,hB,setRow_heap w b _ _ e _ hh,hnc,hcm, ?_, ?_⟩⟩,hs0,hf', ?_, ?_⟩
        ·simp only[List.length_append,List.length_take,List.length_drop,hlen,VD];omega
        ·simp only[List.size_toArray,List.length_append,List.length_take,List.length_drop,Array.length_toList,hcs,hlen];omega
        ·rw[<-htake];exact CJ cur.toList (j*s+k) xv.cells.toList (n*s) (by rw[hlen];omega) (by rw[Array.length_toList];omega)
        ·intro aaG y hy;simp only[Bool.and_eq_true]at aaG;exact OE hy (hsc aaG.1) (by
          intro z hz;unfold splice at hz;rcases List.mem_append.1 hz with h1|h1
          ·exact .inl (List.mem_of_mem_take h1)
          ·rcases List.mem_append.1 h1 with h2|h2
           ·right;have:=List.all_eq_true.1 aaG.2 z h2;cases z<;>first|exact⟨_,rfl⟩|(simp[isV]at this)
           ·exact .inl (List.mem_of_mem_drop h2)) (by omega)
        ·have hall:=La ha hfl (show j<n by omega) (show k+xs.length<=s from hks) hpc;rw[<-hlen]at hall;exact hall.imp λ _ _=>PC.mono hk hm
       ·have hsize':¬xv.cells.size≠i.size:=by rw[hsize,hsz];simp
        simp only[Instr.storeAt,Instr.sureAddr,Sem.run_bind,Sem.run_pure,Result.andThen_ok,storeVar,iy hL hi,if_neg hsize'];exact hrun
   ·exact h.elim
 ·exact h.elim
where
 CJ (l:List Value) (k:Nat) (vs:List Value) (m:Nat) (h:k+vs.length<=m) (hm:m<=l.length):((l.take (k+0)++vs++l.drop (k+0+vs.length)).toArray.toList).take m=(l.take m).take k++vs++(l.take m).drop (k+vs.length):=by
  simp only[Nat.add_zero];rw[List.take_append,List.take_append,List.take_take,List.drop_take,List.length_append,List.length_take,Nat.min_eq_left (show k<=l.length by omega),Nat.min_eq_right (show k<=m by omega)];rw[List.take_take,Nat.min_eq_left (show k<=m by omega),List.take_of_length_le (l:=vs) (by omega)]
 OE {n:Nat} {f:Nat->List AV} {j:Nat} {c:List AV} {y:AV} (hy:y∈flat n (λ m=>bif Nat.beq m j then c else f m)) (hf:∀x∈flat n f,∃y,x= .v y) (hc:∀z∈c,z∈f j\/ ∃y,z= .v y) (hj:j<n):∃z,y= .v z:=by
  have mem:∀{n:Nat}{f:Nat->List AV}{y:AV},y∈flat n f↔ ∃i,i<n/\y∈f i:=mQ;obtain⟨i,hi,hyi⟩:=mem.1 hy;cases hb:Nat.beq i j with
  |false=>rw[hb]at hyi;exact hf y (mem.2 ⟨i,hi,hyi⟩)
  |true=>
   rw[hb]at hyi;rcases hc y hyi with h1|h1
   ·exact hf y (mem.2 ⟨j,hj,h1⟩)
   ·exact h1
 mQ:∀{n:Nat}{f:Nat->List AV}{y:AV},y∈flat n f↔ ∃i,i<n/\y∈f i
   |0,f,y=>by simp[flat]
   |n+1,f,y=>by
    show y∈f 0++_↔_;rw[List.mem_append,mQ (n:=n)];constructor
    ·rintro(h|⟨i,hi,h⟩)
     ·exact⟨0,by omega,h⟩
     ·exact⟨i+1,by omega,h⟩
    ·rintro⟨i,hi,h⟩;cases i with
     |zero=>exact .inl h
     |succ i=>exact .inr ⟨i,by omega,h⟩
 La {R:AV->Value->Prop} {s:Nat} {xs:List AV} {vs:List Value} {k:Nat}:∀{n:Nat}{f:Nat->List AV}{us:List Value}{j:Nat},aN R (flat n f) us->(∀i,i<n->(f i).length=s)->j<n->k+xs.length<=s->aN R xs vs->
  aN R (flat n (λ m=>bif Nat.beq m j then splice (f j) k xs else f m)) (us.take (j*s+k)++vs++us.drop (j*s+k+xs.length))
  |0,_,_,_,_,_,h,_,_=>absurd h (by omega)
  |n+1,f,us,0,ha,hl,_,hk,hx=>by
   have e0:flat (n+1) (λ m=>bif Nat.beq m 0 then splice (f 0) k xs else f m)=splice (f 0) k xs++flat n (λ i=>f (i+1)):=rfl;have e1:flat (n+1) f=f 0++flat n (λ i=>f (i+1)):=rfl;have h0:=hl 0 (by omega);rw[e1]at ha;have g1:=ha.take k;rw[List.take_append_of_le_length (by omega)]at g1;have g2:=ha.drop (k+xs.length);rw[List.drop_append_of_le_length (by omega)]at g2;rw[e0,splice,Nat.zero_mul,Nat.zero_add,List.append_assoc,List.append_assoc,List.append_assoc];exact g1.app (hx.app g2)
  |n+1,f,us,j+1,ha,hl,hj,hk,hx=>by
   have e0:flat (n+1) (λ m=>bif Nat.beq m (j+1)then splice (f (j+1)) k xs else f m)=f 0++flat n (λ m=>bif Nat.beq m j then splice (f (j+1)) k xs else f (m+1)):=rfl;have e1:flat (n+1) f=f 0++flat n (λ i=>f (i+1)):=rfl;have h0:=hl 0 (by omega);rw[e1]at ha;have g1:=ha.take s;rw[List.take_append_of_le_length (by omega),List.take_of_length_le (by omega)]at g1;have g2:=ha.drop s;rw[<-h0,List.drop_left,h0]at g2;have ih:=La (s:=s) (j:=j) (k:=k) g2 (λ i hi=>hl (i+1) (by omega)) (by omega) hk hx;rw[e0];have:=g1.app ih;have e2:us.take ((j+1)*s+k)=us.take s++(us.drop s).take (j*s+k):=by
    rw[Nat.succ_mul,show j*s+s+k=s+(j*s+k) by omega,List.take_add]
   have e3:us.drop ((j+1)*s+k+xs.length)=(us.drop s).drop (j*s+k+xs.length):=by
    rw[List.drop_drop,Nat.succ_mul];congr 1;omega
   rw[e2,e3];simpa[List.append_assoc]using this
end
section
variable{P:Program}{L:Lay}{g:Base}{N:Nat}{bs:List (Array Value)}{ρ:Nat->Value}{a:Act}{w:World}{st:AS}
theorem Lc(R:Rel g N bs ρ a w st)(parts:Array (Nat×Operand)):
  (parts.toList.map λ p=>(p.1,st.ev p.2)).length=((parts.map λ(i,x)=>(i,a.eval x)).toList).length/\
  ∀(i:Nat)(p:Nat×AV)(q:Nat×Value),(parts.toList.map λ p=>(p.1,st.ev p.2))[i]? =some p->((parts.map λ(i,x)=>(i,a.eval x)).toList)[i]? =some q->p.1=q.1/\C2 (aB g w ρ st.heap) p.2 q.2:=by
 refine⟨by simp,λ i p q hp hq=> ?_⟩;rw[List.getElem?_map]at hp;rw[Array.toList_map,List.getElem?_map]at hq;cases hx:parts.toList[i]? with
 |none=>rw[hx]at hp;cases hp
 |some y=>
  rw[hx]at hp hq;cases hp;cases hq;exact⟨rfl,R.ev y.2⟩
theorem vT(hL:bQ P L)(w:World):∀{fields:List Field}{pl:List (Nat×Nat)},placesOf L (fields.map λ f=>(f.offset,f.type))=some pl->
 (fields.mapM λ f=>(do pure (f.offset,<-sizeOf f.type):Sem (Nat×Nat))).run P w= .ok pl w
 |[],pl,h=>by
  simp only[List.map_nil,placesOf,Option.some.injEq]at h;subst h;simp
 |f::r,pl,h=>by
  simp only[List.map_cons,placesOf]at h;cases hi:aV L f.type with
  |none=>rw[hi]at h;cases h
  |some i=>
   cases hr:placesOf L (r.map λ f=>(f.offset,f.type))with
   |none=>rw[hi,hr]at h;cases h
   |some l=>
    rw[hi,hr]at h;simp only[Option.some.injEq]at h;subst h;have ih:=vT hL w hr;simp only[List.mapM_cons,Sem.run_bind,iy hL hi,Result.andThen_ok,Sem.run_pure,ih]
theorem Eu{X:CX}(l:List Value):aN (C0 X) (l.map .v) l:=aN.vs l
theorem Ew(hL:bQ P L)(R:Rel g N bs ρ a w st){t:TypeId}{parts:Array (Nat×Operand)}{K:AV->Prop}(h:Bg L st.heap t (parts.toList.map λ p=>(p.1,st.ev p.2)) K):
  ∃y u,K y/\C2 (aB g w ρ st.heap) y u/\(Instr.build t (parts.map λ(i,x)=>(i,a.eval x))).run P w= .ok u w:=by
 obtain⟨hpl,hpp⟩:=Lc R parts;unfold Bg at h;split at h
 ·rename_i ti hti;obtain⟨z,hz,hzc⟩:=zL hL hti w;have h0:aN (C0 (aB g w ρ st.heap)) (ti.zero.map .v) z.cells.toList:=by rw[hzc];exact Eu _
  split at h
  ·rename_i fs hk;obtain⟨fields,hu,hmap⟩:=lF hL hti hk;split at h
   ·rename_i pl VE;split at h
    ·rename_i cs G9;obtain⟨cells',hf,ha⟩:=DC R h0 hpl hpp G9;refine⟨_,.agg cells',h,⟨cells'.toList,by simp,ha⟩, ?_⟩;rw[<-hmap]at VE;have hm:=vT hL w VE;have hm':(fields.mapM λ f=>(do pure (f.offset,<-sizeOf f.type):Sem (Nat×Nat))).run P w= .ok pl.toArray w:=by
      rw[Array.mapM_eq_mapM_toList];simp only[Sem.run_map,hm,Result.andThen_ok]
     have hg:(λ(x:Nat)=>pl.toArray[x]?)=(λ(x:Nat)=>pl[x]?):=by funext x;simp
     simp only[Instr.build,Sem.run_bind,hz,Result.andThen_ok,run_underlying hu,hm'];rw[hg,hf];rfl
    ·exact h.elim
   ·exact h.elim
  ·rename_i n e hk;have hu:=oJ hL hti hk;split at h
   ·rename_i ei pK;split at h
    ·rename_i cs G9;obtain⟨cells',hf,ha⟩:=DC R h0 hpl hpp G9;refine⟨_,.agg cells',h,⟨cells'.toList,by simp,ha⟩, ?_⟩;simp only[Instr.build,Sem.run_bind,hz,Result.andThen_ok,run_underlying hu,iy hL pK,hf];rfl
    ·exact h.elim
   ·exact h.elim
  ·exact h.elim
 ·exact h.elim
theorem zW(z:List Value):∀n,∃us:List Value,U7 (z.map .v) n=us.map .v/\us=(List.replicate n z).flatten
 |0=>⟨[],rfl,rfl⟩
 |n+1=>by
  obtain⟨us,h1,h2⟩:=zW z n;exact⟨z++us,by simp[U7,h1],by rw[h2,List.replicate_succ,List.flatten_cons]⟩
theorem Ey(z:Array Value)(s:Nat)(hz:z.size=s):∀n,((Array.range (n*s)).map (z[·%z.size]!)).toList=(List.replicate n z.toList).flatten:=by
 intro n;induction n with
 |zero=>simp
 |succ n ih=>
  rw[List.replicate_succ',List.flatten_append,<-ih];have e:(Array.range ((n+1)*s)).toList=(Array.range (n*s)).toList++(List.range s).map (n*s+ ·):=by
   rw[Array.toList_range,Array.toList_range,Nat.succ_mul,List.range_add]
  rw[Array.toList_map,e,List.map_append,Array.toList_map];congr 1;simp only[List.map_map,List.flatten_cons,List.flatten_nil,List.append_nil];apply List.ext_getElem
  ·simp[hz]
  ·intro i h1 h2;simp only[List.length_map,List.length_range]at h1;simp[hz,Nat.add_comm (n*s) i,getElem!_pos,h1,Nat.add_mul_mod_self_right,Nat.mod_eq_of_lt h1]
theorem uX(hL:bQ P L)(R:Rel g N bs ρ a w st){d:Nat}{t:TypeId}{n:Nat}{parts:Array (Nat×Operand)}{K:AV->AS->Prop}(h:qR L d st t n (parts.toList.map λ p=>(p.1,st.ev p.2)) K):
  ∃y u st' ρ' w',K y st'/\Rel g N bs ρ' a w' st'/\C2 (aB g w' ρ' st'.heap) y u/\(Instr.buildSlice t n (parts.map λ(i,x)=>(i,a.eval x))).run P w= .ok u w':=by
 obtain⟨hpl,hpp⟩:=Lc R parts;unfold qR at h;split at h
 ·rename_i ti hti;split at h
  ·rename_i e hk;have hu:=bY hL hti hk;split at h
   ·rename_i ei pK;cases hb:(Nat.ble 1 ei.size&&Nat.beq ei.zero.length ei.size&&Nat.ble (n*ei.size) 65536)with
    |false=>rw[hb]at h;exact h.elim
    |true=>
     rw[hb]at h;simp only[cond_true]at h;simp only[Bool.and_eq_true]at hb;obtain⟨⟨hb1,hb2⟩,hb3⟩:=hb;have hs:=Nat.le_of_ble_eq_true hb1;have hzl:=Nat.eq_of_beq_eq_true hb2;have hbig:=Nat.le_of_ble_eq_true hb3;obtain⟨z,hz,hzc⟩:=zL hL pK w;have hzs:z.cells.size=ei.size:=by rw[<-Array.length_toList,hzc];exact hzl
     split at h
     ·rename_i cs G9;have hcells:aN (C0 (aB g w ρ st.heap)) (U7 (ei.zero.map .v) n) ((Array.range (n*ei.size)).map (z.cells[·%z.cells.size]!)).toList:=by
       obtain⟨us,h1,h2⟩:=zW ei.zero n;rw[h1,Ey z.cells ei.size hzs n,hzc,<-h2];exact Eu us
      obtain⟨cells',hf,ha⟩:=DC R hcells hpl hpp G9;have hlen:cs.length=n*ei.size:=by
       have:=Ld G9;rw[this];have:=hcells.1;simpa using this
      have hmod:(Instr.buildSlice t n (parts.map λ(i,x)=>(i,a.eval x))).run P w= .ok (.slice (some ⟨w.heap.size,0,none⟩) n n) (w.alloc (.cells cells' e)):=by
       have hbig':¬n*ei.size>2^24:=by omega
       by_cases h00:n*ei.size=0
       ·have:n=0:=by
         rcases Nat.mul_eq_zero.1 h00 with h|h
         ·exact h
         ·omega
        subst this;have hf0:Instr.fill (λ i=>some (i*ei.size,ei.size)) ((Array.range (0*ei.size)).map ((#[]:Array Value)[·%(#[]:Array Value).size]!)) (parts.map λ(i,x)=>(i,a.eval x)).toList=some cells':=by
         have hz0:∀F:Nat->Value,(Array.range (0*ei.size)).map F= #[]:=by intro F;simp
         rw[hz0]at hf⊢;exact hf
        simp only[Instr.buildSlice,Sem.run_bind,run_underlying hu,Result.andThen_ok,iy hL pK,if_neg hbig',Sem.run_pure,if_pos h00,hf0];simp[newRow]
       ·simp only[Instr.buildSlice,Sem.run_bind,run_underlying hu,Result.andThen_ok,iy hL pK,if_neg hbig',Sem.run_pure,if_neg h00,hz,hf];simp[newRow]
      cases hp:cs.all Cj with
      |false=>
       rw[hp]at h;simp only[cond_false]at h;cases hq:(Nat.beq ei.size 1&&Nat.beq cs.length n&&cs.all (vg st.heap))with
       |false=>rw[hq]at h;exact h.elim
       |true=>
        rw[hq]at h;simp only[cond_true]at h;simp only[Bool.and_eq_true]at hq;have hs1:=Nat.eq_of_beq_eq_true hq.1.1;have hcn:=Nat.eq_of_beq_eq_true hq.1.2;refine⟨_,.slice (some ⟨w.heap.size,0,none⟩) n n,_,_,_,h,R.abL d e (us:=cells'.toList) (by simp only[maxLen];omega) ha hq.2 hcn,by simp[C2,C1,C0,aB,dV,fM],by simpa using hmod⟩
      |true=>
       rw[hp]at h;simp only[cond_true]at h;have hfl:=yG (s:=ei.size) hlen;have hpc:aN (PC w (aI g w ρ st.heap)) (flat n (chunk ei.size cs)) cells'.toList:=by
        rw[hfl];exact⟨ha.1,λ i x u hx hu=>Jt (ha.2 i x u hx hu) (List.all_eq_true.1 hp x (List.mem_of_getElem? hx))⟩
       have hn:n<=n*ei.size:=Nat.le_mul_of_pos_right n hs;have hR:=R.newRow d e (sc:=cs.all isV) hs (by simp only[maxLen];omega) (G8 hlen) (λ hv x hx=>by
        rw[hfl]at hx;have:=List.all_eq_true.1 hv x hx;cases x<;>first|exact⟨_,rfl⟩|(simp[isV]at this)) hpc
       exact⟨_,.slice (some ⟨w.heap.size,0,none⟩) n n,_,_,_,h,hR,by simp[C2,C1,C0,aB,dV,fM],by simpa using hmod⟩
     ·exact h.elim
   ·exact h.elim
  ·exact h.elim
 ·exact h.elim
where
 Ld {h:List (Nat×AO)} {place:Nat->Option (Nat×Nat)}:∀{parts:List (Nat×AV)}{cs cs':List AV},yg h place cs parts=some cs'->cs'.length=cs.length
  |[],cs,cs',e=>by simp only[yg,Option.some.injEq]at e;rw[e]
  |(i,x)::r,cs,cs',e=>by
   simp only[yg]at e;split at e
   ·rename_i o s xs _ _;cases hb:(Nat.beq xs.length s&&Nat.ble (o+xs.length) cs.length&&xs.all (vg h))with
    |false=>rw[hb]at e;cases e
    |true=>
     rw[hb]at e;simp only[cond_true]at e;simp only[Bool.and_eq_true]at hb;have:=Nat.le_of_ble_eq_true hb.1.2;rw[Ld e,splice];simp only[List.length_append,List.length_take,List.length_drop];omega
   ·cases e
theorem PC.VF{w:World}{k:Nat->Prop}{x:AV}{u:Value}(h:PC w k x u):u.oneCell'=true:=by
 cases h with
 |v x h=>exact h
 |sl=>rfl
theorem PC.zX{w:World}{k:Nat->Prop}{xs:List AV}{us:List Value}(h:aN (PC w k) xs us):∀u∈us,u.oneCell'=true:=by
 intro u hu;obtain⟨i,hi,rfl⟩:=List.getElem_of_mem hu;exact PC.VF (h.2 i _ _ (List.getElem?_eq_getElem (by rw[h.1];exact hi)) (List.getElem?_eq_getElem hi))
theorem He(hL:bQ P L)(R:Rel g N bs ρ a w st){s:Nat}(hs0:0<s){t:TypeId}{y:AV}{yv:Value}(hy:C2 (aB g w ρ st.heap) y yv){m:Nat}{sc:Bool}{f:Nat->List AV}(h:Qq L st s t y=some (m,sc,f)):
  ∃us,Src P s t yv m us w/\aN (PC w (aI g w ρ st.heap)) (flat m f) us/\(∀i,i<m->(f i).length=s)/\(sc=true-> ∀x∈flat m f,∃z,x= .v z):=by
 unfold Qq at h;split at h
 ·rename_i ti hti;split at h
  ·rename_i e s' n sc' f' hk;cases hb:Nat.beq s s' with
   |false=>rw[hb]at h;cases h
   |true=>
    rw[hb]at h;obtain rfl:=Nat.eq_of_beq_eq_true hb;simp only[cond_true,Option.some.injEq,Prod.mk.injEq]at h;obtain⟨rfl,rfl,rfl⟩:=h;cases C2.uw hy with
    |sl _ _ _ _ A c us _ hnc hcc hl hfl hsc hu' hr=>
     have hall:aN (PC w (aI g w ρ st.heap)) (flat n f') us:=⟨by rw[hl];exact mP hfl,hu'⟩;refine⟨us, ?_,hall,hfl,hsc⟩;rcases hr with hz|⟨b,o,rfl,kb,hcell⟩
     ·subst hz;have:us=[]:=List.eq_nil_of_length_eq_zero (by simpa using hl);subst this;cases A with
      |none=>exact Src.ofNil w (bY hL hti hk) c
      |some aa=>exact Src.ofSlice w (bY hL hti hk) aa 0 c [] (by simp) (by simp) (by simp)
     ·exact Src.ofSlice w (bY hL hti hk) ⟨b,o,none⟩ n c us hl (λ j u hj=>by rw[Addr.add_lit];exact hcell j u hj) (PC.zX hall)
  ·rename_i e id hk;split at h
   ·rename_i e' s' n sc' f' hfo;cases hb:Nat.beq s s' with
    |false=>rw[hb]at h;cases h
    |true=>
     rw[hb]at h;obtain rfl:=Nat.eq_of_beq_eq_true hb;simp only[cond_true,Option.some.injEq,Prod.mk.injEq]at h;obtain⟨rfl,rfl,rfl⟩:=h;obtain⟨us,hown,_,hfl,hsc,ha⟩:=R.objs _ (aA hfo);have hown:w.ownsRow 0 e' s (ρ id) n us:=hown;have ha:aN (PC w (aI g w ρ st.heap)) (flat n f') us:=ha;have hyv:yv=ρ id:=(C2.kW hy).trans (iO hown);refine⟨us, ?_,ha,hfl,hsc⟩;rcases hown.2 with⟨hv,hz⟩|⟨b,cap,cur,hv,_⟩
     ·subst hz;have:us=[]:=List.eq_nil_of_length_eq_zero (by simpa using hown.1);subst this;rw[hyv,hv];exact Src.ofNil w (bY hL hti hk) 0
     ·rw[hyv,hv];exact Src.ofSlice w (bY hL hti hk) ⟨b,0,none⟩ n cap us hown.1 (hown.cells (g:=b) (by rw[hv];rfl)) (PC.zX ha)
   ·cases h
  ·rename_i e c1 hk;simp only[Option.some.injEq,Prod.mk.injEq]at h;obtain⟨rfl,rfl,rfl⟩:=h;obtain rfl:=C2.dN hy;exact⟨[],Src.ofNil w (bY hL hti hk) c1,aN.nil,λ i hi=>absurd hi (by omega),λ _ x hx=>by cases hx⟩
  ·rename_i b hk;cases hb:Nat.beq s 1 with
   |false=>rw[hb]at h;cases h
   |true=>
    rw[hb]at h;have:=Nat.eq_of_beq_eq_true hb;subst this;simp only[cond_true,Option.some.injEq,Prod.mk.injEq]at h;obtain⟨rfl,rfl,rfl⟩:=h;obtain rfl:=C2.dN hy;refine⟨byteCells b,Src.ofString w (rW hL hti hk) b, ?_,λ _ _=>rfl,λ _ x hx=> ?_⟩
    ·have:=QC (R:=PC w (aI g w ρ st.heap)) (λ c=> .v _ rfl) b.data.toList;rw[Array.length_toList]at this;exact this
    ·obtain⟨i,_,hx⟩:=jQ.mQ.1 hx;simp only[List.mem_singleton]at hx;exact⟨_,hx⟩
  ·cases h
 ·cases h
where
 QC {R:AV->Value->Prop} (hR:∀c:UInt8,R (.v (.int .u8 (c.toNat:Int))) (.int .u8 (c.toNat:Int))):∀l:List UInt8,aN R (flat l.length (λ i=>[.v (.int .u8 ((l.getD i 0).toNat:Int))])) (l.map λ b=>Value.int .u8 b.toNat)
  |[]=>aN.nil
  |c::l=>by
   have ih:=QC hR l;have e:flat (c::l).length (λ i=>[AV.v (.int .u8 (((c::l).getD i 0).toNat:Int))])= .v (.int .u8 (c.toNat:Int))::flat l.length (λ i=>[.v (.int .u8 ((l.getD i 0).toNat:Int))]):=by
    show _++_=_;simp
   rw[e];exact aN.cons (hR c) ih
end
theorem Ju(z:Array Value)(s n:Nat)(hz:z.size=s):(madeCells z (n*s)).toList=(List.replicate n z.toList).flatten:=Ey z s hz n
theorem zY(cs:List AV):∀n,flat n (λ _=>cs)=(List.replicate n cs).flatten
 |0=>rfl
 |n+1=>by
  show cs++flat n (λ _=>cs)=_;rw[zY cs n,List.replicate_succ,List.flatten_cons]
section
variable{P:Program}{L:Lay}{g:Base}{N:Nat}{bs:List (Array Value)}{ρ:Nat->Value}{a:Act}{w:World}{st:AS}
theorem Sm(hL:bQ P L)(R:Rel g N bs ρ a w st){d:Nat}{t:TypeId}{l c:AV}{lv cv:Value}(hl:C2 (aB g w ρ st.heap) l lv)(hc:C2 (aB g w ρ st.heap) c cv){K:AV->AS->Prop}(h:Ve L d st t l c K):
  ∃y u st' ρ' w',K y st'/\Rel g N bs ρ' a w' st'/\C2 (aB g w' ρ' st'.heap) y u/\(Instr.makeSlice t lv cv).run P w= .ok u w':=by
 unfold Ve at h;split at h
 ·rename_i ti kl ln kc cn hti;obtain rfl:=C2.dN hl;obtain rfl:=C2.dN hc;split at h
  ·rename_i e hk;have hu:=bY hL hti hk;split at h
   ·rename_i ei pK;obtain⟨info,z0,dd,hi1,hi2,hi3,hi4,hi5,hi6,hi7⟩:=jk hL pK;cases hb:((Nat.ble 1 ei.size&&Nat.beq ei.zero.length ei.size)&&ei.zero.all (λ x=>x.oneCell'))with
    |false=>rw[hb]at h;exact h.elim
    |true=>
     rw[hb]at h;simp only[cond_true]at h;simp only[Bool.and_eq_true]at hb;obtain⟨hb,hone⟩:=hb;have hs:=Nat.le_of_ble_eq_true hb.1;have hzl:=Nat.eq_of_beq_eq_true hb.2;have hzs:z0.cells.size=ei.size:=by rw[<-Array.length_toList,hi6];exact hzl
     have hfl:∀(n i:Nat),i<n->((λ _=>ei.zero.map AV.v:Nat->List AV) i).length=ei.size:=λ n i _=>by simp[hzl]
     rcases h with⟨h0,hc0,hcb,hcm,h⟩|⟨h0,hlc,hcb,hcm,h⟩
     ·subst h0;obtain⟨c,rfl⟩:=Int.eq_ofNat_of_zero_le hc0;have hcb':info.bytes*c<=281474976710656:=by rw[hi5,Nat.mul_comm];have:((c*ei.bytes:Nat):Int)<=140737488355328:=(by simpa using hcb);omega
      obtain⟨w',hrun,hown',hgrow⟩:=run_make_own (P:=P) w 0 t e info z0 ei.size hu hi1 hi3 hi4 kl kc c hcb' (by simp only[maxLen];omega) (Nat.zero_le _);refine⟨_,.slice (some ⟨w.heap.size,0,none⟩) 0 c,_,dV ρ d (.slice (some ⟨w.heap.size,0,none⟩) 0 c),w',h, ?_,by simp[C2,C1,C0,aB,dV,fM],hrun⟩;refine R.obj d d (R.below.grown hgrow R.below.size (λ k hk=>by cases hk)) hgrow.size (λ b hb _=>hgrow.block b hb (by simp)) (λ b hb=> ?_) (λ hE=> ?_)
      ·rw[List.mem_singleton.1 hb];exact .inl (Nat.le_refl _)
      ·exact⟨[],by simpa[aB,dV]using hown',hs,hfl 0,λ _ x hx=>by simp[flat]at hx,aN.nil⟩
     ·subst hlc;obtain⟨c,rfl⟩:=Int.eq_ofNat_of_zero_le h0;have hcb':info.bytes*c<=281474976710656:=by rw[hi5,Nat.mul_comm];have:((c*ei.bytes:Nat):Int)<=140737488355328:=(by simpa using hcb);omega
      obtain⟨w',hrun,hown',hgrow⟩:=run_make_full (P:=P) w 0 t e info z0 ei.size hu hi1 hi3 hi4 kl kc c hcb' (by simp only[maxLen];omega) (Nat.zero_le _);rw[Int.toNat_natCast]at h;refine⟨_,.slice (some ⟨w.heap.size,0,none⟩) c c,_,dV ρ d (.slice (some ⟨w.heap.size,0,none⟩) c c),w',h, ?_,by simp[C2,C1,C0,aB,dV,fM],hrun⟩;refine R.obj d d (R.below.grown hgrow R.below.size (λ k hk=>by cases hk)) hgrow.size (λ b hb _=>hgrow.block b hb (by simp)) (λ b hb=> ?_) (λ hE=> ?_)
      ·rw[List.mem_singleton.1 hb];exact .inl (Nat.le_refl _)
      ·refine⟨_,by simpa[aB,dV]using hown',hs,hfl c,λ _ x hx=> ?_, ?_⟩
       ·rw[zY]at hx;obtain⟨l,hl,hx⟩:=List.mem_flatten.1 hx;rw[List.eq_of_mem_replicate hl]at hx;obtain⟨y,_,rfl⟩:=List.mem_map.1 hx;exact⟨y,rfl⟩
       ·rw[zY,Ju z0.cells ei.size c hzs,hi6];obtain⟨us,h1,h2⟩:=zW ei.zero c;have:(List.replicate c (ei.zero.map AV.v)).flatten=us.map .v:=by
         rw[h2,List.map_flatten,List.map_replicate]
        rw[this,<-h2];exact⟨by simp,λ i x u hx hu=>by
         rw[List.getElem?_map]at hx;rw[hu]at hx;cases hx;refine .v u ?_;obtain⟨l,hl,hm⟩:=List.mem_flatten.1 (show u∈(List.replicate c ei.zero).flatten by rw[<-h2];exact List.mem_of_getElem? hu);rw[List.eq_of_mem_replicate hl]at hm;exact List.all_eq_true.1 hone u hm⟩
   ·exact h.elim
  ·exact h.elim
 ·exact h.elim
end
section
variable{P:Program}{L:Lay}{g:Base}{N:Nat}{bs:List (Array Value)}{ρ:Nat->Value}{a:Act}{w:World}{st:AS}
theorem oC{w:World}{B:Nat}{e:TypeId}{s n:Nat}{v:Value}{us:List Value}(h:w.ownsRow B e s v n us){b:Nat}:v.ownBlock=some b↔b∈blks v:=by
 rw[U1 h,Option.mem_toList]
theorem vU:∀{n m:Nat}{f f':Nat->List AV},flat (n+m) (kJ n f f')=flat n f++flat m f'
 |0,m,f,f'=>by
  rw[Nat.zero_add];exact qx λ i _=>by cases i<;>rfl
 |n+1,m,f,f'=>by
  rw[show n+1+m=(n+m)+1 by omega];show kJ (n+1) f f' 0++flat (n+m) (λ i=>kJ (n+1) f f' (i+1))=f 0++flat n (λ i=>f (i+1))++flat m f';have e:(λ i=>kJ (n+1) f f' (i+1))=kJ n (λ i=>f (i+1)) f':=by
   funext i
   unfold kJ;have e1:Nat.ble (n+1) (i+1)=Nat.ble n i:=rfl;rw[e1,show i+1-(n+1)=i-n by omega]
  rw[e,vU,List.append_assoc];rfl
theorem YH{s n m:Nat}{f f':Nat->List AV}(h:∀i,i<n->(f i).length=s)(h':∀i,i<m->(f' i).length=s):∀i,i<n+m->(kJ n f f' i).length=s:=by
 intro i hi;unfold kJ;cases hb:Nat.ble n i with
 |true=>exact h' _ (by have:=Nat.le_of_ble_eq_true hb;omega)
 |false=>
  have:¬n<=i:=λ h=>by rw[Nat.ble_eq_true_of_le h]at hb;cases hb
  exact h i (by omega)
theorem Le(hL:bQ P L)(R:Rel g N bs ρ a w st){d:Nat}{t tx ty:TypeId}{x y:AV}{xv yv:Value}(hx:C2 (aB g w ρ st.heap) x xv)(hy:C2 (aB g w ρ st.heap) y yv){K:AV->AS->Prop}(h:Jc L d st t tx x y K):
  ∃z u st' ρ' w',K z st'/\Rel g N bs ρ' a w' st'/\C2 (aB g w' ρ' st'.heap) z u/\(Builtin.append_ #[t,tx] ty #[xv,yv]).run P w= .ok u w':=by
 unfold Jc at h;split at h
 ·rename_i ti hti;split at h
  ·rename_i e hk;have hu:=bY hL hti hk;split at h
   ·rename_i ei pK;obtain⟨info,z0,dd,hi1,hi2,hi3,hi4,hi5,hi6,hi7⟩:=jk hL pK;cases hb:(Nat.ble 1 ei.size&&Nat.beq ei.zero.length ei.size)with
    |false=>rw[hb]at h;exact h.elim
    |true=>
     rw[hb]at h;simp only[cond_true]at h;simp only[Bool.and_eq_true]at hb;have hs:=Nat.le_of_ble_eq_true hb.1;have hzl:=Nat.eq_of_beq_eq_true hb.2;split at h
     ·rename_i m sc' f' hsrc;obtain⟨news,VG,han,hfn,abM⟩:=He hL R hs hy hsrc;have hzs:z0.cells.size=ei.size:=by rw[<-Array.length_toList,hi6];exact hzl
      split at h
      ·obtain⟨⟨hq1,hq2⟩,h⟩:=h;obtain rfl:=C2.dN hx;obtain⟨v',w',hrun,hown',hgrow,hat⟩:=mO (P:=P) w 0 t tx ty e info z0 ei.size ei.bytes hu hi1 hi3 hi4 hi5 hzs _ 0 [] (World.ownsRow_nil w _ _ _) yv m news VG (by simp only[maxLen];omega) (by simpa using hq1) (Nat.zero_le _);simp only[Nat.zero_add,List.nil_append]at hown';refine⟨_,v',_,dV ρ d v',w',h, ?_,by simp[C2,C1,C0,aB,dV,iO hown'],hrun⟩;refine R.obj d d (R.below.grown hgrow R.below.size (λ k hk=>by simp[Value.ownBlock]at hk)) hgrow.size (λ b hb _=>hgrow.block b hb (by simp[Value.ownBlock])) (λ b hb=> ?_) (λ hE=> ?_) (nM hown')
       ·rw[<-oC hown']at hb;rcases hat with h1|h1
        ·rw[h1]at hb;simp[Value.ownBlock]at hb
        ·rw[h1]at hb;cases hb;exact .inl (Nat.le_refl _)
       ·exact⟨news,by simpa[aB,dV]using hown',hs,hfn,abM,han.imp λ _ _=>PC.mono hE.keep hE.mem⟩
      ·rename_i id;split at h
       ·rename_i e' s n sc f hfo;cases hb:(Nat.beq e e'&&Nat.beq s ei.size)with
        |false=>rw[hb]at h;exact h.elim
        |true=>
         rw[hb]at h;simp only[cond_true]at h;simp only[Bool.and_eq_true]at hb;obtain rfl:=Nat.eq_of_beq_eq_true hb.1;have hse:=Nat.eq_of_beq_eq_true hb.2;subst hse;obtain⟨⟨hq1,hq2⟩,h⟩:=h;obtain⟨us,hown,hs0,hfl,hsc,ha⟩:=R.objs _ (aA hfo);have hown:w.ownsRow 0 e ei.size (ρ id) n us:=hown;have ha:aN (PC w (aI g w ρ st.heap)) (flat n f) us:=ha;have hxv:xv=ρ id:=(C2.kW hx).trans (iO hown);subst hxv;obtain⟨v',w',hrun,hown',hgrow,hat⟩:=mO (P:=P) w 0 t tx ty e info z0 ei.size ei.bytes hu hi1 hi3 hi4 hi5 hzs (ρ id) n us hown yv m news VG (by simp only[maxLen];omega) hq1 (Nat.zero_le _);refine⟨_,v',_,dV ρ d v',w',h, ?_,by simp[C2,C1,C0,aB,dV,iO hown'],hrun⟩;refine R.obj d id (R.below.grown hgrow R.below.size (λ k hk=>R.own k (aU.2 ⟨_,aA hfo,(oC hown).1 hk⟩))) hgrow.size (λ b hb hne=>hgrow.block b hb (λ e=>hne _ (aA hfo) rfl ((oC hown).1 e.symm))) (λ b hb=> ?_) (λ hE=> ?_) (nM hown')
         ·rw[<-oC hown']at hb;rcases hat with h1|h1
          ·exact .inr ⟨_,aA hfo,rfl,by rw[<-oC hown,<-h1];exact hb⟩
          ·rw[h1]at hb;cases hb;exact .inl (Nat.le_refl _)
         ·refine⟨us++news,by simpa[aB,dV]using hown',hs,YH hfl hfn,λ hv x hx=> ?_, ?_⟩
          ·simp only[Bool.and_eq_true]at hv;rw[vU]at hx;rcases List.mem_append.1 hx with h1|h1
           ·exact hsc hv.1 x h1
           ·exact abM hv.2 x h1
          ·rw[vU];exact(ha.imp λ _ _=>PC.mono hE.keep hE.mem).app (han.imp λ _ _=>PC.mono hE.keep hE.mem)
       ·exact h.elim
      ·exact h.elim
     ·have hzs:z0.cells.size=ei.size:=by rw[<-Array.length_toList,hi6];exact hzl
      unfold aad at h;split at h
      ·rename_i j abN _;split at h
       ·rename_i e2 e3 ds hk' hfj;cases hb:(Nat.beq ei.size 1&&Nat.ble ei.bytes 1024&&Nat.ble ds.length 1024)with
        |false=>rw[hb]at h;exact h.elim
        |true=>
         rw[hb]at h;simp only[cond_true]at h;simp only[Bool.and_eq_true]at hb;have hs1:=Nat.eq_of_beq_eq_true hb.1.1;have hby:=Nat.le_of_ble_eq_true hb.1.2;have hdl:=Nat.le_of_ble_eq_true hb.2;obtain⟨news,⟨Hf,VH⟩,haj⟩:=R.objs _ (aA hfj);have Hf:w.ownsRow 0 e3 1 (ρ j) ds.length news:=Hf;have haj:aN (C0 (aB g w ρ st.heap)) ds news:=haj;have hyv:yv=ρ j:=(C2.kW hy).trans (iO Hf);have hnl:news.length=ds.length:=haj.1.symm;have VG:Src P ei.size tx yv ds.length news w:=by
          rw[hs1];rcases Hf.2 with⟨hv,hz⟩|⟨b,cap,cur,hv,_⟩
          ·have:news=[]:=List.eq_nil_of_length_eq_zero (by omega);subst this;rw[hyv,hv,hz];exact Src.ofNil w (bY hL abN hk') 0
          ·rw[hyv,hv];exact Src.ofSlice w (bY hL abN hk') ⟨b,0,none⟩ ds.length cap news Hf.1 (Hf.cells (g:=b) (by rw[hv];rfl)) VH
         have hq:∀k,k<=2048->k*ei.bytes<=140737488355328:=λ k hk=>Nat.le_trans (Nat.mul_le_mul hk hby) (by omega);split at h
         ·obtain rfl:=C2.dN hx;obtain⟨v',w',hrun,hown',hgrow,hat⟩:=mO (P:=P) w 0 t tx ty e info z0 ei.size ei.bytes hu hi1 hi3 hi4 hi5 hzs _ 0 [] (World.ownsRow_nil w _ _ _) yv ds.length news VG (by simp only[maxLen];omega) (hq _ (by omega)) (Nat.zero_le _);simp only[Nat.zero_add,List.nil_append]at hown';refine⟨_,v',_,dV ρ d v',w',h, ?_,by simp[C2,C1,C0,aB,dV,iO hown'],hrun⟩;refine R.obj d d (R.below.grown hgrow R.below.size (λ k hk=>by simp[Value.ownBlock]at hk)) hgrow.size (λ b hb _=>hgrow.block b hb (by simp[Value.ownBlock])) (λ b hb=> ?_) (λ hE=> ?_) (nM hown')
          ·rw[<-oC hown']at hb;rcases hat with h1|h1
           ·rw[h1]at hb;simp[Value.ownBlock]at hb
           ·rw[h1]at hb;cases hb;exact .inl (Nat.le_refl _)
          ·rw[hs1]at hown';exact⟨news,⟨by simpa[aB,dV]using hown',VH⟩,haj.mD λ _ _=>C0.ext hE⟩
         ·rename_i id;split at h
          ·rename_i e' cs hfo;cases hb:(Nat.beq e e'&&Nat.ble cs.length 1024)with
           |false=>rw[hb]at h;exact h.elim
           |true=>
            rw[hb]at h;simp only[cond_true]at h;simp only[Bool.and_eq_true]at hb;obtain rfl:=Nat.eq_of_beq_eq_true hb.1;have hcl:=Nat.le_of_ble_eq_true hb.2;obtain⟨us,⟨hown,hone⟩,ha⟩:=R.objs _ (aA hfo);have hown:w.ownsRow 0 e 1 (ρ id) cs.length us:=hown;have ha:aN (C0 (aB g w ρ st.heap)) cs us:=ha;have hxv:xv=ρ id:=(C2.kW hx).trans (iO hown);subst hxv;obtain⟨v',w',hrun,hown',hgrow,hat⟩:=mO (P:=P) w 0 t tx ty e info z0 ei.size ei.bytes hu hi1 hi3 hi4 hi5 hzs (ρ id) cs.length us (by rw[hs1];exact hown) yv ds.length news VG (by simp only[maxLen];omega) (hq _ (by omega)) (Nat.zero_le _);refine⟨_,v',_,dV ρ d v',w',h, ?_,by simp[C2,C1,C0,aB,dV,iO hown'],hrun⟩;refine R.obj d id (R.below.grown hgrow R.below.size (λ k hk=>R.own k (aU.2 ⟨_,aA hfo,(oC hown).1 hk⟩))) hgrow.size (λ b hb hne=>hgrow.block b hb (λ e=>hne _ (aA hfo) rfl ((oC hown).1 e.symm))) (λ b hb=> ?_) (λ hE=> ?_) (nM hown')
            ·rw[<-oC hown']at hb;rcases hat with h1|h1
             ·exact .inr ⟨_,aA hfo,rfl,by rw[<-oC hown,<-h1];exact hb⟩
             ·rw[h1]at hb;cases hb;exact .inl (Nat.le_refl _)
            ·rw[hs1]at hown';refine⟨us++news,⟨by simpa[aB,dV]using hown',λ u hu=>(List.mem_append.1 hu).elim (hone u) (VH u)⟩, ?_⟩;rw[List.map_append];exact(ha.mD λ _ _=>C0.ext hE).app (haj.mD λ _ _=>C0.ext hE)
          ·exact h.elim
         ·exact h.elim
       ·exact h.elim
      ·exact h.elim
   ·exact h.elim
  ·exact h.elim
 ·exact h.elim
theorem C0.thaw{X Y:CX}(hk:∀b,X.keep b->Y.keep b)(hm:∀b,X.keep b->Y.w.heap[b]? =X.w.heap[b]?)(hρ:Y.ρ=X.ρ){id s n:Nat}{sc:Bool}{f:Nat->List AV}(hrow:PC Y.w Y.keep (.sl s n sc f) (fM (X.ρ id))){av:AV}{u:Value}(h:C0 X av u):
  C0 Y (zF id (.sl s n sc f) av) u:=by
 cases av with
 |own i=>
  simp only[zF];cases hb:Nat.beq i id with
  |true=>
   obtain rfl:=Nat.eq_of_beq_eq_true hb;have hu:u=fM (X.ρ i):=h;rw[hu];exact hrow
  |false=>exact C0.same hk hm hρ h
 |_=>exact C0.same hk hm hρ h
theorem C1.thaw{X Y:CX}(hk:∀b,X.keep b->Y.keep b)(hm:∀b,X.keep b->Y.w.heap[b]? =X.w.heap[b]?)(hρ:Y.ρ=X.ρ){id s n:Nat}{sc:Bool}{f:Nat->List AV}(hrow:PC Y.w Y.keep (.sl s n sc f) (fM (X.ρ id))){av:AV}{u:Value}(h:C1 X av u):
  C1 Y (U8 id (.sl s n sc f) av) u:=by
 cases av with
 |agg cs=>obtain⟨us,e,ha⟩:=h;exact⟨us,e,ha.mD λ _ _=>C0.thaw hk hm hρ hrow⟩
 |fn gg cs=>obtain⟨us,e,ha⟩:=h;exact⟨us,e,ha.mD λ _ _=>C0.thaw hk hm hρ hrow⟩
 |own i=>
  have h0:=C0.thaw hk hm hρ hrow (av:= .own i) h;simp only[zF]at h0;simp only[U8];revert h0;cases Nat.beq i id<;>exact λ h=>h
 |v x=>exact C1.same hk hm hρ (av:= .v x) h
 |sl s n sc f=>exact C1.same hk hm hρ (av:= .sl s n sc f) h
 |dP i s j k=>exact C1.same hk hm hρ (av:= .dP i s j k) h
 |jm i s j k=>exact C1.same hk hm hρ (av:= .jm i s j k) h
 |box i k=>exact C1.same hk hm hρ (av:= .box i k) h
 |cf gg i k=>exact C1.same hk hm hρ (av:= .cf gg i k) h
 |el cs k=>exact C1.same hk hm hρ (av:= .el cs k) h
 |junk=>trivial
 |bJ vs=>exact h
theorem C2.thaw{X Y:CX}(hk:∀b,X.keep b->Y.keep b)(hm:∀b,X.keep b->Y.w.heap[b]? =X.w.heap[b]?)(hρ:Y.ρ=X.ρ){id s n:Nat}{sc:Bool}{f:Nat->List AV}(hrow:PC Y.w Y.keep (.sl s n sc f) (fM (X.ρ id))){av:AV}{u:Value}(h:C2 X av u):
  C2 Y (D8 id (.sl s n sc f) av) u:=by
 cases av with
 |bJ vs=>obtain⟨us,e,ha⟩:=h;exact⟨us,e,ha.mD λ _ _=>C1.thaw hk hm hρ hrow⟩
 |agg cs=>exact C2.kF (C1.thaw hk hm hρ hrow (av:= .agg cs) h)
 |fn gg cs=>exact C2.kF (C1.thaw hk hm hρ hrow (av:= .fn gg cs) h)
 |own i=>exact C2.kF (C1.thaw hk hm hρ hrow (av:= .own i) h)
 |v x=>exact C2.kF (C1.thaw hk hm hρ hrow (av:= .v x) h)
 |sl s n sc f=>exact C2.kF (C1.thaw hk hm hρ hrow (av:= .sl s n sc f) h)
 |dP i s j k=>exact C2.kF (C1.thaw hk hm hρ hrow (av:= .dP i s j k) h)
 |jm i s j k=>exact C2.kF (C1.thaw hk hm hρ hrow (av:= .jm i s j k) h)
 |box i k=>exact C2.kF (C1.thaw hk hm hρ hrow (av:= .box i k) h)
 |cf gg i k=>exact C2.kF (C1.thaw hk hm hρ hrow (av:= .cf gg i k) h)
 |el cs k=>exact C2.kF (C1.thaw hk hm hρ hrow (av:= .el cs k) h)
 |junk=>trivial
theorem Rel.freeze(R:Rel g N bs ρ a w st){id:Nat}{e:TypeId}{s n:Nat}{sc:Bool}{f:Nat->List AV}(hf:aQ id st.heap=some (.row e s n sc f)):
  Rel g N bs ρ a w (st.freeze id s n sc f)/\PC w (aI g w ρ (st.freeze id s n sc f).heap) (.sl s n sc f) (ρ id):=by
 have hblocks:ah ρ (st.freeze id s n sc f).heap=ah ρ (st.heap.filter λ p=> !Nat.beq p.1 id):=by
  simp[AS.freeze,ah,List.flatMap_map]
 have hsub:∀b,b∈ah ρ (st.freeze id s n sc f).heap->b∈ah ρ st.heap:=λ b h=>by rw[hblocks]at h;exact fQ h
 have hk:∀b,aI g w ρ st.heap b->aI g w ρ (st.freeze id s n sc f).heap b:=λ b h=>⟨h.1,h.2.1,λ h'=>h.2.2 (hsub b h')⟩;have hm:∀b,aI g w ρ st.heap b->w.heap[b]? =w.heap[b]? :=λ _ _=>rfl;obtain⟨us,hown,hs0,hfl,hsc,ha⟩:=R.objs _ (aA hf);have hown:w.ownsRow 0 e s (ρ id) n us:=hown;have ha:aN (PC w (aI g w ρ st.heap)) (flat n f) us:=ha;have hrow:PC w (aI g w ρ (st.freeze id s n sc f).heap) (.sl s n sc f) (ρ id):=by
  have ha':=ha.imp λ _ _=>PC.mono hk hm;rcases hown.2 with⟨hv,hz⟩|⟨b,cap,cur,hv,hB,hh,hnc,hcm,_⟩
  ·rw[hv];subst hz;exact .sl s 0 sc f none 0 us hs0 (Nat.le_refl _) (by simp[maxLen]) hown.1 hfl hsc ha'.2 (.inl rfl)
  ·rw[hv];refine .sl s n sc f _ cap us hs0 hnc hcm hown.1 hfl hsc ha'.2 (.inr ⟨b,0,rfl,⟨(Array.getElem?_eq_some_iff.1 hh).1,λ hlt=>(R.own b (aU.2 ⟨_,aA hf,by rw[hv];exact List.mem_cons_self⟩)).elim (λ h=>absurd hlt (by omega)) .inr, ?_⟩,λ j u hj=> ?_⟩)
   ·intro hin;rw[hblocks]at hin;obtain⟨p,hp,hpe⟩:=aU.1 hin;obtain⟨hp1,hp2⟩:=List.mem_filter.1 hp;have:=gJ R.apart p hp1 _ (aA hf) hpe (by rw[hv];exact List.mem_cons_self);simp[this]at hp2
   ·have:=hown.cells (g:=b) (by rw[hv];rfl) j u hj;rwa [Addr.add_lit]at this
 have hrow':PC w (aI g w ρ (st.freeze id s n sc f).heap) (.sl s n sc f) (fM (ρ id)):=by rw[iO hown];exact hrow
 refine⟨⟨R.size,R.defers,R.below,λ t=>by rw[show(st.freeze id s n sc f).tmps t=D8 id (.sl s n sc f) (st.tmps t)from oG rfl st.sl t];exact C2.thaw (X:=aB g w ρ st.heap) (Y:=aB g w ρ (st.freeze id s n sc f).heap) hk hm rfl hrow' (R.tmps t), ?_, ?_,λ b hb=>R.own b (hsub b hb),R.back.map rfl λ _ _=>C2.thaw (X:=aB g w ρ st.heap) (Y:=aB g w ρ (st.freeze id s n sc f).heap) hk hm rfl hrow'⟩,hrow⟩
 ·intro p hp;simp only[AS.freeze,List.mem_map]at hp;obtain⟨q,hq,rfl⟩:=hp;have ho:=R.objs q (List.mem_filter.1 hq).1;refine bn.move (X:=aB g w ρ st.heap) (Y:=aB g w ρ (st.freeze id s n sc f).heap) hk hm rfl (λ _ _=>rfl) ?_ ho;cases q.2 with
  |box t cs=>exact⟨rfl,λ us ha=>ha.mD λ _ _=>C0.thaw (X:=aB g w ρ st.heap) (Y:=aB g w ρ (st.freeze id s n sc f).heap) hk hm rfl hrow'⟩
  |row=>rfl
  |mp t ks rs=>exact⟨rfl,rfl,lW id ks,λ vs hv=>hv.vJ λ _ _=>rfl⟩
  |obs o=>rfl
  |rn e' cs=>exact⟨rfl,by simp,λ us ha=>ha.mD λ _ _=>C0.thaw (X:=aB g w ρ st.heap) (Y:=aB g w ρ (st.freeze id s n sc f).heap) hk hm rfl hrow'⟩
 ·rw[hblocks];exact pG R.apart
theorem Rel.iK(R:Rel g N bs ρ a w st){id:Nat}{t:TypeId}{cs:List AV}(hf:aQ id st.heap=some (.box t cs)):
  Rel g N bs ρ a w (st.iK id)/\ ∃b us,ρ id= .pointer (some ⟨b,0,none⟩)/\w.heap[b]? =some (.cells us.toArray t (0,0))/\aN (C0 (aB g w ρ st.heap)) cs us/\aI g w ρ (st.iK id).heap b/\
   (∀b,aI g w ρ st.heap b->aI g w ρ (st.iK id).heap b):=by
 have hblocks:ah ρ (st.iK id).heap=ah ρ (st.heap.filter λ p=> !Nat.beq p.1 id):=mG ρ id _;have hsub:∀b,b∈ah ρ (st.iK id).heap->b∈ah ρ st.heap:=λ b h=>by rw[hblocks]at h;exact fQ h
 have hk:∀b,aI g w ρ st.heap b->aI g w ρ (st.iK id).heap b:=λ b h=>⟨h.1,h.2.1,λ h'=>h.2.2 (hsub b h')⟩;have hE:Ext id (aB g w ρ st.heap) (aB g w ρ (st.iK id).heap):=⟨hk,λ _ _=>rfl,λ _ _=> .refl _⟩;obtain⟨b,us,hv,hh,ha⟩:=R.objs _ (aA hf);have hv:ρ id= .pointer (some ⟨b,0,none⟩):=hv;refine⟨⟨R.size,R.defers,R.below,λ t=>by rw[show(st.iK id).tmps t=rU id (st.tmps t)from oG rfl st.sl t];exact C2.ext hE (R.tmps t), ?_, ?_,λ b hb=>R.own b (hsub b hb),R.back.map rfl λ _ _=>C2.ext hE⟩,
  b,us,hv,hh,ha,⟨(Array.getElem?_eq_some_iff.1 hh).1,λ hlt=>(R.own b (aU.2 ⟨_,aA hf,by rw[hv];exact List.mem_cons_self⟩)).elim (λ h=>absurd hlt (by omega)) .inr, ?_⟩,hk⟩
 ·intro p hp;simp only[AS.iK,nK,List.mem_map]at hp;obtain⟨q,hq,rfl⟩:=hp;obtain⟨hq1,hq2⟩:=List.mem_filter.1 hq;exact bn.ext hE rfl (λ _ _=>rfl) (R.objs q hq1)
 ·rw[hblocks];exact pG R.apart
 ·intro hin;rw[hblocks]at hin;obtain⟨p,hp,hpe⟩:=aU.1 hin;obtain⟨hp1,hp2⟩:=List.mem_filter.1 hp;have:=gJ R.apart p hp1 _ (aA hf) hpe (by rw[hv];exact List.mem_cons_self);simp[this]at hp2
theorem PC.cut{w:World}{k:Nat->Prop}{s n:Nat}{sc:Bool}{f:Nat->List AV}{A:Option Addr}{c:Nat}(h:PC w k (.sl s n sc f) (.slice A n c)){lo hi:Nat}(h1:lo<=hi)(h2:hi<=n):
  PC w k (.sl s (hi-lo) sc (λ i=>f (lo+i))) (.slice (if c=lo then A else A.map (·.add (lo*s))) (hi-lo) (c-lo)):=by
 cases h with
 |sl _ _ _ _ _ _ us hs0 hnc hcc hl hfl hsc hu' hr=>
  have hlh:(hi-lo)*s=hi*s-lo*s:=Nat.sub_mul hi lo s;have h1s:lo*s<=hi*s:=Nat.mul_le_mul_right _ h1;have h2s:hi*s<=n*s:=Nat.mul_le_mul_right _ h2;have abO:∀{n:Nat}{f:Nat->List AV},(∀i,i<n->(f i).length=s)-> ∀lo hi,lo<=hi->hi<=n->flat (hi-lo) (λ i=>f (lo+i))=((flat n f).drop (lo*s)).take ((hi-lo)*s):=λ h lo hi=>oK h lo hi;have hfc:=abO hfl lo hi h1 h2;have hall:aN (PC w k) (flat n f) us:=⟨by rw[hl];exact mP hfl,hu'⟩;have hall':=(hall.drop (lo*s)).take ((hi-lo)*s);rw[<-hfc]at hall';refine .sl s (hi-lo) sc _ _ _ ((us.drop (lo*s)).take ((hi-lo)*s)) hs0 (by omega) (by omega) ?_ (λ i hi'=>hfl (lo+i) (by omega)) ?_ hall'.2 ?_
  ·rw[List.length_take,List.length_drop,hl];omega
  ·intro hv x hx;rw[hfc]at hx;exact hsc hv x (List.mem_of_mem_drop (List.mem_of_mem_take hx))
  ·rcases hr with hz|⟨b,o,rfl,kb,hcell⟩
   ·left;omega
   ·by_cases hcl:c=lo
    ·left;omega
    ·right;rw[if_neg hcl];refine⟨b,o+lo*s,by simp[Addr.add_lit],kb,λ j u hj=> ?_⟩;rw[List.getElem?_take]at hj;split at hj
     ·rw[List.getElem?_drop]at hj;rw[Nat.add_assoc];exact hcell _ u hj
     ·cases hj
where
 oK {s:Nat}:∀{n:Nat}{f:Nat->List AV},(∀i,i<n->(f i).length=s)-> ∀lo hi,lo<=hi->hi<=n->flat (hi-lo) (λ i=>f (lo+i))=((flat n f).drop (lo*s)).take ((hi-lo)*s)
  |0,f,_,lo,hi,h1,h2=>by
   have:hi=0:=by omega
   subst this;simp[flat]
  |n+1,f,h,0,0,_,_=>by simp[flat]
  |n+1,f,h,0,hi+1,_,h2=>by
   have ih:=oK (n:=n) (f:=λ i=>f (i+1)) (λ i hi=>h (i+1) (by omega)) 0 hi (by omega) (by omega);have e:flat (hi+1-0) (λ i=>f (0+i))=f 0++flat hi (λ i=>f (i+1)):=by simp[flat]
   have e2:flat (n+1) f=f 0++flat n (λ i=>f (i+1)):=rfl;have h0:=h 0 (by omega);rw[e,e2];simp only[Nat.sub_zero,Nat.zero_mul,List.drop_zero,Nat.zero_add]at ih⊢;rw[ih,Nat.succ_mul,List.take_append,List.take_of_length_le (l:=f 0) (by omega),h0,show hi*s+s-s=hi*s by omega]
  |n+1,f,h,lo+1,hi,h1,h2=>by
   obtain⟨hi',rfl⟩:∃k,hi=k+1:=⟨hi-1,by omega⟩;have ih:=oK (n:=n) (f:=λ i=>f (i+1)) (λ i hi=>h (i+1) (by omega)) lo hi' (by omega) (by omega);have e2:flat (n+1) f=f 0++flat n (λ i=>f (i+1)):=rfl;have h0:=h 0 (by omega);rw[show hi'+1-(lo+1)=hi'-lo by omega,e2,Nat.succ_mul,List.drop_append,List.drop_of_length_le (l:=f 0) (by omega),List.nil_append,h0,show lo*s+s-s=lo*s by omega,<-ih];apply qx;intro i _;congr 1;omega
theorem jh(k:IntKind)(i:Int)(y:Nat)(code:BoundsCode)(h0:0<=i)(h1:i<=(y:Int))(w:World):(Instr.sliceBound (.int k i) y code).run P w= .ok i.toNat w:=by
 simp[Instr.sliceBound,asIntOf,h0,h1]
theorem pX{t e:TypeId}{ei:TI}(hL:bQ P L)(hu:P.underlying t=some (.slice e))(pK:aV L e=some ei){A:Option Addr}{n c l h:Nat}{lo hi:Option Value}(w:World)
  (hb:(Instr.sliceBounds true n c lo hi none).run P w= .ok (l,h,c) w):(Instr.sliceAt t (.slice A n c) lo hi none).run P w= .ok (.slice (if c=l then A else A.map (·.add (l*ei.size))) (h-l) (c-l)) w:=by
 simp only[Instr.sliceAt,Instr.slice,Sem.run_bind,run_underlying hu,Result.andThen_ok,hb,iy hL pK,Sem.run_pure]
theorem Lh(hL:bQ P L){X:CX}{t:TypeId}{ti:TI}{e:TypeId}(hti:aV L t=some ti)(hk:ti.kind= .slice e){ei:TI}(pK:aV L e=some ei){n:Nat}{sc:Bool}{f:Nat->List AV}{xv:Value}(hx:PC X.w X.keep (.sl ei.size n sc f) xv)
  {lo hi:Option AV}{OG hiv:Option Value}(hlo:∀y,lo=some y-> ∃v,OG=some v/\C2 X y v)(Dp:lo=none->OG=none)(hhi:∀y,hi=some y-> ∃v,hiv=some v/\C2 X y v)(Dq:hi=none->hiv=none){K:AV->Prop}(h:RN ei.size n sc f lo hi K)(w:World):
  ∃z u,K z/\PC X.w X.keep z u/\(Instr.sliceAt t xv OG hiv none).run P w= .ok u w:=by
 have hu:=bY hL hti hk;cases hx with
 |sl _ _ _ _ A c us hs0 hnc hcc hl hfl hsc hu' hr=>
  have hx:PC X.w X.keep (.sl ei.size n sc f) (.slice A n c):= .sl ei.size n sc f A c us hs0 hnc hcc hl hfl hsc hu' hr;have fin:∀{l hh:Nat},l<=hh->hh<=n->K (.sl ei.size (hh-l) sc (λ i=>f (l+i)))->(Instr.sliceBounds true n c OG hiv none).run P w= .ok (l,hh,c) w-> ∃z u,K z/\PC X.w X.keep z u/\(Instr.sliceAt t (.slice A n c) OG hiv none).run P w= .ok u w:=
   λ h1 h2 hk hb=>⟨_,_,hk,PC.cut hx h1 h2,pX hL hu pK w hb⟩
  unfold RN at h;simp only[Bf]at h;split at h
  ·rw[Dp rfl,Dq rfl]at fin⊢;refine fin (l:=0) (hh:=n) (by omega) (by omega) ?_ (by simp[Instr.sliceBounds]);simpa using h
  ·rename_i k hh;obtain⟨v,hv,hc⟩:=hhi _ rfl;obtain rfl:=C2.dN hc;rw[Dp rfl,hv]at fin⊢;cases hb:inB hh (n+1)with
   |false=>rw[hb]at h;exact h.elim
   |true=>
    rw[hb]at h;obtain⟨h0,h1⟩:=jc hb;refine fin (l:=0) (hh:=hh.toNat) (by omega) (by omega) (by simpa using h) ?_;simp[Instr.sliceBounds,jh k hh c _ h0 (by omega)]
  ·rename_i k ll;obtain⟨v,hv,hc⟩:=hlo _ rfl;obtain rfl:=C2.dN hc;rw[Dq rfl,hv]at fin⊢;cases hb:inB ll (n+1)with
   |false=>rw[hb]at h;exact h.elim
   |true=>
    rw[hb]at h;obtain⟨h0,h1⟩:=jc hb;refine fin (l:=ll.toNat) (hh:=n) (by omega) (by omega) h ?_;simp[Instr.sliceBounds,jh k ll n _ h0 (by omega)]
  ·rename_i k ll k' hh;obtain⟨v,hv,hc⟩:=hlo _ rfl;obtain rfl:=C2.dN hc;obtain⟨v',hv',hc'⟩:=hhi _ rfl;obtain rfl:=C2.dN hc';rw[hv,hv']at fin⊢;cases hb:inB hh (n+1)with
   |false=>rw[hb]at h;exact h.elim
   |true=>
    rw[hb]at h;simp only[cond_true]at h;obtain⟨h0,h1⟩:=jc hb;cases hb':inB ll (hh.toNat+1)with
    |false=>rw[hb']at h;exact h.elim
    |true=>
     rw[hb']at h;obtain⟨h2,h3⟩:=jc hb';refine fin (l:=ll.toNat) (hh:=hh.toNat) (by omega) (by omega) h ?_;simp[Instr.sliceBounds,jh k' hh c _ h0 (by omega),jh k ll hh.toNat _ h2 (by omega)]
  ·exact h.elim
theorem Ez{X:CX}{n:Nat}{lo hi:Option AV}{OG hiv:Option Value}(hlo:∀y,lo=some y-> ∃v,OG=some v/\C2 X y v)(Dp:lo=none->OG=none)(hhi:∀y,hi=some y-> ∃v,hiv=some v/\C2 X y v)(Dq:hi=none->hiv=none){K:Nat->Nat->Prop}(h:Va n lo hi K)(w:World):
  ∃l hh,l<=hh/\hh<=n/\K l hh/\ ∀c,n<=c->(Instr.sliceBounds true n c OG hiv none).run P w= .ok (l,hh,c) w:=by
 unfold Va at h;simp only[Bf]at h;split at h
 ·rw[Dp rfl,Dq rfl];exact⟨0,n,by omega,by omega,h,λ c _=>by simp[Instr.sliceBounds]⟩
 ·rename_i k hh;obtain⟨v,hv,hc⟩:=hhi _ rfl;obtain rfl:=C2.dN hc;rw[Dp rfl,hv];cases hb:inB hh (n+1)with
  |false=>rw[hb]at h;exact h.elim
  |true=>
   rw[hb]at h;obtain⟨h0,h1⟩:=jc hb;exact⟨0,hh.toNat,by omega,by omega,h,λ c hnc=>by simp[Instr.sliceBounds,jh k hh c _ h0 (by omega)]⟩
 ·rename_i k ll;obtain⟨v,hv,hc⟩:=hlo _ rfl;obtain rfl:=C2.dN hc;rw[Dq rfl,hv];cases hb:inB ll (n+1)with
  |false=>rw[hb]at h;exact h.elim
  |true=>
   rw[hb]at h;obtain⟨h0,h1⟩:=jc hb;exact⟨ll.toNat,n,by omega,by omega,h,λ c hnc=>by simp[Instr.sliceBounds,jh k ll n _ h0 (by omega)]⟩
 ·rename_i k ll k' hh;obtain⟨v,hv,hc⟩:=hlo _ rfl;obtain rfl:=C2.dN hc;obtain⟨v',hv',hc'⟩:=hhi _ rfl;obtain rfl:=C2.dN hc';rw[hv,hv'];cases hb:inB hh (n+1)with
  |false=>rw[hb]at h;exact h.elim
  |true=>
   rw[hb]at h;simp only[cond_true]at h;obtain⟨h0,h1⟩:=jc hb;cases hb':inB ll (hh.toNat+1)with
   |false=>rw[hb']at h;exact h.elim
   |true=>
    rw[hb']at h;obtain⟨h2,h3⟩:=jc hb';exact⟨ll.toNat,hh.toNat,by omega,by omega,h,λ c hnc=>by simp[Instr.sliceBounds,jh k' hh c _ h0 (by omega),jh k ll hh.toNat _ h2 (by omega)]⟩
 ·exact h.elim
theorem Sr(hL:bQ P L){X:CX}{t:TypeId}{ti:TI}(hti:aV L t=some ti)(hk:ti.kind= .str){b:ByteArray}
  {lo hi:Option AV}{OG hiv:Option Value}(hlo:∀y,lo=some y-> ∃v,OG=some v/\C2 X y v)(Dp:lo=none->OG=none)(hhi:∀y,hi=some y-> ∃v,hiv=some v/\C2 X y v)(Dq:hi=none->hiv=none){K:AV->Prop}(h:U9 b lo hi K)(w:World):
  ∃z u,K z/\C2 X z u/\(Instr.sliceAt t (.string b) OG hiv none).run P w= .ok u w:=by
 have hu:=rW hL hti hk;have fin:∀{l hh:Nat},K (.v (.string (b.extract l hh)))->(Instr.sliceBounds false b.size b.size OG hiv none).run P w= .ok (l,hh,b.size) w-> ∃z u,K z/\C2 X z u/\(Instr.sliceAt t (.string b) OG hiv none).run P w= .ok u w:=by
  intro l hh hk hb;refine⟨_,_,hk,rfl, ?_⟩;simp[Instr.sliceAt,Instr.slice,run_underlying hu,hb]
 unfold U9 at h;simp only[Bf]at h;split at h
 ·rw[Dp rfl,Dq rfl]at fin⊢;refine fin (l:=0) (hh:=b.size) ?_ (by simp[Instr.sliceBounds]);simpa using h
 ·rename_i k hh;obtain⟨v,hv,hc⟩:=hhi _ rfl;obtain rfl:=C2.dN hc;rw[Dp rfl,hv]at fin⊢;cases hb:inB hh (b.size+1)with
  |false=>rw[hb]at h;exact h.elim
  |true=>
   rw[hb]at h;obtain⟨h0,h1⟩:=jc hb;refine fin (l:=0) (hh:=hh.toNat) h ?_;simp[Instr.sliceBounds,jh k hh b.size _ h0 (by omega)]
 ·rename_i k ll;obtain⟨v,hv,hc⟩:=hlo _ rfl;obtain rfl:=C2.dN hc;rw[Dq rfl,hv]at fin⊢;cases hb:inB ll (b.size+1)with
  |false=>rw[hb]at h;exact h.elim
  |true=>
   rw[hb]at h;obtain⟨h0,h1⟩:=jc hb;refine fin (l:=ll.toNat) (hh:=b.size) h ?_;simp[Instr.sliceBounds,jh k ll b.size _ h0 (by omega)]
 ·rename_i k ll k' hh;obtain⟨v,hv,hc⟩:=hlo _ rfl;obtain rfl:=C2.dN hc;obtain⟨v',hv',hc'⟩:=hhi _ rfl;obtain rfl:=C2.dN hc';rw[hv,hv']at fin⊢;cases hb:inB hh (b.size+1)with
  |false=>rw[hb]at h;exact h.elim
  |true=>
   rw[hb]at h;simp only[cond_true]at h;obtain⟨h0,h1⟩:=jc hb;cases hb':inB ll (hh.toNat+1)with
   |false=>rw[hb']at h;exact h.elim
   |true=>
    rw[hb']at h;obtain⟨h2,h3⟩:=jc hb';refine fin (l:=ll.toNat) (hh:=hh.toNat) h ?_;simp[Instr.sliceBounds,jh k' hh b.size _ h0 (by omega),jh k ll hh.toNat _ h2 (by omega)]
 ·exact h.elim
theorem EC(hL:bQ P L)(R:Rel g N bs ρ a w st){t:TypeId}{x:AV}{xv:Value}{lo hi mx:Option Operand}(hx:C2 (aB g w ρ st.heap) x xv){K:AV->AS->Prop}(h:aslice L st t x (lo.map st.ev) (hi.map st.ev) (mx.map st.ev) K):
  ∃z u st' ρ',K z st'/\Rel g N bs ρ' a w st'/\C2 (aB g w ρ' st'.heap) z u/\(Instr.sliceAt t xv (lo.map a.eval) (hi.map a.eval) (mx.map a.eval)).run P w= .ok u w/\((∀id,x≠ .own id)->ρ'=ρ):=by
 have side:∀{X:CX}{o:Option Operand},(∀x,C2 X (st.ev x) (a.eval x))->(∀y,o.map st.ev=some y-> ∃v,o.map a.eval=some v/\C2 X y v)/\(o.map st.ev=none->o.map a.eval=none):=by
  intro X o hX;cases o with
  |none=>exact⟨(λ y h=>by cases h),λ _=>rfl⟩
  |some o=>exact⟨(λ y h=>by cases h;exact⟨_,rfl,hX o⟩),(λ h=>by cases h)⟩
 unfold aslice at h;split at h
 ·rename_i ti hmx hti;have acE:mx=none:=by cases mx with|none=>rfl|some m=>cases hmx
  subst acE;split at h
  ·rename_i e s n sc f hk;split at h
   ·rename_i ei pK;cases hb:Nat.beq s ei.size with
    |false=>rw[hb]at h;exact h.elim
    |true=>
     rw[hb]at h;simp only[cond_true]at h;obtain rfl:=Nat.eq_of_beq_eq_true hb;obtain⟨s1,s2⟩:=side (o:=lo) R.ev;obtain⟨s3,s4⟩:=side (o:=hi) R.ev;obtain⟨z,u,hk',hp,hr⟩:=Lh (X:=aB g w ρ st.heap) hL hti hk pK (C2.uw hx) s1 s2 s3 s4 h w;exact⟨z,u,st,ρ,hk',R,C2.sH (C0.KG hp),hr,λ _=>rfl⟩
   ·exact h.elim
  ·rename_i e hk;split at h;rotate_left
   ·exact h.elim
   rename_i ei pK;obtain rfl:=C2.dN hx;obtain⟨s1,s2⟩:=side (o:=lo) R.ev;obtain⟨s3,s4⟩:=side (o:=hi) R.ev;obtain⟨l,hh,g1,g2,g3,g4⟩:=Ez (X:=aB g w ρ st.heap) (P:=P) s1 s2 s3 s4 h w;have e1:l=0:=by omega
   have e2:hh=0:=by omega
   subst e1 e2;have hu:=bY hL hti hk;exact⟨_,.slice none 0 0,st,ρ,g3,R,rfl,pX (A:=none) hL hu pK w (g4 0 (Nat.le_refl _)),λ _=>rfl⟩
  ·rename_i e id hk;split at h
   ·rename_i e' s n sc f hfo;split at h
    ·rename_i ei pK;cases hb:Nat.beq s ei.size with
     |false=>rw[hb]at h;exact h.elim
     |true=>
      rw[hb]at h;simp only[cond_true]at h;obtain rfl:=Nat.eq_of_beq_eq_true hb;have hxv:xv=ρ id:=(C2.kW hx).trans (Dy (X:=aB g w ρ st.heap) (R.objs _ (aA hfo)));subst hxv;have hu:=bY hL hti hk;obtain⟨us,hown,hs0,hfl,hsc,ha⟩:=R.objs _ (aA hfo);have hown:w.ownsRow 0 e' ei.size (ρ id) n us:=hown;have ha:aN (PC w (aI g w ρ st.heap)) (flat n f) us:=ha;obtain⟨s1,s2⟩:=side (o:=lo) R.ev;obtain⟨s3,s4⟩:=side (o:=hi) R.ev;rcases h with h|h|h
      ·obtain⟨R',hrow⟩:=R.freeze hfo;obtain⟨z,u,hk',hp,hr⟩:=VI (X:=aB g w ρ st.heap) (Y:=aB g w ρ (st.freeze id ei.size n sc f).heap) hL hti hk pK hrow R.ev h w;exact⟨z,u,_,ρ,hk',R',C2.sH (C0.KG hp),hr,λ _=>rfl⟩
      ·obtain⟨l,hh,g1,g2,g3,g4⟩:=Ez (X:=aB g w ρ st.heap) (P:=P) s1 s2 s3 s4 h w;rcases hown.2 with⟨hv,hz⟩|⟨b,cap,cur,hv,hB,hcur,hnc,hcm,hcs,htake⟩
       ·have e1:l=0:=by omega
        have e2:hh=0:=by omega
        subst e1 e2 hz;refine⟨_,.slice none 0 0,st,ρ,g3,R,.inr ⟨rfl,none,0,rfl⟩, ?_,λ _=>rfl⟩;rw[hv];exact pX (A:=none) hL hu pK w (g4 0 (by omega))
       ·have hsl:=pX (A:=some ⟨b,0,none⟩) hL hu pK w (g4 cap hnc);by_cases hc:cap=l
        ·have e0:hh-l=0:=by omega
         refine⟨_,.slice (some ⟨b,0,none⟩) (hh-l) (cap-l),st,ρ,g3,R,.inr ⟨e0,some ⟨b,0,none⟩,cap-l,by rw[e0]⟩,by rw[hv];simpa[hc]using hsl,λ _=>rfl⟩
        ·refine⟨_,.slice (some ⟨b,l*ei.size,none⟩) (hh-l) (cap-l),st,ρ,g3,R,.inl ⟨b,cap-l, ?_,by omega,rfl⟩, ?_,λ _=>rfl⟩
         ·show oZ (fM (ρ id))=[b];rw[hv];rfl
         ·rw[hv];rw[if_neg hc]at hsl;simpa only[Option.map_some,Addr.add_lit,Nat.zero_add,Option.map_none]using hsl
      ·obtain⟨l,hh,g1,g2,g3,g4⟩:=Ez (X:=aB g w ρ st.heap) (P:=P) s1 s2 s3 s4 h w;cases hl:Nat.beq l 0 with
       |false=>rw[hl]at g3;exact g3.elim
       |true=>
        rw[hl]at g3;obtain rfl:=Nat.eq_of_beq_eq_true hl;simp only[cond_true,jg]at g3;have VD:us.length=n*ei.size:=hown.1;have hhn:hh*ei.size<=n*ei.size:=Nat.mul_le_mul_right _ g2;have key:∀v,w.ownsRow 0 e' ei.size v hh (us.take (hh*ei.size))->(∀b∈blks v,b∈blks (ρ id))->Rel g N bs (dV ρ st.base v) a w (st.obj st.base id (.row e' ei.size hh sc f)):=λ v hov hbv=>by
         refine R.obj st.base id R.below (Nat.le_refl _) (λ _ _ _=>rfl) (λ b hb=> .inr ⟨_,aA hfo,rfl,hbv b hb⟩) (λ hE=> ?_) (nM hov);refine⟨us.take (hh*ei.size),by simpa[aB,dV]using hov,hs0,λ i hi=>hfl i (by omega),λ hv x hx=> ?_, ?_⟩
         ·obtain⟨i,hi,hx⟩:=jQ.mQ.1 hx;exact hsc hv x (jQ.mQ.2 ⟨i,by omega,hx⟩)
         ·have:=PC.cut.oK (n:=0) (lo:=0) (hi:=0) hfl 0 hh (Nat.zero_le _) g2;simp only[Nat.sub_zero,Nat.zero_add,Nat.zero_mul,List.drop_zero]at this;rw[this];exact(ha.imp λ _ _=>PC.mono hE.keep hE.mem).take _
        rcases hown.2 with⟨hv,hz⟩|⟨b,cap,cur,hv,hB,hcur,hnc,hcm,hcs,htake⟩
        ·have e2:hh=0:=by omega
         subst e2 hz;refine⟨_,.slice none 0 0,_,_,g3,key _ ⟨by simp,.inl ⟨rfl,rfl⟩⟩ (λ b hb=>by cases hb),by simp[C2,C1,C0,aB,dV,fM], ?_,λ hne=>absurd rfl (hne id)⟩;rw[hv];exact pX (A:=none) hL hu pK w (g4 0 (by omega))
        ·have hsl:=pX (A:=some ⟨b,0,none⟩) hL hu pK w (g4 cap hnc);refine⟨_,.slice (some ⟨b,0,none⟩) hh cap,_,_,g3,key _ ⟨by rw[List.length_take,VD,Nat.min_eq_left hhn],.inr ⟨b,cap,cur,rfl,hB,hcur,by omega,hcm,hcs,by rw[<-htake,List.take_take,Nat.min_eq_left hhn]⟩⟩ (λ c hc=>by rw[hv];exact hc),by simp[C2,C1,C0,aB,dV,fM], ?_,λ hne=>absurd rfl (hne id)⟩;rw[hv];simpa[Addr.add]using hsl
    ·exact h.elim
   ·exact h.elim
  ·rename_i b hk;obtain rfl:=C2.dN hx;obtain⟨s1,s2⟩:=side (o:=lo) R.ev;obtain⟨s3,s4⟩:=side (o:=hi) R.ev;obtain⟨z,u,hk',hp,hr⟩:=Sr (X:=aB g w ρ st.heap) hL hti hk s1 s2 s3 s4 h w;exact⟨z,u,st,ρ,hk',R,hp,hr,λ _=>rfl⟩
  ·rename_i m e id k hk;rcases h with h|h|h;split at h
   ·rename_i cs ei hlo hhi hfo pK;have Dp:lo=none:=by cases lo with|none=>rfl|some m=>cases hlo
    have Dq:hi=none:=by cases hi with|none=>rfl|some m=>cases hhi
    subst Dp Dq;cases hb:(Nat.ble 1 ei.size&&Nat.beq cs.length (m*ei.size)&&Nat.ble m 65536&&cs.all Cj)with
    |false=>rw[hb]at h;exact h.elim
    |true=>
     rw[hb]at h;simp only[cond_true]at h;simp only[Bool.and_eq_true]at hb;obtain⟨⟨⟨hb1,hb2⟩,hb3⟩,hp⟩:=hb;have hs:=Nat.le_of_ble_eq_true hb1;have hlen:=Nat.eq_of_beq_eq_true hb2;have hm:=Nat.le_of_ble_eq_true hb3;have hu:=oJ hL hti hk;obtain⟨R',b,us,hv,hh,ha,hkb,hkk⟩:=R.iK hfo;obtain⟨b',hb',hxv⟩:=C2.lK hx;have hb':fM (ρ id)= .pointer (some ⟨b',0,none⟩):=hb';rw[hv]at hb';cases hb';subst hxv;have VD:us.length=m*ei.size:=by rw[<-ha.1,hlen]
     have hfl:=yG (s:=ei.size) hlen;have hpc:aN (PC w (aI g w ρ (st.iK id).heap)) (flat m (chunk ei.size cs)) us:=by
      rw[hfl];exact⟨ha.1,λ i x u hx hu=>PC.mono hkk (λ _ _=>rfl) (Jt (ha.2 i x u hx hu) (List.all_eq_true.1 hp x (List.mem_of_getElem? hx)))⟩
     refine⟨_,.slice (some ⟨b,0,none⟩) m m,_,ρ,h,R',C2.sH (C0.KG (X:=aB g w ρ (st.iK id).heap) (.sl ei.size m _ _ _ m us hs (Nat.le_refl _) (by simp only[maxLen];omega) VD (G8 hlen) (λ hv x hx=> ?_) hpc.2 (.inr ⟨b,0,rfl,hkb,λ j u hj=> ?_⟩))), ?_⟩
     ·rw[hfl]at hx;have:=List.all_eq_true.1 hv x hx;cases x<;>first|exact⟨_,rfl⟩|(simp[isV]at this)
     ·have hj':(us.toArray)[j]? =some u:=by simpa using hj
      simp only[World.cell?,aB,hh,Nat.zero_add];simpa using hj
     ·refine⟨?_,λ _=>rfl⟩;simp[Instr.sliceAt,run_underlying hu,Instr.sliceBounds,Instr.sureAddr,iy hL pK,Addr.add]
   ·exact h.elim
   ·split at h
    ·rename_i ei hlo hhi pK;have Dp:lo=none:=by cases lo with|none=>rfl|some m=>cases hlo
     have Dq:hi=none:=by cases hi with|none=>rfl|some m=>cases hhi
     subst Dp Dq;have hu:=oJ hL hti hk;obtain⟨b,hb,rfl⟩:=C2.lK hx;have hb:fM (ρ id)= .pointer (some ⟨b,0,none⟩):=hb;refine⟨_,.slice (some ⟨b,k*1,none⟩) m m,st,ρ,h,R,.inl ⟨b,m,by show oZ (fM (ρ id))=[b];rw[hb];rfl,Nat.le_refl _,rfl⟩, ?_,λ _=>rfl⟩;simp[Instr.sliceAt,run_underlying hu,Instr.sliceBounds,Instr.sureAddr,iy hL pK,Addr.add]
    ·exact h.elim
   ·exact h.elim
  ·exact h.elim
 ·exact h.elim
where
 VI (hL:bQ P L) {X Y:CX} {t:TypeId} {ti:TI} {e:TypeId} (hti:aV L t=some ti) (hk:ti.kind= .slice e) {ei:TI} (pK:aV L e=some ei) {n:Nat} {sc:Bool} {f:Nat->List AV} {xv:Value} (hx:PC Y.w Y.keep (.sl ei.size n sc f) xv)
   {lo hi:Option Operand} (hev:∀o,C2 X (st.ev o) (a.eval o)) {K:AV->Prop} (h:RN ei.size n sc f (lo.map st.ev) (hi.map st.ev) K) (w:World):
   ∃z u,K z/\PC Y.w Y.keep z u/\(Instr.sliceAt t xv (lo.map a.eval) (hi.map a.eval) none).run P w= .ok u w:=by
  have plain:∀o:Operand,(∃k n,st.ev o= .v (.int k n))->C2 Y (st.ev o) (a.eval o):=by
   rintro o ⟨k,n,e⟩;have:=hev o;rw[e]at this⊢;exact this
  have side:∀{o:Option Operand},(∀x,o=some x-> ∃k n,st.ev x= .v (.int k n))->(∀y,o.map st.ev=some y-> ∃v,o.map a.eval=some v/\C2 Y y v)/\(o.map st.ev=none->o.map a.eval=none):=by
   intro o ho;cases o with
   |none=>exact⟨(λ y h=>by cases h),λ _=>rfl⟩
   |some o=>exact⟨(λ y h=>by cases h;exact⟨_,rfl,plain o (ho o rfl)⟩),(λ h=>by cases h)⟩
  have h':=h;unfold RN at h';simp only[Bf]at h';have ints:(∀x,lo=some x-> ∃k n,st.ev x= .v (.int k n))/\(∀x,hi=some x-> ∃k n,st.ev x= .v (.int k n)):=by
   split at h'
   ·rename_i e1 e2;exact⟨(λ x e=>by rw[e]at e1;cases e1),λ x e=>by rw[e]at e2;cases e2⟩
   ·rename_i k hh e1 e2;exact⟨(λ x e=>by rw[e]at e1;cases e1),λ x e=>by rw[e]at e2;simp only[Option.map_some,Option.some.injEq]at e2;exact⟨_,_,e2⟩⟩
   ·rename_i k hh e1 e2;exact⟨(λ x e=>by rw[e]at e1;simp only[Option.map_some,Option.some.injEq]at e1;exact⟨_,_,e1⟩),λ x e=>by rw[e]at e2;cases e2⟩
   ·rename_i k ll k' hh e1 e2;exact⟨(λ x e=>by rw[e]at e1;simp only[Option.map_some,Option.some.injEq]at e1;exact⟨_,_,e1⟩),λ x e=>by rw[e]at e2;simp only[Option.map_some,Option.some.injEq]at e2;exact⟨_,_,e2⟩⟩
   ·exact h'.elim
  obtain⟨s1,s2⟩:=side ints.1;obtain⟨s3,s4⟩:=side ints.2;exact Lh (X:=Y) hL hti hk pK hx s1 s2 s3 s4 h w
end
section
variable{P:Program}{L:Lay}{g:Base}{N:Nat}{bs:List (Array Value)}{ρ:Nat->Value}{a:Act}{w:World}{st:AS}
theorem ED(hL:bQ P L)(_R:Rel g N bs ρ a w st){t:TypeId}{x:AV}{xv:Value}(hx:C2 (aB g w ρ st.heap) x xv){K:AV->Prop}(h:Ox L t x K):
  ∃z u,K z/\C2 (aB g w ρ st.heap) z u/\(Instr.arrayAt t xv).run P w= .ok u w:=by
 unfold Ox at h;split at h
 ·rename_i ti s n sc f hti;split at h
  ·rename_i m e hk;have hu:=oJ hL hti hk;split at h
   ·rename_i ei pK;cases hb:(Nat.beq s ei.size&&Nat.ble 1 m)with
    |false=>rw[hb]at h;exact h.elim
    |true=>
     rw[hb]at h;simp only[cond_true]at h;simp only[Bool.and_eq_true]at hb;have hm:=Nat.le_of_ble_eq_true hb.2;obtain⟨hmn,h⟩:=h;cases C2.uw hx with
     |sl _ _ _ _ A c us hs0 hnc hcc hl hfl hsc hu' hr=>
      rcases hr with h0|⟨b,o,rfl,kb,hcell⟩
      ·omega
      ·have hall:aN (PC w (aI g w ρ st.heap)) (flat n f) us:=⟨by rw[hl];exact mP hfl,hu'⟩;have hpre:flat m f=(flat n f).take (m*s):=by
        have:=PC.cut.oK (n:=0) (lo:=0) (hi:=0) hfl 0 m (Nat.zero_le _) hmn;simpa using this
       refine⟨_,.pointer (some ⟨b,o,none⟩),h,⟨b,o,us.take (m*s),by simp,kb,by rw[hpre];exact hall.take _,λ j y hj=> ?_⟩, ?_⟩
       ·rw[List.getElem?_take]at hj;split at hj
        ·exact hcell j y hj
        ·cases hj
       ·have:¬n<m:=by omega
        simp[Instr.arrayAt,run_underlying hu,this]
   ·exact h.elim
  ·exact h.elim
 ·exact h.elim
end
section
variable{P:Program}{L:Lay}{g:Base}{N:Nat}{bs:List (Array Value)}{ρ:Nat->Value}{a:Act}{w:World}{st:AS}
theorem Rel.abP(R:Rel g N bs ρ a w st){id:Nat}{o':AO}(oH:bn (aB g w ρ st.heap) id o'):Rel g N bs ρ a w ⟨st.sl,setObj id o' st.heap,st.back,st.base⟩:=by
 have hk:∀k,aI g w ρ st.heap k->aI g w ρ (setObj id o' st.heap) k:=λ k h=>⟨h.1,h.2.1,by rw[jo];exact h.2.2⟩;refine⟨R.size,R.defers,R.below,λ t=>C2.same (X:=aB g w ρ st.heap) (Y:=aB g w ρ (setObj id o' st.heap)) hk (λ _ _=>rfl) rfl (R.tmps t),λ p hp=> ?_,by rw[jo];exact R.apart,by rw[jo];exact R.own,R.back.imp λ _ _=>C2.same (X:=aB g w ρ st.heap) (Y:=aB g w ρ (setObj id o' st.heap)) hk (λ _ _=>rfl) rfl⟩;rcases uo hp with rfl|hp'
 ·exact bn.same (X:=aB g w ρ st.heap) (Y:=aB g w ρ (setObj id o' st.heap)) hk (λ _ _=>rfl) rfl (λ _ _=>rfl) oH
 ·exact bn.same (X:=aB g w ρ st.heap) (Y:=aB g w ρ (setObj id o' st.heap)) hk (λ _ _=>rfl) rfl (λ _ _=>rfl) (R.objs p hp')
theorem Lj{n lo k:Nat}{f f':Nat->List AV}(h:lo+k<=n):flat n (KC lo k f f')=flat lo f++(flat k f'++flat (n-(lo+k)) (λ i=>f (lo+k+i))):=by
 obtain⟨r,rfl⟩:∃r,n=lo+(k+r):=⟨n-(lo+k),by omega⟩;rw[show lo+(k+r)-(lo+k)=r by omega];unfold KC;rw[vU,vU]
theorem YI{S:AV->Value->Prop}{s n lo k:Nat}{f f':Nat->List AV}{us vs:List Value}(h:lo+k<=n)(hfl:∀i,i<n->(f i).length=s)(ha:aN S (flat n f) us)(hv:aN S (flat k f') vs):
  aN S (flat n (KC lo k f f')) (us.take (lo*s)++vs++us.drop ((lo+k)*s)):=by
 rw[Lj h,List.append_assoc];have e1:=PC.cut.oK (n:=0) (lo:=0) (hi:=0) hfl 0 lo (Nat.zero_le _) (by omega);simp only[Nat.sub_zero,Nat.zero_add,Nat.zero_mul,List.drop_zero]at e1;have e2:=PC.cut.oK (n:=0) (lo:=0) (hi:=0) hfl (lo+k) n h (Nat.le_refl _);have hl:(flat n f).length=n*s:=mP hfl;rw[List.take_of_length_le (by rw[List.length_drop,hl,Nat.sub_mul];exact Nat.le_refl _)]at e2;rw[e1,e2];exact(ha.take _).app (hv.app (ha.drop _))
theorem QD{s n lo k:Nat}{f f':Nat->List AV}(_:lo+k<=n)(hfl:∀i,i<n->(f i).length=s)(hgl:∀i,i<k->(f' i).length=s):∀i,i<n->(KC lo k f f' i).length=s:=by
 intro i hi;unfold KC kJ;cases h1:Nat.ble lo i with
 |false=>exact hfl i hi
 |true=>
  have h1:=Nat.le_of_ble_eq_true h1;simp only[cond_true];cases h2:Nat.ble k (i-lo)with
  |true=>
   have h2:=Nat.le_of_ble_eq_true h2;exact hfl _ (by omega)
  |false=>
   refine hgl _ ?_;rcases Nat.lt_or_ge (i-lo) k with h3|h3
   ·exact h3
   ·rw[Nat.ble_eq_true_of_le h3]at h2;cases h2
theorem abQ{n lo k:Nat}{f f':Nat->List AV}(h:lo+k<=n)(hf:∀x∈flat n f,∃y,x= .v y)(hg:∀x∈flat k f',∃y,x= .v y):∀x∈flat n (KC lo k f f'),∃y,x= .v y:=by
 intro x hx;rw[Lj h]at hx;rcases List.mem_append.1 hx with hx|hx
 ·obtain⟨i,hi,hx⟩:=jQ.mQ.1 hx;exact hf x (jQ.mQ.2 ⟨i,by omega,hx⟩)
 ·rcases List.mem_append.1 hx with hx|hx
  ·exact hg x hx
  ·obtain⟨i,hi,hx⟩:=jQ.mQ.1 hx;exact hf x (jQ.mQ.2 ⟨lo+k+i,by omega,hx⟩)
theorem Rel.OH(R:Rel g N bs ρ a w st){id:Nat}{e:TypeId}{s n:Nat}{sc sc':Bool}{f f':Nat->List AV}(hf:aQ id st.heap=some (.row e s n sc f)){lo k:Nat}{vs:List Value}(hlk:lo+k<=n)(hgl:∀i,i<k->(f' i).length=s)
  (hav:aN (PC w (aI g w ρ st.heap)) (flat k f') vs)(hsv:sc'=true->sc=true/\ ∀x∈flat k f',∃y,x= .v y):
  (k=0->Rel g N bs ρ a w ⟨st.sl,setObj id (.row e s n sc' (KC lo k f f')) st.heap,st.back,st.base⟩)/\
  (0<k-> ∀b,oZ (fM (ρ id))=[b]-> ∃w',(storeCells ⟨b,lo*s,none⟩ vs 0).run P w= .ok () w'/\Rel g N bs ρ a w' ⟨st.sl,setObj id (.row e s n sc' (KC lo k f f')) st.heap,st.back,st.base⟩):=by
 obtain⟨us,hown,hs0,hfl,hsc,ha⟩:=R.objs _ (aA hf);have hown:w.ownsRow 0 e s (ρ id) n us:=hown;have ha:aN (PC w (aI g w ρ st.heap)) (flat n f) us:=ha;have VD:us.length=n*s:=hown.1;have hvl:vs.length=k*s:=by rw[<-hav.1,mP hgl]
 have hall:=YI hlk hfl ha hav;have hv':sc'=true-> ∀x∈flat n (KC lo k f f'),∃y,x= .v y:=λ h=>abQ hlk (hsc (hsv h).1) (hsv h).2;refine⟨λ hk0=>R.abP ?_,λ hk0 b hb=> ?_⟩
 ·subst hk0;refine⟨us,hown,hs0,QD hlk hfl hgl,hv', ?_⟩;have e0:vs=[]:=List.eq_nil_of_length_eq_zero (by omega);subst e0;have hall':aN (PC w (aI g w ρ st.heap)) (flat n (KC lo 0 f f')) us:=by simpa using hall
  exact hall'
 ·rcases hown.2 with⟨_,hz⟩|⟨b',cap,cur,hv,hB,hh,hnc,hcm,hcs,htake⟩
  ·omega
  ·have hb2:oZ (fM (ρ id))=[b']:=by rw[hv];rfl
   rw[hb2]at hb;cases hb;have hls:(lo+k)*s<=n*s:=Nat.mul_le_mul_right _ hlk;rw[Nat.add_mul]at hls;have hns:n*s<=cap*s:=Nat.mul_le_mul_right _ hnc;have hrun:=run_storeCells_at P b (lo*s) e vs 0 cur w hh (by omega) (PC.zX hav);refine⟨_,hrun,R.write hf (b:=b) (by rw[hv];exact List.mem_cons_self) pO (by simp[World.setRow]) (λ k' hk'=>setRow_other w b k' _ (by omega)) (λ hk hm=> ?_)⟩;refine⟨us.take (lo*s)++vs++us.drop ((lo+k)*s),⟨?_,.inr ⟨b,cap,_,hv,hB,setRow_heap w b _ _ e _ hh,hnc,hcm, ?_, ?_⟩⟩,hs0,QD hlk hfl hgl,hv',hall.imp λ _ _=>PC.mono hk hm⟩
   ·simp only[List.length_append,List.length_take,List.length_drop,hvl,VD,Nat.add_mul];omega
   ·simp only[List.size_toArray,List.length_append,List.length_take,List.length_drop,Array.length_toList,hcs,hvl];omega
   ·rw[<-htake];have:=jQ.CJ cur.toList (lo*s) vs (n*s) (by omega) (by rw[Array.length_toList];omega);rw[show lo*s+vs.length=(lo+k)*s by rw[hvl,Nat.add_mul]]at this;simpa using this
theorem rX{t tx ty e:TypeId}{s:Nat}(hu:P.underlying t=some (.slice e))(hsz:(sizeOf e).run P w= .ok s w){yv:Value}{vs:List Value}(hS:Src P s tx yv 0 vs w)(A:Option Addr)(m c:Nat):
  (Builtin.copy_ #[t,tx] ty #[.slice A m c,yv]).run P w= .ok (goInt 0) w:=by
 have hv:vs=[]:=List.eq_nil_of_length_eq_zero (by simpa using hS.newsLen);subst hv;have hc:=hS.cells;cases A<;>simp[Builtin.copy_,run_underlying hu,hS.len,hsz,hc,storeCells]
theorem rY{t tx ty e:TypeId}{s n m c:Nat}(hu:P.underlying t=some (.slice e))(hsz:(sizeOf e).run P w= .ok s w){yv:Value}{vs:List Value}(hS:Src P s tx yv n vs w)(hn:n<=m){b:Addr}{w':World}(hst:(storeCells b vs 0).run P w= .ok () w'):
  (Builtin.copy_ #[t,tx] ty #[.slice (some b) m c,yv]).run P w= .ok (goInt n) w':=by
 have hc:=hS.cells;simp[Builtin.copy_,run_underlying hu,hS.len,hsz,Nat.min_eq_left hn,hc,hst]
theorem EF{t e ty:TypeId}{z:Value}{s m c:Nat}(hu:P.underlying t=some (.slice e))(hz:(zeroValue e).run P w= .ok z w)(hzs:z.cells.size=s){b:Addr}{w':World}(hm:0<m)(hst:(storeCells b (List.replicate m z.cells.toList).flatten 0).run P w= .ok () w'):
  (Builtin.clear_ #[t] ty #[.slice (some b) m c]).run P w= .ok (.tuple #[]) w':=by
 obtain⟨m,rfl⟩:∃k,m=k+1:=⟨m-1,by omega⟩;have e1:(Builtin.zeroCells z.cells (m+1)).toList=(List.replicate (m+1) z.cells.toList).flatten:=by
  have:=Ey z.cells s hzs (m+1);rw[<-hzs]at this;exact this
 simp[Builtin.clear_,run_underlying hu,hz,e1,hst]
theorem VJ(hL:bQ P L)(R:Rel g N bs ρ a w st){s:Nat}(hs0:0<s){t:TypeId}{y:AV}{yv:Value}(hy:C2 (aB g w ρ st.heap) y yv){K:Nat->Bool->(Nat->List AV)->Prop}(h:aaC L st s t y K):
  ∃m sc f us,K m sc f/\Src P s t yv m us w/\aN (PC w (aI g w ρ st.heap)) (flat m f) us/\(∀i,i<m->(f i).length=s)/\(sc=true-> ∀x∈flat m f,∃z,x= .v z):=by
 unfold aaC at h;split at h
 ·rename_i id s1 lo m;split at h
  ·rename_i ti hti;split at h
   ·rename_i e e' s' r sc f hk hfo;cases hb:(Nat.beq s s1&&Nat.beq s s')with
    |false=>rw[hb]at h;exact h.elim
    |true=>
     rw[hb]at h;simp only[Bool.and_eq_true]at hb;obtain rfl:=Nat.eq_of_beq_eq_true hb.1;obtain rfl:=Nat.eq_of_beq_eq_true hb.2;obtain⟨hmr,h⟩:=h;obtain⟨us,hown,_,hfl,hsc,ha⟩:=R.objs _ (aA hfo);have hown:w.ownsRow 0 e' s (ρ id) r us:=hown;have ha:aN (PC w (aI g w ρ st.heap)) (flat r f) us:=ha;have hcut:=PC.cut.oK (n:=0) (lo:=0) (hi:=0) hfl lo (lo+m) (by omega) hmr;rw[show lo+m-lo=m by omega]at hcut;have hall:=(ha.drop (lo*s)).take (m*s);rw[<-hcut]at hall;have abR:∀i,i<m->(f (lo+i)).length=s:=λ i hi=>hfl _ (by omega);have VD:((us.drop (lo*s)).take (m*s)).length=m*s:=by rw[<-hall.1,mP abR]
     refine⟨m,sc,_,(us.drop (lo*s)).take (m*s),h, ?_,hall,abR,λ h x hx=> ?_⟩
     ·rcases C2.qV hy with⟨b,c,hbk,hmc,rfl⟩|⟨hm0,A,c,rfl⟩
      ·rcases hown.2 with⟨hv,hz⟩|⟨b',cap,cur,hv,_⟩
       ·have hbk:oZ (fM (ρ id))=[b]:=hbk;rw[hv]at hbk;cases hbk
       ·have hbk:oZ (fM (ρ id))=[b]:=hbk;rw[hv]at hbk;cases hbk;have hcell:=hown.cells (g:=b') (by rw[hv];rfl);refine Src.ofSlice w (bY hL hti hk) ⟨b',lo*s,none⟩ m c _ VD (λ j u hj=> ?_) (PC.zX hall);rw[List.getElem?_take]at hj;split at hj
        ·rw[List.getElem?_drop]at hj;have:=hcell _ _ hj;rw[Addr.add_lit]at this⊢;rwa [Nat.zero_add]at this
        ·cases hj
      ·subst hm0;rw[show(us.drop (lo*s)).take (0*s)=[] by simp];cases A with
       |none=>
        have:=Src.ofNil (P:=P) (size:=s) w (bY hL hti hk) c;exact this
       |some aa=>exact Src.ofSlice w (bY hL hti hk) aa 0 c [] (by simp) (by simp) (by simp)
     ·rw[hcut]at hx;exact hsc h x (List.mem_of_mem_drop (List.mem_of_mem_take hx))
   ·exact h.elim
  ·exact h.elim
 ·split at h
  ·rename_i n sc' g' hsrc;obtain⟨us,h1,h2,h3,h4⟩:=He hL R hs0 hy hsrc;exact⟨n,sc',g',us,h,h1,h2,h3,h4⟩
  ·exact h.elim
theorem Sv(hL:bQ P L)(R:Rel g N bs ρ a w st){t tx ty:TypeId}{x y:AV}{xv yv:Value}(hx:C2 (aB g w ρ st.heap) x xv)(hy:C2 (aB g w ρ st.heap) y yv){K:AV->AS->Prop}(h:Vr L st t tx x y K):
  ∃z u st' w',K z st'/\Rel g N bs ρ a w' st'/\C2 (aB g w' ρ st'.heap) z u/\(Builtin.copy_ #[t,tx] ty #[xv,yv]).run P w= .ok u w':=by
 unfold Vr at h;split at h
 ·rename_i ti hti;split at h
  ·rename_i e hk;have hu:=bY hL hti hk;split at h
   ·rename_i ei pK
    ·cases hb:Nat.ble 1 ei.size with
     |false=>rw[hb]at h;exact h.elim
     |true=>
      rw[hb]at h;simp only[cond_true]at h;have hs:=Nat.le_of_ble_eq_true hb;have hsz:=iy hL pK w;have h':=VJ hL R hs hy h;clear h;obtain⟨n,sc',f',vs,h,hS,hav,hgl,hsv⟩:=h';split at h
      ·rename_i id;split at h
       ·rename_i e' s m sc f hfo;cases hb:Nat.beq s ei.size with
        |false=>rw[hb]at h;exact h.elim
        |true=>
         rw[hb]at h;obtain rfl:=Nat.eq_of_beq_eq_true hb;obtain⟨hnm,h⟩:=h;obtain⟨us,hown,_⟩:=R.objs _ (aA hfo);have hown:w.ownsRow 0 e' ei.size (ρ id) m us:=hown;have hxv:xv=ρ id:=(C2.kW hx).trans (iO hown);subst hxv;obtain⟨h0,h1⟩:=R.OH (P:=P) hfo (lo:=0) (k:=n) (f':=f') (sc':=sc&&sc') (vs:=vs) (by omega) hgl hav (λ h=>by simp only[Bool.and_eq_true]at h;exact⟨h.1,hsv h.2⟩);rcases Nat.eq_zero_or_pos n with hn|hn
         ·refine⟨_,_,_,w,h,h0 hn,rfl, ?_⟩;subst hn;rcases hown.2 with⟨hv,hz⟩|⟨b,cap,cur,hv,_⟩<;>rw[hv]<;>exact rX hu hsz hS _ _ _
         ·rcases hown.2 with⟨hv,hz⟩|⟨b,cap,cur,hv,_⟩
          ·omega
          ·obtain⟨w',hst,R'⟩:=h1 hn b (by rw[hv];rfl);refine⟨_,_,_,w',h,R',rfl, ?_⟩;rw[hv];rw[Nat.zero_mul]at hst;exact rY hu hsz hS hnm hst
       ·exact h.elim
      ·rename_i id s lo m;split at h
       ·rename_i e' s' r sc f hfo;cases hb:(Nat.beq s ei.size&&Nat.beq s' s)with
        |false=>rw[hb]at h;exact h.elim
        |true=>
         rw[hb]at h;simp only[Bool.and_eq_true]at hb;obtain rfl:=Nat.eq_of_beq_eq_true hb.1;obtain rfl:=Nat.eq_of_beq_eq_true hb.2;obtain⟨⟨hnm,hmr⟩,h⟩:=h;obtain⟨h0,h1⟩:=R.OH (P:=P) hfo (lo:=lo) (k:=n) (f':=f') (sc':=sc&&sc') (vs:=vs) (by omega) hgl hav (λ h=>by simp only[Bool.and_eq_true]at h;exact⟨h.1,hsv h.2⟩);rcases Nat.eq_zero_or_pos n with hn|hn
         ·refine⟨_,_,_,w,h,h0 hn,rfl, ?_⟩;subst hn;rcases C2.qV hx with⟨b,c,_,_,rfl⟩|⟨_,A,c,rfl⟩<;>exact rX hu hsz hS _ _ _
         ·rcases C2.qV hx with⟨b,c,hbk,hmc,rfl⟩|⟨hm0,_⟩
          ·obtain⟨w',hst,R'⟩:=h1 hn b hbk;exact⟨_,_,_,w',h,R',rfl,rY hu hsz hS hnm hst⟩
          ·omega
       ·rename_i t' cs hfo;cases hb:(Nat.beq s 1&&Nat.ble n m&&Nat.ble (lo+n*ei.size) cs.length)with
        |false=>rw[hb]at h;exact h.elim
        |true=>
         rw[hb]at h;simp only[cond_true]at h;simp only[Bool.and_eq_true]at hb;obtain rfl:=Nat.eq_of_beq_eq_true hb.1.1;have hnm:=Nat.le_of_ble_eq_true hb.1.2;have hle:=Nat.le_of_ble_eq_true hb.2;obtain⟨b',us,e1,hh,ha⟩:=R.objs _ (aA hfo);have e1:ρ id= .pointer (some ⟨b',0,none⟩):=e1;have hh:w.heap[b']? =some (.cells us.toArray t' (0,0)):=hh;have ha:aN (C0 (aB g w ρ st.heap)) cs us:=ha;have hfl:(flat n f').length=n*ei.size:=mP hgl;have hvl:vs.length=n*ei.size:=by rw[<-hav.1,hfl]
         have VD:us.length=cs.length:=ha.1.symm;have hnew:=Et ha lo (xs:=flat n f') (vs:=vs) (hav.imp λ _ _=>C0.KG (X:=aB g w ρ st.heap));have hrun:=run_storeCells_at P b' lo t' vs 0 us.toArray w hh (by simp;omega) (PC.zX hav);have R':=R.write (o':= .box t' (splice cs lo (flat n f'))) hfo (b:=b') (by rw[e1];exact List.mem_cons_self) (w':=w.setRow b' (us.toArray.toList.take (lo+0)++vs++us.toArray.toList.drop (lo+0+vs.length)).toArray) pO (by simp[World.setRow]) (λ k' hk'=>setRow_other w b' k' _ (by omega)) (λ hk hm=>⟨b',_,e1,setRow_heap w b' _ _ t' _ hh,by
          have:=hnew.imp λ _ _=>C0.same (X:=aB g w ρ st.heap) (Y:=aB g (w.setRow b' (us.toArray.toList.take (lo+0)++vs++us.toArray.toList.drop (lo+0+vs.length)).toArray) ρ (setObj id (.box t' (splice cs lo (flat n f'))) st.heap)) hk hm rfl;simpa using this⟩)
         rcases Nat.eq_zero_or_pos n with hn|hn
         ·subst hn;have e0:vs=[]:=List.eq_nil_of_length_eq_zero (by omega);subst e0;have hself:w.setRow b' (us.toArray.toList.take (lo+0)++[]++us.toArray.toList.drop (lo+0+0)).toArray=w:=by
           simpa using setRow_self w b' us.toArray t' (0,0) hh
          rw[show([]:List Value).length=0 from rfl,hself]at R';refine⟨_,_,_,w,h,R',rfl, ?_⟩;rcases C2.qV hx with⟨b,c,_,_,rfl⟩|⟨_,A,c,rfl⟩<;>exact rX hu hsz hS _ _ _
         ·rcases C2.qV hx with⟨b,c,hbk,hmc,rfl⟩|⟨hm0,_⟩
          ·have hbk:oZ (fM (ρ id))=[b]:=hbk;rw[e1]at hbk;cases hbk;rw[Nat.mul_one];exact⟨_,_,_,_,h,R',rfl,rY hu hsz hS hnm hrun⟩
          ·omega
       ·exact h.elim
      ·exact h.elim
   ·exact h.elim
  ·exact h.elim
 ·exact h.elim
theorem OI(hL:bQ P L)(R:Rel g N bs ρ a w st){t ty:TypeId}{x:AV}{xv:Value}(hx:C2 (aB g w ρ st.heap) x xv){K:AV->AS->Prop}(h:OA L st t x K):
  ∃z st' w',K z st'/\Rel g N bs ρ a w' st'/\C2 (aB g w' ρ st'.heap) z (.tuple #[])/\(Builtin.clear_ #[t] ty #[xv]).run P w= .ok (.tuple #[]) w':=by
 unfold OA at h;split at h
 ·rename_i ti hti;split at h
  ·rename_i e n c hk;have hu:=bY hL hti hk;obtain rfl:=C2.dN hx;exact⟨_,st,w,h,R,rfl,by simp[Builtin.clear_,run_underlying hu]⟩
  ·rename_i e id s lo m hk;have hu:=bY hL hti hk;split at h
   ·rename_i ei pK;split at h
    ·rename_i e' s' r sc f hfo;cases hb:(Nat.beq s ei.size&&Nat.beq s' s&&Nat.beq ei.zero.length ei.size&&Nat.ble 1 ei.size&&ei.zero.all (λ x=>x.oneCell'))with
     |false=>rw[hb]at h;exact h.elim
     |true=>
      rw[hb]at h;simp only[Bool.and_eq_true]at hb;obtain⟨⟨⟨⟨hb1,hb2⟩,hb3⟩,hb4⟩,hone⟩:=hb;obtain rfl:=Nat.eq_of_beq_eq_true hb1;obtain rfl:=Nat.eq_of_beq_eq_true hb2;have hzl:=Nat.eq_of_beq_eq_true hb3;obtain⟨hmr,h⟩:=h;obtain⟨z,hz,hzc⟩:=zL hL pK w;have hzs:z.cells.size=ei.size:=by rw[<-Array.length_toList,hzc];exact hzl
      obtain⟨us,h1,h2⟩:=zW ei.zero m;have hfl:flat m (λ _=>ei.zero.map AV.v)=us.map .v:=by
       rw[zY,h2,List.map_flatten,List.map_replicate]
      obtain⟨h0,h3⟩:=R.OH (P:=P) hfo (lo:=lo) (k:=m) (f':=λ _=>ei.zero.map .v) (sc':=sc) (vs:=us) hmr (λ i _=>by simpa using hzl) (by
       rw[hfl];exact⟨by simp,λ i x u hx hu=>by
        rw[List.getElem?_map,hu]at hx;cases hx;refine .v u ?_;have hmem:u∈(List.replicate m ei.zero).flatten:=by rw[<-h2];exact List.mem_of_getElem? hu
        obtain⟨l,hl,hm⟩:=List.mem_flatten.1 hmem;rw[List.eq_of_mem_replicate hl]at hm;exact List.all_eq_true.1 hone u hm⟩) (λ hsc=>⟨hsc,λ x hx=>by
        rw[hfl]at hx;obtain⟨y,_,rfl⟩:=List.mem_map.1 hx;exact⟨y,rfl⟩⟩)
      rcases Nat.eq_zero_or_pos m with hn|hn
      ·refine⟨_,_,w,h,h0 hn,rfl, ?_⟩;subst hn;rcases C2.qV hx with⟨b,c,_,_,rfl⟩|⟨_,A,c,rfl⟩
       ·simp[Builtin.clear_,run_underlying hu]
       ·cases A<;>simp[Builtin.clear_,run_underlying hu]
      ·rcases C2.qV hx with⟨b,c,hbk,hmc,rfl⟩|⟨hm0,_⟩
       ·obtain⟨w',hst,R'⟩:=h3 hn b hbk;refine⟨_,_,w',h,R',rfl,EF hu hz hzs hn ?_⟩;rw[hzc,<-h2];exact hst
       ·omega
    ·exact h.elim
   ·exact h.elim
  ·exact h.elim
 ·exact h.elim
end
theorem cO{i:Nat}:∀{h:List (Nat×AO)},bW i h=true↔ ∃p∈h,p.1=i
 |[]=>by simp[bW]
 |(k,o)::l=>by
  simp only[bW,Bool.or_eq_true,cO (h:=l),List.mem_cons];constructor
  ·rintro(h|⟨p,hp,e⟩)
   ·exact⟨(k,o),.inl rfl,Nat.eq_of_beq_eq_true h⟩
   ·exact⟨p,.inr hp,e⟩
  ·rintro⟨p,rfl|hp,e⟩
   ·left;rw[show k=i from e];simp
   ·exact .inr ⟨p,hp,e⟩
theorem yH{ρ:Nat->Value}{h:List (Nat×AO)}:∀{l:List (Nat×AO)},(l.map (·.1)).Nodup->(ah ρ h).Nodup->(∀p∈l,∃q∈h,q.1=p.1)->(ah ρ l).Nodup
 |[],_,_,_=>by simp[ah]
 |p::l,hn,hh,hs=>by
  have hn':=List.nodup_cons.1 hn;have ih:=yH hn'.2 hh (λ q hq=>hs q (List.mem_cons_of_mem _ hq));rw[aT,List.nodup_append];obtain⟨p',hp',e1⟩:=hs p List.mem_cons_self;refine⟨by rw[<-e1];exact kV hh hp',ih,λ x hx y hy e=> ?_⟩;subst e;obtain⟨q,hq,hqe⟩:=aU.1 hy;obtain⟨q',hq',e2⟩:=hs q (List.mem_cons_of_mem _ hq);have:=gJ hh p' hp' q' hq' (by rw[e1];exact hx) (by rw[e2];exact hqe);exact hn'.1 (List.mem_map.2 ⟨q,hq,by rw[<-e2,<-this,e1]⟩)
theorem Ll{st:AS}:∀{h:List (Nat×AO)},RS st h-> ∀p∈h,aQ p.1 st.heap=some p.2
 |[],_,p,hp=>by cases hp
 |(k,o)::l,h,p,hp=>by
  rcases List.mem_cons.1 hp with rfl|hp
  ·exact h.1
  ·exact Ll h.2 p hp
theorem pY{d:Nat}{hin:List (Nat×AO)}{p:Nat×AO}:∀{h:List (Nat×AO)},p∈sN d hin h->p∈h/\p.1≠d/\bW p.1 hin=false
 |[],hp=>by cases hp
 |(k,o)::l,hp=>by
  simp only[sN]at hp;cases hb:(Nat.beq k d||bW k hin)with
  |true=>
   rw[hb]at hp;have:=pY hp;exact⟨List.mem_cons_of_mem _ this.1,this.2⟩
  |false=>
   rw[hb]at hp;rcases List.mem_cons.1 hp with rfl|hp
   ·simp only[Bool.or_eq_false_iff]at hb;exact⟨List.mem_cons_self,λ e=>(by rw[show k=d from e]at hb;simp at hb),hb.2⟩
   ·have:=pY hp;exact⟨List.mem_cons_of_mem _ this.1,this.2⟩
theorem Hg{d:Nat}{hin:List (Nat×AO)}(ρ:Nat->Value):∀h:List (Nat×AO),(ah ρ (sN d hin h)).Sublist (ah ρ h)
 |[]=>by simp[sN,ah]
 |(k,o)::l=>by
  have ih:=Hg (d:=d) (hin:=hin) ρ l;simp only[sN];cases(Nat.beq k d||bW k hin)with
  |true=>rw[aT];exact ih.trans (List.sublist_append_right _ _)
  |false=>rw[cond_false,aT,aT];exact List.Sublist.append (List.Sublist.refl _) ih
theorem lX{h:List (Nat×AO)}:∀{l:List (Nat×AO)},iF h l=true-> ∀p∈l,Vg h p.2=true
 |[],_,p,hp=>by cases hp
 |(k,o)::l,hc,p,hp=>by
  simp only[iF,Bool.and_eq_true]at hc;rcases List.mem_cons.1 hp with rfl|hp
  ·exact hc.1
  ·exact lX hc.2 p hp
theorem vV{d:Nat}{hin:List (Nat×AO)}:∀{l:List (Nat×AO)},uq d hin l=true-> ∀p∈l,(∃q∈hin,q.1=p.1)\/p.1=d
 |[],_,p,hp=>by cases hp
 |(k,o)::l,hc,p,hp=>by
  simp only[uq,Bool.and_eq_true,Bool.or_eq_true]at hc;rcases List.mem_cons.1 hp with rfl|hp
  ·exact hc.1.imp (λ h=>cO.1 h) (λ h=>Nat.eq_of_beq_eq_true h)
  ·exact vV hc.2 p hp
theorem C0.over{Y:CX}(hk:∀b,X.keep b->Y.keep b)(hm:Y.w=X.w)(hρ:∀i,bW i h=true->Y.ρ i=X.ρ i){av:AV}(hr:RQ h av=true)(hc:C0 X av u):C0 Y av u:=by
 have hmm:∀b,X.keep b->Y.w.heap[b]? =X.w.heap[b]? :=λ _ _=>by rw[hm]
 cases av with
 |own id=>exact(show u=fM (X.ρ id)from hc).trans (congrArg fM (hρ id hr)).symm
 |dP id s j k=>obtain⟨b,n,c,h1,h2⟩:=hc;exact⟨b,n,c,(hρ id hr).trans h1,h2⟩
 |jm id s j k=>exact Or.imp (λ⟨b,c,h1,h2⟩=>⟨b,c,(congrArg (λ v=>oZ (fM v)) (hρ id hr)).trans h1,h2⟩) _root_.id hc
 |box id off=>obtain⟨b,h1,h2⟩:=hc;exact⟨b,(congrArg fM (hρ id hr)).trans h1,h2⟩
 |cf gg id off=>obtain⟨b,h1,h2⟩:=hc;exact⟨b,(congrArg fM (hρ id hr)).trans h1,h2⟩
 |el cs k=>
  obtain⟨b,o,us,e,kb,ha,hcell⟩:=hc;exact⟨b,o,us,e,hk b kb,ha.imp (λ _ _=>PC.mono hk hmm),λ j y hj=>(World.cell?_of_block (hmm b kb)).trans (hcell j y hj)⟩
 |sl s n sc f=>exact PC.mono hk hmm hc
 |v x=>exact hc
 |junk=>trivial
 |agg cs=>exact hc
 |bJ cs=>exact hc
 |fn g caps=>exact hc
theorem aN.Bo{R S:AV->Value->Prop}{q:AV->Bool}{xs:List AV}{us:List Value}(h:aN R xs us)(hq:xs.all q=true)(hi:∀x u,q x=true->R x u->S x u):aN S xs us:=
 ⟨h.1,λ i x u hx hu=>hi x u (List.all_eq_true.1 hq x (List.mem_of_getElem? hx)) (h.2 i x u hx hu)⟩
theorem C1.over{X Y:CX}{h:List (Nat×AO)}(hk:∀b,X.keep b->Y.keep b)(hm:Y.w=X.w)(hρ:∀i,bW i h=true->Y.ρ i=X.ρ i){av:AV}{u:Value}(hr:aax h av=true)(hc:C1 X av u):C1 Y av u:=by
 cases av with
 |agg cs=>obtain⟨us,e,ha⟩:=hc;exact⟨us,e,ha.Bo hr λ _ _ q k=>C0.over hk hm hρ q k⟩
 |fn g cs=>obtain⟨us,e,ha⟩:=hc;exact⟨us,e,ha.Bo hr λ _ _ q k=>C0.over hk hm hρ q k⟩
 |own id=>exact C1.sH (C0.over hk hm hρ (av:= .own id) hr hc)
 |dP id s j k=>exact C1.sH (C0.over hk hm hρ (av:= .dP id s j k) hr hc)
 |jm id s j k=>exact C1.sH (C0.over hk hm hρ (av:= .jm id s j k) hr hc)
 |box id k=>exact C1.sH (C0.over hk hm hρ (av:= .box id k) hr hc)
 |cf gg id k=>exact C1.sH (C0.over hk hm hρ (av:= .cf gg id k) hr hc)
 |el cs k=>exact C1.sH (C0.over hk hm hρ (av:= .el cs k) hr hc)
 |sl s n sc f=>exact C1.sH (C0.over hk hm hρ (av:= .sl s n sc f) hr hc)
 |v x=>exact hc
 |junk=>trivial
 |bJ cs=>exact hc
theorem C2.over{X Y:CX}{h:List (Nat×AO)}(hk:∀b,X.keep b->Y.keep b)(hm:Y.w=X.w)(hρ:∀i,bW i h=true->Y.ρ i=X.ρ i){av:AV}{u:Value}(hr:Vf h av=true)(hc:C2 X av u):C2 Y av u:=by
 cases av with
 |bJ vs=>obtain⟨us,e,ha⟩:=hc;exact⟨us,e,ha.Bo hr λ _ _ q k=>C1.over hk hm hρ q k⟩
 |agg cs=>exact C2.kF (C1.over hk hm hρ (av:= .agg cs) hr hc)
 |fn g cs=>exact C2.kF (C1.over hk hm hρ (av:= .fn g cs) hr hc)
 |own id=>exact C2.kF (C1.over hk hm hρ (av:= .own id) hr hc)
 |dP id s j k=>exact C2.kF (C1.over hk hm hρ (av:= .dP id s j k) hr hc)
 |jm id s j k=>exact C2.kF (C1.over hk hm hρ (av:= .jm id s j k) hr hc)
 |box id k=>exact C2.kF (C1.over hk hm hρ (av:= .box id k) hr hc)
 |cf gg id k=>exact C2.kF (C1.over hk hm hρ (av:= .cf gg id k) hr hc)
 |el cs k=>exact C2.kF (C1.over hk hm hρ (av:= .el cs k) hr hc)
 |sl s n sc f=>exact C2.kF (C1.over hk hm hρ (av:= .sl s n sc f) hr hc)
 |v x=>exact hc
 |junk=>trivial
theorem VK{x:AV}(hn:KI x=true)(h:C2 X x u):C1 X x u:=by
 cases x<;>first|exact h|cases hn
theorem bn.over{X Y:CX}{h:List (Nat×AO)}(hk:∀b,X.keep b->Y.keep b)(hm:Y.w=X.w)(hρ:∀i,bW i h=true->Y.ρ i=X.ρ i){p:Nat×AO}(hp:bW p.1 h=true)(hr:Vg h p.2=true)(ho:bn X p.1 p.2):bn Y p.1 p.2:=by
 have hmm:∀b:Nat,Y.w.heap[b]? =X.w.heap[b]? :=λ _=>by rw[hm]
 refine bn.move hk (λ b _=>hmm b) (hρ _ hp) (λ b _=>hmm b) ?_ ho;cases hpo:p.2 with
 |box t cs=>rw[hpo]at hr;exact⟨rfl,λ us ha=>ha.Bo hr λ _ _ q k=>C0.over hk hm hρ q k⟩
 |row=>rfl
 |mp t ks rs=>
  rw[hpo]at hr;refine⟨rfl,rfl,rfl,λ vs hi=>hi.imp λ p hp' i hi'=>congrArg fM (hρ _ ?_)⟩;have:=List.all_eq_true.1 hr p hp';rw[hi']at this;exact this
 |obs o=>rfl
 |rn e cs=>rw[hpo]at hr;exact⟨rfl,rfl,λ us ha=>ha.Bo hr λ _ _ q k=>C0.over hk hm hρ q k⟩
theorem dQ(ρ:Nat->Value)(h k:List (Nat×AO)):ah ρ (h++k)=ah ρ h++ah ρ k:=by
 simp[ah]
theorem gq{ρ':Nat->Value}(e:∀p∈h,ρ' p.1=ρ p.1):ah ρ' h=ah ρ h:=by
 induction h with
 |nil=>rfl
 |cons p h ih=>rw[aT,aT,e p List.mem_cons_self,ih λ q hq=>e q (List.mem_cons_of_mem _ hq)]
section
variable{P:Program}{g:Base}{N:Nat}{bs:List (Array Value)}{ρ:Nat->Value}{a:Act}{w:World}{st:AS}
theorem YJ(R:Rel g N bs ρ a w st){f:FuncId}{bD:List AV}{args:List Value}(hargs:aN (C2 (aB g w ρ st.heap)) bD args){hin hout:List (Nat×AO)}{r:AV}{d:Nat}(hs:au P f hin bD r hout)(hh:RS st hin)
  (hb:(rV (hin.map (·.1))&&bD.all KI&&iF hout hout&&Vf hout r&&uq d hin hout)=true):
  Calls P f args.toArray w λ e w'=> ∃u ρ',e= .returned u/\Rel g N bs ρ' a w' (st.Oz d hin hout)/\C2 (aB g w' ρ' (st.Oz d hin hout).heap) r u:=by
 simp only[Bool.and_eq_true]at hb;obtain⟨⟨⟨⟨hnd,hnt⟩,hcl⟩,hrr⟩,hnm⟩:=hb;have hfind:=Ll hh;have hsub:∀p∈hin,p∈st.heap:=λ p hp=>aA (hfind p hp);have Bq:∀b,b∈ah ρ hin->b∈ah ρ st.heap:=λ b hb=>by
  obtain⟨p,hp,e⟩:=aU.1 hb;exact aU.2 ⟨p,hsub p hp,e⟩
 have aaH:=yH (Bh hnd) R.apart λ p hp=>⟨p,hsub p hp,rfl⟩;refine(hs.2 w (aI g w ρ st.heap) ρ args (λ b h=>h.1) (λ p hp=>R.objs p (hsub p hp)) aaH (λ b hb=>⟨(R.iq (Bq b hb)).1,λ h=>h.2.2 (Bq b hb)⟩) (hargs.Bo hnt λ _ _=>VK)).mono ?_;rintro e w' ⟨u,ρ',rfl,hbel,hfix,hc,oH,hnd',hnew⟩;let Sz:Nat->Value:=λ i=>if bW i hout=true then ρ' i else ρ i
 have e2:∀i,bW i hout=true->Sz i=ρ' i:=λ i h=>by simp only[Sz,if_pos h]
 have acF:∀i,i≠d->Bd (Sz i) (ρ i):=λ i hi=>by
  by_cases h:bW i hout=true
  ·rw[e2 i h];obtain⟨q,hq,eq⟩:=cO.1 h;rcases vV hnm q hq with⟨p,hp,ep⟩|h'
   ·have:=hfix p hp q hq ep.symm;rw[<-eq,<-ep];exact this
   ·exact absurd (eq.symm.trans h') hi
  ·simp only[Sz,if_neg h];exact .refl _
 have hrest:∀p∈sN d hin st.heap,Sz p.1=ρ p.1:=λ p hp=>by
  have h:=pY hp;by_cases hh:bW p.1 hout=true
  ·obtain⟨q,hq,eq⟩:=cO.1 hh;rcases vV hnm q hq with⟨p',hp',ep⟩|h'
   ·have:=h.2.2;rw[<-eq,<-ep,cO.2 ⟨p',hp',rfl⟩]at this;cases this
   ·exact absurd (eq.symm.trans h') h.2.1
  ·simp only[Sz,if_neg hh]
 have hb2:ah Sz (st.Oz d hin hout).heap=ah ρ' hout++ah ρ (sN d hin st.heap):=by
  show ah Sz (hout++nK d (sN d hin st.heap))=_;rw[dQ,mG,gq hrest,gq λ p hp=>e2 p.1 (cO.2 ⟨p,hp,rfl⟩)]
 have EG:=Hg (d:=d) (hin:=hin) ρ st.heap;have hapart:∀b,b∈ah ρ (sN d hin st.heap)->b ∉ ah ρ hin:=by
  intro b hb hb';obtain⟨p,hp,ep⟩:=aU.1 hb;obtain⟨q,hq,eq⟩:=aU.1 hb';have:=gJ R.apart p (pY hp).1 q (hsub q hq) ep eq;have hno:=(pY hp).2.2;rw[this,cO.2 ⟨q,hq,rfl⟩]at hno;cases hno
 have hE:Ext d (aB g w ρ st.heap) (aB g w' Sz (st.Oz d hin hout).heap):=by
  refine⟨λ b hk=>⟨Nat.lt_of_lt_of_le hk.1 hbel.size,hk.2.1, ?_⟩,λ b hk=>hbel.block b hk.1 λ hin'=>hk.2.2 (Bq b hin'),λ i hi=>acF i hi⟩;rw[hb2,List.mem_append];rintro(h|h)
  ·rcases hnew b h with h|h
   ·exact absurd hk.1 (by omega)
   ·exact hk.2.2 (Bq b h)
  ·exact hk.2.2 (EG.subset h)
 have hkY:∀b,(aB (ig w (aI g w ρ st.heap) (λ b=>b∈ah ρ hin)) w' ρ' hout).keep b->(aB g w' Sz (st.Oz d hin hout).heap).keep b:=by
  rintro b ⟨h1,h2,h3⟩;refine⟨h1,λ hlt=> ?_, ?_⟩
  ·rcases h2 (Nat.lt_of_lt_of_le hlt R.below.size)with h|h
   ·exact h.2.1 hlt
   ·exact(R.own b (Bq b h)).elim (λ h=>absurd hlt (by omega)) .inr
  ·rw[hb2,List.mem_append];rintro(h|h)
   ·exact h3 h
   ·have hlt:=(R.iq (EG.subset h)).1;rcases h2 hlt with h'|h'
    ·exact h'.2.2 (EG.subset h)
    ·exact hapart b h h'
 refine⟨u,Sz,rfl,⟨R.size,R.defers, ?_,λ t=> ?_, ?_, ?_, ?_,R.back.map rfl λ _ _=>C2.ext hE⟩,C2.over hkY rfl e2 hrr hc⟩
 ·exact R.below.trans ⟨hbel.os,hbel.tape,hbel.output,hbel.size,λ k hk hM=>hbel.block k (Nat.lt_of_lt_of_le hk R.below.size) λ hin'=>(R.own k (Bq k hin')).elim (λ h=>absurd hk (by omega)) hM⟩
 ·rw[show(st.Oz d hin hout).tmps t=rU d (st.tmps t)from oG rfl st.sl t];exact C2.ext hE (R.tmps t)
 ·intro p hp;rcases List.mem_append.1 hp with hp|hp
  ·exact bn.over hkY rfl e2 (cO.2 ⟨p,hp,rfl⟩) (lX hcl p hp) (oH p hp)
  ·simp only[nK,List.mem_map]at hp;obtain⟨q,hq,rfl⟩:=hp;have hq':=pY hq;refine bn.ext hE (hrest q hq) (λ b hb=> ?_) (R.objs q hq'.1);have hm:b∈ah ρ (sN d hin st.heap):=aU.2 ⟨q,hq,hb⟩;exact hbel.block b (R.iq (EG.subset hm)).1 (hapart b hm)
 ·rw[hb2,List.nodup_append];refine⟨hnd',R.apart.sublist EG,λ x hx y hy e=> ?_⟩;subst e;rcases hnew x hx with h|h
  ·exact absurd (R.iq (EG.subset hy)).1 (by omega)
  ·exact hapart x hy h
 ·intro x hx;rw[hb2,List.mem_append]at hx;rcases hx with hx|hx
  ·rcases hnew x hx with h|h
   ·exact .inl (Nat.le_trans R.below.size h)
   ·exact R.own x (Bq x h)
  ·exact R.own x (EG.subset hx)
end
section
variable{P:Program}{L:Lay}{g:Base}{N:Nat}{bs:List (Array Value)}{ρ:Nat->Value}{a:Act}{w:World}{st:AS}
theorem nR(R:Rel g N bs ρ a w st){id:Nat}{e:TypeId}{s n:Nat}{sc:Bool}{f:Nat->List AV}(hf:aQ id st.heap=some (.row e s n sc f)){k:Nat->Prop}(hk:∀b,aI g w ρ st.heap b->k b)(hb:∀b∈blks (ρ id),k b):
  PC w k (.sl s n sc f) (ρ id):=by
 obtain⟨us,hown,hs0,hfl,hsc,ha⟩:=R.objs _ (aA hf);have hown:w.ownsRow 0 e s (ρ id) n us:=hown;have ha:aN (PC w (aI g w ρ st.heap)) (flat n f) us:=ha;have ha':=ha.imp λ _ _=>PC.mono hk λ _ _=>rfl;rcases hown.2 with⟨hv,hz⟩|⟨b,cap,cur,hv,hB,hh,hnc,hcm,_⟩
 ·rw[hv];subst hz;exact .sl s 0 sc f none 0 us hs0 (Nat.le_refl _) (by simp[maxLen]) hown.1 hfl hsc ha'.2 (.inl rfl)
 ·have hkb:=hb b (by rw[hv];exact List.mem_cons_self);rw[hv];refine .sl s n sc f _ cap us hs0 hnc hcm hown.1 hfl hsc ha'.2 (.inr ⟨b,0,rfl,hkb,λ j u hj=> ?_⟩);have:=hown.cells (g:=b) (by rw[hv];rfl) j u hj;rwa [Addr.add_lit]at this
def Reads(st:AS)(ρ:Nat->Value)(w:World)(k:Nat->Prop)(x:AV):Prop:=
 ∀id e s n sc f,x= .own id->aQ id st.heap=some (.row e s n sc f)->PC w k (.sl s n sc f) (ρ id)
theorem nil_reads{w:World}{k:Nat->Prop}{s:Nat}{sc:Bool}{f:Nat->List AV}(h0:0<s):PC w k (.sl s 0 sc f) (.slice none 0 0):=
 .sl s 0 sc f none 0 [] h0 (Nat.zero_le _) (by simp[maxLen]) (by simp) (λ i hi=>absurd hi (by omega)) (λ _ x hx=>by cases hx) (λ i x u hx=>by simp[flat]at hx) (.inl rfl)
theorem PC.hd{w:World}{k:Nat->Prop}{s n:Nat}{sc:Bool}{f:Nat->List AV}{v:Value}(h:PC w k (.sl s n sc f) v):fM v=v:=by cases h;rfl
theorem xu{k:Nat->Prop}(hk:∀b,aI g w ρ st.heap b->k b){x:AV}{u:Value}(hr:Reads st ρ w k x)(h:C0 (aB g w ρ st.heap) x u):C0 ⟨w,k,λ _=>undef⟩ (Gt st.heap x) u:=by
 cases x with
 |v y=>exact h
 |sl s n sc f=>exact PC.mono hk (λ _ _=>rfl) h
 |own id=>
  simp only[Gt];cases hf:aQ id st.heap with
  |none=>trivial
  |some o=>
   cases o with
   |box t cs=>trivial
   |mp t ks rs=>trivial
   |obs o=>trivial
   |rn e cs=>trivial
   |row e s n sc f=>
    have hu:u=fM (ρ id):=h;rw[hu,PC.hd (hr id e s n sc f rfl hf)];exact hr id e s n sc f rfl hf
 |_=>trivial
theorem YK{k:Nat->Prop}(hk:∀b,aI g w ρ st.heap b->k b){x y:AV}{u:Value}(hs:YC st.heap x y)(hr:Reads st ρ w k x)(h:C0 (aB g w ρ st.heap) x u):C0 ⟨w,k,λ _=>undef⟩ y u:=by
 cases hs with
 |eq=>exact xu hk hr h
 |nil s sc f h0=>
  cases h;exact nil_reads h0
theorem QE{k:Nat->Prop}(hk:∀b,aI g w ρ st.heap b->k b){x y:AV}{u:Value}(hs:RP st.heap x y)(hr:Reads st ρ w k x)(hr':∀cs,x= .agg cs-> ∀c∈cs,Reads st ρ w k c)(h:C2 (aB g w ρ st.heap) x u):C1 ⟨w,k,λ _=>undef⟩ y u:=by
 cases hs with
 |eq=>
  cases x with
  |agg cs=>
   obtain⟨us,rfl,ha⟩:=C2.qW h;refine⟨us,rfl, ?_⟩;refine⟨by simpa using ha.1,λ i y v hy hv=> ?_⟩;rw[List.getElem?_map]at hy;cases hc:cs[i]? with
   |none=>rw[hc]at hy;cases hy
   |some c=>
    rw[hc]at hy;cases hy;exact xu hk (hr' cs rfl c (List.mem_of_getElem? hc)) (ha.2 i c v hc hv)
  |v y=>exact h
  |sl s n sc f=>exact C1.sH (xu (x:= .sl s n sc f) hk hr h)
  |own id=>exact C1.sH (xu (x:= .own id) hk hr h)
  |_=>trivial
 |nil s sc f h0=>
  obtain rfl:=C2.dN h;exact nil_reads h0
 |agg cs ds hl hp=>
  obtain⟨us,rfl,ha⟩:=C2.qW h;refine⟨us,rfl,by rw[<-hl];exact ha.1,λ i y v hy hv=> ?_⟩;have hi:i<cs.length:=by
   rcases Nat.lt_or_ge i cs.length with h'|h'
   ·exact h'
   ·rw[List.getElem?_eq_none (by omega)]at hy;cases hy
  have hc:cs[i]? =some cs[i]:=List.getElem?_eq_getElem hi;exact YK hk (hp i _ y hc hy) (hr' cs rfl _ (List.getElem_mem hi)) (ha.2 i _ v hc hv)
theorem DF{k:Nat->Prop}(hk:∀b,aI g w ρ st.heap b->k b){xs ys:List AV}{us:List Value}(hs:Ea st.heap xs ys)(hr:∀x∈xs,Reads st ρ w k x/\ ∀cs,x= .agg cs-> ∀c∈cs,Reads st ρ w k c)(h:aN (C2 (aB g w ρ st.heap)) xs us):aN (C1 ⟨w,k,λ _=>undef⟩) ys us:=by
 refine⟨by rw[<-hs.1];exact h.1,λ i y u hy hu=> ?_⟩;have hi:i<xs.length:=by
  rcases Nat.lt_or_ge i xs.length with h'|h'
  ·exact h'
  ·rw[List.getElem?_eq_none (by rw[<-hs.1];exact h')]at hy;cases hy
 have hx:xs[i]? =some xs[i]:=List.getElem?_eq_getElem hi;have:=hr _ (List.getElem_mem hi);exact QE hk (hs.2 i _ y hx hy) this.1 this.2 (h.2 i _ u hx hu)
structure Later(g:Base)(ρ:Nat->Value)(w:World)(st st':AS):Prop where
 keep:∀b,aI g w ρ st.heap b->aI g w ρ st'.heap b
 rows:∀id e s n sc f,aQ id st.heap=some (.row e s n sc f)->aQ id st'.heap=some (.row e s n sc f)\/PC w (aI g w ρ st'.heap) (.sl s n sc f) (ρ id)
theorem Later.refl:Later g ρ w st st:=⟨λ _ h=>h,λ _ _ _ _ _ _ h=> .inl h⟩
theorem Later.trans{s1 s2 s3:AS}(h:Later g ρ w s1 s2)(k:Later g ρ w s2 s3):Later g ρ w s1 s3:=
 ⟨λ b hb=>k.keep b (h.keep b hb),λ id e s n sc f hf=>by
  rcases h.rows id e s n sc f hf with h1|h1
  ·exact k.rows id e s n sc f h1
  ·exact .inr (PC.mono k.keep (λ _ _=>rfl) h1)⟩
theorem CO{id i:Nat}{a:AV}{e:TypeId}{s n:Nat}{sc:Bool}{f:Nat->List AV}(hne:i≠id):∀{h:List (Nat×AO)},aQ i h=some (.row e s n sc f)->aQ i ((h.filter λ p=> !Nat.beq p.1 id).map λ p=>(p.1,p.2.thaw id a))=some (.row e s n sc f)
 |[],h=>by cases h
 |p::h,hf=>by
  simp only[aQ]at hf;rw[List.filter_cons];cases hb:Nat.beq p.1 i with
  |true=>
   rw[hb]at hf;simp only[cond_true,Option.some.injEq]at hf;have hpi:=Nat.eq_of_beq_eq_true hb;have:Nat.beq p.1 id=false:=beq_false (by rw[hpi];exact hne);rw[this];simp only[Bool.not_false,if_true,List.map_cons,aQ,hb,cond_true,hf];rfl
  |false=>
   rw[hb]at hf;have ih:=CO (a:=a) hne (h:=h) hf;split
   ·simp only[List.map_cons,aQ,hb,cond_false];exact ih
   ·exact ih
theorem QF(R:Rel g N bs ρ a w st)(x:AV):Rel g N bs ρ a w (Jd st x)/\Later g ρ w st (Jd st x)/\ ∀id e s n sc f,x= .own id->aQ id st.heap=some (.row e s n sc f)->PC w (aI g w ρ (Jd st x).heap) (.sl s n sc f) (ρ id):=by
 cases x with
 |own id=>
  simp only[Jd];cases hf:aQ id st.heap with
  |none=>exact⟨R,Later.refl,λ id' e s n sc f hx hf'=>by cases hx;rw[hf]at hf';cases hf'⟩
  |some o=>
   cases o with
   |box t cs=>exact⟨R,Later.refl,λ id' e s n sc f hx hf'=>by cases hx;rw[hf]at hf';cases hf'⟩
   |mp t ks rs=>exact⟨R,Later.refl,λ id' e s n sc f hx hf'=>by cases hx;rw[hf]at hf';cases hf'⟩
   |obs o=>exact⟨R,Later.refl,λ id' e s n sc f hx hf'=>by cases hx;rw[hf]at hf';cases hf'⟩
   |rn e cs=>exact⟨R,Later.refl,λ id' e s n sc f hx hf'=>by cases hx;rw[hf]at hf';cases hf'⟩
   |row e s n sc f=>
    obtain⟨R',hrow⟩:=R.freeze hf;refine⟨R',⟨λ b hb=> ?_,λ i e' s' n' sc' f' hf'=> ?_⟩,λ id' e' s' n' sc' f' hx hf'=>by cases hx;rw[hf]at hf';cases hf';exact hrow⟩
    ·refine⟨hb.1,hb.2.1,λ hin=>hb.2.2 ?_⟩;have:ah ρ (st.freeze id s n sc f).heap=ah ρ (st.heap.filter λ p=> !Nat.beq p.1 id):=by simp[AS.freeze,ah,List.flatMap_map]
     rw[this]at hin;exact fQ hin
    ·by_cases e:i=id
     ·subst e;rw[hf]at hf';cases hf';exact .inr hrow
     ·exact .inl (CO e hf')
 |_=>exact⟨R,Later.refl,λ id e s n sc f hx=>by cases hx⟩
theorem Lm:∀(l:List AV){st:AS},Rel g N bs ρ a w st->Rel g N bs ρ a w (l.foldl Jd st)/\Later g ρ w st (l.foldl Jd st)/\ ∀x∈l,∀id e s n sc f,x= .own id->aQ id st.heap=some (.row e s n sc f)->PC w (aI g w ρ (l.foldl Jd st).heap) (.sl s n sc f) (ρ id)
 |[],st,R=>⟨R,Later.refl,λ x hx=>by cases hx⟩
 |x::l,st,R=>by
  obtain⟨R1,h1,k1⟩:=QF R x;obtain⟨R2,h2,k2⟩:=Lm l R1;refine⟨R2,h1.trans h2,λ y hy id e s n sc f hx hf=> ?_⟩;rcases List.mem_cons.1 hy with rfl|hy'
  ·exact PC.mono h2.keep (λ _ _=>rfl) (k1 id e s n sc f hx hf)
  ·rcases h1.rows id e s n sc f hf with h|h
   ·exact k2 y hy' id e s n sc f hx h
   ·exact PC.mono h2.keep (λ _ _=>rfl) h
theorem aaI(R:Rel g N bs ρ a w st)(x:AV):Rel g N bs ρ a w (G5 st x)/\Later g ρ w st (G5 st x)/\Reads st ρ w (aI g w ρ (G5 st x).heap) x/\ ∀cs,x= .agg cs-> ∀c∈cs,Reads st ρ w (aI g w ρ (G5 st x).heap) c:=by
 cases x with
 |agg cs=>
  obtain⟨R1,h1,k1⟩:=Lm cs R;exact⟨R1,h1,(λ id e s n sc f hx=>by cases hx),λ cs' e c hc=>by cases e;exact k1 c hc⟩
 |own id=>
  obtain⟨R1,h1,k1⟩:=QF R (.own id);exact⟨R1,h1,k1,λ cs e=>by cases e⟩
 |_=>exact⟨R,Later.refl,(λ id e s n sc f hx=>by cases hx),λ cs e=>by cases e⟩
theorem DI:∀(l:List AV){st:AS},Rel g N bs ρ a w st->Rel g N bs ρ a w (sO st l)/\Later g ρ w st (sO st l)/\ ∀x∈l,Reads st ρ w (aI g w ρ (sO st l).heap) x/\ ∀cs,x= .agg cs-> ∀c∈cs,Reads st ρ w (aI g w ρ (sO st l).heap) c
 |[],st,R=>⟨R,Later.refl,λ x hx=>by cases hx⟩
 |x::l,st,R=>by
  obtain⟨R1,h1,k1,k1'⟩:=aaI R x;obtain⟨R2,h2,k2⟩:=DI l R1;have lift:∀{y:AV},Reads st ρ w (aI g w ρ (G5 st x).heap) y->Reads st ρ w (aI g w ρ (sO (G5 st x) l).heap) y:=
   λ h id e s n sc f hx hf=>PC.mono h2.keep (λ _ _=>rfl) (h id e s n sc f hx hf)
  have aaf:∀{y:AV},Reads (G5 st x) ρ w (aI g w ρ (sO (G5 st x) l).heap) y->Reads st ρ w (aI g w ρ (sO (G5 st x) l).heap) y:=by
   intro y h id e s n sc f hx hf;rcases h1.rows id e s n sc f hf with h'|h'
   ·exact h id e s n sc f hx h'
   ·exact PC.mono h2.keep (λ _ _=>rfl) h'
  refine⟨R2,h1.trans h2,λ y hy=> ?_⟩;rcases List.mem_cons.1 hy with rfl|hy'
  ·exact⟨lift k1,λ cs e c hc=>lift (k1' cs e c hc)⟩
  ·exact⟨aaf (k2 y hy').1,λ cs e c hc=>aaf ((k2 y hy').2 cs e c hc)⟩
theorem EH{X Y:CX}{d:Option Nat}{x:AV}{u:Value}(hr:ok0 d x=true)(hs:Vh x=true\/(∀b,X.keep b->Y.keep b))(hw:Y.w=X.w)(hd:∀i,d=some i->Y.ρ i=X.ρ i)(h:C0 X x u):C0 Y x u:=by
 cases x with
 |v y=>exact h
 |sl s n sc f=>
  rcases hs with h1|h1
  ·cases h1
  ·exact PC.mono h1 (λ b _=>by rw[hw]) h
 |own i=>
  cases d with
  |none=>cases hr
  |some j=>
   simp only[ok0]at hr;have:=Nat.eq_of_beq_eq_true hr;subst this;show u=fM (Y.ρ i);rw[hd i rfl];exact h
 |_=>cases hr
theorem zZ{X Y:CX}{d:Option Nat}{x:AV}{u:Value}(hr:ok1 d x=true)(hs:Vj x=true\/(∀b,X.keep b->Y.keep b))(hw:Y.w=X.w)(hd:∀i,d=some i->Y.ρ i=X.ρ i)(h:C1 X x u):C1 Y x u:=by
 cases x with
 |agg cs=>
  obtain⟨us,e,ha⟩:=h;refine⟨us,e,ha.1,λ i y v hy hv=>EH (d:=d) (List.all_eq_true.1 hr y (List.mem_of_getElem? hy)) ?_ hw hd (ha.2 i y v hy hv)⟩;rcases hs with h1|h1
  ·exact .inl (List.all_eq_true.1 h1 y (List.mem_of_getElem? hy))
  ·exact .inr h1
 |v y=>exact h
 |sl s n sc f=>exact EH (x:= .sl s n sc f) hr hs hw hd h
 |own i=>exact EH (x:= .own i) hr hs hw hd h
 |_=>cases hr
theorem Aa{X Y:CX}{d:Option Nat}{x:AV}{u:Value}(hr:ok2 d x=true)(hs:mJ x=true\/(∀b,X.keep b->Y.keep b))(hw:Y.w=X.w)(hd:∀i,d=some i->Y.ρ i=X.ρ i)(h:C2 X x u):C2 Y x u:=by
 cases x with
 |bJ cs=>
  obtain⟨us,e,ha⟩:=h;refine⟨us,e,ha.1,λ i y v hy hv=>zZ (d:=d) (List.all_eq_true.1 hr y (List.mem_of_getElem? hy)) ?_ hw hd (ha.2 i y v hy hv)⟩;rcases hs with h1|h1
  ·exact .inl (List.all_eq_true.1 h1 y (List.mem_of_getElem? hy))
  ·exact .inr h1
 |agg cs=>exact C2.kF (zZ (x:= .agg cs) hr hs hw hd h)
 |v y=>exact h
 |sl s n sc f=>exact C2.kF (zZ (x:= .sl s n sc f) hr hs hw hd h)
 |own i=>exact C2.kF (zZ (x:= .own i) hr hs hw hd h)
 |_=>cases hr
theorem uy{f:FuncId}(h:Enters P f)(args:Array Value)(w:World):(callFunc f args).run P w= .ok (.enter f args) w:=by
 obtain⟨fn,c,h1,h2,h3⟩:=h;have h2':¬fn.name= "runtime.NumGoroutine" :=λ e=>by rw[e]at h2;simp at h2
 simp[callFunc,h1,h2',h3,Sem.run,program]
theorem xw(R:Rel g N bs ρ a w st){f:FuncId}{bD:List AV}{args:List Value}(hargs:aN (C2 (aB g w ρ st.heap)) bD args){L:Lay}{W:Walk}{K:AV->AS->Prop}{d:Nat}(h:fV P L W d f bD st K)(hin:∀lv fn c,P.funcs[f]? =some fn->(fn.name== "runtime.NumGoroutine")=false->fn.body=some c->Nat.ble bD.length fn.ntmps=true->W fn.ntmps lv c (λ e st'=>match e with| .exit _=>False| .normal=>qO L st' fn.results.toList (λ x=>xW (st'.out) (K x))| .ret=>qO L st' fn.results.toList (λ x=>xW (st'.out) (K x))) (st.into bD)->Calls P f args.toArray w λ e w'=> ∃u x st' ρ',e= .returned u/\K x st'/\Rel g N bs ρ' a w' st'/\C2 (aB g w' ρ' st'.heap) x u):
  Enters P f/\Calls P f args.toArray w λ e w'=> ∃u x st' ρ',e= .returned u/\K x st'/\Rel g N bs ρ' a w' st'/\C2 (aB g w' ρ' st'.heap) x u:=by
 have mid:∀(frozen:Bool),∃k:Nat->Prop,∃st1,st1=(bif frozen then st else sO st bD)/\Rel g N bs ρ a w st1/\(∀b,k b->b<w.heap.size)/\(∀b,aI g w ρ st.heap b->k b)/\(∀x∈bD,Reads st ρ w k x/\ ∀cs,x= .agg cs-> ∀c∈cs,Reads st ρ w k c)/\(frozen=false-> ∀b,k b->aI g w ρ st1.heap b):=by
  intro frozen;cases frozen with
  |true=>
   refine⟨λ b=>b<w.heap.size,st,rfl,R,λ b h=>h,λ b h=>h.1,λ x hx=> ?_,λ h=>by cases h⟩;have rd:∀y:AV,Reads st ρ w (λ b=>b<w.heap.size) y:=λ y id e s n sc f hy hf=>
    nR R hf (λ b h=>h.1) (λ b hb=>(R.iq (aU.2 ⟨_,aA hf,hb⟩)).1)
   exact⟨rd x,λ cs e c hc=>rd c⟩
  |false=>
   obtain⟨R1,h1,k1⟩:=DI bD R;exact⟨aI g w ρ (sO st bD).heap,sO st bD,rfl,R1,λ b h=>h.1,h1.keep,k1,λ _ b h=>h⟩
 cases h with
 |inl lv fn c hf hn hb hsz h=>
  rw[Vo]at h;exact⟨⟨fn,c,hf,hn,hb⟩,hin lv fn c hf hn hb hsz h⟩
 |Oz hin hout r hs hh hb hK=>
  refine⟨hs.1,(YJ R hargs hs hh hb).mono ?_⟩;rintro e w' ⟨u,ρ',rfl,R',hc⟩;exact⟨u,r,_,ρ',rfl,hK,R',hc⟩
 |sem hE hs=>exact⟨hE,hs g N bs ρ a w args R hargs⟩
 |plain bb r hs hsub hr hK=>
  obtain⟨k,st1,e1,R1,hk1,hk2,hk3,hk4⟩:=mid (mJ r);rw[<-e1]at hK;refine⟨hs.1,(hs.2 w k args hk1 (DF hk2 hsub hk3 hargs)).mono ?_⟩;rintro e w' ⟨u,Gv,rfl,hb,hc,_,_,_⟩;refine⟨u,r,st1,ρ,rfl,hK,R1.world hb, ?_⟩;refine Aa (X:=aB (base0 w k) w' Gv []) (d:=none) hr ?_ rfl (λ i h=>by cases h) hc;cases hq:mJ r with
  |true=>exact .inl rfl
  |false=>
   refine .inr λ b hbk=> ?_;have hkb:b<w.heap.size->aI g w ρ st1.heap b:=λ h=>hk4 hq b ((hbk.2.1 h).elim id False.elim);refine⟨hbk.1,λ hlt=>(hkb (by have:=R.below.size;omega)).2.1 hlt,λ hin=> ?_⟩;have:=(R1.iq hin).1;exact(hkb this).2.2 hin
 |fresh bb r e s n sc f' hs hsub hr hK=>
  obtain⟨k,st1,e1,R1,hk1,hk2,hk3,hk4⟩:=mid (mJ r&&sc);rw[<-e1]at hK;refine⟨hs.1,(hs.2 w k args hk1 (DF hk2 hsub hk3 hargs)).mono ?_⟩;rintro e0 w' ⟨u,Gv,rfl,hb,hc,ho,hnd,hnew⟩;obtain⟨us,hown,hs0,hfl,hsc,ha⟩:=ho _ (List.mem_singleton.2 rfl);have hown:w'.ownsRow 0 e s (Gv d) n us:=hown;have hBw:=R.below.size;have hkeep:(mJ r&&sc)=false-> ∀b,aI (base0 w k) w' Gv [(d,.row e s n sc f')] b->aI g w' (dV ρ d (Gv d)) (st1.obj d d (.row e s n sc f')).heap b:=by
   intro hq b hbk;have hkb:b<w.heap.size->aI g w ρ st1.heap b:=λ h=>hk4 hq b ((hbk.2.1 h).elim id False.elim);refine⟨hbk.1,λ hlt=>(hkb (by omega)).2.1 hlt,λ hin=> ?_⟩;have hbl:ah (dV ρ d (Gv d)) (st1.obj d d (.row e s n sc f')).heap=blks (Gv d)++ah ρ (gone d d st1.heap):=by
    show ah _ (_::_)=_;rw[aT,vK,mG]
    ·simp[dV]
    ·intro p hp;simp only[nK,List.mem_map]at hp;obtain⟨q,hq,rfl⟩:=hp;exact(sK.1 hq).2.1
   rw[hbl,List.mem_append]at hin;rcases hin with h1|h1
   ·exact hbk.2.2 (by rw[aT];exact List.mem_append_left _ h1)
   ·have hin':=fQ h1;exact(hkb (R1.iq hin').1).2.2 hin'
  have hblk:∀b∈blks (Gv d),w.heap.size<=b:=λ b hb'=>hnew b (aU.2 ⟨_,List.mem_singleton.2 rfl,hb'⟩);have R2:Rel g N bs (dV ρ d (Gv d)) a w' (st1.obj d d (.row e s n sc f')):=by
   refine R1.obj d d (R.below.then hb hBw) hb.size (λ b hlt _=>hb.block b hlt) (λ b hb'=> .inl (hblk b hb')) (λ hE=> ?_) (nM hown);refine⟨us,by simpa[aB,dV]using hown,hs0,hfl,hsc, ?_⟩;cases hq:(mJ r&&sc)with
   |true=>
    simp only[Bool.and_eq_true]at hq;refine⟨ha.1,λ i x u hx hu=> ?_⟩;obtain⟨y,rfl⟩:=hsc hq.2 x (List.mem_of_getElem? hx);have:=ha.2 i _ u hx hu;cases this with
    |v _ h1=>exact .v _ h1
   |false=>exact ha.imp λ _ _=>PC.mono (hkeep hq) λ _ _=>rfl
  refine⟨u,r,_,_,rfl,hK,R2, ?_⟩;refine Aa (X:=aB (base0 w k) w' Gv [(d,.row e s n sc f')]) (d:=some d) hr ?_ rfl (λ i h=>by cases h;simp[aB,dV]) hc;cases hq:(mJ r&&sc)with
  |true=>simp only[Bool.and_eq_true]at hq;exact .inl hq.1
  |false=>exact .inr (hkeep hq)
end
section
variable{P:Program}{L:Lay}{g:Base}{N:Nat}{bs:List (Array Value)}{ρ:Nat->Value}{a:Act}{w:World}{st:AS}
def OJ(tmps:Array Value):ResultVar->Sem Value
 | .tmp t=>pure (tmps.getD t undef)
 | .cell a t=>do loadVar t (<-asAddr (tmps.getD a undef))
theorem OL(fn:Func)(tmps:Array Value):results fn tmps=(do let vs<-fn.results.mapM (OJ tmps);pure (if h:vs.size=1 then vs[0]else .tuple vs)):=by
 unfold results;congr 2
theorem SA{P:Program}{w:World}{t:TypeId}{u:Value}:∀{v:Value},(Instr.loadAt t v).run P w= .ok u w->((do loadVar t (<-asAddr v):Sem Value)).run P w= .ok u w:=by
 intro v h3;cases v with
 |pointer q=>
  cases q with
  |none=>simp[Instr.loadAt,Instr.sureAddr]at h3
  |some q=>simpa[Instr.loadAt,Instr.sureAddr,asAddr]using h3
 |_=>simp[Instr.loadAt,Instr.sureAddr]at h3
theorem SB(hL:bQ P L)(R:Rel g N bs ρ a w st){r:ResultVar}{K:AV->Prop}(h:aae L st r K):
  ∃x u,K x/\C2 (aB g w ρ st.heap) x u/\(OJ a.tmps r).run P w= .ok u w:=by
 cases r with
 |tmp t=>exact⟨_,_,h,R.tmps t,rfl⟩
 |cell p t=>
  obtain⟨x,u,h1,h2,h3⟩:=wZ hL R (R.tmps p) h;exact⟨x,u,h1,h2,SA h3⟩
theorem Hl(hL:bQ P L)(R:Rel g N bs ρ a w st):∀{rs:List ResultVar}{K:List AV->Prop},Vm L st rs K->
 ∃xs us,K xs/\aN (C2 (aB g w ρ st.heap)) xs us/\(rs.mapM (OJ a.tmps)).run P w= .ok us w
 |[],K,h=>⟨[],[],h,aN.nil,rfl⟩
 |r::rs,K,h=>by
  obtain⟨x,u,h1,h2,h3⟩:=SB hL R h;obtain⟨xs,us,k1,k2,k3⟩:=Hl hL R h1;refine⟨x::xs,u::us,k1,aN.cons h2 k2, ?_⟩;simp only[List.mapM_cons,Sem.run_bind,h3,Result.andThen_ok,k3,Sem.run_pure]
theorem C1.KL{X:CX}{x:AV}{u:Value}(h:C2 X x u):C1 X (KL x) u:=by
 cases x<;>first|exact h|trivial
theorem DJ(hL:bQ P L)(R:Rel g N bs ρ a w st){fn:Func}{K:AV->Prop}(h:qO L st fn.results.toList K):
  ∃x u,K x/\C2 (aB g w ρ st.heap) x u/\(results fn a.tmps).run P w= .ok u w:=by
 unfold qO at h;obtain⟨xs,us,h1,h2,h3⟩:=Hl hL R h;have hr:(results fn a.tmps).run P w= .ok (if h:us.toArray.size=1 then us.toArray[0]else .tuple us.toArray) w:=by
  rw[OL,Array.mapM_eq_mapM_toList];simp only[Sem.run_bind,Sem.run_map,h3,Result.andThen_ok];rfl
 have hl:=h2.1;match xs,us,h1,h2,hl,hr with
 |[],[],h1,h2,_,hr=>exact⟨.bJ [],.tuple #[],h1,⟨[],rfl,aN.nil⟩,by rw[hr];rfl⟩
 |[x],[u],h1,h2,_,hr=>exact⟨x,u,h1,h2.2 0 _ _ rfl rfl,by rw[hr];rfl⟩
 |x::y::xs,u::v::us,h1,h2,_,hr=>exact⟨.bJ ((x::y::xs).map KL),.tuple (u::v::us).toArray,h1,⟨_,rfl,h2.mD λ _ _=>C1.KL⟩,by rw[hr];rfl⟩
theorem qX{X:CX}{bD:List AV}{args:List Value}(hargs:aN (C2 X) bD args){n:Nat}(hsz:bD.length<=n):∀t,C2 X (xU (zH 0 bD) t) ((args.toArray++Array.replicate (n-args.toArray.size) undef).getD t undef):=by
 intro t;have hlen:args.length=bD.length:=hargs.1.symm;have abS:∀(l:List AV)(k t:Nat),xU (zH k l) (k+t)=l.getD t .junk:=by
  intro l;induction l with
  |nil=>intro k t;simp[zH,xU]
  |cons x l ih=>
   intro k t;simp only[zH,xU];cases t with
   |zero=>simp
   |succ t=>
    have e:Nat.beq (k+(t+1)) k=false:=beq_false (by omega);rw[e,cond_false,show k+(t+1)=(k+1)+t by omega,ih];simp
 have hen:=abS bD 0 t;rw[Nat.zero_add]at hen;rw[hen];by_cases ht:t<args.length
 ·have e1:(args.toArray++Array.replicate (n-args.toArray.size) undef).getD t undef=args[t]:=by
   rw[<-Array.getElem_eq_getD (h:=by simp;omega)];simp[ht]
  have e2:bD.getD t .junk=bD[t]'(by omega):=by
   rw[List.getD,List.getElem?_eq_getElem (by omega)];rfl
  rw[e1,e2];exact hargs.2 t _ _ (List.getElem?_eq_getElem (by omega)) (List.getElem?_eq_getElem ht)
 ·have e1:(args.toArray++Array.replicate (n-args.toArray.size) undef).getD t undef=undef:=by
   by_cases h2:t<n
   ·have h3:(args.toArray++Array.replicate (n-args.toArray.size) undef)[t]? =some undef:=by
     rw[Array.getElem?_append_right (by simpa using Nat.le_of_not_lt ht),Array.getElem?_replicate,if_pos (by simp;omega)]
    rw[Array.getD_eq_getD_getElem?,h3];rfl
   ·rw[Array.getD_eq_getD_getElem?,Array.getElem?_eq_none (by simp;omega)];rfl
  have e2:bD.getD t .junk= .junk:=by
   rw[List.getD,List.getElem?_eq_none (by omega)];rfl
  rw[e1,e2];trivial
end
def OM:List (Nat×Nat)->Nat->Option Nat
 |[],_=>none
 |(k,i)::r,x=>bif Nat.beq x i then some k else OM r x
def mV(σ:List (Nat×Nat))(ρ:Nat->Value):Nat->Value:=λ i=>match OM σ i with|some k=>ρ k|none=>ρ i
theorem qc:∀{σ:List (Nat×Nat)}{k i:Nat},jV σ k=some i->(k,i)∈σ
 |[],_,_,h=>by cases h
 |(k',i')::r,k,i,h=>by
  simp only[jV]at h;cases hb:Nat.beq k k' with
  |true=>
   rw[hb]at h;simp only[cond_true,Option.some.injEq]at h;rw[Nat.eq_of_beq_eq_true hb,<-h];exact List.mem_cons_self
  |false=>
   rw[hb]at h;exact List.mem_cons_of_mem _ (qc h)
theorem Ho:∀{σ:List (Nat×Nat)}{i:Nat},RY σ i=false->OM σ i=none
 |[],_,_=>rfl
 |(k',i')::r,i,h=>by
  simp only[RY,Bool.or_eq_false_iff]at h;simp only[OM,h.1,cond_false];exact Ho h.2
theorem xA:∀{σ:List (Nat×Nat)}{k i:Nat},(σ.map (·.2)).Nodup->(k,i)∈σ->OM σ i=some k
 |[],_,_,_,h=>by cases h
 |(k',i')::r,k,i,hn,h=>by
  have hn':=List.nodup_cons.1 hn;simp only[OM];rcases List.mem_cons.1 h with h|h
  ·cases h;simp
  ·have hne:i≠i':=λ e=>hn'.1 (List.mem_map.2 ⟨(k,i),h,e⟩);rw[beq_false hne,cond_false];exact xA hn'.2 h
theorem EI{σ:List (Nat×Nat)}(hn:(σ.map (·.2)).Nodup){k i:Nat}(h:kK σ k=some i):mV σ ρ i=ρ k:=by
 unfold kK at h;cases hl:jV σ k with
 |some j=>
  rw[hl]at h;simp only[Option.some.injEq]at h;subst h;simp only[mV,xA hn (qc hl)]
 |none=>
  rw[hl]at h;dsimp only at h;cases ht:RY σ k with
  |true=>rw[ht]at h;cases h
  |false=>
   rw[ht]at h;simp only[cond_false,Option.some.injEq]at h;subst h;simp only[mV,Ho ht]
section
variable{σ:List (Nat×Nat)}{X Y:CX}
theorem C0.ren(hk:∀b,X.keep b->Y.keep b)(hm:Y.w=X.w)(hρ:∀k i,kK σ k=some i->Y.ρ i=X.ρ k){av:AV}{u:Value}(h:C0 X av u):C0 Y (pJ σ av) u:=by
 have hmm:∀b,X.keep b->Y.w.heap[b]? =X.w.heap[b]? :=λ _ _=>by rw[hm]
 cases av with
 |own id=>
  simp only[pJ];cases e:kK σ id with
  |some i=>exact(show u=fM (X.ρ id)from h).trans (congrArg fM (hρ id i e)).symm
  |none=>trivial
 |dP id s j k=>
  simp only[pJ];cases e:kK σ id with
  |some i=>
   obtain⟨b,n,c,h1,h2⟩:=h;exact⟨b,n,c,(hρ id i e).trans h1,h2⟩
  |none=>trivial
 |jm id s j k=>
  simp only[pJ];cases e:kK σ id with
  |some i=>
   exact Or.imp (λ⟨b,c,h1,h2⟩=>⟨b,c,(congrArg (λ v=>oZ (fM v)) (hρ id i e)).trans h1,h2⟩) _root_.id h
  |none=>trivial
 |box id off=>
  simp only[pJ];cases e:kK σ id with
  |some i=>
   obtain⟨b,h1,h2⟩:=h;exact⟨b,(congrArg fM (hρ id i e)).trans h1,h2⟩
  |none=>trivial
 |cf gg id off=>
  simp only[pJ];cases e:kK σ id with
  |some i=>
   obtain⟨b,h1,h2⟩:=h;exact⟨b,(congrArg fM (hρ id i e)).trans h1,h2⟩
  |none=>trivial
 |el cs k=>
  obtain⟨b,o,us,e,kb,ha,hc⟩:=h;exact⟨b,o,us,e,hk b kb,ha.imp (λ _ _=>PC.mono hk hmm),λ j y hj=>(World.cell?_of_block (hmm b kb)).trans (hc j y hj)⟩
 |sl s n sc f=>exact PC.mono hk hmm h
 |v x=>exact h
 |junk=>trivial
 |agg cs=>exact h
 |bJ cs=>exact h
 |fn g caps=>exact h
theorem C1.ren(hk:∀b,X.keep b->Y.keep b)(hm:Y.w=X.w)(hρ:∀k i,kK σ k=some i->Y.ρ i=X.ρ k){av:AV}{u:Value}(h:C1 X av u):C1 Y (KN σ av) u:=by
 cases av with
 |agg cs=>obtain⟨us,e,ha⟩:=h;exact⟨us,e,ha.mD λ _ _=>C0.ren hk hm hρ⟩
 |fn g cs=>obtain⟨us,e,ha⟩:=h;exact⟨us,e,ha.mD λ _ _=>C0.ren hk hm hρ⟩
 |own id=>exact C1.sH (C0.ren hk hm hρ (av:= .own id) h)
 |dP id s j k=>exact C1.sH (C0.ren hk hm hρ (av:= .dP id s j k) h)
 |jm id s j k=>exact C1.sH (C0.ren hk hm hρ (av:= .jm id s j k) h)
 |box id k=>exact C1.sH (C0.ren hk hm hρ (av:= .box id k) h)
 |cf gg id k=>exact C1.sH (C0.ren hk hm hρ (av:= .cf gg id k) h)
 |el cs k=>exact C1.sH (C0.ren hk hm hρ (av:= .el cs k) h)
 |sl s n sc f=>exact C1.sH (C0.ren hk hm hρ (av:= .sl s n sc f) h)
 |v x=>exact h
 |junk=>trivial
 |bJ cs=>exact h
theorem C2.ren(hk:∀b,X.keep b->Y.keep b)(hm:Y.w=X.w)(hρ:∀k i,kK σ k=some i->Y.ρ i=X.ρ k){av:AV}{u:Value}(h:C2 X av u):C2 Y (Bj σ av) u:=by
 cases av with
 |bJ vs=>obtain⟨us,e,ha⟩:=h;exact⟨us,e,ha.mD λ _ _=>C1.ren hk hm hρ⟩
 |agg cs=>exact C2.kF (C1.ren hk hm hρ (av:= .agg cs) h)
 |fn g cs=>exact C2.kF (C1.ren hk hm hρ (av:= .fn g cs) h)
 |own id=>exact C2.kF (C1.ren hk hm hρ (av:= .own id) h)
 |dP id s j k=>exact C2.kF (C1.ren hk hm hρ (av:= .dP id s j k) h)
 |jm id s j k=>exact C2.kF (C1.ren hk hm hρ (av:= .jm id s j k) h)
 |box id k=>exact C2.kF (C1.ren hk hm hρ (av:= .box id k) h)
 |cf gg id k=>exact C2.kF (C1.ren hk hm hρ (av:= .cf gg id k) h)
 |el cs k=>exact C2.kF (C1.ren hk hm hρ (av:= .el cs k) h)
 |sl s n sc f=>exact C2.kF (C1.ren hk hm hρ (av:= .sl s n sc f) h)
 |v x=>exact h
 |junk=>trivial
end
theorem yI{σ:List (Nat×Nat)}(hn:(σ.map (·.2)).Nodup)(ρ:Nat->Value):∀h,(ah (mV σ ρ) (iU σ h)).Sublist (ah ρ h)
 |[]=>by simp[iU,ah]
 |(k,o)::h=>by
  have ih:=yI hn ρ h;simp only[iU];rw[aT ρ];cases e:kK σ k with
  |none=>exact ih.trans (List.sublist_append_right _ _)
  |some i=>
   dsimp only;rw[aT];dsimp only;rw[EI hn e];exact List.Sublist.append (List.Sublist.refl _) ih
theorem Ac{σ:List (Nat×Nat)}:∀{h:List (Nat×AO)}{p:Nat×AO},p∈iU σ h-> ∃k o,(k,o)∈h/\kK σ k=some p.1/\p.2=o.ren σ
 |[],_,hp=>by cases hp
 |(k,o)::h,p,hp=>by
  simp only[iU]at hp;cases e:kK σ k with
  |none=>
   rw[e]at hp;obtain⟨k',o',h1,h2⟩:=Ac hp;exact⟨k',o',List.mem_cons_of_mem _ h1,h2⟩
  |some i=>
   rw[e]at hp;rcases List.mem_cons.1 hp with rfl|hp
   ·exact⟨k,o,List.mem_cons_self,e,rfl⟩
   ·obtain⟨k',o',h1,h2⟩:=Ac hp;exact⟨k',o',List.mem_cons_of_mem _ h1,h2⟩
section
variable{g:Base}{N:Nat}{bs:List (Array Value)}{ρ:Nat->Value}{a:Act}{w:World}{st:AS}
theorem Rel.ren(R:Rel g N bs ρ a w st){σ:List (Nat×Nat)}(hnd:nodupB (σ.map (·.2))=true):Rel g N bs (mV σ ρ) a w (st.ren σ):=by
 have hn:=oI hnd;have hsub:=yI hn ρ st.heap;have hk:∀b,aI g w ρ st.heap b->aI g w (mV σ ρ) (st.ren σ).heap b:=λ b h=>⟨h.1,h.2.1,λ h'=>h.2.2 (hsub.subset h')⟩;have hρ:∀k i,kK σ k=some i->mV σ ρ i=ρ k:=λ k i e=>EI hn e;refine⟨R.size,R.defers,R.below,λ t=> ?_,λ p hp=> ?_,R.apart.sublist hsub,λ b hb=>R.own b (hsub.subset hb),R.back.map rfl λ _ _=>C2.ren (X:=aB g w ρ st.heap) (Y:=aB g w (mV σ ρ) (st.ren σ).heap) hk rfl hρ⟩
 ·rw[show(st.ren σ).tmps t=Bj σ (st.tmps t)from oG rfl st.sl t];exact C2.ren (X:=aB g w ρ st.heap) (Y:=aB g w (mV σ ρ) (st.ren σ).heap) hk rfl hρ (R.tmps t)
 ·obtain⟨k,o,h1,h2,h3⟩:=Ac hp;have ho:=R.objs _ h1;rw[h3];refine bn.move (X:=aB g w ρ st.heap) (Y:=aB g w (mV σ ρ) (st.ren σ).heap) hk (λ _ _=>rfl) (hρ _ _ h2) (λ _ _=>rfl) ?_ ho;cases o with
  |box t cs=>exact⟨rfl,λ us ha=>ha.mD λ _ _=>C0.ren (X:=aB g w ρ st.heap) (Y:=aB g w (mV σ ρ) (st.ren σ).heap) hk rfl hρ⟩
  |row=>rfl
  |mp t ks rs=>exact⟨rfl,rfl,wY σ ks,λ vs hv=>hv.ren λ k i e=>congrArg fM (hρ k i e)⟩
  |obs o=>rfl
  |rn e cs=>exact⟨rfl,by simp,λ us ha=>ha.mD λ _ _=>C0.ren (X:=aB g w ρ st.heap) (Y:=aB g w (mV σ ρ) (st.ren σ).heap) hk rfl hρ⟩
end
section
variable{P:Program}{L:Lay}{g:Base}{N:Nat}{bs:List (Array Value)}{ρ:Nat->Value}{a:Act}{w:World}{st:AS}
theorem xB(R:Rel g N bs ρ a w st)(l:List Operand):aN (C2 (aB g w ρ st.heap)) (l.map st.ev) (l.map a.eval):=by
 induction l with
 |nil=>exact aN.nil
 |cons x l ih=>exact aN.cons (R.ev x) ih
theorem Lp{X:CX}{caps:List AV}{us:List Value}(h:aN (C0 X) caps us):aN (C2 X) caps us:=h.imp λ _ _=>C2.sH
open Classical in
noncomputable def least (p:Nat->Prop):Nat:=if h:∃n,p n then Classical.choose (exists_least h)else 0
where
 exists_least {p:Nat->Prop} (h:∃n,p n):∃n,p n/\ ∀k,p k->n<=k:=by
  obtain⟨n,hn⟩:=h;induction n using Nat.strongRecOn with
  |ind n ih=>
   by_cases h:∃k,k<n/\p k
   ·obtain⟨k,hk,hp⟩:=h;exact ih k hk hp
   ·exact⟨n,hn,λ k hk=>Nat.le_of_not_lt λ hlt=>h ⟨k,hlt,hk⟩⟩
theorem EJ{p:Nat->Prop}(h:∃n,p n):p (least p):=by
 unfold least;rw[dif_pos h];exact(Classical.choose_spec (least.exists_least h)).1
theorem least_le{p:Nat->Prop}{n:Nat}(h:p n):least p<=n:=by
 unfold least;rw[dif_pos ⟨n,h⟩];exact(Classical.choose_spec (least.exists_least ⟨n,h⟩)).2 n h
theorem SC{X:CX}{h:List (Nat×AO)}{x:AV}{u:Value}(hx:C2 X x u)(ho:vg h x=true):C0 X x u:=by
 cases x<;>first|exact hx|(cases ho;done)
theorem Ad{R:AV->Value->Prop}{x:AV}{us:List Value}(h:aN R [x] us):∃u,us=[u]/\R x u:=by
 match us,h with
 |[],h=>have:=h.1;simp at this
 |[u],h=>exact⟨u,rfl,h.2 0 _ _ rfl rfl⟩
 |_::_::_,h=>have:=h.1;simp at this
theorem qy{R:AV->Value->Prop}{x y:AV}{us:List Value}(h:aN R [x,y] us):∃u v,us=[u,v]/\R x u/\R y v:=by
 match us,h with
 |[],h=>have:=h.1;simp at this
 |[_],h=>have:=h.1;simp at this
 |[u,v],h=>exact⟨u,v,rfl,h.2 0 _ _ rfl rfl,h.2 1 _ _ rfl rfl⟩
 |_::_::_::_,h=>have:=h.1;simp at this
def KD(P:Program)(W:Walk):Prop:= ∀(g:Base)(N lv:Nat)(bs:List (Array Value))(c:Code)(Q:jK->AS->Prop)(E:Exit->Act->World->Prop){ρ:Nat->Value}{a:Act}{w:World}{st:AS},qOf g N bs Q E->Rel g N bs ρ a w st->W N lv c Q st->c.wp P E a w
theorem aaJ(hL:bQ P L){W:Walk}(hW:KD P W)(R:Rel g N bs ρ a w st){bD:List AV}{args:List Value}(hargs:aN (C2 (aB g w ρ st.heap)) bD args){K:AV->AS->Prop}(lv:Nat)(fn:Func)(c:Code)(hsz:Nat.ble bD.length fn.ntmps=true)
  (h:W fn.ntmps lv c (λ e st'=>match e with| .exit _=>False| .normal=>qO L st' fn.results.toList (λ x=>xW (st'.out) (K x))| .ret=>qO L st' fn.results.toList (λ x=>xW (st'.out) (K x))) (st.into bD)):
  c.wp P (bodyPost P fn λ e w'=> ∃u x st' ρ',e= .returned u/\K x st'/\Rel g N bs ρ' a w' st'/\C2 (aB g w' ρ' st'.heap) x u) {tmps:=args.toArray++Array.replicate (fn.ntmps-args.toArray.size) undef,defers:=[]} w:=by
 have hsz:=Nat.le_of_ble_eq_true hsz;have hlen:args.length=bD.length:=hargs.1.symm;let g0:Base:=⟨g.w,g.keep,g.mu,[]⟩;have R0:Rel g0 fn.ntmps (a.tmps::bs) ρ {tmps:=args.toArray++Array.replicate (fn.ntmps-args.toArray.size) undef,defers:=[]} w (st.into bD):=
  ⟨by simp;omega,rfl,R.below,qX hargs hsz,R.objs,R.apart,R.own,⟨R.tmps,R.back⟩⟩
 have post:∀ρ' a' w' st',Rel g0 fn.ntmps (a.tmps::bs) ρ' a' w' st'->qO L st' fn.results.toList (λ x=>xW (st'.out) (K x))->
   a'.defers=[]/\ ∃v,(results fn a'.tmps).run P w'= .ok v w'/\ ∃u x st' ρ',Ending.returned v= .returned u/\K x st'/\Rel g N bs ρ' a w' st'/\C2 (aB g w' ρ' st'.heap) x u:=by
  intro ρ' a' w' st' R' hq;obtain⟨x,u,hret,hc,hrun⟩:=DJ hL R' hq;rw[Qu]at hret;refine⟨R'.defers,u,hrun,u,x,st'.out,ρ',rfl,hret, ?_⟩;have hback:=R'.back;revert hc;cases hbk:st'.back with
  |nil=>rw[hbk]at hback;exact hback.elim
  |cons f r=>
   rw[hbk]at hback;have e:st'.out=⟨f,st'.heap,r,st'.base⟩:=by simp[AS.out,hbk]
   rw[e];exact λ hc=>⟨⟨R.size,R.defers,R'.below,hback.1,R'.objs,R'.apart,R'.own,hback.2⟩,hc⟩
 refine hW g0 fn.ntmps lv (a.tmps::bs) c _ _ ⟨?_, ?_, ?_⟩ R0 h
 ·exact λ ρ' a' w' st' R' hq=>post ρ' a' w' st' R' hq
 ·exact λ i ρ' a' w' st' R' hq=>hq.elim
 ·exact λ ρ' a' w' st' R' hq=>post ρ' a' w' st' R' hq
theorem DK(hL:bQ P L){W:Walk}(hW:KD P W)(R:Rel g N bs ρ a w st){f:FuncId}{bD:List AV}{args:List Value}(hargs:aN (C2 (aB g w ρ st.heap)) bD args){K:AV->AS->Prop}(lv:Nat)(fn:Func)(c:Code)(hf:P.funcs[f]? =some fn)(hb:fn.body=some c)(hsz:Nat.ble bD.length fn.ntmps=true)
  (h:W fn.ntmps lv c (λ e st'=>match e with| .exit _=>False| .normal=>qO L st' fn.results.toList (λ x=>xW (st'.out) (K x))| .ret=>qO L st' fn.results.toList (λ x=>xW (st'.out) (K x))) (st.into bD)):
  Calls P f args.toArray w λ e w'=> ∃u x st' ρ',e= .returned u/\K x st'/\Rel g N bs ρ' a w' st'/\C2 (aB g w' ρ' st'.heap) x u:=
 calls_of_wp hf hb (aaJ hL hW R hargs lv fn c hsz h)
theorem aaK(g m:Nat):Nat.blt (Nat.add g m) m=false:=by
 rw[Bool.eq_false_iff];intro e;rw[Nat.blt_eq]at e;exact absurd e (Nat.not_lt.2 (Nat.le_add_left m g))
theorem YL(g m:Nat):Nat.sub (Nat.add g m) m=g:=Nat.add_sub_cancel g m
theorem YM(g:FuncId)(p:Value):Yy (Nat.add g million) p= .func (.func g) #[p] #[]:=by
 unfold Yy;rw[aaK,YL];rfl
theorem aaL{g:FuncId}(h:Nat.blt g million=false)(p:Value):Yy g p= .func (.func (Nat.sub g million)) #[p] #[]:=by
 unfold Yy;rw[h];rfl
theorem VL(hL:bQ P L){W:Walk}(hW:KD P W)(R:Rel g N bs ρ a w st){o:Oper}{d:Nat}{K:AV->AS->Prop}{next:Act->World->Prop}{Q:Exit->Act->World->Prop}{c:Call}{x:Operand}{f0 id off b:Nat}(e:o.op= .call c)(ec:c.callee= .value x)
  (hb1:fM ((aB g w ρ st.heap).ρ id)= .pointer (some ⟨b,0,none⟩))(hv:a.eval x= .func (.func f0) #[.pointer (some ⟨b,off,none⟩)] #[])(h:fV P L W d f0 (.box id off::c.args.toList.map st.ev) st K)
  (hk:∀x st' u ρ' w',K x st'->Rel g N bs ρ' a w' st'->C2 (aB g w' ρ' st'.heap) x u->next (a.put o.dst u) w'):o.wp P a w next Q:=by
 have hargs:aN (C2 (aB g w ρ st.heap)) (.box id off::c.args.toList.map st.ev) (.pointer (some ⟨b,off,none⟩)::c.args.toList.map a.eval):=aN.cons ⟨b,hb1,rfl⟩ (xB R c.args.toList);obtain⟨hent,hcall⟩:=xw R hargs h (λ lv fn c hf _ hb hsz h=>DK hL hW R hargs lv fn c hf hb hsz h);have hrun:(execOp a.eval o).run P w= .ok (.enter f0 (.pointer (some ⟨b,off,none⟩)::c.args.toList.map a.eval).toArray) w:=by
  have hcf:=uy hent (.pointer (some ⟨b,off,none⟩)::c.args.toList.map a.eval).toArray w;have eq:(.pointer (some ⟨b,off,none⟩)::c.args.toList.map a.eval).toArray=(#[.pointer (some ⟨b,off,none⟩)]++c.args.map a.eval)++ #[]:=by
   apply Array.ext';simp
  rw[eq]at hcf⊢;simp only[execOp,e,resolve,ec,Deferred.ofValue,hv,Sem.run_bind,Sem.run_pure,Result.andThen_ok,invoke];exact hcf
 unfold Oper.wp;rw[hrun,Oper.upon_enter];refine hcall.mono ?_;rintro e' w' ⟨u,y,st',ρ',rfl,h1,h2,h3⟩;exact hk _ _ _ _ _ h1 h2 h3
theorem Jv(hL:bQ P L){W:Walk}(hW:KD P W)(R:Rel g N bs ρ a w st){o:Oper}{d:Nat}{K:AV->AS->Prop}(h:Qy P L W d st o.op K){next:Act->World->Prop}{Q:Exit->Act->World->Prop}
  (hk:∀x st' u ρ' w',K x st'->Rel g N bs ρ' a w' st'->C2 (aB g w' ρ' st'.heap) x u->next (a.put o.dst u) w'):o.wp P a w next Q:=by
 have same:∀{x:AV}{u:Value},K x st->C2 (aB g w ρ st.heap) x u->(execOp a.eval o).run P w= .ok (.value u) w->o.wp P a w next Q:=
  λ h1 h2 h3=>jW h3 (hk _ _ _ _ _ h1 R h2)
 unfold Qy at h;have sem:Vs P st o.op K->o.wp P a w next Q:=λ hs=>by
  cases hs with
  |q x hK hs=>
   obtain⟨u,h1,h2⟩:=hs g N bs ρ a w o rfl R;exact same hK h1 h2
  |mk hq hs=>exact hs g N bs ρ a w o next Q rfl R hk
 cases hsb:aaD st o.op with
 |true=>rw[hsb]at h;exact sem h
 |false=>
 rw[hsb,cond_false]at h;split at h
 ·rename_i x e;exact same h (R.ev x) (by simp[execOp,e])
 ·rename_i x e;exact same h (R.ev x) (by simp[execOp,e])
 ·rename_i c x y e;split at h
  ·rename_i t et;have hc:=R.ev c;rw[et]at hc;have hc:=C2.dN hc;cases t with
   |true=>exact same h (R.ev x) (by simp[execOp,e,hc,asBool])
   |false=>exact same h (R.ev y) (by simp[execOp,e,hc,asBool])
  ·exact h.elim
 ·rename_i t e;split at h
  ·rename_i i hi;rw[jg]at h;obtain⟨z,hz,hzc⟩:=zL hL hi w;have hR:=R.VB st.base t (cs:=i.zero.map .v) (us:=i.zero) (Eu _);refine jW (u:= .pointer (some ⟨w.heap.size,0,none⟩)) (w':=w.alloc (.cells i.zero.toArray t)) ?_ (hk _ _ _ _ _ h hR ⟨w.heap.size,by simp[aB,dV,fM],rfl⟩);have hz':z.cells=i.zero.toArray:=by rw[<-hzc]
   simp[execOp,e,Instr.alloc,hz,newVar,newRow,hz']
  ·exact h.elim
 ·rename_i t x e;split at h
  ·rename_i cs hcs;cases hb:cs.all (vg st.heap)with
   |false=>rw[hb]at h;exact h.elim
   |true=>
    rw[hb,cond_true,jg]at h;obtain⟨hall,_⟩:=xq R (R.ev x) hcs hb;have hR:=R.VB st.base t hall;refine jW (u:= .pointer (some ⟨w.heap.size,0,none⟩)) (w':=w.alloc (.cells (a.eval x).cells.toList.toArray t)) ?_ (hk _ _ _ _ _ h hR ⟨w.heap.size,by simp[aB,dV,fM],rfl⟩);simp[execOp,e,Instr.box,newVar,newRow]
  ·exact h.elim
 ·rename_i t p e;obtain⟨x,u,h1,h2,h3⟩:=wZ hL R (R.ev p) h;exact same h1 h2 (by simp[execOp,e,h3])
 ·rename_i t p x e;obtain⟨st',w',h1,h2,h3⟩:=jQ hL R (R.ev p) (R.ev x) h;have hrun:(execOp a.eval o).run P w= .ok .skip w':=by simp[execOp,e,h3]
  unfold Oper.wp;rw[hrun];exact hk _ _ _ _ _ h1 h2 rfl
 ·rename_i t x i e;obtain⟨y,u,h1,h2,h3⟩:=vO hL (R.ev x) h w;exact same h1 h2 (by simp[execOp,e,h3])
 ·rename_i t x i e;obtain⟨y,u,h1,h2,h3⟩:=Ef hL (R.ev x) h w;exact same h1 h2 (by simp[execOp,e,h3])
 ·rename_i t x i e;obtain⟨y,u,h1,h2,h3⟩:=mM hL R (R.ev x) (R.ev i) h;exact same h1 h2 (by simp[execOp,e,h3])
 ·rename_i t x i e;obtain⟨y,u,h1,h2,h3⟩:=Eh hL (R.ev x) (R.ev i) h w;exact same h1 h2 (by simp[execOp,e,h3])
 ·rename_i x i e;obtain⟨y,u,h1,h2,h3⟩:=zO (P:=P) (R.ev x) h w;exact same h1 h2 (by simp[execOp,e,h3])
 ·rename_i t parts e;obtain⟨y,u,h1,h2,h3⟩:=Ew hL R h;exact same h1 h2 (by simp only[execOp,e,Sem.run_bind,h3,Result.andThen_ok,Sem.run_pure])
 ·rename_i t n parts e;rw[jg]at h;cases hb:(parts.toList.map λ p=>st.ev p.2).all Vq with
  |true=>
   rw[hb]at h;obtain⟨y,u,st',ρ',w',h1,h2,h3,h4⟩:=uX hL R h;exact jW (by simp only[execOp,e,Sem.run_bind,h4,Result.andThen_ok,Sem.run_pure]) (hk _ _ _ _ _ h1 h2 h3)
  |false=>
   rw[hb]at h;simp only[cond_false]at h;rw[Qu]at h;obtain⟨R1,_,_⟩:=DI (parts.toList.map λ p=>st.ev p.2) R;obtain⟨y,u,st',ρ',w',h1,h2,h3,h4⟩:=uX hL R1 h;exact jW (by simp only[execOp,e,Sem.run_bind,h4,Result.andThen_ok,Sem.run_pure]) (hk _ _ _ _ _ h1 h2 h3)
 ·rename_i op t x y ty e;obtain⟨z,u,h1,h2,h3,h4⟩:=KQ (ox:=x) (oy:=y) hL (R.ev x) (R.ev y) h w;exact same h1 h2 (by simp only[execOp,e,Sem.run_bind,h3,h4,Result.andThen_ok,Sem.run_pure])
 ·rename_i op t x e;obtain⟨z,u,h1,h2,h3⟩:=Qz (P:=P) (R.ev x) h w;exact same h1 h2 (by simp only[execOp,e,Sem.run_bind,h3,Result.andThen_ok,Sem.run_pure])
 ·rename_i s t x e;obtain⟨z,u,h1,h2,h3⟩:=zQ hL R (R.ev x) h;exact same h1 h2 (by simp only[execOp,e,Sem.run_bind,h3,Result.andThen_ok,Sem.run_pure])
 ·rename_i t x lo hi mx e;obtain⟨z,u,st',ρ',h1,h2,h3,h4,_⟩:=EC hL R (R.ev x) h;exact jW (by simp only[execOp,e,Sem.run_bind,h4,Result.andThen_ok,Sem.run_pure]) (hk _ _ _ _ _ h1 h2 h3)
 ·rename_i x e;have hx:=zD (R.ev x);split at h
  ·rename_i i k ex;rw[ex]at hx;obtain⟨b,hb,hv⟩:=C2.lK hx;exact same h ⟨b,hb,rfl⟩ (by simp[execOp,e,hv])
  ·rename_i gg cs ex;rw[ex]at hx;obtain⟨us,hv,ha⟩:=C2.Bl hx;exact same h ⟨us,rfl,ha⟩ (by simp[execOp,e,hv])
  ·exact h.elim
 ·rename_i gg first caps e
  split at h
  ·rename_i ef;have hf:first= #[]:=by simpa using ef
   subst hf;cases hb:(caps.toList.map st.ev).all (vg st.heap)with
   |false=>rw[hb]at h;exact h.elim
   |true=>
    rw[hb]at h;refine same h (u:= .func (.func gg) #[] (caps.map a.eval)) ⟨caps.toList.map a.eval,by rw[<-Array.toList_map], ?_⟩ (by simp[execOp,e,Instr.makeFunc]);have:=xB R caps.toList;exact⟨this.1,λ i x u hx hu=>SC (this.2 i x u hx hu) (List.all_eq_true.1 hb x (List.mem_of_getElem? hx))⟩
  ·rename_i x r ef;split at h
   ·rename_i id off ex;cases hb:Nat.blt gg million&&r.isEmpty&&caps.toList.isEmpty with
    |false=>rw[hb]at h;exact h.elim
    |true=>
     rw[hb]at h;simp only[Bool.and_eq_true,List.isEmpty_iff]at hb;obtain⟨⟨hb1,rfl⟩,hb2⟩:=hb;have hf:first= #[x]:=by apply Array.ext';simpa using ef
     have hc:caps= #[]:=by apply Array.ext';simpa using hb2
     subst hf hc;have hx:=R.ev x;rw[ex]at hx;obtain⟨b,h1,hv⟩:=C2.lK hx;exact same h (u:= .func (.func gg) #[.pointer (some ⟨b,off,none⟩)] #[]) ⟨b,h1,(YM gg _).symm⟩ (by simp[execOp,e,Instr.makeFunc,hv])
   ·exact h.elim
 ·rename_i c e;split at h
  ·rename_i b ec;have hex:∀{u:Value}{w':World},(builtin b c.argTypes o.type (c.args.map λ| .const _=>true|_=>false) (c.args.map a.eval)).run P w= .ok (.value u) w'->(execOp a.eval o).run P w= .ok (.value u) w':=by
    intro u w' h;simp only[execOp,e,resolve,ec,Sem.run_bind,Sem.run_pure,Result.andThen_ok,invoke];exact h
   have ha:=xB R c.args.toList;have hca:c.args.map a.eval=(c.args.toList.map a.eval).toArray:=by apply Array.ext';simp
   have hct:c.argTypes=c.argTypes.toList.toArray:=by simp
   rw[jg]at h;unfold vN at h;split at h
   ·rename_i t x et ex;rw[ex]at ha;obtain⟨v,hv,hc⟩:=Ad ha;obtain⟨z,u,h1,h2,h3⟩:=KT (ty:=o.type) hL R hc h;exact same h1 h2 (hex (by rw[hca,hv,hct,et];simp only[builtin,Sem.run_bind,h3,Result.andThen_ok,Sem.run_pure]))
   ·rename_i t tx x y et ex;rw[ex]at ha;obtain⟨v1,v2,hv,hc1,hc2⟩:=qy ha;obtain⟨z,u,st',ρ',w',h1,h2,h3,h4⟩:=Le (ty:=o.type) hL R hc1 hc2 h;exact jW (hex (by rw[hca,hv,hct,et];simp only[builtin,Sem.run_bind,h4,Result.andThen_ok,Sem.run_pure])) (hk _ _ _ _ _ h1 h2 h3)
   ·rename_i x y ex;rw[ex]at ha;obtain⟨v1,v2,hv,hc1,hc2⟩:=qy ha;obtain⟨z,u,h1,h2,h3⟩:=KU (P:=P) hc1 hc2 h c.argTypes o.type w;exact same h1 h2 (hex (by rw[hca,hv];simp only[builtin,Sem.run_bind,h3,Result.andThen_ok,Sem.run_pure]))
   ·rename_i x y ex;rw[ex]at ha;obtain⟨v1,v2,hv,hc1,hc2⟩:=qy ha;obtain⟨z,u,h1,h2,h3⟩:=KW (P:=P) hc1 hc2 h c.argTypes o.type w;exact same h1 h2 (hex (by rw[hca,hv];simp only[builtin,Sem.run_bind,h3,Result.andThen_ok,Sem.run_pure]))
   ·rename_i t Yv x y et ex;rw[ex]at ha;obtain⟨v1,v2,hv,hc1,hc2⟩:=qy ha;obtain⟨z,st',ρ',w',h1,h2,h3,h4⟩:=KY (Yv:=Yv) (ty:=o.type) hL R hc1 hc2 h;exact jW (hex (by rw[hca,hv,hct,et];simp only[builtin,Sem.run_bind,h4,Result.andThen_ok,Sem.run_pure])) (hk _ _ _ _ _ h1 h2 h3)
   ·rename_i t tx x y et ex;rw[ex]at ha;obtain⟨v1,v2,hv,hc1,hc2⟩:=qy ha;obtain⟨z,u,st',w',h1,h2,h3,h4⟩:=Sv (ty:=o.type) hL R hc1 hc2 h;exact jW (hex (by rw[hca,hv,hct,et];simp only[builtin,Sem.run_bind,h4,Result.andThen_ok,Sem.run_pure])) (hk _ _ _ _ _ h1 h2 h3)
   ·rename_i t x et ex;rw[ex]at ha;obtain⟨v,hv,hc⟩:=Ad ha;obtain⟨z,st',w',h1,h2,h3,h4⟩:=OI (ty:=o.type) hL R hc h;exact jW (hex (by rw[hca,hv,hct,et];simp only[builtin,Sem.run_bind,h4,Result.andThen_ok,Sem.run_pure])) (hk _ _ _ _ _ h1 h2 h3)
   ·exact h.elim
  ·rename_i x ec;split at h
   ·rename_i gg caps ex;rw[jg]at h;have hx:=zD (R.ev x);rw[ex]at hx;obtain⟨us,hv,ha⟩:=C2.Bl hx;have hargs:=(xB R c.args.toList).app (Lp ha);obtain⟨hent,hcall⟩:=xw R hargs h (λ lv fn c hf _ hb hsz h=>DK hL hW R hargs lv fn c hf hb hsz h);have hrun:(execOp a.eval o).run P w= .ok (.enter gg (c.args.toList.map a.eval++us).toArray) w:=by
     have hcf:=uy hent (c.args.toList.map a.eval++us).toArray w;have eq:(c.args.toList.map a.eval++us).toArray=(#[]++c.args.map a.eval)++us.toArray:=by
      apply Array.ext';simp
     rw[eq]at hcf⊢;simp only[execOp,e,resolve,ec,Deferred.ofValue,hv,Sem.run_bind,Sem.run_pure,Result.andThen_ok,invoke];exact hcf
    unfold Oper.wp;rw[hrun,Oper.upon_enter];refine hcall.mono ?_;rintro e' w' ⟨u,y,st',ρ',rfl,h1,h2,h3⟩;exact hk _ _ _ _ _ h1 h2 h3
   ·rename_i gg id off ex;cases hge:Nat.blt gg million with
    |true=>rw[hge]at h;exact h.elim
    |false=>
    rw[hge,cond_false,jg]at h;have hx:=zD (R.ev x);rw[ex]at hx;obtain⟨b,hb1,hv⟩:=C2.aaF hx;rw[aaL hge]at hv;exact VL hL hW R e ec hb1 hv h hk
   ·exact h.elim
  ·exact h.elim
 ·rename_i t l c e;rw[jg]at h;obtain⟨y,u,st',ρ',w',h1,h2,h3,h4⟩:=Sm hL R (R.ev l) (R.ev c) h;exact jW (by simp only[execOp,e,Sem.run_bind,h4,Result.andThen_ok,Sem.run_pure]) (hk _ _ _ _ _ h1 h2 h3)
 ·rename_i t x e;obtain⟨z,u,h1,h2,h3⟩:=ED hL R (R.ev x) h;exact same h1 h2 (by simp only[execOp,e,Sem.run_bind,h3,Result.andThen_ok,Sem.run_pure])
 ·rename_i t x i e;obtain⟨z,u,h1,h2,h3⟩:=CG hL R (R.ev x) (R.ev i) h;exact same h1 h2 (by simp only[execOp,e,Sem.run_bind,h3,Result.andThen_ok,Sem.run_pure])
 ·rename_i t m i x e;obtain⟨st',w',h1,h2,h3⟩:=Es hL R (R.ev m) (R.ev i) (R.ev x) h;have hrun:(execOp a.eval o).run P w= .ok .skip w':=by simp[execOp,e,h3]
  unfold Oper.wp;rw[hrun];exact hk _ _ _ _ _ h1 h2 rfl
 ·rename_i t e;cases hsm:Qx L t with
  |false=>rw[hsm]at h;exact sem (by rw[e];exact h)
  |true=>
  rw[hsm]at h;obtain⟨z,u,st',ρ',w',h1,h2,h3,h4⟩:=Jr (P:=P) R h;exact jW (by simp only[execOp,e,Option.map_none,Sem.run_bind,h4,Result.andThen_ok,Sem.run_pure]) (hk _ _ _ _ _ h1 h2 h3)
 ·exact sem h
theorem iV(R:Rel g N bs ρ a w st){d:Option Tmp}{x:AV}{u:Value}(hx:C2 (aB g w ρ st.heap) x u){K:AS->Prop}(h:pI N st d x K):∃st',K st'/\Rel g N bs ρ (a.put d u) w st':=by
 unfold pI at h;cases d with
 |none=>exact⟨st,h,R⟩
 |some d=>
  dsimp only at h;cases hb:Nat.ble (d+1) N with
  |false=>rw[hb]at h;exact h.elim
  |true=>
   rw[hb,cond_true,force_eq]at h;obtain⟨sl,hh,bk,b⟩:=st;exact⟨_,h,R.put (Nat.le_of_ble_eq_true hb) hx⟩
theorem Lr(hL:bQ P L){W:Walk}(hW:KD P W){ops:List Oper}{Q:AS->Prop}{QQ:Exit->Act->World->Prop}(hQ:∀a w ρ st,Rel g N bs ρ a w st->Q st->QQ .normal a w):
 ∀(l:List Oper){ρ:Nat->Value}{a:Act}{w:World}{st:AS},Rel g N bs ρ a w st->vk P L W N ops Q l st->wpList P ops.toArray QQ l a w
 |[],ρ,a,w,st,R,h=>hQ a w ρ st R h
 |⟨dst,op,ty,pos,after,guard⟩::rest,ρ,a,w,st,R,h=>by
  have ih:= @Lr hL W hW ops Q QQ hQ rest;have go:∀d,Qy P L W d st op (λ x st'=>pI N st' dst x (vk P L W N ops Q rest))->Oper.wp P ⟨dst,op,ty,pos,after,guard⟩ a w (wpList P ops.toArray QQ rest) QQ:=by
   intro d hd;refine Jv hL hW R (o:=⟨dst,op,ty,pos,after,guard⟩) (d:=d) hd ?_;intro x st' u ρ' w' hx R' hc;obtain⟨st2,h2,R2⟩:=iV R' hc hx;exact ih R2 h2
  have go':zJ P L W dst st op (λ x st'=>pI N st' dst x (vk P L W N ops Q rest))->Oper.wp P ⟨dst,op,ty,pos,after,guard⟩ a w (wpList P ops.toArray QQ rest) QQ:=by
   intro hd;unfold zJ at hd;cases dst with
   |none=>exact go 0 hd
   |some d=>exact go d hd
  have skip:pI N st dst (.v undef) (vk P L W N ops Q rest)->wpList P ops.toArray QQ rest (a.put dst undef) w:=by
   intro hd;obtain⟨st2,h2,R2⟩:=iV R (show C2 (aB g w ρ st.heap) (.v undef) undef from rfl) hd;exact ih R2 h2
  simp only[vk]at h;cases guard with
  |none=>
   dsimp only at h;refine wpList_step (λ K hK=> ?_);have hw:=go' h;simp only[Region.wanted,if_true];exact VN hw hK
  |some gd=>
   obtain⟨j,want⟩:=gd;dsimp only at h;split at h
   ·rename_i dj hdj;cases hb:Nat.ble (dj+1) N with
    |false=>rw[hb]at h;exact h.elim
    |true=>
     rw[hb,cond_true]at h;have hlt:=Nat.le_of_ble_eq_true hb;have hd:=R.tmps dj;have hget:a.tmps[dj]? =some (a.tmps.getD dj undef):=by
      have:dj<a.tmps.size:=by rw[R.size];exact hlt
      simp[this]
     have hops:((ops.toArray[j]?).bind (·.dst))=some dj:=by simpa using hdj
     split at h
     ·rename_i b eb;rw[eb]at hd;have hd:=C2.dN hd;have hy:yielded ops.toArray a.tmps j=some b:=by
       unfold yielded;rw[hops];simp only[Option.bind_some,hget,hd]
      split at h
      ·rename_i hbw;refine wpList_step (λ K hK=> ?_);have hwant:Region.wanted ⟨dst,op,ty,pos,after,some (j,want)⟩ (yielded ops.toArray a.tmps)=true:=by
        simp only[Region.wanted,hy];simpa using hbw
       rw[if_pos hwant];exact VN (go' h) hK
      ·rename_i hbw;refine wpList_skip ?_ (skip h);simp only[Region.wanted,hy];simpa using hbw
     ·rename_i vs eb;rw[eb]at hd;have hd:=C2.dN hd;have hy:yielded ops.toArray a.tmps j=none:=by
       unfold yielded;rw[hops];simp only[Option.bind_some,hget,hd]
      refine wpList_skip ?_ (skip h);simp only[Region.wanted,hy];rfl
     ·exact h.elim
   ·exact h.elim
where
 VN {o:Oper} {a:Act} {w:World} {K K':Act->World->Prop} {Q:Exit->Act->World->Prop} (h:o.wp P a w K Q) (hk:∀a w,K a w->K' a w):o.wp P a w K' Q:=by
  unfold Oper.wp Oper.upon at*;split at h
  ·exact hk _ _ h
  ·exact hk _ _ h
  ·exact hk _ _ h
  ·refine h.mono ?_;intro e w'' he;cases e with
   |returned v=>exact hk _ _ he
   |panicked c=>exact he
   |outgrown=>exact he
  ·exact h.mono λ _ _ he=>hk _ _ he
  ·exact h
  ·exact h
theorem xC(hL:bQ P L){W:Walk}(R:Rel g N bs ρ a w st){o:Oper}{d:Nat}{K:AV->AS->Prop}(hq:lS o.op=true)(h:Qy P L W d st o.op K):∃x u,K x st/\C2 (aB g w ρ st.heap) x u/\(execOp a.eval o).run P w= .ok (.value u) w:=by
 unfold Qy at h;have sem:Vs P st o.op K-> ∃x u,K x st/\C2 (aB g w ρ st.heap) x u/\(execOp a.eval o).run P w= .ok (.value u) w:=λ hs=>by
  cases hs with
  |q x hK hs=>
   obtain⟨u,h1,h2⟩:=hs g N bs ρ a w o rfl R;exact⟨x,u,hK,h1,h2⟩
  |mk hq' hs=>rw[hq]at hq';cases hq'
 cases hsb:aaD st o.op with
 |true=>rw[hsb]at h;exact sem h
 |false=>
 rw[hsb,cond_false]at h;split at h
 ·rename_i x e;exact⟨_,_,h,R.ev x,by simp[execOp,e]⟩
 ·rename_i x e;exact⟨_,_,h,R.ev x,by simp[execOp,e]⟩
 ·rename_i c x y e;split at h
  ·rename_i t et;have hc:=R.ev c;rw[et]at hc;have hc:=C2.dN hc;cases t with
   |true=>exact⟨_,_,h,R.ev x,by simp[execOp,e,hc,asBool]⟩
   |false=>exact⟨_,_,h,R.ev y,by simp[execOp,e,hc,asBool]⟩
  ·exact h.elim
 ·rename_i e;rw[e]at hq;cases hq
 ·rename_i e;rw[e]at hq;cases hq
 ·rename_i t p e;obtain⟨x,u,h1,h2,h3⟩:=wZ hL R (R.ev p) h;exact⟨_,_,h1,h2,by simp[execOp,e,h3]⟩
 ·rename_i e;rw[e]at hq;cases hq
 ·rename_i t x i e;obtain⟨y,u,h1,h2,h3⟩:=vO hL (R.ev x) h w;exact⟨_,_,h1,h2,by simp[execOp,e,h3]⟩
 ·rename_i t x i e;obtain⟨y,u,h1,h2,h3⟩:=Ef hL (R.ev x) h w;exact⟨_,_,h1,h2,by simp[execOp,e,h3]⟩
 ·rename_i t x i e;obtain⟨y,u,h1,h2,h3⟩:=mM hL R (R.ev x) (R.ev i) h;exact⟨_,_,h1,h2,by simp[execOp,e,h3]⟩
 ·rename_i t x i e;obtain⟨y,u,h1,h2,h3⟩:=Eh hL (R.ev x) (R.ev i) h w;exact⟨_,_,h1,h2,by simp[execOp,e,h3]⟩
 ·rename_i x i e;obtain⟨y,u,h1,h2,h3⟩:=zO (P:=P) (R.ev x) h w;exact⟨_,_,h1,h2,by simp[execOp,e,h3]⟩
 ·rename_i t parts e;obtain⟨y,u,h1,h2,h3⟩:=Ew hL R h;exact⟨_,_,h1,h2,by simp only[execOp,e,Sem.run_bind,h3,Result.andThen_ok,Sem.run_pure]⟩
 ·rename_i e;rw[e]at hq;cases hq
 ·rename_i op t x y ty e;obtain⟨z,u,h1,h2,h3,h4⟩:=KQ (ox:=x) (oy:=y) hL (R.ev x) (R.ev y) h w;exact⟨_,_,h1,h2,by simp only[execOp,e,Sem.run_bind,h3,h4,Result.andThen_ok,Sem.run_pure]⟩
 ·rename_i op t x e;obtain⟨z,u,h1,h2,h3⟩:=Qz (P:=P) (R.ev x) h w;exact⟨_,_,h1,h2,by simp only[execOp,e,Sem.run_bind,h3,Result.andThen_ok,Sem.run_pure]⟩
 ·rename_i s t x e;obtain⟨z,u,h1,h2,h3⟩:=zQ hL R (R.ev x) h;exact⟨_,_,h1,h2,by simp only[execOp,e,Sem.run_bind,h3,Result.andThen_ok,Sem.run_pure]⟩
 ·rename_i e;rw[e]at hq;cases hq
 ·rename_i x e;have hx:=zD (R.ev x);split at h
  ·rename_i i k ex;rw[ex]at hx;obtain⟨b,hb,hv⟩:=C2.lK hx;exact⟨_,_,h,⟨b,hb,rfl⟩,by simp[execOp,e,hv]⟩
  ·rename_i gg cs ex;rw[ex]at hx;obtain⟨us,hv,ha⟩:=C2.Bl hx;exact⟨_,_,h,⟨us,rfl,ha⟩,by simp[execOp,e,hv]⟩
  ·exact h.elim
 ·rename_i e;rw[e]at hq;cases hq
 ·rename_i c e;rw[e]at hq;obtain⟨callee,args,ats⟩:=c;cases callee with
  |value x=>cases hq
  |invoke r m=>cases hq
  |builtin b=>
   have hex:∀{u:Value}{w':World},(builtin b ats o.type (args.map λ| .const _=>true|_=>false) (args.map a.eval)).run P w= .ok (.value u) w'->(execOp a.eval o).run P w= .ok (.value u) w':=by
    intro u w' h;simp only[execOp,e,resolve,Sem.run_bind,Sem.run_pure,Result.andThen_ok,invoke];exact h
   have ha:=xB R args.toList;have hca:args.map a.eval=(args.toList.map a.eval).toArray:=by apply Array.ext';simp
   have hct:ats=ats.toList.toArray:=by simp
   dsimp only at h;rw[jg]at h;cases b<;>first|(cases hq;done)|skip
   ·unfold vN at h;split at h
    ·rename_i t x et1 et ex;rw[ex]at ha;obtain⟨v,hv,hc⟩:=Ad ha;obtain⟨z,u,h1,h2,h3⟩:=KT (ty:=o.type) hL R hc h;exact⟨_,_,h1,h2,hex (by rw[hca,hv,hct,et];simp only[builtin,Sem.run_bind,h3,Result.andThen_ok,Sem.run_pure])⟩
    ·rename_i e1 _ _;cases e1
    ·rename_i e1 _;cases e1
    ·rename_i e1 _;cases e1
    ·rename_i e1 _ _;cases e1
    ·rename_i e1 _ _;cases e1
    ·rename_i e1 _ _;cases e1
    ·exact h.elim
   ·unfold vN at h;split at h
    ·rename_i e1 _ _;cases e1
    ·rename_i e1 _ _;cases e1
    ·rename_i e1 _;cases e1
    ·rename_i x y _ ex;rw[ex]at ha;obtain⟨v,v',hv,hc,hc'⟩:=qy ha;obtain⟨z,u,h1,h2,h3⟩:=KW (P:=P) hc hc' h ats o.type w;exact⟨_,_,h1,h2,hex (by rw[hca,hv];simp only[builtin,Sem.run_bind,h3,Result.andThen_ok,Sem.run_pure])⟩
    ·rename_i e1 _ _;cases e1
    ·rename_i e1 _ _;cases e1
    ·rename_i e1 _ _;cases e1
    ·exact h.elim
   ·unfold vN at h;split at h
    ·rename_i e1 _ _;cases e1
    ·rename_i e1 _ _;cases e1
    ·rename_i x y _ ex;rw[ex]at ha;obtain⟨v,v',hv,hc,hc'⟩:=qy ha;obtain⟨z,u,h1,h2,h3⟩:=KU (P:=P) hc hc' h ats o.type w;exact⟨_,_,h1,h2,hex (by rw[hca,hv];simp only[builtin,Sem.run_bind,h3,Result.andThen_ok,Sem.run_pure])⟩
    ·rename_i e1 _;cases e1
    ·rename_i e1 _ _;cases e1
    ·rename_i e1 _ _;cases e1
    ·rename_i e1 _ _;cases e1
    ·exact h.elim
 ·rename_i e;rw[e]at hq;cases hq
 ·rename_i t x e;obtain⟨z,u,h1,h2,h3⟩:=ED hL R (R.ev x) h;exact⟨_,_,h1,h2,by simp only[execOp,e,Sem.run_bind,h3,Result.andThen_ok,Sem.run_pure]⟩
 ·rename_i t x i e;obtain⟨z,u,h1,h2,h3⟩:=CG hL R (R.ev x) (R.ev i) h;exact⟨_,_,h1,h2,by simp only[execOp,e,Sem.run_bind,h3,Result.andThen_ok,Sem.run_pure]⟩
 ·rename_i e;rw[e]at hq;cases hq
 ·rename_i e;rw[e]at hq;cases hq
 ·exact sem h
theorem Ae(hL:bQ P L){W:Walk}{ops:List Oper}{Q:AS->Prop}{E:Act->World->Prop}(hQ:∀a w' st,Rel g N bs ρ a w' st->Q st->E a w'):
 ∀(l:List Oper){a:Act}{w:World}{st:AS},l.all (λ o=>lS o.op)=true->Rel g N bs ρ a w st->vk P L W N ops Q l st->wpQuiet P ops.toArray (λ w'=>w'=w) (λ a'=> ∀w',w'=w->E a' w') l a
 |[],a,w,st,_,R,h=>λ w' e=>by rw[e];exact hQ a w st R h
 |⟨dst,op,ty,pos,after,guard⟩::rest,a,w,st,hqq,R,h=>by
  simp only[List.all_cons,Bool.and_eq_true]at hqq;obtain⟨hqo,hqr⟩:=hqq;have ih:= @Ae hL W ops Q E hQ rest;have go:∀d,Qy P L W d st op (λ x st'=>pI N st' dst x (vk P L W N ops Q rest))->Oper.quiet P ⟨dst,op,ty,pos,after,guard⟩ a (λ w'=>w'=w) (wpQuiet P ops.toArray (λ w'=>w'=w) (λ a'=> ∀w',w'=w->E a' w') rest):=by
   intro d hd;obtain⟨x,u,h1,h2,h3⟩:=xC hL R (o:=⟨dst,op,ty,pos,after,guard⟩) (d:=d) hqo hd;obtain⟨st2,k2,R2⟩:=iV R h2 h1;refine⟨u,λ w' e=> ?_,ih hqr R2 k2⟩;subst e;unfold Oper.quietAt;rw[h3];exact⟨rfl,rfl⟩
  have go':zJ P L W dst st op (λ x st'=>pI N st' dst x (vk P L W N ops Q rest))->Oper.quiet P ⟨dst,op,ty,pos,after,guard⟩ a (λ w'=>w'=w) (wpQuiet P ops.toArray (λ w'=>w'=w) (λ a'=> ∀w',w'=w->E a' w') rest):=by
   intro hd;unfold zJ at hd;cases dst with
   |none=>exact go 0 hd
   |some d=>exact go d hd
  have skip:pI N st dst (.v undef) (vk P L W N ops Q rest)->wpQuiet P ops.toArray (λ w'=>w'=w) (λ a'=> ∀w',w'=w->E a' w') rest (a.put dst undef):=by
   intro hd;obtain⟨st2,h2,R2⟩:=iV R (show C2 (aB g w ρ st.heap) (.v undef) undef from rfl) hd;exact ih hqr R2 h2
  simp only[vk]at h;simp only[wpQuiet];cases guard with
  |none=>
   dsimp only at h;rw[if_pos (by simp[Region.wanted])];exact go' h
  |some gd=>
   obtain⟨j,want⟩:=gd;dsimp only at h;split at h
   ·rename_i dj hdj;cases hb:Nat.ble (dj+1) N with
    |false=>rw[hb]at h;exact h.elim
    |true=>
     rw[hb,cond_true]at h;have hlt:=Nat.le_of_ble_eq_true hb;have hd:=R.tmps dj;have hget:a.tmps[dj]? =some (a.tmps.getD dj undef):=by
      have:dj<a.tmps.size:=by rw[R.size];exact hlt
      simp[this]
     have hops:((ops.toArray[j]?).bind (·.dst))=some dj:=by simpa using hdj
     split at h
     ·rename_i b eb;rw[eb]at hd;have hd:=C2.dN hd;have hy:yielded ops.toArray a.tmps j=some b:=by
       unfold yielded;rw[hops];simp only[Option.bind_some,hget,hd]
      split at h
      ·rename_i hbw;rw[if_pos (by simp only[Region.wanted,hy];simpa using hbw)];exact go' h
      ·rename_i hbw;rw[if_neg (by simp only[Region.wanted,hy];simpa using hbw)];exact skip h
     ·rename_i vs eb;rw[eb]at hd;have hd:=C2.dN hd;have hy:yielded ops.toArray a.tmps j=none:=by
       unfold yielded;rw[hops];simp only[Option.bind_some,hget,hd]
      rw[if_neg (by simp only[Region.wanted,hy];simp)];exact skip h
     ·exact h.elim
   ·exact h.elim
theorem Hq{X:CX}:∀{fs hs:List (List (Nat×AV))}{bs:List (Array Value)},mF X fs bs->yE fs hs->mF X hs bs
 |[],[],[],_,_=>trivial
 |_::_,_::_,_::_,k,l=>⟨λ t=>by
    rcases l.1 t with e|e
    ·rw[e];trivial
    ·exact e _ _ (k.1 t),Hq k.2 l.2⟩
 |[],_::_,_,_,l=>l.elim
 |_::_,[],_,_,l=>l.elim
 |[],[],_::_,k,_=>k.elim
 |_::_,_::_,[],k,_=>k.elim
theorem Rel.less(R:Rel g N bs ρ a w st){S:AS}(h:LeS st S):Rel g N bs ρ a w S:=by
 have hb:∀b,b∈ah ρ S.heap->b∈ah ρ st.heap:=by
  intro b hb;obtain⟨p,hp,e⟩:=aU.1 hb;obtain⟨o,ho,_⟩:=h.hp p hp;exact aU.2 ⟨_,aA ho,e⟩
 have hk:∀b,aI g w ρ st.heap b->aI g w ρ S.heap b:=λ b h=>⟨h.1,h.2.1,λ h'=>h.2.2 (hb b h')⟩;refine⟨R.size,R.defers,R.below,λ t=> ?_,λ p hp=> ?_, ?_,λ b h=>R.own b (hb b h),Hq (R.back.imp λ _ _=>C2.same (X:=aB g w ρ st.heap) (Y:=aB g w ρ S.heap) hk (λ _ _=>rfl) rfl) h.bk⟩
 ·rcases h.tm t with e|e
  ·rw[e];trivial
  ·exact e _ _ (C2.same (X:=aB g w ρ st.heap) (Y:=aB g w ρ S.heap) hk (λ _ _=>rfl) rfl (R.tmps t))
 ·obtain⟨o,ho,he⟩:=h.hp p hp;refine he _ _ ?_;exact bn.same (X:=aB g w ρ st.heap) (Y:=aB g w ρ S.heap) hk (λ _ _=>rfl) rfl (λ _ _=>rfl) (R.objs _ (aA ho))
 ·exact Hr h.nd R.apart (λ p hp=>by obtain⟨o,ho,_⟩:=h.hp p hp;exact⟨_,aA ho,rfl⟩)
where
 Hr {ρ:Nat->Value} {h:List (Nat×AO)}:∀{l:List (Nat×AO)},(l.map (·.1)).Nodup->(ah ρ h).Nodup->(∀p∈l,∃q∈h,q.1=p.1)->(ah ρ l).Nodup
  |[],_,_,_=>by simp[ah]
  |p::l,hn,hh,hs=>by
   have hn':=List.nodup_cons.1 hn;have ih:=Hr hn'.2 hh (λ q hq=>hs q (List.mem_cons_of_mem _ hq));rw[aT,List.nodup_append];obtain⟨p',hp',e1⟩:=hs p List.mem_cons_self;refine⟨by rw[<-e1];exact kV hh hp',ih,λ x hx y hy e=> ?_⟩;subst e;obtain⟨q,hq,hqe⟩:=aU.1 hy;obtain⟨q',hq',e2⟩:=hs q (List.mem_cons_of_mem _ hq);have:=gJ hh p' hp' q' hq' (by rw[e1];exact hx) (by rw[e2];exact hqe);exact hn'.1 (List.mem_map.2 ⟨q,hq,by rw[<-e2,<-this,e1]⟩)
theorem Rel.Ls(R:Rel g N bs ρ a w st){σ:List (Nat×Nat)}{S:AS}(h:iw σ st S):∃ρ',Rel g N bs ρ' a w S:=⟨_,(R.ren h.nd).less h.le⟩
theorem Rel.nilRow(R:Rel g N bs ρ a w st)(t d:Nat)(e:TypeId)(s:Nat)(f:Nat->List AV)(ht:st.tmps t= .v (.slice none 0 0))(hs:0<s):Rel g N bs (dV ρ d (.slice none 0 0)) a w ((st.obj d d (.row e s 0 true f)).put t (.own d)):=by
 have R1:Rel g N bs (dV ρ d (.slice none 0 0)) a w (st.obj d d (.row e s 0 true f)):=by
  refine R.obj d d R.below (Nat.le_refl _) (λ _ _ _=>rfl) (λ b hb=>by cases hb) (λ _=> ?_);exact⟨[],by simpa[aB,dV]using World.ownsRow_nil w _ e s,hs,λ i hi=>absurd hi (by omega),(λ _ x hx=>by cases hx),aN.nil⟩
 refine⟨R1.size,R1.defers,R1.below,λ t'=> ?_,R1.objs,R1.apart,R1.own,R1.back⟩;show C2 _ (upd t (.own d) _ t') _;by_cases e':t'=t
 ·subst e';have h0:=R.tmps t';rw[ht]at h0;have h0:=C2.dN h0;simp only[upd,Nat.beq_refl,cond_true];show a.tmps.getD t' undef=fM (dV ρ d (.slice none 0 0) d);rw[h0];simp[dV,fM]
 ·simp only[upd,beq_false e',cond_false];exact R1.tmps t'
theorem Rel.aaM(R:Rel g N bs ρ a w st)(id k d:Nat)(e:TypeId)(s:Nat)(f:Nat->List AV){t:TypeId}{cs:List AV}(hs:0<s)(hf:aQ id (st.obj d d (.row e s 0 true f)).heap=some (.box t cs))(hk:cs[k]? =some (.v (.slice none 0 0))):
  Rel g N bs (dV ρ d (.slice none 0 0)) a w ⟨(st.obj d d (.row e s 0 true f)).sl,setObj id (.box t (cs.set k (.own d))) (st.obj d d (.row e s 0 true f)).heap,(st.obj d d (.row e s 0 true f)).back,(st.obj d d (.row e s 0 true f)).base⟩:=by
 have R1:Rel g N bs (dV ρ d (.slice none 0 0)) a w (st.obj d d (.row e s 0 true f)):=by
  refine R.obj d d R.below (Nat.le_refl _) (λ _ _ _=>rfl) (λ b hb=>by cases hb) (λ _=> ?_);exact⟨[],by simpa[aB,dV]using World.ownsRow_nil w _ e s,hs,λ i hi=>absurd hi (by omega),(λ _ x hx=>by cases hx),aN.nil⟩
 obtain⟨b,us,e',hh,ha⟩:=R1.objs _ (aA hf);have e':dV ρ d (.slice none 0 0) id=_:=e';refine R1.write hf (b:=b) (by rw[e'];exact List.mem_cons_self) (Below.refl _ _) rfl (λ _ _=>rfl) (λ hk' hm=> ?_);refine⟨b,us,e',hh,by rw[List.length_set];exact ha.1,λ i x u hx hu=> ?_⟩;by_cases hi:i=k
 ·subst hi;have hlt:i<cs.length:=(List.getElem?_eq_some_iff.1 hk).1;rw[List.getElem?_set_self hlt]at hx;cases hx;have h0:u= .slice none 0 0:=ha.2 i _ u hk hu;show u=fM (dV ρ d (.slice none 0 0) d);rw[h0];simp[dV,fM]
 ·rw[List.getElem?_set_ne (λ h=>hi h.symm)]at hx;exact C0.same (X:=aB g w (dV ρ d (.slice none 0 0)) (st.obj d d (.row e s 0 true f)).heap) (Y:=aB g w (dV ρ d (.slice none 0 0)) (setObj id (.box t (cs.set k (.own d))) (st.obj d d (.row e s 0 true f)).heap)) hk' hm rfl (ha.2 i x u hx hu)
theorem Lu(lv:Nat):∀(l:List (Nat×AV))(t:Nat),xU (Jf lv l) t=bif RU lv t then xU l t else .junk
 |[],t=>by simp[Jf,xU]
 |(k,v)::l,t=>by
  have ih:=Lu lv l t;simp only[Jf];cases hk:RU lv k with
  |true=>
   simp only[cond_true,xU];cases hb:Nat.beq t k with
   |true=>
    obtain rfl:=Nat.eq_of_beq_eq_true hb;rw[hk];rfl
   |false=>exact ih
  |false=>
   simp only[cond_false,xU];rw[ih];cases hb:Nat.beq t k with
   |true=>
    obtain rfl:=Nat.eq_of_beq_eq_true hb;rw[hk];rfl
   |false=>rfl
theorem Rel.yC(R:Rel g N bs ρ a w st)(lv:Nat):Rel g N bs ρ a w (st.yC lv):=by
 refine⟨R.size,R.defers,R.below,λ t=> ?_,R.objs,R.apart,R.own,R.back⟩;have:=R.tmps t;show C2 _ (xU (Jf lv st.sl) t) _;rw[Lu];cases RU lv t with
 |true=>exact this
 |false=>trivial
theorem LC{c:Code}{body:(jK->AS->Prop)->AS->Prop}(hc:∀{Q:jK->AS->Prop}{E:Exit->Act->World->Prop}{ρ:Nat->Value}{a:Act}{w:World}{st:AS},qOf g N bs Q E->Rel g N bs ρ a w st->body Q st->c.wp P E a w){Q:jK->AS->Prop}{E:Exit->Act->World->Prop}(hq:qOf g N bs Q E)
  (X:Type)(S:X->AS)(m:X->Nat)(B:X->AS->Prop)(hB:∀x st' ρ' a' w',B x st'->Rel g N bs ρ' a' w' st'-> ∃y ρ',Rel g N bs ρ' a' w' (S y)/\m y<m x)
  (hb:∀x,body (λ e st'=>match e with| .normal=>B x st'| .exit i=>Q (.exit i) st'| .ret=>Q .ret st') (S x)){a:Act}{w:World}(h0:∃x ρ',Rel g N bs ρ' a w (S x)):(Code.loop c).wp P E a w:=by
 have hex:∀a w,(∃x ρ,Rel g N bs ρ a w (S x))-> ∃n,∃x ρ,Rel g N bs ρ a w (S x)/\m x=n:=λ a w ⟨x,ρ,h⟩=>⟨m x,x,ρ,h,rfl⟩;refine wp_loop (λ a w=> ∃x ρ,Rel g N bs ρ a w (S x)) (λ a w=>least (λ n=> ∃x ρ,Rel g N bs ρ a w (S x)/\m x=n)) h0 ?_;intro a w hI;obtain⟨x,ρ,Rx,hx⟩:=EJ (hex a w hI);refine hc (Q:=λ e st'=>match e with| .normal=>B x st'| .exit i=>Q (.exit i) st'| .ret=>Q .ret st') ⟨?_, ?_, ?_⟩ Rx (hb x)
 ·intro ρ' a' w' st' R' hBx;obtain⟨y,ρy,Ry,hlt⟩:=hB x st' ρ' a' w' hBx R';refine⟨⟨y,ρy,Ry⟩, ?_⟩;have:=least_le (p:=λ n=> ∃x ρ,Rel g N bs ρ a' w' (S x)/\m x=n) ⟨y,ρy,Ry,rfl⟩;omega
 ·intro i ρ a w st R h;exact hq.2.1 i ρ a w st R h
 ·intro ρ a w st R h;exact hq.2.2 ρ a w st R h
theorem VO{c:Code}{body:(jK->AS->Prop)->AS->Prop}(hc:∀{Q:jK->AS->Prop}{E:Exit->Act->World->Prop}{ρ:Nat->Value}{a:Act}{w:World}{st:AS},qOf g N bs Q E->Rel g N bs ρ a w st->body Q st->c.wp P E a w){Q:jK->AS->Prop}{E:Exit->Act->World->Prop}(hq:qOf g N bs Q E){st:AS}(h:aK body Q st):
  ∀{ρ:Nat->Value}{a:Act}{w:World},Rel g N bs ρ a w st->(Code.loop c).wp P E a w:=by
 induction h with
 |nil t d e s f ht hs h ih=>exact λ R=>ih (R.nilRow t d e s f ht hs)
 |Vu id k d e s f hs hf hk h ih=>exact λ R=>ih (R.aaM id k d e s f hs hf hk)
 |G5 id hf h ih=>exact λ R=>ih (R.freeze hf).1
 |imp S h0 h ih=>
  intro ρ a w R;obtain⟨ρ',R'⟩:=h0 g N bs ρ a w R;exact ih R'
 |rounds n h=>
  intro ρ a w R;refine wp_loop_rounds n ?_;have key:∀n{ρ:Nat->Value}{a:Act}{w:World}{st:AS},Rel g N bs ρ a w st->zK body Q n st->Code.rounds P c E n a w:=by
   intro n;induction n with
   |zero=>intro ρ a w st R h;exact h.elim
   |succ n ih=>
    intro ρ a w st R h;rw[rounds_succ];refine hc (Q:=λ e st'=>match e with| .normal=>zK body Q n st'| .exit i=>Q (.exit i) st'| .ret=>Q .ret st') ⟨?_, ?_, ?_⟩ R h
    ·intro ρ a w st R h;exact ih R h
    ·intro i ρ a w st R h;exact hq.2.1 i ρ a w st R h
    ·intro ρ a w st R h;exact hq.2.2 ρ a w st R h
  exact key n R h
 |mkI X S m x0 h0 hb=>
  intro ρ a w R;exact LC hc hq X S m _ (λ x st' ρ' a' w' hB R'=>by
   obtain⟨y,hy,hlt⟩:=hB;obtain⟨ρy,Ry⟩:=hy g N bs ρ' a' w' R';exact⟨y,ρy,Ry,hlt⟩) hb ⟨x0,h0 g N bs ρ a w R⟩
 |mk X S m x0 σ h0 hb=>
  intro ρ a w R;exact LC hc hq X S m _ (λ x st' ρ' a' w' hB R'=>by
   obtain⟨y,σ,hy,hlt⟩:=hB;obtain⟨ρy,Ry⟩:=R'.Ls hy;exact⟨y,ρy,Ry,hlt⟩) hb ⟨x0,R.Ls h0⟩
theorem mW(hL:bQ P L){W:Walk}(hW:KD P W)(lv:Nat):∀(c:Code){Q:jK->AS->Prop}{E:Exit->Act->World->Prop}{ρ:Nat->Value}{a:Act}{w:World}{st:AS},qOf g N bs Q E->Rel g N bs ρ a w st->kD P L W N lv c Q st->c.wp P E a w
 | .skip,Q,E,ρ,a,w,st,hq,R,h=>wp_skip (hq.1 _ _ _ _ R h)
 | .region id ops draw,Q,E,ρ,a,w,st,hq,R,h=>by
   cases draw with
   |true=>
    have h:kG P L W N id ops (λ st'=>nrm lv st' (Q .normal)) st:=h;cases h with
    |quiet hm hB hqq h=>
     refine wp_region_quiet (C:=λ w'=>w'=w.drew) hm hB rfl ?_;have R':Rel g N bs ρ a w.drew st:=R.world (Below.refl _ _).drew;exact Ae hL (E:=λ a w=>E .normal a w) (ops:=ops.toList) (λ a w1 st R h=>hq.1 _ a w1 _ (R.yC lv) (Jj lv st (Q .normal)▸h)) ops.toList hqq R' h
    |sem h=>exact h g bs ρ a w E R (λ ρ a w st R h=>hq.1 ρ a w _ (R.yC lv) (Jj lv st (Q .normal)▸h))
   |false=>
    have h:vk P L W N ops.toList (λ st'=>nrm lv st' (Q .normal)) ops.toList st:=h;refine wp_region_list ?_;have:=Lr (QQ:=E) hL hW (λ a w ρ st R h=>hq.1 ρ a w _ (R.yC lv) (Jj lv st (Q .normal)▸h)) ops.toList R h;simpa using this
 | .seq x y,Q,E,ρ,a,w,st,hq,R,h=>by
   refine wp_seq (mW hL hW lv x (Q:=λ e st'=>match e with| .normal=>kD P L W N lv y Q st'| .exit i=>Q (.exit i) st'| .ret=>Q .ret st') ⟨?_, ?_, ?_⟩ R h)
   ·intro ρ a w st R h;exact mW hL hW lv y hq R h
   ·intro i ρ a w st R h;exact hq.2.1 i ρ a w st R h
   ·intro ρ a w st R h;exact hq.2.2 ρ a w st R h
 | .cond c x y,Q,E,ρ,a,w,st,hq,R,h=>by
   simp only[kD]at h;split at h
   ·rename_i t et;have hc:=R.ev c;rw[et]at hc;have hc:=C2.dN hc;cases t with
    |true=>exact wp_cond hc (by simpa using mW hL hW lv x hq R h)
    |false=>exact wp_cond hc (by simpa using mW hL hW lv y hq R h)
   ·exact h.elim
 | .block id c,Q,E,ρ,a,w,st,hq,R,h=>by
   refine wp_block (mW hL hW lv c (Q:=λ e st'=>match e with| .normal=>Q .normal st'| .exit i=>(bif Nat.beq i id then Q .normal st' else Q (.exit i) st')| .ret=>Q .ret st') ⟨?_, ?_, ?_⟩ R h)
   ·intro ρ a w st R h;exact hq.1 ρ a w st R h
   ·intro i ρ a w st R h;dsimp only at h;show Exit.inBlock id E (.exit i) a w;simp only[Exit.inBlock];cases hb:Nat.beq i id with
    |true=>
     rw[hb]at h;rw[if_pos (Nat.eq_of_beq_eq_true hb)];exact hq.1 ρ a w st R h
    |false=>
     rw[hb]at h;rw[if_neg (λ e=>by rw[e]at hb;simp at hb)];exact hq.2.1 i ρ a w st R h
   ·intro ρ a w st R h;exact hq.2.2 ρ a w st R h
 | .loop c,Q,E,ρ,a,w,st,hq,R,h=>VO (body:=kD P L W N lv c) (λ hq R h=>mW hL hW lv c hq R h) hq h R
 | .exit id,Q,E,ρ,a,w,st,hq,R,h=>wp_exit (hq.2.1 id ρ a w st R h)
 | .ret,Q,E,ρ,a,w,st,hq,R,h=>wp_ret (hq.2.2 ρ a w st R h)
 | .rangeFunc ..,_,E,ρ,a,w,_,hq,R,⟨h⟩=>h g bs E ρ a w hq R
 | .scope _,_,E,ρ,a,w,_,hq,R,⟨h⟩=>h g bs E ρ a w hq R
 | .label _,_,E,ρ,a,w,_,hq,R,⟨h⟩=>h g bs E ρ a w hq R
 | .goto _,_,E,ρ,a,w,_,hq,R,⟨h⟩=>h g bs E ρ a w hq R
 | .refuse _,_,E,ρ,a,w,_,hq,R,⟨h⟩=>h g bs E ρ a w hq R
theorem fF(hL:bQ P L):∀n,KD P (Cm P L n)
 |0=>λ _ _ _ _ _ _ _ _ _ _ _ _ _ h=>h.elim
 |n+1=>λ _ _ lv _ c _ _ _ _ _ _ hq R h=>mW hL (fF hL n) lv c hq R h
end
section
variable{P:Program}{L:Lay}{g:Base}{N:Nat}{bs:List (Array Value)}{ρ:Nat->Value}{a:Act}{w:World}{st:AS}
theorem DL{k:Nat->Prop}(hk:∀b,aI g w ρ st.heap b->k b){x:AV}{u:Value}(hr:∀y,Reads st ρ w k y)(h:C2 (aB g w ρ st.heap) x u):C1 ⟨w,k,λ _=>undef⟩ (Oy st.heap x) u:=
 QE hk (.eq x) (hr x) (λ _ _ c _=>hr c) h
theorem Jw{k:Nat->Prop}(hk:∀b,aI g w ρ st.heap b->k b){id d:Nat}{ρ':Nat->Value}(hd:ρ' d=ρ id){x:AV}{u:Value}(hr:∀i,i≠id->Reads st ρ w k (.own i))(h:C0 (aB g w ρ st.heap) x u):C0 ⟨w,k,ρ'⟩ (YF st.heap id d x) u:=by
 cases x with
 |own i=>
  simp only[YF];cases hb:Nat.beq i id with
  |true=>
   obtain rfl:=Nat.eq_of_beq_eq_true hb;show u=fM (ρ' d);rw[hd];exact h
  |false=>
   have hne:i≠id:=λ e=>by rw[e]at hb;simp at hb
   have:=xu hk (hr i hne) h;revert this;simp only[Gt,cond_false];cases aQ i st.heap with
   |none=>exact λ h=>h
   |some o=>cases o<;>exact λ h=>h
 |v y=>exact h
 |sl s n sc f=>exact PC.mono hk (λ _ _=>rfl) h
 |_=>trivial
theorem qY{k:Nat->Prop}(hk:∀b,aI g w ρ st.heap b->k b){id d:Nat}{ρ':Nat->Value}(hd:ρ' d=ρ id){x:AV}{u:Value}(hr:∀i,i≠id->Reads st ρ w k (.own i))(h:C2 (aB g w ρ st.heap) x u):C1 ⟨w,k,ρ'⟩ (aaE st.heap id d x) u:=by
 cases x with
 |agg cs=>
  obtain⟨us,rfl,ha⟩:=C2.qW h;exact⟨us,rfl,ha.mD λ _ _=>Jw hk hd hr⟩
 |own i=>exact C1.sH (Jw hk hd hr (x:= .own i) h)
 |v y=>exact h
 |sl s n sc f=>exact C1.sH (Jw hk hd hr (x:= .sl s n sc f) h)
 |_=>trivial
theorem VP(hL:bQ P L)(lv:Nat){f:FuncId}{fn:Func}{c:Code}{bD:List AV}{r:AV}{hh:List (Nat×AO)}(hf:P.funcs[f]? =some fn)(hn:(fn.name== "runtime.NumGoroutine")=false)(hb:fn.body=some c)(hsz:Nat.ble bD.length fn.ntmps=true)
  (h:Cm P L 9 fn.ntmps lv c (KO L fn r hh) (start bD)):aC P f bD r hh:=by
 refine⟨⟨fn,c,hf,hn,hb⟩,λ w keep args hkeep hargs=> ?_⟩;have hsz:=Nat.le_of_ble_eq_true hsz;have hlen:args.length=bD.length:=hargs.1.symm;refine calls_of_wp hf hb ?_;let g:Base:=base0 w keep;have EK:aN (C2 (aB g w (λ _=>undef) [])) bD args:=hargs.imp λ _ _ h=>C2.kF (C1.same (X:=⟨w,keep,λ _=>undef⟩) (Y:=aB g w (λ _=>undef) []) (λ b hb=>⟨hkeep b hb,λ _=> .inl hb,by simp[ah]⟩) (λ _ _=>rfl) rfl h);have R0:Rel g fn.ntmps [] (λ _=>undef) {tmps:=args.toArray++Array.replicate (fn.ntmps-args.toArray.size) undef,defers:=[]} w (start bD):=
  ⟨by simp;omega,rfl,gy.refl _ _ _,qX EK hsz,(λ p hp=>by cases hp),by simp[start,ah],(λ b hb=>by simp[start,ah]at hb),trivial⟩
 have fin:∀(e:Exit),(e= .normal\/e= .ret)-> ∀ρ a w' st,Rel g fn.ntmps [] ρ a w' st->qO L st fn.results.toList (λ x=>aO st x r hh)->
   bodyPost P fn (λ e w'=> ∃u ρ,e= .returned u/\Below w.heap.size w w'/\C2 (aB (base0 w keep) w' ρ hh) r u/\(∀p∈hh,bn (aB (base0 w keep) w' ρ hh) p.1 p.2)/\(ah ρ hh).Nodup/\ ∀b∈ah ρ hh,w.heap.size<=b) e a w':=by
  intro e he ρ a w' st R hq;obtain⟨x,u,hret,hc,hrun⟩:=DJ hL R hq;have post:a.defers=[]/\ ∃v,(results fn a.tmps).run P w'= .ok v w'/\ ∃u ρ,Ending.returned v= .returned u/\Below w.heap.size w w'/\C2 (aB (base0 w keep) w' ρ hh) r u/\(∀p∈hh,bn (aB (base0 w keep) w' ρ hh) p.1 p.2)/\(ah ρ hh).Nodup/\ ∀b∈ah ρ hh,w.heap.size<=b:=by
   have hbel:Below w.heap.size w w':=R.below.less λ _ h=>h;have hlt':∀{b:Nat},b∈ah ρ st.heap->g.w.heap.size<=b:=λ{b} h=>(R.own b h).elim id False.elim;refine⟨R.defers,u,hrun, ?_⟩;cases hret with
   |plain _ hr=>
    let k:Nat->Prop:=aI g w' (λ _=>undef) [];have hk:∀b,aI g w' ρ st.heap b->k b:=λ b h=>⟨h.1,h.2.1,by simp[ah]⟩;have rd:∀y,Reads st ρ w' k y:=λ y id e s n sc f _ hf=>nR R hf hk λ b hb=>by
     have hin:=aU.2 ⟨_,aA hf,hb⟩;have:=R.iq hin;exact⟨this.1,λ hlt=>absurd hlt (by have:=hlt' hin;omega),by simp[ah]⟩
    refine⟨u,λ _=>undef,rfl,hbel,hr _ _ ?_,(λ p hp=>by cases hp),by simp[ah],(λ b hb=>by simp[ah]at hb)⟩;cases x with
    |bJ vs=>
     obtain⟨us,rfl,ha⟩:=C2.zN hc;exact⟨us,rfl,ha.mD λ y v hy=>DL hk rd (C2.kF hy)⟩
    |_=>exact C2.kF (DL hk rd hc)
   |nil d e s f hx hs=>
    subst hx;obtain rfl:=C2.dN hc;have hb:ah (λ _:Nat=>Value.slice none 0 0) [(d,AO.row e s 0 true f)]=[]:=rfl;refine⟨.slice none 0 0,λ _=> .slice none 0 0,rfl,hbel,rfl,λ p hp=> ?_,by rw[hb];exact List.nodup_nil,λ b hb'=>by rw[hb]at hb';cases hb'⟩;obtain rfl:=List.mem_singleton.1 hp;exact⟨[],World.ownsRow_nil w' _ e s,hs,λ i hi=>absurd hi (by omega),(λ _ x hx=>by cases hx),aN.nil⟩
   |own id d _ e s n sc f o' hfo ho hr=>
    have hin:=aA hfo;let ρ':Nat->Value:=λ i=>if i=d then ρ id else undef
    have EL:ρ' d=ρ id:=by simp[ρ']
    have hbl:∀o'':AO,ah ρ' [(d,o'')]=blks (ρ id):=by intro o'';rw[aT];simp[ρ',ah]
    let k:Nat->Prop:=aI g w' ρ' [(d,o')];have hk:∀b,aI g w' ρ st.heap b->k b:=λ b h=>⟨h.1,h.2.1,λ hb=>h.2.2 (by
     rw[hbl]at hb;exact aU.2 ⟨_,hin,hb⟩)⟩
    have rd:∀i,i≠id->Reads st ρ w' k (.own i):=λ i hi j e s n sc f hij hf=>nR R hf hk λ b hb=>by
     cases hij;have hin0:=aU.2 ⟨_,aA hf,hb⟩;have:=R.iq hin0;refine⟨this.1,λ hlt=>absurd hlt (by have:=hlt' hin0;omega),λ hin'=> ?_⟩;rw[hbl]at hin';exact hi (gJ R.apart _ (aA hf) _ hin hb hin')
    refine⟨u,ρ',rfl,hbel,hr _ _ ?_, ?_, ?_, ?_⟩
    ·cases x with
     |bJ vs=>
      obtain⟨us,rfl,ha⟩:=C2.zN hc;exact⟨us,rfl,ha.mD λ y v hy=>qY hk EL rd (C2.kF hy)⟩
     |agg cs=>exact C2.kF (qY hk EL rd hc)
     |v y=>exact hc
     |own i=>exact C2.kF (qY hk EL rd (x:= .own i) hc)
     |sl s n sc f=>exact C2.kF (qY hk EL rd (x:= .sl s n sc f) hc)
     |_=>trivial
    ·intro p hp;simp only[List.mem_singleton]at hp;subst hp;refine ho _ _ ?_;obtain⟨us,hown,hs,hfl,hsc,ha⟩:=R.objs _ hin;exact⟨us,by simpa[aB,EL]using hown,hs,hfl,hsc,ha.imp λ _ _=>PC.mono hk (λ _ _=>rfl)⟩
    ·rw[hbl];exact kV R.apart hin
    ·intro b hb;rw[hbl]at hb;exact hlt' (aU.2 ⟨_,hin,hb⟩)
  rcases he with rfl|rfl
  ·exact post
  ·exact post
 exact fF hL 9 g fn.ntmps lv [] c (KO L fn r hh) _ ⟨λ ρ a w' st R h=>fin _ (.inl rfl) ρ a w' st R h,λ i ρ a w' st R h=>h.elim,λ ρ a w' st R h=>fin _ (.inr rfl) ρ a w' st R h⟩ R0 h
end
end Go.Proofs.YtopfgjgdadnjeaaGreat
