/-
  Contracts of the walk:AmB.
-/
import Derived.Test.YtifjccndenojlaaGreatWf3
import Derived.Laws.OwnMore
set_option maxHeartbeats 16000000
set_option maxRecDepth 100000
set_option linter.unusedVariables false
set_option linter.unusedSimpArgs false
namespace Go.Proofs.YtifjccndenojlaaGreat
open Go.RowKit
variable{X:CX}{h:List (Nat×AO)}{ρ:Nat->Value}{u:Value}
section
variable{P:Program}{L:Lay}{g:Base}{N:Nat}{bs:List (Array Value)}{ρ:Nat->Value}{a:Act}{w:World}{st:AS}
theorem cells_one{u:Value}(h:u.oneCell'=true):u.cells.toList=[u]:=by cases u<;>first|rfl|(simp[Value.oneCell']at h)
theorem Q8(R:Rel g N bs ρ a w st){x:AV}{u:Value}(h:C0 (aC g w ρ st.heap) x u)(ho:BF st.heap x=true):u.oneCell'=true:=by
 cases x with
 |v y=>cases h;exact ho
 |sl s n sc f=>
  cases(h)with
  |sl=>rfl
 |own id=>
  have hu:u=dJ (ρ id):=h;simp only[BF]at ho;cases hf:aK id st.heap with
  |none=>rw[hf]at ho;cases ho
  |some o=>
   rw[hf]at ho;cases o with
   |box=>cases ho
   |row e s n sc f=>
    obtain⟨us,hown,_⟩:=R.objs _ (aA hf);have hown:w.ownsRow 0 e s (ρ id) n us:=hown;rcases hown.2 with⟨hv,_⟩|⟨b,cap,cur,hv,_⟩<;>rw[hu,hv]<;>rfl
   |mp t ks rs=>
    obtain⟨b,es,c,vs,hs,e,_⟩:=R.objs _ (aA hf);have e:ρ id=_:=e;rw[hu,e];rfl
   |obs o=>
    obtain⟨us,e,hr⟩:=R.objs _ (aA hf);rw[hu];exact(o.lt hr).2.1
   |rn e cs=>
    obtain⟨us,⟨hown,_⟩,_⟩:=R.objs _ (aA hf);have hown:w.ownsRow 0 e 1 (ρ id) cs.length us:=hown;rcases hown.2 with⟨hv,_⟩|⟨b,cap,cur,hv,_⟩<;>rw[hu,hv]<;>rfl
 |dG id s i k=>obtain⟨b,n,c,_,rfl⟩:=h;rfl
 |jH id s i k=>rcases h with⟨b,c,_,_,rfl⟩|⟨_,A,c,rfl⟩<;>rfl
 |box id k=>obtain⟨b,_,rfl⟩:=h;rfl
 |cf gg id k=>obtain⟨b,_,rfl⟩:=h;unfold cfV;cases Nat.blt gg million<;>cases Nat.blt gg jQ<;>rfl
 |el cs k=>obtain⟨b,o,us,rfl,_⟩:=h;rfl
 |agg cs=>cases ho
 |bI cs=>cases ho
 |fn gg cs=>cases ho
 |junk=>cases ho
theorem Ap(R:Rel g N bs ρ a w st){x:AV}{xs:List AV}{u:Value}(h:C2 (aC g w ρ st.heap) x u)(hc:x.cells? =some xs)(hone:xs.all (BF st.heap)=true):
  aG (C0 (aC g w ρ st.heap)) xs u.cells.toList/\ ∀y∈u.cells.toList,y.oneCell'=true:=by
 have key:aG (C0 (aC g w ρ st.heap)) xs u.cells.toList:=by
  have one:∀{x:AV},x.cells? =some [x]->xs=[x]->C0 (aC g w ρ st.heap) x u->aG (C0 (aC g w ρ st.heap)) xs u.cells.toList:=by
   intro x _ e h0;subst e;have:=Q8 R h0 (by simpa using hone);rw[cells_one this];exact aG.cons h0 aG.nil
  cases x with
  |agg cs=>
   obtain⟨us,rfl,ha⟩:=C2.uj h;simp only[AV.cells?,aoJ]at hc;subst hc;simpa[Value.cells]using ha
  |bI vs=>cases hc
  |fn gg cs=>
   cases cs with
   |cons c cs=>
    cases cs with
    |cons c' cs=>cases hc
    |nil=>
     cases c<;>simp only[AV.cells?,alZ]at hc<;>first|(cases hc;done)|skip
     rename_i id off;cases hb:Nat.blt gg million with
     |false=>rw[hb]at hc;cases hc
     |true=>
     rw[hb]at hc;simp only[cond_true,aoJ]at hc;subst hc;obtain⟨us,rfl,hl,hu⟩:=C2.FU h;match us,hl,hu with
     |[u],_,hu=>
      obtain⟨b,h1,rfl⟩:C0 _ (.box id off) u:=hu 0 _ _ rfl rfl;exact aG.cons ⟨b,h1,by unfold cfV;rw[hb];rfl⟩ aG.nil
   |nil=>
    simp only[AV.cells?,aoJ]at hc;subst hc;obtain⟨us,rfl,hl,_⟩:=C2.FU h;have hu:=aoz hl.symm;subst hu;exact aG.cons rfl aG.nil
  |junk=>
   simp only[AV.cells?,aoJ]at hc;subst hc;simp[BF]at hone
  |v y=>exact one (x:= .v y) rfl (by simpa[AV.cells?]using hc.symm) h
  |sl s n sc f=>exact one (x:= .sl s n sc f) rfl (by simpa[AV.cells?]using hc.symm) h
  |own id=>exact one (x:= .own id) rfl (by simpa[AV.cells?]using hc.symm) h
  |dG id s i k=>exact one (x:= .dG id s i k) rfl (by simpa[AV.cells?]using hc.symm) h
  |jH id s i k=>exact one (x:= .jH id s i k) rfl (by simpa[AV.cells?]using hc.symm) h
  |box id k=>exact one (x:= .box id k) rfl (by simpa[AV.cells?]using hc.symm) h
  |cf gg id k=>exact one (x:= .cf gg id k) rfl (by simpa[AV.cells?]using hc.symm) h
  |el cs k=>exact one (x:= .el cs k) rfl (by simpa[AV.cells?]using hc.symm) h
 refine⟨key,λ y hy=> ?_⟩;obtain⟨i,hi,rfl⟩:=ape hy;have hx:xs[i]? =some (xs[i]'(by rw[key.1];exact hi)):=aom _;have h0:=key.2 i _ _ hx (aom hi);exact Q8 R h0 (aoD.1 hone _ (ao1 _))
theorem Rel.aed(R:Rel g N bs ρ a w st)(d:Nat)(t:TypeId){cs:List AV}{us:List Value}(ha:aG (C0 (aC g w ρ st.heap)) cs us):
  Rel g N bs (cu ρ d (.pointer (some ⟨w.heap.size,0,none⟩))) a (w.alloc (.cells us.toArray t)) (st.obj d d (.box t cs)):=by
 refine R.obj d d (R.below.alloc R.below.size _) s_ (λ b hb _=>aqM w _ b hb) (λ b hb=> ?_) (λ hE=> ?_)
 ·rw[aoo.1 hb];exact .inl (aoH _)
 ·exact⟨w.heap.size,us,by simp[aC,cu],heap_alloc_new w _,ha.pW λ _ _=>C0.ext hE⟩
theorem oJ{s:Nat}{n:Nat}{f:Nat->List AV}(h:∀i,i<n->(f i).length=s):(flat n f).length=n*s:=oH.flat_length h
theorem jJ:∀{n:Nat}{f f':Nat->List AV},(∀i,i<n->f i=f' i)->flat n f=flat n f'
 |0,_,_,_=>rfl
 |n+1,f,f',h=>by
  show f 0++_=f' 0++_;rw[h 0 o_,jJ (λ i hi=>h (i+1) o_)]
theorem BZ{s:Nat}:∀{n:Nat}{cs:List AV},cs.length=n*s->flat n (chunk s cs)=cs
 |0,cs,h=>by
  have:cs=[]:=aoz (by simpa using h);subst this;rfl
 |n+1,cs,h=>by
  show chunk s cs 0++flat n (λ i=>chunk s cs (i+1))=cs;have e:(λ i=>chunk s cs (i+1))=chunk s (cs.drop s):=by
   funext i
   simp[chunk,aqd,Nat.add_comm]
  rw[e,BZ (by rw[aoK,h,aqd];omega)];simp[chunk]
theorem Oo{s n:Nat}{cs:List AV}(h:cs.length=n*s):∀i,i<n->(chunk s cs i).length=s:=by
 intro i hi;have:(i+1)*s<=n*s:=apx _ hi;rw[aqd]at this;rw[chunk,aou,aoK];omega
theorem Q9{x:AV}{X:CX}{u:Value}(h:C0 X x u)(hp:Oi x=true):PC X.w X.keep x u:=by
 cases x with
 |v y=>cases h;exact .v _ hp
 |sl s n sc f=>exact h
 |_=>cases hp
theorem Rel.newRow(R:Rel g N bs ρ a w st)(d:Nat)(e:TypeId){s n:Nat}{sc:Bool}{f:Nat->List AV}{us:List Value}(hs:0<s)(hn:n<=maxLen)(hf:∀i,i<n->(f i).length=s)(hsc:sc=true-> ∀x∈flat n f,∃y,x= .v y)
  (ha:aG (PC w (aJ g w ρ st.heap)) (flat n f) us):
  Rel g N bs (cu ρ d (.slice (some ⟨w.heap.size,0,none⟩) n n)) a (w.alloc (.cells us.toArray e)) (st.obj d d (.row e s n sc f)):=by
 refine R.obj d d (R.below.alloc R.below.size _) s_ (λ b hb _=>aqM w _ b hb) (λ b hb=> ?_) (λ hE=> ?_)
 ·rw[aoo.1 hb];exact .inl (aoH _)
 ·have hlen:us.length=n*s:=by rw[<-ha.1,oJ hf]
  refine⟨us,⟨hlen,.inr ⟨w.heap.size,n,us.toArray,by simp[aC,cu],aoB _,heap_alloc_new w _,aoH _,hn,by simpa using hlen, ?_⟩⟩,hs,hf,hsc,ha.imp λ _ _=>PC.mono hE.keep hE.mem⟩;rw[<-hlen];exact apH
theorem Rel.al2(R:Rel g N bs ρ a w st)(d:Nat)(e:TypeId){n:Nat}{cs:List AV}{us:List Value}(hn:n<=maxLen)(ha:aG (C0 (aC g w ρ st.heap)) cs us)(hone:cs.all (BF st.heap)=true)(hcn:cs.length=n):
  Rel g N bs (cu ρ d (.slice (some ⟨w.heap.size,0,none⟩) n n)) a (w.alloc (.cells us.toArray e)) (st.obj d d (.rn e cs)):=by
 refine R.obj d d (R.below.alloc R.below.size _) s_ (λ b hb _=>aqM w _ b hb) (λ b hb=> ?_) (λ hE=> ?_)
 ·rw[aoo.1 hb];exact .inl (aoH _)
 ·have hlen:us.length=n:=by rw[<-ha.1,hcn]
  refine⟨us,⟨⟨by simp[hlen,hcn],.inr ⟨w.heap.size,n,us.toArray,by simp[aC,cu,hcn],aoB _,heap_alloc_new w _,by simp[hcn],hn,by simp[hlen], ?_⟩⟩,λ u hu=> ?_⟩,ha.pW λ _ _=>C0.ext hE⟩
  ·grind
  ·obtain⟨i,hi,rfl⟩:=ape hu;exact Q8 R (ha.2 i _ _ (aom (by rw[ha.1];exact hi)) (aom hi)) (aoD.1 hone _ (ao1 _))
theorem UD(vs:List Value):∀(k:Nat)(off:Nat)(cells:Array Value),off+k+vs.length<=cells.size->
  ((vs.zipIdx k).foldl (λ cs (p:Value×Nat)=>cs.setIfInBounds (off+p.2) p.1) cells).toList=cells.toList.take (off+k)++(vs++cells.toList.drop (off+k+vs.length)):=by
 induction vs with
 |nil=>intro k off cells _;simp
 |cons v vs ih=>
  intro k off cells h;simp only[List.zipIdx_cons,aqz];simp only[aoE]at h;rw[ih (k+1) off _ (by simp;omega)];have e:=list_seg_step cells.toList (off+k) v vs (by simp;omega);have e1:off+(k+1)=off+k+1:=o_
  have e2:off+k+1+vs.length=off+k+(vs.length+1):=o_
  rw[e1];simpa[e2]using e
theorem IW(R:Rel g N bs ρ a w st){place:Nat->Option (Nat×Nat)}:∀{parts:List (Nat×AV)}{pv:List (Nat×Value)}{cs cs':List AV}{cells:Array Value},aG (C0 (aC g w ρ st.heap)) cs cells.toList->
 parts.length=pv.length->(∀(i:Nat)(p:Nat×AV)(q:Nat×Value),parts[i]? =some p->pv[i]? =some q->p.1=q.1/\C2 (aC g w ρ st.heap) p.2 q.2)->BJ st.heap place cs parts=some cs'->
 ∃cells':Array Value,Instr.fill place cells pv=some cells'/\aG (C0 (aC g w ρ st.heap)) cs' cells'.toList
 |[],pv,cs,cs',cells,ha,hl,_,h=>by
  have:pv=[]:=aoz (by simpa using hl.symm);subst this;simp only[BJ,aoJ]at h;subst h;exact⟨cells,rfl,ha⟩
 |(i,x)::r,[],_,_,_,_,hl,_,_=>by simp at hl
 |(i,x)::r,(j,v)::pv,cs,cs',cells,ha,hl,hp,h=>by
  obtain⟨hij,hc⟩:=hp 0 _ _ rfl rfl;dsimp only at hij hc;subst hij;simp only[BJ]at h;cases hpl:place i with
  |none=>simp[hpl]at h
  |some os=>
   obtain⟨o,s⟩:=os;cases hxs:x.cells? with
   |none=>simp[hpl,hxs]at h
   |some xs=>
    simp only[hpl,hxs]at h;cases hb:(Nat.beq xs.length s&&Nat.ble (o+xs.length) cs.length&&xs.all (BF st.heap))with
    |false=>rw[hb]at h;cases h
    |true=>
     rw[hb]at h;simp only[cond_true]at h;simp only[aon]at hb;obtain⟨⟨h1,h2⟩,h3⟩:=hb;have h1:=aos h1;have h2:=aox h2;obtain⟨hcells,_⟩:=Ap R hc hxs h3;have hlv:v.cells.size=xs.length:=by rw[<-aoY];exact hcells.1.symm
     have hlc:cells.size=cs.length:=by rw[<-aoY];exact ha.1.symm
     have hfold:(v.cells.zipIdx.foldl (λ cs (p:Value×Nat)=>cs.setIfInBounds (o+p.2) p.1) cells).toList=cells.toList.take o++(v.cells.toList++cells.toList.drop (o+v.cells.toList.length)):=by
      rw[<-Array.foldl_toList,Array.toList_zipIdx];exact UD v.cells.toList 0 o cells (by simp;omega)
     have hnew:aG (C0 (aC g w ρ st.heap)) (splice cs o xs) (v.cells.zipIdx.foldl (λ cs (p:Value×Nat)=>cs.setIfInBounds (o+p.2) p.1) cells).toList:=by
      rw[hfold];have:=(ha.take o).app (hcells.app (ha.drop (o+xs.length)));rw[show o+xs.length=o+v.cells.toList.length by rw[<-hcells.1]]at this;unfold splice;rw[show o+xs.length=o+v.cells.toList.length by rw[<-hcells.1]];exact this
     obtain⟨cells',hf,ha'⟩:=IW R hnew (by simpa using hl) (λ k p q hk hq=>hp (k+1) p q (by simpa using hk) (by simpa using hq)) h;refine⟨cells', ?_,ha'⟩;simp only[Instr.fill,hpl];rw[if_neg (by simp;omega)];exact hf
theorem JJ{X:CX}{cs xs:List AV}{us vs:List Value}(h:aG (C0 X) cs us)(k:Nat)(hx:aG (C0 X) xs vs):aG (C0 X) (splice cs k xs) (us.take k++vs++us.drop (k+vs.length)):=by
 unfold splice;rw[aoL,hx.1];exact(h.take k).app (hx.app (h.drop _))
theorem rJ{w:World}{b:Nat}{cs:Array Value}:Below b w (w.setRow b cs):=⟨rfl,rfl,rfl,by simp[World.setRow],λ k hk=>setRow_other w b k _ o_⟩
theorem kL(hL:bJ P L)(R:Rel g N bs ρ a w st){t:TypeId}{p x:AV}{pv xv:Value}(hp:C2 (aC g w ρ st.heap) p pv)(hx:C2 (aC g w ρ st.heap) x xv){K:AS->Prop}(h:XP L st t p x K):
  ∃st' w',K st'/\Rel g N bs ρ a w' st'/\(Instr.storeAt t pv xv).run P w= .ok () w':=by
 unfold XP at h;split at h
 ·rename_i i id k xs hi hxs;obtain⟨b,hb,rfl⟩:=C2.kJ hp;replace h:=kU h;obtain⟨hq,h⟩:=h;simp only[aon]at hq;have hsz:=aos hq.1;obtain⟨hcells,hone⟩:=Ap R hx hxs hq.2;split at h
  ·rename_i t' cs hfo;replace h:=kU h;obtain⟨hle,h⟩:=h;have hle:=aox hle;obtain⟨b',us,e,hh,ha⟩:=R.objs _ (aA hfo);have hb:dJ (ρ id)=_:=hb;have e:ρ id=_:=e;rw[e]at hb;cases hb;have hb:=e;have hlen:=hcells.1.symm;have hul:=ha.1.symm;have am8:xv.cells.size=xs.length:=by rw[<-aoY];exact hlen
   have hrun:=run_storeCells_at P b k t' xv.cells.toList 0 us.toArray w hh (by simp;omega) hone;have hnew:aG (C0 (aC g w ρ st.heap)) (splice cs k xs) (us.take (k+0)++xv.cells.toList++us.drop (k+0+xv.cells.toList.length)):=by
    have:=JJ ha k hcells;simpa using this
   refine⟨_,w.setRow b (us.toArray.toList.take (k+0)++xv.cells.toList++us.toArray.toList.drop (k+0+xv.cells.toList.length)).toArray,h, ?_, ?_⟩
   ·refine R.write hfo (by rw[hb];exact aol) rJ (by simp[World.setRow]) (λ k' hk'=>setRow_other w b k' _ o_) (λ hk hm=> ?_);exact⟨b,_,hb,setRow_heap w b _ _ t' _ hh,hnew.imp λ _ _=>C0.same (X:=aC g w ρ st.heap) (Y:=aC g _ ρ (setObj id _ st.heap)) hk hm rfl⟩
   ·have hsize:¬xv.cells.size≠i.size:=by
     rw[<-aoY,hlen,hsz];simp
    simp only[Instr.storeAt,aoy,aow,storeVar,gQ hL hi,if_neg hsize];exact hrun
  ·exact h.elim
 ·rename_i i id s j k xs hi hxs;obtain⟨b,n0,c0,hb,rfl⟩:=C2.DX hp;replace h:=kU h;obtain⟨hq,h⟩:=h;simp only[aon]at hq;have hsz:=aos hq.1;have hpure:=hq.2;have hone':xs.all (BF st.heap)=true:=by
   rw[aoD]at hpure⊢;intro y hy;have:=hpure y hy;cases y<;>first|exact this|rfl|(simp[Oi]at this)
  obtain⟨hcells,hone⟩:=Ap R hx hxs hone';split at h
  ·rename_i e s' n sc f hfo;replace h:=kU h;obtain⟨hs,h⟩:=h;simp only[aon]at hs;obtain rfl:=aos hs.1;have hks:=aox hs.2;replace h:=Oh h;obtain⟨hjn,h⟩:=h;obtain⟨us,hown,hs0,hfl,hsc,ha⟩:=R.objs _ (aA hfo);have hown:w.ownsRow 0 e s (ρ id) n us:=hown;have hb:ρ id=_:=hb;rw[hb]at hown;rcases hown.2 with⟨hv,_⟩|⟨b',cap,cur,hv,hB,hh,hnc,hcm,hcs,htake⟩
   ·cases hv
   ·simp only[Value.slice.injEq,aoJ,Addr.mk.injEq]at hv;obtain⟨⟨hv1,_⟩,hv2,hv3⟩:=hv;obtain rfl:=hv1;obtain rfl:=hv2.symm;obtain rfl:=hv3;have hlen:=hcells.1.symm;have hjs:(j+1)*s<=n*s:=apx _ hjn;rw[aqd]at hjs;have hns:n*s<=c0*s:=apx _ hnc;have hsize:xv.cells.size=xs.length:=by rw[<-aoY];exact hlen
    have hrun:=run_storeCells_at P b (j*s+k) e xv.cells.toList 0 cur w hh (by simp;omega) hone;have hpc:aG (PC w (aJ g w ρ st.heap)) xs xv.cells.toList:=⟨hcells.1,λ q y u hy hu=>Q9 (hcells.2 q y u hy hu) (aoD.1 hpure y (ao3 hy))⟩;have hf':∀m,m<n->((λ m=>bif Nat.beq m j then splice (f j) k xs else f m) m).length=s:=by
     intro m hm;dsimp only;cases hmj:Nat.beq m j with
     |false=>exact hfl m hm
     |true=>
      have:=hfl j o_;simp only[cond_true,splice,aop,aou,aoK];omega
    refine⟨_,w.setRow b (cur.toList.take (j*s+k+0)++xv.cells.toList++cur.toList.drop (j*s+k+0+xv.cells.toList.length)).toArray,h, ?_, ?_⟩
    ·refine R.write hfo (by rw[hb];exact aol) rJ (by simp[World.setRow]) (λ k' hk'=>setRow_other w b k' _ o_) (λ hk hm=> ?_);refine⟨us.take (j*s+k)++xv.cells.toList++us.drop (j*s+k+xv.cells.toList.length),⟨?_,.inr ⟨b,c0,_,hb,hB,setRow_heap w b _ _ e _ hh,hnc,hcm, ?_, ?_⟩⟩,hs0,hf', ?_, ?_⟩
     ·grind
     ·grind
     ·rw[<-htake];exact G9 cur.toList (j*s+k) xv.cells.toList (n*s) (by rw[hlen];omega) (by rw[aoY];omega)
     ·intro Rf y hy;simp only[aon]at Rf;exact X4 hy (hsc Rf.1) (by
       intro z hz;rcases aov.1 hz with h1|h1
       ·grind
       ·rcases aov.1 h1 with h2|h2
        ·right;have:=aoD.1 Rf.2 z h2;cases z<;>first|exact⟨_,rfl⟩|(simp[isV]at this)
        ·exact .inl (ap8 h2)) o_
     ·have hall:=UE ha hfl (show j<n by omega) (hks) hpc;rw[<-hlen]at hall;exact hall.imp λ _ _=>PC.mono hk hm
    ·have hsize':¬xv.cells.size≠i.size:=by rw[hsize,hsz];simp
     simp only[Instr.storeAt,aoy,aow,storeVar,gQ hL hi,if_neg hsize'];exact hrun
  ·exact h.elim
 ·exact h.elim
where
 G9 (l:List Value) (k:Nat) (vs:List Value) (m:Nat) (h:k+vs.length<=m) (hm:m<=l.length):((l.take (k+0)++vs++l.drop (k+0+vs.length)).toArray.toList).take m=(l.take m).take k++vs++(l.take m).drop (k+vs.length):=by
  simp only[aqL];rw[aqY,aqY,aqX,List.drop_take,aop,aou,ap5 (show k<=l.length by omega),Nat.min_eq_right o_];rw[aqX,ap5 o_,aoF (l:=vs) o_]
 X4 {n:Nat} {f:Nat->List AV} {j:Nat} {c:List AV} {y:AV} (hy:y∈flat n (λ m=>bif Nat.beq m j then c else f m)) (hf:∀x∈flat n f,∃y,x= .v y) (hc:∀z∈c,z∈f j\/ ∃y,z= .v y) (hj:j<n):∃z,y= .v z:=by
  have mem:∀{n:Nat}{f:Nat->List AV}{y:AV},y∈flat n f↔ ∃i,i<n/\y∈f i:=oK;obtain⟨i,hi,hyi⟩:=mem.1 hy;cases hb:Nat.beq i j with
  |false=>rw[hb]at hyi;exact hf y (mem.2 ⟨i,hi,hyi⟩)
  |true=>
   rw[hb]at hyi;rcases hc y hyi with h1|h1
   ·exact hf y (mem.2 ⟨j,hj,h1⟩)
   ·exact h1
 oK:∀{n:Nat}{f:Nat->List AV}{y:AV},y∈flat n f↔ ∃i,i<n/\y∈f i
   |0,f,y=>by simp[flat]
   |n+1,f,y=>by
    show y∈f 0++_↔_;rw[aov,oK];constructor
    ·grind
    ·rintro⟨i,hi,h⟩;cases i with
     |zero=>exact .inl h
     |succ i=>exact .inr ⟨i,o_,h⟩
 UE {R:AV->Value->Prop} {s:Nat} {xs:List AV} {vs:List Value} {k:Nat}:∀{n:Nat}{f:Nat->List AV}{us:List Value}{j:Nat},aG R (flat n f) us->(∀i,i<n->(f i).length=s)->j<n->k+xs.length<=s->aG R xs vs->
  aG R (flat n (λ m=>bif Nat.beq m j then splice (f j) k xs else f m)) (us.take (j*s+k)++vs++us.drop (j*s+k+xs.length))
  |0,_,_,_,_,_,h,_,_=>absurd h o_
  |n+1,f,us,0,ha,hl,_,hk,hx=>by
   have e0:flat (n+1) (λ m=>bif Nat.beq m 0 then splice (f 0) k xs else f m)=splice (f 0) k xs++flat n (λ i=>f (i+1)):=rfl;have e1:flat (n+1) f=f 0++flat n (λ i=>f (i+1)):=rfl;have h0:=hl 0 o_;rw[e1]at ha;have g1:=ha.take k;rw[aqt o_]at g1;have g2:=ha.drop (k+xs.length);rw[List.drop_append_of_le_length o_]at g2;rw[e0,splice,aqN,apl,aoL,aoL,aoL];exact g1.app (hx.app g2)
  |n+1,f,us,j+1,ha,hl,hj,hk,hx=>by
   have e0:flat (n+1) (λ m=>bif Nat.beq m (j+1)then splice (f (j+1)) k xs else f m)=f 0++flat n (λ m=>bif Nat.beq m j then splice (f (j+1)) k xs else f (m+1)):=rfl;have e1:flat (n+1) f=f 0++flat n (λ i=>f (i+1)):=rfl;have h0:=hl 0 o_;rw[e1]at ha;have g1:=ha.take s;rw[aqt o_,aoF o_]at g1;have g2:=ha.drop s;rw[<-h0,apE,h0]at g2;have ih:=UE (j:=j) g2 (λ i hi=>hl (i+1) o_) o_ hk hx;rw[e0];have:=g1.app ih;have e2:us.take ((j+1)*s+k)=us.take s++(us.drop s).take (j*s+k):=by
    rw[aqd,show j*s+s+k=s+(j*s+k) by omega,List.take_add]
   have e3:us.drop ((j+1)*s+k+xs.length)=(us.drop s).drop (j*s+k+xs.length):=by
    rw[aqg,aqd];congr 1;omega
   rw[e2,e3];simpa[aoL]using this
end
section
variable{P:Program}{L:Lay}{g:Base}{N:Nat}{bs:List (Array Value)}{ρ:Nat->Value}{a:Act}{w:World}{st:AS}
theorem UF(R:Rel g N bs ρ a w st)(parts:Array (Nat×Operand)):
  (parts.toList.map λ p=>(p.1,st.ev p.2)).length=((parts.map λ(i,x)=>(i,a.eval x)).toList).length/\
  ∀(i:Nat)(p:Nat×AV)(q:Nat×Value),(parts.toList.map λ p=>(p.1,st.ev p.2))[i]? =some p->((parts.map λ(i,x)=>(i,a.eval x)).toList)[i]? =some q->p.1=q.1/\C2 (aC g w ρ st.heap) p.2 q.2:=by
 refine⟨s_,λ i p q hp hq=> ?_⟩;rw[ao0]at hp;rw[Array.toList_map,ao0]at hq;cases hx:parts.toList[i]? with
 |none=>rw[hx]at hp;cases hp
 |some y=>
  rw[hx]at hp hq;cases hp;cases hq;exact⟨rfl,R.ev y.2⟩
theorem zq(hL:bJ P L)(w:World):∀{fields:List Field}{pl:List (Nat×Nat)},placesOf L (fields.map λ f=>(f.offset,f.type))=some pl->
 (fields.mapM λ f=>(do pure (f.offset,<-sizeOf f.type):Sem (Nat×Nat))).run P w= .ok pl w
 |[],pl,h=>by
  simp only[ap1,placesOf,aoJ]at h;subst h;simp
 |f::r,pl,h=>by
  simp only[apd,placesOf]at h;cases hi:aX L f.type with
  |none=>rw[hi]at h;cases h
  |some i=>
   cases hr:placesOf L (r.map λ f=>(f.offset,f.type))with
   |none=>rw[hi,hr]at h;cases h
   |some l=>
    rw[hi,hr]at h;simp only[aoJ]at h;subst h;have ih:=zq hL w hr;simp only[List.mapM_cons,aoy,gQ hL hi,aow,aoQ,ih]
theorem JK{X:CX}(l:List Value):aG (C0 X) (l.map .v) l:=aG.vs l
theorem JL(hL:bJ P L)(R:Rel g N bs ρ a w st){t:TypeId}{parts:Array (Nat×Operand)}{K:AV->Prop}(h:FN L st.heap t (parts.toList.map λ p=>(p.1,st.ev p.2)) K):
  ∃y u,K y/\C2 (aC g w ρ st.heap) y u/\(Instr.build t (parts.map λ(i,x)=>(i,a.eval x))).run P w= .ok u w:=by
 obtain⟨hpl,hpp⟩:=UF R parts;unfold FN at h;split at h
 ·rename_i ti hti;obtain⟨z,hz,hzc⟩:=DW hL hti w;have h0:aG (C0 (aC g w ρ st.heap)) (ti.zero.map .v) z.cells.toList:=by rw[hzc];exact JK _
  split at h
  ·rename_i fs hk;obtain⟨fields,hu,hmap⟩:=ni hL hti hk;split at h
   ·rename_i pl aee;split at h
    ·rename_i cs Oq;obtain⟨cells',hf,ha⟩:=IW R h0 hpl hpp Oq;refine⟨_,.agg cells',h,⟨cells'.toList,s_,ha⟩, ?_⟩;rw[<-hmap]at aee;have hm:=zq hL w aee;have hm':(fields.mapM λ f=>(do pure (f.offset,<-sizeOf f.type):Sem (Nat×Nat))).run P w= .ok pl.toArray w:=by
      rw[Array.mapM_eq_mapM_toList];simp only[Sem.run_map,hm,aow]
     have hg:(λ(x:Nat)=>pl.toArray[x]?)=(λ(x:Nat)=>pl[x]?):=by funext x;simp
     simp only[Instr.build,aoy,hz,aow,run_underlying hu,hm'];rw[hg,hf];rfl
    ·exact h.elim
   ·exact h.elim
  ·rename_i n e hk;have hu:=qH hL hti hk;split at h
   ·rename_i ei rH;split at h
    ·rename_i cs Oq;obtain⟨cells',hf,ha⟩:=IW R h0 hpl hpp Oq;refine⟨_,.agg cells',h,⟨cells'.toList,s_,ha⟩, ?_⟩;simp only[Instr.build,aoy,hz,aow,run_underlying hu,gQ hL rH,hf];rfl
    ·exact h.elim
   ·exact h.elim
  ·exact h.elim
 ·exact h.elim
theorem D9(z:List Value):∀n,∃us:List Value,adP (z.map .v) n=us.map .v/\us=(List.replicate n z).flatten
 |0=>⟨[],rfl,rfl⟩
 |n+1=>by
  obtain⟨us,h1,h2⟩:=D9 z n;exact⟨z++us,by simp[adP,h1],by rw[h2,aqb,List.flatten_cons]⟩
theorem JM(z:Array Value)(s:Nat)(hz:z.size=s):∀n,((Array.range (n*s)).map (z[·%z.size]!)).toList=(List.replicate n z.toList).flatten:=by
 intro n;induction n with
 |zero=>simp
 |succ n ih=>
  rw[List.replicate_succ',List.flatten_append,<-ih];have e:(Array.range ((n+1)*s)).toList=(Array.range (n*s)).toList++(List.range s).map (n*s+ ·):=by
   rw[Array.toList_range,Array.toList_range,aqd,List.range_add]
  rw[Array.toList_map,e,apt,Array.toList_map];congr 1;apply aqZ
  ·simp[hz]
  ·intro i h1 h2;simp only[aoO,aqC]at h1;simp[hz,getElem!_pos,h1,ap0 h1]
theorem yD(hL:bJ P L)(R:Rel g N bs ρ a w st){d:Nat}{t:TypeId}{n:Nat}{parts:Array (Nat×Operand)}{K:AV->AS->Prop}(h:uf L d st t n (parts.toList.map λ p=>(p.1,st.ev p.2)) K):
  ∃y u st' ρ' w',K y st'/\Rel g N bs ρ' a w' st'/\C2 (aC g w' ρ' st'.heap) y u/\(Instr.buildSlice t n (parts.map λ(i,x)=>(i,a.eval x))).run P w= .ok u w':=by
 obtain⟨hpl,hpp⟩:=UF R parts;unfold uf at h;split at h
 ·rename_i ti hti;split at h
  ·rename_i e hk;have hu:=bW hL hti hk;split at h
   ·rename_i ei rH;obtain⟨hb,h⟩:=kU h;simp only[aon]at hb;obtain⟨⟨hb1,hb2⟩,hb3⟩:=hb;have hs:=aox hb1;have hzl:=aos hb2;have hbig:=aox hb3;obtain⟨z,hz,hzc⟩:=DW hL rH w;have hzs:z.cells.size=ei.size:=by rw[<-aoY,hzc];exact hzl
    split at h
    ·rename_i cs Oq;have hcells:aG (C0 (aC g w ρ st.heap)) (adP (ei.zero.map .v) n) ((Array.range (n*ei.size)).map (z.cells[·%z.cells.size]!)).toList:=by
      obtain⟨us,h1,h2⟩:=D9 ei.zero n;rw[h1,JM z.cells ei.size hzs n,hzc,<-h2];exact JK us
     obtain⟨cells',hf,ha⟩:=IW R hcells hpl hpp Oq;have hlen:cs.length=n*ei.size:=by
      have:=UG Oq;rw[this];have:=hcells.1;simpa using this
     have hmod:(Instr.buildSlice t n (parts.map λ(i,x)=>(i,a.eval x))).run P w= .ok (.slice (some ⟨w.heap.size,0,none⟩) n n) (w.alloc (.cells cells' e)):=by
      have hbig':¬n*ei.size>2^24:=o_
      by_cases h00:n*ei.size=0
      ·have:n=0:=by
        rcases Nat.mul_eq_zero.1 h00 with h|h
        ·exact h
        ·omega
       subst this;have hf0:Instr.fill (λ i=>some (i*ei.size,ei.size)) ((Array.range (0*ei.size)).map ((#[]:Array Value)[·%(#[]:Array Value).size]!)) (parts.map λ(i,x)=>(i,a.eval x)).toList=some cells':=by
        have hz0:∀F:Nat->Value,(Array.range (0*ei.size)).map F= #[]:=by intro F;simp
        rw[hz0]at hf⊢;exact hf
       simp only[Instr.buildSlice,aoy,run_underlying hu,aow,gQ hL rH,if_neg hbig',aoQ,if_pos h00,hf0];simp[newRow]
      ·simp only[Instr.buildSlice,aoy,run_underlying hu,aow,gQ hL rH,if_neg hbig',aoQ,if_neg h00,hz,hf];simp[newRow]
     cases hp:cs.all Oi with
     |false=>
      rw[hp]at h;obtain⟨hq,h⟩:=kU h;simp only[aon]at hq;have hcn:=aos hq.1.2;refine⟨_,.slice (some ⟨w.heap.size,0,none⟩) n n,_,_,_,h,R.al2 d e (by simp only[maxLen];omega) ha hq.2 hcn,by simp[C2,C1,C0,aC,cu,dJ],by simpa using hmod⟩
     |true=>
      rw[hp]at h;have hfl:=BZ hlen;have hpc:aG (PC w (aJ g w ρ st.heap)) (flat n (chunk ei.size cs)) cells'.toList:=by
       rw[hfl];exact⟨ha.1,λ i x u hx hu=>Q9 (ha.2 i x u hx hu) (aoD.1 hp x (ao3 hx))⟩
      have hn:=Nat.le_mul_of_pos_right n hs;have hR:=R.newRow d e (sc:=cs.all isV) hs (by simp only[maxLen];omega) (Oo hlen) (λ hv x hx=>by
       rw[hfl]at hx;have:=aoD.1 hv x hx;cases x<;>first|exact⟨_,rfl⟩|(simp[isV]at this)) hpc
      exact⟨_,.slice (some ⟨w.heap.size,0,none⟩) n n,_,_,_,h,hR,by simp[C2,C1,C0,aC,cu,dJ],by simpa using hmod⟩
    ·exact h.elim
   ·exact h.elim
  ·exact h.elim
 ·exact h.elim
where
 UG {h:List (Nat×AO)} {place:Nat->Option (Nat×Nat)}:∀{parts:List (Nat×AV)}{cs cs':List AV},BJ h place cs parts=some cs'->cs'.length=cs.length
  |[],cs,cs',e=>by simp only[BJ,aoJ]at e;rw[e]
  |(i,x)::r,cs,cs',e=>by
   simp only[BJ]at e;split at e
   ·rename_i o s xs _ _;cases hb:(Nat.beq xs.length s&&Nat.ble (o+xs.length) cs.length&&xs.all (BF h))with
    |false=>rw[hb]at e;cases e
    |true=>
     rw[hb]at e;simp only[aon]at hb;have:=aox hb.1.2;rw[UG e,splice];simp only[aop,aou,aoK];omega
   ·cases e
theorem PC.aef{w:World}{k:Nat->Prop}{x:AV}{u:Value}(h:PC w k x u):u.oneCell'=true:=by
 cases h with
 |v x h=>exact h
 |sl=>rfl
theorem PC.Ea{w:World}{k:Nat->Prop}{xs:List AV}{us:List Value}(h:aG (PC w k) xs us):∀u∈us,u.oneCell'=true:=by
 intro u hu;obtain⟨i,hi,rfl⟩:=ape hu;exact PC.aef (h.2 i _ _ (aom (by rw[h.1];exact hi)) (aom hi))
theorem Ot(hL:bJ P L)(R:Rel g N bs ρ a w st){s:Nat}(hs0:0<s){t:TypeId}{y:AV}{yv:Value}(hy:C2 (aC g w ρ st.heap) y yv){m:Nat}{sc:Bool}{f:Nat->List AV}(h:ZH L st s t y=some (m,sc,f)):
  ∃us,Src P s t yv m us w/\aG (PC w (aJ g w ρ st.heap)) (flat m f) us/\(∀i,i<m->(f i).length=s)/\(sc=true-> ∀x∈flat m f,∃z,x= .v z):=by
 unfold ZH at h;split at h
 ·rename_i ti hti;split at h
  ·rename_i e s' n sc' f' hk;cases hb:Nat.beq s s' with
   |false=>rw[hb]at h;cases h
   |true=>
    rw[hb]at h;obtain rfl:=aos hb;simp only[cond_true,aoJ,apW]at h;obtain⟨rfl,rfl,rfl⟩:=h;cases C2.wY hy with
    |sl _ _ _ _ A c us _ hnc hcc hl hfl hsc hu' hr=>
     have hall:aG (PC w (aJ g w ρ st.heap)) (flat n f') us:=⟨by rw[hl];exact oJ hfl,hu'⟩;refine⟨us, ?_,hall,hfl,hsc⟩;rcases hr with hz|⟨b,o,rfl,kb,hcell⟩
     ·subst hz;have:=aoz (by simpa using hl);subst this;cases A with
      |none=>exact Src.ofNil w (bW hL hti hk) c
      |some aa=>exact aqS w (bW hL hti hk) aa 0 c [] s_ s_ s_
     ·exact aqS w (bW hL hti hk) ⟨b,o,none⟩ n c us hl (λ j u hj=>by rw[apk];exact hcell j u hj) (PC.Ea hall)
  ·rename_i e id hk;split at h
   ·rename_i e' s' n sc' f' hfo;cases hb:Nat.beq s s' with
    |false=>rw[hb]at h;cases h
    |true=>
     rw[hb]at h;obtain rfl:=aos hb;simp only[cond_true,aoJ,apW]at h;obtain⟨rfl,rfl,rfl⟩:=h;obtain⟨us,hown,_,hfl,hsc,ha⟩:=R.objs _ (aA hfo);have hown:w.ownsRow 0 e' s (ρ id) n us:=hown;have hyv:yv=ρ id:=(C2.kK hy).trans (eY hown);refine⟨us, ?_,ha,hfl,hsc⟩;rcases hown.2 with⟨hv,hz⟩|⟨b,cap,cur,hv,_⟩
     ·subst hz;have:=aoz (by simpa using hown.1);subst this;rw[hyv,hv];exact Src.ofNil w (bW hL hti hk) 0
     ·rw[hyv,hv];exact aqS w (bW hL hti hk) ⟨b,0,none⟩ n cap us hown.1 (hown.cells (by rw[hv];rfl)) (PC.Ea ha)
   ·cases h
  ·rename_i e c1 hk;obtain⟨rfl,rfl,rfl⟩:=h;obtain rfl:=C2.dD hy;exact⟨[],Src.ofNil w (bW hL hti hk) c1,aG.nil,λ i hi=>absurd hi o_,λ _ x hx=>by cases hx⟩
  ·rename_i b hk;cases hb:Nat.beq s 1 with
   |false=>rw[hb]at h;cases h
   |true=>
    have:=aos hb;subst this;obtain⟨rfl,rfl,rfl⟩:=h;obtain rfl:=C2.dD hy;refine⟨byteCells b,Src.ofString w (uS hL hti hk) b, ?_,λ _ _=>rfl,λ _ x hx=> ?_⟩
    ·have:=ZQ (R:=PC w (aJ g w ρ st.heap)) (λ c=> .v _ rfl) b.data.toList;exact this
    ·obtain⟨i,_,hx⟩:=kL.oK.1 hx;simp only[aoo]at hx;exact⟨_,hx⟩
  ·cases h
 ·cases h
where
 ZQ {R:AV->Value->Prop} (hR:∀c:UInt8,R (.v (.int .u8 (c.toNat:Int))) (.int .u8 (c.toNat:Int))):∀l:List UInt8,aG R (flat l.length (λ i=>[.v (.int .u8 ((l.getD i 0).toNat:Int))])) (l.map λ b=>Value.int .u8 b.toNat)
  |[]=>aG.nil
  |c::l=>by
   have ih:=ZQ hR l;exact aG.cons (hR c) ih
end
theorem Rh(z:Array Value)(s n:Nat)(hz:z.size=s):(madeCells z (n*s)).toList=(List.replicate n z.toList).flatten:=JM z s hz n
theorem Eb(cs:List AV):∀n,flat n (λ _=>cs)=(List.replicate n cs).flatten
 |0=>rfl
 |n+1=>by
  show cs++flat n (λ _=>cs)=_;rw[Eb cs n,aqb,List.flatten_cons]
section
variable{P:Program}{L:Lay}{g:Base}{N:Nat}{bs:List (Array Value)}{ρ:Nat->Value}{a:Act}{w:World}{st:AS}
theorem abe(hL:bJ P L)(R:Rel g N bs ρ a w st){d:Nat}{t:TypeId}{l c:AV}{lv cv:Value}(hl:C2 (aC g w ρ st.heap) l lv)(hc:C2 (aC g w ρ st.heap) c cv){K:AV->AS->Prop}(h:adT L d st t l c K):
  ∃y u st' ρ' w',K y st'/\Rel g N bs ρ' a w' st'/\C2 (aC g w' ρ' st'.heap) y u/\(Instr.makeSlice t lv cv).run P w= .ok u w':=by
 unfold adT at h;split at h
 ·rename_i ti kl ln kc cn hti;obtain rfl:=C2.dD hl;obtain rfl:=C2.dD hc;split at h
  ·rename_i e hk;have hu:=bW hL hti hk;split at h
   ·rename_i ei rH;obtain⟨info,z0,dd,hi1,hi2,hi3,hi4,hi5,hi6,hi7⟩:=jw hL rH;cases hb:((Nat.ble 1 ei.size&&Nat.beq ei.zero.length ei.size)&&ei.zero.all (λ x=>x.oneCell'))with
    |false=>rw[hb]at h;exact h.elim
    |true=>
     rw[hb]at h;simp only[aon]at hb;obtain⟨hb,hone⟩:=hb;have hs:=aox hb.1;have hzl:=aos hb.2;have hzs:z0.cells.size=ei.size:=by rw[<-aoY,hi6];exact hzl
     have hfl:∀(n i:Nat),i<n->((λ _=>ei.zero.map AV.v:Nat->List AV) i).length=ei.size:=λ n i _=>by simp[hzl]
     rcases h with⟨h0,hc0,hcb,hcm,h⟩|⟨h0,hlc,hcb,hcm,h⟩
     ·subst h0;obtain⟨c,rfl⟩:=apb hc0;have hcb':info.bytes*c<=281474976710656:=by rw[hi5,Nat.mul_comm];have:((c*ei.bytes:Nat):Int)<=140737488355328:=(by simpa using hcb);omega
      obtain⟨w',hrun,hown',hgrow⟩:=run_make_own w 0 t e info z0 ei.size hu hi1 hi3 hi4 kl kc c hcb' (by simp only[maxLen];omega) (aoB _);refine⟨_,.slice (some ⟨w.heap.size,0,none⟩) 0 c,_,cu ρ d (.slice (some ⟨w.heap.size,0,none⟩) 0 c),w',h, ?_,by simp[C2,C1,C0,aC,cu,dJ],hrun⟩;refine R.obj d d (R.below.grown hgrow R.below.size (λ k hk=>by cases hk)) hgrow.size (λ b hb _=>hgrow.block b hb s_) (λ b hb=> ?_) (λ hE=> ?_)
      ·rw[aoo.1 hb];exact .inl (aoH _)
      ·exact⟨[],by simpa[aC,cu]using hown',hs,hfl 0,λ _ x hx=>by simp[flat]at hx,aG.nil⟩
     ·subst hlc;obtain⟨c,rfl⟩:=apb h0;have hcb':info.bytes*c<=281474976710656:=by rw[hi5,Nat.mul_comm];have:((c*ei.bytes:Nat):Int)<=140737488355328:=(by simpa using hcb);omega
      obtain⟨w',hrun,hown',hgrow⟩:=run_make_full w 0 t e info z0 ei.size hu hi1 hi3 hi4 kl kc c hcb' (by simp only[maxLen];omega) (aoB _);rw[apc]at h;refine⟨_,.slice (some ⟨w.heap.size,0,none⟩) c c,_,cu ρ d (.slice (some ⟨w.heap.size,0,none⟩) c c),w',h, ?_,by simp[C2,C1,C0,aC,cu,dJ],hrun⟩;refine R.obj d d (R.below.grown hgrow R.below.size (λ k hk=>by cases hk)) hgrow.size (λ b hb _=>hgrow.block b hb s_) (λ b hb=> ?_) (λ hE=> ?_)
      ·rw[aoo.1 hb];exact .inl (aoH _)
      ·refine⟨_,by simpa[aC,cu]using hown',hs,hfl c,λ _ x hx=> ?_, ?_⟩
       ·rw[Eb]at hx;obtain⟨l,hl,hx⟩:=List.mem_flatten.1 hx;rw[aqn hl]at hx;obtain⟨y,_,rfl⟩:=aoR.1 hx;exact⟨y,rfl⟩
       ·rw[Eb,Rh z0.cells ei.size c hzs,hi6];obtain⟨us,h1,h2⟩:=D9 ei.zero c;have:(List.replicate c (ei.zero.map AV.v)).flatten=us.map .v:=by
         rw[h2,List.map_flatten,List.map_replicate]
        rw[this,<-h2];exact⟨s_,λ i x u hx hu=>by
         rw[ao0]at hx;rw[hu]at hx;cases hx;refine .v u ?_;obtain⟨l,hl,hm⟩:=List.mem_flatten.1 (by rw[<-h2];exact ao3 hu);rw[aqn hl]at hm;exact aoD.1 hone u hm⟩
   ·exact h.elim
  ·exact h.elim
 ·exact h.elim
end
section
variable{P:Program}{L:Lay}{g:Base}{N:Nat}{bs:List (Array Value)}{ρ:Nat->Value}{a:Act}{w:World}{st:AS}
theorem qA{w:World}{B:Nat}{e:TypeId}{s n:Nat}{v:Value}{us:List Value}(h:w.ownsRow B e s v n us){b:Nat}:v.ownBlock=some b↔b∈blks v:=by
 rw[adJ h,Option.mem_toList]
theorem zu:∀{n m:Nat}{f f':Nat->List AV},flat (n+m) (kV n f f')=flat n f++flat m f'
 |0,m,f,f'=>by
  rw[apl];exact jJ λ i _=>by cases i<;>rfl
 |n+1,m,f,f'=>by
  rw[show n+1+m=(n+m)+1 by omega];show kV (n+1) f f' 0++flat (n+m) (λ i=>kV (n+1) f f' (i+1))=f 0++flat n (λ i=>f (i+1))++flat m f';have e:(λ i=>kV (n+1) f f' (i+1))=kV n (λ i=>f (i+1)) f':=by
   funext i
   unfold kV;have e1:Nat.ble (n+1) (i+1)=Nat.ble n i:=rfl;rw[e1,show i+1-(n+1)=i-n by omega]
  rw[e,zu,aoL];rfl
theorem ahS{s n m:Nat}{f f':Nat->List AV}(h:∀i,i<n->(f i).length=s)(h':∀i,i<m->(f' i).length=s):∀i,i<n+m->(kV n f f' i).length=s:=by
 intro i hi;unfold kV;cases hb:Nat.ble n i with
 |true=>exact h' _ (by have:=aox hb;omega)
 |false=>
  have:¬n<=i:=λ h=>by rw[apm h]at hb;cases hb
  exact h i o_
theorem UH(hL:bJ P L)(R:Rel g N bs ρ a w st){d:Nat}{t tx ty:TypeId}{x y:AV}{xv yv:Value}(hx:C2 (aC g w ρ st.heap) x xv)(hy:C2 (aC g w ρ st.heap) y yv){K:AV->AS->Prop}(h:QK L d st t tx x y K):
  ∃z u st' ρ' w',K z st'/\Rel g N bs ρ' a w' st'/\C2 (aC g w' ρ' st'.heap) z u/\(Builtin.append_ #[t,tx] ty #[xv,yv]).run P w= .ok u w':=by
 unfold QK at h;split at h
 ·rename_i ti hti;split at h
  ·rename_i e hk;have hu:=bW hL hti hk;split at h
   ·rename_i ei rH;obtain⟨info,z0,dd,hi1,hi2,hi3,hi4,hi5,hi6,hi7⟩:=jw hL rH;cases hb:(Nat.ble 1 ei.size&&Nat.beq ei.zero.length ei.size)with
    |false=>rw[hb]at h;exact h.elim
    |true=>
     rw[hb]at h;simp only[aon]at hb;have hs:=aox hb.1;have hzl:=aos hb.2;split at h
     ·rename_i m sc' f' hsrc;obtain⟨news,aeg,han,hfn,am9⟩:=Ot hL R hs hy hsrc;have hzs:z0.cells.size=ei.size:=by rw[<-aoY,hi6];exact hzl
      split at h
      ·obtain⟨⟨hq1,hq2⟩,h⟩:=h;obtain rfl:=C2.dD hx;obtain⟨v',w',hrun,hown',hgrow,hat⟩:=oI w 0 t tx ty e info z0 ei.size ei.bytes hu hi1 hi3 hi4 hi5 hzs _ 0 [] (apA w _ _ _) yv m news aeg (by simp only[maxLen];omega) (by simpa using hq1) (aoB _);refine⟨_,v',_,cu ρ d v',w',h, ?_,by simp[C2,C1,C0,aC,cu,eY hown'],hrun⟩;refine R.obj d d (R.below.grown hgrow R.below.size (λ k hk=>by simp[Value.ownBlock]at hk)) hgrow.size (λ b hb _=>hgrow.block b hb (by simp[Value.ownBlock])) (λ b hb=> ?_) (λ hE=> ?_) (pY hown')
       ·rw[<-qA hown']at hb;rcases hat with h1|h1
        ·rw[h1]at hb;simp[Value.ownBlock]at hb
        ·grind
       ·exact⟨news,by simpa[aC,cu]using hown',hs,hfn,am9,han.imp λ _ _=>PC.mono hE.keep hE.mem⟩
      ·rename_i id;split at h
       ·rename_i e' s n sc f hfo;cases hb:(Nat.beq e e'&&Nat.beq s ei.size)with
        |false=>rw[hb]at h;exact h.elim
        |true=>
         rw[hb]at h;simp only[aon]at hb;obtain rfl:=aos hb.1;have hse:=aos hb.2;subst hse;obtain⟨⟨hq1,hq2⟩,h⟩:=h;obtain⟨us,hown,hs0,hfl,hsc,ha⟩:=R.objs _ (aA hfo);have hown:w.ownsRow 0 e ei.size (ρ id) n us:=hown;have hxv:=(C2.kK hx).trans (eY hown);subst hxv;obtain⟨v',w',hrun,hown',hgrow,hat⟩:=oI w 0 t tx ty e info z0 ei.size ei.bytes hu hi1 hi3 hi4 hi5 hzs (ρ id) n us hown yv m news aeg (by simp only[maxLen];omega) hq1 (aoB _);refine⟨_,v',_,cu ρ d v',w',h, ?_,by simp[C2,C1,C0,aC,cu,eY hown'],hrun⟩;refine R.obj d id (R.below.grown hgrow R.below.size (λ k hk=>R.own k (aQ.2 ⟨_,aA hfo,(qA hown).1 hk⟩))) hgrow.size (λ b hb hne=>hgrow.block b hb (λ e=>hne _ (aA hfo) rfl ((qA hown).1 e.symm))) (λ b hb=> ?_) (λ hE=> ?_) (pY hown')
         ·rw[<-qA hown']at hb;rcases hat with h1|h1
          ·exact .inr ⟨_,aA hfo,rfl,by rw[<-qA hown,<-h1];exact hb⟩
          ·grind
         ·refine⟨us++news,by simpa[aC,cu]using hown',hs,ahS hfl hfn,λ hv x hx=> ?_, ?_⟩
          ·simp only[aon]at hv;rw[zu]at hx;rcases aov.1 hx with h1|h1
           ·grind
           ·grind
          ·rw[zu];exact(ha.imp λ _ _=>PC.mono hE.keep hE.mem).app (han.imp λ _ _=>PC.mono hE.keep hE.mem)
       ·exact h.elim
      ·exact h.elim
     ·have hzs:z0.cells.size=ei.size:=by rw[<-aoY,hi6];exact hzl
      unfold ajO at h;split at h
      ·rename_i j al3 _;split at h
       ·rename_i e2 e3 ds hk' hfj;cases hb:(Nat.beq ei.size 1&&Nat.ble ei.bytes 1024&&Nat.ble ds.length 1024)with
        |false=>rw[hb]at h;exact h.elim
        |true=>
         rw[hb]at h;simp only[aon]at hb;have hs1:=aos hb.1.1;have hby:=aox hb.1.2;have hdl:=aox hb.2;obtain⟨news,⟨Ou,aeh⟩,haj⟩:=R.objs _ (aA hfj);have Ou:w.ownsRow 0 e3 1 (ρ j) ds.length news:=Ou;have hyv:yv=ρ j:=(C2.kK hy).trans (eY Ou);have hnl:=haj.1.symm;have aeg:Src P ei.size tx yv ds.length news w:=by
          rw[hs1];rcases Ou.2 with⟨hv,hz⟩|⟨b,cap,cur,hv,_⟩
          ·have:news=[]:=aoz o_;subst this;rw[hyv,hv,hz];exact Src.ofNil w (bW hL al3 hk') 0
          ·rw[hyv,hv];exact aqS w (bW hL al3 hk') ⟨b,0,none⟩ ds.length cap news Ou.1 (Ou.cells (by rw[hv];rfl)) aeh
         have hq:∀k,k<=2048->k*ei.bytes<=140737488355328:=λ k hk=>ao7 (Nat.mul_le_mul hk hby) o_;split at h
         ·obtain rfl:=C2.dD hx;obtain⟨v',w',hrun,hown',hgrow,hat⟩:=oI w 0 t tx ty e info z0 ei.size ei.bytes hu hi1 hi3 hi4 hi5 hzs _ 0 [] (apA w _ _ _) yv ds.length news aeg (by simp only[maxLen];omega) (hq _ o_) (aoB _);refine⟨_,v',_,cu ρ d v',w',h, ?_,by simp[C2,C1,C0,aC,cu,eY hown'],hrun⟩;refine R.obj d d (R.below.grown hgrow R.below.size (λ k hk=>by simp[Value.ownBlock]at hk)) hgrow.size (λ b hb _=>hgrow.block b hb (by simp[Value.ownBlock])) (λ b hb=> ?_) (λ hE=> ?_) (pY hown')
          ·rw[<-qA hown']at hb;rcases hat with h1|h1
           ·rw[h1]at hb;simp[Value.ownBlock]at hb
           ·grind
          ·rw[hs1]at hown';exact⟨news,⟨by simpa[aC,cu]using hown',aeh⟩,haj.pW λ _ _=>C0.ext hE⟩
         ·rename_i id;split at h
          ·rename_i e' cs hfo;cases hb:(Nat.beq e e'&&Nat.ble cs.length 1024)with
           |false=>rw[hb]at h;exact h.elim
           |true=>
            rw[hb]at h;simp only[aon]at hb;obtain rfl:=aos hb.1;have hcl:=aox hb.2;obtain⟨us,⟨hown,hone⟩,ha⟩:=R.objs _ (aA hfo);have hown:w.ownsRow 0 e 1 (ρ id) cs.length us:=hown;have hxv:=(C2.kK hx).trans (eY hown);subst hxv;obtain⟨v',w',hrun,hown',hgrow,hat⟩:=oI w 0 t tx ty e info z0 ei.size ei.bytes hu hi1 hi3 hi4 hi5 hzs (ρ id) cs.length us (by rw[hs1];exact hown) yv ds.length news aeg (by simp only[maxLen];omega) (hq _ o_) (aoB _);refine⟨_,v',_,cu ρ d v',w',h, ?_,by simp[C2,C1,C0,aC,cu,eY hown'],hrun⟩;refine R.obj d id (R.below.grown hgrow R.below.size (λ k hk=>R.own k (aQ.2 ⟨_,aA hfo,(qA hown).1 hk⟩))) hgrow.size (λ b hb hne=>hgrow.block b hb (λ e=>hne _ (aA hfo) rfl ((qA hown).1 e.symm))) (λ b hb=> ?_) (λ hE=> ?_) (pY hown')
            ·rw[<-qA hown']at hb;rcases hat with h1|h1
             ·exact .inr ⟨_,aA hfo,rfl,by rw[<-qA hown,<-h1];exact hb⟩
             ·grind
            ·rw[hs1]at hown';refine⟨us++news,⟨by simpa[aC,cu]using hown',λ u hu=>(aov.1 hu).elim (hone u) (aeh u)⟩, ?_⟩;rw[apt];exact(ha.pW λ _ _=>C0.ext hE).app (haj.pW λ _ _=>C0.ext hE)
          ·exact h.elim
         ·exact h.elim
       ·exact h.elim
      ·exact h.elim
   ·exact h.elim
  ·exact h.elim
 ·exact h.elim
theorem C0.thaw{X Y:CX}(hk:∀b,X.keep b->Y.keep b)(hm:∀b,X.keep b->Y.w.heap[b]? =X.w.heap[b]?)(hρ:Y.ρ=X.ρ){id s n:Nat}{sc:Bool}{f:Nat->List AV}(hrow:PC Y.w Y.keep (.sl s n sc f) (dJ (X.ρ id))){av:AV}{u:Value}(h:C0 X av u):
  C0 Y (DR id (.sl s n sc f) av) u:=by
 cases av with
 |own i=>
  simp only[DR];cases hb:Nat.beq i id with
  |true=>
   obtain rfl:=aos hb;have hu:=h;rw[hu];exact hrow
  |false=>exact C0.same hk hm hρ h
 |_=>exact C0.same hk hm hρ h
theorem C1.thaw{X Y:CX}(hk:∀b,X.keep b->Y.keep b)(hm:∀b,X.keep b->Y.w.heap[b]? =X.w.heap[b]?)(hρ:Y.ρ=X.ρ){id s n:Nat}{sc:Bool}{f:Nat->List AV}(hrow:PC Y.w Y.keep (.sl s n sc f) (dJ (X.ρ id))){av:AV}{u:Value}(h:C1 X av u):
  C1 Y (adQ id (.sl s n sc f) av) u:=by
 cases av with
 |agg cs=>obtain⟨us,e,ha⟩:=h;exact⟨us,e,ha.pW λ _ _=>C0.thaw hk hm hρ hrow⟩
 |fn gg cs=>obtain⟨us,e,ha⟩:=h;exact⟨us,e,ha.pW λ _ _=>C0.thaw hk hm hρ hrow⟩
 |own i=>
  have h0:=C0.thaw hk hm hρ hrow (av:= .own i) h;simp only[DR]at h0;simp only[adQ];revert h0;cases Nat.beq i id<;>exact λ h=>h
 |v x=>exact C1.same hk hm hρ h
 |sl s n sc f=>exact C1.same hk hm hρ h
 |dG i s j k=>exact C1.same hk hm hρ h
 |jH i s j k=>exact C1.same hk hm hρ h
 |box i k=>exact C1.same hk hm hρ h
 |cf gg i k=>exact C1.same hk hm hρ h
 |el cs k=>exact C1.same hk hm hρ h
 |junk=>trivial
 |bI vs=>exact h
theorem C2.thaw{X Y:CX}(hk:∀b,X.keep b->Y.keep b)(hm:∀b,X.keep b->Y.w.heap[b]? =X.w.heap[b]?)(hρ:Y.ρ=X.ρ){id s n:Nat}{sc:Bool}{f:Nat->List AV}(hrow:PC Y.w Y.keep (.sl s n sc f) (dJ (X.ρ id))){av:AV}{u:Value}(h:C2 X av u):
  C2 Y (DT id (.sl s n sc f) av) u:=by
 cases av with
 |bI vs=>obtain⟨us,e,ha⟩:=h;exact⟨us,e,ha.pW λ _ _=>C1.thaw hk hm hρ hrow⟩
 |agg cs=>exact C2.mP (C1.thaw hk hm hρ hrow (av:= .agg cs) h)
 |fn gg cs=>exact C2.mP (C1.thaw hk hm hρ hrow (av:= .fn gg cs) h)
 |own i=>exact C2.mP (C1.thaw hk hm hρ hrow (av:= .own i) h)
 |v x=>exact C2.mP (C1.thaw hk hm hρ hrow (av:= .v x) h)
 |sl s n sc f=>exact C2.mP (C1.thaw hk hm hρ hrow (av:= .sl s n sc f) h)
 |dG i s j k=>exact C2.mP (C1.thaw hk hm hρ hrow (av:= .dG i s j k) h)
 |jH i s j k=>exact C2.mP (C1.thaw hk hm hρ hrow (av:= .jH i s j k) h)
 |box i k=>exact C2.mP (C1.thaw hk hm hρ hrow (av:= .box i k) h)
 |cf gg i k=>exact C2.mP (C1.thaw hk hm hρ hrow (av:= .cf gg i k) h)
 |el cs k=>exact C2.mP (C1.thaw hk hm hρ hrow (av:= .el cs k) h)
 |junk=>trivial
theorem Rel.freeze(R:Rel g N bs ρ a w st){id:Nat}{e:TypeId}{s n:Nat}{sc:Bool}{f:Nat->List AV}(hf:aK id st.heap=some (.row e s n sc f)):
  Rel g N bs ρ a w (st.freeze id s n sc f)/\PC w (aJ g w ρ (st.freeze id s n sc f).heap) (.sl s n sc f) (ρ id):=by
 have hblocks:ah ρ (st.freeze id s n sc f).heap=ah ρ (st.heap.filter λ p=> !Nat.beq p.1 id):=by
  simp[AS.freeze,ah,List.flatMap_map]
 have hsub:∀b,b∈ah ρ (st.freeze id s n sc f).heap->b∈ah ρ st.heap:=λ b h=>by rw[hblocks]at h;exact fH h
 have hk:∀b,aJ g w ρ st.heap b->aJ g w ρ (st.freeze id s n sc f).heap b:=λ b h=>⟨h.1,h.2.1,λ h'=>h.2.2 (hsub b h')⟩;have hm:∀b,aJ g w ρ st.heap b->w.heap[b]? =w.heap[b]? :=λ _ _=>rfl;obtain⟨us,hown,hs0,hfl,hsc,ha⟩:=R.objs _ (aA hf);have hown:w.ownsRow 0 e s (ρ id) n us:=hown;have hrow:PC w (aJ g w ρ (st.freeze id s n sc f).heap) (.sl s n sc f) (ρ id):=by
  have ha':=ha.imp λ _ _=>PC.mono hk hm;rcases hown.2 with⟨hv,hz⟩|⟨b,cap,cur,hv,hB,hh,hnc,hcm,_⟩
  ·rw[hv];subst hz;exact .sl s 0 sc f none 0 us hs0 (aoH _) (by simp[maxLen]) hown.1 hfl hsc ha'.2 (.inl rfl)
  ·rw[hv];refine .sl s n sc f _ cap us hs0 hnc hcm hown.1 hfl hsc ha'.2 (.inr ⟨b,0,rfl,⟨(ao5.1 hh).1,λ hlt=>(R.own b (aQ.2 ⟨_,aA hf,by rw[hv];exact aol⟩)).elim (λ h=>absurd hlt o_) .inr, ?_⟩,λ j u hj=> ?_⟩)
   ·intro hin;rw[hblocks]at hin;obtain⟨p,hp,hpe⟩:=aQ.1 hin;obtain⟨hp1,hp2⟩:=aoA.1 hp;have:=fQ R.apart p hp1 _ (aA hf) hpe (by rw[hv];exact aol);simp[this]at hp2
   ·have:=hown.cells (by rw[hv];rfl) j u hj;rwa [apk]at this
 have hrow':PC w (aJ g w ρ (st.freeze id s n sc f).heap) (.sl s n sc f) (dJ (ρ id)):=by rw[eY hown];exact hrow
 refine⟨⟨R.size,R.defers,R.below,λ t=>by rw[show(st.freeze id s n sc f).tmps t=DT id (.sl s n sc f) (st.tmps t)from qG rfl st.sl t];exact C2.thaw (X:=aC g w ρ st.heap) (Y:=aC g w ρ (st.freeze id s n sc f).heap) hk hm rfl hrow' (R.tmps t), ?_, ?_,λ b hb=>R.own b (hsub b hb),R.back.map rfl λ _ _=>C2.thaw (X:=aC g w ρ st.heap) (Y:=aC g w ρ (st.freeze id s n sc f).heap) hk hm rfl hrow'⟩,hrow⟩
 ·intro p hp;simp only[AS.freeze,aoR]at hp;obtain⟨q,hq,rfl⟩:=hp;have ho:=R.objs q (aoA.1 hq).1;refine aT.move (X:=aC g w ρ st.heap) hk hm rfl (λ _ _=>rfl) ?_ ho;cases q.2 with
  |box t cs=>exact⟨rfl,λ us ha=>ha.pW λ _ _=>C0.thaw (X:=aC g w ρ st.heap) (Y:=aC g w ρ (st.freeze id s n sc f).heap) hk hm rfl hrow'⟩
  |row=>rfl
  |mp t ks rs=>exact⟨rfl,rfl,nU id ks,λ vs hv=>hv.yY λ _ _=>rfl⟩
  |obs o=>rfl
  |rn e' cs=>exact⟨rfl,s_,λ us ha=>ha.pW λ _ _=>C0.thaw (X:=aC g w ρ st.heap) (Y:=aC g w ρ (st.freeze id s n sc f).heap) hk hm rfl hrow'⟩
 ·rw[hblocks];exact rF R.apart
theorem Rel.iR(R:Rel g N bs ρ a w st){id:Nat}{t:TypeId}{cs:List AV}(hf:aK id st.heap=some (.box t cs)):
  Rel g N bs ρ a w (st.iR id)/\ ∃b us,ρ id= .pointer (some ⟨b,0,none⟩)/\w.heap[b]? =some (.cells us.toArray t (0,0))/\aG (C0 (aC g w ρ st.heap)) cs us/\aJ g w ρ (st.iR id).heap b/\
   (∀b,aJ g w ρ st.heap b->aJ g w ρ (st.iR id).heap b):=by
 have hblocks:ah ρ (st.iR id).heap=ah ρ (st.heap.filter λ p=> !Nat.beq p.1 id):=oz ρ id _;have hsub:∀b,b∈ah ρ (st.iR id).heap->b∈ah ρ st.heap:=λ b h=>by rw[hblocks]at h;exact fH h
 have hk:∀b,aJ g w ρ st.heap b->aJ g w ρ (st.iR id).heap b:=λ b h=>⟨h.1,h.2.1,λ h'=>h.2.2 (hsub b h')⟩;have hE:Ext id (aC g w ρ st.heap) (aC g w ρ (st.iR id).heap):=⟨hk,λ _ _=>rfl,λ _ _=> .refl _⟩;obtain⟨b,us,hv,hh,ha⟩:=R.objs _ (aA hf);have hv:ρ id= .pointer (some ⟨b,0,none⟩):=hv;refine⟨⟨R.size,R.defers,R.below,λ t=>by rw[show(st.iR id).tmps t=uP id (st.tmps t)from qG rfl st.sl t];exact C2.ext hE (R.tmps t), ?_, ?_,λ b hb=>R.own b (hsub b hb),R.back.map rfl λ _ _=>C2.ext hE⟩,
  b,us,hv,hh,ha,⟨(ao5.1 hh).1,λ hlt=>(R.own b (aQ.2 ⟨_,aA hf,by rw[hv];exact aol⟩)).elim (λ h=>absurd hlt o_) .inr, ?_⟩,hk⟩
 ·intro p hp;simp only[AS.iR,pX,aoR]at hp;obtain⟨q,hq,rfl⟩:=hp;obtain⟨hq1,hq2⟩:=aoA.1 hq;exact aT.ext hE rfl (λ _ _=>rfl) (R.objs q hq1)
 ·rw[hblocks];exact rF R.apart
 ·intro hin;rw[hblocks]at hin;obtain⟨p,hp,hpe⟩:=aQ.1 hin;obtain⟨hp1,hp2⟩:=aoA.1 hp;have:=fQ R.apart p hp1 _ (aA hf) hpe (by rw[hv];exact aol);simp[this]at hp2
theorem PC.cut{w:World}{k:Nat->Prop}{s n:Nat}{sc:Bool}{f:Nat->List AV}{A:Option Addr}{c:Nat}(h:PC w k (.sl s n sc f) (.slice A n c)){lo hi:Nat}(h1:lo<=hi)(h2:hi<=n):
  PC w k (.sl s (hi-lo) sc (λ i=>f (lo+i))) (.slice (if c=lo then A else A.map (·.add (lo*s))) (hi-lo) (c-lo)):=by
 cases h with
 |sl _ _ _ _ _ _ us hs0 hnc hcc hl hfl hsc hu' hr=>
  have hlh:=Nat.sub_mul hi lo s;have h2s:hi*s<=n*s:=apx _ h2;have al4:∀{n:Nat}{f:Nat->List AV},(∀i,i<n->(f i).length=s)-> ∀lo hi,lo<=hi->hi<=n->flat (hi-lo) (λ i=>f (lo+i))=((flat n f).drop (lo*s)).take ((hi-lo)*s):=λ h lo hi=>qI h lo hi;have hfc:=al4 hfl lo hi h1 h2;have hall:aG (PC w k) (flat n f) us:=⟨by rw[hl];exact oJ hfl,hu'⟩;have hall':=(hall.drop (lo*s)).take ((hi-lo)*s);rw[<-hfc]at hall';refine .sl s (hi-lo) sc _ _ _ ((us.drop (lo*s)).take ((hi-lo)*s)) hs0 o_ o_ ?_ (λ i hi'=>hfl (lo+i) o_) ?_ hall'.2 ?_
  ·grind
  ·grind
  ·rcases hr with hz|⟨b,o,rfl,kb,hcell⟩
   ·left;omega
   ·by_cases hcl:c=lo
    ·left;omega
    ·right;rw[if_neg hcl];refine⟨b,o+lo*s,by simp[apk],kb,λ j u hj=> ?_⟩;rw[apg]at hj;split at hj
     ·grind
     ·cases hj
where
 qI {s:Nat}:∀{n:Nat}{f:Nat->List AV},(∀i,i<n->(f i).length=s)-> ∀lo hi,lo<=hi->hi<=n->flat (hi-lo) (λ i=>f (lo+i))=((flat n f).drop (lo*s)).take ((hi-lo)*s)
  |0,f,_,lo,hi,h1,h2=>by
   have:hi=0:=o_
   subst this;simp[flat]
  |n+1,f,h,0,0,_,_=>by simp[flat]
  |n+1,f,h,0,hi+1,_,h2=>by
   have ih:=qI (n:=n) (λ i hi=>h (i+1) o_) 0 hi o_ o_;have e:flat (hi+1-0) (λ i=>f (0+i))=f 0++flat hi (λ i=>f (i+1)):=by simp[flat]
   have e2:flat (n+1) f=f 0++flat n (λ i=>f (i+1)):=rfl;have h0:=h 0 o_;rw[e,e2];simp only[aqo,aqN,List.drop_zero,apl]at ih⊢;rw[ih,aqd,aqY,aoF (l:=f 0) o_,h0,show hi*s+s-s=hi*s by omega]
  |n+1,f,h,lo+1,hi,h1,h2=>by
   obtain⟨hi',rfl⟩:∃k,hi=k+1:=⟨hi-1,o_⟩;have ih:=qI (n:=n) (λ i hi=>h (i+1) o_) lo hi' o_ o_;have e2:flat (n+1) f=f 0++flat n (λ i=>f (i+1)):=rfl;have h0:=h 0 o_;rw[show hi'+1-(lo+1)=hi'-lo by omega,e2,aqd,List.drop_append,List.drop_of_length_le o_,aoN,h0,show lo*s+s-s=lo*s by omega,<-ih];apply jJ;intro i _;congr 1;omega
theorem jr(k:IntKind)(i:Int)(y:Nat)(code:BoundsCode)(h0:0<=i)(h1:i<=(y:Int))(w:World):(Instr.sliceBound (.int k i) y code).run P w= .ok i.toNat w:=by
 simp[Instr.sliceBound,asIntOf,h0,h1]
theorem rY{t e:TypeId}{ei:TI}(hL:bJ P L)(hu:P.underlying t=some (.slice e))(rH:aX L e=some ei){A:Option Addr}{n c l h:Nat}{lo hi:Option Value}(w:World)
  (hb:(Instr.sliceBounds true n c lo hi none).run P w= .ok (l,h,c) w):(Instr.sliceAt t (.slice A n c) lo hi none).run P w= .ok (.slice (if c=l then A else A.map (·.add (l*ei.size))) (h-l) (c-l)) w:=by
 simp only[Instr.sliceAt,Instr.slice,aoy,run_underlying hu,aow,hb,gQ hL rH,aoQ]
theorem UJ(hL:bJ P L){X:CX}{t:TypeId}{ti:TI}{e:TypeId}(hti:aX L t=some ti)(hk:ti.kind= .slice e){ei:TI}(rH:aX L e=some ei){n:Nat}{sc:Bool}{f:Nat->List AV}{xv:Value}(hx:PC X.w X.keep (.sl ei.size n sc f) xv)
  {lo hi:Option AV}{X5 hiv:Option Value}(hlo:∀y,lo=some y-> ∃v,X5=some v/\C2 X y v)(Iw:lo=none->X5=none)(hhi:∀y,hi=some y-> ∃v,hiv=some v/\C2 X y v)(Iy:hi=none->hiv=none){K:AV->Prop}(h:aa4 ei.size n sc f lo hi K)(w:World):
  ∃z u,K z/\PC X.w X.keep z u/\(Instr.sliceAt t xv X5 hiv none).run P w= .ok u w:=by
 have hu:=bW hL hti hk;cases hx with
 |sl _ _ _ _ A c us hs0 hnc hcc hl hfl hsc hu' hr=>
  have hx:PC X.w X.keep (.sl ei.size n sc f) (.slice A n c):= .sl ei.size n sc f A c us hs0 hnc hcc hl hfl hsc hu' hr;have fin:∀{l hh:Nat},l<=hh->hh<=n->K (.sl ei.size (hh-l) sc (λ i=>f (l+i)))->(Instr.sliceBounds true n c X5 hiv none).run P w= .ok (l,hh,c) w-> ∃z u,K z/\PC X.w X.keep z u/\(Instr.sliceAt t (.slice A n c) X5 hiv none).run P w= .ok u w:=
   λ h1 h2 hk hb=>⟨_,_,hk,PC.cut hx h1 h2,rY hL hu rH w hb⟩
  unfold aa4 at h;simp only[FM]at h;split at h
  ·rw[Iw rfl,Iy rfl]at fin⊢;refine fin (l:=0) (hh:=n) o_ o_ ?_ (by simp[Instr.sliceBounds]);simpa using h
  ·rename_i k hh;obtain⟨v,hv,hc⟩:=hhi _ rfl;obtain rfl:=C2.dD hc;rw[Iw rfl,hv]at fin⊢;obtain⟨hb,h⟩:=kU h;obtain⟨h0,h1⟩:=jg hb;refine fin (l:=0) (hh:=hh.toNat) o_ o_ (by simpa using h) ?_;simp[Instr.sliceBounds,jr k hh c _ h0 o_]
  ·rename_i k ll;obtain⟨v,hv,hc⟩:=hlo _ rfl;obtain rfl:=C2.dD hc;rw[Iy rfl,hv]at fin⊢;obtain⟨hb,h⟩:=kU h;obtain⟨h0,h1⟩:=jg hb;refine fin o_ o_ h ?_;simp[Instr.sliceBounds,jr k ll n _ h0 o_]
  ·rename_i k ll k' hh;obtain⟨v,hv,hc⟩:=hlo _ rfl;obtain rfl:=C2.dD hc;obtain⟨v',hv',hc'⟩:=hhi _ rfl;obtain rfl:=C2.dD hc';rw[hv,hv']at fin⊢;obtain⟨hb,h⟩:=kU h;obtain⟨h0,h1⟩:=jg hb;cases hb':inB ll (hh.toNat+1)with
   |false=>rw[hb']at h;exact h.elim
   |true=>
    rw[hb']at h;obtain⟨h2,h3⟩:=jg hb';refine fin o_ o_ h ?_;simp[Instr.sliceBounds,jr k' hh c _ h0 o_,jr k ll hh.toNat _ h2 o_]
  ·exact h.elim
theorem JO{X:CX}{n:Nat}{lo hi:Option AV}{X5 hiv:Option Value}(hlo:∀y,lo=some y-> ∃v,X5=some v/\C2 X y v)(Iw:lo=none->X5=none)(hhi:∀y,hi=some y-> ∃v,hiv=some v/\C2 X y v)(Iy:hi=none->hiv=none){K:Nat->Nat->Prop}(h:adS n lo hi K)(w:World):
  ∃l hh,l<=hh/\hh<=n/\K l hh/\ ∀c,n<=c->(Instr.sliceBounds true n c X5 hiv none).run P w= .ok (l,hh,c) w:=by
 unfold adS at h;simp only[FM]at h;split at h
 ·rw[Iw rfl,Iy rfl];exact⟨0,n,o_,o_,h,λ c _=>by simp[Instr.sliceBounds]⟩
 ·rename_i k hh;obtain⟨v,hv,hc⟩:=hhi _ rfl;obtain rfl:=C2.dD hc;rw[Iw rfl,hv];obtain⟨hb,h⟩:=kU h;obtain⟨h0,h1⟩:=jg hb;exact⟨0,hh.toNat,o_,o_,h,λ c hnc=>by simp[Instr.sliceBounds,jr k hh c _ h0 o_]⟩
 ·rename_i k ll;obtain⟨v,hv,hc⟩:=hlo _ rfl;obtain rfl:=C2.dD hc;rw[Iy rfl,hv];obtain⟨hb,h⟩:=kU h;obtain⟨h0,h1⟩:=jg hb;exact⟨ll.toNat,n,o_,o_,h,λ c hnc=>by simp[Instr.sliceBounds,jr k ll n _ h0 o_]⟩
 ·rename_i k ll k' hh;obtain⟨v,hv,hc⟩:=hlo _ rfl;obtain rfl:=C2.dD hc;obtain⟨v',hv',hc'⟩:=hhi _ rfl;obtain rfl:=C2.dD hc';rw[hv,hv'];obtain⟨hb,h⟩:=kU h;obtain⟨h0,h1⟩:=jg hb;cases hb':inB ll (hh.toNat+1)with
  |false=>rw[hb']at h;exact h.elim
  |true=>
   rw[hb']at h;obtain⟨h2,h3⟩:=jg hb';exact⟨ll.toNat,hh.toNat,o_,o_,h,λ c hnc=>by simp[Instr.sliceBounds,jr k' hh c _ h0 o_,jr k ll hh.toNat _ h2 o_]⟩
 ·exact h.elim
theorem abf(hL:bJ P L){X:CX}{t:TypeId}{ti:TI}(hti:aX L t=some ti)(hk:ti.kind= .str){b:ByteArray}
  {lo hi:Option AV}{X5 hiv:Option Value}(hlo:∀y,lo=some y-> ∃v,X5=some v/\C2 X y v)(Iw:lo=none->X5=none)(hhi:∀y,hi=some y-> ∃v,hiv=some v/\C2 X y v)(Iy:hi=none->hiv=none){K:AV->Prop}(h:adR b lo hi K)(w:World):
  ∃z u,K z/\C2 X z u/\(Instr.sliceAt t (.string b) X5 hiv none).run P w= .ok u w:=by
 have hu:=uS hL hti hk;have fin:∀{l hh:Nat},K (.v (.string (b.extract l hh)))->(Instr.sliceBounds false b.size b.size X5 hiv none).run P w= .ok (l,hh,b.size) w-> ∃z u,K z/\C2 X z u/\(Instr.sliceAt t (.string b) X5 hiv none).run P w= .ok u w:=by
  intro l hh hk hb;refine⟨_,_,hk,rfl, ?_⟩;simp[Instr.sliceAt,Instr.slice,run_underlying hu,hb]
 unfold adR at h;simp only[FM]at h;split at h
 ·rw[Iw rfl,Iy rfl]at fin⊢;refine fin (l:=0) (hh:=b.size) ?_ (by simp[Instr.sliceBounds]);simpa using h
 ·rename_i k hh;obtain⟨v,hv,hc⟩:=hhi _ rfl;obtain rfl:=C2.dD hc;rw[Iw rfl,hv]at fin⊢;obtain⟨hb,h⟩:=kU h;obtain⟨h0,h1⟩:=jg hb;refine fin h ?_;simp[Instr.sliceBounds,jr k hh b.size _ h0 o_]
 ·rename_i k ll;obtain⟨v,hv,hc⟩:=hlo _ rfl;obtain rfl:=C2.dD hc;rw[Iy rfl,hv]at fin⊢;obtain⟨hb,h⟩:=kU h;obtain⟨h0,h1⟩:=jg hb;refine fin h ?_;simp[Instr.sliceBounds,jr k ll b.size _ h0 o_]
 ·rename_i k ll k' hh;obtain⟨v,hv,hc⟩:=hlo _ rfl;obtain rfl:=C2.dD hc;obtain⟨v',hv',hc'⟩:=hhi _ rfl;obtain rfl:=C2.dD hc';rw[hv,hv']at fin⊢;obtain⟨hb,h⟩:=kU h;obtain⟨h0,h1⟩:=jg hb;cases hb':inB ll (hh.toNat+1)with
  |false=>rw[hb']at h;exact h.elim
  |true=>
   rw[hb']at h;obtain⟨h2,h3⟩:=jg hb';refine fin h ?_;simp[Instr.sliceBounds,jr k' hh b.size _ h0 o_,jr k ll hh.toNat _ h2 o_]
 ·exact h.elim
theorem JQ(hL:bJ P L)(R:Rel g N bs ρ a w st){t:TypeId}{x:AV}{xv:Value}{lo hi mx:Option Operand}(hx:C2 (aC g w ρ st.heap) x xv){K:AV->AS->Prop}(h:aslice L st t x (lo.map st.ev) (hi.map st.ev) (mx.map st.ev) K):
  ∃z u st' ρ',K z st'/\Rel g N bs ρ' a w st'/\C2 (aC g w ρ' st'.heap) z u/\(Instr.sliceAt t xv (lo.map a.eval) (hi.map a.eval) (mx.map a.eval)).run P w= .ok u w/\((∀id,x≠ .own id)->ρ'=ρ):=by
 have side:∀{X:CX}{o:Option Operand},(∀x,C2 X (st.ev x) (a.eval x))->(∀y,o.map st.ev=some y-> ∃v,o.map a.eval=some v/\C2 X y v)/\(o.map st.ev=none->o.map a.eval=none):=by
  intro X o hX;cases o with
  |none=>exact⟨(λ y h=>by cases h),λ _=>rfl⟩
  |some o=>exact⟨(λ y h=>by cases h;exact⟨_,rfl,hX o⟩),(λ h=>by cases h)⟩
 unfold aslice at h;split at h
 ·rename_i ti hmx hti;have am':mx=none:=by cases mx with|none=>rfl|some m=>cases hmx
  subst am';split at h
  ·rename_i e s n sc f hk;split at h
   ·rename_i ei rH;replace h:=ZF h;obtain⟨rfl,h⟩:=h;obtain⟨s1,s2⟩:=side R.ev;obtain⟨s3,s4⟩:=side R.ev;obtain⟨z,u,hk',hp,hr⟩:=UJ hL hti hk rH (C2.wY hx) s1 s2 s3 s4 h w;exact⟨z,u,st,ρ,hk',R,C2.vG (C0.Uh hp),hr,λ _=>rfl⟩
   ·exact h.elim
  ·rename_i e hk;split at h;rotate_left
   ·exact h.elim
   rename_i ei rH;obtain rfl:=C2.dD hx;obtain⟨s1,s2⟩:=side R.ev;obtain⟨s3,s4⟩:=side R.ev;obtain⟨l,hh,g1,g2,g3,g4⟩:=JO s1 s2 s3 s4 h w;have e1:l=0:=o_
   have e2:hh=0:=o_
   subst e1 e2;have hu:=bW hL hti hk;exact⟨_,.slice none 0 0,st,ρ,g3,R,rfl,rY hL hu rH w (g4 0 (aoH _)),λ _=>rfl⟩
  ·rename_i e id hk;split at h
   ·rename_i e' s n sc f hfo;split at h
    ·rename_i ei rH;obtain⟨hb,h⟩:=kU h;obtain rfl:=aos hb;have hxv:xv=ρ id:=(C2.kK hx).trans (DL (R.objs _ (aA hfo)));subst hxv;have hu:=bW hL hti hk;obtain⟨us,hown,hs0,hfl,hsc,ha⟩:=R.objs _ (aA hfo);have hown:w.ownsRow 0 e' ei.size (ρ id) n us:=hown;obtain⟨s1,s2⟩:=side R.ev;obtain⟨s3,s4⟩:=side R.ev;rcases h with h|h|h
     ·obtain⟨R',hrow⟩:=R.freeze hfo;obtain⟨z,u,hk',hp,hr⟩:=aei (Y:=aC g w ρ (st.freeze id ei.size n sc f).heap) hL hti hk rH hrow R.ev h w;exact⟨z,u,_,ρ,hk',R',C2.vG (C0.Uh hp),hr,λ _=>rfl⟩
     ·obtain⟨l,hh,g1,g2,g3,g4⟩:=JO s1 s2 s3 s4 h w;rcases hown.2 with⟨hv,hz⟩|⟨b,cap,cur,hv,hB,hcur,hnc,hcm,hcs,htake⟩
      ·have e1:l=0:=o_
       have e2:hh=0:=o_
       subst e1 e2 hz;refine⟨_,.slice none 0 0,st,ρ,g3,R,.inr ⟨rfl,none,0,rfl⟩, ?_,λ _=>rfl⟩;rw[hv];exact rY hL hu rH w (g4 0 o_)
      ·have hsl:=rY (A:=some ⟨b,0,none⟩) hL hu rH w (g4 cap hnc);by_cases hc:cap=l
       ·have e0:hh-l=0:=o_
        refine⟨_,.slice (some ⟨b,0,none⟩) (hh-l) (cap-l),st,ρ,g3,R,.inr ⟨e0,some ⟨b,0,none⟩,cap-l,by rw[e0]⟩,by rw[hv];simpa[hc]using hsl,λ _=>rfl⟩
       ·refine⟨_,.slice (some ⟨b,l*ei.size,none⟩) (hh-l) (cap-l),st,ρ,g3,R,.inl ⟨b,cap-l, ?_,o_,rfl⟩, ?_,λ _=>rfl⟩
        ·show iQ (dJ (ρ id))=[b];rw[hv];rfl
        ·rw[hv];rw[if_neg hc]at hsl;simpa only[apR,apk,apl,Option.map_none]using hsl
     ·obtain⟨l,hh,g1,g2,g3,g4⟩:=JO s1 s2 s3 s4 h w;replace g3:=ZF g3;obtain⟨rfl,g3⟩:=g3;simp only[iU]at g3;have hul:=hown.1;have hhn:hh*ei.size<=n*ei.size:=apx _ g2;have key:∀v,w.ownsRow 0 e' ei.size v hh (us.take (hh*ei.size))->(∀b∈blks v,b∈blks (ρ id))->Rel g N bs (cu ρ st.base v) a w (st.obj st.base id (.row e' ei.size hh sc f)):=λ v hov hbv=>by
       refine R.obj st.base id R.below (aoH _) (λ _ _ _=>rfl) (λ b hb=> .inr ⟨_,aA hfo,rfl,hbv b hb⟩) (λ hE=> ?_) (pY hov);refine⟨us.take (hh*ei.size),by simpa[aC,cu]using hov,hs0,λ i hi=>hfl i o_,λ hv x hx=> ?_, ?_⟩
       ·obtain⟨i,hi,hx⟩:=kL.oK.1 hx;exact hsc hv x (kL.oK.2 ⟨i,o_,hx⟩)
       ·have:=PC.cut.qI (n:=0) (lo:=0) (hi:=0) hfl 0 hh (aoB _) g2;simp only[aqo,apl,aqN]at this;rw[this];exact(ha.imp λ _ _=>PC.mono hE.keep hE.mem).take _
      rcases hown.2 with⟨hv,hz⟩|⟨b,cap,cur,hv,hB,hcur,hnc,hcm,hcs,htake⟩
      ·have e2:hh=0:=o_
       subst e2 hz;refine⟨_,.slice none 0 0,_,_,g3,key _ ⟨s_,.inl ⟨rfl,rfl⟩⟩ (λ b hb=>by cases hb),by simp[C2,C1,C0,aC,cu,dJ], ?_,λ hne=>absurd rfl (hne id)⟩;rw[hv];exact rY hL hu rH w (g4 0 o_)
      ·have hsl:=rY (A:=some ⟨b,0,none⟩) hL hu rH w (g4 cap hnc);refine⟨_,.slice (some ⟨b,0,none⟩) hh cap,_,_,g3,key _ ⟨by rw[aou,hul,ap5 hhn],.inr ⟨b,cap,cur,rfl,hB,hcur,o_,hcm,hcs,by rw[<-htake,aqX,ap5 hhn]⟩⟩ (λ c hc=>by rw[hv];exact hc),by simp[C2,C1,C0,aC,cu,dJ], ?_,λ hne=>absurd rfl (hne id)⟩;rw[hv];simpa[Addr.add]using hsl
    ·exact h.elim
   ·exact h.elim
  ·rename_i b hk;obtain rfl:=C2.dD hx;obtain⟨s1,s2⟩:=side R.ev;obtain⟨s3,s4⟩:=side R.ev;obtain⟨z,u,hk',hp,hr⟩:=abf hL hti hk s1 s2 s3 s4 h w;exact⟨z,u,st,ρ,hk',R,hp,hr,λ _=>rfl⟩
  ·rename_i m e id k hk;rcases h with h|h|h;split at h
   ·rename_i cs ei hlo hhi hfo rH;have Iw:lo=none:=by cases lo with|none=>rfl|some m=>cases hlo
    have Iy:hi=none:=by cases hi with|none=>rfl|some m=>cases hhi
    subst Iw Iy;obtain⟨hb,h⟩:=kU h;simp only[aon]at hb;obtain⟨⟨⟨hb1,hb2⟩,hb3⟩,hp⟩:=hb;have hs:=aox hb1;have hlen:=aos hb2;have hm:=aox hb3;have hu:=qH hL hti hk;obtain⟨R',b,us,hv,hh,ha,hkb,hkk⟩:=R.iR hfo;obtain⟨b',hb',hxv⟩:=C2.kJ hx;have hb':dJ (ρ id)= .pointer (some ⟨b',0,none⟩):=hb';rw[hv]at hb';cases hb';subst hxv;have hul:us.length=m*ei.size:=by rw[<-ha.1,hlen]
    have hfl:=BZ hlen;have hpc:aG (PC w (aJ g w ρ (st.iR id).heap)) (flat m (chunk ei.size cs)) us:=by
     rw[hfl];exact⟨ha.1,λ i x u hx hu=>PC.mono hkk (λ _ _=>rfl) (Q9 (ha.2 i x u hx hu) (aoD.1 hp x (ao3 hx)))⟩
    refine⟨_,.slice (some ⟨b,0,none⟩) m m,_,ρ,h,R',C2.vG (C0.Uh (.sl ei.size m _ _ _ m us hs (aoH _) (by simp only[maxLen];omega) hul (Oo hlen) (λ hv x hx=> ?_) hpc.2 (.inr ⟨b,0,rfl,hkb,λ j u hj=> ?_⟩))), ?_⟩
    ·rw[hfl]at hx;have:=aoD.1 hv x hx;cases x<;>first|exact⟨_,rfl⟩|(simp[isV]at this)
    ·have hj':(us.toArray)[j]? =some u:=by simpa using hj
     simp only[World.cell?,aC,hh];simpa using hj
    ·refine⟨?_,λ _=>rfl⟩;simp[Instr.sliceAt,run_underlying hu,Instr.sliceBounds,Instr.sureAddr,gQ hL rH,Addr.add]
   ·exact h.elim
   ·split at h
    ·rename_i ei hlo hhi rH;have Iw:lo=none:=by cases lo with|none=>rfl|some m=>cases hlo
     have Iy:hi=none:=by cases hi with|none=>rfl|some m=>cases hhi
     subst Iw Iy;have hu:=qH hL hti hk;obtain⟨b,hb,rfl⟩:=C2.kJ hx;have hb:dJ (ρ id)= .pointer (some ⟨b,0,none⟩):=hb;refine⟨_,.slice (some ⟨b,k*1,none⟩) m m,st,ρ,h,R,.inl ⟨b,m,by show iQ (dJ (ρ id))=[b];rw[hb];rfl,aoH _,rfl⟩, ?_,λ _=>rfl⟩;simp[Instr.sliceAt,run_underlying hu,Instr.sliceBounds,Instr.sureAddr,gQ hL rH,Addr.add]
    ·exact h.elim
   ·exact h.elim
  ·exact h.elim
 ·exact h.elim
where
 aei (hL:bJ P L) {X Y:CX} {t:TypeId} {ti:TI} {e:TypeId} (hti:aX L t=some ti) (hk:ti.kind= .slice e) {ei:TI} (rH:aX L e=some ei) {n:Nat} {sc:Bool} {f:Nat->List AV} {xv:Value} (hx:PC Y.w Y.keep (.sl ei.size n sc f) xv)
   {lo hi:Option Operand} (hev:∀o,C2 X (st.ev o) (a.eval o)) {K:AV->Prop} (h:aa4 ei.size n sc f (lo.map st.ev) (hi.map st.ev) K) (w:World):
   ∃z u,K z/\PC Y.w Y.keep z u/\(Instr.sliceAt t xv (lo.map a.eval) (hi.map a.eval) none).run P w= .ok u w:=by
  have plain:∀o:Operand,(∃k n,st.ev o= .v (.int k n))->C2 Y (st.ev o) (a.eval o):=by
   rintro o ⟨k,n,e⟩;have:=hev o;rw[e]at this⊢;exact this
  have side:∀{o:Option Operand},(∀x,o=some x-> ∃k n,st.ev x= .v (.int k n))->(∀y,o.map st.ev=some y-> ∃v,o.map a.eval=some v/\C2 Y y v)/\(o.map st.ev=none->o.map a.eval=none):=by
   intro o ho;cases o with
   |none=>exact⟨(λ y h=>by cases h),λ _=>rfl⟩
   |some o=>exact⟨(λ y h=>by cases h;exact⟨_,rfl,plain o (ho o rfl)⟩),(λ h=>by cases h)⟩
  have h':=h;unfold aa4 at h';simp only[FM]at h';have ints:(∀x,lo=some x-> ∃k n,st.ev x= .v (.int k n))/\(∀x,hi=some x-> ∃k n,st.ev x= .v (.int k n)):=by
   split at h'
   ·grind
   ·grind
   ·grind
   ·grind
   ·exact h'.elim
  obtain⟨s1,s2⟩:=side ints.1;obtain⟨s3,s4⟩:=side ints.2;exact UJ hL hti hk rH hx s1 s2 s3 s4 h w
end
section
variable{P:Program}{L:Lay}{g:Base}{N:Nat}{bs:List (Array Value)}{ρ:Nat->Value}{a:Act}{w:World}{st:AS}
theorem JR(hL:bJ P L)(_R:Rel g N bs ρ a w st){t:TypeId}{x:AV}{xv:Value}(hx:C2 (aC g w ρ st.heap) x xv){K:AV->Prop}(h:XU L t x K):
  ∃z u,K z/\C2 (aC g w ρ st.heap) z u/\(Instr.arrayAt t xv).run P w= .ok u w:=by
 unfold XU at h;split at h
 ·rename_i ti s n sc f hti;split at h
  ·rename_i m e hk;have hu:=qH hL hti hk;split at h
   ·rename_i ei rH;obtain⟨hb,h⟩:=kU h;simp only[aon]at hb;have hm:=aox hb.2;obtain⟨hmn,h⟩:=h;cases C2.wY hx with
    |sl _ _ _ _ A c us hs0 hnc hcc hl hfl hsc hu' hr=>
     rcases hr with h0|⟨b,o,rfl,kb,hcell⟩
     ·omega
     ·have hall:aG (PC w (aJ g w ρ st.heap)) (flat n f) us:=⟨by rw[hl];exact oJ hfl,hu'⟩;have hpre:flat m f=(flat n f).take (m*s):=by
       have:=PC.cut.qI (n:=0) (lo:=0) (hi:=0) hfl 0 m (aoB _) hmn;simpa using this
      refine⟨_,.pointer (some ⟨b,o,none⟩),h,⟨b,o,us.take (m*s),s_,kb,by rw[hpre];exact hall.take _,λ j y hj=> ?_⟩, ?_⟩
      ·grind
      ·have:¬n<m:=o_
       simp[Instr.arrayAt,run_underlying hu,this]
   ·exact h.elim
  ·exact h.elim
 ·exact h.elim
end
section
variable{P:Program}{L:Lay}{g:Base}{N:Nat}{bs:List (Array Value)}{ρ:Nat->Value}{a:Act}{w:World}{st:AS}
theorem Rel.al5(R:Rel g N bs ρ a w st){id:Nat}{o':AO}(jo:aT (aC g w ρ st.heap) id o'):Rel g N bs ρ a w ⟨st.sl,setObj id o' st.heap,st.back,st.base⟩:=by
 have hk:∀k,aJ g w ρ st.heap k->aJ g w ρ (setObj id o' st.heap) k:=λ k h=>⟨h.1,h.2.1,by rw[jI];exact h.2.2⟩;refine⟨R.size,R.defers,R.below,λ t=>C2.same (X:=aC g w ρ st.heap) (Y:=aC g w ρ (setObj id o' st.heap)) hk (λ _ _=>rfl) rfl (R.tmps t),λ p hp=> ?_,by rw[jI];exact R.apart,by rw[jI];exact R.own,R.back.imp λ _ _=>C2.same (X:=aC g w ρ st.heap) (Y:=aC g w ρ (setObj id o' st.heap)) hk (λ _ _=>rfl) rfl⟩;rcases wV hp with rfl|hp'
 ·exact aT.same (X:=aC g w ρ st.heap) hk (λ _ _=>rfl) rfl (λ _ _=>rfl) jo
 ·exact aT.same (X:=aC g w ρ st.heap) hk (λ _ _=>rfl) rfl (λ _ _=>rfl) (R.objs p hp')
theorem UK{n lo k:Nat}{f f':Nat->List AV}(h:lo+k<=n):flat n (Ud lo k f f')=flat lo f++(flat k f'++flat (n-(lo+k)) (λ i=>f (lo+k+i))):=by
 obtain⟨r,rfl⟩:∃r,n=lo+(k+r):=⟨n-(lo+k),o_⟩;rw[show lo+(k+r)-(lo+k)=r by omega];unfold Ud;rw[zu,zu]
theorem ahT{S:AV->Value->Prop}{s n lo k:Nat}{f f':Nat->List AV}{us vs:List Value}(h:lo+k<=n)(hfl:∀i,i<n->(f i).length=s)(ha:aG S (flat n f) us)(hv:aG S (flat k f') vs):
  aG S (flat n (Ud lo k f f')) (us.take (lo*s)++vs++us.drop ((lo+k)*s)):=by
 rw[UK h,aoL];have e1:=PC.cut.qI (n:=0) (lo:=0) (hi:=0) hfl 0 lo (aoB _) o_;simp only[aqo,apl,aqN]at e1;have e2:=PC.cut.qI (n:=0) (lo:=0) (hi:=0) hfl (lo+k) n h (aoH _);have hl:=oJ hfl;rw[aoF (by rw[aoK,hl,Nat.sub_mul];exact aoH _)]at e2;rw[e1,e2];exact(ha.take _).app (hv.app (ha.drop _))
theorem ZR{s n lo k:Nat}{f f':Nat->List AV}(_:lo+k<=n)(hfl:∀i,i<n->(f i).length=s)(hgl:∀i,i<k->(f' i).length=s):∀i,i<n->(Ud lo k f f' i).length=s:=by
 intro i hi;unfold Ud kV;cases h1:Nat.ble lo i with
 |false=>exact hfl i hi
 |true=>
  have h1:=aox h1;cases h2:Nat.ble k (i-lo)with
  |true=>
   have h2:=aox h2;exact hfl _ o_
  |false=>
   refine hgl _ ?_;rcases aoP (i-lo) k with h3|h3
   ·exact h3
   ·rw[apm h3]at h2;cases h2
theorem al6{n lo k:Nat}{f f':Nat->List AV}(h:lo+k<=n)(hf:∀x∈flat n f,∃y,x= .v y)(hg:∀x∈flat k f',∃y,x= .v y):∀x∈flat n (Ud lo k f f'),∃y,x= .v y:=by
 intro x hx;rw[UK h]at hx;rcases aov.1 hx with hx|hx
 ·obtain⟨i,hi,hx⟩:=kL.oK.1 hx;exact hf x (kL.oK.2 ⟨i,o_,hx⟩)
 ·rcases aov.1 hx with hx|hx
  ·exact hg x hx
  ·obtain⟨i,hi,hx⟩:=kL.oK.1 hx;exact hf x (kL.oK.2 ⟨lo+k+i,o_,hx⟩)
theorem Rel.X6(R:Rel g N bs ρ a w st){id:Nat}{e:TypeId}{s n:Nat}{sc sc':Bool}{f f':Nat->List AV}(hf:aK id st.heap=some (.row e s n sc f)){lo k:Nat}{vs:List Value}(hlk:lo+k<=n)(hgl:∀i,i<k->(f' i).length=s)
  (hav:aG (PC w (aJ g w ρ st.heap)) (flat k f') vs)(hsv:sc'=true->sc=true/\ ∀x∈flat k f',∃y,x= .v y):
  (k=0->Rel g N bs ρ a w ⟨st.sl,setObj id (.row e s n sc' (Ud lo k f f')) st.heap,st.back,st.base⟩)/\
  (0<k-> ∀b,iQ (dJ (ρ id))=[b]-> ∃w',(storeCells ⟨b,lo*s,none⟩ vs 0).run P w= .ok () w'/\Rel g N bs ρ a w' ⟨st.sl,setObj id (.row e s n sc' (Ud lo k f f')) st.heap,st.back,st.base⟩):=by
 obtain⟨us,hown,hs0,hfl,hsc,ha⟩:=R.objs _ (aA hf);have hown:w.ownsRow 0 e s (ρ id) n us:=hown;have ha:aG (PC w (aJ g w ρ st.heap)) (flat n f) us:=ha;have hvl:vs.length=k*s:=by rw[<-hav.1,oJ hgl]
 have hall:=ahT hlk hfl ha hav;have hv':sc'=true-> ∀x∈flat n (Ud lo k f f'),∃y,x= .v y:=λ h=>al6 hlk (hsc (hsv h).1) (hsv h).2;refine⟨λ hk0=>R.al5 ?_,λ hk0 b hb=> ?_⟩
 ·subst hk0;refine⟨us,hown,hs0,ZR hlk hfl hgl,hv', ?_⟩;have e0:vs=[]:=aoz o_;subst e0;have hall':aG (PC w (aJ g w ρ st.heap)) (flat n (Ud lo 0 f f')) us:=by simpa using hall
  exact hall'
 ·rcases hown.2 with⟨_,hz⟩|⟨b',cap,cur,hv,hB,hh,hnc,hcm,hcs,htake⟩
  ·omega
  ·have hb2:iQ (dJ (ρ id))=[b']:=by rw[hv];rfl
   rw[hb2]at hb;cases hb;have hls:(lo+k)*s<=n*s:=apx _ hlk;rw[apN]at hls;have hns:n*s<=cap*s:=apx _ hnc;have hrun:=run_storeCells_at P b (lo*s) e vs 0 cur w hh o_ (PC.Ea hav);refine⟨_,hrun,R.write hf (by rw[hv];exact aol) rJ (by simp[World.setRow]) (λ k' hk'=>setRow_other w b k' _ o_) (λ hk hm=> ?_)⟩;refine⟨us.take (lo*s)++vs++us.drop ((lo+k)*s),⟨?_,.inr ⟨b,cap,_,hv,hB,setRow_heap w b _ _ e _ hh,hnc,hcm, ?_, ?_⟩⟩,hs0,ZR hlk hfl hgl,hv',hall.imp λ _ _=>PC.mono hk hm⟩
   ·grind
   ·grind
   ·rw[<-htake];have:=kL.G9 cur.toList (lo*s) vs (n*s) o_ (by rw[aoY];omega);rw[show lo*s+vs.length=(lo+k)*s by rw[hvl,apN]]at this;simpa using this
theorem uT{t tx ty e:TypeId}{s:Nat}(hu:P.underlying t=some (.slice e))(hsz:(sizeOf e).run P w= .ok s w){yv:Value}{vs:List Value}(hS:Src P s tx yv 0 vs w)(A:Option Addr)(m c:Nat):
  (Builtin.copy_ #[t,tx] ty #[.slice A m c,yv]).run P w= .ok (goInt 0) w:=by
 have hv:=aoz (by simpa using hS.newsLen);subst hv;have hc:=hS.cells;cases A<;>simp[Builtin.copy_,run_underlying hu,hS.len,hsz,hc,storeCells]
theorem uU{t tx ty e:TypeId}{s n m c:Nat}(hu:P.underlying t=some (.slice e))(hsz:(sizeOf e).run P w= .ok s w){yv:Value}{vs:List Value}(hS:Src P s tx yv n vs w)(hn:n<=m){b:Addr}{w':World}(hst:(storeCells b vs 0).run P w= .ok () w'):
  (Builtin.copy_ #[t,tx] ty #[.slice (some b) m c,yv]).run P w= .ok (goInt n) w':=by
 have hc:=hS.cells;simp[Builtin.copy_,run_underlying hu,hS.len,hsz,ap5 hn,hc,hst]
theorem sQ{t e ty:TypeId}{z:Value}{s m c:Nat}(hu:P.underlying t=some (.slice e))(hz:(zeroValue e).run P w= .ok z w)(hzs:z.cells.size=s){b:Addr}{w':World}(hm:0<m)(hst:(storeCells b (List.replicate m z.cells.toList).flatten 0).run P w= .ok () w'):
  (Builtin.clear_ #[t] ty #[.slice (some b) m c]).run P w= .ok (.tuple #[]) w':=by
 obtain⟨m,rfl⟩:∃k,m=k+1:=⟨m-1,o_⟩;have e1:(Builtin.zeroCells z.cells (m+1)).toList=(List.replicate (m+1) z.cells.toList).flatten:=by
  have:=JM z.cells s hzs (m+1);rw[<-hzs]at this;exact this
 simp[Builtin.clear_,run_underlying hu,hz,e1,hst]
theorem aej(hL:bJ P L)(R:Rel g N bs ρ a w st){s:Nat}(hs0:0<s){t:TypeId}{y:AV}{yv:Value}(hy:C2 (aC g w ρ st.heap) y yv){K:Nat->Bool->(Nat->List AV)->Prop}(h:akz L st s t y K):
  ∃m sc f us,K m sc f/\Src P s t yv m us w/\aG (PC w (aJ g w ρ st.heap)) (flat m f) us/\(∀i,i<m->(f i).length=s)/\(sc=true-> ∀x∈flat m f,∃z,x= .v z):=by
 unfold akz at h;split at h
 ·rename_i id s1 lo m;split at h
  ·rename_i ti hti;split at h
   ·rename_i e e' s' r sc f hk hfo;cases hb:(Nat.beq s s1&&Nat.beq s s')with
    |false=>rw[hb]at h;exact h.elim
    |true=>
     rw[hb]at h;simp only[aon]at hb;obtain rfl:=aos hb.1;obtain rfl:=aos hb.2;obtain⟨hmr,h⟩:=h;obtain⟨us,hown,_,hfl,hsc,ha⟩:=R.objs _ (aA hfo);have hown:w.ownsRow 0 e' s (ρ id) r us:=hown;have hcut:=PC.cut.qI (n:=0) (lo:=0) (hi:=0) hfl lo (lo+m) o_ hmr;rw[show lo+m-lo=m by omega]at hcut;have hall:=(ha.drop (lo*s)).take (m*s);rw[<-hcut]at hall;have aek:∀i,i<m->(f (lo+i)).length=s:=λ i hi=>hfl _ o_;have hul:((us.drop (lo*s)).take (m*s)).length=m*s:=by rw[<-hall.1,oJ aek]
     refine⟨m,sc,_,(us.drop (lo*s)).take (m*s),h, ?_,hall,aek,λ h x hx=> ?_⟩
     ·rcases C2.uh hy with⟨b,c,hbk,hmc,rfl⟩|⟨hm0,A,c,rfl⟩
      ·rcases hown.2 with⟨hv,hz⟩|⟨b',cap,cur,hv,_⟩
       ·have hbk:iQ (dJ (ρ id))=[b]:=hbk;rw[hv]at hbk;cases hbk
       ·have hbk:iQ (dJ (ρ id))=[b]:=hbk;rw[hv]at hbk;cases hbk;have hcell:=hown.cells (by rw[hv];rfl);refine aqS w (bW hL hti hk) ⟨b',lo*s,none⟩ m c _ hul (λ j u hj=> ?_) (PC.Ea hall);rw[apg]at hj;split at hj
        ·rw[apC]at hj;have:=hcell _ _ hj;rw[apk]at this⊢;rwa [apl]at this
        ·cases hj
      ·subst hm0;rw[show(us.drop (lo*s)).take (0*s)=[] by simp];cases A with
       |none=>
        have:=Src.ofNil (size:=s) w (bW hL hti hk) c;exact this
       |some aa=>exact aqS w (bW hL hti hk) aa 0 c [] s_ s_ s_
     ·grind
   ·exact h.elim
  ·exact h.elim
 ·split at h
  ·rename_i n sc' g' hsrc;obtain⟨us,h1,h2,h3,h4⟩:=Ot hL R hs0 hy hsrc;exact⟨n,sc',g',us,h,h1,h2,h3,h4⟩
  ·exact h.elim
theorem abg(hL:bJ P L)(R:Rel g N bs ρ a w st){t tx ty:TypeId}{x y:AV}{xv yv:Value}(hx:C2 (aC g w ρ st.heap) x xv)(hy:C2 (aC g w ρ st.heap) y yv){K:AV->AS->Prop}(h:ad5 L st t tx x y K):
  ∃z u st' w',K z st'/\Rel g N bs ρ a w' st'/\C2 (aC g w' ρ st'.heap) z u/\(Builtin.copy_ #[t,tx] ty #[xv,yv]).run P w= .ok u w':=by
 unfold ad5 at h;split at h
 ·rename_i ti hti;split at h
  ·rename_i e hk;have hu:=bW hL hti hk;split at h
   ·rename_i ei rH
    ·cases hb:Nat.ble 1 ei.size with
     |false=>rw[hb]at h;exact h.elim
     |true=>
      rw[hb]at h;simp only[cond_true]at h;have hs:=aox hb;have hsz:=gQ hL rH w;have h':=aej hL R hs hy h;clear h;obtain⟨n,sc',f',vs,h,hS,hav,hgl,hsv⟩:=h';split at h
      ·rename_i id;split at h
       ·rename_i e' s m sc f hfo;cases hb:Nat.beq s ei.size with
        |false=>rw[hb]at h;exact h.elim
        |true=>
         rw[hb]at h;obtain rfl:=aos hb;obtain⟨hnm,h⟩:=h;obtain⟨us,hown,_⟩:=R.objs _ (aA hfo);have hown:w.ownsRow 0 e' ei.size (ρ id) m us:=hown;have hxv:xv=ρ id:=(C2.kK hx).trans (eY hown);subst hxv;obtain⟨h0,h1⟩:=R.X6 (P:=P) hfo (lo:=0) (f':=f') (sc':=sc&&sc') o_ hgl hav (λ h=>by simp only[aon]at h;exact⟨h.1,hsv h.2⟩);rcases aqQ n with hn|hn
         ·refine⟨_,_,_,w,h,h0 hn,rfl, ?_⟩;subst hn;rcases hown.2 with⟨hv,hz⟩|⟨b,cap,cur,hv,_⟩<;>rw[hv]<;>exact uT hu hsz hS _ _ _
         ·rcases hown.2 with⟨hv,hz⟩|⟨b,cap,cur,hv,_⟩
          ·omega
          ·obtain⟨w',hst,R'⟩:=h1 hn b (by rw[hv];rfl);refine⟨_,_,_,w',h,R',rfl, ?_⟩;rw[hv];rw[aqN]at hst;exact uU hu hsz hS hnm hst
       ·exact h.elim
      ·rename_i id s lo m;split at h
       ·rename_i e' s' r sc f hfo;cases hb:(Nat.beq s ei.size&&Nat.beq s' s)with
        |false=>rw[hb]at h;exact h.elim
        |true=>
         rw[hb]at h;simp only[aon]at hb;obtain rfl:=aos hb.1;obtain rfl:=aos hb.2;obtain⟨⟨hnm,hmr⟩,h⟩:=h;obtain⟨h0,h1⟩:=R.X6 (P:=P) hfo (lo:=lo) (f':=f') (sc':=sc&&sc') o_ hgl hav (λ h=>by simp only[aon]at h;exact⟨h.1,hsv h.2⟩);rcases aqQ n with hn|hn
         ·refine⟨_,_,_,w,h,h0 hn,rfl, ?_⟩;subst hn;rcases C2.uh hx with⟨b,c,_,_,rfl⟩|⟨_,A,c,rfl⟩<;>exact uT hu hsz hS _ _ _
         ·rcases C2.uh hx with⟨b,c,hbk,hmc,rfl⟩|⟨hm0,_⟩
          ·obtain⟨w',hst,R'⟩:=h1 hn b hbk;exact⟨_,_,_,w',h,R',rfl,uU hu hsz hS hnm hst⟩
          ·omega
       ·rename_i t' cs hfo;cases hb:(Nat.beq s 1&&Nat.ble n m&&Nat.ble (lo+n*ei.size) cs.length)with
        |false=>rw[hb]at h;exact h.elim
        |true=>
         rw[hb]at h;simp only[aon]at hb;obtain rfl:=aos hb.1.1;have hnm:=aox hb.1.2;have hle:=aox hb.2;obtain⟨b',us,e1,hh,ha⟩:=R.objs _ (aA hfo);have e1:ρ id= .pointer (some ⟨b',0,none⟩):=e1;have hfl:=oJ hgl;have hvl:vs.length=n*ei.size:=by rw[<-hav.1,hfl]
         have hul:=ha.1.symm;have hnew:=JJ ha lo (hav.imp λ _ _=>C0.Uh (X:=aC g w ρ st.heap));have hrun:=run_storeCells_at P b' lo t' vs 0 us.toArray w hh (by simp;omega) (PC.Ea hav);have R':=R.write (o':= .box t' (splice cs lo (flat n f'))) hfo (by rw[e1];exact aol) (w':=w.setRow b' (us.toArray.toList.take (lo+0)++vs++us.toArray.toList.drop (lo+0+vs.length)).toArray) rJ (by simp[World.setRow]) (λ k' hk'=>setRow_other w b' k' _ o_) (λ hk hm=>⟨b',_,e1,setRow_heap w b' _ _ t' _ hh,by
          have:=hnew.imp λ _ _=>C0.same (X:=aC g w ρ st.heap) (Y:=aC g (w.setRow b' (us.toArray.toList.take (lo+0)++vs++us.toArray.toList.drop (lo+0+vs.length)).toArray) ρ (setObj id (.box t' (splice cs lo (flat n f'))) st.heap)) hk hm rfl;simpa using this⟩)
         rcases aqQ n with hn|hn
         ·subst hn;have e0:vs=[]:=aoz o_;subst e0;have hself:w.setRow b' (us.toArray.toList.take (lo+0)++[]++us.toArray.toList.drop (lo+0+0)).toArray=w:=by
           simpa using setRow_self w b' us.toArray t' (0,0) hh
          rw[show([]:List Value).length=0 from rfl,hself]at R';refine⟨_,_,_,w,h,R',rfl, ?_⟩;rcases C2.uh hx with⟨b,c,_,_,rfl⟩|⟨_,A,c,rfl⟩<;>exact uT hu hsz hS _ _ _
         ·rcases C2.uh hx with⟨b,c,hbk,hmc,rfl⟩|⟨hm0,_⟩
          ·have hbk:iQ (dJ (ρ id))=[b]:=hbk;rw[e1]at hbk;cases hbk;rw[Nat.mul_one];exact⟨_,_,_,_,h,R',rfl,uU hu hsz hS hnm hrun⟩
          ·omega
       ·exact h.elim
      ·exact h.elim
   ·exact h.elim
  ·exact h.elim
 ·exact h.elim
theorem X7(hL:bJ P L)(R:Rel g N bs ρ a w st){t ty:TypeId}{x:AV}{xv:Value}(hx:C2 (aC g w ρ st.heap) x xv){K:AV->AS->Prop}(h:XW L st t x K):
  ∃z st' w',K z st'/\Rel g N bs ρ a w' st'/\C2 (aC g w' ρ st'.heap) z (.tuple #[])/\(Builtin.clear_ #[t] ty #[xv]).run P w= .ok (.tuple #[]) w':=by
 unfold XW at h;split at h
 ·rename_i ti hti;split at h
  ·rename_i e n c hk;have hu:=bW hL hti hk;obtain rfl:=C2.dD hx;exact⟨_,st,w,h,R,rfl,by simp[Builtin.clear_,run_underlying hu]⟩
  ·rename_i e id s lo m hk;have hu:=bW hL hti hk;split at h
   ·rename_i ei rH;split at h
    ·rename_i e' s' r sc f hfo;cases hb:(Nat.beq s ei.size&&Nat.beq s' s&&Nat.beq ei.zero.length ei.size&&Nat.ble 1 ei.size&&ei.zero.all (λ x=>x.oneCell'))with
     |false=>rw[hb]at h;exact h.elim
     |true=>
      rw[hb]at h;simp only[aon]at hb;obtain⟨⟨⟨⟨hb1,hb2⟩,hb3⟩,hb4⟩,hone⟩:=hb;obtain rfl:=aos hb1;obtain rfl:=aos hb2;have hzl:=aos hb3;obtain⟨hmr,h⟩:=h;obtain⟨z,hz,hzc⟩:=DW hL rH w;have hzs:z.cells.size=ei.size:=by rw[<-aoY,hzc];exact hzl
      obtain⟨us,h1,h2⟩:=D9 ei.zero m;have hfl:flat m (λ _=>ei.zero.map AV.v)=us.map .v:=by
       rw[Eb,h2,List.map_flatten,List.map_replicate]
      obtain⟨h0,h3⟩:=R.X6 (P:=P) hfo (f':=λ _=>ei.zero.map .v) (sc':=sc) (vs:=us) hmr (λ i _=>by simpa using hzl) (by
       rw[hfl];exact⟨s_,λ i x u hx hu=>by
        rw[ao0,hu]at hx;cases hx;refine .v u ?_;have hmem:u∈(List.replicate m ei.zero).flatten:=by rw[<-h2];exact ao3 hu
        obtain⟨l,hl,hm⟩:=List.mem_flatten.1 hmem;rw[aqn hl]at hm;exact aoD.1 hone u hm⟩) (λ hsc=>⟨hsc,λ x hx=>by
        rw[hfl]at hx;obtain⟨y,_,rfl⟩:=aoR.1 hx;exact⟨y,rfl⟩⟩)
      rcases aqQ m with hn|hn
      ·refine⟨_,_,w,h,h0 hn,rfl, ?_⟩;subst hn;rcases C2.uh hx with⟨b,c,_,_,rfl⟩|⟨_,A,c,rfl⟩
       ·simp[Builtin.clear_,run_underlying hu]
       ·cases A<;>simp[Builtin.clear_,run_underlying hu]
      ·rcases C2.uh hx with⟨b,c,hbk,hmc,rfl⟩|⟨hm0,_⟩
       ·obtain⟨w',hst,R'⟩:=h3 hn b hbk;refine⟨_,_,w',h,R',rfl,sQ hu hz hzs hn ?_⟩;rw[hzc,<-h2];exact hst
       ·omega
    ·exact h.elim
   ·exact h.elim
  ·exact h.elim
 ·exact h.elim
end
theorem bY{i:Nat}:∀{h:List (Nat×AO)},bP i h=true↔ ∃p∈h,p.1=i
 |[]=>by simp[bP]
 |(k,o)::l=>by
  simp only[bP,apf,bY (h:=l),aot];constructor
  ·rintro(h|⟨p,hp,e⟩)
   ·exact⟨(k,o),.inl rfl,aos h⟩
   ·exact⟨p,.inr hp,e⟩
  ·rintro⟨p,rfl|hp,e⟩
   ·left;rw[show k=i from e];simp
   ·exact .inr ⟨p,hp,e⟩
theorem Cb{ρ:Nat->Value}{h:List (Nat×AO)}:∀{l:List (Nat×AO)},(l.map (·.1)).Nodup->(ah ρ h).Nodup->(∀p∈l,∃q∈h,q.1=p.1)->(ah ρ l).Nodup
 |[],_,_,_=>by simp[ah]
 |p::l,hn,hh,hs=>by
  have hn':=apj.1 hn;have ih:=Cb hn'.2 hh (λ q hq=>hs q (aoq _ hq));rw[aS,ao9];obtain⟨p',hp',e1⟩:=hs p aol;refine⟨by rw[<-e1];exact oq hh hp',ih,λ x hx y hy e=> ?_⟩;subst e;obtain⟨q,hq,hqe⟩:=aQ.1 hy;obtain⟨q',hq',e2⟩:=hs q (aoq _ hq);have:=fQ hh p' hp' q' hq' (by rw[e1];exact hx) (by rw[e2];exact hqe);exact hn'.1 (aoR.2 ⟨q,hq,by rw[<-e2,<-this,e1]⟩)
theorem UL{st:AS}:∀{h:List (Nat×AO)},aa7 st h-> ∀p∈h,aK p.1 st.heap=some p.2
 |[],_,p,hp=>by cases hp
 |(k,o)::l,h,p,hp=>by
  rcases aot.1 hp with rfl|hp
  ·exact h.1
  ·exact UL h.2 p hp
theorem rZ{d:Nat}{hin:List (Nat×AO)}{p:Nat×AO}:∀{h:List (Nat×AO)},p∈yC d hin h->p∈h/\p.1≠d/\bP p.1 hin=false
 |[],hp=>by cases hp
 |(k,o)::l,hp=>by
  simp only[yC]at hp;cases hb:(Nat.beq k d||bP k hin)with
  |true=>
   rw[hb]at hp;have:=rZ hp;exact⟨aoq _ this.1,this.2⟩
  |false=>
   rw[hb]at hp;rcases aot.1 hp with rfl|hp
   ·simp only[ap9]at hb;exact⟨aol,λ e=>(by rw[show k=d from e]at hb;simp at hb),hb.2⟩
   ·have:=rZ hp;exact⟨aoq _ this.1,this.2⟩
theorem Ov{d:Nat}{hin:List (Nat×AO)}(ρ:Nat->Value):∀h:List (Nat×AO),(ah ρ (yC d hin h)).Sublist (ah ρ h)
 |[]=>by simp[yC,ah]
 |(k,o)::l=>by
  have ih:=Ov (d:=d) (hin:=hin) ρ l;simp only[yC];cases(Nat.beq k d||bP k hin)with
  |true=>rw[aS];exact ih.trans (List.sublist_append_right _ _)
  |false=>rw[cond_false,aS,aS];exact List.Sublist.append (List.Sublist.refl _) ih
theorem qJ{h:List (Nat×AO)}:∀{l:List (Nat×AO)},fU h l=true-> ∀p∈l,adV h p.2=true
 |[],_,p,hp=>by cases hp
 |(k,o)::l,hc,p,hp=>by
  simp only[fU,aon]at hc;rcases aot.1 hp with rfl|hp
  ·exact hc.1
  ·exact qJ hc.2 p hp
theorem zx{d:Nat}{hin:List (Nat×AO)}:∀{l:List (Nat×AO)},wW d hin l=true-> ∀p∈l,(∃q∈hin,q.1=p.1)\/p.1=d
 |[],_,p,hp=>by cases hp
 |(k,o)::l,hc,p,hp=>by
  simp only[wW,aon,apf]at hc;rcases aot.1 hp with rfl|hp
  ·exact hc.1.imp (λ h=>bY.1 h) (λ h=>aos h)
  ·exact zx hc.2 p hp
theorem C0.over{Y:CX}(hk:∀b,X.keep b->Y.keep b)(hm:Y.w=X.w)(hρ:∀i,bP i h=true->Y.ρ i=X.ρ i){av:AV}(hr:aa6 h av=true)(hc:C0 X av u):C0 Y av u:=by
 have hmm:∀b,X.keep b->Y.w.heap[b]? =X.w.heap[b]? :=λ _ _=>by rw[hm]
 cases av with
 |own id=>exact(hc).trans (congrArg dJ (hρ id hr)).symm
 |dG id s j k=>obtain⟨b,n,c,h1,h2⟩:=hc;exact⟨b,n,c,(hρ id hr).trans h1,h2⟩
 |jH id s j k=>exact Or.imp (λ⟨b,c,h1,h2⟩=>⟨b,c,(congrArg (λ v=>iQ (dJ v)) (hρ id hr)).trans h1,h2⟩) _root_.id hc
 |box id off=>obtain⟨b,h1,h2⟩:=hc;exact⟨b,(congrArg dJ (hρ id hr)).trans h1,h2⟩
 |cf gg id off=>obtain⟨b,h1,h2⟩:=hc;exact⟨b,(congrArg dJ (hρ id hr)).trans h1,h2⟩
 |el cs k=>
  obtain⟨b,o,us,e,kb,ha,hcell⟩:=hc;exact⟨b,o,us,e,hk b kb,ha.imp (λ _ _=>PC.mono hk hmm),λ j y hj=>(ap7 (hmm b kb)).trans (hcell j y hj)⟩
 |sl s n sc f=>exact PC.mono hk hmm hc
 |v x=>exact hc
 |junk=>trivial
 |agg cs=>exact hc
 |bI cs=>exact hc
 |fn g caps=>exact hc
theorem aG.FV{R S:AV->Value->Prop}{q:AV->Bool}{xs:List AV}{us:List Value}(h:aG R xs us)(hq:xs.all q=true)(hi:∀x u,q x=true->R x u->S x u):aG S xs us:=
 ⟨h.1,λ i x u hx hu=>hi x u (aoD.1 hq x (ao3 hx)) (h.2 i x u hx hu)⟩
theorem C1.over{X Y:CX}{h:List (Nat×AO)}(hk:∀b,X.keep b->Y.keep b)(hm:Y.w=X.w)(hρ:∀i,bP i h=true->Y.ρ i=X.ρ i){av:AV}{u:Value}(hr:aku h av=true)(hc:C1 X av u):C1 Y av u:=by
 cases av with
 |agg cs=>obtain⟨us,e,ha⟩:=hc;exact⟨us,e,ha.FV hr λ _ _ q k=>C0.over hk hm hρ q k⟩
 |fn g cs=>obtain⟨us,e,ha⟩:=hc;exact⟨us,e,ha.FV hr λ _ _ q k=>C0.over hk hm hρ q k⟩
 |own id=>exact C1.vG (C0.over hk hm hρ hr hc)
 |dG id s j k=>exact C1.vG (C0.over hk hm hρ hr hc)
 |jH id s j k=>exact C1.vG (C0.over hk hm hρ hr hc)
 |box id k=>exact C1.vG (C0.over hk hm hρ hr hc)
 |cf gg id k=>exact C1.vG (C0.over hk hm hρ hr hc)
 |el cs k=>exact C1.vG (C0.over hk hm hρ hr hc)
 |sl s n sc f=>exact C1.vG (C0.over hk hm hρ hr hc)
 |v x=>exact hc
 |junk=>trivial
 |bI cs=>exact hc
theorem C2.over{X Y:CX}{h:List (Nat×AO)}(hk:∀b,X.keep b->Y.keep b)(hm:Y.w=X.w)(hρ:∀i,bP i h=true->Y.ρ i=X.ρ i){av:AV}{u:Value}(hr:adU h av=true)(hc:C2 X av u):C2 Y av u:=by
 cases av with
 |bI vs=>obtain⟨us,e,ha⟩:=hc;exact⟨us,e,ha.FV hr λ _ _ q k=>C1.over hk hm hρ q k⟩
 |agg cs=>exact C2.mP (C1.over hk hm hρ hr hc)
 |fn g cs=>exact C2.mP (C1.over hk hm hρ hr hc)
 |own id=>exact C2.mP (C1.over hk hm hρ hr hc)
 |dG id s j k=>exact C2.mP (C1.over hk hm hρ hr hc)
 |jH id s j k=>exact C2.mP (C1.over hk hm hρ hr hc)
 |box id k=>exact C2.mP (C1.over hk hm hρ hr hc)
 |cf gg id k=>exact C2.mP (C1.over hk hm hρ hr hc)
 |el cs k=>exact C2.mP (C1.over hk hm hρ hr hc)
 |sl s n sc f=>exact C2.mP (C1.over hk hm hρ hr hc)
 |v x=>exact hc
 |junk=>trivial
theorem ael{x:AV}(hn:Um x=true)(h:C2 X x u):C1 X x u:=by
 cases x<;>first|exact h|cases hn
theorem aT.over{X Y:CX}{h:List (Nat×AO)}(hk:∀b,X.keep b->Y.keep b)(hm:Y.w=X.w)(hρ:∀i,bP i h=true->Y.ρ i=X.ρ i){p:Nat×AO}(hp:bP p.1 h=true)(hr:adV h p.2=true)(ho:aT X p.1 p.2):aT Y p.1 p.2:=by
 have hmm:∀b:Nat,Y.w.heap[b]? =X.w.heap[b]? :=λ _=>by rw[hm]
 refine aT.move hk (λ b _=>hmm b) (hρ _ hp) (λ b _=>hmm b) ?_ ho;cases hpo:p.2 with
 |box t cs=>rw[hpo]at hr;exact⟨rfl,λ us ha=>ha.FV hr λ _ _ q k=>C0.over hk hm hρ q k⟩
 |row=>rfl
 |mp t ks rs=>
  rw[hpo]at hr;refine⟨rfl,rfl,rfl,λ vs hi=>hi.imp λ p hp' i hi'=>congrArg dJ (hρ _ ?_)⟩;have:=aoD.1 hr p hp';rw[hi']at this;exact this
 |obs o=>rfl
 |rn e cs=>rw[hpo]at hr;exact⟨rfl,rfl,λ us ha=>ha.FV hr λ _ _ q k=>C0.over hk hm hρ q k⟩
theorem dA(ρ:Nat->Value)(h k:List (Nat×AO)):ah ρ (h++k)=ah ρ h++ah ρ k:=by
 simp[ah]
theorem fD{ρ':Nat->Value}(e:∀p∈h,ρ' p.1=ρ p.1):ah ρ' h=ah ρ h:=by
 induction h with
 |nil=>rfl
 |cons p h ih=>rw[aS,aS,e p aol,ih λ q hq=>e q (aoq _ hq)]
section
variable{P:Program}{g:Base}{N:Nat}{bs:List (Array Value)}{ρ:Nat->Value}{a:Act}{w:World}{st:AS}
theorem ahU(R:Rel g N bs ρ a w st){f:FuncId}{aZ:List AV}{args:List Value}(hargs:aG (C2 (aC g w ρ st.heap)) aZ args){hin hout:List (Nat×AO)}{r:AV}{d:Nat}(hs:aj P f hin aZ r hout)(hh:aa7 st hin)
  (hb:(uQ (hin.map (·.1))&&aZ.all Um&&fU hout hout&&adU hout r&&wW d hin hout)=true):
  Calls P f args.toArray w λ e w'=> ∃u ρ',e= .returned u/\Rel g N bs ρ' a w' (st.Uc d hin hout)/\C2 (aC g w' ρ' (st.Uc d hin hout).heap) r u:=by
 simp only[aon]at hb;obtain⟨⟨⟨⟨hnd,hnt⟩,hcl⟩,hrr⟩,hnm⟩:=hb;have hfind:=UL hh;have hsub:∀p∈hin,p∈st.heap:=λ p hp=>aA (hfind p hp);have BH:∀b,b∈ah ρ hin->b∈ah ρ st.heap:=λ b hb=>by
  obtain⟨p,hp,e⟩:=aQ.1 hb;exact aQ.2 ⟨p,hsub p hp,e⟩
 have akD:=Cb (FQ hnd) R.apart λ p hp=>⟨p,hsub p hp,rfl⟩;refine(hs.2 w (aJ g w ρ st.heap) ρ args (λ b h=>h.1) (λ p hp=>R.objs p (hsub p hp)) akD (λ b hb=>⟨(R.iJ (BH b hb)).1,λ h=>h.2.2 (BH b hb)⟩) (hargs.FV hnt λ _ _=>ael)).mono ?_;rintro e w' ⟨u,ρ',rfl,hbel,hfix,hc,jo,hnd',hnew⟩;let X8:Nat->Value:=λ i=>if bP i hout=true then ρ' i else ρ i
 have e2:∀i,bP i hout=true->X8 i=ρ' i:=λ i h=>by simp only[X8,if_pos h]
 have ana:∀i,i≠d->DK (X8 i) (ρ i):=λ i hi=>by
  by_cases h:bP i hout=true
  ·rw[e2 i h];obtain⟨q,hq,eq⟩:=bY.1 h;rcases zx hnm q hq with⟨p,hp,ep⟩|h'
   ·grind
   ·omega
  ·simp only[X8,if_neg h];exact .refl _
 have hrest:∀p∈yC d hin st.heap,X8 p.1=ρ p.1:=λ p hp=>by
  have h:=rZ hp;by_cases hh:bP p.1 hout=true
  ·obtain⟨q,hq,eq⟩:=bY.1 hh;rcases zx hnm q hq with⟨p',hp',ep⟩|h'
   ·have:=h.2.2;rw[<-eq,<-ep,bY.2 ⟨p',hp',rfl⟩]at this;cases this
   ·omega
  ·grind
 have hb2:ah X8 (st.Uc d hin hout).heap=ah ρ' hout++ah ρ (yC d hin st.heap):=by
  show ah X8 (hout++pX d (yC d hin st.heap))=_;rw[dA,oz,fD hrest,fD λ p hp=>e2 p.1 (bY.2 ⟨p,hp,rfl⟩)]
 have JU:=Ov (d:=d) (hin:=hin) ρ st.heap;have hapart:∀b,b∈ah ρ (yC d hin st.heap)->b ∉ ah ρ hin:=by
  intro b hb hb';obtain⟨p,hp,ep⟩:=aQ.1 hb;obtain⟨q,hq,eq⟩:=aQ.1 hb';have:=fQ R.apart p (rZ hp).1 q (hsub q hq) ep eq;have hno:=(rZ hp).2.2;rw[this,bY.2 ⟨q,hq,rfl⟩]at hno;cases hno
 have hE:Ext d (aC g w ρ st.heap) (aC g w' X8 (st.Uc d hin hout).heap):=by
  refine⟨λ b hk=>⟨apQ hk.1 hbel.size,hk.2.1, ?_⟩,λ b hk=>hbel.block b hk.1 λ hin'=>hk.2.2 (BH b hin'),λ i hi=>ana i hi⟩;rw[hb2,aov];rintro(h|h)
  ·rcases hnew b h with h|h
   ·exact absurd hk.1 o_
   ·exact hk.2.2 (BH b h)
  ·exact hk.2.2 (JU.subset h)
 have hkY:∀b,(aC (dX w (aJ g w ρ st.heap) (λ b=>b∈ah ρ hin)) w' ρ' hout).keep b->(aC g w' X8 (st.Uc d hin hout).heap).keep b:=by
  rintro b ⟨h1,h2,h3⟩;refine⟨h1,λ hlt=> ?_, ?_⟩
  ·rcases h2 (apQ hlt R.below.size)with h|h
   ·exact h.2.1 hlt
   ·exact(R.own b (BH b h)).elim (λ h=>absurd hlt o_) .inr
  ·rw[hb2,aov];rintro(h|h)
   ·exact h3 h
   ·have hlt:=(R.iJ (JU.subset h)).1;rcases h2 hlt with h'|h'
    ·exact h'.2.2 (JU.subset h)
    ·grind
 refine⟨u,X8,rfl,⟨R.size,R.defers, ?_,λ t=> ?_, ?_, ?_, ?_,R.back.map rfl λ _ _=>C2.ext hE⟩,C2.over hkY rfl e2 hrr hc⟩
 ·exact R.below.trans ⟨hbel.os,hbel.tape,hbel.output,hbel.size,λ k hk hM=>hbel.block k (apQ hk R.below.size) λ hin'=>(R.own k (BH k hin')).elim (λ h=>absurd hk o_) hM⟩
 ·rw[show(st.Uc d hin hout).tmps t=uP d (st.tmps t)from qG rfl st.sl t];exact C2.ext hE (R.tmps t)
 ·intro p hp;rcases aov.1 hp with hp|hp
  ·exact aT.over hkY rfl e2 (bY.2 ⟨p,hp,rfl⟩) (qJ hcl p hp) (jo p hp)
  ·simp only[pX,aoR]at hp;obtain⟨q,hq,rfl⟩:=hp;have hq':=rZ hq;refine aT.ext hE (hrest q hq) (λ b hb=> ?_) (R.objs q hq'.1);have hm:=aQ.2 ⟨q,hq,hb⟩;exact hbel.block b (R.iJ (JU.subset hm)).1 (hapart b hm)
 ·rw[hb2,ao9];refine⟨hnd',R.apart.sublist JU,λ x hx y hy e=> ?_⟩;rcases hnew x hx with h|h
  ·exact absurd (R.iJ (JU.subset hy)).1 o_
  ·grind
 ·intro x hx;rw[hb2,aov]at hx;rcases hx with hx|hx
  ·rcases hnew x hx with h|h
   ·exact .inl (ao7 R.below.size h)
   ·exact R.own x (BH x h)
  ·exact R.own x (JU.subset hx)
end
section
variable{P:Program}{L:Lay}{g:Base}{N:Nat}{bs:List (Array Value)}{ρ:Nat->Value}{a:Act}{w:World}{st:AS}
theorem vM(R:Rel g N bs ρ a w st){id:Nat}{e:TypeId}{s n:Nat}{sc:Bool}{f:Nat->List AV}(hf:aK id st.heap=some (.row e s n sc f)){k:Nat->Prop}(hk:∀b,aJ g w ρ st.heap b->k b)(hb:∀b∈blks (ρ id),k b):
  PC w k (.sl s n sc f) (ρ id):=by
 obtain⟨us,hown,hs0,hfl,hsc,ha⟩:=R.objs _ (aA hf);have hown:w.ownsRow 0 e s (ρ id) n us:=hown;have ha':=ha.imp λ _ _=>PC.mono hk λ _ _=>rfl;rcases hown.2 with⟨hv,hz⟩|⟨b,cap,cur,hv,hB,hh,hnc,hcm,_⟩
 ·rw[hv];subst hz;exact .sl s 0 sc f none 0 us hs0 (aoH _) (by simp[maxLen]) hown.1 hfl hsc ha'.2 (.inl rfl)
 ·have hkb:=hb b (by rw[hv];exact aol);rw[hv];refine .sl s n sc f _ cap us hs0 hnc hcm hown.1 hfl hsc ha'.2 (.inr ⟨b,0,rfl,hkb,λ j u hj=> ?_⟩);have:=hown.cells (by rw[hv];rfl) j u hj;rwa [apk]at this
def Reads(st:AS)(ρ:Nat->Value)(w:World)(k:Nat->Prop)(x:AV):Prop:=
 ∀id e s n sc f,x= .own id->aK id st.heap=some (.row e s n sc f)->PC w k (.sl s n sc f) (ρ id)
theorem nil_reads{w:World}{k:Nat->Prop}{s:Nat}{sc:Bool}{f:Nat->List AV}(h0:0<s):PC w k (.sl s 0 sc f) (.slice none 0 0):=
 .sl s 0 sc f none 0 [] h0 (aoB _) (by simp[maxLen]) s_ (λ i hi=>absurd hi o_) (λ _ x hx=>by cases hx) (λ i x u hx=>by simp[flat]at hx) (.inl rfl)
theorem PC.hd{w:World}{k:Nat->Prop}{s n:Nat}{sc:Bool}{f:Nat->List AV}{v:Value}(h:PC w k (.sl s n sc f) v):dJ v=v:=by cases h;rfl
theorem Aq{k:Nat->Prop}(hk:∀b,aJ g w ρ st.heap b->k b){x:AV}{u:Value}(hr:Reads st ρ w k x)(h:C0 (aC g w ρ st.heap) x u):C0 ⟨w,k,λ _=>undef⟩ (Nz st.heap x) u:=by
 cases x with
 |v y=>exact h
 |sl s n sc f=>exact PC.mono hk (λ _ _=>rfl) h
 |own id=>
  simp only[Nz];cases hf:aK id st.heap with
  |none=>trivial
  |some o=>
   cases o with
   |box t cs=>trivial
   |mp t ks rs=>trivial
   |obs o=>trivial
   |rn e cs=>trivial
   |row e s n sc f=>
    have hu:u=dJ (ρ id):=h;rw[hu,PC.hd (hr id e s n sc f rfl hf)];exact hr id e s n sc f rfl hf
 |_=>trivial
theorem ahV{k:Nat->Prop}(hk:∀b,aJ g w ρ st.heap b->k b){x y:AV}{u:Value}(hs:ahO st.heap x y)(hr:Reads st ρ w k x)(h:C0 (aC g w ρ st.heap) x u):C0 ⟨w,k,λ _=>undef⟩ y u:=by
 cases hs with
 |eq=>exact Aq hk hr h
 |nil s sc f h0=>
  cases h;exact nil_reads h0
theorem ZT{k:Nat->Prop}(hk:∀b,aJ g w ρ st.heap b->k b){x y:AV}{u:Value}(hs:aa5 st.heap x y)(hr:Reads st ρ w k x)(hr':∀cs,x= .agg cs-> ∀c∈cs,Reads st ρ w k c)(h:C2 (aC g w ρ st.heap) x u):C1 ⟨w,k,λ _=>undef⟩ y u:=by
 cases hs with
 |eq=>
  cases x with
  |agg cs=>
   obtain⟨us,rfl,ha⟩:=C2.uj h;refine⟨us,rfl, ?_⟩;refine⟨by simpa using ha.1,λ i y v hy hv=> ?_⟩;rw[ao0]at hy;cases hc:cs[i]? with
   |none=>rw[hc]at hy;cases hy
   |some c=>
    rw[hc]at hy;cases hy;exact Aq hk (hr' cs rfl c (ao3 hc)) (ha.2 i c v hc hv)
  |v y=>exact h
  |sl s n sc f=>exact C1.vG (Aq hk hr h)
  |own id=>exact C1.vG (Aq hk hr h)
  |_=>trivial
 |nil s sc f h0=>
  obtain rfl:=C2.dD h;exact nil_reads h0
 |agg cs ds hl hp=>
  obtain⟨us,rfl,ha⟩:=C2.uj h;refine⟨us,rfl,by rw[<-hl];exact ha.1,λ i y v hy hv=> ?_⟩;have hi:i<cs.length:=by
   rcases aoP i cs.length with h'|h'
   ·exact h'
   ·grind
  have hc:=aom hi;exact ahV hk (hp i _ y hc hy) (hr' cs rfl _ (ao1 hi)) (ha.2 i _ v hc hv)
theorem IX{k:Nat->Prop}(hk:∀b,aJ g w ρ st.heap b->k b){xs ys:List AV}{us:List Value}(hs:Ip st.heap xs ys)(hr:∀x∈xs,Reads st ρ w k x/\ ∀cs,x= .agg cs-> ∀c∈cs,Reads st ρ w k c)(h:aG (C2 (aC g w ρ st.heap)) xs us):aG (C1 ⟨w,k,λ _=>undef⟩) ys us:=by
 refine⟨by rw[<-hs.1];exact h.1,λ i y u hy hu=> ?_⟩;have hi:i<xs.length:=by
  rcases aoP i xs.length with h'|h'
  ·exact h'
  ·rw[aoW (by rw[<-hs.1];exact h')]at hy;cases hy
 have hx:=aom hi;have:=hr _ (ao1 hi);exact ZT hk (hs.2 i _ y hx hy) this.1 this.2 (h.2 i _ u hx hu)
structure Later(g:Base)(ρ:Nat->Value)(w:World)(st st':AS):Prop where
 keep:∀b,aJ g w ρ st.heap b->aJ g w ρ st'.heap b
 rows:∀id e s n sc f,aK id st.heap=some (.row e s n sc f)->aK id st'.heap=some (.row e s n sc f)\/PC w (aJ g w ρ st'.heap) (.sl s n sc f) (ρ id)
theorem Later.refl:Later g ρ w st st:=⟨λ _ h=>h,λ _ _ _ _ _ _ h=> .inl h⟩
theorem Later.trans{s1 s2 s3:AS}(h:Later g ρ w s1 s2)(k:Later g ρ w s2 s3):Later g ρ w s1 s3:=
 ⟨λ b hb=>k.keep b (h.keep b hb),λ id e s n sc f hf=>by
  rcases h.rows id e s n sc f hf with h1|h1
  ·exact k.rows id e s n sc f h1
  ·exact .inr (PC.mono k.keep (λ _ _=>rfl) h1)⟩
theorem He{id i:Nat}{a:AV}{e:TypeId}{s n:Nat}{sc:Bool}{f:Nat->List AV}(hne:i≠id):∀{h:List (Nat×AO)},aK i h=some (.row e s n sc f)->aK i ((h.filter λ p=> !Nat.beq p.1 id).map λ p=>(p.1,p.2.thaw id a))=some (.row e s n sc f)
 |[],h=>by cases h
 |p::h,hf=>by
  simp only[aK]at hf;rw[apo];cases hb:Nat.beq p.1 i with
  |true=>
   rw[hb]at hf;simp only[cond_true,aoJ]at hf;have hpi:=aos hb;have:Nat.beq p.1 id=false:=beq_false (by rw[hpi];exact hne);rw[this];simp only[Bool.not_false,if_true,apd,aK,hb,cond_true,hf];rfl
  |false=>
   rw[hb]at hf;have ih:=He (a:=a) hne (h:=h) hf;split
   ·simp only[apd,aK,hb,cond_false];exact ih
   ·exact ih
theorem ZU(R:Rel g N bs ρ a w st)(x:AV):Rel g N bs ρ a w (QL st x)/\Later g ρ w st (QL st x)/\ ∀id e s n sc f,x= .own id->aK id st.heap=some (.row e s n sc f)->PC w (aJ g w ρ (QL st x).heap) (.sl s n sc f) (ρ id):=by
 cases x with
 |own id=>
  simp only[QL];cases hf:aK id st.heap with
  |none=>exact⟨R,Later.refl,λ id' e s n sc f hx hf'=>by cases hx;rw[hf]at hf';cases hf'⟩
  |some o=>
   cases o with
   |box t cs=>exact⟨R,Later.refl,λ id' e s n sc f hx hf'=>by cases hx;rw[hf]at hf';cases hf'⟩
   |mp t ks rs=>exact⟨R,Later.refl,λ id' e s n sc f hx hf'=>by cases hx;rw[hf]at hf';cases hf'⟩
   |obs o=>exact⟨R,Later.refl,λ id' e s n sc f hx hf'=>by cases hx;rw[hf]at hf';cases hf'⟩
   |rn e cs=>exact⟨R,Later.refl,λ id' e s n sc f hx hf'=>by cases hx;rw[hf]at hf';cases hf'⟩
   |row e s n sc f=>
    obtain⟨R',hrow⟩:=R.freeze hf;refine⟨R',⟨λ b hb=> ?_,λ i e' s' n' sc' f' hf'=> ?_⟩,λ id' e' s' n' sc' f' hx hf'=>by cases hx;rw[hf]at hf';cases hf';exact hrow⟩
    ·refine⟨hb.1,hb.2.1,λ hin=>hb.2.2 ?_⟩;have:ah ρ (st.freeze id s n sc f).heap=ah ρ (st.heap.filter λ p=> !Nat.beq p.1 id):=by simp[AS.freeze,ah,List.flatMap_map]
     rw[this]at hin;exact fH hin
    ·by_cases e:i=id
     ·grind
     ·exact .inl (He e hf')
 |_=>exact⟨R,Later.refl,λ id e s n sc f hx=>by cases hx⟩
theorem UM:∀(l:List AV){st:AS},Rel g N bs ρ a w st->Rel g N bs ρ a w (l.foldl QL st)/\Later g ρ w st (l.foldl QL st)/\ ∀x∈l,∀id e s n sc f,x= .own id->aK id st.heap=some (.row e s n sc f)->PC w (aJ g w ρ (l.foldl QL st).heap) (.sl s n sc f) (ρ id)
 |[],st,R=>⟨R,Later.refl,λ x hx=>by cases hx⟩
 |x::l,st,R=>by
  obtain⟨R1,h1,k1⟩:=ZU R x;obtain⟨R2,h2,k2⟩:=UM l R1;refine⟨R2,h1.trans h2,λ y hy id e s n sc f hx hf=> ?_⟩;rcases aot.1 hy with rfl|hy'
  ·exact PC.mono h2.keep (λ _ _=>rfl) (k1 id e s n sc f hx hf)
  ·rcases h1.rows id e s n sc f hf with h|h
   ·exact k2 y hy' id e s n sc f hx h
   ·exact PC.mono h2.keep (λ _ _=>rfl) h
theorem akE(R:Rel g N bs ρ a w st)(x:AV):Rel g N bs ρ a w (FP st x)/\Later g ρ w st (FP st x)/\Reads st ρ w (aJ g w ρ (FP st x).heap) x/\ ∀cs,x= .agg cs-> ∀c∈cs,Reads st ρ w (aJ g w ρ (FP st x).heap) c:=by
 cases x with
 |agg cs=>
  obtain⟨R1,h1,k1⟩:=UM cs R;exact⟨R1,h1,(λ id e s n sc f hx=>by cases hx),λ cs' e c hc=>by cases e;exact k1 c hc⟩
 |own id=>
  obtain⟨R1,h1,k1⟩:=ZU R (.own id);exact⟨R1,h1,k1,λ cs e=>by cases e⟩
 |_=>exact⟨R,Later.refl,(λ id e s n sc f hx=>by cases hx),λ cs e=>by cases e⟩
theorem IY:∀(l:List AV){st:AS},Rel g N bs ρ a w st->Rel g N bs ρ a w (vJ st l)/\Later g ρ w st (vJ st l)/\ ∀x∈l,Reads st ρ w (aJ g w ρ (vJ st l).heap) x/\ ∀cs,x= .agg cs-> ∀c∈cs,Reads st ρ w (aJ g w ρ (vJ st l).heap) c
 |[],st,R=>⟨R,Later.refl,λ x hx=>by cases hx⟩
 |x::l,st,R=>by
  obtain⟨R1,h1,k1,k1'⟩:=akE R x;obtain⟨R2,h2,k2⟩:=IY l R1;have lift:∀{y:AV},Reads st ρ w (aJ g w ρ (FP st x).heap) y->Reads st ρ w (aJ g w ρ (vJ (FP st x) l).heap) y:=
   λ h id e s n sc f hx hf=>PC.mono h2.keep (λ _ _=>rfl) (h id e s n sc f hx hf)
  have ajQ:∀{y:AV},Reads (FP st x) ρ w (aJ g w ρ (vJ (FP st x) l).heap) y->Reads st ρ w (aJ g w ρ (vJ (FP st x) l).heap) y:=by
   intro y h id e s n sc f hx hf;rcases h1.rows id e s n sc f hf with h'|h'
   ·exact h id e s n sc f hx h'
   ·exact PC.mono h2.keep (λ _ _=>rfl) h'
  refine⟨R2,h1.trans h2,λ y hy=> ?_⟩;rcases aot.1 hy with rfl|hy'
  ·exact⟨lift k1,λ cs e c hc=>lift (k1' cs e c hc)⟩
  ·exact⟨ajQ (k2 y hy').1,λ cs e c hc=>ajQ ((k2 y hy').2 cs e c hc)⟩
theorem JV{X Y:CX}{d:Option Nat}{x:AV}{u:Value}(hr:ok0 d x=true)(hs:adW x=true\/(∀b,X.keep b->Y.keep b))(hw:Y.w=X.w)(hd:∀i,d=some i->Y.ρ i=X.ρ i)(h:C0 X x u):C0 Y x u:=by
 cases x with
 |v y=>exact h
 |sl s n sc f=>
  rcases hs with h1|h1
  ·cases h1
  ·exact PC.mono h1 (λ b _=>by rw[hw]) h
 |own i=>
  cases d with
  |none=>cases hr
  |some j=>
   have:=aos hr;subst this;show u=dJ (Y.ρ i);rw[hd i rfl];exact h
 |_=>cases hr
theorem Ec{X Y:CX}{d:Option Nat}{x:AV}{u:Value}(hr:ok1 d x=true)(hs:adX x=true\/(∀b,X.keep b->Y.keep b))(hw:Y.w=X.w)(hd:∀i,d=some i->Y.ρ i=X.ρ i)(h:C1 X x u):C1 Y x u:=by
 cases x with
 |agg cs=>
  obtain⟨us,e,ha⟩:=h;refine⟨us,e,ha.1,λ i y v hy hv=>JV (aoD.1 hr y (ao3 hy)) ?_ hw hd (ha.2 i y v hy hv)⟩;rcases hs with h1|h1
  ·exact .inl (aoD.1 h1 y (ao3 hy))
  ·exact .inr h1
 |v y=>exact h
 |sl s n sc f=>exact JV (x:= .sl s n sc f) hr hs hw hd h
 |own i=>exact JV (x:= .own i) hr hs hw hd h
 |_=>cases hr
theorem Ee{X Y:CX}{d:Option Nat}{x:AV}{u:Value}(hr:ok2 d x=true)(hs:oD x=true\/(∀b,X.keep b->Y.keep b))(hw:Y.w=X.w)(hd:∀i,d=some i->Y.ρ i=X.ρ i)(h:C2 X x u):C2 Y x u:=by
 cases x with
 |bI cs=>
  obtain⟨us,e,ha⟩:=h;refine⟨us,e,ha.1,λ i y v hy hv=>Ec (aoD.1 hr y (ao3 hy)) ?_ hw hd (ha.2 i y v hy hv)⟩;rcases hs with h1|h1
  ·exact .inl (aoD.1 h1 y (ao3 hy))
  ·exact .inr h1
 |agg cs=>exact C2.mP (Ec hr hs hw hd h)
 |v y=>exact h
 |sl s n sc f=>exact C2.mP (Ec hr hs hw hd h)
 |own i=>exact C2.mP (Ec hr hs hw hd h)
 |_=>cases hr
theorem oL{f:FuncId}(h:Enters P f)(args:Array Value)(w:World):(callFunc f args).run P w= .ok (.enter f args) w:=by
 obtain⟨fn,c,h1,h2,h3⟩:=h;have h2':¬fn.name= "runtime.NumGoroutine" :=λ e=>by rw[e]at h2;simp at h2
 simp[callFunc,h1,h2',h3]
theorem qh(R:Rel g N bs ρ a w st){f:FuncId}{aZ:List AV}{args:List Value}(hargs:aG (C2 (aC g w ρ st.heap)) aZ args){L:Lay}{W:Walk}{K:AV->AS->Prop}{d:Nat}(h:bZ P L W d f aZ st K)(hin:∀lv fn c,P.funcs[f]? =some fn->(fn.name== "runtime.NumGoroutine")=false->fn.body=some c->Nat.ble aZ.length fn.ntmps=true->W fn.ntmps lv c (λ e st'=>match e with| .exit _=>False| .normal=>pF L st' fn.results.toList (λ x=>yL (st'.out) (K x))| .ret=>pF L st' fn.results.toList (λ x=>yL (st'.out) (K x))) (st.into aZ)->Calls P f args.toArray w λ e w'=> ∃u x st' ρ',e= .returned u/\K x st'/\Rel g N bs ρ' a w' st'/\C2 (aC g w' ρ' st'.heap) x u):
  Enters P f/\Calls P f args.toArray w λ e w'=> ∃u x st' ρ',e= .returned u/\K x st'/\Rel g N bs ρ' a w' st'/\C2 (aC g w' ρ' st'.heap) x u:=by
 have mid:∀(frozen:Bool),∃k:Nat->Prop,∃st1,st1=(bif frozen then st else vJ st aZ)/\Rel g N bs ρ a w st1/\(∀b,k b->b<w.heap.size)/\(∀b,aJ g w ρ st.heap b->k b)/\(∀x∈aZ,Reads st ρ w k x/\ ∀cs,x= .agg cs-> ∀c∈cs,Reads st ρ w k c)/\(frozen=false-> ∀b,k b->aJ g w ρ st1.heap b):=by
  intro frozen;cases frozen with
  |true=>
   refine⟨λ b=>b<w.heap.size,st,rfl,R,λ b h=>h,λ b h=>h.1,λ x hx=> ?_,λ h=>by cases h⟩;have rd:∀y:AV,Reads st ρ w (λ b=>b<w.heap.size) y:=λ y id e s n sc f hy hf=>
    vM R hf (λ b h=>h.1) (λ b hb=>(R.iJ (aQ.2 ⟨_,aA hf,hb⟩)).1)
   exact⟨rd x,λ cs e c hc=>rd c⟩
  |false=>
   obtain⟨R1,h1,k1⟩:=IY aZ R;exact⟨aJ g w ρ (vJ st aZ).heap,vJ st aZ,rfl,R1,λ b h=>h.1,h1.keep,k1,λ _ b h=>h⟩
 cases h with
 |inl lv fn c hf hn hb hsz h=>
  exact⟨⟨fn,c,hf,hn,hb⟩,hin lv fn c hf hn hb hsz h⟩
 |Uc hin hout r hs hh hb hK=>
  refine⟨hs.1,(ahU R hargs hs hh hb).mono ?_⟩;rintro e w' ⟨u,ρ',rfl,R',hc⟩;exact⟨u,r,_,ρ',rfl,hK,R',hc⟩
 |sem hE hs=>exact⟨hE,hs g N bs ρ a w args R hargs⟩
 |plain bb r hs hsub hr hK=>
  obtain⟨k,st1,e1,R1,hk1,hk2,hk3,hk4⟩:=mid (oD r);rw[<-e1]at hK;refine⟨hs.1,(hs.2 w k args hk1 (IX hk2 hsub hk3 hargs)).mono ?_⟩;rintro e w' ⟨u,Ox,rfl,hb,hc,_,_,_⟩;refine⟨u,r,st1,ρ,rfl,hK,R1.world hb, ?_⟩;refine Ee (X:=aC (base0 w k) w' Ox []) hr ?_ rfl (λ i h=>by cases h) hc;cases hq:oD r with
  |true=>exact .inl rfl
  |false=>
   refine .inr λ b hbk=> ?_;have hkb:b<w.heap.size->aJ g w ρ st1.heap b:=λ h=>hk4 hq b ((hbk.2.1 h).elim id False.elim);refine⟨hbk.1,λ hlt=>(hkb (by have:=R.below.size;omega)).2.1 hlt,λ hin=> ?_⟩;have:=(R1.iJ hin).1;exact(hkb this).2.2 hin
 |fresh bb r e s n sc f' hs hsub hr hK=>
  obtain⟨k,st1,e1,R1,hk1,hk2,hk3,hk4⟩:=mid (oD r&&sc);rw[<-e1]at hK;refine⟨hs.1,(hs.2 w k args hk1 (IX hk2 hsub hk3 hargs)).mono ?_⟩;rintro e0 w' ⟨u,Ox,rfl,hb,hc,ho,hnd,hnew⟩;obtain⟨us,hown,hs0,hfl,hsc,ha⟩:=ho _ (aoo.2 rfl);have hBw:=R.below.size;have hkeep:(oD r&&sc)=false-> ∀b,aJ (base0 w k) w' Ox [(d,.row e s n sc f')] b->aJ g w' (cu ρ d (Ox d)) (st1.obj d d (.row e s n sc f')).heap b:=by
   intro hq b hbk;have hkb:b<w.heap.size->aJ g w ρ st1.heap b:=λ h=>hk4 hq b ((hbk.2.1 h).elim id False.elim);refine⟨hbk.1,λ hlt=>(hkb o_).2.1 hlt,λ hin=> ?_⟩;have hbl:ah (cu ρ d (Ox d)) (st1.obj d d (.row e s n sc f')).heap=blks (Ox d)++ah ρ (gone d d st1.heap):=by
    show ah _ (_::_)=_;rw[aS,yZ,oz]
    ·simp[cu]
    ·intro p hp;simp only[pX,aoR]at hp;obtain⟨q,hq,rfl⟩:=hp;exact(vI.1 hq).2.1
   rw[hbl,aov]at hin;rcases hin with h1|h1
   ·exact hbk.2.2 (by rw[aS];exact aoT _ h1)
   ·have hin':=fH h1;exact(hkb (R1.iJ hin').1).2.2 hin'
  have hblk:∀b∈blks (Ox d),w.heap.size<=b:=λ b hb'=>hnew b (aQ.2 ⟨_,aoo.2 rfl,hb'⟩);have R2:Rel g N bs (cu ρ d (Ox d)) a w' (st1.obj d d (.row e s n sc f')):=by
   refine R1.obj d d (R.below.then hb hBw) hb.size (λ b hlt _=>hb.block b hlt) (λ b hb'=> .inl (hblk b hb')) (λ hE=> ?_) (pY hown);refine⟨us,by simpa[aC,cu]using hown,hs0,hfl,hsc, ?_⟩;cases hq:(oD r&&sc)with
   |true=>
    simp only[aon]at hq;refine⟨ha.1,λ i x u hx hu=> ?_⟩;obtain⟨y,rfl⟩:=hsc hq.2 x (ao3 hx);have:=ha.2 i _ u hx hu;cases this with
    |v _ h1=>exact .v _ h1
   |false=>exact ha.imp λ _ _=>PC.mono (hkeep hq) λ _ _=>rfl
  refine⟨u,r,_,_,rfl,hK,R2, ?_⟩;refine Ee (X:=aC (base0 w k) w' Ox [(d,.row e s n sc f')]) hr ?_ rfl (λ i h=>by cases h;simp[aC,cu]) hc;cases hq:(oD r&&sc)with
  |true=>simp only[aon]at hq;exact .inl hq.1
  |false=>exact .inr (hkeep hq)
end
section
variable{P:Program}{L:Lay}{g:Base}{N:Nat}{bs:List (Array Value)}{ρ:Nat->Value}{a:Act}{w:World}{st:AS}
def X9(tmps:Array Value):ResultVar->Sem Value
 | .tmp t=>pure (tmps.getD t undef)
 | .cell a t=>do loadVar t (<-asAddr (tmps.getD a undef))
theorem Ya(fn:Func)(tmps:Array Value):results fn tmps=(do let vs<-fn.results.mapM (X9 tmps);pure (if h:vs.size=1 then vs[0]else .tuple vs)):=by
 rfl
theorem abh{P:Program}{w:World}{t:TypeId}{u:Value}:∀{v:Value},(Instr.loadAt t v).run P w= .ok u w->((do loadVar t (<-asAddr v):Sem Value)).run P w= .ok u w:=by
 intro v h3;cases v with
 |pointer q=>
  cases q with
  |none=>simp[Instr.loadAt,Instr.sureAddr]at h3
  |some q=>simpa[Instr.loadAt,Instr.sureAddr,asAddr]using h3
 |_=>simp[Instr.loadAt,Instr.sureAddr]at h3
theorem abj(hL:bJ P L)(R:Rel g N bs ρ a w st){r:ResultVar}{K:AV->Prop}(h:ajP L st r K):
  ∃x u,K x/\C2 (aC g w ρ st.heap) x u/\(X9 a.tmps r).run P w= .ok u w:=by
 cases r with
 |tmp t=>exact⟨_,_,h,R.tmps t,rfl⟩
 |cell p t=>
  obtain⟨x,u,h1,h2,h3⟩:=Ak hL R (R.tmps p) h;exact⟨x,u,h1,h2,abh h3⟩
theorem Oy(hL:bJ P L)(R:Rel g N bs ρ a w st):∀{rs:List ResultVar}{K:List AV->Prop},ad1 L st rs K->
 ∃xs us,K xs/\aG (C2 (aC g w ρ st.heap)) xs us/\(rs.mapM (X9 a.tmps)).run P w= .ok us w
 |[],K,h=>⟨[],[],h,aG.nil,rfl⟩
 |r::rs,K,h=>by
  obtain⟨x,u,h1,h2,h3⟩:=abj hL R h;obtain⟨xs,us,k1,k2,k3⟩:=Oy hL R h1;refine⟨x::xs,u::us,k1,aG.cons h2 k2, ?_⟩;simp only[List.mapM_cons,aoy,h3,aow,k3,aoQ]
theorem C1.Uo{X:CX}{x:AV}{u:Value}(h:C2 X x u):C1 X (Uo x) u:=by
 cases x<;>first|exact h|trivial
theorem Ri(hL:bJ P L)(R:Rel g N bs ρ a w st){fn:Func}{K:AV->Prop}(h:pF L st fn.results.toList K):
  ∃x u,K x/\C2 (aC g w ρ st.heap) x u/\(results fn a.tmps).run P w= .ok u w:=by
 obtain⟨xs,us,h1,h2,h3⟩:=Oy hL R h;have hr:(results fn a.tmps).run P w= .ok (if h:us.toArray.size=1 then us.toArray[0]else .tuple us.toArray) w:=by
  rw[Ya,Array.mapM_eq_mapM_toList];simp only[aoy,Sem.run_map,h3];rfl
 have hl:=h2.1;match xs,us,h1,h2,hl,hr with
 |[],[],h1,h2,_,hr=>exact⟨.bI [],.tuple #[],h1,⟨[],rfl,aG.nil⟩,by rw[hr];rfl⟩
 |[x],[u],h1,h2,_,hr=>exact⟨x,u,h1,h2.2 0 _ _ rfl rfl,by rw[hr];rfl⟩
 |x::y::xs,u::v::us,h1,h2,_,hr=>exact⟨.bI ((x::y::xs).map Uo),.tuple (u::v::us).toArray,h1,⟨_,rfl,h2.pW λ _ _=>C1.Uo⟩,by rw[hr];rfl⟩
theorem um{X:CX}{aZ:List AV}{args:List Value}(hargs:aG (C2 X) aZ args){n:Nat}(hsz:aZ.length<=n):∀t,C2 X (tN (DV 0 aZ) t) ((args.toArray++Array.replicate (n-args.toArray.size) undef).getD t undef):=by
 intro t;have hlen:=hargs.1.symm;have al7:∀(l:List AV)(k t:Nat),tN (DV k l) (k+t)=l.getD t .junk:=by
  intro l;induction l with
  |nil=>intro k t;simp[DV,tN]
  |cons x l ih=>
   intro k t;simp only[DV,tN];cases t with
   |zero=>simp
   |succ t=>
    have e:Nat.beq (k+(t+1)) k=false:=beq_false o_;rw[e,show k+(t+1)=(k+1)+t by omega,ih];simp
 have hen:=al7 aZ 0 t;rw[apl]at hen;rw[hen];by_cases ht:t<args.length
 ·have e1:(args.toArray++Array.replicate (n-args.toArray.size) undef).getD t undef=args[t]:=by
   rw[<-Array.getElem_eq_getD (h:=by simp;omega)];simp[ht]
  have e2:aZ.getD t .junk=aZ[t]'o_:=by
   rw[List.getD,aom o_];rfl
  rw[e1,e2];exact hargs.2 t _ _ (aom o_) (aom ht)
 ·have e1:(args.toArray++Array.replicate (n-args.toArray.size) undef).getD t undef=undef:=by
   by_cases h2:t<n
   ·simp_all
   ·grind
  have e2:aZ.getD t .junk= .junk:=by
   rw[List.getD,aoW o_];rfl
  rw[e2];trivial
end
def Yb:List (Nat×Nat)->Nat->Option Nat
 |[],_=>none
 |(k,i)::r,x=>bif Nat.beq x i then some k else Yb r x
def pK(σ:List (Nat×Nat))(ρ:Nat->Value):Nat->Value:=λ i=>match Yb σ i with|some k=>ρ k|none=>ρ i
theorem su:∀{σ:List (Nat×Nat)}{k i:Nat},kE σ k=some i->(k,i)∈σ
 |[],_,_,h=>by cases h
 |(k',i')::r,k,i,h=>by
  simp only[kE]at h;cases hb:Nat.beq k k' with
  |true=>
   rw[hb]at h;simp only[cond_true,aoJ]at h;rw[aos hb,<-h];exact aol
  |false=>
   rw[hb]at h;exact aoq _ (su h)
theorem Oz:∀{σ:List (Nat×Nat)}{i:Nat},aa' σ i=false->Yb σ i=none
 |[],_,_=>rfl
 |(k',i')::r,i,h=>by
  simp only[aa',ap9]at h;simp only[Yb,h.1,cond_false];exact Oz h.2
theorem Ar:∀{σ:List (Nat×Nat)}{k i:Nat},(σ.map (·.2)).Nodup->(k,i)∈σ->Yb σ i=some k
 |[],_,_,_,h=>by cases h
 |(k',i')::r,k,i,hn,h=>by
  have hn':=apj.1 hn;simp only[Yb];rcases aot.1 h with h|h
  ·cases h;simp
  ·have hne:i≠i':=λ e=>hn'.1 (aoR.2 ⟨(k,i),h,e⟩);rw[beq_false hne,cond_false];exact Ar hn'.2 h
theorem JW{σ:List (Nat×Nat)}(hn:(σ.map (·.2)).Nodup){k i:Nat}(h:lT σ k=some i):pK σ ρ i=ρ k:=by
 unfold lT at h;cases hl:kE σ k with
 |some j=>
  rw[hl]at h;simp only[aoJ]at h;subst h;simp only[pK,Ar hn (su hl)]
 |none=>
  rw[hl]at h;cases ht:aa' σ k with
  |true=>rw[ht]at h;cases h
  |false=>
   rw[ht]at h;simp only[cond_false,aoJ]at h;subst h;simp only[pK,Oz ht]
section
variable{σ:List (Nat×Nat)}{X Y:CX}
theorem C0.ren(hk:∀b,X.keep b->Y.keep b)(hm:Y.w=X.w)(hρ:∀k i,lT σ k=some i->Y.ρ i=X.ρ k){av:AV}{u:Value}(h:C0 X av u):C0 Y (rG σ av) u:=by
 have hmm:∀b,X.keep b->Y.w.heap[b]? =X.w.heap[b]? :=λ _ _=>by rw[hm]
 cases av with
 |own id=>
  simp only[rG];cases e:lT σ id with
  |some i=>exact(h).trans (congrArg dJ (hρ id i e)).symm
  |none=>trivial
 |dG id s j k=>
  simp only[rG];cases e:lT σ id with
  |some i=>
   obtain⟨b,n,c,h1,h2⟩:=h;exact⟨b,n,c,(hρ id i e).trans h1,h2⟩
  |none=>trivial
 |jH id s j k=>
  simp only[rG];cases e:lT σ id with
  |some i=>
   exact Or.imp (λ⟨b,c,h1,h2⟩=>⟨b,c,(congrArg (λ v=>iQ (dJ v)) (hρ id i e)).trans h1,h2⟩) _root_.id h
  |none=>trivial
 |box id off=>
  simp only[rG];cases e:lT σ id with
  |some i=>
   obtain⟨b,h1,h2⟩:=h;exact⟨b,(congrArg dJ (hρ id i e)).trans h1,h2⟩
  |none=>trivial
 |cf gg id off=>
  simp only[rG];cases e:lT σ id with
  |some i=>
   obtain⟨b,h1,h2⟩:=h;exact⟨b,(congrArg dJ (hρ id i e)).trans h1,h2⟩
  |none=>trivial
 |el cs k=>
  obtain⟨b,o,us,e,kb,ha,hc⟩:=h;exact⟨b,o,us,e,hk b kb,ha.imp (λ _ _=>PC.mono hk hmm),λ j y hj=>(ap7 (hmm b kb)).trans (hc j y hj)⟩
 |sl s n sc f=>exact PC.mono hk hmm h
 |v x=>exact h
 |junk=>trivial
 |agg cs=>exact h
 |bI cs=>exact h
 |fn g caps=>exact h
theorem C1.ren(hk:∀b,X.keep b->Y.keep b)(hm:Y.w=X.w)(hρ:∀k i,lT σ k=some i->Y.ρ i=X.ρ k){av:AV}{u:Value}(h:C1 X av u):C1 Y (Ur σ av) u:=by
 cases av with
 |agg cs=>obtain⟨us,e,ha⟩:=h;exact⟨us,e,ha.pW λ _ _=>C0.ren hk hm hρ⟩
 |fn g cs=>obtain⟨us,e,ha⟩:=h;exact⟨us,e,ha.pW λ _ _=>C0.ren hk hm hρ⟩
 |own id=>exact C1.vG (C0.ren hk hm hρ (av:= .own id) h)
 |dG id s j k=>exact C1.vG (C0.ren hk hm hρ (av:= .dG id s j k) h)
 |jH id s j k=>exact C1.vG (C0.ren hk hm hρ (av:= .jH id s j k) h)
 |box id k=>exact C1.vG (C0.ren hk hm hρ (av:= .box id k) h)
 |cf gg id k=>exact C1.vG (C0.ren hk hm hρ (av:= .cf gg id k) h)
 |el cs k=>exact C1.vG (C0.ren hk hm hρ (av:= .el cs k) h)
 |sl s n sc f=>exact C1.vG (C0.ren hk hm hρ (av:= .sl s n sc f) h)
 |v x=>exact h
 |junk=>trivial
 |bI cs=>exact h
theorem C2.ren(hk:∀b,X.keep b->Y.keep b)(hm:Y.w=X.w)(hρ:∀k i,lT σ k=some i->Y.ρ i=X.ρ k){av:AV}{u:Value}(h:C2 X av u):C2 Y (FT σ av) u:=by
 cases av with
 |bI vs=>obtain⟨us,e,ha⟩:=h;exact⟨us,e,ha.pW λ _ _=>C1.ren hk hm hρ⟩
 |agg cs=>exact C2.mP (C1.ren hk hm hρ (av:= .agg cs) h)
 |fn g cs=>exact C2.mP (C1.ren hk hm hρ (av:= .fn g cs) h)
 |own id=>exact C2.mP (C1.ren hk hm hρ (av:= .own id) h)
 |dG id s j k=>exact C2.mP (C1.ren hk hm hρ (av:= .dG id s j k) h)
 |jH id s j k=>exact C2.mP (C1.ren hk hm hρ (av:= .jH id s j k) h)
 |box id k=>exact C2.mP (C1.ren hk hm hρ (av:= .box id k) h)
 |cf gg id k=>exact C2.mP (C1.ren hk hm hρ (av:= .cf gg id k) h)
 |el cs k=>exact C2.mP (C1.ren hk hm hρ (av:= .el cs k) h)
 |sl s n sc f=>exact C2.mP (C1.ren hk hm hρ (av:= .sl s n sc f) h)
 |v x=>exact h
 |junk=>trivial
end
theorem Cc{σ:List (Nat×Nat)}(hn:(σ.map (·.2)).Nodup)(ρ:Nat->Value):∀h,(ah (pK σ ρ) (iL σ h)).Sublist (ah ρ h)
 |[]=>by simp[iL,ah]
 |(k,o)::h=>by
  have ih:=Cc hn ρ h;simp only[iL];rw[aS ρ];cases e:lT σ k with
  |none=>exact ih.trans (List.sublist_append_right _ _)
  |some i=>
   dsimp only;rw[aS];dsimp only;rw[JW hn e];exact List.Sublist.append (List.Sublist.refl _) ih
theorem Ef{σ:List (Nat×Nat)}:∀{h:List (Nat×AO)}{p:Nat×AO},p∈iL σ h-> ∃k o,(k,o)∈h/\lT σ k=some p.1/\p.2=o.ren σ
 |[],_,hp=>by cases hp
 |(k,o)::h,p,hp=>by
  simp only[iL]at hp;cases e:lT σ k with
  |none=>
   rw[e]at hp;obtain⟨k',o',h1,h2⟩:=Ef hp;exact⟨k',o',aoq _ h1,h2⟩
  |some i=>
   rw[e]at hp;rcases aot.1 hp with rfl|hp
   ·exact⟨k,o,aol,e,rfl⟩
   ·obtain⟨k',o',h1,h2⟩:=Ef hp;exact⟨k',o',aoq _ h1,h2⟩
section
variable{g:Base}{N:Nat}{bs:List (Array Value)}{ρ:Nat->Value}{a:Act}{w:World}{st:AS}
theorem Rel.ren(R:Rel g N bs ρ a w st){σ:List (Nat×Nat)}(hnd:nodupB (σ.map (·.2))=true):Rel g N bs (pK σ ρ) a w (st.ren σ):=by
 have hn:=oG hnd;have hsub:=Cc hn ρ st.heap;have hk:∀b,aJ g w ρ st.heap b->aJ g w (pK σ ρ) (st.ren σ).heap b:=λ b h=>⟨h.1,h.2.1,λ h'=>h.2.2 (hsub.subset h')⟩;have hρ:∀k i,lT σ k=some i->pK σ ρ i=ρ k:=λ k i e=>JW hn e;refine⟨R.size,R.defers,R.below,λ t=> ?_,λ p hp=> ?_,R.apart.sublist hsub,λ b hb=>R.own b (hsub.subset hb),R.back.map rfl λ _ _=>C2.ren (X:=aC g w ρ st.heap) (Y:=aC g w (pK σ ρ) (st.ren σ).heap) hk rfl hρ⟩
 ·rw[show(st.ren σ).tmps t=FT σ (st.tmps t)from qG rfl st.sl t];exact C2.ren (X:=aC g w ρ st.heap) (Y:=aC g w (pK σ ρ) (st.ren σ).heap) hk rfl hρ (R.tmps t)
 ·obtain⟨k,o,h1,h2,h3⟩:=Ef hp;have ho:=R.objs _ h1;rw[h3];refine aT.move (X:=aC g w ρ st.heap) hk (λ _ _=>rfl) (hρ _ _ h2) (λ _ _=>rfl) ?_ ho;cases o with
  |box t cs=>exact⟨rfl,λ us ha=>ha.pW λ _ _=>C0.ren (X:=aC g w ρ st.heap) (Y:=aC g w (pK σ ρ) (st.ren σ).heap) hk rfl hρ⟩
  |row=>rfl
  |mp t ks rs=>exact⟨rfl,rfl,Aj σ ks,λ vs hv=>hv.ren λ k i e=>congrArg dJ (hρ k i e)⟩
  |obs o=>rfl
  |rn e cs=>exact⟨rfl,s_,λ us ha=>ha.pW λ _ _=>C0.ren (X:=aC g w ρ st.heap) (Y:=aC g w (pK σ ρ) (st.ren σ).heap) hk rfl hρ⟩
end
section
variable{P:Program}{L:Lay}{g:Base}{N:Nat}{bs:List (Array Value)}{ρ:Nat->Value}{a:Act}{w:World}{st:AS}
theorem wZ(R:Rel g N bs ρ a w st)(l:List Operand):aG (C2 (aC g w ρ st.heap)) (l.map st.ev) (l.map a.eval):=by
 induction l with
 |nil=>exact aG.nil
 |cons x l ih=>exact aG.cons (R.ev x) ih
theorem UN{X:CX}{caps:List AV}{us:List Value}(h:aG (C0 X) caps us):aG (C2 X) caps us:=h.imp λ _ _=>C2.vG
open Classical in
noncomputable def least (p:Nat->Prop):Nat:=if h:∃n,p n then Classical.choose (exists_least h)else 0
where
 exists_least {p:Nat->Prop} (h:∃n,p n):∃n,p n/\ ∀k,p k->n<=k:=by
  obtain⟨n,hn⟩:=h;induction n using Nat.strongRecOn with
  |ind n ih=>
   by_cases h:∃k,k<n/\p k
   ·obtain⟨k,hk,hp⟩:=h;exact ih k hk hp
   ·exact⟨n,hn,λ k hk=>Nat.le_of_not_lt λ hlt=>h ⟨k,hlt,hk⟩⟩
theorem JX{p:Nat->Prop}(h:∃n,p n):p (least p):=by
 unfold least;rw[dif_pos h];exact(Classical.choose_spec (least.exists_least h)).1
theorem least_le{p:Nat->Prop}{n:Nat}(h:p n):least p<=n:=by
 unfold least;rw[dif_pos ⟨n,h⟩];exact(Classical.choose_spec (least.exists_least ⟨n,h⟩)).2 n h
theorem abk{X:CX}{h:List (Nat×AO)}{x:AV}{u:Value}(hx:C2 X x u)(ho:BF h x=true):C0 X x u:=by
 cases x<;>first|exact hx|(cases ho;done)
theorem rM{R:AV->Value->Prop}{x:AV}{us:List Value}(h:aG R [x] us):∃u,us=[u]/\R x u:=by
 match us,h with
 |[],h=>have:=h.1;simp at this
 |[u],h=>exact⟨u,rfl,h.2 0 _ _ rfl rfl⟩
 |_::_::_,h=>have:=h.1;simp at this
theorem nC{R:AV->Value->Prop}{x y:AV}{us:List Value}(h:aG R [x,y] us):∃u v,us=[u,v]/\R x u/\R y v:=by
 match us,h with
 |[],h=>have:=h.1;simp at this
 |[_],h=>have:=h.1;simp at this
 |[u,v],h=>exact⟨u,v,rfl,h.2 0 _ _ rfl rfl,h.2 1 _ _ rfl rfl⟩
 |_::_::_::_,h=>have:=h.1;simp at this
def Iz(P:Program)(W:Walk):Prop:= ∀(g:Base)(N lv:Nat)(bs:List (Array Value))(c:Code)(Q:jk->AS->Prop)(E:Exit->Act->World->Prop){ρ:Nat->Value}{a:Act}{w:World}{st:AS},qOf g N bs Q E->Rel g N bs ρ a w st->W N lv c Q st->c.wp P E a w
theorem aem(hL:bJ P L){W:Walk}(hW:Iz P W)(R:Rel g N bs ρ a w st){aZ:List AV}{args:List Value}(hargs:aG (C2 (aC g w ρ st.heap)) aZ args){K:AV->AS->Prop}(lv:Nat)(fn:Func)(c:Code)(hsz:Nat.ble aZ.length fn.ntmps=true)
  (h:W fn.ntmps lv c (λ e st'=>match e with| .exit _=>False| .normal=>pF L st' fn.results.toList (λ x=>yL (st'.out) (K x))| .ret=>pF L st' fn.results.toList (λ x=>yL (st'.out) (K x))) (st.into aZ)):
  c.wp P (bodyPost P fn λ e w'=> ∃u x st' ρ',e= .returned u/\K x st'/\Rel g N bs ρ' a w' st'/\C2 (aC g w' ρ' st'.heap) x u) {tmps:=args.toArray++Array.replicate (fn.ntmps-args.toArray.size) undef,defers:=[]} w:=by
 have hsz:=aox hsz;have hlen:=hargs.1.symm;let g0:Base:=⟨g.w,g.keep,g.mu,[]⟩;have R0:Rel g0 fn.ntmps (a.tmps::bs) ρ {tmps:=args.toArray++Array.replicate (fn.ntmps-args.toArray.size) undef,defers:=[]} w (st.into aZ):=
  ⟨by simp;omega,rfl,R.below,um hargs hsz,R.objs,R.apart,R.own,⟨R.tmps,R.back⟩⟩
 have post:∀ρ' a' w' st',Rel g0 fn.ntmps (a.tmps::bs) ρ' a' w' st'->pF L st' fn.results.toList (λ x=>yL (st'.out) (K x))->
   a'.defers=[]/\ ∃v,(results fn a'.tmps).run P w'= .ok v w'/\ ∃u x st' ρ',Ending.returned v= .returned u/\K x st'/\Rel g N bs ρ' a w' st'/\C2 (aC g w' ρ' st'.heap) x u:=by
  intro ρ' a' w' st' R' hq;obtain⟨x,u,hret,hc,hrun⟩:=Ri hL R' hq;rw[ZK]at hret;refine⟨R'.defers,u,hrun,u,x,st'.out,ρ',rfl,hret, ?_⟩;have hback:=R'.back;revert hc;cases hbk:st'.back with
  |nil=>rw[hbk]at hback;exact hback.elim
  |cons f r=>
   rw[hbk]at hback;have e:st'.out=⟨f,st'.heap,r,st'.base⟩:=by simp[AS.out,hbk]
   rw[e];exact λ hc=>⟨⟨R.size,R.defers,R'.below,hback.1,R'.objs,R'.apart,R'.own,hback.2⟩,hc⟩
 refine hW g0 fn.ntmps lv (a.tmps::bs) c _ _ ⟨?_, ?_, ?_⟩ R0 h
 ·exact λ ρ' a' w' st' R' hq=>post ρ' a' w' st' R' hq
 ·grind
 ·exact λ ρ' a' w' st' R' hq=>post ρ' a' w' st' R' hq
theorem xg(hL:bJ P L){W:Walk}(hW:Iz P W)(R:Rel g N bs ρ a w st){f:FuncId}{aZ:List AV}{args:List Value}(hargs:aG (C2 (aC g w ρ st.heap)) aZ args){K:AV->AS->Prop}(lv:Nat)(fn:Func)(c:Code)(hf:P.funcs[f]? =some fn)(hb:fn.body=some c)(hsz:Nat.ble aZ.length fn.ntmps=true)
  (h:W fn.ntmps lv c (λ e st'=>match e with| .exit _=>False| .normal=>pF L st' fn.results.toList (λ x=>yL (st'.out) (K x))| .ret=>pF L st' fn.results.toList (λ x=>yL (st'.out) (K x))) (st.into aZ)):
  Calls P f args.toArray w λ e w'=> ∃u x st' ρ',e= .returned u/\K x st'/\Rel g N bs ρ' a w' st'/\C2 (aC g w' ρ' st'.heap) x u:=
 calls_of_wp hf hb (aem hL hW R hargs lv fn c hsz h)
theorem aen(g m:Nat):Nat.blt (Nat.add g m) m=false:=by
 rw[aoU];intro e;rw[Nat.blt_eq]at e;exact absurd e (Nat.not_lt.2 (Nat.le_add_left m g))
theorem ZV(g m:Nat):Nat.sub (Nat.add g m) m=g:=aqi g m
theorem ahW{g:FuncId}(h:Nat.blt g million=true)(p:Value):cfV (Nat.add g million) p= .func (.func g) #[p] #[]:=by
 have h2:Nat.blt (Nat.add g million) jQ=true:=by
  rw[Nat.blt_eq]at h⊢;exact apQ (Nat.add_lt_add_right h million) d_
 unfold cfV;rw[aen,ZV,h2];rfl
theorem akF{g:FuncId}(h:Nat.blt g million=false)(h2:Nat.blt g jQ=true)(p:Value):cfV g p= .func (.func (Nat.sub g million)) #[p] #[]:=by
 unfold cfV;rw[h,h2];rfl
theorem ZW(t:TypeId)(p:Value):cfV (Nat.add t jQ) p= .iface t p:=by
 have h:Nat.blt (Nat.add t jQ) million=false:=by
  rw[aoU];intro e;rw[Nat.blt_eq]at e;exact absurd e (Nat.not_lt.2 (ao7 (by decide:million<=jQ) (Nat.le_add_left jQ t)))
 unfold cfV;rw[h,aen,ZV];rfl
theorem aeo(hL:bJ P L){W:Walk}(hW:Iz P W)(R:Rel g N bs ρ a w st){o:Oper}{d:Nat}{K:AV->AS->Prop}{next:Act->World->Prop}{Q:Exit->Act->World->Prop}{c:Call}{x:Operand}{f0 id off b:Nat}(e:o.op= .call c)(ec:c.callee= .value x)
  (hb1:dJ ((aC g w ρ st.heap).ρ id)= .pointer (some ⟨b,0,none⟩))(hv:a.eval x= .func (.func f0) #[.pointer (some ⟨b,off,none⟩)] #[])(h:bZ P L W d f0 (.box id off::c.args.toList.map st.ev) st K)
  (hk:∀x st' u ρ' w',K x st'->Rel g N bs ρ' a w' st'->C2 (aC g w' ρ' st'.heap) x u->next (a.put o.dst u) w'):o.wp P a w next Q:=by
 have hargs:aG (C2 (aC g w ρ st.heap)) (.box id off::c.args.toList.map st.ev) (.pointer (some ⟨b,off,none⟩)::c.args.toList.map a.eval):=aG.cons ⟨b,hb1,rfl⟩ (wZ R c.args.toList);obtain⟨hent,hcall⟩:=qh R hargs h (λ lv fn c hf _ hb hsz h=>xg hL hW R hargs lv fn c hf hb hsz h);have hrun:(execOp a.eval o).run P w= .ok (.enter f0 (.pointer (some ⟨b,off,none⟩)::c.args.toList.map a.eval).toArray) w:=by
  have hcf:=oL hent (.pointer (some ⟨b,off,none⟩)::c.args.toList.map a.eval).toArray w;have eq:(.pointer (some ⟨b,off,none⟩)::c.args.toList.map a.eval).toArray=(#[.pointer (some ⟨b,off,none⟩)]++c.args.map a.eval)++ #[]:=by
   apply aqp;simp
  rw[eq]at hcf⊢;simp only[execOp,e,resolve,ec,hv,aoy,aoQ,invoke];exact hcf
 unfold Oper.wp;rw[hrun];refine hcall.mono ?_;rintro e' w' ⟨u,y,st',ρ',rfl,h1,h2,h3⟩;exact hk _ _ _ _ _ h1 h2 h3
theorem IZ(hL:bJ P L){W:Walk}(hW:Iz P W)(R:Rel g N bs ρ a w st){o:Oper}{d:Nat}{K:AV->AS->Prop}(h:XY P L W d st o.op K){next:Act->World->Prop}{Q:Exit->Act->World->Prop}
  (hk:∀x st' u ρ' w',K x st'->Rel g N bs ρ' a w' st'->C2 (aC g w' ρ' st'.heap) x u->next (a.put o.dst u) w'):o.wp P a w next Q:=by
 have same:∀{x:AV}{u:Value},K x st->C2 (aC g w ρ st.heap) x u->(execOp a.eval o).run P w= .ok (.value u) w->o.wp P a w next Q:=
  λ h1 h2 h3=>kW h3 (hk _ _ _ _ _ h1 R h2)
 unfold XY at h;have sem:lC P st o.op K->o.wp P a w next Q:=λ hs=>by
  cases hs with
  |q x hK hs=>
   obtain⟨u,h1,h2⟩:=hs g N bs ρ a w o rfl R;exact same hK h1 h2
  |mk hq hs=>exact hs g N bs ρ a w o next Q rfl R hk
 cases hsb:akB st o.op with
 |true=>rw[hsb]at h;exact sem h
 |false=>
 rw[hsb,cond_false]at h;split at h
 ·rename_i x e;exact same h (R.ev x) (by simp[execOp,e])
 ·rename_i x e;exact same h (R.ev x) (by simp[execOp,e])
 ·rename_i c x y e;split at h
  ·rename_i t et;have hc:=R.ev c;rw[et]at hc;have hc:=C2.dD hc;cases t with
   |true=>exact same h (R.ev x) (by simp[execOp,e,hc,asBool])
   |false=>exact same h (R.ev y) (by simp[execOp,e,hc,asBool])
  ·exact h.elim
 ·rename_i t e;split at h
  ·rename_i i hi;rw[iU]at h;obtain⟨z,hz,hzc⟩:=DW hL hi w;have hR:=R.aed st.base t (us:=i.zero) (JK _);refine kW (w':=w.alloc (.cells i.zero.toArray t)) ?_ (hk _ _ _ _ _ h hR ⟨w.heap.size,by simp[aC,cu,dJ],rfl⟩);have hz':z.cells=i.zero.toArray:=by rw[<-hzc]
   simp[execOp,e,Instr.alloc,hz,newVar,newRow,hz']
  ·exact h.elim
 ·rename_i t x e;split at h
  ·rename_i cs hcs;cases hb:cs.all (BF st.heap)with
   |false=>rw[hb]at h;exact h.elim
   |true=>
    rw[hb,iU]at h;obtain⟨hall,_⟩:=Ap R (R.ev x) hcs hb;have hR:=R.aed st.base t hall;refine kW (w':=w.alloc (.cells (a.eval x).cells.toList.toArray t)) ?_ (hk _ _ _ _ _ h hR ⟨w.heap.size,by simp[aC,cu,dJ],rfl⟩);simp[execOp,e,Instr.box,newVar,newRow]
  ·exact h.elim
 ·rename_i t p e;obtain⟨x,u,h1,h2,h3⟩:=Ak hL R (R.ev p) h;exact same h1 h2 (by simp[execOp,e,h3])
 ·rename_i t p x e;obtain⟨st',w',h1,h2,h3⟩:=kL hL R (R.ev p) (R.ev x) h;have hrun:(execOp a.eval o).run P w= .ok .skip w':=by simp[execOp,e,h3]
  unfold Oper.wp;rw[hrun];exact hk _ _ _ _ _ h1 h2 rfl
 ·rename_i t x i e;obtain⟨y,u,h1,h2,h3⟩:=zk hL (R.ev x) h w;exact same h1 h2 (by simp[execOp,e,h3])
 ·rename_i t x i e;obtain⟨y,u,h1,h2,h3⟩:=JA hL (R.ev x) h w;exact same h1 h2 (by simp[execOp,e,h3])
 ·rename_i t x i e;obtain⟨y,u,h1,h2,h3⟩:=oH hL R (R.ev x) (R.ev i) h;exact same h1 h2 (by simp[execOp,e,h3])
 ·rename_i t x i e;obtain⟨y,u,h1,h2,h3⟩:=JB hL (R.ev x) (R.ev i) h w;exact same h1 h2 (by simp[execOp,e,h3])
 ·rename_i x i e;obtain⟨y,u,h1,h2,h3⟩:=DY (P:=P) (R.ev x) h w;exact same h1 h2 (by simp[execOp,e,h3])
 ·rename_i t parts e;obtain⟨y,u,h1,h2,h3⟩:=JL hL R h;exact same h1 h2 (by simp only[execOp,e,aoy,h3,aow,aoQ])
 ·rename_i t n parts e;rw[iU]at h;cases hb:(parts.toList.map λ p=>st.ev p.2).all ad4 with
  |true=>
   rw[hb]at h;obtain⟨y,u,st',ρ',w',h1,h2,h3,h4⟩:=yD hL R h;exact kW (by simp only[execOp,e,aoy,h4,aow,aoQ]) (hk _ _ _ _ _ h1 h2 h3)
  |false=>
   rw[hb]at h;rw[ZK]at h;obtain⟨R1,_,_⟩:=IY (parts.toList.map λ p=>st.ev p.2) R;obtain⟨y,u,st',ρ',w',h1,h2,h3,h4⟩:=yD hL R1 h;exact kW (by simp only[execOp,e,aoy,h4,aow,aoQ]) (hk _ _ _ _ _ h1 h2 h3)
 ·rename_i op t x y ty e;obtain⟨z,u,h1,h2,h3,h4⟩:=Uu (ox:=x) (oy:=y) hL (R.ev x) (R.ev y) h w;exact same h1 h2 (by simp only[execOp,e,aoy,h3,h4,aow,aoQ])
 ·rename_i op t x e;obtain⟨z,u,h1,h2,h3⟩:=ZO (P:=P) (R.ev x) h w;exact same h1 h2 (by simp only[execOp,e,aoy,h3,aow,aoQ])
 ·rename_i s t x e;obtain⟨z,u,h1,h2,h3⟩:=DZ hL R (R.ev x) h;exact same h1 h2 (by simp only[execOp,e,aoy,h3,aow,aoQ])
 ·rename_i t x lo hi mx e;obtain⟨z,u,st',ρ',h1,h2,h3,h4,_⟩:=JQ hL R (R.ev x) h;exact kW (by simp only[execOp,e,aoy,h4,aow,aoQ]) (hk _ _ _ _ _ h1 h2 h3)
 ·rename_i x e;have hx:=DN (R.ev x);split at h
  ·rename_i i k ex;rw[ex]at hx;obtain⟨b,hb,hv⟩:=C2.kJ hx;exact same h ⟨b,hb,rfl⟩ (by simp[execOp,e,hv])
  ·rename_i gg cs ex;rw[ex]at hx;obtain⟨us,hv,ha⟩:=C2.FU hx;exact same h ⟨us,rfl,ha⟩ (by simp[execOp,e,hv])
  ·exact h.elim
 ·rename_i gg first caps e
  split at h
  ·rename_i ef;have hf:first= #[]:=by simpa using ef
   subst hf;cases hb:(caps.toList.map st.ev).all (BF st.heap)with
   |false=>rw[hb]at h;exact h.elim
   |true=>
    rw[hb]at h;refine same h (u:= .func (.func gg) #[] (caps.map a.eval)) ⟨caps.toList.map a.eval,by rw[<-Array.toList_map], ?_⟩ (by simp[execOp,e,Instr.makeFunc]);have:=wZ R caps.toList;exact⟨this.1,λ i x u hx hu=>abk (this.2 i x u hx hu) (aoD.1 hb x (ao3 hx))⟩
  ·rename_i x r ef;split at h
   ·rename_i id off ex;cases hb:Nat.blt gg million&&r.isEmpty&&caps.toList.isEmpty with
    |false=>rw[hb]at h;exact h.elim
    |true=>
     rw[hb]at h;simp only[aon,List.isEmpty_iff]at hb;obtain⟨⟨hb1,rfl⟩,hb2⟩:=hb;have hf:first= #[x]:=by apply aqp;simpa using ef
     have hc:caps= #[]:=by apply aqp;simpa using hb2
     subst hf hc;have hx:=R.ev x;rw[ex]at hx;obtain⟨b,h1,hv⟩:=C2.kJ hx;exact same h ⟨b,h1,(ahW hb1 _).symm⟩ (by simp[execOp,e,Instr.makeFunc,hv])
   ·exact h.elim
 ·rename_i c e;split at h
  ·rename_i b ec;have hex:∀{u:Value}{w':World},(builtin b c.argTypes o.type (c.args.map λ| .const _=>true|_=>false) (c.args.map a.eval)).run P w= .ok (.value u) w'->(execOp a.eval o).run P w= .ok (.value u) w':=by
    intro u w' h;simp only[execOp,e,resolve,ec,aoy,aoQ,invoke];exact h
   have ha:=wZ R c.args.toList;have hca:c.args.map a.eval=(c.args.toList.map a.eval).toArray:=by apply aqp;simp
   have hct:c.argTypes=c.argTypes.toList.toArray:=s_
   rw[iU]at h;unfold zi at h;split at h
   ·rename_i t x et ex;rw[ex]at ha;obtain⟨v,hv,hc⟩:=rM ha;obtain⟨z,u,h1,h2,h3⟩:=Ux (ty:=o.type) hL R hc h;exact same h1 h2 (hex (by rw[hca,hv,hct,et];simp only[builtin,aoy,h3,aow,aoQ]))
   ·rename_i t tx x y et ex;rw[ex]at ha;obtain⟨v1,v2,hv,hc1,hc2⟩:=nC ha;obtain⟨z,u,st',ρ',w',h1,h2,h3,h4⟩:=UH (ty:=o.type) hL R hc1 hc2 h;exact kW (hex (by rw[hca,hv,hct,et];simp only[builtin,aoy,h4,aow,aoQ])) (hk _ _ _ _ _ h1 h2 h3)
   ·rename_i x y ex;rw[ex]at ha;obtain⟨v1,v2,hv,hc1,hc2⟩:=nC ha;obtain⟨z,u,h1,h2,h3⟩:=Uy (P:=P) hc1 hc2 h c.argTypes o.type w;exact same h1 h2 (hex (by rw[hca,hv];simp only[builtin,aoy,h3,aow,aoQ]))
   ·rename_i x y ex;rw[ex]at ha;obtain⟨v1,v2,hv,hc1,hc2⟩:=nC ha;obtain⟨z,u,h1,h2,h3⟩:=Uz (P:=P) hc1 hc2 h c.argTypes o.type w;exact same h1 h2 (hex (by rw[hca,hv];simp only[builtin,aoy,h3,aow,aoQ]))
   ·rename_i t X3 x y et ex;rw[ex]at ha;obtain⟨v1,v2,hv,hc1,hc2⟩:=nC ha;obtain⟨z,st',ρ',w',h1,h2,h3,h4⟩:=UC (X3:=X3) (ty:=o.type) hL R hc1 hc2 h;exact kW (hex (by rw[hca,hv,hct,et];simp only[builtin,aoy,h4,aow,aoQ])) (hk _ _ _ _ _ h1 h2 h3)
   ·rename_i t tx x y et ex;rw[ex]at ha;obtain⟨v1,v2,hv,hc1,hc2⟩:=nC ha;obtain⟨z,u,st',w',h1,h2,h3,h4⟩:=abg (ty:=o.type) hL R hc1 hc2 h;exact kW (hex (by rw[hca,hv,hct,et];simp only[builtin,aoy,h4,aow,aoQ])) (hk _ _ _ _ _ h1 h2 h3)
   ·rename_i t x et ex;rw[ex]at ha;obtain⟨v,hv,hc⟩:=rM ha;obtain⟨z,st',w',h1,h2,h3,h4⟩:=X7 (ty:=o.type) hL R hc h;exact kW (hex (by rw[hca,hv,hct,et];simp only[builtin,aoy,h4,aow,aoQ])) (hk _ _ _ _ _ h1 h2 h3)
   ·exact h.elim
  ·rename_i x ec;split at h
   ·rename_i gg caps ex;rw[iU]at h;have hx:=DN (R.ev x);rw[ex]at hx;obtain⟨us,hv,ha⟩:=C2.FU hx;have hargs:=(wZ R c.args.toList).app (UN ha);obtain⟨hent,hcall⟩:=qh R hargs h (λ lv fn c hf _ hb hsz h=>xg hL hW R hargs lv fn c hf hb hsz h);have hrun:(execOp a.eval o).run P w= .ok (.enter gg (c.args.toList.map a.eval++us).toArray) w:=by
     have hcf:=oL hent (c.args.toList.map a.eval++us).toArray w;have eq:(c.args.toList.map a.eval++us).toArray=(#[]++c.args.map a.eval)++us.toArray:=by
      apply aqp;simp
     rw[eq]at hcf⊢;simp only[execOp,e,resolve,ec,hv,aoy,aoQ,invoke];exact hcf
    unfold Oper.wp;rw[hrun];refine hcall.mono ?_;rintro e' w' ⟨u,y,st',ρ',rfl,h1,h2,h3⟩;exact hk _ _ _ _ _ h1 h2 h3
   ·rename_i gg id off ex;cases hge: !Nat.blt gg million&&Nat.blt gg jQ with
    |false=>rw[hge]at h;exact h.elim
    |true=>
    rw[hge,iU]at h;simp only[aon,aoX]at hge;have hx:=DN (R.ev x);rw[ex]at hx;obtain⟨b,hb1,hv⟩:=C2.ad7 hx;rw[akF hge.1 hge.2]at hv;exact aeo hL hW R e ec hb1 hv h hk
   ·exact h.elim
  ·grind
 ·rename_i t l c e;rw[iU]at h;obtain⟨y,u,st',ρ',w',h1,h2,h3,h4⟩:=abe hL R (R.ev l) (R.ev c) h;exact kW (by simp only[execOp,e,aoy,h4,aow,aoQ]) (hk _ _ _ _ _ h1 h2 h3)
 ·rename_i t x e;obtain⟨z,u,h1,h2,h3⟩:=JR hL R (R.ev x) h;exact same h1 h2 (by simp only[execOp,e,aoy,h3,aow,aoQ])
 ·rename_i t x i e;obtain⟨z,u,h1,h2,h3⟩:=G8 hL R (R.ev x) (R.ev i) h;exact same h1 h2 (by simp only[execOp,e,aoy,h3,aow,aoQ])
 ·rename_i t m i x e;obtain⟨st',w',h1,h2,h3⟩:=JI hL R (R.ev m) (R.ev i) (R.ev x) h;have hrun:(execOp a.eval o).run P w= .ok .skip w':=by simp[execOp,e,h3]
  unfold Oper.wp;rw[hrun];exact hk _ _ _ _ _ h1 h2 rfl
 ·rename_i t e;cases hsm:ZM L t with
  |false=>rw[hsm]at h;exact sem (by rw[e];exact h)
  |true=>
  rw[hsm]at h;obtain⟨z,u,st',ρ',w',h1,h2,h3,h4⟩:=Q7 (P:=P) R h;exact kW (by simp only[execOp,e,Option.map_none,aoy,h4,aow,aoQ]) (hk _ _ _ _ _ h1 h2 h3)
 ·exact sem h
theorem iq(R:Rel g N bs ρ a w st){d:Option Tmp}{x:AV}{u:Value}(hx:C2 (aC g w ρ st.heap) x u){K:AS->Prop}(h:qY N st d x K):∃st',K st'/\Rel g N bs ρ (a.put d u) w st':=by
 unfold qY at h;cases d with
 |none=>exact⟨st,h,R⟩
 |some d=>
  dsimp only at h;cases hb:Nat.ble (d+1) N with
  |false=>rw[hb]at h;exact h.elim
  |true=>
   rw[hb,force_eq]at h;exact⟨_,h,R.put (aox hb) hx⟩
theorem UO(hL:bJ P L){W:Walk}(hW:Iz P W){ops:List Oper}{Q:AS->Prop}{QQ:Exit->Act->World->Prop}(hQ:∀a w ρ st,Rel g N bs ρ a w st->Q st->QQ .normal a w):
 ∀(l:List Oper){ρ:Nat->Value}{a:Act}{w:World}{st:AS},Rel g N bs ρ a w st->yM P L W N ops Q l st->wpList P ops.toArray QQ l a w
 |[],ρ,a,w,st,R,h=>hQ a w ρ st R h
 |⟨dst,op,ty,pos,after,guard⟩::rest,ρ,a,w,st,R,h=>by
  have ih:= @UO hL W hW ops Q QQ hQ rest;have go:∀d,XY P L W d st op (λ x st'=>qY N st' dst x (yM P L W N ops Q rest))->Oper.wp P ⟨dst,op,ty,pos,after,guard⟩ a w (wpList P ops.toArray QQ rest) QQ:=by
   intro d hd;refine IZ hL hW R (o:=⟨dst,op,ty,pos,after,guard⟩) (d:=d) hd ?_;intro x st' u ρ' w' hx R' hc;obtain⟨st2,h2,R2⟩:=iq R' hc hx;exact ih R2 h2
  have go':BU P L W dst st op (λ x st'=>qY N st' dst x (yM P L W N ops Q rest))->Oper.wp P ⟨dst,op,ty,pos,after,guard⟩ a w (wpList P ops.toArray QQ rest) QQ:=by
   intro hd;unfold BU at hd;cases dst with
   |none=>exact go 0 hd
   |some d=>exact go d hd
  have skip:qY N st dst (.v undef) (yM P L W N ops Q rest)->wpList P ops.toArray QQ rest (a.put dst undef) w:=by
   intro hd;obtain⟨st2,h2,R2⟩:=iq R (show C2 (aC g w ρ st.heap) (.v undef) undef from rfl) hd;exact ih R2 h2
  simp only[yM]at h;cases guard with
  |none=>
   dsimp only at h;refine wpList_step (λ K hK=> ?_);have hw:=go' h;simp only[Region.wanted,if_true];exact aep hw hK
  |some gd=>
   obtain⟨j,want⟩:=gd;dsimp only at h;split at h
   ·rename_i dj hdj;cases hb:Nat.ble (dj+1) N with
    |false=>rw[hb]at h;exact h.elim
    |true=>
     rw[hb,cond_true]at h;have hlt:=aox hb;have hd:=R.tmps dj;have hget:a.tmps[dj]? =some (a.tmps.getD dj undef):=by
      have:dj<a.tmps.size:=by rw[R.size];exact hlt
      simp[this]
     have hops:((ops.toArray[j]?).bind (·.dst))=some dj:=by simpa using hdj
     split at h
     ·rename_i b eb;rw[eb]at hd;have hd:=C2.dD hd;have hy:yielded ops.toArray a.tmps j=some b:=by
       unfold yielded;rw[hops];simp only[aqw,hget,hd]
      split at h
      ·rename_i hbw;refine wpList_step (λ K hK=> ?_);have hwant:Region.wanted ⟨dst,op,ty,pos,after,some (j,want)⟩ (yielded ops.toArray a.tmps)=true:=by
        simp only[Region.wanted,hy];simpa using hbw
       rw[if_pos hwant];exact aep (go' h) hK
      ·rename_i hbw;refine wpList_skip ?_ (skip h);simp only[Region.wanted,hy];simpa using hbw
     ·rename_i vs eb;rw[eb]at hd;have hd:=C2.dD hd;have hy:yielded ops.toArray a.tmps j=none:=by
       unfold yielded;rw[hops];simp only[aqw,hget,hd]
      refine wpList_skip ?_ (skip h);simp only[Region.wanted,hy];rfl
     ·exact h.elim
   ·exact h.elim
where
 aep {o:Oper} {a:Act} {w:World} {K K':Act->World->Prop} {Q:Exit->Act->World->Prop} (h:o.wp P a w K Q) (hk:∀a w,K a w->K' a w):o.wp P a w K' Q:=by
  unfold Oper.wp Oper.upon at*;split at h
  ·exact hk _ _ h
  ·exact hk _ _ h
  ·exact hk _ _ h
  ·refine h.mono ?_;intro e w'' he;cases e with
   |returned v=>exact hk _ _ he
   |panicked c=>exact he
   |outgrown=>exact he
  ·exact h.mono λ _ _ he=>hk _ _ he
  ·exact h
  ·exact h
theorem Au(hL:bJ P L){W:Walk}(R:Rel g N bs ρ a w st){o:Oper}{d:Nat}{K:AV->AS->Prop}(hq:mX o.op=true)(h:XY P L W d st o.op K):∃x u,K x st/\C2 (aC g w ρ st.heap) x u/\(execOp a.eval o).run P w= .ok (.value u) w:=by
 unfold XY at h;have sem:lC P st o.op K-> ∃x u,K x st/\C2 (aC g w ρ st.heap) x u/\(execOp a.eval o).run P w= .ok (.value u) w:=λ hs=>by
  cases hs with
  |q x hK hs=>
   obtain⟨u,h1,h2⟩:=hs g N bs ρ a w o rfl R;exact⟨x,u,hK,h1,h2⟩
  |mk hq' hs=>rw[hq]at hq';cases hq'
 cases hsb:akB st o.op with
 |true=>rw[hsb]at h;exact sem h
 |false=>
 rw[hsb,cond_false]at h;split at h
 ·rename_i x e;exact⟨_,_,h,R.ev x,by simp[execOp,e]⟩
 ·rename_i x e;exact⟨_,_,h,R.ev x,by simp[execOp,e]⟩
 ·rename_i c x y e;split at h
  ·rename_i t et;have hc:=R.ev c;rw[et]at hc;have hc:=C2.dD hc;cases t with
   |true=>exact⟨_,_,h,R.ev x,by simp[execOp,e,hc,asBool]⟩
   |false=>exact⟨_,_,h,R.ev y,by simp[execOp,e,hc,asBool]⟩
  ·exact h.elim
 ·rename_i e;rw[e]at hq;cases hq
 ·rename_i e;rw[e]at hq;cases hq
 ·rename_i t p e;obtain⟨x,u,h1,h2,h3⟩:=Ak hL R (R.ev p) h;exact⟨_,_,h1,h2,by simp[execOp,e,h3]⟩
 ·rename_i e;rw[e]at hq;cases hq
 ·rename_i t x i e;obtain⟨y,u,h1,h2,h3⟩:=zk hL (R.ev x) h w;exact⟨_,_,h1,h2,by simp[execOp,e,h3]⟩
 ·rename_i t x i e;obtain⟨y,u,h1,h2,h3⟩:=JA hL (R.ev x) h w;exact⟨_,_,h1,h2,by simp[execOp,e,h3]⟩
 ·rename_i t x i e;obtain⟨y,u,h1,h2,h3⟩:=oH hL R (R.ev x) (R.ev i) h;exact⟨_,_,h1,h2,by simp[execOp,e,h3]⟩
 ·rename_i t x i e;obtain⟨y,u,h1,h2,h3⟩:=JB hL (R.ev x) (R.ev i) h w;exact⟨_,_,h1,h2,by simp[execOp,e,h3]⟩
 ·rename_i x i e;obtain⟨y,u,h1,h2,h3⟩:=DY (P:=P) (R.ev x) h w;exact⟨_,_,h1,h2,by simp[execOp,e,h3]⟩
 ·rename_i t parts e;obtain⟨y,u,h1,h2,h3⟩:=JL hL R h;exact⟨_,_,h1,h2,by simp only[execOp,e,aoy,h3,aow,aoQ]⟩
 ·rename_i e;rw[e]at hq;cases hq
 ·rename_i op t x y ty e;obtain⟨z,u,h1,h2,h3,h4⟩:=Uu (ox:=x) (oy:=y) hL (R.ev x) (R.ev y) h w;exact⟨_,_,h1,h2,by simp only[execOp,e,aoy,h3,h4,aow,aoQ]⟩
 ·rename_i op t x e;obtain⟨z,u,h1,h2,h3⟩:=ZO (P:=P) (R.ev x) h w;exact⟨_,_,h1,h2,by simp only[execOp,e,aoy,h3,aow,aoQ]⟩
 ·rename_i s t x e;obtain⟨z,u,h1,h2,h3⟩:=DZ hL R (R.ev x) h;exact⟨_,_,h1,h2,by simp only[execOp,e,aoy,h3,aow,aoQ]⟩
 ·rename_i e;rw[e]at hq;cases hq
 ·rename_i x e;have hx:=DN (R.ev x);split at h
  ·rename_i i k ex;rw[ex]at hx;obtain⟨b,hb,hv⟩:=C2.kJ hx;exact⟨_,_,h,⟨b,hb,rfl⟩,by simp[execOp,e,hv]⟩
  ·rename_i gg cs ex;rw[ex]at hx;obtain⟨us,hv,ha⟩:=C2.FU hx;exact⟨_,_,h,⟨us,rfl,ha⟩,by simp[execOp,e,hv]⟩
  ·exact h.elim
 ·rename_i e;rw[e]at hq;cases hq
 ·rename_i c e;rw[e]at hq;obtain⟨callee,args,ats⟩:=c;cases callee with
  |value x=>cases hq
  |invoke r m=>cases hq
  |builtin b=>
   have hex:∀{u:Value}{w':World},(builtin b ats o.type (args.map λ| .const _=>true|_=>false) (args.map a.eval)).run P w= .ok (.value u) w'->(execOp a.eval o).run P w= .ok (.value u) w':=by
    intro u w' h;simp only[execOp,e,resolve,aoy,invoke];exact h
   have ha:=wZ R args.toList;have hca:args.map a.eval=(args.toList.map a.eval).toArray:=by apply aqp;simp
   have hct:ats=ats.toList.toArray:=s_
   dsimp only at h;rw[iU]at h;cases b<;>first|(cases hq;done)|skip
   ·unfold zi at h;split at h
    ·rename_i t x et1 et ex;rw[ex]at ha;obtain⟨v,hv,hc⟩:=rM ha;obtain⟨z,u,h1,h2,h3⟩:=Ux (ty:=o.type) hL R hc h;exact⟨_,_,h1,h2,hex (by rw[hca,hv,hct,et];simp only[builtin,aoy,h3,aow,aoQ])⟩
    ·grind
    ·grind
    ·grind
    ·grind
    ·grind
    ·grind
    ·exact h.elim
   ·unfold zi at h;split at h
    ·grind
    ·grind
    ·grind
    ·rename_i x y _ ex;rw[ex]at ha;obtain⟨v,v',hv,hc,hc'⟩:=nC ha;obtain⟨z,u,h1,h2,h3⟩:=Uz (P:=P) hc hc' h ats o.type w;exact⟨_,_,h1,h2,hex (by rw[hca,hv];simp only[builtin,aoy,h3,aow,aoQ])⟩
    ·grind
    ·grind
    ·grind
    ·exact h.elim
   ·unfold zi at h;split at h
    ·grind
    ·grind
    ·rename_i x y _ ex;rw[ex]at ha;obtain⟨v,v',hv,hc,hc'⟩:=nC ha;obtain⟨z,u,h1,h2,h3⟩:=Uy (P:=P) hc hc' h ats o.type w;exact⟨_,_,h1,h2,hex (by rw[hca,hv];simp only[builtin,aoy,h3,aow,aoQ])⟩
    ·grind
    ·grind
    ·grind
    ·grind
    ·exact h.elim
 ·rename_i e;rw[e]at hq;cases hq
 ·rename_i t x e;obtain⟨z,u,h1,h2,h3⟩:=JR hL R (R.ev x) h;exact⟨_,_,h1,h2,by simp only[execOp,e,aoy,h3,aow,aoQ]⟩
 ·rename_i t x i e;obtain⟨z,u,h1,h2,h3⟩:=G8 hL R (R.ev x) (R.ev i) h;exact⟨_,_,h1,h2,by simp only[execOp,e,aoy,h3,aow,aoQ]⟩
 ·rename_i e;rw[e]at hq;cases hq
 ·rename_i e;rw[e]at hq;cases hq
 ·exact sem h
theorem vN(hL:bJ P L){W:Walk}{ops:List Oper}{Q:AS->Prop}{E:Act->World->Prop}(hQ:∀a w' st,Rel g N bs ρ a w' st->Q st->E a w'):
 ∀(l:List Oper){a:Act}{w:World}{st:AS},l.all (λ o=>mX o.op)=true->Rel g N bs ρ a w st->yM P L W N ops Q l st->wpQuiet P ops.toArray (λ w'=>w'=w) (λ a'=> ∀w',w'=w->E a' w') l a
 |[],a,w,st,_,R,h=>λ w' e=>by rw[e];exact hQ a w st R h
 |⟨dst,op,ty,pos,after,guard⟩::rest,a,w,st,hqq,R,h=>by
  simp only[List.all_cons,aon]at hqq;obtain⟨hqo,hqr⟩:=hqq;have ih:= @vN hL W ops Q E hQ rest;have go:∀d,XY P L W d st op (λ x st'=>qY N st' dst x (yM P L W N ops Q rest))->Oper.quiet P ⟨dst,op,ty,pos,after,guard⟩ a (λ w'=>w'=w) (wpQuiet P ops.toArray (λ w'=>w'=w) (λ a'=> ∀w',w'=w->E a' w') rest):=by
   intro d hd;obtain⟨x,u,h1,h2,h3⟩:=Au hL R (o:=⟨dst,op,ty,pos,after,guard⟩) (d:=d) hqo hd;obtain⟨st2,k2,R2⟩:=iq R h2 h1;refine⟨u,λ w' e=> ?_,ih hqr R2 k2⟩;subst e;unfold Oper.quietAt;rw[h3];exact⟨rfl,rfl⟩
  have go':BU P L W dst st op (λ x st'=>qY N st' dst x (yM P L W N ops Q rest))->Oper.quiet P ⟨dst,op,ty,pos,after,guard⟩ a (λ w'=>w'=w) (wpQuiet P ops.toArray (λ w'=>w'=w) (λ a'=> ∀w',w'=w->E a' w') rest):=by
   intro hd;unfold BU at hd;cases dst with
   |none=>exact go 0 hd
   |some d=>exact go d hd
  have skip:qY N st dst (.v undef) (yM P L W N ops Q rest)->wpQuiet P ops.toArray (λ w'=>w'=w) (λ a'=> ∀w',w'=w->E a' w') rest (a.put dst undef):=by
   intro hd;obtain⟨st2,h2,R2⟩:=iq R (show C2 (aC g w ρ st.heap) (.v undef) undef from rfl) hd;exact ih hqr R2 h2
  simp only[yM]at h;simp only[wpQuiet];cases guard with
  |none=>
   dsimp only at h;rw[if_pos (by simp[Region.wanted])];exact go' h
  |some gd=>
   obtain⟨j,want⟩:=gd;dsimp only at h;split at h
   ·rename_i dj hdj;cases hb:Nat.ble (dj+1) N with
    |false=>rw[hb]at h;exact h.elim
    |true=>
     rw[hb,cond_true]at h;have hlt:=aox hb;have hd:=R.tmps dj;have hget:a.tmps[dj]? =some (a.tmps.getD dj undef):=by
      have:dj<a.tmps.size:=by rw[R.size];exact hlt
      simp[this]
     have hops:((ops.toArray[j]?).bind (·.dst))=some dj:=by simpa using hdj
     split at h
     ·rename_i b eb;rw[eb]at hd;have hd:=C2.dD hd;have hy:yielded ops.toArray a.tmps j=some b:=by
       unfold yielded;rw[hops];simp only[aqw,hget,hd]
      split at h
      ·rename_i hbw;rw[if_pos (by simp only[Region.wanted,hy];simpa using hbw)];exact go' h
      ·rename_i hbw;rw[if_neg (by simp only[Region.wanted,hy];simpa using hbw)];exact skip h
     ·rename_i vs eb;rw[eb]at hd;have hd:=C2.dD hd;have hy:yielded ops.toArray a.tmps j=none:=by
       unfold yielded;rw[hops];simp only[aqw,hget,hd]
      rw[if_neg (by simp only[Region.wanted,hy];simp)];exact skip h
     ·exact h.elim
   ·exact h.elim
theorem OA{X:CX}:∀{fs hs:List (List (Nat×AV))}{bs:List (Array Value)},mW X fs bs->qZ fs hs->mW X hs bs
 |[],[],[],_,_=>trivial
 |_::_,_::_,_::_,k,l=>⟨λ t=>by
    rcases l.1 t with e|e
    ·rw[e];trivial
    ·exact e _ _ (k.1 t),OA k.2 l.2⟩
 |[],_::_,_,_,l=>l.elim
 |_::_,[],_,_,l=>l.elim
 |[],[],_::_,k,_=>k.elim
 |_::_,_::_,[],k,_=>k.elim
theorem Rel.less(R:Rel g N bs ρ a w st){S:AS}(h:Jw st S):Rel g N bs ρ a w S:=by
 have hb:∀b,b∈ah ρ S.heap->b∈ah ρ st.heap:=by
  intro b hb;obtain⟨p,hp,e⟩:=aQ.1 hb;obtain⟨o,ho,_⟩:=h.hp p hp;exact aQ.2 ⟨_,aA ho,e⟩
 have hk:∀b,aJ g w ρ st.heap b->aJ g w ρ S.heap b:=λ b h=>⟨h.1,h.2.1,λ h'=>h.2.2 (hb b h')⟩;refine⟨R.size,R.defers,R.below,λ t=> ?_,λ p hp=> ?_, ?_,λ b h=>R.own b (hb b h),OA (R.back.imp λ _ _=>C2.same (X:=aC g w ρ st.heap) (Y:=aC g w ρ S.heap) hk (λ _ _=>rfl) rfl) h.bk⟩
 ·rcases h.tm t with e|e
  ·rw[e];trivial
  ·exact e _ _ (C2.same (X:=aC g w ρ st.heap) (Y:=aC g w ρ S.heap) hk (λ _ _=>rfl) rfl (R.tmps t))
 ·obtain⟨o,ho,he⟩:=h.hp p hp;refine he _ _ ?_;exact aT.same (X:=aC g w ρ st.heap) hk (λ _ _=>rfl) rfl (λ _ _=>rfl) (R.objs _ (aA ho))
 ·exact OC h.nd R.apart (λ p hp=>by obtain⟨o,ho,_⟩:=h.hp p hp;exact⟨_,aA ho,rfl⟩)
where
 OC {ρ:Nat->Value} {h:List (Nat×AO)}:∀{l:List (Nat×AO)},(l.map (·.1)).Nodup->(ah ρ h).Nodup->(∀p∈l,∃q∈h,q.1=p.1)->(ah ρ l).Nodup
  |[],_,_,_=>by simp[ah]
  |p::l,hn,hh,hs=>by
   have hn':=apj.1 hn;have ih:=OC hn'.2 hh (λ q hq=>hs q (aoq _ hq));rw[aS,ao9];obtain⟨p',hp',e1⟩:=hs p aol;refine⟨by rw[<-e1];exact oq hh hp',ih,λ x hx y hy e=> ?_⟩;subst e;obtain⟨q,hq,hqe⟩:=aQ.1 hy;obtain⟨q',hq',e2⟩:=hs q (aoq _ hq);have:=fQ hh p' hp' q' hq' (by rw[e1];exact hx) (by rw[e2];exact hqe);exact hn'.1 (aoR.2 ⟨q,hq,by rw[<-e2,<-this,e1]⟩)
theorem Rel.OD(R:Rel g N bs ρ a w st){σ:List (Nat×Nat)}{S:AS}(h:dO σ st S):∃ρ',Rel g N bs ρ' a w S:=⟨_,(R.ren h.nd).less h.le⟩
theorem Rel.nilRow(R:Rel g N bs ρ a w st)(t d:Nat)(e:TypeId)(s:Nat)(f:Nat->List AV)(ht:st.tmps t= .v (.slice none 0 0))(hs:0<s):Rel g N bs (cu ρ d (.slice none 0 0)) a w ((st.obj d d (.row e s 0 true f)).put t (.own d)):=by
 have R1:Rel g N bs (cu ρ d (.slice none 0 0)) a w (st.obj d d (.row e s 0 true f)):=by
  refine R.obj d d R.below (aoH _) (λ _ _ _=>rfl) (λ b hb=>by cases hb) (λ _=> ?_);exact⟨[],by simpa[aC,cu]using apA w _ e s,hs,λ i hi=>absurd hi o_,(λ _ x hx=>by cases hx),aG.nil⟩
 refine⟨R1.size,R1.defers,R1.below,λ t'=> ?_,R1.objs,R1.apart,R1.own,R1.back⟩;show C2 _ (upd t (.own d) _ t') _;by_cases e':t'=t
 ·subst e';have h0:=R.tmps t';rw[ht]at h0;simp only[upd,aqW];show a.tmps.getD t' undef=dJ (cu ρ d (.slice none 0 0) d);rw[h0];simp[cu,dJ]
 ·simp only[upd,beq_false e'];exact R1.tmps t'
theorem Rel.akG(R:Rel g N bs ρ a w st)(id k d:Nat)(e:TypeId)(s:Nat)(f:Nat->List AV){t:TypeId}{cs:List AV}(hs:0<s)(hf:aK id (st.obj d d (.row e s 0 true f)).heap=some (.box t cs))(hk:cs[k]? =some (.v (.slice none 0 0))):
  Rel g N bs (cu ρ d (.slice none 0 0)) a w ⟨(st.obj d d (.row e s 0 true f)).sl,setObj id (.box t (cs.set k (.own d))) (st.obj d d (.row e s 0 true f)).heap,(st.obj d d (.row e s 0 true f)).back,(st.obj d d (.row e s 0 true f)).base⟩:=by
 have R1:Rel g N bs (cu ρ d (.slice none 0 0)) a w (st.obj d d (.row e s 0 true f)):=by
  refine R.obj d d R.below (aoH _) (λ _ _ _=>rfl) (λ b hb=>by cases hb) (λ _=> ?_);exact⟨[],by simpa[aC,cu]using apA w _ e s,hs,λ i hi=>absurd hi o_,(λ _ x hx=>by cases hx),aG.nil⟩
 obtain⟨b,us,e',hh,ha⟩:=R1.objs _ (aA hf);have e':cu ρ d (.slice none 0 0) id=_:=e';refine R1.write hf (by rw[e'];exact aol) (apD _ _) rfl (λ _ _=>rfl) (λ hk' hm=> ?_);refine⟨b,us,e',hh,by rw[apZ];exact ha.1,λ i x u hx hu=> ?_⟩;by_cases hi:i=k
 ·subst hi;have hlt:=(aoC.1 hk).1;rw[aqT hlt]at hx;cases hx;have h0:=ha.2 i _ u hk hu;show u=dJ (cu ρ d (.slice none 0 0) d);rw[h0];simp[cu,dJ]
 ·rw[List.getElem?_set_ne (λ h=>hi h.symm)]at hx;exact C0.same (X:=aC g w (cu ρ d (.slice none 0 0)) (st.obj d d (.row e s 0 true f)).heap) (Y:=aC g w (cu ρ d (.slice none 0 0)) (setObj id (.box t (cs.set k (.own d))) (st.obj d d (.row e s 0 true f)).heap)) hk' hm rfl (ha.2 i x u hx hu)
theorem UQ(lv:Nat):∀(l:List (Nat×AV))(t:Nat),tN (Iq lv l) t=bif QN lv t then tN l t else .junk
 |[],t=>by simp[Iq,tN]
 |(k,v)::l,t=>by
  have ih:=UQ lv l t;simp only[Iq];cases hk:QN lv k with
  |true=>
   simp only[cond_true,tN];cases hb:Nat.beq t k with
   |true=>
    obtain rfl:=aos hb;rw[hk];rfl
   |false=>exact ih
  |false=>
   simp only[cond_false,tN];rw[ih];cases hb:Nat.beq t k with
   |true=>
    obtain rfl:=aos hb;rw[hk];rfl
   |false=>rfl
theorem Rel.wX(R:Rel g N bs ρ a w st)(lv:Nat):Rel g N bs ρ a w (st.wX lv):=by
 refine⟨R.size,R.defers,R.below,λ t=> ?_,R.objs,R.apart,R.own,R.back⟩;have:=R.tmps t;show C2 _ (tN (Iq lv st.sl) t) _;rw[UQ];cases QN lv t with
 |true=>exact this
 |false=>trivial
theorem UR{c:Code}{body:(jk->AS->Prop)->AS->Prop}(hc:∀{Q:jk->AS->Prop}{E:Exit->Act->World->Prop}{ρ:Nat->Value}{a:Act}{w:World}{st:AS},qOf g N bs Q E->Rel g N bs ρ a w st->body Q st->c.wp P E a w){Q:jk->AS->Prop}{E:Exit->Act->World->Prop}(hq:qOf g N bs Q E)
  (X:Type)(S:X->AS)(m:X->Nat)(B:X->AS->Prop)(hB:∀x st' ρ' a' w',B x st'->Rel g N bs ρ' a' w' st'-> ∃y ρ',Rel g N bs ρ' a' w' (S y)/\m y<m x)
  (hb:∀x,body (λ e st'=>match e with| .normal=>B x st'| .exit i=>Q (.exit i) st'| .ret=>Q .ret st') (S x)){a:Act}{w:World}(h0:∃x ρ',Rel g N bs ρ' a w (S x)):(Code.loop c).wp P E a w:=by
 have hex:∀a w,(∃x ρ,Rel g N bs ρ a w (S x))-> ∃n,∃x ρ,Rel g N bs ρ a w (S x)/\m x=n:=λ a w ⟨x,ρ,h⟩=>⟨m x,x,ρ,h,rfl⟩;refine wp_loop (λ a w=> ∃x ρ,Rel g N bs ρ a w (S x)) (λ a w=>least (λ n=> ∃x ρ,Rel g N bs ρ a w (S x)/\m x=n)) h0 ?_;intro a w hI;obtain⟨x,ρ,Rx,hx⟩:=JX (hex a w hI);refine hc ⟨?_, ?_, ?_⟩ Rx (hb x)
 ·intro ρ' a' w' st' R' hBx;obtain⟨y,ρy,Ry,hlt⟩:=hB x st' ρ' a' w' hBx R';refine⟨⟨y,ρy,Ry⟩, ?_⟩;have:=least_le (p:=λ n=> ∃x ρ,Rel g N bs ρ a' w' (S x)/\m x=n) ⟨y,ρy,Ry,rfl⟩;omega
 ·intro i ρ a w st R h;exact hq.2.1 i ρ a w st R h
 ·intro ρ a w st R h;exact hq.2.2 ρ a w st R h
theorem aer{c:Code}{body:(jk->AS->Prop)->AS->Prop}(hc:∀{Q:jk->AS->Prop}{E:Exit->Act->World->Prop}{ρ:Nat->Value}{a:Act}{w:World}{st:AS},qOf g N bs Q E->Rel g N bs ρ a w st->body Q st->c.wp P E a w){Q:jk->AS->Prop}{E:Exit->Act->World->Prop}(hq:qOf g N bs Q E){st:AS}(h:aI body Q st):
  ∀{ρ:Nat->Value}{a:Act}{w:World},Rel g N bs ρ a w st->(Code.loop c).wp P E a w:=by
 induction h with
 |nil t d e s f ht hs h ih=>exact λ R=>ih (R.nilRow t d e s f ht hs)
 |ad6 id k d e s f hs hf hk h ih=>exact λ R=>ih (R.akG id k d e s f hs hf hk)
 |FP id hf h ih=>exact λ R=>ih (R.freeze hf).1
 |imp S h0 h ih=>
  intro ρ a w R;obtain⟨ρ',R'⟩:=h0 g N bs ρ a w R;exact ih R'
 |rounds n h=>
  intro ρ a w R;refine wp_loop_rounds n ?_;have key:∀n{ρ:Nat->Value}{a:Act}{w:World}{st:AS},Rel g N bs ρ a w st->IV body Q n st->Code.rounds P c E n a w:=by
   intro n;induction n with
   |zero=>intro ρ a w st R h;exact h.elim
   |succ n ih=>
    intro ρ a w st R h;refine hc ⟨?_, ?_, ?_⟩ R h
    ·intro ρ a w st R h;exact ih R h
    ·intro i ρ a w st R h;exact hq.2.1 i ρ a w st R h
    ·intro ρ a w st R h;exact hq.2.2 ρ a w st R h
  exact key n R h
 |mkI X S m x0 h0 hb=>
  intro ρ a w R;exact UR hc hq X S m _ (λ x st' ρ' a' w' hB R'=>by
   obtain⟨y,hy,hlt⟩:=hB;obtain⟨ρy,Ry⟩:=hy g N bs ρ' a' w' R';exact⟨y,ρy,Ry,hlt⟩) hb ⟨x0,h0 g N bs ρ a w R⟩
 |mk X S m x0 σ h0 hb=>
  intro ρ a w R;exact UR hc hq X S m _ (λ x st' ρ' a' w' hB R'=>by
   obtain⟨y,σ,hy,hlt⟩:=hB;obtain⟨ρy,Ry⟩:=R'.OD hy;exact⟨y,ρy,Ry,hlt⟩) hb ⟨x0,R.OD h0⟩
theorem oM(hL:bJ P L){W:Walk}(hW:Iz P W)(lv:Nat):∀(c:Code){Q:jk->AS->Prop}{E:Exit->Act->World->Prop}{ρ:Nat->Value}{a:Act}{w:World}{st:AS},qOf g N bs Q E->Rel g N bs ρ a w st->lD P L W N lv c Q st->c.wp P E a w
 | .skip,Q,E,ρ,a,w,st,hq,R,h=>wp_skip (hq.1 _ _ _ _ R h)
 | .region id ops draw,Q,E,ρ,a,w,st,hq,R,h=>by
   cases draw with
   |true=>
    have h:fO P L W N id ops (λ st'=>nrm lv st' (Q .normal)) st:=h;cases h with
    |quiet hm hB hqq h=>
     refine wp_region_quiet (C:=λ w'=>w'=w.drew) hm hB rfl ?_;have R':Rel g N bs ρ a w.drew st:=R.world (apD _ _).drew;exact vN hL (E:=λ a w=>E .normal a w) (ops:=ops.toList) (λ a w1 st R h=>hq.1 _ a w1 _ (R.wX lv) (Jt lv st (Q .normal)▸h)) ops.toList hqq R' h
    |sem h=>exact h g bs ρ a w E R (λ ρ a w st R h=>hq.1 ρ a w _ (R.wX lv) (Jt lv st (Q .normal)▸h))
   |false=>
    have h:yM P L W N ops.toList (λ st'=>nrm lv st' (Q .normal)) ops.toList st:=h;refine wp_region_list ?_;have:=UO (QQ:=E) hL hW (λ a w ρ st R h=>hq.1 ρ a w _ (R.wX lv) (Jt lv st (Q .normal)▸h)) ops.toList R h;simpa using this
 | .seq x y,Q,E,ρ,a,w,st,hq,R,h=>by
   refine wp_seq (oM hL hW lv x (Q:=λ e st'=>match e with| .normal=>lD P L W N lv y Q st'| .exit i=>Q (.exit i) st'| .ret=>Q .ret st') ⟨?_, ?_, ?_⟩ R h)
   ·intro ρ a w st R h;exact oM hL hW lv y hq R h
   ·intro i ρ a w st R h;exact hq.2.1 i ρ a w st R h
   ·intro ρ a w st R h;exact hq.2.2 ρ a w st R h
 | .cond c x y,Q,E,ρ,a,w,st,hq,R,h=>by
   simp only[lD]at h;split at h
   ·rename_i t et;have hc:=R.ev c;rw[et]at hc;have hc:=C2.dD hc;cases t with
    |true=>exact wp_cond hc (by simpa using oM hL hW lv x hq R h)
    |false=>exact wp_cond hc (by simpa using oM hL hW lv y hq R h)
   ·exact h.elim
 | .block id c,Q,E,ρ,a,w,st,hq,R,h=>by
   refine wp_block (oM hL hW lv c (Q:=λ e st'=>match e with| .normal=>Q .normal st'| .exit i=>(bif Nat.beq i id then Q .normal st' else Q (.exit i) st')| .ret=>Q .ret st') ⟨?_, ?_, ?_⟩ R h)
   ·intro ρ a w st R h;exact hq.1 ρ a w st R h
   ·intro i ρ a w st R h;dsimp only at h;show Exit.inBlock id E (.exit i) a w;simp only[Exit.inBlock];cases hb:Nat.beq i id with
    |true=>
     rw[hb]at h;rw[if_pos (aos hb)];exact hq.1 ρ a w st R h
    |false=>
     rw[hb]at h;rw[if_neg (λ e=>by rw[e]at hb;simp at hb)];exact hq.2.1 i ρ a w st R h
   ·intro ρ a w st R h;exact hq.2.2 ρ a w st R h
 | .loop c,Q,E,ρ,a,w,st,hq,R,h=>aer (body:=lD P L W N lv c) (λ hq R h=>oM hL hW lv c hq R h) hq h R
 | .exit id,Q,E,ρ,a,w,st,hq,R,h=>wp_exit (hq.2.1 id ρ a w st R h)
 | .ret,Q,E,ρ,a,w,st,hq,R,h=>wp_ret (hq.2.2 ρ a w st R h)
 | .rangeFunc ..,_,E,ρ,a,w,_,hq,R,⟨h⟩=>h g bs E ρ a w hq R
 | .scope _,_,E,ρ,a,w,_,hq,R,⟨h⟩=>h g bs E ρ a w hq R
 | .label _,_,E,ρ,a,w,_,hq,R,⟨h⟩=>h g bs E ρ a w hq R
 | .goto _,_,E,ρ,a,w,_,hq,R,⟨h⟩=>h g bs E ρ a w hq R
 | .refuse _,_,E,ρ,a,w,_,hq,R,⟨h⟩=>h g bs E ρ a w hq R
theorem dM(hL:bJ P L):∀n,Iz P (BG P L n)
 |0=>λ _ _ _ _ _ _ _ _ _ _ _ _ _ h=>h.elim
 |n+1=>λ _ _ lv _ c _ _ _ _ _ _ hq R h=>oM hL (dM hL n) lv c hq R h
end
section
variable{P:Program}{L:Lay}{g:Base}{N:Nat}{bs:List (Array Value)}{ρ:Nat->Value}{a:Act}{w:World}{st:AS}
theorem ZX{k:Nat->Prop}(hk:∀b,aJ g w ρ st.heap b->k b){x:AV}{u:Value}(hr:∀y,Reads st ρ w k y)(h:C2 (aC g w ρ st.heap) x u):C1 ⟨w,k,λ _=>undef⟩ (XV st.heap x) u:=
 ZT hk (.eq x) (hr x) (λ _ _ c _=>hr c) h
theorem Rj{k:Nat->Prop}(hk:∀b,aJ g w ρ st.heap b->k b){id d:Nat}{ρ':Nat->Value}(hd:ρ' d=ρ id){x:AV}{u:Value}(hr:∀i,i≠id->Reads st ρ w k (.own i))(h:C0 (aC g w ρ st.heap) x u):C0 ⟨w,k,ρ'⟩ (ahQ st.heap id d x) u:=by
 cases x with
 |own i=>
  simp only[ahQ];cases hb:Nat.beq i id with
  |true=>
   obtain rfl:=aos hb;show u=dJ (ρ' d);rw[hd];exact h
  |false=>
   have hne:i≠id:=λ e=>by rw[e]at hb;simp at hb
   have:=Aq hk (hr i hne) h;revert this;simp only[Nz];cases aK i st.heap with
   |none=>exact λ h=>h
   |some o=>cases o<;>exact λ h=>h
 |v y=>exact h
 |sl s n sc f=>exact PC.mono hk (λ _ _=>rfl) h
 |_=>trivial
theorem I4{k:Nat->Prop}(hk:∀b,aJ g w ρ st.heap b->k b){id d:Nat}{ρ':Nat->Value}(hd:ρ' d=ρ id){x:AV}{u:Value}(hr:∀i,i≠id->Reads st ρ w k (.own i))(h:C2 (aC g w ρ st.heap) x u):C1 ⟨w,k,ρ'⟩ (akC st.heap id d x) u:=by
 cases x with
 |agg cs=>
  obtain⟨us,rfl,ha⟩:=C2.uj h;exact⟨us,rfl,ha.pW λ _ _=>Rj hk hd hr⟩
 |own i=>exact C1.vG (Rj hk hd hr (x:= .own i) h)
 |v y=>exact h
 |sl s n sc f=>exact C1.vG (Rj hk hd hr (x:= .sl s n sc f) h)
 |_=>trivial
theorem JY{w':World}(hL:bJ P L){fn:Func}{r:AV}{hh:List (Nat×AO)}{keep:Nat->Prop}{ds:List Deferred}(R:Rel ⟨w,keep,λ _=>False,ds⟩ fn.ntmps [] ρ a w' st)(hq:pF L st fn.results.toList (λ x=>aU st x r hh)):
  ∃v,(results fn a.tmps).run P w'= .ok v w'/\ ∃u ρ,Ending.returned v= .returned u/\Below w.heap.size w w'/\C2 (aC (base0 w keep) w' ρ hh) r u/\(∀p∈hh,aT (aC (base0 w keep) w' ρ hh) p.1 p.2)/\(ah ρ hh).Nodup/\ ∀b∈ah ρ hh,w.heap.size<=b:=by
 let g:Base:=⟨w,keep,λ _=>False,ds⟩;obtain⟨x,u,hret,hc,hrun⟩:=Ri hL R hq;have hbel:Below w.heap.size w w':=R.below.less λ _ h=>h;have hlt':∀{b:Nat},b∈ah ρ st.heap->g.w.heap.size<=b:=λ{b} h=>(R.own b h).elim id False.elim;refine⟨u,hrun, ?_⟩;cases hret with
 |plain _ hr=>
  let k:Nat->Prop:=aJ g w' (λ _=>undef) [];have hk:∀b,aJ g w' ρ st.heap b->k b:=λ b h=>⟨h.1,h.2.1,by simp[ah]⟩;have rd:∀y,Reads st ρ w' k y:=λ y id e s n sc f _ hf=>vM R hf hk λ b hb=>by
   have hin:=aQ.2 ⟨_,aA hf,hb⟩;have:=R.iJ hin;exact⟨this.1,λ hlt=>absurd hlt (by have:=hlt' hin;omega),by simp[ah]⟩
  refine⟨u,λ _=>undef,rfl,hbel,hr _ _ ?_,(λ p hp=>by cases hp),by simp[ah],(λ b hb=>by simp[ah]at hb)⟩;cases x with
  |bI vs=>
   obtain⟨us,rfl,ha⟩:=C2.QW hc;exact⟨us,rfl,ha.pW λ y v hy=>ZX hk rd (C2.mP hy)⟩
  |_=>exact C2.mP (ZX hk rd hc)
 |nil d e s f hx hs=>
  subst hx;obtain rfl:=C2.dD hc;have hb:ah (λ _:Nat=>Value.slice none 0 0) [(d,AO.row e s 0 true f)]=[]:=rfl;refine⟨.slice none 0 0,λ _=> .slice none 0 0,rfl,hbel,rfl,λ p hp=> ?_,by rw[hb];exact List.nodup_nil,λ b hb'=>by rw[hb]at hb';cases hb'⟩;obtain rfl:=aoo.1 hp;exact⟨[],apA w' _ e s,hs,λ i hi=>absurd hi o_,(λ _ x hx=>by cases hx),aG.nil⟩
 |own id d _ e s n sc f o' hfo ho hr=>
  have hin:=aA hfo;let ρ':Nat->Value:=λ i=>if i=d then ρ id else undef
  have aes:ρ' d=ρ id:=by simp[ρ']
  have hbl:∀o'':AO,ah ρ' [(d,o'')]=blks (ρ id):=by intro o'';rw[aS];simp[ρ',ah]
  let k:Nat->Prop:=aJ g w' ρ' [(d,o')];have hk:∀b,aJ g w' ρ st.heap b->k b:=λ b h=>⟨h.1,h.2.1,λ hb=>h.2.2 (by
   rw[hbl]at hb;exact aQ.2 ⟨_,hin,hb⟩)⟩
  have rd:∀i,i≠id->Reads st ρ w' k (.own i):=λ i hi j e s n sc f hij hf=>vM R hf hk λ b hb=>by
   cases hij;have hin0:=aQ.2 ⟨_,aA hf,hb⟩;have:=R.iJ hin0;refine⟨this.1,λ hlt=>absurd hlt (by have:=hlt' hin0;omega),λ hin'=> ?_⟩;rw[hbl]at hin';exact hi (fQ R.apart _ (aA hf) _ hin hb hin')
  refine⟨u,ρ',rfl,hbel,hr _ _ ?_, ?_, ?_, ?_⟩
  ·cases x with
   |bI vs=>
    obtain⟨us,rfl,ha⟩:=C2.QW hc;exact⟨us,rfl,ha.pW λ y v hy=>I4 hk aes rd (C2.mP hy)⟩
   |agg cs=>exact C2.mP (I4 hk aes rd hc)
   |v y=>exact hc
   |own i=>exact C2.mP (I4 hk aes rd (x:= .own i) hc)
   |sl s n sc f=>exact C2.mP (I4 hk aes rd (x:= .sl s n sc f) hc)
   |_=>trivial
  ·intro p hp;simp only[aoo]at hp;subst hp;refine ho _ _ ?_;obtain⟨us,hown,hs,hfl,hsc,ha⟩:=R.objs _ hin;exact⟨us,by simpa[aC,aes]using hown,hs,hfl,hsc,ha.imp λ _ _=>PC.mono hk (λ _ _=>rfl)⟩
  ·rw[hbl];exact oq R.apart hin
  ·intro b hb;rw[hbl]at hb;exact hlt' (aQ.2 ⟨_,hin,hb⟩)
theorem UU(hL:bJ P L){f:FuncId}{fn:Func}{c:Code}{aZ:List AV}{r:AV}{hh:List (Nat×AO)}(hf:P.funcs[f]? =some fn)(hn:(fn.name== "runtime.NumGoroutine")=false)(hb:fn.body=some c)(hsz:Nat.ble aZ.length fn.ntmps=true)
  (h:∀(g:Base)(E:Exit->Act->World->Prop){ρ:Nat->Value}{a:Act}{w:World},qOf g fn.ntmps [] (Us L fn r hh) E->Rel g fn.ntmps [] ρ a w (start aZ)->c.wp P E a w):aH P f aZ r hh:=by
 refine⟨⟨fn,c,hf,hn,hb⟩,λ w keep args hkeep hargs=> ?_⟩;have hsz:=aox hsz;have hlen:args.length=aZ.length:=hargs.1.symm;refine calls_of_wp hf hb ?_;let g:Base:=base0 w keep;have JZ:aG (C2 (aC g w (λ _=>undef) [])) aZ args:=hargs.imp λ _ _ h=>C2.mP (C1.same (X:=⟨w,keep,λ _=>undef⟩) (Y:=aC g w (λ _=>undef) []) (λ b hb=>⟨hkeep b hb,λ _=> .inl hb,by simp[ah]⟩) (λ _ _=>rfl) rfl h);have R0:Rel g fn.ntmps [] (λ _=>undef) {tmps:=args.toArray++Array.replicate (fn.ntmps-args.toArray.size) undef,defers:=[]} w (start aZ):=
  ⟨by simp;omega,rfl,dL.refl _ _ _,um JZ hsz,(λ p hp=>by cases hp),by simp[start,ah],(λ b hb=>by simp[start,ah]at hb),trivial⟩
 have fin:∀(e:Exit),(e= .normal\/e= .ret)-> ∀ρ a w' st,Rel g fn.ntmps [] ρ a w' st->pF L st fn.results.toList (λ x=>aU st x r hh)->
   bodyPost P fn (λ e w'=> ∃u ρ,e= .returned u/\Below w.heap.size w w'/\C2 (aC (base0 w keep) w' ρ hh) r u/\(∀p∈hh,aT (aC (base0 w keep) w' ρ hh) p.1 p.2)/\(ah ρ hh).Nodup/\ ∀b∈ah ρ hh,w.heap.size<=b) e a w':=by
  intro e he ρ a w' st R hq;have post:=And.intro R.defers (JY hL R hq);rcases he with rfl|rfl
  ·exact post
  ·exact post
 exact h g _ ⟨λ ρ a w' st R h=>fin _ (.inl rfl) ρ a w' st R h,λ i ρ a w' st R h=>h.elim,λ ρ a w' st R h=>fin _ (.inr rfl) ρ a w' st R h⟩ R0
theorem aeu(hL:bJ P L)(lv:Nat){f:FuncId}{fn:Func}{c:Code}{aZ:List AV}{r:AV}{hh:List (Nat×AO)}(hf:P.funcs[f]? =some fn)(hn:(fn.name== "runtime.NumGoroutine")=false)(hb:fn.body=some c)(hsz:Nat.ble aZ.length fn.ntmps=true)
  (h:BG P L 9 fn.ntmps lv c (Us L fn r hh) (start aZ)):aH P f aZ r hh:=
 UU hL hf hn hb hsz λ g _ _ _ _ hq R=>dM hL 9 g fn.ntmps lv [] c (Us L fn r hh) _ hq R h
end
end Go.Proofs.YtifjccndenojlaaGreat
