/-
  Contracts of the walk:LvN,LvA,LvB,LvC.
-/
import Derived.Test.YtimhagicagdkfaaGreatNh17
import Derived.Test.YtimhagicagdkfaaGreatNh6
set_option maxHeartbeats 16000000
set_option maxRecDepth 100000
set_option linter.unusedVariables false
set_option linter.unusedSimpArgs false
namespace Go.Proofs.YtimhagicagdkfaaGreat
section
open Go.RowKit
theorem wZ {w:World} {b i:Nat} {us:List Value} {t:TypeId} (v:Value) (hh:w.heap[b]? =some (.cells us.toArray t (0,0))):
  (w.setCell ⟨b,i,none⟩ v).heap[b]? =some (.cells (us.set i v).toArray t (0,0))∧(∀k,k≠b→(w.setCell ⟨b,i,none⟩ v).heap[k]? =w.heap[k]?)∧(w.setCell ⟨b,i,none⟩ v).heap.size=w.heap.size∧
   (w.setCell ⟨b,i,none⟩ v).os=w.os∧(w.setCell ⟨b,i,none⟩ v).tape=w.tape∧(w.setCell ⟨b,i,none⟩ v).output=w.output:=by
 refine⟨?_,fun k hk=>Below.heap_setCell _ _ _ _ hk,by simp,rfl,rfl,rfl⟩
 rw[heap_setCell_same w b i _ t v hh]
 simp
theorem nP {w:World} {b i:Nat} {us:List Value} {t:TypeId} (hh:w.heap[b]? =some (.cells us.toArray t (0,0))):w.cell? ⟨b,i,none⟩=us[i]? ∧w.frozen? ⟨b,i,none⟩=false:=by
 constructor
 · simp[World.cell?,hh]
 · simp[World.frozen?,hh]
theorem aI.at {R:AV→Value→Prop} {cs:List AV} {us:List Value} (h:aI R cs us) {i:Nat} {x:AV} (hx:cs[i]? =some x): ∃u,us[i]? =some u∧R x u:=h.get hx
theorem aV.cell {P:Program} {f:FuncId} {t:TypeId} {cs:List AV} {off:Nat} {x y:Value} {xs:List Value} {r:Value} (hE:Enters P f) (hx:cs[off]? =some (.v x))
  (h: ∀ (b:Nat) (w:World),w.cell? ⟨b,off,none⟩=some x→w.frozen? ⟨b,off,none⟩=false→Calls P f (.pointer (some ⟨b,off,none⟩)::xs).toArray w fun e w'=>e= .returned r∧w'=w.setCell ⟨b,off,none⟩ y):
  aV P f [(0,.box t cs)] (.box 0 off::xs.map .v) (.v r) [(0,.box t (cs.set off (.v y)))]:=by
 refine⟨hE,fun w keep ρ args hk lK hnd hbl hargs=>?_⟩
 obtain⟨b,us,e,hh,ha⟩:=lK _ (List.mem_singleton.2 rfl)
 have e:ρ 0=_:=e
 have hh:w.heap[b]? =_:=hh
 cases args with
 |nil=>have:=hargs.1;simp at this
 | cons a0 tl=>
   obtain⟨b0,hb0,ea⟩: ∃b0,eP (ρ 0)= .pointer (some ⟨b0,0,none⟩)∧a0= .pointer (some ⟨b0,off,none⟩):=hargs.2 0 _ _ rfl rfl
   rw[e]at hb0
   cases hb0
   subst ea
   have hxs:tl=xs:=zG.yc (X:=⟨w,keep,ρ⟩) ⟨by simpa using hargs.1,fun i x u hx hu=>hargs.2 (i+1) x u (by simpa using hx) (by simpa using hu)⟩
   subst hxs
   obtain⟨u,hu,hxu⟩:=ha.get hx
   have hxu:u=x:=hxu
   subst hxu
   obtain⟨g1,g2⟩:=nP (i:=off) hh
   refine(h b w (g1.trans hu) g2).mono ?_
   rintro e0 w' ⟨rfl,rfl⟩
   obtain⟨s1,s2,s3,s4,s5,s6⟩:=wZ (i:=off) y hh
   have hb:ah ρ [(0,.box t cs)]=[b]:=by rw[sQ,e];rfl
   have hb':ah ρ [(0,.box t (cs.set off (.v y)))]=[b]:=by rw[sQ,e];rfl
   have hkk: ∀q,keep q→aK (gU w keep (fun b=>b∈ah ρ [(0,.box t cs)])) (w.setCell ⟨b,off,none⟩ y) ρ [(0,.box t (cs.set off (.v y)))] q:=fun q hq=>
    ⟨by rw[s3];exact hk q hq,fun _=> .inl hq,fun h=>(hbl q (by rw[hb];rw[hb']at h;exact h)).2 hq⟩
   have hne: ∀q,keep q→q≠b:=fun q hq e=>(hbl q (by rw[hb,e];exact List.mem_cons_self)).2 hq
   refine⟨_,ρ,rfl,⟨s4,s5,s6,by rw[s3];exact Nat.le_refl _,fun k hk hM=>s2 k fun e=>hM (by rw[hb,e];exact List.mem_cons_self)⟩,fun _ _ _ _ _=> .refl _,rfl,fun p hp=>?_,by rw[hb'];simp,fun q hq=> .inr (by rw[hb];rw[hb']at hq;exact hq)⟩
   obtain rfl:=List.mem_singleton.1 hp
   refine⟨b,us.set off y,e,s1, ?_⟩
   exact(ha.imp fun _ _=>C0.same (X:=⟨w,keep,ρ⟩) (Y:=aC (gU w keep (fun b=>b∈ah ρ [(0,.box t cs)])) (w.setCell ⟨b,off,none⟩ y) ρ [(0,.box t (cs.set off (.v y)))]) hkk (fun q hq=>s2 q (hne q hq)) rfl).set off rfl
theorem dK.cell {P:Program} {L:Lay} {W:Walk} {d:Nat} {f:FuncId} {dn:List AV} {st:AS} {K:AV→AS→Prop} (id off:Nat) {t:TypeId} {cs:List AV} {x y r:Value} {xs:List Value} (hE:Enters P f) (hf:aP id st.heap=some (.box t cs)) (hx:cs[off]? =some (.v x)) (ha:dn= .box id off::xs.map .v)
  (h: ∀ (b:Nat) (w:World),w.cell? ⟨b,off,none⟩=some x→w.frozen? ⟨b,off,none⟩=false→Calls P f (.pointer (some ⟨b,off,none⟩)::xs).toArray w fun e w'=>e= .returned r∧w'=w.setCell ⟨b,off,none⟩ y)
  (hK:K (.v r) ⟨st.sl,setObj id (.box t (cs.set off (.v y))) st.heap,st.back,st.base⟩):dK P L W d f dn st K:=by
 refine .sem hE fun g N bs ρ a w args R hargs=>?_
 subst ha
 obtain⟨b,us,e,hh,hc⟩:=R.objs _ (ay hf)
 have e:ρ id=_:=e
 have hh:w.heap[b]? =_:=hh
 cases args with
 |nil=>have:=hargs.1;simp at this
 | cons a0 tl=>
   obtain⟨b0,hb0,ea⟩: ∃b0,eP (ρ id)= .pointer (some ⟨b0,0,none⟩)∧a0= .pointer (some ⟨b0,off,none⟩):=hargs.2 0 _ _ rfl rfl
   rw[e]at hb0
   cases hb0
   subst ea
   have hxs:tl=xs:=by
    refine zG.yc (X:=aC g w ρ st.heap) ⟨by simpa using hargs.1,fun i x u hx hu=>?_⟩
    rw[List.getElem?_map]at hx
    cases hq:xs[i]? with
    |none=>rw[hq]at hx;cases hx
    | some q=>
      rw[hq]at hx
      cases hx
      exact hargs.2 (i+1) (.v q) u (by simp[hq]) (by simpa using hu)
   subst hxs
   obtain⟨u,hu,hxu⟩:=hc.get hx
   have hxu:u=x:=hxu
   subst hxu
   obtain⟨g1,g2⟩:=nP (i:=off) hh
   refine(h b w (g1.trans hu) g2).mono ?_
   rintro e0 w' ⟨rfl,rfl⟩
   obtain⟨s1,s2,s3,s4,s5,s6⟩:=wZ (i:=off) y hh
   refine⟨_,_,_,ρ,rfl,hK,R.write hf (b:=b) (by rw[e];exact List.mem_cons_self) ⟨s4,s5,s6,by rw[s3];exact Nat.le_refl _,fun k hk=>s2 k (by omega)⟩ s3 s2 (fun hk hm=>?_),rfl⟩
   exact⟨b,us.set off y,e,s1,(hc.imp fun _ _=>C0.same (X:=aC g w ρ st.heap) (Y:=aC g (w.setCell ⟨b,off,none⟩ y) ρ (setObj id (.box t (cs.set off (.v y))) st.heap)) hk hm rfl).set off rfl⟩
theorem dK.done {L:Lay} {W:Walk} {d:Nat} {g:AV} {st:AS} {K:AV→AS→Prop} (id:Nat) {t:TypeId} {cs:List AV} (hf:aP id st.heap=some (.box t cs)) (hx:cs[0]? =some (.v (.int .u32 1))) (hK:K (.dF []) st):dK Tryz.prog L W d 130 [.box id 0,g] st K:=by
 refine .sem ⟨_,_,Tryz.func130,rfl,rfl⟩ fun G N bs ρ a w args R hargs=>?_
 obtain⟨b,us,e,hh,hc⟩:=R.objs _ (ay hf)
 have e:ρ id=_:=e
 have hh:w.heap[b]? =_:=hh
 obtain⟨a0,a1,rfl,h0,h1⟩:=lN hargs
 obtain⟨b0,hb0,rfl⟩: ∃b0,eP (ρ id)= .pointer (some ⟨b0,0,none⟩)∧a0= .pointer (some ⟨b0,0,none⟩):=h0
 rw[e]at hb0
 cases hb0
 obtain⟨u,hu,hxu⟩:=hc.get hx
 have hxu:u=_:=hxu
 subst hxu
 obtain⟨g1,g2⟩:=nP (i:=0) hh
 refine(adl ⟨b,0,none⟩ a1 w (g1.trans hu)).mono ?_
 rintro e0 w' ⟨rfl,rfl⟩
 exact⟨_,_,_,ρ,rfl,hK,R,[],rfl,aI.nil⟩
theorem ZA {x y:Int} (h1: -9223372036854775808≤x+y) (h2:x+y≤9223372036854775807) (w:World):(Op.intArith .add .i64 x y).run Tryz.prog w= .ok (.int .i64 (x+y)) w:=by
 have:IntKind.i64.wrap (x+y)=x+y:=by
  simp only[IntKind.wrap,IntKind.signed,IntKind.bits]
  simp
  omega
 simp[Op.intArith,this]
theorem dK.add {L:Lay} {W:Walk} {d:Nat} {st:AS} {K:AV→AS→Prop} (id off:Nat) {t:TypeId} {cs:List AV} {x y:Int} (hf:aP id st.heap=some (.box t cs)) (hx:cs[off]? =some (.v (.int .i64 x))) (h1: -9223372036854775808≤x+y) (h2:x+y≤9223372036854775807)
  (hK:K (.v (.int .i64 (x+y))) ⟨st.sl,setObj id (.box t (cs.set off (.v (.int .i64 (x+y))))) st.heap,st.back,st.base⟩):dK Tryz.prog L W d 133 [.box id off,.v (.int .i64 y)] st K:=
 dK.cell (xs:=[.int .i64 y]) id off ⟨_,_,Tryz.func133,rfl,rfl⟩ hf hx rfl (fun b w hc hz=>aek ⟨b,off,none⟩ x y (x+y) w hc hz (ZA h1 h2 w)) hK
theorem abz (t t1:TypeId) (rest rest':List AV) (c:List AV) (ho:List (Nat×AO))
  (hcl:aV Tryz.prog 131 [(0,.box t (.v (.int .u32 0):: .v (.int .i32 1)::rest)),(1,.box t1 c)] [.box 1 0] (.dF []) ((0,.box t (.v (.int .u32 0):: .v (.int .i32 1)::rest'))::ho)) (hne:gG 0 ho=false):
  aV Tryz.prog 130 [(0,.box t (.v (.int .u32 0):: .v (.int .i32 0)::rest)),(1,.box t1 c)] [.box 0 0,.fn 131 [.box 1 0]] (.dF []) ((0,.box t (.v (.int .u32 1):: .v (.int .i32 0)::rest'))::ho):=by
 refine⟨⟨_,_,Tryz.func130,rfl,rfl⟩,fun w keep ρ args hk lK hnd hbl hargs=>?_⟩
 obtain⟨b,us,e,hh,ha⟩:=lK _ List.mem_cons_self
 have e:ρ 0=_:=e
 have hh:w.heap[b]? =_:=hh
 have ha:aI (C0 ⟨w,keep,ρ⟩) _ us:=ha
 obtain⟨a0,a1,rfl,h0,h1⟩:=lN hargs
 obtain⟨b0,hb0,rfl⟩: ∃b0,eP (ρ 0)= .pointer (some ⟨b0,0,none⟩)∧a0= .pointer (some ⟨b0,0,none⟩):=h0
 rw[e]at hb0
 cases hb0
 obtain⟨cs,rfl,hcs⟩: ∃us:List Value,a1= .func (.func 131) #[] us.toArray∧aI (C0 ⟨w,keep,ρ⟩) [.box 1 0] us:=h1
 obtain⟨u0,hu0,hx0⟩:=ha.get (i:=0) rfl
 obtain⟨u1,hu1,hx1⟩:=ha.get (i:=1) rfl
 have hx0:u0=_:=hx0
 have hx1:u1=_:=hx1
 subst hx0 hx1
 obtain⟨g0,z0⟩:=nP (i:=0) hh
 obtain⟨g1,z1⟩:=nP (i:=1) hh
 obtain⟨s1,s2,s3,s4,s5,s6⟩:=wZ (i:=1) (.int .i32 1) hh
 let w2:=w.setCell ⟨b,1,none⟩ (.int .i32 1)
 let hin:List (Nat×AO):=[(0,.box t (.v (.int .u32 0):: .v (.int .i32 0)::rest)),(1,.box t1 c)]
 let hin':List (Nat×AO):=[(0,.box t (.v (.int .u32 0):: .v (.int .i32 1)::rest)),(1,.box t1 c)]
 have hbe:ah ρ hin'=ah ρ hin:=rfl
 have yK:b∈ah ρ hin:=aQ.2 ⟨_,List.mem_cons_self,by show b∈blks (ρ 0);rw[e];exact List.mem_cons_self⟩
 have hne': ∀q,keep q→q≠b:=fun q hq e=>(hbl q (by rw[e];exact yK)).2 hq
 have hsame: ∀q,keep q→w2.heap[q]? =w.heap[q]? :=fun q hq=>s2 q (hne' q hq)
 have hob: ∀p∈hin',bn ⟨w2,keep,ρ⟩ p.1 p.2:=by
  intro p hp
  rcases List.mem_cons.1 hp with rfl|hp
  · exact⟨b,us.set 1 (.int .i32 1),e,s1,(ha.imp fun _ _=>C0.same (X:=⟨w,keep,ρ⟩) (Y:=⟨w2,keep,ρ⟩) (fun _ h=>h) hsame rfl).set 1 (x:= .v (.int .i32 1)) rfl⟩
  · obtain rfl:=List.mem_singleton.1 hp
    refine bn.same (X:=⟨w,keep,ρ⟩) (Y:=⟨w2,keep,ρ⟩) (fun _ h=>h) hsame rfl (fun q hq=>s2 q ?_) (lK _ (List.mem_cons_of_mem _ hp))
    rintro rfl
    have:(0:Nat)=1:=fG hnd (0,.box t (.v (.int .u32 0):: .v (.int .i32 0)::rest)) List.mem_cons_self (1,.box t1 c) (List.mem_cons_of_mem _ hp) (by show q∈blks (ρ 0);rw[e];exact List.mem_cons_self) hq
    omega
 have hcall:=hcl.2 w2 keep ρ cs (fun q hq=>by rw[s3];exact hk q hq) hob hnd (fun q hq=>⟨by rw[s3];exact(hbl q hq).1,(hbl q hq).2⟩) (hcs.imp fun x u h=>C1.sZ (C0.same (X:=⟨w,keep,ρ⟩) (Y:=⟨w2,keep,ρ⟩) (fun _ h=>h) hsame rfl h))
 let qC:List (Nat×AO):=(0,.box t (.v (.int .u32 0):: .v (.int .i32 1)::rest'))::ho
 let hout:List (Nat×AO):=(0,.box t (.v (.int .u32 1):: .v (.int .i32 0)::rest'))::ho
 refine(aby b 0 cs.toArray w (fun w1=> ∃ρ',fM (fun q=>q∈ah ρ hin) w2.heap.size w2 w1∧(∀p∈hin',∀q∈qC,q.1=p.1→Ae (ρ' p.1) (ρ p.1))∧(∀p∈qC,bn (aC (gU w2 keep (fun q=>q∈ah ρ hin)) w1 ρ' qC) p.1 p.2)∧(ah ρ' qC).Nodup∧ ∀q∈ah ρ' qC,w2.heap.size≤q∨q∈ah ρ hin)
  (g0.trans hu0) (g1.trans hu1) z1 (hcall.mono ?_) ?_).mono ?_
 · rintro e0 w1 ⟨u,ρ',rfl,a1,a2,a3,a4,a5,a6⟩
   obtain⟨vs,rfl,hvs⟩: ∃us:List Value,u= .tuple us.toArray∧aI _ [] us:=a3
   have:vs=[]:=List.eq_nil_of_length_eq_zero hvs.1.symm
   subst this
   exact⟨rfl,ρ',a1,a2,a4,a5,a6⟩
 · rintro w1 ⟨ρ',a1,a2,a4,a5,a6⟩
   obtain⟨b1,vs,e1,hh1,ha1⟩:=a4 _ List.mem_cons_self
   have e1:ρ' 0=_:=e1
   have hh1:w1.heap[b1]? =_:=hh1
   have h01:=a2 (0,.box t (.v (.int .u32 0):: .v (.int .i32 1)::rest)) List.mem_cons_self (0,.box t (.v (.int .u32 0):: .v (.int .i32 1)::rest')) List.mem_cons_self rfl
   have h01:=h01.hd
   dsimp only at h01
   rw[e1,e]at h01
   cases h01
   obtain⟨v0,hv0,hx0⟩:=ha1.get (i:=0) rfl
   obtain⟨v1,hv1,hx1⟩:=ha1.get (i:=1) rfl
   have hx0:v0=_:=hx0
   have hx1:v1=_:=hx1
   subst hx0 hx1
   obtain⟨q0,y0⟩:=nP (i:=0) hh1
   obtain⟨q1,y1⟩:=nP (i:=1) hh1
   exact⟨q0.trans hv0,q1.trans hv1,y0,y1⟩
 · rintro e0 w' ⟨rfl,w1,⟨ρ',a1,a2,a4,a5,a6⟩,rfl⟩
   obtain⟨b1,vs,e1,hh1,ha1⟩:=a4 _ List.mem_cons_self
   have e1:ρ' 0=_:=e1
   have hh1:w1.heap[b1]? =_:=hh1
   have ha1:aI (C0 (aC (gU w2 keep (fun q=>q∈ah ρ hin)) w1 ρ' qC)) _ vs:=ha1
   have h01:=a2 (0,.box t (.v (.int .u32 0):: .v (.int .i32 1)::rest)) List.mem_cons_self (0,.box t (.v (.int .u32 0):: .v (.int .i32 1)::rest')) List.mem_cons_self rfl
   have h01:=h01.hd
   dsimp only at h01
   rw[e1,e]at h01
   cases h01
   have aeZ:w1.drew.heap[b]? =_:=hh1
   obtain⟨p1,p2,p3,p4,p5,p6⟩:=wZ (i:=0) (.int .u32 1) aeZ
   obtain⟨r1,r2,r3,r4,r5,r6⟩:=wZ (i:=1) (.int .i32 0) p1
   let w3:=(w1.drew.setCell ⟨b,0,none⟩ (.int .u32 1)).setCell ⟨b,1,none⟩ (.int .i32 0)
   have hoth: ∀k,k≠b→w3.heap[k]? =w1.heap[k]? :=fun k hk=>(r2 k hk).trans (p2 k hk)
   have hsz:w3.heap.size=w1.heap.size:=r3.trans p3
   have afe:ah ρ' hout=ah ρ' qC:=rfl
   have hbo:b∈ah ρ' qC:=aQ.2 ⟨_,List.mem_cons_self,by show b∈blks (ρ' 0);rw[e1];exact List.mem_cons_self⟩
   have hkk: ∀q,aK (gU w2 keep (fun q=>q∈ah ρ hin)) w1 ρ' qC q→aK (gU w keep (fun q=>q∈ah ρ hin)) w3 ρ' hout q:=by
    rintro q ⟨k1,k2,k3⟩
    exact⟨by rw[hsz];exact k1,fun hlt=>k2 (by show q<w2.heap.size;rw[s3];exact hlt),k3⟩
   have hmm: ∀q,aK (gU w2 keep (fun q=>q∈ah ρ hin)) w1 ρ' qC q→w3.heap[q]? =w1.heap[q]? :=fun q hq=>hoth q fun e=>hq.2.2 (by rw[e];exact hbo)
   have hw2:w2.heap.size=w.heap.size:=s3
   refine⟨_,ρ',rfl,⟨?_, ?_, ?_, ?_,fun k hk hM=>?_⟩, ?_,⟨[],rfl,aI.nil⟩,fun p hp=>?_,a5,fun q hq=>by rw[←hw2];exact a6 q hq⟩
   · exact(r4.trans p4).trans (a1.os.trans s4)
   · exact(r5.trans p5).trans (a1.tape.trans s5)
   · exact(r6.trans p6).trans (a1.output.trans s6)
   · show w.heap.size≤w3.heap.size
     rw[hsz,←hw2];exact a1.size
   · have hkb:k≠b:=fun e=>hM (by rw[e];exact yK)
     exact(hoth k hkb).trans ((a1.block k (by rw[hw2];exact hk) hM).trans (s2 k hkb))
   · intro p hp q hq he
     rcases List.mem_cons.1 hp with rfl|hp
     · exact a2 (0,.box t (.v (.int .u32 0):: .v (.int .i32 1)::rest)) List.mem_cons_self (0,.box t (.v (.int .u32 0):: .v (.int .i32 1)::rest')) List.mem_cons_self rfl
     · rcases List.mem_cons.1 hq with rfl|hq
       · obtain rfl:=List.mem_singleton.1 hp
         cases he
       · exact a2 p (List.mem_cons_of_mem _ hp) q (List.mem_cons_of_mem _ hq) he
   · rcases List.mem_cons.1 hp with rfl|hp
     · refine⟨b,(vs.set 0 (.int .u32 1)).set 1 (.int .i32 0),e1,r1, ?_⟩
       exact((ha1.imp fun _ _=>C0.same (X:=aC (gU w2 keep (fun q=>q∈ah ρ hin)) w1 ρ' qC) (Y:=aC (gU w keep (fun q=>q∈ah ρ hin)) w3 ρ' hout) hkk hmm rfl).set 0 (x:= .v (.int .u32 1)) rfl).set 1 (x:= .v (.int .i32 0)) rfl
     · refine bn.same (X:=aC (gU w2 keep (fun q=>q∈ah ρ hin)) w1 ρ' qC) (Y:=aC (gU w keep (fun q=>q∈ah ρ hin)) w3 ρ' hout) hkk hmm rfl (fun q hq=>hoth q ?_) (a4 p (List.mem_cons_of_mem _ hp))
       rintro rfl
       have h0p:=fG a5 (0,.box t (.v (.int .u32 0):: .v (.int .i32 1)::rest')) List.mem_cons_self p (List.mem_cons_of_mem _ hp) (by show q∈blks (ρ' 0);rw[e1];exact List.mem_cons_self) hq
       rw[fH.2 ⟨p,hp,h0p.symm⟩]at hne
       cases hne
end
section
open Go.RowKit
def Ib (e a:Ev):Bool:=decide (a.k=1)&&aO a e
theorem iR (l:List Ev) (e:Ev) (hl:l.length≤140737488355328):
  aH Tryz.prog 161 [.sl 12 l.length true (dX l),e.av] (.v (.bool (l.any (Ib e)))) []:=by
 have hyes: ∀j,j<l.length→(l.getD j default).k=1→aO (l.getD j default) e=true→l.any (Ib e)=true:=fun j hj h1 h3=>LQ hj (by unfold Ib;rw[h1,h3];simp)
 have hno:(∀i,i<l.length→Ib e (l.getD i default)=false)→l.any (Ib e)=false:=fun h=>any_none h
 generalize l.any (Ib e)=R at hyes hno
 dsimp only[Ev.av]
 dsimp only[Ev.cs]
 refine K1.E 0x1b Tryz.func161 ?_
 repeat' ((conv=>whnf);first|refine K1.w ?_|refine K1.u ?_|refine K1.I 0x13 Tryz.func178 ?_|refine K1.I 0x103b3 Tryz.func196 ?_|refine aJ.dO ?_|refine K1.z ?_|refine K1.y (fun _=>?_) (fun _=>?_)|fail)
 conv=>whnf
 refine aN.mk {j:Nat//j≤l.length∧ ∀i,i<j→Ib e (l.getD i default)=false} (fun j=>⟨[(8,.v (.int .i64 (j.1:Int))),(7,.v (.int .i64 (l.length:Int))),(0,.sl 12 l.length true (dX l)),(1,.fn 189 [.box 0 0])],
   [(0,.box 42 e.cs)],[[],[]],1⟩) (fun j=>l.length-j.1) ⟨0,Nat.zero_le _,fun i h=>absurd h (Nat.not_lt_zero i)⟩ _
  (dL.mkB [] _ _ _ rfl ⟨aS.int rfl,aj,aj,aj,trivial⟩ ⟨aF rfl,trivial⟩ rfl) ?_
 rintro⟨j,hj,hall⟩
 dsimp only
 by_cases hjl:j<l.length
 · have hbj:=iZ (l.getD (j:Int).toNat default) e
   have hyj:=hyes j hjl
   rw[show j=(j:Int).toNat by omega]at hyj
   have hnj:(decide ((l.getD (j:Int).toNat default).k=1)&&aO (l.getD (j:Int).toNat default) e)=false→ ∀i,i<j+1→Ib e (l.getD i default)=false:=by
    intro h i hi
    rcases Nat.lt_or_ge i j with h'|h'
    · exact hall i h'
    · obtain rfl:i=j:=by omega
      rwa [show(i:Int).toNat=i by omega]at h
   dsimp only[Ev.av,Ev.cs]at hbj⊢
   generalize aO (l.getD (j:Int).toNat default) e=q2 at hbj hyj hnj
   repeat' ((conv=>whnf);first|refine K1.w ?_|refine K1.u ?_|refine K1.P1 hbj rfl ?_|refine K1.I 0xf Tryz.func189 ?_|refine aJ.dO ?_|refine K1.z ?_|refine K1.y (fun _=>?_) (fun _=>?_)|fail)
   all_goals(conv=>whnf)
   all_goals first
     |(rw[hyj (by assumption) (by assumption)];exact bF.mk (aj))
     |exact⟨⟨j+1,by omega,hnj (by first|(rw[decide_eq_false (by assumption)];rfl)|(rw[show q2=false by assumption];simp))⟩,_,dL.mk' [] _ _ _ rfl ⟨aS.int rfl,aj,aj,aj,trivial⟩ ⟨aF rfl,trivial⟩ rfl,by show l.length-(j+1)<l.length-j;omega⟩
 · have hR:R=false:=hno fun i hi=>hall i (by omega)
   repeat' ((conv=>whnf);first|refine K1.w ?_|refine K1.u ?_|refine aJ.dO ?_|refine K1.z ?_|refine K1.y (fun _=>?_) (fun _=>?_)|fail)
   all_goals(conv=>whnf)
   rw[hR]
   exact bF.mk (aj)
end
section
open Go.RowKit
def qR (l:List Ev) (a:Ev):Bool:=decide (a.k=1)||l.any (Ib a)
theorem PK (d:Nat) (l:List Ev) (r:Ev) (rs:List Ev) (hr:l.filter (qR l)=r::rs) (hl:l.length≤1000000000):
  aH Tryz.prog 158 [.sl 12 l.length true (dX l)] (.own d) [(d,.row 42 12 (rs.length+1) true (dX (r::rs)))]:=by
 refine K1.E 0x803ed Tryz.func158 ?_
 repeat' ((conv=>whnf);first|refine K1.w ?_|refine K1.u ?_|refine aJ.dO ?_|refine K1.z ?_|refine K1.y (fun _=>?_) (fun _=>?_)|fail)
 conv=>whnf
 refine aN.mk (LU (qR l) l) (fun x=>match x with
   | ⟨(j,[]),_⟩=>⟨[(0,.sl 12 l.length true (dX l)),(3,.v (.slice none 0 0)),(6,.sl 12 l.length true (dX l)),(7,.v (.int .i64 (l.length:Int))),(8,.v (.int .i64 (j:Int)))],
      [],[],1⟩
   | ⟨(j,y::ys),_⟩=>⟨[(0,.sl 12 l.length true (dX l)),(3,.own 90),(6,.sl 12 l.length true (dX l)),(7,.v (.int .i64 (l.length:Int))),(8,.v (.int .i64 (j:Int)))],
      [(90,.row 42 12 (ys.length+1) true (dX (y::ys)))],[],91⟩) (fun x=>l.length-x.1.1) ⟨(0,[]),Nat.zero_le _,rfl⟩ _
   (dL.mk' [] _ _ _ rfl ⟨aj,aj,aj,aS.int rfl,aS.int rfl,trivial⟩ trivial rfl) ?_
 rintro⟨⟨j,ys⟩,hj,hys⟩
 dsimp only at hj hys
 rcases ys with _|⟨y,ys⟩
 · dsimp only
   by_cases hjl:j<l.length
   · have hab:=iR l (l.getD (j:Int).toNat default) (by omega)
     have hft:=dw (p:=qR l) hjl
     rw[←hys,List.nil_append]at hft
     have hlv:qR l (l.getD j default)=(decide ((l.getD (j:Int).toNat default).k=1)||l.any (Ib (l.getD (j:Int).toNat default))):=by rw[show(j:Int).toNat=j by omega];rfl
     rw[hlv]at hft
     generalize l.any (Ib (l.getD (j:Int).toNat default))=q at hab hft
     have hq0: ¬ (l.getD (j:Int).toNat default).k=1→q=false→([]:List Ev)=(l.take (j+1)).filter (qR l):=fun h h'=>by rw[hft,decide_eq_false h,h'];simp
     have hq1:q=true→[l.getD j default]=(l.take (j+1)).filter (qR l):=fun h'=>by rw[hft,h'];simp
     have hk1:(l.getD (j:Int).toNat default).k=1→[l.getD j default]=(l.take (j+1)).filter (qR l):=fun h=>by rw[hft,decide_eq_true h];simp
     clear hft hlv
     dsimp only[Ev.av,Ev.cs]at hab⊢
     repeat' ((conv=>whnf);first|refine K1.w ?_|refine K1.u ?_|refine K1.P1 hab rfl ?_|refine aJ.dO ?_|refine K1.z ?_|refine K1.y (fun _=>?_) (fun _=>?_)|fail)
     all_goals(conv=>whnf)
     all_goals first
       |exact⟨⟨(j+1,[]),hjl,hq0 (by assumption) (by assumption)⟩,_,dL.mk' [] _ _ _ rfl ⟨aj,aj,aj,aS.int rfl,aS.int rfl,trivial⟩ trivial rfl,by show l.length-(j+1)<l.length-j;omega⟩
       | (refine⟨⟨(j+1,[l.getD j default]),hjl,by first|exact hq1 (by assumption)|exact hk1 (by assumption)⟩,_,dL.mk' [(3,90)] _ _ _ rfl ⟨aj,aj,aj,aS.int rfl,aS.int rfl,trivial⟩ ⟨⟨_,rfl,bW.row rfl (fun m hm=>?_)⟩,trivial⟩ rfl,by show l.length-(j+1)<l.length-j;omega⟩
          have hm:m<1:=hm
          obtain rfl:m=0:=by omega
          rfl)
   · have e:l.filter (qR l)=[]:=by rw[List.take_of_length_le (by omega)]at hys;exact hys.symm
     rw[hr]at e
     cases e
 · dsimp only
   have hyl:ys.length+1≤j:=by
    have h1:=congrArg List.length hys
    have h2:=List.length_filter_le (qR l) (l.take j)
    rw[List.length_take]at h2
    rw[List.length_cons]at h1
    omega
   by_cases hjl:j<l.length
   · have hab:=iR l (l.getD (j:Int).toNat default) (by omega)
     have hft:=dw (p:=qR l) hjl
     rw[←hys]at hft
     have hlv:qR l (l.getD j default)=(decide ((l.getD (j:Int).toNat default).k=1)||l.any (Ib (l.getD (j:Int).toNat default))):=by rw[show(j:Int).toNat=j by omega];rfl
     rw[hlv]at hft
     generalize l.any (Ib (l.getD (j:Int).toNat default))=q at hab hft
     have hq0: ¬ (l.getD (j:Int).toNat default).k=1→q=false→y::ys=(l.take (j+1)).filter (qR l):=fun h h'=>by rw[hft,decide_eq_false h,h'];simp
     have hq1:q=true→y::(ys++[l.getD j default])=(l.take (j+1)).filter (qR l):=fun h'=>by rw[hft,h'];simp
     have hk1:(l.getD (j:Int).toNat default).k=1→y::(ys++[l.getD j default])=(l.take (j+1)).filter (qR l):=fun h=>by rw[hft,decide_eq_true h];simp
     clear hft hlv
     dsimp only[Ev.av,Ev.cs]at hab⊢
     repeat' ((conv=>whnf);first|refine K1.w ?_|refine K1.u ?_|refine K1.P1 hab rfl ?_|refine aJ.dO ?_|refine K1.z ?_|refine K1.y (fun _=>?_) (fun _=>?_)|fail)
     all_goals(conv=>whnf)
     all_goals first
       |exact⟨⟨(j+1,y::ys),hjl,hq0 (by assumption) (by assumption)⟩,_,dL.mk' [] _ _ _ rfl ⟨aj,aj,aj,aS.int rfl,aS.int rfl,trivial⟩ ⟨aF rfl,trivial⟩ rfl,by show l.length-(j+1)<l.length-j;omega⟩
       | (refine⟨⟨(j+1,y::(ys++[l.getD j default])),hjl,by first|exact hq1 (by assumption)|exact hk1 (by assumption)⟩,_,dL.mk' [(93,90)] _ _ _ rfl ⟨aj,aj,aj,aS.int rfl,aS.int rfl,trivial⟩ ⟨⟨_,rfl,bW.row (by simp) (fun m hm=>?_)⟩,trivial⟩ rfl,by show l.length-(j+1)<l.length-j;omega⟩
          exact bJ (c:=Ev.cs) (l:=y::ys) rfl rfl m hm)
   · have e:l.filter (qR l)=y::ys:=by rw[List.take_of_length_le (by omega)]at hys;exact hys.symm
     rw[hr]at e
     cases e
     repeat' ((conv=>whnf);first|refine K1.w ?_|refine K1.u ?_|refine aJ.oz d rfl rfl (bW.refl _) (aj)|refine K1.z ?_|refine K1.y (fun _=>?_) (fun _=>?_)|fail)
theorem Ef (l:List Ev) (hr:l.filter (qR l)=[]) (hl:l.length≤1000000000):
  aH Tryz.prog 158 [.sl 12 l.length true (dX l)] (.v (.slice none 0 0)) []:=by
 refine K1.E 0x803ed Tryz.func158 ?_
 repeat' ((conv=>whnf);first|refine K1.w ?_|refine K1.u ?_|refine aJ.dO ?_|refine K1.z ?_|refine K1.y (fun _=>?_) (fun _=>?_)|fail)
 conv=>whnf
 refine aN.mk {j:Nat//j≤l.length} (fun j=>⟨[(0,.sl 12 l.length true (dX l)),(3,.v (.slice none 0 0)),(6,.sl 12 l.length true (dX l)),(7,.v (.int .i64 (l.length:Int))),(8,.v (.int .i64 (j.1:Int)))],
       [],[],1⟩) (fun j=>l.length-j.1) ⟨0,Nat.zero_le _⟩ _
  (dL.mk' [] _ _ _ rfl ⟨aj,aj,aj,aS.int rfl,aS.int rfl,trivial⟩ trivial rfl) ?_
 rintro⟨j,hj⟩
 dsimp only
 by_cases hjl:j<l.length
 · have hab:=iR l (l.getD (j:Int).toNat default) (by omega)
   have hlv:(decide ((l.getD (j:Int).toNat default).k=1)||l.any (Ib (l.getD (j:Int).toNat default)))=false:=by
    have hm:l.getD (j:Int).toNat default∈l:=by
     rw[show(j:Int).toNat=j by omega,List.getD,List.getElem?_eq_getElem hjl]
     exact List.getElem_mem _
    have:=List.filter_eq_nil_iff.1 hr _ hm
    simpa[qR]using this
   rw[Bool.or_eq_false_iff]at hlv
   have hk: ¬ (l.getD (j:Int).toNat default).k=1:=of_decide_eq_false hlv.1
   rw[hlv.2]at hab
   clear hlv
   dsimp only[Ev.av,Ev.cs]at hab⊢
   repeat' ((conv=>whnf);first|refine K1.w ?_|refine K1.u ?_|refine K1.P1 hab rfl ?_|refine aJ.dO ?_|refine K1.z ?_|refine K1.y (fun _=>?_) (fun _=>?_)|fail)
   all_goals(conv=>whnf)
   all_goals exact⟨⟨j+1,hjl⟩,_,dL.mk' [] _ _ _ rfl ⟨aj,aj,aj,aS.int rfl,aS.int rfl,trivial⟩ trivial rfl,by show l.length-(j+1)<l.length-j;omega⟩
 · repeat' ((conv=>whnf);first|refine K1.w ?_|refine K1.u ?_|refine aJ.dO ?_|refine K1.z ?_|refine K1.y (fun _=>?_) (fun _=>?_)|fail)
   conv=>whnf
   exact bF.mk (aj)
end
section
open Go.RowKit
abbrev jM (l:List Ev):AO:= .row 42 12 l.length true (dX l)
def bH (kind:Int) (same:Ev→Bool) (e a:Ev):Bool:= !decide (a.k=kind)||(!same a|| !aO a e)
theorem xg {kind:Int} {same:Ev→Bool} {e a:Ev} (h: ¬a.k=kind):bH kind same e a=true:=by unfold bH;rw[decide_eq_false h];rfl
theorem xq {kind:Int} {same:Ev→Bool} {e a:Ev} (h:same a=false):bH kind same e a=true:=by unfold bH;rw[h];simp
theorem xA {kind:Int} {same:Ev→Bool} {e a:Ev} (h:aO a e=false):bH kind same e a=true:=by unfold bH;rw[h];simp
theorem xB {kind:Int} {same:Ev→Bool} {e a:Ev} (h:a.k=kind) (h1:same a=true) (h2:aO a e=true):bH kind same e a=false:=by unfold bH;rw[decide_eq_true h,h1,h2];rfl
theorem xC (g:FuncId) (same:Ev→Bool) (kind:Int) (e:Ev) (hs: ∀a,aV Tryz.prog g [(0,.box 42 e.cs)] [a.av,.box 0 0] (.v (.bool (same a))) [(0,.box 42 e.cs)])
  (l:List Ev) (r:Ev) (rs:List Ev) (hr:l.filter (bH kind same e)=r::rs) (hl:l.length≤1000000000):
  aV Tryz.prog 159 [(0,.box 42 e.cs),(1,jM l)] [.own 1,e.av,.v (.int .i64 kind),.fn g [.box 0 0]] (.own 2) [(0,.box 42 e.cs),(2,.row 42 12 (rs.length+1) true (dX (r::rs)))]:=by
 dsimp only[Ev.av,Ev.cs]
 refine K1.M 0x20000fb2f Tryz.func159 10 ?_
 repeat' ((conv=>whnf);first|refine K1.w ?_|refine K1.u ?_|refine aJ.dO ?_|refine K1.z ?_|refine K1.y (fun _=>?_) (fun _=>?_)|fail)
 conv=>whnf
 refine aN.CB 1 rfl ?_
 refine aN.mk (LU (bH kind same e) l) (fun x=>match x with
   |⟨(j,[]),_⟩=>⟨[(0,.sl 12 l.length true (dX l)),(2,.v (.int .i64 kind)),(3,.fn g [.box 0 0]),(5,.box 10 0),(9,.v (.slice none 0 0)),(12,.sl 12 l.length true (dX l)),(13,.v (.int .i64 (l.length:Int))),(14,.v (.int .i64 (j:Int)))],[(10,.box 42 e.cs),(0,.box 42 e.cs)],[[(0,.box 0 0),(1,.sl 12 l.length true (dX l))]],11⟩
   |⟨(j,y::ys),_⟩=>⟨[(0,.sl 12 l.length true (dX l)),(2,.v (.int .i64 kind)),(3,.fn g [.box 0 0]),(5,.box 10 0),(9,.own 90),(12,.sl 12 l.length true (dX l)),(13,.v (.int .i64 (l.length:Int))),(14,.v (.int .i64 (j:Int)))],[(10,.box 42 e.cs),(0,.box 42 e.cs),(90,.row 42 12 (ys.length+1) true (dX (y::ys)))],[[(0,.box 0 0),(1,.sl 12 l.length true (dX l))]],91⟩) (fun x=>l.length-x.1.1) ⟨(0,[]),Nat.zero_le _,rfl⟩ _
   (dL.mk' [] _ _ _ rfl ⟨aj,aj,aj,aj,aj,aj,aS.int rfl,aS.int rfl,trivial⟩ ⟨aF rfl,aF rfl,trivial⟩ rfl) ?_
 rintro⟨⟨j,ys⟩,hj,hys⟩
 dsimp only at hj hys
 rcases ys with _|⟨y,ys⟩
 · dsimp only
   by_cases hjl:j<l.length
   · have hab:=hs (l.getD (j:Int).toNat default)
     have hbb:=iZ (l.getD (j:Int).toNat default) e
     have hft:=dw (p:=bH kind same e) hjl
     rw[←hys,List.nil_append]at hft
     rw[show l.getD j default=l.getD (j:Int).toNat default from rfl]at hft
     have hk: ¬ (l.getD (j:Int).toNat default).k=kind→[l.getD j default]=(l.take (j+1)).filter (bH kind same e):=fun h=>by rw[hft,xg h];rfl
     have hsm:same (l.getD (j:Int).toNat default)=false→[l.getD j default]=(l.take (j+1)).filter (bH kind same e):=fun h=>by rw[hft,xq h];rfl
     have hbl:aO (l.getD (j:Int).toNat default) e=false→[l.getD j default]=(l.take (j+1)).filter (bH kind same e):=fun h=>by rw[hft,xA h];rfl
     have hno:(l.getD (j:Int).toNat default).k=kind→same (l.getD (j:Int).toNat default)=true→aO (l.getD (j:Int).toNat default) e=true→[]=(l.take (j+1)).filter (bH kind same e):=fun h h1 h2=>by rw[hft,xB h h1 h2];simp
     clear hft
     generalize same (l.getD (j:Int).toNat default)=q1 at hab hsm hno
     generalize aO (l.getD (j:Int).toNat default) e=q2 at hbb hbl hno
     dsimp only[Ev.av,Ev.cs]at hab hbb⊢
     repeat' ((conv=>whnf);first|refine K1.w ?_|refine K1.u ?_|refine K1.C 1 [(0,_)] (hab) rfl ?_|refine K1.P1 hbb rfl ?_|refine aJ.dO ?_|refine K1.z ?_|refine K1.y (fun _=>?_) (fun _=>?_)|fail)
     all_goals(conv=>whnf)
     all_goals first
       |exact⟨⟨(j+1,[]),hjl,hno (by assumption) (by assumption) (by assumption)⟩,_,dL.mk' [] _ _ _ rfl ⟨aj,aj,aj,aj,aj,aj,aS.int rfl,aS.int rfl,trivial⟩ ⟨aF rfl,aF rfl,trivial⟩ rfl,by show l.length-(j+1)<l.length-j;omega⟩
       | (refine⟨⟨(j+1,[l.getD j default]),hjl,by first|exact hk (by assumption)|exact hsm (by assumption)|exact hbl (by assumption)⟩,_,dL.mk' [(12,90)] _ _ _ rfl ⟨aj,aj,aj,aj,aj,aj,aS.int rfl,aS.int rfl,trivial⟩ ⟨aF rfl,aF rfl,⟨_,rfl,bW.row rfl (fun m hm=>?_)⟩,trivial⟩ rfl,by show l.length-(j+1)<l.length-j;omega⟩
          have hm:m<1:=hm
          obtain rfl:m=0:=by omega
          rfl)
       | (refine⟨⟨(j+1,[l.getD j default]),hjl,by first|exact hk (by assumption)|exact hsm (by assumption)|exact hbl (by assumption)⟩,_,dL.mk' [(13,90)] _ _ _ rfl ⟨aj,aj,aj,aj,aj,aj,aS.int rfl,aS.int rfl,trivial⟩ ⟨aF rfl,aF rfl,⟨_,rfl,bW.row rfl (fun m hm=>?_)⟩,trivial⟩ rfl,by show l.length-(j+1)<l.length-j;omega⟩
          have hm:m<1:=hm
          obtain rfl:m=0:=by omega
          rfl)
       | (refine⟨⟨(j+1,[l.getD j default]),hjl,by first|exact hk (by assumption)|exact hsm (by assumption)|exact hbl (by assumption)⟩,_,dL.mk' [(14,90)] _ _ _ rfl ⟨aj,aj,aj,aj,aj,aj,aS.int rfl,aS.int rfl,trivial⟩ ⟨aF rfl,aF rfl,⟨_,rfl,bW.row rfl (fun m hm=>?_)⟩,trivial⟩ rfl,by show l.length-(j+1)<l.length-j;omega⟩
          have hm:m<1:=hm
          obtain rfl:m=0:=by omega
          rfl)
       | (refine⟨⟨(j+1,[l.getD j default]),hjl,by first|exact hk (by assumption)|exact hsm (by assumption)|exact hbl (by assumption)⟩,_,dL.mk' [(15,90)] _ _ _ rfl ⟨aj,aj,aj,aj,aj,aj,aS.int rfl,aS.int rfl,trivial⟩ ⟨aF rfl,aF rfl,⟨_,rfl,bW.row rfl (fun m hm=>?_)⟩,trivial⟩ rfl,by show l.length-(j+1)<l.length-j;omega⟩
          have hm:m<1:=hm
          obtain rfl:m=0:=by omega
          rfl)
   · have e0:l.filter (bH kind same e)=[]:=by rw[List.take_of_length_le (by omega)]at hys;exact hys.symm
     rw[hr]at e0
     cases e0
 · dsimp only
   have hyl:ys.length+1≤j:=by
    have h1:=congrArg List.length hys
    have h2:=List.length_filter_le (bH kind same e) (l.take j)
    rw[List.length_take]at h2
    rw[List.length_cons]at h1
    omega
   by_cases hjl:j<l.length
   · have hab:=hs (l.getD (j:Int).toNat default)
     have hbb:=iZ (l.getD (j:Int).toNat default) e
     have hft:=dw (p:=bH kind same e) hjl
     rw[←hys]at hft
     rw[show l.getD j default=l.getD (j:Int).toNat default from rfl]at hft
     have hk: ¬ (l.getD (j:Int).toNat default).k=kind→y::(ys++[l.getD j default])=(l.take (j+1)).filter (bH kind same e):=fun h=>by rw[hft,xg h];rfl
     have hsm:same (l.getD (j:Int).toNat default)=false→y::(ys++[l.getD j default])=(l.take (j+1)).filter (bH kind same e):=fun h=>by rw[hft,xq h];rfl
     have hbl:aO (l.getD (j:Int).toNat default) e=false→y::(ys++[l.getD j default])=(l.take (j+1)).filter (bH kind same e):=fun h=>by rw[hft,xA h];rfl
     have hno:(l.getD (j:Int).toNat default).k=kind→same (l.getD (j:Int).toNat default)=true→aO (l.getD (j:Int).toNat default) e=true→y::ys=(l.take (j+1)).filter (bH kind same e):=fun h h1 h2=>by rw[hft,xB h h1 h2];simp
     clear hft
     generalize same (l.getD (j:Int).toNat default)=q1 at hab hsm hno
     generalize aO (l.getD (j:Int).toNat default) e=q2 at hbb hbl hno
     dsimp only[Ev.av,Ev.cs]at hab hbb⊢
     repeat' ((conv=>whnf);first|refine K1.w ?_|refine K1.u ?_|refine K1.C 1 [(0,_)] (hab) rfl ?_|refine K1.P1 hbb rfl ?_|refine aJ.dO ?_|refine K1.z ?_|refine K1.y (fun _=>?_) (fun _=>?_)|fail)
     all_goals(conv=>whnf)
     all_goals first
       |exact⟨⟨(j+1,y::ys),hjl,hno (by assumption) (by assumption) (by assumption)⟩,_,dL.mk' [] _ _ _ rfl ⟨aj,aj,aj,aj,aj,aj,aS.int rfl,aS.int rfl,trivial⟩ ⟨aF rfl,aF rfl,aF rfl,trivial⟩ rfl,by show l.length-(j+1)<l.length-j;omega⟩
       | (refine⟨⟨(j+1,y::(ys++[l.getD j default])),hjl,by first|exact hk (by assumption)|exact hsm (by assumption)|exact hbl (by assumption)⟩,_,dL.mk' [(92,90)] _ _ _ rfl ⟨aj,aj,aj,aj,aj,aj,aS.int rfl,aS.int rfl,trivial⟩ ⟨aF rfl,aF rfl,⟨_,rfl,bW.row (by simp) (fun m hm=>?_)⟩,trivial⟩ rfl,by show l.length-(j+1)<l.length-j;omega⟩
          exact bJ (c:=Ev.cs) (l:=y::ys) rfl rfl m hm)
       | (refine⟨⟨(j+1,y::(ys++[l.getD j default])),hjl,by first|exact hk (by assumption)|exact hsm (by assumption)|exact hbl (by assumption)⟩,_,dL.mk' [(93,90)] _ _ _ rfl ⟨aj,aj,aj,aj,aj,aj,aS.int rfl,aS.int rfl,trivial⟩ ⟨aF rfl,aF rfl,⟨_,rfl,bW.row (by simp) (fun m hm=>?_)⟩,trivial⟩ rfl,by show l.length-(j+1)<l.length-j;omega⟩
          exact bJ (c:=Ev.cs) (l:=y::ys) rfl rfl m hm)
       | (refine⟨⟨(j+1,y::(ys++[l.getD j default])),hjl,by first|exact hk (by assumption)|exact hsm (by assumption)|exact hbl (by assumption)⟩,_,dL.mk' [(94,90)] _ _ _ rfl ⟨aj,aj,aj,aj,aj,aj,aS.int rfl,aS.int rfl,trivial⟩ ⟨aF rfl,aF rfl,⟨_,rfl,bW.row (by simp) (fun m hm=>?_)⟩,trivial⟩ rfl,by show l.length-(j+1)<l.length-j;omega⟩
          exact bJ (c:=Ev.cs) (l:=y::ys) rfl rfl m hm)
       | (refine⟨⟨(j+1,y::(ys++[l.getD j default])),hjl,by first|exact hk (by assumption)|exact hsm (by assumption)|exact hbl (by assumption)⟩,_,dL.mk' [(95,90)] _ _ _ rfl ⟨aj,aj,aj,aj,aj,aj,aS.int rfl,aS.int rfl,trivial⟩ ⟨aF rfl,aF rfl,⟨_,rfl,bW.row (by simp) (fun m hm=>?_)⟩,trivial⟩ rfl,by show l.length-(j+1)<l.length-j;omega⟩
          exact bJ (c:=Ev.cs) (l:=y::ys) rfl rfl m hm)
   · have e0:l.filter (bH kind same e)=y::ys:=by rw[List.take_of_length_le (by omega)]at hys;exact hys.symm
     rw[hr]at e0
     cases e0
     repeat' ((conv=>whnf);first|refine K1.w ?_|refine K1.u ?_|refine aJ.dO ?_|refine K1.z ?_|refine K1.y (fun _=>?_) (fun _=>?_)|fail)
     conv=>whnf
     exact⟨[(90,2)],rfl,rfl,⟨aF rfl,aF rfl,trivial⟩,rfl,rfl,aj⟩
theorem xE (g:FuncId) (same:Ev→Bool) (kind:Int) (e:Ev) (hs: ∀a,aV Tryz.prog g [(0,.box 42 e.cs)] [a.av,.box 0 0] (.v (.bool (same a))) [(0,.box 42 e.cs)])
  (l:List Ev) (hr:l.filter (bH kind same e)=[]) (hl:l.length≤1000000000):
  aV Tryz.prog 159 [(0,.box 42 e.cs),(1,jM l)] [.own 1,e.av,.v (.int .i64 kind),.fn g [.box 0 0]] (.v (.slice none 0 0)) [(0,.box 42 e.cs)]:=by
 dsimp only[Ev.av,Ev.cs]
 refine K1.M 0x20000fb2f Tryz.func159 10 ?_
 repeat' ((conv=>whnf);first|refine K1.w ?_|refine K1.u ?_|refine aJ.dO ?_|refine K1.z ?_|refine K1.y (fun _=>?_) (fun _=>?_)|fail)
 conv=>whnf
 refine aN.CB 1 rfl ?_
 refine aN.mk (LU (bH kind same e) l) (fun x=>match x with
   |⟨(j,[]),_⟩=>⟨[(0,.sl 12 l.length true (dX l)),(2,.v (.int .i64 kind)),(3,.fn g [.box 0 0]),(5,.box 10 0),(9,.v (.slice none 0 0)),(12,.sl 12 l.length true (dX l)),(13,.v (.int .i64 (l.length:Int))),(14,.v (.int .i64 (j:Int)))],[(10,.box 42 e.cs),(0,.box 42 e.cs)],[[(0,.box 0 0),(1,.sl 12 l.length true (dX l))]],11⟩
   |⟨(j,y::ys),_⟩=>⟨[(0,.sl 12 l.length true (dX l)),(2,.v (.int .i64 kind)),(3,.fn g [.box 0 0]),(5,.box 10 0),(9,.own 90),(12,.sl 12 l.length true (dX l)),(13,.v (.int .i64 (l.length:Int))),(14,.v (.int .i64 (j:Int)))],[(10,.box 42 e.cs),(0,.box 42 e.cs),(90,.row 42 12 (ys.length+1) true (dX (y::ys)))],[[(0,.box 0 0),(1,.sl 12 l.length true (dX l))]],91⟩) (fun x=>l.length-x.1.1) ⟨(0,[]),Nat.zero_le _,rfl⟩ _
   (dL.mk' [] _ _ _ rfl ⟨aj,aj,aj,aj,aj,aj,aS.int rfl,aS.int rfl,trivial⟩ ⟨aF rfl,aF rfl,trivial⟩ rfl) ?_
 rintro⟨⟨j,ys⟩,hj,hys⟩
 dsimp only at hj hys
 rcases ys with _|⟨y,ys⟩
 · dsimp only
   by_cases hjl:j<l.length
   · have hab:=hs (l.getD (j:Int).toNat default)
     have hbb:=iZ (l.getD (j:Int).toNat default) e
     have hft:=dw (p:=bH kind same e) hjl
     rw[←hys,List.nil_append]at hft
     rw[show l.getD j default=l.getD (j:Int).toNat default from rfl]at hft
     have hk: ¬ (l.getD (j:Int).toNat default).k=kind→[l.getD j default]=(l.take (j+1)).filter (bH kind same e):=fun h=>by rw[hft,xg h];rfl
     have hsm:same (l.getD (j:Int).toNat default)=false→[l.getD j default]=(l.take (j+1)).filter (bH kind same e):=fun h=>by rw[hft,xq h];rfl
     have hbl:aO (l.getD (j:Int).toNat default) e=false→[l.getD j default]=(l.take (j+1)).filter (bH kind same e):=fun h=>by rw[hft,xA h];rfl
     have hno:(l.getD (j:Int).toNat default).k=kind→same (l.getD (j:Int).toNat default)=true→aO (l.getD (j:Int).toNat default) e=true→[]=(l.take (j+1)).filter (bH kind same e):=fun h h1 h2=>by rw[hft,xB h h1 h2];simp
     clear hft
     generalize same (l.getD (j:Int).toNat default)=q1 at hab hsm hno
     generalize aO (l.getD (j:Int).toNat default) e=q2 at hbb hbl hno
     dsimp only[Ev.av,Ev.cs]at hab hbb⊢
     repeat' ((conv=>whnf);first|refine K1.w ?_|refine K1.u ?_|refine K1.C 1 [(0,_)] (hab) rfl ?_|refine K1.P1 hbb rfl ?_|refine aJ.dO ?_|refine K1.z ?_|refine K1.y (fun _=>?_) (fun _=>?_)|fail)
     all_goals(conv=>whnf)
     all_goals first
       |exact⟨⟨(j+1,[]),hjl,hno (by assumption) (by assumption) (by assumption)⟩,_,dL.mk' [] _ _ _ rfl ⟨aj,aj,aj,aj,aj,aj,aS.int rfl,aS.int rfl,trivial⟩ ⟨aF rfl,aF rfl,trivial⟩ rfl,by show l.length-(j+1)<l.length-j;omega⟩
       | (refine⟨⟨(j+1,[l.getD j default]),hjl,by first|exact hk (by assumption)|exact hsm (by assumption)|exact hbl (by assumption)⟩,_,dL.mk' [(12,90)] _ _ _ rfl ⟨aj,aj,aj,aj,aj,aj,aS.int rfl,aS.int rfl,trivial⟩ ⟨aF rfl,aF rfl,⟨_,rfl,bW.row rfl (fun m hm=>?_)⟩,trivial⟩ rfl,by show l.length-(j+1)<l.length-j;omega⟩
          have hm:m<1:=hm
          obtain rfl:m=0:=by omega
          rfl)
       | (refine⟨⟨(j+1,[l.getD j default]),hjl,by first|exact hk (by assumption)|exact hsm (by assumption)|exact hbl (by assumption)⟩,_,dL.mk' [(13,90)] _ _ _ rfl ⟨aj,aj,aj,aj,aj,aj,aS.int rfl,aS.int rfl,trivial⟩ ⟨aF rfl,aF rfl,⟨_,rfl,bW.row rfl (fun m hm=>?_)⟩,trivial⟩ rfl,by show l.length-(j+1)<l.length-j;omega⟩
          have hm:m<1:=hm
          obtain rfl:m=0:=by omega
          rfl)
       | (refine⟨⟨(j+1,[l.getD j default]),hjl,by first|exact hk (by assumption)|exact hsm (by assumption)|exact hbl (by assumption)⟩,_,dL.mk' [(14,90)] _ _ _ rfl ⟨aj,aj,aj,aj,aj,aj,aS.int rfl,aS.int rfl,trivial⟩ ⟨aF rfl,aF rfl,⟨_,rfl,bW.row rfl (fun m hm=>?_)⟩,trivial⟩ rfl,by show l.length-(j+1)<l.length-j;omega⟩
          have hm:m<1:=hm
          obtain rfl:m=0:=by omega
          rfl)
       | (refine⟨⟨(j+1,[l.getD j default]),hjl,by first|exact hk (by assumption)|exact hsm (by assumption)|exact hbl (by assumption)⟩,_,dL.mk' [(15,90)] _ _ _ rfl ⟨aj,aj,aj,aj,aj,aj,aS.int rfl,aS.int rfl,trivial⟩ ⟨aF rfl,aF rfl,⟨_,rfl,bW.row rfl (fun m hm=>?_)⟩,trivial⟩ rfl,by show l.length-(j+1)<l.length-j;omega⟩
          have hm:m<1:=hm
          obtain rfl:m=0:=by omega
          rfl)
   · repeat' ((conv=>whnf);first|refine K1.w ?_|refine K1.u ?_|refine aJ.dO ?_|refine K1.z ?_|refine K1.y (fun _=>?_) (fun _=>?_)|fail)
     conv=>whnf
     exact⟨[],rfl,rfl,⟨aF rfl,trivial⟩,rfl,rfl,aj⟩
 · dsimp only
   have hyl:ys.length+1≤j:=by
    have h1:=congrArg List.length hys
    have h2:=List.length_filter_le (bH kind same e) (l.take j)
    rw[List.length_take]at h2
    rw[List.length_cons]at h1
    omega
   by_cases hjl:j<l.length
   · have hab:=hs (l.getD (j:Int).toNat default)
     have hbb:=iZ (l.getD (j:Int).toNat default) e
     have hft:=dw (p:=bH kind same e) hjl
     rw[←hys]at hft
     rw[show l.getD j default=l.getD (j:Int).toNat default from rfl]at hft
     have hk: ¬ (l.getD (j:Int).toNat default).k=kind→y::(ys++[l.getD j default])=(l.take (j+1)).filter (bH kind same e):=fun h=>by rw[hft,xg h];rfl
     have hsm:same (l.getD (j:Int).toNat default)=false→y::(ys++[l.getD j default])=(l.take (j+1)).filter (bH kind same e):=fun h=>by rw[hft,xq h];rfl
     have hbl:aO (l.getD (j:Int).toNat default) e=false→y::(ys++[l.getD j default])=(l.take (j+1)).filter (bH kind same e):=fun h=>by rw[hft,xA h];rfl
     have hno:(l.getD (j:Int).toNat default).k=kind→same (l.getD (j:Int).toNat default)=true→aO (l.getD (j:Int).toNat default) e=true→y::ys=(l.take (j+1)).filter (bH kind same e):=fun h h1 h2=>by rw[hft,xB h h1 h2];simp
     clear hft
     generalize same (l.getD (j:Int).toNat default)=q1 at hab hsm hno
     generalize aO (l.getD (j:Int).toNat default) e=q2 at hbb hbl hno
     dsimp only[Ev.av,Ev.cs]at hab hbb⊢
     repeat' ((conv=>whnf);first|refine K1.w ?_|refine K1.u ?_|refine K1.C 1 [(0,_)] (hab) rfl ?_|refine K1.P1 hbb rfl ?_|refine aJ.dO ?_|refine K1.z ?_|refine K1.y (fun _=>?_) (fun _=>?_)|fail)
     all_goals(conv=>whnf)
     all_goals first
       |exact⟨⟨(j+1,y::ys),hjl,hno (by assumption) (by assumption) (by assumption)⟩,_,dL.mk' [] _ _ _ rfl ⟨aj,aj,aj,aj,aj,aj,aS.int rfl,aS.int rfl,trivial⟩ ⟨aF rfl,aF rfl,aF rfl,trivial⟩ rfl,by show l.length-(j+1)<l.length-j;omega⟩
       | (refine⟨⟨(j+1,y::(ys++[l.getD j default])),hjl,by first|exact hk (by assumption)|exact hsm (by assumption)|exact hbl (by assumption)⟩,_,dL.mk' [(92,90)] _ _ _ rfl ⟨aj,aj,aj,aj,aj,aj,aS.int rfl,aS.int rfl,trivial⟩ ⟨aF rfl,aF rfl,⟨_,rfl,bW.row (by simp) (fun m hm=>?_)⟩,trivial⟩ rfl,by show l.length-(j+1)<l.length-j;omega⟩
          exact bJ (c:=Ev.cs) (l:=y::ys) rfl rfl m hm)
       | (refine⟨⟨(j+1,y::(ys++[l.getD j default])),hjl,by first|exact hk (by assumption)|exact hsm (by assumption)|exact hbl (by assumption)⟩,_,dL.mk' [(93,90)] _ _ _ rfl ⟨aj,aj,aj,aj,aj,aj,aS.int rfl,aS.int rfl,trivial⟩ ⟨aF rfl,aF rfl,⟨_,rfl,bW.row (by simp) (fun m hm=>?_)⟩,trivial⟩ rfl,by show l.length-(j+1)<l.length-j;omega⟩
          exact bJ (c:=Ev.cs) (l:=y::ys) rfl rfl m hm)
       | (refine⟨⟨(j+1,y::(ys++[l.getD j default])),hjl,by first|exact hk (by assumption)|exact hsm (by assumption)|exact hbl (by assumption)⟩,_,dL.mk' [(94,90)] _ _ _ rfl ⟨aj,aj,aj,aj,aj,aj,aS.int rfl,aS.int rfl,trivial⟩ ⟨aF rfl,aF rfl,⟨_,rfl,bW.row (by simp) (fun m hm=>?_)⟩,trivial⟩ rfl,by show l.length-(j+1)<l.length-j;omega⟩
          exact bJ (c:=Ev.cs) (l:=y::ys) rfl rfl m hm)
       | (refine⟨⟨(j+1,y::(ys++[l.getD j default])),hjl,by first|exact hk (by assumption)|exact hsm (by assumption)|exact hbl (by assumption)⟩,_,dL.mk' [(95,90)] _ _ _ rfl ⟨aj,aj,aj,aj,aj,aj,aS.int rfl,aS.int rfl,trivial⟩ ⟨aF rfl,aF rfl,⟨_,rfl,bW.row (by simp) (fun m hm=>?_)⟩,trivial⟩ rfl,by show l.length-(j+1)<l.length-j;omega⟩
          exact bJ (c:=Ev.cs) (l:=y::ys) rfl rfl m hm)
   · have e0:l.filter (bH kind same e)=y::ys:=by rw[List.take_of_length_le (by omega)]at hys;exact hys.symm
     rw[hr]at e0
     cases e0
end
end Go.Proofs.YtimhagicagdkfaaGreat
