/-
  Contracts of the walk:AmO,PmO,EvEq,Mk2,NdA,NdB,NdC.
-/
import Derived.Test.YtimhagicagdkfaaGreatNf6
import Derived.Test.YtimhagicagdkfaaGreatNf9
import Derived.Laws.StructEq
import Derived.Laws.Cover2
import Derived.Test.YtimhagicagdkfaaGreatNf10
set_option linter.unusedVariables false
set_option linter.unusedSimpArgs false
set_option maxHeartbeats 16000000
set_option maxRecDepth 100000
namespace Go.Proofs.YtimhagicagdkfaaGreat
section
open Go.RowKit
def Opens (o:OB) (j:Nat) {Y:Type} (hs:Y→List (Nat×AO)):Prop:=
 ∀ (w:World) (k:Nat→Prop) (v:Value),o.R w k v→ ∃ (y:Y) (ρ:Nat→Value),eF (ρ j)=eF v∧(ah ρ (hs y)).Perm (blks v)∧ ∀p∈hs y,bg ⟨w,k,ρ⟩ p.1 p.2
def Closes (hs:List (Nat×AO)) (j:Nat) (o:OB):Prop:=
 ∀ (w:World) (k:Nat→Prop) (ρ:Nat→Value),(ah ρ hs).Nodup→(∀p∈hs,bg ⟨w,k,ρ⟩ p.1 p.2)→ ∃us,o.R w k (.tuple us)∧eF (.tuple us)=eF (ρ j)∧ ∀b∈blks (.tuple us),b∈ah ρ hs
def Tf (q:Nat→Bool) (j:Nat):AV→Bool
  | .own i=>q i||Nat.beq i j
  | .box i _=>q i||Nat.beq i j
  | .dN i .. =>q i
  | .jh i .. =>q i||Nat.beq i j
  | .cf _ i _=>q i||Nat.beq i j
  |_=>true
def FY (q:Nat→Bool) (j:Nat):AV→Bool
  | .agg cs=>cs.all (Tf q j)
  | .fn _ cs=>cs.all (Tf q j)
  |x=>Tf q j x
def kD (q:Nat→Bool) (j:Nat):AV→Bool
  | .dM vs=>vs.all (FY q j)
  |x=>FY q j x
section
variable {X Y:CX} {q:Nat→Bool} {j:Nat} (hk: ∀b,X.keep b→Y.keep b) (hm:Y.w=X.w) (hρ: ∀i,q i=true→Y.ρ i=X.ρ i) (hj:eF (Y.ρ j)=eF (X.ρ j))
include hk hm hρ hj
theorem C0.mV {av:AV} {u:Value} (hr:Tf q j av=true) (hc:C0 X av u):C0 Y av u:=by
 have hmm: ∀b,X.keep b→Y.w.heap[b]? =X.w.heap[b]? :=fun _ _=>by rw[hm]
 have hh: ∀i,(q i||Nat.beq i j)=true→eF (Y.ρ i)=eF (X.ρ i):=fun i h=>by
  simp only[Bool.or_eq_true]at h
  rcases h with h|h
  · rw[hρ i h]
  · rw[Nat.eq_of_beq_eq_true h];exact hj
 cases av with
 |own id=>exact(show u=eF (X.ρ id)from hc).trans (hh id hr).symm
 |dN id s i k=>obtain⟨b,n,c,h1,h2⟩:=hc;exact⟨b,n,c,(hρ id hr).trans h1,h2⟩
 |jh id s i k=>exact Or.imp (fun⟨b,c,h1,h2⟩=>⟨b,c,(congrArg jF (hh id hr)).trans h1,h2⟩) _root_.id hc
 |box id off=>obtain⟨b,h1,h2⟩:=hc;exact⟨b,(hh id hr).trans h1,h2⟩
 |cf gg id off=>obtain⟨b,h1,h2⟩:=hc;exact⟨b,(hh id hr).trans h1,h2⟩
 | el cs k=>
   obtain⟨b,o,us,e,kb,ha,hcell⟩:=hc
   exact⟨b,o,us,e,hk b kb,ha.imp (fun _ _=>PC.mono hk hmm),fun j y hj=>(World.cell?_of_block (hmm b kb)).trans (hcell j y hj)⟩
 |sl s n sc f=>exact PC.mono hk hmm hc
 |v x=>exact hc
 |junk=>trivial
 |agg cs=>exact hc
 |dM cs=>exact hc
 |fn g caps=>exact hc
theorem C1.mV {av:AV} {u:Value} (hr:FY q j av=true) (hc:C1 X av u):C1 Y av u:=by
 cases av with
 |agg cs=>obtain⟨us,e,ha⟩:=hc;exact⟨us,e,ha.H7 hr fun _ _ q k=>C0.mV hk hm hρ hj q k⟩
 |fn g cs=>obtain⟨us,e,ha⟩:=hc;exact⟨us,e,ha.H7 hr fun _ _ q k=>C0.mV hk hm hρ hj q k⟩
 |own id=>exact C1.sD (C0.mV hk hm hρ hj (av:= .own id) hr hc)
 |dN id s i k=>exact C1.sD (C0.mV hk hm hρ hj (av:= .dN id s i k) hr hc)
 |jh id s i k=>exact C1.sD (C0.mV hk hm hρ hj (av:= .jh id s i k) hr hc)
 |box id k=>exact C1.sD (C0.mV hk hm hρ hj (av:= .box id k) hr hc)
 |cf gg id k=>exact C1.sD (C0.mV hk hm hρ hj (av:= .cf gg id k) hr hc)
 |el cs k=>exact C1.sD (C0.mV hk hm hρ hj (av:= .el cs k) hr hc)
 |sl s n sc f=>exact C1.sD (C0.mV hk hm hρ hj (av:= .sl s n sc f) hr hc)
 |v x=>exact hc
 |junk=>trivial
 |dM cs=>exact hc
theorem C2.mV {av:AV} {u:Value} (hr:kD q j av=true) (hc:C2 X av u):C2 Y av u:=by
 cases av with
 |dM vs=>obtain⟨us,e,ha⟩:=hc;exact⟨us,e,ha.H7 hr fun _ _ q k=>C1.mV hk hm hρ hj q k⟩
 |agg cs=>exact C2.jK (C1.mV hk hm hρ hj (av:= .agg cs) hr hc)
 |fn g cs=>exact C2.jK (C1.mV hk hm hρ hj (av:= .fn g cs) hr hc)
 |own id=>exact C2.jK (C1.mV hk hm hρ hj (av:= .own id) hr hc)
 |dN id s i k=>exact C2.jK (C1.mV hk hm hρ hj (av:= .dN id s i k) hr hc)
 |jh id s i k=>exact C2.jK (C1.mV hk hm hρ hj (av:= .jh id s i k) hr hc)
 |box id k=>exact C2.jK (C1.mV hk hm hρ hj (av:= .box id k) hr hc)
 |cf gg id k=>exact C2.jK (C1.mV hk hm hρ hj (av:= .cf gg id k) hr hc)
 |el cs k=>exact C2.jK (C1.mV hk hm hρ hj (av:= .el cs k) hr hc)
 |sl s n sc f=>exact C2.jK (C1.mV hk hm hρ hj (av:= .sl s n sc f) hr hc)
 |v x=>exact hc
 |junk=>trivial
end
theorem rW (ρ:Nat→Value) (p:Nat×AO):ah ρ [p]=blks (ρ p.1):=by rw[aT];simp[ah]
theorem aY.opn {P:Program} {f:FuncId} {o o':OB} {j:Nat} {Y:Type} {hs:Y→List (Nat×AO)} {bP:List AV} {r:AV} {ho:List (Nat×AO)} (hE:Enters P f) (hO:Opens o j hs)
  (h: ∀y,∃hs',Closes hs' j o'∧gq j (hs y)=true∧gq j hs'=true∧aY P f (hs y) bP r (hs'++ho))
  (hb:(bP.all (FY (fun _=>false) j)&&kD (fun i=>gq i ho) j r&&jP ho ho&& !(gq j ho))=true):aY P f [(j,.obs o)] bP r ((j,.obs o')::ho):=by
 simp only[Bool.and_eq_true,Bool.not_eq_true']at hb
 obtain⟨⟨⟨hav,hrr⟩,hcl⟩,hne⟩:=hb
 refine⟨hE,fun w keep ρ args hkeep mD hnd hbl hargs=> ?_⟩
 obtain⟨us,eu,hR⟩:=mD _ (List.mem_singleton.2 rfl)
 have eu:ρ j= .tuple us:=eu
 have hR:o.R w keep (ρ j):=hR
 have hsb:=rW ρ (j,.obs o)
 rw[hsb]at hnd hbl
 obtain⟨y,ρ',hhd,hperm,hok⟩:=hO w keep (ρ j) hR
 obtain⟨hs',hC,hj1,hj2,hM⟩:=h y
 have hmem: ∀b,b∈ah ρ' (hs y)↔b∈blks (ρ j):=fun b=>hperm.mem_iff
 refine(hM.2 w keep ρ' args hkeep hok (hperm.nodup_iff.2 hnd) (fun b hb=>hbl b ((hmem b).1 hb)) (hargs.H7 hav fun _ _ q k=>C1.mV (X:=⟨w,keep,ρ⟩) (Y:=⟨w,keep,ρ'⟩) (fun _ h=>h) rfl (fun _ h=>by cases h) hhd q k)).mono ?_
 rintro e w' ⟨u,Ii,rfl,hbel,hfix,hc,hout,hnd',hnew⟩
 rw[gJ,List.nodup_append]at hnd'
 obtain⟨hn1,hn2,hn3⟩:=hnd'
 obtain⟨vs,hR',aaA,hbs⟩:=hC w' (aK (gY w keep (fun b=>b∈ah ρ' (hs y))) w' Ii (hs'++ho)) Ii hn1 (fun p hp=>hout p (List.mem_append_left _ hp))
 let Bz:Nat→Value:=fun i=>if i=j then .tuple vs else Ii i
 have Yc:Bz j= .tuple vs:=by simp[Bz]
 have e4: ∀i,gq i ho=true→Bz i=Ii i:=fun i hi=>by
  have:i≠j:=by rintro rfl;rw[hne]at hi;cases hi
  simp[Bz,this]
 have hb4:ah Bz ((j,.obs o')::ho)=blks (.tuple vs)++ah Ii ho:=by
  rw[aT,jm fun p hp=>e4 p.1 (fD.2 ⟨p,hp,rfl⟩)]
  show blks (Bz j)++_=_
  rw[Yc]
 have Ol: ∀b,b∈ah Bz ((j,.obs o')::ho)→b∈ah Ii (hs'++ho):=fun b hb=>by
  rw[hb4]at hb
  rw[gJ]
  exact(List.mem_append.1 hb).elim (fun h=>List.mem_append_left _ (hbs b h)) (fun h=>List.mem_append_right _ h)
 have hk4: ∀b,aK (gY w keep (fun b=>b∈ah ρ' (hs y))) w' Ii (hs'++ho) b→aK (gY w keep (fun b=>b∈ah ρ [(j,.obs o)])) w' Bz ((j,.obs o')::ho) b:=by
  rintro b ⟨h1,h2,h3⟩
  exact⟨h1,fun hlt=>(h2 hlt).imp id fun h=>(by show b∈ah ρ [(j,.obs o)];rw[hsb];exact(hmem b).1 h),fun h=>h3 (Ol b h)⟩
 refine⟨u,Bz,rfl,⟨hbel.os,hbel.tape,hbel.output,hbel.size,fun k hk hM'=>hbel.block k hk fun h=>hM' (by rw[hsb];exact(hmem k).1 h)⟩, ?_, ?_, ?_, ?_, ?_⟩
 · intro p hp q hq eq
   obtain rfl:=List.mem_singleton.1 hp
   refine .inr ⟨⟨vs,Yc⟩,⟨us,eu⟩, ?_⟩
   show eF (Bz j)=eF (ρ j)
   rw[Yc,aaA,←hhd]
   obtain⟨p',hp',ep⟩:=fD.1 hj1
   obtain⟨q',hq',eq'⟩:=fD.1 hj2
   have:=(hfix p' hp' q' (List.mem_append_left _ hq') (eq'.trans ep.symm)).hd
   rw[ep]at this
   exact this
 · exact C2.mV (X:=aC (gY w keep (fun b=>b∈ah ρ' (hs y))) w' Ii (hs'++ho)) (Y:=aC (gY w keep (fun b=>b∈ah ρ [(j,.obs o)])) w' Bz ((j,.obs o')::ho)) hk4 rfl e4 (by show eF (Bz j)=eF (Ii j);rw[Yc,aaA]) hrr hc
 · intro p hp
   rcases List.mem_cons.1 hp with rfl|hp
   · refine⟨vs,Yc, ?_⟩
     show o'.R w' _ (Bz j)
     rw[Yc]
     exact o'.mono hk4 (fun _ _=>rfl) (fun _ _=>rfl) hR'
   · exact bg.over (X:=aC (gY w keep (fun b=>b∈ah ρ' (hs y))) w' Ii (hs'++ho)) (Y:=aC (gY w keep (fun b=>b∈ah ρ [(j,.obs o)])) w' Bz ((j,.obs o')::ho)) hk4 rfl e4 (fD.2 ⟨p,hp,rfl⟩) (oG hcl p hp) (hout p (List.mem_append_right _ hp))
 · rw[hb4,List.nodup_append]
   exact⟨(o'.lt hR').2.2,hn2,fun a ha b hb=>hn3 a (hbs a ha) b hb⟩
 · intro b hb
   rcases hnew b (Ol b hb)with h|h
   · exact .inl h
   · exact .inr (by rw[hsb];exact(hmem b).1 h)
theorem aY.cls {P:Program} {f:FuncId} {o':OB} {j:Nat} {bP:List AV} {r:AV} {hs' ho:List (Nat×AO)} (hC:Closes hs' j o') (hM:aY P f [] bP r (hs'++ho))
  (hb:(kD (fun i=>gq i ho) j r&&jP ho ho&& !(gq j ho))=true):aY P f [] bP r ((j,.obs o')::ho):=by
 simp only[Bool.and_eq_true,Bool.not_eq_true']at hb
 obtain⟨⟨hrr,hcl⟩,hne⟩:=hb
 refine⟨hM.1,fun w keep ρ args hkeep mD hnd hbl hargs=>(hM.2 w keep ρ args hkeep mD hnd hbl hargs).mono ?_⟩
 rintro e w' ⟨u,Ii,rfl,hbel,hfix,hc,hout,hnd',hnew⟩
 rw[gJ,List.nodup_append]at hnd'
 obtain⟨hn1,hn2,hn3⟩:=hnd'
 obtain⟨vs,hR',aaA,hbs⟩:=hC w' (aK (gY w keep (fun b=>b∈ah ρ [])) w' Ii (hs'++ho)) Ii hn1 (fun p hp=>hout p (List.mem_append_left _ hp))
 let Bz:Nat→Value:=fun i=>if i=j then .tuple vs else Ii i
 have Yc:Bz j= .tuple vs:=by simp[Bz]
 have e4: ∀i,gq i ho=true→Bz i=Ii i:=fun i hi=>by
  have:i≠j:=by rintro rfl;rw[hne]at hi;cases hi
  simp[Bz,this]
 have hb4:ah Bz ((j,.obs o')::ho)=blks (.tuple vs)++ah Ii ho:=by
  rw[aT,jm fun p hp=>e4 p.1 (fD.2 ⟨p,hp,rfl⟩)]
  show blks (Bz j)++_=_
  rw[Yc]
 have Ol: ∀b,b∈ah Bz ((j,.obs o')::ho)→b∈ah Ii (hs'++ho):=fun b hb=>by
  rw[hb4]at hb
  rw[gJ]
  exact(List.mem_append.1 hb).elim (fun h=>List.mem_append_left _ (hbs b h)) (fun h=>List.mem_append_right _ h)
 have hk4: ∀b,aK (gY w keep (fun b=>b∈ah ρ [])) w' Ii (hs'++ho) b→aK (gY w keep (fun b=>b∈ah ρ [])) w' Bz ((j,.obs o')::ho) b:=
  fun b ⟨h1,h2,h3⟩=>⟨h1,h2,fun h=>h3 (Ol b h)⟩
 refine⟨u,Bz,rfl,hbel,(fun p hp=>by cases hp), ?_, ?_, ?_,fun b hb=>hnew b (Ol b hb)⟩
 · exact C2.mV (X:=aC (gY w keep (fun b=>b∈ah ρ [])) w' Ii (hs'++ho)) (Y:=aC (gY w keep (fun b=>b∈ah ρ [])) w' Bz ((j,.obs o')::ho)) hk4 rfl e4 (by show eF (Bz j)=eF (Ii j);rw[Yc,aaA]) hrr hc
 · intro p hp
   rcases List.mem_cons.1 hp with rfl|hp
   · refine⟨vs,Yc, ?_⟩
     show o'.R w' _ (Bz j)
     rw[Yc]
     exact o'.mono hk4 (fun _ _=>rfl) (fun _ _=>rfl) hR'
   · exact bg.over (X:=aC (gY w keep (fun b=>b∈ah ρ [])) w' Ii (hs'++ho)) (Y:=aC (gY w keep (fun b=>b∈ah ρ [])) w' Bz ((j,.obs o')::ho)) hk4 rfl e4 (fD.2 ⟨p,hp,rfl⟩) (oG hcl p hp) (hout p (List.mem_append_right _ hp))
 · rw[hb4,List.nodup_append]
   exact⟨(o'.lt hR').2.2,hn2,fun a ha b hb=>hn3 a (hbs a ha) b hb⟩
def adH {α:Type} (hs:α→List (Nat×AO)) (w:World) (k:Nat→Prop) (v:Value):Prop:=
 ∃ (x:α) (ρ:Nat→Value) (us:List Value),v= .tuple (eF (ρ 0)::us).toArray∧us.flatMap jF=ah ρ (hs x)∧(ah ρ (hs x)).Nodup∧gq 0 (hs x)=true∧(eF (ρ 0)).oneCell'=true∧ ∀p∈hs x,bg ⟨w,k,ρ⟩ p.1 p.2
theorem lI (x:Value) (us:List Value):blks (.tuple (x::us).toArray)=us.flatMap jF:=by simp[blks]
def OB.pack {α:Type} (hs:α→List (Nat×AO)):OB where
 R:=adH hs
 mono:=by
  rintro w w' k k' v hk hm hb ⟨x,ρ,us,rfl,hbl,hnd,hn,h1,hok⟩
  rw[lI,hbl]at hb
  exact⟨x,ρ,us,rfl,hbl,hnd,hn,h1,fun p hp=>bg.same (X:=⟨w,k,ρ⟩) (Y:=⟨w',k',ρ⟩) hk hm rfl (fun b hb'=>hb b (aP.2 ⟨p,hp,hb'⟩)) (hok p hp)⟩
 lt:=by
  rintro w k v ⟨x,ρ,us,rfl,hbl,hnd,hn,h1,hok⟩
  rw[lI,hbl]
  refine⟨fun b hb=> ?_,h1,hnd⟩
  obtain⟨p,hp,hb'⟩:=aP.1 hb
  exact(hok p hp).lt b hb'
theorem Opens.pack {α:Type} (hs:α→List (Nat×AO)):Opens (OB.pack hs) 0 hs:=by
 rintro w k v ⟨x,ρ,us,rfl,hbl,hnd,hn,h1,hok⟩
 exact⟨x,ρ,rfl,by rw[lI,hbl],hok⟩
theorem Om (l:List Nat):(l.map fun b=>Value.pointer (some ⟨b,0,none⟩)).flatMap jF=l:=by
 induction l with
 |nil=>rfl
 |cons x l ih=>rw[List.map_cons,List.flatMap_cons,ih];rfl
theorem Closes.pack {α:Type} (hs:α→List (Nat×AO)) (x:α) (hn:gq 0 (hs x)=true) (h1: ∀ (X:CX),(∀p∈hs x,bg X p.1 p.2)→(eF (X.ρ 0)).oneCell'=true):Closes (hs x) 0 (OB.pack hs):=by
 intro w k ρ hnd hok
 refine⟨_,⟨x,ρ,(ah ρ (hs x)).map fun b=> .pointer (some ⟨b,0,none⟩),rfl,Om _,hnd,hn,h1 ⟨w,k,ρ⟩ hok,hok⟩,rfl,fun b hb=> ?_⟩
 rw[lI,Om]at hb
 exact hb
theorem Opens.imp {o:OB} {j:Nat} {Y Z:Type} {hs:Y→List (Nat×AO)} {gs:Z→List (Nat×AO)} (h:Opens o j hs) (hi: ∀ (X:CX) y,(ah X.ρ (hs y)).Nodup→(∀p∈hs y,bg X p.1 p.2)→ ∃z ρ',eF (ρ' j)=eF (X.ρ j)∧(ah ρ' (gs z)).Perm (ah X.ρ (hs y))∧ ∀p∈gs z,bg ⟨X.w,X.keep,ρ'⟩ p.1 p.2):Opens o j gs:=by
 intro w k v hR
 obtain⟨y,ρ,h1,h2,h3⟩:=h w k v hR
 obtain⟨z,ρ',g1,g2,g3⟩:=hi ⟨w,k,ρ⟩ y (h2.nodup_iff.2 (o.lt hR).2.2) h3
 exact⟨z,ρ',g1.trans h1,g2.trans h2,g3⟩
theorem Closes.imp {o:OB} {j:Nat} {hs gs:List (Nat×AO)} (h:Closes gs j o) (hi: ∀ (X:CX),(ah X.ρ hs).Nodup→(∀p∈hs,bg X p.1 p.2)→ ∃ρ',eF (ρ' j)=eF (X.ρ j)∧(ah ρ' gs).Nodup∧(∀b∈ah ρ' gs,b∈ah X.ρ hs)∧ ∀p∈gs,bg ⟨X.w,X.keep,ρ'⟩ p.1 p.2):Closes hs j o:=by
 intro w k ρ hnd hok
 obtain⟨ρ',g1,g2,g3,g4⟩:=hi ⟨w,k,ρ⟩ hnd hok
 obtain⟨us,a1,a2,a3⟩:=h w k ρ' g2 g4
 exact⟨us,a1,a2.trans g1,fun b hb=>g3 b (a3 b hb)⟩
theorem dI.hdr {P:Program} {L:Lay} (hL:bM P L) {W:Walk} (hW:Ia P W) {d:Nat} {f:FuncId} {bP:List AV} {st:AS} {K:AV→AS→Prop} (t id:Nat) {e:TypeId} {s n:Nat} {sc:Bool} {F:Nat→List AV} (hE:Enters P f) (ht:st.tmps t= .own id) (hf:aO id st.heap=some (.row e s n sc F))
  (h: ∀A c,dI P L W d f bP ⟨(t,.v (.slice A n c))::st.sl,st.heap,st.back,st.base⟩ K):dI P L W d f bP st K:=by
 refine .sem hE fun g N bs ρ a w args R hargs=> ?_
 obtain⟨us,hown,hr⟩:=R.objs _ (ay hf)
 have hown:w.ownsRow 0 e s (ρ id) n us:=hown
 obtain⟨A,c,hv⟩: ∃A c,ρ id= .slice A n c:=by
  rcases hown.2 with⟨hv,hz⟩|⟨b,cap,cur,hv,_⟩
  · exact⟨none,0,by rw[hv,hz]⟩
  · exact⟨_,_,hv⟩
 have R':Rel g N bs ρ a w ⟨(t,.v (.slice A n c))::st.sl,st.heap,st.back,st.base⟩:=by
  refine⟨R.size,R.defers,R.below,fun t'=> ?_,R.objs,R.apart,R.own,R.back⟩
  show C2 _ (upd t (.v (.slice A n c)) st.tmps t') _
  by_cases e':t'=t
  · subst e'
    have h0:=R.tmps t'
    rw[ht]at h0
    simp only[upd,Nat.beq_refl,cond_true]
    exact(C2.jQ h0).trans (by show eF (ρ id)=_;rw[hv];rfl)
  · simp only[upd,beq_false e',cond_false]
    exact R.tmps t'
 have:=(xI R' hargs (h A c) (fun lv fn c hf' hnm hb hsz h'=>D5 hL hW R' hargs lv fn c hf' hb hsz h')).2
 exact this
end
section
open Go.RowKit
def pmR (kv:List (Value×Value)) (w:World) (_:Nat→Prop) (v:Value):Prop:=
 ∃b es c,v= .tuple #[.map (some b),.map (some b)]∧w.heap[b]? =some (.map es c)∧pairs es.toList=kv∧MapKept.Stamped es c
def QJ (kv:List (Value×Value)):OB where
 R:=pmR kv
 mono:=by
  rintro w w' k k' v _ _ hm ⟨b,es,c,rfl,hh,hp,hs⟩
  exact⟨b,es,c,rfl,(hm b (by simp[blks,jF])).trans hh,hp,hs⟩
 lt:=by
  rintro w k v ⟨b,es,c,rfl,hh,hp,hs⟩
  refine⟨fun x hx=> ?_,rfl,by simp[blks,jF]⟩
  obtain rfl:x=b:=by simpa[blks,jF]using hx
  exact(Array.getElem?_eq_some_iff.1 hh).1
structure Ti (P:Program) (kt:TypeId) (q:Value→Prop):Prop where
 chk: ∀m k w,q k→(Instr.checkKey m 10000 kt k).run P w= .ok () w
 now: ∃d,P.underlying kt=some d∧ ∀k k',q k→q k'→Instr.sameNow d k k'=none
 eq: ∀k k' w,q k→q k'→ ∃t:Bool,(t=true↔k=k')∧(Op.equal kt k k').run P w= .ok t w
 bits: ∀k,q k→Instr.sameBits 10000 k k=true
section
variable {P:Program} {kt et t:TypeId} {q:Value→Prop} (hK:Ti P kt q) {w:World} {k:Value}
include hK
theorem Yd (hk:q k): ∀ (es:List MapEntry) (i:Nat),(∀e∈es,q e.key∧e.key≠k)→(Instr.findAsking kt k es i).run P w= .ok none w
  |[],_,_=>rfl
  | e::es,i,h=>by
    obtain⟨b,hb,hr⟩:=hK.eq k e.key w hk (h e List.mem_cons_self).1
    have:b=false:=by rw[Bool.eq_false_iff];exact fun e'=>(h e List.mem_cons_self).2 (hb.1 e').symm
    subst this
    simp only[Instr.findAsking,Sem.run_bind,hr,Result.andThen_ok]
    exact Yd hk es (i+1) fun e he=>h e (List.mem_cons_of_mem _ he)
theorem Tj (hk:q k): ∀ (es:List MapEntry) (i j:Nat) (e:MapEntry),(∀e∈es,q e.key)→es[j]? =some e→e.key=k→(∀l x,l<j→es[l]? =some x→x.key≠k)→(Instr.findAsking kt k es i).run P w= .ok (some (i+j,e.val)) w
  |[],_,_,_,_,h,_,_=>by simp at h
  | x ::es,i,j,e,h,he,hke,hno=>by
    obtain⟨b,hb,hr⟩:=hK.eq k x.key w hk (h x List.mem_cons_self)
    simp only[Instr.findAsking,Sem.run_bind,hr,Result.andThen_ok]
    cases j with
    | zero=>
      simp only[List.getElem?_cons_zero,Option.some.injEq]at he
      subst he
      rw[hb.2 hke.symm]
      rfl
    | succ j=>
      have hx:x.key≠k:=hno 0 x (by omega) rfl
      have:b=false:=by rw[Bool.eq_false_iff];exact fun e'=>hx (hb.1 e').symm
      subst this
      have:=Tj hk es (i+1) j e (fun e he=>h e (List.mem_cons_of_mem _ he)) (by simpa using he) hke fun l x hl hx=>hno (l+1) x (by omega) (by simpa using hx)
      rw[show i+1+j=i+(j+1) by omega]at this
      exact this
theorem Oo (hk:q k) {es:List MapEntry} (h: ∀e∈es,q e.key) {r:Option (Nat×Value)} (hr:(Instr.findAsking kt k es 0).run P w= .ok r w):(Instr.findKey kt k es).run P w= .ok r w:=by
 obtain⟨d,hd,hn⟩:=hK.now
 cases es with
 | nil=>
   have:r=none:=by cases hr;rfl
   subst this
   simp[Instr.findKey,run_underlying hd,Sem.run_bind,Result.andThen,Instr.findNow]
 | cons e es=>
   have:Instr.findNow d k (e::es) 0=none:=by unfold Instr.findNow;rw[hn k e.key hk (h e List.mem_cons_self)]
   simp only[Instr.findKey,Sem.run_bind,run_underlying hd,Result.andThen_ok,this]
   exact hr
theorem Tm (hk:q k) {es:Array MapEntry} {kv:List (Value×Value)} (hp:pairs es.toList=kv) (h: ∀p∈kv,q p.1∧p.1≠k):(Instr.findKey kt k es.toList).run P w= .ok none w:=by
 have h': ∀e∈es.toList,q e.key∧e.key≠k:=fun e he=>h (e.key,e.val) (by rw[←hp];exact List.mem_map.2 ⟨e,he,rfl⟩)
 exact Oo hK hk (fun e he=>(h' e he).1) (Yd hK hk es.toList 0 h')
theorem Oq (hk:q k) {es:Array MapEntry} {c:Nat} (hs:MapKept.Stamped es c) {A B:List (Value×Value)} {v:Value} (hp:pairs es.toList=A++(k,v)::B) (h: ∀p∈A++(k,v)::B,q p.1):
  ∃e,es.toList[A.length]? =some e∧e.key=k∧e.val=v∧(Instr.findKey kt k es.toList).run P w= .ok (some (A.length,v)) w:=by
 have hl:(pairs es.toList)[A.length]? =some (k,v):=by rw[hp];simp
 unfold pairs at hl
 rw[List.getElem?_map]at hl
 cases he:es.toList[A.length]? with
 |none=>rw[he]at hl;cases hl
 | some e=>
   rw[he]at hl
   simp only[Option.map_some,Option.some.injEq,Prod.mk.injEq]at hl
   refine⟨e,rfl,hl.1,hl.2, ?_⟩
   have:=Tj (w:=w) hK hk es.toList 0 A.length e (fun x hx=>h (x.key,x.val) (by rw[←hp];exact List.mem_map.2 ⟨x,hx,rfl⟩)) he hl.1 fun l x hlt hx hxk=>by
    have hn:=hs.2.2
    have h1:(es.toList.map (·.key))[l]? =some k:=by rw[List.getElem?_map,hx,←hxk];rfl
    have h2:(es.toList.map (·.key))[A.length]? =some k:=by rw[List.getElem?_map,he,←hl.1];rfl
    obtain⟨a1,a2⟩:=List.getElem?_eq_some_iff.1 h1
    obtain⟨b1,b2⟩:=List.getElem?_eq_some_iff.1 h2
    have:=IG hn a1 b1 (a2.trans b2.symm)
    omega
   rw[Nat.zero_add,hl.2]at this
   exact Oo hK hk (fun x hx=>h (x.key,x.val) (by rw[←hp];exact List.mem_map.2 ⟨x,hx,rfl⟩)) this
end
section
variable {P:Program} {kt et t:TypeId} {q:Value→Prop} {w:World} {k v:Value} {b c:Nat} {es:Array MapEntry}
theorem Ot (ht:P.underlying t=some (.map kt et)) (hb:w.heap[b]? =some (.map es c)) (hc:(Instr.checkKey es.isEmpty 10000 kt k).run P w= .ok () w) {r:Option (Nat×Value)} (hf:(Instr.findKey kt k es.toList).run P w= .ok r w) {z:Value} (hz:(zeroValue et).run P w= .ok z w):
  (Instr.lookup t (.map (some b)) k true).run P w= .ok (.tuple #[(r.map (·.2)).getD z,.bool r.isSome]) w:=by
 cases r with
 |none=>simp[Instr.lookup,run_underlying ht,MapKept.run_getObj_map hb,Sem.run_bind,Result.andThen,hc,hf,hz]
 |some p=>simp[Instr.lookup,run_underlying ht,MapKept.run_getObj_map hb,Sem.run_bind,Result.andThen,hc,hf]
theorem Ou (ht:P.underlying t=some (.map kt et)) (hb:w.heap[b]? =some (.map es c)) (hc:(Instr.checkKey false 10000 kt k).run P w= .ok () w) (hf:(Instr.findKey kt k es.toList).run P w= .ok none w):
  (Instr.mapUpdate t (.map (some b)) k v).run P w= .ok () {w with heap:=w.heap.setIfInBounds b (.map (es.push {key:=k,val:=v,born:=c}) (c+1))}:=by
 simp[Instr.mapUpdate,run_underlying ht,MapKept.run_getObj_map hb,Sem.run_bind,Result.andThen,hc,hf,MapKept.run_setObj_map _ hb]
theorem aaB (ht:P.underlying t=some (.map kt et)) (hb:w.heap[b]? =some (.map es c)) (hc:(Instr.checkKey es.isEmpty 10000 kt k).run P w= .ok () w) {i:Nat} {u:Value} (hf:(Instr.findKey kt k es.toList).run P w= .ok (some (i,u)) w) {Qi ty:TypeId}:
  (Builtin.delete_ #[t,Qi] ty #[.map (some b),k]).run P w= .ok (.tuple #[]) {w with heap:=w.heap.setIfInBounds b (.map (es.eraseIdxIfInBounds i) c)}:=by
 simp[Builtin.delete_,run_underlying ht,MapKept.run_getObj_map hb,Sem.run_bind,Result.andThen,hc,hf,MapKept.run_setObj_map _ hb]
end
section
variable {P:Program} {kt et t:TypeId} {q:Value→Prop} {st:AS} {K:AV→AS→Prop} {id:Nat} {kv:List (Value×Value)} {k v:Value}
def Whole (x:AV) (v:Value):Prop:=(∀X u,C2 X x u→u=v)∧ ∀X,C1 X x v
theorem Whole.agg (us:List Value):Whole (.agg (us.map .v)) (.agg us.toArray):=by
 refine⟨fun X u h=> ?_,fun X=>⟨us,rfl,by simp,fun i x u hx hu=> ?_⟩⟩
 · obtain⟨vs,rfl,ha⟩: ∃vs:List Value,u= .agg vs.toArray∧aI (C0 X) (us.map .v) vs:=h
   congr 2
   refine List.ext_getElem? fun i=> ?_
   have hl:us.length=vs.length:=by simpa using ha.1
   cases hv:vs[i]? with
   |none=>rw[List.getElem?_eq_none_iff]at hv;exact(List.getElem?_eq_none (by omega)).symm
   | some y=>
     have hi:i<us.length:=by rw[hl];exact(List.getElem?_eq_some_iff.1 hv).1
     have:y=us[i]:=ha.2 i (.v us[i]) y (by simp[hi]) hv
     rw[this]
     exact(List.getElem?_eq_getElem hi).symm
 · rw[List.getElem?_map,hu]at hx
   cases hx
   rfl
theorem LC {g:Base} {N:Nat} {bs:List (Array Value)} {ρ:Nat→Value} {a:Act} {w:World} (R:Rel g N bs ρ a w st) (hf:aO id st.heap=some (.obs (QJ kv))):
  ∃b es c,ρ id= .tuple #[.map (some b),.map (some b)]∧w.heap[b]? =some (.map es c)∧pairs es.toList=kv∧MapKept.Stamped es c:=by
 obtain⟨us,e,b,es,c,e2,h⟩:=R.objs _ (ay hf)
 exact⟨b,es,c,e2,h⟩
theorem Tn {g:Base} {N:Nat} {bs:List (Array Value)} {ρ:Nat→Value} {a:Act} {w:World} (R:Rel g N bs ρ a w st) {x:Operand} (hx:st.ev x= .own id) {b:Nat} (e:ρ id= .tuple #[.map (some b),.map (some b)]):a.eval x= .map (some b):=by
 have:=R.ev x
 rw[hx]at this
 exact(C2.jQ this).trans (by show eF (ρ id)=_;rw[e];rfl)
theorem Ov {kv':List (Value×Value)} {g:Base} {N:Nat} {bs:List (Array Value)} {ρ:Nat→Value} {a:Act} {w:World} (R:Rel g N bs ρ a w st) {b c c':Nat} {es es':Array MapEntry} (hf:aO id st.heap=some (.obs (QJ kv))) (e:ρ id= .tuple #[.map (some b),.map (some b)]) (hh:w.heap[b]? =some (.map es c)) (hp:pairs es'.toList=kv') (hs:MapKept.Stamped es' c'):
  Rel g N bs ρ a {w with heap:=w.heap.setIfInBounds b (.map es' c')} ⟨st.sl,setObj id (.obs (QJ kv')) st.heap,st.back,st.base⟩:=by
 have hlt:b<w.heap.size:=(Array.getElem?_eq_some_iff.1 hh).1
 refine R.write hf (b:=b) (by rw[e];simp[blks,jF]) ⟨rfl,rfl,rfl,by simp,fun k hk=>by simp[Array.getElem?_setIfInBounds,show b≠k by omega]⟩ (by simp) (fun k hk=>by simp[Array.getElem?_setIfInBounds,Ne.symm hk]) fun _ _=> ?_
 exact⟨_,e,b,es',c',e,by simp[aC,hlt],hp,hs⟩
variable {x i y:Operand} {c:Call} {Qi:TypeId} (hK:Ti P kt q) (ht:P.underlying t=some (.map kt et)) {kx vx:AV} (hx:st.ev x= .own id) (hf:aO id st.heap=some (.obs (QJ kv))) (hi:st.ev i=kx) (hk:Whole kx k) (hq:q k)
include hK ht hx hf hi hk hq
theorem nK.look (hz: ∀w,(zeroValue et).run P w= .ok v w) (hv:Whole vx v) (hno: ∀p∈kv,q p.1∧p.1≠k) (h:K (.dM [vx,.v (.bool false)]) st):nK P st (.lookup t x i true) K:=by
 refine .q _ h fun g N bs ρ a w o ho R=> ?_
 obtain⟨b,es,c,e,hh,hp,hs⟩:=LC R hf
 have e2:a.eval i=k:=hk.1 _ _ (by rw[←hi];exact R.ev i)
 refine⟨_,⟨[v,.bool false],rfl,aI.cons (hv.2 _) (aI.cons rfl aI.nil)⟩, ?_⟩
 simp only[execOp,ho,Tn R hx e,e2,Sem.run_bind,Ot ht hh (hK.chk _ _ w hq) (Tm hK hq hp hno) (hz w),Result.andThen_ok,Sem.run_pure]
 rfl
theorem nK.Tq {A B:List (Value×Value)} (hz: ∃z,∀w,(zeroValue et).run P w= .ok z w) (hv:Whole vx v) (hs0:kv=A++(k,v)::B) (hall: ∀p∈kv,q p.1) (h:K (.dM [vx,.v (.bool true)]) st):nK P st (.lookup t x i true) K:=by
 refine .q _ h fun g N bs ρ a w o ho R=> ?_
 obtain⟨b,es,c,e,hh,hp,hs⟩:=LC R hf
 have e2:a.eval i=k:=hk.1 _ _ (by rw[←hi];exact R.ev i)
 obtain⟨z,hz⟩:=hz
 obtain⟨_,_,_,_,h4⟩:=Oq (w:=w) hK hq hs (hp.trans hs0) (by rw[←hs0];exact hall)
 refine⟨_,⟨[v,.bool true],rfl,aI.cons (hv.2 _) (aI.cons rfl aI.nil)⟩, ?_⟩
 simp only[execOp,ho,Tn R hx e,e2,Sem.run_bind,Ot ht hh (hK.chk _ _ w hq) h4 (hz w),Result.andThen_ok,Sem.run_pure]
 rfl
theorem nK.aem (hy:st.ev y=vx) (hv:Whole vx v) (hno: ∀p∈kv,q p.1∧p.1≠k) (h:K (.v undef) ⟨st.sl,setObj id (.obs (QJ (kv++[(k,v)]))) st.heap,st.back,st.base⟩):nK P st (.mapUpdate t x i y) K:=by
 refine .mk rfl fun g N bs ρ a w o next Q ho R hk'=> ?_
 obtain⟨b,es,c,e,hh,hp,hs⟩:=LC R hf
 have e2:a.eval i=k:=hk.1 _ _ (by rw[←hi];exact R.ev i)
 have e3:a.eval y=v:=hv.1 _ _ (by rw[←hy];exact R.ev y)
 have hrun:(execOp a.eval o).run P w= .ok .skip {w with heap:=w.heap.setIfInBounds b (.map (es.push {key:=k,val:=v,born:=c}) (c+1))}:=by
  simp[execOp,ho,Tn R hx e,e2,e3,Ou ht hh (hK.chk _ _ w hq) (Tm hK hq hp hno)]
 unfold Oper.wp
 rw[hrun]
 refine hk' _ _ _ _ _ h (Ov R hf e hh (by simp[pairs,←hp]) (MapKept.stamped_push hs fun x hxm hxk=> ?_)) rfl
 exact(hno (x.key,x.val) (by rw[←hp];exact List.mem_map.2 ⟨x,hxm,rfl⟩)).2 hxk
theorem nK.aen (hc:c.callee= .builtin .delete) (hca:c.args= #[x,i]) (hct:c.argTypes= #[t,Qi]) {A B:List (Value×Value)} (hs0:kv=A++(k,v)::B) (hall: ∀p∈kv,q p.1) (h:K (.dM []) ⟨st.sl,setObj id (.obs (QJ (A++B))) st.heap,st.back,st.base⟩):nK P st (.call c) K:=by
 refine .mk (by unfold lD;split<;>simp_all) fun g N bs ρ a w o next Q ho R hk'=> ?_
 obtain⟨b,es,cc,e,hh,hp,hs⟩:=LC R hf
 have e2:a.eval i=k:=hk.1 _ _ (by rw[←hi];exact R.ev i)
 obtain⟨en,g1,_,_,h4⟩:=Oq (w:=w) hK hq hs (hp.trans hs0) (by rw[←hs0];exact hall)
 have hrun:(execOp a.eval o).run P w= .ok (.value (.tuple #[])) {w with heap:=w.heap.setIfInBounds b (.map (es.eraseIdxIfInBounds A.length) cc)}:=by
  simp only[execOp,ho,resolve,hc,hca,hct,Sem.run_bind,Sem.run_pure,Result.andThen_ok,invoke]
  simp[builtin,Tn R hx e,e2,aaB ht hh (hK.chk _ _ w hq) h4,Sem.run_bind,Result.andThen]
 unfold Oper.wp
 rw[hrun]
 refine hk' _ _ _ _ _ h (Ov R hf e hh ?_ (MapKept.stamped_erase hs _)) ⟨[],rfl,aI.nil⟩
 have:(es.eraseIdxIfInBounds A.length).toList=es.toList.eraseIdx A.length:=by simp
 rw[this,List.eraseIdx_eq_take_drop_succ,pairs,List.map_append,List.map_take,List.map_drop,show es.toList.map (fun e=>(e.key,e.val))=A++(k,v)::B from hp.trans hs0]
 simp
omit hK ht hx hf hi hk hq
theorem nK.del (hc:c.callee= .builtin .delete) (hca:c.args= #[x,i]) (hct:c.argTypes= #[t,Qi]) (hK:Ti P kt q) (ht:P.underlying t=some (.map kt et)) (hx:st.ev x= .own id) (hf:aO id st.heap=some (.obs (QJ kv))) (hi:st.ev i=kx) (hk:Whole kx k) (hq:q k)
  {A B:List (Value×Value)} (hs0:kv=A++(k,v)::B) (hall: ∀p∈kv,q p.1) (h:K (.dM []) ⟨st.sl,setObj id (.obs (QJ (A++B))) st.heap,st.back,st.base⟩):nK P st (.call c) K:= .aen hK ht hx hf hi hk hq hc hca hct hs0 hall h
theorem nK.mkM (h:nameOf st (fun d=>K (.own d) (st.obj d d (.obs (QJ []))))):nK P st (.makeMap t none) K:=by
 rw[iO]at h
 refine .mk rfl fun g N bs ρ a w o next Q ho R hk'=> ?_
 have hrun:(execOp a.eval o).run P w= .ok (.value (.map (some w.heap.size))) (w.alloc (.map #[] 0)):=by
  simp[execOp,ho,Instr.makeMap,Result.andThen,Sem.run_bind]
 unfold Oper.wp
 rw[hrun]
 refine hk' _ _ _ (dD ρ st.base (.tuple #[.map (some w.heap.size),.map (some w.heap.size)])) _ h (R.obj st.base st.base (R.below.alloc R.below.size _) (by simp) (fun b hb _=>Below.heap_alloc w _ b hb) (fun b hb=> ?_) (fun _=> ?_)) (by simp[C2,C1,C0,aC,dD,eF])
 · rw[show b=w.heap.size from by simpa[blks,jF]using hb];exact .inl (Nat.le_refl _)
 · have e:dD ρ st.base (.tuple #[.map (some w.heap.size),.map (some w.heap.size)]) st.base= .tuple #[.map (some w.heap.size),.map (some w.heap.size)]:=by simp[dD]
   exact⟨_,e,w.heap.size, #[],0,e,heap_alloc_new w _,rfl,MapKept.stamped_empty 0⟩
end
end
section
open Go.RowKit
def aZ.vs (c:aZ):List Value:=[.int .i64 c.c0,.int .i64 c.c1,.int .i64 c.c2,.int .i64 c.c3,.int .i64 c.c4]
def Ev.vs (e:Ev):List Value:=[.int .i64 e.r,.int .i64 e.n,.int .i64 e.c.c0,.int .i64 e.c.c1,.int .i64 e.c.c2,.int .i64 e.c.c3,.int .i64 e.c.c4,.int .i64 e.h,.int .i64 e.k,.string e.key,.int .i64 e.l,.string e.v]
theorem Ye (n:Nat) (a0 a1 a2 a3 a4 b0 b1 b2 b3 b4:Int) (w:World):(Op.equalIn (n+2) 31 (.agg #[.int .i64 a0,.int .i64 a1,.int .i64 a2,.int .i64 a3,.int .i64 a4]) (.agg #[.int .i64 b0,.int .i64 b1,.int .i64 b2,.int .i64 b3,.int .i64 b4])).run Tryz.prog w=
  .ok (decide (a0=b0∧a1=b1∧a2=b2∧a3=b3∧a4=b4)) w:=by
 rw[Op.equalIn]
 simp only[Sem.run_bind,run_underlying Tryz.underlying31,Result.andThen_ok]
 simp only[Std.Legacy.Range.forIn_eq_forIn_range',Std.Legacy.Range.size,Nat.sub_zero,Nat.add_sub_cancel,Nat.div_one,List.range'_succ,List.range'_zero,List.forIn_cons,List.forIn_nil]
 have u3:=Tryz.underlying3
 have a3:=Tryz.isAgg3
 have z3:=Tryz.sizeOf3
 go_simp
 repeat' split
 all_goals simp_all
theorem aZ.eq_iff (a b:aZ):(a.c0=b.c0∧a.c1=b.c1∧a.c2=b.c2∧a.c3=b.c3∧a.c4=b.c4)↔a=b:=by
 obtain⟨a0,a1,a2,a3,a4⟩:=a
 obtain⟨b0,b1,b2,b3,b4⟩:=b
 simp
theorem UZ:Tryz.prog.eqGuardType Tryz.prog.depth 31=false:=by kernel_rfl
theorem nU (a b:aZ):Ep Tryz.prog 31 a.vs b.vs (a=b):=
 ⟨UZ,fun w=>⟨_,by rw[decide_eq_true_eq,aZ.eq_iff],Ye 9998 _ _ _ _ _ _ _ _ _ _ w⟩⟩
theorem Ev.eq_iff (a b:Ev):(a.r=b.r∧a.n=b.n∧(a.c.c0=b.c.c0∧a.c.c1=b.c.c1∧a.c.c2=b.c.c2∧a.c.c3=b.c.c3∧a.c.c4=b.c.c4)∧a.h=b.h∧a.k=b.k∧a.key=b.key∧a.l=b.l∧a.v=b.v)↔a=b:=by
 rw[aZ.eq_iff]
 obtain⟨a0,a1,a2,a3,a4,a5,a6,a7⟩:=a
 obtain⟨b0,b1,b2,b3,b4,b5,b6,b7⟩:=b
 simp
end
section
open Go.RowKit
def wz (H:Nat→aZ) (r:Nat) (c:aZ):Nat→aZ:=fun i=>bif Nat.beq i r then c else H i
def aZ.inc (c:aZ):Nat→aZ
  |0=>⟨c.c0+1,c.c1,c.c2,c.c3,c.c4⟩
  |1=>⟨c.c0,c.c1+1,c.c2,c.c3,c.c4⟩
  |2=>⟨c.c0,c.c1,c.c2+1,c.c3,c.c4⟩
  |3=>⟨c.c0,c.c1,c.c2,c.c3+1,c.c4⟩
  |_=>⟨c.c0,c.c1,c.c2,c.c3,c.c4+1⟩
abbrev Mk:=List Ev×(Nat→aZ)
def WB.ed (c:WB):Ed:=⟨c.k,c.key,c.l,c.v⟩
def Df (out:List Ev) (H:Nat→aZ) (r:Nat) (x:Ed):Ev:=⟨(r:Int),(H r).at r+1,H r,hgt out (H r),x.k,x.key,x.l,x.v⟩
def acB (s:Mk) (r f:Nat):Mk:=(s.1,wz s.2 r ((s.2 r).join (s.2 f)))
def acC (s:Mk) (r:Nat) (x:Ed):Mk:=(s.1++[Df s.1 s.2 r x],wz s.2 r ((s.2 r).inc r))
def FZ (s:Mk) (c:WB):Mk:=
 if c.sy=true then acB s (c.r%5).toNat (c.f%5).toNat else acC s (c.r%5).toNat (kC c.ed)
def aZ.in (c:aZ) (M:Int):Prop:=(0≤c.c0∧c.c0≤M)∧(0≤c.c1∧c.c1≤M)∧(0≤c.c2∧c.c2≤M)∧(0≤c.c3∧c.c3≤M)∧(0≤c.c4∧c.c4≤M)
def MkB (s:Mk) (n:Nat):Prop:=(∀q,(s.2 q).in n)∧(∀e∈s.1,0≤e.h∧e.h≤(n:Int))∧s.1.length≤n
theorem aZ.in.mono {c:aZ} {M N:Int} (h:c.in M) (hMN:M≤N):c.in N:=by unfold aZ.in at*;omega
theorem aZ.in.join {a b:aZ} {M:Int} (ha:a.in M) (hb:b.in M):(a.join b).in M:=by
 unfold aZ.in at*
 unfold aZ.join Hw
 simp only
 refine⟨?_, ?_, ?_, ?_, ?_⟩<;>split<;>omega
theorem aZ.in.inc {a:aZ} {M:Int} (ha:a.in M): ∀r,(a.inc r).in (M+1)
  |0=>by unfold aZ.in aZ.inc at*;simp only;omega
  |1=>by unfold aZ.in aZ.inc at*;simp only;omega
  |2=>by unfold aZ.in aZ.inc at*;simp only;omega
  |3=>by unfold aZ.in aZ.inc at*;simp only;omega
  |_+4=>by unfold aZ.in aZ.inc at*;simp only;omega
theorem Ox {P:aZ→Prop} {H:Nat→aZ} {r:Nat} {c:aZ} (h: ∀q,P (H q)) (hc:P c) (q:Nat):P (wz H r c q):=by
 unfold wz
 cases Nat.beq q r with
 |true=>exact hc
 |false=>exact h q
theorem MkB.step {s:Mk} {n:Nat} (h:MkB s n) (c:WB):MkB (FZ s c) (n+1):=by
 obtain⟨h1,h2,h3⟩:=h
 have h1': ∀q,(s.2 q).in ((n+1:Nat):Int):=fun q=>(h1 q).mono (by omega)
 unfold FZ
 split
 · exact⟨fun q=>Ox (P:=fun c=>c.in ((n+1:Nat):Int)) h1' ((h1' _).join (h1' _)) q,fun e he=>by have:=h2 e he;omega,by show s.1.length≤_;omega⟩
 · refine⟨fun q=>Ox (P:=fun c=>c.in ((n+1:Nat):Int)) h1' ?_ q,fun e he=> ?_, ?_⟩
   · have:=(h1 (c.r%5).toNat).inc (c.r%5).toNat
     exact this.mono (by omega)
   · rcases List.mem_append.1 he with he|he
     · have:=h2 e he
       omega
     · rw[List.mem_singleton.1 he]
       have:=aax (c:=s.2 (c.r%5).toNat) (M:=n) (by omega) h2
       show 0≤hgt s.1 (s.2 (c.r%5).toNat)∧hgt s.1 (s.2 (c.r%5).toNat)≤((n+1:Nat):Int)
       omega
   · show(s.1++[_]).length≤_
     rw[List.length_append,List.length_singleton]
     omega
end
section
open Go.RowKit
def F5 (r n:Int):List Value:=[.int .i64 r,.int .i64 n]
def qy (r n:Int):Value:= .agg (F5 r n).toArray
def evV (e:Ev):Value:= .agg e.vs.toArray
def QK (v:Value):Prop:= ∃r n,v=qy r n
def BA (l:List Ev):List (Value×Value):=l.map fun e=>(qy e.r e.n,evV e)
theorem Jp {r n r' n':Int}:qy r n=qy r' n'↔r=r'∧n=n':=by simp[qy,F5]
theorem Jq (a b a' b':Int) (w:World):(Op.equalIn 10000 44 (.agg #[.int .i64 a,.int .i64 b]) (.agg #[.int .i64 a',.int .i64 b'])).run Tryz.prog w= .ok (decide (a=a'∧b=b')) w:=by
 have hS:Tryz.prog.underlying 44=some (.struct (Tryz.prog.fieldsOf 44)):=by kernel_rfl
 have u3:=Tryz.underlying3
 have a3:=Tryz.isAgg3
 have z3:=Tryz.sizeOf3
 rw[show(10000:Nat)=9999+1 from rfl,run_equalIn_agg w 9999 44 _ _ hS (by kernel_rfl)]
 simp only[Program.fieldsOf,Tryz.underlying44]
 go_simp
 repeat' split
 all_goals simp_all
theorem QL:Tryz.prog.eqGuardType Tryz.prog.depth 44=false:=by kernel_rfl
theorem Yf (m:Bool) (r n:Int) (w:World):(Instr.checkKey m 10000 44 (qy r n)).run Tryz.prog w= .ok () w:=by
 have u3:=Tryz.underlying3
 have a3:=Tryz.isAgg3
 have z3:=Tryz.sizeOf3
 rw[show(10000:Nat)=9999+1 from rfl,Instr.checkKey]
 simp only[Sem.run_bind,run_underlying Tryz.underlying44,Result.andThen_ok,qy,F5]
 have c3: ∀x:Int,(Instr.checkKey m 9999 3 (.int .i64 x)).run Tryz.prog w= .ok () w:=fun x=>MapKept.run_checkKey u3 (show MapKept.IsKey (.int .i64) (.int .i64 x)from rfl) m 9998
 go_simp
theorem kH:Ti Tryz.prog 44 QK where
 chk:=by rintro m _ w ⟨r,n,rfl⟩;exact Yf m r n w
 now:=⟨_,Tryz.underlying44,by rintro _ _ ⟨r,n,rfl⟩ ⟨r',n',rfl⟩;rfl⟩
 eq:=by
  rintro _ _ w ⟨r,n,rfl⟩ ⟨r',n',rfl⟩
  exact⟨_,by rw[decide_eq_true_eq,Jp],Jq r n r' n' w⟩
 bits:=by rintro _ ⟨r,n,rfl⟩;simp[qy,F5,Instr.sameBits]
theorem jB (r n:Int):Whole (.agg [.v (.int .i64 r),.v (.int .i64 n)]) (qy r n):=Whole.agg (F5 r n)
theorem mW (e:Ev):Whole e.av (evV e):=Whole.agg e.vs
theorem Az (l:List Ev): ∀p∈BA l,QK p.1:=fun p hp=>by
 obtain⟨e,_,rfl⟩:=List.mem_map.1 hp
 exact⟨_,_,rfl⟩
theorem Yg {l:List Ev} {r n:Int} (h: ∀e∈l,¬ (e.r=r∧e.n=n)): ∀p∈BA l,QK p.1∧p.1≠qy r n:=fun p hp=>by
 obtain⟨e,he,rfl⟩:=List.mem_map.1 hp
 exact⟨⟨_,_,rfl⟩,fun e'=>h e he (Jp.1 e')⟩
def ev0:Ev:=⟨0,0,⟨0,0,0,0,0⟩,0,0,⟨#[]⟩,0,⟨#[]⟩⟩
theorem aaC {t:TypeId} {v:Value} (h:(Tryz.prog.info? t).bind (·.zero)=some v) (w:World):(zeroValue t).run Tryz.prog w= .ok v w:=by
 cases hi:Tryz.prog.info? t with
 |none=>rw[hi]at h;cases h
 | some info=>
   rw[hi]at h
   have h:info.zero=_:=h
   simp[zeroValue,typeInfo,hi,h]
theorem qX (w:World):(zeroValue 42).run Tryz.prog w= .ok (evV ev0) w:=aaC (by kernel_rfl) w
theorem pW (e:Ev):aH Tryz.prog 154 [e.av] (.agg [.v (.int .i64 e.r),.v (.int .i64 e.n)]) []:=by
 obtain⟨r,n,⟨c0,c1,c2,c3,c4⟩,h,k,key,l,v⟩:=e
 dsimp only[Ev.av,Ev.cs]
 refine K1.E 0x7 Tryz.func154 ?_
 repeat' ((conv=>whnf);first|refine K1.w ?_|refine K1.u ?_|refine aG.cO ?_|refine K1.z ?_|refine K1.y (fun _=> ?_) (fun _=> ?_)|fail)
 all_goals(conv=>whnf)
 all_goals exact aW.mk (aj.refl _)
theorem aaD (a b:aZ):aH Tryz.prog 184 [a.av,b.av] (.v (.bool (a.le b))) []:=by
 dsimp only[aZ.av,aZ.cs]
 refine K1.E 0x80ff Tryz.func184 ?_
 repeat' ((conv=>whnf);first|refine K1.w ?_|refine K1.u ?_|refine aJ.rP 6 6 rfl ?_|refine aG.cO ?_|refine K1.z ?_|refine K1.y (fun _=> ?_) (fun _=> ?_)|fail)
 all_goals(conv=>whnf)
 all_goals(refine aW.mk (aj.of ?_))
 all_goals(unfold aZ.le;congr 2;simp;try omega)
end
section
open Go.RowKit
def Jr (l:List Ev) (r n:Int):Option Ev:=l.find? fun e=>decide (e.r=r∧e.n=n)
def sQ (c:aZ) (l:List Ev) (r:Nat):Option Ev:=match Jr l r (c.at r+1)with
  |some e=>if 1≤e.n∧e.c.le c=true then some e else none
  |none=>none
def sS (c:aZ) (l:List Ev):Option Ev:=(List.range 5).findSome? (sQ c l)
theorem Js {c:aZ} {l:List Ev} {j:Nat} {e:Ev} (hj:j<5) (hq: ∀q,q<j→sQ c l q=none) (h:sQ c l j=some e):sS c l=some e:=by
 unfold sS
 rw[show List.range 5=[0,1,2,3,4]from rfl]
 rcases(show j=0∨j=1∨j=2∨j=3∨j=4 by omega)with rfl|rfl|rfl|rfl|rfl
 · simp[h]
 · simp[h,hq 0 (by omega)]
 · simp[h,hq 0 (by omega),hq 1 (by omega)]
 · simp[h,hq 0 (by omega),hq 1 (by omega),hq 2 (by omega)]
 · simp[h,hq 0 (by omega),hq 1 (by omega),hq 2 (by omega),hq 3 (by omega)]
theorem U0 {c:aZ} {l:List Ev} (hq: ∀q,q<5→sQ c l q=none):sS c l=none:=by
 unfold sS
 rw[List.findSome?_eq_none_iff]
 intro q h
 exact hq q (List.mem_range.1 h)
theorem AA {l:List Ev} {r n:Int} {e:Ev} (h:Jr l r n=some e):e.r=r∧e.n=n∧ ∃A B,l=A++e::B:=by
 have h1:=List.find?_some h
 have h2:=List.mem_of_find?_eq_some h
 simp only[decide_eq_true_eq]at h1
 obtain⟨A,B,e'⟩:=List.append_of_mem h2
 exact⟨h1.1,h1.2,A,B,e'⟩
theorem AB {l:List Ev} {r n:Int} (h:Jr l r n=none): ∀e∈l,¬ (e.r=r∧e.n=n):=fun e he=>by
 have:=List.find?_eq_none.1 h e he
 simpa using this
theorem F6 (A B:List Ev) (e:Ev):BA (A++e::B)=BA A++(qy e.r e.n,evV e)::BA B:=by simp[BA]
theorem Yh (c:aZ) (l:List Ev) (hc: ∀r,0≤c.at r∧c.at r≤1000000000):aY Tryz.prog 155 [(0,.obs (QJ (BA l)))] [c.av,.own 0] (.dM [((sS c l).getD ev0).av,.v (.bool (sS c l).isSome)]) [(0,.obs (QJ (BA l)))]:=by
 generalize hn:sS c l=nx
 obtain⟨c0,c1,c2,c3,c4⟩:=c
 have k0:0≤c0∧c0≤1000000000:=hc 0
 have k1:0≤c1∧c1≤1000000000:=hc 1
 have k2:0≤c2∧c2≤1000000000:=hc 2
 have k3:0≤c3∧c3≤1000000000:=hc 3
 have k4:0≤c4∧c4≤1000000000:=hc 4
 dsimp only[aZ.av,aZ.cs]
 refine K1.M 0x4000007f7 Tryz.func155 10 ?_
 repeat' ((conv=>whnf);first|refine K1.w ?_|refine K1.u ?_|refine K1.z ?_|refine K1.y (fun _=> ?_) (fun _=> ?_)|fail)
 conv=>whnf
 refine aJ.mk {j:Nat//j≤5∧ ∀q,q<j→sQ ⟨c0,c1,c2,c3,c4⟩ l q=none} (fun j=>⟨[(9,.v (.int .i64 (j.1:Int))),(5,.v (.bool false)),(4,.box 11 0),(2,.box 10 0),(1,.own 0)],[(11,.box 42 ev0.cs),(10,.box 31 [.v (.int .i64 c0),.v (.int .i64 c1),.v (.int .i64 c2),.v (.int .i64 c3),.v (.int .i64 c4)]),(0,.obs (QJ (BA l)))],[[(0,.own 0)]],12⟩)
  (fun j=>5-j.1) ⟨0,by omega,fun q h=>absurd h (Nat.not_lt_zero q)⟩ _ (dB.mk' [] _ _ _ rfl ⟨aj.int rfl,aj.refl _,aj.refl _,aj.refl _,aj.refl _,trivial⟩ ⟨⟨_,rfl,au.refl _⟩,⟨_,rfl,au.refl _⟩,⟨_,rfl,au.refl _⟩,trivial⟩ rfl) ?_
 rintro⟨j,hj,hq⟩
 dsimp only
 rcases(show j=5∨j<5 by omega)with rfl|hj5
 · obtain rfl:none=nx:=by rw[←hn];exact(U0 hq).symm
   repeat' ((conv=>whnf);first|refine K1.w ?_|refine K1.u ?_|refine K1.z ?_|refine K1.y (fun _=> ?_) (fun _=> ?_)|fail)
   all_goals(conv=>whnf)
   exact⟨[],rfl,rfl,⟨⟨_,rfl,au.refl _⟩,trivial⟩,rfl,rfl,aj.refl _⟩
 · have back:sQ ⟨c0,c1,c2,c3,c4⟩ l j=none→ ∀q,q<j+1→sQ ⟨c0,c1,c2,c3,c4⟩ l q=none:=fun h q hlt=>by
    rcases Nat.lt_or_ge q j with h'|h'
    · exact hq q h'
    · obtain rfl:=Nat.le_antisymm (Nat.le_of_lt_succ hlt) h'
      exact h
   have hcj:0≤aZ.at ⟨c0,c1,c2,c3,c4⟩ j:=(hc j).1
   cases hf:Jr l j (aZ.at ⟨c0,c1,c2,c3,c4⟩ j+1)with
   | none=>
     have hb:=back (by unfold sQ;rw[hf])
     have hno:=Yg (AB hf)
     clear back hc hq hf hn
     rcases(show j=0∨j=1∨j=2∨j=3∨j=4 by omega)with rfl|rfl|rfl|rfl|rfl
     all_goals
      repeat' ((conv=>whnf);first|refine K1.w ?_|refine K1.u ?_|refine K1.P1 (pW _) rfl ?_|refine nK.look kH Tryz.underlying221 rfl rfl rfl (jB _ _) ⟨_,_,rfl⟩ qX (mW ev0) hno ?_|refine qM.mk (by decide) ?_|refine K1.z ?_|refine K1.y (fun _=> ?_) (fun _=> ?_)|fail)
      all_goals(conv=>whnf)
      exact⟨⟨_,by omega,hb⟩,_,dB.mk' [] _ _ _ rfl ⟨aj.int rfl,aj.refl _,aj.refl _,aj.refl _,aj.refl _,trivial⟩ ⟨⟨_,rfl,au.refl _⟩,⟨_,rfl,au.refl _⟩,⟨_,rfl,au.refl _⟩,trivial⟩ rfl,by dsimp only;omega⟩
   | some e=>
     obtain⟨h1,h2,A,B,hl⟩:=AA hf
     have hs0:BA l=BA A++(qy (j:Int) (aZ.at ⟨c0,c1,c2,c3,c4⟩ j+1),evV e)::BA B:=by rw[hl,F6,h1,h2]
     have hn1:1≤e.n:=by omega
     have hle:=aaD e.c ⟨c0,c1,c2,c3,c4⟩
     cases hc':e.c.le ⟨c0,c1,c2,c3,c4⟩with
     | true=>
       obtain rfl:some e=nx:=by rw[←hn];exact(Js hj5 hq (by unfold sQ;rw[hf];simp[hn1,hc'])).symm
       rw[hc']at hle
       dsimp only[aZ.av,aZ.cs]at hle
       clear back hc hq hf hn h1 h2 hc'
       rcases(show j=0∨j=1∨j=2∨j=3∨j=4 by omega)with rfl|rfl|rfl|rfl|rfl
       all_goals
        repeat' ((conv=>whnf);first|refine K1.w ?_|refine K1.u ?_|refine K1.P1 (pW _) rfl ?_|refine K1.P1 (hle) rfl ?_|refine nK.Tq kH Tryz.underlying221 rfl rfl rfl (jB _ _) ⟨_,_,rfl⟩ ⟨_,qX⟩ (mW e) hs0 (Az l) ?_|refine qM.mk (by decide) ?_|refine K1.z ?_|refine K1.y (fun _=> ?_) (fun _=> ?_)|fail)
        all_goals(conv=>whnf)
        exact⟨[],rfl,rfl,⟨⟨_,rfl,au.refl _⟩,trivial⟩,rfl,rfl,aj.refl _⟩
     | false=>
       have hb:=back (by unfold sQ;rw[hf];simp[hc'])
       rw[hc']at hle
       dsimp only[aZ.av,aZ.cs]at hle
       clear back hc hq hf hn h1 h2 hc'
       rcases(show j=0∨j=1∨j=2∨j=3∨j=4 by omega)with rfl|rfl|rfl|rfl|rfl
       all_goals
        repeat' ((conv=>whnf);first|refine K1.w ?_|refine K1.u ?_|refine K1.P1 (pW _) rfl ?_|refine K1.P1 (hle) rfl ?_|refine nK.Tq kH Tryz.underlying221 rfl rfl rfl (jB _ _) ⟨_,_,rfl⟩ ⟨_,qX⟩ (mW e) hs0 (Az l) ?_|refine qM.mk (by decide) ?_|refine K1.z ?_|refine K1.y (fun _=> ?_) (fun _=> ?_)|fail)
        all_goals(conv=>whnf)
        exact⟨⟨_,by omega,hb⟩,_,dB.mk' [] _ _ _ rfl ⟨aj.int rfl,aj.refl _,aj.refl _,aj.refl _,aj.refl _,trivial⟩ ⟨⟨_,rfl,au.refl _⟩,⟨_,rfl,au.refl _⟩,⟨_,rfl,au.refl _⟩,trivial⟩ rfl,by dsimp only;omega⟩
end
section
open Go.RowKit
def qY (c:aZ) (w:List Ev) (e:Ev):List Ev:=if(Jr w e.r e.n).isSome||hasB c e.r e.n then w else w++[e]
def lZ (c:aZ) (l:List Ev):List Ev:=l.foldl (qY c) []
def DT (w:List Ev) (e:Ev):List Ev:=w.eraseP fun x=>decide (x.r=e.r∧x.n=e.n)
def Yi:Nat→aZ→List Ev→List Ev→List Ev×List Ev×aZ
  |0,c,w,d=>(d,w,c)
  | f+1,c,w,d=>match sS c w with
    |none=>(d,w,c)
    |some e=>Yi f (c.inc e.r.toNat) (DT w e) (d++[e])
def wB (c:aZ) (l:List Ev):List Ev×List Ev×aZ:=Yi (lZ c l).length c (lZ c l) []
def Dm (w:List Ev):Prop:=w.Pairwise fun a b=> ¬ (a.r=b.r∧a.n=b.n)
theorem Yj {c:aZ} {w:List Ev} {e:Ev} (h:Dm w):Dm (qY c w e):=by
 unfold qY
 split
 · exact h
 · rename_i hn
   simp only[Bool.or_eq_true,not_or,Bool.not_eq_true,Option.isSome_eq_false_iff,Option.isNone_iff_eq_none]at hn
   refine List.pairwise_append.2 ⟨h,List.pairwise_singleton ..,fun a ha b hb=> ?_⟩
   obtain rfl:=List.mem_singleton.1 hb
   exact AB hn.1 a ha
theorem Yk (c:aZ) (l:List Ev):Dm (lZ c l):=by
 have: ∀ (l w:List Ev),Dm w→Dm (l.foldl (qY c) w):=fun l=>by
  induction l with
  |nil=>exact fun _ h=>h
  |cons e l ih=>exact fun w h=>ih _ (Yj h)
 exact this l [] .nil
theorem U1 (c:aZ) (w:List Ev) (e:Ev):(qY c w e).length≤w.length+1:=by
 unfold qY
 split
 · omega
 · simp
theorem F7 {c:aZ} {l:List Ev} {j:Nat} (h:j<l.length):lZ c (l.take (j+1))=qY c (lZ c (l.take j)) (l.getD j default):=by
 unfold lZ
 rw[List.take_succ_eq_append_getElem h,List.foldl_append]
 simp[List.getD,h]
theorem BX (c:aZ) (l:List Ev): ∀j,j≤l.length→(lZ c (l.take j)).length≤j
  |0,_=>by simp[lZ]
  | j+1,h=>by
    rw[F7 (by omega)]
    have h1:=U1 c (lZ c (l.take j)) (l.getD j default)
    have h2:=BX c l j (by omega)
    omega
theorem Yl {c:aZ} {w:List Ev} {e:Ev} (h:sS c w=some e): ∃r:Nat,r<5∧e.r=(r:Int)∧e.n=c.at r+1∧e.c.le c=true∧1≤e.n∧e∈w:=by
 obtain⟨r,hr,h1⟩:=List.exists_of_findSome?_eq_some h
 have hr:=List.mem_range.1 hr
 unfold sQ at h1
 split at h1
 · rename_i x hx
   obtain⟨g1,g2,A,B,g3⟩:=AA hx
   split at h1
   · rename_i hc
     cases h1
     exact⟨r,hr,g1,g2,hc.2,hc.1,by rw[g3];simp⟩
   · cases h1
 · cases h1
theorem F8 {w:List Ev} {e:Ev} (h:e∈w): ∃a A B,w=A++a::B∧DT w e=A++B∧a.r=e.r∧a.n=e.n:=by
 obtain⟨a,A,B,_,h2,h3,h4⟩:=List.exists_of_eraseP (p:=fun x:Ev=>decide (x.r=e.r∧x.n=e.n)) h (by simp)
 simp only[decide_eq_true_eq]at h2
 exact⟨a,A,B,h3,h4,h2.1,h2.2⟩
theorem Ym {w:List Ev} {e:Ev} (h:e∈w):(DT w e).length+1=w.length:=by
 obtain⟨a,A,B,h1,h2,_⟩:=F8 h
 rw[h2,h1]
 simp
 omega
theorem left_eq: ∀ {W w:List Ev},Dm W→w.Sublist W→W.filter (fun e=>(Jr w e.r e.n).isSome)=w
  |[],w,_,h=>by rw[List.sublist_nil.1 h];rfl
  | x ::W,w,hd,h=>by
    obtain⟨hx,hW⟩:=List.pairwise_cons.1 hd
    rcases List.sublist_cons_iff.1 h with h2|⟨v,rfl,h2⟩
    · have:(Jr w x.r x.n).isSome=false:=by
       rw[Option.isSome_eq_false_iff,Option.isNone_iff_eq_none]
       refine List.find?_eq_none.2 fun y hy=> ?_
       have:=hx y (h2.subset hy)
       simp only[decide_eq_true_eq]
       exact fun hh=>this ⟨hh.1.symm,hh.2.symm⟩
      rw[List.filter_cons,this]
      exact left_eq hW h2
    · have:(Jr (x::v) x.r x.n).isSome=true:=by simp[Jr]
      rw[List.filter_cons,this,if_pos rfl]
      congr 1
      refine(List.filter_congr fun e he=> ?_).trans (left_eq hW h2)
      have hne:=hx e he
      simp only[Jr,List.find?_cons]
      rw[show decide (x.r=e.r∧x.n=e.n)=false by simpa using hne]
theorem Tt: ∀ (f:Nat) (c:aZ) (w d:List Ev),((Yi f c w d).2.1).Sublist w
  |0,_,w,_=>List.Sublist.refl w
  | f+1,c,w,d=>by
    unfold Yi
    split
    · exact List.Sublist.refl w
    · exact(Tt f _ _ _).trans List.eraseP_sublist
theorem aaE (c:aZ) {r:Nat} (q:Nat) (hr:r<5):(c.inc r).at q≤c.at q+1∧c.at q≤(c.inc r).at q:=by
 obtain⟨c0,c1,c2,c3,c4⟩:=c
 rcases(show r=0∨r=1∨r=2∨r=3∨r=4 by omega)with rfl|rfl|rfl|rfl|rfl
 all_goals
  match q with
  |0=>simp only[aZ.inc,aZ.at];omega
  |1=>simp only[aZ.inc,aZ.at];omega
  |2=>simp only[aZ.inc,aZ.at];omega
  |3=>simp only[aZ.inc,aZ.at];omega
  |_+4=>simp only[aZ.inc,aZ.at];omega
end
end Go.Proofs.YtimhagicagdkfaaGreat
