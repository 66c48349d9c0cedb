/-
  Contracts of the walk:AmO,ClG,Dk,Cf,HbA,HbB,HbC,HbD.
-/
import Derived.Test.YtopfgjgdadnjeaaGreatHp7
import Derived.Test.YtopfgjgdadnjeaaGreatHp11
set_option maxHeartbeats 16000000
set_option maxRecDepth 100000
set_option linter.unusedVariables false
set_option linter.unusedSimpArgs false
namespace Go.Proofs.YtopfgjgdadnjeaaGreat
open Go.RowKit
variable{r:AV}{X:CX}{most:Int}{ho hs:List (Nat×AO)}{bD:List AV}{d i j k m n:Nat}{F f f':Nat->List AV}{P:Program}{Y:Type}{t:TypeId}
def Opens(o:OB)(j:Nat){Y:Type}(hs:Y->List (Nat×AO)):Prop:=
 ∀(w:World)(k:Nat->Prop)(v:Value),o.R w k v-> ∃(y:Y) (ρ:Nat->Value),fM (ρ j)=fM v/\(ah ρ (hs y)).Perm (blks v)/\ ∀p∈hs y,bn ⟨w,k,ρ⟩ p.1 p.2
def Closes(hs:List (Nat×AO))(j:Nat)(o:OB):Prop:=
 ∀(w:World)(k:Nat->Prop)(ρ:Nat->Value),(ah ρ hs).Nodup->(∀p∈hs,bn ⟨w,k,ρ⟩ p.1 p.2)-> ∃us,o.R w k (.tuple us)/\fM (.tuple us)=fM (ρ j)/\ ∀b∈blks (.tuple us),b∈ah ρ hs
def Iu(q:Nat->Bool)(j:Nat):AV->Bool
 | .own i=>q i||Nat.beq i j
 | .box i _=>q i||Nat.beq i j
 | .dP i .. =>q i
 | .jm i .. =>q i||Nat.beq i j
 | .cf _ i _=>q i||Nat.beq i j
 |_=>true
def rD(q:Nat->Bool)(j:Nat):AV->Bool
 | .agg cs=>cs.all (Iu q j)
 | .fn _ cs=>cs.all (Iu q j)
 |x=>Iu q j x
def nJ(q:Nat->Bool)(j:Nat):AV->Bool
 | .bJ vs=>vs.all (rD q j)
 |x=>rD q j x
section
variable{X Y:CX}{q:Nat->Bool}{j:Nat}(hk:∀b,X.keep b->Y.keep b)(hm:Y.w=X.w)(hρ:∀i,q i=true->Y.ρ i=X.ρ i)(hj:fM (Y.ρ j)=fM (X.ρ j))
include hk hm hρ hj
theorem C0.kP{av:AV}{u:Value}(hr:Iu q j av=true)(hc:C0 X av u):C0 Y av u:=by
 have hmm:∀b,X.keep b->Y.w.heap[b]? =X.w.heap[b]? :=λ _ _=>by rw[hm]
 have hh:∀i,(q i||Nat.beq i j)=true->fM (Y.ρ i)=fM (X.ρ i):=λ i h=>by
  simp only[Bool.or_eq_true]at h;rcases h with h|h
  ·rw[hρ i h]
  ·rw[Nat.eq_of_beq_eq_true h];exact hj
 cases av with
 |own id=>exact(show u=fM (X.ρ id)from hc).trans (hh id hr).symm
 |dP id s i k=>obtain⟨b,n,c,h1,h2⟩:=hc;exact⟨b,n,c,(hρ id hr).trans h1,h2⟩
 |jm id s i k=>exact Or.imp (λ⟨b,c,h1,h2⟩=>⟨b,c,(congrArg oZ (hh id hr)).trans h1,h2⟩) _root_.id hc
 |box id off=>obtain⟨b,h1,h2⟩:=hc;exact⟨b,(hh id hr).trans h1,h2⟩
 |cf gg id off=>obtain⟨b,h1,h2⟩:=hc;exact⟨b,(hh id hr).trans h1,h2⟩
 |el cs k=>
  obtain⟨b,o,us,e,kb,ha,hcell⟩:=hc;exact⟨b,o,us,e,hk b kb,ha.imp (λ _ _=>PC.mono hk hmm),λ j y hj=>(World.cell?_of_block (hmm b kb)).trans (hcell j y hj)⟩
 |sl s n sc f=>exact PC.mono hk hmm hc
 |v x=>exact hc
 |junk=>trivial
 |agg cs=>exact hc
 |bJ cs=>exact hc
 |fn g caps=>exact hc
theorem C1.kP{av:AV}{u:Value}(hr:rD q j av=true)(hc:C1 X av u):C1 Y av u:=by
 cases av with
 |agg cs=>obtain⟨us,e,ha⟩:=hc;exact⟨us,e,ha.Bo hr λ _ _ q k=>C0.kP hk hm hρ hj q k⟩
 |fn g cs=>obtain⟨us,e,ha⟩:=hc;exact⟨us,e,ha.Bo hr λ _ _ q k=>C0.kP hk hm hρ hj q k⟩
 |own id=>exact C1.sH (C0.kP hk hm hρ hj (av:= .own id) hr hc)
 |dP id s i k=>exact C1.sH (C0.kP hk hm hρ hj (av:= .dP id s i k) hr hc)
 |jm id s i k=>exact C1.sH (C0.kP hk hm hρ hj (av:= .jm id s i k) hr hc)
 |box id k=>exact C1.sH (C0.kP hk hm hρ hj (av:= .box id k) hr hc)
 |cf gg id k=>exact C1.sH (C0.kP hk hm hρ hj (av:= .cf gg id k) hr hc)
 |el cs k=>exact C1.sH (C0.kP hk hm hρ hj (av:= .el cs k) hr hc)
 |sl s n sc f=>exact C1.sH (C0.kP hk hm hρ hj (av:= .sl s n sc f) hr hc)
 |v x=>exact hc
 |junk=>trivial
 |bJ cs=>exact hc
theorem C2.kP{av:AV}{u:Value}(hr:nJ q j av=true)(hc:C2 X av u):C2 Y av u:=by
 cases av with
 |bJ vs=>obtain⟨us,e,ha⟩:=hc;exact⟨us,e,ha.Bo hr λ _ _ q k=>C1.kP hk hm hρ hj q k⟩
 |agg cs=>exact C2.kF (C1.kP hk hm hρ hj (av:= .agg cs) hr hc)
 |fn g cs=>exact C2.kF (C1.kP hk hm hρ hj (av:= .fn g cs) hr hc)
 |own id=>exact C2.kF (C1.kP hk hm hρ hj (av:= .own id) hr hc)
 |dP id s i k=>exact C2.kF (C1.kP hk hm hρ hj (av:= .dP id s i k) hr hc)
 |jm id s i k=>exact C2.kF (C1.kP hk hm hρ hj (av:= .jm id s i k) hr hc)
 |box id k=>exact C2.kF (C1.kP hk hm hρ hj (av:= .box id k) hr hc)
 |cf gg id k=>exact C2.kF (C1.kP hk hm hρ hj (av:= .cf gg id k) hr hc)
 |el cs k=>exact C2.kF (C1.kP hk hm hρ hj (av:= .el cs k) hr hc)
 |sl s n sc f=>exact C2.kF (C1.kP hk hm hρ hj (av:= .sl s n sc f) hr hc)
 |v x=>exact hc
 |junk=>trivial
end
theorem yw(ρ:Nat->Value)(p:Nat×AO):ah ρ [p]=blks (ρ p.1):=by rw[aT];simp[ah]
theorem au.opn{f:FuncId}{o o':OB}{hs:Y->List (Nat×AO)}(hE:Enters P f)(hO:Opens o j hs)
  (h:∀y,∃hs',Closes hs' j o'/\bW j (hs y)=true/\bW j hs'=true/\au P f (hs y) bD r (hs'++ho))
  (hb:(bD.all (rD (λ _=>false) j)&&nJ (λ i=>bW i ho) j r&&iF ho ho&& !(bW j ho))=true):au P f [(j,.obs o)] bD r ((j,.obs o')::ho):=by
 simp only[Bool.and_eq_true,Bool.not_eq_true']at hb;obtain⟨⟨⟨hav,hrr⟩,hcl⟩,hne⟩:=hb;refine⟨hE,λ w keep ρ args hkeep oH hnd hbl hargs=>?_⟩;obtain⟨us,eu,hR⟩:=oH _ (List.mem_singleton.2 rfl);have eu:ρ j= .tuple us:=eu;have hR:o.R w keep (ρ j):=hR;have hsb:=yw ρ (j,.obs o);rw[hsb]at hnd hbl;obtain⟨y,ρ',hhd,hperm,hok⟩:=hO w keep (ρ j) hR;obtain⟨hs',hC,hj1,hj2,hM⟩:=h y;have hmem:∀b,b∈ah ρ' (hs y)↔b∈blks (ρ j):=λ b=>hperm.mem_iff;refine(hM.2 w keep ρ' args hkeep hok (hperm.nodup_iff.2 hnd) (λ b hb=>hbl b ((hmem b).1 hb)) (hargs.Bo hav λ _ _ q k=>C1.kP (X:=⟨w,keep,ρ⟩) (Y:=⟨w,keep,ρ'⟩) (λ _ h=>h) rfl (λ _ h=>by cases h) hhd q k)).mono ?_;rintro e w' ⟨u,rZ,rfl,hbel,hfix,hc,hout,hnd',hnew⟩;rw[dQ,List.nodup_append]at hnd';obtain⟨hn1,hn2,hn3⟩:=hnd';obtain⟨vs,hR',TF,hbs⟩:=hC w' (aI (ig w keep (λ b=>b∈ah ρ' (hs y))) w' rZ (hs'++ho)) rZ hn1 (λ p hp=>hout p (List.mem_append_left _ hp));let nG:Nat->Value:=λ i=>if i=j then .tuple vs else rZ i
 have Oi:nG j= .tuple vs:=by simp[nG]
 have e4:∀i,bW i ho=true->nG i=rZ i:=λ i hi=>by
  have:i≠j:=by rintro rfl;rw[hne]at hi;cases hi
  simp[nG,this]
 have hb4:ah nG ((j,.obs o')::ho)=blks (.tuple vs)++ah rZ ho:=by
  rw[aT,gq λ p hp=>e4 p.1 (cO.2 ⟨p,hp,rfl⟩)];show blks (nG j)++_=_;rw[Oi]
 have Dc:∀b,b∈ah nG ((j,.obs o')::ho)->b∈ah rZ (hs'++ho):=λ b hb=>by
  rw[hb4]at hb;rw[dQ];exact(List.mem_append.1 hb).elim (λ h=>List.mem_append_left _ (hbs b h)) (λ h=>List.mem_append_right _ h)
 have hk4:∀b,aI (ig w keep (λ b=>b∈ah ρ' (hs y))) w' rZ (hs'++ho) b->aI (ig w keep (λ b=>b∈ah ρ [(j,.obs o)])) w' nG ((j,.obs o')::ho) b:=by
  rintro b ⟨h1,h2,h3⟩;exact⟨h1,λ hlt=>(h2 hlt).imp id λ h=>(by show b∈ah ρ [(j,.obs o)];rw[hsb];exact(hmem b).1 h),λ h=>h3 (Dc b h)⟩
 refine⟨u,nG,rfl,⟨hbel.os,hbel.tape,hbel.output,hbel.size,λ k hk hM'=>hbel.block k hk λ h=>hM' (by rw[hsb];exact(hmem k).1 h)⟩, ?_, ?_, ?_, ?_, ?_⟩
 ·intro p hp q hq eq;obtain rfl:=List.mem_singleton.1 hp;refine .inr ⟨⟨vs,Oi⟩,⟨us,eu⟩, ?_⟩;show fM (nG j)=fM (ρ j);rw[Oi,TF,<-hhd];obtain⟨p',hp',ep⟩:=cO.1 hj1;obtain⟨q',hq',eq'⟩:=cO.1 hj2;have:=(hfix p' hp' q' (List.mem_append_left _ hq') (eq'.trans ep.symm)).hd;rw[ep]at this;exact this
 ·exact C2.kP (X:=aB (ig w keep (λ b=>b∈ah ρ' (hs y))) w' rZ (hs'++ho)) (Y:=aB (ig w keep (λ b=>b∈ah ρ [(j,.obs o)])) w' nG ((j,.obs o')::ho)) hk4 rfl e4 (by show fM (nG j)=fM (rZ j);rw[Oi,TF]) hrr hc
 ·intro p hp;rcases List.mem_cons.1 hp with rfl|hp
  ·refine⟨vs,Oi, ?_⟩;show o'.R w' _ (nG j);rw[Oi];exact o'.mono hk4 (λ _ _=>rfl) (λ _ _=>rfl) hR'
  ·exact bn.over (X:=aB (ig w keep (λ b=>b∈ah ρ' (hs y))) w' rZ (hs'++ho)) (Y:=aB (ig w keep (λ b=>b∈ah ρ [(j,.obs o)])) w' nG ((j,.obs o')::ho)) hk4 rfl e4 (cO.2 ⟨p,hp,rfl⟩) (lX hcl p hp) (hout p (List.mem_append_right _ hp))
 ·rw[hb4,List.nodup_append];exact⟨(o'.lt hR').2.2,hn2,λ a ha b hb=>hn3 a (hbs a ha) b hb⟩
 ·intro b hb;rcases hnew b (Dc b hb)with h|h
  ·exact .inl h
  ·exact .inr (by rw[hsb];exact(hmem b).1 h)
theorem au.cls{f:FuncId}{o':OB}{hs':List (Nat×AO)}(hC:Closes hs' j o')(hM:au P f [] bD r (hs'++ho))
  (hb:(nJ (λ i=>bW i ho) j r&&iF ho ho&& !(bW j ho))=true):au P f [] bD r ((j,.obs o')::ho):=by
 simp only[Bool.and_eq_true,Bool.not_eq_true']at hb;obtain⟨⟨hrr,hcl⟩,hne⟩:=hb;refine⟨hM.1,λ w keep ρ args hkeep oH hnd hbl hargs=>(hM.2 w keep ρ args hkeep oH hnd hbl hargs).mono ?_⟩;rintro e w' ⟨u,rZ,rfl,hbel,hfix,hc,hout,hnd',hnew⟩;rw[dQ,List.nodup_append]at hnd';obtain⟨hn1,hn2,hn3⟩:=hnd';obtain⟨vs,hR',TF,hbs⟩:=hC w' (aI (ig w keep (λ b=>b∈ah ρ [])) w' rZ (hs'++ho)) rZ hn1 (λ p hp=>hout p (List.mem_append_left _ hp));let nG:Nat->Value:=λ i=>if i=j then .tuple vs else rZ i
 have Oi:nG j= .tuple vs:=by simp[nG]
 have e4:∀i,bW i ho=true->nG i=rZ i:=λ i hi=>by
  have:i≠j:=by rintro rfl;rw[hne]at hi;cases hi
  simp[nG,this]
 have hb4:ah nG ((j,.obs o')::ho)=blks (.tuple vs)++ah rZ ho:=by
  rw[aT,gq λ p hp=>e4 p.1 (cO.2 ⟨p,hp,rfl⟩)];show blks (nG j)++_=_;rw[Oi]
 have Dc:∀b,b∈ah nG ((j,.obs o')::ho)->b∈ah rZ (hs'++ho):=λ b hb=>by
  rw[hb4]at hb;rw[dQ];exact(List.mem_append.1 hb).elim (λ h=>List.mem_append_left _ (hbs b h)) (λ h=>List.mem_append_right _ h)
 have hk4:∀b,aI (ig w keep (λ b=>b∈ah ρ [])) w' rZ (hs'++ho) b->aI (ig w keep (λ b=>b∈ah ρ [])) w' nG ((j,.obs o')::ho) b:=
  λ b ⟨h1,h2,h3⟩=>⟨h1,h2,λ h=>h3 (Dc b h)⟩
 refine⟨u,nG,rfl,hbel,(λ p hp=>by cases hp), ?_, ?_, ?_,λ b hb=>hnew b (Dc b hb)⟩
 ·exact C2.kP (X:=aB (ig w keep (λ b=>b∈ah ρ [])) w' rZ (hs'++ho)) (Y:=aB (ig w keep (λ b=>b∈ah ρ [])) w' nG ((j,.obs o')::ho)) hk4 rfl e4 (by show fM (nG j)=fM (rZ j);rw[Oi,TF]) hrr hc
 ·intro p hp;rcases List.mem_cons.1 hp with rfl|hp
  ·refine⟨vs,Oi, ?_⟩;show o'.R w' _ (nG j);rw[Oi];exact o'.mono hk4 (λ _ _=>rfl) (λ _ _=>rfl) hR'
  ·exact bn.over (X:=aB (ig w keep (λ b=>b∈ah ρ [])) w' rZ (hs'++ho)) (Y:=aB (ig w keep (λ b=>b∈ah ρ [])) w' nG ((j,.obs o')::ho)) hk4 rfl e4 (cO.2 ⟨p,hp,rfl⟩) (lX hcl p hp) (hout p (List.mem_append_right _ hp))
 ·rw[hb4,List.nodup_append];exact⟨(o'.lt hR').2.2,hn2,λ a ha b hb=>hn3 a (hbs a ha) b hb⟩
def acd{α:Type}(hs:α->List (Nat×AO))(w:World)(k:Nat->Prop)(v:Value):Prop:=
 ∃(x:α) (ρ:Nat->Value) (us:List Value),v= .tuple (fM (ρ 0)::us).toArray/\us.flatMap oZ=ah ρ (hs x)/\(ah ρ (hs x)).Nodup/\bW 0 (hs x)=true/\(fM (ρ 0)).oneCell'=true/\ ∀p∈hs x,bn ⟨w,k,ρ⟩ p.1 p.2
theorem Az(x:Value)(us:List Value):blks (.tuple (x::us).toArray)=us.flatMap oZ:=by simp[blks]
def OB.pack{α:Type}(hs:α->List (Nat×AO)):OB where
 R:=acd hs
 mono:=by
  rintro w w' k k' v hk hm hb ⟨x,ρ,us,rfl,hbl,hnd,hn,h1,hok⟩;rw[Az,hbl]at hb;exact⟨x,ρ,us,rfl,hbl,hnd,hn,h1,λ p hp=>bn.same (X:=⟨w,k,ρ⟩) (Y:=⟨w',k',ρ⟩) hk hm rfl (λ b hb'=>hb b (aU.2 ⟨p,hp,hb'⟩)) (hok p hp)⟩
 lt:=by
  rintro w k v ⟨x,ρ,us,rfl,hbl,hnd,hn,h1,hok⟩;rw[Az,hbl];refine⟨λ b hb=>?_,h1,hnd⟩;obtain⟨p,hp,hb'⟩:=aU.1 hb;exact(hok p hp).lt b hb'
theorem Opens.pack{α:Type}(hs:α->List (Nat×AO)):Opens (OB.pack hs) 0 hs:=by
 rintro w k v ⟨x,ρ,us,rfl,hbl,hnd,hn,h1,hok⟩;exact⟨x,ρ,rfl,by rw[Az,hbl],hok⟩
theorem MR(l:List Nat):(l.map λ b=>Value.pointer (some ⟨b,0,none⟩)).flatMap oZ=l:=by
 induction l with
 |nil=>rfl
 |cons x l ih=>rw[List.map_cons,List.flatMap_cons,ih];rfl
theorem Closes.pack{α:Type}(hs:α->List (Nat×AO))(x:α)(hn:bW 0 (hs x)=true)(h1:∀(X:CX),(∀p∈hs x,bn X p.1 p.2)->(fM (X.ρ 0)).oneCell'=true):Closes (hs x) 0 (OB.pack hs):=by
 intro w k ρ hnd hok;refine⟨_,⟨x,ρ,(ah ρ (hs x)).map λ b=> .pointer (some ⟨b,0,none⟩),rfl,MR _,hnd,hn,h1 ⟨w,k,ρ⟩ hok,hok⟩,rfl,λ b hb=>?_⟩;rw[Az,MR]at hb;exact hb
theorem Opens.imp{o:OB}{Z:Type}{hs:Y->List (Nat×AO)}{gs:Z->List (Nat×AO)}(h:Opens o j hs)(hi:∀(X:CX) y,(ah X.ρ (hs y)).Nodup->(∀p∈hs y,bn X p.1 p.2)-> ∃z ρ',fM (ρ' j)=fM (X.ρ j)/\(ah ρ' (gs z)).Perm (ah X.ρ (hs y))/\ ∀p∈gs z,bn ⟨X.w,X.keep,ρ'⟩ p.1 p.2):Opens o j gs:=by
 intro w k v hR;obtain⟨y,ρ,h1,h2,h3⟩:=h w k v hR;obtain⟨z,ρ',g1,g2,g3⟩:=hi ⟨w,k,ρ⟩ y (h2.nodup_iff.2 (o.lt hR).2.2) h3;exact⟨z,ρ',g1.trans h1,g2.trans h2,g3⟩
theorem Closes.imp{o:OB}{gs:List (Nat×AO)}(h:Closes gs j o)(hi:∀(X:CX),(ah X.ρ hs).Nodup->(∀p∈hs,bn X p.1 p.2)-> ∃ρ',fM (ρ' j)=fM (X.ρ j)/\(ah ρ' gs).Nodup/\(∀b∈ah ρ' gs,b∈ah X.ρ hs)/\ ∀p∈gs,bn ⟨X.w,X.keep,ρ'⟩ p.1 p.2):Closes hs j o:=by
 intro w k ρ hnd hok;obtain⟨ρ',g1,g2,g3,g4⟩:=hi ⟨w,k,ρ⟩ hnd hok;obtain⟨us,a1,a2,a3⟩:=h w k ρ' g2 g4;exact⟨us,a1,a2.trans g1,λ b hb=>g3 b (a3 b hb)⟩
def bU(l:List Ev):AO:= .row 84 12 l.length true (jH l)
theorem wK{cs:List AV}(h:bn X i (.box t cs)):(fM (X.ρ i)).oneCell'=true:=by
 obtain⟨b,us,e,_⟩:=h;rw[e];rfl
def TG(ρ:Nat->Value)(j:Nat)(v:Value):Nat->Value:=λ i=>if i=j then v else ρ i
theorem Closes.ren{j':Nat}{o:OB}(hC:Closes hs j o)(σ:List (Nat×Nat))(hj:jV σ j=some j')(hb:yJ σ hs=true):Closes (iU σ hs) j' o:=by
 intro w k ρ hnd hok;let Oh:Nat->Value:=λ k=>match jV σ k with|some i=>ρ i|none=>undef
 have e0:∀k i,jV σ k=some i->ρ i=Oh k:=λ k i e=>by simp only[Oh,e]
 have hbl:ah ρ (iU σ hs)=ah Oh hs:=oL e0 hb;obtain⟨us,a1,a2,a3⟩:=hC w k Oh (by rw[<-hbl];exact hnd) λ p hp=>by
  obtain⟨i,h1,h2,h3⟩:=Af hb p hp;exact(bn.jE (X:=⟨w,k,Oh⟩) (Y:=⟨w,k,ρ⟩) rfl rfl e0 h1 h3).1 (hok _ h2)
 exact⟨us,a1,a2.trans (by rw[<-e0 j j' hj]),by rw[hbl];exact a3⟩
theorem Xb{cs:List AV}{us:List Value}(hk:cs[k]? =some (.v (.slice none 0 0)))(hd:fM (X.ρ d)= .slice none 0 0)(ha:aN (C0 X) cs us):aN (C0 X) (cs.set k (.own d)) us:=by
 refine⟨by simpa using ha.1,λ i x u hx hu=>?_⟩;rw[List.getElem?_set]at hx;by_cases e:k=i
 ·subst e;simp only[if_true]at hx;split at hx
  ·cases hx;have:u= .slice none 0 0:=ha.2 k _ u hk hu;rw[this];exact hd.symm
  ·cases hx
 ·rw[if_neg e]at hx;exact ha.2 i x u hx hu
theorem Closes.Xc{A B:List (Nat×AO)}{id:Nat}{e:TypeId}{s:Nat}{cs:List AV}{o:OB}(hC:Closes (A++(id,.box t (cs.set k (.own d)))::(B++[(d,.row e s 0 true f)])) j o)
  (hk:cs[k]? =some (.v (.slice none 0 0)))(hs:0<s)(hb:(iF (A++(id,.box t cs)::B) (A++(id,.box t cs)::B)&& !(bW d (A++(id,.box t cs)::B))&& !(Nat.beq j d))=true):Closes (A++(id,.box t cs)::B) j o:=by
 simp only[Bool.and_eq_true,Bool.not_eq_true']at hb;obtain⟨⟨hcl,hno⟩,hjd⟩:=hb;refine Closes.imp hC λ X hnd hok=>?_;let ρ':=TG X.ρ d (.slice none 0 0);have hne:∀i,bW i (A++(id,.box t cs)::B)=true->ρ' i=X.ρ i:=λ i hi=>if_neg (by rintro rfl;rw[hno]at hi;cases hi);have hd:ρ' d= .slice none 0 0:=if_pos rfl;have over:∀p∈A++(id,.box t cs)::B,bn ⟨X.w,X.keep,ρ'⟩ p.1 p.2:=λ p hp=>bn.over (X:=X) (Y:=⟨X.w,X.keep,ρ'⟩) (λ _ h=>h) rfl hne (cO.2 ⟨p,hp,rfl⟩) (lX hcl p hp) (hok p hp);have hbl:ah ρ' (A++(id,.box t (cs.set k (.own d)))::(B++[(d,.row e s 0 true f)]))=ah X.ρ (A++(id,.box t cs)::B):=by
  have h1:=gq (ρ:=X.ρ) (ρ':=ρ') (h:=A) λ p hp=>hne p.1 (cO.2 ⟨p,List.mem_append_left _ hp,rfl⟩);have h2:=gq (ρ:=X.ρ) (ρ':=ρ') (h:=B) λ p hp=>hne p.1 (cO.2 ⟨p,List.mem_append_right _ (List.mem_cons_of_mem _ hp),rfl⟩);have h3:ρ' id=X.ρ id:=hne id (cO.2 ⟨_,List.mem_append_right _ List.mem_cons_self,rfl⟩);have h4:blks (ρ' d)++ah ρ' []=[]:=by rw[hd];rfl
  rw[dQ,show ah ρ' ((id,.box t (cs.set k (.own d)))::(B++[(d,.row e s 0 true f)]))=blks (ρ' id)++ah ρ' (B++[(d,.row e s 0 true f)])from rfl,dQ,dQ,aT,h1,h2,h3];dsimp only;rw[h4,List.append_nil,aT]
 refine⟨ρ',congrArg fM (if_neg λ e=>(by rw[e,Nat.beq_refl]at hjd;cases hjd)),by rw[hbl];exact hnd,λ b hb=>by rw[hbl]at hb;exact hb,λ q hq=>?_⟩;rcases List.mem_append.1 hq with hq|hq
 ·exact over q (List.mem_append_left _ hq)
 rcases List.mem_cons.1 hq with rfl|hq
 ·obtain⟨b,us,g1,g2,g3⟩:=over (id,.box t cs) (List.mem_append_right _ List.mem_cons_self);exact⟨b,us,g1,g2,Xb hk (by show fM (ρ' d)=_;rw[hd];rfl) g3⟩
 rcases List.mem_append.1 hq with hq|hq
 ·exact over q (List.mem_append_right _ (List.mem_cons_of_mem _ hq))
 ·obtain rfl:=List.mem_singleton.1 hq;exact⟨[],by show World.ownsRow _ 0 e s (ρ' d) 0 [];rw[hd];exact World.ownsRow_nil X.w _ _ _,hs,λ i hi=>absurd hi (by omega),(λ _ x hx=>by cases hx),aN.nil⟩
theorem fP.box{t:TypeId}{cs cs':List AV}(h:∀X us,aN (C0 X) cs us->aN (C0 X) cs' us):fP (.box t cs) (.box t cs'):=by
 rintro X id ⟨b,us,h1,h2,h3⟩;exact⟨b,us,h1,h2,h X us h3⟩
structure Dk where
 (bs:List UInt8)(down cut:Bool)(keep:Int)
def uQ(m:AV)(d:Dk):AO:= .box 138 [m,.v (.bool d.down),.v (.bool d.cut),.v (.int .i64 d.keep)]
def fJ(l:List UInt8):AO:= .row 5 1 l.length true (aG l)
def dk0:Dk:=⟨[],false,false,0⟩
theorem C1.aa3{u:Value}(h:C1 X (.v (.slice none 0 0)) u):C1 X (.sl 1 0 true f) u:=by
 have h:u= .slice none 0 0:=h;subst h;exact .sl 1 0 true f none 0 [] (by omega) (Nat.le_refl _) (by simp[maxLen]) rfl (λ i hi=>absurd hi (by omega)) (λ _ x hx=>by cases hx) (λ i x u hx=>by simp[flat]at hx) (.inl rfl)
theorem TJ(d:Nat)(l:List UInt8)(hF:aS F l)(hn:n=l.length)(hl:l.length<=1000000000):aC Tryz.prog 110 [.sl 1 n true F] (.own d) [(d,fJ l)]:=by
 refine K1.E 0x15 Tryz.func110 ?_;repeat' ((conv=>whnf);first|refine K1.u ?_|refine K1.z ?_|refine K1.y (λ _=>?_) (λ _=>?_)|fail)
 all_goals(conv=>whnf)
 ·have h0:n=0:=by assumption
  obtain rfl:l=[]:=List.eq_nil_of_length_eq_zero (by omega);exact aO.nil d _ 1 _ rfl (by decide)
 ·refine aO.o8 d rfl rfl ?_ (aP);refine fP.row (by omega) λ i hi=>?_;exact hF i (by omega)
theorem clone_nil:aC Tryz.prog 110 [.v (.slice none 0 0)] (.v (.slice none 0 0)) []:=by
 refine K1.E 0x15 Tryz.func110 ?_;repeat' ((conv=>whnf);first|refine K1.u ?_|refine aO.dW ?_|refine K1.z ?_|refine K1.y (λ _=>?_) (λ _=>?_)|fail)
 all_goals(conv=>whnf)
 exact aW.mk (aP)
theorem all_nil:aC Tryz.prog 79 [.v (.slice none 0 0)] (.bJ [.sl 9 0 false (rcF []),.v (.int .i64 0)]) []:=by
 have hr:yX [] [] []:=⟨by simp,rfl,by unfold og;rw[if_pos (.inl (by decide))]⟩;have:=MQ (n:=0) (F:=aG []) [] (aS.bytes _) rfl (by decide) hr;exact this.args (.of (λ _ _ h=>C1.aa3 h) .nil)
def rE(keep:Int)(n:Nat):Int:=if(n:Int)<(if 0>keep then 0 else keep)then(n:Int)else(if 0>keep then 0 else keep)
theorem FH(keep:Int)(n:Nat):0<=rE keep n/\rE keep n<=n:=by
 unfold rE;split<;>split<;>omega
def ny(d:Dk)(b:List UInt8):Dk×Int:=
 if d.down then(d,18)else if d.cut then(⟨d.bs++b.take (rE d.keep b.length).toNat,true,false,d.keep⟩,18)else(⟨d.bs++b,false,false,d.keep⟩,0)
theorem Pv(d d':Dk)(b:List UInt8)(x:Int)(hF:aS F b)(hn:n=b.length)(h1:d.bs.length<=1000000000)(h2:b.length<=1000000000)(hw:ny d b=(d',x)):
  au Tryz.prog 96 [(0,uQ (.own 1) d),(1,fJ d.bs)] [.box 0 0,.sl 1 n true F] (.v (.int .i64 x)) [(0,uQ (.own 2) d'),(2,fJ d'.bs)]:=by
 obtain⟨bs,down,cut,keep⟩:=d;have hk:=FH keep b.length;unfold ny at hw;dsimp only[uQ,fJ]at h1 hw⊢;subst hn;cases down with
 |true=>
  rw[if_pos rfl]at hw;obtain⟨rfl,rfl⟩:=Prod.mk.inj hw;dsimp only;refine K1.M 0x1113 Tryz.func96 40 ?_;repeat' ((conv=>whnf);first|refine K1.u ?_|refine K1.z ?_|refine K1.y (λ _=>?_) (λ _=>?_)|fail)
  all_goals(conv=>whnf)
  exact⟨[(1,2)],rfl,rfl,⟨aY rfl,aY rfl,trivial⟩,rfl,rfl,aP⟩
 |false=>
  rw[if_neg (by simp)]at hw;cases cut with
  |true=>
   rw[if_pos rfl]at hw;obtain⟨rfl,rfl⟩:=Prod.mk.inj hw;dsimp only;refine K1.M 0x1113 Tryz.func96 40 ?_;repeat' ((conv=>whnf);first|refine K1.u ?_|refine K1.z ?_|refine K1.y (λ _=>?_) (λ _=>?_)|fail)
   all_goals(conv=>whnf)
   generalize hb:rE keep b.length=k at hk⊢;unfold rE at hb;rw[hb];clear hb;repeat' ((conv=>whnf);first|refine K1.u ?_|refine K1.I 0x1 Tryz.func48 ?_|refine K1.z ?_|refine K1.y (λ _=>?_) (λ _=>?_)|fail)
   all_goals(conv=>whnf)
   exact⟨[(40,2)],rfl,rfl,⟨aY rfl,⟨_,rfl,fP.lH (aS.app (aS.bytes _) (hF.take _) rfl) (by rw[List.length_append,List.length_take];omega) rfl⟩,trivial⟩,rfl,rfl,aP⟩
  |false=>
   rw[if_neg (by simp)]at hw;obtain⟨rfl,rfl⟩:=Prod.mk.inj hw;dsimp only;refine K1.M 0x1113 Tryz.func96 40 ?_;repeat' ((conv=>whnf);first|refine K1.u ?_|refine K1.z ?_|refine K1.y (λ _=>?_) (λ _=>?_)|fail)
   all_goals(conv=>whnf)
   exact⟨[(40,2)],rfl,rfl,⟨aY rfl,⟨_,rfl,fP.lH (aS.app (aS.bytes _) hF rfl) List.length_append.symm rfl⟩,trivial⟩,rfl,rfl,aP⟩
theorem Zk{lo:Nat}{g:Nat->List AV}(h:m<lo):KC lo k f g m=f m:=by
 have hb:Nat.ble lo m=false:=by
  rw[Bool.eq_false_iff];intro e;have:=Nat.le_of_ble_eq_true e;omega
 show(bif Nat.ble lo m then _ else f m)=f m;rw[hb];rfl
theorem Px{l:List UInt8}(h:i<n):aG (l.take n) i=aG l i:=by
 show bC _=bC _;rw[List.getD,List.getD,List.getElem?_take_of_lt h]
theorem TL(d:Dk)(n:Nat)(hn:n<=d.bs.length)(h1:d.bs.length<=1000000000):
  au Tryz.prog 81 [(0,uQ (.own 1) d),(1,fJ d.bs)] [.box 0 0,.v (.int .i64 (n:Int))] (.bJ []) [(0,uQ (.own 2) ⟨d.bs.take n,d.down,d.cut,d.keep⟩),(2,fJ (d.bs.take n))]:=by
 obtain⟨bs,down,cut,keep⟩:=d;dsimp only[uQ,fJ]at hn h1⊢;refine K1.M 0x4003 Tryz.func81 40 ?_;iterate 5 ((conv=>whnf);first|refine K1.u ?_|refine Vb.part ?_|refine K1.z ?_|refine K1.y (λ _=>?_) (λ _=>?_)|fail)
 repeat' ((conv=>whnf);first|refine K1.u ?_|refine Vb.cut ?_|refine K1.z ?_|refine K1.y (λ _=>?_) (λ _=>?_)|fail)
 all_goals(conv=>whnf)
 exact⟨[(40,2)],rfl,rfl,⟨aY rfl,⟨_,rfl,fP.row (by rw[List.length_take];omega) λ i hi=>(Zk hi).trans (Px hi).symm⟩,trivial⟩,rfl,rfl,aP⟩
structure jv where
 (n w q h l p:Int)
def jv.cs(c:jv):List AV:=[.v (.int .i64 c.n),.v (.int .i64 c.w),.v (.int .i64 c.q),.v (.int .i64 c.h),.v (.int .i64 c.l),.v (.int .i64 c.p)]
def jv.av(c:jv):AV:= .agg c.cs
def TM(n m:Int):Bool:=decide (1<=n)&&decide (n<=m)
def xY(c:jv):Bool:=TM c.n 5&&TM c.w 4&&TM c.q 8&&TM c.h 20&&TM c.l 4&&TM c.p 3
theorem JM{n m:Int}:TM n m=true↔1<=n/\n<=m:=by simp[TM]
theorem TN(n m:Int):aC Tryz.prog 41 [.v (.int .i64 n),.v (.int .i64 m)] (.v (.bool (TM n m))) []:=by
 refine K1.E 0x13 Tryz.func41 ?_;repeat' ((conv=>whnf);first|refine K1.u ?_|refine aO.dW ?_|refine K1.z ?_|refine K1.y (λ _=>?_) (λ _=>?_)|fail)
 all_goals(conv=>whnf)
 all_goals(refine aW.mk (bI.of ?_))
 all_goals simp[TM, *]
theorem TP(n m:Int):aC Tryz.prog 46 [.v (.int .i64 n),.v (.int .i64 m)] (.v (.bool (TM n m))) []:=by
 refine K1.E 0x13 Tryz.func46 ?_;repeat' ((conv=>whnf);first|refine K1.u ?_|refine aO.dW ?_|refine K1.z ?_|refine K1.y (λ _=>?_) (λ _=>?_)|fail)
 all_goals(conv=>whnf)
 all_goals(refine aW.mk (bI.of ?_))
 all_goals simp[TM, *]
theorem TQ(c:jv):aC Tryz.prog 15 [c.av] (.v (.bool (xY c))) []:=by
 obtain⟨n,w,q,h,l,p⟩:=c;dsimp only[jv.av,jv.cs];refine K1.E 0x7 Tryz.func15 ?_;repeat' ((conv=>whnf);first|refine K1.u ?_|refine K1.P1 (TN _ _) ?_|refine aO.dW ?_|refine K1.z ?_|refine K1.y (λ _=>?_) (λ _=>?_)|fail)
 all_goals(conv=>whnf)
 all_goals(refine aW.mk (bI.of ?_))
 all_goals simp[xY, *]
theorem Py(c:jv):aC Tryz.prog 17 [c.av] (.v (.bool (xY c))) []:=by
 obtain⟨n,w,q,h,l,p⟩:=c;dsimp only[jv.av,jv.cs];refine K1.E 0x7 Tryz.func17 ?_;repeat' ((conv=>whnf);first|refine K1.u ?_|refine K1.P1 (TP _ _) ?_|refine aO.dW ?_|refine K1.z ?_|refine K1.y (λ _=>?_) (λ _=>?_)|fail)
 all_goals(conv=>whnf)
 all_goals(refine aW.mk (bI.of ?_))
 all_goals simp[xY, *]
theorem FI{c:jv}(h:xY c=true):∃n:Nat,c.n=(n:Int)/\1<=n/\n<=5:=by
 simp only[xY,Bool.and_eq_true]at h;have h1:=JM.1 h.1.1.1.1.1;exact⟨c.n.toNat,by omega,by omega,by omega⟩
def mN(m x:Int):Int:=(x.tmod m+m)%m
theorem Iw(x m:Int)(hm:0<m): -m<x.tmod m/\x.tmod m<m:=⟨by have:=Int.lt_tmod_of_pos x hm;omega,Int.tmod_lt_of_pos x hm⟩
theorem Iy(m x:Int)(hm:0<m):0<=mN m x/\mN m x<m:=⟨Int.emod_nonneg _ (by omega),Int.emod_lt_of_pos _ hm⟩
def MS(c:jv):jv:=⟨1+mN 5 c.n,1+mN 4 c.w,1+mN 8 c.q,1+mN 20 c.h,1+mN 4 c.l,1+mN 3 c.p⟩
theorem Iz(c:jv):xY (MS c)=true:=by
 have h1:=Iy 5 c.n (by omega);have h2:=Iy 4 c.w (by omega);have h3:=Iy 8 c.q (by omega);have h4:=Iy 20 c.h (by omega);have h5:=Iy 4 c.l (by omega);have h6:=Iy 3 c.p (by omega);have f:∀{m x:Int},0<=x/\x<m->TM (1+x) m=true:=λ h=>JM.2 (by omega);simp only[xY,Bool.and_eq_true];exact⟨⟨⟨⟨⟨f h1,f h2⟩,f h3⟩,f h4⟩,f h5⟩,f h6⟩
theorem FK(c:jv):aC Tryz.prog 6 [c.av] (MS c).av []:=by
 have h1:=Iw c.n 5 (by omega);have h2:=Iw c.w 4 (by omega);have h3:=Iw c.q 8 (by omega);have h4:=Iw c.h 20 (by omega);have h5:=Iw c.l 4 (by omega);have h6:=Iw c.p 3 (by omega);obtain⟨n,w,q,h,l,p⟩:=c;dsimp only[jv.av,jv.cs,MS,mN]at*;refine K1.E 0x7 Tryz.func6 ?_;repeat' ((conv=>whnf);first|refine K1.u ?_|refine Rm.pos (by omega) (by omega) ?_|refine Rm.raw (by decide) ?_|refine aO.dW ?_|refine K1.z ?_|refine K1.y (λ _=>?_) (λ _=>?_)|fail)
 all_goals(conv=>whnf)
 all_goals exact aW.mk (aP)
structure jI where
 (base:Int)(kept:List Ev)
def jI.len(s:jI):Int:=s.base+(s.kept.length:Int)
def JO(most base:Int)(m:AV):AO:= .box 143 [.v (.int .i64 most),.v (.int .i64 base),m]
def JQ(most:Int)(s:jI)(_:Unit):List (Nat×AO):=[(0,JO most s.base (.own 9)),(9,bU s.kept)]
def AA(most:Int)(s:jI):OB:=OB.pack (JQ most s)
theorem FM(most:Int)(s:jI):Closes (JQ most s ()) 0 (AA most s):=Closes.pack (JQ most s) () rfl λ _ hok=>wK (hok _ List.mem_cons_self)
theorem TR(most:Int)(s:jI):Closes [(0,JO most s.base (.own 8)),(8,bU s.kept)] 0 (AA most s):=
 Closes.imp (FM most s) λ X hnd hok=>by
  have h0:=hok _ List.mem_cons_self;have h8:=hok (8,bU s.kept) (List.mem_cons_of_mem _ List.mem_cons_self);have e:ah (TG X.ρ 9 (X.ρ 8)) (JQ most s ())=ah X.ρ [(0,JO most s.base (.own 8)),(8,bU s.kept)]:=rfl;refine⟨TG X.ρ 9 (X.ρ 8),rfl,by rw[e];exact hnd,λ b hb=>by rw[e]at hb;exact hb,λ p hp=>?_⟩;simp only[JQ,List.mem_cons,List.not_mem_nil,or_false]at hp;rcases hp with rfl|rfl
  ·obtain⟨b,us,h1,h2,h3,h4⟩:=h0;exact⟨b,us,h1,h2,h3,λ i x u hx hu=>by
    match i,hx with
    |0,hx=>cases hx;exact h4 0 _ u rfl hu
    |1,hx=>cases hx;exact h4 1 _ u rfl hu
    |2,hx=>cases hx;exact h4 2 _ u rfl hu⟩
  ·exact h8
theorem aa4(most base:Int):Closes [(0,JO most base (.v (.slice none 0 0)))] 0 (AA most ⟨base,[]⟩):=
 Closes.imp (FM most ⟨base,[]⟩) λ X hnd hok=>by
  have h0:=hok _ List.mem_cons_self;have e:ah (TG X.ρ 9 (.slice none 0 0)) (JQ most ⟨base,[]⟩ ())=ah X.ρ [(0,JO most base (.v (.slice none 0 0)))]:=rfl;refine⟨TG X.ρ 9 (.slice none 0 0),rfl,by rw[e];exact hnd,λ b hb=>by rw[e]at hb;exact hb,λ p hp=>?_⟩;simp only[JQ,List.mem_cons,List.not_mem_nil,or_false]at hp;rcases hp with rfl|rfl
  ·obtain⟨b,us,h1,h2,h3,h4⟩:=h0;exact⟨b,us,h1,h2,h3,λ i x u hx hu=>by
    match i,hx with
    |0,hx=>cases hx;exact h4 0 _ u rfl hu
    |1,hx=>cases hx;exact h4 1 _ u rfl hu
    |2,hx=>cases hx;exact h4 2 _ u rfl hu⟩
  ·exact⟨[],World.ownsRow_nil X.w _ _ _,by omega,λ i hi=>absurd hi (by simp),(λ _ x hx=>by cases hx),aN.nil⟩
theorem Pz{f:FuncId}{s s':jI}(hE:Enters Tryz.prog f)(h:au Tryz.prog f [(0,JO most s.base (.own 9)),(9,bU s.kept)] bD r ([(0,JO most s'.base (.own 9)),(9,bU s'.kept)]++ho))
  (hb:(bD.all (rD (λ _=>false) 0)&&nJ (λ i=>bW i ho) 0 r&&iF ho ho&& !(bW 0 ho))=true):au Tryz.prog f [(0,.obs (AA most s))] bD r ((0,.obs (AA most s'))::ho):=
 au.opn hE (Opens.pack (JQ most s)) (λ _=>⟨_,FM most s',rfl,rfl,h⟩) hb
theorem Q5{f:FuncId}{s s':jI}(hE:Enters Tryz.prog f)(h:au Tryz.prog f [(0,JO most s.base (.own 9)),(9,bU s.kept)] bD r ([(0,JO most s'.base (.own 8)),(8,bU s'.kept)]++ho))
  (hb:(bD.all (rD (λ _=>false) 0)&&nJ (λ i=>bW i ho) 0 r&&iF ho ho&& !(bW 0 ho))=true):au Tryz.prog f [(0,.obs (AA most s))] bD r ((0,.obs (AA most s'))::ho):=
 au.opn hE (Opens.pack (JQ most s)) (λ _=>⟨_,TR most s',rfl,rfl,h⟩) hb
theorem wL(most:Int):au Tryz.prog 77 [] [.v (.int .i64 most)] (.box 0 0) [(0,.obs (AA most ⟨0,[]⟩))]:=by
 refine au.cls (hs':=[(0,JO most 0 (.v (.slice none 0 0)))]) (ho:=[]) (aa4 most 0) ?_ rfl;dsimp only[JO,List.append_nil];refine K1.M 0x5 Tryz.func77 10 ?_;repeat' ((conv=>whnf);first|refine K1.u ?_|refine K1.z ?_|refine K1.y (λ _=>?_) (λ _=>?_)|fail)
 all_goals(conv=>whnf)
 exact⟨[(10,0)],rfl,rfl,⟨aY rfl,trivial⟩,rfl,rfl,aP⟩
theorem TS(most:Int)(s:jI):au Tryz.prog 58 [(0,.obs (AA most s))] [.box 0 0] (.v (.int .i64 s.base)) [(0,.obs (AA most s))]:=by
 refine Pz (ho:=[]) ⟨_,_,Tryz.func58,rfl,rfl⟩ ?_ rfl;dsimp only[JO,bU,List.append_nil];refine K1.M 0x5 Tryz.func58 10 ?_;repeat' ((conv=>whnf);first|refine K1.u ?_|refine K1.z ?_|refine K1.y (λ _=>?_) (λ _=>?_)|fail)
 all_goals(conv=>whnf)
 exact⟨[],rfl,rfl,⟨aY rfl,aY rfl,trivial⟩,rfl,rfl,aP⟩
theorem Xd(most:Int)(s:jI)(h0:0<=s.base)(h1:s.base<=1000000000000)(h2:s.kept.length<=1048576):au Tryz.prog 59 [(0,.obs (AA most s))] [.box 0 0] (.v (.int .i64 s.len)) [(0,.obs (AA most s))]:=by
 refine Pz (ho:=[]) ⟨_,_,Tryz.func59,rfl,rfl⟩ ?_ rfl;dsimp only[JO,bU,List.append_nil];refine K1.M 0x5 Tryz.func59 10 ?_;repeat' ((conv=>whnf);first|refine K1.u ?_|refine K1.z ?_|refine K1.y (λ _=>?_) (λ _=>?_)|fail)
 all_goals(conv=>whnf)
 exact⟨[],rfl,rfl,⟨aY rfl,aY rfl,trivial⟩,rfl,rfl,aP⟩
def gW(n:Int)(e:Ev):Bool:=decide (n<e.n)
theorem wM{p:Ev->Bool}{l:List Ev}(h:j<l.length):(l.take (j+1)).filter p=(l.take j).filter p++(if p (l.getD j default)then [l.getD j default]else []):=by
 rw[List.take_succ_eq_append_getElem h,List.filter_append];have e:l[j]=l.getD j default:=by simp[List.getD,h]
 rw[e];congr 1;cases hp:p (l.getD j default)<;>simp only[List.filter_cons,List.filter_nil,hp]<;>rfl
theorem TT(most:Int)(s:jI)(n:Int)(h2:s.kept.length<=1048576):
  au Tryz.prog 97 [(0,.obs (AA most s))] [.box 0 0,.v (.int .i64 n)] (.own 1) [(0,.obs (AA most s)),(1,bU (s.kept.filter (gW n)))]:=by
 refine Pz ⟨_,_,Tryz.func97,rfl,rfl⟩ ?_ rfl;obtain⟨base,l⟩:=s;dsimp only[JO,bU,List.cons_append,List.nil_append]at h2⊢;refine K1.M 0x1078b3 Tryz.func97 10 ?_;repeat' ((conv=>whnf);first|refine K1.u ?_|refine K1.z ?_|refine K1.y (λ _=>?_) (λ _=>?_)|fail)
 conv=>whnf
 refine aK.nil 5 90 84 12 (jH []) rfl (by omega) ?_;refine aK.mk {j:Nat//j<=l.length} (λ j=>⟨[(13,.v (.int .i64 (j.1:Int))),(12,.v (.int .i64 (l.length:Int))),(11,.own 9),(5,.own 90),(1,.v (.int .i64 n))],[(90,.row 84 12 ((l.take j.1).filter (gW n)).length true (jH ((l.take j.1).filter (gW n)))),(0,.box 143 [.v (.int .i64 most),.v (.int .i64 base),.own 9]),(9,.row 84 12 l.length true (jH l))],[[(0,.box 0 0),(1,.own 9)]],91⟩)
  (λ j=>l.length-j.1) ⟨0,Nat.zero_le _⟩ _ (iw.mk' [] _ _ _ rfl ⟨bI.int rfl,aP,aP,aP,aP,trivial⟩ ⟨aY rfl,aY rfl,aY rfl,trivial⟩ rfl) ?_
 rintro⟨j,hj⟩;dsimp only;by_cases hjl:j<l.length
 ·have hf:=wM (p:=gW n) hjl;have hb:Nat.ble ((j:Int).toNat+1) l.length=true:=Nat.ble_eq_true_of_le (by rw[Int.toNat_natCast];exact hjl);have e:l.getD j default=l.getD (j:Int).toNat default:=rfl;rw[e]at hf;have hfl:=List.length_filter_le (gW n) (l.take j);rw[List.length_take]at hfl;cases ho:gW n (l.getD (j:Int).toNat default)with
  |true=>
   have hq:n<(l.getD (j:Int).toNat default).n:=by simpa[gW]using ho
   rw[ho,if_pos rfl]at hf;repeat' ((conv=>whnf);first|refine K1.u ?_|refine K1.z ?_|refine K1.y (λ _=>?_) (λ _=>?_)|fail)
   all_goals(conv=>whnf)
   refine⟨⟨j+1,hjl⟩,_,iw.mk' [(93,90)] _ _ _ rfl ⟨bI.int rfl,aP,aP,aP,aP,trivial⟩ ⟨⟨_,rfl,fP.row (by rw[hf];simp) (λ m hm=>?_)⟩,aY rfl,aY rfl,trivial⟩ rfl,by show l.length-(j+1)<l.length-j;omega⟩;rw[hf];exact jX (c:=Ev.cs) (l:=(l.take j).filter (gW n)) rfl rfl m hm
  |false=>
   have hq:¬n<(l.getD (j:Int).toNat default).n:=by simpa[gW]using ho
   rw[ho,if_neg (by simp),List.append_nil]at hf;repeat' ((conv=>whnf);first|refine K1.u ?_|refine K1.z ?_|refine K1.y (λ _=>?_) (λ _=>?_)|fail)
   all_goals(conv=>whnf)
   exact⟨⟨j+1,hjl⟩,_,iw.mk' [] _ _ _ rfl ⟨bI.int rfl,aP,aP,aP,aP,trivial⟩ ⟨⟨_,rfl,by rw[hf];exact fP.refl _⟩,aY rfl,aY rfl,trivial⟩ rfl,by show l.length-(j+1)<l.length-j;omega⟩
 ·have e1:l.take j=l:=List.take_of_length_le (by omega);rw[e1];repeat' ((conv=>whnf);first|refine K1.u ?_|refine K1.z ?_|refine K1.y (λ _=>?_) (λ _=>?_)|fail)
  all_goals(conv=>whnf)
  exact⟨[(90,1)],rfl,rfl,⟨aY rfl,aY rfl,aY rfl,trivial⟩,rfl,rfl,aP⟩
theorem MV(most base:Int)(l:List Ev)(h0:0<=base)(h1:base<=1000000000000)(h2:l.length<=1048576):au Tryz.prog 59 [(0,JO most base (.own 1)),(1,bU l)] [.box 0 0] (.v (.int .i64 (base+l.length))) [(0,JO most base (.own 1)),(1,bU l)]:=by
 dsimp only[JO,bU];refine K1.M 0x5 Tryz.func59 10 ?_;repeat' ((conv=>whnf);first|refine K1.u ?_|refine K1.z ?_|refine K1.y (λ _=>?_) (λ _=>?_)|fail)
 all_goals(conv=>whnf)
 exact⟨[],rfl,rfl,⟨aY rfl,aY rfl,trivial⟩,rfl,rfl,aP⟩
theorem Xe(h:m<k):KC 0 k f f' m=f' m:=by
 have hb:Nat.ble k m=false:=by
  rw[Bool.eq_false_iff];intro e;have:=Nat.le_of_ble_eq_true e;omega
 show(bif Nat.ble k (m-0)then _ else f' (m-0))=f' m;rw[Nat.sub_zero,hb];rfl
theorem Xf{α:Type}[Inhabited α]{c:α->List AV}{l:List α}(k m:Nat):qP c (l.drop k) m=qP c l (k+m):=by
 show c ((l.drop k).getD m default)=c (l.getD (k+m) default);simp only[List.getD_eq_getElem?_getD,List.getElem?_drop]
def qF(base len n:Int):Int:=if(if base+len<n then base+len else n)>base then(if base+len<n then base+len else n)else base
theorem AB(base len n:Int)(h:0<=len):base<=qF base len n/\qF base len n<=base+len:=by
 unfold qF;split<;>(try split)<;>omega
def jw(s:jI)(n:Int):jI:=⟨qF s.base s.kept.length n,s.kept.drop (qF s.base s.kept.length n-s.base).toNat⟩
theorem Xg(most:Int)(s:jI)(n:Int)(h0:0<=s.base)(h1:s.base<=1000000000000)(h2:s.kept.length<=1048576):
  au Tryz.prog 111 [(0,.obs (AA most s))] [.box 0 0,.v (.int .i64 n)] (.bJ []) [(0,.obs (AA most (jw s n)))]:=by
 refine Q5 (ho:=[]) ⟨_,_,Tryz.func111,rfl,rfl⟩ ?_ rfl;obtain⟨base,l⟩:=s;dsimp only[List.append_nil,jw]at h0 h1 h2⊢;have hl:=MV most base l h0 h1 h2;have hc:=AB base l.length n (by omega);dsimp only[JO,bU]at hl⊢;refine K1.M 0x33 Tryz.func111 10 ?_;repeat' ((conv=>whnf);first|refine K1.u ?_|refine K1.C 2 [(0,_),(1,_)] (hl) rfl ?_|refine K1.o (id:=0) (nN [0,1,2,3,4,5] ((6,some [])::nN [7,8,9] [])) ?_|refine K1.o (id:=2) (nN [0,1,2,3,4,5,6,7,8,9,10,11] [(12,some [10,9,7,4,2])]) ?_|refine K1.z ?_|refine K1.y (λ _=>?_) (λ _=>?_)|fail)
 all_goals(conv=>whnf)
 generalize hb:qF base l.length n=b at hc⊢;unfold qF at hb;rw[hb];clear hb;repeat' ((conv=>whnf);first|refine K1.u ?_|refine K1.C 2 [(0,_),(1,_)] (hl) rfl ?_|refine Vd.full (by omega) rfl (by simp only;omega) (by omega) ?_|refine Vb.part ?_|refine K1.o (id:=0) (nN [0,1,2,3,4,5] ((6,some [])::nN [7,8,9] [])) ?_|refine K1.o (id:=2) (nN [0,1,2,3,4,5,6,7,8,9,10,11] [(12,some [10,9,7,4,2])]) ?_|refine K1.z ?_|refine K1.y (λ _=>?_) (λ _=>?_)|fail)
 all_goals(conv=>whnf)
 refine⟨[(12,8)],rfl,rfl,⟨aY rfl,⟨_,rfl,fP.row (by rw[List.length_drop];omega) (λ m hm=>?_)⟩,trivial⟩,rfl,rfl,aP⟩;exact(Xe (show m<l.length-(b-base).toNat by have hm:m<(base+(l.length:Int)-b).toNat:=hm;omega)).trans (Xf _ _).symm
theorem Zl{a b:Nat}{z:Nat->List AV}(h:m<a+b):KC a b (KC 0 a z f) f' m=kJ a f f' m:=by
 show kJ a (KC 0 a z f) (kJ b f' _) m=kJ a f f' m;unfold kJ;cases hb:Nat.ble a m with
 |true=>
  have:=Nat.le_of_ble_eq_true hb;have hb2:Nat.ble b (m-a)=false:=by
   rw[Bool.eq_false_iff];intro e;have:=Nat.le_of_ble_eq_true e;omega
  simp only[cond_true,hb2,cond_false]
 |false=>
  have hlt:m<a:=by
   rcases Nat.lt_or_ge m a with h1|h1
   ·exact h1
   ·rw[Nat.ble_eq_true_of_le h1]at hb;cases hb
  simp only[cond_false];exact Xe hlt
def pV(s:jI)(l:List Ev)(j:Nat):Prop:=if j=0 then(l.getD 0 default).n<=s.len+1 else(l.getD j default).n=(l.getD (j-1) default).n+1
instance(s:jI)(l:List Ev)(j:Nat):Decidable (pV s l j):=by unfold pV;infer_instance
def newS(s:jI)(l:List Ev):List Ev:=l.dropWhile λ e=>decide (e.n<=s.len)
def jJ(most:Int)(s:jI)(l:List Ev):jI×Int:=
 if(List.range l.length).all (λ j=>decide (pV s l j))then
  (if newS s l=[]then(s,0)else if most<(s.kept.length:Int)+((newS s l).length:Int)then(s,21)else(⟨s.base,s.kept++newS s l⟩,0))
 else(s,20)
theorem MW(most:Int)(s s':jI)(l:List Ev)(x:Int)(h0:0<=s.base)(h1:s.base<=1000000000000)(h2:s.kept.length<=1048576)(h3:l.length<=1000000)(hN:∀j,0<=(l.getD j default).n/\(l.getD j default).n<=1000000000)(hp:jJ most s l=(s',x)):
  au Tryz.prog 83 [(0,.obs (AA most s))] [.box 0 0,.sl 12 l.length true (jH l)] (.v (.int .i64 x)) [(0,.obs (AA most s'))]:=by
 refine Q5 (ho:=[]) ⟨_,_,Tryz.func83,rfl,rfl⟩ ?_ rfl;obtain⟨base,k⟩:=s;have hl:=MV most base k h0 h1 h2;dsimp only[JO,bU,List.append_nil]at h0 h1 h2 hl⊢;refine K1.M 0x2000840020000001ff3 Tryz.func83 10 ?_;repeat' ((conv=>whnf);first|refine K1.u ?_|refine K1.C 2 [(0,_),(1,_)] (hl) rfl ?_|refine K1.o (id:=4) (nN [0,1,2,3,4,5] ((6,some [1])::nN [7,8,9,10,11,12,13,14,15,16,17,18,19,20,21,22,23,24,25] [])) ?_|refine K1.o (id:=7) (nN [0,1,2,3,4,5,6,7,8] ((9,some [2])::nN [10,11] [])) ?_|refine K1.z ?_|refine K1.y (λ _=>?_) (λ _=>?_)|fail)
 conv=>whnf
 refine aK.mk {j:Nat//j<=l.length/\ ∀i,i<j->pV ⟨base,k⟩ l i} (λ j=>⟨[(11,.v (.int .i64 (j.1:Int))),(10,.v (.int .i64 (l.length:Int))),(9,.sl 12 l.length true (jH l)),(0,.box 0 0),(1,.sl 12 l.length true (jH l))],[(0,.box 143 [.v (.int .i64 most),.v (.int .i64 base),.own 9]),(9,.row 84 12 k.length true (jH k))],[[(0,.box 0 0),(1,.own 9)]],10⟩)
  (λ j=>l.length-j.1) ⟨0,Nat.zero_le _,λ i hi=>absurd hi (Nat.not_lt_zero _)⟩ _ (iw.mk' [] _ _ _ rfl ⟨bI.int rfl,aP,aP,aP,aP,trivial⟩ ⟨aY rfl,aY rfl,trivial⟩ rfl) ?_
 rintro⟨j,hj,hok⟩;dsimp only;have back:∀(hjl:j<l.length),pV ⟨base,k⟩ l j-> ∃y:{j:Nat//j<=l.length/\ ∀i,i<j->pV ⟨base,k⟩ l i},y.1=j+1:=λ hjl h=>⟨⟨j+1,hjl,λ i hi=>by
  rcases Nat.lt_or_ge i j with hi'|hi'
  ·exact hok i hi'
  ·obtain rfl:i=j:=by omega
   exact h⟩,rfl⟩
 by_cases hjl:j<l.length
 ·have bad:¬pV ⟨base,k⟩ l j->s'=⟨base,k⟩/\x=20:=λ h=>by
   unfold jJ at hp;rw[if_neg (λ hall=>h (by
    have:=List.all_eq_true.1 hall j (List.mem_range.2 hjl);simpa using this))]at hp
   cases hp;exact⟨rfl,rfl⟩
  by_cases hj0:j=0
  ·have hn:=hN (j:Int).toNat;by_cases ho:pV ⟨base,k⟩ l j
   ·obtain⟨y,hy⟩:=back hjl ho;have ho':(l.getD (j:Int).toNat default).n<=base+(k.length:Int)+1:=by
     unfold pV at ho;rw[if_pos hj0]at ho;rw[show(j:Int).toNat=0 by omega];exact ho
    repeat' ((conv=>whnf);first|refine K1.u ?_|refine K1.C 2 [(0,_),(1,_)] (hl) rfl ?_|refine K1.o (id:=4) (nN [0,1,2,3,4,5] ((6,some [1])::nN [7,8,9,10,11,12,13,14,15,16,17,18,19,20,21,22,23,24,25] [])) ?_|refine K1.o (id:=7) (nN [0,1,2,3,4,5,6,7,8] ((9,some [2])::nN [10,11] [])) ?_|refine K1.z ?_|refine K1.y (λ _=>?_) (λ _=>?_)|fail)
    all_goals(conv=>whnf)
    all_goals exact⟨y,_,iw.mk' [] _ _ _ rfl ⟨bI.int (by rw[hy];rfl),aP,aP,aP,aP,trivial⟩ ⟨aY rfl,aY rfl,trivial⟩ rfl,by show l.length-y.1<l.length-j;omega⟩
   ·obtain⟨rfl,rfl⟩:=bad ho;have ho':¬ (l.getD (j:Int).toNat default).n<=base+(k.length:Int)+1:=by
     unfold pV at ho;rw[if_pos hj0]at ho;rw[show(j:Int).toNat=0 by omega];exact ho
    repeat' ((conv=>whnf);first|refine K1.u ?_|refine K1.C 2 [(0,_),(1,_)] (hl) rfl ?_|refine K1.o (id:=4) (nN [0,1,2,3,4,5] ((6,some [1])::nN [7,8,9,10,11,12,13,14,15,16,17,18,19,20,21,22,23,24,25] [])) ?_|refine K1.o (id:=7) (nN [0,1,2,3,4,5,6,7,8] ((9,some [2])::nN [10,11] [])) ?_|refine K1.z ?_|refine K1.y (λ _=>?_) (λ _=>?_)|fail)
    all_goals(conv=>whnf)
    all_goals exact⟨[(9,8)],rfl,rfl,⟨aY rfl,aY rfl,trivial⟩,rfl,rfl,aP⟩
  ·have hn:=hN ((j:Int)-1).toNat;have hm:=hN (j:Int).toNat;by_cases ho:pV ⟨base,k⟩ l j
   ·obtain⟨y,hy⟩:=back hjl ho;have ho':(l.getD (j:Int).toNat default).n=(l.getD ((j:Int)-1).toNat default).n+1:=by
     unfold pV at ho;rw[if_neg hj0]at ho;rw[show((j:Int)-1).toNat=j-1 by omega,show(j:Int).toNat=j by omega];exact ho
    repeat' ((conv=>whnf);first|refine K1.u ?_|refine K1.C 2 [(0,_),(1,_)] (hl) rfl ?_|refine K1.o (id:=4) (nN [0,1,2,3,4,5] ((6,some [1])::nN [7,8,9,10,11,12,13,14,15,16,17,18,19,20,21,22,23,24,25] [])) ?_|refine K1.o (id:=7) (nN [0,1,2,3,4,5,6,7,8] ((9,some [2])::nN [10,11] [])) ?_|refine K1.z ?_|refine K1.y (λ _=>?_) (λ _=>?_)|fail)
    all_goals(conv=>whnf)
    all_goals exact⟨y,_,iw.mk' [] _ _ _ rfl ⟨bI.int (by rw[hy];rfl),aP,aP,aP,aP,trivial⟩ ⟨aY rfl,aY rfl,trivial⟩ rfl,by show l.length-y.1<l.length-j;omega⟩
   ·obtain⟨rfl,rfl⟩:=bad ho;have ho':¬ (l.getD (j:Int).toNat default).n=(l.getD ((j:Int)-1).toNat default).n+1:=by
     unfold pV at ho;rw[if_neg hj0]at ho;rw[show((j:Int)-1).toNat=j-1 by omega,show(j:Int).toNat=j by omega];exact ho
    repeat' ((conv=>whnf);first|refine K1.u ?_|refine K1.C 2 [(0,_),(1,_)] (hl) rfl ?_|refine K1.o (id:=4) (nN [0,1,2,3,4,5] ((6,some [1])::nN [7,8,9,10,11,12,13,14,15,16,17,18,19,20,21,22,23,24,25] [])) ?_|refine K1.o (id:=7) (nN [0,1,2,3,4,5,6,7,8] ((9,some [2])::nN [10,11] [])) ?_|refine K1.z ?_|refine K1.y (λ _=>?_) (λ _=>?_)|fail)
    all_goals(conv=>whnf)
    all_goals exact⟨[(9,8)],rfl,rfl,⟨aY rfl,aY rfl,trivial⟩,rfl,rfl,aP⟩
 ·have hall:(List.range l.length).all (λ j=>decide (pV ⟨base,k⟩ l j))=true:=List.all_eq_true.2 λ i hi=>decide_eq_true (hok i (by have:=List.mem_range.1 hi;omega));unfold jJ at hp;rw[if_pos hall]at hp;clear hall back hok;repeat' ((conv=>whnf);first|refine K1.u ?_|refine K1.C 2 [(0,_),(1,_)] (hl) rfl ?_|refine K1.o (id:=4) (nN [0,1,2,3,4,5] ((6,some [1])::nN [7,8,9,10,11,12,13,14,15,16,17,18,19,20,21,22,23,24,25] [])) ?_|refine K1.o (id:=7) (nN [0,1,2,3,4,5,6,7,8] ((9,some [2])::nN [10,11] [])) ?_|refine K1.z ?_|refine K1.y (λ _=>?_) (λ _=>?_)|fail)
  conv=>whnf
  have hN':∀e∈l,0<=e.n/\e.n<=1000000000:=λ e he=>by
   obtain⟨i,hi,rfl⟩:=List.getElem_of_mem he;have:=hN i;rwa [show l.getD i default=l[i] by simp[List.getD,hi]]at this
  clear hN;refine aK.mk {t:List Ev//newS ⟨base,k⟩ l=t.dropWhile (λ e=>decide (e.n<=(⟨base,k⟩:jI).len))/\t.length<=l.length/\ ∀e∈t,0<=e.n/\e.n<=1000000000} (λ t=>⟨[(0,.box 0 0),(1,.sl 12 t.1.length true (jH t.1))],[(0,.box 143 [.v (.int .i64 most),.v (.int .i64 base),.own 9]),(9,.row 84 12 k.length true (jH k))],[[(0,.box 0 0),(1,.own 9)]],10⟩)
   (λ t=>t.1.length) ⟨l,rfl,Nat.le_refl _,hN'⟩ _ (iw.mk' [] _ _ _ rfl ⟨aP,aP,trivial⟩ ⟨aY rfl,aY rfl,trivial⟩ rfl) ?_
  rintro⟨t,hnew,htl,hN⟩;dsimp only;rw[hnew]at hp;rcases t with _|⟨e,t⟩
  ·have hlen:(([]:List Ev).length:Int)=0:=rfl;rw[List.dropWhile_nil,if_pos rfl]at hp;obtain⟨rfl,rfl⟩:=Prod.mk.inj hp;repeat' ((conv=>whnf);first|refine K1.u ?_|refine K1.C 2 [(0,_),(1,_)] (hl) rfl ?_|refine K1.o (id:=4) (nN [0,1,2,3,4,5] ((6,some [1])::nN [7,8,9,10,11,12,13,14,15,16,17,18,19,20,21,22,23,24,25] [])) ?_|refine K1.o (id:=7) (nN [0,1,2,3,4,5,6,7,8] ((9,some [2])::nN [10,11] [])) ?_|refine K1.z ?_|refine K1.y (λ _=>?_) (λ _=>?_)|fail)
   all_goals(conv=>whnf)
   all_goals exact⟨[(9,8)],rfl,rfl,⟨aY rfl,aY rfl,trivial⟩,rfl,rfl,aP⟩
  ·have hen:=hN e List.mem_cons_self;have hlen:((e::t).length:Int)=(t.length:Int)+1:=by simp
   by_cases hle:e.n<=base+(k.length:Int)
   ·have hle0:(jH (e::t) 0)=Ev.cs e:=rfl;have hnext:newS ⟨base,k⟩ l=t.dropWhile (λ e=>decide (e.n<=(⟨base,k⟩:jI).len)):=by
     rw[hnew,List.dropWhile_cons_of_pos (by rw[decide_eq_true_eq];exact hle)]
    clear hp;repeat' ((conv=>whnf);first|refine K1.u ?_|refine K1.C 2 [(0,_),(1,_)] (hl) rfl ?_|refine K1.o (id:=4) (nN [0,1,2,3,4,5] ((6,some [1])::nN [7,8,9,10,11,12,13,14,15,16,17,18,19,20,21,22,23,24,25] [])) ?_|refine K1.o (id:=7) (nN [0,1,2,3,4,5,6,7,8] ((9,some [2])::nN [10,11] [])) ?_|refine K1.z ?_|refine K1.y (λ _=>?_) (λ _=>?_)|fail)
    all_goals(conv=>whnf)
    refine⟨⟨t,hnext,by rw[List.length_cons]at htl;omega,λ e he=>hN e (List.mem_cons_of_mem _ he)⟩,_,iw.mk' [] _ _ _ rfl ⟨aP,bI.sl (by simp) (λ i _=>?_),trivial⟩ ⟨aY rfl,aY rfl,trivial⟩ rfl,by simp⟩;show jH (e::t) (1+i)=jH t i;rw[Nat.add_comm];rfl
   ·have hd:(e::t).dropWhile (λ e=>decide (e.n<=(⟨base,k⟩:jI).len))=e::t:=List.dropWhile_cons_of_neg (by rw[decide_eq_true_eq];exact hle);rw[hd,if_neg (by simp)]at hp;by_cases hm:most<(k.length:Int)+((e::t).length:Int)
    ·rw[if_pos hm]at hp;obtain⟨rfl,rfl⟩:=Prod.mk.inj hp;repeat' ((conv=>whnf);first|refine K1.u ?_|refine K1.C 2 [(0,_),(1,_)] (hl) rfl ?_|refine K1.o (id:=4) (nN [0,1,2,3,4,5] ((6,some [1])::nN [7,8,9,10,11,12,13,14,15,16,17,18,19,20,21,22,23,24,25] [])) ?_|refine K1.o (id:=7) (nN [0,1,2,3,4,5,6,7,8] ((9,some [2])::nN [10,11] [])) ?_|refine K1.z ?_|refine K1.y (λ _=>?_) (λ _=>?_)|fail)
     all_goals(conv=>whnf)
     all_goals exact⟨[(9,8)],rfl,rfl,⟨aY rfl,aY rfl,trivial⟩,rfl,rfl,aP⟩
    ·rw[if_neg hm]at hp;obtain⟨rfl,rfl⟩:=Prod.mk.inj hp;repeat' ((conv=>whnf);first|refine K1.u ?_|refine K1.C 2 [(0,_),(1,_)] (hl) rfl ?_|refine Vd.full (by omega) rfl (by simp only;omega) (by omega) ?_|refine Vb.part ?_|refine K1.o (id:=4) (nN [0,1,2,3,4,5] ((6,some [1])::nN [7,8,9,10,11,12,13,14,15,16,17,18,19,20,21,22,23,24,25] [])) ?_|refine K1.o (id:=7) (nN [0,1,2,3,4,5,6,7,8] ((9,some [2])::nN [10,11] [])) ?_|refine K1.z ?_|refine K1.y (λ _=>?_) (λ _=>?_)|fail)
     all_goals(conv=>whnf)
     refine⟨[(11,8)],rfl,rfl,⟨aY rfl,⟨_,rfl,fP.row (by show((k.length:Int)+((e::t).length:Int)).toNat=(k++e::t).length;rw[List.length_append];omega) (λ m hm=>?_)⟩,trivial⟩,rfl,rfl,aP⟩;refine(Zl (a:=k.length) (b:=(e::t).length) (by have hm:m<((k.length:Int)+((e::t).length:Int)).toNat:=hm;omega)).trans ?_;exact els_app (c:=Ev.cs) (l:=k) (l':=e::t) rfl m
end Go.Proofs.YtopfgjgdadnjeaaGreat
