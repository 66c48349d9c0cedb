/-
  Contracts of the walk:Lv2,Lv3,Lv4,NdC,NdD,NdE.
-/
import Derived.Test.YtkimgljckickcaaGreatRa11
import Derived.Test.YtkimgljckickcaaGreatRa12
set_option maxHeartbeats 16000000
set_option maxRecDepth 100000
set_option linter.unusedVariables false
set_option linter.unusedSimpArgs false
namespace Go.Proofs.YtkimgljckickcaaGreat
open Go.RowKit
open Go.Proofs.Tryz
variable{key:ByteArray}{e:Ev}{P T W d l w:List Ev}{n r:Nat}{F:Nat->List AV}{H:Nat->aS}{k:Str}{c c':aS}
structure Xo(p:List Ev)(key:ByteArray):Prop where
 key:∀x∈p,x.key=key
 one:uZ p
 hi:∀a∈p,∀b∈p,aJ a b=true->a.h<b.h
 tr:∀a∈p,∀b∈p,∀c∈p,aJ a b=true->aJ b c=true->aJ a c=true
section
variable{p:List Ev}{key:ByteArray}(t:Xo p key)
theorem BN{x:Ev}(h:iP p x=true):(bP p x=true/\x.k=1)\/(countB p (aB p) x=true/\dX p x=false/\(x.k=3\/x.k=4)):=by
 unfold iP at h;simp only[anT,amY,anB]at h;rcases h with h|⟨h1,h2⟩
 ·exact .inl ⟨h,iD h⟩
 ·exact .inr ⟨h1,h2,kJ h1⟩
theorem JX{k:Int}(hk:k=2\/k=5)(same:Ev->Ev->Bool)(x:Ev):fK k same (iG p) x=false:=by
 unfold fK;rw[ao8];intro a ha;have:=BN (ana.1 ha).2;have:¬a.k=k:=by rcases this with⟨_,h⟩|⟨_,_,h⟩<;>omega
 rw[decide_eq_false this];simp
theorem Gw:aB (iG p)=aB p:=by
 unfold aB;have:∀x,bP (iG p) x=decide (x.k=1):=λ x=>by unfold bP;rw[JX (.inl rfl)];simp
 rw[anF (q:=λ x=>decide (x.k=1)) (λ x _=>this x)];unfold iG;rw[anL];refine anF λ x _=>?_;cases hl:bP p x with
 |true=>rw[decide_eq_true (iD hl)];simp[iP,hl]
 |false=>
  cases hc:countB p (aB p) x with
  |true=>rw[decide_eq_false (show¬x.k=1 by rcases kJ hc with h|h<;>omega)];rfl
  |false=>simp[iP,hl,hc]
theorem LX:bI (iG p) (aB (iG p))=(bI p (aB p)).filter λ x=> !dX p x:=by
 rw[Gw];unfold bI;rw[anL];have hcn:∀x∈iG p,countB (iG p) (aB p) x=countB p (aB p) x:=λ x hx=>by
  unfold countB;rw[JX (.inr rfl)];rcases BN (ana.1 hx).2 with⟨_,h⟩|⟨h,_,_⟩
  ·rw[decide_eq_false (show¬x.k=3 by omega),decide_eq_false (show¬x.k=4 by omega)];rfl
  ·unfold countB at h;rw[h];simp only[amY,anT,decide_eq_true_eq]at h;obtain⟨h1,h2⟩:=h;rw[h2];rcases h1 with h1|h1
   ·rw[decide_eq_true h1];rfl
   ·rw[decide_eq_true h1.1];simp
 rw[anF hcn];unfold iG;rw[anL];refine anF λ x _=>?_;cases hc:countB p (aB p) x with
 |false=>simp
 |true=>
  have hl:bP p x=false:=by rw[anw];intro k;have:=iD k;rcases kJ hc with h|h<;>omega
  unfold iP;rw[hl,hc];simp
include t
theorem Xo.aaO{x y:Ev}(hx:x∈bI p (aB p))(hy:y∈p)(hb:aJ x y=true)(hk:y.k=x.k)(hs:y.k=4->lq y x=true):y∈bI p (aB p):=by
 obtain⟨hxp,hc⟩:=ana.1 hx;refine ana.2 ⟨hy, ?_⟩;unfold countB at hc⊢;simp only[amY]at hc⊢;obtain⟨h1,h2⟩:=hc;refine⟨?_, ?_⟩
 ·rw[hk];by_cases k3:x.k=3
  ·rw[decide_eq_true k3];rfl
  ·rw[decide_eq_false k3,Bool.false_or,amY]at h1⊢;refine⟨h1.1, ?_⟩;have hx5:=h1.2;simp only[anB]at hx5⊢;rw[anw];intro ha;obtain⟨z,hz,hz2⟩:=an6.1 ha;simp only[amY,decide_eq_true_eq]at hz2;have k4:y.k=4:=by rw[hk];exact of_decide_eq_true h1.1
   have hzx:lq z x=true:=by
    have e1:=hz2.2.1;have e2:=hs k4;simp only[lq,sV,fM,amY,decide_eq_true_eq]at e1 e2⊢;exact⟨⟨e1.1.1.trans e2.1.1,e1.1.2.trans e2.1.2⟩,e1.2.trans e2.2⟩
   have:fK 5 lq p x=true:=an6.2 ⟨z,hz,by
    simp only[amY,decide_eq_true_eq];exact⟨hz2.1,hzx,t.tr x hxp y hy z hz hb hz2.2.2⟩⟩
   rw[this]at hx5;cases hx5
 ·obtain⟨c,hc,h⟩:=an6.1 h2;simp only[amY,decide_eq_true_eq]at h;have hcp:=(ana.1 hc).1;refine an6.2 ⟨c,hc, ?_⟩;simp only[amY,decide_eq_true_eq];exact⟨h.1,yT (by rw[t.key c hcp,t.key y hy]),t.tr c hcp x hxp y hy h.2.2 hb⟩
theorem Xo.aer{A:List Ev}{m:Ev}(hm:m∈A)(hA:∀x∈A,x∈bI p (aB p))(htop:∀x∈A,¬ku (dh m) (dh x)=true)
  (hin:∀y∈bI p (aB p),y.k=m.k->(if m.k=4 then lq y m else sV y m)=true->y∈A):dX p m=false:=by
 rw[anw];intro hl;have hmc:=hA m hm;have hmp:=(ana.1 hmc).1;have:∃y∈p,y.k=m.k/\(if m.k=4 then lq y m else sV y m)=true/\aJ m y=true:=by
  unfold dX at hl;by_cases h:m.k=4
  ·rw[if_pos h]at hl;obtain⟨y,hy,h2⟩:=an6.1 hl;simp only[amY,decide_eq_true_eq]at h2;exact⟨y,hy,h2.1,by rw[if_pos h];exact h2.2.1,h2.2.2⟩
  ·rw[if_neg h]at hl;obtain⟨y,hy,h2⟩:=an6.1 hl;simp only[amY,decide_eq_true_eq]at h2;exact⟨y,hy,h2.1,by rw[if_neg h];exact h2.2.1,h2.2.2⟩
 obtain⟨y,hy,hyk,hys,hyb⟩:=this;have hyc:=t.aaO hmc hy hyb hyk (λ k4=>by rw[if_pos o_]at hys;exact hys);have hyA:=hin y hyc hyk hys;have:=t.hi m hmp y hy hyb;refine htop y hyA ?_;rw[oC];exact .inl this
theorem Xo.ag':fC key ((bI p (aB p)).filter λ x=> !dX p x)=fC key (bI p (aB p)):=by
 have hkind:∀x∈bI p (aB p),(x.k=3\/x.k=4)/\x.key=key:=λ x hx=>⟨kJ (ana.1 hx).2,t.key x (ana.1 hx).1⟩;have hone:uZ (bI p (aB p)):=λ a ha b hb=>t.one a (ana.1 ha).1 b (ana.1 hb).1;have htop:= @Xo.aer p key t;generalize hws:bI p (aB p)=ws at*;have hs:∀n,eU key n (ws.filter λ x=> !dX p x)=(eU key n ws).filter λ x=> !dX p x:=λ n=>by
  unfold eU;rw[anL,anL];exact anF λ x _=>apy _ _
 have ha:∀n,ig key n (ws.filter λ x=> !dX p x)=(ig key n ws).filter λ x=> !dX p x:=λ n=>by
  unfold ig;rw[anL,anL];exact anF λ x _=>apy _ _
 have hsw:∀n,∀x∈eU key n ws,x∈ws/\x.k=3/\x.l=n:=λ n x hx=>by
  obtain⟨h1,h2⟩:=ana.1 hx;simp only[VU,amY,decide_eq_true_eq]at h2;exact⟨h1,h2.2,h2.1.2⟩
 have haw:∀n,∀x∈ig key n ws,x∈ws/\x.k=4/\x.l=n:=λ n x hx=>by
  obtain⟨h1,h2⟩:=ana.1 hx;simp only[VU,amY,decide_eq_true_eq,anB,decide_eq_false_iff_not]at h2;exact⟨h1,(hkind x h1).1.resolve_left h2.2,h2.1.2⟩
 have hset:∀n,Qm (eU key n (ws.filter λ x=> !dX p x))=Qm (eU key n ws)/\rZ (eU key n (ws.filter λ x=> !dX p x))=rZ (eU key n ws):=λ n=>by
  rw[hs];by_cases h0:(eU key n ws).length=0
  ·have:eU key n ws=[]:=an9.1 h0;rw[this];exact⟨rfl,rfl⟩
  ·obtain⟨m,hm,e1,e2⟩:=JD h0;have hmx:∀x∈eU key n ws,¬ku (dh m) (dh x)=true:=λ x hx=>by
    rw[e2];exact(Ib ((eU key n ws).map dh) (((eU key n ws).map dh).getD 0 default)).2 _ (ant.2 ⟨x,hx,rfl⟩)
   obtain⟨m1,m2,m3⟩:=hsw n m hm;have hlt:dX p m=false:=htop hm (λ x hx=>(hsw n x hx).1) hmx λ y hy hyk hys=>by
    rw[if_neg o_]at hys;refine ana.2 ⟨hy, ?_⟩;simp only[sV,fM,amY,decide_eq_true_eq]at hys;simp only[VU,amY,decide_eq_true_eq];exact⟨⟨(hkind y hy).2,by rw[hys.2];exact m3⟩,o_⟩
   have hmf:m∈(eU key n ws).filter λ x=> !dX p x:=ana.2 ⟨hm,by rw[hlt];rfl⟩;refine⟨?_, ?_⟩
   ·unfold Qm;rw[decide_eq_false h0,decide_eq_false (λ h=>by rw[an9]at h;rw[h]at hmf;cases hmf)]
   ·rw[e1];exact aah (λ a ha b hb=>hone a (hsw n a (ana.1 ha).1).1 b (hsw n b (ana.1 hb).1).1) hmf λ x hx=>hmx x (ana.1 hx).1
 have hadd:∀n,valsF (ig key n (ws.filter λ x=> !dX p x))=valsF (ig key n ws):=λ n=>by
  rw[ha];refine RQ λ v=>?_;rw[ant,ant];constructor
  ·rintro⟨x,hx,e⟩;exact⟨x,(ana.1 hx).1,e⟩
  ·rintro⟨x,hx,e⟩;have h0:¬ ((ig key n ws).filter λ y=>decide (y.v=x.v)).length=0:=λ h=>by
    rw[an9]at h;have:x∈(ig key n ws).filter λ y=>decide (y.v=x.v):=ana.2 ⟨hx,decide_eq_true rfl⟩;rw[h]at this;cases this
   obtain⟨m,hm,e1,e2⟩:=JD h0;obtain⟨hma,hmv⟩:=ana.1 hm;have hmv:m.v=x.v:=of_decide_eq_true hmv;obtain⟨m1,m2,m3⟩:=haw n m hma;have hmx:∀y∈(ig key n ws).filter λ y=>decide (y.v=x.v),¬ku (dh m) (dh y)=true:=λ y hy=>by
    rw[e2];exact(Ib _ _).2 _ (ant.2 ⟨y,hy,rfl⟩)
   have hlt:dX p m=false:=htop hm (λ y hy=>(haw n y (ana.1 hy).1).1) hmx λ y hy hyk hys=>by
    rw[if_pos m2]at hys;simp only[lq,sV,fM,amY,decide_eq_true_eq]at hys;refine ana.2 ⟨ana.2 ⟨hy, ?_⟩,decide_eq_true (hys.2.trans hmv)⟩;simp only[VU,amY,decide_eq_true_eq,anB,decide_eq_false_iff_not];exact⟨⟨(hkind y hy).2,by rw[hys.1.2];exact m3⟩,o_⟩
   exact⟨m,ana.2 ⟨hma,by rw[hlt];rfl⟩,by rw[hmv];exact e⟩
 unfold fC;rw[(hset 0).1,(hset 1).1,(hset 0).2,(hset 1).2,hadd,hadd]
theorem Xo.aha:qV (iG p)=qV p:=by
 rw[of_same (l:=iG p) (key:=key) (λ x hx=>t.key x (ana.1 hx).1),of_same t.key,LX,Gw,t.ag']
omit t in
theorem Oh:(iG p).length=pU p:=by
 unfold iG pU;have hd:∀e,bP p e=true->countB p (aB p) e=false:=λ e he=>by
  have:=iD he;rw[anw];intro k;rcases kJ k with h|h<;>omega
 have:∀l:List Ev,(l.filter (iP p)).length=(l.filter (bP p)).length+((l.filter (countB p (aB p))).filter λ e=> !dX p e).length:=by
  intro l;induction l with
  |nil=>rfl
  |cons x l ih=>
   rw[anX,anX,anX];have hq:iP p x=(bP p x||(countB p (aB p) x&& !dX p x)):=rfl;rw[hq];cases hl:bP p x with
   |true=>simp[hd x hl,ih];omega
   |false=>
    cases hc:countB p (aB p) x with
    |false=>simp[ih]
    |true=>
     simp only[Bool.false_or,ao7,if_true,anV,if_false];rw[anX];cases dX p x<;>simp[ih]<;>omega
 exact this p
end
def keyS(k:Str):ByteArray:=⟨k.toArray⟩
theorem aaP(k:Str):dM (keyS k)=k:=rfl
def iI(P:List Ev)(key:ByteArray):List Ev:=iG (nO (eqK key) P)
theorem JY(t:Fe (nO (eqK e.key) P) e):iI (P++[e]) e.key=kP (iI P e.key) e:=by
 unfold iI;rw[YQ,if_pos (show eqK e.key e.key=true from decide_eq_true rfl),t.step]
theorem Gx(h:key≠e.key):iI (P++[e]) key=iI P key:=by
 unfold iI;rw[YQ,if_neg (by unfold eqK;rw[decide_eq_false (λ k=>h k.symm)];simp),am2]
theorem aaQ:iI P key≠[]↔aB (nO (eqK key) P)≠[]:=by
 constructor
 ·intro h hl;obtain⟨x,hx⟩:=apb _ h;obtain⟨hx,hq⟩:=ana.1 hx;rcases BN hq with⟨h1,_⟩|⟨h1,_,_⟩
  ·have:x∈aB (nO (eqK key) P):=ana.2 ⟨hx,h1⟩;rw[hl]at this;cases this
  ·unfold countB at h1;rw[hl]at h1;simp[iq]at h1
 ·intro h hk;obtain⟨x,hx⟩:=apb _ h;obtain⟨hx,hl⟩:=ana.1 hx;have:x∈iI P key:=ana.2 ⟨hx,by unfold iP;rw[hl];rfl⟩;rw[hk]at this;cases this
theorem JZ:k∈keysB P↔aB (nO (eqK (keyS k)) P)≠[]:=by
 have h1:k∈keysB P↔k∈(aB P).map λ e:Ev=>dM e.key:=(jA _).2 k;rw[h1,zU,ant];constructor
 ·rintro⟨e,he,rfl⟩ h;have:e∈nO (eqK (keyS (dM e.key))) (aB P):=ana.2 ⟨he,decide_eq_true (show e.key=keyS (dM e.key) by unfold keyS;rw[aag])⟩;rw[h]at this;cases this
 ·intro h;obtain⟨e,he⟩:=apb _ h;obtain⟨he,hk⟩:=ana.1 he;have hk:e.key=keyS k:=of_decide_eq_true hk;exact⟨e,he,by rw[hk];rfl⟩
theorem ajD(h:k∈keysB P):qV (nO (eqK (keyS k)) P)=[fC (keyS k) (bI P (aB P))]:=by
 rw[of_same (key:=keyS k) Qs,if_neg (JZ.1 h),Gp,WZ (show eqK (keyS k) (keyS k)=true from decide_eq_true rfl)]
theorem aaR(hp:∀key,Xo (nO (eqK key) P) key){ks:List Str}(hs:ks.Pairwise (·< ·))(hm:∀k,k∈ks↔iI P (keyS k)≠[]):
  ks.flatMap (λ k=>qV (iI P (keyS k)))=qV P:=by
 have hk:ks=keysB P:=zA hs (jA ((aB P).map λ e:Ev=>dM e.key)).1 λ k=>by
  rw[hm,aaQ];exact JZ.symm
 have h2:∀l:List Str,(∀k∈l,k∈keysB P)->l.flatMap (λ k=>qV (iI P (keyS k)))=l.map λ k=>fC (keyS k) (bI P (aB P)):=by
  intro l;induction l with
  |nil=>intro _;rfl
  |cons k l ih=>
   intro h;rw[anN,anS,ih λ x hx=>h x (am1 _ hx)];unfold iI;rw[(hp (keyS k)).aha,ajD (h k amW)];rfl
 rw[hk,h2 _ λ k h=>h];rfl
theorem UH(h:aB P=[]):pU P=0:=by
 unfold pU;rw[h];have:bI P []=[]:=by
  unfold bI;rw[ao4];intro x _;simp[countB,iq]
 rw[this];rfl
theorem akW{p q:ByteArray->Bool}(h:∀k,p k=true->q k=true):nO p (nO q P)=nO p P:=by
 unfold nO;rw[anL];refine anF λ x _=>?_;cases hp:p x.key with
 |false=>simp
 |true=>rw[h _ hp];rfl
theorem FH:∀(ks:List Str)(P:List Ev),ks.Nodup->(∀x∈aB P,dM x.key∈ks)->(ks.map λ k=>(iI P (keyS k)).length).sum=pU P
 |[],P,_,h=>by
  have:aB P=[]:=List.eq_nil_iff_forall_not_mem.2 λ x hx=>by have:=h x hx;cases this
  rw[UH this];rfl
 |k::ks,P,hn,h=>by
  obtain⟨hk,hn⟩:=an1.1 hn;have ih:=FH ks (nO (λ x=> !eqK (keyS k) x) P) hn (λ x hx=>by
   rw[zU]at hx;obtain⟨hx,hne⟩:=ana.1 hx;rcases am4.1 (h x hx)with e|h
   ·exfalso;have:eqK (keyS k) x.key=true:=decide_eq_true (by rw[<-e];unfold keyS;rw[aag]);have hne:(!eqK (keyS k) x.key)=true:=hne;rw[this]at hne;cases hne
   ·exact h)
  have hc:(ks.map λ q=>(iI (nO (λ x=> !eqK (keyS k) x) P) (keyS q)).length)=ks.map λ q=>(iI P (keyS q)).length:=List.map_congr_left λ q hq=>by
   unfold iI;rw[akW];intro y hy;have hy:y=keyS q:=of_decide_eq_true hy;have:y≠keyS k:=λ e=>by
    rw[hy]at e;have e:q=k:=congrArg dM e;exact hk (e▸hq)
   unfold eqK;rw[decide_eq_false this];rfl
  rw[hc]at ih;rw[anS,List.sum_cons,ih,size_two (p:=eqK (keyS k)) (l:=P)];congr 1;exact Oh
theorem Inv.pst(hI:Inv T H)(hP:∀x∈P,x∈T)(htr:∀a∈T,∀b∈T,∀c∈T,aJ a b=true->aJ b c=true->aJ a c=true)(key:ByteArray):Xo (nO (eqK key) P) key:=by
 have hs:∀x∈nO (eqK key) P,x∈T:=λ x hx=>hP x (ana.1 hx).1;exact⟨Qs,λ a ha b hb=>hI.stamp a (hs a ha) b (hs b hb),λ a ha b hb=>hI.hgt a (hs a ha) b (hs b hb),λ a ha b hb c hc=>htr a (hs a ha) b (hs b hb) c (hs c hc)⟩
def aes(T:List Ev):Prop:= ∀x∈T,∀e∈T,aJ x e=true-> ∀r:Nat,r<5->x.c.at r<=e.c.at r
theorem ahb(h:Inv T H)(h2:aes T)(hr:r<5){y:Ev}(ec:y.c=H r)(hV:(T++[y]).Pairwise λ a b=>aJ b a=false)(hs:aJ y y=false):aes (T++[y]):=λ x hx e he hb p hp=>by
 rcases am6.1 he with he|he
 ·rcases am6.1 hx with hx|hx
  ·exact h2 x hx e he hb p hp
  ·rw[amZ.1 hx]at hb;rw[(an4.1 hV).2.2 e he y (amZ.2 rfl)]at hb;cases hb
 ·rw[amZ.1 he]at hb⊢;rcases am6.1 hx with hx|hx
  ·unfold aJ at hb;rw[ec]at hb⊢;exact h.clo r hr x hx hb p hp
  ·rw[amZ.1 hx,hs]at hb;cases hb
theorem UJ(hI:Inv T H)(ht:aes T):∀a∈T,∀b∈T,∀c∈T,aJ a b=true->aJ b c=true->aJ a c=true:=λ a ha b hb c hc h1 h2=>by
 obtain⟨r,k1,k2,k3,_,_⟩:=hI.ev a ha;unfold aJ at h1⊢;rw[k2,kG k1]at h1⊢;have:=ht b hb c hc h2 r k1;exact⟨h1.1,o_⟩
structure QE(W:List Ev)(s:Spr):Prop where
 full:∀e∈W,∀r:Nat,r<5->e.r=(r:Int)->e.n<=s.hv.at r->e∈s.out
 le:∀e∈s.out,∀r:Nat,r<5->e.c.at r<=s.hv.at r
 ord:s.out.Pairwise λ a b=>aJ b a=false
theorem QE.step(hI:Inv W H){s:Spr}(hok:YP W s)(h:QE W s){k:Nat}(hk:k∈ajg s.left s.hv):QE W (YO s k):=by
 obtain⟨hkl,hrp⟩:=agQ.1 hk;obtain⟨out,left,hv⟩:=s;obtain⟨h1,h2,h3⟩:=h;obtain⟨p1,p2,p3,p4⟩:=hok;simp only at h1 h2 h3 p1 p2 p3 p4 hkl hrp;have hg:left.getD k default=left[k]:=by rw[List.getD,amX hkl];rfl
 have hm:left[k]∈W:=p2.subset (anH hkl);have hle:∀r:Nat,r<5->left[k].c.at r<=hv.at r:=by
  have:left[k].c.le hv=true:=by rw[<-hg];exact hrp
  exact adA.1 this
 obtain⟨p,q1,q2,q3,q4,q5⟩:=hI.ev _ hm;have ep:left[k].r.toNat=p:=by rw[q2];omega
 have htop:∀r:Nat,r<5->hv.at r<=(hv.top p left[k].n).at r:=λ r hr=>by
  rw[Qr _ _ q1 hr];split
  ·exact adB _ _
  ·exact aom _
 have akX:left[k] ∉ out:=λ ho=>by
  have hd:(out++left).Pairwise λ a b=> ¬ (a.r=b.r/\a.n=b.n):=(p1.symm.pairwise_iff (λ h k=>h ⟨k.1.symm,k.2.symm⟩)).1 hI.dis;exact(an4.1 hd).2.2 _ ho _ (anH hkl) ⟨rfl,rfl⟩
 unfold YO;simp only[hg,ep];refine⟨λ e he r hr er en=>?_,λ e he r hr=>?_, ?_⟩
 ·have en:e.n<=(hv.top p left[k].n).at r:=en;rw[Qr _ _ q1 hr]at en;by_cases akY:r=p
  ·subst akY;rw[if_pos rfl]at en;rcases Int.lt_or_le (hv.at r) e.n with k1|k1
   ·have hh:=hle r hr;have:e.n<=left[k].n:=by unfold LC at en;split at en<;>omega
    have hen:e.n=left[k].n:=o_
    have:e=left[k]:=hI.mark he hm (by rw[er,q2]) hen;rw[this];exact am6.2 (.inr (amZ.2 rfl))
   ·exact am6.2 (.inl (h1 e he r hr er k1))
  ·rw[if_neg akY]at en;exact am6.2 (.inl (h1 e he r hr er en))
 ·have:=htop r hr;have he:e∈out++[left[k]]:=he;show e.c.at r<=(hv.top p left[k].n).at r;rcases am6.1 he with he|he
  ·have:=h2 e he r hr;omega
  ·rw[amZ.1 he];have:=hle r hr;omega
 ·show(out++[left[k]]).Pairwise _;refine an4.2 ⟨h3,aog _ _,λ x hx y hy=>?_⟩;rw[amZ.1 hy,anw];intro hb;unfold aJ at hb;rw[q2,kG q1]at hb;have:=h2 x hx p q1;exact akX (h1 _ hm p q1 q2 o_)
theorem aeu{X:List Ev}(hI:Inv W H)(ht:aes W)(hX:∀x∈X,x∈W)(ho:X.Pairwise λ a b=>aJ b a=false){Q:List Ev}(hs:X=P++e::Q):Fe (nO (eqK e.key) P) e:=by
 have heX:e∈X:=by rw[hs];simp
 have hPX:∀x∈P,x∈X:=λ x hx=>by rw[hs];exact am6.2 (.inl hx)
 have hsub:∀x∈nO (eqK e.key) P,x∈P:=λ x hx=>(ana.1 hx).1;rw[hs]at ho;refine⟨Qs,λ x hx=>(an4.1 ho).2.2 x (hsub x hx) e amW, ?_,λ a ha b hb h1 h2=>UJ hI ht a (hX _ (hPX _ (hsub a ha))) b (hX _ (hPX _ (hsub b hb))) e (hX e heX) h1 h2,(hI.fine e (hX e heX)).k,λ x hx=>(hI.fine x (hX _ (hPX _ (hsub x hx)))).k⟩;obtain⟨r,h1,h3,h4,h5,h6⟩:=hI.ev e (hX e heX);unfold aJ;rw[h3,anw];intro k;rw[kG h1]at k;omega
def qK(c:aS)(w:List Ev)(e:Ev):List Ev:=if(NU w e.r e.n).isSome||hasB c e.r e.n then w else w++[e]
def kR(c:aS)(l:List Ev):List Ev:=l.foldl (qK c) []
def BO(w:List Ev)(e:Ev):List Ev:=w.eraseP λ x=>decide (x.r=e.r/\x.n=e.n)
def LY:Nat->aS->List Ev->List Ev->List Ev×List Ev×aS
 |0,c,w,d=>(d,w,c)
 |f+1,c,w,d=>match vC c w with
  |none=>(d,w,c)
  |some e=>LY f (c.inc e.r.toNat) (BO w e) (d++[e])
def gI(c:aS)(l:List Ev):List Ev×List Ev×aS:=LY (kR c l).length c (kR c l) []
def Dm(w:List Ev):Prop:=w.Pairwise λ a b=> ¬ (a.r=b.r/\a.n=b.n)
theorem aev(h:Dm w):Dm (qK c w e):=by
 unfold qK;split
 ·exact h
 ·rename_i hn;simp only[anT,not_or,Bool.not_eq_true,Option.isSome_eq_false_iff,Option.isNone_iff_eq_none]at hn;refine an4.2 ⟨h,aog ..,λ a ha b hb=>?_⟩;obtain rfl:=amZ.1 hb;exact DX hn.1 a ha
theorem aew(c:aS)(l:List Ev):Dm (kR c l):=by
 have:∀(l w:List Ev),Dm w->Dm (l.foldl (qK c) w):=λ l=>by
  induction l with
  |nil=>exact λ _ h=>h
  |cons e l ih=>exact λ w h=>ih _ (aev h)
 exact this l [] .nil
theorem aaS(c:aS)(w:List Ev)(e:Ev):(qK c w e).length<=w.length+1:=by
 unfold qK;split
 ·omega
 ·simp
theorem J3{j:Nat}(h:j<l.length):kR c (l.take (j+1))=qK c (kR c (l.take j)) (l.getD j default):=by
 unfold kR;rw[aoQ h,aoj];simp[List.getD,h]
theorem Ad(c:aS)(l:List Ev):∀j,j<=l.length->(kR c (l.take j)).length<=j
 |0,_=>by simp[kR]
 |j+1,h=>by
  rw[J3 o_];have h1:=aaS c (kR c (l.take j)) (l.getD j default);have h2:=Ad c l j o_;omega
theorem J4(h:vC c w=some e):∃r:Nat,r<5/\e.r=(r:Int)/\e.n=c.at r+1/\e.c.le c=true/\1<=e.n/\e∈w:=by
 obtain⟨r,hr,h1⟩:=List.exists_of_findSome?_eq_some h;have hr:=ao3.1 hr;unfold vw at h1;split at h1
 ·rename_i x hx;obtain⟨g1,g2,A,B,g3⟩:=DW hx;split at h1
  ·rename_i hc;cases h1;exact⟨r,hr,g1,g2,hc.2,hc.1,by rw[g3];simp⟩
  ·cases h1
 ·cases h1
theorem J5(h:e∈w):∃a A B,w=A++a::B/\BO w e=A++B/\a.r=e.r/\a.n=e.n:=by
 obtain⟨a,A,B,_,h2,h3,h4⟩:=List.exists_of_eraseP (p:=λ x:Ev=>decide (x.r=e.r/\x.n=e.n)) h s_;simp only[decide_eq_true_eq]at h2;exact⟨a,A,B,h3,h4,h2.1,h2.2⟩
theorem UK(h:e∈w):(BO w e).length+1=w.length:=by
 obtain⟨a,A,B,h1,h2,_⟩:=J5 h;rw[h2,h1];simp;omega
theorem left_eq:∀{W w:List Ev},Dm W->w.Sublist W->W.filter (λ e=>(NU w e.r e.n).isSome)=w
 |[],w,_,h=>by rw[List.sublist_nil.1 h];rfl
 |x::W,w,hd,h=>by
  obtain⟨hx,hW⟩:=List.pairwise_cons.1 hd;rcases List.sublist_cons_iff.1 h with h2|⟨v,rfl,h2⟩
  ·have:(NU w x.r x.n).isSome=false:=by
    rw[Option.isSome_eq_false_iff,Option.isNone_iff_eq_none];refine List.find?_eq_none.2 λ y hy=>?_;have:=hx y (h2.subset hy);simp only[decide_eq_true_eq];exact λ hh=>this ⟨hh.1.symm,hh.2.symm⟩
   rw[anX,this];exact left_eq hW h2
  ·have:(NU (x::v) x.r x.n).isSome=true:=by simp[NU]
   rw[anX,this,if_pos rfl];congr 1;refine(anF λ e he=>?_).trans (left_eq hW h2);have hne:=hx e he;simp only[NU,List.find?_cons];rw[show decide (x.r=e.r/\x.n=e.n)=false by simpa using hne]
theorem Y4:∀(f:Nat)(c:aS)(w d:List Ev),((LY f c w d).2.1).Sublist w
 |0,_,w,_=>List.Sublist.refl w
 |f+1,c,w,d=>by
  unfold LY;split
  ·exact List.Sublist.refl w
  ·exact(Y4 f _ _ _).trans List.eraseP_sublist
theorem ahc(c:aS)(q:Nat)(hr:r<5):(c.inc r).at q<=c.at q+1/\c.at q<=(c.inc r).at q:=by
 obtain⟨c0,c1,c2,c3,c4⟩:=c;rcases(show r=0\/r=1\/r=2\/r=3\/r=4 by omega)with rfl|rfl|rfl|rfl|rfl;all_goals
  match q with
  |0=>simp only[aS.inc,aS.at];omega
  |1=>simp only[aS.inc,aS.at];omega
  |2=>simp only[aS.inc,aS.at];omega
  |3=>simp only[aS.inc,aS.at];omega
  |_+4=>simp only[aS.inc,aS.at];omega
theorem Xp(c:aS)(l:List Ev)(hc:∀r,0<=c.at r/\c.at r<=1000000)(hl:l.length<=1000000)(hd:gI c l=(d,w,c')):
  aF prog 185 [c.av,.sl 12 l.length true (dA l)] (.aZ [.sl 12 d.length true (dA d),.sl 12 w.length true (dA w),c'.av]) []:=by
 have hhas:=Ju c;dsimp only[aS.av,aS.cs]at hhas⊢;have U:=Tryz.underlying326;refine K1.E 0x200f80000800080000f575f7 func185 ?_;repeat' ((conv=>whnf);first|refine kU.mkM ?_|fail)
 conv=>whnf
 refine aI.nil 8 90 74 12 (dA []) rfl d_ ?_;refine aI.mk {j:Nat//j<=l.length} (λ j=>⟨[(22,.v (.int .i64 (j.1:Int))),(21,.v (.int .i64 (l.length:Int))),(20,.sl 12 l.length true (dA l)),(8,.own 90),(7,.own 2),(6,.box 1 0),(5,.v (.slice none 0 0)),(4,.v (.slice none 0 0)),(2,.box 0 0)],
   [(0,.box 33 c.cs),(1,.box 33 aV.cs),(2,.obs (Xa (EG (kR c (l.take j.1))))),(90,bn (kR c (l.take j.1)))],[],91⟩) (λ j=>l.length-j.1) ⟨0,ane _⟩ _
  (dZ.mk' [] _ _ _ rfl gQ nM rfl) ?_
 rintro⟨j,hj⟩;dsimp only;by_cases hjl:j<l.length
 ·have hst:=J3 (c:=c) hjl;have hwl:=Ad c l j hj;rw[show l.getD j default=l.getD (j:Int).toNat default from rfl]at hst;have hm:=Fv (l.getD (j:Int).toNat default);have hh:=hhas (l.getD (j:Int).toNat default).r (l.getD (j:Int).toNat default).n;have hev:=oD (l.getD (j:Int).toNat default);generalize kR c (l.take j)=w0 at hst hwl⊢;dsimp only[Ev.av,Ev.cs,bn]at hm hev⊢;cases hf:NU w0 (l.getD (j:Int).toNat default).r (l.getD (j:Int).toNat default).n with
  |some x=>
   obtain⟨h1,h2,A,B,hs⟩:=DW hf;have hs0:EG w0=EG A++(sD (l.getD (j:Int).toNat default).r (l.getD (j:Int).toNat default).n,evV x)::EG B:=by rw[hs,JH,h1,h2]
   have hnx:qK c w0 (l.getD (j:Int).toNat default)=w0:=by unfold qK;rw[hf];rfl
   rw[hnx]at hst;clear hf h1 h2 hs hnx hd;repeat' ((conv=>whnf);first|refine K1.u ?_|refine K1.P1 hm ?_|refine kU.YW kT U rfl rfl rfl (jF _ _) ⟨_,_,rfl⟩ ⟨_,qW⟩ (oD x) hs0 (DV w0) ?_|fail)
   all_goals(conv=>whnf)
   exact⟨⟨j+1,hjl⟩,_,dZ.mk' [] _ _ _ rfl gQ ⟨dB rfl,dB rfl,⟨_,rfl,by dsimp only;rw[hst];exact dK.refl _⟩,⟨_,rfl,by dsimp only;rw[hst];exact dK.refl _⟩,trivial⟩ rfl,by show l.length-(j+1)<l.length-j;omega⟩
  |none=>
   have hno:=adR (DX hf);cases hb:hasB c (l.getD (j:Int).toNat default).r (l.getD (j:Int).toNat default).n with
   |true=>
    rw[hb]at hh;have hnx:qK c w0 (l.getD (j:Int).toNat default)=w0:=by unfold qK;rw[hb];simp
    rw[hnx]at hst;clear hf hb hnx hd;repeat' ((conv=>whnf);first|refine K1.u ?_|refine K1.P1 hm ?_|refine K1.P1 hh ?_|refine kU.look kT U rfl rfl rfl (jF _ _) ⟨_,_,rfl⟩ qW (oD ev0) hno ?_|fail)
    all_goals(conv=>whnf)
    exact⟨⟨j+1,hjl⟩,_,dZ.mk' [] _ _ _ rfl gQ ⟨dB rfl,dB rfl,⟨_,rfl,by dsimp only;rw[hst];exact dK.refl _⟩,⟨_,rfl,by dsimp only;rw[hst];exact dK.refl _⟩,trivial⟩ rfl,by show l.length-(j+1)<l.length-j;omega⟩
   |false=>
    rw[hb]at hh;have hnx:qK c w0 (l.getD (j:Int).toNat default)=w0++[l.getD (j:Int).toNat default]:=by unfold qK;rw[hb,hf];rfl
    rw[hnx]at hst;clear hf hb hnx hd;repeat' ((conv=>whnf);first|refine K1.u ?_|refine K1.P1 hm ?_|refine K1.P1 hh ?_|refine kU.look kT U rfl rfl rfl (jF _ _) ⟨_,_,rfl⟩ qW (oD ev0) hno ?_|refine kU.alX kT U rfl rfl rfl (jF _ _) ⟨_,_,rfl⟩ rfl hev hno ?_|refine K1.o (id:=8) (nN [0,1,3] [(2,some [1]),(4,some [3,1])]) ?_|fail)
    all_goals(conv=>whnf)
    exact⟨⟨j+1,hjl⟩,_,dZ.mk' [(94,90)] _ _ _ rfl gQ ⟨dB rfl,dB rfl,⟨_,rfl,by dsimp only;rw[hst,JH w0 []];exact dK.refl _⟩,⟨_,rfl,by dsimp only[bn];rw[hst];exact dK.row s_ λ m hm=>eF (c:=Ev.cs) (l:=w0) rfl rfl m hm⟩,trivial⟩ rfl,by show l.length-(j+1)<l.length-j;omega⟩
 ·obtain rfl:j=l.length:=o_
  rw[aof];have hwl:=Ad c l l.length (ani _);rw[aof]at hwl;unfold gI at hd;have hdm:=aew c l;have hsub:w.Sublist (kR c l):=by have:=Y4 (kR c l).length c (kR c l) [];rw[hd]at this;exact this
  generalize kR c l=w0 at hwl hd hdm hsub⊢;have hnx:=adS c w0 (λ r=>⟨(hc r).1,by have:=(hc r).2;omega⟩);generalize hnw:vC c w0=nx at hnx;cases nx;all_goals
   dsimp only[aS.av,aS.cs,Ev.av,Ev.cs,bn,Option.getD,Option.isSome]at hnx⊢;repeat' ((conv=>whnf);first|refine K1.u ?_|refine K1.C 1 [(0,_)] (hnx) rfl ?_|fail)
   conv=>whnf
   refine aI.nil 4 95 74 12 (dA []) rfl d_ ?_;refine aI.mk {s:aS×List Ev×List Ev×Option Ev//vC s.1 s.2.1=s.2.2.2/\LY s.2.1.length s.1 s.2.1 s.2.2.1=(d,w,c')/\s.2.2.1.length+s.2.1.length=w0.length/\ ∀r,0<=s.1.at r/\s.1.at r<=1000000+s.2.2.1.length}
    (λ x=>⟨[(14,.v (.bool x.1.2.2.2.isSome)),(13,.box 92 0),(8,.own 90),(7,.own 2),(6,.box 1 0),(5,.v (.slice none 0 0)),(4,.own 95),(2,.box 0 0)],
     [(92,.box 74 (x.1.2.2.2.getD ev0).cs),(2,.obs (Xa (EG x.1.2.1))),(0,.box 33 x.1.1.cs),(1,.box 33 aV.cs),(90,bn w0),(95,bn x.1.2.2.1)],[],96⟩)
    (λ x=>x.1.2.1.length) ⟨(c,w0,[],_),hnw,hd,s_,λ r=>⟨(hc r).1,by have:=(hc r).2;simpa using this⟩⟩ _
    (dZ.mk' [] _ _ _ rfl gQ nM rfl) ?_
   clear hnx hnw hd;rintro⟨⟨c1,w1,d1,nx⟩,hn1,hdr,hlen,hc1⟩;dsimp only at hn1 hdr hlen hc1⊢;cases nx with
   |none=>
    have he:LY w1.length c1 w1 d1=(d1,w1,c1):=by
     cases h0:w1.length with
     |zero=>rfl
     |succ n=>unfold LY;rw[hn1]
    rw[he]at hdr;cases hdr;clear he hn1 hlen
    conv=>whnf
    refine aI.EO 90 rfl ?_;refine aI.nil 5 98 74 12 (dA []) rfl d_ ?_;refine aI.mk {j:Nat//j<=w0.length} (λ j=>⟨[(82,.v (.int .i64 (j.1:Int))),(81,.v (.int .i64 (w0.length:Int))),(80,.sl 12 w0.length true (dA w0)),(7,.own 2),(6,.box 1 0),(5,.own 98),(4,.own 95),(2,.box 0 0)],
     [(2,.obs (Xa (EG w))),(0,.box 33 c'.cs),(1,.box 33 aV.cs),(95,bn d),(98,bn ((w0.take j.1).filter λ e=>(NU w e.r e.n).isSome))],[],99⟩) (λ j=>w0.length-j.1) ⟨0,ane _⟩ _
     (dZ.mk' [] _ _ _ rfl gQ nM rfl) ?_
    clear hc1 hhas hj hjl hc;rintro⟨j,hj⟩;dsimp only;by_cases hjl:j<w0.length
    ·have hft:(w0.take (j+1)).filter (λ e=>(NU w e.r e.n).isSome)=(w0.take j).filter (λ e=>(NU w e.r e.n).isSome)++(if(NU w (w0.getD (j:Int).toNat default).r (w0.getD (j:Int).toNat default).n).isSome then [w0.getD (j:Int).toNat default]else []):=by
      rw[aoQ hjl,aoq,show w0.getD (j:Int).toNat default=w0[j] by simp[List.getD,hjl]];congr 1;rw[anX,List.filter_nil]
     have hfl:((w0.take j).filter λ e=>(NU w e.r e.n).isSome).length<=j:=anK (anj ..) (by rw[am5];omega);have hm:=Fv (w0.getD (j:Int).toNat default);generalize(w0.take j).filter (λ e=>(NU w e.r e.n).isSome)=lf at hft hfl⊢;dsimp only[Ev.av,Ev.cs,bn]at hm⊢;cases hf:NU w (w0.getD (j:Int).toNat default).r (w0.getD (j:Int).toNat default).n with
     |some x=>
      obtain⟨h1,h2,A,B,hs⟩:=DW hf;have hs0:EG w=EG A++(sD (w0.getD (j:Int).toNat default).r (w0.getD (j:Int).toNat default).n,evV x)::EG B:=by rw[hs,JH,h1,h2]
      rw[hf]at hft;have hft:_=lf++[w0.getD (j:Int).toNat default]:=hft;clear hf h1 h2 hs hdm hsub;repeat' ((conv=>whnf);first|refine K1.u ?_|refine K1.P1 hm ?_|refine kU.YW kT U rfl rfl rfl (jF _ _) ⟨_,_,rfl⟩ ⟨_,qW⟩ (oD x) hs0 (DV w) ?_|fail)
      all_goals(conv=>whnf)
      exact⟨⟨j+1,hjl⟩,_,dZ.mk' [(102,98)] _ _ _ rfl gQ ⟨dB rfl,dB rfl,dB rfl,dB rfl,⟨_,rfl,by dsimp only;rw[hft];exact dK.row s_ λ m hm=>eF (c:=Ev.cs) (l:=lf) rfl rfl m hm⟩,trivial⟩ rfl,by show w0.length-(j+1)<w0.length-j;omega⟩
     |none=>
      have hno:=adR (DX hf);rw[hf]at hft;have hft:_=lf++[]:=hft;rw[am2]at hft;clear hf hdm hsub;repeat' ((conv=>whnf);first|refine K1.u ?_|refine K1.P1 hm ?_|refine kU.look kT U rfl rfl rfl (jF _ _) ⟨_,_,rfl⟩ qW (oD ev0) hno ?_|fail)
      all_goals(conv=>whnf)
      exact⟨⟨j+1,hjl⟩,_,dZ.mk' [] _ _ _ rfl gQ ⟨dB rfl,dB rfl,dB rfl,dB rfl,⟨_,rfl,by dsimp only;rw[hft];exact dK.refl _⟩,trivial⟩ rfl,by show w0.length-(j+1)<w0.length-j;omega⟩
    ·obtain rfl:j=w0.length:=o_
     rw[aof,left_eq hdm hsub];clear hdm hsub;dsimp only[bn,aS.cs];repeat' ((conv=>whnf);first|refine K1.u ?_|refine aT.fH ?_|refine K1.o (id:=26) (nN [0,1,2,3,4] [(5,some [2])]) ?_|fail)
     all_goals(conv=>whnf)
     exact bF.mk (bY)
   |some e=>
    obtain⟨r,qB,her,hen,_,_,hin⟩:=J4 hn1;obtain⟨a,A,B,h1,h2,h3,h4⟩:=J5 hin;have hl1:=UK hin;have hkv:EG w1=EG A++(sD e.r e.n,evV a)::EG B:=by rw[h1,JH,h3,h4]
    have hrm:EG (BO w1 e)=EG A++EG B:=by rw[h2];simp[EG]
    have hall:=DV w1;have al9:LY (BO w1 e).length (c1.inc r) (BO w1 e) (d1++[e])=(d,w,c'):=by
     rw[<-hl1]at hdr;unfold LY at hdr;rw[hn1]at hdr;dsimp only at hdr;rw[show e.r.toNat=r by omega]at hdr;exact hdr
    have hlen2:(d1++[e]).length+(BO w1 e).length=w0.length:=by rw[am0];simp;omega
    have hc2:∀q,0<=(c1.inc r).at q/\(c1.inc r).at q<=1000000+((d1++[e]).length:Int):=λ q=>by
     have h1:=ahc c1 q qB;have h2:=hc1 q;rw[am0];simp;omega
    have k0:0<=c1.c0/\c1.c0<=1000000+(d1.length:Int):=hc1 0;have k1:0<=c1.c1/\c1.c1<=1000000+(d1.length:Int):=hc1 1;have k2:0<=c1.c2/\c1.c2<=1000000+(d1.length:Int):=hc1 2;have k3:0<=c1.c3/\c1.c3<=1000000+(d1.length:Int):=hc1 3;have k4:0<=c1.c4/\c1.c4<=1000000+(d1.length:Int):=hc1 4;have hnx:=adS (c1.inc r) (BO w1 e) (λ q=>⟨(hc2 q).1,by have:=(hc2 q).2;omega⟩);generalize hnw:vC (c1.inc r) (BO w1 e)=nx at hnx;rw[hrm]at hnx;have hm:=Fv e;clear hn1 hdr h1 h2 h3 h4 hhas hdm hc hc1;generalize BO w1 e=w2 at*;cases nx;all_goals
     rcases(show r=0\/r=1\/r=2\/r=3\/r=4 by omega)with rfl|rfl|rfl|rfl|rfl
    all_goals
     dsimp only[aS.av,aS.cs,Ev.av,Ev.cs,bn,Option.getD,Option.isSome,aS.inc,aS.at]at hnx hm⊢;repeat' ((conv=>whnf);first|refine K1.u ?_|refine K1.C 1 [(0,_)] (hnx) rfl ?_|refine K1.P1 hm ?_|refine kU.del rfl rfl rfl kT U rfl rfl rfl (jF _ _) ⟨_,_,rfl⟩ hkv hall ?_|refine mJ.lit 0 her rfl ?_|refine mJ.lit 1 her rfl ?_|refine mJ.lit 2 her rfl ?_|refine mJ.lit 3 her rfl ?_|refine mJ.lit 4 her rfl ?_|fail)
     all_goals(conv=>whnf)
     refine⟨⟨(aS.inc c1 _,w2,d1++[e],_),hnw,al9,hlen2,hc2⟩,_,dZ.mk' [(98,92),(97,95)] _ _ _ rfl gQ ⟨dB rfl,⟨_,rfl,by dsimp only;rw[hrm];exact dK.refl _⟩,dB rfl,dB rfl,dB rfl,⟨_,rfl,dK.row s_ λ m hm=>eF (c:=Ev.cs) (l:=d1) rfl rfl m hm⟩,trivial⟩ rfl,by dsimp only;omega⟩
theorem Ch.evs(hn:n=l.length)(hF:∀i,i<n->F i=dA l i){xs ys:List AV}(h:Ch xs ys):Ch (.sl 12 n true F::xs) (.sl 12 l.length true (dA l)::ys):= .of (λ X u hu=>dJ.sl hn hF X u hu) h
theorem FI(c:aS)(l:List Ev)(hc:∀r,0<=c.at r/\c.at r<=1000000)(hl:l.length<=1000000)(hd:gI c l=(d,w,c'))(hn:n=l.length)(hF:∀i,i<n->F i=dA l i):
 aF prog 185 [c.av,.sl 12 n true F] (.aZ [.sl 12 d.length true (dA d),.sl 12 w.length true (dA w),c'.av]) []:=(Xp c l hc hl hd).args (.same (Ch.evs hn hF .nil))
def Ae(most:Int)(c:aS)(h:AV):AO:= .box 241 [.v (.int .i64 most),.v (.int .i64 c.c0),.v (.int .i64 c.c1),.v (.int .i64 c.c2),.v (.int .i64 c.c3),.v (.int .i64 c.c4),h]
def zh(most batch sent:Int)(m:AV):AO:= .box 239 [.v (.int .i64 most),.v (.int .i64 batch),.v (.int .i64 sent),m]
def iC:AV:= .v (.slice none 0 0)
theorem UL(most:Int)(c:aS):aj prog 179 [] [.v (.int .i64 most),c.av] (.box 0 0) [(0,Ae most c iC)]:=by
 dsimp only[aS.av,aS.cs,Ae,iC];refine K1.M 0x1b func179 40 ?_
 all_goals(conv=>whnf)
 exact iF [(41,0)]
theorem UM(most batch sent:Int):aj prog 178 [] [.v (.int .i64 most),.v (.int .i64 batch),.v (.int .i64 sent)] (.box 0 0) [(0,zh most batch sent iC)]:=by
 dsimp only[zh,iC];refine K1.M 0x47 func178 40 ?_
 all_goals(conv=>whnf)
 exact iF [(40,0)]
theorem aex(most:Int)(c:aS)(h:AV)(hh:h=iC\/ ∃n F,h= .sl 12 n true F)(e:Ev)(hc:∀r,0<=c.at r/\c.at r<=1000000)(hd:gI c [e]=(d,w,c')):
  aj prog 84 [(0,Ae most c h)] [.box 0 0,e.av] (.v (.int .i64 (if d.length=0 then 20 else 0))) [(0,Ae most (if d.length=0 then c else c') h)]:=by
 have hdr:=FI c [e] hc s_ hd (n:=1) (F:=chunk 12 e.cs) rfl λ i hi=>by
  obtain rfl:i=0:=o_
  rfl
 dsimp only[aS.av,aS.cs,Ev.av,Ev.cs,Ae]at hdr⊢;rcases hh with rfl|⟨n,F,rfl⟩;all_goals
  try dsimp only[iC]
  by_cases h0:d.length=0
  ·rw[if_pos h0,if_pos h0];refine K1.M 0x400bb func84 40 ?_;repeat' ((conv=>whnf);first|refine K1.u ?_|refine K1.P1 hdr ?_|refine K1.I 0x73 func132 ?_|fail)
   all_goals(conv=>whnf)
   exact iF []
  ·rw[if_neg h0,if_neg h0];refine K1.M 0x400bb func84 40 ?_;repeat' ((conv=>whnf);first|refine K1.u ?_|refine K1.P1 hdr ?_|refine K1.I 0x73 func132 ?_|fail)
   all_goals(conv=>whnf)
   exact iF []
theorem lM(most:Int)(c:aS)(h:AV)(hh:h=iC\/ ∃n F,h= .sl 12 n true F):aj prog 81 [(0,Ae most c h)] [.box 0 0] c.av [(0,Ae most c h)]:=by
 dsimp only[aS.av,aS.cs,Ae];rcases hh with rfl|⟨n,F,rfl⟩;all_goals
  try dsimp only[iC]
  refine K1.M 0x5 func81 40 ?_
  all_goals(conv=>whnf)
  exact iF []
def Y5(c:aS)(r:Nat):aS:=if c.at r<1048576 then c.inc r else aV
theorem J6(c:aS)(r:Nat)(hr:r<5)(hc:0<=c.at r):aF prog 82 [c.av,.v (.int .i64 (r:Int))] (.aZ [(Y5 c r).av,.v (.int .i64 (if c.at r<1048576 then 0 else 25))]) []:=by
 unfold Y5;by_cases h:c.at r<1048576
 ·rw[if_pos h,if_pos h];rcases(show r=0\/r=1\/r=2\/r=3\/r=4 by omega)with rfl|rfl|rfl|rfl|rfl;all_goals
   simp only[aS.at]at h hc;simp only[aS.av,aS.cs,aS.inc];refine K1.E 0x10837 func82 ?_;repeat' ((conv=>whnf);first|refine K1.u ?_|refine mJ.mk d_ ?_|refine aT.fH ?_|fail)
   all_goals(conv=>whnf)
   exact bF.mk (bY)
 ·rw[if_neg h,if_neg h];rcases(show r=0\/r=1\/r=2\/r=3\/r=4 by omega)with rfl|rfl|rfl|rfl|rfl;all_goals
   simp only[aS.at]at h hc;simp only[aS.av,aS.cs,aV];refine K1.E 0x10837 func82 ?_;repeat' ((conv=>whnf);first|refine K1.u ?_|refine mJ.mk d_ ?_|refine aT.fH ?_|fail)
   all_goals(conv=>whnf)
   exact bF.mk (bY)
theorem Ea(l:List Ev)(c:aS)(hl:l.length<=1000000000)(hh:∀e∈l,0<=e.h/\e.h<=1000000000):
  aF prog 66 [.sl 12 l.length true (dA l),c.av] (.v (.int .i64 (hgt l c))) []:=by
 dsimp only[aS.av,aS.cs];refine K1.E 0x40001f7b func66 ?_
 conv=>whnf
 refine aI.mk {x:Nat×(Int×Bool)//x.1<=l.length/\x.2=Qp c (l.take x.1)} (λ x=>⟨[(9,.sl 12 l.length true (dA l)),(10,.v (.int .i64 (l.length:Int))),(3,.box 0 0),(5,.v (.int .i64 x.1.2.1)),(6,.v (.bool x.1.2.2)),(11,.v (.int .i64 (x.1.1:Int)))],
   [(0,.box 33 c.cs)],[],1⟩) (λ x=>l.length-x.1.1) ⟨(0,(0,false)),ane _,rfl⟩ _
  (dZ.mk' [] _ _ _ rfl gQ nM rfl) ?_
 rintro⟨⟨j,s⟩,hj,hs⟩;dsimp only at hj hs⊢;have hb:=JA (c:=c) (M:=1000000000) o_ (l.take j) (λ e he=>hh e (an7 he)) (0,false) s_;have hs':s=(l.take j).foldl (tJ c) (0,false):=hs;rw[<-hs']at hb;by_cases hjl:j<l.length
 ·have hhas:=Ju c (l.getD (j:Int).toNat default).r (l.getD (j:Int).toNat default).n;have hft:Qp c (l.take (j+1))=tJ c s (l.getD (j:Int).toNat default):=by rw[hs];exact zT hjl
  have hst:tJ c s (l.getD (j:Int).toNat default)=if(hasB c (l.getD (j:Int).toNat default).r (l.getD (j:Int).toNat default).n&&(!s.2||decide (s.1<(l.getD (j:Int).toNat default).h)))=true then((l.getD (j:Int).toNat default).h,true)else s:=rfl
  rw[hst]at hft;generalize hasB c (l.getD (j:Int).toNat default).r (l.getD (j:Int).toNat default).n=q at hhas hft;clear hs' hst hs hh;obtain⟨s1,s2⟩:=s;dsimp only at hb hft⊢;have k1:q=true->s2=false->((l.getD (j:Int).toNat default).h,true)=Qp c (l.take (j+1)):=λ h1 h2=>by rw[hft,h1,h2];simp
  have k2:q=true->s1<(l.getD (j:Int).toNat default).h->((l.getD (j:Int).toNat default).h,true)=Qp c (l.take (j+1)):=λ h1 h2=>by rw[hft,h1,decide_eq_true h2];simp
  have k3:q=false->(s1,s2)=Qp c (l.take (j+1)):=λ h1=>by rw[hft,h1];simp
  have k4:s2=true-> ¬s1<(l.getD (j:Int).toNat default).h->(s1,s2)=Qp c (l.take (j+1)):=λ h1 h2=>by rw[hft,h1,decide_eq_false h2];simp
  clear hft;dsimp only[aS.av,aS.cs]at hhas⊢;repeat' ((conv=>whnf);first|refine K1.u ?_|refine K1.P1 hhas ?_|refine K1.y (λ _=>?_) (λ _=>?_)|fail)
  all_goals(conv=>whnf)
  all_goals first
   |exact⟨⟨(j+1,(_,true)),hjl,by first|exact k1 a_ a_|exact k2 a_ o_⟩,_,dZ.mk' [] _ _ _ rfl gQ nM rfl,Nat.sub_succ_lt_self _ _ hjl⟩
   |exact⟨⟨(j+1,(s1,s2)),hjl,by first|exact k3 a_|exact k4 a_ o_⟩,_,dZ.mk' [] _ _ _ rfl gQ nM rfl,Nat.sub_succ_lt_self _ _ hjl⟩
 ·rw[anf (show l.length<=j by omega)]at hs;have hR:hgt l c=s.1+1:=by rw[hs];rfl
  rw[hR];repeat' ((conv=>whnf);first|refine K1.u ?_|refine aT.fH ?_|fail)
  conv=>whnf
  exact bF.mk (bY)
theorem aaT(hl:n<=1000000000):aF prog 138 [.sl 12 n true F] (.sl 12 n true F) []:=by
 refine K1.E 0x15 func138 ?_;repeat' ((conv=>whnf);first|refine K1.u ?_|refine aT.fH ?_|refine K1.y (λ _=>?_) (λ _=>?_)|fail)
 all_goals(conv=>whnf)
 ·obtain rfl:n=0:=a_
  exact bF.mk λ X u h=>C1.iC d_ h
 ·exact bF.mk (dJ.sl (anZ _) λ i _=>rfl)
def Af(sent:Int)(w:List Ev):Int:=if w.length=0 then sent else(w.getD (w.length-1) default).n
def LZ(most sent:Int)(w:List Ev)(e:Ev):List Ev×Int:=if most<=(w.length:Int)then(w,17)else if e.n=Af sent w+1 then(w++[e],0)else(w,20)
theorem UN(most batch sent:Int)(w w':List Ev)(e:Ev)(x:Int)(hl:w.length<=1000000)(hs:0<=sent/\sent<=1000000000)(hn:∀j,0<=(w.getD j default).n/\(w.getD j default).n<=1000000000)(h:LZ most sent w e=(w',x)):
  aj prog 85 [(0,zh most batch sent (.own 1)),(1,bn w)] [.box 0 0,e.av] (.v (.int .i64 x)) [(0,zh most batch sent (.own 2)),(2,bn w')]:=by
 have hlast:=hn ((w.length:Int)-1).toNat;have hl1:w.length≠0->Af sent w=(w.getD ((w.length:Int)-1).toNat default).n:=λ h=>by unfold Af;rw[if_neg h,show((w.length:Int)-1).toNat=w.length-1 by omega]
 have hl0:w.length=0->Af sent w=sent:=λ h=>by unfold Af;rw[if_pos h]
 have UO:w.length≠0->Nat.ble (((w.length:Int)-1).toNat+1) w.length=true:=λ h=>an0 o_;unfold LZ at h;dsimp only[zh,bn,Ev.av,Ev.cs];clear hn;by_cases hm:most<=(w.length:Int)
 ·rw[if_pos hm]at h;cases h;refine K1.M 0x40010027b func85 40 ?_;repeat' ((conv=>whnf);first|refine K1.u ?_|refine K1.I 0x5 func80 ?_|fail)
  all_goals(conv=>whnf)
  exact iF [(1,2)]
 ·rw[if_neg hm]at h;by_cases h0:w.length=0
  ·rw[hl0 h0]at h;clear hl0 hl1 UO;by_cases he:e.n=sent+1
   ·rw[if_pos he]at h;cases h;refine K1.M 0x40010027b func85 40 ?_;repeat' ((conv=>whnf);first|refine K1.u ?_|refine K1.I 0x5 func80 ?_|refine K1.o (id:=9) (nN [0,1,2,3,4,5] ((6,some [5])::(7,some [5,4,2])::nN [8,9] [(10,some [5,4,2,8])])) ?_|fail)
    all_goals(conv=>whnf)
    exact⟨[(42,2)],rfl,rfl,⟨dB rfl,⟨_,rfl,dK.row s_ λ m hm=>eF (c:=Ev.cs) (l:=w) rfl rfl m hm⟩,trivial⟩,rfl,rfl,bY⟩
   ·rw[if_neg he]at h;cases h;refine K1.M 0x40010027b func85 40 ?_;repeat' ((conv=>whnf);first|refine K1.u ?_|refine K1.I 0x5 func80 ?_|fail)
    all_goals(conv=>whnf)
    exact iF [(1,2)]
  ·rw[hl1 h0]at h;have UO:=UO h0;clear hl0 hl1;by_cases he:e.n=(w.getD ((w.length:Int)-1).toNat default).n+1
   ·rw[if_pos he]at h;cases h;refine K1.M 0x40010027b func85 40 ?_;repeat' ((conv=>whnf);first|refine K1.u ?_|refine K1.I 0x5 func80 ?_|refine K1.o (id:=9) (nN [0,1,2,3,4,5] ((6,some [5])::(7,some [5,4,2])::nN [8,9] [(10,some [5,4,2,8])])) ?_|fail)
    all_goals(conv=>whnf)
    exact⟨[(42,2)],rfl,rfl,⟨dB rfl,⟨_,rfl,dK.row s_ λ m hm=>eF (c:=Ev.cs) (l:=w) rfl rfl m hm⟩,trivial⟩,rfl,rfl,bY⟩
   ·rw[if_neg he]at h;cases h;refine K1.M 0x40010027b func85 40 ?_;repeat' ((conv=>whnf);first|refine K1.u ?_|refine K1.I 0x5 func80 ?_|fail)
    all_goals(conv=>whnf)
    exact iF [(1,2)]
end Go.Proofs.YtkimgljckickcaaGreat
