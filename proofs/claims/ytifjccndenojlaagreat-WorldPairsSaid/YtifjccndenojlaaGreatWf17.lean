/-
  Contracts of the walk:Lv2,Lv3,Lv4,NdC,NdD,NdE.
-/
import Derived.Test.YtifjccndenojlaaGreatWf11
import Derived.Test.YtifjccndenojlaaGreatWf12
set_option maxHeartbeats 16000000
set_option maxRecDepth 100000
set_option linter.unusedVariables false
set_option linter.unusedSimpArgs false
namespace Go.Proofs.YtifjccndenojlaaGreat
open Go.RowKit
open Go.Proofs.Tryz
variable{key:ByteArray}{e:Ev}{P T W d l w:List Ev}{n r:Nat}{F:Nat->List AV}{H:Nat->aV}{k:Str}{c c':aV}
structure YK(p:List Ev)(key:ByteArray):Prop where
 key:∀x∈p,x.key=key
 one:oQ p
 hi:∀a∈p,∀b∈p,aP a b=true->a.h<b.h
 tr:∀a∈p,∀b∈p,∀c∈p,aP a b=true->aP b c=true->aP a c=true
section
variable{p:List Ev}{key:ByteArray}(t:YK p key)
theorem CZ{x:Ev}(h:iV p x=true):(bU p x=true/\x.k=1)\/(countB p (aF p) x=true/\eX p x=false/\(x.k=3\/x.k=4)):=by
 unfold iV at h;simp only[apf,aon,aoX]at h;rcases h with h|⟨h1,h2⟩
 ·exact .inl ⟨h,iG h⟩
 ·exact .inr ⟨h1,h2,kP h1⟩
theorem Lh{k:Int}(hk:k=2\/k=5)(same:Ev->Ev->Bool)(x:Ev):fM k same (iK p) x=false:=by
 unfold fM;rw[aqB];intro a ha;have:=CZ (aoA.1 ha).2;have:¬a.k=k:=by rcases this with⟨_,h⟩|⟨_,_,h⟩<;>omega
 rw[decide_eq_false this];simp
theorem H6:aF (iK p)=aF p:=by
 unfold aF;have:∀x,bU (iK p) x=decide (x.k=1):=λ x=>by unfold bU;rw[Lh (.inl rfl)];simp
 rw[ao4 (q:=λ x=>decide (x.k=1)) (λ x _=>this x)];unfold iK;rw[ao8];refine ao4 λ x _=>?_;cases hl:bU p x with
 |true=>rw[decide_eq_true (iG hl)];simp[iV,hl]
 |false=>
  cases hc:countB p (aF p) x with
  |true=>rw[decide_eq_false (show¬x.k=1 by rcases kP hc with h|h<;>omega)];rfl
  |false=>simp[iV,hl,hc]
theorem NR:bg (iK p) (aF (iK p))=(bg p (aF p)).filter λ x=> !eX p x:=by
 rw[H6];unfold bg;rw[ao8];have hcn:∀x∈iK p,countB (iK p) (aF p) x=countB p (aF p) x:=λ x hx=>by
  unfold countB;rw[Lh (.inr rfl)];rcases CZ (aoA.1 hx).2 with⟨_,h⟩|⟨h,_,_⟩
  ·rw[decide_eq_false (show¬x.k=3 by omega),decide_eq_false (show¬x.k=4 by omega)];rfl
  ·unfold countB at h;rw[h];simp only[aon,apf,decide_eq_true_eq]at h;obtain⟨h1,h2⟩:=h;rw[h2];rcases h1 with h1|h1
   ·rw[decide_eq_true h1];rfl
   ·rw[decide_eq_true h1.1];simp
 rw[ao4 hcn];unfold iK;rw[ao8];refine ao4 λ x _=>?_;cases hc:countB p (aF p) x with
 |false=>simp
 |true=>
  have hl:bU p x=false:=by rw[aoU];intro k;have:=iG k;rcases kP hc with h|h<;>omega
  unfold iV;rw[hl,hc];simp
include t
theorem YK.ab2{x y:Ev}(hx:x∈bg p (aF p))(hy:y∈p)(hb:aP x y=true)(hk:y.k=x.k)(hs:y.k=4->lJ y x=true):y∈bg p (aF p):=by
 obtain⟨hxp,hc⟩:=aoA.1 hx;refine aoA.2 ⟨hy, ?_⟩;unfold countB at hc⊢;simp only[aon]at hc⊢;obtain⟨h1,h2⟩:=hc;refine⟨?_, ?_⟩
 ·rw[hk];by_cases k3:x.k=3
  ·rw[decide_eq_true k3];rfl
  ·rw[decide_eq_false k3,Bool.false_or,aon]at h1⊢;refine⟨h1.1, ?_⟩;have hx5:=h1.2;simp only[aoX]at hx5⊢;rw[aoU];intro ha;obtain⟨z,hz,hz2⟩:=aps.1 ha;simp only[aon,decide_eq_true_eq]at hz2;have k4:y.k=4:=by rw[hk];exact of_decide_eq_true h1.1
   have hzx:lJ z x=true:=by
    have e1:=hz2.2.1;have e2:=hs k4;simp only[lJ,tY,gu,aon,decide_eq_true_eq]at e1 e2⊢;exact⟨⟨e1.1.1.trans e2.1.1,e1.1.2.trans e2.1.2⟩,e1.2.trans e2.2⟩
   have:fM 5 lJ p x=true:=aps.2 ⟨z,hz,by
    simp only[aon,decide_eq_true_eq];exact⟨hz2.1,hzx,t.tr x hxp y hy z hz hb hz2.2.2⟩⟩
   rw[this]at hx5;cases hx5
 ·obtain⟨c,hc,h⟩:=aps.1 h2;simp only[aon,decide_eq_true_eq]at h;have hcp:=(aoA.1 hc).1;refine aps.2 ⟨c,hc, ?_⟩;simp only[aon,decide_eq_true_eq];exact⟨h.1,zL (by rw[t.key c hcp,t.key y hy]),t.tr c hcp x hxp y hy h.2.2 hb⟩
theorem YK.afL{A:List Ev}{m:Ev}(hm:m∈A)(hA:∀x∈A,x∈bg p (aF p))(htop:∀x∈A,¬kG (dB m) (dB x)=true)
  (hin:∀y∈bg p (aF p),y.k=m.k->(if m.k=4 then lJ y m else tY y m)=true->y∈A):eX p m=false:=by
 rw[aoU];intro hl;have hmc:=hA m hm;have hmp:=(aoA.1 hmc).1;have:∃y∈p,y.k=m.k/\(if m.k=4 then lJ y m else tY y m)=true/\aP m y=true:=by
  unfold eX at hl;by_cases h:m.k=4
  ·rw[if_pos h]at hl;obtain⟨y,hy,h2⟩:=aps.1 hl;simp only[aon,decide_eq_true_eq]at h2;exact⟨y,hy,h2.1,by rw[if_pos h];exact h2.2.1,h2.2.2⟩
  ·rw[if_neg h]at hl;obtain⟨y,hy,h2⟩:=aps.1 hl;simp only[aon,decide_eq_true_eq]at h2;exact⟨y,hy,h2.1,by rw[if_neg h];exact h2.2.1,h2.2.2⟩
 obtain⟨y,hy,hyk,hys,hyb⟩:=this;have hyc:=t.ab2 hmc hy hyb hyk (λ k4=>by rw[if_pos o_]at hys;exact hys);have hyA:=hin y hyc hyk hys;have:=t.hi m hmp y hy hyb;refine htop y hyA ?_;rw[oP];exact .inl this
theorem YK.aiI:dV key ((bg p (aF p)).filter λ x=> !eX p x)=dV key (bg p (aF p)):=by
 have hkind:∀x∈bg p (aF p),(x.k=3\/x.k=4)/\x.key=key:=λ x hx=>⟨kP (aoA.1 hx).2,t.key x (aoA.1 hx).1⟩;have hone:oQ (bg p (aF p)):=λ a ha b hb=>t.one a (aoA.1 ha).1 b (aoA.1 hb).1;have htop:= @YK.afL p key t;generalize hws:bg p (aF p)=ws at*;have hs:∀n,dW key n (ws.filter λ x=> !eX p x)=(dW key n ws).filter λ x=> !eX p x:=λ n=>by
  unfold dW;rw[ao8,ao8];exact ao4 λ x _=>aq3 _ _
 have ha:∀n,gY key n (ws.filter λ x=> !eX p x)=(gY key n ws).filter λ x=> !eX p x:=λ n=>by
  unfold gY;rw[ao8,ao8];exact ao4 λ x _=>aq3 _ _
 have hsw:∀n,∀x∈dW key n ws,x∈ws/\x.k=3/\x.l=n:=λ n x hx=>by
  obtain⟨h1,h2⟩:=aoA.1 hx;simp only[Ve,aon,decide_eq_true_eq]at h2;exact⟨h1,h2.2,h2.1.2⟩
 have haw:∀n,∀x∈gY key n ws,x∈ws/\x.k=4/\x.l=n:=λ n x hx=>by
  obtain⟨h1,h2⟩:=aoA.1 hx;simp only[Ve,aon,decide_eq_true_eq,aoX,decide_eq_false_iff_not]at h2;exact⟨h1,(hkind x h1).1.resolve_left h2.2,h2.1.2⟩
 have hset:∀n,IB (dW key n (ws.filter λ x=> !eX p x))=IB (dW key n ws)/\lU (dW key n (ws.filter λ x=> !eX p x))=lU (dW key n ws):=λ n=>by
  rw[hs];by_cases h0:(dW key n ws).length=0
  ·have:dW key n ws=[]:=apr.1 h0;rw[this];exact⟨rfl,rfl⟩
  ·obtain⟨m,hm,e1,e2⟩:=Ey h0;have hmx:∀x∈dW key n ws,¬kG (dB m) (dB x)=true:=λ x hx=>by
    rw[e2];exact(Ew ((dW key n ws).map dB) (((dW key n ws).map dB).getD 0 default)).2 _ (aoR.2 ⟨x,hx,rfl⟩)
   obtain⟨m1,m2,m3⟩:=hsw n m hm;have hlt:eX p m=false:=htop hm (λ x hx=>(hsw n x hx).1) hmx λ y hy hyk hys=>by
    rw[if_neg o_]at hys;refine aoA.2 ⟨hy, ?_⟩;simp only[tY,gu,aon,decide_eq_true_eq]at hys;simp only[Ve,aon,decide_eq_true_eq];exact⟨⟨(hkind y hy).2,by rw[hys.2];exact m3⟩,o_⟩
   have hmf:m∈(dW key n ws).filter λ x=> !eX p x:=aoA.2 ⟨hm,by rw[hlt];rfl⟩;refine⟨?_, ?_⟩
   ·unfold IB;rw[decide_eq_false h0,decide_eq_false (λ h=>by rw[apr]at h;rw[h]at hmf;cases hmf)]
   ·rw[e1];exact O6 (λ a ha b hb=>hone a (hsw n a (aoA.1 ha).1).1 b (hsw n b (aoA.1 hb).1).1) hmf λ x hx=>hmx x (aoA.1 hx).1
 have hadd:∀n,valsF (gY key n (ws.filter λ x=> !eX p x))=valsF (gY key n ws):=λ n=>by
  rw[ha];refine yV λ v=>?_;rw[aoR,aoR];constructor
  ·rintro⟨x,hx,e⟩;exact⟨x,(aoA.1 hx).1,e⟩
  ·rintro⟨x,hx,e⟩;have h0:¬ ((gY key n ws).filter λ y=>decide (y.v=x.v)).length=0:=λ h=>by
    rw[apr]at h;have:x∈(gY key n ws).filter λ y=>decide (y.v=x.v):=aoA.2 ⟨hx,decide_eq_true rfl⟩;rw[h]at this;cases this
   obtain⟨m,hm,e1,e2⟩:=Ey h0;obtain⟨hma,hmv⟩:=aoA.1 hm;have hmv:m.v=x.v:=of_decide_eq_true hmv;obtain⟨m1,m2,m3⟩:=haw n m hma;have hmx:∀y∈(gY key n ws).filter λ y=>decide (y.v=x.v),¬kG (dB m) (dB y)=true:=λ y hy=>by
    rw[e2];exact(Ew _ _).2 _ (aoR.2 ⟨y,hy,rfl⟩)
   have hlt:eX p m=false:=htop hm (λ y hy=>(haw n y (aoA.1 hy).1).1) hmx λ y hy hyk hys=>by
    rw[if_pos m2]at hys;simp only[lJ,tY,gu,aon,decide_eq_true_eq]at hys;refine aoA.2 ⟨aoA.2 ⟨hy, ?_⟩,decide_eq_true (hys.2.trans hmv)⟩;simp only[Ve,aon,decide_eq_true_eq,aoX,decide_eq_false_iff_not];exact⟨⟨(hkind y hy).2,by rw[hys.1.2];exact m3⟩,o_⟩
   exact⟨m,aoA.2 ⟨hma,by rw[hlt];rfl⟩,by rw[hmv];exact e⟩
 unfold dV;rw[(hset 0).1,(hset 1).1,(hset 0).2,(hset 1).2,hadd,hadd]
theorem YK.aiJ:pz (iK p)=pz p:=by
 rw[of_same (l:=iK p) (key:=key) (λ x hx=>t.key x (aoA.1 hx).1),of_same t.key,NR,H6,t.aiI]
omit t in
theorem PS:(iK p).length=qF p:=by
 unfold iK qF;have hd:∀e,bU p e=true->countB p (aF p) e=false:=λ e he=>by
  have:=iG he;rw[aoU];intro k;rcases kP k with h|h<;>omega
 have:∀l:List Ev,(l.filter (iV p)).length=(l.filter (bU p)).length+((l.filter (countB p (aF p))).filter λ e=> !eX p e).length:=by
  intro l;induction l with
  |nil=>rfl
  |cons x l ih=>
   rw[apo,apo,apo];have hq:iV p x=(bU p x||(countB p (aF p) x&& !eX p x)):=rfl;rw[hq];cases hl:bU p x with
   |true=>simp[hd x hl,ih];omega
   |false=>
    cases hc:countB p (aF p) x with
    |false=>simp[ih]
    |true=>
     simp only[Bool.false_or,aqA,if_true,aph,if_false];rw[apo];cases eX p x<;>simp[ih]<;>omega
 exact this p
end
def keyS(k:Str):ByteArray:=⟨k.toArray⟩
theorem ab3(k:Str):dU (keyS k)=k:=rfl
def iO(P:List Ev)(key:ByteArray):List Ev:=iK (nX (eqK key) P)
theorem Lj(t:Gg (nX (eqK e.key) P) e):iO (P++[e]) e.key=kY (iO P e.key) e:=by
 unfold iO;rw[aal,if_pos (show eqK e.key e.key=true from decide_eq_true rfl),t.step]
theorem H7(h:key≠e.key):iO (P++[e]) key=iO P key:=by
 unfold iO;rw[aal,if_neg (by unfold eqK;rw[decide_eq_false (λ k=>h k.symm)];simp),aor]
theorem ab4:iO P key≠[]↔aF (nX (eqK key) P)≠[]:=by
 constructor
 ·intro h hl;obtain⟨x,hx⟩:=aqF _ h;obtain⟨hx,hq⟩:=aoA.1 hx;rcases CZ hq with⟨h1,_⟩|⟨h1,_,_⟩
  ·have:x∈aF (nX (eqK key) P):=aoA.2 ⟨hx,h1⟩;rw[hl]at this;cases this
  ·unfold countB at h1;rw[hl]at h1;simp[gU]at h1
 ·intro h hk;obtain⟨x,hx⟩:=aqF _ h;obtain⟨hx,hl⟩:=aoA.1 hx;have:x∈iO P key:=aoA.2 ⟨hx,by unfold iV;rw[hl];rfl⟩;rw[hk]at this;cases this
theorem Ll:k∈keysB P↔aF (nX (eqK (keyS k)) P)≠[]:=by
 have h1:k∈keysB P↔k∈(aF P).map λ e:Ev=>dU e.key:=(jG _).2 k;rw[h1,AQ,aoR];constructor
 ·rintro⟨e,he,rfl⟩ h;have:e∈nX (eqK (keyS (dU e.key))) (aF P):=aoA.2 ⟨he,decide_eq_true (show e.key=keyS (dU e.key) by unfold keyS;rw[aby])⟩;rw[h]at this;cases this
 ·intro h;obtain⟨e,he⟩:=aqF _ h;obtain⟨he,hk⟩:=aoA.1 he;have hk:e.key=keyS k:=of_decide_eq_true hk;exact⟨e,he,by rw[hk];rfl⟩
theorem alh(h:k∈keysB P):pz (nX (eqK (keyS k)) P)=[dV (keyS k) (bg P (aF P))]:=by
 rw[of_same (key:=keyS k) RX,if_neg (Ll.1 h),Hr,Yq (show eqK (keyS k) (keyS k)=true from decide_eq_true rfl)]
theorem ab5(hp:∀key,YK (nX (eqK key) P) key){ks:List Str}(hs:ks.Pairwise (·< ·))(hm:∀k,k∈ks↔iO P (keyS k)≠[]):
  ks.flatMap (λ k=>pz (iO P (keyS k)))=pz P:=by
 have hk:ks=keysB P:=Ai hs (jG ((aF P).map λ e:Ev=>dU e.key)).1 λ k=>by
  rw[hm,ab4];exact Ll.symm
 have h2:∀l:List Str,(∀k∈l,k∈keysB P)->l.flatMap (λ k=>pz (iO P (keyS k)))=l.map λ k=>dV (keyS k) (bg P (aF P)):=by
  intro l;induction l with
  |nil=>intro _;rfl
  |cons k l ih=>
   intro h;rw[apa,apd,ih λ x hx=>h x (aoq _ hx)];unfold iO;rw[(hp (keyS k)).aiJ,alh (h k aol)];rfl
 rw[hk,h2 _ λ k h=>h];rfl
theorem VW(h:aF P=[]):qF P=0:=by
 unfold qF;rw[h];have:bg P []=[]:=by
  unfold bg;rw[aqx];intro x _;simp[countB,gU]
 rw[this];rfl
theorem amy{p q:ByteArray->Bool}(h:∀k,p k=true->q k=true):nX p (nX q P)=nX p P:=by
 unfold nX;rw[ao8];refine ao4 λ x _=>?_;cases hp:p x.key with
 |false=>simp
 |true=>rw[h _ hp];rfl
theorem Gu:∀(ks:List Str)(P:List Ev),ks.Nodup->(∀x∈aF P,dU x.key∈ks)->(ks.map λ k=>(iO P (keyS k)).length).sum=qF P
 |[],P,_,h=>by
  have:aF P=[]:=List.eq_nil_iff_forall_not_mem.2 λ x hx=>by have:=h x hx;cases this
  rw[VW this];rfl
 |k::ks,P,hn,h=>by
  obtain⟨hk,hn⟩:=apj.1 hn;have ih:=Gu ks (nX (λ x=> !eqK (keyS k) x) P) hn (λ x hx=>by
   rw[AQ]at hx;obtain⟨hx,hne⟩:=aoA.1 hx;rcases aot.1 (h x hx)with e|h
   ·exfalso;have:eqK (keyS k) x.key=true:=decide_eq_true (by rw[<-e];unfold keyS;rw[aby]);have hne:(!eqK (keyS k) x.key)=true:=hne;rw[this]at hne;cases hne
   ·exact h)
  have hc:(ks.map λ q=>(iO (nX (λ x=> !eqK (keyS k) x) P) (keyS q)).length)=ks.map λ q=>(iO P (keyS q)).length:=List.map_congr_left λ q hq=>by
   unfold iO;rw[amy];intro y hy;have hy:y=keyS q:=of_decide_eq_true hy;have:y≠keyS k:=λ e=>by
    rw[hy]at e;have e:q=k:=congrArg dU e;exact hk (e▸hq)
   unfold eqK;rw[decide_eq_false this];rfl
  rw[hc]at ih;rw[apd,List.sum_cons,ih,size_two (p:=eqK (keyS k)) (l:=P)];congr 1;exact PS
theorem Inv.pst(hI:Inv T H)(hP:∀x∈P,x∈T)(htr:∀a∈T,∀b∈T,∀c∈T,aP a b=true->aP b c=true->aP a c=true)(key:ByteArray):YK (nX (eqK key) P) key:=by
 have hs:∀x∈nX (eqK key) P,x∈T:=λ x hx=>hP x (aoA.1 hx).1;exact⟨RX,λ a ha b hb=>hI.stamp a (hs a ha) b (hs b hb),λ a ha b hb=>hI.hgt a (hs a ha) b (hs b hb),λ a ha b hb c hc=>htr a (hs a ha) b (hs b hb) c (hs c hc)⟩
def afM(T:List Ev):Prop:= ∀x∈T,∀e∈T,aP x e=true-> ∀r:Nat,r<5->x.c.at r<=e.c.at r
theorem aiK(h:Inv T H)(h2:afM T)(hr:r<5){y:Ev}(ec:y.c=H r)(hV:(T++[y]).Pairwise λ a b=>aP b a=false)(hs:aP y y=false):afM (T++[y]):=λ x hx e he hb p hp=>by
 rcases aov.1 he with he|he
 ·rcases aov.1 hx with hx|hx
  ·exact h2 x hx e he hb p hp
  ·rw[aoo.1 hx]at hb;rw[(apw.1 hV).2.2 e he y (aoo.2 rfl)]at hb;cases hb
 ·rw[aoo.1 he]at hb⊢;rcases aov.1 hx with hx|hx
  ·unfold aP at hb;rw[ec]at hb⊢;exact h.clo r hr x hx hb p hp
  ·rw[aoo.1 hx,hs]at hb;cases hb
theorem VX(hI:Inv T H)(ht:afM T):∀a∈T,∀b∈T,∀c∈T,aP a b=true->aP b c=true->aP a c=true:=λ a ha b hb c hc h1 h2=>by
 obtain⟨r,k1,k2,k3,_,_⟩:=hI.ev a ha;unfold aP at h1⊢;rw[k2,kM k1]at h1⊢;have:=ht b hb c hc h2 r k1;exact⟨h1.1,o_⟩
structure SC(W:List Ev)(s:Spr):Prop where
 full:∀e∈W,∀r:Nat,r<5->e.r=(r:Int)->e.n<=s.hv.at r->e∈s.out
 le:∀e∈s.out,∀r:Nat,r<5->e.c.at r<=s.hv.at r
 ord:s.out.Pairwise λ a b=>aP b a=false
theorem SC.step(hI:Inv W H){s:Spr}(hok:aak W s)(h:SC W s){k:Nat}(hk:k∈akW s.left s.hv):SC W (aaj s k):=by
 obtain⟨hkl,hrp⟩:=ain.1 hk;obtain⟨out,left,hv⟩:=s;obtain⟨h1,h2,h3⟩:=h;obtain⟨p1,p2,p3,p4⟩:=hok;simp only at h1 h2 h3 p1 p2 p3 p4 hkl hrp;have hg:left.getD k default=left[k]:=by rw[List.getD,aom hkl];rfl
 have hm:left[k]∈W:=p2.subset (ao1 hkl);have hle:∀r:Nat,r<5->left[k].c.at r<=hv.at r:=by
  have:left[k].c.le hv=true:=by rw[<-hg];exact hrp
  exact aeX.1 this
 obtain⟨p,q1,q2,q3,q4,q5⟩:=hI.ev _ hm;have ep:left[k].r.toNat=p:=by rw[q2];omega
 have htop:∀r:Nat,r<5->hv.at r<=(hv.top p left[k].n).at r:=λ r hr=>by
  rw[RV _ _ q1 hr];split
  ·exact aeY _ _
  ·exact apP _
 have amA:left[k] ∉ out:=λ ho=>by
  have hd:(out++left).Pairwise λ a b=> ¬ (a.r=b.r/\a.n=b.n):=(p1.symm.pairwise_iff (λ h k=>h ⟨k.1.symm,k.2.symm⟩)).1 hI.dis;exact(apw.1 hd).2.2 _ ho _ (ao1 hkl) ⟨rfl,rfl⟩
 unfold aaj;simp only[hg,ep];refine⟨λ e he r hr er en=>?_,λ e he r hr=>?_, ?_⟩
 ·have en:e.n<=(hv.top p left[k].n).at r:=en;rw[RV _ _ q1 hr]at en;by_cases amB:r=p
  ·subst amB;rw[if_pos rfl]at en;rcases Int.lt_or_le (hv.at r) e.n with k1|k1
   ·have hh:=hle r hr;have:e.n<=left[k].n:=by unfold Nu at en;split at en<;>omega
    have hen:e.n=left[k].n:=o_
    have:e=left[k]:=hI.mark he hm (by rw[er,q2]) hen;rw[this];exact aov.2 (.inr (aoo.2 rfl))
   ·exact aov.2 (.inl (h1 e he r hr er k1))
  ·rw[if_neg amB]at en;exact aov.2 (.inl (h1 e he r hr er en))
 ·have:=htop r hr;have he:e∈out++[left[k]]:=he;show e.c.at r<=(hv.top p left[k].n).at r;rcases aov.1 he with he|he
  ·have:=h2 e he r hr;omega
  ·rw[aoo.1 he];have:=hle r hr;omega
 ·show(out++[left[k]]).Pairwise _;refine apw.2 ⟨h3,apI _ _,λ x hx y hy=>?_⟩;rw[aoo.1 hy,aoU];intro hb;unfold aP at hb;rw[q2,kM q1]at hb;have:=h2 x hx p q1;exact amA (h1 _ hm p q1 q2 o_)
theorem afN{X:List Ev}(hI:Inv W H)(ht:afM W)(hX:∀x∈X,x∈W)(ho:X.Pairwise λ a b=>aP b a=false){Q:List Ev}(hs:X=P++e::Q):Gg (nX (eqK e.key) P) e:=by
 have heX:e∈X:=by rw[hs];simp
 have hPX:∀x∈P,x∈X:=λ x hx=>by rw[hs];exact aov.2 (.inl hx)
 have hsub:∀x∈nX (eqK e.key) P,x∈P:=λ x hx=>(aoA.1 hx).1;rw[hs]at ho;refine⟨RX,λ x hx=>(apw.1 ho).2.2 x (hsub x hx) e aol, ?_,λ a ha b hb h1 h2=>VX hI ht a (hX _ (hPX _ (hsub a ha))) b (hX _ (hPX _ (hsub b hb))) e (hX e heX) h1 h2,(hI.fine e (hX e heX)).k,λ x hx=>(hI.fine x (hX _ (hPX _ (hsub x hx)))).k⟩;obtain⟨r,h1,h3,h4,h5,h6⟩:=hI.ev e (hX e heX);unfold aP;rw[h3,aoU];intro k;rw[kM h1]at k;omega
def rE(c:aV)(w:List Ev)(e:Ev):List Ev:=if(Po w e.r e.n).isSome||hasB c e.r e.n then w else w++[e]
def kZ(c:aV)(l:List Ev):List Ev:=l.foldl (rE c) []
def C9(w:List Ev)(e:Ev):List Ev:=w.eraseP λ x=>decide (x.r=e.r/\x.n=e.n)
def NS:Nat->aV->List Ev->List Ev->List Ev×List Ev×aV
 |0,c,w,d=>(d,w,c)
 |f+1,c,w,d=>match vX c w with
  |none=>(d,w,c)
  |some e=>NS f (c.inc e.r.toNat) (C9 w e) (d++[e])
def gX(c:aV)(l:List Ev):List Ev×List Ev×aV:=NS (kZ c l).length c (kZ c l) []
def Dm(w:List Ev):Prop:=w.Pairwise λ a b=> ¬ (a.r=b.r/\a.n=b.n)
theorem afO(h:Dm w):Dm (rE c w e):=by
 unfold rE;split
 ·exact h
 ·rename_i hn;simp only[apf,not_or,Bool.not_eq_true,Option.isSome_eq_false_iff,Option.isNone_iff_eq_none]at hn;refine apw.2 ⟨h,apI ..,λ a ha b hb=>?_⟩;obtain rfl:=aoo.1 hb;exact EF hn.1 a ha
theorem afP(c:aV)(l:List Ev):Dm (kZ c l):=by
 have:∀(l w:List Ev),Dm w->Dm (l.foldl (rE c) w):=λ l=>by
  induction l with
  |nil=>exact λ _ h=>h
  |cons e l ih=>exact λ w h=>ih _ (afO h)
 exact this l [] .nil
theorem ab6(c:aV)(w:List Ev)(e:Ev):(rE c w e).length<=w.length+1:=by
 unfold rE;split
 ·omega
 ·simp
theorem Lm{j:Nat}(h:j<l.length):kZ c (l.take (j+1))=rE c (kZ c (l.take j)) (l.getD j default):=by
 unfold kZ;rw[aqf h,apO];simp[List.getD,h]
theorem Bf(c:aV)(l:List Ev):∀j,j<=l.length->(kZ c (l.take j)).length<=j
 |0,_=>by simp[kZ]
 |j+1,h=>by
  rw[Lm o_];have h1:=ab6 c (kZ c (l.take j)) (l.getD j default);have h2:=Bf c l j o_;omega
theorem Lp(h:vX c w=some e):∃r:Nat,r<5/\e.r=(r:Int)/\e.n=c.at r+1/\e.c.le c=true/\1<=e.n/\e∈w:=by
 obtain⟨r,hr,h1⟩:=List.exists_of_findSome?_eq_some h;have hr:=ap4.1 hr;unfold vW at h1;split at h1
 ·rename_i x hx;obtain⟨g1,g2,A,B,g3⟩:=ED hx;split at h1
  ·rename_i hc;cases h1;exact⟨r,hr,g1,g2,hc.2,hc.1,by rw[g3];simp⟩
  ·cases h1
 ·cases h1
theorem Lr(h:e∈w):∃a A B,w=A++a::B/\C9 w e=A++B/\a.r=e.r/\a.n=e.n:=by
 obtain⟨a,A,B,_,h2,h3,h4⟩:=List.exists_of_eraseP (p:=λ x:Ev=>decide (x.r=e.r/\x.n=e.n)) h s_;simp only[decide_eq_true_eq]at h2;exact⟨a,A,B,h3,h4,h2.1,h2.2⟩
theorem VY(h:e∈w):(C9 w e).length+1=w.length:=by
 obtain⟨a,A,B,h1,h2,_⟩:=Lr h;rw[h2,h1];simp;omega
theorem left_eq:∀{W w:List Ev},Dm W->w.Sublist W->W.filter (λ e=>(Po w e.r e.n).isSome)=w
 |[],w,_,h=>by rw[List.sublist_nil.1 h];rfl
 |x::W,w,hd,h=>by
  obtain⟨hx,hW⟩:=List.pairwise_cons.1 hd;rcases List.sublist_cons_iff.1 h with h2|⟨v,rfl,h2⟩
  ·have:(Po w x.r x.n).isSome=false:=by
    rw[Option.isSome_eq_false_iff,Option.isNone_iff_eq_none];refine List.find?_eq_none.2 λ y hy=>?_;have:=hx y (h2.subset hy);simp only[decide_eq_true_eq];exact λ hh=>this ⟨hh.1.symm,hh.2.symm⟩
   rw[apo,this];exact left_eq hW h2
  ·have:(Po (x::v) x.r x.n).isSome=true:=by simp[Po]
   rw[apo,this,if_pos rfl];congr 1;refine(ao4 λ e he=>?_).trans (left_eq hW h2);have hne:=hx e he;simp only[Po,List.find?_cons];rw[show decide (x.r=e.r/\x.n=e.n)=false by simpa using hne]
theorem aay:∀(f:Nat)(c:aV)(w d:List Ev),((NS f c w d).2.1).Sublist w
 |0,_,w,_=>List.Sublist.refl w
 |f+1,c,w,d=>by
  unfold NS;split
  ·exact List.Sublist.refl w
  ·exact(aay f _ _ _).trans List.eraseP_sublist
theorem aiL(c:aV)(q:Nat)(hr:r<5):(c.inc r).at q<=c.at q+1/\c.at q<=(c.inc r).at q:=by
 obtain⟨c0,c1,c2,c3,c4⟩:=c;rcases(show r=0\/r=1\/r=2\/r=3\/r=4 by omega)with rfl|rfl|rfl|rfl|rfl;all_goals
  match q with
  |0=>simp only[aV.inc,aV.at];omega
  |1=>simp only[aV.inc,aV.at];omega
  |2=>simp only[aV.inc,aV.at];omega
  |3=>simp only[aV.inc,aV.at];omega
  |_+4=>simp only[aV.inc,aV.at];omega
theorem YL(c:aV)(l:List Ev)(hc:∀r,0<=c.at r/\c.at r<=1000000)(hl:l.length<=1000000)(hd:gX c l=(d,w,c')):
  aH prog 130 [c.av,.sl 12 l.length true (dI l)] (.bI [.sl 12 d.length true (dI d),.sl 12 w.length true (dI w),c'.av]) []:=by
 have hhas:=KD c;dsimp only[aV.av,aV.cs]at hhas⊢;have U:=Tryz.underlying266;refine K1.E 0x200f80000800080000f575f7 func130 ?_;repeat' ((conv=>whnf);first|refine lC.mkM ?_|fail)
 conv=>whnf
 refine aI.nil 8 90 83 12 (dI []) rfl d_ ?_;refine aI.mk {j:Nat//j<=l.length} (λ j=>⟨[(22,.v (.int .i64 (j.1:Int))),(21,.v (.int .i64 (l.length:Int))),(20,.sl 12 l.length true (dI l)),(8,.own 90),(7,.own 2),(6,.box 1 0),(5,.v (.slice none 0 0)),(4,.v (.slice none 0 0)),(2,.box 0 0)],
   [(0,.box 41 c.cs),(1,.box 41 aW.cs),(2,.obs (Yv (FC (kZ c (l.take j.1))))),(90,bH (kZ c (l.take j.1)))],[],91⟩) (λ j=>l.length-j.1) ⟨0,aoB _⟩ _
  (dO.mk' [] _ _ _ rfl ⟨aY.int rfl,au,au,au,au,au,au,au,au,trivial⟩ ⟨ay rfl,ay rfl,ay rfl,ay rfl,trivial⟩ rfl) ?_
 rintro⟨j,hj⟩;dsimp only;by_cases hjl:j<l.length
 ·have hst:=Lm (c:=c) hjl;have hwl:=Bf c l j hj;rw[show l.getD j default=l.getD (j:Int).toNat default from rfl]at hst;have hm:=Gm (l.getD (j:Int).toNat default);have hh:=hhas (l.getD (j:Int).toNat default).r (l.getD (j:Int).toNat default).n;have hev:=oU (l.getD (j:Int).toNat default);generalize kZ c (l.take j)=w0 at hst hwl⊢;dsimp only[Ev.av,Ev.cs,bH]at hm hev⊢;cases hf:Po w0 (l.getD (j:Int).toNat default).r (l.getD (j:Int).toNat default).n with
  |some x=>
   obtain⟨h1,h2,A,B,hs⟩:=ED hf;have hs0:FC w0=FC A++(sZ (l.getD (j:Int).toNat default).r (l.getD (j:Int).toNat default).n,evV x)::FC B:=by rw[hs,KQ,h1,h2]
   have hnx:rE c w0 (l.getD (j:Int).toNat default)=w0:=by unfold rE;rw[hf];rfl
   rw[hnx]at hst;clear hf h1 h2 hs hnx hd;repeat' ((conv=>whnf);first|refine K1.u ?_|refine K1.P1 hm ?_|refine lC.aar lu U rfl rfl rfl (jM _ _) ⟨_,_,rfl⟩ ⟨_,rP⟩ (oU x) hs0 (EC w0) ?_|fail)
   all_goals(conv=>whnf)
   exact⟨⟨j+1,hjl⟩,_,dO.mk' [] _ _ _ rfl ⟨aY.int rfl,au,au,au,au,au,au,au,au,trivial⟩ ⟨ay rfl,ay rfl,⟨_,rfl,by dsimp only;rw[hst];exact dK.refl _⟩,⟨_,rfl,by dsimp only;rw[hst];exact dK.refl _⟩,trivial⟩ rfl,by show l.length-(j+1)<l.length-j;omega⟩
  |none=>
   have hno:=afd (EF hf);cases hb:hasB c (l.getD (j:Int).toNat default).r (l.getD (j:Int).toNat default).n with
   |true=>
    rw[hb]at hh;have hnx:rE c w0 (l.getD (j:Int).toNat default)=w0:=by unfold rE;rw[hb];simp
    rw[hnx]at hst;clear hf hb hnx hd;repeat' ((conv=>whnf);first|refine K1.u ?_|refine K1.P1 hm ?_|refine K1.P1 hh ?_|refine lC.look lu U rfl rfl rfl (jM _ _) ⟨_,_,rfl⟩ rP (oU ev0) hno ?_|fail)
    all_goals(conv=>whnf)
    exact⟨⟨j+1,hjl⟩,_,dO.mk' [] _ _ _ rfl ⟨aY.int rfl,au,au,au,au,au,au,au,au,trivial⟩ ⟨ay rfl,ay rfl,⟨_,rfl,by dsimp only;rw[hst];exact dK.refl _⟩,⟨_,rfl,by dsimp only;rw[hst];exact dK.refl _⟩,trivial⟩ rfl,by show l.length-(j+1)<l.length-j;omega⟩
   |false=>
    rw[hb]at hh;have hnx:rE c w0 (l.getD (j:Int).toNat default)=w0++[l.getD (j:Int).toNat default]:=by unfold rE;rw[hb,hf];rfl
    rw[hnx]at hst;clear hf hb hnx hd;repeat' ((conv=>whnf);first|refine K1.u ?_|refine K1.P1 hm ?_|refine K1.P1 hh ?_|refine lC.look lu U rfl rfl rfl (jM _ _) ⟨_,_,rfl⟩ rP (oU ev0) hno ?_|refine lC.anu lu U rfl rfl rfl (jM _ _) ⟨_,_,rfl⟩ rfl hev hno ?_|refine K1.o (id:=8) (nN [0,1,3] [(2,some [1]),(4,some [3,1])]) ?_|fail)
    all_goals(conv=>whnf)
    exact⟨⟨j+1,hjl⟩,_,dO.mk' [(94,90)] _ _ _ rfl ⟨aY.int rfl,au,au,au,au,au,au,au,au,trivial⟩ ⟨ay rfl,ay rfl,⟨_,rfl,by dsimp only;rw[hst,KQ w0 []];exact dK.refl _⟩,⟨_,rfl,by dsimp only[bH];rw[hst];exact dK.row s_ λ m hm=>dP (c:=Ev.cs) (l:=w0) rfl rfl m hm⟩,trivial⟩ rfl,by show l.length-(j+1)<l.length-j;omega⟩
 ·obtain rfl:j=l.length:=o_
  rw[apH];have hwl:=Bf c l l.length (aoH _);rw[apH]at hwl;unfold gX at hd;have hdm:=afP c l;have hsub:w.Sublist (kZ c l):=by have:=aay (kZ c l).length c (kZ c l) [];rw[hd]at this;exact this
  generalize kZ c l=w0 at hwl hd hdm hsub⊢;have hnx:=afe c w0 (λ r=>⟨(hc r).1,by have:=(hc r).2;omega⟩);generalize hnw:vX c w0=nx at hnx;cases nx;all_goals
   dsimp only[aV.av,aV.cs,Ev.av,Ev.cs,bH,Option.getD,Option.isSome]at hnx⊢;repeat' ((conv=>whnf);first|refine K1.u ?_|refine K1.C 1 [(0,_)] (hnx) rfl ?_|fail)
   conv=>whnf
   refine aI.nil 4 95 83 12 (dI []) rfl d_ ?_;refine aI.mk {s:aV×List Ev×List Ev×Option Ev//vX s.1 s.2.1=s.2.2.2/\NS s.2.1.length s.1 s.2.1 s.2.2.1=(d,w,c')/\s.2.2.1.length+s.2.1.length=w0.length/\ ∀r,0<=s.1.at r/\s.1.at r<=1000000+s.2.2.1.length}
    (λ x=>⟨[(14,.v (.bool x.1.2.2.2.isSome)),(13,.box 92 0),(8,.own 90),(7,.own 2),(6,.box 1 0),(5,.v (.slice none 0 0)),(4,.own 95),(2,.box 0 0)],
     [(92,.box 83 (x.1.2.2.2.getD ev0).cs),(2,.obs (Yv (FC x.1.2.1))),(0,.box 41 x.1.1.cs),(1,.box 41 aW.cs),(90,bH w0),(95,bH x.1.2.2.1)],[],96⟩)
    (λ x=>x.1.2.1.length) ⟨(c,w0,[],_),hnw,hd,s_,λ r=>⟨(hc r).1,by have:=(hc r).2;simpa using this⟩⟩ _
    (dO.mk' [] _ _ _ rfl ⟨au,au,au,au,au,au,au,au,trivial⟩ ⟨ay rfl,ay rfl,ay rfl,ay rfl,ay rfl,ay rfl,trivial⟩ rfl) ?_
   clear hnx hnw hd;rintro⟨⟨c1,w1,d1,nx⟩,hn1,hdr,hlen,hc1⟩;dsimp only at hn1 hdr hlen hc1⊢;cases nx with
   |none=>
    have he:NS w1.length c1 w1 d1=(d1,w1,c1):=by
     cases h0:w1.length with
     |zero=>rfl
     |succ n=>unfold NS;rw[hn1]
    rw[he]at hdr;cases hdr;clear he hn1 hlen
    conv=>whnf
    refine aI.FP 90 rfl ?_;refine aI.nil 5 98 83 12 (dI []) rfl d_ ?_;refine aI.mk {j:Nat//j<=w0.length} (λ j=>⟨[(82,.v (.int .i64 (j.1:Int))),(81,.v (.int .i64 (w0.length:Int))),(80,.sl 12 w0.length true (dI w0)),(7,.own 2),(6,.box 1 0),(5,.own 98),(4,.own 95),(2,.box 0 0)],
     [(2,.obs (Yv (FC w))),(0,.box 41 c'.cs),(1,.box 41 aW.cs),(95,bH d),(98,bH ((w0.take j.1).filter λ e=>(Po w e.r e.n).isSome))],[],99⟩) (λ j=>w0.length-j.1) ⟨0,aoB _⟩ _
     (dO.mk' [] _ _ _ rfl ⟨aY.int rfl,au,au,au,au,au,au,au,trivial⟩ ⟨ay rfl,ay rfl,ay rfl,ay rfl,ay rfl,trivial⟩ rfl) ?_
    clear hc1 hhas hj hjl hc;rintro⟨j,hj⟩;dsimp only;by_cases hjl:j<w0.length
    ·have hft:(w0.take (j+1)).filter (λ e=>(Po w e.r e.n).isSome)=(w0.take j).filter (λ e=>(Po w e.r e.n).isSome)++(if(Po w (w0.getD (j:Int).toNat default).r (w0.getD (j:Int).toNat default).n).isSome then [w0.getD (j:Int).toNat default]else []):=by
      rw[aqf hjl,apT,show w0.getD (j:Int).toNat default=w0[j] by simp[List.getD,hjl]];congr 1;rw[apo,List.filter_nil]
     have hfl:((w0.take j).filter λ e=>(Po w e.r e.n).isSome).length<=j:=ao7 (aoI ..) (by rw[aou];omega);have hm:=Gm (w0.getD (j:Int).toNat default);generalize(w0.take j).filter (λ e=>(Po w e.r e.n).isSome)=lf at hft hfl⊢;dsimp only[Ev.av,Ev.cs,bH]at hm⊢;cases hf:Po w (w0.getD (j:Int).toNat default).r (w0.getD (j:Int).toNat default).n with
     |some x=>
      obtain⟨h1,h2,A,B,hs⟩:=ED hf;have hs0:FC w=FC A++(sZ (w0.getD (j:Int).toNat default).r (w0.getD (j:Int).toNat default).n,evV x)::FC B:=by rw[hs,KQ,h1,h2]
      rw[hf]at hft;have hft:_=lf++[w0.getD (j:Int).toNat default]:=hft;clear hf h1 h2 hs hdm hsub;repeat' ((conv=>whnf);first|refine K1.u ?_|refine K1.P1 hm ?_|refine lC.aar lu U rfl rfl rfl (jM _ _) ⟨_,_,rfl⟩ ⟨_,rP⟩ (oU x) hs0 (EC w) ?_|fail)
      all_goals(conv=>whnf)
      exact⟨⟨j+1,hjl⟩,_,dO.mk' [(102,98)] _ _ _ rfl ⟨aY.int rfl,au,au,au,au,au,au,au,trivial⟩ ⟨ay rfl,ay rfl,ay rfl,ay rfl,⟨_,rfl,by dsimp only;rw[hft];exact dK.row s_ λ m hm=>dP (c:=Ev.cs) (l:=lf) rfl rfl m hm⟩,trivial⟩ rfl,by show w0.length-(j+1)<w0.length-j;omega⟩
     |none=>
      have hno:=afd (EF hf);rw[hf]at hft;have hft:_=lf++[]:=hft;rw[aor]at hft;clear hf hdm hsub;repeat' ((conv=>whnf);first|refine K1.u ?_|refine K1.P1 hm ?_|refine lC.look lu U rfl rfl rfl (jM _ _) ⟨_,_,rfl⟩ rP (oU ev0) hno ?_|fail)
      all_goals(conv=>whnf)
      exact⟨⟨j+1,hjl⟩,_,dO.mk' [] _ _ _ rfl ⟨aY.int rfl,au,au,au,au,au,au,au,trivial⟩ ⟨ay rfl,ay rfl,ay rfl,ay rfl,⟨_,rfl,by dsimp only;rw[hft];exact dK.refl _⟩,trivial⟩ rfl,by show w0.length-(j+1)<w0.length-j;omega⟩
    ·obtain rfl:j=w0.length:=o_
     rw[apH,left_eq hdm hsub];clear hdm hsub;dsimp only[bH,aV.cs];repeat' ((conv=>whnf);first|refine K1.u ?_|refine aU.fF ?_|refine K1.o (id:=26) (nN [0,1,2,3,4] [(5,some [2])]) ?_|fail)
     all_goals(conv=>whnf)
     exact bn.mk (au)
   |some e=>
    obtain⟨r,oh,her,hen,_,_,hin⟩:=Lp hn1;obtain⟨a,A,B,h1,h2,h3,h4⟩:=Lr hin;have hl1:=VY hin;have hkv:FC w1=FC A++(sZ e.r e.n,evV a)::FC B:=by rw[h1,KQ,h3,h4]
    have hrm:FC (C9 w1 e)=FC A++FC B:=by rw[h2];simp[FC]
    have hall:=EC w1;have anE:NS (C9 w1 e).length (c1.inc r) (C9 w1 e) (d1++[e])=(d,w,c'):=by
     rw[<-hl1]at hdr;unfold NS at hdr;rw[hn1]at hdr;dsimp only at hdr;rw[show e.r.toNat=r by omega]at hdr;exact hdr
    have hlen2:(d1++[e]).length+(C9 w1 e).length=w0.length:=by rw[aop];simp;omega
    have hc2:∀q,0<=(c1.inc r).at q/\(c1.inc r).at q<=1000000+((d1++[e]).length:Int):=λ q=>by
     have h1:=aiL c1 q oh;have h2:=hc1 q;rw[aop];simp;omega
    have k0:0<=c1.c0/\c1.c0<=1000000+(d1.length:Int):=hc1 0;have k1:0<=c1.c1/\c1.c1<=1000000+(d1.length:Int):=hc1 1;have k2:0<=c1.c2/\c1.c2<=1000000+(d1.length:Int):=hc1 2;have k3:0<=c1.c3/\c1.c3<=1000000+(d1.length:Int):=hc1 3;have k4:0<=c1.c4/\c1.c4<=1000000+(d1.length:Int):=hc1 4;have hnx:=afe (c1.inc r) (C9 w1 e) (λ q=>⟨(hc2 q).1,by have:=(hc2 q).2;omega⟩);generalize hnw:vX (c1.inc r) (C9 w1 e)=nx at hnx;rw[hrm]at hnx;have hm:=Gm e;clear hn1 hdr h1 h2 h3 h4 hhas hdm hc hc1;generalize C9 w1 e=w2 at*;cases nx;all_goals
     rcases(show r=0\/r=1\/r=2\/r=3\/r=4 by omega)with rfl|rfl|rfl|rfl|rfl
    all_goals
     dsimp only[aV.av,aV.cs,Ev.av,Ev.cs,bH,Option.getD,Option.isSome,aV.inc,aV.at]at hnx hm⊢;repeat' ((conv=>whnf);first|refine K1.u ?_|refine K1.C 1 [(0,_)] (hnx) rfl ?_|refine K1.P1 hm ?_|refine lC.del rfl rfl rfl lu U rfl rfl rfl (jM _ _) ⟨_,_,rfl⟩ hkv hall ?_|refine nV.lit 0 her rfl ?_|refine nV.lit 1 her rfl ?_|refine nV.lit 2 her rfl ?_|refine nV.lit 3 her rfl ?_|refine nV.lit 4 her rfl ?_|fail)
     all_goals(conv=>whnf)
     refine⟨⟨(aV.inc c1 _,w2,d1++[e],_),hnw,anE,hlen2,hc2⟩,_,dO.mk' [(98,92),(97,95)] _ _ _ rfl ⟨au,au,au,au,au,au,au,au,trivial⟩ ⟨ay rfl,⟨_,rfl,by dsimp only;rw[hrm];exact dK.refl _⟩,ay rfl,ay rfl,ay rfl,⟨_,rfl,dK.row s_ λ m hm=>dP (c:=Ev.cs) (l:=d1) rfl rfl m hm⟩,trivial⟩ rfl,by dsimp only;omega⟩
theorem Ch.evs(hn:n=l.length)(hF:∀i,i<n->F i=dI l i){xs ys:List AV}(h:Ch xs ys):Ch (.sl 12 n true F::xs) (.sl 12 l.length true (dI l)::ys):= .of (λ X u hu=>aY.sl hn hF X u hu) h
theorem Gv(c:aV)(l:List Ev)(hc:∀r,0<=c.at r/\c.at r<=1000000)(hl:l.length<=1000000)(hd:gX c l=(d,w,c'))(hn:n=l.length)(hF:∀i,i<n->F i=dI l i):
 aH prog 130 [c.av,.sl 12 n true F] (.bI [.sl 12 d.length true (dI d),.sl 12 w.length true (dI w),c'.av]) []:=(YL c l hc hl hd).args (.same (Ch.evs hn hF .nil))
def Bg(most:Int)(c:aV)(h:AV):AO:= .box 184 [.v (.int .i64 most),.v (.int .i64 c.c0),.v (.int .i64 c.c1),.v (.int .i64 c.c2),.v (.int .i64 c.c3),.v (.int .i64 c.c4),h]
def zV(most batch sent:Int)(m:AV):AO:= .box 182 [.v (.int .i64 most),.v (.int .i64 batch),.v (.int .i64 sent),m]
def gW:AV:= .v (.slice none 0 0)
theorem VZ(most:Int)(c:aV):aj prog 109 [] [.v (.int .i64 most),c.av] (.box 0 0) [(0,Bg most c gW)]:=by
 dsimp only[aV.av,aV.cs,Bg,gW];refine K1.M 0x1b func109 40 ?_
 all_goals(conv=>whnf)
 exact⟨[(41,0)],rfl,rfl,⟨ay rfl,trivial⟩,rfl,rfl,au⟩
theorem V3(most batch sent:Int):aj prog 108 [] [.v (.int .i64 most),.v (.int .i64 batch),.v (.int .i64 sent)] (.box 0 0) [(0,zV most batch sent gW)]:=by
 dsimp only[zV,gW];refine K1.M 0x47 func108 40 ?_
 all_goals(conv=>whnf)
 exact⟨[(40,0)],rfl,rfl,⟨ay rfl,trivial⟩,rfl,rfl,au⟩
theorem afQ(most:Int)(c:aV)(h:AV)(hh:h=gW\/ ∃n F,h= .sl 12 n true F)(e:Ev)(hc:∀r,0<=c.at r/\c.at r<=1000000)(hd:gX c [e]=(d,w,c')):
  aj prog 51 [(0,Bg most c h)] [.box 0 0,e.av] (.v (.int .i64 (if d.length=0 then 20 else 0))) [(0,Bg most (if d.length=0 then c else c') h)]:=by
 have hdr:=Gv c [e] hc s_ hd (n:=1) (F:=chunk 12 e.cs) rfl λ i hi=>by
  obtain rfl:i=0:=o_
  rfl
 dsimp only[aV.av,aV.cs,Ev.av,Ev.cs,Bg]at hdr⊢;rcases hh with rfl|⟨n,F,rfl⟩;all_goals
  try dsimp only[gW]
  by_cases h0:d.length=0
  ·rw[if_pos h0,if_pos h0];refine K1.M 0x400bb func51 40 ?_;repeat' ((conv=>whnf);first|refine K1.u ?_|refine K1.P1 hdr ?_|refine K1.I 0x73 func88 ?_|fail)
   all_goals(conv=>whnf)
   exact⟨[],rfl,rfl,⟨ay rfl,trivial⟩,rfl,rfl,au⟩
  ·rw[if_neg h0,if_neg h0];refine K1.M 0x400bb func51 40 ?_;repeat' ((conv=>whnf);first|refine K1.u ?_|refine K1.P1 hdr ?_|refine K1.I 0x73 func88 ?_|fail)
   all_goals(conv=>whnf)
   exact⟨[],rfl,rfl,⟨ay rfl,trivial⟩,rfl,rfl,au⟩
theorem l7(most:Int)(c:aV)(h:AV)(hh:h=gW\/ ∃n F,h= .sl 12 n true F):aj prog 47 [(0,Bg most c h)] [.box 0 0] c.av [(0,Bg most c h)]:=by
 dsimp only[aV.av,aV.cs,Bg];rcases hh with rfl|⟨n,F,rfl⟩;all_goals
  try dsimp only[gW]
  refine K1.M 0x5 func47 40 ?_
  all_goals(conv=>whnf)
  exact⟨[],rfl,rfl,⟨ay rfl,trivial⟩,rfl,rfl,au⟩
def aaz(c:aV)(r:Nat):aV:=if c.at r<1048576 then c.inc r else aW
theorem Ls(c:aV)(r:Nat)(hr:r<5)(hc:0<=c.at r):aH prog 48 [c.av,.v (.int .i64 (r:Int))] (.bI [(aaz c r).av,.v (.int .i64 (if c.at r<1048576 then 0 else 25))]) []:=by
 unfold aaz;by_cases h:c.at r<1048576
 ·rw[if_pos h,if_pos h];rcases(show r=0\/r=1\/r=2\/r=3\/r=4 by omega)with rfl|rfl|rfl|rfl|rfl;all_goals
   simp only[aV.at]at h hc;simp only[aV.av,aV.cs,aV.inc];refine K1.E 0x10837 func48 ?_;repeat' ((conv=>whnf);first|refine K1.u ?_|refine nV.mk d_ ?_|refine aU.fF ?_|fail)
   all_goals(conv=>whnf)
   exact bn.mk (au)
 ·rw[if_neg h,if_neg h];rcases(show r=0\/r=1\/r=2\/r=3\/r=4 by omega)with rfl|rfl|rfl|rfl|rfl;all_goals
   simp only[aV.at]at h hc;simp only[aV.av,aV.cs,aW];refine K1.E 0x10837 func48 ?_;repeat' ((conv=>whnf);first|refine K1.u ?_|refine nV.mk d_ ?_|refine aU.fF ?_|fail)
   all_goals(conv=>whnf)
   exact bn.mk (au)
theorem EM(l:List Ev)(c:aV)(hl:l.length<=1000000000)(hh:∀e∈l,0<=e.h/\e.h<=1000000000):
  aH prog 49 [.sl 12 l.length true (dI l),c.av] (.v (.int .i64 (hgt l c))) []:=by
 dsimp only[aV.av,aV.cs];refine K1.E 0x40001f7b func49 ?_
 conv=>whnf
 refine aI.mk {x:Nat×(Int×Bool)//x.1<=l.length/\x.2=RQ c (l.take x.1)} (λ x=>⟨[(9,.sl 12 l.length true (dI l)),(10,.v (.int .i64 (l.length:Int))),(3,.box 0 0),(5,.v (.int .i64 x.1.2.1)),(6,.v (.bool x.1.2.2)),(11,.v (.int .i64 (x.1.1:Int)))],
   [(0,.box 41 c.cs)],[],1⟩) (λ x=>l.length-x.1.1) ⟨(0,(0,false)),aoB _,rfl⟩ _
  (dO.mk' [] _ _ _ rfl ⟨au,au,au,au,au,aY.int rfl,trivial⟩ ⟨ay rfl,trivial⟩ rfl) ?_
 rintro⟨⟨j,s⟩,hj,hs⟩;dsimp only at hj hs⊢;have hb:=KH (c:=c) (M:=1000000000) o_ (l.take j) (λ e he=>hh e (apn he)) (0,false) s_;have hs':s=(l.take j).foldl (uo c) (0,false):=hs;rw[<-hs']at hb;by_cases hjl:j<l.length
 ·have hhas:=KD c (l.getD (j:Int).toNat default).r (l.getD (j:Int).toNat default).n;have hft:RQ c (l.take (j+1))=uo c s (l.getD (j:Int).toNat default):=by rw[hs];exact AP hjl
  have hst:uo c s (l.getD (j:Int).toNat default)=if(hasB c (l.getD (j:Int).toNat default).r (l.getD (j:Int).toNat default).n&&(!s.2||decide (s.1<(l.getD (j:Int).toNat default).h)))=true then((l.getD (j:Int).toNat default).h,true)else s:=rfl
  rw[hst]at hft;generalize hasB c (l.getD (j:Int).toNat default).r (l.getD (j:Int).toNat default).n=q at hhas hft;clear hs' hst hs hh;obtain⟨s1,s2⟩:=s;dsimp only at hb hft⊢;have k1:q=true->s2=false->((l.getD (j:Int).toNat default).h,true)=RQ c (l.take (j+1)):=λ h1 h2=>by rw[hft,h1,h2];simp
  have k2:q=true->s1<(l.getD (j:Int).toNat default).h->((l.getD (j:Int).toNat default).h,true)=RQ c (l.take (j+1)):=λ h1 h2=>by rw[hft,h1,decide_eq_true h2];simp
  have k3:q=false->(s1,s2)=RQ c (l.take (j+1)):=λ h1=>by rw[hft,h1];simp
  have k4:s2=true-> ¬s1<(l.getD (j:Int).toNat default).h->(s1,s2)=RQ c (l.take (j+1)):=λ h1 h2=>by rw[hft,h1,decide_eq_false h2];simp
  clear hft;dsimp only[aV.av,aV.cs]at hhas⊢;repeat' ((conv=>whnf);first|refine K1.u ?_|refine K1.P1 hhas ?_|refine K1.y (λ _=>?_) (λ _=>?_)|fail)
  all_goals(conv=>whnf)
  all_goals first
   |exact⟨⟨(j+1,(_,true)),hjl,by first|exact k1 a_ a_|exact k2 a_ o_⟩,_,dO.mk' [] _ _ _ rfl ⟨au,au,au,au,au,aY.int rfl,trivial⟩ ⟨ay rfl,trivial⟩ rfl,aqG _ _ hjl⟩
   |exact⟨⟨(j+1,(s1,s2)),hjl,by first|exact k3 a_|exact k4 a_ o_⟩,_,dO.mk' [] _ _ _ rfl ⟨au,au,au,au,au,aY.int rfl,trivial⟩ ⟨ay rfl,trivial⟩ rfl,aqG _ _ hjl⟩
 ·rw[aoF (show l.length<=j by omega)]at hs;have hR:hgt l c=s.1+1:=by rw[hs];rfl
  rw[hR];repeat' ((conv=>whnf);first|refine K1.u ?_|refine aU.fF ?_|fail)
  conv=>whnf
  exact bn.mk (au)
theorem ab7(hl:n<=1000000000):aH prog 95 [.sl 12 n true F] (.sl 12 n true F) []:=by
 refine K1.E 0x15 func95 ?_;repeat' ((conv=>whnf);first|refine K1.u ?_|refine aU.fF ?_|refine K1.y (λ _=>?_) (λ _=>?_)|fail)
 all_goals(conv=>whnf)
 ·obtain rfl:n=0:=a_
  exact bn.mk λ X u h=>C1.gW d_ h
 ·exact bn.mk (aY.sl (apl _) λ i _=>rfl)
def Bh(sent:Int)(w:List Ev):Int:=if w.length=0 then sent else(w.getD (w.length-1) default).n
def NT(most sent:Int)(w:List Ev)(e:Ev):List Ev×Int:=if most<=(w.length:Int)then(w,17)else if e.n=Bh sent w+1 then(w++[e],0)else(w,20)
theorem V4(most batch sent:Int)(w w':List Ev)(e:Ev)(x:Int)(hl:w.length<=1000000)(hs:0<=sent/\sent<=1000000000)(hn:∀j,0<=(w.getD j default).n/\(w.getD j default).n<=1000000000)(h:NT most sent w e=(w',x)):
  aj prog 52 [(0,zV most batch sent (.own 1)),(1,bH w)] [.box 0 0,e.av] (.v (.int .i64 x)) [(0,zV most batch sent (.own 2)),(2,bH w')]:=by
 have hlast:=hn ((w.length:Int)-1).toNat;have hl1:w.length≠0->Bh sent w=(w.getD ((w.length:Int)-1).toNat default).n:=λ h=>by unfold Bh;rw[if_neg h,show((w.length:Int)-1).toNat=w.length-1 by omega]
 have hl0:w.length=0->Bh sent w=sent:=λ h=>by unfold Bh;rw[if_pos h]
 have SE:w.length≠0->Nat.ble (((w.length:Int)-1).toNat+1) w.length=true:=λ h=>apm o_;unfold NT at h;dsimp only[zV,bH,Ev.av,Ev.cs];clear hn;by_cases hm:most<=(w.length:Int)
 ·rw[if_pos hm]at h;cases h;refine K1.M 0x40010027b func52 40 ?_;repeat' ((conv=>whnf);first|refine K1.u ?_|refine K1.I 0x5 func46 ?_|fail)
  all_goals(conv=>whnf)
  exact⟨[(1,2)],rfl,rfl,⟨ay rfl,ay rfl,trivial⟩,rfl,rfl,au⟩
 ·rw[if_neg hm]at h;by_cases h0:w.length=0
  ·rw[hl0 h0]at h;clear hl0 hl1 SE;by_cases he:e.n=sent+1
   ·rw[if_pos he]at h;cases h;refine K1.M 0x40010027b func52 40 ?_;repeat' ((conv=>whnf);first|refine K1.u ?_|refine K1.I 0x5 func46 ?_|refine K1.o (id:=9) (nN [0,1,2,3,4,5] ((6,some [5])::(7,some [5,4,2])::nN [8,9] [(10,some [5,4,2,8])])) ?_|fail)
    all_goals(conv=>whnf)
    exact⟨[(42,2)],rfl,rfl,⟨ay rfl,⟨_,rfl,dK.row s_ λ m hm=>dP (c:=Ev.cs) (l:=w) rfl rfl m hm⟩,trivial⟩,rfl,rfl,au⟩
   ·rw[if_neg he]at h;cases h;refine K1.M 0x40010027b func52 40 ?_;repeat' ((conv=>whnf);first|refine K1.u ?_|refine K1.I 0x5 func46 ?_|fail)
    all_goals(conv=>whnf)
    exact⟨[(1,2)],rfl,rfl,⟨ay rfl,ay rfl,trivial⟩,rfl,rfl,au⟩
  ·rw[hl1 h0]at h;have SE:=SE h0;clear hl0 hl1;by_cases he:e.n=(w.getD ((w.length:Int)-1).toNat default).n+1
   ·rw[if_pos he]at h;cases h;refine K1.M 0x40010027b func52 40 ?_;repeat' ((conv=>whnf);first|refine K1.u ?_|refine K1.I 0x5 func46 ?_|refine K1.o (id:=9) (nN [0,1,2,3,4,5] ((6,some [5])::(7,some [5,4,2])::nN [8,9] [(10,some [5,4,2,8])])) ?_|fail)
    all_goals(conv=>whnf)
    exact⟨[(42,2)],rfl,rfl,⟨ay rfl,⟨_,rfl,dK.row s_ λ m hm=>dP (c:=Ev.cs) (l:=w) rfl rfl m hm⟩,trivial⟩,rfl,rfl,au⟩
   ·rw[if_neg he]at h;cases h;refine K1.M 0x40010027b func52 40 ?_;repeat' ((conv=>whnf);first|refine K1.u ?_|refine K1.I 0x5 func46 ?_|fail)
    all_goals(conv=>whnf)
    exact⟨[(1,2)],rfl,rfl,⟨ay rfl,ay rfl,trivial⟩,rfl,rfl,au⟩
end Go.Proofs.YtifjccndenojlaaGreat
