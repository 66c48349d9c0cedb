/-
  Contracts of the walk:Ps1,Ap1,BkLp,Ps2,Wo,La1,Lv1,AmD,Cf.
-/
import Derived.Test.YtkimgljckickcaaGreatRa10
import Derived.Test.YtkimgljckickcaaGreatRa1
import Derived.Test.YtkimgljckickcaaGreatRa9
import Derived.Defers
set_option maxHeartbeats 16000000
set_option maxRecDepth 100000
set_option linter.unusedVariables false
set_option linter.unusedSimpArgs false
namespace Go.Proofs.YtkimgljckickcaaGreat
open Go.RowKit
open Go.Proofs.Tryz
variable{key:ByteArray}{a b e:Ev}{n:Int}{A T l:List Ev}{k q r:Nat}{α:Type}
theorem get_at(c:aS):∀{r:Nat},r<5->c.get (r:Int)=c.at r
 |0,_=>rfl
 |1,_=>rfl
 |2,_=>rfl
 |3,_=>rfl
 |4,_=>rfl
 |_+5,h=>o_
theorem kG{c:aS}(h:r<5):hasB c (r:Int) n=true↔1<=n/\n<=c.at r:=by
 unfold hasB;rw[decide_eq_true_eq,get_at c h];omega
theorem Ia(a b:aS):∀r,(a.join b).at r=LC (a.at r) (b.at r)
 |0=>rfl
 |1=>rfl
 |2=>rfl
 |3=>rfl
 |_+4=>rfl
theorem oz(c:aS):∀{r q:Nat},r<5->q<5->(c.inc r).at q=if q=r then c.at q+1 else c.at q:=by
 intro r q hr hq;obtain rfl|rfl|rfl|rfl|rfl:r=0\/r=1\/r=2\/r=3\/r=4:=o_
 all_goals(obtain rfl|rfl|rfl|rfl|rfl:q=0\/q=1\/q=2\/q=3\/q=4:=o_)
 all_goals rfl
theorem adA{a b:aS}:a.le b=true↔ ∀r,r<5->a.at r<=b.at r:=by
 unfold aS.le;rw[decide_eq_true_eq];constructor
 ·rintro⟨h0,h1,h2,h3,h4⟩ r hr;obtain rfl|rfl|rfl|rfl|rfl:r=0\/r=1\/r=2\/r=3\/r=4:=o_
  all_goals assumption
 ·intro h;exact⟨h 0 o_,h 1 o_,h 2 o_,h 3 o_,h 4 o_⟩
theorem lu{H:Nat->aS}{c:aS}:lH H r c q=if q=r then c else H q:=by
 unfold lH;by_cases h:q=r
 ·rw[if_pos h,h,apv];rfl
 ·rw[if_neg h,show Nat.beq q r=false from by rw[anw];intro e;exact h (am3 e)];rfl
theorem akI{a b c:Int}(h:a<=c)(k:b<=c):LC a b<=c:=by unfold LC;split<;>omega
theorem adB(a b:Int):a<=LC a b:=by unfold LC;split<;>omega
theorem akJ(a b:Int):b<=LC a b:=by unfold LC;split<;>omega
theorem DR{c:aS}:∀(l:List Ev)(s:Int×Bool),s.2=true->s.1<=(l.foldl (tJ c) s).1/\(l.foldl (tJ c) s).2=true
 |[],s,h=>⟨aom _,h⟩
 |e::l,s,h=>by
  rw[ao6];by_cases k:(hasB c e.r e.n&&(!s.2||decide (s.1<e.h)))=true
  ·have e1:tJ c s e=(e.h,true):=if_pos k;rw[e1];have:=DR (c:=c) l (e.h,true) rfl;simp only[h,Bool.not_true,Bool.false_or,amY,decide_eq_true_eq]at k;exact⟨by have:=this.1;simp only at this;omega,this.2⟩
  ·have e1:tJ c s e=s:=if_neg k;rw[e1];exact DR l s h
theorem adC{c:aS}{e:Ev}:∀(l:List Ev)(s:Int×Bool),e∈l->hasB c e.r e.n=true->e.h<=(l.foldl (tJ c) s).1
 |[],_,h,_=>by cases h
 |x::l,s,h,hh=>by
  rw[ao6];rcases am4.1 h with rfl|h
  ·by_cases k:(hasB c e.r e.n&&(!s.2||decide (s.1<e.h)))=true
   ·have e1:tJ c s e=(e.h,true):=if_pos k;rw[e1];exact(DR (c:=c) l (e.h,true) rfl).1
   ·have e1:tJ c s e=s:=if_neg k;rw[e1];have k':s.2=true/\e.h<=s.1:=by
     rw[hh]at k;simp only[ao7,anT,anB,decide_eq_true_eq,not_or,ao9,Int.not_lt]at k;exact k
    have:=(DR (c:=c) l s k'.1).1;omega
  ·exact adC l _ h hh
theorem adD{c:aS}(he:e∈l)(hh:hasB c e.r e.n=true):e.h<hgt l c:=by
 have:=adC l (0,false) he hh;unfold hgt Qp;omega
structure Fine(e:Ev):Prop where
 k:1<=e.k/\e.k<=5
 key:e.key.size<=8
 l:e.l=0\/e.l=1
 v:e.v.size<=12
structure Inv(T:List Ev)(H:Nat->aS):Prop where
 ev:∀e∈T,∃r:Nat,r<5/\e.r=(r:Int)/\1<=e.n/\e.n<=(H r).at r/\e.c.at r=e.n-1
 ge:∀q:Nat,q<5-> ∀r:Nat,r<5->0<=(H q).at r/\(H q).at r<=(H r).at r
 all:∀r:Nat,r<5-> ∀n:Int,1<=n->n<=(H r).at r-> ∃e∈T,e.r=(r:Int)/\e.n=n
 clo:∀q:Nat,q<5-> ∀e∈T,hasB (H q) e.r e.n=true-> ∀r:Nat,r<5->e.c.at r<=(H q).at r
 own:∀e∈T,∀r:Nat,r<5->0<=e.c.at r/\e.c.at r<=(H r).at r
 dis:T.Pairwise λ a b=> ¬ (a.r=b.r/\a.n=b.n)
 ord:T.Pairwise λ a b=>aJ b a=false
 hgt:∀a∈T,∀b∈T,aJ a b=true->a.h<b.h
 pre:∀T1 e T2,T=T1++e::T2-> ∀r:Nat,r<5-> ∀n:Int,1<=n->n<=e.c.at r-> ∃x∈T1,x.r=(r:Int)/\x.n=n
 fine:∀e∈T,Fine e
theorem Inv.nil:Inv [] (λ _=>aV):=by
 have h0:∀r,aV.at r=0:=λ r=>match r with|0=>rfl|1=>rfl|2=>rfl|3=>rfl|_+4=>rfl
 exact⟨λ e h=>(by cases h),λ q _ r _=>⟨by rw[h0];omega,o_⟩,λ r _ n h1 h2=>by rw[h0]at h2;omega,λ _ _ e h=>(by cases h),λ e h=>(by cases h),.nil,.nil,λ a h=>(by cases h),λ T1 e T2 h=>(by simp at h),λ e h=>(by cases h)⟩
section
variable{T:List Ev}{H:Nat->aS}
theorem Inv.sync(h:Inv T H){r f:Nat}(hr:r<5)(hf:f<5):Inv T (lH H r ((H r).join (H f))):=by
 have hj:∀q,(lH H r ((H r).join (H f)) q)=if q=r then(H r).join (H f)else H q:=λ q=>lu
 have dg:∀q,q<5->(lH H r ((H r).join (H f)) q).at q=(H q).at q:=λ q hq=>by
  rw[hj];split
  ·rename_i e;subst e;rw[Ia];have:=(h.ge f hf q hq).2;unfold LC;split<;>omega
  ·rfl
 refine⟨λ e he=>?_,λ q hq p hp=>?_,λ p hp n h1 h2=>?_,λ q hq e he hh p hp=>?_,λ e he p hp=>?_,h.dis,h.ord,h.hgt,h.pre,h.fine⟩
 ·obtain⟨p,h1,h2,h3,h4,h5⟩:=h.ev e he;exact⟨p,h1,h2,h3,by rw[dg p h1];exact h4,h5⟩
 ·rw[dg p hp,hj];split
  ·rw[Ia];have a:=h.ge r hr p hp;have b:=h.ge f hf p hp;have:=adB ((H r).at p) ((H f).at p);exact⟨o_,akI a.2 b.2⟩
  ·exact h.ge q hq p hp
 ·rw[dg p hp]at h2;exact h.all p hp n h1 h2
 ·rw[hj]at hh⊢;split
  ·rename_i e1;rw[if_pos e1]at hh;obtain⟨p',h1,h2,h3,h4,h5⟩:=h.ev e he;rw[h2]at hh;rw[kG h1,Ia]at hh;rw[Ia];have ml:=adB ((H r).at p) ((H f).at p);have mr:=akJ ((H r).at p) ((H f).at p);rcases(show e.n<=(H r).at p'\/e.n<=(H f).at p' by have:=hh.2;unfold LC at this;split at this<;>omega)with k|k
   ·have:=h.clo r hr e he (by rw[h2];exact(kG h1).2 ⟨hh.1,k⟩) p hp;omega
   ·have:=h.clo f hf e he (by rw[h2];exact(kG h1).2 ⟨hh.1,k⟩) p hp;omega
  ·rename_i e1;rw[if_neg e1]at hh;exact h.clo q hq e he hh p hp
 ·rw[dg p hp];exact h.own e he p hp
theorem Inv.aiw(h:Inv T H){r:Nat}(hr:r<5){y:Ev}(er:y.r=(r:Int))(en:y.n=(H r).at r+1)(ec:y.c=H r)(eh:∀a∈T,hasB (H r) a.r a.n=true->a.h<y.h)(ef:Fine y):Inv (T++[y]) (lH H r ((H r).inc r)):=by
 have hj:∀q,(lH H r ((H r).inc r) q)=if q=r then(H r).inc r else H q:=λ q=>lu
 have dg:∀q,q<5->(lH H r ((H r).inc r) q).at q=if q=r then(H q).at q+1 else(H q).at q:=λ q hq=>by
  rw[hj];split
  ·rename_i e;subst e;rw[oz _ hr hr,if_pos rfl]
  ·rfl
 have dle:∀q,q<5->(H q).at q<=(lH H r ((H r).inc r) q).at q:=λ q hq=>by rw[dg q hq];split<;>omega
 have nb:∀b∈T,aJ y b=false:=λ b hb=>by
  unfold aJ;rw[er,anw];intro k;rw[kG hr]at k;have:=(h.own b hb r hr).2;omega
 have ny:aJ y y=false:=by
  unfold aJ;rw[er,anw];intro k;rw[kG hr,ec]at k;omega
 refine⟨λ e he=>?_,λ q hq p hp=>?_,λ p hp n h1 h2=>?_,λ q hq e he hh p hp=>?_,λ e he p hp=>?_, ?_, ?_,λ a ha b hb hab=>?_,λ T1 e T2 e0 p hp n h1 h2=>?_,λ e he=>?_⟩
 ·rcases am6.1 he with he|he
  ·obtain⟨p,h1,h2,h3,h4,h5⟩:=h.ev e he;exact⟨p,h1,h2,h3,by have:=dle p h1;omega,h5⟩
  ·rw[amZ.1 he];refine⟨r,hr,er,by rw[en];have:=(h.ge r hr r hr).1;omega,by rw[en,dg r hr,if_pos rfl];omega,by rw[ec,en];omega⟩
 ·have:=dle p hp;have a:=h.ge q hq p hp;rw[hj];split
  ·rename_i e;subst e;rw[oz _ hr hp];rw[dg p hp]at*;split<;>omega
  ·omega
 ·by_cases e:p=r
  ·subst e;rw[dg p hp,if_pos rfl]at h2;by_cases k:n<=(H p).at p
   ·obtain⟨e,he,h3⟩:=h.all p hp n h1 k;exact⟨e,am6.2 (.inl he),h3⟩
   ·exact⟨y,am6.2 (.inr (amZ.2 rfl)),er,by rw[en];omega⟩
  ·rw[dg p hp,if_neg e]at h2;obtain⟨e,he,h3⟩:=h.all p hp n h1 h2;exact⟨e,am6.2 (.inl he),h3⟩
 ·rw[hj]at hh⊢;rcases am6.1 he with he|he
  ·obtain⟨p',k1,k2,k3,k4,k5⟩:=h.ev e he;by_cases e1:q=r
   ·rw[if_pos e1]at hh⊢;rw[k2,kG k1,oz _ hr k1]at hh;rw[oz _ hr hp];have hk:hasB (H r) e.r e.n=true:=by
     rw[k2];refine(kG k1).2 ⟨k3, ?_⟩;by_cases e2:p'=r
     ·subst e2;omega
     ·rw[if_neg e2]at hh;exact hh.2
    have:=h.clo r hr e he hk p hp;split<;>omega
   ·rw[if_neg e1]at hh⊢;exact h.clo q hq e he hh p hp
  ·rw[amZ.1 he]at hh⊢;rw[er,kG hr,en]at hh;by_cases e1:q=r
   ·rw[if_pos e1,ec,oz _ hr hp];split<;>omega
   ·rw[if_neg e1]at hh;have:=(h.ge q hq r hr).2;omega
 ·rcases am6.1 he with he|he
  ·have:=h.own e he p hp;have:=dle p hp;omega
  ·rw[amZ.1 he,ec];have:=h.ge r hr p hp;have:=dle p hp;omega
 ·refine an4.2 ⟨h.dis,aog _ _,λ a ha b hb=>?_⟩;rw[amZ.1 hb];rintro⟨k1,k2⟩;obtain⟨p,h1,h2,h3,h4,h5⟩:=h.ev a ha;rw[er,h2]at k1;have:p=r:=o_
  subst this;omega
 ·refine an4.2 ⟨h.ord,aog _ _,λ a ha b hb=>?_⟩;rw[amZ.1 hb];exact nb a ha
 ·rcases am6.1 ha with ha|ha
  ·rcases am6.1 hb with hb|hb
   ·exact h.hgt a ha b hb hab
   ·rw[amZ.1 hb]at hab⊢;unfold aJ at hab;rw[ec]at hab;exact eh a ha hab
  ·rw[amZ.1 ha]at hab;rcases am6.1 hb with hb|hb
   ·rw[nb b hb]at hab;cases hab
   ·rw[amZ.1 hb,ny]at hab;cases hab
 ·rcases List.append_eq_append_iff.1 e0 with⟨us,e1,e2⟩|⟨bs,e1,e2⟩
  ·cases us with
   |nil=>
    simp only[ano,aoV]at e2;rw[am2]at e1;subst e1;rw[<-e2.1,ec]at h2;have:=(h.ge r hr p hp).2;exact h.all p hp n h1 o_
   |cons a us=>
    simp only[anJ,aoV]at e2;exact absurd e2.2.symm s_
  ·cases bs with
   |nil=>
    simp only[ano,aoV]at e2;rw[am2]at e1;subst e1;rw[e2.1,ec]at h2;have:=(h.ge r hr p hp).2;exact h.all p hp n h1 o_
   |cons b bs=>
    simp only[anJ,aoV]at e2;obtain⟨rfl,-⟩:=e2;exact h.pre T1 e bs e1 p hp n h1 h2
 ·rcases am6.1 he with he|he
  ·exact h.fine e he
  ·rw[amZ.1 he];exact ef
theorem Inv.edit(h:Inv T H){r:Nat}(hr:r<5){x:Ed}(hx:∀(rr n:Int)(c:aS)(hh:Int),Fine ⟨rr,n,c,hh,x.k,x.key,x.l,x.v⟩):Inv (T++[aiv T H r x]) (lH H r ((H r).inc r)):=h.aiw hr rfl rfl rfl (λ _ ha hh=>adD ha hh) (hx _ _ _ _)
end
theorem adE(x:Ed)(rr n:Int)(c:aS)(hh:Int):Fine ⟨rr,n,c,hh,(AQ x).k,(AQ x).key,(AQ x).l,(AQ x).v⟩:=by
 have h5:0<=m5 x.k/\m5 x.k<=4:=by
  unfold m5;have:=ais x.k;omega
 have hk:(ks3 (uH x.key.data.toList)).size<=3:=by unfold ks3;split;exact ani 3;split;exact ani 3;exact(show 2<=3 by omega)
 have hv:(vs4 (uH x.v.data.toList)).size<=12:=by
  unfold vs4;split
  ·exact(show 1<=12 by omega)
  ·split
   ·exact(show 3<=12 by omega)
   ·split
    ·exact(show 2<=12 by omega)
    ·exact ani 12
 have hl:=ajb x.l;unfold AQ;split
 ·exact⟨⟨by simp only;omega,by simp only;omega⟩,anK hk d_,by simp only;omega,hv⟩
 ·exact⟨⟨by simp only;omega,by simp only;omega⟩,anK hk d_,.inl rfl,ane _⟩
theorem JC{x:Int}:(x%5).toNat<5:=o_
theorem Inv.step{H:Nat->aS}(h:Inv T H)(c:Ch0):Inv (JB (T,H) c).1 (JB (T,H) c).2:=by
 unfold JB;split
 ·exact h.sync JC JC
 ·exact h.edit JC (adE _)
def nO(p:ByteArray->Bool)(l:List Ev):List Ev:=l.filter λ x=>p x.key
theorem adF{q f:α->Bool}{l:List α}(h:∀x∈l,f x=true->q x=true):(l.filter q).any f=l.any f:=by
 rw[aoY];refine any_congr λ x hx=>?_;cases hf:f x with
 |false=>simp
 |true=>simp[h x hx hf]
theorem Fb(h:fM a b=true):a.key=b.key:=of_decide_eq_true h
theorem NI(h:sV a b=true):a.key=b.key:=by
 simp only[sV,amY]at h;exact Fb h.1
theorem NJ(h:lq a b=true):a.key=b.key:=by
 simp only[lq,amY]at h;exact NI h.1
section
variable{p:ByteArray->Bool}{l:List Ev}{e:Ev}
theorem DT{k:Int}{same:Ev->Ev->Bool}(hs:∀a b,same a b=true->a.key=b.key)(he:p e.key=true):fK k same (nO p l) e=fK k same l e:=
 adF λ x _ h=>by
  simp only[amY]at h;rw[hs _ _ h.2.1];exact he
theorem adG{k:Int}{same:Ev->Ev->Bool}(hs:∀a b,same a b=true->a.key=b.key)(he:p e.key=true):iq k same (nO p l) e=iq k same l e:=
 adF λ x _ h=>by
  simp only[amY]at h;rw[hs _ _ h.2.1];exact he
theorem adH(he:p e.key=true):bP (nO p l) e=bP l e:=by unfold bP;rw[DT (λ _ _=>Fb) he]
theorem zU:aB (nO p l)=nO p (aB l):=by
 unfold aB nO;rw[anL,anL];refine anF λ x _=>?_;cases h:p x.key with
 |false=>simp
 |true=>
  have h2:bP (l.filter λ x=>p x.key) x=bP l x:=adH h;rw[h2,apy]
theorem adI(he:p e.key=true):countB (nO p l) (aB (nO p l)) e=countB l (aB l) e:=by
 unfold countB;rw[zU,DT (λ _ _=>NJ) he,adG (λ _ _=>Fb) he]
theorem Gp:bI (nO p l) (aB (nO p l))=nO p (bI l (aB l)):=by
 have h:∀e,p e.key=true->countB (nO p l) (aB (nO p l)) e=countB l (aB l) e:=λ e he=>adI he;unfold bI;generalize countB (nO p l) (aB (nO p l))=f at h;unfold nO;rw[anL,anL];refine anF λ x _=>?_;cases hp:p x.key with
 |false=>simp
 |true=>rw[h x hp,apy]
theorem adJ(he:p e.key=true):dX (nO p l) e=dX l e:=by
 unfold dX;split
 ·exact DT (λ _ _=>NJ) he
 ·exact DT (λ _ _=>NI) he
theorem aag(b:ByteArray):(⟨(dM b).toArray⟩:ByteArray)=b:=by obtain⟨a⟩:=b;simp[dM]
theorem NK{key:ByteArray}{ws:List Ev}{f:Ev->Bool}(hk:p key=true)(hf:∀e,f e=true->e.key=key):(nO p ws).filter f=ws.filter f:=by
 unfold nO;rw[anL];refine anF λ x _=>?_;cases h:f x with
 |false=>simp
 |true=>rw[hf x h,hk];rfl
theorem WZ{key:ByteArray}{ws:List Ev}(hk:p key=true):fC key (nO p ws)=fC key ws:=by
 have h1:∀n,eU key n (nO p ws)=eU key n ws:=λ n=>NK hk λ e h=>by
  simp only[VU,amY,decide_eq_true_eq]at h;exact h.1.1
 have h2:∀n,ig key n (nO p ws)=ig key n ws:=λ n=>NK hk λ e h=>by
  simp only[VU,amY,decide_eq_true_eq]at h;exact h.1.1
 unfold fC;rw[h1,h1,h2,h2]
theorem Qq{α:Type}{q:α->Bool}:∀l:List α,(l.filter q).length+(l.filter λ x=> !q x).length=l.length
 |[]=>rfl
 |x::l=>by
  have:=Qq (q:=q) l;rw[anX,anX];cases q x<;>simp<;>omega
theorem YN:pU (nO p l)=((aB l).filter λ e=>p e.key).length+(((bI l (aB l)).filter λ e=> !dX l e).filter λ e=>p e.key).length:=by
 unfold pU;rw[Gp,zU];congr 2;unfold nO;rw[anL,anL];refine anF λ x _=>?_;cases h:p x.key with
 |false=>simp
 |true=>
  have h2:dX (l.filter λ x=>p x.key) x=dX l x:=adJ h;rw[h2,apy]
theorem size_two:pU l=pU (nO p l)+pU (nO (λ k=> !p k) l):=by
 rw[YN,YN,pU];have h1:=Qq (q:=λ e:Ev=>p e.key) (aB l);have h2:=Qq (q:=λ e:Ev=>p e.key) ((bI l (aB l)).filter λ e=> !dX l e);omega
end
theorem oC(a b:St):ku a b=true↔a.1<b.1\/(a.1=b.1/\a.2<b.2):=by
 unfold ku;split
 ·rename_i h;simp only[decide_eq_true_eq];omega
 ·rename_i h;simp only[decide_eq_true_eq];omega
theorem Ib:∀(l:List St)(m:St),¬ku (qU m l) m=true/\ ∀x∈l,¬ku (qU m l) x=true
 |[],m=>by
  refine⟨λ h=>?_,λ x hx=>absurd hx s_⟩;have:=(oC m m).1 h;omega
 |x::l,m=>by
  obtain⟨h1,h2⟩:=Ib l (if ku m x=true then x else m);show¬ku (qU (if ku m x=true then x else m) l) m=true/\ ∀y∈x::l,¬ku (qU (if ku m x=true then x else m) l) y=true;generalize qU (if ku m x=true then x else m) l=t at h1 h2;have h3:¬ku t m=true/\ ¬ku t x=true:=by
   split at h1
   ·rename_i hmx;rw[oC]at hmx h1;refine⟨?_,by rw[oC];exact h1⟩;rw[oC];omega
   ·rename_i hmx;rw[oC]at hmx h1;refine⟨by rw[oC];exact h1, ?_⟩;rw[oC];omega
  refine⟨h3.1,λ y hy=>?_⟩;rcases am4.1 hy with rfl|hy
  ·exact h3.2
  ·exact h2 y hy
theorem alW{l:List Str}{i:Nat}(h:i<l.length):l.getD i []=l[i]:=by rw[List.getD,amX h];rfl
theorem JD(h:¬A.length=0):∃e∈A,rZ A=e.v/\dh e=qU ((A.map dh).getD 0 default) (A.map dh):=by
 have hlt:=DN (l:=A.map dh) (by intro e;exact h (by rw[<-anu (f:=dh),e];rfl));have hg:=List.findIdx_getElem (p:=λ s=>decide (s=qU ((A.map dh).getD 0 default) (A.map dh))) (xs:=A.map dh) (w:=hlt);have hlt':=hlt;rw[anu]at hlt;refine⟨A[DL (A.map dh)],anH hlt, ?_, ?_⟩
 ·rw[rZ,if_neg h,alW (by rw[anu];exact hlt),List.getElem_map,aag]
 ·have:=of_decide_eq_true hg;have e2:(A.map dh)[DL (A.map dh)]'hlt'=dh (A[DL (A.map dh)]):=List.getElem_map ..;exact e2.symm.trans this
def uZ(l:List Ev):Prop:= ∀a∈l,∀b∈l,dh a=dh b->a=b
theorem agO{a b:St}(h:¬ku a b=true)(k:¬ku b a=true):a=b:=by
 rw[oC]at h k;obtain⟨a1,a2⟩:=a;obtain⟨b1,b2⟩:=b;simp only at h k;have:a1=b1:=o_
 have:a2=b2:=o_
 simp[*]
theorem aah(hd:uZ A)(he:e∈A)(hm:∀x∈A,¬ku (dh e) (dh x)=true):rZ A=e.v:=by
 have h0:¬A.length=0:=by
  intro h;rw[an9]at h;rw[h]at he;cases he
 obtain⟨x,hx,e1,e2⟩:=JD h0;have ht:=Ib (A.map dh) ((A.map dh).getD 0 default);rw[<-e2]at ht;have:=agO (hm x hx) (ht.2 (dh e) (ant.2 ⟨e,he,rfl⟩));rw[e1,hd e he x hx this]
section
variable{l l':List Ev}
end
theorem agP{R:α->α->Prop}{l:List α}(h:l.Pairwise λ a b=> ¬R a b)(hs:∀a b,R a b->R b a){a b:α}(ha:a∈l)(hb:b∈l)(hr:R a b):a=b:=by
 obtain⟨i,hi,rfl⟩:=anR ha;obtain⟨j,hj,rfl⟩:=anR hb;rcases Nat.lt_trichotomy i j with k|k|k
 ·exact absurd hr (aoS.1 h i j hi hj k)
 ·subst k;rfl
 ·exact absurd (hs _ _ hr) (aoS.1 h j i hj hi k)
theorem Inv.mark{H:Nat->aS}(h:Inv T H)(ha:a∈T)(hb:b∈T)(hr:a.r=b.r)(hn:a.n=b.n):a=b:=
 agP (R:=λ a b=>a.r=b.r/\a.n=b.n) h.dis (λ _ _ k=>⟨k.1.symm,k.2.symm⟩) ha hb ⟨hr,hn⟩
theorem Inv.stamp{H:Nat->aS}(h:Inv T H):uZ T:=λ a ha b hb e=>by
 obtain⟨p,a1,a2,a3,a4,a5⟩:=h.ev a ha;obtain⟨q,b1,b2,b3,b4,b5⟩:=h.ev b hb;have eh:a.h=b.h:=congrArg Prod.fst e;have er:a.r=b.r:=congrArg Prod.snd e;have epq:p=q:=by rw[a2,b2]at er;omega
 subst epq;rcases Int.lt_trichotomy a.n b.n with k|k|k
 ·have:=h.hgt a ha b hb (by unfold aJ;rw[a2];exact(kG a1).2 ⟨a3,o_⟩);omega
 ·exact h.mark ha hb er k
 ·have:=h.hgt b hb a ha (by unfold aJ;rw[b2];exact(kG a1).2 ⟨b3,o_⟩);omega
structure Spr where
 (out left:List Ev)(hv:aS)
def akK(left:List Ev)(h:aS)(k:Nat):Bool:=(left.getD k default).c.le h
def ajg(left:List Ev)(h:aS):List Nat:=(List.range left.length).filter (akK left h)
def aS.top(c:aS):Nat->Int->aS
 |0,n=>⟨LC c.c0 n,c.c1,c.c2,c.c3,c.c4⟩
 |1,n=>⟨c.c0,LC c.c1 n,c.c2,c.c3,c.c4⟩
 |2,n=>⟨c.c0,c.c1,LC c.c2 n,c.c3,c.c4⟩
 |3,n=>⟨c.c0,c.c1,c.c2,LC c.c3 n,c.c4⟩
 |_,n=>⟨c.c0,c.c1,c.c2,c.c3,LC c.c4 n⟩
theorem Qr(c:aS)(n:Int)(hr:r<5)(hq:q<5):(c.top r n).at q=if q=r then LC (c.at q) n else c.at q:=by
 obtain rfl|rfl|rfl|rfl|rfl:r=0\/r=1\/r=2\/r=3\/r=4:=o_
 all_goals(obtain rfl|rfl|rfl|rfl|rfl:q=0\/q=1\/q=2\/q=3\/q=4:=o_)
 all_goals rfl
def YO(s:Spr)(k:Nat):Spr:=⟨s.out++[s.left.getD k default],s.left.take k++s.left.drop (k+1),s.hv.top (s.left.getD k default).r.toNat (s.left.getD k default).n⟩
structure YP(W:List Ev)(s:Spr):Prop where
 perm:(s.out++s.left).Perm W
 sub:s.left.Sublist W
 hv:∀e∈s.out,∀r:Nat,r<5->e.r=(r:Int)->e.n<=s.hv.at r
 pos:∀r:Nat,r<5->0<=s.hv.at r
theorem agQ{left:List Ev}{h:aS}:k∈ajg left h↔k<left.length/\akK left h k=true:=by
 unfold ajg;rw[ana,ao3]
theorem agR{l:List α}(h:k<l.length):(l[k]::l.eraseIdx k).Perm l:=by
 rw[aoU];refine aoO.symm.trans ?_;rw[<-aok h,an8]
theorem YP.at{W:List Ev}{H:Nat->aS}(hI:Inv W H){s:Spr}(h:YP W s){k:Nat}(hk:k<s.left.length):YP W (YO s k):=by
 obtain⟨out,left,hv⟩:=s;obtain⟨h1,h2,h3,h4⟩:=h;simp only at h1 h2 h3 h4 hk;have hg:left.getD k default=left[k]:=by rw[List.getD,amX hk];rfl
 have he:left.take k++left.drop (k+1)=left.eraseIdx k:=(aoU ..).symm;have hm:left[k]∈W:=h2.subset (anH hk);obtain⟨p,p1,p2,_⟩:=hI.ev _ hm;have ep:left[k].r.toNat=p:=by rw[p2];omega
 unfold YO;simp only[hg,he,ep];refine⟨?_,(List.eraseIdx_sublist ..).trans h2,λ e hx r hr h5=>?_,λ r hr=>?_⟩
 ·have:=(agR hk).append_left out;refine(List.Perm.trans ?_ this).trans h1;rw[anm];exact .refl _
 ·show e.n<=(hv.top p left[k].n).at r;rw[Qr _ _ p1 hr];have hx:e∈out++[left[k]]:=hx;rcases am6.1 hx with hx|hx
  ·have:=h3 e hx r hr h5;split
   ·have:=adB (hv.at r) left[k].n;omega
   ·exact this
  ·rw[amZ.1 hx]at h5⊢;have:r=p:=by rw[p2]at h5;omega
   rw[if_pos this];exact akJ _ _
 ·show 0<=(hv.top p left[k].n).at r;rw[Qr _ _ p1 hr];have:=h4 r hr;split
  ·have:=adB (hv.at r) left[k].n;omega
  ·exact this
def woP(key:ByteArray)(c:Cont):Bool:= !decide (c.key=key)
def woL(l:List Cont)(key:ByteArray):List Cont:=l.filter (woP key)
def adK(l:List Cont)(key:ByteArray):Nat:=l.findIdx λ c=>decide (c.key=key)
def uI(l:List Cont)(key:ByteArray):Int:=if adK l key<l.length then(adK l key:Int)else-1
def eqK(key:ByteArray):ByteArray->Bool:=λ k=>decide (k=key)
theorem adL:uniq []=[]:=List.eq_nil_iff_forall_not_mem.2 λ x hx=>by
 have:=((jA []).2 x).1 hx;cases this
theorem of_same(h:∀x∈l,x.key=key):qV l=if aB l=[]then []else [fC key (bI l (aB l))]:=by
 have hk:keysB l=uniq ((aB l).map λ e=>dM e.key):=rfl;by_cases h0:aB l=[]
 ·rw[if_pos h0];unfold qV;rw[hk,h0,aox,adL];rfl
 ·rw[if_neg h0];have e:keysB l=[dM key]:=by
   rw[hk];refine zA (jA _).1 (aog _ _) λ x=>?_;rw[(jA _).2,amZ,ant];constructor
   ·rintro⟨y,hy,rfl⟩;rw[h y (ana.1 hy).1]
   ·rintro rfl;obtain⟨y,hy⟩:=apb _ h0;exact⟨y,hy,by rw[h y (ana.1 hy).1]⟩
  unfold qV;rw[e,List.map_singleton,aag]
theorem Qs:∀x∈nO (eqK key) l,x.key=key:=λ x hx=>by
 have:=(ana.1 hx).2;exact of_decide_eq_true this
structure CR(e:Ev)(a b:Cont):Prop where
 amw:e.l=0->a.h1=b.h1/\a.f1=b.f1/\a.s1.length=b.s1.length
 amx:e.l=1->a.h0=b.h0/\a.f0=b.f0/\a.s0.length=b.s0.length
 set0:e.k=3->e.l=0->b.h0=true/\b.f0=e.v/\a.s0.length=b.s0.length
 set1:e.k=3->e.l=1->b.h1=true/\b.f1=e.v/\a.s1.length=b.s1.length
 oth:e.k≠3->(a.h0=b.h0/\a.h1=b.h1)/\(a.f0=b.f0/\a.f1=b.f1)
 in0:e.k≠3->e.l=0->(dM e.v∈b.s0↔e.k=4)
 in1:e.k≠3->e.l=1->(dM e.v∈b.s1↔e.k=4)
structure amq(A B:List Cont)(e:Ev):Prop where
 wo:woL A e.key=woL B e.key
 two:e.k=2->uI B e.key= -1
 one:e.k=1->0<=uI B e.key
 more:3<=e.k->(uI A e.key= -1/\uI B e.key= -1)\/
  (∃a b,(0<=uI A e.key/\uI A e.key<(A.length:Int)/\A.getD (uI A e.key).toNat default=a)/\(0<=uI B e.key/\uI B e.key<(B.length:Int)/\B.getD (uI B e.key).toNat default=b)/\CR e a b)
section
variable{l:List Ev}{e:Ev}
theorem kH{k:Int}{same:Ev->Ev->Bool}{x:Ev}:fK k same (l++[e]) x=(fK k same l x||(decide (e.k=k)&&(same e x&&aJ x e))):=by
 unfold fK;rw[List.any_append];simp
theorem NM{k:Int}{same:Ev->Ev->Bool}(non:∀x∈l,aJ e x=false):fK k same l e=false:=by
 unfold fK;rw[ao8];intro x hx;rw[non x hx];simp
structure aai(l:List Ev)(e:Ev):Prop where
 key:∀x∈l,x.key=e.key
 all:∀x∈l,aJ x e=true
 non:∀x∈l,aJ e x=false
 self:aJ e e=false
 hi:∀x∈l,x.h<e.h
 one:uZ (l++[e])
variable(t:aai l e)
include t
theorem aai.keys:∀x∈l++[e],x.key=e.key:=λ x hx=>by
 rcases am6.1 hx with hx|hx
 ·exact t.key x hx
 ·rw[amZ.1 hx]
theorem aai.DU:bP (l++[e]) e=decide (e.k=1):=by
 unfold bP;rw[kH,NM t.non,t.self];simp
theorem aai.vg{x:Ev}(hx:x∈l):bP (l++[e]) x=(bP l x&& !decide (e.k=2)):=by
 have:fM e x=true:=decide_eq_true (t.key x hx).symm;unfold bP;rw[kH,this,t.all x hx];cases fK 2 fM l x<;>cases decide (x.k=1)<;>simp
theorem aai.living:aB (l++[e])=(if e.k=2 then []else aB l)++(if e.k=1 then [e]else []):=by
 unfold aB;rw[aoq,anX,t.DU];congr 1
 ·by_cases h:e.k=2
  ·rw[if_pos h,ao4];intro x hx;rw[t.vg hx,decide_eq_true h];simp
  ·rw[if_neg h];refine anF λ x hx=>?_;rw[t.vg hx,decide_eq_false h];simp
 ·by_cases h:e.k=1
  ·rw[if_pos h,if_pos (decide_eq_true h)];rfl
  ·rw[if_neg h,if_neg (by rw[decide_eq_false h];simp)];rfl
theorem aai.TS{C:List Ev}{x:Ev}(hx:x∈l):countB (l++[e]) C x=(countB l C x&& !(decide (e.k=5)&&(decide (x.k=4)&&lq e x))):=by
 unfold countB;rw[kH,t.all x hx];by_cases h3:x.k=3
 ·rw[decide_eq_true h3,decide_eq_false (show¬x.k=4 by omega)];simp
 ·rw[decide_eq_false h3];cases decide (x.k=4)<;>cases fK 5 lq l x<;>cases iq 1 fM C x<;>simp
end
theorem TT{a b:ByteArray}(h:dM a=dM b):a=b:=by rw[<-aag a,h,aag]
section
variable{l:List Ev}{e:Ev}{ws:List Ev}
end
theorem YQ(p:ByteArray->Bool)(l:List Ev)(e:Ev):nO p (l++[e])=nO p l++(if p e.key=true then [e]else []):=by
 unfold nO;rw[aoq,anX];rfl
def iP(l:List Ev)(e:Ev):Bool:=bP l e||(countB l (aB l) e&& !dX l e)
def iG(l:List Ev):List Ev:=l.filter (iP l)
def tK(l:List Ev)(e:Ev):Bool:=l.any λ a=>decide (a.k=1)&&aJ a e
def su(kind:Int)(same:Ev->Bool)(e:Ev)(l:List Ev):List Ev:=l.filter λ a=> !decide (a.k=kind)||(!same a|| !aJ a e)
def yS(e a:Ev):Bool:=decide (a.l=e.l)
def qG(e a:Ev):Bool:=decide (a.l=e.l)&&decide (a.v=e.v)
def kP(l:List Ev)(e:Ev):List Ev:=
 if e.k=1 then l++[e]
 else if e.k=2 then(su 1 (λ _=>true) e l).filter λ a=>decide (a.k=1)||tK (su 1 (λ _=>true) e l) a
 else if e.k=3 then(if tK l e=true then su 3 (yS e) e l++[e]else l)
 else if e.k=5 then su 4 (qG e) e l
 else if tK l e=true then su 4 (qG e) e l++[e]else l
structure Fe(p:List Ev)(e:Ev):Prop where
 key:∀x∈p,x.key=e.key
 non:∀x∈p,aJ e x=false
 self:aJ e e=false
 tr:∀a∈p,∀b∈p,aJ a b=true->aJ b e=true->aJ a e=true
 kind:1<=e.k/\e.k<=5
 kinds:∀x∈p,1<=x.k/\x.k<=5
theorem yT(h:a.key=b.key):fM a b=true:=decide_eq_true h
section
variable{p:List Ev}{e:Ev}(t:Fe p e)
include t
theorem Fe.keys{x:Ev}(hx:x∈p):fM e x=true/\fM x e=true:=⟨yT (t.key x hx).symm,yT (t.key x hx)⟩
theorem Fe.Qu{k:Int}{same:Ev->Ev->Bool}:fK k same (p++[e]) e=false:=by
 rw[kH,NM t.non,t.self];simp
theorem Fe.DU:bP (p++[e]) e=decide (e.k=1):=by
 unfold bP;rw[t.Qu];simp
theorem Fe.vg{x:Ev}(hx:x∈p):bP (p++[e]) x=(bP p x&& !(decide (e.k=2)&&aJ x e)):=by
 unfold bP;rw[kH,(t.keys hx).1];cases fK 2 fM p x<;>cases decide (x.k=1)<;>simp
theorem Fe.living:aB (p++[e])=(aB p).filter (λ x=> !(decide (e.k=2)&&aJ x e))++(if e.k=1 then [e]else []):=by
 unfold aB;rw[aoq,anX,t.DU,anL];congr 1
 ·refine anF λ x hx=>?_;rw[t.vg hx,apy]
 ·by_cases h:e.k=1
  ·rw[if_pos h,if_pos (decide_eq_true h)];rfl
  ·rw[if_neg h,if_neg (by rw[decide_eq_false h];simp)];rfl
theorem Fe.TU{x:Ev}(hx:x∈p):iq 1 fM (aB (p++[e])) x=(aB p).any λ a=> !(decide (e.k=2)&&aJ a e)&&aJ a x:=by
 unfold iq;rw[t.living,List.any_append,aoY];have h2:((if e.k=1 then [e]else []).any λ a=>decide (a.k=1)&&(fM a x&&aJ a x))=false:=by
  split
  ·rw[List.any_cons,List.any_nil,t.non x hx];simp
  ·rfl
 rw[h2,Bool.or_false];refine any_congr λ a ha=>?_;obtain⟨hap,hal⟩:=ana.1 ha;have hk:a.k=1:=by
  simp only[bP,amY,decide_eq_true_eq]at hal;exact hal.1
 rw[decide_eq_true hk,yT (show a.key=x.key by rw[t.key a hap,t.key x hx])];cases decide (e.k=2)<;>cases aJ a e<;>cases aJ a x<;>rfl
theorem Fe.Fg{x:Ev}(hx:x∈p):iq 1 fM (aB p) x=(aB p).any λ a=>aJ a x:=by
 refine any_congr λ a ha=>?_;obtain⟨hap,hal⟩:=ana.1 ha;have hk:a.k=1:=by
  simp only[bP,amY,decide_eq_true_eq]at hal;exact hal.1
 rw[decide_eq_true hk,yT (show a.key=x.key by rw[t.key a hap,t.key x hx])];simp
theorem Fe.agS:iq 1 fM (aB (p++[e])) e=(aB p).any λ a=> !(decide (e.k=2)&&aJ a e)&&aJ a e:=by
 unfold iq;rw[t.living,List.any_append,aoY];have h2:((if e.k=1 then [e]else []).any λ a=>decide (a.k=1)&&(fM a e&&aJ a e))=false:=by
  split
  ·rw[List.any_cons,List.any_nil,t.self];simp
  ·rfl
 rw[h2,Bool.or_false];refine any_congr λ a ha=>?_;obtain⟨hap,hal⟩:=ana.1 ha;have hk:a.k=1:=by
  simp only[bP,amY,decide_eq_true_eq]at hal;exact hal.1
 rw[decide_eq_true hk,(t.keys hap).2];cases decide (e.k=2)<;>cases aJ a e<;>rfl
theorem Fe.adM{x:Ev}(hx:x∈p):sV e x=yS e x:=by
 unfold sV yS;rw[(t.keys hx).1,ao7];exact decide_eq_decide.2 eq_comm
theorem Fe.adN{x:Ev}(hx:x∈p):lq e x=qG e x:=by
 have h:=t.adM hx;unfold lq qG;rw[h];unfold yS;congr 1;exact decide_eq_decide.2 eq_comm
theorem Fe.TV{x:Ev}(hx:x∈p):dX (p++[e]) x=(dX p x||(decide (e.k=x.k)&&((if x.k=4 then qG e x else yS e x)&&aJ x e))):=by
 unfold dX;by_cases h:x.k=4
 ·rw[if_pos h,if_pos h,kH,t.adN hx]
 ·rw[if_neg h,if_neg h,kH,t.adM hx]
theorem Fe.TS{x:Ev}(hx:x∈p)(h2:e.k≠2):countB (p++[e]) (aB (p++[e])) x=(countB p (aB p) x&& !(decide (e.k=5)&&(decide (x.k=4)&&(qG e x&&aJ x e)))):=by
 have hu:iq 1 fM (aB (p++[e])) x=iq 1 fM (aB p) x:=by
  rw[t.TU hx,t.Fg hx];refine any_congr λ a _=>?_;rw[decide_eq_false h2];rfl
 unfold countB;rw[hu,kH,t.adN hx];by_cases h3:x.k=3
 ·rw[decide_eq_true h3,decide_eq_false (show¬x.k=4 by omega)];simp
 ·rw[decide_eq_false h3];cases decide (x.k=4)<;>cases fK 5 lq p x<;>cases iq 1 fM (aB p) x<;>simp
theorem Fe.agT(h:e.k=1):iP (p++[e]) e=true:=by
 unfold iP;rw[t.DU,decide_eq_true h];rfl
theorem Fe.zV{x:Ev}(hx:x∈p)(h2:e.k≠2):iP (p++[e]) x=(bP p x||(countB p (aB p) x&& !(decide (e.k=5)&&(decide (x.k=4)&&(qG e x&&aJ x e)))&& !(dX p x||(decide (e.k=x.k)&&((if x.k=4 then qG e x else yS e x)&&aJ x e))))):=by
 unfold iP;rw[t.vg hx,t.TS hx h2,t.TV hx,decide_eq_false h2];simp
omit t in
theorem iD{l:List Ev}{x:Ev}(h:bP l x=true):x.k=1:=by
 simp only[bP,amY,decide_eq_true_eq]at h;exact h.1
omit t in
theorem kJ{l C:List Ev}{x:Ev}(h:countB l C x=true):x.k=3\/x.k=4:=by
 simp only[countB,amY,anT,decide_eq_true_eq]at h;rcases h.1 with h|h
 ·exact .inl h
 ·exact .inr h.1
omit t in
theorem JE{x:Ev}:tK (iG p) x=(aB p).any λ a=>aJ a x:=by
 unfold tK iG aB;rw[aoY,aoY];refine any_congr λ a _=>?_;cases hl:bP p a with
 |true=>rw[decide_eq_true (iD hl)];simp[iP,hl]
 |false=>
  cases hc:countB p (aB p) a with
  |false=>
   have:iP p a=false:=by unfold iP;rw[hl,hc];rfl
   rw[this];rfl
  |true=>
   have:¬a.k=1:=by rcases kJ hc with h|h<;>omega
   rw[decide_eq_false this];simp
theorem Fe.ajh{h2:e.k≠1}:iP (p++[e]) e=((decide (e.k=3)||decide (e.k=4))&&tK (iG p) e):=by
 have hl:dX (p++[e]) e=false:=by unfold dX;split<;>exact t.Qu
 unfold iP;rw[t.DU,decide_eq_false h2,hl,JE];unfold countB;rw[t.Qu,t.agS];by_cases h:e.k=2
 ·rw[decide_eq_false (show¬e.k=3 by omega),decide_eq_false (show¬e.k=4 by omega)];rfl
 ·rw[decide_eq_false h];simp
omit t in
theorem W9(l:List Ev)(x:Ev):iG (l++[x])=l.filter (iP (l++[x]))++(if iP (l++[x]) x=true then [x]else []):=by
 unfold iG;rw[aoq,anX];rfl
theorem Fe.YR{x:Ev}(hx:x∈p)(hc:countB p (aB p) x=true)(hb:aJ x e=true):tK (iG p) e=true:=by
 have hu:iq 1 fM (aB p) x=true:=by
  simp only[countB,amY]at hc;exact hc.2
 rw[t.Fg hx]at hu;rw[JE];obtain⟨a,ha,hax⟩:=an6.1 hu;exact an6.2 ⟨a,ha,t.tr a (ana.1 ha).1 x hx hax hb⟩
theorem Fe.step:kP (iG p) e=iG (p++[e]):=by
 rw[W9];unfold kP;have hk:=t.kind;by_cases k1:e.k=1
 ·rw[if_pos k1,if_pos (t.agT k1)];congr 1;refine anF λ x hx=>?_;rw[t.zV hx o_,decide_eq_false (show¬e.k=5 by omega)];unfold iP;cases hc:countB p (aB p) x with
  |false=>simp
  |true=>
   have:¬e.k=x.k:=by rcases kJ hc with h|h<;>omega
   rw[decide_eq_false this];simp
 rw[if_neg k1,t.ajh (h2:=k1)];by_cases k2:e.k=2
 ·rw[if_pos k2,decide_eq_false (show¬e.k=3 by omega),decide_eq_false (show¬e.k=4 by omega),if_neg s_,am2];have hcr:∀x∈p,tK (su 1 (λ _=>true) e (iG p)) x=(aB p).any λ a=> !aJ a e&&aJ a x:=λ x _=>by
   unfold tK su iG aB;rw[aoY,aoY,aoY];refine any_congr λ a _=>?_;cases hl:bP p a with
   |true=>rw[decide_eq_true (iD hl)];simp[iP,hl]
   |false=>
    cases hc:countB p (aB p) a with
    |false=>
     have:iP p a=false:=by unfold iP;rw[hl,hc];rfl
     rw[this];rfl
    |true=>
     have:¬a.k=1:=by rcases kJ hc with h|h<;>omega
     rw[decide_eq_false this];simp
  have hd:su 1 (λ _=>true) e (iG p)=p.filter λ x=>(!decide (x.k=1)|| !aJ x e)&&iP p x:=by
   unfold su iG;rw[anL];exact anF λ x _=>s_
  rw[anF (q:=λ a=>decide (a.k=1)||(aB p).any λ c=> !aJ c e&&aJ c a) (λ x hx=>by
   rw[hcr x];rw[hd]at hx;exact(ana.1 hx).1),hd,anL]
  refine anF λ x hx=>?_;have hl:=t.vg hx;have hlt:dX (p++[e]) x=(dX p x||(decide (e.k=x.k)&&((if x.k=4 then qG e x else yS e x)&&aJ x e))):=t.TV hx;have hu:=t.TU hx;have huo:=t.Fg hx;rw[decide_eq_true k2]at hl hu;simp only[ao7]at hl hu;have hle:((aB p).any λ a=> !aJ a e&&aJ a x)=true->iq 1 fM (aB p) x=true:=λ h=>by
   rw[huo];obtain⟨a,ha,h⟩:=an6.1 h;simp only[amY]at h;exact an6.2 ⟨a,ha,h.2⟩
  unfold iP;rw[hl,hlt];unfold countB;rw[hu,kH,decide_eq_false (show¬e.k=5 by omega)];generalize((aB p).any λ a=>(!aJ a e&&aJ a x))=u' at*;generalize iq 1 fM (aB p) x=u at*;rcases(show x.k=1\/x.k=3\/x.k=4\/(x.k≠1/\x.k≠3/\x.k≠4) by omega)with h|h|h|⟨h1,h2,h3⟩
  ·rw[decide_eq_true h,decide_eq_false (show¬x.k=3 by omega),decide_eq_false (show¬x.k=4 by omega)];cases bP p x<;>cases aJ x e<;>simp
  ·have hnl:bP p x=false:=by rw[anw];intro k;have:=iD k;omega
   rw[hnl,decide_eq_false (show¬x.k=1 by omega),decide_eq_true h,decide_eq_false (show¬x.k=4 by omega),decide_eq_false (show¬e.k=x.k by omega)];cases u' with
   |true=>rw[hle rfl];simp
   |false=>simp
  ·have hnl:bP p x=false:=by rw[anw];intro k;have:=iD k;omega
   rw[hnl,decide_eq_false (show¬x.k=1 by omega),decide_eq_true h,decide_eq_false (show¬x.k=3 by omega),decide_eq_false (show¬e.k=x.k by omega)];cases u' with
   |true=>rw[hle rfl];simp
   |false=>simp
  ·have hnl:bP p x=false:=by rw[anw];intro k;have:=iD k;omega
   rw[hnl,decide_eq_false h1,decide_eq_false h2,decide_eq_false h3];simp
 rw[if_neg k2];by_cases k3:e.k=3
 ·rw[if_pos k3,decide_eq_true k3,Bool.true_or,ao7];by_cases hcr:tK (iG p) e=true
  ·rw[if_pos hcr,if_pos hcr];congr 1;unfold su iG;rw[anL];refine anF λ x hx=>?_;rw[t.zV hx k2,decide_eq_false (show¬e.k=5 by omega),k3];unfold iP;cases hl:bP p x with
   |true=>rw[decide_eq_false (show¬x.k=3 by have:=iD hl;omega)];simp
   |false=>
    by_cases h:x.k=3
    ·rw[decide_eq_true h,decide_eq_true h.symm,if_neg o_];cases countB p (aB p) x<;>cases dX p x<;>simp
    ·rw[decide_eq_false h,decide_eq_false (show¬3=x.k from λ k=>h k.symm)];simp
  ·rw[if_neg hcr,if_neg hcr,am2];unfold iG;refine anF λ x hx=>?_;rw[t.zV hx k2,decide_eq_false (show¬e.k=5 by omega)];unfold iP;cases hc:countB p (aB p) x with
   |false=>simp
   |true=>
    have:aJ x e=false:=by rw[anw];exact λ k=>hcr (t.YR hx hc k)
    rw[this];simp
 rw[if_neg k3,decide_eq_false k3,Bool.false_or];by_cases k5:e.k=5
 ·rw[if_pos k5,decide_eq_false (show¬e.k=4 by omega),Bool.false_and,if_neg s_,am2];unfold su iG;rw[anL];refine anF λ x hx=>?_;rw[t.zV hx k2,decide_eq_true k5];unfold iP;cases hl:bP p x with
  |true=>rw[decide_eq_false (show¬x.k=4 by have:=iD hl;omega)];simp
  |false=>
   cases hc:countB p (aB p) x with
   |false=>simp
   |true=>
    rw[decide_eq_false (show¬e.k=x.k by rcases kJ hc with h|h<;>omega)];by_cases h:x.k=4
    ·rw[decide_eq_true h];cases qG e x<;>cases aJ x e<;>simp
    ·rw[decide_eq_false h];simp
 have k4:e.k=4:=o_
 rw[if_neg k5,decide_eq_true k4,ao7];by_cases hcr:tK (iG p) e=true
 ·rw[if_pos hcr,if_pos hcr];congr 1;unfold su iG;rw[anL];refine anF λ x hx=>?_;rw[t.zV hx k2,decide_eq_false k5,k4];unfold iP;cases hl:bP p x with
  |true=>rw[decide_eq_false (show¬x.k=4 by have:=iD hl;omega)];simp
  |false=>
   by_cases h:x.k=4
   ·rw[decide_eq_true h,decide_eq_true h.symm,if_pos h];cases countB p (aB p) x<;>cases dX p x<;>simp
   ·rw[decide_eq_false h,decide_eq_false (show¬4=x.k from λ k=>h k.symm)];simp
 ·rw[if_neg hcr,if_neg hcr,am2];unfold iG;refine anF λ x hx=>?_;rw[t.zV hx k2,decide_eq_false k5];unfold iP;cases hc:countB p (aB p) x with
  |false=>simp
  |true=>
   have:aJ x e=false:=by rw[anw];exact λ k=>hcr (t.YR hx hc k)
   rw[this];simp
end
section
variable{P:Program}{L:Lay}{ρ:Nat->Value}{a:Act}{w w':World}{st:AS}
def aji(P:Program)(L:Lay)(W:Walk)(glv:Nat)(gfn:Func)(gc:Code)(fn:Func)(r:AV)(hh:List (Nat×AO))(st:AS):Prop:=
 match st.back with
 |f::[]=>W gfn.ntmps glv gc (λ e st'=>match e with| .exit _=>False| .normal=>oN L st' gfn.results.toList (λ _=>xY st'.out (λ st2=>oN L st2 fn.results.toList (λ x=>aT st2 x r hh)))| .ret=>oN L st' gfn.results.toList (λ _=>xY st'.out (λ st2=>oN L st2 fn.results.toList (λ x=>aT st2 x r hh)))) (AS.into ⟨st.sl,st.heap,[],st.base⟩ [sQ f 0,sQ f 1])
 |_=>False
def dMk(st:AS)(i j:Nat)(K:AS->Prop):Prop:=
 match st.tmps i,st.tmps j with
 | .box b x,.box c y=>K ⟨st.sl,st.heap,[[(0,.box b x),(1,.box c y)]],st.base⟩
 |_,_=>False
def dQ(P:Program)(L:Lay)(fn:Func)(r:AV)(hh:List (Nat×AO))(K:AS->Prop):jd->AS->Prop
 | .normal,st=>K st
 | .ret,st=>oN L st fn.results.toList (λ x=>aT st x r hh)
 | .exit _,_=>False
def dE(K:AS->Prop):jd->AS->Prop
 | .normal,st=>K st
 | .ret,st=>K st
 | .exit _,_=>False
theorem TW(hL:bD P L)(n lv glv:Nat){f gg:FuncId}{fn gfn:Func}{x y z rest gc:Code}{id t i j:Nat}{o1 o2:Oper}{aW:List AV}{r:AV}{hh:List (Nat×AO)}(hf:P.funcs[f]? =some fn)(hn:(fn.name== "runtime.NumGoroutine")=false)
  (hb:fn.body=some (x.seq (y.seq (z.seq ((Code.region id #[o1,o2] false).seq rest)))))(hsz:Nat.ble aW.length fn.ntmps=true)
  (hgf:P.funcs[gg]? =some gfn)(hgn:(gfn.name== "runtime.NumGoroutine")=false)(hgb:gfn.body=some gc)(hgs:Nat.ble 2 gfn.ntmps=true)
  (h1:o1.op= .makeFunc (.func gg) #[] #[.tmp i,.tmp j])(d1:o1.dst=some t)(g1:o1.guard=none)(h2:o2.op= .defer {callee:= .value (.tmp t),args:= #[],argTypes:= #[]})(d2:o2.dst=none)(g2:o2.guard=none)(ht:Nat.ble (t+1) fn.ntmps=true)
  (h:zC P L n fn.ntmps lv x (dQ P L fn r hh λ st=>zC P L n fn.ntmps lv y (dQ P L fn r hh λ st=>zC P L n fn.ntmps lv z (dQ P L fn r hh λ st=>dMk st i j λ st=>zC P L n fn.ntmps lv rest (dE (aji P L (zC P L n) glv gfn gc fn r hh)) (st.put t .junk)) st) st) (start aW)):aF P f aW r hh:=by
 have hE:Enters P gg:=⟨gfn,gc,hgf,hgn,hgb⟩;refine⟨⟨fn,_,hf,hn,hb⟩,λ w keep args hkeep hargs=>?_⟩;have hsz:=am7 hsz;have hlen:args.length=aW.length:=hargs.1.symm;refine calls_of_wp_defers hf hb ?_;let g:Base:=base0 w keep;have Jb:aC (C2 (aA g w (λ _=>undef) [])) aW args:=hargs.imp λ _ _ h=>C2.mg (C1.same (X:=⟨w,keep,λ _=>undef⟩) (Y:=aA g w (λ _=>undef) []) (λ b hb=>⟨hkeep b hb,λ _=> .inl hb,by simp[ah]⟩) (λ _ _=>rfl) rfl h);have R0:Rel g fn.ntmps [] (λ _=>undef) {tmps:=args.toArray++Array.replicate (fn.ntmps-args.toArray.size) undef,defers:=[]} w (start aW):=
  ⟨by simp;omega,rfl,dG.refl _ _ _,tH Jb hsz,(λ p hp=>by cases hp),by simp[start,ah],(λ b hb=>by simp[start,ah]at hb),trivial⟩
 generalize hE0:bodyPostD P fn _=E;have early:∀{ρ a w' st},Rel g fn.ntmps [] ρ a w' st->oN L st fn.results.toList (λ x=>aT st x r hh)->E .ret a w':=λ R hq=>by
  subst hE0;show Leaves P fn _ _ _ _ _;rw[show _=[]from R.defers];exact Ja hL R hq
 have step:∀(c d:Code){K:AS->Prop},(∀{ρ a w' st},Rel g fn.ntmps [] ρ a w' st->K st->d.wp P E a w')-> ∀{ρ a w' st},Rel g fn.ntmps [] ρ a w' st->zC P L n fn.ntmps lv c (dQ P L fn r hh K) st->(c.seq d).wp P E a w':=λ c d K hd ρ a w' st R hc=>
  wp_seq (dS hL n g fn.ntmps lv [] c (dQ P L fn r hh K) _ ⟨λ ρ a w st R h=>hd R h,λ i ρ a w st R h=>h.elim,λ ρ a w st R h=>early R h⟩ R hc)
 refine step x _ (λ R h=>step y _ (λ R h=>step z _ (λ{ρ a w' st} R h=>?_) R h) R h) R0 h;unfold dMk at h;split at h
 ·rename_i b ox c oy eb ec;have hi:=R.tmps i;have hj:=R.tmps j;rw[eb]at hi;rw[ec]at hj;obtain⟨B1,hB1,hv1⟩:=C2.kD hi;obtain⟨B2,hB2,hv2⟩:=C2.kD hj;let p1:Value:= .pointer (some ⟨B1,ox,none⟩);let p2:Value:= .pointer (some ⟨B2,oy,none⟩);let d0:Deferred:={target:= .fn (.func gg) #[p1,p2],args:= #[]};let g':Base:=⟨w,keep,λ _=>False,[d0]⟩;have hd0:a.defers=[]:=R.defers;have ht':t<a.tmps.size:=by rw[R.size];exact am7 ht
  refine wp_seq (wp_region_list ?_);have fin:∀u,Rel g' fn.ntmps [#[p1,p2]] ρ {({(a.put (some t) u)with defers:=[d0]}:Act)with defers:=[d0]} w' (AS.put ⟨st.sl,st.heap,[[(0,.box b ox),(1,.box c oy)]],st.base⟩ t .junk):=λ u=>by
   refine⟨by simpa[Act.put]using R.size,rfl,R.below,λ t'=>?_,R.objs,R.apart,R.own,⟨λ t'=>?_,trivial⟩⟩
   ·show C2 _ (upd t .junk st.tmps t') ((a.tmps.setIfInBounds t u).getD t' undef);unfold upd;cases hb':Nat.beq t' t with
    |true=>trivial
    |false=>
     have:t'≠t:=λ e=>by rw[e,apv]at hb';cases hb'
     rw[show(a.tmps.setIfInBounds t u).getD t' undef=a.tmps.getD t' undef by simp[apn this]];exact R.tmps t'
   ·match t' with
    |0=>exact⟨B1,hB1,rfl⟩
    |1=>exact⟨B2,hB2,rfl⟩
    |_+2=>exact trivial
  have more:∀{ρ a w' st},Rel g' fn.ntmps [#[p1,p2]] ρ a w' st->aji P L (zC P L n) glv gfn gc fn r hh st->E .ret a w'/\E .normal a w':=λ{ρ a w' st} R h=>by
   subst hE0;suffices hl:Leaves P fn a.tmps _ a.defers .returning w' from⟨hl,hl⟩
   rw[show a.defers=[d0]from R.defers];unfold aji at h;split at h
   ·rename_i f' ebk;have hbk:=R.back;rw[ebk]at hbk;have R1:Rel g' fn.ntmps [] ρ a w' ⟨st.sl,st.heap,[],st.base⟩:=⟨R.size,R.defers,R.below,R.tmps,R.objs,R.apart,R.own,trivial⟩;have hin:=acX hL (dS hL n) R1 (args:=[p1,p2]) (K:=λ _ st2=>oN L st2 fn.results.toList (λ x=>aT st2 x r hh)) (aC.cons (hbk.1 0) (aC.cons (hbk.1 1) aC.nil)) glv gfn gc hgs h;refine leaves_cons (f:=gg) (args:= #[p1,p2]) s_ (by simpa[invoke]using nZ hE #[p1,p2] w') ((callsD_of_wp hgf hgb hin).mono ?_);rintro e u' w2 ⟨rfl,u,x,st2,WB,rfl,hq,R2,_⟩;exact Ja hL R2 hq
   ·exact h.elim
  have hv1:a.eval (.tmp i)=p1:=hv1;have hv2:a.eval (.tmp j)=p2:=hv2;have hop1:(execOp a.eval o1).run P w'= .ok (.value (.func (.func gg) #[] #[p1,p2])) w':=by simp[execOp,h1,Instr.makeFunc,hv1,hv2]
  refine wpList_step (λ K1 hK1=>?_);simp only[Region.wanted,g1,if_true];unfold Oper.wp;rw[hop1,Oper.upon_value];refine hK1 _ _ (wpList_step (λ K2 hK2=>?_));simp only[Region.wanted,g2,if_true];have hev:(a.put o1.dst (.func (.func gg) #[] #[p1,p2])).eval (.tmp t)= .func (.func gg) #[] #[p1,p2]:=by
   rw[d1];simp[Act.eval,Act.put,ht']
  have hop2:(execOp (a.put o1.dst (.func (.func gg) #[] #[p1,p2])).eval o2).run P w'= .ok (.defer d0) w':=by simp[execOp,h2,resolve,hev,Deferred.ofValue,d0]
  unfold Oper.wp;rw[hop2,Oper.upon_defer];refine hK2 _ _ (show Exit.then _ _ _ _ _ from ?_);have RR:=fin (.func (.func gg) #[] #[p1,p2]);have ea:({(a.put o1.dst (.func (.func gg) #[] #[p1,p2]))with defers:=d0::(a.put o1.dst (.func (.func gg) #[] #[p1,p2])).defers}:Act).put o2.dst undef={(a.put (some t) (.func (.func gg) #[] #[p1,p2]))with defers:=[d0]}:=by
   rw[d1,d2];simp[Act.put,hd0]
  show rest.wp P E _ _;rw[ea];exact dS hL n g' fn.ntmps lv [#[p1,p2]] rest _ E ⟨λ ρ a w st R h=>(more R h).2,λ i ρ a w st R h=>h.elim,λ ρ a w st R h=>(more R h).1⟩ RR h
 ·exact h.elim
end
structure lZ where
 (n w q h l p:Int)
def lZ.cs(c:lZ):List AV:=[.v (.int .i64 c.n),.v (.int .i64 c.w),.v (.int .i64 c.q),.v (.int .i64 c.h),.v (.int .i64 c.l),.v (.int .i64 c.p)]
def lZ.av(c:lZ):AV:= .agg c.cs
def inC(n m:Int):Bool:=decide (1<=n)&&decide (n<=m)
def qj(c:lZ):Bool:=inC c.n 5&&inC c.w 4&&inC c.q 8&&inC c.h 20&&inC c.l 4&&inC c.p 3
theorem tN{m:Int}:inC n m=true↔1<=n/\n<=m:=by simp[inC]
theorem aaj(n m:Int):aF prog 111 [.v (.int .i64 n),.v (.int .i64 m)] (.v (.bool (inC n m))) []:=by
 refine K1.E 0x13 func111 ?_;repeat' ((conv=>whnf);first|refine aT.fH ?_|refine K1.y (λ _=>?_) (λ _=>?_)|fail)
 all_goals(conv=>whnf)
 all_goals(refine bF.mk (dJ.of ?_))
 all_goals simp[inC, *]
theorem Fh(c:lZ):aF prog 71 [c.av] (.v (.bool (qj c))) []:=by
 obtain⟨n,w,q,h,l,p⟩:=c;dsimp only[lZ.av,lZ.cs];refine K1.E 0x7 func71 ?_;repeat' ((conv=>whnf);first|refine K1.P1 (aaj _ _) ?_|refine aT.fH ?_|refine K1.y (λ _=>?_) (λ _=>?_)|fail)
 all_goals(conv=>whnf)
 all_goals(refine bF.mk (dJ.of ?_))
 all_goals simp[qj, *]
theorem Fj{c:lZ}(h:qj c=true):∃n:Nat,c.n=(n:Int)/\1<=n/\n<=5:=by
 simp only[qj,amY]at h;have h1:=tN.1 h.1.1.1.1.1;exact⟨c.n.toNat,o_,o_,o_⟩
def mN(m x:Int):Int:=(x.tmod m+m)%m
theorem NP(x m:Int)(hm:0<m): -m<x.tmod m/\x.tmod m<m:=⟨by have:=Int.lt_tmod_of_pos x hm;omega,ao5 x hm⟩
theorem NQ(m x:Int)(hm:0<m):0<=mN m x/\mN m x<m:=⟨Int.emod_nonneg _ o_,Int.emod_lt_of_pos _ hm⟩
def adO(c:lZ):lZ:=⟨1+mN 5 c.n,1+mN 4 c.w,1+mN 8 c.q,1+mN 20 c.h,1+mN 4 c.l,1+mN 3 c.p⟩
theorem akf(c:lZ):qj (adO c)=true:=by
 have h1:=NQ 5 c.n o_;have h2:=NQ 4 c.w o_;have h3:=NQ 8 c.q o_;have h4:=NQ 20 c.h o_;have h5:=NQ 4 c.l o_;have h6:=NQ 3 c.p o_;have f:∀{m x:Int},0<=x/\x<m->inC (1+x) m=true:=λ h=>tN.2 o_;simp only[qj,amY];exact⟨⟨⟨⟨⟨f h1,f h2⟩,f h3⟩,f h4⟩,f h5⟩,f h6⟩
theorem ajj(c:lZ):aF prog 10 [c.av] (adO c).av []:=by
 have h1:=NP c.n 5 o_;have h2:=NP c.w 4 o_;have h3:=NP c.q 8 o_;have h4:=NP c.h 20 o_;have h5:=NP c.l 4 o_;have h6:=NP c.p 3 o_;obtain⟨n,w,q,h,l,p⟩:=c;dsimp only[lZ.av,lZ.cs,adO,mN]at*;refine K1.E 0x7 func10 ?_;repeat' ((conv=>whnf);first|refine K1.u ?_|refine Rm.pos o_ o_ ?_|refine Rm.raw d_ ?_|refine aT.fH ?_|fail)
 all_goals(conv=>whnf)
 all_goals exact bF.mk (bY)
end Go.Proofs.YtkimgljckickcaaGreat
