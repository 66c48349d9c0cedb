/-
  Contracts of the walk:Mk1,Mk2,Ps1,Ap1,BkLp,Ps2,Wo,La1,Lv1,AmD,Cf.
-/
import Derived.Test.YtifjccndenojlaaGreatWf9
import Derived.Test.YtifjccndenojlaaGreatWf10
import Derived.Test.YtifjccndenojlaaGreatWf1
import Derived.Defers
set_option maxHeartbeats 16000000
set_option maxRecDepth 100000
set_option linter.unusedVariables false
set_option linter.unusedSimpArgs false
namespace Go.Proofs.YtifjccndenojlaaGreat
open Go.RowKit
open Go.Proofs.Tryz
variable{key:ByteArray}{a b e:Ev}{M n:Int}{A T l:List Ev}{k q r:Nat}{α:Type}
def Nu(a b:Int):Int:=if b>a then b else a
def aV.join(a b:aV):aV:=⟨Nu a.c0 b.c0,Nu a.c1 b.c1,Nu a.c2 b.c2,Nu a.c3 b.c3,Nu a.c4 b.c4⟩
def aV.le(a b:aV):Bool:=decide (a.c0<=b.c0/\a.c1<=b.c1/\a.c2<=b.c2/\a.c3<=b.c3/\a.c4<=b.c4)
def uo(c:aV)(s:Int×Bool)(e:Ev):Int×Bool:=if(hasB c e.r e.n&&(!s.2||decide (s.1<e.h)))=true then(e.h,true)else s
def RQ(c:aV)(l:List Ev):Int×Bool:=l.foldl (uo c) (0,false)
def hgt(l:List Ev)(c:aV):Int:=(RQ c l).1+1
theorem AP{β:Type}[Inhabited α]{f:β->α->β}{b:β}{l:List α}{j:Nat}(h:j<l.length):(l.take (j+1)).foldl f b=f ((l.take j).foldl f b) (l.getD j default):=by
 rw[apB,aom h,List.getD,aom h,apO];rfl
theorem KH{c:aV}{M:Int}(hM:0<=M):∀(l:List Ev),(∀e∈l,0<=e.h/\e.h<=M)-> ∀s:Int×Bool,0<=s.1/\s.1<=M->0<=(l.foldl (uo c) s).1/\(l.foldl (uo c) s).1<=M
 |[],_,s,hs=>hs
 |e::l,h,s,hs=>by
  rw[aqz];refine KH hM l (λ x hx=>h x (aoq _ hx)) _ ?_;unfold uo;split
  ·exact h e aol
  ·exact hs
theorem Je{c:aV}(hM:0<=M)(h:∀e∈l,0<=e.h/\e.h<=M):1<=hgt l c/\hgt l c<=M+1:=by
 have:=KH (c:=c) hM l h (0,false) ⟨s_,hM⟩;unfold hgt RQ;omega
def lW(H:Nat->aV)(r:Nat)(c:aV):Nat->aV:=λ i=>bif Nat.beq i r then c else H i
def aV.inc(c:aV):Nat->aV
 |0=>⟨c.c0+1,c.c1,c.c2,c.c3,c.c4⟩
 |1=>⟨c.c0,c.c1+1,c.c2,c.c3,c.c4⟩
 |2=>⟨c.c0,c.c1,c.c2+1,c.c3,c.c4⟩
 |3=>⟨c.c0,c.c1,c.c2,c.c3+1,c.c4⟩
 |_=>⟨c.c0,c.c1,c.c2,c.c3,c.c4+1⟩
abbrev Mk:=List Ev×(Nat->aV)
def Ch0.ed(c:Ch0):Ed:=⟨c.k,c.key,c.l,c.v⟩
def aj0(out:List Ev)(H:Nat->aV)(r:Nat)(x:Ed):Ev:=⟨(r:Int),(H r).at r+1,H r,hgt out (H r),x.k,x.key,x.l,x.v⟩
def akU(s:Mk)(r f:Nat):Mk:=(s.1,lW s.2 r ((s.2 r).join (s.2 f)))
def akV(s:Mk)(r:Nat)(x:Ed):Mk:=(s.1++[aj0 s.1 s.2 r x],lW s.2 r ((s.2 r).inc r))
def KI(s:Mk)(c:Ch0):Mk:=
 if c.sy=true then akU s (c.r%5).toNat (c.f%5).toNat else akV s (c.r%5).toNat (vT c.ed)
def aV.in(c:aV)(M:Int):Prop:=(0<=c.c0/\c.c0<=M)/\(0<=c.c1/\c.c1<=M)/\(0<=c.c2/\c.c2<=M)/\(0<=c.c3/\c.c3<=M)/\(0<=c.c4/\c.c4<=M)
def MkB(s:Mk)(n:Nat):Prop:=(∀q,(s.2 q).in n)/\(∀e∈s.1,0<=e.h/\e.h<=(n:Int))/\s.1.length<=n
theorem aV.in.mono{c:aV}{N:Int}(h:c.in M)(hMN:M<=N):c.in N:=by unfold aV.in at*;omega
theorem aV.in.join{a b:aV}{M:Int}(ha:a.in M)(hb:b.in M):(a.join b).in M:=by
 unfold aV.in at*;unfold aV.join Nu;simp only;refine⟨?_, ?_, ?_, ?_, ?_⟩<;>split<;>omega
theorem aV.in.inc{a:aV}{M:Int}(ha:a.in M):∀r,(a.inc r).in (M+1)
 |0=>by unfold aV.in aV.inc at*;simp only;omega
 |1=>by unfold aV.in aV.inc at*;simp only;omega
 |2=>by unfold aV.in aV.inc at*;simp only;omega
 |3=>by unfold aV.in aV.inc at*;simp only;omega
 |_+4=>by unfold aV.in aV.inc at*;simp only;omega
theorem Vh{P:aV->Prop}{H:Nat->aV}{c:aV}(h:∀q,P (H q))(hc:P c)(q:Nat):P (lW H r c q):=by
 unfold lW;cases Nat.beq q r with
 |true=>exact hc
 |false=>exact h q
theorem MkB.step{s:Mk}{n:Nat}(h:MkB s n)(c:Ch0):MkB (KI s c) (n+1):=by
 obtain⟨h1,h2,h3⟩:=h;have h1':∀q,(s.2 q).in ((n+1:Nat):Int):=λ q=>(h1 q).mono o_;unfold KI;split
 ·exact⟨λ q=>Vh (P:=λ c=>c.in ((n+1:Nat):Int)) h1' ((h1' _).join (h1' _)) q,λ e he=>by have:=h2 e he;omega,by show s.1.length<=_;omega⟩
 ·refine⟨λ q=>Vh (P:=λ c=>c.in ((n+1:Nat):Int)) h1' ?_ q,λ e he=>?_, ?_⟩
  ·have:=(h1 (c.r%5).toNat).inc (c.r%5).toNat;exact this.mono o_
  ·rcases aov.1 he with he|he
   ·have:=h2 e he;omega
   ·rw[aoo.1 he];have:=Je (c:=s.2 (c.r%5).toNat) (M:=n) o_ h2;show 0<=hgt s.1 (s.2 (c.r%5).toNat)/\hgt s.1 (s.2 (c.r%5).toNat)<=((n+1:Nat):Int);omega
  ·show(s.1++[_]).length<=_;rw[aop,List.length_singleton];omega
theorem get_at(c:aV):∀{r:Nat},r<5->c.get (r:Int)=c.at r
 |0,_=>rfl
 |1,_=>rfl
 |2,_=>rfl
 |3,_=>rfl
 |4,_=>rfl
 |_+5,h=>o_
theorem kM{c:aV}(h:r<5):hasB c (r:Int) n=true↔1<=n/\n<=c.at r:=by
 unfold hasB;rw[decide_eq_true_eq,get_at c h];omega
theorem Jf(a b:aV):∀r,(a.join b).at r=Nu (a.at r) (b.at r)
 |0=>rfl
 |1=>rfl
 |2=>rfl
 |3=>rfl
 |_+4=>rfl
theorem oO(c:aV):∀{r q:Nat},r<5->q<5->(c.inc r).at q=if q=r then c.at q+1 else c.at q:=by
 intro r q hr hq;obtain rfl|rfl|rfl|rfl|rfl:r=0\/r=1\/r=2\/r=3\/r=4:=o_
 all_goals(obtain rfl|rfl|rfl|rfl|rfl:q=0\/q=1\/q=2\/q=3\/q=4:=o_)
 all_goals rfl
theorem aeX{a b:aV}:a.le b=true↔ ∀r,r<5->a.at r<=b.at r:=by
 unfold aV.le;rw[decide_eq_true_eq];constructor
 ·rintro⟨h0,h1,h2,h3,h4⟩ r hr;obtain rfl|rfl|rfl|rfl|rfl:r=0\/r=1\/r=2\/r=3\/r=4:=o_
  all_goals assumption
 ·intro h;exact⟨h 0 o_,h 1 o_,h 2 o_,h 3 o_,h 4 o_⟩
theorem lK{H:Nat->aV}{c:aV}:lW H r c q=if q=r then c else H q:=by
 unfold lW;by_cases h:q=r
 ·rw[if_pos h,h,aqW];rfl
 ·rw[if_neg h,show Nat.beq q r=false from by rw[aoU];intro e;exact h (aos e)];rfl
theorem amj{a b c:Int}(h:a<=c)(k:b<=c):Nu a b<=c:=by unfold Nu;split<;>omega
theorem aeY(a b:Int):a<=Nu a b:=by unfold Nu;split<;>omega
theorem amk(a b:Int):b<=Nu a b:=by unfold Nu;split<;>omega
theorem Et{c:aV}:∀(l:List Ev)(s:Int×Bool),s.2=true->s.1<=(l.foldl (uo c) s).1/\(l.foldl (uo c) s).2=true
 |[],s,h=>⟨apP _,h⟩
 |e::l,s,h=>by
  rw[aqz];by_cases k:(hasB c e.r e.n&&(!s.2||decide (s.1<e.h)))=true
  ·have e1:uo c s e=(e.h,true):=if_pos k;rw[e1];have:=Et (c:=c) l (e.h,true) rfl;simp only[h,Bool.not_true,Bool.false_or,aon,decide_eq_true_eq]at k;exact⟨by have:=this.1;simp only at this;omega,this.2⟩
  ·have e1:uo c s e=s:=if_neg k;rw[e1];exact Et l s h
theorem aeZ{c:aV}{e:Ev}:∀(l:List Ev)(s:Int×Bool),e∈l->hasB c e.r e.n=true->e.h<=(l.foldl (uo c) s).1
 |[],_,h,_=>by cases h
 |x::l,s,h,hh=>by
  rw[aqz];rcases aot.1 h with rfl|h
  ·by_cases k:(hasB c e.r e.n&&(!s.2||decide (s.1<e.h)))=true
   ·have e1:uo c s e=(e.h,true):=if_pos k;rw[e1];exact(Et (c:=c) l (e.h,true) rfl).1
   ·have e1:uo c s e=s:=if_neg k;rw[e1];have k':s.2=true/\e.h<=s.1:=by
     rw[hh]at k;simp only[aqA,apf,aoX,decide_eq_true_eq,not_or,aqD,Int.not_lt]at k;exact k
    have:=(Et (c:=c) l s k'.1).1;omega
  ·exact aeZ l _ h hh
theorem ae0{c:aV}(he:e∈l)(hh:hasB c e.r e.n=true):e.h<hgt l c:=by
 have:=aeZ l (0,false) he hh;unfold hgt RQ;omega
structure Fine(e:Ev):Prop where
 k:1<=e.k/\e.k<=5
 key:e.key.size<=8
 l:e.l=0\/e.l=1
 v:e.v.size<=12
structure Inv(T:List Ev)(H:Nat->aV):Prop where
 ev:∀e∈T,∃r:Nat,r<5/\e.r=(r:Int)/\1<=e.n/\e.n<=(H r).at r/\e.c.at r=e.n-1
 ge:∀q:Nat,q<5-> ∀r:Nat,r<5->0<=(H q).at r/\(H q).at r<=(H r).at r
 all:∀r:Nat,r<5-> ∀n:Int,1<=n->n<=(H r).at r-> ∃e∈T,e.r=(r:Int)/\e.n=n
 clo:∀q:Nat,q<5-> ∀e∈T,hasB (H q) e.r e.n=true-> ∀r:Nat,r<5->e.c.at r<=(H q).at r
 own:∀e∈T,∀r:Nat,r<5->0<=e.c.at r/\e.c.at r<=(H r).at r
 dis:T.Pairwise λ a b=> ¬ (a.r=b.r/\a.n=b.n)
 ord:T.Pairwise λ a b=>aP b a=false
 hgt:∀a∈T,∀b∈T,aP a b=true->a.h<b.h
 pre:∀T1 e T2,T=T1++e::T2-> ∀r:Nat,r<5-> ∀n:Int,1<=n->n<=e.c.at r-> ∃x∈T1,x.r=(r:Int)/\x.n=n
 fine:∀e∈T,Fine e
theorem Inv.nil:Inv [] (λ _=>aW):=by
 have h0:∀r,aW.at r=0:=λ r=>match r with|0=>rfl|1=>rfl|2=>rfl|3=>rfl|_+4=>rfl
 exact⟨λ e h=>(by cases h),λ q _ r _=>⟨by rw[h0];omega,o_⟩,λ r _ n h1 h2=>by rw[h0]at h2;omega,λ _ _ e h=>(by cases h),λ e h=>(by cases h),.nil,.nil,λ a h=>(by cases h),λ T1 e T2 h=>(by simp at h),λ e h=>(by cases h)⟩
section
variable{T:List Ev}{H:Nat->aV}
theorem Inv.sync(h:Inv T H){r f:Nat}(hr:r<5)(hf:f<5):Inv T (lW H r ((H r).join (H f))):=by
 have hj:∀q,(lW H r ((H r).join (H f)) q)=if q=r then(H r).join (H f)else H q:=λ q=>lK
 have dg:∀q,q<5->(lW H r ((H r).join (H f)) q).at q=(H q).at q:=λ q hq=>by
  rw[hj];split
  ·rename_i e;subst e;rw[Jf];have:=(h.ge f hf q hq).2;unfold Nu;split<;>omega
  ·rfl
 refine⟨λ e he=>?_,λ q hq p hp=>?_,λ p hp n h1 h2=>?_,λ q hq e he hh p hp=>?_,λ e he p hp=>?_,h.dis,h.ord,h.hgt,h.pre,h.fine⟩
 ·obtain⟨p,h1,h2,h3,h4,h5⟩:=h.ev e he;exact⟨p,h1,h2,h3,by rw[dg p h1];exact h4,h5⟩
 ·rw[dg p hp,hj];split
  ·rw[Jf];have a:=h.ge r hr p hp;have b:=h.ge f hf p hp;have:=aeY ((H r).at p) ((H f).at p);exact⟨o_,amj a.2 b.2⟩
  ·exact h.ge q hq p hp
 ·rw[dg p hp]at h2;exact h.all p hp n h1 h2
 ·rw[hj]at hh⊢;split
  ·rename_i e1;rw[if_pos e1]at hh;obtain⟨p',h1,h2,h3,h4,h5⟩:=h.ev e he;rw[h2]at hh;rw[kM h1,Jf]at hh;rw[Jf];have ml:=aeY ((H r).at p) ((H f).at p);have mr:=amk ((H r).at p) ((H f).at p);rcases(show e.n<=(H r).at p'\/e.n<=(H f).at p' by have:=hh.2;unfold Nu at this;split at this<;>omega)with k|k
   ·have:=h.clo r hr e he (by rw[h2];exact(kM h1).2 ⟨hh.1,k⟩) p hp;omega
   ·have:=h.clo f hf e he (by rw[h2];exact(kM h1).2 ⟨hh.1,k⟩) p hp;omega
  ·rename_i e1;rw[if_neg e1]at hh;exact h.clo q hq e he hh p hp
 ·rw[dg p hp];exact h.own e he p hp
theorem Inv.aj1(h:Inv T H){r:Nat}(hr:r<5){y:Ev}(er:y.r=(r:Int))(en:y.n=(H r).at r+1)(ec:y.c=H r)(eh:∀a∈T,hasB (H r) a.r a.n=true->a.h<y.h)(ef:Fine y):Inv (T++[y]) (lW H r ((H r).inc r)):=by
 have hj:∀q,(lW H r ((H r).inc r) q)=if q=r then(H r).inc r else H q:=λ q=>lK
 have dg:∀q,q<5->(lW H r ((H r).inc r) q).at q=if q=r then(H q).at q+1 else(H q).at q:=λ q hq=>by
  rw[hj];split
  ·rename_i e;subst e;rw[oO _ hr hr,if_pos rfl]
  ·rfl
 have dle:∀q,q<5->(H q).at q<=(lW H r ((H r).inc r) q).at q:=λ q hq=>by rw[dg q hq];split<;>omega
 have nb:∀b∈T,aP y b=false:=λ b hb=>by
  unfold aP;rw[er,aoU];intro k;rw[kM hr]at k;have:=(h.own b hb r hr).2;omega
 have ny:aP y y=false:=by
  unfold aP;rw[er,aoU];intro k;rw[kM hr,ec]at k;omega
 refine⟨λ e he=>?_,λ q hq p hp=>?_,λ p hp n h1 h2=>?_,λ q hq e he hh p hp=>?_,λ e he p hp=>?_, ?_, ?_,λ a ha b hb hab=>?_,λ T1 e T2 e0 p hp n h1 h2=>?_,λ e he=>?_⟩
 ·rcases aov.1 he with he|he
  ·obtain⟨p,h1,h2,h3,h4,h5⟩:=h.ev e he;exact⟨p,h1,h2,h3,by have:=dle p h1;omega,h5⟩
  ·rw[aoo.1 he];refine⟨r,hr,er,by rw[en];have:=(h.ge r hr r hr).1;omega,by rw[en,dg r hr,if_pos rfl];omega,by rw[ec,en];omega⟩
 ·have:=dle p hp;have a:=h.ge q hq p hp;rw[hj];split
  ·rename_i e;subst e;rw[oO _ hr hp];rw[dg p hp]at*;split<;>omega
  ·omega
 ·by_cases e:p=r
  ·subst e;rw[dg p hp,if_pos rfl]at h2;by_cases k:n<=(H p).at p
   ·obtain⟨e,he,h3⟩:=h.all p hp n h1 k;exact⟨e,aov.2 (.inl he),h3⟩
   ·exact⟨y,aov.2 (.inr (aoo.2 rfl)),er,by rw[en];omega⟩
  ·rw[dg p hp,if_neg e]at h2;obtain⟨e,he,h3⟩:=h.all p hp n h1 h2;exact⟨e,aov.2 (.inl he),h3⟩
 ·rw[hj]at hh⊢;rcases aov.1 he with he|he
  ·obtain⟨p',k1,k2,k3,k4,k5⟩:=h.ev e he;by_cases e1:q=r
   ·rw[if_pos e1]at hh⊢;rw[k2,kM k1,oO _ hr k1]at hh;rw[oO _ hr hp];have hk:hasB (H r) e.r e.n=true:=by
     rw[k2];refine(kM k1).2 ⟨k3, ?_⟩;by_cases e2:p'=r
     ·subst e2;omega
     ·rw[if_neg e2]at hh;exact hh.2
    have:=h.clo r hr e he hk p hp;split<;>omega
   ·rw[if_neg e1]at hh⊢;exact h.clo q hq e he hh p hp
  ·rw[aoo.1 he]at hh⊢;rw[er,kM hr,en]at hh;by_cases e1:q=r
   ·rw[if_pos e1,ec,oO _ hr hp];split<;>omega
   ·rw[if_neg e1]at hh;have:=(h.ge q hq r hr).2;omega
 ·rcases aov.1 he with he|he
  ·have:=h.own e he p hp;have:=dle p hp;omega
  ·rw[aoo.1 he,ec];have:=h.ge r hr p hp;have:=dle p hp;omega
 ·refine apw.2 ⟨h.dis,apI _ _,λ a ha b hb=>?_⟩;rw[aoo.1 hb];rintro⟨k1,k2⟩;obtain⟨p,h1,h2,h3,h4,h5⟩:=h.ev a ha;rw[er,h2]at k1;have:p=r:=o_
  subst this;omega
 ·refine apw.2 ⟨h.ord,apI _ _,λ a ha b hb=>?_⟩;rw[aoo.1 hb];exact nb a ha
 ·rcases aov.1 ha with ha|ha
  ·rcases aov.1 hb with hb|hb
   ·exact h.hgt a ha b hb hab
   ·rw[aoo.1 hb]at hab⊢;unfold aP at hab;rw[ec]at hab;exact eh a ha hab
  ·rw[aoo.1 ha]at hab;rcases aov.1 hb with hb|hb
   ·rw[nb b hb]at hab;cases hab
   ·rw[aoo.1 hb,ny]at hab;cases hab
 ·rcases List.append_eq_append_iff.1 e0 with⟨us,e1,e2⟩|⟨bs,e1,e2⟩
  ·cases us with
   |nil=>
    simp only[aoN,aqm]at e2;rw[aor]at e1;subst e1;rw[<-e2.1,ec]at h2;have:=(h.ge r hr p hp).2;exact h.all p hp n h1 o_
   |cons a us=>
    simp only[ao6,aqm]at e2;exact absurd e2.2.symm s_
  ·cases bs with
   |nil=>
    simp only[aoN,aqm]at e2;rw[aor]at e1;subst e1;rw[e2.1,ec]at h2;have:=(h.ge r hr p hp).2;exact h.all p hp n h1 o_
   |cons b bs=>
    simp only[ao6,aqm]at e2;obtain⟨rfl,-⟩:=e2;exact h.pre T1 e bs e1 p hp n h1 h2
 ·rcases aov.1 he with he|he
  ·exact h.fine e he
  ·rw[aoo.1 he];exact ef
theorem Inv.edit(h:Inv T H){r:Nat}(hr:r<5){x:Ed}(hx:∀(rr n:Int)(c:aV)(hh:Int),Fine ⟨rr,n,c,hh,x.k,x.key,x.l,x.v⟩):Inv (T++[aj0 T H r x]) (lW H r ((H r).inc r)):=h.aj1 hr rfl rfl rfl (λ _ ha hh=>ae0 ha hh) (hx _ _ _ _)
end
theorem ae1(x:Ed)(rr n:Int)(c:aV)(hh:Int):Fine ⟨rr,n,c,hh,(vT x).k,(vT x).key,(vT x).l,(vT x).v⟩:=by
 have h5:0<=m5 x.k/\m5 x.k<=4:=by
  unfold m5;have:=ajX x.k;omega
 have hk:(ks3 (uX x.key.data.toList)).size<=3:=by unfold ks3;split;exact aoH 3;split;exact aoH 3;exact(show 2<=3 by omega)
 have hv:(vs4 (uX x.v.data.toList)).size<=12:=by
  unfold vs4;split
  ·exact(show 1<=12 by omega)
  ·split
   ·exact(show 3<=12 by omega)
   ·split
    ·exact(show 2<=12 by omega)
    ·exact aoH 12
 have hl:=akS x.l;unfold vT;split
 ·exact⟨⟨by simp only;omega,by simp only;omega⟩,ao7 hk d_,by simp only;omega,hv⟩
 ·exact⟨⟨by simp only;omega,by simp only;omega⟩,ao7 hk d_,.inl rfl,aoB _⟩
theorem KJ{x:Int}:(x%5).toNat<5:=o_
theorem Inv.step{H:Nat->aV}(h:Inv T H)(c:Ch0):Inv (KI (T,H) c).1 (KI (T,H) c).2:=by
 unfold KI;split
 ·exact h.sync KJ KJ
 ·exact h.edit KJ (ae1 _)
def nX(p:ByteArray->Bool)(l:List Ev):List Ev:=l.filter λ x=>p x.key
theorem ae2{q f:α->Bool}{l:List α}(h:∀x∈l,f x=true->q x=true):(l.filter q).any f=l.any f:=by
 rw[aqr];refine any_congr λ x hx=>?_;cases hf:f x with
 |false=>simp
 |true=>simp[h x hx hf]
theorem Gf(h:gu a b=true):a.key=b.key:=of_decide_eq_true h
theorem O1(h:tY a b=true):a.key=b.key:=by
 simp only[tY,aon]at h;exact Gf h.1
theorem O4(h:lJ a b=true):a.key=b.key:=by
 simp only[lJ,aon]at h;exact O1 h.1
section
variable{p:ByteArray->Bool}{l:List Ev}{e:Ev}
theorem Eu{k:Int}{same:Ev->Ev->Bool}(hs:∀a b,same a b=true->a.key=b.key)(he:p e.key=true):fM k same (nX p l) e=fM k same l e:=
 ae2 λ x _ h=>by
  simp only[aon]at h;rw[hs _ _ h.2.1];exact he
theorem ae3{k:Int}{same:Ev->Ev->Bool}(hs:∀a b,same a b=true->a.key=b.key)(he:p e.key=true):gU k same (nX p l) e=gU k same l e:=
 ae2 λ x _ h=>by
  simp only[aon]at h;rw[hs _ _ h.2.1];exact he
theorem ae4(he:p e.key=true):bU (nX p l) e=bU l e:=by unfold bU;rw[Eu (λ _ _=>Gf) he]
theorem AQ:aF (nX p l)=nX p (aF l):=by
 unfold aF nX;rw[ao8,ao8];refine ao4 λ x _=>?_;cases h:p x.key with
 |false=>simp
 |true=>
  have h2:bU (l.filter λ x=>p x.key) x=bU l x:=ae4 h;rw[h2,aq3]
theorem ae5(he:p e.key=true):countB (nX p l) (aF (nX p l)) e=countB l (aF l) e:=by
 unfold countB;rw[AQ,Eu (λ _ _=>O4) he,ae3 (λ _ _=>Gf) he]
theorem Hr:bg (nX p l) (aF (nX p l))=nX p (bg l (aF l)):=by
 have h:∀e,p e.key=true->countB (nX p l) (aF (nX p l)) e=countB l (aF l) e:=λ e he=>ae5 he;unfold bg;generalize countB (nX p l) (aF (nX p l))=f at h;unfold nX;rw[ao8,ao8];refine ao4 λ x _=>?_;cases hp:p x.key with
 |false=>simp
 |true=>rw[h x hp,aq3]
theorem ae6(he:p e.key=true):eX (nX p l) e=eX l e:=by
 unfold eX;split
 ·exact Eu (λ _ _=>O4) he
 ·exact Eu (λ _ _=>O1) he
theorem aby(b:ByteArray):(⟨(dU b).toArray⟩:ByteArray)=b:=by obtain⟨a⟩:=b;simp[dU]
theorem O5{key:ByteArray}{ws:List Ev}{f:Ev->Bool}(hk:p key=true)(hf:∀e,f e=true->e.key=key):(nX p ws).filter f=ws.filter f:=by
 unfold nX;rw[ao8];refine ao4 λ x _=>?_;cases h:f x with
 |false=>simp
 |true=>rw[hf x h,hk];rfl
theorem Yq{key:ByteArray}{ws:List Ev}(hk:p key=true):dV key (nX p ws)=dV key ws:=by
 have h1:∀n,dW key n (nX p ws)=dW key n ws:=λ n=>O5 hk λ e h=>by
  simp only[Ve,aon,decide_eq_true_eq]at h;exact h.1.1
 have h2:∀n,gY key n (nX p ws)=gY key n ws:=λ n=>O5 hk λ e h=>by
  simp only[Ve,aon,decide_eq_true_eq]at h;exact h.1.1
 unfold dV;rw[h1,h1,h2,h2]
theorem RS{α:Type}{q:α->Bool}:∀l:List α,(l.filter q).length+(l.filter λ x=> !q x).length=l.length
 |[]=>rfl
 |x::l=>by
  have:=RS (q:=q) l;rw[apo,apo];cases q x<;>simp<;>omega
theorem aai:qF (nX p l)=((aF l).filter λ e=>p e.key).length+(((bg l (aF l)).filter λ e=> !eX l e).filter λ e=>p e.key).length:=by
 unfold qF;rw[Hr,AQ];congr 2;unfold nX;rw[ao8,ao8];refine ao4 λ x _=>?_;cases h:p x.key with
 |false=>simp
 |true=>
  have h2:eX (l.filter λ x=>p x.key) x=eX l x:=ae6 h;rw[h2,aq3]
theorem size_two:qF l=qF (nX p l)+qF (nX (λ k=> !p k) l):=by
 rw[aai,aai,qF];have h1:=RS (q:=λ e:Ev=>p e.key) (aF l);have h2:=RS (q:=λ e:Ev=>p e.key) ((bg l (aF l)).filter λ e=> !eX l e);omega
end
theorem oP(a b:St):kG a b=true↔a.1<b.1\/(a.1=b.1/\a.2<b.2):=by
 unfold kG;split
 ·rename_i h;simp only[decide_eq_true_eq];omega
 ·rename_i h;simp only[decide_eq_true_eq];omega
theorem Ew:∀(l:List St)(m:St),¬kG (rO m l) m=true/\ ∀x∈l,¬kG (rO m l) x=true
 |[],m=>by
  refine⟨λ h=>?_,λ x hx=>absurd hx s_⟩;have:=(oP m m).1 h;omega
 |x::l,m=>by
  obtain⟨h1,h2⟩:=Ew l (if kG m x=true then x else m);show¬kG (rO (if kG m x=true then x else m) l) m=true/\ ∀y∈x::l,¬kG (rO (if kG m x=true then x else m) l) y=true;generalize rO (if kG m x=true then x else m) l=t at h1 h2;have h3:¬kG t m=true/\ ¬kG t x=true:=by
   split at h1
   ·rename_i hmx;rw[oP]at hmx h1;refine⟨?_,by rw[oP];exact h1⟩;rw[oP];omega
   ·rename_i hmx;rw[oP]at hmx h1;refine⟨by rw[oP];exact h1, ?_⟩;rw[oP];omega
  refine⟨h3.1,λ y hy=>?_⟩;rcases aot.1 hy with rfl|hy
  ·exact h3.2
  ·exact h2 y hy
theorem Vj{l l':List α}(h:l.Perm l')(f:α->Bool):l.any f=l'.any f:=by
 rw[Bool.eq_iff_iff,aps,aps];exact⟨λ⟨x,hx,k⟩=>⟨x,h.mem_iff.1 hx,k⟩,λ⟨x,hx,k⟩=>⟨x,h.mem_iff.2 hx,k⟩⟩
theorem ant{l:List Str}{i:Nat}(h:i<l.length):l.getD i []=l[i]:=by rw[List.getD,aom h];rfl
theorem Ey(h:¬A.length=0):∃e∈A,lU A=e.v/\dB e=rO ((A.map dB).getD 0 default) (A.map dB):=by
 have hlt:=Ep (l:=A.map dB) (by intro e;exact h (by rw[<-aoO (f:=dB),e];rfl));have hg:=List.findIdx_getElem (p:=λ s=>decide (s=rO ((A.map dB).getD 0 default) (A.map dB))) (xs:=A.map dB) (w:=hlt);have hlt':=hlt;rw[aoO]at hlt;refine⟨A[Eo (A.map dB)],ao1 hlt, ?_, ?_⟩
 ·rw[lU,if_neg h,ant (by rw[aoO];exact hlt),List.getElem_map,aby]
 ·have:=of_decide_eq_true hg;have e2:(A.map dB)[Eo (A.map dB)]'hlt'=dB (A[Eo (A.map dB)]):=List.getElem_map ..;exact e2.symm.trans this
def oQ(l:List Ev):Prop:= ∀a∈l,∀b∈l,dB a=dB b->a=b
theorem aij{a b:St}(h:¬kG a b=true)(k:¬kG b a=true):a=b:=by
 rw[oP]at h k;obtain⟨a1,a2⟩:=a;obtain⟨b1,b2⟩:=b;simp only at h k;have:a1=b1:=o_
 have:a2=b2:=o_
 simp[*]
theorem O6(hd:oQ A)(he:e∈A)(hm:∀x∈A,¬kG (dB e) (dB x)=true):lU A=e.v:=by
 have h0:¬A.length=0:=by
  intro h;rw[apr]at h;rw[h]at he;cases he
 obtain⟨x,hx,e1,e2⟩:=Ey h0;have ht:=Ew (A.map dB) ((A.map dB).getD 0 default);rw[<-e2]at ht;have:=aij (hm x hx) (ht.2 (dB e) (aoR.2 ⟨e,he,rfl⟩));rw[e1,hd e he x hx this]
theorem Yr{B:List Ev}(h:A.Perm B)(hd:oQ A):lU A=lU B:=by
 by_cases h0:A.length=0
 ·have h1:B.length=0:=by rw[<-h.length_eq];exact h0
  rw[lU,lU,if_pos h0,if_pos h1]
 ·obtain⟨x,hx,e1,e2⟩:=Ey h0;have ht:=Ew (A.map dB) ((A.map dB).getD 0 default);rw[<-e2]at ht;rw[e1];exact(O6 (λ a ha b hb=>hd a (h.mem_iff.2 ha) b (h.mem_iff.2 hb)) (h.mem_iff.1 hx) λ y hy=>ht.2 _ (aoR.2 ⟨y,h.mem_iff.2 hy,rfl⟩)).symm
section
variable{l l':List Ev}
theorem KL(h:l.Perm l')(k:Int)(same:Ev->Ev->Bool):fM k same l=fM k same l':=funext λ _=>Vj h _
theorem Yt(h:l.Perm l')(k:Int)(same:Ev->Ev->Bool):gU k same l=gU k same l':=funext λ _=>Vj h _
theorem Ht(h:l.Perm l'):(aF l).Perm (aF l'):=by
 have:bU l=bU l':=funext λ e=>by unfold bU;rw[KL h]
 unfold aF;rw[this];exact h.filter _
theorem NJ(h:l.Perm l'):(bg l (aF l)).Perm (bg l' (aF l')):=by
 have:countB l (aF l)=countB l' (aF l'):=funext λ e=>by unfold countB;rw[KL h,Yt (Ht h)]
 unfold bg;rw[this];exact h.filter _
theorem RU(h:l.Perm l')(hd:oQ l)(key:ByteArray):dV key l=dV key l':=by
 have h1:∀n,(dW key n l).Perm (dW key n l'):=λ n=>h.filter _;have h2:∀n,valsF (gY key n l)=valsF (gY key n l'):=λ n=>by
  have:=h.filter (λ e=>Ve key n e&& !decide (e.k=3));exact yV λ x=>(this.map λ e=>dU e.v).mem_iff
 have h3:∀n,IB (dW key n l)=IB (dW key n l'):=λ n=>by unfold IB;rw[(h1 n).length_eq]
 have h4:∀n,lU (dW key n l)=lU (dW key n l'):=λ n=>Yr (h1 n) λ a ha b hb=>hd a (aoA.1 ha).1 b (aoA.1 hb).1;unfold dV;rw[h2,h2,h3,h3,h4,h4]
theorem aik(h:l.Perm l')(hd:oQ l):pz l=pz l':=by
 have hk:keysB l=keysB l':=yV λ x=>((Ht h).map λ e=>dU e.key).mem_iff;unfold pz;rw[hk];exact List.map_congr_left λ k _=>RU (NJ h) (λ a ha b hb=>hd a (aoA.1 ha).1 b (aoA.1 hb).1) _
end
theorem ail{R:α->α->Prop}{l:List α}(h:l.Pairwise λ a b=> ¬R a b)(hs:∀a b,R a b->R b a){a b:α}(ha:a∈l)(hb:b∈l)(hr:R a b):a=b:=by
 obtain⟨i,hi,rfl⟩:=ape ha;obtain⟨j,hj,rfl⟩:=ape hb;rcases Nat.lt_trichotomy i j with k|k|k
 ·exact absurd hr (aqj.1 h i j hi hj k)
 ·subst k;rfl
 ·exact absurd (hs _ _ hr) (aqj.1 h j i hj hi k)
theorem Inv.mark{H:Nat->aV}(h:Inv T H)(ha:a∈T)(hb:b∈T)(hr:a.r=b.r)(hn:a.n=b.n):a=b:=
 ail (R:=λ a b=>a.r=b.r/\a.n=b.n) h.dis (λ _ _ k=>⟨k.1.symm,k.2.symm⟩) ha hb ⟨hr,hn⟩
theorem Inv.stamp{H:Nat->aV}(h:Inv T H):oQ T:=λ a ha b hb e=>by
 obtain⟨p,a1,a2,a3,a4,a5⟩:=h.ev a ha;obtain⟨q,b1,b2,b3,b4,b5⟩:=h.ev b hb;have eh:a.h=b.h:=congrArg Prod.fst e;have er:a.r=b.r:=congrArg Prod.snd e;have epq:p=q:=by rw[a2,b2]at er;omega
 subst epq;rcases Int.lt_trichotomy a.n b.n with k|k|k
 ·have:=h.hgt a ha b hb (by unfold aP;rw[a2];exact(kM a1).2 ⟨a3,o_⟩);omega
 ·exact h.mark ha hb er k
 ·have:=h.hgt b hb a ha (by unfold aP;rw[b2];exact(kM a1).2 ⟨b3,o_⟩);omega
structure Spr where
 (out left:List Ev)(hv:aV)
def aml(left:List Ev)(h:aV)(k:Nat):Bool:=(left.getD k default).c.le h
def akW(left:List Ev)(h:aV):List Nat:=(List.range left.length).filter (aml left h)
def aV.top(c:aV):Nat->Int->aV
 |0,n=>⟨Nu c.c0 n,c.c1,c.c2,c.c3,c.c4⟩
 |1,n=>⟨c.c0,Nu c.c1 n,c.c2,c.c3,c.c4⟩
 |2,n=>⟨c.c0,c.c1,Nu c.c2 n,c.c3,c.c4⟩
 |3,n=>⟨c.c0,c.c1,c.c2,Nu c.c3 n,c.c4⟩
 |_,n=>⟨c.c0,c.c1,c.c2,c.c3,Nu c.c4 n⟩
theorem RV(c:aV)(n:Int)(hr:r<5)(hq:q<5):(c.top r n).at q=if q=r then Nu (c.at q) n else c.at q:=by
 obtain rfl|rfl|rfl|rfl|rfl:r=0\/r=1\/r=2\/r=3\/r=4:=o_
 all_goals(obtain rfl|rfl|rfl|rfl|rfl:q=0\/q=1\/q=2\/q=3\/q=4:=o_)
 all_goals rfl
def aaj(s:Spr)(k:Nat):Spr:=⟨s.out++[s.left.getD k default],s.left.take k++s.left.drop (k+1),s.hv.top (s.left.getD k default).r.toNat (s.left.getD k default).n⟩
structure aak(W:List Ev)(s:Spr):Prop where
 perm:(s.out++s.left).Perm W
 sub:s.left.Sublist W
 hv:∀e∈s.out,∀r:Nat,r<5->e.r=(r:Int)->e.n<=s.hv.at r
 pos:∀r:Nat,r<5->0<=s.hv.at r
theorem ain{left:List Ev}{h:aV}:k∈akW left h↔k<left.length/\aml left h k=true:=by
 unfold akW;rw[aoA,ap4]
theorem aio{l:List α}(h:k<l.length):(l[k]::l.eraseIdx k).Perm l:=by
 rw[aql];refine apK.symm.trans ?_;rw[<-apJ h,apu]
theorem aak.at{W:List Ev}{H:Nat->aV}(hI:Inv W H){s:Spr}(h:aak W s){k:Nat}(hk:k<s.left.length):aak W (aaj s k):=by
 obtain⟨out,left,hv⟩:=s;obtain⟨h1,h2,h3,h4⟩:=h;simp only at h1 h2 h3 h4 hk;have hg:left.getD k default=left[k]:=by rw[List.getD,aom hk];rfl
 have he:left.take k++left.drop (k+1)=left.eraseIdx k:=(aql ..).symm;have hm:left[k]∈W:=h2.subset (ao1 hk);obtain⟨p,p1,p2,_⟩:=hI.ev _ hm;have ep:left[k].r.toNat=p:=by rw[p2];omega
 unfold aaj;simp only[hg,he,ep];refine⟨?_,(List.eraseIdx_sublist ..).trans h2,λ e hx r hr h5=>?_,λ r hr=>?_⟩
 ·have:=(aio hk).append_left out;refine(List.Perm.trans ?_ this).trans h1;rw[aoL];exact .refl _
 ·show e.n<=(hv.top p left[k].n).at r;rw[RV _ _ p1 hr];have hx:e∈out++[left[k]]:=hx;rcases aov.1 hx with hx|hx
  ·have:=h3 e hx r hr h5;split
   ·have:=aeY (hv.at r) left[k].n;omega
   ·exact this
  ·rw[aoo.1 hx]at h5⊢;have:r=p:=by rw[p2]at h5;omega
   rw[if_pos this];exact amk _ _
 ·show 0<=(hv.top p left[k].n).at r;rw[RV _ _ p1 hr];have:=h4 r hr;split
  ·have:=aeY (hv.at r) left[k].n;omega
  ·exact this
def woP(key:ByteArray)(c:Cont):Bool:= !decide (c.key=key)
def woL(l:List Cont)(key:ByteArray):List Cont:=l.filter (woP key)
def ae7(l:List Cont)(key:ByteArray):Nat:=l.findIdx λ c=>decide (c.key=key)
def uY(l:List Cont)(key:ByteArray):Int:=if ae7 l key<l.length then(ae7 l key:Int)else-1
def eqK(key:ByteArray):ByteArray->Bool:=λ k=>decide (k=key)
theorem ae8:uniq []=[]:=List.eq_nil_iff_forall_not_mem.2 λ x hx=>by
 have:=((jG []).2 x).1 hx;cases this
theorem of_same(h:∀x∈l,x.key=key):pz l=if aF l=[]then []else [dV key (bg l (aF l))]:=by
 have hk:keysB l=uniq ((aF l).map λ e=>dU e.key):=rfl;by_cases h0:aF l=[]
 ·rw[if_pos h0];unfold pz;rw[hk,h0,ap1,ae8];rfl
 ·rw[if_neg h0];have e:keysB l=[dU key]:=by
   rw[hk];refine Ai (jG _).1 (apI _ _) λ x=>?_;rw[(jG _).2,aoo,aoR];constructor
   ·rintro⟨y,hy,rfl⟩;rw[h y (aoA.1 hy).1]
   ·rintro rfl;obtain⟨y,hy⟩:=aqF _ h0;exact⟨y,hy,by rw[h y (aoA.1 hy).1]⟩
  unfold pz;rw[e,List.map_singleton,aby]
theorem RX:∀x∈nX (eqK key) l,x.key=key:=λ x hx=>by
 have:=(aoA.1 hx).2;exact of_decide_eq_true this
structure CR(e:Ev)(a b:Cont):Prop where
 an1:e.l=0->a.h1=b.h1/\a.f1=b.f1/\a.s1.length=b.s1.length
 an2:e.l=1->a.h0=b.h0/\a.f0=b.f0/\a.s0.length=b.s0.length
 set0:e.k=3->e.l=0->b.h0=true/\b.f0=e.v/\a.s0.length=b.s0.length
 set1:e.k=3->e.l=1->b.h1=true/\b.f1=e.v/\a.s1.length=b.s1.length
 oth:e.k≠3->(a.h0=b.h0/\a.h1=b.h1)/\(a.f0=b.f0/\a.f1=b.f1)
 in0:e.k≠3->e.l=0->(dU e.v∈b.s0↔e.k=4)
 in1:e.k≠3->e.l=1->(dU e.v∈b.s1↔e.k=4)
structure anW(A B:List Cont)(e:Ev):Prop where
 wo:woL A e.key=woL B e.key
 two:e.k=2->uY B e.key= -1
 one:e.k=1->0<=uY B e.key
 more:3<=e.k->(uY A e.key= -1/\uY B e.key= -1)\/
  (∃a b,(0<=uY A e.key/\uY A e.key<(A.length:Int)/\A.getD (uY A e.key).toNat default=a)/\(0<=uY B e.key/\uY B e.key<(B.length:Int)/\B.getD (uY B e.key).toNat default=b)/\CR e a b)
section
variable{l:List Ev}{e:Ev}
theorem kN{k:Int}{same:Ev->Ev->Bool}{x:Ev}:fM k same (l++[e]) x=(fM k same l x||(decide (e.k=k)&&(same e x&&aP x e))):=by
 unfold fM;rw[List.any_append];simp
theorem O7{k:Int}{same:Ev->Ev->Bool}(non:∀x∈l,aP e x=false):fM k same l e=false:=by
 unfold fM;rw[aqB];intro x hx;rw[non x hx];simp
structure abz(l:List Ev)(e:Ev):Prop where
 key:∀x∈l,x.key=e.key
 all:∀x∈l,aP x e=true
 non:∀x∈l,aP e x=false
 self:aP e e=false
 hi:∀x∈l,x.h<e.h
 one:oQ (l++[e])
variable(t:abz l e)
include t
theorem abz.keys:∀x∈l++[e],x.key=e.key:=λ x hx=>by
 rcases aov.1 hx with hx|hx
 ·exact t.key x hx
 ·rw[aoo.1 hx]
theorem abz.Ez:bU (l++[e]) e=decide (e.k=1):=by
 unfold bU;rw[kN,O7 t.non,t.self];simp
theorem abz.vV{x:Ev}(hx:x∈l):bU (l++[e]) x=(bU l x&& !decide (e.k=2)):=by
 have:gu e x=true:=decide_eq_true (t.key x hx).symm;unfold bU;rw[kN,this,t.all x hx];cases fM 2 gu l x<;>cases decide (x.k=1)<;>simp
theorem abz.living:aF (l++[e])=(if e.k=2 then []else aF l)++(if e.k=1 then [e]else []):=by
 unfold aF;rw[apT,apo,t.Ez];congr 1
 ·by_cases h:e.k=2
  ·rw[if_pos h,aqx];intro x hx;rw[t.vV hx,decide_eq_true h];simp
  ·rw[if_neg h];refine ao4 λ x hx=>?_;rw[t.vV hx,decide_eq_false h];simp
 ·by_cases h:e.k=1
  ·rw[if_pos h,if_pos (decide_eq_true h)];rfl
  ·rw[if_neg h,if_neg (by rw[decide_eq_false h];simp)];rfl
theorem abz.Vk{C:List Ev}{x:Ev}(hx:x∈l):countB (l++[e]) C x=(countB l C x&& !(decide (e.k=5)&&(decide (x.k=4)&&lJ e x))):=by
 unfold countB;rw[kN,t.all x hx];by_cases h3:x.k=3
 ·rw[decide_eq_true h3,decide_eq_false (show¬x.k=4 by omega)];simp
 ·rw[decide_eq_false h3];cases decide (x.k=4)<;>cases fM 5 lJ l x<;>cases gU 1 gu C x<;>simp
end
theorem Vl{a b:ByteArray}(h:dU a=dU b):a=b:=by rw[<-aby a,h,aby]
section
variable{l:List Ev}{e:Ev}{ws:List Ev}
end
theorem aal(p:ByteArray->Bool)(l:List Ev)(e:Ev):nX p (l++[e])=nX p l++(if p e.key=true then [e]else []):=by
 unfold nX;rw[apT,apo];rfl
def iV(l:List Ev)(e:Ev):Bool:=bU l e||(countB l (aF l) e&& !eX l e)
def iK(l:List Ev):List Ev:=l.filter (iV l)
def uq(l:List Ev)(e:Ev):Bool:=l.any λ a=>decide (a.k=1)&&aP a e
def sW(kind:Int)(same:Ev->Bool)(e:Ev)(l:List Ev):List Ev:=l.filter λ a=> !decide (a.k=kind)||(!same a|| !aP a e)
def zK(e a:Ev):Bool:=decide (a.l=e.l)
def ru(e a:Ev):Bool:=decide (a.l=e.l)&&decide (a.v=e.v)
def kY(l:List Ev)(e:Ev):List Ev:=
 if e.k=1 then l++[e]
 else if e.k=2 then(sW 1 (λ _=>true) e l).filter λ a=>decide (a.k=1)||uq (sW 1 (λ _=>true) e l) a
 else if e.k=3 then(if uq l e=true then sW 3 (zK e) e l++[e]else l)
 else if e.k=5 then sW 4 (ru e) e l
 else if uq l e=true then sW 4 (ru e) e l++[e]else l
structure Gg(p:List Ev)(e:Ev):Prop where
 key:∀x∈p,x.key=e.key
 non:∀x∈p,aP e x=false
 self:aP e e=false
 tr:∀a∈p,∀b∈p,aP a b=true->aP b e=true->aP a e=true
 kind:1<=e.k/\e.k<=5
 kinds:∀x∈p,1<=x.k/\x.k<=5
theorem zL(h:a.key=b.key):gu a b=true:=decide_eq_true h
section
variable{p:List Ev}{e:Ev}(t:Gg p e)
include t
theorem Gg.keys{x:Ev}(hx:x∈p):gu e x=true/\gu x e=true:=⟨zL (t.key x hx).symm,zL (t.key x hx)⟩
theorem Gg.RY{k:Int}{same:Ev->Ev->Bool}:fM k same (p++[e]) e=false:=by
 rw[kN,O7 t.non,t.self];simp
theorem Gg.Ez:bU (p++[e]) e=decide (e.k=1):=by
 unfold bU;rw[t.RY];simp
theorem Gg.vV{x:Ev}(hx:x∈p):bU (p++[e]) x=(bU p x&& !(decide (e.k=2)&&aP x e)):=by
 unfold bU;rw[kN,(t.keys hx).1];cases fM 2 gu p x<;>cases decide (x.k=1)<;>simp
theorem Gg.living:aF (p++[e])=(aF p).filter (λ x=> !(decide (e.k=2)&&aP x e))++(if e.k=1 then [e]else []):=by
 unfold aF;rw[apT,apo,t.Ez,ao8];congr 1
 ·refine ao4 λ x hx=>?_;rw[t.vV hx,aq3]
 ·by_cases h:e.k=1
  ·rw[if_pos h,if_pos (decide_eq_true h)];rfl
  ·rw[if_neg h,if_neg (by rw[decide_eq_false h];simp)];rfl
theorem Gg.Vm{x:Ev}(hx:x∈p):gU 1 gu (aF (p++[e])) x=(aF p).any λ a=> !(decide (e.k=2)&&aP a e)&&aP a x:=by
 unfold gU;rw[t.living,List.any_append,aqr];have h2:((if e.k=1 then [e]else []).any λ a=>decide (a.k=1)&&(gu a x&&aP a x))=false:=by
  split
  ·rw[List.any_cons,List.any_nil,t.non x hx];simp
  ·rfl
 rw[h2,Bool.or_false];refine any_congr λ a ha=>?_;obtain⟨hap,hal⟩:=aoA.1 ha;have hk:a.k=1:=by
  simp only[bU,aon,decide_eq_true_eq]at hal;exact hal.1
 rw[decide_eq_true hk,zL (show a.key=x.key by rw[t.key a hap,t.key x hx])];cases decide (e.k=2)<;>cases aP a e<;>cases aP a x<;>rfl
theorem Gg.Gh{x:Ev}(hx:x∈p):gU 1 gu (aF p) x=(aF p).any λ a=>aP a x:=by
 refine any_congr λ a ha=>?_;obtain⟨hap,hal⟩:=aoA.1 ha;have hk:a.k=1:=by
  simp only[bU,aon,decide_eq_true_eq]at hal;exact hal.1
 rw[decide_eq_true hk,zL (show a.key=x.key by rw[t.key a hap,t.key x hx])];simp
theorem Gg.aip:gU 1 gu (aF (p++[e])) e=(aF p).any λ a=> !(decide (e.k=2)&&aP a e)&&aP a e:=by
 unfold gU;rw[t.living,List.any_append,aqr];have h2:((if e.k=1 then [e]else []).any λ a=>decide (a.k=1)&&(gu a e&&aP a e))=false:=by
  split
  ·rw[List.any_cons,List.any_nil,t.self];simp
  ·rfl
 rw[h2,Bool.or_false];refine any_congr λ a ha=>?_;obtain⟨hap,hal⟩:=aoA.1 ha;have hk:a.k=1:=by
  simp only[bU,aon,decide_eq_true_eq]at hal;exact hal.1
 rw[decide_eq_true hk,(t.keys hap).2];cases decide (e.k=2)<;>cases aP a e<;>rfl
theorem Gg.ae9{x:Ev}(hx:x∈p):tY e x=zK e x:=by
 unfold tY zK;rw[(t.keys hx).1,aqA];exact decide_eq_decide.2 eq_comm
theorem Gg.ae'{x:Ev}(hx:x∈p):lJ e x=ru e x:=by
 have h:=t.ae9 hx;unfold lJ ru;rw[h];unfold zK;congr 1;exact decide_eq_decide.2 eq_comm
theorem Gg.Vo{x:Ev}(hx:x∈p):eX (p++[e]) x=(eX p x||(decide (e.k=x.k)&&((if x.k=4 then ru e x else zK e x)&&aP x e))):=by
 unfold eX;by_cases h:x.k=4
 ·rw[if_pos h,if_pos h,kN,t.ae' hx]
 ·rw[if_neg h,if_neg h,kN,t.ae9 hx]
theorem Gg.Vk{x:Ev}(hx:x∈p)(h2:e.k≠2):countB (p++[e]) (aF (p++[e])) x=(countB p (aF p) x&& !(decide (e.k=5)&&(decide (x.k=4)&&(ru e x&&aP x e)))):=by
 have hu:gU 1 gu (aF (p++[e])) x=gU 1 gu (aF p) x:=by
  rw[t.Vm hx,t.Gh hx];refine any_congr λ a _=>?_;rw[decide_eq_false h2];rfl
 unfold countB;rw[hu,kN,t.ae' hx];by_cases h3:x.k=3
 ·rw[decide_eq_true h3,decide_eq_false (show¬x.k=4 by omega)];simp
 ·rw[decide_eq_false h3];cases decide (x.k=4)<;>cases fM 5 lJ p x<;>cases gU 1 gu (aF p) x<;>simp
theorem Gg.aiq(h:e.k=1):iV (p++[e]) e=true:=by
 unfold iV;rw[t.Ez,decide_eq_true h];rfl
theorem Gg.AU{x:Ev}(hx:x∈p)(h2:e.k≠2):iV (p++[e]) x=(bU p x||(countB p (aF p) x&& !(decide (e.k=5)&&(decide (x.k=4)&&(ru e x&&aP x e)))&& !(eX p x||(decide (e.k=x.k)&&((if x.k=4 then ru e x else zK e x)&&aP x e))))):=by
 unfold iV;rw[t.vV hx,t.Vk hx h2,t.Vo hx,decide_eq_false h2];simp
omit t in
theorem iG{l:List Ev}{x:Ev}(h:bU l x=true):x.k=1:=by
 simp only[bU,aon,decide_eq_true_eq]at h;exact h.1
omit t in
theorem kP{l C:List Ev}{x:Ev}(h:countB l C x=true):x.k=3\/x.k=4:=by
 simp only[countB,aon,apf,decide_eq_true_eq]at h;rcases h.1 with h|h
 ·exact .inl h
 ·exact .inr h.1
omit t in
theorem KN{x:Ev}:uq (iK p) x=(aF p).any λ a=>aP a x:=by
 unfold uq iK aF;rw[aqr,aqr];refine any_congr λ a _=>?_;cases hl:bU p a with
 |true=>rw[decide_eq_true (iG hl)];simp[iV,hl]
 |false=>
  cases hc:countB p (aF p) a with
  |false=>
   have:iV p a=false:=by unfold iV;rw[hl,hc];rfl
   rw[this];rfl
  |true=>
   have:¬a.k=1:=by rcases kP hc with h|h<;>omega
   rw[decide_eq_false this];simp
theorem Gg.akX{h2:e.k≠1}:iV (p++[e]) e=((decide (e.k=3)||decide (e.k=4))&&uq (iK p) e):=by
 have hl:eX (p++[e]) e=false:=by unfold eX;split<;>exact t.RY
 unfold iV;rw[t.Ez,decide_eq_false h2,hl,KN];unfold countB;rw[t.RY,t.aip];by_cases h:e.k=2
 ·rw[decide_eq_false (show¬e.k=3 by omega),decide_eq_false (show¬e.k=4 by omega)];rfl
 ·rw[decide_eq_false h];simp
omit t in
theorem Yu(l:List Ev)(x:Ev):iK (l++[x])=l.filter (iV (l++[x]))++(if iV (l++[x]) x=true then [x]else []):=by
 unfold iK;rw[apT,apo];rfl
theorem Gg.aam{x:Ev}(hx:x∈p)(hc:countB p (aF p) x=true)(hb:aP x e=true):uq (iK p) e=true:=by
 have hu:gU 1 gu (aF p) x=true:=by
  simp only[countB,aon]at hc;exact hc.2
 rw[t.Gh hx]at hu;rw[KN];obtain⟨a,ha,hax⟩:=aps.1 hu;exact aps.2 ⟨a,ha,t.tr a (aoA.1 ha).1 x hx hax hb⟩
theorem Gg.step:kY (iK p) e=iK (p++[e]):=by
 rw[Yu];unfold kY;have hk:=t.kind;by_cases k1:e.k=1
 ·rw[if_pos k1,if_pos (t.aiq k1)];congr 1;refine ao4 λ x hx=>?_;rw[t.AU hx o_,decide_eq_false (show¬e.k=5 by omega)];unfold iV;cases hc:countB p (aF p) x with
  |false=>simp
  |true=>
   have:¬e.k=x.k:=by rcases kP hc with h|h<;>omega
   rw[decide_eq_false this];simp
 rw[if_neg k1,t.akX (h2:=k1)];by_cases k2:e.k=2
 ·rw[if_pos k2,decide_eq_false (show¬e.k=3 by omega),decide_eq_false (show¬e.k=4 by omega),if_neg s_,aor];have hcr:∀x∈p,uq (sW 1 (λ _=>true) e (iK p)) x=(aF p).any λ a=> !aP a e&&aP a x:=λ x _=>by
   unfold uq sW iK aF;rw[aqr,aqr,aqr];refine any_congr λ a _=>?_;cases hl:bU p a with
   |true=>rw[decide_eq_true (iG hl)];simp[iV,hl]
   |false=>
    cases hc:countB p (aF p) a with
    |false=>
     have:iV p a=false:=by unfold iV;rw[hl,hc];rfl
     rw[this];rfl
    |true=>
     have:¬a.k=1:=by rcases kP hc with h|h<;>omega
     rw[decide_eq_false this];simp
  have hd:sW 1 (λ _=>true) e (iK p)=p.filter λ x=>(!decide (x.k=1)|| !aP x e)&&iV p x:=by
   unfold sW iK;rw[ao8];exact ao4 λ x _=>s_
  rw[ao4 (q:=λ a=>decide (a.k=1)||(aF p).any λ c=> !aP c e&&aP c a) (λ x hx=>by
   rw[hcr x];rw[hd]at hx;exact(aoA.1 hx).1),hd,ao8]
  refine ao4 λ x hx=>?_;have hl:=t.vV hx;have hlt:eX (p++[e]) x=(eX p x||(decide (e.k=x.k)&&((if x.k=4 then ru e x else zK e x)&&aP x e))):=t.Vo hx;have hu:=t.Vm hx;have huo:=t.Gh hx;rw[decide_eq_true k2]at hl hu;simp only[aqA]at hl hu;have hle:((aF p).any λ a=> !aP a e&&aP a x)=true->gU 1 gu (aF p) x=true:=λ h=>by
   rw[huo];obtain⟨a,ha,h⟩:=aps.1 h;simp only[aon]at h;exact aps.2 ⟨a,ha,h.2⟩
  unfold iV;rw[hl,hlt];unfold countB;rw[hu,kN,decide_eq_false (show¬e.k=5 by omega)];generalize((aF p).any λ a=>(!aP a e&&aP a x))=u' at*;generalize gU 1 gu (aF p) x=u at*;rcases(show x.k=1\/x.k=3\/x.k=4\/(x.k≠1/\x.k≠3/\x.k≠4) by omega)with h|h|h|⟨h1,h2,h3⟩
  ·rw[decide_eq_true h,decide_eq_false (show¬x.k=3 by omega),decide_eq_false (show¬x.k=4 by omega)];cases bU p x<;>cases aP x e<;>simp
  ·have hnl:bU p x=false:=by rw[aoU];intro k;have:=iG k;omega
   rw[hnl,decide_eq_false (show¬x.k=1 by omega),decide_eq_true h,decide_eq_false (show¬x.k=4 by omega),decide_eq_false (show¬e.k=x.k by omega)];cases u' with
   |true=>rw[hle rfl];simp
   |false=>simp
  ·have hnl:bU p x=false:=by rw[aoU];intro k;have:=iG k;omega
   rw[hnl,decide_eq_false (show¬x.k=1 by omega),decide_eq_true h,decide_eq_false (show¬x.k=3 by omega),decide_eq_false (show¬e.k=x.k by omega)];cases u' with
   |true=>rw[hle rfl];simp
   |false=>simp
  ·have hnl:bU p x=false:=by rw[aoU];intro k;have:=iG k;omega
   rw[hnl,decide_eq_false h1,decide_eq_false h2,decide_eq_false h3];simp
 rw[if_neg k2];by_cases k3:e.k=3
 ·rw[if_pos k3,decide_eq_true k3,Bool.true_or,aqA];by_cases hcr:uq (iK p) e=true
  ·rw[if_pos hcr,if_pos hcr];congr 1;unfold sW iK;rw[ao8];refine ao4 λ x hx=>?_;rw[t.AU hx k2,decide_eq_false (show¬e.k=5 by omega),k3];unfold iV;cases hl:bU p x with
   |true=>rw[decide_eq_false (show¬x.k=3 by have:=iG hl;omega)];simp
   |false=>
    by_cases h:x.k=3
    ·rw[decide_eq_true h,decide_eq_true h.symm,if_neg o_];cases countB p (aF p) x<;>cases eX p x<;>simp
    ·rw[decide_eq_false h,decide_eq_false (show¬3=x.k from λ k=>h k.symm)];simp
  ·rw[if_neg hcr,if_neg hcr,aor];unfold iK;refine ao4 λ x hx=>?_;rw[t.AU hx k2,decide_eq_false (show¬e.k=5 by omega)];unfold iV;cases hc:countB p (aF p) x with
   |false=>simp
   |true=>
    have:aP x e=false:=by rw[aoU];exact λ k=>hcr (t.aam hx hc k)
    rw[this];simp
 rw[if_neg k3,decide_eq_false k3,Bool.false_or];by_cases k5:e.k=5
 ·rw[if_pos k5,decide_eq_false (show¬e.k=4 by omega),Bool.false_and,if_neg s_,aor];unfold sW iK;rw[ao8];refine ao4 λ x hx=>?_;rw[t.AU hx k2,decide_eq_true k5];unfold iV;cases hl:bU p x with
  |true=>rw[decide_eq_false (show¬x.k=4 by have:=iG hl;omega)];simp
  |false=>
   cases hc:countB p (aF p) x with
   |false=>simp
   |true=>
    rw[decide_eq_false (show¬e.k=x.k by rcases kP hc with h|h<;>omega)];by_cases h:x.k=4
    ·rw[decide_eq_true h];cases ru e x<;>cases aP x e<;>simp
    ·rw[decide_eq_false h];simp
 have k4:e.k=4:=o_
 rw[if_neg k5,decide_eq_true k4,aqA];by_cases hcr:uq (iK p) e=true
 ·rw[if_pos hcr,if_pos hcr];congr 1;unfold sW iK;rw[ao8];refine ao4 λ x hx=>?_;rw[t.AU hx k2,decide_eq_false k5,k4];unfold iV;cases hl:bU p x with
  |true=>rw[decide_eq_false (show¬x.k=4 by have:=iG hl;omega)];simp
  |false=>
   by_cases h:x.k=4
   ·rw[decide_eq_true h,decide_eq_true h.symm,if_pos h];cases countB p (aF p) x<;>cases eX p x<;>simp
   ·rw[decide_eq_false h,decide_eq_false (show¬4=x.k from λ k=>h k.symm)];simp
 ·rw[if_neg hcr,if_neg hcr,aor];unfold iK;refine ao4 λ x hx=>?_;rw[t.AU hx k2,decide_eq_false k5];unfold iV;cases hc:countB p (aF p) x with
  |false=>simp
  |true=>
   have:aP x e=false:=by rw[aoU];exact λ k=>hcr (t.aam hx hc k)
   rw[this];simp
end
section
variable{P:Program}{L:Lay}{ρ:Nat->Value}{a:Act}{w w':World}{st:AS}
def akY(P:Program)(L:Lay)(W:Walk)(glv:Nat)(gfn:Func)(gc:Code)(fn:Func)(r:AV)(hh:List (Nat×AO))(st:AS):Prop:=
 match st.back with
 |f::[]=>W gfn.ntmps glv gc (λ e st'=>match e with| .exit _=>False| .normal=>pF L st' gfn.results.toList (λ _=>yL st'.out (λ st2=>pF L st2 fn.results.toList (λ x=>aU st2 x r hh)))| .ret=>pF L st' gfn.results.toList (λ _=>yL st'.out (λ st2=>pF L st2 fn.results.toList (λ x=>aU st2 x r hh)))) (AS.into ⟨st.sl,st.heap,[],st.base⟩ [tN f 0,tN f 1])
 |_=>False
def dMk(st:AS)(i j:Nat)(K:AS->Prop):Prop:=
 match st.tmps i,st.tmps j with
 | .box b x,.box c y=>K ⟨st.sl,st.heap,[[(0,.box b x),(1,.box c y)]],st.base⟩
 |_,_=>False
def dQ(P:Program)(L:Lay)(fn:Func)(r:AV)(hh:List (Nat×AO))(K:AS->Prop):jk->AS->Prop
 | .normal,st=>K st
 | .ret,st=>pF L st fn.results.toList (λ x=>aU st x r hh)
 | .exit _,_=>False
def dE(K:AS->Prop):jk->AS->Prop
 | .normal,st=>K st
 | .ret,st=>K st
 | .exit _,_=>False
theorem Vp(hL:bJ P L)(n lv glv:Nat){f gg:FuncId}{fn gfn:Func}{x y z rest gc:Code}{id t i j:Nat}{o1 o2:Oper}{aZ:List AV}{r:AV}{hh:List (Nat×AO)}(hf:P.funcs[f]? =some fn)(hn:(fn.name== "runtime.NumGoroutine")=false)
  (hb:fn.body=some (x.seq (y.seq (z.seq ((Code.region id #[o1,o2] false).seq rest)))))(hsz:Nat.ble aZ.length fn.ntmps=true)
  (hgf:P.funcs[gg]? =some gfn)(hgn:(gfn.name== "runtime.NumGoroutine")=false)(hgb:gfn.body=some gc)(hgs:Nat.ble 2 gfn.ntmps=true)
  (h1:o1.op= .makeFunc (.func gg) #[] #[.tmp i,.tmp j])(d1:o1.dst=some t)(g1:o1.guard=none)(h2:o2.op= .defer {callee:= .value (.tmp t),args:= #[],argTypes:= #[]})(d2:o2.dst=none)(g2:o2.guard=none)(ht:Nat.ble (t+1) fn.ntmps=true)
  (h:BG P L n fn.ntmps lv x (dQ P L fn r hh λ st=>BG P L n fn.ntmps lv y (dQ P L fn r hh λ st=>BG P L n fn.ntmps lv z (dQ P L fn r hh λ st=>dMk st i j λ st=>BG P L n fn.ntmps lv rest (dE (akY P L (BG P L n) glv gfn gc fn r hh)) (st.put t .junk)) st) st) (start aZ)):aH P f aZ r hh:=by
 have hE:Enters P gg:=⟨gfn,gc,hgf,hgn,hgb⟩;refine⟨⟨fn,_,hf,hn,hb⟩,λ w keep args hkeep hargs=>?_⟩;have hsz:=aox hsz;have hlen:args.length=aZ.length:=hargs.1.symm;refine calls_of_wp_defers hf hb ?_;let g:Base:=base0 w keep;have JZ:aG (C2 (aC g w (λ _=>undef) [])) aZ args:=hargs.imp λ _ _ h=>C2.mP (C1.same (X:=⟨w,keep,λ _=>undef⟩) (Y:=aC g w (λ _=>undef) []) (λ b hb=>⟨hkeep b hb,λ _=> .inl hb,by simp[ah]⟩) (λ _ _=>rfl) rfl h);have R0:Rel g fn.ntmps [] (λ _=>undef) {tmps:=args.toArray++Array.replicate (fn.ntmps-args.toArray.size) undef,defers:=[]} w (start aZ):=
  ⟨by simp;omega,rfl,dL.refl _ _ _,um JZ hsz,(λ p hp=>by cases hp),by simp[start,ah],(λ b hb=>by simp[start,ah]at hb),trivial⟩
 generalize hE0:bodyPostD P fn _=E;have early:∀{ρ a w' st},Rel g fn.ntmps [] ρ a w' st->pF L st fn.results.toList (λ x=>aU st x r hh)->E .ret a w':=λ R hq=>by
  subst hE0;show Leaves P fn _ _ _ _ _;rw[show _=[]from R.defers];exact JY hL R hq
 have step:∀(c d:Code){K:AS->Prop},(∀{ρ a w' st},Rel g fn.ntmps [] ρ a w' st->K st->d.wp P E a w')-> ∀{ρ a w' st},Rel g fn.ntmps [] ρ a w' st->BG P L n fn.ntmps lv c (dQ P L fn r hh K) st->(c.seq d).wp P E a w':=λ c d K hd ρ a w' st R hc=>
  wp_seq (dM hL n g fn.ntmps lv [] c (dQ P L fn r hh K) _ ⟨λ ρ a w st R h=>hd R h,λ i ρ a w st R h=>h.elim,λ ρ a w st R h=>early R h⟩ R hc)
 refine step x _ (λ R h=>step y _ (λ R h=>step z _ (λ{ρ a w' st} R h=>?_) R h) R h) R0 h;unfold dMk at h;split at h
 ·rename_i b ox c oy eb ec;have hi:=R.tmps i;have hj:=R.tmps j;rw[eb]at hi;rw[ec]at hj;obtain⟨B1,hB1,hv1⟩:=C2.kJ hi;obtain⟨B2,hB2,hv2⟩:=C2.kJ hj;let p1:Value:= .pointer (some ⟨B1,ox,none⟩);let p2:Value:= .pointer (some ⟨B2,oy,none⟩);let d0:Deferred:={target:= .fn (.func gg) #[p1,p2],args:= #[]};let g':Base:=⟨w,keep,λ _=>False,[d0]⟩;have hd0:a.defers=[]:=R.defers;have ht':t<a.tmps.size:=by rw[R.size];exact aox ht
  refine wp_seq (wp_region_list ?_);have fin:∀u,Rel g' fn.ntmps [#[p1,p2]] ρ {({(a.put (some t) u)with defers:=[d0]}:Act)with defers:=[d0]} w' (AS.put ⟨st.sl,st.heap,[[(0,.box b ox),(1,.box c oy)]],st.base⟩ t .junk):=λ u=>by
   refine⟨by simpa[Act.put]using R.size,rfl,R.below,λ t'=>?_,R.objs,R.apart,R.own,⟨λ t'=>?_,trivial⟩⟩
   ·show C2 _ (upd t .junk st.tmps t') ((a.tmps.setIfInBounds t u).getD t' undef);unfold upd;cases hb':Nat.beq t' t with
    |true=>trivial
    |false=>
     have:t'≠t:=λ e=>by rw[e,aqW]at hb';cases hb'
     rw[show(a.tmps.setIfInBounds t u).getD t' undef=a.tmps.getD t' undef by simp[aqP this]];exact R.tmps t'
   ·match t' with
    |0=>exact⟨B1,hB1,rfl⟩
    |1=>exact⟨B2,hB2,rfl⟩
    |_+2=>exact trivial
  have more:∀{ρ a w' st},Rel g' fn.ntmps [#[p1,p2]] ρ a w' st->akY P L (BG P L n) glv gfn gc fn r hh st->E .ret a w'/\E .normal a w':=λ{ρ a w' st} R h=>by
   subst hE0;suffices hl:Leaves P fn a.tmps _ a.defers .returning w' from⟨hl,hl⟩
   rw[show a.defers=[d0]from R.defers];unfold akY at h;split at h
   ·rename_i f' ebk;have hbk:=R.back;rw[ebk]at hbk;have R1:Rel g' fn.ntmps [] ρ a w' ⟨st.sl,st.heap,[],st.base⟩:=⟨R.size,R.defers,R.below,R.tmps,R.objs,R.apart,R.own,trivial⟩;have hin:=aem hL (dM hL n) R1 (args:=[p1,p2]) (K:=λ _ st2=>pF L st2 fn.results.toList (λ x=>aU st2 x r hh)) (aG.cons (hbk.1 0) (aG.cons (hbk.1 1) aG.nil)) glv gfn gc hgs h;refine leaves_cons (f:=gg) (args:= #[p1,p2]) s_ (by simpa[invoke]using oL hE #[p1,p2] w') ((callsD_of_wp hgf hgb hin).mono ?_);rintro e u' w2 ⟨rfl,u,x,st2,X8,rfl,hq,R2,_⟩;exact JY hL R2 hq
   ·exact h.elim
  have hv1:a.eval (.tmp i)=p1:=hv1;have hv2:a.eval (.tmp j)=p2:=hv2;have hop1:(execOp a.eval o1).run P w'= .ok (.value (.func (.func gg) #[] #[p1,p2])) w':=by simp[execOp,h1,Instr.makeFunc,hv1,hv2]
  refine wpList_step (λ K1 hK1=>?_);simp only[Region.wanted,g1,if_true];unfold Oper.wp;rw[hop1,Oper.upon_value];refine hK1 _ _ (wpList_step (λ K2 hK2=>?_));simp only[Region.wanted,g2,if_true];have hev:(a.put o1.dst (.func (.func gg) #[] #[p1,p2])).eval (.tmp t)= .func (.func gg) #[] #[p1,p2]:=by
   rw[d1];simp[Act.eval,Act.put,ht']
  have hop2:(execOp (a.put o1.dst (.func (.func gg) #[] #[p1,p2])).eval o2).run P w'= .ok (.defer d0) w':=by simp[execOp,h2,resolve,hev,Deferred.ofValue,d0]
  unfold Oper.wp;rw[hop2,Oper.upon_defer];refine hK2 _ _ (show Exit.then _ _ _ _ _ from ?_);have RR:=fin (.func (.func gg) #[] #[p1,p2]);have ea:({(a.put o1.dst (.func (.func gg) #[] #[p1,p2]))with defers:=d0::(a.put o1.dst (.func (.func gg) #[] #[p1,p2])).defers}:Act).put o2.dst undef={(a.put (some t) (.func (.func gg) #[] #[p1,p2]))with defers:=[d0]}:=by
   rw[d1,d2];simp[Act.put,hd0]
  show rest.wp P E _ _;rw[ea];exact dM hL n g' fn.ntmps lv [#[p1,p2]] rest _ E ⟨λ ρ a w st R h=>(more R h).2,λ i ρ a w st R h=>h.elim,λ ρ a w st R h=>(more R h).1⟩ RR h
 ·exact h.elim
end
structure kR where
 (n w q h l p:Int)
def kR.cs(c:kR):List AV:=[.v (.int .i64 c.n),.v (.int .i64 c.w),.v (.int .i64 c.q),.v (.int .i64 c.h),.v (.int .i64 c.l),.v (.int .i64 c.p)]
def kR.av(c:kR):AV:= .agg c.cs
def inC(n m:Int):Bool:=decide (1<=n)&&decide (n<=m)
def rC(c:kR):Bool:=inC c.n 5&&inC c.w 4&&inC c.q 8&&inC c.h 20&&inC c.l 4&&inC c.p 3
theorem uw{m:Int}:inC n m=true↔1<=n/\n<=m:=by simp[inC]
theorem abA(n m:Int):aH prog 62 [.v (.int .i64 n),.v (.int .i64 m)] (.v (.bool (inC n m))) []:=by
 refine K1.E 0x13 func62 ?_;repeat' ((conv=>whnf);first|refine aU.fF ?_|refine K1.y (λ _=>?_) (λ _=>?_)|fail)
 all_goals(conv=>whnf)
 all_goals(refine bn.mk (aY.of ?_))
 all_goals simp[inC, *]
theorem O8(c:kR):aH prog 37 [c.av] (.v (.bool (rC c))) []:=by
 obtain⟨n,w,q,h,l,p⟩:=c;dsimp only[kR.av,kR.cs];refine K1.E 0x7 func37 ?_;repeat' ((conv=>whnf);first|refine K1.P1 (abA _ _) ?_|refine aU.fF ?_|refine K1.y (λ _=>?_) (λ _=>?_)|fail)
 all_goals(conv=>whnf)
 all_goals(refine bn.mk (aY.of ?_))
 all_goals simp[rC, *]
theorem xJ{c:kR}(h:rC c=true):∃n:Nat,c.n=(n:Int)/\1<=n/\n<=5:=by
 simp only[rC,aon]at h;have h1:=uw.1 h.1.1.1.1.1;exact⟨c.n.toNat,o_,o_,o_⟩
def mN(m x:Int):Int:=(x.tmod m+m)%m
theorem O9(x m:Int)(hm:0<m): -m<x.tmod m/\x.tmod m<m:=⟨by have:=Int.lt_tmod_of_pos x hm;omega,aqy x hm⟩
theorem Pg(m x:Int)(hm:0<m):0<=mN m x/\mN m x<m:=⟨Int.emod_nonneg _ o_,Int.emod_lt_of_pos _ hm⟩
def Ph(c:kR):kR:=⟨1+mN 5 c.n,1+mN 4 c.w,1+mN 8 c.q,1+mN 20 c.h,1+mN 4 c.l,1+mN 3 c.p⟩
theorem Gi(c:kR):rC (Ph c)=true:=by
 have h1:=Pg 5 c.n o_;have h2:=Pg 4 c.w o_;have h3:=Pg 8 c.q o_;have h4:=Pg 20 c.h o_;have h5:=Pg 4 c.l o_;have h6:=Pg 3 c.p o_;have f:∀{m x:Int},0<=x/\x<m->inC (1+x) m=true:=λ h=>uw.2 o_;simp only[rC,aon];exact⟨⟨⟨⟨⟨f h1,f h2⟩,f h3⟩,f h4⟩,f h5⟩,f h6⟩
theorem CP(c:kR):aH prog 8 [c.av] (Ph c).av []:=by
 have h1:=O9 c.n 5 o_;have h2:=O9 c.w 4 o_;have h3:=O9 c.q 8 o_;have h4:=O9 c.h 20 o_;have h5:=O9 c.l 4 o_;have h6:=O9 c.p 3 o_;obtain⟨n,w,q,h,l,p⟩:=c;dsimp only[kR.av,kR.cs,Ph,mN]at*;refine K1.E 0x7 func8 ?_;repeat' ((conv=>whnf);first|refine K1.u ?_|refine Rm.pos o_ o_ ?_|refine Rm.raw d_ ?_|refine aU.fF ?_|fail)
 all_goals(conv=>whnf)
 all_goals exact bn.mk (au)
end Go.Proofs.YtifjccndenojlaaGreat
