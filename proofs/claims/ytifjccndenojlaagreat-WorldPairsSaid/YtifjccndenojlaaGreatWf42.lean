/-
  Contracts of the walk:WbB,WcE,WcH,WcL,WcN,NdN,WdE.
-/
import Derived.Test.YtifjccndenojlaaGreatWf37
import Derived.Test.YtifjccndenojlaaGreatWf31
import Derived.Test.YtifjccndenojlaaGreatWf16
import Derived.Test.YtifjccndenojlaaGreatWf32
import Derived.Test.YtifjccndenojlaaGreatWf29
import Derived.Test.YtifjccndenojlaaGreatWf39
import Derived.Test.YtifjccndenojlaaGreatWf33
import Derived.Test.YtifjccndenojlaaGreatWf40
import Derived.Test.YtifjccndenojlaaGreatWf41
import Derived.Test.YtifjccndenojlaaGreatWf30
set_option maxHeartbeats 16000000
set_option maxRecDepth 100000
set_option linter.unusedVariables false
set_option linter.unusedSimpArgs false
namespace Go.Proofs.YtifjccndenojlaaGreat
open Go.RowKit
open Go.Proofs.Tryz
variable{r:AV}{f:FuncId}{ho:List (Nat×AO)}{aZ:List AV}{k m:Nat}{y:Ny}
section
variable{k:Nat}{T:List Ev}{H:Nat->aV}{y y':Ny}{w:Wy}
theorem Pool.mono(h:Pool k T H){m:Nat}(hm:k<=m):Pool m T H:=⟨h.inv,h.tr,λ p hp=>by have:=h.le p hp;omega,h.may,λ e he=>by have:=h.h e he;omega⟩
theorem tX.to(ho:tX k T H y){m:Nat}{T':List Ev}{H':Nat->aV}(hP:Pool m T' H')(hT:∀e∈T,e∈T')(hH:H' y.r=H y.r):tX m T' H' y:=
 ⟨hP,ho.may,ho.r,ho.rn,⟨λ e he=>hT e (ho.g.mem e he),ho.g.seq,ho.g.ord⟩,hH.trans ho.hc,ho.s,ho.q,λ e he=>hT e (ho.h e he),ho.hl⟩
theorem tX.mono(ho:tX k T H y){m:Nat}(hm:k<=m):tX m T H y:=ho.to (ho.p.mono hm) (λ _ h=>h) rfl
theorem tX.off(ho:tX k T H y):tX k T H y.off:=
 ⟨ho.p,ho.may,ho.r,ho.rn,ho.g,ho.hc,ho.s,ho.q,(λ e he=>by cases he),by
  have hmc:=ho.may;simp only[rC,aon,uw]at hmc;show(0:Int)<=y.c.h;omega⟩
def NTo(k:Nat)(T:List Ev)(H:Nat->aV)(y y':Ny):Prop:= ∃T' H',(∀e∈T,e∈T')/\(∀q,q≠y.r->H' q=H q)/\tX (k+1) T' H' y'/\y'.c=y.c/\y'.r=y.r
theorem iy(h:tX k T H y')(hc:y'.c=y.c)(hr:y'.r=y.r):NTo k T H y y':=⟨T,H,λ _ h=>h,λ _ _=>rfl,h.mono o_,hc,hr⟩
theorem TP(ho:tX k T H y)(h:NTo k T H y y')(x:Rc):NTo k T H y (wrY y y' x).1:=by
 unfold wrY;split
 ·split
  ·obtain⟨T',H',h1,h2,h3,h4,h5⟩:=h;exact⟨T',H',h1,h2,h3.off,h4,h5⟩
  ·exact iy ho.off rfl rfl
 ·exact h
theorem ahr(ho:tX k T H y)(hk:k<=480)(e:Ed):NTo k T H y (pR y e).1:=by
 unfold pR;split
 ·exact iy ho rfl rfl
 split
 ·exact iy ho rfl rfl
 rename_i h1;split
 ·exact iy ho rfl rfl
 rename_i h2;have h1:nO y.c.l y.c.p (pz y.log) e=0:=by simpa using h1
 obtain⟨hP,hG,hC⟩:=QC ho hk (MW h1);have hin:=oO y.clk ho.r ho.r;rw[if_pos rfl]at hin;have hs:=ho.s;refine TP ho ?_ _;refine⟨_,_,λ e he=>aoT _ he,λ q hq=>by rw[lK,if_neg hq],⟨hP,ho.may,ho.r,ho.rn,hG,by rw[lK,if_pos rfl];exact hC.symm,⟨hs.1, ?_⟩, ?_,λ e he=>aoT _ (ho.h e he),ho.hl⟩,rfl,rfl⟩
 ·show y.sent<=(cZ (y.log++[Ij y e])).at y.r;rw[hC];omega
 ·show((kT y.r y.sent (y.log++[Ij y e])).length:Int)<=y.c.q;rw[BA];split
  ·rw[aop];have:((kT y.r y.sent y.log).length:Int)=y.out.length:=rfl;simp only[aoE,aoZ];omega
  ·exact ho.q
theorem Zu(ho:tX k T H y)(hu:y.up=true)(u:Int):NTo k T H y (Fp y u).1:=by
 unfold Fp;split
 ·exact iy ho rfl rfl
 have hs:=ho.s;have hb:y.sent<=lN y u/\lN y u<=y.clk.at y.r:=by
  unfold lN;split<;>split<;>omega
 refine TP ho ?_ _;refine iy ⟨ho.p,ho.may,ho.r,ho.rn,ho.g,ho.hc,⟨by show 0<=lN y u;omega,hb.2⟩, ?_,ho.h,ho.hl⟩ rfl rfl;have h1:=(ho.g.seq.out ho.r hs.1).1;have h2:=(ho.g.seq.out ho.r (s:=lN y u) o_).1;have h3:=ho.q;show((kT y.r (lN y u) y.log).length:Int)<=y.c.q;have h3:((kT y.r y.sent y.log).length:Int)<=y.c.q:=h3;rw[h2];rw[h1]at h3;have hc:(cZ y.log).at y.r=y.clk.at y.r:=rfl;split at h3<;>split<;>omega
theorem alV(ho:tX k T H y)(hu:y.up=true)(l:List Ev)(hl:∀e∈l,e∈T):NTo k T H y (evY y l).1:=by
 obtain⟨⟨d,w,c'⟩,hd⟩:∃q,gX y.clk (y.held++l)=q:=⟨_,rfl⟩;obtain⟨g1,g2,g3,g4,g5⟩:=Md ho.r ho.p.inv ho.hc ho.g (l:=y.held++l) (λ e he=>(aov.1 he).elim (ho.h e) (hl e)) hd;obtain⟨hP,hcc,hout⟩:=MX ho g2 g3 g4 g5;unfold evY;rw[hd];dsimp only;split
 ·exact iy ho rfl rfl
 rename_i hh;split
 ·exact iy ⟨ho.p,ho.may,ho.r,ho.rn,ho.g,ho.hc,ho.s,ho.q,g1,by show(w.length:Int)<=y.c.h;omega⟩ rfl rfl
 refine TP ho ?_ _;refine⟨T,_,λ _ h=>h,λ q hq=>by rw[lK,if_neg hq],⟨hP.mono o_,ho.may,ho.r,ho.rn,g3,hcc,⟨ho.s.1, ?_⟩, ?_,g1,by show(w.length:Int)<=y.c.h;omega⟩,rfl,rfl⟩
 ·show y.sent<=(cZ (y.log++d)).at y.r;rw[TJ ho.r d y.log g5 λ e he=>by
   have:=Zt (ho.p.may e (g3.mem e (aoV _ he)));omega]
  exact ho.s.2
 ·show((kT y.r y.sent (y.log++d)).length:Int)<=y.c.q;rw[hout];exact ho.q
theorem ahs(ho:tX k T H y)(b:List UInt8)(hb:∀x,dS b=(x,0)-> ∀e∈x.ev,e∈T):NTo k T H y (yJ y b).1:=by
 unfold yJ;split
 ·exact iy ho rfl rfl
 rename_i hu;split
 ·exact iy ho rfl rfl
 rename_i hx;unfold TF;split
 ·exact iy ho rfl rfl
 have hu:y.up=true:=by simpa using hu
 split
 ·exact Zu ho hu _
 ·refine alV ho hu _ (hb (dS b).1 ?_);rw[<-(show(dS b).2=0 by simpa using hx)]
theorem ado(ho:tX k T H y):NTo k T H y (qx y).1:=by
 unfold qx;split
 ·exact iy ho rfl rfl
 refine TP ho ?_ _;exact iy ⟨ho.p,ho.may,ho.r,ho.rn,ho.g,ho.hc,ho.s,ho.q,ho.h,ho.hl⟩ rfl rfl
theorem adp(ho:tX k T H y):NTo k T H y (qy y).1:=by
 unfold qy;split
 ·exact iy ho rfl rfl
 ·have:=ho.off;exact iy ⟨ho.p,ho.may,ho.r,ho.rn,ho.g,ho.hc,ho.s,ho.q,this.h,this.hl⟩ rfl rfl
theorem ajC(ho:tX k T H y)(q:Int):NTo k T H y (ahf y q):=iy ⟨ho.p,ho.may,ho.r,ho.rn,ho.g,ho.hc,ho.s,ho.q,ho.h,ho.hl⟩ rfl rfl
theorem lI.nd'(h:lI k T H w){r:Int}(hr:w.has r):tX k T H (w.nd r)/\(w.nd r).c=w.c/\((w.nd r).r:Int)=r:=by
 obtain⟨h1,h2,h3⟩:=h.nd r.toNat (by have:=hr.1;have:=hr.2;omega);exact⟨h1,h2,by have:=hr.1;show((w.ns.getD r.toNat default).r:Int)=r;omega⟩
theorem lI.set(h:lI k T H w){r:Int}(hr:w.has r)(ht:NTo k T H (w.nd r) y'):∃T' H',(∀e∈T,e∈T')/\lI (k+1) T' H' (w.set r y'):=by
 obtain⟨T',H',h1,h2,h3,h4,h5⟩:=ht;obtain⟨a1,a2,a3⟩:=h.nd' hr;have hl:(w.set r y').ns.length=w.ns.length:=apZ;have hr0:=hr.1;have hr1:=hr.2;refine⟨T',H',h1,h.c,by rw[hl];exact h.n,λ q hq=>?_,λ q hq=>?_,h.hc,λ q e he=>h1 e (h.hub q e he),λ f hf=>?_,by have:=h.len;show w.fl.length<=_;omega⟩
 ·rw[hl]at hq;obtain⟨b1,b2,b3⟩:=h.nd q hq;by_cases e:q=r.toNat
  ·subst e;rw[show(w.set r y').ns.getD r.toNat default=y' by show(w.ns.set r.toNat y').getD r.toNat default=y';simp[List.getD,hq]];exact⟨h3,h4.trans a2,o_⟩
  ·rw[show(w.set r y').ns.getD q default=w.ns.getD q default by show(w.ns.set r.toNat y').getD q default=_;simp[List.getD,aqa,aqP e]];exact⟨b1.to h3.p h1 (h2 _ o_),b2,b3⟩
 ·rw[hl]at hq;rw[h2 q o_];exact h.z q hq
 ·obtain⟨c1,x,c2,c3,c4⟩:=h.fl f hf;exact⟨c1.imp id λ hh=>by unfold Wy.has at hh⊢;rw[hl];exact hh,x,c2,c3,λ e he=>h1 e (c4 e he)⟩
theorem lI.fly(h:lI k T H w){hb:Ry}{fl:List (Int×List UInt8)}(hc:hb.c=w.c)(hh:∀r,∀e∈(hb.p.s r).l,e∈T)(hf:∀f∈fl,(f.1=5\/w.has f.1)/\yU T f.2)(hl:fl.length<=k+1):lI (k+1) T H ⟨w.c,w.ns,hb,fl⟩:=
 ⟨h.c,h.n,λ r hr=>by obtain⟨a,b,c⟩:=h.nd r hr;exact⟨a.mono o_,b,c⟩,h.z,hc,hh,hf,hl⟩
theorem lI.mono(h:lI k T H w){m:Nat}(hm:k<=m):lI m T H w:=
 ⟨h.c,h.n,λ r hr=>by obtain⟨a,b,c⟩:=h.nd r hr;exact⟨a.mono hm,b,c⟩,h.z,h.hc,h.hub,h.fl,ao7 h.len hm⟩
theorem lI.five(h:lI k T H w):1<=w.ns.length/\w.ns.length<=5:=by
 have hn:=h.n;have hmc:=h.c;simp only[rC,aon,uw]at hmc;omega
theorem lI.send(h:lI k T H w){b:List UInt8×Int}(hb:b.2=0->yU T b.1):lI (k+1) T H (w.send b).1:=by
 unfold Wy.send;split
 ·rename_i h0;refine h.fly h.hc h.hub (λ f hf=>?_) (by rw[aop];have:=h.len;simp only[aoE,aoZ];omega);rcases aov.1 hf with hf|hf
  ·exact h.fl f hf
  ·rw[aoo.1 hf];exact⟨.inl rfl,hb h0⟩
 ·exact h.mono o_
theorem QE(ho:tX k T H y)(hl:y.out.length≠0):ku (aaZ y)=true:=by
 have hbd:=ho.bounds;have hr:=ho.r;refine alN (.inl ⟨rfl, ?_,λ e he=>?_⟩) o_ o_ (by rw[aou];omega) λ e he=>ho.p.may e (ho.g.mem e (aoA.1 (apn he)).1)
 ·rw[aou];omega
 ·have:=(aoA.1 (apn he)).2;unfold TD at this;exact(of_decide_eq_true this).1
theorem Nc(ho:tX k T H y)(hk:k<=480){q:Int}(hq:q=3\/q=5):ku (adi y q)=true:=by
 have hat:=ho.g.at_ ho.p ho.r ho.hc;have hr:=ho.r;exact alM hq o_ o_ λ p=>by
  have:=hat p;show 0<=(cZ y.log).at p/\(cZ y.log).at p<=_;omega
theorem aa2(ho:tX k T H y)(h:(QD y).2=0):yU T (QD y).1:=by
 unfold QD at h⊢;split
 ·rename_i h1;rw[if_pos h1]at h;cases h
 rename_i h1;rw[if_neg h1]at h;split
 ·rename_i h2;rw[if_pos h2]at h;cases h
 rename_i h2;exact⟨_,rfl,QE ho h2,λ e he=>ho.g.mem e (aoA.1 (apn he)).1⟩
theorem TQ(ho:tX k T H y)(hk:k<=480){q:Int}(hq:q=3\/q=5)(h:(TL y q).2=0):yU T (TL y q).1:=by
 unfold TL at h⊢;split
 ·rename_i h1;rw[if_pos h1]at h;cases h
 exact⟨_,rfl,Nc ho hk hq,λ e he=>by cases he⟩
theorem lI.arrive(h:lI k T H w){m:Nat}{g:Hb}(hr:kD m g w.hb){to:Int}{b:List UInt8}(hb:∀x,dS b=(x,0)-> ∀e∈x.ev,e∈T):∃T' H',(∀e∈T,e∈T')/\lI (k+1) T' H' (w.arrive to b).1:=by
 unfold Wy.arrive;split
 ·rename_i ht;exact h.set ht (ahs (h.nd' ht).1 b hb)
 ·obtain⟨⟨hb',res⟩,e⟩:∃q,GU w.hb b=q:=⟨_,rfl⟩;have hmay:∀e∈T,eH e=0:=(h.nd 0 (by have:=h.five;omega)).1.p.may;obtain⟨r1,r2,r3⟩:=ahl hr h.hub hmay hb e;rw[e];refine⟨T,H,λ _ h=>h, ?_⟩;rcases res with x|⟨r,b'⟩
  ·exact h.fly (r1.trans h.hc) r2 h.fl (Nat.le_succ_of_le h.len)
  ·obtain⟨a1,a2⟩:=r3 r b' rfl;refine h.fly (r1.trans h.hc) r2 (λ f hf=>?_) (by rw[aop];have:=h.len;simp only[aoE,aoZ];omega);rcases aov.1 hf with hf|hf
   ·exact h.fl f hf
   ·rw[aoo.1 hf];exact⟨.inr ⟨by show 0<=(r:Int);omega,by rw[<-h.n,<-h.hc];exact a1⟩,a2⟩
theorem lI.less(h:lI k T H w){fl:List (Int×List UInt8)}(hf:∀f∈fl,f∈w.fl)(hl:fl.length<=w.fl.length):lI k T H ⟨w.c,w.ns,w.hb,fl⟩:=
 ⟨h.c,h.n,h.nd,h.z,h.hc,h.hub,λ f h'=>h.fl f (hf f h'),ao7 hl h.len⟩
theorem lI.step(h:lI k T H w)(hk:k<=480){m:Nat}{g:Hb}(hr:kD m g w.hb)(s:Stp):∃T' H',(∀e∈T,e∈T')/\lI (k+1) T' H' (w.step s).1:=by
 have stay:∀{w':Wy},lI (k+1) T H w'-> ∃T' H',(∀e∈T,e∈T')/\lI (k+1) T' H' w':=λ h=>⟨T,H,λ _ h=>h,h⟩;unfold Wy.step;split
 ·unfold Wy.flight;split
  ·exact stay (h.mono o_)
  rename_i hat;have hlt:s.at_.toNat<w.fl.length:=o_
  have hmem:w.fl.getD s.at_.toNat (0,[])∈w.fl:=by simp[List.getD,hlt]
  have hf:=(h.fl _ hmem).2;have he:=h.less (fl:=w.fl.eraseIdx s.at_.toNat) (λ f hf=>List.mem_of_mem_eraseIdx hf) (by rw[aqI];split<;>omega);split
  ·exact stay (he.mono o_)
  split
  ·exact h.arrive hr hf.take
  split
  ·exact lI.arrive he hr hf.take
  ·refine lI.arrive he hr λ x hx=>?_;rcases hf.akd s.bit s.mask with e|⟨z,e,e'⟩
   ·rw[e]at hx;exact hf.take x hx
   ·rw[e,e']at hx;cases hx
 split
 ·unfold Wy.power;split
  ·rename_i hh;have hn:=(h.nd' hh).1;split
   ·exact h.set hh (iy hn.off rfl rfl)
   split
   ·exact h.set hh (adp hn)
   ·exact h.set hh (ajC hn _)
  split
  ·have hl:=Nat.le_succ_of_le h.len;split
   ·exact stay (h.fly h.hc h.hub h.fl hl)
   split
   ·refine stay (h.fly ?_ ?_ h.fl hl)
    ·unfold rstart;split<;>exact h.hc
    ·unfold rstart;split<;>exact h.hub
   ·exact stay (h.fly h.hc h.hub h.fl hl)
  ·exact stay (h.mono o_)
 split
 ·exact stay (h.mono o_)
 rename_i hh;have hh:w.has s.r:=aqV.1 hh;have hn:=(h.nd' hh).1;split
 ·exact h.set hh (ahr hn hk _)
 split
 ·exact stay (h.send (aa2 hn))
 split
 ·exact stay (h.send (TQ hn hk (.inl rfl)))
 split
 ·exact stay (h.send (TQ hn hk (.inr rfl)))
 split
 ·exact h.set hh (ado hn)
 ·exact stay (h.mono o_)
end
theorem aa3{X:CX}{o:OB}{i:Nat}(h:aT X i (.obs o)):(dJ (X.ρ i)).oneCell'=true:=by
 obtain⟨us,e,hR⟩:=h;exact(o.lt hR).2.1
def nyH(k:Nat)(y:Ny)(h:{h:Nd//qW k h y}):List (Nat×AO):=[(0,.obs (kC h.1))]
def yt(k:Nat)(y:Ny):OB:=OB.pack (nyH k y)
theorem Xp{h:Nd}(hr:qW k h y):Closes [(0,.obs (kC h))] 0 (yt k y):=Closes.pack (nyH k y) ⟨h,hr⟩ rfl λ _ hok=>aa3 (hok _ (aoo.2 rfl))
theorem pq{y':Ny}(hE:Enters prog f)(h:∀h,qW k h y-> ∃h',qW m h' y'/\aj prog f [(0,.obs (kC h))] aZ r ((0,.obs (kC h'))::ho))
  (hb:(aZ.all (pO (λ _=>false) 0)&&fV (λ i=>bP i ho) 0 r&&fU ho ho&& !(bP 0 ho))=true):aj prog f [(0,.obs (yt k y))] aZ r ((0,.obs (yt m y'))::ho):=
 aj.opn hE (Opens.pack (nyH k y)) (λ g=>by
  obtain⟨h',hr,hm⟩:=h g.1 g.2;exact⟨[(0,.obs (kC h'))],Xp hr,rfl,rfl,hm⟩) hb
def hyH(k:Nat)(y:Ry)(h:{h:Hb//kD k h y}):List (Nat×AO):=[(0,.obs (Dt h.1))]
def GX(k:Nat)(y:Ry):OB:=OB.pack (hyH k y)
theorem Xq{h:Hb}{y:Ry}(hr:kD k h y):Closes [(0,.obs (Dt h))] 0 (GX k y):=Closes.pack (hyH k y) ⟨h,hr⟩ rfl λ _ hok=>aa3 (hok _ (aoo.2 rfl))
theorem Fv{y y':Ry}(hE:Enters prog f)(h:∀h,kD k h y-> ∃h',kD m h' y'/\aj prog f [(0,.obs (Dt h))] aZ r ((0,.obs (Dt h'))::ho))
  (hb:(aZ.all (pO (λ _=>false) 0)&&fV (λ i=>bP i ho) 0 r&&fU ho ho&& !(bP 0 ho))=true):aj prog f [(0,.obs (GX k y))] aZ r ((0,.obs (GX m y'))::ho):=
 aj.opn hE (Opens.pack (hyH k y)) (λ g=>by
  obtain⟨h',hr,hm⟩:=h g.1 g.2;exact⟨[(0,.obs (Dt h'))],Xq hr,rfl,rfl,hm⟩) hb
def yK(y:Ny):AV:=rW y.up y.clk y.sent y.held y.log
theorem Xr(h:Nd)(hu:h.up=false):aj prog 33 [(0,.obs (kC h))] [.box 0 0] (Ig h) [(0,.obs (kC h))]:=by
 refine iE (ho:=[]) ⟨_,_,func33,rfl,rfl⟩ ?_ (by unfold Ig;rw[hu];rfl);obtain⟨c,r,up,d,log,sent,ic,held,wait⟩:=h;dsimp only[wM,tV,Ig,List.append_nil]at hu⊢;subst hu;refine K1.M 0x85 func33 40 ?_
 all_goals(conv=>whnf)
 exact⟨[],rfl,rfl,⟨ay rfl,ay rfl,ay rfl,ay rfl,ay rfl,ay rfl,ay rfl,ay rfl,trivial⟩,rfl,rfl,au⟩
section
variable{k:Nat}{T:List Ev}{H:Nat->aV}{y:Ny}
theorem ajD{h:Nd}(hr:qW k h y):Ig h=yK y:=by
 unfold Ig yK rW;rw[hr.up];cases hu:y.up with
 |false=>rfl
 |true=>
  obtain⟨e1,e2,e3,e4,e5,e6,e7,e8⟩:=hr.on hu;rw[e1,e2,e3,e4]
theorem aht(ho:tX k T H y)(hk:k<=480):aj prog 33 [(0,.obs (yt k y))] [.box 0 0] (yK y) [(0,.obs (yt k y))]:=by
 refine pq (ho:=[]) ⟨_,_,func33,rfl,rfl⟩ (λ h hr=>⟨h,hr, ?_⟩) (by unfold yK rW;cases y.up<;>rfl);rw[<-ajD hr];cases hu:y.up with
 |true=>
  obtain⟨e1,e2,e3,e4,e5,e6,e7,e8⟩:=hr.on hu;have:=ho.g.len ho.p ho.r ho.hc;have:=ho.bounds;exact acO h (by rw[e1];omega) (by rw[e4];omega)
 |false=>exact Xr h (hr.up.trans hu)
theorem ahu(ho:tX k T H y)(hk:k<=480)(e:Ed):∃v,((pR y e).2=0->v=Ij y e)/\aj prog 26 [(0,.obs (yt k y))] [.box 0 0,e.av] (.bI [v.av,.v (.int .i64 (pR y e).2)]) [(0,.obs (yt (k+1) (pR y e).1))]:=by
 refine⟨if(pR y e).2=0 then Ij y e else evZ,λ h=>if_pos h,pq (ho:=[]) ⟨_,_,func26,rfl,rfl⟩ (λ h hr=>?_) rfl⟩;obtain⟨h',v,h1,h2,h3,h4⟩:=ajy hr ho hk e;have:v=if(pR y e).2=0 then Ij y e else evZ:=by
  split
  ·rename_i h;exact h2 h
  ·rename_i h;exact h3 h
 rw[<-this];exact⟨h',h1,h4⟩
theorem ahv(ho:tX k T H y)(hk:k<=480)(b:List UInt8)(hb:∀x,dS b=(x,0)-> ∀e∈x.ev,e∈T){n:Nat}{F:Nat->List AV}(hF:bG F b)(hn:n=b.length):
  aj prog 75 [(0,.obs (yt k y))] [.box 0 0,.sl 1 n true F] (.v (.int .i64 (yJ y b).2)) [(0,.obs (yt (k+1) (yJ y b).1))]:=
 pq (ho:=[]) ⟨_,_,func75,rfl,rfl⟩ (λ _ hr=>ajz hr ho hk b (λ x hx _=>hb x hx) hF hn) rfl
theorem adq(ho:tX k T H y)(hk:k<=480):aj prog 31 [(0,.obs (yt k y))] [.box 0 0] (.v (.int .i64 (qx y).2)) [(0,.obs (yt (k+1) (qx y).1))]:=
 pq (ho:=[]) ⟨_,_,func31,rfl,rfl⟩ (λ _ hr=>ahh hr ho hk) rfl
theorem adr(ho:tX k T H y)(hk:k<=480):aj prog 39 [(0,.obs (yt k y))] [.box 0 0] (.v (.int .i64 (qy y).2)) [(0,.obs (yt k (qy y).1))]:=
 pq (ho:=[]) ⟨_,_,func39,rfl,rfl⟩ (λ _ hr=>ahi hr ho hk) rfl
theorem ads(k:Nat)(y:Ny):aj prog 256 [(0,.obs (yt k y))] [.box 0 0] (.bI []) [(0,.obs (yt k y.off))]:=
 pq (ho:=[]) ⟨_,_,func256,rfl,rfl⟩ (λ _ hr=>ahj hr) rfl
theorem ajE(k:Nat)(y:Ny)(m:Int):aj prog 257 [(0,.obs (yt k y))] [.box 0 0,.v (.int .i64 m)] (.bI []) [(0,.obs (yt k (ahf y m)))]:=
 pq (ho:=[]) ⟨_,_,func257,rfl,rfl⟩ (λ _ hr=>alR hr m) rfl
def Nh(b:List UInt8×Int):AV:=if b.2=0 then .bI [.sl 1 b.1.length true (aO b.1),.v (.int .i64 0)]else .bI [gW,.v (.int .i64 b.2)]
theorem TR(b:List UInt8×Int):fV (λ i=>bP i []) 0 (Nh b)=true:=by unfold Nh;split<;>rfl
theorem ahw(ho:tX k T H y):aj prog 28 [(0,.obs (yt k y))] [.box 0 0] (Nh (QD y)) [(0,.obs (yt k y))]:=by
 refine pq (ho:=[]) ⟨_,_,func28,rfl,rfl⟩ (λ h hr=>⟨h,hr, ?_⟩) (by rw[TR];rfl);unfold QD;cases hu:y.up with
 |false=>
  rw[if_pos rfl];exact Me h 18 (.inl ⟨hr.up.trans hu,rfl⟩)
 |true=>
  rw[if_neg s_];have XL:=hr.up.trans hu;obtain⟨e1,e2,e3,e4,e5,e6,e7,e8⟩:=hr.on hu;by_cases h0:y.out.length=0
  ·rw[if_pos h0];exact Me h 24 (.inr ⟨XL,by rw[e5];exact h0,rfl⟩)
  ·rw[if_neg h0];have hbd:=ho.bounds;have hm:=QE ho h0;obtain⟨q,hq⟩:∃q,(min (max h.c.w 0) (h.wait.length:Int)).toNat=q:=⟨_,rfl⟩;have he:h.wait.take q=y.out.take y.c.w.toNat:=by
    rw[e5,hr.c]at hq;rw[e5,<-hq];rcases Nat.le_total y.c.w.toNat y.out.length with h1|h1
    ·congr 1
     omega
    ·rw[aoF h1,aoF o_]
   have hx:(⟨1,h.r,0,aW,h.wait.take q⟩:Rc)=aaZ y:=by unfold aaZ;rw[he,hr.r]
   have:=acW h XL (by rw[e5];omega) (by rw[e5];omega) hq (by rw[hx];exact hm);rw[hx]at this;exact this
theorem adt(ho:tX k T H y)(hk:k<=480):aj prog 29 [(0,.obs (yt k y))] [.box 0 0] (Nh (TL y 3)) [(0,.obs (yt k y))]:=by
 refine pq (ho:=[]) ⟨_,_,func29,rfl,rfl⟩ (λ h hr=>⟨h,hr, ?_⟩) (by rw[TR];rfl);unfold TL;cases hu:y.up with
 |false=>
  rw[if_pos rfl];exact WU h (hr.up.trans hu)
 |true=>
  rw[if_neg s_];have hx:(⟨3,h.r,0,h.ic,[]⟩:Rc)=adi y 3:=by unfold adi;rw[(hr.on hu).2.2.1,hr.r]
  have:=Za h (hr.up.trans hu) (by rw[hx];exact Nc ho hk (.inl rfl));rw[hx]at this;exact this
theorem ajF(ho:tX k T H y)(hk:k<=480):aj prog 30 [(0,.obs (yt k y))] [.box 0 0] (Nh (TL y 5)) [(0,.obs (yt k y))]:=by
 refine pq (ho:=[]) ⟨_,_,func30,rfl,rfl⟩ (λ h hr=>⟨h,hr, ?_⟩) (by rw[TR];rfl);unfold TL;cases hu:y.up with
 |false=>
  rw[if_pos rfl];exact acX h (hr.up.trans hu)
 |true=>
  rw[if_neg s_];have hx:(⟨5,h.r,0,h.ic,[]⟩:Rc)=adi y 5:=by unfold adi;rw[(hr.on hu).2.2.1,hr.r]
  have:=agK h (hr.up.trans hu) (by rw[hx];exact Nc ho hk (.inr rfl));rw[hx]at this;exact this
theorem am0(c:kR)(r:Nat):qW 0 (nd0 c r) (ny0 c r):=⟨rfl,rfl,rfl,⟨[],[],ajw,rfl,λ _=>rfl,λ j hj=>by rw[List.take_nil];exact aoB _⟩,λ _=>⟨rfl,rfl,rfl,rfl,rfl,rfl,rfl,λ h=>by cases h⟩,aoB _⟩
theorem ajG(c:kR)(r:Nat)(hc:rC c=true)(hr:(r:Int)<c.n):aj prog 22 [] [c.av,.v (.int .i64 (r:Int))] (.bI [.box 0 0,.v (.int .i64 0)]) [(0,.obs (yt 0 (ny0 c r)))]:=
 aj.clo (B:=[(0,.obs (kC (nd0 c r)))]) (H:=[]) (agD c r hc hr) (Xp (am0 c r)) rfl
end
section
variable{k:Nat}{y:Ry}
def Nj(y:Ry):Sit:=if y.up then(toP y.n y.p).sit else amQ
theorem ahx(k:Nat)(y:Ry):aj prog 32 [(0,.obs (GX k y))] [.box 0 0] (.agg ((Nj y).vs.map .v)) [(0,.obs (GX k y))]:=
 Fv (ho:=[]) ⟨_,_,func32,rfl,rfl⟩ (λ h hr=>⟨h,hr,by
  have e:h.sit=Nj y:=by
   unfold Hb.sit Nj;rw[<-hr.up];split
   ·rename_i hu;rw[(hr.on hu).1]
   ·rfl
  rw[<-e];exact acY h hr.g.p.b⟩) rfl
theorem ahy(hk:k<=480)(b:List UInt8){n:Nat}{F:Nat->List AV}(hF:bG F b)(hn:n=b.length):aj prog 76 [(0,.obs (GX k y))] [.box 0 0,.sl 1 n true F] (Oa (GU y b).2) ((0,.obs (GX (k+1) (GU y b).1))::yT (GU y b).2):=by
 refine Fv ⟨_,_,func76,rfl,rfl⟩ (λ h hr=>?_) ?_
 ·obtain⟨h',y',res,e1,e2,e3⟩:=Xe hr o_ b;rw[e2];exact⟨h',e3,ac6 h h' b res hr.g e1 hF hn⟩
 ·rcases(GU y b).2 with x|⟨r,w⟩<;>rfl
theorem adu(k:Nat)(y:Ry):aj prog 253 [(0,.obs (GX k y))] [.box 0 0] (.bI []) [(0,.obs (GX k (Zm y)))]:=
 Fv (ho:=[]) ⟨_,_,func253,rfl,rfl⟩ (λ h hr=>⟨_,Qv hr,Zg h⟩) rfl
theorem ajH(k:Nat)(y:Ry)(m:Int):aj prog 254 [(0,.obs (GX k y))] [.box 0 0,.v (.int .i64 m)] (.bI []) [(0,.obs (GX k (alI y m)))]:=
 Fv (ho:=[]) ⟨_,_,func254,rfl,rfl⟩ (λ h hr=>⟨_,aaY hr m,agM h m⟩) rfl
theorem adv(hk:k<=480):aj prog 38 [(0,.obs (GX k y))] [.box 0 0] (.v (.int .i64 (rstart y).2)) [(0,.obs (GX k (rstart y).1))]:=
 Fv (ho:=[]) ⟨_,_,func38,rfl,rfl⟩ (λ h hr=>by
  cases hu:h.up with
  |true=>
   have e:rstart y=(y,19):=by unfold rstart;rw[if_pos (hr.up.symm.trans hu)]
   rw[e];exact⟨h,hr,WY h hu⟩
  |false=>
   obtain⟨l,t,h1,h2,h3,h4⟩:=hr.disk;obtain⟨a1,a2⟩:=Qw hr hu h1 h3 h2;obtain⟨n1,n2,n3⟩:=ag9 hr.may;rw[a2];have hbs:=hr.g.bs;exact⟨_,a1,Zd h y.n (by rw[hr.c];exact n1) n2 n3 hu l t h1 (by rw[hr.c];exact h2) o_⟩) rfl
theorem ajI(c:kR)(hc:rC c=true):aj prog 20 [] [c.av] (.bI [.box 0 0,.v (.int .i64 0)]) [(0,.obs (GX 0 (ry0 c)))]:=by
 obtain⟨n,hn,h1,h5⟩:=xJ hc;exact aj.clo (B:=[(0,.obs (Dt (hb0 c n)))]) (H:=[]) (agL c n hn hc h1 h5) (Xq (kD.new hc hn h1 h5)) rfl
end
theorem Rm.to{a b c:Int}{K:Int->Prop}(hb:b≠0)(h:a.tmod b=c)(k:K c):Rm a b K:= .raw hb (by rw[h];exact k)
theorem adw(P:List UInt8)(bit mask:Int)(h0:P.length≠0)(hl:P.length<=1000000)(hbit: -9223372036854775808<=bit/\bit<=9223372036854775807)(hm:0<=mask/\mask<=4294967295)(d:Nat):
  aH prog 42 [.sl 1 P.length true (aO P),.v (.int .i64 bit),.v (.int .u32 mask)] (.own d) [(d,gI (yj P bit mask))]:=by
 obtain⟨m,rfl⟩:∃m:Nat,mask=(m:Int):=⟨mask.toNat,o_⟩;have ht1:=aqy bit (b:=8*(P.length:Int)) o_;have ht2: -(8*(P.length:Int))<bit.tmod (8*(P.length:Int)):=by
  rcases Int.le_total 0 bit with h|h
  ·have:=Int.tmod_nonneg (8*(P.length:Int)) h;omega
  ·have h3:=aqy (-bit) (b:=8*(P.length:Int)) o_;rw[Int.neg_tmod]at h3;omega
 obtain⟨k,hk,hk0⟩:∃k:Nat,bit%(8*(P.length:Int))=(k:Int)/\k<8*P.length:=by
  have h1:=Int.emod_nonneg bit (b:=8*(P.length:Int)) o_;have h2:=Int.emod_lt_of_pos bit (b:=8*(P.length:Int)) o_;exact⟨(bit%(8*(P.length:Int))).toNat,o_,o_⟩
 have hq:bit.tmod (8*(P.length:Int))=(k:Int)\/bit.tmod (8*(P.length:Int))<0/\bit.tmod (8*(P.length:Int))+8*(P.length:Int)=(k:Int):=by
  have hd:bit.tmod (8*(P.length:Int))%(8*(P.length:Int))=bit%(8*(P.length:Int)):=by
   rw[Int.tmod_def,Int.sub_mul_emod_self_left]
  rcases Int.lt_or_le (bit.tmod (8*(P.length:Int))) 0 with h|h
  ·right;refine⟨h, ?_⟩;rw[<-hk,<-hd,<-Int.add_emod_right,Int.emod_eq_of_lt o_ o_]
  ·left;rw[<-hk,<-hd,Int.emod_eq_of_lt h o_]
 have ahz:yj P bit (m:Int)=jU P k m (min 32 (8*P.length-k)):=by
  unfold yj;rw[if_neg h0,hk,apc,apc]
 rw[ahz];clear ahz hk;dsimp only[gI];have hcl:=sK 0 P (bG.bytes _) rfl o_;dsimp only[gI]at hcl;generalize hz:bit.tmod (8*(P.length:Int))=z at ht1 ht2 hq;rcases hq with hq|⟨hq,hq'⟩;all_goals
  refine K1.E 0x204001087c7 func42 ?_;repeat' ((conv=>whnf);first|refine K1.u ?_|refine K1.F1 hcl ?_|refine Rm.to o_ hz ?_|fail)
  conv=>whnf
  refine aI.mk {i:Nat//i<=32/\k+i<=8*P.length} (λ i=>⟨[(10,.v (.int .i64 (i.1:Int))),(9,.own 1),(8,.v (.int .i64 (k:Int))),(7,.v (.int .i64 (8*(P.length:Int)))),(2,.v (.int .u32 (m:Int)))],
   [(1,.row 5 1 P.length true (aO (jU P k m i.1)))],[],2⟩) (λ i=>32-i.1) ⟨0,o_,o_⟩ _
   (dO.mk' [(0,1)] _ _ _ rfl ⟨aY.int rfl,au,aY.int o_,au,au,trivial⟩ ⟨ay rfl,trivial⟩ rfl) ?_
  rintro⟨i,hi,hki⟩;dsimp only;have hend:¬ (i<32/\k+i<8*P.length)->jU P k m (min 32 (8*P.length-k))=jU P k m i:=λ h=>by rw[show min 32 (8*P.length-k)=i by omega]
  have hlen:=sF P k m i;have hnext:m.testBit i=true->jU P k m (i+1)=EZ (jU P k m i) (k+i):=λ h=>by show(if _ then _ else _)=_;rw[if_pos h]
  have ahA:¬m.testBit i=true->jU P k m (i+1)=jU P k m i:=λ h=>by show(if _ then _ else _)=_;rw[if_neg h]
  have hrow:∀j:Nat,j=(k+i)/8->(k+i)/8<(jU P k m i).length-> ∀mm,(bif Nat.beq mm j then [AV.v (.int .u8 (IntKind.u8.wrap ((BitVec.ofInt IntKind.u8.bits (((jU P k m i).getD j default).toNat:Int)^^^BitVec.ofInt IntKind.u8.bits ((2^((k+i)%8):Nat):Int)).toNat:Int)))]else aO (jU P k m i) mm)=aO (EZ (jU P k m i) (k+i)) mm:=by
   intro j hj hq;subst hj;exact agj (jU P k m i) (k+i) rfl hq (anI _ o_)
  generalize jU P k m i=T at hlen hrow hnext ahA hend⊢;have SE:k+i<8*P.length->Nat.ble (((k:Int)+(i:Int))/8).toNat.succ P.length=true:=λ h=>apm o_;clear hcl;repeat' ((conv=>whnf);first|refine K1.u ?_|refine oC.bit o_ o_ (λ _=>?_) (λ _=>?_)|refine Wr.shl (q:=(k+i)%8) o_ o_ ?_|refine vK.yes (SE o_) ?_|refine K1.o (id:=12) (nN [0,1,2,3,4,5,6,7,8,9,10,11,12,13] [(14,some [12,11,10,9,6,4,3])]) ?_|refine K1.z ?_|refine K1.y (λ _=>?_) (λ _=>?_)|fail)
  all_goals(conv=>whnf)
  ·refine⟨⟨i+1,o_,o_⟩,_,dO.mk' [] _ _ _ rfl ⟨aY.int rfl,au,au,au,au,trivial⟩ ⟨⟨_,rfl,dK.row rfl (λ mm _=>?_)⟩,trivial⟩ rfl,by show 32-(i+1)<32-i;omega⟩;show _=aO (jU P k m (i+1)) mm;rw[hnext ‹_›];exact hrow _ o_ o_ mm
  ·refine⟨⟨i+1,o_,o_⟩,_,dO.mk' [] _ _ _ rfl ⟨aY.int rfl,au,au,au,au,trivial⟩ ⟨⟨_,rfl,dK.row rfl (λ mm _=>?_)⟩,trivial⟩ rfl,by show 32-(i+1)<32-i;omega⟩;show _=aO (jU P k m (i+1)) mm;rw[ahA ‹_›]
  all_goals
   refine aU.uV d rfl rfl ?_ (au);rw[hend o_];exact dK.row hlen.symm λ _ _=>rfl
def nT(k:Nat)(ns:List Ny):List OB:=ns.map (yt k)
def ji(k:Nat)(w:Wy):OB:=wO (nT k w.ns) (GX k w.hb) (Jh w.fl)
theorem eG(k:Nat)(ns:List Ny):(nT k ns).length=ns.length:=aoO _
theorem nK{ns:List Ny}{r:Nat}(hr:r<ns.length)(o:OB):(nT k ns).getD r o=yt k (ns.getD r default):=by
 unfold nT;simp[List.getD,hr]
theorem TS(hm:k<=m)(y:Ny):(yt k y).le (yt m y):=by
 rintro w j v ⟨x,ρ,us,rfl,h⟩;exact⟨⟨x.1,x.2.mono hm⟩,ρ,us,rfl,h⟩
theorem Nk(hm:k<=m)(y:Ry):(GX k y).le (GX m y):=by
 rintro w j v ⟨x,ρ,us,rfl,h⟩;exact⟨⟨x.1,x.2.mono hm⟩,ρ,us,rfl,h⟩
section
variable{k:Nat}{T:List Ev}{H:Nat->aV}{w:Wy}
theorem ahB(i:Nat)(d:OB)(ns:List Ny):((nT k ns).getD i d).le ((nT (k+1) ns).getD i d):=by
 by_cases hi:i<ns.length
 ·rw[nK hi,nK hi];exact TS o_ _
 ·rw[aoG,aoG,aoW (by rw[eG];omega),aoW (by rw[eG];omega)];exact OB.le_refl _
theorem Zv{ns:List Ny}{r:Nat}(hr:r<ns.length){o':OB}{y':Ny}(hl:o'.le (yt (k+1) y'))(i:Nat)(d:OB):(((nT k ns).set r o').getD i d).le ((nT (k+1) (ns.set r y')).getD i d):=by
 by_cases e:i=r
 ·subst e;rw[nK (by rw[apZ];exact hr)];simp only[aoG,aqT hr,aqT (show i<(nT k ns).length by rw[eG];exact hr),Option.getD_some];exact hl
 ·have:=ahB (k:=k) i d ns;simp only[aoG,nT,ao0,List.getElem?_set_ne (aqP e)]at this⊢;exact this
theorem GY(h:lI k T H w){r:Nat}(hr:r<w.ns.length){o':OB}{y':Ny}(hl:o'.le (yt (k+1) y')):(wO ((nT k w.ns).set r o') (GX k w.hb) (Jh w.fl)).le (ji (k+1) (w.set r y')):=by
 obtain⟨h1,h5⟩:=h.five;exact amY _ _ _ _ _ (by rw[apZ,eG];exact h1) (by rw[apZ,eG];exact h5) (by rw[apZ,eG,eG];exact apZ) (GX 0 w.hb) (λ i _=>Zv hr hl i _) (Nk o_ _)
theorem GZ(h:lI k T H w){hb':OB}{y':Ry}{fl:List (Int×List UInt8)}(hl:hb'.le (GX (k+1) y')):(wO (nT k w.ns) hb' (Jh fl)).le (ji (k+1) ⟨w.c,w.ns,y',fl⟩):=by
 obtain⟨h1,h5⟩:=h.five;exact amY _ _ _ _ _ (by rw[eG];exact h1) (by rw[eG];exact h5) (by rw[eG,eG]) (GX 0 w.hb) (λ i _=>ahB i _ _) hl
theorem Nl(h:lI k T H w){fl:List (Int×List UInt8)}:(wO (nT k w.ns) (GX k w.hb) (Jh fl)).le (ji (k+1) ⟨w.c,w.ns,w.hb,fl⟩):=GZ h (Nk o_ _)
theorem yU.len{b:List UInt8}(h:yU T b):5<=b.length/\b.length<=2048:=by
 obtain⟨x,rfl,h2,_⟩:=h;exact⟨by have:=Ie x;omega,zY x h2⟩
theorem G5(h:lI k T H w)(hk:k<=480){m:Nat}{g:Hb}(hr:kD m g w.hb){to:Int}(hto:to=5\/w.has to){b:List UInt8}(hb:∀x,dS b=(x,0)-> ∀e∈x.ev,e∈T):
  ∃os' hb',os'.length=(nT k w.ns).length/\(wO os' hb' (Jh (w.arrive to b).1.fl)).le (ji (k+1) (w.arrive to b).1)/\
   aj prog 43 (wH (nT k w.ns) (GX k w.hb) (Jh w.fl) ()) [.box 0 0,.agg [.v (.int .i64 to),.sl 1 b.length true (aO b)]] (.v (.int .i64 (w.arrive to b).2)) (wH os' hb' (Jh (w.arrive to b).1.fl) ()++[]):=by
 obtain⟨h1,h5⟩:=h.five;have n1:1<=(nT k w.ns).length:=by rw[eG];exact h1
 have n5:(nT k w.ns).length<=5:=by rw[eG];exact h5
 unfold Wy.arrive;split
 ·rename_i ht;have hd:=(h.nd' ht).1;obtain⟨t0,t1⟩:=ht;obtain⟨r,rfl⟩:∃n:Nat,to=(n:Int):=⟨to.toNat,o_⟩;have hr:r<w.ns.length:=o_
  exact⟨(nT k w.ns).set r (yt (k+1) (yJ (w.nd r) b).1),GX k w.hb,apZ,GY h hr (OB.le_refl _),ahm _ _ _ _ r n5 (by rw[eG];exact hr) (by rw[nK hr];exact ahv hd hk b hb (bG.bytes _) rfl)⟩
 ·rename_i ht;obtain rfl:=hto.resolve_right ht;have hmay:∀e∈T,eH e=0:=(h.nd 0 o_).1.p.may;have hm:=ahy (y:=w.hb) hk b (bG.bytes _) rfl;obtain⟨⟨y',res⟩,e⟩:∃q,GU w.hb b=q:=⟨_,rfl⟩;obtain⟨r1,r2,r3⟩:=ahl hr h.hub hmay hb e;rw[e]at hm⊢;dsimp only at hm⊢;rcases res with x|⟨r,b'⟩
  ·exact⟨nT k w.ns,GX (k+1) y',rfl,GZ h (OB.le_refl _),Xo _ _ _ _ n1 n5 hm⟩
  ·obtain⟨a1,a2⟩:=r3 r b' rfl;have hn:=h.n;have hc:=h.hc;have a3:=a2.len;have a4:=h.len;exact⟨nT k w.ns,GX (k+1) y',rfl,GZ h (OB.le_refl _),TN _ _ _ _ n1 n5 r (by rw[eG];rw[hc]at a1;omega) b' _ (Qo w.fl o_ _ b' o_ (bG.bytes _) rfl) hm⟩
theorem adx(h:lI k T H w)(hk:k<=480){m:Nat}{g:Hb}(hr:kD m g w.hb)(s:Stp)(hq:4<=s.k/\s.k<=7)(hbit: -9223372036854775808<=s.bit/\s.bit<=9223372036854775807)(hmask:0<=s.mask/\s.mask<=4294967295):
  aj prog 11 [(0,.obs (ji k w))] [.box 0 0,s.av] (.v (.int .i64 (w.flight s).2)) [(0,.obs (ji (k+1) (w.flight s).1))]:=by
 obtain⟨h1,h5⟩:=h.five;have n1:1<=(nT k w.ns).length:=by rw[eG];exact h1
 have n5:(nT k w.ns).length<=5:=by rw[eG];exact h5
 have hlen:=h.len;obtain⟨q,r,ed,i,bit,mask,keep⟩:=s;dsimp only at hq hbit hmask;obtain⟨q,rfl⟩:∃n:Nat,q=(n:Int):=⟨q.toNat,o_⟩;have hq4:q=4\/q=5\/q=6\/q=7:=o_
 unfold Wy.flight;dsimp only;split
 ·rename_i hi;refine(ahb _ _ _ n1 n5 hq4 r ed i bit mask keep ?_).pU (Nl h);unfold Xf;split
  ·exact MN w.fl o_ i hi
  ·exact Zj w.fl o_ i hi
 rename_i hi;obtain⟨i,rfl⟩:∃n:Nat,i=(n:Int):=⟨i.toNat,o_⟩;have hlt:i<w.fl.length:=o_
 rw[apc];have hmem:w.fl.getD i (0,[])∈w.fl:=by simp[List.getD,hlt]
 obtain⟨hto,hf⟩:=h.fl _ hmem;have hfl:=hf.len;have he:=h.less (fl:=w.fl.eraseIdx i) (λ f hf=>List.mem_of_mem_eraseIdx hf) (by rw[aqI];split<;>omega);have htk:=ac2 w.fl o_ i hlt (by show(w.fl.getD i (0,[])).2.length<=_;omega);have hcp:=ac1 w.fl o_ i hlt (by show(w.fl.getD i (0,[])).2.length<=_;omega);rw[show w.fl.getD i default=w.fl.getD i (0,[])from rfl]at htk hcp;generalize w.fl.getD i (0,[])=f at hto hf hfl htk hcp;obtain⟨to,b⟩:=f;dsimp only[flC]at*;rcases hq4 with rfl|rfl|rfl|rfl
 ·rw[if_neg d_,if_neg d_,if_pos d_];obtain⟨os',hb',a1,a2,a3⟩:=G5 he hk hr hto hf.take;exact(ahc _ os' _ hb' _ _ _ n1 n5 a1 (q:=4) (.inl rfl) r ed i bit mask keep b b htk (λ h=>absurd h d_) (λ _=>rfl) a3).pU a2
 ·rw[if_neg d_,if_pos d_];obtain⟨os',hb',a1,a2,a3⟩:=G5 h hk hr hto hf.take;exact(ahc _ os' _ hb' _ _ _ n1 n5 a1 (q:=5) (.inr (.inl rfl)) r ed i bit mask keep b b hcp (λ h=>absurd h d_) (λ _=>rfl) a3).pU a2
 ·rw[if_pos d_];exact(alK _ _ _ _ n1 n5 r ed i bit mask keep htk).pU (Nl h)
 ·rw[if_neg d_,if_neg d_,if_neg d_];obtain⟨os',hb',a1,a2,a3⟩:=G5 he hk hr hto (b:=yj b bit mask) λ x hx=>by
   rcases hf.akd bit mask with e|⟨z,e,e'⟩
   ·rw[e]at hx;exact hf.take x hx
   ·rw[e,e']at hx;cases hx
  exact(ahc _ os' _ hb' _ _ _ n1 n5 a1 (q:=7) (.inr (.inr rfl)) r ed i bit mask keep b (yj b bit mask) htk (λ _=>(adw b bit mask o_ o_ hbit hmask 0).thaw) (λ h=>absurd rfl h) a3).pU a2
theorem TT(h:lI k T H w)(hk:k<=480){r:Nat}(hr:r<w.ns.length){q:Nat}(hq:q=1\/q=2\/q=3)(ed:Ed)(at' bit mask keep:Int){b:List UInt8×Int}(hb:b.2=0->yU T b.1)(hm:aj prog (MZ q) [(0,.obs (yt k (w.ns.getD r default)))] [.box 0 0] (Nh b) [(0,.obs (yt k (w.ns.getD r default)))]):
  aj prog 11 [(0,.obs (ji k w))] [.box 0 0,Stp.av ⟨(q:Int),(r:Int),ed,at',bit,mask,keep⟩] (.v (.int .i64 (w.send b).2)) [(0,.obs (ji (k+1) (w.send b).1))]:=by
 obtain⟨h1,h5⟩:=h.five;have n5:(nT k w.ns).length<=5:=by rw[eG];exact h5
 rw[<-nK hr (GX k w.hb)]at hm;unfold Wy.send;unfold Nh at hm;split
 ·rename_i h0;rw[if_pos h0]at hm;have hl:=(hb h0).len;have:=h.len;exact(adk _ _ _ _ r n5 (by rw[eG];exact hr) hq ed at' bit mask keep b.1 hm (Qo w.fl o_ 5 b.1 o_ (bG.bytes _) rfl)).pU (Nl h)
 ·rename_i h0;rw[if_neg h0]at hm;exact(adl _ _ _ r n5 (by rw[eG];exact hr) hq ed at' bit mask keep h0 hm).pU (Nl h)
theorem ajJ(h:lI k T H w)(hk:k<=480){m:Nat}{g:Hb}(hr:kD m g w.hb)(s:Stp)(hbit: -9223372036854775808<=s.bit/\s.bit<=9223372036854775807)(hmask:0<=s.mask/\s.mask<=4294967295):
  aj prog 11 [(0,.obs (ji k w))] [.box 0 0,s.av] (.v (.int .i64 (w.step s).2)) [(0,.obs (ji (k+1) (w.step s).1))]:=by
 obtain⟨h1,h5⟩:=h.five;have n1:1<=(nT k w.ns).length:=by rw[eG];exact h1
 have n5:(nT k w.ns).length<=5:=by rw[eG];exact h5
 have hno:¬w.has s.r->s.r<0\/((nT k w.ns).length:Int)<=s.r:=λ h=>by
  rw[eG];unfold Wy.has at h;omega
 unfold Wy.step;split
 ·rename_i h4;exact adx h hk hr s h4 hbit hmask
 rename_i h4;split
 ·rename_i h8;unfold Wy.power;split
  ·rename_i hh;have hd:=(h.nd' hh).1;obtain⟨q,r,ed,i,bit,mask,keep⟩:=s;dsimp only at*;obtain⟨t0,t1⟩:=hh;obtain⟨r,rfl⟩:∃n:Nat,r=(n:Int):=⟨r.toNat,o_⟩;have hr:r<w.ns.length:=o_
   have hr':r<(nT k w.ns).length:=by rw[eG];exact hr
   split
   ·rename_i e;subst e;exact(Na 0 o_ _ _ _ (yt k (w.nd r).off) r n5 hr' ed i bit mask keep 0 (by rw[nK hr];exact ads k _)).pU (GY h hr (TS o_ _))
   split
   ·rename_i e;subst e;exact(Na 1 o_ _ _ _ (yt k (qy (w.nd r)).1) r n5 hr' ed i bit mask keep _ (by rw[nK hr];exact adr hd hk)).pU (GY h hr (TS o_ _))
   ·obtain rfl:q=10:=o_
    exact(Na 2 o_ _ _ _ (yt k (ahf (w.nd r) keep)) r n5 hr' ed i bit mask keep 0 (by rw[nK hr];exact ajE k _ _)).pU (GY h hr (TS o_ _))
  rename_i hh;split
  ·rename_i e5;obtain⟨q,r,ed,i,bit,mask,keep⟩:=s;dsimp only at*;subst e5;split
   ·rename_i e;subst e;exact(Nb 0 o_ _ _ _ _ n1 n5 ed i bit mask keep 0 (adu k w.hb)).pU (GZ h (Nk o_ _))
   split
   ·rename_i e;subst e;exact(Nb 1 o_ _ _ _ _ n1 n5 ed i bit mask keep _ (adv hk)).pU (GZ h (Nk o_ _))
   ·obtain rfl:q=10:=o_
    exact(Nb 2 o_ _ _ _ _ n1 n5 ed i bit mask keep 0 (ajH k w.hb keep)).pU (GZ h (Nk o_ _))
  ·rename_i e5;exact(ake _ _ _ n1 n5 s ⟨hno hh,.inr (.inr ⟨h8.1,h8.2,e5⟩)⟩).pU (Nl h)
 rename_i h8;split
 ·rename_i hh;exact(ake _ _ _ n1 n5 s ⟨hno hh,o_⟩).pU (Nl h)
 rename_i hh;have hh:w.has s.r:=aqV.1 hh;have hd:=(h.nd' hh).1;obtain⟨q,r,ed,i,bit,mask,keep⟩:=s;dsimp only at*;obtain⟨t0,t1⟩:=hh;obtain⟨r,rfl⟩:∃n:Nat,r=(n:Int):=⟨r.toNat,o_⟩;have hr:r<w.ns.length:=o_
 have hr':r<(nT k w.ns).length:=by rw[eG];exact hr
 split
 ·rename_i e;subst e;obtain⟨v,-,hv⟩:=ahu hd hk ed;exact(ag0 _ _ _ r n5 hr' ed i bit mask keep (by rw[nK hr];exact hv)).pU (GY h hr (OB.le_refl _))
 split
 ·rename_i e;subst e;exact TT h hk hr (q:=1) (.inl rfl) ed i bit mask keep (aa2 hd) (ahw hd)
 split
 ·rename_i e;subst e;exact TT h hk hr (q:=2) (.inr (.inl rfl)) ed i bit mask keep (TQ hd hk (.inl rfl)) (adt hd hk)
 split
 ·rename_i e;subst e;exact TT h hk hr (q:=3) (.inr (.inr rfl)) ed i bit mask keep (TQ hd hk (.inr rfl)) (ajF hd hk)
 split
 ·rename_i e;subst e;exact(ac3 _ _ _ r n5 hr' ed i bit mask keep (by rw[nK hr];exact adq hd hk)).pU (GY h hr (OB.le_refl _))
 ·exact(amZ _ _ _ r n5 hr' q ed i bit mask keep o_).pU (Nl h)
end
section
variable{m:Nat}{g:Hb}{w:Wy}
theorem Zw{y:Ry}(hr:kD m g y):∃g',kD m g' (rstart y).1:=by
 cases hu:g.up with
 |true=>
  have e:rstart y=(y,19):=by unfold rstart;rw[if_pos (hr.up.symm.trans hu)]
  rw[e];exact⟨g,hr⟩
 |false=>
  obtain⟨l,t,h1,h2,h3,h4⟩:=hr.disk;exact⟨_,(Qw hr hu h1 h3 h2).1⟩
theorem DC(hr:kD m g w.hb)(hm:m<=1000)(to:Int)(b:List UInt8):∃g,kD (m+1) g (w.arrive to b).1.hb:=by
 unfold Wy.arrive;split
 ·exact⟨g,hr.mono o_⟩
 ·obtain⟨h',y',res,-,e,h3⟩:=Xe hr hm b;rw[e];rcases res with x|⟨r,b'⟩<;>exact⟨h',h3⟩
theorem ahC(hr:kD m g w.hb)(hm:m<=1000)(s:Stp):∃g,kD (m+1) g (w.step s).1.hb:=by
 have stay:∃g,kD (m+1) g w.hb:=⟨g,hr.mono o_⟩;unfold Wy.step;split
 ·unfold Wy.flight;split
  ·exact stay
  split
  ·exact stay
  split
  ·exact DC hr hm _ _
  split
  ·exact DC (w:=⟨w.c,w.ns,w.hb,w.fl.eraseIdx s.at_.toNat⟩) hr hm _ _
  ·exact DC (w:=⟨w.c,w.ns,w.hb,w.fl.eraseIdx s.at_.toNat⟩) hr hm _ _
 split
 ·unfold Wy.power;split
  ·split
   ·exact stay
   split
   ·exact stay
   ·exact stay
  split
  ·split
   ·exact⟨_,(Qv hr).mono o_⟩
   split
   ·obtain⟨g',h⟩:=Zw hr;exact⟨g',h.mono o_⟩
   ·exact⟨_,(aaY hr _).mono o_⟩
  ·exact stay
 have hs:∀b,∃g,kD (m+1) g (w.send b).1.hb:=λ b=>by
  unfold Wy.send;split<;>exact stay
 split
 ·exact stay
 split
 ·exact stay
 split
 ·exact hs _
 split
 ·exact hs _
 split
 ·exact hs _
 split
 ·exact stay
 ·exact stay
end
def uM(k:Nat)(w:Wy):Prop:=(∃T H,lI k T H w)/\ ∃g,kD k g w.hb
section
variable{k:Nat}{w:Wy}
theorem uM.step(h:uM k w)(hk:k<=480)(s:Stp):uM (k+1) (w.step s).1:=by
 obtain⟨⟨T,H,h1⟩,g,h2⟩:=h;obtain⟨T',H',-,h3⟩:=h1.step hk h2 s;exact⟨⟨T',H',h3⟩,ahC h2 o_ s⟩
theorem am1:Pool 0 [] (λ _=>aW):=⟨Inv.nil,λ x hx=>(by cases hx),λ p hp=>by rcases(show p=0\/p=1\/p=2\/p=3\/p=4 by omega)with rfl|rfl|rfl|rfl|rfl<;>exact apP 0,λ e h=>(by cases h),λ e h=>(by cases h)⟩
theorem uM.new{c:kR}(hc:rC c=true):uM 0 (wy0 c):=by
 obtain⟨n,hn,h1,h5⟩:=xJ hc;have hmc:=hc;simp only[rC,aon,uw]at hmc;have hns:(wy0 c).ns=(List.range n).map (ny0 c):=by show(List.range c.n.toNat).map _=_;rw[hn,apc]
 refine⟨⟨[],λ _=>aW,hc, ?_,λ r hr=>?_,λ _ _=>rfl,rfl,λ r e he=>?_,λ f hf=>(by cases hf),aoH 0⟩,_,kD.new hc hn h1 h5⟩
 ·rw[hns,aoO,aqC];exact hn
 ·rw[hns,aoO,aqC]at hr;have e:(wy0 c).ns.getD r default=ny0 c r:=by
   rw[hns];simp[List.getD,hr]
  rw[e];exact⟨⟨am1,hc,by show r<5;omega,by show(r:Int)<c.n;omega,Good.nil _,rfl,⟨apP 0,Tj [] r⟩,by show(0:Int)<=c.q;omega,λ e h=>(by cases h),by show(0:Int)<=c.h;omega⟩,rfl,rfl⟩
 ·have e0:((wy0 c).hb.p.s r).l=[]:=by
   show(rp0.s r).l=[];rcases aoP r 5 with h|h
   ·rcases(show r=0\/r=1\/r=2\/r=3\/r=4 by omega)with rfl|rfl|rfl|rfl|rfl<;>rfl
   ·show(rp0.ps.getD r default).l=[];rw[aoG,aoW (by show 5<=r;omega)];rfl
  rw[e0]at he;cases he
theorem Np{c:kR}(hc:rC c=true):aj prog 9 [] [c.av] (.bI [.box 0 0,.v (.int .i64 0)]) [(0,.obs (ji 0 (wy0 c)))]:=by
 obtain⟨n,hn,h1,h5⟩:=xJ hc;have:=ajm c n hn h1 h5 (λ r=>yt 0 (ny0 c r)) _ _ (ajI c hc) agW λ r hr=>ajG c r hc o_;unfold ji nT wy0;rw[hn,apc,List.map_map];exact this
theorem yu(h:uM k w)(hk:k<=480)(s:Stp)(hbit: -9223372036854775808<=s.bit/\s.bit<=9223372036854775807)(hmask:0<=s.mask/\s.mask<=4294967295):
  aj prog 11 [(0,.obs (ji k w))] [.box 0 0,s.av] (.v (.int .i64 (w.step s).2)) [(0,.obs (ji (k+1) (w.step s).1))]:=by
 obtain⟨⟨T,H,h1⟩,g,h2⟩:=h;exact ajJ h1 hk h2 s hbit hmask
end
theorem Ag(w:Wy)(s:Stp):(w.step s).1.ns.length=w.ns.length/\(w.step s).1.c=w.c:=by
 have ha:∀(v:Wy)(to:Int)(b:List UInt8),(v.arrive to b).1.ns.length=v.ns.length/\(v.arrive to b).1.c=v.c:=λ v to b=>by
  unfold Wy.arrive;split
  ·exact⟨apZ ..,rfl⟩
  ·split<;>exact⟨rfl,rfl⟩
 have hs:∀b,(w.send b).1.ns.length=w.ns.length/\(w.send b).1.c=w.c:=λ b=>by
  unfold Wy.send;split<;>exact⟨rfl,rfl⟩
 have st:∀r y,(w.set r y).ns.length=w.ns.length/\(w.set r y).c=w.c:=λ r y=>⟨apZ ..,rfl⟩;unfold Wy.step;split
 ·unfold Wy.flight;split
  ·exact⟨rfl,rfl⟩
  split
  ·exact⟨rfl,rfl⟩
  split
  ·exact ha w _ _
  split
  ·exact ha ⟨w.c,w.ns,w.hb,w.fl.eraseIdx s.at_.toNat⟩ _ _
  ·exact ha ⟨w.c,w.ns,w.hb,w.fl.eraseIdx s.at_.toNat⟩ _ _
 split
 ·unfold Wy.power;split
  ·split
   ·exact st _ _
   split
   ·exact st _ _
   ·exact st _ _
  split
  ·split
   ·exact⟨rfl,rfl⟩
   split<;>exact⟨rfl,rfl⟩
  ·exact⟨rfl,rfl⟩
 split
 ·exact⟨rfl,rfl⟩
 split
 ·exact st _ _
 split
 ·exact hs _
 split
 ·exact hs _
 split
 ·exact hs _
 split
 ·exact st _ _
 ·exact⟨rfl,rfl⟩
section
variable{w:Wy}{s:Stp}{y:Ny}
theorem ady(h:s.k<0\/12<=s.k):w.step s=(w,1):=by
 unfold Wy.step;rw[if_neg o_,if_neg o_];split
 ·rfl
 ·rw[if_neg o_,if_neg o_,if_neg o_,if_neg o_,if_neg o_]
theorem TU(hr:¬w.has s.r)(h5:¬ (s.r=5/\8<=s.k/\s.k<=10))(hk:¬ (4<=s.k/\s.k<=7)):w.step s=(w,1):=by
 unfold Wy.step;rw[if_neg hk];split
 ·unfold Wy.power;rw[if_neg hr,if_neg o_]
 ·first|rfl|fail
theorem TV(hk:4<=s.k/\s.k<=7)(ha:s.at_<0\/(w.fl.length:Int)<=s.at_):w.step s=(w,24):=by
 unfold Wy.step;rw[if_pos hk];unfold Wy.flight;rw[if_pos ha]
theorem step_drop(hk:s.k=6)(ha:¬ (s.at_<0\/(w.fl.length:Int)<=s.at_)):w.step s=(⟨w.c,w.ns,w.hb,w.fl.eraseIdx s.at_.toNat⟩,0):=by
 unfold Wy.step;rw[if_pos o_];unfold Wy.flight;rw[if_neg ha,if_pos hk]
end
end Go.Proofs.YtifjccndenojlaaGreat
