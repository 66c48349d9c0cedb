/-
  Contracts of the walk:WbB,WdE,WcE,WcH,WcL,WcN,NdN,WdF.
-/
import Derived.Test.YtkimgljckickcaaGreatRa40
import Derived.Test.YtkimgljckickcaaGreatRa31
import Derived.Test.YtkimgljckickcaaGreatRa16
import Derived.Test.YtkimgljckickcaaGreatRa33
import Derived.Test.YtkimgljckickcaaGreatRa29
import Derived.Test.YtkimgljckickcaaGreatRa35
import Derived.Test.YtkimgljckickcaaGreatRa34
import Derived.Test.YtkimgljckickcaaGreatRa36
import Derived.Test.YtkimgljckickcaaGreatRa39
import Derived.Test.YtkimgljckickcaaGreatRa30
set_option maxHeartbeats 16000000
set_option maxRecDepth 100000
set_option linter.unusedVariables false
set_option linter.unusedSimpArgs false
namespace Go.Proofs.YtkimgljckickcaaGreat
open Go.RowKit
open Go.Proofs.Tryz
variable{r:AV}{f:FuncId}{ho:List (Nat×AO)}{aW:List AV}{k m:Nat}{y:Ny}
section
variable{k:Nat}{T:List Ev}{H:Nat->aS}{y y':Ny}{w:Wy}
theorem Pool.mono(h:Pool k T H){m:Nat}(hm:k<=m):Pool m T H:=⟨h.inv,h.tr,λ p hp=>by have:=h.le p hp;omega,h.may,λ e he=>by have:=h.h e he;omega⟩
theorem sU.to(ho:sU k T H y){m:Nat}{T':List Ev}{H':Nat->aS}(hP:Pool m T' H')(hT:∀e∈T,e∈T')(hH:H' y.r=H y.r):sU m T' H' y:=
 ⟨hP,ho.may,ho.r,ho.rn,⟨λ e he=>hT e (ho.g.mem e he),ho.g.seq,ho.g.ord⟩,hH.trans ho.hc,ho.s,ho.q,λ e he=>hT e (ho.h e he),ho.hl⟩
theorem sU.mono(ho:sU k T H y){m:Nat}(hm:k<=m):sU m T H y:=ho.to (ho.p.mono hm) (λ _ h=>h) rfl
theorem sU.off(ho:sU k T H y):sU k T H y.off:=
 ⟨ho.p,ho.may,ho.r,ho.rn,ho.g,ho.hc,ho.s,ho.q,(λ e he=>by cases he),by
  have hmc:=ho.may;simp only[qj,amY,tN]at hmc;show(0:Int)<=y.c.h;omega⟩
def NTo(k:Nat)(T:List Ev)(H:Nat->aS)(y y':Ny):Prop:= ∃T' H',(∀e∈T,e∈T')/\(∀q,q≠y.r->H' q=H q)/\sU (k+1) T' H' y'/\y'.c=y.c/\y'.r=y.r
theorem gY(h:sU k T H y')(hc:y'.c=y.c)(hr:y'.r=y.r):NTo k T H y y':=⟨T,H,λ _ h=>h,λ _ _=>rfl,h.mono o_,hc,hr⟩
theorem Rt(ho:sU k T H y)(h:NTo k T H y y')(x:Rc):NTo k T H y (wrY y y' x).1:=by
 unfold wrY;split
 ·split
  ·obtain⟨T',H',h1,h2,h3,h4,h5⟩:=h;exact⟨T',H',h1,h2,h3.off,h4,h5⟩
  ·exact gY ho.off rfl rfl
 ·exact h
theorem af0(ho:sU k T H y)(hk:k<=480)(e:Ed):NTo k T H y (uo y e).1:=by
 unfold uo;split
 ·exact gY ho rfl rfl
 split
 ·exact gY ho rfl rfl
 rename_i h1;split
 ·exact gY ho rfl rfl
 rename_i h2;have h1:nG y.c.l y.c.p (qV y.log) e=0:=by simpa using h1
 obtain⟨hP,hG,hC⟩:=O9 ho hk (Ll h1);have hin:=oz y.clk ho.r ho.r;rw[if_pos rfl]at hin;have hs:=ho.s;refine Rt ho ?_ _;refine⟨_,_,λ e he=>anv _ he,λ q hq=>by rw[lu,if_neg hq],⟨hP,ho.may,ho.r,ho.rn,hG,by rw[lu,if_pos rfl];exact hC.symm,⟨hs.1, ?_⟩, ?_,λ e he=>anv _ (ho.h e he),ho.hl⟩,rfl,rfl⟩
 ·show y.sent<=(cZ (y.log++[Ho y e])).at y.r;rw[hC];omega
 ·show((kL y.r y.sent (y.log++[Ho y e])).length:Int)<=y.c.q;rw[Ap];split
  ·rw[am0];have:((kL y.r y.sent y.log).length:Int)=y.out.length:=rfl;simp only[anb,anD];omega
  ·exact ho.q
theorem Yf(ho:sU k T H y)(hu:y.up=true)(u:Int):NTo k T H y (Ii y u).1:=by
 unfold Ii;split
 ·exact gY ho rfl rfl
 have hs:=ho.s;have hb:y.sent<=lC y u/\lC y u<=y.clk.at y.r:=by
  unfold lC;split<;>split<;>omega
 refine Rt ho ?_ _;refine gY ⟨ho.p,ho.may,ho.r,ho.rn,ho.g,ho.hc,⟨by show 0<=lC y u;omega,hb.2⟩, ?_,ho.h,ho.hl⟩ rfl rfl;have h1:=(ho.g.seq.out ho.r hs.1).1;have h2:=(ho.g.seq.out ho.r (s:=lC y u) o_).1;have h3:=ho.q;show((kL y.r (lC y u) y.log).length:Int)<=y.c.q;have h3:((kL y.r y.sent y.log).length:Int)<=y.c.q:=h3;rw[h2];rw[h1]at h3;have hc:(cZ y.log).at y.r=y.clk.at y.r:=rfl;split at h3<;>split<;>omega
theorem ake(ho:sU k T H y)(hu:y.up=true)(l:List Ev)(hl:∀e∈l,e∈T):NTo k T H y (evY y l).1:=by
 obtain⟨⟨d,w,c'⟩,hd⟩:∃q,gI y.clk (y.held++l)=q:=⟨_,rfl⟩;obtain⟨g1,g2,g3,g4,g5⟩:=KI ho.r ho.p.inv ho.hc ho.g (l:=y.held++l) (λ e he=>(am6.1 he).elim (ho.h e) (hl e)) hd;obtain⟨hP,hcc,hout⟩:=Lm ho g2 g3 g4 g5;unfold evY;rw[hd];dsimp only;split
 ·exact gY ho rfl rfl
 rename_i hh;split
 ·exact gY ⟨ho.p,ho.may,ho.r,ho.rn,ho.g,ho.hc,ho.s,ho.q,g1,by show(w.length:Int)<=y.c.h;omega⟩ rfl rfl
 refine Rt ho ?_ _;refine⟨T,_,λ _ h=>h,λ q hq=>by rw[lu,if_neg hq],⟨hP.mono o_,ho.may,ho.r,ho.rn,g3,hcc,⟨ho.s.1, ?_⟩, ?_,g1,by show(w.length:Int)<=y.c.h;omega⟩,rfl,rfl⟩
 ·show y.sent<=(cZ (y.log++d)).at y.r;rw[Ro ho.r d y.log g5 λ e he=>by
   have:=Yd (ho.p.may e (g3.mem e (anx _ he)));omega]
  exact ho.s.2
 ·show((kL y.r y.sent (y.log++d)).length:Int)<=y.c.q;rw[hout];exact ho.q
theorem af2(ho:sU k T H y)(b:List UInt8)(hb:∀x,eP b=(x,0)-> ∀e∈x.ev,e∈T):NTo k T H y (AY y b).1:=by
 unfold AY;split
 ·exact gY ho rfl rfl
 rename_i hu;split
 ·exact gY ho rfl rfl
 rename_i hx;unfold Ye;split
 ·exact gY ho rfl rfl
 have hu:y.up=true:=by simpa using hu
 split
 ·exact Yf ho hu _
 ·refine ake ho hu _ (hb (eP b).1 ?_);rw[<-(show(eP b).2=0 by simpa using hx)]
theorem abX(ho:sU k T H y):NTo k T H y (xI y).1:=by
 unfold xI;split
 ·exact gY ho rfl rfl
 refine Rt ho ?_ _;exact gY ⟨ho.p,ho.may,ho.r,ho.rn,ho.g,ho.hc,ho.s,ho.q,ho.h,ho.hl⟩ rfl rfl
theorem abY(ho:sU k T H y):NTo k T H y (uN y).1:=by
 unfold uN;split
 ·exact gY ho rfl rfl
 ·have:=ho.off;exact gY ⟨ho.p,ho.may,ho.r,ho.rn,ho.g,ho.hc,ho.s,ho.q,this.h,this.hl⟩ rfl rfl
theorem ah2(ho:sU k T H y)(q:Int):NTo k T H y (afT y q):=gY ⟨ho.p,ho.may,ho.r,ho.rn,ho.g,ho.hc,ho.s,ho.q,ho.h,ho.hl⟩ rfl rfl
theorem kZ.nd'(h:kZ k T H w){r:Int}(hr:w.has r):sU k T H (w.nd r)/\(w.nd r).c=w.c/\((w.nd r).r:Int)=r:=by
 obtain⟨h1,h2,h3⟩:=h.nd r.toNat (by have:=hr.1;have:=hr.2;omega);exact⟨h1,h2,by have:=hr.1;show((w.ns.getD r.toNat default).r:Int)=r;omega⟩
theorem kZ.set(h:kZ k T H w){r:Int}(hr:w.has r)(ht:NTo k T H (w.nd r) y'):∃T' H',(∀e∈T,e∈T')/\kZ (k+1) T' H' (w.set r y'):=by
 obtain⟨T',H',h1,h2,h3,h4,h5⟩:=ht;obtain⟨a1,a2,a3⟩:=h.nd' hr;have hl:(w.set r y').ns.length=w.ns.length:=aoB;have hr0:=hr.1;have hr1:=hr.2;refine⟨T',H',h1,h.c,by rw[hl];exact h.n,λ q hq=>?_,λ q hq=>?_,h.hc,λ q e he=>h1 e (h.hub q e he),λ f hf=>?_,by have:=h.len;show w.fl.length<=_;omega⟩
 ·rw[hl]at hq;obtain⟨b1,b2,b3⟩:=h.nd q hq;by_cases e:q=r.toNat
  ·subst e;rw[show(w.set r y').ns.getD r.toNat default=y' by show(w.ns.set r.toNat y').getD r.toNat default=y';simp[List.getD,hq]];exact⟨h3,h4.trans a2,o_⟩
  ·rw[show(w.set r y').ns.getD q default=w.ns.getD q default by show(w.ns.set r.toNat y').getD q default=_;simp[List.getD,aoJ,apn e]];exact⟨b1.to h3.p h1 (h2 _ o_),b2,b3⟩
 ·rw[hl]at hq;rw[h2 q o_];exact h.z q hq
 ·obtain⟨c1,x,c2,c3,c4⟩:=h.fl f hf;exact⟨c1.imp id λ hh=>by unfold Wy.has at hh⊢;rw[hl];exact hh,x,c2,c3,λ e he=>h1 e (c4 e he)⟩
theorem kZ.fly(h:kZ k T H w){hb:Ry}{fl:List (Int×List UInt8)}(hc:hb.c=w.c)(hh:∀r,∀e∈(hb.p.s r).l,e∈T)(hf:∀f∈fl,(f.1=5\/w.has f.1)/\yj T f.2)(hl:fl.length<=k+1):kZ (k+1) T H ⟨w.c,w.ns,hb,fl⟩:=
 ⟨h.c,h.n,λ r hr=>by obtain⟨a,b,c⟩:=h.nd r hr;exact⟨a.mono o_,b,c⟩,h.z,hc,hh,hf,hl⟩
theorem kZ.mono(h:kZ k T H w){m:Nat}(hm:k<=m):kZ m T H w:=
 ⟨h.c,h.n,λ r hr=>by obtain⟨a,b,c⟩:=h.nd r hr;exact⟨a.mono hm,b,c⟩,h.z,h.hc,h.hub,h.fl,anK h.len hm⟩
theorem kZ.five(h:kZ k T H w):1<=w.ns.length/\w.ns.length<=5:=by
 have hn:=h.n;have hmc:=h.c;simp only[qj,amY,tN]at hmc;omega
theorem kZ.send(h:kZ k T H w){b:List UInt8×Int}(hb:b.2=0->yj T b.1):kZ (k+1) T H (w.send b).1:=by
 unfold Wy.send;split
 ·rename_i h0;refine h.fly h.hc h.hub (λ f hf=>?_) (by rw[am0];have:=h.len;simp only[anb,anD];omega);rcases am6.1 hf with hf|hf
  ·exact h.fl f hf
  ·rw[amZ.1 hf];exact⟨.inl rfl,hb h0⟩
 ·exact h.mono o_
theorem Ph(ho:sU k T H y)(hl:y.out.length≠0):jW (ZA y)=true:=by
 have hbd:=ho.bounds;have hr:=ho.r;refine aj7 (.inl ⟨rfl, ?_,λ e he=>?_⟩) o_ o_ (by rw[am5];omega) λ e he=>ho.p.may e (ho.g.mem e (ana.1 (an7 he)).1)
 ·rw[am5];omega
 ·have:=(ana.1 (an7 he)).2;unfold Rl at this;exact(of_decide_eq_true this).1
theorem Lp(ho:sU k T H y)(hk:k<=480){q:Int}(hq:q=3\/q=5):jW (abW y q)=true:=by
 have hat:=ho.g.at_ ho.p ho.r ho.hc;have hr:=ho.r;exact aj6 hq o_ o_ λ p=>by
  have:=hat p;show 0<=(cZ y.log).at p/\(cZ y.log).at p<=_;omega
theorem ZC(ho:sU k T H y)(h:(Pg y).2=0):yj T (Pg y).1:=by
 unfold Pg at h⊢;split
 ·rename_i h1;rw[if_pos h1]at h;cases h
 rename_i h1;rw[if_neg h1]at h;split
 ·rename_i h2;rw[if_pos h2]at h;cases h
 rename_i h2;exact⟨_,rfl,Ph ho h2,λ e he=>ho.g.mem e (ana.1 (an7 he)).1⟩
theorem Ru(ho:sU k T H y)(hk:k<=480){q:Int}(hq:q=3\/q=5)(h:(Rq y q).2=0):yj T (Rq y q).1:=by
 unfold Rq at h⊢;split
 ·rename_i h1;rw[if_pos h1]at h;cases h
 exact⟨_,rfl,Lp ho hk hq,λ e he=>by cases he⟩
theorem kZ.arrive(h:kZ k T H w){m:Nat}{g:Hb}(hr:jX m g w.hb){to:Int}{b:List UInt8}(hb:∀x,eP b=(x,0)-> ∀e∈x.ev,e∈T):∃T' H',(∀e∈T,e∈T')/\kZ (k+1) T' H' (w.arrive to b).1:=by
 unfold Wy.arrive;split
 ·rename_i ht;exact h.set ht (af2 (h.nd' ht).1 b hb)
 ·obtain⟨⟨hb',res⟩,e⟩:∃q,KZ w.hb b=q:=⟨_,rfl⟩;have hmay:∀e∈T,dU e=0:=(h.nd 0 (by have:=h.five;omega)).1.p.may;obtain⟨r1,r2,r3⟩:=afZ hr h.hub hmay hb e;rw[e];refine⟨T,H,λ _ h=>h, ?_⟩;rcases res with x|⟨r,b'⟩
  ·exact h.fly (r1.trans h.hc) r2 h.fl (Nat.le_succ_of_le h.len)
  ·obtain⟨a1,a2⟩:=r3 r b' rfl;refine h.fly (r1.trans h.hc) r2 (λ f hf=>?_) (by rw[am0];have:=h.len;simp only[anb,anD];omega);rcases am6.1 hf with hf|hf
   ·exact h.fl f hf
   ·rw[amZ.1 hf];exact⟨.inr ⟨by show 0<=(r:Int);omega,by rw[<-h.n,<-h.hc];exact a1⟩,a2⟩
theorem kZ.less(h:kZ k T H w){fl:List (Int×List UInt8)}(hf:∀f∈fl,f∈w.fl)(hl:fl.length<=w.fl.length):kZ k T H ⟨w.c,w.ns,w.hb,fl⟩:=
 ⟨h.c,h.n,h.nd,h.z,h.hc,h.hub,λ f h'=>h.fl f (hf f h'),anK hl h.len⟩
theorem kZ.step(h:kZ k T H w)(hk:k<=480){m:Nat}{g:Hb}(hr:jX m g w.hb)(s:Stp):∃T' H',(∀e∈T,e∈T')/\kZ (k+1) T' H' (w.step s).1:=by
 have stay:∀{w':Wy},kZ (k+1) T H w'-> ∃T' H',(∀e∈T,e∈T')/\kZ (k+1) T' H' w':=λ h=>⟨T,H,λ _ h=>h,h⟩;unfold Wy.step;split
 ·unfold Wy.flight;split
  ·exact stay (h.mono o_)
  rename_i hat;have hlt:s.at_.toNat<w.fl.length:=o_
  have hmem:w.fl.getD s.at_.toNat (0,[])∈w.fl:=by simp[List.getD,hlt]
  have hf:=(h.fl _ hmem).2;have he:=h.less (fl:=w.fl.eraseIdx s.at_.toNat) (λ f hf=>List.mem_of_mem_eraseIdx hf) (by rw[List.length_eraseIdx];split<;>omega);split
  ·exact stay (he.mono o_)
  split
  ·exact h.arrive hr hf.take
  split
  ·exact kZ.arrive he hr hf.take
  ·refine kZ.arrive he hr λ x hx=>?_;rcases hf.aiH s.bit s.mask with e|⟨z,e,e'⟩
   ·rw[e]at hx;exact hf.take x hx
   ·rw[e,e']at hx;cases hx
 split
 ·unfold Wy.power;split
  ·rename_i hh;have hn:=(h.nd' hh).1;split
   ·exact h.set hh (gY hn.off rfl rfl)
   split
   ·exact h.set hh (abY hn)
   ·exact h.set hh (ah2 hn _)
  split
  ·have hl:=Nat.le_succ_of_le h.len;split
   ·exact stay (h.fly h.hc h.hub h.fl hl)
   split
   ·refine stay (h.fly ?_ ?_ h.fl hl)
    ·unfold rstart;split<;>exact h.hc
    ·unfold rstart;split<;>exact h.hub
   ·exact stay (h.fly h.hc h.hub h.fl hl)
  ·exact stay (h.mono o_)
 split
 ·exact stay (h.mono o_)
 rename_i hh;have hh:w.has s.r:=apu.1 hh;have hn:=(h.nd' hh).1;split
 ·exact h.set hh (af0 hn hk _)
 split
 ·exact stay (h.send (ZC hn))
 split
 ·exact stay (h.send (Ru hn hk (.inl rfl)))
 split
 ·exact stay (h.send (Ru hn hk (.inr rfl)))
 split
 ·exact h.set hh (abX hn)
 ·exact stay (h.mono o_)
end
theorem af4(w:Wy)(s:Stp):(w.step s).1.ns.length=w.ns.length/\(w.step s).1.c=w.c:=by
 have ha:∀(v:Wy)(to:Int)(b:List UInt8),(v.arrive to b).1.ns.length=v.ns.length/\(v.arrive to b).1.c=v.c:=λ v to b=>by
  unfold Wy.arrive;split
  ·exact⟨aoB ..,rfl⟩
  ·split<;>exact⟨rfl,rfl⟩
 have hs:∀b,(w.send b).1.ns.length=w.ns.length/\(w.send b).1.c=w.c:=λ b=>by
  unfold Wy.send;split<;>exact⟨rfl,rfl⟩
 have st:∀r y,(w.set r y).ns.length=w.ns.length/\(w.set r y).c=w.c:=λ r y=>⟨aoB ..,rfl⟩;unfold Wy.step;split
 ·unfold Wy.flight;split
  ·exact⟨rfl,rfl⟩
  split
  ·exact⟨rfl,rfl⟩
  split
  ·exact ha w _ _
  split
  ·exact ha ⟨w.c,w.ns,w.hb,w.fl.eraseIdx s.at_.toNat⟩ _ _
  ·exact ha ⟨w.c,w.ns,w.hb,w.fl.eraseIdx s.at_.toNat⟩ _ _
 split
 ·unfold Wy.power;split
  ·split
   ·exact st _ _
   split
   ·exact st _ _
   ·exact st _ _
  split
  ·split
   ·exact⟨rfl,rfl⟩
   split<;>exact⟨rfl,rfl⟩
  ·exact⟨rfl,rfl⟩
 split
 ·exact⟨rfl,rfl⟩
 split
 ·exact st _ _
 split
 ·exact hs _
 split
 ·exact hs _
 split
 ·exact hs _
 split
 ·exact st _ _
 ·exact⟨rfl,rfl⟩
section
variable{w:Wy}{s:Stp}{y:Ny}
theorem akj(h:s.k<0\/12<=s.k):w.step s=(w,1):=by
 unfold Wy.step;rw[if_neg o_,if_neg o_];split
 ·rfl
 ·rw[if_neg o_,if_neg o_,if_neg o_,if_neg o_,if_neg o_]
theorem alu(hr:¬w.has s.r)(h5:¬ (s.r=5/\8<=s.k/\s.k<=10))(hk:¬ (4<=s.k/\s.k<=7)):w.step s=(w,1):=by
 unfold Wy.step;rw[if_neg hk];split
 ·unfold Wy.power;rw[if_neg hr,if_neg o_]
 ·first|rfl|fail
theorem alv(hk:4<=s.k/\s.k<=7)(ha:s.at_<0\/(w.fl.length:Int)<=s.at_):w.step s=(w,24):=by
 unfold Wy.step;rw[if_pos hk];unfold Wy.flight;rw[if_pos ha]
theorem step_drop(hk:s.k=6)(ha:¬ (s.at_<0\/(w.fl.length:Int)<=s.at_)):w.step s=(⟨w.c,w.ns,w.hb,w.fl.eraseIdx s.at_.toNat⟩,0):=by
 unfold Wy.step;rw[if_pos o_];unfold Wy.flight;rw[if_neg ha,if_pos hk]
end
theorem ZE{X:CX}{o:OB}{i:Nat}(h:aQ X i (.obs o)):(dD (X.ρ i)).oneCell'=true:=by
 obtain⟨us,e,hR⟩:=h;exact(o.lt hR).2.1
def nyH(k:Nat)(y:Ny)(h:{h:Nd//qy k h y}):List (Nat×AO):=[(0,.obs (jQ h.1))]
def vW(k:Nat)(y:Ny):OB:=OB.pack (nyH k y)
theorem VP{h:Nd}(hr:qy k h y):Closes [(0,.obs (jQ h))] 0 (vW k y):=Closes.pack (nyH k y) ⟨h,hr⟩ rfl λ _ hok=>ZE (hok _ (amZ.2 rfl))
theorem nC{y':Ny}(hE:Enters prog f)(h:∀h,qy k h y-> ∃h',qy m h' y'/\aj prog f [(0,.obs (jQ h))] aW r ((0,.obs (jQ h'))::ho))
  (hb:(aW.all (oQ (λ _=>false) 0)&&fG (λ i=>bJ i ho) 0 r&&fF ho ho&& !(bJ 0 ho))=true):aj prog f [(0,.obs (vW k y))] aW r ((0,.obs (vW m y'))::ho):=
 aj.opn hE (Opens.pack (nyH k y)) (λ g=>by
  obtain⟨h',hr,hm⟩:=h g.1 g.2;exact⟨[(0,.obs (jQ h'))],VP hr,rfl,rfl,hm⟩) hb
def hyH(k:Nat)(y:Ry)(h:{h:Hb//jX k h y}):List (Nat×AO):=[(0,.obs (Ci h.1))]
def F5(k:Nat)(y:Ry):OB:=OB.pack (hyH k y)
theorem VQ{h:Hb}{y:Ry}(hr:jX k h y):Closes [(0,.obs (Ci h))] 0 (F5 k y):=Closes.pack (hyH k y) ⟨h,hr⟩ rfl λ _ hok=>ZE (hok _ (amZ.2 rfl))
theorem EF{y y':Ry}(hE:Enters prog f)(h:∀h,jX k h y-> ∃h',jX m h' y'/\aj prog f [(0,.obs (Ci h))] aW r ((0,.obs (Ci h'))::ho))
  (hb:(aW.all (oQ (λ _=>false) 0)&&fG (λ i=>bJ i ho) 0 r&&fF ho ho&& !(bJ 0 ho))=true):aj prog f [(0,.obs (F5 k y))] aW r ((0,.obs (F5 m y'))::ho):=
 aj.opn hE (Opens.pack (hyH k y)) (λ g=>by
  obtain⟨h',hr,hm⟩:=h g.1 g.2;exact⟨[(0,.obs (Ci h'))],VQ hr,rfl,rfl,hm⟩) hb
def Pj(y:Ny):AV:=Aw y.up y.clk y.sent y.held y.log
theorem VR(h:Nd)(hu:h.up=false):aj prog 46 [(0,.obs (jQ h))] [.box 0 0] (GL h) [(0,.obs (jQ h))]:=by
 refine gK (ho:=[]) ⟨_,_,func46,rfl,rfl⟩ ?_ (by unfold GL;rw[hu];rfl);obtain⟨c,r,up,d,log,sent,ic,held,wait⟩:=h;dsimp only[uQ,sN,GL,List.append_nil]at hu⊢;subst hu;refine K1.M 0x85 func46 40 ?_
 all_goals(conv=>whnf)
 exact iF []
section
variable{k:Nat}{T:List Ev}{H:Nat->aS}{y:Ny}
theorem ah3{h:Nd}(hr:qy k h y):GL h=Pj y:=by
 unfold GL Pj Aw;rw[hr.up];cases hu:y.up with
 |false=>rfl
 |true=>
  obtain⟨e1,e2,e3,e4,e5,e6,e7,e8⟩:=hr.on hu;rw[e1,e2,e3,e4]
theorem af5(ho:sU k T H y)(hk:k<=480):aj prog 46 [(0,.obs (vW k y))] [.box 0 0] (Pj y) [(0,.obs (vW k y))]:=by
 refine nC (ho:=[]) ⟨_,_,func46,rfl,rfl⟩ (λ h hr=>⟨h,hr, ?_⟩) (by unfold Pj Aw;cases y.up<;>rfl);rw[<-ah3 hr];cases hu:y.up with
 |true=>
  obtain⟨e1,e2,e3,e4,e5,e6,e7,e8⟩:=hr.on hu;have:=ho.g.len ho.p ho.r ho.hc;have:=ho.bounds;exact abo h (by rw[e1];omega) (by rw[e4];omega)
 |false=>exact VR h (hr.up.trans hu)
theorem af6(ho:sU k T H y)(hk:k<=480)(e:Ed):∃v,((uo y e).2=0->v=Ho y e)/\aj prog 40 [(0,.obs (vW k y))] [.box 0 0,e.av] (.aZ [v.av,.v (.int .i64 (uo y e).2)]) [(0,.obs (vW (k+1) (uo y e).1))]:=by
 refine⟨if(uo y e).2=0 then Ho y e else Zz,λ h=>if_pos h,nC (ho:=[]) ⟨_,_,func40,rfl,rfl⟩ (λ h hr=>?_) rfl⟩;obtain⟨h',v,h1,h2,h3,h4⟩:=ahZ hr ho hk e;have:v=if(uo y e).2=0 then Ho y e else Zz:=by
  split
  ·rename_i h;exact h2 h
  ·rename_i h;exact h3 h
 rw[<-this];exact⟨h',h1,h4⟩
theorem af7(ho:sU k T H y)(hk:k<=480)(b:List UInt8)(hb:∀x,eP b=(x,0)-> ∀e∈x.ev,e∈T){n:Nat}{F:Nat->List AV}(hF:bg F b)(hn:n=b.length):
  aj prog 100 [(0,.obs (vW k y))] [.box 0 0,.sl 1 n true F] (.v (.int .i64 (AY y b).2)) [(0,.obs (vW (k+1) (AY y b).1))]:=
 nC (ho:=[]) ⟨_,_,func100,rfl,rfl⟩ (λ _ hr=>ah0 hr ho hk b (λ x hx _=>hb x hx) hF hn) rfl
theorem abZ(ho:sU k T H y)(hk:k<=480):aj prog 45 [(0,.obs (vW k y))] [.box 0 0] (.v (.int .i64 (xI y).2)) [(0,.obs (vW (k+1) (xI y).1))]:=
 nC (ho:=[]) ⟨_,_,func45,rfl,rfl⟩ (λ _ hr=>afV hr ho hk) rfl
theorem ab1(ho:sU k T H y)(hk:k<=480):aj prog 73 [(0,.obs (vW k y))] [.box 0 0] (.v (.int .i64 (uN y).2)) [(0,.obs (vW k (uN y).1))]:=
 nC (ho:=[]) ⟨_,_,func73,rfl,rfl⟩ (λ _ hr=>afW hr ho hk) rfl
theorem ab2(k:Nat)(y:Ny):aj prog 95 [(0,.obs (vW k y))] [.box 0 0] (.aZ []) [(0,.obs (vW k y.off))]:=
 nC (ho:=[]) ⟨_,_,func95,rfl,rfl⟩ (λ _ hr=>afX hr) rfl
theorem ah4(k:Nat)(y:Ny)(m:Int):aj prog 283 [(0,.obs (vW k y))] [.box 0 0,.v (.int .i64 m)] (.aZ []) [(0,.obs (vW k (afT y m)))]:=
 nC (ho:=[]) ⟨_,_,func283,rfl,rfl⟩ (λ _ hr=>akb hr m) rfl
def Lr(b:List UInt8×Int):AV:=if b.2=0 then .aZ [.sl 1 b.1.length true (aO b.1),.v (.int .i64 0)]else .aZ [iC,.v (.int .i64 b.2)]
theorem Rw(b:List UInt8×Int):fG (λ i=>bJ i []) 0 (Lr b)=true:=by unfold Lr;split<;>rfl
theorem af8(ho:sU k T H y):aj prog 42 [(0,.obs (vW k y))] [.box 0 0] (Lr (Pg y)) [(0,.obs (vW k y))]:=by
 refine nC (ho:=[]) ⟨_,_,func42,rfl,rfl⟩ (λ h hr=>⟨h,hr, ?_⟩) (by rw[Rw];rfl);unfold Pg;cases hu:y.up with
 |false=>
  rw[if_pos rfl];exact KJ h 18 (.inl ⟨hr.up.trans hu,rfl⟩)
 |true=>
  rw[if_neg s_];have VY:=hr.up.trans hu;obtain⟨e1,e2,e3,e4,e5,e6,e7,e8⟩:=hr.on hu;by_cases h0:y.out.length=0
  ·rw[if_pos h0];exact KJ h 24 (.inr ⟨VY,by rw[e5];exact h0,rfl⟩)
  ·rw[if_neg h0];have hbd:=ho.bounds;have hm:=Ph ho h0;obtain⟨q,hq⟩:∃q,(min (max h.c.w 0) (h.wait.length:Int)).toNat=q:=⟨_,rfl⟩;have he:h.wait.take q=y.out.take y.c.w.toNat:=by
    rw[e5,hr.c]at hq;rw[e5,<-hq];rcases Nat.le_total y.c.w.toNat y.out.length with h1|h1
    ·congr 1
     omega
    ·rw[anf h1,anf o_]
   have hx:(⟨1,h.r,0,aV,h.wait.take q⟩:Rc)=ZA y:=by unfold ZA;rw[he,hr.r]
   have:=abx h VY (by rw[e5];omega) (by rw[e5];omega) hq (by rw[hx];exact hm);rw[hx]at this;exact this
theorem ab3(ho:sU k T H y)(hk:k<=480):aj prog 43 [(0,.obs (vW k y))] [.box 0 0] (Lr (Rq y 3)) [(0,.obs (vW k y))]:=by
 refine nC (ho:=[]) ⟨_,_,func43,rfl,rfl⟩ (λ h hr=>⟨h,hr, ?_⟩) (by rw[Rw];rfl);unfold Rq;cases hu:y.up with
 |false=>
  rw[if_pos rfl];exact Vr h (hr.up.trans hu)
 |true=>
  rw[if_neg s_];have hx:(⟨3,h.r,0,h.ic,[]⟩:Rc)=abW y 3:=by unfold abW;rw[(hr.on hu).2.2.1,hr.r]
  have:=XP h (hr.up.trans hu) (by rw[hx];exact Lp ho hk (.inl rfl));rw[hx]at this;exact this
theorem ah5(ho:sU k T H y)(hk:k<=480):aj prog 44 [(0,.obs (vW k y))] [.box 0 0] (Lr (Rq y 5)) [(0,.obs (vW k y))]:=by
 refine nC (ho:=[]) ⟨_,_,func44,rfl,rfl⟩ (λ h hr=>⟨h,hr, ?_⟩) (by rw[Rw];rfl);unfold Rq;cases hu:y.up with
 |false=>
  rw[if_pos rfl];exact aby h (hr.up.trans hu)
 |true=>
  rw[if_neg s_];have hx:(⟨5,h.r,0,h.ic,[]⟩:Rc)=abW y 5:=by unfold abW;rw[(hr.on hu).2.2.1,hr.r]
  have:=afi h (hr.up.trans hu) (by rw[hx];exact Lp ho hk (.inr rfl));rw[hx]at this;exact this
theorem alm(c:lZ)(r:Nat):qy 0 (nd0 c r) (ny0 c r):=⟨rfl,rfl,rfl,⟨[],[],ahX,rfl,λ _=>rfl,λ j hj=>by rw[List.take_nil];exact ane _⟩,λ _=>⟨rfl,rfl,rfl,rfl,rfl,rfl,rfl,λ h=>by cases h⟩,ane _⟩
theorem ah6(c:lZ)(r:Nat)(hc:qj c=true)(hr:(r:Int)<c.n):aj prog 36 [] [c.av,.v (.int .i64 (r:Int))] (.aZ [.box 0 0,.v (.int .i64 0)]) [(0,.obs (vW 0 (ny0 c r)))]:=
 aj.clo (B:=[(0,.obs (jQ (nd0 c r)))]) (H:=[]) (afb c r hc hr) (VP (alm c r)) rfl
end
section
variable{k:Nat}{y:Ry}
def ZF(y:Ry):Sit:=if y.up then(toP y.n y.p).sit else alc
theorem af9(k:Nat)(y:Ry):aj prog 47 [(0,.obs (F5 k y))] [.box 0 0] (.agg ((ZF y).vs.map .v)) [(0,.obs (F5 k y))]:=
 EF (ho:=[]) ⟨_,_,func47,rfl,rfl⟩ (λ h hr=>⟨h,hr,by
  have e:h.sit=ZF y:=by
   unfold Hb.sit ZF;rw[<-hr.up];split
   ·rename_i hu;rw[(hr.on hu).1]
   ·rfl
  rw[<-e];exact abz h hr.g.p.b⟩) rfl
theorem af'(hk:k<=480)(b:List UInt8){n:Nat}{F:Nat->List AV}(hF:bg F b)(hn:n=b.length):aj prog 99 [(0,.obs (F5 k y))] [.box 0 0,.sl 1 n true F] (MG (KZ y b).2) ((0,.obs (F5 (k+1) (KZ y b).1))::yh (KZ y b).2):=by
 refine EF ⟨_,_,func99,rfl,rfl⟩ (λ h hr=>?_) ?_
 ·obtain⟨h',y',res,e1,e2,e3⟩:=VD hr o_ b;rw[e2];exact⟨h',e3,abI h h' b res hr.g e1 hF hn⟩
 ·rcases(KZ y b).2 with x|⟨r,w⟩<;>rfl
theorem ab4(k:Nat)(y:Ry):aj prog 96 [(0,.obs (F5 k y))] [.box 0 0] (.aZ []) [(0,.obs (F5 k (X7 y)))]:=
 EF (ho:=[]) ⟨_,_,func96,rfl,rfl⟩ (λ h hr=>⟨_,OZ hr,XW h⟩) rfl
theorem ah7(k:Nat)(y:Ry)(m:Int):aj prog 281 [(0,.obs (F5 k y))] [.box 0 0,.v (.int .i64 m)] (.aZ []) [(0,.obs (F5 k (aj0 y m)))]:=
 EF (ho:=[]) ⟨_,_,func281,rfl,rfl⟩ (λ h hr=>⟨_,Zx hr m,afk h m⟩) rfl
theorem ab5(hk:k<=480):aj prog 72 [(0,.obs (F5 k y))] [.box 0 0] (.v (.int .i64 (rstart y).2)) [(0,.obs (F5 k (rstart y).1))]:=
 EF (ho:=[]) ⟨_,_,func72,rfl,rfl⟩ (λ h hr=>by
  cases hu:h.up with
  |true=>
   have e:rstart y=(y,19):=by unfold rstart;rw[if_pos (hr.up.symm.trans hu)]
   rw[e];exact⟨h,hr,Vw h hu⟩
  |false=>
   obtain⟨l,t,h1,h2,h3,h4⟩:=hr.disk;obtain⟨a1,a2⟩:=O1 hr hu h1 h3 h2;obtain⟨n1,n2,n3⟩:=afH hr.may;rw[a2];have hbs:=hr.g.bs;exact⟨_,a1,XT h y.n (by rw[hr.c];exact n1) n2 n3 hu l t h1 (by rw[hr.c];exact h2) o_⟩) rfl
theorem ah8(c:lZ)(hc:qj c=true):aj prog 34 [] [c.av] (.aZ [.box 0 0,.v (.int .i64 0)]) [(0,.obs (F5 0 (ry0 c)))]:=by
 obtain⟨n,hn,h1,h5⟩:=Fj hc;exact aj.clo (B:=[(0,.obs (Ci (hb0 c n)))]) (H:=[]) (afj c n hn hc h1 h5) (VQ (jX.new hc hn h1 h5)) rfl
end
theorem Rm.to{a b c:Int}{K:Int->Prop}(hb:b≠0)(h:a.tmod b=c)(k:K c):Rm a b K:= .raw hb (by rw[h];exact k)
theorem ab6(P:List UInt8)(bit mask:Int)(h0:P.length≠0)(hl:P.length<=1000000)(hbit: -9223372036854775808<=bit/\bit<=9223372036854775807)(hm:0<=mask/\mask<=4294967295)(d:Nat):
  aF prog 76 [.sl 1 P.length true (aO P),.v (.int .i64 bit),.v (.int .u32 mask)] (.own d) [(d,gX (xJ P bit mask))]:=by
 obtain⟨m,rfl⟩:∃m:Nat,mask=(m:Int):=⟨mask.toNat,o_⟩;have ht1:=ao5 bit (b:=8*(P.length:Int)) o_;have ht2: -(8*(P.length:Int))<bit.tmod (8*(P.length:Int)):=by
  rcases Int.le_total 0 bit with h|h
  ·have:=Int.tmod_nonneg (8*(P.length:Int)) h;omega
  ·have h3:=ao5 (-bit) (b:=8*(P.length:Int)) o_;rw[Int.neg_tmod]at h3;omega
 obtain⟨k,hk,hk0⟩:∃k:Nat,bit%(8*(P.length:Int))=(k:Int)/\k<8*P.length:=by
  have h1:=Int.emod_nonneg bit (b:=8*(P.length:Int)) o_;have h2:=Int.emod_lt_of_pos bit (b:=8*(P.length:Int)) o_;exact⟨(bit%(8*(P.length:Int))).toNat,o_,o_⟩
 have hq:bit.tmod (8*(P.length:Int))=(k:Int)\/bit.tmod (8*(P.length:Int))<0/\bit.tmod (8*(P.length:Int))+8*(P.length:Int)=(k:Int):=by
  have hd:bit.tmod (8*(P.length:Int))%(8*(P.length:Int))=bit%(8*(P.length:Int)):=by
   rw[Int.tmod_def,Int.sub_mul_emod_self_left]
  rcases Int.lt_or_le (bit.tmod (8*(P.length:Int))) 0 with h|h
  ·right;refine⟨h, ?_⟩;rw[<-hk,<-hd,<-Int.add_emod_right,Int.emod_eq_of_lt o_ o_]
  ·left;rw[<-hk,<-hd,Int.emod_eq_of_lt h o_]
 have aga:xJ P bit (m:Int)=jO P k m (min 32 (8*P.length-k)):=by
  unfold xJ;rw[if_neg h0,hk,anP,anP]
 rw[aga];clear aga hk;dsimp only[gX];have hcl:=rO 0 P (bg.bytes _) rfl o_;dsimp only[gX]at hcl;generalize hz:bit.tmod (8*(P.length:Int))=z at ht1 ht2 hq;rcases hq with hq|⟨hq,hq'⟩;all_goals
  refine K1.E 0x204001087c7 func76 ?_;repeat' ((conv=>whnf);first|refine K1.u ?_|refine K1.F1 hcl ?_|refine Rm.to o_ hz ?_|fail)
  conv=>whnf
  refine aI.mk {i:Nat//i<=32/\k+i<=8*P.length} (λ i=>⟨[(10,.v (.int .i64 (i.1:Int))),(9,.own 1),(8,.v (.int .i64 (k:Int))),(7,.v (.int .i64 (8*(P.length:Int)))),(2,.v (.int .u32 (m:Int)))],
   [(1,.row 5 1 P.length true (aO (jO P k m i.1)))],[],2⟩) (λ i=>32-i.1) ⟨0,o_,o_⟩ _
   (dZ.mk' [(0,1)] _ _ _ rfl ⟨dJ.int rfl,bY,dJ.int o_,bY,bY,trivial⟩ nM rfl) ?_
  rintro⟨i,hi,hki⟩;dsimp only;have hend:¬ (i<32/\k+i<8*P.length)->jO P k m (min 32 (8*P.length-k))=jO P k m i:=λ h=>by rw[show min 32 (8*P.length-k)=i by omega]
  have hlen:=rG P k m i;have hnext:m.testBit i=true->jO P k m (i+1)=Eo (jO P k m i) (k+i):=λ h=>by show(if _ then _ else _)=_;rw[if_pos h]
  have agb:¬m.testBit i=true->jO P k m (i+1)=jO P k m i:=λ h=>by show(if _ then _ else _)=_;rw[if_neg h]
  have hrow:∀j:Nat,j=(k+i)/8->(k+i)/8<(jO P k m i).length-> ∀mm,(bif Nat.beq mm j then [AV.v (.int .u8 (IntKind.u8.wrap ((BitVec.ofInt IntKind.u8.bits (((jO P k m i).getD j default).toNat:Int)^^^BitVec.ofInt IntKind.u8.bits ((2^((k+i)%8):Nat):Int)).toNat:Int)))]else aO (jO P k m i) mm)=aO (Eo (jO P k m i) (k+i)) mm:=by
   intro j hj hq;subst hj;exact aeT (jO P k m i) (k+i) rfl hq (amb _ o_)
  generalize jO P k m i=T at hlen hrow hnext agb hend⊢;have UO:k+i<8*P.length->Nat.ble (((k:Int)+(i:Int))/8).toNat.succ P.length=true:=λ h=>an0 o_;clear hcl;repeat' ((conv=>whnf);first|refine K1.u ?_|refine nR.bit o_ o_ (λ _=>?_) (λ _=>?_)|refine Wr.shl (q:=(k+i)%8) o_ o_ ?_|refine uS.yes (UO o_) ?_|refine K1.o (id:=12) (nN [0,1,2,3,4,5,6,7,8,9,10,11,12,13] [(14,some [12,11,10,9,6,4,3])]) ?_|refine K1.z ?_|refine K1.y (λ _=>?_) (λ _=>?_)|fail)
  all_goals(conv=>whnf)
  ·refine⟨⟨i+1,o_,o_⟩,_,dZ.mk' [] _ _ _ rfl gQ ⟨⟨_,rfl,dK.row rfl (λ mm _=>?_)⟩,trivial⟩ rfl,by show 32-(i+1)<32-i;omega⟩;show _=aO (jO P k m (i+1)) mm;rw[hnext ‹_›];exact hrow _ o_ o_ mm
  ·refine⟨⟨i+1,o_,o_⟩,_,dZ.mk' [] _ _ _ rfl gQ ⟨⟨_,rfl,dK.row rfl (λ mm _=>?_)⟩,trivial⟩ rfl,by show 32-(i+1)<32-i;omega⟩;show _=aO (jO P k m (i+1)) mm;rw[agb ‹_›]
  all_goals
   refine aT.uX d rfl rfl ?_ (bY);rw[hend o_];exact dK.row hlen.symm λ _ _=>rfl
def nJ(k:Nat)(ns:List Ny):List OB:=ns.map (vW k)
def CQ(k:Nat)(w:Wy):OB:=wO (nJ k w.ns) (F5 k w.hb) (Ig w.fl)
theorem dL(k:Nat)(ns:List Ny):(nJ k ns).length=ns.length:=anu _
theorem l9{ns:List Ny}{r:Nat}(hr:r<ns.length)(o:OB):(nJ k ns).getD r o=vW k (ns.getD r default):=by
 unfold nJ;simp[List.getD,hr]
theorem Rz(hm:k<=m)(y:Ny):(vW k y).le (vW m y):=by
 rintro w j v ⟨x,ρ,us,rfl,h⟩;exact⟨⟨x.1,x.2.mono hm⟩,ρ,us,rfl,h⟩
theorem Ls(hm:k<=m)(y:Ry):(F5 k y).le (F5 m y):=by
 rintro w j v ⟨x,ρ,us,rfl,h⟩;exact⟨⟨x.1,x.2.mono hm⟩,ρ,us,rfl,h⟩
section
variable{k:Nat}{T:List Ev}{H:Nat->aS}{w:Wy}
theorem agc(i:Nat)(d:OB)(ns:List Ny):((nJ k ns).getD i d).le ((nJ (k+1) ns).getD i d):=by
 by_cases hi:i<ns.length
 ·rw[l9 hi,l9 hi];exact Rz o_ _
 ·rw[ang,ang,anz (by rw[dL];omega),anz (by rw[dL];omega)];exact OB.le_refl _
theorem Yg{ns:List Ny}{r:Nat}(hr:r<ns.length){o':OB}{y':Ny}(hl:o'.le (vW (k+1) y'))(i:Nat)(d:OB):(((nJ k ns).set r o').getD i d).le ((nJ (k+1) (ns.set r y')).getD i d):=by
 by_cases e:i=r
 ·subst e;rw[l9 (by rw[aoB];exact hr)];simp only[ang,apt hr,apt (show i<(nJ k ns).length by rw[dL];exact hr),Option.getD_some];exact hl
 ·have:=agc (k:=k) i d ns;simp only[ang,nJ,anE,List.getElem?_set_ne (apn e)]at this⊢;exact this
theorem F6(h:kZ k T H w){r:Nat}(hr:r<w.ns.length){o':OB}{y':Ny}(hl:o'.le (vW (k+1) y')):(wO ((nJ k w.ns).set r o') (F5 k w.hb) (Ig w.fl)).le (CQ (k+1) (w.set r y')):=by
 obtain⟨h1,h5⟩:=h.five;exact alh _ _ _ _ _ (by rw[aoB,dL];exact h1) (by rw[aoB,dL];exact h5) (by rw[aoB,dL,dL];exact aoB) (F5 0 w.hb) (λ i _=>Yg hr hl i _) (Ls o_ _)
theorem F7(h:kZ k T H w){hb':OB}{y':Ry}{fl:List (Int×List UInt8)}(hl:hb'.le (F5 (k+1) y')):(wO (nJ k w.ns) hb' (Ig fl)).le (CQ (k+1) ⟨w.c,w.ns,y',fl⟩):=by
 obtain⟨h1,h5⟩:=h.five;exact alh _ _ _ _ _ (by rw[dL];exact h1) (by rw[dL];exact h5) (by rw[dL,dL]) (F5 0 w.hb) (λ i _=>agc i _ _) hl
theorem Lu(h:kZ k T H w){fl:List (Int×List UInt8)}:(wO (nJ k w.ns) (F5 k w.hb) (Ig fl)).le (CQ (k+1) ⟨w.c,w.ns,w.hb,fl⟩):=F7 h (Ls o_ _)
theorem yj.len{b:List UInt8}(h:yj T b):5<=b.length/\b.length<=2048:=by
 obtain⟨x,rfl,h2,_⟩:=h;exact⟨by have:=GK x;omega,zl x h2⟩
theorem F8(h:kZ k T H w)(hk:k<=480){m:Nat}{g:Hb}(hr:jX m g w.hb){to:Int}(hto:to=5\/w.has to){b:List UInt8}(hb:∀x,eP b=(x,0)-> ∀e∈x.ev,e∈T):
  ∃os' hb',os'.length=(nJ k w.ns).length/\(wO os' hb' (Ig (w.arrive to b).1.fl)).le (CQ (k+1) (w.arrive to b).1)/\
   aj prog 77 (wH (nJ k w.ns) (F5 k w.hb) (Ig w.fl) ()) [.box 0 0,.agg [.v (.int .i64 to),.sl 1 b.length true (aO b)]] (.v (.int .i64 (w.arrive to b).2)) (wH os' hb' (Ig (w.arrive to b).1.fl) ()++[]):=by
 obtain⟨h1,h5⟩:=h.five;have n1:1<=(nJ k w.ns).length:=by rw[dL];exact h1
 have n5:(nJ k w.ns).length<=5:=by rw[dL];exact h5
 unfold Wy.arrive;split
 ·rename_i ht;have hd:=(h.nd' ht).1;obtain⟨t0,t1⟩:=ht;obtain⟨r,rfl⟩:∃n:Nat,to=(n:Int):=⟨to.toNat,o_⟩;have hr:r<w.ns.length:=o_
  exact⟨(nJ k w.ns).set r (vW (k+1) (AY (w.nd r) b).1),F5 k w.hb,aoB,F6 h hr (OB.le_refl _),afM _ _ _ _ r n5 (by rw[dL];exact hr) (by rw[l9 hr];exact af7 hd hk b hb (bg.bytes _) rfl)⟩
 ·rename_i ht;obtain rfl:=hto.resolve_right ht;have hmay:∀e∈T,dU e=0:=(h.nd 0 o_).1.p.may;have hm:=af' (y:=w.hb) hk b (bg.bytes _) rfl;obtain⟨⟨y',res⟩,e⟩:∃q,KZ w.hb b=q:=⟨_,rfl⟩;obtain⟨r1,r2,r3⟩:=afZ hr h.hub hmay hb e;rw[e]at hm⊢;dsimp only at hm⊢;rcases res with x|⟨r,b'⟩
  ·exact⟨nJ k w.ns,F5 (k+1) y',rfl,F7 h (OB.le_refl _),VF _ _ _ _ n1 n5 hm⟩
  ·obtain⟨a1,a2⟩:=r3 r b' rfl;have hn:=h.n;have hc:=h.hc;have a3:=a2.len;have a4:=h.len;exact⟨nJ k w.ns,F5 (k+1) y',rfl,F7 h (OB.le_refl _),Rh _ _ _ _ n1 n5 r (by rw[dL];rw[hc]at a1;omega) b' _ (OT w.fl o_ _ b' o_ (bg.bytes _) rfl) hm⟩
theorem ab7(h:kZ k T H w)(hk:k<=480){m:Nat}{g:Hb}(hr:jX m g w.hb)(s:Stp)(hq:4<=s.k/\s.k<=7)(hbit: -9223372036854775808<=s.bit/\s.bit<=9223372036854775807)(hmask:0<=s.mask/\s.mask<=4294967295):
  aj prog 15 [(0,.obs (CQ k w))] [.box 0 0,s.av] (.v (.int .i64 (w.flight s).2)) [(0,.obs (CQ (k+1) (w.flight s).1))]:=by
 obtain⟨h1,h5⟩:=h.five;have n1:1<=(nJ k w.ns).length:=by rw[dL];exact h1
 have n5:(nJ k w.ns).length<=5:=by rw[dL];exact h5
 have hlen:=h.len;obtain⟨q,r,ed,i,bit,mask,keep⟩:=s;dsimp only at hq hbit hmask;obtain⟨q,rfl⟩:∃n:Nat,q=(n:Int):=⟨q.toNat,o_⟩;have hq4:q=4\/q=5\/q=6\/q=7:=o_
 unfold Wy.flight;dsimp only;split
 ·rename_i hi;refine(afK _ _ _ n1 n5 hq4 r ed i bit mask keep ?_).oV (Lu h);unfold VE;split
  ·exact KW w.fl o_ i hi
  ·exact X0 w.fl o_ i hi
 rename_i hi;obtain⟨i,rfl⟩:∃n:Nat,i=(n:Int):=⟨i.toNat,o_⟩;have hlt:i<w.fl.length:=o_
 rw[anP];have hmem:w.fl.getD i (0,[])∈w.fl:=by simp[List.getD,hlt]
 obtain⟨hto,hf⟩:=h.fl _ hmem;have hfl:=hf.len;have he:=h.less (fl:=w.fl.eraseIdx i) (λ f hf=>List.mem_of_mem_eraseIdx hf) (by rw[List.length_eraseIdx];split<;>omega);have htk:=abD w.fl o_ i hlt (by show(w.fl.getD i (0,[])).2.length<=_;omega);have hcp:=abC w.fl o_ i hlt (by show(w.fl.getD i (0,[])).2.length<=_;omega);rw[show w.fl.getD i default=w.fl.getD i (0,[])from rfl]at htk hcp;generalize w.fl.getD i (0,[])=f at hto hf hfl htk hcp;obtain⟨to,b⟩:=f;dsimp only[flC]at*;rcases hq4 with rfl|rfl|rfl|rfl
 ·rw[if_neg d_,if_neg d_,if_pos d_];obtain⟨os',hb',a1,a2,a3⟩:=F8 he hk hr hto hf.take;exact(afL _ os' _ hb' _ _ _ n1 n5 a1 (q:=4) (.inl rfl) r ed i bit mask keep b b htk (λ h=>absurd h d_) (λ _=>rfl) a3).oV a2
 ·rw[if_neg d_,if_pos d_];obtain⟨os',hb',a1,a2,a3⟩:=F8 h hk hr hto hf.take;exact(afL _ os' _ hb' _ _ _ n1 n5 a1 (q:=5) (.inr (.inl rfl)) r ed i bit mask keep b b hcp (λ h=>absurd h d_) (λ _=>rfl) a3).oV a2
 ·rw[if_pos d_];exact(aj2 _ _ _ _ n1 n5 r ed i bit mask keep htk).oV (Lu h)
 ·rw[if_neg d_,if_neg d_,if_neg d_];obtain⟨os',hb',a1,a2,a3⟩:=F8 he hk hr hto (b:=xJ b bit mask) λ x hx=>by
   rcases hf.aiH bit mask with e|⟨z,e,e'⟩
   ·rw[e]at hx;exact hf.take x hx
   ·rw[e,e']at hx;cases hx
  exact(afL _ os' _ hb' _ _ _ n1 n5 a1 (q:=7) (.inr (.inr rfl)) r ed i bit mask keep b (xJ b bit mask) htk (λ _=>(ab6 b bit mask o_ o_ hbit hmask 0).thaw) (λ h=>absurd rfl h) a3).oV a2
theorem RD(h:kZ k T H w)(hk:k<=480){r:Nat}(hr:r<w.ns.length){q:Nat}(hq:q=1\/q=2\/q=3)(ed:Ed)(at' bit mask keep:Int){b:List UInt8×Int}(hb:b.2=0->yj T b.1)(hm:aj prog (Lc q) [(0,.obs (vW k (w.ns.getD r default)))] [.box 0 0] (Lr b) [(0,.obs (vW k (w.ns.getD r default)))]):
  aj prog 15 [(0,.obs (CQ k w))] [.box 0 0,Stp.av ⟨(q:Int),(r:Int),ed,at',bit,mask,keep⟩] (.v (.int .i64 (w.send b).2)) [(0,.obs (CQ (k+1) (w.send b).1))]:=by
 obtain⟨h1,h5⟩:=h.five;have n5:(nJ k w.ns).length<=5:=by rw[dL];exact h5
 rw[<-l9 hr (F5 k w.hb)]at hm;unfold Wy.send;unfold Lr at hm;split
 ·rename_i h0;rw[if_pos h0]at hm;have hl:=(hb h0).len;have:=h.len;exact(abN _ _ _ _ r n5 (by rw[dL];exact hr) hq ed at' bit mask keep b.1 hm (OT w.fl o_ 5 b.1 o_ (bg.bytes _) rfl)).oV (Lu h)
 ·rename_i h0;rw[if_neg h0]at hm;exact(abO _ _ _ r n5 (by rw[dL];exact hr) hq ed at' bit mask keep h0 hm).oV (Lu h)
theorem ah9(h:kZ k T H w)(hk:k<=480){m:Nat}{g:Hb}(hr:jX m g w.hb)(s:Stp)(hbit: -9223372036854775808<=s.bit/\s.bit<=9223372036854775807)(hmask:0<=s.mask/\s.mask<=4294967295):
  aj prog 15 [(0,.obs (CQ k w))] [.box 0 0,s.av] (.v (.int .i64 (w.step s).2)) [(0,.obs (CQ (k+1) (w.step s).1))]:=by
 obtain⟨h1,h5⟩:=h.five;have n1:1<=(nJ k w.ns).length:=by rw[dL];exact h1
 have n5:(nJ k w.ns).length<=5:=by rw[dL];exact h5
 have hno:¬w.has s.r->s.r<0\/((nJ k w.ns).length:Int)<=s.r:=λ h=>by
  rw[dL];unfold Wy.has at h;omega
 unfold Wy.step;split
 ·rename_i h4;exact ab7 h hk hr s h4 hbit hmask
 rename_i h4;split
 ·rename_i h8;unfold Wy.power;split
  ·rename_i hh;have hd:=(h.nd' hh).1;obtain⟨q,r,ed,i,bit,mask,keep⟩:=s;dsimp only at*;obtain⟨t0,t1⟩:=hh;obtain⟨r,rfl⟩:∃n:Nat,r=(n:Int):=⟨r.toNat,o_⟩;have hr:r<w.ns.length:=o_
   have hr':r<(nJ k w.ns).length:=by rw[dL];exact hr
   split
   ·rename_i e;subst e;exact(Ld 0 o_ _ _ _ (vW k (w.nd r).off) r n5 hr' ed i bit mask keep 0 (by rw[l9 hr];exact ab2 k _)).oV (F6 h hr (Rz o_ _))
   split
   ·rename_i e;subst e;exact(Ld 1 o_ _ _ _ (vW k (uN (w.nd r)).1) r n5 hr' ed i bit mask keep _ (by rw[l9 hr];exact ab1 hd hk)).oV (F6 h hr (Rz o_ _))
   ·obtain rfl:q=10:=o_
    exact(Ld 2 o_ _ _ _ (vW k (afT (w.nd r) keep)) r n5 hr' ed i bit mask keep 0 (by rw[l9 hr];exact ah4 k _ _)).oV (F6 h hr (Rz o_ _))
  rename_i hh;split
  ·rename_i e5;obtain⟨q,r,ed,i,bit,mask,keep⟩:=s;dsimp only at*;subst e5;split
   ·rename_i e;subst e;exact(Le 0 o_ _ _ _ _ n1 n5 ed i bit mask keep 0 (ab4 k w.hb)).oV (F7 h (Ls o_ _))
   split
   ·rename_i e;subst e;exact(Le 1 o_ _ _ _ _ n1 n5 ed i bit mask keep _ (ab5 hk)).oV (F7 h (Ls o_ _))
   ·obtain rfl:q=10:=o_
    exact(Le 2 o_ _ _ _ _ n1 n5 ed i bit mask keep 0 (ah7 k w.hb keep)).oV (F7 h (Ls o_ _))
  ·rename_i e5;exact(aiG _ _ _ n1 n5 s ⟨hno hh,.inr (.inr ⟨h8.1,h8.2,e5⟩)⟩).oV (Lu h)
 rename_i h8;split
 ·rename_i hh;exact(aiG _ _ _ n1 n5 s ⟨hno hh,o_⟩).oV (Lu h)
 rename_i hh;have hh:w.has s.r:=apu.1 hh;have hd:=(h.nd' hh).1;obtain⟨q,r,ed,i,bit,mask,keep⟩:=s;dsimp only at*;obtain⟨t0,t1⟩:=hh;obtain⟨r,rfl⟩:∃n:Nat,r=(n:Int):=⟨r.toNat,o_⟩;have hr:r<w.ns.length:=o_
 have hr':r<(nJ k w.ns).length:=by rw[dL];exact hr
 split
 ·rename_i e;subst e;obtain⟨v,-,hv⟩:=af6 hd hk ed;exact(afy _ _ _ r n5 hr' ed i bit mask keep (by rw[l9 hr];exact hv)).oV (F6 h hr (OB.le_refl _))
 split
 ·rename_i e;subst e;exact RD h hk hr (q:=1) (.inl rfl) ed i bit mask keep (ZC hd) (af8 hd)
 split
 ·rename_i e;subst e;exact RD h hk hr (q:=2) (.inr (.inl rfl)) ed i bit mask keep (Ru hd hk (.inl rfl)) (ab3 hd hk)
 split
 ·rename_i e;subst e;exact RD h hk hr (q:=3) (.inr (.inr rfl)) ed i bit mask keep (Ru hd hk (.inr rfl)) (ah5 hd hk)
 split
 ·rename_i e;subst e;exact(abE _ _ _ r n5 hr' ed i bit mask keep (by rw[l9 hr];exact abZ hd hk)).oV (F6 h hr (OB.le_refl _))
 ·exact(ali _ _ _ r n5 hr' q ed i bit mask keep o_).oV (Lu h)
end
section
variable{m:Nat}{g:Hb}{w:Wy}
theorem Yh{y:Ry}(hr:jX m g y):∃g',jX m g' (rstart y).1:=by
 cases hu:g.up with
 |true=>
  have e:rstart y=(y,19):=by unfold rstart;rw[if_pos (hr.up.symm.trans hu)]
  rw[e];exact⟨g,hr⟩
 |false=>
  obtain⟨l,t,h1,h2,h3,h4⟩:=hr.disk;exact⟨_,(O1 hr hu h1 h3 h2).1⟩
theorem CJ(hr:jX m g w.hb)(hm:m<=1000)(to:Int)(b:List UInt8):∃g,jX (m+1) g (w.arrive to b).1.hb:=by
 unfold Wy.arrive;split
 ·exact⟨g,hr.mono o_⟩
 ·obtain⟨h',y',res,-,e,h3⟩:=VD hr hm b;rw[e];rcases res with x|⟨r,b'⟩<;>exact⟨h',h3⟩
theorem agd(hr:jX m g w.hb)(hm:m<=1000)(s:Stp):∃g,jX (m+1) g (w.step s).1.hb:=by
 have stay:∃g,jX (m+1) g w.hb:=⟨g,hr.mono o_⟩;unfold Wy.step;split
 ·unfold Wy.flight;split
  ·exact stay
  split
  ·exact stay
  split
  ·exact CJ hr hm _ _
  split
  ·exact CJ (w:=⟨w.c,w.ns,w.hb,w.fl.eraseIdx s.at_.toNat⟩) hr hm _ _
  ·exact CJ (w:=⟨w.c,w.ns,w.hb,w.fl.eraseIdx s.at_.toNat⟩) hr hm _ _
 split
 ·unfold Wy.power;split
  ·split
   ·exact stay
   split
   ·exact stay
   ·exact stay
  split
  ·split
   ·exact⟨_,(OZ hr).mono o_⟩
   split
   ·obtain⟨g',h⟩:=Yh hr;exact⟨g',h.mono o_⟩
   ·exact⟨_,(Zx hr _).mono o_⟩
  ·exact stay
 have hs:∀b,∃g,jX (m+1) g (w.send b).1.hb:=λ b=>by
  unfold Wy.send;split<;>exact stay
 split
 ·exact stay
 split
 ·exact stay
 split
 ·exact hs _
 split
 ·exact hs _
 split
 ·exact hs _
 split
 ·exact stay
 ·exact stay
end
def GU(k:Nat)(w:Wy):Prop:=(∃T H,kZ k T H w)/\ ∃g,jX k g w.hb
section
variable{k:Nat}{w:Wy}
theorem GU.step(h:GU k w)(hk:k<=480)(s:Stp):GU (k+1) (w.step s).1:=by
 obtain⟨⟨T,H,h1⟩,g,h2⟩:=h;obtain⟨T',H',-,h3⟩:=h1.step hk h2 s;exact⟨⟨T',H',h3⟩,agd h2 o_ s⟩
theorem aln:Pool 0 [] (λ _=>aV):=⟨Inv.nil,λ x hx=>(by cases hx),λ p hp=>by rcases(show p=0\/p=1\/p=2\/p=3\/p=4 by omega)with rfl|rfl|rfl|rfl|rfl<;>exact aom 0,λ e h=>(by cases h),λ e h=>(by cases h)⟩
theorem GU.new{c:lZ}(hc:qj c=true):GU 0 (wy0 c):=by
 obtain⟨n,hn,h1,h5⟩:=Fj hc;have hmc:=hc;simp only[qj,amY,tN]at hmc;have hns:(wy0 c).ns=(List.range n).map (ny0 c):=by show(List.range c.n.toNat).map _=_;rw[hn,anP]
 refine⟨⟨[],λ _=>aV,hc, ?_,λ r hr=>?_,λ _ _=>rfl,rfl,λ r e he=>?_,λ f hf=>(by cases hf),ani 0⟩,_,jX.new hc hn h1 h5⟩
 ·rw[hns,anu,List.length_range];exact hn
 ·rw[hns,anu,List.length_range]at hr;have e:(wy0 c).ns.getD r default=ny0 c r:=by
   rw[hns];simp[List.getD,hr]
  rw[e];exact⟨⟨aln,hc,by show r<5;omega,by show(r:Int)<c.n;omega,Good.nil _,rfl,⟨aom 0,QY [] r⟩,by show(0:Int)<=c.q;omega,λ e h=>(by cases h),by show(0:Int)<=c.h;omega⟩,rfl,rfl⟩
 ·have e0:((wy0 c).hb.p.s r).l=[]:=by
   show(rp0.s r).l=[];rcases anr r 5 with h|h
   ·rcases(show r=0\/r=1\/r=2\/r=3\/r=4 by omega)with rfl|rfl|rfl|rfl|rfl<;>rfl
   ·show(rp0.ps.getD r default).l=[];rw[ang,anz (by show 5<=r;omega)];rfl
  rw[e0]at he;cases he
theorem amm{c:lZ}(hc:qj c=true):aj prog 14 [] [c.av] (.aZ [.box 0 0,.v (.int .i64 0)]) [(0,.obs (CQ 0 (wy0 c)))]:=by
 obtain⟨n,hn,h1,h5⟩:=Fj hc;have:=ahN c n hn h1 h5 (λ r=>vW 0 (ny0 c r)) _ _ (ah8 c hc) afu λ r hr=>ah6 c r hc o_;unfold CQ nJ wy0;rw[hn,anP,List.map_map];exact this
theorem ah'(h:GU k w)(hk:k<=480)(s:Stp)(hbit: -9223372036854775808<=s.bit/\s.bit<=9223372036854775807)(hmask:0<=s.mask/\s.mask<=4294967295):
  aj prog 15 [(0,.obs (CQ k w))] [.box 0 0,s.av] (.v (.int .i64 (w.step s).2)) [(0,.obs (CQ (k+1) (w.step s).1))]:=by
 obtain⟨⟨T,H,h1⟩,g,h2⟩:=h;exact ah9 h1 hk h2 s hbit hmask
end
end Go.Proofs.YtkimgljckickcaaGreat
