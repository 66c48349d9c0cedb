/-
  Contracts of the walk:HyX,HyZ.
-/
import Derived.Test.YtopfgjgdadnjeaaGreatHp24
set_option maxHeartbeats 16000000
set_option maxRecDepth 100000
set_option linter.unusedVariables false
set_option linter.unusedSimpArgs false
namespace Go.Proofs.YtopfgjgdadnjeaaGreat
open Go.RowKit
variable{h:Hb}{k n:Nat}{y:Ry}{p:gX}{d:jv}
structure ug(d:jv)(k:Nat)(h:Hb)(y:Ry):Prop where
 r:l9 k h y
 c:y.c=d
 i:qL y.n y.p
theorem aar:qL n ZU:=⟨λ i _=>by
 show(List.replicate 5 aJ).getD i aJ=aJ;rw[List.getD_eq_getElem?_getD,List.getElem?_replicate];split<;>rfl,λ s hs r hr=>by
 have e1:(ZU.s s).cuts=0:=by
  show((List.replicate 5 (⟨0,[]⟩:AQ)).getD s default).cuts=0;rw[List.getD_eq_getElem?_getD,List.getElem?_replicate];split<;>rfl
 have e2:ZU.dS.getD r aJ=aJ:=by
  show(List.replicate 5 aJ).getD r aJ=aJ;rw[List.getD_eq_getElem?_getD,List.getElem?_replicate];split<;>rfl
 rw[e1,e2];have:aJ.at s=0:=by
  match s with
  |0=>rfl
  |1=>rfl
  |2=>rfl
  |3=>rfl
  |4=>rfl
  |s+5=>rfl
 omega⟩
theorem ug.sit{d:jv}{k:Nat}{h:Hb}{y:Ry}(b:ug d k h y):(if y.up then pq y.n y.p else aa7)=h.sit:=by
 unfold Hb.sit;rw[<-b.r.up];split
 ·rename_i hu;rw[(b.r.on hu).1,Z7 b.r.B b.i.z]
 ·rfl
theorem ug.step(b:ug d k h y)(hk:k<=1000)(o:Opn)(ho:o.rng):∃h' y',ug d (k+1) h' y'/\Mon y.n y.p y'.p/\Dj h h' y y' o:=by
 obtain⟨h',y',a1,a2,a3,a4,a5⟩:=UQ b.r hk b.i o ho;refine⟨h',y',⟨a1,a2.trans b.c, ?_⟩,a4,a5⟩;have:y'.n=y.n:=by show y'.c.n.toNat=y.c.n.toNat;rw[a2]
 rw[this];exact a3
theorem ug.sites(b:ug d k h y):au Tryz.prog 10 [(0,.obs (oh h))] [.box 0 0] (.agg (h.sit.vs.map .v)) [(0,.obs (oh h))]/\au Tryz.prog 11 [(0,.obs (qm y))] [.box 0 0] (.agg (h.sit.vs.map .v)) [(0,.obs (qm y))]:=by
 have h2:=UD y b.r.B (Qi b.r.may).1;rw[b.sit]at h2;exact⟨TW h b.r.g.p.b,h2⟩
theorem GV(c:jv)(l:List Opn)(_:c.rng)(hl:∀o∈l,o.rng)(hln:l.length<=140737488355328):aC Tryz.prog 3 [c.av,.sl 12 l.length true (opF l)] (.v (.bool true)) []:=by
 have hsh:=A8;have hfc:=FK c;have hmc:=Iz c;generalize MS c=d at hfc hmc;obtain⟨n,hn,hn1,Oj⟩:=FI hmc;have hnew:=FQ d n hn hmc hn1 Oj;have Z9:=N7 d hmc;have hB0:ug d 0 (hb0 d n) (RF d):=⟨l9.new hmc hn hn1 Oj,rfl,aar⟩;have hyn:(RF d).n=n:=by show d.n.toNat=n;omega
 generalize hb0 d n=h0 at hnew hB0;generalize RF d=y0 at Z9 hB0;obtain⟨dn,dw,dq,dh,dl,dp⟩:=d;obtain⟨cn,cw,cq,ch,cl,cp⟩:=c;dsimp only[jv.av,jv.cs]at hfc hnew Z9⊢;refine K1.E 0x40001010000001ff7 Tryz.func3 ?_;repeat' ((conv=>whnf);first|refine K1.u ?_|refine K1.P1 hsh ?_|refine K1.P1 hfc ?_|refine K1.C 0 [] (hnew) rfl ?_|refine K1.C 0 [] (Z9) rfl ?_|refine K1.z ?_|refine K1.y (λ _=>?_) (λ _=>?_)|fail)
 all_goals(conv=>whnf)
 clear hsh hfc hnew Z9;refine aK.mk {x:Nat×Hb×Ry//x.1<=l.length/\x.1<=50/\ug ⟨dn,dw,dq,dh,dl,dp⟩ x.1 x.2.1 x.2.2} (λ x=>⟨[(11,.v (.int .i64 (x.1.1:Int))),(9,.box 3 0),(7,.box 2 0),(1,.sl 12 l.length true (opF l))],[(3,.obs (qm x.1.2.2)),(2,.obs (oh x.1.2.1))],[],4⟩) (λ x=>50-x.1.1) ⟨(0,h0,y0),Nat.zero_le _,Nat.zero_le _,hB0⟩ _
  (iw.mk' [] _ _ _ rfl ⟨bI.int rfl,aP,aP,aP,trivial⟩ ⟨aY rfl,aY rfl,trivial⟩ rfl) ?_
 rintro⟨⟨j,h,y⟩,hj,abA,hb⟩;dsimp only at hj abA hb⊢;by_cases hjl:j<l.length/\j<50
 ·obtain⟨hjl,hj5⟩:=hjl;have ho:(l.getD (j:Int).toNat default).rng:=hl _ (by rw[Int.toNat_natCast,List.getD_eq_getElem?_getD,List.getElem?_eq_getElem hjl];exact List.getElem_mem _);obtain⟨h',y',hb',_,hd⟩:=hb.step (by omega) _ ho;obtain⟨hs1,hs2⟩:=hb'.sites;unfold Dj at hd;clear hb hB0 ho hl;obtain⟨H',eH⟩:∃B,oh h'=B:=⟨_,rfl⟩;obtain⟨Y',eY⟩:∃B,qm y'=B:=⟨_,rfl⟩;rw[eH]at hd hs1;rw[eY]at hd hs2;generalize h'.sit=S at hs1 hs2;generalize oh h=H at hd⊢;generalize qm y=Y at hd⊢;dsimp only[Opn.av]at hd;repeat' ((conv=>whnf);first|refine K1.u ?_|refine K1.C 99 [(0,_),(7,_)] (hd) rfl ?_|refine K1.C 1 [(0,_)] (hs1) rfl ?_|refine K1.C 1 [(0,_)] (hs2) rfl ?_|refine GZ.mk S.vs S.vs (S=S) rfl rfl (aa6 _ _) ?_|refine lD.yes rfl ?_|refine K1.z ?_|refine K1.y (λ _=>?_) (λ _=>?_)|fail)
  all_goals(conv=>whnf)
  refine⟨⟨(j+1,h',y'),by omega,by omega,hb'⟩,_,iw.mk' [] _ _ _ rfl ⟨bI.int rfl,aP,aP,aP,trivial⟩ ⟨⟨_,rfl, ?_⟩,⟨_,rfl, ?_⟩,trivial⟩ rfl,by show 50-(j+1)<50-j;omega⟩
  ·show fP _ (.obs (qm y'));rw[eY];exact fP.refl _
  ·show fP _ (.obs (oh h'));rw[eH];exact fP.refl _
 ·have hjl:l.length<=j\/50<=j:=by omega
  clear hb hB0 hl;rcases hjl with hjl|hjl;all_goals
   repeat' ((conv=>whnf);first|refine K1.u ?_|refine aO.dW ?_|refine K1.z ?_|refine K1.y (λ _=>?_) (λ _=>?_)|fail)
   all_goals(conv=>whnf)
   all_goals exact aW.mk (aP)
def Sit.a(t:Sit):Nat->dD
 |0=>t.a0
 |1=>t.a1
 |2=>t.a2
 |3=>t.a3
 |_=>t.a4
structure uh(n:Nat)(T:Sit)(p:gX):Prop where
 b:∀s,s<n->T.b.at s<=(p.s s).cuts
 l:∀s,s<n->T.l.at s<=((p.s s).l.length:Int)
 a:∀r,r<n-> ∀s,s<n->(T.a r).at s<=(p.dS.getD r aJ).at s
theorem Kz{s:Nat}{f:Nat->Int}(hs:s<n)(h5:s<5):(atN n f).at s=f s:=by
 rcases zn h5 with rfl|rfl|rfl|rfl|rfl
 ·show(if 0<n then f 0 else 0)=f 0;rw[if_pos hs]
 ·show(if 1<n then f 1 else 0)=f 1;rw[if_pos hs]
 ·show(if 2<n then f 2 else 0)=f 2;rw[if_pos hs]
 ·show(if 3<n then f 3 else 0)=f 3;rw[if_pos hs]
 ·show(if 4<n then f 4 else 0)=f 4;rw[if_pos hs]
theorem Qn(n:Nat)(y:gX){r:Nat}(hr:r<5):(pq n y).a r=y.dS.getD r aJ:=by
 rcases zn hr with rfl|rfl|rfl|rfl|rfl<;>rfl
theorem uh.self(h5:n<=5):uh n (pq n p) p:=
 ⟨λ s hs=>by show(atN n _).at s<=_;rw[Kz hs (by omega)];exact Int.le_refl _,λ s hs=>by show(atN n _).at s<=_;rw[Kz hs (by omega)];exact Int.le_refl _,λ r hr s hs=>by rw[Qn n p (by omega)];exact Int.le_refl _⟩
theorem uh.mon{T:Sit}{q:gX}(h:uh n T p)(m:Mon n p q):uh n T q:=
 ⟨λ s hs=>Int.le_trans (h.b s hs) (m.c s hs),λ s hs=>Int.le_trans (h.l s hs) (by have:=m.l s hs;omega),λ r hr s hs=>Int.le_trans (h.a r hr s hs) (m.a r s)⟩
structure acA(n:Nat)(w:Int)(S T:Sit):Prop where
 l:∀s,s<n->T.l.at s<=S.l.at s
 b:∀s,s<n->T.b.at s<=S.b.at s
 w:∀s,s<n->S.l.at s-S.b.at s<=w/\0<=S.b.at s/\S.b.at s<=1048576/\0<=S.l.at s/\S.l.at s<=1048576
 a:∀r,r<n-> ∀s,s<n->(T.a r).at s<=(S.a r).at s
 c:∀r,r<n-> ∀s,s<n->S.b.at s<=(S.a r).at s
theorem aac(b:ug d k h y){T:Sit}(ht:uh y.n T y.p):acA y.n d.w (pq y.n y.p) T:=by
 obtain⟨hyn,hn1,Oj⟩:=Qi b.r.may;have hB:=b.r.B;have sl:∀s,s<y.n->(pq y.n y.p).l.at s=((y.p.s s).l.length:Int):=λ s hs=>Kz hs (by omega);have sb:∀s,s<y.n->(pq y.n y.p).b.at s=(y.p.s s).cuts:=λ s hs=>Kz hs (by omega);refine⟨λ s hs=>by rw[sl s hs];exact ht.l s hs,λ s hs=>by rw[sb s hs];exact ht.b s hs,λ s hs=>?_,λ r hr s hs=>by rw[Qn _ _ (by omega)];exact ht.a r hr s hs,λ r hr s hs=>by rw[Qn _ _ (by omega),sb s hs];exact b.i.le s hs r hr⟩;rw[sl s hs,sb s hs];have hR:FV (y.p.s s):=hB.s _ (getD_mem (by have:=hB.p5;omega));have hG:=(b.r.G.s s (by rw[(rQ hB).1];exact hs)).k;rw[tN hs hB,b.c]at hG;have e:((toS (y.p.ps.getD s default)).kept.length:Int)=((y.p.s s).l.length:Int)-(y.p.s s).cuts:=by
  have h0:=hR.c0;have h1:=hR.c1;show(((y.p.s s).l.drop (y.p.s s).cuts.toNat).length:Int)=_;rw[List.length_drop];omega
 have h0:=hR.c0;have h1:=hR.c1;have h2:=hR.ln;omega
theorem GX(c:jv)(l:List Opn)(_:c.rng)(hl:∀o∈l,o.rng)(hln:l.length<=140737488355328):aC Tryz.prog 4 [c.av,.sl 12 l.length true (opF l)] (.v (.bool true)) []:=by
 have hsh:=A8;have hfc:=FK c;have hmc:=Iz c;generalize MS c=d at hfc hmc;obtain⟨n,hn,hn1,Oj⟩:=FI hmc;have hnew:=FQ d n hn hmc hn1 Oj;have Z9:=N7 d hmc;have hB0:ug d 0 (hb0 d n) (RF d):=⟨l9.new hmc hn hn1 Oj,rfl,aar⟩;have RH:=hB0.sites.1;have hyn:(RF d).n=n:=by show d.n.toNat=n;omega
 have hT0:uh n (hb0 d n).sit (RF d).p:=by
  have e:=hB0.sit;rw[<-e,hyn];exact uh.self Oj
 generalize hT:(hb0 d n).sit=T0 at RH hT0;clear hT;generalize hb0 d n=h0 at hnew hB0 RH;generalize RF d=y0 at Z9 hB0 hT0 hyn;obtain⟨dn,dw,dq,dh,dl,dp⟩:=d;obtain⟨cn,cw,cq,ch,cl,cp⟩:=c;dsimp only[jv.av,jv.cs]at hfc hnew Z9 hn⊢;refine K1.E 0x400000044000000004400100400000faf7 Tryz.func4 ?_;repeat' ((conv=>whnf);first|refine K1.u ?_|refine K1.P1 hsh ?_|refine K1.P1 hfc ?_|refine K1.C 0 [] (hnew) rfl ?_|refine K1.C 0 [] (Z9) rfl ?_|refine K1.C 1 [(0,_)] (RH) rfl ?_|refine K1.z ?_|refine K1.y (λ _=>?_) (λ _=>?_)|fail)
 all_goals(conv=>whnf)
 clear hsh hfc hnew Z9 RH;refine aK.mk {x:Nat×Hb×Ry×Sit//x.1<=l.length/\x.1<=50/\ug ⟨dn,dw,dq,dh,dl,dp⟩ x.1 x.2.1 x.2.2.1/\uh n x.2.2.2 x.2.2.1.p} (λ x=>⟨[(12,.v (.int .i64 (x.1.1:Int))),(11,.box 5 0),(9,.box 3 0),(7,.box 2 0),(6,.box 1 0),(1,.sl 12 l.length true (opF l))],
  [(5,.box 42 (x.1.2.2.2.vs.map .v)),(2,.obs (oh x.1.2.1)),(3,.obs (qm x.1.2.2.1)),(1,.box 23 [.v (.int .i64 dn),.v (.int .i64 dw),.v (.int .i64 dq),.v (.int .i64 dh),.v (.int .i64 dl),.v (.int .i64 dp)])],[],6⟩) (λ x=>50-x.1.1) ⟨(0,h0,y0,T0),Nat.zero_le _,Nat.zero_le _,hB0,hT0⟩ _
  (iw.mk' [] _ _ _ rfl ⟨bI.int rfl,aP,aP,aP,aP,aP,trivial⟩ ⟨aY rfl,aY rfl,aY rfl,aY rfl,trivial⟩ rfl) ?_
 rintro⟨⟨j,h,y,T⟩,hj,abA,hb,ht⟩;dsimp only at hj abA hb ht⊢;by_cases hjl:j<l.length/\j<50
 ·obtain⟨hjl,hj5⟩:=hjl;have ho:(l.getD (j:Int).toNat default).rng:=hl _ (by rw[Int.toNat_natCast,List.getD_eq_getElem?_getD,List.getElem?_eq_getElem hjl];exact List.getElem_mem _);obtain⟨h',y',hb',hm,hd⟩:=hb.step (by omega) _ ho;have acB:y.n=n:=by show y.c.n.toNat=n;rw[hb.c];show dn.toNat=n;omega
  have abB:y'.n=n:=by show y'.c.n.toNat=n;rw[hb'.c];show dn.toNat=n;omega
  rw[acB]at hm;have ht':=ht.mon hm;have hs1:=hb'.sites.1;have hK:=aac hb' (T:=T) (by rw[abB];exact ht');have hself:uh n (pq n y'.p) y'.p:=uh.self Oj;have hsit:=hb'.sit;rw[abB]at hK hsit;unfold Dj at hd;clear hb hB0 hT0 ho hl hm acB abB ht;obtain⟨H',eH⟩:∃B,oh h'=B:=⟨_,rfl⟩;obtain⟨Y',eY⟩:∃B,qm y'=B:=⟨_,rfl⟩;rw[eH]at hd hs1;rw[eY]at hd;rw[<-hsit]at hs1;generalize oh h=H at hd⊢;generalize qm y=Y at hd⊢;have hSu:(pq n y'.p).vs= .bool true::((pq n y'.p).b.vs++((pq n y'.p).l.vs++((pq n y'.p).a0.vs++((pq n y'.p).a1.vs++((pq n y'.p).a2.vs++((pq n y'.p).a3.vs++(pq n y'.p).a4.vs)))))):=rfl;generalize hS:pq n y'.p=S at hs1 hK hself hSu;clear hsit hS;have back:∀(U:Sit),uh n U y'.p-> ∃z:{x:Nat×Hb×Ry×Sit//x.1<=l.length/\x.1<=50/\ug ⟨dn,dw,dq,dh,dl,dp⟩ x.1 x.2.1 x.2.2.1/\uh n x.2.2.2 x.2.2.1.p},z.1=(j+1,h',y',U):=λ U hU=>⟨⟨(j+1,h',y',U),by dsimp only;omega,by dsimp only;omega,hb',hU⟩,rfl⟩;dsimp only[Opn.av]at hd;obtain⟨z1,e1⟩:=back T ht';obtain⟨z2,e2⟩:=back S hself;clear back ht' hself;cases hup:y'.up with
  |false=>
   rw[hup,if_neg (by simp)]at hs1;clear hK hSu hup hb';repeat' ((conv=>whnf);first|refine K1.u ?_|refine K1.C 99 [(0,_),(7,_)] (hd) rfl ?_|refine K1.C 1 [(0,_)] (hs1) rfl ?_|refine K1.z ?_|refine K1.y (λ _=>?_) (λ _=>?_)|fail)
   all_goals(conv=>whnf)
   refine⟨z1,_,iw.mk' [] _ _ _ rfl ⟨bI.int (by rw[e1];rfl),aP,aP,aP,aP,aP,trivial⟩ ⟨⟨_,rfl,by rw[e1];exact fP.refl _⟩,⟨_,rfl,by rw[e1,<-eH];exact fP.refl _⟩,⟨_,rfl,by rw[e1,<-eY];exact fP.refl _⟩,aY rfl,trivial⟩ rfl,by rw[e1];show 50-(j+1)<50-j;omega⟩
  |true=>
   rw[hup,if_pos rfl,hSu]at hs1;clear hup hb';subst hn;rcases(show n=1\/n=2\/n=3\/n=4\/n=5 by omega)with rfl|rfl|rfl|rfl|rfl;all_goals
    try have l0:=hK.l 0 (by omega)
    try have b0:=hK.b 0 (by omega)
    try have w0:=hK.w 0 (by omega)
    try have l1:=hK.l 1 (by omega)
    try have b1:=hK.b 1 (by omega)
    try have w1:=hK.w 1 (by omega)
    try have l2:=hK.l 2 (by omega)
    try have b2:=hK.b 2 (by omega)
    try have w2:=hK.w 2 (by omega)
    try have l3:=hK.l 3 (by omega)
    try have b3:=hK.b 3 (by omega)
    try have w3:=hK.w 3 (by omega)
    try have l4:=hK.l 4 (by omega)
    try have b4:=hK.b 4 (by omega)
    try have w4:=hK.w 4 (by omega)
    try have a00:=hK.a 0 (by omega) 0 (by omega)
    try have c00:=hK.c 0 (by omega) 0 (by omega)
    try have a01:=hK.a 0 (by omega) 1 (by omega)
    try have c01:=hK.c 0 (by omega) 1 (by omega)
    try have a02:=hK.a 0 (by omega) 2 (by omega)
    try have c02:=hK.c 0 (by omega) 2 (by omega)
    try have a03:=hK.a 0 (by omega) 3 (by omega)
    try have c03:=hK.c 0 (by omega) 3 (by omega)
    try have a04:=hK.a 0 (by omega) 4 (by omega)
    try have c04:=hK.c 0 (by omega) 4 (by omega)
    try have a10:=hK.a 1 (by omega) 0 (by omega)
    try have c10:=hK.c 1 (by omega) 0 (by omega)
    try have a11:=hK.a 1 (by omega) 1 (by omega)
    try have c11:=hK.c 1 (by omega) 1 (by omega)
    try have a12:=hK.a 1 (by omega) 2 (by omega)
    try have c12:=hK.c 1 (by omega) 2 (by omega)
    try have a13:=hK.a 1 (by omega) 3 (by omega)
    try have c13:=hK.c 1 (by omega) 3 (by omega)
    try have a14:=hK.a 1 (by omega) 4 (by omega)
    try have c14:=hK.c 1 (by omega) 4 (by omega)
    try have a20:=hK.a 2 (by omega) 0 (by omega)
    try have c20:=hK.c 2 (by omega) 0 (by omega)
    try have a21:=hK.a 2 (by omega) 1 (by omega)
    try have c21:=hK.c 2 (by omega) 1 (by omega)
    try have a22:=hK.a 2 (by omega) 2 (by omega)
    try have c22:=hK.c 2 (by omega) 2 (by omega)
    try have a23:=hK.a 2 (by omega) 3 (by omega)
    try have c23:=hK.c 2 (by omega) 3 (by omega)
    try have a24:=hK.a 2 (by omega) 4 (by omega)
    try have c24:=hK.c 2 (by omega) 4 (by omega)
    try have a30:=hK.a 3 (by omega) 0 (by omega)
    try have c30:=hK.c 3 (by omega) 0 (by omega)
    try have a31:=hK.a 3 (by omega) 1 (by omega)
    try have c31:=hK.c 3 (by omega) 1 (by omega)
    try have a32:=hK.a 3 (by omega) 2 (by omega)
    try have c32:=hK.c 3 (by omega) 2 (by omega)
    try have a33:=hK.a 3 (by omega) 3 (by omega)
    try have c33:=hK.c 3 (by omega) 3 (by omega)
    try have a34:=hK.a 3 (by omega) 4 (by omega)
    try have c34:=hK.c 3 (by omega) 4 (by omega)
    try have a40:=hK.a 4 (by omega) 0 (by omega)
    try have c40:=hK.c 4 (by omega) 0 (by omega)
    try have a41:=hK.a 4 (by omega) 1 (by omega)
    try have c41:=hK.c 4 (by omega) 1 (by omega)
    try have a42:=hK.a 4 (by omega) 2 (by omega)
    try have c42:=hK.c 4 (by omega) 2 (by omega)
    try have a43:=hK.a 4 (by omega) 3 (by omega)
    try have c43:=hK.c 4 (by omega) 3 (by omega)
    try have a44:=hK.a 4 (by omega) 4 (by omega)
    try have c44:=hK.c 4 (by omega) 4 (by omega)
    clear hK;simp only[Sit.a,dD.at]at*;repeat' ((conv=>whnf);first|refine K1.u ?_|refine K1.C 99 [(0,_),(7,_)] (hd) rfl ?_|refine K1.C 1 [(0,_)] (hs1) rfl ?_|refine aK.rounds 6 ?_|refine qM.mk (by decide) ?_|refine K1.z ?_|refine K1.y (λ _=>?_) (λ _=>?_)|fail)
    all_goals(conv=>whnf)
    refine⟨z2,_,iw.mk' [] _ _ _ rfl ⟨bI.int (by rw[e2];rfl),aP,aP,aP,aP,aP,trivial⟩ ⟨⟨_,rfl,by rw[e2];show fP _ (.box _ (S.vs.map .v));rw[hSu];exact fP.refl _⟩,⟨_,rfl,by rw[e2,<-eH];exact fP.refl _⟩,⟨_,rfl,by rw[e2,<-eY];exact fP.refl _⟩,aY rfl,trivial⟩ rfl,by rw[e2];show 50-(j+1)<50-j;omega⟩
 ·have hjl:l.length<=j\/50<=j:=by omega
  clear hb hB0 hT0 hl ht;rcases hjl with hjl|hjl;all_goals
   repeat' ((conv=>whnf);first|refine K1.u ?_|refine aO.dW ?_|refine K1.z ?_|refine K1.y (λ _=>?_) (λ _=>?_)|fail)
   all_goals(conv=>whnf)
   all_goals exact aW.mk (aP)
end Go.Proofs.YtopfgjgdadnjeaaGreat
