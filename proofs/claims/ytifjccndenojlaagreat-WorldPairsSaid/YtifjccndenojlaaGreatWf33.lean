/-
  Contracts of the walk:HbQ,HbR,HbY,HbX,HyE,HyF,HyGp,WcJ.
-/
import Derived.Test.YtifjccndenojlaaGreatWf31
import Derived.Test.YtifjccndenojlaaGreatWf30
import Derived.Test.YtifjccndenojlaaGreatWf23
import Derived.Test.YtifjccndenojlaaGreatWf26
import Derived.Test.YtifjccndenojlaaGreatWf32
set_option maxHeartbeats 16000000
set_option maxRecDepth 100000
set_option linter.unusedVariables false
set_option linter.unusedSimpArgs false
namespace Go.Proofs.YtifjccndenojlaaGreat
open Go.RowKit
open Go.Proofs.Tryz
variable{y:DI}{h:Hb}{to u w:Int}{ev l:List Ev}{k q r:Nat}{F:Nat->List AV}{p:Pt}{x:Rc}{c:aV}{s:jY}
theorem Xa(h:Hb)(hp:qX h.p)(p':Pt)(hp':qX p')(r:Nat)(u:Int)(c:aV)(ev:List Ev)(oh:r<5)(hack:Dy h.c.w h.p p' r c)(hn:p'.told.getD r aW=h.p.told.getD r aW):
  aj prog 115 (jE h ()) [.box 0 0,IK 5 r u c ev] (.v (.int .i64 0)) (jE (h.fK p') ()):=by
 have hs:=eP h.c.w h.p hp;have hs':=eP h.c.w p' hp';obtain⟨up,cf,p,d⟩:=h;dsimp only at hs hs' hack hn;refine lt5 (C:=λ r=>r<5->Dy cf.w p p' r c->p'.told.getD r aW=p.told.getD r aW->aj prog 115 (jE ⟨up,cf,p,d⟩ ()) [.box 0 0,IK 5 r u c ev] (.v (.int .i64 0)) (jE (Hb.fK ⟨up,cf,p,d⟩ p') ())) oh ?_ ?_ ?_ ?_ ?_ oh hack hn;all_goals
  intro hr hack hn;dsimp only[Dy,jE,pI,hbB,pG,gI,IK,FK,qw,Hb.fK,Rc.av,Rc.cs,Rc.nilA,yQ]at hs hs' hack⊢;refine K1.M 0x400400007b func115 40 ?_;repeat' ((conv=>whnf);first|refine bD.fin rfl ?_|refine bD.pick _ _ rfl rfl ?_|refine bD.one _ _ rfl rfl rfl ?_|refine bD.fork _ _ _ _ rfl rfl rfl rfl ?_ ?_|refine bD.mQ _ _ _ _ _ _ rfl rfl rfl rfl rfl ?_ ?_ ?_|refine K1.u ?_|refine K1.C 1 [(0,_)] (hack) rfl ?_|refine K1.C 1 [(0,_)] (hs) rfl ?_|refine K1.C 1 [(0,_)] (hs') rfl ?_|refine nV.mk d_ ?_|(refine fO.amw 274945015931 (id:=1) bQ (dM bQ _) (ajl hr up cf p d u c ev) fG (by kernel_rfl) 11 _ rfl rfl ?_ ?_<;>dsimp only[ajl])|exact⟨[(41,80)],dO.mk' _ _ _ _ rfl ⟨au,au,au,trivial⟩ ⟨ay rfl,ay rfl,ay rfl,ay rfl,ay rfl,ay rfl,trivial⟩ rfl⟩|exact⟨[(42,80)],dO.mk' _ _ _ _ rfl ⟨au,au,au,trivial⟩ ⟨ay rfl,ay rfl,ay rfl,ay rfl,ay rfl,ay rfl,trivial⟩ rfl⟩|refine Ub.mk (aV.vs _) (aV.vs _) _ rfl rfl (Gl _ _) ?_|refine K1.o (id:=2) (nN [0,1,2,3,4,5,6,7] [(8,some [7,5,3,1]),(9,none)]) ?_|refine K1.o (id:=5) (nN [0,1,2,3,6,7,9] ((4,some [3,1])::nN [5,8,10] [])) ?_|fail)
  all_goals(conv=>whnf)
  exact⟨[],rfl,rfl,⟨ay rfl,ay rfl,ay rfl,ay rfl,trivial⟩,rfl,rfl,au⟩
theorem GR(h _h':Hb)(hp:qX h.p)(hup:h.up=true){n:Nat}(p':Pt)(hp':qX p')(r:Nat)(u _m _y:Int)(c:aV)(ev:List Ev)(_w:List UInt8)(oh:r<5)(hft:lM n F 5 r u c ev 0)(hrn:(r:Int)<h.c.n)(hack:aj prog 115 (jE h ()) [.box 0 0,IK 5 r u c ev] (.v (.int .i64 0)) (jE (h.fK p') ())):
  aj prog 76 (jE h ()) [.box 0 0,.sl 1 n true F] (FK 0) (jE (h.fK p') ()):=by
 have hs:=eP h.c.w h.p hp;have hs':=eP h.c.w p' hp';obtain⟨up,cf,p,d⟩:=h;dsimp only at hs hs' hup hft hrn hack;subst hup;refine lt5 (C:=λ r=>r<5->lM n F 5 r u c ev 0->(r:Int)<cf.n->aj prog 115 (jE ⟨true,cf,p,d⟩ ()) [.box 0 0,IK 5 r u c ev] (.v (.int .i64 0)) (jE ((Hb.fK ⟨true,cf,p,d⟩) p') ())->aj prog 76 (jE ⟨true,cf,p,d⟩ ()) [.box 0 0,.sl 1 n true F] (FK 0) (jE (Hb.fK ⟨true,cf,p,d⟩ p') ())) oh ?_ ?_ ?_ ?_ ?_ oh hft hrn hack;all_goals
  clear hft hrn hack;intro hr hft hrn hack;dsimp only[lM,Dy,qU,vC,nR,qp,writeT,qw,jE,pI,hbB,pG,gI,bH,IK,FK,yS,Hb.fK,Rc.av,Rc.cs,Rc.nilA,aW,Pt.lenOf,yQ,List.cons_append,List.nil_append]at hs hs' hft hrn hack⊢;refine K1.M 0x20203402041f3 func76 40 ?_;repeat' ((conv=>whnf);first|refine K1.u ?_|refine K1.P1 hft ?_|refine K1.C 99 [(0,_),(8,_),(10,_),(9,_)] (hack) rfl ?_|fail)
  all_goals(conv=>whnf)
  exact⟨[],rfl,rfl,⟨ay rfl,ay rfl,ay rfl,ay rfl,trivial⟩,rfl,rfl,au⟩
theorem ag1(h h':Hb)(hp:qX h.p)(p':Pt)(hp':qX p')(r:Nat)(u:Int)(c:aV)(ev:List Ev)(oh:r<5)(y:Int)(hack:Dy h.c.w h.p p' r c)(hn:p'.told.getD r aW≠h.p.told.getD r aW)(hw:qw (h.fK p') h' ⟨6,r,0,c,[]⟩ y):
  aj prog 115 (jE h ()) [.box 0 0,IK 5 r u c ev] (.v (.int .i64 y)) (pI 11 h'):=by
 have hs:=eP h.c.w h.p hp;have hs':=eP h.c.w p' hp';obtain⟨up,cf,p,d⟩:=h;dsimp only at hs hs' hack hn;refine lt5 (C:=λ r=>r<5->Dy cf.w p p' r c->p'.told.getD r aW≠p.told.getD r aW->qw (Hb.fK ⟨up,cf,p,d⟩ p') h' ⟨6,r,0,c,[]⟩ y->aj prog 115 (jE ⟨up,cf,p,d⟩ ()) [.box 0 0,IK 5 r u c ev] (.v (.int .i64 y)) (pI 11 h')) oh ?_ ?_ ?_ ?_ ?_ oh hack hn hw;all_goals
  intro hr hack hn hw;dsimp only[Dy,jE,pI,hbB,pG,gI,IK,FK,qw,Hb.fK,Rc.av,Rc.cs,Rc.nilA,yQ]at hs hs' hack hw⊢;refine K1.M 0x400400007b func115 40 ?_;repeat' ((conv=>whnf);first|refine bD.fin rfl ?_|refine bD.pick _ _ rfl rfl ?_|refine bD.one _ _ rfl rfl rfl ?_|refine bD.fork _ _ _ _ rfl rfl rfl rfl ?_ ?_|refine bD.mQ _ _ _ _ _ _ rfl rfl rfl rfl rfl ?_ ?_ ?_|refine K1.u ?_|refine K1.C 1 [(0,_)] (hack) rfl ?_|refine K1.C 1 [(0,_)] (hs) rfl ?_|refine K1.C 1 [(0,_)] (hs') rfl ?_|refine K1.C 11 [(0,_),(8,_),(10,_),(9,_)] (hw) rfl ?_|refine nV.mk d_ ?_|(refine fO.amw 274945015931 (id:=1) bQ (dM bQ _) (ajl hr up cf p d u c ev) fG (by kernel_rfl) 11 _ rfl rfl ?_ ?_<;>dsimp only[ajl])|exact⟨[(41,80)],dO.mk' _ _ _ _ rfl ⟨au,au,au,trivial⟩ ⟨ay rfl,ay rfl,ay rfl,ay rfl,ay rfl,ay rfl,trivial⟩ rfl⟩|exact⟨[(42,80)],dO.mk' _ _ _ _ rfl ⟨au,au,au,trivial⟩ ⟨ay rfl,ay rfl,ay rfl,ay rfl,ay rfl,ay rfl,trivial⟩ rfl⟩|refine Ub.mk (aV.vs _) (aV.vs _) _ rfl rfl (Gl _ _) ?_|refine K1.o (id:=2) (nN [0,1,2,3,4,5,6,7] [(8,some [7,5,3,1]),(9,none)]) ?_|refine K1.o (id:=5) (nN [0,1,2,3,6,7,9] ((4,some [3,1])::nN [5,8,10] [])) ?_|refine K1.o (id:=7) (nN [0,1,2,3,4,5,6,7] [(8,some [6,4,1]),(9,none)]) ?_|fail)
  all_goals(conv=>whnf)
  exact⟨[(83,11)],rfl,rfl,⟨ay rfl,ay rfl,ay rfl,ay rfl,trivial⟩,rfl,rfl,au⟩
theorem N9(h h':Hb)(hp:qX h.p)(hup:h.up=true){n:Nat}(p':Pt)(hp':qX p')(r:Nat)(u _m y:Int)(c:aV)(ev:List Ev)(_w:List UInt8)(oh:r<5)(hft:lM n F 5 r u c ev 0)(hrn:(r:Int)<h.c.n)(hack:aj prog 115 (jE h ()) [.box 0 0,IK 5 r u c ev] (.v (.int .i64 y)) (pI 11 h')):
  aj prog 76 (jE h ()) [.box 0 0,.sl 1 n true F] (FK y) (pI 11 h'):=by
 have hs:=eP h.c.w h.p hp;have hs':=eP h.c.w p' hp';obtain⟨up,cf,p,d⟩:=h;dsimp only at hs hs' hup hft hrn hack;subst hup;refine lt5 (C:=λ r=>r<5->lM n F 5 r u c ev 0->(r:Int)<cf.n->aj prog 115 (jE ⟨true,cf,p,d⟩ ()) [.box 0 0,IK 5 r u c ev] (.v (.int .i64 y)) (pI 11 h')->aj prog 76 (jE ⟨true,cf,p,d⟩ ()) [.box 0 0,.sl 1 n true F] (FK y) (pI 11 h')) oh ?_ ?_ ?_ ?_ ?_ oh hft hrn hack;all_goals
  clear hft hrn hack;intro hr hft hrn hack;dsimp only[lM,Dy,qU,vC,nR,qp,writeT,qw,jE,pI,hbB,pG,gI,bH,IK,FK,yS,Hb.fK,Rc.av,Rc.cs,Rc.nilA,aW,Pt.lenOf,yQ,List.cons_append,List.nil_append]at hs hs' hft hrn hack⊢;refine K1.M 0x20203402041f3 func76 40 ?_;repeat' ((conv=>whnf);first|refine K1.u ?_|refine K1.P1 hft ?_|refine K1.C 11 [(0,_),(8,_),(10,_),(9,_)] (hack) rfl ?_|fail)
  all_goals(conv=>whnf)
  exact⟨[(41,11)],rfl,rfl,⟨ay rfl,ay rfl,ay rfl,ay rfl,trivial⟩,rfl,rfl,au⟩
theorem Xb(most:Int)(s0:jY)(t0 c:aV):aj prog 151 [(0,.obs (Bd most ⟨[s0],[t0]⟩))] [.box 0 0,.v (.int .i64 ((0:Nat):Int)),.agg (yQ c)] (.bI [.v (.slice none 0 0),.v (.int .i64 0)]) [(0,.obs (Bd most ⟨[s0],[t0]⟩))]:=by
 refine Ld (ho:=[]) ⟨_,_,func151,rfl,rfl⟩ ?_ rfl;rw[aor];dsimp only[rD,ptB,wC,ptrs,YI,bH,yQ];refine K1.M 0x83c47e7 func151 40 ?_;repeat' ((conv=>whnf);first|refine K1.u ?_|refine K1.I 0x13 func101 ?_|refine aI.yP 20 6 rfl ?_|refine nV.mk d_ ?_|refine oC.yes d_ ?_|refine oC.no d_ ?_|fail)
 all_goals(conv=>whnf)
 exact⟨[],rfl,rfl,⟨ay rfl,ay rfl,ay rfl,ay rfl,trivial⟩,rfl,rfl,au⟩
def Ji(most:Int)(p:Pt)(r:Nat)(c:aV):Prop:=aj prog 151 [(0,.obs (Bd most p))] [.box 0 0,.v (.int .i64 (r:Int)),.agg (yQ c)] (.bI [.v (.slice none 0 0),.v (.int .i64 0)]) [(0,.obs (Bd most p))]
theorem MO(h _h':Hb)(hp:qX h.p)(hup:h.up=true){n:Nat}(p':Pt)(hp':qX p')(r:Nat)(u _m _y:Int)(c:aV)(ev:List Ev)(w:List UInt8)(oh:r<5)(hft:lM n F 3 r u c ev 0)(hrn:(r:Int)<h.c.n)(hf:Ji h.c.w h.p r c)(hre:nR ⟨4,r,0,aW,[]⟩ w):
  aj prog 76 (jE h ()) [.box 0 0,.sl 1 n true F] (yS r) (jE h ()++[(1,gI w)]):=by
 have hs:=eP h.c.w h.p hp;have hs':=eP h.c.w p' hp';obtain⟨up,cf,p,d⟩:=h;dsimp only at hs hs' hup hft hrn hf hre;subst hup;refine lt5 (C:=λ r=>r<5->lM n F 3 r u c ev 0->(r:Int)<cf.n->Ji cf.w p r c->nR ⟨4,r,0,aW,[]⟩ w->aj prog 76 (jE ⟨true,cf,p,d⟩ ()) [.box 0 0,.sl 1 n true F] (yS r) (jE ⟨true,cf,p,d⟩ ()++[(1,gI w)])) oh ?_ ?_ ?_ ?_ ?_ oh hft hrn hf hre;all_goals
  clear hft hrn hf hre;intro hr hft hrn hf hre;dsimp only[Ji,lM,Dy,qU,vC,nR,qp,writeT,qw,jE,pI,hbB,pG,gI,bH,IK,FK,yS,Hb.fK,Rc.av,Rc.cs,Rc.nilA,aW,Pt.lenOf,yQ,List.cons_append,List.nil_append]at hs hs' hft hrn hf hre⊢;refine K1.M 0x20203402041f3 func76 40 ?_;repeat' ((conv=>whnf);first|refine K1.u ?_|refine K1.P1 hft ?_|refine K1.C 1 [(0,_)] (hf) rfl ?_|refine K1.F1 (hre _) ?_|refine K1.I 0x4001fb func114 ?_|refine K1.o (id:=1) (nN [0,1,2,3,4,5,6,7] ((8,some [7,5,3,1])::nN [9,10,11,12,13] [])) ?_|fail)
  all_goals(conv=>whnf)
  exact⟨[(43,1)],rfl,rfl,⟨ay rfl,ay rfl,ay rfl,ay rfl,ay rfl,trivial⟩,rfl,rfl,au⟩
theorem Tn(h:Hb)(hup:h.up=false){n:Nat}:
  aj prog 76 (jE h ()) [.box 0 0,.sl 1 n true F] (FK 18) (jE h ()):=by
 obtain⟨up,cf,p,d⟩:=h;dsimp only at hup;subst hup;dsimp only[jE,hbB,pG,gI,FK];refine K1.M 0x20203402041f3 func76 40 ?_
 all_goals(conv=>whnf)
 exact⟨[],rfl,rfl,⟨ay rfl,ay rfl,ay rfl,ay rfl,trivial⟩,rfl,rfl,au⟩
theorem Xc(h:Hb)(hup:h.up=true)(x k r u:Int)(c:aV)(ev:List Ev){n:Nat}(hft:aH prog 110 [.sl 1 n true F] (.bI [IK k r u c ev,.v (.int .i64 x)]) [])(hx:x≠0):
  aj prog 76 (jE h ()) [.box 0 0,.sl 1 n true F] (FK x) (jE h ()):=by
 obtain⟨up,cf,p,d⟩:=h;dsimp only at hup;subst hup;dsimp only[jE,hbB,pG,gI,FK,IK]at hft⊢;refine K1.M 0x20203402041f3 func76 40 ?_;repeat' ((conv=>whnf);first|refine K1.u ?_|refine K1.P1 hft ?_|fail)
 all_goals(conv=>whnf)
 exact⟨[],rfl,rfl,⟨ay rfl,ay rfl,ay rfl,ay rfl,trivial⟩,rfl,rfl,au⟩
theorem ac4(h:Hb)(hup:h.up=true)(k r u:Int)(c:aV)(ev:List Ev){n:Nat}(hft:aH prog 110 [.sl 1 n true F] (.bI [IK k r u c ev,.v (.int .i64 0)]) [])(hr:h.c.n<=r):
  aj prog 76 (jE h ()) [.box 0 0,.sl 1 n true F] (FK 23) (jE h ()):=by
 obtain⟨up,cf,p,d⟩:=h;dsimp only at hup hr;subst hup;dsimp only[jE,hbB,pG,gI,FK,IK]at hft⊢;refine K1.M 0x20203402041f3 func76 40 ?_;repeat' ((conv=>whnf);first|refine K1.u ?_|refine K1.P1 hft ?_|fail)
 all_goals(conv=>whnf)
 exact⟨[],rfl,rfl,⟨ay rfl,ay rfl,ay rfl,ay rfl,trivial⟩,rfl,rfl,au⟩
theorem Tq(h:Hb)(hup:h.up=true)(k r u:Int)(c:aV)(ev:List Ev){n:Nat}(hft:aH prog 110 [.sl 1 n true F] (.bI [IK k r u c ev,.v (.int .i64 0)]) [])(hr:r<h.c.n)(h1:k≠1)(h3:k≠3)(h5:k≠5):
  aj prog 76 (jE h ()) [.box 0 0,.sl 1 n true F] (FK 23) (jE h ()):=by
 obtain⟨up,cf,p,d⟩:=h;dsimp only at hup hr;subst hup;dsimp only[jE,hbB,pG,gI,FK,IK]at hft⊢;refine K1.M 0x20203402041f3 func76 40 ?_;repeat' ((conv=>whnf);first|refine K1.u ?_|refine K1.P1 hft ?_|fail)
 all_goals(conv=>whnf)
 exact⟨[],rfl,rfl,⟨ay rfl,ay rfl,ay rfl,ay rfl,trivial⟩,rfl,rfl,au⟩
def Res:Type:=Int ⊕ (Nat×List UInt8)
def aaX(h:Hb)(z:Rc):Hb×Res:=
 if(pushP h.c.w z.r.toNat z.ev h.p).2.2≠0 then(h,.inl (pushP h.c.w z.r.toNat z.ev h.p).2.2)
 else if(pushP h.c.w z.r.toNat z.ev h.p).2.1=h.p.lenOf z.r.toNat then(h.fK (pushP h.c.w z.r.toNat z.ev h.p).1,.inr (z.r.toNat,bF ⟨2,z.r,(pushP h.c.w z.r.toNat z.ev h.p).2.1,aW,[]⟩))
 else if(ng (h.fK (pushP h.c.w z.r.toNat z.ev h.p).1) ⟨5,z.r,0,aW,z.ev⟩).2=0 then((ng (h.fK (pushP h.c.w z.r.toNat z.ev h.p).1) ⟨5,z.r,0,aW,z.ev⟩).1,.inr (z.r.toNat,bF ⟨2,z.r,(pushP h.c.w z.r.toNat z.ev h.p).2.1,aW,[]⟩))
 else((ng (h.fK (pushP h.c.w z.r.toNat z.ev h.p).1) ⟨5,z.r,0,aW,z.ev⟩).1,.inl (ng (h.fK (pushP h.c.w z.r.toNat z.ev h.p).1) ⟨5,z.r,0,aW,z.ev⟩).2)
def ajo(h:Hb)(z:Rc):Hb×Res:=
 if(qQ h.p z.r.toNat z.c).told.getD z.r.toNat aW=h.p.told.getD z.r.toNat aW then(h.fK (qQ h.p z.r.toNat z.c),.inl 0)
 else((ng (h.fK (qQ h.p z.r.toNat z.c)) ⟨6,z.r,0,z.c,[]⟩).1,.inl (ng (h.fK (qQ h.p z.r.toNat z.c)) ⟨6,z.r,0,z.c,[]⟩).2)
def ag2(h:Hb)(z:Rc):Hb×Res:=
 if h.c.n<=z.r then(h,.inl 23)
 else if z.k=1 then aaX h z
 else if z.k=3 then(h,.inr (z.r.toNat,bF ⟨4,z.r,0,aW,lG z.r.toNat z.c 0 h.p.sh⟩))
 else if z.k=5 then ajo h z
 else(h,.inl 23)
def Tt(h:Hb)(b:List UInt8):Hb×Res:=
 if h.up=false then(h,.inl 18)
 else if(dS b).2≠0 then(h,.inl (dS b).2)
 else ag2 h (dS b).1
structure HbG(h:Hb):Prop where
 p:WZ h.c.w h.p
 n:h.c.n=(h.p.sh.length:Int)
 w:h.c.w<=4
 bs:h.d.bs.length<=500000000
def Oa:Res->AV
 | .inl x=>FK x
 | .inr (r,_)=>yS r
def yT:Res->List (Nat×AO)
 | .inl _=>[]
 | .inr (_,w)=>[(1,gI w)]
theorem MP{n:Int}(h0:0<=n)(h1:n<=1048576):qE n=true:=kH ⟨h0,h1⟩
theorem ag3{r m:Int}(h0:0<=r)(h5:r<5)(m0:0<=m)(m1:m<=1048576):ku ⟨2,r,m,aW,[]⟩=true:=by
 simp[ku,shK,Hy,Hz,Hw,Pv,MP m0 m1,h0,h5,NK,aW,MP (show(0:Int)<=0 by omega) o_]
theorem ag4{r:Int}(h0:0<=r)(h5:r<5)(hl:l.length<=20)(hm:∀e∈l,eH e=0):ku ⟨4,r,0,aW,l⟩=true:=by
 have:l.all (vw 4 r)=true:=aoD.2 λ e he=>Gy (hm e he) d_;simp[ku,shK,Hy,Hz,Hw,Pv,h0,h5,hl,NK,aW,MP (show(0:Int)<=0 by omega) o_];simpa using this
theorem ag5{r:Int}(h0:0<=r)(h5:r<5)(hl:l.length<=4096)(hm:∀e∈l,eH e=0):iH ⟨5,r,0,aW,l⟩=true:=by
 simp[iH,rcK,FD,FI,FH,Pv,h0,h5,hl,NK,aW,MP (show(0:Int)<=0 by omega) o_];simpa using hm
theorem ag6{r:Int}(h0:0<=r)(h5:r<5)(hc:Pv c=true):iH ⟨6,r,0,c,[]⟩=true:=by
 simp[iH,rcK,FD,FI,FH,h0,h5,hc,MP (show(0:Int)<=0 by omega) o_]
theorem Qq(hx:ku x=true):qp x (bF x):=λ d=>ac0 d x hx
theorem ac5(h:r<p.sh.length):p.lenOf r=(p.sh.getD r default).len:=by
 unfold Pt.lenOf;rw[aoG,ao0,aom h,aoG,aom h];rfl
theorem ajp{h':Hb}{aZ:List AV}{r:Res}(hE:Enters prog 76)(ha:(aZ.all (pO (λ _=>false) 0))=true)
  (hm:aj prog 76 (jE h ()) aZ (Oa r) (jE h' ()++yT r)\/aj prog 76 (jE h ()) aZ (Oa r) (pI 11 h'++yT r)):
  aj prog 76 [(0,.obs (Dt h))] aZ (Oa r) ((0,.obs (Dt h'))::yT r):=by
 cases r with
 |inl x=>
  rcases hm with hm|hm
  ·exact GK hE hm (by rw[ha];rfl)
  ·exact WV hE hm (by rw[ha];rfl)
 |inr q=>
  obtain⟨r,w⟩:=q;rcases hm with hm|hm
  ·exact GK hE hm (by rw[ha];rfl)
  ·exact WV hE hm (by rw[ha];rfl)
theorem ac6(h h':Hb)(b:List UInt8)(res:Res)(hg:HbG h)(ht:Tt h b=(h',res)){n:Nat}(hF:bG F b)(hn:n=b.length):
  aj prog 76 [(0,.obs (Dt h))] [.box 0 0,.sl 1 n true F] (Oa res) ((0,.obs (Dt h'))::yT res):=by
 refine ajp ⟨_,_,func76,rfl,rfl⟩ rfl ?_;have hpb:=hg.p.b;unfold Tt at ht;by_cases hup:h.up=false
 ·rw[if_pos hup]at ht;cases ht;exact .inl (by rw[show yT (.inl 18)=[]from rfl,aor];exact Tn h hup)
 ·rw[if_neg hup]at ht;have hup:h.up=true:=by simpa using hup
  obtain⟨⟨z,x⟩,htk⟩:∃q,dS b=q:=⟨_,rfl⟩;have hft:=nP b htk hF hn;rw[htk]at ht;dsimp only at ht;by_cases hx:x≠0
  ·rw[if_pos hx]at ht;cases ht;exact .inl (by rw[show yT (.inl x)=[]from rfl,aor];exact Xc h hup x z.k z.r z.u z.c z.ev hft hx)
  ·rw[if_neg hx]at ht;have hx:x=0:=by simpa using hx
   subst hx;have hlen:b.length<=2048:=by
    rcases aoP 2048 b.length with h|h
    ·unfold dS at htk;rw[if_pos o_]at htk;simp at htk
    ·exact h
   have hmf:ku z=true:=by
    rcases Dn b hlen with⟨z',h1,h2,_⟩|h1|h1
    ·rw[htk]at h1;cases h1;exact h2
    ·rw[htk]at h1;cases h1
    ·rw[htk]at h1;cases h1
   have hm:=qC hmf;have hr0:=hm.r;unfold ag2 at ht;by_cases hrn:h.c.n<=z.r
   ·rw[if_pos hrn]at ht;cases ht;exact .inl (by rw[show yT (.inl 23)=[]from rfl,aor];exact ac4 h hup z.k z.r z.u z.c z.ev hft hrn)
   ·rw[if_neg hrn]at ht;obtain⟨k,zr,u,c,ev⟩:=z;dsimp only at ht hm hr0 hrn;obtain⟨r,rfl⟩:∃r:Nat,zr=(r:Int):=⟨zr.toNat,o_⟩;have hn':=hg.n;have hr:r<h.p.sh.length:=o_
    have oh:r<5:=o_
    have hrn:(r:Int)<h.c.n:=o_
    simp only[apc]at ht;by_cases hk1:k=1
    ·subst hk1;rw[if_pos rfl]at ht;have hall:∀e∈ev,eH e=0/\e.r=(r:Int):=λ e he=>by
      have:=aoD.1 hm.ev e he;simpa[vw]using this
     have hev:EvB ev:=⟨by have:=hm.l;dsimp only at this;omega,λ j=>by
      rcases aoP j ev.length with hj|hj
      ·have hz:=pV (hall _ (getD_mem (d:=default) hj)).1;have z1:=hz.n1;have z2:=hz.n2;omega
      ·rw[show ev.getD j default=default by simp[List.getD,aoW hj]];decide⟩
     have hG:=aaQ (hg.p.s r hr) hall;have hpu:∀{p' m y},pushP h.c.w r ev h.p=(p',m,y)->qU h.c.w h.p p' r ev m y:=λ e=>Qe h.c.w h.p _ r hpb hr ev hev (λ j hj=>(hall _ (getD_mem hj)).2) hG.b _ _ e;have hpG:=aaR hg.p hr hall;have hpl:=Qm (w:=h.c.w) (p:=h.p) (r:=r) (l:=ev);unfold aaX at ht;simp only[apc]at ht;obtain⟨⟨p',m,y⟩,hp⟩:∃q,pushP h.c.w r ev h.p=q:=⟨_,rfl⟩;have hpu:=hpu hp;rw[hp]at ht hpG hpl;dsimp only at ht hpG hpl;by_cases hy:y≠0
     ·rw[if_pos hy]at ht;cases ht;have:p'=h.p/\m=0:=by
       unfold pushP at hp;split at hp
       ·cases hp;exact absurd rfl hy
       ·cases hp;exact⟨rfl,rfl⟩
      obtain⟨rfl,rfl⟩:=this;exact .inl (by rw[show yT (.inl y)=[]from rfl,aor];exact GL h h hpb hup h.p hpb r u 0 y c ev [] oh hft hrn hpu hy)
     ·rw[if_neg hy]at ht;have hy:y=0:=by simpa using hy
      subst hy;have hml:=hpl rfl;have hs:=hG.b;have hm0:0<=m/\m<=1048576:=by
       have h1:(jZ h.c.w (h.p.sh.getD r default) ev).1.len=(jZ h.c.w (h.p.sh.getD r default) ev).1.base+((jZ h.c.w (h.p.sh.getD r default) ev).1.kept.length:Int):=rfl;have h2:=hs.b0;have h3:=hs.ln;omega
      have hre:=Qq (ag3 (r:=(r:Int)) (m:=m) o_ o_ hm0.1 hm0.2);by_cases hmn:m=h.p.lenOf r
      ·rw[if_pos hmn]at ht;cases ht;exact .inl (Fj h h hpb hup p' hpG.b r u m 0 c ev _ oh hft hrn hpu hmn (hre.nil rfl))
      ·rw[if_neg hmn]at ht;obtain⟨⟨h2,y⟩,hw⟩:∃q,ng (h.fK p') ⟨5,(r:Int),0,aW,ev⟩=q:=⟨_,rfl⟩;rw[hw]at ht;dsimp only at ht;have hmr:=ag5 (r:=(r:Int)) (l:=ev) o_ o_ (by have:=hm.l;dsimp only at this;omega) λ e he=>(hall e he).1;have hwm:writeT (h.fK p') h2 ⟨5,(r:Int),0,aW,ev⟩ y:=MC (h.fK p') h2 _ y hmr (by have:=hg.bs;show h.d.bs.length<=_;omega) hw;by_cases hy:y=0
       ·subst hy;rw[if_pos rfl]at ht;cases ht;exact .inr (MJ h h' hpb hup p' hpG.b r u m 0 c ev _ oh hft hrn hpu hmn hwm (hre.nil rfl))
       ·rw[if_neg hy]at ht;cases ht;exact .inr (by rw[show yT (.inl y)=[]from rfl,aor];exact GN h h' hpb hup p' hpG.b r u m y c ev [] oh hft hrn hpu hmn hwm hy)
    ·rw[if_neg hk1]at ht;by_cases hk3:k=3
     ·subst hk3;rw[if_pos rfl]at ht;cases ht;refine .inl ?_;have hfm:=Dx (w:=h.c.w) (r:=r) (c:=c) (l:=h.p.sh) (i:=0) λ s hs=>by
       obtain⟨i,hi,rfl⟩:=ape hs;have:=hg.p.s i hi;rw[List.getD,aom hi]at this;exact⟨this.k,this.may⟩
      have hw4:=hg.w;have h5:=hg.p.h5;have hfl:(lG r c 0 h.p.sh).length<=20:=by
       have h1:=hfm.1;have h2:h.c.w*(h.p.sh.length:Int)<=4*(h.p.sh.length:Int):=Int.mul_le_mul_of_nonneg_right hw4 o_;omega
      have hre:=Qq (ag4 (r:=(r:Int)) o_ o_ hfl hfm.2);by_cases h2:2<=h.p.sh.length
      ·exact N8 h h hpb hup h.p hpb r u 0 0 c ev _ _ oh hft hrn (YT h.c.w h.p hpb r c hr h2) hre
      ·have h1:h.p.sh.length=1:=by have:=hg.p.h1;omega
       obtain rfl:r=0:=o_
       have anN:Ji h.c.w h.p 0 c:=by
        obtain⟨up,cf,⟨sh,told⟩,d⟩:=h;dsimp only at h1⊢;have ht1:=hg.p.t;dsimp only at ht1;rcases sh with _|⟨s0,_|⟨s1,sh⟩⟩
        ·simp at h1
        ·rcases told with _|⟨t0,_|⟨t1,told⟩⟩
         ·simp at ht1
         ·exact Xb _ s0 t0 c
         ·simp at ht1
        ·simp at h1
       have he:lG 0 c 0 h.p.sh=[]:=by
        rcases hsh:h.p.sh with _|⟨s0,_|⟨s1,sh⟩⟩
        ·rfl
        ·simp[lG]
        ·rw[hsh]at h1;simp at h1
       rw[he]at hre⊢;exact MO h h hpb hup h.p hpb 0 u 0 0 c ev _ oh hft hrn anN (hre.nil rfl)
     ·rw[if_neg hk3]at ht;by_cases hk5:k=5
      ·subst hk5;rw[if_pos rfl]at ht;unfold ajo at ht;simp only[apc]at ht;have hack:Dy h.c.w h.p (qQ h.p r c) r c:=WI h.c.w h.p hpb r c hr;have hpG:=(agQ hg.p r c).b;by_cases hsame:(qQ h.p r c).told.getD r aW=h.p.told.getD r aW
       ·rw[if_pos hsame]at ht;cases ht;exact .inl (by rw[show yT (.inl 0)=[]from rfl,aor];exact GR h h hpb hup _ hpG r u 0 0 c ev [] oh hft hrn (Xa h hpb _ hpG r u c ev oh hack hsame))
       ·rw[if_neg hsame]at ht;obtain⟨⟨h2,y⟩,hw⟩:∃q,ng (h.fK (qQ h.p r c)) ⟨6,(r:Int),0,c,[]⟩=q:=⟨_,rfl⟩;rw[hw]at ht;cases ht;have hok:Pv c=true:=by
         have:=hm.c;simp only[Pv,this.1,this.2.1,this.2.2.1,this.2.2.2.1,this.2.2.2.2,Bool.and_self]
        have hwm:writeT (h.fK (qQ h.p r c)) h2 ⟨6,(r:Int),0,c,[]⟩ y:=MC (h.fK (qQ h.p r c)) h2 _ y (ag6 o_ o_ hok) (by have:=hg.bs;show h.d.bs.length<=_;omega) hw;exact .inr (by rw[show yT (.inl y)=[]from rfl,aor];exact N9 h h2 hpb hup _ hpG r u 0 y c ev [] oh hft hrn (ag1 h h2 hpb _ hpG r u c ev oh y hack hsame (hwm.nil rfl)))
      ·rw[if_neg hk5]at ht;cases ht;exact .inl (by rw[show yT (.inl 23)=[]from rfl,aor];exact Tq h hup k r u c ev hft hrn hk1 hk3 hk5)
structure Ry where
 (c:kR)(p:DI)(up cuts:Bool)(keep:Int)
def Ry.n(y:Ry):Nat:=y.c.n.toNat
def kS(y:Ry)(x:Rc)(p:DI):Ry×Bool:=
 (⟨y.c,if y.cuts=false\/((aB x).length:Int)<=y.keep then p else y.p,y.up&& !y.cuts,false,y.keep⟩, !y.cuts)
def MQ(y:Ry)(z:Rc):Ry×Res:=
 if(iI y.c.w y.n z.r.toNat z.ev y.p).2.2≠0 then(y,.inl (iI y.c.w y.n z.r.toNat z.ev y.p).2.2)
 else if(iI y.c.w y.n z.r.toNat z.ev y.p).2.1>((y.p.ps.getD z.r.toNat default).l.length:Int)then
  (if(kS y ⟨5,z.r,0,aW,z.ev⟩ (iI y.c.w y.n z.r.toNat z.ev y.p).1).2=false then((kS y ⟨5,z.r,0,aW,z.ev⟩ (iI y.c.w y.n z.r.toNat z.ev y.p).1).1,.inl 18)
  else((kS y ⟨5,z.r,0,aW,z.ev⟩ (iI y.c.w y.n z.r.toNat z.ev y.p).1).1,.inr (z.r.toNat,bF ⟨2,z.r,(iI y.c.w y.n z.r.toNat z.ev y.p).2.1,aW,[]⟩)))
 else(y,.inr (z.r.toNat,bF ⟨2,z.r,(iI y.c.w y.n z.r.toNat z.ev y.p).2.1,aW,[]⟩))
def Xd(y:Ry)(z:Rc):Ry×Res:=
 if(y.p.rU.getD z.r.toNat aW).jn z.c≠y.p.rU.getD z.r.toNat aW then
  (if(kS y ⟨6,z.r,0,z.c,[]⟩ (Ad y.n y.p z.r.toNat z.c)).2=false then((kS y ⟨6,z.r,0,z.c,[]⟩ (Ad y.n y.p z.r.toNat z.c)).1,.inl 18)
  else((kS y ⟨6,z.r,0,z.c,[]⟩ (Ad y.n y.p z.r.toNat z.c)).1,.inl 0))
 else(y,.inl 0)
def Tv(y:Ry)(z:Rc):Ry×Res:=
 if y.c.n<=z.r then(y,.inl 23)
 else if z.k=1 then MQ y z
 else if z.k=3 then(y,.inr (z.r.toNat,bF ⟨4,z.r,0,aW,rV z.r.toNat z.c 0 (y.p.ps.take y.n)⟩))
 else if z.k=5 then Xd y z
 else(y,.inl 23)
def GU(y:Ry)(b:List UInt8):Ry×Res:=
 if y.up=false then(y,.inl 18)
 else if(dS b).2≠0 then(y,.inl (dS b).2)
 else Tv y (dS b).1
def Ob(p:Pt):Prop:= ∀s,s<p.sh.length->jO (p.sh.getD s default) (jc p.told s)=p.sh.getD s default
structure kD(k:Nat)(h:Hb)(y:Ry):Prop where
 c:h.c=y.c
 g:HbG h
 may:rC y.c=true
 B:Uf y.n y.p
 G:WZ y.c.w (toP y.n y.p)
 I:Ob (toP y.n y.p)
 up:h.up=y.up
 disk:∃l t,xZ h.d.bs l t/\Chain y.c.w (yR y.n) l/\replay y.c.w y.n l=toP y.n y.p/\(h.up=true->t=[])
 on:h.up=true->h.p=toP y.n y.p/\h.d.down=false/\h.d.cut=y.cuts/\(y.cuts=true->h.d.keep=y.keep)
 bs:h.d.bs.length<=200100*k
theorem Dz{most:Int}:∀{l:List Rc}{p:Pt}{x:Rc},Chain most p l->RcG most (l.foldl (jP most) p) x->Chain most p (l++[x])
 |[],_,_,_,hx=>⟨hx,trivial⟩
 |y::l,p,x,h,hx=>⟨h.1,Dz (l:=l) (p:=jP most p y) h.2 hx⟩
theorem Ih{most:Int}{n:Nat}{l:List Rc}:replay most n (l++[x])=jP most (replay most n l) x:=by
 unfold replay;rw[apO];rfl
theorem Zk{n:Nat}{d:Dk}{l:List Rc}(hr:xZ d.bs l [])(hc:Chain w (yR n) l)(hx:iH x=true)(hg:RcG w (replay w n l) x)(hd:d.down=false):
  ∃l' t',xZ (jd d (aB x)).1.bs l' t'/\Chain w (yR n) l'/\(d.cut=false->t'=[])/\
   replay w n l'=if d.cut=false\/((aB x).length:Int)<=d.keep then jP w (replay w n l) x else replay w n l:=by
 unfold jd;rw[if_neg (by rw[hd];simp)];cases hcut:d.cut with
 |false=>
  rw[if_neg s_];exact⟨l++[x],[],Bq hr hx,Dz hc hg,λ _=>rfl,by rw[Ih,if_pos (.inl rfl)]⟩
 |true=>
  rw[if_pos rfl];have hk:=Fe d.keep (aB x).length;by_cases h:((aB x).length:Int)<=d.keep
  ·have e:o9 d.keep (aB x).length=((aB x).length:Int):=by unfold o9;split<;>(try split)<;>omega
   refine⟨l++[x],[], ?_,Dz hc hg,(λ h=>by cases h),by rw[Ih,if_pos (.inr h)]⟩;show xZ (d.bs++(aB x).take (o9 d.keep (aB x).length).toNat) (l++[x]) [];rw[e,apc,apH];exact Bq hr hx
  ·have e:o9 d.keep (aB x).length<((aB x).length:Int):=by
    have:=uI x;unfold o9;split<;>(try split)<;>omega
   exact⟨l,_,Qd hr hx o_,hc,(λ h=>by cases h),by rw[if_neg (by rintro(h'|h');cases h';exact h h')]⟩
theorem Jj{α:Type}{f:α->α}{d:α}:∀{r:Nat}{l:List α},(r<l.length->f (l.getD r d)=l.getD r d)->eF f r l=l
 |r,[],_=>by cases r<;>rfl
 |0,x::l,h=>by
  have:=h s_;show f x::l=x::l;rw[show f x=x from this]
 |r+1,x::l,h=>by
  show x::eF f r l=x::l;have e:eF f r l=l:=Jj (d:=d) λ hr=>h (by simpa using hr);rw[e]
theorem ajq(h:Ob p)(r:Nat):qP p r=p:=by
 unfold qP;rw[Jj (d:=default) λ hr=>h r hr]
theorem ac7(h0:(jZ w s l).2=0)(hl:(jZ w s l).1.len=s.len):(jZ w s l).1=s:=by
 revert h0 hl;unfold jZ;split
 ·split
  ·intro _ _;rfl
  ·split
   ·intro h;simp at h
   ·rename_i hne _;intro _ hl;have:(s.base+((s.kept++newS s l).length:Int))=s.base+(s.kept.length:Int):=hl;rw[aop]at this;exact absurd (aoz o_) hne
 ·intro h;simp at h
theorem ag7:s.len<=(jZ w s l).1.len:=by
 unfold jZ;split
 ·split
  ·exact apP _
  ·split
   ·exact apP _
   ·show s.base+(s.kept.length:Int)<=s.base+((s.kept++newS s l).length:Int);rw[aop];omega
 ·exact apP _
theorem Qr{told:List aV}:∀{l:List jY}{i:Nat},(∀j,j<l.length->jO (l.getD j default) (jc told (i+j))=l.getD j default)->mZ told i l=l
 |[],_,_=>rfl
 |s::l,i,h=>by
  have h0:jO s (jc told i)=s:=h 0 s_;show jO s (jc told i)::mZ told (i+1) l=s::l;rw[h0,Qr λ j hj=>by
   have:=h (j+1) (by simpa using hj);rw[show i+(j+1)=i+1+j by omega]at this;exact this]
theorem ajr(h:Ob p)(hr:r<p.told.length)(he:(p.told.getD r aW).jn c=p.told.getD r aW):qQ p r c=p:=by
 unfold qQ;have e:eF (λ t=>t.jn c) r p.told=p.told:=Jj (d:=aW) λ _=>he;rw[e,Qr λ j hj=>by rw[apl];exact h j hj]
theorem ac8{b L n b' L':Int}(hb:b'=tu b L n)(ht:b'+L'=b+L):tu b' L' n=b':=by
 unfold tu at hb⊢;rw[ht];by_cases h1:b+L<n
 ·rw[if_pos h1]at hb⊢;by_cases h2:b+L>b
  ·rw[if_pos h2]at hb;rw[if_neg o_]
  ·rw[if_neg h2]at hb;rw[if_neg o_]
 ·rw[if_neg h1]at hb⊢;by_cases h2:n>b
  ·rw[if_pos h2]at hb;rw[if_neg o_]
  ·rw[if_neg h2]at hb;rw[if_neg o_]
theorem Qs(s:jY)(n:Int):jO (jO s n) n=jO s n:=by
 have hb:tu (jO s n).base ((jO s n).kept.length:Int) n=(jO s n).base:=ac8 (b:=s.base) (L:=(s.kept.length:Int)) rfl (MF s n);show(⟨tu (jO s n).base ((jO s n).kept.length:Int) n,(jO s n).kept.drop (tu (jO s n).base ((jO s n).kept.length:Int) n-(jO s n).base).toNat⟩:jY)=jO s n;rw[hb,Int.sub_self];rfl
theorem Zl(h:Ob p):Ob (pushP w r l p).1:=by
 unfold pushP;split
 ·intro s hs;have hl:(qP ⟨eF (λ _=>(jZ w (p.sh.getD r default) l).1) r p.sh,p.told⟩ r).sh.length=p.sh.length:=by
   show(eF _ r (eF _ r p.sh)).length=_;rw[dH,dH]
  rw[hl]at hs;have e:(qP ⟨eF (λ _=>(jZ w (p.sh.getD r default) l).1) r p.sh,p.told⟩ r).sh.getD s default=if s=r then jO (jZ w (p.sh.getD r default) l).1 (jc p.told r)else p.sh.getD s default:=by
   show(eF _ r (eF _ r p.sh)).getD s default=_;rw[qR (by rw[dH];exact hs),qR hs];split<;>rfl
  show jO ((qP _ r).sh.getD s default) (jc p.told s)=_;rw[e];split
  ·rename_i h;rw[h];exact Qs _ _
  ·exact h s hs
 ·exact h
theorem ac9(r:Nat)(c:aV):Ob (qQ p r c):=by
 intro s hs;have hs':s<p.sh.length:=by rw[show(qQ p r c).sh.length=p.sh.length from Du _ _ _]at hs;exact hs
 show jO ((mZ _ 0 p.sh).getD s default) _=(mZ _ 0 p.sh).getD s default;rw[Dw _ hs',apl];exact Qs _ _
theorem ag8{s:MG}(h:RsB s)(hG:ShG w r (jZ w (toS s) l).1):RsB (je w s l).1:=by
 have e:=Ze (most:=w) h l;rw[e]at hG;have h0:=h.c0;have h1:=h.c1;have hc:(je w s l).1.cuts=s.cuts/\s.l.length<=(je w s l).1.l.length:=by
  unfold je;split
  ·split
   ·exact⟨rfl,aoH _⟩
   ·exact⟨rfl,by rw[aop];omega⟩
  ·exact⟨rfl,aoH _⟩
 have hb:=hG.b.ln;have hb':(je w s l).1.cuts+(((je w s l).1.l.drop (je w s l).1.cuts.toNat).length:Int)<=1048576:=hb;rw[aoK]at hb';exact⟨o_,o_,o_⟩
theorem kD.mono{k':Nat}{y:Ry}(hr:kD k h y)(hk:k<=k'):kD k' h y:=
 ⟨hr.c,hr.g,hr.may,hr.B,hr.G,hr.I,hr.up,hr.disk,hr.on,ao7 hr.bs (Nat.mul_le_mul_left _ hk)⟩
theorem yh{n:Nat}(h:Uf n y):(toP n y).sh.length=n/\(toP n y).told.length=n:=by
 have h5:=h.p5;have a5:=h.a5;have n5:=h.n5;exact⟨by show((y.ps.take n).map toS).length=n;rw[aoO,aou];omega,by show(y.rU.take n).length=n;rw[aou];omega⟩
theorem MR{b:List UInt8}{z:Rc}(h:dS b=(z,0)):ku z=true:=by
 have hlen:b.length<=2048:=by
  rcases aoP 2048 b.length with hb|hb
  ·unfold dS at h;rw[if_pos o_]at h;simp at h
  ·exact hb
 rcases Dn b hlen with⟨z',h1,h2,_⟩|h1|h1
 ·rw[h]at h1;cases h1;exact h2
 ·rw[h]at h1;cases h1
 ·rw[h]at h1;cases h1
theorem Qu{y:Ry}(hr:kD k h y)(hk:k<=1000)(hup:h.up=true)(hx:iH x=true){p':DI}(hB:Uf y.n p')(hG:WZ y.c.w (toP y.n p'))(hI:Ob (toP y.n p'))
  (hg:RcG y.c.w (toP y.n y.p) x)(hst:jP y.c.w (toP y.n y.p) x=toP y.n p'):
  kD (k+1) (ng (h.fK (toP y.n p')) x).1 (kS y x p').1/\(ng (h.fK (toP y.n p')) x).2=(if(kS y x p').2=false then 18 else 0):=by
 obtain⟨hp,hdn,hct,hkp⟩:=hr.on hup;obtain⟨l,t,h1,h2,h3,h4⟩:=hr.disk;have ht:=h4 hup;subst ht;have hc:=hr.c;have hbs:=hr.bs;have hmx:=iP x hx;obtain⟨l',t',w1,w2,w3,w4⟩:=Zk (w:=y.c.w) (n:=y.n) (d:=h.d) h1 h2 hx (by rw[h3];exact hg) hdn;rw[h3,hst]at w4;have hyu:=hr.up;have hgn:h.c.n=((toP y.n p').sh.length:Int):=by
  rw[(yh hB).1,hc];obtain⟨n,hn,_,_⟩:=xJ hr.may;show y.c.n=((y.c.n.toNat:Nat):Int);omega
 have hlen:(jd h.d (aB x)).1.bs.length<=200100*(k+1):=by
  have hk2:=Fe h.d.keep (aB x).length;unfold jd;split
  ·show h.d.bs.length<=_;omega
  ·split
   ·show(h.d.bs++(aB x).take _).length<=_;rw[aop,aou];omega
   ·show(h.d.bs++aB x).length<=_;rw[aop];omega
 obtain⟨yc,yp,yup,yct,ykp⟩:=y;obtain⟨an4,hcv,hpv,hd⟩:=h;dsimp only at*;subst hc hup;cases hcut:hd.cut with
 |false=>
  have e:jd hd (aB x)=(⟨hd.bs++aB x,false,false,hd.keep⟩,0):=by unfold jd;rw[if_neg (by rw[hdn];simp),if_neg (by rw[hcut];simp)]
  have hy:yct=false:=by rw[<-hct,hcut]
  subst hy;rw[e]at w1 hlen;refine⟨?_, ?_⟩
  ·unfold ng kS Hb.fK;dsimp only;rw[e,if_pos rfl,if_pos (.inl rfl)];rw[hcut,if_pos (.inl rfl)]at w4;refine⟨rfl,⟨hG,hgn,hr.g.w, ?_⟩,hr.may,hB,hG,hI, ?_,⟨l',t',w1,w2,w4,λ _=>w3 hcut⟩,λ _=>⟨rfl,rfl,rfl,λ h=>by cases h⟩,hlen⟩
   ·show(hd.bs++aB x).length<=500000000;have hlen:(hd.bs++aB x).length<=200100*(k+1):=hlen;omega
   ·show true=(yup&& !false);rw[<-hyu];rfl
  ·unfold ng kS Hb.fK;dsimp only;rw[e,if_pos rfl];rfl
 |true=>
  have e:jd hd (aB x)=(⟨hd.bs++(aB x).take (o9 hd.keep (aB x).length).toNat,true,false,hd.keep⟩,18):=by unfold jd;rw[if_neg (by rw[hdn];simp),if_pos hcut]
  have hy:yct=true:=by rw[<-hct,hcut]
  subst hy;rw[e]at w1 hlen;refine⟨?_, ?_⟩
  ·unfold ng kS Hb.fK;dsimp only;rw[e,if_neg s_];rw[hcut,hkp rfl]at w4;have hgb:(hd.bs++(aB x).take (o9 hd.keep (aB x).length).toNat).length<=500000000:=by
    have hlen:(hd.bs++(aB x).take (o9 hd.keep (aB x).length).toNat).length<=200100*(k+1):=hlen;omega
   by_cases hk3:((aB x).length:Int)<=ykp
   ·rw[if_pos (.inr hk3)]at w4⊢;exact⟨rfl,⟨hG,hgn,hr.g.w,hgb⟩,hr.may,hB,hG,hI,by rw[show(yup&& !true)=false by simp],⟨l',t',w1,w2,w4,(λ h=>by cases h)⟩,(λ h=>by cases h),hlen⟩
   ·have hno:¬ (true=false\/((aB x).length:Int)<=ykp):=by rintro(h|h);cases h;exact hk3 h
    rw[if_neg hno]at w4⊢;exact⟨rfl,⟨hG,hgn,hr.g.w,hgb⟩,hr.may,hr.B,hr.G,hr.I,by rw[show(yup&& !true)=false by simp],⟨l',t',w1,w2,w4,(λ h=>by cases h)⟩,(λ h=>by cases h),hlen⟩
  ·unfold ng kS Hb.fK;dsimp only;rw[e,if_neg s_];rfl
theorem ag9{y:Ry}(h:rC y.c=true):y.c.n=(y.n:Int)/\1<=y.n/\y.n<=5:=by
 obtain⟨n,hn,h1,h5⟩:=xJ h;have:y.n=n:=by show y.c.n.toNat=n;omega
 rw[this];exact⟨hn,h1,h5⟩
theorem ag'{n:Nat}(hr:r<n)(h:Uf n y):(toP n y).lenOf r=((y.ps.getD r default).l.length:Int):=by
 rw[ac5 (by rw[(yh h).1];exact hr),Ac hr h,Fh (h.s _ (getD_mem (by have:=h.p5;have:=h.n5;omega)))]
theorem ac'(hI:Ob p)(hr:r<p.sh.length)(h0:(jZ w (p.sh.getD r default) l).2=0)(hl:(jZ w (p.sh.getD r default) l).1.len=(p.sh.getD r default).len):(pushP w r l p).1=p:=by
 unfold pushP;rw[if_pos h0,ac7 h0 hl];have e:eF (λ _=>p.sh.getD r default) r p.sh=p.sh:=Jj (d:=default) λ _=>rfl;show qP ⟨eF (λ _=>p.sh.getD r default) r p.sh,p.told⟩ r=p;rw[e];exact ajq hI r
theorem aha{y:Ry}(hr:kD k h y)(hk:k<=1000)(hup:h.up=true)(hrn:r<y.n)(hm:alu ⟨1,r,u,c,ev⟩):
  ∃h' y' res,aaX h ⟨1,r,u,c,ev⟩=(h',res)/\MQ y ⟨1,r,u,c,ev⟩=(y',res)/\kD (k+1) h' y':=by
 obtain⟨hp,hdn,hct,hkp⟩:=hr.on hup;obtain⟨hn,hn1,hn5⟩:=ag9 hr.may;have hall:∀e∈ev,eH e=0/\e.r=(r:Int):=λ e he=>by
  have:=aoD.1 hm.ev e he;simpa[vw]using this
 have hev:EvB ev:=⟨by have:=hm.l;dsimp only at this;omega,λ j=>by
  rcases aoP j ev.length with hj|hj
  ·have hz:=pV (hall _ (getD_mem (d:=default) hj)).1;have z1:=hz.n1;have z2:=hz.n2;omega
  ·rw[show ev.getD j default=default by simp[List.getD,aoW hj]];decide⟩
 have hl:=yh hr.B;have hrl:r<(toP y.n y.p).sh.length:=by rw[hl.1];exact hrn
 have hG:=aaQ (hr.G.s r hrl) hall;have hpG:=aaR hr.G hrl hall;have hpI:=Zl (w:=y.c.w) hr.I (r:=r) (l:=ev);have hs:RsB (y.p.ps.getD r default):=hr.B.s _ (getD_mem (by have:=hr.B.p5;omega));have hB:RsB (je y.c.w (y.p.ps.getD r default) ev).1:=ag8 hs (r:=r) (by rw[Ac hrn hr.B]at hG;exact hG);have hto:=ajk (most:=y.c.w) (l:=ev) hrn hr.B hB;have hlen:=ag' hrn hr.B;have hgt:=Ac hrn hr.B;have hput:=Ze (most:=y.c.w) hs ev;have hmr:=ag5 (r:=(r:Int)) (l:=ev) o_ o_ (by have:=hm.l;dsimp only at this;omega) λ e he=>(hall e he).1;have hrg:RcG y.c.w (toP y.n y.p) ⟨5,(r:Int),0,aW,ev⟩:=⟨.inl rfl,by show 0<=(r:Int);omega,by show(r:Int).toNat<_;rw[apc];exact hrl,hev,λ _ j hj=>(hall _ (getD_mem hj)).2,λ _=>by show iW (jZ _ ((toP y.n y.p).sh.getD (r:Int).toNat default) ev).1;rw[apc];exact hG.b⟩;have hst:jP y.c.w (toP y.n y.p) ⟨5,(r:Int),0,aW,ev⟩=(pushP y.c.w r ev (toP y.n y.p)).1:=by
  unfold jP;rw[if_pos rfl];rfl
 have hpl:=Qm (w:=y.c.w) (p:=toP y.n y.p) (r:=r) (l:=ev);have hle:=ag7 (w:=y.c.w) (s:=(toP y.n y.p).sh.getD r default) (l:=ev);have hsm:=ac' (w:=y.c.w) hr.I hrl (l:=ev);have hx2:(pushP y.c.w r ev (toP y.n y.p)).2.2=(jZ y.c.w ((toP y.n y.p).sh.getD r default) ev).2:=by
  unfold pushP;split
  ·rename_i h;exact h.symm
  ·rfl
 have hBq:Uf y.n (iI y.c.w y.n r ev y.p).1:=by
  unfold iI;split
  ·exact aaT (y:=⟨eF (λ _=>(je y.c.w (y.p.ps.getD r default) ev).1) r y.p.ps,y.p.rU⟩) ⟨by show(eF _ _ _).length=5;rw[dH];exact hr.B.p5,hr.B.a5,λ x hx=>by
    rcases wL hx with hx|⟨_,_,rfl⟩
    ·exact hr.B.s x hx
    ·exact hB,hr.B.n1,hr.B.n5⟩ r
  ·exact hr.B
 have hgl:(toS (y.p.ps.getD r default)).len=((y.p.ps.getD r default).l.length:Int):=Fh hs;rw[hgt]at hle hpl hsm hx2;unfold aaX MQ;simp only[apc];rw[hr.c,hp,hlen];obtain⟨⟨q1,q2,q3⟩,hq⟩:∃q,iI y.c.w y.n r ev y.p=q:=⟨_,rfl⟩;rw[hq]at hto hBq⊢;rw[hto]at hpG hpI hst hpl hsm hx2⊢;dsimp only at*;by_cases hx:q3≠0
 ·rw[if_pos hx,if_pos hx];exact⟨_,_,_,rfl,rfl,hr.mono o_⟩
 ·rw[if_neg hx,if_neg hx];have hx:q3=0:=by simpa using hx
  have hq2:=hpl hx;rw[hx]at hx2;by_cases hmn:q2=((y.p.ps.getD r default).l.length:Int)
  ·have hng:¬q2>((y.p.ps.getD r default).l.length:Int):=o_
   rw[if_pos hmn,if_neg hng];have e:=hsm hx2.symm (by rw[<-hq2,hmn,hgl]);rw[e,<-hp];exact⟨_,_,_,rfl,rfl,hr.mono o_⟩
  ·have hgt2:q2>((y.p.ps.getD r default).l.length:Int):=o_
   rw[if_neg hmn,if_pos hgt2];obtain⟨hw1,hw2⟩:=Qu hr hk hup hmr hBq hpG hpI hrg hst;rw[hw2];by_cases hc:(kS y ⟨5,(r:Int),0,aW,ev⟩ q1).2=false
   ·rw[if_pos hc,if_neg d_,if_pos hc];exact⟨_,_,_,rfl,rfl,hw1⟩
   ·rw[if_neg hc,if_pos rfl,if_neg hc];exact⟨_,_,_,rfl,rfl,hw1⟩
theorem ajs{y:Ry}(hr:kD k h y)(hk:k<=1000)(hup:h.up=true)(hrn:r<y.n)(hm:alu ⟨5,r,u,c,ev⟩):
  ∃h' y' res,ajo h ⟨5,r,u,c,ev⟩=(h',res)/\Xd y ⟨5,r,u,c,ev⟩=(y',res)/\kD (k+1) h' y':=by
 obtain⟨hp,hdn,hct,hkp⟩:=hr.on hup;obtain⟨hn,hn1,hn5⟩:=ag9 hr.may;have hl:=yh hr.B;have hrl:r<(toP y.n y.p).sh.length:=by rw[hl.1];exact hrn
 have hrt:r<(toP y.n y.p).told.length:=by rw[hl.2];exact hrn
 have hto:=alD (r:=r) (c:=c) hrn hr.B;have htold:(toP y.n y.p).told.getD r aW=y.p.rU.getD r aW:=by
  show(y.p.rU.take y.n).getD r aW=_;rw[aoG,aqs hrn,aoG]
 have hat:(qQ (toP y.n y.p) r c).told.getD r aW=(y.p.rU.getD r aW).jn c:=by
  show(eF _ r (toP y.n y.p).told).getD r aW=_;rw[qR hrt,if_pos rfl,htold]
 have hok:Pv c=true:=by
  have:=hm.c;simp only[Pv,this.1,this.2.1,this.2.2.1,this.2.2.2.1,this.2.2.2.2,Bool.and_self]
 have hmr:=ag6 (r:=(r:Int)) (c:=c) o_ o_ hok;have hrg:RcG y.c.w (toP y.n y.p) ⟨6,(r:Int),0,c,[]⟩:=⟨.inr rfl,by show 0<=(r:Int);omega,by show(r:Int).toNat<_;rw[apc];exact hrl,⟨by show([]:List Ev).length<=1000000;decide,λ j=>by
  rw[show([]:List Ev).getD j default=default by cases j<;>rfl];decide⟩,λ h=>absurd h (by show¬ (6:Int)=5;decide),λ h=>absurd h (by show¬ (6:Int)=5;decide)⟩
 have hst:jP y.c.w (toP y.n y.p) ⟨6,(r:Int),0,c,[]⟩=qQ (toP y.n y.p) r c:=by
  unfold jP;rw[if_neg (by show¬ (6:Int)=5;decide),if_pos rfl];rfl
 unfold ajo Xd;simp only[apc];rw[hp,hat,htold];by_cases hs:(y.p.rU.getD r aW).jn c=y.p.rU.getD r aW
 ·rw[if_pos hs,if_neg (λ h=>h hs)];have e:=ajr hr.I (r:=r) (c:=c) hrt (by rw[htold];exact hs);rw[e,<-hp];exact⟨_,_,_,rfl,rfl,hr.mono o_⟩
 ·rw[if_neg hs,if_pos hs];rw[<-hto.1]at hst⊢;have hI:Ob (toP y.n (Ad y.n y.p r c)):=by rw[hto.1];exact ac9 r c
  have hG:WZ y.c.w (toP y.n (Ad y.n y.p r c)):=by rw[hto.1];exact agQ hr.G r c
  obtain⟨hw1,hw2⟩:=Qu hr hk hup hmr hto.2 hG hI hrg hst;rw[hw2];by_cases hc:(kS y ⟨6,(r:Int),0,c,[]⟩ (Ad y.n y.p r c)).2=false
  ·rw[if_pos hc,if_pos hc];exact⟨_,_,_,rfl,rfl,hw1⟩
  ·rw[if_neg hc,if_neg hc];exact⟨_,_,_,rfl,rfl,hw1⟩
theorem Xe{y:Ry}(hr:kD k h y)(hk:k<=1000)(b:List UInt8):∃h' y' res,Tt h b=(h',res)/\GU y b=(y',res)/\kD (k+1) h' y':=by
 unfold Tt GU;rw[<-hr.up];by_cases hup:h.up=false
 ·rw[if_pos hup,if_pos hup];exact⟨_,_,_,rfl,rfl,hr.mono o_⟩
 ·rw[if_neg hup,if_neg hup];have hup:h.up=true:=by simpa using hup
  obtain⟨⟨z,x⟩,htk⟩:∃q,dS b=q:=⟨_,rfl⟩;rw[htk];dsimp only;by_cases hx:x≠0
  ·rw[if_pos hx,if_pos hx];exact⟨_,_,_,rfl,rfl,hr.mono o_⟩
  ·rw[if_neg hx,if_neg hx];have hx:x=0:=by simpa using hx
   subst hx;have hm:=qC (MR htk);obtain⟨hn,hn1,hn5⟩:=ag9 hr.may;unfold ag2 Tv;rw[hr.c];by_cases hrn:y.c.n<=z.r
   ·rw[if_pos hrn,if_pos hrn];exact⟨_,_,_,rfl,rfl,hr.mono o_⟩
   ·rw[if_neg hrn,if_neg hrn];obtain⟨kd,zr,u,c,ev⟩:=z;have hr0:=hm.r;dsimp only at hr0 hrn⊢;obtain⟨r,rfl⟩:∃r:Nat,zr=(r:Int):=⟨zr.toNat,o_⟩;by_cases hk1:kd=1
    ·subst hk1;rw[if_pos rfl,if_pos rfl];exact aha hr hk hup o_ hm
    ·rw[if_neg hk1,if_neg hk1];by_cases hk3:kd=3
     ·subst hk3;rw[if_pos rfl,if_pos rfl];have hp:=(hr.on hup).1;have e:lG (r:Int).toNat c 0 h.p.sh=rV (r:Int).toNat c 0 (y.p.ps.take y.n):=by rw[hp];exact MI _ _ _ _
      rw[e];exact⟨_,_,_,rfl,rfl,hr.mono o_⟩
     ·rw[if_neg hk3,if_neg hk3];by_cases hk5:kd=5
      ·subst hk5;rw[if_pos rfl,if_pos rfl];exact ajs hr hk hup o_ hm
      ·rw[if_neg hk5,if_neg hk5];exact⟨_,_,_,rfl,rfl,hr.mono o_⟩
def rp0:DI:=⟨List.replicate 5 ⟨0,[]⟩,List.replicate 5 aW⟩
def ry0(c:kR):Ry:=⟨c,rp0,true,false,0⟩
def rstart(y:Ry):Ry×Int:=if y.up then(y,19)else(⟨y.c,y.p,true,false,y.keep⟩,0)
theorem alH{c:kR}(h:rC c=true):1<=c.w/\c.w<=4:=by
 simp only[rC,aon]at h;exact uw.1 h.1.1.1.1.2
theorem amU{c:kR}{n:Nat}(hc:rC c=true)(hn:c.n=(n:Int))(h1:1<=n)(h5:n<=5):HbG (hb0 c n):=by
 have hw:=alH hc;refine⟨amR (by show 0<=c.w;omega) h1 h5, ?_,hw.2,by show([]:List UInt8).length<=_;decide⟩;show c.n=((List.replicate n (⟨0,[]⟩:jY)).length:Int);rw[ap6,hn]
def Zm(y:Ry):Ry:=⟨y.c,y.p,false,false,y.keep⟩
def alI(y:Ry)(k:Int):Ry:=⟨y.c,y.p,y.up,true,k⟩
def alJ(h:Hb):Hb:=⟨false,h.c,h.p,⟨h.d.bs,true,false,h.d.keep⟩⟩
def anO(h:Hb)(k:Int):Hb:=⟨h.up,h.c,h.p,⟨h.d.bs,h.d.down,true,k⟩⟩
theorem ajt{n:Nat}(h5:n<=5):toP n rp0=yR n:=by
 have hm:min n 5=n:=o_
 unfold toP rp0 yR;rw[List.take_replicate,List.take_replicate,List.map_replicate,hm];rfl
theorem aju{n:Nat}:Ob (yR n):=λ s hs=>by
 have hs':s<n:=by
  have:s<(List.replicate n (⟨0,[]⟩:jY)).length:=hs;rwa [ap6]at this
 have he:(yR n).sh.getD s default=⟨0,[]⟩:=by
  show(List.replicate n (⟨0,[]⟩:jY)).getD s default=_;rw[aoG,ap',if_pos hs'];rfl
 rw[he];unfold jO;have hz:tu 0 ([]:List Ev).length (jc (yR n).told s)=0:=by
  unfold tu;simp only[aoZ];split<;>(try split)<;>omega
 rw[hz];rfl
theorem kD.new{c:kR}{n:Nat}(hc:rC c=true)(hn:c.n=(n:Int))(h1:1<=n)(h5:n<=5):kD 0 (hb0 c n) (ry0 c):=by
 have hg:=amU hc hn h1 h5;have hyn:(ry0 c).n=n:=by
  show c.n.toNat=n;omega
 have hto:toP (ry0 c).n (ry0 c).p=yR n:=by rw[hyn];exact ajt h5
 refine⟨rfl,hg,hc, ?_, ?_, ?_,rfl,⟨[],[],⟨s_,rfl,wK⟩,trivial, ?_,λ _=>rfl⟩,λ _=>⟨hto.symm,rfl,rfl,λ h=>by cases h⟩,by show 0<=_;omega⟩
 ·rw[hyn];exact⟨rfl,rfl,λ s hs=>by obtain rfl:=aqn hs;exact⟨by show(0:Int)<=0;omega,by show(0:Int)<=0;omega,by show 0<=_;omega⟩,h1,h5⟩
 ·rw[hto];exact hg.p
 ·rw[hto];exact aju
 ·rw[hto,hyn];rfl
theorem Qv{y:Ry}(hr:kD k h y):kD k (alJ h) (Zm y):=by
 obtain⟨l,t,h1,h2,h3,_⟩:=hr.disk;exact⟨hr.c,⟨hr.g.p,hr.g.n,hr.g.w,hr.g.bs⟩,hr.may,hr.B,hr.G,hr.I,rfl,⟨l,t,h1,h2,h3,λ h=>by cases h⟩,(λ h=>by cases h),hr.bs⟩
theorem aaY{y:Ry}(hr:kD k h y)(q:Int):kD k (anO h q) (alI y q):=
 ⟨hr.c,⟨hr.g.p,hr.g.n,hr.g.w,hr.g.bs⟩,hr.may,hr.B,hr.G,hr.I,hr.up,hr.disk,λ hu=>⟨(hr.on hu).1,(hr.on hu).2.1,rfl,λ _=>rfl⟩,hr.bs⟩
theorem Qw{y:Ry}(hr:kD k h y)(hup:h.up=false){l:List Rc}{t:List UInt8}(h1:xZ h.d.bs l t)(h3:replay y.c.w y.n l=toP y.n y.p)(h2:Chain y.c.w (yR y.n) l):
  kD k ⟨true,h.c,replay h.c.w y.n l,⟨jq l,false,false,h.d.keep⟩⟩ (rstart y).1/\(rstart y).2=0:=by
 have hyu:y.up=false:=by rw[<-hr.up,hup]
 have hc:=hr.c;have hl:(jq l).length<=h.d.bs.length:=by rw[h1.eq,aop];omega
 have hk:=hr.bs;have hgb:=hr.g.bs;have hs:rstart y=(⟨y.c,y.p,true,false,y.keep⟩,0):=by unfold rstart;rw[if_neg (by rw[hyu];simp)]
 rw[hs];refine⟨⟨hc,⟨?_, ?_,hr.g.w,by show(jq l).length<=_;omega⟩,hr.may,hr.B,hr.G,hr.I,rfl,⟨l,[],⟨h1.may,by rw[aor],wK⟩,h2,h3,λ _=>rfl⟩,λ _=>⟨?_,rfl,rfl,λ h=>by cases h⟩,by show(jq l).length<=_;omega⟩,rfl⟩
 ·show WZ h.c.w (replay h.c.w y.n l);rw[hc,h3];exact hr.G
 ·show h.c.n=((replay h.c.w y.n l).sh.length:Int);rw[hc,h3,(yh hr.B).1];obtain⟨n,hn,_,_⟩:=xJ hr.may;show y.c.n=((y.c.n.toNat:Nat):Int);omega
 ·show replay h.c.w y.n l=toP y.n y.p;rw[hc,h3]
theorem Qx{C:List OB->List OB->Prop}(os os':List OB)(h1:1<=os.length)(h5:os.length<=5)(he:os'.length=os.length)(c1:∀a a',C [a] [a'])(c2:∀a b a' b',C [a,b] [a',b'])(c3:∀a b c a' b' c',C [a,b,c] [a',b',c'])(c4:∀a b c d a' b' c' d',C [a,b,c,d] [a',b',c',d'])(c5:∀a b c d e a' b' c' d' e',C [a,b,c,d,e] [a',b',c',d',e']):C os os':=by
 rcases os' with _|⟨a',_|⟨b',_|⟨c',_|⟨d',_|⟨e',_|⟨f',os'⟩⟩⟩⟩⟩⟩;all_goals rcases os with _|⟨a,_|⟨b,_|⟨c,_|⟨d,_|⟨e,_|⟨f,os⟩⟩⟩⟩⟩⟩
 all_goals first
  |exact c1 ..
  |exact c2 ..
  |exact c3 ..
  |exact c4 ..
  |exact c5 ..
  |(exfalso;simp only[aoE,aoZ]at h1 h5 he;omega)
def Xf(q:Nat):FuncId:=if q=5 then 41 else 40
theorem ahb(os:List OB)(hb ln:OB)(h1:1<=os.length)(h5:os.length<=5)(hq:q=4\/q=5\/q=6\/q=7)(r:Int)(ed:Ed)(i bit mask keep:Int)(ht:aj prog (Xf q) [(0,.obs ln)] [.box 0 0,.v (.int .i64 i)] (.bI [.agg [.v (.int .i64 0),.v (.slice none 0 0)],.v (.int .i64 24)]) [(0,.obs ln)]):
  aj prog 11 [(0,.obs (wO os hb ln))] [.box 0 0,Stp.av ⟨(q:Int),r,ed,i,bit,mask,keep⟩] (.v (.int .i64 24)) [(0,.obs (wO os hb ln))]:=by
 refine qV (ho:=[]) ⟨_,_,func11,rfl,rfl⟩ ?_ rfl;refine jW (C:=λ os=>aj prog 11 (wH os hb ln ()) [.box 0 0,Stp.av ⟨(q:Int),r,ed,i,bit,mask,keep⟩] (.v (.int .i64 24)) (wH os hb ln ()++[])) os h1 h5 ?_ ?_ ?_ ?_ ?_;all_goals
  intros;rcases hq with rfl|rfl|rfl|rfl
 all_goals
  dsimp only[wH,wP,wN,List.append_nil,Stp.av,Stp.cs];unfold Xf at ht;first|rw[if_neg d_]at ht|rw[if_pos d_]at ht
  refine K1.M 0x1041040180200406bb func11 40 ?_;repeat' ((conv=>whnf);first|refine K1.u ?_|refine K1.C 1 [(0,_)] (ht) rfl ?_|refine K1.I 0x880001010fb func23 ?_|fail)
  all_goals(conv=>whnf)
  refine⟨[],rfl,rfl, ?_,rfl,rfl,au⟩;repeat' (first|exact trivial|refine⟨ay rfl, ?_⟩)
theorem alK(os:List OB)(hb ln Qp:OB)(h1:1<=os.length)(h5:os.length<=5)(r:Int)(ed:Ed)(i bit mask keep:Int){n:Nat}(ht:aj prog 40 [(0,.obs ln)] [.box 0 0,.v (.int .i64 i)] (.bI [.agg [.v (.int .i64 to),.sl 1 n true F],.v (.int .i64 0)]) [(0,.obs Qp)]):
  aj prog 11 [(0,.obs (wO os hb ln))] [.box 0 0,Stp.av ⟨6,r,ed,i,bit,mask,keep⟩] (.v (.int .i64 0)) [(0,.obs (wO os hb Qp))]:=by
 refine qV (ho:=[]) ⟨_,_,func11,rfl,rfl⟩ ?_ rfl;refine jW (C:=λ os=>aj prog 11 (wH os hb ln ()) [.box 0 0,Stp.av ⟨6,r,ed,i,bit,mask,keep⟩] (.v (.int .i64 0)) (wH os hb Qp ()++[])) os h1 h5 ?_ ?_ ?_ ?_ ?_;all_goals
  intros;dsimp only[wH,wP,wN,List.append_nil,Stp.av,Stp.cs];refine K1.M 0x1041040180200406bb func11 40 ?_;repeat' ((conv=>whnf);first|refine K1.u ?_|refine K1.C 1 [(0,_)] (ht) rfl ?_|refine K1.I 0x880001010fb func23 ?_|fail)
  all_goals(conv=>whnf)
  refine⟨[],rfl,rfl, ?_,rfl,rfl,au⟩;repeat' (first|exact trivial|refine⟨ay rfl, ?_⟩)
theorem ahc(os os':List OB)(hb hb' ln Qp ln2:OB)(h1:1<=os.length)(h5:os.length<=5)(he:os'.length=os.length)(hq:q=4\/q=5\/q=7)(r:Int)(ed:Ed)(i bit mask keep:Int)(b b':List UInt8){x:Int}
  (ht:aj prog (Xf q) [(0,.obs ln)] [.box 0 0,.v (.int .i64 i)] (.bI [.agg [.v (.int .i64 to),.sl 1 b.length true (aO b)],.v (.int .i64 0)]) [(0,.obs Qp)])
  (hbu:q=7->aH prog 42 [.sl 1 b.length true (aO b),.v (.int .i64 bit),.v (.int .u32 mask)] (.sl 1 b'.length true (aO b')) [])(hbb:q≠7->b'=b)
  (ha:aj prog 43 (wH os hb Qp ()) [.box 0 0,.agg [.v (.int .i64 to),.sl 1 b'.length true (aO b')]] (.v (.int .i64 x)) (wH os' hb' ln2 ()++[])):
  aj prog 11 [(0,.obs (wO os hb ln))] [.box 0 0,Stp.av ⟨(q:Int),r,ed,i,bit,mask,keep⟩] (.v (.int .i64 x)) [(0,.obs (wO os' hb' ln2))]:=by
 refine qV (ho:=[]) ⟨_,_,func11,rfl,rfl⟩ ?_ rfl;revert ha;refine Qx (C:=λ os os'=>aj prog 43 (wH os hb Qp ()) [.box 0 0,.agg [.v (.int .i64 to),.sl 1 b'.length true (aO b')]] (.v (.int .i64 x)) (wH os' hb' ln2 ()++[])->aj prog 11 (wH os hb ln ()) [.box 0 0,Stp.av ⟨(q:Int),r,ed,i,bit,mask,keep⟩] (.v (.int .i64 x)) (wH os' hb' ln2 ()++[])) os os' h1 h5 he ?_ ?_ ?_ ?_ ?_;all_goals
  intros;rename_i ha;rcases hq with rfl|rfl|rfl
 all_goals
  dsimp only[wH,wP,wN,List.append_nil,Stp.av,Stp.cs]at ha⊢;unfold Xf at ht;first|rw[if_neg d_]at ht|rw[if_pos d_]at ht
  first
   |(obtain rfl:=hbb (of_decide_eq_true rfl)
     clear hbu hbb)
   |(have hbu:=hbu rfl
     clear hbb)
  refine K1.M 0x1041040180200406bb func11 40 ?_;repeat' ((conv=>whnf);first|refine K1.u ?_|refine K1.C 1 [(0,_)] (ht) rfl ?_|refine K1.P1 hbu ?_|refine K1.C 99 [(0,_),(1,_),(2,_),(3,_),(10,_)] (ha) rfl ?_|refine K1.C 99 [(0,_),(1,_),(2,_),(3,_),(10,_),(11,_)] (ha) rfl ?_|refine K1.C 99 [(0,_),(1,_),(2,_),(3,_),(10,_),(11,_),(12,_)] (ha) rfl ?_|refine K1.C 99 [(0,_),(1,_),(2,_),(3,_),(10,_),(11,_),(12,_),(13,_)] (ha) rfl ?_|refine K1.C 99 [(0,_),(1,_),(2,_),(3,_),(10,_),(11,_),(12,_),(13,_),(14,_)] (ha) rfl ?_|refine K1.I 0x880001010fb func23 ?_|fail)
  all_goals(conv=>whnf)
  refine⟨[],rfl,rfl, ?_,rfl,rfl,au⟩;repeat' (first|exact trivial|refine⟨ay rfl, ?_⟩)
end Go.Proofs.YtifjccndenojlaaGreat
