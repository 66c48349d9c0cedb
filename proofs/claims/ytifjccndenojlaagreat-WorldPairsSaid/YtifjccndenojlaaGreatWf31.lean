/-
  Contracts of the walk:HbN,HbU,WcA,WcB,WcF,WcD,WcG.
-/
import Derived.Test.YtifjccndenojlaaGreatWf30
import Derived.Test.YtifjccndenojlaaGreatWf28
import Derived.Test.YtifjccndenojlaaGreatWf29
import Derived.Test.YtifjccndenojlaaGreatWf16
import Derived.Test.YtifjccndenojlaaGreatWf12
import Derived.Test.YtifjccndenojlaaGreatWf11
import Derived.Test.YtifjccndenojlaaGreatWf22
set_option maxHeartbeats 16000000
set_option maxRecDepth 100000
set_option linter.unusedVariables false
set_option linter.unusedSimpArgs false
namespace Go.Proofs.YtifjccndenojlaaGreat
open Go.RowKit
open Go.Proofs.Tryz
variable{r:AV}{f:FuncId}{ho:List (Nat×AO)}{aZ:List AV}{n:Nat}{F:Nat->List AV}{w:World}
theorem ac0(d:Nat)(x:Rc)(hx:ku x=true):aH prog 150 [x.av] (.bI [.v (.int .i64 x.r),.own d,.v (.int .i64 0)]) [(d,gI (bF x))]:=by
 have hp:=λ d=>Bl d x hx;obtain⟨k,r,u,⟨c0,c1,c2,c3,c4⟩,ev⟩:=x;generalize bF _=w at hp⊢;dsimp only[Rc.av,Rc.cs,gI]at hp⊢;refine K1.E 0x207f func150 ?_;repeat' ((conv=>whnf);first|refine K1.u ?_|refine K1.F1 (hp _) ?_|fail)
 all_goals(conv=>whnf)
 exact aU.uV d rfl rfl (dK.refl _) (au)
def IK(k r u:Int)(c:aV)(ev:List Ev):AV:= .agg [.v (.int .i64 k),.v (.int .i64 r),.v (.int .i64 u),.v (.int .i64 c.c0),.v (.int .i64 c.c1),.v (.int .i64 c.c2),.v (.int .i64 c.c3),.v (.int .i64 c.c4),.sl 12 ev.length true (dI ev)]
theorem lt5{r:Nat}{C:Nat->Prop}(h:r<5)(h0:C 0)(h1:C 1)(h2:C 2)(h3:C 3)(h4:C 4):C r:=by
 rcases(show r=0\/r=1\/r=2\/r=3\/r=4 by omega)with rfl|rfl|rfl|rfl|rfl<;>assumption
def Pt.lenOf(p:Pt)(r:Nat):Int:=(p.sh.map jY.len).getD r 0
def Hb.fK(h:Hb)(p:Pt):Hb:=⟨h.up,h.c,p,h.d⟩
def qU(most:Int)(p p':Pt)(r:Nat)(ev:List Ev)(u x:Int):Prop:=
 aj prog 65 [(0,.obs (Bd most p))] [.box 0 0,.v (.int .i64 (r:Int)),.sl 12 ev.length true (dI ev)] (.bI [.v (.int .i64 u),.v (.int .i64 x)]) [(0,.obs (Bd most p'))]
def writeT(h h':Hb)(x:Rc)(y:Int):Prop:=aj prog 149 (jE h ()) [.box 0 0,x.av] (.v (.int .i64 y)) (pI 11 h')
def qp(x:Rc)(w:List UInt8):Prop:= ∀d:Nat,aH prog 150 [x.av] (.bI [.v (.int .i64 x.r),.own d,.v (.int .i64 0)]) [(d,gI w)]
theorem aj.args{P:Program}{f:FuncId}{hin:List (Nat×AO)}{aZ bvs:List AV}{r:AV}{hout:List (Nat×AO)}(hs:aj P f hin bvs r hout)(hc:Ch aZ bvs):aj P f hin aZ r hout:=
 ⟨hs.1,λ w keep ρ args a1 a2 a3 a4 a5=>hs.2 w keep ρ args a1 a2 a3 a4 (hc.all a5)⟩
def Rc.nilA(x:Rc):AV:= .agg [.v (.int .i64 x.k),.v (.int .i64 x.r),.v (.int .i64 x.u),.v (.int .i64 x.c.c0),.v (.int .i64 x.c.c1),.v (.int .i64 x.c.c2),.v (.int .i64 x.c.c3),.v (.int .i64 x.c.c4),.v (.slice none 0 0)]
def nR(x:Rc)(w:List UInt8):Prop:= ∀d:Nat,aH prog 150 [x.nilA] (.bI [.v (.int .i64 x.r),.own d,.v (.int .i64 0)]) [(d,gI w)]
def qw(h h':Hb)(x:Rc)(y:Int):Prop:=aj prog 149 (jE h ()) [.box 0 0,x.nilA] (.v (.int .i64 y)) (pI 11 h')
theorem qp.nil{x:Rc}{w:List UInt8}(h:qp x w)(he:x.ev=[]):nR x w:=by
 intro d;have:=h d;obtain⟨k,r,u,c,ev⟩:=x;dsimp only at he;subst he;exact this.args (.of (λ X u hu=>C1.P7 hu) .nil)
theorem writeT.nil{h h':Hb}{x:Rc}{y:Int}(hw:writeT h h' x y)(he:x.ev=[]):qw h h' x y:=by
 obtain⟨k,r,u,c,ev⟩:=x;dsimp only at he;subst he;exact aj.args (bvs:=[.box 0 0,Rc.av ⟨k,r,u,c,[]⟩]) hw (.same (.of (λ X u hu=>C1.P7 hu) .nil))
def FK(x:Int):AV:= .bI [.v (.int .i64 (-1)),.v (.slice none 0 0),.v (.int .i64 x)]
def yS(r:Nat):AV:= .bI [.v (.int .i64 (r:Int)),.own 1,.v (.int .i64 0)]
def lM(n:Nat)(F:Nat->List AV)(k:Int)(r:Nat)(u:Int)(c:aV)(ev:List Ev)(x:Int):Prop:=aH prog 110 [.sl 1 n true F] (.bI [IK k r u c ev,.v (.int .i64 x)]) []
def Dy(most:Int)(p p':Pt)(r:Nat)(c:aV):Prop:=aj prog 66 [(0,.obs (Bd most p))] [.box 0 0,.v (.int .i64 (r:Int)),.agg (yQ c)] (.v (.int .i64 0)) [(0,.obs (Bd most p'))]
def vC(most:Int)(p:Pt)(r:Nat)(c:aV)(l:List Ev):Prop:=aj prog 151 [(0,.obs (Bd most p))] [.box 0 0,.v (.int .i64 (r:Int)),.agg (yQ c)] (.bI [.own 1,.v (.int .i64 0)]) [(0,.obs (Bd most p)),(1,bH l)]
def ajl{r:Nat}(_:r<5)(up:Bool)(cf:kR)(p:Pt)(d:Dk)(u:Int)(c:aV)(ev:List Ev):AS:=
 ⟨[(0,.box 0 0),(3,.box 40 0),(5,.box 80 0)],[(80,.box 41 (yQ (p.told.getD r aW))),(40,.box 134 [.v (.int .i64 5),.v (.int .i64 (r:Int)),.v (.int .i64 u),.v (.int .i64 c.c0),.v (.int .i64 c.c1),.v (.int .i64 c.c2),.v (.int .i64 c.c3),.v (.int .i64 c.c4),.sl 12 ev.length true (dI ev)]),
  (0,hbB up cf (.box 8 0) (.box 9 0)),(8,pG (.own 10) d),(10,gI d.bs),(9,.obs (Bd cf.w p))],[[(0,.box 0 0),(1,.box 8 0),(2,.own 10),(3,.own 9)]],81⟩
theorem GL(h _h':Hb)(hp:qX h.p)(hup:h.up=true)(p':Pt)(hp':qX p')(r:Nat)(u _m y:Int)(c:aV)(ev:List Ev)(_w:List UInt8)(oh:r<5)(hft:lM n F 1 r u c ev 0)(hrn:(r:Int)<h.c.n)(hpush:qU h.c.w h.p h.p r ev 0 y)(hx:y≠0):
  aj prog 76 (jE h ()) [.box 0 0,.sl 1 n true F] (FK y) (jE h ()):=by
 have hs:=eP h.c.w h.p hp;have hs':=eP h.c.w p' hp';obtain⟨up,cf,p,d⟩:=h;dsimp only at hs hs' hup hft hrn hpush hx;subst hup;refine lt5 (C:=λ r=>r<5->lM n F 1 r u c ev 0->(r:Int)<cf.n->qU cf.w p p r ev 0 y->y≠0->aj prog 76 (jE ⟨true,cf,p,d⟩ ()) [.box 0 0,.sl 1 n true F] (FK y) (jE ⟨true,cf,p,d⟩ ())) oh ?_ ?_ ?_ ?_ ?_ oh hft hrn hpush hx;all_goals
  clear hft hrn hpush hx;intro hr hft hrn hpush hx;dsimp only[lM,Dy,qU,vC,nR,qp,writeT,qw,jE,pI,hbB,pG,gI,bH,IK,FK,yS,Hb.fK,Rc.av,Rc.cs,Rc.nilA,aW,Pt.lenOf,yQ,List.cons_append,List.nil_append]at hs hs' hft hrn hpush⊢;refine K1.M 0x20203402041f3 func76 40 ?_;repeat' ((conv=>whnf);first|refine K1.u ?_|refine K1.P1 hft ?_|refine K1.C 1 [(0,_)] (hs) rfl ?_|refine K1.C 1 [(0,_)] (hpush) rfl ?_|refine nV.mk d_ ?_|refine K1.I 0x10022000007fb func113 ?_|refine K1.o (id:=1) (nN [0,1,2,3,6,7] ((4,some [3,1])::nN [5,8,9] [])) ?_|refine K1.o (id:=2) (nN [0,1,2,3,4,5,6,7] ((8,some [7,5,3,1])::nN [9,10,11,12,13] [])) ?_|fail)
  all_goals(conv=>whnf)
  exact⟨[],rfl,rfl,⟨ay rfl,ay rfl,ay rfl,ay rfl,trivial⟩,rfl,rfl,au⟩
theorem Fj(h _h':Hb)(hp:qX h.p)(hup:h.up=true)(p':Pt)(hp':qX p')(r:Nat)(u m _y:Int)(c:aV)(ev:List Ev)(w:List UInt8)(oh:r<5)(hft:lM n F 1 r u c ev 0)(hrn:(r:Int)<h.c.n)(hpush:qU h.c.w h.p p' r ev m 0)(hn:m=h.p.lenOf r)(hre:nR ⟨2,r,m,aW,[]⟩ w):
  aj prog 76 (jE h ()) [.box 0 0,.sl 1 n true F] (yS r) (jE (h.fK p') ()++[(1,gI w)]):=by
 have hs:=eP h.c.w h.p hp;have hs':=eP h.c.w p' hp';obtain⟨up,cf,p,d⟩:=h;dsimp only at hs hs' hup hft hrn hpush hn hre;subst hup;refine lt5 (C:=λ r=>r<5->lM n F 1 r u c ev 0->(r:Int)<cf.n->qU cf.w p p' r ev m 0->m=p.lenOf r->nR ⟨2,r,m,aW,[]⟩ w->aj prog 76 (jE ⟨true,cf,p,d⟩ ()) [.box 0 0,.sl 1 n true F] (yS r) (jE (Hb.fK ⟨true,cf,p,d⟩ p') ()++[(1,gI w)])) oh ?_ ?_ ?_ ?_ ?_ oh hft hrn hpush hn hre;all_goals
  clear hft hrn hpush hn hre;intro hr hft hrn hpush hn hre;dsimp only[lM,Dy,qU,vC,nR,qp,writeT,qw,jE,pI,hbB,pG,gI,bH,IK,FK,yS,Hb.fK,Rc.av,Rc.cs,Rc.nilA,aW,Pt.lenOf,yQ,List.cons_append,List.nil_append]at hs hs' hft hrn hpush hn hre⊢;refine K1.M 0x20203402041f3 func76 40 ?_;repeat' ((conv=>whnf);first|refine K1.u ?_|refine K1.P1 hft ?_|refine K1.C 1 [(0,_)] (hs) rfl ?_|refine K1.C 1 [(0,_)] (hpush) rfl ?_|refine K1.F1 (hre _) ?_|refine nV.mk d_ ?_|refine K1.I 0x10022000007fb func113 ?_|refine K1.o (id:=1) (nN [0,1,2,3,6,7] ((4,some [3,1])::nN [5,8,9] [])) ?_|refine K1.o (id:=2) (nN [0,1,2,3,4,5,6,7] ((8,some [7,5,3,1])::nN [9,10,11,12,13] [])) ?_|fail)
  all_goals(conv=>whnf)
  exact⟨[(44,1)],rfl,rfl,⟨ay rfl,ay rfl,ay rfl,ay rfl,ay rfl,trivial⟩,rfl,rfl,au⟩
theorem MJ(h h':Hb)(hp:qX h.p)(hup:h.up=true)(p':Pt)(hp':qX p')(r:Nat)(u m _y:Int)(c:aV)(ev:List Ev)(w:List UInt8)(oh:r<5)(hft:lM n F 1 r u c ev 0)(hrn:(r:Int)<h.c.n)(hpush:qU h.c.w h.p p' r ev m 0)(hn:m≠h.p.lenOf r)(hw:writeT (h.fK p') h' ⟨5,r,0,aW,ev⟩ 0)(hre:nR ⟨2,r,m,aW,[]⟩ w):
  aj prog 76 (jE h ()) [.box 0 0,.sl 1 n true F] (yS r) (pI 11 h'++[(1,gI w)]):=by
 have hs:=eP h.c.w h.p hp;have hs':=eP h.c.w p' hp';obtain⟨up,cf,p,d⟩:=h;dsimp only at hs hs' hup hft hrn hpush hn hw hre;subst hup;refine lt5 (C:=λ r=>r<5->lM n F 1 r u c ev 0->(r:Int)<cf.n->qU cf.w p p' r ev m 0->m≠p.lenOf r->writeT ((Hb.fK ⟨true,cf,p,d⟩) p') h' ⟨5,r,0,aW,ev⟩ 0->nR ⟨2,r,m,aW,[]⟩ w->aj prog 76 (jE ⟨true,cf,p,d⟩ ()) [.box 0 0,.sl 1 n true F] (yS r) (pI 11 h'++[(1,gI w)])) oh ?_ ?_ ?_ ?_ ?_ oh hft hrn hpush hn hw hre;all_goals
  clear hft hrn hpush hn hw hre;intro hr hft hrn hpush hn hw hre;dsimp only[lM,Dy,qU,vC,nR,qp,writeT,qw,jE,pI,hbB,pG,gI,bH,IK,FK,yS,Hb.fK,Rc.av,Rc.cs,Rc.nilA,aW,Pt.lenOf,yQ,List.cons_append,List.nil_append]at hs hs' hft hrn hpush hn hw hre⊢;refine K1.M 0x20203402041f3 func76 40 ?_;repeat' ((conv=>whnf);first|refine K1.u ?_|refine K1.P1 hft ?_|refine K1.C 1 [(0,_)] (hs) rfl ?_|refine K1.C 1 [(0,_)] (hpush) rfl ?_|refine K1.C 11 [(0,_),(8,_),(10,_),(9,_)] (hw) rfl ?_|refine K1.F1 (hre _) ?_|refine nV.mk d_ ?_|refine K1.I 0x10022000007fb func113 ?_|refine K1.o (id:=1) (nN [0,1,2,3,6,7] ((4,some [3,1])::nN [5,8,9] [])) ?_|refine K1.o (id:=2) (nN [0,1,2,3,4,5,6,7] ((8,some [7,5,3,1])::nN [9,10,11,12,13] [])) ?_|refine K1.o (id:=6) (nN [0,1,2,3,4,5,6,7] [(8,some [6,4,1]),(9,none)]) ?_|fail)
  all_goals(conv=>whnf)
  exact⟨[(44,11),(45,1)],rfl,rfl,⟨ay rfl,ay rfl,ay rfl,ay rfl,ay rfl,trivial⟩,rfl,rfl,au⟩
theorem GN(h h':Hb)(hp:qX h.p)(hup:h.up=true)(p':Pt)(hp':qX p')(r:Nat)(u m y:Int)(c:aV)(ev:List Ev)(_w:List UInt8)(oh:r<5)(hft:lM n F 1 r u c ev 0)(hrn:(r:Int)<h.c.n)(hpush:qU h.c.w h.p p' r ev m 0)(hn:m≠h.p.lenOf r)(hw:writeT (h.fK p') h' ⟨5,r,0,aW,ev⟩ y)(hx:y≠0):
  aj prog 76 (jE h ()) [.box 0 0,.sl 1 n true F] (FK y) (pI 11 h'):=by
 have hs:=eP h.c.w h.p hp;have hs':=eP h.c.w p' hp';obtain⟨up,cf,p,d⟩:=h;dsimp only at hs hs' hup hft hrn hpush hn hw hx;subst hup;refine lt5 (C:=λ r=>r<5->lM n F 1 r u c ev 0->(r:Int)<cf.n->qU cf.w p p' r ev m 0->m≠p.lenOf r->writeT ((Hb.fK ⟨true,cf,p,d⟩) p') h' ⟨5,r,0,aW,ev⟩ y->y≠0->aj prog 76 (jE ⟨true,cf,p,d⟩ ()) [.box 0 0,.sl 1 n true F] (FK y) (pI 11 h')) oh ?_ ?_ ?_ ?_ ?_ oh hft hrn hpush hn hw hx;all_goals
  clear hft hrn hpush hn hw hx;intro hr hft hrn hpush hn hw hx;dsimp only[lM,Dy,qU,vC,nR,qp,writeT,qw,jE,pI,hbB,pG,gI,bH,IK,FK,yS,Hb.fK,Rc.av,Rc.cs,Rc.nilA,aW,Pt.lenOf,yQ,List.cons_append,List.nil_append]at hs hs' hft hrn hpush hn hw⊢;refine K1.M 0x20203402041f3 func76 40 ?_;repeat' ((conv=>whnf);first|refine K1.u ?_|refine K1.P1 hft ?_|refine K1.C 1 [(0,_)] (hs) rfl ?_|refine K1.C 1 [(0,_)] (hpush) rfl ?_|refine K1.C 11 [(0,_),(8,_),(10,_),(9,_)] (hw) rfl ?_|refine nV.mk d_ ?_|refine K1.I 0x10022000007fb func113 ?_|refine K1.o (id:=1) (nN [0,1,2,3,6,7] ((4,some [3,1])::nN [5,8,9] [])) ?_|refine K1.o (id:=2) (nN [0,1,2,3,4,5,6,7] ((8,some [7,5,3,1])::nN [9,10,11,12,13] [])) ?_|refine K1.o (id:=6) (nN [0,1,2,3,4,5,6,7] [(8,some [6,4,1]),(9,none)]) ?_|fail)
  all_goals(conv=>whnf)
  exact⟨[(44,11)],rfl,rfl,⟨ay rfl,ay rfl,ay rfl,ay rfl,trivial⟩,rfl,rfl,au⟩
theorem N8(h _h':Hb)(hp:qX h.p)(hup:h.up=true)(p':Pt)(hp':qX p')(r:Nat)(u _m _y:Int)(c:aV)(ev:List Ev)(w:List UInt8)(l:List Ev)(oh:r<5)(hft:lM n F 3 r u c ev 0)(hrn:(r:Int)<h.c.n)(hf:vC h.c.w h.p r c l)(hre:qp ⟨4,r,0,aW,l⟩ w):
  aj prog 76 (jE h ()) [.box 0 0,.sl 1 n true F] (yS r) (jE h ()++[(1,gI w)]):=by
 have hs:=eP h.c.w h.p hp;have hs':=eP h.c.w p' hp';obtain⟨up,cf,p,d⟩:=h;dsimp only at hs hs' hup hft hrn hf hre;subst hup;refine lt5 (C:=λ r=>r<5->lM n F 3 r u c ev 0->(r:Int)<cf.n->vC cf.w p r c l->qp ⟨4,r,0,aW,l⟩ w->aj prog 76 (jE ⟨true,cf,p,d⟩ ()) [.box 0 0,.sl 1 n true F] (yS r) (jE ⟨true,cf,p,d⟩ ()++[(1,gI w)])) oh ?_ ?_ ?_ ?_ ?_ oh hft hrn hf hre;all_goals
  clear hft hrn hf hre;intro hr hft hrn hf hre;dsimp only[lM,Dy,qU,vC,nR,qp,writeT,qw,jE,pI,hbB,pG,gI,bH,IK,FK,yS,Hb.fK,Rc.av,Rc.cs,Rc.nilA,aW,Pt.lenOf,yQ,List.cons_append,List.nil_append]at hs hs' hft hrn hf hre⊢;refine K1.M 0x20203402041f3 func76 40 ?_;repeat' ((conv=>whnf);first|refine K1.u ?_|refine K1.P1 hft ?_|refine K1.C 1 [(0,_)] (hf) rfl ?_|refine K1.F1 (hre _) ?_|refine K1.I 0x4001fb func114 ?_|refine K1.o (id:=1) (nN [0,1,2,3,4,5,6,7] ((8,some [7,5,3,1])::nN [9,10,11,12,13] [])) ?_|fail)
  all_goals(conv=>whnf)
  exact⟨[(43,1)],rfl,rfl,⟨ay rfl,ay rfl,ay rfl,ay rfl,ay rfl,trivial⟩,rfl,rfl,au⟩
theorem Zg(h:Hb):aj prog 253 [(0,.obs (Dt h))] [.box 0 0] (.bI []) [(0,.obs (Dt ⟨false,h.c,h.p,⟨h.d.bs,true,false,h.d.keep⟩⟩))]:=by
 refine GK (ho:=[]) ⟨_,_,func253,rfl,rfl⟩ ?_ rfl;rw[aor];obtain⟨up,c,p,d⟩:=h;dsimp only[jE,hbB,pG,gI];refine K1.M 0x1 func253 40 ?_;repeat' ((conv=>whnf);first|refine K1.I 0x85 func100 ?_|refine K1.I 0x1 func129 ?_|fail)
 all_goals(conv=>whnf)
 exact⟨[],rfl,rfl,⟨ay rfl,ay rfl,ay rfl,ay rfl,trivial⟩,rfl,rfl,au⟩
def flC(f:Int×List UInt8):List AV:=[.v (.int .i64 f.1),.sl 1 f.2.length true (aO f.2)]
abbrev flF(l:List (Int×List UInt8)):Nat->List AV:=og flC l
def lnB(m:AV):AO:= .box 103 [m]
def yI(l:List (Int×List UInt8)):AO:= .row 112 2 l.length false (flF l)
def lnH(l:List (Int×List UInt8))(_:Unit):List (Nat×AO):=[(0,lnB (.own 1)),(1,yI l)]
def Jh(l:List (Int×List UInt8)):OB:=OB.pack (lnH l)
theorem W9(l:List (Int×List UInt8)):Closes (lnH l ()) 0 (Jh l):=Closes.pack (lnH l) () rfl λ _ hok=>vY (hok _ aol)
theorem alE:Closes [(0,lnB (.v (.slice none 0 0)))] 0 (Jh []):=by
 unfold lnB;refine Closes.aiw (A:=[]) (id:=0) (B:=[]) (k:=0) (d:=1) (e:=112) (s:=2) (sc:=false) (f:=flF []) ?_ rfl d_ rfl;exact W9 []
theorem MK(i:Nat){l l':List (Int×List UInt8)}(hE:Enters prog f)(hm:aj prog f (lnH l ()) aZ r ([(0,lnB (.own i)),(i,yI l')]++ho))
  (hk:yO [(0,0),(1,i)] (lnH l' ())=true)(hb:(aZ.all (pO (λ _=>false) 0)&&fV (λ i=>bP i ho) 0 r&&fU ho ho&& !(bP 0 ho))=true):aj prog f [(0,.obs (Jh l))] aZ r ((0,.obs (Jh l'))::ho):=
 aj.opn hE (Opens.pack (lnH l)) (λ _=>⟨_,(W9 l').ren [(0,0),(1,i)] rfl hk,rfl,rfl,hm⟩) hb
theorem agW:aj prog 21 [] [] (.box 0 0) [(0,.obs (Jh []))]:=by
 refine aj.cls (hs':=_) (ho:=[]) alE ?_ rfl;dsimp only[lnB,List.append_nil];refine K1.M 0x1 func21 40 ?_
 all_goals(conv=>whnf)
 exact⟨[(40,0)],rfl,rfl,⟨ay rfl,trivial⟩,rfl,rfl,au⟩
theorem Qo(l:List (Int×List UInt8))(hl:l.length<=1000000)(to:Int)(b:List UInt8)(hb:b.length<=1000000000)(hF:bG F b)(hn:n=b.length):
  aj prog 54 [(0,.obs (Jh l))] [.box 0 0,.v (.int .i64 to),.sl 1 n true F] (.bI []) [(0,.obs (Jh (l++[(to,b)])))]:=by
 refine MK 2 (ho:=[]) ⟨_,_,func54,rfl,rfl⟩ ?_ rfl rfl;have hc:=(sK 0 b hF hn hb).thaw;subst hn;dsimp only[lnH,lnB,yI,List.append_nil];refine K1.M 0x7 func54 40 ?_;repeat' ((conv=>whnf);first|refine K1.u ?_|refine K1.P1 hc ?_|refine K1.o (id:=0) (nN [0,1,2,3,4,5,6] ((7,some [])::(8,none)::(9,some [])::(10,some [4,2])::nN [11,12] [(13,some [4,2,11])])) ?_|fail)
 all_goals(conv=>whnf)
 exact⟨[(41,2)],rfl,rfl,⟨ay rfl,⟨_,rfl,dK.row s_ λ m hm=>dP (c:=flC) (l:=l) rfl rfl m hm⟩,trivial⟩,rfl,rfl,au⟩
theorem agX(l:List (Int×List UInt8)):aj prog 34 [(0,.obs (Jh l))] [.box 0 0] (.v (.int .i64 (l.length:Int))) [(0,.obs (Jh l))]:=by
 refine MK 1 (ho:=[]) ⟨_,_,func34,rfl,rfl⟩ ?_ rfl rfl;dsimp only[lnH,lnB,yI,List.append_nil];refine K1.M 0x5 func34 40 ?_
 all_goals(conv=>whnf)
 exact⟨[],rfl,rfl,⟨ay rfl,ay rfl,trivial⟩,rfl,rfl,au⟩
def wP:List OB->List AV
 |[_]=>[.box 10 0]
 |[_,_]=>[.box 10 0,.box 11 0]
 |[_,_,_]=>[.box 10 0,.box 11 0,.box 12 0]
 |[_,_,_,_]=>[.box 10 0,.box 11 0,.box 12 0,.box 13 0]
 |[_,_,_,_,_]=>[.box 10 0,.box 11 0,.box 12 0,.box 13 0,.box 14 0]
 |_=>[]
def wN:List OB->List (Nat×AO)
 |[a]=>[(10,.obs a)]
 |[a,b]=>[(10,.obs a),(11,.obs b)]
 |[a,b,c]=>[(10,.obs a),(11,.obs b),(12,.obs c)]
 |[a,b,c,d]=>[(10,.obs a),(11,.obs b),(12,.obs c),(13,.obs d)]
 |[a,b,c,d,e]=>[(10,.obs a),(11,.obs b),(12,.obs c),(13,.obs d),(14,.obs e)]
 |_=>[]
def wH(os:List OB)(hb ln:OB)(_:Unit):List (Nat×AO):=(0,.box 77 [.own 1,.box 2 0,.box 3 0])::(1,.rn 78 (wP os))::(2,.obs hb)::(3,.obs ln)::wN os
def wO(os:List OB)(hb ln:OB):OB:=OB.pack (wH os hb ln)
theorem aaW(os:List OB)(hb ln:OB):Closes (wH os hb ln ()) 0 (wO os hb ln):=Closes.pack (wH os hb ln) () rfl λ _ hok=>vY (hok _ aol)
theorem qV{os os':List OB}{hb hb' ln Qp:OB}(hE:Enters prog f)(hm:aj prog f (wH os hb ln ()) aZ r (wH os' hb' Qp ()++ho))
  (hx:(aZ.all (pO (λ _=>false) 0)&&fV (λ i=>bP i ho) 0 r&&fU ho ho&& !(bP 0 ho))=true):aj prog f [(0,.obs (wO os hb ln))] aZ r ((0,.obs (wO os' hb' Qp))::ho):=
 aj.opn hE (Opens.pack (wH os hb ln)) (λ _=>⟨_,aaW os' hb' Qp,rfl,rfl,hm⟩) hx
theorem jW{C:List OB->Prop}(os:List OB)(h1:1<=os.length)(h5:os.length<=5)(c1:∀a,C [a])(c2:∀a b,C [a,b])(c3:∀a b c,C [a,b,c])(c4:∀a b c d,C [a,b,c,d])(c5:∀a b c d e,C [a,b,c,d,e]):C os:=by
 rcases os with _|⟨a,_|⟨b,_|⟨c,_|⟨d,_|⟨e,_|⟨f,os⟩⟩⟩⟩⟩⟩
 ·simp at h1
 ·exact c1 a
 ·exact c2 a b
 ·exact c3 a b c
 ·exact c4 a b c d
 ·exact c5 a b c d e
 ·simp at h5
theorem vF{C:List OB->Nat->Prop}(os:List OB)(r:Nat)(h5:os.length<=5)(hr:r<os.length)(c10:∀a,C [a] 0)(c20:∀a b,C [a,b] 0)(c21:∀a b,C [a,b] 1)(c30:∀a b c,C [a,b,c] 0)(c31:∀a b c,C [a,b,c] 1)(c32:∀a b c,C [a,b,c] 2)
  (c40:∀a b c d,C [a,b,c,d] 0)(c41:∀a b c d,C [a,b,c,d] 1)(c42:∀a b c d,C [a,b,c,d] 2)(c43:∀a b c d,C [a,b,c,d] 3)
  (c50:∀a b c d e,C [a,b,c,d,e] 0)(c51:∀a b c d e,C [a,b,c,d,e] 1)(c52:∀a b c d e,C [a,b,c,d,e] 2)(c53:∀a b c d e,C [a,b,c,d,e] 3)(c54:∀a b c d e,C [a,b,c,d,e] 4):C os r:=by
 refine jW (C:=λ os=>r<os.length->C os r) os o_ h5 (λ a h=>?_) (λ a b h=>?_) (λ a b c h=>?_) (λ a b c d h=>?_) (λ a b c d e h=>?_) hr
 ·obtain rfl:r=0:=Nat.lt_one_iff.1 h;exact c10 a
 ·rcases(show r=0\/r=1 by simp at h;omega)with rfl|rfl
  ·exact c20 a b
  ·exact c21 a b
 ·rcases(show r=0\/r=1\/r=2 by simp at h;omega)with rfl|rfl|rfl
  ·exact c30 a b c
  ·exact c31 a b c
  ·exact c32 a b c
 ·rcases(show r=0\/r=1\/r=2\/r=3 by simp at h;omega)with rfl|rfl|rfl|rfl
  ·exact c40 a b c d
  ·exact c41 a b c d
  ·exact c42 a b c d
  ·exact c43 a b c d
 ·rcases(show r=0\/r=1\/r=2\/r=3\/r=4 by simp at h;omega)with rfl|rfl|rfl|rfl|rfl
  ·exact c50 a b c d e
  ·exact c51 a b c d e
  ·exact c52 a b c d e
  ·exact c53 a b c d e
  ·exact c54 a b c d e
theorem ajm(c:kR)(n:Nat)(hn:c.n=(n:Int))(h1:1<=n)(h5:n<=5)(o:Nat->OB)(hb ln:OB)(hh:aj prog 20 [] [c.av] (.bI [.box 0 0,.v (.int .i64 0)]) [(0,.obs hb)])(hl:aj prog 21 [] [] (.box 0 0) [(0,.obs ln)])
  (hr:∀r:Nat,r<n->aj prog 22 [] [c.av,.v (.int .i64 (r:Int))] (.bI [.box 0 0,.v (.int .i64 0)]) [(0,.obs (o r))]):
  aj prog 9 [] [c.av] (.bI [.box 0 0,.v (.int .i64 0)]) [(0,.obs (wO ((List.range n).map o) hb ln))]:=by
 refine aj.cls (hs':=wH ((List.range n).map o) hb ln ()) (ho:=[]) (aaW _ hb ln) ?_ rfl;obtain⟨cn,w,q,h,l,p⟩:=c;dsimp only[kR.av,kR.cs]at hn hh hr⊢;rcases(show n=1\/n=2\/n=3\/n=4\/n=5 by omega)with rfl|rfl|rfl|rfl|rfl
 ·have r0:=hr 0 d_;clear hr;subst hn;dsimp only[wH,List.range,List.range.loop,List.map,wP,wN,List.append_nil];refine K1.M 0x4038103ff func9 40 ?_;repeat' ((conv=>whnf);first|refine K1.u ?_|refine K1.C 0 [] (hh) rfl ?_|refine K1.C 0 [] (hl) rfl ?_|refine K1.C 0 [] (r0) rfl ?_|refine aI.rounds 2 ?_|fail)
  all_goals(conv=>whnf)
  refine⟨[(43,0),(46,1),(41,2),(42,3),(44,10)],rfl,rfl, ?_,rfl,rfl,au⟩;repeat' (first|exact trivial|refine⟨ay rfl, ?_⟩)
 ·have r0:=hr 0 d_;have r1:=hr 1 d_;clear hr;subst hn;dsimp only[wH,List.range,List.range.loop,List.map,wP,wN,List.append_nil];refine K1.M 0x4038103ff func9 40 ?_;repeat' ((conv=>whnf);first|refine K1.u ?_|refine K1.C 0 [] (hh) rfl ?_|refine K1.C 0 [] (hl) rfl ?_|refine K1.C 0 [] (r0) rfl ?_|refine K1.C 0 [] (r1) rfl ?_|refine aI.rounds 3 ?_|fail)
  all_goals(conv=>whnf)
  refine⟨[(43,0),(49,1),(41,2),(42,3),(44,10),(47,11)],rfl,rfl, ?_,rfl,rfl,au⟩;repeat' (first|exact trivial|refine⟨ay rfl, ?_⟩)
 ·have r0:=hr 0 d_;have r1:=hr 1 d_;have r2:=hr 2 d_;clear hr;subst hn;dsimp only[wH,List.range,List.range.loop,List.map,wP,wN,List.append_nil];refine K1.M 0x4038103ff func9 40 ?_;repeat' ((conv=>whnf);first|refine K1.u ?_|refine K1.C 0 [] (hh) rfl ?_|refine K1.C 0 [] (hl) rfl ?_|refine K1.C 0 [] (r0) rfl ?_|refine K1.C 0 [] (r1) rfl ?_|refine K1.C 0 [] (r2) rfl ?_|refine aI.rounds 4 ?_|fail)
  all_goals(conv=>whnf)
  refine⟨[(43,0),(52,1),(41,2),(42,3),(44,10),(47,11),(50,12)],rfl,rfl, ?_,rfl,rfl,au⟩;repeat' (first|exact trivial|refine⟨ay rfl, ?_⟩)
 ·have r0:=hr 0 d_;have r1:=hr 1 d_;have r2:=hr 2 d_;have r3:=hr 3 d_;clear hr;subst hn;dsimp only[wH,List.range,List.range.loop,List.map,wP,wN,List.append_nil];refine K1.M 0x4038103ff func9 40 ?_;repeat' ((conv=>whnf);first|refine K1.u ?_|refine K1.C 0 [] (hh) rfl ?_|refine K1.C 0 [] (hl) rfl ?_|refine K1.C 0 [] (r0) rfl ?_|refine K1.C 0 [] (r1) rfl ?_|refine K1.C 0 [] (r2) rfl ?_|refine K1.C 0 [] (r3) rfl ?_|refine aI.rounds 5 ?_|fail)
  all_goals(conv=>whnf)
  refine⟨[(43,0),(55,1),(41,2),(42,3),(44,10),(47,11),(50,12),(53,13)],rfl,rfl, ?_,rfl,rfl,au⟩;repeat' (first|exact trivial|refine⟨ay rfl, ?_⟩)
 ·have r0:=hr 0 d_;have r1:=hr 1 d_;have r2:=hr 2 d_;have r3:=hr 3 d_;have r4:=hr 4 d_;clear hr;subst hn;dsimp only[wH,List.range,List.range.loop,List.map,wP,wN,List.append_nil];refine K1.M 0x4038103ff func9 40 ?_;repeat' ((conv=>whnf);first|refine K1.u ?_|refine K1.C 0 [] (hh) rfl ?_|refine K1.C 0 [] (hl) rfl ?_|refine K1.C 0 [] (r0) rfl ?_|refine K1.C 0 [] (r1) rfl ?_|refine K1.C 0 [] (r2) rfl ?_|refine K1.C 0 [] (r3) rfl ?_|refine K1.C 0 [] (r4) rfl ?_|refine aI.rounds 6 ?_|fail)
  all_goals(conv=>whnf)
  refine⟨[(43,0),(58,1),(41,2),(42,3),(44,10),(47,11),(50,12),(53,13),(56,14)],rfl,rfl, ?_,rfl,rfl,au⟩;repeat' (first|exact trivial|refine⟨ay rfl, ?_⟩)
theorem agY{z:Value}{s:Nat}(hz:z.cells.size=s)(h1:∀u∈z.cells.toList,u.oneCell'=true):∀m,(List.replicate m z.cells.toList).flatten.length=m*s/\ ∀u∈(List.replicate m z.cells.toList).flatten,u.oneCell'=true
 |0=>⟨s_,λ u h=>by simp at h⟩
 |m+1=>by
  obtain⟨a,b⟩:=agY hz h1 m;rw[aqb,List.flatten_cons];refine⟨by rw[aop,a,aoY,hz,apN];omega,λ u hu=>?_⟩;rcases aov.1 hu with h|h
  ·exact h1 u h
  ·exact b u h
theorem Zh{t e ty:TypeId}{z:Value}{s:Nat}(hu:prog.underlying t=some (.slice e))(hz:(zeroValue e).run prog w= .ok z w)(hzs:z.cells.size=s)(h1:∀u∈z.cells.toList,u.oneCell'=true){b o m c:Nat}(hm:0<m)
  (hc:∀j,j<m*s->(w.cell? ⟨b,o+j,none⟩).isSome=true)(hf:∀j,j<m*s->w.frozen? ⟨b,o+j,none⟩=false):
  (Builtin.clear_ #[t] ty #[.slice (some ⟨b,o,none⟩) m c]).run prog w= .ok (.tuple #[]) (w.setCells b o (List.replicate m z.cells.toList).flatten):=by
 obtain⟨z1,z2⟩:=agY hzs h1 m;have hst:=run_storeCells_cells (P:=prog) b o (List.replicate m z.cells.toList).flatten 0 w (by rw[z1];simpa using hc) (by rw[z1];simpa using hf) z2;simp only[aqL]at hst;exact sQ hu hz hzs hm hst
def fl0:Value:= .agg #[.int .i64 0,.slice none 0 0]
theorem ajn(w:World):(zeroValue 112).run prog w= .ok fl0 w:=aas (by kernel_rfl) w
theorem Zi(g cap n i:Nat)(cur:Array Value)(w:World)(hg:w.heap[g]? =some (.cells cur 112 (0,0)))(hn:n<=cap)(hcm:cap<=maxLen)(hcs:cur.size=cap*2)(hi:i<n)(h1:∀u∈cur.toList.take (n*2),u.oneCell'=true):
  Calls prog 73 #[.slice (some ⟨g,0,none⟩) n cap,.int .i64 (i:Int),.int .i64 ((i:Int)+1)] w λ e w'=>e= .returned (.slice (some ⟨g,0,none⟩) (n-1) cap)/\dL (λ b=>b=g) w.heap.size w w'/\
   ∃cur',w'.heap[g]? =some (.cells cur' 112 (0,0))/\cur'.size=cur.size/\cur'.toList.take ((n-1)*2)=cur.toList.take (i*2)++(cur.toList.drop ((i+1)*2)).take ((n-(i+1))*2):=by
 obtain⟨i0,hi0,hz0,hs0⟩:∃i0:TypeInfo,prog.info? 112=some i0/\i0.zero=some fl0/\i0.size=2:=⟨_,rfl,rfl,rfl⟩;have hcap:cap<=9223372036854775807:=by unfold maxLen at hcm;omega
 have hR:w.drew.rowIs g 112 (cap*2) (λ j=>cur[j]?.getD default):=⟨cur,hg,hcs,λ i hi=>by show cur[i]? =some (cur[i]?.getD default);rw[aqk o_];rfl⟩;obtain⟨news,hnews⟩:∃news,news=(cur.toList.drop ((i+1)*2)).take ((n-(i+1))*2):=⟨_,rfl⟩;have hlen:news.length=(n-(i+1))*2:=by rw[hnews,aou,aoK,aoY,hcs];omega
 have hget:∀t u,news[t]? =some u->cur[(i+1)*2+t]? =some u:=by
  intro t u h;rw[hnews,apg]at h;split at h
  ·rw[apC,apF]at h;exact h
  ·cases h
 obtain⟨A,hA,hsrc⟩:∃A:Addr,(if cap=i+1 then some (⟨g,0,none⟩:Addr)else some ⟨g,(i+1)*2,none⟩)=some A/\Hid (∀t u,news[t]? =some u->w.drew.cell? (A.add t)=some u):=by
  by_cases h:cap=i+1
  ·refine⟨⟨g,0,none⟩,by simp[h],λ t u hu=>?_⟩;have h0:news.length=0:=by rw[hlen];omega
   rw[apr.1 h0]at hu;simp at hu
  ·refine⟨⟨g,(i+1)*2,none⟩,by simp[h],λ t u hu=>?_⟩;have hc:=hget t u hu;have ht:(i+1)*2+t<cap*2:=by rw[<-hcs];exact(ao5.1 hc).1
   rw[add_lit,(mg hR ht).1,hc];rfl
 have s1:Hid (news.length=(n-(i+1))*2):=hlen;have s2:Hid (∀u∈news,u.oneCell'=true):=by
  intro u hu;rw[hnews]at hu;obtain⟨t,ht,rfl⟩:=ape hu;have h2:=hget t _ (by rw[hnews];exact aom ht);rw[aou,aoK,aoY,hcs]at ht;refine h1 _ (List.mem_iff_getElem?.2 ⟨(i+1)*2+t, ?_⟩);rw[apg,if_pos o_,apF];exact h2
 have s3:Hid (∀t,t<news.length->(w.drew.cell? ⟨g,0+i*2+t,none⟩).isSome=true/\w.drew.frozen? ⟨g,0+i*2+t,none⟩=false):=by
  intro t ht;rw[hlen]at ht;have:=mg hR (j:=0+i*2+t) o_;exact⟨by rw[this.1];rfl,this.2⟩
 obtain⟨W1,hW1⟩:∃W1,W1=w.drew.setCells g (0+i*2) news:=⟨_,rfl⟩;have hR1:=Go.rowIs_setCells news (0+i*2) w.drew _ hR;have hB1:dL (λ b=>b=g) w.heap.size w W1:=by rw[hW1];exact tH g w news _ _ ⟨rfl,rfl,rfl,aoH _,λ _ _ _=>rfl⟩
 rw[<-hW1]at hR1;have hcl:∀ty,(Builtin.clear_ #[101] ty #[.slice (some ⟨g,(i+(n-(i+1)))*2,none⟩) (n-(i+(n-(i+1)))) (cap-(i+(n-(i+1))))]).run prog W1= .ok (.tuple #[]) (W1.setCells g ((i+(n-(i+1)))*2) (List.replicate (n-(i+(n-(i+1)))) fl0.cells.toList).flatten):=
  λ ty=>Zh (s:=2) Tryz.underlying101 (ajn W1) rfl d_ o_ (λ j hj=>by rw[(mg hR1 o_).1];rfl) (λ j hj=>(mg hR1 o_).2)
 obtain⟨W2,hW2⟩:∃W2,W2=W1.setCells g ((i+(n-(i+1)))*2) (List.replicate (n-(i+(n-(i+1)))) fl0.cells.toList).flatten:=⟨_,rfl⟩;have hR2:=Go.rowIs_setCells (List.replicate (n-(i+(n-(i+1)))) fl0.cells.toList).flatten ((i+(n-(i+1)))*2) W1 _ hR1;have hB2:dL (λ b=>b=g) w.heap.size w W2:=by rw[hW2];exact tH g w _ _ _ hB1
 rw[<-hW2]at hR2 hcl;have hfin:∃cur',W2.heap[g]? =some (.cells cur' 112 (0,0))/\cur'.size=cur.size/\cur'.toList.take ((n-1)*2)=cur.toList.take (i*2)++news:=by
  obtain⟨c,c1,c2,c3⟩:=hR2;refine⟨c,c1,o_,apV λ t=>?_⟩;rw[apg];by_cases ht:t<(n-1)*2
  ·rw[if_pos ht,apF,c3 t o_];dsimp only;rw[if_neg o_];by_cases h2:t<i*2
   ·rw[if_neg o_,aoS (by rw[aou,aoY];omega),apg,if_pos h2,apF,aqk o_];rfl
   ·rw[if_pos o_,ao2 (by rw[aou,aoY];omega),aou,aoY,show t-(0+i*2)=t-min (i*2) cur.size by omega,aom o_];rfl
  ·rw[if_neg ht,aoW (by rw[aop,aou,aoY];omega)]
 have hW:Hid (W1=w.drew.setCells g (0+i*2) news):=hW1;have hnk:i+(n-(i+1))<=cap:=o_
 have hn1:n-1=i+(n-(i+1)):=o_
 have hkc:i+1<=cap:=o_
 have hic:i<=cap:=o_
 have hj0:0<=(i:Int)+1:=o_
 have hj1:(i:Int)+1<=(n:Int):=o_
 have hne:¬ ((i:Int)=(i:Int)+1):=o_
 rw[<-hnews];clear hW1 hR hR1 hR2 hB1 hg hcs h1 hget hlen hW2 hi0 hz0;refine Calls.mono (R:=λ e w'=>e= .returned (.slice (some ⟨g,0,none⟩) (i+(n-(i+1))) cap)/\w'=W2) ?_ (by rintro e w' ⟨rfl,rfl⟩;exact⟨by rw[hn1],hB2,hfin⟩);clear hB2 hfin;obtain⟨i0,hi0,hs0⟩:∃i0:TypeInfo,prog.info? 112=some i0/\i0.size=2:=⟨_,rfl,rfl⟩;go_enter func73,Tryz.ntmps73;go_wp2_with fail;go_region_law (refine step_append_room rfl (.tmp 22) (.tmp 25) 101 rfl 112 i0 2 Tryz.underlying101 hi0 hs0 g 0 i cap (by simp[Act.eval,Act.put]) A (n-(i+1)) (cap-(i+1)) news (by simp[Act.eval,Act.put]) s1.out hsrc.out s2.out o_ s3.out ?_;rw[<-hW.out]);go_wp2;go_ret;exact⟨rfl,rfl⟩
theorem alF{keep:Nat->Prop}{x:AV}{u:Value}(h:PC w keep x u):u.oneCell'=true:=by
 cases h with
 |v _ h1=>exact h1
 |sl=>rfl
theorem ML{α:Type}{c:α->List AV}{s:Nat}(hc:∀e,(c e).length=s):∀(i:Nat)(l:List α),i<l.length->(l.eraseIdx i).flatMap c=(l.flatMap c).take (i*s)++(l.flatMap c).drop ((i+1)*s)
 |_,[],h=>absurd h s_
 |0,x::l,_=>by
  rw[List.eraseIdx_cons_zero,apa,aqN,List.take_zero,aoN,Nat.one_mul,show s=(c x).length from(hc x).symm,apE]
 |i+1,x::l,h=>by
  rw[aqu,apa,ML hc i l (by simpa using h),apa,show(i+1)*s=(c x).length+i*s by rw[hc,apN];omega,List.take_length_add_append,show(i+1+1)*s=(c x).length+(i+1)*s by rw[hc];simp only[apN];omega,List.drop_length_add_append,aoL];congr 3;rw[hc,apN];omega
theorem alG(i:Nat)(l:List (Int×List UInt8))(hi:i<l.length):aj prog 73 [(0,yI l)] [.own 0,.v (.int .i64 (i:Int)),.v (.int .i64 ((i:Int)+1))] (.own 1) [(1,yI (l.eraseIdx i))]:=by
 refine⟨⟨_,_,func73,rfl,rfl⟩,λ w keep ρ args hkp jo hnd hbl hargs=>?_⟩;obtain⟨us,hown,_,hfl,_,ha⟩:=jo _ (aoo.2 rfl);obtain⟨u,v,x,rfl,hu,hv,hx⟩:=LK hargs;have hu:u=ρ 0:=Eq.trans (show u=dJ (ρ 0)from hu) (eY hown);have hv:v= .int .i64 (i:Int):=hv;have hx:x= .int .i64 ((i:Int)+1):=hx;subst hu hv hx;have hlen:∀e:Int×List UInt8,(flC e).length=2:=λ _=>rfl;have hul:us.length=l.length*2:=hown.1;have hfe:flat l.length (flF l)=l.flatMap flC:=vU flC l;have hel:(l.eraseIdx i).length=l.length-1:=by rw[aqI,if_pos hi]
 have hfd:flat (l.eraseIdx i).length (flF (l.eraseIdx i))=(flat l.length (flF l)).take (i*2)++(flat l.length (flF l)).drop ((i+1)*2):=by rw[hfe,<-ML hlen i l hi];exact vU flC _
 rcases hown.2 with⟨hv,hn⟩|⟨g,cap,cur,hv,_,hg,hncap,hcm,hcs,htk⟩
 ·exact absurd hi o_
 ·rw[show(ρ 0)= .slice (some ⟨g,0,none⟩) l.length cap from hv];have hone:∀u∈us,u.oneCell'=true:=λ u hu=>by
   obtain⟨q,hq⟩:=List.mem_iff_getElem?.1 hu;have hl:q<(flat l.length (flF l)).length:=by rw[ha.1];exact(aoC.1 hq).1
   exact alF (ha.2 q _ u (aom hl) hq)
  refine(Zi g cap l.length i cur w hg hncap hcm hcs hi (by rw[htk];exact hone)).mono ?_;rintro e w' ⟨rfl,hB,cur',hg',hcs',alr⟩;have hb:g∈ah ρ [(0,yI l)]:=aQ.2 ⟨_,aoo.2 rfl,by rw[show ρ 0= .slice (some ⟨g,0,none⟩) l.length cap from hv];exact aol⟩;let ρ':Nat->Value:=λ _=> .slice (some ⟨g,0,none⟩) (l.length-1) cap;have hbs:ah ρ' [(1,yI (l.eraseIdx i))]=[g]:=rfl;have hbo:∀b,b∈ah ρ' [(1,yI (l.eraseIdx i))]->b=g:=λ b h=>by rw[hbs]at h;exact aoo.1 h
  refine⟨_,ρ',rfl,⟨hB.os,hB.tape,hB.output,hB.size,λ j hj hM=>hB.block j hj (by rintro rfl;exact hM hb)⟩,λ p hp q hq h=>?_,rfl,λ p hp=>?_,by rw[hbs];exact apj.2 ⟨apy,List.nodup_nil⟩,λ b hbm=>?_⟩
  ·obtain rfl:=aoo.1 hp;obtain rfl:=aoo.1 hq;cases h
  ·obtain rfl:=aoo.1 hp;have hcu:cur'.toList.take ((l.length-1)*2)=us.take (i*2)++us.drop ((i+1)*2):=by
    rw[alr,<-htk,aqX,List.drop_take,ap5 o_,show l.length*2-(i+1)*2=(l.length-(i+1))*2 by omega]
   refine⟨us.take (i*2)++us.drop ((i+1)*2),⟨by rw[aop,aou,aoK,hul,hel];omega,.inr ⟨g,cap,cur',by rw[hel];rfl,aoB _,hg',o_,hcm,by rw[hcs',hcs], ?_⟩⟩,d_,λ _ _=>rfl,λ h=>(by cases h), ?_⟩
   ·rw[hel,hcu]
   ·rw[hfd];refine((ha.take' (i*2)).app (ha.drop' ((i+1)*2))).imp λ _ _=>PC.mono (λ b kb=>?_) λ b kb=>?_
    ·have h1:=hkp b kb;exact⟨apQ h1 hB.size,λ _=> .inl kb,λ h=>by
      rw[hbo b h]at kb;exact(hbl g hb).2 kb⟩
    ·exact hB.block b (hkp b kb) (by rintro rfl;exact(hbl b hb).2 kb)
  ·rw[hbo b hbm];exact .inr hb
theorem ac1(l:List (Int×List UInt8))(hl:l.length<=1000000)(i:Nat)(hi:i<l.length)(hb:(l.getD i default).2.length<=1000000000):
  aj prog 41 [(0,.obs (Jh l))] [.box 0 0,.v (.int .i64 (i:Int))] (.bI [.agg (flC (l.getD i default)),.v (.int .i64 0)]) [(0,.obs (Jh l))]:=by
 refine MK 1 (ho:=[]) ⟨_,_,func41,rfl,rfl⟩ ?_ rfl rfl;have hc:=(sK 0 (l.getD i default).2 (bG.bytes _) rfl hb).thaw;have SE:Nat.ble ((i:Int).toNat+1) l.length=true:=apm o_;rw[show l.getD i default=l.getD (i:Int).toNat default from rfl]at hc⊢;dsimp only[lnH,lnB,yI,List.append_nil,flC];refine K1.M 0x20073 func41 40 ?_;repeat' ((conv=>whnf);first|refine K1.u ?_|refine K1.P1 hc ?_|refine K1.o (id:=4) (nN [0,1,2,3] [(4,some [3]),(5,none),(6,some [3,1]),(7,none)]) ?_|fail)
 all_goals(conv=>whnf)
 exact⟨[],rfl,rfl,⟨ay rfl,ay rfl,trivial⟩,rfl,rfl,au⟩
theorem MN(l:List (Int×List UInt8))(hl:l.length<=1000000)(i:Int)(hi:i<0\/(l.length:Int)<=i):
  aj prog 41 [(0,.obs (Jh l))] [.box 0 0,.v (.int .i64 i)] (.bI [.agg [.v (.int .i64 0),.v (.slice none 0 0)],.v (.int .i64 24)]) [(0,.obs (Jh l))]:=by
 refine MK 1 (ho:=[]) ⟨_,_,func41,rfl,rfl⟩ ?_ rfl rfl;dsimp only[lnH,lnB,yI,List.append_nil];rcases Int.lt_or_le i 0 with h0|h0
 ·clear hi;refine K1.M 0x20073 func41 40 ?_;repeat' ((conv=>whnf);first|refine K1.u ?_|fail)
  all_goals(conv=>whnf)
  exact⟨[],rfl,rfl,⟨ay rfl,ay rfl,trivial⟩,rfl,rfl,au⟩
 ·have hi:(l.length:Int)<=i:=o_
  refine K1.M 0x20073 func41 40 ?_;repeat' ((conv=>whnf);first|refine K1.u ?_|fail)
  all_goals(conv=>whnf)
  exact⟨[],rfl,rfl,⟨ay rfl,ay rfl,trivial⟩,rfl,rfl,au⟩
theorem Zj(l:List (Int×List UInt8))(hl:l.length<=1000000)(i:Int)(hi:i<0\/(l.length:Int)<=i):
  aj prog 40 [(0,.obs (Jh l))] [.box 0 0,.v (.int .i64 i)] (.bI [.agg [.v (.int .i64 0),.v (.slice none 0 0)],.v (.int .i64 24)]) [(0,.obs (Jh l))]:=by
 have hc:=MN l hl i hi;clear hi;refine K1.M 0x80f3 func40 40 ?_;repeat' ((conv=>whnf);first|refine K1.u ?_|refine K1.C 1 [(0,_)] (hc) rfl ?_|fail)
 all_goals(conv=>whnf)
 exact⟨[],rfl,rfl,⟨ay rfl,trivial⟩,rfl,rfl,au⟩
theorem ac2(l:List (Int×List UInt8))(hl:l.length<=1000000)(i:Nat)(hi:i<l.length)(hb:(l.getD i default).2.length<=1000000000):
  aj prog 40 [(0,.obs (Jh l))] [.box 0 0,.v (.int .i64 (i:Int))] (.bI [.agg (flC (l.getD i default)),.v (.int .i64 0)]) [(0,.obs (Jh (l.eraseIdx i)))]:=by
 refine MK 2 (ho:=[]) ⟨_,_,func40,rfl,rfl⟩ ?_ rfl rfl;have hc:=(sK 0 (l.getD i default).2 (bG.bytes _) rfl hb).thaw;have hd:=alG i l hi;have SE:Nat.ble ((i:Int).toNat+1) l.length=true:=apm o_;rw[show l.getD i default=l.getD (i:Int).toNat default from rfl]at hc⊢;dsimp only[lnH,lnB,yI,List.append_nil,flC]at hd⊢;refine K1.M 0x80f3 func40 40 ?_;repeat' ((conv=>whnf);first|refine K1.u ?_|refine K1.P1 hc ?_|refine K1.C 1 [(0,_)] (hd) rfl ?_|refine K1.I 0x20073 func41 ?_|refine K1.o (id:=4) (nN [0,1,2,3] [(4,some [3]),(5,none),(6,some [3,1]),(7,none)]) ?_|fail)
 all_goals(conv=>whnf)
 exact⟨[(44,2)],rfl,rfl,⟨ay rfl,ay rfl,trivial⟩,rfl,rfl,au⟩
end Go.Proofs.YtifjccndenojlaaGreat
