/-
  Contracts of the walk:HbN,HbU,WcA,WcB,WcF,WcD,WcG.
-/
import Derived.Test.YtkimgljckickcaaGreatRa30
import Derived.Test.YtkimgljckickcaaGreatRa28
import Derived.Test.YtkimgljckickcaaGreatRa29
import Derived.Test.YtkimgljckickcaaGreatRa16
import Derived.Test.YtkimgljckickcaaGreatRa12
import Derived.Test.YtkimgljckickcaaGreatRa11
import Derived.Test.YtkimgljckickcaaGreatRa22
set_option maxHeartbeats 16000000
set_option maxRecDepth 100000
set_option linter.unusedVariables false
set_option linter.unusedSimpArgs false
namespace Go.Proofs.YtkimgljckickcaaGreat
open Go.RowKit
open Go.Proofs.Tryz
variable{r:AV}{f:FuncId}{ho:List (Nat×AO)}{aW:List AV}{n:Nat}{F:Nat->List AV}{w:World}
theorem abB(d:Nat)(x:Rc)(hx:jW x=true):aF prog 199 [x.av] (.aZ [.v (.int .i64 x.r),.own d,.v (.int .i64 0)]) [(d,gX (aY x))]:=by
 have hp:=λ d=>Ai d x hx;obtain⟨k,r,u,⟨c0,c1,c2,c3,c4⟩,ev⟩:=x;generalize aY _=w at hp⊢;dsimp only[Rc.av,Rc.cs,gX]at hp⊢;refine K1.E 0x207f func199 ?_;repeat' ((conv=>whnf);first|refine K1.u ?_|refine K1.F1 (hp _) ?_|refine K1.z ?_|refine K1.y (λ _=>?_) (λ _=>?_)|fail)
 all_goals(conv=>whnf)
 exact aT.uX d rfl rfl (dK.refl _) (bY)
def MB(k r u:Int)(c:aS)(ev:List Ev):AV:= .agg [.v (.int .i64 k),.v (.int .i64 r),.v (.int .i64 u),.v (.int .i64 c.c0),.v (.int .i64 c.c1),.v (.int .i64 c.c2),.v (.int .i64 c.c3),.v (.int .i64 c.c4),.sl 12 ev.length true (dA ev)]
theorem AX{r:Nat}(h:r<5):r=0\/r=1\/r=2\/r=3\/r=4:=o_
def Pt.lenOf(p:Pt)(r:Nat):Int:=(p.sh.map jU.len).getD r 0
def Hb.gB(h:Hb)(p:Pt):Hb:=⟨h.up,h.c,p,h.d⟩
def vV(most:Int)(p p':Pt)(r:Nat)(ev:List Ev)(u x:Int):Prop:=
 aj prog 114 [(0,.obs (BL most p))] [.box 0 0,.v (.int .i64 (r:Int)),.sl 12 ev.length true (dA ev)] (.aZ [.v (.int .i64 u),.v (.int .i64 x)]) [(0,.obs (BL most p'))]
def writeT(h h':Hb)(x:Rc)(y:Int):Prop:=aj prog 198 (ni h ()) [.box 0 0,x.av] (.v (.int .i64 y)) (sS 11 h')
def qH(x:Rc)(w:List UInt8):Prop:= ∀d:Nat,aF prog 199 [x.av] (.aZ [.v (.int .i64 x.r),.own d,.v (.int .i64 0)]) [(d,gX w)]
theorem aj.args{P:Program}{f:FuncId}{hin:List (Nat×AO)}{aW bvs:List AV}{r:AV}{hout:List (Nat×AO)}(hs:aj P f hin bvs r hout)(hc:Ch aW bvs):aj P f hin aW r hout:=
 ⟨hs.1,λ w keep ρ args a1 a2 a3 a4 a5=>hs.2 w keep ρ args a1 a2 a3 a4 (hc.all a5)⟩
def Rc.nilA(x:Rc):AV:= .agg [.v (.int .i64 x.k),.v (.int .i64 x.r),.v (.int .i64 x.u),.v (.int .i64 x.c.c0),.v (.int .i64 x.c.c1),.v (.int .i64 x.c.c2),.v (.int .i64 x.c.c3),.v (.int .i64 x.c.c4),.v (.slice none 0 0)]
def qI(x:Rc)(w:List UInt8):Prop:= ∀d:Nat,aF prog 199 [x.nilA] (.aZ [.v (.int .i64 x.r),.own d,.v (.int .i64 0)]) [(d,gX w)]
def qJ(h h':Hb)(x:Rc)(y:Int):Prop:=aj prog 198 (ni h ()) [.box 0 0,x.nilA] (.v (.int .i64 y)) (sS 11 h')
theorem qH.nil{x:Rc}{w:List UInt8}(h:qH x w)(he:x.ev=[]):qI x w:=by
 intro d;have:=h d;obtain⟨k,r,u,c,ev⟩:=x;dsimp only at he;subst he;exact this.args (.of (λ X u hu=>C1.Ov hu) .nil)
theorem writeT.nil{h h':Hb}{x:Rc}{y:Int}(hw:writeT h h' x y)(he:x.ev=[]):qJ h h' x y:=by
 obtain⟨k,r,u,c,ev⟩:=x;dsimp only at he;subst he;exact aj.args (bvs:=[.box 0 0,Rc.av ⟨k,r,u,c,[]⟩]) hw (.same (.of (λ X u hu=>C1.Ov hu) .nil))
def Ie(x:Int):AV:= .aZ [.v (.int .i64 (-1)),.v (.slice none 0 0),.v (.int .i64 x)]
def EC(r:Nat):AV:= .aZ [.v (.int .i64 (r:Int)),.own 1,.v (.int .i64 0)]
def qL(n:Nat)(F:Nat->List AV)(k:Int)(r:Nat)(u:Int)(c:aS)(ev:List Ev)(x:Int):Prop:=aF prog 145 [.sl 1 n true F] (.aZ [MB k r u c ev,.v (.int .i64 x)]) []
def FV(most:Int)(p p':Pt)(r:Nat)(c:aS):Prop:=aj prog 115 [(0,.obs (BL most p))] [.box 0 0,.v (.int .i64 (r:Int)),.agg (yg c)] (.v (.int .i64 0)) [(0,.obs (BL most p'))]
def xG(most:Int)(p:Pt)(r:Nat)(c:aS)(l:List Ev):Prop:=aj prog 200 [(0,.obs (BL most p))] [.box 0 0,.v (.int .i64 (r:Int)),.agg (yg c)] (.aZ [.own 1,.v (.int .i64 0)]) [(0,.obs (BL most p)),(1,bn l)]
def ahM{r:Nat}(_:r<5)(up:Bool)(cf:lZ)(p:Pt)(d:Dk)(u:Int)(c:aS)(ev:List Ev):AS:=
 ⟨[(0,.box 0 0),(3,.box 40 0),(5,.box 80 0)],[(80,.box 33 (yg (p.told.getD r aV))),(40,.box 174 [.v (.int .i64 5),.v (.int .i64 (r:Int)),.v (.int .i64 u),.v (.int .i64 c.c0),.v (.int .i64 c.c1),.v (.int .i64 c.c2),.v (.int .i64 c.c3),.v (.int .i64 c.c4),.sl 12 ev.length true (dA ev)]),
  (0,hbB up cf (.box 8 0) (.box 9 0)),(8,pO (.own 10) d),(10,gX d.bs),(9,.obs (BL cf.w p))],[[(0,.box 0 0),(1,.box 8 0),(2,.own 10),(3,.own 9)]],81⟩
theorem FW(h _h':Hb)(hp:qA h.p)(hup:h.up=true)(p':Pt)(hp':qA p')(r:Nat)(u _m y:Int)(c:aS)(ev:List Ev)(_w:List UInt8)(qB:r<5)(hft:qL n F 1 r u c ev 0)(hrn:(r:Int)<h.c.n)(hpush:vV h.c.w h.p h.p r ev 0 y)(hx:y≠0):
  aj prog 99 (ni h ()) [.box 0 0,.sl 1 n true F] (Ie y) (ni h ()):=by
 have hs:=dV h.c.w h.p hp;have hs':=dV h.c.w p' hp';obtain⟨up,cf,p,d⟩:=h;dsimp only at hs hs' hup hft hrn hpush hx;subst hup;rcases AX qB with rfl|rfl|rfl|rfl|rfl;all_goals
  dsimp only[qL,FV,vV,xG,qI,qH,writeT,qJ,ni,sS,hbB,pO,gX,bn,MB,Ie,EC,Hb.gB,Rc.av,Rc.cs,Rc.nilA,aV,Pt.lenOf,yg,List.cons_append,List.nil_append]at hs hs' hft hrn hpush⊢;refine K1.M 0x20203402041f3 func99 40 ?_;repeat' ((conv=>whnf);first|refine K1.u ?_|refine K1.P1 hft ?_|refine K1.C 1 [(0,_)] (hs) rfl ?_|refine K1.C 1 [(0,_)] (hpush) rfl ?_|refine mJ.mk d_ ?_|refine K1.I 0x10022000007fb func146 ?_|refine K1.o (id:=1) (nN [0,1,2,3,6,7] ((4,some [3,1])::nN [5,8,9] [])) ?_|refine K1.o (id:=2) (nN [0,1,2,3,4,5,6,7] ((8,some [7,5,3,1])::nN [9,10,11,12,13] [])) ?_|refine K1.o (id:=6) (nN [0,1,2,3,4,5,6,7] [(8,some [6,4,1]),(9,none)]) ?_|refine K1.z ?_|refine K1.y (λ _=>?_) (λ _=>?_)|fail)
  all_goals(conv=>whnf)
  exact iF []
theorem ED(h _h':Hb)(hp:qA h.p)(hup:h.up=true)(p':Pt)(hp':qA p')(r:Nat)(u m _y:Int)(c:aS)(ev:List Ev)(w:List UInt8)(qB:r<5)(hft:qL n F 1 r u c ev 0)(hrn:(r:Int)<h.c.n)(hpush:vV h.c.w h.p p' r ev m 0)(hn:m=h.p.lenOf r)(hre:qI ⟨2,r,m,aV,[]⟩ w):
  aj prog 99 (ni h ()) [.box 0 0,.sl 1 n true F] (EC r) (ni (h.gB p') ()++[(1,gX w)]):=by
 have hs:=dV h.c.w h.p hp;have hs':=dV h.c.w p' hp';obtain⟨up,cf,p,d⟩:=h;dsimp only at hs hs' hup hft hrn hpush hn hre;subst hup;rcases AX qB with rfl|rfl|rfl|rfl|rfl;all_goals
  dsimp only[qL,FV,vV,xG,qI,qH,writeT,qJ,ni,sS,hbB,pO,gX,bn,MB,Ie,EC,Hb.gB,Rc.av,Rc.cs,Rc.nilA,aV,Pt.lenOf,yg,List.cons_append,List.nil_append]at hs hs' hft hrn hpush hn hre⊢;refine K1.M 0x20203402041f3 func99 40 ?_;repeat' ((conv=>whnf);first|refine K1.u ?_|refine K1.P1 hft ?_|refine K1.C 1 [(0,_)] (hs) rfl ?_|refine K1.C 1 [(0,_)] (hpush) rfl ?_|refine K1.F1 (hre _) ?_|refine mJ.mk d_ ?_|refine K1.I 0x10022000007fb func146 ?_|refine K1.o (id:=1) (nN [0,1,2,3,6,7] ((4,some [3,1])::nN [5,8,9] [])) ?_|refine K1.o (id:=2) (nN [0,1,2,3,4,5,6,7] ((8,some [7,5,3,1])::nN [9,10,11,12,13] [])) ?_|refine K1.o (id:=6) (nN [0,1,2,3,4,5,6,7] [(8,some [6,4,1]),(9,none)]) ?_|refine K1.z ?_|refine K1.y (λ _=>?_) (λ _=>?_)|fail)
  all_goals(conv=>whnf)
  exact iF [(44,1)]
theorem KR(h h':Hb)(hp:qA h.p)(hup:h.up=true)(p':Pt)(hp':qA p')(r:Nat)(u m _y:Int)(c:aS)(ev:List Ev)(w:List UInt8)(qB:r<5)(hft:qL n F 1 r u c ev 0)(hrn:(r:Int)<h.c.n)(hpush:vV h.c.w h.p p' r ev m 0)(hn:m≠h.p.lenOf r)(hw:writeT (h.gB p') h' ⟨5,r,0,aV,ev⟩ 0)(hre:qI ⟨2,r,m,aV,[]⟩ w):
  aj prog 99 (ni h ()) [.box 0 0,.sl 1 n true F] (EC r) (sS 11 h'++[(1,gX w)]):=by
 have hs:=dV h.c.w h.p hp;have hs':=dV h.c.w p' hp';obtain⟨up,cf,p,d⟩:=h;dsimp only at hs hs' hup hft hrn hpush hn hw hre;subst hup;rcases AX qB with rfl|rfl|rfl|rfl|rfl;all_goals
  dsimp only[qL,FV,vV,xG,qI,qH,writeT,qJ,ni,sS,hbB,pO,gX,bn,MB,Ie,EC,Hb.gB,Rc.av,Rc.cs,Rc.nilA,aV,Pt.lenOf,yg,List.cons_append,List.nil_append]at hs hs' hft hrn hpush hn hw hre⊢;refine K1.M 0x20203402041f3 func99 40 ?_;repeat' ((conv=>whnf);first|refine K1.u ?_|refine K1.P1 hft ?_|refine K1.C 1 [(0,_)] (hs) rfl ?_|refine K1.C 1 [(0,_)] (hpush) rfl ?_|refine K1.C 11 [(0,_),(8,_),(10,_),(9,_)] (hw) rfl ?_|refine K1.F1 (hre _) ?_|refine mJ.mk d_ ?_|refine K1.I 0x10022000007fb func146 ?_|refine K1.o (id:=1) (nN [0,1,2,3,6,7] ((4,some [3,1])::nN [5,8,9] [])) ?_|refine K1.o (id:=2) (nN [0,1,2,3,4,5,6,7] ((8,some [7,5,3,1])::nN [9,10,11,12,13] [])) ?_|refine K1.o (id:=6) (nN [0,1,2,3,4,5,6,7] [(8,some [6,4,1]),(9,none)]) ?_|refine K1.z ?_|refine K1.y (λ _=>?_) (λ _=>?_)|fail)
  all_goals(conv=>whnf)
  exact iF [(44,11),(45,1)]
theorem FX(h h':Hb)(hp:qA h.p)(hup:h.up=true)(p':Pt)(hp':qA p')(r:Nat)(u m y:Int)(c:aS)(ev:List Ev)(_w:List UInt8)(qB:r<5)(hft:qL n F 1 r u c ev 0)(hrn:(r:Int)<h.c.n)(hpush:vV h.c.w h.p p' r ev m 0)(hn:m≠h.p.lenOf r)(hw:writeT (h.gB p') h' ⟨5,r,0,aV,ev⟩ y)(hx:y≠0):
  aj prog 99 (ni h ()) [.box 0 0,.sl 1 n true F] (Ie y) (sS 11 h'):=by
 have hs:=dV h.c.w h.p hp;have hs':=dV h.c.w p' hp';obtain⟨up,cf,p,d⟩:=h;dsimp only at hs hs' hup hft hrn hpush hn hw hx;subst hup;rcases AX qB with rfl|rfl|rfl|rfl|rfl;all_goals
  dsimp only[qL,FV,vV,xG,qI,qH,writeT,qJ,ni,sS,hbB,pO,gX,bn,MB,Ie,EC,Hb.gB,Rc.av,Rc.cs,Rc.nilA,aV,Pt.lenOf,yg,List.cons_append,List.nil_append]at hs hs' hft hrn hpush hn hw⊢;refine K1.M 0x20203402041f3 func99 40 ?_;repeat' ((conv=>whnf);first|refine K1.u ?_|refine K1.P1 hft ?_|refine K1.C 1 [(0,_)] (hs) rfl ?_|refine K1.C 1 [(0,_)] (hpush) rfl ?_|refine K1.C 11 [(0,_),(8,_),(10,_),(9,_)] (hw) rfl ?_|refine mJ.mk d_ ?_|refine K1.I 0x10022000007fb func146 ?_|refine K1.o (id:=1) (nN [0,1,2,3,6,7] ((4,some [3,1])::nN [5,8,9] [])) ?_|refine K1.o (id:=2) (nN [0,1,2,3,4,5,6,7] ((8,some [7,5,3,1])::nN [9,10,11,12,13] [])) ?_|refine K1.o (id:=6) (nN [0,1,2,3,4,5,6,7] [(8,some [6,4,1]),(9,none)]) ?_|refine K1.z ?_|refine K1.y (λ _=>?_) (λ _=>?_)|fail)
  all_goals(conv=>whnf)
  exact iF [(44,11)]
theorem MC(h _h':Hb)(hp:qA h.p)(hup:h.up=true)(p':Pt)(hp':qA p')(r:Nat)(u _m _y:Int)(c:aS)(ev:List Ev)(w:List UInt8)(l:List Ev)(qB:r<5)(hft:qL n F 3 r u c ev 0)(hrn:(r:Int)<h.c.n)(hf:xG h.c.w h.p r c l)(hre:qH ⟨4,r,0,aV,l⟩ w):
  aj prog 99 (ni h ()) [.box 0 0,.sl 1 n true F] (EC r) (ni h ()++[(1,gX w)]):=by
 have hs:=dV h.c.w h.p hp;have hs':=dV h.c.w p' hp';obtain⟨up,cf,p,d⟩:=h;dsimp only at hs hs' hup hft hrn hf hre;subst hup;rcases AX qB with rfl|rfl|rfl|rfl|rfl;all_goals
  dsimp only[qL,FV,vV,xG,qI,qH,writeT,qJ,ni,sS,hbB,pO,gX,bn,MB,Ie,EC,Hb.gB,Rc.av,Rc.cs,Rc.nilA,aV,Pt.lenOf,yg,List.cons_append,List.nil_append]at hs hs' hft hrn hf hre⊢;refine K1.M 0x20203402041f3 func99 40 ?_;repeat' ((conv=>whnf);first|refine K1.u ?_|refine K1.P1 hft ?_|refine K1.C 1 [(0,_)] (hs) rfl ?_|refine K1.C 1 [(0,_)] (hf) rfl ?_|refine K1.F1 (hre _) ?_|refine mJ.mk d_ ?_|refine K1.I 0x4001fb func147 ?_|refine K1.o (id:=1) (nN [0,1,2,3,4,5,6,7] ((8,some [7,5,3,1])::nN [9,10,11,12,13] [])) ?_|refine K1.z ?_|refine K1.y (λ _=>?_) (λ _=>?_)|fail)
  all_goals(conv=>whnf)
  exact iF [(43,1)]
theorem XW(h:Hb):aj prog 96 [(0,.obs (Ci h))] [.box 0 0] (.aZ []) [(0,.obs (Ci ⟨false,h.c,h.p,⟨h.d.bs,true,false,h.d.keep⟩⟩))]:=by
 refine FU (ho:=[]) ⟨_,_,func96,rfl,rfl⟩ ?_ rfl;rw[am2];obtain⟨up,c,p,d⟩:=h;dsimp only[ni,hbB,pO,gX];refine K1.M 0x1 func96 40 ?_;repeat' ((conv=>whnf);first|refine K1.I 0x85 func143 ?_|refine K1.I 0x1 func142 ?_|fail)
 all_goals(conv=>whnf)
 exact iF []
def flC(f:Int×List UInt8):List AV:=[.v (.int .i64 f.1),.sl 1 f.2.length true (aO f.2)]
abbrev flF(l:List (Int×List UInt8)):Nat->List AV:=qh flC l
def lnB(m:AV):AO:= .box 147 [m]
def xX(l:List (Int×List UInt8)):AO:= .row 155 2 l.length false (flF l)
def lnH(l:List (Int×List UInt8))(_:Unit):List (Nat×AO):=[(0,lnB (.own 1)),(1,xX l)]
def Ig(l:List (Int×List UInt8)):OB:=OB.pack (lnH l)
theorem Vy(l:List (Int×List UInt8)):Closes (lnH l ()) 0 (Ig l):=Closes.pack (lnH l) () rfl λ _ hok=>vF (hok _ amW)
theorem ajW:Closes [(0,lnB (.v (.slice none 0 0)))] 0 (Ig []):=by
 unfold lnB;refine Closes.adU (A:=[]) (id:=0) (B:=[]) (k:=0) (d:=1) (e:=155) (s:=2) (sc:=false) (f:=flF []) ?_ rfl d_ rfl;exact Vy []
theorem KT(i:Nat){l l':List (Int×List UInt8)}(hE:Enters prog f)(hm:aj prog f (lnH l ()) aW r ([(0,lnB (.own i)),(i,xX l')]++ho))
  (hk:x9 [(0,0),(1,i)] (lnH l' ())=true)(hb:(aW.all (oQ (λ _=>false) 0)&&fG (λ i=>bJ i ho) 0 r&&fF ho ho&& !(bJ 0 ho))=true):aj prog f [(0,.obs (Ig l))] aW r ((0,.obs (Ig l'))::ho):=
 aj.opn hE (Opens.pack (lnH l)) (λ _=>⟨_,(Vy l').ren [(0,0),(1,i)] rfl hk,rfl,rfl,hm⟩) hb
theorem afu:aj prog 35 [] [] (.box 0 0) [(0,.obs (Ig []))]:=by
 refine aj.cls (hs':=_) (ho:=[]) ajW ?_ rfl;dsimp only[lnB,List.append_nil];refine K1.M 0x1 func35 40 ?_
 all_goals(conv=>whnf)
 exact iF [(40,0)]
theorem OT(l:List (Int×List UInt8))(hl:l.length<=1000000)(to:Int)(b:List UInt8)(hb:b.length<=1000000000)(hF:bg F b)(hn:n=b.length):
  aj prog 87 [(0,.obs (Ig l))] [.box 0 0,.v (.int .i64 to),.sl 1 n true F] (.aZ []) [(0,.obs (Ig (l++[(to,b)])))]:=by
 refine KT 2 (ho:=[]) ⟨_,_,func87,rfl,rfl⟩ ?_ rfl rfl;have hc:=(rO 0 b hF hn hb).thaw;subst hn;dsimp only[lnH,lnB,xX,List.append_nil];refine K1.M 0x7 func87 40 ?_;repeat' ((conv=>whnf);first|refine K1.u ?_|refine K1.P1 hc ?_|refine K1.o (id:=0) (nN [0,1,2,3,4,5,6] ((7,some [])::(8,none)::(9,some [])::(10,some [4,2])::nN [11,12] [(13,some [4,2,11])])) ?_|fail)
 all_goals(conv=>whnf)
 exact⟨[(41,2)],rfl,rfl,⟨dB rfl,⟨_,rfl,dK.row s_ λ m hm=>eF (c:=flC) (l:=l) rfl rfl m hm⟩,trivial⟩,rfl,rfl,bY⟩
theorem afv(l:List (Int×List UInt8)):aj prog 48 [(0,.obs (Ig l))] [.box 0 0] (.v (.int .i64 (l.length:Int))) [(0,.obs (Ig l))]:=by
 refine KT 1 (ho:=[]) ⟨_,_,func48,rfl,rfl⟩ ?_ rfl rfl;dsimp only[lnH,lnB,xX,List.append_nil];refine K1.M 0x5 func48 40 ?_
 all_goals(conv=>whnf)
 exact iF []
def wP:List OB->List AV
 |[_]=>[.box 10 0]
 |[_,_]=>[.box 10 0,.box 11 0]
 |[_,_,_]=>[.box 10 0,.box 11 0,.box 12 0]
 |[_,_,_,_]=>[.box 10 0,.box 11 0,.box 12 0,.box 13 0]
 |[_,_,_,_,_]=>[.box 10 0,.box 11 0,.box 12 0,.box 13 0,.box 14 0]
 |_=>[]
def wN:List OB->List (Nat×AO)
 |[a]=>[(10,.obs a)]
 |[a,b]=>[(10,.obs a),(11,.obs b)]
 |[a,b,c]=>[(10,.obs a),(11,.obs b),(12,.obs c)]
 |[a,b,c,d]=>[(10,.obs a),(11,.obs b),(12,.obs c),(13,.obs d)]
 |[a,b,c,d,e]=>[(10,.obs a),(11,.obs b),(12,.obs c),(13,.obs d),(14,.obs e)]
 |_=>[]
def wH(os:List OB)(hb ln:OB)(_:Unit):List (Nat×AO):=(0,.box 99 [.own 1,.box 2 0,.box 3 0])::(1,.rn 100 (wP os))::(2,.obs hb)::(3,.obs ln)::wN os
def wO(os:List OB)(hb ln:OB):OB:=OB.pack (wH os hb ln)
theorem Zu(os:List OB)(hb ln:OB):Closes (wH os hb ln ()) 0 (wO os hb ln):=Closes.pack (wH os hb ln) () rfl λ _ hok=>vF (hok _ amW)
theorem oU{os os':List OB}{hb hb' ln OU:OB}(hE:Enters prog f)(hm:aj prog f (wH os hb ln ()) aW r (wH os' hb' OU ()++ho))
  (hx:(aW.all (oQ (λ _=>false) 0)&&fG (λ i=>bJ i ho) 0 r&&fF ho ho&& !(bJ 0 ho))=true):aj prog f [(0,.obs (wO os hb ln))] aW r ((0,.obs (wO os' hb' OU))::ho):=
 aj.opn hE (Opens.pack (wH os hb ln)) (λ _=>⟨_,Zu os' hb' OU,rfl,rfl,hm⟩) hx
theorem jS{C:List OB->Prop}(os:List OB)(h1:1<=os.length)(h5:os.length<=5)(c1:∀a,C [a])(c2:∀a b,C [a,b])(c3:∀a b c,C [a,b,c])(c4:∀a b c d,C [a,b,c,d])(c5:∀a b c d e,C [a,b,c,d,e]):C os:=by
 rcases os with _|⟨a,_|⟨b,_|⟨c,_|⟨d,_|⟨e,_|⟨f,os⟩⟩⟩⟩⟩⟩
 ·simp at h1
 ·exact c1 a
 ·exact c2 a b
 ·exact c3 a b c
 ·exact c4 a b c d
 ·exact c5 a b c d e
 ·simp at h5
theorem sO{C:List OB->Nat->Prop}(os:List OB)(r:Nat)(h5:os.length<=5)(hr:r<os.length)(c10:∀a,C [a] 0)(c20:∀a b,C [a,b] 0)(c21:∀a b,C [a,b] 1)(c30:∀a b c,C [a,b,c] 0)(c31:∀a b c,C [a,b,c] 1)(c32:∀a b c,C [a,b,c] 2)
  (c40:∀a b c d,C [a,b,c,d] 0)(c41:∀a b c d,C [a,b,c,d] 1)(c42:∀a b c d,C [a,b,c,d] 2)(c43:∀a b c d,C [a,b,c,d] 3)
  (c50:∀a b c d e,C [a,b,c,d,e] 0)(c51:∀a b c d e,C [a,b,c,d,e] 1)(c52:∀a b c d e,C [a,b,c,d,e] 2)(c53:∀a b c d e,C [a,b,c,d,e] 3)(c54:∀a b c d e,C [a,b,c,d,e] 4):C os r:=by
 refine jS (C:=λ os=>r<os.length->C os r) os o_ h5 (λ a h=>?_) (λ a b h=>?_) (λ a b c h=>?_) (λ a b c d h=>?_) (λ a b c d e h=>?_) hr
 ·obtain rfl:r=0:=Nat.lt_one_iff.1 h;exact c10 a
 ·rcases(show r=0\/r=1 by simp at h;omega)with rfl|rfl
  ·exact c20 a b
  ·exact c21 a b
 ·rcases(show r=0\/r=1\/r=2 by simp at h;omega)with rfl|rfl|rfl
  ·exact c30 a b c
  ·exact c31 a b c
  ·exact c32 a b c
 ·rcases(show r=0\/r=1\/r=2\/r=3 by simp at h;omega)with rfl|rfl|rfl|rfl
  ·exact c40 a b c d
  ·exact c41 a b c d
  ·exact c42 a b c d
  ·exact c43 a b c d
 ·rcases(show r=0\/r=1\/r=2\/r=3\/r=4 by simp at h;omega)with rfl|rfl|rfl|rfl|rfl
  ·exact c50 a b c d e
  ·exact c51 a b c d e
  ·exact c52 a b c d e
  ·exact c53 a b c d e
  ·exact c54 a b c d e
theorem ahN(c:lZ)(n:Nat)(hn:c.n=(n:Int))(h1:1<=n)(h5:n<=5)(o:Nat->OB)(hb ln:OB)(hh:aj prog 34 [] [c.av] (.aZ [.box 0 0,.v (.int .i64 0)]) [(0,.obs hb)])(hl:aj prog 35 [] [] (.box 0 0) [(0,.obs ln)])
  (hr:∀r:Nat,r<n->aj prog 36 [] [c.av,.v (.int .i64 (r:Int))] (.aZ [.box 0 0,.v (.int .i64 0)]) [(0,.obs (o r))]):
  aj prog 14 [] [c.av] (.aZ [.box 0 0,.v (.int .i64 0)]) [(0,.obs (wO ((List.range n).map o) hb ln))]:=by
 refine aj.cls (hs':=wH ((List.range n).map o) hb ln ()) (ho:=[]) (Zu _ hb ln) ?_ rfl;obtain⟨cn,w,q,h,l,p⟩:=c;dsimp only[lZ.av,lZ.cs]at hn hh hr⊢;rcases(show n=1\/n=2\/n=3\/n=4\/n=5 by omega)with rfl|rfl|rfl|rfl|rfl
 ·have r0:=hr 0 d_;clear hr;subst hn;dsimp only[wH,List.range,List.range.loop,List.map,wP,wN,List.append_nil];refine K1.M 0x4038103ff func14 40 ?_;repeat' ((conv=>whnf);first|refine K1.u ?_|refine K1.C 0 [] (hh) rfl ?_|refine K1.C 0 [] (hl) rfl ?_|refine K1.C 0 [] (r0) rfl ?_|refine aI.rounds 2 ?_|fail)
  all_goals(conv=>whnf)
  refine⟨[(43,0),(46,1),(41,2),(42,3),(44,10)],rfl,rfl, ?_,rfl,rfl,bY⟩;repeat' (first|exact trivial|refine⟨dB rfl, ?_⟩)
 ·have r0:=hr 0 d_;have r1:=hr 1 d_;clear hr;subst hn;dsimp only[wH,List.range,List.range.loop,List.map,wP,wN,List.append_nil];refine K1.M 0x4038103ff func14 40 ?_;repeat' ((conv=>whnf);first|refine K1.u ?_|refine K1.C 0 [] (hh) rfl ?_|refine K1.C 0 [] (hl) rfl ?_|refine K1.C 0 [] (r0) rfl ?_|refine K1.C 0 [] (r1) rfl ?_|refine aI.rounds 3 ?_|fail)
  all_goals(conv=>whnf)
  refine⟨[(43,0),(49,1),(41,2),(42,3),(44,10),(47,11)],rfl,rfl, ?_,rfl,rfl,bY⟩;repeat' (first|exact trivial|refine⟨dB rfl, ?_⟩)
 ·have r0:=hr 0 d_;have r1:=hr 1 d_;have r2:=hr 2 d_;clear hr;subst hn;dsimp only[wH,List.range,List.range.loop,List.map,wP,wN,List.append_nil];refine K1.M 0x4038103ff func14 40 ?_;repeat' ((conv=>whnf);first|refine K1.u ?_|refine K1.C 0 [] (hh) rfl ?_|refine K1.C 0 [] (hl) rfl ?_|refine K1.C 0 [] (r0) rfl ?_|refine K1.C 0 [] (r1) rfl ?_|refine K1.C 0 [] (r2) rfl ?_|refine aI.rounds 4 ?_|fail)
  all_goals(conv=>whnf)
  refine⟨[(43,0),(52,1),(41,2),(42,3),(44,10),(47,11),(50,12)],rfl,rfl, ?_,rfl,rfl,bY⟩;repeat' (first|exact trivial|refine⟨dB rfl, ?_⟩)
 ·have r0:=hr 0 d_;have r1:=hr 1 d_;have r2:=hr 2 d_;have r3:=hr 3 d_;clear hr;subst hn;dsimp only[wH,List.range,List.range.loop,List.map,wP,wN,List.append_nil];refine K1.M 0x4038103ff func14 40 ?_;repeat' ((conv=>whnf);first|refine K1.u ?_|refine K1.C 0 [] (hh) rfl ?_|refine K1.C 0 [] (hl) rfl ?_|refine K1.C 0 [] (r0) rfl ?_|refine K1.C 0 [] (r1) rfl ?_|refine K1.C 0 [] (r2) rfl ?_|refine K1.C 0 [] (r3) rfl ?_|refine aI.rounds 5 ?_|fail)
  all_goals(conv=>whnf)
  refine⟨[(43,0),(55,1),(41,2),(42,3),(44,10),(47,11),(50,12),(53,13)],rfl,rfl, ?_,rfl,rfl,bY⟩;repeat' (first|exact trivial|refine⟨dB rfl, ?_⟩)
 ·have r0:=hr 0 d_;have r1:=hr 1 d_;have r2:=hr 2 d_;have r3:=hr 3 d_;have r4:=hr 4 d_;clear hr;subst hn;dsimp only[wH,List.range,List.range.loop,List.map,wP,wN,List.append_nil];refine K1.M 0x4038103ff func14 40 ?_;repeat' ((conv=>whnf);first|refine K1.u ?_|refine K1.C 0 [] (hh) rfl ?_|refine K1.C 0 [] (hl) rfl ?_|refine K1.C 0 [] (r0) rfl ?_|refine K1.C 0 [] (r1) rfl ?_|refine K1.C 0 [] (r2) rfl ?_|refine K1.C 0 [] (r3) rfl ?_|refine K1.C 0 [] (r4) rfl ?_|refine aI.rounds 6 ?_|fail)
  all_goals(conv=>whnf)
  refine⟨[(43,0),(58,1),(41,2),(42,3),(44,10),(47,11),(50,12),(53,13),(56,14)],rfl,rfl, ?_,rfl,rfl,bY⟩;repeat' (first|exact trivial|refine⟨dB rfl, ?_⟩)
theorem afw{z:Value}{s:Nat}(hz:z.cells.size=s)(h1:∀u∈z.cells.toList,u.oneCell'=true):∀m,(List.replicate m z.cells.toList).flatten.length=m*s/\ ∀u∈(List.replicate m z.cells.toList).flatten,u.oneCell'=true
 |0=>⟨s_,λ u h=>by simp at h⟩
 |m+1=>by
  obtain⟨a,b⟩:=afw hz h1 m;rw[aoK,List.flatten_cons];refine⟨by rw[am0,a,anC,hz,aor];omega,λ u hu=>?_⟩;rcases am6.1 hu with h|h
  ·exact h1 u h
  ·exact b u h
theorem XY{t e ty:TypeId}{z:Value}{s:Nat}(hu:prog.underlying t=some (.slice e))(hz:(zeroValue e).run prog w= .ok z w)(hzs:z.cells.size=s)(h1:∀u∈z.cells.toList,u.oneCell'=true){b o m c:Nat}(hm:0<m)
  (hc:∀j,j<m*s->(w.cell? ⟨b,o+j,none⟩).isSome=true)(hf:∀j,j<m*s->w.frozen? ⟨b,o+j,none⟩=false):
  (Builtin.clear_ #[t] ty #[.slice (some ⟨b,o,none⟩) m c]).run prog w= .ok (.tuple #[]) (w.setCells b o (List.replicate m z.cells.toList).flatten):=by
 obtain⟨z1,z2⟩:=afw hzs h1 m;have hst:=run_storeCells_cells (P:=prog) b o (List.replicate m z.cells.toList).flatten 0 w (by rw[z1];simpa using hc) (by rw[z1];simpa using hf) z2;simp only[apg]at hst;exact rV hu hz hzs hm hst
def fl0:Value:= .agg #[.int .i64 0,.slice none 0 0]
theorem ahO(w:World):(zeroValue 155).run prog w= .ok fl0 w:=YX (by kernel_rfl) w
theorem XZ(g cap n i:Nat)(cur:Array Value)(w:World)(hg:w.heap[g]? =some (.cells cur 155 (0,0)))(hn:n<=cap)(hcm:cap<=maxLen)(hcs:cur.size=cap*2)(hi:i<n)(h1:∀u∈cur.toList.take (n*2),u.oneCell'=true):
  Calls prog 122 #[.slice (some ⟨g,0,none⟩) n cap,.int .i64 (i:Int),.int .i64 ((i:Int)+1)] w λ e w'=>e= .returned (.slice (some ⟨g,0,none⟩) (n-1) cap)/\dG (λ b=>b=g) w.heap.size w w'/\
   ∃cur',w'.heap[g]? =some (.cells cur' 155 (0,0))/\cur'.size=cur.size/\cur'.toList.take ((n-1)*2)=cur.toList.take (i*2)++(cur.toList.drop ((i+1)*2)).take ((n-(i+1))*2):=by
 obtain⟨i0,hi0,hz0,hs0⟩:∃i0:TypeInfo,prog.info? 155=some i0/\i0.zero=some fl0/\i0.size=2:=⟨_,rfl,rfl,rfl⟩;have hcap:cap<=9223372036854775807:=by unfold maxLen at hcm;omega
 have hR:w.drew.rowIs g 155 (cap*2) (λ j=>cur[j]?.getD default):=⟨cur,hg,hcs,λ i hi=>by show cur[i]? =some (cur[i]?.getD default);rw[aoT o_];rfl⟩;obtain⟨news,hnews⟩:∃news,news=(cur.toList.drop ((i+1)*2)).take ((n-(i+1))*2):=⟨_,rfl⟩;have hlen:news.length=(n-(i+1))*2:=by rw[hnews,am5,anl,anC,hcs];omega
 have hget:∀t u,news[t]? =some u->cur[(i+1)*2+t]? =some u:=by
  intro t u h;rw[hnews,anU]at h;split at h
  ·rw[aop,aod]at h;exact h
  ·cases h
 obtain⟨A,hA,hsrc⟩:∃A:Addr,(if cap=i+1 then some (⟨g,0,none⟩:Addr)else some ⟨g,(i+1)*2,none⟩)=some A/\Hid (∀t u,news[t]? =some u->w.drew.cell? (A.add t)=some u):=by
  by_cases h:cap=i+1
  ·refine⟨⟨g,0,none⟩,by simp[h],λ t u hu=>?_⟩;have h0:news.length=0:=by rw[hlen];omega
   rw[an9.1 h0]at hu;simp at hu
  ·refine⟨⟨g,(i+1)*2,none⟩,by simp[h],λ t u hu=>?_⟩;have hc:=hget t u hu;have ht:(i+1)*2+t<cap*2:=by rw[<-hcs];exact(anQ.1 hc).1
   rw[add_lit,(lQ hR ht).1,hc];rfl
 have s1:Hid (news.length=(n-(i+1))*2):=hlen;have s2:Hid (∀u∈news,u.oneCell'=true):=by
  intro u hu;rw[hnews]at hu;obtain⟨t,ht,rfl⟩:=anR hu;have h2:=hget t _ (by rw[hnews];exact amX ht);rw[am5,anl,anC,hcs]at ht;refine h1 _ (List.mem_iff_getElem?.2 ⟨(i+1)*2+t, ?_⟩);rw[anU,if_pos o_,aod];exact h2
 have s3:Hid (∀t,t<news.length->(w.drew.cell? ⟨g,0+i*2+t,none⟩).isSome=true/\w.drew.frozen? ⟨g,0+i*2+t,none⟩=false):=by
  intro t ht;rw[hlen]at ht;have:=lQ hR (j:=0+i*2+t) o_;exact⟨by rw[this.1];rfl,this.2⟩
 obtain⟨W1,hW1⟩:∃W1,W1=w.drew.setCells g (0+i*2) news:=⟨_,rfl⟩;have hR1:=Go.rowIs_setCells news (0+i*2) w.drew _ hR;have hB1:dG (λ b=>b=g) w.heap.size w W1:=by rw[hW1];exact sJ g w news _ _ ⟨rfl,rfl,rfl,ani _,λ _ _ _=>rfl⟩
 rw[<-hW1]at hR1;have hcl:∀ty,(Builtin.clear_ #[145] ty #[.slice (some ⟨g,(i+(n-(i+1)))*2,none⟩) (n-(i+(n-(i+1)))) (cap-(i+(n-(i+1))))]).run prog W1= .ok (.tuple #[]) (W1.setCells g ((i+(n-(i+1)))*2) (List.replicate (n-(i+(n-(i+1)))) fl0.cells.toList).flatten):=
  λ ty=>XY (s:=2) Tryz.underlying145 (ahO W1) rfl d_ o_ (λ j hj=>by rw[(lQ hR1 o_).1];rfl) (λ j hj=>(lQ hR1 o_).2)
 obtain⟨W2,hW2⟩:∃W2,W2=W1.setCells g ((i+(n-(i+1)))*2) (List.replicate (n-(i+(n-(i+1)))) fl0.cells.toList).flatten:=⟨_,rfl⟩;have hR2:=Go.rowIs_setCells (List.replicate (n-(i+(n-(i+1)))) fl0.cells.toList).flatten ((i+(n-(i+1)))*2) W1 _ hR1;have hB2:dG (λ b=>b=g) w.heap.size w W2:=by rw[hW2];exact sJ g w _ _ _ hB1
 rw[<-hW2]at hR2 hcl;have hfin:∃cur',W2.heap[g]? =some (.cells cur' 155 (0,0))/\cur'.size=cur.size/\cur'.toList.take ((n-1)*2)=cur.toList.take (i*2)++news:=by
  obtain⟨c,c1,c2,c3⟩:=hR2;refine⟨c,c1,o_,aos λ t=>?_⟩;rw[anU];by_cases ht:t<(n-1)*2
  ·rw[if_pos ht,aod,c3 t o_];dsimp only;rw[if_neg o_];by_cases h2:t<i*2
   ·rw[if_neg o_,anq (by rw[am5,anC];omega),anU,if_pos h2,aod,aoT o_];rfl
   ·rw[if_pos o_,anI (by rw[am5,anC];omega),am5,anC,show t-(0+i*2)=t-min (i*2) cur.size by omega,amX o_];rfl
  ·rw[if_neg ht,anz (by rw[am0,am5,anC];omega)]
 have hW:Hid (W1=w.drew.setCells g (0+i*2) news):=hW1;have hnk:i+(n-(i+1))<=cap:=o_
 have hn1:n-1=i+(n-(i+1)):=o_
 have hkc:i+1<=cap:=o_
 have hic:i<=cap:=o_
 have hj0:0<=(i:Int)+1:=o_
 have hj1:(i:Int)+1<=(n:Int):=o_
 have hne:¬ ((i:Int)=(i:Int)+1):=o_
 rw[<-hnews];clear hW1 hR hR1 hR2 hB1 hg hcs h1 hget hlen hW2 hi0 hz0;refine Calls.mono (R:=λ e w'=>e= .returned (.slice (some ⟨g,0,none⟩) (i+(n-(i+1))) cap)/\w'=W2) ?_ (by rintro e w' ⟨rfl,rfl⟩;exact⟨by rw[hn1],hB2,hfin⟩);clear hB2 hfin;obtain⟨i0,hi0,hs0⟩:∃i0:TypeInfo,prog.info? 155=some i0/\i0.size=2:=⟨_,rfl,rfl⟩;go_enter func122,Tryz.ntmps122;go_wp2_with fail;go_region_law (refine step_append_room rfl (.tmp 22) (.tmp 25) 145 rfl 155 i0 2 Tryz.underlying145 hi0 hs0 g 0 i cap (by simp[Act.eval,Act.put]) A (n-(i+1)) (cap-(i+1)) news (by simp[Act.eval,Act.put]) s1.out hsrc.out s2.out o_ s3.out ?_;rw[<-hW.out]);go_wp2;go_ret;exact⟨rfl,rfl⟩
theorem ajX{keep:Nat->Prop}{x:AV}{u:Value}(h:PC w keep x u):u.oneCell'=true:=by
 cases h with
 |v _ h1=>exact h1
 |sl=>rfl
theorem KU{α:Type}{c:α->List AV}{s:Nat}(hc:∀e,(c e).length=s):∀(i:Nat)(l:List α),i<l.length->(l.eraseIdx i).flatMap c=(l.flatMap c).take (i*s)++(l.flatMap c).drop ((i+1)*s)
 |_,[],h=>absurd h s_
 |0,x::l,_=>by
  rw[List.eraseIdx_cons_zero,anN,apj,List.take_zero,ano,Nat.one_mul,show s=(c x).length from(hc x).symm,aoc]
 |i+1,x::l,h=>by
  rw[aoZ,anN,KU hc i l (by simpa using h),anN,show(i+1)*s=(c x).length+i*s by rw[hc,aor];omega,List.take_length_add_append,show(i+1+1)*s=(c x).length+(i+1)*s by rw[hc];simp only[aor];omega,List.drop_length_add_append,anm];congr 3;rw[hc,aor];omega
theorem ajY(i:Nat)(l:List (Int×List UInt8))(hi:i<l.length):aj prog 122 [(0,xX l)] [.own 0,.v (.int .i64 (i:Int)),.v (.int .i64 ((i:Int)+1))] (.own 1) [(1,xX (l.eraseIdx i))]:=by
 refine⟨⟨_,_,func122,rfl,rfl⟩,λ w keep ρ args hkp jg hnd hbl hargs=>?_⟩;obtain⟨us,hown,_,hfl,_,ha⟩:=jg _ (amZ.2 rfl);obtain⟨u,v,x,rfl,hu,hv,hx⟩:=Kr hargs;have hu:u=ρ 0:=Eq.trans (show u=dD (ρ 0)from hu) (dY hown);have hv:v= .int .i64 (i:Int):=hv;have hx:x= .int .i64 ((i:Int)+1):=hx;subst hu hv hx;have hlen:∀e:Int×List UInt8,(flC e).length=2:=λ _=>rfl;have hul:us.length=l.length*2:=hown.1;have hfe:flat l.length (flF l)=l.flatMap flC:=uY flC l;have hel:(l.eraseIdx i).length=l.length-1:=by rw[List.length_eraseIdx,if_pos hi]
 have hfd:flat (l.eraseIdx i).length (flF (l.eraseIdx i))=(flat l.length (flF l)).take (i*2)++(flat l.length (flF l)).drop ((i+1)*2):=by rw[hfe,<-KU hlen i l hi];exact uY flC _
 rcases hown.2 with⟨hv,hn⟩|⟨g,cap,cur,hv,_,hg,hncap,hcm,hcs,htk⟩
 ·exact absurd hi o_
 ·rw[show(ρ 0)= .slice (some ⟨g,0,none⟩) l.length cap from hv];have hone:∀u∈us,u.oneCell'=true:=λ u hu=>by
   obtain⟨q,hq⟩:=List.mem_iff_getElem?.1 hu;have hl:q<(flat l.length (flF l)).length:=by rw[ha.1];exact(anc.1 hq).1
   exact ajX (ha.2 q _ u (amX hl) hq)
  refine(XZ g cap l.length i cur w hg hncap hcm hcs hi (by rw[htk];exact hone)).mono ?_;rintro e w' ⟨rfl,hB,cur',hg',hcs',ajL⟩;have hb:g∈ah ρ [(0,xX l)]:=aN.2 ⟨_,amZ.2 rfl,by rw[show ρ 0= .slice (some ⟨g,0,none⟩) l.length cap from hv];exact amW⟩;let ρ':Nat->Value:=λ _=> .slice (some ⟨g,0,none⟩) (l.length-1) cap;have hbs:ah ρ' [(1,xX (l.eraseIdx i))]=[g]:=rfl;have hbo:∀b,b∈ah ρ' [(1,xX (l.eraseIdx i))]->b=g:=λ b h=>by rw[hbs]at h;exact amZ.1 h
  refine⟨_,ρ',rfl,⟨hB.os,hB.tape,hB.output,hB.size,λ j hj hM=>hB.block j hj (by rintro rfl;exact hM hb)⟩,λ p hp q hq h=>?_,rfl,λ p hp=>?_,by rw[hbs];exact an1.2 ⟨aol,List.nodup_nil⟩,λ b hbm=>?_⟩
  ·obtain rfl:=amZ.1 hp;obtain rfl:=amZ.1 hq;cases h
  ·obtain rfl:=amZ.1 hp;have hcu:cur'.toList.take ((l.length-1)*2)=us.take (i*2)++us.drop ((i+1)*2):=by
    rw[ajL,<-htk,ape,List.drop_take,aow o_,show l.length*2-(i+1)*2=(l.length-(i+1))*2 by omega]
   refine⟨us.take (i*2)++us.drop ((i+1)*2),⟨by rw[am0,am5,anl,hul,hel];omega,.inr ⟨g,cap,cur',by rw[hel];rfl,ane _,hg',o_,hcm,by rw[hcs',hcs], ?_⟩⟩,d_,λ _ _=>rfl,λ h=>(by cases h), ?_⟩
   ·rw[hel,hcu]
   ·rw[hfd];refine((ha.take' (i*2)).app (ha.drop' ((i+1)*2))).imp λ _ _=>PC.mono (λ b kb=>?_) λ b kb=>?_
    ·have h1:=hkp b kb;exact⟨aon h1 hB.size,λ _=> .inl kb,λ h=>by
      rw[hbo b h]at kb;exact(hbl g hb).2 kb⟩
    ·exact hB.block b (hkp b kb) (by rintro rfl;exact(hbl b hb).2 kb)
  ·rw[hbo b hbm];exact .inr hb
theorem abC(l:List (Int×List UInt8))(hl:l.length<=1000000)(i:Nat)(hi:i<l.length)(hb:(l.getD i default).2.length<=1000000000):
  aj prog 75 [(0,.obs (Ig l))] [.box 0 0,.v (.int .i64 (i:Int))] (.aZ [.agg (flC (l.getD i default)),.v (.int .i64 0)]) [(0,.obs (Ig l))]:=by
 refine KT 1 (ho:=[]) ⟨_,_,func75,rfl,rfl⟩ ?_ rfl rfl;have hc:=(rO 0 (l.getD i default).2 (bg.bytes _) rfl hb).thaw;have UO:Nat.ble ((i:Int).toNat+1) l.length=true:=an0 o_;rw[show l.getD i default=l.getD (i:Int).toNat default from rfl]at hc⊢;dsimp only[lnH,lnB,xX,List.append_nil,flC];refine K1.M 0x20073 func75 40 ?_;repeat' ((conv=>whnf);first|refine K1.u ?_|refine K1.P1 hc ?_|refine K1.o (id:=4) (nN [0,1,2,3] [(4,some [3]),(5,none),(6,some [3,1]),(7,none)]) ?_|fail)
 all_goals(conv=>whnf)
 exact iF []
theorem KW(l:List (Int×List UInt8))(hl:l.length<=1000000)(i:Int)(hi:i<0\/(l.length:Int)<=i):
  aj prog 75 [(0,.obs (Ig l))] [.box 0 0,.v (.int .i64 i)] (.aZ [.agg [.v (.int .i64 0),.v (.slice none 0 0)],.v (.int .i64 24)]) [(0,.obs (Ig l))]:=by
 refine KT 1 (ho:=[]) ⟨_,_,func75,rfl,rfl⟩ ?_ rfl rfl;dsimp only[lnH,lnB,xX,List.append_nil];rcases Int.lt_or_le i 0 with h0|h0
 ·clear hi;refine K1.M 0x20073 func75 40 ?_;repeat' ((conv=>whnf);first|refine K1.u ?_|fail)
  all_goals(conv=>whnf)
  exact iF []
 ·have hi:(l.length:Int)<=i:=o_
  refine K1.M 0x20073 func75 40 ?_;repeat' ((conv=>whnf);first|refine K1.u ?_|fail)
  all_goals(conv=>whnf)
  exact iF []
theorem X0(l:List (Int×List UInt8))(hl:l.length<=1000000)(i:Int)(hi:i<0\/(l.length:Int)<=i):
  aj prog 74 [(0,.obs (Ig l))] [.box 0 0,.v (.int .i64 i)] (.aZ [.agg [.v (.int .i64 0),.v (.slice none 0 0)],.v (.int .i64 24)]) [(0,.obs (Ig l))]:=by
 have hc:=KW l hl i hi;clear hi;refine K1.M 0x80f3 func74 40 ?_;repeat' ((conv=>whnf);first|refine K1.u ?_|refine K1.C 1 [(0,_)] (hc) rfl ?_|fail)
 all_goals(conv=>whnf)
 exact iF []
theorem abD(l:List (Int×List UInt8))(hl:l.length<=1000000)(i:Nat)(hi:i<l.length)(hb:(l.getD i default).2.length<=1000000000):
  aj prog 74 [(0,.obs (Ig l))] [.box 0 0,.v (.int .i64 (i:Int))] (.aZ [.agg (flC (l.getD i default)),.v (.int .i64 0)]) [(0,.obs (Ig (l.eraseIdx i)))]:=by
 refine KT 2 (ho:=[]) ⟨_,_,func74,rfl,rfl⟩ ?_ rfl rfl;have hc:=(rO 0 (l.getD i default).2 (bg.bytes _) rfl hb).thaw;have hd:=ajY i l hi;have UO:Nat.ble ((i:Int).toNat+1) l.length=true:=an0 o_;rw[show l.getD i default=l.getD (i:Int).toNat default from rfl]at hc⊢;dsimp only[lnH,lnB,xX,List.append_nil,flC]at hd⊢;refine K1.M 0x80f3 func74 40 ?_;repeat' ((conv=>whnf);first|refine K1.u ?_|refine K1.P1 hc ?_|refine K1.C 1 [(0,_)] (hd) rfl ?_|refine K1.I 0x20073 func75 ?_|refine K1.o (id:=4) (nN [0,1,2,3] [(4,some [3]),(5,none),(6,some [3,1]),(7,none)]) ?_|fail)
 all_goals(conv=>whnf)
 exact iF [(44,2)]
end Go.Proofs.YtkimgljckickcaaGreat
