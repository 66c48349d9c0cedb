/-
  Contracts of the walk:HbQ,HbR,HbY,HbX,HyE,HyF,HyGp,WcJ.
-/
import Derived.Test.YtkimgljckickcaaGreatRa31
import Derived.Test.YtkimgljckickcaaGreatRa30
import Derived.Test.YtkimgljckickcaaGreatRa23
import Derived.Test.YtkimgljckickcaaGreatRa27
import Derived.Test.YtkimgljckickcaaGreatRa33
set_option maxHeartbeats 16000000
set_option maxRecDepth 100000
set_option linter.unusedVariables false
set_option linter.unusedSimpArgs false
namespace Go.Proofs.YtkimgljckickcaaGreat
open Go.RowKit
open Go.Proofs.Tryz
variable{y:CP}{h:Hb}{to u w:Int}{ev l:List Ev}{k q r:Nat}{F:Nat->List AV}{p:Pt}{x:Rc}{c:aS}{s:jU}
theorem Vz(h:Hb)(hp:qA h.p)(p':Pt)(hp':qA p')(r:Nat)(u:Int)(c:aS)(ev:List Ev)(qB:r<5)(hack:FV h.c.w h.p p' r c)(hn:p'.told.getD r aV=h.p.told.getD r aV):
  aj prog 148 (ni h ()) [.box 0 0,MB 5 r u c ev] (.v (.int .i64 0)) (ni (h.gB p') ()):=by
 have hs:=dV h.c.w h.p hp;have hs':=dV h.c.w p' hp';obtain⟨up,cf,p,d⟩:=h;dsimp only at hs hs' hack hn;rcases AX qB with rfl|rfl|rfl|rfl|rfl;all_goals
  dsimp only[FV,ni,sS,hbB,pO,gX,MB,Ie,qJ,Hb.gB,Rc.av,Rc.cs,Rc.nilA,yg]at hs hs' hack⊢;refine K1.M 0x400400007b func148 40 ?_;repeat' ((conv=>whnf);first|refine aX.fin rfl ?_|refine aX.pick _ _ rfl rfl ?_|refine aX.one _ _ rfl rfl rfl ?_|refine aX.fork _ _ _ _ rfl rfl rfl rfl ?_ ?_|refine aX.mD _ _ _ _ _ _ rfl rfl rfl rfl rfl ?_ ?_ ?_|refine K1.u ?_|refine K1.C 1 [(0,_)] (hack) rfl ?_|refine K1.C 1 [(0,_)] (hs) rfl ?_|refine K1.C 1 [(0,_)] (hs') rfl ?_|refine mJ.mk d_ ?_|(refine fU.akT 274945015931 (id:=1) bU (dS bU _) (ahM qB up cf p d u c ev) iy (by kernel_rfl) 11 _ rfl rfl ?_ ?_<;>dsimp only[ahM])|exact⟨[(41,80)],dZ.mk' _ _ _ _ rfl gQ nM rfl⟩|exact⟨[(42,80)],dZ.mk' _ _ _ _ rfl gQ nM rfl⟩|refine ZI.mk (aS.vs _) (aS.vs _) _ rfl rfl (Fq _ _) ?_|refine K1.o (id:=2) (nN [0,1,2,3,4,5,6,7] [(8,some [7,5,3,1]),(9,none)]) ?_|refine K1.o (id:=5) (nN [0,1,2,3,6,7,9] ((4,some [3,1])::nN [5,8,10] [])) ?_|refine K1.o (id:=7) (nN [0,1,2,3,4,5,6,7] [(8,some [6,4,1]),(9,none)]) ?_|refine K1.z ?_|refine K1.y (λ _=>?_) (λ _=>?_)|fail)
  all_goals(conv=>whnf)
  exact iF []
theorem FY(h _h':Hb)(hp:qA h.p)(hup:h.up=true){n:Nat}(p':Pt)(hp':qA p')(r:Nat)(u _m _y:Int)(c:aS)(ev:List Ev)(_w:List UInt8)(qB:r<5)(hft:qL n F 5 r u c ev 0)(hrn:(r:Int)<h.c.n)(hack:aj prog 148 (ni h ()) [.box 0 0,MB 5 r u c ev] (.v (.int .i64 0)) (ni (h.gB p') ())):
  aj prog 99 (ni h ()) [.box 0 0,.sl 1 n true F] (Ie 0) (ni (h.gB p') ()):=by
 have hs:=dV h.c.w h.p hp;have hs':=dV h.c.w p' hp';obtain⟨up,cf,p,d⟩:=h;dsimp only at hs hs' hup hft hrn hack;subst hup;rcases AX qB with rfl|rfl|rfl|rfl|rfl;all_goals
  dsimp only[qL,FV,vV,xG,qI,qH,writeT,qJ,ni,sS,hbB,pO,gX,bn,MB,Ie,EC,Hb.gB,Rc.av,Rc.cs,Rc.nilA,aV,Pt.lenOf,yg,List.cons_append,List.nil_append]at hs hs' hft hrn hack⊢;refine K1.M 0x20203402041f3 func99 40 ?_;repeat' ((conv=>whnf);first|refine K1.u ?_|refine K1.P1 hft ?_|refine K1.C 1 [(0,_)] (hs) rfl ?_|refine K1.C 99 [(0,_),(8,_),(10,_),(9,_)] (hack) rfl ?_|refine mJ.mk d_ ?_|refine K1.z ?_|refine K1.y (λ _=>?_) (λ _=>?_)|fail)
  all_goals(conv=>whnf)
  exact iF []
theorem afz(h h':Hb)(hp:qA h.p)(p':Pt)(hp':qA p')(r:Nat)(u:Int)(c:aS)(ev:List Ev)(qB:r<5)(y:Int)(hack:FV h.c.w h.p p' r c)(hn:p'.told.getD r aV≠h.p.told.getD r aV)(hw:qJ (h.gB p') h' ⟨6,r,0,c,[]⟩ y):
  aj prog 148 (ni h ()) [.box 0 0,MB 5 r u c ev] (.v (.int .i64 y)) (sS 11 h'):=by
 have hs:=dV h.c.w h.p hp;have hs':=dV h.c.w p' hp';obtain⟨up,cf,p,d⟩:=h;dsimp only at hs hs' hack hn;rcases AX qB with rfl|rfl|rfl|rfl|rfl;all_goals
  dsimp only[FV,ni,sS,hbB,pO,gX,MB,Ie,qJ,Hb.gB,Rc.av,Rc.cs,Rc.nilA,yg]at hs hs' hack hw⊢;refine K1.M 0x400400007b func148 40 ?_;repeat' ((conv=>whnf);first|refine aX.fin rfl ?_|refine aX.pick _ _ rfl rfl ?_|refine aX.one _ _ rfl rfl rfl ?_|refine aX.fork _ _ _ _ rfl rfl rfl rfl ?_ ?_|refine aX.mD _ _ _ _ _ _ rfl rfl rfl rfl rfl ?_ ?_ ?_|refine K1.u ?_|refine K1.C 1 [(0,_)] (hack) rfl ?_|refine K1.C 1 [(0,_)] (hs) rfl ?_|refine K1.C 1 [(0,_)] (hs') rfl ?_|refine K1.C 11 [(0,_),(8,_),(10,_),(9,_)] (hw) rfl ?_|refine mJ.mk d_ ?_|(refine fU.akT 274945015931 (id:=1) bU (dS bU _) (ahM qB up cf p d u c ev) iy (by kernel_rfl) 11 _ rfl rfl ?_ ?_<;>dsimp only[ahM])|exact⟨[(41,80)],dZ.mk' _ _ _ _ rfl gQ nM rfl⟩|exact⟨[(42,80)],dZ.mk' _ _ _ _ rfl gQ nM rfl⟩|refine ZI.mk (aS.vs _) (aS.vs _) _ rfl rfl (Fq _ _) ?_|refine K1.o (id:=2) (nN [0,1,2,3,4,5,6,7] [(8,some [7,5,3,1]),(9,none)]) ?_|refine K1.o (id:=5) (nN [0,1,2,3,6,7,9] ((4,some [3,1])::nN [5,8,10] [])) ?_|refine K1.o (id:=7) (nN [0,1,2,3,4,5,6,7] [(8,some [6,4,1]),(9,none)]) ?_|refine K1.z ?_|refine K1.y (λ _=>?_) (λ _=>?_)|fail)
  all_goals(conv=>whnf)
  exact iF [(83,11)]
theorem MF(h h':Hb)(hp:qA h.p)(hup:h.up=true){n:Nat}(p':Pt)(hp':qA p')(r:Nat)(u _m y:Int)(c:aS)(ev:List Ev)(_w:List UInt8)(qB:r<5)(hft:qL n F 5 r u c ev 0)(hrn:(r:Int)<h.c.n)(hack:aj prog 148 (ni h ()) [.box 0 0,MB 5 r u c ev] (.v (.int .i64 y)) (sS 11 h')):
  aj prog 99 (ni h ()) [.box 0 0,.sl 1 n true F] (Ie y) (sS 11 h'):=by
 have hs:=dV h.c.w h.p hp;have hs':=dV h.c.w p' hp';obtain⟨up,cf,p,d⟩:=h;dsimp only at hs hs' hup hft hrn hack;subst hup;rcases AX qB with rfl|rfl|rfl|rfl|rfl;all_goals
  dsimp only[qL,FV,vV,xG,qI,qH,writeT,qJ,ni,sS,hbB,pO,gX,bn,MB,Ie,EC,Hb.gB,Rc.av,Rc.cs,Rc.nilA,aV,Pt.lenOf,yg,List.cons_append,List.nil_append]at hs hs' hft hrn hack⊢;refine K1.M 0x20203402041f3 func99 40 ?_;repeat' ((conv=>whnf);first|refine K1.u ?_|refine K1.P1 hft ?_|refine K1.C 1 [(0,_)] (hs) rfl ?_|refine K1.C 11 [(0,_),(8,_),(10,_),(9,_)] (hack) rfl ?_|refine mJ.mk d_ ?_|refine K1.z ?_|refine K1.y (λ _=>?_) (λ _=>?_)|fail)
  all_goals(conv=>whnf)
  exact iF [(41,11)]
theorem VA(most:Int)(s0:jU)(t0 c:aS):aj prog 200 [(0,.obs (BL most ⟨[s0],[t0]⟩))] [.box 0 0,.v (.int .i64 ((0:Nat):Int)),.agg (yg c)] (.aZ [.v (.slice none 0 0),.v (.int .i64 0)]) [(0,.obs (BL most ⟨[s0],[t0]⟩))]:=by
 refine JU (ho:=[]) ⟨_,_,func200,rfl,rfl⟩ ?_ rfl;rw[am2];dsimp only[uP,ptB,D8,ptrs,shs,bn,yg];refine K1.M 0x83c47e7 func200 40 ?_;repeat' ((conv=>whnf);first|refine K1.u ?_|refine K1.I 0x13 func171 ?_|refine aI.Au 20 6 rfl ?_|refine mJ.mk d_ ?_|refine nR.yes d_ ?_|refine nR.no d_ ?_|refine K1.z ?_|refine K1.y (λ _=>?_) (λ _=>?_)|fail)
 all_goals(conv=>whnf)
 exact iF []
def Q5(most:Int)(p:Pt)(r:Nat)(c:aS):Prop:=aj prog 200 [(0,.obs (BL most p))] [.box 0 0,.v (.int .i64 (r:Int)),.agg (yg c)] (.aZ [.v (.slice none 0 0),.v (.int .i64 0)]) [(0,.obs (BL most p))]
theorem KX(h _h':Hb)(hp:qA h.p)(hup:h.up=true){n:Nat}(p':Pt)(hp':qA p')(r:Nat)(u _m _y:Int)(c:aS)(ev:List Ev)(w:List UInt8)(qB:r<5)(hft:qL n F 3 r u c ev 0)(hrn:(r:Int)<h.c.n)(hf:Q5 h.c.w h.p r c)(hre:qI ⟨4,r,0,aV,[]⟩ w):
  aj prog 99 (ni h ()) [.box 0 0,.sl 1 n true F] (EC r) (ni h ()++[(1,gX w)]):=by
 have hs:=dV h.c.w h.p hp;have hs':=dV h.c.w p' hp';obtain⟨up,cf,p,d⟩:=h;dsimp only at hs hs' hup hft hrn hf hre;subst hup;rcases AX qB with rfl|rfl|rfl|rfl|rfl;all_goals
  dsimp only[Q5,qL,FV,vV,xG,qI,qH,writeT,qJ,ni,sS,hbB,pO,gX,bn,MB,Ie,EC,Hb.gB,Rc.av,Rc.cs,Rc.nilA,aV,Pt.lenOf,yg,List.cons_append,List.nil_append]at hs hs' hft hrn hf hre⊢;refine K1.M 0x20203402041f3 func99 40 ?_;repeat' ((conv=>whnf);first|refine K1.u ?_|refine K1.P1 hft ?_|refine K1.C 1 [(0,_)] (hs) rfl ?_|refine K1.C 1 [(0,_)] (hf) rfl ?_|refine K1.F1 (hre _) ?_|refine mJ.mk d_ ?_|refine K1.I 0x4001fb func147 ?_|refine K1.o (id:=1) (nN [0,1,2,3,4,5,6,7] ((8,some [7,5,3,1])::nN [9,10,11,12,13] [])) ?_|refine K1.z ?_|refine K1.y (λ _=>?_) (λ _=>?_)|fail)
  all_goals(conv=>whnf)
  exact iF [(43,1)]
theorem Q7(h:Hb)(hup:h.up=false){n:Nat}:
  aj prog 99 (ni h ()) [.box 0 0,.sl 1 n true F] (Ie 18) (ni h ()):=by
 obtain⟨up,cf,p,d⟩:=h;dsimp only at hup;subst hup;dsimp only[ni,hbB,pO,gX,Ie];refine K1.M 0x20203402041f3 func99 40 ?_;repeat' ((conv=>whnf);first|refine K1.u ?_|refine K1.z ?_|refine K1.y (λ _=>?_) (λ _=>?_)|fail)
 all_goals(conv=>whnf)
 exact iF []
theorem VB(h:Hb)(hup:h.up=true)(x k r u:Int)(c:aS)(ev:List Ev){n:Nat}(hft:aF prog 145 [.sl 1 n true F] (.aZ [MB k r u c ev,.v (.int .i64 x)]) [])(hx:x≠0):
  aj prog 99 (ni h ()) [.box 0 0,.sl 1 n true F] (Ie x) (ni h ()):=by
 obtain⟨up,cf,p,d⟩:=h;dsimp only at hup;subst hup;dsimp only[ni,hbB,pO,gX,Ie,MB]at hft⊢;refine K1.M 0x20203402041f3 func99 40 ?_;repeat' ((conv=>whnf);first|refine K1.u ?_|refine K1.P1 hft ?_|refine K1.z ?_|refine K1.y (λ _=>?_) (λ _=>?_)|fail)
 all_goals(conv=>whnf)
 exact iF []
theorem abG(h:Hb)(hup:h.up=true)(k r u:Int)(c:aS)(ev:List Ev){n:Nat}(hft:aF prog 145 [.sl 1 n true F] (.aZ [MB k r u c ev,.v (.int .i64 0)]) [])(hr:h.c.n<=r):
  aj prog 99 (ni h ()) [.box 0 0,.sl 1 n true F] (Ie 23) (ni h ()):=by
 obtain⟨up,cf,p,d⟩:=h;dsimp only at hup hr;subst hup;dsimp only[ni,hbB,pO,gX,Ie,MB]at hft⊢;refine K1.M 0x20203402041f3 func99 40 ?_;repeat' ((conv=>whnf);first|refine K1.u ?_|refine K1.P1 hft ?_|refine K1.z ?_|refine K1.y (λ _=>?_) (λ _=>?_)|fail)
 all_goals(conv=>whnf)
 exact iF []
theorem Q8(h:Hb)(hup:h.up=true)(k r u:Int)(c:aS)(ev:List Ev){n:Nat}(hft:aF prog 145 [.sl 1 n true F] (.aZ [MB k r u c ev,.v (.int .i64 0)]) [])(hr:r<h.c.n)(h1:k≠1)(h3:k≠3)(h5:k≠5):
  aj prog 99 (ni h ()) [.box 0 0,.sl 1 n true F] (Ie 23) (ni h ()):=by
 obtain⟨up,cf,p,d⟩:=h;dsimp only at hup hr;subst hup;dsimp only[ni,hbB,pO,gX,Ie,MB]at hft⊢;refine K1.M 0x20203402041f3 func99 40 ?_;repeat' ((conv=>whnf);first|refine K1.u ?_|refine K1.P1 hft ?_|refine K1.z ?_|refine K1.y (λ _=>?_) (λ _=>?_)|fail)
 all_goals(conv=>whnf)
 exact iF []
def Res:Type:=Int ⊕ (Nat×List UInt8)
def Zv(h:Hb)(z:Rc):Hb×Res:=
 if(pushP h.c.w z.r.toNat z.ev h.p).2.2≠0 then(h,.inl (pushP h.c.w z.r.toNat z.ev h.p).2.2)
 else if(pushP h.c.w z.r.toNat z.ev h.p).2.1=h.p.lenOf z.r.toNat then(h.gB (pushP h.c.w z.r.toNat z.ev h.p).1,.inr (z.r.toNat,aY ⟨2,z.r,(pushP h.c.w z.r.toNat z.ev h.p).2.1,aV,[]⟩))
 else if(mQ (h.gB (pushP h.c.w z.r.toNat z.ev h.p).1) ⟨5,z.r,0,aV,z.ev⟩).2=0 then((mQ (h.gB (pushP h.c.w z.r.toNat z.ev h.p).1) ⟨5,z.r,0,aV,z.ev⟩).1,.inr (z.r.toNat,aY ⟨2,z.r,(pushP h.c.w z.r.toNat z.ev h.p).2.1,aV,[]⟩))
 else((mQ (h.gB (pushP h.c.w z.r.toNat z.ev h.p).1) ⟨5,z.r,0,aV,z.ev⟩).1,.inl (mQ (h.gB (pushP h.c.w z.r.toNat z.ev h.p).1) ⟨5,z.r,0,aV,z.ev⟩).2)
def ahP(h:Hb)(z:Rc):Hb×Res:=
 if(qw h.p z.r.toNat z.c).told.getD z.r.toNat aV=h.p.told.getD z.r.toNat aV then(h.gB (qw h.p z.r.toNat z.c),.inl 0)
 else((mQ (h.gB (qw h.p z.r.toNat z.c)) ⟨6,z.r,0,z.c,[]⟩).1,.inl (mQ (h.gB (qw h.p z.r.toNat z.c)) ⟨6,z.r,0,z.c,[]⟩).2)
def afA(h:Hb)(z:Rc):Hb×Res:=
 if h.c.n<=z.r then(h,.inl 23)
 else if z.k=1 then Zv h z
 else if z.k=3 then(h,.inr (z.r.toNat,aY ⟨4,z.r,0,aV,kX z.r.toNat z.c 0 h.p.sh⟩))
 else if z.k=5 then ahP h z
 else(h,.inl 23)
def Q9(h:Hb)(b:List UInt8):Hb×Res:=
 if h.up=false then(h,.inl 18)
 else if(eP b).2≠0 then(h,.inl (eP b).2)
 else afA h (eP b).1
structure HbG(h:Hb):Prop where
 p:Vx h.c.w h.p
 n:h.c.n=(h.p.sh.length:Int)
 w:h.c.w<=4
 bs:h.d.bs.length<=500000000
def MG:Res->AV
 | .inl x=>Ie x
 | .inr (r,_)=>EC r
def yh:Res->List (Nat×AO)
 | .inl _=>[]
 | .inr (_,w)=>[(1,gX w)]
theorem KY{n:Int}(h0:0<=n)(h1:n<=1048576):pR n=true:=kC ⟨h0,h1⟩
theorem afB{r m:Int}(h0:0<=r)(h5:r<5)(m0:0<=m)(m1:m<=1048576):jW ⟨2,r,m,aV,[]⟩=true:=by
 simp[jW,shK,Gt,Gu,Gs,NW,KY m0 m1,h0,h5,LU,aV,KY (show(0:Int)<=0 by omega) o_]
theorem afC{r:Int}(h0:0<=r)(h5:r<5)(hl:l.length<=20)(hm:∀e∈l,dU e=0):jW ⟨4,r,0,aV,l⟩=true:=by
 have:l.all (uM 4 r)=true:=anh.2 λ e he=>FN (hm e he) d_;simp[jW,shK,Gt,Gu,Gs,NW,h0,h5,hl,LU,aV,KY (show(0:Int)<=0 by omega) o_];simpa using this
theorem afD{r:Int}(h0:0<=r)(h5:r<5)(hl:l.length<=4096)(hm:∀e∈l,dU e=0):iE ⟨5,r,0,aV,l⟩=true:=by
 simp[iE,rcK,EH,EJ,EI,NW,h0,h5,hl,LU,aV,KY (show(0:Int)<=0 by omega) o_];simpa using hm
theorem afE{r:Int}(h0:0<=r)(h5:r<5)(hc:NW c=true):iE ⟨6,r,0,c,[]⟩=true:=by
 simp[iE,rcK,EH,EJ,EI,h0,h5,hc,KY (show(0:Int)<=0 by omega) o_]
theorem OV(hx:jW x=true):qH x (aY x):=λ d=>abB d x hx
theorem abH(h:r<p.sh.length):p.lenOf r=(p.sh.getD r default).len:=by
 unfold Pt.lenOf;rw[ang,anE,amX h,ang,amX h];rfl
theorem ahQ{h':Hb}{aW:List AV}{r:Res}(hE:Enters prog 99)(ha:(aW.all (oQ (λ _=>false) 0))=true)
  (hm:aj prog 99 (ni h ()) aW (MG r) (ni h' ()++yh r)\/aj prog 99 (ni h ()) aW (MG r) (sS 11 h'++yh r)):
  aj prog 99 [(0,.obs (Ci h))] aW (MG r) ((0,.obs (Ci h'))::yh r):=by
 cases r with
 |inl x=>
  rcases hm with hm|hm
  ·exact FU hE hm (by rw[ha];rfl)
  ·exact Vs hE hm (by rw[ha];rfl)
 |inr q=>
  obtain⟨r,w⟩:=q;rcases hm with hm|hm
  ·exact FU hE hm (by rw[ha];rfl)
  ·exact Vs hE hm (by rw[ha];rfl)
theorem abI(h h':Hb)(b:List UInt8)(res:Res)(hg:HbG h)(ht:Q9 h b=(h',res)){n:Nat}(hF:bg F b)(hn:n=b.length):
  aj prog 99 [(0,.obs (Ci h))] [.box 0 0,.sl 1 n true F] (MG res) ((0,.obs (Ci h'))::yh res):=by
 refine ahQ ⟨_,_,func99,rfl,rfl⟩ rfl ?_;have hpb:=hg.p.b;unfold Q9 at ht;by_cases hup:h.up=false
 ·rw[if_pos hup]at ht;cases ht;exact .inl (by rw[show yh (.inl 18)=[]from rfl,am2];exact Q7 h hup)
 ·rw[if_neg hup]at ht;have hup:h.up=true:=by simpa using hup
  obtain⟨⟨z,x⟩,htk⟩:∃q,eP b=q:=⟨_,rfl⟩;have hft:=nH b htk hF hn;rw[htk]at ht;dsimp only at ht;by_cases hx:x≠0
  ·rw[if_pos hx]at ht;cases ht;exact .inl (by rw[show yh (.inl x)=[]from rfl,am2];exact VB h hup x z.k z.r z.u z.c z.ev hft hx)
  ·rw[if_neg hx]at ht;have hx:x=0:=by simpa using hx
   subst hx;have hlen:b.length<=2048:=by
    rcases anr 2048 b.length with h|h
    ·unfold eP at htk;rw[if_pos o_]at htk;simp at htk
    ·exact h
   have hmf:jW z=true:=by
    rcases Cc b hlen with⟨z',h1,h2,_⟩|h1|h1
    ·rw[htk]at h1;cases h1;exact h2
    ·rw[htk]at h1;cases h1
    ·rw[htk]at h1;cases h1
   have hm:=pK hmf;have hr0:=hm.r;unfold afA at ht;by_cases hrn:h.c.n<=z.r
   ·rw[if_pos hrn]at ht;cases ht;exact .inl (by rw[show yh (.inl 23)=[]from rfl,am2];exact abG h hup z.k z.r z.u z.c z.ev hft hrn)
   ·rw[if_neg hrn]at ht;obtain⟨k,zr,u,c,ev⟩:=z;dsimp only at ht hm hr0 hrn;obtain⟨r,rfl⟩:∃r:Nat,zr=(r:Int):=⟨zr.toNat,o_⟩;have hn':=hg.n;have hr:r<h.p.sh.length:=o_
    have qB:r<5:=o_
    have hrn:(r:Int)<h.c.n:=o_
    simp only[anP]at ht;by_cases hk1:k=1
    ·subst hk1;rw[if_pos rfl]at ht;have hall:∀e∈ev,dU e=0/\e.r=(r:Int):=λ e he=>by
      have:=anh.1 hm.ev e he;simpa[uM]using this
     have hev:EvB ev:=⟨by have:=hm.l;dsimp only at this;omega,λ j=>by
      rcases anr j ev.length with hj|hj
      ·have hz:=oW (hall _ (getD_mem (d:=default) hj)).1;have z1:=hz.n1;have z2:=hz.n2;omega
      ·rw[show ev.getD j default=default by simp[List.getD,anz hj]];decide⟩
     have hG:=Zn (hg.p.s r hr) hall;have hpu:∀{p' m y},pushP h.c.w r ev h.p=(p',m,y)->vV h.c.w h.p p' r ev m y:=λ e=>OE h.c.w h.p _ r hpb hr ev hev (λ j hj=>(hall _ (getD_mem hj)).2) hG.b _ _ e;have hpG:=Zo hg.p hr hall;have hpl:=OO (w:=h.c.w) (p:=h.p) (r:=r) (l:=ev);unfold Zv at ht;simp only[anP]at ht;obtain⟨⟨p',m,y⟩,hp⟩:∃q,pushP h.c.w r ev h.p=q:=⟨_,rfl⟩;have hpu:=hpu hp;rw[hp]at ht hpG hpl;dsimp only at ht hpG hpl;by_cases hy:y≠0
     ·rw[if_pos hy]at ht;cases ht;have:p'=h.p/\m=0:=by
       unfold pushP at hp;split at hp
       ·cases hp;exact absurd rfl hy
       ·cases hp;exact⟨rfl,rfl⟩
      obtain⟨rfl,rfl⟩:=this;exact .inl (by rw[show yh (.inl y)=[]from rfl,am2];exact FW h h hpb hup h.p hpb r u 0 y c ev [] qB hft hrn hpu hy)
     ·rw[if_neg hy]at ht;have hy:y=0:=by simpa using hy
      subst hy;have hml:=hpl rfl;have hs:=hG.b;have hm0:0<=m/\m<=1048576:=by
       have h1:(jV h.c.w (h.p.sh.getD r default) ev).1.len=(jV h.c.w (h.p.sh.getD r default) ev).1.base+((jV h.c.w (h.p.sh.getD r default) ev).1.kept.length:Int):=rfl;have h2:=hs.b0;have h3:=hs.ln;omega
      have hre:=OV (afB (r:=(r:Int)) (m:=m) o_ o_ hm0.1 hm0.2);by_cases hmn:m=h.p.lenOf r
      ·rw[if_pos hmn]at ht;cases ht;exact .inl (ED h h hpb hup p' hpG.b r u m 0 c ev _ qB hft hrn hpu hmn (hre.nil rfl))
      ·rw[if_neg hmn]at ht;obtain⟨⟨h2,y⟩,hw⟩:∃q,mQ (h.gB p') ⟨5,(r:Int),0,aV,ev⟩=q:=⟨_,rfl⟩;rw[hw]at ht;dsimp only at ht;have hmr:=afD (r:=(r:Int)) (l:=ev) o_ o_ (by have:=hm.l;dsimp only at this;omega) λ e he=>(hall e he).1;have hwm:writeT (h.gB p') h2 ⟨5,(r:Int),0,aV,ev⟩ y:=KN (h.gB p') h2 _ y hmr (by have:=hg.bs;show h.d.bs.length<=_;omega) hw;by_cases hy:y=0
       ·subst hy;rw[if_pos rfl]at ht;cases ht;exact .inr (KR h h' hpb hup p' hpG.b r u m 0 c ev _ qB hft hrn hpu hmn hwm (hre.nil rfl))
       ·rw[if_neg hy]at ht;cases ht;exact .inr (by rw[show yh (.inl y)=[]from rfl,am2];exact FX h h' hpb hup p' hpG.b r u m y c ev [] qB hft hrn hpu hmn hwm hy)
    ·rw[if_neg hk1]at ht;by_cases hk3:k=3
     ·subst hk3;rw[if_pos rfl]at ht;cases ht;refine .inl ?_;have hfm:=CB (w:=h.c.w) (r:=r) (c:=c) (l:=h.p.sh) (i:=0) λ s hs=>by
       obtain⟨i,hi,rfl⟩:=anR hs;have:=hg.p.s i hi;rw[List.getD,amX hi]at this;exact⟨this.k,this.may⟩
      have hw4:=hg.w;have h5:=hg.p.h5;have hfl:(kX r c 0 h.p.sh).length<=20:=by
       have h1:=hfm.1;have h2:h.c.w*(h.p.sh.length:Int)<=4*(h.p.sh.length:Int):=Int.mul_le_mul_of_nonneg_right hw4 o_;omega
      have hre:=OV (afC (r:=(r:Int)) o_ o_ hfl hfm.2);by_cases h2:2<=h.p.sh.length
      ·exact MC h h hpb hup h.p hpb r u 0 0 c ev _ _ qB hft hrn (Xx h.c.w h.p hpb r c hr h2) hre
      ·have h1:h.p.sh.length=1:=by have:=hg.p.h1;omega
       obtain rfl:r=0:=o_
       have amg:Q5 h.c.w h.p 0 c:=by
        obtain⟨up,cf,⟨sh,told⟩,d⟩:=h;dsimp only at h1⊢;have ht1:=hg.p.t;dsimp only at ht1;rcases sh with _|⟨s0,_|⟨s1,sh⟩⟩
        ·simp at h1
        ·rcases told with _|⟨t0,_|⟨t1,told⟩⟩
         ·simp at ht1
         ·exact VA _ s0 t0 c
         ·simp at ht1
        ·simp at h1
       have he:kX 0 c 0 h.p.sh=[]:=by
        rcases hsh:h.p.sh with _|⟨s0,_|⟨s1,sh⟩⟩
        ·rfl
        ·simp[kX]
        ·rw[hsh]at h1;simp at h1
       rw[he]at hre⊢;exact KX h h hpb hup h.p hpb 0 u 0 0 c ev _ qB hft hrn amg (hre.nil rfl)
     ·rw[if_neg hk3]at ht;by_cases hk5:k=5
      ·subst hk5;rw[if_pos rfl]at ht;unfold ahP at ht;simp only[anP]at ht;have hack:FV h.c.w h.p (qw h.p r c) r c:=U8 h.c.w h.p hpb r c hr;have hpG:=(afo hg.p r c).b;by_cases hsame:(qw h.p r c).told.getD r aV=h.p.told.getD r aV
       ·rw[if_pos hsame]at ht;cases ht;exact .inl (by rw[show yh (.inl 0)=[]from rfl,am2];exact FY h h hpb hup _ hpG r u 0 0 c ev [] qB hft hrn (Vz h hpb _ hpG r u c ev qB hack hsame))
       ·rw[if_neg hsame]at ht;obtain⟨⟨h2,y⟩,hw⟩:∃q,mQ (h.gB (qw h.p r c)) ⟨6,(r:Int),0,c,[]⟩=q:=⟨_,rfl⟩;rw[hw]at ht;cases ht;have hok:NW c=true:=by
         have:=hm.c;simp only[NW,this.1,this.2.1,this.2.2.1,this.2.2.2.1,this.2.2.2.2,Bool.and_self]
        have hwm:writeT (h.gB (qw h.p r c)) h2 ⟨6,(r:Int),0,c,[]⟩ y:=KN (h.gB (qw h.p r c)) h2 _ y (afE o_ o_ hok) (by have:=hg.bs;show h.d.bs.length<=_;omega) hw;exact .inr (by rw[show yh (.inl y)=[]from rfl,am2];exact MF h h2 hpb hup _ hpG r u 0 y c ev [] qB hft hrn (afz h h2 hpb _ hpG r u c ev qB y hack hsame (hwm.nil rfl)))
      ·rw[if_neg hk5]at ht;cases ht;exact .inl (by rw[show yh (.inl 23)=[]from rfl,am2];exact Q8 h hup k r u c ev hft hrn hk1 hk3 hk5)
structure Ry where
 (c:lZ)(p:CP)(up cuts:Bool)(keep:Int)
def Ry.n(y:Ry):Nat:=y.c.n.toNat
def kK(y:Ry)(x:Rc)(p:CP):Ry×Bool:=
 (⟨y.c,if y.cuts=false\/((ay x).length:Int)<=y.keep then p else y.p,y.up&& !y.cuts,false,y.keep⟩, !y.cuts)
def Rf(y:Ry)(z:Rc):Ry×Res:=
 if(iW y.c.w y.n z.r.toNat z.ev y.p).2.2≠0 then(y,.inl (iW y.c.w y.n z.r.toNat z.ev y.p).2.2)
 else if(iW y.c.w y.n z.r.toNat z.ev y.p).2.1>((y.p.ps.getD z.r.toNat default).l.length:Int)then
  (if(kK y ⟨5,z.r,0,aV,z.ev⟩ (iW y.c.w y.n z.r.toNat z.ev y.p).1).2=false then((kK y ⟨5,z.r,0,aV,z.ev⟩ (iW y.c.w y.n z.r.toNat z.ev y.p).1).1,.inl 18)
  else((kK y ⟨5,z.r,0,aV,z.ev⟩ (iW y.c.w y.n z.r.toNat z.ev y.p).1).1,.inr (z.r.toNat,aY ⟨2,z.r,(iW y.c.w y.n z.r.toNat z.ev y.p).2.1,aV,[]⟩)))
 else(y,.inr (z.r.toNat,aY ⟨2,z.r,(iW y.c.w y.n z.r.toNat z.ev y.p).2.1,aV,[]⟩))
def Zw(y:Ry)(z:Rc):Ry×Res:=
 if(y.p.qY.getD z.r.toNat aV).jn z.c≠y.p.qY.getD z.r.toNat aV then
  (if(kK y ⟨6,z.r,0,z.c,[]⟩ (zu y.n y.p z.r.toNat z.c)).2=false then((kK y ⟨6,z.r,0,z.c,[]⟩ (zu y.n y.p z.r.toNat z.c)).1,.inl 18)
  else((kK y ⟨6,z.r,0,z.c,[]⟩ (zu y.n y.p z.r.toNat z.c)).1,.inl 0))
 else(y,.inl 0)
def X4(y:Ry)(z:Rc):Ry×Res:=
 if y.c.n<=z.r then(y,.inl 23)
 else if z.k=1 then Rf y z
 else if z.k=3 then(y,.inr (z.r.toNat,aY ⟨4,z.r,0,aV,qZ z.r.toNat z.c 0 (y.p.ps.take y.n)⟩))
 else if z.k=5 then Zw y z
 else(y,.inl 23)
def KZ(y:Ry)(b:List UInt8):Ry×Res:=
 if y.up=false then(y,.inl 18)
 else if(eP b).2≠0 then(y,.inl (eP b).2)
 else X4 y (eP b).1
def MH(p:Pt):Prop:= ∀s,s<p.sh.length->jG (p.sh.getD s default) (iU p.told s)=p.sh.getD s default
structure jX(k:Nat)(h:Hb)(y:Ry):Prop where
 c:h.c=y.c
 g:HbG h
 may:qj y.c=true
 B:RN y.n y.p
 G:Vx y.c.w (toP y.n y.p)
 I:MH (toP y.n y.p)
 up:h.up=y.up
 disk:∃l t,xB h.d.bs l t/\Chain y.c.w (EK y.n) l/\replay y.c.w y.n l=toP y.n y.p/\(h.up=true->t=[])
 on:h.up=true->h.p=toP y.n y.p/\h.d.down=false/\h.d.cut=y.cuts/\(y.cuts=true->h.d.keep=y.keep)
 bs:h.d.bs.length<=200100*k
theorem CG{most:Int}:∀{l:List Rc}{p:Pt}{x:Rc},Chain most p l->RcG most (l.foldl (jH most) p) x->Chain most p (l++[x])
 |[],_,_,_,hx=>⟨hx,trivial⟩
 |y::l,p,x,h,hx=>⟨h.1,CG (l:=l) (p:=jH most p y) h.2 hx⟩
theorem GN{most:Int}{n:Nat}{l:List Rc}:replay most n (l++[x])=jH most (replay most n l) x:=by
 unfold replay;rw[aoj];rfl
theorem X5{n:Nat}{d:Dk}{l:List Rc}(hr:xB d.bs l [])(hc:Chain w (EK n) l)(hx:iE x=true)(hg:RcG w (replay w n l) x)(hd:d.down=false):
  ∃l' t',xB (iV d (ay x)).1.bs l' t'/\Chain w (EK n) l'/\(d.cut=false->t'=[])/\
   replay w n l'=if d.cut=false\/((ay x).length:Int)<=d.keep then jH w (replay w n l) x else replay w n l:=by
 unfold iV;rw[if_neg (by rw[hd];simp)];cases hcut:d.cut with
 |false=>
  rw[if_neg s_];exact⟨l++[x],[],Aj hr hx,CG hc hg,λ _=>rfl,by rw[GN,if_pos (.inl rfl)]⟩
 |true=>
  rw[if_pos rfl];have hk:=Ew d.keep (ay x).length;by_cases h:((ay x).length:Int)<=d.keep
  ·have e:oM d.keep (ay x).length=((ay x).length:Int):=by unfold oM;split<;>(try split)<;>omega
   refine⟨l++[x],[], ?_,CG hc hg,(λ h=>by cases h),by rw[GN,if_pos (.inr h)]⟩;show xB (d.bs++(ay x).take (oM d.keep (ay x).length).toNat) (l++[x]) [];rw[e,anP,aof];exact Aj hr hx
  ·have e:oM d.keep (ay x).length<((ay x).length:Int):=by
    have:=uh x;unfold oM;split<;>(try split)<;>omega
   exact⟨l,_,OD hr hx o_,hc,(λ h=>by cases h),by rw[if_neg (by rintro(h'|h');cases h';exact h h')]⟩
theorem Ih{α:Type}{f:α->α}{d:α}:∀{r:Nat}{l:List α},(r<l.length->f (l.getD r d)=l.getD r d)->dR f r l=l
 |r,[],_=>by cases r<;>rfl
 |0,x::l,h=>by
  have:=h s_;show f x::l=x::l;rw[show f x=x from this]
 |r+1,x::l,h=>by
  show x::dR f r l=x::l;have e:dR f r l=l:=Ih (d:=d) λ hr=>h (by simpa using hr);rw[e]
theorem ahR(h:MH p)(r:Nat):qp p r=p:=by
 unfold qp;rw[Ih (d:=default) λ hr=>h r hr]
theorem abJ(h0:(jV w s l).2=0)(hl:(jV w s l).1.len=s.len):(jV w s l).1=s:=by
 revert h0 hl;unfold jV;split
 ·split
  ·intro _ _;rfl
  ·split
   ·intro h;simp at h
   ·rename_i hne _;intro _ hl;have:(s.base+((s.kept++newS s l).length:Int))=s.base+(s.kept.length:Int):=hl;rw[am0]at this;exact absurd (am9 o_) hne
 ·intro h;simp at h
theorem afF:s.len<=(jV w s l).1.len:=by
 unfold jV;split
 ·split
  ·exact aom _
  ·split
   ·exact aom _
   ·show s.base+(s.kept.length:Int)<=s.base+((s.kept++newS s l).length:Int);rw[am0];omega
 ·exact aom _
theorem OW{told:List aS}:∀{l:List jU}{i:Nat},(∀j,j<l.length->jG (l.getD j default) (iU told (i+j))=l.getD j default)->mP told i l=l
 |[],_,_=>rfl
 |s::l,i,h=>by
  have h0:jG s (iU told i)=s:=h 0 s_;show jG s (iU told i)::mP told (i+1) l=s::l;rw[h0,OW λ j hj=>by
   have:=h (j+1) (by simpa using hj);rw[show i+(j+1)=i+1+j by omega]at this;exact this]
theorem ahS(h:MH p)(hr:r<p.told.length)(he:(p.told.getD r aV).jn c=p.told.getD r aV):qw p r c=p:=by
 unfold qw;have e:dR (λ t=>t.jn c) r p.told=p.told:=Ih (d:=aV) λ _=>he;rw[e,OW λ j hj=>by rw[anZ];exact h j hj]
theorem abK{b L n b' L':Int}(hb:b'=sG b L n)(ht:b'+L'=b+L):sG b' L' n=b':=by
 unfold sG at hb⊢;rw[ht];by_cases h1:b+L<n
 ·rw[if_pos h1]at hb⊢;by_cases h2:b+L>b
  ·rw[if_pos h2]at hb;rw[if_neg o_]
  ·rw[if_neg h2]at hb;rw[if_neg o_]
 ·rw[if_neg h1]at hb⊢;by_cases h2:n>b
  ·rw[if_pos h2]at hb;rw[if_neg o_]
  ·rw[if_neg h2]at hb;rw[if_neg o_]
theorem OX(s:jU)(n:Int):jG (jG s n) n=jG s n:=by
 have hb:sG (jG s n).base ((jG s n).kept.length:Int) n=(jG s n).base:=abK (b:=s.base) (L:=(s.kept.length:Int)) rfl (KO s n);show(⟨sG (jG s n).base ((jG s n).kept.length:Int) n,(jG s n).kept.drop (sG (jG s n).base ((jG s n).kept.length:Int) n-(jG s n).base).toNat⟩:jU)=jG s n;rw[hb,Int.sub_self];rfl
theorem X6(h:MH p):MH (pushP w r l p).1:=by
 unfold pushP;split
 ·intro s hs;have hl:(qp ⟨dR (λ _=>(jV w (p.sh.getD r default) l).1) r p.sh,p.told⟩ r).sh.length=p.sh.length:=by
   show(dR _ r (dR _ r p.sh)).length=_;rw[dw,dw]
  rw[hl]at hs;have e:(qp ⟨dR (λ _=>(jV w (p.sh.getD r default) l).1) r p.sh,p.told⟩ r).sh.getD s default=if s=r then jG (jV w (p.sh.getD r default) l).1 (iU p.told r)else p.sh.getD s default:=by
   show(dR _ r (dR _ r p.sh)).getD s default=_;rw[qx (by rw[dw];exact hs),qx hs];split<;>rfl
  show jG ((qp _ r).sh.getD s default) (iU p.told s)=_;rw[e];split
  ·rename_i h;rw[h];exact OX _ _
  ·exact h s hs
 ·exact h
theorem abL(r:Nat)(c:aS):MH (qw p r c):=by
 intro s hs;have hs':s<p.sh.length:=by rw[show(qw p r c).sh.length=p.sh.length from Cj _ _ _]at hs;exact hs
 show jG ((mP _ 0 p.sh).getD s default) _=(mP _ 0 p.sh).getD s default;rw[Cm _ hs',anZ];exact OX _ _
theorem afG{s:LD}(h:RsB s)(hG:ShG w r (jV w (toS s) l).1):RsB (jR w s l).1:=by
 have e:=XU (most:=w) h l;rw[e]at hG;have h0:=h.c0;have h1:=h.c1;have hc:(jR w s l).1.cuts=s.cuts/\s.l.length<=(jR w s l).1.l.length:=by
  unfold jR;split
  ·split
   ·exact⟨rfl,ani _⟩
   ·exact⟨rfl,by rw[am0];omega⟩
  ·exact⟨rfl,ani _⟩
 have hb:=hG.b.ln;have hb':(jR w s l).1.cuts+(((jR w s l).1.l.drop (jR w s l).1.cuts.toNat).length:Int)<=1048576:=hb;rw[anl]at hb';exact⟨o_,o_,o_⟩
theorem jX.mono{k':Nat}{y:Ry}(hr:jX k h y)(hk:k<=k'):jX k' h y:=
 ⟨hr.c,hr.g,hr.may,hr.B,hr.G,hr.I,hr.up,hr.disk,hr.on,anK hr.bs (Nat.mul_le_mul_left _ hk)⟩
theorem xH{n:Nat}(h:RN n y):(toP n y).sh.length=n/\(toP n y).told.length=n:=by
 have h5:=h.p5;have a5:=h.a5;have n5:=h.n5;exact⟨by show((y.ps.take n).map toS).length=n;rw[anu,am5];omega,by show(y.qY.take n).length=n;rw[am5];omega⟩
theorem La{b:List UInt8}{z:Rc}(h:eP b=(z,0)):jW z=true:=by
 have hlen:b.length<=2048:=by
  rcases anr 2048 b.length with hb|hb
  ·unfold eP at h;rw[if_pos o_]at h;simp at h
  ·exact hb
 rcases Cc b hlen with⟨z',h1,h2,_⟩|h1|h1
 ·rw[h]at h1;cases h1;exact h2
 ·rw[h]at h1;cases h1
 ·rw[h]at h1;cases h1
theorem OY{y:Ry}(hr:jX k h y)(hk:k<=1000)(hup:h.up=true)(hx:iE x=true){p':CP}(hB:RN y.n p')(hG:Vx y.c.w (toP y.n p'))(hI:MH (toP y.n p'))
  (hg:RcG y.c.w (toP y.n y.p) x)(hst:jH y.c.w (toP y.n y.p) x=toP y.n p'):
  jX (k+1) (mQ (h.gB (toP y.n p')) x).1 (kK y x p').1/\(mQ (h.gB (toP y.n p')) x).2=(if(kK y x p').2=false then 18 else 0):=by
 obtain⟨hp,hdn,hct,hkp⟩:=hr.on hup;obtain⟨l,t,h1,h2,h3,h4⟩:=hr.disk;have ht:=h4 hup;subst ht;have hc:=hr.c;have hbs:=hr.bs;have hmx:=iJ x hx;obtain⟨l',t',w1,w2,w3,w4⟩:=X5 (w:=y.c.w) (n:=y.n) (d:=h.d) h1 h2 hx (by rw[h3];exact hg) hdn;rw[h3,hst]at w4;have hyu:=hr.up;have hgn:h.c.n=((toP y.n p').sh.length:Int):=by
  rw[(xH hB).1,hc];obtain⟨n,hn,_,_⟩:=Fj hr.may;show y.c.n=((y.c.n.toNat:Nat):Int);omega
 have hlen:(iV h.d (ay x)).1.bs.length<=200100*(k+1):=by
  have hk2:=Ew h.d.keep (ay x).length;unfold iV;split
  ·show h.d.bs.length<=_;omega
  ·split
   ·show(h.d.bs++(ay x).take _).length<=_;rw[am0,am5];omega
   ·show(h.d.bs++ay x).length<=_;rw[am0];omega
 obtain⟨yc,yp,yup,yct,ykp⟩:=y;obtain⟨amD,hcv,hpv,hd⟩:=h;dsimp only at*;subst hc hup;cases hcut:hd.cut with
 |false=>
  have e:iV hd (ay x)=(⟨hd.bs++ay x,false,false,hd.keep⟩,0):=by unfold iV;rw[if_neg (by rw[hdn];simp),if_neg (by rw[hcut];simp)]
  have hy:yct=false:=by rw[<-hct,hcut]
  subst hy;rw[e]at w1 hlen;refine⟨?_, ?_⟩
  ·unfold mQ kK Hb.gB;dsimp only;rw[e,if_pos rfl,if_pos (.inl rfl)];rw[hcut,if_pos (.inl rfl)]at w4;refine⟨rfl,⟨hG,hgn,hr.g.w, ?_⟩,hr.may,hB,hG,hI, ?_,⟨l',t',w1,w2,w4,λ _=>w3 hcut⟩,λ _=>⟨rfl,rfl,rfl,λ h=>by cases h⟩,hlen⟩
   ·show(hd.bs++ay x).length<=500000000;have hlen:(hd.bs++ay x).length<=200100*(k+1):=hlen;omega
   ·show true=(yup&& !false);rw[<-hyu];rfl
  ·unfold mQ kK Hb.gB;dsimp only;rw[e,if_pos rfl];rfl
 |true=>
  have e:iV hd (ay x)=(⟨hd.bs++(ay x).take (oM hd.keep (ay x).length).toNat,true,false,hd.keep⟩,18):=by unfold iV;rw[if_neg (by rw[hdn];simp),if_pos hcut]
  have hy:yct=true:=by rw[<-hct,hcut]
  subst hy;rw[e]at w1 hlen;refine⟨?_, ?_⟩
  ·unfold mQ kK Hb.gB;dsimp only;rw[e,if_neg s_];rw[hcut,hkp rfl]at w4;have hgb:(hd.bs++(ay x).take (oM hd.keep (ay x).length).toNat).length<=500000000:=by
    have hlen:(hd.bs++(ay x).take (oM hd.keep (ay x).length).toNat).length<=200100*(k+1):=hlen;omega
   by_cases hk3:((ay x).length:Int)<=ykp
   ·rw[if_pos (.inr hk3)]at w4⊢;exact⟨rfl,⟨hG,hgn,hr.g.w,hgb⟩,hr.may,hB,hG,hI,by rw[show(yup&& !true)=false by simp],⟨l',t',w1,w2,w4,(λ h=>by cases h)⟩,(λ h=>by cases h),hlen⟩
   ·have hno:¬ (true=false\/((ay x).length:Int)<=ykp):=by rintro(h|h);cases h;exact hk3 h
    rw[if_neg hno]at w4⊢;exact⟨rfl,⟨hG,hgn,hr.g.w,hgb⟩,hr.may,hr.B,hr.G,hr.I,by rw[show(yup&& !true)=false by simp],⟨l',t',w1,w2,w4,(λ h=>by cases h)⟩,(λ h=>by cases h),hlen⟩
  ·unfold mQ kK Hb.gB;dsimp only;rw[e,if_neg s_];rfl
theorem afH{y:Ry}(h:qj y.c=true):y.c.n=(y.n:Int)/\1<=y.n/\y.n<=5:=by
 obtain⟨n,hn,h1,h5⟩:=Fj h;have:y.n=n:=by show y.c.n.toNat=n;omega
 rw[this];exact⟨hn,h1,h5⟩
theorem afI{n:Nat}(hr:r<n)(h:RN n y):(toP n y).lenOf r=((y.ps.getD r default).l.length:Int):=by
 rw[abH (by rw[(xH h).1];exact hr),zq hr h,Ez (h.s _ (getD_mem (by have:=h.p5;have:=h.n5;omega)))]
theorem abM(hI:MH p)(hr:r<p.sh.length)(h0:(jV w (p.sh.getD r default) l).2=0)(hl:(jV w (p.sh.getD r default) l).1.len=(p.sh.getD r default).len):(pushP w r l p).1=p:=by
 unfold pushP;rw[if_pos h0,abJ h0 hl];have e:dR (λ _=>p.sh.getD r default) r p.sh=p.sh:=Ih (d:=default) λ _=>rfl;show qp ⟨dR (λ _=>p.sh.getD r default) r p.sh,p.told⟩ r=p;rw[e];exact ahR hI r
theorem afJ{y:Ry}(hr:jX k h y)(hk:k<=1000)(hup:h.up=true)(hrn:r<y.n)(hm:ajO ⟨1,r,u,c,ev⟩):
  ∃h' y' res,Zv h ⟨1,r,u,c,ev⟩=(h',res)/\Rf y ⟨1,r,u,c,ev⟩=(y',res)/\jX (k+1) h' y':=by
 obtain⟨hp,hdn,hct,hkp⟩:=hr.on hup;obtain⟨hn,hn1,hn5⟩:=afH hr.may;have hall:∀e∈ev,dU e=0/\e.r=(r:Int):=λ e he=>by
  have:=anh.1 hm.ev e he;simpa[uM]using this
 have hev:EvB ev:=⟨by have:=hm.l;dsimp only at this;omega,λ j=>by
  rcases anr j ev.length with hj|hj
  ·have hz:=oW (hall _ (getD_mem (d:=default) hj)).1;have z1:=hz.n1;have z2:=hz.n2;omega
  ·rw[show ev.getD j default=default by simp[List.getD,anz hj]];decide⟩
 have hl:=xH hr.B;have hrl:r<(toP y.n y.p).sh.length:=by rw[hl.1];exact hrn
 have hG:=Zn (hr.G.s r hrl) hall;have hpG:=Zo hr.G hrl hall;have hpI:=X6 (w:=y.c.w) hr.I (r:=r) (l:=ev);have hs:RsB (y.p.ps.getD r default):=hr.B.s _ (getD_mem (by have:=hr.B.p5;omega));have hB:RsB (jR y.c.w (y.p.ps.getD r default) ev).1:=afG hs (r:=r) (by rw[zq hrn hr.B]at hG;exact hG);have hto:=ahL (most:=y.c.w) (l:=ev) hrn hr.B hB;have hlen:=afI hrn hr.B;have hgt:=zq hrn hr.B;have hput:=XU (most:=y.c.w) hs ev;have hmr:=afD (r:=(r:Int)) (l:=ev) o_ o_ (by have:=hm.l;dsimp only at this;omega) λ e he=>(hall e he).1;have hrg:RcG y.c.w (toP y.n y.p) ⟨5,(r:Int),0,aV,ev⟩:=⟨.inl rfl,by show 0<=(r:Int);omega,by show(r:Int).toNat<_;rw[anP];exact hrl,hev,λ _ j hj=>(hall _ (getD_mem hj)).2,λ _=>by show iQ (jV _ ((toP y.n y.p).sh.getD (r:Int).toNat default) ev).1;rw[anP];exact hG.b⟩;have hst:jH y.c.w (toP y.n y.p) ⟨5,(r:Int),0,aV,ev⟩=(pushP y.c.w r ev (toP y.n y.p)).1:=by
  unfold jH;rw[if_pos rfl];rfl
 have hpl:=OO (w:=y.c.w) (p:=toP y.n y.p) (r:=r) (l:=ev);have hle:=afF (w:=y.c.w) (s:=(toP y.n y.p).sh.getD r default) (l:=ev);have hsm:=abM (w:=y.c.w) hr.I hrl (l:=ev);have hx2:(pushP y.c.w r ev (toP y.n y.p)).2.2=(jV y.c.w ((toP y.n y.p).sh.getD r default) ev).2:=by
  unfold pushP;split
  ·rename_i h;exact h.symm
  ·rfl
 have hBq:RN y.n (iW y.c.w y.n r ev y.p).1:=by
  unfold iW;split
  ·exact Zq (y:=⟨dR (λ _=>(jR y.c.w (y.p.ps.getD r default) ev).1) r y.p.ps,y.p.qY⟩) ⟨by show(dR _ _ _).length=5;rw[dw];exact hr.B.p5,hr.B.a5,λ x hx=>by
    rcases vO hx with hx|⟨_,_,rfl⟩
    ·exact hr.B.s x hx
    ·exact hB,hr.B.n1,hr.B.n5⟩ r
  ·exact hr.B
 have hgl:(toS (y.p.ps.getD r default)).len=((y.p.ps.getD r default).l.length:Int):=Ez hs;rw[hgt]at hle hpl hsm hx2;unfold Zv Rf;simp only[anP];rw[hr.c,hp,hlen];obtain⟨⟨q1,q2,q3⟩,hq⟩:∃q,iW y.c.w y.n r ev y.p=q:=⟨_,rfl⟩;rw[hq]at hto hBq⊢;rw[hto]at hpG hpI hst hpl hsm hx2⊢;dsimp only at*;by_cases hx:q3≠0
 ·rw[if_pos hx,if_pos hx];exact⟨_,_,_,rfl,rfl,hr.mono o_⟩
 ·rw[if_neg hx,if_neg hx];have hx:q3=0:=by simpa using hx
  have hq2:=hpl hx;rw[hx]at hx2;by_cases hmn:q2=((y.p.ps.getD r default).l.length:Int)
  ·have hng:¬q2>((y.p.ps.getD r default).l.length:Int):=o_
   rw[if_pos hmn,if_neg hng];have e:=hsm hx2.symm (by rw[<-hq2,hmn,hgl]);rw[e,<-hp];exact⟨_,_,_,rfl,rfl,hr.mono o_⟩
  ·have hgt2:q2>((y.p.ps.getD r default).l.length:Int):=o_
   rw[if_neg hmn,if_pos hgt2];obtain⟨hw1,hw2⟩:=OY hr hk hup hmr hBq hpG hpI hrg hst;rw[hw2];by_cases hc:(kK y ⟨5,(r:Int),0,aV,ev⟩ q1).2=false
   ·rw[if_pos hc,if_neg d_,if_pos hc];exact⟨_,_,_,rfl,rfl,hw1⟩
   ·rw[if_neg hc,if_pos rfl,if_neg hc];exact⟨_,_,_,rfl,rfl,hw1⟩
theorem ahT{y:Ry}(hr:jX k h y)(hk:k<=1000)(hup:h.up=true)(hrn:r<y.n)(hm:ajO ⟨5,r,u,c,ev⟩):
  ∃h' y' res,ahP h ⟨5,r,u,c,ev⟩=(h',res)/\Zw y ⟨5,r,u,c,ev⟩=(y',res)/\jX (k+1) h' y':=by
 obtain⟨hp,hdn,hct,hkp⟩:=hr.on hup;obtain⟨hn,hn1,hn5⟩:=afH hr.may;have hl:=xH hr.B;have hrl:r<(toP y.n y.p).sh.length:=by rw[hl.1];exact hrn
 have hrt:r<(toP y.n y.p).told.length:=by rw[hl.2];exact hrn
 have hto:=ajV (r:=r) (c:=c) hrn hr.B;have htold:(toP y.n y.p).told.getD r aV=y.p.qY.getD r aV:=by
  show(y.p.qY.take y.n).getD r aV=_;rw[ang,apl hrn,ang]
 have hat:(qw (toP y.n y.p) r c).told.getD r aV=(y.p.qY.getD r aV).jn c:=by
  show(dR _ r (toP y.n y.p).told).getD r aV=_;rw[qx hrt,if_pos rfl,htold]
 have hok:NW c=true:=by
  have:=hm.c;simp only[NW,this.1,this.2.1,this.2.2.1,this.2.2.2.1,this.2.2.2.2,Bool.and_self]
 have hmr:=afE (r:=(r:Int)) (c:=c) o_ o_ hok;have hrg:RcG y.c.w (toP y.n y.p) ⟨6,(r:Int),0,c,[]⟩:=⟨.inr rfl,by show 0<=(r:Int);omega,by show(r:Int).toNat<_;rw[anP];exact hrl,⟨by show([]:List Ev).length<=1000000;decide,λ j=>by
  rw[show([]:List Ev).getD j default=default by cases j<;>rfl];decide⟩,λ h=>absurd h (by show¬ (6:Int)=5;decide),λ h=>absurd h (by show¬ (6:Int)=5;decide)⟩
 have hst:jH y.c.w (toP y.n y.p) ⟨6,(r:Int),0,c,[]⟩=qw (toP y.n y.p) r c:=by
  unfold jH;rw[if_neg (by show¬ (6:Int)=5;decide),if_pos rfl];rfl
 unfold ahP Zw;simp only[anP];rw[hp,hat,htold];by_cases hs:(y.p.qY.getD r aV).jn c=y.p.qY.getD r aV
 ·rw[if_pos hs,if_neg (λ h=>h hs)];have e:=ahS hr.I (r:=r) (c:=c) hrt (by rw[htold];exact hs);rw[e,<-hp];exact⟨_,_,_,rfl,rfl,hr.mono o_⟩
 ·rw[if_neg hs,if_pos hs];rw[<-hto.1]at hst⊢;have hI:MH (toP y.n (zu y.n y.p r c)):=by rw[hto.1];exact abL r c
  have hG:Vx y.c.w (toP y.n (zu y.n y.p r c)):=by rw[hto.1];exact afo hr.G r c
  obtain⟨hw1,hw2⟩:=OY hr hk hup hmr hto.2 hG hI hrg hst;rw[hw2];by_cases hc:(kK y ⟨6,(r:Int),0,c,[]⟩ (zu y.n y.p r c)).2=false
  ·rw[if_pos hc,if_pos hc];exact⟨_,_,_,rfl,rfl,hw1⟩
  ·rw[if_neg hc,if_neg hc];exact⟨_,_,_,rfl,rfl,hw1⟩
theorem VD{y:Ry}(hr:jX k h y)(hk:k<=1000)(b:List UInt8):∃h' y' res,Q9 h b=(h',res)/\KZ y b=(y',res)/\jX (k+1) h' y':=by
 unfold Q9 KZ;rw[<-hr.up];by_cases hup:h.up=false
 ·rw[if_pos hup,if_pos hup];exact⟨_,_,_,rfl,rfl,hr.mono o_⟩
 ·rw[if_neg hup,if_neg hup];have hup:h.up=true:=by simpa using hup
  obtain⟨⟨z,x⟩,htk⟩:∃q,eP b=q:=⟨_,rfl⟩;rw[htk];dsimp only;by_cases hx:x≠0
  ·rw[if_pos hx,if_pos hx];exact⟨_,_,_,rfl,rfl,hr.mono o_⟩
  ·rw[if_neg hx,if_neg hx];have hx:x=0:=by simpa using hx
   subst hx;have hm:=pK (La htk);obtain⟨hn,hn1,hn5⟩:=afH hr.may;unfold afA X4;rw[hr.c];by_cases hrn:y.c.n<=z.r
   ·rw[if_pos hrn,if_pos hrn];exact⟨_,_,_,rfl,rfl,hr.mono o_⟩
   ·rw[if_neg hrn,if_neg hrn];obtain⟨kd,zr,u,c,ev⟩:=z;have hr0:=hm.r;dsimp only at hr0 hrn⊢;obtain⟨r,rfl⟩:∃r:Nat,zr=(r:Int):=⟨zr.toNat,o_⟩;by_cases hk1:kd=1
    ·subst hk1;rw[if_pos rfl,if_pos rfl];exact afJ hr hk hup o_ hm
    ·rw[if_neg hk1,if_neg hk1];by_cases hk3:kd=3
     ·subst hk3;rw[if_pos rfl,if_pos rfl];have hp:=(hr.on hup).1;have e:kX (r:Int).toNat c 0 h.p.sh=qZ (r:Int).toNat c 0 (y.p.ps.take y.n):=by rw[hp];exact KQ _ _ _ _
      rw[e];exact⟨_,_,_,rfl,rfl,hr.mono o_⟩
     ·rw[if_neg hk3,if_neg hk3];by_cases hk5:kd=5
      ·subst hk5;rw[if_pos rfl,if_pos rfl];exact ahT hr hk hup o_ hm
      ·rw[if_neg hk5,if_neg hk5];exact⟨_,_,_,rfl,rfl,hr.mono o_⟩
def rp0:CP:=⟨List.replicate 5 ⟨0,[]⟩,List.replicate 5 aV⟩
def ry0(c:lZ):Ry:=⟨c,rp0,true,false,0⟩
def rstart(y:Ry):Ry×Int:=if y.up then(y,19)else(⟨y.c,y.p,true,false,y.keep⟩,0)
theorem ajZ{c:lZ}(h:qj c=true):1<=c.w/\c.w<=4:=by
 simp only[qj,amY]at h;exact tN.1 h.1.1.1.1.2
theorem alg{c:lZ}{n:Nat}(hc:qj c=true)(hn:c.n=(n:Int))(h1:1<=n)(h5:n<=5):HbG (hb0 c n):=by
 have hw:=ajZ hc;refine⟨ald (by show 0<=c.w;omega) h1 h5, ?_,hw.2,by show([]:List UInt8).length<=_;decide⟩;show c.n=((List.replicate n (⟨0,[]⟩:jU)).length:Int);rw[aoC,hn]
def X7(y:Ry):Ry:=⟨y.c,y.p,false,false,y.keep⟩
def aj0(y:Ry)(k:Int):Ry:=⟨y.c,y.p,y.up,true,k⟩
def aj1(h:Hb):Hb:=⟨false,h.c,h.p,⟨h.d.bs,true,false,h.d.keep⟩⟩
def amh(h:Hb)(k:Int):Hb:=⟨h.up,h.c,h.p,⟨h.d.bs,h.d.down,true,k⟩⟩
theorem ahU{n:Nat}(h5:n<=5):toP n rp0=EK n:=by
 have hm:min n 5=n:=o_
 unfold toP rp0 EK;rw[List.take_replicate,List.take_replicate,List.map_replicate,hm];rfl
theorem ahV{n:Nat}:MH (EK n):=λ s hs=>by
 have hs':s<n:=by
  have:s<(List.replicate n (⟨0,[]⟩:jU)).length:=hs;rwa [aoC]at this
 have he:(EK n).sh.getD s default=⟨0,[]⟩:=by
  show(List.replicate n (⟨0,[]⟩:jU)).getD s default=_;rw[ang,aoI,if_pos hs'];rfl
 rw[he];unfold jG;have hz:sG 0 ([]:List Ev).length (iU (EK n).told s)=0:=by
  unfold sG;simp only[anD];split<;>(try split)<;>omega
 rw[hz];rfl
theorem jX.new{c:lZ}{n:Nat}(hc:qj c=true)(hn:c.n=(n:Int))(h1:1<=n)(h5:n<=5):jX 0 (hb0 c n) (ry0 c):=by
 have hg:=alg hc hn h1 h5;have hyn:(ry0 c).n=n:=by
  show c.n.toNat=n;omega
 have hto:toP (ry0 c).n (ry0 c).p=EK n:=by rw[hyn];exact ahU h5
 refine⟨rfl,hg,hc, ?_, ?_, ?_,rfl,⟨[],[],⟨s_,rfl,vT⟩,trivial, ?_,λ _=>rfl⟩,λ _=>⟨hto.symm,rfl,rfl,λ h=>by cases h⟩,by show 0<=_;omega⟩
 ·rw[hyn];exact⟨rfl,rfl,λ s hs=>by obtain rfl:=aoW hs;exact⟨by show(0:Int)<=0;omega,by show(0:Int)<=0;omega,by show 0<=_;omega⟩,h1,h5⟩
 ·rw[hto];exact hg.p
 ·rw[hto];exact ahV
 ·rw[hto,hyn];rfl
theorem OZ{y:Ry}(hr:jX k h y):jX k (aj1 h) (X7 y):=by
 obtain⟨l,t,h1,h2,h3,_⟩:=hr.disk;exact⟨hr.c,⟨hr.g.p,hr.g.n,hr.g.w,hr.g.bs⟩,hr.may,hr.B,hr.G,hr.I,rfl,⟨l,t,h1,h2,h3,λ h=>by cases h⟩,(λ h=>by cases h),hr.bs⟩
theorem Zx{y:Ry}(hr:jX k h y)(q:Int):jX k (amh h q) (aj0 y q):=
 ⟨hr.c,⟨hr.g.p,hr.g.n,hr.g.w,hr.g.bs⟩,hr.may,hr.B,hr.G,hr.I,hr.up,hr.disk,λ hu=>⟨(hr.on hu).1,(hr.on hu).2.1,rfl,λ _=>rfl⟩,hr.bs⟩
theorem O1{y:Ry}(hr:jX k h y)(hup:h.up=false){l:List Rc}{t:List UInt8}(h1:xB h.d.bs l t)(h3:replay y.c.w y.n l=toP y.n y.p)(h2:Chain y.c.w (EK y.n) l):
  jX k ⟨true,h.c,replay h.c.w y.n l,⟨ji l,false,false,h.d.keep⟩⟩ (rstart y).1/\(rstart y).2=0:=by
 have hyu:y.up=false:=by rw[<-hr.up,hup]
 have hc:=hr.c;have hl:(ji l).length<=h.d.bs.length:=by rw[h1.eq,am0];omega
 have hk:=hr.bs;have hgb:=hr.g.bs;have hs:rstart y=(⟨y.c,y.p,true,false,y.keep⟩,0):=by unfold rstart;rw[if_neg (by rw[hyu];simp)]
 rw[hs];refine⟨⟨hc,⟨?_, ?_,hr.g.w,by show(ji l).length<=_;omega⟩,hr.may,hr.B,hr.G,hr.I,rfl,⟨l,[],⟨h1.may,by rw[am2],vT⟩,h2,h3,λ _=>rfl⟩,λ _=>⟨?_,rfl,rfl,λ h=>by cases h⟩,by show(ji l).length<=_;omega⟩,rfl⟩
 ·show Vx h.c.w (replay h.c.w y.n l);rw[hc,h3];exact hr.G
 ·show h.c.n=((replay h.c.w y.n l).sh.length:Int);rw[hc,h3,(xH hr.B).1];obtain⟨n,hn,_,_⟩:=Fj hr.may;show y.c.n=((y.c.n.toNat:Nat):Int);omega
 ·show replay h.c.w y.n l=toP y.n y.p;rw[hc,h3]
theorem O4{C:List OB->List OB->Prop}(os os':List OB)(h1:1<=os.length)(h5:os.length<=5)(he:os'.length=os.length)(c1:∀a a',C [a] [a'])(c2:∀a b a' b',C [a,b] [a',b'])(c3:∀a b c a' b' c',C [a,b,c] [a',b',c'])(c4:∀a b c d a' b' c' d',C [a,b,c,d] [a',b',c',d'])(c5:∀a b c d e a' b' c' d' e',C [a,b,c,d,e] [a',b',c',d',e']):C os os':=by
 rcases os' with _|⟨a',_|⟨b',_|⟨c',_|⟨d',_|⟨e',_|⟨f',os'⟩⟩⟩⟩⟩⟩;all_goals rcases os with _|⟨a,_|⟨b,_|⟨c,_|⟨d,_|⟨e,_|⟨f,os⟩⟩⟩⟩⟩⟩
 all_goals first
  |exact c1 ..
  |exact c2 ..
  |exact c3 ..
  |exact c4 ..
  |exact c5 ..
  |(exfalso;simp only[anb,anD]at h1 h5 he;omega)
def VE(q:Nat):FuncId:=if q=5 then 75 else 74
theorem afK(os:List OB)(hb ln:OB)(h1:1<=os.length)(h5:os.length<=5)(hq:q=4\/q=5\/q=6\/q=7)(r:Int)(ed:Ed)(i bit mask keep:Int)(ht:aj prog (VE q) [(0,.obs ln)] [.box 0 0,.v (.int .i64 i)] (.aZ [.agg [.v (.int .i64 0),.v (.slice none 0 0)],.v (.int .i64 24)]) [(0,.obs ln)]):
  aj prog 15 [(0,.obs (wO os hb ln))] [.box 0 0,Stp.av ⟨(q:Int),r,ed,i,bit,mask,keep⟩] (.v (.int .i64 24)) [(0,.obs (wO os hb ln))]:=by
 refine oU (ho:=[]) ⟨_,_,func15,rfl,rfl⟩ ?_ rfl;refine jS (C:=λ os=>aj prog 15 (wH os hb ln ()) [.box 0 0,Stp.av ⟨(q:Int),r,ed,i,bit,mask,keep⟩] (.v (.int .i64 24)) (wH os hb ln ()++[])) os h1 h5 ?_ ?_ ?_ ?_ ?_;all_goals
  intros;rcases hq with rfl|rfl|rfl|rfl
 all_goals
  dsimp only[wH,wP,wN,List.append_nil,Stp.av,Stp.cs];unfold VE at ht;first|rw[if_neg d_]at ht|rw[if_pos d_]at ht
  refine K1.M 0x1041040180200406bb func15 40 ?_;repeat' ((conv=>whnf);first|refine K1.u ?_|refine K1.C 1 [(0,_)] (ht) rfl ?_|refine K1.I 0x880001010fb func37 ?_|fail)
  all_goals(conv=>whnf)
  refine⟨[],rfl,rfl, ?_,rfl,rfl,bY⟩;repeat' (first|exact trivial|refine⟨dB rfl, ?_⟩)
theorem aj2(os:List OB)(hb ln OU:OB)(h1:1<=os.length)(h5:os.length<=5)(r:Int)(ed:Ed)(i bit mask keep:Int){n:Nat}(ht:aj prog 74 [(0,.obs ln)] [.box 0 0,.v (.int .i64 i)] (.aZ [.agg [.v (.int .i64 to),.sl 1 n true F],.v (.int .i64 0)]) [(0,.obs OU)]):
  aj prog 15 [(0,.obs (wO os hb ln))] [.box 0 0,Stp.av ⟨6,r,ed,i,bit,mask,keep⟩] (.v (.int .i64 0)) [(0,.obs (wO os hb OU))]:=by
 refine oU (ho:=[]) ⟨_,_,func15,rfl,rfl⟩ ?_ rfl;refine jS (C:=λ os=>aj prog 15 (wH os hb ln ()) [.box 0 0,Stp.av ⟨6,r,ed,i,bit,mask,keep⟩] (.v (.int .i64 0)) (wH os hb OU ()++[])) os h1 h5 ?_ ?_ ?_ ?_ ?_;all_goals
  intros;dsimp only[wH,wP,wN,List.append_nil,Stp.av,Stp.cs];refine K1.M 0x1041040180200406bb func15 40 ?_;repeat' ((conv=>whnf);first|refine K1.u ?_|refine K1.C 1 [(0,_)] (ht) rfl ?_|refine K1.I 0x880001010fb func37 ?_|fail)
  all_goals(conv=>whnf)
  refine⟨[],rfl,rfl, ?_,rfl,rfl,bY⟩;repeat' (first|exact trivial|refine⟨dB rfl, ?_⟩)
theorem afL(os os':List OB)(hb hb' ln OU ln2:OB)(h1:1<=os.length)(h5:os.length<=5)(he:os'.length=os.length)(hq:q=4\/q=5\/q=7)(r:Int)(ed:Ed)(i bit mask keep:Int)(b b':List UInt8){x:Int}
  (ht:aj prog (VE q) [(0,.obs ln)] [.box 0 0,.v (.int .i64 i)] (.aZ [.agg [.v (.int .i64 to),.sl 1 b.length true (aO b)],.v (.int .i64 0)]) [(0,.obs OU)])
  (hbu:q=7->aF prog 76 [.sl 1 b.length true (aO b),.v (.int .i64 bit),.v (.int .u32 mask)] (.sl 1 b'.length true (aO b')) [])(hbb:q≠7->b'=b)
  (ha:aj prog 77 (wH os hb OU ()) [.box 0 0,.agg [.v (.int .i64 to),.sl 1 b'.length true (aO b')]] (.v (.int .i64 x)) (wH os' hb' ln2 ()++[])):
  aj prog 15 [(0,.obs (wO os hb ln))] [.box 0 0,Stp.av ⟨(q:Int),r,ed,i,bit,mask,keep⟩] (.v (.int .i64 x)) [(0,.obs (wO os' hb' ln2))]:=by
 refine oU (ho:=[]) ⟨_,_,func15,rfl,rfl⟩ ?_ rfl;revert ha;refine O4 (C:=λ os os'=>aj prog 77 (wH os hb OU ()) [.box 0 0,.agg [.v (.int .i64 to),.sl 1 b'.length true (aO b')]] (.v (.int .i64 x)) (wH os' hb' ln2 ()++[])->aj prog 15 (wH os hb ln ()) [.box 0 0,Stp.av ⟨(q:Int),r,ed,i,bit,mask,keep⟩] (.v (.int .i64 x)) (wH os' hb' ln2 ()++[])) os os' h1 h5 he ?_ ?_ ?_ ?_ ?_;all_goals
  intros;rename_i ha;rcases hq with rfl|rfl|rfl
 all_goals
  dsimp only[wH,wP,wN,List.append_nil,Stp.av,Stp.cs]at ha⊢;unfold VE at ht;first|rw[if_neg d_]at ht|rw[if_pos d_]at ht
  first
   |(obtain rfl:=hbb (of_decide_eq_true rfl)
     clear hbu hbb)
   |(have hbu:=hbu rfl
     clear hbb)
  refine K1.M 0x1041040180200406bb func15 40 ?_;repeat' ((conv=>whnf);first|refine K1.u ?_|refine K1.C 1 [(0,_)] (ht) rfl ?_|refine K1.P1 hbu ?_|refine K1.C 99 [(0,_),(1,_),(2,_),(3,_),(10,_)] (ha) rfl ?_|refine K1.C 99 [(0,_),(1,_),(2,_),(3,_),(10,_),(11,_)] (ha) rfl ?_|refine K1.C 99 [(0,_),(1,_),(2,_),(3,_),(10,_),(11,_),(12,_)] (ha) rfl ?_|refine K1.C 99 [(0,_),(1,_),(2,_),(3,_),(10,_),(11,_),(12,_),(13,_)] (ha) rfl ?_|refine K1.C 99 [(0,_),(1,_),(2,_),(3,_),(10,_),(11,_),(12,_),(13,_),(14,_)] (ha) rfl ?_|refine K1.I 0x880001010fb func37 ?_|fail)
  all_goals(conv=>whnf)
  refine⟨[],rfl,rfl, ?_,rfl,rfl,bY⟩;repeat' (first|exact trivial|refine⟨dB rfl, ?_⟩)
end Go.Proofs.YtkimgljckickcaaGreat
