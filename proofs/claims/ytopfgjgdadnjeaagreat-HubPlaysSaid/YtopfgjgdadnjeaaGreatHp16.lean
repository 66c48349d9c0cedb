/-
  Contracts of the walk:AyR,HbN,HbQ,HbR,HbY,HbX,RcX,HyE.
-/
import Derived.Test.YtopfgjgdadnjeaaGreatHp15
import Derived.Test.YtopfgjgdadnjeaaGreatHp13
import Derived.Test.YtopfgjgdadnjeaaGreatHp14
import Derived.Test.YtopfgjgdadnjeaaGreatHp10
set_option maxHeartbeats 16000000
set_option maxRecDepth 100000
set_option linter.unusedVariables false
set_option linter.unusedSimpArgs false
namespace Go.Proofs.YtopfgjgdadnjeaaGreat
open Go.RowKit
variable{w:Int}{l:List Ev}{bs:List UInt8}{r:Nat}{F:Nat->List AV}{c:dD}{s:jI}
section
variable{P:Program}{L:Lay}{N:Nat}{st:AS}
theorem kG.abd(lv:Nat)(hL:bQ P L){W:Walk}(hW:KD P W){id:Nat}{ops:Array Oper}{K:AS->Prop}(S:AS)(hm:P.follows .mixedOrders=true)(hs:Region.noSelect ops=true)(m:Nat)(l:List Oper)(hm':ops.toList.length=m)(hl:ops.toList=l)
  (h:gU P L W N m l (λ st'=>nrm lv st' (λ s=> ∃σ,iw σ s S)) m [] st)(hK:K S):kG P L W N id ops K st:=by
 subst hm' hl;have go:∀{g:Base}{bs:List (Array Value)}{ρ:Nat->Value}{a:Act}{w:World}{st':AS},nrm lv st' (λ s=> ∃σ,iw σ s S)->Rel g N bs ρ a w st'-> ∃ρ',Rel g N bs ρ' a w S:=λ h R=>by
  rw[Jj]at h;obtain⟨σ,h⟩:=h;exact(R.yC lv).Ls h
 have:=kG.any (P:=P) (L:=L) (N:=N) (id:=id) hL hW hm hs h.h;cases this with
 |quiet hm hB hq h=>
  refine .sem λ g bs ρ a w E R hE=>?_;refine wp_region_quiet (C:=λ w'=>w'=w.drew) hm hB rfl ?_;have R':Rel g N bs ρ a w.drew st:=R.world (Below.refl _ _).drew;exact Ae hL (E:=λ a w=>E .normal a w) (ops:=ops.toList) (λ a w1 st R h=>(go h R).elim λ _ R'=>hE _ _ _ _ R' hK) ops.toList hq R' h
 |sem h=>exact .sem λ g bs ρ a w E R hE=>h g bs ρ a w E R λ ρ a w st R h=>(go h R).elim λ _ R'=>hE _ _ _ _ R' hK
end
theorem Uh(d:Nat)(x:Rc)(hx:iC x=true):aC Tryz.prog 61 [x.av] (.bJ [.v (.int .i64 x.r),.own d,.v (.int .i64 0)]) [(d,fJ (bg x))]:=by
 have hp:=λ d=>Ii d x hx;obtain⟨k,r,u,⟨c0,c1,c2,c3,c4⟩,ev⟩:=x;generalize bg _=w at hp⊢;dsimp only[Rc.av,Rc.cs,fJ]at hp⊢;refine K1.E 0x207f Tryz.func61 ?_;repeat' ((conv=>whnf);first|refine K1.u ?_|refine K1.F1 (hp _) ?_|refine K1.z ?_|refine K1.y (λ _=>?_) (λ _=>?_)|fail)
 all_goals(conv=>whnf)
 exact aO.o8 d rfl rfl (fP.refl _) (aP)
def AX(k r u:Int)(c:dD)(ev:List Ev):AV:= .agg [.v (.int .i64 k),.v (.int .i64 r),.v (.int .i64 u),.v (.int .i64 c.c0),.v (.int .i64 c.c1),.v (.int .i64 c.c2),.v (.int .i64 c.c3),.v (.int .i64 c.c4),.sl 12 ev.length true (jH ev)]
theorem XK{C:Nat->Prop}(h:r<5)(h0:C 0)(h1:C 1)(h2:C 2)(h3:C 3)(h4:C 4):C r:=by
 rcases(show r=0\/r=1\/r=2\/r=3\/r=4 by omega)with rfl|rfl|rfl|rfl|rfl<;>assumption
def Pt.lenOf(p:Pt)(r:Nat):Int:=(p.sh.map jI.len).getD r 0
def Hb.fU(h:Hb)(p:Pt):Hb:=⟨h.up,h.c,p,h.d⟩
def oQ(most:Int)(p p':Pt)(r:Nat)(ev:List Ev)(u x:Int):Prop:=
 au Tryz.prog 44 [(0,.obs (wO most p))] [.box 0 0,.v (.int .i64 (r:Int)),.sl 12 ev.length true (jH ev)] (.bJ [.v (.int .i64 u),.v (.int .i64 x)]) [(0,.obs (wO most p'))]
def writeT(h h':Hb)(x:Rc)(y:Int):Prop:=au Tryz.prog 60 (ji h ()) [.box 0 0,x.av] (.v (.int .i64 y)) (lI 11 h')
def oq(x:Rc)(w:List UInt8):Prop:= ∀d:Nat,aC Tryz.prog 61 [x.av] (.bJ [.v (.int .i64 x.r),.own d,.v (.int .i64 0)]) [(d,fJ w)]
theorem au.args{P:Program}{f:FuncId}{hin:List (Nat×AO)}{bD bvs:List AV}{r:AV}{hout:List (Nat×AO)}(hs:au P f hin bvs r hout)(hc:Ch bD bvs):au P f hin bD r hout:=
 ⟨hs.1,λ w keep ρ args a1 a2 a3 a4 a5=>hs.2 w keep ρ args a1 a2 a3 a4 (hc.all a5)⟩
def Rc.nilA(x:Rc):AV:= .agg [.v (.int .i64 x.k),.v (.int .i64 x.r),.v (.int .i64 x.u),.v (.int .i64 x.c.c0),.v (.int .i64 x.c.c1),.v (.int .i64 x.c.c2),.v (.int .i64 x.c.c3),.v (.int .i64 x.c.c4),.v (.slice none 0 0)]
def lT(x:Rc)(w:List UInt8):Prop:= ∀d:Nat,aC Tryz.prog 61 [x.nilA] (.bJ [.v (.int .i64 x.r),.own d,.v (.int .i64 0)]) [(d,fJ w)]
def ou(h h':Hb)(x:Rc)(y:Int):Prop:=au Tryz.prog 60 (ji h ()) [.box 0 0,x.nilA] (.v (.int .i64 y)) (lI 11 h')
theorem oq.nil{x:Rc}{w:List UInt8}(h:oq x w)(he:x.ev=[]):lT x w:=by
 intro d;have:=h d;obtain⟨k,r,u,c,ev⟩:=x;dsimp only at he;subst he;exact this.args (.of (λ X u hu=>C1.pF hu) .nil)
theorem writeT.nil{h h':Hb}{x:Rc}{y:Int}(hw:writeT h h' x y)(he:x.ev=[]):ou h h' x y:=by
 obtain⟨k,r,u,c,ev⟩:=x;dsimp only at he;subst he;exact au.args (bvs:=[.box 0 0,Rc.av ⟨k,r,u,c,[]⟩]) hw (.same (.of (λ X u hu=>C1.pF hu) .nil))
def oW(x:Int):AV:= .bJ [.v (.int .i64 (-1)),.v (.slice none 0 0),.v (.int .i64 x)]
def lU(r:Nat):AV:= .bJ [.v (.int .i64 (r:Int)),.own 1,.v (.int .i64 0)]
def kH(n:Nat)(F:Nat->List AV)(k:Int)(r:Nat)(u:Int)(c:dD)(ev:List Ev)(x:Int):Prop:=aC Tryz.prog 14 [.sl 1 n true F] (.bJ [AX k r u c ev,.v (.int .i64 x)]) []
def zo(most:Int)(p p':Pt)(r:Nat)(c:dD):Prop:=au Tryz.prog 45 [(0,.obs (wO most p))] [.box 0 0,.v (.int .i64 (r:Int)),.agg (jM c)] (.v (.int .i64 0)) [(0,.obs (wO most p'))]
def su(most:Int)(p:Pt)(r:Nat)(c:dD)(l:List Ev):Prop:=au Tryz.prog 62 [(0,.obs (wO most p))] [.box 0 0,.v (.int .i64 (r:Int)),.agg (jM c)] (.bJ [.own 1,.v (.int .i64 0)]) [(0,.obs (wO most p)),(1,bU l)]
def Zz{r:Nat}(_:r<5)(up:Bool)(cf:jv)(p:Pt)(d:Dk)(u:Int)(c:dD)(ev:List Ev):AS:=
 ⟨[(0,.box 0 0),(3,.box 40 0),(5,.box 80 0)],[(80,.box 36 (jM (p.told.getD r aJ))),(40,.box 52 [.v (.int .i64 5),.v (.int .i64 (r:Int)),.v (.int .i64 u),.v (.int .i64 c.c0),.v (.int .i64 c.c1),.v (.int .i64 c.c2),.v (.int .i64 c.c3),.v (.int .i64 c.c4),.sl 12 ev.length true (jH ev)]),
  (0,hbB up cf (.box 8 0) (.box 9 0)),(8,uQ (.own 10) d),(10,fJ d.bs),(9,.obs (wO cf.w p))],[[(0,.box 0 0),(1,.box 8 0),(2,.own 10),(3,.own 9)]],81⟩
theorem BR(h _h':Hb)(hp:oV h.p)(hup:h.up=true){n:Nat}(p':Pt)(hp':oV p')(r:Nat)(u _m y:Int)(c:dD)(ev:List Ev)(_w:List UInt8)(kC:r<5)(hft:kH n F 1 r u c ev 0)(hrn:(r:Int)<h.c.n)(hpush:oQ h.c.w h.p h.p r ev 0 y)(hx:y≠0):
  au Tryz.prog 12 (ji h ()) [.box 0 0,.sl 1 n true F] (oW y) (ji h ()):=by
 have hs:=fA h.c.w h.p hp;have hs':=fA h.c.w p' hp';obtain⟨up,cf,p,d⟩:=h;dsimp only at hs hs' hup hft hrn hpush hx;subst hup;refine XK (C:=λ r=>r<5->kH n F 1 r u c ev 0->(r:Int)<cf.n->oQ cf.w p p r ev 0 y->y≠0->au Tryz.prog 12 (ji ⟨true,cf,p,d⟩ ()) [.box 0 0,.sl 1 n true F] (oW y) (ji ⟨true,cf,p,d⟩ ())) kC ?_ ?_ ?_ ?_ ?_ kC hft hrn hpush hx;all_goals
  clear hft hrn hpush hx;intro hr hft hrn hpush hx;dsimp only[kH,zo,oQ,su,lT,oq,writeT,ou,ji,lI,hbB,uQ,fJ,bU,AX,oW,lU,Hb.fU,Rc.av,Rc.cs,Rc.nilA,aJ,Pt.lenOf,jM,List.cons_append,List.nil_append]at hs hs' hft hrn hpush⊢;refine K1.M 0x20203402041f3 Tryz.func12 40 ?_;repeat' ((conv=>whnf);first|refine K1.u ?_|refine K1.P1 hft ?_|refine K1.C 1 [(0,_)] (hs) rfl ?_|refine K1.C 1 [(0,_)] (hpush) rfl ?_|refine qM.mk (by decide) ?_|refine K1.I 0x10022000007fb Tryz.func30 ?_|refine K1.o (id:=1) (nN [0,1,2,3,6,7] ((4,some [3,1])::nN [5,8,9] [])) ?_|refine K1.o (id:=2) (nN [0,1,2,3,4,5,6,7] ((8,some [7,5,3,1])::nN [9,10,11,12,13] [])) ?_|refine K1.o (id:=6) (nN [0,1,2,3,4,5,6,7] [(8,some [6,4,1]),(9,none)]) ?_|refine K1.z ?_|refine K1.y (λ _=>?_) (λ _=>?_)|fail)
  all_goals(conv=>whnf)
  exact⟨[],rfl,rfl,⟨aY rfl,aY rfl,aY rfl,aY rfl,trivial⟩,rfl,rfl,aP⟩
theorem AY(h _h':Hb)(hp:oV h.p)(hup:h.up=true){n:Nat}(p':Pt)(hp':oV p')(r:Nat)(u m _y:Int)(c:dD)(ev:List Ev)(w:List UInt8)(kC:r<5)(hft:kH n F 1 r u c ev 0)(hrn:(r:Int)<h.c.n)(hpush:oQ h.c.w h.p p' r ev m 0)(hn:m=h.p.lenOf r)(hre:lT ⟨2,r,m,aJ,[]⟩ w):
  au Tryz.prog 12 (ji h ()) [.box 0 0,.sl 1 n true F] (lU r) (ji (h.fU p') ()++[(1,fJ w)]):=by
 have hs:=fA h.c.w h.p hp;have hs':=fA h.c.w p' hp';obtain⟨up,cf,p,d⟩:=h;dsimp only at hs hs' hup hft hrn hpush hn hre;subst hup;refine XK (C:=λ r=>r<5->kH n F 1 r u c ev 0->(r:Int)<cf.n->oQ cf.w p p' r ev m 0->m=p.lenOf r->lT ⟨2,r,m,aJ,[]⟩ w->au Tryz.prog 12 (ji ⟨true,cf,p,d⟩ ()) [.box 0 0,.sl 1 n true F] (lU r) (ji (Hb.fU ⟨true,cf,p,d⟩ p') ()++[(1,fJ w)])) kC ?_ ?_ ?_ ?_ ?_ kC hft hrn hpush hn hre;all_goals
  clear hft hrn hpush hn hre;intro hr hft hrn hpush hn hre;dsimp only[kH,zo,oQ,su,lT,oq,writeT,ou,ji,lI,hbB,uQ,fJ,bU,AX,oW,lU,Hb.fU,Rc.av,Rc.cs,Rc.nilA,aJ,Pt.lenOf,jM,List.cons_append,List.nil_append]at hs hs' hft hrn hpush hn hre⊢;refine K1.M 0x20203402041f3 Tryz.func12 40 ?_;repeat' ((conv=>whnf);first|refine K1.u ?_|refine K1.P1 hft ?_|refine K1.C 1 [(0,_)] (hs) rfl ?_|refine K1.C 1 [(0,_)] (hpush) rfl ?_|refine K1.F1 (hre _) ?_|refine qM.mk (by decide) ?_|refine K1.I 0x10022000007fb Tryz.func30 ?_|refine K1.o (id:=1) (nN [0,1,2,3,6,7] ((4,some [3,1])::nN [5,8,9] [])) ?_|refine K1.o (id:=2) (nN [0,1,2,3,4,5,6,7] ((8,some [7,5,3,1])::nN [9,10,11,12,13] [])) ?_|refine K1.o (id:=6) (nN [0,1,2,3,4,5,6,7] [(8,some [6,4,1]),(9,none)]) ?_|refine K1.z ?_|refine K1.y (λ _=>?_) (λ _=>?_)|fail)
  all_goals(conv=>whnf)
  exact⟨[(44,1)],rfl,rfl,⟨aY rfl,aY rfl,aY rfl,aY rfl,aY rfl,trivial⟩,rfl,rfl,aP⟩
theorem F6(h h':Hb)(hp:oV h.p)(hup:h.up=true){n:Nat}(p':Pt)(hp':oV p')(r:Nat)(u m _y:Int)(c:dD)(ev:List Ev)(w:List UInt8)(kC:r<5)(hft:kH n F 1 r u c ev 0)(hrn:(r:Int)<h.c.n)(hpush:oQ h.c.w h.p p' r ev m 0)(hn:m≠h.p.lenOf r)(hw:writeT (h.fU p') h' ⟨5,r,0,aJ,ev⟩ 0)(hre:lT ⟨2,r,m,aJ,[]⟩ w):
  au Tryz.prog 12 (ji h ()) [.box 0 0,.sl 1 n true F] (lU r) (lI 11 h'++[(1,fJ w)]):=by
 have hs:=fA h.c.w h.p hp;have hs':=fA h.c.w p' hp';obtain⟨up,cf,p,d⟩:=h;dsimp only at hs hs' hup hft hrn hpush hn hw hre;subst hup;refine XK (C:=λ r=>r<5->kH n F 1 r u c ev 0->(r:Int)<cf.n->oQ cf.w p p' r ev m 0->m≠p.lenOf r->writeT ((Hb.fU ⟨true,cf,p,d⟩) p') h' ⟨5,r,0,aJ,ev⟩ 0->lT ⟨2,r,m,aJ,[]⟩ w->au Tryz.prog 12 (ji ⟨true,cf,p,d⟩ ()) [.box 0 0,.sl 1 n true F] (lU r) (lI 11 h'++[(1,fJ w)])) kC ?_ ?_ ?_ ?_ ?_ kC hft hrn hpush hn hw hre;all_goals
  clear hft hrn hpush hn hw hre;intro hr hft hrn hpush hn hw hre;dsimp only[kH,zo,oQ,su,lT,oq,writeT,ou,ji,lI,hbB,uQ,fJ,bU,AX,oW,lU,Hb.fU,Rc.av,Rc.cs,Rc.nilA,aJ,Pt.lenOf,jM,List.cons_append,List.nil_append]at hs hs' hft hrn hpush hn hw hre⊢;refine K1.M 0x20203402041f3 Tryz.func12 40 ?_;repeat' ((conv=>whnf);first|refine K1.u ?_|refine K1.P1 hft ?_|refine K1.C 1 [(0,_)] (hs) rfl ?_|refine K1.C 1 [(0,_)] (hpush) rfl ?_|refine K1.C 11 [(0,_),(8,_),(10,_),(9,_)] (hw) rfl ?_|refine K1.F1 (hre _) ?_|refine qM.mk (by decide) ?_|refine K1.I 0x10022000007fb Tryz.func30 ?_|refine K1.o (id:=1) (nN [0,1,2,3,6,7] ((4,some [3,1])::nN [5,8,9] [])) ?_|refine K1.o (id:=2) (nN [0,1,2,3,4,5,6,7] ((8,some [7,5,3,1])::nN [9,10,11,12,13] [])) ?_|refine K1.o (id:=6) (nN [0,1,2,3,4,5,6,7] [(8,some [6,4,1]),(9,none)]) ?_|refine K1.z ?_|refine K1.y (λ _=>?_) (λ _=>?_)|fail)
  all_goals(conv=>whnf)
  exact⟨[(44,11),(45,1)],rfl,rfl,⟨aY rfl,aY rfl,aY rfl,aY rfl,aY rfl,trivial⟩,rfl,rfl,aP⟩
theorem BU(h h':Hb)(hp:oV h.p)(hup:h.up=true){n:Nat}(p':Pt)(hp':oV p')(r:Nat)(u m y:Int)(c:dD)(ev:List Ev)(_w:List UInt8)(kC:r<5)(hft:kH n F 1 r u c ev 0)(hrn:(r:Int)<h.c.n)(hpush:oQ h.c.w h.p p' r ev m 0)(hn:m≠h.p.lenOf r)(hw:writeT (h.fU p') h' ⟨5,r,0,aJ,ev⟩ y)(hx:y≠0):
  au Tryz.prog 12 (ji h ()) [.box 0 0,.sl 1 n true F] (oW y) (lI 11 h'):=by
 have hs:=fA h.c.w h.p hp;have hs':=fA h.c.w p' hp';obtain⟨up,cf,p,d⟩:=h;dsimp only at hs hs' hup hft hrn hpush hn hw hx;subst hup;refine XK (C:=λ r=>r<5->kH n F 1 r u c ev 0->(r:Int)<cf.n->oQ cf.w p p' r ev m 0->m≠p.lenOf r->writeT ((Hb.fU ⟨true,cf,p,d⟩) p') h' ⟨5,r,0,aJ,ev⟩ y->y≠0->au Tryz.prog 12 (ji ⟨true,cf,p,d⟩ ()) [.box 0 0,.sl 1 n true F] (oW y) (lI 11 h')) kC ?_ ?_ ?_ ?_ ?_ kC hft hrn hpush hn hw hx;all_goals
  clear hft hrn hpush hn hw hx;intro hr hft hrn hpush hn hw hx;dsimp only[kH,zo,oQ,su,lT,oq,writeT,ou,ji,lI,hbB,uQ,fJ,bU,AX,oW,lU,Hb.fU,Rc.av,Rc.cs,Rc.nilA,aJ,Pt.lenOf,jM,List.cons_append,List.nil_append]at hs hs' hft hrn hpush hn hw⊢;refine K1.M 0x20203402041f3 Tryz.func12 40 ?_;repeat' ((conv=>whnf);first|refine K1.u ?_|refine K1.P1 hft ?_|refine K1.C 1 [(0,_)] (hs) rfl ?_|refine K1.C 1 [(0,_)] (hpush) rfl ?_|refine K1.C 11 [(0,_),(8,_),(10,_),(9,_)] (hw) rfl ?_|refine qM.mk (by decide) ?_|refine K1.I 0x10022000007fb Tryz.func30 ?_|refine K1.o (id:=1) (nN [0,1,2,3,6,7] ((4,some [3,1])::nN [5,8,9] [])) ?_|refine K1.o (id:=2) (nN [0,1,2,3,4,5,6,7] ((8,some [7,5,3,1])::nN [9,10,11,12,13] [])) ?_|refine K1.o (id:=6) (nN [0,1,2,3,4,5,6,7] [(8,some [6,4,1]),(9,none)]) ?_|refine K1.z ?_|refine K1.y (λ _=>?_) (λ _=>?_)|fail)
  all_goals(conv=>whnf)
  exact⟨[(44,11)],rfl,rfl,⟨aY rfl,aY rfl,aY rfl,aY rfl,trivial⟩,rfl,rfl,aP⟩
theorem GK(h _h':Hb)(hp:oV h.p)(hup:h.up=true){n:Nat}(p':Pt)(hp':oV p')(r:Nat)(u _m _y:Int)(c:dD)(ev:List Ev)(w:List UInt8)(l:List Ev)(kC:r<5)(hft:kH n F 3 r u c ev 0)(hrn:(r:Int)<h.c.n)(hf:su h.c.w h.p r c l)(hre:oq ⟨4,r,0,aJ,l⟩ w):
  au Tryz.prog 12 (ji h ()) [.box 0 0,.sl 1 n true F] (lU r) (ji h ()++[(1,fJ w)]):=by
 have hs:=fA h.c.w h.p hp;have hs':=fA h.c.w p' hp';obtain⟨up,cf,p,d⟩:=h;dsimp only at hs hs' hup hft hrn hf hre;subst hup;refine XK (C:=λ r=>r<5->kH n F 3 r u c ev 0->(r:Int)<cf.n->su cf.w p r c l->oq ⟨4,r,0,aJ,l⟩ w->au Tryz.prog 12 (ji ⟨true,cf,p,d⟩ ()) [.box 0 0,.sl 1 n true F] (lU r) (ji ⟨true,cf,p,d⟩ ()++[(1,fJ w)])) kC ?_ ?_ ?_ ?_ ?_ kC hft hrn hf hre;all_goals
  clear hft hrn hf hre;intro hr hft hrn hf hre;dsimp only[kH,zo,oQ,su,lT,oq,writeT,ou,ji,lI,hbB,uQ,fJ,bU,AX,oW,lU,Hb.fU,Rc.av,Rc.cs,Rc.nilA,aJ,Pt.lenOf,jM,List.cons_append,List.nil_append]at hs hs' hft hrn hf hre⊢;refine K1.M 0x20203402041f3 Tryz.func12 40 ?_;repeat' ((conv=>whnf);first|refine K1.u ?_|refine K1.P1 hft ?_|refine K1.C 1 [(0,_)] (hs) rfl ?_|refine K1.C 1 [(0,_)] (hf) rfl ?_|refine K1.F1 (hre _) ?_|refine qM.mk (by decide) ?_|refine K1.I 0x4001fb Tryz.func31 ?_|refine K1.o (id:=1) (nN [0,1,2,3,4,5,6,7] ((8,some [7,5,3,1])::nN [9,10,11,12,13] [])) ?_|refine K1.z ?_|refine K1.y (λ _=>?_) (λ _=>?_)|fail)
  all_goals(conv=>whnf)
  exact⟨[(43,1)],rfl,rfl,⟨aY rfl,aY rfl,aY rfl,aY rfl,aY rfl,trivial⟩,rfl,rfl,aP⟩
theorem Nw(h:Hb)(hp:oV h.p)(p':Pt)(hp':oV p')(r:Nat)(u:Int)(c:dD)(ev:List Ev)(kC:r<5)(hack:zo h.c.w h.p p' r c)(hn:p'.told.getD r aJ=h.p.told.getD r aJ):
  au Tryz.prog 32 (ji h ()) [.box 0 0,AX 5 r u c ev] (.v (.int .i64 0)) (ji (h.fU p') ()):=by
 have hs:=fA h.c.w h.p hp;have hs':=fA h.c.w p' hp';obtain⟨up,cf,p,d⟩:=h;dsimp only at hs hs' hack hn;refine XK (C:=λ r=>r<5->zo cf.w p p' r c->p'.told.getD r aJ=p.told.getD r aJ->au Tryz.prog 32 (ji ⟨up,cf,p,d⟩ ()) [.box 0 0,AX 5 r u c ev] (.v (.int .i64 0)) (ji (Hb.fU ⟨up,cf,p,d⟩ p') ())) kC ?_ ?_ ?_ ?_ ?_ kC hack hn;all_goals
  intro hr hack hn;dsimp only[zo,ji,lI,hbB,uQ,fJ,AX,oW,ou,Hb.fU,Rc.av,Rc.cs,Rc.nilA,jM]at hs hs' hack⊢;refine K1.M 0x400400007b Tryz.func32 40 ?_;repeat' ((conv=>whnf);first|refine gU.fin rfl ?_|refine gU.pick _ _ rfl rfl ?_|refine gU.one _ _ rfl rfl rfl ?_|refine gU.fork _ _ _ _ rfl rfl rfl rfl ?_ ?_|refine gU.XJ _ _ _ _ _ _ rfl rfl rfl rfl rfl ?_ ?_ ?_|refine K1.u ?_|refine K1.C 1 [(0,_)] (hack) rfl ?_|refine K1.C 1 [(0,_)] (hs) rfl ?_|refine K1.C 1 [(0,_)] (hs') rfl ?_|refine qM.mk (by decide) ?_|(refine kG.abd 274945015931 (id:=1) cZ (fF cZ _) (Zz hr up cf p d u c ev) nT (by kernel_rfl) 11 _ rfl rfl ?_ ?_<;>dsimp only[Zz])|exact⟨[(41,80)],iw.mk' _ _ _ _ rfl ⟨aP,aP,aP,trivial⟩ ⟨aY rfl,aY rfl,aY rfl,aY rfl,aY rfl,aY rfl,trivial⟩ rfl⟩|exact⟨[(42,80)],iw.mk' _ _ _ _ rfl ⟨aP,aP,aP,trivial⟩ ⟨aY rfl,aY rfl,aY rfl,aY rfl,aY rfl,aY rfl,trivial⟩ rfl⟩|refine GZ.mk (dD.vs _) (dD.vs _) _ rfl rfl (mZ _ _) ?_|refine K1.o (id:=2) (nN [0,1,2,3,4,5,6,7] [(8,some [7,5,3,1]),(9,none)]) ?_|refine K1.o (id:=5) (nN [0,1,2,3,6,7,9] ((4,some [3,1])::nN [5,8,10] [])) ?_|refine K1.o (id:=7) (nN [0,1,2,3,4,5,6,7] [(8,some [6,4,1]),(9,none)]) ?_|refine K1.z ?_|refine K1.y (λ _=>?_) (λ _=>?_)|fail)
  all_goals(conv=>whnf)
  exact⟨[],rfl,rfl,⟨aY rfl,aY rfl,aY rfl,aY rfl,trivial⟩,rfl,rfl,aP⟩
theorem BX(h _h':Hb)(hp:oV h.p)(hup:h.up=true){n:Nat}(p':Pt)(hp':oV p')(r:Nat)(u _m _y:Int)(c:dD)(ev:List Ev)(_w:List UInt8)(kC:r<5)(hft:kH n F 5 r u c ev 0)(hrn:(r:Int)<h.c.n)(hack:au Tryz.prog 32 (ji h ()) [.box 0 0,AX 5 r u c ev] (.v (.int .i64 0)) (ji (h.fU p') ())):
  au Tryz.prog 12 (ji h ()) [.box 0 0,.sl 1 n true F] (oW 0) (ji (h.fU p') ()):=by
 have hs:=fA h.c.w h.p hp;have hs':=fA h.c.w p' hp';obtain⟨up,cf,p,d⟩:=h;dsimp only at hs hs' hup hft hrn hack;subst hup;refine XK (C:=λ r=>r<5->kH n F 5 r u c ev 0->(r:Int)<cf.n->au Tryz.prog 32 (ji ⟨true,cf,p,d⟩ ()) [.box 0 0,AX 5 r u c ev] (.v (.int .i64 0)) (ji ((Hb.fU ⟨true,cf,p,d⟩) p') ())->au Tryz.prog 12 (ji ⟨true,cf,p,d⟩ ()) [.box 0 0,.sl 1 n true F] (oW 0) (ji (Hb.fU ⟨true,cf,p,d⟩ p') ())) kC ?_ ?_ ?_ ?_ ?_ kC hft hrn hack;all_goals
  clear hft hrn hack;intro hr hft hrn hack;dsimp only[kH,zo,oQ,su,lT,oq,writeT,ou,ji,lI,hbB,uQ,fJ,bU,AX,oW,lU,Hb.fU,Rc.av,Rc.cs,Rc.nilA,aJ,Pt.lenOf,jM,List.cons_append,List.nil_append]at hs hs' hft hrn hack⊢;refine K1.M 0x20203402041f3 Tryz.func12 40 ?_;repeat' ((conv=>whnf);first|refine K1.u ?_|refine K1.P1 hft ?_|refine K1.C 1 [(0,_)] (hs) rfl ?_|refine K1.C 99 [(0,_),(8,_),(10,_),(9,_)] (hack) rfl ?_|refine qM.mk (by decide) ?_|refine K1.z ?_|refine K1.y (λ _=>?_) (λ _=>?_)|fail)
  all_goals(conv=>whnf)
  exact⟨[],rfl,rfl,⟨aY rfl,aY rfl,aY rfl,aY rfl,trivial⟩,rfl,rfl,aP⟩
theorem XL(h h':Hb)(hp:oV h.p)(p':Pt)(hp':oV p')(r:Nat)(u:Int)(c:dD)(ev:List Ev)(kC:r<5)(y:Int)(hack:zo h.c.w h.p p' r c)(hn:p'.told.getD r aJ≠h.p.told.getD r aJ)(hw:ou (h.fU p') h' ⟨6,r,0,c,[]⟩ y):
  au Tryz.prog 32 (ji h ()) [.box 0 0,AX 5 r u c ev] (.v (.int .i64 y)) (lI 11 h'):=by
 have hs:=fA h.c.w h.p hp;have hs':=fA h.c.w p' hp';obtain⟨up,cf,p,d⟩:=h;dsimp only at hs hs' hack hn;refine XK (C:=λ r=>r<5->zo cf.w p p' r c->p'.told.getD r aJ≠p.told.getD r aJ->ou (Hb.fU ⟨up,cf,p,d⟩ p') h' ⟨6,r,0,c,[]⟩ y->au Tryz.prog 32 (ji ⟨up,cf,p,d⟩ ()) [.box 0 0,AX 5 r u c ev] (.v (.int .i64 y)) (lI 11 h')) kC ?_ ?_ ?_ ?_ ?_ kC hack hn hw;all_goals
  intro hr hack hn hw;dsimp only[zo,ji,lI,hbB,uQ,fJ,AX,oW,ou,Hb.fU,Rc.av,Rc.cs,Rc.nilA,jM]at hs hs' hack hw⊢;refine K1.M 0x400400007b Tryz.func32 40 ?_;repeat' ((conv=>whnf);first|refine gU.fin rfl ?_|refine gU.pick _ _ rfl rfl ?_|refine gU.one _ _ rfl rfl rfl ?_|refine gU.fork _ _ _ _ rfl rfl rfl rfl ?_ ?_|refine gU.XJ _ _ _ _ _ _ rfl rfl rfl rfl rfl ?_ ?_ ?_|refine K1.u ?_|refine K1.C 1 [(0,_)] (hack) rfl ?_|refine K1.C 1 [(0,_)] (hs) rfl ?_|refine K1.C 1 [(0,_)] (hs') rfl ?_|refine K1.C 11 [(0,_),(8,_),(10,_),(9,_)] (hw) rfl ?_|refine qM.mk (by decide) ?_|(refine kG.abd 274945015931 (id:=1) cZ (fF cZ _) (Zz hr up cf p d u c ev) nT (by kernel_rfl) 11 _ rfl rfl ?_ ?_<;>dsimp only[Zz])|exact⟨[(41,80)],iw.mk' _ _ _ _ rfl ⟨aP,aP,aP,trivial⟩ ⟨aY rfl,aY rfl,aY rfl,aY rfl,aY rfl,aY rfl,trivial⟩ rfl⟩|exact⟨[(42,80)],iw.mk' _ _ _ _ rfl ⟨aP,aP,aP,trivial⟩ ⟨aY rfl,aY rfl,aY rfl,aY rfl,aY rfl,aY rfl,trivial⟩ rfl⟩|refine GZ.mk (dD.vs _) (dD.vs _) _ rfl rfl (mZ _ _) ?_|refine K1.o (id:=2) (nN [0,1,2,3,4,5,6,7] [(8,some [7,5,3,1]),(9,none)]) ?_|refine K1.o (id:=5) (nN [0,1,2,3,6,7,9] ((4,some [3,1])::nN [5,8,10] [])) ?_|refine K1.o (id:=7) (nN [0,1,2,3,4,5,6,7] [(8,some [6,4,1]),(9,none)]) ?_|refine K1.z ?_|refine K1.y (λ _=>?_) (λ _=>?_)|fail)
  all_goals(conv=>whnf)
  exact⟨[(83,11)],rfl,rfl,⟨aY rfl,aY rfl,aY rfl,aY rfl,trivial⟩,rfl,rfl,aP⟩
theorem GL(h h':Hb)(hp:oV h.p)(hup:h.up=true){n:Nat}(p':Pt)(hp':oV p')(r:Nat)(u _m y:Int)(c:dD)(ev:List Ev)(_w:List UInt8)(kC:r<5)(hft:kH n F 5 r u c ev 0)(hrn:(r:Int)<h.c.n)(hack:au Tryz.prog 32 (ji h ()) [.box 0 0,AX 5 r u c ev] (.v (.int .i64 y)) (lI 11 h')):
  au Tryz.prog 12 (ji h ()) [.box 0 0,.sl 1 n true F] (oW y) (lI 11 h'):=by
 have hs:=fA h.c.w h.p hp;have hs':=fA h.c.w p' hp';obtain⟨up,cf,p,d⟩:=h;dsimp only at hs hs' hup hft hrn hack;subst hup;refine XK (C:=λ r=>r<5->kH n F 5 r u c ev 0->(r:Int)<cf.n->au Tryz.prog 32 (ji ⟨true,cf,p,d⟩ ()) [.box 0 0,AX 5 r u c ev] (.v (.int .i64 y)) (lI 11 h')->au Tryz.prog 12 (ji ⟨true,cf,p,d⟩ ()) [.box 0 0,.sl 1 n true F] (oW y) (lI 11 h')) kC ?_ ?_ ?_ ?_ ?_ kC hft hrn hack;all_goals
  clear hft hrn hack;intro hr hft hrn hack;dsimp only[kH,zo,oQ,su,lT,oq,writeT,ou,ji,lI,hbB,uQ,fJ,bU,AX,oW,lU,Hb.fU,Rc.av,Rc.cs,Rc.nilA,aJ,Pt.lenOf,jM,List.cons_append,List.nil_append]at hs hs' hft hrn hack⊢;refine K1.M 0x20203402041f3 Tryz.func12 40 ?_;repeat' ((conv=>whnf);first|refine K1.u ?_|refine K1.P1 hft ?_|refine K1.C 1 [(0,_)] (hs) rfl ?_|refine K1.C 11 [(0,_),(8,_),(10,_),(9,_)] (hack) rfl ?_|refine qM.mk (by decide) ?_|refine K1.z ?_|refine K1.y (λ _=>?_) (λ _=>?_)|fail)
  all_goals(conv=>whnf)
  exact⟨[(41,11)],rfl,rfl,⟨aY rfl,aY rfl,aY rfl,aY rfl,trivial⟩,rfl,rfl,aP⟩
theorem Ny(most:Int)(s0:jI)(t0 c:dD):au Tryz.prog 62 [(0,.obs (wO most ⟨[s0],[t0]⟩))] [.box 0 0,.v (.int .i64 ((0:Nat):Int)),.agg (jM c)] (.bJ [.v (.slice none 0 0),.v (.int .i64 0)]) [(0,.obs (wO most ⟨[s0],[t0]⟩))]:=by
 refine FN (ho:=[]) ⟨_,_,Tryz.func62,rfl,rfl⟩ ?_ rfl;rw[List.append_nil];dsimp only[o9,Q7,tJ,ptrs,PD,bU,jM];refine K1.M 0x83c47e7 Tryz.func62 40 ?_;repeat' ((conv=>whnf);first|refine K1.u ?_|refine K1.I 0x13 Tryz.func82 ?_|refine aK.jA 20 6 rfl ?_|refine qM.mk (by decide) ?_|refine lD.yes (by decide) ?_|refine lD.no (by decide) ?_|refine K1.z ?_|refine K1.y (λ _=>?_) (λ _=>?_)|fail)
 all_goals(conv=>whnf)
 exact⟨[],rfl,rfl,⟨aY rfl,aY rfl,aY rfl,aY rfl,trivial⟩,rfl,rfl,aP⟩
def DW(most:Int)(p:Pt)(r:Nat)(c:dD):Prop:=au Tryz.prog 62 [(0,.obs (wO most p))] [.box 0 0,.v (.int .i64 (r:Int)),.agg (jM c)] (.bJ [.v (.slice none 0 0),.v (.int .i64 0)]) [(0,.obs (wO most p))]
theorem F7(h _h':Hb)(hp:oV h.p)(hup:h.up=true){n:Nat}(p':Pt)(hp':oV p')(r:Nat)(u _m _y:Int)(c:dD)(ev:List Ev)(w:List UInt8)(kC:r<5)(hft:kH n F 3 r u c ev 0)(hrn:(r:Int)<h.c.n)(hf:DW h.c.w h.p r c)(hre:lT ⟨4,r,0,aJ,[]⟩ w):
  au Tryz.prog 12 (ji h ()) [.box 0 0,.sl 1 n true F] (lU r) (ji h ()++[(1,fJ w)]):=by
 have hs:=fA h.c.w h.p hp;have hs':=fA h.c.w p' hp';obtain⟨up,cf,p,d⟩:=h;dsimp only at hs hs' hup hft hrn hf hre;subst hup;refine XK (C:=λ r=>r<5->kH n F 3 r u c ev 0->(r:Int)<cf.n->DW cf.w p r c->lT ⟨4,r,0,aJ,[]⟩ w->au Tryz.prog 12 (ji ⟨true,cf,p,d⟩ ()) [.box 0 0,.sl 1 n true F] (lU r) (ji ⟨true,cf,p,d⟩ ()++[(1,fJ w)])) kC ?_ ?_ ?_ ?_ ?_ kC hft hrn hf hre;all_goals
  clear hft hrn hf hre;intro hr hft hrn hf hre;dsimp only[DW,kH,zo,oQ,su,lT,oq,writeT,ou,ji,lI,hbB,uQ,fJ,bU,AX,oW,lU,Hb.fU,Rc.av,Rc.cs,Rc.nilA,aJ,Pt.lenOf,jM,List.cons_append,List.nil_append]at hs hs' hft hrn hf hre⊢;refine K1.M 0x20203402041f3 Tryz.func12 40 ?_;repeat' ((conv=>whnf);first|refine K1.u ?_|refine K1.P1 hft ?_|refine K1.C 1 [(0,_)] (hs) rfl ?_|refine K1.C 1 [(0,_)] (hf) rfl ?_|refine K1.F1 (hre _) ?_|refine qM.mk (by decide) ?_|refine K1.I 0x4001fb Tryz.func31 ?_|refine K1.o (id:=1) (nN [0,1,2,3,4,5,6,7] ((8,some [7,5,3,1])::nN [9,10,11,12,13] [])) ?_|refine K1.z ?_|refine K1.y (λ _=>?_) (λ _=>?_)|fail)
  all_goals(conv=>whnf)
  exact⟨[(43,1)],rfl,rfl,⟨aY rfl,aY rfl,aY rfl,aY rfl,aY rfl,trivial⟩,rfl,rfl,aP⟩
theorem JX(h:Hb)(hup:h.up=false){n:Nat}:
  au Tryz.prog 12 (ji h ()) [.box 0 0,.sl 1 n true F] (oW 18) (ji h ()):=by
 obtain⟨up,cf,p,d⟩:=h;dsimp only at hup;subst hup;dsimp only[ji,hbB,uQ,fJ,oW];refine K1.M 0x20203402041f3 Tryz.func12 40 ?_;repeat' ((conv=>whnf);first|refine K1.u ?_|refine K1.z ?_|refine K1.y (λ _=>?_) (λ _=>?_)|fail)
 all_goals(conv=>whnf)
 exact⟨[],rfl,rfl,⟨aY rfl,aY rfl,aY rfl,aY rfl,trivial⟩,rfl,rfl,aP⟩
theorem Nz(h:Hb)(hup:h.up=true)(x k r u:Int)(c:dD)(ev:List Ev){n:Nat}(hft:aC Tryz.prog 14 [.sl 1 n true F] (.bJ [AX k r u c ev,.v (.int .i64 x)]) [])(hx:x≠0):
  au Tryz.prog 12 (ji h ()) [.box 0 0,.sl 1 n true F] (oW x) (ji h ()):=by
 obtain⟨up,cf,p,d⟩:=h;dsimp only at hup;subst hup;dsimp only[ji,hbB,uQ,fJ,oW,AX]at hft⊢;refine K1.M 0x20203402041f3 Tryz.func12 40 ?_;repeat' ((conv=>whnf);first|refine K1.u ?_|refine K1.P1 hft ?_|refine K1.z ?_|refine K1.y (λ _=>?_) (λ _=>?_)|fail)
 all_goals(conv=>whnf)
 exact⟨[],rfl,rfl,⟨aY rfl,aY rfl,aY rfl,aY rfl,trivial⟩,rfl,rfl,aP⟩
theorem Ui(h:Hb)(hup:h.up=true)(k r u:Int)(c:dD)(ev:List Ev){n:Nat}(hft:aC Tryz.prog 14 [.sl 1 n true F] (.bJ [AX k r u c ev,.v (.int .i64 0)]) [])(hr:h.c.n<=r):
  au Tryz.prog 12 (ji h ()) [.box 0 0,.sl 1 n true F] (oW 23) (ji h ()):=by
 obtain⟨up,cf,p,d⟩:=h;dsimp only at hup hr;subst hup;dsimp only[ji,hbB,uQ,fJ,oW,AX]at hft⊢;refine K1.M 0x20203402041f3 Tryz.func12 40 ?_;repeat' ((conv=>whnf);first|refine K1.u ?_|refine K1.P1 hft ?_|refine K1.z ?_|refine K1.y (λ _=>?_) (λ _=>?_)|fail)
 all_goals(conv=>whnf)
 exact⟨[],rfl,rfl,⟨aY rfl,aY rfl,aY rfl,aY rfl,trivial⟩,rfl,rfl,aP⟩
theorem JY(h:Hb)(hup:h.up=true)(k r u:Int)(c:dD)(ev:List Ev){n:Nat}(hft:aC Tryz.prog 14 [.sl 1 n true F] (.bJ [AX k r u c ev,.v (.int .i64 0)]) [])(hr:r<h.c.n)(h1:k≠1)(h3:k≠3)(h5:k≠5):
  au Tryz.prog 12 (ji h ()) [.box 0 0,.sl 1 n true F] (oW 23) (ji h ()):=by
 obtain⟨up,cf,p,d⟩:=h;dsimp only at hup hr;subst hup;dsimp only[ji,hbB,uQ,fJ,oW,AX]at hft⊢;refine K1.M 0x20203402041f3 Tryz.func12 40 ?_;repeat' ((conv=>whnf);first|refine K1.u ?_|refine K1.P1 hft ?_|refine K1.z ?_|refine K1.y (λ _=>?_) (λ _=>?_)|fail)
 all_goals(conv=>whnf)
 exact⟨[],rfl,rfl,⟨aY rfl,aY rfl,aY rfl,aY rfl,trivial⟩,rfl,rfl,aP⟩
def JZ:Type:=Int ⊕ (Nat×List UInt8)
def Rn(h:Hb)(z:Rc):Hb×JZ:=
 if(pushP h.c.w z.r.toNat z.ev h.p).2.2≠0 then(h,.inl (pushP h.c.w z.r.toNat z.ev h.p).2.2)
 else if(pushP h.c.w z.r.toNat z.ev h.p).2.1=h.p.lenOf z.r.toNat then(h.fU (pushP h.c.w z.r.toNat z.ev h.p).1,.inr (z.r.toNat,bg ⟨2,z.r,(pushP h.c.w z.r.toNat z.ev h.p).2.1,aJ,[]⟩))
 else if(lu (h.fU (pushP h.c.w z.r.toNat z.ev h.p).1) ⟨5,z.r,0,aJ,z.ev⟩).2=0 then((lu (h.fU (pushP h.c.w z.r.toNat z.ev h.p).1) ⟨5,z.r,0,aJ,z.ev⟩).1,.inr (z.r.toNat,bg ⟨2,z.r,(pushP h.c.w z.r.toNat z.ev h.p).2.1,aJ,[]⟩))
 else((lu (h.fU (pushP h.c.w z.r.toNat z.ev h.p).1) ⟨5,z.r,0,aJ,z.ev⟩).1,.inl (lu (h.fU (pushP h.c.w z.r.toNat z.ev h.p).1) ⟨5,z.r,0,aJ,z.ev⟩).2)
def ZA(h:Hb)(z:Rc):Hb×JZ:=
 if(oO h.p z.r.toNat z.c).told.getD z.r.toNat aJ=h.p.told.getD z.r.toNat aJ then(h.fU (oO h.p z.r.toNat z.c),.inl 0)
 else((lu (h.fU (oO h.p z.r.toNat z.c)) ⟨6,z.r,0,z.c,[]⟩).1,.inl (lu (h.fU (oO h.p z.r.toNat z.c)) ⟨6,z.r,0,z.c,[]⟩).2)
def Ro(h:Hb)(z:Rc):Hb×JZ:=
 if h.c.n<=z.r then(h,.inl 23)
 else if z.k=1 then Rn h z
 else if z.k=3 then(h,.inr (z.r.toNat,bg ⟨4,z.r,0,aJ,jT z.r.toNat z.c 0 h.p.sh⟩))
 else if z.k=5 then ZA h z
 else(h,.inl 23)
def qI(h:Hb)(b:List UInt8):Hb×JZ:=
 if h.up=false then(h,.inl 18)
 else if(gV b).2≠0 then(h,.inl (gV b).2)
 else Ro h (gV b).1
structure HbG(h:Hb):Prop where
 p:Nr h.c.w h.p
 n:h.c.n=(h.p.sh.length:Int)
 w:h.c.w<=4
 bs:h.d.bs.length<=500000000
def F8:JZ->AV
 | .inl x=>oW x
 | .inr (r,_)=>lU r
def l7:JZ->List (Nat×AO)
 | .inl _=>[]
 | .inr (_,w)=>[(1,fJ w)]
theorem F9{n:Int}(h0:0<=n)(h1:n<=1048576):qp n=true:=jP ⟨h0,h1⟩
theorem XM{r m:Int}(h0:0<=r)(h5:r<5)(m0:0<=m)(m1:m<=1048576):iC ⟨2,r,m,aJ,[]⟩=true:=by
 simp[iC,KE,vC,vF,uY,BG,F9 m0 m1,h0,h5,Ah,aJ,F9 (show(0:Int)<=0 by omega) (by omega)]
theorem XO{r:Int}(h0:0<=r)(h5:r<5)(hl:l.length<=20)(hm:∀e∈l,fH e=0):iC ⟨4,r,0,aJ,l⟩=true:=by
 have:l.all (pU 4 r)=true:=List.all_eq_true.2 λ e he=>Ih (hm e he) (by decide);simp[iC,KE,vC,vF,uY,BG,h0,h5,hl,Ah,aJ,F9 (show(0:Int)<=0 by omega) (by omega)];simpa using this
theorem PV{r:Int}(h0:0<=r)(h5:r<5)(hl:l.length<=4096)(hm:∀e∈l,fH e=0):jR ⟨5,r,0,aJ,l⟩=true:=by
 simp[jR,UW,yQ,yS,yR,BG,h0,h5,hl,Ah,aJ,F9 (show(0:Int)<=0 by omega) (by omega)];simpa using hm
theorem PW{r:Int}(h0:0<=r)(h5:r<5)(hc:BG c=true):jR ⟨6,r,0,c,[]⟩=true:=by
 simp[jR,UW,yQ,yS,yR,h0,h5,hc,F9 (show(0:Int)<=0 by omega) (by omega)]
theorem IG{x:Rc}(hx:iC x=true):oq x (bg x):=λ d=>Uh d x hx
theorem Uj{p:Pt}(h:r<p.sh.length):p.lenOf r=(p.sh.getD r default).len:=by
 unfold Pt.lenOf;rw[List.getD_eq_getElem?_getD,List.getElem?_map,List.getElem?_eq_getElem h,List.getD_eq_getElem?_getD,List.getElem?_eq_getElem h];rfl
theorem ZB{h h':Hb}{bD:List AV}{r:JZ}(hE:Enters Tryz.prog 12)(ha:(bD.all (rD (λ _=>false) 0))=true)
  (hm:au Tryz.prog 12 (ji h ()) bD (F8 r) (ji h' ()++l7 r)\/au Tryz.prog 12 (ji h ()) bD (F8 r) (lI 11 h'++l7 r)):
  au Tryz.prog 12 [(0,.obs (oh h))] bD (F8 r) ((0,.obs (oh h'))::l7 r):=by
 cases r with
 |inl x=>
  rcases hm with hm|hm
  ·exact BQ hE hm (by rw[ha];rfl)
  ·exact Nb hE hm (by rw[ha];rfl)
 |inr q=>
  obtain⟨r,w⟩:=q;rcases hm with hm|hm
  ·exact BQ hE hm (by rw[ha];rfl)
  ·exact Nb hE hm (by rw[ha];rfl)
theorem II(h h':Hb)(b:List UInt8)(res:JZ)(hg:HbG h)(ht:qI h b=(h',res)){n:Nat}(hF:aS F b)(hn:n=b.length):
  au Tryz.prog 12 [(0,.obs (oh h))] [.box 0 0,.sl 1 n true F] (F8 res) ((0,.obs (oh h'))::l7 res):=by
 refine ZB ⟨_,_,Tryz.func12,rfl,rfl⟩ rfl ?_;have hpb:=hg.p.b;unfold qI at ht;by_cases hup:h.up=false
 ·rw[if_pos hup]at ht;cases ht;exact .inl (by rw[show l7 (.inl 18)=[]from rfl,List.append_nil];exact JX h hup)
 ·rw[if_neg hup]at ht;have hup:h.up=true:=by simpa using hup
  obtain⟨⟨z,x⟩,htk⟩:∃q,gV b=q:=⟨_,rfl⟩;have hft:=F5 b htk hF hn;rw[htk]at ht;dsimp only at ht;by_cases hx:x≠0
  ·rw[if_pos hx]at ht;cases ht;exact .inl (by rw[show l7 (.inl x)=[]from rfl,List.append_nil];exact Nz h hup x z.k z.r z.u z.c z.ev hft hx)
  ·rw[if_neg hx]at ht;have hx:x=0:=by simpa using hx
   subst hx;have hlen:b.length<=2048:=by
    rcases Nat.lt_or_ge 2048 b.length with h|h
    ·unfold gV at htk;rw[if_pos (by omega)]at htk;simp at htk
    ·exact h
   have hmf:iC z=true:=by
    rcases FB b hlen with⟨z',h1,h2,_⟩|h1|h1
    ·rw[htk]at h1;cases h1;exact h2
    ·rw[htk]at h1;cases h1
    ·rw[htk]at h1;cases h1
   have hm:=iP hmf;have hr0:=hm.r;unfold Ro at ht;by_cases hrn:h.c.n<=z.r
   ·rw[if_pos hrn]at ht;cases ht;exact .inl (by rw[show l7 (.inl 23)=[]from rfl,List.append_nil];exact Ui h hup z.k z.r z.u z.c z.ev hft hrn)
   ·rw[if_neg hrn]at ht;obtain⟨k,zr,u,c,ev⟩:=z;dsimp only at ht hm hr0 hrn;obtain⟨r,rfl⟩:∃r:Nat,zr=(r:Int):=⟨zr.toNat,by omega⟩;have hn':=hg.n;have hr:r<h.p.sh.length:=by omega
    have kC:r<5:=by omega
    have hrn:(r:Int)<h.c.n:=by omega
    simp only[Int.toNat_natCast]at ht;by_cases hk1:k=1
    ·subst hk1;rw[if_pos rfl]at ht;have hall:∀e∈ev,fH e=0/\e.r=(r:Int):=λ e he=>by
      have:=List.all_eq_true.1 hm.ev e he;simpa[pU]using this
     have hev:EvB ev:=⟨by have:=hm.l;dsimp only at this;omega,λ j=>by
      rcases Nat.lt_or_ge j ev.length with hj|hj
      ·have hz:=lV (hall _ (getD_mem (d:=default) hj)).1;have z1:=hz.n1;have z2:=hz.n2;omega
      ·rw[show ev.getD j default=default by simp[List.getD,List.getElem?_eq_none hj]];decide⟩
     have hG:=Rf (hg.p.s r hr) hall;have hpu:∀{p' m y},pushP h.c.w r ev h.p=(p',m,y)->oQ h.c.w h.p p' r ev m y:=λ e=>IB h.c.w h.p _ r hpb hr ev hev (λ j hj=>(hall _ (getD_mem hj)).2) hG.b _ _ e;have Uk:=Rh hg.p hr hall;have hpl:=IC (w:=h.c.w) (p:=h.p) (r:=r) (l:=ev);unfold Rn at ht;simp only[Int.toNat_natCast]at ht;obtain⟨⟨p',m,y⟩,hp⟩:∃q,pushP h.c.w r ev h.p=q:=⟨_,rfl⟩;have hpu:=hpu hp;rw[hp]at ht Uk hpl;dsimp only at ht Uk hpl;by_cases hy:y≠0
     ·rw[if_pos hy]at ht;cases ht;have:p'=h.p/\m=0:=by
       unfold pushP at hp;split at hp
       ·cases hp;exact absurd rfl hy
       ·cases hp;exact⟨rfl,rfl⟩
      obtain⟨rfl,rfl⟩:=this;exact .inl (by rw[show l7 (.inl y)=[]from rfl,List.append_nil];exact BR h h hpb hup h.p hpb r u 0 y c ev [] kC hft hrn hpu hy)
     ·rw[if_neg hy]at ht;have hy:y=0:=by simpa using hy
      subst hy;have hml:=hpl rfl;have hs:=hG.b;have hm0:0<=m/\m<=1048576:=by
       have h1:(jJ h.c.w (h.p.sh.getD r default) ev).1.len=(jJ h.c.w (h.p.sh.getD r default) ev).1.base+((jJ h.c.w (h.p.sh.getD r default) ev).1.kept.length:Int):=rfl;have h2:=hs.b0;have h3:=hs.ln;omega
      have hre:=IG (XM (r:=(r:Int)) (m:=m) (by omega) (by omega) hm0.1 hm0.2);by_cases hmn:m=h.p.lenOf r
      ·rw[if_pos hmn]at ht;cases ht;exact .inl (AY h h hpb hup p' Uk.b r u m 0 c ev _ kC hft hrn hpu hmn (hre.nil rfl))
      ·rw[if_neg hmn]at ht;obtain⟨⟨h2,y⟩,hw⟩:∃q,lu (h.fU p') ⟨5,(r:Int),0,aJ,ev⟩=q:=⟨_,rfl⟩;rw[hw]at ht;dsimp only at ht;have hmr:=PV (r:=(r:Int)) (l:=ev) (by omega) (by omega) (by have:=hm.l;dsimp only at this;omega) λ e he=>(hall e he).1;have hwm:writeT (h.fU p') h2 ⟨5,(r:Int),0,aJ,ev⟩ y:=FT (h.fU p') h2 _ y hmr (by have:=hg.bs;show h.d.bs.length<=_;omega) hw;by_cases hy:y=0
       ·subst hy;rw[if_pos rfl]at ht;cases ht;exact .inr (F6 h h' hpb hup p' Uk.b r u m 0 c ev _ kC hft hrn hpu hmn hwm (hre.nil rfl))
       ·rw[if_neg hy]at ht;cases ht;exact .inr (by rw[show l7 (.inl y)=[]from rfl,List.append_nil];exact BU h h' hpb hup p' Uk.b r u m y c ev [] kC hft hrn hpu hmn hwm hy)
    ·rw[if_neg hk1]at ht;by_cases hk3:k=3
     ·subst hk3;rw[if_pos rfl]at ht;cases ht;refine .inl ?_;have hfm:=zl (w:=h.c.w) (r:=r) (c:=c) (l:=h.p.sh) (i:=0) λ s hs=>by
       obtain⟨i,hi,rfl⟩:=List.getElem_of_mem hs;have:=hg.p.s i hi;rw[List.getD,List.getElem?_eq_getElem hi]at this;exact⟨this.k,this.may⟩
      have hw4:=hg.w;have h5:=hg.p.h5;have hfl:(jT r c 0 h.p.sh).length<=20:=by
       have h1:=hfm.1;have h2:h.c.w*(h.p.sh.length:Int)<=4*(h.p.sh.length:Int):=Int.mul_le_mul_of_nonneg_right hw4 (by omega);omega
      have hre:=IG (XO (r:=(r:Int)) (by omega) (by omega) hfl hfm.2);by_cases h2:2<=h.p.sh.length
      ·exact GK h h hpb hup h.p hpb r u 0 0 c ev _ _ kC hft hrn (PE h.c.w h.p hpb r c hr h2) hre
      ·have h1:h.p.sh.length=1:=by have:=hg.p.h1;omega
       obtain rfl:r=0:=by omega
       have acZ:DW h.c.w h.p 0 c:=by
        obtain⟨up,cf,⟨sh,told⟩,d⟩:=h;dsimp only at h1⊢;have ht1:=hg.p.t;dsimp only at ht1;rcases sh with _|⟨s0,_|⟨s1,sh⟩⟩
        ·simp at h1
        ·rcases told with _|⟨t0,_|⟨t1,told⟩⟩
         ·simp at ht1
         ·exact Ny _ s0 t0 c
         ·simp at ht1
        ·simp at h1
       have he:jT 0 c 0 h.p.sh=[]:=by
        rcases hsh:h.p.sh with _|⟨s0,_|⟨s1,sh⟩⟩
        ·rfl
        ·simp[jT]
        ·rw[hsh]at h1;simp at h1
       rw[he]at hre⊢;exact F7 h h hpb hup h.p hpb 0 u 0 0 c ev _ kC hft hrn acZ (hre.nil rfl)
     ·rw[if_neg hk3]at ht;by_cases hk5:k=5
      ·subst hk5;rw[if_pos rfl]at ht;unfold ZA at ht;simp only[Int.toNat_natCast]at ht;have hack:zo h.c.w h.p (oO h.p r c) r c:=Nj h.c.w h.p hpb r c hr;have Uk:=(Xy hg.p r c).b;by_cases hsame:(oO h.p r c).told.getD r aJ=h.p.told.getD r aJ
       ·rw[if_pos hsame]at ht;cases ht;exact .inl (by rw[show l7 (.inl 0)=[]from rfl,List.append_nil];exact BX h h hpb hup _ Uk r u 0 0 c ev [] kC hft hrn (Nw h hpb _ Uk r u c ev kC hack hsame))
       ·rw[if_neg hsame]at ht;obtain⟨⟨h2,y⟩,hw⟩:∃q,lu (h.fU (oO h.p r c)) ⟨6,(r:Int),0,c,[]⟩=q:=⟨_,rfl⟩;rw[hw]at ht;cases ht;have hok:BG c=true:=by
         have:=hm.c;simp only[BG,this.1,this.2.1,this.2.2.1,this.2.2.2.1,this.2.2.2.2,Bool.and_self]
        have hwm:writeT (h.fU (oO h.p r c)) h2 ⟨6,(r:Int),0,c,[]⟩ y:=FT (h.fU (oO h.p r c)) h2 _ y (PW (by omega) (by omega) hok) (by have:=hg.bs;show h.d.bs.length<=_;omega) hw;exact .inr (by rw[show l7 (.inl y)=[]from rfl,List.append_nil];exact GL h h2 hpb hup _ Uk r u 0 y c ev [] kC hft hrn (XL h h2 hpb _ Uk r u c ev kC y hack hsame (hwm.nil rfl)))
      ·rw[if_neg hk5]at ht;cases ht;exact .inl (by rw[show l7 (.inl 23)=[]from rfl,List.append_nil];exact JY h hup k r u c ev hft hrn hk1 hk3 hk5)
theorem BZ:og []=none:=by unfold og;rw[if_pos (.inl (by decide))]
theorem Ul(x:Rc)(h:jR x=true)(i:Nat)(hi:i<(aH x).length):og ((aH x).take i)=none:=by
 have hb:=yV x h;have hs:=bP (eU x);have hl:(aH x).length=(ak (dF (eU x)).length).length+(dF (eU x)).length:=by unfold aH;rw[List.length_append]
 unfold og;by_cases hc:i<(ak (dF (eU x)).length).length
 ·have e:(aH x).take i=(ak (dF (eU x)).length).take i:=by unfold aH;rw[List.take_append_of_le_length (by omega)]
  rw[e,Tj hc,if_pos (.inl (by decide))]
 ·have e:(aH x).take i=ak (dF (eU x)).length++(dF (eU x)).take (i-(ak (dF (eU x)).length).length):=by
   unfold aH;rw[List.take_append,List.take_of_length_le (by omega)]
  rw[e,tq _ _ (by omega)];rw[if_pos (.inr (by rw[List.length_append,List.length_take];dsimp only;omega))]
structure Ry where
 (c:jv)(p:gX)(up cuts:Bool)(keep:Int)
def Ry.n(y:Ry):Nat:=y.c.n.toNat
def jy(y:Ry)(x:Rc)(p:gX):Ry×Bool:=
 (⟨y.c,if y.cuts=false\/((aH x).length:Int)<=y.keep then p else y.p,y.up&& !y.cuts,false,y.keep⟩, !y.cuts)
def Gf(y:Ry)(z:Rc):Ry×JZ:=
 if(iQ y.c.w y.n z.r.toNat z.ev y.p).2.2≠0 then(y,.inl (iQ y.c.w y.n z.r.toNat z.ev y.p).2.2)
 else if(iQ y.c.w y.n z.r.toNat z.ev y.p).2.1>((y.p.ps.getD z.r.toNat default).l.length:Int)then
  (if(jy y ⟨5,z.r,0,aJ,z.ev⟩ (iQ y.c.w y.n z.r.toNat z.ev y.p).1).2=false then((jy y ⟨5,z.r,0,aJ,z.ev⟩ (iQ y.c.w y.n z.r.toNat z.ev y.p).1).1,.inl 18)
  else((jy y ⟨5,z.r,0,aJ,z.ev⟩ (iQ y.c.w y.n z.r.toNat z.ev y.p).1).1,.inr (z.r.toNat,bg ⟨2,z.r,(iQ y.c.w y.n z.r.toNat z.ev y.p).2.1,aJ,[]⟩)))
 else(y,.inr (z.r.toNat,bg ⟨2,z.r,(iQ y.c.w y.n z.r.toNat z.ev y.p).2.1,aJ,[]⟩))
def NC(y:Ry)(z:Rc):Ry×JZ:=
 if(y.p.dS.getD z.r.toNat aJ).jn z.c≠y.p.dS.getD z.r.toNat aJ then
  (if(jy y ⟨6,z.r,0,z.c,[]⟩ (rG y.n y.p z.r.toNat z.c)).2=false then((jy y ⟨6,z.r,0,z.c,[]⟩ (rG y.n y.p z.r.toNat z.c)).1,.inl 18)
  else((jy y ⟨6,z.r,0,z.c,[]⟩ (rG y.n y.p z.r.toNat z.c)).1,.inl 0))
 else(y,.inl 0)
def J3(y:Ry)(z:Rc):Ry×JZ:=
 if y.c.n<=z.r then(y,.inl 23)
 else if z.k=1 then Gf y z
 else if z.k=3 then(y,.inr (z.r.toNat,bg ⟨4,z.r,0,aJ,pW z.r.toNat z.c 0 (y.p.ps.take y.n)⟩))
 else if z.k=5 then NC y z
 else(y,.inl 23)
def PX(y:Ry)(b:List UInt8):Ry×JZ:=
 if y.up=false then(y,.inl 18)
 else if(gV b).2≠0 then(y,.inl (gV b).2)
 else J3 y (gV b).1
def GN(p:Pt):Prop:= ∀s,s<p.sh.length->jw (p.sh.getD s default) (iZ p.told s)=p.sh.getD s default
structure l9(k:Nat)(h:Hb)(y:Ry):Prop where
 c:h.c=y.c
 g:HbG h
 may:xY y.c=true
 B:Dw y.n y.p
 G:Nr y.c.w (toP y.n y.p)
 I:GN (toP y.n y.p)
 up:h.up=y.up
 disk:∃l t,yX h.d.bs l t/\Chain y.c.w (vG y.n) l/\replay y.c.w y.n l=toP y.n y.p/\(h.up=true->t=[])
 on:h.up=true->h.p=toP y.n y.p/\h.d.down=false/\h.d.cut=y.cuts/\(y.cuts=true->h.d.keep=y.keep)
 bs:h.d.bs.length<=200100*k
theorem zq{most:Int}:∀{l:List Rc}{p:Pt}{x:Rc},Chain most p l->RcG most (l.foldl (jB most) p) x->Chain most p (l++[x])
 |[],_,_,_,hx=>⟨hx,trivial⟩
 |y::l,p,x,h,hx=>⟨h.1,zq (l:=l) (p:=jB most p y) h.2 hx⟩
theorem Df{most:Int}{n:Nat}{l:List Rc}{x:Rc}:replay most n (l++[x])=jB most (replay most n l) x:=by
 unfold replay;rw[List.foldl_append];rfl
theorem IJ{l:List Rc}{x:Rc}(h:yX bs l [])(hx:jR x=true):yX (bs++aH x) (l++[x]) []:=by
 have e:=h.eq;rw[List.append_nil]at e;refine⟨λ r hr=>?_, ?_,BZ⟩
 ·rcases List.mem_append.1 hr with hr|hr
  ·exact h.may r hr
  ·rw[List.mem_singleton.1 hr];exact hx
 ·rw[e,List.append_nil,Ir]
theorem Um{l:List Rc}{x:Rc}(h:yX bs l [])(hx:jR x=true){i:Nat}(hi:i<(aH x).length):yX (bs++(aH x).take i) l ((aH x).take i):=by
 have e:=h.eq;rw[List.append_nil]at e;exact⟨h.may,by rw[e],Ul x hx i hi⟩
theorem PY{n:Nat}{d:Dk}{l:List Rc}{x:Rc}(hr:yX d.bs l [])(hc:Chain w (vG n) l)(hx:jR x=true)(hg:RcG w (replay w n l) x)(hd:d.down=false):
  ∃l' t',yX (ny d (aH x)).1.bs l' t'/\Chain w (vG n) l'/\(d.cut=false->t'=[])/\
   replay w n l'=if d.cut=false\/((aH x).length:Int)<=d.keep then jB w (replay w n l) x else replay w n l:=by
 unfold ny;rw[if_neg (by rw[hd];simp)];cases hcut:d.cut with
 |false=>
  rw[if_neg (by simp)];exact⟨l++[x],[],IJ hr hx,zq hc hg,λ _=>rfl,by rw[Df,if_pos (.inl rfl)]⟩
 |true=>
  rw[if_pos rfl];have hk:=FH d.keep (aH x).length;by_cases h:((aH x).length:Int)<=d.keep
  ·have e:rE d.keep (aH x).length=((aH x).length:Int):=by unfold rE;split<;>(try split)<;>omega
   refine⟨l++[x],[], ?_,zq hc hg,(λ h=>by cases h),by rw[Df,if_pos (.inr h)]⟩;show yX (d.bs++(aH x).take (rE d.keep (aH x).length).toNat) (l++[x]) [];rw[e,Int.toNat_natCast,List.take_length];exact IJ hr hx
  ·have e:rE d.keep (aH x).length<((aH x).length:Int):=by
    have:=CY x;unfold rE;split<;>(try split)<;>omega
   exact⟨l,_,Um hr hx (by omega),hc,(λ h=>by cases h),by rw[if_neg (by rintro(h'|h');cases h';exact h h')]⟩
theorem DX{α:Type}{f:α->α}{d:α}:∀{r:Nat}{l:List α},(r<l.length->f (l.getD r d)=l.getD r d)->dL f r l=l
 |r,[],_=>by cases r<;>rfl
 |0,x::l,h=>by
  have:=h (by simp);show f x::l=x::l;rw[show f x=x from this]
 |r+1,x::l,h=>by
  show x::dL f r l=x::l;have e:dL f r l=l:=DX (d:=d) λ hr=>h (by simpa using hr);rw[e]
theorem ZC{p:Pt}(h:GN p)(r:Nat):oN p r=p:=by
 unfold oN;rw[DX (d:=default) λ hr=>h r hr]
theorem Un(h0:(jJ w s l).2=0)(hl:(jJ w s l).1.len=s.len):(jJ w s l).1=s:=by
 revert h0 hl;unfold jJ;split
 ·split
  ·intro _ _;rfl
  ·split
   ·intro h;simp at h
   ·rename_i hne _;intro _ hl;have:(s.base+((s.kept++newS s l).length:Int))=s.base+(s.kept.length:Int):=hl;rw[List.length_append]at this;exact absurd (List.eq_nil_of_length_eq_zero (by omega)) hne
 ·intro h;simp at h
theorem XP:s.len<=(jJ w s l).1.len:=by
 unfold jJ;split
 ·split
  ·exact Int.le_refl _
  ·split
   ·exact Int.le_refl _
   ·show s.base+(s.kept.length:Int)<=s.base+((s.kept++newS s l).length:Int);rw[List.length_append];omega
 ·exact Int.le_refl _
theorem IK{told:List dD}:∀{l:List jI}{i:Nat},(∀j,j<l.length->jw (l.getD j default) (iZ told (i+j))=l.getD j default)->lC told i l=l
 |[],_,_=>rfl
 |s::l,i,h=>by
  have h0:jw s (iZ told i)=s:=h 0 (by simp);show jw s (iZ told i)::lC told (i+1) l=s::l;rw[h0,IK λ j hj=>by
   have:=h (j+1) (by simpa using hj);rw[show i+(j+1)=i+1+j by omega]at this;exact this]
theorem ZE{p:Pt}(h:GN p)(hr:r<p.told.length)(he:(p.told.getD r aJ).jn c=p.told.getD r aJ):oO p r c=p:=by
 unfold oO;have e:dL (λ t=>t.jn c) r p.told=p.told:=DX (d:=aJ) λ _=>he;rw[e,IK λ j hj=>by rw[Nat.zero_add];exact h j hj]
theorem Uo{b L n b' L':Int}(hb:b'=qF b L n)(ht:b'+L'=b+L):qF b' L' n=b':=by
 unfold qF at hb⊢;rw[ht];by_cases h1:b+L<n
 ·rw[if_pos h1]at hb⊢;by_cases h2:b+L>b
  ·rw[if_pos h2]at hb;rw[if_neg (by omega)]
  ·rw[if_neg h2]at hb;rw[if_neg (by omega)]
 ·rw[if_neg h1]at hb⊢;by_cases h2:n>b
  ·rw[if_pos h2]at hb;rw[if_neg (by omega)]
  ·rw[if_neg h2]at hb;rw[if_neg (by omega)]
theorem IL(s:jI)(n:Int):jw (jw s n) n=jw s n:=by
 have hb:qF (jw s n).base ((jw s n).kept.length:Int) n=(jw s n).base:=Uo (b:=s.base) (L:=(s.kept.length:Int)) rfl (FU s n);show(⟨qF (jw s n).base ((jw s n).kept.length:Int) n,(jw s n).kept.drop (qF (jw s n).base ((jw s n).kept.length:Int) n-(jw s n).base).toNat⟩:jI)=jw s n;rw[hb,Int.sub_self];rfl
theorem PZ{p:Pt}(h:GN p):GN (pushP w r l p).1:=by
 unfold pushP;split
 ·intro s hs;have hl:(oN ⟨dL (λ _=>(jJ w (p.sh.getD r default) l).1) r p.sh,p.told⟩ r).sh.length=p.sh.length:=by
   show(dL _ r (dL _ r p.sh)).length=_;rw[dI,dI]
  rw[hl]at hs;have e:(oN ⟨dL (λ _=>(jJ w (p.sh.getD r default) l).1) r p.sh,p.told⟩ r).sh.getD s default=if s=r then jw (jJ w (p.sh.getD r default) l).1 (iZ p.told r)else p.sh.getD s default:=by
   show(dL _ r (dL _ r p.sh)).getD s default=_;rw[kR (by rw[dI];exact hs),kR hs];split<;>rfl
  show jw ((oN _ r).sh.getD s default) (iZ p.told s)=_;rw[e];split
  ·rename_i h;rw[h];exact IL _ _
  ·exact h s hs
 ·exact h
theorem Ur{p:Pt}(r:Nat)(c:dD):GN (oO p r c):=by
 intro s hs;have hs':s<p.sh.length:=by rw[show(oO p r c).sh.length=p.sh.length from zh _ _ _]at hs;exact hs
 show jw ((lC _ 0 p.sh).getD s default) _=(lC _ 0 p.sh).getD s default;rw[zi _ hs',Nat.zero_add];exact IL _ _
theorem XQ{s:AQ}(h:FV s)(hG:Zu w r (jJ w (toS s) l).1):FV (gB w s l).1:=by
 have e:=PO (most:=w) h l;rw[e]at hG;have h0:=h.c0;have h1:=h.c1;have hc:(gB w s l).1.cuts=s.cuts/\s.l.length<=(gB w s l).1.l.length:=by
  unfold gB;split
  ·split
   ·exact⟨rfl,Nat.le_refl _⟩
   ·exact⟨rfl,by rw[List.length_append];omega⟩
  ·exact⟨rfl,Nat.le_refl _⟩
 have hb:=hG.b.ln;have hb':(gB w s l).1.cuts+(((gB w s l).1.l.drop (gB w s l).1.cuts.toNat).length:Int)<=1048576:=hb;rw[List.length_drop]at hb';exact⟨by omega,by omega,by omega⟩
end Go.Proofs.YtopfgjgdadnjeaaGreat
