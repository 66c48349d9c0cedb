/-
  Contracts of the walk:HyJ,HyK,HyL,HyF,HyG.
-/
import Derived.Test.YtopfgjgdadnjeaaGreatHp22
import Derived.Test.YtopfgjgdadnjeaaGreatHp16
set_option maxHeartbeats 16000000
set_option maxRecDepth 100000
set_option linter.unusedVariables false
set_option linter.unusedSimpArgs false
namespace Go.Proofs.YtopfgjgdadnjeaaGreat
open Go.RowKit
variable{h:Hb}{u:Int}{ev:List Ev}{v w:List UInt8}{k n r:Nat}{F:Nat->List AV}{y:Ry}{c:dD}
def ZU:gX:=⟨List.replicate 5 ⟨0,[]⟩,List.replicate 5 aJ⟩
def RF(c:jv):Ry:=⟨c,ZU,true,false,0⟩
theorem Ye(c:jv):Closes [(0,FY c (List.replicate 5 aJ) 20 21 22 23 24),(20,rH c.w 0 (.v (.slice none 0 0))),(21,rH c.w 0 (.v (.slice none 0 0))),(22,rH c.w 0 (.v (.slice none 0 0))),(23,rH c.w 0 (.v (.slice none 0 0))),(24,rH c.w 0 (.v (.slice none 0 0)))] 0 (Ce c ZU):=by
 refine Closes.Xc (A:=[_]) (B:=[_,_,_,_]) (id:=20) (k:=2) (d:=30) (f:=jH []) (e:=84) (s:=12) ?_ rfl (by decide) rfl;refine Closes.Xc (A:=[_,_]) (B:=[_,_,_,_]) (id:=21) (k:=2) (d:=31) (f:=jH []) (e:=84) (s:=12) ?_ rfl (by decide) rfl;refine Closes.Xc (A:=[_,_,_]) (B:=[_,_,_,_]) (id:=22) (k:=2) (d:=32) (f:=jH []) (e:=84) (s:=12) ?_ rfl (by decide) rfl;refine Closes.Xc (A:=[_,_,_,_]) (B:=[_,_,_,_]) (id:=23) (k:=2) (d:=33) (f:=jH []) (e:=84) (s:=12) ?_ rfl (by decide) rfl;refine Closes.Xc (A:=[_,_,_,_,_]) (B:=[_,_,_,_]) (id:=24) (k:=2) (d:=34) (f:=jH []) (e:=84) (s:=12) ?_ rfl (by decide) rfl;exact jZ c ZU
theorem Yf(c:jv):au Tryz.prog 18 [] [c.av] (.box 0 0) [(0,.obs (Ce c ZU))]:=by
 refine au.cls (ho:=[]) (Ye c) ?_ rfl;obtain⟨cn,w,q,hh,l,p⟩:=c;dsimp only[jv.av,jv.cs,FY,rH,qQ,jM,List.append_nil,List.replicate,List.cons_append,List.nil_append];refine K1.M 0x21f Tryz.func18 70 ?_;repeat' ((conv=>whnf);first|refine K1.u ?_|refine aK.rounds 6 ?_|refine qM.mk (by decide) ?_|refine K1.o (id:=5) (nN [0,1,2,3,4,6,7] [(5,some [3]),(8,none),(9,some [3,6])]) ?_|refine K1.z ?_|refine K1.y (λ _=>?_) (λ _=>?_)|fail)
 all_goals(conv=>whnf)
 exact⟨[(71,0),(72,20),(73,21),(74,22),(75,23),(76,24)],rfl,rfl,⟨aY rfl,aY rfl,aY rfl,aY rfl,aY rfl,aY rfl,trivial⟩,rfl,rfl,aP⟩
theorem N7(c:jv)(hc:xY c=true):au Tryz.prog 8 [] [c.av] (.bJ [.box 0 0,.v (.int .i64 0)]) [(0,.obs (qm (RF c)))]:=by
 have hm:=Py c;rw[hc]at hm;have hp:=Yf c;refine au.cls (ho:=[]) (lJ (RF c)) ?_ rfl;obtain⟨cn,w,q,hh,l,p⟩:=c;dsimp only[jv.av,jv.cs,qN,Ci,Dx,RF,List.append_nil]at hm hp⊢;refine K1.M 0x4f Tryz.func8 70 ?_;repeat' ((conv=>whnf);first|refine K1.u ?_|refine K1.P1 hm ?_|refine K1.C 0 [] (hp) rfl ?_|refine K1.o (id:=3) (nN [0,1] ((2,some [1])::(3,none)::(4,some [1,0])::nN [5,6] [])) ?_|refine K1.z ?_|refine K1.y (λ _=>?_) (λ _=>?_)|fail)
 all_goals(conv=>whnf)
 exact⟨[(72,0),(71,9)],rfl,rfl,⟨aY rfl,aY rfl,trivial⟩,rfl,rfl,aP⟩
def jO(n:Nat)(F:Nat->List AV)(k r u:Int)(c:dD)(ev:List Ev)(x:Int):Prop:=aC Tryz.prog 50 [.sl 1 n true F] (.bJ [.agg [.v (.int .i64 k),.v (.int .i64 r),.v (.int .i64 u),.v (.int .i64 c.c0),.v (.int .i64 c.c1),.v (.int .i64 c.c2),.v (.int .i64 c.c3),.v (.int .i64 c.c4),.sl 12 ev.length true (jH ev)],.v (.int .i64 x)]) []
theorem Ko(y:Ry)(hup:y.up=false):au Tryz.prog 27 (qN y ()) [.box 0 0,.sl 1 n true F] (oW 18) (qN y ()):=by
 obtain⟨c,p,up,cuts,keep⟩:=y;dsimp only at hup;subst hup;dsimp only[qN,Ci,Dx,oW];refine K1.M 0x40000000001000004004000000400604020415ff3 Tryz.func27 70 ?_;repeat' ((conv=>whnf);first|refine K1.u ?_|refine K1.o (id:=14) (nN [0,1,2,3,4,5,6,7,8,9,10,11,12,13,14,15,16,17,18,19,20,21,22,23] ((24,some [15,13,11,10,6,7,4,2,21,19])::nN [25,26] [])) ?_|refine K1.o (id:=24) (nN [0,1,2,3,4,5,6,7,8,9,10,11,13,14,15,16,17,18,19,20,21,22] ((12,some [11,9,5,6,3,1])::nN [23,24,25,26,27,28,29,30,31] ((32,some [11,9,5,6,3,1,23,22,18,19,16,14,29,27])::nN [33,34] []))) ?_|refine K1.z ?_|refine K1.y (λ _=>?_) (λ _=>?_)|fail)
 all_goals(conv=>whnf)
 exact⟨[],rfl,rfl,⟨aY rfl,aY rfl,trivial⟩,rfl,rfl,aP⟩
theorem Di(y:Ry)(hup:y.up=true)(x k r u:Int)(c:dD)(ev:List Ev)(hft:jO n F k r u c ev x)(hx:x≠0\/y.c.n<=r):
  au Tryz.prog 27 (qN y ()) [.box 0 0,.sl 1 n true F] (oW (if x=0 then 23 else x)) (qN y ()):=by
 obtain⟨c,p,up,cuts,keep⟩:=y;dsimp only at hup hx;subst hup;by_cases h0:x=0
 ·subst h0;have hx:c.n<=r:=hx.elim (λ h=>absurd rfl h) id;rw[if_pos rfl];dsimp only[qN,Ci,Dx,oW,jO]at hft⊢;refine K1.M 0x40000000001000004004000000400604020415ff3 Tryz.func27 70 ?_;repeat' ((conv=>whnf);first|refine K1.u ?_|refine K1.P1 hft ?_|refine K1.o (id:=14) (nN [0,1,2,3,4,5,6,7,8,9,10,11,12,13,14,15,16,17,18,19,20,21,22,23] ((24,some [15,13,11,10,6,7,4,2,21,19])::nN [25,26] [])) ?_|refine K1.o (id:=24) (nN [0,1,2,3,4,5,6,7,8,9,10,11,13,14,15,16,17,18,19,20,21,22] ((12,some [11,9,5,6,3,1])::nN [23,24,25,26,27,28,29,30,31] ((32,some [11,9,5,6,3,1,23,22,18,19,16,14,29,27])::nN [33,34] []))) ?_|refine K1.z ?_|refine K1.y (λ _=>?_) (λ _=>?_)|fail)
  all_goals(conv=>whnf)
  exact⟨[],rfl,rfl,⟨aY rfl,aY rfl,trivial⟩,rfl,rfl,aP⟩
 ·rw[if_neg h0];clear hx;dsimp only[qN,Ci,Dx,oW,jO]at hft⊢;refine K1.M 0x40000000001000004004000000400604020415ff3 Tryz.func27 70 ?_;repeat' ((conv=>whnf);first|refine K1.u ?_|refine K1.P1 hft ?_|refine K1.o (id:=14) (nN [0,1,2,3,4,5,6,7,8,9,10,11,12,13,14,15,16,17,18,19,20,21,22,23] ((24,some [15,13,11,10,6,7,4,2,21,19])::nN [25,26] [])) ?_|refine K1.o (id:=24) (nN [0,1,2,3,4,5,6,7,8,9,10,11,13,14,15,16,17,18,19,20,21,22] ((12,some [11,9,5,6,3,1])::nN [23,24,25,26,27,28,29,30,31] ((32,some [11,9,5,6,3,1,23,22,18,19,16,14,29,27])::nN [33,34] []))) ?_|refine K1.z ?_|refine K1.y (λ _=>?_) (λ _=>?_)|fail)
  all_goals(conv=>whnf)
  exact⟨[],rfl,rfl,⟨aY rfl,aY rfl,trivial⟩,rfl,rfl,aP⟩
def kU(c:jv)(p:gX):Prop:=au Tryz.prog 51 (oP c p) [.box 0 0] (.box 1 0) ((1,.obs (Ce c p))::oP c p)
def pz(c:jv)(p p':gX)(r:Nat)(l:List Ev)(u x:Int):Prop:=au Tryz.prog 52 [(0,.obs (Ce c p))] [.box 0 0,.v (.int .i64 (r:Int)),.sl 12 l.length true (jH l)] (.bJ [.v (.int .i64 u),.v (.int .i64 x)]) [(0,.obs (Ce c p'))]
theorem Kq(y:Ry)(hup:y.up=true)(k r u:Int)(c:dD)(ev:List Ev)(hft:jO n F k r u c ev 0)(hr:r<y.c.n)(h1:k≠1)(h3:k≠3)(h5:k≠5)(hcp:kU y.c y.p):
  au Tryz.prog 27 (qN y ()) [.box 0 0,.sl 1 n true F] (oW 23) (IX y):=by
 obtain⟨yc,p,up,cuts,keep⟩:=y;dsimp only at hup hr hcp;subst hup;have hop:=ku yc p;dsimp only[qN,IX,KF,Ci,Dx,oP,AU,FY,rH,bU,qQ,jM,oW,jO,kU,gX.s,List.cons_append,List.nil_append]at hft hcp hop⊢;refine K1.M 0x40000000001000004004000000400604020415ff3 Tryz.func27 70 ?_;repeat' ((conv=>whnf);first|refine K1.u ?_|refine K1.P1 hft ?_|refine K1.C 1 [(0,_),(20,_),(21,_),(22,_),(23,_),(24,_),(30,_),(31,_),(32,_),(33,_),(34,_)] (hcp) rfl ?_|refine fV.imp cZ (fF cZ _) ⟨_,_,Tryz.func51,rfl,rfl⟩ (kS.open 100 hop (List.Perm.swap _ _ _) rfl) rfl ?_|refine K1.o (id:=14) (nN [0,1,2,3,4,5,6,7,8,9,10,11,12,13,14,15,16,17,18,19,20,21,22,23] ((24,some [15,13,11,10,6,7,4,2,21,19])::nN [25,26] [])) ?_|refine K1.o (id:=24) (nN [0,1,2,3,4,5,6,7,8,9,10,11,13,14,15,16,17,18,19,20,21,22] ((12,some [11,9,5,6,3,1])::nN [23,24,25,26,27,28,29,30,31] ((32,some [11,9,5,6,3,1,23,22,18,19,16,14,29,27])::nN [33,34] []))) ?_|refine K1.o (id:=1) (nN [0,1,2,3,4,5,6,7,8] [(9,some [7,5,3,1]),(10,none)]) ?_|refine K1.o (id:=5) (nN [0,1,2,3,4,5,6,7,8,9,10,11,12,13,14,15,16,17,18,19,21,22,23,24,25,26,27,28,29,33,34] [(20,some []),(30,some [29,27,26,23]),(31,none),(32,some [29,27,26,23,19,17,16,13,10,8,7,4]),(35,none),(36,some [29,27,26,23,19,17,16,13,10,8,7,4,33])]) ?_|refine K1.z ?_|refine K1.y (λ _=>?_) (λ _=>?_)|fail)
 all_goals(conv=>whnf)
 refine⟨[(9,3)],rfl,rfl, ?_,rfl,rfl,aP⟩;repeat' first|exact trivial|refine⟨aY rfl, ?_⟩
def sF(x:Rc)(w:List UInt8):Prop:= ∀d:Nat,aC Tryz.prog 93 [.agg [.v (.int .i64 x.k),.v (.int .i64 x.r),.v (.int .i64 x.u),.v (.int .i64 x.c.c0),.v (.int .i64 x.c.c1),.v (.int .i64 x.c.c2),.v (.int .i64 x.c.c3),.v (.int .i64 x.c.c4),.sl 12 x.ev.length true (jH x.ev)]] (.bJ [.own d,.v (.int .i64 0)]) [(d,fJ w)]
def uU(x:Rc)(w:List UInt8):Prop:= ∀d:Nat,aC Tryz.prog 13 [x.nilA] (.bJ [.own d,.v (.int .i64 0)]) [(d,fJ w)]
theorem N8(y:Ry)(hup:y.up=true)(r:Nat)(u x:Int)(c:dD)(ev:List Ev)(p':gX)(hft:jO n F 1 r u c ev 0)(hr:(r:Int)<y.c.n)(hcp:kU y.c y.p)(hpu:pz y.c y.p p' r ev 0 x)(hx:x≠0):
  au Tryz.prog 27 (qN y ()) [.box 0 0,.sl 1 n true F] (oW x) (IX y):=by
 obtain⟨yc,p,up,cuts,keep⟩:=y;dsimp only at hup hr hcp hpu;subst hup;have hop:=ku yc p;dsimp only[qN,IX,KF,Ci,Dx,oP,AU,FY,rH,bU,fJ,qQ,jM,oW,lU,jO,kU,pz,sF,uU,gX.s,List.cons_append,List.nil_append]at hft hcp hpu hop⊢;refine K1.M 0x40000000001000004004000000400604020415ff3 Tryz.func27 70 ?_;repeat' ((conv=>whnf);first|refine K1.u ?_|refine K1.P1 hft ?_|refine K1.C 1 [(0,_),(20,_),(21,_),(22,_),(23,_),(24,_),(30,_),(31,_),(32,_),(33,_),(34,_)] (hcp) rfl ?_|refine K1.C 1 [(0,_)] (hpu) rfl ?_|refine fV.imp cZ (fF cZ _) ⟨_,_,Tryz.func51,rfl,rfl⟩ (kS.open 100 hop (List.Perm.swap _ _ _) rfl) rfl ?_|refine K1.o (id:=14) (nN [0,1,2,3,4,5,6,7,8,9,10,11,12,13,14,15,16,17,18,19,20,21,22,23] ((24,some [15,13,11,10,6,7,4,2,21,19])::nN [25,26] [])) ?_|refine K1.o (id:=24) (nN [0,1,2,3,4,5,6,7,8,9,10,11,13,14,15,16,17,18,19,20,21,22] ((12,some [11,9,5,6,3,1])::nN [23,24,25,26,27,28,29,30,31] ((32,some [11,9,5,6,3,1,23,22,18,19,16,14,29,27])::nN [33,34] []))) ?_|refine K1.o (id:=1) (nN [0,1,2,3,4,5,6,7,8] [(9,some [7,5,3,1]),(10,none)]) ?_|refine K1.o (id:=5) (nN [0,1,2,3,4,5,6,7,8,9,10,11,12,13,14,15,16,17,18,19,21,22,23,24,25,26,27,28,29,33,34] [(20,some []),(30,some [29,27,26,23]),(31,none),(32,some [29,27,26,23,19,17,16,13,10,8,7,4]),(35,none),(36,some [29,27,26,23,19,17,16,13,10,8,7,4,33])]) ?_|refine K1.z ?_|refine K1.y (λ _=>?_) (λ _=>?_)|fail)
 all_goals(conv=>whnf)
 refine⟨[(9,3)],rfl,rfl, ?_,rfl,rfl,aP⟩;repeat' first|exact trivial|refine⟨aY rfl, ?_⟩
theorem Kr(y:Ry)(hup:y.up=true)(r:Nat)(kC:r<5)(u m:Int)(c:dD)(ev:List Ev)(p':gX)(hft:jO n F 1 r u c ev 0)(hr:(r:Int)<y.c.n)(hcp:kU y.c y.p)(hpu:pz y.c y.p p' r ev m 0)(hm:¬ ((y.p.ps.getD r default).l.length:Int)<m)(hw:uU ⟨2,r,m,aJ,[]⟩ w):
  au Tryz.prog 27 (qN y ()) [.box 0 0,.sl 1 n true F] (lU r) (IX y++[(1,fJ w)]):=by
 obtain⟨yc,p,up,cuts,keep⟩:=y;dsimp only at hup hr hcp hpu hm;subst hup;have hop:=ku yc p;dsimp only[qN,IX,KF,Ci,Dx,oP,AU,FY,rH,bU,fJ,qQ,jM,oW,lU,jO,kU,pz,sF,uU,gX.s,List.cons_append,List.nil_append,Rc.nilA,aJ]at hft hcp hpu hop hw⊢;rcases zn kC with rfl|rfl|rfl|rfl|rfl;all_goals
  refine K1.M 0x40000000001000004004000000400604020415ff3 Tryz.func27 70 ?_;repeat' ((conv=>whnf);first|refine K1.u ?_|refine K1.P1 hft ?_|refine K1.C 1 [(0,_),(20,_),(21,_),(22,_),(23,_),(24,_),(30,_),(31,_),(32,_),(33,_),(34,_)] (hcp) rfl ?_|refine K1.C 1 [(0,_)] (hpu) rfl ?_|refine K1.F1 (hw _) ?_|refine fV.imp cZ (fF cZ _) ⟨_,_,Tryz.func51,rfl,rfl⟩ (kS.open 100 hop (List.Perm.swap _ _ _) rfl) rfl ?_|refine qM.mk (by decide) ?_|refine K1.o (id:=14) (nN [0,1,2,3,4,5,6,7,8,9,10,11,12,13,14,15,16,17,18,19,20,21,22,23] ((24,some [15,13,11,10,6,7,4,2,21,19])::nN [25,26] [])) ?_|refine K1.o (id:=24) (nN [0,1,2,3,4,5,6,7,8,9,10,11,13,14,15,16,17,18,19,20,21,22] ((12,some [11,9,5,6,3,1])::nN [23,24,25,26,27,28,29,30,31] ((32,some [11,9,5,6,3,1,23,22,18,19,16,14,29,27])::nN [33,34] []))) ?_|refine K1.o (id:=1) (nN [0,1,2,3,4,5,6,7,8] [(9,some [7,5,3,1]),(10,none)]) ?_|refine K1.o (id:=5) (nN [0,1,2,3,4,5,6,7,8,9,10,11,12,13,14,15,16,17,18,19,21,22,23,24,25,26,27,28,29,33,34] [(20,some []),(30,some [29,27,26,23]),(31,none),(32,some [29,27,26,23,19,17,16,13,10,8,7,4]),(35,none),(36,some [29,27,26,23,19,17,16,13,10,8,7,4,33])]) ?_|refine K1.z ?_|refine K1.y (λ _=>?_) (λ _=>?_)|fail)
  all_goals(conv=>whnf)
  refine⟨[(9,3),(73,1)],rfl,rfl, ?_,rfl,rfl,aP⟩;repeat' first|exact trivial|refine⟨aY rfl, ?_⟩
theorem Qg(y:Ry)(hup:y.up=true)(r:Nat)(kC:r<5)(u m:Int)(c:dD)(ev:List Ev)(p':gX)(hft:jO n F 1 r u c ev 0)(hr:(r:Int)<y.c.n)(hcp:kU y.c y.p)(hpu:pz y.c y.p p' r ev m 0)(hm:((y.p.ps.getD r default).l.length:Int)<m)(hw:uU ⟨2,r,m,aJ,[]⟩ w)(hv:sF ⟨5,r,0,aJ,ev⟩ v)(hct:y.cuts=false):
  au Tryz.prog 27 (qN y ()) [.box 0 0,.sl 1 n true F] (lU r) (Ci 2 ⟨y.c,p',true,false,y.keep⟩++[(1,fJ w)]):=by
 obtain⟨yc,p,up,cuts,keep⟩:=y;dsimp only at hup hr hcp hpu hm hct;subst hup hct;have hop:=ku yc p;dsimp only[qN,IX,KF,Ci,Dx,oP,AU,FY,rH,bU,fJ,qQ,jM,oW,lU,jO,kU,pz,sF,uU,gX.s,List.cons_append,List.nil_append,Rc.nilA,aJ]at hft hcp hpu hop hw hv⊢;rcases zn kC with rfl|rfl|rfl|rfl|rfl;all_goals
  refine K1.M 0x40000000001000004004000000400604020415ff3 Tryz.func27 70 ?_;repeat' ((conv=>whnf);first|refine K1.u ?_|refine K1.P1 hft ?_|refine K1.C 1 [(0,_),(20,_),(21,_),(22,_),(23,_),(24,_),(30,_),(31,_),(32,_),(33,_),(34,_)] (hcp) rfl ?_|refine K1.C 1 [(0,_)] (hpu) rfl ?_|refine K1.F1 (hw _) ?_|refine K1.F1 (hv _) ?_|refine fV.imp cZ (fF cZ _) ⟨_,_,Tryz.func51,rfl,rfl⟩ (kS.open 100 hop (List.Perm.swap _ _ _) rfl) rfl ?_|refine qM.mk (by decide) ?_|refine K1.I 0x80100002d7 Tryz.func53 ?_|refine K1.I 0x1 Tryz.func22 ?_|refine K1.o (id:=14) (nN [0,1,2,3,4,5,6,7,8,9,10,11,12,13,14,15,16,17,18,19,20,21,22,23] ((24,some [15,13,11,10,6,7,4,2,21,19])::nN [25,26] [])) ?_|refine K1.o (id:=24) (nN [0,1,2,3,4,5,6,7,8,9,10,11,13,14,15,16,17,18,19,20,21,22] ((12,some [11,9,5,6,3,1])::nN [23,24,25,26,27,28,29,30,31] ((32,some [11,9,5,6,3,1,23,22,18,19,16,14,29,27])::nN [33,34] []))) ?_|refine K1.o (id:=1) (nN [0,1,2,3,4,5,6,7,8] [(9,some [7,5,3,1]),(10,none)]) ?_|refine K1.o (id:=5) (nN [0,1,2,3,4,5,6,7,8,9,10,11,12,13,14,15,16,17,18,19,21,22,23,24,25,26,27,28,29,33,34] [(20,some []),(30,some [29,27,26,23]),(31,none),(32,some [29,27,26,23,19,17,16,13,10,8,7,4]),(35,none),(36,some [29,27,26,23,19,17,16,13,10,8,7,4,33])]) ?_|refine K1.z ?_|refine K1.y (λ _=>?_) (λ _=>?_)|fail)
  all_goals(conv=>whnf)
  refine⟨[(71,2),(75,1)],rfl,rfl, ?_,rfl,rfl,aP⟩;repeat' first|exact trivial|refine⟨aY rfl, ?_⟩
theorem N9(y:Ry)(hup:y.up=true)(r:Nat)(kC:r<5)(u m:Int)(c:dD)(ev:List Ev)(p':gX)(hft:jO n F 1 r u c ev 0)(hr:(r:Int)<y.c.n)(hcp:kU y.c y.p)(hpu:pz y.c y.p p' r ev m 0)(hm:((y.p.ps.getD r default).l.length:Int)<m)(hv:sF ⟨5,r,0,aJ,ev⟩ v)(hct:y.cuts=true)(hk:(v.length:Int)<=y.keep):
  au Tryz.prog 27 (qN y ()) [.box 0 0,.sl 1 n true F] (oW 18) (Ci 2 ⟨y.c,p',false,false,y.keep⟩):=by
 obtain⟨yc,p,up,cuts,keep⟩:=y;dsimp only at hup hr hcp hpu hm hct hk;subst hup hct;have hop:=ku yc p;dsimp only[qN,IX,KF,Ci,Dx,oP,AU,FY,rH,bU,fJ,qQ,jM,oW,lU,jO,kU,pz,sF,uU,gX.s,List.cons_append,List.nil_append,Rc.nilA,aJ]at hft hcp hpu hop hv⊢;rcases zn kC with rfl|rfl|rfl|rfl|rfl;all_goals
  refine K1.M 0x40000000001000004004000000400604020415ff3 Tryz.func27 70 ?_;repeat' ((conv=>whnf);first|refine K1.u ?_|refine K1.P1 hft ?_|refine K1.C 1 [(0,_),(20,_),(21,_),(22,_),(23,_),(24,_),(30,_),(31,_),(32,_),(33,_),(34,_)] (hcp) rfl ?_|refine K1.C 1 [(0,_)] (hpu) rfl ?_|refine K1.F1 (hv _) ?_|refine fV.imp cZ (fF cZ _) ⟨_,_,Tryz.func51,rfl,rfl⟩ (kS.open 100 hop (List.Perm.swap _ _ _) rfl) rfl ?_|refine qM.mk (by decide) ?_|refine K1.I 0x80100002d7 Tryz.func53 ?_|refine K1.I 0x1 Tryz.func22 ?_|refine K1.o (id:=14) (nN [0,1,2,3,4,5,6,7,8,9,10,11,12,13,14,15,16,17,18,19,20,21,22,23] ((24,some [15,13,11,10,6,7,4,2,21,19])::nN [25,26] [])) ?_|refine K1.o (id:=24) (nN [0,1,2,3,4,5,6,7,8,9,10,11,13,14,15,16,17,18,19,20,21,22] ((12,some [11,9,5,6,3,1])::nN [23,24,25,26,27,28,29,30,31] ((32,some [11,9,5,6,3,1,23,22,18,19,16,14,29,27])::nN [33,34] []))) ?_|refine K1.o (id:=1) (nN [0,1,2,3,4,5,6,7,8] [(9,some [7,5,3,1]),(10,none)]) ?_|refine K1.o (id:=5) (nN [0,1,2,3,4,5,6,7,8,9,10,11,12,13,14,15,16,17,18,19,21,22,23,24,25,26,27,28,29,33,34] [(20,some []),(30,some [29,27,26,23]),(31,none),(32,some [29,27,26,23,19,17,16,13,10,8,7,4]),(35,none),(36,some [29,27,26,23,19,17,16,13,10,8,7,4,33])]) ?_|refine K1.z ?_|refine K1.y (λ _=>?_) (λ _=>?_)|fail)
  all_goals(conv=>whnf)
  refine⟨[(71,2)],rfl,rfl, ?_,rfl,rfl,aP⟩;repeat' first|exact trivial|refine⟨aY rfl, ?_⟩
theorem Kt(y:Ry)(hup:y.up=true)(r:Nat)(kC:r<5)(u m:Int)(c:dD)(ev:List Ev)(p':gX)(hft:jO n F 1 r u c ev 0)(hr:(r:Int)<y.c.n)(hcp:kU y.c y.p)(hpu:pz y.c y.p p' r ev m 0)(hm:((y.p.ps.getD r default).l.length:Int)<m)(hv:sF ⟨5,r,0,aJ,ev⟩ v)(hct:y.cuts=true)(hk:¬ (v.length:Int)<=y.keep):
  au Tryz.prog 27 (qN y ()) [.box 0 0,.sl 1 n true F] (oW 18) (IX ⟨y.c,y.p,false,false,y.keep⟩):=by
 obtain⟨yc,p,up,cuts,keep⟩:=y;dsimp only at hup hr hcp hpu hm hct hk;subst hup hct;have hop:=ku yc p;dsimp only[qN,IX,KF,Ci,Dx,oP,AU,FY,rH,bU,fJ,qQ,jM,oW,lU,jO,kU,pz,sF,uU,gX.s,List.cons_append,List.nil_append,Rc.nilA,aJ]at hft hcp hpu hop hv⊢;rcases zn kC with rfl|rfl|rfl|rfl|rfl;all_goals
  refine K1.M 0x40000000001000004004000000400604020415ff3 Tryz.func27 70 ?_;repeat' ((conv=>whnf);first|refine K1.u ?_|refine K1.P1 hft ?_|refine K1.C 1 [(0,_),(20,_),(21,_),(22,_),(23,_),(24,_),(30,_),(31,_),(32,_),(33,_),(34,_)] (hcp) rfl ?_|refine K1.C 1 [(0,_)] (hpu) rfl ?_|refine K1.F1 (hv _) ?_|refine fV.imp cZ (fF cZ _) ⟨_,_,Tryz.func51,rfl,rfl⟩ (kS.open 100 hop (List.Perm.swap _ _ _) rfl) rfl ?_|refine qM.mk (by decide) ?_|refine K1.I 0x80100002d7 Tryz.func53 ?_|refine K1.I 0x1 Tryz.func22 ?_|refine K1.o (id:=14) (nN [0,1,2,3,4,5,6,7,8,9,10,11,12,13,14,15,16,17,18,19,20,21,22,23] ((24,some [15,13,11,10,6,7,4,2,21,19])::nN [25,26] [])) ?_|refine K1.o (id:=24) (nN [0,1,2,3,4,5,6,7,8,9,10,11,13,14,15,16,17,18,19,20,21,22] ((12,some [11,9,5,6,3,1])::nN [23,24,25,26,27,28,29,30,31] ((32,some [11,9,5,6,3,1,23,22,18,19,16,14,29,27])::nN [33,34] []))) ?_|refine K1.o (id:=1) (nN [0,1,2,3,4,5,6,7,8] [(9,some [7,5,3,1]),(10,none)]) ?_|refine K1.o (id:=5) (nN [0,1,2,3,4,5,6,7,8,9,10,11,12,13,14,15,16,17,18,19,21,22,23,24,25,26,27,28,29,33,34] [(20,some []),(30,some [29,27,26,23]),(31,none),(32,some [29,27,26,23,19,17,16,13,10,8,7,4]),(35,none),(36,some [29,27,26,23,19,17,16,13,10,8,7,4,33])]) ?_|refine K1.z ?_|refine K1.y (λ _=>?_) (λ _=>?_)|fail)
  all_goals(conv=>whnf)
  refine⟨[(9,3)],rfl,rfl, ?_,rfl,rfl,aP⟩;repeat' first|exact trivial|refine⟨aY rfl, ?_⟩
def Ku(c:jv)(p:gX)(r:Nat)(k:dD)(l:List Ev):Prop:=au Tryz.prog 54 [(0,.obs (Ce c p))] [.box 0 0,.v (.int .i64 (r:Int)),.agg (jM k)] (.bJ [.own 1,.v (.int .i64 0)]) [(0,.obs (Ce c p)),(1,bU l)]
def Kv(x:Rc)(w:List UInt8):Prop:= ∀d:Nat,aC Tryz.prog 13 [x.av] (.bJ [.own d,.v (.int .i64 0)]) [(d,fJ w)]
theorem Yg(y:Ry)(hup:y.up=true)(r:Nat)(u:Int)(c:dD)(ev l:List Ev)(hft:jO n F 3 r u c ev 0)(hr:(r:Int)<y.c.n)(hcp:kU y.c y.p)(hfe:Ku y.c y.p r c l)(hw:Kv ⟨4,r,0,aJ,l⟩ w):
  au Tryz.prog 27 (qN y ()) [.box 0 0,.sl 1 n true F] (lU r) (IX y++[(1,fJ w)]):=by
 obtain⟨yc,p,up,cuts,keep⟩:=y;dsimp only at hup hr hcp hfe;subst hup;have hop:=ku yc p;dsimp only[qN,IX,KF,Ci,Dx,oP,AU,FY,rH,bU,fJ,qQ,jM,oW,lU,jO,kU,pz,sF,uU,gX.s,List.cons_append,List.nil_append,Ku,Kv,Rc.av,Rc.cs,aJ]at hft hcp hfe hop hw⊢;refine K1.M 0x40000000001000004004000000400604020415ff3 Tryz.func27 70 ?_;repeat' ((conv=>whnf);first|refine K1.u ?_|refine K1.P1 hft ?_|refine K1.C 1 [(0,_),(20,_),(21,_),(22,_),(23,_),(24,_),(30,_),(31,_),(32,_),(33,_),(34,_)] (hcp) rfl ?_|refine K1.C 1 [(0,_)] (hfe) rfl ?_|refine K1.F1 (hw _) ?_|refine fV.imp cZ (fF cZ _) ⟨_,_,Tryz.func51,rfl,rfl⟩ (kS.open 100 hop (List.Perm.swap _ _ _) rfl) rfl ?_|refine K1.o (id:=14) (nN [0,1,2,3,4,5,6,7,8,9,10,11,12,13,14,15,16,17,18,19,20,21,22,23] ((24,some [15,13,11,10,6,7,4,2,21,19])::nN [25,26] [])) ?_|refine K1.o (id:=24) (nN [0,1,2,3,4,5,6,7,8,9,10,11,13,14,15,16,17,18,19,20,21,22] ((12,some [11,9,5,6,3,1])::nN [23,24,25,26,27,28,29,30,31] ((32,some [11,9,5,6,3,1,23,22,18,19,16,14,29,27])::nN [33,34] []))) ?_|refine K1.o (id:=1) (nN [0,1,2,3,4,5,6,7,8] [(9,some [7,5,3,1]),(10,none)]) ?_|refine K1.o (id:=5) (nN [0,1,2,3,4,5,6,7,8,9,10,11,12,13,14,15,16,17,18,19,21,22,23,24,25,26,27,28,29,33,34] [(20,some []),(30,some [29,27,26,23]),(31,none),(32,some [29,27,26,23,19,17,16,13,10,8,7,4]),(35,none),(36,some [29,27,26,23,19,17,16,13,10,8,7,4,33])]) ?_|refine K1.z ?_|refine K1.y (λ _=>?_) (λ _=>?_)|fail)
 all_goals(conv=>whnf)
 refine⟨[(9,3),(73,1)],rfl,rfl, ?_,rfl,rfl,aP⟩;repeat' first|exact trivial|refine⟨aY rfl, ?_⟩
def Bc(c:jv)(p p':gX)(r:Nat)(k:dD):Prop:=au Tryz.prog 55 [(0,.obs (Ce c p))] [.box 0 0,.v (.int .i64 (r:Int)),.agg (jM k)] (.v (.int .i64 0)) [(0,.obs (Ce c p'))]
def rP(x:Rc)(w:List UInt8):Prop:= ∀d:Nat,aC Tryz.prog 93 [x.nilA] (.bJ [.own d,.v (.int .i64 0)]) [(d,fJ w)]
theorem Oa(y:Ry)(hup:y.up=true)(r:Nat)(kC:r<5)(u:Int)(c:dD)(ev:List Ev)(p':gX)(hft:jO n F 5 r u c ev 0)(hr:(r:Int)<y.c.n)(hcp:kU y.c y.p)(hak:Bc y.c y.p p' r c)(he:(y.p.dS.getD r aJ).jn c=y.p.dS.getD r aJ):
  au Tryz.prog 27 (qN y ()) [.box 0 0,.sl 1 n true F] (oW 0) (IX y):=by
 obtain⟨yc,p,up,cuts,keep⟩:=y;dsimp only at hup hr hcp hak he;subst hup;have hop:=ku yc p;have hjn:=qH;dsimp only[qN,IX,KF,Ci,Dx,oP,AU,FY,rH,bU,fJ,qQ,jM,oW,lU,jO,kU,Bc,rP,gX.s,List.cons_append,List.nil_append,Rc.nilA,Rc.nilA,aJ]at hft hcp hak hop hjn⊢;rcases zn kC with rfl|rfl|rfl|rfl|rfl;all_goals
  refine K1.M 0x40000000001000004004000000400604020415ff3 Tryz.func27 70 ?_;repeat' ((conv=>whnf);first|refine K1.u ?_|refine K1.P1 hft ?_|refine K1.C 1 [(0,_),(20,_),(21,_),(22,_),(23,_),(24,_),(30,_),(31,_),(32,_),(33,_),(34,_)] (hcp) rfl ?_|refine K1.C 1 [(0,_)] (hak) rfl ?_|refine K1.P1 (hjn _ _) ?_|refine fV.imp cZ (fF cZ _) ⟨_,_,Tryz.func51,rfl,rfl⟩ (kS.open 100 hop (List.Perm.swap _ _ _) rfl) rfl ?_|refine qM.mk (by decide) ?_|refine GZ.mk (dD.vs (dD.jn _ c)) (dD.vs _) (dD.jn _ c=_) rfl rfl (mZ _ _) ?_|refine K1.I 0x80100002d7 Tryz.func53 ?_|refine K1.I 0x1 Tryz.func22 ?_|refine K1.o (id:=14) (nN [0,1,2,3,4,5,6,7,8,9,10,11,12,13,14,15,16,17,18,19,20,21,22,23] ((24,some [15,13,11,10,6,7,4,2,21,19])::nN [25,26] [])) ?_|refine K1.o (id:=24) (nN [0,1,2,3,4,5,6,7,8,9,10,11,13,14,15,16,17,18,19,20,21,22] ((12,some [11,9,5,6,3,1])::nN [23,24,25,26,27,28,29,30,31] ((32,some [11,9,5,6,3,1,23,22,18,19,16,14,29,27])::nN [33,34] []))) ?_|refine K1.o (id:=1) (nN [0,1,2,3,4,5,6,7,8] [(9,some [7,5,3,1]),(10,none)]) ?_|refine K1.o (id:=5) (nN [0,1,2,3,4,5,6,7,8,9,10,11,12,13,14,15,16,17,18,19,21,22,23,24,25,26,27,28,29,33,34] [(20,some []),(30,some [29,27,26,23]),(31,none),(32,some [29,27,26,23,19,17,16,13,10,8,7,4]),(35,none),(36,some [29,27,26,23,19,17,16,13,10,8,7,4,33])]) ?_|refine K1.z ?_|refine K1.y (λ _=>?_) (λ _=>?_)|fail)
  all_goals(conv=>whnf)
  refine⟨[(9,3)],rfl,rfl, ?_,rfl,rfl,aP⟩;repeat' first|exact trivial|refine⟨aY rfl, ?_⟩
theorem UF(y:Ry)(hup:y.up=true)(r:Nat)(kC:r<5)(u:Int)(c:dD)(ev:List Ev)(p':gX)(hft:jO n F 5 r u c ev 0)(hr:(r:Int)<y.c.n)(hcp:kU y.c y.p)(hak:Bc y.c y.p p' r c)(hne:(y.p.dS.getD r aJ).jn c≠y.p.dS.getD r aJ)(hv:rP ⟨6,r,0,c,[]⟩ v)(hct:y.cuts=false):
  au Tryz.prog 27 (qN y ()) [.box 0 0,.sl 1 n true F] (oW 0) (Ci 2 ⟨y.c,p',true,false,y.keep⟩):=by
 obtain⟨yc,p,up,cuts,keep⟩:=y;dsimp only at hup hr hcp hak hne hct;subst hup;subst hct;have hop:=ku yc p;have hjn:=qH;dsimp only[qN,IX,KF,Ci,Dx,oP,AU,FY,rH,bU,fJ,qQ,jM,oW,lU,jO,kU,Bc,rP,gX.s,List.cons_append,List.nil_append,Rc.nilA,Rc.nilA,aJ]at hft hcp hak hop hjn hv⊢;rcases zn kC with rfl|rfl|rfl|rfl|rfl;all_goals
  refine K1.M 0x40000000001000004004000000400604020415ff3 Tryz.func27 70 ?_;repeat' ((conv=>whnf);first|refine K1.u ?_|refine K1.P1 hft ?_|refine K1.C 1 [(0,_),(20,_),(21,_),(22,_),(23,_),(24,_),(30,_),(31,_),(32,_),(33,_),(34,_)] (hcp) rfl ?_|refine K1.C 1 [(0,_)] (hak) rfl ?_|refine K1.P1 (hjn _ _) ?_|refine K1.F1 (hv _) ?_|refine fV.imp cZ (fF cZ _) ⟨_,_,Tryz.func51,rfl,rfl⟩ (kS.open 100 hop (List.Perm.swap _ _ _) rfl) rfl ?_|refine qM.mk (by decide) ?_|refine GZ.mk (dD.vs (dD.jn _ c)) (dD.vs _) (dD.jn _ c=_) rfl rfl (mZ _ _) ?_|refine K1.I 0x80100002d7 Tryz.func53 ?_|refine K1.I 0x1 Tryz.func22 ?_|refine K1.o (id:=14) (nN [0,1,2,3,4,5,6,7,8,9,10,11,12,13,14,15,16,17,18,19,20,21,22,23] ((24,some [15,13,11,10,6,7,4,2,21,19])::nN [25,26] [])) ?_|refine K1.o (id:=24) (nN [0,1,2,3,4,5,6,7,8,9,10,11,13,14,15,16,17,18,19,20,21,22] ((12,some [11,9,5,6,3,1])::nN [23,24,25,26,27,28,29,30,31] ((32,some [11,9,5,6,3,1,23,22,18,19,16,14,29,27])::nN [33,34] []))) ?_|refine K1.o (id:=1) (nN [0,1,2,3,4,5,6,7,8] [(9,some [7,5,3,1]),(10,none)]) ?_|refine K1.o (id:=5) (nN [0,1,2,3,4,5,6,7,8,9,10,11,12,13,14,15,16,17,18,19,21,22,23,24,25,26,27,28,29,33,34] [(20,some []),(30,some [29,27,26,23]),(31,none),(32,some [29,27,26,23,19,17,16,13,10,8,7,4]),(35,none),(36,some [29,27,26,23,19,17,16,13,10,8,7,4,33])]) ?_|refine K1.z ?_|refine K1.y (λ _=>?_) (λ _=>?_)|fail)
  all_goals(conv=>whnf)
  refine⟨[(71,2)],rfl,rfl, ?_,rfl,rfl,aP⟩;repeat' first|exact trivial|refine⟨aY rfl, ?_⟩
theorem Qh(y:Ry)(hup:y.up=true)(r:Nat)(kC:r<5)(u:Int)(c:dD)(ev:List Ev)(p':gX)(hft:jO n F 5 r u c ev 0)(hr:(r:Int)<y.c.n)(hcp:kU y.c y.p)(hak:Bc y.c y.p p' r c)(hne:(y.p.dS.getD r aJ).jn c≠y.p.dS.getD r aJ)(hv:rP ⟨6,r,0,c,[]⟩ v)(hct:y.cuts=true)(hk:(v.length:Int)<=y.keep):
  au Tryz.prog 27 (qN y ()) [.box 0 0,.sl 1 n true F] (oW 18) (Ci 2 ⟨y.c,p',false,false,y.keep⟩):=by
 obtain⟨yc,p,up,cuts,keep⟩:=y;dsimp only at hup hr hcp hak hne hct hk;subst hup;subst hct;have hop:=ku yc p;have hjn:=qH;dsimp only[qN,IX,KF,Ci,Dx,oP,AU,FY,rH,bU,fJ,qQ,jM,oW,lU,jO,kU,Bc,rP,gX.s,List.cons_append,List.nil_append,Rc.nilA,Rc.nilA,aJ]at hft hcp hak hop hjn hv⊢;rcases zn kC with rfl|rfl|rfl|rfl|rfl;all_goals
  refine K1.M 0x40000000001000004004000000400604020415ff3 Tryz.func27 70 ?_;repeat' ((conv=>whnf);first|refine K1.u ?_|refine K1.P1 hft ?_|refine K1.C 1 [(0,_),(20,_),(21,_),(22,_),(23,_),(24,_),(30,_),(31,_),(32,_),(33,_),(34,_)] (hcp) rfl ?_|refine K1.C 1 [(0,_)] (hak) rfl ?_|refine K1.P1 (hjn _ _) ?_|refine K1.F1 (hv _) ?_|refine fV.imp cZ (fF cZ _) ⟨_,_,Tryz.func51,rfl,rfl⟩ (kS.open 100 hop (List.Perm.swap _ _ _) rfl) rfl ?_|refine qM.mk (by decide) ?_|refine GZ.mk (dD.vs (dD.jn _ c)) (dD.vs _) (dD.jn _ c=_) rfl rfl (mZ _ _) ?_|refine K1.I 0x80100002d7 Tryz.func53 ?_|refine K1.I 0x1 Tryz.func22 ?_|refine K1.o (id:=14) (nN [0,1,2,3,4,5,6,7,8,9,10,11,12,13,14,15,16,17,18,19,20,21,22,23] ((24,some [15,13,11,10,6,7,4,2,21,19])::nN [25,26] [])) ?_|refine K1.o (id:=24) (nN [0,1,2,3,4,5,6,7,8,9,10,11,13,14,15,16,17,18,19,20,21,22] ((12,some [11,9,5,6,3,1])::nN [23,24,25,26,27,28,29,30,31] ((32,some [11,9,5,6,3,1,23,22,18,19,16,14,29,27])::nN [33,34] []))) ?_|refine K1.o (id:=1) (nN [0,1,2,3,4,5,6,7,8] [(9,some [7,5,3,1]),(10,none)]) ?_|refine K1.o (id:=5) (nN [0,1,2,3,4,5,6,7,8,9,10,11,12,13,14,15,16,17,18,19,21,22,23,24,25,26,27,28,29,33,34] [(20,some []),(30,some [29,27,26,23]),(31,none),(32,some [29,27,26,23,19,17,16,13,10,8,7,4]),(35,none),(36,some [29,27,26,23,19,17,16,13,10,8,7,4,33])]) ?_|refine K1.z ?_|refine K1.y (λ _=>?_) (λ _=>?_)|fail)
  all_goals(conv=>whnf)
  refine⟨[(71,2)],rfl,rfl, ?_,rfl,rfl,aP⟩;repeat' first|exact trivial|refine⟨aY rfl, ?_⟩
theorem Ob(y:Ry)(hup:y.up=true)(r:Nat)(kC:r<5)(u:Int)(c:dD)(ev:List Ev)(p':gX)(hft:jO n F 5 r u c ev 0)(hr:(r:Int)<y.c.n)(hcp:kU y.c y.p)(hak:Bc y.c y.p p' r c)(hne:(y.p.dS.getD r aJ).jn c≠y.p.dS.getD r aJ)(hv:rP ⟨6,r,0,c,[]⟩ v)(hct:y.cuts=true)(hk:¬ (v.length:Int)<=y.keep):
  au Tryz.prog 27 (qN y ()) [.box 0 0,.sl 1 n true F] (oW 18) (IX ⟨y.c,y.p,false,false,y.keep⟩):=by
 obtain⟨yc,p,up,cuts,keep⟩:=y;dsimp only at hup hr hcp hak hne hct hk;subst hup;subst hct;have hop:=ku yc p;have hjn:=qH;dsimp only[qN,IX,KF,Ci,Dx,oP,AU,FY,rH,bU,fJ,qQ,jM,oW,lU,jO,kU,Bc,rP,gX.s,List.cons_append,List.nil_append,Rc.nilA,Rc.nilA,aJ]at hft hcp hak hop hjn hv⊢;rcases zn kC with rfl|rfl|rfl|rfl|rfl;all_goals
  refine K1.M 0x40000000001000004004000000400604020415ff3 Tryz.func27 70 ?_;repeat' ((conv=>whnf);first|refine K1.u ?_|refine K1.P1 hft ?_|refine K1.C 1 [(0,_),(20,_),(21,_),(22,_),(23,_),(24,_),(30,_),(31,_),(32,_),(33,_),(34,_)] (hcp) rfl ?_|refine K1.C 1 [(0,_)] (hak) rfl ?_|refine K1.P1 (hjn _ _) ?_|refine K1.F1 (hv _) ?_|refine fV.imp cZ (fF cZ _) ⟨_,_,Tryz.func51,rfl,rfl⟩ (kS.open 100 hop (List.Perm.swap _ _ _) rfl) rfl ?_|refine qM.mk (by decide) ?_|refine GZ.mk (dD.vs (dD.jn _ c)) (dD.vs _) (dD.jn _ c=_) rfl rfl (mZ _ _) ?_|refine K1.I 0x80100002d7 Tryz.func53 ?_|refine K1.I 0x1 Tryz.func22 ?_|refine K1.o (id:=14) (nN [0,1,2,3,4,5,6,7,8,9,10,11,12,13,14,15,16,17,18,19,20,21,22,23] ((24,some [15,13,11,10,6,7,4,2,21,19])::nN [25,26] [])) ?_|refine K1.o (id:=24) (nN [0,1,2,3,4,5,6,7,8,9,10,11,13,14,15,16,17,18,19,20,21,22] ((12,some [11,9,5,6,3,1])::nN [23,24,25,26,27,28,29,30,31] ((32,some [11,9,5,6,3,1,23,22,18,19,16,14,29,27])::nN [33,34] []))) ?_|refine K1.o (id:=1) (nN [0,1,2,3,4,5,6,7,8] [(9,some [7,5,3,1]),(10,none)]) ?_|refine K1.o (id:=5) (nN [0,1,2,3,4,5,6,7,8,9,10,11,12,13,14,15,16,17,18,19,21,22,23,24,25,26,27,28,29,33,34] [(20,some []),(30,some [29,27,26,23]),(31,none),(32,some [29,27,26,23,19,17,16,13,10,8,7,4]),(35,none),(36,some [29,27,26,23,19,17,16,13,10,8,7,4,33])]) ?_|refine K1.z ?_|refine K1.y (λ _=>?_) (λ _=>?_)|fail)
  all_goals(conv=>whnf)
  refine⟨[(9,3)],rfl,rfl, ?_,rfl,rfl,aP⟩;repeat' first|exact trivial|refine⟨aY rfl, ?_⟩
theorem l9.mono{k':Nat}(hr:l9 k h y)(hk:k<=k'):l9 k' h y:=
 ⟨hr.c,hr.g,hr.may,hr.B,hr.G,hr.I,hr.up,hr.disk,hr.on,Nat.le_trans hr.bs (Nat.mul_le_mul_left _ hk)⟩
theorem rQ{y:gX}(h:Dw n y):(toP n y).sh.length=n/\(toP n y).told.length=n:=by
 have h5:=h.p5;have a5:=h.a5;have n5:=h.n5;exact⟨by show((y.ps.take n).map toS).length=n;rw[List.length_map,List.length_take];omega,by show(y.dS.take n).length=n;rw[List.length_take];omega⟩
theorem zA{b:List UInt8}{z:Rc}(h:gV b=(z,0)):iC z=true:=by
 have hlen:b.length<=2048:=by
  rcases Nat.lt_or_ge 2048 b.length with hb|hb
  ·unfold gV at h;rw[if_pos (by omega)]at h;simp at h
  ·exact hb
 rcases FB b hlen with⟨z',h1,h2,_⟩|h1|h1
 ·rw[h]at h1;cases h1;exact h2
 ·rw[h]at h1;cases h1
 ·rw[h]at h1;cases h1
theorem I7(hr:l9 k h y)(hk:k<=1000)(hup:h.up=true){x:Rc}(hx:jR x=true){p':gX}(hB:Dw y.n p')(hG:Nr y.c.w (toP y.n p'))(hI:GN (toP y.n p'))
  (hg:RcG y.c.w (toP y.n y.p) x)(hst:jB y.c.w (toP y.n y.p) x=toP y.n p'):
  l9 (k+1) (lu (h.fU (toP y.n p')) x).1 (jy y x p').1/\(lu (h.fU (toP y.n p')) x).2=(if(jy y x p').2=false then 18 else 0):=by
 obtain⟨hp,hdn,hct,hkp⟩:=hr.on hup;obtain⟨l,t,h1,h2,h3,h4⟩:=hr.disk;have ht:=h4 hup;subst ht;have hc:=hr.c;have hbs:=hr.bs;have hmx:=C9 x hx;obtain⟨l',t',w1,w2,w3,w4⟩:=PY (w:=y.c.w) (n:=y.n) (d:=h.d) h1 h2 hx (by rw[h3];exact hg) hdn;rw[h3,hst]at w4;have hyu:=hr.up;have hgn:h.c.n=((toP y.n p').sh.length:Int):=by
  rw[(rQ hB).1,hc];obtain⟨n,hn,_,_⟩:=FI hr.may;show y.c.n=((y.c.n.toNat:Nat):Int);omega
 have hlen:(ny h.d (aH x)).1.bs.length<=200100*(k+1):=by
  have hk2:=FH h.d.keep (aH x).length;unfold ny;split
  ·show h.d.bs.length<=_;omega
  ·split
   ·show(h.d.bs++(aH x).take _).length<=_;rw[List.length_append,List.length_take];omega
   ·show(h.d.bs++aH x).length<=_;rw[List.length_append];omega
 obtain⟨yc,yp,yup,yct,ykp⟩:=y;obtain⟨ac7,hcv,hpv,hd⟩:=h;dsimp only at*;subst hc hup;cases hcut:hd.cut with
 |false=>
  have e:ny hd (aH x)=(⟨hd.bs++aH x,false,false,hd.keep⟩,0):=by unfold ny;rw[if_neg (by rw[hdn];simp),if_neg (by rw[hcut];simp)]
  have hy:yct=false:=by rw[<-hct,hcut]
  subst hy;rw[e]at w1 hlen;refine⟨?_, ?_⟩
  ·unfold lu jy Hb.fU;dsimp only;rw[e,if_pos rfl,if_pos (.inl rfl)];rw[hcut,if_pos (.inl rfl)]at w4;refine⟨rfl,⟨hG,hgn,hr.g.w, ?_⟩,hr.may,hB,hG,hI, ?_,⟨l',t',w1,w2,w4,λ _=>w3 hcut⟩,λ _=>⟨rfl,rfl,rfl,λ h=>by cases h⟩,hlen⟩
   ·show(hd.bs++aH x).length<=500000000;have hlen:(hd.bs++aH x).length<=200100*(k+1):=hlen;omega
   ·show true=(yup&& !false);rw[<-hyu];rfl
  ·unfold lu jy Hb.fU;dsimp only;rw[e,if_pos rfl];rfl
 |true=>
  have e:ny hd (aH x)=(⟨hd.bs++(aH x).take (rE hd.keep (aH x).length).toNat,true,false,hd.keep⟩,18):=by unfold ny;rw[if_neg (by rw[hdn];simp),if_pos hcut]
  have hy:yct=true:=by rw[<-hct,hcut]
  subst hy;rw[e]at w1 hlen;refine⟨?_, ?_⟩
  ·unfold lu jy Hb.fU;dsimp only;rw[e,if_neg (by simp)];rw[hcut,hkp rfl]at w4;have hgb:(hd.bs++(aH x).take (rE hd.keep (aH x).length).toNat).length<=500000000:=by
    have hlen:(hd.bs++(aH x).take (rE hd.keep (aH x).length).toNat).length<=200100*(k+1):=hlen;omega
   by_cases hk3:((aH x).length:Int)<=ykp
   ·rw[if_pos (.inr hk3)]at w4⊢;exact⟨rfl,⟨hG,hgn,hr.g.w,hgb⟩,hr.may,hB,hG,hI,by rw[show(yup&& !true)=false by simp],⟨l',t',w1,w2,w4,(λ h=>by cases h)⟩,(λ h=>by cases h),hlen⟩
   ·have hno:¬ (true=false\/((aH x).length:Int)<=ykp):=by rintro(h|h);cases h;exact hk3 h
    rw[if_neg hno]at w4⊢;exact⟨rfl,⟨hG,hgn,hr.g.w,hgb⟩,hr.may,hr.B,hr.G,hr.I,by rw[show(yup&& !true)=false by simp],⟨l',t',w1,w2,w4,(λ h=>by cases h)⟩,(λ h=>by cases h),hlen⟩
  ·unfold lu jy Hb.fU;dsimp only;rw[e,if_neg (by simp)];rfl
theorem Qi(h:xY y.c=true):y.c.n=(y.n:Int)/\1<=y.n/\y.n<=5:=by
 obtain⟨n,hn,h1,h5⟩:=FI h;have:y.n=n:=by show y.c.n.toNat=n;omega
 rw[this];exact⟨hn,h1,h5⟩
theorem Yh{y:gX}(hr:r<n)(h:Dw n y):(toP n y).lenOf r=((y.ps.getD r default).l.length:Int):=by
 rw[Uj (by rw[(rQ h).1];exact hr),tN hr h,oD (h.s _ (getD_mem (by have:=h.p5;have:=h.n5;omega)))]
theorem UG{w:Int}{p:Pt}(hI:GN p)(hr:r<p.sh.length){l:List Ev}(h0:(jJ w (p.sh.getD r default) l).2=0)(hl:(jJ w (p.sh.getD r default) l).1.len=(p.sh.getD r default).len):(pushP w r l p).1=p:=by
 unfold pushP;rw[if_pos h0,Un h0 hl];have e:dL (λ _=>p.sh.getD r default) r p.sh=p.sh:=DX (d:=default) λ _=>rfl;show oN ⟨dL (λ _=>p.sh.getD r default) r p.sh,p.told⟩ r=p;rw[e];exact ZC hI r
theorem Yi(hr:l9 k h y)(hk:k<=1000)(hup:h.up=true)(hrn:r<y.n)(hm:aa0 ⟨1,r,u,c,ev⟩):
  ∃h' y' res,Rn h ⟨1,r,u,c,ev⟩=(h',res)/\Gf y ⟨1,r,u,c,ev⟩=(y',res)/\l9 (k+1) h' y':=by
 obtain⟨hp,hdn,hct,hkp⟩:=hr.on hup;obtain⟨hn,hn1,Oj⟩:=Qi hr.may;have hall:∀e∈ev,fH e=0/\e.r=(r:Int):=λ e he=>by
  have:=List.all_eq_true.1 hm.ev e he;simpa[pU]using this
 have hev:EvB ev:=⟨by have:=hm.l;dsimp only at this;omega,λ j=>by
  rcases Nat.lt_or_ge j ev.length with hj|hj
  ·have hz:=lV (hall _ (getD_mem (d:=default) hj)).1;have z1:=hz.n1;have z2:=hz.n2;omega
  ·rw[show ev.getD j default=default by simp[List.getD,List.getElem?_eq_none hj]];decide⟩
 have hl:=rQ hr.B;have hrl:r<(toP y.n y.p).sh.length:=by rw[hl.1];exact hrn
 have hG:=Rf (hr.G.s r hrl) hall;have Uk:=Rh hr.G hrl hall;have hpI:=PZ (w:=y.c.w) hr.I (r:=r) (l:=ev);have hs:FV (y.p.ps.getD r default):=hr.B.s _ (getD_mem (by have:=hr.B.p5;omega));have hB:FV (gB y.c.w (y.p.ps.getD r default) ev).1:=XQ hs (r:=r) (by rw[tN hrn hr.B]at hG;exact hG);have hto:=Zv (most:=y.c.w) (l:=ev) hrn hr.B hB;have hlen:=Yh hrn hr.B;have hgt:=tN hrn hr.B;have hput:=PO (most:=y.c.w) hs ev;have hmr:=PV (r:=(r:Int)) (l:=ev) (by omega) (by omega) (by have:=hm.l;dsimp only at this;omega) λ e he=>(hall e he).1;have hrg:RcG y.c.w (toP y.n y.p) ⟨5,(r:Int),0,aJ,ev⟩:=⟨.inl rfl,by show 0<=(r:Int);omega,by show(r:Int).toNat<_;rw[Int.toNat_natCast];exact hrl,hev,λ _ j hj=>(hall _ (getD_mem hj)).2,λ _=>by show iY (jJ _ ((toP y.n y.p).sh.getD (r:Int).toNat default) ev).1;rw[Int.toNat_natCast];exact hG.b⟩;have hst:jB y.c.w (toP y.n y.p) ⟨5,(r:Int),0,aJ,ev⟩=(pushP y.c.w r ev (toP y.n y.p)).1:=by
  unfold jB;rw[if_pos rfl];rfl
 have hpl:=IC (w:=y.c.w) (p:=toP y.n y.p) (r:=r) (l:=ev);have hle:=XP (w:=y.c.w) (s:=(toP y.n y.p).sh.getD r default) (l:=ev);have hsm:=UG (w:=y.c.w) hr.I hrl (l:=ev);have hx2:(pushP y.c.w r ev (toP y.n y.p)).2.2=(jJ y.c.w ((toP y.n y.p).sh.getD r default) ev).2:=by
  unfold pushP;split
  ·rename_i h;exact h.symm
  ·rfl
 have hBq:Dw y.n (iQ y.c.w y.n r ev y.p).1:=by
  unfold iQ;split
  ·exact Ri (y:=⟨dL (λ _=>(gB y.c.w (y.p.ps.getD r default) ev).1) r y.p.ps,y.p.dS⟩) ⟨by show(dL _ _ _).length=5;rw[dI];exact hr.B.p5,hr.B.a5,λ x hx=>by
    rcases tK hx with hx|⟨_,_,rfl⟩
    ·exact hr.B.s x hx
    ·exact hB,hr.B.n1,hr.B.n5⟩ r
  ·exact hr.B
 have hgl:(toS (y.p.ps.getD r default)).len=((y.p.ps.getD r default).l.length:Int):=oD hs;rw[hgt]at hle hpl hsm hx2;unfold Rn Gf;simp only[Int.toNat_natCast];rw[hr.c,hp,hlen];obtain⟨⟨q1,q2,q3⟩,hq⟩:∃q,iQ y.c.w y.n r ev y.p=q:=⟨_,rfl⟩;rw[hq]at hto hBq⊢;rw[hto]at Uk hpI hst hpl hsm hx2⊢;dsimp only at*;by_cases hx:q3≠0
 ·rw[if_pos hx,if_pos hx];exact⟨_,_,_,rfl,rfl,hr.mono (by omega)⟩
 ·rw[if_neg hx,if_neg hx];have hx:q3=0:=by simpa using hx
  have hq2:=hpl hx;rw[hx]at hx2;by_cases hmn:q2=((y.p.ps.getD r default).l.length:Int)
  ·have hng:¬q2>((y.p.ps.getD r default).l.length:Int):=by omega
   rw[if_pos hmn,if_neg hng];have e:=hsm hx2.symm (by rw[<-hq2,hmn,hgl]);rw[e,<-hp];exact⟨_,_,_,rfl,rfl,hr.mono (by omega)⟩
  ·have hgt2:q2>((y.p.ps.getD r default).l.length:Int):=by omega
   rw[if_neg hmn,if_pos hgt2];obtain⟨hw1,hw2⟩:=I7 hr hk hup hmr hBq Uk hpI hrg hst;rw[hw2];by_cases hc:(jy y ⟨5,(r:Int),0,aJ,ev⟩ q1).2=false
   ·rw[if_pos hc,if_neg (by decide),if_pos hc];exact⟨_,_,_,rfl,rfl,hw1⟩
   ·rw[if_neg hc,if_pos rfl,if_neg hc];exact⟨_,_,_,rfl,rfl,hw1⟩
theorem ZV(hr:l9 k h y)(hk:k<=1000)(hup:h.up=true)(hrn:r<y.n)(hm:aa0 ⟨5,r,u,c,ev⟩):
  ∃h' y' res,ZA h ⟨5,r,u,c,ev⟩=(h',res)/\NC y ⟨5,r,u,c,ev⟩=(y',res)/\l9 (k+1) h' y':=by
 obtain⟨hp,hdn,hct,hkp⟩:=hr.on hup;obtain⟨hn,hn1,Oj⟩:=Qi hr.may;have hl:=rQ hr.B;have hrl:r<(toP y.n y.p).sh.length:=by rw[hl.1];exact hrn
 have hrt:r<(toP y.n y.p).told.length:=by rw[hl.2];exact hrn
 have hto:=aa9 (r:=r) (c:=c) hrn hr.B;have htold:(toP y.n y.p).told.getD r aJ=y.p.dS.getD r aJ:=by
  show(y.p.dS.take y.n).getD r aJ=_;rw[List.getD_eq_getElem?_getD,List.getElem?_take_of_lt hrn,List.getD_eq_getElem?_getD]
 have hat:(oO (toP y.n y.p) r c).told.getD r aJ=(y.p.dS.getD r aJ).jn c:=by
  show(dL _ r (toP y.n y.p).told).getD r aJ=_;rw[kR hrt,if_pos rfl,htold]
 have hok:BG c=true:=by
  have:=hm.c;simp only[BG,this.1,this.2.1,this.2.2.1,this.2.2.2.1,this.2.2.2.2,Bool.and_self]
 have hmr:=PW (r:=(r:Int)) (c:=c) (by omega) (by omega) hok;have hrg:RcG y.c.w (toP y.n y.p) ⟨6,(r:Int),0,c,[]⟩:=⟨.inr rfl,by show 0<=(r:Int);omega,by show(r:Int).toNat<_;rw[Int.toNat_natCast];exact hrl,⟨by show([]:List Ev).length<=1000000;decide,λ j=>by
  rw[show([]:List Ev).getD j default=default by cases j<;>rfl];decide⟩,λ h=>absurd h (by show¬ (6:Int)=5;decide),λ h=>absurd h (by show¬ (6:Int)=5;decide)⟩
 have hst:jB y.c.w (toP y.n y.p) ⟨6,(r:Int),0,c,[]⟩=oO (toP y.n y.p) r c:=by
  unfold jB;rw[if_neg (by show¬ (6:Int)=5;decide),if_pos rfl];rfl
 unfold ZA NC;simp only[Int.toNat_natCast];rw[hp,hat,htold];by_cases hs:(y.p.dS.getD r aJ).jn c=y.p.dS.getD r aJ
 ·rw[if_pos hs,if_neg (λ h=>h hs)];have e:=ZE hr.I (r:=r) (c:=c) hrt (by rw[htold];exact hs);rw[e,<-hp];exact⟨_,_,_,rfl,rfl,hr.mono (by omega)⟩
 ·rw[if_neg hs,if_pos hs];rw[<-hto.1]at hst⊢;have hI:GN (toP y.n (rG y.n y.p r c)):=by rw[hto.1];exact Ur r c
  have hG:Nr y.c.w (toP y.n (rG y.n y.p r c)):=by rw[hto.1];exact Xy hr.G r c
  obtain⟨hw1,hw2⟩:=I7 hr hk hup hmr hto.2 hG hI hrg hst;rw[hw2];by_cases hc:(jy y ⟨6,(r:Int),0,c,[]⟩ (rG y.n y.p r c)).2=false
  ·rw[if_pos hc,if_pos hc];exact⟨_,_,_,rfl,rfl,hw1⟩
  ·rw[if_neg hc,if_neg hc];exact⟨_,_,_,rfl,rfl,hw1⟩
theorem Yj(hr:l9 k h y)(hk:k<=1000)(b:List UInt8):∃h' y' res,qI h b=(h',res)/\PX y b=(y',res)/\l9 (k+1) h' y':=by
 unfold qI PX;rw[<-hr.up];by_cases hup:h.up=false
 ·rw[if_pos hup,if_pos hup];exact⟨_,_,_,rfl,rfl,hr.mono (by omega)⟩
 ·rw[if_neg hup,if_neg hup];have hup:h.up=true:=by simpa using hup
  obtain⟨⟨z,x⟩,htk⟩:∃q,gV b=q:=⟨_,rfl⟩;rw[htk];dsimp only;by_cases hx:x≠0
  ·rw[if_pos hx,if_pos hx];exact⟨_,_,_,rfl,rfl,hr.mono (by omega)⟩
  ·rw[if_neg hx,if_neg hx];have hx:x=0:=by simpa using hx
   subst hx;have hm:=iP (zA htk);obtain⟨hn,hn1,Oj⟩:=Qi hr.may;unfold Ro J3;rw[hr.c];by_cases hrn:y.c.n<=z.r
   ·rw[if_pos hrn,if_pos hrn];exact⟨_,_,_,rfl,rfl,hr.mono (by omega)⟩
   ·rw[if_neg hrn,if_neg hrn];obtain⟨kd,zr,u,c,ev⟩:=z;have hr0:=hm.r;dsimp only at hr0 hrn⊢;obtain⟨r,rfl⟩:∃r:Nat,zr=(r:Int):=⟨zr.toNat,by omega⟩;by_cases hk1:kd=1
    ·subst hk1;rw[if_pos rfl,if_pos rfl];exact Yi hr hk hup (by omega) hm
    ·rw[if_neg hk1,if_neg hk1];by_cases hk3:kd=3
     ·subst hk3;rw[if_pos rfl,if_pos rfl];have hp:=(hr.on hup).1;have e:jT (r:Int).toNat c 0 h.p.sh=pW (r:Int).toNat c 0 (y.p.ps.take y.n):=by rw[hp];exact FX _ _ _ _
      rw[e];exact⟨_,_,_,rfl,rfl,hr.mono (by omega)⟩
     ·rw[if_neg hk3,if_neg hk3];by_cases hk5:kd=5
      ·subst hk5;rw[if_pos rfl,if_pos rfl];exact ZV hr hk hup (by omega) hm
      ·rw[if_neg hk5,if_neg hk5];exact⟨_,_,_,rfl,rfl,hr.mono (by omega)⟩
def Yk(y:Ry):Ry:=⟨y.c,y.p,false,false,y.keep⟩
def acs(y:Ry)(k:Int):Ry:=⟨y.c,y.p,y.up,true,k⟩
def Yl(h:Hb):Hb:=⟨false,h.c,h.p,⟨h.d.bs,true,false,h.d.keep⟩⟩
def acu(h:Hb)(k:Int):Hb:=⟨h.up,h.c,h.p,⟨h.d.bs,h.d.down,true,k⟩⟩
theorem ZW(h5:n<=5):toP n ZU=vG n:=by
 have hm:min n 5=n:=by omega
 unfold toP ZU vG;rw[List.take_replicate,List.take_replicate,List.map_replicate,hm];rfl
theorem ZX:GN (vG n):=λ s hs=>by
 have hs':s<n:=by
  have:s<(List.replicate n (⟨0,[]⟩:jI)).length:=hs;rwa [List.length_replicate]at this
 have he:(vG n).sh.getD s default=⟨0,[]⟩:=by
  show(List.replicate n (⟨0,[]⟩:jI)).getD s default=_;rw[List.getD_eq_getElem?_getD,List.getElem?_replicate,if_pos hs'];rfl
 rw[he];unfold jw;have hz:qF 0 ([]:List Ev).length (iZ (vG n).told s)=0:=by
  unfold qF;simp only[List.length_nil];split<;>(try split)<;>omega
 rw[hz];rfl
theorem l9.new{c:jv}(hc:xY c=true)(hn:c.n=(n:Int))(h1:1<=n)(h5:n<=5):l9 0 (hb0 c n) (RF c):=by
 have hg:=aap hc hn h1 h5;have hyn:(RF c).n=n:=by
  show c.n.toNat=n;omega
 have hto:toP (RF c).n (RF c).p=vG n:=by rw[hyn];exact ZW h5
 refine⟨rfl,hg,hc, ?_, ?_, ?_,rfl,⟨[],[],⟨by simp,rfl,BZ⟩,trivial, ?_,λ _=>rfl⟩,λ _=>⟨hto.symm,rfl,rfl,λ h=>by cases h⟩,by show 0<=_;omega⟩
 ·rw[hyn];exact⟨rfl,rfl,λ s hs=>by obtain rfl:=List.eq_of_mem_replicate hs;exact⟨by show(0:Int)<=0;omega,by show(0:Int)<=0;omega,by show 0<=_;omega⟩,h1,h5⟩
 ·rw[hto];exact hg.p
 ·rw[hto];exact ZX
 ·rw[hto,hyn];rfl
theorem UH(hr:l9 k h y):l9 k (Yl h) (Yk y):=by
 obtain⟨l,t,h1,h2,h3,_⟩:=hr.disk;exact⟨hr.c,⟨hr.g.p,hr.g.n,hr.g.w,hr.g.bs⟩,hr.may,hr.B,hr.G,hr.I,rfl,⟨l,t,h1,h2,h3,λ h=>by cases h⟩,(λ h=>by cases h),hr.bs⟩
theorem ZY(hr:l9 k h y)(q:Int):l9 k (acu h q) (acs y q):=
 ⟨hr.c,⟨hr.g.p,hr.g.n,hr.g.w,hr.g.bs⟩,hr.may,hr.B,hr.G,hr.I,hr.up,hr.disk,λ hu=>⟨(hr.on hu).1,(hr.on hu).2.1,rfl,λ _=>rfl⟩,hr.bs⟩
theorem UJ(hr:l9 k h y)(hup:h.up=false){l:List Rc}{t:List UInt8}(h1:yX h.d.bs l t)(h3:replay y.c.w y.n l=toP y.n y.p)(h2:Chain y.c.w (vG y.n) l):
  l9 k ⟨true,h.c,replay h.c.w y.n l,⟨kE l,false,false,h.d.keep⟩⟩ (rstart y).1/\(rstart y).2=0:=by
 have hyu:y.up=false:=by rw[<-hr.up,hup]
 have hc:=hr.c;have hl:(kE l).length<=h.d.bs.length:=by rw[h1.eq,List.length_append];omega
 have hk:=hr.bs;have hgb:=hr.g.bs;have hs:rstart y=(⟨y.c,y.p,true,false,y.keep⟩,0):=by unfold rstart;rw[if_neg (by rw[hyu];simp)]
 rw[hs];refine⟨⟨hc,⟨?_, ?_,hr.g.w,by show(kE l).length<=_;omega⟩,hr.may,hr.B,hr.G,hr.I,rfl,⟨l,[],⟨h1.may,by rw[List.append_nil],BZ⟩,h2,h3,λ _=>rfl⟩,λ _=>⟨?_,rfl,rfl,λ h=>by cases h⟩,by show(kE l).length<=_;omega⟩,rfl⟩
 ·show Nr h.c.w (replay h.c.w y.n l);rw[hc,h3];exact hr.G
 ·show h.c.n=((replay h.c.w y.n l).sh.length:Int);rw[hc,h3,(rQ hr.B).1];obtain⟨n,hn,_,_⟩:=FI hr.may;show y.c.n=((y.c.n.toNat:Nat):Int);omega
 ·show replay h.c.w y.n l=toP y.n y.p;rw[hc,h3]
end Go.Proofs.YtopfgjgdadnjeaaGreat
