/-
  Contracts of the walk:WcP,WdA,WdB,WdCh.
-/
import Derived.Test.YtifjccndenojlaaGreatWf42
import Derived.Test.YtifjccndenojlaaGreatWf35
import Derived.Test.YtifjccndenojlaaGreatWf16
import Derived.Test.YtifjccndenojlaaGreatWf38
set_option maxHeartbeats 16000000
set_option maxRecDepth 100000
set_option linter.unusedVariables false
set_option linter.unusedSimpArgs false
namespace Go.Proofs.YtifjccndenojlaaGreat
open Go.RowKit
open Go.Proofs.Tryz
variable{x:Int}{k:Nat}{w:Wy}
section
variable{k:Nat}{T:List Ev}{H:Nat->aV}{y:Ny}{w:Wy}
theorem ahD(ho:tX k T H y)(hk:k<=480)(hu:y.up=true):aj prog 35 [(0,.obs (yt k y))] [.box 0 0] (.bI [.own 3,.v (.int .i64 0)]) [(0,.obs (yt k y)),(3,.row 68 7 (pz y.log).length false (F8 (pz y.log)))]:=
 pq (ho:=[_]) ⟨_,_,func35,rfl,rfl⟩ (λ h hr=>⟨h,hr,by
  have e:=(hr.on hu).1;have:=ho.g.len ho.p ho.r ho.hc;rw[<-e];exact acN h (hr.up.trans hu) (by rw[e];exact ho.p.pst ho.g) (by rw[e];omega)⟩) rfl
theorem uM.five(h:uM k w):1<=w.ns.length/\w.ns.length<=5:=by
 obtain⟨⟨T,H,h1⟩,-⟩:=h;exact h1.five
theorem nI(h:uM k w):1<=(nT k w.ns).length/\(nT k w.ns).length<=5:=by rw[eG];exact h.five
theorem yw(h:uM k w)(hk:k<=480){r:Nat}(hr:r<w.ns.length):aj prog 14 [(0,.obs (ji k w))] [.box 0 0,.v (.int .i64 (r:Int))] (yK (w.nd r)) [(0,.obs (ji k w))]:=by
 obtain⟨⟨T,H,h1⟩,g,h2⟩:=id h;exact agZ _ _ _ r (nI h).2 (by rw[eG];exact hr) (by rw[nK hr];exact aht (h1.nd r hr).1 hk)
theorem TW(h:uM k w){r:Int}(hr:¬w.has r):aj prog 14 [(0,.obs (ji k w))] [.box 0 0,.v (.int .i64 r)] (rW false aW 0 [] []) [(0,.obs (ji k w))]:=
 Xi _ _ _ (nI h).1 (nI h).2 r (by rw[eG];unfold Wy.has at hr;omega)
theorem Jk(h:uM k w)(hk:k<=480){r:Nat}(hr:r<w.ns.length)(hu:(w.nd r).up=true):aj prog 16 [(0,.obs (ji k w))] [.box 0 0,.v (.int .i64 (r:Int))] (.bI [.own 20,.v (.int .i64 0)]) [(0,.obs (ji k w)),(20,.row 68 7 (pz (w.nd r).log).length false (F8 (pz (w.nd r).log)))]:=by
 obtain⟨⟨T,H,h1⟩,g,h2⟩:=id h;exact ahd _ _ _ r (nI h).2 (by rw[eG];exact hr) (by rw[nK hr];exact ahD (h1.nd r hr).1 hk hu)
theorem TY(h:uM k w){r:Int}(hr:¬w.has r):aj prog 16 [(0,.obs (ji k w))] [.box 0 0,.v (.int .i64 r)] (.bI [.v (.slice none 0 0),.v (.int .i64 1)]) [(0,.obs (ji k w))]:=
 Xh _ _ _ (nI h).1 (nI h).2 r (by rw[eG];unfold Wy.has at hr;omega)
theorem G6(h:uM k w):aj prog 13 [(0,.obs (ji k w))] [.box 0 0] (.agg ((Nj w.hb).vs.map .v)) [(0,.obs (ji k w))]:=
 ajv _ _ _ (nI h).1 (nI h).2 _ (ahx k w.hb)
theorem nZ(h:uM k w):aj prog 15 [(0,.obs (ji k w))] [.box 0 0] (.v (.int .i64 (w.fl.length:Int))) [(0,.obs (ji k w))]:=
 Zq _ _ _ (nI h).1 (nI h).2 (agX w.fl)
end
def c22:kR:=⟨2,2,2,4,2,2⟩
def QF:Stp:=⟨0,0,⟨1,⟨#[99,121]⟩,0,⟨#[]⟩⟩,0,0,0,0⟩
def Xt:Stp:=⟨1,0,⟨0,⟨#[]⟩,0,⟨#[]⟩⟩,0,0,0,0⟩
def Xu:Stp:=⟨4,0,⟨0,⟨#[]⟩,0,⟨#[]⟩⟩,0,0,0,0⟩
def Xv:Stp:=⟨2,1,⟨0,⟨#[]⟩,0,⟨#[]⟩⟩,0,0,0,0⟩
def Xw:Stp:=⟨4,0,⟨0,⟨#[]⟩,0,⟨#[]⟩⟩,1,0,0,0⟩
def Xx:Stp:=⟨4,0,⟨0,⟨#[]⟩,0,⟨#[]⟩⟩,1,0,0,0⟩
def QG:Wy:=wy0 c22
def Xy:Wy:=(QG.step QF).1
def Xz:Wy:=(Xy.step Xt).1
def XA:Wy:=(Xz.step Xu).1
def XB:Wy:=(XA.step Xv).1
def XC:Wy:=(XB.step Xw).1
def XD:Wy:=(XC.step Xx).1
def Oc:Ev:=Ij (QG.nd 0) QF.ed
theorem adz(h:uM k w)(hk:k<=480)(s:Stp)(hb:s.bit=0)(hm:s.mask=0)(hx:(w.step s).2=x):aj prog 11 [(0,.obs (ji k w))] [.box 0 0,s.av] (.v (.int .i64 x)) [(0,.obs (ji (k+1) (w.step s).1))]:=by
 rw[<-hx];exact yu h hk s (by rw[hb];decide) (by rw[hm];decide)
theorem akf:uM 0 QG:=uM.new d_
theorem akg:uM 1 Xy:=akf.step d_ QF
theorem akh:uM 2 Xz:=akg.step d_ Xt
theorem aki:uM 3 XA:=akh.step d_ Xu
theorem akj:uM 4 XB:=aki.step d_ Xv
theorem akk:uM 5 XC:=akj.step d_ Xw
theorem akl:uM 6 XD:=akk.step d_ Xx
theorem am2:(XD.nd (1:Nat)).log=[Oc]:=by kernel_rfl
theorem anS:pz [Oc]=[dV Oc.key (bg [Oc] (aF [Oc]))]:=by kernel_rfl
theorem anT:XD.fl.length=1:=by kernel_rfl
theorem rX:aH prog 7 [] (.v (.bool true)) []:=by
 have h0:aj prog 9 [] [c22.av] (.bI [.box 0 0,.v (.int .i64 0)]) [(0,.obs (ji 0 QG))]:=Np d_;have h1:aj prog 11 [(0,.obs (ji 0 QG))] [.box 0 0,QF.av] (.v (.int .i64 0)) [(0,.obs (ji 1 Xy))]:=adz akf d_ QF rfl rfl (by kernel_rfl);have h2:aj prog 11 [(0,.obs (ji 1 Xy))] [.box 0 0,Xt.av] (.v (.int .i64 0)) [(0,.obs (ji 2 Xz))]:=adz akg d_ Xt rfl rfl (by kernel_rfl);have h3:aj prog 11 [(0,.obs (ji 2 Xz))] [.box 0 0,Xu.av] (.v (.int .i64 0)) [(0,.obs (ji 3 XA))]:=adz akh d_ Xu rfl rfl (by kernel_rfl);have h4:aj prog 11 [(0,.obs (ji 3 XA))] [.box 0 0,Xv.av] (.v (.int .i64 0)) [(0,.obs (ji 4 XB))]:=adz aki d_ Xv rfl rfl (by kernel_rfl);have h5:aj prog 11 [(0,.obs (ji 4 XB))] [.box 0 0,Xw.av] (.v (.int .i64 0)) [(0,.obs (ji 5 XC))]:=adz akj d_ Xw rfl rfl (by kernel_rfl);have h6:aj prog 11 [(0,.obs (ji 5 XC))] [.box 0 0,Xx.av] (.v (.int .i64 0)) [(0,.obs (ji 6 XD))]:=adz akk d_ Xx rfl rfl (by kernel_rfl);have h7:=Jk akl d_ (r:=1) (of_decide_eq_true (by kernel_rfl)) (by kernel_rfl);have h8:=nZ akl;rw[anT]at h8;rw[am2,anS]at h7;have hk:([dV ⟨#[99,121]⟩ (bg [Oc] (aF [Oc]))].getD (0:Int).toNat default).key=⟨#[99,121]⟩:=rfl;rw[show Oc.key=⟨#[99,121]⟩from rfl]at h7;generalize bg [Oc] (aF [Oc])=W at h7 hk;generalize ji 0 QG=b0 at*;generalize ji 1 Xy=b1 at*;generalize ji 2 Xz=b2 at*;generalize ji 3 XA=b3 at*;generalize ji 4 XB=b4 at*;generalize ji 5 XC=b5 at*;generalize ji 6 XD=b6 at*;dsimp only[Stp.av,Stp.cs,kR.av,kR.cs,QF,Xt,Xu,Xv,Xw,Xx,c22]at h0 h1 h2 h3 h4 h5 h6 h7 hk;refine K1.E 0x2007ff func7 ?_;repeat' ((conv=>whnf);first|refine K1.u ?_|refine K1.C 0 [] (h0) rfl ?_|refine K1.C 1 [(0,_)] (h1) rfl ?_|refine K1.C 1 [(0,_)] (h2) rfl ?_|refine K1.C 1 [(0,_)] (h3) rfl ?_|refine K1.C 1 [(0,_)] (h4) rfl ?_|refine K1.C 1 [(0,_)] (h5) rfl ?_|refine K1.C 1 [(0,_)] (h6) rfl ?_|refine K1.C 20 [(0,_)] (h7) rfl ?_|refine K1.C 1 [(0,_)] (h8) rfl ?_|refine aU.fF ?_|refine K1.y (λ _=>?_) (λ _=>?_)|fail)
 all_goals(conv=>whnf)
 all_goals first
  |exact bn.mk (au)
  |exact absurd rfl a_
theorem yx(l:List Stp):aH prog 10 [.sl 10 l.length true (IE l)] (.sl 10 (l.take 60).length true (IE (l.take 60))) []:=by
 have hn:(if(60:Int)<(l.length:Int)then(60:Int)else(l.length:Int)).toNat=(l.take 60).length:=by
  rw[aou];split<;>omega
 refine K1.E 0x5 func10 ?_;repeat' ((conv=>whnf);first|refine K1.u ?_|refine aU.fF ?_|fail)
 conv=>whnf
 refine bn.mk ?_;rw[hn];refine aY.slF λ i hi=>?_;rw[aou]at hi;show Stp.cs _=Stp.cs _;rw[List.getD,List.getD,aqs o_]
theorem adA:aH prog 36 [.v (.slice none 0 0),.v (.slice none 0 0)] (.v (.bool true)) []:=by
 refine K1.E 0x2004433 func36 ?_;repeat' ((conv=>whnf);first|refine K1.u ?_|refine aU.fF ?_|refine aI.rounds 1 ?_|fail)
 all_goals(conv=>whnf)
 all_goals exact bn.mk (au)
theorem mark_eq(a0 a1 b0 b1:Int):zf prog 138 [.int .i64 a0,.int .i64 a1] [.int .i64 b0,.int .i64 b1] (a0=b0/\a1=b1):=by
 refine⟨by kernel_rfl,λ w=>⟨decide (a0=b0/\a1=b1),by rw[decide_eq_true_eq], ?_⟩⟩;show(Op.equalIn 10000 138 (.agg #[.int .i64 a0,.int .i64 a1]) (.agg #[.int .i64 b0,.int .i64 b1])).run prog w=_;rw[show(10000:Nat)=9999+1 from rfl,Op.equalIn];simp only[aoy,run_underlying Tryz.underlying138,aow];have u3:=Tryz.underlying3;have a3':=Tryz.isAgg3;have z3:=Tryz.sizeOf3;go_simp;repeat' split
 all_goals simp_all
theorem yA(h:List Ev)(hl:h.length<=1000000):aH prog 36 [.sl 2 h.length true (NM h),.sl 2 h.length true (NM h)] (.v (.bool true)) []:=by
 refine K1.E 0x2004433 func36 ?_;repeat' ((conv=>whnf);first|refine K1.u ?_|fail)
 all_goals(conv=>whnf)
 refine aI.mk {i:Nat//i<=h.length} (λ i=>⟨[(0,.sl 2 h.length true (NM h)),(1,.sl 2 h.length true (NM h)),(5,.v (.int .i64 (i.1:Int)))],[],[],0⟩) (λ i=>h.length-i.1) ⟨0,aoB _⟩ _
  (dO.mk' [] _ _ _ rfl ⟨au,au,aY.int rfl,trivial⟩ trivial rfl) ?_
 rintro⟨i,hi⟩;dsimp only;rcases aoP i h.length with hlt|hge
 ·repeat' ((conv=>whnf);first|refine K1.u ?_|refine Ub.mk [.int .i64 _,.int .i64 _] [.int .i64 _,.int .i64 _] _ rfl rfl (mark_eq _ _ _ _) ?_|fail)
  all_goals(conv=>whnf)
  all_goals first
   |exact⟨⟨i+1,hlt⟩,_,dO.mk' [] _ _ _ rfl ⟨au,au,aY.int (by show(i:Int)+1=((i+1:Nat):Int);omega),trivial⟩ trivial rfl,by show h.length-(i+1)<h.length-i;omega⟩
   |fail
 ·repeat' ((conv=>whnf);first|refine K1.u ?_|refine aU.fF ?_|fail)
  all_goals(conv=>whnf)
  all_goals exact bn.mk (au)
theorem Ah(up:Bool)(c:aV)(s:Int)(h l:List Ev)(hh:h.length<=1000000)(hl:l.length<=1000000):aH prog 17 [rW up c s h l,rW up c s h l] (.v (.bool true)) []:=by
 have h1:=yA h hh;have h2:=yA l hl;have h3:=adA;obtain⟨c0,c1,c2,c3,c4⟩:=c;unfold rW;cases up;all_goals
  dsimp only[cond_true,cond_false];refine K1.E 0x7f func17 ?_;repeat' ((conv=>whnf);first|refine K1.u ?_|refine K1.P1 h1 ?_|refine K1.P1 h2 ?_|refine K1.P1 h3 ?_|refine Ub.mk [.int .i64 _,.int .i64 _,.int .i64 _,.int .i64 _,.int .i64 _] [.int .i64 _,.int .i64 _,.int .i64 _,.int .i64 _,.int .i64 _] _ rfl rfl (Gl ⟨_,_,_,_,_⟩ ⟨_,_,_,_,_⟩) ?_|refine oC.yes rfl ?_|refine aU.fF ?_|fail)
  all_goals(conv=>whnf)
  all_goals exact bn.mk (au)
theorem uM.mono{k m:Nat}{w:Wy}(h:uM k w)(hm:k<=m):uM m w:=by
 obtain⟨⟨T,H,h1⟩,g,h2⟩:=h;exact⟨⟨T,H,h1.mono hm⟩,g,h2.mono hm⟩
theorem Nq{L:List Stp}(hl:∀s∈L,s.rng){j:Nat}(hj:j<L.length):(L.getD (j:Int).toNat default).rng:=hl _ (by rw[apc,aoG,aom hj];exact ao1 _)
theorem anU(x:Int):0<=kX x 3/\kX x 3<=3:=En x 3 o_
theorem akm(x:Int):0<=kX x 1023/\kX x 1023<=1023:=En x 1023 o_
theorem uM.Zx(h:uM k w):w.fl.length<=k:=by
 obtain⟨⟨T,H,h1⟩,-⟩:=h;exact h1.len
theorem uM.lens(h:uM k w)(hk:k<=480){r:Nat}(hr:r<w.ns.length):(w.nd r).held.length<=1000000/\(w.nd r).log.length<=1000000:=by
 obtain⟨⟨T,H,h1⟩,-⟩:=h;have ho:=(h1.nd r hr).1;have e:w.nd (r:Int)=w.ns.getD r default:=rfl;rw[e];have h2:=ho.bounds;have h3:=ho.g.len ho.p ho.r ho.hc;omega
theorem BD{m q:Nat}(h:uM k w)(hk:k<=m)(hm:m<=480)(hq:q=m+1)(s:Stp)(hb:s.bit=0)(hs:s.mask=0)(hx:w.step s=(w,x)):aj prog 11 [(0,.obs (ji m w))] [.box 0 0,s.av] (.v (.int .i64 x)) [(0,.obs (ji q w))]:=by
 have:=yu (h.mono hk) hm s (by rw[hb];decide) (by rw[hs];decide);rw[hx]at this;rw[hq];exact this
end Go.Proofs.YtifjccndenojlaaGreat
