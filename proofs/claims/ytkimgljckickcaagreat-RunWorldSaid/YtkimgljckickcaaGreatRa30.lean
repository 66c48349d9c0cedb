/-
  Contracts of the walk:NdL,NdU,NdUc,HbI,HbL,HbO,HbT,HbW,HyD.
-/
import Derived.Test.YtkimgljckickcaaGreatRa29
import Derived.Test.YtkimgljckickcaaGreatRa22
import Derived.Test.YtkimgljckickcaaGreatRa26
import Derived.Test.YtkimgljckickcaaGreatRa16
import Derived.Test.YtkimgljckickcaaGreatRa28
set_option maxHeartbeats 16000000
set_option maxRecDepth 100000
set_option linter.unusedVariables false
set_option linter.unusedSimpArgs false
namespace Go.Proofs.YtkimgljckickcaaGreat
open Go.RowKit
open Go.Proofs.Tryz
variable{f:FuncId}{most w:Int}{ho:List (Nat×AO)}{aW:List AV}{l:List Ev}{j n r:Nat}
theorem XO(h:Nd)(hup:h.up=false)(l:List Rc)(t:List UInt8)(hr:xB h.d.bs l t)(hl:h.d.bs.length<=1000000000)(hb:∀j,j<=l.length->(Hl (l.take j)).1.length<=1000000)(hev:∀j,j<l.length->(l.getD j default).ev.length<=1000000)(hG:aiD (Hl l).1)(hs:0<=(Hl l).2/\(Hl l).2<=1000000):
  aj prog 73 [(0,.obs (jQ h))] [.box 0 0] (.v (.int .i64 0)) [(0,.obs (jQ ⟨h.c,h.r,true,⟨ji l,false,false,h.d.keep⟩,(Hl l).1,(Hl l).2,cZ (Hl l).1,[],nP h.c.q (Hl l).2 h.r (Hl l).1⟩))]:=by
 refine xE (ho:=[]) 15 16 17 18 19 20 ⟨_,_,func73,rfl,rfl⟩ rfl ?_ rfl;rw[am2];have hcl:=λ d=>rO d h.d.bs (bg.bytes _) rfl hl;have hall:=KF h.d.bs (bg.bytes _) rfl hl hr;have hbl:(ji l).length<=h.d.bs.length:=by rw[hr.eq,am0];omega
 have htk:h.d.bs.take (ji l).length=ji l:=by
  conv=>lhs;rw[hr.eq]
  rw[apd]
 have htr:=OG ⟨h.d.bs,false,false,h.d.keep⟩ (ji l).length hbl hl;dsimp only at htr;rw[htk]at htr;have hll:=Eu l;obtain⟨c,r,up,⟨bs,down,cut,keep⟩,ala,alb,ic0,aiE,kR⟩:=h;dsimp only[uQ,ndN,sN,pO,gX]at*;subst hup;generalize ji l=w at*;clear hr htk;refine K1.M 0x40c7800008bd func73 40 ?_;repeat' ((conv=>whnf);first|refine K1.F1 (hcl _) ?_|refine K1.P1 hall ?_|refine K1.C 2 [(0,_),(1,_)] (htr) rfl ?_|refine K1.I 0x85 func116 ?_|refine K1.I 0x1 func117 ?_|refine K1.I 0x5 func119 ?_|refine Iy.scope bU 0x40c7800008bd ?_|refine Iy.label ?_|fail)
 all_goals(conv=>whnf)
 refine aI.acH 0 9 45 74 12 (dA []) d_ rfl rfl ?_;refine aI.mk {j:Nat//j<=l.length} (λ j=>⟨[(33,.v (.int .i64 (j.1:Int))),(32,.v (.int .i64 (l.length:Int))),(31,.sl 9 l.length false (rcF l)),(0,.box 0 0),(2,.v (.int .i64 0))],
   [(0,.box 152 [.v (.int .i64 c.n),.v (.int .i64 c.w),.v (.int .i64 c.q),.v (.int .i64 c.h),.v (.int .i64 c.l),.v (.int .i64 c.p),.v (.int .i64 (r:Int)),.v (.bool false),.box 8 0,.own 45,.v (.int .i64 (Hl (l.take j.1)).2),.box 11 0,.box 12 0,.box 13 0]),(8,.box 285 [.own 41,.v (.bool false),.v (.bool false),.v (.int .i64 keep)]),(41,.row 5 1 w.length true (aO w)),(11,.obs (vM ala ala.length)),(12,Ae c.h ic0 (xU aiE)),(13,zh c.q c.w alb (.own 14)),(14,bn kR),(45,bn (Hl (l.take j.1)).1)],
   [[(0,.box 0 0),(1,.box 8 0),(2,.own 11),(3,.box 12 0),(4,.box 13 0),(5,.own 9),(6,.own 10),(7,.own 14)]],50⟩) (λ j=>l.length-j.1) ⟨0,ane _⟩ _
  (dZ.mk' [] _ _ _ rfl gQ nM rfl) ?_
 rintro⟨j,hj⟩;dsimp only;by_cases hjl:j<l.length
 ·have hst:=afe hjl;have hb0:=hb j hj;have hb1:=hev j hjl;rw[show l.getD j default=l.getD (j:Int).toNat default from rfl]at hst hb1;generalize Hl (l.take j)=q at hst hb0⊢;obtain⟨q1,q2⟩:=q;unfold abp at hst;dsimp only at hst hb0⊢;by_cases hk3:(l.getD (j:Int).toNat default).k=3
  ·rw[if_pos hk3]at hst;repeat' ((conv=>whnf);first|refine K1.u ?_|fail)
   all_goals(conv=>whnf)
   exact⟨⟨j+1,hjl⟩,_,dZ.mk' [] _ _ _ rfl gQ ⟨⟨_,rfl,by dsimp only;rw[hst];exact dK.refl _⟩,dB rfl,dB rfl,dB rfl,dB rfl,dB rfl,dB rfl,⟨_,rfl,by dsimp only;rw[hst];exact dK.refl _⟩,trivial⟩ rfl,by show l.length-(j+1)<l.length-j;omega⟩
  ·rw[if_neg hk3]at hst;by_cases hk4:(l.getD (j:Int).toNat default).k=4
   ·rw[if_pos hk4]at hst;repeat' ((conv=>whnf);first|refine K1.u ?_|refine K1.o (id:=15) (nN [0,1,2,3,4,5] ((6,some [4])::nN [7,8] [(9,some [4,3,7])])) ?_|refine K1.o (id:=16) (nN [0,1,2,3,4,5,6] ((7,some [6,4,2])::nN [8,9] [(10,some [6,4,2,8])])) ?_|fail)
    all_goals(conv=>whnf)
    exact⟨⟨j+1,hjl⟩,_,dZ.mk' [(51,45)] _ _ _ rfl gQ ⟨⟨_,rfl,by dsimp only;rw[hst];exact dK.refl _⟩,dB rfl,dB rfl,dB rfl,dB rfl,dB rfl,dB rfl,⟨_,rfl,by dsimp only;rw[hst];exact dK.refl _⟩,trivial⟩ rfl,by show l.length-(j+1)<l.length-j;omega⟩
   ·rw[if_neg hk4]at hst;repeat' ((conv=>whnf);first|refine K1.u ?_|refine K1.o (id:=16) (nN [0,1,2,3,4,5,6] ((7,some [6,4,2])::nN [8,9] [(10,some [6,4,2,8])])) ?_|fail)
    all_goals(conv=>whnf)
    exact⟨⟨j+1,hjl⟩,_,dZ.mk' [(51,45)] _ _ _ rfl gQ ⟨⟨_,rfl,by dsimp only;rw[hst];exact dK.refl _⟩,dB rfl,dB rfl,dB rfl,dB rfl,dB rfl,dB rfl,⟨_,rfl,by dsimp only;rw[hst];exact dK.row (by rw[am0]) λ m _=>els_app rfl m⟩,trivial⟩ rfl,by show l.length-(j+1)<l.length-j;omega⟩
 ·obtain rfl:j=l.length:=o_
  rw[aof];have hgl:=hG.len;generalize Hl l=q at hG hs hgl⊢;obtain⟨L,sn⟩:=q;dsimp only at hG hs hgl⊢;clear hall hcl htr hb hev;repeat' ((conv=>whnf);first|refine K1.u ?_|refine K1.C 0 [] (aiB) rfl ?_|refine K1.C 0 [] (UM c.q c.w sn) rfl ?_|refine K1.I 0x80000003c0000015 func121 ?_|refine K1.o (id:=2) (nN [0,1,2,3,4,5,6,7,8,9,10,11,12,13,14] ((15,some [14,12,10,7,5,2])::nN [16,17] [(18,some [14,12,10,7,5,2,16])])) ?_|fail)
  all_goals(conv=>whnf)
  refine aI.acH 52 3 55 74 12 (dA []) d_ rfl rfl ?_;refine aI.mk {i:Nat//i<=L.length} (λ i=>⟨[(32,.v (.int .i64 (i.1:Int))),(31,.v (.int .i64 (L.length:Int))),(30,.own 45),(2,.box 50 0),(0,.box 0 0)],
   [(52,.box 239 [.v (.int .i64 c.q),.v (.int .i64 c.w),.v (.int .i64 sn),.own 55]),(51,.obs (vM (L.take i.1) i.1)),(50,.box 33 (cZ (L.take i.1)).cs),(0,.box 152 [.v (.int .i64 c.n),.v (.int .i64 c.w),.v (.int .i64 c.q),.v (.int .i64 c.h),.v (.int .i64 c.l),.v (.int .i64 c.p),.v (.int .i64 (r:Int)),.v (.bool false),.box 8 0,.own 45,.v (.int .i64 sn),.box 51 0,.box 12 0,.box 52 0]),(8,.box 285 [.own 41,.v (.bool false),.v (.bool false),.v (.int .i64 keep)]),(41,.row 5 1 w.length true (aO w)),(12,Ae c.h ic0 (xU aiE)),(45,bn L),(55,bn (nP c.q sn r (L.take i.1)))],
   [[(67,.box 0 0),(34,.v (.bool false)),(33,.v (.int .i64 (l.length:Int))),(32,.v (.int .i64 (l.length:Int))),(31,.sl 9 l.length false (rcF l)),(0,.box 0 0),(2,.v (.int .i64 0))],[(0,.box 0 0),(1,.box 8 0),(2,.own 11),(3,.box 12 0),(4,.box 13 0),(5,.own 9),(6,.own 10),(7,.own 14)]],60⟩) (λ i=>L.length-i.1) ⟨0,ane _⟩ _
   (dZ.mk' [] _ _ _ rfl gQ nM rfl) ?_
  rintro⟨i,hi⟩;dsimp only[aS.cs];have hcb:=Zk (L.take i);rw[am5,aow hi]at hcb;by_cases hil:i<L.length
  ·have hap:=QI (hG.nx i hil) (hG.may i hil) (by rw[am5];omega) i;have her:=hG.r i hil;have hct:=abt hil;have hwt:=XJ (q:=c.q) (sent:=sn) (r:=r) hil;have hwl:=OI (q:=c.q) (sent:=sn) (r:=r) (L.take i) [];have hwn:=λ j=>ajT (q:=c.q) (sent:=sn) (r:=r) (l:=L.take i) (λ e he=>hG.n e (an7 he)) j;rw[am5,aow hi,anD,anZ]at hwl;rw[<-take_snoc hil]at hap;rw[show L.getD i default=L.getD (i:Int).toNat default from rfl]at hap her hct hwt;obtain⟨⟨w',x⟩,hwx⟩:∃z,LZ c.q sn (nP c.q sn r (L.take i)) (L.getD (i:Int).toNat default)=z:=⟨_,rfl⟩;have had:=UN c.q c.w sn _ w' (L.getD (i:Int).toNat default) x (by show(nP c.q sn r (L.take i)).length<=_;unfold nP;omega) o_ (λ j=>by have:=hwn j;omega) hwx;unfold xW at hwt;rw[hwx]at hwt;clear hwx hwn hwl hG;generalize nP c.q sn r (L.take i)=wt at hwt had⊢;generalize cZ (L.take i)=ck at hct hcb⊢;obtain⟨c0,c1,c2,c3,c4⟩:=ck;unfold aS.upto at hcb;dsimp only[Ev.av,Ev.cs,zh]at*;have UO:Nat.ble ((i:Int).toNat+1) L.length=true:=an0 o_;rcases(show(L.getD (i:Int).toNat default).r=0\/(L.getD (i:Int).toNat default).r=1\/(L.getD (i:Int).toNat default).r=2\/(L.getD (i:Int).toNat default).r=3\/(L.getD (i:Int).toNat default).r=4 by omega)with hr0|hr0|hr0|hr0|hr0;all_goals
    rw[hr0]at hct;simp only[aS.inc,Int.toNat_zero,Int.toNat_one,Int.reduceToNat]at hct;by_cases ho:(L.getD (i:Int).toNat default).r=(r:Int)
    ·by_cases hn:sn<(L.getD (i:Int).toNat default).n
     ·rw[if_pos ⟨ho,hn⟩]at hwt;repeat' ((conv=>whnf);first|refine K1.u ?_|refine K1.C 1 [(0,_)] (hap) rfl ?_|refine K1.C 2 [(0,_),(1,_)] (had) rfl ?_|refine mJ.lit 0 hr0 rfl ?_|refine mJ.lit 1 hr0 rfl ?_|refine mJ.lit 2 hr0 rfl ?_|refine mJ.lit 3 hr0 rfl ?_|refine mJ.lit 4 hr0 rfl ?_|refine K1.o (id:=7) (nN [0,1,2,3,4] [(5,some [4,3,1])]) ?_|refine K1.o (id:=9) (nN [0,1,2,3,4] [(5,some [4,3,1])]) ?_|fail)
      all_goals(conv=>whnf)
      exact⟨⟨i+1,hil⟩,_,dZ.mk' [(62,55)] _ _ _ rfl gQ ⟨dB rfl,dB rfl,⟨_,rfl,by dsimp only;rw[hct];exact dK.refl _⟩,dB rfl,dB rfl,dB rfl,dB rfl,dB rfl,⟨_,rfl,by dsimp only;rw[hwt];exact dK.refl _⟩,trivial⟩ rfl,by show L.length-(i+1)<L.length-i;omega⟩
     ·rw[if_neg (λ h=>hn h.2)]at hwt;clear had;repeat' ((conv=>whnf);first|refine K1.u ?_|refine K1.C 1 [(0,_)] (hap) rfl ?_|refine mJ.lit 0 hr0 rfl ?_|refine mJ.lit 1 hr0 rfl ?_|refine mJ.lit 2 hr0 rfl ?_|refine mJ.lit 3 hr0 rfl ?_|refine mJ.lit 4 hr0 rfl ?_|refine K1.o (id:=7) (nN [0,1,2,3,4] [(5,some [4,3,1])]) ?_|fail)
      all_goals(conv=>whnf)
      exact⟨⟨i+1,hil⟩,_,dZ.mk' [] _ _ _ rfl gQ ⟨dB rfl,dB rfl,⟨_,rfl,by dsimp only;rw[hct];exact dK.refl _⟩,dB rfl,dB rfl,dB rfl,dB rfl,dB rfl,⟨_,rfl,by dsimp only;rw[hwt];exact dK.refl _⟩,trivial⟩ rfl,by show L.length-(i+1)<L.length-i;omega⟩
    ·rw[if_neg (λ h=>ho h.1)]at hwt;clear had;repeat' ((conv=>whnf);first|refine K1.u ?_|refine K1.C 1 [(0,_)] (hap) rfl ?_|refine mJ.lit 0 hr0 rfl ?_|refine mJ.lit 1 hr0 rfl ?_|refine mJ.lit 2 hr0 rfl ?_|refine mJ.lit 3 hr0 rfl ?_|refine mJ.lit 4 hr0 rfl ?_|refine K1.o (id:=7) (nN [0,1,2,3,4] [(5,some [4,3,1])]) ?_|fail)
     all_goals(conv=>whnf)
     exact⟨⟨i+1,hil⟩,_,dZ.mk' [] _ _ _ rfl gQ ⟨dB rfl,dB rfl,⟨_,rfl,by dsimp only;rw[hct];exact dK.refl _⟩,dB rfl,dB rfl,dB rfl,dB rfl,dB rfl,⟨_,rfl,by dsimp only;rw[hwt];exact dK.refl _⟩,trivial⟩ rfl,by show L.length-(i+1)<L.length-i;omega⟩
  ·obtain rfl:i=L.length:=o_
   rw[aof];generalize cZ L=ck at hcb⊢;obtain⟨c0,c1,c2,c3,c4⟩:=ck;dsimp only;repeat' ((conv=>whnf);first|refine K1.u ?_|refine K1.C 0 [] (UL c.h ⟨c0,c1,c2,c3,c4⟩) rfl ?_|refine K1.o (id:=11) (nN [0,1,2,3,4,5,6] ((7,some [6,5,2])::nN [8,9] [(10,some [6,5,2,8])])) ?_|fail)
   all_goals(conv=>whnf)
   exact⟨[(41,15),(45,16),(51,17),(60,18),(52,19),(55,20)],rfl,rfl,⟨dB rfl,dB rfl,dB rfl,⟨_,rfl,dK.box λ X us h=>aC.lH (k:=6) (x:= .v (.slice none 0 0)) (y:=xU []) rfl (λ X u h=>C1.iC (s:=12) d_ (show C1 X (.v (.slice none 0 0)) u from h)) h⟩,dB rfl,dB rfl,dB rfl,dB rfl,trivial⟩,rfl,rfl,bY⟩
theorem abw(x:Rc)(h:jW x=true){F:Nat->List AV}(hn:n=x.ev.length)(hF:∀i,i<n->F i=dA x.ev i):
  aF prog 89 [rcA x n F] (.aZ [.sl 1 (aY x).length true (aO (aY x)),.v (.int .i64 0)]) []:=
 (Ai 0 x h).thaw.args (.of (λ X u hu=>by
  obtain⟨us,e,ha⟩:=hu;exact⟨us,e,aC.lH (k:=8) rfl (x:= .sl 12 n true F) (y:= .sl 12 x.ev.length true (dA x.ev)) (λ X u hu=>show C2 X (.sl 12 x.ev.length true (dA x.ev)) u from dJ.sl hn hF X u (show C2 X (.sl 12 n true F) u from hu)) ha⟩) .nil)
theorem ame(h:l=[]):l.length=0:=by rw[h];rfl
theorem OL(x:Rc)(h:jW x=true)(he:x.ev=[]):aF prog 89 [.agg [.v (.int .i64 x.k),.v (.int .i64 x.r),.v (.int .i64 x.u),.v (.int .i64 x.c.c0),.v (.int .i64 x.c.c1),.v (.int .i64 x.c.c2),.v (.int .i64 x.c.c3),.v (.int .i64 x.c.c4),iC]] (.aZ [.sl 1 (aY x).length true (aO (aY x)),.v (.int .i64 0)]) []:=
 (Ai 0 x h).thaw.args (.of (λ X u hu=>by
  obtain⟨us,e,ha⟩:=hu;exact⟨us,e,aC.lH (k:=8) rfl (x:=iC) (y:= .sl 12 x.ev.length true (dA x.ev)) (λ X u hu=>by
   rw[show x.ev.length=0 from ame he];exact C1.iC (s:=12) d_ (show C1 X (.v (.slice none 0 0)) u from hu)) ha⟩) .nil)
theorem abx(h:Nd)(hu:h.up=true)(hw:0<h.wait.length)(hl:h.wait.length<=1000000){k:Nat}(hk:(min (max h.c.w 0) (h.wait.length:Int)).toNat=k)(hm:jW ⟨1,h.r,0,aV,h.wait.take k⟩=true):
  aj prog 42 [(0,.obs (jQ h))] [.box 0 0] (.aZ [.sl 1 (aY ⟨1,h.r,0,aV,h.wait.take k⟩).length true (aO (aY ⟨1,h.r,0,aV,h.wait.take k⟩)),.v (.int .i64 0)]) [(0,.obs (jQ h))]:=by
 refine gK (ho:=[]) ⟨_,_,func42,rfl,rfl⟩ ?_ rfl;have hb:=ahn h.c.q h.c.w h.sent h.wait hl;rw[hk]at hb;have hp:=abw _ hm (n:=k) (F:=dA h.wait) (by rw[am5];omega) λ i hi=>congrArg Ev.cs (by rw[List.getD,List.getD,anU,if_pos hi]);generalize aY ⟨1,h.r,0,aV,h.wait.take k⟩=B at hp;obtain⟨c,r,up,d,log,sent,ic,held,wait⟩:=h;dsimp only at hu hw;subst hu;dsimp only[uQ,sN,zh,rcA,aV,List.append_nil]at hb hp⊢;refine K1.M 0x410d func42 40 ?_;repeat' ((conv=>whnf);first|refine K1.u ?_|refine K1.C 2 [(0,_),(1,_)] (hb) rfl ?_|refine K1.P1 hp ?_|refine K1.I 0x5 func88 ?_|refine K1.o (id:=5) (nN [0,1,2,3,4,5,6,7] ((8,some [7,5])::(9,none)::(10,some [7,5,3,1])::nN [11,12,13,14] [])) ?_|fail)
 all_goals(conv=>whnf)
 exact iF []
theorem KJ(h:Nd)(x:Int)(hx:h.up=false/\x=18\/h.up=true/\h.wait.length=0/\x=24):
  aj prog 42 [(0,.obs (jQ h))] [.box 0 0] (.aZ [iC,.v (.int .i64 x)]) [(0,.obs (jQ h))]:=by
 refine gK (ho:=[]) ⟨_,_,func42,rfl,rfl⟩ ?_ rfl;obtain⟨c,r,up,d,log,sent,ic,held,wait⟩:=h;dsimp only[uQ,sN,zh,iC,List.append_nil]at hx⊢;rcases hx with⟨rfl,rfl⟩|⟨rfl,hw,rfl⟩;all_goals
  refine K1.M 0x410d func42 40 ?_;repeat' ((conv=>whnf);first|refine K1.u ?_|refine K1.I 0x5 func88 ?_|fail)
  all_goals(conv=>whnf)
  exact iF []
theorem XP(h:Nd)(hu:h.up=true)(hm:jW ⟨3,h.r,0,h.ic,[]⟩=true):
  aj prog 43 [(0,.obs (jQ h))] [.box 0 0] (.aZ [.sl 1 (aY ⟨3,h.r,0,h.ic,[]⟩).length true (aO (aY ⟨3,h.r,0,h.ic,[]⟩)),.v (.int .i64 0)]) [(0,.obs (jQ h))]:=by
 refine gK (ho:=[]) ⟨_,_,func43,rfl,rfl⟩ ?_ rfl;have hp:=OL _ hm rfl;clear hm;have hcl:=lM h.c.h h.ic (xU h.held) (.inr ⟨_,_,rfl⟩);generalize aY ⟨3,h.r,0,h.ic,[]⟩=B at hp;obtain⟨c,r,up,d,log,sent,⟨c0,c1,c2,c3,c4⟩,held,wait⟩:=h;dsimp only at hu;subst hu;dsimp only[uQ,sN,Ae,iC,aS.av,aS.cs,List.append_nil]at hcl hp⊢;refine K1.M 0xd func43 40 ?_;repeat' ((conv=>whnf);first|refine K1.u ?_|refine K1.C 1 [(0,_)] (hcl) rfl ?_|refine K1.P1 hp ?_|refine K1.I 0x433 func91 ?_|refine K1.o (id:=3) (nN [0,1,2,3,4,5,6,7,8] ((9,some [8,6])::(10,none)::(11,some [8,6,4,2])::nN [12,13,14,15] [])) ?_|fail)
 all_goals(conv=>whnf)
 exact iF []
theorem Vr(h:Nd)(hu:h.up=false):aj prog 43 [(0,.obs (jQ h))] [.box 0 0] (.aZ [iC,.v (.int .i64 18)]) [(0,.obs (jQ h))]:=by
 refine gK (ho:=[]) ⟨_,_,func43,rfl,rfl⟩ ?_ rfl;obtain⟨c,r,up,d,log,sent,ic,held,wait⟩:=h;dsimp only[uQ,sN,iC,List.append_nil]at hu⊢;subst hu;refine K1.M 0xd func43 40 ?_;repeat' ((conv=>whnf);first|refine K1.I 0x433 func91 ?_|fail)
 all_goals(conv=>whnf)
 exact iF []
theorem afi(h:Nd)(hu:h.up=true)(hm:jW ⟨5,h.r,0,h.ic,[]⟩=true):
  aj prog 44 [(0,.obs (jQ h))] [.box 0 0] (.aZ [.sl 1 (aY ⟨5,h.r,0,h.ic,[]⟩).length true (aO (aY ⟨5,h.r,0,h.ic,[]⟩)),.v (.int .i64 0)]) [(0,.obs (jQ h))]:=by
 refine gK (ho:=[]) ⟨_,_,func44,rfl,rfl⟩ ?_ rfl;have hp:=OL _ hm rfl;clear hm;have hcl:=lM h.c.h h.ic (xU h.held) (.inr ⟨_,_,rfl⟩);generalize aY ⟨5,h.r,0,h.ic,[]⟩=B at hp;obtain⟨c,r,up,d,log,sent,⟨c0,c1,c2,c3,c4⟩,held,wait⟩:=h;dsimp only at hu;subst hu;dsimp only[uQ,sN,Ae,iC,aS.av,aS.cs,List.append_nil]at hcl hp⊢;refine K1.M 0xd func44 40 ?_;repeat' ((conv=>whnf);first|refine K1.u ?_|refine K1.C 1 [(0,_)] (hcl) rfl ?_|refine K1.P1 hp ?_|refine K1.I 0x433 func91 ?_|refine K1.o (id:=3) (nN [0,1,2,3,4,5,6,7,8] ((9,some [8,6])::(10,none)::(11,some [8,6,4,2])::nN [12,13,14,15] [])) ?_|fail)
 all_goals(conv=>whnf)
 exact iF []
theorem aby(h:Nd)(hu:h.up=false):aj prog 44 [(0,.obs (jQ h))] [.box 0 0] (.aZ [iC,.v (.int .i64 18)]) [(0,.obs (jQ h))]:=by
 refine gK (ho:=[]) ⟨_,_,func44,rfl,rfl⟩ ?_ rfl;obtain⟨c,r,up,d,log,sent,ic,held,wait⟩:=h;dsimp only[uQ,sN,iC,List.append_nil]at hu⊢;subst hu;refine K1.M 0xd func44 40 ?_;repeat' ((conv=>whnf);first|refine K1.I 0x433 func91 ?_|fail)
 all_goals(conv=>whnf)
 exact iF []
theorem XQ(h:Nd):aj prog 95 [(0,.obs (jQ h))] [.box 0 0] (.aZ []) [(0,.obs (jQ ⟨h.c,h.r,false,⟨h.d.bs,true,false,h.d.keep⟩,h.log,h.sent,h.ic,h.held,h.wait⟩))]:=by
 refine gK (ho:=[]) ⟨_,_,func95,rfl,rfl⟩ ?_ rfl;obtain⟨c,r,up,⟨bs,down,cut,keep⟩,log,sent,ic,held,wait⟩:=h;dsimp only[uQ,sN,pO,List.append_nil];refine K1.M 0x1 func95 40 ?_;repeat' ((conv=>whnf);first|refine K1.I 0x85 func116 ?_|refine K1.I 0x1 func142 ?_|fail)
 all_goals(conv=>whnf)
 exact iF []
structure Hb where
 (up:Bool)(c:lZ)(p:Pt)(d:Dk)
def hbB(up:Bool)(c:lZ)(d p:AV):AO:= .box 144 [.v (.bool up),d,.v (.int .i64 c.n),.v (.int .i64 c.w),.v (.int .i64 c.q),.v (.int .i64 c.h),.v (.int .i64 c.l),.v (.int .i64 c.p),p]
def ni(h:Hb)(_:Unit):List (Nat×AO):=[(0,hbB h.up h.c (.box 8 0) (.box 9 0)),(8,pO (.own 10) h.d),(10,gX h.d.bs),(9,.obs (BL h.c.w h.p))]
def Ci(h:Hb):OB:=OB.pack (ni h)
theorem KL(h:Hb):Closes (ni h ()) 0 (Ci h):=Closes.pack (ni h) () rfl λ _ hok=>vF (hok _ amW)
theorem Closes.prm{hs gs:List (Nat×AO)}{o:OB}(h:Closes gs j o)(p:hs.Perm gs):Closes hs j o:=λ w k ρ hnd hok=>by
 have q:(ah ρ hs).Perm (ah ρ gs):=p.flatMap_right _;obtain⟨us,a1,a2,a3⟩:=h w k ρ (q.nodup_iff.1 hnd) λ x hx=>hok x (p.mem_iff.2 hx);exact⟨us,a1,a2,λ b hb=>q.mem_iff.2 (a3 b hb)⟩
theorem hb_new(up:Bool)(c:lZ)(p:Pt):Closes [(0,hbB up c (.box 8 0) (.box 9 0)),(8,pO (.v (.slice none 0 0)) dk0),(9,.obs (BL c.w p))] 0 (Ci ⟨up,c,p,dk0⟩):=by
 unfold pO;refine Closes.adU (sc:=true) (A:=[_]) (id:=8) (B:=[_]) (k:=0) (d:=10) (e:=5) (s:=1) (f:=aO []) ?_ rfl d_ rfl;exact(KL ⟨up,c,p,dk0⟩).prm (.cons _ (.cons _ (.swap ..)))
theorem FU{h h':Hb}{r:AV}(hE:Enters prog f)(hm:aj prog f (ni h ()) aW r (ni h' ()++ho))
  (hb:(aW.all (oQ (λ _=>false) 0)&&fG (λ i=>bJ i ho) 0 r&&fF ho ho&& !(bJ 0 ho))=true):aj prog f [(0,.obs (Ci h))] aW r ((0,.obs (Ci h'))::ho):=
 aj.opn hE (Opens.pack (ni h)) (λ _=>⟨_,KL h',rfl,rfl,hm⟩) hb
def hb0(c:lZ)(n:Nat):Hb:=⟨true,c,EK n,dk0⟩
theorem aki(c:lZ)(h:qj c=false):aF prog 34 [c.av] (.aZ [.v (.pointer none),.v (.int .i64 1)]) []:=by
 have hm:=Fh c;rw[h]at hm;obtain⟨n,w,q,hh,l,p⟩:=c;dsimp only[lZ.av,lZ.cs]at hm⊢;refine K1.E 0x9f func34 ?_;repeat' ((conv=>whnf);first|refine K1.u ?_|refine K1.P1 hm ?_|refine aT.fH ?_|refine K1.z ?_|refine K1.y (λ _=>?_) (λ _=>?_)|fail)
 all_goals(conv=>whnf)
 exact bF.mk (bY)
theorem afj(c:lZ)(n:Nat)(hn:c.n=(n:Int))(hc:qj c=true)(h1:1<=n)(h5:n<=5):aj prog 34 [] [c.av] (.aZ [.box 0 0,.v (.int .i64 0)]) [(0,.obs (Ci (hb0 c n)))]:=by
 have hm:=Fh c;rw[hc]at hm;have hp:=UD c n hn h1 h5;have ha:=all_nil;refine aj.cls (hs':=[(0,hbB true c (.box 8 0) (.box 9 0)),(8,pO (.v (.slice none 0 0)) dk0),(9,.obs (BL c.w (EK n)))]) (ho:=[]) (hb_new true c (EK n)) ?_ rfl;obtain⟨cn,w,q,hh,l,p⟩:=c;dsimp only[lZ.av,lZ.cs,hbB,pO,dk0,List.append_nil]at hm hp⊢;refine K1.M 0x9f func34 40 ?_;repeat' ((conv=>whnf);first|refine K1.u ?_|refine K1.P1 hm ?_|refine K1.C 0 [] (hp) rfl ?_|refine K1.P1 ha ?_|refine K1.P1 clone_nil ?_|refine K1.I 0x10031e00215 func72 ?_|refine K1.I 0x3d func113 ?_|refine K1.I 0x85 func143 ?_|refine K1.I 0x1 func175 ?_|refine K1.I 0x1 func117 ?_|refine K1.I 0x5 func119 ?_|refine K1.I 0x4003 func120 ?_|refine aI.Au 23 1 rfl ?_|refine K1.o (id:=9) (nN [0,1,2,3,4,5,6,7] [(8,some [7,5,3,1])]) ?_|refine K1.o (id:=11) (nN [0,1,2,3,4,5,6,7] [(8,some [7,5,3,1])]) ?_|refine K1.z ?_|refine K1.y (λ _=>?_) (λ _=>?_)|fail)
 all_goals(conv=>whnf)
 exact iF [(41,0),(43,8),(42,9)]
def hbG(i j:Nat)(h:Hb):List (Nat×AO):=[(0,hbB h.up h.c (.box 8 0) (.box j 0)),(8,pO (.own i) h.d),(i,gX h.d.bs),(j,.obs (BL h.c.w h.p))]
theorem OM(i j:Nat)(h:Hb):Closes (hbG i j h) 0 (Ci h):=(KL h).ren [(0,0),(8,8),(10,i),(9,j)] rfl rfl
def sS(i:Nat)(h:Hb):List (Nat×AO):=[(0,hbB h.up h.c (.box 8 0) (.box 9 0)),(8,pO (.own i) h.d),(i,gX h.d.bs),(9,.obs (BL h.c.w h.p))]
theorem XR(h:Hb):Closes (sS 11 h) 0 (Ci h):=OM 11 9 h
theorem Vs{h h':Hb}{r:AV}(hE:Enters prog f)(hm:aj prog f (ni h ()) aW r (sS 11 h'++ho))
  (hb:(aW.all (oQ (λ _=>false) 0)&&fG (λ i=>bJ i ho) 0 r&&fF ho ho&& !(bJ 0 ho))=true):aj prog f [(0,.obs (Ci h))] aW r ((0,.obs (Ci h'))::ho):=
 aj.opn hE (Opens.pack (ni h)) (λ _=>⟨_,XR h',rfl,rfl,hm⟩) hb
def mQ(h:Hb)(x:Rc):Hb×Int:=
 if(iV h.d (ay x)).2=0 then(⟨h.up,h.c,h.p,(iV h.d (ay x)).1⟩,0)else(⟨false,h.c,h.p,(iV h.d (ay x)).1⟩,18)
theorem KN(h h':Hb)(x:Rc)(y:Int)(hx:iE x=true)(hb:h.d.bs.length<=1000000000)(hw:mQ h x=(h',y)):
  aj prog 198 (ni h ()) [.box 0 0,x.av] (.v (.int .i64 y)) (sS 11 h'):=by
 have hp:=(vP 0 x hx).thaw;have hm:=iJ x hx;obtain⟨⟨d',e⟩,hd⟩:∃q,iV h.d (ay x)=q:=⟨_,rfl⟩;have hdk:=lT h.d d' (ay x) e (bg.bytes _) rfl hb o_ hd;unfold mQ at hw;rw[hd]at hw;generalize ay x=w at hp hdk hd;obtain⟨up,c,p,d⟩:=h;obtain⟨k,r,u,⟨c0,c1,c2,c3,c4⟩,ev⟩:=x;by_cases he:e=0;rw[if_pos he]at hw;rotate_left;rw[if_neg he]at hw;all_goals
  cases hw;dsimp only[ni,sS,hbB,pO,gX,Rc.av,Rc.cs]at hdk hp⊢;refine K1.M 0x8207b func198 40 ?_;repeat' ((conv=>whnf);first|refine K1.u ?_|refine K1.P1 hp ?_|refine K1.C 2 [(0,_),(1,_)] (hdk) rfl ?_|refine K1.I 0x85 func143 ?_|refine K1.z ?_|refine K1.y (λ _=>?_) (λ _=>?_)|fail)
  all_goals(conv=>whnf)
  exact iF [(41,11)]
def Pt.sit(p:Pt):Sit:=⟨true,⟨(p.sh.map jU.base).getD 0 0,(p.sh.map jU.base).getD 1 0,(p.sh.map jU.base).getD 2 0,(p.sh.map jU.base).getD 3 0,(p.sh.map jU.base).getD 4 0⟩,⟨(p.sh.map jU.len).getD 0 0,(p.sh.map jU.len).getD 1 0,(p.sh.map jU.len).getD 2 0,(p.sh.map jU.len).getD 3 0,(p.sh.map jU.len).getD 4 0⟩,
 p.told.getD 0 aV,p.told.getD 1 aV,p.told.getD 2 aV,p.told.getD 3 aV,p.told.getD 4 aV⟩
def alc:Sit:=⟨false,aV,aV,aV,aV,aV,aV,aV⟩
theorem ahH(p:Pt):p.site=p.sit.vs.map .v:=rfl
def Hb.sit(h:Hb):Sit:=if h.up then h.p.sit else alc
theorem abz(h:Hb)(hp:qA h.p):aj prog 47 [(0,.obs (Ci h))] [.box 0 0] (.agg (h.sit.vs.map .v)) [(0,.obs (Ci h))]:=by
 refine FU (ho:=[]) ⟨_,_,func47,rfl,rfl⟩ ?_ rfl;have hs:=dV h.c.w h.p hp;rw[ahH]at hs;rw[am2];obtain⟨up,c,p,d⟩:=h;unfold Hb.sit;cases up with
 |true=>
  rw[if_pos rfl];dsimp only[ni,hbB,pO,gX]at hs⊢;refine K1.M 0x105 func47 40 ?_;repeat' ((conv=>whnf);first|refine K1.C 1 [(0,_)] (hs) rfl ?_|fail)
  all_goals(conv=>whnf)
  exact iF []
 |false=>
  rw[if_neg s_];dsimp only[ni,hbB,pO,gX]at hs⊢;refine K1.M 0x105 func47 40 ?_
  all_goals(conv=>whnf)
  exact iF []
theorem afk(h:Hb)(k:Int):aj prog 281 [(0,.obs (Ci h))] [.box 0 0,.v (.int .i64 k)] (.aZ []) [(0,.obs (Ci ⟨h.up,h.c,h.p,⟨h.d.bs,h.d.down,true,k⟩⟩))]:=by
 refine FU (ho:=[]) ⟨_,_,func281,rfl,rfl⟩ ?_ rfl;rw[am2];obtain⟨up,c,p,d⟩:=h;dsimp only[ni,hbB,pO,gX];refine K1.M 0x3 func281 40 ?_;repeat' ((conv=>whnf);first|refine K1.I 0x85 func143 ?_|refine K1.I 0x3 func282 ?_|fail)
 all_goals(conv=>whnf)
 exact iF []
theorem ahI(i j:Nat){h h':Hb}{r:AV}(hE:Enters prog f)(hm:aj prog f (ni h ()) aW r (hbG i j h'++ho))
  (hb:(aW.all (oQ (λ _=>false) 0)&&fG (λ i=>bJ i ho) 0 r&&fF ho ho&& !(bJ 0 ho))=true):aj prog f [(0,.obs (Ci h))] aW r ((0,.obs (Ci h'))::ho):=
 aj.opn hE (Opens.pack (ni h)) (λ _=>⟨_,OM i j h',rfl,rfl,hm⟩) hb
def jH(most:Int)(p:Pt)(x:Rc):Pt:=if x.k=5 then(pushP most x.r.toNat x.ev p).1 else if x.k=6 then qw p x.r.toNat x.c else p
def replay(most:Int)(n:Nat)(l:List Rc):Pt:=l.foldl (jH most) (EK n)
structure RcG(most:Int)(p:Pt)(x:Rc):Prop where
 k:x.k=5\/x.k=6
 r0:0<=x.r
 r:x.r.toNat<p.sh.length
 ev:EvB x.ev
 all:x.k=5-> ∀j,j<x.ev.length->(x.ev.getD j default).r=x.r
 put:x.k=5->iQ (jV most (p.sh.getD x.r.toNat default) x.ev).1
def Chain(most:Int):Pt->List Rc->Prop
 |_,[]=>True
 |p,x::l=>RcG most p x/\Chain most (jH most p x) l
theorem Cj(told:List aS):∀(l:List jU)(i:Nat),(mP told i l).length=l.length
 |[],_=>rfl
 |s::l,i=>by show(mP told (i+1) l).length+1=_;rw[Cj told l];rfl
theorem Vt(told:List aS):∀(l:List jU)(i:Nat),(∀s∈l,iQ s)-> ∀s∈mP told i l,iQ s
 |[],_,_,s,hs=>by cases hs
 |x::l,i,h,s,hs=>by
  rcases am4.1 hs with rfl|hs
  ·exact QN (h x amW) _
  ·exact Vt told l (i+1) (λ y hy=>h y (am1 _ hy)) s hs
theorem afl{p:Pt}(hp:qA p)(r:Nat)(c:aS):qA (qw p r c)/\(qw p r c).sh.length=p.sh.length:=by
 have h1:(qw p r c).sh.length=p.sh.length:=Cj _ _ _;exact⟨⟨by rw[h1];exact hp.h1,by rw[h1];exact hp.h5,by rw[h1];show(dR _ _ _).length=_;rw[dw];exact hp.t,Vt _ _ _ hp.s⟩,h1⟩
theorem ahJ{p:Pt}(hp:qA p)(hs:iQ (jV most (p.sh.getD r default) l).1):qA (pushP most r l p).1/\(pushP most r l p).1.sh.length=p.sh.length:=by
 unfold pushP;split
 ·exact⟨aeV (hp.set hs r) r,by show(dR _ _ (dR _ _ _)).length=_;rw[dw,dw]⟩
 ·exact⟨hp,rfl⟩
theorem ahK{p:Pt}(hp:qA p){x:Rc}(hx:RcG most p x):qA (jH most p x)/\(jH most p x).sh.length=p.sh.length:=by
 unfold jH;split
 ·rename_i h;exact ahJ hp (hx.put h)
 ·split
  ·exact afl hp _ _
  ·exact⟨hp,rfl⟩
theorem aiF(h1:1<=n)(h5:n<=5):qA (EK n)/\(EK n).sh.length=n:=by
 have e:(EK n).sh.length=n:=aoC;refine⟨⟨by rw[e];exact h1,by rw[e];exact h5,by rw[e];exact aoC,λ s hs=>?_⟩,e⟩;obtain rfl:=aoW hs;exact⟨s_,s_⟩
theorem Vu{most:Int}:∀{l:List Rc}{p:Pt},qA p->Chain most p l-> ∀j,j<l.length->qA ((l.take j).foldl (jH most) p)/\((l.take j).foldl (jH most) p).sh.length=p.sh.length/\RcG most ((l.take j).foldl (jH most) p) (l.getD j default)
 |[],_,_,_,j,hj=>by simp at hj
 |x::l,p,hp,hc,0,_=>⟨hp,rfl,hc.1⟩
 |x::l,p,hp,hc,j+1,hj=>by
  have h1:=ahK hp hc.1;have:=Vu h1.1 hc.2 j (by simpa using hj);rw[h1.2]at this;exact this
theorem abA{l:List Rc}{p:Pt}(hj:j<l.length):(l.take (j+1)).foldl (jH most) p=jH most ((l.take j).foldl (jH most) p) (l.getD j default):=by
 rw[aoQ hj,aoj];simp[List.getD,hj]
theorem XT(h:Hb)(n:Nat)(hn:h.c.n=(n:Int))(h1:1<=n)(h5:n<=5)(hup:h.up=false)(l:List Rc)(t:List UInt8)(hr:xB h.d.bs l t)(hc:Chain h.c.w (EK n) l)(hl:h.d.bs.length<=1000000000):
  aj prog 72 [(0,.obs (Ci h))] [.box 0 0] (.v (.int .i64 0)) [(0,.obs (Ci ⟨true,h.c,replay h.c.w n l,⟨ji l,false,false,h.d.keep⟩⟩))]:=by
 refine ahI 11 12 (ho:=[]) ⟨_,_,func72,rfl,rfl⟩ ?_ rfl;rw[am2];have hnew:=UD h.c n hn h1 h5;have hcl:=λ d=>rO d h.d.bs (bg.bytes _) rfl hl;have hall:=KF h.d.bs (bg.bytes _) rfl hl hr;have hbl:(ji l).length<=h.d.bs.length:=by rw[hr.eq,am0];omega
 have htk:h.d.bs.take (ji l).length=ji l:=by
  conv=>lhs;rw[hr.eq]
  rw[apd]
 have htr:=OG ⟨h.d.bs,false,false,h.d.keep⟩ (ji l).length hbl hl;dsimp only at htr;rw[htk]at htr;have hll:=Eu l;obtain⟨up,cf,p,d⟩:=h;obtain⟨bs,down,cut,keep⟩:=d;obtain⟨cn,cw,cq,ch,cl,cp⟩:=cf;dsimp only[ni,hbG,hbB,pO,gX,lZ.av,lZ.cs]at*;subst hup;generalize ji l=w at*;refine K1.M 0x10031e00215 func72 40 ?_;repeat' ((conv=>whnf);first|refine K1.C 0 [] (hnew) rfl ?_|refine K1.F1 (hcl _) ?_|refine K1.P1 hall ?_|refine K1.C 2 [(0,_),(1,_)] (htr) rfl ?_|refine K1.I 0x85 func143 ?_|refine K1.I 0x3d func113 ?_|refine K1.I 0x1 func117 ?_|refine K1.I 0x5 func119 ?_|fail)
 all_goals(conv=>whnf)
 refine aI.mk {j:Nat//j<=l.length} (λ j=>⟨[(23,.v (.int .i64 (j.1:Int))),(22,.v (.int .i64 (l.length:Int))),(21,.sl 9 l.length false (rcF l)),(0,.box 0 0),(2,.v (.int .i64 0))],
   [(8,.box 285 [.own 42,.v (.bool false),.v (.bool false),.v (.int .i64 keep)]),(42,.row 5 1 w.length true (aO w)),(40,.obs (BL cw ((l.take j.1).foldl (jH cw) (EK n)))),(0,.box 144 [.v (.bool false),.box 8 0,.v (.int .i64 cn),.v (.int .i64 cw),.v (.int .i64 cq),.v (.int .i64 ch),.v (.int .i64 cl),.v (.int .i64 cp),.box 40 0])],
   [[(0,.box 0 0),(1,.box 8 0),(2,.own 10),(3,.own 9)]],50⟩) (λ j=>l.length-j.1) ⟨0,ane _⟩ _
  (dZ.mk' [] _ _ _ rfl gQ nM rfl) ?_
 rintro⟨j,hj⟩;dsimp only;by_cases hjl:j<l.length
 ·obtain⟨hpb,hpl,hG⟩:=Vu (aiF h1 h5).1 hc j hjl;have hsn:=abA (most:=cw) (p:=EK n) hjl;rw[show l.getD j default=l.getD (j:Int).toNat default from rfl]at hG hsn;generalize(l.take j).foldl (jH cw) (EK n)=q at hpb hpl hG hsn⊢;have hr0:=hG.r0;have hrr:(((l.getD (j:Int).toNat default).r.toNat:Nat):Int)=(l.getD (j:Int).toNat default).r:=o_
  rcases hG.k with hk|hk
  ·obtain⟨⟨p',u,y⟩,hp⟩:∃z,pushP cw (l.getD (j:Int).toNat default).r.toNat (l.getD (j:Int).toNat default).ev q=z:=⟨_,rfl⟩;have hpush:=OE cw q p' _ hpb hG.r _ hG.ev (λ i hi=>by rw[hrr];exact hG.all hk i hi) (hG.put hk) u y hp;rw[hrr]at hpush;have hst:jH cw q (l.getD (j:Int).toNat default)=p':=by unfold jH;rw[if_pos hk,hp]
   rw[hst]at hsn;repeat' ((conv=>whnf);first|refine K1.u ?_|refine K1.C 1 [(0,_)] (hpush) rfl ?_|refine K1.o (id:=9) (nN [0,1,2,3,4,5,6,7] [(8,some [7,5,3,1])]) ?_|fail)
   all_goals(conv=>whnf)
   refine⟨⟨j+1,hjl⟩,_,dZ.mk' [] _ _ _ rfl gQ ⟨dB rfl,dB rfl,⟨_,rfl, ?_⟩,dB rfl,trivial⟩ rfl,by show l.length-(j+1)<l.length-j;omega⟩;show dK _ (.obs (BL cw ((l.take (j+1)).foldl (jH cw) (EK n))));rw[hsn];exact dK.refl _
  ·have hack:=U8 cw q hpb _ (l.getD (j:Int).toNat default).c hG.r;rw[hrr]at hack;have hst:jH cw q (l.getD (j:Int).toNat default)=qw q (l.getD (j:Int).toNat default).r.toNat (l.getD (j:Int).toNat default).c:=by unfold jH;rw[if_neg o_,if_pos hk]
   rw[hst]at hsn;dsimp only[yg]at hack;repeat' ((conv=>whnf);first|refine K1.u ?_|refine K1.C 1 [(0,_)] (hack) rfl ?_|refine K1.o (id:=11) (nN [0,1,2,3,4,5,6,7] [(8,some [7,5,3,1])]) ?_|fail)
   all_goals(conv=>whnf)
   refine⟨⟨j+1,hjl⟩,_,dZ.mk' [] _ _ _ rfl gQ ⟨dB rfl,dB rfl,⟨_,rfl, ?_⟩,dB rfl,trivial⟩ rfl,by show l.length-(j+1)<l.length-j;omega⟩;show dK _ (.obs (BL cw ((l.take (j+1)).foldl (jH cw) (EK n))));rw[hsn];exact dK.refl _
 ·obtain rfl:j=l.length:=o_
  rw[aof];repeat' ((conv=>whnf);first|refine K1.u ?_|fail)
  all_goals(conv=>whnf)
  exact iF [(42,11),(40,12)]
theorem Vw(h:Hb)(hup:h.up=true):aj prog 72 [(0,.obs (Ci h))] [.box 0 0] (.v (.int .i64 19)) [(0,.obs (Ci h))]:=by
 refine FU (ho:=[]) ⟨_,_,func72,rfl,rfl⟩ ?_ rfl;rw[am2];obtain⟨up,c,p,d⟩:=h;dsimp only at hup;subst hup;dsimp only[ni,hbB,pO,gX];refine K1.M 0x10031e00215 func72 40 ?_
 all_goals(conv=>whnf)
 exact iF []
structure ShG(w:Int)(r:Nat)(s:jU):Prop where
 b:iQ s
 k:(s.kept.length:Int)<=w
 may:∀e∈s.kept,dU e=0
 own:∀e∈s.kept,e.r=(r:Int)
 seq:∀j,j<s.kept.length->(s.kept.getD j default).n=s.base+1+(j:Int)
structure Vx(w:Int)(p:Pt):Prop where
 h1:1<=p.sh.length
 h5:p.sh.length<=5
 t:p.told.length=p.sh.length
 s:∀r,r<p.sh.length->ShG w r (p.sh.getD r default)
theorem Vx.b{w:Int}{p:Pt}(h:Vx w p):qA p:=⟨h.h1,h.h5,h.t,λ s hs=>by
 obtain⟨i,hi,rfl⟩:=anR hs;have:=(h.s i hi).b;rwa [List.getD,amX hi]at this⟩
theorem getD_mem{α:Type}{l:List α}{i:Nat}{d:α}(h:i<l.length):l.getD i d∈l:=by
 rw[List.getD,amX h];exact anH h
theorem QZ(p:Ev->Bool):∀l:List Ev,∃k,k<=l.length/\l.dropWhile p=l.drop k/\(∀i,i<k->p (l.getD i default)=true)/\(k<l.length->p (l.getD k default)=false)
 |[]=>⟨0,ani _,rfl,λ i hi=>absurd hi (anA i),λ h=>absurd h (anA _)⟩
 |e::l=>by
  cases hp:p e with
  |true=>
   obtain⟨k,h1,h2,h3,h4⟩:=QZ p l;refine⟨k+1,Nat.succ_le_succ h1,by rw[List.dropWhile_cons_of_pos hp,h2];rfl,λ i hi=>?_,λ h=>h4 (Nat.lt_of_succ_lt_succ h)⟩;cases i with
   |zero=>exact hp
   |succ i=>exact h3 i (Nat.lt_of_succ_lt_succ hi)
  |false=>exact⟨0,ane _,by rw[List.dropWhile_cons_of_neg (by rw[hp];simp)];rfl,λ i hi=>absurd hi (anA i),λ _=>hp⟩
theorem afm{s:jU}(hok:∀j,j<l.length->qX s l j):∃k,k<=l.length/\newS s l=l.drop k/\ ∀i,k+i<l.length->(l.getD (k+i) default).n=s.len+1+(i:Int):=by
 obtain⟨k,h1,h2,h3,h4⟩:=QZ (λ e=>decide (e.n<=s.len)) l;refine⟨k,h1,h2,λ i=>?_⟩;induction i with
 |zero=>
  intro hk;have hn:s.len<(l.getD k default).n:=by have:=h4 hk;simpa using this
  have hok:=hok k hk;unfold qX at hok;show(l.getD k default).n=s.len+1+((0:Nat):Int);by_cases h0:k=0
  ·subst h0;rw[if_pos rfl]at hok;omega
  ·rw[if_neg h0]at hok;have:=h3 (k-1) o_;simp only[decide_eq_true_eq]at this;omega
 |succ i ih=>
  intro hk;have hok:=hok (k+(i+1)) hk;have ih:=ih o_;unfold qX at hok;rw[if_neg o_,show k+(i+1)-1=k+i by omega,ih]at hok;rw[hok];omega
theorem Zn{s:jU}(hs:ShG w r s)(hl:∀e∈l,dU e=0/\e.r=(r:Int)):ShG w r (jV w s l).1:=by
 unfold jV;split
 ·rename_i hall;split
  ·exact hs
  ·split
   ·exact hs
   ·rename_i hne hw;have hok:∀j,j<l.length->qX s l j:=λ j hj=>by
     have:=anh.1 hall j (ao3.2 hj);simpa using this
    obtain⟨k,hk,he,hq⟩:=afm hok;have hmem:∀e∈newS s l,e∈l:=λ e h=>by rw[he]at h;exact aoG h
    have hlen:(newS s l).length=l.length-k:=by rw[he,anl]
    have hkl:k<l.length:=by
     rcases anr k l.length with h|h
     ·exact h
     ·exact absurd (by rw[he,List.drop_of_length_le h]) hne
    have hlast:=hq (l.length-1-k) o_;rw[show k+(l.length-1-k)=l.length-1 by omega]at hlast;have hm:=(oW (hl _ (getD_mem (d:=default) (show l.length-1<l.length by omega))).1).n2;have hsl:s.len=s.base+(s.kept.length:Int):=rfl;refine⟨⟨hs.b.b0, ?_⟩, ?_, ?_, ?_, ?_⟩
    ·show s.base+((s.kept++newS s l).length:Int)<=1048576;rw[am0,hlen];omega
    ·show((s.kept++newS s l).length:Int)<=w;rw[am0];omega
    ·intro e h;rcases am6.1 h with h|h
     ·exact hs.may e h
     ·exact(hl e (hmem e h)).1
    ·intro e h;rcases am6.1 h with h|h
     ·exact hs.own e h
     ·exact(hl e (hmem e h)).2
    ·intro j hj;show((s.kept++newS s l).getD j default).n=s.base+1+(j:Int);have hj:j<(s.kept++newS s l).length:=hj;rw[am0,hlen]at hj;by_cases hjk:j<s.kept.length
     ·rw[ang,anq hjk,<-ang];exact hs.seq j hjk
     ·rw[ang,anI o_,he,aop,<-ang,hq (j-s.kept.length) o_];omega
 ·exact hs
theorem KO(s:jU)(n:Int):(jG s n).len=s.len:=by
 have hc:=D7 s.base s.kept.length n o_;show sG s.base s.kept.length n+((s.kept.drop _).length:Int)=s.base+(s.kept.length:Int);rw[anl];omega
theorem afn{s:jU}(hs:ShG w r s)(n:Int):ShG w r (jG s n):=by
 have hc:=D7 s.base s.kept.length n o_;have hk:=hs.k;refine⟨QN hs.b n, ?_,λ e h=>hs.may e (aoG h),λ e h=>hs.own e (aoG h),λ j hj=>?_⟩
 ·show((s.kept.drop _).length:Int)<=w;rw[anl];omega
 ·have hj:j<(s.kept.drop (sG s.base s.kept.length n-s.base).toNat).length:=hj;rw[anl]at hj;show((s.kept.drop (sG s.base s.kept.length n-s.base).toNat).getD j default).n=sG s.base s.kept.length n+1+(j:Int);rw[ang,aop,<-ang,hs.seq _ o_];omega
theorem qx{α:Type}{f:α->α}{d:α}:∀{r:Nat}{l:List α}{i:Nat},i<l.length->(dR f r l).getD i d=if i=r then f (l.getD i d)else l.getD i d
 |r,[],i,h=>by simp at h
 |0,x::l,0,_=>by simp[dR]
 |0,x::l,i+1,_=>by simp[dR]
 |r+1,x::l,0,_=>by simp[dR]
 |r+1,x::l,i+1,h=>by
  have:=qx (f:=f) (d:=d) (r:=r) (l:=l) (i:=i) (by simpa using h);simpa[dR]using this
theorem Cm(told:List aS){d:jU}:∀{l:List jU}{i j:Nat},j<l.length->(mP told i l).getD j d=jG (l.getD j d) (iU told (i+j))
 |[],i,j,h=>by simp at h
 |s::l,i,0,_=>by simp[mP]
 |s::l,i,j+1,h=>by
  have:=Cm told (d:=d) (l:=l) (i:=i+1) (j:=j) (by simpa using h);rw[show i+1+j=i+(j+1) by omega]at this;simpa[mP]using this
theorem Vx.set{p:Pt}(h:Vx w p){s:jU}(hs:ShG w r s):Vx w ⟨dR (λ _=>s) r p.sh,p.told⟩:=by
 refine⟨by rw[dw];exact h.h1,by rw[dw];exact h.h5,by rw[dw];exact h.t,λ i hi=>?_⟩;dsimp only at hi⊢;rw[dw]at hi;rw[qx hi];split
 ·rename_i e;rw[e];exact hs
 ·exact h.s i hi
theorem ajU{p:Pt}(h:Vx w p)(r:Nat):Vx w (qp p r):=by
 have hl:(qp p r).sh.length=p.sh.length:=dw _ _ _;refine⟨by rw[hl];exact h.h1,by rw[hl];exact h.h5,by rw[hl];exact h.t,λ i hi=>?_⟩;rw[hl]at hi;show ShG w i ((dR _ r p.sh).getD i default);rw[qx hi];split
 ·exact afn (h.s i hi) _
 ·exact h.s i hi
theorem afo{p:Pt}(h:Vx w p)(r:Nat)(c:aS):Vx w (qw p r c):=by
 have hb:=afl h.b r c;refine⟨hb.1.h1,hb.1.h5,hb.1.t,λ i hi=>?_⟩;rw[hb.2]at hi;show ShG w i ((mP _ 0 p.sh).getD i default);rw[Cm _ hi];exact afn (h.s i hi) _
theorem Zo{p:Pt}(h:Vx w p)(hr:r<p.sh.length)(hl:∀e∈l,dU e=0/\e.r=(r:Int)):Vx w (pushP w r l p).1:=by
 unfold pushP;split
 ·exact ajU (h.set (Zn (h.s r hr) hl)) r
 ·exact h
theorem OO{p:Pt}(h:(pushP w r l p).2.2=0):(pushP w r l p).2.1=(jV w (p.sh.getD r default) l).1.len:=by
 unfold pushP at h⊢;split
 ·exact KO _ _
 ·rename_i hne;rw[if_neg hne]at h;exact absurd h hne
theorem ald(hw:0<=w)(h1:1<=n)(h5:n<=5):Vx w (EK n):=by
 obtain⟨hb,e⟩:=aiF h1 h5;refine⟨hb.h1,hb.h5,hb.t,λ r hr=>?_⟩;rw[e]at hr;have he:(EK n).sh.getD r default=⟨0,[]⟩:=by
  show(List.replicate n (⟨0,[]⟩:jU)).getD r default=_;rw[ang,aoI,if_pos hr];rfl
 rw[he];exact⟨⟨s_,s_⟩,by simpa using hw,(λ e h=>by simp at h),(λ e h=>by simp at h),λ j hj=>by simp at hj⟩
theorem CB{w:Int}{r:Nat}{c:aS}:∀{l:List jU}{i:Nat},(∀s∈l,(s.kept.length:Int)<=w/\ ∀e∈s.kept,dU e=0)->((kX r c i l).length:Int)<=w*l.length/\ ∀e∈kX r c i l,dU e=0
 |[],_,_=>⟨by simp[kX],λ e h=>by simp[kX]at h⟩
 |s::l,i,h=>by
  have ih:=CB (w:=w) (r:=r) (c:=c) (l:=l) (i:=i+1) λ x hx=>h x (am1 _ hx);have h0:=h s amW;have hf:=anj (ql (c.get i)) s.kept;have hw:0<=w:=o_
  refine⟨?_,λ e he=>?_⟩
  ·show((_++kX r c (i+1) l).length:Int)<=w*((l.length+1:Nat):Int);rw[am0,Int.natCast_add,Int.natCast_add,Int.mul_add];have h1:=ih.1;have:(((if(i:Nat)=r then []else s.kept.filter (ql (c.get i)):List Ev).length:Nat):Int)<=w:=by
    split
    ·simpa using hw
    ·omega
   simp only[Int.natCast_one,Int.mul_one];omega
  ·rcases am6.1 he with he|he
   ·split at he
    ·simp at he
    ·exact h0.2 e (ana.1 he).1
   ·exact ih.2 e he
structure LD where
 (cuts:Int)(l:List Ev)
instance:Inhabited LD:=⟨⟨0,[]⟩⟩
structure RsB(s:LD):Prop where
 c0:0<=s.cuts
 c1:s.cuts<=(s.l.length:Int)
 ln:s.l.length<=1048576
def Ey(s:LD)(n:Int):Int:=if(if(s.l.length:Int)<n then(s.l.length:Int)else n)>s.cuts then(if(s.l.length:Int)<n then(s.l.length:Int)else n)else s.cuts
def afp(s:LD)(n:Int):LD:=⟨Ey s n,s.l⟩
def toS(s:LD):jU:=⟨s.cuts,s.l.drop s.cuts.toNat⟩
theorem Ez{s:LD}(h:RsB s):(toS s).len=(s.l.length:Int):=by
 have h0:=h.c0;have h1:=h.c1;show s.cuts+((s.l.drop s.cuts.toNat).length:Int)=_;rw[anl];omega
def OQ(s:LD)(l:List Ev)(j:Nat):Prop:=if j=0 then(l.getD 0 default).n<=(s.l.length:Int)+1 else(l.getD j default).n=(l.getD (j-1) default).n+1
instance(s:LD)(l:List Ev)(j:Nat):Decidable (OQ s l j):=by unfold OQ;infer_instance
def Zp(s:LD)(l:List Ev):List Ev:=l.filter λ e=>decide ((s.l.length:Int)<e.n)
def jR(most:Int)(s:LD)(l:List Ev):LD×Int:=
 if(List.range l.length).all (λ j=>decide (OQ s l j))then
  (if Zp s l≠[]/\most<(s.l.length:Int)-s.cuts+((Zp s l).length:Int)then(s,21)else(⟨s.cuts,s.l++Zp s l⟩,0))
 else(s,20)
theorem afq{s:jU}(hok:∀j,j<l.length->qX s l j):l.filter (λ e=>decide (s.len<e.n))=newS s l:=by
 obtain⟨k,hk,he,hq⟩:=afm hok;obtain⟨k',hk',he',hle,_⟩:=QZ (λ e=>decide (e.n<=s.len)) l;have hkk:l.drop k=l.drop k':=he.symm.trans he';have hk2:k=k':=by
  have:=congrArg List.length hkk;rw[anl,anl]at this;omega
 subst hk2;rw[he];conv=>lhs;rw[<-an8 k l]
 rw[aoq];have e1:(l.take k).filter (λ e=>decide (s.len<e.n))=[]:=by
  rw[ao4];intro e h;obtain⟨i,hi,rfl⟩:=anR h;rw[am5]at hi;have:=hle i o_;rw[List.getD,amX o_]at this;simp only[Option.getD_some,decide_eq_true_eq]at this;rw[List.getElem_take,decide_eq_true_eq];omega
 have e2:(l.drop k).filter (λ e=>decide (s.len<e.n))=l.drop k:=by
  rw[List.filter_eq_self];intro e h;obtain⟨i,hi,rfl⟩:=anR h;rw[anl]at hi;have:=hq i o_;rw[List.getD,amX o_]at this;simp only[Option.getD_some]at this;rw[List.getElem_drop,this,decide_eq_true_eq];omega
 rw[e1,e2,ano]
theorem XU{s:LD}(h:RsB s)(l:List Ev):jV most (toS s) l=(toS (jR most s l).1,(jR most s l).2):=by
 have hl:=Ez h;have h0:=h.c0;have h1:=h.c1;have hok:∀j,qX (toS s) l j↔OQ s l j:=λ j=>by unfold qX OQ;rw[hl]
 unfold jV jR;by_cases ha:(List.range l.length).all (λ j=>decide (OQ s l j))=true
 ·have ha':(List.range l.length).all (λ j=>decide (qX (toS s) l j))=true:=by simpa only[hok]using ha
  rw[if_pos ha,if_pos ha'];have hok':∀j,j<l.length->qX (toS s) l j:=λ j hj=>by
   have:=anh.1 ha' j (ao3.2 hj);simpa using this
  have hn:Zp s l=newS (toS s) l:=by
   rw[<-afq hok',hl];rfl
  rw[hn];by_cases he:newS (toS s) l=[]
  ·rw[if_pos he,if_neg (λ h=>h.1 he),he,am2]
  ·rw[if_neg he];have hk:((toS s).kept.length:Int)=(s.l.length:Int)-s.cuts:=by
    show((s.l.drop s.cuts.toNat).length:Int)=_;rw[anl];omega
   rw[hk];by_cases hm:most<(s.l.length:Int)-s.cuts+((newS (toS s) l).length:Int)
   ·rw[if_pos hm,if_pos ⟨he,hm⟩]
   ·rw[if_neg hm,if_neg (λ h=>hm h.2)];refine Prod.ext ?_ rfl;show(⟨s.cuts,s.l.drop s.cuts.toNat++newS (toS s) l⟩:jU)=⟨s.cuts,(s.l++newS (toS s) l).drop s.cuts.toNat⟩;rw[List.drop_append_of_le_length o_]
 ·have ha':¬ (List.range l.length).all (λ j=>decide (qX (toS s) l j))=true:=by simpa only[hok]using ha
  rw[if_neg ha,if_neg ha']
theorem afr{s:LD}(h:RsB s)(n:Int):toS (afp s n)=jG (toS s) n/\RsB (afp s n):=by
 have h0:=h.c0;have h1:=h.c1;have hk:((toS s).kept.length:Int)=(s.l.length:Int)-s.cuts:=by
  show((s.l.drop s.cuts.toNat).length:Int)=_;rw[anl];omega
 have e:Ey s n=sG (toS s).base (toS s).kept.length n:=by
  unfold Ey sG;rw[hk,show(toS s).base+((s.l.length:Int)-s.cuts)=(s.l.length:Int) by show s.cuts+_=_;omega];rfl
 have hc:=D7 (toS s).base (toS s).kept.length n o_;rw[<-e,hk,show(toS s).base=s.cuts from rfl]at hc;refine⟨?_,by show 0<=Ey s n;omega,by show Ey s n<=(s.l.length:Int);omega,h.ln⟩;unfold jG;rw[<-e];show(⟨Ey s n,s.l.drop (Ey s n).toNat⟩:jU)=⟨Ey s n,(s.l.drop s.cuts.toNat).drop (Ey s n-s.cuts).toNat⟩;rw[ao1];congr 2;omega
structure CP where
 (ps:List LD)(qY:List aS)
def CP.s(y:CP)(i:Nat):LD:=y.ps.getD i default
def toP(n:Nat)(y:CP):Pt:=⟨(y.ps.take n).map toS,y.qY.take n⟩
structure RN(n:Nat)(y:CP):Prop where
 p5:y.ps.length=5
 a5:y.qY.length=5
 s:∀s∈y.ps,RsB s
 n1:1<=n
 n5:n<=5
theorem Am{α:Type}(f:α->α):∀{s n:Nat}{l:List α},s<n->(dR f s l).take n=dR f s (l.take n)
 |s,n,[],_=>by cases s<;>simp[dR]
 |0,n+1,x::l,_=>rfl
 |s+1,n+1,x::l,h=>by
  show x::(dR f s l).take n=x::dR f s (l.take n);rw[Am f o_]
theorem KP{α β:Type}{f:α->α}{g:β->β}{h:α->β}:∀{s:Nat}{l:List α},(∀x∈l,h (f x)=g (h x))->(dR f s l).map h=dR g s (l.map h)
 |s,[],_=>by cases s<;>rfl
 |0,x::l,hx=>by
  show h (f x)::l.map h=g (h x)::l.map h;rw[hx x amW]
 |s+1,x::l,hx=>by
  show h x::(dR f s l).map h=h x::dR g s (l.map h);rw[KP λ y hy=>hx y (am1 _ hy)]
def XV(n:Nat)(y:CP)(s:Nat):Int:=QM s ((y.qY.headD aV).at s) (y.qY.take n)
theorem afs{y:CP}(h:RN n y)(s:Nat):XV n y s=iU (toP n y).told s:=by
 have h1:=h.n1;obtain⟨m,rfl⟩:∃m,n=m+1:=⟨n-1,o_⟩;unfold XV iU toP;rcases y.qY with _|⟨a,l⟩<;>rfl
def vU(n:Nat)(y:CP)(s:Nat):CP:=⟨dR (λ x=>afp x (XV n y s)) s y.ps,y.qY⟩
theorem Zq{y:CP}(h:RN n y)(s:Nat):RN n (vU n y s):=
 ⟨by show(dR _ _ _).length=5;rw[dw];exact h.p5,h.a5,λ x hx=>by
  rcases vO hx with hx|⟨z,hz,rfl⟩
  ·exact h.s x hx
  ·exact(afr (h.s z hz) _).2,h.n1,h.n5⟩
theorem Zr{y:CP}(h:RN n y){s:Nat}(hs:s<n):toP n (vU n y s)=qp (toP n y) s:=by
 unfold vU qp toP;dsimp only;rw[Am _ hs,KP (g:=λ x=>jG x (iU (y.qY.take n) s)) λ x hx=>by
  rw[(afr (h.s x (an7 hx)) _).1,afs h];rfl]
def iW(most:Int)(n r:Nat)(l:List Ev)(y:CP):CP×Int×Int:=
 if(jR most (y.ps.getD r default) l).2=0 then
  (vU n ⟨dR (λ _=>(jR most (y.ps.getD r default) l).1) r y.ps,y.qY⟩ r,(((jR most (y.ps.getD r default) l).1.l.length:Nat):Int),0)
 else(y,0,(jR most (y.ps.getD r default) l).2)
theorem zq{y:CP}(hr:r<n)(h:RN n y):(toP n y).sh.getD r default=toS (y.ps.getD r default):=by
 have h5:=h.p5;have hn:=h.n5;show((y.ps.take n).map toS).getD r default=_;rw[ang,anE,apl hr,ang,amX o_];rfl
theorem ahL{y:CP}(hr:r<n)(h:RN n y)(hB:RsB (jR most (y.ps.getD r default) l).1):
  pushP most r l (toP n y)=(toP n (iW most n r l y).1,(iW most n r l y).2.1,(iW most n r l y).2.2):=by
 have h5:=h.p5;have hn:=h.n5;have hs:RsB (y.ps.getD r default):=h.s _ (getD_mem o_);unfold pushP iW;rw[zq hr h,XU hs];by_cases hx:(jR most (y.ps.getD r default) l).2=0
 ·rw[if_pos hx,if_pos hx];have hy:RN n ⟨dR (λ _=>(jR most (y.ps.getD r default) l).1) r y.ps,y.qY⟩:=⟨by show(dR _ _ _).length=5;rw[dw];exact h.p5,h.a5,λ x hx=>by
   rcases vO hx with hx|⟨_,_,rfl⟩
   ·exact h.s x hx
   ·exact hB,h.n1,h.n5⟩
  have e:(⟨dR (λ _=>toS (jR most (y.ps.getD r default) l).1) r (toP n y).sh,(toP n y).told⟩:Pt)=toP n ⟨dR (λ _=>(jR most (y.ps.getD r default) l).1) r y.ps,y.qY⟩:=by
   unfold toP;dsimp only;rw[Am _ hr,KP (g:=λ _=>toS (jR most (y.ps.getD r default) l).1) λ _ _=>rfl]
  refine Prod.ext ?_ (Prod.ext ?_ rfl)
  ·show qp _ r=toP n (vU n _ r);rw[e,Zr hy hr]
  ·show(jG (toS _) _).len=(((jR most (y.ps.getD r default) l).1.l.length:Nat):Int);rw[KO,Ez hB]
 ·rw[if_neg hx,if_neg hx]
theorem aft(p:Pt)(hp:qA p):(List.range p.sh.length).foldl qp p=⟨mP p.told 0 p.sh,p.told⟩:=
 Pt.cases (C:=λ p=>(List.range p.sh.length).foldl qp p=⟨mP p.told 0 p.sh,p.told⟩) p hp (λ _ _ _=>rfl) (λ _ _ _ _ _ _=>rfl) (λ _ _ _ _ _ _ _ _ _=>rfl) (λ _ _ _ _ _ _ _ _ _ _ _ _=>rfl) (λ _ _ _ _ _ _ _ _ _ _ _ _ _ _ _=>rfl)
def zu(n:Nat)(y:CP)(r:Nat)(c:aS):CP:=(List.range n).foldl (λ y s=>vU n y s) ⟨y.ps,dR (λ t=>t.jn c) r y.qY⟩
theorem Zt{n:Nat}:∀(L:List Nat)(y:CP),RN n y->(∀s∈L,s<n)->toP n (L.foldl (λ y s=>vU n y s) y)=L.foldl qp (toP n y)/\RN n (L.foldl (λ y s=>vU n y s) y)
 |[],y,h,_=>⟨rfl,h⟩
 |s::L,y,h,hs=>by
  have:=Zt L (vU n y s) (Zq h s) λ x hx=>hs x (am1 _ hx);rw[Zr h (hs s amW)]at this;exact this
theorem ale{y:CP}(h:RN n y):qA (toP n y):=by
 have h5:=h.p5;have a5:=h.a5;have n5:=h.n5;have e:(toP n y).sh.length=n:=by
  show((y.ps.take n).map toS).length=n;rw[anu,am5];omega
 refine⟨by rw[e];exact h.n1,by rw[e];exact h.n5, ?_,λ s hs=>?_⟩
 ·rw[e];show(y.qY.take n).length=n;rw[am5];omega
 ·obtain⟨x,hx,rfl⟩:=ant.1 hs;have hb:=h.s x (an7 hx);have hl:=Ez hb;have:=hb.ln;have e2:(toS x).len=(toS x).base+((toS x).kept.length:Int):=rfl;exact⟨hb.c0,o_⟩
theorem ajV{c:aS}{y:CP}(hr:r<n)(h:RN n y):toP n (zu n y r c)=qw (toP n y) r c/\RN n (zu n y r c):=by
 have hy:RN n ⟨y.ps,dR (λ t=>t.jn c) r y.qY⟩:=⟨h.p5,by show(dR _ _ _).length=5;rw[dw];exact h.a5,h.s,h.n1,h.n5⟩;have hf:=Zt (List.range n) _ hy λ s hs=>ao3.1 hs;have hl:(toP n ⟨y.ps,dR (λ t=>t.jn c) r y.qY⟩).sh.length=n:=by
  have h5:=h.p5;have n5:=h.n5;show((y.ps.take n).map toS).length=n;rw[anu,am5];omega
 have hc:=aft _ (ale hy);rw[hl]at hc;refine⟨?_,hf.2⟩;show toP n ((List.range n).foldl (λ y s=>vU n y s) _)=_;rw[hf.1,hc];unfold toP qw;dsimp only;rw[Am _ hr]
def alf(s:LD)(n:Int):List Ev:=(s.l.drop s.cuts.toNat).filter (ql n)
def qZ(r:Nat)(c:aS):Nat->List LD->List Ev
 |_,[]=>[]
 |i,s::l=>(if i=r then []else alf s (c.get i))++qZ r c (i+1) l
theorem KQ(r:Nat)(c:aS):∀(l:List LD)(i:Nat),kX r c i (l.map toS)=qZ r c i l
 |[],_=>rfl
 |s::l,i=>by
  show(if i=r then []else(toS s).kept.filter (ql (c.get i)))++kX r c (i+1) (l.map toS)=_;rw[KQ r c l];rfl
end Go.Proofs.YtkimgljckickcaaGreat
