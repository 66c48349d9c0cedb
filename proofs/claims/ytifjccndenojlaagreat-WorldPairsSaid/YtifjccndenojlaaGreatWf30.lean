/-
  Contracts of the walk:NdL,NdU,NdUc,HbI,HbL,HbO,HbT,HbW,HyD.
-/
import Derived.Test.YtifjccndenojlaaGreatWf29
import Derived.Test.YtifjccndenojlaaGreatWf22
import Derived.Test.YtifjccndenojlaaGreatWf24
import Derived.Test.YtifjccndenojlaaGreatWf16
import Derived.Test.YtifjccndenojlaaGreatWf28
set_option maxHeartbeats 16000000
set_option maxRecDepth 100000
set_option linter.unusedVariables false
set_option linter.unusedSimpArgs false
namespace Go.Proofs.YtifjccndenojlaaGreat
open Go.RowKit
open Go.Proofs.Tryz
variable{f:FuncId}{most w:Int}{ho:List (Nat×AO)}{aZ:List AV}{l:List Ev}{n r:Nat}
theorem Y9(h:Nd)(hup:h.up=false)(l:List Rc)(t:List UInt8)(hr:xZ h.d.bs l t)(hl:h.d.bs.length<=1000000000)(hb:∀j,j<=l.length->(IJ (l.take j)).1.length<=1000000)(hev:∀j,j<l.length->(l.getD j default).ev.length<=1000000)(hG:aj' (IJ l).1)(hs:0<=(IJ l).2/\(IJ l).2<=1000000):
  aj prog 39 [(0,.obs (kC h))] [.box 0 0] (.v (.int .i64 0)) [(0,.obs (kC ⟨h.c,h.r,true,⟨jq l,false,false,h.d.keep⟩,(IJ l).1,(IJ l).2,cZ (IJ l).1,[],nY h.c.q (IJ l).2 h.r (IJ l).1⟩))]:=by
 refine yg (ho:=[]) 15 16 17 18 19 20 ⟨_,_,func39,rfl,rfl⟩ rfl ?_ rfl;rw[aor];have hcl:=λ d=>sK d h.d.bs (bG.bytes _) rfl hl;have hall:=L8 h.d.bs (bG.bytes _) rfl hl hr;have hbl:(jq l).length<=h.d.bs.length:=by rw[hr.eq,aop];omega
 have htk:h.d.bs.take (jq l).length=jq l:=by
  conv=>lhs;rw[hr.eq]
  rw[aqJ]
 have htr:=Qg ⟨h.d.bs,false,false,h.d.keep⟩ (jq l).length hbl hl;dsimp only at htr;rw[htk]at htr;have hll:=Fb l;obtain⟨c,r,up,⟨bs,down,cut,keep⟩,amO,amP,ic0,akb,kZ⟩:=h;dsimp only[wM,ndN,tV,pG,gI]at*;subst hup;generalize jq l=w at*;clear hr htk;refine K1.M 0x40c7800008bd func39 40 ?_;repeat' ((conv=>whnf);first|refine K1.F1 (hcl _) ?_|refine K1.P1 hall ?_|refine K1.C 2 [(0,_),(1,_)] (htr) rfl ?_|refine K1.I 0x85 func67 ?_|refine K1.I 0x1 func68 ?_|refine K1.I 0x5 func70 ?_|refine Jy.scope bQ 0x40c7800008bd ?_|refine Jy.label ?_|fail)
 all_goals(conv=>whnf)
 refine aI.ad6 0 9 45 83 12 (dI []) d_ rfl rfl ?_;refine aI.mk {j:Nat//j<=l.length} (λ j=>⟨[(33,.v (.int .i64 (j.1:Int))),(32,.v (.int .i64 (l.length:Int))),(31,.sl 9 l.length false (rcF l)),(0,.box 0 0),(2,.v (.int .i64 0))],
   [(0,.box 109 [.v (.int .i64 c.n),.v (.int .i64 c.w),.v (.int .i64 c.q),.v (.int .i64 c.h),.v (.int .i64 c.l),.v (.int .i64 c.p),.v (.int .i64 (r:Int)),.v (.bool false),.box 8 0,.own 45,.v (.int .i64 (IJ (l.take j.1)).2),.box 11 0,.box 12 0,.box 13 0]),(8,.box 210 [.own 41,.v (.bool false),.v (.bool false),.v (.int .i64 keep)]),(41,.row 5 1 w.length true (aO w)),(11,.obs (wF amO amO.length)),(12,Bg c.h ic0 (yG akb)),(13,zV c.q c.w amP (.own 14)),(14,bH kZ),(45,bH (IJ (l.take j.1)).1)],
   [[(0,.box 0 0),(1,.box 8 0),(2,.own 11),(3,.box 12 0),(4,.box 13 0),(5,.own 9),(6,.own 10),(7,.own 14)]],50⟩) (λ j=>l.length-j.1) ⟨0,aoB _⟩ _
  (dO.mk' [] _ _ _ rfl ⟨aY.int rfl,au,au,au,au,trivial⟩ ⟨ay rfl,ay rfl,ay rfl,ay rfl,ay rfl,ay rfl,ay rfl,ay rfl,trivial⟩ rfl) ?_
 rintro⟨j,hj⟩;dsimp only;by_cases hjl:j<l.length
 ·have hst:=agG hjl;have hb0:=hb j hj;have hb1:=hev j hjl;rw[show l.getD j default=l.getD (j:Int).toNat default from rfl]at hst hb1;generalize IJ (l.take j)=q at hst hb0⊢;obtain⟨q1,q2⟩:=q;unfold acP at hst;dsimp only at hst hb0⊢;by_cases hk3:(l.getD (j:Int).toNat default).k=3
  ·rw[if_pos hk3]at hst;repeat' ((conv=>whnf);first|refine K1.u ?_|fail)
   all_goals(conv=>whnf)
   exact⟨⟨j+1,hjl⟩,_,dO.mk' [] _ _ _ rfl ⟨aY.int rfl,au,au,au,au,trivial⟩ ⟨⟨_,rfl,by dsimp only;rw[hst];exact dK.refl _⟩,ay rfl,ay rfl,ay rfl,ay rfl,ay rfl,ay rfl,⟨_,rfl,by dsimp only;rw[hst];exact dK.refl _⟩,trivial⟩ rfl,by show l.length-(j+1)<l.length-j;omega⟩
  ·rw[if_neg hk3]at hst;by_cases hk4:(l.getD (j:Int).toNat default).k=4
   ·rw[if_pos hk4]at hst;repeat' ((conv=>whnf);first|refine K1.u ?_|refine K1.o (id:=15) (nN [0,1,2,3,4,5] ((6,some [4])::nN [7,8] [(9,some [4,3,7])])) ?_|refine K1.o (id:=16) (nN [0,1,2,3,4,5,6] ((7,some [6,4,2])::nN [8,9] [(10,some [6,4,2,8])])) ?_|fail)
    all_goals(conv=>whnf)
    exact⟨⟨j+1,hjl⟩,_,dO.mk' [(51,45)] _ _ _ rfl ⟨aY.int rfl,au,au,au,au,trivial⟩ ⟨⟨_,rfl,by dsimp only;rw[hst];exact dK.refl _⟩,ay rfl,ay rfl,ay rfl,ay rfl,ay rfl,ay rfl,⟨_,rfl,by dsimp only;rw[hst];exact dK.refl _⟩,trivial⟩ rfl,by show l.length-(j+1)<l.length-j;omega⟩
   ·rw[if_neg hk4]at hst;repeat' ((conv=>whnf);first|refine K1.u ?_|refine K1.o (id:=16) (nN [0,1,2,3,4,5,6] ((7,some [6,4,2])::nN [8,9] [(10,some [6,4,2,8])])) ?_|fail)
    all_goals(conv=>whnf)
    exact⟨⟨j+1,hjl⟩,_,dO.mk' [(51,45)] _ _ _ rfl ⟨aY.int rfl,au,au,au,au,trivial⟩ ⟨⟨_,rfl,by dsimp only;rw[hst];exact dK.refl _⟩,ay rfl,ay rfl,ay rfl,ay rfl,ay rfl,ay rfl,⟨_,rfl,by dsimp only;rw[hst];exact dK.row (by rw[aop]) λ m _=>els_app rfl m⟩,trivial⟩ rfl,by show l.length-(j+1)<l.length-j;omega⟩
 ·obtain rfl:j=l.length:=o_
  rw[apH];have hgl:=hG.len;generalize IJ l=q at hG hs hgl⊢;obtain⟨L,sn⟩:=q;dsimp only at hG hs hgl⊢;clear hall hcl htr hb hev;repeat' ((conv=>whnf);first|refine K1.u ?_|refine K1.C 0 [] (aj8) rfl ?_|refine K1.C 0 [] (V3 c.q c.w sn) rfl ?_|refine K1.I 0x80000003c0000015 func72 ?_|refine K1.o (id:=2) (nN [0,1,2,3,4,5,6,7,8,9,10,11,12,13,14] ((15,some [14,12,10,7,5,2])::nN [16,17] [(18,some [14,12,10,7,5,2,16])])) ?_|fail)
  all_goals(conv=>whnf)
  refine aI.ad6 52 3 55 83 12 (dI []) d_ rfl rfl ?_;refine aI.mk {i:Nat//i<=L.length} (λ i=>⟨[(32,.v (.int .i64 (i.1:Int))),(31,.v (.int .i64 (L.length:Int))),(30,.own 45),(2,.box 50 0),(0,.box 0 0)],
   [(52,.box 182 [.v (.int .i64 c.q),.v (.int .i64 c.w),.v (.int .i64 sn),.own 55]),(51,.obs (wF (L.take i.1) i.1)),(50,.box 41 (cZ (L.take i.1)).cs),(0,.box 109 [.v (.int .i64 c.n),.v (.int .i64 c.w),.v (.int .i64 c.q),.v (.int .i64 c.h),.v (.int .i64 c.l),.v (.int .i64 c.p),.v (.int .i64 (r:Int)),.v (.bool false),.box 8 0,.own 45,.v (.int .i64 sn),.box 51 0,.box 12 0,.box 52 0]),(8,.box 210 [.own 41,.v (.bool false),.v (.bool false),.v (.int .i64 keep)]),(41,.row 5 1 w.length true (aO w)),(12,Bg c.h ic0 (yG akb)),(45,bH L),(55,bH (nY c.q sn r (L.take i.1)))],
   [[(67,.box 0 0),(34,.v (.bool false)),(33,.v (.int .i64 (l.length:Int))),(32,.v (.int .i64 (l.length:Int))),(31,.sl 9 l.length false (rcF l)),(0,.box 0 0),(2,.v (.int .i64 0))],[(0,.box 0 0),(1,.box 8 0),(2,.own 11),(3,.box 12 0),(4,.box 13 0),(5,.own 9),(6,.own 10),(7,.own 14)]],60⟩) (λ i=>L.length-i.1) ⟨0,aoB _⟩ _
   (dO.mk' [] _ _ _ rfl ⟨aY.int rfl,au,au,au,au,trivial⟩ ⟨ay rfl,ay rfl,ay rfl,ay rfl,ay rfl,ay rfl,ay rfl,ay rfl,ay rfl,trivial⟩ rfl) ?_
  rintro⟨i,hi⟩;dsimp only[aV.cs];have hcb:=aaN (L.take i);rw[aou,ap5 hi]at hcb;by_cases hil:i<L.length
  ·have hap:=SK (hG.nx i hil) (hG.may i hil) (by rw[aou];omega) i;have her:=hG.r i hil;have hct:=acS hil;have hwt:=Y5 (q:=c.q) (sent:=sn) (r:=r) hil;have hwl:=Qi (q:=c.q) (sent:=sn) (r:=r) (L.take i) [];have hwn:=λ j=>alB (q:=c.q) (sent:=sn) (r:=r) (l:=L.take i) (λ e he=>hG.n e (apn he)) j;rw[aou,ap5 hi,aoZ,apl]at hwl;rw[<-take_snoc hil]at hap;rw[show L.getD i default=L.getD (i:Int).toNat default from rfl]at hap her hct hwt;obtain⟨⟨w',x⟩,hwx⟩:∃z,NT c.q sn (nY c.q sn r (L.take i)) (L.getD (i:Int).toNat default)=z:=⟨_,rfl⟩;have had:=V4 c.q c.w sn _ w' (L.getD (i:Int).toNat default) x (by show(nY c.q sn r (L.take i)).length<=_;unfold nY;omega) o_ (λ j=>by have:=hwn j;omega) hwx;unfold yH at hwt;rw[hwx]at hwt;clear hwx hwn hwl hG;generalize nY c.q sn r (L.take i)=wt at hwt had⊢;generalize cZ (L.take i)=ck at hct hcb⊢;obtain⟨c0,c1,c2,c3,c4⟩:=ck;unfold aV.upto at hcb;dsimp only[Ev.av,Ev.cs,zV]at*;have SE:Nat.ble ((i:Int).toNat+1) L.length=true:=apm o_;rcases(show(L.getD (i:Int).toNat default).r=0\/(L.getD (i:Int).toNat default).r=1\/(L.getD (i:Int).toNat default).r=2\/(L.getD (i:Int).toNat default).r=3\/(L.getD (i:Int).toNat default).r=4 by omega)with hr0|hr0|hr0|hr0|hr0;all_goals
    rw[hr0]at hct;simp only[aV.inc,Int.toNat_zero,Int.toNat_one,Int.reduceToNat]at hct;by_cases ho:(L.getD (i:Int).toNat default).r=(r:Int)
    ·by_cases hn:sn<(L.getD (i:Int).toNat default).n
     ·rw[if_pos ⟨ho,hn⟩]at hwt;repeat' ((conv=>whnf);first|refine K1.u ?_|refine K1.C 1 [(0,_)] (hap) rfl ?_|refine K1.C 2 [(0,_),(1,_)] (had) rfl ?_|refine nV.lit 0 hr0 rfl ?_|refine nV.lit 1 hr0 rfl ?_|refine nV.lit 2 hr0 rfl ?_|refine nV.lit 3 hr0 rfl ?_|refine nV.lit 4 hr0 rfl ?_|refine K1.o (id:=7) (nN [0,1,2,3,4] [(5,some [4,3,1])]) ?_|refine K1.o (id:=9) (nN [0,1,2,3,4] [(5,some [4,3,1])]) ?_|fail)
      all_goals(conv=>whnf)
      exact⟨⟨i+1,hil⟩,_,dO.mk' [(62,55)] _ _ _ rfl ⟨aY.int rfl,au,au,au,au,trivial⟩ ⟨ay rfl,ay rfl,⟨_,rfl,by dsimp only;rw[hct];exact dK.refl _⟩,ay rfl,ay rfl,ay rfl,ay rfl,ay rfl,⟨_,rfl,by dsimp only;rw[hwt];exact dK.refl _⟩,trivial⟩ rfl,by show L.length-(i+1)<L.length-i;omega⟩
     ·rw[if_neg (λ h=>hn h.2)]at hwt;clear had;repeat' ((conv=>whnf);first|refine K1.u ?_|refine K1.C 1 [(0,_)] (hap) rfl ?_|refine nV.lit 0 hr0 rfl ?_|refine nV.lit 1 hr0 rfl ?_|refine nV.lit 2 hr0 rfl ?_|refine nV.lit 3 hr0 rfl ?_|refine nV.lit 4 hr0 rfl ?_|refine K1.o (id:=7) (nN [0,1,2,3,4] [(5,some [4,3,1])]) ?_|fail)
      all_goals(conv=>whnf)
      exact⟨⟨i+1,hil⟩,_,dO.mk' [] _ _ _ rfl ⟨aY.int rfl,au,au,au,au,trivial⟩ ⟨ay rfl,ay rfl,⟨_,rfl,by dsimp only;rw[hct];exact dK.refl _⟩,ay rfl,ay rfl,ay rfl,ay rfl,ay rfl,⟨_,rfl,by dsimp only;rw[hwt];exact dK.refl _⟩,trivial⟩ rfl,by show L.length-(i+1)<L.length-i;omega⟩
    ·rw[if_neg (λ h=>ho h.1)]at hwt;clear had;repeat' ((conv=>whnf);first|refine K1.u ?_|refine K1.C 1 [(0,_)] (hap) rfl ?_|refine nV.lit 0 hr0 rfl ?_|refine nV.lit 1 hr0 rfl ?_|refine nV.lit 2 hr0 rfl ?_|refine nV.lit 3 hr0 rfl ?_|refine nV.lit 4 hr0 rfl ?_|refine K1.o (id:=7) (nN [0,1,2,3,4] [(5,some [4,3,1])]) ?_|fail)
     all_goals(conv=>whnf)
     exact⟨⟨i+1,hil⟩,_,dO.mk' [] _ _ _ rfl ⟨aY.int rfl,au,au,au,au,trivial⟩ ⟨ay rfl,ay rfl,⟨_,rfl,by dsimp only;rw[hct];exact dK.refl _⟩,ay rfl,ay rfl,ay rfl,ay rfl,ay rfl,⟨_,rfl,by dsimp only;rw[hwt];exact dK.refl _⟩,trivial⟩ rfl,by show L.length-(i+1)<L.length-i;omega⟩
  ·obtain rfl:i=L.length:=o_
   rw[apH];generalize cZ L=ck at hcb⊢;obtain⟨c0,c1,c2,c3,c4⟩:=ck;dsimp only;repeat' ((conv=>whnf);first|refine K1.u ?_|refine K1.C 0 [] (VZ c.h ⟨c0,c1,c2,c3,c4⟩) rfl ?_|refine K1.o (id:=11) (nN [0,1,2,3,4,5,6] ((7,some [6,5,2])::nN [8,9] [(10,some [6,5,2,8])])) ?_|fail)
   all_goals(conv=>whnf)
   exact⟨[(41,15),(45,16),(51,17),(60,18),(52,19),(55,20)],rfl,rfl,⟨ay rfl,ay rfl,ay rfl,⟨_,rfl,dK.box λ X us h=>aG.lW (k:=6) (x:= .v (.slice none 0 0)) (y:=yG []) rfl (λ X u h=>C1.gW (s:=12) d_ (show C1 X (.v (.slice none 0 0)) u from h)) h⟩,ay rfl,ay rfl,ay rfl,ay rfl,trivial⟩,rfl,rfl,au⟩
theorem acV(x:Rc)(h:ku x=true){F:Nat->List AV}(hn:n=x.ev.length)(hF:∀i,i<n->F i=dI x.ev i):
  aH prog 56 [rcA x n F] (.bI [.sl 1 (bF x).length true (aO (bF x)),.v (.int .i64 0)]) []:=
 (Bl 0 x h).thaw.args (.of (λ X u hu=>by
  obtain⟨us,e,ha⟩:=hu;exact⟨us,e,aG.lW (k:=8) rfl (x:= .sl 12 n true F) (y:= .sl 12 x.ev.length true (dI x.ev)) (λ X u hu=>show C2 X (.sl 12 x.ev.length true (dI x.ev)) u from aY.sl hn hF X u (show C2 X (.sl 12 n true F) u from hu)) ha⟩) .nil)
theorem anL(h:l=[]):l.length=0:=by rw[h];rfl
theorem Qk(x:Rc)(h:ku x=true)(he:x.ev=[]):aH prog 56 [.agg [.v (.int .i64 x.k),.v (.int .i64 x.r),.v (.int .i64 x.u),.v (.int .i64 x.c.c0),.v (.int .i64 x.c.c1),.v (.int .i64 x.c.c2),.v (.int .i64 x.c.c3),.v (.int .i64 x.c.c4),gW]] (.bI [.sl 1 (bF x).length true (aO (bF x)),.v (.int .i64 0)]) []:=
 (Bl 0 x h).thaw.args (.of (λ X u hu=>by
  obtain⟨us,e,ha⟩:=hu;exact⟨us,e,aG.lW (k:=8) rfl (x:=gW) (y:= .sl 12 x.ev.length true (dI x.ev)) (λ X u hu=>by
   rw[show x.ev.length=0 from anL he];exact C1.gW (s:=12) d_ (show C1 X (.v (.slice none 0 0)) u from hu)) ha⟩) .nil)
theorem acW(h:Nd)(hu:h.up=true)(hw:0<h.wait.length)(hl:h.wait.length<=1000000){k:Nat}(hk:(min (max h.c.w 0) (h.wait.length:Int)).toNat=k)(hm:ku ⟨1,h.r,0,aW,h.wait.take k⟩=true):
  aj prog 28 [(0,.obs (kC h))] [.box 0 0] (.bI [.sl 1 (bF ⟨1,h.r,0,aW,h.wait.take k⟩).length true (aO (bF ⟨1,h.r,0,aW,h.wait.take k⟩)),.v (.int .i64 0)]) [(0,.obs (kC h))]:=by
 refine iE (ho:=[]) ⟨_,_,func28,rfl,rfl⟩ ?_ rfl;have hb:=aiX h.c.q h.c.w h.sent h.wait hl;rw[hk]at hb;have hp:=acV _ hm (n:=k) (F:=dI h.wait) (by rw[aou];omega) λ i hi=>congrArg Ev.cs (by rw[List.getD,List.getD,apg,if_pos hi]);generalize bF ⟨1,h.r,0,aW,h.wait.take k⟩=B at hp;obtain⟨c,r,up,d,log,sent,ic,held,wait⟩:=h;dsimp only at hu hw;subst hu;dsimp only[wM,tV,zV,rcA,aW,List.append_nil]at hb hp⊢;refine K1.M 0x410d func28 40 ?_;repeat' ((conv=>whnf);first|refine K1.u ?_|refine K1.C 2 [(0,_),(1,_)] (hb) rfl ?_|refine K1.P1 hp ?_|refine K1.I 0x5 func55 ?_|refine K1.o (id:=5) (nN [0,1,2,3,4,5,6,7] ((8,some [7,5])::(9,none)::(10,some [7,5,3,1])::nN [11,12,13,14] [])) ?_|fail)
 all_goals(conv=>whnf)
 exact⟨[],rfl,rfl,⟨ay rfl,ay rfl,ay rfl,ay rfl,ay rfl,ay rfl,ay rfl,ay rfl,trivial⟩,rfl,rfl,au⟩
theorem Me(h:Nd)(x:Int)(hx:h.up=false/\x=18\/h.up=true/\h.wait.length=0/\x=24):
  aj prog 28 [(0,.obs (kC h))] [.box 0 0] (.bI [gW,.v (.int .i64 x)]) [(0,.obs (kC h))]:=by
 refine iE (ho:=[]) ⟨_,_,func28,rfl,rfl⟩ ?_ rfl;obtain⟨c,r,up,d,log,sent,ic,held,wait⟩:=h;dsimp only[wM,tV,zV,gW,List.append_nil]at hx⊢;rcases hx with⟨rfl,rfl⟩|⟨rfl,hw,rfl⟩;all_goals
  refine K1.M 0x410d func28 40 ?_;repeat' ((conv=>whnf);first|refine K1.u ?_|refine K1.I 0x5 func55 ?_|fail)
  all_goals(conv=>whnf)
  exact⟨[],rfl,rfl,⟨ay rfl,ay rfl,ay rfl,ay rfl,ay rfl,ay rfl,ay rfl,ay rfl,trivial⟩,rfl,rfl,au⟩
theorem Za(h:Nd)(hu:h.up=true)(hm:ku ⟨3,h.r,0,h.ic,[]⟩=true):
  aj prog 29 [(0,.obs (kC h))] [.box 0 0] (.bI [.sl 1 (bF ⟨3,h.r,0,h.ic,[]⟩).length true (aO (bF ⟨3,h.r,0,h.ic,[]⟩)),.v (.int .i64 0)]) [(0,.obs (kC h))]:=by
 refine iE (ho:=[]) ⟨_,_,func29,rfl,rfl⟩ ?_ rfl;have hp:=Qk _ hm rfl;clear hm;have hcl:=l7 h.c.h h.ic (yG h.held) (.inr ⟨_,_,rfl⟩);generalize bF ⟨3,h.r,0,h.ic,[]⟩=B at hp;obtain⟨c,r,up,d,log,sent,⟨c0,c1,c2,c3,c4⟩,held,wait⟩:=h;dsimp only at hu;subst hu;dsimp only[wM,tV,Bg,gW,aV.av,aV.cs,List.append_nil]at hcl hp⊢;refine K1.M 0xd func29 40 ?_;repeat' ((conv=>whnf);first|refine K1.u ?_|refine K1.C 1 [(0,_)] (hcl) rfl ?_|refine K1.P1 hp ?_|refine K1.I 0x433 func58 ?_|refine K1.o (id:=3) (nN [0,1,2,3,4,5,6,7,8] ((9,some [8,6])::(10,none)::(11,some [8,6,4,2])::nN [12,13,14,15] [])) ?_|fail)
 all_goals(conv=>whnf)
 exact⟨[],rfl,rfl,⟨ay rfl,ay rfl,ay rfl,ay rfl,ay rfl,ay rfl,ay rfl,ay rfl,trivial⟩,rfl,rfl,au⟩
theorem WU(h:Nd)(hu:h.up=false):aj prog 29 [(0,.obs (kC h))] [.box 0 0] (.bI [gW,.v (.int .i64 18)]) [(0,.obs (kC h))]:=by
 refine iE (ho:=[]) ⟨_,_,func29,rfl,rfl⟩ ?_ rfl;obtain⟨c,r,up,d,log,sent,ic,held,wait⟩:=h;dsimp only[wM,tV,gW,List.append_nil]at hu⊢;subst hu;refine K1.M 0xd func29 40 ?_;repeat' ((conv=>whnf);first|refine K1.I 0x433 func58 ?_|fail)
 all_goals(conv=>whnf)
 exact⟨[],rfl,rfl,⟨ay rfl,ay rfl,ay rfl,ay rfl,ay rfl,ay rfl,ay rfl,ay rfl,trivial⟩,rfl,rfl,au⟩
theorem agK(h:Nd)(hu:h.up=true)(hm:ku ⟨5,h.r,0,h.ic,[]⟩=true):
  aj prog 30 [(0,.obs (kC h))] [.box 0 0] (.bI [.sl 1 (bF ⟨5,h.r,0,h.ic,[]⟩).length true (aO (bF ⟨5,h.r,0,h.ic,[]⟩)),.v (.int .i64 0)]) [(0,.obs (kC h))]:=by
 refine iE (ho:=[]) ⟨_,_,func30,rfl,rfl⟩ ?_ rfl;have hp:=Qk _ hm rfl;clear hm;have hcl:=l7 h.c.h h.ic (yG h.held) (.inr ⟨_,_,rfl⟩);generalize bF ⟨5,h.r,0,h.ic,[]⟩=B at hp;obtain⟨c,r,up,d,log,sent,⟨c0,c1,c2,c3,c4⟩,held,wait⟩:=h;dsimp only at hu;subst hu;dsimp only[wM,tV,Bg,gW,aV.av,aV.cs,List.append_nil]at hcl hp⊢;refine K1.M 0xd func30 40 ?_;repeat' ((conv=>whnf);first|refine K1.u ?_|refine K1.C 1 [(0,_)] (hcl) rfl ?_|refine K1.P1 hp ?_|refine K1.I 0x433 func58 ?_|refine K1.o (id:=3) (nN [0,1,2,3,4,5,6,7,8] ((9,some [8,6])::(10,none)::(11,some [8,6,4,2])::nN [12,13,14,15] [])) ?_|fail)
 all_goals(conv=>whnf)
 exact⟨[],rfl,rfl,⟨ay rfl,ay rfl,ay rfl,ay rfl,ay rfl,ay rfl,ay rfl,ay rfl,trivial⟩,rfl,rfl,au⟩
theorem acX(h:Nd)(hu:h.up=false):aj prog 30 [(0,.obs (kC h))] [.box 0 0] (.bI [gW,.v (.int .i64 18)]) [(0,.obs (kC h))]:=by
 refine iE (ho:=[]) ⟨_,_,func30,rfl,rfl⟩ ?_ rfl;obtain⟨c,r,up,d,log,sent,ic,held,wait⟩:=h;dsimp only[wM,tV,gW,List.append_nil]at hu⊢;subst hu;refine K1.M 0xd func30 40 ?_;repeat' ((conv=>whnf);first|refine K1.I 0x433 func58 ?_|fail)
 all_goals(conv=>whnf)
 exact⟨[],rfl,rfl,⟨ay rfl,ay rfl,ay rfl,ay rfl,ay rfl,ay rfl,ay rfl,ay rfl,trivial⟩,rfl,rfl,au⟩
theorem Zb(h:Nd):aj prog 256 [(0,.obs (kC h))] [.box 0 0] (.bI []) [(0,.obs (kC ⟨h.c,h.r,false,⟨h.d.bs,true,false,h.d.keep⟩,h.log,h.sent,h.ic,h.held,h.wait⟩))]:=by
 refine iE (ho:=[]) ⟨_,_,func256,rfl,rfl⟩ ?_ rfl;obtain⟨c,r,up,⟨bs,down,cut,keep⟩,log,sent,ic,held,wait⟩:=h;dsimp only[wM,tV,pG,List.append_nil];refine K1.M 0x1 func256 40 ?_;repeat' ((conv=>whnf);first|refine K1.I 0x85 func67 ?_|refine K1.I 0x1 func129 ?_|fail)
 all_goals(conv=>whnf)
 exact⟨[],rfl,rfl,⟨ay rfl,ay rfl,ay rfl,ay rfl,ay rfl,ay rfl,ay rfl,ay rfl,trivial⟩,rfl,rfl,au⟩
structure Hb where
 (up:Bool)(c:kR)(p:Pt)(d:Dk)
def hbB(up:Bool)(c:kR)(d p:AV):AO:= .box 100 [.v (.bool up),d,.v (.int .i64 c.n),.v (.int .i64 c.w),.v (.int .i64 c.q),.v (.int .i64 c.h),.v (.int .i64 c.l),.v (.int .i64 c.p),p]
def jE(h:Hb)(_:Unit):List (Nat×AO):=[(0,hbB h.up h.c (.box 8 0) (.box 9 0)),(8,pG (.own 10) h.d),(10,gI h.d.bs),(9,.obs (Bd h.c.w h.p))]
def Dt(h:Hb):OB:=OB.pack (jE h)
theorem MB(h:Hb):Closes (jE h ()) 0 (Dt h):=Closes.pack (jE h) () rfl λ _ hok=>vY (hok _ aol)
theorem hb_new(up:Bool)(c:kR)(p:Pt):Closes [(0,hbB up c (.box 8 0) (.box 9 0)),(8,pG (.v (.slice none 0 0)) dk0),(9,.obs (Bd c.w p))] 0 (Dt ⟨up,c,p,dk0⟩):=
 Closes.imp (MB ⟨up,c,p,dk0⟩) λ X hnd hok=>by
  have h0:=hok _ aol;have h8:=hok (8,pG (.v (.slice none 0 0)) dk0) s_;have h9:=hok (9,.obs (Bd c.w p)) s_;have e:ah (atV X.ρ 10 (.slice none 0 0)) (jE ⟨up,c,p,dk0⟩ ())=ah X.ρ [(0,hbB up c (.box 8 0) (.box 9 0)),(8,pG (.v (.slice none 0 0)) dk0),(9,.obs (Bd c.w p))]:=rfl;refine⟨atV X.ρ 10 (.slice none 0 0),rfl,by rw[e];exact hnd,λ b hb=>by rw[e]at hb;exact hb,λ q hq=>?_⟩;simp only[jE,aot,apy,or_false]at hq;rcases hq with rfl|rfl|rfl|rfl
  ·obtain⟨b,us,g1,g2,g3,g4⟩:=h0;exact⟨b,us,g1,g2,g3,λ i x u hx hu=>by
    match i,hx with
    |0,hx=>cases hx;exact g4 0 _ u rfl hu
    |1,hx=>cases hx;exact g4 1 _ u rfl hu
    |2,hx=>cases hx;exact g4 2 _ u rfl hu
    |3,hx=>cases hx;exact g4 3 _ u rfl hu
    |4,hx=>cases hx;exact g4 4 _ u rfl hu
    |5,hx=>cases hx;exact g4 5 _ u rfl hu
    |6,hx=>cases hx;exact g4 6 _ u rfl hu
    |7,hx=>cases hx;exact g4 7 _ u rfl hu
    |8,hx=>cases hx;exact g4 8 _ u rfl hu⟩
  ·obtain⟨b,us,g1,g2,g3,g4⟩:=h8;exact⟨b,us,g1,g2,g3,λ i x u hx hu=>by
    match i,hx with
    |0,hx=>cases hx;exact g4 0 _ u rfl hu
    |1,hx=>cases hx;exact g4 1 _ u rfl hu
    |2,hx=>cases hx;exact g4 2 _ u rfl hu
    |3,hx=>cases hx;exact g4 3 _ u rfl hu⟩
  ·exact⟨[],apA X.w _ _ _,o_,λ i hi=>absurd hi (by simp[dk0]),(λ _ x hx=>by cases hx),aG.nil⟩
  ·exact h9
theorem GK{h h':Hb}{r:AV}(hE:Enters prog f)(hm:aj prog f (jE h ()) aZ r (jE h' ()++ho))
  (hb:(aZ.all (pO (λ _=>false) 0)&&fV (λ i=>bP i ho) 0 r&&fU ho ho&& !(bP 0 ho))=true):aj prog f [(0,.obs (Dt h))] aZ r ((0,.obs (Dt h'))::ho):=
 aj.opn hE (Opens.pack (jE h)) (λ _=>⟨_,MB h',rfl,rfl,hm⟩) hb
def hb0(c:kR)(n:Nat):Hb:=⟨true,c,yR n,dk0⟩
theorem agL(c:kR)(n:Nat)(hn:c.n=(n:Int))(hc:rC c=true)(h1:1<=n)(h5:n<=5):aj prog 20 [] [c.av] (.bI [.box 0 0,.v (.int .i64 0)]) [(0,.obs (Dt (hb0 c n)))]:=by
 have hm:=O8 c;rw[hc]at hm;have hp:=VR c n hn h1 h5;have ha:=all_nil;refine aj.cls (hs':=[(0,hbB true c (.box 8 0) (.box 9 0)),(8,pG (.v (.slice none 0 0)) dk0),(9,.obs (Bd c.w (yR n)))]) (ho:=[]) (hb_new true c (yR n)) ?_ rfl;obtain⟨cn,w,q,hh,l,p⟩:=c;dsimp only[kR.av,kR.cs,hbB,pG,dk0,List.append_nil]at hm hp⊢;refine K1.M 0x9f func20 40 ?_;repeat' ((conv=>whnf);first|refine K1.u ?_|refine K1.P1 hm ?_|refine K1.C 0 [] (hp) rfl ?_|refine K1.P1 ha ?_|refine K1.P1 clone_nil ?_|refine K1.I 0x10031e00215 func38 ?_|refine K1.I 0x3d func64 ?_|refine K1.I 0x85 func100 ?_|refine K1.I 0x1 func105 ?_|refine K1.I 0x1 func68 ?_|refine K1.I 0x5 func70 ?_|refine K1.I 0x4003 func71 ?_|refine aI.yP 23 1 rfl ?_|fail)
 all_goals(conv=>whnf)
 exact⟨[(41,0),(43,8),(42,9)],rfl,rfl,⟨ay rfl,ay rfl,ay rfl,trivial⟩,rfl,rfl,au⟩
def hbG(i j:Nat)(h:Hb):List (Nat×AO):=[(0,hbB h.up h.c (.box 8 0) (.box j 0)),(8,pG (.own i) h.d),(i,gI h.d.bs),(j,.obs (Bd h.c.w h.p))]
theorem Ql(i j:Nat)(h:Hb):Closes (hbG i j h) 0 (Dt h):=
 Closes.imp (MB h) λ X hnd hok=>by
  have h0:=hok _ aol;have h8:=hok (8,pG (.own i) h.d) (by simp[hbG]);have h9:=hok (j,.obs (Bd h.c.w h.p)) (by simp[hbG]);have h11:=hok (i,gI h.d.bs) (by simp[hbG]);have e:ah (atV (atV X.ρ 10 (X.ρ i)) 9 (X.ρ j)) (jE h ())=ah X.ρ (hbG i j h):=rfl;refine⟨atV (atV X.ρ 10 (X.ρ i)) 9 (X.ρ j),rfl,by rw[e];exact hnd,λ b hb=>by rw[e]at hb;exact hb,λ q hq=>?_⟩;simp only[jE,aot,apy,or_false]at hq;rcases hq with rfl|rfl|rfl|rfl
  ·obtain⟨b,us,g1,g2,g3,g4⟩:=h0;exact⟨b,us,g1,g2,g3,λ i x u hx hu=>by
    match i,hx with
    |0,hx=>cases hx;exact g4 0 _ u rfl hu
    |1,hx=>cases hx;exact g4 1 _ u rfl hu
    |2,hx=>cases hx;exact g4 2 _ u rfl hu
    |3,hx=>cases hx;exact g4 3 _ u rfl hu
    |4,hx=>cases hx;exact g4 4 _ u rfl hu
    |5,hx=>cases hx;exact g4 5 _ u rfl hu
    |6,hx=>cases hx;exact g4 6 _ u rfl hu
    |7,hx=>cases hx;exact g4 7 _ u rfl hu
    |8,hx=>cases hx;exact g4 8 _ u rfl hu⟩
  ·obtain⟨b,us,g1,g2,g3,g4⟩:=h8;exact⟨b,us,g1,g2,g3,λ i x u hx hu=>by
    match i,hx with
    |0,hx=>cases hx;exact g4 0 _ u rfl hu
    |1,hx=>cases hx;exact g4 1 _ u rfl hu
    |2,hx=>cases hx;exact g4 2 _ u rfl hu
    |3,hx=>cases hx;exact g4 3 _ u rfl hu⟩
  ·exact h11
  ·exact h9
def pI(i:Nat)(h:Hb):List (Nat×AO):=[(0,hbB h.up h.c (.box 8 0) (.box 9 0)),(8,pG (.own i) h.d),(i,gI h.d.bs),(9,.obs (Bd h.c.w h.p))]
theorem Zc(h:Hb):Closes (pI 11 h) 0 (Dt h):=Ql 11 9 h
theorem WV{h h':Hb}{r:AV}(hE:Enters prog f)(hm:aj prog f (jE h ()) aZ r (pI 11 h'++ho))
  (hb:(aZ.all (pO (λ _=>false) 0)&&fV (λ i=>bP i ho) 0 r&&fU ho ho&& !(bP 0 ho))=true):aj prog f [(0,.obs (Dt h))] aZ r ((0,.obs (Dt h'))::ho):=
 aj.opn hE (Opens.pack (jE h)) (λ _=>⟨_,Zc h',rfl,rfl,hm⟩) hb
def ng(h:Hb)(x:Rc):Hb×Int:=
 if(jd h.d (aB x)).2=0 then(⟨h.up,h.c,h.p,(jd h.d (aB x)).1⟩,0)else(⟨false,h.c,h.p,(jd h.d (aB x)).1⟩,18)
theorem MC(h h':Hb)(x:Rc)(y:Int)(hx:iH x=true)(hb:h.d.bs.length<=1000000000)(hw:ng h x=(h',y)):
  aj prog 149 (jE h ()) [.box 0 0,x.av] (.v (.int .i64 y)) (pI 11 h'):=by
 have hp:=(wI 0 x hx).thaw;have hm:=iP x hx;obtain⟨⟨d',e⟩,hd⟩:∃q,jd h.d (aB x)=q:=⟨_,rfl⟩;have hdk:=mF h.d d' (aB x) e (bG.bytes _) rfl hb o_ hd;unfold ng at hw;rw[hd]at hw;generalize aB x=w at hp hdk hd;obtain⟨up,c,p,d⟩:=h;obtain⟨k,r,u,⟨c0,c1,c2,c3,c4⟩,ev⟩:=x;by_cases he:e=0
 ·rw[if_pos he]at hw;cases hw;dsimp only[jE,pI,hbB,pG,gI,Rc.av,Rc.cs]at hdk hp⊢;refine K1.M 0x8207b func149 40 ?_;repeat' ((conv=>whnf);first|refine K1.u ?_|refine K1.P1 hp ?_|refine K1.C 2 [(0,_),(1,_)] (hdk) rfl ?_|refine K1.I 0x85 func100 ?_|fail)
  all_goals(conv=>whnf)
  exact⟨[(41,11)],rfl,rfl,⟨ay rfl,ay rfl,ay rfl,ay rfl,trivial⟩,rfl,rfl,au⟩
 ·rw[if_neg he]at hw;cases hw;dsimp only[jE,pI,hbB,pG,gI,Rc.av,Rc.cs]at hdk hp⊢;refine K1.M 0x8207b func149 40 ?_;repeat' ((conv=>whnf);first|refine K1.u ?_|refine K1.P1 hp ?_|refine K1.C 2 [(0,_),(1,_)] (hdk) rfl ?_|refine K1.I 0x85 func100 ?_|fail)
  all_goals(conv=>whnf)
  exact⟨[(41,11)],rfl,rfl,⟨ay rfl,ay rfl,ay rfl,ay rfl,trivial⟩,rfl,rfl,au⟩
def Pt.sit(p:Pt):Sit:=⟨true,⟨(p.sh.map jY.base).getD 0 0,(p.sh.map jY.base).getD 1 0,(p.sh.map jY.base).getD 2 0,(p.sh.map jY.base).getD 3 0,(p.sh.map jY.base).getD 4 0⟩,⟨(p.sh.map jY.len).getD 0 0,(p.sh.map jY.len).getD 1 0,(p.sh.map jY.len).getD 2 0,(p.sh.map jY.len).getD 3 0,(p.sh.map jY.len).getD 4 0⟩,
 p.told.getD 0 aW,p.told.getD 1 aW,p.told.getD 2 aW,p.told.getD 3 aW,p.told.getD 4 aW⟩
def amQ:Sit:=⟨false,aW,aW,aW,aW,aW,aW,aW⟩
theorem ajg(p:Pt):p.site=p.sit.vs.map .v:=rfl
def Hb.sit(h:Hb):Sit:=if h.up then h.p.sit else amQ
theorem acY(h:Hb)(hp:qX h.p):aj prog 32 [(0,.obs (Dt h))] [.box 0 0] (.agg (h.sit.vs.map .v)) [(0,.obs (Dt h))]:=by
 refine GK (ho:=[]) ⟨_,_,func32,rfl,rfl⟩ ?_ rfl;have hs:=eP h.c.w h.p hp;rw[ajg]at hs;rw[aor];obtain⟨up,c,p,d⟩:=h;unfold Hb.sit;cases up with
 |true=>
  rw[if_pos rfl];dsimp only[jE,hbB,pG,gI]at hs⊢;refine K1.M 0x105 func32 40 ?_;repeat' ((conv=>whnf);first|refine K1.C 1 [(0,_)] (hs) rfl ?_|fail)
  all_goals(conv=>whnf)
  exact⟨[],rfl,rfl,⟨ay rfl,ay rfl,ay rfl,ay rfl,trivial⟩,rfl,rfl,au⟩
 |false=>
  rw[if_neg s_];dsimp only[jE,hbB,pG,gI]at hs⊢;refine K1.M 0x105 func32 40 ?_
  all_goals(conv=>whnf)
  exact⟨[],rfl,rfl,⟨ay rfl,ay rfl,ay rfl,ay rfl,trivial⟩,rfl,rfl,au⟩
theorem agM(h:Hb)(k:Int):aj prog 254 [(0,.obs (Dt h))] [.box 0 0,.v (.int .i64 k)] (.bI []) [(0,.obs (Dt ⟨h.up,h.c,h.p,⟨h.d.bs,h.d.down,true,k⟩⟩))]:=by
 refine GK (ho:=[]) ⟨_,_,func254,rfl,rfl⟩ ?_ rfl;rw[aor];obtain⟨up,c,p,d⟩:=h;dsimp only[jE,hbB,pG,gI];refine K1.M 0x3 func254 40 ?_;repeat' ((conv=>whnf);first|refine K1.I 0x85 func100 ?_|refine K1.I 0x3 func255 ?_|fail)
 all_goals(conv=>whnf)
 exact⟨[],rfl,rfl,⟨ay rfl,ay rfl,ay rfl,ay rfl,trivial⟩,rfl,rfl,au⟩
theorem ajh(i j:Nat){h h':Hb}{r:AV}(hE:Enters prog f)(hm:aj prog f (jE h ()) aZ r (hbG i j h'++ho))
  (hb:(aZ.all (pO (λ _=>false) 0)&&fV (λ i=>bP i ho) 0 r&&fU ho ho&& !(bP 0 ho))=true):aj prog f [(0,.obs (Dt h))] aZ r ((0,.obs (Dt h'))::ho):=
 aj.opn hE (Opens.pack (jE h)) (λ _=>⟨_,Ql i j h',rfl,rfl,hm⟩) hb
def jP(most:Int)(p:Pt)(x:Rc):Pt:=if x.k=5 then(pushP most x.r.toNat x.ev p).1 else if x.k=6 then qQ p x.r.toNat x.c else p
def replay(most:Int)(n:Nat)(l:List Rc):Pt:=l.foldl (jP most) (yR n)
structure RcG(most:Int)(p:Pt)(x:Rc):Prop where
 k:x.k=5\/x.k=6
 r0:0<=x.r
 r:x.r.toNat<p.sh.length
 ev:EvB x.ev
 all:x.k=5-> ∀j,j<x.ev.length->(x.ev.getD j default).r=x.r
 put:x.k=5->iW (jZ most (p.sh.getD x.r.toNat default) x.ev).1
def Chain(most:Int):Pt->List Rc->Prop
 |_,[]=>True
 |p,x::l=>RcG most p x/\Chain most (jP most p x) l
theorem Du(told:List aV):∀(l:List jY)(i:Nat),(mZ told i l).length=l.length
 |[],_=>rfl
 |s::l,i=>by show(mZ told (i+1) l).length+1=_;rw[Du told l];rfl
theorem WW(told:List aV):∀(l:List jY)(i:Nat),(∀s∈l,iW s)-> ∀s∈mZ told i l,iW s
 |[],_,_,s,hs=>by cases hs
 |x::l,i,h,s,hs=>by
  rcases aot.1 hs with rfl|hs
  ·exact Tf (h x aol) _
  ·exact WW told l (i+1) (λ y hy=>h y (aoq _ hy)) s hs
theorem agN{p:Pt}(hp:qX p)(r:Nat)(c:aV):qX (qQ p r c)/\(qQ p r c).sh.length=p.sh.length:=by
 have h1:(qQ p r c).sh.length=p.sh.length:=Du _ _ _;exact⟨⟨by rw[h1];exact hp.h1,by rw[h1];exact hp.h5,by rw[h1];show(eF _ _ _).length=_;rw[dH];exact hp.t,WW _ _ _ hp.s⟩,h1⟩
theorem aji{p:Pt}(hp:qX p)(hs:iW (jZ most (p.sh.getD r default) l).1):qX (pushP most r l p).1/\(pushP most r l p).1.sh.length=p.sh.length:=by
 unfold pushP;split
 ·exact⟨agx (hp.set hs r) r,by show(eF _ _ (eF _ _ _)).length=_;rw[dH,dH]⟩
 ·exact⟨hp,rfl⟩
theorem ajj{p:Pt}(hp:qX p){x:Rc}(hx:RcG most p x):qX (jP most p x)/\(jP most p x).sh.length=p.sh.length:=by
 unfold jP;split
 ·rename_i h;exact aji hp (hx.put h)
 ·split
  ·exact agN hp _ _
  ·exact⟨hp,rfl⟩
theorem akc(h1:1<=n)(h5:n<=5):qX (yR n)/\(yR n).sh.length=n:=by
 have e:(yR n).sh.length=n:=ap6;refine⟨⟨by rw[e];exact h1,by rw[e];exact h5,by rw[e];exact ap6,λ s hs=>?_⟩,e⟩;obtain rfl:=aqn hs;exact⟨s_,s_⟩
theorem WX{most:Int}:∀{l:List Rc}{p:Pt},qX p->Chain most p l-> ∀j,j<l.length->qX ((l.take j).foldl (jP most) p)/\((l.take j).foldl (jP most) p).sh.length=p.sh.length/\RcG most ((l.take j).foldl (jP most) p) (l.getD j default)
 |[],_,_,_,j,hj=>by simp at hj
 |x::l,p,hp,hc,0,_=>⟨hp,rfl,hc.1⟩
 |x::l,p,hp,hc,j+1,hj=>by
  have h1:=ajj hp hc.1;have:=WX h1.1 hc.2 j (by simpa using hj);rw[h1.2]at this;exact this
theorem acZ{l:List Rc}{p:Pt}{j:Nat}(hj:j<l.length):(l.take (j+1)).foldl (jP most) p=jP most ((l.take j).foldl (jP most) p) (l.getD j default):=by
 rw[aqf hj,apO];simp[List.getD,hj]
theorem Zd(h:Hb)(n:Nat)(hn:h.c.n=(n:Int))(h1:1<=n)(h5:n<=5)(hup:h.up=false)(l:List Rc)(t:List UInt8)(hr:xZ h.d.bs l t)(hc:Chain h.c.w (yR n) l)(hl:h.d.bs.length<=1000000000):
  aj prog 38 [(0,.obs (Dt h))] [.box 0 0] (.v (.int .i64 0)) [(0,.obs (Dt ⟨true,h.c,replay h.c.w n l,⟨jq l,false,false,h.d.keep⟩⟩))]:=by
 refine ajh 11 12 (ho:=[]) ⟨_,_,func38,rfl,rfl⟩ ?_ rfl;rw[aor];have hnew:=VR h.c n hn h1 h5;have hcl:=λ d=>sK d h.d.bs (bG.bytes _) rfl hl;have hall:=L8 h.d.bs (bG.bytes _) rfl hl hr;have hbl:(jq l).length<=h.d.bs.length:=by rw[hr.eq,aop];omega
 have htk:h.d.bs.take (jq l).length=jq l:=by
  conv=>lhs;rw[hr.eq]
  rw[aqJ]
 have htr:=Qg ⟨h.d.bs,false,false,h.d.keep⟩ (jq l).length hbl hl;dsimp only at htr;rw[htk]at htr;have hll:=Fb l;obtain⟨up,cf,p,d⟩:=h;obtain⟨bs,down,cut,keep⟩:=d;obtain⟨cn,cw,cq,ch,cl,cp⟩:=cf;dsimp only[jE,hbG,hbB,pG,gI,kR.av,kR.cs]at*;subst hup;generalize jq l=w at*;refine K1.M 0x10031e00215 func38 40 ?_;repeat' ((conv=>whnf);first|refine K1.C 0 [] (hnew) rfl ?_|refine K1.F1 (hcl _) ?_|refine K1.P1 hall ?_|refine K1.C 2 [(0,_),(1,_)] (htr) rfl ?_|refine K1.I 0x85 func100 ?_|refine K1.I 0x3d func64 ?_|refine K1.I 0x1 func68 ?_|refine K1.I 0x5 func70 ?_|fail)
 all_goals(conv=>whnf)
 refine aI.mk {j:Nat//j<=l.length} (λ j=>⟨[(23,.v (.int .i64 (j.1:Int))),(22,.v (.int .i64 (l.length:Int))),(21,.sl 9 l.length false (rcF l)),(0,.box 0 0),(2,.v (.int .i64 0))],
   [(8,.box 210 [.own 42,.v (.bool false),.v (.bool false),.v (.int .i64 keep)]),(42,.row 5 1 w.length true (aO w)),(40,.obs (Bd cw ((l.take j.1).foldl (jP cw) (yR n)))),(0,.box 100 [.v (.bool false),.box 8 0,.v (.int .i64 cn),.v (.int .i64 cw),.v (.int .i64 cq),.v (.int .i64 ch),.v (.int .i64 cl),.v (.int .i64 cp),.box 40 0])],
   [[(0,.box 0 0),(1,.box 8 0),(2,.own 10),(3,.own 9)]],50⟩) (λ j=>l.length-j.1) ⟨0,aoB _⟩ _
  (dO.mk' [] _ _ _ rfl ⟨aY.int rfl,au,au,au,au,trivial⟩ ⟨ay rfl,ay rfl,ay rfl,ay rfl,trivial⟩ rfl) ?_
 rintro⟨j,hj⟩;dsimp only;by_cases hjl:j<l.length
 ·obtain⟨hpb,hpl,hG⟩:=WX (akc h1 h5).1 hc j hjl;have hsn:=acZ (most:=cw) (p:=yR n) hjl;rw[show l.getD j default=l.getD (j:Int).toNat default from rfl]at hG hsn;generalize(l.take j).foldl (jP cw) (yR n)=q at hpb hpl hG hsn⊢;have hr0:=hG.r0;have hrr:(((l.getD (j:Int).toNat default).r.toNat:Nat):Int)=(l.getD (j:Int).toNat default).r:=o_
  rcases hG.k with hk|hk
  ·obtain⟨⟨p',u,y⟩,hp⟩:∃z,pushP cw (l.getD (j:Int).toNat default).r.toNat (l.getD (j:Int).toNat default).ev q=z:=⟨_,rfl⟩;have hpush:=Qe cw q p' _ hpb hG.r _ hG.ev (λ i hi=>by rw[hrr];exact hG.all hk i hi) (hG.put hk) u y hp;rw[hrr]at hpush;have hst:jP cw q (l.getD (j:Int).toNat default)=p':=by unfold jP;rw[if_pos hk,hp]
   rw[hst]at hsn;repeat' ((conv=>whnf);first|refine K1.u ?_|refine K1.C 1 [(0,_)] (hpush) rfl ?_|refine K1.o (id:=9) (nN [0,1,2,3,4,5,6,7] [(8,some [7,5,3,1])]) ?_|fail)
   all_goals(conv=>whnf)
   refine⟨⟨j+1,hjl⟩,_,dO.mk' [] _ _ _ rfl ⟨aY.int rfl,au,au,au,au,trivial⟩ ⟨ay rfl,ay rfl,⟨_,rfl, ?_⟩,ay rfl,trivial⟩ rfl,by show l.length-(j+1)<l.length-j;omega⟩;show dK _ (.obs (Bd cw ((l.take (j+1)).foldl (jP cw) (yR n))));rw[hsn];exact dK.refl _
  ·have hack:=WI cw q hpb _ (l.getD (j:Int).toNat default).c hG.r;rw[hrr]at hack;have hst:jP cw q (l.getD (j:Int).toNat default)=qQ q (l.getD (j:Int).toNat default).r.toNat (l.getD (j:Int).toNat default).c:=by unfold jP;rw[if_neg o_,if_pos hk]
   rw[hst]at hsn;dsimp only[yQ]at hack;repeat' ((conv=>whnf);first|refine K1.u ?_|refine K1.C 1 [(0,_)] (hack) rfl ?_|refine K1.o (id:=11) (nN [0,1,2,3,4,5,6,7] [(8,some [7,5,3,1])]) ?_|fail)
   all_goals(conv=>whnf)
   refine⟨⟨j+1,hjl⟩,_,dO.mk' [] _ _ _ rfl ⟨aY.int rfl,au,au,au,au,trivial⟩ ⟨ay rfl,ay rfl,⟨_,rfl, ?_⟩,ay rfl,trivial⟩ rfl,by show l.length-(j+1)<l.length-j;omega⟩;show dK _ (.obs (Bd cw ((l.take (j+1)).foldl (jP cw) (yR n))));rw[hsn];exact dK.refl _
 ·obtain rfl:j=l.length:=o_
  rw[apH];repeat' ((conv=>whnf);first|refine K1.u ?_|fail)
  all_goals(conv=>whnf)
  exact⟨[(42,11),(40,12)],rfl,rfl,⟨ay rfl,ay rfl,ay rfl,ay rfl,trivial⟩,rfl,rfl,au⟩
theorem WY(h:Hb)(hup:h.up=true):aj prog 38 [(0,.obs (Dt h))] [.box 0 0] (.v (.int .i64 19)) [(0,.obs (Dt h))]:=by
 refine GK (ho:=[]) ⟨_,_,func38,rfl,rfl⟩ ?_ rfl;rw[aor];obtain⟨up,c,p,d⟩:=h;dsimp only at hup;subst hup;dsimp only[jE,hbB,pG,gI];refine K1.M 0x10031e00215 func38 40 ?_
 all_goals(conv=>whnf)
 exact⟨[],rfl,rfl,⟨ay rfl,ay rfl,ay rfl,ay rfl,trivial⟩,rfl,rfl,au⟩
structure ShG(w:Int)(r:Nat)(s:jY):Prop where
 b:iW s
 k:(s.kept.length:Int)<=w
 may:∀e∈s.kept,eH e=0
 own:∀e∈s.kept,e.r=(r:Int)
 seq:∀j,j<s.kept.length->(s.kept.getD j default).n=s.base+1+(j:Int)
structure WZ(w:Int)(p:Pt):Prop where
 h1:1<=p.sh.length
 h5:p.sh.length<=5
 t:p.told.length=p.sh.length
 s:∀r,r<p.sh.length->ShG w r (p.sh.getD r default)
theorem WZ.b{w:Int}{p:Pt}(h:WZ w p):qX p:=⟨h.h1,h.h5,h.t,λ s hs=>by
 obtain⟨i,hi,rfl⟩:=ape hs;have:=(h.s i hi).b;rwa [List.getD,aom hi]at this⟩
theorem getD_mem{α:Type}{l:List α}{i:Nat}{d:α}(h:i<l.length):l.getD i d∈l:=by
 rw[List.getD,aom h];exact ao1 h
theorem Tm(p:Ev->Bool):∀l:List Ev,∃k,k<=l.length/\l.dropWhile p=l.drop k/\(∀i,i<k->p (l.getD i default)=true)/\(k<l.length->p (l.getD k default)=false)
 |[]=>⟨0,aoH _,rfl,λ i hi=>absurd hi (aoM i),λ h=>absurd h (aoM _)⟩
 |e::l=>by
  cases hp:p e with
  |true=>
   obtain⟨k,h1,h2,h3,h4⟩:=Tm p l;refine⟨k+1,Nat.succ_le_succ h1,by rw[List.dropWhile_cons_of_pos hp,h2];rfl,λ i hi=>?_,λ h=>h4 (Nat.lt_of_succ_lt_succ h)⟩;cases i with
   |zero=>exact hp
   |succ i=>exact h3 i (Nat.lt_of_succ_lt_succ hi)
  |false=>exact⟨0,aoB _,by rw[List.dropWhile_cons_of_neg (by rw[hp];simp)];rfl,λ i hi=>absurd hi (aoM i),λ _=>hp⟩
theorem agO{s:jY}(hok:∀j,j<l.length->rQ s l j):∃k,k<=l.length/\newS s l=l.drop k/\ ∀i,k+i<l.length->(l.getD (k+i) default).n=s.len+1+(i:Int):=by
 obtain⟨k,h1,h2,h3,h4⟩:=Tm (λ e=>decide (e.n<=s.len)) l;refine⟨k,h1,h2,λ i=>?_⟩;induction i with
 |zero=>
  intro hk;have hn:s.len<(l.getD k default).n:=by have:=h4 hk;simpa using this
  have hok:=hok k hk;unfold rQ at hok;show(l.getD k default).n=s.len+1+((0:Nat):Int);by_cases h0:k=0
  ·subst h0;rw[if_pos rfl]at hok;omega
  ·rw[if_neg h0]at hok;have:=h3 (k-1) o_;simp only[decide_eq_true_eq]at this;omega
 |succ i ih=>
  intro hk;have hok:=hok (k+(i+1)) hk;have ih:=ih o_;unfold rQ at hok;rw[if_neg o_,show k+(i+1)-1=k+i by omega,ih]at hok;rw[hok];omega
theorem aaQ{s:jY}(hs:ShG w r s)(hl:∀e∈l,eH e=0/\e.r=(r:Int)):ShG w r (jZ w s l).1:=by
 unfold jZ;split
 ·rename_i hall;split
  ·exact hs
  ·split
   ·exact hs
   ·rename_i hne hw;have hok:∀j,j<l.length->rQ s l j:=λ j hj=>by
     have:=aoD.1 hall j (ap4.2 hj);simpa using this
    obtain⟨k,hk,he,hq⟩:=agO hok;have hmem:∀e∈newS s l,e∈l:=λ e h=>by rw[he]at h;exact ap8 h
    have hlen:(newS s l).length=l.length-k:=by rw[he,aoK]
    have hkl:k<l.length:=by
     rcases aoP k l.length with h|h
     ·exact h
     ·exact absurd (by rw[he,List.drop_of_length_le h]) hne
    have hlast:=hq (l.length-1-k) o_;rw[show k+(l.length-1-k)=l.length-1 by omega]at hlast;have hm:=(pV (hl _ (getD_mem (d:=default) (show l.length-1<l.length by omega))).1).n2;have hsl:s.len=s.base+(s.kept.length:Int):=rfl;refine⟨⟨hs.b.b0, ?_⟩, ?_, ?_, ?_, ?_⟩
    ·show s.base+((s.kept++newS s l).length:Int)<=1048576;rw[aop,hlen];omega
    ·show((s.kept++newS s l).length:Int)<=w;rw[aop];omega
    ·intro e h;rcases aov.1 h with h|h
     ·exact hs.may e h
     ·exact(hl e (hmem e h)).1
    ·intro e h;rcases aov.1 h with h|h
     ·exact hs.own e h
     ·exact(hl e (hmem e h)).2
    ·intro j hj;show((s.kept++newS s l).getD j default).n=s.base+1+(j:Int);have hj:j<(s.kept++newS s l).length:=hj;rw[aop,hlen]at hj;by_cases hjk:j<s.kept.length
     ·rw[aoG,aoS hjk,<-aoG];exact hs.seq j hjk
     ·rw[aoG,ao2 o_,he,apC,<-aoG,hq (j-s.kept.length) o_];omega
 ·exact hs
theorem MF(s:jY)(n:Int):(jO s n).len=s.len:=by
 have hc:=EK s.base s.kept.length n o_;show tu s.base s.kept.length n+((s.kept.drop _).length:Int)=s.base+(s.kept.length:Int);rw[aoK];omega
theorem agP{s:jY}(hs:ShG w r s)(n:Int):ShG w r (jO s n):=by
 have hc:=EK s.base s.kept.length n o_;have hk:=hs.k;refine⟨Tf hs.b n, ?_,λ e h=>hs.may e (ap8 h),λ e h=>hs.own e (ap8 h),λ j hj=>?_⟩
 ·show((s.kept.drop _).length:Int)<=w;rw[aoK];omega
 ·have hj:j<(s.kept.drop (tu s.base s.kept.length n-s.base).toNat).length:=hj;rw[aoK]at hj;show((s.kept.drop (tu s.base s.kept.length n-s.base).toNat).getD j default).n=tu s.base s.kept.length n+1+(j:Int);rw[aoG,apC,<-aoG,hs.seq _ o_];omega
theorem qR{α:Type}{f:α->α}{d:α}:∀{r:Nat}{l:List α}{i:Nat},i<l.length->(eF f r l).getD i d=if i=r then f (l.getD i d)else l.getD i d
 |r,[],i,h=>by simp at h
 |0,x::l,0,_=>by simp[eF]
 |0,x::l,i+1,_=>by simp[eF]
 |r+1,x::l,0,_=>by simp[eF]
 |r+1,x::l,i+1,h=>by
  have:=qR (f:=f) (d:=d) (r:=r) (l:=l) (i:=i) (by simpa using h);simpa[eF]using this
theorem Dw(told:List aV){d:jY}:∀{l:List jY}{i j:Nat},j<l.length->(mZ told i l).getD j d=jO (l.getD j d) (jc told (i+j))
 |[],i,j,h=>by simp at h
 |s::l,i,0,_=>by simp[mZ]
 |s::l,i,j+1,h=>by
  have:=Dw told (d:=d) (l:=l) (i:=i+1) (j:=j) (by simpa using h);rw[show i+1+j=i+(j+1) by omega]at this;simpa[mZ]using this
theorem WZ.set{p:Pt}(h:WZ w p){s:jY}(hs:ShG w r s):WZ w ⟨eF (λ _=>s) r p.sh,p.told⟩:=by
 refine⟨by rw[dH];exact h.h1,by rw[dH];exact h.h5,by rw[dH];exact h.t,λ i hi=>?_⟩;dsimp only at hi⊢;rw[dH]at hi;rw[qR hi];split
 ·rename_i e;rw[e];exact hs
 ·exact h.s i hi
theorem alC{p:Pt}(h:WZ w p)(r:Nat):WZ w (qP p r):=by
 have hl:(qP p r).sh.length=p.sh.length:=dH _ _ _;refine⟨by rw[hl];exact h.h1,by rw[hl];exact h.h5,by rw[hl];exact h.t,λ i hi=>?_⟩;rw[hl]at hi;show ShG w i ((eF _ r p.sh).getD i default);rw[qR hi];split
 ·exact agP (h.s i hi) _
 ·exact h.s i hi
theorem agQ{p:Pt}(h:WZ w p)(r:Nat)(c:aV):WZ w (qQ p r c):=by
 have hb:=agN h.b r c;refine⟨hb.1.h1,hb.1.h5,hb.1.t,λ i hi=>?_⟩;rw[hb.2]at hi;show ShG w i ((mZ _ 0 p.sh).getD i default);rw[Dw _ hi];exact agP (h.s i hi) _
theorem aaR{p:Pt}(h:WZ w p)(hr:r<p.sh.length)(hl:∀e∈l,eH e=0/\e.r=(r:Int)):WZ w (pushP w r l p).1:=by
 unfold pushP;split
 ·exact alC (h.set (aaQ (h.s r hr) hl)) r
 ·exact h
theorem Qm{p:Pt}(h:(pushP w r l p).2.2=0):(pushP w r l p).2.1=(jZ w (p.sh.getD r default) l).1.len:=by
 unfold pushP at h⊢;split
 ·exact MF _ _
 ·rename_i hne;rw[if_neg hne]at h;exact absurd h hne
theorem amR(hw:0<=w)(h1:1<=n)(h5:n<=5):WZ w (yR n):=by
 obtain⟨hb,e⟩:=akc h1 h5;refine⟨hb.h1,hb.h5,hb.t,λ r hr=>?_⟩;rw[e]at hr;have he:(yR n).sh.getD r default=⟨0,[]⟩:=by
  show(List.replicate n (⟨0,[]⟩:jY)).getD r default=_;rw[aoG,ap',if_pos hr];rfl
 rw[he];exact⟨⟨s_,s_⟩,by simpa using hw,(λ e h=>by simp at h),(λ e h=>by simp at h),λ j hj=>by simp at hj⟩
theorem Dx{w:Int}{r:Nat}{c:aV}:∀{l:List jY}{i:Nat},(∀s∈l,(s.kept.length:Int)<=w/\ ∀e∈s.kept,eH e=0)->((lG r c i l).length:Int)<=w*l.length/\ ∀e∈lG r c i l,eH e=0
 |[],_,_=>⟨by simp[lG],λ e h=>by simp[lG]at h⟩
 |s::l,i,h=>by
  have ih:=Dx (w:=w) (r:=r) (c:=c) (l:=l) (i:=i+1) λ x hx=>h x (aoq _ hx);have h0:=h s aol;have hf:=aoI (qM (c.get i)) s.kept;have hw:0<=w:=o_
  refine⟨?_,λ e he=>?_⟩
  ·show((_++lG r c (i+1) l).length:Int)<=w*((l.length+1:Nat):Int);rw[aop,Int.natCast_add,Int.natCast_add,Int.mul_add];have h1:=ih.1;have:(((if(i:Nat)=r then []else s.kept.filter (qM (c.get i)):List Ev).length:Nat):Int)<=w:=by
    split
    ·simpa using hw
    ·omega
   simp only[Int.natCast_one,Int.mul_one];omega
  ·rcases aov.1 he with he|he
   ·split at he
    ·simp at he
    ·exact h0.2 e (aoA.1 he).1
   ·exact ih.2 e he
structure MG where
 (cuts:Int)(l:List Ev)
instance:Inhabited MG:=⟨⟨0,[]⟩⟩
structure RsB(s:MG):Prop where
 c0:0<=s.cuts
 c1:s.cuts<=(s.l.length:Int)
 ln:s.l.length<=1048576
def Fg(s:MG)(n:Int):Int:=if(if(s.l.length:Int)<n then(s.l.length:Int)else n)>s.cuts then(if(s.l.length:Int)<n then(s.l.length:Int)else n)else s.cuts
def agR(s:MG)(n:Int):MG:=⟨Fg s n,s.l⟩
def toS(s:MG):jY:=⟨s.cuts,s.l.drop s.cuts.toNat⟩
theorem Fh{s:MG}(h:RsB s):(toS s).len=(s.l.length:Int):=by
 have h0:=h.c0;have h1:=h.c1;show s.cuts+((s.l.drop s.cuts.toNat).length:Int)=_;rw[aoK];omega
def Qn(s:MG)(l:List Ev)(j:Nat):Prop:=if j=0 then(l.getD 0 default).n<=(s.l.length:Int)+1 else(l.getD j default).n=(l.getD (j-1) default).n+1
instance(s:MG)(l:List Ev)(j:Nat):Decidable (Qn s l j):=by unfold Qn;infer_instance
def aaS(s:MG)(l:List Ev):List Ev:=l.filter λ e=>decide ((s.l.length:Int)<e.n)
def je(most:Int)(s:MG)(l:List Ev):MG×Int:=
 if(List.range l.length).all (λ j=>decide (Qn s l j))then
  (if aaS s l≠[]/\most<(s.l.length:Int)-s.cuts+((aaS s l).length:Int)then(s,21)else(⟨s.cuts,s.l++aaS s l⟩,0))
 else(s,20)
theorem agS{s:jY}(hok:∀j,j<l.length->rQ s l j):l.filter (λ e=>decide (s.len<e.n))=newS s l:=by
 obtain⟨k,hk,he,hq⟩:=agO hok;obtain⟨k',hk',he',hle,_⟩:=Tm (λ e=>decide (e.n<=s.len)) l;have hkk:l.drop k=l.drop k':=he.symm.trans he';have hk2:k=k':=by
  have:=congrArg List.length hkk;rw[aoK,aoK]at this;omega
 subst hk2;rw[he];conv=>lhs;rw[<-apu k l]
 rw[apT];have e1:(l.take k).filter (λ e=>decide (s.len<e.n))=[]:=by
  rw[aqx];intro e h;obtain⟨i,hi,rfl⟩:=ape h;rw[aou]at hi;have:=hle i o_;rw[List.getD,aom o_]at this;simp only[Option.getD_some,decide_eq_true_eq]at this;rw[List.getElem_take,decide_eq_true_eq];omega
 have e2:(l.drop k).filter (λ e=>decide (s.len<e.n))=l.drop k:=by
  rw[List.filter_eq_self];intro e h;obtain⟨i,hi,rfl⟩:=ape h;rw[aoK]at hi;have:=hq i o_;rw[List.getD,aom o_]at this;simp only[Option.getD_some]at this;rw[List.getElem_drop,this,decide_eq_true_eq];omega
 rw[e1,e2,aoN]
theorem Ze{s:MG}(h:RsB s)(l:List Ev):jZ most (toS s) l=(toS (je most s l).1,(je most s l).2):=by
 have hl:=Fh h;have h0:=h.c0;have h1:=h.c1;have hok:∀j,rQ (toS s) l j↔Qn s l j:=λ j=>by unfold rQ Qn;rw[hl]
 unfold jZ je;by_cases ha:(List.range l.length).all (λ j=>decide (Qn s l j))=true
 ·have ha':(List.range l.length).all (λ j=>decide (rQ (toS s) l j))=true:=by simpa only[hok]using ha
  rw[if_pos ha,if_pos ha'];have hok':∀j,j<l.length->rQ (toS s) l j:=λ j hj=>by
   have:=aoD.1 ha' j (ap4.2 hj);simpa using this
  have hn:aaS s l=newS (toS s) l:=by
   rw[<-agS hok',hl];rfl
  rw[hn];by_cases he:newS (toS s) l=[]
  ·rw[if_pos he,if_neg (λ h=>h.1 he),he,aor]
  ·rw[if_neg he];have hk:((toS s).kept.length:Int)=(s.l.length:Int)-s.cuts:=by
    show((s.l.drop s.cuts.toNat).length:Int)=_;rw[aoK];omega
   rw[hk];by_cases hm:most<(s.l.length:Int)-s.cuts+((newS (toS s) l).length:Int)
   ·rw[if_pos hm,if_pos ⟨he,hm⟩]
   ·rw[if_neg hm,if_neg (λ h=>hm h.2)];refine Prod.ext ?_ rfl;show(⟨s.cuts,s.l.drop s.cuts.toNat++newS (toS s) l⟩:jY)=⟨s.cuts,(s.l++newS (toS s) l).drop s.cuts.toNat⟩;rw[List.drop_append_of_le_length o_]
 ·have ha':¬ (List.range l.length).all (λ j=>decide (rQ (toS s) l j))=true:=by simpa only[hok]using ha
  rw[if_neg ha,if_neg ha']
theorem agT{s:MG}(h:RsB s)(n:Int):toS (agR s n)=jO (toS s) n/\RsB (agR s n):=by
 have h0:=h.c0;have h1:=h.c1;have hk:((toS s).kept.length:Int)=(s.l.length:Int)-s.cuts:=by
  show((s.l.drop s.cuts.toNat).length:Int)=_;rw[aoK];omega
 have e:Fg s n=tu (toS s).base (toS s).kept.length n:=by
  unfold Fg tu;rw[hk,show(toS s).base+((s.l.length:Int)-s.cuts)=(s.l.length:Int) by show s.cuts+_=_;omega];rfl
 have hc:=EK (toS s).base (toS s).kept.length n o_;rw[<-e,hk,show(toS s).base=s.cuts from rfl]at hc;refine⟨?_,by show 0<=Fg s n;omega,by show Fg s n<=(s.l.length:Int);omega,h.ln⟩;unfold jO;rw[<-e];show(⟨Fg s n,s.l.drop (Fg s n).toNat⟩:jY)=⟨Fg s n,(s.l.drop s.cuts.toNat).drop (Fg s n-s.cuts).toNat⟩;rw[aqg];congr 2;omega
structure DI where
 (ps:List MG)(rU:List aV)
def DI.s(y:DI)(i:Nat):MG:=y.ps.getD i default
def toP(n:Nat)(y:DI):Pt:=⟨(y.ps.take n).map toS,y.rU.take n⟩
structure Uf(n:Nat)(y:DI):Prop where
 p5:y.ps.length=5
 a5:y.rU.length=5
 s:∀s∈y.ps,RsB s
 n1:1<=n
 n5:n<=5
theorem Bz{α:Type}(f:α->α):∀{s n:Nat}{l:List α},s<n->(eF f s l).take n=eF f s (l.take n)
 |s,n,[],_=>by cases s<;>simp[eF]
 |0,n+1,x::l,_=>rfl
 |s+1,n+1,x::l,h=>by
  show x::(eF f s l).take n=x::eF f s (l.take n);rw[Bz f o_]
theorem MH{α β:Type}{f:α->α}{g:β->β}{h:α->β}:∀{s:Nat}{l:List α},(∀x∈l,h (f x)=g (h x))->(eF f s l).map h=eF g s (l.map h)
 |s,[],_=>by cases s<;>rfl
 |0,x::l,hx=>by
  show h (f x)::l.map h=g (h x)::l.map h;rw[hx x aol]
 |s+1,x::l,hx=>by
  show h x::(eF f s l).map h=h x::eF g s (l.map h);rw[MH λ y hy=>hx y (aoq _ hy)]
def Zf(n:Nat)(y:DI)(s:Nat):Int:=Td s ((y.rU.headD aW).at s) (y.rU.take n)
theorem agU{y:DI}(h:Uf n y)(s:Nat):Zf n y s=jc (toP n y).told s:=by
 have h1:=h.n1;obtain⟨m,rfl⟩:∃m,n=m+1:=⟨n-1,o_⟩;unfold Zf jc toP;rcases y.rU with _|⟨a,l⟩<;>rfl
def wQ(n:Nat)(y:DI)(s:Nat):DI:=⟨eF (λ x=>agR x (Zf n y s)) s y.ps,y.rU⟩
theorem aaT{y:DI}(h:Uf n y)(s:Nat):Uf n (wQ n y s):=
 ⟨by show(eF _ _ _).length=5;rw[dH];exact h.p5,h.a5,λ x hx=>by
  rcases wL hx with hx|⟨z,hz,rfl⟩
  ·exact h.s x hx
  ·exact(agT (h.s z hz) _).2,h.n1,h.n5⟩
theorem aaU{y:DI}(h:Uf n y){s:Nat}(hs:s<n):toP n (wQ n y s)=qP (toP n y) s:=by
 unfold wQ qP toP;dsimp only;rw[Bz _ hs,MH (g:=λ x=>jO x (jc (y.rU.take n) s)) λ x hx=>by
  rw[(agT (h.s x (apn hx)) _).1,agU h];rfl]
def iI(most:Int)(n r:Nat)(l:List Ev)(y:DI):DI×Int×Int:=
 if(je most (y.ps.getD r default) l).2=0 then
  (wQ n ⟨eF (λ _=>(je most (y.ps.getD r default) l).1) r y.ps,y.rU⟩ r,(((je most (y.ps.getD r default) l).1.l.length:Nat):Int),0)
 else(y,0,(je most (y.ps.getD r default) l).2)
theorem Ac{y:DI}(hr:r<n)(h:Uf n y):(toP n y).sh.getD r default=toS (y.ps.getD r default):=by
 have h5:=h.p5;have hn:=h.n5;show((y.ps.take n).map toS).getD r default=_;rw[aoG,ao0,aqs hr,aoG,aom o_];rfl
theorem ajk{y:DI}(hr:r<n)(h:Uf n y)(hB:RsB (je most (y.ps.getD r default) l).1):
  pushP most r l (toP n y)=(toP n (iI most n r l y).1,(iI most n r l y).2.1,(iI most n r l y).2.2):=by
 have h5:=h.p5;have hn:=h.n5;have hs:RsB (y.ps.getD r default):=h.s _ (getD_mem o_);unfold pushP iI;rw[Ac hr h,Ze hs];by_cases hx:(je most (y.ps.getD r default) l).2=0
 ·rw[if_pos hx,if_pos hx];have hy:Uf n ⟨eF (λ _=>(je most (y.ps.getD r default) l).1) r y.ps,y.rU⟩:=⟨by show(eF _ _ _).length=5;rw[dH];exact h.p5,h.a5,λ x hx=>by
   rcases wL hx with hx|⟨_,_,rfl⟩
   ·exact h.s x hx
   ·exact hB,h.n1,h.n5⟩
  have e:(⟨eF (λ _=>toS (je most (y.ps.getD r default) l).1) r (toP n y).sh,(toP n y).told⟩:Pt)=toP n ⟨eF (λ _=>(je most (y.ps.getD r default) l).1) r y.ps,y.rU⟩:=by
   unfold toP;dsimp only;rw[Bz _ hr,MH (g:=λ _=>toS (je most (y.ps.getD r default) l).1) λ _ _=>rfl]
  refine Prod.ext ?_ (Prod.ext ?_ rfl)
  ·show qP _ r=toP n (wQ n _ r);rw[e,aaU hy hr]
  ·show(jO (toS _) _).len=(((je most (y.ps.getD r default) l).1.l.length:Nat):Int);rw[MF,Fh hB]
 ·rw[if_neg hx,if_neg hx]
theorem agV(p:Pt)(hp:qX p):(List.range p.sh.length).foldl qP p=⟨mZ p.told 0 p.sh,p.told⟩:=
 Pt.cases (C:=λ p=>(List.range p.sh.length).foldl qP p=⟨mZ p.told 0 p.sh,p.told⟩) p hp (λ _ _ _=>rfl) (λ _ _ _ _ _ _=>rfl) (λ _ _ _ _ _ _ _ _ _=>rfl) (λ _ _ _ _ _ _ _ _ _ _ _ _=>rfl) (λ _ _ _ _ _ _ _ _ _ _ _ _ _ _ _=>rfl)
def Ad(n:Nat)(y:DI)(r:Nat)(c:aV):DI:=(List.range n).foldl (λ y s=>wQ n y s) ⟨y.ps,eF (λ t=>t.jn c) r y.rU⟩
theorem aaV{n:Nat}:∀(L:List Nat)(y:DI),Uf n y->(∀s∈L,s<n)->toP n (L.foldl (λ y s=>wQ n y s) y)=L.foldl qP (toP n y)/\Uf n (L.foldl (λ y s=>wQ n y s) y)
 |[],y,h,_=>⟨rfl,h⟩
 |s::L,y,h,hs=>by
  have:=aaV L (wQ n y s) (aaT h s) λ x hx=>hs x (aoq _ hx);rw[aaU h (hs s aol)]at this;exact this
theorem amS{y:DI}(h:Uf n y):qX (toP n y):=by
 have h5:=h.p5;have a5:=h.a5;have n5:=h.n5;have e:(toP n y).sh.length=n:=by
  show((y.ps.take n).map toS).length=n;rw[aoO,aou];omega
 refine⟨by rw[e];exact h.n1,by rw[e];exact h.n5, ?_,λ s hs=>?_⟩
 ·rw[e];show(y.rU.take n).length=n;rw[aou];omega
 ·obtain⟨x,hx,rfl⟩:=aoR.1 hs;have hb:=h.s x (apn hx);have hl:=Fh hb;have:=hb.ln;have e2:(toS x).len=(toS x).base+((toS x).kept.length:Int):=rfl;exact⟨hb.c0,o_⟩
theorem alD{c:aV}{y:DI}(hr:r<n)(h:Uf n y):toP n (Ad n y r c)=qQ (toP n y) r c/\Uf n (Ad n y r c):=by
 have hy:Uf n ⟨y.ps,eF (λ t=>t.jn c) r y.rU⟩:=⟨h.p5,by show(eF _ _ _).length=5;rw[dH];exact h.a5,h.s,h.n1,h.n5⟩;have hf:=aaV (List.range n) _ hy λ s hs=>ap4.1 hs;have hl:(toP n ⟨y.ps,eF (λ t=>t.jn c) r y.rU⟩).sh.length=n:=by
  have h5:=h.p5;have n5:=h.n5;show((y.ps.take n).map toS).length=n;rw[aoO,aou];omega
 have hc:=agV _ (amS hy);rw[hl]at hc;refine⟨?_,hf.2⟩;show toP n ((List.range n).foldl (λ y s=>wQ n y s) _)=_;rw[hf.1,hc];unfold toP qQ;dsimp only;rw[Bz _ hr]
def amT(s:MG)(n:Int):List Ev:=(s.l.drop s.cuts.toNat).filter (qM n)
def rV(r:Nat)(c:aV):Nat->List MG->List Ev
 |_,[]=>[]
 |i,s::l=>(if i=r then []else amT s (c.get i))++rV r c (i+1) l
theorem MI(r:Nat)(c:aV):∀(l:List MG)(i:Nat),lG r c i (l.map toS)=rV r c i l
 |[],_=>rfl
 |s::l,i=>by
  show(if i=r then []else(toS s).kept.filter (qM (c.get i)))++lG r c (i+1) (l.map toS)=_;rw[MI r c l];rfl
end Go.Proofs.YtifjccndenojlaaGreat
