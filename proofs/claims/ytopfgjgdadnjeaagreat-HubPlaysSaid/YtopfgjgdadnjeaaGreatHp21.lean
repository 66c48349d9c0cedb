/-
  Contracts of the walk:RefVc,Ref8.
-/
import Derived.Test.YtopfgjgdadnjeaaGreatHp18
import Derived.Test.YtopfgjgdadnjeaaGreatHp19
import Derived.Test.YtopfgjgdadnjeaaGreatHp20
import Derived.Test.YtopfgjgdadnjeaaGreatHp10
import Derived.Test.YtopfgjgdadnjeaaGreatHp15
set_option maxHeartbeats 16000000
set_option maxRecDepth 100000
set_option linter.unusedVariables false
set_option linter.unusedSimpArgs false
namespace Go.Proofs.YtopfgjgdadnjeaaGreat
open Go.RowKit
variable{N R k r:Int}{n:Nat}{F:Nat->List AV}{s1 s2 s3:Sq}
theorem abk(bs:List UInt8)(hl:bs.length<=1000000000)(e1:iG bs 1 5 (0,0)=(k,s1))(_g1:0<=k/\k<=255)(_q0:((0,0):Sq).1<=bs.length)(_q1:s1.1<=bs.length)(e2:iG bs 0 4 s1=(R,s2))(_g2:0<=R/\R<=255)(_q2:s2.1<=bs.length)(e3:iR bs 1 1048576 s2=(N,s3))(_g3:0<=N/\N<=1048576)(q3:s3.1<=bs.length)(hR:R=4):∃p,zy bs p:=by
 subst hR;unfold zy;obtain⟨⟨c0,t0⟩,f0⟩:∃p,iR bs 0 1048576 s3=p:=⟨_,rfl⟩;obtain⟨p0,_⟩:=eF f0 q3 (by omega) (by omega);obtain⟨⟨c1,t1⟩,f1⟩:∃p,iR bs 0 1048576 t0=p:=⟨_,rfl⟩;obtain⟨p1,_⟩:=eF f1 p0 (by omega) (by omega);obtain⟨⟨c2,t2⟩,f2⟩:∃p,iR bs 0 1048576 t1=p:=⟨_,rfl⟩;obtain⟨p2,_⟩:=eF f2 p1 (by omega) (by omega);obtain⟨⟨c3,t3⟩,f3⟩:∃p,iR bs 0 1048576 t2=p:=⟨_,rfl⟩;obtain⟨p3,_⟩:=eF f3 p2 (by omega) (by omega);obtain⟨⟨H,s5⟩,e5⟩:∃p,iR bs 1 16777216 t3=p:=⟨_,rfl⟩;obtain⟨q5,g5⟩:=eF e5 p3 (by omega) (by omega);obtain⟨⟨ks,s6⟩,e6⟩:∃p,iG bs 1 8 s5=p:=⟨_,rfl⟩;obtain⟨q6,g6⟩:=dZ e6 q5;obtain⟨⟨key,s7⟩,e7⟩:∃p,jC bs ks s6=p:=⟨_,rfl⟩;have q7:=iD e7 q6 g6.1;have z7:s7.2=0->s6.2=0:=jd e7;have z6:s6.2=0->s5.2=0:=λ h=>(fC e6 h).1;have z5:s5.2=0->t3.2=0:=fD e5;have wW:t0.2=0->s3.2=0:=fD f0;have wR:t1.2=0->t0.2=0:=fD f1;have wS:t2.2=0->t1.2=0:=fD f2;have wU:t3.2=0->t2.2=0:=fD f3;have z3:s3.2=0->s2.2=0:=fD e3;by_cases hkey:s7.2=0/\ ¬keyE key=0
 ·obtain⟨⟨l,s8⟩,e8⟩:∃p,iG bs 0 1 (s7.1,3)=p:=⟨_,rfl⟩;obtain⟨q8,g8⟩:=dZ e8 q7;obtain⟨⟨vs,s9⟩,e9⟩:∃p,iG bs 1 12 s8=p:=⟨_,rfl⟩;obtain⟨q9,g9⟩:=dZ e9 q8;obtain⟨⟨v,s10⟩,e10⟩:∃p,jC bs vs s9=p:=⟨_,rfl⟩;have q10:=iD e10 q9 g9.1;have z10:s10.2=0->s9.2=0:=jd e10;have z9:s9.2=0->s8.2=0:=λ h=>(fC e9 h).1;have z8:¬s8.2=0:=λ h=>absurd (fC e8 h).1 (by decide:¬ (3:Int)=0);have Yw:¬s10.2=0:=λ h=>z8 (z9 (z10 h));obtain⟨eG,jY⟩:=hkey;refine⟨if 2<k then oU s10 ⟨4,N,⟨c0,c1,c2,c3,N-1⟩,H,k,key,l,v⟩else oU (s7.1,3) ⟨4,N,⟨c0,c1,c2,c3,N-1⟩,H,k,key,0,⟨#[]⟩⟩, ?_, ?_, ?_⟩
  ·by_cases hk2:2<k
   ·rw[if_pos hk2];rw[gY Yw];clear z7 z6 z5 z3 wW wR wS wU z10 z9 z8;dsimp only[qZ];refine K1.E 0x8004100000104000fd Tryz.func112 ?_;repeat' ((conv=>whnf);first|refine K1.u ?_|refine K1.C 1 [(0,_)] (aF bs _ _ _ _ _ e1 hl (by assumption)) rfl ?_ rfl rfl rfl|refine K1.C 1 [(0,_)] (aF bs _ _ _ _ _ e2 hl (by assumption)) rfl ?_ rfl rfl rfl|refine K1.C 1 [(0,_)] (ay bs _ _ _ _ _ e3 hl (by assumption) (by omega) (by omega) (by omega)) rfl ?_ rfl rfl rfl|refine K1.C 1 [(0,_)] (ay bs _ _ _ _ _ f0 hl (by assumption) (by omega) (by omega) (by omega)) rfl ?_ rfl rfl rfl|refine K1.C 1 [(0,_)] (ay bs _ _ _ _ _ f1 hl (by assumption) (by omega) (by omega) (by omega)) rfl ?_ rfl rfl rfl|refine K1.C 1 [(0,_)] (ay bs _ _ _ _ _ f2 hl (by assumption) (by omega) (by omega) (by omega)) rfl ?_ rfl rfl rfl|refine K1.C 1 [(0,_)] (ay bs _ _ _ _ _ f3 hl (by assumption) (by omega) (by omega) (by omega)) rfl ?_ rfl rfl rfl|refine K1.C 1 [(0,_)] (ay bs _ _ _ _ _ e5 hl (by assumption) (by omega) (by omega) (by omega)) rfl ?_ rfl rfl rfl|refine K1.C 1 [(0,_)] (aF bs _ _ _ _ _ e6 hl (by assumption)) rfl ?_ rfl rfl rfl|refine K1.C 1 [(0,_)] (bZ bs _ _ _ _ e7 hl (by assumption) g6) rfl ?_ rfl rfl rfl|refine K1.P1 (bF key) ?_|refine K1.C 1 [(0,_)] (aF bs _ _ _ _ _ e8 hl (by assumption)) rfl ?_ rfl rfl rfl|refine K1.C 1 [(0,_)] (aF bs _ _ _ _ _ e9 hl (by assumption)) rfl ?_ rfl rfl rfl|refine K1.C 1 [(0,_)] (bZ bs _ _ _ _ e10 hl (by assumption) g9) rfl ?_ rfl rfl rfl|refine aK.jA 7 6 rfl ?_|refine aO.dW ?_|refine K1.o (id:=19) (nN [0,1,2,3,4] ((5,some [])::nN [6,7] [])) ?_|refine K1.o (id:=21) (nN [0,1,2,3,4] ((5,some [0])::nN [6,7] [])) ?_|refine K1.z ?_|refine K1.y (λ _=>?_) (λ _=>?_)|fail)
    all_goals(conv=>whnf)
    all_goals first
     |exact aW.mk (aP)
     |(exfalso;omega)
   ·rw[if_neg hk2];rw[gY (by show¬ (3:Int)=0;decide)];clear z7 z6 z5 z3 wW wR wS wU z10 z9 z8;dsimp only[qZ];refine K1.E 0x8004100000104000fd Tryz.func112 ?_;repeat' ((conv=>whnf);first|refine K1.u ?_|refine K1.C 1 [(0,_)] (aF bs _ _ _ _ _ e1 hl (by assumption)) rfl ?_ rfl rfl rfl|refine K1.C 1 [(0,_)] (aF bs _ _ _ _ _ e2 hl (by assumption)) rfl ?_ rfl rfl rfl|refine K1.C 1 [(0,_)] (ay bs _ _ _ _ _ e3 hl (by assumption) (by omega) (by omega) (by omega)) rfl ?_ rfl rfl rfl|refine K1.C 1 [(0,_)] (ay bs _ _ _ _ _ f0 hl (by assumption) (by omega) (by omega) (by omega)) rfl ?_ rfl rfl rfl|refine K1.C 1 [(0,_)] (ay bs _ _ _ _ _ f1 hl (by assumption) (by omega) (by omega) (by omega)) rfl ?_ rfl rfl rfl|refine K1.C 1 [(0,_)] (ay bs _ _ _ _ _ f2 hl (by assumption) (by omega) (by omega) (by omega)) rfl ?_ rfl rfl rfl|refine K1.C 1 [(0,_)] (ay bs _ _ _ _ _ f3 hl (by assumption) (by omega) (by omega) (by omega)) rfl ?_ rfl rfl rfl|refine K1.C 1 [(0,_)] (ay bs _ _ _ _ _ e5 hl (by assumption) (by omega) (by omega) (by omega)) rfl ?_ rfl rfl rfl|refine K1.C 1 [(0,_)] (aF bs _ _ _ _ _ e6 hl (by assumption)) rfl ?_ rfl rfl rfl|refine K1.C 1 [(0,_)] (bZ bs _ _ _ _ e7 hl (by assumption) g6) rfl ?_ rfl rfl rfl|refine K1.P1 (bF key) ?_|refine K1.C 1 [(0,_)] (aF bs _ _ _ _ _ e8 hl (by assumption)) rfl ?_ rfl rfl rfl|refine K1.C 1 [(0,_)] (aF bs _ _ _ _ _ e9 hl (by assumption)) rfl ?_ rfl rfl rfl|refine K1.C 1 [(0,_)] (bZ bs _ _ _ _ e10 hl (by assumption) g9) rfl ?_ rfl rfl rfl|refine aK.jA 7 6 rfl ?_|refine aO.dW ?_|refine K1.o (id:=19) (nN [0,1,2,3,4] ((5,some [])::nN [6,7] [])) ?_|refine K1.o (id:=21) (nN [0,1,2,3,4] ((5,some [0])::nN [6,7] [])) ?_|refine K1.z ?_|refine K1.y (λ _=>?_) (λ _=>?_)|fail)
    all_goals(conv=>whnf)
    all_goals first
     |exact aW.mk (aP)
     |(exfalso;omega)
  ·split
   ·exact gZ q10
   ·exact gZ q7
  ·intro e m ht;have hf:=iI ht;obtain⟨⟨k',w1⟩,a1⟩:∃p,dA bs 1 5 (0,0)=p:=⟨_,rfl⟩;obtain⟨⟨R',w2⟩,a2⟩:∃p,dA bs 0 4 w1=p:=⟨_,rfl⟩;obtain⟨⟨N',w3⟩,a3⟩:∃p,dB bs 1 1048576 w2=p:=⟨_,rfl⟩;obtain⟨⟨C',w4⟩,a4⟩:∃p,dO bs R' w3=p:=⟨_,rfl⟩;obtain⟨⟨H',w5⟩,a5⟩:∃p,dB bs 1 16777216 w4=p:=⟨_,rfl⟩;obtain⟨⟨ks',w6⟩,a6⟩:∃p,dA bs 1 8 w5=p:=⟨_,rfl⟩;obtain⟨⟨key',w7⟩,a7⟩:∃p,dY bs ks' keyE w6=p:=⟨_,rfl⟩;obtain⟨⟨l',w8⟩,a8⟩:∃p,dA bs 0 1 w7=p:=⟨_,rfl⟩;obtain⟨⟨vs',w9⟩,a9⟩:∃p,dA bs 1 12 w8=p:=⟨_,rfl⟩;obtain⟨⟨v',w10⟩,a10⟩:∃p,dY bs vs' gI w9=p:=⟨_,rfl⟩;have hf2:eP bs (0,0)=if cu k' then(⟨R',N',C'.put R' (N'-1),H',k',key',l',v'⟩,w10)else(⟨R',N',C'.put R' (N'-1),H',k',key',0,⟨#[]⟩⟩,w7):=by simp only[eP,a1,a2,a3,a4,a5,a6,a7,a8,a9,a10]
   rw[hf]at hf2;have y7:w7.2=0:=by
    split at hf2
    ·have h10:w10.2=0:=by rw[<-(Prod.mk.inj hf2).2]
     exact dG a8 (dG a9 (fG a10 h10))
    ·rw[<-(Prod.mk.inj hf2).2]
   have y6:=fG a7 y7;have y5:=dG a6 y6;have y4:=bM a5 y5;have y3:w3.2=0:=lQ (bs:=bs) (r:=R') 5 (by have h:(dO bs R' w3).2.2=0:=(by rw[a4];exact y4);exact h);have y2:=bM a3 y3;have y1:=dG a2 y2;rw[bK a1 y1]at e1;obtain⟨rfl,rfl⟩:=Prod.mk.inj e1;rw[bK a2 y2]at e2;obtain⟨rfl,rfl⟩:=Prod.mk.inj e2;rw[aZ a3 y3 (by omega)]at e3;obtain⟨rfl,rfl⟩:=Prod.mk.inj e3;obtain⟨⟨d0,x0⟩,b0⟩:∃p,dB bs 0 1048576 w3=p:=⟨_,rfl⟩;obtain⟨⟨d1,x1⟩,b1⟩:∃p,dB bs 0 1048576 x0=p:=⟨_,rfl⟩;obtain⟨⟨d2,x2⟩,b2⟩:∃p,dB bs 0 1048576 x1=p:=⟨_,rfl⟩;obtain⟨⟨d3,x3⟩,b3⟩:∃p,dB bs 0 1048576 x2=p:=⟨_,rfl⟩;have J6:dO bs 4 w3=(⟨d0,d1,d2,d3,0⟩,x3):=by simp[dO,lY,nI,dD.BH,b0,b1,b2,b3]
   rw[J6]at a4;obtain⟨rfl,rfl⟩:=Prod.mk.inj a4;have u2:=bM b3 y4;have u1:=bM b2 u2;have u0:=bM b1 u1;rw[aZ b0 u0 (by omega)]at f0;obtain⟨rfl,rfl⟩:=Prod.mk.inj f0;rw[aZ b1 u1 (by omega)]at f1;obtain⟨rfl,rfl⟩:=Prod.mk.inj f1;rw[aZ b2 u2 (by omega)]at f2;obtain⟨rfl,rfl⟩:=Prod.mk.inj f2;rw[aZ b3 y4 (by omega)]at f3;obtain⟨rfl,rfl⟩:=Prod.mk.inj f3;rw[aZ a5 y5 (by omega)]at e5;obtain⟨rfl,rfl⟩:=Prod.mk.inj e5;rw[bK a6 y6]at e6;obtain⟨rfl,rfl⟩:=Prod.mk.inj e6;rw[(eX a7 y7).1]at e7;obtain⟨rfl,rfl⟩:=Prod.mk.inj e7;have hk0:=(eX a7 y7).2;exact absurd hk0 jY
 ·obtain⟨⟨l,s8⟩,e8⟩:∃p,iG bs 0 1 s7=p:=⟨_,rfl⟩;obtain⟨q8,g8⟩:=dZ e8 q7;obtain⟨⟨vs,s9⟩,e9⟩:∃p,iG bs 1 12 s8=p:=⟨_,rfl⟩;obtain⟨q9,g9⟩:=dZ e9 q8;obtain⟨⟨v,s10⟩,e10⟩:∃p,jC bs vs s9=p:=⟨_,rfl⟩;have q10:=iD e10 q9 g9.1;have z10:s10.2=0->s9.2=0:=jd e10;have z9:s9.2=0->s8.2=0:=λ h=>(fC e9 h).1;have z8:s8.2=0->s7.2=0:=λ h=>(fC e8 h).1;have eG:s7.2=0->keyE key=0:=λ h=>Classical.byContradiction λ hn=>hkey ⟨h,hn⟩;refine⟨if 2<k then oU s10 ⟨4,N,⟨c0,c1,c2,c3,N-1⟩,H,k,key,l,v⟩else oU s7 ⟨4,N,⟨c0,c1,c2,c3,N-1⟩,H,k,key,0,⟨#[]⟩⟩, ?_, ?_, ?_⟩
  ·by_cases hk2:2<k
   ·rw[if_pos hk2];by_cases hF:s10.2=0
    ·rw[iL hF];have J7:=z8 (z9 (z10 hF));have jY:=eG J7;clear z7 z6 z5 z3 wW wR wS wU z10 z9 z8 hkey eG;dsimp only[qZ];refine K1.E 0x8004100000104000fd Tryz.func112 ?_;repeat' ((conv=>whnf);first|refine K1.u ?_|refine K1.C 1 [(0,_)] (aF bs _ _ _ _ _ e1 hl (by assumption)) rfl ?_ rfl rfl rfl|refine K1.C 1 [(0,_)] (aF bs _ _ _ _ _ e2 hl (by assumption)) rfl ?_ rfl rfl rfl|refine K1.C 1 [(0,_)] (ay bs _ _ _ _ _ e3 hl (by assumption) (by omega) (by omega) (by omega)) rfl ?_ rfl rfl rfl|refine K1.C 1 [(0,_)] (ay bs _ _ _ _ _ f0 hl (by assumption) (by omega) (by omega) (by omega)) rfl ?_ rfl rfl rfl|refine K1.C 1 [(0,_)] (ay bs _ _ _ _ _ f1 hl (by assumption) (by omega) (by omega) (by omega)) rfl ?_ rfl rfl rfl|refine K1.C 1 [(0,_)] (ay bs _ _ _ _ _ f2 hl (by assumption) (by omega) (by omega) (by omega)) rfl ?_ rfl rfl rfl|refine K1.C 1 [(0,_)] (ay bs _ _ _ _ _ f3 hl (by assumption) (by omega) (by omega) (by omega)) rfl ?_ rfl rfl rfl|refine K1.C 1 [(0,_)] (ay bs _ _ _ _ _ e5 hl (by assumption) (by omega) (by omega) (by omega)) rfl ?_ rfl rfl rfl|refine K1.C 1 [(0,_)] (aF bs _ _ _ _ _ e6 hl (by assumption)) rfl ?_ rfl rfl rfl|refine K1.C 1 [(0,_)] (bZ bs _ _ _ _ e7 hl (by assumption) g6) rfl ?_ rfl rfl rfl|refine K1.P1 (bF key) ?_|refine K1.C 1 [(0,_)] (aF bs _ _ _ _ _ e8 hl (by assumption)) rfl ?_ rfl rfl rfl|refine K1.C 1 [(0,_)] (aF bs _ _ _ _ _ e9 hl (by assumption)) rfl ?_ rfl rfl rfl|refine K1.C 1 [(0,_)] (bZ bs _ _ _ _ e10 hl (by assumption) g9) rfl ?_ rfl rfl rfl|refine aK.jA 7 6 rfl ?_|refine aO.dW ?_|refine K1.o (id:=19) (nN [0,1,2,3,4] ((5,some [])::nN [6,7] [])) ?_|refine K1.o (id:=21) (nN [0,1,2,3,4] ((5,some [0])::nN [6,7] [])) ?_|refine K1.z ?_|refine K1.y (λ _=>?_) (λ _=>?_)|fail)
     all_goals(conv=>whnf)
     all_goals first
      |exact aW.mk (aP)
      |(exfalso;omega)
    ·rw[gY hF];by_cases J7:s7.2=0
     ·have jY:=eG J7;clear z7 z6 z5 z3 wW wR wS wU z10 z9 z8 hkey eG;dsimp only[qZ];refine K1.E 0x8004100000104000fd Tryz.func112 ?_;repeat' ((conv=>whnf);first|refine K1.u ?_|refine K1.C 1 [(0,_)] (aF bs _ _ _ _ _ e1 hl (by assumption)) rfl ?_ rfl rfl rfl|refine K1.C 1 [(0,_)] (aF bs _ _ _ _ _ e2 hl (by assumption)) rfl ?_ rfl rfl rfl|refine K1.C 1 [(0,_)] (ay bs _ _ _ _ _ e3 hl (by assumption) (by omega) (by omega) (by omega)) rfl ?_ rfl rfl rfl|refine K1.C 1 [(0,_)] (ay bs _ _ _ _ _ f0 hl (by assumption) (by omega) (by omega) (by omega)) rfl ?_ rfl rfl rfl|refine K1.C 1 [(0,_)] (ay bs _ _ _ _ _ f1 hl (by assumption) (by omega) (by omega) (by omega)) rfl ?_ rfl rfl rfl|refine K1.C 1 [(0,_)] (ay bs _ _ _ _ _ f2 hl (by assumption) (by omega) (by omega) (by omega)) rfl ?_ rfl rfl rfl|refine K1.C 1 [(0,_)] (ay bs _ _ _ _ _ f3 hl (by assumption) (by omega) (by omega) (by omega)) rfl ?_ rfl rfl rfl|refine K1.C 1 [(0,_)] (ay bs _ _ _ _ _ e5 hl (by assumption) (by omega) (by omega) (by omega)) rfl ?_ rfl rfl rfl|refine K1.C 1 [(0,_)] (aF bs _ _ _ _ _ e6 hl (by assumption)) rfl ?_ rfl rfl rfl|refine K1.C 1 [(0,_)] (bZ bs _ _ _ _ e7 hl (by assumption) g6) rfl ?_ rfl rfl rfl|refine K1.P1 (bF key) ?_|refine K1.C 1 [(0,_)] (aF bs _ _ _ _ _ e8 hl (by assumption)) rfl ?_ rfl rfl rfl|refine K1.C 1 [(0,_)] (aF bs _ _ _ _ _ e9 hl (by assumption)) rfl ?_ rfl rfl rfl|refine K1.C 1 [(0,_)] (bZ bs _ _ _ _ e10 hl (by assumption) g9) rfl ?_ rfl rfl rfl|refine aK.jA 7 6 rfl ?_|refine aO.dW ?_|refine K1.o (id:=19) (nN [0,1,2,3,4] ((5,some [])::nN [6,7] [])) ?_|refine K1.o (id:=21) (nN [0,1,2,3,4] ((5,some [0])::nN [6,7] [])) ?_|refine K1.z ?_|refine K1.y (λ _=>?_) (λ _=>?_)|fail)
      all_goals(conv=>whnf)
      all_goals first
       |exact aW.mk (aP)
       |(exfalso;omega)
     ·skip
      clear z7 z6 z5 z3 wW wR wS wU z10 z9 z8 hkey eG;dsimp only[qZ];refine K1.E 0x8004100000104000fd Tryz.func112 ?_;repeat' ((conv=>whnf);first|refine K1.u ?_|refine K1.C 1 [(0,_)] (aF bs _ _ _ _ _ e1 hl (by assumption)) rfl ?_ rfl rfl rfl|refine K1.C 1 [(0,_)] (aF bs _ _ _ _ _ e2 hl (by assumption)) rfl ?_ rfl rfl rfl|refine K1.C 1 [(0,_)] (ay bs _ _ _ _ _ e3 hl (by assumption) (by omega) (by omega) (by omega)) rfl ?_ rfl rfl rfl|refine K1.C 1 [(0,_)] (ay bs _ _ _ _ _ f0 hl (by assumption) (by omega) (by omega) (by omega)) rfl ?_ rfl rfl rfl|refine K1.C 1 [(0,_)] (ay bs _ _ _ _ _ f1 hl (by assumption) (by omega) (by omega) (by omega)) rfl ?_ rfl rfl rfl|refine K1.C 1 [(0,_)] (ay bs _ _ _ _ _ f2 hl (by assumption) (by omega) (by omega) (by omega)) rfl ?_ rfl rfl rfl|refine K1.C 1 [(0,_)] (ay bs _ _ _ _ _ f3 hl (by assumption) (by omega) (by omega) (by omega)) rfl ?_ rfl rfl rfl|refine K1.C 1 [(0,_)] (ay bs _ _ _ _ _ e5 hl (by assumption) (by omega) (by omega) (by omega)) rfl ?_ rfl rfl rfl|refine K1.C 1 [(0,_)] (aF bs _ _ _ _ _ e6 hl (by assumption)) rfl ?_ rfl rfl rfl|refine K1.C 1 [(0,_)] (bZ bs _ _ _ _ e7 hl (by assumption) g6) rfl ?_ rfl rfl rfl|refine K1.P1 (bF key) ?_|refine K1.C 1 [(0,_)] (aF bs _ _ _ _ _ e8 hl (by assumption)) rfl ?_ rfl rfl rfl|refine K1.C 1 [(0,_)] (aF bs _ _ _ _ _ e9 hl (by assumption)) rfl ?_ rfl rfl rfl|refine K1.C 1 [(0,_)] (bZ bs _ _ _ _ e10 hl (by assumption) g9) rfl ?_ rfl rfl rfl|refine aK.jA 7 6 rfl ?_|refine aO.dW ?_|refine K1.o (id:=19) (nN [0,1,2,3,4] ((5,some [])::nN [6,7] [])) ?_|refine K1.o (id:=21) (nN [0,1,2,3,4] ((5,some [0])::nN [6,7] [])) ?_|refine K1.z ?_|refine K1.y (λ _=>?_) (λ _=>?_)|fail)
      all_goals(conv=>whnf)
      all_goals first
       |exact aW.mk (aP)
       |(exfalso;omega)
   ·rw[if_neg hk2];by_cases hF:s7.2=0
    ·rw[iL hF];have jY:=eG hF;clear z7 z6 z5 z3 wW wR wS wU z10 z9 z8 hkey eG;dsimp only[qZ];refine K1.E 0x8004100000104000fd Tryz.func112 ?_;repeat' ((conv=>whnf);first|refine K1.u ?_|refine K1.C 1 [(0,_)] (aF bs _ _ _ _ _ e1 hl (by assumption)) rfl ?_ rfl rfl rfl|refine K1.C 1 [(0,_)] (aF bs _ _ _ _ _ e2 hl (by assumption)) rfl ?_ rfl rfl rfl|refine K1.C 1 [(0,_)] (ay bs _ _ _ _ _ e3 hl (by assumption) (by omega) (by omega) (by omega)) rfl ?_ rfl rfl rfl|refine K1.C 1 [(0,_)] (ay bs _ _ _ _ _ f0 hl (by assumption) (by omega) (by omega) (by omega)) rfl ?_ rfl rfl rfl|refine K1.C 1 [(0,_)] (ay bs _ _ _ _ _ f1 hl (by assumption) (by omega) (by omega) (by omega)) rfl ?_ rfl rfl rfl|refine K1.C 1 [(0,_)] (ay bs _ _ _ _ _ f2 hl (by assumption) (by omega) (by omega) (by omega)) rfl ?_ rfl rfl rfl|refine K1.C 1 [(0,_)] (ay bs _ _ _ _ _ f3 hl (by assumption) (by omega) (by omega) (by omega)) rfl ?_ rfl rfl rfl|refine K1.C 1 [(0,_)] (ay bs _ _ _ _ _ e5 hl (by assumption) (by omega) (by omega) (by omega)) rfl ?_ rfl rfl rfl|refine K1.C 1 [(0,_)] (aF bs _ _ _ _ _ e6 hl (by assumption)) rfl ?_ rfl rfl rfl|refine K1.C 1 [(0,_)] (bZ bs _ _ _ _ e7 hl (by assumption) g6) rfl ?_ rfl rfl rfl|refine K1.P1 (bF key) ?_|refine K1.C 1 [(0,_)] (aF bs _ _ _ _ _ e8 hl (by assumption)) rfl ?_ rfl rfl rfl|refine K1.C 1 [(0,_)] (aF bs _ _ _ _ _ e9 hl (by assumption)) rfl ?_ rfl rfl rfl|refine K1.C 1 [(0,_)] (bZ bs _ _ _ _ e10 hl (by assumption) g9) rfl ?_ rfl rfl rfl|refine aK.jA 7 6 rfl ?_|refine aO.dW ?_|refine K1.o (id:=19) (nN [0,1,2,3,4] ((5,some [])::nN [6,7] [])) ?_|refine K1.o (id:=21) (nN [0,1,2,3,4] ((5,some [0])::nN [6,7] [])) ?_|refine K1.z ?_|refine K1.y (λ _=>?_) (λ _=>?_)|fail)
     all_goals(conv=>whnf)
     all_goals first
      |exact aW.mk (aP)
      |(exfalso;omega)
    ·rw[gY hF];clear z7 z6 z5 z3 wW wR wS wU z10 z9 z8 hkey eG;dsimp only[qZ];refine K1.E 0x8004100000104000fd Tryz.func112 ?_;repeat' ((conv=>whnf);first|refine K1.u ?_|refine K1.C 1 [(0,_)] (aF bs _ _ _ _ _ e1 hl (by assumption)) rfl ?_ rfl rfl rfl|refine K1.C 1 [(0,_)] (aF bs _ _ _ _ _ e2 hl (by assumption)) rfl ?_ rfl rfl rfl|refine K1.C 1 [(0,_)] (ay bs _ _ _ _ _ e3 hl (by assumption) (by omega) (by omega) (by omega)) rfl ?_ rfl rfl rfl|refine K1.C 1 [(0,_)] (ay bs _ _ _ _ _ f0 hl (by assumption) (by omega) (by omega) (by omega)) rfl ?_ rfl rfl rfl|refine K1.C 1 [(0,_)] (ay bs _ _ _ _ _ f1 hl (by assumption) (by omega) (by omega) (by omega)) rfl ?_ rfl rfl rfl|refine K1.C 1 [(0,_)] (ay bs _ _ _ _ _ f2 hl (by assumption) (by omega) (by omega) (by omega)) rfl ?_ rfl rfl rfl|refine K1.C 1 [(0,_)] (ay bs _ _ _ _ _ f3 hl (by assumption) (by omega) (by omega) (by omega)) rfl ?_ rfl rfl rfl|refine K1.C 1 [(0,_)] (ay bs _ _ _ _ _ e5 hl (by assumption) (by omega) (by omega) (by omega)) rfl ?_ rfl rfl rfl|refine K1.C 1 [(0,_)] (aF bs _ _ _ _ _ e6 hl (by assumption)) rfl ?_ rfl rfl rfl|refine K1.C 1 [(0,_)] (bZ bs _ _ _ _ e7 hl (by assumption) g6) rfl ?_ rfl rfl rfl|refine K1.P1 (bF key) ?_|refine K1.C 1 [(0,_)] (aF bs _ _ _ _ _ e8 hl (by assumption)) rfl ?_ rfl rfl rfl|refine K1.C 1 [(0,_)] (aF bs _ _ _ _ _ e9 hl (by assumption)) rfl ?_ rfl rfl rfl|refine K1.C 1 [(0,_)] (bZ bs _ _ _ _ e10 hl (by assumption) g9) rfl ?_ rfl rfl rfl|refine aK.jA 7 6 rfl ?_|refine aO.dW ?_|refine K1.o (id:=19) (nN [0,1,2,3,4] ((5,some [])::nN [6,7] [])) ?_|refine K1.o (id:=21) (nN [0,1,2,3,4] ((5,some [0])::nN [6,7] [])) ?_|refine K1.z ?_|refine K1.y (λ _=>?_) (λ _=>?_)|fail)
     all_goals(conv=>whnf)
     all_goals first
      |exact aW.mk (aP)
      |(exfalso;omega)
  ·split
   ·exact gZ q10
   ·exact gZ q7
  ·intro e m ht;have hf:=iI ht;obtain⟨⟨k',w1⟩,a1⟩:∃p,dA bs 1 5 (0,0)=p:=⟨_,rfl⟩;obtain⟨⟨R',w2⟩,a2⟩:∃p,dA bs 0 4 w1=p:=⟨_,rfl⟩;obtain⟨⟨N',w3⟩,a3⟩:∃p,dB bs 1 1048576 w2=p:=⟨_,rfl⟩;obtain⟨⟨C',w4⟩,a4⟩:∃p,dO bs R' w3=p:=⟨_,rfl⟩;obtain⟨⟨H',w5⟩,a5⟩:∃p,dB bs 1 16777216 w4=p:=⟨_,rfl⟩;obtain⟨⟨ks',w6⟩,a6⟩:∃p,dA bs 1 8 w5=p:=⟨_,rfl⟩;obtain⟨⟨key',w7⟩,a7⟩:∃p,dY bs ks' keyE w6=p:=⟨_,rfl⟩;obtain⟨⟨l',w8⟩,a8⟩:∃p,dA bs 0 1 w7=p:=⟨_,rfl⟩;obtain⟨⟨vs',w9⟩,a9⟩:∃p,dA bs 1 12 w8=p:=⟨_,rfl⟩;obtain⟨⟨v',w10⟩,a10⟩:∃p,dY bs vs' gI w9=p:=⟨_,rfl⟩;have hf2:eP bs (0,0)=if cu k' then(⟨R',N',C'.put R' (N'-1),H',k',key',l',v'⟩,w10)else(⟨R',N',C'.put R' (N'-1),H',k',key',0,⟨#[]⟩⟩,w7):=by simp only[eP,a1,a2,a3,a4,a5,a6,a7,a8,a9,a10]
   rw[hf]at hf2;have y7:w7.2=0:=by
    split at hf2
    ·have h10:w10.2=0:=by rw[<-(Prod.mk.inj hf2).2]
     exact dG a8 (dG a9 (fG a10 h10))
    ·rw[<-(Prod.mk.inj hf2).2]
   have y6:=fG a7 y7;have y5:=dG a6 y6;have y4:=bM a5 y5;have y3:w3.2=0:=lQ (bs:=bs) (r:=R') 5 (by have h:(dO bs R' w3).2.2=0:=(by rw[a4];exact y4);exact h);have y2:=bM a3 y3;have y1:=dG a2 y2;rw[bK a1 y1]at e1;obtain⟨rfl,rfl⟩:=Prod.mk.inj e1;rw[bK a2 y2]at e2;obtain⟨rfl,rfl⟩:=Prod.mk.inj e2;rw[aZ a3 y3 (by omega)]at e3;obtain⟨rfl,rfl⟩:=Prod.mk.inj e3;obtain⟨⟨d0,x0⟩,b0⟩:∃p,dB bs 0 1048576 w3=p:=⟨_,rfl⟩;obtain⟨⟨d1,x1⟩,b1⟩:∃p,dB bs 0 1048576 x0=p:=⟨_,rfl⟩;obtain⟨⟨d2,x2⟩,b2⟩:∃p,dB bs 0 1048576 x1=p:=⟨_,rfl⟩;obtain⟨⟨d3,x3⟩,b3⟩:∃p,dB bs 0 1048576 x2=p:=⟨_,rfl⟩;have J6:dO bs 4 w3=(⟨d0,d1,d2,d3,0⟩,x3):=by simp[dO,lY,nI,dD.BH,b0,b1,b2,b3]
   rw[J6]at a4;obtain⟨rfl,rfl⟩:=Prod.mk.inj a4;have u2:=bM b3 y4;have u1:=bM b2 u2;have u0:=bM b1 u1;rw[aZ b0 u0 (by omega)]at f0;obtain⟨rfl,rfl⟩:=Prod.mk.inj f0;rw[aZ b1 u1 (by omega)]at f1;obtain⟨rfl,rfl⟩:=Prod.mk.inj f1;rw[aZ b2 u2 (by omega)]at f2;obtain⟨rfl,rfl⟩:=Prod.mk.inj f2;rw[aZ b3 y4 (by omega)]at f3;obtain⟨rfl,rfl⟩:=Prod.mk.inj f3;rw[aZ a5 y5 (by omega)]at e5;obtain⟨rfl,rfl⟩:=Prod.mk.inj e5;rw[bK a6 y6]at e6;obtain⟨rfl,rfl⟩:=Prod.mk.inj e6;rw[(eX a7 y7).1]at e7;obtain⟨rfl,rfl⟩:=Prod.mk.inj e7;have hk0:=(eX a7 y7).2;have ZM:=(fC (bK a1 y1) y1).2;by_cases hk2:2<k'
   ·have hlong:cu k'=true:=by unfold cu;simp;omega
    rw[if_pos hlong]at hf2;have h10:w10.2=0:=by rw[<-(Prod.mk.inj hf2).2]
    have h9:=fG a10 h10;have h8:=dG a9 h9;rw[bK a8 h8]at e8;obtain⟨rfl,rfl⟩:=Prod.mk.inj e8;rw[bK a9 h9]at e9;obtain⟨rfl,rfl⟩:=Prod.mk.inj e9;rw[(eX a10 h10).1]at e10;obtain⟨rfl,rfl⟩:=Prod.mk.inj e10;rw[if_pos hk2,iL h10,<-(Prod.mk.inj hf2).2,(Prod.mk.inj hf2).1];rfl
   ·have hlong:cu k'=false:=by unfold cu;simp;omega
    rw[if_neg (by rw[hlong];exact Bool.false_ne_true)]at hf2;rw[if_neg hk2,iL y7,<-(Prod.mk.inj hf2).2,(Prod.mk.inj hf2).1];rfl
theorem abl(bs:List UInt8)(hl:bs.length<=1000000000)(e1:iG bs 1 5 (0,0)=(k,s1))(_g1:0<=k/\k<=255)(_q0:((0,0):Sq).1<=bs.length)(_q1:s1.1<=bs.length)(e2:iG bs 0 4 s1=(R,s2))(_g2:0<=R/\R<=255)(_q2:s2.1<=bs.length)(e3:iR bs 1 1048576 s2=(N,s3))(_g3:0<=N/\N<=1048576)(q3:s3.1<=bs.length)(hR:¬ (0<=R/\R<=4)):∃p,zy bs p:=by
 unfold zy;obtain⟨⟨c0,t0⟩,f0⟩:∃p,iR bs 0 1048576 s3=p:=⟨_,rfl⟩;obtain⟨p0,_⟩:=eF f0 q3 (by omega) (by omega);obtain⟨⟨c1,t1⟩,f1⟩:∃p,iR bs 0 1048576 t0=p:=⟨_,rfl⟩;obtain⟨p1,_⟩:=eF f1 p0 (by omega) (by omega);obtain⟨⟨c2,t2⟩,f2⟩:∃p,iR bs 0 1048576 t1=p:=⟨_,rfl⟩;obtain⟨p2,_⟩:=eF f2 p1 (by omega) (by omega);obtain⟨⟨c3,t3⟩,f3⟩:∃p,iR bs 0 1048576 t2=p:=⟨_,rfl⟩;obtain⟨p3,_⟩:=eF f3 p2 (by omega) (by omega);obtain⟨⟨c4,t4⟩,f4⟩:∃p,iR bs 0 1048576 t3=p:=⟨_,rfl⟩;obtain⟨p4,_⟩:=eF f4 p3 (by omega) (by omega);obtain⟨⟨H,s5⟩,e5⟩:∃p,iR bs 1 16777216 t4=p:=⟨_,rfl⟩;obtain⟨q5,g5⟩:=eF e5 p4 (by omega) (by omega);obtain⟨⟨ks,s6⟩,e6⟩:∃p,iG bs 1 8 s5=p:=⟨_,rfl⟩;obtain⟨q6,g6⟩:=dZ e6 q5;obtain⟨⟨key,s7⟩,e7⟩:∃p,jC bs ks s6=p:=⟨_,rfl⟩;have q7:=iD e7 q6 g6.1;have z7:s7.2=0->s6.2=0:=jd e7;have z6:s6.2=0->s5.2=0:=λ h=>(fC e6 h).1;have z5:s5.2=0->t4.2=0:=fD e5;have wW:t0.2=0->s3.2=0:=fD f0;have wR:t1.2=0->t0.2=0:=fD f1;have wS:t2.2=0->t1.2=0:=fD f2;have wU:t3.2=0->t2.2=0:=fD f3;have wV:t4.2=0->t3.2=0:=fD f4;have z3:s3.2=0->s2.2=0:=fD e3;have abm:¬s7.2=0:=λ h=>hR (fC e2 (z3 ((wW (wR (wS (wU (wV (z5 (z6 (z7 h))))))))))).2;by_cases hkey:s7.2=0/\ ¬keyE key=0
 ·obtain⟨⟨l,s8⟩,e8⟩:∃p,iG bs 0 1 (s7.1,3)=p:=⟨_,rfl⟩;obtain⟨q8,g8⟩:=dZ e8 q7;obtain⟨⟨vs,s9⟩,e9⟩:∃p,iG bs 1 12 s8=p:=⟨_,rfl⟩;obtain⟨q9,g9⟩:=dZ e9 q8;obtain⟨⟨v,s10⟩,e10⟩:∃p,jC bs vs s9=p:=⟨_,rfl⟩;have q10:=iD e10 q9 g9.1;have z10:s10.2=0->s9.2=0:=jd e10;have z9:s9.2=0->s8.2=0:=λ h=>(fC e9 h).1;have z8:¬s8.2=0:=λ h=>absurd (fC e8 h).1 (by decide:¬ (3:Int)=0);have Yw:¬s10.2=0:=λ h=>z8 (z9 (z10 h));obtain⟨eG,jY⟩:=hkey;exact absurd eG abm
 ·obtain⟨⟨l,s8⟩,e8⟩:∃p,iG bs 0 1 s7=p:=⟨_,rfl⟩;obtain⟨q8,g8⟩:=dZ e8 q7;obtain⟨⟨vs,s9⟩,e9⟩:∃p,iG bs 1 12 s8=p:=⟨_,rfl⟩;obtain⟨q9,g9⟩:=dZ e9 q8;obtain⟨⟨v,s10⟩,e10⟩:∃p,jC bs vs s9=p:=⟨_,rfl⟩;have q10:=iD e10 q9 g9.1;have z10:s10.2=0->s9.2=0:=jd e10;have z9:s9.2=0->s8.2=0:=λ h=>(fC e9 h).1;have z8:s8.2=0->s7.2=0:=λ h=>(fC e8 h).1;have eG:s7.2=0->keyE key=0:=λ h=>Classical.byContradiction λ hn=>hkey ⟨h,hn⟩;have aco:¬s10.2=0:=λ h=>abm (z8 (z9 (z10 h)));refine⟨if 2<k then oU s10 ⟨R,N,⟨c0,c1,c2,c3,c4⟩,H,k,key,l,v⟩else oU s7 ⟨R,N,⟨c0,c1,c2,c3,c4⟩,H,k,key,0,⟨#[]⟩⟩, ?_, ?_, ?_⟩
  ·by_cases hk2:2<k
   ·rw[if_pos hk2];rw[gY aco];clear z7 z6 z5 z3 wW wR wS wU wV z10 z9 z8 hkey eG;dsimp only[qZ];refine K1.E 0x8004100000104000fd Tryz.func112 ?_;repeat' ((conv=>whnf);first|refine K1.u ?_|refine K1.C 1 [(0,_)] (aF bs _ _ _ _ _ e1 hl (by assumption)) rfl ?_ rfl rfl rfl|refine K1.C 1 [(0,_)] (aF bs _ _ _ _ _ e2 hl (by assumption)) rfl ?_ rfl rfl rfl|refine K1.C 1 [(0,_)] (ay bs _ _ _ _ _ e3 hl (by assumption) (by omega) (by omega) (by omega)) rfl ?_ rfl rfl rfl|refine K1.C 1 [(0,_)] (ay bs _ _ _ _ _ f0 hl (by assumption) (by omega) (by omega) (by omega)) rfl ?_ rfl rfl rfl|refine K1.C 1 [(0,_)] (ay bs _ _ _ _ _ f1 hl (by assumption) (by omega) (by omega) (by omega)) rfl ?_ rfl rfl rfl|refine K1.C 1 [(0,_)] (ay bs _ _ _ _ _ f2 hl (by assumption) (by omega) (by omega) (by omega)) rfl ?_ rfl rfl rfl|refine K1.C 1 [(0,_)] (ay bs _ _ _ _ _ f3 hl (by assumption) (by omega) (by omega) (by omega)) rfl ?_ rfl rfl rfl|refine K1.C 1 [(0,_)] (ay bs _ _ _ _ _ f4 hl (by assumption) (by omega) (by omega) (by omega)) rfl ?_ rfl rfl rfl|refine K1.C 1 [(0,_)] (ay bs _ _ _ _ _ e5 hl (by assumption) (by omega) (by omega) (by omega)) rfl ?_ rfl rfl rfl|refine K1.C 1 [(0,_)] (aF bs _ _ _ _ _ e6 hl (by assumption)) rfl ?_ rfl rfl rfl|refine K1.C 1 [(0,_)] (bZ bs _ _ _ _ e7 hl (by assumption) g6) rfl ?_ rfl rfl rfl|refine K1.P1 (bF key) ?_|refine K1.C 1 [(0,_)] (aF bs _ _ _ _ _ e8 hl (by assumption)) rfl ?_ rfl rfl rfl|refine K1.C 1 [(0,_)] (aF bs _ _ _ _ _ e9 hl (by assumption)) rfl ?_ rfl rfl rfl|refine K1.C 1 [(0,_)] (bZ bs _ _ _ _ e10 hl (by assumption) g9) rfl ?_ rfl rfl rfl|refine aK.jA 7 6 rfl ?_|refine aO.dW ?_|refine K1.o (id:=19) (nN [0,1,2,3,4] ((5,some [])::nN [6,7] [])) ?_|refine K1.o (id:=21) (nN [0,1,2,3,4] ((5,some [0])::nN [6,7] [])) ?_|refine K1.z ?_|refine K1.y (λ _=>?_) (λ _=>?_)|fail)
    all_goals(conv=>whnf)
    all_goals first
     |exact aW.mk (aP)
     |(exfalso;omega)
   ·rw[if_neg hk2];rw[gY abm];clear z7 z6 z5 z3 wW wR wS wU wV z10 z9 z8 hkey eG;dsimp only[qZ];refine K1.E 0x8004100000104000fd Tryz.func112 ?_;repeat' ((conv=>whnf);first|refine K1.u ?_|refine K1.C 1 [(0,_)] (aF bs _ _ _ _ _ e1 hl (by assumption)) rfl ?_ rfl rfl rfl|refine K1.C 1 [(0,_)] (aF bs _ _ _ _ _ e2 hl (by assumption)) rfl ?_ rfl rfl rfl|refine K1.C 1 [(0,_)] (ay bs _ _ _ _ _ e3 hl (by assumption) (by omega) (by omega) (by omega)) rfl ?_ rfl rfl rfl|refine K1.C 1 [(0,_)] (ay bs _ _ _ _ _ f0 hl (by assumption) (by omega) (by omega) (by omega)) rfl ?_ rfl rfl rfl|refine K1.C 1 [(0,_)] (ay bs _ _ _ _ _ f1 hl (by assumption) (by omega) (by omega) (by omega)) rfl ?_ rfl rfl rfl|refine K1.C 1 [(0,_)] (ay bs _ _ _ _ _ f2 hl (by assumption) (by omega) (by omega) (by omega)) rfl ?_ rfl rfl rfl|refine K1.C 1 [(0,_)] (ay bs _ _ _ _ _ f3 hl (by assumption) (by omega) (by omega) (by omega)) rfl ?_ rfl rfl rfl|refine K1.C 1 [(0,_)] (ay bs _ _ _ _ _ f4 hl (by assumption) (by omega) (by omega) (by omega)) rfl ?_ rfl rfl rfl|refine K1.C 1 [(0,_)] (ay bs _ _ _ _ _ e5 hl (by assumption) (by omega) (by omega) (by omega)) rfl ?_ rfl rfl rfl|refine K1.C 1 [(0,_)] (aF bs _ _ _ _ _ e6 hl (by assumption)) rfl ?_ rfl rfl rfl|refine K1.C 1 [(0,_)] (bZ bs _ _ _ _ e7 hl (by assumption) g6) rfl ?_ rfl rfl rfl|refine K1.P1 (bF key) ?_|refine K1.C 1 [(0,_)] (aF bs _ _ _ _ _ e8 hl (by assumption)) rfl ?_ rfl rfl rfl|refine K1.C 1 [(0,_)] (aF bs _ _ _ _ _ e9 hl (by assumption)) rfl ?_ rfl rfl rfl|refine K1.C 1 [(0,_)] (bZ bs _ _ _ _ e10 hl (by assumption) g9) rfl ?_ rfl rfl rfl|refine aK.jA 7 6 rfl ?_|refine aO.dW ?_|refine K1.o (id:=19) (nN [0,1,2,3,4] ((5,some [])::nN [6,7] [])) ?_|refine K1.o (id:=21) (nN [0,1,2,3,4] ((5,some [0])::nN [6,7] [])) ?_|refine K1.z ?_|refine K1.y (λ _=>?_) (λ _=>?_)|fail)
    all_goals(conv=>whnf)
    all_goals first
     |exact aW.mk (aP)
     |(exfalso;omega)
  ·split
   ·exact gZ q10
   ·exact gZ q7
  ·intro e m ht;have hf:=iI ht;obtain⟨⟨k',w1⟩,a1⟩:∃p,dA bs 1 5 (0,0)=p:=⟨_,rfl⟩;obtain⟨⟨R',w2⟩,a2⟩:∃p,dA bs 0 4 w1=p:=⟨_,rfl⟩;obtain⟨⟨N',w3⟩,a3⟩:∃p,dB bs 1 1048576 w2=p:=⟨_,rfl⟩;obtain⟨⟨C',w4⟩,a4⟩:∃p,dO bs R' w3=p:=⟨_,rfl⟩;obtain⟨⟨H',w5⟩,a5⟩:∃p,dB bs 1 16777216 w4=p:=⟨_,rfl⟩;obtain⟨⟨ks',w6⟩,a6⟩:∃p,dA bs 1 8 w5=p:=⟨_,rfl⟩;obtain⟨⟨key',w7⟩,a7⟩:∃p,dY bs ks' keyE w6=p:=⟨_,rfl⟩;obtain⟨⟨l',w8⟩,a8⟩:∃p,dA bs 0 1 w7=p:=⟨_,rfl⟩;obtain⟨⟨vs',w9⟩,a9⟩:∃p,dA bs 1 12 w8=p:=⟨_,rfl⟩;obtain⟨⟨v',w10⟩,a10⟩:∃p,dY bs vs' gI w9=p:=⟨_,rfl⟩;have hf2:eP bs (0,0)=if cu k' then(⟨R',N',C'.put R' (N'-1),H',k',key',l',v'⟩,w10)else(⟨R',N',C'.put R' (N'-1),H',k',key',0,⟨#[]⟩⟩,w7):=by simp only[eP,a1,a2,a3,a4,a5,a6,a7,a8,a9,a10]
   rw[hf]at hf2;have y7:w7.2=0:=by
    split at hf2
    ·have h10:w10.2=0:=by rw[<-(Prod.mk.inj hf2).2]
     exact dG a8 (dG a9 (fG a10 h10))
    ·rw[<-(Prod.mk.inj hf2).2]
   have y6:=fG a7 y7;have y5:=dG a6 y6;have y4:=bM a5 y5;have y3:w3.2=0:=lQ (bs:=bs) (r:=R') 5 (by have h:(dO bs R' w3).2.2=0:=(by rw[a4];exact y4);exact h);have y2:=bM a3 y3;have y1:=dG a2 y2;rw[bK a1 y1]at e1;obtain⟨rfl,rfl⟩:=Prod.mk.inj e1;rw[bK a2 y2]at e2;obtain⟨rfl,rfl⟩:=Prod.mk.inj e2;exact absurd (fC (bK a2 y2) y2).2 hR
theorem XZ(bs:List UInt8)(hl:bs.length<=1000000000):∃p,zy bs p:=by
 obtain⟨⟨k,s1⟩,e1⟩:∃p,iG bs 1 5 (0,0)=p:=⟨_,rfl⟩;have q0:((0,0):Sq).1<=bs.length:=Nat.zero_le _;obtain⟨q1,g1⟩:=dZ e1 q0;obtain⟨⟨R,s2⟩,e2⟩:∃p,iG bs 0 4 s1=p:=⟨_,rfl⟩;obtain⟨q2,g2⟩:=dZ e2 q1;obtain⟨⟨N,s3⟩,e3⟩:∃p,iR bs 1 1048576 s2=p:=⟨_,rfl⟩;obtain⟨q3,g3⟩:=eF e3 q2 (by omega) (by omega);by_cases hR:0<=R/\R<=4
 ·rcases(show R=0\/R=1\/R=2\/R=3\/R=4 by omega)with h|h|h|h|h
  ·exact abf bs hl e1 g1 q0 q1 e2 g2 q2 e3 g3 q3 h
  ·exact abg bs hl e1 g1 q0 q1 e2 g2 q2 e3 g3 q3 h
  ·exact abh bs hl e1 g1 q0 q1 e2 g2 q2 e3 g3 q3 h
  ·exact abj bs hl e1 g1 q0 q1 e2 g2 q2 e3 g3 q3 h
  ·exact abk bs hl e1 g1 q0 q1 e2 g2 q2 e3 g3 q3 h
 ·exact abl bs hl e1 g1 q0 q1 e2 g2 q2 e3 g3 q3 hR
theorem bI.acp{xs ys:List AV}(h:Ch xs ys):bI (.bJ xs) (.bJ ys):=λ _ _ ⟨us,e,ha⟩=>⟨us,e,h.all ha⟩
theorem X0(m:List UInt8)(hF:aS F (dF m))(hn:n=(dF m).length)(hl:m.length<=1000000000):
  aC Tryz.prog 87 [.sl 1 n true F] (.bJ [.sl 1 m.length true (aG m),.v (.bool true)]) []:=by
 refine aC.args (bvs:=[.sl 1 (dF m).length true (aG (dF m))]) ?_ (.of (λ X u hu=>bI.lH (sc:=true) hF hn X u hu) .nil);have hlen:=bP m;have htk:(dF m).take m.length=m:=by simp[dF]
 have hFm:aS (aG (dF m)) m:=λ i hi=>by have:=(aS.bytes (dF m)).take m.length i;rw[htk]at this;exact this hi
 have hs:∀d{n:Nat}(_:n=m.length),_:=λ d {n} hn=>jU d (n:=n) m hFm hn hl;generalize dF m=S at hlen hFm hs;refine K1.E 0x8001d Tryz.func87 ?_;repeat' ((conv=>whnf);first|refine K1.u ?_|refine K1.F1 (hs _ (by omega)) ?_ rfl rfl|refine Bs.of S (aS.bytes _) rfl ?_|refine lD.yes rfl ?_|refine aO.dW ?_|refine K1.o (id:=2) (nN [0,1,2,3,4,5,8,9] ((6,some [1])::nN [7,10,11] [])) ?_|refine K1.z ?_|refine K1.y (λ _=>?_) (λ _=>?_)|fail)
 conv=>whnf
 exact aW.mk (bI.acp (.lH (l:=[]++m) (aS.app (aS.nil _) hFm rfl) (by simp;omega) (.same .nil)))
theorem X3(l:List UInt8)(h:¬nV l)(hF:aS F l)(hn:n=l.length)(hl:l.length<=1000000000):
  aC Tryz.prog 87 [.sl 1 n true F] (.bJ [.v (.slice none 0 0),.v (.bool false)]) []:=by
 refine aC.args (bvs:=[.sl 1 l.length true (aG l)]) ?_ (.of (λ X u hu=>bI.lH (sc:=true) hF hn X u hu) .nil);have hs:∀d{n:Nat}(_:n=(l.take (l.length-4)).length),_:=λ d {n} hn=>jU d (n:=n) (l.take (l.length-4)) ((aS.bytes l).take _) hn (by rw[List.length_take];omega);have hne:4<=l.length-> ¬ (⟨(dF (l.take (l.length-4))).toArray⟩:ByteArray)=⟨l.toArray⟩:=λ h4=>J5 λ e=>h ⟨h4,e.symm⟩;generalize dF (l.take (l.length-4))=S at hs hne;refine K1.E 0x8001d Tryz.func87 ?_;repeat' ((conv=>whnf);first|refine K1.u ?_|refine K1.F1 (hs _ (by rw[List.length_take];omega)) ?_ rfl rfl|refine Bs.of S (aS.bytes _) rfl ?_|refine Bs.of l (aS.bytes _) rfl ?_|refine lD.no (hne (by omega)) ?_|refine aO.dW ?_|refine K1.o (id:=2) (nN [0,1,2,3,4,5,8,9] ((6,some [1])::nN [7,10,11] [])) ?_|refine K1.z ?_|refine K1.y (λ _=>?_) (λ _=>?_)|fail)
 all_goals(conv=>whnf)
 all_goals exact aW.mk (aP)
def Cc(P:List UInt8->Ev×Nat×Int)(b:List UInt8):Nat->List Ev×Nat
 |0=>([],3)
 |j+1=>((Cc P b j).1++[(P (b.drop (Cc P b j).2)).1],(Cc P b j).2+(P (b.drop (Cc P b j).2)).2.1)
def abn(P:List UInt8->Ev×Nat×Int):Prop:= ∀bs,bs.length<=1000000000->zy bs (P bs)
theorem ZO:∃P,abn P:=by
 obtain⟨P,hP⟩:=Classical.axiomOfChoice (r:=λ(bs:List UInt8) (p:Ev×Nat×Int)=>bs.length<=1000000000->zy bs p) (λ bs=>by
  by_cases h:bs.length<=1000000000
  ·obtain⟨p,hp⟩:=XZ bs h;exact⟨p,λ _=>hp⟩
  ·exact⟨(yT,0,0),λ h'=>absurd h' h⟩)
 exact⟨P,hP⟩
theorem Rt(P:List UInt8->Ev×Nat×Int)(b:List UInt8):∀j,(Cc P b j).1.length=j
 |0=>rfl
 |j+1=>by
  show((Cc P b j).1++[_]).length=_;rw[List.length_append,Rt P b j];rfl
theorem X4{P:List UInt8->Ev×Nat×Int}(hP:abn P){b:List UInt8}(hl:b.length<=1000000000)(h3:3<=b.length):∀j,(Cc P b j).2<=b.length
 |0=>h3
 |j+1=>by
  have ih:=X4 hP hl h3 j;have:=(hP (b.drop (Cc P b j).2) (by rw[List.length_drop];omega)).2.1;rw[List.length_drop]at this;show(Cc P b j).2+_<=_;omega
theorem Ru{P:List UInt8->Ev×Nat×Int}(hP:abn P){b:List UInt8}(hl:b.length<=1000000000){x y z:UInt8}(l:List Ev)(h:∀e∈l,fH e=0)(hb:b=x::y::z::dJ l):∀j,j<=l.length->Cc P b j=(l.take j,3+(dJ (l.take j)).length)
 |0,_=>by simp[Cc,dJ]
 |j+1,hj=>by
  have ih:=Ru hP hl l h hb j (by omega);have hlt:j<l.length:=by omega
  have e0:l.drop j=l.getD j default::l.drop (j+1):=by rw[List.getD,List.getElem?_eq_getElem hlt];exact List.drop_eq_getElem_cons hlt
  have e2:dJ l=dJ (l.take j)++(dK (l.getD j default)++dJ (l.drop (j+1))):=by
   have:dJ l=dJ (l.take j)++dJ (l.drop j):=by
    show _=List.flatMap dK _++List.flatMap dK _;rw[<-List.flatMap_append,List.take_append_drop];rfl
   rw[this,e0];rfl
  have e1:b.drop (3+(dJ (l.take j)).length)=dK (l.getD j default)++dJ (l.drop (j+1)):=by
   rw[hb,<-List.drop_drop];show(dJ l).drop _=_;rw[e2,List.drop_left]
  have hm:fH (l.getD j default)=0:=by rw[List.getD,List.getElem?_eq_getElem hlt];exact h _ (List.getElem_mem _)
  have hp:=(hP (b.drop (3+(dJ (l.take j)).length)) (by rw[List.length_drop];omega)).2.2 (l.getD j default) (dK (l.getD j default)).length (by rw[e1];exact Ip _ hm _);show((Cc P b j).1++[(P (b.drop (Cc P b j).2)).1],(Cc P b j).2+(P (b.drop (Cc P b j).2)).2.1)=_;rw[ih];dsimp only;rw[hp,nX hlt,List.length_append];congr 1
  ·rw[List.getD,List.getElem?_eq_getElem hlt];exact List.take_append_getElem hlt
  ·dsimp only;omega
def P7(b:List UInt8)(f:Rc):Prop:=
 aC Tryz.prog 89 [.sl 1 b.length true (aG b)] f.av []/\f.ev.length<=21/\ ∀z,iC z=true->b=fK z->f=z
theorem tZ(z:Rc)(h:iC z=true):((fK z).getD 0 default).toNat=z.k/\((fK z).getD 1 default).toNat=z.r/\2<=(fK z).length:=by
 have m:=iP h;have e:fK z=byteOf z.k::byteOf z.r::((if uY z.k then UInt8.ofNat z.ev.length::dJ z.ev else [])++(if vC z.k then gu z.u else [])++(if vF z.k then vw z.c else [])):=by simp[fK]
 rw[e];have:=m.k;have:=m.r;exact⟨jr (by omega) (by omega),jr (by omega) (by omega),by simp⟩
theorem P8(b:List UInt8)(h:b.length<2):P7 b Gs:=by
 refine⟨?_,by simp[Gs],λ z hz hb=>absurd (tZ z hz).2.2 (by rw[<-hb];omega)⟩;dsimp only[Rc.av,Rc.cs,Gs,aJ];refine K1.E 0x40002000022000c004773d Tryz.func89 ?_;repeat' ((conv=>whnf);first|refine K1.u ?_|refine aO.dW ?_|refine K1.o (id:=3) (nN [0,1,2,3,4,5,6,7,8] [(9,some []),(10,some [7,6,3,2])]) ?_|refine K1.z ?_|refine K1.y (λ _=>?_) (λ _=>?_)|fail)
 all_goals(conv=>whnf)
 all_goals exact aW.mk (bI.pF _)
theorem P9(b:List UInt8)(hu:2<=b.length)(hk0:((b.getD 0 default).toNat:Int)=k)(hr0:((b.getD 1 default).toNat:Int)=r)(hk:¬ (1<=k/\k<=5)):P7 b ⟨k,r,0,aJ,[]⟩:=by
 refine⟨?_,by simp,λ z hz hb=>absurd (iP hz).k (by have:=(tZ z hz).1;rw[<-hb]at this;omega)⟩;subst hk0 hr0;have hk':¬ (1<=((b.getD (Int.toNat 0) default).toNat:Int)/\((b.getD (Int.toNat 0) default).toNat:Int)<=5):=hk;dsimp only[Rc.av,Rc.cs,aJ];refine K1.E 0x40002000022000c004773d Tryz.func89 ?_;repeat' ((conv=>whnf);first|refine K1.u ?_|refine aO.dW ?_|refine K1.o (id:=3) (nN [0,1,2,3,4,5,6,7,8] [(9,some []),(10,some [7,6,3,2])]) ?_|refine K1.z ?_|refine K1.y (λ _=>?_) (λ _=>?_)|fail)
 all_goals(conv=>whnf)
 all_goals exact aW.mk (bI.pF _)
theorem abo(b:List UInt8)(hl:b.length<=1000000000)(hu:2<=b.length)(hk0:((b.getD 0 default).toNat:Int)=k)(hr0:((b.getD 1 default).toNat:Int)=r)(hk:k=2):∃f,P7 b f:=by
 have hs:=uS (n:=b.length-2) (b.drop 2) ((aS.bytes b).drop 2) (by simp) (by simp;omega);obtain⟨⟨n,j,x⟩,ht⟩:∃p,jf (b.drop 2)=p:=⟨_,rfl⟩;rw[ht]at hs;dsimp only at hs;refine⟨⟨k,r,((n%2097152:Nat):Int),aJ,[]⟩, ?_,by simp,λ z hz hb=>?_⟩
 ·subst hk0 hr0;have hk':((b.getD (Int.toNat 0) default).toNat:Int)=2:=hk;dsimp only[Rc.av,Rc.cs,aJ];refine K1.E 0x40002000022000c004773d Tryz.func89 ?_;repeat' ((conv=>whnf);first|refine K1.u ?_|refine K1.P1 hs ?_|refine aO.dW ?_|refine K1.o (id:=3) (nN [0,1,2,3,4,5,6,7,8] [(9,some []),(10,some [7,6,3,2])]) ?_|refine K1.z ?_|refine K1.y (λ _=>?_) (λ _=>?_)|fail)
  all_goals(conv=>whnf)
  all_goals exact aW.mk (bI.pF _)
 ·have m:=iP hz;obtain⟨b0,b1,b2⟩:=tZ z hz;rw[<-hb,hk0]at b0;rw[<-hb,hr0]at b1;obtain⟨zk,zr,zu,zc,Yx⟩:=z;obtain⟨mk,mr,mu,nY,nH,me0,mc,ml,Aq,uj⟩:=m;dsimp only at b0 b1 mu nH me0 hb nY;subst b0 b1;subst hk;have me0:Yx.length=0:=me0.resolve_left (by decide);have nH:zc=aJ:=nH.resolve_left (by decide);obtain⟨un,rfl,hun⟩:=dR mu;have hd:b.drop 2=ak un++[]:=by rw[hb];simp[fK,uY,vC,vF,jF]
  rw[hd,lZ un [] (by omega)]at ht;cases ht;rw[List.eq_nil_of_length_eq_zero me0,nH,Nat.mod_eq_of_lt (by omega)]
theorem abp(b:List UInt8)(hl:b.length<=1000000000)(hu:2<=b.length)(hk0:((b.getD 0 default).toNat:Int)=k)(hr0:((b.getD 1 default).toNat:Int)=r)(hk:k=3\/k=5):∃f,P7 b f:=by
 have hs:=λ(a:Nat) {n:Nat} (hn:n=b.length-a)=>uS (n:=n) (b.drop a) ((aS.bytes b).drop a) (by rw[List.length_drop];exact hn) (by rw[List.length_drop];omega);have hle:=λ a=>AZ (b.drop a);simp only[List.length_drop]at hle;obtain⟨⟨n0,j0,x0⟩,t0⟩:∃p,jf (b.drop 2)=p:=⟨_,rfl⟩;have h0:=λ{n} hn=>hs 2 (n:=n) hn;have l0:=hle 2;rw[t0]at h0 l0;obtain⟨⟨n1,j1,x1⟩,t1⟩:∃p,jf (b.drop (2+j0))=p:=⟨_,rfl⟩;have h1:=λ{n} hn=>hs (2+j0) (n:=n) hn;have l1:=hle (2+j0);rw[t1]at h1 l1;obtain⟨⟨n2,j2,x2⟩,t2⟩:∃p,jf (b.drop (2+j0+j1))=p:=⟨_,rfl⟩;have h2:=λ{n} hn=>hs (2+j0+j1) (n:=n) hn;have l2:=hle (2+j0+j1);rw[t2]at h2 l2;obtain⟨⟨n3,j3,x3⟩,t3⟩:∃p,jf (b.drop (2+j0+j1+j2))=p:=⟨_,rfl⟩;have h3:=λ{n} hn=>hs (2+j0+j1+j2) (n:=n) hn;have l3:=hle (2+j0+j1+j2);rw[t3]at h3 l3;obtain⟨⟨n4,j4,x4⟩,t4⟩:∃p,jf (b.drop (2+j0+j1+j2+j3))=p:=⟨_,rfl⟩;have h4:=λ{n} hn=>hs (2+j0+j1+j2+j3) (n:=n) hn;have l4:=hle (2+j0+j1+j2+j3);rw[t4]at h4 l4;dsimp only at h0 h1 h2 h3 h4 l0 l1 l2 l3 l4;clear hs hle;refine⟨⟨k,r,0,⟨((n0%2097152:Nat):Int),((n1%2097152:Nat):Int),((n2%2097152:Nat):Int),((n3%2097152:Nat):Int),((n4%2097152:Nat):Int)⟩,[]⟩, ?_,by simp,λ z hz hb=>?_⟩
 ·subst hk0 hr0;have hk':((b.getD (Int.toNat 0) default).toNat:Int)=3\/((b.getD (Int.toNat 0) default).toNat:Int)=5:=hk;dsimp only[Rc.av,Rc.cs];refine K1.E 0x40002000022000c004773d Tryz.func89 ?_;repeat' ((conv=>whnf);first|refine K1.u ?_|refine K1.P1 (h0 (by omega)) ?_ rfl rfl|refine K1.P1 (h1 (by omega)) ?_ rfl rfl|refine K1.P1 (h2 (by omega)) ?_ rfl rfl|refine K1.P1 (h3 (by omega)) ?_ rfl rfl|refine K1.P1 (h4 (by omega)) ?_ rfl rfl|refine aK.jA 8 6 rfl ?_|refine aO.dW ?_|refine K1.o (id:=3) (nN [0,1,2,3,4,5,6,7,8] [(9,some []),(10,some [7,6,3,2])]) ?_|refine K1.z ?_|refine K1.y (λ _=>?_) (λ _=>?_)|fail)
  all_goals(conv=>whnf)
  all_goals exact aW.mk (bI.pF _)
 ·have m:=iP hz;obtain⟨b0,b1,b2⟩:=tZ z hz;rw[<-hb,hk0]at b0;rw[<-hb,hr0]at b1;obtain⟨zk,zr,zu,⟨c0,c1,c2,c3,c4⟩,Yx⟩:=z;obtain⟨mk,mr,mu,nY,nH,me0,⟨m0,m1,m2,m3,m4⟩,ml,Aq,uj⟩:=m;dsimp only at b0 b1 mu nY me0 hb m0 m1 m2 m3 m4;subst b0 b1;have me0:Yx.length=0:=me0.resolve_left (by rcases hk with rfl|rfl<;>decide);have nY:zu=0:=nY.resolve_left (by rcases hk with rfl|rfl<;>decide);obtain⟨c0,rfl,hc0⟩:=dR m0;obtain⟨c1,rfl,hc1⟩:=dR m1;obtain⟨c2,rfl,hc2⟩:=dR m2;obtain⟨c3,rfl,hc3⟩:=dR m3;obtain⟨c4,rfl,hc4⟩:=dR m4;have hd:b.drop 2=ak c0++(ak c1++(ak c2++(ak c3++(ak c4++[])))):=by
   rw[hb];rcases hk with rfl|rfl<;>simp[fK,uY,vC,vF,vw,jF]
  rw[hd,lZ c0 _ (by omega)]at t0;simp only[Prod.mk.injEq]at t0;obtain⟨f0,rfl,-⟩:=t0;have d1:b.drop (2+(ak c0).length)=ak c1++(ak c2++(ak c3++(ak c4++[]))):=by rw[<-List.drop_drop,hd,List.drop_left]
  rw[d1,lZ c1 _ (by omega)]at t1;simp only[Prod.mk.injEq]at t1;obtain⟨f1,rfl,-⟩:=t1;have d2:b.drop (2+(ak c0).length+(ak c1).length)=ak c2++(ak c3++(ak c4++[])):=by rw[<-List.drop_drop,d1,List.drop_left]
  rw[d2,lZ c2 _ (by omega)]at t2;simp only[Prod.mk.injEq]at t2;obtain⟨f2,rfl,-⟩:=t2;have d3:b.drop (2+(ak c0).length+(ak c1).length+(ak c2).length)=ak c3++(ak c4++[]):=by rw[<-List.drop_drop,d2,List.drop_left]
  rw[d3,lZ c3 _ (by omega)]at t3;simp only[Prod.mk.injEq]at t3;obtain⟨f3,rfl,-⟩:=t3;have d4:b.drop (2+(ak c0).length+(ak c1).length+(ak c2).length+(ak c3).length)=ak c4++[]:=by rw[<-List.drop_drop,d3,List.drop_left]
  rw[d4,lZ c4 _ (by omega)]at t4;simp only[Prod.mk.injEq]at t4;obtain⟨f4,rfl,-⟩:=t4;rw[<-f0,<-f1,<-f2,<-f3,<-f4,List.eq_nil_of_length_eq_zero me0,nY,Nat.mod_eq_of_lt (show c0<2097152 by omega),Nat.mod_eq_of_lt (show c1<2097152 by omega),Nat.mod_eq_of_lt (show c2<2097152 by omega),Nat.mod_eq_of_lt (show c3<2097152 by omega),Nat.mod_eq_of_lt (show c4<2097152 by omega)]
theorem ZP(b:List UInt8)(hu:b.length=2)(hk0:((b.getD 0 default).toNat:Int)=k)(hr0:((b.getD 1 default).toNat:Int)=r)(hk:k=1\/k=4):P7 b ⟨k,r,0,aJ,[]⟩:=by
 refine⟨?_,by simp,λ z hz hb=>?_⟩
 ·subst hk0 hr0;have hk':((b.getD (Int.toNat 0) default).toNat:Int)=1\/((b.getD (Int.toNat 0) default).toNat:Int)=4:=hk;dsimp only[Rc.av,Rc.cs,aJ];refine K1.E 0x40002000022000c004773d Tryz.func89 ?_;repeat' ((conv=>whnf);first|refine K1.u ?_|refine aK.jA 12 2 rfl ?_|refine aO.dW ?_|refine K1.o (id:=3) (nN [0,1,2,3,4,5,6,7,8] [(9,some []),(10,some [7,6,3,2])]) ?_|refine K1.z ?_|refine K1.y (λ _=>?_) (λ _=>?_)|fail)
  all_goals(conv=>whnf)
  all_goals exact aW.mk (bI.pF _)
 ·exfalso;have b0:=(tZ z hz).1;rw[<-hb,hk0]at b0;have e:=congrArg List.length hb;have hE:uY z.k=true:=by rw[<-b0];rcases hk with rfl|rfl<;>rfl
  simp[fK,hE]at e;omega
theorem abq(b:List UInt8)(hl:b.length<=1000000000)(hu:3<=b.length)(hk0:((b.getD 0 default).toNat:Int)=k)(hr0:((b.getD 1 default).toNat:Int)=r)(hk:k=1\/k=4):∃f,P7 b f:=by
 obtain⟨P,hP⟩:=ZO;obtain⟨c,hc⟩:∃c,c=(b.getD 2 default).toNat:=⟨_,rfl⟩;have hle:=X4 hP hl hu;have hlen:=Rt P b;refine⟨⟨k,r,0,aJ,(Cc P b (min c 21)).1⟩, ?_,by dsimp only;rw[hlen];omega,λ z hz hb=>?_⟩
 ·subst hk0 hr0;have hk':((b.getD (Int.toNat 0) default).toNat:Int)=1\/((b.getD (Int.toNat 0) default).toNat:Int)=4:=hk;dsimp only[Rc.av,Rc.cs,aJ];have hc':((b.getD (Int.toNat 2) default).toNat:Int)=(c:Int):=by rw[hc];rfl
  have hk1:((b.getD (Int.toNat 0) default).toNat:Int)=1\/((b.getD (Int.toNat 0) default).toNat:Int)=4:=hk';clear hk hk';rcases hk1 with hk1|hk1;all_goals
   refine K1.E 0x40002000022000c004773d Tryz.func89 ?_;repeat' ((conv=>whnf);first|refine K1.u ?_|refine aO.dW ?_|refine K1.o (id:=3) (nN [0,1,2,3,4,5,6,7,8] [(9,some []),(10,some [7,6,3,2])]) ?_|refine K1.z ?_|refine K1.y (λ _=>?_) (λ _=>?_)|fail)
   conv=>whnf
   refine aK.mk {j:Nat//j<=c/\j<=21} (λ j=>match j with
    |⟨0,_⟩=>⟨[(0,.sl 1 b.length true (aG b)),(2,.box 0 0),(3,.box 1 0),(4,.v (.int .i64 3)),(12,.v (.int .i64 0))],
     [(0,.box 52 (Pg 0 0 0 0 0 0 0 0 (.v (.slice none 0 0)))),(1,.box 52 (Pg ((b.getD 0 default).toNat:Int) ((b.getD 1 default).toNat:Int) 0 0 0 0 0 0 (.v (.slice none 0 0))))],[],2⟩
    |⟨i+1,_⟩=>⟨[(0,.sl 1 b.length true (aG b)),(2,.box 0 0),(3,.box 1 0),(4,.v (.int .i64 ((Cc P b (i+1)).2:Int))),(12,.v (.int .i64 ((i:Int)+1)))],
     [(0,.box 52 (Pg 0 0 0 0 0 0 0 0 (.v (.slice none 0 0)))),(1,.box 52 (Pg ((b.getD 0 default).toNat:Int) ((b.getD 1 default).toNat:Int) 0 0 0 0 0 0 (.own 90))),(90,.row 84 12 (Cc P b (i+1)).1.length true (jH (Cc P b (i+1)).1))],[],91⟩)
    (λ j=>c-j.1) ⟨0,by omega,by omega⟩ _
    (iw.mk' [] _ _ _ rfl ⟨aP,aP,aP,bI.int rfl,bI.int rfl,trivial⟩ ⟨aY rfl,aY rfl,trivial⟩ rfl) ?_
   rintro⟨_|i,hj,hj21⟩
   ·dsimp only[Pg];have hPb:=hP (b.drop 3) (by rw[List.length_drop];omega);have h1:Cc P b (0+1)=([]++[(P (b.drop 3)).1],3+(P (b.drop 3)).2.1):=rfl;have hP2:=hPb.2.1;rw[List.length_drop]at hP2;have hcall:=hPb.1.args (Ch.lH (n:=b.length-3) ((aS.bytes b).drop 3) (by simp) .nil);unfold qZ at hcall;repeat' ((conv=>whnf);first|refine K1.u ?_|refine K1.P1 hcall ?_|refine aO.dW ?_|refine K1.o (id:=3) (nN [0,1,2,3,4,5,6,7,8] [(9,some []),(10,some [7,6,3,2])]) ?_|refine K1.z ?_|refine K1.y (λ _=>?_) (λ _=>?_)|fail)
    all_goals(conv=>whnf)
    all_goals first
     |(refine⟨⟨0+1,by omega,by omega⟩,_,iw.mk' [(4,90)] _ _ _ rfl ⟨aP,aP,aP,bI.int (by rw[h1];dsimp only;omega),bI.int rfl,trivial⟩ ⟨aY rfl,aY rfl,⟨_,rfl,fP.row (by rw[h1];rfl) (λ m hm=>?_)⟩,trivial⟩ rfl,by show c-(0+1)<c-0;omega⟩
       have hm:m<1:=hm;obtain rfl:m=0:=by omega
       rw[h1];rfl)
     |(rw[show min c 21=0 by omega];exact aW.mk (bI.pF _))
     |(exfalso;omega)
   ·dsimp only[Pg];have hA:=hle (i+1);have hAl:=hlen (i+1);have h1:Cc P b (i+1+1)=((Cc P b (i+1)).1++[(P (b.drop (Cc P b (i+1)).2)).1],(Cc P b (i+1)).2+(P (b.drop (Cc P b (i+1)).2)).2.1):=rfl;generalize hA0:Cc P b (i+1)=A at hA hAl h1⊢;obtain⟨l,at'⟩:=A;dsimp only at hA hAl h1⊢;have hPb:=hP (b.drop at') (by rw[List.length_drop];omega);have hP2:=hPb.2.1;rw[List.length_drop]at hP2;have hcall:=hPb.1.args (Ch.lH (n:=b.length-at') ((aS.bytes b).drop at') (by simp) .nil);unfold qZ at hcall;repeat' ((conv=>whnf);first|refine K1.u ?_|refine K1.P1 hcall ?_|refine aO.dW ?_|refine K1.o (id:=3) (nN [0,1,2,3,4,5,6,7,8] [(9,some []),(10,some [7,6,3,2])]) ?_|refine K1.z ?_|refine K1.y (λ _=>?_) (λ _=>?_)|fail)
    all_goals(conv=>whnf)
    all_goals first
     |(refine⟨⟨i+1+1,by omega,by omega⟩,_,iw.mk' [(93,90)] _ _ _ rfl ⟨aP,aP,aP,bI.int (by rw[h1];dsimp only;omega),bI.int rfl,trivial⟩ ⟨aY rfl,aY rfl,⟨_,rfl,fP.row (by rw[h1,List.length_append];rfl) (λ m hm=>?_)⟩,trivial⟩ rfl,by show c-(i+1+1)<c-(i+1);omega⟩
       show _=jH (Cc P b (i+1+1)).1 m;rw[h1];exact jX (c:=Ev.cs) rfl rfl m hm)
     |(rw[show min c 21=i+1 by omega,hA0];exact aW.mk (aP))
     |(exfalso;omega)
 ·have m:=iP hz;obtain⟨b0,b1,b2⟩:=tZ z hz;rw[<-hb,hk0]at b0;rw[<-hb,hr0]at b1;obtain⟨zk,zr,zu,zc,Yx⟩:=z;obtain⟨mk,mr,mu,nY,nH,me0,mc,ml,Aq,uj⟩:=m;dsimp only at b0 b1 nH nY hb ml uj;subst b0 b1;have nY:zu=0:=nY.resolve_left (by rcases hk with rfl|rfl<;>decide);have nH:zc=aJ:=nH.resolve_left (by rcases hk with rfl|rfl<;>decide);have hd:b=byteOf k::byteOf r::UInt8.ofNat Yx.length::dJ Yx:=by
   rw[hb];rcases hk with rfl|rfl<;>simp[fK,uY,vC,vF]
  have hc2:c=Yx.length:=by rw[hc,hd];exact uZ (by omega)
  have hmin:min c 21=Yx.length:=by omega
  rw[hmin,Ru hP hl Yx (lM (wF uj)) hd Yx.length (Nat.le_refl _),List.take_length,nY,nH]
theorem X5(b:List UInt8)(hl:b.length<=1000000000):∃f,P7 b f:=by
 by_cases h2:b.length<2
 ·exact⟨Gs,P8 b h2⟩
 ·have hu:2<=b.length:=by omega
  obtain⟨k,hk⟩:∃k:Int,((b.getD 0 default).toNat:Int)=k:=⟨_,rfl⟩;obtain⟨r,hr⟩:∃r:Int,((b.getD 1 default).toNat:Int)=r:=⟨_,rfl⟩;by_cases h1:1<=k/\k<=5
  ·rcases(show(k=1\/k=4)\/k=2\/(k=3\/k=5) by omega)with h|h|h
   ·by_cases h3:b.length=2
    ·exact⟨_,ZP b h3 hk hr h⟩
    ·exact abq b hl (by omega) hk hr h
   ·exact abo b hl hu hk hr h
   ·exact abp b hl hu hk hr h
  ·exact⟨_,P9 b hu hk hr h1⟩
end Go.Proofs.YtopfgjgdadnjeaaGreat
