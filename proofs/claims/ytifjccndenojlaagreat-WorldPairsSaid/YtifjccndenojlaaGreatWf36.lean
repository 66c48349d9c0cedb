/-
  Contracts of the walk:NdJ.
-/
import Derived.Test.YtifjccndenojlaaGreatWf34
set_option maxHeartbeats 16000000
set_option maxRecDepth 100000
set_option linter.unusedVariables false
set_option linter.unusedSimpArgs false
namespace Go.Proofs.YtifjccndenojlaaGreat
open Go.RowKit
open Go.Proofs.Tryz
def evZ:Ev:=⟨0,0,aW,0,0,⟨#[]⟩,0,⟨#[]⟩⟩
theorem Zr(h:Nd)(e:Ed)(hB:NdB h)(hu:h.up=true)(x:Int)(hck:nO h.c.l h.c.p (pz h.log) e=x)(hx:x≠0):
  aj prog 26 [(0,.obs (kC h))] [.box 0 0,e.av] (.bI [evZ.av,.v (.int .i64 x)]) [(0,.obs (kC h))]:=by
 refine iE (ho:=[]) ⟨_,_,func26,rfl,rfl⟩ ?_ rfl;have Tc:=LH hB.pst h.log.length hB.len hB.len;have hch:=xK h.c (pz h.log) e (ao7 (LG _) hB.len) hB.cs;rw[hck]at hch;clear hck hB;obtain⟨c,r,up,d,log,sent,ic,held,wait⟩:=h;obtain⟨ek,key,lab,val⟩:=e;dsimp only at hu;subst hu;dsimp only[wM,tV,kR.av,kR.cs,Ed.av,Ed.cs,Ev.av,Ev.cs,evZ,aW,List.append_nil]at*;refine K1.M 0x8000000040000008080021ffb func26 40 ?_;repeat' ((conv=>whnf);first|refine K1.b ?_|refine K1.d ?_|refine K1.C 3 [(0,_)] (Tc) rfl ?_|refine K1.P1 hch ?_|refine K1.o (id:=3) (nN [0,1,2,3,4,5,6,7,9] [(8,some [7,5]),(10,some [7,5,9,3,1]),(11,none)]) ?_|fail)
 all_goals(conv=>whnf)
 exact⟨[],rfl,rfl,⟨ay rfl,ay rfl,ay rfl,ay rfl,ay rfl,ay rfl,ay rfl,ay rfl,trivial⟩,rfl,rfl,au⟩
theorem TA(h:Nd)(e:Ed)(hB:NdB h)(hu:h.up=true)(hck:nO h.c.l h.c.p (pz h.log) e=0)(hq:¬ (h.wait.length:Int)<h.c.q):
  aj prog 26 [(0,.obs (kC h))] [.box 0 0,e.av] (.bI [evZ.av,.v (.int .i64 17)]) [(0,.obs (kC h))]:=by
 refine iE (ho:=[]) ⟨_,_,func26,rfl,rfl⟩ ?_ rfl;have Tc:=LH hB.pst h.log.length hB.len hB.len;have hch:=xK h.c (pz h.log) e (ao7 (LG _) hB.len) hB.cs;rw[hck]at hch;have b8:=hB.wl;clear hck hB;obtain⟨c,r,up,d,log,sent,ic,held,wait⟩:=h;obtain⟨ek,key,lab,val⟩:=e;dsimp only at hu;subst hu;dsimp only[wM,tV,zV,kR.av,kR.cs,Ed.av,Ed.cs,Ev.av,Ev.cs,evZ,aW,List.append_nil]at*;refine K1.M 0x8000000040000008080021ffb func26 40 ?_;repeat' ((conv=>whnf);first|refine K1.a ?_|refine K1.b ?_|refine K1.d ?_|refine K1.C 3 [(0,_)] (Tc) rfl ?_|refine K1.P1 hch ?_|refine K1.I 0x5 func46 ?_|refine K1.o (id:=3) (nN [0,1,2,3,4,5,6,7,9] [(8,some [7,5]),(10,some [7,5,9,3,1]),(11,none)]) ?_|refine fO.lex 70 bQ (dM bQ _) fG (by kernel_rfl) ?_|refine Both.mk ?_ ?_|exact LeC.mk rfl rfl rfl rfl rfl|fail)
 all_goals(conv=>whnf)
 exact⟨[],rfl,rfl,⟨ay rfl,ay rfl,ay rfl,ay rfl,ay rfl,ay rfl,ay rfl,ay rfl,trivial⟩,rfl,rfl,au⟩
theorem TB(h:Nd)(e:Ed)(d':Dk)(y:Int)(hy:y≠0)(hB:NdB h)(hu:h.up=true)(hck:nO h.c.l h.c.p (pz h.log) e=0)(hq:(h.wait.length:Int)<h.c.q)(hH:hgt h.log h.ic<=1000001)
  (hm:iH (Ae h (gJ h e))=true)(hw:jd h.d (aB (Ae h (gJ h e)))=(d',y)):
  aj prog 26 [(0,.obs (kC h))] [.box 0 0,e.av] (.bI [evZ.av,.v (.int .i64 18)]) [(0,.obs (kC ⟨h.c,h.r,false,d',h.log,h.sent,h.ic,h.held,h.wait⟩))]:=by
 refine yg (ho:=[]) 15 10 11 12 13 14 ⟨_,_,func26,rfl,rfl⟩ rfl ?_ rfl;have Tc:=LH hB.pst h.log.length hB.len hB.len;have hch:=xK h.c (pz h.log) e (ao7 (LG _) hB.len) hB.cs;rw[hck]at hch;have hcl:=l7 h.c.h h.ic (yG h.held) (.inr ⟨_,_,rfl⟩);have hcn:=Ls h.ic h.r hB.r (hB.ic _).1;have hlt:h.ic.at h.r<1048576:=by have:=(hB.ic h.r).2;omega
 unfold aaz at hcn;rw[if_pos hlt,if_pos hlt]at hcn;have hhg:=EM h.log h.ic (by have:=hB.len;omega) λ e he=>by have:=hB.hh e he;omega
 have hpu:=Bv (Ae h (gJ h e)) hm (n:=1) (F:=chunk 12 (gJ h e).cs) rfl λ i hi=>by
  obtain rfl:i=0:=o_
  rfl
 have hmx:=iP (Ae h (gJ h e)) hm;have hdk:=mF h.d d' (aB (Ae h (gJ h e))) y (bG.bytes _) rfl (by have:=hB.bs;omega) o_ hw;generalize aB (Ae h (gJ h e))=wb at hpu hdk hmx hw;obtain⟨b1,-,-,b4,-,-,b7,b8,-,-⟩:=hB;clear hm hw hck;obtain⟨c,r,up,d,log,sent,⟨c0,c1,c2,c3,c4⟩,held,wait⟩:=h;obtain⟨ek,key,lab,val⟩:=e;dsimp only at hu b1 hlt;subst hu;dsimp only[gJ,Ae,rcA,evZ,aW]at*;generalize hgt log ⟨c0,c1,c2,c3,c4⟩=H at*;dsimp only[wM,ndN,tV,pG,Bg,zV,kR.av,kR.cs,Ed.av,Ed.cs,Ev.av,Ev.cs,aV.av,aV.cs,rcA]at*;refine K1.M 0x8000000040000008080021ffb func26 40 ?_;repeat' ((conv=>whnf);first|refine K1.a ?_|refine K1.b ?_|refine K1.d ?_|refine K1.C 3 [(0,_)] (Tc) rfl ?_|refine K1.P1 hch ?_|refine K1.C 1 [(0,_)] (hcl) rfl ?_|refine K1.P1 hcn ?_|refine K1.P1 hhg ?_|refine K1.P1 hpu ?_|refine K1.C 2 [(0,_),(1,_)] (hdk) rfl ?_|(refine nV.five b1 (λ e=>?_) (λ e=>?_) (λ e=>?_) (λ e=>?_) (λ e=>?_)<;>subst e)|refine K1.I 0x5 func46 ?_|refine K1.I 0x8207b func50 ?_|refine K1.I 0x85 func67 ?_|refine K1.o (id:=3) (nN [0,1,2,3,4,5,6,7,9] [(8,some [7,5]),(10,some [7,5,9,3,1]),(11,none)]) ?_|refine K1.o (id:=10) (nN [0,1,2,3,4] [(5,some [4,3,1]),(6,none)]) ?_|refine K1.o (id:=13) (nN [0,1,2,3,4,5,6,7,8,9,10,11,12,13,14,15,16,17,18,19,20] [(21,some []),(22,some [19,17,15,13,10,9,7,5,3,1])]) ?_|refine K1.o (id:=14) (nN [0,1,2,3,4,5] [(6,some [5]),(7,none),(8,some [5,4,2]),(9,none)]) ?_|refine fO.lex 70 bQ (dM bQ _) fG (by kernel_rfl) ?_|refine Both.mk ?_ ?_|exact LeC.mk rfl rfl rfl rfl rfl|fail)
 all_goals(conv=>whnf)
 all_goals exact⟨[(49,15)],rfl,rfl,⟨ay rfl,ay rfl,ay rfl,ay rfl,ay rfl,ay rfl,ay rfl,ay rfl,trivial⟩,rfl,rfl,au⟩
end Go.Proofs.YtifjccndenojlaaGreat
