/-
  Contracts of the walk:NdJ.
-/
import Derived.Test.YtkimgljckickcaaGreatRa32
set_option maxHeartbeats 16000000
set_option maxRecDepth 100000
set_option linter.unusedVariables false
set_option linter.unusedSimpArgs false
namespace Go.Proofs.YtkimgljckickcaaGreat
open Go.RowKit
open Go.Proofs.Tryz
def Zz:Ev:=⟨0,0,aV,0,0,⟨#[]⟩,0,⟨#[]⟩⟩
theorem Yc(h:Nd)(e:Ed)(hB:NdB h)(hu:h.up=true)(x:Int)(hck:nG h.c.l h.c.p (qV h.log) e=x)(hx:x≠0):
  aj prog 40 [(0,.obs (jQ h))] [.box 0 0,e.av] (.aZ [Zz.av,.v (.int .i64 x)]) [(0,.obs (jQ h))]:=by
 refine gK (ho:=[]) ⟨_,_,func40,rfl,rfl⟩ ?_ rfl;have QW:=Ko hB.pst h.log.length hB.len hB.len;have hch:=wU h.c (qV h.log) e (anK (J9 _) hB.len) hB.cs;rw[hck]at hch;clear hck hB;obtain⟨c,r,up,d,log,sent,ic,held,wait⟩:=h;obtain⟨ek,key,lab,val⟩:=e;dsimp only at hu;subst hu;dsimp only[uQ,sN,lZ.av,lZ.cs,Ed.av,Ed.cs,Ev.av,Ev.cs,Zz,aV,List.append_nil]at*;refine K1.M 0x8000000040000008080021ffb func40 40 ?_;repeat' ((conv=>whnf);first|refine K1.b ?_|refine K1.d ?_|refine K1.C 3 [(0,_)] (QW) rfl ?_|refine K1.P1 hch ?_|refine K1.o (id:=3) (nN [0,1,2,3,4,5,6,7,9] [(8,some [7,5]),(10,some [7,5,9,3,1]),(11,none)]) ?_|fail)
 all_goals(conv=>whnf)
 exact iF []
theorem Rj(h:Nd)(e:Ed)(hB:NdB h)(hu:h.up=true)(hck:nG h.c.l h.c.p (qV h.log) e=0)(hq:¬ (h.wait.length:Int)<h.c.q):
  aj prog 40 [(0,.obs (jQ h))] [.box 0 0,e.av] (.aZ [Zz.av,.v (.int .i64 17)]) [(0,.obs (jQ h))]:=by
 refine gK (ho:=[]) ⟨_,_,func40,rfl,rfl⟩ ?_ rfl;have QW:=Ko hB.pst h.log.length hB.len hB.len;have hch:=wU h.c (qV h.log) e (anK (J9 _) hB.len) hB.cs;rw[hck]at hch;have b8:=hB.wl;clear hck hB;obtain⟨c,r,up,d,log,sent,ic,held,wait⟩:=h;obtain⟨ek,key,lab,val⟩:=e;dsimp only at hu;subst hu;dsimp only[uQ,sN,zh,lZ.av,lZ.cs,Ed.av,Ed.cs,Ev.av,Ev.cs,Zz,aV,List.append_nil]at*;refine K1.M 0x8000000040000008080021ffb func40 40 ?_;repeat' ((conv=>whnf);first|refine K1.a ?_|refine K1.b ?_|refine K1.d ?_|refine K1.C 3 [(0,_)] (QW) rfl ?_|refine K1.P1 hch ?_|refine K1.I 0x5 func80 ?_|refine K1.o (id:=3) (nN [0,1,2,3,4,5,6,7,9] [(8,some [7,5]),(10,some [7,5,9,3,1]),(11,none)]) ?_|refine fU.lex 70 bU (dS bU _) iy (by kernel_rfl) ?_|refine Both.mk ?_ ?_|exact LeC.mk rfl rfl rfl rfl rfl|fail)
 all_goals(conv=>whnf)
 exact iF []
theorem Rk(h:Nd)(e:Ed)(d':Dk)(y:Int)(hy:y≠0)(hB:NdB h)(hu:h.up=true)(hck:nG h.c.l h.c.p (qV h.log) e=0)(hq:(h.wait.length:Int)<h.c.q)(hH:hgt h.log h.ic<=1000001)
  (hm:iE (zx h (gq h e))=true)(hw:iV h.d (ay (zx h (gq h e)))=(d',y)):
  aj prog 40 [(0,.obs (jQ h))] [.box 0 0,e.av] (.aZ [Zz.av,.v (.int .i64 18)]) [(0,.obs (jQ ⟨h.c,h.r,false,d',h.log,h.sent,h.ic,h.held,h.wait⟩))]:=by
 refine xE (ho:=[]) 15 10 11 12 13 14 ⟨_,_,func40,rfl,rfl⟩ rfl ?_ rfl;have QW:=Ko hB.pst h.log.length hB.len hB.len;have hch:=wU h.c (qV h.log) e (anK (J9 _) hB.len) hB.cs;rw[hck]at hch;have hcl:=lM h.c.h h.ic (xU h.held) (.inr ⟨_,_,rfl⟩);have hcn:=J6 h.ic h.r hB.r (hB.ic _).1;have hlt:h.ic.at h.r<1048576:=by have:=(hB.ic h.r).2;omega
 unfold Y5 at hcn;rw[if_pos hlt,if_pos hlt]at hcn;have hhg:=Ea h.log h.ic (by have:=hB.len;omega) λ e he=>by have:=hB.hh e he;omega
 have hpu:=Ak (zx h (gq h e)) hm (n:=1) (F:=chunk 12 (gq h e).cs) rfl λ i hi=>by
  obtain rfl:i=0:=o_
  rfl
 have hmx:=iJ (zx h (gq h e)) hm;have hdk:=lT h.d d' (ay (zx h (gq h e))) y (bg.bytes _) rfl (by have:=hB.bs;omega) o_ hw;generalize ay (zx h (gq h e))=wb at hpu hdk hmx hw;obtain⟨b1,-,-,b4,-,-,b7,b8,-,-⟩:=hB;clear hm hw hck;obtain⟨c,r,up,d,log,sent,⟨c0,c1,c2,c3,c4⟩,held,wait⟩:=h;obtain⟨ek,key,lab,val⟩:=e;dsimp only at hu b1 hlt;subst hu;dsimp only[gq,zx,rcA,Zz,aV]at*;generalize hgt log ⟨c0,c1,c2,c3,c4⟩=H at*;dsimp only[uQ,ndN,sN,pO,Ae,zh,lZ.av,lZ.cs,Ed.av,Ed.cs,Ev.av,Ev.cs,aS.av,aS.cs,rcA]at*;refine K1.M 0x8000000040000008080021ffb func40 40 ?_;repeat' ((conv=>whnf);first|refine K1.a ?_|refine K1.b ?_|refine K1.d ?_|refine K1.C 3 [(0,_)] (QW) rfl ?_|refine K1.P1 hch ?_|refine K1.C 1 [(0,_)] (hcl) rfl ?_|refine K1.P1 hcn ?_|refine K1.P1 hhg ?_|refine K1.P1 hpu ?_|refine K1.C 2 [(0,_),(1,_)] (hdk) rfl ?_|(refine mJ.five b1 (λ e=>?_) (λ e=>?_) (λ e=>?_) (λ e=>?_) (λ e=>?_)<;>subst e)|refine K1.I 0x5 func80 ?_|refine K1.I 0x8207b func83 ?_|refine K1.I 0x85 func116 ?_|refine K1.o (id:=3) (nN [0,1,2,3,4,5,6,7,9] [(8,some [7,5]),(10,some [7,5,9,3,1]),(11,none)]) ?_|refine K1.o (id:=10) (nN [0,1,2,3,4] [(5,some [4,3,1]),(6,none)]) ?_|refine K1.o (id:=13) (nN [0,1,2,3,4,5,6,7,8,9,10,11,12,13,14,15,16,17,18,19,20] [(21,some []),(22,some [19,17,15,13,10,9,7,5,3,1])]) ?_|refine K1.o (id:=14) (nN [0,1,2,3,4,5] [(6,some [5]),(7,none),(8,some [5,4,2]),(9,none)]) ?_|refine fU.lex 70 bU (dS bU _) iy (by kernel_rfl) ?_|refine Both.mk ?_ ?_|exact LeC.mk rfl rfl rfl rfl rfl|fail)
 all_goals(conv=>whnf)
 all_goals exact iF [(49,15)]
end Go.Proofs.YtkimgljckickcaaGreat
