/-
  Contracts of the walk:NdI.
-/
import Derived.Test.YtkimgljckickcaaGreatRa15
import Derived.Test.YtkimgljckickcaaGreatRa29
set_option maxHeartbeats 16000000
set_option maxRecDepth 100000
set_option linter.unusedVariables false
set_option linter.unusedSimpArgs false
namespace Go.Proofs.YtkimgljckickcaaGreat
open Go.RowKit
open Go.Proofs.Tryz
def gq(h:Nd)(e:Ed):Ev:=⟨h.r,h.ic.at h.r+1,h.ic,hgt h.log h.ic,e.k,e.key,e.l,e.v⟩
def zx(h:Nd)(v:Ev):Rc:=⟨1,h.r,0,aV,[v]⟩
structure NdB(h:Nd):Prop where
 r:h.r<5
 ic:∀r,0<=h.ic.at r/\h.ic.at r<=1000000
 pst:∀key,Xo (nO (eqK key) h.log) key
 len:h.log.length<=1000000
 hh:∀e∈h.log,0<=e.h/\e.h<=1000000
 cs:∀x∈qV h.log,x.s0.length<=1000000/\x.s1.length<=1000000
 bs:h.d.bs.length<=100000000
 wl:h.wait.length<=1000000
 sent:0<=h.sent/\h.sent<=1000000
 wn:∀j,0<=(h.wait.getD j default).n/\(h.wait.getD j default).n<=1000000
theorem X3(h:Nd)(e:Ed)(d':Dk)(hB:NdB h)(hu:h.up=true)(hck:nG h.c.l h.c.p (qV h.log) e=0)(hq:(h.wait.length:Int)<h.c.q)(hH:hgt h.log h.ic<=1000001)
  (hm:iE (zx h (gq h e))=true)(hw:iV h.d (ay (zx h (gq h e)))=(d',0))(hd:gI h.ic [gq h e]=([gq h e],[],h.ic.inc h.r))(ha:LZ h.c.q h.sent h.wait (gq h e)=(h.wait++[gq h e],0))
  (hnx:Fe (nO (eqK (gq h e).key) h.log) (gq h e))(hmay:dU (gq h e)=0):
  aj prog 40 [(0,.obs (jQ h))] [.box 0 0,e.av] (.aZ [(gq h e).av,.v (.int .i64 0)]) [(0,.obs (jQ ⟨h.c,h.r,true,d',h.log++[gq h e],h.sent,h.ic.inc h.r,h.held,h.wait++[gq h e]⟩))]:=by
 refine xE (ho:=[]) 15 16 11 12 13 17 ⟨_,_,func40,rfl,rfl⟩ rfl ?_ rfl;have QW:=Ko hB.pst h.log.length hB.len hB.len;have hch:=wU h.c (qV h.log) e (anK (J9 _) hB.len) hB.cs;rw[hck]at hch;have hcl:=lM h.c.h h.ic (xU h.held) (.inr ⟨_,_,rfl⟩);have hcn:=J6 h.ic h.r hB.r (hB.ic _).1;have hlt:h.ic.at h.r<1048576:=by have:=(hB.ic h.r).2;omega
 unfold Y5 at hcn;rw[if_pos hlt,if_pos hlt]at hcn;have hhg:=Ea h.log h.ic (by have:=hB.len;omega) λ e he=>by have:=hB.hh e he;omega
 have hpu:=Ak (zx h (gq h e)) hm (n:=1) (F:=chunk 12 (gq h e).cs) rfl λ i hi=>by
  obtain rfl:i=0:=o_
  rfl
 have hmx:=iJ (zx h (gq h e)) hm;have hdk:=lT h.d d' (ay (zx h (gq h e))) 0 (bg.bytes _) rfl (by have:=hB.bs;omega) o_ hw;generalize ay (zx h (gq h e))=wb at hpu hdk hmx hw;have how:=aex h.c.h h.ic (xU h.held) (.inr ⟨_,_,rfl⟩) (gq h e) hB.ic hd;have had:=UN h.c.q h.c.w h.sent h.wait _ (gq h e) 0 hB.wl (by have:=hB.sent;omega) (λ j=>by have:=hB.wn j;omega) ha;have hap:=QI hnx hmay hB.len h.log.length;rw[if_neg s_,if_neg s_]at how;obtain⟨b1,-,-,b4,-,-,b7,b8,-,-⟩:=hB;clear hm hw hd ha hnx hmay hck;obtain⟨c,r,up,d,log,sent,⟨c0,c1,c2,c3,c4⟩,held,wait⟩:=h;obtain⟨ek,key,lab,val⟩:=e;dsimp only at hu b1 hlt;subst hu;dsimp only[gq,zx,rcA]at*;generalize hgt log ⟨c0,c1,c2,c3,c4⟩=H at*;dsimp only[uQ,ndN,sN,pO,Ae,zh,lZ.av,lZ.cs,Ed.av,Ed.cs,Ev.av,Ev.cs,aS.av,aS.cs,rcA]at*;refine K1.M 0x8000000040000008080021ffb func40 40 ?_;repeat' ((conv=>whnf);first|refine K1.u ?_|refine K1.C 3 [(0,_)] (QW) rfl ?_|refine K1.P1 hch ?_|refine K1.C 1 [(0,_)] (hcl) rfl ?_|refine K1.P1 hcn ?_|refine K1.P1 hhg ?_|refine K1.P1 hpu ?_|refine K1.C 2 [(0,_),(1,_)] (hdk) rfl ?_|refine K1.C 1 [(0,_)] (how) rfl ?_|refine K1.C 2 [(0,_),(1,_)] (had) rfl ?_|refine K1.C 1 [(0,_)] (hap) rfl ?_|(refine mJ.five b1 (λ e=>?_) (λ e=>?_) (λ e=>?_) (λ e=>?_) (λ e=>?_)<;>subst e)|refine K1.I 0x5 func80 ?_|refine K1.I 0x78023 func86 ?_|refine K1.I 0x8207b func83 ?_|refine K1.I 0x85 func116 ?_|refine aI.Au 17 2 rfl ?_|refine K1.o (id:=3) (nN [0,1,2,3,4,5,6,7,9] [(8,some [7,5]),(10,some [7,5,9,3,1]),(11,none)]) ?_|refine K1.o (id:=10) (nN [0,1,2,3,4] [(5,some [4,3,1]),(6,none)]) ?_|refine K1.o (id:=13) (nN [0,1,2,3,4,5,6,7,8,9,10,11,12,13,14,15,16,17,18,19,20] [(21,some []),(22,some [19,17,15,13,10,9,7,5,3,1])]) ?_|refine K1.o (id:=14) (nN [0,1,2,3,4,5] [(6,some [5]),(7,none),(8,some [5,4,2]),(9,none)]) ?_|refine K1.o (id:=17) (nN [0,1,2,3,4] [(5,some [4,3,1])]) ?_|refine K1.o (id:=18) (nN [0,1,2,3,4] [(5,some [4,3,1])]) ?_|refine K1.o (id:=4) (nN [0,1,2,3,4] [(5,some [4,3,1])]) ?_|refine fU.lex 70 bU (dS bU _) iy (by kernel_rfl) ?_|refine Both.mk ?_ ?_|exact LeC.mk rfl rfl rfl rfl rfl|fail)
 all_goals(conv=>whnf)
 all_goals exact⟨[(49,15),(53,16),(51,17)],rfl,rfl,⟨dB rfl,dB rfl,⟨_,rfl,(by simp only[am0,List.length_singleton];exact dK.refl _)⟩,dB rfl,dB rfl,dB rfl,⟨_,rfl,dK.row s_ λ m hm=>eF (c:=Ev.cs) (l:=log) rfl rfl m hm⟩,dB rfl,trivial⟩,rfl,rfl,bY⟩
end Go.Proofs.YtkimgljckickcaaGreat
