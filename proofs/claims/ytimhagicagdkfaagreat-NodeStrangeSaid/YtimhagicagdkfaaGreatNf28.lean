/-
  Contracts of the walk:FrmF,FrmG,FrW,NdV,RefA.
-/
import Derived.Test.YtimhagicagdkfaaGreatNf14
import Derived.Test.YtimhagicagdkfaaGreatNf27
import Derived.Test.YtimhagicagdkfaaGreatNf25
import Derived.Test.YtimhagicagdkfaaGreatNf13
set_option linter.unusedVariables false
set_option linter.unusedSimpArgs false
set_option maxHeartbeats 16000000
set_option maxRecDepth 100000
namespace Go.Proofs.YtimhagicagdkfaaGreat
section
open Go.RowKit
def ig (r:Int) (e:Ev):Ev:=⟨r,e.n,(e.c.put e.r 0).put r (e.n-1),e.h,e.k,e.key,e.l,e.v⟩
def Iy (x:Rc):Rc:=
 if 1+m5 x.k=2 then⟨2,m5 x.r,lU x.u 1048575,dX,[]⟩
 else if 1+m5 x.k=3∨1+m5 x.k=5 then⟨1+m5 x.k,m5 x.r,0,acJ x.c,[]⟩
 else if 1+m5 x.k=1∧x.ev.length≠0 then⟨1,m5 x.r,0,dX,(x.ev.take 20).map fun e=>ig (m5 x.r) (fF e)⟩
 else⟨4,m5 x.r,0,dX,(x.ev.take 20).map fF⟩
theorem abr (x:Rc) (hk:1+m5 x.k=2∨1+m5 x.k=3∨1+m5 x.k=5):aH Tryz.prog 14 [x.av] (Iy x).av []:=by
 obtain⟨k,r,u,⟨c0,c1,c2,c3,c4⟩,ev⟩:=x
 obtain⟨q,hq⟩: ∃q,(k.tmod 5+5)%5=q:=⟨_,rfl⟩
 have hm:m5 k=q:=hq
 dsimp only at hk
 rw[hm]at hk
 obtain⟨t1,t2⟩:=Ar k
 obtain⟨t3,t4⟩:=Ar r
 unfold Iy
 dsimp only
 rw[hm]
 rcases hk with hk|hk|hk
 · rw[if_pos hk]
   dsimp only[Rc.av,Rc.cs]
   refine K1.E 0x1105000001002010007f Tryz.func14 ?_
   repeat' ((conv=>whnf);first|refine K1.w ?_|refine K1.u ?_|refine Rm.is (by omega) (by omega) hq ?_|refine Rm.pos (by omega) (by omega) ?_|refine Rm.FI ?_|refine aJ.rP 4 6 rfl ?_|refine aG.cO ?_|refine K1.z ?_|refine K1.y (fun _=> ?_) (fun _=> ?_)|fail)
   conv=>whnf
   rw[hk]
   exact aW.mk (aj.AY _)
 all_goals
  rw[if_neg (by omega),if_pos (by omega)]
  dsimp only[Rc.av,Rc.cs]
  refine K1.E 0x1105000001002010007f Tryz.func14 ?_
  repeat' ((conv=>whnf);first|refine K1.w ?_|refine K1.u ?_|refine Rm.is (by omega) (by omega) hq ?_|refine Rm.pos (by omega) (by omega) ?_|refine Rm.FI ?_|refine aJ.rP 4 6 rfl ?_|refine aG.cO ?_|refine K1.z ?_|refine K1.y (fun _=> ?_) (fun _=> ?_)|fail)
  conv=>whnf
  exact aW.mk (aj.AY _)
theorem Bv {f:Ev→Ev} {l:List Ev} {m j:Nat} (h:j<m) (hj:j<l.length):((l.take m).map f).getD j default=f (l.getD j default):=by
 have:j<((l.take m).map f).length:=by simp;omega
 rw[List.getD,List.getElem?_eq_getElem this,List.getD,List.getElem?_eq_getElem hj]
 simp
theorem tK {f:Ev→Ev} {l:List Ev} {j:Nat} (hj:j<l.length):(l.take (j+1)).map f=(l.take j).map f++[f (l.getD j default)]:=by
 rw[List.take_add_one,List.getElem?_eq_getElem hj,List.getD,List.getElem?_eq_getElem hj,List.map_append]
 rfl
theorem abt (x:Rc) (hr: ∀e∈x.ev,e.key.size≤140737488355328∧e.v.size≤140737488355328) (hk:1+m5 x.k=4) (hl:x.ev.length≤140737488355328):aH Tryz.prog 14 [x.av] (Iy x).av []:=by
 obtain⟨k,r,u,⟨c0,c1,c2,c3,c4⟩,ev⟩:=x
 obtain⟨q,hq⟩: ∃q,(k.tmod 5+5)%5=q:=⟨_,rfl⟩
 have hm:m5 k=q:=hq
 dsimp only at hk hr hl
 rw[hm]at hk
 obtain⟨t1,t2⟩:=Ar k
 obtain⟨t3,t4⟩:=Ar r
 have hfit: ∀j,j<ev.length→aH Tryz.prog 33 [(ev.getD j default).av] (fF (ev.getD j default)).av []:=fun j hj=>by
  have:=hr (ev.getD j default) (by rw[List.getD,List.getElem?_eq_getElem hj];exact List.getElem_mem hj)
  exact FU _ this.1 this.2
 unfold Iy
 dsimp only
 rw[hm,if_neg (by omega),if_neg (by omega),if_neg (by omega)]
 dsimp only[Rc.av,Rc.cs]
 refine K1.E 0x1105000001002010007f Tryz.func14 ?_
 repeat' ((conv=>whnf);first|refine K1.w ?_|refine K1.u ?_|refine Rm.is (by omega) (by omega) hq ?_|refine Rm.pos (by omega) (by omega) ?_|refine Rm.FI ?_|refine aG.cO ?_|refine K1.z ?_|refine K1.y (fun _=> ?_) (fun _=> ?_)|fail)
 conv=>whnf
 refine aJ.mk {j:Nat//j≤ev.length∧j≤20} (fun j=>match j with
     | ⟨0,_⟩=>⟨[(1,.box 0 0),(2,.box 1 0),(3,.box 2 0),(5,.v (.int .i64 0))],
       [(0,.box 47 (iI k r u c0 c1 c2 c3 c4 (.sl 12 ev.length true (dV ev)))),(1,.box 47 (iI 0 0 0 0 0 0 0 0 (.v (.slice none 0 0)))),(2,.box 47 (iI (1+q) ((r.tmod 5+5)%5) 0 0 0 0 0 0 (.v (.slice none 0 0))))],[],3⟩
     | ⟨i+1,_⟩=>⟨[(1,.box 0 0),(2,.box 1 0),(3,.box 2 0),(5,.v (.int .i64 ((i:Int)+1)))],
       [(0,.box 47 (iI k r u c0 c1 c2 c3 c4 (.sl 12 ev.length true (dV ev)))),(1,.box 47 (iI 0 0 0 0 0 0 0 0 (.v (.slice none 0 0)))),(2,.box 47 (iI (1+q) ((r.tmod 5+5)%5) 0 0 0 0 0 0 (.own 90))),(90,.row 42 12 ((ev.take (i+1)).map fF).length true (dV ((ev.take (i+1)).map fF)))],[],91⟩) (fun j=>20-j.1) ⟨0,Nat.zero_le _,Nat.zero_le _⟩ _
     (dB.mk' [] _ _ _ rfl ⟨aj.refl _,aj.refl _,aj.refl _,aj.refl _,trivial⟩ ⟨⟨_,rfl,au.refl _⟩,⟨_,rfl,au.refl _⟩,⟨_,rfl,au.refl _⟩,trivial⟩ rfl) ?_
 rintro⟨_|i,hj,ZC⟩
 · dsimp only[iI]
   repeat' ((conv=>whnf);first|refine K1.w ?_|refine K1.u ?_|refine K1.P1 (hfit 0 (by omega)) rfl ?_|refine aG.cO ?_|refine K1.z ?_|refine K1.y (fun _=> ?_) (fun _=> ?_)|fail)
   all_goals first
     | (conv=>whnf
        refine⟨⟨0+1,by omega,by omega⟩,_,dB.mk' [(5,90)] _ _ _ rfl ⟨aj.refl _,aj.refl _,aj.refl _,aj.int rfl,trivial⟩ ⟨⟨_,rfl,au.refl _⟩,⟨_,rfl,au.refl _⟩,⟨_,rfl,au.refl _⟩,⟨_,rfl,au.row (by simp;omega) (fun i hi=> ?_)⟩,trivial⟩ rfl,by show 20-(0+1)<20-0;omega⟩
        have hi:i<1:=hi
        obtain rfl:i=0:=by omega
        show _=Ev.cs (((ev.take (0+1)).map fF).getD 0 default)
        rw[acK (by omega) (by omega)]
        rfl)
     | (conv=>whnf
        obtain rfl:ev=[]:=List.eq_nil_of_length_eq_zero (by omega)
        first|exact aW.mk (aj.AY _)|(rw[hk];exact aW.mk (aj.AY _)))
 · have hLi:((ev.take (i+1)).map fF).length=i+1:=by simp;omega
   dsimp only[iI]
   repeat' ((conv=>whnf);first|refine K1.w ?_|refine K1.u ?_|refine K1.P1 (hfit ((i:Int)+1).toNat (by omega)) rfl ?_|refine aG.cO ?_|refine K1.z ?_|refine K1.y (fun _=> ?_) (fun _=> ?_)|fail)
   all_goals first
     | (conv=>whnf
        refine⟨⟨i+1+1,by omega,by omega⟩,_,dB.mk' [(93,90)] _ _ _ rfl ⟨aj.refl _,aj.refl _,aj.refl _,aj.int rfl,trivial⟩ ⟨⟨_,rfl,au.refl _⟩,⟨_,rfl,au.refl _⟩,⟨_,rfl,au.refl _⟩,⟨_,rfl,au.row (by simp;omega) (fun m hm=> ?_)⟩,trivial⟩ rfl,by show 20-(i+1+1)<20-(i+1);omega⟩
        rw[YA (show i+1<ev.length by omega)]
        exact bn (c:=Ev.cs) rfl rfl m hm)
     | (conv=>whnf
        rw[show ev.take 20=ev.take (i+1) by rw[List.take_eq_take_iff];omega]
        rw[hk]
        exact aW.mk (aj.refl _))
theorem abu (x:Rc) (hr: ∀e∈x.ev,e.key.size≤140737488355328∧e.v.size≤140737488355328) (hk:1+m5 x.k=1) (hl:x.ev.length≤140737488355328):aH Tryz.prog 14 [x.av] (Iy x).av []:=by
 obtain⟨k,r,u,⟨c0,c1,c2,c3,c4⟩,ev⟩:=x
 obtain⟨q,hq⟩: ∃q,(k.tmod 5+5)%5=q:=⟨_,rfl⟩
 have hm:m5 k=q:=hq
 obtain⟨ro,hro⟩: ∃ro,(r.tmod 5+5)%5=ro:=⟨_,rfl⟩
 have hmr:m5 r=ro:=hro
 have hrr:=sU r
 rw[hmr]at hrr
 dsimp only at hk hr hl
 rw[hm]at hk
 obtain⟨t1,t2⟩:=Ar k
 obtain⟨t3,t4⟩:=Ar r
 have hfit: ∀j,j<ev.length→aH Tryz.prog 33 [(ev.getD j default).av] (fF (ev.getD j default)).av []:=fun j hj=>by
  have:=hr (ev.getD j default) (by rw[List.getD,List.getElem?_eq_getElem hj];exact List.getElem_mem hj)
  exact FU _ this.1 this.2
 have Iz: ∀j,0≤(fF (ev.getD j default)).r∧(fF (ev.getD j default)).r≤4∧1≤(fF (ev.getD j default)).n∧(fF (ev.getD j default)).n≤1048576:=fun j=>by
  have:=pU (Gm (ev.getD j default))
  exact⟨this.r0,this.r4,this.n1,this.n2⟩
 unfold Iy
 dsimp only
 rw[hm,hmr,if_neg (by omega),if_neg (by omega)]
 by_cases h0:ev.length=0
 · rw[if_neg (fun h=>h.2 h0)]
   obtain rfl:ev=[]:=List.eq_nil_of_length_eq_zero h0
   dsimp only[Rc.av,Rc.cs]
   refine K1.E 0x1105000001002010007f Tryz.func14 ?_
   repeat' ((conv=>whnf);first|refine K1.w ?_|refine K1.u ?_|refine Rm.is (by omega) (by omega) hq ?_|refine Rm.is (by omega) (by omega) hro ?_|refine Rm.FI ?_|refine aJ.rounds 1 ?_|refine aG.cO ?_|refine K1.z ?_|refine K1.y (fun _=> ?_) (fun _=> ?_)|fail)
   conv=>whnf
   exact aW.mk (aj.AY _)
 · rw [if_pos ⟨hk,h0⟩]
   dsimp only[Rc.av,Rc.cs]
   rcases(show ro=0∨ro=1∨ro=2∨ro=3∨ro=4 by omega)with rfl|rfl|rfl|rfl|rfl
   · refine K1.E 0x1105000001002010007f Tryz.func14 ?_
     repeat' ((conv=>whnf);first|refine K1.w ?_|refine K1.u ?_|refine Rm.is (by omega) (by omega) hq ?_|refine Rm.is (by omega) (by omega) hro ?_|refine Rm.FI ?_|refine aG.cO ?_|refine K1.z ?_|refine K1.y (fun _=> ?_) (fun _=> ?_)|fail)
     conv=>whnf
     refine aJ.mk {j:Nat//j≤ev.length∧j≤20} (fun j=>match j with
         | ⟨0,_⟩=>⟨[(1,.box 0 0),(2,.box 1 0),(3,.box 2 0),(5,.v (.int .i64 0))],
           [(0,.box 47 (iI k r u c0 c1 c2 c3 c4 (.sl 12 ev.length true (dV ev)))),(1,.box 47 (iI 0 0 0 0 0 0 0 0 (.v (.slice none 0 0)))),(2,.box 47 (iI (1+q) 0 0 0 0 0 0 0 (.v (.slice none 0 0))))],[],3⟩
         | ⟨i+1,_⟩=>⟨[(1,.box 0 0),(2,.box 1 0),(3,.box 2 0),(5,.v (.int .i64 ((i:Int)+1)))],
           [(0,.box 47 (iI k r u c0 c1 c2 c3 c4 (.sl 12 ev.length true (dV ev)))),(1,.box 47 (iI 0 0 0 0 0 0 0 0 (.v (.slice none 0 0)))),(2,.box 47 (iI (1+q) 0 0 0 0 0 0 0 (.own 90))),(90,.row 42 12 ((ev.take (i+1)).map fun e=>ig 0 (fF e)).length true (dV ((ev.take (i+1)).map fun e=>ig 0 (fF e))))],[],91⟩) (fun j=>20-j.1) ⟨0,Nat.zero_le _,Nat.zero_le _⟩ _
         (dB.mk' [] _ _ _ rfl ⟨aj.refl _,aj.refl _,aj.refl _,aj.refl _,trivial⟩ ⟨⟨_,rfl,au.refl _⟩,⟨_,rfl,au.refl _⟩,⟨_,rfl,au.refl _⟩,trivial⟩ rfl) ?_
     rintro⟨_|i,hj,ZC⟩
     · dsimp only[iI]
       have hf:=hfit 0 (by omega)
       have hg:=Iz 0
       have hat:=Bv (f:=fun e=>ig 0 (fF e)) (l:=ev) (m:=0+1) (j:=0) (by omega) (by omega)
       generalize fF (ev.getD 0 default)=y at hf hg hat
       obtain⟨yr,yn,⟨y0,y1,y2,y3,y4⟩,yh,yk,MJ,yl,yv⟩:=y
       obtain⟨g1,g2,g3,g4⟩:=hg
       dsimp only at g1 g2 g3 g4
       dsimp only[Ev.av,Ev.cs]at hf
       rcases(show yr=0∨yr=1∨yr=2∨yr=3∨yr=4 by omega)with rfl|rfl|rfl|rfl|rfl
       all_goals repeat' ((conv=>whnf);first|refine K1.w ?_|refine K1.u ?_|refine K1.P1 (hf) rfl ?_|refine aG.cO ?_|refine K1.z ?_|refine K1.y (fun _=> ?_) (fun _=> ?_)|fail)
       all_goals first
         | (conv=>whnf
            refine⟨⟨0+1,by omega,by omega⟩,_,dB.mk' [(5,90)] _ _ _ rfl ⟨aj.refl _,aj.refl _,aj.refl _,aj.int rfl,trivial⟩ ⟨⟨_,rfl,au.refl _⟩,⟨_,rfl,au.refl _⟩,⟨_,rfl,au.refl _⟩,⟨_,rfl,au.row (by simp;omega) (fun i hi=> ?_)⟩,trivial⟩ rfl,by show 20-(0+1)<20-0;omega⟩
            have hi:i<1:=hi
            obtain rfl:i=0:=by omega
            show _=Ev.cs (((ev.take (0+1)).map fun e=>ig 0 (fF e)).getD 0 default)
            rw[hat]
            rfl)
         |(exfalso;omega)
     · have hLi:((ev.take (i+1)).map fun e=>ig 0 (fF e)).length=i+1:=by simp;omega
       dsimp only[iI]
       by_cases hlt:i+1<ev.length
       · have hf:=hfit ((i:Int)+1).toNat (by omega)
         have hg:=Iz ((i:Int)+1).toNat
         have hsu:=tK (f:=fun e=>ig 0 (fF e)) hlt
         generalize hgd:fF (ev.getD ((i:Int)+1).toNat default)=y at hf hg
         rw[show fF (ev.getD (i+1) default)=y from hgd]at hsu
         clear hgd
         obtain⟨yr,yn,⟨y0,y1,y2,y3,y4⟩,yh,yk,MJ,yl,yv⟩:=y
         obtain⟨g1,g2,g3,g4⟩:=hg
         dsimp only at g1 g2 g3 g4
         dsimp only[Ev.av,Ev.cs]at hf
         rcases(show yr=0∨yr=1∨yr=2∨yr=3∨yr=4 by omega)with rfl|rfl|rfl|rfl|rfl
         all_goals repeat' ((conv=>whnf);first|refine K1.w ?_|refine K1.u ?_|refine K1.P1 (hf) rfl ?_|refine aG.cO ?_|refine K1.z ?_|refine K1.y (fun _=> ?_) (fun _=> ?_)|fail)
         all_goals first
           | (conv=>whnf
              refine⟨⟨i+1+1,by omega,by omega⟩,_,dB.mk' [(93,90)] _ _ _ rfl ⟨aj.refl _,aj.refl _,aj.refl _,aj.int rfl,trivial⟩ ⟨⟨_,rfl,au.refl _⟩,⟨_,rfl,au.refl _⟩,⟨_,rfl,au.refl _⟩,⟨_,rfl,au.row (by simp;omega) (fun m hm=> ?_)⟩,trivial⟩ rfl,by show 20-(i+1+1)<20-(i+1);omega⟩
              rw[hsu]
              exact bn (c:=Ev.cs) rfl rfl m hm)
           | (conv=>whnf
              rw[show ev.take 20=ev.take (i+1) by rw[List.take_eq_take_iff];omega]
              rw[hk]
              exact aW.mk (aj.refl _))
       · repeat' ((conv=>whnf);first|refine K1.w ?_|refine K1.u ?_|refine aG.cO ?_|refine K1.z ?_|refine K1.y (fun _=> ?_) (fun _=> ?_)|fail)
         all_goals(conv=>whnf)
         all_goals(rw[show ev.take 20=ev.take (i+1) by rw[List.take_eq_take_iff];omega,hk];exact aW.mk (aj.refl _))
   · refine K1.E 0x1105000001002010007f Tryz.func14 ?_
     repeat' ((conv=>whnf);first|refine K1.w ?_|refine K1.u ?_|refine Rm.is (by omega) (by omega) hq ?_|refine Rm.is (by omega) (by omega) hro ?_|refine Rm.FI ?_|refine aG.cO ?_|refine K1.z ?_|refine K1.y (fun _=> ?_) (fun _=> ?_)|fail)
     conv=>whnf
     refine aJ.mk {j:Nat//j≤ev.length∧j≤20} (fun j=>match j with
         | ⟨0,_⟩=>⟨[(1,.box 0 0),(2,.box 1 0),(3,.box 2 0),(5,.v (.int .i64 0))],
           [(0,.box 47 (iI k r u c0 c1 c2 c3 c4 (.sl 12 ev.length true (dV ev)))),(1,.box 47 (iI 0 0 0 0 0 0 0 0 (.v (.slice none 0 0)))),(2,.box 47 (iI (1+q) 1 0 0 0 0 0 0 (.v (.slice none 0 0))))],[],3⟩
         | ⟨i+1,_⟩=>⟨[(1,.box 0 0),(2,.box 1 0),(3,.box 2 0),(5,.v (.int .i64 ((i:Int)+1)))],
           [(0,.box 47 (iI k r u c0 c1 c2 c3 c4 (.sl 12 ev.length true (dV ev)))),(1,.box 47 (iI 0 0 0 0 0 0 0 0 (.v (.slice none 0 0)))),(2,.box 47 (iI (1+q) 1 0 0 0 0 0 0 (.own 90))),(90,.row 42 12 ((ev.take (i+1)).map fun e=>ig 1 (fF e)).length true (dV ((ev.take (i+1)).map fun e=>ig 1 (fF e))))],[],91⟩) (fun j=>20-j.1) ⟨0,Nat.zero_le _,Nat.zero_le _⟩ _
         (dB.mk' [] _ _ _ rfl ⟨aj.refl _,aj.refl _,aj.refl _,aj.refl _,trivial⟩ ⟨⟨_,rfl,au.refl _⟩,⟨_,rfl,au.refl _⟩,⟨_,rfl,au.refl _⟩,trivial⟩ rfl) ?_
     rintro⟨_|i,hj,ZC⟩
     · dsimp only[iI]
       have hf:=hfit 0 (by omega)
       have hg:=Iz 0
       have hat:=Bv (f:=fun e=>ig 1 (fF e)) (l:=ev) (m:=0+1) (j:=0) (by omega) (by omega)
       generalize fF (ev.getD 0 default)=y at hf hg hat
       obtain⟨yr,yn,⟨y0,y1,y2,y3,y4⟩,yh,yk,MJ,yl,yv⟩:=y
       obtain⟨g1,g2,g3,g4⟩:=hg
       dsimp only at g1 g2 g3 g4
       dsimp only[Ev.av,Ev.cs]at hf
       rcases(show yr=0∨yr=1∨yr=2∨yr=3∨yr=4 by omega)with rfl|rfl|rfl|rfl|rfl
       all_goals repeat' ((conv=>whnf);first|refine K1.w ?_|refine K1.u ?_|refine K1.P1 (hf) rfl ?_|refine aG.cO ?_|refine K1.z ?_|refine K1.y (fun _=> ?_) (fun _=> ?_)|fail)
       all_goals first
         | (conv=>whnf
            refine⟨⟨0+1,by omega,by omega⟩,_,dB.mk' [(5,90)] _ _ _ rfl ⟨aj.refl _,aj.refl _,aj.refl _,aj.int rfl,trivial⟩ ⟨⟨_,rfl,au.refl _⟩,⟨_,rfl,au.refl _⟩,⟨_,rfl,au.refl _⟩,⟨_,rfl,au.row (by simp;omega) (fun i hi=> ?_)⟩,trivial⟩ rfl,by show 20-(0+1)<20-0;omega⟩
            have hi:i<1:=hi
            obtain rfl:i=0:=by omega
            show _=Ev.cs (((ev.take (0+1)).map fun e=>ig 1 (fF e)).getD 0 default)
            rw[hat]
            rfl)
         |(exfalso;omega)
     · have hLi:((ev.take (i+1)).map fun e=>ig 1 (fF e)).length=i+1:=by simp;omega
       dsimp only[iI]
       by_cases hlt:i+1<ev.length
       · have hf:=hfit ((i:Int)+1).toNat (by omega)
         have hg:=Iz ((i:Int)+1).toNat
         have hsu:=tK (f:=fun e=>ig 1 (fF e)) hlt
         generalize hgd:fF (ev.getD ((i:Int)+1).toNat default)=y at hf hg
         rw[show fF (ev.getD (i+1) default)=y from hgd]at hsu
         clear hgd
         obtain⟨yr,yn,⟨y0,y1,y2,y3,y4⟩,yh,yk,MJ,yl,yv⟩:=y
         obtain⟨g1,g2,g3,g4⟩:=hg
         dsimp only at g1 g2 g3 g4
         dsimp only[Ev.av,Ev.cs]at hf
         rcases(show yr=0∨yr=1∨yr=2∨yr=3∨yr=4 by omega)with rfl|rfl|rfl|rfl|rfl
         all_goals repeat' ((conv=>whnf);first|refine K1.w ?_|refine K1.u ?_|refine K1.P1 (hf) rfl ?_|refine aG.cO ?_|refine K1.z ?_|refine K1.y (fun _=> ?_) (fun _=> ?_)|fail)
         all_goals first
           | (conv=>whnf
              refine⟨⟨i+1+1,by omega,by omega⟩,_,dB.mk' [(93,90)] _ _ _ rfl ⟨aj.refl _,aj.refl _,aj.refl _,aj.int rfl,trivial⟩ ⟨⟨_,rfl,au.refl _⟩,⟨_,rfl,au.refl _⟩,⟨_,rfl,au.refl _⟩,⟨_,rfl,au.row (by simp;omega) (fun m hm=> ?_)⟩,trivial⟩ rfl,by show 20-(i+1+1)<20-(i+1);omega⟩
              rw[hsu]
              exact bn (c:=Ev.cs) rfl rfl m hm)
           | (conv=>whnf
              rw[show ev.take 20=ev.take (i+1) by rw[List.take_eq_take_iff];omega]
              rw[hk]
              exact aW.mk (aj.refl _))
       · repeat' ((conv=>whnf);first|refine K1.w ?_|refine K1.u ?_|refine aG.cO ?_|refine K1.z ?_|refine K1.y (fun _=> ?_) (fun _=> ?_)|fail)
         all_goals(conv=>whnf)
         all_goals(rw[show ev.take 20=ev.take (i+1) by rw[List.take_eq_take_iff];omega,hk];exact aW.mk (aj.refl _))
   · refine K1.E 0x1105000001002010007f Tryz.func14 ?_
     repeat' ((conv=>whnf);first|refine K1.w ?_|refine K1.u ?_|refine Rm.is (by omega) (by omega) hq ?_|refine Rm.is (by omega) (by omega) hro ?_|refine Rm.FI ?_|refine aG.cO ?_|refine K1.z ?_|refine K1.y (fun _=> ?_) (fun _=> ?_)|fail)
     conv=>whnf
     refine aJ.mk {j:Nat//j≤ev.length∧j≤20} (fun j=>match j with
         | ⟨0,_⟩=>⟨[(1,.box 0 0),(2,.box 1 0),(3,.box 2 0),(5,.v (.int .i64 0))],
           [(0,.box 47 (iI k r u c0 c1 c2 c3 c4 (.sl 12 ev.length true (dV ev)))),(1,.box 47 (iI 0 0 0 0 0 0 0 0 (.v (.slice none 0 0)))),(2,.box 47 (iI (1+q) 2 0 0 0 0 0 0 (.v (.slice none 0 0))))],[],3⟩
         | ⟨i+1,_⟩=>⟨[(1,.box 0 0),(2,.box 1 0),(3,.box 2 0),(5,.v (.int .i64 ((i:Int)+1)))],
           [(0,.box 47 (iI k r u c0 c1 c2 c3 c4 (.sl 12 ev.length true (dV ev)))),(1,.box 47 (iI 0 0 0 0 0 0 0 0 (.v (.slice none 0 0)))),(2,.box 47 (iI (1+q) 2 0 0 0 0 0 0 (.own 90))),(90,.row 42 12 ((ev.take (i+1)).map fun e=>ig 2 (fF e)).length true (dV ((ev.take (i+1)).map fun e=>ig 2 (fF e))))],[],91⟩) (fun j=>20-j.1) ⟨0,Nat.zero_le _,Nat.zero_le _⟩ _
         (dB.mk' [] _ _ _ rfl ⟨aj.refl _,aj.refl _,aj.refl _,aj.refl _,trivial⟩ ⟨⟨_,rfl,au.refl _⟩,⟨_,rfl,au.refl _⟩,⟨_,rfl,au.refl _⟩,trivial⟩ rfl) ?_
     rintro⟨_|i,hj,ZC⟩
     · dsimp only[iI]
       have hf:=hfit 0 (by omega)
       have hg:=Iz 0
       have hat:=Bv (f:=fun e=>ig 2 (fF e)) (l:=ev) (m:=0+1) (j:=0) (by omega) (by omega)
       generalize fF (ev.getD 0 default)=y at hf hg hat
       obtain⟨yr,yn,⟨y0,y1,y2,y3,y4⟩,yh,yk,MJ,yl,yv⟩:=y
       obtain⟨g1,g2,g3,g4⟩:=hg
       dsimp only at g1 g2 g3 g4
       dsimp only[Ev.av,Ev.cs]at hf
       rcases(show yr=0∨yr=1∨yr=2∨yr=3∨yr=4 by omega)with rfl|rfl|rfl|rfl|rfl
       all_goals repeat' ((conv=>whnf);first|refine K1.w ?_|refine K1.u ?_|refine K1.P1 (hf) rfl ?_|refine aG.cO ?_|refine K1.z ?_|refine K1.y (fun _=> ?_) (fun _=> ?_)|fail)
       all_goals first
         | (conv=>whnf
            refine⟨⟨0+1,by omega,by omega⟩,_,dB.mk' [(5,90)] _ _ _ rfl ⟨aj.refl _,aj.refl _,aj.refl _,aj.int rfl,trivial⟩ ⟨⟨_,rfl,au.refl _⟩,⟨_,rfl,au.refl _⟩,⟨_,rfl,au.refl _⟩,⟨_,rfl,au.row (by simp;omega) (fun i hi=> ?_)⟩,trivial⟩ rfl,by show 20-(0+1)<20-0;omega⟩
            have hi:i<1:=hi
            obtain rfl:i=0:=by omega
            show _=Ev.cs (((ev.take (0+1)).map fun e=>ig 2 (fF e)).getD 0 default)
            rw[hat]
            rfl)
         |(exfalso;omega)
     · have hLi:((ev.take (i+1)).map fun e=>ig 2 (fF e)).length=i+1:=by simp;omega
       dsimp only[iI]
       by_cases hlt:i+1<ev.length
       · have hf:=hfit ((i:Int)+1).toNat (by omega)
         have hg:=Iz ((i:Int)+1).toNat
         have hsu:=tK (f:=fun e=>ig 2 (fF e)) hlt
         generalize hgd:fF (ev.getD ((i:Int)+1).toNat default)=y at hf hg
         rw[show fF (ev.getD (i+1) default)=y from hgd]at hsu
         clear hgd
         obtain⟨yr,yn,⟨y0,y1,y2,y3,y4⟩,yh,yk,MJ,yl,yv⟩:=y
         obtain⟨g1,g2,g3,g4⟩:=hg
         dsimp only at g1 g2 g3 g4
         dsimp only[Ev.av,Ev.cs]at hf
         rcases(show yr=0∨yr=1∨yr=2∨yr=3∨yr=4 by omega)with rfl|rfl|rfl|rfl|rfl
         all_goals repeat' ((conv=>whnf);first|refine K1.w ?_|refine K1.u ?_|refine K1.P1 (hf) rfl ?_|refine aG.cO ?_|refine K1.z ?_|refine K1.y (fun _=> ?_) (fun _=> ?_)|fail)
         all_goals first
           | (conv=>whnf
              refine⟨⟨i+1+1,by omega,by omega⟩,_,dB.mk' [(93,90)] _ _ _ rfl ⟨aj.refl _,aj.refl _,aj.refl _,aj.int rfl,trivial⟩ ⟨⟨_,rfl,au.refl _⟩,⟨_,rfl,au.refl _⟩,⟨_,rfl,au.refl _⟩,⟨_,rfl,au.row (by simp;omega) (fun m hm=> ?_)⟩,trivial⟩ rfl,by show 20-(i+1+1)<20-(i+1);omega⟩
              rw[hsu]
              exact bn (c:=Ev.cs) rfl rfl m hm)
           | (conv=>whnf
              rw[show ev.take 20=ev.take (i+1) by rw[List.take_eq_take_iff];omega]
              rw[hk]
              exact aW.mk (aj.refl _))
       · repeat' ((conv=>whnf);first|refine K1.w ?_|refine K1.u ?_|refine aG.cO ?_|refine K1.z ?_|refine K1.y (fun _=> ?_) (fun _=> ?_)|fail)
         all_goals(conv=>whnf)
         all_goals(rw[show ev.take 20=ev.take (i+1) by rw[List.take_eq_take_iff];omega,hk];exact aW.mk (aj.refl _))
   · refine K1.E 0x1105000001002010007f Tryz.func14 ?_
     repeat' ((conv=>whnf);first|refine K1.w ?_|refine K1.u ?_|refine Rm.is (by omega) (by omega) hq ?_|refine Rm.is (by omega) (by omega) hro ?_|refine Rm.FI ?_|refine aG.cO ?_|refine K1.z ?_|refine K1.y (fun _=> ?_) (fun _=> ?_)|fail)
     conv=>whnf
     refine aJ.mk {j:Nat//j≤ev.length∧j≤20} (fun j=>match j with
         | ⟨0,_⟩=>⟨[(1,.box 0 0),(2,.box 1 0),(3,.box 2 0),(5,.v (.int .i64 0))],
           [(0,.box 47 (iI k r u c0 c1 c2 c3 c4 (.sl 12 ev.length true (dV ev)))),(1,.box 47 (iI 0 0 0 0 0 0 0 0 (.v (.slice none 0 0)))),(2,.box 47 (iI (1+q) 3 0 0 0 0 0 0 (.v (.slice none 0 0))))],[],3⟩
         | ⟨i+1,_⟩=>⟨[(1,.box 0 0),(2,.box 1 0),(3,.box 2 0),(5,.v (.int .i64 ((i:Int)+1)))],
           [(0,.box 47 (iI k r u c0 c1 c2 c3 c4 (.sl 12 ev.length true (dV ev)))),(1,.box 47 (iI 0 0 0 0 0 0 0 0 (.v (.slice none 0 0)))),(2,.box 47 (iI (1+q) 3 0 0 0 0 0 0 (.own 90))),(90,.row 42 12 ((ev.take (i+1)).map fun e=>ig 3 (fF e)).length true (dV ((ev.take (i+1)).map fun e=>ig 3 (fF e))))],[],91⟩) (fun j=>20-j.1) ⟨0,Nat.zero_le _,Nat.zero_le _⟩ _
         (dB.mk' [] _ _ _ rfl ⟨aj.refl _,aj.refl _,aj.refl _,aj.refl _,trivial⟩ ⟨⟨_,rfl,au.refl _⟩,⟨_,rfl,au.refl _⟩,⟨_,rfl,au.refl _⟩,trivial⟩ rfl) ?_
     rintro⟨_|i,hj,ZC⟩
     · dsimp only[iI]
       have hf:=hfit 0 (by omega)
       have hg:=Iz 0
       have hat:=Bv (f:=fun e=>ig 3 (fF e)) (l:=ev) (m:=0+1) (j:=0) (by omega) (by omega)
       generalize fF (ev.getD 0 default)=y at hf hg hat
       obtain⟨yr,yn,⟨y0,y1,y2,y3,y4⟩,yh,yk,MJ,yl,yv⟩:=y
       obtain⟨g1,g2,g3,g4⟩:=hg
       dsimp only at g1 g2 g3 g4
       dsimp only[Ev.av,Ev.cs]at hf
       rcases(show yr=0∨yr=1∨yr=2∨yr=3∨yr=4 by omega)with rfl|rfl|rfl|rfl|rfl
       all_goals repeat' ((conv=>whnf);first|refine K1.w ?_|refine K1.u ?_|refine K1.P1 (hf) rfl ?_|refine aG.cO ?_|refine K1.z ?_|refine K1.y (fun _=> ?_) (fun _=> ?_)|fail)
       all_goals first
         | (conv=>whnf
            refine⟨⟨0+1,by omega,by omega⟩,_,dB.mk' [(5,90)] _ _ _ rfl ⟨aj.refl _,aj.refl _,aj.refl _,aj.int rfl,trivial⟩ ⟨⟨_,rfl,au.refl _⟩,⟨_,rfl,au.refl _⟩,⟨_,rfl,au.refl _⟩,⟨_,rfl,au.row (by simp;omega) (fun i hi=> ?_)⟩,trivial⟩ rfl,by show 20-(0+1)<20-0;omega⟩
            have hi:i<1:=hi
            obtain rfl:i=0:=by omega
            show _=Ev.cs (((ev.take (0+1)).map fun e=>ig 3 (fF e)).getD 0 default)
            rw[hat]
            rfl)
         |(exfalso;omega)
     · have hLi:((ev.take (i+1)).map fun e=>ig 3 (fF e)).length=i+1:=by simp;omega
       dsimp only[iI]
       by_cases hlt:i+1<ev.length
       · have hf:=hfit ((i:Int)+1).toNat (by omega)
         have hg:=Iz ((i:Int)+1).toNat
         have hsu:=tK (f:=fun e=>ig 3 (fF e)) hlt
         generalize hgd:fF (ev.getD ((i:Int)+1).toNat default)=y at hf hg
         rw[show fF (ev.getD (i+1) default)=y from hgd]at hsu
         clear hgd
         obtain⟨yr,yn,⟨y0,y1,y2,y3,y4⟩,yh,yk,MJ,yl,yv⟩:=y
         obtain⟨g1,g2,g3,g4⟩:=hg
         dsimp only at g1 g2 g3 g4
         dsimp only[Ev.av,Ev.cs]at hf
         rcases(show yr=0∨yr=1∨yr=2∨yr=3∨yr=4 by omega)with rfl|rfl|rfl|rfl|rfl
         all_goals repeat' ((conv=>whnf);first|refine K1.w ?_|refine K1.u ?_|refine K1.P1 (hf) rfl ?_|refine aG.cO ?_|refine K1.z ?_|refine K1.y (fun _=> ?_) (fun _=> ?_)|fail)
         all_goals first
           | (conv=>whnf
              refine⟨⟨i+1+1,by omega,by omega⟩,_,dB.mk' [(93,90)] _ _ _ rfl ⟨aj.refl _,aj.refl _,aj.refl _,aj.int rfl,trivial⟩ ⟨⟨_,rfl,au.refl _⟩,⟨_,rfl,au.refl _⟩,⟨_,rfl,au.refl _⟩,⟨_,rfl,au.row (by simp;omega) (fun m hm=> ?_)⟩,trivial⟩ rfl,by show 20-(i+1+1)<20-(i+1);omega⟩
              rw[hsu]
              exact bn (c:=Ev.cs) rfl rfl m hm)
           | (conv=>whnf
              rw[show ev.take 20=ev.take (i+1) by rw[List.take_eq_take_iff];omega]
              rw[hk]
              exact aW.mk (aj.refl _))
       · repeat' ((conv=>whnf);first|refine K1.w ?_|refine K1.u ?_|refine aG.cO ?_|refine K1.z ?_|refine K1.y (fun _=> ?_) (fun _=> ?_)|fail)
         all_goals(conv=>whnf)
         all_goals(rw[show ev.take 20=ev.take (i+1) by rw[List.take_eq_take_iff];omega,hk];exact aW.mk (aj.refl _))
   · refine K1.E 0x1105000001002010007f Tryz.func14 ?_
     repeat' ((conv=>whnf);first|refine K1.w ?_|refine K1.u ?_|refine Rm.is (by omega) (by omega) hq ?_|refine Rm.is (by omega) (by omega) hro ?_|refine Rm.FI ?_|refine aG.cO ?_|refine K1.z ?_|refine K1.y (fun _=> ?_) (fun _=> ?_)|fail)
     conv=>whnf
     refine aJ.mk {j:Nat//j≤ev.length∧j≤20} (fun j=>match j with
         | ⟨0,_⟩=>⟨[(1,.box 0 0),(2,.box 1 0),(3,.box 2 0),(5,.v (.int .i64 0))],
           [(0,.box 47 (iI k r u c0 c1 c2 c3 c4 (.sl 12 ev.length true (dV ev)))),(1,.box 47 (iI 0 0 0 0 0 0 0 0 (.v (.slice none 0 0)))),(2,.box 47 (iI (1+q) 4 0 0 0 0 0 0 (.v (.slice none 0 0))))],[],3⟩
         | ⟨i+1,_⟩=>⟨[(1,.box 0 0),(2,.box 1 0),(3,.box 2 0),(5,.v (.int .i64 ((i:Int)+1)))],
           [(0,.box 47 (iI k r u c0 c1 c2 c3 c4 (.sl 12 ev.length true (dV ev)))),(1,.box 47 (iI 0 0 0 0 0 0 0 0 (.v (.slice none 0 0)))),(2,.box 47 (iI (1+q) 4 0 0 0 0 0 0 (.own 90))),(90,.row 42 12 ((ev.take (i+1)).map fun e=>ig 4 (fF e)).length true (dV ((ev.take (i+1)).map fun e=>ig 4 (fF e))))],[],91⟩) (fun j=>20-j.1) ⟨0,Nat.zero_le _,Nat.zero_le _⟩ _
         (dB.mk' [] _ _ _ rfl ⟨aj.refl _,aj.refl _,aj.refl _,aj.refl _,trivial⟩ ⟨⟨_,rfl,au.refl _⟩,⟨_,rfl,au.refl _⟩,⟨_,rfl,au.refl _⟩,trivial⟩ rfl) ?_
     rintro⟨_|i,hj,ZC⟩
     · dsimp only[iI]
       have hf:=hfit 0 (by omega)
       have hg:=Iz 0
       have hat:=Bv (f:=fun e=>ig 4 (fF e)) (l:=ev) (m:=0+1) (j:=0) (by omega) (by omega)
       generalize fF (ev.getD 0 default)=y at hf hg hat
       obtain⟨yr,yn,⟨y0,y1,y2,y3,y4⟩,yh,yk,MJ,yl,yv⟩:=y
       obtain⟨g1,g2,g3,g4⟩:=hg
       dsimp only at g1 g2 g3 g4
       dsimp only[Ev.av,Ev.cs]at hf
       rcases(show yr=0∨yr=1∨yr=2∨yr=3∨yr=4 by omega)with rfl|rfl|rfl|rfl|rfl
       all_goals repeat' ((conv=>whnf);first|refine K1.w ?_|refine K1.u ?_|refine K1.P1 (hf) rfl ?_|refine aG.cO ?_|refine K1.z ?_|refine K1.y (fun _=> ?_) (fun _=> ?_)|fail)
       all_goals first
         | (conv=>whnf
            refine⟨⟨0+1,by omega,by omega⟩,_,dB.mk' [(5,90)] _ _ _ rfl ⟨aj.refl _,aj.refl _,aj.refl _,aj.int rfl,trivial⟩ ⟨⟨_,rfl,au.refl _⟩,⟨_,rfl,au.refl _⟩,⟨_,rfl,au.refl _⟩,⟨_,rfl,au.row (by simp;omega) (fun i hi=> ?_)⟩,trivial⟩ rfl,by show 20-(0+1)<20-0;omega⟩
            have hi:i<1:=hi
            obtain rfl:i=0:=by omega
            show _=Ev.cs (((ev.take (0+1)).map fun e=>ig 4 (fF e)).getD 0 default)
            rw[hat]
            rfl)
         |(exfalso;omega)
     · have hLi:((ev.take (i+1)).map fun e=>ig 4 (fF e)).length=i+1:=by simp;omega
       dsimp only[iI]
       by_cases hlt:i+1<ev.length
       · have hf:=hfit ((i:Int)+1).toNat (by omega)
         have hg:=Iz ((i:Int)+1).toNat
         have hsu:=tK (f:=fun e=>ig 4 (fF e)) hlt
         generalize hgd:fF (ev.getD ((i:Int)+1).toNat default)=y at hf hg
         rw[show fF (ev.getD (i+1) default)=y from hgd]at hsu
         clear hgd
         obtain⟨yr,yn,⟨y0,y1,y2,y3,y4⟩,yh,yk,MJ,yl,yv⟩:=y
         obtain⟨g1,g2,g3,g4⟩:=hg
         dsimp only at g1 g2 g3 g4
         dsimp only[Ev.av,Ev.cs]at hf
         rcases(show yr=0∨yr=1∨yr=2∨yr=3∨yr=4 by omega)with rfl|rfl|rfl|rfl|rfl
         all_goals repeat' ((conv=>whnf);first|refine K1.w ?_|refine K1.u ?_|refine K1.P1 (hf) rfl ?_|refine aG.cO ?_|refine K1.z ?_|refine K1.y (fun _=> ?_) (fun _=> ?_)|fail)
         all_goals first
           | (conv=>whnf
              refine⟨⟨i+1+1,by omega,by omega⟩,_,dB.mk' [(93,90)] _ _ _ rfl ⟨aj.refl _,aj.refl _,aj.refl _,aj.int rfl,trivial⟩ ⟨⟨_,rfl,au.refl _⟩,⟨_,rfl,au.refl _⟩,⟨_,rfl,au.refl _⟩,⟨_,rfl,au.row (by simp;omega) (fun m hm=> ?_)⟩,trivial⟩ rfl,by show 20-(i+1+1)<20-(i+1);omega⟩
              rw[hsu]
              exact bn (c:=Ev.cs) rfl rfl m hm)
           | (conv=>whnf
              rw[show ev.take 20=ev.take (i+1) by rw[List.take_eq_take_iff];omega]
              rw[hk]
              exact aW.mk (aj.refl _))
       · repeat' ((conv=>whnf);first|refine K1.w ?_|refine K1.u ?_|refine aG.cO ?_|refine K1.z ?_|refine K1.y (fun _=> ?_) (fun _=> ?_)|fail)
         all_goals(conv=>whnf)
         all_goals(rw[show ev.take 20=ev.take (i+1) by rw[List.take_eq_take_iff];omega,hk];exact aW.mk (aj.refl _))
end
section
open Go.RowKit
theorem RH (x:Rc) (hr: ∀e∈x.ev,e.key.size≤140737488355328∧e.v.size≤140737488355328) (hl:x.ev.length≤140737488355328):aH Tryz.prog 14 [x.av] (Iy x).av []:=by
 have h:=sU x.k
 rcases(show 1+m5 x.k=1∨(1+m5 x.k=2∨1+m5 x.k=3∨1+m5 x.k=5)∨1+m5 x.k=4 by omega)with hk|hk|hk
 · exact abu x hr hk hl
 · exact abr x hk
 · exact abt x hr hk hl
theorem Wi {r:Int} {e:Ev} (h0:0≤r) (h4:r≤4) (h:eG e=0):eG (ig r e)=0:=by
 have m:=pU h
 have a0:=m.r0
 have a1:=m.r4
 have a2:=m.n1
 have a3:=m.n2
 have b0:=m.a0
 have b1:=m.a1
 have b2:=m.a2
 have b3:=m.a3
 have b4:=m.a4
 have hed:(ig r e).ed=e.ed:=rfl
 refine lQ ?_
 rcases(show r=0∨r=1∨r=2∨r=3∨r=4 by omega)with h|h|h|h|h<;>rcases(show e.r=0∨e.r=1∨e.r=2∨e.r=3∨e.r=4 by omega)with g|g|g|g|g<;>
  (refine⟨h0,h4,a2,a3,m.h1,m.h2, ?_, ?_, ?_, ?_, ?_, ?_,by rw[hed];exact m.ed⟩<;>simp[ig,h,g,aZ.put,aZ.get]<;>omega)
theorem ZE (x:Rc):kE (Iy x)=true:=by
 have h5:=sU x.r
 have h6:=sU x.k
 have ok0:oJ 0=true:=rfl
 have hz:Ij dX=true:=rfl
 have hc:ML dX=true:=rfl
 have hcc:ML (acJ x.c)=true:=by simp[ML,acJ,TD]
 have hl (f:Ev→Ev):((x.ev.take 20).map f).length≤20:=by rw[List.length_map,List.length_take];omega
 unfold Iy
 split
 · simp[kE,Jy,wH,wI,wG,hc,hz,TD];omega
 · split
   · rename_i h1 h2
     rcases h2 with h2|h2<;>rw[h2]<;>simp[kE,Jy,wH,wI,wG,ok0,hcc]<;>omega
   · split
     · rename_i h1 h2 h3
       have ha:((x.ev.take 20).map fun e=>ig (m5 x.r) (fF e)).all (qL 1 (m5 x.r))=true:=by
        rw[List.all_eq_true]
        intro e he
        obtain⟨f,_,rfl⟩:=List.mem_map.1 he
        exact JA (Wi h5.1 h5.2 (Gm f)) rfl
       have hll:=hl fun e=>ig (m5 x.r) (fF e)
       have hne:((x.ev.take 20).map fun e=>ig (m5 x.r) (fF e)).length≠0:=by
        have:=h3.2
        rw[List.length_map,List.length_take]
        omega
       have d1:=decide_eq_true hll
       have d2:=decide_eq_true hne
       simp only[kE,Jy,wH,wI,wG,ok0,hc,hz,ha,d1,d2]
       simp
       omega
     · have ha:((x.ev.take 20).map fF).all (qL 4 (m5 x.r))=true:=by
        rw[List.all_eq_true]
        intro e he
        obtain⟨f,_,rfl⟩:=List.mem_map.1 he
        exact Jz (Gm f) (by decide)
       have hll:=hl fF
       simp only[kE,Jy,wH,wI,wG,ok0,hc,hz,ha]
       simp at hll⊢
       omega
theorem MK {n:Nat} {F:Nat→List AV} (h:2048<n):aH Tryz.prog 20 [.sl 1 n true F] (.dM [.agg (iI 0 0 0 0 0 0 0 0 (.v (.slice none 0 0))),.v (.int .i64 5)]) []:=by
 refine K1.E 0x200080809fd Tryz.func20 ?_
 repeat' ((conv=>whnf);first|refine K1.w ?_|refine K1.u ?_|refine aG.cO ?_|refine K1.z ?_|refine K1.y (fun _=> ?_) (fun _=> ?_)|fail)
 conv=>whnf
 exact aW.mk (aj.refl _)
end
section
open Go.RowKit
theorem ZF {b:List UInt8} {l:List Ev} (h:Il b=some l):l.length≤255:=by
 rcases b with _|⟨c,t⟩
 · cases h
 · have h:(je t c.toNat).map (·.1)=some l:=h
   cases h0:je t c.toNat with
   |none=>rw[h0]at h;cases h
   | some p=>
     obtain⟨l0,r0⟩:=p
     rw[h0]at h
     simp only[Option.map_some,Option.some.injEq]at h
     subst h
     have:=(nX h0).1
     have:=UInt8.toNat_lt c
     omega
theorem Wj (b:List UInt8):(jr b).1.ev.length≤255:=by
 unfold jr
 split
 · simp[YI]
 · unfold rdB
   split
   · split
     · simp
     · rename_i l h
       exact ZF h
   · split
     · split<;>simp
     · split<;>simp
theorem ZG (l:List UInt8) (hl:l.length≤2048):aH Tryz.prog 20 [.sl 1 l.length true (aX l)] (.dM [(Dj l).1.av,.v (.int .i64 (Dj l).2)]) []:=by
 unfold Dj
 rw[if_neg (by omega)]
 by_cases ho:rX l
 · rw [if_pos ho]
   have hF:bF (aX l) (eP (inner l)):=by rw[←A8 ho];exact bF.bytes l
   have hil:(inner l).length≤l.length:=by unfold inner;rw[List.length_take];omega
   have hop:=(Ju 0 (inner l) hF (by rw[←A8 ho]) (by omega)).thaw
   have hrd:=Wh (inner l) (bF.bytes _) rfl (by omega)
   have hrl:=Wj (inner l)
   generalize inner l=m at hop hrd hrl
   obtain⟨⟨z,ok⟩,hz⟩: ∃p,jr m=p:=⟨_,rfl⟩
   rw[hz]at hrd hrl⊢
   dsimp only at hrd hrl⊢
   cases ok with
   | false=>
     rw[if_neg (by simp)]
     refine K1.E 0x200080809fd Tryz.func20 ?_
     repeat' ((conv=>whnf);first|refine K1.w ?_|refine K1.u ?_|refine K1.P1 (hop) rfl ?_|refine K1.P1 (hrd) rfl ?_|refine aG.cO ?_|refine K1.z ?_|refine K1.y (fun _=> ?_) (fun _=> ?_)|fail)
     all_goals(conv=>whnf)
     all_goals exact aW.mk (aj.gX _)
   | true=>
     cases hm:kE z with
     | false=>
       rw[if_neg (by simp)]
       have hp:=YE z (by omega) hm
       refine K1.E 0x200080809fd Tryz.func20 ?_
       repeat' ((conv=>whnf);first|refine K1.w ?_|refine K1.u ?_|refine K1.P1 (hop) rfl ?_|refine K1.P1 (hrd) rfl ?_|refine K1.P1 (hp) rfl ?_|refine aG.cO ?_|refine K1.z ?_|refine K1.y (fun _=> ?_) (fun _=> ?_)|fail)
       all_goals(conv=>whnf)
       all_goals exact aW.mk (aj.gX _)
     | true=>
       have hp:=(Vb 0 z hm).thaw
       have he:=Gx (dS z) l (bF.bytes _) rfl (bF.bytes _) rfl
       by_cases hb:dS z=l
       · rw[if_pos ⟨rfl,rfl,hb⟩]
         rw[decide_eq_true hb]at he
         generalize dS z=w at hp he
         refine K1.E 0x200080809fd Tryz.func20 ?_
         repeat' ((conv=>whnf);first|refine K1.w ?_|refine K1.u ?_|refine K1.P1 (hop) rfl ?_|refine K1.P1 (hrd) rfl ?_|refine K1.P1 (hp) rfl ?_|refine K1.P1 (he) rfl ?_|refine aG.cO ?_|refine K1.z ?_|refine K1.y (fun _=> ?_) (fun _=> ?_)|fail)
         all_goals(conv=>whnf)
         all_goals exact aW.mk (aj.refl _)
       · rw[if_neg (fun h=>hb h.2.2)]
         rw[decide_eq_false hb]at he
         generalize dS z=w at hp he
         refine K1.E 0x200080809fd Tryz.func20 ?_
         repeat' ((conv=>whnf);first|refine K1.w ?_|refine K1.u ?_|refine K1.P1 (hop) rfl ?_|refine K1.P1 (hrd) rfl ?_|refine K1.P1 (hp) rfl ?_|refine K1.P1 (he) rfl ?_|refine aG.cO ?_|refine K1.z ?_|refine K1.y (fun _=> ?_) (fun _=> ?_)|fail)
         all_goals(conv=>whnf)
         all_goals exact aW.mk (aj.gX _)
 · rw[if_neg ho]
   have hop:=TA l ho (bF.bytes _) rfl (by omega)
   refine K1.E 0x200080809fd Tryz.func20 ?_
   repeat' ((conv=>whnf);first|refine K1.w ?_|refine K1.u ?_|refine K1.P1 (hop) rfl ?_|refine aG.cO ?_|refine K1.z ?_|refine K1.y (fun _=> ?_) (fun _=> ?_)|fail)
   all_goals(conv=>whnf)
   all_goals exact aW.mk (aj.gX _)
theorem RI {n:Nat} {F:Nat→List AV} (l:List UInt8) {z:Rc} {x:Int} (ht:Dj l=(z,x)) (hF:bF F l) (hn:n=l.length):
  aH Tryz.prog 20 [.sl 1 n true F] (.dM [z.av,.v (.int .i64 x)]) []:=by
 rcases Nat.lt_or_ge 2048 l.length with h|h
 · unfold Dj at ht
   rw[if_pos h]at ht
   simp only[Prod.mk.injEq]at ht
   obtain⟨rfl,rfl⟩:=ht
   exact(MK (n:=n) (F:=F) (by omega)).res (aj.gX _)
 · have:=ZG l h
   rw[ht]at this
   exact this.args (Ch.pz hF hn .nil)
end
section
open Go.RowKit
def RJ (r:Nat) (n:Int) (e:Ev):Prop:=e.r=(r:Int)∨n≤e.r
theorem PI (h:Nd) (hu:h.up=true) (l:List UInt8) {x:Rc} (ht:Dj l=(x,0)) (hl:x.ev.length≤255) (hs:x.r≠(h.r:Int)∨(∃j,j<x.ev.length∧RJ h.r h.c.n (x.ev.getD j default))∨x.k≠2∧x.k≠4) {n:Nat} {F:Nat→List AV} (hF:bF F l) (hn:n=l.length):
  aY Tryz.prog 16 [(0,.obs (oU h))] [.box 0 0,.sl 1 n true F] (.v (.int .i64 23)) [(0,.obs (oU h))]:=by
 refine yB (ho:=[]) ⟨_,_,Tryz.func16,rfl,rfl⟩ ?_ rfl
 have hf:=RI l ht hF hn
 obtain⟨c,r,up,d,log,sent,ic,held,wait⟩:=h
 obtain⟨xk,xr,xu,⟨xc0,xc1,xc2,xc3,xc4⟩,ev⟩:=x
 dsimp only[Hy,PX,Rc.av,Rc.cs,iI,List.append_nil]at hu hf hs hl⊢
 subst hu
 clear ht hF
 by_cases hr:xr=(r:Int)
 · refine K1.M 0x41900003d0102173 Tryz.func16 40 ?_
   repeat' ((conv=>whnf);first|refine K1.w ?_|refine K1.u ?_|refine K1.P1 (hf) rfl ?_|refine K1.z ?_|refine K1.y (fun _=> ?_) (fun _=> ?_)|fail)
   conv=>whnf
   refine aJ.mk {j:Nat//j≤ev.length∧ ∀i,i<j→ ¬RJ r c.n (ev.getD i default)} (fun j=>⟨[(0,.box 0 0),(5,.box 40 0),(30,.sl 12 ev.length true (dV ev)),(31,.v (.int .i64 (ev.length:Int))),(32,.v (.int .i64 (j.1:Int)))],
     [(40,.box 47 [.v (.int .i64 xk),.v (.int .i64 xr),.v (.int .i64 xu),.v (.int .i64 xc0),.v (.int .i64 xc1),.v (.int .i64 xc2),.v (.int .i64 xc3),.v (.int .i64 xc4),.sl 12 ev.length true (dV ev)]),
      (0,PX ⟨c,r,true,d,log,sent,ic,held,wait⟩ (.box 8 0) (.own 10) (.box 11 0) (.box 12 0) (.box 13 0)),(8,PW (.own 9) d),(11,.obs (xg log log.length)),(12,Oy c.h ic (Pq held)),(13,QN c.q c.w sent (.own 14)),(9,GK d.bs),(10,jd log),(14,jd wait)],[[(0,.box 0 0),(1,.box 8 0),(2,.own 11),(3,.box 12 0),(4,.box 13 0),(5,.own 9),(6,.own 10),(7,.own 14)]],41⟩) (fun j=>ev.length-j.1) ⟨0,Nat.zero_le _,fun i hi=>absurd hi (Nat.not_lt_zero i)⟩ _
    (by exact dB.mk' [] _ _ _ rfl ⟨aj.refl _,aj.refl _,aj.refl _,aj.refl _,aj.int rfl,trivial⟩ ⟨⟨_,rfl,au.refl _⟩,⟨_,rfl,au.refl _⟩,⟨_,rfl,au.refl _⟩,⟨_,rfl,au.refl _⟩,⟨_,rfl,au.refl _⟩,⟨_,rfl,au.refl _⟩,⟨_,rfl,au.refl _⟩,⟨_,rfl,au.refl _⟩,⟨_,rfl,au.refl _⟩,trivial⟩ rfl) ?_
   rintro⟨j,hj,hno⟩
   dsimp only[PX]
   by_cases hjl:j<ev.length
   · by_cases ho:RJ r c.n (ev.getD (j:Int).toNat default)
     · clear hs hno
       unfold RJ at ho
       rcases ho with h1|h1
       all_goals
        repeat' ((conv=>whnf);first|refine K1.w ?_|refine K1.u ?_|refine K1.z ?_|refine K1.y (fun _=> ?_) (fun _=> ?_)|fail)
        all_goals(conv=>whnf)
        all_goals exact⟨[],rfl,rfl,⟨⟨_,rfl,au.refl _⟩,⟨_,rfl,au.refl _⟩,⟨_,rfl,au.refl _⟩,⟨_,rfl,au.refl _⟩,⟨_,rfl,au.refl _⟩,⟨_,rfl,au.refl _⟩,⟨_,rfl,au.refl _⟩,⟨_,rfl,au.refl _⟩,trivial⟩,rfl,rfl,aj.refl _⟩
     · have hno': ∀i,i<j+1→ ¬RJ r c.n (ev.getD i default):=fun i hi=>by
        by_cases hij:i=j
        · rw[hij];exact ho
        · exact hno i (by omega)
       clear hs hno
       have h1: ¬ (ev.getD (j:Int).toNat default).r=(r:Int):=fun h=>ho (.inl h)
       have h2: ¬c.n≤(ev.getD (j:Int).toNat default).r:=fun h=>ho (.inr h)
       repeat' ((conv=>whnf);first|refine K1.w ?_|refine K1.u ?_|refine K1.z ?_|refine K1.y (fun _=> ?_) (fun _=> ?_)|fail)
       all_goals(conv=>whnf)
       exact⟨⟨j+1,hjl,hno'⟩,_,dB.mk' [] _ _ _ rfl ⟨aj.refl _,aj.refl _,aj.refl _,aj.refl _,aj.int rfl,trivial⟩ ⟨⟨_,rfl,au.refl _⟩,⟨_,rfl,au.refl _⟩,⟨_,rfl,au.refl _⟩,⟨_,rfl,au.refl _⟩,⟨_,rfl,au.refl _⟩,⟨_,rfl,au.refl _⟩,⟨_,rfl,au.refl _⟩,⟨_,rfl,au.refl _⟩,⟨_,rfl,au.refl _⟩,trivial⟩ rfl,by show ev.length-(j+1)<ev.length-j;omega⟩
   · obtain rfl:j=ev.length:=by omega
     obtain⟨k1,k2⟩:xk≠2∧xk≠4:=by
      rcases hs with h|⟨i,hi,ho⟩|h
      · exact absurd hr h
      · exact absurd ho (hno i hi)
      · exact h
     clear hs hno
     repeat' ((conv=>whnf);first|refine K1.w ?_|refine K1.u ?_|refine K1.z ?_|refine K1.y (fun _=> ?_) (fun _=> ?_)|fail)
     all_goals(conv=>whnf)
     exact⟨[],rfl,rfl,⟨⟨_,rfl,au.refl _⟩,⟨_,rfl,au.refl _⟩,⟨_,rfl,au.refl _⟩,⟨_,rfl,au.refl _⟩,⟨_,rfl,au.refl _⟩,⟨_,rfl,au.refl _⟩,⟨_,rfl,au.refl _⟩,⟨_,rfl,au.refl _⟩,trivial⟩,rfl,rfl,aj.refl _⟩
 · clear hs
   refine K1.M 0x41900003d0102173 Tryz.func16 40 ?_
   repeat' ((conv=>whnf);first|refine K1.w ?_|refine K1.u ?_|refine K1.P1 (hf) rfl ?_|refine K1.z ?_|refine K1.y (fun _=> ?_) (fun _=> ?_)|fail)
   all_goals(conv=>whnf)
   exact⟨[],rfl,rfl,⟨⟨_,rfl,au.refl _⟩,⟨_,rfl,au.refl _⟩,⟨_,rfl,au.refl _⟩,⟨_,rfl,au.refl _⟩,⟨_,rfl,au.refl _⟩,⟨_,rfl,au.refl _⟩,⟨_,rfl,au.refl _⟩,⟨_,rfl,au.refl _⟩,trivial⟩,rfl,rfl,aj.refl _⟩
end
section
open Go.RowKit
theorem PK (n:Nat) (h:n≤18446744073709551615):([]:List UInt8)++gy 9 n=aB n∧n<128^(9+1):=⟨rfl,by
 have:128^(9+1)=1180591620717411303424:=by decide
 omega⟩
theorem jC (d n:Nat) (h1:n≤18446744073709551615):aH Tryz.prog 35 [.v (.int .u64 (n:Int))] (.own d) [(d,.row 5 1 (aB n).length true (aX (aB n)))]:=by
 have hst:=PK n h1
 refine K1.E 0x4d Tryz.func35 ?_
 repeat' ((conv=>whnf);first|refine K1.w ?_|refine K1.u ?_|refine K1.z ?_|refine K1.y (fun _=> ?_) (fun _=> ?_)|fail)
 refine aJ.mk {x:List UInt8×Nat×Nat//x.1++gy x.2.2 x.2.1=aB n∧x.2.1<128^(x.2.2+1)∧x.1.length≤10∧x.2.1≤18446744073709551615}
  (fun x=>⟨[(0,.v (.int .u64 (x.1.2.1:Int))),(3,.own 90)],[(90,.row 5 1 x.1.1.length true (aX x.1.1))],[],91⟩) (fun x=>x.1.2.1)
  ⟨([],n,9),hst.1,hst.2,by simp,h1⟩ _ (dB.auto _ _ _ rfl ⟨aj.refl _,aj.refl _,trivial⟩ ⟨⟨_,rfl,au.row rfl (fun i hi=>absurd hi (Nat.not_lt_zero i))⟩,trivial⟩ rfl) ?_
 rintro⟨⟨acc,m,f⟩,i1,i2,i3,i4⟩
 dsimp only at i1 i2 i3 i4⊢
 have hl:acc.length+(gy f m).length≤10:=by
  have:=congrArg List.length i1
  have:=bQ 9 n
  simp only[List.length_append,aB]at*
  omega
 have hp:=xU f m
 repeat' ((conv=>whnf);first|refine K1.w ?_|refine K1.u ?_|refine K1.z ?_|refine K1.y (fun _=> ?_) (fun _=> ?_)|fail)
 · obtain⟨f',k1,k2⟩:=FH i1 i2 (by omega)
   refine⟨⟨(acc++[UInt8.ofNat (m%128+128)],m/128,f'),k1,k2,by simp;omega,by dsimp only;omega⟩,_,dB.auto _ _ _ rfl ⟨aj.int (by dsimp only;omega),aj.refl _,trivial⟩ ⟨⟨_,rfl,au.row (by simp) (bn rfl ?_)⟩,trivial⟩ rfl,by show m/128<m;omega⟩
   simp only[chunk,bC,AX (show m%128+128<256 by omega)]
   rfl
 · have e:=Jc i1 (by omega)
   refine aG.qJ d rfl rfl (au.row ?_ ?_) (aj.refl _)
   · rw[←e];simp
   · rw[←e]
     refine bn rfl ?_
     simp only[chunk,bC,AX (show m<256 by omega)]
     rfl
theorem RN (r:Nat) (hr:r<4294967296) (c:UInt8):aH Tryz.prog 105 [.v (.int .u32 (r:Int)),.v (.int .u8 (c.toNat:Int))] (.v (.int .u32 (yc r c:Int))) []:=by
 have hc:=UInt8.toNat_lt c
 have h0:r^^^c.toNat<4294967296:=Nat.xor_lt_two_pow (n:=32) (by omega) (by omega)
 refine K1.E 0x101073 Tryz.func105 ?_
 repeat' ((conv=>whnf);first|refine K1.w ?_|refine K1.u ?_|refine K1.z ?_|refine K1.y (fun _=> ?_) (fun _=> ?_)|fail)
 conv=>whnf
 refine aJ.mk {j:Nat//j≤8} (fun j=>⟨[(0,.v (.int .u32 (AP (r^^^c.toNat) j.1:Int))),(5,.v (.int .i64 (j.1:Int)))],[],[],0⟩) (fun j=>8-j.1) ⟨0,Nat.zero_le _⟩ _
  (dB.mk' [] _ _ _ rfl ⟨aj.int (OE hr (by omega)),aj.int rfl,trivial⟩ trivial rfl) ?_
 rintro⟨j,hj⟩
 dsimp only
 have hj2:=AQ h0 j
 repeat' ((conv=>whnf);first|refine K1.w ?_|refine K1.u ?_|refine aG.cO ?_|refine K1.z ?_|refine K1.y (fun _=> ?_) (fun _=> ?_)|fail)
 · refine⟨⟨j+1,by omega⟩,_,dB.mk' [] _ _ _ rfl ⟨aj.int ?_,aj.int rfl,trivial⟩ trivial rfl,by show 8-(j+1)<8-j;omega⟩
   show _=((mY (AP (r^^^c.toNat) j):Nat):Int)
   unfold mY
   rw[if_pos (by omega),←OE (by omega) (by omega)]
   rfl
 · refine⟨⟨j+1,by omega⟩,_,dB.mk' [] _ _ _ rfl ⟨aj.int ?_,aj.int rfl,trivial⟩ trivial rfl,by show 8-(j+1)<8-j;omega⟩
   show _=((mY (AP (r^^^c.toNat) j):Nat):Int)
   unfold mY
   rw[if_neg (by omega)]
   rfl
 · conv=>whnf
   have:j=8:=by omega
   subst this
   exact aW.mk (aj.refl _)
theorem ZH {r:Nat} (h:r<4294967296):(4294967295:Int)-(r:Int)=((4294967295^^^r:Nat):Int):=by
 have e:(~~~ (BitVec.ofNat 32 r)).toNat=4294967295^^^r:=by
  rw[←BitVec.allOnes_xor]
  simp[BitVec.toNat_xor,Nat.mod_eq_of_lt h]
 rw[BitVec.toNat_not]at e
 simp only[BitVec.toNat_ofNat,Nat.reducePow,Nat.mod_eq_of_lt h]at e
 omega
theorem Wn {n:Nat} {F:Nat→List AV} (l:List UInt8) (hF:bF F l) (hn:n=l.length) (hl:l.length≤140737488355328):aH Tryz.prog 71 [.sl 1 n true F] (.v (.int .u32 (jU l:Int))) []:=by
 refine aH.args (bvs:=[.sl 1 l.length true (aX l)]) ?_ (.of (fun X u hu=>aj.pz (sc:=true) hF hn X u hu) .nil)
 have Yu (j:Nat):mZ (l.take j)<4294967296:=BZ _
 have hs (j:Nat) (c:UInt8):=RN (mZ (l.take j)) (Yu j) c
 refine K1.E 0x11d Tryz.func71 ?_
 repeat' ((conv=>whnf);first|refine K1.w ?_|refine K1.u ?_|refine K1.z ?_|refine K1.y (fun _=> ?_) (fun _=> ?_)|fail)
 conv=>whnf
 refine aJ.mk {j:Nat//j≤l.length} (fun j=>⟨[(0,.sl 1 l.length true (aX l)),(3,.v (.int .u32 (mZ (l.take j.1):Int))),(4,.v (.int .i64 (j.1:Int)))],[],[],0⟩) (fun j=>l.length-j.1) ⟨0,Nat.zero_le _⟩ _
  (dB.mk' [] _ _ _ rfl ⟨aj.refl _,aj.int rfl,aj.int rfl,trivial⟩ trivial rfl) ?_
 rintro⟨j,hj⟩
 dsimp only
 have hjr:=Yu j
 repeat' ((conv=>whnf);first|refine K1.w ?_|refine K1.u ?_|refine K1.P1 (hs j _) rfl ?_|refine aG.cO ?_|refine K1.z ?_|refine K1.y (fun _=> ?_) (fun _=> ?_)|fail)
 · refine⟨⟨j+1,by omega⟩,_,dB.mk' [] _ _ _ rfl ⟨aj.refl _,aj.int ?_,aj.int rfl,trivial⟩ trivial rfl,by show l.length-(j+1)<l.length-j;omega⟩
   show _=((mZ (l.take (j+1)):Nat):Int)
   rw[Dh (by omega)]
   rfl
 · conv=>whnf
   refine aW.mk (aj.int ?_)
   rw[ZH hjr,List.take_of_length_le (by omega)]
   rfl
theorem rF (s:Nat) (x:Int) (h:x=(s:Int)):byteOf' (x%256)=UInt8.ofNat s:=by
 subst h
 apply UInt8.toNat_inj.1
 unfold byteOf'
 rw[UInt8.toNat_ofNat',UInt8.toNat_ofNat']
 omega
theorem zH (d:Nat) {n:Nat} {F:Nat→List AV} (l:List UInt8) (hF:bF F l) (hn:n=l.length) (hl:l.length≤1000000000):
  aH Tryz.prog 37 [.sl 1 n true F] (.own d) [(d,.row 5 1 (eP l).length true (aX (eP l)))]:=by
 refine aH.args (bvs:=[.sl 1 l.length true (aX l)]) ?_ (.of (fun X u hu=>aj.pz (sc:=true) hF hn X u hu) .nil)
 have ht:=Wn l (bF.bytes l) rfl (by omega)
 have hlt:=Jt l
 have hsb:eP l=[]++l++[UInt8.ofNat (jU l)]++[UInt8.ofNat (jU l/256)]++[UInt8.ofNat (jU l/65536)]++[UInt8.ofNat (jU l/16777216)]:=by simp[eP,pI]
 rw[hsb]
 generalize jU l=s at ht hlt
 have hb0:=rF s (s:Int) rfl
 have hb1:=rF (s/256) ((s:Int)/256) (by omega)
 have hb2:=rF (s/65536) ((s:Int)/256/256) (by omega)
 have hb3:=rF (s/16777216) ((s:Int)/256/256/256) (by omega)
 refine K1.E 0x103d Tryz.func37 ?_
 repeat' ((conv=>whnf);first|refine K1.w ?_|refine K1.u ?_|refine K1.P1 (ht) rfl ?_|refine aJ.rP 5 5 rfl ?_|refine K1.z ?_|refine K1.y (fun _=> ?_) (fun _=> ?_)|fail)
 conv=>whnf
 refine aG.qJ d rfl rfl ?_ (aj.refl _)
 rw[←hb0,←hb1,←hb2,←hb3]
 refine au.pz (bF.app (bF.app (bF.app (bF.app (bF.app (bF.nil _) (bF.bytes _) rfl) (bF.one (by omega) (by omega)) ?_) (bF.one (by omega) (by omega)) ?_) (bF.one (by omega) (by omega)) ?_) (bF.one (by omega) (by omega)) ?_) ?_ rfl
 all_goals simp
theorem Wp (n:Int):lT n=0∨lT n=11:=by unfold lT;split<;>simp
theorem abv (s:ByteArray):keyE s=0∨keyE s=10:=by unfold keyE;split<;>simp
theorem PL (n:Int):aH Tryz.prog 136 [.v (.int .i64 n)] (.v (.int .i64 (lT n))) []:=by
 refine K1.E 0x105 Tryz.func136 ?_
 repeat' ((conv=>whnf);first|refine K1.w ?_|refine K1.u ?_|refine K1.z ?_|refine K1.y (fun _=> ?_) (fun _=> ?_)|fail)
 all_goals(refine aG.int rfl ?_;unfold lT;(first|rw[if_pos (by omega)]|rw[if_neg (by omega)]))
theorem PN (s:ByteArray):aH Tryz.prog 137 [.v (.string s)] (.v (.int .i64 (eX s))) []:=by
 refine K1.E 0x405 Tryz.func137 ?_
 repeat' ((conv=>whnf);first|refine K1.w ?_|refine K1.u ?_|refine K1.z ?_|refine K1.y (fun _=> ?_) (fun _=> ?_)|fail)
 all_goals(refine aG.int rfl ?_;unfold eX;(first|rw[if_pos (by omega)]|rw[if_neg (by omega)]))
theorem adb {s:ByteArray} {j:Nat} (h:j<s.size):(s.data.toList.getD j 0)=s[j]'h:=by
 rw[List.getD,List.getElem?_eq_getElem (by rw[qU];exact h)]
 rfl
theorem Wq (s:ByteArray):aH Tryz.prog 135 [.v (.string s)] (.v (.int .i64 (keyE s))) []:=by
 refine K1.E 0x800880d Tryz.func135 ?_
 repeat' ((conv=>whnf);first|refine K1.w ?_|refine K1.u ?_|refine aG.cO ?_|refine K1.z ?_|refine K1.y (fun _=> ?_) (fun _=> ?_)|fail)
 all_goals(conv=>whnf)
 · exact aW.mk (aj.int (xW (by omega)).symm)
 · exact aW.mk (aj.int (xW (by omega)).symm)
 · refine aJ.mk {j:Nat//j≤s.size∧ ∀i (h:i<s.size),i<j→97≤(s[i]'h).toNat∧(s[i]'h).toNat≤122} (fun j=>⟨[(0,.v (.string s)),(3,.v (.int .i64 (j.1:Int)))],[],[],0⟩) (fun j=>s.size-j.1) ⟨0,Nat.zero_le _,fun i _ h=>absurd h (Nat.not_lt_zero i)⟩ _
    (dB.mk' [] _ _ _ rfl ⟨aj.refl _,aj.int rfl,trivial⟩ trivial rfl) ?_
   rintro⟨j,hj,hall⟩
   dsimp only
   repeat' ((conv=>whnf);first|refine K1.w ?_|refine K1.u ?_|refine aG.cO ?_|refine K1.z ?_|refine K1.y (fun _=> ?_) (fun _=> ?_)|fail)
   all_goals(conv=>whnf)
   all_goals first
     | (have hjs:j<s.size:=by omega
        have hsj:(s.data.toList.getD ((j:Int)).toNat 0).toNat=(s[j]'hjs).toNat:=congrArg UInt8.toNat (adb hjs)
        first
          | (refine⟨⟨j+1,by omega,fun i h hi=> ?_⟩,_,dB.mk' [] _ _ _ rfl ⟨aj.refl _,aj.int rfl,trivial⟩ trivial rfl,by show s.size-(j+1)<s.size-j;omega⟩
             by_cases e:i=j
             · subst e;omega
             · exact hall i h (by omega))
          |(exact aW.mk (aj.int (Ea hjs (by omega)).symm)))
     |exact aW.mk (aj.int (SY (by omega) (by omega) (fun i h=>hall i h (by omega))).symm)
theorem Hr (e:Ed):aH Tryz.prog 104 [e.av] (.v (.int .i64 (jE e))) []:=by
 refine K1.E 0x112404407 Tryz.func104 ?_
 repeat' ((conv=>whnf);first|refine K1.w ?_|refine K1.u ?_|refine K1.P1 (Wq _) rfl ?_|refine K1.P1 (PL _) rfl ?_|refine K1.P1 (PN _) rfl ?_|refine K1.z ?_|refine K1.y (fun _=> ?_) (fun _=> ?_)|fail)
 all_goals(refine aG.int rfl ?_;unfold jE;try have h0:=size_pos ‹_›)
 all_goals grind [Je,abv,Wp]
theorem PO (n a b:Int):aH Tryz.prog 103 [.v (.int .i64 n),.v (.int .i64 a),.v (.int .i64 b)] (.v (.bool (decide (a≤n∧n≤b)))) []:=by
 refine K1.E 0x47 Tryz.func103 ?_
 repeat' ((conv=>whnf);first|refine K1.w ?_|refine K1.u ?_|refine K1.z ?_|refine K1.y (fun _=> ?_) (fun _=> ?_)|fail)
 all_goals(refine aG.bool rfl ?_;simp[*])
theorem J8 (e:Ev):aH Tryz.prog 66 [e.av] e.ed.av []:=by
 refine K1.E 0x7 Tryz.func66 ?_
 repeat' ((conv=>whnf);first|refine K1.w ?_|refine K1.u ?_|refine aG.cO ?_|refine K1.z ?_|refine K1.y (fun _=> ?_) (fun _=> ?_)|fail)
 conv=>whnf
 exact aW.mk (aj.refl _)
end
end Go.Proofs.YtimhagicagdkfaaGreat
