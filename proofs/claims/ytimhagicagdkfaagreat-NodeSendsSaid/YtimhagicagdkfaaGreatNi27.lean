/-
  Contracts of the walk:NdU,FrV,FrmF,FrmG,FrW,NdV,NdW,NeP,RefA.
-/
import Derived.Test.YtimhagicagdkfaaGreatNi25
import Derived.Test.YtimhagicagdkfaaGreatNi26
import Derived.Test.YtimhagicagdkfaaGreatNi13
import Derived.Test.YtimhagicagdkfaaGreatNi15
import Derived.Test.YtimhagicagdkfaaGreatNi12
set_option maxHeartbeats 16000000
set_option maxRecDepth 100000
set_option linter.unusedVariables false
set_option linter.unusedSimpArgs false
namespace Go.Proofs.YtimhagicagdkfaaGreat
section
open Go.RowKit
theorem V5 (x:Rc) (h:iK x=true) {n:Nat} {F:Nat→List AV} (hn:n=x.ev.length) (hF: ∀i,i<n→F i=eG x.ev i):
  aG Tryz.prog 41 [rcA x n F] (.dL [.sl 1 (bg x).length true (aV (bg x)),.v (.int .i64 0)]) []:=
 (Cb 0 x h).thaw.args (.of (fun X u hu=>by
  obtain⟨us,e,ha⟩:=hu
  exact⟨us,e,aF.rV (k:=8) rfl (x:= .sl 12 n true F) (y:= .sl 12 x.ev.length true (eG x.ev)) (fun X u hu=>show C2 X (.sl 12 x.ev.length true (eG x.ev)) u from aT.sl hn hF X u (show C2 X (.sl 12 n true F) u from hu)) ha⟩) .nil)
theorem ad4 {l:List Ev} (h:l=[]):l.length=0:=by rw[h];rfl
theorem JW (x:Rc) (h:iK x=true) (he:x.ev=[]):aG Tryz.prog 41 [.agg [.v (.int .i64 x.k),.v (.int .i64 x.r),.v (.int .i64 x.u),.v (.int .i64 x.c.c0),.v (.int .i64 x.c.c1),.v (.int .i64 x.c.c2),.v (.int .i64 x.c.c3),.v (.int .i64 x.c.c4),kM]] (.dL [.sl 1 (bg x).length true (aV (bg x)),.v (.int .i64 0)]) []:=
 (Cb 0 x h).thaw.args (.of (fun X u hu=>by
  obtain⟨us,e,ha⟩:=hu
  exact⟨us,e,aF.rV (k:=8) rfl (x:=kM) (y:= .sl 12 x.ev.length true (eG x.ev)) (fun X u hu=>by
   rw[show x.ev.length=0 from ad4 he]
   exact C1.kM (s:=12) (by decide) (show C1 X (.v (.slice none 0 0)) u from hu)) ha⟩) .nil)
theorem V6 (h:Nd) (hu:h.up=true) (hw:0<h.wait.length) (hl:h.wait.length≤1000000) {k:Nat} (hk:(min (max h.c.w 0) (h.wait.length:Int)).toNat=k) (hm:iK ⟨1,h.r,0,dS,h.wait.take k⟩=true):
  aW Tryz.prog 17 [(0,.obs (lM h))] [.box 0 0] (.dL [.sl 1 (bg ⟨1,h.r,0,dS,h.wait.take k⟩).length true (aV (bg ⟨1,h.r,0,dS,h.wait.take k⟩)),.v (.int .i64 0)]) [(0,.obs (lM h))]:=by
 refine oz (ho:=[]) ⟨_,_,Tryz.func17,rfl,rfl⟩ ?_ rfl
 have hb:=abp h.c.q h.c.w h.sent h.wait hl
 rw[hk]at hb
 have hp:=V5 _ hm (n:=k) (F:=eG h.wait) (by rw[List.length_take];omega) fun i hi=>congrArg Ev.cs (by rw[List.getD,List.getD,List.getElem?_take,if_pos hi])
 generalize bg ⟨1,h.r,0,dS,h.wait.take k⟩=B at hp
 obtain⟨c,r,up,d,log,sent,ic,held,wait⟩:=h
 dsimp only at hu hw
 subst hu
 dsimp only[CG,LX,zi,rcA,dS,List.append_nil]at hb hp⊢
 refine K1.M 0x410d Tryz.func17 40 ?_
 repeat' ((conv=>whnf);first|refine K1.w ?_|refine K1.u ?_|refine K1.C 2 [(0,_),(1,_)] (hb) rfl ?_|refine K1.P1 hp rfl ?_|refine K1.I 0x5 Tryz.func40 ?_|refine K1.o (id:=5) [(0,none),(1,none),(2,none),(3,none),(4,none),(5,none),(6,none),(7,none),(8,some [7,5]),(9,none),(10,some [7,5,3,1]),(11,none),(12,none),(13,none),(14,none)] [(2,[1]),(3,[1]),(6,[5]),(7,[5]),(8,[7,5]),(9,[7,5,3,1]),(10,[7,5,3,1]),(11,[7,5,3,1]),(12,[7,5,3,1]),(13,[7,5,3,1]),(14,[7,5,3,1])] ?_|refine K1.z ?_|refine K1.y (fun _=>?_) (fun _=>?_)|fail)
 all_goals(conv=>whnf)
 exact⟨[],rfl,rfl,⟨aH rfl,aH rfl,aH rfl,aH rfl,aH rfl,aH rfl,aH rfl,aH rfl,trivial⟩,rfl,rfl,aj⟩
theorem Rq (h:Nd) (x:Int) (hx:h.up=false∧x=18∨h.up=true∧h.wait.length=0∧x=24):
  aW Tryz.prog 17 [(0,.obs (lM h))] [.box 0 0] (.dL [kM,.v (.int .i64 x)]) [(0,.obs (lM h))]:=by
 refine oz (ho:=[]) ⟨_,_,Tryz.func17,rfl,rfl⟩ ?_ rfl
 obtain⟨c,r,up,d,log,sent,ic,held,wait⟩:=h
 dsimp only[CG,LX,zi,kM,List.append_nil]at hx⊢
 rcases hx with⟨rfl,rfl⟩|⟨rfl,hw,rfl⟩
 all_goals
  refine K1.M 0x410d Tryz.func17 40 ?_
  repeat' ((conv=>whnf);first|refine K1.w ?_|refine K1.u ?_|refine K1.I 0x5 Tryz.func40 ?_|refine K1.o (id:=5) [(0,none),(1,none),(2,none),(3,none),(4,none),(5,none),(6,none),(7,none),(8,some [7,5]),(9,none),(10,some [7,5,3,1]),(11,none),(12,none),(13,none),(14,none)] [(2,[1]),(3,[1]),(6,[5]),(7,[5]),(8,[7,5]),(9,[7,5,3,1]),(10,[7,5,3,1]),(11,[7,5,3,1]),(12,[7,5,3,1]),(13,[7,5,3,1]),(14,[7,5,3,1])] ?_|refine K1.z ?_|refine K1.y (fun _=>?_) (fun _=>?_)|fail)
  all_goals(conv=>whnf)
  exact⟨[],rfl,rfl,⟨aH rfl,aH rfl,aH rfl,aH rfl,aH rfl,aH rfl,aH rfl,aH rfl,trivial⟩,rfl,rfl,aj⟩
theorem Rt (h:Nd) (hu:h.up=true) (hm:iK ⟨3,h.r,0,h.ic,[]⟩=true):
  aW Tryz.prog 18 [(0,.obs (lM h))] [.box 0 0] (.dL [.sl 1 (bg ⟨3,h.r,0,h.ic,[]⟩).length true (aV (bg ⟨3,h.r,0,h.ic,[]⟩)),.v (.int .i64 0)]) [(0,.obs (lM h))]:=by
 refine oz (ho:=[]) ⟨_,_,Tryz.func18,rfl,rfl⟩ ?_ rfl
 have hp:=JW _ hm rfl
 clear hm
 have hcl:=lU h.c.h h.ic (JH h.held) (.inr ⟨_,_,rfl⟩)
 generalize bg ⟨3,h.r,0,h.ic,[]⟩=B at hp
 obtain⟨c,r,up,d,log,sent,⟨c0,c1,c2,c3,c4⟩,held,wait⟩:=h
 dsimp only at hu
 subst hu
 dsimp only[CG,LX,Ji,kM,bn.av,bn.cs,List.append_nil]at hcl hp⊢
 refine K1.M 0xd Tryz.func18 40 ?_
 repeat' ((conv=>whnf);first|refine K1.w ?_|refine K1.u ?_|refine K1.C 1 [(0,_)] (hcl) rfl ?_|refine K1.P1 hp rfl ?_|refine K1.I 0x433 Tryz.func43 ?_|refine K1.o (id:=3) [(0,none),(1,none),(2,none),(3,none),(4,none),(5,none),(6,none),(7,none),(8,none),(9,some [8,6]),(10,none),(11,some [8,6,4,2]),(12,none),(13,none),(14,none),(15,none)] [(3,[2]),(4,[2]),(7,[6]),(8,[6]),(9,[8,6]),(10,[8,6,4,2]),(11,[8,6,4,2]),(12,[8,6,4,2]),(13,[8,6,4,2]),(14,[8,6,4,2]),(15,[8,6,4,2])] ?_|refine K1.z ?_|refine K1.y (fun _=>?_) (fun _=>?_)|fail)
 all_goals(conv=>whnf)
 exact⟨[],rfl,rfl,⟨aH rfl,aH rfl,aH rfl,aH rfl,aH rfl,aH rfl,aH rfl,aH rfl,trivial⟩,rfl,rfl,aj⟩
theorem Zv (h:Nd) (hu:h.up=true) (hm:iK ⟨5,h.r,0,h.ic,[]⟩=true):
  aW Tryz.prog 19 [(0,.obs (lM h))] [.box 0 0] (.dL [.sl 1 (bg ⟨5,h.r,0,h.ic,[]⟩).length true (aV (bg ⟨5,h.r,0,h.ic,[]⟩)),.v (.int .i64 0)]) [(0,.obs (lM h))]:=by
 refine oz (ho:=[]) ⟨_,_,Tryz.func19,rfl,rfl⟩ ?_ rfl
 have hp:=JW _ hm rfl
 clear hm
 have hcl:=lU h.c.h h.ic (JH h.held) (.inr ⟨_,_,rfl⟩)
 generalize bg ⟨5,h.r,0,h.ic,[]⟩=B at hp
 obtain⟨c,r,up,d,log,sent,⟨c0,c1,c2,c3,c4⟩,held,wait⟩:=h
 dsimp only at hu
 subst hu
 dsimp only[CG,LX,Ji,kM,bn.av,bn.cs,List.append_nil]at hcl hp⊢
 refine K1.M 0xd Tryz.func19 40 ?_
 repeat' ((conv=>whnf);first|refine K1.w ?_|refine K1.u ?_|refine K1.C 1 [(0,_)] (hcl) rfl ?_|refine K1.P1 hp rfl ?_|refine K1.I 0x433 Tryz.func43 ?_|refine K1.o (id:=3) [(0,none),(1,none),(2,none),(3,none),(4,none),(5,none),(6,none),(7,none),(8,none),(9,some [8,6]),(10,none),(11,some [8,6,4,2]),(12,none),(13,none),(14,none),(15,none)] [(3,[2]),(4,[2]),(7,[6]),(8,[6]),(9,[8,6]),(10,[8,6,4,2]),(11,[8,6,4,2]),(12,[8,6,4,2]),(13,[8,6,4,2]),(14,[8,6,4,2]),(15,[8,6,4,2])] ?_|refine K1.z ?_|refine K1.y (fun _=>?_) (fun _=>?_)|fail)
 all_goals(conv=>whnf)
 exact⟨[],rfl,rfl,⟨aH rfl,aH rfl,aH rfl,aH rfl,aH rfl,aH rfl,aH rfl,aH rfl,trivial⟩,rfl,rfl,aj⟩
end
section
open Go.RowKit
theorem Pj (k:Int) (h:k=1∨k=4):aG Tryz.prog 75 [.v (.int .i64 k)] (.dL [.agg [.v (.bool true),.v (.bool false),.v (.bool false)],.v (.bool true)]) []:=by
 have:=kR k
 rcases h with rfl|rfl<;>exact this
theorem Pm (k:Int) (h:k=2):aG Tryz.prog 75 [.v (.int .i64 k)] (.dL [.agg [.v (.bool false),.v (.bool true),.v (.bool false)],.v (.bool true)]) []:=by
 have:=kR k
 rcases h with rfl
 exact this
theorem qc (k:Int) (h:k=3∨k=5):aG Tryz.prog 75 [.v (.int .i64 k)] (.dL [.agg [.v (.bool false),.v (.bool false),.v (.bool true)],.v (.bool true)]) []:=by
 have:=kR k
 rcases h with rfl|rfl<;>exact this
theorem abq (b:List UInt8) (hl:b.length≤1000000000) (h:(dG b).2.2≠0∨b.length<(dG b).2.1+2):aG Tryz.prog 45 [.sl 1 b.length true (aV b)] (.dL [(jv b).1.av,.v (.bool (jv b).2)]) []:=by
 have hs:=iV b (bD.bytes b) rfl
 have hle:=vZ b
 rw[show jv b=(YE,false) by unfold jv;rw[if_pos h]]
 obtain⟨⟨v,u,e⟩,hv⟩: ∃p,dG b=p:=⟨_,rfl⟩
 rw[hv]at hs h hle
 dsimp only at hs h hle
 refine K1.E 0x830100200000020007ed Tryz.func45 ?_
 repeat' ((conv=>whnf);first|refine K1.w ?_|refine K1.u ?_|refine K1.P1 hs rfl ?_|refine aJ.dR ?_|refine K1.o (id:=4) [(0,none),(1,none),(2,none),(3,none),(4,none),(5,none),(6,none),(7,none),(8,none),(9,none),(10,none),(11,none),(12,some []),(13,some [10,9,7,4,3])] [(4,[3]),(8,[7]),(9,[7]),(10,[9,7]),(11,[10,9,7,4,3]),(12,[]),(13,[10,9,7,4,3])] ?_|refine K1.z ?_|refine K1.y (fun _=>?_) (fun _=>?_)|fail)
 all_goals(conv=>whnf)
 all_goals first
   |exact bG.mk (aT.ig _)
   |(exfalso;omega)
theorem abr (b:List UInt8) (hl:b.length≤1000000000) {v u:Nat} (hv:dG b=(v,u,0)) (hu:u+2≤b.length) (hk:((b.getD u default).toNat:Int)=1∨((b.getD u default).toNat:Int)=4):
  aG Tryz.prog 45 [.sl 1 b.length true (aV b)] (.dL [(jv b).1.av,.v (.bool (jv b).2)]) []:=by
 have hs:=iV b (bD.bytes b) rfl
 rw[hv]at hs
 dsimp only at hs
 have hr:jv b=rdB ((b.getD u default).toNat:Int) ((b.getD (u+1) default).toNat:Int) (b.drop (u+2)):=by
  unfold jv
  rw[hv,if_neg (by dsimp only;omega)]
 rw[hr]
 unfold rdB
 rw[if_pos hk]
 have he:=Oy (n:=b.length-(u+2)) (b.drop (u+2)) (bD.drop (bD.bytes b) (u+2)) (by simp) (by simp;omega)
 cases hE:Ie (b.drop (u+2))with
 | none=>
   rw[hE]at he
   dsimp only[Ig]at he
   dsimp only[Rc.av,Rc.cs]
   refine K1.E 0x830100200000020007ed Tryz.func45 ?_
   repeat' ((conv=>whnf);first|refine K1.w ?_|refine K1.u ?_|refine K1.P1 hs rfl ?_|refine K1.P1 (Pj _ hk) rfl ?_|refine K1.P1 he rfl ?_|refine aN.sO 72 6 rfl ?_|refine aJ.dR ?_|refine K1.o (id:=4) [(0,none),(1,none),(2,none),(3,none),(4,none),(5,none),(6,none),(7,none),(8,none),(9,none),(10,none),(11,none),(12,some []),(13,some [10,9,7,4,3])] [(4,[3]),(8,[7]),(9,[7]),(10,[9,7]),(11,[10,9,7,4,3]),(12,[]),(13,[10,9,7,4,3])] ?_|refine K1.z ?_|refine K1.y (fun _=>?_) (fun _=>?_)|fail)
   all_goals(conv=>whnf)
   exact bG.mk (aT.ig _)
 | some l=>
   rw[hE]at he
   dsimp only[Ig]at he
   dsimp only[Rc.av,Rc.cs]
   refine K1.E 0x830100200000020007ed Tryz.func45 ?_
   repeat' ((conv=>whnf);first|refine K1.w ?_|refine K1.u ?_|refine K1.P1 hs rfl ?_|refine K1.P1 (Pj _ hk) rfl ?_|refine K1.P1 he rfl ?_|refine aN.sO 72 6 rfl ?_|refine aJ.dR ?_|refine K1.o (id:=4) [(0,none),(1,none),(2,none),(3,none),(4,none),(5,none),(6,none),(7,none),(8,none),(9,none),(10,none),(11,none),(12,some []),(13,some [10,9,7,4,3])] [(4,[3]),(8,[7]),(9,[7]),(10,[9,7]),(11,[10,9,7,4,3]),(12,[]),(13,[10,9,7,4,3])] ?_|refine K1.z ?_|refine K1.y (fun _=>?_) (fun _=>?_)|fail)
   all_goals(conv=>whnf)
   exact bG.mk (aj)
theorem G7 {b:List UInt8} {v u:Nat} (hv:dG b=(v,u,0)) (hu:u+2≤b.length):jv b=rdB ((b.getD u default).toNat:Int) ((b.getD (u+1) default).toNat:Int) (b.drop (u+2)):=by
 unfold jv
 rw[hv,if_neg (by dsimp only;omega)]
theorem abt (b:List UInt8) (hl:b.length≤1000000000) {v u:Nat} (hv:dG b=(v,u,0)) (hu:u+2≤b.length) (hk:((b.getD u default).toNat:Int)=2):
  aG Tryz.prog 45 [.sl 1 b.length true (aV b)] (.dL [(jv b).1.av,.v (.bool (jv b).2)]) []:=by
 have hs:=iV b (bD.bytes b) rfl
 rw[hv]at hs
 dsimp only at hs
 rw[G7 hv hu]
 unfold rdB
 rw[if_neg (by omega),if_pos hk]
 cases hE:kS (b.drop (u+2))with
 | none=>
   have he:=pY (n:=b.length-(u+2)) (b.drop (u+2)) hE (bD.drop (bD.bytes b) (u+2)) (by simp)
   dsimp only[Rc.av,Rc.cs]
   refine K1.E 0x830100200000020007ed Tryz.func45 ?_
   repeat' ((conv=>whnf);first|refine K1.w ?_|refine K1.u ?_|refine K1.P1 hs rfl ?_|refine K1.P1 (Pm _ hk) rfl ?_|refine K1.P1 he rfl ?_|refine aN.sO 72 6 rfl ?_|refine aJ.dR ?_|refine K1.o (id:=4) [(0,none),(1,none),(2,none),(3,none),(4,none),(5,none),(6,none),(7,none),(8,none),(9,none),(10,none),(11,none),(12,some []),(13,some [10,9,7,4,3])] [(4,[3]),(8,[7]),(9,[7]),(10,[9,7]),(11,[10,9,7,4,3]),(12,[]),(13,[10,9,7,4,3])] ?_|refine K1.z ?_|refine K1.y (fun _=>?_) (fun _=>?_)|fail)
   all_goals(conv=>whnf)
   exact bG.mk (aT.ig _)
 | some p=>
   obtain⟨m,k⟩:=p
   have he:=pX (n:=b.length-(u+2)) (b.drop (u+2)) hE (bD.drop (bD.bytes b) (u+2)) (by simp)
   dsimp only[Rc.av,Rc.cs]
   refine K1.E 0x830100200000020007ed Tryz.func45 ?_
   repeat' ((conv=>whnf);first|refine K1.w ?_|refine K1.u ?_|refine K1.P1 hs rfl ?_|refine K1.P1 (Pm _ hk) rfl ?_|refine K1.P1 he rfl ?_|refine aN.sO 72 6 rfl ?_|refine aJ.dR ?_|refine K1.o (id:=4) [(0,none),(1,none),(2,none),(3,none),(4,none),(5,none),(6,none),(7,none),(8,none),(9,none),(10,none),(11,none),(12,some []),(13,some [10,9,7,4,3])] [(4,[3]),(8,[7]),(9,[7]),(10,[9,7]),(11,[10,9,7,4,3]),(12,[]),(13,[10,9,7,4,3])] ?_|refine K1.z ?_|refine K1.y (fun _=>?_) (fun _=>?_)|fail)
   all_goals(conv=>whnf)
   exact bG.mk (aT.ig _)
theorem ac8 {k:Int} (h: ¬ (k=1∨k=4)∧ ¬k=2∧ ¬ (k=3∨k=5)): ¬ (1≤k∧k≤5):=by omega
theorem V7 (b:List UInt8) (hl:b.length≤1000000000) {v u:Nat} (hv:dG b=(v,u,0)) (hu:u+2≤b.length) (hk: ¬ (((b.getD u default).toNat:Int)=1∨((b.getD u default).toNat:Int)=4)∧ ¬ ((b.getD u default).toNat:Int)=2∧ ¬ (((b.getD u default).toNat:Int)=3∨((b.getD u default).toNat:Int)=5)):
  aG Tryz.prog 45 [.sl 1 b.length true (aV b)] (.dL [(jv b).1.av,.v (.bool (jv b).2)]) []:=by
 have hs:=iV b (bD.bytes b) rfl
 rw[hv]at hs
 dsimp only at hs
 rw[G7 hv hu]
 unfold rdB
 rw[if_neg hk.1,if_neg hk.2.1,if_neg hk.2.2]
 have hk5:=ac8 hk
 dsimp only[Rc.av,Rc.cs]
 refine K1.E 0x830100200000020007ed Tryz.func45 ?_
 repeat' ((conv=>whnf);first|refine K1.w ?_|refine K1.u ?_|refine K1.P1 hs rfl ?_|refine K1.P1 (Oq _ hk5) rfl ?_|refine aN.sO 72 6 rfl ?_|refine aJ.dR ?_|refine K1.o (id:=4) [(0,none),(1,none),(2,none),(3,none),(4,none),(5,none),(6,none),(7,none),(8,none),(9,none),(10,none),(11,none),(12,some []),(13,some [10,9,7,4,3])] [(4,[3]),(8,[7]),(9,[7]),(10,[9,7]),(11,[10,9,7,4,3]),(12,[]),(13,[10,9,7,4,3])] ?_|refine K1.z ?_|refine K1.y (fun _=>?_) (fun _=>?_)|fail)
 all_goals(conv=>whnf)
 exact bG.mk (aT.ig _)
theorem Zw (b:List UInt8) (hl:b.length≤1000000000) {v u:Nat} (hv:dG b=(v,u,0)) (hu:u+2≤b.length) (hk:((b.getD u default).toNat:Int)=3∨((b.getD u default).toNat:Int)=5):
  aG Tryz.prog 45 [.sl 1 b.length true (aV b)] (.dL [(jv b).1.av,.v (.bool (jv b).2)]) []:=by
 have hs:=iV b (bD.bytes b) rfl
 rw[hv]at hs
 dsimp only at hs
 rw[G7 hv hu]
 unfold rdB
 rw[if_neg (by omega),if_neg (by omega),if_pos hk]
 have hF:=bD.drop (bD.bytes b) (u+2)
 have hn:b.length-(u+2)=(b.drop (u+2)).length:=by simp
 cases g0:kS (b.drop (u+2))with
 | none=>
   have e0:=pY (n:=b.length-(u+2)) (b.drop (u+2)) g0 hF hn
   have hr:zH (b.drop (u+2))=(⟨0,0,0,0,0⟩,false):=by unfold zH;simp only[g0]
   rw[hr]
   dsimp only[Rc.av,Rc.cs]
   refine K1.E 0x830100200000020007ed Tryz.func45 ?_
   repeat' ((conv=>whnf);first|refine K1.w ?_|refine K1.u ?_|refine K1.P1 hs rfl ?_|refine K1.P1 (qc _ hk) rfl ?_|refine K1.P1 e0 rfl ?_|refine aN.sO 72 6 rfl ?_|refine aJ.dR ?_|refine K1.o (id:=4) [(0,none),(1,none),(2,none),(3,none),(4,none),(5,none),(6,none),(7,none),(8,none),(9,none),(10,none),(11,none),(12,some []),(13,some [10,9,7,4,3])] [(4,[3]),(8,[7]),(9,[7]),(10,[9,7]),(11,[10,9,7,4,3]),(12,[]),(13,[10,9,7,4,3])] ?_|refine K1.z ?_|refine K1.y (fun _=>?_) (fun _=>?_)|fail)
   all_goals(conv=>whnf)
   exact bG.mk (aT.ig _)
 | some p0 =>
   obtain⟨m0,k0⟩:=p0
   have l0:=uJ g0
   rw[←hn]at l0
   have e0:=pX (n:=b.length-(u+2)) (b.drop (u+2)) g0 hF hn
   have n1:(b.length-(u+2)-k0)=((b.drop (u+2)).drop k0).length:=by simp;omega
   cases g1:kS ((b.drop (u+2)).drop k0)with
   | none=>
     have e1:=pY (n:=(b.length-(u+2)-k0)) ((b.drop (u+2)).drop k0) g1 (bD.drop hF k0) (by simp;omega)
     have hr:zH (b.drop (u+2))=(⟨m0,0,0,0,0⟩,false):=by unfold zH;simp only[g0,g1]
     rw[hr]
     dsimp only[Rc.av,Rc.cs]
     refine K1.E 0x830100200000020007ed Tryz.func45 ?_
     repeat' ((conv=>whnf);first|refine K1.w ?_|refine K1.u ?_|refine K1.P1 hs rfl ?_|refine K1.P1 (qc _ hk) rfl ?_|refine K1.P1 e0 rfl ?_|refine K1.P1 e1 rfl ?_|refine aN.sO 72 6 rfl ?_|refine aJ.dR ?_|refine K1.o (id:=4) [(0,none),(1,none),(2,none),(3,none),(4,none),(5,none),(6,none),(7,none),(8,none),(9,none),(10,none),(11,none),(12,some []),(13,some [10,9,7,4,3])] [(4,[3]),(8,[7]),(9,[7]),(10,[9,7]),(11,[10,9,7,4,3]),(12,[]),(13,[10,9,7,4,3])] ?_|refine K1.z ?_|refine K1.y (fun _=>?_) (fun _=>?_)|fail)
     all_goals(conv=>whnf)
     exact bG.mk (aT.ig _)
   | some p1=>
     obtain⟨m1,k1⟩:=p1
     have l1:=uJ g1
     rw[←n1]at l1
     have e1:=pX (n:=(b.length-(u+2)-k0)) ((b.drop (u+2)).drop k0) g1 (bD.drop hF k0) (by simp;omega)
     have n2:((b.length-(u+2)-k0)-k1)=(((b.drop (u+2)).drop k0).drop k1).length:=by simp;omega
     cases g2:kS (((b.drop (u+2)).drop k0).drop k1)with
     | none=>
       have e2:=pY (n:=((b.length-(u+2)-k0)-k1)) (((b.drop (u+2)).drop k0).drop k1) g2 (bD.drop (bD.drop hF k0) k1) (by simp;omega)
       have hr:zH (b.drop (u+2))=(⟨m0,m1,0,0,0⟩,false):=by unfold zH;simp only[g0,g1,g2]
       rw[hr]
       dsimp only[Rc.av,Rc.cs]
       refine K1.E 0x830100200000020007ed Tryz.func45 ?_
       repeat' ((conv=>whnf);first|refine K1.w ?_|refine K1.u ?_|refine K1.P1 hs rfl ?_|refine K1.P1 (qc _ hk) rfl ?_|refine K1.P1 e0 rfl ?_|refine K1.P1 e1 rfl ?_|refine K1.P1 e2 rfl ?_|refine aN.sO 72 6 rfl ?_|refine aJ.dR ?_|refine K1.o (id:=4) [(0,none),(1,none),(2,none),(3,none),(4,none),(5,none),(6,none),(7,none),(8,none),(9,none),(10,none),(11,none),(12,some []),(13,some [10,9,7,4,3])] [(4,[3]),(8,[7]),(9,[7]),(10,[9,7]),(11,[10,9,7,4,3]),(12,[]),(13,[10,9,7,4,3])] ?_|refine K1.z ?_|refine K1.y (fun _=>?_) (fun _=>?_)|fail)
       all_goals(conv=>whnf)
       exact bG.mk (aT.ig _)
     | some p2=>
       obtain⟨m2,k2⟩:=p2
       have l2:=uJ g2
       rw[←n2]at l2
       have e2:=pX (n:=((b.length-(u+2)-k0)-k1)) (((b.drop (u+2)).drop k0).drop k1) g2 (bD.drop (bD.drop hF k0) k1) (by simp;omega)
       have n3:(((b.length-(u+2)-k0)-k1)-k2)=((((b.drop (u+2)).drop k0).drop k1).drop k2).length:=by simp;omega
       cases g3:kS ((((b.drop (u+2)).drop k0).drop k1).drop k2)with
       | none=>
         have e3:=pY (n:=(((b.length-(u+2)-k0)-k1)-k2)) ((((b.drop (u+2)).drop k0).drop k1).drop k2) g3 (bD.drop (bD.drop (bD.drop hF k0) k1) k2) (by simp;omega)
         have hr:zH (b.drop (u+2))=(⟨m0,m1,m2,0,0⟩,false):=by unfold zH;simp only[g0,g1,g2,g3]
         rw[hr]
         dsimp only[Rc.av,Rc.cs]
         refine K1.E 0x830100200000020007ed Tryz.func45 ?_
         repeat' ((conv=>whnf);first|refine K1.w ?_|refine K1.u ?_|refine K1.P1 hs rfl ?_|refine K1.P1 (qc _ hk) rfl ?_|refine K1.P1 e0 rfl ?_|refine K1.P1 e1 rfl ?_|refine K1.P1 e2 rfl ?_|refine K1.P1 e3 rfl ?_|refine aN.sO 72 6 rfl ?_|refine aJ.dR ?_|refine K1.o (id:=4) [(0,none),(1,none),(2,none),(3,none),(4,none),(5,none),(6,none),(7,none),(8,none),(9,none),(10,none),(11,none),(12,some []),(13,some [10,9,7,4,3])] [(4,[3]),(8,[7]),(9,[7]),(10,[9,7]),(11,[10,9,7,4,3]),(12,[]),(13,[10,9,7,4,3])] ?_|refine K1.z ?_|refine K1.y (fun _=>?_) (fun _=>?_)|fail)
         all_goals(conv=>whnf)
         exact bG.mk (aT.ig _)
       | some p3=>
         obtain⟨m3,k3⟩:=p3
         have l3:=uJ g3
         rw[←n3]at l3
         have e3:=pX (n:=(((b.length-(u+2)-k0)-k1)-k2)) ((((b.drop (u+2)).drop k0).drop k1).drop k2) g3 (bD.drop (bD.drop (bD.drop hF k0) k1) k2) (by simp;omega)
         have n4:((((b.length-(u+2)-k0)-k1)-k2)-k3)=(((((b.drop (u+2)).drop k0).drop k1).drop k2).drop k3).length:=by simp;omega
         cases g4:kS (((((b.drop (u+2)).drop k0).drop k1).drop k2).drop k3)with
         | none=>
           have e4:=pY (n:=((((b.length-(u+2)-k0)-k1)-k2)-k3)) (((((b.drop (u+2)).drop k0).drop k1).drop k2).drop k3) g4 (bD.drop (bD.drop (bD.drop (bD.drop hF k0) k1) k2) k3) (by simp;omega)
           have hr:zH (b.drop (u+2))=(⟨m0,m1,m2,m3,0⟩,false):=by unfold zH;simp only[g0,g1,g2,g3,g4]
           rw[hr]
           dsimp only[Rc.av,Rc.cs]
           refine K1.E 0x830100200000020007ed Tryz.func45 ?_
           repeat' ((conv=>whnf);first|refine K1.w ?_|refine K1.u ?_|refine K1.P1 hs rfl ?_|refine K1.P1 (qc _ hk) rfl ?_|refine K1.P1 e0 rfl ?_|refine K1.P1 e1 rfl ?_|refine K1.P1 e2 rfl ?_|refine K1.P1 e3 rfl ?_|refine K1.P1 e4 rfl ?_|refine aN.sO 72 6 rfl ?_|refine aJ.dR ?_|refine K1.o (id:=4) [(0,none),(1,none),(2,none),(3,none),(4,none),(5,none),(6,none),(7,none),(8,none),(9,none),(10,none),(11,none),(12,some []),(13,some [10,9,7,4,3])] [(4,[3]),(8,[7]),(9,[7]),(10,[9,7]),(11,[10,9,7,4,3]),(12,[]),(13,[10,9,7,4,3])] ?_|refine K1.z ?_|refine K1.y (fun _=>?_) (fun _=>?_)|fail)
           all_goals(conv=>whnf)
           exact bG.mk (aT.ig _)
         | some p4=>
           obtain⟨m4,k4⟩:=p4
           have l4:=uJ g4
           rw[←n4]at l4
           have e4:=pX (n:=((((b.length-(u+2)-k0)-k1)-k2)-k3)) (((((b.drop (u+2)).drop k0).drop k1).drop k2).drop k3) g4 (bD.drop (bD.drop (bD.drop (bD.drop hF k0) k1) k2) k3) (by simp;omega)
           have hr:zH (b.drop (u+2))=(⟨m0,m1,m2,m3,m4⟩,true):=by unfold zH;simp only[g0,g1,g2,g3,g4]
           rw[hr]
           dsimp only[Rc.av,Rc.cs]
           refine K1.E 0x830100200000020007ed Tryz.func45 ?_
           repeat' ((conv=>whnf);first|refine K1.w ?_|refine K1.u ?_|refine K1.P1 hs rfl ?_|refine K1.P1 (qc _ hk) rfl ?_|refine K1.P1 e0 rfl ?_|refine K1.P1 e1 rfl ?_|refine K1.P1 e2 rfl ?_|refine K1.P1 e3 rfl ?_|refine K1.P1 e4 rfl ?_|refine aN.sO 72 6 rfl ?_|refine aJ.dR ?_|refine K1.o (id:=4) [(0,none),(1,none),(2,none),(3,none),(4,none),(5,none),(6,none),(7,none),(8,none),(9,none),(10,none),(11,none),(12,some []),(13,some [10,9,7,4,3])] [(4,[3]),(8,[7]),(9,[7]),(10,[9,7]),(11,[10,9,7,4,3]),(12,[]),(13,[10,9,7,4,3])] ?_|refine K1.z ?_|refine K1.y (fun _=>?_) (fun _=>?_)|fail)
           all_goals(conv=>whnf)
           exact bG.mk (aT.ig _)
theorem ac9 (b:List UInt8) (hl:b.length≤1000000000):aG Tryz.prog 45 [.sl 1 b.length true (aV b)] (.dL [(jv b).1.av,.v (.bool (jv b).2)]) []:=by
 by_cases h:(dG b).2.2≠0∨b.length<(dG b).2.1+2
 · exact abq b hl h
 · obtain⟨⟨v,u,e⟩,hv⟩: ∃p,dG b=p:=⟨_,rfl⟩
   rw[hv]at h
   dsimp only at h
   obtain rfl:e=0:=by omega
   have hu:u+2≤b.length:=by omega
   by_cases h1:((b.getD u default).toNat:Int)=1∨((b.getD u default).toNat:Int)=4
   · exact abr b hl hv hu h1
   · by_cases h2:((b.getD u default).toNat:Int)=2
     · exact abt b hl hv hu h2
     · by_cases h3:((b.getD u default).toNat:Int)=3∨((b.getD u default).toNat:Int)=5
       · exact Zw b hl hv hu h3
       · exact V7 b hl hv hu ⟨h1,h2,h3⟩
theorem V8 {n:Nat} {F:Nat→List AV} (b:List UInt8) (hF:bD F b) (hn:n=b.length) (hl:b.length≤1000000000):aG Tryz.prog 45 [.sl 1 n true F] (.dL [(jv b).1.av,.v (.bool (jv b).2)]) []:=
 (ac9 b hl).args (Ch.pF hF hn .nil)
end
section
open Go.RowKit
end
section
open Go.RowKit
theorem L6 {n:Nat} {F:Nat→List AV} (h:2048<n):aG Tryz.prog 20 [.sl 1 n true F] (.dL [.agg (acK 0 0 0 0 0 0 0 0 (.v (.slice none 0 0))),.v (.int .i64 5)]) []:=by
 refine K1.E 0x200080809fd Tryz.func20 ?_
 repeat' ((conv=>whnf);first|refine K1.w ?_|refine K1.u ?_|refine aJ.dR ?_|refine K1.z ?_|refine K1.y (fun _=>?_) (fun _=>?_)|fail)
 conv=>whnf
 exact bG.mk (aj)
end
section
open Go.RowKit
theorem Zx {b:List UInt8} {l:List Ev} (h:Ie b=some l):l.length≤255:=by
 rcases b with _|⟨c,t⟩
 · cases h
 · have h:(je t c.toNat).map (·.1)=some l:=h
   cases h0:je t c.toNat with
   |none=>rw[h0]at h;cases h
   | some p=>
     obtain⟨l0,r0⟩:=p
     rw[h0]at h
     simp only[Option.map_some,Option.some.injEq]at h
     subst h
     have:=(nU h0).1
     have:=UInt8.toNat_lt c
     omega
theorem V9 (b:List UInt8):(jv b).1.ev.length≤255:=by
 unfold jv
 split
 · simp[YE]
 · unfold rdB
   split
   · split
     · simp
     · rename_i l h
       exact Zx h
   · split
     · split<;>simp
     · split<;>simp
theorem Zy (l:List UInt8) (hl:l.length≤2048):aG Tryz.prog 20 [.sl 1 l.length true (aV l)] (.dL [(AY l).1.av,.v (.int .i64 (AY l).2)]) []:=by
 unfold AY
 rw[if_neg (by omega)]
 by_cases ho:rW l
 · rw [if_pos ho]
   have hF:bD (aV l) (eX (inner l)):=by rw[←AX ho];exact bD.bytes l
   have hil:(inner l).length≤l.length:=by unfold inner;rw[List.length_take];omega
   have hop:=(Jk 0 (inner l) hF (by rw[←AX ho]) (by omega)).thaw
   have hrd:=V8 (inner l) (bD.bytes _) rfl (by omega)
   have hrl:=V9 (inner l)
   generalize inner l=m at hop hrd hrl
   obtain⟨⟨z,ok⟩,hz⟩: ∃p,jv m=p:=⟨_,rfl⟩
   rw[hz]at hrd hrl⊢
   dsimp only at hrd hrl⊢
   cases ok with
   | false=>
     rw[if_neg (by simp)]
     refine K1.E 0x200080809fd Tryz.func20 ?_
     repeat' ((conv=>whnf);first|refine K1.w ?_|refine K1.u ?_|refine K1.P1 hop rfl ?_|refine K1.P1 hrd rfl ?_|refine aJ.dR ?_|refine K1.z ?_|refine K1.y (fun _=>?_) (fun _=>?_)|fail)
     all_goals(conv=>whnf)
     all_goals exact bG.mk (aT.ig _)
   | true=>
     cases hm:iK z with
     | false=>
       rw[if_neg (by simp)]
       have hp:=YA z (by omega) hm
       refine K1.E 0x200080809fd Tryz.func20 ?_
       repeat' ((conv=>whnf);first|refine K1.w ?_|refine K1.u ?_|refine K1.P1 hop rfl ?_|refine K1.P1 hrd rfl ?_|refine K1.P1 hp rfl ?_|refine aJ.dR ?_|refine K1.z ?_|refine K1.y (fun _=>?_) (fun _=>?_)|fail)
       all_goals(conv=>whnf)
       all_goals exact bG.mk (aT.ig _)
     | true=>
       have hp:=(Cb 0 z hm).thaw
       have he:=Gp (bg z) l (bD.bytes _) rfl (bD.bytes _) rfl
       by_cases hb:bg z=l
       · rw[if_pos ⟨rfl,rfl,hb⟩]
         rw[decide_eq_true hb]at he
         generalize bg z=w at hp he
         refine K1.E 0x200080809fd Tryz.func20 ?_
         repeat' ((conv=>whnf);first|refine K1.w ?_|refine K1.u ?_|refine K1.P1 hop rfl ?_|refine K1.P1 hrd rfl ?_|refine K1.P1 hp rfl ?_|refine K1.P1 he rfl ?_|refine aJ.dR ?_|refine K1.z ?_|refine K1.y (fun _=>?_) (fun _=>?_)|fail)
         all_goals(conv=>whnf)
         all_goals exact bG.mk (aj)
       · rw[if_neg (fun h=>hb h.2.2)]
         rw[decide_eq_false hb]at he
         generalize bg z=w at hp he
         refine K1.E 0x200080809fd Tryz.func20 ?_
         repeat' ((conv=>whnf);first|refine K1.w ?_|refine K1.u ?_|refine K1.P1 hop rfl ?_|refine K1.P1 hrd rfl ?_|refine K1.P1 hp rfl ?_|refine K1.P1 he rfl ?_|refine aJ.dR ?_|refine K1.z ?_|refine K1.y (fun _=>?_) (fun _=>?_)|fail)
         all_goals(conv=>whnf)
         all_goals exact bG.mk (aT.ig _)
 · rw[if_neg ho]
   have hop:=Tj l ho (bD.bytes _) rfl (by omega)
   refine K1.E 0x200080809fd Tryz.func20 ?_
   repeat' ((conv=>whnf);first|refine K1.w ?_|refine K1.u ?_|refine K1.P1 hop rfl ?_|refine aJ.dR ?_|refine K1.z ?_|refine K1.y (fun _=>?_) (fun _=>?_)|fail)
   all_goals(conv=>whnf)
   all_goals exact bG.mk (aT.ig _)
theorem qJ {n:Nat} {F:Nat→List AV} (l:List UInt8) {z:Rc} {x:Int} (ht:AY l=(z,x)) (hF:bD F l) (hn:n=l.length):
  aG Tryz.prog 20 [.sl 1 n true F] (.dL [z.av,.v (.int .i64 x)]) []:=by
 rcases Nat.lt_or_ge 2048 l.length with h|h
 · unfold AY at ht
   rw[if_pos h]at ht
   simp only[Prod.mk.injEq]at ht
   obtain⟨rfl,rfl⟩:=ht
   exact(L6 (n:=n) (F:=F) (by omega)).res (aT.ig _)
 · have:=Zy l h
   rw[ht]at this
   exact this.args (Ch.pF hF hn .nil)
end
section
open Go.RowKit
end
section
open Go.RowKit
def G8 (h:Nd) (u:Int):Int:=if(if h.ic.at h.r<u then h.ic.at h.r else u)>h.sent then(if h.ic.at h.r<u then h.ic.at h.r else u)else h.sent
theorem G9 (h:Nd) (hu:h.up=true) (l:List UInt8) {x:Rc} (ht:AY l=(x,0)) (hr5:h.r<5) (hx:x.r=(h.r:Int)) (hk:x.k=2) (he:x.ev=[]) (hs:G8 h x.u=h.sent) {n:Nat} {F:Nat→List AV} (hF:bD F l) (hn:n=l.length):
  aW Tryz.prog 16 [(0,.obs (lM h))] [.box 0 0,.sl 1 n true F] (.v (.int .i64 0)) [(0,.obs (lM h))]:=by
 refine oz (ho:=[]) ⟨_,_,Tryz.func16,rfl,rfl⟩ ?_ rfl
 have hf:=qJ l ht hF hn
 have hcl:=lU h.c.h h.ic (JH h.held) (.inr ⟨_,_,rfl⟩)
 obtain⟨c,r,up,d,log,sent,⟨c0,c1,c2,c3,c4⟩,held,wait⟩:=h
 obtain⟨xk,xr,xu,⟨xc0,xc1,xc2,xc3,xc4⟩,ev⟩:=x
 dsimp only at hu hx hk he hr5
 subst hu hx hk he
 dsimp only[CG,LX,Ji,Rc.av,Rc.cs,acK,bn.av,bn.cs,G8,List.append_nil,List.length_nil]at hf hcl hs⊢
 clear ht hF
 refine K1.M 0x41900003d0102173 Tryz.func16 40 ?_
 repeat' ((conv=>whnf);first|refine K1.w ?_|refine K1.u ?_|refine K1.P1 hf rfl ?_|refine K1.C 1 [(0,_)] (hcl) rfl ?_|refine K1.I 0x8020000073 Tryz.func38 ?_|(refine qM.five hr5 (fun e=>?_) (fun e=>?_) (fun e=>?_) (fun e=>?_) (fun e=>?_)<;>subst e)|refine aN.rounds 1 ?_|refine K1.o (id:=1) [(0,none),(1,none),(2,none),(3,none),(4,none),(5,none),(6,none),(7,none),(8,none),(10,none),(11,none),(12,none),(13,none),(9,some [8,6]),(14,none),(15,none),(16,none),(17,none)] [(7,[6]),(8,[6]),(9,[8,6]),(14,[8,6]),(15,[8,6]),(16,[8,6]),(17,[8,6])] ?_|refine K1.z ?_|refine K1.y (fun _=>?_) (fun _=>?_)|fail)
 all_goals(conv=>whnf)
 all_goals exact⟨[],rfl,rfl,⟨aH rfl,aH rfl,aH rfl,aH rfl,aH rfl,aH rfl,aH rfl,aH rfl,trivial⟩,rfl,rfl,aj⟩
theorem Wh (x:Rc) (h:lC x=true) (he:x.ev.length=0):aG Tryz.prog 93 [.agg [.v (.int .i64 x.k),.v (.int .i64 x.r),.v (.int .i64 x.u),.v (.int .i64 x.c.c0),.v (.int .i64 x.c.c1),.v (.int .i64 x.c.c2),.v (.int .i64 x.c.c3),.v (.int .i64 x.c.c4),kM]] (.dL [.sl 1 (aQ x).length true (aV (aQ x)),.v (.int .i64 0)]) []:=
 (BZ 0 x h).thaw.args (.of (fun X u hu=>by
  obtain⟨us,e,ha⟩:=hu
  exact⟨us,e,aF.rV (k:=8) rfl (x:=kM) (y:= .sl 12 x.ev.length true (eG x.ev)) (fun X u hu=>by
   rw[he]
   exact C1.kM (s:=12) (by decide) (show C1 X (.v (.slice none 0 0)) u from hu)) ha⟩) .nil)
def Zz (h:Nd) (s:Int):Rc:=⟨3,h.r,s,dS,[]⟩
theorem L8 (h:Nd) (hu:h.up=true) (l:List UInt8) {x:Rc} (ht:AY l=(x,0)) (hr5:h.r<5) (hx:x.r=(h.r:Int)) (hk:x.k=2) (he:x.ev=[]) {s:Int} (hs:G8 h x.u=s) (hne:s≠h.sent) (hs0:0≤h.sent∧h.sent≤1000000) (hs1:0≤s∧s≤1000000) (hwl:h.wait.length≤1000000) (hb:h.d.bs.length≤100000000)
  (hm:lC (Zz h s)=true) (d':Dk) (hw:oV h.d (aQ (Zz h s))=(d',0)) {n:Nat} {F:Nat→List AV} (hF:bD F l) (hn:n=l.length):
  aW Tryz.prog 16 [(0,.obs (lM h))] [.box 0 0,.sl 1 n true F] (.v (.int .i64 0)) [(0,.obs (lM ⟨h.c,h.r,true,d',h.log,h.sent+(wW h.sent s h.wait.length:Int),h.ic,h.held,h.wait.drop (wW h.sent s h.wait.length)⟩))]:=by
 refine Eh (ho:=[]) 15 10 11 12 13 17 ⟨_,_,Tryz.func16,rfl,rfl⟩ rfl ?_ rfl
 have hf:=qJ l ht hF hn
 have hcl:=lU h.c.h h.ic (JH h.held) (.inr ⟨_,_,rfl⟩)
 have hp:=Wh (Zz h s) hm rfl
 have hmx:=oO (Zz h s) hm
 have hdk:=zy h.d d' (aQ (Zz h s)) 0 (bD.bytes _) rfl (by omega) (by omega) hw
 have hst:=V4 h.c.q h.c.w h.sent s h.wait hwl (by omega) (by omega)
 generalize aQ (Zz h s)=wb at hp hdk hmx hw
 generalize wW h.sent s h.wait.length=K at*
 obtain⟨c,r,up,d,log,sent,⟨c0,c1,c2,c3,c4⟩,held,wait⟩:=h
 obtain⟨xk,xr,xu,⟨xc0,xc1,xc2,xc3,xc4⟩,ev⟩:=x
 dsimp only at hu hx hk he hr5
 subst hu hx hk he
 dsimp only[CG,ndN,LX,Ji,zi,PK,Zz,kM,dS,Rc.av,Rc.cs,acK,bn.av,bn.cs,G8,List.append_nil,List.length_nil]at hf hcl hs hne hp hdk hst⊢
 clear ht hF hm hw
 refine K1.M 0x41900003d0102173 Tryz.func16 40 ?_
 repeat' ((conv=>whnf);first|refine K1.w ?_|refine K1.u ?_|refine K1.P1 hf rfl ?_|refine K1.C 1 [(0,_)] (hcl) rfl ?_|refine K1.P1 hp rfl ?_|refine K1.C 2 [(0,_),(1,_)] (hdk) rfl ?_|refine K1.C 2 [(0,_),(1,_)] (hst) rfl ?_|refine K1.I 0x8020000073 Tryz.func38 ?_|refine K1.I 0x8207b Tryz.func54 ?_|refine K1.I 0x85 Tryz.func47 ?_|(refine qM.five hr5 (fun e=>?_) (fun e=>?_) (fun e=>?_) (fun e=>?_) (fun e=>?_)<;>subst e<;>simp only[bn.at]at hs<;>subst hs)|refine aN.rounds 1 ?_|refine K1.o (id:=1) [(0,none),(1,none),(2,none),(3,none),(4,none),(5,none),(6,none),(7,none),(8,none),(10,none),(11,none),(12,none),(13,none),(9,some [8,6]),(14,none),(15,none),(16,none),(17,none)] [(7,[6]),(8,[6]),(9,[8,6]),(14,[8,6]),(15,[8,6]),(16,[8,6]),(17,[8,6])] ?_|refine K1.z ?_|refine K1.y (fun _=>?_) (fun _=>?_)|fail)
 all_goals(conv=>whnf)
 all_goals exact⟨[(43,15),(44,17)],rfl,rfl,⟨aH rfl,aH rfl,aH rfl,aH rfl,aH rfl,aH rfl,aH rfl,aH rfl,trivial⟩,rfl,rfl,aj⟩
end
section
open Go.RowKit
theorem zF {x:Int} (h0:0≤x) (h1:x≤1048576):nG x=true:=by unfold nG gu;rw[decide_eq_true h0,decide_eq_true h1];rfl
theorem ac' {c:bn} (h: ∀q,0≤c.at q∧c.at q≤1048576):PG c=true:=by
 show(nG (c.at 0)&&nG (c.at 1)&&nG (c.at 2)&&nG (c.at 3)&&nG (c.at 4))=true
 rw[zF (h 0).1 (h 0).2,zF (h 1).1 (h 1).2,zF (h 2).1 (h 2).2,zF (h 3).1 (h 3).2,zF (h 4).1 (h 4).2]
 rfl
theorem ZA {k r:Int} {c:bn} (hk:k=3∨k=5) (h0:0≤r) (h5:r<5) (hc: ∀q,0≤c.at q∧c.at q≤1048576):iK ⟨k,r,0,c,[]⟩=true:=by
 unfold iK
 dsimp only
 rw[decide_eq_true h0,decide_eq_true h5,ac' hc]
 rcases hk with rfl|rfl<;>rfl
theorem ZB {r u:Int} (h0:0≤r) (h5:r<5) (hu:0≤u∧u≤1048576):iK ⟨2,r,u,dS,[]⟩=true:=by
 unfold iK
 dsimp only
 rw[decide_eq_true h0,decide_eq_true h5,zF hu.1 hu.2]
 rfl
theorem ada {k r:Int} {l:List Ev} (hk:k=1∧l.length≠0∧(∀e∈l,e.r=r)∨k=4) (h0:0≤r) (h5:r<5) (hl:l.length≤20) (hm: ∀e∈l,fB e=0):iK ⟨k,r,0,dS,l⟩=true:=by
 have ha:l.all (rX k r)=true:=by
  rw[List.all_eq_true]
  intro e he
  rcases hk with⟨rfl,_,hr⟩|rfl
  · exact Jo (hm e he) (hr e he)
  · exact Jm (hm e he) (by decide)
 unfold iK
 dsimp only
 rw[decide_eq_true h0,decide_eq_true h5,decide_eq_true hl,ha]
 rcases hk with⟨rfl,hn,_⟩|rfl
 · rw[decide_eq_true hn];rfl
 · rfl
theorem adb {r s:Int} (h0:0≤r) (h5:r<5) (hs:0≤s∧s≤1048576):lC ⟨3,r,s,dS,[]⟩=true:=by
 unfold lC
 dsimp only
 rw[decide_eq_true h0,decide_eq_true h5,zF hs.1 hs.2]
 rfl
end
section
open Go.RowKit
theorem Pn (n:Nat) (h:n≤18446744073709551615):([]:List UInt8)++gJ 9 n=aA n∧n<128^(9+1):=⟨rfl,by
 have:128^(9+1)=1180591620717411303424:=by decide
 omega⟩
theorem jD (d n:Nat) (h1:n≤18446744073709551615):aG Tryz.prog 35 [.v (.int .u64 (n:Int))] (.own d) [(d,.row 5 1 (aA n).length true (aV (aA n)))]:=by
 have hst:=Pn n h1
 refine K1.E 0x4d Tryz.func35 ?_
 repeat' ((conv=>whnf);first|refine K1.w ?_|refine K1.u ?_|refine K1.z ?_|refine K1.y (fun _=>?_) (fun _=>?_)|fail)
 refine aN.mk {x:List UInt8×Nat×Nat//x.1++gJ x.2.2 x.2.1=aA n∧x.2.1<128^(x.2.2+1)∧x.1.length≤10∧x.2.1≤18446744073709551615}
  (fun x=>⟨[(0,.v (.int .u64 (x.1.2.1:Int))),(3,.own 90)],[(90,.row 5 1 x.1.1.length true (aV x.1.1))],[],91⟩) (fun x=>x.1.2.1)
  ⟨([],n,9),hst.1,hst.2,by simp,h1⟩ _ (dO.auto _ _ _ rfl ⟨aj,aj,trivial⟩ ⟨⟨_,rfl,cO.row rfl (fun i hi=>absurd hi (Nat.not_lt_zero i))⟩,trivial⟩ rfl) ?_
 rintro⟨⟨acc,m,f⟩,i1,i2,i3,i4⟩
 dsimp only at i1 i2 i3 i4⊢
 have hl:acc.length+(gJ f m).length≤10:=by
  have:=congrArg List.length i1
  have:=bU 9 n
  simp only[List.length_append,aA]at*
  omega
 have hp:=xM f m
 repeat' ((conv=>whnf);first|refine K1.w ?_|refine K1.u ?_|refine K1.z ?_|refine K1.y (fun _=>?_) (fun _=>?_)|fail)
 · obtain⟨f',k1,k2⟩:=FD i1 i2 (by omega)
   refine⟨⟨(acc++[UInt8.ofNat (m%128+128)],m/128,f'),k1,k2,by simp;omega,by dsimp only;omega⟩,_,dO.auto _ _ _ rfl ⟨aT.int (by dsimp only;omega),aj,trivial⟩ ⟨⟨_,rfl,cO.row (by simp) (bJ rfl ?_)⟩,trivial⟩ rfl,by show m/128<m;omega⟩
   simp only[chunk,bC,AQ (show m%128+128<256 by omega)]
   rfl
 · have e:=IY i1 (by omega)
   refine aJ.qo d rfl rfl (cO.row ?_ ?_) (aj)
   · rw[←e];simp
   · rw[←e]
     refine bJ rfl ?_
     simp only[chunk,bC,AQ (show m<256 by omega)]
     rfl
theorem Ru (r:Nat) (hr:r<4294967296) (c:UInt8):aG Tryz.prog 105 [.v (.int .u32 (r:Int)),.v (.int .u8 (c.toNat:Int))] (.v (.int .u32 (xU r c:Int))) []:=by
 have hc:=UInt8.toNat_lt c
 have h0:r^^^c.toNat<4294967296:=Nat.xor_lt_two_pow (n:=32) (by omega) (by omega)
 refine K1.E 0x101073 Tryz.func105 ?_
 repeat' ((conv=>whnf);first|refine K1.w ?_|refine K1.u ?_|refine K1.z ?_|refine K1.y (fun _=>?_) (fun _=>?_)|fail)
 conv=>whnf
 refine aN.mk {j:Nat//j≤8} (fun j=>⟨[(0,.v (.int .u32 (AB (r^^^c.toNat) j.1:Int))),(5,.v (.int .i64 (j.1:Int)))],[],[],0⟩) (fun j=>8-j.1) ⟨0,Nat.zero_le _⟩ _
  (dO.mk' [] _ _ _ rfl ⟨aT.int (Ol hr (by omega)),aT.int rfl,trivial⟩ trivial rfl) ?_
 rintro⟨j,hj⟩
 dsimp only
 have hj2:=AL h0 j
 repeat' ((conv=>whnf);first|refine K1.w ?_|refine K1.u ?_|refine aJ.dR ?_|refine K1.z ?_|refine K1.y (fun _=>?_) (fun _=>?_)|fail)
 · refine⟨⟨j+1,by omega⟩,_,dO.mk' [] _ _ _ rfl ⟨aT.int ?_,aT.int rfl,trivial⟩ trivial rfl,by show 8-(j+1)<8-j;omega⟩
   show _=((mW (AB (r^^^c.toNat) j):Nat):Int)
   unfold mW
   rw[if_pos (by omega),←Ol (by omega) (by omega)]
   rfl
 · refine⟨⟨j+1,by omega⟩,_,dO.mk' [] _ _ _ rfl ⟨aT.int ?_,aT.int rfl,trivial⟩ trivial rfl,by show 8-(j+1)<8-j;omega⟩
   show _=((mW (AB (r^^^c.toNat) j):Nat):Int)
   unfold mW
   rw[if_neg (by omega)]
   rfl
 · conv=>whnf
   have:j=8:=by omega
   subst this
   exact bG.mk (aj)
theorem ZC {r:Nat} (h:r<4294967296):(4294967295:Int)-(r:Int)=((4294967295^^^r:Nat):Int):=by
 have e:(~~~ (BitVec.ofNat 32 r)).toNat=4294967295^^^r:=by
  rw[←BitVec.allOnes_xor]
  simp[BitVec.toNat_xor,Nat.mod_eq_of_lt h]
 rw[BitVec.toNat_not]at e
 simp only[BitVec.toNat_ofNat,Nat.reducePow,Nat.mod_eq_of_lt h]at e
 omega
theorem Wi {n:Nat} {F:Nat→List AV} (l:List UInt8) (hF:bD F l) (hn:n=l.length) (hl:l.length≤140737488355328):aG Tryz.prog 71 [.sl 1 n true F] (.v (.int .u32 (jU l:Int))) []:=by
 refine aG.args (bvs:=[.sl 1 l.length true (aV l)]) ?_ (.of (fun X u hu=>aT.pF (sc:=true) hF hn X u hu) .nil)
 have Yp (j:Nat):mX (l.take j)<4294967296:=BQ _
 have hs (j:Nat) (c:UInt8):=Ru (mX (l.take j)) (Yp j) c
 refine K1.E 0x11d Tryz.func71 ?_
 repeat' ((conv=>whnf);first|refine K1.w ?_|refine K1.u ?_|refine K1.z ?_|refine K1.y (fun _=>?_) (fun _=>?_)|fail)
 conv=>whnf
 refine aN.mk {j:Nat//j≤l.length} (fun j=>⟨[(0,.sl 1 l.length true (aV l)),(3,.v (.int .u32 (mX (l.take j.1):Int))),(4,.v (.int .i64 (j.1:Int)))],[],[],0⟩) (fun j=>l.length-j.1) ⟨0,Nat.zero_le _⟩ _
  (dO.mk' [] _ _ _ rfl ⟨aj,aT.int rfl,aT.int rfl,trivial⟩ trivial rfl) ?_
 rintro⟨j,hj⟩
 dsimp only
 have hjr:=Yp j
 repeat' ((conv=>whnf);first|refine K1.w ?_|refine K1.u ?_|refine K1.P1 (hs j _) rfl ?_|refine aJ.dR ?_|refine K1.z ?_|refine K1.y (fun _=>?_) (fun _=>?_)|fail)
 · refine⟨⟨j+1,by omega⟩,_,dO.mk' [] _ _ _ rfl ⟨aj,aT.int ?_,aT.int rfl,trivial⟩ trivial rfl,by show l.length-(j+1)<l.length-j;omega⟩
   show _=((mX (l.take (j+1)):Nat):Int)
   rw[Dc (by omega)]
   rfl
 · conv=>whnf
   refine bG.mk (aT.int ?_)
   rw[ZC hjr,List.take_of_length_le (by omega)]
   rfl
theorem rE (s:Nat) (x:Int) (h:x=(s:Int)):byteOf' (x%256)=UInt8.ofNat s:=by
 subst h
 apply UInt8.toNat_inj.1
 unfold byteOf'
 rw[UInt8.toNat_ofNat',UInt8.toNat_ofNat']
 omega
theorem zG (d:Nat) {n:Nat} {F:Nat→List AV} (l:List UInt8) (hF:bD F l) (hn:n=l.length) (hl:l.length≤1000000000):
  aG Tryz.prog 37 [.sl 1 n true F] (.own d) [(d,.row 5 1 (eX l).length true (aV (eX l)))]:=by
 refine aG.args (bvs:=[.sl 1 l.length true (aV l)]) ?_ (.of (fun X u hu=>aT.pF (sc:=true) hF hn X u hu) .nil)
 have ht:=Wi l (bD.bytes l) rfl (by omega)
 have hlt:=Jj l
 have hsb:eX l=[]++l++[UInt8.ofNat (jU l)]++[UInt8.ofNat (jU l/256)]++[UInt8.ofNat (jU l/65536)]++[UInt8.ofNat (jU l/16777216)]:=by simp[eX,pJ]
 rw[hsb]
 generalize jU l=s at ht hlt
 have hb0:=rE s (s:Int) rfl
 have hb1:=rE (s/256) ((s:Int)/256) (by omega)
 have hb2:=rE (s/65536) ((s:Int)/256/256) (by omega)
 have hb3:=rE (s/16777216) ((s:Int)/256/256/256) (by omega)
 refine K1.E 0x103d Tryz.func37 ?_
 repeat' ((conv=>whnf);first|refine K1.w ?_|refine K1.u ?_|refine K1.P1 ht rfl ?_|refine aN.sO 5 5 rfl ?_|refine K1.z ?_|refine K1.y (fun _=>?_) (fun _=>?_)|fail)
 conv=>whnf
 refine aJ.qo d rfl rfl ?_ (aj)
 rw[←hb0,←hb1,←hb2,←hb3]
 refine cO.pF (bD.app (bD.app (bD.app (bD.app (bD.app (bD.nil _) (bD.bytes _) rfl) (bD.one (by omega) (by omega)) ?_) (bD.one (by omega) (by omega)) ?_) (bD.one (by omega) (by omega)) ?_) (bD.one (by omega) (by omega)) ?_) ?_ rfl
 all_goals simp
theorem Wj (n:Int):lT n=0∨lT n=11:=by unfold lT;split<;>simp
theorem abu (s:ByteArray):keyE s=0∨keyE s=10:=by unfold keyE;split<;>simp
theorem Po (n:Int):aG Tryz.prog 136 [.v (.int .i64 n)] (.v (.int .i64 (lT n))) []:=by
 refine K1.E 0x105 Tryz.func136 ?_
 repeat' ((conv=>whnf);first|refine K1.w ?_|refine K1.u ?_|refine K1.z ?_|refine K1.y (fun _=>?_) (fun _=>?_)|fail)
 all_goals(refine aJ.int rfl ?_;unfold lT;(first|rw[if_pos (by omega)]|rw[if_neg (by omega)]))
theorem Pq (s:ByteArray):aG Tryz.prog 137 [.v (.string s)] (.v (.int .i64 (fA s))) []:=by
 refine K1.E 0x405 Tryz.func137 ?_
 repeat' ((conv=>whnf);first|refine K1.w ?_|refine K1.u ?_|refine K1.z ?_|refine K1.y (fun _=>?_) (fun _=>?_)|fail)
 all_goals(refine aJ.int rfl ?_;unfold fA;(first|rw[if_pos (by omega)]|rw[if_neg (by omega)]))
theorem ade {s:ByteArray} {j:Nat} (h:j<s.size):(s.data.toList.getD j 0)=s[j]'h:=by
 rw[List.getD,List.getElem?_eq_getElem (by rw[qV];exact h)]
 rfl
theorem Wn (s:ByteArray):aG Tryz.prog 135 [.v (.string s)] (.v (.int .i64 (keyE s))) []:=by
 refine K1.E 0x800880d Tryz.func135 ?_
 repeat' ((conv=>whnf);first|refine K1.w ?_|refine K1.u ?_|refine aJ.dR ?_|refine K1.z ?_|refine K1.y (fun _=>?_) (fun _=>?_)|fail)
 all_goals(conv=>whnf)
 · exact bG.mk (aT.int (xP (by omega)).symm)
 · exact bG.mk (aT.int (xP (by omega)).symm)
 · refine aN.mk {j:Nat//j≤s.size∧ ∀i (h:i<s.size),i<j→97≤(s[i]'h).toNat∧(s[i]'h).toNat≤122} (fun j=>⟨[(0,.v (.string s)),(3,.v (.int .i64 (j.1:Int)))],[],[],0⟩) (fun j=>s.size-j.1) ⟨0,Nat.zero_le _,fun i _ h=>absurd h (Nat.not_lt_zero i)⟩ _
    (dO.mk' [] _ _ _ rfl ⟨aj,aT.int rfl,trivial⟩ trivial rfl) ?_
   rintro⟨j,hj,hall⟩
   dsimp only
   repeat' ((conv=>whnf);first|refine K1.w ?_|refine K1.u ?_|refine aJ.dR ?_|refine K1.z ?_|refine K1.y (fun _=>?_) (fun _=>?_)|fail)
   all_goals(conv=>whnf)
   all_goals first
     | (have hjs:j<s.size:=by omega
        have hsj:(s.data.toList.getD ((j:Int)).toNat 0).toNat=(s[j]'hjs).toNat:=congrArg UInt8.toNat (ade hjs)
        first
          | (refine⟨⟨j+1,by omega,fun i h hi=>?_⟩,_,dO.mk' [] _ _ _ rfl ⟨aj,aT.int rfl,trivial⟩ trivial rfl,by show s.size-(j+1)<s.size-j;omega⟩
             by_cases e:i=j
             · subst e;omega
             · exact hall i h (by omega))
          |(exact bG.mk (aT.int (D7 hjs (by omega)).symm)))
     |exact bG.mk (aT.int (SK (by omega) (by omega) (fun i h=>hall i h (by omega))).symm)
theorem He (e:Ed):aG Tryz.prog 104 [e.av] (.v (.int .i64 (jF e))) []:=by
 refine K1.E 0x112404407 Tryz.func104 ?_
 repeat' ((conv=>whnf);first|refine K1.w ?_|refine K1.u ?_|refine K1.P1 (Wn _) rfl ?_|refine K1.P1 (Po _) rfl ?_|refine K1.P1 (Pq _) rfl ?_|refine K1.z ?_|refine K1.y (fun _=>?_) (fun _=>?_)|fail)
 all_goals(refine aJ.int rfl ?_;unfold jF;try have h0:=size_pos ‹_›)
 all_goals grind [I4,abu,Wj]
theorem Pv (n a b:Int):aG Tryz.prog 103 [.v (.int .i64 n),.v (.int .i64 a),.v (.int .i64 b)] (.v (.bool (decide (a≤n∧n≤b)))) []:=by
 refine K1.E 0x47 Tryz.func103 ?_
 repeat' ((conv=>whnf);first|refine K1.w ?_|refine K1.u ?_|refine K1.z ?_|refine K1.y (fun _=>?_) (fun _=>?_)|fail)
 all_goals(refine aJ.bool rfl ?_;simp[*])
theorem JX (e:Ev):aG Tryz.prog 66 [e.av] e.ed.av []:=by
 refine K1.E 0x7 Tryz.func66 ?_
 repeat' ((conv=>whnf);first|refine K1.w ?_|refine K1.u ?_|refine aJ.dR ?_|refine K1.z ?_|refine K1.y (fun _=>?_) (fun _=>?_)|fail)
 conv=>whnf
 exact bG.mk (aj)
end
end Go.Proofs.YtimhagicagdkfaaGreat
