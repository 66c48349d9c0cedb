/-
  Contracts of the walk:FrV,FrmF,FrmG,HbM.
-/
import Derived.Test.YtkimgljckickcaaGreatRa27
import Derived.Test.YtkimgljckickcaaGreatRa26
import Derived.Test.YtkimgljckickcaaGreatRa24
set_option maxHeartbeats 16000000
set_option maxRecDepth 100000
set_option linter.unusedVariables false
set_option linter.unusedSimpArgs false
namespace Go.Proofs.YtkimgljckickcaaGreat
open Go.RowKit
open Go.Proofs.Tryz
variable{n u v:Nat}{F:Nat->List AV}
theorem Vh(k:Int)(h:k=1\/k=4):aF prog 135 [.v (.int .i64 k)] (.aZ [.agg [.v (.bool true),.v (.bool false),.v (.bool false)],.v (.bool true)]) []:=by
 have:=lI k;rcases h with rfl|rfl<;>exact this
theorem Vj(k:Int)(h:k=2):aF prog 135 [.v (.int .i64 k)] (.aZ [.agg [.v (.bool false),.v (.bool true),.v (.bool false)],.v (.bool true)]) []:=by
 have:=lI k;rcases h with rfl;exact this
theorem rM(k:Int)(h:k=3\/k=5):aF prog 135 [.v (.int .i64 k)] (.aZ [.agg [.v (.bool false),.v (.bool false),.v (.bool true)],.v (.bool true)]) []:=by
 have:=lI k;rcases h with rfl|rfl<;>exact this
theorem ahC(b:List UInt8)(hl:b.length<=1000000000)(h:(bW b).2.2≠0\/b.length<(bW b).2.1+2):aF prog 196 [.sl 1 b.length true (aO b)] (.aZ [(jw b).1.av,.v (.bool (jw b).2)]) []:=by
 have hs:=iR b (bg.bytes b) rfl;have hle:=yQ b;rw[show jw b=(Zh,false) by unfold jw;rw[if_pos h]];obtain⟨⟨v,u,e⟩,hv⟩:∃p,bW b=p:=⟨_,rfl⟩;rw[hv]at hs h hle;dsimp only at hs h hle;refine K1.E 0x830100200000020007ed func196 ?_;repeat' ((conv=>whnf);first|refine K1.u ?_|refine K1.P1 hs ?_|refine aT.fH ?_|refine K1.y (λ _=>?_) (λ _=>?_)|fail)
 all_goals(conv=>whnf)
 all_goals first
  |exact bF.mk (dJ.fZ _)
  |fail
theorem ahD(b:List UInt8)(hl:b.length<=1000000000)(hv:bW b=(v,u,0))(hu:u+2<=b.length)(hk:((b.getD u default).toNat:Int)=1\/((b.getD u default).toNat:Int)=4):
  aF prog 196 [.sl 1 b.length true (aO b)] (.aZ [(jw b).1.av,.v (.bool (jw b).2)]) []:=by
 have hs:=iR b (bg.bytes b) rfl;rw[hv]at hs;dsimp only at hs;have hr:jw b=rdB ((b.getD u default).toNat:Int) ((b.getD (u+1) default).toNat:Int) (b.drop (u+2)):=by
  unfold jw;rw[hv,if_neg (by dsimp only;omega)]
 rw[hr];unfold rdB;rw[if_pos hk];have he:=Vd (n:=b.length-(u+2)) (b.drop (u+2)) (bg.drop (bg.bytes b) (u+2)) s_ (by simp;omega);cases hE:L9 (b.drop (u+2))with
 |none=>
  rw[hE]at he;dsimp only[Mc]at he;dsimp only[Rc.av,Rc.cs];refine K1.E 0x830100200000020007ed func196 ?_;repeat' ((conv=>whnf);first|refine K1.u ?_|refine K1.P1 hs ?_|refine K1.P1 (Vh _ hk) ?_|refine K1.P1 he ?_|refine aI.Au 72 6 rfl ?_|refine aT.fH ?_|refine K1.o (id:=4) (nN [0,1,2,3,4,5,6,7,8,9,10,11] [(12,some []),(13,some [10,9,7,4,3])]) ?_|fail)
  all_goals(conv=>whnf)
  exact bF.mk (dJ.fZ _)
 |some l=>
  rw[hE]at he;dsimp only[Mc]at he;dsimp only[Rc.av,Rc.cs];refine K1.E 0x830100200000020007ed func196 ?_;repeat' ((conv=>whnf);first|refine K1.u ?_|refine K1.P1 hs ?_|refine K1.P1 (Vh _ hk) ?_|refine K1.P1 he ?_|refine aI.Au 72 6 rfl ?_|refine aT.fH ?_|refine K1.o (id:=4) (nN [0,1,2,3,4,5,6,7,8,9,10,11] [(12,some []),(13,some [10,9,7,4,3])]) ?_|fail)
  all_goals(conv=>whnf)
  exact bF.mk (bY)
theorem KE{b:List UInt8}(hv:bW b=(v,u,0))(hu:u+2<=b.length):jw b=rdB ((b.getD u default).toNat:Int) ((b.getD (u+1) default).toNat:Int) (b.drop (u+2)):=by
 unfold jw;rw[hv,if_neg (by dsimp only;omega)]
theorem ahE(b:List UInt8)(hl:b.length<=1000000000)(hv:bW b=(v,u,0))(hu:u+2<=b.length)(hk:((b.getD u default).toNat:Int)=2):
  aF prog 196 [.sl 1 b.length true (aO b)] (.aZ [(jw b).1.av,.v (.bool (jw b).2)]) []:=by
 have hs:=iR b (bg.bytes b) rfl;rw[hv]at hs;dsimp only at hs;rw[KE hv hu];unfold rdB;rw[if_neg o_,if_pos hk];cases hE:lS (b.drop (u+2))with
 |none=>
  have he:=rJ (n:=b.length-(u+2)) (b.drop (u+2)) hE (bg.drop (bg.bytes b) (u+2)) s_;dsimp only[Rc.av,Rc.cs];refine K1.E 0x830100200000020007ed func196 ?_;repeat' ((conv=>whnf);first|refine K1.u ?_|refine K1.P1 hs ?_|refine K1.P1 (Vj _ hk) ?_|refine K1.P1 he ?_|refine aI.Au 72 6 rfl ?_|refine aT.fH ?_|refine K1.o (id:=4) (nN [0,1,2,3,4,5,6,7,8,9,10,11] [(12,some []),(13,some [10,9,7,4,3])]) ?_|fail)
  all_goals(conv=>whnf)
  exact bF.mk (dJ.fZ _)
 |some p=>
  obtain⟨m,k⟩:=p;have he:=rH (n:=b.length-(u+2)) (b.drop (u+2)) hE (bg.drop (bg.bytes b) (u+2)) s_;dsimp only[Rc.av,Rc.cs];refine K1.E 0x830100200000020007ed func196 ?_;repeat' ((conv=>whnf);first|refine K1.u ?_|refine K1.P1 hs ?_|refine K1.P1 (Vj _ hk) ?_|refine K1.P1 he ?_|refine aI.Au 72 6 rfl ?_|refine aT.fH ?_|refine K1.o (id:=4) (nN [0,1,2,3,4,5,6,7,8,9,10,11] [(12,some []),(13,some [10,9,7,4,3])]) ?_|fail)
  all_goals(conv=>whnf)
  exact bF.mk (dJ.fZ _)
theorem ajP{k:Int}(h:¬ (k=1\/k=4)/\ ¬k=2/\ ¬ (k=3\/k=5)):¬ (1<=k/\k<=5):=o_
theorem abk(b:List UInt8)(hl:b.length<=1000000000)(hv:bW b=(v,u,0))(hu:u+2<=b.length)(hk:¬ (((b.getD u default).toNat:Int)=1\/((b.getD u default).toNat:Int)=4)/\ ¬ ((b.getD u default).toNat:Int)=2/\ ¬ (((b.getD u default).toNat:Int)=3\/((b.getD u default).toNat:Int)=5)):
  aF prog 196 [.sl 1 b.length true (aO b)] (.aZ [(jw b).1.av,.v (.bool (jw b).2)]) []:=by
 have hs:=iR b (bg.bytes b) rfl;rw[hv]at hs;dsimp only at hs;rw[KE hv hu];unfold rdB;rw[if_neg hk.1,if_neg hk.2.1,if_neg hk.2.2];have hk5:=ajP hk;dsimp only[Rc.av,Rc.cs];refine K1.E 0x830100200000020007ed func196 ?_;repeat' ((conv=>whnf);first|refine K1.u ?_|refine K1.P1 hs ?_|refine K1.P1 (Vb _ hk5) ?_|refine aI.Au 72 6 rfl ?_|refine aT.fH ?_|refine K1.o (id:=4) (nN [0,1,2,3,4,5,6,7,8,9,10,11] [(12,some []),(13,some [10,9,7,4,3])]) ?_|fail)
 all_goals(conv=>whnf)
 exact bF.mk (dJ.fZ _)
theorem ae9(b:List UInt8)(hl:b.length<=1000000000)(hv:bW b=(v,u,0))(hu:u+2<=b.length)(hk:((b.getD u default).toNat:Int)=3\/((b.getD u default).toNat:Int)=5):
  aF prog 196 [.sl 1 b.length true (aO b)] (.aZ [(jw b).1.av,.v (.bool (jw b).2)]) []:=by
 have hs:=iR b (bg.bytes b) rfl;rw[hv]at hs;dsimp only at hs;rw[KE hv hu];unfold rdB;rw[if_neg o_,if_neg o_,if_pos hk];have hF:=bg.drop (bg.bytes b) (u+2);have hn:b.length-(u+2)=(b.drop (u+2)).length:=s_
 cases g0:lS (b.drop (u+2))with
 |none=>
  have e0:=rJ (n:=b.length-(u+2)) (b.drop (u+2)) g0 hF hn;have hr:CO (b.drop (u+2))=(⟨0,0,0,0,0⟩,false):=by unfold CO;simp only[g0]
  rw[hr];dsimp only[Rc.av,Rc.cs];refine K1.E 0x830100200000020007ed func196 ?_;repeat' ((conv=>whnf);first|refine K1.u ?_|refine K1.P1 hs ?_|refine K1.P1 (rM _ hk) ?_|refine K1.P1 e0 ?_|refine aI.Au 72 6 rfl ?_|refine aT.fH ?_|refine K1.o (id:=4) (nN [0,1,2,3,4,5,6,7,8,9,10,11] [(12,some []),(13,some [10,9,7,4,3])]) ?_|refine K1.z ?_|fail)
  all_goals(conv=>whnf)
  exact bF.mk (dJ.fZ _)
 |some p0=>
  obtain⟨m0,k0⟩:=p0;have l0:=xA g0;rw[<-hn]at l0;have e0:=rH (n:=b.length-(u+2)) (b.drop (u+2)) g0 hF hn;have n1:(b.length-(u+2)-k0)=((b.drop (u+2)).drop k0).length:=by simp;omega
  cases g1:lS ((b.drop (u+2)).drop k0)with
  |none=>
   have e1:=rJ (n:=(b.length-(u+2)-k0)) ((b.drop (u+2)).drop k0) g1 (bg.drop hF k0) (by simp;omega);have hr:CO (b.drop (u+2))=(⟨m0,0,0,0,0⟩,false):=by unfold CO;simp only[g0,g1]
   rw[hr];dsimp only[Rc.av,Rc.cs];refine K1.E 0x830100200000020007ed func196 ?_;repeat' ((conv=>whnf);first|refine K1.u ?_|refine K1.P1 hs ?_|refine K1.P1 (rM _ hk) ?_|refine K1.P1 e0 ?_|refine K1.P1 e1 ?_|refine aI.Au 72 6 rfl ?_|refine aT.fH ?_|refine K1.o (id:=4) (nN [0,1,2,3,4,5,6,7,8,9,10,11] [(12,some []),(13,some [10,9,7,4,3])]) ?_|refine K1.z ?_|fail)
   all_goals(conv=>whnf)
   exact bF.mk (dJ.fZ _)
  |some p1=>
   obtain⟨m1,k1⟩:=p1;have l1:=xA g1;rw[<-n1]at l1;have e1:=rH (n:=(b.length-(u+2)-k0)) ((b.drop (u+2)).drop k0) g1 (bg.drop hF k0) (by simp;omega);have n2:((b.length-(u+2)-k0)-k1)=(((b.drop (u+2)).drop k0).drop k1).length:=by simp;omega
   cases g2:lS (((b.drop (u+2)).drop k0).drop k1)with
   |none=>
    have e2:=rJ (n:=((b.length-(u+2)-k0)-k1)) (((b.drop (u+2)).drop k0).drop k1) g2 (bg.drop (bg.drop hF k0) k1) (by simp;omega);have hr:CO (b.drop (u+2))=(⟨m0,m1,0,0,0⟩,false):=by unfold CO;simp only[g0,g1,g2]
    rw[hr];dsimp only[Rc.av,Rc.cs];refine K1.E 0x830100200000020007ed func196 ?_;repeat' ((conv=>whnf);first|refine K1.u ?_|refine K1.P1 hs ?_|refine K1.P1 (rM _ hk) ?_|refine K1.P1 e0 ?_|refine K1.P1 e1 ?_|refine K1.P1 e2 ?_|refine aI.Au 72 6 rfl ?_|refine aT.fH ?_|refine K1.o (id:=4) (nN [0,1,2,3,4,5,6,7,8,9,10,11] [(12,some []),(13,some [10,9,7,4,3])]) ?_|refine K1.z ?_|fail)
    all_goals(conv=>whnf)
    exact bF.mk (dJ.fZ _)
   |some p2=>
    obtain⟨m2,k2⟩:=p2;have l2:=xA g2;rw[<-n2]at l2;have e2:=rH (n:=((b.length-(u+2)-k0)-k1)) (((b.drop (u+2)).drop k0).drop k1) g2 (bg.drop (bg.drop hF k0) k1) (by simp;omega);have n3:(((b.length-(u+2)-k0)-k1)-k2)=((((b.drop (u+2)).drop k0).drop k1).drop k2).length:=by simp;omega
    cases g3:lS ((((b.drop (u+2)).drop k0).drop k1).drop k2)with
    |none=>
     have e3:=rJ (n:=(((b.length-(u+2)-k0)-k1)-k2)) ((((b.drop (u+2)).drop k0).drop k1).drop k2) g3 (bg.drop (bg.drop (bg.drop hF k0) k1) k2) (by simp;omega);have hr:CO (b.drop (u+2))=(⟨m0,m1,m2,0,0⟩,false):=by unfold CO;simp only[g0,g1,g2,g3]
     rw[hr];dsimp only[Rc.av,Rc.cs];refine K1.E 0x830100200000020007ed func196 ?_;repeat' ((conv=>whnf);first|refine K1.u ?_|refine K1.P1 hs ?_|refine K1.P1 (rM _ hk) ?_|refine K1.P1 e0 ?_|refine K1.P1 e1 ?_|refine K1.P1 e2 ?_|refine K1.P1 e3 ?_|refine aI.Au 72 6 rfl ?_|refine aT.fH ?_|refine K1.o (id:=4) (nN [0,1,2,3,4,5,6,7,8,9,10,11] [(12,some []),(13,some [10,9,7,4,3])]) ?_|refine K1.z ?_|fail)
     all_goals(conv=>whnf)
     exact bF.mk (dJ.fZ _)
    |some p3=>
     obtain⟨m3,k3⟩:=p3;have l3:=xA g3;rw[<-n3]at l3;have e3:=rH (n:=(((b.length-(u+2)-k0)-k1)-k2)) ((((b.drop (u+2)).drop k0).drop k1).drop k2) g3 (bg.drop (bg.drop (bg.drop hF k0) k1) k2) (by simp;omega);have n4:((((b.length-(u+2)-k0)-k1)-k2)-k3)=(((((b.drop (u+2)).drop k0).drop k1).drop k2).drop k3).length:=by simp;omega
     cases g4:lS (((((b.drop (u+2)).drop k0).drop k1).drop k2).drop k3)with
     |none=>
      have e4:=rJ (n:=((((b.length-(u+2)-k0)-k1)-k2)-k3)) (((((b.drop (u+2)).drop k0).drop k1).drop k2).drop k3) g4 (bg.drop (bg.drop (bg.drop (bg.drop hF k0) k1) k2) k3) (by simp;omega);have hr:CO (b.drop (u+2))=(⟨m0,m1,m2,m3,0⟩,false):=by unfold CO;simp only[g0,g1,g2,g3,g4]
      rw[hr];dsimp only[Rc.av,Rc.cs];refine K1.E 0x830100200000020007ed func196 ?_;repeat' ((conv=>whnf);first|refine K1.u ?_|refine K1.P1 hs ?_|refine K1.P1 (rM _ hk) ?_|refine K1.P1 e0 ?_|refine K1.P1 e1 ?_|refine K1.P1 e2 ?_|refine K1.P1 e3 ?_|refine K1.P1 e4 ?_|refine aI.Au 72 6 rfl ?_|refine aT.fH ?_|refine K1.o (id:=4) (nN [0,1,2,3,4,5,6,7,8,9,10,11] [(12,some []),(13,some [10,9,7,4,3])]) ?_|refine K1.z ?_|fail)
      all_goals(conv=>whnf)
      exact bF.mk (dJ.fZ _)
     |some p4=>
      obtain⟨m4,k4⟩:=p4;have l4:=xA g4;rw[<-n4]at l4;have e4:=rH (n:=((((b.length-(u+2)-k0)-k1)-k2)-k3)) (((((b.drop (u+2)).drop k0).drop k1).drop k2).drop k3) g4 (bg.drop (bg.drop (bg.drop (bg.drop hF k0) k1) k2) k3) (by simp;omega);have hr:CO (b.drop (u+2))=(⟨m0,m1,m2,m3,m4⟩,true):=by unfold CO;simp only[g0,g1,g2,g3,g4]
      rw[hr];dsimp only[Rc.av,Rc.cs];refine K1.E 0x830100200000020007ed func196 ?_;repeat' ((conv=>whnf);first|refine K1.u ?_|refine K1.P1 hs ?_|refine K1.P1 (rM _ hk) ?_|refine K1.P1 e0 ?_|refine K1.P1 e1 ?_|refine K1.P1 e2 ?_|refine K1.P1 e3 ?_|refine K1.P1 e4 ?_|refine aI.Au 72 6 rfl ?_|refine aT.fH ?_|refine K1.o (id:=4) (nN [0,1,2,3,4,5,6,7,8,9,10,11] [(12,some []),(13,some [10,9,7,4,3])]) ?_|refine K1.z ?_|fail)
      all_goals(conv=>whnf)
      exact bF.mk (dJ.fZ _)
theorem ajQ(b:List UInt8)(hl:b.length<=1000000000):aF prog 196 [.sl 1 b.length true (aO b)] (.aZ [(jw b).1.av,.v (.bool (jw b).2)]) []:=by
 by_cases h:(bW b).2.2≠0\/b.length<(bW b).2.1+2
 ·exact ahC b hl h
 ·obtain⟨⟨v,u,e⟩,hv⟩:∃p,bW b=p:=⟨_,rfl⟩;rw[hv]at h;dsimp only at h;obtain rfl:e=0:=o_
  have hu:u+2<=b.length:=o_
  by_cases h1:((b.getD u default).toNat:Int)=1\/((b.getD u default).toNat:Int)=4
  ·exact ahD b hl hv hu h1
  ·by_cases h2:((b.getD u default).toNat:Int)=2
   ·exact ahE b hl hv hu h2
   ·by_cases h3:((b.getD u default).toNat:Int)=3\/((b.getD u default).toNat:Int)=5
    ·exact ae9 b hl hv hu h3
    ·exact abk b hl hv hu ⟨h1,h2,h3⟩
theorem abl(b:List UInt8)(hF:bg F b)(hn:n=b.length)(hl:b.length<=1000000000):aF prog 196 [.sl 1 n true F] (.aZ [(jw b).1.av,.v (.bool (jw b).2)]) []:=
 (ajQ b hl).args (Ch.vX hF hn .nil)
theorem GK(x:Rc):5<=(aY x).length:=by
 unfold aY;rw[dW];have:=zy 9 (kY x).length;rw[am0];show 5<=(fP 9 (kY x).length).length+_+4;omega
theorem QX(h:2048<n):aF prog 145 [.sl 1 n true F] (.aZ [.agg (XB 0 0 0 0 0 0 0 0 (.v (.slice none 0 0))),.v (.int .i64 5)]) []:=by
 refine K1.E 0x200080809fd func145 ?_;repeat' ((conv=>whnf);first|refine K1.u ?_|refine aT.fH ?_|fail)
 conv=>whnf
 exact bF.mk (bY)
def pushP(most:Int)(r:Nat)(l:List Ev)(p:Pt):Pt×Int×Int:=
 if(jV most (p.sh.getD r default) l).2=0 then
  (qp ⟨dR (λ _=>(jV most (p.sh.getD r default) l).1) r p.sh,p.told⟩ r,(jG (jV most (p.sh.getD r default) l).1 (iU p.told r)).len,0)
 else(p,0,(jV most (p.sh.getD r default) l).2)
theorem ae'{most:Int}{s:jU}{l:List Ev}(h:(jV most s l).2≠0):(jV most s l).1=s:=by
 revert h;unfold jV;split<;>(try split)<;>(try split)<;>simp
theorem aI.cnt{body:(jd->AS->Prop)->AS->Prop}{Q:jd->AS->Prop}{sl:List (Nat×AV)}{h:List (Nat×AO)}{bk:List (List (Nat×AV))}{b:Nat}(t n:Nat)(h0:dZ [] ⟨(t,.v (.int .i64 0))::sl,h,bk,b⟩ ⟨(t,.v (.int .i64 ((0:Nat):Int)))::sl,h,bk,b⟩)
  (hb:∀x:{j:Nat//j<=n},body (λ e st'=>match e with| .normal=> ∃(y:{j:Nat//j<=n}) (σ:List (Nat×Nat)),dZ σ st' ⟨(t,.v (.int .i64 (y.1:Int)))::sl,h,bk,b⟩/\n-y.1<n-x.1| .exit i=>Q (.exit i) st'| .ret=>Q .ret st') ⟨(t,.v (.int .i64 (x.1:Int)))::sl,h,bk,b⟩):aI body Q ⟨(t,.v (.int .i64 0))::sl,h,bk,b⟩:=
 aI.mk {j:Nat//j<=n} (λ j=>⟨(t,.v (.int .i64 (j.1:Int)))::sl,h,bk,b⟩) (λ j=>n-j.1) ⟨0,ane _⟩ [] h0 hb
structure EvB(l:List Ev):Prop where
 h:l.length<=1000000
 n:∀j,0<=(l.getD j default).n/\(l.getD j default).n<=1000000000
theorem Vk(most:Int)(p:Pt)(r:Nat)(hp:qA p)(hr:r<p.sh.length)(l:List Ev)(x:Int)(hl:EvB l)(hs:iQ (p.sh.getD r default))(hall:∀j,j<l.length->(l.getD j default).r=(r:Int))(hput:jV most (p.sh.getD r default) l=(p.sh.getD r default,x))(hx:x≠0):
  aj prog 114 (uP most p ()) [.box 0 0,.v (.int .i64 (r:Int)),.sl 12 l.length true (dA l)] (.aZ [.v (.int .i64 0),.v (.int .i64 x)]) (uP most p ()):=by
 refine Pt.JV (C:=λ p r=>(iQ (p.sh.getD r default))->(∀j,j<l.length->(l.getD j default).r=(r:Int))->(jV most (p.sh.getD r default) l=(p.sh.getD r default,x))->(x≠0)->aj prog 114 (uP most p ()) [.box 0 0,.v (.int .i64 (r:Int)),.sl 12 l.length true (dA l)] (.aZ [.v (.int .i64 0),.v (.int .i64 x)]) (uP most p ())) p r hp hr ?_ ?_ ?_ ?_ ?_ ?_ ?_ ?_ ?_ ?_ ?_ ?_ ?_ ?_ ?_ hs hall hput hx;all_goals
  intros;rename_i hs hall hput hx;dsimp only[uP,ptB,D8,ptrs,shs,List.length,List.getD_cons_zero,List.getD_cons_succ]at*;refine K1.M 0x100107c6c7 func114 40 ?_;repeat' ((conv=>whnf);first|refine K1.u ?_|refine K1.I 0x13 func171 ?_|refine nR.yes d_ ?_|fail)
  conv=>whnf
  refine aI.cnt 17 l.length ?_ ?_
  ·refine dZ.mk' [] _ _ _ rfl ?_ ?_ rfl;all_goals repeat' first|exact trivial|refine⟨bY, ?_⟩|refine⟨dB rfl, ?_⟩
  have hlh:=hl.h;rintro⟨j,hj⟩;dsimp only;by_cases hjl:j<l.length
  ·have hr:=hall j hjl;rw[show j=(j:Int).toNat by omega]at hr;repeat' ((conv=>whnf);first|refine K1.u ?_|fail)
   all_goals(conv=>whnf)
   refine⟨⟨j+1,hjl⟩,[],dZ.mk' [] _ _ _ rfl ?_ ?_ rfl,by show l.length-(j+1)<l.length-j;omega⟩;all_goals repeat' first|exact trivial|refine⟨bY, ?_⟩|refine⟨dB rfl, ?_⟩
  ·have afa:=UA _ _ _ _ _ hs.b0 hs.b1 hs.k hl.h hl.n hput;repeat' ((conv=>whnf);first|refine K1.u ?_|refine K1.C 1 [(0,_)] (afa) rfl ?_|refine mJ.mk d_ ?_|fail)
   all_goals(conv=>whnf)
   refine⟨[],rfl,rfl, ?_,rfl,rfl,bY⟩;repeat' first|exact trivial|refine⟨dB rfl, ?_⟩
theorem XG(most:Int)(p:Pt)(r:Nat)(hp:qA p)(hr:r<p.sh.length)(l:List Ev)(s':jU)(hl:EvB l)(hs:iQ (p.sh.getD r default))(hall:∀j,j<l.length->(l.getD j default).r=(r:Int))(hput:jV most (p.sh.getD r default) l=(s',0))(hc:aj prog 173 (uP most ⟨dR (λ _=>s') r p.sh,p.told⟩ ()) [.box 0 0,.v (.int .i64 (r:Int))] (.aZ []) (uP most (qp ⟨dR (λ _=>s') r p.sh,p.told⟩ r) ()))(hln:aj prog 141 [(0,.obs (D6 most (jG s' (iU p.told r))))] [.box 0 0] (.v (.int .i64 (jG s' (iU p.told r)).len)) [(0,.obs (D6 most (jG s' (iU p.told r))))]):
  aj prog 114 (uP most p ()) [.box 0 0,.v (.int .i64 (r:Int)),.sl 12 l.length true (dA l)] (.aZ [.v (.int .i64 (jG s' (iU p.told r)).len),.v (.int .i64 0)]) (uP most (qp ⟨dR (λ _=>s') r p.sh,p.told⟩ r) ()):=by
 refine Pt.JV (C:=λ p r=>(iQ (p.sh.getD r default))->(∀j,j<l.length->(l.getD j default).r=(r:Int))->(jV most (p.sh.getD r default) l=(s',0))->(aj prog 173 (uP most ⟨dR (λ _=>s') r p.sh,p.told⟩ ()) [.box 0 0,.v (.int .i64 (r:Int))] (.aZ []) (uP most (qp ⟨dR (λ _=>s') r p.sh,p.told⟩ r) ()))->(aj prog 141 [(0,.obs (D6 most (jG s' (iU p.told r))))] [.box 0 0] (.v (.int .i64 (jG s' (iU p.told r)).len)) [(0,.obs (D6 most (jG s' (iU p.told r))))])->aj prog 114 (uP most p ()) [.box 0 0,.v (.int .i64 (r:Int)),.sl 12 l.length true (dA l)] (.aZ [.v (.int .i64 (jG s' (iU p.told r)).len),.v (.int .i64 0)]) (uP most (qp ⟨dR (λ _=>s') r p.sh,p.told⟩ r) ())) p r hp hr ?_ ?_ ?_ ?_ ?_ ?_ ?_ ?_ ?_ ?_ ?_ ?_ ?_ ?_ ?_ hs hall hput hc hln;all_goals
  intros;rename_i hs hall hput hc hln;dsimp only[uP,ptB,D8,ptrs,shs,List.length,qp,dR,List.getD_cons_zero,List.getD_cons_succ]at*;refine K1.M 0x100107c6c7 func114 40 ?_;repeat' ((conv=>whnf);first|refine K1.u ?_|refine K1.I 0x13 func171 ?_|refine nR.yes d_ ?_|fail)
  conv=>whnf
  refine aI.cnt 17 l.length ?_ ?_
  ·refine dZ.mk' [] _ _ _ rfl ?_ ?_ rfl;all_goals repeat' first|exact trivial|refine⟨bY, ?_⟩|refine⟨dB rfl, ?_⟩
  have hlh:=hl.h;rintro⟨j,hj⟩;dsimp only;by_cases hjl:j<l.length
  ·have hr:=hall j hjl;rw[show j=(j:Int).toNat by omega]at hr;repeat' ((conv=>whnf);first|refine K1.u ?_|fail)
   all_goals(conv=>whnf)
   refine⟨⟨j+1,hjl⟩,[],dZ.mk' [] _ _ _ rfl ?_ ?_ rfl,by show l.length-(j+1)<l.length-j;omega⟩;all_goals repeat' first|exact trivial|refine⟨bY, ?_⟩|refine⟨dB rfl, ?_⟩
  ·have afa:=UA _ _ _ _ _ hs.b0 hs.b1 hs.k hl.h hl.n hput;repeat' ((conv=>whnf);first|refine K1.u ?_|refine K1.C 1 [(0,_)] (afa) rfl ?_|refine K1.C 99 [(0,_),(10,_),(11,_),(20,_)] (hc) rfl ?_|refine K1.C 99 [(0,_),(10,_),(11,_),(20,_),(21,_)] (hc) rfl ?_|refine K1.C 99 [(0,_),(10,_),(11,_),(20,_),(21,_),(22,_)] (hc) rfl ?_|refine K1.C 99 [(0,_),(10,_),(11,_),(20,_),(21,_),(22,_),(23,_)] (hc) rfl ?_|refine K1.C 99 [(0,_),(10,_),(11,_),(20,_),(21,_),(22,_),(23,_),(24,_)] (hc) rfl ?_|refine K1.C 1 [(0,_)] (hln) rfl ?_|refine mJ.mk d_ ?_|fail)
   all_goals(conv=>whnf)
   refine⟨[],rfl,rfl, ?_,rfl,rfl,bY⟩;repeat' first|exact trivial|refine⟨dB rfl, ?_⟩
theorem OE(most:Int)(p p':Pt)(r:Nat)(hp:qA p)(hr:r<p.sh.length)(l:List Ev)(hl:EvB l)(hall:∀j,j<l.length->(l.getD j default).r=(r:Int))(hs:iQ (jV most (p.sh.getD r default) l).1)(u x:Int)(h:pushP most r l p=(p',u,x)):
  aj prog 114 [(0,.obs (BL most p))] [.box 0 0,.v (.int .i64 (r:Int)),.sl 12 l.length true (dA l)] (.aZ [.v (.int .i64 u),.v (.int .i64 x)]) [(0,.obs (BL most p'))]:=by
 refine JU (ho:=[]) ⟨_,_,func114,rfl,rfl⟩ ?_ rfl;rw[am2];obtain⟨⟨s',y⟩,hput⟩:∃q,jV most (p.sh.getD r default) l=q:=⟨_,rfl⟩;unfold pushP at h;rw[hput]at h hs;by_cases hy:y=0
 ·subst hy;rw[if_pos rfl]at h;cases h;exact XG most p r hp hr l s' hl (hp.get hr) hall hput (U6 most _ r (hp.set hs r) (by show r<(dR _ _ _).length;rw[dw];exact hr)) (UE most _ (QN hs _))
 ·have he:s'=p.sh.getD r default:=by have:=ae' (most:=most) (s:=p.sh.getD r default) (l:=l) (by rw[hput];exact hy);rw[hput]at this;exact this
  rw[if_neg hy]at h;cases h;rw[he]at hput;exact Vk most p r hp hr l y hl (hp.get hr) hall hput hy
end Go.Proofs.YtkimgljckickcaaGreat
