/-
  Contracts of the walk:FrV,FrmF,FrmG,HbM.
-/
import Derived.Test.YtifjccndenojlaaGreatWf26
import Derived.Test.YtifjccndenojlaaGreatWf24
import Derived.Test.YtifjccndenojlaaGreatWf27
set_option maxHeartbeats 16000000
set_option maxRecDepth 100000
set_option linter.unusedVariables false
set_option linter.unusedSimpArgs false
namespace Go.Proofs.YtifjccndenojlaaGreat
open Go.RowKit
open Go.Proofs.Tryz
variable{n u v:Nat}{F:Nat->List AV}
theorem WJ(k:Int)(h:k=1\/k=4):aH prog 91 [.v (.int .i64 k)] (.bI [.agg [.v (.bool true),.v (.bool false),.v (.bool false)],.v (.bool true)]) []:=by
 have:=lX k;rcases h with rfl|rfl<;>exact this
theorem WL(k:Int)(h:k=2):aH prog 91 [.v (.int .i64 k)] (.bI [.agg [.v (.bool false),.v (.bool true),.v (.bool false)],.v (.bool true)]) []:=by
 have:=lX k;rcases h with rfl;exact this
theorem sJ(k:Int)(h:k=3\/k=5):aH prog 91 [.v (.int .i64 k)] (.bI [.agg [.v (.bool false),.v (.bool false),.v (.bool true)],.v (.bool true)]) []:=by
 have:=lX k;rcases h with rfl|rfl<;>exact this
theorem ajb(b:List UInt8)(hl:b.length<=1000000000)(h:(cO b).2.2≠0\/b.length<(cO b).2.1+2):aH prog 146 [.sl 1 b.length true (aO b)] (.bI [(jD b).1.av,.v (.bool (jD b).2)]) []:=by
 have hs:=iZ b (bG.bytes b) rfl;have hle:=zI b;rw[show jD b=(rc0,false) by unfold jD;rw[if_pos h]];obtain⟨⟨v,u,e⟩,hv⟩:∃p,cO b=p:=⟨_,rfl⟩;rw[hv]at hs h hle;dsimp only at hs h hle;refine K1.E 0x830100200000020007ed func146 ?_;repeat' ((conv=>whnf);first|refine K1.u ?_|refine K1.P1 hs ?_|refine aU.fF ?_|refine K1.y (λ _=>?_) (λ _=>?_)|fail)
 all_goals(conv=>whnf)
 all_goals first
  |exact bn.mk (aY.gG _)
  |fail
theorem ajc(b:List UInt8)(hl:b.length<=1000000000)(hv:cO b=(v,u,0))(hu:u+2<=b.length)(hk:((b.getD u default).toNat:Int)=1\/((b.getD u default).toNat:Int)=4):
  aH prog 146 [.sl 1 b.length true (aO b)] (.bI [(jD b).1.av,.v (.bool (jD b).2)]) []:=by
 have hs:=iZ b (bG.bytes b) rfl;rw[hv]at hs;dsimp only at hs;have hr:jD b=rdB ((b.getD u default).toNat:Int) ((b.getD (u+1) default).toNat:Int) (b.drop (u+2)):=by
  unfold jD;rw[hv,if_neg (by dsimp only;omega)]
 rw[hr];unfold rdB;rw[if_pos hk];have he:=WA (n:=b.length-(u+2)) (b.drop (u+2)) (bG.drop (bG.bytes b) (u+2)) s_ (by simp;omega);cases hE:NW (b.drop (u+2))with
 |none=>
  rw[hE]at he;dsimp only[NY]at he;dsimp only[Rc.av,Rc.cs];refine K1.E 0x830100200000020007ed func146 ?_;repeat' ((conv=>whnf);first|refine K1.u ?_|refine K1.P1 hs ?_|refine K1.P1 (WJ _ hk) ?_|refine K1.P1 he ?_|refine aI.yP 72 6 rfl ?_|refine aU.fF ?_|refine K1.o (id:=4) (nN [0,1,2,3,4,5,6,7,8,9,10,11] [(12,some []),(13,some [10,9,7,4,3])]) ?_|fail)
  all_goals(conv=>whnf)
  exact bn.mk (aY.gG _)
 |some l=>
  rw[hE]at he;dsimp only[NY]at he;dsimp only[Rc.av,Rc.cs];refine K1.E 0x830100200000020007ed func146 ?_;repeat' ((conv=>whnf);first|refine K1.u ?_|refine K1.P1 hs ?_|refine K1.P1 (WJ _ hk) ?_|refine K1.P1 he ?_|refine aI.yP 72 6 rfl ?_|refine aU.fF ?_|refine K1.o (id:=4) (nN [0,1,2,3,4,5,6,7,8,9,10,11] [(12,some []),(13,some [10,9,7,4,3])]) ?_|fail)
  all_goals(conv=>whnf)
  exact bn.mk (au)
theorem L6{b:List UInt8}(hv:cO b=(v,u,0))(hu:u+2<=b.length):jD b=rdB ((b.getD u default).toNat:Int) ((b.getD (u+1) default).toNat:Int) (b.drop (u+2)):=by
 unfold jD;rw[hv,if_neg (by dsimp only;omega)]
theorem ajd(b:List UInt8)(hl:b.length<=1000000000)(hv:cO b=(v,u,0))(hu:u+2<=b.length)(hk:((b.getD u default).toNat:Int)=2):
  aH prog 146 [.sl 1 b.length true (aO b)] (.bI [(jD b).1.av,.v (.bool (jD b).2)]) []:=by
 have hs:=iZ b (bG.bytes b) rfl;rw[hv]at hs;dsimp only at hs;rw[L6 hv hu];unfold rdB;rw[if_neg o_,if_pos hk];cases hE:mD (b.drop (u+2))with
 |none=>
  have he:=sH (n:=b.length-(u+2)) (b.drop (u+2)) hE (bG.drop (bG.bytes b) (u+2)) s_;dsimp only[Rc.av,Rc.cs];refine K1.E 0x830100200000020007ed func146 ?_;repeat' ((conv=>whnf);first|refine K1.u ?_|refine K1.P1 hs ?_|refine K1.P1 (WL _ hk) ?_|refine K1.P1 he ?_|refine aI.yP 72 6 rfl ?_|refine aU.fF ?_|refine K1.o (id:=4) (nN [0,1,2,3,4,5,6,7,8,9,10,11] [(12,some []),(13,some [10,9,7,4,3])]) ?_|fail)
  all_goals(conv=>whnf)
  exact bn.mk (aY.gG _)
 |some p=>
  obtain⟨m,k⟩:=p;have he:=sG (n:=b.length-(u+2)) (b.drop (u+2)) hE (bG.drop (bG.bytes b) (u+2)) s_;dsimp only[Rc.av,Rc.cs];refine K1.E 0x830100200000020007ed func146 ?_;repeat' ((conv=>whnf);first|refine K1.u ?_|refine K1.P1 hs ?_|refine K1.P1 (WL _ hk) ?_|refine K1.P1 he ?_|refine aI.yP 72 6 rfl ?_|refine aU.fF ?_|refine K1.o (id:=4) (nN [0,1,2,3,4,5,6,7,8,9,10,11] [(12,some []),(13,some [10,9,7,4,3])]) ?_|fail)
  all_goals(conv=>whnf)
  exact bn.mk (aY.gG _)
theorem alx{k:Int}(h:¬ (k=1\/k=4)/\ ¬k=2/\ ¬ (k=3\/k=5)):¬ (1<=k/\k<=5):=o_
theorem acK(b:List UInt8)(hl:b.length<=1000000000)(hv:cO b=(v,u,0))(hu:u+2<=b.length)(hk:¬ (((b.getD u default).toNat:Int)=1\/((b.getD u default).toNat:Int)=4)/\ ¬ ((b.getD u default).toNat:Int)=2/\ ¬ (((b.getD u default).toNat:Int)=3\/((b.getD u default).toNat:Int)=5)):
  aH prog 146 [.sl 1 b.length true (aO b)] (.bI [(jD b).1.av,.v (.bool (jD b).2)]) []:=by
 have hs:=iZ b (bG.bytes b) rfl;rw[hv]at hs;dsimp only at hs;rw[L6 hv hu];unfold rdB;rw[if_neg hk.1,if_neg hk.2.1,if_neg hk.2.2];have hk5:=alx hk;dsimp only[Rc.av,Rc.cs];refine K1.E 0x830100200000020007ed func146 ?_;repeat' ((conv=>whnf);first|refine K1.u ?_|refine K1.P1 hs ?_|refine K1.P1 (Wu _ hk5) ?_|refine aI.yP 72 6 rfl ?_|refine aU.fF ?_|refine K1.o (id:=4) (nN [0,1,2,3,4,5,6,7,8,9,10,11] [(12,some []),(13,some [10,9,7,4,3])]) ?_|fail)
 all_goals(conv=>whnf)
 exact bn.mk (aY.gG _)
theorem agA(b:List UInt8)(hl:b.length<=1000000000)(hv:cO b=(v,u,0))(hu:u+2<=b.length)(hk:((b.getD u default).toNat:Int)=3\/((b.getD u default).toNat:Int)=5):
  aH prog 146 [.sl 1 b.length true (aO b)] (.bI [(jD b).1.av,.v (.bool (jD b).2)]) []:=by
 have hs:=iZ b (bG.bytes b) rfl;rw[hv]at hs;dsimp only at hs;rw[L6 hv hu];unfold rdB;rw[if_neg o_,if_neg o_,if_pos hk];have hF:=bG.drop (bG.bytes b) (u+2);have hn:b.length-(u+2)=(b.drop (u+2)).length:=s_
 cases g0:mD (b.drop (u+2))with
 |none=>
  have e0:=sH (n:=b.length-(u+2)) (b.drop (u+2)) g0 hF hn;have hr:DF (b.drop (u+2))=(⟨0,0,0,0,0⟩,false):=by unfold DF;simp only[g0]
  rw[hr];dsimp only[Rc.av,Rc.cs];refine K1.E 0x830100200000020007ed func146 ?_;repeat' ((conv=>whnf);first|refine K1.u ?_|refine K1.P1 hs ?_|refine K1.P1 (sJ _ hk) ?_|refine K1.P1 e0 ?_|refine aI.yP 72 6 rfl ?_|refine aU.fF ?_|refine K1.o (id:=4) (nN [0,1,2,3,4,5,6,7,8,9,10,11] [(12,some []),(13,some [10,9,7,4,3])]) ?_|refine K1.z ?_|fail)
  all_goals(conv=>whnf)
  exact bn.mk (aY.gG _)
 |some p0=>
  obtain⟨m0,k0⟩:=p0;have l0:=xY g0;rw[<-hn]at l0;have e0:=sG (n:=b.length-(u+2)) (b.drop (u+2)) g0 hF hn;have n1:(b.length-(u+2)-k0)=((b.drop (u+2)).drop k0).length:=by simp;omega
  cases g1:mD ((b.drop (u+2)).drop k0)with
  |none=>
   have e1:=sH (n:=(b.length-(u+2)-k0)) ((b.drop (u+2)).drop k0) g1 (bG.drop hF k0) (by simp;omega);have hr:DF (b.drop (u+2))=(⟨m0,0,0,0,0⟩,false):=by unfold DF;simp only[g0,g1]
   rw[hr];dsimp only[Rc.av,Rc.cs];refine K1.E 0x830100200000020007ed func146 ?_;repeat' ((conv=>whnf);first|refine K1.u ?_|refine K1.P1 hs ?_|refine K1.P1 (sJ _ hk) ?_|refine K1.P1 e0 ?_|refine K1.P1 e1 ?_|refine aI.yP 72 6 rfl ?_|refine aU.fF ?_|refine K1.o (id:=4) (nN [0,1,2,3,4,5,6,7,8,9,10,11] [(12,some []),(13,some [10,9,7,4,3])]) ?_|refine K1.z ?_|fail)
   all_goals(conv=>whnf)
   exact bn.mk (aY.gG _)
  |some p1=>
   obtain⟨m1,k1⟩:=p1;have l1:=xY g1;rw[<-n1]at l1;have e1:=sG (n:=(b.length-(u+2)-k0)) ((b.drop (u+2)).drop k0) g1 (bG.drop hF k0) (by simp;omega);have n2:((b.length-(u+2)-k0)-k1)=(((b.drop (u+2)).drop k0).drop k1).length:=by simp;omega
   cases g2:mD (((b.drop (u+2)).drop k0).drop k1)with
   |none=>
    have e2:=sH (n:=((b.length-(u+2)-k0)-k1)) (((b.drop (u+2)).drop k0).drop k1) g2 (bG.drop (bG.drop hF k0) k1) (by simp;omega);have hr:DF (b.drop (u+2))=(⟨m0,m1,0,0,0⟩,false):=by unfold DF;simp only[g0,g1,g2]
    rw[hr];dsimp only[Rc.av,Rc.cs];refine K1.E 0x830100200000020007ed func146 ?_;repeat' ((conv=>whnf);first|refine K1.u ?_|refine K1.P1 hs ?_|refine K1.P1 (sJ _ hk) ?_|refine K1.P1 e0 ?_|refine K1.P1 e1 ?_|refine K1.P1 e2 ?_|refine aI.yP 72 6 rfl ?_|refine aU.fF ?_|refine K1.o (id:=4) (nN [0,1,2,3,4,5,6,7,8,9,10,11] [(12,some []),(13,some [10,9,7,4,3])]) ?_|refine K1.z ?_|fail)
    all_goals(conv=>whnf)
    exact bn.mk (aY.gG _)
   |some p2=>
    obtain⟨m2,k2⟩:=p2;have l2:=xY g2;rw[<-n2]at l2;have e2:=sG (n:=((b.length-(u+2)-k0)-k1)) (((b.drop (u+2)).drop k0).drop k1) g2 (bG.drop (bG.drop hF k0) k1) (by simp;omega);have n3:(((b.length-(u+2)-k0)-k1)-k2)=((((b.drop (u+2)).drop k0).drop k1).drop k2).length:=by simp;omega
    cases g3:mD ((((b.drop (u+2)).drop k0).drop k1).drop k2)with
    |none=>
     have e3:=sH (n:=(((b.length-(u+2)-k0)-k1)-k2)) ((((b.drop (u+2)).drop k0).drop k1).drop k2) g3 (bG.drop (bG.drop (bG.drop hF k0) k1) k2) (by simp;omega);have hr:DF (b.drop (u+2))=(⟨m0,m1,m2,0,0⟩,false):=by unfold DF;simp only[g0,g1,g2,g3]
     rw[hr];dsimp only[Rc.av,Rc.cs];refine K1.E 0x830100200000020007ed func146 ?_;repeat' ((conv=>whnf);first|refine K1.u ?_|refine K1.P1 hs ?_|refine K1.P1 (sJ _ hk) ?_|refine K1.P1 e0 ?_|refine K1.P1 e1 ?_|refine K1.P1 e2 ?_|refine K1.P1 e3 ?_|refine aI.yP 72 6 rfl ?_|refine aU.fF ?_|refine K1.o (id:=4) (nN [0,1,2,3,4,5,6,7,8,9,10,11] [(12,some []),(13,some [10,9,7,4,3])]) ?_|refine K1.z ?_|fail)
     all_goals(conv=>whnf)
     exact bn.mk (aY.gG _)
    |some p3=>
     obtain⟨m3,k3⟩:=p3;have l3:=xY g3;rw[<-n3]at l3;have e3:=sG (n:=(((b.length-(u+2)-k0)-k1)-k2)) ((((b.drop (u+2)).drop k0).drop k1).drop k2) g3 (bG.drop (bG.drop (bG.drop hF k0) k1) k2) (by simp;omega);have n4:((((b.length-(u+2)-k0)-k1)-k2)-k3)=(((((b.drop (u+2)).drop k0).drop k1).drop k2).drop k3).length:=by simp;omega
     cases g4:mD (((((b.drop (u+2)).drop k0).drop k1).drop k2).drop k3)with
     |none=>
      have e4:=sH (n:=((((b.length-(u+2)-k0)-k1)-k2)-k3)) (((((b.drop (u+2)).drop k0).drop k1).drop k2).drop k3) g4 (bG.drop (bG.drop (bG.drop (bG.drop hF k0) k1) k2) k3) (by simp;omega);have hr:DF (b.drop (u+2))=(⟨m0,m1,m2,m3,0⟩,false):=by unfold DF;simp only[g0,g1,g2,g3,g4]
      rw[hr];dsimp only[Rc.av,Rc.cs];refine K1.E 0x830100200000020007ed func146 ?_;repeat' ((conv=>whnf);first|refine K1.u ?_|refine K1.P1 hs ?_|refine K1.P1 (sJ _ hk) ?_|refine K1.P1 e0 ?_|refine K1.P1 e1 ?_|refine K1.P1 e2 ?_|refine K1.P1 e3 ?_|refine K1.P1 e4 ?_|refine aI.yP 72 6 rfl ?_|refine aU.fF ?_|refine K1.o (id:=4) (nN [0,1,2,3,4,5,6,7,8,9,10,11] [(12,some []),(13,some [10,9,7,4,3])]) ?_|refine K1.z ?_|fail)
      all_goals(conv=>whnf)
      exact bn.mk (aY.gG _)
     |some p4=>
      obtain⟨m4,k4⟩:=p4;have l4:=xY g4;rw[<-n4]at l4;have e4:=sG (n:=((((b.length-(u+2)-k0)-k1)-k2)-k3)) (((((b.drop (u+2)).drop k0).drop k1).drop k2).drop k3) g4 (bG.drop (bG.drop (bG.drop (bG.drop hF k0) k1) k2) k3) (by simp;omega);have hr:DF (b.drop (u+2))=(⟨m0,m1,m2,m3,m4⟩,true):=by unfold DF;simp only[g0,g1,g2,g3,g4]
      rw[hr];dsimp only[Rc.av,Rc.cs];refine K1.E 0x830100200000020007ed func146 ?_;repeat' ((conv=>whnf);first|refine K1.u ?_|refine K1.P1 hs ?_|refine K1.P1 (sJ _ hk) ?_|refine K1.P1 e0 ?_|refine K1.P1 e1 ?_|refine K1.P1 e2 ?_|refine K1.P1 e3 ?_|refine K1.P1 e4 ?_|refine aI.yP 72 6 rfl ?_|refine aU.fF ?_|refine K1.o (id:=4) (nN [0,1,2,3,4,5,6,7,8,9,10,11] [(12,some []),(13,some [10,9,7,4,3])]) ?_|refine K1.z ?_|fail)
      all_goals(conv=>whnf)
      exact bn.mk (aY.gG _)
theorem aly(b:List UInt8)(hl:b.length<=1000000000):aH prog 146 [.sl 1 b.length true (aO b)] (.bI [(jD b).1.av,.v (.bool (jD b).2)]) []:=by
 by_cases h:(cO b).2.2≠0\/b.length<(cO b).2.1+2
 ·exact ajb b hl h
 ·obtain⟨⟨v,u,e⟩,hv⟩:∃p,cO b=p:=⟨_,rfl⟩;rw[hv]at h;dsimp only at h;obtain rfl:e=0:=o_
  have hu:u+2<=b.length:=o_
  by_cases h1:((b.getD u default).toNat:Int)=1\/((b.getD u default).toNat:Int)=4
  ·exact ajc b hl hv hu h1
  ·by_cases h2:((b.getD u default).toNat:Int)=2
   ·exact ajd b hl hv hu h2
   ·by_cases h3:((b.getD u default).toNat:Int)=3\/((b.getD u default).toNat:Int)=5
    ·exact agA b hl hv hu h3
    ·exact acK b hl hv hu ⟨h1,h2,h3⟩
theorem acL(b:List UInt8)(hF:bG F b)(hn:n=b.length)(hl:b.length<=1000000000):aH prog 146 [.sl 1 n true F] (.bI [(jD b).1.av,.v (.bool (jD b).2)]) []:=
 (aly b hl).args (Ch.wS hF hn .nil)
theorem Ie(x:Rc):5<=(bF x).length:=by
 unfold bF;rw[eU];have:=vH 9 (lH x).length;rw[aop];show 5<=(fZ 9 (lH x).length).length+_+4;omega
theorem Ti(h:2048<n):aH prog 110 [.sl 1 n true F] (.bI [.agg (YW 0 0 0 0 0 0 0 0 (.v (.slice none 0 0))),.v (.int .i64 5)]) []:=by
 refine K1.E 0x200080809fd func110 ?_;repeat' ((conv=>whnf);first|refine K1.u ?_|refine aU.fF ?_|fail)
 conv=>whnf
 exact bn.mk (au)
def pushP(most:Int)(r:Nat)(l:List Ev)(p:Pt):Pt×Int×Int:=
 if(jZ most (p.sh.getD r default) l).2=0 then
  (qP ⟨eF (λ _=>(jZ most (p.sh.getD r default) l).1) r p.sh,p.told⟩ r,(jO (jZ most (p.sh.getD r default) l).1 (jc p.told r)).len,0)
 else(p,0,(jZ most (p.sh.getD r default) l).2)
theorem agB{most:Int}{s:jY}{l:List Ev}(h:(jZ most s l).2≠0):(jZ most s l).1=s:=by
 revert h;unfold jZ;split<;>(try split)<;>(try split)<;>simp
theorem aI.cnt{body:(jk->AS->Prop)->AS->Prop}{Q:jk->AS->Prop}{sl:List (Nat×AV)}{h:List (Nat×AO)}{bk:List (List (Nat×AV))}{b:Nat}(t n:Nat)(h0:dO [] ⟨(t,.v (.int .i64 0))::sl,h,bk,b⟩ ⟨(t,.v (.int .i64 ((0:Nat):Int)))::sl,h,bk,b⟩)
  (hb:∀x:{j:Nat//j<=n},body (λ e st'=>match e with| .normal=> ∃(y:{j:Nat//j<=n}) (σ:List (Nat×Nat)),dO σ st' ⟨(t,.v (.int .i64 (y.1:Int)))::sl,h,bk,b⟩/\n-y.1<n-x.1| .exit i=>Q (.exit i) st'| .ret=>Q .ret st') ⟨(t,.v (.int .i64 (x.1:Int)))::sl,h,bk,b⟩):aI body Q ⟨(t,.v (.int .i64 0))::sl,h,bk,b⟩:=
 aI.mk {j:Nat//j<=n} (λ j=>⟨(t,.v (.int .i64 (j.1:Int)))::sl,h,bk,b⟩) (λ j=>n-j.1) ⟨0,aoB _⟩ [] h0 hb
structure EvB(l:List Ev):Prop where
 h:l.length<=1000000
 n:∀j,0<=(l.getD j default).n/\(l.getD j default).n<=1000000000
theorem WM(most:Int)(p:Pt)(r:Nat)(hp:qX p)(hr:r<p.sh.length)(l:List Ev)(x:Int)(hl:EvB l)(hs:iW (p.sh.getD r default))(hall:∀j,j<l.length->(l.getD j default).r=(r:Int))(hput:jZ most (p.sh.getD r default) l=(p.sh.getD r default,x))(hx:x≠0):
  aj prog 65 (rD most p ()) [.box 0 0,.v (.int .i64 (r:Int)),.sl 12 l.length true (dI l)] (.bI [.v (.int .i64 0),.v (.int .i64 x)]) (rD most p ()):=by
 refine Pt.Le (C:=λ p r=>(iW (p.sh.getD r default))->(∀j,j<l.length->(l.getD j default).r=(r:Int))->(jZ most (p.sh.getD r default) l=(p.sh.getD r default,x))->(x≠0)->aj prog 65 (rD most p ()) [.box 0 0,.v (.int .i64 (r:Int)),.sl 12 l.length true (dI l)] (.bI [.v (.int .i64 0),.v (.int .i64 x)]) (rD most p ())) p r hp hr ?_ ?_ ?_ ?_ ?_ ?_ ?_ ?_ ?_ ?_ ?_ ?_ ?_ ?_ ?_ hs hall hput hx;all_goals
  intros;rename_i hs hall hput hx;dsimp only[rD,ptB,wC,ptrs,YI,List.length,List.getD_cons_zero,List.getD_cons_succ]at*;refine K1.M 0x100107c6c7 func65 40 ?_;repeat' ((conv=>whnf);first|refine K1.u ?_|refine K1.I 0x13 func101 ?_|refine oC.yes d_ ?_|fail)
  conv=>whnf
  refine aI.cnt 17 l.length ?_ ?_
  ·refine dO.mk' [] _ _ _ rfl ?_ ?_ rfl;all_goals repeat' first|exact trivial|refine⟨au, ?_⟩|refine⟨ay rfl, ?_⟩
  have hlh:=hl.h;rintro⟨j,hj⟩;dsimp only;by_cases hjl:j<l.length
  ·have hr:=hall j hjl;rw[show j=(j:Int).toNat by omega]at hr;repeat' ((conv=>whnf);first|refine K1.u ?_|fail)
   all_goals(conv=>whnf)
   refine⟨⟨j+1,hjl⟩,[],dO.mk' [] _ _ _ rfl ?_ ?_ rfl,by show l.length-(j+1)<l.length-j;omega⟩;all_goals repeat' first|exact trivial|refine⟨au, ?_⟩|refine⟨ay rfl, ?_⟩
  ·have agC:=VP _ _ _ _ _ hs.b0 hs.b1 hs.k hl.h hl.n hput;repeat' ((conv=>whnf);first|refine K1.u ?_|refine K1.C 1 [(0,_)] (agC) rfl ?_|refine nV.mk d_ ?_|fail)
   all_goals(conv=>whnf)
   refine⟨[],rfl,rfl, ?_,rfl,rfl,au⟩;repeat' first|exact trivial|refine⟨ay rfl, ?_⟩
theorem Y3(most:Int)(p:Pt)(r:Nat)(hp:qX p)(hr:r<p.sh.length)(l:List Ev)(s':jY)(hl:EvB l)(hs:iW (p.sh.getD r default))(hall:∀j,j<l.length->(l.getD j default).r=(r:Int))(hput:jZ most (p.sh.getD r default) l=(s',0))(hc:aj prog 103 (rD most ⟨eF (λ _=>s') r p.sh,p.told⟩ ()) [.box 0 0,.v (.int .i64 (r:Int))] (.bI []) (rD most (qP ⟨eF (λ _=>s') r p.sh,p.told⟩ r) ()))(hln:aj prog 98 [(0,.obs (EJ most (jO s' (jc p.told r))))] [.box 0 0] (.v (.int .i64 (jO s' (jc p.told r)).len)) [(0,.obs (EJ most (jO s' (jc p.told r))))]):
  aj prog 65 (rD most p ()) [.box 0 0,.v (.int .i64 (r:Int)),.sl 12 l.length true (dI l)] (.bI [.v (.int .i64 (jO s' (jc p.told r)).len),.v (.int .i64 0)]) (rD most (qP ⟨eF (λ _=>s') r p.sh,p.told⟩ r) ()):=by
 refine Pt.Le (C:=λ p r=>(iW (p.sh.getD r default))->(∀j,j<l.length->(l.getD j default).r=(r:Int))->(jZ most (p.sh.getD r default) l=(s',0))->(aj prog 103 (rD most ⟨eF (λ _=>s') r p.sh,p.told⟩ ()) [.box 0 0,.v (.int .i64 (r:Int))] (.bI []) (rD most (qP ⟨eF (λ _=>s') r p.sh,p.told⟩ r) ()))->(aj prog 98 [(0,.obs (EJ most (jO s' (jc p.told r))))] [.box 0 0] (.v (.int .i64 (jO s' (jc p.told r)).len)) [(0,.obs (EJ most (jO s' (jc p.told r))))])->aj prog 65 (rD most p ()) [.box 0 0,.v (.int .i64 (r:Int)),.sl 12 l.length true (dI l)] (.bI [.v (.int .i64 (jO s' (jc p.told r)).len),.v (.int .i64 0)]) (rD most (qP ⟨eF (λ _=>s') r p.sh,p.told⟩ r) ())) p r hp hr ?_ ?_ ?_ ?_ ?_ ?_ ?_ ?_ ?_ ?_ ?_ ?_ ?_ ?_ ?_ hs hall hput hc hln;all_goals
  intros;rename_i hs hall hput hc hln;dsimp only[rD,ptB,wC,ptrs,YI,List.length,qP,eF,List.getD_cons_zero,List.getD_cons_succ]at*;refine K1.M 0x100107c6c7 func65 40 ?_;repeat' ((conv=>whnf);first|refine K1.u ?_|refine K1.I 0x13 func101 ?_|refine oC.yes d_ ?_|fail)
  conv=>whnf
  refine aI.cnt 17 l.length ?_ ?_
  ·refine dO.mk' [] _ _ _ rfl ?_ ?_ rfl;all_goals repeat' first|exact trivial|refine⟨au, ?_⟩|refine⟨ay rfl, ?_⟩
  have hlh:=hl.h;rintro⟨j,hj⟩;dsimp only;by_cases hjl:j<l.length
  ·have hr:=hall j hjl;rw[show j=(j:Int).toNat by omega]at hr;repeat' ((conv=>whnf);first|refine K1.u ?_|fail)
   all_goals(conv=>whnf)
   refine⟨⟨j+1,hjl⟩,[],dO.mk' [] _ _ _ rfl ?_ ?_ rfl,by show l.length-(j+1)<l.length-j;omega⟩;all_goals repeat' first|exact trivial|refine⟨au, ?_⟩|refine⟨ay rfl, ?_⟩
  ·have agC:=VP _ _ _ _ _ hs.b0 hs.b1 hs.k hl.h hl.n hput;repeat' ((conv=>whnf);first|refine K1.u ?_|refine K1.C 1 [(0,_)] (agC) rfl ?_|refine K1.C 99 [(0,_),(10,_),(11,_),(20,_)] (hc) rfl ?_|refine K1.C 99 [(0,_),(10,_),(11,_),(20,_),(21,_)] (hc) rfl ?_|refine K1.C 99 [(0,_),(10,_),(11,_),(20,_),(21,_),(22,_)] (hc) rfl ?_|refine K1.C 99 [(0,_),(10,_),(11,_),(20,_),(21,_),(22,_),(23,_)] (hc) rfl ?_|refine K1.C 99 [(0,_),(10,_),(11,_),(20,_),(21,_),(22,_),(23,_),(24,_)] (hc) rfl ?_|refine K1.C 1 [(0,_)] (hln) rfl ?_|refine nV.mk d_ ?_|fail)
   all_goals(conv=>whnf)
   refine⟨[],rfl,rfl, ?_,rfl,rfl,au⟩;repeat' first|exact trivial|refine⟨ay rfl, ?_⟩
theorem Qe(most:Int)(p p':Pt)(r:Nat)(hp:qX p)(hr:r<p.sh.length)(l:List Ev)(hl:EvB l)(hall:∀j,j<l.length->(l.getD j default).r=(r:Int))(hs:iW (jZ most (p.sh.getD r default) l).1)(u x:Int)(h:pushP most r l p=(p',u,x)):
  aj prog 65 [(0,.obs (Bd most p))] [.box 0 0,.v (.int .i64 (r:Int)),.sl 12 l.length true (dI l)] (.bI [.v (.int .i64 u),.v (.int .i64 x)]) [(0,.obs (Bd most p'))]:=by
 refine Ld (ho:=[]) ⟨_,_,func65,rfl,rfl⟩ ?_ rfl;rw[aor];obtain⟨⟨s',y⟩,hput⟩:∃q,jZ most (p.sh.getD r default) l=q:=⟨_,rfl⟩;unfold pushP at h;rw[hput]at h hs;by_cases hy:y=0
 ·subst hy;rw[if_pos rfl]at h;cases h;exact Y3 most p r hp hr l s' hl (hp.get hr) hall hput (WG most _ r (hp.set hs r) (by show r<(eF _ _ _).length;rw[dH];exact hr)) (VT most _ (Tf hs _))
 ·have he:s'=p.sh.getD r default:=by have:=agB (most:=most) (s:=p.sh.getD r default) (l:=l) (by rw[hput];exact hy);rw[hput]at this;exact this
  rw[if_neg hy]at h;cases h;rw[he]at hput;exact WM most p r hp hr l y hl (hp.get hr) hall hput hy
end Go.Proofs.YtifjccndenojlaaGreat
