/-
  Contracts of the walk:RefB,Ref7,NeR,NdL,NdN,Open.
-/
import Derived.Test.YtimhagicagdkfaaGreatNi27
import Derived.Test.YtimhagicagdkfaaGreatNi13
import Derived.Test.YtimhagicagdkfaaGreatNi25
import Derived.Test.YtimhagicagdkfaaGreatNi26
import Derived.Test.YtimhagicagdkfaaGreatNi10
import Derived.Test.YtimhagicagdkfaaGreatNi9
set_option maxHeartbeats 16000000
set_option maxRecDepth 100000
set_option linter.unusedVariables false
set_option linter.unusedSimpArgs false
namespace Go.Proofs.YtimhagicagdkfaaGreat
section
open Go.RowKit
theorem JY (e:Ev):aG Tryz.prog 70 [e.av] (.v (.int .i64 (fB e))) []:=by
 obtain⟨r,n,⟨c0,c1,c2,c3,c4⟩,h,k,key,l,v⟩:=e
 dsimp only[Ev.av,Ev.cs]
 by_cases hr:0≤r∧r≤4
 · rcases(show r=0∨r=1∨r=2∨r=3∨r=4 by omega)with rfl|rfl|rfl|rfl|rfl
   all_goals
    refine K1.E 0x1014000000f Tryz.func70 ?_
    repeat' ((conv=>whnf);first|refine K1.w ?_|refine K1.u ?_|refine K1.P1 (Pv _ _ _) rfl ?_|refine K1.P1 (JX ⟨_,n,⟨c0,c1,c2,c3,c4⟩,h,k,key,l,v⟩) rfl ?_|refine K1.P1 (He ⟨k,key,l,v⟩) rfl ?_|refine aN.sO 3 6 rfl ?_|refine K1.o (id:=1) [(0,none),(1,none),(2,some [1]),(3,none),(4,none),(5,none),(6,none),(7,some [1,6]),(8,none),(9,none),(10,none),(11,none),(12,none),(13,some [1,6,12]),(14,none),(15,none),(16,none),(17,none),(18,none),(19,none),(20,none),(21,none),(22,none),(23,none),(24,none),(25,none),(26,none)] [(2,[1]),(3,[1]),(4,[1]),(5,[1]),(6,[1]),(7,[1,6]),(8,[1,6]),(9,[1,6]),(10,[1,6]),(11,[1,6]),(12,[1,6]),(13,[1,6,12]),(14,[1,6,12]),(15,[1,6,12]),(16,[1,6,12]),(17,[1,6,12]),(18,[1,6,12]),(19,[1,6,12]),(20,[1,6,12]),(21,[1,6,12]),(22,[1,6,12]),(23,[1,6,12]),(24,[1,6,12]),(25,[1,6,12]),(26,[1,6,12])] ?_|refine K1.z ?_|refine K1.y (fun _=>?_) (fun _=>?_)|fail)
    all_goals refine aJ.int rfl ?_
    all_goals first|(simp[fB,nG,gu,bn.get,Ev.ed, *];done)|(simp[fB,nG,gu,bn.get,Ev.ed, *];omega)
 · refine K1.E 0x1014000000f Tryz.func70 ?_
   repeat' ((conv=>whnf);first|refine K1.w ?_|refine K1.u ?_|refine K1.P1 (Pv _ _ _) rfl ?_|refine K1.P1 (JX ⟨r,n,⟨c0,c1,c2,c3,c4⟩,h,k,key,l,v⟩) rfl ?_|refine K1.P1 (He ⟨k,key,l,v⟩) rfl ?_|refine aN.sO 3 6 rfl ?_|refine K1.o (id:=1) [(0,none),(1,none),(2,some [1]),(3,none),(4,none),(5,none),(6,none),(7,some [1,6]),(8,none),(9,none),(10,none),(11,none),(12,none),(13,some [1,6,12]),(14,none),(15,none),(16,none),(17,none),(18,none),(19,none),(20,none),(21,none),(22,none),(23,none),(24,none),(25,none),(26,none)] [(2,[1]),(3,[1]),(4,[1]),(5,[1]),(6,[1]),(7,[1,6]),(8,[1,6]),(9,[1,6]),(10,[1,6]),(11,[1,6]),(12,[1,6]),(13,[1,6,12]),(14,[1,6,12]),(15,[1,6,12]),(16,[1,6,12]),(17,[1,6,12]),(18,[1,6,12]),(19,[1,6,12]),(20,[1,6,12]),(21,[1,6,12]),(22,[1,6,12]),(23,[1,6,12]),(24,[1,6,12]),(25,[1,6,12]),(26,[1,6,12])] ?_|refine K1.z ?_|refine K1.y (fun _=>?_) (fun _=>?_)|fail)
   all_goals refine aJ.int rfl ?_
   all_goals(simp[fB,gu];omega)
theorem ZE (d:Nat) (e:Ev) (h:fB e=0):aG Tryz.prog 36 [e.av] (.dL [.own d,.v (.int .i64 0)]) [(d,.row 5 1 (aS e).length true (aV (aS e)))]:=by
 have m:=xO h
 have g:=qy m.ed
 have hm:=JY e
 rw[h]at hm
 obtain⟨r,n,⟨c0,c1,c2,c3,c4⟩,hh,k,key,l,v⟩:=e
 obtain⟨r0,r4,n1,n2,h1,h2,a0,a1,a2,a3,a4,own,ed⟩:=m
 dsimp only[Ev.ed]at r0 r4 n1 n2 h1 h2 a0 a1 a2 a3 a4 g
 obtain⟨g1,g2,g3,g4,g5,g6,g7⟩:=g
 have g8:v.size≤12∧0≤l∧l≤1:=by
  cases hl:dM k with
  |true=>have:=g6 hl;omega
  |false=>have:=g7 hl;omega
 have hk:(dM k=true∧2<k)∨(dM k=false∧k≤2):=by
  unfold dM
  rcases(show k=1∨k=2∨k=3∨k=4∨k=5 by omega)with rfl|rfl|rfl|rfl|rfl<;>decide
 clear own ed g6 g7
 obtain⟨n,rfl⟩:=Int.eq_ofNat_of_zero_le (show 0≤n by omega)
 obtain⟨hh,rfl⟩:=Int.eq_ofNat_of_zero_le (show 0≤hh by omega)
 obtain⟨c0,rfl⟩:=Int.eq_ofNat_of_zero_le a0.1
 obtain⟨c1,rfl⟩:=Int.eq_ofNat_of_zero_le a1.1
 obtain⟨c2,rfl⟩:=Int.eq_ofNat_of_zero_le a2.1
 obtain⟨c3,rfl⟩:=Int.eq_ofNat_of_zero_le a3.1
 obtain⟨c4,rfl⟩:=Int.eq_ofNat_of_zero_le a4.1
 have q (x:Nat):(aA x).length≤10:=bU 9 x
 have q0:=q n
 have q1:=q hh
 have q2:=q c0
 have q3:=q c1
 have q4:=q c2
 have q5:=q c3
 have q6:=q c4
 clear q
 dsimp only[Ev.av,Ev.cs]at hm⊢
 rcases hk with⟨hl,hk⟩|⟨hl,hk⟩
 all_goals
  rcases(show r=0∨r=1∨r=2∨r=3∨r=4 by omega)with rfl|rfl|rfl|rfl|rfl
 all_goals
  refine K1.E 0x80000010400047f Tryz.func36 ?_
  repeat' ((conv=>whnf);first|refine K1.w ?_|refine K1.u ?_|refine K1.P1 hm rfl ?_|refine K1.F1 (jD _ _ (by omega)) rfl ?_|refine aN.sO 6 6 rfl ?_|refine K1.o (id:=12) [(0,none),(1,none),(2,none),(3,none),(4,none),(7,none),(8,none),(5,some [4,2]),(6,some [4,2]),(9,some [4,2,8]),(10,none)] [(3,[2]),(4,[2]),(5,[4,2]),(6,[4,2]),(9,[4,2,8]),(10,[4,2,8])] ?_|refine K1.o (id:=14) [(0,none),(1,none),(2,none),(3,none),(4,none),(5,none),(6,none),(7,none),(10,none),(11,none),(8,some [7,5,3,2]),(9,some [7,5,3,2]),(12,some [7,5,3,2,11]),(13,none)] [(3,[2]),(6,[5]),(7,[5]),(8,[7,5,3,2]),(9,[7,5,3,2]),(12,[7,5,3,2,11]),(13,[7,5,3,2,11])] ?_|refine K1.z ?_|refine K1.y (fun _=>?_) (fun _=>?_)|fail)
  all_goals(refine aJ.qo d rfl rfl ?_ (aj);apply cO.pF)
  all_goals(try(repeat' (first|exact bD.bytes _|exact bD.str _|exact bD.one (by omega) (by omega)|exact bD.two (by omega) (by omega) (by omega) (by omega)|apply bD.app)))
  all_goals first
    |(simp only[List.length_append,List.length_cons,List.length_nil,qV];try omega;done)
    |(simp[aS,others,words,iM,byteOf,byteOf', *];done)
end
section
open Go.RowKit
theorem nX (n:Int):aG Tryz.prog 68 [.v (.int .i64 n)] (.v (.bool (nG n))) []:=by
 refine K1.E 0x5 Tryz.func68 ?_
 repeat' ((conv=>whnf);first|refine K1.w ?_|refine K1.u ?_|refine aJ.dR ?_|refine K1.z ?_|refine K1.y (fun _=>?_) (fun _=>?_)|fail)
 all_goals(conv=>whnf)
 all_goals(refine bG.mk (aT.of ?_))
 all_goals simp[nG,gu, *]
theorem Ip (c0 c1 c2 c3 c4:Int):aG Tryz.prog 69 [.agg [.v (.int .i64 c0),.v (.int .i64 c1),.v (.int .i64 c2),.v (.int .i64 c3),.v (.int .i64 c4)]] (.v (.bool (PG ⟨c0,c1,c2,c3,c4⟩))) []:=by
 refine K1.E 0x102f Tryz.func69 ?_
 repeat' ((conv=>whnf);first|refine K1.w ?_|refine K1.u ?_|refine K1.P1 (nX _) rfl ?_|refine aN.sO 3 6 rfl ?_|refine aJ.dR ?_|refine K1.z ?_|refine K1.y (fun _=>?_) (fun _=>?_)|fail)
 all_goals(conv=>whnf)
 all_goals(refine bG.mk (aT.of ?_))
 all_goals simp[PG, *]
theorem Hf (l:List Ev) (hl:l.length≤140737488355328):aG Tryz.prog 67 [.sl 12 l.length true (eG l)] (.v (.bool (l.all (fun e=>decide (fB e=0))&&decide (l.length≤20)))) []:=by
 refine K1.E 0x808d Tryz.func67 ?_
 repeat' ((conv=>whnf);first|refine K1.w ?_|refine K1.u ?_|refine aJ.dR ?_|refine K1.z ?_|refine K1.y (fun _=>?_) (fun _=>?_)|fail)
 conv=>whnf
 refine aN.mk {j:Nat//j≤l.length∧ ∀i,i<j→fB (l.getD i default)=0} (fun j=>⟨[(0,.sl 12 l.length true (eG l)),(3,.v (.int .i64 (j.1:Int)))],[],[],4⟩) (fun j=>l.length-j.1) ⟨0,Nat.zero_le _,fun i h=>absurd h (Nat.not_lt_zero i)⟩ _
  (dO.mk' [] _ _ _ rfl ⟨aj,aT.int rfl,trivial⟩ trivial rfl) ?_
 rintro⟨j,hj,hall⟩
 dsimp only
 repeat' ((conv=>whnf);first|refine K1.w ?_|refine K1.u ?_|refine K1.P1 (JY (l.getD (j:Int).toNat default)) rfl ?_|refine aJ.dR ?_|refine K1.z ?_|refine K1.y (fun _=>?_) (fun _=>?_)|fail)
 all_goals(conv=>whnf)
 all_goals first
   | (refine⟨⟨j+1,by omega,fun i hi=>?_⟩,_,dO.mk' [] _ _ _ rfl ⟨aj,aT.int rfl,trivial⟩ trivial rfl,by show l.length-(j+1)<l.length-j;omega⟩
      rcases Nat.lt_or_ge i j with h|h
      · exact hall i h
      · rw[show i=j by omega]
        exact ‹fB (l.getD (j:Int).toNat default)=0›)
   | (refine bG.mk (aT.of ?_)
      have hno:=Yr (l:=l) (j:=j) (by omega) ‹¬fB (l.getD (j:Int).toNat default)=0›
      simp[hno])
   | (refine bG.mk (aT.of ?_)
      have hyes:=Tm (l:=l) (fun i hi=>hall i (by omega))
      rw[hyes,Bool.true_and]
      first
        |rw[decide_eq_true (show l.length≤20 by omega)]
        |rw[decide_eq_false (show¬l.length≤20 by omega)])
theorem Wp (l:List Ev) (r:Int):l.all (rX 1 r)=(l.all (fun e=>decide (fB e=0))&&l.all (fun e=>decide (e.r=r))):=by
 induction l with
 |nil=>rfl
 | cons e l ih=>
   simp only[List.all_cons,ih,rX]
   cases decide (fB e=0)<;>cases decide (e.r=r)<;>simp
theorem Wq (l:List Ev) {k:Int} (hk:k≠1) (r:Int):l.all (rX k r)=l.all (fun e=>decide (fB e=0)):=by
 induction l with
 |nil=>rfl
 |cons e l ih=>simp only[List.all_cons,ih,rX,decide_eq_true hk,Bool.true_or,Bool.and_true]
theorem abv {l:List Ev} {j:Nat} {r:Int} (hj:j<l.length) (h: ¬ (l.getD j default).r=r):l.all (fun e=>decide (e.r=r))=false:=Ls (p:=fun e=>decide (e.r=r)) hj (decide_eq_false h)
theorem ZF {l:List Ev} {r:Int} (h: ∀i,i<l.length→(l.getD i default).r=r):l.all (fun e=>decide (e.r=r))=true:=Ot (p:=fun e=>decide (e.r=r)) fun i hi=>decide_eq_true (h i hi)
theorem Hg {c:bn} (h: ¬c=dS):Le c=false:=by
 cases hc:Le c with
 |false=>rfl
 |true=>exact absurd ((jq c).1 hc) h
theorem wX (x:Rc) (hl:x.ev.length≤140737488355328):aG Tryz.prog 34 [x.av] (.v (.bool (iK x))) []:=by
 obtain⟨k,r,u,⟨c0,c1,c2,c3,c4⟩,ev⟩:=x
 dsimp only at hl
 have hevs:=Hf ev hl
 obtain⟨A,hA⟩: ∃A,A=ev.all (fun e=>decide (fB e=0)):=⟨_,rfl⟩
 rw[←hA]at hevs
 obtain⟨B,hB⟩: ∃B,B=(A&&decide (ev.length≤20)):=⟨_,rfl⟩
 rw[←hB]at hevs
 have ok0:nG 0=true:=rfl
 rcases(show k=1∨k=2∨(k=3∨k=5)∨k=4∨ ¬ (1≤k∧k≤5) by omega)with rfl|rfl|hk|rfl|hk
 · have hm:iK ⟨1,r,u,⟨c0,c1,c2,c3,c4⟩,ev⟩=(decide (0≤r)&&decide (r<5)&&decide (u=0)&&Le ⟨c0,c1,c2,c3,c4⟩&&B&&decide (ev.length≠0)&&ev.all (fun e=>decide (e.r=r))):=by
    rw[Bool.eq_iff_iff]
    simp only[iK,Wp,←hA,hB,Bool.and_eq_true,Bool.or_eq_true,decide_eq_true_eq,PI,zn,zo,zl,jq]
    constructor
    · intro h;simp at h⊢;grind
    · intro h
      obtain⟨⟨⟨⟨⟨⟨h1,h2⟩,h3⟩,h4⟩,h5⟩,h6⟩,h7⟩:=h
      simp only[dS,bn.mk.injEq]at h4
      obtain⟨rfl,rfl,rfl,rfl,rfl⟩:=h4
      simp[h1,h2,h3,h5,h6,h7,nG,PG,dS,gu]
   rw[hm]
   clear hm hB hA
   dsimp only[Rc.av,Rc.cs]
   refine K1.E 0x200080000100210c101f Tryz.func34 ?_
   repeat' ((conv=>whnf);first|refine K1.w ?_|refine K1.u ?_|refine K1.P1 (nX _) rfl ?_|refine K1.P1 hevs rfl ?_|refine PD.mk (bn.vs ⟨c0,c1,c2,c3,c4⟩) (bn.vs dS) (bn.mk c0 c1 c2 c3 c4=dS) rfl rfl (uy _ _) ?_|refine aJ.dR ?_|refine K1.z ?_|refine K1.y (fun _=>?_) (fun _=>?_)|fail)
   all_goals(conv=>whnf)
   all_goals first
     |(refine bG.mk (aT.of ?_);simp;omega)
     |refine aN.mk {j:Nat//j≤ev.length∧ ∀i,i<j→(ev.getD i default).r=r} (fun j=>⟨[(1,.box 0 0),(3,.v (.bool _)),(4,.v (.int .i64 (j.1:Int)))],
        [(0,.box 47 [.v (.int .i64 1),.v (.int .i64 r),.v (.int .i64 u),.v (.int .i64 c0),.v (.int .i64 c1),.v (.int .i64 c2),.v (.int .i64 c3),.v (.int .i64 c4),.sl 12 ev.length true (eG ev)])],[],4⟩) (fun j=>ev.length-j.1) ⟨0,Nat.zero_le _,fun i h=>absurd h (Nat.not_lt_zero i)⟩ _
        (dO.mk' [] _ _ _ rfl ⟨aj,aj,aT.int rfl,trivial⟩ ⟨aH rfl,trivial⟩ rfl) ?_
   all_goals(rintro⟨j,hj,hall⟩;dsimp only)
   all_goals repeat' ((conv=>whnf);first|refine K1.w ?_|refine K1.u ?_|refine K1.P1 hevs rfl ?_|refine aJ.dR ?_|refine K1.z ?_|refine K1.y (fun _=>?_) (fun _=>?_)|fail)
   all_goals(conv=>whnf)
   all_goals first
     | (refine⟨⟨j+1,by omega,fun i hi=>?_⟩,_,dO.mk' [] _ _ _ rfl ⟨aj,aj,aT.int rfl,trivial⟩ ⟨aH rfl,trivial⟩ rfl,by show ev.length-(j+1)<ev.length-j;omega⟩
        rcases Nat.lt_or_ge i j with h|h
        · exact hall i h
        · rw[show i=j by omega]
          exact ‹(ev.getD (j:Int).toNat default).r=r›)
     | (refine bG.mk (aT.of ?_)
        rw[abv (l:=ev) (j:=j) (r:=r) (by omega) ‹¬ (ev.getD (j:Int).toNat default).r=r›,Bool.and_false])
     | (refine bG.mk (aT.of ?_)
        rw[ZF (l:=ev) (r:=r) (fun i hi=>hall i (by omega)),Bool.and_true]
        first
          |(rw[Hg ‹¬bn.mk c0 c1 c2 c3 c4=dS›];simp;done)
          |(rw[(jq _).2 ‹bn.mk c0 c1 c2 c3 c4=dS›];simp[-List.length_eq_zero_iff, *]<;>omega)
          |(simp[-List.length_eq_zero_iff, *];done)
          |(simp[-List.length_eq_zero_iff, *];omega))
 · have hm:iK ⟨2,r,u,⟨c0,c1,c2,c3,c4⟩,ev⟩=(decide (0≤r)&&decide (r<5)&&nG u&&Le ⟨c0,c1,c2,c3,c4⟩&&decide (ev.length=0)):=by
    rw[Bool.eq_iff_iff]
    simp only[iK,Bool.and_eq_true,Bool.or_eq_true,decide_eq_true_eq,PI,zn,zo,zl,jq]
    constructor
    · intro h;simp at h⊢;grind
    · intro h
      obtain⟨⟨⟨⟨h1,h2⟩,h3⟩,h4⟩,h5⟩:=h
      have h5:=List.eq_nil_of_length_eq_zero h5
      subst h5
      simp only[dS,bn.mk.injEq]at h4
      obtain⟨rfl,rfl,rfl,rfl,rfl⟩:=h4
      simp[h1,h2,h3,PG,dS,ok0]
   rw[hm]
   clear hm hB hA
   dsimp only[Rc.av,Rc.cs]
   refine K1.E 0x200080000100210c101f Tryz.func34 ?_
   repeat' ((conv=>whnf);first|refine K1.w ?_|refine K1.u ?_|refine K1.P1 (nX _) rfl ?_|refine PD.mk (bn.vs ⟨c0,c1,c2,c3,c4⟩) (bn.vs dS) (bn.mk c0 c1 c2 c3 c4=dS) rfl rfl (uy _ _) ?_|refine aJ.dR ?_|refine K1.z ?_|refine K1.y (fun _=>?_) (fun _=>?_)|fail)
   all_goals(conv=>whnf)
   all_goals(refine bG.mk (aT.of ?_))
   all_goals first
     |(simp[-List.length_eq_zero_iff, *]<;>omega;done)
     |(rw[Hg ‹¬bn.mk c0 c1 c2 c3 c4=dS›];simp;done)
     |(rw[(jq _).2 ‹bn.mk c0 c1 c2 c3 c4=dS›];simp[-List.length_eq_zero_iff, *]<;>omega)
 · have hm:iK ⟨k,r,u,⟨c0,c1,c2,c3,c4⟩,ev⟩=(decide (0≤r)&&decide (r<5)&&decide (u=0)&&PG ⟨c0,c1,c2,c3,c4⟩&&decide (ev.length=0)):=by
    rw[Bool.eq_iff_iff]
    simp only[iK,Bool.and_eq_true,Bool.or_eq_true,decide_eq_true_eq,PI,zn,zo,zl,jq]
    constructor
    · intro h;rcases hk with rfl|rfl<;>(simp at h⊢;grind)
    · intro h
      obtain⟨⟨⟨⟨h1,h2⟩,h3⟩,h4⟩,h5⟩:=h
      have h5:=List.eq_nil_of_length_eq_zero h5
      subst h5
      rcases hk with rfl|rfl<;>simp[h1,h2,h3,h4,ok0]
   rw[hm]
   clear hm hB hA
   have aeJ:=Ip c0 c1 c2 c3 c4
   dsimp only[Rc.av,Rc.cs]
   rcases hk with rfl|rfl
   all_goals
    refine K1.E 0x200080000100210c101f Tryz.func34 ?_
    repeat' ((conv=>whnf);first|refine K1.w ?_|refine K1.u ?_|refine K1.P1 (nX _) rfl ?_|refine K1.P1 aeJ rfl ?_|refine PD.mk (bn.vs ⟨c0,c1,c2,c3,c4⟩) (bn.vs dS) (bn.mk c0 c1 c2 c3 c4=dS) rfl rfl (uy _ _) ?_|refine aJ.dR ?_|refine K1.z ?_|refine K1.y (fun _=>?_) (fun _=>?_)|fail)
    all_goals(conv=>whnf)
    all_goals(refine bG.mk (aT.of ?_))
    all_goals first
      |(simp[-List.length_eq_zero_iff, *]<;>omega;done)
      |(simp only[‹PG _=_›];simp[-List.length_eq_zero_iff]<;>omega)
 · have hm:iK ⟨4,r,u,⟨c0,c1,c2,c3,c4⟩,ev⟩=(decide (0≤r)&&decide (r<5)&&decide (u=0)&&Le ⟨c0,c1,c2,c3,c4⟩&&B):=by
    rw[Bool.eq_iff_iff]
    simp only[iK,Wq ev (show(4:Int)≠1 by decide),←hA,hB,Bool.and_eq_true,Bool.or_eq_true,decide_eq_true_eq,PI,zn,zo,zl,jq]
    constructor
    · intro h;simp at h⊢;grind
    · intro h
      obtain⟨⟨⟨⟨h1,h2⟩,h3⟩,h4⟩,h5⟩:=h
      simp only[dS,bn.mk.injEq]at h4
      obtain⟨rfl,rfl,rfl,rfl,rfl⟩:=h4
      simp[h1,h2,h3,h5,nG,PG,dS,gu]
   rw[hm]
   clear hm hB hA
   dsimp only[Rc.av,Rc.cs]
   refine K1.E 0x200080000100210c101f Tryz.func34 ?_
   repeat' ((conv=>whnf);first|refine K1.w ?_|refine K1.u ?_|refine K1.P1 (nX _) rfl ?_|refine K1.P1 hevs rfl ?_|refine PD.mk (bn.vs ⟨c0,c1,c2,c3,c4⟩) (bn.vs dS) (bn.mk c0 c1 c2 c3 c4=dS) rfl rfl (uy _ _) ?_|refine aJ.dR ?_|refine K1.z ?_|refine K1.y (fun _=>?_) (fun _=>?_)|fail)
   all_goals(conv=>whnf)
   all_goals(refine bG.mk (aT.of ?_))
   all_goals first
     |(simp[-List.length_eq_zero_iff, *]<;>omega;done)
     |(rw[Hg ‹¬bn.mk c0 c1 c2 c3 c4=dS›];simp;done)
     |(rw[(jq _).2 ‹bn.mk c0 c1 c2 c3 c4=dS›];simp[-List.length_eq_zero_iff, *]<;>omega)
 · have hm:iK ⟨k,r,u,⟨c0,c1,c2,c3,c4⟩,ev⟩=false:=by
    simp only[iK,PI,decide_eq_false hk,Bool.false_and]
   rw[hm]
   clear hm hB hA
   dsimp only[Rc.av,Rc.cs]
   refine K1.E 0x200080000100210c101f Tryz.func34 ?_
   repeat' ((conv=>whnf);first|refine K1.w ?_|refine K1.u ?_|refine K1.P1 (nX _) rfl ?_|refine PD.mk (bn.vs ⟨c0,c1,c2,c3,c4⟩) (bn.vs dS) (bn.mk c0 c1 c2 c3 c4=dS) rfl rfl (uy _ _) ?_|refine aJ.dR ?_|refine K1.z ?_|refine K1.y (fun _=>?_) (fun _=>?_)|fail)
   all_goals(conv=>whnf)
   all_goals exact bG.mk (aj)
theorem Px (d:Nat) (x:Rc) (h:iK x=true) (hk:x.k=1∨x.k=4):
  aG Tryz.prog 15 [x.av] (.dL [.own d,.v (.int .i64 0)]) [(d,.row 5 1 (bg x).length true (aV (bg x)))]:=by
 have m:=oh h
 have hm:=wX x (by have:=m.l;omega)
 rw[h]at hm
 obtain⟨k,r,u,c,ev⟩:=x
 obtain⟨mk,mr,mu,wC,uO,me0,mc,ml,m1,yw⟩:=m
 dsimp only at mk mr mu ml mc wC uO me0 yw m1 hk
 have Gf:=AU yw
 have hat: ∀j,j<ev.length→fB (ev.getD j default)=0:=fun j hj=>Ll Gf hj
 have h44: ∀j,j<ev.length→(aS (ev.getD j default)).length≤44:=fun j hj=>oM (hat j hj)
 have hlen: ∀j,(fZ (ev.take j)).length≤44*j:=fun j=>Nat.le_trans (sU fun e he=>pK Gf e (List.mem_of_mem_take he)) (Nat.mul_le_mul_left _ (by rw[List.length_take];omega))
 obtain⟨kk,hkk⟩: ∃kk,kk=k:=⟨_,rfl⟩
 have hmore: ∀j,(([byteOf' kk,byteOf' r]++[byteOf' (ev.length:Int)])++fZ (ev.take j)).length=3+(fZ (ev.take j)).length:=fun j=>by simp;omega
 rcases hk with rfl|rfl
 all_goals
  dsimp only[Rc.av,Rc.cs]at hm⊢
  refine K1.E 0x8808001001008ff Tryz.func15 ?_
  repeat' ((conv=>whnf);first|refine K1.w ?_|refine K1.u ?_|refine K1.P1 hm rfl ?_|refine K1.z ?_|refine K1.y (fun _=>?_) (fun _=>?_)|fail)
  conv=>whnf
  refine aN.mk {j:Nat//j≤ev.length} (fun j=>⟨[(1,.box 0 0),(4,.own 90),(6,.v (.int .i64 (j.1:Int)))],
    [(0,.box 47 [.v (.int .i64 kk),.v (.int .i64 r),.v (.int .i64 u),.v (.int .i64 c.c0),.v (.int .i64 c.c1),.v (.int .i64 c.c2),.v (.int .i64 c.c3),.v (.int .i64 c.c4),.sl 12 ev.length true (eG ev)]),(90,.row 5 1 (([byteOf' kk,byteOf' r]++[byteOf' (ev.length:Int)])++fZ (ev.take j.1)).length true (aV (([byteOf' kk,byteOf' r]++[byteOf' (ev.length:Int)])++fZ (ev.take j.1))))],[],91⟩) (fun j=>ev.length-j.1) ⟨0,Nat.zero_le _⟩ _
    (dO.mk' [(3,90)] _ _ _ rfl ⟨aj,aj,aT.int rfl,trivial⟩ ⟨⟨_,rfl,by rw[hkk];exact cO.refl _⟩,⟨_,rfl,cO.pF (bD.app (bD.two (by omega) (by omega) (by omega) (by omega)) (bD.one (by omega) (by omega)) rfl) (by simp<;>omega) (by simp[fZ,hkk])⟩,trivial⟩ rfl) ?_
  rintro⟨j,hj⟩
  dsimp only
  have acJ:=h44 (j:Int).toNat
  have hmj:=hmore j
  have hlj:=hlen j
  have hsl:=eH (aA (([byteOf' kk,byteOf' r]++[byteOf' (ev.length:Int)])++fZ (ev.take j)).length++(([byteOf' kk,byteOf' r]++[byteOf' (ev.length:Int)])++fZ (ev.take j)))
  have hvs:(aA (([byteOf' kk,byteOf' r]++[byteOf' (ev.length:Int)])++fZ (ev.take j)).length).length≤10:=bU 9 _
  repeat' ((conv=>whnf);first|refine K1.w ?_|refine K1.u ?_|refine K1.F1 (ZE _ (ev.getD (j:Int).toNat default) (hat _ (by omega))) rfl ?_|refine K1.F1 (jD _ (([byteOf' kk,byteOf' r]++[byteOf' (ev.length:Int)])++fZ (ev.take j)).length (by omega)) rfl ?_|refine K1.F1 (zG _ (aA (([byteOf' kk,byteOf' r]++[byteOf' (ev.length:Int)])++fZ (ev.take j)).length++(([byteOf' kk,byteOf' r]++[byteOf' (ev.length:Int)])++fZ (ev.take j))) (bD.app (bD.bytes _) (bD.bytes _) rfl) List.length_append.symm (by rw[List.length_append];omega)) rfl ?_|refine K1.z ?_|refine K1.y (fun _=>?_) (fun _=>?_)|fail)
  · conv=>whnf
    refine⟨⟨j+1,by omega⟩,_,dO.mk' [(92,90)] _ _ _ rfl ⟨aj,aj,aT.int rfl,trivial⟩ ⟨aH rfl,⟨_,rfl,cO.pF (bD.app (bD.bytes _) (bD.bytes _) rfl) List.length_append.symm ?_⟩,trivial⟩ rfl,by show ev.length-(j+1)<ev.length-j;omega⟩
    rw[xW (by omega),List.append_assoc]
    rfl
  · conv=>whnf
    refine aJ.qo d rfl rfl ?_ (aj)
    refine cO.pF (bD.bytes _) rfl ?_
    rw[List.take_of_length_le (by omega)]
    unfold bg jV
    simp[hkk,zl,zn,zo,byteOf,byteOf']
theorem ZG (d:Nat) (x:Rc) (h:iK x=true) (hk:x.k=2):
  aG Tryz.prog 15 [x.av] (.dL [.own d,.v (.int .i64 0)]) [(d,.row 5 1 (bg x).length true (aV (bg x)))]:=by
 have m:=oh h
 have hm:=wX x (by have:=m.l;omega)
 rw[h]at hm
 obtain⟨k,r,u,c,ev⟩:=x
 obtain⟨mk,mr,mu,wC,uO,me0,mc,ml,m1,yw⟩:=m
 dsimp only at mk mr mu ml mc wC uO me0 yw m1 hk
 obtain⟨kk,hkk⟩: ∃kk,kk=k:=⟨_,rfl⟩
 obtain⟨un,rfl,hun⟩:=gq mu
 have hvu:(aA un).length≤10:=bU 9 _
 have hmore:([byteOf' kk,byteOf' r]++aA un).length=2+(aA un).length:=by simp;omega
 have hsl:=eH (aA (2+(aA un).length)++([byteOf' kk,byteOf' r]++aA un))
 have hvs:(aA (2+(aA un).length)).length≤10:=bU 9 _
 subst hk
 have hP:bD (qh 2 (chunk 1 [.v (.int .u8 2),.v (.int .u8 r)]) (aV (aA un))) ([byteOf' kk,byteOf' r]++aA un):=hkk▸bD.app (bD.two (by omega) (by omega) (by omega) (by omega)) (bD.bytes _) rfl
 have hn:2+(aA un).length=([byteOf' kk,byteOf' r]++aA un).length:=by omega
 dsimp only[Rc.av,Rc.cs]at hm⊢
 refine K1.E 0x8808001001008ff Tryz.func15 ?_
 repeat' ((conv=>whnf);first|refine K1.w ?_|refine K1.u ?_|refine K1.P1 hm rfl ?_|refine K1.F1 (jD _ un (by omega)) rfl ?_|refine K1.F1 (jD _ (2+(aA un).length) (by omega)) rfl ?_|refine K1.F1 (zG _ (aA (2+(aA un).length)++([byteOf' kk,byteOf' r]++aA un)) (bD.app (bD.bytes _) hP rfl) (by rw[List.length_append,←hn]) (by rw[List.length_append,←hn];omega)) rfl ?_|refine K1.z ?_|refine K1.y (fun _=>?_) (fun _=>?_)|fail)
 conv=>whnf
 refine aJ.qo d rfl rfl ?_ (aj)
 refine cO.pF (bD.bytes _) rfl ?_
 rw[hn]
 unfold bg jV
 simp[hkk,zl,zn,zo,byteOf,byteOf',iM]
theorem Py (d:Nat) (x:Rc) (h:iK x=true) (hk:x.k=3∨x.k=5):
  aG Tryz.prog 15 [x.av] (.dL [.own d,.v (.int .i64 0)]) [(d,.row 5 1 (bg x).length true (aV (bg x)))]:=by
 have m:=oh h
 have hm:=wX x (by have:=m.l;omega)
 rw[h]at hm
 obtain⟨k,r,u,⟨c0,c1,c2,c3,c4⟩,ev⟩:=x
 obtain⟨mk,mr,mu,wC,uO,me0,⟨m0,m1,m2,m3,m4⟩,ml,Lp,yw⟩:=m
 dsimp only at mk mr mu ml m0 m1 m2 m3 m4 wC uO me0 yw Lp hk
 obtain⟨kk,hkk⟩: ∃kk,kk=k:=⟨_,rfl⟩
 obtain⟨c0,rfl,hc0⟩:=gq m0
 obtain⟨c1,rfl,hc1⟩:=gq m1
 obtain⟨c2,rfl,hc2⟩:=gq m2
 obtain⟨c3,rfl,hc3⟩:=gq m3
 obtain⟨c4,rfl,hc4⟩:=gq m4
 have q0:(aA c0).length≤10:=bU 9 _
 have q1:(aA c1).length≤10:=bU 9 _
 have q2:(aA c2).length≤10:=bU 9 _
 have q3:(aA c3).length≤10:=bU 9 _
 have q4:(aA c4).length≤10:=bU 9 _
 obtain⟨n,hn0⟩: ∃n,n=2+(aA c0).length+(aA c1).length+(aA c2).length+(aA c3).length+(aA c4).length:=⟨_,rfl⟩
 have hn:n=([byteOf' kk,byteOf' r]++aA c0++aA c1++aA c2++aA c3++aA c4).length:=by rw[hn0];simp;omega
 have hvs:(aA (2+(aA c0).length+(aA c1).length+(aA c2).length+(aA c3).length+(aA c4).length)).length≤10:=bU 9 _
 have hsl:=eH (aA (2+(aA c0).length+(aA c1).length+(aA c2).length+(aA c3).length+(aA c4).length)++([byteOf' kk,byteOf' r]++aA c0++aA c1++aA c2++aA c3++aA c4))
 rcases hk with rfl|rfl
 all_goals
  have hP:=bD.app (bD.app (bD.app (bD.app (bD.app (bD.two (x:=kk) (y:=r) (by omega) (by omega) (by omega) (by omega)) (bD.bytes (aA c0)) rfl) (bD.bytes (aA c1)) (n:=2+(aA c0).length) (by simp<;>omega)) (bD.bytes (aA c2)) (n:=2+(aA c0).length+(aA c1).length) (by simp<;>omega)) (bD.bytes (aA c3)) (n:=2+(aA c0).length+(aA c1).length+(aA c2).length) (by simp<;>omega)) (bD.bytes (aA c4)) (n:=2+(aA c0).length+(aA c1).length+(aA c2).length+(aA c3).length) (by simp<;>omega)
  rw[hkk]at hP hn
  dsimp only[Rc.av,Rc.cs]at hm⊢
  refine K1.E 0x8808001001008ff Tryz.func15 ?_
  repeat' ((conv=>whnf);first|refine K1.w ?_|refine K1.u ?_|refine K1.P1 hm rfl ?_|refine K1.F1 (jD _ c0 (by omega)) rfl ?_|refine K1.F1 (jD _ c1 (by omega)) rfl ?_|refine K1.F1 (jD _ c2 (by omega)) rfl ?_|refine K1.F1 (jD _ c3 (by omega)) rfl ?_|refine K1.F1 (jD _ c4 (by omega)) rfl ?_|refine K1.F1 (jD _ (2+(aA c0).length+(aA c1).length+(aA c2).length+(aA c3).length+(aA c4).length) (by omega)) rfl ?_|refine K1.F1 (zG _ (aA (2+(aA c0).length+(aA c1).length+(aA c2).length+(aA c3).length+(aA c4).length)++([byteOf' _,byteOf' r]++aA c0++aA c1++aA c2++aA c3++aA c4)) (bD.app (bD.bytes _) hP rfl) (by rw[List.length_append,←hn,hn0]) (by rw[List.length_append,←hn,hn0];omega)) rfl ?_|refine aN.sO 5 6 rfl ?_|refine K1.z ?_|refine K1.y (fun _=>?_) (fun _=>?_)|fail)
  conv=>whnf
  refine aJ.qo d rfl rfl ?_ (aj)
  refine cO.pF (bD.bytes _) rfl ?_
  rw[←hn0,hn]
  unfold bg jV
  simp[zl,zn,zo,byteOf,byteOf',iM,zk]
theorem Rw (d:Nat) (x:Rc) (h:iK x=true):
  aG Tryz.prog 15 [x.av] (.dL [.own d,.v (.int .i64 0)]) [(d,.row 5 1 (bg x).length true (aV (bg x)))]:=by
 have m:=(oh h).k
 rcases(show x.k=1∨x.k=2∨x.k=3∨x.k=4∨x.k=5 by omega)with hk|hk|hk|hk|hk
 · exact Px d x h (.inl hk)
 · exact ZG d x h hk
 · exact Py d x h (.inl hk)
 · exact Px d x h (.inr hk)
 · exact Py d x h (.inr hk)
end
section
open Go.RowKit
theorem abw (x:Rc) (h:iK x=true) (he:x.ev=[]):aG Tryz.prog 15 [.agg [.v (.int .i64 x.k),.v (.int .i64 x.r),.v (.int .i64 x.u),.v (.int .i64 x.c.c0),.v (.int .i64 x.c.c1),.v (.int .i64 x.c.c2),.v (.int .i64 x.c.c3),.v (.int .i64 x.c.c4),kM]] (.dL [.sl 1 (bg x).length true (aV (bg x)),.v (.int .i64 0)]) []:=
 (Rw 0 x h).thaw.args (.of (fun X u hu=>by
  obtain⟨us,e,ha⟩:=hu
  exact⟨us,e,aF.rV (k:=8) rfl (x:=kM) (y:= .sl 12 x.ev.length true (eG x.ev)) (fun X u hu=>by
   rw[show x.ev.length=0 from ad4 he]
   exact C1.kM (s:=12) (by decide) (show C1 X (.v (.slice none 0 0)) u from hu)) ha⟩) .nil)
end
section
open Go.RowKit
theorem Rz (h:Nd) (hup:h.up=false) (l:List Rc) (t:List UInt8) (hr:Gs h.d.bs l t) (hl:h.d.bs.length≤1000000000) (hb: ∀j,j≤l.length→(Rh (l.take j)).1.length≤1000000) (hev: ∀j,j<l.length→(l.getD j default).ev.length≤1000000) (hG:abP (Rh l).1) (hs:0≤(Rh l).2∧(Rh l).2≤1000000):
  aW Tryz.prog 26 [(0,.obs (lM h))] [.box 0 0] (.v (.int .i64 0)) [(0,.obs (lM ⟨h.c,h.r,true,⟨kY l,false,false,h.d.keep⟩,(Rh l).1,(Rh l).2,Ri (Rh l).1,[],rD h.c.q (Rh l).2 h.r (Rh l).1⟩))]:=by
 refine Eh (ho:=[]) 15 16 17 18 19 20 ⟨_,_,Tryz.func26,rfl,rfl⟩ rfl ?_ rfl
 rw[List.append_nil]
 have hcl:=fun d=>Vl d h.d.bs (bD.bytes _) rfl hl
 have hall:=OG h.d.bs (bD.bytes _) rfl hl hr
 have hbl:(kY l).length≤h.d.bs.length:=by rw[hr.eq,List.length_append];omega
 have htk:h.d.bs.take (kY l).length=kY l:=by
  conv=>lhs;rw[hr.eq]
  rw[List.take_left]
 have htr:=Vm ⟨h.d.bs,false,false,h.d.keep⟩ (kY l).length hbl hl
 dsimp only at htr
 rw[htk]at htr
 have hll:=Gu l
 obtain⟨c,r,up,⟨bs,down,cut,keep⟩,ad5,ad6,ic0,abQ,lZ⟩:=h
 dsimp only[CG,ndN,LX,PK,Ih]at*
 subst hup
 generalize kY l=w at*
 clear hr htk
 refine K1.M 0x40c7800008bd Tryz.func26 40 ?_
 repeat' ((conv=>whnf);first|refine K1.w ?_|refine K1.u ?_|refine K1.F1 (hcl _) rfl ?_|refine K1.P1 hall rfl ?_|refine K1.C 2 [(0,_),(1,_)] (htr) rfl ?_|refine K1.I 0x85 Tryz.func47 ?_|refine K1.I 0x1 Tryz.func59 ?_|refine K1.I 0x5 Tryz.func61 ?_|refine Ht.scope dW 0x40c7800008bd ?_|refine Ht.label ?_|refine K1.o (id:=15) [(0,none),(1,none),(2,none),(3,none),(4,none),(5,none),(6,some [4]),(7,none),(8,none),(9,some [4,3,7])] [(5,[4]),(6,[4]),(7,[4,3]),(8,[4,3,7]),(9,[4,3,7])] ?_|refine K1.o (id:=16) [(0,none),(1,none),(2,none),(3,none),(4,none),(5,none),(6,none),(7,some [6,4,2]),(8,none),(9,none),(10,some [6,4,2,8])] [(3,[2]),(4,[2]),(7,[6,4,2]),(8,[6,4,2]),(9,[6,4,2,8]),(10,[6,4,2,8])] ?_|refine K1.z ?_|refine K1.y (fun _=>?_) (fun _=>?_)|fail)
 all_goals(conv=>whnf)
 refine aN.Xc 0 9 45 42 12 (eG []) (by decide) rfl rfl ?_
 refine aN.mk {j:Nat//j≤l.length} (fun j=>⟨[(33,.v (.int .i64 (j.1:Int))),(32,.v (.int .i64 (l.length:Int))),(31,.sl 9 l.length false (rcF l)),(0,.box 0 0),(2,.v (.int .i64 0))],
   [(0,.box 82 [.v (.int .i64 c.n),.v (.int .i64 c.w),.v (.int .i64 c.q),.v (.int .i64 c.h),.v (.int .i64 c.l),.v (.int .i64 c.p),.v (.int .i64 (r:Int)),.v (.bool false),.box 8 0,.own 45,.v (.int .i64 (Rh (l.take j.1)).2),.box 11 0,.box 12 0,.box 13 0]),(8,.box 146 [.own 41,.v (.bool false),.v (.bool false),.v (.int .i64 keep)]),(41,.row 5 1 w.length true (aV w)),(11,.obs (yI ad5 ad5.length)),(12,Ji c.h ic0 (JH abQ)),(13,zi c.q c.w ad6 (.own 14)),(14,fK lZ),(45,fK (Rh (l.take j.1)).1)],
   [[(0,.box 0 0),(1,.box 8 0),(2,.own 11),(3,.box 12 0),(4,.box 13 0),(5,.own 9),(6,.own 10),(7,.own 14)]],50⟩) (fun j=>l.length-j.1) ⟨0,Nat.zero_le _⟩ _
  (dO.mk' [] _ _ _ rfl ⟨aT.int rfl,aj,aj,aj,aj,trivial⟩ ⟨aH rfl,aH rfl,aH rfl,aH rfl,aH rfl,aH rfl,aH rfl,aH rfl,trivial⟩ rfl) ?_
 rintro⟨j,hj⟩
 dsimp only
 by_cases hjl:j<l.length
 · have hst:=Zm hjl
   have hb0:=hb j hj
   have hb1:=hev j hjl
   rw[show l.getD j default=l.getD (j:Int).toNat default from rfl]at hst hb1
   generalize Rh (l.take j)=q at hst hb0⊢
   obtain⟨q1,q2⟩:=q
   unfold ac5 at hst
   dsimp only at hst hb0⊢
   by_cases hk3:(l.getD (j:Int).toNat default).k=3
   · rw[if_pos hk3]at hst
     repeat' ((conv=>whnf);first|refine K1.w ?_|refine K1.u ?_|refine K1.o (id:=15) [(0,none),(1,none),(2,none),(3,none),(4,none),(5,none),(6,some [4]),(7,none),(8,none),(9,some [4,3,7])] [(5,[4]),(6,[4]),(7,[4,3]),(8,[4,3,7]),(9,[4,3,7])] ?_|refine K1.o (id:=16) [(0,none),(1,none),(2,none),(3,none),(4,none),(5,none),(6,none),(7,some [6,4,2]),(8,none),(9,none),(10,some [6,4,2,8])] [(3,[2]),(4,[2]),(7,[6,4,2]),(8,[6,4,2]),(9,[6,4,2,8]),(10,[6,4,2,8])] ?_|refine K1.z ?_|refine K1.y (fun _=>?_) (fun _=>?_)|fail)
     all_goals(conv=>whnf)
     exact⟨⟨j+1,hjl⟩,_,dO.mk' [] _ _ _ rfl ⟨aT.int rfl,aj,aj,aj,aj,trivial⟩ ⟨⟨_,rfl,by dsimp only;rw[hst];exact cO.refl _⟩,aH rfl,aH rfl,aH rfl,aH rfl,aH rfl,aH rfl,⟨_,rfl,by dsimp only;rw[hst];exact cO.refl _⟩,trivial⟩ rfl,by show l.length-(j+1)<l.length-j;omega⟩
   · rw[if_neg hk3]at hst
     by_cases hk4:(l.getD (j:Int).toNat default).k=4
     · rw[if_pos hk4]at hst
       repeat' ((conv=>whnf);first|refine K1.w ?_|refine K1.u ?_|refine K1.o (id:=15) [(0,none),(1,none),(2,none),(3,none),(4,none),(5,none),(6,some [4]),(7,none),(8,none),(9,some [4,3,7])] [(5,[4]),(6,[4]),(7,[4,3]),(8,[4,3,7]),(9,[4,3,7])] ?_|refine K1.o (id:=16) [(0,none),(1,none),(2,none),(3,none),(4,none),(5,none),(6,none),(7,some [6,4,2]),(8,none),(9,none),(10,some [6,4,2,8])] [(3,[2]),(4,[2]),(7,[6,4,2]),(8,[6,4,2]),(9,[6,4,2,8]),(10,[6,4,2,8])] ?_|refine K1.z ?_|refine K1.y (fun _=>?_) (fun _=>?_)|fail)
       all_goals(conv=>whnf)
       exact⟨⟨j+1,hjl⟩,_,dO.mk' [(51,45)] _ _ _ rfl ⟨aT.int rfl,aj,aj,aj,aj,trivial⟩ ⟨⟨_,rfl,by dsimp only;rw[hst];exact cO.refl _⟩,aH rfl,aH rfl,aH rfl,aH rfl,aH rfl,aH rfl,⟨_,rfl,by dsimp only;rw[hst];exact cO.refl _⟩,trivial⟩ rfl,by show l.length-(j+1)<l.length-j;omega⟩
     · rw[if_neg hk4]at hst
       repeat' ((conv=>whnf);first|refine K1.w ?_|refine K1.u ?_|refine K1.o (id:=15) [(0,none),(1,none),(2,none),(3,none),(4,none),(5,none),(6,some [4]),(7,none),(8,none),(9,some [4,3,7])] [(5,[4]),(6,[4]),(7,[4,3]),(8,[4,3,7]),(9,[4,3,7])] ?_|refine K1.o (id:=16) [(0,none),(1,none),(2,none),(3,none),(4,none),(5,none),(6,none),(7,some [6,4,2]),(8,none),(9,none),(10,some [6,4,2,8])] [(3,[2]),(4,[2]),(7,[6,4,2]),(8,[6,4,2]),(9,[6,4,2,8]),(10,[6,4,2,8])] ?_|refine K1.z ?_|refine K1.y (fun _=>?_) (fun _=>?_)|fail)
       all_goals(conv=>whnf)
       exact⟨⟨j+1,hjl⟩,_,dO.mk' [(51,45)] _ _ _ rfl ⟨aT.int rfl,aj,aj,aj,aj,trivial⟩ ⟨⟨_,rfl,by dsimp only;rw[hst];exact cO.refl _⟩,aH rfl,aH rfl,aH rfl,aH rfl,aH rfl,aH rfl,⟨_,rfl,by dsimp only;rw[hst];exact cO.row (by rw[List.length_append]) fun m _=>els_app rfl m⟩,trivial⟩ rfl,by show l.length-(j+1)<l.length-j;omega⟩
 · obtain rfl:j=l.length:=by omega
   rw[List.take_length]
   have hgl:=hG.len
   generalize Rh l=q at hG hs hgl⊢
   obtain⟨L,sn⟩:=q
   dsimp only at hG hs hgl⊢
   clear hall hcl htr hb hev
   repeat' ((conv=>whnf);first|refine K1.w ?_|refine K1.u ?_|refine K1.C 0 [] (abO) rfl ?_|refine K1.C 0 [] (Oh c.q c.w sn) rfl ?_|refine K1.I 0x80000003c0000015 Tryz.func63 ?_|refine K1.o (id:=15) [(0,none),(1,none),(2,none),(3,none),(4,none),(5,none),(6,some [4]),(7,none),(8,none),(9,some [4,3,7])] [(5,[4]),(6,[4]),(7,[4,3]),(8,[4,3,7]),(9,[4,3,7])] ?_|refine K1.o (id:=16) [(0,none),(1,none),(2,none),(3,none),(4,none),(5,none),(6,none),(7,some [6,4,2]),(8,none),(9,none),(10,some [6,4,2,8])] [(3,[2]),(4,[2]),(7,[6,4,2]),(8,[6,4,2]),(9,[6,4,2,8]),(10,[6,4,2,8])] ?_|refine K1.o (id:=2) [(0,none),(1,none),(2,none),(3,none),(4,none),(5,none),(6,none),(7,none),(8,none),(9,none),(10,none),(11,none),(12,none),(13,none),(14,none),(15,some [14,12,10,7,5,2]),(16,none),(17,none),(18,some [14,12,10,7,5,2,16])] [(3,[2]),(4,[2]),(5,[2]),(8,[7]),(9,[7]),(10,[7]),(13,[12]),(14,[12]),(15,[14,12,10,7,5,2]),(16,[14,12,10,7,5,2]),(17,[14,12,10,7,5,2,16]),(18,[14,12,10,7,5,2,16])] ?_|refine K1.o (id:=7) [(0,none),(1,none),(2,none),(3,none),(4,none),(5,some [4,3,1])] [(2,[1]),(3,[1]),(5,[4,3,1])] ?_|refine K1.o (id:=9) [(0,none),(1,none),(2,none),(3,none),(4,none),(5,some [4,3,1])] [(2,[1]),(3,[1]),(5,[4,3,1])] ?_|refine K1.o (id:=11) [(0,none),(1,none),(2,none),(3,none),(4,none),(5,none),(6,none),(7,some [6,5,2]),(8,none),(9,none),(10,some [6,5,2,8])] [(3,[2]),(4,[2]),(5,[2]),(7,[6,5,2]),(8,[6,5,2]),(9,[6,5,2,8]),(10,[6,5,2,8])] ?_|refine K1.z ?_|refine K1.y (fun _=>?_) (fun _=>?_)|fail)
   all_goals(conv=>whnf)
   refine aN.Xc 52 3 55 42 12 (eG []) (by decide) rfl rfl ?_
   refine aN.mk {i:Nat//i≤L.length} (fun i=>⟨[(32,.v (.int .i64 (i.1:Int))),(31,.v (.int .i64 (L.length:Int))),(30,.own 45),(2,.box 50 0),(0,.box 0 0)],
    [(52,.box 132 [.v (.int .i64 c.q),.v (.int .i64 c.w),.v (.int .i64 sn),.own 55]),(51,.obs (yI (L.take i.1) i.1)),(50,.box 31 (Ri (L.take i.1)).cs),(0,.box 82 [.v (.int .i64 c.n),.v (.int .i64 c.w),.v (.int .i64 c.q),.v (.int .i64 c.h),.v (.int .i64 c.l),.v (.int .i64 c.p),.v (.int .i64 (r:Int)),.v (.bool false),.box 8 0,.own 45,.v (.int .i64 sn),.box 51 0,.box 12 0,.box 52 0]),(8,.box 146 [.own 41,.v (.bool false),.v (.bool false),.v (.int .i64 keep)]),(41,.row 5 1 w.length true (aV w)),(12,Ji c.h ic0 (JH abQ)),(45,fK L),(55,fK (rD c.q sn r (L.take i.1)))],
    [[(67,.box 0 0),(34,.v (.bool false)),(33,.v (.int .i64 (l.length:Int))),(32,.v (.int .i64 (l.length:Int))),(31,.sl 9 l.length false (rcF l)),(0,.box 0 0),(2,.v (.int .i64 0))],[(0,.box 0 0),(1,.box 8 0),(2,.own 11),(3,.box 12 0),(4,.box 13 0),(5,.own 9),(6,.own 10),(7,.own 14)]],60⟩) (fun i=>L.length-i.1) ⟨0,Nat.zero_le _⟩ _
    (dO.mk' [] _ _ _ rfl ⟨aT.int rfl,aj,aj,aj,aj,trivial⟩ ⟨aH rfl,aH rfl,aH rfl,aH rfl,aH rfl,aH rfl,aH rfl,aH rfl,aH rfl,trivial⟩ rfl) ?_
   rintro⟨i,hi⟩
   dsimp only[bn.cs]
   have hcb:=abe (L.take i)
   rw[List.length_take,Nat.min_eq_left hi]at hcb
   by_cases hil:i<L.length
   · have hap:=TR (hG.nx i hil) (hG.may i hil) (by rw[List.length_take];omega) i
     have her:=hG.r i hil
     have hct:=VU hil
     have hwt:=Rj (q:=c.q) (sent:=sn) (r:=r) hil
     have hwl:=JK (q:=c.q) (sent:=sn) (r:=r) (L.take i) []
     have hwn:=fun j=>ac6 (q:=c.q) (sent:=sn) (r:=r) (l:=L.take i) (fun e he=>hG.n e (List.mem_of_mem_take he)) j
     rw[List.length_take,Nat.min_eq_left hi,List.length_nil,Nat.zero_add]at hwl
     rw[←take_snoc hil]at hap
     rw[show L.getD i default=L.getD (i:Int).toNat default from rfl]at hap her hct hwt
     obtain⟨⟨w',x⟩,hwx⟩: ∃z,Ld c.q sn (rD c.q sn r (L.take i)) (L.getD (i:Int).toNat default)=z:=⟨_,rfl⟩
     have had:=Oi c.q c.w sn _ w' (L.getD (i:Int).toNat default) x (by show(rD c.q sn r (L.take i)).length≤_;unfold rD;omega) (by omega) (fun j=>by have:=hwn j;omega) hwx
     unfold yJ at hwt
     rw[hwx]at hwt
     clear hwx hwn hwl hG
     generalize rD c.q sn r (L.take i)=wt at hwt had⊢
     generalize Ri (L.take i)=ck at hct hcb⊢
     obtain⟨c0,c1,c2,c3,c4⟩:=ck
     unfold bn.upto at hcb
     dsimp only[Ev.av,Ev.cs,zi]at*
     have F5:Nat.ble ((i:Int).toNat+1) L.length=true:=Nat.ble_eq_true_of_le (by omega)
     rcases(show(L.getD (i:Int).toNat default).r=0∨(L.getD (i:Int).toNat default).r=1∨(L.getD (i:Int).toNat default).r=2∨(L.getD (i:Int).toNat default).r=3∨(L.getD (i:Int).toNat default).r=4 by omega)with hr0|hr0|hr0|hr0|hr0
     all_goals
      rw[hr0]at hct
      simp only[bn.inc,Int.toNat_zero,Int.toNat_one,Int.reduceToNat]at hct
      by_cases ho:(L.getD (i:Int).toNat default).r=(r:Int)
      · by_cases hn:sn<(L.getD (i:Int).toNat default).n
        · rw[if_pos ⟨ho,hn⟩]at hwt
          repeat' ((conv=>whnf);first|refine K1.w ?_|refine K1.u ?_|refine K1.C 1 [(0,_)] (hap) rfl ?_|refine K1.C 2 [(0,_),(1,_)] (had) rfl ?_|refine iD.yes F5 ?_|refine qM.lit 0 hr0 rfl ?_|refine qM.lit 1 hr0 rfl ?_|refine qM.lit 2 hr0 rfl ?_|refine qM.lit 3 hr0 rfl ?_|refine qM.lit 4 hr0 rfl ?_|refine K1.I 0x80000003c0000015 Tryz.func63 ?_|refine K1.o (id:=15) [(0,none),(1,none),(2,none),(3,none),(4,none),(5,none),(6,some [4]),(7,none),(8,none),(9,some [4,3,7])] [(5,[4]),(6,[4]),(7,[4,3]),(8,[4,3,7]),(9,[4,3,7])] ?_|refine K1.o (id:=16) [(0,none),(1,none),(2,none),(3,none),(4,none),(5,none),(6,none),(7,some [6,4,2]),(8,none),(9,none),(10,some [6,4,2,8])] [(3,[2]),(4,[2]),(7,[6,4,2]),(8,[6,4,2]),(9,[6,4,2,8]),(10,[6,4,2,8])] ?_|refine K1.o (id:=2) [(0,none),(1,none),(2,none),(3,none),(4,none),(5,none),(6,none),(7,none),(8,none),(9,none),(10,none),(11,none),(12,none),(13,none),(14,none),(15,some [14,12,10,7,5,2]),(16,none),(17,none),(18,some [14,12,10,7,5,2,16])] [(3,[2]),(4,[2]),(5,[2]),(8,[7]),(9,[7]),(10,[7]),(13,[12]),(14,[12]),(15,[14,12,10,7,5,2]),(16,[14,12,10,7,5,2]),(17,[14,12,10,7,5,2,16]),(18,[14,12,10,7,5,2,16])] ?_|refine K1.o (id:=7) [(0,none),(1,none),(2,none),(3,none),(4,none),(5,some [4,3,1])] [(2,[1]),(3,[1]),(5,[4,3,1])] ?_|refine K1.o (id:=9) [(0,none),(1,none),(2,none),(3,none),(4,none),(5,some [4,3,1])] [(2,[1]),(3,[1]),(5,[4,3,1])] ?_|refine K1.o (id:=11) [(0,none),(1,none),(2,none),(3,none),(4,none),(5,none),(6,none),(7,some [6,5,2]),(8,none),(9,none),(10,some [6,5,2,8])] [(3,[2]),(4,[2]),(5,[2]),(7,[6,5,2]),(8,[6,5,2]),(9,[6,5,2,8]),(10,[6,5,2,8])] ?_|refine K1.z ?_|refine K1.y (fun _=>?_) (fun _=>?_)|fail)
          all_goals(conv=>whnf)
          exact⟨⟨i+1,hil⟩,_,dO.mk' [(62,55)] _ _ _ rfl ⟨aT.int rfl,aj,aj,aj,aj,trivial⟩ ⟨aH rfl,aH rfl,⟨_,rfl,by dsimp only;rw[hct];exact cO.refl _⟩,aH rfl,aH rfl,aH rfl,aH rfl,aH rfl,⟨_,rfl,by dsimp only;rw[hwt];exact cO.refl _⟩,trivial⟩ rfl,by show L.length-(i+1)<L.length-i;omega⟩
        · rw[if_neg (fun h=>hn h.2)]at hwt
          clear had
          repeat' ((conv=>whnf);first|refine K1.w ?_|refine K1.u ?_|refine K1.C 1 [(0,_)] (hap) rfl ?_|refine K1.C 2 [(0,_),(1,_)] (had) rfl ?_|refine iD.yes F5 ?_|refine qM.lit 0 hr0 rfl ?_|refine qM.lit 1 hr0 rfl ?_|refine qM.lit 2 hr0 rfl ?_|refine qM.lit 3 hr0 rfl ?_|refine qM.lit 4 hr0 rfl ?_|refine K1.I 0x80000003c0000015 Tryz.func63 ?_|refine K1.o (id:=15) [(0,none),(1,none),(2,none),(3,none),(4,none),(5,none),(6,some [4]),(7,none),(8,none),(9,some [4,3,7])] [(5,[4]),(6,[4]),(7,[4,3]),(8,[4,3,7]),(9,[4,3,7])] ?_|refine K1.o (id:=16) [(0,none),(1,none),(2,none),(3,none),(4,none),(5,none),(6,none),(7,some [6,4,2]),(8,none),(9,none),(10,some [6,4,2,8])] [(3,[2]),(4,[2]),(7,[6,4,2]),(8,[6,4,2]),(9,[6,4,2,8]),(10,[6,4,2,8])] ?_|refine K1.o (id:=2) [(0,none),(1,none),(2,none),(3,none),(4,none),(5,none),(6,none),(7,none),(8,none),(9,none),(10,none),(11,none),(12,none),(13,none),(14,none),(15,some [14,12,10,7,5,2]),(16,none),(17,none),(18,some [14,12,10,7,5,2,16])] [(3,[2]),(4,[2]),(5,[2]),(8,[7]),(9,[7]),(10,[7]),(13,[12]),(14,[12]),(15,[14,12,10,7,5,2]),(16,[14,12,10,7,5,2]),(17,[14,12,10,7,5,2,16]),(18,[14,12,10,7,5,2,16])] ?_|refine K1.o (id:=7) [(0,none),(1,none),(2,none),(3,none),(4,none),(5,some [4,3,1])] [(2,[1]),(3,[1]),(5,[4,3,1])] ?_|refine K1.o (id:=9) [(0,none),(1,none),(2,none),(3,none),(4,none),(5,some [4,3,1])] [(2,[1]),(3,[1]),(5,[4,3,1])] ?_|refine K1.o (id:=11) [(0,none),(1,none),(2,none),(3,none),(4,none),(5,none),(6,none),(7,some [6,5,2]),(8,none),(9,none),(10,some [6,5,2,8])] [(3,[2]),(4,[2]),(5,[2]),(7,[6,5,2]),(8,[6,5,2]),(9,[6,5,2,8]),(10,[6,5,2,8])] ?_|refine K1.z ?_|refine K1.y (fun _=>?_) (fun _=>?_)|fail)
          all_goals(conv=>whnf)
          exact⟨⟨i+1,hil⟩,_,dO.mk' [] _ _ _ rfl ⟨aT.int rfl,aj,aj,aj,aj,trivial⟩ ⟨aH rfl,aH rfl,⟨_,rfl,by dsimp only;rw[hct];exact cO.refl _⟩,aH rfl,aH rfl,aH rfl,aH rfl,aH rfl,⟨_,rfl,by dsimp only;rw[hwt];exact cO.refl _⟩,trivial⟩ rfl,by show L.length-(i+1)<L.length-i;omega⟩
      · rw[if_neg (fun h=>ho h.1)]at hwt
        clear had
        repeat' ((conv=>whnf);first|refine K1.w ?_|refine K1.u ?_|refine K1.C 1 [(0,_)] (hap) rfl ?_|refine K1.C 2 [(0,_),(1,_)] (had) rfl ?_|refine iD.yes F5 ?_|refine qM.lit 0 hr0 rfl ?_|refine qM.lit 1 hr0 rfl ?_|refine qM.lit 2 hr0 rfl ?_|refine qM.lit 3 hr0 rfl ?_|refine qM.lit 4 hr0 rfl ?_|refine K1.I 0x80000003c0000015 Tryz.func63 ?_|refine K1.o (id:=15) [(0,none),(1,none),(2,none),(3,none),(4,none),(5,none),(6,some [4]),(7,none),(8,none),(9,some [4,3,7])] [(5,[4]),(6,[4]),(7,[4,3]),(8,[4,3,7]),(9,[4,3,7])] ?_|refine K1.o (id:=16) [(0,none),(1,none),(2,none),(3,none),(4,none),(5,none),(6,none),(7,some [6,4,2]),(8,none),(9,none),(10,some [6,4,2,8])] [(3,[2]),(4,[2]),(7,[6,4,2]),(8,[6,4,2]),(9,[6,4,2,8]),(10,[6,4,2,8])] ?_|refine K1.o (id:=2) [(0,none),(1,none),(2,none),(3,none),(4,none),(5,none),(6,none),(7,none),(8,none),(9,none),(10,none),(11,none),(12,none),(13,none),(14,none),(15,some [14,12,10,7,5,2]),(16,none),(17,none),(18,some [14,12,10,7,5,2,16])] [(3,[2]),(4,[2]),(5,[2]),(8,[7]),(9,[7]),(10,[7]),(13,[12]),(14,[12]),(15,[14,12,10,7,5,2]),(16,[14,12,10,7,5,2]),(17,[14,12,10,7,5,2,16]),(18,[14,12,10,7,5,2,16])] ?_|refine K1.o (id:=7) [(0,none),(1,none),(2,none),(3,none),(4,none),(5,some [4,3,1])] [(2,[1]),(3,[1]),(5,[4,3,1])] ?_|refine K1.o (id:=9) [(0,none),(1,none),(2,none),(3,none),(4,none),(5,some [4,3,1])] [(2,[1]),(3,[1]),(5,[4,3,1])] ?_|refine K1.o (id:=11) [(0,none),(1,none),(2,none),(3,none),(4,none),(5,none),(6,none),(7,some [6,5,2]),(8,none),(9,none),(10,some [6,5,2,8])] [(3,[2]),(4,[2]),(5,[2]),(7,[6,5,2]),(8,[6,5,2]),(9,[6,5,2,8]),(10,[6,5,2,8])] ?_|refine K1.z ?_|refine K1.y (fun _=>?_) (fun _=>?_)|fail)
        all_goals(conv=>whnf)
        exact⟨⟨i+1,hil⟩,_,dO.mk' [] _ _ _ rfl ⟨aT.int rfl,aj,aj,aj,aj,trivial⟩ ⟨aH rfl,aH rfl,⟨_,rfl,by dsimp only;rw[hct];exact cO.refl _⟩,aH rfl,aH rfl,aH rfl,aH rfl,aH rfl,⟨_,rfl,by dsimp only;rw[hwt];exact cO.refl _⟩,trivial⟩ rfl,by show L.length-(i+1)<L.length-i;omega⟩
   · obtain rfl:i=L.length:=by omega
     rw[List.take_length]
     generalize Ri L=ck at hcb⊢
     obtain⟨c0,c1,c2,c3,c4⟩:=ck
     dsimp only
     repeat' ((conv=>whnf);first|refine K1.w ?_|refine K1.u ?_|refine K1.C 0 [] (Og c.h ⟨c0,c1,c2,c3,c4⟩) rfl ?_|refine K1.I 0x80000003c0000015 Tryz.func63 ?_|refine K1.o (id:=15) [(0,none),(1,none),(2,none),(3,none),(4,none),(5,none),(6,some [4]),(7,none),(8,none),(9,some [4,3,7])] [(5,[4]),(6,[4]),(7,[4,3]),(8,[4,3,7]),(9,[4,3,7])] ?_|refine K1.o (id:=16) [(0,none),(1,none),(2,none),(3,none),(4,none),(5,none),(6,none),(7,some [6,4,2]),(8,none),(9,none),(10,some [6,4,2,8])] [(3,[2]),(4,[2]),(7,[6,4,2]),(8,[6,4,2]),(9,[6,4,2,8]),(10,[6,4,2,8])] ?_|refine K1.o (id:=2) [(0,none),(1,none),(2,none),(3,none),(4,none),(5,none),(6,none),(7,none),(8,none),(9,none),(10,none),(11,none),(12,none),(13,none),(14,none),(15,some [14,12,10,7,5,2]),(16,none),(17,none),(18,some [14,12,10,7,5,2,16])] [(3,[2]),(4,[2]),(5,[2]),(8,[7]),(9,[7]),(10,[7]),(13,[12]),(14,[12]),(15,[14,12,10,7,5,2]),(16,[14,12,10,7,5,2]),(17,[14,12,10,7,5,2,16]),(18,[14,12,10,7,5,2,16])] ?_|refine K1.o (id:=7) [(0,none),(1,none),(2,none),(3,none),(4,none),(5,some [4,3,1])] [(2,[1]),(3,[1]),(5,[4,3,1])] ?_|refine K1.o (id:=9) [(0,none),(1,none),(2,none),(3,none),(4,none),(5,some [4,3,1])] [(2,[1]),(3,[1]),(5,[4,3,1])] ?_|refine K1.o (id:=11) [(0,none),(1,none),(2,none),(3,none),(4,none),(5,none),(6,none),(7,some [6,5,2]),(8,none),(9,none),(10,some [6,5,2,8])] [(3,[2]),(4,[2]),(5,[2]),(7,[6,5,2]),(8,[6,5,2]),(9,[6,5,2,8]),(10,[6,5,2,8])] ?_|refine K1.z ?_|refine K1.y (fun _=>?_) (fun _=>?_)|fail)
     all_goals(conv=>whnf)
     exact⟨[(41,15),(45,16),(51,17),(60,18),(52,19),(55,20)],rfl,rfl,⟨aH rfl,aH rfl,aH rfl,⟨_,rfl,cO.box fun X us h=>aF.rV (k:=6) (x:= .v (.slice none 0 0)) (y:=JH []) rfl (fun X u h=>C1.kM (s:=12) (by decide) (show C1 X (.v (.slice none 0 0)) u from h)) h⟩,aH rfl,aH rfl,aH rfl,aH rfl,trivial⟩,rfl,rfl,aj⟩
end
section
open Go.RowKit
theorem aeK {d:Dk} {u:Bool} (hd:d.bs.length≤100000000):NdB ⟨Zo,1,u,d,[yx],0,⟨0,1,0,0,0⟩,[],[yx]⟩ where
 r:=by show(1:Nat)<5;decide
 ic q:=by
  show 0≤(bn.mk 0 1 0 0 0).at q∧(bn.mk 0 1 0 0 0).at q≤1000000
  match q with
  |0=>decide
  |1=>decide
  |2=>decide
  |3=>decide
  |_+4=>exact⟨Int.le_refl 0,(by decide:(0:Int)≤1000000)⟩
 pst:=TV (by decide)
 len:=by show 1≤1000000;decide
 hh e he:=by rw[List.mem_singleton.1 he];decide
 cs x hx:=by
  rw[show oU _=oU [yx]from rfl,Ei]at hx
  rw[←Ei]at hx
  exact TY [yx] (by decide) x hx
 bs:=hd
 wl:=by show 1≤1000000;decide
 sent:=⟨Int.le_refl _,(by decide:(0:Int)≤1000000)⟩
 wn j:=by
  show 0≤([yx].getD j default).n∧([yx].getD j default).n≤1000000
  match j with
  |0=>decide
  |_+1=>rw[List.getD_cons_succ,List.getD_nil];decide
theorem may1:lC TT=true:=by decide
theorem ad7:lC rc2=true:=by decide
theorem len1:(aQ TT).length≤900000:=by have:=oO TT may1;exact Nat.le_trans this (by decide)
theorem len2:3<(aQ rc2).length:=by decide+kernel
theorem wr1:oV dk0 (aQ TT)=(⟨aQ TT,false,false,0⟩,0):=by unfold oV;rfl
theorem wr2:oV ⟨aQ TT,false,true,3⟩ (aQ rc2)=(⟨aQ TT++(aQ rc2).take 3,true,false,3⟩,18):=by
 have h:=len2
 have hk:Dh 3 (aQ rc2).length=3:=by unfold Dh;rw[if_neg (by omega),if_neg (by omega)]
 unfold oV
 rw[if_neg (by simp),if_pos rfl]
 dsimp only
 rw[hk]
 rfl
theorem aeL:nS 4 3 (oU []) ed1=0:=by rw[TW];rfl
theorem aeM:nS 4 3 (oU [yx]) ed2=0:=by
 rw[Ei]
 unfold nS
 rw[show Ar [fH Zp (bI [yx] (aC [yx]))] ed2.key=0 from SQ (j:=0) (by decide) (fun i h=>absurd h (Nat.not_lt_zero i)) rfl]
 rfl
theorem aeN:abP [yx] where
 len:=by show 1≤1000000;decide
 nx j hj:=by
  obtain rfl:j=0:=by have:j<1:=hj;omega
  exact TU (e:=yx) (by decide) (by decide)
 may j hj:=by
  obtain rfl:j=0:=by have:j<1:=hj;omega
  decide
 r j hj:=by
  obtain rfl:j=0:=by have:j<1:=hj;omega
  decide
 n e he:=by rw[List.mem_singleton.1 he];decide
theorem L9:aG Tryz.prog 8 [] (.v (.bool true)) []:=by
 have h0:=O5 Zo 1 (by decide) (by decide)
 have h1:aW Tryz.prog 22 [(0,.obs (lM (nd0 Zo 1)))] [.box 0 0,ed1.av] (.dL [yx.av,.v (.int .i64 0)]) [(0,.obs (lM nS1))]:=
  GY (nd0 Zo 1) ed1 ⟨aQ TT,false,false,0⟩ (aeH Zo 1 (by decide)) rfl aeL (by decide) (by decide) may1 wr1 (JM (r:=1) (by decide) rfl rfl (by decide) (by decide)) rfl (TU (e:=yx) (by decide) (by decide)) (by decide)
 have h2:aW Tryz.prog 21 [(0,.obs (lM nS1))] [.box 0 0,.v (.int .i64 3)] (.dL []) [(0,.obs (lM nS2))]:=Zk nS1 3
 have h3:aW Tryz.prog 22 [(0,.obs (lM nS2))] [.box 0 0,ed2.av] (.dL [Zn.av,.v (.int .i64 18)]) [(0,.obs (lM nS3))]:=
  LZ nS2 ed2 _ 18 (by decide) (aeK (Nat.le_trans len1 (by decide))) rfl aeM (by decide) (by decide) ad7 wr2
 have hb:(aQ TT++(aQ rc2).take 3).length≤1000000000:=by
  have:=len1
  rw[List.length_append,List.length_take]
  omega
 have h4:aW Tryz.prog 26 [(0,.obs (lM nS3))] [.box 0 0] (.v (.int .i64 0)) [(0,.obs (lM nS4))]:=
  Rz nS3 rfl [TT] ((aQ rc2).take 3) (VY (VX (l:=[]) abf may1) ad7 len2) hb (fun j hj=>by
   rcases(show j=0∨j=1 by have:j≤1:=hj;omega)with rfl|rfl<;>decide) (fun j hj=>by
   obtain rfl:j=0:=by have:j<1:=hj;omega
   decide) aeN (by decide)
 have h5:=VP nS4 rfl (TV (by decide)) (by decide)
 rw[show oU nS4.log=oU [yx]from rfl,Ei]at h5
 have hk:([fH Zp (bI [yx] (aC [yx]))].getD (0:Int).toNat default).key=Zp:=rfl
 generalize bI [yx] (aC [yx])=W at h5 hk
 generalize lM (nd0 Zo 1)=b0 at*
 generalize lM nS1=b1 at*
 generalize lM nS2=b2 at*
 generalize lM nS3=b3 at*
 generalize lM nS4=b4 at*
 dsimp only[Ev.av,Ev.cs,Ed.av,nJ.av,nJ.cs,yx,ed1,ed2,Zn,dS,Zo,Zp]at h0 h1 h3 h5 hk
 refine K1.E 0x1003df Tryz.func8 ?_
 repeat' ((conv=>whnf);first|refine K1.w ?_|refine K1.u ?_|refine K1.C 0 [] (h0) rfl ?_|refine K1.C 1 [(0,_)] (h1) rfl ?_|refine K1.C 1 [(0,_)] (h2) rfl ?_|refine K1.C 1 [(0,_)] (h3) rfl ?_|refine K1.C 1 [(0,_)] (h4) rfl ?_|refine K1.C 3 [(0,_)] (h5) rfl ?_|refine aJ.dR ?_|refine K1.z ?_|refine K1.y (fun _=>?_) (fun _=>?_)|fail)
 all_goals(conv=>whnf)
 all_goals first
   |exact bG.mk (aj)
   |exact absurd rfl (by assumption)
end
end Go.Proofs.YtimhagicagdkfaaGreat
