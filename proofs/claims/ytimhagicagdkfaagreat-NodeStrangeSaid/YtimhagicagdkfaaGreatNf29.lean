/-
  Contracts of the walk:RefB,Ref7,OpenF,NsS.
-/
import Derived.Test.YtimhagicagdkfaaGreatNf28
import Derived.Test.YtimhagicagdkfaaGreatNf13
import Derived.Test.YtimhagicagdkfaaGreatNf14
import Derived.Test.YtimhagicagdkfaaGreatNf26
import Derived.Test.YtimhagicagdkfaaGreatNf10
import Derived.Test.YtimhagicagdkfaaGreatNf12
set_option linter.unusedVariables false
set_option linter.unusedSimpArgs false
set_option maxHeartbeats 16000000
set_option maxRecDepth 100000
namespace Go.Proofs.YtimhagicagdkfaaGreat
section
open Go.RowKit
theorem J9 (e:Ev):aH Tryz.prog 70 [e.av] (.v (.int .i64 (eG e))) []:=by
 obtain⟨r,n,⟨c0,c1,c2,c3,c4⟩,h,k,key,l,v⟩:=e
 dsimp only[Ev.av,Ev.cs]
 by_cases hr:0≤r∧r≤4
 · rcases(show r=0∨r=1∨r=2∨r=3∨r=4 by omega)with rfl|rfl|rfl|rfl|rfl
   all_goals
    refine K1.E 0x1014000000f Tryz.func70 ?_
    repeat' ((conv=>whnf);first|refine K1.w ?_|refine K1.u ?_|refine K1.P1 (PO _ _ _) rfl ?_|refine K1.P1 (J8 ⟨_,n,⟨c0,c1,c2,c3,c4⟩,h,k,key,l,v⟩) rfl ?_|refine K1.P1 (Hr ⟨k,key,l,v⟩) rfl ?_|refine aJ.rP 3 6 rfl ?_|refine K1.o (id:=1) [(0,none),(1,none),(2,some [1]),(3,none),(4,none),(5,none),(6,none),(7,some [1,6]),(8,none),(9,none),(10,none),(11,none),(12,none),(13,some [1,6,12]),(14,none),(15,none),(16,none),(17,none),(18,none),(19,none),(20,none),(21,none),(22,none),(23,none),(24,none),(25,none),(26,none)] [(2,[1]),(3,[1]),(4,[1]),(5,[1]),(6,[1]),(7,[1,6]),(8,[1,6]),(9,[1,6]),(10,[1,6]),(11,[1,6]),(12,[1,6]),(13,[1,6,12]),(14,[1,6,12]),(15,[1,6,12]),(16,[1,6,12]),(17,[1,6,12]),(18,[1,6,12]),(19,[1,6,12]),(20,[1,6,12]),(21,[1,6,12]),(22,[1,6,12]),(23,[1,6,12]),(24,[1,6,12]),(25,[1,6,12]),(26,[1,6,12])] ?_|refine K1.z ?_|refine K1.y (fun _=> ?_) (fun _=> ?_)|fail)
    all_goals refine aG.int rfl ?_
    all_goals first|(simp[eG,oJ,gG,aZ.get,Ev.ed, *];done)|(simp[eG,oJ,gG,aZ.get,Ev.ed, *];omega)
 · refine K1.E 0x1014000000f Tryz.func70 ?_
   repeat' ((conv=>whnf);first|refine K1.w ?_|refine K1.u ?_|refine K1.P1 (PO _ _ _) rfl ?_|refine K1.P1 (J8 ⟨r,n,⟨c0,c1,c2,c3,c4⟩,h,k,key,l,v⟩) rfl ?_|refine K1.P1 (Hr ⟨k,key,l,v⟩) rfl ?_|refine aJ.rP 3 6 rfl ?_|refine K1.o (id:=1) [(0,none),(1,none),(2,some [1]),(3,none),(4,none),(5,none),(6,none),(7,some [1,6]),(8,none),(9,none),(10,none),(11,none),(12,none),(13,some [1,6,12]),(14,none),(15,none),(16,none),(17,none),(18,none),(19,none),(20,none),(21,none),(22,none),(23,none),(24,none),(25,none),(26,none)] [(2,[1]),(3,[1]),(4,[1]),(5,[1]),(6,[1]),(7,[1,6]),(8,[1,6]),(9,[1,6]),(10,[1,6]),(11,[1,6]),(12,[1,6]),(13,[1,6,12]),(14,[1,6,12]),(15,[1,6,12]),(16,[1,6,12]),(17,[1,6,12]),(18,[1,6,12]),(19,[1,6,12]),(20,[1,6,12]),(21,[1,6,12]),(22,[1,6,12]),(23,[1,6,12]),(24,[1,6,12]),(25,[1,6,12]),(26,[1,6,12])] ?_|refine K1.z ?_|refine K1.y (fun _=> ?_) (fun _=> ?_)|fail)
   all_goals refine aG.int rfl ?_
   all_goals(simp[eG,gG];omega)
theorem ZI (d:Nat) (e:Ev) (h:eG e=0):aH Tryz.prog 36 [e.av] (.dM [.own d,.v (.int .i64 0)]) [(d,.row 5 1 (aQ e).length true (aX (aQ e)))]:=by
 have m:=pU h
 have g:=qx m.ed
 have hm:=J9 e
 rw[h]at hm
 obtain⟨r,n,⟨c0,c1,c2,c3,c4⟩,hh,k,key,l,v⟩:=e
 obtain⟨r0,r4,n1,n2,h1,h2,a0,a1,a2,a3,a4,own,ed⟩:=m
 dsimp only[Ev.ed]at r0 r4 n1 n2 h1 h2 a0 a1 a2 a3 a4 g
 obtain⟨g1,g2,g3,g4,g5,g6,g7⟩:=g
 have g8:v.size≤12∧0≤l∧l≤1:=by
  cases hl:dK k with
  |true=>have:=g6 hl;omega
  |false=>have:=g7 hl;omega
 have hk:(dK k=true∧2<k)∨(dK k=false∧k≤2):=by
  unfold dK
  rcases(show k=1∨k=2∨k=3∨k=4∨k=5 by omega)with rfl|rfl|rfl|rfl|rfl<;>decide
 clear own ed g6 g7
 obtain⟨n,rfl⟩:=Int.eq_ofNat_of_zero_le (show 0≤n by omega)
 obtain⟨hh,rfl⟩:=Int.eq_ofNat_of_zero_le (show 0≤hh by omega)
 obtain⟨c0,rfl⟩:=Int.eq_ofNat_of_zero_le a0.1
 obtain⟨c1,rfl⟩:=Int.eq_ofNat_of_zero_le a1.1
 obtain⟨c2,rfl⟩:=Int.eq_ofNat_of_zero_le a2.1
 obtain⟨c3,rfl⟩:=Int.eq_ofNat_of_zero_le a3.1
 obtain⟨c4,rfl⟩:=Int.eq_ofNat_of_zero_le a4.1
 have q (x:Nat):(aB x).length≤10:=bQ 9 x
 have q0:=q n
 have q1:=q hh
 have q2:=q c0
 have q3:=q c1
 have q4:=q c2
 have q5:=q c3
 have q6:=q c4
 clear q
 dsimp only[Ev.av,Ev.cs]at hm⊢
 rcases hk with⟨hl,hk⟩|⟨hl,hk⟩
 all_goals
  rcases(show r=0∨r=1∨r=2∨r=3∨r=4 by omega)with rfl|rfl|rfl|rfl|rfl
 all_goals
  refine K1.E 0x80000010400047f Tryz.func36 ?_
  repeat' ((conv=>whnf);first|refine K1.w ?_|refine K1.u ?_|refine K1.P1 (hm) rfl ?_|refine K1.F1 (jC _ _ (by omega)) rfl ?_|refine aJ.rP 6 6 rfl ?_|refine K1.o (id:=12) [(0,none),(1,none),(2,none),(3,none),(4,none),(7,none),(8,none),(5,some [4,2]),(6,some [4,2]),(9,some [4,2,8]),(10,none)] [(3,[2]),(4,[2]),(5,[4,2]),(6,[4,2]),(9,[4,2,8]),(10,[4,2,8])] ?_|refine K1.o (id:=14) [(0,none),(1,none),(2,none),(3,none),(4,none),(5,none),(6,none),(7,none),(10,none),(11,none),(8,some [7,5,3,2]),(9,some [7,5,3,2]),(12,some [7,5,3,2,11]),(13,none)] [(3,[2]),(6,[5]),(7,[5]),(8,[7,5,3,2]),(9,[7,5,3,2]),(12,[7,5,3,2,11]),(13,[7,5,3,2,11])] ?_|refine K1.z ?_|refine K1.y (fun _=> ?_) (fun _=> ?_)|fail)
  all_goals(refine aG.qJ d rfl rfl ?_ (aj.refl _);apply au.pz)
  all_goals(try(repeat' (first|exact bF.bytes _|exact bF.str _|exact bF.one (by omega) (by omega)|exact bF.two (by omega) (by omega) (by omega) (by omega)|apply bF.app)))
  all_goals first
    |(simp only[List.length_append,List.length_cons,List.length_nil,qU];try omega;done)
    |(simp[aQ,others,words,iL,byteOf,byteOf', *];done)
end
section
open Go.RowKit
theorem nZ (n:Int):aH Tryz.prog 68 [.v (.int .i64 n)] (.v (.bool (oJ n))) []:=by
 refine K1.E 0x5 Tryz.func68 ?_
 repeat' ((conv=>whnf);first|refine K1.w ?_|refine K1.u ?_|refine aG.cO ?_|refine K1.z ?_|refine K1.y (fun _=> ?_) (fun _=> ?_)|fail)
 all_goals(conv=>whnf)
 all_goals(refine aW.mk (aj.of ?_))
 all_goals simp[oJ,gG, *]
theorem IB (c0 c1 c2 c3 c4:Int):aH Tryz.prog 69 [.agg [.v (.int .i64 c0),.v (.int .i64 c1),.v (.int .i64 c2),.v (.int .i64 c3),.v (.int .i64 c4)]] (.v (.bool (ML ⟨c0,c1,c2,c3,c4⟩))) []:=by
 refine K1.E 0x102f Tryz.func69 ?_
 repeat' ((conv=>whnf);first|refine K1.w ?_|refine K1.u ?_|refine K1.P1 (nZ _) rfl ?_|refine aJ.rP 3 6 rfl ?_|refine aG.cO ?_|refine K1.z ?_|refine K1.y (fun _=> ?_) (fun _=> ?_)|fail)
 all_goals(conv=>whnf)
 all_goals(refine aW.mk (aj.of ?_))
 all_goals simp[ML, *]
theorem Ht (l:List Ev) (hl:l.length≤140737488355328):aH Tryz.prog 67 [.sl 12 l.length true (dV l)] (.v (.bool (l.all (fun e=>decide (eG e=0))&&decide (l.length≤20)))) []:=by
 refine K1.E 0x808d Tryz.func67 ?_
 repeat' ((conv=>whnf);first|refine K1.w ?_|refine K1.u ?_|refine aG.cO ?_|refine K1.z ?_|refine K1.y (fun _=> ?_) (fun _=> ?_)|fail)
 conv=>whnf
 refine aJ.mk {j:Nat//j≤l.length∧ ∀i,i<j→eG (l.getD i default)=0} (fun j=>⟨[(0,.sl 12 l.length true (dV l)),(3,.v (.int .i64 (j.1:Int)))],[],[],4⟩) (fun j=>l.length-j.1) ⟨0,Nat.zero_le _,fun i h=>absurd h (Nat.not_lt_zero i)⟩ _
  (dB.mk' [] _ _ _ rfl ⟨aj.refl _,aj.int rfl,trivial⟩ trivial rfl) ?_
 rintro⟨j,hj,hall⟩
 dsimp only
 repeat' ((conv=>whnf);first|refine K1.w ?_|refine K1.u ?_|refine K1.P1 (J9 (l.getD (j:Int).toNat default)) rfl ?_|refine aG.cO ?_|refine K1.z ?_|refine K1.y (fun _=> ?_) (fun _=> ?_)|fail)
 all_goals(conv=>whnf)
 all_goals first
   | (refine⟨⟨j+1,by omega,fun i hi=> ?_⟩,_,dB.mk' [] _ _ _ rfl ⟨aj.refl _,aj.int rfl,trivial⟩ trivial rfl,by show l.length-(j+1)<l.length-j;omega⟩
      rcases Nat.lt_or_ge i j with h|h
      · exact hall i h
      · rw[show i=j by omega]
        exact ‹eG (l.getD (j:Int).toNat default)=0›)
   | (refine aW.mk (aj.of ?_)
      have hno:=Yw (l:=l) (j:=j) (by omega) ‹¬eG (l.getD (j:Int).toNat default)=0›
      simp[hno])
   | (refine aW.mk (aj.of ?_)
      have hyes:=TB (l:=l) (fun i hi=>hall i (by omega))
      rw[hyes,Bool.true_and]
      first
        |rw[decide_eq_true (show l.length≤20 by omega)]
        |rw[decide_eq_false (show¬l.length≤20 by omega)])
theorem Ws (l:List Ev) (r:Int):l.all (qL 1 r)=(l.all (fun e=>decide (eG e=0))&&l.all (fun e=>decide (e.r=r))):=by
 induction l with
 |nil=>rfl
 | cons e l ih=>
   simp only[List.all_cons,ih,qL]
   cases decide (eG e=0)<;>cases decide (e.r=r)<;>simp
theorem Wu (l:List Ev) {k:Int} (hk:k≠1) (r:Int):l.all (qL k r)=l.all (fun e=>decide (eG e=0)):=by
 induction l with
 |nil=>rfl
 |cons e l ih=>simp only[List.all_cons,ih,qL,decide_eq_true hk,Bool.true_or,Bool.and_true]
theorem abw {l:List Ev} {j:Nat} {r:Int} (hj:j<l.length) (h: ¬ (l.getD j default).r=r):l.all (fun e=>decide (e.r=r))=false:=LQ (p:=fun e=>decide (e.r=r)) hj (decide_eq_false h)
theorem ZJ {l:List Ev} {r:Int} (h: ∀i,i<l.length→(l.getD i default).r=r):l.all (fun e=>decide (e.r=r))=true:=OI (p:=fun e=>decide (e.r=r)) fun i hi=>decide_eq_true (h i hi)
theorem Hu {c:aZ} (h: ¬c=dX):Ij c=false:=by
 cases hc:Ij c with
 |false=>rfl
 |true=>exact absurd ((jo c).1 hc) h
theorem xw (x:Rc) (hl:x.ev.length≤140737488355328):aH Tryz.prog 34 [x.av] (.v (.bool (kE x))) []:=by
 obtain⟨k,r,u,⟨c0,c1,c2,c3,c4⟩,ev⟩:=x
 dsimp only at hl
 have hevs:=Ht ev hl
 obtain⟨A,hA⟩: ∃A,A=ev.all (fun e=>decide (eG e=0)):=⟨_,rfl⟩
 rw[←hA]at hevs
 obtain⟨B,hB⟩: ∃B,B=(A&&decide (ev.length≤20)):=⟨_,rfl⟩
 rw[←hB]at hevs
 have ok0:oJ 0=true:=rfl
 rcases(show k=1∨k=2∨(k=3∨k=5)∨k=4∨ ¬ (1≤k∧k≤5) by omega)with rfl|rfl|hk|rfl|hk
 · have hm:kE ⟨1,r,u,⟨c0,c1,c2,c3,c4⟩,ev⟩=(decide (0≤r)&&decide (r<5)&&decide (u=0)&&Ij ⟨c0,c1,c2,c3,c4⟩&&B&&decide (ev.length≠0)&&ev.all (fun e=>decide (e.r=r))):=by
    rw[Bool.eq_iff_iff]
    simp only[kE,Ws,←hA,hB,Bool.and_eq_true,Bool.or_eq_true,decide_eq_true_eq,Jy,wH,wI,wG,jo]
    constructor
    · intro h;simp at h⊢;grind
    · intro h
      obtain⟨⟨⟨⟨⟨⟨h1,h2⟩,h3⟩,h4⟩,h5⟩,h6⟩,h7⟩:=h
      simp only[dX,aZ.mk.injEq]at h4
      obtain⟨rfl,rfl,rfl,rfl,rfl⟩:=h4
      simp[h1,h2,h3,h5,h6,h7,oJ,ML,dX,gG]
   rw[hm]
   clear hm hB hA
   dsimp only[Rc.av,Rc.cs]
   refine K1.E 0x200080000100210c101f Tryz.func34 ?_
   repeat' ((conv=>whnf);first|refine K1.w ?_|refine K1.u ?_|refine K1.P1 (nZ _) rfl ?_|refine K1.P1 (hevs) rfl ?_|refine IC.mk (aZ.vs ⟨c0,c1,c2,c3,c4⟩) (aZ.vs dX) (aZ.mk c0 c1 c2 c3 c4=dX) rfl rfl (nU _ _) ?_|refine aG.cO ?_|refine K1.z ?_|refine K1.y (fun _=> ?_) (fun _=> ?_)|fail)
   all_goals(conv=>whnf)
   all_goals first
     |(refine aW.mk (aj.of ?_);simp;omega)
     |refine aJ.mk {j:Nat//j≤ev.length∧ ∀i,i<j→(ev.getD i default).r=r} (fun j=>⟨[(1,.box 0 0),(3,.v (.bool _)),(4,.v (.int .i64 (j.1:Int)))],
        [(0,.box 47 [.v (.int .i64 1),.v (.int .i64 r),.v (.int .i64 u),.v (.int .i64 c0),.v (.int .i64 c1),.v (.int .i64 c2),.v (.int .i64 c3),.v (.int .i64 c4),.sl 12 ev.length true (dV ev)])],[],4⟩) (fun j=>ev.length-j.1) ⟨0,Nat.zero_le _,fun i h=>absurd h (Nat.not_lt_zero i)⟩ _
        (dB.mk' [] _ _ _ rfl ⟨aj.refl _,aj.refl _,aj.int rfl,trivial⟩ ⟨⟨_,rfl,au.refl _⟩,trivial⟩ rfl) ?_
   all_goals(rintro⟨j,hj,hall⟩;dsimp only)
   all_goals repeat' ((conv=>whnf);first|refine K1.w ?_|refine K1.u ?_|refine K1.P1 (hevs) rfl ?_|refine aG.cO ?_|refine K1.z ?_|refine K1.y (fun _=> ?_) (fun _=> ?_)|fail)
   all_goals(conv=>whnf)
   all_goals first
     | (refine⟨⟨j+1,by omega,fun i hi=> ?_⟩,_,dB.mk' [] _ _ _ rfl ⟨aj.refl _,aj.refl _,aj.int rfl,trivial⟩ ⟨⟨_,rfl,au.refl _⟩,trivial⟩ rfl,by show ev.length-(j+1)<ev.length-j;omega⟩
        rcases Nat.lt_or_ge i j with h|h
        · exact hall i h
        · rw[show i=j by omega]
          exact ‹(ev.getD (j:Int).toNat default).r=r›)
     | (refine aW.mk (aj.of ?_)
        rw[abw (l:=ev) (j:=j) (r:=r) (by omega) ‹¬ (ev.getD (j:Int).toNat default).r=r›,Bool.and_false])
     | (refine aW.mk (aj.of ?_)
        rw[ZJ (l:=ev) (r:=r) (fun i hi=>hall i (by omega)),Bool.and_true]
        first
          |(rw[Hu ‹¬aZ.mk c0 c1 c2 c3 c4=dX›];simp;done)
          |(rw[(jo _).2 ‹aZ.mk c0 c1 c2 c3 c4=dX›];simp[-List.length_eq_zero_iff, *]<;>omega)
          |(simp[-List.length_eq_zero_iff, *];done)
          |(simp[-List.length_eq_zero_iff, *];omega))
 · have hm:kE ⟨2,r,u,⟨c0,c1,c2,c3,c4⟩,ev⟩=(decide (0≤r)&&decide (r<5)&&oJ u&&Ij ⟨c0,c1,c2,c3,c4⟩&&decide (ev.length=0)):=by
    rw[Bool.eq_iff_iff]
    simp only[kE,Bool.and_eq_true,Bool.or_eq_true,decide_eq_true_eq,Jy,wH,wI,wG,jo]
    constructor
    · intro h;simp at h⊢;grind
    · intro h
      obtain⟨⟨⟨⟨h1,h2⟩,h3⟩,h4⟩,h5⟩:=h
      have h5:=List.eq_nil_of_length_eq_zero h5
      subst h5
      simp only[dX,aZ.mk.injEq]at h4
      obtain⟨rfl,rfl,rfl,rfl,rfl⟩:=h4
      simp[h1,h2,h3,ML,dX,ok0]
   rw[hm]
   clear hm hB hA
   dsimp only[Rc.av,Rc.cs]
   refine K1.E 0x200080000100210c101f Tryz.func34 ?_
   repeat' ((conv=>whnf);first|refine K1.w ?_|refine K1.u ?_|refine K1.P1 (nZ _) rfl ?_|refine IC.mk (aZ.vs ⟨c0,c1,c2,c3,c4⟩) (aZ.vs dX) (aZ.mk c0 c1 c2 c3 c4=dX) rfl rfl (nU _ _) ?_|refine aG.cO ?_|refine K1.z ?_|refine K1.y (fun _=> ?_) (fun _=> ?_)|fail)
   all_goals(conv=>whnf)
   all_goals(refine aW.mk (aj.of ?_))
   all_goals first
     |(simp[-List.length_eq_zero_iff, *]<;>omega;done)
     |(rw[Hu ‹¬aZ.mk c0 c1 c2 c3 c4=dX›];simp;done)
     |(rw[(jo _).2 ‹aZ.mk c0 c1 c2 c3 c4=dX›];simp[-List.length_eq_zero_iff, *]<;>omega)
 · have hm:kE ⟨k,r,u,⟨c0,c1,c2,c3,c4⟩,ev⟩=(decide (0≤r)&&decide (r<5)&&decide (u=0)&&ML ⟨c0,c1,c2,c3,c4⟩&&decide (ev.length=0)):=by
    rw[Bool.eq_iff_iff]
    simp only[kE,Bool.and_eq_true,Bool.or_eq_true,decide_eq_true_eq,Jy,wH,wI,wG,jo]
    constructor
    · intro h;rcases hk with rfl|rfl<;>(simp at h⊢;grind)
    · intro h
      obtain⟨⟨⟨⟨h1,h2⟩,h3⟩,h4⟩,h5⟩:=h
      have h5:=List.eq_nil_of_length_eq_zero h5
      subst h5
      rcases hk with rfl|rfl<;>simp[h1,h2,h3,h4,ok0]
   rw[hm]
   clear hm hB hA
   have aeI:=IB c0 c1 c2 c3 c4
   dsimp only[Rc.av,Rc.cs]
   rcases hk with rfl|rfl
   all_goals
    refine K1.E 0x200080000100210c101f Tryz.func34 ?_
    repeat' ((conv=>whnf);first|refine K1.w ?_|refine K1.u ?_|refine K1.P1 (nZ _) rfl ?_|refine K1.P1 (aeI) rfl ?_|refine IC.mk (aZ.vs ⟨c0,c1,c2,c3,c4⟩) (aZ.vs dX) (aZ.mk c0 c1 c2 c3 c4=dX) rfl rfl (nU _ _) ?_|refine aG.cO ?_|refine K1.z ?_|refine K1.y (fun _=> ?_) (fun _=> ?_)|fail)
    all_goals(conv=>whnf)
    all_goals(refine aW.mk (aj.of ?_))
    all_goals first
      |(simp[-List.length_eq_zero_iff, *]<;>omega;done)
      |(simp only[‹ML _=_›];simp[-List.length_eq_zero_iff]<;>omega)
 · have hm:kE ⟨4,r,u,⟨c0,c1,c2,c3,c4⟩,ev⟩=(decide (0≤r)&&decide (r<5)&&decide (u=0)&&Ij ⟨c0,c1,c2,c3,c4⟩&&B):=by
    rw[Bool.eq_iff_iff]
    simp only[kE,Wu ev (show(4:Int)≠1 by decide),←hA,hB,Bool.and_eq_true,Bool.or_eq_true,decide_eq_true_eq,Jy,wH,wI,wG,jo]
    constructor
    · intro h;simp at h⊢;grind
    · intro h
      obtain⟨⟨⟨⟨h1,h2⟩,h3⟩,h4⟩,h5⟩:=h
      simp only[dX,aZ.mk.injEq]at h4
      obtain⟨rfl,rfl,rfl,rfl,rfl⟩:=h4
      simp[h1,h2,h3,h5,oJ,ML,dX,gG]
   rw[hm]
   clear hm hB hA
   dsimp only[Rc.av,Rc.cs]
   refine K1.E 0x200080000100210c101f Tryz.func34 ?_
   repeat' ((conv=>whnf);first|refine K1.w ?_|refine K1.u ?_|refine K1.P1 (nZ _) rfl ?_|refine K1.P1 (hevs) rfl ?_|refine IC.mk (aZ.vs ⟨c0,c1,c2,c3,c4⟩) (aZ.vs dX) (aZ.mk c0 c1 c2 c3 c4=dX) rfl rfl (nU _ _) ?_|refine aG.cO ?_|refine K1.z ?_|refine K1.y (fun _=> ?_) (fun _=> ?_)|fail)
   all_goals(conv=>whnf)
   all_goals(refine aW.mk (aj.of ?_))
   all_goals first
     |(simp[-List.length_eq_zero_iff, *]<;>omega;done)
     |(rw[Hu ‹¬aZ.mk c0 c1 c2 c3 c4=dX›];simp;done)
     |(rw[(jo _).2 ‹aZ.mk c0 c1 c2 c3 c4=dX›];simp[-List.length_eq_zero_iff, *]<;>omega)
 · have hm:kE ⟨k,r,u,⟨c0,c1,c2,c3,c4⟩,ev⟩=false:=by
    simp only[kE,Jy,decide_eq_false hk,Bool.false_and]
   rw[hm]
   clear hm hB hA
   dsimp only[Rc.av,Rc.cs]
   refine K1.E 0x200080000100210c101f Tryz.func34 ?_
   repeat' ((conv=>whnf);first|refine K1.w ?_|refine K1.u ?_|refine K1.P1 (nZ _) rfl ?_|refine IC.mk (aZ.vs ⟨c0,c1,c2,c3,c4⟩) (aZ.vs dX) (aZ.mk c0 c1 c2 c3 c4=dX) rfl rfl (nU _ _) ?_|refine aG.cO ?_|refine K1.z ?_|refine K1.y (fun _=> ?_) (fun _=> ?_)|fail)
   all_goals(conv=>whnf)
   all_goals exact aW.mk (aj.refl _)
theorem PS (d:Nat) (x:Rc) (h:kE x=true) (hk:x.k=1∨x.k=4):
  aH Tryz.prog 15 [x.av] (.dM [.own d,.v (.int .i64 0)]) [(d,.row 5 1 (dS x).length true (aX (dS x)))]:=by
 have m:=ng h
 have hm:=xw x (by have:=m.l;omega)
 rw[h]at hm
 obtain⟨k,r,u,c,ev⟩:=x
 obtain⟨mk,mr,mu,wF,uQ,me0,mc,ml,m1,yF⟩:=m
 dsimp only at mk mr mu ml mc wF uQ me0 yF m1 hk
 have Gn:=AZ yF
 have hat: ∀j,j<ev.length→eG (ev.getD j default)=0:=fun j hj=>LJ Gn hj
 have h44: ∀j,j<ev.length→(aQ (ev.getD j default)).length≤44:=fun j hj=>oL (hat j hj)
 have hlen: ∀j,(fQ (ev.take j)).length≤44*j:=fun j=>Nat.le_trans (sV fun e he=>pJ Gn e (List.mem_of_mem_take he)) (Nat.mul_le_mul_left _ (by rw[List.length_take];omega))
 obtain⟨kk,hkk⟩: ∃kk,kk=k:=⟨_,rfl⟩
 have hmore: ∀j,(([byteOf' kk,byteOf' r]++[byteOf' (ev.length:Int)])++fQ (ev.take j)).length=3+(fQ (ev.take j)).length:=fun j=>by simp;omega
 rcases hk with rfl|rfl
 all_goals
  dsimp only[Rc.av,Rc.cs]at hm⊢
  refine K1.E 0x8808001001008ff Tryz.func15 ?_
  repeat' ((conv=>whnf);first|refine K1.w ?_|refine K1.u ?_|refine K1.P1 (hm) rfl ?_|refine K1.z ?_|refine K1.y (fun _=> ?_) (fun _=> ?_)|fail)
  conv=>whnf
  refine aJ.mk {j:Nat//j≤ev.length} (fun j=>⟨[(1,.box 0 0),(4,.own 90),(6,.v (.int .i64 (j.1:Int)))],
    [(0,.box 47 [.v (.int .i64 kk),.v (.int .i64 r),.v (.int .i64 u),.v (.int .i64 c.c0),.v (.int .i64 c.c1),.v (.int .i64 c.c2),.v (.int .i64 c.c3),.v (.int .i64 c.c4),.sl 12 ev.length true (dV ev)]),(90,.row 5 1 (([byteOf' kk,byteOf' r]++[byteOf' (ev.length:Int)])++fQ (ev.take j.1)).length true (aX (([byteOf' kk,byteOf' r]++[byteOf' (ev.length:Int)])++fQ (ev.take j.1))))],[],91⟩) (fun j=>ev.length-j.1) ⟨0,Nat.zero_le _⟩ _
    (dB.mk' [(3,90)] _ _ _ rfl ⟨aj.refl _,aj.refl _,aj.int rfl,trivial⟩ ⟨⟨_,rfl,by rw[hkk];exact au.refl _⟩,⟨_,rfl,au.pz (bF.app (bF.two (by omega) (by omega) (by omega) (by omega)) (bF.one (by omega) (by omega)) rfl) (by simp<;>omega) (by simp[fQ,hkk])⟩,trivial⟩ rfl) ?_
  rintro⟨j,hj⟩
  dsimp only
  have acI:=h44 (j:Int).toNat
  have hmj:=hmore j
  have hlj:=hlen j
  have hsl:=dY (aB (([byteOf' kk,byteOf' r]++[byteOf' (ev.length:Int)])++fQ (ev.take j)).length++(([byteOf' kk,byteOf' r]++[byteOf' (ev.length:Int)])++fQ (ev.take j)))
  have hvs:(aB (([byteOf' kk,byteOf' r]++[byteOf' (ev.length:Int)])++fQ (ev.take j)).length).length≤10:=bQ 9 _
  repeat' ((conv=>whnf);first|refine K1.w ?_|refine K1.u ?_|refine K1.F1 (ZI _ (ev.getD (j:Int).toNat default) (hat _ (by omega))) rfl ?_|refine K1.F1 (jC _ (([byteOf' kk,byteOf' r]++[byteOf' (ev.length:Int)])++fQ (ev.take j)).length (by omega)) rfl ?_|refine K1.F1 (zH _ (aB (([byteOf' kk,byteOf' r]++[byteOf' (ev.length:Int)])++fQ (ev.take j)).length++(([byteOf' kk,byteOf' r]++[byteOf' (ev.length:Int)])++fQ (ev.take j))) (bF.app (bF.bytes _) (bF.bytes _) rfl) List.length_append.symm (by rw[List.length_append];omega)) rfl ?_|refine K1.z ?_|refine K1.y (fun _=> ?_) (fun _=> ?_)|fail)
  · conv=>whnf
    refine⟨⟨j+1,by omega⟩,_,dB.mk' [(92,90)] _ _ _ rfl ⟨aj.refl _,aj.refl _,aj.int rfl,trivial⟩ ⟨⟨_,rfl,au.refl _⟩,⟨_,rfl,au.pz (bF.app (bF.bytes _) (bF.bytes _) rfl) List.length_append.symm ?_⟩,trivial⟩ rfl,by show ev.length-(j+1)<ev.length-j;omega⟩
    rw[yg (by omega),List.append_assoc]
    rfl
  · conv=>whnf
    refine aG.qJ d rfl rfl ?_ (aj.refl _)
    refine au.pz (bF.bytes _) rfl ?_
    rw[List.take_of_length_le (by omega)]
    unfold dS jV
    simp[hkk,wG,wH,wI,byteOf,byteOf']
theorem ZK (d:Nat) (x:Rc) (h:kE x=true) (hk:x.k=2):
  aH Tryz.prog 15 [x.av] (.dM [.own d,.v (.int .i64 0)]) [(d,.row 5 1 (dS x).length true (aX (dS x)))]:=by
 have m:=ng h
 have hm:=xw x (by have:=m.l;omega)
 rw[h]at hm
 obtain⟨k,r,u,c,ev⟩:=x
 obtain⟨mk,mr,mu,wF,uQ,me0,mc,ml,m1,yF⟩:=m
 dsimp only at mk mr mu ml mc wF uQ me0 yF m1 hk
 obtain⟨kk,hkk⟩: ∃kk,kk=k:=⟨_,rfl⟩
 obtain⟨un,rfl,hun⟩:=fU mu
 have hvu:(aB un).length≤10:=bQ 9 _
 have hmore:([byteOf' kk,byteOf' r]++aB un).length=2+(aB un).length:=by simp;omega
 have hsl:=dY (aB (2+(aB un).length)++([byteOf' kk,byteOf' r]++aB un))
 have hvs:(aB (2+(aB un).length)).length≤10:=bQ 9 _
 subst hk
 have hP:bF (qh 2 (chunk 1 [.v (.int .u8 2),.v (.int .u8 r)]) (aX (aB un))) ([byteOf' kk,byteOf' r]++aB un):=hkk▸bF.app (bF.two (by omega) (by omega) (by omega) (by omega)) (bF.bytes _) rfl
 have hn:2+(aB un).length=([byteOf' kk,byteOf' r]++aB un).length:=by omega
 dsimp only[Rc.av,Rc.cs]at hm⊢
 refine K1.E 0x8808001001008ff Tryz.func15 ?_
 repeat' ((conv=>whnf);first|refine K1.w ?_|refine K1.u ?_|refine K1.P1 (hm) rfl ?_|refine K1.F1 (jC _ un (by omega)) rfl ?_|refine K1.F1 (jC _ (2+(aB un).length) (by omega)) rfl ?_|refine K1.F1 (zH _ (aB (2+(aB un).length)++([byteOf' kk,byteOf' r]++aB un)) (bF.app (bF.bytes _) hP rfl) (by rw[List.length_append,←hn]) (by rw[List.length_append,←hn];omega)) rfl ?_|refine K1.z ?_|refine K1.y (fun _=> ?_) (fun _=> ?_)|fail)
 conv=>whnf
 refine aG.qJ d rfl rfl ?_ (aj.refl _)
 refine au.pz (bF.bytes _) rfl ?_
 rw[hn]
 unfold dS jV
 simp[hkk,wG,wH,wI,byteOf,byteOf',iL]
theorem PU (d:Nat) (x:Rc) (h:kE x=true) (hk:x.k=3∨x.k=5):
  aH Tryz.prog 15 [x.av] (.dM [.own d,.v (.int .i64 0)]) [(d,.row 5 1 (dS x).length true (aX (dS x)))]:=by
 have m:=ng h
 have hm:=xw x (by have:=m.l;omega)
 rw[h]at hm
 obtain⟨k,r,u,⟨c0,c1,c2,c3,c4⟩,ev⟩:=x
 obtain⟨mk,mr,mu,wF,uQ,me0,⟨m0,m1,m2,m3,m4⟩,ml,LM,yF⟩:=m
 dsimp only at mk mr mu ml m0 m1 m2 m3 m4 wF uQ me0 yF LM hk
 obtain⟨kk,hkk⟩: ∃kk,kk=k:=⟨_,rfl⟩
 obtain⟨c0,rfl,hc0⟩:=fU m0
 obtain⟨c1,rfl,hc1⟩:=fU m1
 obtain⟨c2,rfl,hc2⟩:=fU m2
 obtain⟨c3,rfl,hc3⟩:=fU m3
 obtain⟨c4,rfl,hc4⟩:=fU m4
 have q0:(aB c0).length≤10:=bQ 9 _
 have q1:(aB c1).length≤10:=bQ 9 _
 have q2:(aB c2).length≤10:=bQ 9 _
 have q3:(aB c3).length≤10:=bQ 9 _
 have q4:(aB c4).length≤10:=bQ 9 _
 obtain⟨n,hn0⟩: ∃n,n=2+(aB c0).length+(aB c1).length+(aB c2).length+(aB c3).length+(aB c4).length:=⟨_,rfl⟩
 have hn:n=([byteOf' kk,byteOf' r]++aB c0++aB c1++aB c2++aB c3++aB c4).length:=by rw[hn0];simp;omega
 have hvs:(aB (2+(aB c0).length+(aB c1).length+(aB c2).length+(aB c3).length+(aB c4).length)).length≤10:=bQ 9 _
 have hsl:=dY (aB (2+(aB c0).length+(aB c1).length+(aB c2).length+(aB c3).length+(aB c4).length)++([byteOf' kk,byteOf' r]++aB c0++aB c1++aB c2++aB c3++aB c4))
 rcases hk with rfl|rfl
 all_goals
  have hP:=bF.app (bF.app (bF.app (bF.app (bF.app (bF.two (x:=kk) (y:=r) (by omega) (by omega) (by omega) (by omega)) (bF.bytes (aB c0)) rfl) (bF.bytes (aB c1)) (n:=2+(aB c0).length) (by simp<;>omega)) (bF.bytes (aB c2)) (n:=2+(aB c0).length+(aB c1).length) (by simp<;>omega)) (bF.bytes (aB c3)) (n:=2+(aB c0).length+(aB c1).length+(aB c2).length) (by simp<;>omega)) (bF.bytes (aB c4)) (n:=2+(aB c0).length+(aB c1).length+(aB c2).length+(aB c3).length) (by simp<;>omega)
  rw[hkk]at hP hn
  dsimp only[Rc.av,Rc.cs]at hm⊢
  refine K1.E 0x8808001001008ff Tryz.func15 ?_
  repeat' ((conv=>whnf);first|refine K1.w ?_|refine K1.u ?_|refine K1.P1 (hm) rfl ?_|refine K1.F1 (jC _ c0 (by omega)) rfl ?_|refine K1.F1 (jC _ c1 (by omega)) rfl ?_|refine K1.F1 (jC _ c2 (by omega)) rfl ?_|refine K1.F1 (jC _ c3 (by omega)) rfl ?_|refine K1.F1 (jC _ c4 (by omega)) rfl ?_|refine K1.F1 (jC _ (2+(aB c0).length+(aB c1).length+(aB c2).length+(aB c3).length+(aB c4).length) (by omega)) rfl ?_|refine K1.F1 (zH _ (aB (2+(aB c0).length+(aB c1).length+(aB c2).length+(aB c3).length+(aB c4).length)++([byteOf' _,byteOf' r]++aB c0++aB c1++aB c2++aB c3++aB c4)) (bF.app (bF.bytes _) hP rfl) (by rw[List.length_append,←hn,hn0]) (by rw[List.length_append,←hn,hn0];omega)) rfl ?_|refine aJ.rP 5 6 rfl ?_|refine K1.z ?_|refine K1.y (fun _=> ?_) (fun _=> ?_)|fail)
  conv=>whnf
  refine aG.qJ d rfl rfl ?_ (aj.refl _)
  refine au.pz (bF.bytes _) rfl ?_
  rw[←hn0,hn]
  unfold dS jV
  simp[wG,wH,wI,byteOf,byteOf',iL,zy]
theorem RP (d:Nat) (x:Rc) (h:kE x=true):
  aH Tryz.prog 15 [x.av] (.dM [.own d,.v (.int .i64 0)]) [(d,.row 5 1 (dS x).length true (aX (dS x)))]:=by
 have m:=(ng h).k
 rcases(show x.k=1∨x.k=2∨x.k=3∨x.k=4∨x.k=5 by omega)with hk|hk|hk|hk|hk
 · exact PS d x h (.inl hk)
 · exact ZK d x h hk
 · exact PU d x h (.inl hk)
 · exact PS d x h (.inr hk)
 · exact PU d x h (.inr hk)
end
section
open Go.ChangeShapes Go.WideShapes Go.ChangeAt Go.RowKit
def Rc.rng (x:Rc):Prop:=(∀e∈x.ev,e.rng)∧x.ev.length≤140737488355328
theorem ade {t:TypeId} {fs:Array Field} (ht:Tryz.prog.underlying t=some (.struct fs)) (hc:Au Tryz.prog.cellsOf 0 fs.toList (Tryz.prog.cellsOf t)=true) (hts:fs.toList.map (·.type)=[3,3,3,31,39]):
  Sh t (fun bP=> ∃x:Rc,bP=x.cs∧x.rng):=
 (xZ ht hc hts (.cons (kK Tryz.underlying3) (.cons (kK Tryz.underlying3) (.cons (kK Tryz.underlying3) (.cons Ya (.cons acz .nil)))))).imp fun bP h=>by
  obtain⟨_,_,rfl,⟨a,rfl,_⟩,_,_,rfl,⟨b,rfl,_⟩,_,_,rfl,⟨c,rfl,_⟩,_,_,rfl,⟨d,rfl⟩,_,_,rfl,⟨l,rfl,h1,h2⟩,rfl⟩:=h
  exact⟨⟨a,b,c,d,l⟩,rfl,h1,h2⟩
theorem ZL:Sh 47 (fun bP=> ∃x:Rc,bP=x.cs∧x.rng):=ade Tryz.underlying47 (by kernel_rfl) rfl
section
variable {H:Type} {enc:TypeId×Value→H} {w:World} {spare:Nat→Bool} {held:Bool} {v:Value} {d:DataW H} {p:List MemPlace} {r:Reach} {b0:Nat}
theorem Wv (hv:Value.okWide Tryz.prog w r b0 47 v) (h:DataW.Trod enc Tryz.prog w 0 spare held 47 v d p) (hw: ∀n∈d.weights Tryz.prog 47,n≤reachBytes): ∃x:Rc,x.rng∧C1 ⟨w,allOf w,fun _=>undef⟩ x.av v:=by
 obtain⟨cs,rfl,_⟩:=okWide_struct Tryz.underlying47 hv
 obtain⟨xs,⟨e,rfl,he⟩,hc⟩:=Tc ZL h hw ⟨_,rfl⟩
 exact⟨e,he,hc⟩
end
end
section
open Go.RowKit
def abx (k N:Int) (e:Ev):Bool:=decide (e.r=k)||decide (N≤e.r)
def ZM (x:Rc) (k N:Int) (j:Nat):Bool:=(decide (x.r≠k)||(decide (x.k≠2)&&decide (x.k≠4)))||(x.ev.take j).any (abx k N)
theorem ZO {x:Rc} {k N:Int} {j:Nat} (h:j<x.ev.length):ZM x k N (j+1)=(ZM x k N j||abx k N (x.ev.getD j default)):=by
 unfold ZM
 rw[List.take_add_one,List.any_append,List.getElem?_eq_getElem h,←Bool.or_assoc]
 simp[List.getD,h]
theorem aby {x:Rc} {k:Nat} {N:Int} (h:ZM x k N x.ev.length=true):x.r≠(k:Int)∨(∃j,j<x.ev.length∧RJ k N (x.ev.getD j default))∨x.k≠2∧x.k≠4:=by
 unfold ZM at h
 rw[List.take_length]at h
 simp only[Bool.or_eq_true,Bool.and_eq_true,decide_eq_true_eq,List.any_eq_true]at h
 rcases h with(h|h)|⟨e,he,ho⟩
 · exact .inl h
 · exact .inr (.inr h)
 · obtain⟨j,hj,rfl⟩:=List.getElem_of_mem he
   refine .inr (.inl ⟨j,hj, ?_⟩)
   rw[show x.ev.getD j default=x.ev[j] by simp[List.getD,hj]]
   unfold abx at ho
   simpa[RJ]using ho
theorem CP (c:kZ) (f:Rc) (r:Int) (_:c.rng) (h1: ∀e∈f.ev,e.rng) (h2:f.ev.length≤140737488355328) (hr:0≤r∧r≤255):aH Tryz.prog 5 [c.av,f.av,.v (.int .u8 r)] (.v (.bool true)) []:=by
 have hsh:=uO
 have hfc:=FX c
 have hmc:=Jm c
 have hfr:=RH f h1 h2
 have hmf:=ZE f
 generalize Oj c=d at hfc hmc
 generalize Iy f=x at hfr hmf
 obtain⟨N,hN,hN1,hN5⟩:=Yb hmc
 have hk0:=Int.emod_nonneg r (show(N:Int)≠0 by omega)
 have hk1:=Int.emod_lt_of_pos r (show(0:Int)<N by omega)
 obtain⟨k,hk⟩: ∃k:Nat,r%(N:Int)=(k:Int):=⟨(r%N).toNat,by omega⟩
 have hn:=Bl d k hmc (by rw[hN];omega)
 have hp:=(RP 0 x hmf).thaw
 have ht:=Vl x hmf
 have hl:=(ng hmf).l
 have hs:=CO (nd0 d k) (Nat.zero_le _) (Nat.zero_le _)
 have htk:=fun(h:ZM x k N x.ev.length=true)=>PI (nd0 d k) rfl (dS x) ht (by omega) (by rw[show(nd0 d k).c.n=(N:Int)from hN];exact aby h) (bF.bytes _) rfl
 have hsb:=fun j (h:j<x.ev.length)=>ZO (k:=k) (N:=N) h
 have hs0:ZM x k N 0=((decide (x.r≠k)||(decide (x.k≠2)&&decide (x.k≠4)))||false):=by unfold ZM;rw[List.take_zero];rfl
 clear hmc hmf ht h1 h2 hk0 hk1
 generalize dS x=B at*
 generalize oU (nd0 d k)=O at*
 obtain⟨dn,dw,dq,dh,dl,dp⟩:=d
 obtain⟨cn,cw,cq,ch,cl,cp⟩:=c
 obtain⟨fk,fr,fu,⟨f0,f1,f2,f3,f4⟩,fe⟩:=f
 obtain⟨xk,xr,xu,⟨x0,x1,x2,x3,x4⟩,xe⟩:=x
 dsimp only at hN
 subst hN
 dsimp only[JW,nd0,dX,cond_true,kZ.av,kZ.cs,Rc.av,Rc.cs,IE,List.length_nil]at*
 refine K1.E 0x2000000800004000006ffdf Tryz.func5 ?_
 repeat' ((conv=>whnf);first|refine K1.w ?_|refine K1.u ?_|refine K1.P1 (hsh) rfl ?_|refine K1.P1 (hfc) rfl ?_|refine K1.P1 (hfr) rfl ?_|refine K1.C 0 [] (hn) rfl ?_|refine Rm.is (by omega) (by omega) hk ?_|refine K1.z ?_|refine K1.y (fun _=> ?_) (fun _=> ?_)|fail)
 all_goals(conv=>whnf)
 all_goals
  refine aJ.mk {j:Nat//j≤xe.length} (fun j=>⟨[(8,.box 2 0),(9,.v (.int .i64 (k:Int))),(10,.box 3 0),(12,.box 4 0),(13,.v (.bool (ZM ⟨xk,xr,xu,⟨x0,x1,x2,x3,x4⟩,xe⟩ k N j.1))),(14,.v (.int .i64 (j.1:Int)))],
    [(4,.box 47 [.v (.int .i64 xk),.v (.int .i64 xr),.v (.int .i64 xu),.v (.int .i64 x0),.v (.int .i64 x1),.v (.int .i64 x2),.v (.int .i64 x3),.v (.int .i64 x4),.sl 12 xe.length true (dV xe)]),(3,.obs O),(2,.box 23 [.v (.int .i64 (N:Int)),.v (.int .i64 dw),.v (.int .i64 dq),.v (.int .i64 dh),.v (.int .i64 dl),.v (.int .i64 dp)])],[],5⟩) (fun j=>xe.length-j.1) ⟨0,Nat.zero_le _⟩ _
   (dB.mk' [] _ _ _ rfl ⟨aj.refl _,aj.refl _,aj.refl _,aj.refl _,by refine aj.of ?_;show AV.v (.bool _)=AV.v (.bool _);rw[hs0];simp[*],aj.int rfl,trivial⟩ ⟨⟨_,rfl,au.refl _⟩,⟨_,rfl,au.refl _⟩,⟨_,rfl,au.refl _⟩,trivial⟩ rfl) ?_
  rintro⟨j,hj⟩
  dsimp only
  by_cases hjl:j<xe.length
  · have hb:=hsb j hjl
    have hlit:xe.getD j default=xe.getD (j:Int).toNat default:=rfl
    rw[hlit]at hb
    generalize ZM ⟨xk,xr,xu,⟨x0,x1,x2,x3,x4⟩,xe⟩ k N j=q at hb
    unfold abx at hb
    clear hsb hs0 htk
    repeat' ((conv=>whnf);first|refine K1.w ?_|refine K1.u ?_|refine K1.z ?_|refine K1.y (fun _=> ?_) (fun _=> ?_)|fail)
    all_goals(conv=>whnf)
    all_goals exact⟨⟨j+1,hjl⟩,_,dB.mk' [] _ _ _ rfl ⟨aj.refl _,aj.refl _,aj.refl _,aj.refl _,by refine aj.of ?_;show AV.v (.bool _)=AV.v (.bool _);rw[hb];simp only[*,decide_true,decide_false,Bool.or_true,Bool.true_or,Bool.or_false,Bool.false_or,Bool.or_self],aj.int rfl,trivial⟩ ⟨⟨_,rfl,au.refl _⟩,⟨_,rfl,au.refl _⟩,⟨_,rfl,au.refl _⟩,trivial⟩ rfl,by show xe.length-(j+1)<xe.length-j;omega⟩
  · obtain rfl:j=xe.length:=by omega
    generalize ZM ⟨xk,xr,xu,⟨x0,x1,x2,x3,x4⟩,xe⟩ k N xe.length=q at htk
    clear hsb hs0
    cases q with
    | false=>
      repeat' ((conv=>whnf);first|refine K1.w ?_|refine K1.u ?_|refine aG.cO ?_|refine K1.z ?_|refine K1.y (fun _=> ?_) (fun _=> ?_)|fail)
      all_goals(conv=>whnf)
      exact aW.mk (aj.refl _)
    | true=>
      have htk:=htk rfl
      repeat' ((conv=>whnf);first|refine K1.w ?_|refine K1.u ?_|refine K1.P1 (hp) rfl ?_|refine K1.C 1 [(0,_)] (htk) rfl ?_|refine K1.C 1 [(0,_)] (hs) rfl ?_|refine aG.cO ?_|refine K1.z ?_|refine K1.y (fun _=> ?_) (fun _=> ?_)|fail)
      all_goals(conv=>whnf)
      exact aW.mk (aj.refl _)
end
end Go.Proofs.YtimhagicagdkfaaGreat
