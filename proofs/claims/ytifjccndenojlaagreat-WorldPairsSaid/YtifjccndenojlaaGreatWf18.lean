/-
  Contracts of the walk:EvW.
-/
import Derived.Test.YtifjccndenojlaaGreatWf12
import Derived.Test.YtifjccndenojlaaGreatWf1
set_option maxHeartbeats 16000000
set_option maxRecDepth 100000
set_option linter.unusedVariables false
set_option linter.unusedSimpArgs false
namespace Go.Proofs.YtifjccndenojlaaGreat
open Go.RowKit
open Go.Proofs.Tryz
theorem xM(d:Nat)(e:Ev)(h:eH e=0):aH prog 92 [e.av] (.bI [.own d,.v (.int .i64 0)]) [(d,.row 5 1 (fC e).length true (aO (fC e)))]:=by
 have m:=pV h;have g:=wU m.ed;obtain⟨r,n,⟨c0,c1,c2,c3,c4⟩,hh,k,key,l,v⟩:=e;obtain⟨r0,r4,n1,n2,h1,h2,a0,a1,a2,a3,a4,own,ed⟩:=m;dsimp only[Ev.ed]at r0 r4 n1 n2 h1 h2 a0 a1 a2 a3 a4 g;obtain⟨g1,g2,g3,g4,g5,g6,g7⟩:=g;have g8:v.size<=12/\0<=l/\l<=1:=by
  cases hl:jF k with
  |true=>have:=g6 hl;omega
  |false=>have:=g7 hl;omega
 clear own ed;obtain⟨n,rfl⟩:=apb (show 0<=n by omega);obtain⟨hh,rfl⟩:=apb (show 0<=hh by omega);obtain⟨c0,rfl⟩:=apb a0.1;obtain⟨c1,rfl⟩:=apb a1.1;obtain⟨c2,rfl⟩:=apb a2.1;obtain⟨c3,rfl⟩:=apb a3.1;obtain⟨c4,rfl⟩:=apb a4.1;have q (x:Nat):(aN x).length<=10:=dF 9 x;have q0:=q n;have q1:=q hh;have q2:=q c0;have q3:=q c1;have q4:=q c2;have q5:=q c3;have q6:=q c4;clear q;dsimp only[Ev.av,Ev.cs];rcases(show r=0\/r=1\/r=2\/r=3\/r=4 by omega)with rfl|rfl|rfl|rfl|rfl;all_goals
  refine K1.E 0x100020e00023ff func92 ?_;repeat' ((conv=>whnf);first|refine K1.u ?_|refine K1.P1 (oN ⟨_,(n:Int),⟨(c0:Int),(c1:Int),(c2:Int),(c3:Int),(c4:Int)⟩,(hh:Int),k,key,l,v⟩) ?_|refine K1.F1 (dN _ _ o_) ?_ rfl rfl|refine K1.P1 (Ho _) ?_|refine aI.rounds 6 ?_|refine K1.I 0x3 func137 ?_|refine K1.I 0x3 func138 ?_|refine K1.o (id:=0) (nN [0,1,2] [(3,some [2]),(4,some [2,0]),(5,some [2,0])]) ?_|refine K1.z ?_|refine K1.y (λ _=>?_) (λ _=>?_)|fail)
  all_goals(refine aU.uV d rfl rfl ?_ (au);apply dK.wS)
  all_goals(try(repeat' (first|exact bG.bytes _|exact bG.one o_ o_|exact bG.two o_ o_ o_ o_|apply bG.app)))
  all_goals first
   |(simp only[aop,aoE,aoZ,AB];try omega;done)
   |(simp[fC,others,words,ig,byteOf,byteOf', *];done)
end Go.Proofs.YtifjccndenojlaaGreat
