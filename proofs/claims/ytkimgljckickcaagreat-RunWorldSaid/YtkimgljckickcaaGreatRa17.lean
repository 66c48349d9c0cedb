/-
  Contracts of the walk:EvW.
-/
import Derived.Test.YtkimgljckickcaaGreatRa12
import Derived.Test.YtkimgljckickcaaGreatRa1
set_option maxHeartbeats 16000000
set_option maxRecDepth 100000
set_option linter.unusedVariables false
set_option linter.unusedSimpArgs false
namespace Go.Proofs.YtkimgljckickcaaGreat
open Go.RowKit
open Go.Proofs.Tryz
theorem wV(d:Nat)(e:Ev)(h:dU e=0):aF prog 136 [e.av] (.aZ [.own d,.v (.int .i64 0)]) [(d,.row 5 1 (eH e).length true (aO (eH e)))]:=by
 have m:=oW h;have g:=vY m.ed;obtain⟨r,n,⟨c0,c1,c2,c3,c4⟩,hh,k,key,l,v⟩:=e;obtain⟨r0,r4,n1,n2,h1,h2,a0,a1,a2,a3,a4,own,ed⟩:=m;dsimp only[Ev.ed]at r0 r4 n1 n2 h1 h2 a0 a1 a2 a3 a4 g;obtain⟨g1,g2,g3,g4,g5,g6,g7⟩:=g;have g8:v.size<=12/\0<=l/\l<=1:=by
  cases hl:jy k with
  |true=>have:=g6 hl;omega
  |false=>have:=g7 hl;omega
 clear own ed;obtain⟨n,rfl⟩:=anO (show 0<=n by omega);obtain⟨hh,rfl⟩:=anO (show 0<=hh by omega);obtain⟨c0,rfl⟩:=anO a0.1;obtain⟨c1,rfl⟩:=anO a1.1;obtain⟨c2,rfl⟩:=anO a2.1;obtain⟨c3,rfl⟩:=anO a3.1;obtain⟨c4,rfl⟩:=anO a4.1;have q (x:Nat):(aK x).length<=10:=dF 9 x;have q0:=q n;have q1:=q hh;have q2:=q c0;have q3:=q c1;have q4:=q c2;have q5:=q c3;have q6:=q c4;clear q;dsimp only[Ev.av,Ev.cs];rcases(show r=0\/r=1\/r=2\/r=3\/r=4 by omega)with rfl|rfl|rfl|rfl|rfl;all_goals
  refine K1.E 0x100020e00023ff func136 ?_;repeat' ((conv=>whnf);first|refine K1.u ?_|refine K1.P1 (oh ⟨_,(n:Int),⟨(c0:Int),(c1:Int),(c2:Int),(c3:Int),(c4:Int)⟩,(hh:Int),k,key,l,v⟩) ?_|refine K1.F1 (dI _ _ o_) ?_ rfl rfl|refine K1.P1 (Gn _) ?_|refine aI.rounds 6 ?_|refine K1.I 0x3 func191 ?_|refine K1.I 0x3 func192 ?_|refine K1.o (id:=0) (nN [0,1,2] [(3,some [2]),(4,some [2,0]),(5,some [2,0])]) ?_|refine K1.z ?_|refine K1.y (λ _=>?_) (λ _=>?_)|fail)
  all_goals(refine aT.uX d rfl rfl ?_ (bY);apply dK.vX)
  all_goals(try(repeat' (first|exact bg.bytes _|exact bg.one o_ o_|exact bg.two o_ o_ o_ o_|apply bg.app)))
  all_goals first
   |(simp only[am0,anb,anD,zQ];try omega;done)
   |(simp[eH,others,words,gU,byteOf,byteOf', *];done)
end Go.Proofs.YtkimgljckickcaaGreat
