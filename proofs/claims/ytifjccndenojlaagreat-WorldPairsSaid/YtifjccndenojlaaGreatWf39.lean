/-
  Contracts of the walk:WcI.
-/
import Derived.Test.YtifjccndenojlaaGreatWf32
import Derived.Test.YtifjccndenojlaaGreatWf31
import Derived.Test.YtifjccndenojlaaGreatWf33
import Derived.Test.YtifjccndenojlaaGreatWf16
set_option maxHeartbeats 16000000
set_option maxRecDepth 100000
set_option linter.unusedVariables false
set_option linter.unusedSimpArgs false
namespace Go.Proofs.YtifjccndenojlaaGreat
open Go.RowKit
open Go.Proofs.Tryz
variable{x:Int}{n q:Nat}{F:Nat->List AV}
def MZ:Nat->FuncId
 |1=>28
 |2=>29
 |_=>30
theorem adk(os:List OB)(hb ln:OB)(Qp:OB)(r:Nat)(h5:os.length<=5)(hr:r<os.length)(hq:q=1\/q=2\/q=3)(ed:Ed)(at' bit mask keep:Int)(b:List UInt8)(hm:aj prog (MZ q) [(0,.obs (os.getD r hb))] [.box 0 0] (.bI [.sl 1 b.length true (aO b),.v (.int .i64 0)]) [(0,.obs (os.getD r hb))])(hs:aj prog 54 [(0,.obs ln)] [.box 0 0,.v (.int .i64 5),.sl 1 b.length true (aO b)] (.bI []) [(0,.obs Qp)]):
  aj prog 11 [(0,.obs (wO os hb ln))] [.box 0 0,Stp.av ⟨(q:Int),(r:Int),ed,at',bit,mask,keep⟩] (.v (.int .i64 0)) [(0,.obs (wO os hb Qp))]:=by
 refine qV (ho:=[]) ⟨_,_,func11,rfl,rfl⟩ ?_ rfl;revert hm;refine vF (C:=λ os r=>aj prog (MZ q) [(0,.obs (os.getD r hb))] [.box 0 0] (.bI [.sl 1 b.length true (aO b),.v (.int .i64 0)]) [(0,.obs (os.getD r hb))]->aj prog 11 (wH os hb ln ()) [.box 0 0,Stp.av ⟨(q:Int),(r:Int),ed,at',bit,mask,keep⟩] (.v (.int .i64 0)) (wH os hb Qp ()++[])) os r h5 hr ?_ ?_ ?_ ?_ ?_ ?_ ?_ ?_ ?_ ?_ ?_ ?_ ?_ ?_ ?_;all_goals
  intros;rename_i hm;simp only[apM,apG]at hm;rcases hq with rfl|rfl|rfl;all_goals
   dsimp only[wH,wP,wN,List.append_nil,Stp.av,Stp.cs,MZ,gW]at hm⊢;refine K1.M 0x1041040180200406bb func11 40 ?_;repeat' ((conv=>whnf);first|refine K1.u ?_|refine K1.C 1 [(0,_)] (hm) rfl ?_|refine K1.C 1 [(0,_)] (hs) rfl ?_|refine K1.I 0x2073 func27 ?_|refine K1.I 0x13 func25 ?_|refine oC.yes (of_decide_eq_true rfl) ?_|refine nV.lit _ rfl rfl ?_|fail)
   all_goals(conv=>whnf)
   refine⟨[],rfl,rfl, ?_,rfl,rfl,au⟩;repeat' (first|exact trivial|refine⟨ay rfl, ?_⟩)
theorem adl(os:List OB)(hb ln:OB)(r:Nat)(h5:os.length<=5)(hr:r<os.length)(hq:q=1\/q=2\/q=3)(ed:Ed)(at' bit mask keep:Int)(hx:x≠0)(hm:aj prog (MZ q) [(0,.obs (os.getD r hb))] [.box 0 0] (.bI [gW,.v (.int .i64 x)]) [(0,.obs (os.getD r hb))]):
  aj prog 11 [(0,.obs (wO os hb ln))] [.box 0 0,Stp.av ⟨(q:Int),(r:Int),ed,at',bit,mask,keep⟩] (.v (.int .i64 x)) [(0,.obs (wO os hb ln))]:=by
 refine qV (ho:=[]) ⟨_,_,func11,rfl,rfl⟩ ?_ rfl;revert hm;refine vF (C:=λ os r=>aj prog (MZ q) [(0,.obs (os.getD r hb))] [.box 0 0] (.bI [gW,.v (.int .i64 x)]) [(0,.obs (os.getD r hb))]->aj prog 11 (wH os hb ln ()) [.box 0 0,Stp.av ⟨(q:Int),(r:Int),ed,at',bit,mask,keep⟩] (.v (.int .i64 x)) (wH os hb ln ()++[])) os r h5 hr ?_ ?_ ?_ ?_ ?_ ?_ ?_ ?_ ?_ ?_ ?_ ?_ ?_ ?_ ?_;all_goals
  intros;rename_i hm;simp only[apM,apG]at hm;rcases hq with rfl|rfl|rfl;all_goals
   dsimp only[wH,wP,wN,List.append_nil,Stp.av,Stp.cs,MZ,gW]at hm⊢;refine K1.M 0x1041040180200406bb func11 40 ?_;repeat' ((conv=>whnf);first|refine K1.u ?_|refine K1.C 1 [(0,_)] (hm) rfl ?_|refine K1.I 0x2073 func27 ?_|refine K1.I 0x13 func25 ?_|refine oC.yes (of_decide_eq_true rfl) ?_|refine nV.lit _ rfl rfl ?_|fail)
   all_goals(conv=>whnf)
   refine⟨[],rfl,rfl, ?_,rfl,rfl,au⟩;repeat' (first|exact trivial|refine⟨ay rfl, ?_⟩)
theorem ahm(os:List OB)(hb ln o':OB)(r:Nat)(h5:os.length<=5)(hr:r<os.length)(hm:aj prog 75 [(0,.obs (os.getD r hb))] [.box 0 0,.sl 1 n true F] (.v (.int .i64 x)) [(0,.obs o')]):
  aj prog 43 (wH os hb ln ()) [.box 0 0,.agg [.v (.int .i64 (r:Int)),.sl 1 n true F]] (.v (.int .i64 x)) (wH (os.set r o') hb ln ()++[]):=by
 revert hm;refine vF (C:=λ os r=>aj prog 75 [(0,.obs (os.getD r hb))] [.box 0 0,.sl 1 n true F] (.v (.int .i64 x)) [(0,.obs o')]->aj prog 43 (wH os hb ln ()) [.box 0 0,.agg [.v (.int .i64 (r:Int)),.sl 1 n true F]] (.v (.int .i64 x)) (wH (os.set r o') hb ln ()++[])) os r h5 hr ?_ ?_ ?_ ?_ ?_ ?_ ?_ ?_ ?_ ?_ ?_ ?_ ?_ ?_ ?_;all_goals
  intros;rename_i hm;simp only[apM,apG]at hm;dsimp only[wH,wP,wN,List.append_nil,List.set];refine K1.M 0x100000008fb func43 40 ?_;repeat' ((conv=>whnf);first|refine K1.u ?_|refine K1.C 1 [(0,_)] (hm) rfl ?_|refine K1.I 0x13 func25 ?_|refine oC.yes (of_decide_eq_true rfl) ?_|refine nV.lit _ rfl rfl ?_|refine K1.o (id:=2) (nN [0,1,2,3,4,5,6,7,8,9] [(10,some [9,7,5,3,1]),(11,none)]) ?_|fail)
  all_goals(conv=>whnf)
  refine⟨[],rfl,rfl, ?_,rfl,rfl,au⟩;repeat' (first|exact trivial|refine⟨ay rfl, ?_⟩)
theorem Xo(os:List OB)(hb ln hb':OB)(h1:1<=os.length)(h5:os.length<=5)(hm:aj prog 76 [(0,.obs hb)] [.box 0 0,.sl 1 n true F] (Oa (.inl x)) ((0,.obs hb')::yT (.inl x))):
  aj prog 43 (wH os hb ln ()) [.box 0 0,.agg [.v (.int .i64 5),.sl 1 n true F]] (.v (.int .i64 x)) (wH os hb' ln ()++[]):=by
 refine jW (C:=λ os=>aj prog 43 (wH os hb ln ()) [.box 0 0,.agg [.v (.int .i64 5),.sl 1 n true F]] (.v (.int .i64 x)) (wH os hb' ln ()++[])) os h1 h5 ?_ ?_ ?_ ?_ ?_;all_goals
  intros;dsimp only[wH,wP,wN,List.append_nil,Oa,yT,FK]at hm⊢;refine K1.M 0x100000008fb func43 40 ?_;repeat' ((conv=>whnf);first|refine K1.u ?_|refine K1.C 1 [(0,_)] (hm) rfl ?_|refine K1.I 0x13 func25 ?_|refine oC.no (of_decide_eq_false rfl) ?_|refine K1.o (id:=3) (nN [0,1,2,3,4,5] ((6,some [5,3,1])::nN [7,8,9,10,11,12,13] [])) ?_|refine K1.y (λ _=>?_) (λ _=>?_)|fail)
  all_goals(conv=>whnf)
  all_goals
   refine⟨[],rfl,rfl, ?_,rfl,rfl,au⟩;repeat' (first|exact trivial|refine⟨ay rfl, ?_⟩)
theorem TN(os:List OB)(hb ln hb':OB)(h1:1<=os.length)(h5:os.length<=5)(r:Nat)(hr:r<os.length)(w:List UInt8)(Qp:OB)(hs:aj prog 54 [(0,.obs ln)] [.box 0 0,.v (.int .i64 (r:Int)),.sl 1 w.length true (aO w)] (.bI []) [(0,.obs Qp)])(hm:aj prog 76 [(0,.obs hb)] [.box 0 0,.sl 1 n true F] (Oa (.inr (r,w))) ((0,.obs hb')::yT (.inr (r,w)))):
  aj prog 43 (wH os hb ln ()) [.box 0 0,.agg [.v (.int .i64 5),.sl 1 n true F]] (.v (.int .i64 0)) (wH os hb' Qp ()++[]):=by
 refine vF (C:=λ os r=>aj prog 76 [(0,.obs hb)] [.box 0 0,.sl 1 n true F] (Oa (.inr (r,w))) ((0,.obs hb')::yT (.inr (r,w)))->aj prog 54 [(0,.obs ln)] [.box 0 0,.v (.int .i64 (r:Int)),.sl 1 w.length true (aO w)] (.bI []) [(0,.obs Qp)]->
  aj prog 43 (wH os hb ln ()) [.box 0 0,.agg [.v (.int .i64 5),.sl 1 n true F]] (.v (.int .i64 0)) (wH os hb' Qp ()++[])) os r h5 hr ?_ ?_ ?_ ?_ ?_ ?_ ?_ ?_ ?_ ?_ ?_ ?_ ?_ ?_ ?_ hm hs
 all_goals
  clear hm hs;intros;rename_i hm hs;dsimp only[wH,wP,wN,List.append_nil,Oa,yT,yS,gI]at hm hs⊢;refine K1.M 0x100000008fb func43 40 ?_;repeat' ((conv=>whnf);first|refine K1.u ?_|refine K1.C 1 [(0,_)] (hm) rfl ?_|refine K1.C 1 [(0,_)] (hs) rfl ?_|refine bZ.FP bQ (dM bQ _) ⟨_,_,func54,rfl,rfl⟩ 41 rfl ?_|refine K1.I 0x13 func25 ?_|refine oC.yes (of_decide_eq_true rfl) ?_|refine oC.no (of_decide_eq_false rfl) ?_|refine K1.o (id:=3) (nN [0,1,2,3,4,5] ((6,some [5,3,1])::nN [7,8,9,10,11,12,13] [])) ?_|fail)
  all_goals(conv=>whnf)
  refine⟨[],rfl,rfl, ?_,rfl,rfl,au⟩;repeat' (first|exact trivial|refine⟨ay rfl, ?_⟩)
end Go.Proofs.YtifjccndenojlaaGreat
