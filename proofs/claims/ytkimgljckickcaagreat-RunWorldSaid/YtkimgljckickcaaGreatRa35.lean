/-
  Contracts of the walk:WcI.
-/
import Derived.Test.YtkimgljckickcaaGreatRa33
import Derived.Test.YtkimgljckickcaaGreatRa31
import Derived.Test.YtkimgljckickcaaGreatRa34
import Derived.Test.YtkimgljckickcaaGreatRa16
set_option maxHeartbeats 16000000
set_option maxRecDepth 100000
set_option linter.unusedVariables false
set_option linter.unusedSimpArgs false
namespace Go.Proofs.YtkimgljckickcaaGreat
open Go.RowKit
open Go.Proofs.Tryz
variable{x:Int}{n q:Nat}{F:Nat->List AV}
def Lc:Nat->FuncId
 |1=>42
 |2=>43
 |_=>44
theorem abN(os:List OB)(hb ln:OB)(OU:OB)(r:Nat)(h5:os.length<=5)(hr:r<os.length)(hq:q=1\/q=2\/q=3)(ed:Ed)(at' bit mask keep:Int)(b:List UInt8)(hm:aj prog (Lc q) [(0,.obs (os.getD r hb))] [.box 0 0] (.aZ [.sl 1 b.length true (aO b),.v (.int .i64 0)]) [(0,.obs (os.getD r hb))])(hs:aj prog 87 [(0,.obs ln)] [.box 0 0,.v (.int .i64 5),.sl 1 b.length true (aO b)] (.aZ []) [(0,.obs OU)]):
  aj prog 15 [(0,.obs (wO os hb ln))] [.box 0 0,Stp.av ⟨(q:Int),(r:Int),ed,at',bit,mask,keep⟩] (.v (.int .i64 0)) [(0,.obs (wO os hb OU))]:=by
 refine oU (ho:=[]) ⟨_,_,func15,rfl,rfl⟩ ?_ rfl;revert hm;refine sO (C:=λ os r=>aj prog (Lc q) [(0,.obs (os.getD r hb))] [.box 0 0] (.aZ [.sl 1 b.length true (aO b),.v (.int .i64 0)]) [(0,.obs (os.getD r hb))]->aj prog 15 (wH os hb ln ()) [.box 0 0,Stp.av ⟨(q:Int),(r:Int),ed,at',bit,mask,keep⟩] (.v (.int .i64 0)) (wH os hb OU ()++[])) os r h5 hr ?_ ?_ ?_ ?_ ?_ ?_ ?_ ?_ ?_ ?_ ?_ ?_ ?_ ?_ ?_;all_goals
  intros;rename_i hm;simp only[aoe,an']at hm;rcases hq with rfl|rfl|rfl;all_goals
   dsimp only[wH,wP,wN,List.append_nil,Stp.av,Stp.cs,Lc,iC]at hm⊢;refine K1.M 0x1041040180200406bb func15 40 ?_;repeat' ((conv=>whnf);first|refine K1.u ?_|refine K1.C 1 [(0,_)] (hm) rfl ?_|refine K1.C 1 [(0,_)] (hs) rfl ?_|refine K1.I 0x2073 func41 ?_|refine K1.I 0x13 func39 ?_|refine nR.yes (of_decide_eq_true rfl) ?_|refine mJ.lit _ rfl rfl ?_|fail)
   all_goals(conv=>whnf)
   refine⟨[],rfl,rfl, ?_,rfl,rfl,bY⟩;repeat' (first|exact trivial|refine⟨dB rfl, ?_⟩)
theorem abO(os:List OB)(hb ln:OB)(r:Nat)(h5:os.length<=5)(hr:r<os.length)(hq:q=1\/q=2\/q=3)(ed:Ed)(at' bit mask keep:Int)(hx:x≠0)(hm:aj prog (Lc q) [(0,.obs (os.getD r hb))] [.box 0 0] (.aZ [iC,.v (.int .i64 x)]) [(0,.obs (os.getD r hb))]):
  aj prog 15 [(0,.obs (wO os hb ln))] [.box 0 0,Stp.av ⟨(q:Int),(r:Int),ed,at',bit,mask,keep⟩] (.v (.int .i64 x)) [(0,.obs (wO os hb ln))]:=by
 refine oU (ho:=[]) ⟨_,_,func15,rfl,rfl⟩ ?_ rfl;revert hm;refine sO (C:=λ os r=>aj prog (Lc q) [(0,.obs (os.getD r hb))] [.box 0 0] (.aZ [iC,.v (.int .i64 x)]) [(0,.obs (os.getD r hb))]->aj prog 15 (wH os hb ln ()) [.box 0 0,Stp.av ⟨(q:Int),(r:Int),ed,at',bit,mask,keep⟩] (.v (.int .i64 x)) (wH os hb ln ()++[])) os r h5 hr ?_ ?_ ?_ ?_ ?_ ?_ ?_ ?_ ?_ ?_ ?_ ?_ ?_ ?_ ?_;all_goals
  intros;rename_i hm;simp only[aoe,an']at hm;rcases hq with rfl|rfl|rfl;all_goals
   dsimp only[wH,wP,wN,List.append_nil,Stp.av,Stp.cs,Lc,iC]at hm⊢;refine K1.M 0x1041040180200406bb func15 40 ?_;repeat' ((conv=>whnf);first|refine K1.u ?_|refine K1.C 1 [(0,_)] (hm) rfl ?_|refine K1.I 0x2073 func41 ?_|refine K1.I 0x13 func39 ?_|refine nR.yes (of_decide_eq_true rfl) ?_|refine mJ.lit _ rfl rfl ?_|fail)
   all_goals(conv=>whnf)
   refine⟨[],rfl,rfl, ?_,rfl,rfl,bY⟩;repeat' (first|exact trivial|refine⟨dB rfl, ?_⟩)
theorem afM(os:List OB)(hb ln o':OB)(r:Nat)(h5:os.length<=5)(hr:r<os.length)(hm:aj prog 100 [(0,.obs (os.getD r hb))] [.box 0 0,.sl 1 n true F] (.v (.int .i64 x)) [(0,.obs o')]):
  aj prog 77 (wH os hb ln ()) [.box 0 0,.agg [.v (.int .i64 (r:Int)),.sl 1 n true F]] (.v (.int .i64 x)) (wH (os.set r o') hb ln ()++[]):=by
 revert hm;refine sO (C:=λ os r=>aj prog 100 [(0,.obs (os.getD r hb))] [.box 0 0,.sl 1 n true F] (.v (.int .i64 x)) [(0,.obs o')]->aj prog 77 (wH os hb ln ()) [.box 0 0,.agg [.v (.int .i64 (r:Int)),.sl 1 n true F]] (.v (.int .i64 x)) (wH (os.set r o') hb ln ()++[])) os r h5 hr ?_ ?_ ?_ ?_ ?_ ?_ ?_ ?_ ?_ ?_ ?_ ?_ ?_ ?_ ?_;all_goals
  intros;rename_i hm;simp only[aoe,an']at hm;dsimp only[wH,wP,wN,List.append_nil,List.set];refine K1.M 0x100000008fb func77 40 ?_;repeat' ((conv=>whnf);first|refine K1.u ?_|refine K1.C 1 [(0,_)] (hm) rfl ?_|refine K1.I 0x13 func39 ?_|refine nR.yes (of_decide_eq_true rfl) ?_|refine mJ.lit _ rfl rfl ?_|refine K1.o (id:=2) (nN [0,1,2,3,4,5,6,7,8,9] [(10,some [9,7,5,3,1]),(11,none)]) ?_|fail)
  all_goals(conv=>whnf)
  refine⟨[],rfl,rfl, ?_,rfl,rfl,bY⟩;repeat' (first|exact trivial|refine⟨dB rfl, ?_⟩)
theorem VF(os:List OB)(hb ln hb':OB)(h1:1<=os.length)(h5:os.length<=5)(hm:aj prog 99 [(0,.obs hb)] [.box 0 0,.sl 1 n true F] (MG (.inl x)) ((0,.obs hb')::yh (.inl x))):
  aj prog 77 (wH os hb ln ()) [.box 0 0,.agg [.v (.int .i64 5),.sl 1 n true F]] (.v (.int .i64 x)) (wH os hb' ln ()++[]):=by
 refine jS (C:=λ os=>aj prog 77 (wH os hb ln ()) [.box 0 0,.agg [.v (.int .i64 5),.sl 1 n true F]] (.v (.int .i64 x)) (wH os hb' ln ()++[])) os h1 h5 ?_ ?_ ?_ ?_ ?_;all_goals
  intros;dsimp only[wH,wP,wN,List.append_nil,MG,yh,Ie]at hm⊢;refine K1.M 0x100000008fb func77 40 ?_;repeat' ((conv=>whnf);first|refine K1.u ?_|refine K1.C 1 [(0,_)] (hm) rfl ?_|refine K1.I 0x13 func39 ?_|refine nR.no (of_decide_eq_false rfl) ?_|refine K1.o (id:=3) (nN [0,1,2,3,4,5] ((6,some [5,3,1])::nN [7,8,9,10,11,12,13] [])) ?_|refine K1.y (λ _=>?_) (λ _=>?_)|fail)
  all_goals(conv=>whnf)
  all_goals
   refine⟨[],rfl,rfl, ?_,rfl,rfl,bY⟩;repeat' (first|exact trivial|refine⟨dB rfl, ?_⟩)
theorem Rh(os:List OB)(hb ln hb':OB)(h1:1<=os.length)(h5:os.length<=5)(r:Nat)(hr:r<os.length)(w:List UInt8)(OU:OB)(hs:aj prog 87 [(0,.obs ln)] [.box 0 0,.v (.int .i64 (r:Int)),.sl 1 w.length true (aO w)] (.aZ []) [(0,.obs OU)])(hm:aj prog 99 [(0,.obs hb)] [.box 0 0,.sl 1 n true F] (MG (.inr (r,w))) ((0,.obs hb')::yh (.inr (r,w)))):
  aj prog 77 (wH os hb ln ()) [.box 0 0,.agg [.v (.int .i64 5),.sl 1 n true F]] (.v (.int .i64 0)) (wH os hb' OU ()++[]):=by
 refine sO (C:=λ os r=>aj prog 99 [(0,.obs hb)] [.box 0 0,.sl 1 n true F] (MG (.inr (r,w))) ((0,.obs hb')::yh (.inr (r,w)))->aj prog 87 [(0,.obs ln)] [.box 0 0,.v (.int .i64 (r:Int)),.sl 1 w.length true (aO w)] (.aZ []) [(0,.obs OU)]->
  aj prog 77 (wH os hb ln ()) [.box 0 0,.agg [.v (.int .i64 5),.sl 1 n true F]] (.v (.int .i64 0)) (wH os hb' OU ()++[])) os r h5 hr ?_ ?_ ?_ ?_ ?_ ?_ ?_ ?_ ?_ ?_ ?_ ?_ ?_ ?_ ?_ hm hs
 all_goals
  clear hm hs;intros;rename_i hm hs;dsimp only[wH,wP,wN,List.append_nil,MG,yh,EC,gX]at hm hs⊢;refine K1.M 0x100000008fb func77 40 ?_;repeat' ((conv=>whnf);first|refine K1.u ?_|refine K1.C 1 [(0,_)] (hm) rfl ?_|refine K1.C 1 [(0,_)] (hs) rfl ?_|refine bQ.EO bU (dS bU _) ⟨_,_,func87,rfl,rfl⟩ 41 rfl ?_|refine K1.I 0x13 func39 ?_|refine nR.yes (of_decide_eq_true rfl) ?_|refine nR.no (of_decide_eq_false rfl) ?_|refine K1.o (id:=3) (nN [0,1,2,3,4,5] ((6,some [5,3,1])::nN [7,8,9,10,11,12,13] [])) ?_|fail)
  all_goals(conv=>whnf)
  refine⟨[],rfl,rfl, ?_,rfl,rfl,bY⟩;repeat' (first|exact trivial|refine⟨dB rfl, ?_⟩)
end Go.Proofs.YtkimgljckickcaaGreat
