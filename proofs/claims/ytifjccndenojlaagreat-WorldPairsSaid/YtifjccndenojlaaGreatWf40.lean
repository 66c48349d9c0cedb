/-
  Contracts of the walk:WcK.
-/
import Derived.Test.YtifjccndenojlaaGreatWf32
import Derived.Test.YtifjccndenojlaaGreatWf16
set_option maxHeartbeats 16000000
set_option maxRecDepth 100000
set_option linter.unusedVariables false
set_option linter.unusedSimpArgs false
namespace Go.Proofs.YtifjccndenojlaaGreat
open Go.RowKit
open Go.Proofs.Tryz
def aa1:Nat->FuncId
 |0=>256
 |1=>39
 |_=>257
def ahn:Nat->FuncId
 |0=>253
 |1=>38
 |_=>254
def aho(q:Nat)(keep:Int):List AV:=match q with
 |2=>[.v (.int .i64 keep)]
 |_=>[]
def ahp(q:Nat)(x:Int):AV:=match q with
 |1=> .v (.int .i64 x)
 |_=> .bI []
def adn(q:Nat)(x:Int):Int:=match q with
 |1=>x
 |_=>0
def powS:Nat->String
 |0=> "Crash"
 |1=> "Start"
 |_=> "Cut"
theorem Na(q:Nat)(hq:q=0\/q=1\/q=2)(os:List OB)(hb ln o':OB)(r:Nat)(h5:os.length<=5)(hr:r<os.length)(ed:Ed)(at' bit mask keep x:Int)(hm:aj prog (aa1 q) [(0,.obs (os.getD r hb))] (.box 0 0::aho q keep) (ahp q x) [(0,.obs o')]):
  aj prog 11 [(0,.obs (wO os hb ln))] [.box 0 0,Stp.av ⟨8+(q:Int),(r:Int),ed,at',bit,mask,keep⟩] (.v (.int .i64 (adn q x))) [(0,.obs (wO (os.set r o') hb ln))]:=by
 have ahq:∀p w,(method (prog.types.size+Made.depth) 78 p (powS q)).run prog w= .ok ((aa1 q),p) w:=by rcases hq with rfl|rfl|rfl<;>exact λ p w=>rfl
 refine qV (ho:=[]) ⟨_,_,func11,rfl,rfl⟩ ?_ rfl;revert hm;refine vF (C:=λ os r=>aj prog (aa1 q) [(0,.obs (os.getD r hb))] (.box 0 0::aho q keep) (ahp q x) [(0,.obs o')]->aj prog 11 (wH os hb ln ()) [.box 0 0,Stp.av ⟨8+(q:Int),(r:Int),ed,at',bit,mask,keep⟩] (.v (.int .i64 (adn q x))) (wH (os.set r o') hb ln ()++[])) os r h5 hr ?_ ?_ ?_ ?_ ?_ ?_ ?_ ?_ ?_ ?_ ?_ ?_ ?_ ?_ ?_;all_goals
  intros;rename_i hm;simp only[apM,apG]at hm;dsimp only[wH,wP,wN,List.append_nil,List.set,Stp.av,Stp.cs];rcases hq with rfl|rfl|rfl
 all_goals
  dsimp only[aa1,aho,ahp,adn,powS]at hm ahq⊢;refine K1.M 0x1041040180200406bb func11 40 ?_;repeat' ((conv=>whnf);first|refine K1.u ?_|refine K1.C 1 [(0,_)] (hm) rfl ?_|refine lC.ifc Tryz.underlying78 rfl ?_|refine lC.inv bQ (dM bQ 8) 78 90 rfl rfl ahq ?_|refine K1.I 0x44600010007b func24 ?_|refine K1.I 0x13 func25 ?_|refine oC.yes (of_decide_eq_true rfl) ?_|refine nV.lit _ rfl rfl ?_|fail)
  all_goals(conv=>whnf)
  refine⟨[],rfl,rfl, ?_,rfl,rfl,au⟩;repeat' (first|exact trivial|refine⟨ay rfl, ?_⟩)
theorem Nb(q:Nat)(hq:q=0\/q=1\/q=2)(os:List OB)(hb ln hb':OB)(h1:1<=os.length)(h5:os.length<=5)(ed:Ed)(at' bit mask keep x:Int)(hm:aj prog (ahn q) [(0,.obs hb)] (.box 0 0::aho q keep) (ahp q x) [(0,.obs hb')]):
  aj prog 11 [(0,.obs (wO os hb ln))] [.box 0 0,Stp.av ⟨8+(q:Int),5,ed,at',bit,mask,keep⟩] (.v (.int .i64 (adn q x))) [(0,.obs (wO os hb' ln))]:=by
 have ahq:∀p w,(method (prog.types.size+Made.depth) 70 p (powS q)).run prog w= .ok ((ahn q),p) w:=by rcases hq with rfl|rfl|rfl<;>exact λ p w=>rfl
 refine qV (ho:=[]) ⟨_,_,func11,rfl,rfl⟩ ?_ rfl;refine jW (C:=λ os=>aj prog 11 (wH os hb ln ()) [.box 0 0,Stp.av ⟨8+(q:Int),5,ed,at',bit,mask,keep⟩] (.v (.int .i64 (adn q x))) (wH os hb' ln ()++[])) os h1 h5 ?_ ?_ ?_ ?_ ?_;all_goals
  intros;dsimp only[wH,wP,wN,List.append_nil,Stp.av,Stp.cs];rcases hq with rfl|rfl|rfl
 all_goals
  dsimp only[ahn,aho,ahp,adn,powS]at hm ahq⊢;refine K1.M 0x1041040180200406bb func11 40 ?_;repeat' ((conv=>whnf);first|refine K1.u ?_|refine K1.C 1 [(0,_)] (hm) rfl ?_|refine lC.ifc Tryz.underlying70 rfl ?_|refine lC.inv bQ (dM bQ 8) 70 90 rfl rfl ahq ?_|refine K1.I 0x44600010007b func24 ?_|refine K1.I 0x13 func25 ?_|refine oC.no (of_decide_eq_false rfl) ?_|fail)
  all_goals(conv=>whnf)
  refine⟨[],rfl,rfl, ?_,rfl,rfl,au⟩;repeat' (first|exact trivial|refine⟨ay rfl, ?_⟩)
end Go.Proofs.YtifjccndenojlaaGreat
