/-
  Contracts of the walk:WcK.
-/
import Derived.Test.YtkimgljckickcaaGreatRa33
import Derived.Test.YtkimgljckickcaaGreatRa16
set_option maxHeartbeats 16000000
set_option maxRecDepth 100000
set_option linter.unusedVariables false
set_option linter.unusedSimpArgs false
namespace Go.Proofs.YtkimgljckickcaaGreat
open Go.RowKit
open Go.Proofs.Tryz
def Zy:Nat->FuncId
 |0=>95
 |1=>73
 |_=>283
def afN:Nat->FuncId
 |0=>96
 |1=>72
 |_=>281
def afO(q:Nat)(keep:Int):List AV:=match q with
 |2=>[.v (.int .i64 keep)]
 |_=>[]
def afP(q:Nat)(x:Int):AV:=match q with
 |1=> .v (.int .i64 x)
 |_=> .aZ []
def abP(q:Nat)(x:Int):Int:=match q with
 |1=>x
 |_=>0
def powS:Nat->String
 |0=> "Crash"
 |1=> "Start"
 |_=> "Cut"
theorem Ld(q:Nat)(hq:q=0\/q=1\/q=2)(os:List OB)(hb ln o':OB)(r:Nat)(h5:os.length<=5)(hr:r<os.length)(ed:Ed)(at' bit mask keep x:Int)(hm:aj prog (Zy q) [(0,.obs (os.getD r hb))] (.box 0 0::afO q keep) (afP q x) [(0,.obs o')]):
  aj prog 15 [(0,.obs (wO os hb ln))] [.box 0 0,Stp.av ⟨8+(q:Int),(r:Int),ed,at',bit,mask,keep⟩] (.v (.int .i64 (abP q x))) [(0,.obs (wO (os.set r o') hb ln))]:=by
 have afQ:∀p w,(method (prog.types.size+Made.depth) 100 p (powS q)).run prog w= .ok ((Zy q),p) w:=by rcases hq with rfl|rfl|rfl<;>exact λ p w=>rfl
 refine oU (ho:=[]) ⟨_,_,func15,rfl,rfl⟩ ?_ rfl;revert hm;refine sO (C:=λ os r=>aj prog (Zy q) [(0,.obs (os.getD r hb))] (.box 0 0::afO q keep) (afP q x) [(0,.obs o')]->aj prog 15 (wH os hb ln ()) [.box 0 0,Stp.av ⟨8+(q:Int),(r:Int),ed,at',bit,mask,keep⟩] (.v (.int .i64 (abP q x))) (wH (os.set r o') hb ln ()++[])) os r h5 hr ?_ ?_ ?_ ?_ ?_ ?_ ?_ ?_ ?_ ?_ ?_ ?_ ?_ ?_ ?_;all_goals
  intros;rename_i hm;simp only[aoe,an']at hm;dsimp only[wH,wP,wN,List.append_nil,List.set,Stp.av,Stp.cs];rcases hq with rfl|rfl|rfl
 all_goals
  dsimp only[Zy,afO,afP,abP,powS]at hm afQ⊢;refine K1.M 0x1041040180200406bb func15 40 ?_;repeat' ((conv=>whnf);first|refine K1.u ?_|refine K1.C 1 [(0,_)] (hm) rfl ?_|refine kU.ifc Tryz.underlying100 rfl ?_|refine kU.inv bU (dS bU 8) 100 90 rfl rfl afQ ?_|refine K1.I 0x44600010007b func38 ?_|refine K1.I 0x13 func39 ?_|refine nR.yes (of_decide_eq_true rfl) ?_|refine mJ.lit _ rfl rfl ?_|fail)
  all_goals(conv=>whnf)
  refine⟨[],rfl,rfl, ?_,rfl,rfl,bY⟩;repeat' (first|exact trivial|refine⟨dB rfl, ?_⟩)
theorem Le(q:Nat)(hq:q=0\/q=1\/q=2)(os:List OB)(hb ln hb':OB)(h1:1<=os.length)(h5:os.length<=5)(ed:Ed)(at' bit mask keep x:Int)(hm:aj prog (afN q) [(0,.obs hb)] (.box 0 0::afO q keep) (afP q x) [(0,.obs hb')]):
  aj prog 15 [(0,.obs (wO os hb ln))] [.box 0 0,Stp.av ⟨8+(q:Int),5,ed,at',bit,mask,keep⟩] (.v (.int .i64 (abP q x))) [(0,.obs (wO os hb' ln))]:=by
 have afQ:∀p w,(method (prog.types.size+Made.depth) 92 p (powS q)).run prog w= .ok ((afN q),p) w:=by rcases hq with rfl|rfl|rfl<;>exact λ p w=>rfl
 refine oU (ho:=[]) ⟨_,_,func15,rfl,rfl⟩ ?_ rfl;refine jS (C:=λ os=>aj prog 15 (wH os hb ln ()) [.box 0 0,Stp.av ⟨8+(q:Int),5,ed,at',bit,mask,keep⟩] (.v (.int .i64 (abP q x))) (wH os hb' ln ()++[])) os h1 h5 ?_ ?_ ?_ ?_ ?_;all_goals
  intros;dsimp only[wH,wP,wN,List.append_nil,Stp.av,Stp.cs];rcases hq with rfl|rfl|rfl
 all_goals
  dsimp only[afN,afO,afP,abP,powS]at hm afQ⊢;refine K1.M 0x1041040180200406bb func15 40 ?_;repeat' ((conv=>whnf);first|refine K1.u ?_|refine K1.C 1 [(0,_)] (hm) rfl ?_|refine kU.ifc Tryz.underlying92 rfl ?_|refine kU.inv bU (dS bU 8) 92 90 rfl rfl afQ ?_|refine K1.I 0x44600010007b func38 ?_|refine K1.I 0x13 func39 ?_|refine nR.no (of_decide_eq_false rfl) ?_|fail)
  all_goals(conv=>whnf)
  refine⟨[],rfl,rfl, ?_,rfl,rfl,bY⟩;repeat' (first|exact trivial|refine⟨dB rfl, ?_⟩)
end Go.Proofs.YtkimgljckickcaaGreat
