/-
  Contracts of the walk:WcC.
-/
import Derived.Test.YtkimgljckickcaaGreatRa31
import Derived.Test.YtkimgljckickcaaGreatRa16
import Derived.Test.YtkimgljckickcaaGreatRa29
set_option maxHeartbeats 16000000
set_option maxRecDepth 100000
set_option linter.unusedVariables false
set_option linter.unusedSimpArgs false
namespace Go.Proofs.YtkimgljckickcaaGreat
open Go.RowKit
open Go.Proofs.Tryz
variable{x:Int}{o':OB}
def Aw(up:Bool)(c:aS)(s:Int)(h l:List Ev):AV:=bif up then .agg [.v (.bool true),.v (.int .i64 c.c0),.v (.int .i64 c.c1),.v (.int .i64 c.c2),.v (.int .i64 c.c3),.v (.int .i64 c.c4),.v (.int .i64 s),.sl 2 h.length true (LV h),.sl 2 l.length true (LV l)]
 else .agg [.v (.bool false),.v (.int .i64 0),.v (.int .i64 0),.v (.int .i64 0),.v (.int .i64 0),.v (.int .i64 0),.v (.int .i64 0),.v (.slice none 0 0),.v (.slice none 0 0)]
theorem afx(os:List OB)(hb ln:OB)(r:Nat)(h5:os.length<=5)(hr:r<os.length){up:Bool}{c:aS}{s:Int}{h l:List Ev}(hm:aj prog 46 [(0,.obs (os.getD r hb))] [.box 0 0] (Aw up c s h l) [(0,.obs (os.getD r hb))]):
  aj prog 16 [(0,.obs (wO os hb ln))] [.box 0 0,.v (.int .i64 (r:Int))] (Aw up c s h l) [(0,.obs (wO os hb ln))]:=by
 refine oU (ho:=[]) ⟨_,_,func16,rfl,rfl⟩ ?_ (by cases up<;>rfl);revert hm;refine sO (C:=λ os r=>aj prog 46 [(0,.obs (os.getD r hb))] [.box 0 0] (Aw up c s h l) [(0,.obs (os.getD r hb))]->aj prog 16 (wH os hb ln ()) [.box 0 0,.v (.int .i64 (r:Int))] (Aw up c s h l) (wH os hb ln ()++[])) os r h5 hr ?_ ?_ ?_ ?_ ?_ ?_ ?_ ?_ ?_ ?_ ?_ ?_ ?_ ?_ ?_;all_goals
  intros;rename_i hm;simp only[aoe,an']at hm;unfold Aw at hm⊢;cases up;all_goals
   dsimp only[wH,wP,wN,List.append_nil,cond_true,cond_false]at hm⊢;refine K1.M 0x113 func16 40 ?_;repeat' ((conv=>whnf);first|refine K1.u ?_|refine K1.C 1 [(0,_)] (hm) rfl ?_|refine K1.I 0x13 func39 ?_|refine nR.yes (of_decide_eq_true rfl) ?_|refine mJ.lit _ rfl rfl ?_|fail)
   all_goals(conv=>whnf)
   refine⟨[],rfl,rfl, ?_,rfl,rfl,bY⟩;repeat' (first|exact trivial|refine⟨dB rfl, ?_⟩)
theorem afy(os:List OB)(hb ln:OB)(r:Nat)(h5:os.length<=5)(hr:r<os.length)(ed:Ed)(at' bit mask keep:Int){v:Ev}(hm:aj prog 40 [(0,.obs (os.getD r hb))] [.box 0 0,ed.av] (.aZ [v.av,.v (.int .i64 x)]) [(0,.obs o')]):
  aj prog 15 [(0,.obs (wO os hb ln))] [.box 0 0,Stp.av ⟨0,(r:Int),ed,at',bit,mask,keep⟩] (.v (.int .i64 x)) [(0,.obs (wO (os.set r o') hb ln))]:=by
 refine oU (ho:=[]) ⟨_,_,func15,rfl,rfl⟩ ?_ rfl;revert hm;obtain⟨ek,key,l,vl⟩:=ed;obtain⟨vr,vn,⟨c0,c1,c2,c3,c4⟩,vh,vk,amf,vl',vv⟩:=v;dsimp only[Stp.av,Stp.cs,Ed.av,Ed.cs,Ev.av,Ev.cs];refine sO (C:=λ os r=>aj prog 40 [(0,.obs (os.getD r hb))] [.box 0 0,.agg [.v (.int .i64 ek),.v (.string key),.v (.int .i64 l),.v (.string vl)]] (.aZ [.agg [.v (.int .i64 vr),.v (.int .i64 vn),.v (.int .i64 c0),.v (.int .i64 c1),.v (.int .i64 c2),.v (.int .i64 c3),.v (.int .i64 c4),.v (.int .i64 vh),.v (.int .i64 vk),.v (.string amf),.v (.int .i64 vl'),.v (.string vv)],.v (.int .i64 x)]) [(0,.obs o')]->
  aj prog 15 (wH os hb ln ()) [.box 0 0,.agg [.v (.int .i64 0),.v (.int .i64 (r:Int)),.v (.int .i64 ek),.v (.string key),.v (.int .i64 l),.v (.string vl),.v (.int .i64 at'),.v (.int .i64 bit),.v (.int .u32 mask),.v (.int .i64 keep)]] (.v (.int .i64 x)) (wH (os.set r o') hb ln ()++[])) os r h5 hr ?_ ?_ ?_ ?_ ?_ ?_ ?_ ?_ ?_ ?_ ?_ ?_ ?_ ?_ ?_
 all_goals
  intros;rename_i hm;simp only[aoe,an']at hm;dsimp only[wH,wP,wN,List.append_nil,List.set];refine K1.M 0x1041040180200406bb func15 40 ?_;repeat' ((conv=>whnf);first|refine K1.u ?_|refine K1.C 1 [(0,_)] (hm) rfl ?_|refine K1.I 0x13 func39 ?_|refine nR.yes (of_decide_eq_true rfl) ?_|refine mJ.lit _ rfl rfl ?_|fail)
  all_goals(conv=>whnf)
  refine⟨[],rfl,rfl, ?_,rfl,rfl,bY⟩;repeat' (first|exact trivial|refine⟨dB rfl, ?_⟩)
theorem abE(os:List OB)(hb ln:OB)(r:Nat)(h5:os.length<=5)(hr:r<os.length)(ed:Ed)(at' bit mask keep:Int)(hm:aj prog 45 [(0,.obs (os.getD r hb))] [.box 0 0] (.v (.int .i64 x)) [(0,.obs o')]):
  aj prog 15 [(0,.obs (wO os hb ln))] [.box 0 0,Stp.av ⟨11,(r:Int),ed,at',bit,mask,keep⟩] (.v (.int .i64 x)) [(0,.obs (wO (os.set r o') hb ln))]:=by
 refine oU (ho:=[]) ⟨_,_,func15,rfl,rfl⟩ ?_ rfl;revert hm;refine sO (C:=λ os r=>aj prog 45 [(0,.obs (os.getD r hb))] [.box 0 0] (.v (.int .i64 x)) [(0,.obs o')]->
  aj prog 15 (wH os hb ln ()) [.box 0 0,Stp.av ⟨11,(r:Int),ed,at',bit,mask,keep⟩] (.v (.int .i64 x)) (wH (os.set r o') hb ln ()++[])) os r h5 hr ?_ ?_ ?_ ?_ ?_ ?_ ?_ ?_ ?_ ?_ ?_ ?_ ?_ ?_ ?_
 all_goals
  intros;rename_i hm;simp only[aoe,an']at hm;dsimp only[wH,wP,wN,List.append_nil,List.set,Stp.av,Stp.cs];refine K1.M 0x1041040180200406bb func15 40 ?_;repeat' ((conv=>whnf);first|refine K1.u ?_|refine K1.C 1 [(0,_)] (hm) rfl ?_|refine K1.I 0x13 func39 ?_|refine nR.yes (of_decide_eq_true rfl) ?_|refine mJ.lit _ rfl rfl ?_|fail)
  all_goals(conv=>whnf)
  refine⟨[],rfl,rfl, ?_,rfl,rfl,bY⟩;repeat' (first|exact trivial|refine⟨dB rfl, ?_⟩)
end Go.Proofs.YtkimgljckickcaaGreat
