/-
 HubPlays is proved:whatever comes to the hub,by frames (whole,turned,or not for it),crashes at any byte,and restarts,what it answers,and how it stands,is as the document says,step by step;no condition.
-/
import Derived.Test.YtopfgjgdadnjeaaGreatHp25
set_option maxHeartbeats 16000000
set_option maxRecDepth 100000
set_option linter.unusedVariables false
set_option linter.unusedSimpArgs false
namespace Go.Proofs.YtopfgjgdadnjeaaGreat
section
open Go.ChangeShapes Go.WideShapes Go.ChangeAt Go.RowKit
theorem hubPlays_proved:Rows.HubPlaysSaid:=
 OpenClaim.holds_of_wide 3 Tryz.f3 rfl rfl rfl rfl rfl rfl rfl ⟨rfl,rfl,rfl,rfl,rfl⟩ rfl rfl rfl rfl rfl (by kernel_rfl) Tryz.func3 (by kernel_rfl)
  (of_decide_eq_true (by kernel_rfl)) (by unfold Func.isWrapper;first|(rw[if_pos (by decide+kernel)];kernel_rfl)|(rw[if_neg (by decide+kernel)];exact⟨rfl,rfl⟩))
  (λ os started H enc _=>law_lifted os started 3 Tryz.f3 Rows.hubPlaysSpec rfl (by kernel_rfl) Tryz.func3 rfl
   (by rw[Tryz.params3];intro t ht;simp at ht;rcases ht with rfl|rfl<;>exact⟨by kernel_rfl,of_decide_eq_true (by kernel_rfl)⟩)
   (λ ds h=>match ds,h with|[_,_],_=>rfl)
   (ChangeSpec.witness6 (enc:=enc) (C:=Tryz.checked) false ⟨#[], #[.agg #[.int .i64 0,.int .i64 0,.int .i64 0,.int .i64 0,.int .i64 0,.int .i64 0],.slice none 0 0],[]⟩ 8 (by kernel_rfl) (by kernel_rfl) (by kernel_rfl) (by kernel_rfl))
   (λ W base args ds p hval hA hsz=>by
    rw[Tryz.params3]at hval hA hsz;obtain⟨v0,v1,d0,d1,p0,p1,rfl,rfl,rfl,h0,h1⟩:=trodAll_two hA;obtain⟨a0,r0,c0⟩:=Rz (hval 0 _ v0 rfl rfl) h0 (uT hsz (j:=0) rfl rfl);obtain⟨a1,r1,l1,c1⟩:=RG (hval 1 _ v1 rfl rfl) h1 (uT hsz (j:=1) rfl rfl);exact Rw (GV a0 a1 r0 r1 l1) (args:=[v0,v1]) (aN.cons c0 (aN.cons c1 aN.nil))))
#print axioms hubPlays_proved
end
end Go.Proofs.YtopfgjgdadnjeaaGreat
