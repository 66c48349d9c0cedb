/-
 WorldArgs is proved:a step at what is no replica,or of no kind,is refused,a frame that is not on its way is not there,and none of these changes anything;no condition.
-/
import Derived.Test.YtifjccndenojlaaGreatWf44
import Derived.Test.YtifjccndenojlaaGreatWf16
set_option maxHeartbeats 16000000
set_option maxRecDepth 100000
set_option linter.unusedVariables false
set_option linter.unusedSimpArgs false
namespace Go.Proofs.YtifjccndenojlaaGreat
open Go.Proofs.Tryz
section
open Go.ChangeShapes Go.WideShapes Go.ChangeAt Go.RowKit
theorem worldArgs_proved:Rows.WorldArgsSaid:=
 OpenClaim.holds_of_wide 3 Tryz.f3 rfl rfl rfl rfl rfl rfl rfl ⟨rfl,rfl,rfl,rfl,rfl⟩ rfl rfl rfl rfl rfl (by kernel_rfl) func3 (by kernel_rfl)
  (of_decide_eq_true (by kernel_rfl)) (by unfold Func.isWrapper;first|(rw[if_neg (by decide+kernel)];exact⟨rfl,rfl⟩))
  (λ os started H enc _=>law_lifted os started 3 Tryz.f3 Rows.worldArgsSpec rfl (by kernel_rfl) func3 rfl
   (by rw[Tryz.params3];intro t ht;simp at ht;rcases ht with rfl|rfl|rfl<;>exact⟨by kernel_rfl,of_decide_eq_true (by kernel_rfl)⟩)
   (λ ds h=>match ds,h with|[_,_,_],_=>rfl)
   (ChangeSpec.witness6 (enc:=enc) (C:=Tryz.checked) false ⟨#[], #[.agg #[.int .i64 0,.int .i64 0,.int .i64 0,.int .i64 0,.int .i64 0,.int .i64 0],.slice none 0 0,.agg #[.int .i64 0,.int .i64 0,.int .i64 0]],[]⟩ 8 (by kernel_rfl) (by kernel_rfl) (by kernel_rfl) (by kernel_rfl))
   (λ W base args ds p hval hA hsz=>by
    rw[Tryz.params3]at hval hA hsz;obtain⟨v0,v1,v2,d0,d1,d2,p0,p1,p2,rfl,rfl,rfl,h0,h1,h2⟩:=trodAll_three hA;obtain⟨a0,r0,c0⟩:=SB (hval 0 _ v0 rfl rfl) h0 (jL hsz (j:=0) rfl rfl);obtain⟨a1,r1,l1,c1⟩:=Gt (hval 1 _ v1 rfl rfl) h1 (jL hsz (j:=1) rfl rfl);obtain⟨a2,b2,e2,r2,c2⟩:=alf (hval 2 _ v2 rfl rfl) h2 (jL hsz (j:=2) rfl rfl);exact Jd (Nr a0 a1 a2 b2 e2 r0 r1 l1 r2) (args:=[v0,v1,v2]) (aG.cons c0 (aG.cons c1 (aG.cons c2 aG.nil)))))
#print axioms worldArgs_proved
end
end Go.Proofs.YtifjccndenojlaaGreat
