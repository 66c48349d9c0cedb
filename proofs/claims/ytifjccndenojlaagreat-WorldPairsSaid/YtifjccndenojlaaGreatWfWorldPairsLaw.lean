/-
 WorldPairs is proved:an edit here is listed there when it was pushed,and fetched,and all frames arrived,not ahead;no condition.
-/
import Derived.Test.YtifjccndenojlaaGreatWf47
import Derived.Test.YtifjccndenojlaaGreatWf16
set_option maxHeartbeats 16000000
set_option maxRecDepth 100000
set_option linter.unusedVariables false
set_option linter.unusedSimpArgs false
namespace Go.Proofs.YtifjccndenojlaaGreat
open Go.Proofs.Tryz
section
open Go.ChangeShapes Go.WideShapes Go.ChangeAt Go.RowKit
theorem worldPairs_proved:Rows.WorldPairsSaid:=
 OpenClaim.holds_of_wide 6 Tryz.f6 rfl rfl rfl rfl rfl rfl rfl ⟨rfl,rfl,rfl,rfl,rfl⟩ rfl rfl rfl rfl rfl (by kernel_rfl) func6 (by kernel_rfl)
  (of_decide_eq_true (by kernel_rfl)) (by unfold Func.isWrapper;first|(rw[if_neg (by decide+kernel)];exact⟨rfl,rfl⟩))
  (λ os started H enc _=>law_lifted os started 6 Tryz.f6 Rows.worldPairsSpec rfl (by kernel_rfl) func6 rfl
   (by rw[Tryz.params6];intro t ht;simp at ht;rcases ht with rfl|rfl<;>exact⟨by kernel_rfl,of_decide_eq_true (by kernel_rfl)⟩)
   (λ ds h=>match ds,h with|[_,_],_=>rfl)
   (ChangeSpec.witness6 (enc:=enc) (C:=Tryz.checked) false ⟨#[], #[.agg #[.int .i64 0,.string ⟨#[]⟩,.int .i64 0,.string ⟨#[]⟩],.agg #[.int .u8 0,.int .u8 0]],[]⟩ 8 (by kernel_rfl) (by kernel_rfl) (by kernel_rfl) (by kernel_rfl))
   (λ W base args ds p hval hA hsz=>by
    rw[Tryz.params6]at hval hA hsz;obtain⟨v0,v1,d0,d1,p0,p1,rfl,rfl,rfl,h0,h1⟩:=trodAll_two hA;obtain⟨a0,r0,c0⟩:=alg (hval 0 _ v0 rfl rfl) h0 (jL hsz (j:=0) rfl rfl);obtain⟨a1,b1,p1,q1,c1⟩:=afK (hval 1 _ v1 rfl rfl) h1 (jL hsz (j:=1) rfl rfl);exact Jd (IU a0 a1 b1 r0 p1 q1) (args:=[v0,v1]) (aG.cons c0 (aG.cons c1 aG.nil))))
#print axioms worldPairs_proved
end
end Go.Proofs.YtifjccndenojlaaGreat
