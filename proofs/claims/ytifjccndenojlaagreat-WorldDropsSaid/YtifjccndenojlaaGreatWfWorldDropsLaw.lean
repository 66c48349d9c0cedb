/-
 WorldDrops is proved:what is dropped,and what arrives at who is down,is gone,and changes nothing but how much is on its way;no condition.
-/
import Derived.Test.YtifjccndenojlaaGreatWf45
import Derived.Test.YtifjccndenojlaaGreatWf16
set_option maxHeartbeats 16000000
set_option maxRecDepth 100000
set_option linter.unusedVariables false
set_option linter.unusedSimpArgs false
namespace Go.Proofs.YtifjccndenojlaaGreat
open Go.Proofs.Tryz
section
open Go.ChangeShapes Go.WideShapes Go.ChangeAt Go.RowKit
theorem worldDrops_proved:Rows.WorldDropsSaid:=
 OpenClaim.holds_of_wide 4 Tryz.f4 rfl rfl rfl rfl rfl rfl rfl ⟨rfl,rfl,rfl,rfl,rfl⟩ rfl rfl rfl rfl rfl (by kernel_rfl) func4 (by kernel_rfl)
  (of_decide_eq_true (by kernel_rfl)) (by unfold Func.isWrapper;first|(rw[if_neg (by decide+kernel)];exact⟨rfl,rfl⟩))
  (λ os started H enc _=>law_lifted os started 4 Tryz.f4 Rows.worldDropsSpec rfl (by kernel_rfl) func4 rfl
   (by rw[Tryz.params4];intro t ht;simp at ht;rcases ht with rfl|rfl|rfl<;>exact⟨by kernel_rfl,of_decide_eq_true (by kernel_rfl)⟩)
   (λ ds h=>match ds,h with|[_,_,_],_=>rfl)
   (ChangeSpec.witness6 (enc:=enc) (C:=Tryz.checked) false ⟨#[], #[.agg #[.int .i64 0,.int .i64 0,.int .i64 0,.int .i64 0,.int .i64 0,.int .i64 0],.slice none 0 0,.slice none 0 0],[]⟩ 8 (by kernel_rfl) (by kernel_rfl) (by kernel_rfl) (by kernel_rfl))
   (λ W base args ds p hval hA hsz=>by
    rw[Tryz.params4]at hval hA hsz;obtain⟨v0,v1,v2,d0,d1,d2,p0,p1,p2,rfl,rfl,rfl,h0,h1,h2⟩:=trodAll_three hA;obtain⟨a0,r0,c0⟩:=SB (hval 0 _ v0 rfl rfl) h0 (jL hsz (j:=0) rfl rfl);obtain⟨a1,r1,l1,c1⟩:=Gt (hval 1 _ v1 rfl rfl) h1 (jL hsz (j:=1) rfl rfl);obtain⟨a2,r2,c2⟩:=abx (hval 2 _ v2 rfl rfl) h2 (jL hsz (j:=2) rfl rfl);exact Jd (IL a0 a1 a2 r0 r1 l1 r2) (args:=[v0,v1,v2]) (aG.cons c0 (aG.cons c1 (aG.cons c2 aG.nil)))))
#print axioms worldDrops_proved
end
end Go.Proofs.YtifjccndenojlaaGreat
