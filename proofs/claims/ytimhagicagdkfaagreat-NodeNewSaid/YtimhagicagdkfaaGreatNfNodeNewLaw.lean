/-
 NodeNew is proved:there is a replica just of a config that may be,and a number below how many there are;no condition.
-/
import Derived.Test.YtimhagicagdkfaaGreatNf26
set_option linter.unusedVariables false
set_option linter.unusedSimpArgs false
set_option maxHeartbeats 16000000
set_option maxRecDepth 100000
namespace Go.Proofs.YtimhagicagdkfaaGreat
section
open Go.ChangeShapes Go.WideShapes Go.ChangeAt Go.RowKit
theorem nodeNew_proved:Rows.NodeNewSaid:=
 OpenClaim.holds_of_wide 3 Tryz.f3 rfl rfl rfl rfl rfl rfl rfl ⟨rfl,rfl,rfl,rfl,rfl⟩ rfl rfl rfl rfl rfl (by kernel_rfl) Tryz.func3 (by kernel_rfl)
  (of_decide_eq_true (by kernel_rfl)) (by unfold Func.isWrapper;first|(rw[if_pos (by decide+kernel)];kernel_rfl)|(rw[if_neg (by decide+kernel)];exact⟨rfl,rfl⟩))
  (fun os started H enc _=>law_lifted os started 3 Tryz.f3 Rows.nodeNewSpec rfl (by kernel_rfl) Tryz.func3 rfl
   (by rw[Tryz.params3];intro t ht;simp at ht;rcases ht with rfl|rfl<;>exact⟨by kernel_rfl,of_decide_eq_true (by kernel_rfl)⟩)
   (fun ds h=>match ds,h with|[_,_],_=>rfl)
   (ChangeSpec.witness6 (enc:=enc) (C:=Tryz.checked) false ⟨#[], #[.agg #[.int .i64 0,.int .i64 0,.int .i64 0,.int .i64 0,.int .i64 0,.int .i64 0],.int .i64 0],[]⟩ 8 (by kernel_rfl) (by kernel_rfl) (by kernel_rfl) (by kernel_rfl))
   (fun W base args ds p hval hA hsz=>by
    rw[Tryz.params3]at hval hA hsz
    obtain⟨v0,v1,d0,d1,p0,p1,rfl,rfl,rfl,h0,h1⟩:=trodAll_two hA
    obtain⟨a0,r0,c0⟩:=MH (hval 0 _ v0 rfl rfl) h0 (kR hsz (j:=0) rfl rfl)
    obtain⟨a1,n1,c1⟩:=Ls Tryz.underlying3 (hval 1 _ v1 rfl rfl) h1 (kR hsz (j:=1) rfl rfl)
    have r1: -9223372036854775808≤a1∧a1≤9223372036854775807:=by simpa[Lit.wf,IntKind.min,IntKind.max,IntKind.signed,IntKind.bits]using n1
    exact Lr (MI a0 a1 r0 r1) (args:=[v0,v1]) (aI.cons c0 (aI.cons c1 aI.nil))))
#print axioms nodeNew_proved
end
end Go.Proofs.YtimhagicagdkfaaGreat
