/-
 NodeStrange is proved:a frame that is not for a replica,or of a kind that it does not take,or has its own events,or those of what is none,is refused,and changes nothing;no condition.
-/
import Derived.Test.YtimhagicagdkfaaGreatNf29
set_option linter.unusedVariables false
set_option linter.unusedSimpArgs false
set_option maxHeartbeats 16000000
set_option maxRecDepth 100000
namespace Go.Proofs.YtimhagicagdkfaaGreat
section
open Go.ChangeShapes Go.WideShapes Go.ChangeAt Go.RowKit
theorem nodeStrange_proved:Rows.NodeStrangeSaid:=
 OpenClaim.holds_of_wide 5 Tryz.f5 rfl rfl rfl rfl rfl rfl rfl ⟨rfl,rfl,rfl,rfl,rfl⟩ rfl rfl rfl rfl rfl (by kernel_rfl) Tryz.func5 (by kernel_rfl)
  (of_decide_eq_true (by kernel_rfl)) (by unfold Func.isWrapper;first|(rw[if_pos (by decide+kernel)];kernel_rfl)|(rw[if_neg (by decide+kernel)];exact⟨rfl,rfl⟩))
  (fun os started H enc _=>law_lifted os started 5 Tryz.f5 Rows.nodeStrangeSpec rfl (by kernel_rfl) Tryz.func5 rfl
   (by rw[Tryz.params5];intro t ht;simp at ht;rcases ht with rfl|rfl|rfl<;>exact⟨by kernel_rfl,of_decide_eq_true (by kernel_rfl)⟩)
   (fun ds h=>match ds,h with|[_,_,_],_=>rfl)
   (ChangeSpec.witness6 (enc:=enc) (C:=Tryz.checked) false ⟨#[], #[.agg #[.int .i64 0,.int .i64 0,.int .i64 0,.int .i64 0,.int .i64 0,.int .i64 0],.agg #[.int .i64 0,.int .i64 0,.int .i64 0,.int .i64 0,.int .i64 0,.int .i64 0,.int .i64 0,.int .i64 0,.slice none 0 0],.int .u8 0],[]⟩ 8 (by kernel_rfl) (by kernel_rfl) (by kernel_rfl) (by kernel_rfl))
   (fun W base args ds p hval hA hsz=>by
    rw[Tryz.params5]at hval hA hsz
    obtain⟨v0,v1,v2,d0,d1,d2,p0,p1,p2,rfl,rfl,rfl,h0,h1,h2⟩:=trodAll_three hA
    obtain⟨a0,r0,c0⟩:=MH (hval 0 _ v0 rfl rfl) h0 (kR hsz (j:=0) rfl rfl)
    obtain⟨a1,⟨r1,l1⟩,c1⟩:=Wv (hval 1 _ v1 rfl rfl) h1 (kR hsz (j:=1) rfl rfl)
    obtain⟨a2,n2,c2⟩:=Ls Tryz.underlying5 (hval 2 _ v2 rfl rfl) h2 (kR hsz (j:=2) rfl rfl)
    have r2:0≤a2∧a2≤255:=by simpa[Lit.wf,IntKind.min,IntKind.max,IntKind.signed,IntKind.bits]using n2
    exact Lr (CP a0 a1 a2 r0 r1 l1 r2) (args:=[v0,v1,v2]) (aI.cons c0 (aI.cons c1 (aI.cons c2 aI.nil)))))
#print axioms nodeStrange_proved
end
end Go.Proofs.YtimhagicagdkfaaGreat
