/-
 NodeEdits is proved:the edits that succeed here are numbered,and rise,one by one,each having seen all ahead of it;one that does not changes nothing;and no more succeed than may wait to be sent;no condition.
-/
import Derived.Test.YtimhagicagdkfaaGreatNf27
set_option linter.unusedVariables false
set_option linter.unusedSimpArgs false
set_option maxHeartbeats 16000000
set_option maxRecDepth 100000
namespace Go.Proofs.YtimhagicagdkfaaGreat
section
open Go.ChangeShapes Go.WideShapes Go.ChangeAt Go.RowKit
theorem nodeEdits_proved:Rows.NodeEditsSaid:=
 OpenClaim.holds_of_wide 4 Tryz.f4 rfl rfl rfl rfl rfl rfl rfl ⟨rfl,rfl,rfl,rfl,rfl⟩ rfl rfl rfl rfl rfl (by kernel_rfl) Tryz.func4 (by kernel_rfl)
  (of_decide_eq_true (by kernel_rfl)) (by unfold Func.isWrapper;first|(rw[if_pos (by decide+kernel)];kernel_rfl)|(rw[if_neg (by decide+kernel)];exact⟨rfl,rfl⟩))
  (fun os started H enc _=>law_lifted os started 4 Tryz.f4 Rows.nodeEditsSpec rfl (by kernel_rfl) Tryz.func4 rfl
   (by rw[Tryz.params4];intro t ht;simp at ht;rcases ht with rfl|rfl|rfl<;>exact⟨by kernel_rfl,of_decide_eq_true (by kernel_rfl)⟩)
   (fun ds h=>match ds,h with|[_,_,_],_=>rfl)
   (ChangeSpec.witness6 (enc:=enc) (C:=Tryz.checked) false ⟨#[], #[.agg #[.int .i64 0,.int .i64 0,.int .i64 0,.int .i64 0,.int .i64 0,.int .i64 0],.int .u8 0,.slice none 0 0],[]⟩ 8 (by kernel_rfl) (by kernel_rfl) (by kernel_rfl) (by kernel_rfl))
   (fun W base args ds p hval hA hsz=>by
    rw[Tryz.params4]at hval hA hsz
    obtain⟨v0,v1,v2,d0,d1,d2,p0,p1,p2,rfl,rfl,rfl,h0,h1,h2⟩:=trodAll_three hA
    obtain⟨a0,r0,c0⟩:=MH (hval 0 _ v0 rfl rfl) h0 (kR hsz (j:=0) rfl rfl)
    obtain⟨a1,n1,c1⟩:=Ls Tryz.underlying5 (hval 1 _ v1 rfl rfl) h1 (kR hsz (j:=1) rfl rfl)
    have r1:0≤a1∧a1≤255:=by simpa[Lit.wf,IntKind.min,IntKind.max,IntKind.signed,IntKind.bits]using n1
    obtain⟨a2,r2,l2,c2⟩:=V8 (hval 2 _ v2 rfl rfl) h2 (kR hsz (j:=2) rfl rfl)
    exact Lr (Ho a0 a1 a2 r0 r1 r2 l2) (args:=[v0,v1,v2]) (aI.cons c0 (aI.cons c1 (aI.cons c2 aI.nil)))))
#print axioms nodeEdits_proved
end
end Go.Proofs.YtimhagicagdkfaaGreat
