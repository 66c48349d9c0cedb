/-
 NodeCuts is proved:a write of any kind that is cut counts just if all of its bytes are kept;the replica is down then,and answers nothing;and behind the restart it lists what counts;no condition.
-/
import Derived.Test.YtimhagicagdkfaaGreatNh29
set_option maxHeartbeats 16000000
set_option maxRecDepth 100000
set_option linter.unusedVariables false
set_option linter.unusedSimpArgs false
namespace Go.Proofs.YtimhagicagdkfaaGreat
section
open Go.ChangeShapes Go.WideShapes Go.ChangeAt Go.RowKit
theorem nodeCuts_proved:Rows.NodeCutsSaid:=
 OpenClaim.holds_of_wide 7 Tryz.f7 rfl rfl rfl rfl rfl rfl rfl ⟨rfl,rfl,rfl,rfl,rfl⟩ rfl rfl rfl rfl rfl (by kernel_rfl) Tryz.func7 (by kernel_rfl)
  (of_decide_eq_true (by kernel_rfl)) (by unfold Func.isWrapper;first|(rw[if_pos (by decide+kernel)];kernel_rfl)|(rw[if_neg (by decide+kernel)];exact⟨rfl,rfl⟩))
  (fun os started H enc _=>law_lifted os started 7 Tryz.f7 Rows.nodeCutsSpec rfl (by kernel_rfl) Tryz.func7 rfl
   (by rw[Tryz.params7];intro t ht;simp at ht;rcases ht with rfl|rfl|rfl<;>exact⟨by kernel_rfl,of_decide_eq_true (by kernel_rfl)⟩)
   (fun ds h=>match ds,h with|[_,_,_],_=>rfl)
   (ChangeSpec.witness6 (enc:=enc) (C:=Tryz.checked) false ⟨#[], #[.slice none 0 0,.int .u8 0,.int .u8 0],[]⟩ 8 (by kernel_rfl) (by kernel_rfl) (by kernel_rfl) (by kernel_rfl))
   (fun W base args ds p hval hA hsz=>by
    rw[Tryz.params7]at hval hA hsz
    obtain⟨v0,v1,v2,d0,d1,d2,p0,p1,p2,rfl,rfl,rfl,h0,h1,h2⟩:=trodAll_three hA
    obtain⟨a0,r0,l0,c0⟩:=Xg (hval 0 _ v0 rfl rfl) h0 (zH hsz (j:=0) rfl rfl)
    obtain⟨a1,n1,c1⟩:=Ua Tryz.underlying5 (hval 1 _ v1 rfl rfl) h1 (zH hsz (j:=1) rfl rfl)
    have r1:0≤a1∧a1≤255:=by simpa[Lit.wf,IntKind.min,IntKind.max,IntKind.signed,IntKind.bits]using n1
    obtain⟨a2,n2,c2⟩:=Ua Tryz.underlying5 (hval 2 _ v2 rfl rfl) h2 (zH hsz (j:=2) rfl rfl)
    have r2:0≤a2∧a2≤255:=by simpa[Lit.wf,IntKind.min,IntKind.max,IntKind.signed,IntKind.bits]using n2
    exact aaZ (Jk a0 a1 a2 r0 l0 r1 r2) (args:=[v0,v1,v2]) (aI.cons c0 (aI.cons c1 (aI.cons c2 aI.nil)))))
#print axioms nodeCuts_proved
end
end Go.Proofs.YtimhagicagdkfaaGreat
