/-
 NodeSends is proved:which frames a replica sends:its own events that the hub is not known to have,the first ones of them,no more at once than may be;and what it has;and that as many are not sent any more as it is told;no condition.
-/
import Derived.Test.YtimhagicagdkfaaGreatNi29
set_option maxHeartbeats 16000000
set_option maxRecDepth 100000
set_option linter.unusedVariables false
set_option linter.unusedSimpArgs false
namespace Go.Proofs.YtimhagicagdkfaaGreat
section
open Go.ChangeShapes Go.WideShapes Go.ChangeAt Go.RowKit
theorem nodeSends_proved:Rows.NodeSendsSaid:=
 OpenClaim.holds_of_wide 6 Tryz.f6 rfl rfl rfl rfl rfl rfl rfl ⟨rfl,rfl,rfl,rfl,rfl⟩ rfl rfl rfl rfl rfl (by kernel_rfl) Tryz.func6 (by kernel_rfl)
  (of_decide_eq_true (by kernel_rfl)) (by unfold Func.isWrapper;first|(rw[if_pos (by decide+kernel)];kernel_rfl)|(rw[if_neg (by decide+kernel)];exact⟨rfl,rfl⟩))
  (fun os started H enc _=>law_lifted os started 6 Tryz.f6 Rows.nodeSendsSpec rfl (by kernel_rfl) Tryz.func6 rfl
   (by rw[Tryz.params6];intro t ht;simp at ht;rcases ht with rfl|rfl|rfl<;>exact⟨by kernel_rfl,of_decide_eq_true (by kernel_rfl)⟩)
   (fun ds h=>match ds,h with|[_,_,_],_=>rfl)
   (ChangeSpec.witness6 (enc:=enc) (C:=Tryz.checked) false ⟨#[], #[.agg #[.int .i64 0,.int .i64 0,.int .i64 0,.int .i64 0,.int .i64 0,.int .i64 0],.slice none 0 0,.int .u16 0],[]⟩ 8 (by kernel_rfl) (by kernel_rfl) (by kernel_rfl) (by kernel_rfl))
   (fun W base args ds p hval hA hsz=>by
    rw[Tryz.params6]at hval hA hsz
    obtain⟨v0,v1,v2,d0,d1,d2,p0,p1,p2,rfl,rfl,rfl,h0,h1,h2⟩:=trodAll_three hA
    obtain⟨a0,r0,c0⟩:=abx (hval 0 _ v0 rfl rfl) h0 (zh hsz (j:=0) rfl rfl)
    obtain⟨a1,r1,l1,c1⟩:=Ws (hval 1 _ v1 rfl rfl) h1 (zh hsz (j:=1) rfl rfl)
    obtain⟨a2,n2,c2⟩:=aav Tryz.underlying54 (hval 2 _ v2 rfl rfl) h2 (zh hsz (j:=2) rfl rfl)
    have r2:0≤a2∧a2≤65535:=by simpa[Lit.wf,IntKind.min,IntKind.max,IntKind.signed,IntKind.bits]using n2
    exact aau (Ho a0 a1 a2 r0 r1 l1 r2) (args:=[v0,v1,v2]) (aF.cons c0 (aF.cons c1 (aF.cons c2 aF.nil)))))
#print axioms nodeSends_proved
end
end Go.Proofs.YtimhagicagdkfaaGreat
