/-
 HubCuts is proved: a push,or what a replica tells,of which the write is cut counts just if all bytes are kept; nobody is answered,and the hub is down then; and behind the restart it has what counts; no condition.
-/
import Derived.Test.YtmldeejaghflnaaFu21
namespace Go.Proofs.Ytmldeejaghflnaa
open Go.ChangeShapes Go.WideShapes Go.ChangeAt Go.RowKit
set_option maxRecDepth 100000 in
theorem hubCuts_proved : Rows.HubCutsSaid :=
 OpenClaim.holds_of_wide 6 Try.f6 rfl rfl rfl rfl rfl rfl rfl ⟨rfl,rfl,rfl,rfl,rfl⟩ rfl rfl rfl rfl rfl (by kernel_rfl) Try.func6 (by kernel_rfl)
  (of_decide_eq_true (by kernel_rfl)) (by unfold Func.isWrapper; first | (rw [if_pos (by decide +kernel)]; kernel_rfl) | (rw [if_neg (by decide +kernel)]; exact ⟨rfl,rfl⟩))
  (fun os started H enc _ => law_lifted os started 6 Try.f6 Rows.hubCutsSpec rfl (by kernel_rfl) Try.func6 rfl
   (by rw [Try.params6]; intro t ht; simp at ht; rcases ht with rfl | rfl | rfl <;> exact ⟨by kernel_rfl,of_decide_eq_true (by kernel_rfl)⟩)
   (fun ds h => match ds,h with | [_,_,_],_ => rfl)
   (ChangeSpec.witness6 (enc := enc) (C := Try.checked) false ⟨#[],#[.agg #[.int .i64 0, .int .i64 0, .int .i64 0, .int .i64 0, .int .i64 0, .int .i64 0], .bool false, .int .u8 0],[]⟩ 8 (by kernel_rfl) (by kernel_rfl) (by kernel_rfl) (by kernel_rfl))
   (fun W base args ds p hval hA hsz => by
    rw [Try.params6] at hval hA hsz
    obtain ⟨v0,v1,v2,d0,d1,d2,p0,p1,p2,rfl,rfl,rfl,h0,h1,h2⟩ := trodAll_three hA
    obtain ⟨a0,r0,c0⟩ := arg_cfg (hval 0 _ v0 rfl rfl) h0 (weights_at hsz (j := 0) rfl rfl)
    obtain ⟨a1,c1⟩ := arg_bool (hval 1 _ v1 rfl rfl) h1 (weights_at hsz (j := 1) rfl rfl)
    obtain ⟨a2,n2,c2⟩ := arg_int Try.underlying5 (hval 2 _ v2 rfl rfl) h2 (weights_at hsz (j := 2) rfl rfl)
    have r2 : 0 ≤ a2 ∧ a2 ≤ 255 := by simpa [Lit.wf,IntKind.min,IntKind.max,IntKind.signed,IntKind.bits] using n2
    exact walk_of (hubCuts_spec a0 a1 a2 r0 r2) (args := [v0,v1,v2]) (All2.cons c0 (All2.cons c1 (All2.cons c2 All2.nil)))))
#print axioms hubCuts_proved
end Go.Proofs.Ytmldeejaghflnaa
