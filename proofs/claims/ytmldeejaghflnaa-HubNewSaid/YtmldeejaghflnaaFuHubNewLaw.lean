/-
 HubNew is proved: there is a hub just of a config that may be; no condition.
-/
import Derived.Test.YtmldeejaghflnaaFu20
namespace Go.Proofs.Ytmldeejaghflnaa
open Go.ChangeShapes Go.WideShapes Go.ChangeAt Go.RowKit
set_option maxRecDepth 100000 in
theorem hubNew_proved : Rows.HubNewSaid :=
 OpenClaim.holds_of_wide 3 Try.f3 rfl rfl rfl rfl rfl rfl rfl ⟨rfl,rfl,rfl,rfl,rfl⟩ rfl rfl rfl rfl rfl (by kernel_rfl) Try.func3 (by kernel_rfl)
  (of_decide_eq_true (by kernel_rfl)) (by unfold Func.isWrapper; first | (rw [if_pos (by decide +kernel)]; kernel_rfl) | (rw [if_neg (by decide +kernel)]; exact ⟨rfl,rfl⟩))
  (fun os started H enc _ => law_lifted os started 3 Try.f3 Rows.hubNewSpec rfl (by kernel_rfl) Try.func3 rfl
   (by rw [Try.params3]; intro t ht; simp at ht; subst ht; exact ⟨by kernel_rfl,of_decide_eq_true (by kernel_rfl)⟩)
   (fun ds h => match ds,h with | [_],_ => rfl)
   (ChangeSpec.witness6 (enc := enc) (C := Try.checked) false ⟨#[],#[.agg #[.int .i64 0, .int .i64 0, .int .i64 0, .int .i64 0, .int .i64 0, .int .i64 0]],[]⟩ 8 (by kernel_rfl) (by kernel_rfl) (by kernel_rfl) (by kernel_rfl))
   (fun W base args ds p hval hA hsz => by
    rw [Try.params3] at hval hA hsz
    obtain ⟨v0,d0,rfl,rfl,h0⟩ := trodAll_one hA
    obtain ⟨a0,r0,c0⟩ := arg_cfg (hval 0 _ v0 rfl rfl) h0 (weights_at hsz (j := 0) rfl rfl)
    exact walk_of (hubNew_spec a0 r0) (args := [v0]) (All2.cons c0 All2.nil)))
#print axioms hubNew_proved
end Go.Proofs.Ytmldeejaghflnaa
