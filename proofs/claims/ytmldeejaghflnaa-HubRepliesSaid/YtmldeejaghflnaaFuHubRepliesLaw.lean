/-
 HubReplies is proved: each frame is answered as it must be,and to push the same once more is answered the same; no condition.
-/
import Derived.Test.YtmldeejaghflnaaFu21
namespace Go.Proofs.Ytmldeejaghflnaa
open Go.ChangeShapes Go.WideShapes Go.ChangeAt Go.RowKit
set_option maxRecDepth 100000 in
theorem hubReplies_proved : Rows.HubRepliesSaid :=
 OpenClaim.holds_of_wide 4 Try.f4 rfl rfl rfl rfl rfl rfl rfl ⟨rfl,rfl,rfl,rfl,rfl⟩ rfl rfl rfl rfl rfl (by kernel_rfl) Try.func4 (by kernel_rfl)
  (of_decide_eq_true (by kernel_rfl)) (by unfold Func.isWrapper; first | (rw [if_pos (by decide +kernel)]; kernel_rfl) | (rw [if_neg (by decide +kernel)]; exact ⟨rfl,rfl⟩))
  (fun os started H enc _ => law_lifted os started 4 Try.f4 Rows.hubRepliesSpec rfl (by kernel_rfl) Try.func4 rfl
   (by rw [Try.params4]; intro t ht; simp at ht; rcases ht with rfl | rfl <;> exact ⟨by kernel_rfl,of_decide_eq_true (by kernel_rfl)⟩)
   (fun ds h => match ds,h with | [_,_],_ => rfl)
   (ChangeSpec.witness6 (enc := enc) (C := Try.checked) false ⟨#[],#[.agg #[.int .i64 0, .int .i64 0, .int .i64 0, .int .i64 0, .int .i64 0, .int .i64 0], .agg #[.int .u8 0, .int .u8 0]],[]⟩ 8 (by kernel_rfl) (by kernel_rfl) (by kernel_rfl) (by kernel_rfl))
   (fun W base args ds p hval hA hsz => by
    rw [Try.params4] at hval hA hsz
    obtain ⟨v0,v1,d0,d1,p0,p1,rfl,rfl,rfl,h0,h1⟩ := trodAll_two hA
    obtain ⟨a0,r0,c0⟩ := arg_cfg (hval 0 _ v0 rfl rfl) h0 (weights_at hsz (j := 0) rfl rfl)
    obtain ⟨a1,b1,p1,q1,c1⟩ := arg_u8x2 (hval 1 _ v1 rfl rfl) h1 (weights_at hsz (j := 1) rfl rfl)
    exact walk_of (hubReplies_spec a0 a1 b1 r0 p1 q1) (args := [v0,v1]) (All2.cons c0 (All2.cons c1 All2.nil))))
#print axioms hubReplies_proved
end Go.Proofs.Ytmldeejaghflnaa
