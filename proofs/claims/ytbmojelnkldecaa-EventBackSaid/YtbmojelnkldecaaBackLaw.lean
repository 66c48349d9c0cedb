/-
  EventBack is proved: an event that was put is taken as it was, whatever stands behind it, and bytes that are taken are that event's; no condition.
-/
import Derived.Test.YtbmojelnkldecaaOpen
import Derived.Test.YtbmojelnkldecaaBack
namespace Go.Proofs.Ytbmojelnkldecaa
open Go.ChangeShapes Go.WideShapes Go.ChangeAt Go.RowKit

set_option maxRecDepth 100000 in
theorem eventBack_proved : Rows.EventBackSaid :=
  OpenClaim.holds_of_wide 3 Try.f3 rfl rfl rfl rfl rfl rfl rfl ⟨rfl, rfl, rfl, rfl, rfl⟩ rfl rfl rfl rfl rfl (by kernel_rfl) Try.func3 (by kernel_rfl)
    (of_decide_eq_true (by kernel_rfl)) (by unfold Func.isWrapper; first | (rw [if_pos (by decide +kernel)]; kernel_rfl) | (rw [if_neg (by decide +kernel)]; exact ⟨rfl, rfl⟩))
    (fun os started H enc _ => law_lifted os started 3 Try.f3 Rows.eventBackSpec rfl (by kernel_rfl) Try.func3 rfl
      (by rw [Try.params3]; intro t ht; simp at ht; rcases ht with rfl | rfl | rfl <;> exact ⟨by kernel_rfl, of_decide_eq_true (by kernel_rfl)⟩)
      (fun ds h => match ds, h with | [_, _, _], _ => rfl)
      (ChangeSpec.witness6 (enc := enc) (C := Try.checked) false ⟨#[], #[.agg #[.int .i64 0, .int .i64 0, .int .i64 0, .int .i64 0, .int .i64 0, .int .i64 0, .int .i64 0, .int .i64 0, .int .i64 0, .string ⟨#[]⟩, .int .i64 0, .string ⟨#[]⟩], .slice none 0 0, .slice none 0 0], []⟩ 8 (by kernel_rfl) (by kernel_rfl) (by kernel_rfl) (by kernel_rfl))
      (fun W base args ds p hval hA hsz => by
        rw [Try.params3] at hval hA hsz
        obtain ⟨v0, v1, v2, d0, d1, d2, p0, p1, p2, rfl, rfl, rfl, h0, h1, h2⟩ := trodAll_three hA
        obtain ⟨a, ⟨hk, hv⟩, c0⟩ := arg_ev (hval 0 _ v0 rfl rfl) h0 (weights_at hsz (j := 0) rfl rfl)
        obtain ⟨b, _, c1⟩ := arg_bytes (hval 1 _ v1 rfl rfl) h1 (weights_at hsz (j := 1) rfl rfl)
        obtain ⟨l, _, c2⟩ := arg_bytes (hval 2 _ v2 rfl rfl) h2 (weights_at hsz (j := 2) rfl rfl)
        exact walk_of (back_spec a b l hk hv) (args := [v0, v1, v2]) (All2.cons c0 (All2.cons c1 (All2.cons c2 All2.nil)))))

#print axioms eventBack_proved
end Go.Proofs.Ytbmojelnkldecaa
