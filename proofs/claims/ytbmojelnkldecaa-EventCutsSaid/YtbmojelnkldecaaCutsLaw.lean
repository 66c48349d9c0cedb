/-
  EventCuts is proved: each beginning of an event's bytes is too short, and no event's bytes are the beginning of another one's; no condition.
-/
import Derived.Test.YtbmojelnkldecaaOpen
import Derived.Test.YtbmojelnkldecaaCuts
namespace Go.Proofs.Ytbmojelnkldecaa
open Go.ChangeShapes Go.WideShapes Go.ChangeAt Go.RowKit

set_option maxRecDepth 100000 in
theorem eventCuts_proved : Rows.EventCutsSaid :=
  OpenClaim.holds_of_wide 4 Try.f4 rfl rfl rfl rfl rfl rfl rfl ⟨rfl, rfl, rfl, rfl, rfl⟩ rfl rfl rfl rfl rfl (by kernel_rfl) Try.func4 (by kernel_rfl)
    (of_decide_eq_true (by kernel_rfl)) (by unfold Func.isWrapper; first | (rw [if_pos (by decide +kernel)]; kernel_rfl) | (rw [if_neg (by decide +kernel)]; exact ⟨rfl, rfl⟩))
    (fun os started H enc _ => law_lifted os started 4 Try.f4 Rows.eventCutsSpec rfl (by kernel_rfl) Try.func4 rfl
      (by rw [Try.params4]; intro t ht; simp at ht; subst ht; exact ⟨by kernel_rfl, of_decide_eq_true (by kernel_rfl)⟩)
      (fun ds h => match ds, h with | [_, _], _ => rfl)
      (ChangeSpec.witness6 (enc := enc) (C := Try.checked) false ⟨#[], #[.agg #[.int .i64 0, .int .i64 0, .int .i64 0, .int .i64 0, .int .i64 0, .int .i64 0, .int .i64 0, .int .i64 0, .int .i64 0, .string ⟨#[]⟩, .int .i64 0, .string ⟨#[]⟩], .agg #[.int .i64 0, .int .i64 0, .int .i64 0, .int .i64 0, .int .i64 0, .int .i64 0, .int .i64 0, .int .i64 0, .int .i64 0, .string ⟨#[]⟩, .int .i64 0, .string ⟨#[]⟩]], []⟩ 8 (by kernel_rfl) (by kernel_rfl) (by kernel_rfl) (by kernel_rfl))
      (fun W base args ds p hval hA hsz => by
        rw [Try.params4] at hval hA hsz
        obtain ⟨v0, v1, d0, d1, p0, p1, rfl, rfl, rfl, h0, h1⟩ := trodAll_two hA
        obtain ⟨a, ⟨hka, hva⟩, c0⟩ := arg_ev (hval 0 _ v0 rfl rfl) h0 (weights_at hsz (j := 0) rfl rfl)
        obtain ⟨b, ⟨hkb, hvb⟩, c1⟩ := arg_ev (hval 1 _ v1 rfl rfl) h1 (weights_at hsz (j := 1) rfl rfl)
        exact walk_of (cuts_spec a b hka hva hkb hvb) (args := [v0, v1]) (All2.cons c0 (All2.cons c1 All2.nil))))

#print axioms eventCuts_proved
end Go.Proofs.Ytbmojelnkldecaa
