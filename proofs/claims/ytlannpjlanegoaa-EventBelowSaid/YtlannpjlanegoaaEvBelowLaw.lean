/-
  EventBelow is proved: for every two events; no condition.
-/
import Derived.Test.YtlannpjlanegoaaFrame
import Derived.Test.YtlannpjlanegoaaEvBelow
namespace Go.Proofs.Ytlannpjlanegoaa
open Go.ChangeShapes Go.WideShapes Go.ChangeAt Go.RowKit

theorem eventBelow_proved : Rows.EventBelowSaid :=
  OpenClaim.holds_of_wide 5 Try.f5 rfl rfl rfl rfl rfl rfl rfl ⟨rfl, rfl, rfl, rfl, rfl⟩ rfl rfl rfl rfl rfl (by kernel_rfl) Try.func5 (by kernel_rfl)
    (of_decide_eq_true (by kernel_rfl)) (by unfold Func.isWrapper; first | (rw [if_pos (by decide +kernel)]; kernel_rfl) | (rw [if_neg (by decide +kernel)]; exact ⟨rfl, rfl⟩))
    (fun os started H enc _ => law_lifted os started 5 Try.f5 Rows.eventBelowSpec rfl (by kernel_rfl) Try.func5 rfl
      (by rw [Try.params5]; intro t ht; simp at ht; subst ht; exact ⟨by kernel_rfl, of_decide_eq_true (by kernel_rfl)⟩)
      (fun ds h => match ds, h with | [_, _], _ => rfl)
      (ChangeSpec.witness6 (enc := enc) (C := Try.checked) false ⟨#[], #[Ev.val ⟨0, 0, ⟨0, 0, 0, 0, 0⟩, 0, 0, ⟨#[]⟩, 0, ⟨#[]⟩⟩, Ev.val ⟨0, 0, ⟨0, 0, 0, 0, 0⟩, 0, 0, ⟨#[]⟩, 0, ⟨#[]⟩⟩], []⟩ 8 (by kernel_rfl) (by kernel_rfl) (by kernel_rfl) (by kernel_rfl))
      (fun W base args ds p hval hA hsz => by
        rw [Try.params5] at hval hA hsz
        obtain ⟨v0, v1, d0, d1, p0, p1, rfl, rfl, rfl, h0, h1⟩ := trodAll_two hA
        obtain ⟨e, rfl, rfl⟩ := open_ev (hval 0 _ v0 rfl rfl) h0
        obtain ⟨f, rfl, rfl⟩ := open_ev (hval 1 _ v1 rfl rfl) h1
        obtain ⟨hk, hv⟩ := ev_weights (weights_at hsz (j := 0) rfl rfl)
        obtain ⟨hk', hv'⟩ := ev_weights (weights_at hsz (j := 1) rfl rfl)
        exact below_law e f W hk hv hk' hv'))

#print axioms eventBelow_proved
end Go.Proofs.Ytlannpjlanegoaa
