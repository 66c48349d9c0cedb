/-
  EventOdd is proved: for every event and every byte; no condition.
-/
import Derived.Test.YtlannpjlanegoaaFrame
import Derived.Test.YtlannpjlanegoaaEvOdd
namespace Go.Proofs.Ytlannpjlanegoaa
open Go.ChangeShapes Go.WideShapes Go.ChangeAt Go.RowKit

theorem eventOdd_proved : Rows.EventOddSaid :=
  OpenClaim.holds_of_wide 4 Try.f4 rfl rfl rfl rfl rfl rfl rfl ⟨rfl, rfl, rfl, rfl, rfl⟩ rfl rfl rfl rfl rfl (by kernel_rfl) Try.func4 (by kernel_rfl)
    (of_decide_eq_true (by kernel_rfl)) (by unfold Func.isWrapper; first | (rw [if_pos (by decide +kernel)]; kernel_rfl) | (rw [if_neg (by decide +kernel)]; exact ⟨rfl, rfl⟩))
    (fun os started H enc _ => law_lifted os started 4 Try.f4 Rows.eventOddSpec rfl (by kernel_rfl) Try.func4 rfl
      (by rw [Try.params4]; intro t ht; simp at ht; rcases ht with rfl | rfl <;> exact ⟨by kernel_rfl, of_decide_eq_true (by kernel_rfl)⟩)
      (fun ds h => match ds, h with | [_, _], _ => rfl)
      (ChangeSpec.witness6 (enc := enc) (C := Try.checked) false ⟨#[], #[Ev.val ⟨0, 0, ⟨0, 0, 0, 0, 0⟩, 0, 0, ⟨#[]⟩, 0, ⟨#[]⟩⟩, .int .u8 0], []⟩ 8 (by kernel_rfl) (by kernel_rfl) (by kernel_rfl) (by kernel_rfl))
      (fun W base args ds p hval hA hsz => by
        rw [Try.params4] at hval hA hsz
        obtain ⟨v0, v1, d0, d1, p0, p1, rfl, rfl, rfl, h0, h1⟩ := trodAll_two hA
        obtain ⟨e, rfl, rfl⟩ := open_ev (hval 0 _ v0 rfl rfl) h0
        obtain ⟨n, rfl, rfl, rfl, hr⟩ := open_int Try.underlying5 (hval 1 _ v1 rfl rfl) h1
        obtain ⟨hk, hv⟩ := ev_weights (weights_at hsz (j := 0) rfl rfl)
        have hz : IntKind.u8.min = 0 := by decide
        have hn : 0 ≤ n := by simp [Lit.wf] at hr; omega
        exact odd_any e n W hk hv hn))

#print axioms eventOdd_proved
end Go.Proofs.Ytlannpjlanegoaa
