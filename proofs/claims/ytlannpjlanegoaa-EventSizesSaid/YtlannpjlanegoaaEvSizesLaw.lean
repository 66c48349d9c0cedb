/-
  EventSizes is proved: for every event, the event made of it is put as kind, replica, its numbers at seven bits a byte, and its texts; no condition.
-/
import Derived.Test.YtlannpjlanegoaaFrame
import Derived.Test.YtlannpjlanegoaaEvSizes
namespace Go.Proofs.Ytlannpjlanegoaa
open Go.ChangeShapes Go.WideShapes Go.ChangeAt Go.RowKit

theorem eventSizes_proved : Rows.EventSizesSaid :=
  OpenClaim.holds_of_wide 3 Try.f3 rfl rfl rfl rfl rfl rfl rfl ⟨rfl, rfl, rfl, rfl, rfl⟩ rfl rfl rfl rfl rfl (by kernel_rfl) Try.func3 (by kernel_rfl)
    (of_decide_eq_true (by kernel_rfl)) (by unfold Func.isWrapper; first | (rw [if_pos (by decide +kernel)]; kernel_rfl) | (rw [if_neg (by decide +kernel)]; exact ⟨rfl, rfl⟩))
    (fun os started H enc _ => law_lifted os started 3 Try.f3 Rows.eventSizesSpec rfl (by kernel_rfl) Try.func3 rfl
      (by rw [Try.params3]; intro t ht; simp at ht; subst ht; exact ⟨by kernel_rfl, of_decide_eq_true (by kernel_rfl)⟩)
      (fun ds h => match ds, h with | [_], _ => rfl)
      (ChangeSpec.witness6 (enc := enc) (C := Try.checked) false ⟨#[], #[Ev.val ⟨0, 0, ⟨0, 0, 0, 0, 0⟩, 0, 0, ⟨#[]⟩, 0, ⟨#[]⟩⟩], []⟩ 8 (by kernel_rfl) (by kernel_rfl) (by kernel_rfl) (by kernel_rfl))
      (fun W base args ds p hval hA hsz => by
        rw [Try.params3] at hval hA hsz
        obtain ⟨v0, d0, rfl, rfl, h0⟩ := trodAll_one hA
        obtain ⟨e, rfl, rfl⟩ := open_ev (hval 0 _ v0 rfl rfl) h0
        obtain ⟨hk, hv⟩ := ev_weights (weights_at hsz (j := 0) rfl rfl)
        exact sizes_any e W hk hv))

#print axioms eventSizes_proved
end Go.Proofs.Ytlannpjlanegoaa
