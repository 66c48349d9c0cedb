/-
  LiveOrders: in two orders in which what is below comes first the same events make the same list, byte by byte, and as much is kept.
-/
import Derived.Test.YtkkpfjifkjbndaaGreatLOrds18
import Derived.Test.YtkkpfjifkjbndaaGreatLOrds4
namespace Go.Proofs.YtkkpfjifkjbndaaGreat
open Go.ChangeShapes Go.WideShapes Go.ChangeAt Go.RowKit

set_option maxRecDepth 100000 in
theorem liveOrders_proved : Rows.LiveOrdersSaid :=
  OpenClaim.holds_of_wide 6 Tryz.f6 rfl rfl rfl rfl rfl rfl rfl ⟨rfl, rfl, rfl, rfl, rfl⟩ rfl rfl rfl rfl rfl (by kernel_rfl) Tryz.func6 (by kernel_rfl)
    (of_decide_eq_true (by kernel_rfl)) (by unfold Func.isWrapper; first | (rw [if_pos (by decide +kernel)]; kernel_rfl) | (rw [if_neg (by decide +kernel)]; exact ⟨rfl, rfl⟩))
    (fun os started H enc _ => law_lifted os started 6 Tryz.f6 Rows.liveOrdersSpec rfl (by kernel_rfl) Tryz.func6 rfl
      (by rw [Tryz.params6]; intro t ht; simp at ht; rcases ht with rfl | rfl | rfl <;> exact ⟨by kernel_rfl, of_decide_eq_true (by kernel_rfl)⟩)
      (fun ds h => match ds, h with | [_, _, _], _ => rfl)
      (ChangeSpec.witness6 (enc := enc) (C := Tryz.checked) false ⟨#[], #[.slice none 0 0, .slice none 0 0, .slice none 0 0], []⟩ 8 (by kernel_rfl) (by kernel_rfl) (by kernel_rfl) (by kernel_rfl))
      (fun W base args ds p hval hA hsz => by
        rw [Tryz.params6] at hval hA hsz
        obtain ⟨v0, v1, v2, d0, d1, d2, p0, p1, p2, rfl, rfl, rfl, h0, h1, h2⟩ := trodAll_three hA
        obtain ⟨a0, r0, l0, c0⟩ := arg_choices (hval 0 _ v0 rfl rfl) h0 (weights_at hsz (j := 0) rfl rfl)
        obtain ⟨a1, r1, c1⟩ := arg_bytes (hval 1 _ v1 rfl rfl) h1 (weights_at hsz (j := 1) rfl rfl)
        obtain ⟨a2, r2, c2⟩ := arg_bytes (hval 2 _ v2 rfl rfl) h2 (weights_at hsz (j := 2) rfl rfl)
        exact walk_of (orders_true a0 a1 a2 r0 r1 r2) (args := [v0, v1, v2]) (All2.cons c0 (All2.cons c1 (All2.cons c2 All2.nil)))))

#print axioms liveOrders_proved
end Go.Proofs.YtkkpfjifkjbndaaGreat
