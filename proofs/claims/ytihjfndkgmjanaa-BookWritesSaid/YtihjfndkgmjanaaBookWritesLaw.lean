/-
  BookWrites: of writes of one field the highest one is shown, and of these that of the greatest replica.
-/
import Derived.Test.YtihjfndkgmjanaaBkQ
import Derived.Test.YtihjfndkgmjanaaBkY
namespace Go.Proofs.Ytihjfndkgmjanaa
open Go.ChangeShapes Go.WideShapes Go.ChangeAt Go.RowKit

set_option maxRecDepth 100000 in
theorem bookWrites_proved : Rows.BookWritesSaid :=
  OpenClaim.holds_of_wide 4 Try.f4 rfl rfl rfl rfl rfl rfl rfl ⟨rfl, rfl, rfl, rfl, rfl⟩ rfl rfl rfl rfl rfl (by kernel_rfl) Try.func4 (by kernel_rfl)
    (of_decide_eq_true (by kernel_rfl)) (by unfold Func.isWrapper; first | (rw [if_pos (by decide +kernel)]; kernel_rfl) | (rw [if_neg (by decide +kernel)]; exact ⟨rfl, rfl⟩))
    (fun os started H enc _ => law_lifted os started 4 Try.f4 Rows.bookWritesSpec rfl (by kernel_rfl) Try.func4 rfl
      (by rw [Try.params4]; intro t ht; simp at ht; subst ht; exact ⟨by kernel_rfl, of_decide_eq_true (by kernel_rfl)⟩)
      (fun ds h => match ds, h with | [_], _ => rfl)
      (ChangeSpec.witness6 (enc := enc) (C := Try.checked) false ⟨#[], #[.agg #[.int .u8 0, .int .u8 0, .int .u8 0, .int .u8 0, .int .u8 0]], []⟩ 8 (by kernel_rfl) (by kernel_rfl) (by kernel_rfl) (by kernel_rfl))
      (fun W base args ds p hval hA hsz => by
        rw [Try.params4] at hval hA hsz
        obtain ⟨v0, d0, rfl, rfl, h0⟩ := trodAll_one hA
        obtain ⟨x0, x1, x2, x3, x4, r0, c0⟩ := arg_arr5 (hval 0 _ v0 rfl rfl) h0 (weights_at hsz (j := 0) rfl rfl)
        exact walk_of (writes_true x0 x1 x2 x3 x4 r0) (args := [v0]) (All2.cons c0 All2.nil)))

#print axioms bookWrites_proved
end Go.Proofs.Ytihjfndkgmjanaa
