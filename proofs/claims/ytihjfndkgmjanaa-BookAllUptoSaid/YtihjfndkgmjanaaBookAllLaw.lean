/-
  BookAll, where what comes in is of bulk 1048576 at most: what any events come to, how much there is to keep, and which bytes that is, is as the document says.
-/
import Derived.Test.YtihjfndkgmjanaaBa2
namespace Go.Proofs.Ytihjfndkgmjanaa
open Go.ChangeShapes Go.WideShapes Go.ChangeAt Go.RowKit

set_option maxRecDepth 100000 in
theorem bookAll_proved : Rows.BookAllUptoSaid :=
  OpenClaim.holds_of_cond 6 Try.f6 rfl rfl rfl rfl rfl rfl rfl ⟨rfl, rfl, rfl, rfl, rfl⟩ rfl rfl rfl rfl rfl (by kernel_rfl) Try.func6 (by kernel_rfl)
    (of_decide_eq_true (by kernel_rfl)) (by unfold Func.isWrapper; first | (rw [if_pos (by decide +kernel)]; kernel_rfl) | (rw [if_neg (by decide +kernel)]; exact ⟨rfl, rfl⟩))
    (fun os started H enc _ F => law_upto os started 6 Try.f6 Rows.bookAllSpec F rfl (by kernel_rfl) Try.func6 rfl
      (by rw [Try.params6]; intro t ht; simp at ht; subst ht; exact ⟨by kernel_rfl, of_decide_eq_true (by kernel_rfl)⟩)
      (fun ds h => match ds, h with | [_], _ => rfl)
      (OpenSpec.witness (enc := enc) (C := Try.checked) (s := Rows.OpenSpec.upto Rows.bookAllSpec) (k := Rows.uptoSmall) rfl false ⟨#[], #[.slice none 0 0], []⟩ 8 (by kernel_rfl) (by kernel_rfl) (by kernel_rfl) (x := ([.nil], [], [])) (by kernel_rfl) rfl (by kernel_rfl))
      (fun W base args ds p hval hA hk => by
        rw [Try.params6] at hval hA
        obtain ⟨v0, d0, rfl, rfl, h0⟩ := trodAll_one hA
        simp only [Rows.uptoBulkAll] at hk
        obtain ⟨a0, r0, c0⟩ := argn_evs (hval 0 _ v0 rfl rfl) h0
        exact walk_of (bookAll_true a0 (by omega)) (args := [v0]) (All2.cons c0 All2.nil)))

#print axioms bookAll_proved
end Go.Proofs.Ytihjfndkgmjanaa
