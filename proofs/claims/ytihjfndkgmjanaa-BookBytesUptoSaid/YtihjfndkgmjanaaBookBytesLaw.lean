/-
  BookBytes, where what comes in is of bulk 1048576 at most: unlike contacts have unlike bytes, and those of none are none.
-/
import Derived.Test.YtihjfndkgmjanaaBkN
import Derived.Test.YtihjfndkgmjanaaBkN1
namespace Go.Proofs.Ytihjfndkgmjanaa
open Go.ChangeShapes Go.WideShapes Go.ChangeAt Go.RowKit

set_option maxRecDepth 100000 in
theorem bookBytes_proved : Rows.BookBytesUptoSaid :=
  OpenClaim.holds_of_cond 3 Try.f3 rfl rfl rfl rfl rfl rfl rfl ⟨rfl, rfl, rfl, rfl, rfl⟩ rfl rfl rfl rfl rfl (by kernel_rfl) Try.func3 (by kernel_rfl)
    (of_decide_eq_true (by kernel_rfl)) (by unfold Func.isWrapper; first | (rw [if_pos (by decide +kernel)]; kernel_rfl) | (rw [if_neg (by decide +kernel)]; exact ⟨rfl, rfl⟩))
    (fun os started H enc _ F => law_upto os started 3 Try.f3 Rows.bookBytesSpec F rfl (by kernel_rfl) Try.func3 rfl
      (by rw [Try.params3]; intro t ht; simp at ht; subst ht; exact ⟨by kernel_rfl, of_decide_eq_true (by kernel_rfl)⟩)
      (fun ds h => match ds, h with | [_, _], _ => rfl)
      (OpenSpec.witness (enc := enc) (C := Try.checked) (s := Rows.OpenSpec.upto Rows.bookBytesSpec) (k := Rows.uptoSmall) rfl false ⟨#[], #[.slice none 0 0, .slice none 0 0], []⟩ 8 (by kernel_rfl) (by kernel_rfl) (by kernel_rfl) (x := ([.nil, .nil], [], [])) (by kernel_rfl) rfl (by kernel_rfl))
      (fun W base args ds p hval hA hk => by
        rw [Try.params3] at hval hA
        obtain ⟨v0, v1, d0, d1, p0, p1, rfl, rfl, rfl, h0, h1⟩ := trodAll_two hA
        simp only [Rows.uptoBulkAll] at hk
        obtain ⟨a0, r0, c0⟩ := argn_conts (hval 0 _ v0 rfl rfl) h0
        obtain ⟨a1, r1, c1⟩ := argn_conts (hval 1 _ v1 rfl rfl) h1
        exact walk_of (bookBytes_true a0 a1 (by omega) (by omega)) (args := [v0, v1]) (All2.cons c0 (All2.cons c1 All2.nil))))

#print axioms bookBytes_proved
end Go.Proofs.Ytihjfndkgmjanaa
