/-
  RecordAll is proved: which records may be, which bytes they are, and which ones any bytes begin with, as they are and sealed, is as the document says; no condition.
-/
import Derived.Test.YtbmojelnkldecaaOpenR
import Derived.Test.YtbmojelnkldecaaRefL
namespace Go.Proofs.Ytbmojelnkldecaa
open Go.ChangeShapes Go.WideShapes Go.ChangeAt Go.RowKit

set_option maxRecDepth 100000 in
theorem recordAll_proved : Rows.RecordAllSaid :=
  OpenClaim.holds_of_wide 12 Try.f12 rfl rfl rfl rfl rfl rfl rfl ⟨rfl, rfl, rfl, rfl, rfl⟩ rfl rfl rfl rfl rfl (by kernel_rfl) Try.func12 (by kernel_rfl)
    (of_decide_eq_true (by kernel_rfl)) (by unfold Func.isWrapper; first | (rw [if_pos (by decide +kernel)]; kernel_rfl) | (rw [if_neg (by decide +kernel)]; exact ⟨rfl, rfl⟩))
    (fun os started H enc _ => law_lifted os started 12 Try.f12 Rows.recordAllSpec rfl (by kernel_rfl) Try.func12 rfl
      (by rw [Try.params12]; intro t ht; simp at ht; rcases ht with rfl | rfl <;> exact ⟨by kernel_rfl, of_decide_eq_true (by kernel_rfl)⟩)
      (fun ds h => match ds, h with | [_, _], _ => rfl)
      (ChangeSpec.witness6 (enc := enc) (C := Try.checked) false ⟨#[], #[.agg #[.int .i64 0, .int .i64 0, .int .i64 0, .int .i64 0, .int .i64 0, .int .i64 0, .int .i64 0, .int .i64 0, .slice none 0 0], .slice none 0 0], []⟩ 8 (by kernel_rfl) (by kernel_rfl) (by kernel_rfl) (by kernel_rfl))
      (fun W base args ds p hval hA hsz => by
        rw [Try.params12] at hval hA hsz
        obtain ⟨v0, v1, d0, d1, p0, p1, rfl, rfl, rfl, h0, h1⟩ := trodAll_two hA
        obtain ⟨a0, ⟨r0, l0⟩, c0⟩ := arg_rec (hval 0 _ v0 rfl rfl) h0 (weights_at hsz (j := 0) rfl rfl)
        obtain ⟨a1, _, c1⟩ := arg_bytes (hval 1 _ v1 rfl rfl) h1 (weights_at hsz (j := 1) rfl rfl)
        exact walk_of (rcAll_spec a0 a1 r0 l0) (args := [v0, v1]) (All2.cons c0 (All2.cons c1 All2.nil))))

#print axioms recordAll_proved
end Go.Proofs.Ytbmojelnkldecaa
