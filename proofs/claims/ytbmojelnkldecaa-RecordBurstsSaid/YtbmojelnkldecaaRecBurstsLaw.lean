/-
  RecordBursts is proved: with some bits of one record's sealed body turned, within 32 in a row, it is not read, nor is anything behind it, and all ahead of it are; no condition.
-/
import Derived.Test.YtbmojelnkldecaaOpenT
import Derived.Test.YtbmojelnkldecaaRecB
namespace Go.Proofs.Ytbmojelnkldecaa
open Go.ChangeShapes Go.WideShapes Go.ChangeAt Go.RowKit

set_option maxRecDepth 100000 in
theorem recordBursts_proved : Rows.RecordBurstsSaid :=
  OpenClaim.holds_of_wide 14 Try.f14 rfl rfl rfl rfl rfl rfl rfl ⟨rfl, rfl, rfl, rfl, rfl⟩ rfl rfl rfl rfl rfl (by kernel_rfl) Try.func14 (by kernel_rfl)
    (of_decide_eq_true (by kernel_rfl)) (by unfold Func.isWrapper; first | (rw [if_pos (by decide +kernel)]; kernel_rfl) | (rw [if_neg (by decide +kernel)]; exact ⟨rfl, rfl⟩))
    (fun os started H enc _ => law_lifted os started 14 Try.f14 Rows.recordBurstsSpec rfl (by kernel_rfl) Try.func14 rfl
      (by rw [Try.params14]; intro t ht; simp at ht; rcases ht with rfl | rfl | rfl <;> exact ⟨by kernel_rfl, of_decide_eq_true (by kernel_rfl)⟩)
      (fun ds h => match ds, h with | [_, _, _], _ => rfl)
      (ChangeSpec.witness6 (enc := enc) (C := Try.checked) false ⟨#[], #[.slice none 0 0, .agg #[.int .u16 0, .int .u16 0], .int .u32 0], []⟩ 8 (by kernel_rfl) (by kernel_rfl) (by kernel_rfl) (by kernel_rfl))
      (fun W base args ds p hval hA hsz => by
        rw [Try.params14] at hval hA hsz
        obtain ⟨v0, v1, v2, d0, d1, d2, p0, p1, p2, rfl, rfl, rfl, h0, h1, h2⟩ := trodAll_three hA
        obtain ⟨a0, r0, l0, c0⟩ := arg_recs (hval 0 _ v0 rfl rfl) h0 (weights_at hsz (j := 0) rfl rfl)
        obtain ⟨a1, b1, h1a, h1b, c1⟩ := arg_u16x2 (hval 1 _ v1 rfl rfl) h1 (weights_at hsz (j := 1) rfl rfl)
        obtain ⟨a2, n2, c2⟩ := arg_int Try.underlying50 (hval 2 _ v2 rfl rfl) h2 (weights_at hsz (j := 2) rfl rfl)
        have r2 : 0 ≤ a2 ∧ a2 ≤ 4294967295 := by simpa [Lit.wf, IntKind.min, IntKind.max, IntKind.signed, IntKind.bits] using n2
        exact walk_of (rcBursts_spec a0 a1 b1 a2 r0 l0 h1a h1b r2) (args := [v0, v1, v2]) (All2.cons c0 (All2.cons c1 (All2.cons c2 All2.nil)))))

#print axioms recordBursts_proved
end Go.Proofs.Ytbmojelnkldecaa
