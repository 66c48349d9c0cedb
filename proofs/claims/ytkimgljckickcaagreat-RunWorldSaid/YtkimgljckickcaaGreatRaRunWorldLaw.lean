/-
  RunWorld is proved: a report is how a world stands behind the same steps, and what each of them told; no condition.
-/
import Derived.Test.YtkimgljckickcaaGreatRaOwnW
import Derived.Test.YtkimgljckickcaaGreatRaOwnG
import Derived.Test.YtkimgljckickcaaGreatRa16
set_option maxHeartbeats 16000000
set_option maxRecDepth 100000
set_option linter.unusedVariables false
set_option linter.unusedSimpArgs false
namespace Go.Proofs.YtkimgljckickcaaGreat
open Go.ChangeShapes Go.WideShapes Go.ChangeAt Go.RowKit
theorem runWorld_proved : Rows.RunWorldSaid :=
  OpenClaim.holds_of_wide 4 Tryz.f4 rfl rfl rfl rfl rfl rfl rfl ⟨rfl, rfl, rfl, rfl, rfl⟩ rfl rfl rfl rfl rfl (by kernel_rfl) Tryz.func4 (by kernel_rfl)
    (of_decide_eq_true (by kernel_rfl)) (by unfold Func.isWrapper; first | (rw [if_pos (by decide +kernel)]; kernel_rfl) | (rw [if_neg (by decide +kernel)]; exact ⟨rfl, rfl⟩))
    (fun os started H enc _ => law_lifted os started 4 Tryz.f4 Rows.runWorldSpec rfl (by kernel_rfl) Tryz.func4 rfl
      (by rw [Tryz.params4]; intro t ht; simp at ht; rcases ht with rfl | rfl <;> exact ⟨by kernel_rfl, of_decide_eq_true (by kernel_rfl)⟩)
      (fun ds h => match ds, h with | [_, _], _ => rfl)
      (ChangeSpec.witness6 (enc := enc) (C := Tryz.checked) false ⟨#[], #[.agg #[.int .i64 0, .int .i64 0, .int .i64 0, .int .i64 0, .int .i64 0, .int .i64 0], .slice none 0 0], []⟩ 8 (by kernel_rfl) (by kernel_rfl) (by kernel_rfl) (by kernel_rfl))
      (fun W base args ds p hval hA hsz => by
        rw [Tryz.params4] at hval hA hsz
        obtain ⟨v0, v1, d0, d1, p0, p1, rfl, rfl, rfl, h0, h1⟩ := trodAll_two hA
        obtain ⟨a0, r0, c0⟩ := als (hval 0 _ v0 rfl rfl) h0 (weights_at hsz (j := 0) rfl rfl)
        obtain ⟨a1, r1, l1, c1⟩ := akg (hval 1 _ v1 rfl rfl) h1 (weights_at hsz (j := 1) rfl rfl)
        exact walk_of (runWorld_spec a0 a1 r0 r1 l1) (args := [v0, v1]) (aC.cons c0 (aC.cons c1 aC.nil))))

#print axioms runWorld_proved
end Go.Proofs.YtkimgljckickcaaGreat
