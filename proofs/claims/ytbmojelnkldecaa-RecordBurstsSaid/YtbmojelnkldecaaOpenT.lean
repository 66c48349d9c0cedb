/-
  An argument that is two numbers.
-/
import Derived.Test.YtbmojelnkldecaaOpenS
namespace Go.Proofs.Ytbmojelnkldecaa
open Go.ChangeShapes Go.WideShapes Go.ChangeAt Go.RowKit

section
variable {H : Type} {enc : TypeId × Value → H} {w : World} {spare : Nat → Bool} {held : Bool} {v : Value} {d : DataW H} {p : List MemPlace} {r : Reach} {b0 : Nat}
theorem wide_array {P : Program} {t e : TypeId} {n : Nat} (ht : P.underlying t = some (.array n e)) (h : Value.okWide P w r b0 t v) : ∃ cs, v = .agg cs ∧ cs.size = P.cellsOf t := by
  simp only [Value.okWide, ht] at h
  obtain ⟨cs, h1, h2, _⟩ := h
  exact ⟨cs, h1, h2⟩
theorem sh_u16x2 : Sh 66 (fun avs => ∃ a b : Int, avs = [.v (.int .u16 a), .v (.int .u16 b)] ∧ (Lit.int .u16 a).wf = true ∧ (Lit.int .u16 b).wf = true) :=
  (sh_array (s := 1) Try.underlying66 (by kernel_rfl) (by kernel_rfl) (sh_int Try.underlying53)).imp fun avs h => by
    obtain ⟨_, _, rfl, ⟨a, rfl, ha⟩, _, _, rfl, ⟨b, rfl, hb⟩, rfl⟩ := h
    exact ⟨a, b, rfl, ha, hb⟩
set_option maxRecDepth 100000 in
theorem arg_u16x2 (hv : Value.okWide Try.prog w r b0 66 v) (h : DataW.Trod enc Try.prog w 0 spare held 66 v d p) (hw : ∀ n ∈ d.weights Try.prog 66, n ≤ reachBytes) :
    ∃ a b : Int, (0 ≤ a ∧ a ≤ 65535) ∧ (0 ≤ b ∧ b ≤ 65535) ∧ C1 ⟨w, allOf w, fun _ => undef⟩ (.agg [.v (.int .u16 a), .v (.int .u16 b)]) v := by
  obtain ⟨cs, rfl, _⟩ := wide_array Try.underlying66 hv
  obtain ⟨xs, ⟨a, b, rfl, ha, hb⟩, hc⟩ := arg_agg sh_u16x2 h hw ⟨_, rfl⟩
  exact ⟨a, b, by simpa [Lit.wf, IntKind.min, IntKind.max, IntKind.signed, IntKind.bits] using ha, by simpa [Lit.wf, IntKind.min, IntKind.max, IntKind.signed, IntKind.bits] using hb, hc⟩
end
end Go.Proofs.Ytbmojelnkldecaa
