/-
  Arguments that are rows of records, or two numbers.
-/
import Derived.Test.YtbmojelnkldecaaOpenR
import Derived.Test.YtbmojelnkldecaaRcW
namespace Go.Proofs.Ytbmojelnkldecaa
open Go.ChangeShapes Go.WideShapes Go.ChangeAt Go.RowKit

theorem sh_recs : Sh 55 (fun avs => ∃ l : List Rc, avs = [.sl 9 l.length false (rcF l)] ∧ (∀ r ∈ l, r.rng) ∧ l.length ≤ 140737488355328) :=
  sh_slice (s := 9) (c := Rc.cs) (good := Rc.rng) false Try.underlying55 (by kernel_rfl) (by omega) (of_decide_eq_true (by kernel_rfl)) (fun _ => rfl) (fun h => by cases h) sh_rec

section
variable {H : Type} {enc : TypeId × Value → H} {w : World} {spare : Nat → Bool} {held : Bool} {v : Value} {d : DataW H} {p : List MemPlace} {r : Reach} {b0 : Nat}
set_option maxRecDepth 100000 in
theorem arg_recs (hv : Value.okWide Try.prog w r b0 55 v) (h : DataW.Trod enc Try.prog w 0 spare held 55 v d p) (hw : ∀ n ∈ d.weights Try.prog 55, n ≤ reachBytes) : ∃ l : List Rc, (∀ r ∈ l, r.rng) ∧ l.length ≤ 140737488355328 ∧ C1 ⟨w, allOf w, fun _ => undef⟩ (.sl 9 l.length false (rcF l)) v := by
  obtain ⟨a, n, c, rfl⟩ := okWide_slice Try.underlying55 hv
  obtain ⟨x, ⟨l, e, hr, hl⟩, hc⟩ := arg_one sh_recs (fun _ ⟨l, e, _⟩ => by rw [e]; rfl) h hw rfl
  cases e
  exact ⟨l, hr, hl, hc⟩
end
end Go.Proofs.Ytbmojelnkldecaa
