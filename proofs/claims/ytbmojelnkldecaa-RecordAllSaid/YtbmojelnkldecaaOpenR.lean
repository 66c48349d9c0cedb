/-
  Arguments that are records, frames, or rows of events.
-/
import Derived.Test.YtbmojelnkldecaaOpen
import Derived.Test.YtbmojelnkldecaaRecF
namespace Go.Proofs.Ytbmojelnkldecaa
open Go.ChangeShapes Go.WideShapes Go.ChangeAt Go.RowKit

def Rc.rng (x : Rc) : Prop := (∀ e ∈ x.ev, e.rng) ∧ x.ev.length ≤ 140737488355328
theorem sh_evs : Sh 37 (fun avs => ∃ l : List Ev, avs = [.sl 12 l.length true (evF l)] ∧ (∀ e ∈ l, e.rng) ∧ l.length ≤ 140737488355328) :=
  sh_slice (s := 12) (c := Ev.cs) (good := Ev.rng) true Try.underlying37 (by kernel_rfl) (by omega) (of_decide_eq_true (by kernel_rfl)) (fun _ => rfl)
    (fun _ a x hx => by
      simp only [Ev.cs, List.mem_cons, List.not_mem_nil, or_false] at hx
      rcases hx with rfl | rfl | rfl | rfl | rfl | rfl | rfl | rfl | rfl | rfl | rfl | rfl <;> exact ⟨_, rfl⟩) sh_ev
theorem sh_rc0 {t : TypeId} {fs : Array Field} (ht : Try.prog.underlying t = some (.struct fs)) (hc : contigB Try.prog.cellsOf 0 fs.toList (Try.prog.cellsOf t) = true) (hts : fs.toList.map (·.type) = [3, 3, 3, 23, 37]) :
    Sh t (fun avs => ∃ x : Rc, avs = x.cs ∧ x.rng) :=
  (sh_struct ht hc hts (.cons (sh_int Try.underlying3) (.cons (sh_int Try.underlying3) (.cons (sh_int Try.underlying3) (.cons sh_clk (.cons sh_evs .nil)))))).imp fun avs h => by
    obtain ⟨_, _, rfl, ⟨a, rfl, _⟩, _, _, rfl, ⟨b, rfl, _⟩, _, _, rfl, ⟨c, rfl, _⟩, _, _, rfl, ⟨d, rfl⟩, _, _, rfl, ⟨l, rfl, h1, h2⟩, rfl⟩ := h
    exact ⟨⟨a, b, c, d, l⟩, rfl, h1, h2⟩
theorem sh_rec : Sh 39 (fun avs => ∃ x : Rc, avs = x.cs ∧ x.rng) := sh_rc0 Try.underlying39 (by kernel_rfl) rfl
theorem sh_frame : Sh 43 (fun avs => ∃ x : Rc, avs = x.cs ∧ x.rng) := sh_rc0 Try.underlying43 (by kernel_rfl) rfl

section
variable {H : Type} {enc : TypeId × Value → H} {w : World} {spare : Nat → Bool} {held : Bool} {v : Value} {d : DataW H} {p : List MemPlace} {r : Reach} {b0 : Nat}
set_option maxRecDepth 100000 in
theorem arg_rec (hv : Value.okWide Try.prog w r b0 39 v) (h : DataW.Trod enc Try.prog w 0 spare held 39 v d p) (hw : ∀ n ∈ d.weights Try.prog 39, n ≤ reachBytes) : ∃ x : Rc, x.rng ∧ C1 ⟨w, allOf w, fun _ => undef⟩ x.av v := by
  obtain ⟨cs, rfl, _⟩ := okWide_struct Try.underlying39 hv
  obtain ⟨xs, ⟨e, rfl, he⟩, hc⟩ := arg_agg sh_rec h hw ⟨_, rfl⟩
  exact ⟨e, he, hc⟩
set_option maxRecDepth 100000 in
theorem arg_frame (hv : Value.okWide Try.prog w r b0 43 v) (h : DataW.Trod enc Try.prog w 0 spare held 43 v d p) (hw : ∀ n ∈ d.weights Try.prog 43, n ≤ reachBytes) : ∃ x : Rc, x.rng ∧ C1 ⟨w, allOf w, fun _ => undef⟩ x.av v := by
  obtain ⟨cs, rfl, _⟩ := okWide_struct Try.underlying43 hv
  obtain ⟨xs, ⟨e, rfl, he⟩, hc⟩ := arg_agg sh_frame h hw ⟨_, rfl⟩
  exact ⟨e, he, hc⟩
set_option maxRecDepth 100000 in
theorem arg_int {t : TypeId} {k : IntKind} (ht : Try.prog.underlying t = some (.int k)) (hv : Value.okWide Try.prog w r b0 t v) (h : DataW.Trod enc Try.prog w 0 spare held t v d p) (hw : ∀ n ∈ d.weights Try.prog t, n ≤ reachBytes) : ∃ n : Int, (Lit.int k n).wf = true ∧ C1 ⟨w, allOf w, fun _ => undef⟩ (.v (.int k n)) v := by
  obtain ⟨n, rfl⟩ := okWide_int ht hv
  obtain ⟨x, ⟨m, e, hm⟩, hc⟩ := arg_one (sh_int ht) (fun _ ⟨l, e, _⟩ => by rw [e]; rfl) h hw rfl
  cases e
  exact ⟨m, hm, hc⟩
end
end Go.Proofs.Ytbmojelnkldecaa
