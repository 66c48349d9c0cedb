/-
  Rows of events of small bulk, as arguments.
-/
import Derived.Test.YtihjfndkgmjanaaOpU
import Derived.Test.YtihjfndkgmjanaaBkO
import Derived.Test.YtihjfndkgmjanaaBa1
namespace Go.Proofs.Ytihjfndkgmjanaa
open Go.ChangeShapes Go.WideShapes Go.ChangeAt Go.RowKit

theorem shn_clk : ShN 30 (fun avs _ => ∃ c : Clk, avs = c.cs) :=
  (shn_array (s := 1) Try.underlying30 (by kernel_rfl) (by kernel_rfl) (shn_int Try.underlying3)).imp fun avs k h => by
    obtain ⟨_, _, i1, j1, rfl, l1, ⟨a, rfl, _⟩, _, _, i2, j2, rfl, l2, ⟨b, rfl, _⟩, _, _, i3, j3, rfl, l3, ⟨c, rfl, _⟩, _, _, i4, j4, rfl, l4, ⟨d, rfl, _⟩, _, _, i5, j5, rfl, l5, ⟨e, rfl, _⟩, rfl⟩ := h
    exact ⟨⟨a, b, c, d, e⟩, rfl⟩
theorem shn_ev : ShN 32 (fun avs k => ∃ e : Ev, avs = e.cs ∧ evW e ≤ k) :=
  (shn_struct Try.underlying32 (by kernel_rfl) rfl (.cons (shn_int Try.underlying3) (.cons (shn_int Try.underlying3) (.cons shn_clk (.cons (shn_int Try.underlying3) (.cons (shn_int Try.underlying3) (.cons (shn_string Try.underlying9) (.cons (shn_int Try.underlying3) (.cons (shn_string Try.underlying9) .nil))))))))).imp fun avs k h => by
    obtain ⟨_, _, i1, j1, rfl, l1, ⟨a, rfl, _⟩, _, _, i2, j2, rfl, l2, ⟨b, rfl, _⟩, _, _, i3, j3, rfl, l3, ⟨c, rfl⟩, _, _, i4, j4, rfl, l4, ⟨d, rfl, _⟩, _, _, i5, j5, rfl, l5, ⟨e, rfl, _⟩, _, _, i6, j6, rfl, l6, ⟨f, rfl, hf⟩, _, _, i7, j7, rfl, l7, ⟨g, rfl, _⟩, _, _, i8, j8, rfl, l8, ⟨i, rfl, hi⟩, rfl⟩ := h
    exact ⟨⟨a, b, c, d, e, f, g, i⟩, rfl, by unfold evW; simp only; omega⟩
theorem shn_evs : ShN 33 (fun avs k => ∃ l : List Ev, avs = [.sl 12 l.length true (evF l)] ∧ (l.map evW).sum + 1 ≤ k) :=
  shn_slice (s := 12) (c := Ev.cs) (m := evW) true Try.underlying33 (by kernel_rfl) (by omega) (fun _ => rfl)
    (fun _ a x hx => by
      simp only [Ev.cs, List.mem_cons, List.not_mem_nil, or_false] at hx
      rcases hx with rfl | rfl | rfl | rfl | rfl | rfl | rfl | rfl | rfl | rfl | rfl | rfl <;> exact ⟨_, rfl⟩) evW_pos shn_ev
section
variable {H : Type} {enc : TypeId × Value → H} {w : World} {spare : Nat → Bool} {held : Bool} {v : Value} {d : DataW H} {p : List MemPlace} {r : Reach} {b0 : Nat}
set_option maxRecDepth 100000 in
theorem argn_evs (hv : Value.okWide Try.prog w r b0 33 v) (h : DataW.Trod enc Try.prog w 0 spare held 33 v d p) : ∃ l : List Ev, (l.map evW).sum + 1 ≤ Rows.uptoBulk d ∧ C1 ⟨w, allOf w, fun _ => undef⟩ (.sl 12 l.length true (evF l)) v := by
  obtain ⟨a, n, c, rfl⟩ := okWide_slice Try.underlying33 hv
  obtain ⟨x, ⟨l, e, hl⟩, hc⟩ := argn_one shn_evs (fun _ _ ⟨l, e, _⟩ => by rw [e]; rfl) h rfl
  cases e
  exact ⟨l, hl, hc⟩
end
end Go.Proofs.Ytihjfndkgmjanaa
