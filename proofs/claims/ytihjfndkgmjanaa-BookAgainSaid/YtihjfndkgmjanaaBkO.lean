/-
  Arguments that are events, rows of events, bytes.
-/
import Derived.Test.YtihjfndkgmjanaaOpG
import Derived.Test.YtihjfndkgmjanaaBkA
namespace Go.Proofs.Ytihjfndkgmjanaa
open Go.ChangeShapes Go.WideShapes Go.ChangeAt Go.RowKit

/-! ### The types of this program -/
def Clk.cs (c : Clk) : List AV := [.v (.int .i64 c.c0), .v (.int .i64 c.c1), .v (.int .i64 c.c2), .v (.int .i64 c.c3), .v (.int .i64 c.c4)]
def Ev.rng (e : Ev) : Prop := e.key.size ≤ 140737488355328 ∧ e.v.size ≤ 140737488355328

theorem sh_clk : Sh 30 (fun avs => ∃ c : Clk, avs = c.cs) :=
  (sh_array (s := 1) Try.underlying30 (by kernel_rfl) (by kernel_rfl) (sh_int Try.underlying3)).imp fun avs h => by
    obtain ⟨_, _, rfl, ⟨a, rfl, _⟩, _, _, rfl, ⟨b, rfl, _⟩, _, _, rfl, ⟨c, rfl, _⟩, _, _, rfl, ⟨d, rfl, _⟩, _, _, rfl, ⟨e, rfl, _⟩, rfl⟩ := h
    exact ⟨⟨a, b, c, d, e⟩, rfl⟩
theorem sh_ev : Sh 32 (fun avs => ∃ e : Ev, avs = e.cs ∧ e.rng) :=
  (sh_struct Try.underlying32 (by kernel_rfl) rfl (.cons (sh_int Try.underlying3) (.cons (sh_int Try.underlying3) (.cons sh_clk (.cons (sh_int Try.underlying3) (.cons (sh_int Try.underlying3) (.cons (sh_string Try.underlying9) (.cons (sh_int Try.underlying3) (.cons (sh_string Try.underlying9) .nil))))))))).imp fun avs h => by
    obtain ⟨_, _, rfl, ⟨a, rfl, _⟩, _, _, rfl, ⟨b, rfl, _⟩, _, _, rfl, ⟨c, rfl⟩, _, _, rfl, ⟨d, rfl, _⟩, _, _, rfl, ⟨e, rfl, _⟩, _, _, rfl, ⟨f, rfl, hf⟩, _, _, rfl, ⟨g, rfl, _⟩, _, _, rfl, ⟨i, rfl, hi⟩, rfl⟩ := h
    exact ⟨⟨a, b, c, d, e, f, g, i⟩, rfl, hf, hi⟩
theorem sh_bytes : Sh 25 (fun avs => ∃ l : List UInt8, avs = [.sl 1 l.length true (bytesF l)] ∧ l.length ≤ 140737488355328) :=
  (sh_slice (s := 1) (c := bC) (good := fun _ => True) true Try.underlying25 (by kernel_rfl) (by omega) (of_decide_eq_true (by kernel_rfl)) (fun _ => rfl) (fun _ a x hx => ⟨_, List.mem_singleton.1 hx⟩)
    ((sh_int Try.underlying5).imp fun avs ⟨n, e, hw⟩ => ⟨UInt8.ofNat n.toNat, by
      rw [e]
      have : 0 ≤ n ∧ n ≤ 255 := by simpa [Lit.wf, IntKind.min, IntKind.max, IntKind.signed, IntKind.bits] using hw
      show _ = [AV.v (.int .u8 ((UInt8.ofNat n.toNat).toNat : Int))]
      rw [UInt8.toNat_ofNat', Nat.mod_eq_of_lt (by omega)]
      congr 3
      omega, trivial⟩)).imp fun _ ⟨l, e, _, h⟩ => ⟨l, e, h⟩

theorem sh_evs : Sh 33 (fun avs => ∃ l : List Ev, avs = [.sl 12 l.length true (evF l)] ∧ (∀ e ∈ l, e.rng) ∧ l.length ≤ 140737488355328) :=
  sh_slice (s := 12) (c := Ev.cs) (good := Ev.rng) true Try.underlying33 (by kernel_rfl) (by omega) (of_decide_eq_true (by kernel_rfl)) (fun _ => rfl)
    (fun _ a x hx => by
      simp only [Ev.cs, List.mem_cons, List.not_mem_nil, or_false] at hx
      rcases hx with rfl | rfl | rfl | rfl | rfl | rfl | rfl | rfl | rfl | rfl | rfl | rfl <;> exact ⟨_, rfl⟩) sh_ev
section
variable {H : Type} {enc : TypeId × Value → H} {w : World} {spare : Nat → Bool} {held : Bool} {v : Value} {d : DataW H} {p : List MemPlace} {r : Reach} {b0 : Nat}
set_option maxRecDepth 100000 in
theorem arg_ev (hv : Value.okWide Try.prog w r b0 32 v) (h : DataW.Trod enc Try.prog w 0 spare held 32 v d p) (hw : ∀ n ∈ d.weights Try.prog 32, n ≤ reachBytes) : ∃ e : Ev, e.rng ∧ C1 ⟨w, allOf w, fun _ => undef⟩ e.av v := by
  obtain ⟨cs, rfl, _⟩ := okWide_struct Try.underlying32 hv
  obtain ⟨xs, ⟨e, rfl, he⟩, hc⟩ := arg_agg sh_ev h hw ⟨_, rfl⟩
  exact ⟨e, he, hc⟩
set_option maxRecDepth 100000 in
theorem arg_bytes (hv : Value.okWide Try.prog w r b0 25 v) (h : DataW.Trod enc Try.prog w 0 spare held 25 v d p) (hw : ∀ n ∈ d.weights Try.prog 25, n ≤ reachBytes) : ∃ l : List UInt8, l.length ≤ 140737488355328 ∧ C1 ⟨w, allOf w, fun _ => undef⟩ (.sl 1 l.length true (bytesF l)) v := by
  obtain ⟨a, n, c, rfl⟩ := okWide_slice Try.underlying25 hv
  obtain ⟨x, ⟨l, e, hl⟩, hc⟩ := arg_one sh_bytes (fun _ ⟨l, e, _⟩ => by rw [e]; rfl) h hw rfl
  cases e
  exact ⟨l, hl, hc⟩
set_option maxRecDepth 100000 in
theorem arg_evs (hv : Value.okWide Try.prog w r b0 33 v) (h : DataW.Trod enc Try.prog w 0 spare held 33 v d p) (hw : ∀ n ∈ d.weights Try.prog 33, n ≤ reachBytes) : ∃ l : List Ev, (∀ e ∈ l, e.rng) ∧ l.length ≤ 140737488355328 ∧ C1 ⟨w, allOf w, fun _ => undef⟩ (.sl 12 l.length true (evF l)) v := by
  obtain ⟨a, n, c, rfl⟩ := okWide_slice Try.underlying33 hv
  obtain ⟨x, ⟨l, e, hl, hm⟩, hc⟩ := arg_one sh_evs (fun _ ⟨l, e, _⟩ => by rw [e]; rfl) h hw rfl
  cases e
  exact ⟨l, hl, hm, hc⟩
end
end Go.Proofs.Ytihjfndkgmjanaa
