/-
  Arguments that are rows of contacts, rows of choices, five bytes.
-/
import Derived.Test.YtihjfndkgmjanaaBkO
import Derived.Test.YtihjfndkgmjanaaBkG
namespace Go.Proofs.Ytihjfndkgmjanaa
open Go.ChangeShapes Go.WideShapes Go.ChangeAt Go.RowKit

/-- A choice: how a past goes on. -/
structure Ch0 where
  (r f : Int) (sy : Bool) (k : Int) (key : ByteArray) (l : Int) (v : ByteArray)
instance : Inhabited Ch0 := ⟨⟨0, 0, false, 0, ⟨#[]⟩, 0, ⟨#[]⟩⟩⟩
def Ch0.cs (c : Ch0) : List AV := [.v (.int .u8 c.r), .v (.int .u8 c.f), .v (.bool c.sy), .v (.int .i64 c.k), .v (.string c.key), .v (.int .i64 c.l), .v (.string c.v)]
def Ch0.av (c : Ch0) : AV := .agg c.cs
abbrev chF (l : List Ch0) : Nat → List AV := elsF Ch0.cs l
def Ch0.rng (c : Ch0) : Prop := (0 ≤ c.r ∧ c.r ≤ 255) ∧ (0 ≤ c.f ∧ c.f ≤ 255) ∧ -9223372036854775808 ≤ c.k ∧ c.k ≤ 9223372036854775807 ∧ -9223372036854775808 ≤ c.l ∧ c.l ≤ 9223372036854775807 ∧ c.key.size ≤ 140737488355328 ∧ c.v.size ≤ 140737488355328

theorem rng_u8 {n : Int} (h : (Lit.int .u8 n).wf = true) : 0 ≤ n ∧ n ≤ 255 := by simpa [Lit.wf, IntKind.min, IntKind.max, IntKind.signed, IntKind.bits] using h
theorem rng_i64 {n : Int} (h : (Lit.int .i64 n).wf = true) : -9223372036854775808 ≤ n ∧ n ≤ 9223372036854775807 := by simpa [Lit.wf, IntKind.min, IntKind.max, IntKind.signed, IntKind.bits] using h
theorem enc_arr (s : ByteArray) : AV.v (.string s) = .v (encStr s.data.toList) := by obtain ⟨a⟩ := s; simp
theorem sh_strs : Sh 37 (fun avs => ∃ l : List (List UInt8), avs = [.sl 1 l.length true (strF l)] ∧ l.length ≤ 140737488355328) :=
  (sh_slice (s := 1) (c := fun x => [.v (encStr x)]) (good := fun _ => True) true Try.underlying37 (by kernel_rfl) (by omega) (of_decide_eq_true (by kernel_rfl)) (fun _ => rfl) (fun _ a x hx => ⟨_, List.mem_singleton.1 hx⟩)
    ((sh_string Try.underlying9).imp fun avs ⟨s, e, _⟩ => ⟨s.data.toList, by rw [e, enc_arr], trivial⟩)).imp fun _ ⟨l, e, _, h⟩ => ⟨l, e, h⟩
def Cont.rng (c : Cont) : Prop := c.key.size ≤ 140737488355328 ∧ c.f0.size ≤ 140737488355328 ∧ c.f1.size ≤ 140737488355328 ∧ c.s0.length ≤ 140737488355328 ∧ c.s1.length ≤ 140737488355328
theorem sh_cont : Sh 40 (fun avs => ∃ c : Cont, avs = c.cs ∧ c.rng) :=
  (sh_struct Try.underlying40 (by kernel_rfl) rfl (.cons (sh_string Try.underlying9) (.cons (sh_array (s := 1) Try.underlying35 (by kernel_rfl) (by kernel_rfl) (sh_bool Try.underlying4)) (.cons (sh_array (s := 1) Try.underlying36 (by kernel_rfl) (by kernel_rfl) (sh_string Try.underlying9)) (.cons (sh_array (s := 1) Try.underlying38 (by kernel_rfl) (by kernel_rfl) sh_strs) .nil))))).imp fun avs h => by
    obtain ⟨_, _, rfl, ⟨a, rfl, ha⟩, _, _, rfl, ⟨_, _, rfl, ⟨b0, rfl⟩, _, _, rfl, ⟨b1, rfl⟩, rfl⟩, _, _, rfl, ⟨_, _, rfl, ⟨c0, rfl, h0⟩, _, _, rfl, ⟨c1, rfl, h1⟩, rfl⟩, _, _, rfl, ⟨_, _, rfl, ⟨d0, rfl, k0⟩, _, _, rfl, ⟨d1, rfl, k1⟩, rfl⟩, rfl⟩ := h
    exact ⟨⟨a, b0, b1, c0, c1, d0, d1⟩, rfl, ha, h0, h1, k0, k1⟩
theorem sh_conts : Sh 22 (fun avs => ∃ l : List Cont, avs = [.sl 7 l.length false (coF l)] ∧ (∀ e ∈ l, e.rng) ∧ l.length ≤ 140737488355328) :=
  sh_slice (s := 7) (c := Cont.cs) (good := Cont.rng) false Try.underlying22 (by kernel_rfl) (by omega) (of_decide_eq_true (by kernel_rfl)) (fun _ => rfl) (fun h => by cases h) sh_cont
theorem sh_edit : Sh 48 (fun avs => ∃ (k : Int) (key : ByteArray) (l : Int) (v : ByteArray), avs = [.v (.int .i64 k), .v (.string key), .v (.int .i64 l), .v (.string v)] ∧ (-9223372036854775808 ≤ k ∧ k ≤ 9223372036854775807) ∧ key.size ≤ 140737488355328 ∧ (-9223372036854775808 ≤ l ∧ l ≤ 9223372036854775807) ∧ v.size ≤ 140737488355328) :=
  (sh_struct Try.underlying48 (by kernel_rfl) rfl (.cons (sh_int Try.underlying3) (.cons (sh_string Try.underlying9) (.cons (sh_int Try.underlying3) (.cons (sh_string Try.underlying9) .nil))))).imp fun avs h => by
    obtain ⟨_, _, rfl, ⟨a, rfl, ha⟩, _, _, rfl, ⟨b, rfl, hb⟩, _, _, rfl, ⟨c, rfl, hc⟩, _, _, rfl, ⟨d, rfl, hd⟩, rfl⟩ := h
    exact ⟨a, b, c, d, rfl, rng_i64 ha, hb, rng_i64 hc, hd⟩
theorem sh_choice : Sh 50 (fun avs => ∃ c : Ch0, avs = c.cs ∧ c.rng) :=
  (sh_struct Try.underlying50 (by kernel_rfl) rfl (.cons (sh_int Try.underlying5) (.cons (sh_int Try.underlying5) (.cons (sh_bool Try.underlying4) (.cons sh_edit .nil))))).imp fun avs h => by
    obtain ⟨_, _, rfl, ⟨a, rfl, ha⟩, _, _, rfl, ⟨b, rfl, hb⟩, _, _, rfl, ⟨s, rfl⟩, _, _, rfl, ⟨k, key, l, v, rfl, h1, h2, h3, h4⟩, rfl⟩ := h
    exact ⟨⟨a, b, s, k, key, l, v⟩, rfl, rng_u8 ha, rng_u8 hb, h1.1, h1.2, h3.1, h3.2, h2, h4⟩
theorem sh_choices : Sh 46 (fun avs => ∃ l : List Ch0, avs = [.sl 7 l.length true (chF l)] ∧ (∀ e ∈ l, e.rng) ∧ l.length ≤ 140737488355328) :=
  sh_slice (s := 7) (c := Ch0.cs) (good := Ch0.rng) true Try.underlying46 (by kernel_rfl) (by omega) (of_decide_eq_true (by kernel_rfl)) (fun _ => rfl)
    (fun _ a x hx => by
      simp only [Ch0.cs, List.mem_cons, List.not_mem_nil, or_false] at hx
      rcases hx with rfl | rfl | rfl | rfl | rfl | rfl | rfl <;> exact ⟨_, rfl⟩) sh_choice
theorem sh_arr5 : Sh 28 (fun avs => ∃ a b c d e : Int, avs = [.v (.int .u8 a), .v (.int .u8 b), .v (.int .u8 c), .v (.int .u8 d), .v (.int .u8 e)] ∧ (0 ≤ a ∧ a ≤ 255) ∧ (0 ≤ b ∧ b ≤ 255) ∧ (0 ≤ c ∧ c ≤ 255) ∧ (0 ≤ d ∧ d ≤ 255) ∧ (0 ≤ e ∧ e ≤ 255)) :=
  (sh_array (s := 1) Try.underlying28 (by kernel_rfl) (by kernel_rfl) (sh_int Try.underlying5)).imp fun avs h => by
    obtain ⟨_, _, rfl, ⟨a, rfl, ha⟩, _, _, rfl, ⟨b, rfl, hb⟩, _, _, rfl, ⟨c, rfl, hc⟩, _, _, rfl, ⟨d, rfl, hd⟩, _, _, rfl, ⟨e, rfl, he⟩, rfl⟩ := h
    exact ⟨a, b, c, d, e, rfl, rng_u8 ha, rng_u8 hb, rng_u8 hc, rng_u8 hd, rng_u8 he⟩

section
variable {H : Type} {enc : TypeId × Value → H} {w : World} {spare : Nat → Bool} {held : Bool} {v : Value} {d : DataW H} {p : List MemPlace} {r : Reach} {b0 : Nat}
theorem wide_array {P : Program} {t e : TypeId} {n : Nat} (ht : P.underlying t = some (.array n e)) (h : Value.okWide P w r b0 t v) : ∃ cs, v = .agg cs ∧ cs.size = P.cellsOf t := by
  simp only [Value.okWide, ht] at h
  obtain ⟨cs, h1, h2, _⟩ := h
  exact ⟨cs, h1, h2⟩
set_option maxRecDepth 100000 in
theorem arg_arr5 (hv : Value.okWide Try.prog w r b0 28 v) (h : DataW.Trod enc Try.prog w 0 spare held 28 v d p) (hw : ∀ n ∈ d.weights Try.prog 28, n ≤ reachBytes) :
    ∃ a b c d e : Int, ((0 ≤ a ∧ a ≤ 255) ∧ (0 ≤ b ∧ b ≤ 255) ∧ (0 ≤ c ∧ c ≤ 255) ∧ (0 ≤ d ∧ d ≤ 255) ∧ (0 ≤ e ∧ e ≤ 255)) ∧ C1 ⟨w, allOf w, fun _ => undef⟩ (.agg [.v (.int .u8 a), .v (.int .u8 b), .v (.int .u8 c), .v (.int .u8 d), .v (.int .u8 e)]) v := by
  obtain ⟨cs, rfl, _⟩ := wide_array Try.underlying28 hv
  obtain ⟨xs, ⟨a, b, c, d, e, rfl, ha⟩, hc⟩ := arg_agg sh_arr5 h hw ⟨_, rfl⟩
  exact ⟨a, b, c, d, e, ha, hc⟩
set_option maxRecDepth 100000 in
theorem arg_conts (hv : Value.okWide Try.prog w r b0 22 v) (h : DataW.Trod enc Try.prog w 0 spare held 22 v d p) (hw : ∀ n ∈ d.weights Try.prog 22, n ≤ reachBytes) : ∃ l : List Cont, (∀ e ∈ l, e.rng) ∧ l.length ≤ 140737488355328 ∧ C1 ⟨w, allOf w, fun _ => undef⟩ (.sl 7 l.length false (coF l)) v := by
  obtain ⟨a, n, c, rfl⟩ := okWide_slice Try.underlying22 hv
  obtain ⟨x, ⟨l, e, hl, hm⟩, hc⟩ := arg_one sh_conts (fun _ ⟨l, e, _⟩ => by rw [e]; rfl) h hw rfl
  cases e
  exact ⟨l, hl, hm, hc⟩
set_option maxRecDepth 100000 in
theorem arg_choices (hv : Value.okWide Try.prog w r b0 46 v) (h : DataW.Trod enc Try.prog w 0 spare held 46 v d p) (hw : ∀ n ∈ d.weights Try.prog 46, n ≤ reachBytes) : ∃ l : List Ch0, (∀ e ∈ l, e.rng) ∧ l.length ≤ 140737488355328 ∧ C1 ⟨w, allOf w, fun _ => undef⟩ (.sl 7 l.length true (chF l)) v := by
  obtain ⟨a, n, c, rfl⟩ := okWide_slice Try.underlying46 hv
  obtain ⟨x, ⟨l, e, hl, hm⟩, hc⟩ := arg_one sh_choices (fun _ ⟨l, e, _⟩ => by rw [e]; rfl) h hw rfl
  cases e
  exact ⟨l, hl, hm, hc⟩
set_option maxRecDepth 100000 in
theorem arg_choice (hv : Value.okWide Try.prog w r b0 50 v) (h : DataW.Trod enc Try.prog w 0 spare held 50 v d p) (hw : ∀ n ∈ d.weights Try.prog 50, n ≤ reachBytes) : ∃ c : Ch0, c.rng ∧ C1 ⟨w, allOf w, fun _ => undef⟩ c.av v := by
  obtain ⟨cs, rfl, _⟩ := okWide_struct Try.underlying50 hv
  obtain ⟨xs, ⟨e, rfl, he⟩, hc⟩ := arg_agg sh_choice h hw ⟨_, rfl⟩
  exact ⟨e, he, hc⟩
set_option maxRecDepth 100000 in
theorem arg_int {t : TypeId} {k : IntKind} (ht : Try.prog.underlying t = some (.int k)) (hv : Value.okWide Try.prog w r b0 t v) (h : DataW.Trod enc Try.prog w 0 spare held t v d p) (hw : ∀ n ∈ d.weights Try.prog t, n ≤ reachBytes) : ∃ n : Int, (Lit.int k n).wf = true ∧ C1 ⟨w, allOf w, fun _ => undef⟩ (.v (.int k n)) v := by
  obtain ⟨n, rfl⟩ := okWide_int ht hv
  obtain ⟨x, ⟨m, e, hm⟩, hc⟩ := arg_one (sh_int ht) (fun _ ⟨l, e, _⟩ => by rw [e]; rfl) h hw rfl
  cases e
  exact ⟨m, hm, hc⟩
end
end Go.Proofs.Ytihjfndkgmjanaa
