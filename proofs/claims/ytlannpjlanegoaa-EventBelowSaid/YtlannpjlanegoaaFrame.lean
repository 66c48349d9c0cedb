/-
  The frame of every law's proof: if the call returns true and leaves all that was there as it was, the given statement holds. And: an argument that is an event.
-/
import Derived.Test.YtlannpjlanegoaaRows
import Derived.Test.YtlannpjlanegoaaEvLeaf
import Derived.ProofKit
import Derived.OpenShut
import Derived.SizedLaws
import Derived.ChangeOld
namespace Go.Proofs.Ytlannpjlanegoaa
open Go.ChangeShapes Go.WideShapes Go.ChangeAt Go.RowKit

theorem own : ownKnob Try.prog.godebug = none := by kernel_rfl
theorem laidOut : laidOutB Try.prog = true := by kernel_rfl

section
variable {H : Type} {enc : TypeId × Value → H}

theorem trodAll_below {W W' : World} (hb : Below W.heap.size W W') : ∀ (ts : List TypeId) (vs : List Value) (ds : List (DataW H)) (ps : List MemPlace),
    (∀ t ∈ ts, Try.prog.readableRec t = true ∧ t < Try.prog.types.size) → DataW.TrodAll enc Try.prog W 0 (fun _ => true) true ts vs ds ps → (∀ x ∈ ps, x.block < W.heap.size) →
    DataW.TrodAll enc Try.prog W' 0 (fun b => decide (b < W.heap.size)) true ts vs ds ps
  | [], vs, ds, ps, _, h, _ => by
    obtain ⟨rfl, rfl, rfl⟩ := trodAll_nil h
    exact trodAll_mk0
  | t :: ts, vs, ds, ps, ht, h, hlt => by
    obtain ⟨v, vs', d, ds', p, q, rfl, rfl, rfl, h0, h1⟩ := trodAll_cons h
    have hp := ht t (by simp)
    exact trodAll_cons_mk (Below.trod laidOut hp.1 hp.2 h0 hb (fun x hx => hlt x (by simp [hx]))) (trodAll_below hb ts vs' ds' q (fun u hu => ht u (by simp [hu])) h1 (fun x hx => hlt x (by simp [hx])))

/-- A law: whatever comes in, true comes out, and what came in reads as it did. -/
theorem law_lifted (os : Os) (started : os.Started) (f : FuncId) (fn : Func) (s : ChangeSpec) (hvars : s.vars = []) (noInit : Try.prog.inits.idxOf? f = none) (hfn : Try.prog.funcs[f]? = some fn)
    (hres : fn.resultTypes = #[4]) (hparams : ∀ t ∈ fn.params.toList, Try.prog.readableRec t = true ∧ t < Try.prog.types.size)
    (hspec : ∀ ds : List (DataW H), ds.length = fn.params.toList.length → s.fn H ds = { results := [.lit (.bool true)], args := ds })
    (witness : ∃ (w : World) (tape : Tape) (i : Input), w.os = os ∧ (w.forCall tape i).Shaped Try.checked.prog ∧ i.vars = [] ∧ Input.okWide Try.checked.prog (w.forCall tape i) .any w.heap.size f i ∧
      s.pre6 enc Try.checked.prog fn [] false (w.forCall tape i).memory i.args ∧ ({} : Assume).holds Try.checked.prog (lone (Frame.enter Try.checked.prog f i.args .normal) [] (w.forCall tape i)))
    (walk : ∀ (W : World) (base : Nat) (args : Array Value) (ds : List (DataW H)) (p : List MemPlace),
      (∀ (j : Nat) t v, fn.params[j]? = some t → args[j]? = some v → Value.okWide Try.prog W .any base t v) →
      DataW.TrodAll enc Try.prog W 0 (fun _ => true) true fn.params.toList args.toList ds p →
      (DataW.weightsEach Try.prog fn.params.toList ds).all (· ≤ reachBytes) = true →
      Calls Try.prog f args W fun e W' => e = .returned (.bool true) ∧ Below W.heap.size W W') :
    ReturnsInHanded {} Try.checked os f .any (s.pre6 enc Try.prog fn [] false) (s.post enc Try.prog fn false true false false) := by
  refine returnsInHanded_of_change_sized (C := Try.checked) own started noInit hfn witness ?_
  intro W base args ds gs before hval0 hW _ hsz0 _
  have hval : ∀ (j : Nat) t v, fn.params[j]? = some t → args[j]? = some v → Value.okWide Try.prog W .any base t v := hval0
  have hW' := hW
  have hlt : ∀ x ∈ before, x.block < W.heap.size := fun x hx => by simpa using hW'.lt x hx
  obtain ⟨p, q, hA0, hV, rfl, hfz, hnd⟩ := hW
  have hA : DataW.TrodAll enc Try.prog W 0 (fun _ => true) true fn.params.toList args.toList ds p := hA0
  rw [hvars] at hV
  obtain ⟨rfl, rfl⟩ := trodVars_none hV
  simp only [List.append_nil] at hW' hlt
  have hsz : (DataW.weightsEach Try.prog fn.params.toList ds).all (· ≤ reachBytes) = true := by
    have h : (DataW.weightsEach Try.prog (fn.params.toList ++ s.plain.varTypes Try.prog) (ds ++ [])).all (· ≤ reachBytes) = true := hsz0
    have hv : s.plain.varTypes Try.prog = [] := by
      show s.vars.filterMap _ = []
      rw [hvars]; rfl
    simpa [hv] using h
  refine (walk W base args ds p hval hA hsz).mono fun e W' ⟨he, bel⟩ => ?_
  subst he
  have hlen : ds.length = fn.params.toList.length := trodAll_len fn.params.toList args.toList ds p hA
  have hsp := hspec ds hlen
  refine ⟨_, rfl, ds, [], p, [], p, [], hW', ?_, ?_, ?_, bel.frame _, fun h => by cases h⟩
  · rw [List.append_nil, hsp, hres]
    exact trodAll_mk1 (shut_bool Try.underlying4 _)
  · rw [List.append_nil, hsp]
    exact trodAll_below bel _ _ _ _ hparams hA hlt
  · rw [hvars]
    rw [List.append_nil, hsp]
    rfl
where
  trodAll_len {W : World} : ∀ (ts : List TypeId) (vs : List Value) (ds : List (DataW H)) (ps : List MemPlace), DataW.TrodAll enc Try.prog W 0 (fun _ => true) true ts vs ds ps → ds.length = ts.length
    | [], vs, ds, ps, h => by
      obtain ⟨rfl, rfl, rfl⟩ := trodAll_nil h
      rfl
    | t :: ts, vs, ds, ps, h => by
      obtain ⟨v, vs', d, ds', p, q, rfl, rfl, rfl, h0, h1⟩ := trodAll_cons h
      simp [trodAll_len ts vs' ds' q h1]

def evD (e : Ev) : DataW H := .agg [.lit (.int .i64 e.r), .lit (.int .i64 e.n), .agg [.lit (.int .i64 e.c.c0), .lit (.int .i64 e.c.c1), .lit (.int .i64 e.c.c2), .lit (.int .i64 e.c.c3), .lit (.int .i64 e.c.c4)],
  .lit (.int .i64 e.h), .lit (.int .i64 e.k), .lit (.string e.key.data.toList), .lit (.int .i64 e.l), .lit (.string e.v.data.toList)]

theorem trod_clk {w : World} {base : Nat} {spare : Nat → Bool} {held : Bool} {fuel : Nat} {cs : List Value} {x : DataW H × List MemPlace} (h : DataW.trod enc Try.prog w base spare held fuel 23 cs = some x) :
    ∃ c : Clk, cs = [.int .i64 c.c0, .int .i64 c.c1, .int .i64 c.c2, .int .i64 c.c3, .int .i64 c.c4] ∧ x = (.agg [.lit (.int .i64 c.c0), .lit (.int .i64 c.c1), .lit (.int .i64 c.c2), .lit (.int .i64 c.c3), .lit (.int .i64 c.c4)], []) := by
  obtain ⟨xs, m, _, rfl, hlen, hxl, hg⟩ := DataW.trod_array Try.underlying23 h
  have hC : Try.prog.cellsOf 23 = 5 := by kernel_rfl
  have hI : Try.prog.cellsOf 3 = 1 := by kernel_rfl
  rw [hC] at hlen
  match cs, hlen, xs, hxl with
  | [a, b, c, d, e], _, [x0, x1, x2, x3, x4], _ =>
    have g0 := hg 0 (by decide); have g1 := hg 1 (by decide); have g2 := hg 2 (by decide); have g3 := hg 3 (by decide); have g4 := hg 4 (by decide)
    simp only [hI, Nat.mul_one, List.drop_zero, List.drop_succ_cons, List.take_succ_cons, List.take_zero, List.getElem?_cons_zero, List.getElem?_cons_succ] at g0 g1 g2 g3 g4
    obtain ⟨n0, e0, rfl, _⟩ := DataW.trod_int Try.underlying3 g0
    obtain ⟨n1, e1, rfl, _⟩ := DataW.trod_int Try.underlying3 g1
    obtain ⟨n2, e2, rfl, _⟩ := DataW.trod_int Try.underlying3 g2
    obtain ⟨n3, e3, rfl, _⟩ := DataW.trod_int Try.underlying3 g3
    obtain ⟨n4, e4, rfl, _⟩ := DataW.trod_int Try.underlying3 g4
    simp only [List.cons.injEq, and_true] at e0 e1 e2 e3 e4
    subst e0 e1 e2 e3 e4
    exact ⟨⟨n0, n1, n2, n3, n4⟩, rfl, rfl⟩

theorem trod_ev {w : World} {base : Nat} {spare : Nat → Bool} {held : Bool} {fuel : Nat} {cs : List Value} {x : DataW H × List MemPlace} (h : DataW.trod enc Try.prog w base spare held fuel 25 cs = some x) :
    ∃ e : Ev, cs = e.cells.toList ∧ x = (evD e, []) := by
  obtain ⟨xs, m, _, rfl, hlen, hxl, hg⟩ := DataW.trod_struct Try.underlying25 h
  have hC : Try.prog.cellsOf 25 = 12 := by kernel_rfl
  have hI : Try.prog.cellsOf 3 = 1 := by kernel_rfl
  have hS : Try.prog.cellsOf 9 = 1 := by kernel_rfl
  have hK : Try.prog.cellsOf 23 = 5 := by kernel_rfl
  rw [hC] at hlen
  match cs, hlen, xs, hxl with
  | [a0, a1, a2, a3, a4, a5, a6, a7, a8, a9, a10, a11], _, [x0, x1, x2, x3, x4, x5, x6, x7], _ =>
    have g0 := hg 0 _ rfl; have g1 := hg 1 _ rfl; have g2 := hg 2 _ rfl; have g3 := hg 3 _ rfl; have g4 := hg 4 _ rfl; have g5 := hg 5 _ rfl; have g6 := hg 6 _ rfl; have g7 := hg 7 _ rfl
    simp [hI] at g0 g1 g3 g4 g6
    simp [hS] at g5 g7
    simp [hK] at g2
    obtain ⟨n0, e0, rfl, _⟩ := DataW.trod_int Try.underlying3 g0
    obtain ⟨n1, e1, rfl, _⟩ := DataW.trod_int Try.underlying3 g1
    obtain ⟨c, e2, rfl⟩ := trod_clk g2
    obtain ⟨n3, e3, rfl, _⟩ := DataW.trod_int Try.underlying3 g3
    obtain ⟨n4, e4, rfl, _⟩ := DataW.trod_int Try.underlying3 g4
    obtain ⟨s5, e5, rfl, _⟩ := DataW.trod_string Try.underlying9 g5
    obtain ⟨n6, e6, rfl, _⟩ := DataW.trod_int Try.underlying3 g6
    obtain ⟨s7, e7, rfl, _⟩ := DataW.trod_string Try.underlying9 g7
    simp only [List.cons.injEq, and_true] at e0 e1 e2 e3 e4 e5 e6 e7
    obtain ⟨rfl, rfl, rfl, rfl, rfl⟩ := e2
    subst e0 e1 e3 e4 e5 e6 e7
    exact ⟨⟨n0, n1, c, n3, n4, s5, n6, s7⟩, rfl, rfl⟩

/-- An argument that is an event. -/
theorem open_ev {w : World} {r : Reach} {b0 base : Nat} {spare : Nat → Bool} {held : Bool} {v : Value} {d : DataW H} {p : List MemPlace} (hv : Value.okWide Try.prog w r b0 25 v) (h : DataW.Trod enc Try.prog w base spare held 25 v d p) :
    ∃ e : Ev, v = e.val ∧ d = evD e := by
  obtain ⟨cs, rfl, _⟩ := okWide_struct Try.underlying25 hv
  obtain ⟨fuel, hf⟩ := h
  obtain ⟨e, h1, h2⟩ := trod_ev hf
  refine ⟨e, ?_, by simpa using congrArg Prod.fst h2⟩
  unfold Ev.val
  congr 1
  exact Array.toList_inj.1 (by simpa [Value.cells] using h1)

theorem size_of_toList (s : ByteArray) : s.data.toList.length = s.size := by rw [Array.length_toList]; rfl

theorem ev_weights {e : Ev} (h : ∀ n ∈ (evD (H := H) e).weights Try.prog 25, n ≤ reachBytes) : e.key.size ≤ 140737488355328 ∧ e.v.size ≤ 140737488355328 := by
  have hr : reachBytes ≤ 140737488355328 := by decide
  have h1 := h e.key.size (by simp [evD, DataW.weights, DataW.weightsEach, Try.underlying25])
  have h2 := h e.v.size (by simp [evD, DataW.weights, DataW.weightsEach, Try.underlying25])
  omega

theorem weights_at {ts : List TypeId} {ds : List (DataW H)} (h : (DataW.weightsEach Try.prog ts ds).all (· ≤ reachBytes) = true) {j : Nat} {t : TypeId} {d : DataW H} (ht : ts[j]? = some t) (hd : ds[j]? = some d) :
    ∀ n ∈ d.weights Try.prog t, n ≤ reachBytes := fun n hn => by
  simpa using List.all_eq_true.1 h _ (DataW.weights_mem_each ht hd n hn)

end
end Go.Proofs.Ytlannpjlanegoaa
