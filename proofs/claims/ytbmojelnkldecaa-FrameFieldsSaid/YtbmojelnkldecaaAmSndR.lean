/-
  The abstract machine is right: what a function hands back; the frame at its beginning.
-/
import Derived.Test.YtbmojelnkldecaaAmSndG
namespace Go.Proofs.Ytbmojelnkldecaa
open Go.RowKit

section
variable {P : Program} {L : Lay} {g : Base} {N : Nat} {bs : List (Array Value)} {ρ : Nat → Value} {a : Act} {w : World} {st : AS}

def resOne (tmps : Array Value) : ResultVar → Sem Value
  | .tmp t => pure (tmps.getD t undef)
  | .cell a t => do loadVar t (← asAddr (tmps.getD a undef))
theorem results_eq (fn : Func) (tmps : Array Value) : results fn tmps = (do let vs ← fn.results.mapM (resOne tmps); pure (if h : vs.size = 1 then vs[0] else .tuple vs)) := by
  unfold results
  congr 2

theorem load_addr {P : Program} {w : World} {t : TypeId} {u : Value} : ∀ {v : Value}, (Instr.loadAt t v).run P w = .ok u w → ((do loadVar t (← asAddr v) : Sem Value)).run P w = .ok u w := by
  intro v h3
  cases v with
  | pointer q =>
    cases q with
    | none => simp [Instr.loadAt, Instr.sureAddr] at h3
    | some q => simpa [Instr.loadAt, Instr.sureAddr, asAddr] using h3
  | _ => simp [Instr.loadAt, Instr.sureAddr] at h3

theorem aresV_run (hL : LayOk P L) (R : Rel g N bs ρ a w st) {r : ResultVar} {K : AV → Prop} (h : aresV L st r K) :
    ∃ x u, K x ∧ C2 (cxOf g w ρ st.heap) x u ∧ (resOne a.tmps r).run P w = .ok u w := by
  cases r with
  | tmp t => exact ⟨_, _, h, R.tmps t, rfl⟩
  | cell p t =>
    obtain ⟨x, u, h1, h2, h3⟩ := aload_run hL R (R.tmps p) h
    exact ⟨x, u, h1, h2, load_addr h3⟩

theorem aresL_run (hL : LayOk P L) (R : Rel g N bs ρ a w st) : ∀ {rs : List ResultVar} {K : List AV → Prop}, aresL L st rs K →
    ∃ xs us, K xs ∧ All2 (C2 (cxOf g w ρ st.heap)) xs us ∧ (rs.mapM (resOne a.tmps)).run P w = .ok us w
  | [], K, h => ⟨[], [], h, All2.nil, rfl⟩
  | r :: rs, K, h => by
    obtain ⟨x, u, h1, h2, h3⟩ := aresV_run hL R h
    obtain ⟨xs, us, k1, k2, k3⟩ := aresL_run hL R h1
    refine ⟨x :: xs, u :: us, k1, All2.cons h2 k2, ?_⟩
    simp only [List.mapM_cons, Sem.run_bind, h3, Result.andThen_ok, k3, Sem.run_pure]

theorem C1.untup {X : CX} {x : AV} {u : Value} (h : C2 X x u) : C1 X (untup x) u := by
  cases x <;> first | exact h | trivial

theorem ret_run (hL : LayOk P L) (R : Rel g N bs ρ a w st) {fn : Func} {K : AV → Prop} (h : ares L st fn.results.toList K) :
    ∃ x u, K x ∧ C2 (cxOf g w ρ st.heap) x u ∧ (results fn a.tmps).run P w = .ok u w := by
  unfold ares at h
  obtain ⟨xs, us, h1, h2, h3⟩ := aresL_run hL R h
  have hr : (results fn a.tmps).run P w = .ok (if h : us.toArray.size = 1 then us.toArray[0] else .tuple us.toArray) w := by
    rw [results_eq, Array.mapM_eq_mapM_toList]
    simp only [Sem.run_bind, Sem.run_map, h3, Result.andThen_ok]
    rfl
  have hl := h2.1
  match xs, us, h1, h2, hl, hr with
  | [], [], h1, h2, _, hr => exact ⟨.tup [], .tuple #[], h1, ⟨[], rfl, All2.nil⟩, by rw [hr]; rfl⟩
  | [x], [u], h1, h2, _, hr => exact ⟨x, u, h1, h2.2 0 _ _ rfl rfl, by rw [hr]; rfl⟩
  | x :: y :: xs, u :: v :: us, h1, h2, _, hr => exact ⟨.tup ((x :: y :: xs).map untup), .tuple (u :: v :: us).toArray, h1, ⟨_, rfl, h2.mapl fun _ _ => C1.untup⟩, by rw [hr]; rfl⟩

/-- A frame at a function's beginning. -/
theorem frame_start {X : CX} {avs : List AV} {args : List Value} (hargs : All2 (C2 X) avs args) {n : Nat} (hsz : avs.length ≤ n) : ∀ t, C2 X (ofL (enumA 0 avs) t) ((args.toArray ++ Array.replicate (n - args.toArray.size) undef).getD t undef) := by
  intro t
  have hlen : args.length = avs.length := hargs.1.symm
  have henum : ∀ (l : List AV) (k t : Nat), ofL (enumA k l) (k + t) = l.getD t .junk := by
    intro l
    induction l with
    | nil => intro k t; simp [enumA, ofL]
    | cons x l ih =>
      intro k t
      simp only [enumA, ofL]
      cases t with
      | zero => simp
      | succ t =>
        have e : Nat.beq (k + (t + 1)) k = false := beq_false (by omega)
        rw [e, cond_false, show k + (t + 1) = (k + 1) + t by omega, ih]
        simp
  have hen := henum avs 0 t
  rw [Nat.zero_add] at hen
  rw [hen]
  by_cases ht : t < args.length
  · have e1 : (args.toArray ++ Array.replicate (n - args.toArray.size) undef).getD t undef = args[t] := by
      rw [← Array.getElem_eq_getD (h := by simp; omega)]
      simp [ht]
    have e2 : avs.getD t .junk = avs[t]'(by omega) := by
      rw [List.getD, List.getElem?_eq_getElem (by omega)]; rfl
    rw [e1, e2]
    exact hargs.2 t _ _ (List.getElem?_eq_getElem (by omega)) (List.getElem?_eq_getElem ht)
  · have e1 : (args.toArray ++ Array.replicate (n - args.toArray.size) undef).getD t undef = undef := by
      by_cases h2 : t < n
      · have h3 : (args.toArray ++ Array.replicate (n - args.toArray.size) undef)[t]? = some undef := by
          rw [Array.getElem?_append_right (by simpa using Nat.le_of_not_lt ht), Array.getElem?_replicate, if_pos (by simp; omega)]
        rw [Array.getD_eq_getD_getElem?, h3]
        rfl
      · rw [Array.getD_eq_getD_getElem?, Array.getElem?_eq_none (by simp; omega)]
        rfl
    have e2 : avs.getD t .junk = .junk := by
      rw [List.getD, List.getElem?_eq_none (by omega)]; rfl
    rw [e1, e2]
    trivial
end
end Go.Proofs.Ytbmojelnkldecaa
