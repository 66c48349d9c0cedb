/-
  The abstract machine is right: a call, by its contract.
-/
import Derived.Test.YtbmojelnkldecaaAmMut
namespace Go.Proofs.Ytbmojelnkldecaa
open Go.RowKit

section
variable {P : Program} {L : Lay} {g : Base} {N : Nat} {bs : List (Array Value)} {ρ : Nat → Value} {a : Act} {w : World} {st : AS}

/-- A slice of the call's own reads as what it holds. -/
theorem row_reads (R : Rel g N bs ρ a w st) {id : Nat} {e : TypeId} {s n : Nat} {sc : Bool} {f : Nat → List AV} (hf : findObj id st.heap = some (.row e s n sc f)) {k : Nat → Prop} (hk : ∀ b, keepOf g w ρ st.heap b → k b) (hb : ∀ b, blk (ρ id) = some b → k b) :
    PC w k (.sl s n sc f) (ρ id) := by
  obtain ⟨us, hown, hs0, hfl, hsc, ha⟩ := R.objs _ (findObj_mem hf)
  have hown : w.ownsRow 0 e s (ρ id) n us := hown
  have ha : All2 (PC w (keepOf g w ρ st.heap)) (flat n f) us := ha
  have ha' := ha.imp fun _ _ => PC.mono hk fun _ _ => rfl
  rcases hown.2 with ⟨hv, hz⟩ | ⟨b, cap, cur, hv, hB, hh, hnc, hcm, _⟩
  · rw [hv]
    subst hz
    exact .sl s 0 sc f none 0 us hs0 (Nat.le_refl _) (by simp [maxLen]) hown.1 hfl hsc ha'.2 (.inl rfl)
  · have hkb := hb b (by rw [hv]; rfl)
    rw [hv]
    refine .sl s n sc f _ cap us hs0 hnc hcm hown.1 hfl hsc ha'.2 (.inr ⟨b, 0, rfl, hkb, fun j u hj => ?_⟩)
    have := hown.cells (g := b) (by rw [hv]; rfl) j u hj
    rwa [Addr.add_lit] at this

/-- What a call is handed reads, in some memory k, as its contract asks. -/
def Reads (st : AS) (ρ : Nat → Value) (w : World) (k : Nat → Prop) (x : AV) : Prop :=
  ∀ id e s n sc f, x = .own id → findObj id st.heap = some (.row e s n sc f) → PC w k (.sl s n sc f) (ρ id)

theorem nil_reads {w : World} {k : Nat → Prop} {s : Nat} {sc : Bool} {f : Nat → List AV} (h0 : 0 < s) : PC w k (.sl s 0 sc f) (.slice none 0 0) :=
  .sl s 0 sc f none 0 [] h0 (Nat.zero_le _) (by simp [maxLen]) (by simp) (fun i hi => absurd hi (by omega)) (fun _ x hx => by cases hx) (fun i x u hx => by simp [flat] at hx) (.inl rfl)

theorem see0_ok {k : Nat → Prop} (hk : ∀ b, keepOf g w ρ st.heap b → k b) {x : AV} {u : Value} (hr : Reads st ρ w k x) (h : C0 (cxOf g w ρ st.heap) x u) : C0 ⟨w, k, fun _ => undef⟩ (see0 st.heap x) u := by
  cases x with
  | v y => exact h
  | sl s n sc f => exact PC.mono hk (fun _ _ => rfl) h
  | own id =>
    simp only [see0]
    cases hf : findObj id st.heap with
    | none => trivial
    | some o =>
      cases o with
      | box t cs => trivial
      | row e s n sc f =>
        have hu : u = ρ id := h
        rw [hu]
        exact hr id e s n sc f rfl hf
  | _ => trivial

theorem sub0_ok {k : Nat → Prop} (hk : ∀ b, keepOf g w ρ st.heap b → k b) {x y : AV} {u : Value} (hs : Sub0 st.heap x y) (hr : Reads st ρ w k x) (h : C0 (cxOf g w ρ st.heap) x u) : C0 ⟨w, k, fun _ => undef⟩ y u := by
  cases hs with
  | eq => exact see0_ok hk hr h
  | nil s sc f h0 =>
    cases h
    exact nil_reads h0

theorem sub1_ok {k : Nat → Prop} (hk : ∀ b, keepOf g w ρ st.heap b → k b) {x y : AV} {u : Value} (hs : Sub1 st.heap x y) (hr : Reads st ρ w k x) (hr' : ∀ cs, x = .agg cs → ∀ c ∈ cs, Reads st ρ w k c) (h : C2 (cxOf g w ρ st.heap) x u) : C1 ⟨w, k, fun _ => undef⟩ y u := by
  cases hs with
  | eq =>
    cases x with
    | agg cs =>
      obtain ⟨us, rfl, ha⟩ := C2.inv_agg h
      refine ⟨us, rfl, ?_⟩
      refine ⟨by simpa using ha.1, fun i y v hy hv => ?_⟩
      rw [List.getElem?_map] at hy
      cases hc : cs[i]? with
      | none => rw [hc] at hy; cases hy
      | some c =>
        rw [hc] at hy
        cases hy
        exact see0_ok hk (hr' cs rfl c (List.mem_of_getElem? hc)) (ha.2 i c v hc hv)
    | v y => exact h
    | sl s n sc f => exact C1.of0 (see0_ok (x := .sl s n sc f) hk hr h)
    | own id => exact C1.of0 (see0_ok (x := .own id) hk hr h)
    | _ => trivial
  | nil s sc f h0 =>
    obtain rfl := C2.inv_v h
    exact nil_reads h0
  | agg cs ds hl hp =>
    obtain ⟨us, rfl, ha⟩ := C2.inv_agg h
    refine ⟨us, rfl, by rw [← hl]; exact ha.1, fun i y v hy hv => ?_⟩
    have hi : i < cs.length := by
      rcases Nat.lt_or_ge i cs.length with h' | h'
      · exact h'
      · rw [List.getElem?_eq_none (by omega)] at hy; cases hy
    have hc : cs[i]? = some cs[i] := List.getElem?_eq_getElem hi
    exact sub0_ok hk (hp i _ y hc hy) (hr' cs rfl _ (List.getElem_mem hi)) (ha.2 i _ v hc hv)

theorem subL_ok {k : Nat → Prop} (hk : ∀ b, keepOf g w ρ st.heap b → k b) {xs ys : List AV} {us : List Value} (hs : SubL st.heap xs ys) (hr : ∀ x ∈ xs, Reads st ρ w k x ∧ ∀ cs, x = .agg cs → ∀ c ∈ cs, Reads st ρ w k c) (h : All2 (C2 (cxOf g w ρ st.heap)) xs us) : All2 (C1 ⟨w, k, fun _ => undef⟩) ys us := by
  refine ⟨by rw [← hs.1]; exact h.1, fun i y u hy hu => ?_⟩
  have hi : i < xs.length := by
    rcases Nat.lt_or_ge i xs.length with h' | h'
    · exact h'
    · rw [List.getElem?_eq_none (by rw [← hs.1]; exact h')] at hy; cases hy
  have hx : xs[i]? = some xs[i] := List.getElem?_eq_getElem hi
  have := hr _ (List.getElem_mem hi)
  exact sub1_ok hk (hs.2 i _ y hx hy) this.1 this.2 (h.2 i _ u hx hu)

/-- From one state to another that reads no less: some rows are done with. -/
structure Later (g : Base) (ρ : Nat → Value) (w : World) (st st' : AS) : Prop where
  keep : ∀ b, keepOf g w ρ st.heap b → keepOf g w ρ st'.heap b
  rows : ∀ id e s n sc f, findObj id st.heap = some (.row e s n sc f) → findObj id st'.heap = some (.row e s n sc f) ∨ PC w (keepOf g w ρ st'.heap) (.sl s n sc f) (ρ id)

theorem Later.refl : Later g ρ w st st := ⟨fun _ h => h, fun _ _ _ _ _ _ h => .inl h⟩
theorem Later.trans {s1 s2 s3 : AS} (h : Later g ρ w s1 s2) (k : Later g ρ w s2 s3) : Later g ρ w s1 s3 :=
  ⟨fun b hb => k.keep b (h.keep b hb), fun id e s n sc f hf => by
    rcases h.rows id e s n sc f hf with h1 | h1
    · exact k.rows id e s n sc f h1
    · exact .inr (PC.mono k.keep (fun _ _ => rfl) h1)⟩

theorem find_freeze {id i : Nat} {a : AV} {e : TypeId} {s n : Nat} {sc : Bool} {f : Nat → List AV} (hne : i ≠ id) : ∀ {h : List (Nat × AO)}, findObj i h = some (.row e s n sc f) → findObj i ((h.filter fun p => !Nat.beq p.1 id).map fun p => (p.1, p.2.thaw id a)) = some (.row e s n sc f)
  | [], h => by cases h
  | p :: h, hf => by
    simp only [findObj] at hf
    rw [List.filter_cons]
    cases hb : Nat.beq p.1 i with
    | true =>
      rw [hb] at hf
      simp only [cond_true, Option.some.injEq] at hf
      have hpi := Nat.eq_of_beq_eq_true hb
      have : Nat.beq p.1 id = false := beq_false (by rw [hpi]; exact hne)
      rw [this]
      simp only [Bool.not_false, if_true, List.map_cons, findObj, hb, cond_true, hf]
      rfl
    | false =>
      rw [hb] at hf
      have ih := find_freeze (a := a) hne (h := h) hf
      split
      · simp only [List.map_cons, findObj, hb, cond_false]
        exact ih
      · exact ih

theorem frz0_ok (R : Rel g N bs ρ a w st) (x : AV) : Rel g N bs ρ a w (frz0 st x) ∧ Later g ρ w st (frz0 st x) ∧ ∀ id e s n sc f, x = .own id → findObj id st.heap = some (.row e s n sc f) → PC w (keepOf g w ρ (frz0 st x).heap) (.sl s n sc f) (ρ id) := by
  cases x with
  | own id =>
    simp only [frz0]
    cases hf : findObj id st.heap with
    | none => exact ⟨R, Later.refl, fun id' e s n sc f hx hf' => by cases hx; rw [hf] at hf'; cases hf'⟩
    | some o =>
      cases o with
      | box t cs => exact ⟨R, Later.refl, fun id' e s n sc f hx hf' => by cases hx; rw [hf] at hf'; cases hf'⟩
      | row e s n sc f =>
        obtain ⟨R', hrow⟩ := R.freeze hf
        refine ⟨R', ⟨fun b hb => ?_, fun i e' s' n' sc' f' hf' => ?_⟩, fun id' e' s' n' sc' f' hx hf' => by cases hx; rw [hf] at hf'; cases hf'; exact hrow⟩
        · refine ⟨hb.1, hb.2.1, fun hin => hb.2.2 ?_⟩
          have : blocksOf ρ (st.freeze id s n sc f).heap = blocksOf ρ (st.heap.filter fun p => !Nat.beq p.1 id) := by simp [AS.freeze, blocksOf, List.filterMap_map, Function.comp_def]
          rw [this] at hin
          exact blocks_filter_sub hin
        · by_cases e : i = id
          · subst e
            rw [hf] at hf'
            cases hf'
            exact .inr hrow
          · exact .inl (find_freeze e hf')
  | _ => exact ⟨R, Later.refl, fun id e s n sc f hx => by cases hx⟩

theorem frz0L_ok : ∀ (l : List AV) {st : AS}, Rel g N bs ρ a w st → Rel g N bs ρ a w (l.foldl frz0 st) ∧ Later g ρ w st (l.foldl frz0 st) ∧ ∀ x ∈ l, ∀ id e s n sc f, x = .own id → findObj id st.heap = some (.row e s n sc f) → PC w (keepOf g w ρ (l.foldl frz0 st).heap) (.sl s n sc f) (ρ id)
  | [], st, R => ⟨R, Later.refl, fun x hx => by cases hx⟩
  | x :: l, st, R => by
    obtain ⟨R1, h1, k1⟩ := frz0_ok R x
    obtain ⟨R2, h2, k2⟩ := frz0L_ok l R1
    refine ⟨R2, h1.trans h2, fun y hy id e s n sc f hx hf => ?_⟩
    rcases List.mem_cons.1 hy with rfl | hy'
    · exact PC.mono h2.keep (fun _ _ => rfl) (k1 id e s n sc f hx hf)
    · rcases h1.rows id e s n sc f hf with h | h
      · exact k2 y hy' id e s n sc f hx h
      · exact PC.mono h2.keep (fun _ _ => rfl) h

theorem frz_ok (R : Rel g N bs ρ a w st) (x : AV) : Rel g N bs ρ a w (frz st x) ∧ Later g ρ w st (frz st x) ∧ Reads st ρ w (keepOf g w ρ (frz st x).heap) x ∧ ∀ cs, x = .agg cs → ∀ c ∈ cs, Reads st ρ w (keepOf g w ρ (frz st x).heap) c := by
  cases x with
  | agg cs =>
    obtain ⟨R1, h1, k1⟩ := frz0L_ok cs R
    exact ⟨R1, h1, (fun id e s n sc f hx => by cases hx), fun cs' e c hc => by cases e; exact k1 c hc⟩
  | own id =>
    obtain ⟨R1, h1, k1⟩ := frz0_ok R (.own id)
    exact ⟨R1, h1, k1, fun cs e => by cases e⟩
  | _ => exact ⟨R, Later.refl, (fun id e s n sc f hx => by cases hx), fun cs e => by cases e⟩

theorem frzL_ok : ∀ (l : List AV) {st : AS}, Rel g N bs ρ a w st → Rel g N bs ρ a w (frzL st l) ∧ Later g ρ w st (frzL st l) ∧ ∀ x ∈ l, Reads st ρ w (keepOf g w ρ (frzL st l).heap) x ∧ ∀ cs, x = .agg cs → ∀ c ∈ cs, Reads st ρ w (keepOf g w ρ (frzL st l).heap) c
  | [], st, R => ⟨R, Later.refl, fun x hx => by cases hx⟩
  | x :: l, st, R => by
    obtain ⟨R1, h1, k1, k1'⟩ := frz_ok R x
    obtain ⟨R2, h2, k2⟩ := frzL_ok l R1
    have lift : ∀ {y : AV}, Reads st ρ w (keepOf g w ρ (frz st x).heap) y → Reads st ρ w (keepOf g w ρ (frzL (frz st x) l).heap) y :=
      fun h id e s n sc f hx hf => PC.mono h2.keep (fun _ _ => rfl) (h id e s n sc f hx hf)
    have lift2 : ∀ {y : AV}, Reads (frz st x) ρ w (keepOf g w ρ (frzL (frz st x) l).heap) y → Reads st ρ w (keepOf g w ρ (frzL (frz st x) l).heap) y := by
      intro y h id e s n sc f hx hf
      rcases h1.rows id e s n sc f hf with h' | h'
      · exact h id e s n sc f hx h'
      · exact PC.mono h2.keep (fun _ _ => rfl) h'
    refine ⟨R2, h1.trans h2, fun y hy => ?_⟩
    rcases List.mem_cons.1 hy with rfl | hy'
    · exact ⟨lift k1, fun cs e c hc => lift (k1' cs e c hc)⟩
    · exact ⟨lift2 (k2 y hy').1, fun cs e c hc => lift2 ((k2 y hy').2 cs e c hc)⟩

/-- A result that a caller takes over. -/
theorem ok0_over {X Y : CX} {d : Option Nat} {x : AV} {u : Value} (hr : ok0 d x = true) (hs : noSl0 x = true ∨ (∀ b, X.keep b → Y.keep b)) (hw : Y.w = X.w) (hd : ∀ i, d = some i → Y.ρ i = X.ρ i) (h : C0 X x u) : C0 Y x u := by
  cases x with
  | v y => exact h
  | sl s n sc f =>
    rcases hs with h1 | h1
    · cases h1
    · exact PC.mono h1 (fun b _ => by rw [hw]) h
  | own i =>
    cases d with
    | none => cases hr
    | some j =>
      simp only [ok0] at hr
      have := Nat.eq_of_beq_eq_true hr
      subst this
      show u = Y.ρ i
      rw [hd i rfl]
      exact h
  | _ => cases hr

theorem ok1_over {X Y : CX} {d : Option Nat} {x : AV} {u : Value} (hr : ok1 d x = true) (hs : noSl1 x = true ∨ (∀ b, X.keep b → Y.keep b)) (hw : Y.w = X.w) (hd : ∀ i, d = some i → Y.ρ i = X.ρ i) (h : C1 X x u) : C1 Y x u := by
  cases x with
  | agg cs =>
    obtain ⟨us, e, ha⟩ := h
    refine ⟨us, e, ha.1, fun i y v hy hv => ok0_over (d := d) (List.all_eq_true.1 hr y (List.mem_of_getElem? hy)) ?_ hw hd (ha.2 i y v hy hv)⟩
    rcases hs with h1 | h1
    · exact .inl (List.all_eq_true.1 h1 y (List.mem_of_getElem? hy))
    · exact .inr h1
  | v y => exact h
  | sl s n sc f => exact ok0_over (x := .sl s n sc f) hr hs hw hd h
  | own i => exact ok0_over (x := .own i) hr hs hw hd h
  | _ => cases hr

theorem ok2_over {X Y : CX} {d : Option Nat} {x : AV} {u : Value} (hr : ok2 d x = true) (hs : noSl2 x = true ∨ (∀ b, X.keep b → Y.keep b)) (hw : Y.w = X.w) (hd : ∀ i, d = some i → Y.ρ i = X.ρ i) (h : C2 X x u) : C2 Y x u := by
  cases x with
  | tup cs =>
    obtain ⟨us, e, ha⟩ := h
    refine ⟨us, e, ha.1, fun i y v hy hv => ok1_over (d := d) (List.all_eq_true.1 hr y (List.mem_of_getElem? hy)) ?_ hw hd (ha.2 i y v hy hv)⟩
    rcases hs with h1 | h1
    · exact .inl (List.all_eq_true.1 h1 y (List.mem_of_getElem? hy))
    · exact .inr h1
  | agg cs => exact C2.of1 (ok1_over (x := .agg cs) hr hs hw hd h)
  | v y => exact h
  | sl s n sc f => exact C2.of1 (ok1_over (x := .sl s n sc f) hr hs hw hd h)
  | own i => exact C2.of1 (ok1_over (x := .own i) hr hs hw hd h)
  | _ => cases hr

theorem run_callFunc {f : FuncId} (h : Enters P f) (args : Array Value) (w : World) : (callFunc f args).run P w = .ok (.enter f args) w := by
  obtain ⟨fn, c, h1, h2, h3⟩ := h
  have h2' : ¬ fn.name = "runtime.NumGoroutine" := fun e => by rw [e] at h2; simp at h2
  simp [callFunc, h1, h2', h3, Sem.run, program]

/-- The memory that a call may read. -/
theorem acall_run (R : Rel g N bs ρ a w st) {f : FuncId} {avs : List AV} {args : List Value} (hargs : All2 (C2 (cxOf g w ρ st.heap)) avs args) {L : Lay} {W : Walk} {K : AV → AS → Prop} {d : Nat} (h : ACall P L W d f avs st K) (hin : ∀ lv fn c, P.funcs[f]? = some fn → (fn.name == "runtime.NumGoroutine") = false → fn.body = some c → Nat.ble avs.length fn.ntmps = true → W fn.ntmps lv c (fun e st' => match e with | .exit _ => False | .normal => ares L st' fn.results.toList (fun x => nrmA (st'.out) (K x)) | .ret => ares L st' fn.results.toList (fun x => nrmA (st'.out) (K x))) (st.into avs) → Calls P f args.toArray w fun e w' => ∃ u x st' ρ', e = .returned u ∧ K x st' ∧ Rel g N bs ρ' a w' st' ∧ C2 (cxOf g w' ρ' st'.heap) x u) :
    Enters P f ∧ Calls P f args.toArray w fun e w' => ∃ u x st' ρ', e = .returned u ∧ K x st' ∧ Rel g N bs ρ' a w' st' ∧ C2 (cxOf g w' ρ' st'.heap) x u := by
  have mid : ∀ (frozen : Bool), ∃ k : Nat → Prop, ∃ st1, st1 = (bif frozen then st else frzL st avs) ∧ Rel g N bs ρ a w st1 ∧ (∀ b, k b → b < w.heap.size) ∧ (∀ b, keepOf g w ρ st.heap b → k b) ∧ (∀ x ∈ avs, Reads st ρ w k x ∧ ∀ cs, x = .agg cs → ∀ c ∈ cs, Reads st ρ w k c) ∧ (frozen = false → ∀ b, k b → keepOf g w ρ st1.heap b) := by
    intro frozen
    cases frozen with
    | true =>
      refine ⟨fun b => b < w.heap.size, st, rfl, R, fun b h => h, fun b h => h.1, fun x hx => ?_, fun h => by cases h⟩
      have rd : ∀ y : AV, Reads st ρ w (fun b => b < w.heap.size) y := fun y id e s n sc f hy hf =>
        row_reads R hf (fun b h => h.1) (fun b hb => (R.lt_block (mem_blocks.2 ⟨_, findObj_mem hf, hb⟩)).1)
      exact ⟨rd x, fun cs e c hc => rd c⟩
    | false =>
      obtain ⟨R1, h1, k1⟩ := frzL_ok avs R
      exact ⟨keepOf g w ρ (frzL st avs).heap, frzL st avs, rfl, R1, fun b h => h.1, h1.keep, k1, fun _ b h => h⟩
  cases h with
  | inl lv fn c hf hn hb hsz h =>
    rw [intoK_eq] at h
    exact ⟨⟨fn, c, hf, hn, hb⟩, hin lv fn c hf hn hb hsz h⟩
  | chg hin hout r hs hh hb hK =>
    refine ⟨hs.1, (mut_run R hargs hs hh hb).mono ?_⟩
    rintro e w' ⟨u, ρ', rfl, R', hc⟩
    exact ⟨u, r, _, ρ', rfl, hK, R', hc⟩
  | plain bb r hs hsub hr hK =>
    obtain ⟨k, st1, e1, R1, hk1, hk2, hk3, hk4⟩ := mid (noSl2 r)
    rw [← e1] at hK
    refine ⟨hs.1, (hs.2 w k args hk1 (subL_ok hk2 hsub hk3 hargs)).mono ?_⟩
    rintro e w' ⟨u, ρc, rfl, hb, hc, _, _, _⟩
    refine ⟨u, r, st1, ρ, rfl, hK, R1.world hb, ?_⟩
    refine ok2_over (X := cxOf (base0 w k) w' ρc []) (d := none) hr ?_ rfl (fun i h => by cases h) hc
    cases hq : noSl2 r with
    | true => exact .inl rfl
    | false =>
      refine .inr fun b hbk => ?_
      have hkb : b < w.heap.size → keepOf g w ρ st1.heap b := fun h => hk4 hq b ((hbk.2.1 h).elim id False.elim)
      refine ⟨hbk.1, fun hlt => (hkb (by have := R.below.size; omega)).2.1 hlt, fun hin => ?_⟩
      have := (R1.lt_block hin).1
      exact (hkb this).2.2 hin
  | fresh bb r e s n sc f' hs hsub hr hK =>
    obtain ⟨k, st1, e1, R1, hk1, hk2, hk3, hk4⟩ := mid (noSl2 r && sc)
    rw [← e1] at hK
    refine ⟨hs.1, (hs.2 w k args hk1 (subL_ok hk2 hsub hk3 hargs)).mono ?_⟩
    rintro e0 w' ⟨u, ρc, rfl, hb, hc, ho, hnd, hnew⟩
    obtain ⟨us, hown, hs0, hfl, hsc, ha⟩ := ho _ (List.mem_singleton.2 rfl)
    have hown : w'.ownsRow 0 e s (ρc d) n us := hown
    have hBw := R.below.size
    have hkeep : (noSl2 r && sc) = false → ∀ b, keepOf (base0 w k) w' ρc [(d, .row e s n sc f')] b → keepOf g w' (reρ ρ d (ρc d)) (st1.obj d d (.row e s n sc f')).heap b := by
      intro hq b hbk
      have hkb : b < w.heap.size → keepOf g w ρ st1.heap b := fun h => hk4 hq b ((hbk.2.1 h).elim id False.elim)
      refine ⟨hbk.1, fun hlt => (hkb (by omega)).2.1 hlt, fun hin => ?_⟩
      have hbl : blocksOf (reρ ρ d (ρc d)) (st1.obj d d (.row e s n sc f')).heap = (blk (ρc d)).toList ++ blocksOf ρ (gone d d st1.heap) := by
        show blocksOf _ (_ :: _) = _
        rw [blocks_cons, blocks_reρ, blocks_scrub]
        · simp [reρ]
        · intro p hp
          simp only [scrubH, List.mem_map] at hp
          obtain ⟨q, hq, rfl⟩ := hp
          exact (mem_gone.1 hq).2.1
      rw [hbl, List.mem_append] at hin
      rcases hin with h1 | h1
      · exact hbk.2.2 (by rw [blocks_cons]; exact List.mem_append_left _ h1)
      · have hin' := blocks_filter_sub h1
        exact (hkb (R1.lt_block hin').1).2.2 hin'
    have hblk : ∀ b, blk (ρc d) = some b → w.heap.size ≤ b := fun b hb' => hnew b (mem_blocks.2 ⟨_, List.mem_singleton.2 rfl, hb'⟩)
    have R2 : Rel g N bs (reρ ρ d (ρc d)) a w' (st1.obj d d (.row e s n sc f')) := by
      refine R1.obj d d (R.below.then hb hBw) hb.size (fun b hlt _ => hb.block b hlt) (fun b hb' => .inl (hblk b hb')) (fun hE => ?_)
      refine ⟨us, by simpa [cxOf, reρ] using hown, hs0, hfl, hsc, ?_⟩
      cases hq : (noSl2 r && sc) with
      | true =>
        simp only [Bool.and_eq_true] at hq
        refine ⟨ha.1, fun i x u hx hu => ?_⟩
        obtain ⟨y, rfl⟩ := hsc hq.2 x (List.mem_of_getElem? hx)
        have := ha.2 i _ u hx hu
        cases this with
        | v _ h1 => exact .v _ h1
      | false => exact ha.imp fun _ _ => PC.mono (hkeep hq) fun _ _ => rfl
    refine ⟨u, r, _, _, rfl, hK, R2, ?_⟩
    refine ok2_over (X := cxOf (base0 w k) w' ρc [(d, .row e s n sc f')]) (d := some d) hr ?_ rfl (fun i h => by cases h; simp [cxOf, reρ]) hc
    cases hq : (noSl2 r && sc) with
    | true => simp only [Bool.and_eq_true] at hq; exact .inl hq.1
    | false => exact .inr (hkeep hq)
end
end Go.Proofs.Ytbmojelnkldecaa
