/-
  The abstract machine is right: each operation of the model does what the abstract one says (reads, values).
-/
import Derived.Test.YtbmojelnkldecaaAmOps
import Derived.Deep.Draws
namespace Go.Proofs.Ytbmojelnkldecaa
open Go.RowKit

theorem fact_of {P : Program} {L : Lay} (hL : LayOk P L) {t : TypeId} {i : TI} (h : layGet L t = some i) :
    ∃ info z d, P.info? t = some info ∧ P.underlying t = some d ∧ info.zero = some z ∧ info.size = i.size ∧ info.bytes = i.bytes ∧ z.cells.toList = i.zero ∧ kindOf d = i.kind := by
  have hf := hL t i h
  unfold factOf at hf
  split at hf
  · rename_i info d h1 h2
    cases hz : info.zero with
    | none => rw [hz] at hf; cases hf
    | some z =>
      rw [hz] at hf
      simp only [Option.map_some, Option.some.injEq] at hf
      subst hf
      exact ⟨info, z, d, h1, h2, hz, rfl, rfl, rfl, rfl⟩
  · cases hf

section
variable {P : Program} {L : Lay}

theorem run_size (hL : LayOk P L) {t : TypeId} {i : TI} (h : layGet L t = some i) (w : World) : (sizeOf t).run P w = .ok i.size w := by
  obtain ⟨info, z, d, h1, h2, h3, h4, _⟩ := fact_of hL h
  simp [sizeOf, typeInfo, h1, h4]

theorem run_isAgg' (hL : LayOk P L) {t : TypeId} {i : TI} (h : layGet L t = some i) (w : World) : (isAgg t).run P w = .ok i.isAgg w := by
  obtain ⟨info, z, d, h1, h2, h3, h4, h5, h6, h7⟩ := fact_of hL h
  unfold isAgg
  rw [Sem.run_bind, run_underlying h2 w]
  unfold TI.isAgg
  rw [← h7]
  cases d <;> rfl

theorem run_zero (hL : LayOk P L) {t : TypeId} {i : TI} (h : layGet L t = some i) (w : World) : ∃ z, (zeroValue t).run P w = .ok z w ∧ z.cells.toList = i.zero := by
  obtain ⟨info, z, d, h1, h2, h3, h4, h5, h6, h7⟩ := fact_of hL h
  exact ⟨z, by simp [zeroValue, typeInfo, h1, h3], h6⟩

theorem C2.inv_v {X : CX} {x u : Value} (h : C2 X (.v x) u) : u = x := h
theorem C2.inv_box {X : CX} {id k : Nat} {u : Value} (h : C2 X (.box id k) u) : ∃ b, X.ρ id = .pointer (some ⟨b, 0, none⟩) ∧ u = .pointer (some ⟨b, k, none⟩) := h
theorem C2.inv_el {X : CX} {cs : List AV} {k : Nat} {u : Value} (h : C2 X (.el cs k) u) : ∃ b o us, u = .pointer (some ⟨b, o + k, none⟩) ∧ X.keep b ∧ All2 (PC X.w X.keep) cs us ∧ ∀ (j : Nat) (y : Value), us[j]? = some y → X.w.cell? ⟨b, o + j, none⟩ = some y := h
theorem C2.inv_eown {X : CX} {id s i k : Nat} {u : Value} (h : C2 X (.eown id s i k) u) : ∃ b n c, X.ρ id = .slice (some ⟨b, 0, none⟩) n c ∧ u = .pointer (some ⟨b, i * s + k, none⟩) := h
theorem C2.inv_agg {X : CX} {cs : List AV} {u : Value} (h : C2 X (.agg cs) u) : ∃ us, u = .agg us.toArray ∧ All2 (C0 X) cs us := h
theorem C2.inv_tup {X : CX} {vs : List AV} {u : Value} (h : C2 X (.tup vs) u) : ∃ us, u = .tuple us.toArray ∧ All2 (C1 X) vs us := h
theorem C2.inv_fn {X : CX} {g : FuncId} {vs : List AV} {u : Value} (h : C2 X (.fn g vs) u) : ∃ us, u = .func (.func g) #[] us.toArray ∧ All2 (C0 X) vs us := h
theorem C2.inv_sl {X : CX} {s n : Nat} {sc : Bool} {f : Nat → List AV} {u : Value} (h : C2 X (.sl s n sc f) u) : PC X.w X.keep (.sl s n sc f) u := h
theorem C2.inv_own {X : CX} {id : Nat} {u : Value} (h : C2 X (.own id) u) : u = X.ρ id := h

theorem All2.vs {X : CX} : ∀ us : List Value, All2 (C0 X) (us.map .v) us
  | [] => All2.nil
  | u :: us => All2.cons (show C0 X (.v u) u from rfl) (All2.vs us)

variable {g : Base} {N : Nat} {bs : List (Array Value)} {ρ : Nat → Value} {a : Act} {w : World} {st : AS}

theorem Rel.ev (R : Rel g N bs ρ a w st) (x : Operand) : C2 (cxOf g w ρ st.heap) (st.ev x) (a.eval x) := by
  cases x with
  | tmp t => exact R.tmps t
  | const v =>
    cases v with
    | agg cs => exact ⟨cs.toList, by simp [Act.eval], All2.vs _⟩
    | _ => rfl
  | global g => trivial
  | func f => exact ⟨[], rfl, All2.nil⟩

theorem wp_value {o : Oper} {next : Act → World → Prop} {Q : Exit → Act → World → Prop} {u : Value} {w' : World} (hrun : (execOp a.eval o).run P w = .ok (.value u) w') (h : next (a.put o.dst u) w') : o.wp P a w next Q := by
  unfold Oper.wp
  rw [hrun]
  exact h

/-- Reading a variable out of known cells. -/
theorem ld_run (hL : LayOk P L) {t : TypeId} {i : TI} (hi : layGet L t = some i) {X : CX} {cs : List AV} {k : Nat} {K : AV → Prop} (h : ld i cs k K) {b o : Nat} {us : List Value} (ha : All2 (C0 X) cs us)
    (hc : ∀ (j : Nat) (y : Value), us[j]? = some y → X.w.cell? ⟨b, o + j, none⟩ = some y) : ∃ x u, K x ∧ C2 X x u ∧ (loadVar t ⟨b, o + k, none⟩).run P X.w = .ok u X.w := by
  unfold ld at h
  cases hg : i.isAgg with
  | true =>
    rw [hg] at h
    simp only [cond_true] at h
    cases hb : Nat.ble (k + i.size) cs.length with
    | false => rw [hb] at h; exact h.elim
    | true =>
      rw [hb] at h
      have hle := Nat.le_of_ble_eq_true hb
      refine ⟨_, .agg ((us.drop k).take i.size).toArray, h, ⟨_, rfl, (ha.drop k).take i.size⟩, ?_⟩
      have hlen : ((us.drop k).take i.size).length = i.size := by rw [List.length_take, List.length_drop, ← ha.1]; omega
      have hl := run_loadCells_list (P := P) X.w ⟨b, o + k, none⟩ ((us.drop k).take i.size) (fun j v hv => by
        rw [Addr.add_lit]
        rw [List.getElem?_take] at hv
        split at hv
        · rw [List.getElem?_drop] at hv
          rw [Nat.add_assoc]
          exact hc _ _ hv
        · cases hv)
      rw [hlen] at hl
      simp only [loadVar, Sem.run_bind, run_isAgg' hL hi, hg, Result.andThen_ok, if_true, run_size hL hi, hl, Sem.run_pure]
  | false =>
    rw [hg] at h
    simp only [cond_false] at h
    cases hb : Nat.ble (k + 1) cs.length with
    | false => rw [hb] at h; exact h.elim
    | true =>
      rw [hb] at h
      have hle := Nat.le_of_ble_eq_true hb
      have hx : cs[k]? = some (cs.getD k .junk) := by simp [List.getD, List.getElem?_eq_getElem (show k < cs.length by omega)]
      obtain ⟨u, hu, hr⟩ := ha.get hx
      refine ⟨_, u, h, C2.of0 hr, ?_⟩
      have := hc _ _ hu
      simp [loadVar, Sem.run_bind, run_isAgg' hL hi, hg, this]

theorem aload_run (hL : LayOk P L) (R : Rel g N bs ρ a w st) {t : TypeId} {p : AV} {pv : Value} (hp : C2 (cxOf g w ρ st.heap) p pv) {K : AV → Prop} (h : aload L st t p K) :
    ∃ x u, K x ∧ C2 (cxOf g w ρ st.heap) x u ∧ (Instr.loadAt t pv).run P w = .ok u w := by
  unfold aload at h
  cases hi : layGet L t with
  | none => rw [hi] at h; exact h.elim
  | some i =>
    rw [hi] at h
    cases p with
    | box id k =>
      obtain ⟨b, hb, rfl⟩ := C2.inv_box hp
      dsimp only at h
      cases hf : findObj id st.heap with
      | none => rw [hf] at h; exact h.elim
      | some o =>
        rw [hf] at h
        cases o with
        | row => exact h.elim
        | box t' cs =>
          obtain ⟨b', us, e, hh, ha⟩ := R.objs _ (findObj_mem hf)
          have hb : ρ id = _ := hb
          have e : ρ id = _ := e
          rw [hb] at e
          cases e
          obtain ⟨x, u, hk, hc, hr⟩ := ld_run hL hi h (o := 0) ha (fun j y hy => by
            rw [cell_of_row _ _ _ _ _ _ hh]; simpa using hy)
          refine ⟨x, u, hk, hc, ?_⟩
          simpa [Instr.loadAt, Instr.sureAddr, cxOf] using hr
    | el cs k =>
      obtain ⟨b, o, us, rfl, kb, ha, hc⟩ := C2.inv_el hp
      obtain ⟨x, u, hk, hc, hr⟩ := ld_run hL hi h (ha.imp fun _ _ => C0.ofPC) hc
      refine ⟨x, u, hk, hc, ?_⟩
      simpa [Instr.loadAt, Instr.sureAddr, cxOf] using hr
    | eown id s j k =>
      obtain ⟨b, n, c, hb, rfl⟩ := C2.inv_eown hp
      dsimp only at h
      cases hf : findObj id st.heap with
      | none => rw [hf] at h; exact h.elim
      | some o =>
        rw [hf] at h
        cases o with
        | box => exact h.elim
        | row e s' m sc f =>
          dsimp only at h
          cases hs : Nat.beq s s' with
          | false => rw [hs] at h; exact h.elim
          | true =>
            rw [hs] at h
            obtain rfl := Nat.eq_of_beq_eq_true hs
            simp only [cond_true] at h
            cases hj : Nat.ble (j + 1) m with
            | false => rw [hj] at h; exact h.elim
            | true =>
              rw [hj] at h
              have hjm := Nat.le_of_ble_eq_true hj
              obtain ⟨us, hown, hs0, hfl, hsc, ha⟩ := R.objs _ (findObj_mem hf)
              have hb : ρ id = _ := hb
              have hown : w.ownsRow 0 e s (ρ id) m us := hown
              rw [hb] at hown
              have hcell := hown.cells (g := b) rfl
              obtain ⟨hseg⟩ : All2 (PC w (keepOf g w ρ st.heap)) (f j) ((us.drop (j * s)).take s) ∧ True := ⟨seg ha hfl (by omega), trivial⟩
              obtain ⟨x, u, hk, hc, hr⟩ := ld_run (X := cxOf g w ρ st.heap) hL hi h (o := j * s) (hseg.imp fun _ _ => C0.ofPC (X := cxOf g w ρ st.heap)) (fun i y hy => by
                rw [List.getElem?_take] at hy
                split at hy
                · rw [List.getElem?_drop] at hy
                  have := hcell _ _ hy
                  rwa [Addr.add_lit, Nat.zero_add] at this
                · cases hy)
              refine ⟨x, u, hk, hc, ?_⟩
              simpa [Instr.loadAt, Instr.sureAddr, cxOf] using hr
    | _ => exact h.elim
where
  seg {R : AV → Value → Prop} {s : Nat} : ∀ {n : Nat} {f : Nat → List AV} {us : List Value} {j : Nat}, All2 R (flat n f) us → (∀ i, i < n → (f i).length = s) → j < n → All2 R (f j) ((us.drop (j * s)).take s)
    | 0, _, _, _, _, _, h => absurd h (by omega)
    | n + 1, f, us, 0, ha, hl, _ => by
      have h := ha.take s
      have e : (flat (n + 1) f).take s = f 0 := by
        show (f 0 ++ _).take s = _
        rw [← hl 0 (by omega)]; exact List.take_left
      rw [e] at h
      simpa using h
    | n + 1, f, us, j + 1, ha, hl, hj => by
      have h := ha.drop s
      have e : (flat (n + 1) f).drop s = flat n (fun i => f (i + 1)) := by
        show (f 0 ++ _).drop s = _
        rw [← hl 0 (by omega)]; exact List.drop_left
      rw [e] at h
      have := seg (j := j) h (fun i hi => hl (i + 1) (by omega)) (by omega)
      rw [List.drop_drop, show s + j * s = (j + 1) * s by rw [Nat.succ_mul]; omega] at this
      exact this
end
end Go.Proofs.Ytbmojelnkldecaa
