/-
  The abstract machine is right: new objects, stores, literals.
-/
import Derived.Test.YtbmojelnkldecaaAmSndC
import Derived.Test.YtbmojelnkldecaaMem
namespace Go.Proofs.Ytbmojelnkldecaa
open Go.RowKit

section
variable {P : Program} {L : Lay} {g : Base} {N : Nat} {bs : List (Array Value)} {ρ : Nat → Value} {a : Act} {w : World} {st : AS}

theorem cells_one {u : Value} (h : u.oneCell' = true) : u.cells.toList = [u] := by cases u <;> first | rfl | (simp [Value.oneCell'] at h)

theorem one_val (R : Rel g N bs ρ a w st) {x : AV} {u : Value} (h : C0 (cxOf g w ρ st.heap) x u) (ho : oneB st.heap x = true) : u.oneCell' = true := by
  cases x with
  | v y => cases h; exact ho
  | sl s n sc f =>
    cases (show PC _ _ _ _ from h) with
    | sl => rfl
  | own id =>
    have hu : u = ρ id := h
    simp only [oneB] at ho
    cases hf : findObj id st.heap with
    | none => rw [hf] at ho; cases ho
    | some o =>
      rw [hf] at ho
      cases o with
      | box => cases ho
      | row e s n sc f =>
        obtain ⟨us, hown, _⟩ := R.objs _ (findObj_mem hf)
        have hown : w.ownsRow 0 e s (ρ id) n us := hown
        rcases hown.2 with ⟨hv, _⟩ | ⟨b, cap, cur, hv, _⟩ <;> rw [hu, hv] <;> rfl
  | eown id s i k => obtain ⟨b, n, c, _, rfl⟩ := h; rfl
  | box id k => obtain ⟨b, _, rfl⟩ := h; rfl
  | el cs k => obtain ⟨b, o, us, rfl, _⟩ := h; rfl
  | agg cs => cases ho
  | tup cs => cases ho
  | fn gg cs => cases ho
  | junk => cases ho

/-- A value's cells. -/
theorem cells_all (R : Rel g N bs ρ a w st) {x : AV} {xs : List AV} {u : Value} (h : C2 (cxOf g w ρ st.heap) x u) (hc : x.cells? = some xs) (hone : xs.all (oneB st.heap) = true) :
    All2 (C0 (cxOf g w ρ st.heap)) xs u.cells.toList ∧ ∀ y ∈ u.cells.toList, y.oneCell' = true := by
  have key : All2 (C0 (cxOf g w ρ st.heap)) xs u.cells.toList := by
    have one : ∀ {x : AV}, x.cells? = some [x] → xs = [x] → C0 (cxOf g w ρ st.heap) x u → All2 (C0 (cxOf g w ρ st.heap)) xs u.cells.toList := by
      intro x _ e h0
      subst e
      have := one_val R h0 (by simpa using hone)
      rw [cells_one this]
      exact All2.cons h0 All2.nil
    cases x with
    | agg cs =>
      obtain ⟨us, rfl, ha⟩ := C2.inv_agg h
      simp only [AV.cells?, Option.some.injEq] at hc
      subst hc
      simpa [Value.cells] using ha
    | tup vs => cases hc
    | fn gg cs => cases hc
    | junk =>
      simp only [AV.cells?, Option.some.injEq] at hc
      subst hc
      simp [oneB] at hone
    | v y => exact one (x := .v y) rfl (by simpa [AV.cells?] using hc.symm) h
    | sl s n sc f => exact one (x := .sl s n sc f) rfl (by simpa [AV.cells?] using hc.symm) h
    | own id => exact one (x := .own id) rfl (by simpa [AV.cells?] using hc.symm) h
    | eown id s i k => exact one (x := .eown id s i k) rfl (by simpa [AV.cells?] using hc.symm) h
    | box id k => exact one (x := .box id k) rfl (by simpa [AV.cells?] using hc.symm) h
    | el cs k => exact one (x := .el cs k) rfl (by simpa [AV.cells?] using hc.symm) h
  refine ⟨key, fun y hy => ?_⟩
  obtain ⟨i, hi, rfl⟩ := List.getElem_of_mem hy
  have hx : xs[i]? = some (xs[i]'(by rw [key.1]; exact hi)) := List.getElem?_eq_getElem _
  have h0 := key.2 i _ _ hx (List.getElem?_eq_getElem hi)
  exact one_val R h0 (List.all_eq_true.1 hone _ (List.getElem_mem _))

theorem Rel.newBox (R : Rel g N bs ρ a w st) (d : Nat) (t : TypeId) {cs : List AV} {us : List Value} (ha : All2 (C0 (cxOf g w ρ st.heap)) cs us) :
    Rel g N bs (reρ ρ d (.pointer (some ⟨w.heap.size, 0, none⟩))) a (w.alloc (.cells us.toArray t)) (st.obj d d (.box t cs)) := by
  refine R.obj d d (R.below.alloc R.below.size _) (by simp) (fun b hb _ => Below.heap_alloc w _ b hb) (fun b hb => ?_) (fun hE => ?_)
  · cases hb; exact .inl (Nat.le_refl _)
  · exact ⟨w.heap.size, us, by simp [cxOf, reρ], heap_alloc_new w _, ha.mapl fun _ _ => C0.ext hE⟩

theorem flat_len {s : Nat} {n : Nat} {f : Nat → List AV} (h : ∀ i, i < n → (f i).length = s) : (flat n f).length = n * s := aindexAddr_run.flat_length h

theorem flat_congr : ∀ {n : Nat} {f f' : Nat → List AV}, (∀ i, i < n → f i = f' i) → flat n f = flat n f'
  | 0, _, _, _ => rfl
  | n + 1, f, f', h => by
    show f 0 ++ _ = f' 0 ++ _
    rw [h 0 (by omega), flat_congr (fun i hi => h (i + 1) (by omega))]

theorem flat_chunk {s : Nat} : ∀ {n : Nat} {cs : List AV}, cs.length = n * s → flat n (chunk s cs) = cs
  | 0, cs, h => by
    have : cs = [] := List.eq_nil_of_length_eq_zero (by simpa using h)
    subst this; rfl
  | n + 1, cs, h => by
    show chunk s cs 0 ++ flat n (fun i => chunk s cs (i + 1)) = cs
    have e : (fun i => chunk s cs (i + 1)) = chunk s (cs.drop s) := by
      funext i
      simp [chunk, List.drop_drop, Nat.succ_mul, Nat.add_comm]
    rw [e, flat_chunk (by rw [List.length_drop, h, Nat.succ_mul]; omega)]
    simp [chunk]

theorem chunk_len {s n : Nat} {cs : List AV} (h : cs.length = n * s) : ∀ i, i < n → (chunk s cs i).length = s := by
  intro i hi
  have : (i + 1) * s ≤ n * s := Nat.mul_le_mul_right _ hi
  rw [Nat.succ_mul] at this
  rw [chunk, List.length_take, List.length_drop, h]
  omega

theorem pure_of {x : AV} {X : CX} {u : Value} (h : C0 X x u) (hp : pureB x = true) : PC X.w X.keep x u := by
  cases x with
  | v y => cases h; exact .v _ hp
  | sl s n sc f => exact h
  | _ => cases hp

theorem pure_scrub {d : Nat} : ∀ {xs : List AV}, xs.all pureB = true → xs.map (scrub0 d) = xs
  | [], _ => rfl
  | x :: xs, h => by
    simp only [List.all_cons, Bool.and_eq_true] at h
    rw [List.map_cons, pure_scrub h.2]
    cases x <;> first | rfl | (simp [pureB] at h)

/-- A new row of the call's own. -/
theorem Rel.newRow (R : Rel g N bs ρ a w st) (d : Nat) (e : TypeId) {s n : Nat} {sc : Bool} {f : Nat → List AV} {us : List Value} (hs : 0 < s) (hn : n ≤ maxLen) (hf : ∀ i, i < n → (f i).length = s) (hsc : sc = true → ∀ x ∈ flat n f, ∃ y, x = .v y)
    (ha : All2 (PC w (keepOf g w ρ st.heap)) (flat n f) us) :
    Rel g N bs (reρ ρ d (.slice (some ⟨w.heap.size, 0, none⟩) n n)) a (w.alloc (.cells us.toArray e)) (st.obj d d (.row e s n sc f)) := by
  refine R.obj d d (R.below.alloc R.below.size _) (by simp) (fun b hb _ => Below.heap_alloc w _ b hb) (fun b hb => ?_) (fun hE => ?_)
  · cases hb; exact .inl (Nat.le_refl _)
  · have hlen : us.length = n * s := by rw [← ha.1, flat_len hf]
    refine ⟨us, ⟨hlen, .inr ⟨w.heap.size, n, us.toArray, by simp [cxOf, reρ], Nat.zero_le _, heap_alloc_new w _, Nat.le_refl _, hn, by simpa using hlen, ?_⟩⟩, hs, hf, hsc, ha.imp fun _ _ => PC.mono hE.keep hE.mem⟩
    rw [← hlen]
    exact List.take_length

theorem fold_splice (vs : List Value) : ∀ (k : Nat) (off : Nat) (cells : Array Value), off + k + vs.length ≤ cells.size →
    ((vs.zipIdx k).foldl (fun cs (p : Value × Nat) => cs.setIfInBounds (off + p.2) p.1) cells).toList = cells.toList.take (off + k) ++ (vs ++ cells.toList.drop (off + k + vs.length)) := by
  induction vs with
  | nil => intro k off cells _; simp
  | cons v vs ih =>
    intro k off cells h
    simp only [List.zipIdx_cons, List.foldl_cons]
    simp only [List.length_cons] at h
    rw [ih (k + 1) off _ (by simp; omega)]
    simp only [Array.toList_setIfInBounds, List.length_cons]
    have e := list_seg_step cells.toList (off + k) v vs (by simp; omega)
    have e1 : off + (k + 1) = off + k + 1 := by omega
    have e2 : off + k + 1 + vs.length = off + k + (vs.length + 1) := by omega
    rw [e1]
    simpa [e2] using e

theorem fill_ok (R : Rel g N bs ρ a w st) {place : Nat → Option (Nat × Nat)} : ∀ {parts : List (Nat × AV)} {pv : List (Nat × Value)} {cs cs' : List AV} {cells : Array Value}, All2 (C0 (cxOf g w ρ st.heap)) cs cells.toList →
    parts.length = pv.length → (∀ (i : Nat) (p : Nat × AV) (q : Nat × Value), parts[i]? = some p → pv[i]? = some q → p.1 = q.1 ∧ C2 (cxOf g w ρ st.heap) p.2 q.2) → fillA st.heap place cs parts = some cs' →
    ∃ cells' : Array Value, Instr.fill place cells pv = some cells' ∧ All2 (C0 (cxOf g w ρ st.heap)) cs' cells'.toList
  | [], pv, cs, cs', cells, ha, hl, _, h => by
    have : pv = [] := List.eq_nil_of_length_eq_zero (by simpa using hl.symm)
    subst this
    simp only [fillA, Option.some.injEq] at h
    subst h
    exact ⟨cells, rfl, ha⟩
  | (i, x) :: r, [], _, _, _, _, hl, _, _ => by simp at hl
  | (i, x) :: r, (j, v) :: pv, cs, cs', cells, ha, hl, hp, h => by
    obtain ⟨hij, hc⟩ := hp 0 _ _ rfl rfl
    dsimp only at hij hc
    subst hij
    simp only [fillA] at h
    cases hpl : place i with
    | none => simp [hpl] at h
    | some os =>
      obtain ⟨o, s⟩ := os
      cases hxs : x.cells? with
      | none => simp [hpl, hxs] at h
      | some xs =>
        simp only [hpl, hxs] at h
        cases hb : (Nat.beq xs.length s && Nat.ble (o + xs.length) cs.length && xs.all (oneB st.heap)) with
        | false => rw [hb] at h; cases h
        | true =>
          rw [hb] at h
          simp only [cond_true] at h
          simp only [Bool.and_eq_true] at hb
          obtain ⟨⟨h1, h2⟩, h3⟩ := hb
          have h1 := Nat.eq_of_beq_eq_true h1
          have h2 := Nat.le_of_ble_eq_true h2
          obtain ⟨hcells, _⟩ := cells_all R hc hxs h3
          have hlv : v.cells.size = xs.length := by rw [← Array.length_toList]; exact hcells.1.symm
          have hlc : cells.size = cs.length := by rw [← Array.length_toList]; exact ha.1.symm
          have hfold : (v.cells.zipIdx.foldl (fun cs (p : Value × Nat) => cs.setIfInBounds (o + p.2) p.1) cells).toList = cells.toList.take o ++ (v.cells.toList ++ cells.toList.drop (o + v.cells.toList.length)) := by
            rw [← Array.foldl_toList, Array.toList_zipIdx]
            exact fold_splice v.cells.toList 0 o cells (by simp; omega)
          have hnew : All2 (C0 (cxOf g w ρ st.heap)) (splice cs o xs) (v.cells.zipIdx.foldl (fun cs (p : Value × Nat) => cs.setIfInBounds (o + p.2) p.1) cells).toList := by
            rw [hfold]
            have := (ha.take o).app (hcells.app (ha.drop (o + xs.length)))
            rw [show o + xs.length = o + v.cells.toList.length by rw [← hcells.1]] at this
            unfold splice
            rw [show o + xs.length = o + v.cells.toList.length by rw [← hcells.1]]
            exact this
          obtain ⟨cells', hf, ha'⟩ := fill_ok R (place := place) hnew (by simpa using hl) (fun k p q hk hq => hp (k + 1) p q (by simpa using hk) (by simpa using hq)) h
          refine ⟨cells', ?_, ha'⟩
          simp only [Instr.fill, hpl]
          rw [if_neg (by simp; omega)]
          exact hf

theorem splice_all {X : CX} {cs xs : List AV} {us vs : List Value} (h : All2 (C0 X) cs us) (k : Nat) (hx : All2 (C0 X) xs vs) : All2 (C0 X) (splice cs k xs) (us.take k ++ vs ++ us.drop (k + vs.length)) := by
  unfold splice
  rw [List.append_assoc, hx.1]
  exact (h.take k).app (hx.app (h.drop _))

theorem setRow_below {w : World} {b : Nat} {cs : Array Value} : Below b w (w.setRow b cs) := ⟨rfl, rfl, rfl, by simp [World.setRow], fun k hk => setRow_other w b k _ (by omega)⟩

theorem astore_run (hL : LayOk P L) (R : Rel g N bs ρ a w st) {t : TypeId} {p x : AV} {pv xv : Value} (hp : C2 (cxOf g w ρ st.heap) p pv) (hx : C2 (cxOf g w ρ st.heap) x xv) {K : AS → Prop} (h : astore L st t p x K) :
    ∃ st' w', K st' ∧ Rel g N bs ρ a w' st' ∧ (Instr.storeAt t pv xv).run P w = .ok () w' := by
  unfold astore at h
  split at h
  · rename_i i id k xs hi hxs
    obtain ⟨b, hb, rfl⟩ := C2.inv_box hp
    cases hq : (Nat.beq xs.length i.size && xs.all (oneB st.heap)) with
    | false => rw [hq] at h; exact h.elim
    | true =>
      rw [hq] at h
      simp only [cond_true] at h
      simp only [Bool.and_eq_true] at hq
      have hsz := Nat.eq_of_beq_eq_true hq.1
      obtain ⟨hcells, hone⟩ := cells_all R hx hxs hq.2
      split at h
      · rename_i t' cs hfo
        cases hle : Nat.ble (k + xs.length) cs.length with
        | false => rw [hle] at h; exact h.elim
        | true =>
          rw [hle] at h
          have hle := Nat.le_of_ble_eq_true hle
          obtain ⟨b', us, e, hh, ha⟩ := R.objs _ (findObj_mem hfo)
          have hb : ρ id = _ := hb
          have e : ρ id = _ := e
          rw [hb] at e
          cases e
          have hh : w.heap[b]? = some (.cells us.toArray t' (0, 0)) := hh
          have hlen : xv.cells.toList.length = xs.length := hcells.1.symm
          have hul : us.length = cs.length := ha.1.symm
          have hsize0 : xv.cells.size = xs.length := by rw [← Array.length_toList]; exact hlen
          have hrun := run_storeCells_at P b k t' xv.cells.toList 0 us.toArray w hh (by simp; omega) hone
          have hnew : All2 (C0 (cxOf g w ρ st.heap)) (splice cs k xs) (us.take (k + 0) ++ xv.cells.toList ++ us.drop (k + 0 + xv.cells.toList.length)) := by
            have := splice_all ha k hcells
            simpa using this
          refine ⟨_, w.setRow b (us.toArray.toList.take (k + 0) ++ xv.cells.toList ++ us.toArray.toList.drop (k + 0 + xv.cells.toList.length)).toArray, h, ?_, ?_⟩
          · refine R.write hfo (b := b) (by rw [hb]; rfl) setRow_below (by simp [World.setRow]) (fun k' hk' => setRow_other w b k' _ (by omega)) (fun hk hm => ?_)
            exact ⟨b, _, hb, setRow_heap w b _ _ t' _ hh, hnew.imp fun _ _ => C0.same (X := cxOf g w ρ st.heap) (Y := cxOf g _ ρ (setObj id _ st.heap)) hk hm rfl⟩
          · have hsize : ¬ xv.cells.size ≠ i.size := by
              rw [← Array.length_toList, hlen, hsz]; simp
            simp only [Instr.storeAt, Instr.sureAddr, Sem.run_bind, Sem.run_pure, Result.andThen_ok, storeVar, run_size hL hi, if_neg hsize]
            exact hrun
      · exact h.elim
  · rename_i i id s j k xs hi hxs
    obtain ⟨b, n0, c0, hb, rfl⟩ := C2.inv_eown hp
    cases hq : (Nat.beq xs.length i.size && xs.all pureB) with
    | false => rw [hq] at h; exact h.elim
    | true =>
      rw [hq] at h
      simp only [cond_true] at h
      simp only [Bool.and_eq_true] at hq
      have hsz := Nat.eq_of_beq_eq_true hq.1
      have hpure := hq.2
      have hone' : xs.all (oneB st.heap) = true := by
        rw [List.all_eq_true] at hpure ⊢
        intro y hy
        have := hpure y hy
        cases y <;> first | exact this | rfl | (simp [pureB] at this)
      obtain ⟨hcells, hone⟩ := cells_all R hx hxs hone'
      split at h
      · rename_i e s' n sc f hfo
        cases hs : (Nat.beq s s' && Nat.ble (k + xs.length) s) with
        | false => rw [hs] at h; exact h.elim
        | true =>
          rw [hs] at h
          simp only [cond_true] at h
          simp only [Bool.and_eq_true] at hs
          obtain rfl := Nat.eq_of_beq_eq_true hs.1
          have hks := Nat.le_of_ble_eq_true hs.2
          cases hj : Nat.ble (j + 1) n with
          | false => rw [hj] at h; exact h.elim
          | true =>
            rw [hj] at h
            have hjn := Nat.le_of_ble_eq_true hj
            obtain ⟨us, hown, hs0, hfl, hsc, ha⟩ := R.objs _ (findObj_mem hfo)
            have hown : w.ownsRow 0 e s (ρ id) n us := hown
            have ha : All2 (PC w (keepOf g w ρ st.heap)) (flat n f) us := ha
            have hb : ρ id = _ := hb
            rw [hb] at hown
            rcases hown.2 with ⟨hv, _⟩ | ⟨b', cap, cur, hv, hB, hh, hnc, hcm, hcs, htake⟩
            · cases hv
            · simp only [Value.slice.injEq, Option.some.injEq, Addr.mk.injEq] at hv
              obtain ⟨⟨hv1, _⟩, hv2, hv3⟩ := hv
              obtain rfl := hv1
              obtain rfl := hv2.symm
              obtain rfl := hv3
              have hul : us.length = n * s := hown.1
              have hlen : xv.cells.toList.length = xs.length := hcells.1.symm
              have hjs : (j + 1) * s ≤ n * s := Nat.mul_le_mul_right _ hjn
              rw [Nat.succ_mul] at hjs
              have hns : n * s ≤ c0 * s := Nat.mul_le_mul_right _ hnc
              have hsize : xv.cells.size = xs.length := by rw [← Array.length_toList]; exact hlen
              have hrun := run_storeCells_at P b (j * s + k) e xv.cells.toList 0 cur w hh (by simp; omega) hone
              have hpc : All2 (PC w (keepOf g w ρ st.heap)) xs xv.cells.toList := ⟨hcells.1, fun q y u hy hu => pure_of (hcells.2 q y u hy hu) (List.all_eq_true.1 hpure y (List.mem_of_getElem? hy))⟩
              have hf' : ∀ m, m < n → ((fun m => bif Nat.beq m j then splice (f j) k xs else f m) m).length = s := by
                intro m hm
                dsimp only
                cases hmj : Nat.beq m j with
                | false => exact hfl m hm
                | true =>
                  have := hfl j (by omega)
                  simp only [cond_true, splice, List.length_append, List.length_take, List.length_drop]
                  omega
              refine ⟨_, w.setRow b (cur.toList.take (j * s + k + 0) ++ xv.cells.toList ++ cur.toList.drop (j * s + k + 0 + xv.cells.toList.length)).toArray, h, ?_, ?_⟩
              · refine R.write hfo (b := b) (by rw [hb]; rfl) setRow_below (by simp [World.setRow]) (fun k' hk' => setRow_other w b k' _ (by omega)) (fun hk hm => ?_)
                refine ⟨us.take (j * s + k) ++ xv.cells.toList ++ us.drop (j * s + k + xv.cells.toList.length), ⟨?_, .inr ⟨b, c0, _, hb, hB, setRow_heap w b _ _ e _ hh, hnc, hcm, ?_, ?_⟩⟩, hs0, hf', ?_, ?_⟩
                · simp only [List.length_append, List.length_take, List.length_drop, hlen, hul]
                  omega
                · simp only [List.size_toArray, List.length_append, List.length_take, List.length_drop, Array.length_toList, hcs, hlen]
                  omega
                · rw [← htake]
                  exact take_splice cur.toList (j * s + k) xv.cells.toList (n * s) (by rw [hlen]; omega) (by rw [Array.length_toList]; omega)
                · intro hsc' y hy
                  simp only [Bool.and_eq_true] at hsc'
                  exact flat_upd_v hy (hsc hsc'.1) (by
                    intro z hz
                    unfold splice at hz
                    rcases List.mem_append.1 hz with h1 | h1
                    · exact .inl (List.mem_of_mem_take h1)
                    · rcases List.mem_append.1 h1 with h2 | h2
                      · right
                        have := List.all_eq_true.1 hsc'.2 z h2
                        cases z <;> first | exact ⟨_, rfl⟩ | (simp [isV] at this)
                      · exact .inl (List.mem_of_mem_drop h2)) (by omega)
                · have hall := flat_upd ha hfl (show j < n by omega) (show k + xs.length ≤ s from hks) hpc
                  rw [← hlen] at hall
                  exact hall.imp fun _ _ => PC.mono hk hm
              · have hsize' : ¬ xv.cells.size ≠ i.size := by rw [hsize, hsz]; simp
                simp only [Instr.storeAt, Instr.sureAddr, Sem.run_bind, Sem.run_pure, Result.andThen_ok, storeVar, run_size hL hi, if_neg hsize']
                exact hrun
      · exact h.elim
  · exact h.elim
where
  take_splice (l : List Value) (k : Nat) (vs : List Value) (m : Nat) (h : k + vs.length ≤ m) (hm : m ≤ l.length) : ((l.take (k + 0) ++ vs ++ l.drop (k + 0 + vs.length)).toArray.toList).take m = (l.take m).take k ++ vs ++ (l.take m).drop (k + vs.length) := by
    simp only [Nat.add_zero]
    rw [List.take_append, List.take_append, List.take_take, List.drop_take, List.length_append, List.length_take, Nat.min_eq_left (show k ≤ l.length by omega), Nat.min_eq_right (show k ≤ m by omega)]
    rw [List.take_take, Nat.min_eq_left (show k ≤ m by omega), List.take_of_length_le (l := vs) (by omega)]
  flat_upd_v {n : Nat} {f : Nat → List AV} {j : Nat} {c : List AV} {y : AV} (hy : y ∈ flat n (fun m => bif Nat.beq m j then c else f m)) (hf : ∀ x ∈ flat n f, ∃ y, x = .v y) (hc : ∀ z ∈ c, z ∈ f j ∨ ∃ y, z = .v y) (hj : j < n) : ∃ z, y = .v z := by
    have mem : ∀ {n : Nat} {f : Nat → List AV} {y : AV}, y ∈ flat n f ↔ ∃ i, i < n ∧ y ∈ f i := mem_flat
    obtain ⟨i, hi, hyi⟩ := mem.1 hy
    cases hb : Nat.beq i j with
    | false => rw [hb] at hyi; exact hf y (mem.2 ⟨i, hi, hyi⟩)
    | true =>
      rw [hb] at hyi
      rcases hc y hyi with h1 | h1
      · exact hf y (mem.2 ⟨j, hj, h1⟩)
      · exact h1
  mem_flat : ∀ {n : Nat} {f : Nat → List AV} {y : AV}, y ∈ flat n f ↔ ∃ i, i < n ∧ y ∈ f i
    | 0, f, y => by simp [flat]
    | n + 1, f, y => by
      show y ∈ f 0 ++ _ ↔ _
      rw [List.mem_append, mem_flat (n := n)]
      constructor
      · rintro (h | ⟨i, hi, h⟩)
        · exact ⟨0, by omega, h⟩
        · exact ⟨i + 1, by omega, h⟩
      · rintro ⟨i, hi, h⟩
        cases i with
        | zero => exact .inl h
        | succ i => exact .inr ⟨i, by omega, h⟩
  flat_upd {R : AV → Value → Prop} {s : Nat} {xs : List AV} {vs : List Value} {k : Nat} : ∀ {n : Nat} {f : Nat → List AV} {us : List Value} {j : Nat}, All2 R (flat n f) us → (∀ i, i < n → (f i).length = s) → j < n → k + xs.length ≤ s → All2 R xs vs →
      All2 R (flat n (fun m => bif Nat.beq m j then splice (f j) k xs else f m)) (us.take (j * s + k) ++ vs ++ us.drop (j * s + k + xs.length))
    | 0, _, _, _, _, _, h, _, _ => absurd h (by omega)
    | n + 1, f, us, 0, ha, hl, _, hk, hx => by
      have e0 : flat (n + 1) (fun m => bif Nat.beq m 0 then splice (f 0) k xs else f m) = splice (f 0) k xs ++ flat n (fun i => f (i + 1)) := rfl
      have e1 : flat (n + 1) f = f 0 ++ flat n (fun i => f (i + 1)) := rfl
      have h0 := hl 0 (by omega)
      rw [e1] at ha
      have g1 := ha.take k
      rw [List.take_append_of_le_length (by omega)] at g1
      have g2 := ha.drop (k + xs.length)
      rw [List.drop_append_of_le_length (by omega)] at g2
      rw [e0, splice, Nat.zero_mul, Nat.zero_add, List.append_assoc, List.append_assoc, List.append_assoc]
      exact g1.app (hx.app g2)
    | n + 1, f, us, j + 1, ha, hl, hj, hk, hx => by
      have e0 : flat (n + 1) (fun m => bif Nat.beq m (j + 1) then splice (f (j + 1)) k xs else f m) = f 0 ++ flat n (fun m => bif Nat.beq m j then splice (f (j + 1)) k xs else f (m + 1)) := rfl
      have e1 : flat (n + 1) f = f 0 ++ flat n (fun i => f (i + 1)) := rfl
      have h0 := hl 0 (by omega)
      rw [e1] at ha
      have g1 := ha.take s
      rw [List.take_append_of_le_length (by omega), List.take_of_length_le (by omega)] at g1
      have g2 := ha.drop s
      rw [← h0, List.drop_left, h0] at g2
      have ih := flat_upd (s := s) (j := j) (k := k) g2 (fun i hi => hl (i + 1) (by omega)) (by omega) hk hx
      rw [e0]
      have := g1.app ih
      have e2 : us.take ((j + 1) * s + k) = us.take s ++ (us.drop s).take (j * s + k) := by
        rw [Nat.succ_mul, show j * s + s + k = s + (j * s + k) by omega, List.take_add]
      have e3 : us.drop ((j + 1) * s + k + xs.length) = (us.drop s).drop (j * s + k + xs.length) := by
        rw [List.drop_drop, Nat.succ_mul]; congr 1; omega
      rw [e2, e3]
      simpa [List.append_assoc] using this
end
end Go.Proofs.Ytbmojelnkldecaa
