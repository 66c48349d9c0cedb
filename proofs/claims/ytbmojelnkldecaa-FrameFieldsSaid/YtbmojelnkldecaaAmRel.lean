/-
  The abstract machine's memory: a new object, a changed one, a result put into its slot.
-/
import Derived.Test.YtbmojelnkldecaaAm
namespace Go.Proofs.Ytbmojelnkldecaa
open Go.RowKit

def upd (d : Nat) (x : AV) (f : Nat → AV) : Nat → AV := fun t => bif Nat.beq t d then x else f t

def AS.put (st : AS) (d : Nat) (x : AV) : AS := ⟨(d, x) :: st.sl, st.heap, st.back, st.base⟩
theorem put_tmps (st : AS) (d : Nat) (x : AV) : (st.put d x).tmps = upd d x st.tmps := rfl

def gone (d j : Nat) (h : List (Nat × AO)) : List (Nat × AO) := h.filter fun p => !(Nat.beq p.1 d || Nat.beq p.1 j)
def scrubH (d : Nat) (h : List (Nat × AO)) : List (Nat × AO) := h.map fun p => (p.1, p.2.scrub d)
/-- The object d, new; the object j is done with. -/
def AS.obj (st : AS) (d j : Nat) (o : AO) : AS := ⟨mapS (scrub2 d) st.sl, (d, o.scrub d) :: scrubH d (gone d j st.heap), st.back.map (mapS (scrub2 d)), Nat.add d 1⟩
def reρ (ρ : Nat → Value) (d : Nat) (u : Value) : Nat → Value := fun i => if i = d then u else ρ i

theorem mem_blocks {ρ : Nat → Value} {h : List (Nat × AO)} {b : Nat} : b ∈ blocksOf ρ h ↔ ∃ p ∈ h, blk (ρ p.1) = some b := by simp [blocksOf]

theorem blocks_cons (ρ : Nat → Value) (p : Nat × AO) (h : List (Nat × AO)) : blocksOf ρ (p :: h) = (blk (ρ p.1)).toList ++ blocksOf ρ h := by
  unfold blocksOf
  rw [List.filterMap_cons]
  cases blk (ρ p.1) <;> rfl

theorem nodup_tail {ρ : Nat → Value} {p : Nat × AO} {h : List (Nat × AO)} (hn : (blocksOf ρ (p :: h)).Nodup) : (blocksOf ρ h).Nodup := by
  rw [blocks_cons] at hn
  exact (List.nodup_append.1 hn).2.1

theorem blocks_filter_sub {ρ : Nat → Value} {q : Nat × AO → Bool} {h : List (Nat × AO)} {b : Nat} (hb : b ∈ blocksOf ρ (h.filter q)) : b ∈ blocksOf ρ h := by
  rw [mem_blocks] at hb ⊢
  obtain ⟨p, hp, e⟩ := hb
  exact ⟨p, (List.mem_filter.1 hp).1, e⟩

theorem nodup_filter {ρ : Nat → Value} {q : Nat × AO → Bool} : ∀ {h : List (Nat × AO)}, (blocksOf ρ h).Nodup → (blocksOf ρ (h.filter q)).Nodup
  | [], _ => by simp [blocksOf]
  | p :: h, hn => by
    have ih := nodup_filter (q := q) (nodup_tail hn)
    rw [List.filter_cons]
    split
    · rw [blocks_cons] at hn ⊢
      rw [List.nodup_append] at hn ⊢
      exact ⟨hn.1, ih, fun x hx y hy => hn.2.2 x hx y (blocks_filter_sub hy)⟩
    · exact ih

/-- Two objects with one block are one. -/
theorem blocks_apart {ρ : Nat → Value} {b : Nat} : ∀ {h : List (Nat × AO)}, (blocksOf ρ h).Nodup → ∀ p ∈ h, ∀ q ∈ h, blk (ρ p.1) = some b → blk (ρ q.1) = some b → p.1 = q.1
  | [], _, p, hp, _, _, _, _ => by cases hp
  | r :: h, hn, p, hp, q, hq, e1, e2 => by
    have ht := nodup_tail hn
    rw [blocks_cons, List.nodup_append] at hn
    rcases List.mem_cons.1 hp with rfl | hp'
    · rcases List.mem_cons.1 hq with rfl | hq'
      · rfl
      · exact absurd rfl (hn.2.2 b (by simp [e1]) b (mem_blocks.2 ⟨q, hq', e2⟩))
    · rcases List.mem_cons.1 hq with rfl | hq'
      · exact absurd rfl (hn.2.2 b (by simp [e2]) b (mem_blocks.2 ⟨p, hp', e1⟩))
      · exact blocks_apart ht p hp' q hq' e1 e2

theorem blocks_scrub (ρ : Nat → Value) (d : Nat) (h : List (Nat × AO)) : blocksOf ρ (scrubH d h) = blocksOf ρ h := by
  simp [blocksOf, scrubH, List.filterMap_map, Function.comp_def]

theorem blocks_reρ {ρ : Nat → Value} {d : Nat} {u : Value} {h : List (Nat × AO)} (hd : ∀ p ∈ h, p.1 ≠ d) : blocksOf (reρ ρ d u) h = blocksOf ρ h := by
  induction h with
  | nil => rfl
  | cons p h ih =>
    rw [blocks_cons, blocks_cons, ih (fun q hq => hd q (by simp [hq]))]
    simp [reρ, hd p (by simp)]

theorem ownsRow_block {w w' : World} {B : Nat} {e : TypeId} {s n : Nat} {v : Value} {us : List Value} (h : w.ownsRow B e s v n us) (hm : ∀ b, blk v = some b → w'.heap[b]? = w.heap[b]?) : w'.ownsRow B e s v n us := by
  refine ⟨h.1, ?_⟩
  rcases h.2 with hn | ⟨g, cap, cur, rfl, hg, hh, r⟩
  · exact .inl hn
  · exact .inr ⟨g, cap, cur, rfl, hg, (hm g rfl).trans hh, r⟩

theorem ObjOk.ext {X Y : CX} {d id : Nat} {o : AO} (hE : Ext d X Y) (hid : id ≠ d) (hm : ∀ b, blk (X.ρ id) = some b → Y.w.heap[b]? = X.w.heap[b]?) (h : ObjOk X id o) : ObjOk Y id (o.scrub d) := by
  cases o with
  | box t cs =>
    obtain ⟨b, us, e, hh, ha⟩ := h
    exact ⟨b, us, by rw [hE.ρ id hid]; exact e, (hm b (by rw [e]; rfl)).trans hh, ha.mapl fun _ _ => C0.ext hE⟩
  | row e s n sc f =>
    obtain ⟨us, ho, hs, hf, hsc, ha⟩ := h
    exact ⟨us, by rw [hE.ρ id hid]; exact ownsRow_block ho hm, hs, hf, hsc, ha.imp fun _ _ => PC.mono hE.keep hE.mem⟩

theorem mem_gone {d j : Nat} {h : List (Nat × AO)} {p : Nat × AO} : p ∈ gone d j h ↔ p ∈ h ∧ p.1 ≠ d ∧ p.1 ≠ j := by
  unfold gone
  rw [List.mem_filter]
  constructor
  · rintro ⟨h1, h2⟩
    refine ⟨h1, ?_, ?_⟩ <;> (intro e; simp [e] at h2)
  · rintro ⟨h1, h2, h3⟩
    exact ⟨h1, by simp [beq_false h2, beq_false h3]⟩

section
variable {g : Base} {N : Nat} {bs : List (Array Value)} {ρ : Nat → Value} {a : Act} {w : World} {st : AS}

theorem Rel.eval_tmp (R : Rel g N bs ρ a w st) (t : Nat) : C2 (cxOf g w ρ st.heap) (st.tmps t) (a.eval (.tmp t)) := R.tmps t

theorem Rel.put (R : Rel g N bs ρ a w st) {d : Nat} {x : AV} {u : Value} (hd : d < N) (h : C2 (cxOf g w ρ st.heap) x u) : Rel g N bs ρ (a.put (some d) u) w (st.put d x) := by
  refine ⟨?_, R.defers, R.below, fun t => ?_, R.objs, R.apart, R.own, R.back⟩
  · simpa [Act.put] using R.size
  · show C2 _ (upd d x st.tmps t) ((a.tmps.setIfInBounds d u).getD t undef)
    by_cases e : t = d
    · subst e
      have hd' : t < a.tmps.size := by rw [R.size]; exact hd
      have e1 : (a.tmps.setIfInBounds t u).getD t undef = u := by simp [hd']
      rw [e1]
      simp only [upd, Nat.beq_refl, cond_true]
      exact h
    · have e1 : (a.tmps.setIfInBounds d u).getD t undef = a.tmps.getD t undef := by
        simp [Ne.symm e]
      rw [e1]
      simp only [upd, beq_false e, cond_false]
      exact R.tmps t

/-- The same state over a later world: new blocks, a draw. -/
theorem Rel.world (R : Rel g N bs ρ a w st) {w' : World} (hb : Below w.heap.size w w') : Rel g N bs ρ a w' st := by
  have hk : ∀ b, keepOf g w ρ st.heap b → keepOf g w' ρ st.heap b := fun b h => ⟨Nat.lt_of_lt_of_le h.1 hb.size, h.2⟩
  have hm : ∀ b, keepOf g w ρ st.heap b → w'.heap[b]? = w.heap[b]? := fun b h => hb.block b h.1
  refine ⟨R.size, R.defers, R.below.then hb R.below.size, fun t => C2.same (X := cxOf g w ρ st.heap) (Y := cxOf g w' ρ st.heap) hk hm rfl (R.tmps t), fun p hp => ?_, R.apart, R.own, R.back.imp fun _ _ => C2.same (X := cxOf g w ρ st.heap) (Y := cxOf g w' ρ st.heap) hk hm rfl⟩
  have ho := R.objs p hp
  cases hpo : p.2 with
  | box t cs =>
    rw [hpo] at ho
    obtain ⟨b, us, e, hh, ha⟩ := ho
    have hlt : b < w.heap.size := (Array.getElem?_eq_some_iff.1 hh).1
    exact ⟨b, us, e, (hb.block b hlt).trans hh, ha.imp fun _ _ => C0.same (X := cxOf g w ρ st.heap) (Y := cxOf g w' ρ st.heap) hk hm rfl⟩
  | row e s n sc f =>
    rw [hpo] at ho
    obtain ⟨us, hown, hs, hf, hsc, ha⟩ := ho
    refine ⟨us, ownsRow_block hown fun b hb' => hb.block b ?_, hs, hf, hsc, ha.imp fun _ _ => PC.mono hk hm⟩
    rcases hown.2 with ⟨hv, _⟩ | ⟨g', cap, cur, hv, _, hh, _⟩
    · have hv : ρ p.1 = _ := hv
      have hb' : blk (ρ p.1) = some b := hb'
      rw [hv] at hb'; cases hb'
    · have hv : ρ p.1 = _ := hv
      have hb' : blk (ρ p.1) = some b := hb'
      rw [hv] at hb'
      cases hb'
      exact (Array.getElem?_eq_some_iff.1 hh).1

theorem Rel.lt_block (R : Rel g N bs ρ a w st) {b : Nat} (h : b ∈ blocksOf ρ st.heap) : b < w.heap.size ∧ (g.w.heap.size ≤ b ∨ g.mu b) := by
  refine ⟨?_, R.own b h⟩
  obtain ⟨p, hp, e⟩ := mem_blocks.1 h
  have ho := R.objs p hp
  cases hpo : p.2 with
  | box t cs =>
    rw [hpo] at ho
    obtain ⟨b', us, e', hh, ha⟩ := ho
    have e' : ρ p.1 = _ := e'
    rw [e'] at e
    cases e
    exact (Array.getElem?_eq_some_iff.1 hh).1
  | row ty s n sc f =>
    rw [hpo] at ho
    obtain ⟨us, hown, _⟩ := ho
    rcases hown.2 with ⟨hv, _⟩ | ⟨g', cap, cur, hv, hg, hh, _⟩
    · have hv : ρ p.1 = _ := hv
      rw [hv] at e; cases e
    · have hv : ρ p.1 = _ := hv
      rw [hv] at e; cases e
      exact (Array.getElem?_eq_some_iff.1 hh).1

/-- A new object d (in a block of its own, or in the row of the object j, which is done with). -/
theorem Rel.obj (R : Rel g N bs ρ a w st) (d j : Nat) {w' : World} {nv : Value} {o : AO} (hb : BelowM g.mu g.w.heap.size g.w w') (hsz : w.heap.size ≤ w'.heap.size)
    (hmem : ∀ b, b < w.heap.size → (∀ p ∈ st.heap, p.1 = j → blk (ρ j) ≠ some b) → w'.heap[b]? = w.heap[b]?)
    (hnv : ∀ b, blk nv = some b → w.heap.size ≤ b ∨ ∃ p ∈ st.heap, p.1 = j ∧ blk (ρ j) = some b)
    (hobj : Ext d (cxOf g w ρ st.heap) (cxOf g w' (reρ ρ d nv) (st.obj d j o).heap) → ObjOk (cxOf g w' (reρ ρ d nv) (st.obj d j o).heap) d (o.scrub d)) :
    Rel g N bs (reρ ρ d nv) a w' (st.obj d j o) := by
  have hgd : ∀ p ∈ gone d j st.heap, p.1 ≠ d := fun p hp => (mem_gone.1 hp).2.1
  have hgs : ∀ p ∈ scrubH d (gone d j st.heap), p.1 ≠ d := by
    intro p hp
    simp only [scrubH, List.mem_map] at hp
    obtain ⟨q, hq, rfl⟩ := hp
    exact hgd q hq
  have hblocks : blocksOf (reρ ρ d nv) (st.obj d j o).heap = (blk nv).toList ++ blocksOf ρ (gone d j st.heap) := by
    show blocksOf _ (_ :: _) = _
    rw [blocks_cons, blocks_reρ hgs, blocks_scrub]
    simp [reρ]
  have hsub : ∀ b, b ∈ blocksOf ρ (gone d j st.heap) → b ∈ blocksOf ρ st.heap := fun b h => blocks_filter_sub h
  have hjno : ∀ b, b ∈ blocksOf ρ (gone d j st.heap) → ∀ p ∈ st.heap, p.1 = j → blk (ρ j) ≠ some b := by
    intro b hb p hp hpj e
    obtain ⟨q, hq, hqe⟩ := mem_blocks.1 hb
    have := blocks_apart R.apart q (mem_gone.1 hq).1 p hp hqe (by rw [hpj]; exact e)
    exact (mem_gone.1 hq).2.2 (this.trans hpj)
  have hE : Ext d (cxOf g w ρ st.heap) (cxOf g w' (reρ ρ d nv) (st.obj d j o).heap) := by
    refine ⟨fun b hk => ⟨Nat.lt_of_lt_of_le hk.1 hsz, hk.2.1, ?_⟩, fun b hk => hmem b hk.1 fun p hp hpj e => hk.2.2 (mem_blocks.2 ⟨p, hp, by rw [hpj]; exact e⟩), fun i hi => by simp [cxOf, reρ, hi]⟩
    rw [hblocks, List.mem_append]
    rintro (h | h)
    · have hb' : blk nv = some b := by
        cases hq : blk nv with
        | none => simp [hq] at h
        | some g' => simp [hq] at h; rw [h]
      rcases hnv b hb' with hge | ⟨p, hp, hpj, e⟩
      · exact absurd hk.1 (by omega)
      · exact hk.2.2 (mem_blocks.2 ⟨p, hp, by rw [hpj]; exact e⟩)
    · exact hk.2.2 (hsub b h)
  refine ⟨R.size, R.defers, hb, fun t => by rw [show (st.obj d j o).tmps t = scrub2 d (st.tmps t) from ofL_mapS rfl st.sl t]; exact C2.ext hE (R.tmps t), ?_, ?_, ?_, R.back.map rfl fun _ _ => C2.ext hE⟩
  · intro p hp
    rcases List.mem_cons.1 hp with rfl | hp'
    · exact hobj hE
    · simp only [scrubH, List.mem_map] at hp'
      obtain ⟨q, hq, rfl⟩ := hp'
      have hq' := mem_gone.1 hq
      refine ObjOk.ext hE hq'.2.1 (fun b hb => ?_) (R.objs q hq'.1)
      have hm : b ∈ blocksOf ρ (gone d j st.heap) := mem_blocks.2 ⟨q, hq, hb⟩
      exact hmem b (R.lt_block (hsub b hm)).1 (hjno b hm)
  · rw [hblocks, List.nodup_append]
    refine ⟨?_, nodup_filter R.apart, ?_⟩
    · cases blk nv <;> simp
    · intro x hx y hy e
      subst e
      have hx' : blk nv = some x := by
        cases hq : blk nv with
        | none => simp [hq] at hx
        | some g' => simp [hq] at hx; rw [hx]
      rcases hnv x hx' with hge | ⟨p, hp, hpj, e⟩
      · exact absurd (R.lt_block (hsub x hy)).1 (by omega)
      · exact hjno x hy p hp hpj e
  · intro x hx
    rw [hblocks, List.mem_append] at hx
    rcases hx with hx | hx
    · have hx' : blk nv = some x := by
        cases hq : blk nv with
        | none => simp [hq] at hx
        | some g' => simp [hq] at hx; rw [hx]
      rcases hnv x hx' with hge | ⟨p, hp, hpj, e⟩
      · exact .inl (Nat.le_trans R.below.size hge)
      · exact R.own x (mem_blocks.2 ⟨p, hp, by rw [hpj]; exact e⟩)
    · exact R.own x (hsub x hx)

/-- The object with that name, changed. -/
def setObj (id : Nat) (o : AO) : List (Nat × AO) → List (Nat × AO)
  | [] => []
  | p :: h => bif Nat.beq p.1 id then (p.1, o) :: h else p :: setObj id o h
def findObj (id : Nat) : List (Nat × AO) → Option AO
  | [] => none
  | p :: h => bif Nat.beq p.1 id then some p.2 else findObj id h

theorem findObj_mem {id : Nat} {o : AO} : ∀ {h : List (Nat × AO)}, findObj id h = some o → (id, o) ∈ h
  | [], e => by cases e
  | p :: h, e => by
    simp only [findObj] at e
    cases hb : Nat.beq p.1 id with
    | true =>
      rw [hb] at e
      simp only [cond_true, Option.some.injEq] at e
      have := Nat.eq_of_beq_eq_true hb
      rw [← this, ← e]
      exact List.mem_cons_self
    | false =>
      rw [hb] at e
      exact List.mem_cons_of_mem _ (findObj_mem e)

theorem blocks_setObj (ρ : Nat → Value) (id : Nat) (o : AO) : ∀ h, blocksOf ρ (setObj id o h) = blocksOf ρ h
  | [] => rfl
  | p :: h => by
    simp only [setObj]
    cases Nat.beq p.1 id with
    | true => simp only [cond_true]; rw [blocks_cons, blocks_cons]
    | false => simp only [cond_false]; rw [blocks_cons, blocks_cons, blocks_setObj ρ id o h]

theorem mem_setObj {id : Nat} {o : AO} {p : Nat × AO} : ∀ {h : List (Nat × AO)}, p ∈ setObj id o h → p = (id, o) ∨ p ∈ h
  | [], hp => by cases hp
  | q :: h, hp => by
    simp only [setObj] at hp
    cases hb : Nat.beq q.1 id with
    | true =>
      rw [hb] at hp
      rcases List.mem_cons.1 hp with rfl | hp'
      · left; rw [Nat.eq_of_beq_eq_true hb]
      · right; exact List.mem_cons_of_mem _ hp'
    | false =>
      rw [hb] at hp
      rcases List.mem_cons.1 hp with rfl | hp'
      · right; exact List.mem_cons_self
      · rcases mem_setObj hp' with h' | h'
        · exact .inl h'
        · exact .inr (List.mem_cons_of_mem _ h')

/-- An object of the call's own has been written. -/
theorem Rel.write (R : Rel g N bs ρ a w st) {id b : Nat} {w' : World} {o o' : AO} (hf : findObj id st.heap = some o) (hbk : blk (ρ id) = some b) (hb : Below b w w') (hsz : w'.heap.size = w.heap.size)
    (hmem : ∀ k, k ≠ b → w'.heap[k]? = w.heap[k]?) (hobj : (∀ k, keepOf g w ρ st.heap k → keepOf g w' ρ (setObj id o' st.heap) k) → (∀ k, keepOf g w ρ st.heap k → w'.heap[k]? = w.heap[k]?) → ObjOk (cxOf g w' ρ (setObj id o' st.heap)) id o') :
    Rel g N bs ρ a w' ⟨st.sl, setObj id o' st.heap, st.back, st.base⟩ := by
  have hin : b ∈ blocksOf ρ st.heap := mem_blocks.2 ⟨_, findObj_mem hf, hbk⟩
  have hlt := R.lt_block hin
  have hk : ∀ k, keepOf g w ρ st.heap k → keepOf g w' ρ (setObj id o' st.heap) k := fun k h => ⟨by rw [hsz]; exact h.1, h.2.1, by rw [blocks_setObj]; exact h.2.2⟩
  have hm : ∀ k, keepOf g w ρ st.heap k → w'.heap[k]? = w.heap[k]? := fun k h => hmem k fun e => h.2.2 (by rw [e]; exact hin)
  refine ⟨R.size, R.defers, R.below.write hlt.2 hb hmem, fun t => C2.same (X := cxOf g w ρ st.heap) (Y := cxOf g w' ρ (setObj id o' st.heap)) hk hm rfl (R.tmps t), fun p hp => ?_, by rw [blocks_setObj]; exact R.apart, by rw [blocks_setObj]; exact R.own, R.back.imp fun _ _ => C2.same (X := cxOf g w ρ st.heap) (Y := cxOf g w' ρ (setObj id o' st.heap)) hk hm rfl⟩
  by_cases hpid : p.1 = id
  · rcases mem_setObj hp with rfl | hp'
    · exact hobj hk hm
    · rw [hpid, ← mem_setObj_same R hf hbk hp hpid]
      exact hobj hk hm
  · rcases mem_setObj hp with rfl | hp'
    · exact absurd rfl hpid
    · have ho := R.objs p hp'
      have hne : ∀ k, blk (ρ p.1) = some k → k ≠ b := by
        intro k hk' e
        subst e
        exact hpid (blocks_apart R.apart p hp' _ (findObj_mem hf) hk' hbk)
      cases hpo : p.2 with
      | box t cs =>
        rw [hpo] at ho
        obtain ⟨b', us, e, hh, ha⟩ := ho
        have e' : ρ p.1 = _ := e
        exact ⟨b', us, e, (hmem b' (hne b' (by rw [e']; rfl))).trans hh, ha.imp fun _ _ => C0.same (X := cxOf g w ρ st.heap) (Y := cxOf g w' ρ (setObj id o' st.heap)) hk hm rfl⟩
      | row e s n sc f =>
        rw [hpo] at ho
        obtain ⟨us, hown, hs, hf, hsc, ha⟩ := ho
        exact ⟨us, ownsRow_block hown fun k hk' => hmem k (hne k hk'), hs, hf, hsc, ha.imp fun _ _ => PC.mono hk hm⟩
where
  mem_setObj_same {id b : Nat} {o o' : AO} {p : Nat × AO} (R : Rel g N bs ρ a w st) (hf : findObj id st.heap = some o) (hbk : blk (ρ id) = some b) (hp : p ∈ setObj id o' st.heap) (hpid : p.1 = id) : o' = p.2 := by
    have key : ∀ h : List (Nat × AO), (blocksOf ρ h).Nodup → p ∈ setObj id o' h → findObj id h = some o → o' = p.2 := by
      intro h
      induction h with
      | nil => intro _ hp; cases hp
      | cons q h ih =>
        intro hn hp hfq
        simp only [setObj] at hp
        simp only [findObj] at hfq
        cases hb : Nat.beq q.1 id with
        | true =>
          rw [hb] at hp
          rcases List.mem_cons.1 hp with rfl | hp'
          · rfl
          · have hq := Nat.eq_of_beq_eq_true hb
            rw [blocks_cons, List.nodup_append] at hn
            exact absurd rfl (hn.2.2 b (by rw [hq, hbk]; simp) b (mem_blocks.2 ⟨p, hp', by rw [hpid]; exact hbk⟩))
        | false =>
          rw [hb] at hp hfq
          rcases List.mem_cons.1 hp with rfl | hp'
          · rw [hpid] at hb; simp at hb
          · exact ih (nodup_tail hn) hp' hfq
    exact key st.heap R.apart hp hf
end
end Go.Proofs.Ytbmojelnkldecaa
