/-
  The abstract machine: a call that changes objects that it is given.
-/
import Derived.Test.YtbmojelnkldecaaAmSndF
namespace Go.Proofs.Ytbmojelnkldecaa
open Go.RowKit

theorem hasN_mem {i : Nat} : ∀ {h : List (Nat × AO)}, hasN i h = true ↔ ∃ p ∈ h, p.1 = i
  | [] => by simp [hasN]
  | (k, o) :: l => by
    simp only [hasN, Bool.or_eq_true, hasN_mem (h := l), List.mem_cons]
    constructor
    · rintro (h | ⟨p, hp, e⟩)
      · exact ⟨(k, o), .inl rfl, Nat.eq_of_beq_eq_true h⟩
      · exact ⟨p, .inr hp, e⟩
    · rintro ⟨p, rfl | hp, e⟩
      · left; rw [show k = i from e]; simp
      · exact .inr ⟨p, hp, e⟩

theorem nodup_sub' {ρ : Nat → Value} {h : List (Nat × AO)} : ∀ {l : List (Nat × AO)}, (l.map (·.1)).Nodup → (blocksOf ρ h).Nodup → (∀ p ∈ l, ∃ q ∈ h, q.1 = p.1) → (blocksOf ρ l).Nodup
    | [], _, _, _ => by simp [blocksOf]
    | p :: l, hn, hh, hs => by
      have hn' := List.nodup_cons.1 hn
      have ih := nodup_sub' hn'.2 hh (fun q hq => hs q (List.mem_cons_of_mem _ hq))
      rw [blocks_cons, List.nodup_append]
      refine ⟨by cases blk (ρ p.1) <;> simp, ih, fun x hx y hy e => ?_⟩
      subst e
      have hx' : blk (ρ p.1) = some x := by
        cases hq : blk (ρ p.1) with
        | none => simp [hq] at hx
        | some g' => simp [hq] at hx; rw [hx]
      obtain ⟨q, hq, hqe⟩ := mem_blocks.1 hy
      obtain ⟨p', hp', e1⟩ := hs p List.mem_cons_self
      obtain ⟨q', hq', e2⟩ := hs q (List.mem_cons_of_mem _ hq)
      have := blocks_apart hh p' hp' q' hq' (by rw [e1]; exact hx') (by rw [e2]; exact hqe)
      exact hn'.1 (List.mem_map.2 ⟨q, hq, by rw [← e2, ← this, e1]⟩)

theorem HasH_mem {st : AS} : ∀ {h : List (Nat × AO)}, HasH st h → ∀ p ∈ h, findObj p.1 st.heap = some p.2
  | [], _, p, hp => by cases hp
  | (k, o) :: l, h, p, hp => by
    rcases List.mem_cons.1 hp with rfl | hp
    · exact h.1
    · exact HasH_mem h.2 p hp

theorem mem_restN {d : Nat} {hin : List (Nat × AO)} {p : Nat × AO} : ∀ {h : List (Nat × AO)}, p ∈ restN d hin h → p ∈ h ∧ p.1 ≠ d ∧ hasN p.1 hin = false
  | [], hp => by cases hp
  | (k, o) :: l, hp => by
    simp only [restN] at hp
    cases hb : (Nat.beq k d || hasN k hin) with
    | true =>
      rw [hb] at hp
      have := mem_restN hp
      exact ⟨List.mem_cons_of_mem _ this.1, this.2⟩
    | false =>
      rw [hb] at hp
      rcases List.mem_cons.1 hp with rfl | hp
      · simp only [Bool.or_eq_false_iff] at hb
        exact ⟨List.mem_cons_self, fun e => (by rw [show k = d from e] at hb; simp at hb), hb.2⟩
      · have := mem_restN hp
        exact ⟨List.mem_cons_of_mem _ this.1, this.2⟩
theorem restN_sub {d : Nat} {hin : List (Nat × AO)} (ρ : Nat → Value) : ∀ h : List (Nat × AO), (blocksOf ρ (restN d hin h)).Sublist (blocksOf ρ h)
  | [] => by simp [restN, blocksOf]
  | (k, o) :: l => by
    have ih := restN_sub (d := d) (hin := hin) ρ l
    simp only [restN]
    cases (Nat.beq k d || hasN k hin) with
    | true => rw [blocks_cons]; exact ih.trans (List.sublist_append_right _ _)
    | false => rw [cond_false, blocks_cons, blocks_cons]; exact List.Sublist.append (List.Sublist.refl _) ih

theorem closedH_mem {h : List (Nat × AO)} : ∀ {l : List (Nat × AO)}, closedH h l = true → ∀ p ∈ l, refsO h p.2 = true
  | [], _, p, hp => by cases hp
  | (k, o) :: l, hc, p, hp => by
    simp only [closedH, Bool.and_eq_true] at hc
    rcases List.mem_cons.1 hp with rfl | hp
    · exact hc.1
    · exact closedH_mem hc.2 p hp
theorem namesIn_mem {d : Nat} {hin : List (Nat × AO)} : ∀ {l : List (Nat × AO)}, namesIn d hin l = true → ∀ p ∈ l, (∃ q ∈ hin, q.1 = p.1) ∨ p.1 = d
  | [], _, p, hp => by cases hp
  | (k, o) :: l, hc, p, hp => by
    simp only [namesIn, Bool.and_eq_true, Bool.or_eq_true] at hc
    rcases List.mem_cons.1 hp with rfl | hp
    · exact hc.1.imp (fun h => hasN_mem.1 h) (fun h => Nat.eq_of_beq_eq_true h)
    · exact namesIn_mem hc.2 p hp

/-- The same, where the names that count mean the same and as much may be read. -/
theorem C0.over {X Y : CX} {h : List (Nat × AO)} (hk : ∀ b, X.keep b → Y.keep b) (hm : Y.w = X.w) (hρ : ∀ i, hasN i h = true → Y.ρ i = X.ρ i) {av : AV} {u : Value} (hr : ref0 h av = true) (hc : C0 X av u) : C0 Y av u := by
  have hmm : ∀ b, X.keep b → Y.w.heap[b]? = X.w.heap[b]? := fun _ _ => by rw [hm]
  cases av with
  | own id => exact (show u = X.ρ id from hc).trans (hρ id hr).symm
  | eown id s j k => obtain ⟨b, n, c, h1, h2⟩ := hc; exact ⟨b, n, c, (hρ id hr).trans h1, h2⟩
  | box id off => obtain ⟨b, h1, h2⟩ := hc; exact ⟨b, (hρ id hr).trans h1, h2⟩
  | el cs k =>
    obtain ⟨b, o, us, e, kb, ha, hcell⟩ := hc
    exact ⟨b, o, us, e, hk b kb, ha.imp (fun _ _ => PC.mono hk hmm), fun j y hj => (World.cell?_of_block (hmm b kb)).trans (hcell j y hj)⟩
  | sl s n sc f => exact PC.mono hk hmm hc
  | v x => exact hc
  | junk => trivial
  | agg cs => exact hc
  | tup cs => exact hc
  | fn g caps => exact hc
theorem All2.impB {R S : AV → Value → Prop} {q : AV → Bool} {xs : List AV} {us : List Value} (h : All2 R xs us) (hq : xs.all q = true) (hi : ∀ x u, q x = true → R x u → S x u) : All2 S xs us :=
  ⟨h.1, fun i x u hx hu => hi x u (List.all_eq_true.1 hq x (List.mem_of_getElem? hx)) (h.2 i x u hx hu)⟩
theorem C1.over {X Y : CX} {h : List (Nat × AO)} (hk : ∀ b, X.keep b → Y.keep b) (hm : Y.w = X.w) (hρ : ∀ i, hasN i h = true → Y.ρ i = X.ρ i) {av : AV} {u : Value} (hr : ref1 h av = true) (hc : C1 X av u) : C1 Y av u := by
  cases av with
  | agg cs => obtain ⟨us, e, ha⟩ := hc; exact ⟨us, e, ha.impB hr fun _ _ q k => C0.over hk hm hρ q k⟩
  | fn g cs => obtain ⟨us, e, ha⟩ := hc; exact ⟨us, e, ha.impB hr fun _ _ q k => C0.over hk hm hρ q k⟩
  | own id => exact C1.of0 (C0.over hk hm hρ (av := .own id) hr hc)
  | eown id s j k => exact C1.of0 (C0.over hk hm hρ (av := .eown id s j k) hr hc)
  | box id k => exact C1.of0 (C0.over hk hm hρ (av := .box id k) hr hc)
  | el cs k => exact C1.of0 (C0.over hk hm hρ (av := .el cs k) hr hc)
  | sl s n sc f => exact C1.of0 (C0.over hk hm hρ (av := .sl s n sc f) hr hc)
  | v x => exact hc
  | junk => trivial
  | tup cs => exact hc
theorem C2.over {X Y : CX} {h : List (Nat × AO)} (hk : ∀ b, X.keep b → Y.keep b) (hm : Y.w = X.w) (hρ : ∀ i, hasN i h = true → Y.ρ i = X.ρ i) {av : AV} {u : Value} (hr : ref2 h av = true) (hc : C2 X av u) : C2 Y av u := by
  cases av with
  | tup vs => obtain ⟨us, e, ha⟩ := hc; exact ⟨us, e, ha.impB hr fun _ _ q k => C1.over hk hm hρ q k⟩
  | agg cs => exact C2.of1 (C1.over hk hm hρ (av := .agg cs) hr hc)
  | fn g cs => exact C2.of1 (C1.over hk hm hρ (av := .fn g cs) hr hc)
  | own id => exact C2.of1 (C1.over hk hm hρ (av := .own id) hr hc)
  | eown id s j k => exact C2.of1 (C1.over hk hm hρ (av := .eown id s j k) hr hc)
  | box id k => exact C2.of1 (C1.over hk hm hρ (av := .box id k) hr hc)
  | el cs k => exact C2.of1 (C1.over hk hm hρ (av := .el cs k) hr hc)
  | sl s n sc f => exact C2.of1 (C1.over hk hm hρ (av := .sl s n sc f) hr hc)
  | v x => exact hc
  | junk => trivial
theorem C1_of_C2 {X : CX} {x : AV} {u : Value} (hn : noTup x = true) (h : C2 X x u) : C1 X x u := by
  cases x <;> first | exact h | cases hn
theorem ObjOk.over {X Y : CX} {h : List (Nat × AO)} (hk : ∀ b, X.keep b → Y.keep b) (hm : Y.w = X.w) (hρ : ∀ i, hasN i h = true → Y.ρ i = X.ρ i) {p : Nat × AO} (hp : hasN p.1 h = true) (hr : refsO h p.2 = true) (ho : ObjOk X p.1 p.2) : ObjOk Y p.1 p.2 := by
  obtain ⟨id, o⟩ := p
  cases o with
  | box t cs =>
    obtain ⟨b, us, e, hh, ha⟩ := ho
    exact ⟨b, us, (hρ _ hp).trans e, by rw [hm]; exact hh, ha.impB hr fun _ _ q k => C0.over hk hm hρ q k⟩
  | row e s n sc f =>
    obtain ⟨us, hown, hs, hfl, hsc, ha⟩ := ho
    exact ⟨us, by rw [hm, hρ _ hp]; exact hown, hs, hfl, hsc, ha.imp fun _ _ => PC.mono hk fun _ _ => by rw [hm]⟩

theorem blocks_append (ρ : Nat → Value) (h k : List (Nat × AO)) : blocksOf ρ (h ++ k) = blocksOf ρ h ++ blocksOf ρ k := by
  simp [blocksOf]
theorem blocks_congr {ρ ρ' : Nat → Value} {h : List (Nat × AO)} (e : ∀ p ∈ h, ρ' p.1 = ρ p.1) : blocksOf ρ' h = blocksOf ρ h := by
  induction h with
  | nil => rfl
  | cons p h ih => rw [blocks_cons, blocks_cons, e p List.mem_cons_self, ih fun q hq => e q (List.mem_cons_of_mem _ hq)]

section
variable {P : Program} {g : Base} {N : Nat} {bs : List (Array Value)} {ρ : Nat → Value} {a : Act} {w : World} {st : AS}

theorem mut_run (R : Rel g N bs ρ a w st) {f : FuncId} {avs : List AV} {args : List Value} (hargs : All2 (C2 (cxOf g w ρ st.heap)) avs args) {hin hout : List (Nat × AO)} {r : AV} {d : Nat} (hs : MSpec P f hin avs r hout) (hh : HasH st hin)
    (hb : (nodupL (hin.map (·.1)) && avs.all noTup && closedH hout hout && ref2 hout r && namesIn d hin hout) = true) :
    Calls P f args.toArray w fun e w' => ∃ u ρ', e = .returned u ∧ Rel g N bs ρ' a w' (st.chg d hin hout) ∧ C2 (cxOf g w' ρ' (st.chg d hin hout).heap) r u := by
  simp only [Bool.and_eq_true] at hb
  obtain ⟨⟨⟨⟨hnd, hnt⟩, hcl⟩, hrr⟩, hnm⟩ := hb
  have hfind := HasH_mem hh
  have hsub : ∀ p ∈ hin, p ∈ st.heap := fun p hp => findObj_mem (hfind p hp)
  have hbin : ∀ b, b ∈ blocksOf ρ hin → b ∈ blocksOf ρ st.heap := fun b hb => by
    obtain ⟨p, hp, e⟩ := mem_blocks.1 hb
    exact mem_blocks.2 ⟨p, hsub p hp, e⟩
  have hnodup := nodup_sub' (nodupL_of hnd) R.apart fun p hp => ⟨p, hsub p hp, rfl⟩
  refine (hs.2 w (keepOf g w ρ st.heap) ρ args (fun b h => h.1) (fun p hp => R.objs p (hsub p hp)) hnodup (fun b hb => ⟨(R.lt_block (hbin b hb)).1, fun h => h.2.2 (hbin b hb)⟩) (hargs.impB hnt fun _ _ => C1_of_C2)).mono ?_
  rintro e w' ⟨u, ρ', rfl, hbel, hfix, hc, hobj, hnd', hnew⟩
  let ρ2 : Nat → Value := fun i => if hasN i hout = true then ρ' i else ρ i
  have e2 : ∀ i, hasN i hout = true → ρ2 i = ρ' i := fun i h => by simp only [ρ2, if_pos h]
  have eold : ∀ i, i ≠ d → ρ2 i = ρ i := fun i hi => by
    by_cases h : hasN i hout = true
    · rw [e2 i h]
      obtain ⟨q, hq, eq⟩ := hasN_mem.1 h
      rcases namesIn_mem hnm q hq with ⟨p, hp, ep⟩ | h'
      · have := hfix p hp q hq ep.symm
        rw [← eq, ← ep]; exact this
      · exact absurd (eq.symm.trans h') hi
    · simp only [ρ2, if_neg h]
  have hrest : ∀ p ∈ restN d hin st.heap, ρ2 p.1 = ρ p.1 := fun p hp => eold p.1 (mem_restN hp).2.1
  have hb2 : blocksOf ρ2 (st.chg d hin hout).heap = blocksOf ρ' hout ++ blocksOf ρ (restN d hin st.heap) := by
    show blocksOf ρ2 (hout ++ scrubH d (restN d hin st.heap)) = _
    rw [blocks_append, blocks_scrub, blocks_congr hrest, blocks_congr fun p hp => e2 p.1 (hasN_mem.2 ⟨p, hp, rfl⟩)]
  have hrsub := restN_sub (d := d) (hin := hin) ρ st.heap
  -- a block of what is left is none of those that were given
  have hapart : ∀ b, b ∈ blocksOf ρ (restN d hin st.heap) → b ∉ blocksOf ρ hin := by
    intro b hb hb'
    obtain ⟨p, hp, ep⟩ := mem_blocks.1 hb
    obtain ⟨q, hq, eq⟩ := mem_blocks.1 hb'
    have := blocks_apart R.apart p (mem_restN hp).1 q (hsub q hq) ep eq
    have hno := (mem_restN hp).2.2
    rw [this, hasN_mem.2 ⟨q, hq, rfl⟩] at hno
    cases hno
  have hE : Ext d (cxOf g w ρ st.heap) (cxOf g w' ρ2 (st.chg d hin hout).heap) := by
    refine ⟨fun b hk => ⟨Nat.lt_of_lt_of_le hk.1 hbel.size, hk.2.1, ?_⟩, fun b hk => hbel.block b hk.1 fun hin' => hk.2.2 (hbin b hin'), fun i hi => eold i hi⟩
    rw [hb2, List.mem_append]
    rintro (h | h)
    · rcases hnew b h with h | h
      · exact absurd hk.1 (by omega)
      · exact hk.2.2 (hbin b h)
    · exact hk.2.2 (hrsub.subset h)
  have hkY : ∀ b, (cxOf ⟨w, keepOf g w ρ st.heap, fun b => b ∈ blocksOf ρ hin⟩ w' ρ' hout).keep b → (cxOf g w' ρ2 (st.chg d hin hout).heap).keep b := by
    rintro b ⟨h1, h2, h3⟩
    refine ⟨h1, fun hlt => ?_, ?_⟩
    · rcases h2 (Nat.lt_of_lt_of_le hlt R.below.size) with h | h
      · exact h.2.1 hlt
      · exact (R.own b (hbin b h)).elim (fun h => absurd hlt (by omega)) .inr
    · rw [hb2, List.mem_append]
      rintro (h | h)
      · exact h3 h
      · have hlt := (R.lt_block (hrsub.subset h)).1
        rcases h2 hlt with h' | h'
        · exact h'.2.2 (hrsub.subset h)
        · exact hapart b h h'
  refine ⟨u, ρ2, rfl, ⟨R.size, R.defers, ?_, fun t => ?_, ?_, ?_, ?_, R.back.map rfl fun _ _ => C2.ext hE⟩, C2.over hkY rfl e2 hrr hc⟩
  · exact R.below.trans ⟨hbel.os, hbel.tape, hbel.output, hbel.size, fun k hk hM => hbel.block k (Nat.lt_of_lt_of_le hk R.below.size) fun hin' => (R.own k (hbin k hin')).elim (fun h => absurd hk (by omega)) hM⟩
  · rw [show (st.chg d hin hout).tmps t = scrub2 d (st.tmps t) from ofL_mapS rfl st.sl t]
    exact C2.ext hE (R.tmps t)
  · intro p hp
    rcases List.mem_append.1 hp with hp | hp
    · exact ObjOk.over hkY rfl e2 (hasN_mem.2 ⟨p, hp, rfl⟩) (closedH_mem hcl p hp) (hobj p hp)
    · simp only [scrubH, List.mem_map] at hp
      obtain ⟨q, hq, rfl⟩ := hp
      have hq' := mem_restN hq
      refine ObjOk.ext hE hq'.2.1 (fun b hb => ?_) (R.objs q hq'.1)
      have hm : b ∈ blocksOf ρ (restN d hin st.heap) := mem_blocks.2 ⟨q, hq, hb⟩
      exact hbel.block b (R.lt_block (hrsub.subset hm)).1 (hapart b hm)
  · rw [hb2, List.nodup_append]
    refine ⟨hnd', R.apart.sublist hrsub, fun x hx y hy e => ?_⟩
    subst e
    rcases hnew x hx with h | h
    · exact absurd (R.lt_block (hrsub.subset hy)).1 (by omega)
    · exact hapart x hy h
  · intro x hx
    rw [hb2, List.mem_append] at hx
    rcases hx with hx | hx
    · rcases hnew x hx with h | h
      · exact .inl (Nat.le_trans R.below.size h)
      · exact R.own x (hbin x h)
    · exact R.own x (hrsub.subset hx)
end
end Go.Proofs.Ytbmojelnkldecaa
