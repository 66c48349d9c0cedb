/-
  The abstract machine: a contract of a function that changes objects, under other names; and at a call.
-/
import Derived.Test.YtbmojelnkldecaaAmMutS
namespace Go.Proofs.Ytbmojelnkldecaa
open Go.RowKit

def keyB (σ : List (Nat × Nat)) (i : Nat) : Bool := match lookN σ i with | some _ => true | none => false
def key0 (σ : List (Nat × Nat)) : AV → Bool
  | .own i => keyB σ i
  | .eown i .. => keyB σ i
  | .box i _ => keyB σ i
  | _ => true
def key1 (σ : List (Nat × Nat)) : AV → Bool
  | .agg cs => cs.all (key0 σ)
  | .fn _ cs => cs.all (key0 σ)
  | x => key0 σ x
def key2 (σ : List (Nat × Nat)) : AV → Bool
  | .tup vs => vs.all (key1 σ)
  | x => key1 σ x
def keyO (σ : List (Nat × Nat)) : AO → Bool
  | .box _ cs => cs.all (key0 σ)
  | .row .. => true
def keyH (σ : List (Nat × Nat)) : List (Nat × AO) → Bool
  | [] => true
  | (k, o) :: l => keyB σ k && keyO σ o && keyH σ l

section
variable {σ : List (Nat × Nat)} {X Y : CX}

theorem keyB_some {i : Nat} (h : keyB σ i = true) : ∃ j, lookN σ i = some j ∧ renN σ i = some j := by
  unfold keyB at h
  cases e : lookN σ i with
  | none => rw [e] at h; cases h
  | some j => exact ⟨j, rfl, by simp [renN, e]⟩

theorem C0.renK (hw : Y.w = X.w) (hk : Y.keep = X.keep) (hρ : ∀ k i, lookN σ k = some i → Y.ρ i = X.ρ k) {x : AV} {u : Value} (hr : key0 σ x = true) : C0 Y (ren0 σ x) u ↔ C0 X x u := by
  obtain ⟨w, k, ρ⟩ := X
  obtain ⟨w', k', ρ'⟩ := Y
  dsimp only at hw hk
  subst hw hk
  cases x with
  | own id =>
    obtain ⟨j, e, e'⟩ := keyB_some hr
    simp only [ren0, e', C0]
    rw [show ρ' j = ρ id from hρ id j e]
  | eown id s i n =>
    obtain ⟨j, e, e'⟩ := keyB_some hr
    simp only [ren0, e', C0]
    rw [show ρ' j = ρ id from hρ id j e]
  | box id off =>
    obtain ⟨j, e, e'⟩ := keyB_some hr
    simp only [ren0, e', C0]
    rw [show ρ' j = ρ id from hρ id j e]
  | _ => exact Iff.rfl

theorem All2.mapIff {R S : AV → Value → Prop} {m : AV → AV} {q : AV → Bool} (hi : ∀ x u, q x = true → (S (m x) u ↔ R x u)) : ∀ {xs : List AV} {us : List Value}, xs.all q = true → (All2 S (xs.map m) us ↔ All2 R xs us)
  | xs, us, hq => by
    constructor
    · intro h
      refine ⟨by simpa using h.1, fun i x u hx hu => (hi x u (List.all_eq_true.1 hq x (List.mem_of_getElem? hx))).1 (h.2 i _ u (by rw [List.getElem?_map, hx]; rfl) hu)⟩
    · intro h
      refine ⟨by simpa using h.1, fun i y u hy hu => ?_⟩
      rw [List.getElem?_map] at hy
      cases hx : xs[i]? with
      | none => rw [hx] at hy; cases hy
      | some x => rw [hx] at hy; cases hy; exact (hi x u (List.all_eq_true.1 hq x (List.mem_of_getElem? hx))).2 (h.2 i x u hx hu)

theorem C1.renK (hw : Y.w = X.w) (hk : Y.keep = X.keep) (hρ : ∀ k i, lookN σ k = some i → Y.ρ i = X.ρ k) {x : AV} {u : Value} (hr : key1 σ x = true) : C1 Y (ren1 σ x) u ↔ C1 X x u := by
  have c0 : ∀ {y : AV}, key0 σ y = true → (∀ cs, y ≠ .agg cs) → (∀ g cs, y ≠ .fn g cs) → (C1 Y (ren0 σ y) u ↔ C1 X y u) := by
    intro y hy h1 h2
    have := C0.renK hw hk hρ (u := u) hy
    constructor
    · intro h
      refine C1.of0 (this.1 ?_)
      have hne : ∀ cs, ren0 σ y ≠ .agg cs := by
        intro cs e
        cases y <;> simp only [ren0] at e <;> first | (split at e <;> cases e; done) | exact h1 _ rfl | cases e
      have hne2 : ∀ g cs, ren0 σ y ≠ .fn g cs := by
        intro g cs e
        cases y <;> simp only [ren0] at e <;> first | (split at e <;> cases e; done) | exact h2 _ _ rfl | cases e
      revert h hne hne2
      cases ren0 σ y <;> intro h hne hne2 <;> first | exact h | exact absurd rfl (hne _) | exact absurd rfl (hne2 _ _)
    · intro h
      refine C1.of0 (this.2 ?_)
      revert h h1 h2
      cases y <;> intro h1 h2 h <;> first | exact h | exact absurd rfl (h1 _) | exact absurd rfl (h2 _ _)
  cases x with
  | agg cs => exact exists_congr fun us => and_congr_right fun _ => All2.mapIff (fun x u h => C0.renK hw hk hρ h) hr
  | fn g cs => exact exists_congr fun us => and_congr_right fun _ => All2.mapIff (fun x u h => C0.renK hw hk hρ h) hr
  | v y => exact c0 (y := .v y) rfl (fun _ h => by cases h) (fun _ _ h => by cases h)
  | tup vs => exact c0 (y := .tup vs) rfl (fun _ h => by cases h) (fun _ _ h => by cases h)
  | sl s n sc f => exact c0 (y := .sl s n sc f) rfl (fun _ h => by cases h) (fun _ _ h => by cases h)
  | own i => exact c0 (y := .own i) hr (fun _ h => by cases h) (fun _ _ h => by cases h)
  | eown i s j k => exact c0 (y := .eown i s j k) hr (fun _ h => by cases h) (fun _ _ h => by cases h)
  | box i k => exact c0 (y := .box i k) hr (fun _ h => by cases h) (fun _ _ h => by cases h)
  | el cs k => exact c0 (y := .el cs k) rfl (fun _ h => by cases h) (fun _ _ h => by cases h)
  | junk => exact c0 (y := .junk) rfl (fun _ h => by cases h) (fun _ _ h => by cases h)

theorem C2.renK (hw : Y.w = X.w) (hk : Y.keep = X.keep) (hρ : ∀ k i, lookN σ k = some i → Y.ρ i = X.ρ k) {x : AV} {u : Value} (hr : key2 σ x = true) (h : C2 X x u) : C2 Y (ren2 σ x) u := by
  cases x with
  | tup vs =>
    obtain ⟨us, e, ha⟩ := h
    exact ⟨us, e, (All2.mapIff (fun x u h => C1.renK hw hk hρ h) hr).2 ha⟩
  | agg cs => exact C2.of1 ((C1.renK hw hk hρ (x := .agg cs) hr).2 h)
  | fn g cs => exact C2.of1 ((C1.renK hw hk hρ (x := .fn g cs) hr).2 h)
  | v y => exact C2.of1 ((C1.renK hw hk hρ (x := .v y) hr).2 h)
  | sl s n sc f => exact C2.of1 ((C1.renK hw hk hρ (x := .sl s n sc f) hr).2 h)
  | own i => exact C2.of1 ((C1.renK hw hk hρ (x := .own i) hr).2 h)
  | eown i s j k => exact C2.of1 ((C1.renK hw hk hρ (x := .eown i s j k) hr).2 h)
  | box i k => exact C2.of1 ((C1.renK hw hk hρ (x := .box i k) hr).2 h)
  | el cs k => exact C2.of1 ((C1.renK hw hk hρ (x := .el cs k) hr).2 h)
  | junk => exact C2.of1 ((C1.renK hw hk hρ (x := .junk) hr).2 h)

theorem ObjOk.renK (hw : Y.w = X.w) (hk : Y.keep = X.keep) (hρ : ∀ k i, lookN σ k = some i → Y.ρ i = X.ρ k) {k i : Nat} {o : AO} (hi : lookN σ k = some i) (hr : keyO σ o = true) : ObjOk Y i (o.ren σ) ↔ ObjOk X k o := by
  cases o with
  | box t cs =>
    simp only [AO.ren, ObjOk, hw, hρ k i hi]
    exact exists_congr fun b => exists_congr fun us => and_congr_right fun _ => and_congr_right fun _ => All2.mapIff (fun x u h => C0.renK hw hk hρ h) hr
  | row e s n sc f =>
    simp only [AO.ren, ObjOk, hw, hk, hρ k i hi]

theorem blocks_renK {ρ ρ' : Nat → Value} (hρ : ∀ k i, lookN σ k = some i → ρ' i = ρ k) : ∀ {h : List (Nat × AO)}, keyH σ h = true → blocksOf ρ' (renH σ h) = blocksOf ρ h
  | [], _ => rfl
  | (k, o) :: l, h => by
    simp only [keyH, Bool.and_eq_true] at h
    obtain ⟨j, e, e'⟩ := keyB_some h.1.1
    simp only [renH, e']
    rw [blocks_cons, blocks_cons, blocks_renK hρ h.2]
    dsimp only
    rw [hρ k j e]
theorem renH_mem : ∀ {h : List (Nat × AO)}, keyH σ h = true → ∀ p ∈ h, ∃ i, lookN σ p.1 = some i ∧ (i, p.2.ren σ) ∈ renH σ h ∧ keyO σ p.2 = true
  | [], _, p, hp => by cases hp
  | (k, o) :: l, h, p, hp => by
    simp only [keyH, Bool.and_eq_true] at h
    obtain ⟨j, e, e'⟩ := keyB_some h.1.1
    simp only [renH, e']
    rcases List.mem_cons.1 hp with rfl | hp
    · exact ⟨j, e, List.mem_cons_self, h.1.2⟩
    · obtain ⟨i, h1, h2, h3⟩ := renH_mem h.2 p hp
      exact ⟨i, h1, List.mem_cons_of_mem _ h2, h3⟩
theorem mem_renHK : ∀ {h : List (Nat × AO)}, keyH σ h = true → ∀ q ∈ renH σ h, ∃ p ∈ h, lookN σ p.1 = some q.1 ∧ q.2 = p.2.ren σ ∧ keyO σ p.2 = true
  | [], _, q, hq => by cases hq
  | (k, o) :: l, h, q, hq => by
    simp only [keyH, Bool.and_eq_true] at h
    obtain ⟨j, e, e'⟩ := keyB_some h.1.1
    simp only [renH, e'] at hq
    rcases List.mem_cons.1 hq with rfl | hq
    · exact ⟨(k, o), List.mem_cons_self, e, rfl, h.1.2⟩
    · obtain ⟨p, h1, h2⟩ := mem_renHK h.2 q hq
      exact ⟨p, List.mem_cons_of_mem _ h1, h2⟩
end

theorem MSpec.ren {P : Program} {f : FuncId} {hin : List (Nat × AO)} {avs : List AV} {r : AV} {hout : List (Nat × AO)} (h : MSpec P f hin avs r hout) (σ : List (Nat × Nat))
    (hb : (nodupL (σ.map (·.2)) && keyH σ hin && keyH σ hout && avs.all (key1 σ) && key2 σ r) = true) : MSpec P f (renH σ hin) (avs.map (ren1 σ)) (ren2 σ r) (renH σ hout) := by
  simp only [Bool.and_eq_true] at hb
  obtain ⟨⟨⟨⟨hnd, hki⟩, hko⟩, hka⟩, hkr⟩ := hb
  have hn := nodupL_of hnd
  refine ⟨h.1, fun w keep ρ args hkeep hobj hndb hnk hargs => ?_⟩
  let ρ0 : Nat → Value := fun k => match lookN σ k with | some i => ρ i | none => undef
  have e0 : ∀ k i, lookN σ k = some i → ρ i = ρ0 k := fun k i e => by simp only [ρ0, e]
  have hbin : blocksOf ρ (renH σ hin) = blocksOf ρ0 hin := blocks_renK e0 hki
  have key := h.2 w keep ρ0 args hkeep (fun p hp => by
      obtain ⟨i, h1, h2, h3⟩ := renH_mem hki p hp
      exact (ObjOk.renK (X := ⟨w, keep, ρ0⟩) (Y := ⟨w, keep, ρ⟩) rfl rfl e0 h1 h3).1 (hobj _ h2)) (by rw [← hbin]; exact hndb) (by rw [← hbin]; exact hnk)
    ((All2.mapIff (fun x u h => C1.renK (X := ⟨w, keep, ρ0⟩) (Y := ⟨w, keep, ρ⟩) rfl rfl e0 h) hka).1 hargs)
  refine key.mono ?_
  rintro e w' ⟨u, ρ0', rfl, hbel, hfix, hc, ho, hnd', hnew⟩
  let ρ' : Nat → Value := fun i => match srcN σ i with | some k => ρ0' k | none => ρ i
  have e1 : ∀ k i, lookN σ k = some i → ρ' i = ρ0' k := fun k i e => by simp only [ρ', srcN_of hn (lookN_mem e)]
  have hbout : blocksOf ρ' (renH σ hout) = blocksOf ρ0' hout := blocks_renK e1 hko
  have hM : (fun b => b ∈ blocksOf ρ (renH σ hin)) = (fun b => b ∈ blocksOf ρ0 hin) := by rw [hbin]
  have hkk : (cxOf ⟨w, keep, fun b => b ∈ blocksOf ρ (renH σ hin)⟩ w' ρ' (renH σ hout)).keep = (cxOf ⟨w, keep, fun b => b ∈ blocksOf ρ0 hin⟩ w' ρ0' hout).keep := by
    funext b
    simp only [cxOf, keepOf, hbout, hbin]
  refine ⟨u, ρ', rfl, by rw [hM]; exact hbel, ?_, C2.renK (X := cxOf ⟨w, keep, fun b => b ∈ blocksOf ρ0 hin⟩ w' ρ0' hout) (Y := cxOf ⟨w, keep, fun b => b ∈ blocksOf ρ (renH σ hin)⟩ w' ρ' (renH σ hout)) rfl hkk e1 hkr hc, ?_, by rw [hbout]; exact hnd', by rw [hbout, hbin]; exact hnew⟩
  · intro p hp q hq epq
    obtain ⟨p0, hp0, h1, _⟩ := mem_renHK hki p hp
    obtain ⟨q0, hq0, h2, _⟩ := mem_renHK hko q hq
    have hk0 : q0.1 = p0.1 := by
      have k1 := srcN_of hn (lookN_mem h1)
      have k2 := srcN_of hn (lookN_mem h2)
      rw [epq, k1] at k2
      exact (Option.some.inj k2).symm
    rw [e1 _ _ h1, e0 _ _ h1]
    exact hfix p0 hp0 q0 hq0 hk0
  · intro q hq
    obtain ⟨p, hp, h1, h2, h3⟩ := mem_renHK hko q hq
    rw [h2]
    exact (ObjOk.renK (X := cxOf ⟨w, keep, fun b => b ∈ blocksOf ρ0 hin⟩ w' ρ0' hout) (Y := cxOf ⟨w, keep, fun b => b ∈ blocksOf ρ (renH σ hin)⟩ w' ρ' (renH σ hout)) rfl hkk e1 h1 h3).2 (ho p hp)

/-- A call by a contract whose objects are named 0, 1, .. (k: the new one). -/
theorem ACall.chgR {P : Program} {L : Lay} {W : Walk} {d : Nat} {f : FuncId} {avs : List AV} {st : AS} {K : AV → AS → Prop} (k : Nat) (τ : List (Nat × Nat)) {hin : List (Nat × AO)} {avs0 : List AV} {r : AV} {hout : List (Nat × AO)} (hs : MSpec P f hin avs0 r hout)
    (ha : avs0.map (ren1 ((k, d) :: τ)) = avs) (hh : HasH st (renH ((k, d) :: τ) hin))
    (hb : (nodupL (((k, d) :: τ).map (·.2)) && keyH ((k, d) :: τ) hin && keyH ((k, d) :: τ) hout && avs0.all (key1 ((k, d) :: τ)) && key2 ((k, d) :: τ) r) = true)
    (hb2 : (nodupL ((renH ((k, d) :: τ) hin).map (·.1)) && (avs0.map (ren1 ((k, d) :: τ))).all noTup && closedH (renH ((k, d) :: τ) hout) (renH ((k, d) :: τ) hout) && ref2 (renH ((k, d) :: τ) hout) (ren2 ((k, d) :: τ) r) && namesIn d (renH ((k, d) :: τ) hin) (renH ((k, d) :: τ) hout)) = true)
    (hK : K (ren2 ((k, d) :: τ) r) (st.chg d (renH ((k, d) :: τ) hin) (renH ((k, d) :: τ) hout))) : ACall P L W d f avs st K := by
  subst ha
  exact .chg _ _ _ (hs.ren _ hb) hh hb2 hK
end Go.Proofs.Ytbmojelnkldecaa
