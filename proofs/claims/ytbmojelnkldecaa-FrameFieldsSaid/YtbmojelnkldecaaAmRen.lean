/-
  The abstract machine: other names for the objects of a state.
-/
import Derived.Test.YtbmojelnkldecaaAmOps
namespace Go.Proofs.Ytbmojelnkldecaa
open Go.RowKit

def srcN : List (Nat × Nat) → Nat → Option Nat
  | [], _ => none
  | (k, i) :: r, x => bif Nat.beq x i then some k else srcN r x
def renρ (σ : List (Nat × Nat)) (ρ : Nat → Value) : Nat → Value := fun i => match srcN σ i with | some k => ρ k | none => ρ i

theorem lookN_mem : ∀ {σ : List (Nat × Nat)} {k i : Nat}, lookN σ k = some i → (k, i) ∈ σ
  | [], _, _, h => by cases h
  | (k', i') :: r, k, i, h => by
    simp only [lookN] at h
    cases hb : Nat.beq k k' with
    | true =>
      rw [hb] at h
      simp only [cond_true, Option.some.injEq] at h
      rw [Nat.eq_of_beq_eq_true hb, ← h]
      exact List.mem_cons_self
    | false =>
      rw [hb] at h
      exact List.mem_cons_of_mem _ (lookN_mem h)
theorem tgtB_mem : ∀ {σ : List (Nat × Nat)} {k i : Nat}, (k, i) ∈ σ → tgtB σ i = true
  | [], _, _, h => by cases h
  | (k', i') :: r, k, i, h => by
    simp only [tgtB, Bool.or_eq_true]
    rcases List.mem_cons.1 h with h | h
    · cases h; exact .inl (by simp)
    · exact .inr (tgtB_mem h)
theorem srcN_none : ∀ {σ : List (Nat × Nat)} {i : Nat}, tgtB σ i = false → srcN σ i = none
  | [], _, _ => rfl
  | (k', i') :: r, i, h => by
    simp only [tgtB, Bool.or_eq_false_iff] at h
    simp only [srcN, h.1, cond_false]
    exact srcN_none h.2
theorem srcN_of : ∀ {σ : List (Nat × Nat)} {k i : Nat}, (σ.map (·.2)).Nodup → (k, i) ∈ σ → srcN σ i = some k
  | [], _, _, _, h => by cases h
  | (k', i') :: r, k, i, hn, h => by
    have hn' := List.nodup_cons.1 hn
    simp only [srcN]
    rcases List.mem_cons.1 h with h | h
    · cases h; simp
    · have hne : i ≠ i' := fun e => hn'.1 (List.mem_map.2 ⟨(k, i), h, e⟩)
      rw [beq_false hne, cond_false]
      exact srcN_of hn'.2 h

theorem renρ_ok {σ : List (Nat × Nat)} (hn : (σ.map (·.2)).Nodup) {ρ : Nat → Value} {k i : Nat} (h : renN σ k = some i) : renρ σ ρ i = ρ k := by
  unfold renN at h
  cases hl : lookN σ k with
  | some j =>
    rw [hl] at h
    simp only [Option.some.injEq] at h
    subst h
    simp only [renρ, srcN_of hn (lookN_mem hl)]
  | none =>
    rw [hl] at h
    dsimp only at h
    cases ht : tgtB σ k with
    | true => rw [ht] at h; cases h
    | false =>
      rw [ht] at h
      simp only [cond_false, Option.some.injEq] at h
      subst h
      simp only [renρ, srcN_none ht]

section
variable {σ : List (Nat × Nat)} {X Y : CX}

theorem C0.ren (hk : ∀ b, X.keep b → Y.keep b) (hm : Y.w = X.w) (hρ : ∀ k i, renN σ k = some i → Y.ρ i = X.ρ k) {av : AV} {u : Value} (h : C0 X av u) : C0 Y (ren0 σ av) u := by
  have hmm : ∀ b, X.keep b → Y.w.heap[b]? = X.w.heap[b]? := fun _ _ => by rw [hm]
  cases av with
  | own id =>
    simp only [ren0]
    cases e : renN σ id with
    | some i => exact (show u = X.ρ id from h).trans (hρ id i e).symm
    | none => trivial
  | eown id s j k =>
    simp only [ren0]
    cases e : renN σ id with
    | some i =>
      obtain ⟨b, n, c, h1, h2⟩ := h
      exact ⟨b, n, c, (hρ id i e).trans h1, h2⟩
    | none => trivial
  | box id off =>
    simp only [ren0]
    cases e : renN σ id with
    | some i =>
      obtain ⟨b, h1, h2⟩ := h
      exact ⟨b, (hρ id i e).trans h1, h2⟩
    | none => trivial
  | el cs k =>
    obtain ⟨b, o, us, e, kb, ha, hc⟩ := h
    exact ⟨b, o, us, e, hk b kb, ha.imp (fun _ _ => PC.mono hk hmm), fun j y hj => (World.cell?_of_block (hmm b kb)).trans (hc j y hj)⟩
  | sl s n sc f => exact PC.mono hk hmm h
  | v x => exact h
  | junk => trivial
  | agg cs => exact h
  | tup cs => exact h
  | fn g caps => exact h

theorem C1.ren (hk : ∀ b, X.keep b → Y.keep b) (hm : Y.w = X.w) (hρ : ∀ k i, renN σ k = some i → Y.ρ i = X.ρ k) {av : AV} {u : Value} (h : C1 X av u) : C1 Y (ren1 σ av) u := by
  cases av with
  | agg cs => obtain ⟨us, e, ha⟩ := h; exact ⟨us, e, ha.mapl fun _ _ => C0.ren hk hm hρ⟩
  | fn g cs => obtain ⟨us, e, ha⟩ := h; exact ⟨us, e, ha.mapl fun _ _ => C0.ren hk hm hρ⟩
  | own id => exact C1.of0 (C0.ren hk hm hρ (av := .own id) h)
  | eown id s j k => exact C1.of0 (C0.ren hk hm hρ (av := .eown id s j k) h)
  | box id k => exact C1.of0 (C0.ren hk hm hρ (av := .box id k) h)
  | el cs k => exact C1.of0 (C0.ren hk hm hρ (av := .el cs k) h)
  | sl s n sc f => exact C1.of0 (C0.ren hk hm hρ (av := .sl s n sc f) h)
  | v x => exact h
  | junk => trivial
  | tup cs => exact h

theorem C2.ren (hk : ∀ b, X.keep b → Y.keep b) (hm : Y.w = X.w) (hρ : ∀ k i, renN σ k = some i → Y.ρ i = X.ρ k) {av : AV} {u : Value} (h : C2 X av u) : C2 Y (ren2 σ av) u := by
  cases av with
  | tup vs => obtain ⟨us, e, ha⟩ := h; exact ⟨us, e, ha.mapl fun _ _ => C1.ren hk hm hρ⟩
  | agg cs => exact C2.of1 (C1.ren hk hm hρ (av := .agg cs) h)
  | fn g cs => exact C2.of1 (C1.ren hk hm hρ (av := .fn g cs) h)
  | own id => exact C2.of1 (C1.ren hk hm hρ (av := .own id) h)
  | eown id s j k => exact C2.of1 (C1.ren hk hm hρ (av := .eown id s j k) h)
  | box id k => exact C2.of1 (C1.ren hk hm hρ (av := .box id k) h)
  | el cs k => exact C2.of1 (C1.ren hk hm hρ (av := .el cs k) h)
  | sl s n sc f => exact C2.of1 (C1.ren hk hm hρ (av := .sl s n sc f) h)
  | v x => exact h
  | junk => trivial
end

theorem blocks_ren {σ : List (Nat × Nat)} (hn : (σ.map (·.2)).Nodup) (ρ : Nat → Value) : ∀ h, (blocksOf (renρ σ ρ) (renH σ h)).Sublist (blocksOf ρ h)
  | [] => by simp [renH, blocksOf]
  | (k, o) :: h => by
    have ih := blocks_ren hn ρ h
    simp only [renH]
    rw [blocks_cons ρ]
    cases e : renN σ k with
    | none => exact ih.trans (List.sublist_append_right _ _)
    | some i =>
      dsimp only
      rw [blocks_cons]
      dsimp only
      rw [renρ_ok hn e]
      exact List.Sublist.append (List.Sublist.refl _) ih

theorem mem_renH {σ : List (Nat × Nat)} : ∀ {h : List (Nat × AO)} {p : Nat × AO}, p ∈ renH σ h → ∃ k o, (k, o) ∈ h ∧ renN σ k = some p.1 ∧ p.2 = o.ren σ
  | [], _, hp => by cases hp
  | (k, o) :: h, p, hp => by
    simp only [renH] at hp
    cases e : renN σ k with
    | none =>
      rw [e] at hp
      obtain ⟨k', o', h1, h2⟩ := mem_renH hp
      exact ⟨k', o', List.mem_cons_of_mem _ h1, h2⟩
    | some i =>
      rw [e] at hp
      rcases List.mem_cons.1 hp with rfl | hp
      · exact ⟨k, o, List.mem_cons_self, e, rfl⟩
      · obtain ⟨k', o', h1, h2⟩ := mem_renH hp
        exact ⟨k', o', List.mem_cons_of_mem _ h1, h2⟩

section
variable {g : Base} {N : Nat} {bs : List (Array Value)} {ρ : Nat → Value} {a : Act} {w : World} {st : AS}

theorem Rel.ren (R : Rel g N bs ρ a w st) {σ : List (Nat × Nat)} (hnd : nodupB (σ.map (·.2)) = true) : Rel g N bs (renρ σ ρ) a w (st.ren σ) := by
  have hn := nodup_of hnd
  have hsub := blocks_ren hn ρ st.heap
  have hk : ∀ b, keepOf g w ρ st.heap b → keepOf g w (renρ σ ρ) (st.ren σ).heap b := fun b h => ⟨h.1, h.2.1, fun h' => h.2.2 (hsub.subset h')⟩
  have hρ : ∀ k i, renN σ k = some i → renρ σ ρ i = ρ k := fun k i e => renρ_ok hn e
  refine ⟨R.size, R.defers, R.below, fun t => ?_, fun p hp => ?_, R.apart.sublist hsub, fun b hb => R.own b (hsub.subset hb), R.back.map rfl fun _ _ => C2.ren (X := cxOf g w ρ st.heap) (Y := cxOf g w (renρ σ ρ) (st.ren σ).heap) hk rfl hρ⟩
  · rw [show (st.ren σ).tmps t = ren2 σ (st.tmps t) from ofL_mapS rfl st.sl t]
    exact C2.ren (X := cxOf g w ρ st.heap) (Y := cxOf g w (renρ σ ρ) (st.ren σ).heap) hk rfl hρ (R.tmps t)
  · obtain ⟨k, o, h1, h2, h3⟩ := mem_renH hp
    have ho := R.objs _ h1
    rw [h3]
    cases o with
    | box t cs =>
      obtain ⟨b, us, e, hh, ha⟩ := ho
      exact ⟨b, us, (hρ _ _ h2).trans e, hh, ha.mapl fun _ _ => C0.ren (X := cxOf g w ρ st.heap) (Y := cxOf g w (renρ σ ρ) (st.ren σ).heap) hk rfl hρ⟩
    | row e s n sc f =>
      obtain ⟨us, hown, hs, hfl, hsc, ha⟩ := ho
      exact ⟨us, by rw [show (cxOf g w (renρ σ ρ) (st.ren σ).heap).ρ p.1 = ρ k from hρ _ _ h2]; exact hown, hs, hfl, hsc, ha.imp fun _ _ => PC.mono hk (fun _ _ => rfl)⟩
end
end Go.Proofs.Ytbmojelnkldecaa
