/-
  The abstract machine, more: a new row that is only read from now on; arguments that say more.
-/
import Derived.Test.YtbmojelnkldecaaAmUse
namespace Go.Proofs.Ytbmojelnkldecaa
open Go.RowKit

/-- A contract of which the new row is only read. -/
theorem ASpec.thaw {P : Program} {f : FuncId} {avs : List AV} {r : AV} {d : Nat} {e : TypeId} {s n : Nat} {sc : Bool} {g : Nat → List AV} (hs : ASpec P f avs r [(d, .row e s n sc g)]) : ASpec P f avs (thaw2 d (.sl s n sc g) r) [] := by
  refine ⟨hs.1, fun w keep args hk ha => (hs.2 w keep args hk ha).mono ?_⟩
  rintro e0 w' ⟨u, ρ, h1, h2, h3, h4, h5, h6⟩
  obtain ⟨us, hown, hs0, hfl, hsc, hall⟩ := h4 _ (List.mem_singleton.2 rfl)
  have hown : w'.ownsRow 0 e s (ρ d) n us := hown
  have hall : All2 (PC w' (keepOf (base0 w keep) w' ρ [(d, .row e s n sc g)])) (flat n g) us := hall
  have hkk : ∀ b, keepOf (base0 w keep) w' ρ [(d, .row e s n sc g)] b → keepOf (base0 w keep) w' ρ [] b := fun b h => ⟨h.1, h.2.1, fun h' => by simp [blocksOf] at h'⟩
  have hrow : PC w' (keepOf (base0 w keep) w' ρ []) (.sl s n sc g) (ρ d) := by
    have ha' := hall.imp fun _ _ => PC.mono hkk (fun _ _ => rfl)
    rcases hown.2 with ⟨hv, hz⟩ | ⟨b, cap, cur, hv, hB, hh, hnc, hcm, _⟩
    · rw [hv]
      subst hz
      exact .sl s 0 sc g none 0 us hs0 (Nat.le_refl _) (by simp [maxLen]) hown.1 hfl hsc ha'.2 (.inl rfl)
    · rw [hv]
      refine .sl s n sc g _ cap us hs0 hnc hcm hown.1 hfl hsc ha'.2 (.inr ⟨b, 0, rfl, ⟨(Array.getElem?_eq_some_iff.1 hh).1, fun hlt => ?_, fun h' => by simp [blocksOf] at h'⟩, fun j u hj => ?_⟩)
      · have := h6 b (mem_blocks.2 ⟨_, List.mem_singleton.2 rfl, by rw [hv]; rfl⟩)
        exact absurd (show b < w.heap.size from hlt) (by omega)
      · have := hown.cells (g := b) (by rw [hv]; rfl) j u hj
        rwa [Addr.add_lit] at this
  exact ⟨u, ρ, h1, h2, C2.thaw (X := cxOf (base0 w keep) w' ρ [(d, .row e s n sc g)]) (Y := cxOf (base0 w keep) w' ρ []) hkk (fun _ _ => rfl) rfl hrow h3, fun p hp => (by cases hp), by simp [blocksOf], fun b hb => by simp [blocksOf] at hb⟩

/-- A loop that is unrolled, known by its counter's slot. -/
theorem ALoop.unr {body : (AExit → AS → Prop) → AS → Prop} {Q : AExit → AS → Prop} {st : AS} (t n : Nat) (_ht : st.tmps t = .v (.int .i64 0)) (h : aunroll body Q n st) : ALoop body Q st := .rounds n h

/-- Arguments that say more. -/
inductive Ch : List AV → List AV → Prop where
  | nil : Ch [] []
  | same {x : AV} {xs ys : List AV} : Ch xs ys → Ch (x :: xs) (x :: ys)
  | of {x y : AV} {xs ys : List AV} (h : ∀ (X : CX) (u : Value), C1 X x u → C1 X y u) : Ch xs ys → Ch (x :: xs) (y :: ys)
theorem Ch.all {X : CX} : ∀ {xs ys : List AV} {us : List Value}, Ch xs ys → All2 (C1 X) xs us → All2 (C1 X) ys us
  | _, _, _, .nil, h => h
  | _, _, [], .same _, h => by have := h.1; simp at this
  | _, _, [], .of _ _, h => by have := h.1; simp at this
  | _, _, u :: us, .same k, h => All2.cons (h.2 0 _ _ rfl rfl) (Ch.all k ⟨by simpa using h.1, fun i a b ha hb => h.2 (i + 1) a b (by simpa using ha) (by simpa using hb)⟩)
  | _, _, u :: us, .of h0 k, h => All2.cons (h0 X u (h.2 0 _ _ rfl rfl)) (Ch.all k ⟨by simpa using h.1, fun i a b ha hb => h.2 (i + 1) a b (by simpa using ha) (by simpa using hb)⟩)
theorem ASpec.args {P : Program} {f : FuncId} {avs bvs : List AV} {r : AV} {h : List (Nat × AO)} (hs : ASpec P f bvs r h) (hc : Ch avs bvs) : ASpec P f avs r h :=
  ⟨hs.1, fun w keep args hk ha => hs.2 w keep args hk (Ch.all hc ha)⟩
end Go.Proofs.Ytbmojelnkldecaa
