/-
  The abstract machine: a region that draws its order and acts, walked once by a schedule: what only reads is taken first (and, where something acts meanwhile, shown to read the same still).
-/
import Derived.Test.YtbmojelnkldecaaAmAnyD
namespace Go.Proofs.Ytbmojelnkldecaa
open Go.RowKit

/-! ### Orders with promises -/
section
variable {P : Program} {ops : Array Oper} {Q : Exit → Act → World → Prop} {T : List (Nat × List Nat)}

def YieldsAt (P : Program) (ops : Array Oper) (o : Oper) (v : Value) (a : Act) (w : World) : Prop :=
  (Region.wanted o (yielded ops a.tmps) = true ∧ (execOp a.eval o).run P w = .ok (.value v) w) ∨ (Region.wanted o (yielded ops a.tmps) = false ∧ v = undef)

theorem YieldsAt.of_same {o : Oper} {v : Value} {a a' : Act} {w : World} (hy : YieldsAt P ops o v a w) (he : execOp a'.eval o = execOp a.eval o) (hw : Region.wanted o (yielded ops a'.tmps) = Region.wanted o (yielded ops a.tmps)) : YieldsAt P ops o v a' w := by
  unfold YieldsAt at *
  rw [he, hw]
  exact hy
theorem YieldsAt.put {o : Oper} {v : Value} {a : Act} {w : World} (hs : ∀ cs b, o.op ≠ .select cs b) {dst : Option Tmp} {u : Value} (h : ∀ d, dst = some d → d ∉ o.looksAt ops) : YieldsAt P ops o v (a.put dst u) w ↔ YieldsAt P ops o v a w := by
  have e1 := execOp_put (ops := ops) o hs a dst u h
  have e2 := wanted_put (ops := ops) o a dst u h
  unfold YieldsAt
  rw [e1, e2]

theorem YieldsAt.wpOp {i : Nat} {o : Oper} {v : Value} {a : Act} {w : World} (hi : ops[i]? = some o) (hy : YieldsAt P ops o v a w) {K : Act → World → Prop} (h : K (a.put o.dst v) w) : wpOp P ops Q i K a w := by
  unfold Go.wpOp
  simp only [hi]
  rcases hy with ⟨hw, hv⟩ | ⟨hw, rfl⟩
  · simp only [hw, if_true, Oper.wp, hv, Oper.upon]; exact .inl h
  · simp only [hw, Bool.false_eq_true, if_false]; exact h

/-- Nothing that has acted waits for p. -/
def alive (T : List (Nat × List Nat)) (listed : Array Bool) (p : Nat) : Prop := ∀ k l, (k, l) ∈ T → listed.getD k false = true → p ∉ l

def Obl (P : Program) (ops : Array Oper) (T : List (Nat × List Nat)) (listed : Array Bool) (pend : List (Nat × Value)) (a : Act) (w : World) : Prop :=
  ∀ p ∈ pend, alive T listed p.1 → ∀ o, ops[p.1]? = some o → YieldsAt P ops o p.2 a w

def wpAnyX (P : Program) (ops : Array Oper) (Q : Exit → Act → World → Prop) (T : List (Nat × List Nat)) : Nat → Array Bool → List (Nat × Value) → Act → World → Prop
  | 0, listed, _, a, w => Region.ready .any ops listed = [] ∧ Q .normal a w
  | f + 1, listed, pend, a, w => (Region.ready .any ops listed = [] → Q .normal a w) ∧ ∀ j ∈ Region.ready .any ops listed, wpOp P ops Q j (fun a' w' => Obl P ops T (listed.setIfInBounds j true) pend a' w' ∧ wpAnyX P ops Q T f (listed.setIfInBounds j true) pend a' w') a w

theorem wpAnyX.less : ∀ {f : Nat} {listed : Array Bool} {pend pend' : List (Nat × Value)} {a : Act} {w : World}, (∀ p ∈ pend', p ∈ pend) → wpAnyX P ops Q T f listed pend a w → wpAnyX P ops Q T f listed pend' a w
  | 0, _, _, _, _, _, _, h => h
  | _ + 1, _, _, _, _, _, hs, h => ⟨h.1, fun j hj => wpOp_mono (fun _ _ k => ⟨fun p hp => k.1 p (hs p hp), wpAnyX.less hs k.2⟩) (h.2 j hj)⟩
theorem wpAnyX.any : ∀ {f : Nat} {listed : Array Bool} {pend : List (Nat × Value)} {a : Act} {w : World}, wpAnyX P ops Q T f listed pend a w → wpAny P .any ops Q f listed a w
  | 0, _, _, _, _, h => h
  | _ + 1, _, _, _, _, h => ⟨h.1, fun j hj => wpOp_mono (fun _ _ k => wpAnyX.any k.2) (h.2 j hj)⟩

/-- What has come up had all come up that it waits for. -/
def Closed (T : List (Nat × List Nat)) (listed : Array Bool) : Prop := ∀ k l, (k, l) ∈ T → listed.getD k false = true → ∀ p ∈ l, listed.getD p false = true

theorem wpOp_putX {j : Nat} {oi oj : Oper} {v : Value} (hj : ops[j]? = some oj) (h1 : ∀ d, oi.dst = some d → d ∉ oj.looksAt ops) (h2 : ∀ d, oi.dst = some d → oj.dst ≠ some d)
    (hsj : ∀ cs b, oj.op ≠ .select cs b) (hQ : ∀ c a w, Q (.panic c) (a.put oi.dst v) w → Q (.panic c) a w) {K : Act → World → Prop} {a : Act} {w : World}
    (h : wpOp P ops Q j K (a.put oi.dst v) w) : wpOp P ops Q j (fun a' w' => K (a'.put oi.dst v) w') a w := by
  unfold wpOp at *
  simp only [hj] at *
  rw [wanted_put oj a oi.dst v h1] at h
  split
  · rename_i hw
    simp only [hw, if_true] at h
    rcases h with h | ⟨hasks, hlets⟩
    case inr => exact .inr ⟨by unfold Oper.asks at *; rw [execOp_put oj hsj a oi.dst v h1] at hasks; exact hasks, hlets⟩
    refine .inl ?_
    unfold Oper.wp at *
    rw [execOp_put oj hsj a oi.dst v h1] at h
    generalize (execOp a.eval oj).run P w = r at *
    cases r with
    | ok n w' =>
      cases n <;> simp only [Oper.upon] at h ⊢
      case value u => rw [← Act.put_comm a v u h2]; exact h
      case skip => rw [← Act.put_comm a v undef h2]; exact h
      case defer d =>
        rw [← Act.put_comm _ v undef h2, ← Act.put_defers]
        exact h
      case enter f args =>
        refine Calls.mono h fun e w'' he => ?_
        cases e with
        | returned u => dsimp only at he ⊢; rw [← Act.put_comm a v u h2]; exact he
        | panicked c => exact hQ _ _ _ he
        | outgrown => exact he
      case row row args => exact Rows.mono h fun u w'' he => by rw [← Act.put_comm a v u h2]; exact he
    | halt x w' =>
      cases x <;> simp only [Oper.upon] at h ⊢
      case panic u => exact hQ _ _ _ h
  · rename_i hw
    simp only [hw] at h
    rw [← Act.put_comm a v undef h2]; exact h

def addP (pu : Bool) (x : Nat × Value) (pend : List (Nat × Value)) : List (Nat × Value) := match pu with | true => pend | false => x :: pend

/-- What is pending looks at nothing that is still to come. -/
def Blind (ops : Array Oper) (listed : Array Bool) (pend : List (Nat × Value)) : Prop :=
  ∀ p ∈ pend, ∀ o, ops[p.1]? = some o → ∀ k ok, ops[k]? = some ok → listed.getD k true = false → ∀ d, ok.dst = some d → d ∉ o.looksAt ops

/-- An operation taken first: either it yields in whatever world (pu), or it is promised from now on. -/
theorem wpAnyX_first {i : Nat} {oi : Oper} {v : Value} (hi : ops[i]? = some oi) (hsel : ∀ (j : Nat) (o : Oper) cs b, ops[j]? = some o → o.op ≠ .select cs b)
    (hQ : ∀ c a w, Q (.panic c) (a.put oi.dst v) w → Q (.panic c) a w) (hT : ∀ l, (i, l) ∈ T → False) {U : List (Nat × List Nat)} (hTU : ∀ x ∈ T, x ∈ U) (hTr : ∀ (k : Nat) (l : List Nat) (listed : Array Bool), (k, l) ∈ U → Closed U listed → k ∈ Region.ready .any ops listed → ∀ p ∈ l, listed.getD p false = true) (pu : Bool) :
    ∀ (fuel : Nat) (listed : Array Bool) (pend : List (Nat × Value)) (a : Act) (w : World),
      (∀ j oj, ops[j]? = some oj → j ≠ i → listed.getD j true = false → (∀ d, oi.dst = some d → oj.dst ≠ some d) ∧ ((∀ e ∈ oj.after, Region.binds .any e = true → e.on ≠ i) → (∀ d, oj.dst = some d → d ∉ oi.looksAt ops) ∧ ∀ d, oi.dst = some d → d ∉ oj.looksAt ops)) →
      (∀ d, oi.dst = some d → d ∉ oi.looksAt ops) →
      i ∈ Region.ready .any ops listed → Closed U listed → Blind ops listed pend → Obl P ops T listed pend a w → YieldsAt P ops oi v a w → (pu = true → Yields P ops oi v a) →
      wpAnyX P ops Q T fuel (listed.setIfInBounds i true) (addP pu (i, v) pend) (a.put oi.dst v) w → wpAnyX P ops Q T (fuel + 1) listed pend a w := by
  intro fuel
  have hsub : ∀ (pend : List (Nat × Value)), ∀ p ∈ pend, p ∈ (addP pu (i, v) pend) := by
    intro pend p hp
    cases pu
    · exact List.mem_cons_of_mem _ hp
    · exact hp
  have self : ∀ (listed : Array Bool) (pend : List (Nat × Value)) (a : Act) (w : World), i ∈ Region.ready .any ops listed → Blind ops listed pend → Obl P ops T listed pend a w → Obl P ops T (listed.setIfInBounds i true) pend (a.put oi.dst v) w := by
    intro listed pend a w hr hB hO p hp hal o ho
    have hal' : alive T listed p.1 := fun k l hk hl => hal k l hk (getD_set_true hl)
    have := hO p hp hal' o ho
    exact (YieldsAt.put (fun cs b => hsel _ _ cs b ho) fun d hd => hB p hp o ho i oi hi (mem_ready.1 hr).1 d hd).2 this
  induction fuel with
  | zero =>
    intro listed pend a w _ _ hr _ hB hO hy _ H
    refine ⟨fun h => (by rw [h] at hr; cases hr), fun j hj => ?_⟩
    by_cases hji : j = i
    · subst hji; exact hy.wpOp hi ⟨self listed pend a w hr hB hO, wpAnyX.less (hsub pend) H⟩
    · have := ready_mono hj hji
      rw [H.1] at this
      cases this
  | succ fuel ih =>
    intro listed pend a w hfree hself hr hC hB hO hy hpu H
    refine ⟨fun h => (by rw [h] at hr; cases hr), fun j hj => ?_⟩
    by_cases hji : j = i
    · subst hji; exact hy.wpOp hi ⟨self listed pend a w hr hB hO, wpAnyX.less (hsub pend) H⟩
    · have h1 := H.2 j (ready_mono hj hji)
      obtain ⟨hjun, oj, hoj, hall⟩ := mem_ready.1 hj
      have hiun := (mem_ready.1 hr).1
      have hifalse : listed.getD i false = false := by
        rcases Nat.lt_or_ge i listed.size with h' | h'
        · simp [h'] at hiun ⊢; exact hiun
        · simp [Array.getElem?_eq_none h']
      have hnot : ∀ e ∈ oj.after, Region.binds .any e = true → e.on ≠ i := fun e he hb heq => by
        have h1 := hall e he hb
        rw [heq, hifalse] at h1
        cases h1
      obtain ⟨f2, f3⟩ := hfree j oj hoj hji hjun
      obtain ⟨f1, hb3⟩ := f3 hnot
      have hji' : i < ops.size := (Array.getElem?_eq_some_iff.1 hi).1
      have hClosed' : Closed U (listed.setIfInBounds j true) := by
        intro k l hk hl p hp
        by_cases hkj : k = j
        · subst hkj
          exact getD_set_true (hTr k l listed hk hC hj p hp)
        · rw [getD_set_ne false (Ne.symm hkj)] at hl
          exact getD_set_true (hC k l hk hl p hp)
      have hBlind' : Blind ops (listed.setIfInBounds j true) pend := fun p hp o ho k ok hk hun d hd => by
        refine hB p hp o ho k ok hk ?_ d hd
        by_cases hkj : j = k
        · subst hkj; exact hjun
        · rw [getD_set_ne true hkj] at hun; exact hun
      -- what is kept of i's own promise while j comes up
      have hkeepY : ∀ (a' : Act) (u : Value), Yields P ops oi v a' → Yields P ops oi v (a'.put oj.dst u) := fun a' u hy => hy.of_same (execOp_put oi (fun cs b => hsel i oi cs b hi) a' oj.dst u f1) (wanted_put oi a' oj.dst u f1)
      have h2 := wpOp_putX hoj hb3 f2 (fun cs b => hsel j oj cs b hoj) hQ h1
      have halive : ∀ p, alive T (listed.setIfInBounds j true) p → alive T ((listed.setIfInBounds i true).setIfInBounds j true) p := by
        intro p hal k l hk hl
        by_cases hki : k = i
        · subst hki; exact (hT l hk).elim
        · refine hal k l hk ?_
          rw [Array.setIfInBounds_comm _ _ (Ne.symm hji), getD_set_ne false (Ne.symm hki)] at hl
          exact hl
      have haliveI : alive T ((listed.setIfInBounds i true).setIfInBounds j true) i := by
        refine halive i fun k l hk hl hin => ?_
        have h0 := hClosed' k l (hTU _ hk) hl i hin
        rw [getD_set_ne false hji, hifalse] at h0
        cases h0
      have hfree' : ∀ k ok, ops[k]? = some ok → k ≠ i → (listed.setIfInBounds j true).getD k true = false → (∀ d, oi.dst = some d → ok.dst ≠ some d) ∧ ((∀ e ∈ ok.after, Region.binds .any e = true → e.on ≠ i) → (∀ d, ok.dst = some d → d ∉ oi.looksAt ops) ∧ ∀ d, oi.dst = some d → d ∉ ok.looksAt ops) := fun k ok hk hki hun => by
        refine hfree k ok hk hki ?_
        by_cases hjk : j = k
        · subst hjk; exact hjun
        · rw [getD_set_ne true hjk] at hun; exact hun
      -- j comes up: the state behind it
      have fin : ∀ (a' : Act) (w' : World), (pu = true → Yields P ops oi v a') → (Obl P ops T ((listed.setIfInBounds i true).setIfInBounds j true) (addP pu (i, v) pend) (a'.put oi.dst v) w' ∧ wpAnyX P ops Q T fuel ((listed.setIfInBounds i true).setIfInBounds j true) (addP pu (i, v) pend) (a'.put oi.dst v) w') →
          Obl P ops T (listed.setIfInBounds j true) pend a' w' ∧ wpAnyX P ops Q T (fuel + 1) (listed.setIfInBounds j true) pend a' w' := by
        rintro a' w' hpu' ⟨k1, k2⟩
        have kO : Obl P ops T (listed.setIfInBounds j true) pend a' w' := by
          intro p hp hal o ho
          have := k1 p (hsub pend p hp) (halive p.1 hal) o ho
          exact (YieldsAt.put (fun cs b => hsel _ _ cs b ho) fun d hd => hB p hp o ho i oi hi hiun d hd).1 this
        refine ⟨kO, ?_⟩
        have hyi : YieldsAt P ops oi v a' w' := by
          cases hp : pu with
          | true =>
            rcases hpu' hp with ⟨q1, q2⟩ | q
            · exact .inl ⟨q1, q2 w'⟩
            · exact .inr q
          | false =>
            rw [hp] at k1
            exact (YieldsAt.put (fun cs b => hsel _ _ cs b hi) hself).1 (k1 (i, v) List.mem_cons_self haliveI oi hi)
        refine ih (listed.setIfInBounds j true) pend a' w' hfree' hself (ready_mono hr (Ne.symm hji)) hClosed' hBlind' kO hyi hpu' ?_
        rw [Array.setIfInBounds_comm _ _ hji]
        exact k2
      cases hp : pu with
      | false => exact wpOp_mono (fun a' w' h3 => fin a' w' (fun e => by rw [hp] at e; cases e) h3) h2
      | true =>
        have h2' := wpOp_put (v := v) hoj (Oper.apart_of hb3 f2 f1) (fun cs b => hsel i oi cs b hi) (fun cs b => hsel j oj cs b hoj) hQ (hpu hp) h1
        exact wpOp_mono (fun a' w' h3 => fin a' w' (fun _ => h3.1) h3.2) h2'
where
  Oper.apart_of {x y : Oper} (h1 : ∀ d, x.dst = some d → d ∉ y.looksAt ops) (h2 : ∀ d, x.dst = some d → y.dst ≠ some d) (h3 : ∀ d, y.dst = some d → d ∉ x.looksAt ops) : x.apart ops y = true := by
    unfold Oper.apart
    rw [Bool.and_eq_true]
    constructor
    · cases hx : x.dst with
      | none => rfl
      | some d => simpa using ⟨h1 d hx, h2 d hx⟩
    · cases hy : y.dst with
      | none => rfl
      | some d => simpa using h3 d hy
end
end Go.Proofs.Ytbmojelnkldecaa
