/-
  The abstract machine: a region that draws its order and acts, walked once for what stands behind it: ADraw.lex.
-/
import Derived.Test.YtbmojelnkldecaaAmAnyC
namespace Go.Proofs.Ytbmojelnkldecaa
open Go.RowKit

/-- The first order alone. -/
def aOne (P : Program) (L : Lay) (W : Walk) (N : Nat) (n : Nat) (ops : List Oper) (Q : AS → Prop) : Nat → List Nat → AS → Prop
  | 0, _, st => Q st
  | f + 1, done, st => match rdyFrom n done 0 ops with
    | [] => Q st
    | i :: r => match pickB L N st ops done (i :: r) with
      | some j => (match ops[j]? with | some o => aStep P L W N ops o st (aOne P L W N n ops Q f (j :: done)) | none => False)
      | none => (match ops[i]? with | some o => aStep P L W N ops o st (aOne P L W N n ops Q f (i :: done)) | none => False)

/-- What is known of the slots from k on, written out. -/
def slotsOf (st : AS) (N : Nat) : Nat → Nat → (List (Nat × AV) → Prop) → Prop
  | 0, _, K => K []
  | f + 1, k, K => bif Nat.ble N k then K [] else match st.tmps k with
    | .junk => slotsOf st N f (k + 1) K
    | .v (.tuple _) => slotsOf st N f (k + 1) K
    | .v x => slotsOf st N f (k + 1) (fun l => K ((k, .v x) :: l))
    | .agg cs => slotsOf st N f (k + 1) (fun l => K ((k, .agg cs) :: l))
    | .tup vs => slotsOf st N f (k + 1) (fun l => K ((k, .tup vs) :: l))
    | .sl s m sc g => slotsOf st N f (k + 1) (fun l => K ((k, .sl s m sc g) :: l))
    | .own i => slotsOf st N f (k + 1) (fun l => K ((k, .own i) :: l))
    | .eown i s j m => slotsOf st N f (k + 1) (fun l => K ((k, .eown i s j m) :: l))
    | .box i m => slotsOf st N f (k + 1) (fun l => K ((k, .box i m) :: l))
    | .el cs m => slotsOf st N f (k + 1) (fun l => K ((k, .el cs m) :: l))
    | .fn g cs => slotsOf st N f (k + 1) (fun l => K ((k, .fn g cs) :: l))

theorem slotsOf_ex {st : AS} {N : Nat} : ∀ {f k : Nat} {K : List (Nat × AV) → Prop}, slotsOf st N f k K → ∃ l, K l
  | 0, _, _, h => ⟨[], h⟩
  | f + 1, k, K, h => by
    simp only [slotsOf] at h
    cases hb : Nat.ble N k with
    | true => rw [hb] at h; exact ⟨[], h⟩
    | false =>
      rw [hb] at h
      simp only [cond_false] at h
      split at h <;> (obtain ⟨l, hl⟩ := slotsOf_ex h; exact ⟨_, hl⟩)

/-- A state knows what is written out: slot by slot, object by object. -/
def slotsAt (st : AS) : List (Nat × AV) → List AV
  | [] => []
  | p :: l => st.tmps p.1 :: slotsAt st l
def valsOf : List (Nat × AV) → List AV
  | [] => []
  | p :: l => p.2 :: valsOf l
def objsAt (st : AS) : List (Nat × AO) → List (Option AO)
  | [] => []
  | p :: l => findObj p.1 st.heap :: objsAt st l
def objsOf : List (Nat × AO) → List (Option AO)
  | [] => []
  | p :: l => some p.2 :: objsOf l

theorem slots_all {st : AS} : ∀ {l : List (Nat × AV)}, slotsAt st l = valsOf l → ∀ t, ofL l t = .junk ∨ AEq (st.tmps t) (ofL l t)
  | [], _, t => .inl rfl
  | p :: l, h, t => by
    simp only [slotsAt, valsOf, List.cons.injEq] at h
    simp only [ofL]
    cases hb : Nat.beq t p.1 with
    | true =>
      obtain rfl := Nat.eq_of_beq_eq_true hb
      rw [h.1]
      exact .inr (AEq.refl _)
    | false => exact slots_all h.2 t
theorem objs_all {st : AS} : ∀ {l : List (Nat × AO)}, objsAt st l = objsOf l → ∀ p ∈ l, ∃ o, findObj p.1 st.heap = some o ∧ OEq o p.2
  | [], _, p, hp => by cases hp
  | q :: l, h, p, hp => by
    simp only [objsAt, objsOf, List.cons.injEq] at h
    rcases List.mem_cons.1 hp with rfl | hp
    · exact ⟨_, h.1, OEq.refl _⟩
    · exact objs_all h.2 p hp

/-- The frames of those who wait, written out (of each the first so many slots). -/
def backOf (F : Nat) : List (List (Nat × AV)) → (List (List (Nat × AV)) → Prop) → Prop
  | [], K => K []
  | f :: fs, K => slotsOf ⟨f, [], [], 0⟩ F F 0 (fun l => backOf F fs (fun ls => K (l :: ls)))
theorem backOf_ex {F : Nat} : ∀ {fs : List (List (Nat × AV))} {K : List (List (Nat × AV)) → Prop}, backOf F fs K → ∃ ls, K ls
  | [], _, h => ⟨[], h⟩
  | f :: fs, K, h => by
    obtain ⟨l, h⟩ := slotsOf_ex h
    obtain ⟨ls, h⟩ := backOf_ex h
    exact ⟨_, h⟩
def backAt : List (List (Nat × AV)) → List (List (Nat × AV)) → List (List AV)
  | [], [] => []
  | f :: fs, l :: ls => slotsAt ⟨f, [], [], 0⟩ l :: backAt fs ls
  | _ :: _, [] => [[]]
  | [], _ :: _ => [[]]
def backVals : List (List (Nat × AV)) → List (List AV)
  | [] => []
  | l :: ls => valsOf l :: backVals ls

/-- The objects, written out. -/
def heapOf : List (Nat × AO) → (List (Nat × AO) → Prop) → Prop
  | [], K => K []
  | p :: l, K => match p.2 with
    | .box t cs => heapOf l (fun h => K ((p.1, .box t cs) :: h))
    | .row e s n sc f => heapOf l (fun h => K ((p.1, .row e s n sc f) :: h))
theorem heapOf_ex : ∀ {l : List (Nat × AO)} {K : List (Nat × AO) → Prop}, heapOf l K → ∃ h, K h
  | [], _, h => ⟨[], h⟩
  | p :: l, K, h => by
    simp only [heapOf] at h
    split at h <;> (obtain ⟨l, h⟩ := heapOf_ex h; exact ⟨_, h⟩)

inductive LeC (st : AS) (l : List (Nat × AV)) (h : List (Nat × AO)) (ls : List (List (Nat × AV))) : Prop where
  | mk (hl : st.back.length = ls.length) (hb : backAt st.back ls = backVals ls) (hn : nodupB (h.map (·.1)) = true) (ht : slotsAt st l = valsOf l) (hh : objsAt st h = objsOf h) : LeC st l h ls

theorem back_all : ∀ {fs : List (List (Nat × AV))} {ls : List (List (Nat × AV))}, fs.length = ls.length → backAt fs ls = backVals ls → BackLe fs ls
  | [], [], _, _ => trivial
  | f :: fs, l :: ls, hl, h => by
    simp only [backAt, backVals, List.cons.injEq] at h
    exact ⟨slots_all (st := ⟨f, [], [], 0⟩) h.1, back_all (by simpa using hl) h.2⟩
  | [], _ :: _, hl, _ => by simp at hl
  | _ :: _, [], hl, _ => by simp at hl

theorem LeC.les {st : AS} {b : Nat} {l : List (Nat × AV)} {hs : List (Nat × AO)} {ls : List (List (Nat × AV))} (h : LeC st l hs ls) : LeS st ⟨l, hs, ls, b⟩ := by
  obtain ⟨hl, hb, hn, ht, hh⟩ := h
  exact ⟨slots_all ht, objs_all hh, nodup_of hn, back_all hl hb⟩

section
variable {P : Program} {L : Lay} {g : Base} {N : Nat} {bs : List (Array Value)} {ρ : Nat → Value} {a : Act} {w : World} {st : AS}

theorem wp_const {o : Oper} {G : Prop} (h : o.wp P a w (fun _ _ => G) (fun _ _ _ => G)) : G := by
  unfold Oper.wp at h
  cases e : (execOp a.eval o).run P w with
  | ok n w' =>
    rw [e] at h
    cases n <;> simp only [Oper.upon] at h
    all_goals first
      | exact h
      | exact h.elim
      | (obtain ⟨v, w'', r, _⟩ := h default []; exact r)
      | (obtain ⟨en, w'', fr, r, _⟩ := h []
         cases en with
         | returned v => exact r
         | panicked c => exact r
         | outgrown => obtain ⟨_, _, r⟩ := r; exact r)
  | halt x w' =>
    rw [e] at h
    cases x <;> simp only [Oper.upon] at h
    exact h

theorem aOne_ex (hL : LayOk P L) {W : Walk} (hW : WOk P W) {ops : List Oper} {Q : AS → Prop} : ∀ (f : Nat) {done : List Nat} {ρ : Nat → Value} {a : Act} {w : World} {st : AS}, Rel g N bs ρ a w st → aOne P L W N ops.length ops Q f done st → ∃ S, Q S
  | 0, done, ρ, a, w, st, R, h => ⟨st, h⟩
  | f + 1, done, ρ, a, w, st, R, h => by
    have ih := @aOne_ex hL W hW ops Q f
    have step : ∀ {o : Oper} {d : List Nat}, aStep P L W N ops o st (aOne P L W N ops.length ops Q f d) → ∃ S, Q S := by
      intro o d h
      unfold aStep at h
      split at h
      · have go : ∀ k, aop P L W k st o.op (fun x st' => aput N st' o.dst x (aOne P L W N ops.length ops Q f d)) → ∃ S, Q S := by
          intro k hk
          refine wp_const (P := P) (o := o) (a := a) (w := w) (aop_snd hL hW R (d := k) hk ?_)
          intro x st' u ρ' w' hx R' hc
          obtain ⟨st2, h2, R2⟩ := aput_snd R' hc hx
          exact ih R2 h2
        unfold aopD at h
        cases hd : o.dst with
        | none => rw [hd] at h; dsimp only at h; exact go 0 (by rw [hd]; exact h)
        | some k => rw [hd] at h; dsimp only at h; exact go k (by rw [hd]; exact h)
      · obtain ⟨st2, k2, R2⟩ := aput_snd R (show C2 (cxOf g w ρ st.heap) (.v undef) undef from rfl) h
        exact ih R2 k2
      · exact h.elim
    simp only [aOne] at h
    split at h
    · exact ⟨st, h⟩
    · split at h
      · split at h
        · exact step h
        · exact h.elim
      · split at h
        · exact step h
        · exact h.elim

/-- A region that draws its order and acts: one order is walked for what stands behind; every order leaves no less. -/
theorem ADraw.lex (F : Nat) (hL : LayOk P L) {W : Walk} (hW : WOk P W) {id : Nat} {ops : Array Oper} {K : AS → Prop} {st : AS} (hm : P.follows .mixedOrders = true) (hs : Region.noSelect ops = true)
    (h : aOne P L W N ops.toList.length ops.toList (fun S => slotsOf S N 400 0 fun l => heapOf S.heap fun hs => backOf F S.back fun ls => Both (aAny P L W N ops.toList.length ops.toList (fun st' => LeC st' l hs ls) ops.toList.length [] st) (K ⟨l, hs, ls, S.base⟩)) ops.toList.length [] st) : ADraw P L W N id ops K st := by
  refine .sem fun g bs ρ a w E R hE => ?_
  obtain ⟨S, h1⟩ := aOne_ex hL hW ops.toList.length R h
  obtain ⟨l, h1⟩ := slotsOf_ex h1
  obtain ⟨hs', h1⟩ := heapOf_ex h1
  obtain ⟨ls, h1, hK⟩ := backOf_ex h1
  have := ADraw.any (P := P) (L := L) (N := N) (id := id) hL hW hm hs h1
  cases this with
  | quiet hm hB hq h =>
    refine wp_region_quiet (C := fun w' => w' = w.drew) hm hB rfl ?_
    have R' : Rel g N bs ρ a w.drew st := R.world (Below.refl _ _).drew
    exact awpQ_snd hL (E := fun a w => E .normal a w) (ops := ops.toList) (fun a w1 st R h => hE _ _ _ _ (R.less h.les) hK) ops.toList hq R' h
  | sem h => exact h g bs ρ a w E R fun ρ a w st R h => hE _ _ _ _ (R.less h.les) hK
end
end Go.Proofs.Ytbmojelnkldecaa
