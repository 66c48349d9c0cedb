/-
  The abstract machine: a region that draws its order and acts, walked: ADraw.any.
-/
import Derived.Test.YtbmojelnkldecaaAmAny
namespace Go.Proofs.Ytbmojelnkldecaa
open Go.RowKit

def intB : AV → Bool
  | .v (.int _ _) => true
  | _ => false
def strB : AV → Bool
  | .v (.string _) => true
  | _ => false
def sliceB : AV → Bool
  | .v (.string _) => true
  | .v (.slice _ _ _) => true
  | .sl .. => true
  | _ => false
def intT (L : Lay) (t : TypeId) : Bool := match layGet L t with | some i => (match i.kind with | .int _ => true | _ => false) | none => false

/-- Here, the operation asks nothing of the memory. -/
def pureAt (L : Lay) (st : AS) (op : Op) : Bool :=
  match op with
  | .move _ => true
  | .assign _ => true
  | .pick .. => true
  | .extract .. => true
  | .fieldAddr .. => true
  | .indexAddr .. => true
  | .unOp .. => true
  | .build .. => true
  | .binOp _ _ x y _ => (intB (st.ev x) && intB (st.ev y)) || (strB (st.ev x) && strB (st.ev y))
  | .convert _ t x => intB (st.ev x) && intT L t
  | .slice _ x _ _ none => sliceB (st.ev x)
  | .sliceToArrayPointer _ x => sliceB (st.ev x)
  | .call { callee := .builtin .len, args := xs, argTypes := ts } => (match ts.toList, xs.toList with | [_], [x] => sliceB (st.ev x) | _, _ => false)
  | _ => false

section
variable {P : Program} {L : Lay} {g : Base} {N : Nat} {bs : List (Array Value)} {ρ : Nat → Value} {a : Act} {w : World} {st : AS}

theorem intB_val {X : CX} {x : AV} {u : Value} (hx : C2 X x u) (h : intB x = true) : ∃ k n, u = .int k n := by
  unfold intB at h
  split at h
  · exact ⟨_, _, C2.inv_v hx⟩
  · cases h
theorem strB_val {X : CX} {x : AV} {u : Value} (hx : C2 X x u) (h : strB x = true) : ∃ s, u = .string s := by
  unfold strB at h
  split at h
  · exact ⟨_, C2.inv_v hx⟩
  · cases h
theorem sliceB_val {X : CX} {x : AV} {u : Value} (hx : C2 X x u) (h : sliceB x = true) : (∃ A n c, u = .slice A n c) ∨ ∃ s, u = .string s := by
  unfold sliceB at h
  split at h
  · exact .inr ⟨_, C2.inv_v hx⟩
  · exact .inl ⟨_, _, _, C2.inv_v hx⟩
  · cases C2.inv_sl hx with
    | sl _ _ _ _ A c us _ _ _ _ _ _ _ _ => exact .inl ⟨_, _, _, rfl⟩
  · cases h

theorem FreeS.fieldAt (hL : LayOk P L) {t : TypeId} {p : AV} {pv : Value} {i : Nat} {K : AV → Prop} (h : afieldAddr L t p i K) : FreeS P (Instr.fieldAt t pv i) := by
  unfold afieldAddr at h
  split at h
  · rename_i ti hti
    split at h
    · rename_i fs hk
      split at h
      · rename_i o ft hfs
        split at h
        · rename_i fi hfi
          obtain ⟨fields, hu, hmap⟩ := struct_fields hL hti hk
          obtain ⟨f, hf, ho, hft⟩ := field_at hmap hfs
          cases hs : Nat.ble 1 fi.size with
          | false => rw [hs] at h; exact h.elim
          | true =>
            have h1 := Nat.le_of_ble_eq_true hs
            unfold Instr.fieldAt
            refine FreeS.bindr (x := .struct fields) (fun w => run_underlying hu w) ?_
            dsimp only
            rw [hf]
            dsimp only
            refine FreeS.bind (FreeS.sureAddr _) fun a => FreeS.bind ?_ fun _ => FreeS.pure _
            unfold fieldPlace
            refine FreeS.bindr (x := fi.size) (fun w => by rw [hft]; exact run_size hL hfi w) ?_
            rw [if_neg (by omega)]
            exact FreeS.pure _
        · exact h.elim
      · exact h.elim
    · exact h.elim
  · exact h.elim

theorem zero_val (hL : LayOk P L) {t : TypeId} {i : TI} (h : layGet L t = some i) : ∃ z, ∀ w, (zeroValue t).run P w = .ok z w := by
  obtain ⟨info, z, d, h1, h2, h3, h4, h5, h6, h7⟩ := fact_of hL h
  exact ⟨z, fun w => by simp [zeroValue, typeInfo, h1, h3]⟩

theorem FreeS.buildAt (hL : LayOk P L) {hh : List (Nat × AO)} {t : TypeId} {ps : List (Nat × AV)} {parts : Array (Nat × Value)} {K : AV → Prop} (h : abuild L hh t ps K) : FreeS P (Instr.build t parts) := by
  unfold abuild at h
  split at h
  · rename_i ti hti
    obtain ⟨z, hz⟩ := zero_val hL hti
    unfold Instr.build
    refine FreeS.bindr hz ?_
    split at h
    · rename_i fs hk
      obtain ⟨fields, hu, hmap⟩ := struct_fields hL hti hk
      refine FreeS.bindr (x := .struct fields) (fun w => run_underlying hu w) ?_
      dsimp only
      split at h
      · rename_i pl hplc
        rw [← hmap] at hplc
        refine FreeS.bindr (x := pl.toArray) (fun w => ?_) ?_
        · have hm := mapM_places hL w hplc
          rw [Array.mapM_eq_mapM_toList]
          simp only [Sem.run_map, hm, Result.andThen_ok]
        · split
          · exact FreeS.pure _
          · exact FreeS.halt _
      · exact h.elim
    · rename_i n e hk
      refine FreeS.bindr (x := .array n e) (fun w => run_underlying (array_of hL hti hk) w) ?_
      dsimp only
      refine FreeS.bind (FreeS.sizeOf _) fun _ => ?_
      split
      · exact FreeS.pure _
      · exact FreeS.halt _
    · exact h.elim
  · exact h.elim

theorem intT_of (hL : LayOk P L) {t : TypeId} (h : intT L t = true) : ∃ k, P.underlying t = some (.int k) := by
  unfold intT at h
  split at h
  · rename_i i hi
    split at h
    · rename_i k hk
      exact ⟨k, int_of hL hi hk⟩
    · cases h
  · cases h

/-- Such an operation yields its value in whatever memory. -/
theorem aop_pure (hL : LayOk P L) {W : Walk} (R : Rel g N bs ρ a w st) {o : Oper} {d : Nat} {K : AV → AS → Prop} (hp : pureAt L st o.op = true) (h : aop P L W d st o.op K) :
    ∃ x u st', K x st' ∧ Rel g N bs ρ a w st' ∧ C2 (cxOf g w ρ st'.heap) x u ∧ ∀ w', (execOp a.eval o).run P w' = .ok (.value u) w' := by
  have fin : ∀ {m : Sem Value}, FreeS P m → (∀ w, (execOp a.eval o).run P w = (do pure (.value (← m)) : Sem Next).run P w) → (∃ x u, K x st ∧ C2 (cxOf g w ρ st.heap) x u ∧ (execOp a.eval o).run P w = .ok (.value u) w) → ∃ x u st', K x st' ∧ Rel g N bs ρ a w st' ∧ C2 (cxOf g w ρ st'.heap) x u ∧ ∀ w', (execOp a.eval o).run P w' = .ok (.value u) w' := by
    rintro m hm e ⟨x, u, h1, h2, h3⟩
    refine ⟨x, u, st, h1, R, h2, fun w' => ?_⟩
    rw [e] at h3 ⊢
    exact (FreeS.bind hm (fun _ => FreeS.pure _) w w' _ _ h3).2
  have plain : ∀ {u0 : Value}, (execOp a.eval o = pure (.value u0)) → (∃ x u, K x st ∧ C2 (cxOf g w ρ st.heap) x u ∧ (execOp a.eval o).run P w = .ok (.value u) w) → ∃ x u st', K x st' ∧ Rel g N bs ρ a w st' ∧ C2 (cxOf g w ρ st'.heap) x u ∧ ∀ w', (execOp a.eval o).run P w' = .ok (.value u) w' := by
    rintro u0 e ⟨x, u, h1, h2, h3⟩
    refine ⟨x, u, st, h1, R, h2, fun w' => ?_⟩
    rw [e] at h3 ⊢
    simp only [Sem.run_pure] at h3 ⊢
    cases h3
    rfl
  have quiet : quietB o.op = true → ∃ x u, K x st ∧ C2 (cxOf g w ρ st.heap) x u ∧ (execOp a.eval o).run P w = .ok (.value u) w := fun hq => aop_quiet hL R hq h
  unfold pureAt at hp
  split at hp
  · rename_i x e
    exact plain (u0 := a.eval x) (by simp only [execOp, e]) (quiet (by rw [e]; rfl))
  · rename_i x e
    exact plain (u0 := a.eval x) (by simp only [execOp, e]) (quiet (by rw [e]; rfl))
  · rename_i c x y e
    refine fin (m := do pure (if ← asBool (a.eval c) then a.eval x else a.eval y)) (FreeS.bind (FreeS.asBool _) fun _ => FreeS.pure _) ?_ (quiet (by rw [e]; rfl))
    intro w
    simp only [execOp, e]
    cases hc : a.eval c <;> rfl
  · rename_i x i e
    exact fin (FreeS.extract (a.eval x) i) (fun _ => by simp only [execOp, e]) (quiet (by rw [e]; rfl))
  · rename_i t x i e
    have h' : afieldAddr L t (st.ev x) i (fun y => K y st) := by rw [e] at h; exact h
    exact fin (m := Instr.fieldAt t (a.eval x) i) (FreeS.fieldAt hL h') (fun _ => by simp only [execOp, e]) (quiet (by rw [e]; rfl))
  · rename_i t x i e
    exact fin (FreeS.indexAt t (a.eval x) (a.eval i)) (fun _ => by simp only [execOp, e]) (quiet (by rw [e]; rfl))
  · rename_i op t x e
    exact fin (FreeS.unary op (a.eval x)) (fun _ => by simp only [execOp, e]) (quiet (by rw [e]; rfl))
  · rename_i t parts e
    have h' : abuild L st.heap t (parts.toList.map fun p => (p.1, st.ev p.2)) (fun y => K y st) := by rw [e] at h; exact h
    exact fin (m := Instr.build t (parts.map fun (i, x) => (i, a.eval x))) (FreeS.buildAt hL h') (fun _ => by simp only [execOp, e]) (quiet (by rw [e]; rfl))
  · rename_i op t x y ty e
    refine fin (m := do eqGuard op t x y (a.eval x) (a.eval y); binOp op t (a.eval x) (a.eval y)) ?_ (fun _ => by simp only [execOp, e]) (quiet (by rw [e]; rfl))
    simp only [Bool.or_eq_true, Bool.and_eq_true] at hp
    rcases hp with ⟨h1, h2⟩ | ⟨h1, h2⟩
    · obtain ⟨k, n, e1⟩ := intB_val (R.ev x) h1
      obtain ⟨k', m, e2⟩ := intB_val (R.ev y) h2
      rw [e1, e2]
      exact FreeS.bind (FreeS.eqInt _ _ _ _ _ _ _ _) fun _ => FreeS.binInt _ _ _ _ _ _
    · obtain ⟨k, e1⟩ := strB_val (R.ev x) h1
      obtain ⟨k', e2⟩ := strB_val (R.ev y) h2
      rw [e1, e2]
      exact FreeS.bind (FreeS.eqStr _ _ _ _ _ _) fun _ => FreeS.binStr _ _ _ _
  · rename_i s t x e
    refine fin (m := convert s t (a.eval x)) ?_ (fun _ => by simp only [execOp, e]) (quiet (by rw [e]; rfl))
    simp only [Bool.and_eq_true] at hp
    obtain ⟨k, n, e1⟩ := intB_val (R.ev x) hp.1
    obtain ⟨k', hk⟩ := intT_of hL hp.2
    rw [e1]
    exact FreeS.convInt hk _ _
  · rename_i t x lo hi e
    have h' := h
    rw [e] at h'
    obtain ⟨z, u, st', h1, h2, h3, h4⟩ := aslice_run (mx := none) hL R (R.ev x) h'
    refine ⟨z, u, st', h1, h2, h3, fun w' => ?_⟩
    have := ((FreeS.slice (P := P) t (sliceB_val (R.ev x) hp) (lo.map a.eval) (hi.map a.eval)) w w' _ _ h4).2
    simp only [execOp, e, Sem.run_bind, Option.map_none, this, Result.andThen_ok, Sem.run_pure]
  · rename_i t x e
    exact fin (m := Instr.arrayAt t (a.eval x)) (FreeS.arrayAt t (a.eval x)) (fun _ => by simp only [execOp, e]) (quiet (by rw [e]; rfl))
  · rename_i xs ts e
    split at hp
    · rename_i t x e1 e2
      have ht : ts = #[t] := by apply Array.ext'; simpa using e1
      have hx : xs = #[x] := by apply Array.ext'; simpa using e2
      subst ht hx
      refine fin (m := Builtin.len_ #[t] o.type #[a.eval x]) (FreeS.len _ _ (sliceB_val (R.ev x) hp)) ?_ (quiet (by rw [e]; rfl))
      intro w
      simp only [execOp, e, resolve, Sem.run_bind, Sem.run_pure, Result.andThen_ok, invoke]
      simp [builtin]
    · cases hp
  · cases hp
end
end Go.Proofs.Ytbmojelnkldecaa
