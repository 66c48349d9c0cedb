/-
  The abstract machine is right: what a function does to objects that it is given. The theorem to use: mspec_of.
-/
import Derived.Test.YtbmojelnkldecaaAmSndI
namespace Go.Proofs.Ytbmojelnkldecaa
open Go.RowKit

/-- By what the objects that came in are known to the end. -/
def refOf (k : Nat) : AO → AV
  | .box .. => .box k 0
  | .row .. => .own k
def ghostOf : Nat → List (Nat × AO) → List (Nat × AV)
  | _, [] => []
  | n, (k, o) :: l => (n, refOf k o) :: ghostOf (n + 1) l
def startM (avs : List AV) (hin : List (Nat × AO)) (base : Nat) : AS := ⟨enumA 0 avs, hin, [ghostOf 0 hin], base⟩

def isRef (k : Nat) : AV → Bool
  | .box i j => Nat.beq i k && Nat.beq j 0
  | .own i => Nat.beq i k
  | _ => false
/-- Those that are told of at the end are those that came in, if they have the same names. -/
def fixedB (hout : List (Nat × AO)) (back : List (List (Nat × AV))) : Nat → List (Nat × AO) → Bool
  | _, [] => true
  | n, (k, o) :: l => (!(hasN k hout) || (match back, o with
    | [f], .box .. => (match ofL f n with | .box i j => Nat.beq i k && Nat.beq j 0 | _ => false)
    | [f], .row .. => (match ofL f n with | .own i => Nat.beq i k | _ => false)
    | _, _ => false)) && fixedB hout back (n + 1) l

/-- What is handed back, as the objects that are told of say it; all other rows are only read now. -/
def retM0 (h hout : List (Nat × AO)) : AV → AV
  | .own i => bif hasN i hout then .own i else see0 h (.own i)
  | .box i k => bif hasN i hout then .box i k else .junk
  | .eown i s j k => bif hasN i hout then .eown i s j k else .junk
  | .v x => .v x
  | .sl s n sc f => .sl s n sc f
  | _ => .junk
def retM1 (h hout : List (Nat × AO)) : AV → AV
  | .agg cs => .agg (cs.map (retM0 h hout))
  | x => retM0 h hout x
def retM2 (h hout : List (Nat × AO)) : AV → AV
  | .tup vs => .tup (vs.map (retM1 h hout))
  | x => retM1 h hout x

structure MRet (hin : List (Nat × AO)) (σ : List (Nat × Nat)) (st : AS) (x r : AV) (hout : List (Nat × AO)) : Prop where
  nd : nodupB (σ.map (·.2)) = true
  fx : fixedB hout (st.ren σ).back 0 hin = true
  hp : LeH (st.ren σ) hout
  hn : nodupB (hout.map (·.1)) = true
  hc : closedH hout hout = true
  hr : AEq (retM2 (st.ren σ).heap hout (ren2 σ x)) r

def retQM (L : Lay) (fn : Func) (hin : List (Nat × AO)) (r : AV) (hout : List (Nat × AO)) : AExit → AS → Prop
  | .normal, st => ares L st fn.results.toList (fun x => ∃ σ, MRet hin σ st x r hout)
  | .ret, st => ares L st fn.results.toList (fun x => ∃ σ, MRet hin σ st x r hout)
  | .exit _, _ => False

section
variable {P : Program} {L : Lay} {g : Base} {N : Nat} {bs : List (Array Value)} {ρ : Nat → Value} {a : Act} {w : World} {st : AS}

def ghostV (ρ : Nat → Value) : List (Nat × AO) → List Value
  | [] => []
  | (k, _) :: l => ρ k :: ghostV ρ l

theorem ghost_ok {X : CX} : ∀ {hin : List (Nat × AO)} {n : Nat} {pre : List Value}, pre.length = n → (∀ p ∈ hin, ObjOk X p.1 p.2) → ∀ t, C2 X (ofL (ghostOf n hin) t) ((pre ++ ghostV X.ρ hin).toArray.getD t undef)
  | [], n, pre, _, _, t => trivial
  | (k, o) :: l, n, pre, hp, ho, t => by
    have ih := ghost_ok (X := X) (hin := l) (n := n + 1) (pre := pre ++ [X.ρ k]) (by simp [hp]) (fun p hp => ho p (List.mem_cons_of_mem _ hp)) t
    simp only [ghostOf, ofL]
    cases hb : Nat.beq t n with
    | true =>
      have e := Nat.eq_of_beq_eq_true hb
      have ev : (pre ++ ghostV X.ρ ((k, o) :: l)).toArray.getD t undef = X.ρ k := by
        simp [ghostV, e, ← hp]
      simp only [cond_true]
      rw [ev]
      have h0 := ho (k, o) List.mem_cons_self
      cases o with
      | box ty cs => obtain ⟨b, us, e', _⟩ := h0; exact ⟨b, e', e'⟩
      | row => exact rfl
    | false =>
      simp only [cond_false]
      have e3 : pre ++ ghostV X.ρ ((k, o) :: l) = pre ++ [X.ρ k] ++ ghostV X.ρ l := by simp [ghostV]
      rw [e3]
      exact ih

theorem fixed_ok {X : CX} {hout : List (Nat × AO)} {back : List (List (Nat × AV))} {ρ0 : Nat → Value} : ∀ {hin : List (Nat × AO)} {n : Nat} {pre : List Value} {vs : List Value}, pre.length = n → vs = pre ++ ghostV ρ0 hin → (∀ p ∈ hin, ∀ t cs, p.2 = .box t cs → ∃ b, ρ0 p.1 = .pointer (some ⟨b, 0, none⟩)) → BackOk X back [vs.toArray] → fixedB hout back n hin = true → ∀ p ∈ hin, hasN p.1 hout = true → X.ρ p.1 = ρ0 p.1
  | [], _, _, _, _, _, _, _, _, p, hp, _ => by cases hp
  | (k, o) :: l, n, pre, vs, hlen, hvs, hbox, hbk, hf, p, hp, hn => by
    simp only [fixedB, Bool.and_eq_true, Bool.or_eq_true, Bool.not_eq_true'] at hf
    rcases List.mem_cons.1 hp with rfl | hp
    · rcases hf.1 with h | h
      · rw [h] at hn; cases hn
      · have ev : vs.toArray.getD n undef = ρ0 k := by
          rw [hvs]; simp [ghostV, ← hlen]
        match back, hbk, h with
        | [f], hbk, h =>
          have h2 := hbk.1 n
          rw [ev] at h2
          cases o with
          | box t cs =>
            dsimp only at h
            split at h
            · rename_i i j e
              rw [e] at h2
              simp only [Bool.and_eq_true] at h
              have e1 := Nat.eq_of_beq_eq_true h.1
              have e2 := Nat.eq_of_beq_eq_true h.2
              subst e1 e2
              obtain ⟨b, h3, h4⟩ := C2.inv_box h2
              exact h3.trans h4.symm
            · cases h
          | row =>
            dsimp only at h
            split at h
            · rename_i i e
              rw [e] at h2
              have e1 := Nat.eq_of_beq_eq_true h
              subst e1
              exact (C2.inv_own h2).symm
            · cases h
        | [], hbk, h => exact hbk.elim
        | _ :: _ :: _, hbk, h => exact hbk.2.elim
    · exact fixed_ok (pre := pre ++ [ρ0 k]) (vs := vs) (by simp [hlen]) (by rw [hvs]; simp [ghostV]) (fun p hp => hbox p (List.mem_cons_of_mem _ hp)) hbk hf.2 p hp hn

theorem retM0_ok {k : Nat → Prop} (hk : ∀ b, keepOf g w ρ st.heap b → k b) {hout : List (Nat × AO)} {x : AV} {u : Value} (hr : ∀ i, hasN i hout = false → Reads st ρ w k (.own i)) (h : C0 (cxOf g w ρ st.heap) x u) : C0 ⟨w, k, ρ⟩ (retM0 st.heap hout x) u := by
  cases x with
  | own i =>
    simp only [retM0]
    cases hb : hasN i hout with
    | true => exact h
    | false =>
      have := see0_ok hk (hr i hb) h
      revert this
      simp only [see0, cond_false]
      cases findObj i st.heap with
      | none => exact fun h => h
      | some o => cases o <;> exact fun h => h
  | box i j =>
    simp only [retM0]
    cases hasN i hout with
    | true => exact h
    | false => trivial
  | eown i s j m =>
    simp only [retM0]
    cases hasN i hout with
    | true => exact h
    | false => trivial
  | v y => exact h
  | sl s n sc f => exact PC.mono hk (fun _ _ => rfl) h
  | _ => trivial
theorem retM1_ok {k : Nat → Prop} (hk : ∀ b, keepOf g w ρ st.heap b → k b) {hout : List (Nat × AO)} {x : AV} {u : Value} (hr : ∀ i, hasN i hout = false → Reads st ρ w k (.own i)) (h : C1 (cxOf g w ρ st.heap) x u) : C1 ⟨w, k, ρ⟩ (retM1 st.heap hout x) u := by
  cases x with
  | agg cs =>
    obtain ⟨us, rfl, ha⟩ := h
    exact ⟨us, rfl, ha.mapl fun _ _ => retM0_ok hk hr⟩
  | own i => exact C1.of0 (retM0_ok hk hr (x := .own i) h)
  | box i j => exact C1.of0 (retM0_ok hk hr (x := .box i j) h)
  | eown i s j m => exact C1.of0 (retM0_ok hk hr (x := .eown i s j m) h)
  | v y => exact h
  | sl s n sc f => exact C1.of0 (retM0_ok hk hr (x := .sl s n sc f) h)
  | _ => trivial
theorem retM2_ok {k : Nat → Prop} (hk : ∀ b, keepOf g w ρ st.heap b → k b) {hout : List (Nat × AO)} {x : AV} {u : Value} (hr : ∀ i, hasN i hout = false → Reads st ρ w k (.own i)) (h : C2 (cxOf g w ρ st.heap) x u) : C2 ⟨w, k, ρ⟩ (retM2 st.heap hout x) u := by
  cases x with
  | tup vs =>
    obtain ⟨us, rfl, ha⟩ := h
    exact ⟨us, rfl, ha.mapl fun _ _ => retM1_ok hk hr⟩
  | agg cs => exact C2.of1 (retM1_ok hk hr (x := .agg cs) h)
  | own i => exact C2.of1 (retM1_ok hk hr (x := .own i) h)
  | box i j => exact C2.of1 (retM1_ok hk hr (x := .box i j) h)
  | eown i s j m => exact C2.of1 (retM1_ok hk hr (x := .eown i s j m) h)
  | v y => exact h
  | sl s n sc f => exact C2.of1 (retM1_ok hk hr (x := .sl s n sc f) h)
  | _ => trivial

theorem LeH_mem {st : AS} : ∀ {h : List (Nat × AO)}, LeH st h → ∀ p ∈ h, ∃ o, findObj p.1 st.heap = some o ∧ OEq o p.2
  | [], _, p, hp => by cases hp
  | q :: l, h, p, hp => by
    rcases List.mem_cons.1 hp with rfl | hp
    · exact h.1
    · exact LeH_mem h.2 p hp

theorem mspec_of (hL : LayOk P L) (lv base : Nat) {f : FuncId} {fn : Func} {c : Code} {hin : List (Nat × AO)} {avs : List AV} {r : AV} {hout : List (Nat × AO)} (hf : P.funcs[f]? = some fn) (hn : (fn.name == "runtime.NumGoroutine") = false) (hb : fn.body = some c) (hsz : Nat.ble avs.length fn.ntmps = true)
    (h : awp P L 9 fn.ntmps lv c (retQM L fn hin r hout) (startM avs hin base)) : MSpec P f hin avs r hout := by
  refine ⟨⟨fn, c, hf, hn, hb⟩, fun w keep ρ args hkeep hobj hnd hin' hargs => ?_⟩
  have hsz := Nat.le_of_ble_eq_true hsz
  have hlen : args.length = avs.length := hargs.1.symm
  refine calls_of_wp hf hb ?_
  let g : Base := ⟨w, keep, fun b => b ∈ blocksOf ρ hin⟩
  have hk0 : ∀ b, keep b → keepOf g w ρ hin b := fun b hb => ⟨hkeep b hb, fun _ => .inl hb, fun h => (hin' b h).2 hb⟩
  have hargs2 : All2 (C2 (cxOf g w ρ hin)) avs args := hargs.imp fun _ _ h => C2.of1 (C1.same (X := ⟨w, keep, ρ⟩) (Y := cxOf g w ρ hin) hk0 (fun _ _ => rfl) rfl h)
  have hobj2 : ∀ p ∈ hin, ObjOk (cxOf g w ρ hin) p.1 p.2 := fun p hp => by
    have ho := hobj p hp
    cases hpo : p.2 with
    | box t cs =>
      rw [hpo] at ho
      obtain ⟨b, us, e, hh, ha⟩ := ho
      exact ⟨b, us, e, hh, ha.imp fun _ _ => C0.same (X := ⟨w, keep, ρ⟩) (Y := cxOf g w ρ hin) hk0 (fun _ _ => rfl) rfl⟩
    | row e s n sc f =>
      rw [hpo] at ho
      obtain ⟨us, hown, hs, hfl, hsc, ha⟩ := ho
      exact ⟨us, hown, hs, hfl, hsc, ha.imp fun _ _ => PC.mono hk0 (fun _ _ => rfl)⟩
  have R0 : Rel g fn.ntmps [(ghostV ρ hin).toArray] ρ { tmps := args.toArray ++ Array.replicate (fn.ntmps - args.toArray.size) undef, defers := [] } w (startM avs hin base) :=
    ⟨by simp; omega, rfl, BelowM.refl _ _ _, frame_start hargs2 hsz, hobj2, hnd, fun b hb => .inr hb, ⟨fun t => ghost_ok (X := cxOf g w ρ hin) (n := 0) (pre := []) rfl hobj2 t, trivial⟩⟩
  have fin : ∀ (e : Exit), (e = .normal ∨ e = .ret) → ∀ ρ1 a w' st, Rel g fn.ntmps [(ghostV ρ hin).toArray] ρ1 a w' st → ares L st fn.results.toList (fun x => ∃ σ, MRet hin σ st x r hout) →
      bodyPost P fn (fun e w' => ∃ u ρ', e = .returned u ∧ BelowM (fun b => b ∈ blocksOf ρ hin) w.heap.size w w' ∧ (∀ p ∈ hin, ∀ q ∈ hout, q.1 = p.1 → ρ' p.1 = ρ p.1) ∧ C2 (cxOf g w' ρ' hout) r u ∧ (∀ p ∈ hout, ObjOk (cxOf g w' ρ' hout) p.1 p.2) ∧ (blocksOf ρ' hout).Nodup ∧ ∀ b ∈ blocksOf ρ' hout, w.heap.size ≤ b ∨ b ∈ blocksOf ρ hin) e a w' := by
    intro e he ρ1 a w' st R1 hq
    obtain ⟨x, u, ⟨σ, hret⟩, hc, hrun⟩ := ret_run hL R1 hq
    have post : a.defers = [] ∧ ∃ v, (results fn a.tmps).run P w' = .ok v w' ∧ ∃ u ρ', Ending.returned v = .returned u ∧ BelowM (fun b => b ∈ blocksOf ρ hin) w.heap.size w w' ∧ (∀ p ∈ hin, ∀ q ∈ hout, q.1 = p.1 → ρ' p.1 = ρ p.1) ∧ C2 (cxOf g w' ρ' hout) r u ∧ (∀ p ∈ hout, ObjOk (cxOf g w' ρ' hout) p.1 p.2) ∧ (blocksOf ρ' hout).Nodup ∧ ∀ b ∈ blocksOf ρ' hout, w.heap.size ≤ b ∨ b ∈ blocksOf ρ hin := by
      have R := R1.ren hret.nd
      have hc : C2 (cxOf g w' (renρ σ ρ1) (st.ren σ).heap) (ren2 σ x) u :=
        C2.ren (X := cxOf g w' ρ1 st.heap) (Y := cxOf g w' (renρ σ ρ1) (st.ren σ).heap) (fun b h => ⟨h.1, h.2.1, fun h' => h.2.2 ((blocks_ren (nodup_of hret.nd) ρ1 st.heap).subset h')⟩) rfl (fun k i e => renρ_ok (nodup_of hret.nd) e) hc
      generalize hst : st.ren σ = st' at *
      generalize hρe : renρ σ ρ1 = ρ' at *
      have hfx := hret.fx
      rw [hst] at hfx
      have hp := hret.hp
      rw [hst] at hp
      have hrr := hret.hr
      rw [hst] at hrr
      have hmem := LeH_mem hp
      have hsubb : ∀ b, b ∈ blocksOf ρ' hout → b ∈ blocksOf ρ' st'.heap := fun b hb => by
        obtain ⟨p, hp, e⟩ := mem_blocks.1 hb
        obtain ⟨o, ho, _⟩ := hmem p hp
        exact mem_blocks.2 ⟨_, findObj_mem ho, e⟩
      have hk : ∀ b, keepOf g w' ρ' st'.heap b → keepOf g w' ρ' hout b := fun b h => ⟨h.1, h.2.1, fun h' => h.2.2 (hsubb b h')⟩
      refine ⟨R1.defers, u, hrun, u, ρ', rfl, R.below, ?_, ?_, ?_, nodup_sub' (nodup_of hret.hn) R.apart (fun p hp => by obtain ⟨o, ho, _⟩ := hmem p hp; exact ⟨_, findObj_mem ho, rfl⟩), fun b hb => R.own b (hsubb b hb)⟩
      · intro p hp q hq e
        exact fixed_ok (X := cxOf g w' ρ' st'.heap) (pre := []) (n := 0) rfl rfl (fun p hp t cs e => by
          have := hobj p hp
          rw [e] at this
          obtain ⟨b, us, e', _⟩ := this
          exact ⟨b, e'⟩) R.back hfx p hp (hasN_mem.2 ⟨q, hq, e⟩)
      · refine hrr _ _ (retM2_ok (st := st') (ρ := ρ') hk (fun i hi => fun j e s n sc f hij hf => ?_) hc)
        refine row_reads R hf hk fun b hb => ?_
        have hin0 := mem_blocks.2 ⟨_, findObj_mem hf, hb⟩
        have := R.lt_block hin0
        refine ⟨this.1, fun hlt => ?_, fun hin1 => ?_⟩
        · exact this.2.elim (fun h => absurd hlt (by omega)) .inr
        · obtain ⟨p, hp, ep⟩ := mem_blocks.1 hin1
          obtain ⟨o, ho, _⟩ := hmem p hp
          have := blocks_apart R.apart _ (findObj_mem ho) _ (findObj_mem hf) ep hb
          dsimp only at this
          cases hij
          rw [← this, hasN_mem.2 ⟨p, hp, rfl⟩] at hi
          cases hi
      · intro p hp
        obtain ⟨o, ho, hoe⟩ := hmem p hp
        refine hoe _ _ ?_
        have hoo := R.objs _ (findObj_mem ho)
        cases o with
        | box t cs =>
          obtain ⟨b, us, e, hh, ha⟩ := hoo
          exact ⟨b, us, e, hh, ha.imp fun _ _ => C0.same (X := cxOf g w' ρ' st'.heap) (Y := cxOf g w' ρ' hout) hk (fun _ _ => rfl) rfl⟩
        | row e s n sc f =>
          obtain ⟨us, hown, hs, hfl, hsc, ha⟩ := hoo
          exact ⟨us, hown, hs, hfl, hsc, ha.imp fun _ _ => PC.mono hk (fun _ _ => rfl)⟩
    rcases he with rfl | rfl
    · exact post
    · exact post
  exact awp_snd hL 9 g fn.ntmps lv [(ghostV ρ hin).toArray] c (retQM L fn hin r hout) _ ⟨fun ρ a w' st R h => fin _ (.inl rfl) ρ a w' st R h, fun i ρ a w' st R h => h.elim, fun ρ a w' st R h => fin _ (.inr rfl) ρ a w' st R h⟩ R0 h
end
end Go.Proofs.Ytbmojelnkldecaa
