/-
  The abstract machine is right: what is handed back. The theorem to use: aspec_of.
-/
import Derived.Test.YtbmojelnkldecaaAmSndH
namespace Go.Proofs.Ytbmojelnkldecaa
open Go.RowKit

section
variable {P : Program} {L : Lay} {g : Base} {N : Nat} {bs : List (Array Value)} {ρ : Nat → Value} {a : Act} {w : World} {st : AS}

theorem see1_ok {k : Nat → Prop} (hk : ∀ b, keepOf g w ρ st.heap b → k b) {x : AV} {u : Value} (hr : ∀ y, Reads st ρ w k y) (h : C2 (cxOf g w ρ st.heap) x u) : C1 ⟨w, k, fun _ => undef⟩ (see1 st.heap x) u :=
  sub1_ok hk (.eq x) (hr x) (fun _ _ c _ => hr c) h

theorem C1.anyρ {w : World} {k : Nat → Prop} {ρ : Nat → Value} {h : List (Nat × AO)} {x : AV} {u : Value} (hx : C1 ⟨w, k, fun _ => undef⟩ (see1 h x) u) : C1 ⟨w, k, ρ⟩ (see1 h x) u := by
  have h0 : ∀ {y : AV} {v : Value}, C0 ⟨w, k, fun _ => undef⟩ (see0 h y) v → C0 ⟨w, k, ρ⟩ (see0 h y) v := by
    intro y v hy
    cases y with
    | own id =>
      revert hy
      simp only [see0]
      cases findObj id h with
      | none => exact fun h => h
      | some o => cases o <;> exact fun h => h
    | _ => exact hy
  cases x with
  | agg cs =>
    obtain ⟨us, e, ha⟩ := hx
    refine ⟨us, e, ha.1, fun i y v hy hv => ?_⟩
    have := ha.2 i y v hy hv
    rw [List.getElem?_map] at hy
    cases hc : cs[i]? with
    | none => rw [hc] at hy; cases hy
    | some c => rw [hc] at hy; cases hy; exact h0 this
  | own id =>
    revert hx
    simp only [see1, see0]
    cases findObj id h with
    | none => exact fun h => h
    | some o => cases o <;> exact fun h => h
  | _ => exact hx

theorem ret0_ok {k : Nat → Prop} (hk : ∀ b, keepOf g w ρ st.heap b → k b) {id d : Nat} {ρ' : Nat → Value} (hd : ρ' d = ρ id) {x : AV} {u : Value} (hr : ∀ i, i ≠ id → Reads st ρ w k (.own i)) (h : C0 (cxOf g w ρ st.heap) x u) : C0 ⟨w, k, ρ'⟩ (ret0 st.heap id d x) u := by
  cases x with
  | own i =>
    simp only [ret0]
    cases hb : Nat.beq i id with
    | true =>
      obtain rfl := Nat.eq_of_beq_eq_true hb
      show u = ρ' d
      rw [hd]
      exact h
    | false =>
      have hne : i ≠ id := fun e => by rw [e] at hb; simp at hb
      have := see0_ok hk (hr i hne) h
      revert this
      simp only [see0, cond_false]
      cases findObj i st.heap with
      | none => exact fun h => h
      | some o => cases o <;> exact fun h => h
  | v y => exact h
  | sl s n sc f => exact PC.mono hk (fun _ _ => rfl) h
  | _ => trivial

theorem ret1_ok {k : Nat → Prop} (hk : ∀ b, keepOf g w ρ st.heap b → k b) {id d : Nat} {ρ' : Nat → Value} (hd : ρ' d = ρ id) {x : AV} {u : Value} (hr : ∀ i, i ≠ id → Reads st ρ w k (.own i)) (h : C2 (cxOf g w ρ st.heap) x u) : C1 ⟨w, k, ρ'⟩ (ret1 st.heap id d x) u := by
  cases x with
  | agg cs =>
    obtain ⟨us, rfl, ha⟩ := C2.inv_agg h
    exact ⟨us, rfl, ha.mapl fun _ _ => ret0_ok hk hd hr⟩
  | own i => exact C1.of0 (ret0_ok hk hd hr (x := .own i) h)
  | v y => exact h
  | sl s n sc f => exact C1.of0 (ret0_ok hk hd hr (x := .sl s n sc f) h)
  | _ => trivial

theorem aspec_of (hL : LayOk P L) (lv : Nat) {f : FuncId} {fn : Func} {c : Code} {avs : List AV} {r : AV} {hh : List (Nat × AO)} (hf : P.funcs[f]? = some fn) (hn : (fn.name == "runtime.NumGoroutine") = false) (hb : fn.body = some c) (hsz : Nat.ble avs.length fn.ntmps = true)
    (h : awp P L 9 fn.ntmps lv c (retQ L fn r hh) (start avs)) : ASpec P f avs r hh := by
  refine ⟨⟨fn, c, hf, hn, hb⟩, fun w keep args hkeep hargs => ?_⟩
  have hsz := Nat.le_of_ble_eq_true hsz
  have hlen : args.length = avs.length := hargs.1.symm
  refine calls_of_wp hf hb ?_
  let g : Base := base0 w keep
  have hargs2 : All2 (C2 (cxOf g w (fun _ => undef) [])) avs args := hargs.imp fun _ _ h => C2.of1 (C1.same (X := ⟨w, keep, fun _ => undef⟩) (Y := cxOf g w (fun _ => undef) []) (fun b hb => ⟨hkeep b hb, fun _ => .inl hb, by simp [blocksOf]⟩) (fun _ _ => rfl) rfl h)
  have R0 : Rel g fn.ntmps [] (fun _ => undef) { tmps := args.toArray ++ Array.replicate (fn.ntmps - args.toArray.size) undef, defers := [] } w (start avs) :=
    ⟨by simp; omega, rfl, BelowM.refl _ _ _, frame_start hargs2 hsz, (fun p hp => by cases hp), by simp [start, blocksOf], (fun b hb => by simp [start, blocksOf] at hb), trivial⟩
  have fin : ∀ (e : Exit), (e = .normal ∨ e = .ret) → ∀ ρ a w' st, Rel g fn.ntmps [] ρ a w' st → ares L st fn.results.toList (fun x => ARet st x r hh) →
      bodyPost P fn (fun e w' => ∃ u ρ, e = .returned u ∧ Below w.heap.size w w' ∧ C2 (cxOf (base0 w keep) w' ρ hh) r u ∧ (∀ p ∈ hh, ObjOk (cxOf (base0 w keep) w' ρ hh) p.1 p.2) ∧ (blocksOf ρ hh).Nodup ∧ ∀ b ∈ blocksOf ρ hh, w.heap.size ≤ b) e a w' := by
    intro e he ρ a w' st R hq
    obtain ⟨x, u, hret, hc, hrun⟩ := ret_run hL R hq
    have post : a.defers = [] ∧ ∃ v, (results fn a.tmps).run P w' = .ok v w' ∧ ∃ u ρ, Ending.returned v = .returned u ∧ Below w.heap.size w w' ∧ C2 (cxOf (base0 w keep) w' ρ hh) r u ∧ (∀ p ∈ hh, ObjOk (cxOf (base0 w keep) w' ρ hh) p.1 p.2) ∧ (blocksOf ρ hh).Nodup ∧ ∀ b ∈ blocksOf ρ hh, w.heap.size ≤ b := by
      have hbel : Below w.heap.size w w' := R.below.less fun _ h => h
      have hlt' : ∀ {b : Nat}, b ∈ blocksOf ρ st.heap → g.w.heap.size ≤ b := fun {b} h => (R.own b h).elim id False.elim
      refine ⟨R.defers, u, hrun, ?_⟩
      cases hret with
      | plain _ hr =>
        let k : Nat → Prop := keepOf g w' (fun _ => undef) []
        have hk : ∀ b, keepOf g w' ρ st.heap b → k b := fun b h => ⟨h.1, h.2.1, by simp [blocksOf]⟩
        have rd : ∀ y, Reads st ρ w' k y := fun y id e s n sc f _ hf => row_reads R hf hk fun b hb => by
          have hin := mem_blocks.2 ⟨_, findObj_mem hf, hb⟩
          have := R.lt_block hin
          exact ⟨this.1, fun hlt => absurd hlt (by have := hlt' hin; omega), by simp [blocksOf]⟩
        refine ⟨u, fun _ => undef, rfl, hbel, hr _ _ ?_, (fun p hp => by cases hp), by simp [blocksOf], (fun b hb => by simp [blocksOf] at hb)⟩
        cases x with
        | tup vs =>
          obtain ⟨us, rfl, ha⟩ := C2.inv_tup hc
          exact ⟨us, rfl, ha.mapl fun y v hy => see1_ok hk rd (C2.of1 hy)⟩
        | _ => exact C2.of1 (see1_ok hk rd hc)
      | own id d _ e s n sc f o' hfo ho hr =>
        have hin := findObj_mem hfo
        let ρ' : Nat → Value := fun i => if i = d then ρ id else undef
        have hρ' : ρ' d = ρ id := by simp [ρ']
        have hbl : ∀ o'' : AO, blocksOf ρ' [(d, o'')] = (blk (ρ id)).toList := by intro o''; rw [blocks_cons]; simp [ρ', blocksOf]
        let k : Nat → Prop := keepOf g w' ρ' [(d, o')]
        have hk : ∀ b, keepOf g w' ρ st.heap b → k b := fun b h => ⟨h.1, h.2.1, fun hb => h.2.2 (by
          rw [hbl] at hb
          cases hq : blk (ρ id) with
          | none => rw [hq] at hb; simp at hb
          | some g' => rw [hq] at hb; simp at hb; subst hb; exact mem_blocks.2 ⟨_, hin, hq⟩)⟩
        have rd : ∀ i, i ≠ id → Reads st ρ w' k (.own i) := fun i hi j e s n sc f hij hf => row_reads R hf hk fun b hb => by
          cases hij
          have hin0 := mem_blocks.2 ⟨_, findObj_mem hf, hb⟩
          have := R.lt_block hin0
          refine ⟨this.1, fun hlt => absurd hlt (by have := hlt' hin0; omega), fun hin' => ?_⟩
          rw [hbl] at hin'
          cases hq : blk (ρ id) with
          | none => rw [hq] at hin'; simp at hin'
          | some g' =>
            rw [hq] at hin'
            simp at hin'
            subst hin'
            exact hi (blocks_apart R.apart _ (findObj_mem hf) _ hin hb hq)
        refine ⟨u, ρ', rfl, hbel, hr _ _ ?_, ?_, ?_, ?_⟩
        · cases x with
          | tup vs =>
            obtain ⟨us, rfl, ha⟩ := C2.inv_tup hc
            exact ⟨us, rfl, ha.mapl fun y v hy => ret1_ok hk hρ' rd (C2.of1 hy)⟩
          | agg cs => exact C2.of1 (ret1_ok hk hρ' rd hc)
          | v y => exact hc
          | own i => exact C2.of1 (ret1_ok hk hρ' rd (x := .own i) hc)
          | sl s n sc f => exact C2.of1 (ret1_ok hk hρ' rd (x := .sl s n sc f) hc)
          | _ => trivial
        · intro p hp
          simp only [List.mem_singleton] at hp
          subst hp
          refine ho _ _ ?_
          obtain ⟨us, hown, hs, hfl, hsc, ha⟩ := R.objs _ hin
          exact ⟨us, by simpa [cxOf, hρ'] using hown, hs, hfl, hsc, ha.imp fun _ _ => PC.mono hk (fun _ _ => rfl)⟩
        · rw [hbl]
          cases blk (ρ id) <;> simp
        · intro b hb
          rw [hbl] at hb
          cases hq : blk (ρ id) with
          | none => rw [hq] at hb; simp at hb
          | some g' => rw [hq] at hb; simp at hb; subst hb; exact hlt' (mem_blocks.2 ⟨_, hin, hq⟩)
    rcases he with rfl | rfl
    · exact post
    · exact post
  exact awp_snd hL 9 g fn.ntmps lv [] c (retQ L fn r hh) _ ⟨fun ρ a w' st R h => fin _ (.inl rfl) ρ a w' st R h, fun i ρ a w' st R h => h.elim, fun ρ a w' st R h => fin _ (.inr rfl) ρ a w' st R h⟩ R0 h
end
end Go.Proofs.Ytbmojelnkldecaa
