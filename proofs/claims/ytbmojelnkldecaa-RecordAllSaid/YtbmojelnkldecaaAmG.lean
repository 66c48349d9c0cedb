/-
  The abstract machine: a function whose body jumps back to one label.
-/
import Derived.Test.YtbmojelnkldecaaAmC
import Derived.ScopeJumps
namespace Go.Proofs.Ytbmojelnkldecaa
open Go.RowKit

def kQ (K : AS → Prop) : AExit → AS → Prop := fun e st => match e with | .normal => K st | _ => False

/-- What stands behind the label: X while the truth value t stands, Y and back; else z. -/
structure AGotoB (P : Program) (L : Lay) (W : Walk) (N lv : Nat) (t : Operand) (x0 x1 y0 y1 z : Code) (Q : AExit → AS → Prop) (K : AS → Prop) (st : AS) : Prop where
  h : awpS P L W N lv x0 (kQ fun st => awpS P L W N lv x1 (kQ fun st => match st.ev t with
    | .v (.bool b) => (match b with
      | true => awpS P L W N lv y0 (kQ fun st => awpS P L W N lv y1 (kQ K) st) st
      | false => awpS P L W N lv z Q st)
    | _ => False) st) st
inductive AGoto (P : Program) (L : Lay) (W : Walk) (N lv : Nat) (t : Operand) (x0 x1 y0 y1 z : Code) (Q : AExit → AS → Prop) (st : AS) : Prop where
  | mk (X : Type) (S : X → AS) (m : X → Nat) (i0 : X) (σ : List (Nat × Nat)) (h0 : LeR σ st (S i0))
    (hb : ∀ i, awpS P L W N lv x0 (kQ fun st => awpS P L W N lv x1 (kQ fun st => match st.ev t with
    | .v (.bool b) => (match b with
      | true => awpS P L W N lv y0 (kQ fun st => awpS P L W N lv y1 (kQ fun st => ∃ j σ, LeR σ st (S j) ∧ m j < m i) st) st
      | false => awpS P L W N lv z Q st)
    | _ => False) st) (S i)) : AGoto P L W N lv t x0 x1 y0 y1 z Q st

section
variable {P : Program} {L : Lay} {g : Base} {N : Nat} {bs : List (Array Value)} {ρ : Nat → Value} {a : Act} {w : World} {st : AS}

theorem aspec_wp (hL : LayOk P L) {f : FuncId} {fn : Func} {c : Code} {avs : List AV} {r : AV} {hh : List (Nat × AO)} (hf : P.funcs[f]? = some fn) (hn : (fn.name == "runtime.NumGoroutine") = false) (hb : fn.body = some c) (hsz : Nat.ble avs.length fn.ntmps = true)
    (h : ∀ (g : Base) (E : Exit → Act → World → Prop) {ρ : Nat → Value} {a : Act} {w : World}, qOf g fn.ntmps [] (retQ L fn r hh) E → Rel g fn.ntmps [] ρ a w (start avs) → c.wp P E a w) : ASpec P f avs r hh := by
  refine ⟨⟨fn, c, hf, hn, hb⟩, fun w keep args hkeep hargs => ?_⟩
  have hsz := Nat.le_of_ble_eq_true hsz
  have hlen : args.length = avs.length := hargs.1.symm
  refine calls_of_wp hf hb ?_
  let g : Base := base0 w keep
  have hargs2 : All2 (C2 (cxOf g w (fun _ => undef) [])) avs args := hargs.imp fun _ _ h => C2.of1 (C1.same (X := ⟨w, keep, fun _ => undef⟩) (Y := cxOf g w (fun _ => undef) []) (fun b hb => ⟨hkeep b hb, fun _ => .inl hb, by simp [blocksOf]⟩) (fun _ _ => rfl) rfl h)
  have R0 : Rel g fn.ntmps [] (fun _ => undef) { tmps := args.toArray ++ Array.replicate (fn.ntmps - args.toArray.size) undef, defers := [] } w (start avs) :=
    ⟨by simp; omega, rfl, BelowM.refl _ _ _, frame_start hargs2 hsz, (fun p hp => by cases hp), by simp [start, blocksOf], (fun b hb => by simp [start, blocksOf] at hb), trivial⟩
  have fin : ∀ (e : Exit), (e = .normal ∨ e = .ret) → ∀ ρ a w' st, Rel g fn.ntmps [] ρ a w' st → ares L st fn.results.toList (fun x => ARet st x r hh) →
      bodyPost P fn (fun e w' => ∃ u ρ, e = .returned u ∧ Below w.heap.size w w' ∧ C2 (cxOf (base0 w keep) w' ρ hh) r u ∧ (∀ p ∈ hh, ObjOk (cxOf (base0 w keep) w' ρ hh) p.1 p.2) ∧ (blocksOf ρ hh).Nodup ∧ ∀ b ∈ blocksOf ρ hh, w.heap.size ≤ b) e a w' := by
    intro e he ρ a w' st R hq
    obtain ⟨x, u, hret, hc, hrun⟩ := ret_run hL R hq
    have post : a.defers = [] ∧ ∃ v, (results fn a.tmps).run P w' = .ok v w' ∧ ∃ u ρ, Ending.returned v = .returned u ∧ Below w.heap.size w w' ∧ C2 (cxOf (base0 w keep) w' ρ hh) r u ∧ (∀ p ∈ hh, ObjOk (cxOf (base0 w keep) w' ρ hh) p.1 p.2) ∧ (blocksOf ρ hh).Nodup ∧ ∀ b ∈ blocksOf ρ hh, w.heap.size ≤ b := by
      have hbel : Below w.heap.size w w' := R.below.less fun _ h => h
      have hlt' : ∀ {b : Nat}, b ∈ blocksOf ρ st.heap → g.w.heap.size ≤ b := fun {b} h => (R.own b h).elim id False.elim
      refine ⟨R.defers, u, hrun, ?_⟩
      cases hret with
      | plain _ hr =>
        let k : Nat → Prop := keepOf g w' (fun _ => undef) []
        have hk : ∀ b, keepOf g w' ρ st.heap b → k b := fun b h => ⟨h.1, h.2.1, by simp [blocksOf]⟩
        have rd : ∀ y, Reads st ρ w' k y := fun y id e s n sc f _ hf => row_reads R hf hk fun b hb => by
          have hin := mem_blocks.2 ⟨_, findObj_mem hf, hb⟩
          have := R.lt_block hin
          exact ⟨this.1, fun hlt => absurd hlt (by have := hlt' hin; omega), by simp [blocksOf]⟩
        refine ⟨u, fun _ => undef, rfl, hbel, hr _ _ ?_, (fun p hp => by cases hp), by simp [blocksOf], (fun b hb => by simp [blocksOf] at hb)⟩
        cases x with
        | tup vs =>
          obtain ⟨us, rfl, ha⟩ := C2.inv_tup hc
          exact ⟨us, rfl, ha.mapl fun y v hy => see1_ok hk rd (C2.of1 hy)⟩
        | _ => exact C2.of1 (see1_ok hk rd hc)
      | own id d _ e s n sc f o' hfo ho hr =>
        have hin := findObj_mem hfo
        let ρ' : Nat → Value := fun i => if i = d then ρ id else undef
        have hρ' : ρ' d = ρ id := by simp [ρ']
        have hbl : ∀ o'' : AO, blocksOf ρ' [(d, o'')] = (blk (ρ id)).toList := by intro o''; rw [blocks_cons]; simp [ρ', blocksOf]
        let k : Nat → Prop := keepOf g w' ρ' [(d, o')]
        have hk : ∀ b, keepOf g w' ρ st.heap b → k b := fun b h => ⟨h.1, h.2.1, fun hb => h.2.2 (by
          rw [hbl] at hb
          cases hq : blk (ρ id) with
          | none => rw [hq] at hb; simp at hb
          | some g' => rw [hq] at hb; simp at hb; subst hb; exact mem_blocks.2 ⟨_, hin, hq⟩)⟩
        have rd : ∀ i, i ≠ id → Reads st ρ w' k (.own i) := fun i hi j e s n sc f hij hf => row_reads R hf hk fun b hb => by
          cases hij
          have hin0 := mem_blocks.2 ⟨_, findObj_mem hf, hb⟩
          have := R.lt_block hin0
          refine ⟨this.1, fun hlt => absurd hlt (by have := hlt' hin0; omega), fun hin' => ?_⟩
          rw [hbl] at hin'
          cases hq : blk (ρ id) with
          | none => rw [hq] at hin'; simp at hin'
          | some g' =>
            rw [hq] at hin'
            simp at hin'
            subst hin'
            exact hi (blocks_apart R.apart _ (findObj_mem hf) _ hin hb hq)
        refine ⟨u, ρ', rfl, hbel, hr _ _ ?_, ?_, ?_, ?_⟩
        · cases x with
          | tup vs =>
            obtain ⟨us, rfl, ha⟩ := C2.inv_tup hc
            exact ⟨us, rfl, ha.mapl fun y v hy => ret1_ok hk hρ' rd (C2.of1 hy)⟩
          | agg cs => exact C2.of1 (ret1_ok hk hρ' rd hc)
          | v y => exact hc
          | own i => exact C2.of1 (ret1_ok hk hρ' rd (x := .own i) hc)
          | sl s n sc f => exact C2.of1 (ret1_ok hk hρ' rd (x := .sl s n sc f) hc)
          | _ => trivial
        · intro p hp
          simp only [List.mem_singleton] at hp
          subst hp
          refine ho _ _ ?_
          obtain ⟨us, hown, hs, hfl, hsc, ha⟩ := R.objs _ hin
          exact ⟨us, by simpa [cxOf, hρ'] using hown, hs, hfl, hsc, ha.imp fun _ _ => PC.mono hk (fun _ _ => rfl)⟩
        · rw [hbl]
          cases blk (ρ id) <;> simp
        · intro b hb
          rw [hbl] at hb
          cases hq : blk (ρ id) with
          | none => rw [hq] at hb; simp at hb
          | some g' => rw [hq] at hb; simp at hb; subst hb; exact hlt' (mem_blocks.2 ⟨_, hin, hq⟩)
    rcases he with rfl | rfl
    · exact post
    · exact post
  exact h g _ ⟨fun ρ a w' st R h => fin _ (.inl rfl) ρ a w' st R h, fun i ρ a w' st R h => h.elim, fun ρ a w' st R h => fin _ (.inr rfl) ρ a w' st R h⟩ R0
theorem kQ_seq (hL : LayOk P L) {W : Walk} (hW : WOk P W) {lv : Nat} {p next : Code} {K : AS → Prop} {E : Exit → Act → World → Prop} (R : Rel g N bs ρ a w st) (h : awpS P L W N lv p (kQ K) st)
    (hk : ∀ ρ a w st, Rel g N bs ρ a w st → K st → next.wp P E a w) : (Code.seq p next).wp P E a w :=
  wp_seq (awpS_snd hL hW lv p (Q := kQ K) (E := Exit.then (next.wp P E) E) ⟨fun ρ a w st R h => hk ρ a w st R h, fun _ _ _ _ _ _ h => h.elim, fun _ _ _ _ _ h => h.elim⟩ R h)

/-- What holds at each jump, in n passes. -/
def JN (P : Program) (L : Lay) (W : Walk) (g : Base) (N lv : Nat) (bs : List (Array Value)) (t : Operand) (x0 x1 y0 y1 z : Code) (Q : AExit → AS → Prop) (a : Act) (w : World) (n : Nat) : Prop :=
  ∃ (X : Type) (S : X → AS) (m : X → Nat) (i : X) (ρ : Nat → Value), (∀ i, awpS P L W N lv x0 (kQ fun st => awpS P L W N lv x1 (kQ fun st => match st.ev t with
    | .v (.bool b) => (match b with
      | true => awpS P L W N lv y0 (kQ fun st => awpS P L W N lv y1 (kQ fun st => ∃ j σ, LeR σ st (S j) ∧ m j < m i) st) st
      | false => awpS P L W N lv z Q st)
    | _ => False) st) (S i)) ∧ Rel g N bs ρ a w (S i) ∧ m i = n

theorem aspec_goto (hL : LayOk P L) (lv : Nat) {f : FuncId} {fn : Func} {p0 p1 p2 x0 x1 y0 y1 z : Code} {t : Operand} {l : Nat} {avs : List AV} {r : AV} {hh : List (Nat × AO)} (hf : P.funcs[f]? = some fn) (hn : (fn.name == "runtime.NumGoroutine") = false)
    (hb : fn.body = some (.seq p0 (.scope (.seq p1 (.seq p2 (.seq (.label l) (.seq (.seq x0 (.seq x1 (.cond t (.seq y0 (.seq y1 (.goto l))) .skip))) z))))))) (hsz : Nat.ble avs.length fn.ntmps = true)
    (hl : findLabel (.seq p1 (.seq p2 (.seq (.label l) (.seq (.seq x0 (.seq x1 (.cond t (.seq y0 (.seq y1 (.goto l))) .skip))) z)))) l = some (.seq .skip (.seq (.seq x0 (.seq x1 (.cond t (.seq y0 (.seq y1 (.goto l))) .skip))) z)))
    (h : awpS P L (awp P L 8) fn.ntmps lv p0 (kQ fun st => awpS P L (awp P L 8) fn.ntmps lv p1 (kQ fun st => awpS P L (awp P L 8) fn.ntmps lv p2 (kQ fun st => AGoto P L (awp P L 8) fn.ntmps lv t x0 x1 y0 y1 z (retQ L fn r hh) st) st) st) (start avs)) : ASpec P f avs r hh := by
  refine aspec_wp hL hf hn hb hsz fun g E ρ a w hq R => ?_
  have hW := awp_snd hL 8
  let J : Act → World → Nat → Prop := JN P L (awp P L 8) g fn.ntmps lv [] t x0 x1 y0 y1 z (retQ L fn r hh)
  refine kQ_seq hL hW R h fun ρ a w st R h => ?_
  refine wp_scope_jumps l (fun a w => ∃ n, J a w n) (fun a w => least (J a w)) hl ?_ ?_
  all_goals
    have body : ∀ (J' : Act → World → Prop) (X : Type) (S : X → AS) (m : X → Nat) (i : X) (ρ : Nat → Value) (a : Act) (w : World), (∀ a w n, n < m i → J a w n → J' a w) → (∀ i, awpS P L (awp P L 8) fn.ntmps lv x0 (kQ fun st => awpS P L (awp P L 8) fn.ntmps lv x1 (kQ fun st => match st.ev t with
        | .v (.bool b) => (match b with
          | true => awpS P L (awp P L 8) fn.ntmps lv y0 (kQ fun st => awpS P L (awp P L 8) fn.ntmps lv y1 (kQ fun st => ∃ j σ, LeR σ st (S j) ∧ m j < m i) st) st
          | false => awpS P L (awp P L 8) fn.ntmps lv z (retQ L fn r hh) st)
        | _ => False) st) (S i)) → Rel g fn.ntmps [] ρ a w (S i) → (Code.seq (.seq x0 (.seq x1 (.cond t (.seq y0 (.seq y1 (.goto l))) .skip))) z).wp P (Exit.jump l J' E) a w := by
      intro J' X S m i ρ a w hJ hb R
      refine wp_seq ?_
      refine kQ_seq hL hW R (hb i) fun ρ a w st R h => ?_
      refine kQ_seq hL hW R h fun ρ a w st R h => ?_
      split at h
      · rename_i b et
        have hc := R.ev t
        rw [et] at hc
        have hc := C2.inv_v hc
        cases b with
        | true =>
          refine wp_cond_true hc ?_
          refine kQ_seq hL hW R h fun ρ a w st R h => ?_
          refine kQ_seq hL hW R h fun ρ a w st R h => ?_
          obtain ⟨j, σ, hle, hlt⟩ := h
          obtain ⟨ρ', R'⟩ := R.lessR hle
          exact wp_goto ⟨rfl, hJ a w (m j) hlt ⟨X, S, m, j, ρ', hb, R', rfl⟩⟩
        | false =>
          refine wp_cond_false hc (wp_skip ?_)
          exact awpS_snd hL hW lv z (Q := retQ L fn r hh) (E := Exit.jump l J' E) ⟨fun ρ a w st R h => hq.1 ρ a w st R h, fun i ρ a w st R h => hq.2.1 i ρ a w st R h, fun ρ a w st R h => hq.2.2 ρ a w st R h⟩ R h
      · exact h.elim
  · refine kQ_seq hL hW R h fun ρ a w st R h => ?_
    refine kQ_seq hL hW R h fun ρ a w st R h => ?_
    refine wp_seq (wp_label ?_)
    cases h with
    | mk X S m i0 σ h0 hb =>
      obtain ⟨ρ', R'⟩ := R.lessR h0
      exact body _ X S m i0 ρ' a w (fun a w n _ hj => ⟨n, hj⟩) hb R'
  · intro a w hJ
    obtain ⟨X, S, m, i, ρ, hb, R, hm⟩ := least_spec hJ
    refine wp_seq (wp_skip ?_)
    refine body _ X S m i ρ a w (fun a' w' n hlt hj => ⟨⟨n, hj⟩, ?_⟩) hb R
    have := least_le hj
    show least (J a' w') < least (J a w)
    omega
end
end Go.Proofs.Ytbmojelnkldecaa
