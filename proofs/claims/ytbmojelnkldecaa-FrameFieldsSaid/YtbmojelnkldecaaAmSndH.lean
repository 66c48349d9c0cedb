/-
  The abstract machine is right: a list of operations, code, loops, what is handed back. The theorem to use: aspec_of.
-/
import Derived.Test.YtbmojelnkldecaaAmSndR
import Derived.Test.YtbmojelnkldecaaAmRen
namespace Go.Proofs.Ytbmojelnkldecaa
open Go.RowKit

section
variable {P : Program} {L : Lay} {g : Base} {N : Nat} {bs : List (Array Value)} {ρ : Nat → Value} {a : Act} {w : World} {st : AS}

theorem evs_all (R : Rel g N bs ρ a w st) (l : List Operand) : All2 (C2 (cxOf g w ρ st.heap)) (l.map st.ev) (l.map a.eval) := by
  induction l with
  | nil => exact All2.nil
  | cons x l ih => exact All2.cons (R.ev x) ih

theorem caps_all {X : CX} {caps : List AV} {us : List Value} (h : All2 (C0 X) caps us) : All2 (C2 X) caps us := h.imp fun _ _ => C2.of0

open Classical in
/-- The least number of some. -/
noncomputable def least (p : Nat → Prop) : Nat := if h : ∃ n, p n then Classical.choose (exists_least h) else 0
where
  exists_least {p : Nat → Prop} (h : ∃ n, p n) : ∃ n, p n ∧ ∀ k, p k → n ≤ k := by
    obtain ⟨n, hn⟩ := h
    induction n using Nat.strongRecOn with
    | ind n ih =>
      by_cases h : ∃ k, k < n ∧ p k
      · obtain ⟨k, hk, hp⟩ := h
        exact ih k hk hp
      · exact ⟨n, hn, fun k hk => Nat.le_of_not_lt fun hlt => h ⟨k, hlt, hk⟩⟩
theorem least_spec {p : Nat → Prop} (h : ∃ n, p n) : p (least p) := by
  unfold least
  rw [dif_pos h]
  exact (Classical.choose_spec (least.exists_least h)).1
theorem least_le {p : Nat → Prop} {n : Nat} (h : p n) : least p ≤ n := by
  unfold least
  rw [dif_pos ⟨n, h⟩]
  exact (Classical.choose_spec (least.exists_least ⟨n, h⟩)).2 n h

theorem C0_of_one {X : CX} {h : List (Nat × AO)} {x : AV} {u : Value} (hx : C2 X x u) (ho : oneB h x = true) : C0 X x u := by
  cases x <;> first | exact hx | (cases ho; done)

theorem one_arg {R : AV → Value → Prop} {x : AV} {us : List Value} (h : All2 R [x] us) : ∃ u, us = [u] ∧ R x u := by
  match us, h with
  | [], h => have := h.1; simp at this
  | [u], h => exact ⟨u, rfl, h.2 0 _ _ rfl rfl⟩
  | _ :: _ :: _, h => have := h.1; simp at this
theorem two_args {R : AV → Value → Prop} {x y : AV} {us : List Value} (h : All2 R [x, y] us) : ∃ u v, us = [u, v] ∧ R x u ∧ R y v := by
  match us, h with
  | [], h => have := h.1; simp at this
  | [_], h => have := h.1; simp at this
  | [u, v], h => exact ⟨u, v, rfl, h.2 0 _ _ rfl rfl, h.2 1 _ _ rfl rfl⟩
  | _ :: _ :: _ :: _, h => have := h.1; simp at this

def qOf (g : Base) (N : Nat) (bs : List (Array Value)) (Q : AExit → AS → Prop) (E : Exit → Act → World → Prop) : Prop :=
  (∀ ρ a w st, Rel g N bs ρ a w st → Q .normal st → E .normal a w) ∧ (∀ i ρ a w st, Rel g N bs ρ a w st → Q (.exit i) st → E (.exit i) a w) ∧ (∀ ρ a w st, Rel g N bs ρ a w st → Q .ret st → E .ret a w)

/-- A way to reckon code that is right. -/
def WOk (P : Program) (W : Walk) : Prop := ∀ (g : Base) (N lv : Nat) (bs : List (Array Value)) (c : Code) (Q : AExit → AS → Prop) (E : Exit → Act → World → Prop) {ρ : Nat → Value} {a : Act} {w : World} {st : AS}, qOf g N bs Q E → Rel g N bs ρ a w st → W N lv c Q st → c.wp P E a w

theorem inl_run (hL : LayOk P L) {W : Walk} (hW : WOk P W) (R : Rel g N bs ρ a w st) {f : FuncId} {avs : List AV} {args : List Value} (hargs : All2 (C2 (cxOf g w ρ st.heap)) avs args) {K : AV → AS → Prop} (lv : Nat) (fn : Func) (c : Code) (hf : P.funcs[f]? = some fn) (hb : fn.body = some c) (hsz : Nat.ble avs.length fn.ntmps = true)
    (h : W fn.ntmps lv c (fun e st' => match e with | .exit _ => False | .normal => ares L st' fn.results.toList (fun x => nrmA (st'.out) (K x)) | .ret => ares L st' fn.results.toList (fun x => nrmA (st'.out) (K x))) (st.into avs)) :
    Calls P f args.toArray w fun e w' => ∃ u x st' ρ', e = .returned u ∧ K x st' ∧ Rel g N bs ρ' a w' st' ∧ C2 (cxOf g w' ρ' st'.heap) x u := by
  have hsz := Nat.le_of_ble_eq_true hsz
  have hlen : args.length = avs.length := hargs.1.symm
  refine calls_of_wp hf hb ?_
  have R0 : Rel g fn.ntmps (a.tmps :: bs) ρ { tmps := args.toArray ++ Array.replicate (fn.ntmps - args.toArray.size) undef, defers := [] } w (st.into avs) :=
    ⟨by simp; omega, rfl, R.below, frame_start hargs hsz, R.objs, R.apart, R.own, ⟨R.tmps, R.back⟩⟩
  have post : ∀ ρ' a' w' st', Rel g fn.ntmps (a.tmps :: bs) ρ' a' w' st' → ares L st' fn.results.toList (fun x => nrmA (st'.out) (K x)) →
      a'.defers = [] ∧ ∃ v, (results fn a'.tmps).run P w' = .ok v w' ∧ ∃ u x st' ρ', Ending.returned v = .returned u ∧ K x st' ∧ Rel g N bs ρ' a w' st' ∧ C2 (cxOf g w' ρ' st'.heap) x u := by
    intro ρ' a' w' st' R' hq
    obtain ⟨x, u, hret, hc, hrun⟩ := ret_run hL R' hq
    rw [nrmA_eq] at hret
    refine ⟨R'.defers, u, hrun, u, x, st'.out, ρ', rfl, hret, ?_⟩
    have hback := R'.back
    revert hc
    cases hbk : st'.back with
    | nil => rw [hbk] at hback; exact hback.elim
    | cons f r =>
      rw [hbk] at hback
      have e : st'.out = ⟨f, st'.heap, r, st'.base⟩ := by simp [AS.out, hbk]
      rw [e]
      exact fun hc => ⟨⟨R.size, R.defers, R'.below, hback.1, R'.objs, R'.apart, R'.own, hback.2⟩, hc⟩
  refine hW g fn.ntmps lv (a.tmps :: bs) c _ _ ⟨?_, ?_, ?_⟩ R0 h
  · exact fun ρ' a' w' st' R' hq => post ρ' a' w' st' R' hq
  · exact fun i ρ' a' w' st' R' hq => hq.elim
  · exact fun ρ' a' w' st' R' hq => post ρ' a' w' st' R' hq

theorem aop_snd (hL : LayOk P L) {W : Walk} (hW : WOk P W) (R : Rel g N bs ρ a w st) {o : Oper} {d : Nat} {K : AV → AS → Prop} (h : aop P L W d st o.op K) {next : Act → World → Prop} {Q : Exit → Act → World → Prop}
    (hk : ∀ x st' u ρ' w', K x st' → Rel g N bs ρ' a w' st' → C2 (cxOf g w' ρ' st'.heap) x u → next (a.put o.dst u) w') : o.wp P a w next Q := by
  have same : ∀ {x : AV} {u : Value}, K x st → C2 (cxOf g w ρ st.heap) x u → (execOp a.eval o).run P w = .ok (.value u) w → o.wp P a w next Q :=
    fun h1 h2 h3 => wp_value h3 (hk _ _ _ _ _ h1 R h2)
  unfold aop at h
  split at h
  · rename_i x e
    exact same h (R.ev x) (by simp [execOp, e])
  · rename_i x e
    exact same h (R.ev x) (by simp [execOp, e])
  · rename_i c x y e
    split at h
    · rename_i t et
      have hc := R.ev c
      rw [et] at hc
      have hc := C2.inv_v hc
      cases t with
      | true => exact same h (R.ev x) (by simp [execOp, e, hc, asBool])
      | false => exact same h (R.ev y) (by simp [execOp, e, hc, asBool])
    · exact h.elim
  · rename_i t e
    split at h
    · rename_i i hi
      rw [nameOf_eq] at h
      obtain ⟨z, hz, hzc⟩ := run_zero hL hi w
      have hR := R.newBox st.base t (cs := i.zero.map .v) (us := i.zero) (zero_all _)
      refine wp_value (u := .pointer (some ⟨w.heap.size, 0, none⟩)) (w' := w.alloc (.cells i.zero.toArray t)) ?_ (hk _ _ _ _ _ h hR ⟨w.heap.size, by simp [cxOf, reρ], rfl⟩)
      have hz' : z.cells = i.zero.toArray := by rw [← hzc]
      simp [execOp, e, Instr.alloc, hz, newVar, newRow, hz']
    · exact h.elim
  · rename_i t x e
    split at h
    · rename_i cs hcs
      cases hb : cs.all (oneB st.heap) with
      | false => rw [hb] at h; exact h.elim
      | true =>
        rw [hb, cond_true, nameOf_eq] at h
        obtain ⟨hall, _⟩ := cells_all R (R.ev x) hcs hb
        have hR := R.newBox st.base t hall
        refine wp_value (u := .pointer (some ⟨w.heap.size, 0, none⟩)) (w' := w.alloc (.cells (a.eval x).cells.toList.toArray t)) ?_ (hk _ _ _ _ _ h hR ⟨w.heap.size, by simp [cxOf, reρ], rfl⟩)
        simp [execOp, e, Instr.box, newVar, newRow]
    · exact h.elim
  · rename_i t p e
    obtain ⟨x, u, h1, h2, h3⟩ := aload_run hL R (R.ev p) h
    exact same h1 h2 (by simp [execOp, e, h3])
  · rename_i t p x e
    obtain ⟨st', w', h1, h2, h3⟩ := astore_run hL R (R.ev p) (R.ev x) h
    have hrun : (execOp a.eval o).run P w = .ok .skip w' := by simp [execOp, e, h3]
    unfold Oper.wp
    rw [hrun]
    exact hk _ _ _ _ _ h1 h2 rfl
  · rename_i t x i e
    obtain ⟨y, u, h1, h2, h3⟩ := afieldAddr_run hL (R.ev x) h w
    exact same h1 h2 (by simp [execOp, e, h3])
  · rename_i t x i e
    obtain ⟨y, u, h1, h2, h3⟩ := afield_run hL (R.ev x) h w
    exact same h1 h2 (by simp [execOp, e, h3])
  · rename_i t x i e
    obtain ⟨y, u, h1, h2, h3⟩ := aindexAddr_run hL R (R.ev x) (R.ev i) h
    exact same h1 h2 (by simp [execOp, e, h3])
  · rename_i t x i e
    obtain ⟨y, u, h1, h2, h3⟩ := aindex_run hL (R.ev x) (R.ev i) h w
    exact same h1 h2 (by simp [execOp, e, h3])
  · rename_i x i e
    obtain ⟨y, u, h1, h2, h3⟩ := aextract_run (P := P) (R.ev x) h w
    exact same h1 h2 (by simp [execOp, e, h3])
  · rename_i t parts e
    obtain ⟨y, u, h1, h2, h3⟩ := abuild_run hL R h
    exact same h1 h2 (by simp only [execOp, e, Sem.run_bind, h3, Result.andThen_ok, Sem.run_pure])
  · rename_i t n parts e
    rw [nameOf_eq] at h
    obtain ⟨y, u, st', ρ', w', h1, h2, h3, h4⟩ := abuildSlice_run hL R h
    exact wp_value (by simp only [execOp, e, Sem.run_bind, h4, Result.andThen_ok, Sem.run_pure]) (hk _ _ _ _ _ h1 h2 h3)
  · rename_i op t x y ty e
    obtain ⟨z, u, h1, h2, h3, h4⟩ := abin_run (ox := x) (oy := y) hL (R.ev x) (R.ev y) h w
    exact same h1 h2 (by simp only [execOp, e, Sem.run_bind, h3, h4, Result.andThen_ok, Sem.run_pure])
  · rename_i op t x e
    obtain ⟨z, u, h1, h2, h3⟩ := aun_run (P := P) (R.ev x) h w
    exact same h1 h2 (by simp only [execOp, e, Sem.run_bind, h3, Result.andThen_ok, Sem.run_pure])
  · rename_i s t x e
    obtain ⟨z, u, h1, h2, h3⟩ := aconvert_run hL R (R.ev x) h
    exact same h1 h2 (by simp only [execOp, e, Sem.run_bind, h3, Result.andThen_ok, Sem.run_pure])
  · rename_i t x lo hi mx e
    obtain ⟨z, u, st', h1, h2, h3, h4⟩ := aslice_run hL R (R.ev x) h
    exact wp_value (by simp only [execOp, e, Sem.run_bind, h4, Result.andThen_ok, Sem.run_pure]) (hk _ _ _ _ _ h1 h2 h3)
  · rename_i x e
    have hx := R.ev x
    split at h
    · rename_i i k ex
      rw [ex] at hx
      obtain ⟨b, hb, hv⟩ := C2.inv_box hx
      exact same h ⟨b, hb, rfl⟩ (by simp [execOp, e, hv])
    · rename_i gg cs ex
      rw [ex] at hx
      obtain ⟨us, hv, ha⟩ := C2.inv_fn hx
      exact same h ⟨us, rfl, ha⟩ (by simp [execOp, e, hv])
    · exact h.elim
  · rename_i gg first caps e
    split at h
    · rename_i ef
      have hf : first = #[] := by simpa using ef
      subst hf
      cases hb : (caps.toList.map st.ev).all (oneB st.heap) with
      | false => rw [hb] at h; exact h.elim
      | true =>
        rw [hb] at h
        refine same h (u := .func (.func gg) #[] (caps.map a.eval)) ⟨caps.toList.map a.eval, by rw [← Array.toList_map], ?_⟩ (by simp [execOp, e, Instr.makeFunc])
        have := evs_all R caps.toList
        exact ⟨this.1, fun i x u hx hu => C0_of_one (this.2 i x u hx hu) (List.all_eq_true.1 hb x (List.mem_of_getElem? hx))⟩
    · exact h.elim
  · rename_i c e
    split at h
    · rename_i b ec
      have hex : ∀ {u : Value} {w' : World}, (builtin b c.argTypes o.type (c.args.map fun | .const _ => true | _ => false) (c.args.map a.eval)).run P w = .ok (.value u) w' → (execOp a.eval o).run P w = .ok (.value u) w' := by
        intro u w' h
        simp only [execOp, e, resolve, ec, Sem.run_bind, Sem.run_pure, Result.andThen_ok, invoke]
        exact h
      have ha := evs_all R c.args.toList
      have hca : c.args.map a.eval = (c.args.toList.map a.eval).toArray := by apply Array.ext'; simp
      have hct : c.argTypes = c.argTypes.toList.toArray := by simp
      rw [nameOf_eq] at h
      unfold abuiltin at h
      split at h
      · rename_i t x et ex
        rw [ex] at ha
        obtain ⟨v, hv, hc⟩ := one_arg ha
        obtain ⟨z, u, h1, h2, h3⟩ := alen_run (ty := o.type) hL R hc h
        exact same h1 h2 (hex (by rw [hca, hv, hct, et]; simp only [builtin, Sem.run_bind, h3, Result.andThen_ok, Sem.run_pure]))
      · rename_i t tx x y et ex
        rw [ex] at ha
        obtain ⟨v1, v2, hv, hc1, hc2⟩ := two_args ha
        obtain ⟨z, u, st', ρ', w', h1, h2, h3, h4⟩ := aappend_run (ty := o.type) hL R hc1 hc2 h
        exact wp_value (hex (by rw [hca, hv, hct, et]; simp only [builtin, Sem.run_bind, h4, Result.andThen_ok, Sem.run_pure])) (hk _ _ _ _ _ h1 h2 h3)
      · rename_i x y ex
        rw [ex] at ha
        obtain ⟨v1, v2, hv, hc1, hc2⟩ := two_args ha
        obtain ⟨z, u, h1, h2, h3⟩ := amin_run (P := P) hc1 hc2 h c.argTypes o.type w
        exact same h1 h2 (hex (by rw [hca, hv]; simp only [builtin, Sem.run_bind, h3, Result.andThen_ok, Sem.run_pure]))
      · rename_i x y ex
        rw [ex] at ha
        obtain ⟨v1, v2, hv, hc1, hc2⟩ := two_args ha
        obtain ⟨z, u, h1, h2, h3⟩ := amax_run (P := P) hc1 hc2 h c.argTypes o.type w
        exact same h1 h2 (hex (by rw [hca, hv]; simp only [builtin, Sem.run_bind, h3, Result.andThen_ok, Sem.run_pure]))
      · exact h.elim
    · rename_i x ec
      split at h
      · rename_i gg caps ex
        rw [nameOf_eq] at h
        have hx := R.ev x
        rw [ex] at hx
        obtain ⟨us, hv, ha⟩ := C2.inv_fn hx
        have hargs := (evs_all R c.args.toList).app (caps_all ha)
        obtain ⟨hent, hcall⟩ := acall_run R hargs h (fun lv fn c hf _ hb hsz h => inl_run hL hW R hargs lv fn c hf hb hsz h)
        have hrun : (execOp a.eval o).run P w = .ok (.enter gg (c.args.toList.map a.eval ++ us).toArray) w := by
          have hcf := run_callFunc hent (c.args.toList.map a.eval ++ us).toArray w
          have eq : (c.args.toList.map a.eval ++ us).toArray = (#[] ++ c.args.map a.eval) ++ us.toArray := by
            apply Array.ext'; simp
          rw [eq] at hcf ⊢
          simp only [execOp, e, resolve, ec, Deferred.ofValue, hv, Sem.run_bind, Sem.run_pure, Result.andThen_ok, invoke]
          exact hcf
        unfold Oper.wp
        rw [hrun, Oper.upon_enter]
        refine hcall.mono ?_
        rintro e' w' ⟨u, y, st', ρ', rfl, h1, h2, h3⟩
        exact hk _ _ _ _ _ h1 h2 h3
      · exact h.elim
    · exact h.elim
  · rename_i t l c e
    rw [nameOf_eq] at h
    obtain ⟨y, u, st', ρ', w', h1, h2, h3, h4⟩ := amake_run hL R (R.ev l) (R.ev c) h
    exact wp_value (by simp only [execOp, e, Sem.run_bind, h4, Result.andThen_ok, Sem.run_pure]) (hk _ _ _ _ _ h1 h2 h3)
  · rename_i t x e
    obtain ⟨z, u, h1, h2, h3⟩ := atoArr_run hL R (R.ev x) h
    exact same h1 h2 (by simp only [execOp, e, Sem.run_bind, h3, Result.andThen_ok, Sem.run_pure])
  · exact h.elim

theorem aput_snd (R : Rel g N bs ρ a w st) {d : Option Tmp} {x : AV} {u : Value} (hx : C2 (cxOf g w ρ st.heap) x u) {K : AS → Prop} (h : aput N st d x K) : ∃ st', K st' ∧ Rel g N bs ρ (a.put d u) w st' := by
  unfold aput at h
  cases d with
  | none => exact ⟨st, h, R⟩
  | some d =>
    dsimp only at h
    cases hb : Nat.ble (d + 1) N with
    | false => rw [hb] at h; exact h.elim
    | true =>
      rw [hb, cond_true, force_eq] at h
      obtain ⟨sl, hh, bk, b⟩ := st
      exact ⟨_, h, R.put (Nat.le_of_ble_eq_true hb) hx⟩

theorem awpL_snd (hL : LayOk P L) {W : Walk} (hW : WOk P W) {ops : List Oper} {Q : AS → Prop} {QQ : Exit → Act → World → Prop} (hQ : ∀ a w ρ st, Rel g N bs ρ a w st → Q st → QQ .normal a w) :
    ∀ (l : List Oper) {ρ : Nat → Value} {a : Act} {w : World} {st : AS}, Rel g N bs ρ a w st → awpL P L W N ops Q l st → wpList P ops.toArray QQ l a w
  | [], ρ, a, w, st, R, h => hQ a w ρ st R h
  | ⟨dst, op, ty, pos, after, guard⟩ :: rest, ρ, a, w, st, R, h => by
    have ih := @awpL_snd hL W hW ops Q QQ hQ rest
    have go : ∀ d, aop P L W d st op (fun x st' => aput N st' dst x (awpL P L W N ops Q rest)) → Oper.wp P ⟨dst, op, ty, pos, after, guard⟩ a w (wpList P ops.toArray QQ rest) QQ := by
      intro d hd
      refine aop_snd hL hW R (o := ⟨dst, op, ty, pos, after, guard⟩) (d := d) hd ?_
      intro x st' u ρ' w' hx R' hc
      obtain ⟨st2, h2, R2⟩ := aput_snd R' hc hx
      exact ih R2 h2
    have go' : aopD P L W dst st op (fun x st' => aput N st' dst x (awpL P L W N ops Q rest)) → Oper.wp P ⟨dst, op, ty, pos, after, guard⟩ a w (wpList P ops.toArray QQ rest) QQ := by
      intro hd
      unfold aopD at hd
      cases dst with
      | none => exact go 0 hd
      | some d => exact go d hd
    have skip : aput N st dst (.v undef) (awpL P L W N ops Q rest) → wpList P ops.toArray QQ rest (a.put dst undef) w := by
      intro hd
      obtain ⟨st2, h2, R2⟩ := aput_snd R (show C2 (cxOf g w ρ st.heap) (.v undef) undef from rfl) hd
      exact ih R2 h2
    simp only [awpL] at h
    cases guard with
    | none =>
      dsimp only at h
      refine wpList_step (fun K hK => ?_)
      have hw := go' h
      simp only [Region.wanted, if_true]
      exact wp_imp hw hK
    | some gd =>
      obtain ⟨j, want⟩ := gd
      dsimp only at h
      split at h
      · rename_i dj hdj
        cases hb : Nat.ble (dj + 1) N with
        | false => rw [hb] at h; exact h.elim
        | true =>
          rw [hb, cond_true] at h
          have hlt := Nat.le_of_ble_eq_true hb
          have hd := R.tmps dj
          have hget : a.tmps[dj]? = some (a.tmps.getD dj undef) := by
            have : dj < a.tmps.size := by rw [R.size]; exact hlt
            simp [this]
          have hops : ((ops.toArray[j]?).bind (·.dst)) = some dj := by simpa using hdj
          split at h
          · rename_i b eb
            rw [eb] at hd
            have hd := C2.inv_v hd
            have hy : yielded ops.toArray a.tmps j = some b := by
              unfold yielded
              rw [hops]
              simp only [Option.bind_some, hget, hd]
            split at h
            · rename_i hbw
              refine wpList_step (fun K hK => ?_)
              have hwant : Region.wanted ⟨dst, op, ty, pos, after, some (j, want)⟩ (yielded ops.toArray a.tmps) = true := by
                simp only [Region.wanted, hy]
                simpa using hbw
              rw [if_pos hwant]
              exact wp_imp (go' h) hK
            · rename_i hbw
              refine wpList_skip ?_ (skip h)
              simp only [Region.wanted, hy]
              simpa using hbw
          · rename_i vs eb
            rw [eb] at hd
            have hd := C2.inv_v hd
            have hy : yielded ops.toArray a.tmps j = none := by
              unfold yielded
              rw [hops]
              simp only [Option.bind_some, hget, hd]
            refine wpList_skip ?_ (skip h)
            simp only [Region.wanted, hy]
            rfl
          · exact h.elim
      · exact h.elim
where
  wp_imp {o : Oper} {a : Act} {w : World} {K K' : Act → World → Prop} {Q : Exit → Act → World → Prop} (h : o.wp P a w K Q) (hk : ∀ a w, K a w → K' a w) : o.wp P a w K' Q := by
    unfold Oper.wp Oper.upon at *
    split at h
    · exact hk _ _ h
    · exact hk _ _ h
    · exact hk _ _ h
    · refine h.mono ?_
      intro e w'' he
      cases e with
      | returned v => exact hk _ _ he
      | panicked c => exact he
      | outgrown => exact he
    · exact h.mono fun _ _ he => hk _ _ he
    · exact h
    · exact h

theorem aop_quiet (hL : LayOk P L) {W : Walk} (R : Rel g N bs ρ a w st) {o : Oper} {d : Nat} {K : AV → AS → Prop} (hq : quietB o.op = true) (h : aop P L W d st o.op K) : ∃ x u, K x st ∧ C2 (cxOf g w ρ st.heap) x u ∧ (execOp a.eval o).run P w = .ok (.value u) w := by
  unfold aop at h
  split at h
  · rename_i x e
    exact ⟨_, _, h, R.ev x, by simp [execOp, e]⟩
  · rename_i x e
    exact ⟨_, _, h, R.ev x, by simp [execOp, e]⟩
  · rename_i c x y e
    split at h
    · rename_i t et
      have hc := R.ev c
      rw [et] at hc
      have hc := C2.inv_v hc
      cases t with
      | true => exact ⟨_, _, h, R.ev x, by simp [execOp, e, hc, asBool]⟩
      | false => exact ⟨_, _, h, R.ev y, by simp [execOp, e, hc, asBool]⟩
    · exact h.elim
  · rename_i e; rw [e] at hq; cases hq
  · rename_i e; rw [e] at hq; cases hq
  · rename_i t p e
    obtain ⟨x, u, h1, h2, h3⟩ := aload_run hL R (R.ev p) h
    exact ⟨_, _, h1, h2, by simp [execOp, e, h3]⟩
  · rename_i e; rw [e] at hq; cases hq
  · rename_i t x i e
    obtain ⟨y, u, h1, h2, h3⟩ := afieldAddr_run hL (R.ev x) h w
    exact ⟨_, _, h1, h2, by simp [execOp, e, h3]⟩
  · rename_i t x i e
    obtain ⟨y, u, h1, h2, h3⟩ := afield_run hL (R.ev x) h w
    exact ⟨_, _, h1, h2, by simp [execOp, e, h3]⟩
  · rename_i t x i e
    obtain ⟨y, u, h1, h2, h3⟩ := aindexAddr_run hL R (R.ev x) (R.ev i) h
    exact ⟨_, _, h1, h2, by simp [execOp, e, h3]⟩
  · rename_i t x i e
    obtain ⟨y, u, h1, h2, h3⟩ := aindex_run hL (R.ev x) (R.ev i) h w
    exact ⟨_, _, h1, h2, by simp [execOp, e, h3]⟩
  · rename_i x i e
    obtain ⟨y, u, h1, h2, h3⟩ := aextract_run (P := P) (R.ev x) h w
    exact ⟨_, _, h1, h2, by simp [execOp, e, h3]⟩
  · rename_i t parts e
    obtain ⟨y, u, h1, h2, h3⟩ := abuild_run hL R h
    exact ⟨_, _, h1, h2, by simp only [execOp, e, Sem.run_bind, h3, Result.andThen_ok, Sem.run_pure]⟩
  · rename_i e; rw [e] at hq; cases hq
  · rename_i op t x y ty e
    obtain ⟨z, u, h1, h2, h3, h4⟩ := abin_run (ox := x) (oy := y) hL (R.ev x) (R.ev y) h w
    exact ⟨_, _, h1, h2, by simp only [execOp, e, Sem.run_bind, h3, h4, Result.andThen_ok, Sem.run_pure]⟩
  · rename_i op t x e
    obtain ⟨z, u, h1, h2, h3⟩ := aun_run (P := P) (R.ev x) h w
    exact ⟨_, _, h1, h2, by simp only [execOp, e, Sem.run_bind, h3, Result.andThen_ok, Sem.run_pure]⟩
  · rename_i s t x e
    obtain ⟨z, u, h1, h2, h3⟩ := aconvert_run hL R (R.ev x) h
    exact ⟨_, _, h1, h2, by simp only [execOp, e, Sem.run_bind, h3, Result.andThen_ok, Sem.run_pure]⟩
  · rename_i e; rw [e] at hq; cases hq
  · rename_i x e
    have hx := R.ev x
    split at h
    · rename_i i k ex
      rw [ex] at hx
      obtain ⟨b, hb, hv⟩ := C2.inv_box hx
      exact ⟨_, _, h, ⟨b, hb, rfl⟩, by simp [execOp, e, hv]⟩
    · rename_i gg cs ex
      rw [ex] at hx
      obtain ⟨us, hv, ha⟩ := C2.inv_fn hx
      exact ⟨_, _, h, ⟨us, rfl, ha⟩, by simp [execOp, e, hv]⟩
    · exact h.elim
  · rename_i e; rw [e] at hq; cases hq
  · rename_i c e
    rw [e] at hq
    obtain ⟨callee, args, ats⟩ := c
    cases callee with
    | value x => cases hq
    | invoke r m => cases hq
    | builtin b =>
      cases b <;> first | (cases hq; done) | skip
      dsimp only at h
      have hex : ∀ {u : Value} {w' : World}, (builtin .len ats o.type (args.map fun | .const _ => true | _ => false) (args.map a.eval)).run P w = .ok (.value u) w' → (execOp a.eval o).run P w = .ok (.value u) w' := by
        intro u w' h
        simp only [execOp, e, resolve, Sem.run_bind, Sem.run_pure, Result.andThen_ok, invoke]
        exact h
      have ha := evs_all R args.toList
      have hca : args.map a.eval = (args.toList.map a.eval).toArray := by apply Array.ext'; simp
      have hct : ats = ats.toList.toArray := by simp
      rw [nameOf_eq] at h
      unfold abuiltin at h
      split at h
      · rename_i t x et1 et ex
        rw [ex] at ha
        obtain ⟨v, hv, hc⟩ := one_arg ha
        obtain ⟨z, u, h1, h2, h3⟩ := alen_run (ty := o.type) hL R hc h
        exact ⟨_, _, h1, h2, hex (by rw [hca, hv, hct, et]; simp only [builtin, Sem.run_bind, h3, Result.andThen_ok, Sem.run_pure])⟩
      · rename_i e1 _ _; cases e1
      · rename_i e1 _; cases e1
      · rename_i e1 _; cases e1
      · exact h.elim
  · rename_i e; rw [e] at hq; cases hq
  · rename_i t x e
    obtain ⟨z, u, h1, h2, h3⟩ := atoArr_run hL R (R.ev x) h
    exact ⟨_, _, h1, h2, by simp only [execOp, e, Sem.run_bind, h3, Result.andThen_ok, Sem.run_pure]⟩
  · exact h.elim

theorem awpQ_snd (hL : LayOk P L) {W : Walk} {ops : List Oper} {Q : AS → Prop} {E : Act → World → Prop} (hQ : ∀ a w' st, Rel g N bs ρ a w' st → Q st → E a w') :
    ∀ (l : List Oper) {a : Act} {w : World} {st : AS}, l.all (fun o => quietB o.op) = true → Rel g N bs ρ a w st → awpL P L W N ops Q l st → wpQuiet P ops.toArray (fun w' => w' = w) (fun a' => ∀ w', w' = w → E a' w') l a
  | [], a, w, st, _, R, h => fun w' e => by rw [e]; exact hQ a w st R h
  | ⟨dst, op, ty, pos, after, guard⟩ :: rest, a, w, st, hqq, R, h => by
    simp only [List.all_cons, Bool.and_eq_true] at hqq
    obtain ⟨hqo, hqr⟩ := hqq
    have ih := @awpQ_snd hL W ops Q E hQ rest
    have go : ∀ d, aop P L W d st op (fun x st' => aput N st' dst x (awpL P L W N ops Q rest)) → Oper.quiet P ⟨dst, op, ty, pos, after, guard⟩ a (fun w' => w' = w) (wpQuiet P ops.toArray (fun w' => w' = w) (fun a' => ∀ w', w' = w → E a' w') rest) := by
      intro d hd
      obtain ⟨x, u, h1, h2, h3⟩ := aop_quiet hL R (o := ⟨dst, op, ty, pos, after, guard⟩) (d := d) hqo hd
      obtain ⟨st2, k2, R2⟩ := aput_snd R h2 h1
      refine ⟨u, fun w' e => ?_, ih hqr R2 k2⟩
      subst e
      unfold Oper.quietAt
      rw [h3]
      exact ⟨rfl, rfl⟩
    have go' : aopD P L W dst st op (fun x st' => aput N st' dst x (awpL P L W N ops Q rest)) → Oper.quiet P ⟨dst, op, ty, pos, after, guard⟩ a (fun w' => w' = w) (wpQuiet P ops.toArray (fun w' => w' = w) (fun a' => ∀ w', w' = w → E a' w') rest) := by
      intro hd
      unfold aopD at hd
      cases dst with
      | none => exact go 0 hd
      | some d => exact go d hd
    have skip : aput N st dst (.v undef) (awpL P L W N ops Q rest) → wpQuiet P ops.toArray (fun w' => w' = w) (fun a' => ∀ w', w' = w → E a' w') rest (a.put dst undef) := by
      intro hd
      obtain ⟨st2, h2, R2⟩ := aput_snd R (show C2 (cxOf g w ρ st.heap) (.v undef) undef from rfl) hd
      exact ih hqr R2 h2
    simp only [awpL] at h
    simp only [wpQuiet]
    cases guard with
    | none =>
      dsimp only at h
      rw [if_pos (by simp [Region.wanted])]
      exact go' h
    | some gd =>
      obtain ⟨j, want⟩ := gd
      dsimp only at h
      split at h
      · rename_i dj hdj
        cases hb : Nat.ble (dj + 1) N with
        | false => rw [hb] at h; exact h.elim
        | true =>
          rw [hb, cond_true] at h
          have hlt := Nat.le_of_ble_eq_true hb
          have hd := R.tmps dj
          have hget : a.tmps[dj]? = some (a.tmps.getD dj undef) := by
            have : dj < a.tmps.size := by rw [R.size]; exact hlt
            simp [this]
          have hops : ((ops.toArray[j]?).bind (·.dst)) = some dj := by simpa using hdj
          split at h
          · rename_i b eb
            rw [eb] at hd
            have hd := C2.inv_v hd
            have hy : yielded ops.toArray a.tmps j = some b := by
              unfold yielded
              rw [hops]
              simp only [Option.bind_some, hget, hd]
            split at h
            · rename_i hbw
              rw [if_pos (by simp only [Region.wanted, hy]; simpa using hbw)]
              exact go' h
            · rename_i hbw
              rw [if_neg (by simp only [Region.wanted, hy]; simpa using hbw)]
              exact skip h
          · rename_i vs eb
            rw [eb] at hd
            have hd := C2.inv_v hd
            have hy : yielded ops.toArray a.tmps j = none := by
              unfold yielded
              rw [hops]
              simp only [Option.bind_some, hget, hd]
            rw [if_neg (by simp only [Region.wanted, hy]; simp)]
            exact skip h
          · exact h.elim
      · exact h.elim

theorem back_less {X : CX} : ∀ {fs hs : List (List (Nat × AV))} {bs : List (Array Value)}, BackOk X fs bs → BackLe fs hs → BackOk X hs bs
  | [], [], [], _, _ => trivial
  | _ :: _, _ :: _, _ :: _, k, l => ⟨fun t => by
      rcases l.1 t with e | e
      · rw [e]; trivial
      · exact e _ _ (k.1 t), back_less k.2 l.2⟩
  | [], _ :: _, _, _, l => l.elim
  | _ :: _, [], _, _, l => l.elim
  | [], [], _ :: _, k, _ => k.elim
  | _ :: _, _ :: _, [], k, _ => k.elim

theorem Rel.less (R : Rel g N bs ρ a w st) {S : AS} (h : LeS st S) : Rel g N bs ρ a w S := by
  have hb : ∀ b, b ∈ blocksOf ρ S.heap → b ∈ blocksOf ρ st.heap := by
    intro b hb
    obtain ⟨p, hp, e⟩ := mem_blocks.1 hb
    obtain ⟨o, ho, _⟩ := h.hp p hp
    exact mem_blocks.2 ⟨_, findObj_mem ho, e⟩
  have hk : ∀ b, keepOf g w ρ st.heap b → keepOf g w ρ S.heap b := fun b h => ⟨h.1, h.2.1, fun h' => h.2.2 (hb b h')⟩
  refine ⟨R.size, R.defers, R.below, fun t => ?_, fun p hp => ?_, ?_, fun b h => R.own b (hb b h), back_less (R.back.imp fun _ _ => C2.same (X := cxOf g w ρ st.heap) (Y := cxOf g w ρ S.heap) hk (fun _ _ => rfl) rfl) h.bk⟩
  · rcases h.tm t with e | e
    · rw [e]; trivial
    · exact e _ _ (C2.same (X := cxOf g w ρ st.heap) (Y := cxOf g w ρ S.heap) hk (fun _ _ => rfl) rfl (R.tmps t))
  · obtain ⟨o, ho, he⟩ := h.hp p hp
    refine he _ _ ?_
    have hoo := R.objs _ (findObj_mem ho)
    cases o with
    | box t cs =>
      obtain ⟨b, us, e, hh, ha⟩ := hoo
      exact ⟨b, us, e, hh, ha.imp fun _ _ => C0.same (X := cxOf g w ρ st.heap) (Y := cxOf g w ρ S.heap) hk (fun _ _ => rfl) rfl⟩
    | row e s n sc f =>
      obtain ⟨us, hown, hs, hfl, hsc, ha⟩ := hoo
      exact ⟨us, hown, hs, hfl, hsc, ha.imp fun _ _ => PC.mono hk (fun _ _ => rfl)⟩
  · exact nodup_sub h.nd R.apart (fun p hp => by obtain ⟨o, ho, _⟩ := h.hp p hp; exact ⟨_, findObj_mem ho, rfl⟩)
where
  nodup_sub {ρ : Nat → Value} {h : List (Nat × AO)} : ∀ {l : List (Nat × AO)}, (l.map (·.1)).Nodup → (blocksOf ρ h).Nodup → (∀ p ∈ l, ∃ q ∈ h, q.1 = p.1) → (blocksOf ρ l).Nodup
    | [], _, _, _ => by simp [blocksOf]
    | p :: l, hn, hh, hs => by
      have hn' := List.nodup_cons.1 hn
      have ih := nodup_sub hn'.2 hh (fun q hq => hs q (List.mem_cons_of_mem _ hq))
      rw [blocks_cons, List.nodup_append]
      refine ⟨by cases blk (ρ p.1) <;> simp, ih, fun x hx y hy e => ?_⟩
      subst e
      have hx' : blk (ρ p.1) = some x := by
        cases hq : blk (ρ p.1) with
        | none => simp [hq] at hx
        | some g' => simp [hq] at hx; rw [hx]
      obtain ⟨q, hq, hqe⟩ := mem_blocks.1 hy
      obtain ⟨p', hp', e1⟩ := hs p List.mem_cons_self
      obtain ⟨q', hq', e2⟩ := hs q (List.mem_cons_of_mem _ hq)
      have := blocks_apart hh p' hp' q' hq' (by rw [e1]; exact hx') (by rw [e2]; exact hqe)
      exact hn'.1 (List.mem_map.2 ⟨q, hq, by rw [← e2, ← this, e1]⟩)

theorem Rel.lessR (R : Rel g N bs ρ a w st) {σ : List (Nat × Nat)} {S : AS} (h : LeR σ st S) : ∃ ρ', Rel g N bs ρ' a w S := ⟨_, (R.ren h.nd).less h.le⟩

/-- A nil slice is a row of the call's own, with nothing in it. -/
theorem Rel.nilRow (R : Rel g N bs ρ a w st) (t d : Nat) (e : TypeId) (s : Nat) (f : Nat → List AV) (ht : st.tmps t = .v (.slice none 0 0)) (hs : 0 < s) : Rel g N bs (reρ ρ d (.slice none 0 0)) a w ((st.obj d d (.row e s 0 true f)).put t (.own d)) := by
  have R1 : Rel g N bs (reρ ρ d (.slice none 0 0)) a w (st.obj d d (.row e s 0 true f)) := by
    refine R.obj d d R.below (Nat.le_refl _) (fun _ _ _ => rfl) (fun b hb => by cases hb) (fun _ => ?_)
    exact ⟨[], by simpa [cxOf, reρ] using World.ownsRow_nil w _ e s, hs, fun i hi => absurd hi (by omega), (fun _ x hx => by cases hx), All2.nil⟩
  refine ⟨R1.size, R1.defers, R1.below, fun t' => ?_, R1.objs, R1.apart, R1.own, R1.back⟩
  show C2 _ (upd t (.own d) _ t') _
  by_cases e' : t' = t
  · subst e'
    have h0 := R.tmps t'
    rw [ht] at h0
    have h0 := C2.inv_v h0
    simp only [upd, Nat.beq_refl, cond_true]
    show a.tmps.getD t' undef = reρ ρ d (.slice none 0 0) d
    rw [h0]
    simp [reρ]
  · simp only [upd, beq_false e', cond_false]
    exact R1.tmps t'

theorem ofL_filt (lv : Nat) : ∀ (l : List (Nat × AV)) (t : Nat), ofL (filt lv l) t = bif bitB lv t then ofL l t else .junk
  | [], t => by simp [filt, ofL]
  | (k, v) :: l, t => by
    have ih := ofL_filt lv l t
    simp only [filt]
    cases hk : bitB lv k with
    | true =>
      simp only [cond_true, ofL]
      cases hb : Nat.beq t k with
      | true =>
        obtain rfl := Nat.eq_of_beq_eq_true hb
        rw [hk]
        rfl
      | false => exact ih
    | false =>
      simp only [cond_false, ofL]
      rw [ih]
      cases hb : Nat.beq t k with
      | true =>
        obtain rfl := Nat.eq_of_beq_eq_true hb
        rw [hk]
        rfl
      | false => rfl
theorem Rel.keepSl (R : Rel g N bs ρ a w st) (lv : Nat) : Rel g N bs ρ a w (st.keepSl lv) := by
  refine ⟨R.size, R.defers, R.below, fun t => ?_, R.objs, R.apart, R.own, R.back⟩
  have := R.tmps t
  show C2 _ (ofL (filt lv st.sl) t) _
  rw [ofL_filt]
  cases bitB lv t with
  | true => exact this
  | false => trivial

theorem loop_snd {c : Code} {body : (AExit → AS → Prop) → AS → Prop} (hc : ∀ {Q : AExit → AS → Prop} {E : Exit → Act → World → Prop} {ρ : Nat → Value} {a : Act} {w : World} {st : AS}, qOf g N bs Q E → Rel g N bs ρ a w st → body Q st → c.wp P E a w) {Q : AExit → AS → Prop} {E : Exit → Act → World → Prop} (hq : qOf g N bs Q E) {st : AS} (h : ALoop body Q st) :
    ∀ {ρ : Nat → Value} {a : Act} {w : World}, Rel g N bs ρ a w st → (Code.loop c).wp P E a w := by
  induction h with
  | nil t d e s f ht hs h ih => exact fun R => ih (R.nilRow t d e s f ht hs)
  | frz id hf h ih => exact fun R => ih (R.freeze hf).1
  | rounds n h =>
    intro ρ a w R
    refine wp_loop_rounds n ?_
    have key : ∀ n {ρ : Nat → Value} {a : Act} {w : World} {st : AS}, Rel g N bs ρ a w st → aunroll body Q n st → Code.rounds P c E n a w := by
      intro n
      induction n with
      | zero => intro ρ a w st R h; exact h.elim
      | succ n ih =>
        intro ρ a w st R h
        rw [rounds_succ]
        refine hc (Q := fun e st' => match e with | .normal => aunroll body Q n st' | .exit i => Q (.exit i) st' | .ret => Q .ret st') ⟨?_, ?_, ?_⟩ R h
        · intro ρ a w st R h; exact ih R h
        · intro i ρ a w st R h; exact hq.2.1 i ρ a w st R h
        · intro ρ a w st R h; exact hq.2.2 ρ a w st R h
    exact key n R h
  | mk X S m x0 σ h0 hb =>
    intro ρ a w R
    have hex : ∀ a w, (∃ x ρ, Rel g N bs ρ a w (S x)) → ∃ n, ∃ x ρ, Rel g N bs ρ a w (S x) ∧ m x = n := fun a w ⟨x, ρ, h⟩ => ⟨m x, x, ρ, h, rfl⟩
    refine wp_loop (fun a w => ∃ x ρ, Rel g N bs ρ a w (S x)) (fun a w => least (fun n => ∃ x ρ, Rel g N bs ρ a w (S x) ∧ m x = n)) (by obtain ⟨ρ', R'⟩ := R.lessR h0; exact ⟨x0, ρ', R'⟩) ?_
    intro a w hI
    obtain ⟨x, ρ, Rx, hx⟩ := least_spec (hex a w hI)
    refine hc (Q := fun e st' => match e with | .normal => ∃ y σ, LeR σ st' (S y) ∧ m y < m x | .exit i => Q (.exit i) st' | .ret => Q .ret st') ⟨?_, ?_, ?_⟩ Rx (hb x)
    · rintro ρ' a' w' st' R' ⟨y, σ, hy, hlt⟩
      obtain ⟨ρy, Ry⟩ := R'.lessR hy
      refine ⟨⟨y, ρy, Ry⟩, ?_⟩
      have := least_le (p := fun n => ∃ x ρ, Rel g N bs ρ a' w' (S x) ∧ m x = n) ⟨y, ρy, Ry, rfl⟩
      omega
    · intro i ρ a w st R h; exact hq.2.1 i ρ a w st R h
    · intro ρ a w st R h; exact hq.2.2 ρ a w st R h

theorem awpS_snd (hL : LayOk P L) {W : Walk} (hW : WOk P W) (lv : Nat) : ∀ (c : Code) {Q : AExit → AS → Prop} {E : Exit → Act → World → Prop} {ρ : Nat → Value} {a : Act} {w : World} {st : AS}, qOf g N bs Q E → Rel g N bs ρ a w st → awpS P L W N lv c Q st → c.wp P E a w
  | .skip, Q, E, ρ, a, w, st, hq, R, h => wp_skip (hq.1 _ _ _ _ R h)
  | .region id ops draw, Q, E, ρ, a, w, st, hq, R, h => by
    cases draw with
    | true =>
      have h : ADraw P L W N id ops (fun st' => nrm lv st' (Q .normal)) st := h
      cases h with
      | quiet hm hB hqq h =>
        refine wp_region_quiet (C := fun w' => w' = w.drew) hm hB rfl ?_
        have R' : Rel g N bs ρ a w.drew st := R.world (Below.refl _ _).drew
        exact awpQ_snd hL (E := fun a w => E .normal a w) (ops := ops.toList) (fun a w1 st R h => hq.1 _ a w1 _ (R.keepSl lv) (nrm_eq lv st (Q .normal) ▸ h)) ops.toList hqq R' h
      | sem h => exact h g bs ρ a w E R (fun ρ a w st R h => hq.1 ρ a w _ (R.keepSl lv) (nrm_eq lv st (Q .normal) ▸ h))
    | false =>
      have h : awpL P L W N ops.toList (fun st' => nrm lv st' (Q .normal)) ops.toList st := h
      refine wp_region_list ?_
      have := awpL_snd (QQ := E) hL hW (fun a w ρ st R h => hq.1 ρ a w _ (R.keepSl lv) (nrm_eq lv st (Q .normal) ▸ h)) ops.toList R h
      simpa using this
  | .seq x y, Q, E, ρ, a, w, st, hq, R, h => by
    refine wp_seq (awpS_snd hL hW lv x (Q := fun e st' => match e with | .normal => awpS P L W N lv y Q st' | .exit i => Q (.exit i) st' | .ret => Q .ret st') ⟨?_, ?_, ?_⟩ R h)
    · intro ρ a w st R h; exact awpS_snd hL hW lv y hq R h
    · intro i ρ a w st R h; exact hq.2.1 i ρ a w st R h
    · intro ρ a w st R h; exact hq.2.2 ρ a w st R h
  | .cond c x y, Q, E, ρ, a, w, st, hq, R, h => by
    simp only [awpS] at h
    split at h
    · rename_i t et
      have hc := R.ev c
      rw [et] at hc
      have hc := C2.inv_v hc
      cases t with
      | true => exact wp_cond hc (by simpa using awpS_snd hL hW lv x hq R h)
      | false => exact wp_cond hc (by simpa using awpS_snd hL hW lv y hq R h)
    · exact h.elim
  | .block id c, Q, E, ρ, a, w, st, hq, R, h => by
    refine wp_block (awpS_snd hL hW lv c (Q := fun e st' => match e with | .normal => Q .normal st' | .exit i => (bif Nat.beq i id then Q .normal st' else Q (.exit i) st') | .ret => Q .ret st') ⟨?_, ?_, ?_⟩ R h)
    · intro ρ a w st R h; exact hq.1 ρ a w st R h
    · intro i ρ a w st R h
      dsimp only at h
      show Exit.inBlock id E (.exit i) a w
      simp only [Exit.inBlock]
      cases hb : Nat.beq i id with
      | true =>
        rw [hb] at h
        rw [if_pos (Nat.eq_of_beq_eq_true hb)]
        exact hq.1 ρ a w st R h
      | false =>
        rw [hb] at h
        rw [if_neg (fun e => by rw [e] at hb; simp at hb)]
        exact hq.2.1 i ρ a w st R h
    · intro ρ a w st R h; exact hq.2.2 ρ a w st R h
  | .loop c, Q, E, ρ, a, w, st, hq, R, h => loop_snd (body := awpS P L W N lv c) (fun hq R h => awpS_snd hL hW lv c hq R h) hq h R
  | .exit id, Q, E, ρ, a, w, st, hq, R, h => wp_exit (hq.2.1 id ρ a w st R h)
  | .ret, Q, E, ρ, a, w, st, hq, R, h => wp_ret (hq.2.2 ρ a w st R h)
  | .rangeFunc .., _, _, _, _, _, _, _, _, h => h.elim
  | .scope _, _, _, _, _, _, _, _, _, h => h.elim
  | .label _, _, _, _, _, _, _, _, _, h => h.elim
  | .goto _, _, _, _, _, _, _, _, _, h => h.elim
  | .refuse _, _, _, _, _, _, _, _, _, h => h.elim

theorem awp_snd (hL : LayOk P L) : ∀ n, WOk P (awp P L n)
  | 0 => fun _ _ _ _ _ _ _ _ _ _ _ _ _ h => h.elim
  | n + 1 => fun _ _ lv _ c _ _ _ _ _ _ hq R h => awpS_snd hL (awp_snd hL n) lv c hq R h
end

end Go.Proofs.Ytbmojelnkldecaa
