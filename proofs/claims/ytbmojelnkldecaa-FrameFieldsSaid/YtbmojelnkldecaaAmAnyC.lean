/-
  The abstract machine: the walk of a region that draws its order: ADraw.any.
-/
import Derived.Test.YtbmojelnkldecaaAmAnyB
namespace Go.Proofs.Ytbmojelnkldecaa
open Go.RowKit

def operandsL : Op → Option (List Operand)
  | .alloc _ => some []
  | .move x => some [x]
  | .assign x => some [x]
  | .box _ x => some [x]
  | .load _ x => some [x]
  | .nilCheck x => some [x]
  | .unOp _ _ x => some [x]
  | .convert _ _ x => some [x]
  | .sliceToArrayPointer _ x => some [x]
  | .fieldAddr _ x _ => some [x]
  | .field _ x _ => some [x]
  | .extract x _ => some [x]
  | .pick c a b => some [c, a, b]
  | .build _ ps => some (ps.toList.map (·.2))
  | .buildSlice _ _ ps => some (ps.toList.map (·.2))
  | .store _ a v => some [a, v]
  | .binOp _ _ a v _ => some [a, v]
  | .indexAddr _ a v => some [a, v]
  | .index _ a v => some [a, v]
  | .slice _ x l h m => some ([x] ++ l.toList ++ h.toList ++ m.toList)
  | .makeFunc _ f c => some (f.toList ++ c.toList)
  | .call { callee := .builtin _, args := xs, .. } => some xs.toList
  | .call { callee := .value f, args := xs, .. } => some (f :: xs.toList)
  | _ => none

theorem operandsL_ok {o : Op} {l : List Operand} (h : operandsL o = some l) : o.operands.toList = l := by
  unfold operandsL at h
  split at h <;> simp only [Option.some.injEq, reduceCtorEq] at h <;> subst h <;> simp [Op.operands, Call.operands]

def tmpIn (d : Nat) : List Operand → Bool
  | [] => false
  | .tmp t :: l => Nat.beq t d || tmpIn d l
  | _ :: l => tmpIn d l
theorem tmpIn_ok {d : Nat} : ∀ {l : List Operand}, tmpIn d l = false → ∀ t, t ∈ (l.filterMap fun | .tmp t => some t | _ => none) → t ≠ d
  | [], _, t, ht => by simp at ht
  | x :: l, h, t, ht => by
    cases x with
    | tmp t' =>
      simp only [tmpIn, Bool.or_eq_false_iff] at h
      simp only [List.filterMap_cons, List.mem_cons] at ht
      rcases ht with rfl | ht
      · exact fun e => by rw [e] at h; simp at h
      · exact tmpIn_ok h.2 t ht
    | _ => exact tmpIn_ok (l := l) h t (by simpa using ht)

def looksB (ops : List Oper) (o : Oper) (d : Nat) : Bool :=
  (match operandsL o.op with | some l => tmpIn d l | none => true) ||
  (match o.guard with
   | some (j, _) => (match ops[j]? with | some oj => (match oj.dst with | some t => Nat.beq t d | none => false) | none => false)
   | none => false)

theorem looksB_ok {ops : List Oper} {o : Oper} {d : Nat} (h : looksB ops o d = false) : (o.looksAt ops.toArray).contains d = false := by
  simp only [looksB, Bool.or_eq_false_iff] at h
  obtain ⟨h1, h2⟩ := h
  rw [Bool.eq_false_iff]
  intro hc
  have hm : d ∈ o.looksAt ops.toArray := by simpa using hc
  unfold Oper.looksAt at hm
  rcases List.mem_append.1 hm with hm | hm
  · cases hl : operandsL o.op with
    | none => rw [hl] at h1; cases h1
    | some l =>
      rw [hl] at h1
      rw [operandsL_ok hl] at hm
      exact tmpIn_ok h1 d hm rfl
  · cases hg : o.guard with
    | none => rw [hg] at hm; simp at hm
    | some gd =>
      obtain ⟨j, wnt⟩ := gd
      rw [hg] at hm h2
      simp only [List.getElem?_toArray, Option.mem_toList] at hm
      dsimp only at h2
      cases hj : ops[j]? with
      | none => rw [hj] at hm; simp at hm
      | some oj =>
        rw [hj] at hm h2
        simp only [Option.bind_some] at hm
        dsimp only at h2
        rw [hm] at h2
        simp at h2

def dstIs (o : Oper) (d : Nat) : Bool := match o.dst with | some t => Nat.beq t d | none => false

def apartB (ops : List Oper) (x y : Oper) : Bool :=
  (match x.dst with | some d => !(looksB ops y d) && !(dstIs y d) | none => true) &&
  (match y.dst with | some d => !(looksB ops x d) | none => true)

theorem apartB_ok {ops : List Oper} {x y : Oper} (h : apartB ops x y = true) : x.apart ops.toArray y = true := by
  simp only [apartB, Bool.and_eq_true] at h
  obtain ⟨h1, h2⟩ := h
  unfold Oper.apart
  rw [Bool.and_eq_true]
  constructor
  · cases hx : x.dst with
    | none => rfl
    | some d =>
      rw [hx] at h1
      simp only [Bool.and_eq_true, Bool.not_eq_true'] at h1
      dsimp only
      rw [looksB_ok h1.1]
      have h3 := h1.2
      unfold dstIs at h3
      cases hy : y.dst with
      | none => rfl
      | some t =>
        rw [hy] at h3
        have : t ≠ d := fun e => by rw [e] at h3; simp at h3
        simp [this]
  · cases hy : y.dst with
    | none => rfl
    | some d =>
      rw [hy] at h2
      simp only [Bool.not_eq_true'] at h2
      dsimp only
      rw [looksB_ok h2]
      rfl

def memB (k : Nat) : List Nat → Bool
  | [] => false
  | j :: l => Nat.beq j k || memB k l

/-- Which operations have come up. -/
def Lst (n : Nat) (done : List Nat) (listed : Array Bool) : Prop := listed.size = n ∧ ∀ k, k < n → listed[k]? = some (memB k done)

theorem Lst.getF {n : Nat} {done : List Nat} {listed : Array Bool} (h : Lst n done listed) {k : Nat} (hk : k < n) (d : Bool) : listed.getD k d = memB k done := by
  have := h.2 k hk
  rw [Array.getD_eq_getD_getElem?, this]
  rfl
theorem Lst.set {n : Nat} {done : List Nat} {listed : Array Bool} (h : Lst n done listed) {i : Nat} (hi : i < n) : Lst n (i :: done) (listed.setIfInBounds i true) := by
  refine ⟨by simp [h.1], fun k hk => ?_⟩
  rw [Array.getElem?_setIfInBounds]
  by_cases e : i = k
  · subst e
    simp [h.1, hi, memB]
  · rw [if_neg e, h.2 k hk]
    simp [memB, beq_false e]

/-- All that comes before it has come up. -/
def edgesB (n : Nat) (done : List Nat) : List Edge → Bool
  | [] => true
  | e :: l => (!(Region.binds .any e) || (Nat.ble (e.on + 1) n && memB e.on done)) && edgesB n done l
theorem edgesB_ok {n : Nat} {done : List Nat} {listed : Array Bool} (h : Lst n done listed) : ∀ {l : List Edge}, edgesB n done l = true ↔ ∀ e ∈ l, Region.binds .any e = true → listed.getD e.on false = true
  | [] => by simp [edgesB]
  | e :: l => by
    simp only [edgesB, Bool.and_eq_true, Bool.or_eq_true, Bool.not_eq_true', edgesB_ok h (l := l), List.mem_cons, forall_eq_or_imp]
    refine and_congr ⟨fun h1 hb => ?_, fun h1 => ?_⟩ Iff.rfl
    · rcases h1 with h1 | ⟨h1, h2⟩
      · rw [hb] at h1; cases h1
      · rw [h.getF (Nat.le_of_ble_eq_true h1)]; exact h2
    · cases hb : Region.binds .any e with
      | false => exact .inl rfl
      | true =>
        have h2 := h1 hb
        have hlt : e.on < n := by
          rcases Nat.lt_or_ge e.on n with h' | h'
          · exact h'
          · rw [Array.getD_eq_getD_getElem?, Array.getElem?_eq_none (by rw [h.1]; exact h')] at h2; cases h2
        exact .inr ⟨Nat.ble_eq_true_of_le hlt, by rw [← h.getF hlt false]; exact h2⟩

def rdyFrom (n : Nat) (done : List Nat) : Nat → List Oper → List Nat
  | _, [] => []
  | k, o :: r => bif !(memB k done) && edgesB n done o.after.toList then k :: rdyFrom n done (k + 1) r else rdyFrom n done (k + 1) r

theorem rdyFrom_mem {n : Nat} {done : List Nat} {j : Nat} : ∀ {l : List Oper} {k : Nat}, j ∈ rdyFrom n done k l ↔ ∃ i o, j = k + i ∧ l[i]? = some o ∧ memB j done = false ∧ edgesB n done o.after.toList = true
  | [], k => by simp [rdyFrom]
  | o :: l, k => by
    have ih := rdyFrom_mem (n := n) (done := done) (j := j) (l := l) (k := k + 1)
    have key : (∃ i o', j = k + i ∧ (o :: l)[i]? = some o' ∧ memB j done = false ∧ edgesB n done o'.after.toList = true) ↔ (j = k ∧ memB j done = false ∧ edgesB n done o.after.toList = true) ∨ j ∈ rdyFrom n done (k + 1) l := by
      rw [ih]
      constructor
      · rintro ⟨i, o', h1, h2, h3⟩
        cases i with
        | zero => simp only [List.getElem?_cons_zero, Option.some.injEq] at h2; subst h2; exact .inl ⟨h1, h3⟩
        | succ i => exact .inr ⟨i, o', by omega, by simpa using h2, h3⟩
      · rintro (⟨h1, h3⟩ | ⟨i, o', h1, h2, h3⟩)
        · exact ⟨0, o, by omega, rfl, h3⟩
        · exact ⟨i + 1, o', by omega, by simpa using h2, h3⟩
    rw [key]
    simp only [rdyFrom]
    cases hb : (!(memB k done) && edgesB n done o.after.toList) with
    | true =>
      simp only [Bool.and_eq_true, Bool.not_eq_true'] at hb
      simp only [cond_true, List.mem_cons]
      constructor
      · rintro (rfl | h)
        · exact .inl ⟨rfl, hb⟩
        · exact .inr h
      · rintro (h | h)
        · exact .inl h.1
        · exact .inr h
    | false =>
      simp only [cond_false]
      constructor
      · exact .inr
      · rintro (⟨rfl, h1, h2⟩ | h)
        · rw [h1, h2] at hb; cases hb
        · exact h

theorem ready_iff {ops : List Oper} {done : List Nat} {listed : Array Bool} (h : Lst ops.length done listed) {j : Nat} : j ∈ Region.ready .any ops.toArray listed ↔ j ∈ rdyFrom ops.length done 0 ops := by
  rw [mem_ready, rdyFrom_mem]
  constructor
  · rintro ⟨h1, o, h2, h3⟩
    have h2 : ops[j]? = some o := by simpa using h2
    have hlt : j < ops.length := (List.getElem?_eq_some_iff.1 h2).1
    exact ⟨j, o, by omega, h2, by rw [← h.getF hlt true]; exact h1, (edgesB_ok h).2 fun e he => h3 e (by simpa using he)⟩
  · rintro ⟨i, o, h1, h2, h3, h4⟩
    obtain rfl : j = i := by omega
    have hlt : j < ops.length := (List.getElem?_eq_some_iff.1 h2).1
    exact ⟨by rw [h.getF hlt]; exact h3, o, by simpa using h2, fun e he => (edgesB_ok h).1 h4 e (by simpa using he)⟩

def waitsB (i : Nat) : List Edge → Bool
  | [] => false
  | e :: l => (Region.binds .any e && Nat.beq e.on i) || waitsB i l
theorem waitsB_ok {i : Nat} : ∀ {l : List Edge}, waitsB i l = true → ∃ e ∈ l, Region.binds .any e = true ∧ e.on = i
  | [], h => by cases h
  | e :: l, h => by
    simp only [waitsB, Bool.or_eq_true, Bool.and_eq_true] at h
    rcases h with ⟨h1, h2⟩ | h
    · exact ⟨e, List.mem_cons_self, h1, Nat.eq_of_beq_eq_true h2⟩
    · obtain ⟨e', h1, h2⟩ := waitsB_ok h
      exact ⟨e', List.mem_cons_of_mem _ h1, h2⟩

def freeB (ops : List Oper) (done : List Nat) (i : Nat) (oi : Oper) : Nat → List Oper → Bool
  | _, [] => true
  | k, o :: r => (Nat.beq k i || memB k done || waitsB i o.after.toList || apartB ops oi o) && freeB ops done i oi (k + 1) r
theorem freeB_ok {ops : List Oper} {done : List Nat} {i : Nat} {oi : Oper} : ∀ {l : List Oper} {k : Nat}, freeB ops done i oi k l = true → ∀ (j : Nat) (oj : Oper), l[j]? = some oj → k + j ≠ i → memB (k + j) done = false → (∀ e ∈ oj.after, Region.binds .any e = true → e.on ≠ i) → oi.apart ops.toArray oj = true
  | [], k, _, j, oj, hj => by simp at hj
  | o :: l, k, h, j, oj, hj => by
    simp only [freeB, Bool.and_eq_true, Bool.or_eq_true] at h
    obtain ⟨h1, h2⟩ := h
    intro hne hm hw
    cases j with
    | zero =>
      simp only [List.getElem?_cons_zero, Option.some.injEq] at hj
      subst hj
      rcases h1 with ((h1 | h1) | h1) | h1
      · exact absurd (Nat.eq_of_beq_eq_true h1) (by simpa using hne)
      · rw [Nat.add_zero] at hm; rw [hm] at h1; cases h1
      · obtain ⟨e, he, hb, hi⟩ := waitsB_ok h1
        exact absurd hi (hw e (by simpa using he) hb)
      · exact apartB_ok h1
    | succ j =>
      refine freeB_ok h2 j oj (by simpa using hj) (by omega) (by rw [show k + 1 + j = k + (j + 1) by omega]; exact hm) hw

/-- Whether it is to be carried out, if that is known. -/
def wantB (N : Nat) (st : AS) (ops : List Oper) (o : Oper) : Option Bool :=
  match o.guard with
  | none => some true
  | some (j, want) => match ops[j]? with
    | some oj => (match oj.dst with
      | some dj => bif Nat.ble (dj + 1) N then (match st.tmps dj with | .v (.bool b) => some (b == want) | .v (.tuple _) => some false | _ => none) else none
      | none => none)
    | none => none

def pickB (L : Lay) (N : Nat) (st : AS) (ops : List Oper) (done : List Nat) : List Nat → Option Nat
  | [] => none
  | i :: r => match ops[i]? with
    | some o => bif (match wantB N st ops o with | some true => pureAt L st o.op | some false => true | none => false) && freeB ops done i o 0 ops then some i else pickB L N st ops done r
    | none => pickB L N st ops done r

def aStep (P : Program) (L : Lay) (W : Walk) (N : Nat) (ops : List Oper) (o : Oper) (st : AS) (K : AS → Prop) : Prop :=
  match wantB N st ops o with
  | some true => aopD P L W o.dst st o.op (fun x st' => aput N st' o.dst x K)
  | some false => aput N st o.dst (.v undef) K
  | none => False

structure Both (A B : Prop) : Prop where
  one : A
  two : B

def allR (F : Nat → Prop) : List Nat → Prop
  | [] => True
  | [j] => F j
  | j :: l => Both (F j) (allR F l)
theorem allR_mem {F : Nat → Prop} : ∀ {l : List Nat}, allR F l → ∀ j ∈ l, F j
  | [], _, j, hj => by cases hj
  | [i], h, j, hj => by rw [List.mem_singleton.1 hj]; exact h
  | i :: k :: l, h, j, hj => by
    rcases List.mem_cons.1 hj with rfl | hj
    · exact h.one
    · exact allR_mem h.two j hj

def aAny (P : Program) (L : Lay) (W : Walk) (N : Nat) (n : Nat) (ops : List Oper) (Q : AS → Prop) : Nat → List Nat → AS → Prop
  | 0, done, st => (match rdyFrom n done 0 ops with | [] => Q st | _ :: _ => False)
  | f + 1, done, st => match rdyFrom n done 0 ops with
    | [] => Q st
    | i :: r => match pickB L N st ops done (i :: r) with
      | some j => (match ops[j]? with | some o => aStep P L W N ops o st (aAny P L W N n ops Q f (j :: done)) | none => False)
      | none => allR (fun j => match ops[j]? with | some o => aStep P L W N ops o st (aAny P L W N n ops Q f (j :: done)) | none => False) (i :: r)

section
variable {P : Program} {L : Lay} {g : Base} {N : Nat} {bs : List (Array Value)} {ρ : Nat → Value} {a : Act} {w : World} {st : AS}

theorem wantB_ok (R : Rel g N bs ρ a w st) {ops : List Oper} {o : Oper} {b : Bool} (h : wantB N st ops o = some b) : Region.wanted o (yielded ops.toArray a.tmps) = b := by
  obtain ⟨dst, op, ty, pos, after, guard⟩ := o
  unfold wantB at h
  cases guard with
  | none => cases h; rfl
  | some gd =>
    obtain ⟨j, want⟩ := gd
    dsimp only at h
    split at h
    · rename_i oj hoj
      split at h
      · rename_i dj hdj
        cases hb : Nat.ble (dj + 1) N with
        | false => rw [hb] at h; cases h
        | true =>
          rw [hb, cond_true] at h
          have hlt := Nat.le_of_ble_eq_true hb
          have hd := R.tmps dj
          have hget : a.tmps[dj]? = some (a.tmps.getD dj undef) := by
            have : dj < a.tmps.size := by rw [R.size]; exact hlt
            simp [this]
          have hops : ((ops.toArray[j]?).bind (·.dst)) = some dj := by simp [hoj, hdj]
          split at h
          · rename_i b' eb
            rw [eb] at hd
            have hd := C2.inv_v hd
            have hy : yielded ops.toArray a.tmps j = some b' := by
              unfold yielded
              rw [hops]
              simp only [Option.bind_some, hget, hd]
            simp only [Option.some.injEq] at h
            simp only [Region.wanted, hy]
            rw [← h]
            cases b' <;> cases want <;> rfl
          · rename_i vs eb
            rw [eb] at hd
            have hd := C2.inv_v hd
            have hy : yielded ops.toArray a.tmps j = none := by
              unfold yielded
              rw [hops]
              simp only [Option.bind_some, hget, hd]
            cases h
            simp only [Region.wanted, hy]
            rfl
          · cases h
      · cases h
    · cases h

theorem pickB_ok {ops : List Oper} {done : List Nat} {j : Nat} : ∀ {l : List Nat}, pickB L N st ops done l = some j → j ∈ l ∧ ∃ o, ops[j]? = some o ∧ freeB ops done j o 0 ops = true ∧ ((wantB N st ops o = some true ∧ pureAt L st o.op = true) ∨ wantB N st ops o = some false)
  | [], h => by cases h
  | i :: r, h => by
    have rest : pickB L N st ops done r = some j → j ∈ i :: r ∧ ∃ o, ops[j]? = some o ∧ freeB ops done j o 0 ops = true ∧ ((wantB N st ops o = some true ∧ pureAt L st o.op = true) ∨ wantB N st ops o = some false) := fun h =>
      ⟨List.mem_cons_of_mem _ (pickB_ok h).1, (pickB_ok h).2⟩
    simp only [pickB] at h
    cases ho : ops[i]? with
    | none => rw [ho] at h; exact rest h
    | some o =>
      rw [ho] at h
      dsimp only at h
      cases hw : wantB N st ops o with
      | none => rw [hw] at h; exact rest h
      | some b =>
        rw [hw] at h
        cases b with
        | true =>
          dsimp only at h
          cases hb : (pureAt L st o.op && freeB ops done i o 0 ops) with
          | false => rw [hb] at h; exact rest h
          | true =>
            rw [hb] at h
            simp only [cond_true, Option.some.injEq] at h
            subst h
            simp only [Bool.and_eq_true] at hb
            exact ⟨List.mem_cons_self, o, ho, hb.2, .inl ⟨hw, hb.1⟩⟩
        | false =>
          dsimp only at h
          cases hb : (true && freeB ops done i o 0 ops) with
          | false => rw [hb] at h; exact rest h
          | true =>
            rw [hb] at h
            simp only [cond_true, Option.some.injEq] at h
            subst h
            simp only [Bool.true_and] at hb
            exact ⟨List.mem_cons_self, o, ho, hb, .inr hw⟩

theorem aAny_snd (hL : LayOk P L) {W : Walk} (hW : WOk P W) {ops : List Oper} (hs : Region.noSelect ops.toArray = true) {Q : AS → Prop} {E : Exit → Act → World → Prop} (hE : ∀ e a w, e ≠ .normal → ¬ E e a w) (hQ : ∀ ρ a w st, Rel g N bs ρ a w st → Q st → E .normal a w) :
    ∀ (f : Nat) {done : List Nat} {listed : Array Bool} {ρ : Nat → Value} {a : Act} {w : World} {st : AS}, Lst ops.length done listed → Rel g N bs ρ a w st → aAny P L W N ops.length ops Q f done st → wpAny P .any ops.toArray E f listed a w
  | 0, done, listed, ρ, a, w, st, hl, R, h => by
    simp only [aAny] at h
    split at h
    · rename_i e
      refine ⟨?_, hQ _ _ _ _ R h⟩
      cases hr : Region.ready .any ops.toArray listed with
      | nil => rfl
      | cons j r =>
        have : j ∈ rdyFrom ops.length done 0 ops := (ready_iff hl).1 (by rw [hr]; exact List.mem_cons_self)
        rw [e] at this
        cases this
    · exact h.elim
  | f + 1, done, listed, ρ, a, w, st, hl, R, h => by
    have ih := @aAny_snd hL W hW ops hs Q E hE hQ f
    simp only [aAny] at h
    split at h
    · rename_i e
      have hr : Region.ready .any ops.toArray listed = [] := by
        cases hr : Region.ready .any ops.toArray listed with
        | nil => rfl
        | cons j r =>
          have : j ∈ rdyFrom ops.length done 0 ops := (ready_iff hl).1 (by rw [hr]; exact List.mem_cons_self)
          rw [e] at this
          cases this
      exact wpAny_done hr (hQ _ _ _ _ R h) _
    · rename_i i r e
      have hne : Region.ready .any ops.toArray listed ≠ [] := fun h0 => by
        have : i ∈ Region.ready .any ops.toArray listed := (ready_iff hl).2 (by rw [e]; exact List.mem_cons_self)
        rw [h0] at this
        cases this
      split at h
      · rename_i j hp
        obtain ⟨hm, o, ho, hf, hw⟩ := pickB_ok hp
        rw [ho] at h
        dsimp only at h
        have hlt : j < ops.length := (List.getElem?_eq_some_iff.1 ho).1
        have hr : j ∈ Region.ready .any ops.toArray listed := (ready_iff hl).2 (by rw [e]; exact hm)
        have hoA : ops.toArray[j]? = some o := by simpa using ho
        have hfree : ∀ j' oj, ops.toArray[j']? = some oj → j' ≠ j → listed.getD j' true = false → (∀ e ∈ oj.after, Region.binds .any e = true → e.on ≠ j) → o.apart ops.toArray oj = true := by
          intro j' oj h1 h2 h3 h4
          have h1' : ops[j']? = some oj := by simpa using h1
          have hlt' : j' < ops.length := (List.getElem?_eq_some_iff.1 h1').1
          refine freeB_ok hf j' oj h1' (by omega) ?_ h4
          rw [Nat.zero_add, ← hl.getF hlt' true]
          exact h3
        have take : ∀ {v : Value}, Yields P ops.toArray o v a → wpAny P .any ops.toArray E f (listed.setIfInBounds j true) (a.put o.dst v) w → wpAny P .any ops.toArray E (f + 1) listed a w :=
          fun hy H => wpAny_first hoA (Region.noSelect_spec hs) (fun c a w h => absurd h (hE _ _ _ (by simp))) f listed a w hfree hr hy H
        unfold aStep at h
        rcases hw with ⟨hw, hpu⟩ | hw
        · rw [hw] at h
          dsimp only at h
          have go : ∀ d, aop P L W d st o.op (fun x st' => aput N st' o.dst x (aAny P L W N ops.length ops Q f (j :: done))) → wpAny P .any ops.toArray E (f + 1) listed a w := by
            intro d hd
            obtain ⟨x, u, st', h1, R1, h2, h3⟩ := aop_pure hL R hpu hd
            obtain ⟨st2, k2, R2⟩ := aput_snd R1 h2 h1
            exact take (.inl ⟨wantB_ok R hw, h3⟩) (ih (hl.set hlt) R2 k2)
          unfold aopD at h
          cases hd : o.dst with
          | none => rw [hd] at h; dsimp only at h; exact go 0 (by rw [hd]; exact h)
          | some d => rw [hd] at h; dsimp only at h; exact go d (by rw [hd]; exact h)
        · rw [hw] at h
          dsimp only at h
          obtain ⟨st2, k2, R2⟩ := aput_snd R (show C2 (cxOf g w ρ st.heap) (.v undef) undef from rfl) h
          exact take (.inr ⟨wantB_ok R hw, rfl⟩) (ih (hl.set hlt) R2 k2)
      · rw [← e] at h
        refine ⟨fun h0 => absurd h0 hne, fun j hj => ?_⟩
        have hjm := (ready_iff hl).1 hj
        have hF := allR_mem h j hjm
        cases ho : ops[j]? with
        | none => rw [ho] at hF; exact hF.elim
        | some o =>
          rw [ho] at hF
          dsimp only at hF
          have hlt : j < ops.length := (List.getElem?_eq_some_iff.1 ho).1
          have hoA : ops.toArray[j]? = some o := by simpa using ho
          unfold wpOp
          rw [hoA]
          dsimp only
          unfold aStep at hF
          split at hF
          · rename_i hw
            rw [wantB_ok R hw]
            simp only [if_true]
            refine .inl ?_
            have go : ∀ d, aop P L W d st o.op (fun x st' => aput N st' o.dst x (aAny P L W N ops.length ops Q f (j :: done))) → o.wp P a w (wpAny P .any ops.toArray E f (listed.setIfInBounds j true)) E := by
              intro d hd
              refine aop_snd hL hW R (d := d) hd ?_
              intro x st' u ρ' w' hx R' hc
              obtain ⟨st2, h2, R2⟩ := aput_snd R' hc hx
              exact ih (hl.set hlt) R2 h2
            unfold aopD at hF
            cases hd : o.dst with
            | none => rw [hd] at hF; dsimp only at hF; exact go 0 (by rw [hd]; exact hF)
            | some d => rw [hd] at hF; dsimp only at hF; exact go d (by rw [hd]; exact hF)
          · rename_i hw
            rw [wantB_ok R hw]
            simp only [Bool.false_eq_true, if_false]
            obtain ⟨st2, k2, R2⟩ := aput_snd R (show C2 (cxOf g w ρ st.heap) (.v undef) undef from rfl) hF
            exact ih (hl.set hlt) R2 k2
          · exact hF.elim

/-- A region that draws its order and acts: what asks nothing of the memory is taken first, else every order is walked. -/
theorem ADraw.any (hL : LayOk P L) {W : Walk} (hW : WOk P W) {id : Nat} {ops : Array Oper} {K : AS → Prop} {st : AS} (hm : P.follows .mixedOrders = true) (hs : Region.noSelect ops = true) (h : aAny P L W N ops.toList.length ops.toList K ops.toList.length [] st) : ADraw P L W N id ops K st := by
  refine .sem fun g bs ρ a w E R hK => ?_
  refine Code.wp_mono (Q := fun e a w => e = .normal ∧ E .normal a w) (fun e a w h => by obtain ⟨rfl, h⟩ := h; exact h) ?_
  have e1 : ops.size = ops.toList.length := by simp
  refine wp_region_any hm ?_
  have hl : Lst ops.toList.length [] (Array.replicate ops.size false) := by
    refine ⟨by simp, fun k hk => ?_⟩
    rw [Array.getElem?_replicate, if_pos (by rw [e1]; exact hk)]
    rfl
  have R' : Rel g N bs ρ a w.drew st := R.world (Below.refl _ _).drew
  have := aAny_snd (g := g) (bs := bs) (N := N) hL hW (ops := ops.toList) (by simpa using hs) (Q := K) (E := fun e a w => e = .normal ∧ E .normal a w) (fun e a w hne h => hne h.1) (fun ρ a w st R h => ⟨rfl, hK ρ a w st R h⟩) ops.toList.length hl R' h
  rw [e1]
  simpa using this

/-- The same, cut: what is known behind it is S. -/
theorem ADraw.cut (hL : LayOk P L) {W : Walk} (hW : WOk P W) {id : Nat} {ops : Array Oper} {K : AS → Prop} {st : AS} (S : AS) (hm : P.follows .mixedOrders = true) (hs : Region.noSelect ops = true) (h : aAny P L W N ops.toList.length ops.toList (fun st' => LeS st' S) ops.toList.length [] st) (hK : K S) : ADraw P L W N id ops K st := by
  have := ADraw.any (P := P) (L := L) (N := N) (id := id) hL hW hm hs h
  cases this with
  | quiet hm hB hq h =>
    refine .sem fun g bs ρ a w E R hE => ?_
    refine wp_region_quiet (C := fun w' => w' = w.drew) hm hB rfl ?_
    have R' : Rel g N bs ρ a w.drew st := R.world (Below.refl _ _).drew
    exact awpQ_snd hL (E := fun a w => E .normal a w) (ops := ops.toList) (fun a w1 st R h => hE _ _ _ _ (R.less h) hK) ops.toList hq R' h
  | sem h => exact .sem fun g bs ρ a w E R hE => h g bs ρ a w E R fun ρ a w st R h => hE _ _ _ _ (R.less h) hK
end
end Go.Proofs.Ytbmojelnkldecaa
