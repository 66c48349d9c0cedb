/-
  The abstract machine: a region walked by a schedule: the check of the schedule, the walk, and that it is right: ADraw.sched.
-/
import Derived.Test.YtbmojelnkldecaaAmSch
namespace Go.Proofs.Ytbmojelnkldecaa
open Go.RowKit

/-! ### The schedule's check (all of it is reckoned by the kernel) -/
def edgeIs (p : Nat) : List Edge → Bool
  | [] => false
  | e :: l => (Region.binds .any e && Nat.beq e.on p) || edgeIs p l
def edgeVia (U : List (Nat × List Nat)) (p : Nat) : List Edge → Bool
  | [] => false
  | e :: l => (Region.binds .any e && U.any (fun x => Nat.beq x.1 e.on && memB p x.2)) || edgeVia U p l
def closB (ops : List Oper) (U : List (Nat × List Nat)) : Bool :=
  U.all fun x => match ops[x.1]? with | some o => x.2.all fun p => edgeIs p o.after.toList || edgeVia U p o.after.toList | none => false

def free2B (ops : List Oper) (done : List Nat) (i : Nat) (oi : Oper) : Nat → List Oper → Bool
  | _, [] => true
  | k, o :: r => (Nat.beq k i || memB k done || ((match oi.dst with | some d => !(dstIs o d) | none => true) && (waitsB i o.after.toList || ((match o.dst with | some d => !(looksB ops oi d) | none => true) && (match oi.dst with | some d => !(looksB ops o d) | none => true))))) && free2B ops done i oi (k + 1) r

def blindB (ops : List Oper) (done : List Nat) (i : Nat) (oi : Oper) : Nat → List Oper → Bool
  | _, [] => true
  | k, o :: r => (Nat.beq k i || memB k done || (match o.dst with | some d => !(looksB ops oi d) | none => true)) && blindB ops done i oi (k + 1) r
/-- Operations that ask nothing of the memory, whatever they are given. -/
def freeOp : Op → Bool
  | .move _ => true
  | .assign _ => true
  | .pick .. => true
  | .extract .. => true
  | .fieldAddr .. => true
  | .indexAddr .. => true
  | .unOp .. => true
  | .build .. => true
  | _ => false

def actsOf : List (Nat × Option (List Nat)) → List (Nat × List Nat)
  | [] => []
  | (i, some l) :: r => (i, l) :: actsOf r
  | (_, none) :: r => actsOf r

def isOne (i : Nat) : List Nat → Bool
  | [k] => Nat.beq k i
  | _ => false
def nilB : List Nat → Bool
  | [] => true
  | _ => false

def schB (ops : List Oper) (T : List (Nat × List Nat)) : List (Nat × Option (List Nat)) → List Nat → Bool
  | [], done => nilB (rdyFrom ops.length done 0 ops)
  | (i, none) :: r, done => (match ops[i]? with
    | some o => memB i (rdyFrom ops.length done 0 ops) && free2B ops done i o 0 ops && (freeOp o.op || blindB ops done i o 0 ops) && (match o.dst with | some d => !(looksB ops o d) | none => false) && !(T.any fun x => Nat.beq x.1 i)
    | none => false) && schB ops T r (i :: done)
  | (i, some _) :: r, done => isOne i (rdyFrom ops.length done 0 ops) && schB ops T r (i :: done)

def subT : List (Nat × List Nat) → List (Nat × List Nat) → Bool
  | [], _ => true
  | x :: T, U => U.any (fun y => Nat.beq x.1 y.1 && (x.2 == y.2)) && subT T U

def schedB (ops : List Oper) (sc : List (Nat × Option (List Nat))) (U : List (Nat × List Nat)) : Bool :=
  closB ops U && subT (actsOf sc) U && schB ops (actsOf sc) sc []

/-! ### The walk -/
def det0 : AV → Bool
  | .v _ => true
  | .own _ => true
  | .eown .. => true
  | .box .. => true
  | _ => false
def det1 : AV → Bool
  | .agg cs => cs.all det0
  | x => det0 x
/-- What is read is what was read before. -/
structure Still (A B : AV) (K : Prop) : Prop where
  mk ::
  eq : A = B
  det : det1 A = true
  k : K

def reCh (P : Program) (L : Lay) (W : Walk) (N : Nat) (ops : List Oper) : List Nat → AS → Prop → Prop
  | [], _, K => K
  | p :: r, st, K => match ops[p]? with
    | some o => (match o.dst with
      | some d => aop P L W d st o.op (fun y _ => Still y (st.tmps d) (reCh P L W N ops r st K))
      | none => False)
    | none => False

def outOf (l : List Nat) : List Nat → List Nat
  | [] => []
  | p :: r => bif memB p l then outOf l r else p :: outOf l r

def aSch (P : Program) (L : Lay) (W : Walk) (N : Nat) (ops : List Oper) (Q : AS → Prop) : List (Nat × Option (List Nat)) → List Nat → AS → Prop
  | [], _, st => Q st
  | (i, none) :: r, pend, st => match ops[i]? with
    | some o => (match wantB N st ops o with
      | some true => (match pureAt L st o.op with
        | true => aopD P L W o.dst st o.op (fun x st' => aput N st' o.dst x (aSch P L W N ops Q r pend))
        | false => (match quietB o.op with
          | true => aopD P L W o.dst st o.op (fun x st' => aput N st' o.dst x (aSch P L W N ops Q r (i :: pend)))
          | false => False))
      | some false => aput N st o.dst (.v undef) (aSch P L W N ops Q r pend)
      | none => False)
    | none => False
  | (i, some l) :: r, pend, st => match ops[i]? with
    | some o => aStep P L W N ops o st (fun st' => reCh P L W N ops (outOf l pend) st' (aSch P L W N ops Q r (outOf l pend) st'))
    | none => False

section
variable {P : Program} {L : Lay} {g : Base} {N : Nat} {bs : List (Array Value)} {ρ : Nat → Value} {a : Act} {w : World} {st : AS}

theorem det0_eq {X : CX} {y : AV} {u v : Value} (h : det0 y = true) (hu : C0 X y u) (hv : C0 X y v) : u = v := by
  cases y with
  | v x => exact Eq.trans (show u = x from hu) (show v = x from hv).symm
  | own id => exact Eq.trans (show u = X.ρ id from hu) (show v = X.ρ id from hv).symm
  | eown id s i k =>
    obtain ⟨b, n, c, h1, rfl⟩ := hu
    obtain ⟨b', n', c', h2, rfl⟩ := hv
    rw [h1] at h2
    cases h2
    rfl
  | box id off =>
    obtain ⟨b, h1, rfl⟩ := hu
    obtain ⟨b', h2, rfl⟩ := hv
    rw [h1] at h2
    cases h2
    rfl
  | _ => cases h
theorem det1_eq {X : CX} {y : AV} {u v : Value} (h : det1 y = true) (hu : C2 X y u) (hv : C2 X y v) : u = v := by
  cases y with
  | agg cs =>
    obtain ⟨us, rfl, h1⟩ := hu
    obtain ⟨vs, rfl, h2⟩ := hv
    have : us = vs := by
      apply List.ext_getElem?
      intro i
      by_cases hi : i < cs.length
      · have hx : cs[i]? = some cs[i] := List.getElem?_eq_getElem hi
        obtain ⟨u, e1, k1⟩ := h1.get hx
        obtain ⟨v, e2, k2⟩ := h2.get hx
        rw [e1, e2, det0_eq (List.all_eq_true.1 h _ (List.getElem_mem hi)) k1 k2]
      · rw [List.getElem?_eq_none (by rw [← h1.1]; omega), List.getElem?_eq_none (by rw [← h2.1]; omega)]
    rw [this]
  | v x => exact det0_eq (X := X) (y := .v x) h hu hv
  | own id => exact det0_eq (X := X) (y := .own id) h hu hv
  | eown id s i k => exact det0_eq (X := X) (y := .eown id s i k) h hu hv
  | box id off => exact det0_eq (X := X) (y := .box id off) h hu hv
  | _ => cases h

theorem edgeIs_ok {p : Nat} : ∀ {l : List Edge}, edgeIs p l = true → ∃ e ∈ l, Region.binds .any e = true ∧ e.on = p
  | [], h => by cases h
  | e :: l, h => by
    simp only [edgeIs, Bool.or_eq_true, Bool.and_eq_true] at h
    rcases h with ⟨h1, h2⟩ | h
    · exact ⟨e, List.mem_cons_self, h1, Nat.eq_of_beq_eq_true h2⟩
    · obtain ⟨e', h1, h2⟩ := edgeIs_ok h
      exact ⟨e', List.mem_cons_of_mem _ h1, h2⟩
theorem memB_ok {p : Nat} : ∀ {l : List Nat}, memB p l = true ↔ p ∈ l
  | [] => by simp [memB]
  | q :: l => by
    simp only [memB, Bool.or_eq_true, List.mem_cons, memB_ok (l := l)]
    refine or_congr ⟨fun h => (Nat.eq_of_beq_eq_true h).symm, fun h => by rw [h]; simp⟩ Iff.rfl
theorem edgeVia_ok {U : List (Nat × List Nat)} {p : Nat} : ∀ {l : List Edge}, edgeVia U p l = true → ∃ e ∈ l, Region.binds .any e = true ∧ ∃ x ∈ U, x.1 = e.on ∧ p ∈ x.2
  | [], h => by cases h
  | e :: l, h => by
    simp only [edgeVia, Bool.or_eq_true, Bool.and_eq_true, List.any_eq_true] at h
    rcases h with ⟨h1, x, hx, h2, h3⟩ | h
    · exact ⟨e, List.mem_cons_self, h1, x, hx, Nat.eq_of_beq_eq_true h2, memB_ok.1 h3⟩
    · obtain ⟨e', h1, h2⟩ := edgeVia_ok h
      exact ⟨e', List.mem_cons_of_mem _ h1, h2⟩

theorem closB_ok {ops : List Oper} {U : List (Nat × List Nat)} (h : closB ops U = true) (k : Nat) (l : List Nat) (listed : Array Bool) (hk : (k, l) ∈ U) (hC : Closed U listed) (hr : k ∈ Region.ready .any ops.toArray listed) : ∀ p ∈ l, listed.getD p false = true := by
  intro p hp
  have := List.all_eq_true.1 h _ hk
  dsimp only at this
  obtain ⟨_, o, ho, hall⟩ := mem_ready.1 hr
  have ho : ops[k]? = some o := by simpa using ho
  rw [ho] at this
  dsimp only at this
  have := List.all_eq_true.1 this p hp
  rw [Bool.or_eq_true] at this
  rcases this with h1 | h1
  · obtain ⟨e, he, hb, rfl⟩ := edgeIs_ok h1
    exact hall e (by simpa using he) hb
  · obtain ⟨e, he, hb, ⟨k', l'⟩, hx, e1, h3⟩ := edgeVia_ok h1
    have h2 := hall e (by simpa using he) hb
    dsimp only at e1 h3
    rw [← e1] at h2
    exact hC k' l' hx h2 p h3

theorem subT_ok {T U : List (Nat × List Nat)} (h : subT T U = true) : ∀ x ∈ T, x ∈ U := by
  induction T with
  | nil => intro x hx; cases hx
  | cons y T ih =>
    simp only [subT, Bool.and_eq_true, List.any_eq_true] at h
    obtain ⟨⟨z, hz, h1, h2⟩, h3⟩ := h
    intro x hx
    rcases List.mem_cons.1 hx with rfl | hx
    · have e1 := Nat.eq_of_beq_eq_true h1
      have e2 := eq_of_beq h2
      have : x = z := Prod.ext e1 e2
      rw [this]; exact hz
    · exact ih h3 x hx

theorem free2B_ok {ops : List Oper} {done : List Nat} {i : Nat} {oi : Oper} : ∀ {l : List Oper} {k : Nat}, free2B ops done i oi k l = true → ∀ (j : Nat) (oj : Oper), l[j]? = some oj → k + j ≠ i → memB (k + j) done = false →
    (∀ d, oi.dst = some d → oj.dst ≠ some d) ∧ ((∀ e ∈ oj.after, Region.binds .any e = true → e.on ≠ i) → (∀ d, oj.dst = some d → d ∉ oi.looksAt ops.toArray) ∧ ∀ d, oi.dst = some d → d ∉ oj.looksAt ops.toArray)
  | [], k, _, j, oj, hj => by simp at hj
  | o :: l, k, h, j, oj, hj => by
    simp only [free2B, Bool.and_eq_true, Bool.or_eq_true] at h
    obtain ⟨h1, h2⟩ := h
    intro hne hm
    cases j with
    | zero =>
      simp only [List.getElem?_cons_zero, Option.some.injEq] at hj
      subst hj
      rcases h1 with (h1 | h1) | ⟨h1, h3⟩
      · exact absurd (Nat.eq_of_beq_eq_true h1) (by simpa using hne)
      · rw [Nat.add_zero] at hm; rw [hm] at h1; cases h1
      · refine ⟨fun d hd => ?_, fun hw => ?_⟩
        · rw [hd] at h1
          simp only [Bool.not_eq_true'] at h1
          intro e
          unfold dstIs at h1
          rw [e] at h1
          simp at h1
        · rcases h3 with h4 | ⟨h3, h4⟩
          · obtain ⟨e, he, hb, hi⟩ := waitsB_ok h4
            exact absurd hi (hw e (by simpa using he) hb)
          · refine ⟨fun d hd => ?_, fun d hd => ?_⟩
            · rw [hd] at h3
              simp only [Bool.not_eq_true'] at h3
              have := looksB_ok h3
              simpa using this
            · rw [hd] at h4
              simp only [Bool.not_eq_true'] at h4
              have := looksB_ok h4
              simpa using this
    | succ j =>
      exact free2B_ok h2 j oj (by simpa using hj) (by omega) (by rw [show k + 1 + j = k + (j + 1) by omega]; exact hm)

theorem blindB_ok {ops : List Oper} {done : List Nat} {i : Nat} {oi : Oper} : ∀ {l : List Oper} {k : Nat}, blindB ops done i oi k l = true → ∀ (j : Nat) (oj : Oper), l[j]? = some oj → k + j ≠ i → memB (k + j) done = false → ∀ d, oj.dst = some d → d ∉ oi.looksAt ops.toArray
  | [], k, _, j, oj, hj => by simp at hj
  | o :: l, k, h, j, oj, hj => by
    simp only [blindB, Bool.and_eq_true, Bool.or_eq_true] at h
    obtain ⟨h1, h2⟩ := h
    intro hne hm d hd
    cases j with
    | zero =>
      simp only [List.getElem?_cons_zero, Option.some.injEq] at hj
      subst hj
      rcases h1 with (h1 | h1) | h1
      · exact absurd (Nat.eq_of_beq_eq_true h1) (by simpa using hne)
      · rw [Nat.add_zero] at hm; rw [hm] at h1; cases h1
      · rw [hd] at h1
        simp only [Bool.not_eq_true'] at h1
        have := looksB_ok h1
        simpa using this
    | succ j =>
      exact blindB_ok h2 j oj (by simpa using hj) (by omega) (by rw [show k + 1 + j = k + (j + 1) by omega]; exact hm) d hd
theorem freeOp_pure {op : Op} (h : freeOp op = true) (L : Lay) (st : AS) : pureAt L st op = true := by
  cases op <;> first | rfl | cases h

theorem isOne_ok {i : Nat} {l : List Nat} (h : isOne i l = true) : l = [i] := by
  unfold isOne at h
  split at h
  · rw [Nat.eq_of_beq_eq_true h]
  · cases h
theorem actsOf_mem : ∀ {sc : List (Nat × Option (List Nat))} {k : Nat} {l : List Nat}, (k, some l) ∈ sc → (k, l) ∈ actsOf sc
  | [], _, _, h => by cases h
  | (i, none) :: r, k, l, h => by
    rcases List.mem_cons.1 h with h | h
    · cases h
    · show (k, l) ∈ actsOf r
      exact actsOf_mem h
  | (i, some m) :: r, k, l, h => by
    rcases List.mem_cons.1 h with h | h
    · cases h; exact List.mem_cons_self
    · exact List.mem_cons_of_mem _ (actsOf_mem h)

theorem outOf_mem {l : List Nat} {p : Nat} : ∀ {q : List Nat}, p ∈ q → p ∉ l → p ∈ outOf l q
  | [], h, _ => by cases h
  | x :: q, h, hn => by
    simp only [outOf]
    cases hb : memB x l with
    | true =>
      rcases List.mem_cons.1 h with rfl | h
      · exact absurd (memB_ok.1 hb) hn
      · exact outOf_mem h hn
    | false =>
      rcases List.mem_cons.1 h with rfl | h
      · exact List.mem_cons_self
      · exact List.mem_cons_of_mem _ (outOf_mem h hn)

theorem outOf_sub {l : List Nat} {p : Nat} : ∀ {q : List Nat}, p ∈ outOf l q → p ∈ q
  | [], h => h
  | x :: q, h => by
    simp only [outOf] at h
    cases hb : memB x l with
    | true => rw [hb] at h; exact List.mem_cons_of_mem _ (outOf_sub h)
    | false =>
      rw [hb] at h
      rcases List.mem_cons.1 h with rfl | h
      · exact List.mem_cons_self
      · exact List.mem_cons_of_mem _ (outOf_sub h)

/-- Still the same is read. -/
theorem reCh_ok (hL : LayOk P L) {W : Walk} {ops : List Oper} {K : Prop} (R : Rel g N bs ρ a w st) : ∀ {l : List Nat}, (∀ p ∈ l, ∃ o, ops[p]? = some o ∧ quietB o.op = true) → reCh P L W N ops l st K → K ∧ ∀ p ∈ l, ∃ o d, ops[p]? = some o ∧ o.dst = some d ∧ (execOp a.eval o).run P w = .ok (.value (a.tmps.getD d undef)) w
  | [], _, h => ⟨h, fun p hp => by cases hp⟩
  | p :: r, hq, h => by
    simp only [reCh] at h
    split at h
    · rename_i o ho
      obtain ⟨o', ho', hqo⟩ := hq p List.mem_cons_self
      rw [ho] at ho'
      cases ho'
      split at h
      · rename_i d hd
        obtain ⟨y, u, hs, hc, hrun⟩ := aop_quiet hL R (o := o) hqo h
        obtain ⟨e, hdet, hr⟩ := hs
        obtain ⟨hK, hall⟩ := reCh_ok hL R (fun p hp => hq p (List.mem_cons_of_mem _ hp)) hr
        refine ⟨hK, fun q hq' => ?_⟩
        rcases List.mem_cons.1 hq' with rfl | hq'
        · refine ⟨o, d, ho, hd, ?_⟩
          have ht := R.tmps d
          rw [← e] at ht
          rw [hrun, det1_eq hdet hc ht]
        · exact hall q hq'
      · exact h.elim
    · exact h.elim

theorem memB_not {p : Nat} {l : List Nat} (h : memB p l = false) : p ∉ l := fun hp => by rw [memB_ok.2 hp] at h; cases h

theorem getD_put_ne {a : Act} {dst : Option Tmp} {u : Value} {d : Nat} (h : ∀ t, dst = some t → t ≠ d) : (a.put dst u).tmps.getD d undef = a.tmps.getD d undef := by
  cases dst with
  | none => rfl
  | some t =>
    have := h t rfl
    simp [Act.put, Array.getElem?_setIfInBounds_ne this]

/-- What is pending stands in its slot. -/
def Slots (ops : List Oper) (done : List Nat) (pend : List (Nat × Value)) (a : Act) : Prop :=
  ∀ p ∈ pend, ∃ o d, ops[p.1]? = some o ∧ quietB o.op = true ∧ o.dst = some d ∧ a.tmps.getD d undef = p.2 ∧ ∀ k ok, ops[k]? = some ok → memB k done = false → ok.dst ≠ some d

theorem aSch_snd (hL : LayOk P L) {W : Walk} (hW : WOk P W) {ops : List Oper} (hs : Region.noSelect ops.toArray = true) {Q : AS → Prop} {E : Exit → Act → World → Prop} (hE : ∀ e a w, e ≠ .normal → ¬ E e a w) (hQ : ∀ ρ a w st, Rel g N bs ρ a w st → Q st → E .normal a w)
    {T U : List (Nat × List Nat)} (hTU : ∀ x ∈ T, x ∈ U) (hU : closB ops U = true) :
    ∀ (sc : List (Nat × Option (List Nat))) {done : List Nat} {listed : Array Bool} {pend : List (Nat × Value)} {pl : List Nat} {ρ : Nat → Value} {a : Act} {w : World} {st : AS},
      (∀ k l, (k, some l) ∈ sc → (k, l) ∈ T) → schB ops T sc done = true → Lst ops.length done listed → Closed U listed → Blind ops.toArray listed pend → Slots ops done pend a → Obl P ops.toArray T listed pend a w → (∀ p ∈ pend, alive T listed p.1 → p.1 ∈ pl) → (∀ p ∈ pl, ∃ o, ops[p]? = some o ∧ quietB o.op = true) →
      Rel g N bs ρ a w st → aSch P L W N ops Q sc pl st → wpAnyX P ops.toArray E T sc.length listed pend a w
  | [], done, listed, pend, pl, ρ, a, w, st, _, hsch, hl, _, _, _, _, _, _, R, h => by
    refine ⟨?_, hQ _ _ _ _ R h⟩
    have e : rdyFrom ops.length done 0 ops = [] := by
      simp only [schB] at hsch
      cases hr : rdyFrom ops.length done 0 ops with
      | nil => rfl
      | cons x l => rw [hr] at hsch; cases hsch
    cases hr : Region.ready .any ops.toArray listed with
    | nil => rfl
    | cons j r =>
      have : j ∈ rdyFrom ops.length done 0 ops := (ready_iff hl).1 (by rw [hr]; exact List.mem_cons_self)
      rw [e] at this
      cases this
  | (i, none) :: r, done, listed, pend, pl, ρ, a, w, st, hTs, hsch, hl, hC, hB, hS, hO, hpl, hpq, R, h => by
    have ih := @aSch_snd hL W hW ops hs Q E hE hQ T U hTU hU r
    simp only [schB, Bool.and_eq_true] at hsch
    obtain ⟨hi, hrest⟩ := hsch
    simp only [aSch] at h
    split at hi
    · rename_i o ho
      rw [ho] at h
      dsimp only at h
      simp only [Bool.and_eq_true] at hi
      obtain ⟨⟨⟨⟨hm, hf⟩, hbl⟩, hself⟩, hT⟩ := hi
      have hlt : i < ops.length := (List.getElem?_eq_some_iff.1 ho).1
      have hoA : ops.toArray[i]? = some o := by simpa using ho
      have hr : i ∈ Region.ready .any ops.toArray listed := (ready_iff hl).2 (memB_ok.1 hm)
      have hsel := Region.noSelect_spec hs
      have hT' : ∀ l, (i, l) ∈ T → False := by
        intro l hx
        simp only [Bool.not_eq_true', List.any_eq_false] at hT
        have := hT _ hx
        simp at this
      have hself' : ∀ d, o.dst = some d → d ∉ o.looksAt ops.toArray := by
        intro d hd
        rw [hd] at hself
        simp only [Bool.not_eq_true'] at hself
        simpa using looksB_ok hself
      have hfree : ∀ j oj, ops.toArray[j]? = some oj → j ≠ i → listed.getD j true = false → (∀ d, o.dst = some d → oj.dst ≠ some d) ∧ ((∀ e ∈ oj.after, Region.binds .any e = true → e.on ≠ i) → (∀ d, oj.dst = some d → d ∉ o.looksAt ops.toArray) ∧ ∀ d, o.dst = some d → d ∉ oj.looksAt ops.toArray) := by
        intro j oj h1 h2 h3
        have h1' : ops[j]? = some oj := by simpa using h1
        have hlt' : j < ops.length := (List.getElem?_eq_some_iff.1 h1').1
        exact free2B_ok hf j oj h1' (by omega) (by rw [Nat.zero_add, ← hl.getF hlt' true]; exact h3)
      have hun : memB i done = false := by
        rw [← hl.getF hlt true]
        exact (mem_ready.1 hr).1
      have hblind : blindB ops done i o 0 ops = true → ∀ j oj, ops.toArray[j]? = some oj → j ≠ i → listed.getD j true = false → ∀ d, oj.dst = some d → d ∉ o.looksAt ops.toArray := by
        intro hbl j oj h1 h2 h3
        have h1' : ops[j]? = some oj := by simpa using h1
        have hlt' : j < ops.length := (List.getElem?_eq_some_iff.1 h1').1
        exact blindB_ok hbl j oj h1' (by omega) (by rw [Nat.zero_add, ← hl.getF hlt' true]; exact h3)
      have hClosed' : Closed U (listed.setIfInBounds i true) := by
        intro k l hk hll p hp
        by_cases hki : k = i
        · subst hki
          exact getD_set_true (closB_ok hU k l listed hk hC hr p hp)
        · rw [getD_set_ne false (Ne.symm hki)] at hll
          exact getD_set_true (hC k l hk hll p hp)
      have hal : ∀ p, alive T (listed.setIfInBounds i true) p → alive T listed p := fun p hp k l hk hll => hp k l hk (getD_set_true hll)
      have hal2 : ∀ p, alive T listed p → alive T (listed.setIfInBounds i true) p := fun p hp k l hk hll => by
        by_cases hki : k = i
        · subst hki; exact (hT' l hk).elim
        · rw [getD_set_ne false (Ne.symm hki)] at hll
          exact hp k l hk hll
      have unl : ∀ k, (listed.setIfInBounds i true).getD k true = false → listed.getD k true = false := by
        intro k hk
        by_cases hki : i = k
        · subst hki
          have hsz : i < listed.size := by rw [hl.1]; exact hlt
          simp [hsz] at hk
        · rw [getD_set_ne true hki] at hk; exact hk
      have memi : ∀ k, memB k (i :: done) = false → memB k done = false := by
        intro k hk
        simp only [memB, Bool.or_eq_false_iff] at hk
        exact hk.2
      -- the step: the value v, whether it needs nothing of the memory
      have step : ∀ (v : Value) (pu : Bool) (pl' : List Nat) (ρ' : Nat → Value) (st' : AS), YieldsAt P ops.toArray o v a w → (pu = true → Yields P ops.toArray o v a) → (∀ p ∈ pl, p ∈ pl') → (pu = false → i ∈ pl' ∧ quietB o.op = true ∧ blindB ops done i o 0 ops = true ∧ ∃ d, o.dst = some d ∧ d < N) → (∀ p ∈ pl', ∃ o, ops[p]? = some o ∧ quietB o.op = true) → Rel g N bs ρ' (a.put o.dst v) w st' → aSch P L W N ops Q r pl' st' → wpAnyX P ops.toArray E T (r.length + 1) listed pend a w := by
        intro v pu pl' ρ' st' hy hpu hsub hin hq' R' h'
        refine wpAnyX_first hoA hsel (fun c a w h => absurd h (hE _ _ _ (by simp))) hT' hTU (fun k l listed hk hC hr => closB_ok hU k l listed hk hC hr) pu r.length listed pend a w hfree hself' hr hC hB hO hy hpu ?_
        have hB' : Blind ops.toArray (listed.setIfInBounds i true) (addP pu (i, v) pend) := by
          intro p hp o' ho' k ok hk hku d hd
          have hku' := unl k hku
          have hki : k ≠ i := by
            rintro rfl
            have hsz : k < listed.size := by rw [hl.1]; exact hlt
            simp [hsz] at hku
          have old : p ∈ pend → d ∉ o'.looksAt ops.toArray := fun hp => hB p hp o' ho' k ok hk hku' d hd
          cases hpu' : pu with
          | true => rw [hpu'] at hp; exact old hp
          | false =>
            rw [hpu'] at hp
            rcases List.mem_cons.1 hp with rfl | hp
            · dsimp only at ho'
              rw [hoA] at ho'
              cases ho'
              exact hblind (hin hpu').2.2.1 k ok hk hki hku' d hd
            · exact old hp
        have hS' : Slots ops (i :: done) (addP pu (i, v) pend) (a.put o.dst v) := by
          intro p hp
          have old : p ∈ pend → ∃ o' d, ops[p.1]? = some o' ∧ quietB o'.op = true ∧ o'.dst = some d ∧ (a.put o.dst v).tmps.getD d undef = p.2 ∧ ∀ k ok, ops[k]? = some ok → memB k (i :: done) = false → ok.dst ≠ some d := by
            intro hp
            obtain ⟨o', d, h1, h2, h3, h4, h5⟩ := hS p hp
            refine ⟨o', d, h1, h2, h3, ?_, fun k ok hk hkd => h5 k ok hk (memi k hkd)⟩
            rw [getD_put_ne fun t ht e => h5 i o ho hun (by rw [ht, e])]
            exact h4
          cases hpu' : pu with
          | true => rw [hpu'] at hp; exact old hp
          | false =>
            rw [hpu'] at hp
            rcases List.mem_cons.1 hp with rfl | hp
            · obtain ⟨_, hq, _, d, hd, hdN⟩ := hin hpu'
              refine ⟨o, d, ho, hq, hd, ?_, fun k ok hk hkd => ?_⟩
              · rw [hd]
                have : d < a.tmps.size := by rw [R.size]; exact hdN
                simp [Act.put, this]
              · have hlt' : k < ops.length := (List.getElem?_eq_some_iff.1 hk).1
                have hki : k ≠ i := by
                  rintro rfl
                  simp [memB] at hkd
                exact (hfree k ok (by simpa using hk) hki (by rw [hl.getF hlt' true]; exact memi k hkd)).1 d hd
            · exact old hp
        have hO' : Obl P ops.toArray T (listed.setIfInBounds i true) (addP pu (i, v) pend) (a.put o.dst v) w := by
          intro p hp hap o' ho'
          have old : p ∈ pend → YieldsAt P ops.toArray o' p.2 (a.put o.dst v) w := fun hp =>
            (YieldsAt.put (fun cs b => hsel _ _ cs b ho') fun d hd => hB p hp o' ho' i o hoA (mem_ready.1 hr).1 d hd).2 (hO p hp (hal _ hap) o' ho')
          cases hpu' : pu with
          | true => rw [hpu'] at hp; exact old hp
          | false =>
            rw [hpu'] at hp
            rcases List.mem_cons.1 hp with rfl | hp
            · dsimp only at ho'
              rw [hoA] at ho'
              cases ho'
              exact (YieldsAt.put (fun cs b => hsel _ _ cs b hoA) hself').2 hy
            · exact old hp
        refine ih (fun k l hk => hTs k l (List.mem_cons_of_mem _ hk)) hrest (hl.set hlt) hClosed' hB' hS' hO' ?_ hq' R' h'
        intro p hp hap
        have old : p ∈ pend → p.1 ∈ pl' := fun hp => hsub _ (hpl p hp (hal _ hap))
        cases hpu' : pu with
        | true => rw [hpu'] at hp; exact old hp
        | false =>
          rw [hpu'] at hp
          rcases List.mem_cons.1 hp with rfl | hp
          · exact (hin hpu').1
          · exact old hp
      split at h
      · rename_i hw
        have hwant := wantB_ok R hw
        split at h
        · rename_i hpu
          have go : ∀ d, aop P L W d st o.op (fun x st' => aput N st' o.dst x (aSch P L W N ops Q r pl)) → wpAnyX P ops.toArray E T (r.length + 1) listed pend a w := by
            intro d hd
            obtain ⟨x, u, st', h1, R1, h2, h3⟩ := aop_pure hL R hpu hd
            obtain ⟨st2, k2, R2⟩ := aput_snd R1 h2 h1
            exact step u true pl _ st2 (.inl ⟨hwant, h3 w⟩) (fun _ => .inl ⟨hwant, h3⟩) (fun _ h => h) (fun e => by cases e) hpq R2 k2
          unfold aopD at h
          cases hd : o.dst with
          | none => rw [hd] at h; dsimp only at h; exact go 0 (by rw [hd]; exact h)
          | some d => rw [hd] at h; dsimp only at h; exact go d (by rw [hd]; exact h)
        · rename_i hnp
          have hbl' : blindB ops done i o 0 ops = true := by
            rcases Bool.or_eq_true _ _ ▸ hbl with h1 | h1
            · rw [freeOp_pure h1 L st] at hnp; cases hnp
            · exact h1
          cases hq : quietB o.op with
          | false => rw [hq] at h; exact h.elim
          | true =>
          rw [hq] at h
          dsimp only at h
          unfold aopD at h
          cases hd : o.dst with
          | none =>
            rw [hd] at hself
            cases hself
          | some d =>
            rw [hd] at h
            dsimp only at h
            obtain ⟨x, u, h1, h2, h3⟩ := aop_quiet hL R (o := o) hq h
            have hdN : d < N := by
              unfold aput at h1
              dsimp only at h1
              cases hb : Nat.ble (d + 1) N with
              | false => rw [hb] at h1; exact h1.elim
              | true => exact Nat.le_of_ble_eq_true hb
            obtain ⟨st2, k2, R2⟩ := aput_snd R h2 h1
            exact step u false (i :: pl) ρ st2 (.inl ⟨hwant, h3⟩) (fun e => by cases e) (fun _ h => List.mem_cons_of_mem _ h) (fun _ => ⟨List.mem_cons_self, hq, hbl', d, hd, hdN⟩) (fun p hp => by
              rcases List.mem_cons.1 hp with rfl | hp
              · exact ⟨o, ho, hq⟩
              · exact hpq p hp) (by rw [hd]; exact R2) k2
      · rename_i hw
        have hwant := wantB_ok R hw
        obtain ⟨st2, k2, R2⟩ := aput_snd R (show C2 (cxOf g w ρ st.heap) (.v undef) undef from rfl) h
        exact step undef true pl ρ st2 (.inr ⟨hwant, rfl⟩) (fun _ => .inr ⟨hwant, rfl⟩) (fun _ h => h) (fun e => by cases e) hpq R2 k2
      · exact h.elim
    · cases hi
  | (i, some l) :: r, done, listed, pend, pl, ρ, a, w, st, hTs, hsch, hl, hC, hB, hS, hO, hpl, hpq, R, h => by
    have ih := @aSch_snd hL W hW ops hs Q E hE hQ T U hTU hU r
    simp only [schB, Bool.and_eq_true] at hsch
    obtain ⟨hi, hrest⟩ := hsch
    have e := isOne_ok hi
    have hr : i ∈ Region.ready .any ops.toArray listed := (ready_iff hl).2 (by rw [e]; exact List.mem_cons_self)
    refine ⟨fun h0 => (by rw [h0] at hr; cases hr), fun j hj => ?_⟩
    have hji : j = i := by
      have := (ready_iff hl).1 hj
      rw [e] at this
      exact List.mem_singleton.1 this
    subst hji
    simp only [aSch] at h
    split at h
    · rename_i o ho
      have hlt : j < ops.length := (List.getElem?_eq_some_iff.1 ho).1
      have hoA : ops.toArray[j]? = some o := by simpa using ho
      have hsel := Region.noSelect_spec hs
      have hun : memB j done = false := by
        rw [← hl.getF hlt true]
        exact (mem_ready.1 hj).1
      have hjT : (j, l) ∈ T := hTs j l List.mem_cons_self
      have hClosed' : Closed U (listed.setIfInBounds j true) := by
        intro k l hk hll p hp
        by_cases hki : k = j
        · subst hki
          exact getD_set_true (closB_ok hU k l listed hk hC hr p hp)
        · rw [getD_set_ne false (Ne.symm hki)] at hll
          exact getD_set_true (hC k l hk hll p hp)
      have hB' : Blind ops.toArray (listed.setIfInBounds j true) pend := by
        intro p hp o' ho' k ok hk hku d hd
        refine hB p hp o' ho' k ok hk ?_ d hd
        by_cases hki : j = k
        · subst hki; exact (mem_ready.1 hj).1
        · rw [getD_set_ne true hki] at hku; exact hku
      have hsz : j < listed.size := by rw [hl.1]; exact hlt
      have hal : ∀ p, alive T (listed.setIfInBounds j true) p → alive T listed p ∧ p ∉ l := fun p hp => ⟨fun k l hk hll => hp k l hk (getD_set_true hll), hp j l hjT (by simp [hsz])⟩
      -- behind the step
      have fin : ∀ (u : Value) (ρ' : Nat → Value) (w' : World) (st' : AS), Rel g N bs ρ' (a.put o.dst u) w' st' → reCh P L W N ops (outOf l pl) st' (aSch P L W N ops Q r (outOf l pl) st') → Obl P ops.toArray T (listed.setIfInBounds j true) pend (a.put o.dst u) w' ∧ wpAnyX P ops.toArray E T r.length (listed.setIfInBounds j true) pend (a.put o.dst u) w' := by
        intro u ρ' w' st' R' hk
        have hpq' : ∀ p ∈ outOf l pl, ∃ o, ops[p]? = some o ∧ quietB o.op = true := fun p hp => hpq p (outOf_sub hp)
        obtain ⟨hK, hre⟩ := reCh_ok hL R' hpq' hk
        have hS' : Slots ops (j :: done) pend (a.put o.dst u) := by
          intro p hp
          obtain ⟨o', d, h1, h2, h3, h4, h5⟩ := hS p hp
          refine ⟨o', d, h1, h2, h3, ?_, fun k ok hk hkd => h5 k ok hk ?_⟩
          · rw [getD_put_ne fun t ht e => h5 j o ho hun (by rw [ht, e])]
            exact h4
          · simp only [memB, Bool.or_eq_false_iff] at hkd
            exact hkd.2
        have hin : ∀ p ∈ pend, alive T (listed.setIfInBounds j true) p.1 → p.1 ∈ outOf l pl := fun p hp hap => outOf_mem (hpl p hp (hal _ hap).1) (hal _ hap).2
        have hO' : Obl P ops.toArray T (listed.setIfInBounds j true) pend (a.put o.dst u) w' := by
          intro p hp hap o' ho'
          obtain ⟨o2, d, k1, k2, k3⟩ := hre p.1 (hin p hp hap)
          have ho2 : ops[p.1]? = some o' := by simpa using ho'
          rw [k1] at ho2
          obtain rfl : o2 = o' := by simpa using ho2
          obtain ⟨o3, d3, q1, q2, q3, q4, q5⟩ := hS' p hp
          rw [k1] at q1
          obtain rfl : o2 = o3 := by simpa using q1
          rw [k2] at q3
          obtain rfl : d = d3 := by simpa using q3
          have := hO p hp (hal _ hap).1 o2 ho'
          have hw' := wanted_put (ops := ops.toArray) o2 a o.dst u (fun d hd => hB p hp o2 ho' j o hoA (mem_ready.1 hj).1 d hd)
          rcases this with ⟨h1, h2⟩ | ⟨h1, h2⟩
          · exact .inl ⟨by rw [hw']; exact h1, by rw [k3, q4]⟩
          · exact .inr ⟨by rw [hw']; exact h1, h2⟩
        exact ⟨hO', ih (fun k l hk => hTs k l (List.mem_cons_of_mem _ hk)) hrest (hl.set hlt) hClosed' hB' hS' hO' hin hpq' R' hK⟩
      unfold wpOp
      rw [hoA]
      dsimp only
      unfold aStep at h
      split at h
      · rename_i hw
        rw [wantB_ok R hw]
        simp only [if_true]
        refine .inl ?_
        have go : ∀ d, aop P L W d st o.op (fun x st' => aput N st' o.dst x (fun st' => reCh P L W N ops (outOf l pl) st' (aSch P L W N ops Q r (outOf l pl) st'))) → o.wp P a w (fun a' w' => Obl P ops.toArray T (listed.setIfInBounds j true) pend a' w' ∧ wpAnyX P ops.toArray E T r.length (listed.setIfInBounds j true) pend a' w') E := by
          intro d hd
          refine aop_snd hL hW R (d := d) hd ?_
          intro x st' u ρ' w' hx R' hc
          obtain ⟨st2, h2, R2⟩ := aput_snd R' hc hx
          exact fin u ρ' w' st2 R2 h2
        unfold aopD at h
        cases hd : o.dst with
        | none => rw [hd] at h; dsimp only at h; exact go 0 (by rw [hd]; exact h)
        | some d => rw [hd] at h; dsimp only at h; exact go d (by rw [hd]; exact h)
      · rename_i hw
        rw [wantB_ok R hw]
        simp only [Bool.false_eq_true, if_false]
        obtain ⟨st2, k2, R2⟩ := aput_snd R (show C2 (cxOf g w ρ st.heap) (.v undef) undef from rfl) h
        exact fin undef ρ w st2 R2 k2
      · exact h.elim
    · exact h.elim

/-- A region that draws its order and acts: by a schedule. -/
theorem ADraw.sched (hL : LayOk P L) {W : Walk} (hW : WOk P W) (sc : List (Nat × Option (List Nat))) (U : List (Nat × List Nat)) {id : Nat} {ops : Array Oper} {K : AS → Prop} {st : AS} (hm : P.follows .mixedOrders = true) (hs : (Region.noSelect ops && Nat.beq sc.length ops.size && schedB ops.toList sc U) = true)
    (h : aSch P L W N ops.toList K sc [] st) : ADraw P L W N id ops K st := by
  refine .sem fun g bs ρ a w E R hK => ?_
  simp only [Bool.and_eq_true, schedB] at hs
  obtain ⟨⟨hns, hlen⟩, ⟨hU, hTU⟩, hsch⟩ := hs
  refine Code.wp_mono (Q := fun e a w => e = .normal ∧ E .normal a w) (fun e a w h => by obtain ⟨rfl, h⟩ := h; exact h) ?_
  have e1 : ops.size = ops.toList.length := by simp
  refine wp_region_any hm ?_
  have hl : Lst ops.toList.length [] (Array.replicate ops.size false) := by
    refine ⟨by simp, fun k hk => ?_⟩
    rw [Array.getElem?_replicate, if_pos (by rw [e1]; exact hk)]
    rfl
  have hnone : ∀ k, (Array.replicate ops.size false).getD k false = false := by
    intro k
    rw [Array.getD_eq_getD_getElem?, Array.getElem?_replicate]
    split <;> rfl
  have R' : Rel g N bs ρ a w.drew st := R.world (Below.refl _ _).drew
  have := aSch_snd (g := g) (bs := bs) (N := N) hL hW (ops := ops.toList) (by simpa using hns) (Q := K) (E := fun e a w => e = .normal ∧ E .normal a w) (fun e a w hne h => hne h.1) (fun ρ a w st R h => ⟨rfl, hK ρ a w st R h⟩) (subT_ok hTU) hU sc (pend := []) (pl := [])
    (fun k l h => actsOf_mem h) hsch hl (fun k l hk hll => by rw [hnone] at hll; cases hll) (fun p hp => by cases hp) (fun p hp => by cases hp) (fun p hp => by cases hp) (fun p hp => by cases hp) (fun p hp => by cases hp) R' h
  have h3 := this.any
  have e2 : sc.length = ops.size := Nat.eq_of_beq_eq_true hlen
  rw [e2] at h3
  simpa using h3
end
end Go.Proofs.Ytbmojelnkldecaa
