/-
  Plain Lean: what a record's bytes say, read again; records one behind the other.
-/
import Derived.Test.YtbmojelnkldecaaFrN
namespace Go.Proofs.Ytbmojelnkldecaa

instance : Inhabited Rc := ⟨rc0⟩
def listF (b : List UInt8) : Option (List Ev) := match numF b with
  | none => none
  | some (m, k) => if 4096 < m then none else (evsAt (b.drop k) m).map (·.1)
def rdRn (k r : Int) (t : List UInt8) : Rc × Bool := match numF t with
  | none => (⟨k, r, 0, clk0, []⟩, false)
  | some (n, _) => (⟨k, r, n, clk0, []⟩, true)
def rdRl (k r u : Int) (t : List UInt8) : Rc × Bool := match listF t with
  | none => (⟨k, r, u, clk0, []⟩, false)
  | some l => (⟨k, r, u, clk0, l⟩, true)
def rdR (k r : Int) (t : List UInt8) : Rc × Bool :=
  if k = 1 ∨ k = 2 ∨ k = 5 then rdRl k r 0 t
  else if k = 3 then rdRn k r t
  else if k = 4 then (match numF t with | none => (⟨k, r, 0, clk0, []⟩, false) | some (n, j) => rdRl k r n (t.drop j))
  else if k = 6 then (⟨k, r, 0, (rdC t).1, []⟩, (rdC t).2)
  else (⟨k, r, 0, clk0, []⟩, false)
def readR (b : List UInt8) : Rc × Bool :=
  if b.length < 2 then (rc0, false) else rdR ((b.getD 0 default).toNat : Int) ((b.getD 1 default).toNat : Int) (b.drop 2)

theorem listF_put (l : List Ev) (h : ∀ e ∈ l, mayE e = 0) (hl : l.length ≤ 4096) (t : List UInt8) : listF (vput l.length ++ (evsB l ++ t)) = some l := by
  unfold listF
  rw [numF_put (by omega)]
  dsimp only
  rw [if_neg (by omega), List.drop_left, evsAt_put l h t _ (Nat.le_refl _), List.take_length]
  rfl
theorem readR_put (x : Rc) (h : mayR x = true) (t : List UInt8) : readR (rcBody x ++ t) = (x, true) := by
  have m := mayR_of h
  obtain ⟨k, r, u, ⟨c0, c1, c2, c3, c4⟩, ev⟩ := x
  obtain ⟨mk, mr, mu, ml, ⟨m0, m1, m2, m3, m4⟩, mu0, mc0, me0, mev, mone⟩ := m
  dsimp only at mk mr mu ml m0 m1 m2 m3 m4 mu0 mc0 me0 mev mone
  obtain ⟨rest, hrest⟩ : ∃ rest, rest = (if rcU k then vputI u else []) ++ (if rcC k then clkB ⟨c0, c1, c2, c3, c4⟩ else []) ++ (if rcE k then vput ev.length ++ evsB ev else []) ++ t := ⟨_, rfl⟩
  have hb : rcBody ⟨k, r, u, ⟨c0, c1, c2, c3, c4⟩, ev⟩ ++ t = byteOf k :: byteOf r :: rest := by
    rw [hrest]; simp [rcBody]
  rw [hb]
  unfold readR
  rw [if_neg (by simp)]
  rw [show (byteOf k :: byteOf r :: rest).getD 0 default = byteOf k from rfl, show (byteOf k :: byteOf r :: rest).getD 1 default = byteOf r from rfl, show (byteOf k :: byteOf r :: rest).drop 2 = rest from rfl, byteOf_nat (by omega) (by omega), byteOf_nat (by omega) (by omega)]
  clear hb
  unfold rdR
  rcases (show (k = 1 ∨ k = 2 ∨ k = 5) ∨ k = 3 ∨ k = 4 ∨ k = 6 by omega) with hk | hk | hk | hk
  · have hU : rcU k = false := by simp [rcU]; omega
    have hC : rcC k = false := by simp [rcC]; omega
    have hE : rcE k = true := by simp [rcE]; omega
    rw [hU] at mu0 hrest; rw [hC] at mc0 hrest; rw [hE] at hrest
    simp only [Bool.false_eq_true, false_or] at mu0 mc0
    rw [if_pos hk, hrest]
    simp only [if_true, Bool.false_eq_true, if_false, List.nil_append, List.append_assoc]
    unfold rdRl
    rw [listF_put ev (may_mem mev) ml t]
    dsimp only
    rw [mu0, mc0]
  · have hU : rcU k = true := by simp [rcU]; omega
    have hC : rcC k = false := by simp [rcC]; omega
    have hE : rcE k = false := by simp [rcE]; omega
    rw [hU] at hrest; rw [hC] at mc0 hrest; rw [hE] at me0 hrest
    simp only [Bool.false_eq_true, false_or] at me0 mc0
    obtain ⟨un, rfl, hun⟩ := okN_of mu
    rw [if_neg (by omega), if_pos hk, hrest]
    simp only [if_true, Bool.false_eq_true, if_false, List.append_nil]
    unfold rdRn
    rw [vputI_nat, numF_put hun]
    dsimp only
    rw [List.eq_nil_of_length_eq_zero me0, mc0]
  · have hU : rcU k = true := by simp [rcU]; omega
    have hC : rcC k = false := by simp [rcC]; omega
    have hE : rcE k = true := by simp [rcE]; omega
    rw [hU] at hrest; rw [hC] at mc0 hrest; rw [hE] at hrest
    simp only [Bool.false_eq_true, false_or] at mc0
    obtain ⟨un, rfl, hun⟩ := okN_of mu
    rw [if_neg (by omega), if_neg (by omega), if_pos hk, hrest]
    simp only [if_true, Bool.false_eq_true, if_false, List.append_nil, List.append_assoc]
    rw [vputI_nat, numF_put hun]
    dsimp only
    rw [List.drop_left]
    unfold rdRl
    rw [listF_put ev (may_mem mev) ml t]
    dsimp only
    rw [mc0]
  · have hU : rcU k = false := by simp [rcU]; omega
    have hC : rcC k = true := by simp [rcC]; omega
    have hE : rcE k = false := by simp [rcE]; omega
    rw [hU] at mu0 hrest; rw [hC] at hrest; rw [hE] at me0 hrest
    simp only [Bool.false_eq_true, false_or] at mu0 me0
    obtain ⟨c0, rfl, hc0⟩ := okN_of m0
    obtain ⟨c1, rfl, hc1⟩ := okN_of m1
    obtain ⟨c2, rfl, hc2⟩ := okN_of m2
    obtain ⟨c3, rfl, hc3⟩ := okN_of m3
    obtain ⟨c4, rfl, hc4⟩ := okN_of m4
    rw [if_neg (by omega), if_neg (by omega), if_neg (by omega), if_pos hk, hrest]
    simp only [if_true, Bool.false_eq_true, if_false, List.nil_append, clkB, vputI_nat, List.append_assoc]
    rw [rdC_put hc0 hc1 hc2 hc3 hc4]
    dsimp only
    rw [List.eq_nil_of_length_eq_zero me0, mu0]

/-- The record that some bytes begin with, and how many bytes it has. -/
def firstF (b : List UInt8) : Option (Rc × Nat) :=
  if (vtake b).2.2 ≠ 0 ∨ b.length - (vtake b).2.1 < (vtake b).1 then none
  else if okSeal ((b.drop (vtake b).2.1).take (vtake b).1) then
    if (readR (inner ((b.drop (vtake b).2.1).take (vtake b).1))).2 = true ∧ mayR (readR (inner ((b.drop (vtake b).2.1).take (vtake b).1))).1 = true ∧ rcBytes (readR (inner ((b.drop (vtake b).2.1).take (vtake b).1))).1 = b.take ((vtake b).2.1 + (vtake b).1)
    then some ((readR (inner ((b.drop (vtake b).2.1).take (vtake b).1))).1, (vtake b).2.1 + (vtake b).1) else none
  else none

theorem rcBody_len (x : Rc) (h : mayR x = true) : 2 ≤ (rcBody x).length ∧ (rcBody x).length ≤ 200000 := by
  have m := mayR_of h
  have hv (n : Nat) : (vput n).length ≤ 10 := vputF_le 9 _
  have hvi (n : Int) : (vputI n).length ≤ 10 := hv _
  have he := evsB_len (may_mem m.ev)
  have hl := m.l
  have e1 : (rcBody x).length = 2 + (if rcU x.k then (vputI x.u).length else 0) + (if rcC x.k then (clkB x.c).length else 0) + (if rcE x.k then (vput x.ev.length).length + (evsB x.ev).length else 0) := by
    unfold rcBody
    simp only [List.length_append]
    congr 1
    · congr 1
      · congr 1
        split <;> rfl
      · split <;> rfl
    · split
      · rw [List.length_append]
      · rfl
  have hc : (clkB x.c).length ≤ 50 := by
    have := hvi x.c.c0; have := hvi x.c.c1; have := hvi x.c.c2; have := hvi x.c.c3; have := hvi x.c.c4
    unfold clkB
    simp only [List.length_append]
    omega
  have := hvi x.u
  have := hv x.ev.length
  rw [e1]
  refine ⟨by omega, ?_⟩
  split <;> split <;> split <;> omega
theorem rcBytes_max (x : Rc) (h : mayR x = true) : (rcBytes x).length ≤ 200100 := by
  have := rcBody_len x h
  have hv : (vput (sealB (rcBody x)).length).length ≤ 10 := vputF_le 9 _
  unfold rcBytes
  rw [List.length_append, sealB_len]
  rw [sealB_len] at hv
  omega

theorem firstF_put (x : Rc) (h : mayR x = true) (t : List UInt8) : firstF (rcBytes x ++ t) = some (x, (rcBytes x).length) := by
  have hb := rcBody_len x h
  have hs := sealB_len (rcBody x)
  have hr := readR_put x h []
  rw [List.append_nil] at hr
  have e : rcBytes x ++ t = vput (sealB (rcBody x)).length ++ (sealB (rcBody x) ++ t) := by unfold rcBytes; rw [List.append_assoc]
  have hv := vtake_put (sealB (rcBody x)).length (sealB (rcBody x) ++ t) (by omega)
  have hl : (rcBytes x).length = (vput (sealB (rcBody x)).length).length + (sealB (rcBody x)).length := by unfold rcBytes; rw [List.length_append]
  unfold firstF
  rw [e, hv, List.drop_left, List.take_left, if_neg (by simp), if_pos (ok_seal _), inner_seal, hr, if_pos ⟨rfl, h, by rw [← e, ← hl, List.take_left]⟩, hl]
theorem firstF_some {b : List UInt8} {x : Rc} {n : Nat} (h : firstF b = some (x, n)) : mayR x = true ∧ b.take n = rcBytes x ∧ n = (rcBytes x).length ∧ n ≤ b.length := by
  have hle := vtake_le b
  unfold firstF at h
  split at h
  · cases h
  · rename_i h1
    split at h
    · split at h
      · rename_i h2
        simp only [Option.some.injEq, Prod.mk.injEq] at h
        obtain ⟨rfl, rfl⟩ := h
        refine ⟨h2.2.1, h2.2.2.symm, ?_, by omega⟩
        rw [h2.2.2, List.length_take]
        omega
      · cases h
    · cases h

/-- Records' bytes, one behind the other. -/
def rcsB (l : List Rc) : List UInt8 := l.flatMap rcBytes
/-- l are the records that b begins with, t is behind them. -/
structure Recs (b : List UInt8) (l : List Rc) (t : List UInt8) : Prop where
  may : ∀ r ∈ l, mayR r = true
  eq : b = rcsB l ++ t
  no : firstF t = none

theorem rcsB_snoc (l : List Rc) (x : Rc) : rcsB (l ++ [x]) = rcsB l ++ rcBytes x := by simp [rcsB]
/-- What is read: some of these records, no more. -/
theorem recs_step {b : List UInt8} {l : List Rc} {t : List UInt8} (h : Recs b l t) (j : Nat) (hj : j < l.length) : firstF (b.drop (rcsB (l.take j)).length) = some (l.getD j default, (rcBytes (l.getD j default)).length) := by
  have e : l = l.take j ++ l.getD j default :: l.drop (j + 1) := by
    rw [List.getD, List.getElem?_eq_getElem hj]
    simp
  have e2 : b = rcsB (l.take j) ++ (rcBytes (l.getD j default) ++ (rcsB (l.drop (j + 1)) ++ t)) := by
    rw [h.eq]
    conv => lhs; rw [e]
    simp [rcsB]
  rw [e2, List.drop_left]
  refine firstF_put _ (h.may _ ?_) _
  rw [List.getD, List.getElem?_eq_getElem hj]
  exact List.getElem_mem hj
theorem recs_end {b : List UInt8} {l : List Rc} {t : List UInt8} (h : Recs b l t) : firstF (b.drop (rcsB l).length) = none := by
  rw [h.eq, List.drop_left]
  exact h.no
theorem recs_take {l : List Rc} {j : Nat} (hj : j < l.length) : rcsB (l.take (j + 1)) = rcsB (l.take j) ++ rcBytes (l.getD j default) := by
  have : l.take (j + 1) = l.take j ++ [l.getD j default] := by
    rw [List.getD, List.getElem?_eq_getElem hj]
    simp
  rw [this, rcsB_snoc]
/-- Every row of bytes begins with some records. -/
theorem recs_any : ∀ (n : Nat) (b : List UInt8), b.length ≤ n → ∃ l t, Recs b l t
  | 0, b, h => by
    refine ⟨[], b, (fun _ hr => by cases hr), rfl, ?_⟩
    cases hf : firstF b with
    | none => rfl
    | some p =>
      obtain ⟨x, m⟩ := p
      obtain ⟨_, _, h3, h4⟩ := firstF_some hf
      have := rcBytes_len x
      omega
  | n + 1, b, h => by
    cases hf : firstF b with
    | none => exact ⟨[], b, (fun _ hr => by cases hr), rfl, hf⟩
    | some p =>
      obtain ⟨x, m⟩ := p
      obtain ⟨h1, h2, h3, h4⟩ := firstF_some hf
      have := rcBytes_len x
      obtain ⟨l, t, hr⟩ := recs_any n (b.drop m) (by rw [List.length_drop]; omega)
      refine ⟨x :: l, t, ?_, ?_, hr.no⟩
      · intro r hr'
        rcases List.mem_cons.1 hr' with rfl | hr'
        · exact h1
        · exact hr.may r hr'
      · conv => lhs; rw [← List.take_append_drop m b, h2, hr.eq]
        simp [rcsB]
end Go.Proofs.Ytbmojelnkldecaa
