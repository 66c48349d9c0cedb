/-
  Plain Lean: what pasts that were made are like.
-/
import Derived.Test.YtihjfndkgmjanaaMk2
namespace Go.Proofs.Ytihjfndkgmjanaa
open Go.RowKit

theorem get_at (c : Clk) : ∀ {r : Nat}, r < 5 → c.get (r : Int) = c.at r
  | 0, _ => rfl
  | 1, _ => rfl
  | 2, _ => rfl
  | 3, _ => rfl
  | 4, _ => rfl
  | _ + 5, h => by omega
theorem has_at {c : Clk} {r : Nat} (h : r < 5) {n : Int} : hasB c (r : Int) n = true ↔ 1 ≤ n ∧ n ≤ c.at r := by
  unfold hasB
  rw [decide_eq_true_eq, get_at c h]
  omega
theorem join_at (a b : Clk) : ∀ r, (a.join b).at r = mxI (a.at r) (b.at r)
  | 0 => rfl
  | 1 => rfl
  | 2 => rfl
  | 3 => rfl
  | _ + 4 => rfl
theorem inc_at (c : Clk) : ∀ {r q : Nat}, r < 5 → q < 5 → (c.inc r).at q = if q = r then c.at q + 1 else c.at q := by
  intro r q hr hq
  obtain rfl | rfl | rfl | rfl | rfl : r = 0 ∨ r = 1 ∨ r = 2 ∨ r = 3 ∨ r = 4 := by omega
  all_goals (obtain rfl | rfl | rfl | rfl | rfl : q = 0 ∨ q = 1 ∨ q = 2 ∨ q = 3 ∨ q = 4 := by omega)
  all_goals rfl
theorem le_at {a b : Clk} : a.le b = true ↔ ∀ r, r < 5 → a.at r ≤ b.at r := by
  unfold Clk.le
  rw [decide_eq_true_eq]
  constructor
  · rintro ⟨h0, h1, h2, h3, h4⟩ r hr
    obtain rfl | rfl | rfl | rfl | rfl : r = 0 ∨ r = 1 ∨ r = 2 ∨ r = 3 ∨ r = 4 := by omega
    all_goals assumption
  · intro h
    exact ⟨h 0 (by omega), h 1 (by omega), h 2 (by omega), h 3 (by omega), h 4 (by omega)⟩
theorem setC_at {H : Nat → Clk} {r q : Nat} {c : Clk} : setC H r c q = if q = r then c else H q := by
  unfold setC
  by_cases h : q = r
  · rw [if_pos h, h, Nat.beq_refl]; rfl
  · rw [if_neg h, show Nat.beq q r = false from by rw [Bool.eq_false_iff]; intro e; exact h (Nat.eq_of_beq_eq_true e)]; rfl
theorem mx_le {a b c : Int} (h : a ≤ c) (k : b ≤ c) : mxI a b ≤ c := by unfold mxI; split <;> omega
theorem mx_l (a b : Int) : a ≤ mxI a b := by unfold mxI; split <;> omega
theorem mx_r (a b : Int) : b ≤ mxI a b := by unfold mxI; split <;> omega

theorem hStep_ge {c : Clk} : ∀ (l : List Ev) (s : Int × Bool), s.2 = true → s.1 ≤ (l.foldl (hStep c) s).1 ∧ (l.foldl (hStep c) s).2 = true
  | [], s, h => ⟨Int.le_refl _, h⟩
  | e :: l, s, h => by
    rw [List.foldl_cons]
    by_cases k : (hasB c e.r e.n && (!s.2 || decide (s.1 < e.h))) = true
    · have e1 : hStep c s e = (e.h, true) := if_pos k
      rw [e1]
      have := hStep_ge (c := c) l (e.h, true) rfl
      simp only [h, Bool.not_true, Bool.false_or, Bool.and_eq_true, decide_eq_true_eq] at k
      exact ⟨by have := this.1; simp only at this; omega, this.2⟩
    · have e1 : hStep c s e = s := if_neg k
      rw [e1]
      exact hStep_ge l s h
theorem hgt_gt {c : Clk} {e : Ev} : ∀ (l : List Ev) (s : Int × Bool), e ∈ l → hasB c e.r e.n = true → e.h ≤ (l.foldl (hStep c) s).1
  | [], _, h, _ => by cases h
  | x :: l, s, h, hh => by
    rw [List.foldl_cons]
    rcases List.mem_cons.1 h with rfl | h
    · by_cases k : (hasB c e.r e.n && (!s.2 || decide (s.1 < e.h))) = true
      · have e1 : hStep c s e = (e.h, true) := if_pos k
        rw [e1]
        exact (hStep_ge (c := c) l (e.h, true) rfl).1
      · have e1 : hStep c s e = s := if_neg k
        rw [e1]
        have k' : s.2 = true ∧ e.h ≤ s.1 := by
          rw [hh] at k
          simp only [Bool.true_and, Bool.or_eq_true, Bool.not_eq_true', decide_eq_true_eq, not_or, Bool.not_eq_false, Int.not_lt] at k
          exact k
        have := (hStep_ge (c := c) l s k'.1).1
        omega
    · exact hgt_gt l _ h hh
theorem hgt_lt {c : Clk} {l : List Ev} {e : Ev} (he : e ∈ l) (hh : hasB c e.r e.n = true) : e.h < hgt l c := by
  have := hgt_gt l (0, false) he hh
  unfold hgt hgtF
  omega

/-- An event's parts as a maker of edits makes them. -/
structure Fine (e : Ev) : Prop where
  k : 1 ≤ e.k ∧ e.k ≤ 5
  key : e.key.size ≤ 3
  l : e.l = 0 ∨ e.l = 1
  v : e.v.size ≤ 12
structure Inv (T : List Ev) (H : Nat → Clk) : Prop where
  ev : ∀ e ∈ T, ∃ r : Nat, r < 5 ∧ e.r = (r : Int) ∧ 1 ≤ e.n ∧ e.n ≤ (H r).at r ∧ e.c.at r = e.n - 1
  ge : ∀ q : Nat, q < 5 → ∀ r : Nat, r < 5 → 0 ≤ (H q).at r ∧ (H q).at r ≤ (H r).at r
  all : ∀ r : Nat, r < 5 → ∀ n : Int, 1 ≤ n → n ≤ (H r).at r → ∃ e ∈ T, e.r = (r : Int) ∧ e.n = n
  clo : ∀ q : Nat, q < 5 → ∀ e ∈ T, hasB (H q) e.r e.n = true → ∀ r : Nat, r < 5 → e.c.at r ≤ (H q).at r
  own : ∀ e ∈ T, ∀ r : Nat, r < 5 → 0 ≤ e.c.at r ∧ e.c.at r ≤ (H r).at r
  dis : T.Pairwise fun a b => ¬ (a.r = b.r ∧ a.n = b.n)
  ord : T.Pairwise fun a b => belowB b a = false
  hgt : ∀ a ∈ T, ∀ b ∈ T, belowB a b = true → a.h < b.h
  pre : ∀ T1 e T2, T = T1 ++ e :: T2 → ∀ r : Nat, r < 5 → ∀ n : Int, 1 ≤ n → n ≤ e.c.at r → ∃ x ∈ T1, x.r = (r : Int) ∧ x.n = n
  fine : ∀ e ∈ T, Fine e

theorem Inv.nil : Inv [] (fun _ => clk0) := by
  have h0 : ∀ r, clk0.at r = 0 := fun r => match r with | 0 => rfl | 1 => rfl | 2 => rfl | 3 => rfl | _ + 4 => rfl
  exact ⟨fun e h => (by cases h), fun q _ r _ => ⟨by rw [h0]; omega, by omega⟩, fun r _ n h1 h2 => by rw [h0] at h2; omega, fun _ _ e h => (by cases h), fun e h => (by cases h), .nil, .nil, fun a h => (by cases h), fun T1 e T2 h => (by simp at h), fun e h => (by cases h)⟩
section
variable {T : List Ev} {H : Nat → Clk}
theorem Inv.sync (h : Inv T H) {r f : Nat} (hr : r < 5) (hf : f < 5) : Inv T (setC H r ((H r).join (H f))) := by
  have hj : ∀ q, (setC H r ((H r).join (H f)) q) = if q = r then (H r).join (H f) else H q := fun q => setC_at
  have dg : ∀ q, q < 5 → (setC H r ((H r).join (H f)) q).at q = (H q).at q := fun q hq => by
    rw [hj]
    split
    · rename_i e
      subst e
      rw [join_at]
      have := (h.ge f hf q hq).2
      unfold mxI
      split <;> omega
    · rfl
  refine ⟨fun e he => ?_, fun q hq p hp => ?_, fun p hp n h1 h2 => ?_, fun q hq e he hh p hp => ?_, fun e he p hp => ?_, h.dis, h.ord, h.hgt, h.pre, h.fine⟩
  · obtain ⟨p, h1, h2, h3, h4, h5⟩ := h.ev e he
    exact ⟨p, h1, h2, h3, by rw [dg p h1]; exact h4, h5⟩
  · rw [dg p hp, hj]
    split
    · rw [join_at]
      have a := h.ge r hr p hp
      have b := h.ge f hf p hp
      have := mx_l ((H r).at p) ((H f).at p)
      exact ⟨by omega, mx_le a.2 b.2⟩
    · exact h.ge q hq p hp
  · rw [dg p hp] at h2
    exact h.all p hp n h1 h2
  · rw [hj] at hh ⊢
    split
    · rename_i e1
      rw [if_pos e1] at hh
      obtain ⟨p', h1, h2, h3, h4, h5⟩ := h.ev e he
      rw [h2] at hh
      rw [has_at h1, join_at] at hh
      rw [join_at]
      have ml := mx_l ((H r).at p) ((H f).at p)
      have mr := mx_r ((H r).at p) ((H f).at p)
      rcases (show e.n ≤ (H r).at p' ∨ e.n ≤ (H f).at p' by have := hh.2; unfold mxI at this; split at this <;> omega) with k | k
      · have := h.clo r hr e he (by rw [h2]; exact (has_at h1).2 ⟨hh.1, k⟩) p hp
        omega
      · have := h.clo f hf e he (by rw [h2]; exact (has_at h1).2 ⟨hh.1, k⟩) p hp
        omega
    · rename_i e1
      rw [if_neg e1] at hh
      exact h.clo q hq e he hh p hp
  · rw [dg p hp]
    exact h.own e he p hp

theorem Inv.edit (h : Inv T H) {r : Nat} (hr : r < 5) {x : Ed} (hx : ∀ (rr n : Int) (c : Clk) (hh : Int), Fine ⟨rr, n, c, hh, x.k, x.key, x.l, x.v⟩) : Inv (T ++ [mkEvt T H r x]) (setC H r ((H r).inc r)) := by
  have hj : ∀ q, (setC H r ((H r).inc r) q) = if q = r then (H r).inc r else H q := fun q => setC_at
  have dg : ∀ q, q < 5 → (setC H r ((H r).inc r) q).at q = if q = r then (H q).at q + 1 else (H q).at q := fun q hq => by
    rw [hj]
    split
    · rename_i e
      subst e
      rw [inc_at _ hr hr, if_pos rfl]
    · rfl
  have dle : ∀ q, q < 5 → (H q).at q ≤ (setC H r ((H r).inc r) q).at q := fun q hq => by rw [dg q hq]; split <;> omega
  have er : (mkEvt T H r x).r = (r : Int) := rfl
  have en : (mkEvt T H r x).n = (H r).at r + 1 := rfl
  have ec : (mkEvt T H r x).c = H r := rfl
  have eh : (mkEvt T H r x).h = Go.Proofs.Ytihjfndkgmjanaa.hgt T (H r) := rfl
  have ef : Fine (mkEvt T H r x) := hx _ _ _ _
  generalize mkEvt T H r x = y at *
  have nb : ∀ b ∈ T, belowB y b = false := fun b hb => by
    unfold belowB
    rw [er, Bool.eq_false_iff]
    intro k
    rw [has_at hr] at k
    have := (h.own b hb r hr).2
    omega
  have ny : belowB y y = false := by
    unfold belowB
    rw [er, Bool.eq_false_iff]
    intro k
    rw [has_at hr, ec] at k
    omega
  refine ⟨fun e he => ?_, fun q hq p hp => ?_, fun p hp n h1 h2 => ?_, fun q hq e he hh p hp => ?_, fun e he p hp => ?_, ?_, ?_, fun a ha b hb hab => ?_, fun T1 e T2 e0 p hp n h1 h2 => ?_, fun e he => ?_⟩
  · rcases List.mem_append.1 he with he | he
    · obtain ⟨p, h1, h2, h3, h4, h5⟩ := h.ev e he
      exact ⟨p, h1, h2, h3, by have := dle p h1; omega, h5⟩
    · rw [List.mem_singleton.1 he]
      refine ⟨r, hr, er, by rw [en]; have := (h.ge r hr r hr).1; omega, by rw [en, dg r hr, if_pos rfl]; omega, by rw [ec, en]; omega⟩
  · have := dle p hp
    have a := h.ge q hq p hp
    rw [hj]
    split
    · rename_i e
      subst e
      rw [inc_at _ hr hp]
      rw [dg p hp] at *
      split <;> omega
    · omega
  · by_cases e : p = r
    · subst e
      rw [dg p hp, if_pos rfl] at h2
      by_cases k : n ≤ (H p).at p
      · obtain ⟨e, he, h3⟩ := h.all p hp n h1 k
        exact ⟨e, List.mem_append.2 (.inl he), h3⟩
      · exact ⟨y, List.mem_append.2 (.inr (List.mem_singleton.2 rfl)), er, by rw [en]; omega⟩
    · rw [dg p hp, if_neg e] at h2
      obtain ⟨e, he, h3⟩ := h.all p hp n h1 h2
      exact ⟨e, List.mem_append.2 (.inl he), h3⟩
  · rw [hj] at hh ⊢
    rcases List.mem_append.1 he with he | he
    · obtain ⟨p', k1, k2, k3, k4, k5⟩ := h.ev e he
      by_cases e1 : q = r
      · rw [if_pos e1] at hh ⊢
        rw [k2, has_at k1, inc_at _ hr k1] at hh
        rw [inc_at _ hr hp]
        have hk : hasB (H r) e.r e.n = true := by
          rw [k2]
          refine (has_at k1).2 ⟨k3, ?_⟩
          by_cases e2 : p' = r
          · subst e2; omega
          · rw [if_neg e2] at hh; exact hh.2
        have := h.clo r hr e he hk p hp
        split <;> omega
      · rw [if_neg e1] at hh ⊢
        exact h.clo q hq e he hh p hp
    · rw [List.mem_singleton.1 he] at hh ⊢
      rw [er, has_at hr, en] at hh
      by_cases e1 : q = r
      · rw [if_pos e1, ec, inc_at _ hr hp]
        split <;> omega
      · rw [if_neg e1] at hh
        have := (h.ge q hq r hr).2
        omega
  · rcases List.mem_append.1 he with he | he
    · have := h.own e he p hp
      have := dle p hp
      omega
    · rw [List.mem_singleton.1 he, ec]
      have := h.ge r hr p hp
      have := dle p hp
      omega
  · refine List.pairwise_append.2 ⟨h.dis, List.pairwise_singleton _ _, fun a ha b hb => ?_⟩
    rw [List.mem_singleton.1 hb]
    rintro ⟨k1, k2⟩
    obtain ⟨p, h1, h2, h3, h4, h5⟩ := h.ev a ha
    rw [er, h2] at k1
    have : p = r := by omega
    subst this
    omega
  · refine List.pairwise_append.2 ⟨h.ord, List.pairwise_singleton _ _, fun a ha b hb => ?_⟩
    rw [List.mem_singleton.1 hb]
    exact nb a ha
  · rcases List.mem_append.1 ha with ha | ha
    · rcases List.mem_append.1 hb with hb | hb
      · exact h.hgt a ha b hb hab
      · rw [List.mem_singleton.1 hb] at hab ⊢
        rw [eh]
        unfold belowB at hab
        rw [ec] at hab
        exact hgt_lt ha hab
    · rw [List.mem_singleton.1 ha] at hab
      rcases List.mem_append.1 hb with hb | hb
      · rw [nb b hb] at hab; cases hab
      · rw [List.mem_singleton.1 hb, ny] at hab; cases hab
  · rcases List.append_eq_append_iff.1 e0 with ⟨us, e1, e2⟩ | ⟨bs, e1, e2⟩
    · cases us with
      | nil =>
        simp only [List.nil_append, List.cons.injEq] at e2
        rw [List.append_nil] at e1
        subst e1
        rw [← e2.1, ec] at h2
        have := (h.ge r hr p hp).2
        exact h.all p hp n h1 (by omega)
      | cons a us =>
        simp only [List.cons_append, List.cons.injEq] at e2
        exact absurd e2.2.symm (by simp)
    · cases bs with
      | nil =>
        simp only [List.nil_append, List.cons.injEq] at e2
        rw [List.append_nil] at e1
        subst e1
        rw [e2.1, ec] at h2
        have := (h.ge r hr p hp).2
        exact h.all p hp n h1 (by omega)
      | cons b bs =>
        simp only [List.cons_append, List.cons.injEq] at e2
        obtain ⟨rfl, -⟩ := e2
        exact h.pre T1 e bs e1 p hp n h1 h2
  · rcases List.mem_append.1 he with he | he
    · exact h.fine e he
    · rw [List.mem_singleton.1 he]
      exact ef
end
theorem fit_fine (x : Ed) (rr n : Int) (c : Clk) (hh : Int) : Fine ⟨rr, n, c, hh, (fitEd x).k, (fitEd x).key, (fitEd x).l, (fitEd x).v⟩ := by
  have h5 : 0 ≤ m5 x.k ∧ m5 x.k ≤ 4 := by
    unfold m5
    have := tmod5 x.k
    omega
  have hk : (ks3 (sumB x.key.data.toList)).size ≤ 3 := by unfold ks3; split; exact Nat.le_refl 3; split; exact Nat.le_refl 3; exact (show 2 ≤ 3 by omega)
  have hv : (vs4 (sumB x.v.data.toList)).size ≤ 12 := by
    unfold vs4
    split
    · exact (show 1 ≤ 12 by omega)
    · split
      · exact (show 3 ≤ 12 by omega)
      · split
        · exact (show 2 ≤ 12 by omega)
        · exact Nat.le_refl 12
  have hl := andI_1 x.l
  unfold fitEd
  split
  · exact ⟨⟨by simp only; omega, by simp only; omega⟩, hk, by simp only; omega, hv⟩
  · exact ⟨⟨by simp only; omega, by simp only; omega⟩, hk, .inl rfl, Nat.zero_le _⟩
theorem mod_five {x : Int} : (x % 5).toNat < 5 := by omega
theorem Inv.step {T : List Ev} {H : Nat → Clk} (h : Inv T H) (c : Ch0) : Inv (mkStep (T, H) c).1 (mkStep (T, H) c).2 := by
  unfold mkStep
  split
  · exact h.sync mod_five mod_five
  · exact h.edit mod_five (fit_fine _)
theorem inv_fold : ∀ (l : List Ch0) (s : Mk), Inv s.1 s.2 → Inv (l.foldl mkStep s).1 (l.foldl mkStep s).2
  | [], _, h => h
  | c :: l, s, h => by
    rw [List.foldl_cons]
    exact inv_fold l _ (Inv.step h c)
theorem inv_of (l : List Ch0) : Inv (mkS l).1 (mkS l).2 := inv_fold l ([], fun _ => clk0) Inv.nil
end Go.Proofs.Ytihjfndkgmjanaa
