/-
  Plain Lean: who is deleted, by whoever had seen all, and created anew, has nothing of what it had.
-/
import Derived.Test.YtihjfndkgmjanaaLa2
namespace Go.Proofs.Ytihjfndkgmjanaa
open Go.RowKit

/-- How many events of each replica there are. -/
def cntC (l : List Ev) : Clk := l.foldl (fun c e => c.top e.r.toNat e.n) clk0
theorem at_zero : ∀ r, clk0.at r = 0
  | 0 => rfl
  | 1 => rfl
  | 2 => rfl
  | 3 => rfl
  | _ + 4 => rfl
theorem fold_top {l : List Ev} (h : ∀ e ∈ l, ∃ r : Nat, r < 5 ∧ e.r = (r : Int)) : ∀ c : Clk, (∀ r : Nat, r < 5 → c.at r ≤ (l.foldl (fun c e => c.top e.r.toNat e.n) c).at r) ∧
    ∀ e ∈ l, ∀ r : Nat, r < 5 → e.r = (r : Int) → e.n ≤ (l.foldl (fun c e => c.top e.r.toNat e.n) c).at r := by
  induction l with
  | nil => exact fun c => ⟨fun _ _ => Int.le_refl _, fun e he => by cases he⟩
  | cons x l ih =>
    intro c
    obtain ⟨p, hp, ep⟩ := h x List.mem_cons_self
    obtain ⟨h1, h2⟩ := ih (fun e he => h e (List.mem_cons_of_mem _ he)) (c.top x.r.toNat x.n)
    rw [List.foldl_cons]
    have ex : x.r.toNat = p := by rw [ep, Int.toNat_natCast]
    have h3 : ∀ r : Nat, r < 5 → c.at r ≤ (c.top x.r.toNat x.n).at r := fun r hr => by
      rw [ex, top_at _ _ hp hr]
      split
      · exact mx_l _ _
      · exact Int.le_refl _
    refine ⟨fun r hr => Int.le_trans (h3 r hr) (h1 r hr), fun e he r hr er => ?_⟩
    rcases List.mem_cons.1 he with rfl | he
    · have : r = p := by rw [ep] at er; omega
      subst this
      have := h1 r hr
      rw [ex, top_at _ _ hr hr, if_pos rfl] at this
      have := mx_r (c.at r) e.n
      rw [ex]
      omega
    · exact h2 e he r hr er
theorem cnt_ge {W : List Ev} {H : Nat → Clk} (hI : Inv W H) : (∀ r : Nat, r < 5 → 0 ≤ (cntC W).at r) ∧ (∀ e ∈ W, hasB (cntC W) e.r e.n = true) ∧ (H 0).at 0 ≤ (cntC W).at 0 := by
  obtain ⟨h1, h2⟩ := fold_top (l := W) (fun e he => by obtain ⟨r, a, b, _⟩ := hI.ev e he; exact ⟨r, a, b⟩) clk0
  have h0 : ∀ r : Nat, r < 5 → 0 ≤ (cntC W).at r := fun r hr => by
    have := h1 r hr
    rw [at_zero] at this
    exact this
  refine ⟨h0, fun e he => ?_, ?_⟩
  · obtain ⟨r, a, b, c, _⟩ := hI.ev e he
    have := h2 e he r a b
    rw [b]
    exact (has_at a).2 ⟨c, this⟩
  · rcases Int.lt_or_le ((H 0).at 0) 1 with k | k
    · have := h0 0 (by omega)
      omega
    · obtain ⟨e, he, er, en⟩ := hI.all 0 (by omega) _ k (Int.le_refl _)
      have := h2 e he 0 (by omega) er
      rw [en] at this
      exact this
def goneE (n : Clk) (c : Int) (key : ByteArray) : Ev := ⟨0, n.c0 + 1, n, c, 2, key, 0, ⟨#[]⟩⟩
def anewE (n : Clk) (c : Int) (key : ByteArray) : Ev := ⟨0, n.c0 + 1 + 1, ⟨n.c0 + 1, n.c1, n.c2, n.c3, n.c4⟩, c + 1, 1, key, 0, ⟨#[]⟩⟩
def bareC (key : ByteArray) : Cont := ⟨key, false, false, ⟨#[]⟩, ⟨#[]⟩, [], []⟩
theorem contact_nil (key : ByteArray) : contactB key [] = bareC key := by
  have h1 : ∀ n, setsB key n [] = [] := fun n => rfl
  have h2 : ∀ n, addsB key n [] = [] := fun n => rfl
  unfold contactB
  rw [h1, h1, h2, h2, valsF_nil]
  rfl
theorem again_facts {W : List Ev} {H : Nat → Clk} (hI : Inv W H) (c : Int) (key : ByteArray) :
    placeI (ofB (W ++ [goneE (cntC W) c key])) key = -1 ∧
    (0 ≤ placeI (ofB (W ++ [goneE (cntC W) c key, anewE (cntC W) c key])) key ∧ placeI (ofB (W ++ [goneE (cntC W) c key, anewE (cntC W) c key])) key < ((ofB (W ++ [goneE (cntC W) c key, anewE (cntC W) c key])).length : Int) ∧
      (ofB (W ++ [goneE (cntC W) c key, anewE (cntC W) c key])).getD (placeI (ofB (W ++ [goneE (cntC W) c key, anewE (cntC W) c key])) key).toNat default = bareC key) ∧
    (ofB (W ++ [goneE (cntC W) c key, anewE (cntC W) c key])).length = (ofB (W ++ [goneE (cntC W) c key])).length + 1 := by
  obtain ⟨n0, n1, n2⟩ := cnt_ge hI
  have hown := hI.own
  have p0 := n0 0 (by omega)
  generalize cntC W = n at n0 n1 n2 p0 ⊢
  have ga : belowB (goneE n c key) (anewE n c key) = true := (has_at (r := 0) (by omega)).2 ⟨show 1 ≤ n.c0 + 1 by have : 0 ≤ n.c0 := p0; omega, Int.le_refl _⟩
  have xg : ∀ x ∈ W, belowB x (goneE n c key) = true := fun x hx => n1 x hx
  have ax : ∀ x ∈ W, belowB (anewE n c key) x = false := fun x hx => by
    unfold belowB
    rw [Bool.eq_false_iff]
    intro h
    have h := (has_at (r := 0) (by omega)).1 h
    have := (hown x hx 0 (by omega)).2
    have h : 1 ≤ n.c0 + 1 + 1 ∧ n.c0 + 1 + 1 ≤ x.c.at 0 := h
    have n2 : (H 0).at 0 ≤ n.c0 := n2
    omega
  have ag : belowB (anewE n c key) (goneE n c key) = false := by
    unfold belowB
    rw [Bool.eq_false_iff]
    intro h
    have h : 1 ≤ n.c0 + 1 + 1 ∧ n.c0 + 1 + 1 ≤ n.c0 := (has_at (r := 0) (by omega)).1 h
    omega
  have aa : belowB (anewE n c key) (anewE n c key) = false := by
    unfold belowB
    rw [Bool.eq_false_iff]
    intro h
    have h : 1 ≤ n.c0 + 1 + 1 ∧ n.c0 + 1 + 1 ≤ n.c0 + 1 := (has_at (r := 0) (by omega)).1 h
    omega
  have gk : (goneE n c key).key = key ∧ (goneE n c key).k = 2 := ⟨rfl, rfl⟩
  have ak : (anewE n c key).key = key ∧ (anewE n c key).k = 1 := ⟨rfl, rfl⟩
  generalize goneE n c key = g at *
  generalize anewE n c key = a at *
  have e1 : onP (eqK key) (W ++ [g]) = onP (eqK key) W ++ [g] := by rw [on_snoc, if_pos (show eqK key g.key = true from decide_eq_true gk.1)]
  have e2 : onP (eqK key) (W ++ [g, a]) = onP (eqK key) W ++ [g, a] := by
    rw [show W ++ [g, a] = (W ++ [g]) ++ [a] by simp, on_snoc, e1, if_pos (show eqK key a.key = true from decide_eq_true ak.1), List.append_assoc]
    rfl
  have f1 : onP (fun k => !eqK key k) (W ++ [g]) = onP (fun k => !eqK key k) W := by rw [on_snoc, if_neg (by unfold eqK; rw [decide_eq_true gk.1]; simp), List.append_nil]
  have f2 : onP (fun k => !eqK key k) (W ++ [g, a]) = onP (fun k => !eqK key k) W := by
    rw [show W ++ [g, a] = (W ++ [g]) ++ [a] by simp, on_snoc, f1, if_neg (by unfold eqK; rw [decide_eq_true ak.1]; simp), List.append_nil]
  have hsub : ∀ x ∈ onP (eqK key) W, x ∈ W := fun x hx => (List.mem_filter.1 hx).1
  have hkW : ∀ x ∈ onP (eqK key) W, x.key = key := on_key
  -- none lives behind the Delete
  have dead : ∀ (V : List Ev), g ∈ V → ∀ x ∈ onP (eqK key) W, livesB V x = false := fun V hg x hx => by
    have : aboveB 2 sameK V x = true := List.any_eq_true.2 ⟨g, hg, by
      rw [decide_eq_true gk.2, xg x (hsub x hx), show sameK g x = true from decide_eq_true (by rw [gk.1, hkW x hx])]
      rfl⟩
    unfold livesB
    rw [this]
    simp
  have gl : ∀ V, livesB V g = false := fun V => by unfold livesB; rw [gk.2]; rfl
  have l1 : livingB (onP (eqK key) W ++ [g]) = [] := by
    unfold livingB
    rw [List.filter_eq_nil_iff]
    intro x hx
    rcases List.mem_append.1 hx with hx | hx
    · rw [dead _ (by simp) x hx]; simp
    · rw [List.mem_singleton.1 hx, gl]; simp
  have al : livesB (onP (eqK key) W ++ [g, a]) a = true := by
    have : aboveB 2 sameK (onP (eqK key) W ++ [g, a]) a = false := by
      unfold aboveB
      rw [List.any_eq_false]
      intro x hx
      have : belowB a x = false := by
        rcases List.mem_append.1 hx with hx | hx
        · exact ax x (hsub x hx)
        · simp only [List.mem_cons, List.not_mem_nil, or_false] at hx
          rcases hx with rfl | rfl
          · exact ag
          · exact aa
      rw [this]
      simp
    unfold livesB
    rw [this, decide_eq_true ak.2]
    rfl
  have l2 : livingB (onP (eqK key) W ++ [g, a]) = [a] := by
    unfold livingB
    rw [List.filter_append, List.filter_cons, List.filter_cons, gl, al]
    have : (onP (eqK key) W).filter (livesB (onP (eqK key) W ++ [g, a])) = [] := by
      rw [List.filter_eq_nil_iff]
      intro x hx
      rw [dead _ (by simp) x hx]
      simp
    rw [this]
    rfl
  have c2 : countingB (onP (eqK key) W ++ [g, a]) [a] = [] := by
    unfold countingB
    rw [List.filter_eq_nil_iff]
    intro x hx
    have : belowB a x = false := by
      rcases List.mem_append.1 hx with hx | hx
      · exact ax x (hsub x hx)
      · simp only [List.mem_cons, List.not_mem_nil, or_false] at hx
        rcases hx with rfl | rfl
        · exact ag
        · exact aa
    have : underB 1 sameK [a] x = false := by
      unfold underB
      rw [List.any_cons, List.any_nil, this]
      simp
    unfold countB
    rw [this]
    simp
  have k1 := of_eqK (W ++ [g]) key
  have k2 := of_eqK (W ++ [g, a]) key
  have hks : ∀ x ∈ onP (eqK key) W ++ [g, a], x.key = key := fun x hx => by
    rcases List.mem_append.1 hx with hx | hx
    · exact hkW x hx
    · simp only [List.mem_cons, List.not_mem_nil, or_false] at hx
      rcases hx with rfl | rfl
      · exact gk.1
      · exact ak.1
  rw [e1, of_same (key := key) (fun x hx => hks x (by
    rcases List.mem_append.1 hx with hx | hx
    · exact List.mem_append.2 (.inl hx)
    · exact List.mem_append.2 (.inr (by rw [List.mem_singleton.1 hx]; simp)))), l1, if_pos rfl] at k1
  rw [e2, of_same hks, l2, if_neg (by simp), c2, contact_nil] at k2
  refine ⟨place_no k1.symm, place_yes k2.symm, ?_⟩
  have t1 := len_two (q := fun c : Cont => decide (c.key = key)) (ofB (W ++ [g]))
  have t2 := len_two (q := fun c : Cont => decide (c.key = key)) (ofB (W ++ [g, a]))
  have w1 : woL (ofB (W ++ [g])) key = ofB (onP (fun k => !eqK key k) W) := by rw [← of_neK, f1]
  have w2 : woL (ofB (W ++ [g, a])) key = ofB (onP (fun k => !eqK key k) W) := by rw [← of_neK, f2]
  have w1 : ((ofB (W ++ [g])).filter fun c => !decide (c.key = key)) = _ := w1
  have w2 : ((ofB (W ++ [g, a])).filter fun c => !decide (c.key = key)) = _ := w2
  rw [w1, ← k1, List.length_nil] at t1
  rw [w2, ← k2, List.length_singleton] at t2
  omega
end Go.Proofs.Ytihjfndkgmjanaa
