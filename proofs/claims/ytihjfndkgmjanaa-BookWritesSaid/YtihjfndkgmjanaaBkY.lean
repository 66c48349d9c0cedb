/-
  Plain Lean: of writes of one field the highest one is shown, and of these that of the greatest replica.
-/
import Derived.Test.YtihjfndkgmjanaaBkX
import Derived.Test.YtihjfndkgmjanaaBkW
namespace Go.Proofs.Ytihjfndkgmjanaa
open Go.RowKit

theorem less_iff (a b : St) : lessB a b = true ↔ a.1 < b.1 ∨ (a.1 = b.1 ∧ a.2 < b.2) := by
  unfold lessB
  split
  · rename_i h
    simp only [decide_eq_true_eq]
    omega
  · rename_i h
    simp only [decide_eq_true_eq]
    omega
theorem top_max : ∀ (l : List St) (m : St), ¬ lessB (topB m l) m = true ∧ ∀ x ∈ l, ¬ lessB (topB m l) x = true
  | [], m => by
    refine ⟨fun h => ?_, fun x hx => absurd hx (by simp)⟩
    have := (less_iff m m).1 h
    omega
  | x :: l, m => by
    obtain ⟨h1, h2⟩ := top_max l (if lessB m x = true then x else m)
    show ¬ lessB (topB (if lessB m x = true then x else m) l) m = true ∧ ∀ y ∈ x :: l, ¬ lessB (topB (if lessB m x = true then x else m) l) y = true
    generalize topB (if lessB m x = true then x else m) l = t at h1 h2
    have h3 : ¬ lessB t m = true ∧ ¬ lessB t x = true := by
      split at h1
      · rename_i hmx
        rw [less_iff] at hmx h1
        refine ⟨?_, by rw [less_iff]; exact h1⟩
        rw [less_iff]
        omega
      · rename_i hmx
        rw [less_iff] at hmx h1
        refine ⟨by rw [less_iff]; exact h1, ?_⟩
        rw [less_iff]
        omega
    refine ⟨h3.1, fun y hy => ?_⟩
    rcases List.mem_cons.1 hy with rfl | hy
    · exact h3.2
    · exact h2 y hy
theorem top_is {l : List St} {t : St} (ht : t ∈ l) (hm : ∀ x ∈ l, ¬ lessB t x = true) : topB (l.getD 0 default) l = t := by
  obtain ⟨h1, h2⟩ := top_max l (l.getD 0 default)
  have hin : topB (l.getD 0 default) l ∈ l := by
    rcases top_mem l (l.getD 0 default) with h | h
    · rw [h]
      cases l with
      | nil => cases ht
      | cons x l => exact List.mem_cons_self
    · exact h
  have a := hm _ hin
  have b := h2 _ ht
  rw [less_iff] at a b
  generalize topB (l.getD 0 default) l = s at a b
  obtain ⟨s1, s2⟩ := s
  obtain ⟨t1, t2⟩ := t
  simp only at a b
  refine Prod.ext ?_ ?_ <;> simp only <;> omega
/-- What is shown of a field is the value of a write with the last stamp. -/
theorem field_of {A : List Ev} (h : ¬ A.length = 0) : ∃ e ∈ A, fieldF A = e.v ∧ stampE e = topB ((A.map stampE).getD 0 default) (A.map stampE) := by
  have hlt := last_lt (l := A.map stampE) (by intro e; exact h (by rw [← List.length_map (f := stampE), e]; rfl))
  have hg := List.findIdx_getElem (p := fun s => decide (s = topB ((A.map stampE).getD 0 default) (A.map stampE))) (xs := A.map stampE) (w := hlt)
  have hlt' := hlt
  rw [List.length_map] at hlt
  refine ⟨A[lastN (A.map stampE)], List.getElem_mem hlt, ?_, ?_⟩
  · rw [fieldF, if_neg h, getD_get (by rw [List.length_map]; exact hlt), List.getElem_map, arr_strL]
  · have := of_decide_eq_true hg
    have e2 : (A.map stampE)[lastN (A.map stampE)]'hlt' = stampE (A[lastN (A.map stampE)]) := List.getElem_map ..
    exact e2.symm.trans this

def wrA (ms : List Nat) : Nat → List Ev
  | 0 => []
  | r + 1 => wrA ms r ++ wrB r (ms.getD r 0)
theorem wrL_eq (ms : List Nat) : ∀ r, wrL ms r = crE :: wrA ms r
  | 0 => rfl
  | r + 1 => by rw [wrL, wrL_eq ms r, List.cons_append]; rfl
theorem wrA_mem {ms : List Nat} {e : Ev} : ∀ {R : Nat}, e ∈ wrA ms R ↔ ∃ r k, r < R ∧ k < ms.getD r 0 ∧ e = wrE r k
  | 0 => by simp [wrA]
  | R + 1 => by
    rw [wrA, List.mem_append, wrA_mem, wrB, List.mem_map]
    constructor
    · rintro (⟨r, k, h1, h2, h3⟩ | ⟨k, h1, h2⟩)
      · exact ⟨r, k, by omega, h2, h3⟩
      · exact ⟨R, k, by omega, List.mem_range.1 h1, h2.symm⟩
    · rintro ⟨r, k, h1, h2, h3⟩
      rcases Nat.lt_or_ge r R with h | h
      · exact .inl ⟨r, k, h, h2, h3⟩
      · obtain rfl : r = R := by omega
        exact .inr ⟨k, List.mem_range.2 h2, h3.symm⟩
theorem wrE_is {r k : Nat} (hr : r < 5) : (wrE r k).k = 3 ∧ (wrE r k).key = cyS ∧ (wrE r k).l = 0 ∧ (wrE r k).v = wrV r k ∧ stampE (wrE r k) = ((k : Int) + 2, (r : Int)) ∧ belowB crE (wrE r k) = true := by
  rcases (show r = 0 ∨ r = 1 ∨ r = 2 ∨ r = 3 ∨ r = 4 by omega) with rfl | rfl | rfl | rfl | rfl
  all_goals
    refine ⟨rfl, rfl, rfl, rfl, rfl, ?_⟩
    simp [belowB, hasB, crE, wrE, Clk.get]
    try omega

theorem best_inv (ms : List Nat) : ∀ R, ((bestN ms R).1 = -1 ∧ (bestN ms R).2 = 0 ∧ ∀ r, r < R → ms.getD r 0 = 0) ∨ (∃ r0, r0 < R ∧ (bestN ms R).1 = (r0 : Int) ∧ ms.getD r0 0 = (bestN ms R).2 ∧ 0 < (bestN ms R).2 ∧ ∀ r, r < R → ms.getD r 0 < (bestN ms R).2 ∨ (ms.getD r 0 = (bestN ms R).2 ∧ r ≤ r0))
  | 0 => .inl ⟨rfl, rfl, fun r hr => absurd hr (Nat.not_lt_zero r)⟩
  | R + 1 => by
    have ih := best_inv ms R
    rw [bestN]
    split
    · rename_i h
      refine .inr ⟨R, by omega, rfl, rfl, h.2, fun r hr => ?_⟩
      show ms.getD r 0 < ms.getD R 0 ∨ (ms.getD r 0 = ms.getD R 0 ∧ r ≤ R)
      rcases Nat.lt_or_ge r R with h' | h'
      · rcases ih with ⟨_, h2, h3⟩ | ⟨r0, _, _, h3, h4, h5⟩
        · have := h3 r h'
          omega
        · have := h5 r h'
          omega
      · obtain rfl : r = R := by omega
        exact .inr ⟨rfl, Nat.le_refl _⟩
    · rename_i h
      rcases ih with ⟨h1, h2, h3⟩ | ⟨r0, h0, h1, h3, h4, h5⟩
      · refine .inl ⟨h1, h2, fun r hr => ?_⟩
        rcases Nat.lt_or_ge r R with h' | h'
        · exact h3 r h'
        · obtain rfl : r = R := by omega
          omega
      · refine .inr ⟨r0, by omega, h1, h3, h4, fun r hr => ?_⟩
        rcases Nat.lt_or_ge r R with h' | h'
        · exact h5 r h'
        · obtain rfl : r = R := by omega
          omega

theorem writes_of (ms : List Nat) (hms : ∀ r, ms.getD r 0 ≤ 7) : ∃ c, ofB (wrL ms 5) = [c] ∧ Won c (bestN ms 5) := by
  have hmem : ∀ e, e ∈ wrA ms 5 → ∃ r k, r < 5 ∧ k < ms.getD r 0 ∧ e = wrE r k := fun e he => wrA_mem.1 he
  have hmk : ∀ r k, r < 5 → k < ms.getD r 0 → wrE r k ∈ wrA ms 5 := fun r k h1 h2 => wrA_mem.2 ⟨r, k, h1, h2, rfl⟩
  have hk3 : ∀ e ∈ wrA ms 5, e.k = 3 ∧ e.key = cyS ∧ e.l = 0 ∧ belowB crE e = true := fun e he => by
    obtain ⟨r, k, h1, _, rfl⟩ := hmem e he
    obtain ⟨a, b, c, _, _, f⟩ := wrE_is (k := k) h1
    exact ⟨a, b, c, f⟩
  have hliv : livingB (wrL ms 5) = [crE] := by
    unfold livingB
    rw [wrL_eq, List.filter_cons, if_pos, List.filter_eq_nil_iff.2]
    · intro e he
      rw [livesB, (hk3 e he).1]
      simp
    · have : aboveB 2 sameK (crE :: wrA ms 5) crE = false := by
        rw [aboveB, List.any_eq_false]
        intro e he
        rcases List.mem_cons.1 he with rfl | he
        · simp [crE]
        · rw [(hk3 e he).1]
          simp
      rw [livesB, this]
      rfl
  have hcou : countingB (wrL ms 5) [crE] = wrA ms 5 := by
    unfold countingB
    rw [wrL_eq, List.filter_cons, if_neg, List.filter_eq_self.2]
    · intro e he
      obtain ⟨h1, h2, _, h4⟩ := hk3 e he
      simp [countB, underB, h1, sameK, h2, crE]
      exact h4
    · simp [countB, crE]
  have hset : setsB cyS 0 (wrA ms 5) = wrA ms 5 := List.filter_eq_self.2 fun e he => by
    obtain ⟨h1, h2, h3, _⟩ := hk3 e he
    simp [ofK, h1, h2, h3]
  refine ⟨contactB cyS (wrA ms 5), ?_, fun h => ?_, fun h => ?_⟩
  · unfold ofB keysB
    rw [hliv, hcou, List.map_cons, List.map_nil, show crE.key = cyS from rfl, sortL_one, compact_one, List.map_cons, List.map_nil]
    rfl
  · show hasF (setsB cyS 0 (wrA ms 5)) = false
    rw [hset]
    rcases best_inv ms 5 with ⟨_, _, h3⟩ | ⟨r0, _, h1, _⟩
    · have : wrA ms 5 = [] := List.eq_nil_iff_forall_not_mem.2 fun e he => by
        obtain ⟨r, k, h1, h2, _⟩ := hmem e he
        have := h3 r h1
        omega
      rw [this]
      rfl
    · omega
  · show _ ∧ _ ∧ _ ∧ fieldF (setsB cyS 0 (wrA ms 5)) = _
    rw [hset]
    rcases best_inv ms 5 with ⟨h1, _⟩ | ⟨r0, h0, h1, h2, h3, h4⟩
    · omega
    · have h7 := hms r0
      refine ⟨h3, by omega, by omega, ?_⟩
      have hin := hmk r0 ((bestN ms 5).2 - 1) h0 (by omega)
      have hst : stampE (wrE r0 ((bestN ms 5).2 - 1)) = (((bestN ms 5).2 : Int) + 1, (r0 : Int)) := by
        rw [(wrE_is h0).2.2.2.2.1]
        refine Prod.ext ?_ rfl
        show (((bestN ms 5).2 - 1 : Nat) : Int) + 2 = _
        omega
      have hne : ¬ (wrA ms 5).length = 0 := fun h => by
        rw [List.eq_nil_of_length_eq_zero h] at hin
        cases hin
      obtain ⟨e, he, hv, ht⟩ := field_of hne
      rw [top_is (t := (((bestN ms 5).2 : Int) + 1, (r0 : Int))) (by rw [← hst]; exact List.mem_map_of_mem hin) (fun x hx => by
        obtain ⟨e', he', rfl⟩ := List.mem_map.1 hx
        obtain ⟨r, k, k1, k2, rfl⟩ := hmem e' he'
        rw [(wrE_is k1).2.2.2.2.1, less_iff]
        have := h4 r k1
        simp only
        omega)] at ht
      rw [hv]
      obtain ⟨r, k, k1, k2, rfl⟩ := hmem e he
      rw [(wrE_is k1).2.2.2.2.1] at ht
      obtain ⟨t1, t2⟩ := Prod.mk.inj ht
      obtain rfl : r = r0 := by omega
      rw [(wrE_is k1).2.2.2.1, wrV, h1, show (48 : Int) + (k : Int) = 48 + ((bestN ms 5).2 : Int) - 1 by omega]
theorem writes_true (a0 a1 a2 a3 a4 : Int) (h : (0 ≤ a0 ∧ a0 ≤ 255) ∧ (0 ≤ a1 ∧ a1 ≤ 255) ∧ (0 ≤ a2 ∧ a2 ≤ 255) ∧ (0 ≤ a3 ∧ a3 ≤ 255) ∧ (0 ≤ a4 ∧ a4 ≤ 255)) :
    ASpec Try.prog 4 [.agg [.v (.int .u8 a0), .v (.int .u8 a1), .v (.int .u8 a2), .v (.int .u8 a3), .v (.int .u8 a4)]] (.v (.bool true)) [] := by
  obtain ⟨h0, h1, h2, h3, h4⟩ := h
  obtain ⟨c, hc, hw⟩ := writes_of [(a0 % 8).toNat, (a1 % 8).toNat, (a2 % 8).toNat, (a3 % 8).toNat, (a4 % 8).toNat] (fun r => by
    match r with
    | 0 | 1 | 2 | 3 | 4 => simp; omega
    | r + 5 => simp)
  exact writes_spec a0 a1 a2 a3 a4 _ _ _ _ _ h0 h1 h2 h3 h4 (by omega) (by omega) (by omega) (by omega) (by omega) c hc hw
end Go.Proofs.Ytihjfndkgmjanaa
