/-
  Plain Lean: the last one of stamps is the one that none is later than.
-/
import Derived.Test.YtihjfndkgmjanaaBkL
namespace Go.Proofs.Ytihjfndkgmjanaa
open Go.RowKit

theorem less_iff (a b : St) : lessB a b = true ↔ a.1 < b.1 ∨ (a.1 = b.1 ∧ a.2 < b.2) := by
  unfold lessB
  split
  · rename_i h
    simp only [decide_eq_true_eq]
    omega
  · rename_i h
    simp only [decide_eq_true_eq]
    omega
theorem top_max : ∀ (l : List St) (m : St), ¬ lessB (topB m l) m = true ∧ ∀ x ∈ l, ¬ lessB (topB m l) x = true
  | [], m => by
    refine ⟨fun h => ?_, fun x hx => absurd hx (by simp)⟩
    have := (less_iff m m).1 h
    omega
  | x :: l, m => by
    obtain ⟨h1, h2⟩ := top_max l (if lessB m x = true then x else m)
    show ¬ lessB (topB (if lessB m x = true then x else m) l) m = true ∧ ∀ y ∈ x :: l, ¬ lessB (topB (if lessB m x = true then x else m) l) y = true
    generalize topB (if lessB m x = true then x else m) l = t at h1 h2
    have h3 : ¬ lessB t m = true ∧ ¬ lessB t x = true := by
      split at h1
      · rename_i hmx
        rw [less_iff] at hmx h1
        refine ⟨?_, by rw [less_iff]; exact h1⟩
        rw [less_iff]
        omega
      · rename_i hmx
        rw [less_iff] at hmx h1
        refine ⟨by rw [less_iff]; exact h1, ?_⟩
        rw [less_iff]
        omega
    refine ⟨h3.1, fun y hy => ?_⟩
    rcases List.mem_cons.1 hy with rfl | hy
    · exact h3.2
    · exact h2 y hy
theorem top_is {l : List St} {t : St} (ht : t ∈ l) (hm : ∀ x ∈ l, ¬ lessB t x = true) : topB (l.getD 0 default) l = t := by
  obtain ⟨h1, h2⟩ := top_max l (l.getD 0 default)
  have hin : topB (l.getD 0 default) l ∈ l := by
    rcases top_mem l (l.getD 0 default) with h | h
    · rw [h]
      cases l with
      | nil => cases ht
      | cons x l => exact List.mem_cons_self
    · exact h
  have a := hm _ hin
  have b := h2 _ ht
  rw [less_iff] at a b
  generalize topB (l.getD 0 default) l = s at a b
  obtain ⟨s1, s2⟩ := s
  obtain ⟨t1, t2⟩ := t
  simp only at a b
  refine Prod.ext ?_ ?_ <;> simp only <;> omega
end Go.Proofs.Ytihjfndkgmjanaa
