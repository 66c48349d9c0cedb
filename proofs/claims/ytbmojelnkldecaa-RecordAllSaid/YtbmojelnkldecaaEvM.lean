/-
  Plain Lean: what an event that may be is like.
-/
import Derived.Test.YtbmojelnkldecaaPlain
namespace Go.Proofs.Ytbmojelnkldecaa

theorem withinB_true {n a b : Int} (h : withinB n a b = true) : a ≤ n ∧ n ≤ b := by simpa [withinB] using h
theorem withinB_of {n a b : Int} (h : a ≤ n ∧ n ≤ b) : withinB n a b = true := by simp [withinB, h.1, h.2]

/-- What an event that may be is like. -/
structure MayB (e : Ev) : Prop where
  r0 : 0 ≤ e.r
  r4 : e.r ≤ 4
  n1 : 1 ≤ e.n
  n2 : e.n ≤ 1048576
  h1 : 1 ≤ e.h
  h2 : e.h ≤ 16777216
  a0 : 0 ≤ e.c.c0 ∧ e.c.c0 ≤ 1048576
  a1 : 0 ≤ e.c.c1 ∧ e.c.c1 ≤ 1048576
  a2 : 0 ≤ e.c.c2 ∧ e.c.c2 ≤ 1048576
  a3 : 0 ≤ e.c.c3 ∧ e.c.c3 ≤ 1048576
  a4 : 0 ≤ e.c.c4 ∧ e.c.c4 ≤ 1048576
  own : e.c.get e.r = e.n - 1
  ed : editE e.ed = 0

theorem mayE_zero {e : Ev} (h : mayE e = 0) : MayB e := by
  unfold mayE at h
  split at h
  · cases h
  · rename_i g1
    split at h
    · cases h
    · rename_i g2
      split at h
      · cases h
      · rename_i g3
        simp only [Bool.not_eq_true, Bool.not_eq_false', Bool.and_eq_true, okN] at g1 g2
        simp only [bne_iff_ne, ne_eq, Decidable.not_not] at g3
        obtain ⟨⟨hr, hn⟩, hh⟩ := g1
        obtain ⟨⟨⟨⟨h0, h1⟩, h2⟩, h3⟩, h4⟩ := g2
        exact ⟨(withinB_true hr).1, (withinB_true hr).2, (withinB_true hn).1, (withinB_true hn).2, (withinB_true hh).1, (withinB_true hh).2, withinB_true h0, withinB_true h1, withinB_true h2, withinB_true h3, withinB_true h4, g3, h⟩

/-- What an edit that may be is like. -/
theorem editE_zero {e : Ed} (h : editE e = 0) : 1 ≤ e.k ∧ e.k ≤ 5 ∧ 1 ≤ e.key.size ∧ e.key.size ≤ 8 ∧ lettersB e.key = true ∧ (isLong e.k = true → 0 ≤ e.l ∧ e.l ≤ 1 ∧ 1 ≤ e.v.size ∧ e.v.size ≤ 12) ∧ (isLong e.k = false → e.l = 0 ∧ e.v.size = 0) := by
  unfold editE at h
  by_cases h1 : e.k < 1 ∨ 5 < e.k
  · rw [if_pos h1] at h; cases h
  · rw [if_neg h1] at h
    by_cases h2 : keyE e.key ≠ 0
    · rw [if_pos h2] at h; exact absurd h h2
    · rw [if_neg h2] at h
      have hk : keyE e.key = 0 := by simpa using h2
      unfold keyE at hk
      split at hk
      · rename_i hk'
        refine ⟨by omega, by omega, hk'.1, hk'.2.1, hk'.2.2, ?_, ?_⟩
        · intro hl
          simp only [isLong, Bool.and_eq_true, bne_iff_ne, ne_eq] at hl
          rw [if_neg (by omega)] at h
          by_cases h3 : labelE e.l ≠ 0
          · rw [if_pos h3] at h; exact absurd h h3
          · rw [if_neg h3] at h
            have h4 : labelE e.l = 0 := by simpa using h3
            unfold labelE at h4
            unfold valueE at h
            split at h4
            · split at h
              · rename_i a b; exact ⟨by omega, by omega, b.1, b.2⟩
              · cases h
            · cases h4
        · intro hl
          simp only [isLong, Bool.and_eq_false_iff, bne_eq_false_iff_eq] at hl
          rw [if_pos hl] at h
          by_cases h3 : e.l ≠ 0
          · rw [if_pos h3] at h; cases h
          · rw [if_neg h3] at h
            by_cases h4 : e.v.size ≠ 0
            · rw [if_pos h4] at h; cases h
            · exact ⟨by simpa using h3, by simpa using h4⟩
      · cases hk

theorem mayE_of {e : Ev} (m : MayB e) : mayE e = 0 := by
  unfold mayE okN
  rw [withinB_of ⟨m.r0, m.r4⟩, withinB_of ⟨m.n1, m.n2⟩, withinB_of ⟨m.h1, m.h2⟩, withinB_of m.a0, withinB_of m.a1, withinB_of m.a2, withinB_of m.a3, withinB_of m.a4]
  have := m.own
  simp [this, m.ed]

end Go.Proofs.Ytbmojelnkldecaa
