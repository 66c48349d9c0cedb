/-
  Plain Lean: rows of strings sorted, each once.
-/
import Derived.Lib.RowBridge
namespace Go.Proofs.Ytihjfndkgmjanaa
open Go.Lib

abbrev Str := List UInt8
theorem str_le_of_lt {a b : Str} (h : a < b) : a ≤ b := List.le_of_lt h
theorem str_lt_irrefl (a : Str) : ¬ a < a := List.lt_irrefl a
theorem str_lt_of_le {a b : Str} (h : a ≤ b) (hn : a ≠ b) : a < b := by
  rcases List.le_iff_lt_or_eq.1 h with h | h
  · exact h
  · exact absurd h hn
theorem str_lt_of_le_lt {a b c : Str} (h : a ≤ b) (k : b < c) : a < c := List.lt_of_le_of_lt h k
theorem str_lt_trans {a b c : Str} (h : a < b) (k : b < c) : a < c := List.lt_of_le_of_lt (str_le_of_lt h) k

/-- The elements of a row, rising, each once. -/
def uniq (l : List Str) : List Str := Lib.compact (l.mergeSort fun x y => decide (x ≤ y))

theorem compactUpTo_props (d : Array Str) (hs : ∀ i j, i ≤ j → j < d.size → d[i]! ≤ d[j]!) : ∀ m, m ≤ d.size → (compactUpTo d m).Pairwise (· < ·) ∧ (∀ x ∈ compactUpTo d m, ∃ j, j < m ∧ x = d[j]!) ∧ ∀ j, j < m → d[j]! ∈ compactUpTo d m
  | 0, _ => by
    refine ⟨?_, fun x hx => ?_, fun j hj => absurd hj (Nat.not_lt_zero j)⟩
    · show (compactUpTo d 0).Pairwise _
      exact List.Pairwise.nil
    · exact absurd hx (by show x ∉ ([] : List Str); simp)
  | m + 1, hm => by
    obtain ⟨h1, h2, h3⟩ := compactUpTo_props d hs m (by omega)
    rw [compactUpTo_succ]
    by_cases hk : keeps d m = true
    · rw [if_pos hk]
      refine ⟨?_, fun x hx => ?_, fun j hj => ?_⟩
      · refine List.pairwise_append.2 ⟨h1, List.pairwise_singleton _ _, fun x hx y hy => ?_⟩
        rw [List.mem_singleton.1 hy]
        obtain ⟨j, hj, rfl⟩ := h2 x hx
        have hne : m = 0 ∨ d[m]! ≠ d[m - 1]! := of_decide_eq_true hk
        have hne : d[m]! ≠ d[m - 1]! := by
          rcases hne with h | h
          · omega
          · exact h
        exact str_lt_of_le_lt (hs j (m - 1) (by omega) (by omega)) (str_lt_of_le (hs (m - 1) m (by omega) (by omega)) fun e => hne e.symm)
      · rcases List.mem_append.1 hx with hx | hx
        · obtain ⟨j, hj, e⟩ := h2 x hx
          exact ⟨j, by omega, e⟩
        · exact ⟨m, by omega, List.mem_singleton.1 hx⟩
      · rcases Nat.lt_or_ge j m with h | h
        · exact List.mem_append.2 (.inl (h3 j h))
        · obtain rfl : j = m := by omega
          exact List.mem_append.2 (.inr (List.mem_singleton.2 rfl))
    · rw [if_neg hk, List.append_nil]
      refine ⟨h1, fun x hx => ?_, fun j hj => ?_⟩
      · obtain ⟨j, hj, e⟩ := h2 x hx
        exact ⟨j, by omega, e⟩
      · rcases Nat.lt_or_ge j m with h | h
        · exact h3 j h
        · obtain rfl : j = m := by omega
          have hk : ¬ (j = 0 ∨ d[j]! ≠ d[j - 1]!) := fun h => hk (decide_eq_true h)
          have e : d[j]! = d[j - 1]! := Classical.byContradiction fun h => hk (.inr h)
          rw [e]
          exact h3 (j - 1) (by have : j ≠ 0 := fun h => hk (.inl h); omega)

theorem sort_pairwise (l : List Str) : (l.mergeSort fun x y => decide (x ≤ y)).Pairwise (· ≤ ·) := by
  have tr : ∀ a b c : Str, decide (a ≤ b) = true → decide (b ≤ c) = true → decide (a ≤ c) = true := fun a b c h1 h2 => by simp only [decide_eq_true_eq] at *; exact List.le_trans h1 h2
  have to : ∀ a b : Str, (decide (a ≤ b) || decide (b ≤ a)) = true := fun a b => by simp only [Bool.or_eq_true, decide_eq_true_eq]; exact List.le_total a b
  exact (List.pairwise_mergeSort tr to l).imp fun h => of_decide_eq_true h
theorem str_le_refl (a : Str) : a ≤ a := List.le_refl a

theorem uniq_props (l : List Str) : (uniq l).Pairwise (· < ·) ∧ ∀ x, x ∈ uniq l ↔ x ∈ l := by
  have hp := sort_pairwise l
  have hm : ∀ x, x ∈ (l.mergeSort fun x y => decide (x ≤ y)) ↔ x ∈ l := fun x => List.mem_mergeSort
  unfold uniq
  generalize (l.mergeSort fun x y => decide (x ≤ y)) = s at hp hm
  have hg : ∀ i (h : i < s.length), s.toArray[i]! = s[i] := fun i h => by simp [h]
  obtain ⟨h1, h2, h3⟩ := compactUpTo_props s.toArray (fun i j hij hj => by
    have hj : j < s.length := hj
    rw [hg j hj, hg i (by omega)]
    rcases Nat.lt_or_ge i j with h | h
    · exact List.pairwise_iff_getElem.1 hp i j (by omega) hj h
    · obtain rfl : i = j := by omega
      exact str_le_refl _) s.length (Nat.le_refl _)
  refine ⟨h1, fun x => ?_⟩
  rw [← hm]
  constructor
  · intro hx
    obtain ⟨j, hj, rfl⟩ := h2 x hx
    rw [hg j hj]
    exact List.getElem_mem _
  · intro hx
    obtain ⟨j, hj, rfl⟩ := List.getElem_of_mem hx
    have := h3 j hj
    rw [hg j hj] at this
    exact this
/-- Two rising rows with the same elements are one. -/
theorem rising_eq : ∀ {a b : List Str}, a.Pairwise (· < ·) → b.Pairwise (· < ·) → (∀ x, x ∈ a ↔ x ∈ b) → a = b
  | [], [], _, _, _ => rfl
  | [], y :: _, _, _, h => absurd ((h y).2 List.mem_cons_self) (by simp)
  | x :: _, [], _, _, h => absurd ((h x).1 List.mem_cons_self) (by simp)
  | x :: a, y :: b, ha, hb, h => by
    obtain ⟨ha1, ha2⟩ := List.pairwise_cons.1 ha
    obtain ⟨hb1, hb2⟩ := List.pairwise_cons.1 hb
    have e : x = y := by
      rcases List.mem_cons.1 ((h x).1 List.mem_cons_self) with e | hx
      · exact e
      · rcases List.mem_cons.1 ((h y).2 List.mem_cons_self) with e | hy
        · exact e.symm
        · exact absurd (str_lt_trans (hb1 x hx) (ha1 y hy)) (str_lt_irrefl _)
    subst e
    rw [rising_eq ha2 hb2 fun z => ⟨fun hz => ?_, fun hz => ?_⟩]
    · rcases List.mem_cons.1 ((h z).1 (List.mem_cons_of_mem _ hz)) with e | h'
      · exact absurd (e ▸ ha1 z hz) (str_lt_irrefl _)
      · exact h'
    · rcases List.mem_cons.1 ((h z).2 (List.mem_cons_of_mem _ hz)) with e | h'
      · exact absurd (e ▸ hb1 z hz) (str_lt_irrefl _)
      · exact h'
theorem uniq_of_mem {a b : List Str} (h : ∀ x, x ∈ a ↔ x ∈ b) : uniq a = uniq b :=
  rising_eq (uniq_props a).1 (uniq_props b).1 fun x => by rw [(uniq_props a).2, (uniq_props b).2, h]
end Go.Proofs.Ytihjfndkgmjanaa
