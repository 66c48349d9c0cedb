/-
  Plain Lean: how big what few events come to is.
-/
import Derived.Test.YtihjfndkgmjanaaBkP1
import Derived.Test.YtihjfndkgmjanaaBkU
namespace Go.Proofs.Ytihjfndkgmjanaa
open Go.RowKit

theorem uniq_few (l : List Str) : (uniq l).length ≤ l.length := by
  have := compact_le (l.mergeSort fun x y => decide (x ≤ y))
  rw [List.length_mergeSort] at this
  exact this
theorem sum_const {α : Type} {m : α → Nat} {k : Nat} : ∀ {l : List α}, (∀ x ∈ l, m x ≤ k) → (l.map m).sum ≤ l.length * k
  | [], _ => by simp
  | y :: l, h => by
    rw [List.map_cons, List.sum_cons, List.length_cons, Nat.add_mul]
    have := sum_const (m := m) (k := k) fun x hx => h x (List.mem_cons_of_mem _ hx)
    have := h y List.mem_cons_self
    omega
/-- Of contacts of bulk: what their bytes ask for. -/
theorem bytes_mid {l : List Cont} (h : (l.map contW).sum ≤ 4294967296) : l.length ≤ 4294967296 ∧ (∀ c ∈ l, c.mod) ∧ (bytesC l).length ≤ 140737488355328 := by
  refine ⟨?_, fun c hc => ?_, ?_⟩
  · have := sum_len contW_pos l
    omega
  · have := sum_mem (m := contW) hc
    exact mod_of (k := 4294967296) (by omega) (by omega)
  · have := flat_len_le cont_len l
    unfold bytesC
    omega
theorem vals_few {B : List Ev} {M : Nat} (h : ∀ e ∈ B, e.v.size ≤ M) : setW (valsF B) ≤ B.length * (M + 1) + 1 := by
  have h1 : (valsF B).length ≤ B.length := by
    have := uniq_few (B.map fun e => strL e.v)
    rwa [List.length_map] at this
  have h2 : ∀ x ∈ valsF B, strW x ≤ M + 1 := fun x hx => by
    have hx : x ∈ uniq (B.map fun e => strL e.v) := hx
    rw [(uniq_props _).2] at hx
    obtain ⟨e, he, rfl⟩ := List.mem_map.1 hx
    have := h e he
    show e.v.data.toList.length + 1 ≤ M + 1
    rw [Array.length_toList]
    exact Nat.succ_le_succ this
  have h3 := sum_const (m := strW) h2
  have h4 := Nat.mul_le_mul_right (M + 1) h1
  unfold setW
  omega
theorem field_few {A : List Ev} {M : Nat} (h : ∀ e ∈ A, e.v.size ≤ M) : (fieldF A).size ≤ M := by
  unfold fieldF
  split
  · exact Nat.zero_le _
  · show ((A.map fun e => strL e.v).getD (lastN (A.map stampE)) []).length ≤ M
    rw [List.getD]
    cases hx : (A.map fun e => strL e.v)[lastN (A.map stampE)]? with
    | none => exact Nat.zero_le _
    | some y =>
      obtain ⟨e, he, rfl⟩ := List.mem_map.1 (List.mem_of_getElem? hx)
      have := h e he
      show e.v.data.toList.length ≤ M
      rw [Array.length_toList]
      exact this
theorem cont_few {ws : List Ev} {key : ByteArray} {M n : Nat} (h : ∀ e ∈ ws, e.v.size ≤ M) (hk : key.size ≤ M) (hn : ws.length ≤ n) : contW (contactB key ws) ≤ 3 * (M + 1) + 2 * (n * (M + 1) + 1) := by
  have hs : ∀ m, ∀ e ∈ setsB key m ws, e.v.size ≤ M := fun m e he => h e (List.mem_filter.1 he).1
  have ha : ∀ m, ∀ e ∈ addsB key m ws, e.v.size ≤ M := fun m e he => h e (List.mem_filter.1 he).1
  have hl : ∀ m, (addsB key m ws).length ≤ n := fun m => Nat.le_trans (List.length_filter_le ..) hn
  have f0 := field_few (hs 0)
  have f1 := field_few (hs 1)
  have v0 := vals_few (ha 0)
  have v1 := vals_few (ha 1)
  have m0 := Nat.mul_le_mul_right (M + 1) (hl 0)
  have m1 := Nat.mul_le_mul_right (M + 1) (hl 1)
  unfold contW contactB
  simp only
  omega
theorem of_few {l : List Ev} {M n : Nat} (h : ∀ e ∈ l, e.key.size ≤ M ∧ e.v.size ≤ M) (hn : l.length ≤ n) : ((ofB l).map contW).sum ≤ n * (3 * (M + 1) + 2 * (n * (M + 1) + 1)) := by
  have hl : (ofB l).length ≤ n := by
    unfold ofB
    rw [List.length_map]
    have h1 : (keysB l).length ≤ ((livingB l).map fun e => strL e.key).length := uniq_few _
    have h2 : (livingB l).length ≤ l.length := List.length_filter_le ..
    rw [List.length_map] at h1
    omega
  have hc : ∀ c ∈ ofB l, contW c ≤ 3 * (M + 1) + 2 * (n * (M + 1) + 1) := fun c hc => by
    obtain ⟨k, hk, rfl⟩ := List.mem_map.1 hc
    have hk : k ∈ uniq ((livingB l).map fun e => strL e.key) := hk
    rw [(uniq_props _).2] at hk
    obtain ⟨e, he, rfl⟩ := List.mem_map.1 hk
    refine cont_few (fun e he => (h e (List.mem_filter.1 he).1).2) ?_ (Nat.le_trans (List.length_filter_le ..) hn)
    show e.key.data.toList.length ≤ M
    rw [Array.length_toList]
    exact (h e (List.mem_filter.1 he).1).1
  exact Nat.le_trans (sum_const hc) (Nat.mul_le_mul_right _ hl)
end Go.Proofs.Ytihjfndkgmjanaa
