/-
  Plain Lean: what any events come to is told rising, each once, and only what was written.
-/
import Derived.Test.YtihjfndkgmjanaaBkV
namespace Go.Proofs.Ytihjfndkgmjanaa
open Go.RowKit

theorem less_eq : ∀ (x y : Str), Op.bytesLess x y = decide (x < y)
  | x, [] => by cases x <;> simp [Op.bytesLess]
  | [], _ :: _ => by simp [Op.bytesLess]
  | a :: x, b :: y => by
    rw [Op.bytesLess, less_eq x y]
    by_cases h1 : a < b <;> by_cases h2 : a = b <;> by_cases h3 : x < y <;> simp [List.cons_lt_cons_iff, h1, h2, h3]
theorem toL (b : ByteArray) : b.toList = strL b := ByteArray.toList_eq b
theorem toA (x : Str) : (ByteArray.mk x.toArray).toList = x := by rw [toL]; rfl
theorem arr_strL (b : ByteArray) : (ByteArray.mk (strL b).toArray) = b := by obtain ⟨a⟩ := b; simp [strL]
theorem strL_inj {a b : ByteArray} (h : strL a = strL b) : a = b := by rw [← arr_strL a, h, arr_strL]

theorem vals_uniq (B : List Ev) : valsF B = uniq (B.map fun e => strL e.v) := rfl
theorem keys_uniq (l : List Ev) : keysB l = uniq ((livingB l).map fun e => strL e.key) := rfl
theorem getD_get {α : Type} {l : List α} {d : α} {i : Nat} (h : i < l.length) : l.getD i d = l[i] := by rw [List.getD, List.getElem?_eq_getElem h]; rfl
theorem uniq_up {l : List Str} {k : Nat} (h : k + 1 < (uniq l).length) : (uniq l).getD k [] < (uniq l).getD (k + 1) [] := by
  rw [getD_get h, getD_get (by omega)]
  exact List.pairwise_iff_getElem.1 (uniq_props l).1 k (k + 1) (by omega) h (by omega)
theorem uniq_mem {l : List Str} {k : Nat} (h : k < (uniq l).length) : (uniq l).getD k [] ∈ l := by
  rw [getD_get h]
  exact ((uniq_props l).2 _).1 (List.getElem_mem _)
theorem uniq_len (l : List Str) : (uniq l).length ≤ l.length := by
  have := compact_le (sortL l)
  rw [show (sortL l).length = l.length from List.length_mergeSort ..] at this
  exact this
theorem wrote_of {w : List Ev} {e x : Ev} (hx : x ∈ w) (h : wroteP e x = true) : wroteB w e = true := List.any_eq_true.2 ⟨x, hx, h⟩
theorem lab_ok (w ws : List Ev) (key : ByteArray) (n : Int) (hw : ∀ e ∈ ws, e ∈ w) (hl : ws.length ≤ 1000000000) (hk : ∀ e ∈ ws, e.k = 3 ∨ e.k = 4) :
    LabOk w key n (hasF (setsB key n ws)) (fieldF (setsB key n ws)) (valsF (addsB key n ws)) := by
  have mS : ∀ e ∈ setsB key n ws, e ∈ ws ∧ e.key = key ∧ e.l = n ∧ e.k = 3 := fun e he => by
    obtain ⟨h1, h2⟩ := List.mem_filter.1 he
    simp only [ofK, Bool.and_eq_true, decide_eq_true_eq] at h2
    exact ⟨h1, h2.1.1, h2.1.2, h2.2⟩
  have mA : ∀ e ∈ addsB key n ws, e ∈ ws ∧ e.key = key ∧ e.l = n ∧ e.k = 4 := fun e he => by
    obtain ⟨h1, h2⟩ := List.mem_filter.1 he
    simp only [ofK, Bool.and_eq_true, decide_eq_true_eq, Bool.not_eq_true', decide_eq_false_iff_not] at h2
    exact ⟨h1, h2.1.1, h2.1.2, (hk e h1).resolve_left h2.2⟩
  have lA : (addsB key n ws).length ≤ ws.length := List.length_filter_le ..
  generalize setsB key n ws = A at mS
  generalize addsB key n ws = B at mA lA
  rw [vals_uniq]
  refine ⟨?_, fun h => ?_, fun h => ?_, fun k hk => ?_, fun k hk => ?_⟩
  · have := uniq_len (B.map fun e => strL e.v)
    rw [List.length_map] at this
    omega
  · have h : A.length = 0 := by simpa [hasF] using h
    exact if_pos h
  · have h : ¬ A.length = 0 := by simpa [hasF] using h
    have hlt := last_lt (l := A.map stampE) (by intro e; exact h (by rw [← List.length_map (f := stampE), e]; rfl))
    rw [List.length_map] at hlt
    have e1 : fieldF A = (A[lastN (A.map stampE)]).v := by
      rw [fieldF, if_neg h, getD_get (by rw [List.length_map]; exact hlt), List.getElem_map, arr_strL]
    rw [e1]
    obtain ⟨h1, h2, h3, h4⟩ := mS _ (List.getElem_mem hlt)
    exact wrote_of (hw _ h1) (by simp [wroteP, mkEv, h2, h3, h4])
  · rw [less_eq, toA, toA]
    exact decide_eq_true (uniq_up hk)
  · have hm := uniq_mem hk
    obtain ⟨e, he, hev⟩ := List.mem_map.1 hm
    rw [← hev, arr_strL]
    obtain ⟨h1, h2, h3, h4⟩ := mA _ he
    exact wrote_of (hw _ h1) (by simp [wroteP, mkEv, h2, h3, h4])

theorem size_le (w : List Ev) : sizeB w ≤ w.length := by
  have h1 : ∀ e ∈ livingB w, e.k = 1 := fun e he => by
    have := (List.mem_filter.1 he).2
    simp only [livesB, Bool.and_eq_true, decide_eq_true_eq] at this
    exact this.1
  have h2 : ∀ (p q : Ev → Bool) (l : List Ev), (∀ e, p e = true → q e = false) → (l.filter p).length + (l.filter q).length ≤ l.length := by
    intro p q l h
    induction l with
    | nil => simp
    | cons x l ih =>
      rw [List.filter_cons, List.filter_cons]
      cases hp : p x with
      | true => simp [h x hp]; omega
      | false => cases hq : q x <;> simp <;> omega
  have h3 := h2 (livesB w) (countB w (livingB w)) w fun e he => by
    have he : e.k = 1 := by
      simp only [livesB, Bool.and_eq_true, decide_eq_true_eq] at he
      exact he.1
    simp [countB, he]
  have h4 : ((countingB w (livingB w)).filter fun e => !laterB w e).length ≤ (countingB w (livingB w)).length := List.length_filter_le ..
  have e1 : (livingB w).length = (w.filter (livesB w)).length := rfl
  have e2 : (countingB w (livingB w)).length = (w.filter (countB w (livingB w))).length := rfl
  unfold sizeB
  omega
theorem counting_kind {w C : List Ev} : ∀ e ∈ countingB w C, e ∈ w ∧ (e.k = 3 ∨ e.k = 4) := fun e he => by
  obtain ⟨h1, h2⟩ := List.mem_filter.1 he
  simp only [countB, Bool.and_eq_true, Bool.or_eq_true, decide_eq_true_eq] at h2
  exact ⟨h1, h2.1.imp id fun h => h.1⟩
theorem counting_nil (w : List Ev) : countingB w [] = [] := by
  unfold countingB
  rw [List.filter_eq_nil_iff]
  intro e _
  simp [countB, underB]
theorem cont_get {w : List Ev} {i : Nat} (h : i < (ofB w).length) : (ofB w).getD i default = contactB ⟨((keysB w).getD i []).toArray⟩ (countingB w (livingB w)) ∧ i < (keysB w).length := by
  have hk : i < (keysB w).length := by
    have := h
    rw [ofB, List.length_map] at this
    exact this
  refine ⟨?_, hk⟩
  rw [getD_get hk, show ofB w = (keysB w).map fun k => contactB ⟨k.toArray⟩ (countingB w (livingB w)) from rfl, getD_get (by rw [List.length_map]; exact hk), List.getElem_map]
theorem lst_ok (w : List Ev) (hl : w.length ≤ 1000000000) : LstOk w (ofB w) := by
  have hlen : (ofB w).length = (keysB w).length := List.length_map ..
  have hle : (keysB w).length ≤ (livingB w).length := by
    rw [keys_uniq]
    have := uniq_len ((livingB w).map fun e => strL e.key)
    rw [List.length_map] at this
    exact this
  have hcl : (countingB w (livingB w)).length ≤ w.length := List.length_filter_le ..
  refine ⟨fun h => ?_, size_le w, ?_, fun i hi => ?_, fun i hi => ?_, fun i hi => ?_, fun i hi => ?_⟩
  · have hnil : livingB w = [] := by
      cases hC : livingB w with
      | nil => rfl
      | cons x C =>
        have hm : strL x.key ∈ keysB w := by
          rw [keys_uniq, hC]
          exact ((uniq_props _).2 _).2 (by simp)
        rw [hlen] at h
        rw [List.eq_nil_of_length_eq_zero h] at hm
        cases hm
    unfold sizeB
    rw [hnil, counting_nil]
    rfl
  · rw [hlen]
    unfold sizeB
    omega
  · obtain ⟨e1, h1⟩ := cont_get hi
    obtain ⟨e2, h2⟩ := cont_get (show i < (ofB w).length by omega)
    rw [e1, e2]
    show Op.bytesLess (ByteArray.mk _).toList (ByteArray.mk _).toList = true
    rw [less_eq, toA, toA, keys_uniq]
    exact decide_eq_true (uniq_up (by rw [← keys_uniq]; exact h1))
  · obtain ⟨e1, h1⟩ := cont_get hi
    rw [e1]
    show wroteB w (mkEv 1 (ByteArray.mk _) _ _) = true
    have hm := uniq_mem (l := (livingB w).map fun e => strL e.key) (k := i) (by rw [← keys_uniq]; exact h1)
    rw [← keys_uniq] at hm
    obtain ⟨e, he, hev⟩ := List.mem_map.1 hm
    rw [← hev, arr_strL]
    obtain ⟨hw, hlv⟩ := List.mem_filter.1 he
    simp only [livesB, Bool.and_eq_true, decide_eq_true_eq] at hlv
    exact wrote_of hw (by simp [wroteP, mkEv, hlv.1])
  · rw [(cont_get hi).1]
    exact lab_ok w _ _ 0 (fun e he => (counting_kind e he).1) (by omega) fun e he => (counting_kind e he).2
  · rw [(cont_get hi).1]
    exact lab_ok w _ _ 1 (fun e he => (counting_kind e he).1) (by omega) fun e he => (counting_kind e he).2
theorem lists_true (l : List Ev) : ASpec Try.prog 5 [.sl 12 l.length true (evF l)] (.v (.bool true)) [] :=
  lists_spec l (lst_ok _ (by rw [List.length_take]; omega))
end Go.Proofs.Ytihjfndkgmjanaa
