/-
  Plain Lean: what an event that has seen all of a right past does to what it comes to.
-/
import Derived.Test.YtihjfndkgmjanaaPs2
import Derived.Test.YtihjfndkgmjanaaMk3
namespace Go.Proofs.Ytihjfndkgmjanaa
open Go.RowKit

def eqK (key : ByteArray) : ByteArray → Bool := fun k => decide (k = key)
theorem uniq_nil : uniq [] = [] := List.eq_nil_iff_forall_not_mem.2 fun x hx => by
  have := ((uniq_props []).2 x).1 hx
  cases this
/-- Of events of one key. -/
theorem of_same {l : List Ev} {key : ByteArray} (h : ∀ x ∈ l, x.key = key) : ofB l = if livingB l = [] then [] else [contactB key (countingB l (livingB l))] := by
  have hk : keysB l = uniq ((livingB l).map fun e => strL e.key) := rfl
  by_cases h0 : livingB l = []
  · rw [if_pos h0]
    unfold ofB
    rw [hk, h0, List.map_nil, uniq_nil]
    rfl
  · rw [if_neg h0]
    have e : keysB l = [strL key] := by
      rw [hk]
      refine rising_eq (uniq_props _).1 (List.pairwise_singleton _ _) fun x => ?_
      rw [(uniq_props _).2, List.mem_singleton, List.mem_map]
      constructor
      · rintro ⟨y, hy, rfl⟩
        rw [h y (List.mem_filter.1 hy).1]
      · rintro rfl
        obtain ⟨y, hy⟩ := List.exists_mem_of_ne_nil _ h0
        exact ⟨y, hy, by rw [h y (List.mem_filter.1 hy).1]⟩
    unfold ofB
    rw [e, List.map_singleton, arrS]
theorem on_key {l : List Ev} {key : ByteArray} : ∀ x ∈ onP (eqK key) l, x.key = key := fun x hx => by
  have := (List.mem_filter.1 hx).2
  exact of_decide_eq_true this
theorem of_eqK (l : List Ev) (key : ByteArray) : ofB (onP (eqK key) l) = (ofB l).filter fun c => decide (c.key = key) := of_on
theorem of_neK (l : List Ev) (key : ByteArray) : ofB (onP (fun k => !eqK key k) l) = woL (ofB l) key := of_on

/-! ### Where -/
theorem getC {l : List Cont} {i : Nat} (h : i < l.length) : l.getD i default = l[i] := by rw [List.getD, List.getElem?_eq_getElem h]; rfl
theorem place_no {A : List Cont} {key : ByteArray} (h : (A.filter fun c => decide (c.key = key)) = []) : placeI A key = -1 := by
  refine place_not fun i hi e => ?_
  have : A.getD i default ∈ A.filter fun c => decide (c.key = key) := List.mem_filter.2 ⟨by rw [getC hi]; exact List.getElem_mem hi, decide_eq_true e⟩
  rw [h] at this
  cases this
theorem place_yes {A : List Cont} {key : ByteArray} {a : Cont} (h : (A.filter fun c => decide (c.key = key)) = [a]) : 0 ≤ placeI A key ∧ placeI A key < (A.length : Int) ∧ A.getD (placeI A key).toNat default = a := by
  have ha : a ∈ A.filter fun c => decide (c.key = key) := by rw [h]; exact List.mem_singleton.2 rfl
  obtain ⟨ha, hk⟩ := List.mem_filter.1 ha
  have hlt : placeN A key < A.length := List.findIdx_lt_length_of_exists ⟨a, ha, hk⟩
  have e : placeI A key = (placeN A key : Int) := if_pos hlt
  have hg : A[placeN A key] ∈ A.filter fun c => decide (c.key = key) := List.mem_filter.2 ⟨List.getElem_mem hlt, List.findIdx_getElem (p := fun c : Cont => decide (c.key = key)) (w := hlt)⟩
  rw [h, List.mem_singleton] at hg
  refine ⟨by omega, by omega, ?_⟩
  rw [e, Int.toNat_natCast, getC hlt, hg]

/-! ### The last event -/
structure CR (e : Ev) (a b : Cont) : Prop where
  lab0 : e.l = 0 → a.h1 = b.h1 ∧ a.f1 = b.f1 ∧ a.s1.length = b.s1.length
  lab1 : e.l = 1 → a.h0 = b.h0 ∧ a.f0 = b.f0 ∧ a.s0.length = b.s0.length
  set0 : e.k = 3 → e.l = 0 → b.h0 = true ∧ b.f0 = e.v ∧ a.s0.length = b.s0.length
  set1 : e.k = 3 → e.l = 1 → b.h1 = true ∧ b.f1 = e.v ∧ a.s1.length = b.s1.length
  oth : e.k ≠ 3 → (a.h0 = b.h0 ∧ a.h1 = b.h1) ∧ (a.f0 = b.f0 ∧ a.f1 = b.f1)
  in0 : e.k ≠ 3 → e.l = 0 → (strL e.v ∈ b.s0 ↔ e.k = 4)
  in1 : e.k ≠ 3 → e.l = 1 → (strL e.v ∈ b.s1 ↔ e.k = 4)
structure LastF (A B : List Cont) (e : Ev) : Prop where
  wo : woL A e.key = woL B e.key
  two : e.k = 2 → placeI B e.key = -1
  one : e.k = 1 → 0 ≤ placeI B e.key
  more : 3 ≤ e.k → (placeI A e.key = -1 ∧ placeI B e.key = -1) ∨
    (∃ a b, (0 ≤ placeI A e.key ∧ placeI A e.key < (A.length : Int) ∧ A.getD (placeI A e.key).toNat default = a) ∧ (0 ≤ placeI B e.key ∧ placeI B e.key < (B.length : Int) ∧ B.getD (placeI B e.key).toNat default = b) ∧ CR e a b)

section
variable {l : List Ev} {e : Ev}
theorem above_snoc {k : Int} {same : Ev → Ev → Bool} {x : Ev} : aboveB k same (l ++ [e]) x = (aboveB k same l x || (decide (e.k = k) && (same e x && belowB x e))) := by
  unfold aboveB
  rw [List.any_append]
  simp
theorem above_off {k : Int} {same : Ev → Ev → Bool} (non : ∀ x ∈ l, belowB e x = false) : aboveB k same l e = false := by
  unfold aboveB
  rw [List.any_eq_false]
  intro x hx
  rw [non x hx]
  simp
/-- What is known of the last event, over events of its key. -/
structure Tops (l : List Ev) (e : Ev) : Prop where
  key : ∀ x ∈ l, x.key = e.key
  all : ∀ x ∈ l, belowB x e = true
  non : ∀ x ∈ l, belowB e x = false
  self : belowB e e = false
  hi : ∀ x ∈ l, x.h < e.h
  one : OneStamp (l ++ [e])
variable (t : Tops l e)
include t
theorem Tops.keys : ∀ x ∈ l ++ [e], x.key = e.key := fun x hx => by
  rcases List.mem_append.1 hx with hx | hx
  · exact t.key x hx
  · rw [List.mem_singleton.1 hx]
theorem Tops.lives_e : livesB (l ++ [e]) e = decide (e.k = 1) := by
  unfold livesB
  rw [above_snoc, above_off t.non, t.self]
  simp
theorem Tops.lives_in {x : Ev} (hx : x ∈ l) : livesB (l ++ [e]) x = (livesB l x && !decide (e.k = 2)) := by
  have : sameK e x = true := decide_eq_true (t.key x hx).symm
  unfold livesB
  rw [above_snoc, this, t.all x hx]
  cases aboveB 2 sameK l x <;> cases decide (x.k = 1) <;> simp
theorem Tops.living : livingB (l ++ [e]) = (if e.k = 2 then [] else livingB l) ++ (if e.k = 1 then [e] else []) := by
  unfold livingB
  rw [List.filter_append, List.filter_cons, t.lives_e]
  congr 1
  · by_cases h : e.k = 2
    · rw [if_pos h, List.filter_eq_nil_iff]
      intro x hx
      rw [t.lives_in hx, decide_eq_true h]
      simp
    · rw [if_neg h]
      refine List.filter_congr fun x hx => ?_
      rw [t.lives_in hx, decide_eq_false h]
      simp
  · by_cases h : e.k = 1
    · rw [if_pos h, if_pos (decide_eq_true h)]
      rfl
    · rw [if_neg h, if_neg (by rw [decide_eq_false h]; simp)]
      rfl
theorem Tops.count_in {C : List Ev} {x : Ev} (hx : x ∈ l) : countB (l ++ [e]) C x = (countB l C x && !(decide (e.k = 5) && (decide (x.k = 4) && sameV e x))) := by
  unfold countB
  rw [above_snoc, t.all x hx]
  by_cases h3 : x.k = 3
  · rw [decide_eq_true h3, decide_eq_false (show ¬ x.k = 4 by omega)]
    simp
  · rw [decide_eq_false h3]
    cases decide (x.k = 4) <;> cases aboveB 5 sameV l x <;> cases underB 1 sameK C x <;> simp
theorem Tops.count_e (hC : livingB l ≠ []) : countB (l ++ [e]) (livingB l) e = (decide (e.k = 3) || decide (e.k = 4)) := by
  have hu : underB 1 sameK (livingB l) e = true := by
    obtain ⟨y, hy⟩ := List.exists_mem_of_ne_nil _ hC
    have hyl := (List.mem_filter.1 hy).1
    have hy1 : y.k = 1 := by
      have := (List.mem_filter.1 hy).2
      simp only [livesB, Bool.and_eq_true, decide_eq_true_eq] at this
      exact this.1
    refine List.any_eq_true.2 ⟨y, hy, ?_⟩
    have hs : sameK y e = true := decide_eq_true (t.key y hyl)
    rw [decide_eq_true hy1, hs, t.all y hyl]
    rfl
  unfold countB
  rw [hu, above_snoc, above_off t.non, t.self]
  simp
theorem Tops.counting (h3 : 3 ≤ e.k) (hC : livingB l ≠ []) : countingB (l ++ [e]) (livingB (l ++ [e])) =
    (countingB l (livingB l)).filter (fun x => !(decide (e.k = 5) && (decide (x.k = 4) && sameV e x))) ++ (if e.k = 3 ∨ e.k = 4 then [e] else []) := by
  have hL : livingB (l ++ [e]) = livingB l := by rw [t.living, if_neg (by omega), if_neg (by omega), List.append_nil]
  rw [hL]
  unfold countingB
  rw [List.filter_append, List.filter_cons, t.count_e hC, List.filter_filter]
  congr 1
  · refine List.filter_congr fun x hx => ?_
    rw [t.count_in hx, Bool.and_comm]
  · by_cases h : e.k = 3 ∨ e.k = 4
    · rw [if_pos h, if_pos (by rcases h with h | h <;> simp [h])]
      rfl
    · rw [if_neg h, if_neg (by simp only [Bool.or_eq_true, decide_eq_true_eq]; exact h)]
      rfl
end
theorem valsF_mem {B : List Ev} {x : Str} : x ∈ valsF B ↔ ∃ e ∈ B, strL e.v = x := by
  have : x ∈ uniq (B.map fun e => strL e.v) ↔ _ := (uniq_props _).2 x
  rw [List.mem_map] at this
  exact this
theorem strL_inj {a b : ByteArray} (h : strL a = strL b) : a = b := by rw [← arrS a, h, arrS]
section
variable {l : List Ev} {e : Ev} {ws : List Ev}
theorem sets_snoc (n : Int) : setsB e.key n (ws ++ [e]) = setsB e.key n ws ++ (if e.l = n ∧ e.k = 3 then [e] else []) := by
  unfold setsB
  rw [List.filter_append, List.filter_cons]
  congr 1
  by_cases h : e.l = n ∧ e.k = 3
  · rw [if_pos h, if_pos (by simp [ofK, h.1, h.2])]; rfl
  · rw [if_neg h, if_neg (by simp only [ofK, Bool.and_eq_true, decide_eq_true_eq]; exact fun k => h ⟨k.1.2, k.2⟩)]; rfl
theorem adds_snoc (n : Int) : addsB e.key n (ws ++ [e]) = addsB e.key n ws ++ (if e.l = n ∧ ¬ e.k = 3 then [e] else []) := by
  unfold addsB
  rw [List.filter_append, List.filter_cons]
  congr 1
  by_cases h : e.l = n ∧ ¬ e.k = 3
  · rw [if_pos h, if_pos (by simp [ofK, h.1, h.2])]; rfl
  · rw [if_neg h, if_neg (by simp only [ofK, Bool.and_eq_true, decide_eq_true_eq, Bool.not_eq_true', decide_eq_false_iff_not]; exact fun k => h ⟨k.1.2, k.2⟩)]; rfl
/-- Of one label: what there is, what is shown, and the values. -/
theorem lab_set (n : Int) (h3 : e.k = 3) (hl : e.l = n) (hi : ∀ x ∈ ws, x.h < e.h) (ho : OneStamp (ws ++ [e])) :
    hasF (setsB e.key n (ws ++ [e])) = true ∧ fieldF (setsB e.key n (ws ++ [e])) = e.v ∧ valsF (addsB e.key n (ws ++ [e])) = valsF (addsB e.key n ws) := by
  have e1 : setsB e.key n (ws ++ [e]) = setsB e.key n ws ++ [e] := by rw [sets_snoc, if_pos ⟨hl, h3⟩]
  refine ⟨?_, ?_, ?_⟩
  · rw [e1]
    unfold hasF
    rw [List.length_append, List.length_singleton, decide_eq_false (by omega)]
    rfl
  · refine field_top (fun a ha b hb => ho a (List.mem_filter.1 ha).1 b (List.mem_filter.1 hb).1) (by rw [e1]; simp) fun x hx => ?_
    rw [less_iff]
    unfold stampE
    simp only
    rcases List.mem_append.1 (List.mem_filter.1 hx).1 with hx | hx
    · have := hi x hx
      omega
    · rw [List.mem_singleton.1 hx]
      omega
  · rw [adds_snoc, if_neg (by omega), List.append_nil]
theorem lab_off (n : Int) (hl : e.l ≠ n) : setsB e.key n (ws ++ [e]) = setsB e.key n ws ∧ addsB e.key n (ws ++ [e]) = addsB e.key n ws := by
  rw [sets_snoc, adds_snoc, if_neg (fun h => hl h.1), if_neg (fun h => hl h.1), List.append_nil, List.append_nil]
  exact ⟨rfl, rfl⟩
theorem lab_add (n : Int) (h4 : e.k = 4) (hl : e.l = n) : setsB e.key n (ws ++ [e]) = setsB e.key n ws ∧ strL e.v ∈ valsF (addsB e.key n (ws ++ [e])) := by
  refine ⟨by rw [sets_snoc, if_neg (by omega), List.append_nil], valsF_mem.2 ⟨e, ?_, rfl⟩⟩
  rw [adds_snoc, if_pos ⟨hl, by omega⟩]
  simp
def goneP (e x : Ev) : Bool := !(decide (e.k = 5) && (decide (x.k = 4) && sameV e x))
theorem gone_sets (n : Int) : setsB e.key n (ws.filter (goneP e)) = setsB e.key n ws := by
  unfold setsB
  rw [List.filter_filter]
  refine List.filter_congr fun x _ => ?_
  by_cases h : x.k = 3
  · have : goneP e x = true := by unfold goneP; rw [decide_eq_false (show ¬ x.k = 4 by omega)]; simp
    rw [this, Bool.and_true]
  · rw [decide_eq_false h]
    simp
theorem gone_adds (n : Int) (hl : e.l ≠ n) : addsB e.key n (ws.filter (goneP e)) = addsB e.key n ws := by
  unfold addsB
  rw [List.filter_filter]
  refine List.filter_congr fun x _ => ?_
  cases h : ofK e.key n x && !decide (x.k = 3) with
  | false => simp
  | true =>
    simp only [ofK, Bool.and_eq_true, decide_eq_true_eq] at h
    have : goneP e x = true := by
      unfold goneP sameV sameL
      rw [decide_eq_false (show ¬ e.l = x.l by rw [h.1.2]; exact hl)]
      simp
    rw [this]
    rfl
theorem gone_val (n : Int) (h5 : e.k = 5) (hl : e.l = n) (hk : ∀ x ∈ ws, x.k = 3 ∨ x.k = 4) : ¬ strL e.v ∈ valsF (addsB e.key n (ws.filter (goneP e))) := by
  intro h
  obtain ⟨x, hx, ev⟩ := valsF_mem.1 h
  obtain ⟨hx, ho⟩ := List.mem_filter.1 hx
  obtain ⟨hx, hg⟩ := List.mem_filter.1 hx
  simp only [ofK, Bool.and_eq_true, decide_eq_true_eq, Bool.not_eq_true', decide_eq_false_iff_not] at ho
  have h4 : x.k = 4 := (hk x hx).resolve_left ho.2
  unfold goneP sameV sameL sameK at hg
  rw [decide_eq_true h5, decide_eq_true h4, decide_eq_true (show e.key = x.key from ho.1.1.symm), decide_eq_true (show e.l = x.l by rw [ho.1.2]; exact hl), decide_eq_true (strL_inj ev).symm] at hg
  simp at hg
end
theorem filter_id {α : Type} {p : α → Bool} {l : List α} (h : ∀ x ∈ l, p x = true) : l.filter p = l := List.filter_eq_self.2 h

theorem cr_of {l : List Ev} {e : Ev} (t : Tops l e) (h3 : 3 ≤ e.k) (h5 : e.k ≤ 5) (hC : livingB l ≠ []) :
    CR e (contactB e.key (countingB l (livingB l))) (contactB e.key (countingB (l ++ [e]) (livingB (l ++ [e])))) := by
  have hc := t.counting h3 hC
  have hk : ∀ x ∈ countingB l (livingB l), x.k = 3 ∨ x.k = 4 := fun x hx => by
    have := (List.mem_filter.1 hx).2
    simp only [countB, Bool.and_eq_true, Bool.or_eq_true, decide_eq_true_eq] at this
    rcases this.1 with h | h
    · exact .inl h
    · exact .inr h.1
  have hi : ∀ x ∈ countingB l (livingB l), x.h < e.h := fun x hx => t.hi x (List.mem_filter.1 hx).1
  have ho : OneStamp (countingB l (livingB l) ++ [e]) := fun a ha b hb => t.one a (by
    rcases List.mem_append.1 ha with h | h
    · exact List.mem_append.2 (.inl (List.mem_filter.1 h).1)
    · exact List.mem_append.2 (.inr h)) b (by
    rcases List.mem_append.1 hb with h | h
    · exact List.mem_append.2 (.inl (List.mem_filter.1 h).1)
    · exact List.mem_append.2 (.inr h))
  rw [hc]
  generalize countingB l (livingB l) = ws at hk hi ho ⊢
  have hg : (ws.filter fun x => !(decide (e.k = 5) && (decide (x.k = 4) && sameV e x))) = ws.filter (goneP e) := rfl
  rw [hg]
  by_cases k5 : e.k = 5
  · rw [if_neg (by omega), List.append_nil]
    unfold contactB
    refine ⟨fun hl => ?_, fun hl => ?_, fun h => by omega, fun h => by omega, fun _ => ?_, fun _ hl => ?_, fun _ hl => ?_⟩
    · simp [gone_sets, gone_adds 1 (show e.l ≠ 1 by omega)]
    · simp [gone_sets, gone_adds 0 (show e.l ≠ 0 by omega)]
    · simp [gone_sets]
    · exact ⟨fun h => absurd h (gone_val 0 k5 hl hk), fun h => by omega⟩
    · exact ⟨fun h => absurd h (gone_val 1 k5 hl hk), fun h => by omega⟩
  · have hf : ws.filter (goneP e) = ws := filter_id fun x _ => by unfold goneP; rw [decide_eq_false k5]; rfl
    rw [hf, if_pos (by omega)]
    by_cases k3 : e.k = 3
    · unfold contactB
      refine ⟨fun hl => ?_, fun hl => ?_, fun _ hl => ?_, fun _ hl => ?_, fun h => absurd k3 h, fun h => absurd k3 h, fun h => absurd k3 h⟩
      · obtain ⟨a, b⟩ := lab_off (e := e) (ws := ws) 1 (by omega)
        simp [a, b]
      · obtain ⟨a, b⟩ := lab_off (e := e) (ws := ws) 0 (by omega)
        simp [a, b]
      · obtain ⟨a, b, c⟩ := lab_set 0 k3 hl hi ho
        exact ⟨a, b, by simp only [c]⟩
      · obtain ⟨a, b, c⟩ := lab_set 1 k3 hl hi ho
        exact ⟨a, b, by simp only [c]⟩
    · have k4 : e.k = 4 := by omega
      have hs : ∀ n, setsB e.key n (ws ++ [e]) = setsB e.key n ws := fun n => by rw [sets_snoc, if_neg (by omega), List.append_nil]
      unfold contactB
      refine ⟨fun hl => ?_, fun hl => ?_, fun h => absurd h k3, fun h => absurd h k3, fun _ => ?_, fun _ hl => ?_, fun _ hl => ?_⟩
      · obtain ⟨a, b⟩ := lab_off (e := e) (ws := ws) 1 (by omega)
        simp [a, b]
      · obtain ⟨a, b⟩ := lab_off (e := e) (ws := ws) 0 (by omega)
        simp [a, b]
      · simp [hs]
      · exact ⟨fun _ => k4, fun _ => (lab_add 0 k4 hl).2⟩
      · exact ⟨fun _ => k4, fun _ => (lab_add 1 k4 hl).2⟩

theorem on_snoc (p : ByteArray → Bool) (l : List Ev) (e : Ev) : onP p (l ++ [e]) = onP p l ++ (if p e.key = true then [e] else []) := by
  unfold onP
  rw [List.filter_append, List.filter_cons]
  rfl
theorem last_facts {W V : List Ev} {H : Nat → Clk} (hV : Inv V H) {e : Ev} (eV : V = W ++ [e]) (hall : ∀ x ∈ W, belowB x e = true) : LastF (ofB W) (ofB V) e := by
  have heV : e ∈ V := by rw [eV]; simp
  have hsub : ∀ x ∈ onP (eqK e.key) W, x ∈ W := fun x hx => (List.mem_filter.1 hx).1
  have hWV : ∀ x ∈ W, x ∈ V := fun x hx => by rw [eV]; exact List.mem_append.2 (.inl hx)
  have t : Tops (onP (eqK e.key) W) e := by
    refine ⟨on_key, fun x hx => hall x (hsub x hx), fun x hx => ?_, ?_, fun x hx => hV.hgt x (hWV x (hsub x hx)) e heV (hall x (hsub x hx)), fun a ha b hb => hV.stamp a ?_ b ?_⟩
    · have := hV.ord
      rw [eV] at this
      exact (List.pairwise_append.1 this).2.2 x (hsub x hx) e (List.mem_singleton.2 rfl)
    · obtain ⟨r, h1, h2, h3, h4, h5⟩ := hV.ev e heV
      unfold belowB
      rw [h2, Bool.eq_false_iff]
      intro h
      rw [has_at h1] at h
      omega
    · rcases List.mem_append.1 ha with h | h
      · exact hWV a (hsub a h)
      · rw [List.mem_singleton.1 h]; exact heV
    · rcases List.mem_append.1 hb with h | h
      · exact hWV b (hsub b h)
      · rw [List.mem_singleton.1 h]; exact heV
  have hk := (hV.fine e heV).k
  have e1 : onP (eqK e.key) V = onP (eqK e.key) W ++ [e] := by rw [eV, on_snoc, if_pos (show eqK e.key e.key = true from decide_eq_true rfl)]
  have fA := of_eqK W e.key
  have fB := of_eqK V e.key
  rw [e1, of_same t.keys, t.living] at fB
  rw [of_same t.key] at fA
  refine ⟨?_, fun h2 => ?_, fun h1 => ?_, fun h3 => ?_⟩
  · rw [← of_neK, ← of_neK, eV, on_snoc, if_neg (by unfold eqK; simp), List.append_nil]
  · rw [if_pos h2, if_neg (show ¬ e.k = 1 by omega), List.append_nil, if_pos rfl] at fB
    exact place_no fB.symm
  · rw [if_pos h1, if_neg (show ¬ e.k = 2 by omega), if_neg (by simp)] at fB
    exact (place_yes fB.symm).1
  · rw [if_neg (show ¬ e.k = 2 by omega), if_neg (show ¬ e.k = 1 by omega), List.append_nil] at fB
    by_cases hC : livingB (onP (eqK e.key) W) = []
    · rw [if_pos hC] at fA fB
      exact .inl ⟨place_no fA.symm, place_no fB.symm⟩
    · rw [if_neg hC] at fA fB
      refine .inr ⟨_, _, place_yes fA.symm, place_yes fB.symm, ?_⟩
      have hL : livingB (onP (eqK e.key) W ++ [e]) = livingB (onP (eqK e.key) W) := by rw [t.living, if_neg (by omega), if_neg (by omega), List.append_nil]
      have := cr_of t h3 hk.2 hC
      rw [hL] at this
      exact this
end Go.Proofs.Ytihjfndkgmjanaa
