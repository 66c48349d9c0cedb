/-
  Plain Lean: what was done with some contacts does not matter to the others.
-/
import Derived.Test.YtihjfndkgmjanaaBr1
namespace Go.Proofs.Ytihjfndkgmjanaa
open Go.RowKit

def onP (p : ByteArray → Bool) (l : List Ev) : List Ev := l.filter fun x => p x.key
theorem any_on {α : Type} {q f : α → Bool} {l : List α} (h : ∀ x ∈ l, f x = true → q x = true) : (l.filter q).any f = l.any f := by
  rw [List.any_filter]
  refine any_congr fun x hx => ?_
  cases hf : f x with
  | false => simp
  | true => simp [h x hx hf]
theorem sameK_key {a b : Ev} (h : sameK a b = true) : a.key = b.key := of_decide_eq_true h
theorem sameL_key {a b : Ev} (h : sameL a b = true) : a.key = b.key := by
  simp only [sameL, Bool.and_eq_true] at h
  exact sameK_key h.1
theorem sameV_key {a b : Ev} (h : sameV a b = true) : a.key = b.key := by
  simp only [sameV, Bool.and_eq_true] at h
  exact sameL_key h.1
section
variable {p : ByteArray → Bool} {l : List Ev} {e : Ev}
theorem above_on {k : Int} {same : Ev → Ev → Bool} (hs : ∀ a b, same a b = true → a.key = b.key) (he : p e.key = true) : aboveB k same (onP p l) e = aboveB k same l e :=
  any_on fun x _ h => by
    simp only [Bool.and_eq_true] at h
    rw [hs _ _ h.2.1]
    exact he
theorem under_on {k : Int} {same : Ev → Ev → Bool} (hs : ∀ a b, same a b = true → a.key = b.key) (he : p e.key = true) : underB k same (onP p l) e = underB k same l e :=
  any_on fun x _ h => by
    simp only [Bool.and_eq_true] at h
    rw [hs _ _ h.2.1]
    exact he
theorem lives_on (he : p e.key = true) : livesB (onP p l) e = livesB l e := by unfold livesB; rw [above_on (fun _ _ => sameK_key) he]
theorem living_on : livingB (onP p l) = onP p (livingB l) := by
  unfold livingB onP
  rw [List.filter_filter, List.filter_filter]
  refine List.filter_congr fun x _ => ?_
  cases h : p x.key with
  | false => simp
  | true =>
    have h2 : livesB (l.filter fun x => p x.key) x = livesB l x := lives_on h
    rw [h2, Bool.and_comm]
theorem count_on (he : p e.key = true) : countB (onP p l) (livingB (onP p l)) e = countB l (livingB l) e := by
  unfold countB
  rw [living_on, above_on (fun _ _ => sameV_key) he, under_on (fun _ _ => sameK_key) he]
theorem counting_on : countingB (onP p l) (livingB (onP p l)) = onP p (countingB l (livingB l)) := by
  have h : ∀ e, p e.key = true → countB (onP p l) (livingB (onP p l)) e = countB l (livingB l) e := fun e he => count_on he
  unfold countingB
  generalize countB (onP p l) (livingB (onP p l)) = f at h
  unfold onP
  rw [List.filter_filter, List.filter_filter]
  refine List.filter_congr fun x _ => ?_
  cases hp : p x.key with
  | false => simp
  | true => rw [h x hp, Bool.and_comm]
theorem later_on (he : p e.key = true) : laterB (onP p l) e = laterB l e := by
  unfold laterB
  split
  · exact above_on (fun _ _ => sameV_key) he
  · exact above_on (fun _ _ => sameL_key) he
theorem arrS (b : ByteArray) : (⟨(strL b).toArray⟩ : ByteArray) = b := by obtain ⟨a⟩ := b; simp [strL]
theorem keys_on : keysB (onP p l) = (keysB l).filter fun k => p ⟨k.toArray⟩ := by
  have h1 : keysB (onP p l) = uniq ((livingB (onP p l)).map fun e => strL e.key) := rfl
  have h2 : keysB l = uniq ((livingB l).map fun e => strL e.key) := rfl
  rw [h1, h2]
  refine rising_eq (uniq_props _).1 ((uniq_props _).1.sublist List.filter_sublist) fun x => ?_
  rw [(uniq_props _).2, List.mem_filter, (uniq_props _).2, living_on, List.mem_map, List.mem_map]
  constructor
  · rintro ⟨e, he, rfl⟩
    obtain ⟨he, hp⟩ := List.mem_filter.1 he
    exact ⟨⟨e, he, rfl⟩, by rw [arrS]; exact hp⟩
  · rintro ⟨⟨e, he, rfl⟩, hp⟩
    rw [arrS] at hp
    exact ⟨e, List.mem_filter.2 ⟨he, hp⟩, rfl⟩
theorem filter_on {key : ByteArray} {ws : List Ev} {f : Ev → Bool} (hk : p key = true) (hf : ∀ e, f e = true → e.key = key) : (onP p ws).filter f = ws.filter f := by
  unfold onP
  rw [List.filter_filter]
  refine List.filter_congr fun x _ => ?_
  cases h : f x with
  | false => simp
  | true => rw [hf x h, hk]; rfl
theorem contact_on {key : ByteArray} {ws : List Ev} (hk : p key = true) : contactB key (onP p ws) = contactB key ws := by
  have h1 : ∀ n, setsB key n (onP p ws) = setsB key n ws := fun n => filter_on hk fun e h => by
    simp only [ofK, Bool.and_eq_true, decide_eq_true_eq] at h
    exact h.1.1
  have h2 : ∀ n, addsB key n (onP p ws) = addsB key n ws := fun n => filter_on hk fun e h => by
    simp only [ofK, Bool.and_eq_true, decide_eq_true_eq] at h
    exact h.1.1
  unfold contactB
  rw [h1, h1, h2, h2]
theorem of_on : ofB (onP p l) = (ofB l).filter fun c => p c.key := by
  unfold ofB
  rw [keys_on, counting_on, List.filter_map]
  have e : ((fun c : Cont => p c.key) ∘ fun k : List UInt8 => contactB ⟨k.toArray⟩ (countingB l (livingB l))) = fun k => p ⟨k.toArray⟩ := rfl
  rw [e]
  refine List.map_congr_left fun k hk => ?_
  exact contact_on (List.mem_filter.1 hk).2
theorem len_two {α : Type} {q : α → Bool} : ∀ l : List α, (l.filter q).length + (l.filter fun x => !q x).length = l.length
  | [] => rfl
  | x :: l => by
    have := len_two (q := q) l
    rw [List.filter_cons, List.filter_cons]
    cases q x <;> simp <;> omega
theorem size_on : sizeB (onP p l) = ((livingB l).filter fun e => p e.key).length + (((countingB l (livingB l)).filter fun e => !laterB l e).filter fun e => p e.key).length := by
  unfold sizeB
  rw [counting_on, living_on]
  congr 2
  unfold onP
  rw [List.filter_filter, List.filter_filter]
  refine List.filter_congr fun x _ => ?_
  cases h : p x.key with
  | false => simp
  | true =>
    have h2 : laterB (l.filter fun x => p x.key) x = laterB l x := later_on h
    rw [h2, Bool.and_comm]
theorem size_two : sizeB l = sizeB (onP p l) + sizeB (onP (fun k => !p k) l) := by
  rw [size_on, size_on, sizeB]
  have h1 := len_two (q := fun e : Ev => p e.key) (livingB l)
  have h2 := len_two (q := fun e : Ev => p e.key) ((countingB l (livingB l)).filter fun e => !laterB l e)
  omega
end
/-- Of each key there is one contact at most. -/
theorem of_keys (l : List Ev) : (ofB l).Pairwise fun a b => a.key ≠ b.key := by
  unfold ofB
  rw [List.pairwise_map]
  have h : (keysB l).Pairwise (· < ·) := (uniq_props ((livingB l).map fun e : Ev => strL e.key)).1
  refine h.imp fun {a b} hab e => ?_
  have e : (⟨a.toArray⟩ : ByteArray) = ⟨b.toArray⟩ := e
  have e2 : a = b := by
    have := congrArg (fun b => b.data.toList) e
    simpa using this
  exact str_lt_irrefl _ (e2 ▸ hab)
theorem of_one_key (l : List Ev) (key : ByteArray) : ((ofB l).filter fun c => decide (c.key = key)).length ≤ 1 := by
  have h := (of_keys l).sublist (List.filter_sublist (p := fun c : Cont => decide (c.key = key)))
  have hm : ∀ c ∈ (ofB l).filter fun c => decide (c.key = key), c.key = key := fun c hc => of_decide_eq_true (List.mem_filter.1 hc).2
  match hx : (ofB l).filter fun c => decide (c.key = key) with
  | [] => rw [hx]; simp
  | [_] => rw [hx]; simp
  | a :: b :: r =>
    rw [hx] at h hm
    exact absurd ((hm a (by simp)).trans (hm b (by simp)).symm) ((List.pairwise_cons.1 h).1 b (by simp))
end Go.Proofs.Ytihjfndkgmjanaa
