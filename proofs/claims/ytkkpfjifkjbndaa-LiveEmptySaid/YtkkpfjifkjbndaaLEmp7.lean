/-
  Contracts of the walk: Lv2, Lv3, Lv4, AmO, LvK.
-/
import Derived.Test.YtkkpfjifkjbndaaLEmp6
import Derived.Test.YtkkpfjifkjbndaaLEmp1
import Derived.Tactics
import Derived.Tactics2
import Derived.Defers
import Derived.Laws.Pointers
import Derived.Laws.LoneSync
import Derived.RegionTactic
import Derived.RegionCalls
/-
  Plain Lean: what is kept of one key comes to the same as all of it, and is as much as there is to keep.
-/
namespace Go.Proofs.Ytkkpfjifkjbndaa
open Go.RowKit

/-- Events of one key, as a past has them. -/
structure Pst (p : List Ev) (key : ByteArray) : Prop where
  key : ∀ x ∈ p, x.key = key
  one : OneStamp p
  hi : ∀ a ∈ p, ∀ b ∈ p, belowB a b = true → a.h < b.h
  tr : ∀ a ∈ p, ∀ b ∈ p, ∀ c ∈ p, belowB a b = true → belowB b c = true → belowB a c = true
section
variable {p : List Ev} {key : ByteArray} (t : Pst p key)
theorem kept_kinds {x : Ev} (h : keptQ p x = true) : (livesB p x = true ∧ x.k = 1) ∨ (countB p (livingB p) x = true ∧ laterB p x = false ∧ (x.k = 3 ∨ x.k = 4)) := by
  unfold keptQ at h
  simp only [Bool.or_eq_true, Bool.and_eq_true, Bool.not_eq_true'] at h
  rcases h with h | ⟨h1, h2⟩
  · exact .inl ⟨h, lives_kind h⟩
  · exact .inr ⟨h1, h2, count_kind h1⟩
theorem kept_above {k : Int} (hk : k = 2 ∨ k = 5) (same : Ev → Ev → Bool) (x : Ev) : aboveB k same (keptL p) x = false := by
  unfold aboveB
  rw [List.any_eq_false]
  intro a ha
  have := kept_kinds (List.mem_filter.1 ha).2
  have : ¬ a.k = k := by rcases this with ⟨_, h⟩ | ⟨_, _, h⟩ <;> omega
  rw [decide_eq_false this]
  simp
theorem kept_living : livingB (keptL p) = livingB p := by
  unfold livingB
  have : ∀ x, livesB (keptL p) x = decide (x.k = 1) := fun x => by unfold livesB; rw [kept_above (.inl rfl)]; simp
  rw [List.filter_congr (q := fun x => decide (x.k = 1)) (fun x _ => this x)]
  unfold keptL
  rw [List.filter_filter]
  refine List.filter_congr fun x _ => ?_
  cases hl : livesB p x with
  | true => rw [decide_eq_true (lives_kind hl)]; simp [keptQ, hl]
  | false =>
    cases hc : countB p (livingB p) x with
    | true => rw [decide_eq_false (show ¬ x.k = 1 by rcases count_kind hc with h | h <;> omega)]; rfl
    | false => simp [keptQ, hl, hc]
theorem kept_counting : countingB (keptL p) (livingB (keptL p)) = (countingB p (livingB p)).filter fun x => !laterB p x := by
  rw [kept_living]
  unfold countingB
  rw [List.filter_filter]
  have hcn : ∀ x ∈ keptL p, countB (keptL p) (livingB p) x = countB p (livingB p) x := fun x hx => by
    unfold countB
    rw [kept_above (.inr rfl)]
    rcases kept_kinds (List.mem_filter.1 hx).2 with ⟨_, h⟩ | ⟨h, _, _⟩
    · rw [decide_eq_false (show ¬ x.k = 3 by omega), decide_eq_false (show ¬ x.k = 4 by omega)]; rfl
    · unfold countB at h
      rw [h]
      simp only [Bool.and_eq_true, Bool.or_eq_true, decide_eq_true_eq] at h
      obtain ⟨h1, h2⟩ := h
      rw [h2]
      rcases h1 with h1 | h1
      · rw [decide_eq_true h1]; rfl
      · rw [decide_eq_true h1.1]; simp
  rw [List.filter_congr hcn]
  unfold keptL
  rw [List.filter_filter]
  refine List.filter_congr fun x _ => ?_
  cases hc : countB p (livingB p) x with
  | false => simp
  | true =>
    have hl : livesB p x = false := by rw [Bool.eq_false_iff]; intro k; have := lives_kind k; rcases count_kind hc with h | h <;> omega
    unfold keptQ
    rw [hl, hc]
    simp
include t
theorem Pst.counts_up {x y : Ev} (hx : x ∈ countingB p (livingB p)) (hy : y ∈ p) (hb : belowB x y = true) (hk : y.k = x.k) (hs : y.k = 4 → sameV y x = true) : y ∈ countingB p (livingB p) := by
  obtain ⟨hxp, hc⟩ := List.mem_filter.1 hx
  refine List.mem_filter.2 ⟨hy, ?_⟩
  unfold countB at hc ⊢
  simp only [Bool.and_eq_true] at hc ⊢
  obtain ⟨h1, h2⟩ := hc
  refine ⟨?_, ?_⟩
  · rw [hk]
    by_cases k3 : x.k = 3
    · rw [decide_eq_true k3]; rfl
    · rw [decide_eq_false k3, Bool.false_or, Bool.and_eq_true] at h1 ⊢
      refine ⟨h1.1, ?_⟩
      have hx5 := h1.2
      simp only [Bool.not_eq_true'] at hx5 ⊢
      rw [Bool.eq_false_iff]
      intro ha
      obtain ⟨z, hz, hz2⟩ := List.any_eq_true.1 ha
      simp only [Bool.and_eq_true, decide_eq_true_eq] at hz2
      have k4 : y.k = 4 := by rw [hk]; exact of_decide_eq_true h1.1
      have hzx : sameV z x = true := by
        have e1 := hz2.2.1
        have e2 := hs k4
        simp only [sameV, sameL, sameK, Bool.and_eq_true, decide_eq_true_eq] at e1 e2 ⊢
        exact ⟨⟨e1.1.1.trans e2.1.1, e1.1.2.trans e2.1.2⟩, e1.2.trans e2.2⟩
      have : aboveB 5 sameV p x = true := List.any_eq_true.2 ⟨z, hz, by
        simp only [Bool.and_eq_true, decide_eq_true_eq]
        exact ⟨hz2.1, hzx, t.tr x hxp y hy z hz hb hz2.2.2⟩⟩
      rw [this] at hx5
      cases hx5
  · obtain ⟨c, hc, h⟩ := List.any_eq_true.1 h2
    simp only [Bool.and_eq_true, decide_eq_true_eq] at h
    have hcp := (List.mem_filter.1 hc).1
    refine List.any_eq_true.2 ⟨c, hc, ?_⟩
    simp only [Bool.and_eq_true, decide_eq_true_eq]
    exact ⟨h.1, sameK_of (by rw [t.key c hcp, t.key y hy]), t.tr c hcp x hxp y hy h.2.2 hb⟩
/-- The last one is not made useless. -/
theorem Pst.top_kept {A : List Ev} {m : Ev} (hm : m ∈ A) (hA : ∀ x ∈ A, x ∈ countingB p (livingB p)) (htop : ∀ x ∈ A, ¬ lessB (stampE m) (stampE x) = true)
    (hin : ∀ y ∈ countingB p (livingB p), y.k = m.k → (if m.k = 4 then sameV y m else sameL y m) = true → y ∈ A) : laterB p m = false := by
  rw [Bool.eq_false_iff]
  intro hl
  have hmc := hA m hm
  have hmp := (List.mem_filter.1 hmc).1
  have : ∃ y ∈ p, y.k = m.k ∧ (if m.k = 4 then sameV y m else sameL y m) = true ∧ belowB m y = true := by
    unfold laterB at hl
    by_cases h : m.k = 4
    · rw [if_pos h] at hl
      obtain ⟨y, hy, h2⟩ := List.any_eq_true.1 hl
      simp only [Bool.and_eq_true, decide_eq_true_eq] at h2
      exact ⟨y, hy, h2.1, by rw [if_pos h]; exact h2.2.1, h2.2.2⟩
    · rw [if_neg h] at hl
      obtain ⟨y, hy, h2⟩ := List.any_eq_true.1 hl
      simp only [Bool.and_eq_true, decide_eq_true_eq] at h2
      exact ⟨y, hy, h2.1, by rw [if_neg h]; exact h2.2.1, h2.2.2⟩
  obtain ⟨y, hy, hyk, hys, hyb⟩ := this
  have hyc := t.counts_up hmc hy hyb hyk (fun k4 => by rw [if_pos (by omega)] at hys; exact hys)
  have hyA := hin y hyc hyk hys
  have := t.hi m hmp y hy hyb
  refine htop y hyA ?_
  rw [less_iff]
  exact .inl this
theorem Pst.contact : contactB key ((countingB p (livingB p)).filter fun x => !laterB p x) = contactB key (countingB p (livingB p)) := by
  have hkind : ∀ x ∈ countingB p (livingB p), (x.k = 3 ∨ x.k = 4) ∧ x.key = key := fun x hx => ⟨count_kind (List.mem_filter.1 hx).2, t.key x (List.mem_filter.1 hx).1⟩
  have hone : OneStamp (countingB p (livingB p)) := fun a ha b hb => t.one a (List.mem_filter.1 ha).1 b (List.mem_filter.1 hb).1
  have htop := @Pst.top_kept p key t
  generalize hws : countingB p (livingB p) = ws at *
  have hs : ∀ n, setsB key n (ws.filter fun x => !laterB p x) = (setsB key n ws).filter fun x => !laterB p x := fun n => by
    unfold setsB
    rw [List.filter_filter, List.filter_filter]
    exact List.filter_congr fun x _ => Bool.and_comm _ _
  have ha : ∀ n, addsB key n (ws.filter fun x => !laterB p x) = (addsB key n ws).filter fun x => !laterB p x := fun n => by
    unfold addsB
    rw [List.filter_filter, List.filter_filter]
    exact List.filter_congr fun x _ => Bool.and_comm _ _
  have hsw : ∀ n, ∀ x ∈ setsB key n ws, x ∈ ws ∧ x.k = 3 ∧ x.l = n := fun n x hx => by
    obtain ⟨h1, h2⟩ := List.mem_filter.1 hx
    simp only [ofK, Bool.and_eq_true, decide_eq_true_eq] at h2
    exact ⟨h1, h2.2, h2.1.2⟩
  have haw : ∀ n, ∀ x ∈ addsB key n ws, x ∈ ws ∧ x.k = 4 ∧ x.l = n := fun n x hx => by
    obtain ⟨h1, h2⟩ := List.mem_filter.1 hx
    simp only [ofK, Bool.and_eq_true, decide_eq_true_eq, Bool.not_eq_true', decide_eq_false_iff_not] at h2
    exact ⟨h1, (hkind x h1).1.resolve_left h2.2, h2.1.2⟩
  have hset : ∀ n, hasF (setsB key n (ws.filter fun x => !laterB p x)) = hasF (setsB key n ws) ∧ fieldF (setsB key n (ws.filter fun x => !laterB p x)) = fieldF (setsB key n ws) := fun n => by
    rw [hs]
    by_cases h0 : (setsB key n ws).length = 0
    · have : setsB key n ws = [] := List.length_eq_zero_iff.1 h0
      rw [this]
      exact ⟨rfl, rfl⟩
    · obtain ⟨m, hm, e1, e2⟩ := field_is h0
      have hmx : ∀ x ∈ setsB key n ws, ¬ lessB (stampE m) (stampE x) = true := fun x hx => by
        rw [e2]
        exact (top_max ((setsB key n ws).map stampE) (((setsB key n ws).map stampE).getD 0 default)).2 _ (List.mem_map.2 ⟨x, hx, rfl⟩)
      obtain ⟨m1, m2, m3⟩ := hsw n m hm
      have hlt : laterB p m = false := htop hm (fun x hx => (hsw n x hx).1) hmx fun y hy hyk hys => by
        rw [if_neg (by omega)] at hys
        refine List.mem_filter.2 ⟨hy, ?_⟩
        simp only [sameL, sameK, Bool.and_eq_true, decide_eq_true_eq] at hys
        simp only [ofK, Bool.and_eq_true, decide_eq_true_eq]
        exact ⟨⟨(hkind y hy).2, by rw [hys.2]; exact m3⟩, by omega⟩
      have hmf : m ∈ (setsB key n ws).filter fun x => !laterB p x := List.mem_filter.2 ⟨hm, by rw [hlt]; rfl⟩
      refine ⟨?_, ?_⟩
      · unfold hasF
        rw [decide_eq_false h0, decide_eq_false (fun h => by rw [List.length_eq_zero_iff] at h; rw [h] at hmf; cases hmf)]
      · rw [e1]
        exact field_top (fun a ha b hb => hone a (hsw n a (List.mem_filter.1 ha).1).1 b (hsw n b (List.mem_filter.1 hb).1).1) hmf fun x hx => hmx x (List.mem_filter.1 hx).1
  have hadd : ∀ n, valsF (addsB key n (ws.filter fun x => !laterB p x)) = valsF (addsB key n ws) := fun n => by
    rw [ha]
    refine uniq_of_mem fun v => ?_
    rw [List.mem_map, List.mem_map]
    constructor
    · rintro ⟨x, hx, e⟩
      exact ⟨x, (List.mem_filter.1 hx).1, e⟩
    · rintro ⟨x, hx, e⟩
      have h0 : ¬ ((addsB key n ws).filter fun y => decide (y.v = x.v)).length = 0 := fun h => by
        rw [List.length_eq_zero_iff] at h
        have : x ∈ (addsB key n ws).filter fun y => decide (y.v = x.v) := List.mem_filter.2 ⟨hx, decide_eq_true rfl⟩
        rw [h] at this
        cases this
      obtain ⟨m, hm, e1, e2⟩ := field_is h0
      obtain ⟨hma, hmv⟩ := List.mem_filter.1 hm
      have hmv : m.v = x.v := of_decide_eq_true hmv
      obtain ⟨m1, m2, m3⟩ := haw n m hma
      have hmx : ∀ y ∈ (addsB key n ws).filter fun y => decide (y.v = x.v), ¬ lessB (stampE m) (stampE y) = true := fun y hy => by
        rw [e2]
        exact (top_max _ _).2 _ (List.mem_map.2 ⟨y, hy, rfl⟩)
      have hlt : laterB p m = false := htop hm (fun y hy => (haw n y (List.mem_filter.1 hy).1).1) hmx fun y hy hyk hys => by
        rw [if_pos m2] at hys
        simp only [sameV, sameL, sameK, Bool.and_eq_true, decide_eq_true_eq] at hys
        refine List.mem_filter.2 ⟨List.mem_filter.2 ⟨hy, ?_⟩, decide_eq_true (hys.2.trans hmv)⟩
        simp only [ofK, Bool.and_eq_true, decide_eq_true_eq, Bool.not_eq_true', decide_eq_false_iff_not]
        exact ⟨⟨(hkind y hy).2, by rw [hys.1.2]; exact m3⟩, by omega⟩
      exact ⟨m, List.mem_filter.2 ⟨hma, by rw [hlt]; rfl⟩, by rw [hmv]; exact e⟩
  unfold contactB
  rw [(hset 0).1, (hset 1).1, (hset 0).2, (hset 1).2, hadd, hadd]
theorem Pst.of_kept : ofB (keptL p) = ofB p := by
  rw [of_same (l := keptL p) (key := key) (fun x hx => t.key x (List.mem_filter.1 hx).1), of_same t.key, kept_counting, kept_living, t.contact]
omit t in
theorem size_kept : (keptL p).length = sizeB p := by
  unfold keptL sizeB
  have hd : ∀ e, livesB p e = true → countB p (livingB p) e = false := fun e he => by
    have := lives_kind he
    rw [Bool.eq_false_iff]
    intro k
    rcases count_kind k with h | h <;> omega
  have : ∀ l : List Ev, (l.filter (keptQ p)).length = (l.filter (livesB p)).length + ((l.filter (countB p (livingB p))).filter fun e => !laterB p e).length := by
    intro l
    induction l with
    | nil => rfl
    | cons x l ih =>
      rw [List.filter_cons, List.filter_cons, List.filter_cons]
      have hq : keptQ p x = (livesB p x || (countB p (livingB p) x && !laterB p x)) := rfl
      rw [hq]
      cases hl : livesB p x with
      | true => simp [hd x hl, ih]; omega
      | false =>
        cases hc : countB p (livingB p) x with
        | false => simp [ih]
        | true =>
          simp only [Bool.false_or, Bool.true_and, if_true, Bool.false_eq_true, if_false]
          rw [List.filter_cons]
          cases laterB p x <;> simp [ih] <;> omega
  exact this p
end
end Go.Proofs.Ytkkpfjifkjbndaa

/-
  Plain Lean: what is kept of all keys lists what all events come to, and is as much as there is to keep.
-/
namespace Go.Proofs.Ytkkpfjifkjbndaa
open Go.RowKit

def keyS (k : Str) : ByteArray := ⟨k.toArray⟩
theorem strL_keyS (k : Str) : strL (keyS k) = k := rfl
/-- What is kept of a key, of all events. -/
def keptK (P : List Ev) (key : ByteArray) : List Ev := keptL (onP (eqK key) P)
theorem keptK_same {P : List Ev} {e : Ev} (t : Nxt (onP (eqK e.key) P) e) : keptK (P ++ [e]) e.key = liveW (keptK P e.key) e := by
  unfold keptK
  rw [on_snoc, if_pos (show eqK e.key e.key = true from decide_eq_true rfl), t.step]
theorem keptK_other {P : List Ev} {e : Ev} {key : ByteArray} (h : key ≠ e.key) : keptK (P ++ [e]) key = keptK P key := by
  unfold keptK
  rw [on_snoc, if_neg (by unfold eqK; rw [decide_eq_false (fun k => h k.symm)]; simp), List.append_nil]
/-- Something is kept of a key just if a Create of it lives. -/
theorem kept_some {P : List Ev} {key : ByteArray} : keptK P key ≠ [] ↔ livingB (onP (eqK key) P) ≠ [] := by
  constructor
  · intro h hl
    obtain ⟨x, hx⟩ := List.exists_mem_of_ne_nil _ h
    obtain ⟨hx, hq⟩ := List.mem_filter.1 hx
    rcases kept_kinds hq with ⟨h1, _⟩ | ⟨h1, _, _⟩
    · have : x ∈ livingB (onP (eqK key) P) := List.mem_filter.2 ⟨hx, h1⟩
      rw [hl] at this
      cases this
    · unfold countB at h1
      rw [hl] at h1
      simp [underB] at h1
  · intro h hk
    obtain ⟨x, hx⟩ := List.exists_mem_of_ne_nil _ h
    obtain ⟨hx, hl⟩ := List.mem_filter.1 hx
    have : x ∈ keptK P key := List.mem_filter.2 ⟨hx, by unfold keptQ; rw [hl]; rfl⟩
    rw [hk] at this
    cases this
theorem key_living {P : List Ev} {k : Str} : k ∈ keysB P ↔ livingB (onP (eqK (keyS k)) P) ≠ [] := by
  have h1 : k ∈ keysB P ↔ k ∈ (livingB P).map fun e : Ev => strL e.key := (uniq_props _).2 k
  rw [h1, living_on, List.mem_map]
  constructor
  · rintro ⟨e, he, rfl⟩ h
    have : e ∈ onP (eqK (keyS (strL e.key))) (livingB P) := List.mem_filter.2 ⟨he, decide_eq_true (show e.key = keyS (strL e.key) by unfold keyS; rw [arrS])⟩
    rw [h] at this
    cases this
  · intro h
    obtain ⟨e, he⟩ := List.exists_mem_of_ne_nil _ h
    obtain ⟨he, hk⟩ := List.mem_filter.1 he
    have hk : e.key = keyS k := of_decide_eq_true hk
    exact ⟨e, he, by rw [hk]; rfl⟩
theorem of_key {P : List Ev} {k : Str} (h : k ∈ keysB P) : ofB (onP (eqK (keyS k)) P) = [contactB (keyS k) (countingB P (livingB P))] := by
  rw [of_same (key := keyS k) on_key, if_neg (key_living.1 h), counting_on, contact_on (show eqK (keyS k) (keyS k) = true from decide_eq_true rfl)]
theorem list_kept {P : List Ev} (hp : ∀ key, Pst (onP (eqK key) P) key) {ks : List Str} (hs : ks.Pairwise (· < ·)) (hm : ∀ k, k ∈ ks ↔ keptK P (keyS k) ≠ []) :
    ks.flatMap (fun k => ofB (keptK P (keyS k))) = ofB P := by
  have hk : ks = keysB P := rising_eq hs (uniq_props ((livingB P).map fun e : Ev => strL e.key)).1 fun k => by
    rw [hm, kept_some]
    exact key_living.symm
  have h2 : ∀ l : List Str, (∀ k ∈ l, k ∈ keysB P) → l.flatMap (fun k => ofB (keptK P (keyS k))) = l.map fun k => contactB (keyS k) (countingB P (livingB P)) := by
    intro l
    induction l with
    | nil => intro _; rfl
    | cons k l ih =>
      intro h
      rw [List.flatMap_cons, List.map_cons, ih fun x hx => h x (List.mem_cons_of_mem _ hx)]
      unfold keptK
      rw [(hp (keyS k)).of_kept, of_key (h k List.mem_cons_self)]
      rfl
  rw [hk, h2 _ fun k h => h]
  rfl
theorem get_kept {P : List Ev} (hp : ∀ key, Pst (onP (eqK key) P) key) (key : ByteArray) : ofB (keptK P key) = (ofB P).filter fun c => decide (c.key = key) := by
  unfold keptK
  rw [(hp key).of_kept, of_eqK]

/-! ### How much -/
theorem size_nil_of {P : List Ev} (h : livingB P = []) : sizeB P = 0 := by
  unfold sizeB
  rw [h]
  have : countingB P [] = [] := by
    unfold countingB
    rw [List.filter_eq_nil_iff]
    intro x _
    simp [countB, underB]
  rw [this]
  rfl
theorem on_on {p q : ByteArray → Bool} {P : List Ev} (h : ∀ k, p k = true → q k = true) : onP p (onP q P) = onP p P := by
  unfold onP
  rw [List.filter_filter]
  refine List.filter_congr fun x _ => ?_
  cases hp : p x.key with
  | false => simp
  | true => rw [h _ hp]; rfl
theorem size_keys : ∀ (ks : List Str) (P : List Ev), ks.Nodup → (∀ x ∈ livingB P, strL x.key ∈ ks) → (ks.map fun k => (keptK P (keyS k)).length).sum = sizeB P
  | [], P, _, h => by
    have : livingB P = [] := List.eq_nil_iff_forall_not_mem.2 fun x hx => by have := h x hx; cases this
    rw [size_nil_of this]
    rfl
  | k :: ks, P, hn, h => by
    obtain ⟨hk, hn⟩ := List.nodup_cons.1 hn
    have ih := size_keys ks (onP (fun x => !eqK (keyS k) x) P) hn (fun x hx => by
      rw [living_on] at hx
      obtain ⟨hx, hne⟩ := List.mem_filter.1 hx
      rcases List.mem_cons.1 (h x hx) with e | h
      · exfalso
        have : eqK (keyS k) x.key = true := decide_eq_true (by rw [← e]; unfold keyS; rw [arrS])
        have hne : (!eqK (keyS k) x.key) = true := hne
        rw [this] at hne
        cases hne
      · exact h)
    have hc : (ks.map fun q => (keptK (onP (fun x => !eqK (keyS k) x) P) (keyS q)).length) = ks.map fun q => (keptK P (keyS q)).length := List.map_congr_left fun q hq => by
      unfold keptK
      rw [on_on]
      intro y hy
      have hy : y = keyS q := of_decide_eq_true hy
      have : y ≠ keyS k := fun e => by
        rw [hy] at e
        have e : q = k := congrArg strL e
        exact hk (e ▸ hq)
      unfold eqK
      rw [decide_eq_false this]
      rfl
    rw [hc] at ih
    rw [List.map_cons, List.sum_cons, ih, size_two (p := eqK (keyS k)) (l := P)]
    congr 1
    exact size_kept
/-- Of a past each key's events are as asked. -/
theorem Inv.pst {T P : List Ev} {H : Nat → Clk} (hI : Inv T H) (hP : ∀ x ∈ P, x ∈ T) (htr : ∀ a ∈ T, ∀ b ∈ T, ∀ c ∈ T, belowB a b = true → belowB b c = true → belowB a c = true) (key : ByteArray) : Pst (onP (eqK key) P) key := by
  have hs : ∀ x ∈ onP (eqK key) P, x ∈ T := fun x hx => hP x (List.mem_filter.1 hx).1
  exact ⟨on_key, fun a ha b hb => hI.stamp a (hs a ha) b (hs b hb), fun a ha b hb => hI.hgt a (hs a ha) b (hs b hb), fun a ha b hb c hc => htr a (hs a ha) b (hs b hb) c (hs c hc)⟩
end Go.Proofs.Ytkkpfjifkjbndaa

/-
  Plain Lean: pasts that were made are transitive; in another order what is below comes first, too.
-/
namespace Go.Proofs.Ytkkpfjifkjbndaa
open Go.RowKit

def TrOk (T : List Ev) : Prop := ∀ x ∈ T, ∀ e ∈ T, belowB x e = true → ∀ r : Nat, r < 5 → x.c.at r ≤ e.c.at r
theorem tr_edit {T : List Ev} {H : Nat → Clk} (h : Inv T H) (h2 : TrOk T) {r : Nat} (hr : r < 5) {y : Ev} (ec : y.c = H r) (hV : (T ++ [y]).Pairwise fun a b => belowB b a = false) (hs : belowB y y = false) : TrOk (T ++ [y]) := fun x hx e he hb p hp => by
  rcases List.mem_append.1 he with he | he
  · rcases List.mem_append.1 hx with hx | hx
    · exact h2 x hx e he hb p hp
    · rw [List.mem_singleton.1 hx] at hb
      rw [(List.pairwise_append.1 hV).2.2 e he y (List.mem_singleton.2 rfl)] at hb
      cases hb
  · rw [List.mem_singleton.1 he] at hb ⊢
    rcases List.mem_append.1 hx with hx | hx
    · unfold belowB at hb
      rw [ec] at hb ⊢
      exact h.clo r hr x hx hb p hp
    · rw [List.mem_singleton.1 hx, hs] at hb
      cases hb
theorem tr_step {s : Mk} (h : Inv s.1 s.2) (h2 : TrOk s.1) (c : Ch0) : TrOk (mkStep s c).1 := by
  have hn := Inv.step h c
  obtain ⟨T, H⟩ := s
  unfold mkStep at hn ⊢
  by_cases hsy : c.sy = true
  · rw [if_pos hsy]
    exact h2
  · rw [if_neg hsy] at hn ⊢
    refine tr_edit h h2 mod_five rfl hn.ord ?_
    have hself : ∀ y, y ∈ (mkEdit (T, H) (c.r % 5).toNat (fitEd c.ed)).1 → belowB y y = false := fun y hy => by
      obtain ⟨r, h1, h3, h4, h5, h6⟩ := hn.ev y hy
      unfold belowB
      rw [h3, Bool.eq_false_iff]
      intro k
      rw [has_at h1] at k
      omega
    exact hself _ (by show _ ∈ T ++ [_]; simp)
theorem tr_fold : ∀ (l : List Ch0) (s : Mk), Inv s.1 s.2 → TrOk s.1 → TrOk (l.foldl mkStep s).1
  | [], _, _, h => h
  | c :: l, s, hi, h => by
    rw [List.foldl_cons]
    exact tr_fold l _ (Inv.step hi c) (tr_step hi h c)
theorem tr_of (l : List Ch0) : TrOk (makeL l) := tr_fold l ([], fun _ => clk0) Inv.nil fun x hx => by cases hx
theorem below_tr {T : List Ev} {H : Nat → Clk} (hI : Inv T H) (ht : TrOk T) : ∀ a ∈ T, ∀ b ∈ T, ∀ c ∈ T, belowB a b = true → belowB b c = true → belowB a c = true := fun a ha b hb c hc h1 h2 => by
  obtain ⟨r, k1, k2, k3, _, _⟩ := hI.ev a ha
  unfold belowB at h1 ⊢
  rw [k2, has_at k1] at h1 ⊢
  have := ht b hb c hc h2 r k1
  exact ⟨h1.1, by omega⟩

/-! ### In another order -/
structure SprFull (W : List Ev) (s : Spr) : Prop where
  full : ∀ e ∈ W, ∀ r : Nat, r < 5 → e.r = (r : Int) → e.n ≤ s.hv.at r → e ∈ s.out
  le : ∀ e ∈ s.out, ∀ r : Nat, r < 5 → e.c.at r ≤ s.hv.at r
  ord : s.out.Pairwise fun a b => belowB b a = false
theorem SprFull.step {W : List Ev} {H : Nat → Clk} (hI : Inv W H) {s : Spr} (hok : SprOk W s) (h : SprFull W s) {k : Nat} (hk : k ∈ rdyL s.left s.hv) : SprFull W (sprAt s k) := by
  obtain ⟨hkl, hrp⟩ := rdy_mem.1 hk
  obtain ⟨out, left, hv⟩ := s
  obtain ⟨h1, h2, h3⟩ := h
  obtain ⟨p1, p2, p3, p4⟩ := hok
  simp only at h1 h2 h3 p1 p2 p3 p4 hkl hrp
  have hg : left.getD k default = left[k] := by rw [List.getD, List.getElem?_eq_getElem hkl]; rfl
  have hm : left[k] ∈ W := p2.subset (List.getElem_mem hkl)
  have hle : ∀ r : Nat, r < 5 → left[k].c.at r ≤ hv.at r := by
    have : left[k].c.le hv = true := by rw [← hg]; exact hrp
    exact le_at.1 this
  obtain ⟨p, q1, q2, q3, q4, q5⟩ := hI.ev _ hm
  have ep : left[k].r.toNat = p := by rw [q2]; omega
  have htop : ∀ r : Nat, r < 5 → hv.at r ≤ (hv.top p left[k].n).at r := fun r hr => by
    rw [top_at _ _ q1 hr]
    split
    · exact mx_l _ _
    · exact Int.le_refl _
  have hnout : left[k] ∉ out := fun ho => by
    have hd : (out ++ left).Pairwise fun a b => ¬ (a.r = b.r ∧ a.n = b.n) := (p1.symm.pairwise_iff (fun h k => h ⟨k.1.symm, k.2.symm⟩)).1 hI.dis
    exact (List.pairwise_append.1 hd).2.2 _ ho _ (List.getElem_mem hkl) ⟨rfl, rfl⟩
  unfold sprAt
  simp only [hg, ep]
  refine ⟨fun e he r hr er en => ?_, fun e he r hr => ?_, ?_⟩
  · have en : e.n ≤ (hv.top p left[k].n).at r := en
    rw [top_at _ _ q1 hr] at en
    by_cases hrp2 : r = p
    · subst hrp2
      rw [if_pos rfl] at en
      rcases Int.lt_or_le (hv.at r) e.n with k1 | k1
      · have hh := hle r hr
        have : e.n ≤ left[k].n := by unfold mxI at en; split at en <;> omega
        have hen : e.n = left[k].n := by omega
        have : e = left[k] := hI.mark he hm (by rw [er, q2]) hen
        rw [this]
        exact List.mem_append.2 (.inr (List.mem_singleton.2 rfl))
      · exact List.mem_append.2 (.inl (h1 e he r hr er k1))
    · rw [if_neg hrp2] at en
      exact List.mem_append.2 (.inl (h1 e he r hr er en))
  · have := htop r hr
    have he : e ∈ out ++ [left[k]] := he
    show e.c.at r ≤ (hv.top p left[k].n).at r
    rcases List.mem_append.1 he with he | he
    · have := h2 e he r hr
      omega
    · rw [List.mem_singleton.1 he]
      have := hle r hr
      omega
  · show (out ++ [left[k]]).Pairwise _
    refine List.pairwise_append.2 ⟨h3, List.pairwise_singleton _ _, fun x hx y hy => ?_⟩
    rw [List.mem_singleton.1 hy, Bool.eq_false_iff]
    intro hb
    unfold belowB at hb
    rw [q2, has_at q1] at hb
    have := h2 x hx p q1
    exact hnout (h1 _ hm p q1 q2 (by omega))
theorem pick_mem {picks : List UInt8} {i : Nat} {left : List Ev} {h : Clk} (h0 : 0 ∈ rdyL left h) : pickN picks i (rdyL left h) ∈ rdyL left h := by
  have hl : 0 < (rdyL left h).length := List.length_pos_of_mem h0
  have hm : ∀ j, j < (rdyL left h).length → (rdyL left h).getD j 0 ∈ rdyL left h := fun j hj => by
    rw [List.getD, List.getElem?_eq_getElem hj]
    exact List.getElem_mem hj
  unfold pickN
  split
  · exact hm _ (Nat.mod_lt _ hl)
  · exact hm 0 hl
theorem sprN_full {W : List Ev} {H : Nat → Clk} (hI : Inv W H) (picks : List UInt8) : ∀ i, i ≤ W.length → SprFull W (sprN picks W i)
  | 0, _ => ⟨fun e he r hr er en => by
      obtain ⟨q, q1, q2, q3, _, _⟩ := hI.ev e he
      have en : e.n ≤ clk0.at r := en
      have h0 : clk0.at r = 0 := match r with | 0 => rfl | 1 => rfl | 2 => rfl | 3 => rfl | _ + 4 => rfl
      omega, fun e he => (by cases he), .nil⟩
  | i + 1, hi => by
    obtain ⟨h1, h2⟩ := sprN_ok hI picks i (by omega)
    exact (sprN_full hI picks i (by omega)).step hI h1 (pick_mem (h1.rdy hI (by omega)))
/-- In the other order nothing is below what comes ahead of it. -/
theorem spr_ord {W : List Ev} {H : Nat → Clk} (hI : Inv W H) (picks : List UInt8) : (sprL picks W).Pairwise fun a b => belowB b a = false := (sprN_full hI picks W.length (Nat.le_refl _)).ord

/-- Each event of a row in which what is below comes first, behind those ahead of it. -/
theorem nxt_of {W X : List Ev} {H : Nat → Clk} (hI : Inv W H) (ht : TrOk W) (hX : ∀ x ∈ X, x ∈ W) (ho : X.Pairwise fun a b => belowB b a = false) {P Q : List Ev} {e : Ev} (hs : X = P ++ e :: Q) : Nxt (onP (eqK e.key) P) e := by
  have heX : e ∈ X := by rw [hs]; simp
  have hPX : ∀ x ∈ P, x ∈ X := fun x hx => by rw [hs]; exact List.mem_append.2 (.inl hx)
  have hsub : ∀ x ∈ onP (eqK e.key) P, x ∈ P := fun x hx => (List.mem_filter.1 hx).1
  rw [hs] at ho
  refine ⟨on_key, fun x hx => (List.pairwise_append.1 ho).2.2 x (hsub x hx) e List.mem_cons_self, ?_, fun a ha b hb h1 h2 => below_tr hI ht a (hX _ (hPX _ (hsub a ha))) b (hX _ (hPX _ (hsub b hb))) e (hX e heX) h1 h2, (hI.fine e (hX e heX)).k, fun x hx => (hI.fine x (hX _ (hPX _ (hsub x hx)))).k⟩
  obtain ⟨r, h1, h3, h4, h5, h6⟩ := hI.ev e (hX e heX)
  unfold belowB
  rw [h3, Bool.eq_false_iff]
  intro k
  rw [has_at h1] at k
  omega
end Go.Proofs.Ytkkpfjifkjbndaa

/-
  Objects that are told as a whole: opened into their parts at a function's door, and closed at its end (MSpec.opn); what a slice's header says when its row is gone (ACall.hdr).
-/
namespace Go.Proofs.Ytkkpfjifkjbndaa
open Go.RowKit

/-- The object o, named j, opens as some objects hs y. -/
def Opens (o : OB) (j : Nat) {Y : Type} (hs : Y → List (Nat × AO)) : Prop :=
  ∀ (w : World) (k : Nat → Prop) (v : Value), o.R w k v → ∃ (y : Y) (ρ : Nat → Value), hdV (ρ j) = hdV v ∧ (blocksOf ρ (hs y)).Perm (blks v) ∧ ∀ p ∈ hs y, ObjOk ⟨w, k, ρ⟩ p.1 p.2
/-- The objects hs close as the object o, named j. -/
def Closes (hs : List (Nat × AO)) (j : Nat) (o : OB) : Prop :=
  ∀ (w : World) (k : Nat → Prop) (ρ : Nat → Value), (blocksOf ρ hs).Nodup → (∀ p ∈ hs, ObjOk ⟨w, k, ρ⟩ p.1 p.2) → ∃ us, o.R w k (.tuple us) ∧ hdV (.tuple us) = hdV (ρ j) ∧ ∀ b ∈ blks (.tuple us), b ∈ blocksOf ρ hs

/-- Names that mean the same (those of q), or begin alike (j). -/
def refQ0 (q : Nat → Bool) (j : Nat) : AV → Bool
  | .own i => q i || Nat.beq i j
  | .box i _ => q i || Nat.beq i j
  | .eown i .. => q i
  | .cf _ i _ => q i || Nat.beq i j
  | _ => true
def refQ1 (q : Nat → Bool) (j : Nat) : AV → Bool
  | .agg cs => cs.all (refQ0 q j)
  | .fn _ cs => cs.all (refQ0 q j)
  | x => refQ0 q j x
def refQ2 (q : Nat → Bool) (j : Nat) : AV → Bool
  | .tup vs => vs.all (refQ1 q j)
  | x => refQ1 q j x
section
variable {X Y : CX} {q : Nat → Bool} {j : Nat} (hk : ∀ b, X.keep b → Y.keep b) (hm : Y.w = X.w) (hρ : ∀ i, q i = true → Y.ρ i = X.ρ i) (hj : hdV (Y.ρ j) = hdV (X.ρ j))
include hk hm hρ hj
theorem C0.refQ {av : AV} {u : Value} (hr : refQ0 q j av = true) (hc : C0 X av u) : C0 Y av u := by
  have hmm : ∀ b, X.keep b → Y.w.heap[b]? = X.w.heap[b]? := fun _ _ => by rw [hm]
  have hh : ∀ i, (q i || Nat.beq i j) = true → hdV (Y.ρ i) = hdV (X.ρ i) := fun i h => by
    simp only [Bool.or_eq_true] at h
    rcases h with h | h
    · rw [hρ i h]
    · rw [Nat.eq_of_beq_eq_true h]; exact hj
  cases av with
  | own id => exact (show u = hdV (X.ρ id) from hc).trans (hh id hr).symm
  | eown id s i k => obtain ⟨b, n, c, h1, h2⟩ := hc; exact ⟨b, n, c, (hρ id hr).trans h1, h2⟩
  | box id off => obtain ⟨b, h1, h2⟩ := hc; exact ⟨b, (hh id hr).trans h1, h2⟩
  | cf gg id off => obtain ⟨b, h1, h2⟩ := hc; exact ⟨b, (hh id hr).trans h1, h2⟩
  | el cs k =>
    obtain ⟨b, o, us, e, kb, ha, hcell⟩ := hc
    exact ⟨b, o, us, e, hk b kb, ha.imp (fun _ _ => PC.mono hk hmm), fun j y hj => (World.cell?_of_block (hmm b kb)).trans (hcell j y hj)⟩
  | sl s n sc f => exact PC.mono hk hmm hc
  | v x => exact hc
  | junk => trivial
  | agg cs => exact hc
  | tup cs => exact hc
  | fn g caps => exact hc
theorem C1.refQ {av : AV} {u : Value} (hr : refQ1 q j av = true) (hc : C1 X av u) : C1 Y av u := by
  cases av with
  | agg cs => obtain ⟨us, e, ha⟩ := hc; exact ⟨us, e, ha.impB hr fun _ _ q k => C0.refQ hk hm hρ hj q k⟩
  | fn g cs => obtain ⟨us, e, ha⟩ := hc; exact ⟨us, e, ha.impB hr fun _ _ q k => C0.refQ hk hm hρ hj q k⟩
  | own id => exact C1.of0 (C0.refQ hk hm hρ hj (av := .own id) hr hc)
  | eown id s i k => exact C1.of0 (C0.refQ hk hm hρ hj (av := .eown id s i k) hr hc)
  | box id k => exact C1.of0 (C0.refQ hk hm hρ hj (av := .box id k) hr hc)
  | cf gg id k => exact C1.of0 (C0.refQ hk hm hρ hj (av := .cf gg id k) hr hc)
  | el cs k => exact C1.of0 (C0.refQ hk hm hρ hj (av := .el cs k) hr hc)
  | sl s n sc f => exact C1.of0 (C0.refQ hk hm hρ hj (av := .sl s n sc f) hr hc)
  | v x => exact hc
  | junk => trivial
  | tup cs => exact hc
theorem C2.refQ {av : AV} {u : Value} (hr : refQ2 q j av = true) (hc : C2 X av u) : C2 Y av u := by
  cases av with
  | tup vs => obtain ⟨us, e, ha⟩ := hc; exact ⟨us, e, ha.impB hr fun _ _ q k => C1.refQ hk hm hρ hj q k⟩
  | agg cs => exact C2.of1 (C1.refQ hk hm hρ hj (av := .agg cs) hr hc)
  | fn g cs => exact C2.of1 (C1.refQ hk hm hρ hj (av := .fn g cs) hr hc)
  | own id => exact C2.of1 (C1.refQ hk hm hρ hj (av := .own id) hr hc)
  | eown id s i k => exact C2.of1 (C1.refQ hk hm hρ hj (av := .eown id s i k) hr hc)
  | box id k => exact C2.of1 (C1.refQ hk hm hρ hj (av := .box id k) hr hc)
  | cf gg id k => exact C2.of1 (C1.refQ hk hm hρ hj (av := .cf gg id k) hr hc)
  | el cs k => exact C2.of1 (C1.refQ hk hm hρ hj (av := .el cs k) hr hc)
  | sl s n sc f => exact C2.of1 (C1.refQ hk hm hρ hj (av := .sl s n sc f) hr hc)
  | v x => exact hc
  | junk => trivial
end
theorem single_blocks (ρ : Nat → Value) (p : Nat × AO) : blocksOf ρ [p] = blks (ρ p.1) := by rw [blocks_cons]; simp [blocksOf]
/-- A contract of an object as a whole, out of contracts of its parts. -/
theorem MSpec.opn {P : Program} {f : FuncId} {o o' : OB} {j : Nat} {Y : Type} {hs : Y → List (Nat × AO)} {avs : List AV} {r : AV} {ho : List (Nat × AO)} (hE : Enters P f) (hO : Opens o j hs)
    (h : ∀ y, ∃ hs', Closes hs' j o' ∧ hasN j (hs y) = true ∧ hasN j hs' = true ∧ MSpec P f (hs y) avs r (hs' ++ ho))
    (hb : (avs.all (refQ1 (fun _ => false) j) && refQ2 (fun i => hasN i ho) j r && closedH ho ho && !(hasN j ho)) = true) : MSpec P f [(j, .obs o)] avs r ((j, .obs o') :: ho) := by
  simp only [Bool.and_eq_true, Bool.not_eq_true'] at hb
  obtain ⟨⟨⟨hav, hrr⟩, hcl⟩, hne⟩ := hb
  refine ⟨hE, fun w keep ρ args hkeep hobj hnd hbl hargs => ?_⟩
  obtain ⟨us, eu, hR⟩ := hobj _ (List.mem_singleton.2 rfl)
  have eu : ρ j = .tuple us := eu
  have hR : o.R w keep (ρ j) := hR
  have hsb := single_blocks ρ (j, .obs o)
  rw [hsb] at hnd hbl
  obtain ⟨y, ρ', hhd, hperm, hok⟩ := hO w keep (ρ j) hR
  obtain ⟨hs', hC, hj1, hj2, hM⟩ := h y
  have hmem : ∀ b, b ∈ blocksOf ρ' (hs y) ↔ b ∈ blks (ρ j) := fun b => hperm.mem_iff
  refine (hM.2 w keep ρ' args hkeep hok (hperm.nodup_iff.2 hnd) (fun b hb => hbl b ((hmem b).1 hb)) (hargs.impB hav fun _ _ q k => C1.refQ (X := ⟨w, keep, ρ⟩) (Y := ⟨w, keep, ρ'⟩) (fun _ h => h) rfl (fun _ h => by cases h) hhd q k)).mono ?_
  rintro e w' ⟨u, ρ3, rfl, hbel, hfix, hc, hout, hnd', hnew⟩
  rw [blocks_append, List.nodup_append] at hnd'
  obtain ⟨hn1, hn2, hn3⟩ := hnd'
  obtain ⟨vs, hR', hhd', hbs⟩ := hC w' (keepOf ⟨w, keep, fun b => b ∈ blocksOf ρ' (hs y)⟩ w' ρ3 (hs' ++ ho)) ρ3 hn1 (fun p hp => hout p (List.mem_append_left _ hp))
  let ρ4 : Nat → Value := fun i => if i = j then .tuple vs else ρ3 i
  have e4j : ρ4 j = .tuple vs := by simp [ρ4]
  have e4 : ∀ i, hasN i ho = true → ρ4 i = ρ3 i := fun i hi => by
    have : i ≠ j := by rintro rfl; rw [hne] at hi; cases hi
    simp [ρ4, this]
  have hb4 : blocksOf ρ4 ((j, .obs o') :: ho) = blks (.tuple vs) ++ blocksOf ρ3 ho := by
    rw [blocks_cons, blocks_congr fun p hp => e4 p.1 (hasN_mem.2 ⟨p, hp, rfl⟩)]
    show blks (ρ4 j) ++ _ = _
    rw [e4j]
  have hsub4 : ∀ b, b ∈ blocksOf ρ4 ((j, .obs o') :: ho) → b ∈ blocksOf ρ3 (hs' ++ ho) := fun b hb => by
    rw [hb4] at hb
    rw [blocks_append]
    exact (List.mem_append.1 hb).elim (fun h => List.mem_append_left _ (hbs b h)) (fun h => List.mem_append_right _ h)
  have hk4 : ∀ b, keepOf ⟨w, keep, fun b => b ∈ blocksOf ρ' (hs y)⟩ w' ρ3 (hs' ++ ho) b → keepOf ⟨w, keep, fun b => b ∈ blocksOf ρ [(j, .obs o)]⟩ w' ρ4 ((j, .obs o') :: ho) b := by
    rintro b ⟨h1, h2, h3⟩
    exact ⟨h1, fun hlt => (h2 hlt).imp id fun h => (by show b ∈ blocksOf ρ [(j, .obs o)]; rw [hsb]; exact (hmem b).1 h), fun h => h3 (hsub4 b h)⟩
  refine ⟨u, ρ4, rfl, ⟨hbel.os, hbel.tape, hbel.output, hbel.size, fun k hk hM' => hbel.block k hk fun h => hM' (by rw [hsb]; exact (hmem k).1 h)⟩, ?_, ?_, ?_, ?_, ?_⟩
  · intro p hp q hq eq
    obtain rfl := List.mem_singleton.1 hp
    refine .inr ⟨⟨vs, e4j⟩, ⟨us, eu⟩, ?_⟩
    show hdV (ρ4 j) = hdV (ρ j)
    rw [e4j, hhd', ← hhd]
    obtain ⟨p', hp', ep⟩ := hasN_mem.1 hj1
    obtain ⟨q', hq', eq'⟩ := hasN_mem.1 hj2
    have := (hfix p' hp' q' (List.mem_append_left _ hq') (eq'.trans ep.symm)).hd
    rw [ep] at this
    exact this
  · exact C2.refQ (X := cxOf ⟨w, keep, fun b => b ∈ blocksOf ρ' (hs y)⟩ w' ρ3 (hs' ++ ho)) (Y := cxOf ⟨w, keep, fun b => b ∈ blocksOf ρ [(j, .obs o)]⟩ w' ρ4 ((j, .obs o') :: ho)) hk4 rfl e4 (by show hdV (ρ4 j) = hdV (ρ3 j); rw [e4j, hhd']) hrr hc
  · intro p hp
    rcases List.mem_cons.1 hp with rfl | hp
    · refine ⟨vs, e4j, ?_⟩
      show o'.R w' _ (ρ4 j)
      rw [e4j]
      exact o'.mono hk4 (fun _ _ => rfl) (fun _ _ => rfl) hR'
    · exact ObjOk.over (X := cxOf ⟨w, keep, fun b => b ∈ blocksOf ρ' (hs y)⟩ w' ρ3 (hs' ++ ho)) (Y := cxOf ⟨w, keep, fun b => b ∈ blocksOf ρ [(j, .obs o)]⟩ w' ρ4 ((j, .obs o') :: ho)) hk4 rfl e4 (hasN_mem.2 ⟨p, hp, rfl⟩) (closedH_mem hcl p hp) (hout p (List.mem_append_right _ hp))
  · rw [hb4, List.nodup_append]
    exact ⟨(o'.lt hR').2.2, hn2, fun a ha b hb => hn3 a (hbs a ha) b hb⟩
  · intro b hb
    rcases hnew b (hsub4 b hb) with h | h
    · exact .inl h
    · exact .inr (by rw [hsb]; exact (hmem b).1 h)

/-- A contract that closes what it leaves (a new object, told as a whole). -/
theorem MSpec.cls {P : Program} {f : FuncId} {o' : OB} {j : Nat} {avs : List AV} {r : AV} {hs' ho : List (Nat × AO)} (hC : Closes hs' j o') (hM : MSpec P f [] avs r (hs' ++ ho))
    (hb : (refQ2 (fun i => hasN i ho) j r && closedH ho ho && !(hasN j ho)) = true) : MSpec P f [] avs r ((j, .obs o') :: ho) := by
  simp only [Bool.and_eq_true, Bool.not_eq_true'] at hb
  obtain ⟨⟨hrr, hcl⟩, hne⟩ := hb
  refine ⟨hM.1, fun w keep ρ args hkeep hobj hnd hbl hargs => (hM.2 w keep ρ args hkeep hobj hnd hbl hargs).mono ?_⟩
  rintro e w' ⟨u, ρ3, rfl, hbel, hfix, hc, hout, hnd', hnew⟩
  rw [blocks_append, List.nodup_append] at hnd'
  obtain ⟨hn1, hn2, hn3⟩ := hnd'
  obtain ⟨vs, hR', hhd', hbs⟩ := hC w' (keepOf ⟨w, keep, fun b => b ∈ blocksOf ρ []⟩ w' ρ3 (hs' ++ ho)) ρ3 hn1 (fun p hp => hout p (List.mem_append_left _ hp))
  let ρ4 : Nat → Value := fun i => if i = j then .tuple vs else ρ3 i
  have e4j : ρ4 j = .tuple vs := by simp [ρ4]
  have e4 : ∀ i, hasN i ho = true → ρ4 i = ρ3 i := fun i hi => by
    have : i ≠ j := by rintro rfl; rw [hne] at hi; cases hi
    simp [ρ4, this]
  have hb4 : blocksOf ρ4 ((j, .obs o') :: ho) = blks (.tuple vs) ++ blocksOf ρ3 ho := by
    rw [blocks_cons, blocks_congr fun p hp => e4 p.1 (hasN_mem.2 ⟨p, hp, rfl⟩)]
    show blks (ρ4 j) ++ _ = _
    rw [e4j]
  have hsub4 : ∀ b, b ∈ blocksOf ρ4 ((j, .obs o') :: ho) → b ∈ blocksOf ρ3 (hs' ++ ho) := fun b hb => by
    rw [hb4] at hb
    rw [blocks_append]
    exact (List.mem_append.1 hb).elim (fun h => List.mem_append_left _ (hbs b h)) (fun h => List.mem_append_right _ h)
  have hk4 : ∀ b, keepOf ⟨w, keep, fun b => b ∈ blocksOf ρ []⟩ w' ρ3 (hs' ++ ho) b → keepOf ⟨w, keep, fun b => b ∈ blocksOf ρ []⟩ w' ρ4 ((j, .obs o') :: ho) b :=
    fun b ⟨h1, h2, h3⟩ => ⟨h1, h2, fun h => h3 (hsub4 b h)⟩
  refine ⟨u, ρ4, rfl, hbel, (fun p hp => by cases hp), ?_, ?_, ?_, fun b hb => hnew b (hsub4 b hb)⟩
  · exact C2.refQ (X := cxOf ⟨w, keep, fun b => b ∈ blocksOf ρ []⟩ w' ρ3 (hs' ++ ho)) (Y := cxOf ⟨w, keep, fun b => b ∈ blocksOf ρ []⟩ w' ρ4 ((j, .obs o') :: ho)) hk4 rfl e4 (by show hdV (ρ4 j) = hdV (ρ3 j); rw [e4j, hhd']) hrr hc
  · intro p hp
    rcases List.mem_cons.1 hp with rfl | hp
    · refine ⟨vs, e4j, ?_⟩
      show o'.R w' _ (ρ4 j)
      rw [e4j]
      exact o'.mono hk4 (fun _ _ => rfl) (fun _ _ => rfl) hR'
    · exact ObjOk.over (X := cxOf ⟨w, keep, fun b => b ∈ blocksOf ρ []⟩ w' ρ3 (hs' ++ ho)) (Y := cxOf ⟨w, keep, fun b => b ∈ blocksOf ρ []⟩ w' ρ4 ((j, .obs o') :: ho)) hk4 rfl e4 (hasN_mem.2 ⟨p, hp, rfl⟩) (closedH_mem hcl p hp) (hout p (List.mem_append_right _ hp))
  · rw [hb4, List.nodup_append]
    exact ⟨(o'.lt hR').2.2, hn2, fun a ha b hb => hn3 a (hbs a ha) b hb⟩

/-- The objects hs x, told as a whole (the first of them, named 0, is how the whole is named). -/
def packR {α : Type} (hs : α → List (Nat × AO)) (w : World) (k : Nat → Prop) (v : Value) : Prop :=
  ∃ (x : α) (ρ : Nat → Value) (us : List Value), v = .tuple (hdV (ρ 0) :: us).toArray ∧ us.flatMap blk1 = blocksOf ρ (hs x) ∧ (blocksOf ρ (hs x)).Nodup ∧ hasN 0 (hs x) = true ∧ (hdV (ρ 0)).oneCell' = true ∧ ∀ p ∈ hs x, ObjOk ⟨w, k, ρ⟩ p.1 p.2
theorem blks_tup (x : Value) (us : List Value) : blks (.tuple (x :: us).toArray) = us.flatMap blk1 := by simp [blks]
def OB.pack {α : Type} (hs : α → List (Nat × AO)) : OB where
  R := packR hs
  mono := by
    rintro w w' k k' v hk hm hb ⟨x, ρ, us, rfl, hbl, hnd, hn, h1, hok⟩
    rw [blks_tup, hbl] at hb
    exact ⟨x, ρ, us, rfl, hbl, hnd, hn, h1, fun p hp => ObjOk.same (X := ⟨w, k, ρ⟩) (Y := ⟨w', k', ρ⟩) hk hm rfl (fun b hb' => hb b (mem_blocks.2 ⟨p, hp, hb'⟩)) (hok p hp)⟩
  lt := by
    rintro w k v ⟨x, ρ, us, rfl, hbl, hnd, hn, h1, hok⟩
    rw [blks_tup, hbl]
    refine ⟨fun b hb => ?_, h1, hnd⟩
    obtain ⟨p, hp, hb'⟩ := mem_blocks.1 hb
    exact (hok p hp).lt b hb'
theorem Opens.pack {α : Type} (hs : α → List (Nat × AO)) : Opens (OB.pack hs) 0 hs := by
  rintro w k v ⟨x, ρ, us, rfl, hbl, hnd, hn, h1, hok⟩
  exact ⟨x, ρ, rfl, by rw [blks_tup, hbl], hok⟩
theorem flat_ptr (l : List Nat) : (l.map fun b => Value.pointer (some ⟨b, 0, none⟩)).flatMap blk1 = l := by
  induction l with
  | nil => rfl
  | cons x l ih => rw [List.map_cons, List.flatMap_cons, ih]; rfl
theorem Closes.pack {α : Type} (hs : α → List (Nat × AO)) (x : α) (hn : hasN 0 (hs x) = true) (h1 : ∀ (X : CX), (∀ p ∈ hs x, ObjOk X p.1 p.2) → (hdV (X.ρ 0)).oneCell' = true) : Closes (hs x) 0 (OB.pack hs) := by
  intro w k ρ hnd hok
  refine ⟨_, ⟨x, ρ, (blocksOf ρ (hs x)).map fun b => .pointer (some ⟨b, 0, none⟩), rfl, flat_ptr _, hnd, hn, h1 ⟨w, k, ρ⟩ hok, hok⟩, rfl, fun b hb => ?_⟩
  rw [blks_tup, flat_ptr] at hb
  exact hb
/-- What opens as hs opens as what each of these can be told as. -/
theorem Opens.imp {o : OB} {j : Nat} {Y Z : Type} {hs : Y → List (Nat × AO)} {gs : Z → List (Nat × AO)} (h : Opens o j hs) (hi : ∀ (X : CX) y, (blocksOf X.ρ (hs y)).Nodup → (∀ p ∈ hs y, ObjOk X p.1 p.2) → ∃ z ρ', hdV (ρ' j) = hdV (X.ρ j) ∧ (blocksOf ρ' (gs z)).Perm (blocksOf X.ρ (hs y)) ∧ ∀ p ∈ gs z, ObjOk ⟨X.w, X.keep, ρ'⟩ p.1 p.2) : Opens o j gs := by
  intro w k v hR
  obtain ⟨y, ρ, h1, h2, h3⟩ := h w k v hR
  obtain ⟨z, ρ', g1, g2, g3⟩ := hi ⟨w, k, ρ⟩ y (h2.nodup_iff.2 (o.lt hR).2.2) h3
  exact ⟨z, ρ', g1.trans h1, g2.trans h2, g3⟩
theorem Closes.imp {o : OB} {j : Nat} {hs gs : List (Nat × AO)} (h : Closes gs j o) (hi : ∀ (X : CX), (blocksOf X.ρ hs).Nodup → (∀ p ∈ hs, ObjOk X p.1 p.2) → ∃ ρ', hdV (ρ' j) = hdV (X.ρ j) ∧ (blocksOf ρ' gs).Nodup ∧ (∀ b ∈ blocksOf ρ' gs, b ∈ blocksOf X.ρ hs) ∧ ∀ p ∈ gs, ObjOk ⟨X.w, X.keep, ρ'⟩ p.1 p.2) : Closes hs j o := by
  intro w k ρ hnd hok
  obtain ⟨ρ', g1, g2, g3, g4⟩ := hi ⟨w, k, ρ⟩ hnd hok
  obtain ⟨us, a1, a2, a3⟩ := h w k ρ' g2 g4
  exact ⟨us, a1, a2.trans g1, fun b hb => g3 b (a3 b hb)⟩

/-- A slice's header in a slot, as a value: what a call does to its row does not matter to it. -/
theorem ACall.hdr {P : Program} {L : Lay} (hL : LayOk P L) {W : Walk} (hW : WOk P W) {d : Nat} {f : FuncId} {avs : List AV} {st : AS} {K : AV → AS → Prop} (t id : Nat) {e : TypeId} {s n : Nat} {sc : Bool} {F : Nat → List AV} (hE : Enters P f) (ht : st.tmps t = .own id) (hf : findObj id st.heap = some (.row e s n sc F))
    (h : ∀ A c, ACall P L W d f avs ⟨(t, .v (.slice A n c)) :: st.sl, st.heap, st.back, st.base⟩ K) : ACall P L W d f avs st K := by
  refine .sem hE fun g N bs ρ a w args R hargs => ?_
  obtain ⟨us, hown, hr⟩ := R.objs _ (findObj_mem hf)
  have hown : w.ownsRow 0 e s (ρ id) n us := hown
  obtain ⟨A, c, hv⟩ : ∃ A c, ρ id = .slice A n c := by
    rcases hown.2 with ⟨hv, hz⟩ | ⟨b, cap, cur, hv, _⟩
    · exact ⟨none, 0, by rw [hv, hz]⟩
    · exact ⟨_, _, hv⟩
  have R' : Rel g N bs ρ a w ⟨(t, .v (.slice A n c)) :: st.sl, st.heap, st.back, st.base⟩ := by
    refine ⟨R.size, R.defers, R.below, fun t' => ?_, R.objs, R.apart, R.own, R.back⟩
    show C2 _ (upd t (.v (.slice A n c)) st.tmps t') _
    by_cases e' : t' = t
    · subst e'
      have h0 := R.tmps t'
      rw [ht] at h0
      simp only [upd, Nat.beq_refl, cond_true]
      exact (C2.inv_own h0).trans (by show hdV (ρ id) = _; rw [hv]; rfl)
    · simp only [upd, beq_false e', cond_false]
      exact R.tmps t'
  have := (acall_run R' hargs (h A c) (fun lv fn c hf' hnm hb hsz h' => inl_run hL hW R' hargs lv fn c hf' hb hsz h')).2
  exact this
end Go.Proofs.Ytkkpfjifkjbndaa

/-
  sync.Once and the atomics, as the model runs them: Do not yet done (the function handed over by its contract) and done; (*atomic.Int64).Add and Load.
-/
namespace Go.Proofs.Ytkkpfjifkjbndaa
open Go.RowKit

theorem o_disable (w : World) : (callFunc 81 #[]).run Try.prog w = .ok (.value (.tuple #[])) w := run_call_mark0 Try.func81 (by kernel_rfl) (by kernel_rfl) (by kernel_rfl) .disable (by kernel_rfl) w
theorem o_enable (w : World) : (callFunc 83 #[]).run Try.prog w = .ok (.value (.tuple #[])) w := run_call_mark0 Try.func83 (by kernel_rfl) (by kernel_rfl) (by kernel_rfl) .enable (by kernel_rfl) w
theorem o_acquire (a : Addr) (w : World) : (callFunc 84 #[.pointer (some a)]).run Try.prog w = .ok (.value (.tuple #[])) w := run_call_marked Try.func84 (by kernel_rfl) (by kernel_rfl) (by kernel_rfl) .acquire (by kernel_rfl) a w
theorem o_release (a : Addr) (w : World) : (callFunc 86 #[.pointer (some a)]).run Try.prog w = .ok (.value (.tuple #[])) w := run_call_marked Try.func86 (by kernel_rfl) (by kernel_rfl) (by kernel_rfl) .releaseMerge (by kernel_rfl) a w

theorem o_store (a : Addr) (x : Value) (u : FrameMode) (w : World) (hc : w.cell? a = some x) (hz : w.frozen? a = false) :
    CallsD Try.prog 48 #[.pointer (some a), .bool true] u w fun e u' w' => u' = u ∧ (e = .returned (.tuple #[]) ∧ w' = w.drew.setCell a (.int .u32 1)) := by
  have hc' : w.drew.cell? a = some x := by go_simp
  have hz' : w.drew.frozen? a = false := by go_simp
  have hst := run_call_store (P := Try.prog) Try.func62 (by kernel_rfl) (by kernel_rfl) (by kernel_rfl) (by kernel_rfl) (k := .u32) (y := 1) hc' hz'
  go_enter_d Try.func48, Try.ntmps48
  go_wp2
  go_region_calls
  all_goals (go_end0; exact ⟨rfl, rfl⟩)

set_option maxRecDepth 100000 in
theorem o_unlock (a : Addr) (u : FrameMode) (w : World) (hc : w.cell? a = some (.int .i32 1)) (hz : w.frozen? a = false) :
    CallsD Try.prog 47 #[.pointer (some a)] u w fun e u' w' => u' = u ∧ (e = .returned (.tuple #[]) ∧ w' = w.setCell a (.int .i32 0)) := by
  have hd := o_disable
  have he := o_enable
  have hr := o_release
  have hadd := run_call_add (P := Try.prog) Try.func87 (by kernel_rfl) (by kernel_rfl) (by kernel_rfl) .i32 (by kernel_rfl) (y := -1) (s := 0) hc hz (by simp [go_sem]; rfl)
  have hcv := run_convert_to_unsafe (P := Try.prog) (src := 134) (dst := 138) Try.underlying134 Try.underlying138 (by kernel_rfl) hc
  go_enter_d Try.func47, Try.ntmps47
  go_wp2
  go_end0
  go_wp2
  go_end0
  exact ⟨rfl, rfl⟩

set_option maxRecDepth 100000 in
theorem o_lock (a : Addr) (w : World) (hc : w.cell? a = some (.int .i32 0)) (hz : w.frozen? a = false) :
    Calls Try.prog 46 #[.pointer (some a)] w fun e w' => e = .returned (.tuple #[]) ∧ w' = w.setCell a (.int .i32 1) := by
  have hd := o_disable
  have he := o_enable
  have ha := o_acquire
  have hcas := run_call_cas_hit (P := Try.prog) Try.func82 (by kernel_rfl) (by kernel_rfl) (by kernel_rfl) .i32 (by kernel_rfl) (y := 1) hc hz
  have hc' : (w.setCell a (.int .i32 1)).cell? a = some (.int .i32 1) := World.cell?_setCell_same w a _ hc
  have hcv := run_convert_to_unsafe (P := Try.prog) (src := 134) (dst := 138) Try.underlying134 Try.underlying138 (by kernel_rfl) hc'
  go_enter Try.func46, Try.ntmps46
  go_wp2
  first | go_end0 | (simp only [Exit.inBlock, Exit.then]; refine bodyPost_ret (results_none rfl _ _ _) rfl ?_) | refine bodyPost_ret (results_none rfl _ _ _) rfl ?_
  go_wp2
  go_end0
  exact ⟨rfl, rfl⟩

theorem o_bool (a : Addr) (x : Int) (w : World) (hc : w.cell? a = some (.int .u32 x)) :
    Calls Try.prog 25 #[.pointer (some a)] w fun e w' => e = .returned (.bool (x != 0)) ∧ w' = w := by
  have hl := run_call_load (P := Try.prog) Try.func45 (by kernel_rfl) (by kernel_rfl) (by kernel_rfl) .u32 (by kernel_rfl) (w := w) (a := a) (x := x) hc
  go_enter Try.func25, Try.ntmps25
  go_wp2
  go_ret
  exact ⟨rfl, rfl⟩

set_option maxRecDepth 100000 in
set_option maxHeartbeats 1600000 in
/-- doSlow, not yet done and the lock free: the function runs between the lock and the two deferred calls. -/
theorem o_slow (b off : Nat) (caps : Array Value) (w : World) (Φ : World → Prop)
    (h0 : w.cell? ⟨b, off, none⟩ = some (.int .u32 0)) (h1 : w.cell? ⟨b, off + 1, none⟩ = some (.int .i32 0))
    (f1 : w.frozen? ⟨b, off + 1, none⟩ = false)
    (hcl : Calls Try.prog 15 caps (w.setCell ⟨b, off + 1, none⟩ (.int .i32 1)) fun e w1 => e = .returned (.tuple #[]) ∧ Φ w1)
    (hΦ : ∀ w1, Φ w1 → w1.cell? ⟨b, off, none⟩ = some (.int .u32 0) ∧ w1.cell? ⟨b, off + 1, none⟩ = some (.int .i32 1) ∧ w1.frozen? ⟨b, off, none⟩ = false ∧ w1.frozen? ⟨b, off + 1, none⟩ = false) :
    Calls Try.prog 26 #[.pointer (some ⟨b, off, none⟩), .func (.func 15) #[] caps] w fun e w' => e = .returned (.tuple #[]) ∧
      ∃ w1, Φ w1 ∧ w' = (w1.drew.setCell ⟨b, off, none⟩ (.int .u32 1)).setCell ⟨b, off + 1, none⟩ (.int .i32 0) := by
  have g0' : (w.setCell ⟨b, off + 1, none⟩ (.int .i32 1)).cell? ⟨b, off, none⟩ = some (.int .u32 0) := (World.cell?_setCell_other _ ⟨b, off + 1, none⟩ ⟨b, off, none⟩ _ (by simp)).trans h0
  have hnot : ∀ (x : Bool) (w : World), (Op.unary .not (.bool x)).run Try.prog w = .ok (.bool (!x)) w := fun _ _ => rfl
  go_enter_defers Try.func26, Try.ntmps26
  go_wp2_with (first | (go_at_call 46; refine (o_lock ⟨b, off + 1, none⟩ _ (by go_simp) (by go_simp)).mono ?_; rintro e w' ⟨rfl, rfl⟩) | (go_at_call 25; refine (o_bool ⟨b, off, none⟩ 0 _ g0').mono ?_; rintro e w' ⟨rfl, rfl⟩) | (go_at_call 15; refine hcl.mono ?_; rintro e w1 ⟨rfl, hw1⟩))
  obtain ⟨g0, g1, z0, z1⟩ := hΦ _ hw1
  refine leaves_cons (f := 48) (args := #[.pointer (some ⟨b, off, none⟩), .bool true]) (by simp) (by simp [go_sem]) ?_
  refine (o_store ⟨b, off, none⟩ (.int .u32 0) .returning _ g0 z0).mono ?_
  rintro e u' w'' ⟨rfl, rfl, rfl⟩
  refine leaves_cons (f := 47) (args := #[.pointer (some ⟨b, off + 1, none⟩)]) (by simp [settle]) (by simp [go_sem]) ?_
  refine (o_unlock ⟨b, off + 1, none⟩ _ _ ?_ (by simp [z1])).mono ?_
  · refine (World.cell?_setCell_other _ ⟨b, off, none⟩ ⟨b, off + 1, none⟩ _ (by simp)).trans ?_
    rw [World.cell?_drew]
    exact g1
  rintro e u' w'' ⟨rfl, rfl, rfl⟩
  simp [Leaves, settle, results, Try.results26]
  exact ⟨w1, hw1, rfl⟩

set_option maxRecDepth 100000 in
theorem o_first (b off : Nat) (caps : Array Value) (w : World) (Φ : World → Prop)
    (h0 : w.cell? ⟨b, off, none⟩ = some (.int .u32 0)) (h1 : w.cell? ⟨b, off + 1, none⟩ = some (.int .i32 0))
    (f1 : w.frozen? ⟨b, off + 1, none⟩ = false)
    (hcl : Calls Try.prog 15 caps (w.setCell ⟨b, off + 1, none⟩ (.int .i32 1)) fun e w1 => e = .returned (.tuple #[]) ∧ Φ w1)
    (hΦ : ∀ w1, Φ w1 → w1.cell? ⟨b, off, none⟩ = some (.int .u32 0) ∧ w1.cell? ⟨b, off + 1, none⟩ = some (.int .i32 1) ∧ w1.frozen? ⟨b, off, none⟩ = false ∧ w1.frozen? ⟨b, off + 1, none⟩ = false) :
    Calls Try.prog 14 #[.pointer (some ⟨b, off, none⟩), .func (.func 15) #[] caps] w fun e w' => e = .returned (.tuple #[]) ∧
      ∃ w1, Φ w1 ∧ w' = (w1.drew.setCell ⟨b, off, none⟩ (.int .u32 1)).setCell ⟨b, off + 1, none⟩ (.int .i32 0) := by
  have hnot : ∀ (x : Bool) (w : World), (Op.unary .not (.bool x)).run Try.prog w = .ok (.bool (!x)) w := fun _ _ => rfl
  go_enter Try.func14, Try.ntmps14
  go_wp2_with (first | (go_at_call 25; refine (o_bool ⟨b, off, none⟩ 0 _ h0).mono ?_; rintro e w' ⟨rfl, rfl⟩) | (go_at_call 26; refine (o_slow b off caps _ Φ h0 h1 f1 hcl hΦ).mono ?_; rintro e w1 ⟨rfl, hw1⟩))
  go_end0
  exact ⟨rfl, hw1⟩
set_option maxRecDepth 100000 in
theorem o_done (a : Addr) (g : Value) (w : World) (h0 : w.cell? a = some (.int .u32 1)) :
    Calls Try.prog 14 #[.pointer (some a), g] w fun e w' => e = .returned (.tuple #[]) ∧ w' = w := by
  have hnot : ∀ (x : Bool) (w : World), (Op.unary .not (.bool x)).run Try.prog w = .ok (.bool (!x)) w := fun _ _ => rfl
  go_enter Try.func14, Try.ntmps14
  go_wp2_with (first | (go_at_call 25; refine (o_bool a 1 _ h0).mono ?_; rintro e w' ⟨rfl, rfl⟩))
  go_end0
  exact ⟨rfl, rfl⟩
theorem o_add (a : Addr) (x y z : Int) (w : World) (hc : w.cell? a = some (.int .i64 x)) (hz : w.frozen? a = false) (hs : (Op.intArith .add .i64 x y).run Try.prog w = .ok (.int .i64 z) w) :
    Calls Try.prog 17 #[.pointer (some a), .int .i64 y] w fun e w' => e = .returned (.int .i64 z) ∧ w' = w.setCell a (.int .i64 z) := by
  have hadd := run_call_add (P := Try.prog) Try.func33 (by kernel_rfl) (by kernel_rfl) (by kernel_rfl) .i64 (by kernel_rfl) (y := y) (s := z) hc hz hs
  go_enter Try.func17, Try.ntmps17
  go_wp2
  go_ret
  exact ⟨rfl, rfl⟩
theorem o_load (a : Addr) (x : Int) (w : World) (hc : w.cell? a = some (.int .i64 x)) :
    Calls Try.prog 21 #[.pointer (some a)] w fun e w' => e = .returned (.int .i64 x) ∧ w' = w := by
  have hl := run_call_load (P := Try.prog) Try.func41 (by kernel_rfl) (by kernel_rfl) (by kernel_rfl) .i64 (by kernel_rfl) (w := w) (a := a) (x := x) hc
  go_enter Try.func21, Try.ntmps21
  go_wp2
  go_ret
  exact ⟨rfl, rfl⟩
end Go.Proofs.Ytkkpfjifkjbndaa
