/-
  Contracts of the walk: Ps2, Wo, La1, Lv1.
-/
import Derived.Test.YtkkpfjifkjbndaaLEmp5
import Derived.Test.YtkkpfjifkjbndaaLEmp3
/-
  Plain Lean: of events of which no two have one stamp the order does not matter; events in another order, in which what is below comes first.
-/
namespace Go.Proofs.Ytkkpfjifkjbndaa
open Go.RowKit

theorem any_perm {α : Type} {l l' : List α} (h : l.Perm l') (f : α → Bool) : l.any f = l'.any f := by
  rw [Bool.eq_iff_iff, List.any_eq_true, List.any_eq_true]
  exact ⟨fun ⟨x, hx, k⟩ => ⟨x, h.mem_iff.1 hx, k⟩, fun ⟨x, hx, k⟩ => ⟨x, h.mem_iff.2 hx, k⟩⟩
theorem getS {l : List Str} {i : Nat} (h : i < l.length) : l.getD i [] = l[i] := by rw [List.getD, List.getElem?_eq_getElem h]; rfl
/-- What is shown of a field is the value of a write with the last stamp. -/
theorem field_is {A : List Ev} (h : ¬ A.length = 0) : ∃ e ∈ A, fieldF A = e.v ∧ stampE e = topB ((A.map stampE).getD 0 default) (A.map stampE) := by
  have hlt := last_lt (l := A.map stampE) (by intro e; exact h (by rw [← List.length_map (f := stampE), e]; rfl))
  have hg := List.findIdx_getElem (p := fun s => decide (s = topB ((A.map stampE).getD 0 default) (A.map stampE))) (xs := A.map stampE) (w := hlt)
  have hlt' := hlt
  rw [List.length_map] at hlt
  refine ⟨A[lastN (A.map stampE)], List.getElem_mem hlt, ?_, ?_⟩
  · rw [fieldF, if_neg h, getS (by rw [List.length_map]; exact hlt), List.getElem_map, arrS]
  · have := of_decide_eq_true hg
    have e2 : (A.map stampE)[lastN (A.map stampE)]'hlt' = stampE (A[lastN (A.map stampE)]) := List.getElem_map ..
    exact e2.symm.trans this
def OneStamp (l : List Ev) : Prop := ∀ a ∈ l, ∀ b ∈ l, stampE a = stampE b → a = b
theorem less_or {a b : St} (h : ¬ lessB a b = true) (k : ¬ lessB b a = true) : a = b := by
  rw [less_iff] at h k
  obtain ⟨a1, a2⟩ := a
  obtain ⟨b1, b2⟩ := b
  simp only at h k
  have : a1 = b1 := by omega
  have : a2 = b2 := by omega
  simp [*]
/-- The value shown is that of the write that none is above. -/
theorem field_top {A : List Ev} {e : Ev} (hd : OneStamp A) (he : e ∈ A) (hm : ∀ x ∈ A, ¬ lessB (stampE e) (stampE x) = true) : fieldF A = e.v := by
  have h0 : ¬ A.length = 0 := by
    intro h
    rw [List.length_eq_zero_iff] at h
    rw [h] at he
    cases he
  obtain ⟨x, hx, e1, e2⟩ := field_is h0
  have ht := top_max (A.map stampE) ((A.map stampE).getD 0 default)
  rw [← e2] at ht
  have := less_or (hm x hx) (ht.2 (stampE e) (List.mem_map.2 ⟨e, he, rfl⟩))
  rw [e1, hd e he x hx this]
theorem field_perm {A B : List Ev} (h : A.Perm B) (hd : OneStamp A) : fieldF A = fieldF B := by
  by_cases h0 : A.length = 0
  · have h1 : B.length = 0 := by rw [← h.length_eq]; exact h0
    rw [fieldF, fieldF, if_pos h0, if_pos h1]
  · obtain ⟨x, hx, e1, e2⟩ := field_is h0
    have ht := top_max (A.map stampE) ((A.map stampE).getD 0 default)
    rw [← e2] at ht
    rw [e1]
    exact (field_top (fun a ha b hb => hd a (h.mem_iff.2 ha) b (h.mem_iff.2 hb)) (h.mem_iff.1 hx) fun y hy => ht.2 _ (List.mem_map.2 ⟨y, h.mem_iff.2 hy, rfl⟩)).symm
section
variable {l l' : List Ev}
theorem above_perm (h : l.Perm l') (k : Int) (same : Ev → Ev → Bool) : aboveB k same l = aboveB k same l' := funext fun _ => any_perm h _
theorem under_perm (h : l.Perm l') (k : Int) (same : Ev → Ev → Bool) : underB k same l = underB k same l' := funext fun _ => any_perm h _
theorem living_perm (h : l.Perm l') : (livingB l).Perm (livingB l') := by
  have : livesB l = livesB l' := funext fun e => by unfold livesB; rw [above_perm h]
  unfold livingB
  rw [this]
  exact h.filter _
theorem counting_perm (h : l.Perm l') : (countingB l (livingB l)).Perm (countingB l' (livingB l')) := by
  have : countB l (livingB l) = countB l' (livingB l') := funext fun e => by unfold countB; rw [above_perm h, under_perm (living_perm h)]
  unfold countingB
  rw [this]
  exact h.filter _
theorem contact_perm (h : l.Perm l') (hd : OneStamp l) (key : ByteArray) : contactB key l = contactB key l' := by
  have h1 : ∀ n, (setsB key n l).Perm (setsB key n l') := fun n => h.filter _
  have h2 : ∀ n, valsF (addsB key n l) = valsF (addsB key n l') := fun n => by
    have := h.filter (fun e => ofK key n e && !decide (e.k = 3))
    exact uniq_of_mem fun x => (this.map fun e => strL e.v).mem_iff
  have h3 : ∀ n, hasF (setsB key n l) = hasF (setsB key n l') := fun n => by unfold hasF; rw [(h1 n).length_eq]
  have h4 : ∀ n, fieldF (setsB key n l) = fieldF (setsB key n l') := fun n => field_perm (h1 n) fun a ha b hb => hd a (List.mem_filter.1 ha).1 b (List.mem_filter.1 hb).1
  unfold contactB
  rw [h2, h2, h3, h3, h4, h4]
theorem of_perm (h : l.Perm l') (hd : OneStamp l) : ofB l = ofB l' := by
  have hk : keysB l = keysB l' := uniq_of_mem fun x => ((living_perm h).map fun e => strL e.key).mem_iff
  unfold ofB
  rw [hk]
  exact List.map_congr_left fun k _ => contact_perm (counting_perm h) (fun a ha b hb => hd a (List.mem_filter.1 ha).1 b (List.mem_filter.1 hb).1) _
theorem size_perm (h : l.Perm l') : sizeB l = sizeB l' := by
  have hl : laterB l = laterB l' := funext fun e => by unfold laterB; split <;> rw [above_perm h]
  unfold sizeB
  rw [(living_perm h).length_eq, hl, ((counting_perm h).filter _).length_eq]
end

theorem pair_in {α : Type} {R : α → α → Prop} {l : List α} (h : l.Pairwise fun a b => ¬ R a b) (hs : ∀ a b, R a b → R b a) {a b : α} (ha : a ∈ l) (hb : b ∈ l) (hr : R a b) : a = b := by
  obtain ⟨i, hi, rfl⟩ := List.getElem_of_mem ha
  obtain ⟨j, hj, rfl⟩ := List.getElem_of_mem hb
  rcases Nat.lt_trichotomy i j with k | k | k
  · exact absurd hr (List.pairwise_iff_getElem.1 h i j hi hj k)
  · subst k; rfl
  · exact absurd (hs _ _ hr) (List.pairwise_iff_getElem.1 h j i hj hi k)
theorem Inv.mark {T : List Ev} {H : Nat → Clk} (h : Inv T H) {a b : Ev} (ha : a ∈ T) (hb : b ∈ T) (hr : a.r = b.r) (hn : a.n = b.n) : a = b :=
  pair_in (R := fun a b => a.r = b.r ∧ a.n = b.n) h.dis (fun _ _ k => ⟨k.1.symm, k.2.symm⟩) ha hb ⟨hr, hn⟩
theorem Inv.stamp {T : List Ev} {H : Nat → Clk} (h : Inv T H) : OneStamp T := fun a ha b hb e => by
  obtain ⟨p, a1, a2, a3, a4, a5⟩ := h.ev a ha
  obtain ⟨q, b1, b2, b3, b4, b5⟩ := h.ev b hb
  have eh : a.h = b.h := congrArg Prod.fst e
  have er : a.r = b.r := congrArg Prod.snd e
  have epq : p = q := by rw [a2, b2] at er; omega
  subst epq
  rcases Int.lt_trichotomy a.n b.n with k | k | k
  · have := h.hgt a ha b hb (by unfold belowB; rw [a2]; exact (has_at a1).2 ⟨a3, by omega⟩)
    omega
  · exact h.mark ha hb er k
  · have := h.hgt b hb a ha (by unfold belowB; rw [b2]; exact (has_at a1).2 ⟨b3, by omega⟩)
    omega

/-! ### In another order -/
structure Spr where
  (out left : List Ev) (hv : Clk)
def rdyP (left : List Ev) (h : Clk) (k : Nat) : Bool := (left.getD k default).c.le h
def rdyL (left : List Ev) (h : Clk) : List Nat := (List.range left.length).filter (rdyP left h)
def pickN (picks : List UInt8) (i : Nat) (rd : List Nat) : Nat := if i < picks.length then rd.getD ((picks.getD i 0).toNat % rd.length) 0 else rd.getD 0 0
def Clk.top (c : Clk) : Nat → Int → Clk
  | 0, n => ⟨mxI c.c0 n, c.c1, c.c2, c.c3, c.c4⟩
  | 1, n => ⟨c.c0, mxI c.c1 n, c.c2, c.c3, c.c4⟩
  | 2, n => ⟨c.c0, c.c1, mxI c.c2 n, c.c3, c.c4⟩
  | 3, n => ⟨c.c0, c.c1, c.c2, mxI c.c3 n, c.c4⟩
  | _, n => ⟨c.c0, c.c1, c.c2, c.c3, mxI c.c4 n⟩
theorem top_at (c : Clk) {r q : Nat} (n : Int) (hr : r < 5) (hq : q < 5) : (c.top r n).at q = if q = r then mxI (c.at q) n else c.at q := by
  obtain rfl | rfl | rfl | rfl | rfl : r = 0 ∨ r = 1 ∨ r = 2 ∨ r = 3 ∨ r = 4 := by omega
  all_goals (obtain rfl | rfl | rfl | rfl | rfl : q = 0 ∨ q = 1 ∨ q = 2 ∨ q = 3 ∨ q = 4 := by omega)
  all_goals rfl
def sprAt (s : Spr) (k : Nat) : Spr := ⟨s.out ++ [s.left.getD k default], s.left.take k ++ s.left.drop (k + 1), s.hv.top (s.left.getD k default).r.toNat (s.left.getD k default).n⟩
def sprN (picks : List UInt8) (W : List Ev) : Nat → Spr
  | 0 => ⟨[], W, clk0⟩
  | i + 1 => sprAt (sprN picks W i) (pickN picks i (rdyL (sprN picks W i).left (sprN picks W i).hv))
structure SprOk (W : List Ev) (s : Spr) : Prop where
  perm : (s.out ++ s.left).Perm W
  sub : s.left.Sublist W
  hv : ∀ e ∈ s.out, ∀ r : Nat, r < 5 → e.r = (r : Int) → e.n ≤ s.hv.at r
  pos : ∀ r : Nat, r < 5 → 0 ≤ s.hv.at r
theorem rdy_mem {left : List Ev} {h : Clk} {k : Nat} : k ∈ rdyL left h ↔ k < left.length ∧ rdyP left h k = true := by
  unfold rdyL
  rw [List.mem_filter, List.mem_range]
theorem SprOk.rdy {W : List Ev} {H : Nat → Clk} (hI : Inv W H) {s : Spr} (h : SprOk W s) (hl : 0 < s.left.length) : 0 ∈ rdyL s.left s.hv := by
  obtain ⟨out, left, hv⟩ := s
  obtain ⟨h1, h2, h3, h4⟩ := h
  simp only at h1 h2 h3 h4 hl ⊢
  match left, hl with
  | f :: rest, _ =>
    refine rdy_mem.2 ⟨Nat.succ_pos _, ?_⟩
    show f.c.le hv = true
    rw [le_at]
    intro r hr
    obtain ⟨r1, r2, eW, hf, hrest⟩ := List.cons_sublist_iff.1 h2
    obtain ⟨W1, W2, er1⟩ := List.append_of_mem hf
    subst er1
    have eW' : W = W1 ++ f :: (W2 ++ r2) := by rw [eW]; simp
    have hfW : f ∈ W := by rw [eW']; simp
    rcases Int.lt_or_le (f.c.at r) 1 with k | k
    · have := h4 r hr
      omega
    · obtain ⟨x, hx, x1, x2⟩ := hI.pre W1 f (W2 ++ r2) eW' r hr (f.c.at r) k (Int.le_refl _)
      have hxW : x ∈ W := by rw [eW']; exact List.mem_append.2 (.inl hx)
      have hd := hI.dis
      rw [eW'] at hd
      have hd' := (List.pairwise_append.1 hd).2.2 x hx
      have hne : x ∉ f :: (W2 ++ r2) := fun hm => hd' x hm ⟨rfl, rfl⟩
      have hxo : x ∈ out := by
        rcases List.mem_append.1 (h1.mem_iff.2 hxW) with k | k
        · exact k
        · refine absurd ?_ hne
          rcases List.mem_cons.1 k with rfl | k
          · exact List.mem_cons_self
          · exact List.mem_cons_of_mem _ (List.mem_append.2 (.inr (hrest.subset k)))
      have := h3 x hxo r hr x1
      omega
theorem perm_at {α : Type} {l : List α} {k : Nat} (h : k < l.length) : (l[k] :: l.eraseIdx k).Perm l := by
  rw [List.eraseIdx_eq_take_drop_succ]
  refine List.perm_middle.symm.trans ?_
  rw [← List.drop_eq_getElem_cons h, List.take_append_drop]
theorem SprOk.at {W : List Ev} {H : Nat → Clk} (hI : Inv W H) {s : Spr} (h : SprOk W s) {k : Nat} (hk : k < s.left.length) : SprOk W (sprAt s k) := by
  obtain ⟨out, left, hv⟩ := s
  obtain ⟨h1, h2, h3, h4⟩ := h
  simp only at h1 h2 h3 h4 hk
  have hg : left.getD k default = left[k] := by rw [List.getD, List.getElem?_eq_getElem hk]; rfl
  have he : left.take k ++ left.drop (k + 1) = left.eraseIdx k := (List.eraseIdx_eq_take_drop_succ ..).symm
  have hm : left[k] ∈ W := h2.subset (List.getElem_mem hk)
  obtain ⟨p, p1, p2, _⟩ := hI.ev _ hm
  have ep : left[k].r.toNat = p := by rw [p2]; omega
  unfold sprAt
  simp only [hg, he, ep]
  refine ⟨?_, (List.eraseIdx_sublist ..).trans h2, fun e hx r hr h5 => ?_, fun r hr => ?_⟩
  · have := (perm_at hk).append_left out
    refine (List.Perm.trans ?_ this).trans h1
    rw [List.append_assoc]
    exact .refl _
  · show e.n ≤ (hv.top p left[k].n).at r
    rw [top_at _ _ p1 hr]
    have hx : e ∈ out ++ [left[k]] := hx
    rcases List.mem_append.1 hx with hx | hx
    · have := h3 e hx r hr h5
      split
      · have := mx_l (hv.at r) left[k].n
        omega
      · exact this
    · rw [List.mem_singleton.1 hx] at h5 ⊢
      have : r = p := by rw [p2] at h5; omega
      rw [if_pos this]
      exact mx_r _ _
  · show 0 ≤ (hv.top p left[k].n).at r
    rw [top_at _ _ p1 hr]
    have := h4 r hr
    split
    · have := mx_l (hv.at r) left[k].n
      omega
    · exact this
theorem pick_lt {picks : List UInt8} {i : Nat} {left : List Ev} {h : Clk} (h0 : 0 ∈ rdyL left h) : pickN picks i (rdyL left h) < left.length := by
  have hl : 0 < (rdyL left h).length := List.length_pos_of_mem h0
  have hm : ∀ j, j < (rdyL left h).length → (rdyL left h).getD j 0 < left.length := fun j hj => by
    rw [List.getD, List.getElem?_eq_getElem hj]
    exact (rdy_mem.1 (List.getElem_mem hj)).1
  unfold pickN
  split
  · exact hm _ (Nat.mod_lt _ hl)
  · exact hm 0 hl
theorem sprN_ok {W : List Ev} {H : Nat → Clk} (hI : Inv W H) (picks : List UInt8) : ∀ i, i ≤ W.length → SprOk W (sprN picks W i) ∧ (sprN picks W i).left.length = W.length - i
  | 0, _ => ⟨⟨.refl _, .refl _, fun e he => (by cases he), fun r _ => (match r with | 0 => Int.le_refl _ | 1 => Int.le_refl _ | 2 => Int.le_refl _ | 3 => Int.le_refl _ | _ + 4 => Int.le_refl _)⟩, rfl⟩
  | i + 1, hi => by
    obtain ⟨h1, h2⟩ := sprN_ok hI picks i (by omega)
    have h0 := h1.rdy hI (by omega)
    have hk := pick_lt (picks := picks) (i := i) h0
    refine ⟨h1.at hI hk, ?_⟩
    show ((sprN picks W i).left.take _ ++ (sprN picks W i).left.drop _).length = _
    rw [List.length_append, List.length_take, List.length_drop]
    omega
def sprL (picks : List UInt8) (W : List Ev) : List Ev := (sprN picks W W.length).out
theorem spr_perm {W : List Ev} {H : Nat → Clk} (hI : Inv W H) (picks : List UInt8) : W.Perm (sprL picks W) := by
  obtain ⟨h1, h2⟩ := sprN_ok hI picks W.length (Nat.le_refl _)
  have : (sprN picks W W.length).left = [] := List.length_eq_zero_iff.1 (by omega)
  have h3 := h1.perm
  rw [this, List.append_nil] at h3
  exact h3.symm
end Go.Proofs.Ytkkpfjifkjbndaa

/-
  Contacts but that of a key; where a key's contact stands.
-/
namespace Go.Proofs.Ytkkpfjifkjbndaa
open Go.RowKit

def woP (key : ByteArray) (c : Cont) : Bool := !decide (c.key = key)
def woL (l : List Cont) (key : ByteArray) : List Cont := l.filter (woP key)
def placeN (l : List Cont) (key : ByteArray) : Nat := l.findIdx fun c => decide (c.key = key)
def placeI (l : List Cont) (key : ByteArray) : Int := if placeN l key < l.length then (placeN l key : Int) else -1
theorem place_here {l : List Cont} {key : ByteArray} {j : Nat} (hj : j < l.length) (h : (l.getD j default).key = key) (hn : ∀ i, i < j → ¬ (l.getD i default).key = key) : placeI l key = (j : Int) := by
  have e : placeN l key = j := by
    refine (List.findIdx_eq hj).2 ⟨?_, fun i hi => ?_⟩
    · rw [List.getD, List.getElem?_eq_getElem hj] at h
      exact decide_eq_true h
    · have := hn i hi
      rw [List.getD, List.getElem?_eq_getElem (show i < l.length by omega)] at this
      exact decide_eq_false this
  rw [placeI, e, if_pos hj]
theorem place_not {l : List Cont} {key : ByteArray} (hn : ∀ i, i < l.length → ¬ (l.getD i default).key = key) : placeI l key = -1 := by
  have e : placeN l key = l.length := by
    refine List.findIdx_eq_length.2 fun x hx => ?_
    obtain ⟨i, hi, rfl⟩ := List.getElem_of_mem hx
    have := hn i hi
    rw [List.getD, List.getElem?_eq_getElem hi] at this
    exact decide_eq_false this
  rw [placeI, e, if_neg (by omega)]
end Go.Proofs.Ytkkpfjifkjbndaa

/-
  Plain Lean: what an event that has seen all of a right past does to what it comes to.
-/
namespace Go.Proofs.Ytkkpfjifkjbndaa
open Go.RowKit

def eqK (key : ByteArray) : ByteArray → Bool := fun k => decide (k = key)
theorem uniq_nil : uniq [] = [] := List.eq_nil_iff_forall_not_mem.2 fun x hx => by
  have := ((uniq_props []).2 x).1 hx
  cases this
/-- Of events of one key. -/
theorem of_same {l : List Ev} {key : ByteArray} (h : ∀ x ∈ l, x.key = key) : ofB l = if livingB l = [] then [] else [contactB key (countingB l (livingB l))] := by
  have hk : keysB l = uniq ((livingB l).map fun e => strL e.key) := rfl
  by_cases h0 : livingB l = []
  · rw [if_pos h0]
    unfold ofB
    rw [hk, h0, List.map_nil, uniq_nil]
    rfl
  · rw [if_neg h0]
    have e : keysB l = [strL key] := by
      rw [hk]
      refine rising_eq (uniq_props _).1 (List.pairwise_singleton _ _) fun x => ?_
      rw [(uniq_props _).2, List.mem_singleton, List.mem_map]
      constructor
      · rintro ⟨y, hy, rfl⟩
        rw [h y (List.mem_filter.1 hy).1]
      · rintro rfl
        obtain ⟨y, hy⟩ := List.exists_mem_of_ne_nil _ h0
        exact ⟨y, hy, by rw [h y (List.mem_filter.1 hy).1]⟩
    unfold ofB
    rw [e, List.map_singleton, arrS]
theorem on_key {l : List Ev} {key : ByteArray} : ∀ x ∈ onP (eqK key) l, x.key = key := fun x hx => by
  have := (List.mem_filter.1 hx).2
  exact of_decide_eq_true this
theorem of_eqK (l : List Ev) (key : ByteArray) : ofB (onP (eqK key) l) = (ofB l).filter fun c => decide (c.key = key) := of_on
theorem of_neK (l : List Ev) (key : ByteArray) : ofB (onP (fun k => !eqK key k) l) = woL (ofB l) key := of_on

/-! ### Where -/
theorem getC {l : List Cont} {i : Nat} (h : i < l.length) : l.getD i default = l[i] := by rw [List.getD, List.getElem?_eq_getElem h]; rfl
theorem place_no {A : List Cont} {key : ByteArray} (h : (A.filter fun c => decide (c.key = key)) = []) : placeI A key = -1 := by
  refine place_not fun i hi e => ?_
  have : A.getD i default ∈ A.filter fun c => decide (c.key = key) := List.mem_filter.2 ⟨by rw [getC hi]; exact List.getElem_mem hi, decide_eq_true e⟩
  rw [h] at this
  cases this
theorem place_yes {A : List Cont} {key : ByteArray} {a : Cont} (h : (A.filter fun c => decide (c.key = key)) = [a]) : 0 ≤ placeI A key ∧ placeI A key < (A.length : Int) ∧ A.getD (placeI A key).toNat default = a := by
  have ha : a ∈ A.filter fun c => decide (c.key = key) := by rw [h]; exact List.mem_singleton.2 rfl
  obtain ⟨ha, hk⟩ := List.mem_filter.1 ha
  have hlt : placeN A key < A.length := List.findIdx_lt_length_of_exists ⟨a, ha, hk⟩
  have e : placeI A key = (placeN A key : Int) := if_pos hlt
  have hg : A[placeN A key] ∈ A.filter fun c => decide (c.key = key) := List.mem_filter.2 ⟨List.getElem_mem hlt, List.findIdx_getElem (p := fun c : Cont => decide (c.key = key)) (w := hlt)⟩
  rw [h, List.mem_singleton] at hg
  refine ⟨by omega, by omega, ?_⟩
  rw [e, Int.toNat_natCast, getC hlt, hg]

/-! ### The last event -/
structure CR (e : Ev) (a b : Cont) : Prop where
  lab0 : e.l = 0 → a.h1 = b.h1 ∧ a.f1 = b.f1 ∧ a.s1.length = b.s1.length
  lab1 : e.l = 1 → a.h0 = b.h0 ∧ a.f0 = b.f0 ∧ a.s0.length = b.s0.length
  set0 : e.k = 3 → e.l = 0 → b.h0 = true ∧ b.f0 = e.v ∧ a.s0.length = b.s0.length
  set1 : e.k = 3 → e.l = 1 → b.h1 = true ∧ b.f1 = e.v ∧ a.s1.length = b.s1.length
  oth : e.k ≠ 3 → (a.h0 = b.h0 ∧ a.h1 = b.h1) ∧ (a.f0 = b.f0 ∧ a.f1 = b.f1)
  in0 : e.k ≠ 3 → e.l = 0 → (strL e.v ∈ b.s0 ↔ e.k = 4)
  in1 : e.k ≠ 3 → e.l = 1 → (strL e.v ∈ b.s1 ↔ e.k = 4)
structure LastF (A B : List Cont) (e : Ev) : Prop where
  wo : woL A e.key = woL B e.key
  two : e.k = 2 → placeI B e.key = -1
  one : e.k = 1 → 0 ≤ placeI B e.key
  more : 3 ≤ e.k → (placeI A e.key = -1 ∧ placeI B e.key = -1) ∨
    (∃ a b, (0 ≤ placeI A e.key ∧ placeI A e.key < (A.length : Int) ∧ A.getD (placeI A e.key).toNat default = a) ∧ (0 ≤ placeI B e.key ∧ placeI B e.key < (B.length : Int) ∧ B.getD (placeI B e.key).toNat default = b) ∧ CR e a b)

section
variable {l : List Ev} {e : Ev}
theorem above_snoc {k : Int} {same : Ev → Ev → Bool} {x : Ev} : aboveB k same (l ++ [e]) x = (aboveB k same l x || (decide (e.k = k) && (same e x && belowB x e))) := by
  unfold aboveB
  rw [List.any_append]
  simp
theorem above_off {k : Int} {same : Ev → Ev → Bool} (non : ∀ x ∈ l, belowB e x = false) : aboveB k same l e = false := by
  unfold aboveB
  rw [List.any_eq_false]
  intro x hx
  rw [non x hx]
  simp
/-- What is known of the last event, over events of its key. -/
structure Tops (l : List Ev) (e : Ev) : Prop where
  key : ∀ x ∈ l, x.key = e.key
  all : ∀ x ∈ l, belowB x e = true
  non : ∀ x ∈ l, belowB e x = false
  self : belowB e e = false
  hi : ∀ x ∈ l, x.h < e.h
  one : OneStamp (l ++ [e])
variable (t : Tops l e)
include t
theorem Tops.keys : ∀ x ∈ l ++ [e], x.key = e.key := fun x hx => by
  rcases List.mem_append.1 hx with hx | hx
  · exact t.key x hx
  · rw [List.mem_singleton.1 hx]
theorem Tops.lives_e : livesB (l ++ [e]) e = decide (e.k = 1) := by
  unfold livesB
  rw [above_snoc, above_off t.non, t.self]
  simp
theorem Tops.lives_in {x : Ev} (hx : x ∈ l) : livesB (l ++ [e]) x = (livesB l x && !decide (e.k = 2)) := by
  have : sameK e x = true := decide_eq_true (t.key x hx).symm
  unfold livesB
  rw [above_snoc, this, t.all x hx]
  cases aboveB 2 sameK l x <;> cases decide (x.k = 1) <;> simp
theorem Tops.living : livingB (l ++ [e]) = (if e.k = 2 then [] else livingB l) ++ (if e.k = 1 then [e] else []) := by
  unfold livingB
  rw [List.filter_append, List.filter_cons, t.lives_e]
  congr 1
  · by_cases h : e.k = 2
    · rw [if_pos h, List.filter_eq_nil_iff]
      intro x hx
      rw [t.lives_in hx, decide_eq_true h]
      simp
    · rw [if_neg h]
      refine List.filter_congr fun x hx => ?_
      rw [t.lives_in hx, decide_eq_false h]
      simp
  · by_cases h : e.k = 1
    · rw [if_pos h, if_pos (decide_eq_true h)]
      rfl
    · rw [if_neg h, if_neg (by rw [decide_eq_false h]; simp)]
      rfl
theorem Tops.count_in {C : List Ev} {x : Ev} (hx : x ∈ l) : countB (l ++ [e]) C x = (countB l C x && !(decide (e.k = 5) && (decide (x.k = 4) && sameV e x))) := by
  unfold countB
  rw [above_snoc, t.all x hx]
  by_cases h3 : x.k = 3
  · rw [decide_eq_true h3, decide_eq_false (show ¬ x.k = 4 by omega)]
    simp
  · rw [decide_eq_false h3]
    cases decide (x.k = 4) <;> cases aboveB 5 sameV l x <;> cases underB 1 sameK C x <;> simp
theorem Tops.count_e (hC : livingB l ≠ []) : countB (l ++ [e]) (livingB l) e = (decide (e.k = 3) || decide (e.k = 4)) := by
  have hu : underB 1 sameK (livingB l) e = true := by
    obtain ⟨y, hy⟩ := List.exists_mem_of_ne_nil _ hC
    have hyl := (List.mem_filter.1 hy).1
    have hy1 : y.k = 1 := by
      have := (List.mem_filter.1 hy).2
      simp only [livesB, Bool.and_eq_true, decide_eq_true_eq] at this
      exact this.1
    refine List.any_eq_true.2 ⟨y, hy, ?_⟩
    have hs : sameK y e = true := decide_eq_true (t.key y hyl)
    rw [decide_eq_true hy1, hs, t.all y hyl]
    rfl
  unfold countB
  rw [hu, above_snoc, above_off t.non, t.self]
  simp
theorem Tops.counting (h3 : 3 ≤ e.k) (hC : livingB l ≠ []) : countingB (l ++ [e]) (livingB (l ++ [e])) =
    (countingB l (livingB l)).filter (fun x => !(decide (e.k = 5) && (decide (x.k = 4) && sameV e x))) ++ (if e.k = 3 ∨ e.k = 4 then [e] else []) := by
  have hL : livingB (l ++ [e]) = livingB l := by rw [t.living, if_neg (by omega), if_neg (by omega), List.append_nil]
  rw [hL]
  unfold countingB
  rw [List.filter_append, List.filter_cons, t.count_e hC, List.filter_filter]
  congr 1
  · refine List.filter_congr fun x hx => ?_
    rw [t.count_in hx, Bool.and_comm]
  · by_cases h : e.k = 3 ∨ e.k = 4
    · rw [if_pos h, if_pos (by rcases h with h | h <;> simp [h])]
      rfl
    · rw [if_neg h, if_neg (by simp only [Bool.or_eq_true, decide_eq_true_eq]; exact h)]
      rfl
end
theorem valsF_mem {B : List Ev} {x : Str} : x ∈ valsF B ↔ ∃ e ∈ B, strL e.v = x := by
  have : x ∈ uniq (B.map fun e => strL e.v) ↔ _ := (uniq_props _).2 x
  rw [List.mem_map] at this
  exact this
theorem strL_inj {a b : ByteArray} (h : strL a = strL b) : a = b := by rw [← arrS a, h, arrS]
section
variable {l : List Ev} {e : Ev} {ws : List Ev}
theorem sets_snoc (n : Int) : setsB e.key n (ws ++ [e]) = setsB e.key n ws ++ (if e.l = n ∧ e.k = 3 then [e] else []) := by
  unfold setsB
  rw [List.filter_append, List.filter_cons]
  congr 1
  by_cases h : e.l = n ∧ e.k = 3
  · rw [if_pos h, if_pos (by simp [ofK, h.1, h.2])]; rfl
  · rw [if_neg h, if_neg (by simp only [ofK, Bool.and_eq_true, decide_eq_true_eq]; exact fun k => h ⟨k.1.2, k.2⟩)]; rfl
theorem adds_snoc (n : Int) : addsB e.key n (ws ++ [e]) = addsB e.key n ws ++ (if e.l = n ∧ ¬ e.k = 3 then [e] else []) := by
  unfold addsB
  rw [List.filter_append, List.filter_cons]
  congr 1
  by_cases h : e.l = n ∧ ¬ e.k = 3
  · rw [if_pos h, if_pos (by simp [ofK, h.1, h.2])]; rfl
  · rw [if_neg h, if_neg (by simp only [ofK, Bool.and_eq_true, decide_eq_true_eq, Bool.not_eq_true', decide_eq_false_iff_not]; exact fun k => h ⟨k.1.2, k.2⟩)]; rfl
/-- Of one label: what there is, what is shown, and the values. -/
theorem lab_set (n : Int) (h3 : e.k = 3) (hl : e.l = n) (hi : ∀ x ∈ ws, x.h < e.h) (ho : OneStamp (ws ++ [e])) :
    hasF (setsB e.key n (ws ++ [e])) = true ∧ fieldF (setsB e.key n (ws ++ [e])) = e.v ∧ valsF (addsB e.key n (ws ++ [e])) = valsF (addsB e.key n ws) := by
  have e1 : setsB e.key n (ws ++ [e]) = setsB e.key n ws ++ [e] := by rw [sets_snoc, if_pos ⟨hl, h3⟩]
  refine ⟨?_, ?_, ?_⟩
  · rw [e1]
    unfold hasF
    rw [List.length_append, List.length_singleton, decide_eq_false (by omega)]
    rfl
  · refine field_top (fun a ha b hb => ho a (List.mem_filter.1 ha).1 b (List.mem_filter.1 hb).1) (by rw [e1]; simp) fun x hx => ?_
    rw [less_iff]
    unfold stampE
    simp only
    rcases List.mem_append.1 (List.mem_filter.1 hx).1 with hx | hx
    · have := hi x hx
      omega
    · rw [List.mem_singleton.1 hx]
      omega
  · rw [adds_snoc, if_neg (by omega), List.append_nil]
theorem lab_off (n : Int) (hl : e.l ≠ n) : setsB e.key n (ws ++ [e]) = setsB e.key n ws ∧ addsB e.key n (ws ++ [e]) = addsB e.key n ws := by
  rw [sets_snoc, adds_snoc, if_neg (fun h => hl h.1), if_neg (fun h => hl h.1), List.append_nil, List.append_nil]
  exact ⟨rfl, rfl⟩
theorem lab_add (n : Int) (h4 : e.k = 4) (hl : e.l = n) : setsB e.key n (ws ++ [e]) = setsB e.key n ws ∧ strL e.v ∈ valsF (addsB e.key n (ws ++ [e])) := by
  refine ⟨by rw [sets_snoc, if_neg (by omega), List.append_nil], valsF_mem.2 ⟨e, ?_, rfl⟩⟩
  rw [adds_snoc, if_pos ⟨hl, by omega⟩]
  simp
def goneP (e x : Ev) : Bool := !(decide (e.k = 5) && (decide (x.k = 4) && sameV e x))
theorem gone_sets (n : Int) : setsB e.key n (ws.filter (goneP e)) = setsB e.key n ws := by
  unfold setsB
  rw [List.filter_filter]
  refine List.filter_congr fun x _ => ?_
  by_cases h : x.k = 3
  · have : goneP e x = true := by unfold goneP; rw [decide_eq_false (show ¬ x.k = 4 by omega)]; simp
    rw [this, Bool.and_true]
  · rw [decide_eq_false h]
    simp
theorem gone_adds (n : Int) (hl : e.l ≠ n) : addsB e.key n (ws.filter (goneP e)) = addsB e.key n ws := by
  unfold addsB
  rw [List.filter_filter]
  refine List.filter_congr fun x _ => ?_
  cases h : ofK e.key n x && !decide (x.k = 3) with
  | false => simp
  | true =>
    simp only [ofK, Bool.and_eq_true, decide_eq_true_eq] at h
    have : goneP e x = true := by
      unfold goneP sameV sameL
      rw [decide_eq_false (show ¬ e.l = x.l by rw [h.1.2]; exact hl)]
      simp
    rw [this]
    rfl
theorem gone_val (n : Int) (h5 : e.k = 5) (hl : e.l = n) (hk : ∀ x ∈ ws, x.k = 3 ∨ x.k = 4) : ¬ strL e.v ∈ valsF (addsB e.key n (ws.filter (goneP e))) := by
  intro h
  obtain ⟨x, hx, ev⟩ := valsF_mem.1 h
  obtain ⟨hx, ho⟩ := List.mem_filter.1 hx
  obtain ⟨hx, hg⟩ := List.mem_filter.1 hx
  simp only [ofK, Bool.and_eq_true, decide_eq_true_eq, Bool.not_eq_true', decide_eq_false_iff_not] at ho
  have h4 : x.k = 4 := (hk x hx).resolve_left ho.2
  unfold goneP sameV sameL sameK at hg
  rw [decide_eq_true h5, decide_eq_true h4, decide_eq_true (show e.key = x.key from ho.1.1.symm), decide_eq_true (show e.l = x.l by rw [ho.1.2]; exact hl), decide_eq_true (strL_inj ev).symm] at hg
  simp at hg
end
theorem filter_id {α : Type} {p : α → Bool} {l : List α} (h : ∀ x ∈ l, p x = true) : l.filter p = l := List.filter_eq_self.2 h

theorem cr_of {l : List Ev} {e : Ev} (t : Tops l e) (h3 : 3 ≤ e.k) (h5 : e.k ≤ 5) (hC : livingB l ≠ []) :
    CR e (contactB e.key (countingB l (livingB l))) (contactB e.key (countingB (l ++ [e]) (livingB (l ++ [e])))) := by
  have hc := t.counting h3 hC
  have hk : ∀ x ∈ countingB l (livingB l), x.k = 3 ∨ x.k = 4 := fun x hx => by
    have := (List.mem_filter.1 hx).2
    simp only [countB, Bool.and_eq_true, Bool.or_eq_true, decide_eq_true_eq] at this
    rcases this.1 with h | h
    · exact .inl h
    · exact .inr h.1
  have hi : ∀ x ∈ countingB l (livingB l), x.h < e.h := fun x hx => t.hi x (List.mem_filter.1 hx).1
  have ho : OneStamp (countingB l (livingB l) ++ [e]) := fun a ha b hb => t.one a (by
    rcases List.mem_append.1 ha with h | h
    · exact List.mem_append.2 (.inl (List.mem_filter.1 h).1)
    · exact List.mem_append.2 (.inr h)) b (by
    rcases List.mem_append.1 hb with h | h
    · exact List.mem_append.2 (.inl (List.mem_filter.1 h).1)
    · exact List.mem_append.2 (.inr h))
  rw [hc]
  generalize countingB l (livingB l) = ws at hk hi ho ⊢
  have hg : (ws.filter fun x => !(decide (e.k = 5) && (decide (x.k = 4) && sameV e x))) = ws.filter (goneP e) := rfl
  rw [hg]
  by_cases k5 : e.k = 5
  · rw [if_neg (by omega), List.append_nil]
    unfold contactB
    refine ⟨fun hl => ?_, fun hl => ?_, fun h => by omega, fun h => by omega, fun _ => ?_, fun _ hl => ?_, fun _ hl => ?_⟩
    · simp [gone_sets, gone_adds 1 (show e.l ≠ 1 by omega)]
    · simp [gone_sets, gone_adds 0 (show e.l ≠ 0 by omega)]
    · simp [gone_sets]
    · exact ⟨fun h => absurd h (gone_val 0 k5 hl hk), fun h => by omega⟩
    · exact ⟨fun h => absurd h (gone_val 1 k5 hl hk), fun h => by omega⟩
  · have hf : ws.filter (goneP e) = ws := filter_id fun x _ => by unfold goneP; rw [decide_eq_false k5]; rfl
    rw [hf, if_pos (by omega)]
    by_cases k3 : e.k = 3
    · unfold contactB
      refine ⟨fun hl => ?_, fun hl => ?_, fun _ hl => ?_, fun _ hl => ?_, fun h => absurd k3 h, fun h => absurd k3 h, fun h => absurd k3 h⟩
      · obtain ⟨a, b⟩ := lab_off (e := e) (ws := ws) 1 (by omega)
        simp [a, b]
      · obtain ⟨a, b⟩ := lab_off (e := e) (ws := ws) 0 (by omega)
        simp [a, b]
      · obtain ⟨a, b, c⟩ := lab_set 0 k3 hl hi ho
        exact ⟨a, b, by simp only [c]⟩
      · obtain ⟨a, b, c⟩ := lab_set 1 k3 hl hi ho
        exact ⟨a, b, by simp only [c]⟩
    · have k4 : e.k = 4 := by omega
      have hs : ∀ n, setsB e.key n (ws ++ [e]) = setsB e.key n ws := fun n => by rw [sets_snoc, if_neg (by omega), List.append_nil]
      unfold contactB
      refine ⟨fun hl => ?_, fun hl => ?_, fun h => absurd h k3, fun h => absurd h k3, fun _ => ?_, fun _ hl => ?_, fun _ hl => ?_⟩
      · obtain ⟨a, b⟩ := lab_off (e := e) (ws := ws) 1 (by omega)
        simp [a, b]
      · obtain ⟨a, b⟩ := lab_off (e := e) (ws := ws) 0 (by omega)
        simp [a, b]
      · simp [hs]
      · exact ⟨fun _ => k4, fun _ => (lab_add 0 k4 hl).2⟩
      · exact ⟨fun _ => k4, fun _ => (lab_add 1 k4 hl).2⟩

theorem on_snoc (p : ByteArray → Bool) (l : List Ev) (e : Ev) : onP p (l ++ [e]) = onP p l ++ (if p e.key = true then [e] else []) := by
  unfold onP
  rw [List.filter_append, List.filter_cons]
  rfl
theorem last_facts {W V : List Ev} {H : Nat → Clk} (hV : Inv V H) {e : Ev} (eV : V = W ++ [e]) (hall : ∀ x ∈ W, belowB x e = true) : LastF (ofB W) (ofB V) e := by
  have heV : e ∈ V := by rw [eV]; simp
  have hsub : ∀ x ∈ onP (eqK e.key) W, x ∈ W := fun x hx => (List.mem_filter.1 hx).1
  have hWV : ∀ x ∈ W, x ∈ V := fun x hx => by rw [eV]; exact List.mem_append.2 (.inl hx)
  have t : Tops (onP (eqK e.key) W) e := by
    refine ⟨on_key, fun x hx => hall x (hsub x hx), fun x hx => ?_, ?_, fun x hx => hV.hgt x (hWV x (hsub x hx)) e heV (hall x (hsub x hx)), fun a ha b hb => hV.stamp a ?_ b ?_⟩
    · have := hV.ord
      rw [eV] at this
      exact (List.pairwise_append.1 this).2.2 x (hsub x hx) e (List.mem_singleton.2 rfl)
    · obtain ⟨r, h1, h2, h3, h4, h5⟩ := hV.ev e heV
      unfold belowB
      rw [h2, Bool.eq_false_iff]
      intro h
      rw [has_at h1] at h
      omega
    · rcases List.mem_append.1 ha with h | h
      · exact hWV a (hsub a h)
      · rw [List.mem_singleton.1 h]; exact heV
    · rcases List.mem_append.1 hb with h | h
      · exact hWV b (hsub b h)
      · rw [List.mem_singleton.1 h]; exact heV
  have hk := (hV.fine e heV).k
  have e1 : onP (eqK e.key) V = onP (eqK e.key) W ++ [e] := by rw [eV, on_snoc, if_pos (show eqK e.key e.key = true from decide_eq_true rfl)]
  have fA := of_eqK W e.key
  have fB := of_eqK V e.key
  rw [e1, of_same t.keys, t.living] at fB
  rw [of_same t.key] at fA
  refine ⟨?_, fun h2 => ?_, fun h1 => ?_, fun h3 => ?_⟩
  · rw [← of_neK, ← of_neK, eV, on_snoc, if_neg (by unfold eqK; simp), List.append_nil]
  · rw [if_pos h2, if_neg (show ¬ e.k = 1 by omega), List.append_nil, if_pos rfl] at fB
    exact place_no fB.symm
  · rw [if_pos h1, if_neg (show ¬ e.k = 2 by omega), if_neg (by simp)] at fB
    exact (place_yes fB.symm).1
  · rw [if_neg (show ¬ e.k = 2 by omega), if_neg (show ¬ e.k = 1 by omega), List.append_nil] at fB
    by_cases hC : livingB (onP (eqK e.key) W) = []
    · rw [if_pos hC] at fA fB
      exact .inl ⟨place_no fA.symm, place_no fB.symm⟩
    · rw [if_neg hC] at fA fB
      refine .inr ⟨_, _, place_yes fA.symm, place_yes fB.symm, ?_⟩
      have hL : livingB (onP (eqK e.key) W ++ [e]) = livingB (onP (eqK e.key) W) := by rw [t.living, if_neg (by omega), if_neg (by omega), List.append_nil]
      have := cr_of t h3 hk.2 hC
      rw [hL] at this
      exact this
end Go.Proofs.Ytkkpfjifkjbndaa

/-
  Plain Lean: what a book that is kept keeps of one key: each event that comes (behind all that is below it) takes out what it makes useless.
-/
namespace Go.Proofs.Ytkkpfjifkjbndaa
open Go.RowKit

/-- What is kept of events. -/
def keptQ (l : List Ev) (e : Ev) : Bool := livesB l e || (countB l (livingB l) e && !laterB l e)
def keptL (l : List Ev) : List Ev := l.filter (keptQ l)
def crtdB (l : List Ev) (e : Ev) : Bool := l.any fun a => decide (a.k = 1) && belowB a e
def dropB (kind : Int) (same : Ev → Bool) (e : Ev) (l : List Ev) : List Ev := l.filter fun a => !decide (a.k = kind) || (!same a || !belowB a e)
def sameL2 (e a : Ev) : Bool := decide (a.l = e.l)
def sameV2 (e a : Ev) : Bool := decide (a.l = e.l) && decide (a.v = e.v)
/-- What is kept of a key, behind an event of it. -/
def liveW (l : List Ev) (e : Ev) : List Ev :=
  if e.k = 1 then l ++ [e]
  else if e.k = 2 then (dropB 1 (fun _ => true) e l).filter fun a => decide (a.k = 1) || crtdB (dropB 1 (fun _ => true) e l) a
  else if e.k = 3 then (if crtdB l e = true then dropB 3 (sameL2 e) e l ++ [e] else l)
  else if e.k = 5 then dropB 4 (sameV2 e) e l
  else if crtdB l e = true then dropB 4 (sameV2 e) e l ++ [e] else l

/-- An event that comes behind others of its key, none of which is above it. -/
structure Nxt (p : List Ev) (e : Ev) : Prop where
  key : ∀ x ∈ p, x.key = e.key
  non : ∀ x ∈ p, belowB e x = false
  self : belowB e e = false
  tr : ∀ a ∈ p, ∀ b ∈ p, belowB a b = true → belowB b e = true → belowB a e = true
  kind : 1 ≤ e.k ∧ e.k ≤ 5
  kinds : ∀ x ∈ p, 1 ≤ x.k ∧ x.k ≤ 5
theorem sameK_of {a b : Ev} (h : a.key = b.key) : sameK a b = true := decide_eq_true h
section
variable {p : List Ev} {e : Ev} (t : Nxt p e)
include t
theorem Nxt.keys {x : Ev} (hx : x ∈ p) : sameK e x = true ∧ sameK x e = true := ⟨sameK_of (t.key x hx).symm, sameK_of (t.key x hx)⟩
theorem Nxt.above_e {k : Int} {same : Ev → Ev → Bool} : aboveB k same (p ++ [e]) e = false := by
  rw [above_snoc, above_off t.non, t.self]
  simp
theorem Nxt.lives_e : livesB (p ++ [e]) e = decide (e.k = 1) := by
  unfold livesB
  rw [t.above_e]
  simp
theorem Nxt.lives_in {x : Ev} (hx : x ∈ p) : livesB (p ++ [e]) x = (livesB p x && !(decide (e.k = 2) && belowB x e)) := by
  unfold livesB
  rw [above_snoc, (t.keys hx).1]
  cases aboveB 2 sameK p x <;> cases decide (x.k = 1) <;> simp
theorem Nxt.living : livingB (p ++ [e]) = (livingB p).filter (fun x => !(decide (e.k = 2) && belowB x e)) ++ (if e.k = 1 then [e] else []) := by
  unfold livingB
  rw [List.filter_append, List.filter_cons, t.lives_e, List.filter_filter]
  congr 1
  · refine List.filter_congr fun x hx => ?_
    rw [t.lives_in hx, Bool.and_comm]
  · by_cases h : e.k = 1
    · rw [if_pos h, if_pos (decide_eq_true h)]; rfl
    · rw [if_neg h, if_neg (by rw [decide_eq_false h]; simp)]; rfl
omit t in
theorem mem_living {l : List Ev} {x : Ev} : x ∈ livingB l ↔ x ∈ l ∧ livesB l x = true := List.mem_filter
/-- A Create that lives stands below. -/
theorem Nxt.under_in {x : Ev} (hx : x ∈ p) : underB 1 sameK (livingB (p ++ [e])) x = (livingB p).any fun a => !(decide (e.k = 2) && belowB a e) && belowB a x := by
  unfold underB
  rw [t.living, List.any_append, List.any_filter]
  have h2 : ((if e.k = 1 then [e] else []).any fun a => decide (a.k = 1) && (sameK a x && belowB a x)) = false := by
    split
    · rw [List.any_cons, List.any_nil, t.non x hx]; simp
    · rfl
  rw [h2, Bool.or_false]
  refine any_congr fun a ha => ?_
  obtain ⟨hap, hal⟩ := List.mem_filter.1 ha
  have hk : a.k = 1 := by
    simp only [livesB, Bool.and_eq_true, decide_eq_true_eq] at hal
    exact hal.1
  rw [decide_eq_true hk, sameK_of (show a.key = x.key by rw [t.key a hap, t.key x hx])]
  cases decide (e.k = 2) <;> cases belowB a e <;> cases belowB a x <;> rfl
theorem Nxt.under_old {x : Ev} (hx : x ∈ p) : underB 1 sameK (livingB p) x = (livingB p).any fun a => belowB a x := by
  refine any_congr fun a ha => ?_
  obtain ⟨hap, hal⟩ := List.mem_filter.1 ha
  have hk : a.k = 1 := by
    simp only [livesB, Bool.and_eq_true, decide_eq_true_eq] at hal
    exact hal.1
  rw [decide_eq_true hk, sameK_of (show a.key = x.key by rw [t.key a hap, t.key x hx])]
  simp
theorem Nxt.under_e : underB 1 sameK (livingB (p ++ [e])) e = (livingB p).any fun a => !(decide (e.k = 2) && belowB a e) && belowB a e := by
  unfold underB
  rw [t.living, List.any_append, List.any_filter]
  have h2 : ((if e.k = 1 then [e] else []).any fun a => decide (a.k = 1) && (sameK a e && belowB a e)) = false := by
    split
    · rw [List.any_cons, List.any_nil, t.self]; simp
    · rfl
  rw [h2, Bool.or_false]
  refine any_congr fun a ha => ?_
  obtain ⟨hap, hal⟩ := List.mem_filter.1 ha
  have hk : a.k = 1 := by
    simp only [livesB, Bool.and_eq_true, decide_eq_true_eq] at hal
    exact hal.1
  rw [decide_eq_true hk, (t.keys hap).2]
  cases decide (e.k = 2) <;> cases belowB a e <;> rfl
theorem Nxt.same2L {x : Ev} (hx : x ∈ p) : sameL e x = sameL2 e x := by
  unfold sameL sameL2
  rw [(t.keys hx).1, Bool.true_and]
  exact decide_eq_decide.2 eq_comm
theorem Nxt.same2V {x : Ev} (hx : x ∈ p) : sameV e x = sameV2 e x := by
  have h := t.same2L hx
  unfold sameV sameV2
  rw [h]
  unfold sameL2
  congr 1
  exact decide_eq_decide.2 eq_comm
theorem Nxt.later_in {x : Ev} (hx : x ∈ p) : laterB (p ++ [e]) x = (laterB p x || (decide (e.k = x.k) && ((if x.k = 4 then sameV2 e x else sameL2 e x) && belowB x e))) := by
  unfold laterB
  by_cases h : x.k = 4
  · rw [if_pos h, if_pos h, above_snoc, t.same2V hx]
  · rw [if_neg h, if_neg h, above_snoc, t.same2L hx]
theorem Nxt.count_in {x : Ev} (hx : x ∈ p) (h2 : e.k ≠ 2) : countB (p ++ [e]) (livingB (p ++ [e])) x = (countB p (livingB p) x && !(decide (e.k = 5) && (decide (x.k = 4) && (sameV2 e x && belowB x e)))) := by
  have hu : underB 1 sameK (livingB (p ++ [e])) x = underB 1 sameK (livingB p) x := by
    rw [t.under_in hx, t.under_old hx]
    refine any_congr fun a _ => ?_
    rw [decide_eq_false h2]
    rfl
  unfold countB
  rw [hu, above_snoc, t.same2V hx]
  by_cases h3 : x.k = 3
  · rw [decide_eq_true h3, decide_eq_false (show ¬ x.k = 4 by omega)]
    simp
  · rw [decide_eq_false h3]
    cases decide (x.k = 4) <;> cases aboveB 5 sameV p x <;> cases underB 1 sameK (livingB p) x <;> simp
theorem Nxt.kept_e1 (h : e.k = 1) : keptQ (p ++ [e]) e = true := by
  unfold keptQ
  rw [t.lives_e, decide_eq_true h]
  rfl
theorem Nxt.kept_in {x : Ev} (hx : x ∈ p) (h2 : e.k ≠ 2) : keptQ (p ++ [e]) x = (livesB p x || (countB p (livingB p) x && !(decide (e.k = 5) && (decide (x.k = 4) && (sameV2 e x && belowB x e))) && !(laterB p x || (decide (e.k = x.k) && ((if x.k = 4 then sameV2 e x else sameL2 e x) && belowB x e))))) := by
  unfold keptQ
  rw [t.lives_in hx, t.count_in hx h2, t.later_in hx, decide_eq_false h2]
  simp
omit t in
theorem lives_kind {l : List Ev} {x : Ev} (h : livesB l x = true) : x.k = 1 := by
  simp only [livesB, Bool.and_eq_true, decide_eq_true_eq] at h
  exact h.1
omit t in
theorem count_kind {l C : List Ev} {x : Ev} (h : countB l C x = true) : x.k = 3 ∨ x.k = 4 := by
  simp only [countB, Bool.and_eq_true, Bool.or_eq_true, decide_eq_true_eq] at h
  rcases h.1 with h | h
  · exact .inl h
  · exact .inr h.1
omit t in
/-- The Creates that are kept are those that live. -/
theorem crtd_lives {x : Ev} : crtdB (keptL p) x = (livingB p).any fun a => belowB a x := by
  unfold crtdB keptL livingB
  rw [List.any_filter, List.any_filter]
  refine any_congr fun a _ => ?_
  cases hl : livesB p a with
  | true => rw [decide_eq_true (lives_kind hl)]; simp [keptQ, hl]
  | false =>
    cases hc : countB p (livingB p) a with
    | false =>
      have : keptQ p a = false := by unfold keptQ; rw [hl, hc]; rfl
      rw [this]
      rfl
    | true =>
      have : ¬ a.k = 1 := by rcases count_kind hc with h | h <;> omega
      rw [decide_eq_false this]
      simp
theorem Nxt.kept_e {h2 : e.k ≠ 1} : keptQ (p ++ [e]) e = ((decide (e.k = 3) || decide (e.k = 4)) && crtdB (keptL p) e) := by
  have hl : laterB (p ++ [e]) e = false := by unfold laterB; split <;> exact t.above_e
  unfold keptQ
  rw [t.lives_e, decide_eq_false h2, hl, crtd_lives]
  unfold countB
  rw [t.above_e, t.under_e]
  by_cases h : e.k = 2
  · rw [decide_eq_false (show ¬ e.k = 3 by omega), decide_eq_false (show ¬ e.k = 4 by omega)]
    rfl
  · rw [decide_eq_false h]
    simp
omit t in
theorem keptL_snoc (l : List Ev) (x : Ev) : keptL (l ++ [x]) = l.filter (keptQ (l ++ [x])) ++ (if keptQ (l ++ [x]) x = true then [x] else []) := by
  unfold keptL
  rw [List.filter_append, List.filter_cons]
  rfl
theorem Nxt.no_crtd {x : Ev} (hx : x ∈ p) (hc : countB p (livingB p) x = true) (hb : belowB x e = true) : crtdB (keptL p) e = true := by
  have hu : underB 1 sameK (livingB p) x = true := by
    simp only [countB, Bool.and_eq_true] at hc
    exact hc.2
  rw [t.under_old hx] at hu
  rw [crtd_lives]
  obtain ⟨a, ha, hax⟩ := List.any_eq_true.1 hu
  exact List.any_eq_true.2 ⟨a, ha, t.tr a (List.mem_filter.1 ha).1 x hx hax hb⟩
theorem Nxt.step : liveW (keptL p) e = keptL (p ++ [e]) := by
  rw [keptL_snoc]
  unfold liveW
  have hk := t.kind
  by_cases k1 : e.k = 1
  · rw [if_pos k1, if_pos (t.kept_e1 k1)]
    congr 1
    refine List.filter_congr fun x hx => ?_
    rw [t.kept_in hx (by omega), decide_eq_false (show ¬ e.k = 5 by omega)]
    unfold keptQ
    cases hc : countB p (livingB p) x with
    | false => simp
    | true =>
      have : ¬ e.k = x.k := by rcases count_kind hc with h | h <;> omega
      rw [decide_eq_false this]
      simp
  rw [if_neg k1, t.kept_e (h2 := k1)]
  by_cases k2 : e.k = 2
  · rw [if_pos k2, decide_eq_false (show ¬ e.k = 3 by omega), decide_eq_false (show ¬ e.k = 4 by omega), if_neg (by simp), List.append_nil]
    have hcr : ∀ x ∈ p, crtdB (dropB 1 (fun _ => true) e (keptL p)) x = (livingB p).any fun a => !belowB a e && belowB a x := fun x _ => by
      unfold crtdB dropB keptL livingB
      rw [List.any_filter, List.any_filter, List.any_filter]
      refine any_congr fun a _ => ?_
      cases hl : livesB p a with
      | true => rw [decide_eq_true (lives_kind hl)]; simp [keptQ, hl]
      | false =>
        cases hc : countB p (livingB p) a with
        | false =>
          have : keptQ p a = false := by unfold keptQ; rw [hl, hc]; rfl
          rw [this]
          rfl
        | true =>
          have : ¬ a.k = 1 := by rcases count_kind hc with h | h <;> omega
          rw [decide_eq_false this]
          simp
    have hd : dropB 1 (fun _ => true) e (keptL p) = p.filter fun x => (!decide (x.k = 1) || !belowB x e) && keptQ p x := by
      unfold dropB keptL
      rw [List.filter_filter]
      exact List.filter_congr fun x _ => by simp
    rw [List.filter_congr (q := fun a => decide (a.k = 1) || (livingB p).any fun c => !belowB c e && belowB c a) (fun x hx => by
      rw [hcr x]
      rw [hd] at hx
      exact (List.mem_filter.1 hx).1), hd, List.filter_filter]
    refine List.filter_congr fun x hx => ?_
    have hl := t.lives_in hx
    have hlt : laterB (p ++ [e]) x = (laterB p x || (decide (e.k = x.k) && ((if x.k = 4 then sameV2 e x else sameL2 e x) && belowB x e))) := t.later_in hx
    have hu := t.under_in hx
    have huo := t.under_old hx
    rw [decide_eq_true k2] at hl hu
    simp only [Bool.true_and] at hl hu
    have hle : ((livingB p).any fun a => !belowB a e && belowB a x) = true → underB 1 sameK (livingB p) x = true := fun h => by
      rw [huo]
      obtain ⟨a, ha, h⟩ := List.any_eq_true.1 h
      simp only [Bool.and_eq_true] at h
      exact List.any_eq_true.2 ⟨a, ha, h.2⟩
    unfold keptQ
    rw [hl, hlt]
    unfold countB
    rw [hu, above_snoc, decide_eq_false (show ¬ e.k = 5 by omega)]
    generalize ((livingB p).any fun a => (!belowB a e && belowB a x)) = u' at *
    generalize underB 1 sameK (livingB p) x = u at *
    rcases (show x.k = 1 ∨ x.k = 3 ∨ x.k = 4 ∨ (x.k ≠ 1 ∧ x.k ≠ 3 ∧ x.k ≠ 4) by omega) with h | h | h | ⟨h1, h2, h3⟩
    · rw [decide_eq_true h, decide_eq_false (show ¬ x.k = 3 by omega), decide_eq_false (show ¬ x.k = 4 by omega)]
      cases livesB p x <;> cases belowB x e <;> simp
    · have hnl : livesB p x = false := by rw [Bool.eq_false_iff]; intro k; have := lives_kind k; omega
      rw [hnl, decide_eq_false (show ¬ x.k = 1 by omega), decide_eq_true h, decide_eq_false (show ¬ x.k = 4 by omega), decide_eq_false (show ¬ e.k = x.k by omega)]
      cases u' with
      | true => rw [hle rfl]; simp
      | false => simp
    · have hnl : livesB p x = false := by rw [Bool.eq_false_iff]; intro k; have := lives_kind k; omega
      rw [hnl, decide_eq_false (show ¬ x.k = 1 by omega), decide_eq_true h, decide_eq_false (show ¬ x.k = 3 by omega), decide_eq_false (show ¬ e.k = x.k by omega)]
      cases u' with
      | true => rw [hle rfl]; simp
      | false => simp
    · have hnl : livesB p x = false := by rw [Bool.eq_false_iff]; intro k; have := lives_kind k; omega
      rw [hnl, decide_eq_false h1, decide_eq_false h2, decide_eq_false h3]
      simp
  rw [if_neg k2]
  by_cases k3 : e.k = 3
  · rw [if_pos k3, decide_eq_true k3, Bool.true_or, Bool.true_and]
    by_cases hcr : crtdB (keptL p) e = true
    · rw [if_pos hcr, if_pos hcr]
      congr 1
      unfold dropB keptL
      rw [List.filter_filter]
      refine List.filter_congr fun x hx => ?_
      rw [t.kept_in hx k2, decide_eq_false (show ¬ e.k = 5 by omega), k3]
      unfold keptQ
      cases hl : livesB p x with
      | true => rw [decide_eq_false (show ¬ x.k = 3 by have := lives_kind hl; omega)]; simp
      | false =>
        by_cases h : x.k = 3
        · rw [decide_eq_true h, decide_eq_true h.symm, if_neg (by omega)]
          cases countB p (livingB p) x <;> cases laterB p x <;> simp
        · rw [decide_eq_false h, decide_eq_false (show ¬ 3 = x.k from fun k => h k.symm)]
          simp
    · rw [if_neg hcr, if_neg hcr, List.append_nil]
      unfold keptL
      refine List.filter_congr fun x hx => ?_
      rw [t.kept_in hx k2, decide_eq_false (show ¬ e.k = 5 by omega)]
      unfold keptQ
      cases hc : countB p (livingB p) x with
      | false => simp
      | true =>
        have : belowB x e = false := by rw [Bool.eq_false_iff]; exact fun k => hcr (t.no_crtd hx hc k)
        rw [this]
        simp
  rw [if_neg k3, decide_eq_false k3, Bool.false_or]
  by_cases k5 : e.k = 5
  · rw [if_pos k5, decide_eq_false (show ¬ e.k = 4 by omega), Bool.false_and, if_neg (by simp), List.append_nil]
    unfold dropB keptL
    rw [List.filter_filter]
    refine List.filter_congr fun x hx => ?_
    rw [t.kept_in hx k2, decide_eq_true k5]
    unfold keptQ
    cases hl : livesB p x with
    | true => rw [decide_eq_false (show ¬ x.k = 4 by have := lives_kind hl; omega)]; simp
    | false =>
      cases hc : countB p (livingB p) x with
      | false => simp
      | true =>
        rw [decide_eq_false (show ¬ e.k = x.k by rcases count_kind hc with h | h <;> omega)]
        by_cases h : x.k = 4
        · rw [decide_eq_true h]
          cases sameV2 e x <;> cases belowB x e <;> simp
        · rw [decide_eq_false h]
          simp
  have k4 : e.k = 4 := by omega
  rw [if_neg k5, decide_eq_true k4, Bool.true_and]
  by_cases hcr : crtdB (keptL p) e = true
  · rw [if_pos hcr, if_pos hcr]
    congr 1
    unfold dropB keptL
    rw [List.filter_filter]
    refine List.filter_congr fun x hx => ?_
    rw [t.kept_in hx k2, decide_eq_false k5, k4]
    unfold keptQ
    cases hl : livesB p x with
    | true => rw [decide_eq_false (show ¬ x.k = 4 by have := lives_kind hl; omega)]; simp
    | false =>
      by_cases h : x.k = 4
      · rw [decide_eq_true h, decide_eq_true h.symm, if_pos h]
        cases countB p (livingB p) x <;> cases laterB p x <;> simp
      · rw [decide_eq_false h, decide_eq_false (show ¬ 4 = x.k from fun k => h k.symm)]
        simp
  · rw [if_neg hcr, if_neg hcr, List.append_nil]
    unfold keptL
    refine List.filter_congr fun x hx => ?_
    rw [t.kept_in hx k2, decide_eq_false k5]
    unfold keptQ
    cases hc : countB p (livingB p) x with
    | false => simp
    | true =>
      have : belowB x e = false := by rw [Bool.eq_false_iff]; exact fun k => hcr (t.no_crtd hx hc k)
      rw [this]
      simp
end
end Go.Proofs.Ytkkpfjifkjbndaa
