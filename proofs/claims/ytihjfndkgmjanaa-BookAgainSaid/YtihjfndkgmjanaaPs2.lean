/-
  Plain Lean: of events of which no two have one stamp the order does not matter; events in another order, in which what is below comes first.
-/
import Derived.Test.YtihjfndkgmjanaaPs1
import Derived.Test.YtihjfndkgmjanaaAp1
import Derived.Test.YtihjfndkgmjanaaBkLp
namespace Go.Proofs.Ytihjfndkgmjanaa
open Go.RowKit

theorem any_perm {α : Type} {l l' : List α} (h : l.Perm l') (f : α → Bool) : l.any f = l'.any f := by
  rw [Bool.eq_iff_iff, List.any_eq_true, List.any_eq_true]
  exact ⟨fun ⟨x, hx, k⟩ => ⟨x, h.mem_iff.1 hx, k⟩, fun ⟨x, hx, k⟩ => ⟨x, h.mem_iff.2 hx, k⟩⟩
theorem getS {l : List Str} {i : Nat} (h : i < l.length) : l.getD i [] = l[i] := by rw [List.getD, List.getElem?_eq_getElem h]; rfl
/-- What is shown of a field is the value of a write with the last stamp. -/
theorem field_is {A : List Ev} (h : ¬ A.length = 0) : ∃ e ∈ A, fieldF A = e.v ∧ stampE e = topB ((A.map stampE).getD 0 default) (A.map stampE) := by
  have hlt := last_lt (l := A.map stampE) (by intro e; exact h (by rw [← List.length_map (f := stampE), e]; rfl))
  have hg := List.findIdx_getElem (p := fun s => decide (s = topB ((A.map stampE).getD 0 default) (A.map stampE))) (xs := A.map stampE) (w := hlt)
  have hlt' := hlt
  rw [List.length_map] at hlt
  refine ⟨A[lastN (A.map stampE)], List.getElem_mem hlt, ?_, ?_⟩
  · rw [fieldF, if_neg h, getS (by rw [List.length_map]; exact hlt), List.getElem_map, arrS]
  · have := of_decide_eq_true hg
    have e2 : (A.map stampE)[lastN (A.map stampE)]'hlt' = stampE (A[lastN (A.map stampE)]) := List.getElem_map ..
    exact e2.symm.trans this
def OneStamp (l : List Ev) : Prop := ∀ a ∈ l, ∀ b ∈ l, stampE a = stampE b → a = b
theorem less_or {a b : St} (h : ¬ lessB a b = true) (k : ¬ lessB b a = true) : a = b := by
  rw [less_iff] at h k
  obtain ⟨a1, a2⟩ := a
  obtain ⟨b1, b2⟩ := b
  simp only at h k
  have : a1 = b1 := by omega
  have : a2 = b2 := by omega
  simp [*]
/-- The value shown is that of the write that none is above. -/
theorem field_top {A : List Ev} {e : Ev} (hd : OneStamp A) (he : e ∈ A) (hm : ∀ x ∈ A, ¬ lessB (stampE e) (stampE x) = true) : fieldF A = e.v := by
  have h0 : ¬ A.length = 0 := by
    intro h
    rw [List.length_eq_zero_iff] at h
    rw [h] at he
    cases he
  obtain ⟨x, hx, e1, e2⟩ := field_is h0
  have ht := top_max (A.map stampE) ((A.map stampE).getD 0 default)
  rw [← e2] at ht
  have := less_or (hm x hx) (ht.2 (stampE e) (List.mem_map.2 ⟨e, he, rfl⟩))
  rw [e1, hd e he x hx this]
theorem field_perm {A B : List Ev} (h : A.Perm B) (hd : OneStamp A) : fieldF A = fieldF B := by
  by_cases h0 : A.length = 0
  · have h1 : B.length = 0 := by rw [← h.length_eq]; exact h0
    rw [fieldF, fieldF, if_pos h0, if_pos h1]
  · obtain ⟨x, hx, e1, e2⟩ := field_is h0
    have ht := top_max (A.map stampE) ((A.map stampE).getD 0 default)
    rw [← e2] at ht
    rw [e1]
    exact (field_top (fun a ha b hb => hd a (h.mem_iff.2 ha) b (h.mem_iff.2 hb)) (h.mem_iff.1 hx) fun y hy => ht.2 _ (List.mem_map.2 ⟨y, h.mem_iff.2 hy, rfl⟩)).symm
section
variable {l l' : List Ev}
theorem above_perm (h : l.Perm l') (k : Int) (same : Ev → Ev → Bool) : aboveB k same l = aboveB k same l' := funext fun _ => any_perm h _
theorem under_perm (h : l.Perm l') (k : Int) (same : Ev → Ev → Bool) : underB k same l = underB k same l' := funext fun _ => any_perm h _
theorem living_perm (h : l.Perm l') : (livingB l).Perm (livingB l') := by
  have : livesB l = livesB l' := funext fun e => by unfold livesB; rw [above_perm h]
  unfold livingB
  rw [this]
  exact h.filter _
theorem counting_perm (h : l.Perm l') : (countingB l (livingB l)).Perm (countingB l' (livingB l')) := by
  have : countB l (livingB l) = countB l' (livingB l') := funext fun e => by unfold countB; rw [above_perm h, under_perm (living_perm h)]
  unfold countingB
  rw [this]
  exact h.filter _
theorem contact_perm (h : l.Perm l') (hd : OneStamp l) (key : ByteArray) : contactB key l = contactB key l' := by
  have h1 : ∀ n, (setsB key n l).Perm (setsB key n l') := fun n => h.filter _
  have h2 : ∀ n, valsF (addsB key n l) = valsF (addsB key n l') := fun n => by
    have := h.filter (fun e => ofK key n e && !decide (e.k = 3))
    exact uniq_of_mem fun x => (this.map fun e => strL e.v).mem_iff
  have h3 : ∀ n, hasF (setsB key n l) = hasF (setsB key n l') := fun n => by unfold hasF; rw [(h1 n).length_eq]
  have h4 : ∀ n, fieldF (setsB key n l) = fieldF (setsB key n l') := fun n => field_perm (h1 n) fun a ha b hb => hd a (List.mem_filter.1 ha).1 b (List.mem_filter.1 hb).1
  unfold contactB
  rw [h2, h2, h3, h3, h4, h4]
theorem of_perm (h : l.Perm l') (hd : OneStamp l) : ofB l = ofB l' := by
  have hk : keysB l = keysB l' := uniq_of_mem fun x => ((living_perm h).map fun e => strL e.key).mem_iff
  unfold ofB
  rw [hk]
  exact List.map_congr_left fun k _ => contact_perm (counting_perm h) (fun a ha b hb => hd a (List.mem_filter.1 ha).1 b (List.mem_filter.1 hb).1) _
theorem size_perm (h : l.Perm l') : sizeB l = sizeB l' := by
  have hl : laterB l = laterB l' := funext fun e => by unfold laterB; split <;> rw [above_perm h]
  unfold sizeB
  rw [(living_perm h).length_eq, hl, ((counting_perm h).filter _).length_eq]
end

theorem pair_in {α : Type} {R : α → α → Prop} {l : List α} (h : l.Pairwise fun a b => ¬ R a b) (hs : ∀ a b, R a b → R b a) {a b : α} (ha : a ∈ l) (hb : b ∈ l) (hr : R a b) : a = b := by
  obtain ⟨i, hi, rfl⟩ := List.getElem_of_mem ha
  obtain ⟨j, hj, rfl⟩ := List.getElem_of_mem hb
  rcases Nat.lt_trichotomy i j with k | k | k
  · exact absurd hr (List.pairwise_iff_getElem.1 h i j hi hj k)
  · subst k; rfl
  · exact absurd (hs _ _ hr) (List.pairwise_iff_getElem.1 h j i hj hi k)
theorem Inv.mark {T : List Ev} {H : Nat → Clk} (h : Inv T H) {a b : Ev} (ha : a ∈ T) (hb : b ∈ T) (hr : a.r = b.r) (hn : a.n = b.n) : a = b :=
  pair_in (R := fun a b => a.r = b.r ∧ a.n = b.n) h.dis (fun _ _ k => ⟨k.1.symm, k.2.symm⟩) ha hb ⟨hr, hn⟩
theorem Inv.stamp {T : List Ev} {H : Nat → Clk} (h : Inv T H) : OneStamp T := fun a ha b hb e => by
  obtain ⟨p, a1, a2, a3, a4, a5⟩ := h.ev a ha
  obtain ⟨q, b1, b2, b3, b4, b5⟩ := h.ev b hb
  have eh : a.h = b.h := congrArg Prod.fst e
  have er : a.r = b.r := congrArg Prod.snd e
  have epq : p = q := by rw [a2, b2] at er; omega
  subst epq
  rcases Int.lt_trichotomy a.n b.n with k | k | k
  · have := h.hgt a ha b hb (by unfold belowB; rw [a2]; exact (has_at a1).2 ⟨a3, by omega⟩)
    omega
  · exact h.mark ha hb er k
  · have := h.hgt b hb a ha (by unfold belowB; rw [b2]; exact (has_at a1).2 ⟨b3, by omega⟩)
    omega

/-! ### In another order -/
structure Spr where
  (out left : List Ev) (hv : Clk)
def rdyP (left : List Ev) (h : Clk) (k : Nat) : Bool := (left.getD k default).c.le h
def rdyL (left : List Ev) (h : Clk) : List Nat := (List.range left.length).filter (rdyP left h)
def pickN (picks : List UInt8) (i : Nat) (rd : List Nat) : Nat := if i < picks.length then rd.getD ((picks.getD i 0).toNat % rd.length) 0 else rd.getD 0 0
def Clk.top (c : Clk) : Nat → Int → Clk
  | 0, n => ⟨mxI c.c0 n, c.c1, c.c2, c.c3, c.c4⟩
  | 1, n => ⟨c.c0, mxI c.c1 n, c.c2, c.c3, c.c4⟩
  | 2, n => ⟨c.c0, c.c1, mxI c.c2 n, c.c3, c.c4⟩
  | 3, n => ⟨c.c0, c.c1, c.c2, mxI c.c3 n, c.c4⟩
  | _, n => ⟨c.c0, c.c1, c.c2, c.c3, mxI c.c4 n⟩
theorem top_at (c : Clk) {r q : Nat} (n : Int) (hr : r < 5) (hq : q < 5) : (c.top r n).at q = if q = r then mxI (c.at q) n else c.at q := by
  obtain rfl | rfl | rfl | rfl | rfl : r = 0 ∨ r = 1 ∨ r = 2 ∨ r = 3 ∨ r = 4 := by omega
  all_goals (obtain rfl | rfl | rfl | rfl | rfl : q = 0 ∨ q = 1 ∨ q = 2 ∨ q = 3 ∨ q = 4 := by omega)
  all_goals rfl
def sprAt (s : Spr) (k : Nat) : Spr := ⟨s.out ++ [s.left.getD k default], s.left.take k ++ s.left.drop (k + 1), s.hv.top (s.left.getD k default).r.toNat (s.left.getD k default).n⟩
def sprN (picks : List UInt8) (W : List Ev) : Nat → Spr
  | 0 => ⟨[], W, clk0⟩
  | i + 1 => sprAt (sprN picks W i) (pickN picks i (rdyL (sprN picks W i).left (sprN picks W i).hv))
structure SprOk (W : List Ev) (s : Spr) : Prop where
  perm : (s.out ++ s.left).Perm W
  sub : s.left.Sublist W
  hv : ∀ e ∈ s.out, ∀ r : Nat, r < 5 → e.r = (r : Int) → e.n ≤ s.hv.at r
  pos : ∀ r : Nat, r < 5 → 0 ≤ s.hv.at r
theorem rdy_mem {left : List Ev} {h : Clk} {k : Nat} : k ∈ rdyL left h ↔ k < left.length ∧ rdyP left h k = true := by
  unfold rdyL
  rw [List.mem_filter, List.mem_range]
theorem SprOk.rdy {W : List Ev} {H : Nat → Clk} (hI : Inv W H) {s : Spr} (h : SprOk W s) (hl : 0 < s.left.length) : 0 ∈ rdyL s.left s.hv := by
  obtain ⟨out, left, hv⟩ := s
  obtain ⟨h1, h2, h3, h4⟩ := h
  simp only at h1 h2 h3 h4 hl ⊢
  match left, hl with
  | f :: rest, _ =>
    refine rdy_mem.2 ⟨Nat.succ_pos _, ?_⟩
    show f.c.le hv = true
    rw [le_at]
    intro r hr
    obtain ⟨r1, r2, eW, hf, hrest⟩ := List.cons_sublist_iff.1 h2
    obtain ⟨W1, W2, er1⟩ := List.append_of_mem hf
    subst er1
    have eW' : W = W1 ++ f :: (W2 ++ r2) := by rw [eW]; simp
    have hfW : f ∈ W := by rw [eW']; simp
    rcases Int.lt_or_le (f.c.at r) 1 with k | k
    · have := h4 r hr
      omega
    · obtain ⟨x, hx, x1, x2⟩ := hI.pre W1 f (W2 ++ r2) eW' r hr (f.c.at r) k (Int.le_refl _)
      have hxW : x ∈ W := by rw [eW']; exact List.mem_append.2 (.inl hx)
      have hd := hI.dis
      rw [eW'] at hd
      have hd' := (List.pairwise_append.1 hd).2.2 x hx
      have hne : x ∉ f :: (W2 ++ r2) := fun hm => hd' x hm ⟨rfl, rfl⟩
      have hxo : x ∈ out := by
        rcases List.mem_append.1 (h1.mem_iff.2 hxW) with k | k
        · exact k
        · refine absurd ?_ hne
          rcases List.mem_cons.1 k with rfl | k
          · exact List.mem_cons_self
          · exact List.mem_cons_of_mem _ (List.mem_append.2 (.inr (hrest.subset k)))
      have := h3 x hxo r hr x1
      omega
theorem perm_at {α : Type} {l : List α} {k : Nat} (h : k < l.length) : (l[k] :: l.eraseIdx k).Perm l := by
  rw [List.eraseIdx_eq_take_drop_succ]
  refine List.perm_middle.symm.trans ?_
  rw [← List.drop_eq_getElem_cons h, List.take_append_drop]
theorem SprOk.at {W : List Ev} {H : Nat → Clk} (hI : Inv W H) {s : Spr} (h : SprOk W s) {k : Nat} (hk : k < s.left.length) : SprOk W (sprAt s k) := by
  obtain ⟨out, left, hv⟩ := s
  obtain ⟨h1, h2, h3, h4⟩ := h
  simp only at h1 h2 h3 h4 hk
  have hg : left.getD k default = left[k] := by rw [List.getD, List.getElem?_eq_getElem hk]; rfl
  have he : left.take k ++ left.drop (k + 1) = left.eraseIdx k := (List.eraseIdx_eq_take_drop_succ ..).symm
  have hm : left[k] ∈ W := h2.subset (List.getElem_mem hk)
  obtain ⟨p, p1, p2, _⟩ := hI.ev _ hm
  have ep : left[k].r.toNat = p := by rw [p2]; omega
  unfold sprAt
  simp only [hg, he, ep]
  refine ⟨?_, (List.eraseIdx_sublist ..).trans h2, fun e hx r hr h5 => ?_, fun r hr => ?_⟩
  · have := (perm_at hk).append_left out
    refine (List.Perm.trans ?_ this).trans h1
    rw [List.append_assoc]
    exact .refl _
  · show e.n ≤ (hv.top p left[k].n).at r
    rw [top_at _ _ p1 hr]
    have hx : e ∈ out ++ [left[k]] := hx
    rcases List.mem_append.1 hx with hx | hx
    · have := h3 e hx r hr h5
      split
      · have := mx_l (hv.at r) left[k].n
        omega
      · exact this
    · rw [List.mem_singleton.1 hx] at h5 ⊢
      have : r = p := by rw [p2] at h5; omega
      rw [if_pos this]
      exact mx_r _ _
  · show 0 ≤ (hv.top p left[k].n).at r
    rw [top_at _ _ p1 hr]
    have := h4 r hr
    split
    · have := mx_l (hv.at r) left[k].n
      omega
    · exact this
theorem pick_lt {picks : List UInt8} {i : Nat} {left : List Ev} {h : Clk} (h0 : 0 ∈ rdyL left h) : pickN picks i (rdyL left h) < left.length := by
  have hl : 0 < (rdyL left h).length := List.length_pos_of_mem h0
  have hm : ∀ j, j < (rdyL left h).length → (rdyL left h).getD j 0 < left.length := fun j hj => by
    rw [List.getD, List.getElem?_eq_getElem hj]
    exact (rdy_mem.1 (List.getElem_mem hj)).1
  unfold pickN
  split
  · exact hm _ (Nat.mod_lt _ hl)
  · exact hm 0 hl
theorem sprN_ok {W : List Ev} {H : Nat → Clk} (hI : Inv W H) (picks : List UInt8) : ∀ i, i ≤ W.length → SprOk W (sprN picks W i) ∧ (sprN picks W i).left.length = W.length - i
  | 0, _ => ⟨⟨.refl _, .refl _, fun e he => (by cases he), fun r _ => (match r with | 0 => Int.le_refl _ | 1 => Int.le_refl _ | 2 => Int.le_refl _ | 3 => Int.le_refl _ | _ + 4 => Int.le_refl _)⟩, rfl⟩
  | i + 1, hi => by
    obtain ⟨h1, h2⟩ := sprN_ok hI picks i (by omega)
    have h0 := h1.rdy hI (by omega)
    have hk := pick_lt (picks := picks) (i := i) h0
    refine ⟨h1.at hI hk, ?_⟩
    show ((sprN picks W i).left.take _ ++ (sprN picks W i).left.drop _).length = _
    rw [List.length_append, List.length_take, List.length_drop]
    omega
def sprL (picks : List UInt8) (W : List Ev) : List Ev := (sprN picks W W.length).out
theorem spr_perm {W : List Ev} {H : Nat → Clk} (hI : Inv W H) (picks : List UInt8) : W.Perm (sprL picks W) := by
  obtain ⟨h1, h2⟩ := sprN_ok hI picks W.length (Nat.le_refl _)
  have : (sprN picks W W.length).left = [] := List.length_eq_zero_iff.1 (by omega)
  have h3 := h1.perm
  rw [this, List.append_nil] at h3
  exact h3.symm
end Go.Proofs.Ytihjfndkgmjanaa
