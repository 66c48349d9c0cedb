/-
  Plain Lean: the reference of layer 9 comes to what the program comes to; and how much there is to keep, by the reference.
-/
import Derived.Test.YtihjfndkgmjanaaBr5
import Derived.Test.YtihjfndkgmjanaaBkU
namespace Go.Proofs.Ytihjfndkgmjanaa
open Go.RowKit

theorem with_props {l : List Str} {s : Str} (h : l.Pairwise (· < ·)) : (withL l s).Pairwise (· < ·) ∧ ∀ x, x ∈ withL l s ↔ x ∈ l ∨ x = s := by
  obtain ⟨k, hk⟩ : ∃ k, k = l.findIdx fun x => !decide (x < s) := ⟨_, rfl⟩
  have hkl : k ≤ l.length := by rw [hk]; exact List.findIdx_le_length
  have hlt : ∀ x ∈ l.take k, x < s := fun x hx => by
    obtain ⟨i, hi, rfl⟩ := List.getElem_of_mem hx
    rw [List.length_take] at hi
    rw [List.getElem_take]
    have := List.not_of_lt_findIdx (p := fun x => !decide (x < s)) (xs := l) (i := i) (by rw [← hk]; omega)
    simpa using this
  have hge : ∀ x ∈ l.drop k, ¬ x < s := fun x hx => by
    obtain ⟨i, hi, rfl⟩ := List.getElem_of_mem hx
    rw [List.length_drop] at hi
    rw [List.getElem_drop]
    have hk' : k < l.length := by omega
    have h0 := List.findIdx_getElem (p := fun x => !decide (x < s)) (xs := l) (w := by rw [← hk]; exact hk')
    simp only [← hk] at h0
    have h0 : ¬ l[k] < s := by simpa using h0
    rcases Nat.eq_zero_or_pos i with rfl | hi0
    · exact h0
    · intro hlt2
      exact h0 (str_lt_trans (List.pairwise_iff_getElem.1 h k (k + i) hk' (by omega) (by omega)) hlt2)
  unfold withL
  rw [← hk]
  split
  · rename_i h1
    refine ⟨h, fun x => ⟨.inl, fun hx => ?_⟩⟩
    rcases hx with hx | rfl
    · exact hx
    · have h2 := h1.1
      rw [List.getD, List.getElem?_eq_getElem h1.2] at h2
      rw [← h2]
      exact List.getElem_mem _
  · rename_i h1
    have hne : ∀ x ∈ l.drop k, s < x := fun x hx => by
      refine Classical.byContradiction fun hn => ?_
      have hxs : x = s := by
        refine Classical.byContradiction fun hne => ?_
        rcases List.le_total x s with h | h
        · exact hge x hx (str_lt_of_le h hne)
        · exact hn (str_lt_of_le h fun e => hne e.symm)
      subst hxs
      obtain ⟨i, hi, e⟩ := List.getElem_of_mem hx
      rw [List.length_drop] at hi
      rw [List.getElem_drop] at e
      have hk' : k < l.length := by omega
      rcases Nat.eq_zero_or_pos i with rfl | hi0
      · refine h1 ⟨?_, hk'⟩
        rw [List.getD, List.getElem?_eq_getElem hk']
        exact e
      · have h2 := List.pairwise_iff_getElem.1 h k (k + i) hk' (by omega) (by omega)
        rw [e] at h2
        refine hge l[k] ?_ h2
        rw [show l.drop k = l[k] :: l.drop (k + 1) from List.drop_eq_getElem_cons hk']
        exact List.mem_cons_self
    refine ⟨?_, fun x => ?_⟩
    · refine List.pairwise_append.2 ⟨h.sublist (List.take_sublist k l), List.pairwise_cons.2 ⟨hne, h.sublist (List.drop_sublist k l)⟩, fun x hx y hy => ?_⟩
      rcases List.mem_cons.1 hy with rfl | hy
      · exact hlt x hx
      · exact str_lt_trans (hlt x hx) (hne y hy)
    · rw [List.mem_append, List.mem_cons]
      conv => rhs; rw [← List.take_append_drop k l, List.mem_append]
      constructor
      · rintro (h | h | h)
        · exact .inl (.inl h)
        · exact .inr h
        · exact .inl (.inr h)
      · rintro ((h | h) | h)
        · exact .inl h
        · exact .inr (.inr h)
        · exact .inr (.inl h)
theorem foldl_props : ∀ (l a : List Str), a.Pairwise (· < ·) → (l.foldl withL a).Pairwise (· < ·) ∧ ∀ x, x ∈ l.foldl withL a ↔ x ∈ a ∨ x ∈ l
  | [], a, h => ⟨h, fun x => by simp⟩
  | y :: l, a, h => by
    obtain ⟨h1, h2⟩ := with_props (s := y) h
    obtain ⟨h3, h4⟩ := foldl_props l (withL a y) h1
    refine ⟨h3, fun x => ?_⟩
    rw [List.foldl_cons, h4, h2, List.mem_cons]
    constructor
    · rintro ((h | h) | h)
      · exact .inl h
      · exact .inr (.inl h)
      · exact .inr (.inr h)
    · rintro (h | h | h)
      · exact .inl (.inl h)
      · exact .inl (.inr h)
      · exact .inr h
theorem withAll_uniq (l : List Str) : withAll l = uniq l := by
  obtain ⟨h1, h2⟩ := foldl_props l [] List.Pairwise.nil
  refine rising_eq h1 (uniq_props l).1 fun x => ?_
  rw [(uniq_props l).2]
  have := h2 x
  simpa [withAll] using this
theorem setsR_eq (l : List Ev) (key : ByteArray) (n : Int) : setsR l key n l = setsB key n (countingB l (livingB l)) := by
  unfold setsR setsB countingB
  rw [List.filter_filter]
  refine List.filter_congr fun x _ => ?_
  unfold inP
  cases countB l (livingB l) x <;> cases ofK key n x <;> cases decide (x.k = 3) <;> rfl
theorem addsR_eq (l : List Ev) (key : ByteArray) (n : Int) : addsR l key n l = addsB key n (countingB l (livingB l)) := by
  unfold addsR addsB countingB
  rw [List.filter_filter]
  refine List.filter_congr fun x _ => ?_
  unfold inP
  cases countB l (livingB l) x <;> cases ofK key n x <;> cases decide (x.k = 3) <;> rfl
theorem ofR_eq (l : List Ev) : ofR l = ofB l := by
  have h1 : keysR l l = keysB l := withAll_uniq _
  have h2 : ∀ key, contactR l key = contactB key (countingB l (livingB l)) := fun key => by
    have hv : ∀ n, valsR l key n l = valsF (addsB key n (countingB l (livingB l))) := fun n => by rw [valsR, addsR_eq, withAll_uniq]; rfl
    unfold contactR contactB
    rw [setsR_eq, setsR_eq, hv, hv]
  unfold ofR ofB
  rw [h1]
  exact List.map_congr_left fun k _ => h2 _

/-! ### How much there is to keep -/
def keptP (l : List Ev) (e : Ev) : Bool := livesB l e || (countB l (livingB l) e && !laterB l e)
def sizeR (l w : List Ev) : Nat := (w.filter (keptP l)).length
theorem filter_two {p q r : Ev → Bool} (hd : ∀ e, p e = true → q e = false) : ∀ l : List Ev, (l.filter fun e => p e || (q e && r e)).length = (l.filter p).length + ((l.filter q).filter r).length
  | [] => rfl
  | x :: l => by
    have ih := filter_two (p := p) (q := q) (r := r) hd l
    rw [List.filter_cons, List.filter_cons, List.filter_cons]
    cases hp : p x with
    | true => simp [hd x hp, ih]; omega
    | false =>
      cases hq : q x with
      | false => simp [ih]
      | true =>
        simp only [Bool.false_or, Bool.true_and, if_true, Bool.false_eq_true, if_false]
        rw [List.filter_cons]
        cases r x <;> simp [ih] <;> omega
theorem sizeR_eq (l : List Ev) : sizeR l l = sizeB l := by
  have hd : ∀ e, livesB l e = true → countB l (livingB l) e = false := fun e he => by
    have he : e.k = 1 := by
      simp only [livesB, Bool.and_eq_true, decide_eq_true_eq] at he
      exact he.1
    simp [countB, he]
  exact filter_two (r := fun e => !laterB l e) hd l

set_option maxHeartbeats 8000000 in
set_option maxRecDepth 100000 in
theorem sizeR_spec (l : List Ev) (hl : l.length ≤ 1000000000) :
    ASpec Try.prog 20 [.sl 12 l.length true (evF l)] (.v (.int .i64 (sizeR l l : Int))) [] := by
  refine aspec_of lay_ok 274877909245 Try.func20 rfl rfl rfl ?_
  repeat' ((conv => whnf); first | refine Spl.yes (by first | assumption | omega) ?_ | refine Spl.no (by first | assumption | omega) ?_ | refine Wr.i64 (by omega) (by omega) ?_ | refine Still.mk rfl rfl ?_ | refine InB.mk (inB_mk (by omega) (by omega)) ?_ | refine Req.mk (by omega) ?_ | refine Req.mk ⟨by first | omega | (dsimp only; omega), by first | omega | (dsimp only; omega)⟩ ?_ | refine ARet.hdI ?_ | refine Spl.mk (fun _ => ?_) (fun _ => ?_) | refine Wr.b64 ?_ | refine Wr.bu64 ?_ | refine Wr.bu32 ?_ | refine Wr.bu8 ?_ | refine Wr.u8 (by omega) (by omega) ?_ | refine Wr.u64 (by omega) (by omega) ?_ | refine Wr.u32 (by omega) (by omega) ?_ | refine Dv.pos (by omega) (by omega) ?_ | refine Rm.pos (by omega) (by omega) ?_ | refine ADraw.quiet follows_ok (by kernel_rfl) rfl ?_ | refine BSpl.decY (by first | assumption | omega) ?_ | refine BSpl.decN (by first | assumption | omega) ?_ | refine BSpl.dec (fun _ => ?_) (fun _ => ?_) | refine BSpl.yes (by assumption) ?_ | refine BSpl.no (by assumption) ?_ | refine BSpl.mk (fun _ => ?_) (fun _ => ?_))
  conv => whnf
  refine ALoop.mk { j : Nat // j ≤ l.length } (fun j => ⟨[(0, .sl 12 l.length true (evF l)), (3, .v (.int .i64 (sizeR l (l.take j.1) : Int))), (4, .v (.int .i64 (j.1 : Int)))], [], [], 0⟩) (fun j => l.length - j.1) ⟨0, Nat.zero_le _⟩ _
    (LeR.mk' [] _ _ _ rfl ⟨AEq.refl _, AEq.int rfl, AEq.int rfl, trivial⟩ trivial rfl) ?_
  rintro ⟨j, hj⟩
  dsimp only
  have hkl : sizeR l (l.take j) ≤ j := by
    have := List.length_filter_le (keptP l) (l.take j)
    rw [List.length_take] at this
    unfold sizeR
    omega
  by_cases hjl : j < l.length
  · have hft : sizeR l (l.take (j + 1)) = sizeR l (l.take j) + (if keptP l (l.getD (j : Int).toNat default) = true then 1 else 0) := filter_takeN hjl
    have hv := livesR_spec l (l.getD (j : Int).toNat default) hl
    have hc := countsR_spec l (l.getD (j : Int).toNat default) hl
    have ha := aboveR_spec l (l.getD (j : Int).toNat default) (l.getD (j : Int).toNat default).k true (decide ((l.getD (j : Int).toNat default).k = 4)) hl
    have hla : abvB l (l.getD (j : Int).toNat default) (l.getD (j : Int).toNat default).k true (decide ((l.getD (j : Int).toNat default).k = 4)) = laterB l (l.getD (j : Int).toNat default) := by
      unfold laterB
      split
      · rename_i h
        rw [decide_eq_true h, abv_V]
      · rename_i h
        rw [decide_eq_false h, abv_L]
    rw [hla] at ha
    have hkp : keptP l (l.getD (j : Int).toNat default) = (livesB l (l.getD (j : Int).toNat default) || (countB l (livingB l) (l.getD (j : Int).toNat default) && !laterB l (l.getD (j : Int).toNat default))) := rfl
    rw [hkp] at hft
    generalize livesB l (l.getD (j : Int).toNat default) = q1 at *
    generalize countB l (livingB l) (l.getD (j : Int).toNat default) = q2 at *
    generalize laterB l (l.getD (j : Int).toNat default) = q3 at *
    clear hkp hla
    have t1 : q1 = true → ((sizeR l (l.take j) : Nat) : Int) + 1 = ((sizeR l (l.take (j + 1)) : Nat) : Int) := fun h => by rw [hft, h]; rfl
    have t2 : q2 = true → q3 = false → ((sizeR l (l.take j) : Nat) : Int) + 1 = ((sizeR l (l.take (j + 1)) : Nat) : Int) := fun h h' => by rw [hft, h, h']; simp
    have t3 : q1 = false → q2 = false → ((sizeR l (l.take j) : Nat) : Int) = ((sizeR l (l.take (j + 1)) : Nat) : Int) := fun h h' => by rw [hft, h, h']; rfl
    have t4 : q1 = false → q3 = true → ((sizeR l (l.take j) : Nat) : Int) = ((sizeR l (l.take (j + 1)) : Nat) : Int) := fun h h' => by rw [hft, h, h']; simp
    clear hft
    by_cases h4 : (l.getD (j : Int).toNat default).k = 4
    · rw [decide_eq_true h4] at ha
      dsimp only [Ev.av, Ev.cs] at hv hc ha ⊢
      repeat' ((conv => whnf); first | refine Spl.yes (by first | assumption | omega) ?_ | refine Spl.no (by first | assumption | omega) ?_ | refine Wr.i64 (by omega) (by omega) ?_ | refine Still.mk rfl rfl ?_ | refine InB.mk (inB_mk (by omega) (by omega)) ?_ | refine Req.mk (by omega) ?_ | refine Req.mk ⟨by first | omega | (dsimp only; omega), by first | omega | (dsimp only; omega)⟩ ?_ | refine ACall.plain _ _ (hv) (SubL.cons (.eq _) (SubL.cons (.eq _) .nil)) rfl ?_ | refine ACall.plain _ _ (hc) (SubL.cons (.eq _) (SubL.cons (.eq _) .nil)) rfl ?_ | refine ACall.plain _ _ (ha) (SubL.cons (.eq _) (SubL.cons (.eq _) (SubL.cons (.eq _) (SubL.cons (.eq _) (SubL.cons (.eq _) .nil))))) rfl ?_ | refine ARet.hdI ?_ | refine Spl.mk (fun _ => ?_) (fun _ => ?_) | refine Wr.b64 ?_ | refine Wr.bu64 ?_ | refine Wr.bu32 ?_ | refine Wr.bu8 ?_ | refine Wr.u8 (by omega) (by omega) ?_ | refine Wr.u64 (by omega) (by omega) ?_ | refine Wr.u32 (by omega) (by omega) ?_ | refine Dv.pos (by omega) (by omega) ?_ | refine Rm.pos (by omega) (by omega) ?_ | refine ADraw.quiet follows_ok (by kernel_rfl) rfl ?_ | refine BSpl.decY (by first | assumption | omega) ?_ | refine BSpl.decN (by first | assumption | omega) ?_ | refine BSpl.dec (fun _ => ?_) (fun _ => ?_) | refine BSpl.yes (by assumption) ?_ | refine BSpl.no (by assumption) ?_ | refine BSpl.mk (fun _ => ?_) (fun _ => ?_))
      all_goals (conv => whnf)
      all_goals exact ⟨⟨j + 1, hjl⟩, _, LeR.mk' [] _ _ _ rfl ⟨AEq.refl _, AEq.int (by first | exact t1 (by assumption) | exact t2 (by assumption) (by assumption) | exact t3 (by assumption) (by assumption) | exact t4 (by assumption) (by assumption)), AEq.int rfl, trivial⟩ trivial rfl, Nat.sub_succ_lt_self _ _ hjl⟩
    · rw [decide_eq_false h4] at ha
      dsimp only [Ev.av, Ev.cs] at hv hc ha ⊢
      repeat' ((conv => whnf); first | refine Spl.yes (by first | assumption | omega) ?_ | refine Spl.no (by first | assumption | omega) ?_ | refine Wr.i64 (by omega) (by omega) ?_ | refine Still.mk rfl rfl ?_ | refine InB.mk (inB_mk (by omega) (by omega)) ?_ | refine Req.mk (by omega) ?_ | refine Req.mk ⟨by first | omega | (dsimp only; omega), by first | omega | (dsimp only; omega)⟩ ?_ | refine ACall.plain _ _ (hv) (SubL.cons (.eq _) (SubL.cons (.eq _) .nil)) rfl ?_ | refine ACall.plain _ _ (hc) (SubL.cons (.eq _) (SubL.cons (.eq _) .nil)) rfl ?_ | refine ACall.plain _ _ (ha) (SubL.cons (.eq _) (SubL.cons (.eq _) (SubL.cons (.eq _) (SubL.cons (.eq _) (SubL.cons (.eq _) .nil))))) rfl ?_ | refine ARet.hdI ?_ | refine Spl.mk (fun _ => ?_) (fun _ => ?_) | refine Wr.b64 ?_ | refine Wr.bu64 ?_ | refine Wr.bu32 ?_ | refine Wr.bu8 ?_ | refine Wr.u8 (by omega) (by omega) ?_ | refine Wr.u64 (by omega) (by omega) ?_ | refine Wr.u32 (by omega) (by omega) ?_ | refine Dv.pos (by omega) (by omega) ?_ | refine Rm.pos (by omega) (by omega) ?_ | refine ADraw.quiet follows_ok (by kernel_rfl) rfl ?_ | refine BSpl.decY (by first | assumption | omega) ?_ | refine BSpl.decN (by first | assumption | omega) ?_ | refine BSpl.dec (fun _ => ?_) (fun _ => ?_) | refine BSpl.yes (by assumption) ?_ | refine BSpl.no (by assumption) ?_ | refine BSpl.mk (fun _ => ?_) (fun _ => ?_))
      all_goals (conv => whnf)
      all_goals exact ⟨⟨j + 1, hjl⟩, _, LeR.mk' [] _ _ _ rfl ⟨AEq.refl _, AEq.int (by first | exact t1 (by assumption) | exact t2 (by assumption) (by assumption) | exact t3 (by assumption) (by assumption) | exact t4 (by assumption) (by assumption)), AEq.int rfl, trivial⟩ trivial rfl, Nat.sub_succ_lt_self _ _ hjl⟩
  · rw [List.take_of_length_le (show l.length ≤ j by omega)]
    repeat' ((conv => whnf); first | refine Spl.yes (by first | assumption | omega) ?_ | refine Spl.no (by first | assumption | omega) ?_ | refine Wr.i64 (by omega) (by omega) ?_ | refine Still.mk rfl rfl ?_ | refine InB.mk (inB_mk (by omega) (by omega)) ?_ | refine Req.mk (by omega) ?_ | refine Req.mk ⟨by first | omega | (dsimp only; omega), by first | omega | (dsimp only; omega)⟩ ?_ | refine ARet.hdI ?_ | refine Spl.mk (fun _ => ?_) (fun _ => ?_) | refine Wr.b64 ?_ | refine Wr.bu64 ?_ | refine Wr.bu32 ?_ | refine Wr.bu8 ?_ | refine Wr.u8 (by omega) (by omega) ?_ | refine Wr.u64 (by omega) (by omega) ?_ | refine Wr.u32 (by omega) (by omega) ?_ | refine Dv.pos (by omega) (by omega) ?_ | refine Rm.pos (by omega) (by omega) ?_ | refine ADraw.quiet follows_ok (by kernel_rfl) rfl ?_ | refine BSpl.decY (by first | assumption | omega) ?_ | refine BSpl.decN (by first | assumption | omega) ?_ | refine BSpl.dec (fun _ => ?_) (fun _ => ?_) | refine BSpl.yes (by assumption) ?_ | refine BSpl.no (by assumption) ?_ | refine BSpl.mk (fun _ => ?_) (fun _ => ?_))
    conv => whnf
    exact AEqI.mk (AEq.refl _)
end Go.Proofs.Ytihjfndkgmjanaa
