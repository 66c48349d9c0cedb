/-
  Contracts of the walk: Ps1, Ap1, BkLp, Ps2, Wo, La1, Lv1, Lv2.
-/
import Derived.Test.YtimhagicagdkfaaGreatNdX10
import Derived.Test.YtimhagicagdkfaaGreatNdX8
import Derived.Test.YtimhagicagdkfaaGreatNdX9
/-
 Plain Lean: what pasts that were made are like.
-/
namespace Go.Proofs.YtimhagicagdkfaaGreat
open Go.RowKit
theorem get_at (c : Clk) : ∀ {r : Nat},r < 5 → c.get (r : Int) = c.at r
  | 0,_ => rfl
  | 1,_ => rfl
  | 2,_ => rfl
  | 3,_ => rfl
  | 4,_ => rfl
  | _ + 5,h => by omega
theorem has_at {c : Clk} {r : Nat} (h : r < 5) {n : Int} : hasB c (r : Int) n = true ↔ 1 ≤ n ∧ n ≤ c.at r := by
 unfold hasB
 rw [decide_eq_true_eq,get_at c h]
 omega
theorem join_at (a b : Clk) : ∀ r,(a.join b).at r = mxI (a.at r) (b.at r)
  | 0 => rfl
  | 1 => rfl
  | 2 => rfl
  | 3 => rfl
  | _ + 4 => rfl
theorem inc_at (c : Clk) : ∀ {r q : Nat},r < 5 → q < 5 → (c.inc r).at q = if q = r then c.at q + 1 else c.at q := by
 intro r q hr hq
 obtain rfl | rfl | rfl | rfl | rfl : r = 0 ∨ r = 1 ∨ r = 2 ∨ r = 3 ∨ r = 4 := by omega
 all_goals (obtain rfl | rfl | rfl | rfl | rfl : q = 0 ∨ q = 1 ∨ q = 2 ∨ q = 3 ∨ q = 4 := by omega)
 all_goals rfl
theorem le_at {a b : Clk} : a.le b = true ↔ ∀ r,r < 5 → a.at r ≤ b.at r := by
 unfold Clk.le
 rw [decide_eq_true_eq]
 constructor
 · rintro ⟨h0,h1,h2,h3,h4⟩ r hr
   obtain rfl | rfl | rfl | rfl | rfl : r = 0 ∨ r = 1 ∨ r = 2 ∨ r = 3 ∨ r = 4 := by omega
   all_goals assumption
 · intro h
   exact ⟨h 0 (by omega),h 1 (by omega),h 2 (by omega),h 3 (by omega),h 4 (by omega)⟩
theorem setC_at {H : Nat → Clk} {r q : Nat} {c : Clk} : setC H r c q = if q = r then c else H q := by
 unfold setC
 by_cases h : q = r
 · rw [if_pos h,h,Nat.beq_refl]; rfl
 · rw [if_neg h,show Nat.beq q r = false from by rw [Bool.eq_false_iff]; intro e; exact h (Nat.eq_of_beq_eq_true e)]; rfl
theorem mx_le {a b c : Int} (h : a ≤ c) (k : b ≤ c) : mxI a b ≤ c := by unfold mxI; split <;> omega
theorem mx_l (a b : Int) : a ≤ mxI a b := by unfold mxI; split <;> omega
theorem mx_r (a b : Int) : b ≤ mxI a b := by unfold mxI; split <;> omega
theorem hStep_ge {c : Clk} : ∀ (l : List Ev) (s : Int × Bool),s.2 = true → s.1 ≤ (l.foldl (hStep c) s).1 ∧ (l.foldl (hStep c) s).2 = true
  | [],s,h => ⟨Int.le_refl _,h⟩
  | e :: l,s,h => by
    rw [List.foldl_cons]
    by_cases k : (hasB c e.r e.n && (!s.2 || decide (s.1 < e.h))) = true
    · have e1 : hStep c s e = (e.h,true) := if_pos k
      rw [e1]
      have := hStep_ge (c := c) l (e.h,true) rfl
      simp only [h,Bool.not_true,Bool.false_or,Bool.and_eq_true,decide_eq_true_eq] at k
      exact ⟨by have := this.1; simp only at this; omega,this.2⟩
    · have e1 : hStep c s e = s := if_neg k
      rw [e1]
      exact hStep_ge l s h
theorem hgt_gt {c : Clk} {e : Ev} : ∀ (l : List Ev) (s : Int × Bool),e ∈ l → hasB c e.r e.n = true → e.h ≤ (l.foldl (hStep c) s).1
  | [],_,h,_ => by cases h
  | x :: l,s,h,hh => by
    rw [List.foldl_cons]
    rcases List.mem_cons.1 h with rfl | h
    · by_cases k : (hasB c e.r e.n && (!s.2 || decide (s.1 < e.h))) = true
      · have e1 : hStep c s e = (e.h,true) := if_pos k
        rw [e1]
        exact (hStep_ge (c := c) l (e.h,true) rfl).1
      · have e1 : hStep c s e = s := if_neg k
        rw [e1]
        have k' : s.2 = true ∧ e.h ≤ s.1 := by
         rw [hh] at k
         simp only [Bool.true_and,Bool.or_eq_true,Bool.not_eq_true',decide_eq_true_eq,not_or,Bool.not_eq_false,Int.not_lt] at k
         exact k
        have := (hStep_ge (c := c) l s k'.1).1
        omega
    · exact hgt_gt l _ h hh
theorem hgt_lt {c : Clk} {l : List Ev} {e : Ev} (he : e ∈ l) (hh : hasB c e.r e.n = true) : e.h < hgt l c := by
 have := hgt_gt l (0,false) he hh
 unfold hgt hgtF
 omega
structure Fine (e : Ev) : Prop where
 k : 1 ≤ e.k ∧ e.k ≤ 5
 key : e.key.size ≤ 3
 l : e.l = 0 ∨ e.l = 1
 v : e.v.size ≤ 12
structure Inv (T : List Ev) (H : Nat → Clk) : Prop where
 ev : ∀ e ∈ T,∃ r : Nat,r < 5 ∧ e.r = (r : Int) ∧ 1 ≤ e.n ∧ e.n ≤ (H r).at r ∧ e.c.at r = e.n - 1
 ge : ∀ q : Nat,q < 5 → ∀ r : Nat,r < 5 → 0 ≤ (H q).at r ∧ (H q).at r ≤ (H r).at r
 all : ∀ r : Nat,r < 5 → ∀ n : Int,1 ≤ n → n ≤ (H r).at r → ∃ e ∈ T,e.r = (r : Int) ∧ e.n = n
 clo : ∀ q : Nat,q < 5 → ∀ e ∈ T,hasB (H q) e.r e.n = true → ∀ r : Nat,r < 5 → e.c.at r ≤ (H q).at r
 own : ∀ e ∈ T,∀ r : Nat,r < 5 → 0 ≤ e.c.at r ∧ e.c.at r ≤ (H r).at r
 dis : T.Pairwise fun a b => ¬ (a.r = b.r ∧ a.n = b.n)
 ord : T.Pairwise fun a b => belowB b a = false
 hgt : ∀ a ∈ T,∀ b ∈ T,belowB a b = true → a.h < b.h
 pre : ∀ T1 e T2,T = T1 ++ e :: T2 → ∀ r : Nat,r < 5 → ∀ n : Int,1 ≤ n → n ≤ e.c.at r → ∃ x ∈ T1,x.r = (r : Int) ∧ x.n = n
 fine : ∀ e ∈ T,Fine e
theorem Inv.nil : Inv [] (fun _ => clk0) := by
 have h0 : ∀ r,clk0.at r = 0 := fun r => match r with | 0 => rfl | 1 => rfl | 2 => rfl | 3 => rfl | _ + 4 => rfl
 exact ⟨fun e h => (by cases h),fun q _ r _ => ⟨by rw [h0]; omega,by omega⟩,fun r _ n h1 h2 => by rw [h0] at h2; omega,fun _ _ e h => (by cases h),fun e h => (by cases h), .nil, .nil,fun a h => (by cases h),fun T1 e T2 h => (by simp at h),fun e h => (by cases h)⟩
section
variable {T : List Ev} {H : Nat → Clk}
theorem Inv.sync (h : Inv T H) {r f : Nat} (hr : r < 5) (hf : f < 5) : Inv T (setC H r ((H r).join (H f))) := by
 have hj : ∀ q,(setC H r ((H r).join (H f)) q) = if q = r then (H r).join (H f) else H q := fun q => setC_at
 have dg : ∀ q,q < 5 → (setC H r ((H r).join (H f)) q).at q = (H q).at q := fun q hq => by
  rw [hj]
  split
  · rename_i e
    subst e
    rw [join_at]
    have := (h.ge f hf q hq).2
    unfold mxI
    split <;> omega
  · rfl
 refine ⟨fun e he => ?_,fun q hq p hp => ?_,fun p hp n h1 h2 => ?_,fun q hq e he hh p hp => ?_,fun e he p hp => ?_,h.dis,h.ord,h.hgt,h.pre,h.fine⟩
 · obtain ⟨p,h1,h2,h3,h4,h5⟩ := h.ev e he
   exact ⟨p,h1,h2,h3,by rw [dg p h1]; exact h4,h5⟩
 · rw [dg p hp,hj]
   split
   · rw [join_at]
     have a := h.ge r hr p hp
     have b := h.ge f hf p hp
     have := mx_l ((H r).at p) ((H f).at p)
     exact ⟨by omega,mx_le a.2 b.2⟩
   · exact h.ge q hq p hp
 · rw [dg p hp] at h2
   exact h.all p hp n h1 h2
 · rw [hj] at hh ⊢
   split
   · rename_i e1
     rw [if_pos e1] at hh
     obtain ⟨p',h1,h2,h3,h4,h5⟩ := h.ev e he
     rw [h2] at hh
     rw [has_at h1,join_at] at hh
     rw [join_at]
     have ml := mx_l ((H r).at p) ((H f).at p)
     have mr := mx_r ((H r).at p) ((H f).at p)
     rcases (show e.n ≤ (H r).at p' ∨ e.n ≤ (H f).at p' by have := hh.2; unfold mxI at this; split at this <;> omega) with k | k
     · have := h.clo r hr e he (by rw [h2]; exact (has_at h1).2 ⟨hh.1,k⟩) p hp
       omega
     · have := h.clo f hf e he (by rw [h2]; exact (has_at h1).2 ⟨hh.1,k⟩) p hp
       omega
   · rename_i e1
     rw [if_neg e1] at hh
     exact h.clo q hq e he hh p hp
 · rw [dg p hp]
   exact h.own e he p hp
theorem Inv.edit (h : Inv T H) {r : Nat} (hr : r < 5) {x : Ed} (hx : ∀ (rr n : Int) (c : Clk) (hh : Int),Fine ⟨rr,n,c,hh,x.k,x.key,x.l,x.v⟩) : Inv (T ++ [mkEvt T H r x]) (setC H r ((H r).inc r)) := by
 have hj : ∀ q,(setC H r ((H r).inc r) q) = if q = r then (H r).inc r else H q := fun q => setC_at
 have dg : ∀ q,q < 5 → (setC H r ((H r).inc r) q).at q = if q = r then (H q).at q + 1 else (H q).at q := fun q hq => by
  rw [hj]
  split
  · rename_i e
    subst e
    rw [inc_at _ hr hr,if_pos rfl]
  · rfl
 have dle : ∀ q,q < 5 → (H q).at q ≤ (setC H r ((H r).inc r) q).at q := fun q hq => by rw [dg q hq]; split <;> omega
 have er : (mkEvt T H r x).r = (r : Int) := rfl
 have en : (mkEvt T H r x).n = (H r).at r + 1 := rfl
 have ec : (mkEvt T H r x).c = H r := rfl
 have eh : (mkEvt T H r x).h = Go.Proofs.YtimhagicagdkfaaGreat.hgt T (H r) := rfl
 have ef : Fine (mkEvt T H r x) := hx _ _ _ _
 generalize mkEvt T H r x = y at *
 have nb : ∀ b ∈ T,belowB y b = false := fun b hb => by
  unfold belowB
  rw [er,Bool.eq_false_iff]
  intro k
  rw [has_at hr] at k
  have := (h.own b hb r hr).2
  omega
 have ny : belowB y y = false := by
  unfold belowB
  rw [er,Bool.eq_false_iff]
  intro k
  rw [has_at hr,ec] at k
  omega
 refine ⟨fun e he => ?_,fun q hq p hp => ?_,fun p hp n h1 h2 => ?_,fun q hq e he hh p hp => ?_,fun e he p hp => ?_,?_,?_,fun a ha b hb hab => ?_,fun T1 e T2 e0 p hp n h1 h2 => ?_,fun e he => ?_⟩
 · rcases List.mem_append.1 he with he | he
   · obtain ⟨p,h1,h2,h3,h4,h5⟩ := h.ev e he
     exact ⟨p,h1,h2,h3,by have := dle p h1; omega,h5⟩
   · rw [List.mem_singleton.1 he]
     refine ⟨r,hr,er,by rw [en]; have := (h.ge r hr r hr).1; omega,by rw [en,dg r hr,if_pos rfl]; omega,by rw [ec,en]; omega⟩
 · have := dle p hp
   have a := h.ge q hq p hp
   rw [hj]
   split
   · rename_i e
     subst e
     rw [inc_at _ hr hp]
     rw [dg p hp] at *
     split <;> omega
   · omega
 · by_cases e : p = r
   · subst e
     rw [dg p hp,if_pos rfl] at h2
     by_cases k : n ≤ (H p).at p
     · obtain ⟨e,he,h3⟩ := h.all p hp n h1 k
       exact ⟨e,List.mem_append.2 (.inl he),h3⟩
     · exact ⟨y,List.mem_append.2 (.inr (List.mem_singleton.2 rfl)),er,by rw [en]; omega⟩
   · rw [dg p hp,if_neg e] at h2
     obtain ⟨e,he,h3⟩ := h.all p hp n h1 h2
     exact ⟨e,List.mem_append.2 (.inl he),h3⟩
 · rw [hj] at hh ⊢
   rcases List.mem_append.1 he with he | he
   · obtain ⟨p',k1,k2,k3,k4,k5⟩ := h.ev e he
     by_cases e1 : q = r
     · rw [if_pos e1] at hh ⊢
       rw [k2,has_at k1,inc_at _ hr k1] at hh
       rw [inc_at _ hr hp]
       have hk : hasB (H r) e.r e.n = true := by
        rw [k2]
        refine (has_at k1).2 ⟨k3,?_⟩
        by_cases e2 : p' = r
        · subst e2; omega
        · rw [if_neg e2] at hh; exact hh.2
       have := h.clo r hr e he hk p hp
       split <;> omega
     · rw [if_neg e1] at hh ⊢
       exact h.clo q hq e he hh p hp
   · rw [List.mem_singleton.1 he] at hh ⊢
     rw [er,has_at hr,en] at hh
     by_cases e1 : q = r
     · rw [if_pos e1,ec,inc_at _ hr hp]
       split <;> omega
     · rw [if_neg e1] at hh
       have := (h.ge q hq r hr).2
       omega
 · rcases List.mem_append.1 he with he | he
   · have := h.own e he p hp
     have := dle p hp
     omega
   · rw [List.mem_singleton.1 he,ec]
     have := h.ge r hr p hp
     have := dle p hp
     omega
 · refine List.pairwise_append.2 ⟨h.dis,List.pairwise_singleton _ _,fun a ha b hb => ?_⟩
   rw [List.mem_singleton.1 hb]
   rintro ⟨k1,k2⟩
   obtain ⟨p,h1,h2,h3,h4,h5⟩ := h.ev a ha
   rw [er,h2] at k1
   have : p = r := by omega
   subst this
   omega
 · refine List.pairwise_append.2 ⟨h.ord,List.pairwise_singleton _ _,fun a ha b hb => ?_⟩
   rw [List.mem_singleton.1 hb]
   exact nb a ha
 · rcases List.mem_append.1 ha with ha | ha
   · rcases List.mem_append.1 hb with hb | hb
     · exact h.hgt a ha b hb hab
     · rw [List.mem_singleton.1 hb] at hab ⊢
       rw [eh]
       unfold belowB at hab
       rw [ec] at hab
       exact hgt_lt ha hab
   · rw [List.mem_singleton.1 ha] at hab
     rcases List.mem_append.1 hb with hb | hb
     · rw [nb b hb] at hab; cases hab
     · rw [List.mem_singleton.1 hb,ny] at hab; cases hab
 · rcases List.append_eq_append_iff.1 e0 with ⟨us,e1,e2⟩ | ⟨bs,e1,e2⟩
   · cases us with
     | nil =>
       simp only [List.nil_append,List.cons.injEq] at e2
       rw [List.append_nil] at e1
       subst e1
       rw [← e2.1,ec] at h2
       have := (h.ge r hr p hp).2
       exact h.all p hp n h1 (by omega)
     | cons a us =>
       simp only [List.cons_append,List.cons.injEq] at e2
       exact absurd e2.2.symm (by simp)
   · cases bs with
     | nil =>
       simp only [List.nil_append,List.cons.injEq] at e2
       rw [List.append_nil] at e1
       subst e1
       rw [e2.1,ec] at h2
       have := (h.ge r hr p hp).2
       exact h.all p hp n h1 (by omega)
     | cons b bs =>
       simp only [List.cons_append,List.cons.injEq] at e2
       obtain ⟨rfl, -⟩ := e2
       exact h.pre T1 e bs e1 p hp n h1 h2
 · rcases List.mem_append.1 he with he | he
   · exact h.fine e he
   · rw [List.mem_singleton.1 he]
     exact ef
end
theorem fit_fine (x : Ed) (rr n : Int) (c : Clk) (hh : Int) : Fine ⟨rr,n,c,hh,(fitEd x).k,(fitEd x).key,(fitEd x).l,(fitEd x).v⟩ := by
 have h5 : 0 ≤ m5 x.k ∧ m5 x.k ≤ 4 := by
  unfold m5
  have := tmod5 x.k
  omega
 have hk : (ks3 (sumB x.key.data.toList)).size ≤ 3 := by unfold ks3; split; exact Nat.le_refl 3; split; exact Nat.le_refl 3; exact (show 2 ≤ 3 by omega)
 have hv : (vs4 (sumB x.v.data.toList)).size ≤ 12 := by
  unfold vs4
  split
  · exact (show 1 ≤ 12 by omega)
  · split
    · exact (show 3 ≤ 12 by omega)
    · split
      · exact (show 2 ≤ 12 by omega)
      · exact Nat.le_refl 12
 have hl := andI_1 x.l
 unfold fitEd
 split
 · exact ⟨⟨by simp only; omega,by simp only; omega⟩,hk,by simp only; omega,hv⟩
 · exact ⟨⟨by simp only; omega,by simp only; omega⟩,hk, .inl rfl,Nat.zero_le _⟩
theorem mod_five {x : Int} : (x % 5).toNat < 5 := by omega
theorem Inv.step {T : List Ev} {H : Nat → Clk} (h : Inv T H) (c : Ch0) : Inv (mkStep (T,H) c).1 (mkStep (T,H) c).2 := by
 unfold mkStep
 split
 · exact h.sync mod_five mod_five
 · exact h.edit mod_five (fit_fine _)
end Go.Proofs.YtimhagicagdkfaaGreat

/-
 Plain Lean: what was done with some contacts does not matter to the others.
-/
namespace Go.Proofs.YtimhagicagdkfaaGreat
open Go.RowKit
def onP (p : ByteArray → Bool) (l : List Ev) : List Ev := l.filter fun x => p x.key
theorem any_on {α : Type} {q f : α → Bool} {l : List α} (h : ∀ x ∈ l,f x = true → q x = true) : (l.filter q).any f = l.any f := by
 rw [List.any_filter]
 refine any_congr fun x hx => ?_
 cases hf : f x with
 | false => simp
 | true => simp [h x hx hf]
theorem sameK_key {a b : Ev} (h : sameK a b = true) : a.key = b.key := of_decide_eq_true h
theorem sameL_key {a b : Ev} (h : sameL a b = true) : a.key = b.key := by
 simp only [sameL,Bool.and_eq_true] at h
 exact sameK_key h.1
theorem sameV_key {a b : Ev} (h : sameV a b = true) : a.key = b.key := by
 simp only [sameV,Bool.and_eq_true] at h
 exact sameL_key h.1
section
variable {p : ByteArray → Bool} {l : List Ev} {e : Ev}
theorem above_on {k : Int} {same : Ev → Ev → Bool} (hs : ∀ a b,same a b = true → a.key = b.key) (he : p e.key = true) : aboveB k same (onP p l) e = aboveB k same l e :=
 any_on fun x _ h => by
  simp only [Bool.and_eq_true] at h
  rw [hs _ _ h.2.1]
  exact he
theorem under_on {k : Int} {same : Ev → Ev → Bool} (hs : ∀ a b,same a b = true → a.key = b.key) (he : p e.key = true) : underB k same (onP p l) e = underB k same l e :=
 any_on fun x _ h => by
  simp only [Bool.and_eq_true] at h
  rw [hs _ _ h.2.1]
  exact he
theorem lives_on (he : p e.key = true) : livesB (onP p l) e = livesB l e := by unfold livesB; rw [above_on (fun _ _ => sameK_key) he]
theorem living_on : livingB (onP p l) = onP p (livingB l) := by
 unfold livingB onP
 rw [List.filter_filter,List.filter_filter]
 refine List.filter_congr fun x _ => ?_
 cases h : p x.key with
 | false => simp
 | true =>
   have h2 : livesB (l.filter fun x => p x.key) x = livesB l x := lives_on h
   rw [h2,Bool.and_comm]
theorem count_on (he : p e.key = true) : countB (onP p l) (livingB (onP p l)) e = countB l (livingB l) e := by
 unfold countB
 rw [living_on,above_on (fun _ _ => sameV_key) he,under_on (fun _ _ => sameK_key) he]
theorem counting_on : countingB (onP p l) (livingB (onP p l)) = onP p (countingB l (livingB l)) := by
 have h : ∀ e,p e.key = true → countB (onP p l) (livingB (onP p l)) e = countB l (livingB l) e := fun e he => count_on he
 unfold countingB
 generalize countB (onP p l) (livingB (onP p l)) = f at h
 unfold onP
 rw [List.filter_filter,List.filter_filter]
 refine List.filter_congr fun x _ => ?_
 cases hp : p x.key with
 | false => simp
 | true => rw [h x hp,Bool.and_comm]
theorem later_on (he : p e.key = true) : laterB (onP p l) e = laterB l e := by
 unfold laterB
 split
 · exact above_on (fun _ _ => sameV_key) he
 · exact above_on (fun _ _ => sameL_key) he
theorem arrS (b : ByteArray) : (⟨(strL b).toArray⟩ : ByteArray) = b := by obtain ⟨a⟩ := b; simp [strL]
theorem filter_on {key : ByteArray} {ws : List Ev} {f : Ev → Bool} (hk : p key = true) (hf : ∀ e,f e = true → e.key = key) : (onP p ws).filter f = ws.filter f := by
 unfold onP
 rw [List.filter_filter]
 refine List.filter_congr fun x _ => ?_
 cases h : f x with
 | false => simp
 | true => rw [hf x h,hk]; rfl
theorem contact_on {key : ByteArray} {ws : List Ev} (hk : p key = true) : contactB key (onP p ws) = contactB key ws := by
 have h1 : ∀ n,setsB key n (onP p ws) = setsB key n ws := fun n => filter_on hk fun e h => by
  simp only [ofK,Bool.and_eq_true,decide_eq_true_eq] at h
  exact h.1.1
 have h2 : ∀ n,addsB key n (onP p ws) = addsB key n ws := fun n => filter_on hk fun e h => by
  simp only [ofK,Bool.and_eq_true,decide_eq_true_eq] at h
  exact h.1.1
 unfold contactB
 rw [h1,h1,h2,h2]
theorem len_two {α : Type} {q : α → Bool} : ∀ l : List α,(l.filter q).length + (l.filter fun x => !q x).length = l.length
  | [] => rfl
  | x :: l => by
    have := len_two (q := q) l
    rw [List.filter_cons,List.filter_cons]
    cases q x <;> simp <;> omega
theorem size_on : sizeB (onP p l) = ((livingB l).filter fun e => p e.key).length + (((countingB l (livingB l)).filter fun e => !laterB l e).filter fun e => p e.key).length := by
 unfold sizeB
 rw [counting_on,living_on]
 congr 2
 unfold onP
 rw [List.filter_filter,List.filter_filter]
 refine List.filter_congr fun x _ => ?_
 cases h : p x.key with
 | false => simp
 | true =>
   have h2 : laterB (l.filter fun x => p x.key) x = laterB l x := later_on h
   rw [h2,Bool.and_comm]
theorem size_two : sizeB l = sizeB (onP p l) + sizeB (onP (fun k => !p k) l) := by
 rw [size_on,size_on,sizeB]
 have h1 := len_two (q := fun e : Ev => p e.key) (livingB l)
 have h2 := len_two (q := fun e : Ev => p e.key) ((countingB l (livingB l)).filter fun e => !laterB l e)
 omega
end
end Go.Proofs.YtimhagicagdkfaaGreat

/-
 Plain Lean: the last one of stamps is the one that none is later than.
-/
namespace Go.Proofs.YtimhagicagdkfaaGreat
open Go.RowKit
theorem less_iff (a b : St) : lessB a b = true ↔ a.1 < b.1 ∨ (a.1 = b.1 ∧ a.2 < b.2) := by
 unfold lessB
 split
 · rename_i h
   simp only [decide_eq_true_eq]
   omega
 · rename_i h
   simp only [decide_eq_true_eq]
   omega
theorem top_max : ∀ (l : List St) (m : St),¬ lessB (topB m l) m = true ∧ ∀ x ∈ l,¬ lessB (topB m l) x = true
  | [],m => by
    refine ⟨fun h => ?_,fun x hx => absurd hx (by simp)⟩
    have := (less_iff m m).1 h
    omega
  | x :: l,m => by
    obtain ⟨h1,h2⟩ := top_max l (if lessB m x = true then x else m)
    show ¬ lessB (topB (if lessB m x = true then x else m) l) m = true ∧ ∀ y ∈ x :: l,¬ lessB (topB (if lessB m x = true then x else m) l) y = true
    generalize topB (if lessB m x = true then x else m) l = t at h1 h2
    have h3 : ¬ lessB t m = true ∧ ¬ lessB t x = true := by
     split at h1
     · rename_i hmx
       rw [less_iff] at hmx h1
       refine ⟨?_,by rw [less_iff]; exact h1⟩
       rw [less_iff]
       omega
     · rename_i hmx
       rw [less_iff] at hmx h1
       refine ⟨by rw [less_iff]; exact h1,?_⟩
       rw [less_iff]
       omega
    refine ⟨h3.1,fun y hy => ?_⟩
    rcases List.mem_cons.1 hy with rfl | hy
    · exact h3.2
    · exact h2 y hy
end Go.Proofs.YtimhagicagdkfaaGreat

/-
 Plain Lean: of events of which no two have one stamp the order does not matter; events in another order,in which what is below comes first.
-/
namespace Go.Proofs.YtimhagicagdkfaaGreat
open Go.RowKit
theorem getS {l : List Str} {i : Nat} (h : i < l.length) : l.getD i [] = l[i] := by rw [List.getD,List.getElem?_eq_getElem h]; rfl
theorem field_is {A : List Ev} (h : ¬ A.length = 0) : ∃ e ∈ A,fieldF A = e.v ∧ stampE e = topB ((A.map stampE).getD 0 default) (A.map stampE) := by
 have hlt := last_lt (l := A.map stampE) (by intro e; exact h (by rw [← List.length_map (f := stampE),e]; rfl))
 have hg := List.findIdx_getElem (p := fun s => decide (s = topB ((A.map stampE).getD 0 default) (A.map stampE))) (xs := A.map stampE) (w := hlt)
 have hlt' := hlt
 rw [List.length_map] at hlt
 refine ⟨A[lastN (A.map stampE)],List.getElem_mem hlt,?_,?_⟩
 · rw [fieldF,if_neg h,getS (by rw [List.length_map]; exact hlt),List.getElem_map,arrS]
 · have := of_decide_eq_true hg
   have e2 : (A.map stampE)[lastN (A.map stampE)]'hlt' = stampE (A[lastN (A.map stampE)]) := List.getElem_map ..
   exact e2.symm.trans this
def OneStamp (l : List Ev) : Prop := ∀ a ∈ l,∀ b ∈ l,stampE a = stampE b → a = b
theorem less_or {a b : St} (h : ¬ lessB a b = true) (k : ¬ lessB b a = true) : a = b := by
 rw [less_iff] at h k
 obtain ⟨a1,a2⟩ := a
 obtain ⟨b1,b2⟩ := b
 simp only at h k
 have : a1 = b1 := by omega
 have : a2 = b2 := by omega
 simp [*]
theorem field_top {A : List Ev} {e : Ev} (hd : OneStamp A) (he : e ∈ A) (hm : ∀ x ∈ A,¬ lessB (stampE e) (stampE x) = true) : fieldF A = e.v := by
 have h0 : ¬ A.length = 0 := by
  intro h
  rw [List.length_eq_zero_iff] at h
  rw [h] at he
  cases he
 obtain ⟨x,hx,e1,e2⟩ := field_is h0
 have ht := top_max (A.map stampE) ((A.map stampE).getD 0 default)
 rw [← e2] at ht
 have := less_or (hm x hx) (ht.2 (stampE e) (List.mem_map.2 ⟨e,he,rfl⟩))
 rw [e1,hd e he x hx this]
section
variable {l l' : List Ev}
end
theorem pair_in {α : Type} {R : α → α → Prop} {l : List α} (h : l.Pairwise fun a b => ¬ R a b) (hs : ∀ a b,R a b → R b a) {a b : α} (ha : a ∈ l) (hb : b ∈ l) (hr : R a b) : a = b := by
 obtain ⟨i,hi,rfl⟩ := List.getElem_of_mem ha
 obtain ⟨j,hj,rfl⟩ := List.getElem_of_mem hb
 rcases Nat.lt_trichotomy i j with k | k | k
 · exact absurd hr (List.pairwise_iff_getElem.1 h i j hi hj k)
 · subst k; rfl
 · exact absurd (hs _ _ hr) (List.pairwise_iff_getElem.1 h j i hj hi k)
theorem Inv.mark {T : List Ev} {H : Nat → Clk} (h : Inv T H) {a b : Ev} (ha : a ∈ T) (hb : b ∈ T) (hr : a.r = b.r) (hn : a.n = b.n) : a = b :=
 pair_in (R := fun a b => a.r = b.r ∧ a.n = b.n) h.dis (fun _ _ k => ⟨k.1.symm,k.2.symm⟩) ha hb ⟨hr,hn⟩
theorem Inv.stamp {T : List Ev} {H : Nat → Clk} (h : Inv T H) : OneStamp T := fun a ha b hb e => by
 obtain ⟨p,a1,a2,a3,a4,a5⟩ := h.ev a ha
 obtain ⟨q,b1,b2,b3,b4,b5⟩ := h.ev b hb
 have eh : a.h = b.h := congrArg Prod.fst e
 have er : a.r = b.r := congrArg Prod.snd e
 have epq : p = q := by rw [a2,b2] at er; omega
 subst epq
 rcases Int.lt_trichotomy a.n b.n with k | k | k
 · have := h.hgt a ha b hb (by unfold belowB; rw [a2]; exact (has_at a1).2 ⟨a3,by omega⟩)
   omega
 · exact h.mark ha hb er k
 · have := h.hgt b hb a ha (by unfold belowB; rw [b2]; exact (has_at a1).2 ⟨b3,by omega⟩)
   omega
structure Spr where
 (out left : List Ev) (hv : Clk)
def rdyP (left : List Ev) (h : Clk) (k : Nat) : Bool := (left.getD k default).c.le h
def rdyL (left : List Ev) (h : Clk) : List Nat := (List.range left.length).filter (rdyP left h)
def Clk.top (c : Clk) : Nat → Int → Clk
  | 0,n => ⟨mxI c.c0 n,c.c1,c.c2,c.c3,c.c4⟩
  | 1,n => ⟨c.c0,mxI c.c1 n,c.c2,c.c3,c.c4⟩
  | 2,n => ⟨c.c0,c.c1,mxI c.c2 n,c.c3,c.c4⟩
  | 3,n => ⟨c.c0,c.c1,c.c2,mxI c.c3 n,c.c4⟩
  | _,n => ⟨c.c0,c.c1,c.c2,c.c3,mxI c.c4 n⟩
theorem top_at (c : Clk) {r q : Nat} (n : Int) (hr : r < 5) (hq : q < 5) : (c.top r n).at q = if q = r then mxI (c.at q) n else c.at q := by
 obtain rfl | rfl | rfl | rfl | rfl : r = 0 ∨ r = 1 ∨ r = 2 ∨ r = 3 ∨ r = 4 := by omega
 all_goals (obtain rfl | rfl | rfl | rfl | rfl : q = 0 ∨ q = 1 ∨ q = 2 ∨ q = 3 ∨ q = 4 := by omega)
 all_goals rfl
def sprAt (s : Spr) (k : Nat) : Spr := ⟨s.out ++ [s.left.getD k default],s.left.take k ++ s.left.drop (k + 1),s.hv.top (s.left.getD k default).r.toNat (s.left.getD k default).n⟩
structure SprOk (W : List Ev) (s : Spr) : Prop where
 perm : (s.out ++ s.left).Perm W
 sub : s.left.Sublist W
 hv : ∀ e ∈ s.out,∀ r : Nat,r < 5 → e.r = (r : Int) → e.n ≤ s.hv.at r
 pos : ∀ r : Nat,r < 5 → 0 ≤ s.hv.at r
theorem rdy_mem {left : List Ev} {h : Clk} {k : Nat} : k ∈ rdyL left h ↔ k < left.length ∧ rdyP left h k = true := by
 unfold rdyL
 rw [List.mem_filter,List.mem_range]
theorem perm_at {α : Type} {l : List α} {k : Nat} (h : k < l.length) : (l[k] :: l.eraseIdx k).Perm l := by
 rw [List.eraseIdx_eq_take_drop_succ]
 refine List.perm_middle.symm.trans ?_
 rw [← List.drop_eq_getElem_cons h,List.take_append_drop]
theorem SprOk.at {W : List Ev} {H : Nat → Clk} (hI : Inv W H) {s : Spr} (h : SprOk W s) {k : Nat} (hk : k < s.left.length) : SprOk W (sprAt s k) := by
 obtain ⟨out,left,hv⟩ := s
 obtain ⟨h1,h2,h3,h4⟩ := h
 simp only at h1 h2 h3 h4 hk
 have hg : left.getD k default = left[k] := by rw [List.getD,List.getElem?_eq_getElem hk]; rfl
 have he : left.take k ++ left.drop (k + 1) = left.eraseIdx k := (List.eraseIdx_eq_take_drop_succ ..).symm
 have hm : left[k] ∈ W := h2.subset (List.getElem_mem hk)
 obtain ⟨p,p1,p2,_⟩ := hI.ev _ hm
 have ep : left[k].r.toNat = p := by rw [p2]; omega
 unfold sprAt
 simp only [hg,he,ep]
 refine ⟨?_,(List.eraseIdx_sublist ..).trans h2,fun e hx r hr h5 => ?_,fun r hr => ?_⟩
 · have := (perm_at hk).append_left out
   refine (List.Perm.trans ?_ this).trans h1
   rw [List.append_assoc]
   exact .refl _
 · show e.n ≤ (hv.top p left[k].n).at r
   rw [top_at _ _ p1 hr]
   have hx : e ∈ out ++ [left[k]] := hx
   rcases List.mem_append.1 hx with hx | hx
   · have := h3 e hx r hr h5
     split
     · have := mx_l (hv.at r) left[k].n
       omega
     · exact this
   · rw [List.mem_singleton.1 hx] at h5 ⊢
     have : r = p := by rw [p2] at h5; omega
     rw [if_pos this]
     exact mx_r _ _
 · show 0 ≤ (hv.top p left[k].n).at r
   rw [top_at _ _ p1 hr]
   have := h4 r hr
   split
   · have := mx_l (hv.at r) left[k].n
     omega
   · exact this
end Go.Proofs.YtimhagicagdkfaaGreat

/-
 Contacts but that of a key; where a key's contact stands.
-/
namespace Go.Proofs.YtimhagicagdkfaaGreat
open Go.RowKit
def woP (key : ByteArray) (c : Cont) : Bool := !decide (c.key = key)
def woL (l : List Cont) (key : ByteArray) : List Cont := l.filter (woP key)
def placeN (l : List Cont) (key : ByteArray) : Nat := l.findIdx fun c => decide (c.key = key)
def placeI (l : List Cont) (key : ByteArray) : Int := if placeN l key < l.length then (placeN l key : Int) else -1
end Go.Proofs.YtimhagicagdkfaaGreat

/-
 Plain Lean: what an event that has seen all of a right past does to what it comes to.
-/
namespace Go.Proofs.YtimhagicagdkfaaGreat
open Go.RowKit
def eqK (key : ByteArray) : ByteArray → Bool := fun k => decide (k = key)
theorem uniq_nil : uniq [] = [] := List.eq_nil_iff_forall_not_mem.2 fun x hx => by
 have := ((uniq_props []).2 x).1 hx
 cases this
theorem of_same {l : List Ev} {key : ByteArray} (h : ∀ x ∈ l,x.key = key) : ofB l = if livingB l = [] then [] else [contactB key (countingB l (livingB l))] := by
 have hk : keysB l = uniq ((livingB l).map fun e => strL e.key) := rfl
 by_cases h0 : livingB l = []
 · rw [if_pos h0]
   unfold ofB
   rw [hk,h0,List.map_nil,uniq_nil]
   rfl
 · rw [if_neg h0]
   have e : keysB l = [strL key] := by
    rw [hk]
    refine rising_eq (uniq_props _).1 (List.pairwise_singleton _ _) fun x => ?_
    rw [(uniq_props _).2,List.mem_singleton,List.mem_map]
    constructor
    · rintro ⟨y,hy,rfl⟩
      rw [h y (List.mem_filter.1 hy).1]
    · rintro rfl
      obtain ⟨y,hy⟩ := List.exists_mem_of_ne_nil _ h0
      exact ⟨y,hy,by rw [h y (List.mem_filter.1 hy).1]⟩
   unfold ofB
   rw [e,List.map_singleton,arrS]
theorem on_key {l : List Ev} {key : ByteArray} : ∀ x ∈ onP (eqK key) l,x.key = key := fun x hx => by
 have := (List.mem_filter.1 hx).2
 exact of_decide_eq_true this
structure CR (e : Ev) (a b : Cont) : Prop where
 lab0 : e.l = 0 → a.h1 = b.h1 ∧ a.f1 = b.f1 ∧ a.s1.length = b.s1.length
 lab1 : e.l = 1 → a.h0 = b.h0 ∧ a.f0 = b.f0 ∧ a.s0.length = b.s0.length
 set0 : e.k = 3 → e.l = 0 → b.h0 = true ∧ b.f0 = e.v ∧ a.s0.length = b.s0.length
 set1 : e.k = 3 → e.l = 1 → b.h1 = true ∧ b.f1 = e.v ∧ a.s1.length = b.s1.length
 oth : e.k ≠ 3 → (a.h0 = b.h0 ∧ a.h1 = b.h1) ∧ (a.f0 = b.f0 ∧ a.f1 = b.f1)
 in0 : e.k ≠ 3 → e.l = 0 → (strL e.v ∈ b.s0 ↔ e.k = 4)
 in1 : e.k ≠ 3 → e.l = 1 → (strL e.v ∈ b.s1 ↔ e.k = 4)
structure LastF (A B : List Cont) (e : Ev) : Prop where
 wo : woL A e.key = woL B e.key
 two : e.k = 2 → placeI B e.key = -1
 one : e.k = 1 → 0 ≤ placeI B e.key
 more : 3 ≤ e.k → (placeI A e.key = -1 ∧ placeI B e.key = -1) ∨
  (∃ a b,(0 ≤ placeI A e.key ∧ placeI A e.key < (A.length : Int) ∧ A.getD (placeI A e.key).toNat default = a) ∧ (0 ≤ placeI B e.key ∧ placeI B e.key < (B.length : Int) ∧ B.getD (placeI B e.key).toNat default = b) ∧ CR e a b)
section
variable {l : List Ev} {e : Ev}
theorem above_snoc {k : Int} {same : Ev → Ev → Bool} {x : Ev} : aboveB k same (l ++ [e]) x = (aboveB k same l x || (decide (e.k = k) && (same e x && belowB x e))) := by
 unfold aboveB
 rw [List.any_append]
 simp
theorem above_off {k : Int} {same : Ev → Ev → Bool} (non : ∀ x ∈ l,belowB e x = false) : aboveB k same l e = false := by
 unfold aboveB
 rw [List.any_eq_false]
 intro x hx
 rw [non x hx]
 simp
structure Tops (l : List Ev) (e : Ev) : Prop where
 key : ∀ x ∈ l,x.key = e.key
 all : ∀ x ∈ l,belowB x e = true
 non : ∀ x ∈ l,belowB e x = false
 self : belowB e e = false
 hi : ∀ x ∈ l,x.h < e.h
 one : OneStamp (l ++ [e])
variable (t : Tops l e)
include t
theorem Tops.keys : ∀ x ∈ l ++ [e],x.key = e.key := fun x hx => by
 rcases List.mem_append.1 hx with hx | hx
 · exact t.key x hx
 · rw [List.mem_singleton.1 hx]
theorem Tops.lives_e : livesB (l ++ [e]) e = decide (e.k = 1) := by
 unfold livesB
 rw [above_snoc,above_off t.non,t.self]
 simp
theorem Tops.lives_in {x : Ev} (hx : x ∈ l) : livesB (l ++ [e]) x = (livesB l x && !decide (e.k = 2)) := by
 have : sameK e x = true := decide_eq_true (t.key x hx).symm
 unfold livesB
 rw [above_snoc,this,t.all x hx]
 cases aboveB 2 sameK l x <;> cases decide (x.k = 1) <;> simp
theorem Tops.living : livingB (l ++ [e]) = (if e.k = 2 then [] else livingB l) ++ (if e.k = 1 then [e] else []) := by
 unfold livingB
 rw [List.filter_append,List.filter_cons,t.lives_e]
 congr 1
 · by_cases h : e.k = 2
   · rw [if_pos h,List.filter_eq_nil_iff]
     intro x hx
     rw [t.lives_in hx,decide_eq_true h]
     simp
   · rw [if_neg h]
     refine List.filter_congr fun x hx => ?_
     rw [t.lives_in hx,decide_eq_false h]
     simp
 · by_cases h : e.k = 1
   · rw [if_pos h,if_pos (decide_eq_true h)]
     rfl
   · rw [if_neg h,if_neg (by rw [decide_eq_false h]; simp)]
     rfl
theorem Tops.count_in {C : List Ev} {x : Ev} (hx : x ∈ l) : countB (l ++ [e]) C x = (countB l C x && !(decide (e.k = 5) && (decide (x.k = 4) && sameV e x))) := by
 unfold countB
 rw [above_snoc,t.all x hx]
 by_cases h3 : x.k = 3
 · rw [decide_eq_true h3,decide_eq_false (show ¬ x.k = 4 by omega)]
   simp
 · rw [decide_eq_false h3]
   cases decide (x.k = 4) <;> cases aboveB 5 sameV l x <;> cases underB 1 sameK C x <;> simp
end
theorem strL_inj {a b : ByteArray} (h : strL a = strL b) : a = b := by rw [← arrS a,h,arrS]
section
variable {l : List Ev} {e : Ev} {ws : List Ev}
end
theorem on_snoc (p : ByteArray → Bool) (l : List Ev) (e : Ev) : onP p (l ++ [e]) = onP p l ++ (if p e.key = true then [e] else []) := by
 unfold onP
 rw [List.filter_append,List.filter_cons]
 rfl
end Go.Proofs.YtimhagicagdkfaaGreat

/-
 Plain Lean: what a book that is kept keeps of one key: each event that comes (behind all that is below it) takes out what it makes useless.
-/
namespace Go.Proofs.YtimhagicagdkfaaGreat
open Go.RowKit
def keptQ (l : List Ev) (e : Ev) : Bool := livesB l e || (countB l (livingB l) e && !laterB l e)
def keptL (l : List Ev) : List Ev := l.filter (keptQ l)
def crtdB (l : List Ev) (e : Ev) : Bool := l.any fun a => decide (a.k = 1) && belowB a e
def dropB (kind : Int) (same : Ev → Bool) (e : Ev) (l : List Ev) : List Ev := l.filter fun a => !decide (a.k = kind) || (!same a || !belowB a e)
def sameL2 (e a : Ev) : Bool := decide (a.l = e.l)
def sameV2 (e a : Ev) : Bool := decide (a.l = e.l) && decide (a.v = e.v)
def liveW (l : List Ev) (e : Ev) : List Ev :=
 if e.k = 1 then l ++ [e]
 else if e.k = 2 then (dropB 1 (fun _ => true) e l).filter fun a => decide (a.k = 1) || crtdB (dropB 1 (fun _ => true) e l) a
 else if e.k = 3 then (if crtdB l e = true then dropB 3 (sameL2 e) e l ++ [e] else l)
 else if e.k = 5 then dropB 4 (sameV2 e) e l
 else if crtdB l e = true then dropB 4 (sameV2 e) e l ++ [e] else l
structure Nxt (p : List Ev) (e : Ev) : Prop where
 key : ∀ x ∈ p,x.key = e.key
 non : ∀ x ∈ p,belowB e x = false
 self : belowB e e = false
 tr : ∀ a ∈ p,∀ b ∈ p,belowB a b = true → belowB b e = true → belowB a e = true
 kind : 1 ≤ e.k ∧ e.k ≤ 5
 kinds : ∀ x ∈ p,1 ≤ x.k ∧ x.k ≤ 5
theorem sameK_of {a b : Ev} (h : a.key = b.key) : sameK a b = true := decide_eq_true h
section
variable {p : List Ev} {e : Ev} (t : Nxt p e)
include t
theorem Nxt.keys {x : Ev} (hx : x ∈ p) : sameK e x = true ∧ sameK x e = true := ⟨sameK_of (t.key x hx).symm,sameK_of (t.key x hx)⟩
theorem Nxt.above_e {k : Int} {same : Ev → Ev → Bool} : aboveB k same (p ++ [e]) e = false := by
 rw [above_snoc,above_off t.non,t.self]
 simp
theorem Nxt.lives_e : livesB (p ++ [e]) e = decide (e.k = 1) := by
 unfold livesB
 rw [t.above_e]
 simp
theorem Nxt.lives_in {x : Ev} (hx : x ∈ p) : livesB (p ++ [e]) x = (livesB p x && !(decide (e.k = 2) && belowB x e)) := by
 unfold livesB
 rw [above_snoc,(t.keys hx).1]
 cases aboveB 2 sameK p x <;> cases decide (x.k = 1) <;> simp
theorem Nxt.living : livingB (p ++ [e]) = (livingB p).filter (fun x => !(decide (e.k = 2) && belowB x e)) ++ (if e.k = 1 then [e] else []) := by
 unfold livingB
 rw [List.filter_append,List.filter_cons,t.lives_e,List.filter_filter]
 congr 1
 · refine List.filter_congr fun x hx => ?_
   rw [t.lives_in hx,Bool.and_comm]
 · by_cases h : e.k = 1
   · rw [if_pos h,if_pos (decide_eq_true h)]; rfl
   · rw [if_neg h,if_neg (by rw [decide_eq_false h]; simp)]; rfl
theorem Nxt.under_in {x : Ev} (hx : x ∈ p) : underB 1 sameK (livingB (p ++ [e])) x = (livingB p).any fun a => !(decide (e.k = 2) && belowB a e) && belowB a x := by
 unfold underB
 rw [t.living,List.any_append,List.any_filter]
 have h2 : ((if e.k = 1 then [e] else []).any fun a => decide (a.k = 1) && (sameK a x && belowB a x)) = false := by
  split
  · rw [List.any_cons,List.any_nil,t.non x hx]; simp
  · rfl
 rw [h2,Bool.or_false]
 refine any_congr fun a ha => ?_
 obtain ⟨hap,hal⟩ := List.mem_filter.1 ha
 have hk : a.k = 1 := by
  simp only [livesB,Bool.and_eq_true,decide_eq_true_eq] at hal
  exact hal.1
 rw [decide_eq_true hk,sameK_of (show a.key = x.key by rw [t.key a hap,t.key x hx])]
 cases decide (e.k = 2) <;> cases belowB a e <;> cases belowB a x <;> rfl
theorem Nxt.under_old {x : Ev} (hx : x ∈ p) : underB 1 sameK (livingB p) x = (livingB p).any fun a => belowB a x := by
 refine any_congr fun a ha => ?_
 obtain ⟨hap,hal⟩ := List.mem_filter.1 ha
 have hk : a.k = 1 := by
  simp only [livesB,Bool.and_eq_true,decide_eq_true_eq] at hal
  exact hal.1
 rw [decide_eq_true hk,sameK_of (show a.key = x.key by rw [t.key a hap,t.key x hx])]
 simp
theorem Nxt.under_e : underB 1 sameK (livingB (p ++ [e])) e = (livingB p).any fun a => !(decide (e.k = 2) && belowB a e) && belowB a e := by
 unfold underB
 rw [t.living,List.any_append,List.any_filter]
 have h2 : ((if e.k = 1 then [e] else []).any fun a => decide (a.k = 1) && (sameK a e && belowB a e)) = false := by
  split
  · rw [List.any_cons,List.any_nil,t.self]; simp
  · rfl
 rw [h2,Bool.or_false]
 refine any_congr fun a ha => ?_
 obtain ⟨hap,hal⟩ := List.mem_filter.1 ha
 have hk : a.k = 1 := by
  simp only [livesB,Bool.and_eq_true,decide_eq_true_eq] at hal
  exact hal.1
 rw [decide_eq_true hk,(t.keys hap).2]
 cases decide (e.k = 2) <;> cases belowB a e <;> rfl
theorem Nxt.same2L {x : Ev} (hx : x ∈ p) : sameL e x = sameL2 e x := by
 unfold sameL sameL2
 rw [(t.keys hx).1,Bool.true_and]
 exact decide_eq_decide.2 eq_comm
theorem Nxt.same2V {x : Ev} (hx : x ∈ p) : sameV e x = sameV2 e x := by
 have h := t.same2L hx
 unfold sameV sameV2
 rw [h]
 unfold sameL2
 congr 1
 exact decide_eq_decide.2 eq_comm
theorem Nxt.later_in {x : Ev} (hx : x ∈ p) : laterB (p ++ [e]) x = (laterB p x || (decide (e.k = x.k) && ((if x.k = 4 then sameV2 e x else sameL2 e x) && belowB x e))) := by
 unfold laterB
 by_cases h : x.k = 4
 · rw [if_pos h,if_pos h,above_snoc,t.same2V hx]
 · rw [if_neg h,if_neg h,above_snoc,t.same2L hx]
theorem Nxt.count_in {x : Ev} (hx : x ∈ p) (h2 : e.k ≠ 2) : countB (p ++ [e]) (livingB (p ++ [e])) x = (countB p (livingB p) x && !(decide (e.k = 5) && (decide (x.k = 4) && (sameV2 e x && belowB x e)))) := by
 have hu : underB 1 sameK (livingB (p ++ [e])) x = underB 1 sameK (livingB p) x := by
  rw [t.under_in hx,t.under_old hx]
  refine any_congr fun a _ => ?_
  rw [decide_eq_false h2]
  rfl
 unfold countB
 rw [hu,above_snoc,t.same2V hx]
 by_cases h3 : x.k = 3
 · rw [decide_eq_true h3,decide_eq_false (show ¬ x.k = 4 by omega)]
   simp
 · rw [decide_eq_false h3]
   cases decide (x.k = 4) <;> cases aboveB 5 sameV p x <;> cases underB 1 sameK (livingB p) x <;> simp
theorem Nxt.kept_e1 (h : e.k = 1) : keptQ (p ++ [e]) e = true := by
 unfold keptQ
 rw [t.lives_e,decide_eq_true h]
 rfl
theorem Nxt.kept_in {x : Ev} (hx : x ∈ p) (h2 : e.k ≠ 2) : keptQ (p ++ [e]) x = (livesB p x || (countB p (livingB p) x && !(decide (e.k = 5) && (decide (x.k = 4) && (sameV2 e x && belowB x e))) && !(laterB p x || (decide (e.k = x.k) && ((if x.k = 4 then sameV2 e x else sameL2 e x) && belowB x e))))) := by
 unfold keptQ
 rw [t.lives_in hx,t.count_in hx h2,t.later_in hx,decide_eq_false h2]
 simp
omit t in
theorem lives_kind {l : List Ev} {x : Ev} (h : livesB l x = true) : x.k = 1 := by
 simp only [livesB,Bool.and_eq_true,decide_eq_true_eq] at h
 exact h.1
omit t in
theorem count_kind {l C : List Ev} {x : Ev} (h : countB l C x = true) : x.k = 3 ∨ x.k = 4 := by
 simp only [countB,Bool.and_eq_true,Bool.or_eq_true,decide_eq_true_eq] at h
 rcases h.1 with h | h
 · exact .inl h
 · exact .inr h.1
omit t in
theorem crtd_lives {x : Ev} : crtdB (keptL p) x = (livingB p).any fun a => belowB a x := by
 unfold crtdB keptL livingB
 rw [List.any_filter,List.any_filter]
 refine any_congr fun a _ => ?_
 cases hl : livesB p a with
 | true => rw [decide_eq_true (lives_kind hl)]; simp [keptQ,hl]
 | false =>
   cases hc : countB p (livingB p) a with
   | false =>
     have : keptQ p a = false := by unfold keptQ; rw [hl,hc]; rfl
     rw [this]
     rfl
   | true =>
     have : ¬ a.k = 1 := by rcases count_kind hc with h | h <;> omega
     rw [decide_eq_false this]
     simp
theorem Nxt.kept_e {h2 : e.k ≠ 1} : keptQ (p ++ [e]) e = ((decide (e.k = 3) || decide (e.k = 4)) && crtdB (keptL p) e) := by
 have hl : laterB (p ++ [e]) e = false := by unfold laterB; split <;> exact t.above_e
 unfold keptQ
 rw [t.lives_e,decide_eq_false h2,hl,crtd_lives]
 unfold countB
 rw [t.above_e,t.under_e]
 by_cases h : e.k = 2
 · rw [decide_eq_false (show ¬ e.k = 3 by omega),decide_eq_false (show ¬ e.k = 4 by omega)]
   rfl
 · rw [decide_eq_false h]
   simp
omit t in
theorem keptL_snoc (l : List Ev) (x : Ev) : keptL (l ++ [x]) = l.filter (keptQ (l ++ [x])) ++ (if keptQ (l ++ [x]) x = true then [x] else []) := by
 unfold keptL
 rw [List.filter_append,List.filter_cons]
 rfl
theorem Nxt.no_crtd {x : Ev} (hx : x ∈ p) (hc : countB p (livingB p) x = true) (hb : belowB x e = true) : crtdB (keptL p) e = true := by
 have hu : underB 1 sameK (livingB p) x = true := by
  simp only [countB,Bool.and_eq_true] at hc
  exact hc.2
 rw [t.under_old hx] at hu
 rw [crtd_lives]
 obtain ⟨a,ha,hax⟩ := List.any_eq_true.1 hu
 exact List.any_eq_true.2 ⟨a,ha,t.tr a (List.mem_filter.1 ha).1 x hx hax hb⟩
theorem Nxt.step : liveW (keptL p) e = keptL (p ++ [e]) := by
 rw [keptL_snoc]
 unfold liveW
 have hk := t.kind
 by_cases k1 : e.k = 1
 · rw [if_pos k1,if_pos (t.kept_e1 k1)]
   congr 1
   refine List.filter_congr fun x hx => ?_
   rw [t.kept_in hx (by omega),decide_eq_false (show ¬ e.k = 5 by omega)]
   unfold keptQ
   cases hc : countB p (livingB p) x with
   | false => simp
   | true =>
     have : ¬ e.k = x.k := by rcases count_kind hc with h | h <;> omega
     rw [decide_eq_false this]
     simp
 rw [if_neg k1,t.kept_e (h2 := k1)]
 by_cases k2 : e.k = 2
 · rw [if_pos k2,decide_eq_false (show ¬ e.k = 3 by omega),decide_eq_false (show ¬ e.k = 4 by omega),if_neg (by simp),List.append_nil]
   have hcr : ∀ x ∈ p,crtdB (dropB 1 (fun _ => true) e (keptL p)) x = (livingB p).any fun a => !belowB a e && belowB a x := fun x _ => by
    unfold crtdB dropB keptL livingB
    rw [List.any_filter,List.any_filter,List.any_filter]
    refine any_congr fun a _ => ?_
    cases hl : livesB p a with
    | true => rw [decide_eq_true (lives_kind hl)]; simp [keptQ,hl]
    | false =>
      cases hc : countB p (livingB p) a with
      | false =>
        have : keptQ p a = false := by unfold keptQ; rw [hl,hc]; rfl
        rw [this]
        rfl
      | true =>
        have : ¬ a.k = 1 := by rcases count_kind hc with h | h <;> omega
        rw [decide_eq_false this]
        simp
   have hd : dropB 1 (fun _ => true) e (keptL p) = p.filter fun x => (!decide (x.k = 1) || !belowB x e) && keptQ p x := by
    unfold dropB keptL
    rw [List.filter_filter]
    exact List.filter_congr fun x _ => by simp
   rw [List.filter_congr (q := fun a => decide (a.k = 1) || (livingB p).any fun c => !belowB c e && belowB c a) (fun x hx => by
    rw [hcr x]
    rw [hd] at hx
    exact (List.mem_filter.1 hx).1),hd,List.filter_filter]
   refine List.filter_congr fun x hx => ?_
   have hl := t.lives_in hx
   have hlt : laterB (p ++ [e]) x = (laterB p x || (decide (e.k = x.k) && ((if x.k = 4 then sameV2 e x else sameL2 e x) && belowB x e))) := t.later_in hx
   have hu := t.under_in hx
   have huo := t.under_old hx
   rw [decide_eq_true k2] at hl hu
   simp only [Bool.true_and] at hl hu
   have hle : ((livingB p).any fun a => !belowB a e && belowB a x) = true → underB 1 sameK (livingB p) x = true := fun h => by
    rw [huo]
    obtain ⟨a,ha,h⟩ := List.any_eq_true.1 h
    simp only [Bool.and_eq_true] at h
    exact List.any_eq_true.2 ⟨a,ha,h.2⟩
   unfold keptQ
   rw [hl,hlt]
   unfold countB
   rw [hu,above_snoc,decide_eq_false (show ¬ e.k = 5 by omega)]
   generalize ((livingB p).any fun a => (!belowB a e && belowB a x)) = u' at *
   generalize underB 1 sameK (livingB p) x = u at *
   rcases (show x.k = 1 ∨ x.k = 3 ∨ x.k = 4 ∨ (x.k ≠ 1 ∧ x.k ≠ 3 ∧ x.k ≠ 4) by omega) with h | h | h | ⟨h1,h2,h3⟩
   · rw [decide_eq_true h,decide_eq_false (show ¬ x.k = 3 by omega),decide_eq_false (show ¬ x.k = 4 by omega)]
     cases livesB p x <;> cases belowB x e <;> simp
   · have hnl : livesB p x = false := by rw [Bool.eq_false_iff]; intro k; have := lives_kind k; omega
     rw [hnl,decide_eq_false (show ¬ x.k = 1 by omega),decide_eq_true h,decide_eq_false (show ¬ x.k = 4 by omega),decide_eq_false (show ¬ e.k = x.k by omega)]
     cases u' with
     | true => rw [hle rfl]; simp
     | false => simp
   · have hnl : livesB p x = false := by rw [Bool.eq_false_iff]; intro k; have := lives_kind k; omega
     rw [hnl,decide_eq_false (show ¬ x.k = 1 by omega),decide_eq_true h,decide_eq_false (show ¬ x.k = 3 by omega),decide_eq_false (show ¬ e.k = x.k by omega)]
     cases u' with
     | true => rw [hle rfl]; simp
     | false => simp
   · have hnl : livesB p x = false := by rw [Bool.eq_false_iff]; intro k; have := lives_kind k; omega
     rw [hnl,decide_eq_false h1,decide_eq_false h2,decide_eq_false h3]
     simp
 rw [if_neg k2]
 by_cases k3 : e.k = 3
 · rw [if_pos k3,decide_eq_true k3,Bool.true_or,Bool.true_and]
   by_cases hcr : crtdB (keptL p) e = true
   · rw [if_pos hcr,if_pos hcr]
     congr 1
     unfold dropB keptL
     rw [List.filter_filter]
     refine List.filter_congr fun x hx => ?_
     rw [t.kept_in hx k2,decide_eq_false (show ¬ e.k = 5 by omega),k3]
     unfold keptQ
     cases hl : livesB p x with
     | true => rw [decide_eq_false (show ¬ x.k = 3 by have := lives_kind hl; omega)]; simp
     | false =>
       by_cases h : x.k = 3
       · rw [decide_eq_true h,decide_eq_true h.symm,if_neg (by omega)]
         cases countB p (livingB p) x <;> cases laterB p x <;> simp
       · rw [decide_eq_false h,decide_eq_false (show ¬ 3 = x.k from fun k => h k.symm)]
         simp
   · rw [if_neg hcr,if_neg hcr,List.append_nil]
     unfold keptL
     refine List.filter_congr fun x hx => ?_
     rw [t.kept_in hx k2,decide_eq_false (show ¬ e.k = 5 by omega)]
     unfold keptQ
     cases hc : countB p (livingB p) x with
     | false => simp
     | true =>
       have : belowB x e = false := by rw [Bool.eq_false_iff]; exact fun k => hcr (t.no_crtd hx hc k)
       rw [this]
       simp
 rw [if_neg k3,decide_eq_false k3,Bool.false_or]
 by_cases k5 : e.k = 5
 · rw [if_pos k5,decide_eq_false (show ¬ e.k = 4 by omega),Bool.false_and,if_neg (by simp),List.append_nil]
   unfold dropB keptL
   rw [List.filter_filter]
   refine List.filter_congr fun x hx => ?_
   rw [t.kept_in hx k2,decide_eq_true k5]
   unfold keptQ
   cases hl : livesB p x with
   | true => rw [decide_eq_false (show ¬ x.k = 4 by have := lives_kind hl; omega)]; simp
   | false =>
     cases hc : countB p (livingB p) x with
     | false => simp
     | true =>
       rw [decide_eq_false (show ¬ e.k = x.k by rcases count_kind hc with h | h <;> omega)]
       by_cases h : x.k = 4
       · rw [decide_eq_true h]
         cases sameV2 e x <;> cases belowB x e <;> simp
       · rw [decide_eq_false h]
         simp
 have k4 : e.k = 4 := by omega
 rw [if_neg k5,decide_eq_true k4,Bool.true_and]
 by_cases hcr : crtdB (keptL p) e = true
 · rw [if_pos hcr,if_pos hcr]
   congr 1
   unfold dropB keptL
   rw [List.filter_filter]
   refine List.filter_congr fun x hx => ?_
   rw [t.kept_in hx k2,decide_eq_false k5,k4]
   unfold keptQ
   cases hl : livesB p x with
   | true => rw [decide_eq_false (show ¬ x.k = 4 by have := lives_kind hl; omega)]; simp
   | false =>
     by_cases h : x.k = 4
     · rw [decide_eq_true h,decide_eq_true h.symm,if_pos h]
       cases countB p (livingB p) x <;> cases laterB p x <;> simp
     · rw [decide_eq_false h,decide_eq_false (show ¬ 4 = x.k from fun k => h k.symm)]
       simp
 · rw [if_neg hcr,if_neg hcr,List.append_nil]
   unfold keptL
   refine List.filter_congr fun x hx => ?_
   rw [t.kept_in hx k2,decide_eq_false k5]
   unfold keptQ
   cases hc : countB p (livingB p) x with
   | false => simp
   | true =>
     have : belowB x e = false := by rw [Bool.eq_false_iff]; exact fun k => hcr (t.no_crtd hx hc k)
     rw [this]
     simp
end
end Go.Proofs.YtimhagicagdkfaaGreat

/-
 Plain Lean: what is kept of one key comes to the same as all of it,and is as much as there is to keep.
-/
namespace Go.Proofs.YtimhagicagdkfaaGreat
open Go.RowKit
structure Pst (p : List Ev) (key : ByteArray) : Prop where
 key : ∀ x ∈ p,x.key = key
 one : OneStamp p
 hi : ∀ a ∈ p,∀ b ∈ p,belowB a b = true → a.h < b.h
 tr : ∀ a ∈ p,∀ b ∈ p,∀ c ∈ p,belowB a b = true → belowB b c = true → belowB a c = true
section
variable {p : List Ev} {key : ByteArray} (t : Pst p key)
theorem kept_kinds {x : Ev} (h : keptQ p x = true) : (livesB p x = true ∧ x.k = 1) ∨ (countB p (livingB p) x = true ∧ laterB p x = false ∧ (x.k = 3 ∨ x.k = 4)) := by
 unfold keptQ at h
 simp only [Bool.or_eq_true,Bool.and_eq_true,Bool.not_eq_true'] at h
 rcases h with h | ⟨h1,h2⟩
 · exact .inl ⟨h,lives_kind h⟩
 · exact .inr ⟨h1,h2,count_kind h1⟩
theorem kept_above {k : Int} (hk : k = 2 ∨ k = 5) (same : Ev → Ev → Bool) (x : Ev) : aboveB k same (keptL p) x = false := by
 unfold aboveB
 rw [List.any_eq_false]
 intro a ha
 have := kept_kinds (List.mem_filter.1 ha).2
 have : ¬ a.k = k := by rcases this with ⟨_,h⟩ | ⟨_,_,h⟩ <;> omega
 rw [decide_eq_false this]
 simp
theorem kept_living : livingB (keptL p) = livingB p := by
 unfold livingB
 have : ∀ x,livesB (keptL p) x = decide (x.k = 1) := fun x => by unfold livesB; rw [kept_above (.inl rfl)]; simp
 rw [List.filter_congr (q := fun x => decide (x.k = 1)) (fun x _ => this x)]
 unfold keptL
 rw [List.filter_filter]
 refine List.filter_congr fun x _ => ?_
 cases hl : livesB p x with
 | true => rw [decide_eq_true (lives_kind hl)]; simp [keptQ,hl]
 | false =>
   cases hc : countB p (livingB p) x with
   | true => rw [decide_eq_false (show ¬ x.k = 1 by rcases count_kind hc with h | h <;> omega)]; rfl
   | false => simp [keptQ,hl,hc]
theorem kept_counting : countingB (keptL p) (livingB (keptL p)) = (countingB p (livingB p)).filter fun x => !laterB p x := by
 rw [kept_living]
 unfold countingB
 rw [List.filter_filter]
 have hcn : ∀ x ∈ keptL p,countB (keptL p) (livingB p) x = countB p (livingB p) x := fun x hx => by
  unfold countB
  rw [kept_above (.inr rfl)]
  rcases kept_kinds (List.mem_filter.1 hx).2 with ⟨_,h⟩ | ⟨h,_,_⟩
  · rw [decide_eq_false (show ¬ x.k = 3 by omega),decide_eq_false (show ¬ x.k = 4 by omega)]; rfl
  · unfold countB at h
    rw [h]
    simp only [Bool.and_eq_true,Bool.or_eq_true,decide_eq_true_eq] at h
    obtain ⟨h1,h2⟩ := h
    rw [h2]
    rcases h1 with h1 | h1
    · rw [decide_eq_true h1]; rfl
    · rw [decide_eq_true h1.1]; simp
 rw [List.filter_congr hcn]
 unfold keptL
 rw [List.filter_filter]
 refine List.filter_congr fun x _ => ?_
 cases hc : countB p (livingB p) x with
 | false => simp
 | true =>
   have hl : livesB p x = false := by rw [Bool.eq_false_iff]; intro k; have := lives_kind k; rcases count_kind hc with h | h <;> omega
   unfold keptQ
   rw [hl,hc]
   simp
include t
theorem Pst.counts_up {x y : Ev} (hx : x ∈ countingB p (livingB p)) (hy : y ∈ p) (hb : belowB x y = true) (hk : y.k = x.k) (hs : y.k = 4 → sameV y x = true) : y ∈ countingB p (livingB p) := by
 obtain ⟨hxp,hc⟩ := List.mem_filter.1 hx
 refine List.mem_filter.2 ⟨hy,?_⟩
 unfold countB at hc ⊢
 simp only [Bool.and_eq_true] at hc ⊢
 obtain ⟨h1,h2⟩ := hc
 refine ⟨?_,?_⟩
 · rw [hk]
   by_cases k3 : x.k = 3
   · rw [decide_eq_true k3]; rfl
   · rw [decide_eq_false k3,Bool.false_or,Bool.and_eq_true] at h1 ⊢
     refine ⟨h1.1,?_⟩
     have hx5 := h1.2
     simp only [Bool.not_eq_true'] at hx5 ⊢
     rw [Bool.eq_false_iff]
     intro ha
     obtain ⟨z,hz,hz2⟩ := List.any_eq_true.1 ha
     simp only [Bool.and_eq_true,decide_eq_true_eq] at hz2
     have k4 : y.k = 4 := by rw [hk]; exact of_decide_eq_true h1.1
     have hzx : sameV z x = true := by
      have e1 := hz2.2.1
      have e2 := hs k4
      simp only [sameV,sameL,sameK,Bool.and_eq_true,decide_eq_true_eq] at e1 e2 ⊢
      exact ⟨⟨e1.1.1.trans e2.1.1,e1.1.2.trans e2.1.2⟩,e1.2.trans e2.2⟩
     have : aboveB 5 sameV p x = true := List.any_eq_true.2 ⟨z,hz,by
      simp only [Bool.and_eq_true,decide_eq_true_eq]
      exact ⟨hz2.1,hzx,t.tr x hxp y hy z hz hb hz2.2.2⟩⟩
     rw [this] at hx5
     cases hx5
 · obtain ⟨c,hc,h⟩ := List.any_eq_true.1 h2
   simp only [Bool.and_eq_true,decide_eq_true_eq] at h
   have hcp := (List.mem_filter.1 hc).1
   refine List.any_eq_true.2 ⟨c,hc,?_⟩
   simp only [Bool.and_eq_true,decide_eq_true_eq]
   exact ⟨h.1,sameK_of (by rw [t.key c hcp,t.key y hy]),t.tr c hcp x hxp y hy h.2.2 hb⟩
theorem Pst.top_kept {A : List Ev} {m : Ev} (hm : m ∈ A) (hA : ∀ x ∈ A,x ∈ countingB p (livingB p)) (htop : ∀ x ∈ A,¬ lessB (stampE m) (stampE x) = true)
  (hin : ∀ y ∈ countingB p (livingB p),y.k = m.k → (if m.k = 4 then sameV y m else sameL y m) = true → y ∈ A) : laterB p m = false := by
 rw [Bool.eq_false_iff]
 intro hl
 have hmc := hA m hm
 have hmp := (List.mem_filter.1 hmc).1
 have : ∃ y ∈ p,y.k = m.k ∧ (if m.k = 4 then sameV y m else sameL y m) = true ∧ belowB m y = true := by
  unfold laterB at hl
  by_cases h : m.k = 4
  · rw [if_pos h] at hl
    obtain ⟨y,hy,h2⟩ := List.any_eq_true.1 hl
    simp only [Bool.and_eq_true,decide_eq_true_eq] at h2
    exact ⟨y,hy,h2.1,by rw [if_pos h]; exact h2.2.1,h2.2.2⟩
  · rw [if_neg h] at hl
    obtain ⟨y,hy,h2⟩ := List.any_eq_true.1 hl
    simp only [Bool.and_eq_true,decide_eq_true_eq] at h2
    exact ⟨y,hy,h2.1,by rw [if_neg h]; exact h2.2.1,h2.2.2⟩
 obtain ⟨y,hy,hyk,hys,hyb⟩ := this
 have hyc := t.counts_up hmc hy hyb hyk (fun k4 => by rw [if_pos (by omega)] at hys; exact hys)
 have hyA := hin y hyc hyk hys
 have := t.hi m hmp y hy hyb
 refine htop y hyA ?_
 rw [less_iff]
 exact .inl this
theorem Pst.contact : contactB key ((countingB p (livingB p)).filter fun x => !laterB p x) = contactB key (countingB p (livingB p)) := by
 have hkind : ∀ x ∈ countingB p (livingB p),(x.k = 3 ∨ x.k = 4) ∧ x.key = key := fun x hx => ⟨count_kind (List.mem_filter.1 hx).2,t.key x (List.mem_filter.1 hx).1⟩
 have hone : OneStamp (countingB p (livingB p)) := fun a ha b hb => t.one a (List.mem_filter.1 ha).1 b (List.mem_filter.1 hb).1
 have htop := @Pst.top_kept p key t
 generalize hws : countingB p (livingB p) = ws at *
 have hs : ∀ n,setsB key n (ws.filter fun x => !laterB p x) = (setsB key n ws).filter fun x => !laterB p x := fun n => by
  unfold setsB
  rw [List.filter_filter,List.filter_filter]
  exact List.filter_congr fun x _ => Bool.and_comm _ _
 have ha : ∀ n,addsB key n (ws.filter fun x => !laterB p x) = (addsB key n ws).filter fun x => !laterB p x := fun n => by
  unfold addsB
  rw [List.filter_filter,List.filter_filter]
  exact List.filter_congr fun x _ => Bool.and_comm _ _
 have hsw : ∀ n,∀ x ∈ setsB key n ws,x ∈ ws ∧ x.k = 3 ∧ x.l = n := fun n x hx => by
  obtain ⟨h1,h2⟩ := List.mem_filter.1 hx
  simp only [ofK,Bool.and_eq_true,decide_eq_true_eq] at h2
  exact ⟨h1,h2.2,h2.1.2⟩
 have haw : ∀ n,∀ x ∈ addsB key n ws,x ∈ ws ∧ x.k = 4 ∧ x.l = n := fun n x hx => by
  obtain ⟨h1,h2⟩ := List.mem_filter.1 hx
  simp only [ofK,Bool.and_eq_true,decide_eq_true_eq,Bool.not_eq_true',decide_eq_false_iff_not] at h2
  exact ⟨h1,(hkind x h1).1.resolve_left h2.2,h2.1.2⟩
 have hset : ∀ n,hasF (setsB key n (ws.filter fun x => !laterB p x)) = hasF (setsB key n ws) ∧ fieldF (setsB key n (ws.filter fun x => !laterB p x)) = fieldF (setsB key n ws) := fun n => by
  rw [hs]
  by_cases h0 : (setsB key n ws).length = 0
  · have : setsB key n ws = [] := List.length_eq_zero_iff.1 h0
    rw [this]
    exact ⟨rfl,rfl⟩
  · obtain ⟨m,hm,e1,e2⟩ := field_is h0
    have hmx : ∀ x ∈ setsB key n ws,¬ lessB (stampE m) (stampE x) = true := fun x hx => by
     rw [e2]
     exact (top_max ((setsB key n ws).map stampE) (((setsB key n ws).map stampE).getD 0 default)).2 _ (List.mem_map.2 ⟨x,hx,rfl⟩)
    obtain ⟨m1,m2,m3⟩ := hsw n m hm
    have hlt : laterB p m = false := htop hm (fun x hx => (hsw n x hx).1) hmx fun y hy hyk hys => by
     rw [if_neg (by omega)] at hys
     refine List.mem_filter.2 ⟨hy,?_⟩
     simp only [sameL,sameK,Bool.and_eq_true,decide_eq_true_eq] at hys
     simp only [ofK,Bool.and_eq_true,decide_eq_true_eq]
     exact ⟨⟨(hkind y hy).2,by rw [hys.2]; exact m3⟩,by omega⟩
    have hmf : m ∈ (setsB key n ws).filter fun x => !laterB p x := List.mem_filter.2 ⟨hm,by rw [hlt]; rfl⟩
    refine ⟨?_,?_⟩
    · unfold hasF
      rw [decide_eq_false h0,decide_eq_false (fun h => by rw [List.length_eq_zero_iff] at h; rw [h] at hmf; cases hmf)]
    · rw [e1]
      exact field_top (fun a ha b hb => hone a (hsw n a (List.mem_filter.1 ha).1).1 b (hsw n b (List.mem_filter.1 hb).1).1) hmf fun x hx => hmx x (List.mem_filter.1 hx).1
 have hadd : ∀ n,valsF (addsB key n (ws.filter fun x => !laterB p x)) = valsF (addsB key n ws) := fun n => by
  rw [ha]
  refine uniq_of_mem fun v => ?_
  rw [List.mem_map,List.mem_map]
  constructor
  · rintro ⟨x,hx,e⟩
    exact ⟨x,(List.mem_filter.1 hx).1,e⟩
  · rintro ⟨x,hx,e⟩
    have h0 : ¬ ((addsB key n ws).filter fun y => decide (y.v = x.v)).length = 0 := fun h => by
     rw [List.length_eq_zero_iff] at h
     have : x ∈ (addsB key n ws).filter fun y => decide (y.v = x.v) := List.mem_filter.2 ⟨hx,decide_eq_true rfl⟩
     rw [h] at this
     cases this
    obtain ⟨m,hm,e1,e2⟩ := field_is h0
    obtain ⟨hma,hmv⟩ := List.mem_filter.1 hm
    have hmv : m.v = x.v := of_decide_eq_true hmv
    obtain ⟨m1,m2,m3⟩ := haw n m hma
    have hmx : ∀ y ∈ (addsB key n ws).filter fun y => decide (y.v = x.v),¬ lessB (stampE m) (stampE y) = true := fun y hy => by
     rw [e2]
     exact (top_max _ _).2 _ (List.mem_map.2 ⟨y,hy,rfl⟩)
    have hlt : laterB p m = false := htop hm (fun y hy => (haw n y (List.mem_filter.1 hy).1).1) hmx fun y hy hyk hys => by
     rw [if_pos m2] at hys
     simp only [sameV,sameL,sameK,Bool.and_eq_true,decide_eq_true_eq] at hys
     refine List.mem_filter.2 ⟨List.mem_filter.2 ⟨hy,?_⟩,decide_eq_true (hys.2.trans hmv)⟩
     simp only [ofK,Bool.and_eq_true,decide_eq_true_eq,Bool.not_eq_true',decide_eq_false_iff_not]
     exact ⟨⟨(hkind y hy).2,by rw [hys.1.2]; exact m3⟩,by omega⟩
    exact ⟨m,List.mem_filter.2 ⟨hma,by rw [hlt]; rfl⟩,by rw [hmv]; exact e⟩
 unfold contactB
 rw [(hset 0).1,(hset 1).1,(hset 0).2,(hset 1).2,hadd,hadd]
theorem Pst.of_kept : ofB (keptL p) = ofB p := by
 rw [of_same (l := keptL p) (key := key) (fun x hx => t.key x (List.mem_filter.1 hx).1),of_same t.key,kept_counting,kept_living,t.contact]
omit t in
theorem size_kept : (keptL p).length = sizeB p := by
 unfold keptL sizeB
 have hd : ∀ e,livesB p e = true → countB p (livingB p) e = false := fun e he => by
  have := lives_kind he
  rw [Bool.eq_false_iff]
  intro k
  rcases count_kind k with h | h <;> omega
 have : ∀ l : List Ev,(l.filter (keptQ p)).length = (l.filter (livesB p)).length + ((l.filter (countB p (livingB p))).filter fun e => !laterB p e).length := by
  intro l
  induction l with
  | nil => rfl
  | cons x l ih =>
    rw [List.filter_cons,List.filter_cons,List.filter_cons]
    have hq : keptQ p x = (livesB p x || (countB p (livingB p) x && !laterB p x)) := rfl
    rw [hq]
    cases hl : livesB p x with
    | true => simp [hd x hl,ih]; omega
    | false =>
      cases hc : countB p (livingB p) x with
      | false => simp [ih]
      | true =>
        simp only [Bool.false_or,Bool.true_and,if_true,Bool.false_eq_true,if_false]
        rw [List.filter_cons]
        cases laterB p x <;> simp [ih] <;> omega
 exact this p
end
end Go.Proofs.YtimhagicagdkfaaGreat
