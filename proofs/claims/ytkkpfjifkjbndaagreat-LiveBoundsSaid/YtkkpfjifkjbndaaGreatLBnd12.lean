/-
  Contracts of the walk: Wo, La1, Lv1, Lv2, Lv3, Lv4.
-/
import Derived.Test.YtkkpfjifkjbndaaGreatLBnd9
import Derived.Test.YtkkpfjifkjbndaaGreatLBnd11
/-
 Contacts but that of a key; where a key's contact stands.
-/
namespace Go.Proofs.YtkkpfjifkjbndaaGreat
open Go.RowKit
def woP (key : ByteArray) (c : Cont) : Bool := !decide (c.key = key)
def woL (l : List Cont) (key : ByteArray) : List Cont := l.filter (woP key)
def placeN (l : List Cont) (key : ByteArray) : Nat := l.findIdx fun c => decide (c.key = key)
def placeI (l : List Cont) (key : ByteArray) : Int := if placeN l key < l.length then (placeN l key : Int) else -1
end Go.Proofs.YtkkpfjifkjbndaaGreat

/-
 Plain Lean: what an event that has seen all of a right past does to what it comes to.
-/
namespace Go.Proofs.YtkkpfjifkjbndaaGreat
open Go.RowKit
def eqK (key : ByteArray) : ByteArray → Bool := fun k => decide (k = key)
theorem uniq_nil : uniq [] = [] := List.eq_nil_iff_forall_not_mem.2 fun x hx => by
 have := ((uniq_props []).2 x).1 hx
 cases this
theorem of_same {l : List Ev} {key : ByteArray} (h : ∀ x ∈ l,x.key = key) : ofB l = if livingB l = [] then [] else [contactB key (countingB l (livingB l))] := by
 have hk : keysB l = uniq ((livingB l).map fun e => strL e.key) := rfl
 by_cases h0 : livingB l = []
 · rw [if_pos h0]
   unfold ofB
   rw [hk,h0,List.map_nil,uniq_nil]
   rfl
 · rw [if_neg h0]
   have e : keysB l = [strL key] := by
    rw [hk]
    refine rising_eq (uniq_props _).1 (List.pairwise_singleton _ _) fun x => ?_
    rw [(uniq_props _).2,List.mem_singleton,List.mem_map]
    constructor
    · rintro ⟨y,hy,rfl⟩
      rw [h y (List.mem_filter.1 hy).1]
    · rintro rfl
      obtain ⟨y,hy⟩ := List.exists_mem_of_ne_nil _ h0
      exact ⟨y,hy,by rw [h y (List.mem_filter.1 hy).1]⟩
   unfold ofB
   rw [e,List.map_singleton,arrS]
theorem on_key {l : List Ev} {key : ByteArray} : ∀ x ∈ onP (eqK key) l,x.key = key := fun x hx => by
 have := (List.mem_filter.1 hx).2
 exact of_decide_eq_true this
structure CR (e : Ev) (a b : Cont) : Prop where
 lab0 : e.l = 0 → a.h1 = b.h1 ∧ a.f1 = b.f1 ∧ a.s1.length = b.s1.length
 lab1 : e.l = 1 → a.h0 = b.h0 ∧ a.f0 = b.f0 ∧ a.s0.length = b.s0.length
 set0 : e.k = 3 → e.l = 0 → b.h0 = true ∧ b.f0 = e.v ∧ a.s0.length = b.s0.length
 set1 : e.k = 3 → e.l = 1 → b.h1 = true ∧ b.f1 = e.v ∧ a.s1.length = b.s1.length
 oth : e.k ≠ 3 → (a.h0 = b.h0 ∧ a.h1 = b.h1) ∧ (a.f0 = b.f0 ∧ a.f1 = b.f1)
 in0 : e.k ≠ 3 → e.l = 0 → (strL e.v ∈ b.s0 ↔ e.k = 4)
 in1 : e.k ≠ 3 → e.l = 1 → (strL e.v ∈ b.s1 ↔ e.k = 4)
structure LastF (A B : List Cont) (e : Ev) : Prop where
 wo : woL A e.key = woL B e.key
 two : e.k = 2 → placeI B e.key = -1
 one : e.k = 1 → 0 ≤ placeI B e.key
 more : 3 ≤ e.k → (placeI A e.key = -1 ∧ placeI B e.key = -1) ∨
  (∃ a b,(0 ≤ placeI A e.key ∧ placeI A e.key < (A.length : Int) ∧ A.getD (placeI A e.key).toNat default = a) ∧ (0 ≤ placeI B e.key ∧ placeI B e.key < (B.length : Int) ∧ B.getD (placeI B e.key).toNat default = b) ∧ CR e a b)
section
variable {l : List Ev} {e : Ev}
theorem above_snoc {k : Int} {same : Ev → Ev → Bool} {x : Ev} : aboveB k same (l ++ [e]) x = (aboveB k same l x || (decide (e.k = k) && (same e x && belowB x e))) := by
 unfold aboveB
 rw [List.any_append]
 simp
theorem above_off {k : Int} {same : Ev → Ev → Bool} (non : ∀ x ∈ l,belowB e x = false) : aboveB k same l e = false := by
 unfold aboveB
 rw [List.any_eq_false]
 intro x hx
 rw [non x hx]
 simp
structure Tops (l : List Ev) (e : Ev) : Prop where
 key : ∀ x ∈ l,x.key = e.key
 all : ∀ x ∈ l,belowB x e = true
 non : ∀ x ∈ l,belowB e x = false
 self : belowB e e = false
 hi : ∀ x ∈ l,x.h < e.h
 one : OneStamp (l ++ [e])
variable (t : Tops l e)
include t
theorem Tops.keys : ∀ x ∈ l ++ [e],x.key = e.key := fun x hx => by
 rcases List.mem_append.1 hx with hx | hx
 · exact t.key x hx
 · rw [List.mem_singleton.1 hx]
theorem Tops.lives_e : livesB (l ++ [e]) e = decide (e.k = 1) := by
 unfold livesB
 rw [above_snoc,above_off t.non,t.self]
 simp
theorem Tops.lives_in {x : Ev} (hx : x ∈ l) : livesB (l ++ [e]) x = (livesB l x && !decide (e.k = 2)) := by
 have : sameK e x = true := decide_eq_true (t.key x hx).symm
 unfold livesB
 rw [above_snoc,this,t.all x hx]
 cases aboveB 2 sameK l x <;> cases decide (x.k = 1) <;> simp
theorem Tops.living : livingB (l ++ [e]) = (if e.k = 2 then [] else livingB l) ++ (if e.k = 1 then [e] else []) := by
 unfold livingB
 rw [List.filter_append,List.filter_cons,t.lives_e]
 congr 1
 · by_cases h : e.k = 2
   · rw [if_pos h,List.filter_eq_nil_iff]
     intro x hx
     rw [t.lives_in hx,decide_eq_true h]
     simp
   · rw [if_neg h]
     refine List.filter_congr fun x hx => ?_
     rw [t.lives_in hx,decide_eq_false h]
     simp
 · by_cases h : e.k = 1
   · rw [if_pos h,if_pos (decide_eq_true h)]
     rfl
   · rw [if_neg h,if_neg (by rw [decide_eq_false h]; simp)]
     rfl
theorem Tops.count_in {C : List Ev} {x : Ev} (hx : x ∈ l) : countB (l ++ [e]) C x = (countB l C x && !(decide (e.k = 5) && (decide (x.k = 4) && sameV e x))) := by
 unfold countB
 rw [above_snoc,t.all x hx]
 by_cases h3 : x.k = 3
 · rw [decide_eq_true h3,decide_eq_false (show ¬ x.k = 4 by omega)]
   simp
 · rw [decide_eq_false h3]
   cases decide (x.k = 4) <;> cases aboveB 5 sameV l x <;> cases underB 1 sameK C x <;> simp
end
theorem strL_inj {a b : ByteArray} (h : strL a = strL b) : a = b := by rw [← arrS a,h,arrS]
section
variable {l : List Ev} {e : Ev} {ws : List Ev}
def goneP (e x : Ev) : Bool := !(decide (e.k = 5) && (decide (x.k = 4) && sameV e x))
end
theorem on_snoc (p : ByteArray → Bool) (l : List Ev) (e : Ev) : onP p (l ++ [e]) = onP p l ++ (if p e.key = true then [e] else []) := by
 unfold onP
 rw [List.filter_append,List.filter_cons]
 rfl
end Go.Proofs.YtkkpfjifkjbndaaGreat

/-
 Plain Lean: what a book that is kept keeps of one key: each event that comes (behind all that is below it) takes out what it makes useless.
-/
namespace Go.Proofs.YtkkpfjifkjbndaaGreat
open Go.RowKit
def keptQ (l : List Ev) (e : Ev) : Bool := livesB l e || (countB l (livingB l) e && !laterB l e)
def keptL (l : List Ev) : List Ev := l.filter (keptQ l)
def crtdB (l : List Ev) (e : Ev) : Bool := l.any fun a => decide (a.k = 1) && belowB a e
def dropB (kind : Int) (same : Ev → Bool) (e : Ev) (l : List Ev) : List Ev := l.filter fun a => !decide (a.k = kind) || (!same a || !belowB a e)
def sameL2 (e a : Ev) : Bool := decide (a.l = e.l)
def sameV2 (e a : Ev) : Bool := decide (a.l = e.l) && decide (a.v = e.v)
def liveW (l : List Ev) (e : Ev) : List Ev :=
 if e.k = 1 then l ++ [e]
 else if e.k = 2 then (dropB 1 (fun _ => true) e l).filter fun a => decide (a.k = 1) || crtdB (dropB 1 (fun _ => true) e l) a
 else if e.k = 3 then (if crtdB l e = true then dropB 3 (sameL2 e) e l ++ [e] else l)
 else if e.k = 5 then dropB 4 (sameV2 e) e l
 else if crtdB l e = true then dropB 4 (sameV2 e) e l ++ [e] else l
structure Nxt (p : List Ev) (e : Ev) : Prop where
 key : ∀ x ∈ p,x.key = e.key
 non : ∀ x ∈ p,belowB e x = false
 self : belowB e e = false
 tr : ∀ a ∈ p,∀ b ∈ p,belowB a b = true → belowB b e = true → belowB a e = true
 kind : 1 ≤ e.k ∧ e.k ≤ 5
 kinds : ∀ x ∈ p,1 ≤ x.k ∧ x.k ≤ 5
theorem sameK_of {a b : Ev} (h : a.key = b.key) : sameK a b = true := decide_eq_true h
section
variable {p : List Ev} {e : Ev} (t : Nxt p e)
include t
theorem Nxt.keys {x : Ev} (hx : x ∈ p) : sameK e x = true ∧ sameK x e = true := ⟨sameK_of (t.key x hx).symm,sameK_of (t.key x hx)⟩
theorem Nxt.above_e {k : Int} {same : Ev → Ev → Bool} : aboveB k same (p ++ [e]) e = false := by
 rw [above_snoc,above_off t.non,t.self]
 simp
theorem Nxt.lives_e : livesB (p ++ [e]) e = decide (e.k = 1) := by
 unfold livesB
 rw [t.above_e]
 simp
theorem Nxt.lives_in {x : Ev} (hx : x ∈ p) : livesB (p ++ [e]) x = (livesB p x && !(decide (e.k = 2) && belowB x e)) := by
 unfold livesB
 rw [above_snoc,(t.keys hx).1]
 cases aboveB 2 sameK p x <;> cases decide (x.k = 1) <;> simp
theorem Nxt.living : livingB (p ++ [e]) = (livingB p).filter (fun x => !(decide (e.k = 2) && belowB x e)) ++ (if e.k = 1 then [e] else []) := by
 unfold livingB
 rw [List.filter_append,List.filter_cons,t.lives_e,List.filter_filter]
 congr 1
 · refine List.filter_congr fun x hx => ?_
   rw [t.lives_in hx,Bool.and_comm]
 · by_cases h : e.k = 1
   · rw [if_pos h,if_pos (decide_eq_true h)]; rfl
   · rw [if_neg h,if_neg (by rw [decide_eq_false h]; simp)]; rfl
theorem Nxt.under_in {x : Ev} (hx : x ∈ p) : underB 1 sameK (livingB (p ++ [e])) x = (livingB p).any fun a => !(decide (e.k = 2) && belowB a e) && belowB a x := by
 unfold underB
 rw [t.living,List.any_append,List.any_filter]
 have h2 : ((if e.k = 1 then [e] else []).any fun a => decide (a.k = 1) && (sameK a x && belowB a x)) = false := by
  split
  · rw [List.any_cons,List.any_nil,t.non x hx]; simp
  · rfl
 rw [h2,Bool.or_false]
 refine any_congr fun a ha => ?_
 obtain ⟨hap,hal⟩ := List.mem_filter.1 ha
 have hk : a.k = 1 := by
  simp only [livesB,Bool.and_eq_true,decide_eq_true_eq] at hal
  exact hal.1
 rw [decide_eq_true hk,sameK_of (show a.key = x.key by rw [t.key a hap,t.key x hx])]
 cases decide (e.k = 2) <;> cases belowB a e <;> cases belowB a x <;> rfl
theorem Nxt.under_old {x : Ev} (hx : x ∈ p) : underB 1 sameK (livingB p) x = (livingB p).any fun a => belowB a x := by
 refine any_congr fun a ha => ?_
 obtain ⟨hap,hal⟩ := List.mem_filter.1 ha
 have hk : a.k = 1 := by
  simp only [livesB,Bool.and_eq_true,decide_eq_true_eq] at hal
  exact hal.1
 rw [decide_eq_true hk,sameK_of (show a.key = x.key by rw [t.key a hap,t.key x hx])]
 simp
theorem Nxt.under_e : underB 1 sameK (livingB (p ++ [e])) e = (livingB p).any fun a => !(decide (e.k = 2) && belowB a e) && belowB a e := by
 unfold underB
 rw [t.living,List.any_append,List.any_filter]
 have h2 : ((if e.k = 1 then [e] else []).any fun a => decide (a.k = 1) && (sameK a e && belowB a e)) = false := by
  split
  · rw [List.any_cons,List.any_nil,t.self]; simp
  · rfl
 rw [h2,Bool.or_false]
 refine any_congr fun a ha => ?_
 obtain ⟨hap,hal⟩ := List.mem_filter.1 ha
 have hk : a.k = 1 := by
  simp only [livesB,Bool.and_eq_true,decide_eq_true_eq] at hal
  exact hal.1
 rw [decide_eq_true hk,(t.keys hap).2]
 cases decide (e.k = 2) <;> cases belowB a e <;> rfl
theorem Nxt.same2L {x : Ev} (hx : x ∈ p) : sameL e x = sameL2 e x := by
 unfold sameL sameL2
 rw [(t.keys hx).1,Bool.true_and]
 exact decide_eq_decide.2 eq_comm
theorem Nxt.same2V {x : Ev} (hx : x ∈ p) : sameV e x = sameV2 e x := by
 have h := t.same2L hx
 unfold sameV sameV2
 rw [h]
 unfold sameL2
 congr 1
 exact decide_eq_decide.2 eq_comm
theorem Nxt.later_in {x : Ev} (hx : x ∈ p) : laterB (p ++ [e]) x = (laterB p x || (decide (e.k = x.k) && ((if x.k = 4 then sameV2 e x else sameL2 e x) && belowB x e))) := by
 unfold laterB
 by_cases h : x.k = 4
 · rw [if_pos h,if_pos h,above_snoc,t.same2V hx]
 · rw [if_neg h,if_neg h,above_snoc,t.same2L hx]
theorem Nxt.count_in {x : Ev} (hx : x ∈ p) (h2 : e.k ≠ 2) : countB (p ++ [e]) (livingB (p ++ [e])) x = (countB p (livingB p) x && !(decide (e.k = 5) && (decide (x.k = 4) && (sameV2 e x && belowB x e)))) := by
 have hu : underB 1 sameK (livingB (p ++ [e])) x = underB 1 sameK (livingB p) x := by
  rw [t.under_in hx,t.under_old hx]
  refine any_congr fun a _ => ?_
  rw [decide_eq_false h2]
  rfl
 unfold countB
 rw [hu,above_snoc,t.same2V hx]
 by_cases h3 : x.k = 3
 · rw [decide_eq_true h3,decide_eq_false (show ¬ x.k = 4 by omega)]
   simp
 · rw [decide_eq_false h3]
   cases decide (x.k = 4) <;> cases aboveB 5 sameV p x <;> cases underB 1 sameK (livingB p) x <;> simp
theorem Nxt.kept_e1 (h : e.k = 1) : keptQ (p ++ [e]) e = true := by
 unfold keptQ
 rw [t.lives_e,decide_eq_true h]
 rfl
theorem Nxt.kept_in {x : Ev} (hx : x ∈ p) (h2 : e.k ≠ 2) : keptQ (p ++ [e]) x = (livesB p x || (countB p (livingB p) x && !(decide (e.k = 5) && (decide (x.k = 4) && (sameV2 e x && belowB x e))) && !(laterB p x || (decide (e.k = x.k) && ((if x.k = 4 then sameV2 e x else sameL2 e x) && belowB x e))))) := by
 unfold keptQ
 rw [t.lives_in hx,t.count_in hx h2,t.later_in hx,decide_eq_false h2]
 simp
omit t in
theorem lives_kind {l : List Ev} {x : Ev} (h : livesB l x = true) : x.k = 1 := by
 simp only [livesB,Bool.and_eq_true,decide_eq_true_eq] at h
 exact h.1
omit t in
theorem count_kind {l C : List Ev} {x : Ev} (h : countB l C x = true) : x.k = 3 ∨ x.k = 4 := by
 simp only [countB,Bool.and_eq_true,Bool.or_eq_true,decide_eq_true_eq] at h
 rcases h.1 with h | h
 · exact .inl h
 · exact .inr h.1
omit t in
theorem crtd_lives {x : Ev} : crtdB (keptL p) x = (livingB p).any fun a => belowB a x := by
 unfold crtdB keptL livingB
 rw [List.any_filter,List.any_filter]
 refine any_congr fun a _ => ?_
 cases hl : livesB p a with
 | true => rw [decide_eq_true (lives_kind hl)]; simp [keptQ,hl]
 | false =>
  cases hc : countB p (livingB p) a with
  | false =>
   have : keptQ p a = false := by unfold keptQ; rw [hl,hc]; rfl
   rw [this]
   rfl
  | true =>
   have : ¬ a.k = 1 := by rcases count_kind hc with h | h <;> omega
   rw [decide_eq_false this]
   simp
theorem Nxt.kept_e {h2 : e.k ≠ 1} : keptQ (p ++ [e]) e = ((decide (e.k = 3) || decide (e.k = 4)) && crtdB (keptL p) e) := by
 have hl : laterB (p ++ [e]) e = false := by unfold laterB; split <;> exact t.above_e
 unfold keptQ
 rw [t.lives_e,decide_eq_false h2,hl,crtd_lives]
 unfold countB
 rw [t.above_e,t.under_e]
 by_cases h : e.k = 2
 · rw [decide_eq_false (show ¬ e.k = 3 by omega),decide_eq_false (show ¬ e.k = 4 by omega)]
   rfl
 · rw [decide_eq_false h]
   simp
omit t in
theorem keptL_snoc (l : List Ev) (x : Ev) : keptL (l ++ [x]) = l.filter (keptQ (l ++ [x])) ++ (if keptQ (l ++ [x]) x = true then [x] else []) := by
 unfold keptL
 rw [List.filter_append,List.filter_cons]
 rfl
theorem Nxt.no_crtd {x : Ev} (hx : x ∈ p) (hc : countB p (livingB p) x = true) (hb : belowB x e = true) : crtdB (keptL p) e = true := by
 have hu : underB 1 sameK (livingB p) x = true := by
  simp only [countB,Bool.and_eq_true] at hc
  exact hc.2
 rw [t.under_old hx] at hu
 rw [crtd_lives]
 obtain ⟨a,ha,hax⟩ := List.any_eq_true.1 hu
 exact List.any_eq_true.2 ⟨a,ha,t.tr a (List.mem_filter.1 ha).1 x hx hax hb⟩
theorem Nxt.step : liveW (keptL p) e = keptL (p ++ [e]) := by
 rw [keptL_snoc]
 unfold liveW
 have hk := t.kind
 by_cases k1 : e.k = 1
 · rw [if_pos k1,if_pos (t.kept_e1 k1)]
   congr 1
   refine List.filter_congr fun x hx => ?_
   rw [t.kept_in hx (by omega),decide_eq_false (show ¬ e.k = 5 by omega)]
   unfold keptQ
   cases hc : countB p (livingB p) x with
   | false => simp
   | true =>
    have : ¬ e.k = x.k := by rcases count_kind hc with h | h <;> omega
    rw [decide_eq_false this]
    simp
 rw [if_neg k1,t.kept_e (h2 := k1)]
 by_cases k2 : e.k = 2
 · rw [if_pos k2,decide_eq_false (show ¬ e.k = 3 by omega),decide_eq_false (show ¬ e.k = 4 by omega),if_neg (by simp),List.append_nil]
   have hcr : ∀ x ∈ p,crtdB (dropB 1 (fun _ => true) e (keptL p)) x = (livingB p).any fun a => !belowB a e && belowB a x := fun x _ => by
    unfold crtdB dropB keptL livingB
    rw [List.any_filter,List.any_filter,List.any_filter]
    refine any_congr fun a _ => ?_
    cases hl : livesB p a with
    | true => rw [decide_eq_true (lives_kind hl)]; simp [keptQ,hl]
    | false =>
     cases hc : countB p (livingB p) a with
     | false =>
      have : keptQ p a = false := by unfold keptQ; rw [hl,hc]; rfl
      rw [this]
      rfl
     | true =>
      have : ¬ a.k = 1 := by rcases count_kind hc with h | h <;> omega
      rw [decide_eq_false this]
      simp
   have hd : dropB 1 (fun _ => true) e (keptL p) = p.filter fun x => (!decide (x.k = 1) || !belowB x e) && keptQ p x := by
    unfold dropB keptL
    rw [List.filter_filter]
    exact List.filter_congr fun x _ => by simp
   rw [List.filter_congr (q := fun a => decide (a.k = 1) || (livingB p).any fun c => !belowB c e && belowB c a) (fun x hx => by
    rw [hcr x]
    rw [hd] at hx
    exact (List.mem_filter.1 hx).1),hd,List.filter_filter]
   refine List.filter_congr fun x hx => ?_
   have hl := t.lives_in hx
   have hlt : laterB (p ++ [e]) x = (laterB p x || (decide (e.k = x.k) && ((if x.k = 4 then sameV2 e x else sameL2 e x) && belowB x e))) := t.later_in hx
   have hu := t.under_in hx
   have huo := t.under_old hx
   rw [decide_eq_true k2] at hl hu
   simp only [Bool.true_and] at hl hu
   have hle : ((livingB p).any fun a => !belowB a e && belowB a x) = true → underB 1 sameK (livingB p) x = true := fun h => by
    rw [huo]
    obtain ⟨a,ha,h⟩ := List.any_eq_true.1 h
    simp only [Bool.and_eq_true] at h
    exact List.any_eq_true.2 ⟨a,ha,h.2⟩
   unfold keptQ
   rw [hl,hlt]
   unfold countB
   rw [hu,above_snoc,decide_eq_false (show ¬ e.k = 5 by omega)]
   generalize ((livingB p).any fun a => (!belowB a e && belowB a x)) = u' at *
   generalize underB 1 sameK (livingB p) x = u at *
   rcases (show x.k = 1 ∨ x.k = 3 ∨ x.k = 4 ∨ (x.k ≠ 1 ∧ x.k ≠ 3 ∧ x.k ≠ 4) by omega) with h | h | h | ⟨h1,h2,h3⟩
   · rw [decide_eq_true h,decide_eq_false (show ¬ x.k = 3 by omega),decide_eq_false (show ¬ x.k = 4 by omega)]
     cases livesB p x <;> cases belowB x e <;> simp
   · have hnl : livesB p x = false := by rw [Bool.eq_false_iff]; intro k; have := lives_kind k; omega
     rw [hnl,decide_eq_false (show ¬ x.k = 1 by omega),decide_eq_true h,decide_eq_false (show ¬ x.k = 4 by omega),decide_eq_false (show ¬ e.k = x.k by omega)]
     cases u' with
     | true => rw [hle rfl]; simp
     | false => simp
   · have hnl : livesB p x = false := by rw [Bool.eq_false_iff]; intro k; have := lives_kind k; omega
     rw [hnl,decide_eq_false (show ¬ x.k = 1 by omega),decide_eq_true h,decide_eq_false (show ¬ x.k = 3 by omega),decide_eq_false (show ¬ e.k = x.k by omega)]
     cases u' with
     | true => rw [hle rfl]; simp
     | false => simp
   · have hnl : livesB p x = false := by rw [Bool.eq_false_iff]; intro k; have := lives_kind k; omega
     rw [hnl,decide_eq_false h1,decide_eq_false h2,decide_eq_false h3]
     simp
 rw [if_neg k2]
 by_cases k3 : e.k = 3
 · rw [if_pos k3,decide_eq_true k3,Bool.true_or,Bool.true_and]
   by_cases hcr : crtdB (keptL p) e = true
   · rw [if_pos hcr,if_pos hcr]
     congr 1
     unfold dropB keptL
     rw [List.filter_filter]
     refine List.filter_congr fun x hx => ?_
     rw [t.kept_in hx k2,decide_eq_false (show ¬ e.k = 5 by omega),k3]
     unfold keptQ
     cases hl : livesB p x with
     | true => rw [decide_eq_false (show ¬ x.k = 3 by have := lives_kind hl; omega)]; simp
     | false =>
      by_cases h : x.k = 3
      · rw [decide_eq_true h,decide_eq_true h.symm,if_neg (by omega)]
        cases countB p (livingB p) x <;> cases laterB p x <;> simp
      · rw [decide_eq_false h,decide_eq_false (show ¬ 3 = x.k from fun k => h k.symm)]
        simp
   · rw [if_neg hcr,if_neg hcr,List.append_nil]
     unfold keptL
     refine List.filter_congr fun x hx => ?_
     rw [t.kept_in hx k2,decide_eq_false (show ¬ e.k = 5 by omega)]
     unfold keptQ
     cases hc : countB p (livingB p) x with
     | false => simp
     | true =>
      have : belowB x e = false := by rw [Bool.eq_false_iff]; exact fun k => hcr (t.no_crtd hx hc k)
      rw [this]
      simp
 rw [if_neg k3,decide_eq_false k3,Bool.false_or]
 by_cases k5 : e.k = 5
 · rw [if_pos k5,decide_eq_false (show ¬ e.k = 4 by omega),Bool.false_and,if_neg (by simp),List.append_nil]
   unfold dropB keptL
   rw [List.filter_filter]
   refine List.filter_congr fun x hx => ?_
   rw [t.kept_in hx k2,decide_eq_true k5]
   unfold keptQ
   cases hl : livesB p x with
   | true => rw [decide_eq_false (show ¬ x.k = 4 by have := lives_kind hl; omega)]; simp
   | false =>
    cases hc : countB p (livingB p) x with
    | false => simp
    | true =>
     rw [decide_eq_false (show ¬ e.k = x.k by rcases count_kind hc with h | h <;> omega)]
     by_cases h : x.k = 4
     · rw [decide_eq_true h]
       cases sameV2 e x <;> cases belowB x e <;> simp
     · rw [decide_eq_false h]
       simp
 have k4 : e.k = 4 := by omega
 rw [if_neg k5,decide_eq_true k4,Bool.true_and]
 by_cases hcr : crtdB (keptL p) e = true
 · rw [if_pos hcr,if_pos hcr]
   congr 1
   unfold dropB keptL
   rw [List.filter_filter]
   refine List.filter_congr fun x hx => ?_
   rw [t.kept_in hx k2,decide_eq_false k5,k4]
   unfold keptQ
   cases hl : livesB p x with
   | true => rw [decide_eq_false (show ¬ x.k = 4 by have := lives_kind hl; omega)]; simp
   | false =>
    by_cases h : x.k = 4
    · rw [decide_eq_true h,decide_eq_true h.symm,if_pos h]
      cases countB p (livingB p) x <;> cases laterB p x <;> simp
    · rw [decide_eq_false h,decide_eq_false (show ¬ 4 = x.k from fun k => h k.symm)]
      simp
 · rw [if_neg hcr,if_neg hcr,List.append_nil]
   unfold keptL
   refine List.filter_congr fun x hx => ?_
   rw [t.kept_in hx k2,decide_eq_false k5]
   unfold keptQ
   cases hc : countB p (livingB p) x with
   | false => simp
   | true =>
    have : belowB x e = false := by rw [Bool.eq_false_iff]; exact fun k => hcr (t.no_crtd hx hc k)
    rw [this]
    simp
end
end Go.Proofs.YtkkpfjifkjbndaaGreat

/-
 Plain Lean: what is kept of one key comes to the same as all of it,and is as much as there is to keep.
-/
namespace Go.Proofs.YtkkpfjifkjbndaaGreat
open Go.RowKit
structure Pst (p : List Ev) (key : ByteArray) : Prop where
 key : ∀ x ∈ p,x.key = key
 one : OneStamp p
 hi : ∀ a ∈ p,∀ b ∈ p,belowB a b = true → a.h < b.h
 tr : ∀ a ∈ p,∀ b ∈ p,∀ c ∈ p,belowB a b = true → belowB b c = true → belowB a c = true
section
variable {p : List Ev} {key : ByteArray} (t : Pst p key)
theorem kept_kinds {x : Ev} (h : keptQ p x = true) : (livesB p x = true ∧ x.k = 1) ∨ (countB p (livingB p) x = true ∧ laterB p x = false ∧ (x.k = 3 ∨ x.k = 4)) := by
 unfold keptQ at h
 simp only [Bool.or_eq_true,Bool.and_eq_true,Bool.not_eq_true'] at h
 rcases h with h | ⟨h1,h2⟩
 · exact .inl ⟨h,lives_kind h⟩
 · exact .inr ⟨h1,h2,count_kind h1⟩
theorem kept_above {k : Int} (hk : k = 2 ∨ k = 5) (same : Ev → Ev → Bool) (x : Ev) : aboveB k same (keptL p) x = false := by
 unfold aboveB
 rw [List.any_eq_false]
 intro a ha
 have := kept_kinds (List.mem_filter.1 ha).2
 have : ¬ a.k = k := by rcases this with ⟨_,h⟩ | ⟨_,_,h⟩ <;> omega
 rw [decide_eq_false this]
 simp
theorem kept_living : livingB (keptL p) = livingB p := by
 unfold livingB
 have : ∀ x,livesB (keptL p) x = decide (x.k = 1) := fun x => by unfold livesB; rw [kept_above (.inl rfl)]; simp
 rw [List.filter_congr (q := fun x => decide (x.k = 1)) (fun x _ => this x)]
 unfold keptL
 rw [List.filter_filter]
 refine List.filter_congr fun x _ => ?_
 cases hl : livesB p x with
 | true => rw [decide_eq_true (lives_kind hl)]; simp [keptQ,hl]
 | false =>
  cases hc : countB p (livingB p) x with
  | true => rw [decide_eq_false (show ¬ x.k = 1 by rcases count_kind hc with h | h <;> omega)]; rfl
  | false => simp [keptQ,hl,hc]
theorem kept_counting : countingB (keptL p) (livingB (keptL p)) = (countingB p (livingB p)).filter fun x => !laterB p x := by
 rw [kept_living]
 unfold countingB
 rw [List.filter_filter]
 have hcn : ∀ x ∈ keptL p,countB (keptL p) (livingB p) x = countB p (livingB p) x := fun x hx => by
  unfold countB
  rw [kept_above (.inr rfl)]
  rcases kept_kinds (List.mem_filter.1 hx).2 with ⟨_,h⟩ | ⟨h,_,_⟩
  · rw [decide_eq_false (show ¬ x.k = 3 by omega),decide_eq_false (show ¬ x.k = 4 by omega)]; rfl
  · unfold countB at h
    rw [h]
    simp only [Bool.and_eq_true,Bool.or_eq_true,decide_eq_true_eq] at h
    obtain ⟨h1,h2⟩ := h
    rw [h2]
    rcases h1 with h1 | h1
    · rw [decide_eq_true h1]; rfl
    · rw [decide_eq_true h1.1]; simp
 rw [List.filter_congr hcn]
 unfold keptL
 rw [List.filter_filter]
 refine List.filter_congr fun x _ => ?_
 cases hc : countB p (livingB p) x with
 | false => simp
 | true =>
  have hl : livesB p x = false := by rw [Bool.eq_false_iff]; intro k; have := lives_kind k; rcases count_kind hc with h | h <;> omega
  unfold keptQ
  rw [hl,hc]
  simp
include t
theorem Pst.counts_up {x y : Ev} (hx : x ∈ countingB p (livingB p)) (hy : y ∈ p) (hb : belowB x y = true) (hk : y.k = x.k) (hs : y.k = 4 → sameV y x = true) : y ∈ countingB p (livingB p) := by
 obtain ⟨hxp,hc⟩ := List.mem_filter.1 hx
 refine List.mem_filter.2 ⟨hy,?_⟩
 unfold countB at hc ⊢
 simp only [Bool.and_eq_true] at hc ⊢
 obtain ⟨h1,h2⟩ := hc
 refine ⟨?_,?_⟩
 · rw [hk]
   by_cases k3 : x.k = 3
   · rw [decide_eq_true k3]; rfl
   · rw [decide_eq_false k3,Bool.false_or,Bool.and_eq_true] at h1 ⊢
     refine ⟨h1.1,?_⟩
     have hx5 := h1.2
     simp only [Bool.not_eq_true'] at hx5 ⊢
     rw [Bool.eq_false_iff]
     intro ha
     obtain ⟨z,hz,hz2⟩ := List.any_eq_true.1 ha
     simp only [Bool.and_eq_true,decide_eq_true_eq] at hz2
     have k4 : y.k = 4 := by rw [hk]; exact of_decide_eq_true h1.1
     have hzx : sameV z x = true := by
      have e1 := hz2.2.1
      have e2 := hs k4
      simp only [sameV,sameL,sameK,Bool.and_eq_true,decide_eq_true_eq] at e1 e2 ⊢
      exact ⟨⟨e1.1.1.trans e2.1.1,e1.1.2.trans e2.1.2⟩,e1.2.trans e2.2⟩
     have : aboveB 5 sameV p x = true := List.any_eq_true.2 ⟨z,hz,by
      simp only [Bool.and_eq_true,decide_eq_true_eq]
      exact ⟨hz2.1,hzx,t.tr x hxp y hy z hz hb hz2.2.2⟩⟩
     rw [this] at hx5
     cases hx5
 · obtain ⟨c,hc,h⟩ := List.any_eq_true.1 h2
   simp only [Bool.and_eq_true,decide_eq_true_eq] at h
   have hcp := (List.mem_filter.1 hc).1
   refine List.any_eq_true.2 ⟨c,hc,?_⟩
   simp only [Bool.and_eq_true,decide_eq_true_eq]
   exact ⟨h.1,sameK_of (by rw [t.key c hcp,t.key y hy]),t.tr c hcp x hxp y hy h.2.2 hb⟩
theorem Pst.top_kept {A : List Ev} {m : Ev} (hm : m ∈ A) (hA : ∀ x ∈ A,x ∈ countingB p (livingB p)) (htop : ∀ x ∈ A,¬ lessB (stampE m) (stampE x) = true)
  (hin : ∀ y ∈ countingB p (livingB p),y.k = m.k → (if m.k = 4 then sameV y m else sameL y m) = true → y ∈ A) : laterB p m = false := by
 rw [Bool.eq_false_iff]
 intro hl
 have hmc := hA m hm
 have hmp := (List.mem_filter.1 hmc).1
 have : ∃ y ∈ p,y.k = m.k ∧ (if m.k = 4 then sameV y m else sameL y m) = true ∧ belowB m y = true := by
  unfold laterB at hl
  by_cases h : m.k = 4
  · rw [if_pos h] at hl
    obtain ⟨y,hy,h2⟩ := List.any_eq_true.1 hl
    simp only [Bool.and_eq_true,decide_eq_true_eq] at h2
    exact ⟨y,hy,h2.1,by rw [if_pos h]; exact h2.2.1,h2.2.2⟩
  · rw [if_neg h] at hl
    obtain ⟨y,hy,h2⟩ := List.any_eq_true.1 hl
    simp only [Bool.and_eq_true,decide_eq_true_eq] at h2
    exact ⟨y,hy,h2.1,by rw [if_neg h]; exact h2.2.1,h2.2.2⟩
 obtain ⟨y,hy,hyk,hys,hyb⟩ := this
 have hyc := t.counts_up hmc hy hyb hyk (fun k4 => by rw [if_pos (by omega)] at hys; exact hys)
 have hyA := hin y hyc hyk hys
 have := t.hi m hmp y hy hyb
 refine htop y hyA ?_
 rw [less_iff]
 exact .inl this
theorem Pst.contact : contactB key ((countingB p (livingB p)).filter fun x => !laterB p x) = contactB key (countingB p (livingB p)) := by
 have hkind : ∀ x ∈ countingB p (livingB p),(x.k = 3 ∨ x.k = 4) ∧ x.key = key := fun x hx => ⟨count_kind (List.mem_filter.1 hx).2,t.key x (List.mem_filter.1 hx).1⟩
 have hone : OneStamp (countingB p (livingB p)) := fun a ha b hb => t.one a (List.mem_filter.1 ha).1 b (List.mem_filter.1 hb).1
 have htop := @Pst.top_kept p key t
 generalize hws : countingB p (livingB p) = ws at *
 have hs : ∀ n,setsB key n (ws.filter fun x => !laterB p x) = (setsB key n ws).filter fun x => !laterB p x := fun n => by
  unfold setsB
  rw [List.filter_filter,List.filter_filter]
  exact List.filter_congr fun x _ => Bool.and_comm _ _
 have ha : ∀ n,addsB key n (ws.filter fun x => !laterB p x) = (addsB key n ws).filter fun x => !laterB p x := fun n => by
  unfold addsB
  rw [List.filter_filter,List.filter_filter]
  exact List.filter_congr fun x _ => Bool.and_comm _ _
 have hsw : ∀ n,∀ x ∈ setsB key n ws,x ∈ ws ∧ x.k = 3 ∧ x.l = n := fun n x hx => by
  obtain ⟨h1,h2⟩ := List.mem_filter.1 hx
  simp only [ofK,Bool.and_eq_true,decide_eq_true_eq] at h2
  exact ⟨h1,h2.2,h2.1.2⟩
 have haw : ∀ n,∀ x ∈ addsB key n ws,x ∈ ws ∧ x.k = 4 ∧ x.l = n := fun n x hx => by
  obtain ⟨h1,h2⟩ := List.mem_filter.1 hx
  simp only [ofK,Bool.and_eq_true,decide_eq_true_eq,Bool.not_eq_true',decide_eq_false_iff_not] at h2
  exact ⟨h1,(hkind x h1).1.resolve_left h2.2,h2.1.2⟩
 have hset : ∀ n,hasF (setsB key n (ws.filter fun x => !laterB p x)) = hasF (setsB key n ws) ∧ fieldF (setsB key n (ws.filter fun x => !laterB p x)) = fieldF (setsB key n ws) := fun n => by
  rw [hs]
  by_cases h0 : (setsB key n ws).length = 0
  · have : setsB key n ws = [] := List.length_eq_zero_iff.1 h0
    rw [this]
    exact ⟨rfl,rfl⟩
  · obtain ⟨m,hm,e1,e2⟩ := field_is h0
    have hmx : ∀ x ∈ setsB key n ws,¬ lessB (stampE m) (stampE x) = true := fun x hx => by
     rw [e2]
     exact (top_max ((setsB key n ws).map stampE) (((setsB key n ws).map stampE).getD 0 default)).2 _ (List.mem_map.2 ⟨x,hx,rfl⟩)
    obtain ⟨m1,m2,m3⟩ := hsw n m hm
    have hlt : laterB p m = false := htop hm (fun x hx => (hsw n x hx).1) hmx fun y hy hyk hys => by
     rw [if_neg (by omega)] at hys
     refine List.mem_filter.2 ⟨hy,?_⟩
     simp only [sameL,sameK,Bool.and_eq_true,decide_eq_true_eq] at hys
     simp only [ofK,Bool.and_eq_true,decide_eq_true_eq]
     exact ⟨⟨(hkind y hy).2,by rw [hys.2]; exact m3⟩,by omega⟩
    have hmf : m ∈ (setsB key n ws).filter fun x => !laterB p x := List.mem_filter.2 ⟨hm,by rw [hlt]; rfl⟩
    refine ⟨?_,?_⟩
    · unfold hasF
      rw [decide_eq_false h0,decide_eq_false (fun h => by rw [List.length_eq_zero_iff] at h; rw [h] at hmf; cases hmf)]
    · rw [e1]
      exact field_top (fun a ha b hb => hone a (hsw n a (List.mem_filter.1 ha).1).1 b (hsw n b (List.mem_filter.1 hb).1).1) hmf fun x hx => hmx x (List.mem_filter.1 hx).1
 have hadd : ∀ n,valsF (addsB key n (ws.filter fun x => !laterB p x)) = valsF (addsB key n ws) := fun n => by
  rw [ha]
  refine uniq_of_mem fun v => ?_
  rw [List.mem_map,List.mem_map]
  constructor
  · rintro ⟨x,hx,e⟩
    exact ⟨x,(List.mem_filter.1 hx).1,e⟩
  · rintro ⟨x,hx,e⟩
    have h0 : ¬ ((addsB key n ws).filter fun y => decide (y.v = x.v)).length = 0 := fun h => by
     rw [List.length_eq_zero_iff] at h
     have : x ∈ (addsB key n ws).filter fun y => decide (y.v = x.v) := List.mem_filter.2 ⟨hx,decide_eq_true rfl⟩
     rw [h] at this
     cases this
    obtain ⟨m,hm,e1,e2⟩ := field_is h0
    obtain ⟨hma,hmv⟩ := List.mem_filter.1 hm
    have hmv : m.v = x.v := of_decide_eq_true hmv
    obtain ⟨m1,m2,m3⟩ := haw n m hma
    have hmx : ∀ y ∈ (addsB key n ws).filter fun y => decide (y.v = x.v),¬ lessB (stampE m) (stampE y) = true := fun y hy => by
     rw [e2]
     exact (top_max _ _).2 _ (List.mem_map.2 ⟨y,hy,rfl⟩)
    have hlt : laterB p m = false := htop hm (fun y hy => (haw n y (List.mem_filter.1 hy).1).1) hmx fun y hy hyk hys => by
     rw [if_pos m2] at hys
     simp only [sameV,sameL,sameK,Bool.and_eq_true,decide_eq_true_eq] at hys
     refine List.mem_filter.2 ⟨List.mem_filter.2 ⟨hy,?_⟩,decide_eq_true (hys.2.trans hmv)⟩
     simp only [ofK,Bool.and_eq_true,decide_eq_true_eq,Bool.not_eq_true',decide_eq_false_iff_not]
     exact ⟨⟨(hkind y hy).2,by rw [hys.1.2]; exact m3⟩,by omega⟩
    exact ⟨m,List.mem_filter.2 ⟨hma,by rw [hlt]; rfl⟩,by rw [hmv]; exact e⟩
 unfold contactB
 rw [(hset 0).1,(hset 1).1,(hset 0).2,(hset 1).2,hadd,hadd]
theorem Pst.of_kept : ofB (keptL p) = ofB p := by
 rw [of_same (l := keptL p) (key := key) (fun x hx => t.key x (List.mem_filter.1 hx).1),of_same t.key,kept_counting,kept_living,t.contact]
omit t in
theorem size_kept : (keptL p).length = sizeB p := by
 unfold keptL sizeB
 have hd : ∀ e,livesB p e = true → countB p (livingB p) e = false := fun e he => by
  have := lives_kind he
  rw [Bool.eq_false_iff]
  intro k
  rcases count_kind k with h | h <;> omega
 have : ∀ l : List Ev,(l.filter (keptQ p)).length = (l.filter (livesB p)).length + ((l.filter (countB p (livingB p))).filter fun e => !laterB p e).length := by
  intro l
  induction l with
  | nil => rfl
  | cons x l ih =>
   rw [List.filter_cons,List.filter_cons,List.filter_cons]
   have hq : keptQ p x = (livesB p x || (countB p (livingB p) x && !laterB p x)) := rfl
   rw [hq]
   cases hl : livesB p x with
   | true => simp [hd x hl,ih]; omega
   | false =>
    cases hc : countB p (livingB p) x with
    | false => simp [ih]
    | true =>
     simp only [Bool.false_or,Bool.true_and,if_true,Bool.false_eq_true,if_false]
     rw [List.filter_cons]
     cases laterB p x <;> simp [ih] <;> omega
 exact this p
end
end Go.Proofs.YtkkpfjifkjbndaaGreat

/-
 Plain Lean: what is kept of all keys lists what all events come to,and is as much as there is to keep.
-/
namespace Go.Proofs.YtkkpfjifkjbndaaGreat
open Go.RowKit
def keyS (k : Str) : ByteArray := ⟨k.toArray⟩
theorem strL_keyS (k : Str) : strL (keyS k) = k := rfl
def keptK (P : List Ev) (key : ByteArray) : List Ev := keptL (onP (eqK key) P)
theorem keptK_same {P : List Ev} {e : Ev} (t : Nxt (onP (eqK e.key) P) e) : keptK (P ++ [e]) e.key = liveW (keptK P e.key) e := by
 unfold keptK
 rw [on_snoc,if_pos (show eqK e.key e.key = true from decide_eq_true rfl),t.step]
theorem keptK_other {P : List Ev} {e : Ev} {key : ByteArray} (h : key ≠ e.key) : keptK (P ++ [e]) key = keptK P key := by
 unfold keptK
 rw [on_snoc,if_neg (by unfold eqK; rw [decide_eq_false (fun k => h k.symm)]; simp),List.append_nil]
theorem kept_some {P : List Ev} {key : ByteArray} : keptK P key ≠ [] ↔ livingB (onP (eqK key) P) ≠ [] := by
 constructor
 · intro h hl
   obtain ⟨x,hx⟩ := List.exists_mem_of_ne_nil _ h
   obtain ⟨hx,hq⟩ := List.mem_filter.1 hx
   rcases kept_kinds hq with ⟨h1,_⟩ | ⟨h1,_,_⟩
   · have : x ∈ livingB (onP (eqK key) P) := List.mem_filter.2 ⟨hx,h1⟩
     rw [hl] at this
     cases this
   · unfold countB at h1
     rw [hl] at h1
     simp [underB] at h1
 · intro h hk
   obtain ⟨x,hx⟩ := List.exists_mem_of_ne_nil _ h
   obtain ⟨hx,hl⟩ := List.mem_filter.1 hx
   have : x ∈ keptK P key := List.mem_filter.2 ⟨hx,by unfold keptQ; rw [hl]; rfl⟩
   rw [hk] at this
   cases this
theorem key_living {P : List Ev} {k : Str} : k ∈ keysB P ↔ livingB (onP (eqK (keyS k)) P) ≠ [] := by
 have h1 : k ∈ keysB P ↔ k ∈ (livingB P).map fun e : Ev => strL e.key := (uniq_props _).2 k
 rw [h1,living_on,List.mem_map]
 constructor
 · rintro ⟨e,he,rfl⟩ h
   have : e ∈ onP (eqK (keyS (strL e.key))) (livingB P) := List.mem_filter.2 ⟨he,decide_eq_true (show e.key = keyS (strL e.key) by unfold keyS; rw [arrS])⟩
   rw [h] at this
   cases this
 · intro h
   obtain ⟨e,he⟩ := List.exists_mem_of_ne_nil _ h
   obtain ⟨he,hk⟩ := List.mem_filter.1 he
   have hk : e.key = keyS k := of_decide_eq_true hk
   exact ⟨e,he,by rw [hk]; rfl⟩
theorem of_key {P : List Ev} {k : Str} (h : k ∈ keysB P) : ofB (onP (eqK (keyS k)) P) = [contactB (keyS k) (countingB P (livingB P))] := by
 rw [of_same (key := keyS k) on_key,if_neg (key_living.1 h),counting_on,contact_on (show eqK (keyS k) (keyS k) = true from decide_eq_true rfl)]
theorem list_kept {P : List Ev} (hp : ∀ key,Pst (onP (eqK key) P) key) {ks : List Str} (hs : ks.Pairwise (· < ·)) (hm : ∀ k,k ∈ ks ↔ keptK P (keyS k) ≠ []) :
  ks.flatMap (fun k => ofB (keptK P (keyS k))) = ofB P := by
 have hk : ks = keysB P := rising_eq hs (uniq_props ((livingB P).map fun e : Ev => strL e.key)).1 fun k => by
  rw [hm,kept_some]
  exact key_living.symm
 have h2 : ∀ l : List Str,(∀ k ∈ l,k ∈ keysB P) → l.flatMap (fun k => ofB (keptK P (keyS k))) = l.map fun k => contactB (keyS k) (countingB P (livingB P)) := by
  intro l
  induction l with
  | nil => intro _; rfl
  | cons k l ih =>
   intro h
   rw [List.flatMap_cons,List.map_cons,ih fun x hx => h x (List.mem_cons_of_mem _ hx)]
   unfold keptK
   rw [(hp (keyS k)).of_kept,of_key (h k List.mem_cons_self)]
   rfl
 rw [hk,h2 _ fun k h => h]
 rfl
theorem size_nil_of {P : List Ev} (h : livingB P = []) : sizeB P = 0 := by
 unfold sizeB
 rw [h]
 have : countingB P [] = [] := by
  unfold countingB
  rw [List.filter_eq_nil_iff]
  intro x _
  simp [countB,underB]
 rw [this]
 rfl
theorem on_on {p q : ByteArray → Bool} {P : List Ev} (h : ∀ k,p k = true → q k = true) : onP p (onP q P) = onP p P := by
 unfold onP
 rw [List.filter_filter]
 refine List.filter_congr fun x _ => ?_
 cases hp : p x.key with
 | false => simp
 | true => rw [h _ hp]; rfl
theorem size_keys : ∀ (ks : List Str) (P : List Ev),ks.Nodup → (∀ x ∈ livingB P,strL x.key ∈ ks) → (ks.map fun k => (keptK P (keyS k)).length).sum = sizeB P
  | [],P,_,h => by
   have : livingB P = [] := List.eq_nil_iff_forall_not_mem.2 fun x hx => by have := h x hx; cases this
   rw [size_nil_of this]
   rfl
  | k :: ks,P,hn,h => by
   obtain ⟨hk,hn⟩ := List.nodup_cons.1 hn
   have ih := size_keys ks (onP (fun x => !eqK (keyS k) x) P) hn (fun x hx => by
    rw [living_on] at hx
    obtain ⟨hx,hne⟩ := List.mem_filter.1 hx
    rcases List.mem_cons.1 (h x hx) with e | h
    · exfalso
      have : eqK (keyS k) x.key = true := decide_eq_true (by rw [← e]; unfold keyS; rw [arrS])
      have hne : (!eqK (keyS k) x.key) = true := hne
      rw [this] at hne
      cases hne
    · exact h)
   have hc : (ks.map fun q => (keptK (onP (fun x => !eqK (keyS k) x) P) (keyS q)).length) = ks.map fun q => (keptK P (keyS q)).length := List.map_congr_left fun q hq => by
    unfold keptK
    rw [on_on]
    intro y hy
    have hy : y = keyS q := of_decide_eq_true hy
    have : y ≠ keyS k := fun e => by
     rw [hy] at e
     have e : q = k := congrArg strL e
     exact hk (e ▸ hq)
    unfold eqK
    rw [decide_eq_false this]
    rfl
   rw [hc] at ih
   rw [List.map_cons,List.sum_cons,ih,size_two (p := eqK (keyS k)) (l := P)]
   congr 1
   exact size_kept
theorem Inv.pst {T P : List Ev} {H : Nat → Clk} (hI : Inv T H) (hP : ∀ x ∈ P,x ∈ T) (htr : ∀ a ∈ T,∀ b ∈ T,∀ c ∈ T,belowB a b = true → belowB b c = true → belowB a c = true) (key : ByteArray) : Pst (onP (eqK key) P) key := by
 have hs : ∀ x ∈ onP (eqK key) P,x ∈ T := fun x hx => hP x (List.mem_filter.1 hx).1
 exact ⟨on_key,fun a ha b hb => hI.stamp a (hs a ha) b (hs b hb),fun a ha b hb => hI.hgt a (hs a ha) b (hs b hb),fun a ha b hb c hc => htr a (hs a ha) b (hs b hb) c (hs c hc)⟩
end Go.Proofs.YtkkpfjifkjbndaaGreat

/-
 Plain Lean: pasts that were made are transitive; in another order what is below comes first,too.
-/
namespace Go.Proofs.YtkkpfjifkjbndaaGreat
open Go.RowKit
def TrOk (T : List Ev) : Prop := ∀ x ∈ T,∀ e ∈ T,belowB x e = true → ∀ r : Nat,r < 5 → x.c.at r ≤ e.c.at r
theorem tr_edit {T : List Ev} {H : Nat → Clk} (h : Inv T H) (h2 : TrOk T) {r : Nat} (hr : r < 5) {y : Ev} (ec : y.c = H r) (hV : (T ++ [y]).Pairwise fun a b => belowB b a = false) (hs : belowB y y = false) : TrOk (T ++ [y]) := fun x hx e he hb p hp => by
 rcases List.mem_append.1 he with he | he
 · rcases List.mem_append.1 hx with hx | hx
   · exact h2 x hx e he hb p hp
   · rw [List.mem_singleton.1 hx] at hb
     rw [(List.pairwise_append.1 hV).2.2 e he y (List.mem_singleton.2 rfl)] at hb
     cases hb
 · rw [List.mem_singleton.1 he] at hb ⊢
   rcases List.mem_append.1 hx with hx | hx
   · unfold belowB at hb
     rw [ec] at hb ⊢
     exact h.clo r hr x hx hb p hp
   · rw [List.mem_singleton.1 hx,hs] at hb
     cases hb
theorem tr_step {s : Mk} (h : Inv s.1 s.2) (h2 : TrOk s.1) (c : Ch0) : TrOk (mkStep s c).1 := by
 have hn := Inv.step h c
 obtain ⟨T,H⟩ := s
 unfold mkStep at hn ⊢
 by_cases hsy : c.sy = true
 · rw [if_pos hsy]
   exact h2
 · rw [if_neg hsy] at hn ⊢
   refine tr_edit h h2 mod_five rfl hn.ord ?_
   have hself : ∀ y,y ∈ (mkEdit (T,H) (c.r % 5).toNat (fitEd c.ed)).1 → belowB y y = false := fun y hy => by
    obtain ⟨r,h1,h3,h4,h5,h6⟩ := hn.ev y hy
    unfold belowB
    rw [h3,Bool.eq_false_iff]
    intro k
    rw [has_at h1] at k
    omega
   exact hself _ (by show _ ∈ T ++ [_]; simp)
theorem tr_fold : ∀ (l : List Ch0) (s : Mk),Inv s.1 s.2 → TrOk s.1 → TrOk (l.foldl mkStep s).1
  | [],_,_,h => h
  | c :: l,s,hi,h => by
   rw [List.foldl_cons]
   exact tr_fold l _ (Inv.step hi c) (tr_step hi h c)
theorem tr_of (l : List Ch0) : TrOk (makeL l) := tr_fold l ([],fun _ => clk0) Inv.nil fun x hx => by cases hx
theorem below_tr {T : List Ev} {H : Nat → Clk} (hI : Inv T H) (ht : TrOk T) : ∀ a ∈ T,∀ b ∈ T,∀ c ∈ T,belowB a b = true → belowB b c = true → belowB a c = true := fun a ha b hb c hc h1 h2 => by
 obtain ⟨r,k1,k2,k3,_,_⟩ := hI.ev a ha
 unfold belowB at h1 ⊢
 rw [k2,has_at k1] at h1 ⊢
 have := ht b hb c hc h2 r k1
 exact ⟨h1.1,by omega⟩
structure SprFull (W : List Ev) (s : Spr) : Prop where
 full : ∀ e ∈ W,∀ r : Nat,r < 5 → e.r = (r : Int) → e.n ≤ s.hv.at r → e ∈ s.out
 le : ∀ e ∈ s.out,∀ r : Nat,r < 5 → e.c.at r ≤ s.hv.at r
 ord : s.out.Pairwise fun a b => belowB b a = false
theorem SprFull.step {W : List Ev} {H : Nat → Clk} (hI : Inv W H) {s : Spr} (hok : SprOk W s) (h : SprFull W s) {k : Nat} (hk : k ∈ rdyL s.left s.hv) : SprFull W (sprAt s k) := by
 obtain ⟨hkl,hrp⟩ := rdy_mem.1 hk
 obtain ⟨out,left,hv⟩ := s
 obtain ⟨h1,h2,h3⟩ := h
 obtain ⟨p1,p2,p3,p4⟩ := hok
 simp only at h1 h2 h3 p1 p2 p3 p4 hkl hrp
 have hg : left.getD k default = left[k] := by rw [List.getD,List.getElem?_eq_getElem hkl]; rfl
 have hm : left[k] ∈ W := p2.subset (List.getElem_mem hkl)
 have hle : ∀ r : Nat,r < 5 → left[k].c.at r ≤ hv.at r := by
  have : left[k].c.le hv = true := by rw [← hg]; exact hrp
  exact le_at.1 this
 obtain ⟨p,q1,q2,q3,q4,q5⟩ := hI.ev _ hm
 have ep : left[k].r.toNat = p := by rw [q2]; omega
 have htop : ∀ r : Nat,r < 5 → hv.at r ≤ (hv.top p left[k].n).at r := fun r hr => by
  rw [top_at _ _ q1 hr]
  split
  · exact mx_l _ _
  · exact Int.le_refl _
 have hnout : left[k] ∉ out := fun ho => by
  have hd : (out ++ left).Pairwise fun a b => ¬ (a.r = b.r ∧ a.n = b.n) := (p1.symm.pairwise_iff (fun h k => h ⟨k.1.symm,k.2.symm⟩)).1 hI.dis
  exact (List.pairwise_append.1 hd).2.2 _ ho _ (List.getElem_mem hkl) ⟨rfl,rfl⟩
 unfold sprAt
 simp only [hg,ep]
 refine ⟨fun e he r hr er en => ?_,fun e he r hr => ?_,?_⟩
 · have en : e.n ≤ (hv.top p left[k].n).at r := en
   rw [top_at _ _ q1 hr] at en
   by_cases hrp2 : r = p
   · subst hrp2
     rw [if_pos rfl] at en
     rcases Int.lt_or_le (hv.at r) e.n with k1 | k1
     · have hh := hle r hr
       have : e.n ≤ left[k].n := by unfold mxI at en; split at en <;> omega
       have hen : e.n = left[k].n := by omega
       have : e = left[k] := hI.mark he hm (by rw [er,q2]) hen
       rw [this]
       exact List.mem_append.2 (.inr (List.mem_singleton.2 rfl))
     · exact List.mem_append.2 (.inl (h1 e he r hr er k1))
   · rw [if_neg hrp2] at en
     exact List.mem_append.2 (.inl (h1 e he r hr er en))
 · have := htop r hr
   have he : e ∈ out ++ [left[k]] := he
   show e.c.at r ≤ (hv.top p left[k].n).at r
   rcases List.mem_append.1 he with he | he
   · have := h2 e he r hr
     omega
   · rw [List.mem_singleton.1 he]
     have := hle r hr
     omega
 · show (out ++ [left[k]]).Pairwise _
   refine List.pairwise_append.2 ⟨h3,List.pairwise_singleton _ _,fun x hx y hy => ?_⟩
   rw [List.mem_singleton.1 hy,Bool.eq_false_iff]
   intro hb
   unfold belowB at hb
   rw [q2,has_at q1] at hb
   have := h2 x hx p q1
   exact hnout (h1 _ hm p q1 q2 (by omega))
theorem pick_mem {picks : List UInt8} {i : Nat} {left : List Ev} {h : Clk} (h0 : 0 ∈ rdyL left h) : pickN picks i (rdyL left h) ∈ rdyL left h := by
 have hl : 0 < (rdyL left h).length := List.length_pos_of_mem h0
 have hm : ∀ j,j < (rdyL left h).length → (rdyL left h).getD j 0 ∈ rdyL left h := fun j hj => by
  rw [List.getD,List.getElem?_eq_getElem hj]
  exact List.getElem_mem hj
 unfold pickN
 split
 · exact hm _ (Nat.mod_lt _ hl)
 · exact hm 0 hl
theorem sprN_full {W : List Ev} {H : Nat → Clk} (hI : Inv W H) (picks : List UInt8) : ∀ i,i ≤ W.length → SprFull W (sprN picks W i)
  | 0,_ => ⟨fun e he r hr er en => by
    obtain ⟨q,q1,q2,q3,_,_⟩ := hI.ev e he
    have en : e.n ≤ clk0.at r := en
    have h0 : clk0.at r = 0 := match r with | 0 => rfl | 1 => rfl | 2 => rfl | 3 => rfl | _ + 4 => rfl
    omega,fun e he => (by cases he), .nil⟩
  | i + 1,hi => by
   obtain ⟨h1,h2⟩ := sprN_ok hI picks i (by omega)
   exact (sprN_full hI picks i (by omega)).step hI h1 (pick_mem (h1.rdy hI (by omega)))
theorem spr_ord {W : List Ev} {H : Nat → Clk} (hI : Inv W H) (picks : List UInt8) : (sprL picks W).Pairwise fun a b => belowB b a = false := (sprN_full hI picks W.length (Nat.le_refl _)).ord
theorem nxt_of {W X : List Ev} {H : Nat → Clk} (hI : Inv W H) (ht : TrOk W) (hX : ∀ x ∈ X,x ∈ W) (ho : X.Pairwise fun a b => belowB b a = false) {P Q : List Ev} {e : Ev} (hs : X = P ++ e :: Q) : Nxt (onP (eqK e.key) P) e := by
 have heX : e ∈ X := by rw [hs]; simp
 have hPX : ∀ x ∈ P,x ∈ X := fun x hx => by rw [hs]; exact List.mem_append.2 (.inl hx)
 have hsub : ∀ x ∈ onP (eqK e.key) P,x ∈ P := fun x hx => (List.mem_filter.1 hx).1
 rw [hs] at ho
 refine ⟨on_key,fun x hx => (List.pairwise_append.1 ho).2.2 x (hsub x hx) e List.mem_cons_self,?_,fun a ha b hb h1 h2 => below_tr hI ht a (hX _ (hPX _ (hsub a ha))) b (hX _ (hPX _ (hsub b hb))) e (hX e heX) h1 h2,(hI.fine e (hX e heX)).k,fun x hx => (hI.fine x (hX _ (hPX _ (hsub x hx)))).k⟩
 obtain ⟨r,h1,h3,h4,h5,h6⟩ := hI.ev e (hX e heX)
 unfold belowB
 rw [h3,Bool.eq_false_iff]
 intro k
 rw [has_at h1] at k
 omega
end Go.Proofs.YtkkpfjifkjbndaaGreat
