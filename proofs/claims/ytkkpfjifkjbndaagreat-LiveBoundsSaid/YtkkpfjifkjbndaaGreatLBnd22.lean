/-
  Contracts of the walk: LxP, LxBp, LxC, LxB, LenA, L3.
-/
import Derived.Test.YtkkpfjifkjbndaaGreatLBnd21
import Derived.Test.YtkkpfjifkjbndaaGreatLBnd11
import Derived.Test.YtkkpfjifkjbndaaGreatLBnd6
import Derived.Test.YtkkpfjifkjbndaaGreatLBnd10
/-
 Pasts,as layer 10's statements make them.
-/
namespace Go.Proofs.YtkkpfjifkjbndaaGreat
open Go.RowKit
structure Row (X : List Ev) : Prop where
 nxt : ∀ i,i < X.length → Nxt (onP (eqK (X.getD i default).key) (X.take i)) (X.getD i default)
 may : ∀ i,i < X.length → mayE (X.getD i default) = 0
 pst : ∀ i key,Pst (onP (eqK key) (X.take i)) key
 len : X.length ≤ 50
theorem row_of {W X : List Ev} {H : Nat → Clk} (hI : Inv W H) (ht : TrOk W) (hm : ∀ e ∈ W,mayE e = 0) (hl : W.length ≤ 50) (hX : W.Perm X) (ho : X.Pairwise fun a b => belowB b a = false) : Row X := by
 have hs : ∀ x ∈ X,x ∈ W := fun x hx => hX.mem_iff.2 hx
 have hg : ∀ i,i < X.length → X.getD i default = X.getD i default ∧ X.getD i default ∈ X := fun i hi => ⟨rfl,by rw [List.getD,List.getElem?_eq_getElem hi]; exact List.getElem_mem hi⟩
 refine ⟨fun i hi => ?_,fun i hi => hm _ (hs _ (hg i hi).2),fun i key => hI.pst (fun x hx => hs x (List.mem_of_mem_take hx)) (below_tr hI ht) key,by rw [← hX.length_eq]; exact hl⟩
 refine nxt_of hI ht hs ho (Q := X.drop (i + 1)) ?_
 have h1 : X.getD i default = X[i] := by rw [List.getD,List.getElem?_eq_getElem hi]; rfl
 rw [h1,List.getElem_cons_drop hi,List.take_append_drop]
theorem rng_of {l : List Ch0} (h : ∀ c ∈ l,c.rng) (k : Nat) : ∀ c ∈ l.take k,c.rng := fun c hc => h c (List.mem_of_mem_take hc)
theorem mk_len (l : List Ch0) : (makeL (l.take 40)).length ≤ 40 := by
 have h := (mkB_of (l.take 40)).2.2
 rw [List.length_take] at h
 have h : (makeL (l.take 40)).length ≤ min 40 l.length := h
 omega
theorem row_spread (l : List Ch0) (picks : List UInt8) : Row (sprL picks (makeL (l.take 40))) := by
 have hlt : (l.take 40).length ≤ 40 := by rw [List.length_take]; omega
 have hI := inv_of (l.take 40)
 have hW := mk_len l
 exact row_of hI (tr_of _) (mk_may _ (by omega)) (Nat.le_trans hW (by omega)) (spr_perm hI picks) (spr_ord hI picks)
theorem Row.apply {X : List Ev} (h : Row X) {i : Nat} (hi : i < X.length) :
  MSpec Tryz.prog 13 [(0, .obs (bookO (X.take i) i))] [.box 0 0,(X.getD i default).av] (.v (.int .i64 0)) [(0, .obs (bookO (X.take (i + 1)) (i + 1)))] := by
 have := apply_b (h.nxt i hi) (h.may i hi) (by have := h.len; rw [List.length_take]; omega) i
 rwa [show X.take i ++ [X.getD i default] = X.take (i + 1) by rw [List.take_add_one,List.getD,List.getElem?_eq_getElem hi]; rfl] at this
theorem Row.all {X : List Ev} (h : Row X) (key : ByteArray) : Pst (onP (eqK key) X) key := by
 have := h.pst X.length key
 rwa [List.take_length] at this
end Go.Proofs.YtkkpfjifkjbndaaGreat

/-
 How much is kept,in plain words: of each field that is listed one write at least,of each value one addition at least,and no more of either than there are replicas.
-/
namespace Go.Proofs.YtkkpfjifkjbndaaGreat
open Go.RowKit
theorem split_len {α : Type} (p : α → Bool) : ∀ C : List α,(C.filter p).length + (C.filter fun x => !p x).length = C.length
  | [] => rfl
  | x :: C => by
   have := split_len p C
   rw [List.filter_cons,List.filter_cons]
   cases p x <;> simp <;> omega
theorem fiber_sum {α β : Type} [DecidableEq β] {f : α → β} : ∀ {T : List β},T.Nodup → ∀ {C : List α},(∀ x ∈ C,f x ∈ T) → (T.map fun t => (C.filter fun x => decide (f x = t)).length).sum = C.length
  | [],_,C,h => by
   cases C with
   | nil => rfl
   | cons x C => exact absurd (h x List.mem_cons_self) (by simp)
  | t :: T,hn,C,h => by
   obtain ⟨h1,h2⟩ := List.nodup_cons.1 hn
   have ih := fiber_sum h2 (C := C.filter fun x => !decide (f x = t)) fun x hx => by
    obtain ⟨hx1,hx2⟩ := List.mem_filter.1 hx
    rcases List.mem_cons.1 (h x hx1) with e | e
    · simp [e] at hx2
    · exact e
   have hm : (T.map fun t' => ((C.filter fun x => !decide (f x = t)).filter fun x => decide (f x = t')).length) = T.map fun t' => (C.filter fun x => decide (f x = t')).length := List.map_congr_left fun t' ht => by
    rw [List.filter_filter]
    congr 1
    refine List.filter_congr fun x _ => ?_
    by_cases e : f x = t'
    · have : t' ≠ t := fun h => h1 (h ▸ ht)
      simp [e,this]
    · simp [e]
   rw [hm] at ih
   have := split_len (fun x => decide (f x = t)) C
   rw [List.map_cons,List.sum_cons,ih]
   omega
theorem sum_bnd {β : Type} {g : β → Nat} : ∀ {T : List β},(∀ t ∈ T,1 ≤ g t ∧ g t ≤ 5) → T.length ≤ (T.map g).sum ∧ (T.map g).sum ≤ 5 * T.length
  | [],_ => ⟨Nat.le_refl _,Nat.le_refl _⟩
  | t :: T,h => by
   have h1 := h t List.mem_cons_self
   have h2 := sum_bnd (T := T) fun x hx => h x (List.mem_cons_of_mem _ hx)
   simp only [List.map_cons,List.sum_cons,List.length_cons]
   omega
structure Rep (p : List Ev) : Prop where
 ev : ∀ e ∈ p,∃ r : Nat,r < 5 ∧ e.r = (r : Int) ∧ 1 ≤ e.n ∧ e.c.at r = e.n - 1
 dis : p.Pairwise fun a b => ¬ (a.r = b.r ∧ a.n = b.n)
 lab : ∀ e ∈ p,e.l = 0 ∨ e.l = 1
theorem Rep.filter {p : List Ev} (h : Rep p) (q : Ev → Bool) : Rep (p.filter q) :=
 ⟨fun e he => h.ev e (List.mem_filter.1 he).1,h.dis.filter _,fun e he => h.lab e (List.mem_filter.1 he).1⟩
theorem Rep.bel {p : List Ev} (h : Rep p) {a b : Ev} (ha : a ∈ p) (hb : b ∈ p) (hr : a.r = b.r) (hn : a.n < b.n) : belowB a b = true := by
 obtain ⟨r,h1,h2,h3,h4⟩ := h.ev b hb
 obtain ⟨q,k1,k2,k3,k4⟩ := h.ev a ha
 have : a.r = (r : Int) := hr.trans h2
 unfold belowB
 rw [this]
 exact (has_at h1).2 ⟨k3,by omega⟩
theorem five (l : List Ev) (h : l.Pairwise fun a b => a.r ≠ b.r) (hr : ∀ e ∈ l,∃ r : Nat,r < 5 ∧ e.r = (r : Int)) : l.length ≤ 5 := by
 have hs := fiber_sum (f := fun e : Ev => e.r) (T := [0,1,2,3,4]) (by decide) (C := l) fun e he => by
  obtain ⟨r,h1,h2⟩ := hr e he
  rw [h2]
  rcases (show r = 0 ∨ r = 1 ∨ r = 2 ∨ r = 3 ∨ r = 4 by omega) with rfl | rfl | rfl | rfl | rfl <;> simp
 have h1 : ∀ t : Int,(l.filter fun e => decide (e.r = t)).length ≤ 1 := fun t => by
  have hp : (l.filter fun e => decide (e.r = t)).Pairwise fun a b => a.r ≠ b.r := h.filter _
  have hm : ∀ e ∈ l.filter fun e => decide (e.r = t),e.r = t := fun e he => of_decide_eq_true (List.mem_filter.1 he).2
  generalize (l.filter fun e => decide (e.r = t)) = q at hp hm
  match q with
  | [] => exact Nat.zero_le _
  | [_] => exact Nat.le_refl _
  | a :: b :: r =>
   refine absurd ?_ ((List.pairwise_cons.1 hp).1 b List.mem_cons_self)
   rw [hm a List.mem_cons_self,hm b (List.mem_cons_of_mem _ List.mem_cons_self)]
 simp only [List.map_cons,List.map_nil,List.sum_cons,List.sum_nil] at hs
 have a0 := h1 0
 have a1 := h1 1
 have a2 := h1 2
 have a3 := h1 3
 have a4 := h1 4
 omega
theorem top_of : ∀ {A : List Ev},A ≠ [] → ∃ m ∈ A,∀ x ∈ A,¬ lessB (stampE m) (stampE x) = true
  | [],h => absurd rfl h
  | [a],_ => ⟨a,List.mem_cons_self,fun x hx => by rw [List.mem_singleton.1 hx,less_iff]; omega⟩
  | a :: b :: A,_ => by
   obtain ⟨m,hm,h⟩ := top_of (A := b :: A) (List.cons_ne_nil _ _)
   by_cases hl : lessB (stampE m) (stampE a) = true
   · refine ⟨a,List.mem_cons_self,fun x hx hx2 => ?_⟩
     rcases List.mem_cons.1 hx with rfl | hx
     · rw [less_iff] at hx2; omega
     · refine h x hx ?_
       rw [less_iff] at hl hx2 ⊢
       omega
   · refine ⟨m,List.mem_cons_of_mem _ hm,fun x hx => ?_⟩
     rcases List.mem_cons.1 hx with rfl | hx
     · exact hl
     · exact h x hx
def keptC (p : List Ev) : List Ev := (countingB p (livingB p)).filter fun e => !laterB p e
def thingsC (c : Cont) : Nat := c.s0.length + c.s1.length + (if c.h0 = true then 1 else 0) + (if c.h1 = true then 1 else 0)
def thE (x : Ev) : Int × Option Str := (x.l,if x.k = 3 then none else some (strL x.v))
def thL (key : ByteArray) (ws : List Ev) : List (Int × Option Str) :=
 (if hasF (setsB key 0 ws) = true then [(0,none)] else []) ++ (if hasF (setsB key 1 ws) = true then [(1,none)] else []) ++ ((valsF (addsB key 0 ws)).map fun v => ((0 : Int),some v)) ++ ((valsF (addsB key 1 ws)).map fun v => ((1 : Int),some v))
theorem thL_len (key : ByteArray) (ws : List Ev) : (thL key ws).length = thingsC (contactB key ws) := by
 unfold thL thingsC contactB
 simp only [List.length_append,List.length_map]
 cases hasF (setsB key 0 ws) <;> cases hasF (setsB key 1 ws) <;> simp <;> omega
theorem vals_nd (B : List Ev) : (valsF B).Nodup := by
 have := (uniq_props (B.map fun e => strL e.v)).1
 exact List.Pairwise.imp (fun h => by rintro rfl; exact List.lt_irrefl _ h) (show (valsF B).Pairwise _ from this)
theorem mem_vals {B : List Ev} {v : Str} : v ∈ valsF B ↔ ∃ e ∈ B,strL e.v = v := by
 have := (uniq_props (B.map fun e => strL e.v)).2 v
 rw [List.mem_map] at this
 exact this
theorem thL_nd (key : ByteArray) (ws : List Ev) : (thL key ws).Nodup := by
 have i0 : ∀ n : Int,((valsF (addsB key n ws)).map fun v => (n,some v)).Nodup := fun n =>
  List.pairwise_map.2 ((vals_nd _).imp fun {a b} h e => h (by simpa using e))
 unfold thL
 rw [List.nodup_append,List.nodup_append,List.nodup_append]
 refine ⟨⟨⟨?_,?_,?_⟩,i0 0,?_⟩,i0 1,?_⟩
 · split <;> simp
 · split <;> simp
 · intro a ha b hb
   split at ha <;> split at hb <;> simp at ha hb
   subst ha hb
   simp
 · intro a ha b hb
   obtain ⟨v,_,rfl⟩ := List.mem_map.1 hb
   rcases List.mem_append.1 ha with ha | ha <;> (split at ha <;> simp at ha; subst ha; simp)
 · intro a ha b hb
   obtain ⟨v,_,rfl⟩ := List.mem_map.1 hb
   rcases List.mem_append.1 ha with ha | ha
   · rcases List.mem_append.1 ha with ha | ha <;> (split at ha <;> simp at ha; subst ha; simp)
   · obtain ⟨u,_,rfl⟩ := List.mem_map.1 ha
     simp
theorem mem_sets {key : ByteArray} {n : Int} {ws : List Ev} {x : Ev} : x ∈ setsB key n ws ↔ x ∈ ws ∧ (x.key = key ∧ x.l = n) ∧ x.k = 3 := by
 unfold setsB ofK
 rw [List.mem_filter]
 simp
theorem mem_adds {key : ByteArray} {n : Int} {ws : List Ev} {x : Ev} : x ∈ addsB key n ws ↔ x ∈ ws ∧ (x.key = key ∧ x.l = n) ∧ x.k ≠ 3 := by
 unfold addsB ofK
 rw [List.mem_filter]
 simp
theorem has_iff {A : List Ev} : hasF A = true ↔ A ≠ [] := by
 unfold hasF
 cases A <;> simp
section
variable {p : List Ev} {key : ByteArray} (t : Pst p key) (h : Rep p)
include t h
theorem key_bnd : thingsC (contactB key (countingB p (livingB p))) ≤ (keptC p).length ∧ (keptC p).length ≤ 5 * thingsC (contactB key (countingB p (livingB p))) := by
 have hws : ∀ x ∈ countingB p (livingB p),x ∈ p ∧ x.key = key ∧ (x.k = 3 ∨ x.k = 4) ∧ (x.l = 0 ∨ x.l = 1) := fun x hx => by
  obtain ⟨h1,h2⟩ := List.mem_filter.1 hx
  exact ⟨h1,t.key x h1,count_kind h2,h.lab x h1⟩
 have htop := @Pst.top_kept p key t
 have hC : ∀ x ∈ keptC p,x ∈ countingB p (livingB p) ∧ laterB p x = false := fun x hx => by
  obtain ⟨h1,h2⟩ := List.mem_filter.1 hx
  exact ⟨h1,by simpa using h2⟩
 have hC2 : ∀ x,x ∈ countingB p (livingB p) → laterB p x = false → x ∈ keptC p := fun x h1 h2 => List.mem_filter.2 ⟨h1,by simp [h2]⟩
 have hdis : (keptC p).Pairwise fun a b => ¬ (a.r = b.r ∧ a.n = b.n) := (h.dis.filter _).filter _
 generalize countingB p (livingB p) = ws at *
 generalize keptC p = C at *
 have hmem : ∀ x ∈ C,thE x ∈ thL key ws := fun x hx => by
  obtain ⟨h1,_⟩ := hC x hx
  obtain ⟨_,h2,h3,h4⟩ := hws x h1
  unfold thE thL
  simp only [List.mem_append]
  rcases h3 with h3 | h3
  · have hs : x ∈ setsB key x.l ws := mem_sets.2 ⟨h1,⟨h2,rfl⟩,h3⟩
    have hf : hasF (setsB key x.l ws) = true := has_iff.2 (List.ne_nil_of_mem hs)
    rw [if_pos h3]
    rcases h4 with h4 | h4 <;> rw [h4] at hf ⊢ <;> simp [hf]
  · have hv : strL x.v ∈ valsF (addsB key x.l ws) := mem_vals.2 ⟨x,mem_adds.2 ⟨h1,⟨h2,rfl⟩,by omega⟩,rfl⟩
    rw [if_neg (show ¬ x.k = 3 by omega)]
    rcases h4 with h4 | h4 <;> rw [h4] at hv ⊢ <;> simp [hv]
 have hex : ∀ A : List Ev,A ≠ [] → (∀ x ∈ A,x ∈ ws) → (∀ x ∈ A,∀ y ∈ ws,y.k = x.k → (if x.k = 4 then sameV y x else sameL y x) = true → y ∈ A) → ∃ m ∈ A,m ∈ C := fun A h1 h2 h3 => by
  obtain ⟨m,hm,hmt⟩ := top_of h1
  exact ⟨m,hm,hC2 m (h2 m hm) (htop hm h2 hmt fun y hy => h3 m hm y hy)⟩
 have hset : ∀ n : Int,hasF (setsB key n ws) = true → ∃ m ∈ C,thE m = (n,none) := fun n hf => by
  obtain ⟨m,hm,hmC⟩ := hex (setsB key n ws) (has_iff.1 hf) (fun x hx => (mem_sets.1 hx).1) fun x hx y hy hk hs => by
   obtain ⟨_,⟨_,x2⟩,x3⟩ := mem_sets.1 hx
   rw [if_neg (by omega)] at hs
   unfold sameL at hs
   simp only [Bool.and_eq_true,decide_eq_true_eq] at hs
   exact mem_sets.2 ⟨hy,⟨(hws y hy).2.1,by omega⟩,by omega⟩
  obtain ⟨_,⟨_,x2⟩,x3⟩ := mem_sets.1 hm
  exact ⟨m,hmC,by unfold thE; rw [if_pos x3,x2]⟩
 have hadd : ∀ (n : Int) (v : Str),v ∈ valsF (addsB key n ws) → ∃ m ∈ C,thE m = (n,some v) := fun n v hv => by
  obtain ⟨e,he,hev⟩ := mem_vals.1 hv
  obtain ⟨m,hm,hmC⟩ := hex ((addsB key n ws).filter fun e => decide (strL e.v = v)) (List.ne_nil_of_mem (List.mem_filter.2 ⟨he,decide_eq_true hev⟩)) (fun x hx => (mem_adds.1 (List.mem_filter.1 hx).1).1) fun x hx y hy hk hs => by
   obtain ⟨hx1,hx2⟩ := List.mem_filter.1 hx
   obtain ⟨hxw,⟨_,x2⟩,x3⟩ := mem_adds.1 hx1
   have h4 : x.k = 4 := by have := (hws x hxw).2.2.1; omega
   rw [if_pos h4] at hs
   unfold sameV sameL at hs
   simp only [Bool.and_eq_true,decide_eq_true_eq] at hs
   exact List.mem_filter.2 ⟨mem_adds.2 ⟨hy,⟨(hws y hy).2.1,by omega⟩,by omega⟩,by rw [hs.2]; exact hx2⟩
  obtain ⟨hm1,hm2⟩ := List.mem_filter.1 hm
  obtain ⟨_,⟨_,x2⟩,x3⟩ := mem_adds.1 hm1
  exact ⟨m,hmC,by unfold thE; rw [if_neg x3,x2,of_decide_eq_true hm2]⟩
 have hone : ∀ q ∈ thL key ws,∃ m ∈ C,thE m = q := fun q hq => by
  unfold thL at hq
  simp only [List.mem_append,List.mem_map] at hq
  rcases hq with ((hq | hq) | ⟨v,hv,rfl⟩) | ⟨v,hv,rfl⟩
  · split at hq
    · rename_i hf
      rw [List.mem_singleton.1 hq]
      exact hset 0 hf
    · cases hq
  · split at hq
    · rename_i hf
      rw [List.mem_singleton.1 hq]
      exact hset 1 hf
    · cases hq
  · exact hadd 0 v hv
  · exact hadd 1 v hv
 have hfive : ∀ q,(C.filter fun x => decide (thE x = q)).length ≤ 5 := fun q => by
  refine five _ ?_ fun e he => by
   obtain ⟨r,h1,h2,_⟩ := h.ev e (hws e (hC e (List.mem_filter.1 he).1).1).1
   exact ⟨r,h1,h2⟩
  have key2 : ∀ a ∈ C,∀ b ∈ C,thE a = thE b → a.r = b.r → ¬ a.n < b.n := fun a ha b hb he hr hn => by
   obtain ⟨haw,hal⟩ := hC a ha
   obtain ⟨hbw,_⟩ := hC b hb
   obtain ⟨hap,ak,ak2,_⟩ := hws a haw
   obtain ⟨hbp,bk,bk2,_⟩ := hws b hbw
   have hbel := h.bel hap hbp hr hn
   unfold thE at he
   have e1 : a.l = b.l := congrArg Prod.fst he
   have e2 : (if a.k = 3 then none else some (strL a.v)) = (if b.k = 3 then none else some (strL b.v)) := congrArg Prod.snd he
   have : laterB p a = true := by
    unfold laterB aboveB
    refine List.any_eq_true.2 ⟨b,hbp,?_⟩
    rcases ak2 with a3 | a4
    · have b3 : b.k = 3 := by
       rcases bk2 with b3 | b4
       · exact b3
       · rw [if_pos a3,if_neg (by omega)] at e2
         cases e2
      simp [a3,b3,sameL,sameK,ak,bk,e1,hbel]
    · have b4 : b.k = 4 := by
       rcases bk2 with b3 | b4
       · rw [if_neg (by omega),if_pos b3] at e2
         cases e2
       · exact b4
      rw [if_neg (by omega),if_neg (by omega)] at e2
      have ev : a.v = b.v := strL_inj (Option.some.inj e2)
      simp [a4,b4,sameV,sameL,sameK,ak,bk,e1,ev,hbel]
   rw [this] at hal
   cases hal
  refine (hdis.filter _).imp_of_mem fun {a b} ha hb hab hr => ?_
  obtain ⟨ha1,ha2⟩ := List.mem_filter.1 ha
  obtain ⟨hb1,hb2⟩ := List.mem_filter.1 hb
  have he : thE a = thE b := (of_decide_eq_true ha2).trans (of_decide_eq_true hb2).symm
  have n1 := key2 a ha1 b hb1 he hr
  have n2 := key2 b hb1 a ha1 he.symm hr.symm
  exact hab ⟨hr,by omega⟩
 have hs := fiber_sum (thL_nd key ws) hmem
 have hb := sum_bnd (T := thL key ws) (g := fun q => (C.filter fun x => decide (thE x = q)).length) fun q hq => ⟨by
  obtain ⟨m,hm,e⟩ := hone q hq
  exact List.length_pos_of_mem (List.mem_filter.2 ⟨hm,decide_eq_true e⟩),hfive q⟩
 rw [thL_len,hs] at hb
 exact hb
end
theorem sum_le {β : Type} {f g : β → Nat} : ∀ {T : List β},(∀ t ∈ T,f t ≤ g t ∧ g t ≤ 5 * f t) → (T.map f).sum ≤ (T.map g).sum ∧ (T.map g).sum ≤ 5 * (T.map f).sum
  | [],_ => ⟨Nat.le_refl _,Nat.le_refl _⟩
  | t :: T,h => by
   have h1 := h t List.mem_cons_self
   have h2 := sum_le (T := T) fun x hx => h x (List.mem_cons_of_mem _ hx)
   simp only [List.map_cons,List.sum_cons]
   omega
theorem kept_on (P : List Ev) (key : ByteArray) : keptC (onP (eqK key) P) = (keptC P).filter fun e => decide (e.key = key) := by
 unfold keptC
 rw [counting_on]
 unfold onP
 rw [List.filter_filter,List.filter_filter]
 refine List.filter_congr fun x hx => ?_
 by_cases hk : x.key = key
 · have := later_on (p := eqK key) (l := P) (e := x) (decide_eq_true hk)
   unfold onP at this
   rw [this]
   simp [eqK,hk]
 · simp [eqK,hk]
theorem all_bnd {P : List Ev} (hp : ∀ key,Pst (onP (eqK key) P) key) (h : Rep P) :
  (livingB P).length + ((ofB P).map thingsC).sum ≤ sizeB P ∧ sizeB P ≤ (livingB P).length + 5 * ((ofB P).map thingsC).sum ∧ (ofB P).length ≤ (livingB P).length := by
 have hsz : sizeB P = (livingB P).length + (keptC P).length := rfl
 have hof : ofB P = (keysB P).map fun k => contactB (keyS k) (countingB P (livingB P)) := rfl
 have hu := uniq_props ((livingB P).map fun e : Ev => strL e.key)
 have hnd : (keysB P).Nodup := List.Pairwise.imp (fun h => by rintro rfl; exact List.lt_irrefl _ h) (show (keysB P).Pairwise _ from hu.1)
 have hin : ∀ x ∈ keptC P,strL x.key ∈ keysB P := fun x hx => by
  have h1 := (List.mem_filter.1 (List.mem_filter.1 hx).1).2
  unfold countB at h1
  simp only [Bool.and_eq_true] at h1
  obtain ⟨a,ha,hb⟩ := List.any_eq_true.1 h1.2
  simp only [Bool.and_eq_true,sameK,decide_eq_true_eq] at hb
  exact (hu.2 _).2 (List.mem_map.2 ⟨a,ha,by rw [hb.2.1]⟩)
 have hs : ((keysB P).map fun k => ((keptC P).filter fun x => decide (strL x.key = k)).length).sum = (keptC P).length := fiber_sum (f := fun e : Ev => strL e.key) hnd hin
 have hk : ∀ k ∈ keysB P,thingsC (contactB (keyS k) (countingB P (livingB P))) ≤ ((keptC P).filter fun x => decide (strL x.key = k)).length ∧ ((keptC P).filter fun x => decide (strL x.key = k)).length ≤ 5 * thingsC (contactB (keyS k) (countingB P (livingB P))) := fun k _ => by
  have hb := key_bnd (hp (keyS k)) (h.filter _ : Rep (onP (eqK (keyS k)) P))
  rw [kept_on,counting_on,contact_on (show eqK (keyS k) (keyS k) = true from decide_eq_true rfl)] at hb
  have hf : ((keptC P).filter fun x => decide (strL x.key = k)) = (keptC P).filter fun e => decide (e.key = keyS k) := List.filter_congr fun x _ => by
   refine decide_eq_decide.2 ⟨fun e => strL_inj (by rw [strL_keyS]; exact e),fun e => by rw [e]; exact strL_keyS k⟩
  rw [hf]
  exact hb
 have hb : ((keysB P).map fun k => thingsC (contactB (keyS k) (countingB P (livingB P)))).sum ≤ (keptC P).length ∧ (keptC P).length ≤ 5 * ((keysB P).map fun k => thingsC (contactB (keyS k) (countingB P (livingB P)))).sum := by
  rw [← hs]
  exact sum_le hk
 have hl : (ofB P).length ≤ (livingB P).length := by
  rw [hof,List.length_map]
  refine Nat.le_trans (compact_le _) ?_
  unfold sortL
  rw [List.length_mergeSort,List.length_map]
  exact Nat.le_refl _
 rw [hof,List.map_map,hsz]
 have e : ((keysB P).map (thingsC ∘ fun k => contactB (keyS k) (countingB P (livingB P)))) = (keysB P).map fun k => thingsC (contactB (keyS k) (countingB P (livingB P))) := rfl
 rw [e]
 rw [hof] at hl
 exact ⟨by omega,by omega,by simpa using hl⟩
end Go.Proofs.YtkkpfjifkjbndaaGreat

/-
 LiveBounds: how many Creates live,as the statement counts them.
-/
namespace Go.Proofs.YtkkpfjifkjbndaaGreat
open Go.RowKit
def goP (e d : Ev) : Bool := belowB e d && (decide (d.k = 2) && decide (d.key = e.key))
def goB (l : List Ev) (e : Ev) : Bool := !decide (e.k = 1) || l.any (goP e)
theorem lives_go (l : List Ev) (e : Ev) : livesB l e = !goB l e := by
 unfold livesB goB aboveB
 have : (l.any fun a => decide (a.k = 2) && (sameK a e && belowB e a)) = l.any (goP e) := any_congr fun a _ => by
  unfold goP sameK
  cases decide (a.k = 2) <;> cases decide (a.key = e.key) <;> cases belowB e a <;> rfl
 rw [this]
 cases decide (e.k = 1) <;> cases l.any (goP e) <;> rfl
theorem go_snoc {l : List Ev} {e : Ev} {k : Nat} (h : k < l.length) : goB (l.take (k + 1)) e = (goB (l.take k) e || goP e (l.getD k default)) := by
 unfold goB
 rw [List.take_add_one,List.any_append,List.getD,List.getElem?_eq_getElem h]
 cases decide (e.k = 1) <;> simp
set_option maxHeartbeats 8000000 in
set_option maxRecDepth 100000 in
theorem lives_spec (l : List Ev) (hl : l.length ≤ 100000) : ASpec Tryz.prog 14 [.sl 12 l.length true (evF l)] (.v (.int .i64 ((livingB l).length : Int))) [] := by
 refine aspec_of lay_ok 2305843009222084861 Tryz.func14 rfl rfl rfl ?_
 repeat' ((conv => whnf); first | refine Spl.yes (by first | assumption | omega) ?_ | refine Spl.no (by first | assumption | omega) ?_ | refine Wr.i64 (by omega) (by omega) ?_ | refine Still.mk rfl rfl ?_ | refine InB.mk (inB_mk (by omega) (by omega)) ?_ | refine Req.mk (by omega) ?_ | refine Req.mk ⟨by first | omega | (dsimp only; omega),by first | omega | (dsimp only; omega)⟩ ?_ | refine ARet.hdI ?_ | refine Spl.mk (fun _ => ?_) (fun _ => ?_) | refine InA.mk (inB_mk (by omega) (by omega)) ?_ | refine Wr.b64 ?_ | refine Wr.bu64 ?_ | refine Wr.bu32 ?_ | refine Wr.bu8 ?_ | refine Wr.u8 (by omega) (by omega) ?_ | refine Wr.u64 (by omega) (by omega) ?_ | refine Wr.u32 (by omega) (by omega) ?_ | refine Dv.pos (by omega) (by omega) ?_ | refine Rm.pos (by omega) (by omega) ?_ | refine ADraw.quiet follows_ok (by kernel_rfl) rfl ?_ | refine ADraw.sched (id := 9) lay_ok (awp_snd lay_ok _) [(0,none),(1,none),(2,none),(3,none),(4,none),(5,none),(6,none),(7,none),(8,some [7,3]),(9,none)] [(8,[7,3]),(9,[7,3])] follows_ok (by kernel_rfl) ?_ | refine BSpl.decY (by first | assumption | omega) ?_ | refine BSpl.decN (by first | assumption | omega) ?_ | refine BSpl.dec (fun _ => ?_) (fun _ => ?_) | refine BSpl.yes (by assumption) ?_ | refine BSpl.no (by assumption) ?_ | refine BSpl.mk (fun _ => ?_) (fun _ => ?_))
 conv => whnf
 refine ALoop.mk { i : Nat // i ≤ l.length } (fun i => ⟨[(0, .sl 12 l.length true (evF l)),(3, .v (.int .i64 (((l.take i.1).filter (livesB l)).length : Int))),(4, .v (.int .i64 (i.1 : Int)))],[],[],0⟩) (fun i => l.length - i.1) ⟨0,Nat.zero_le _⟩ _
  (LeR.mk' [] _ _ _ rfl ⟨AEq.refl _,AEq.int rfl,AEq.int rfl,trivial⟩ trivial rfl) ?_
 rintro ⟨i,hi⟩
 dsimp only
 have hm : ((l.take i).filter (livesB l)).length ≤ i := by
  have := List.length_filter_le (livesB l) (l.take i)
  rw [List.length_take] at this
  omega
 by_cases hil : i < l.length
 · have hsn : ((l.take (i + 1)).filter (livesB l)).length = ((l.take i).filter (livesB l)).length + (if goB l (l.getD i default) = true then 0 else 1) := by
    rw [List.take_add_one,List.filter_append,List.length_append,List.getD,List.getElem?_eq_getElem hil]
    have : livesB l l[i] = !goB l l[i] := lives_go l l[i]
    simp only [Option.toList_some,List.filter_cons,List.filter_nil,this,Option.getD_some]
    by_cases hg : goB l l[i] = true <;> simp [hg]
   obtain ⟨M,hM⟩ : ∃ M,((l.take i).filter (livesB l)).length = M := ⟨_,rfl⟩
   rw [hM] at hm hsn ⊢
   have h0 : goB (l.take 0) (l.getD i default) = !decide ((l.getD i default).k = 1) := by
    unfold goB
    simp
   repeat' ((conv => whnf); first | refine Spl.yes (by first | assumption | omega) ?_ | refine Spl.no (by first | assumption | omega) ?_ | refine Wr.i64 (by omega) (by omega) ?_ | refine Still.mk rfl rfl ?_ | refine InB.mk (inB_mk (by omega) (by omega)) ?_ | refine Req.mk (by omega) ?_ | refine Req.mk ⟨by first | omega | (dsimp only; omega),by first | omega | (dsimp only; omega)⟩ ?_ | refine Spl.mk (fun _ => ?_) (fun _ => ?_) | refine InA.mk (inB_mk (by omega) (by omega)) ?_ | refine Wr.b64 ?_ | refine Wr.bu64 ?_ | refine Wr.bu32 ?_ | refine Wr.bu8 ?_ | refine Wr.u8 (by omega) (by omega) ?_ | refine Wr.u64 (by omega) (by omega) ?_ | refine Wr.u32 (by omega) (by omega) ?_ | refine Dv.pos (by omega) (by omega) ?_ | refine Rm.pos (by omega) (by omega) ?_ | refine ADraw.quiet follows_ok (by kernel_rfl) rfl ?_ | refine ADraw.sched (id := 9) lay_ok (awp_snd lay_ok _) [(0,none),(1,none),(2,none),(3,none),(4,none),(5,none),(6,none),(7,none),(8,some [7,3]),(9,none)] [(8,[7,3]),(9,[7,3])] follows_ok (by kernel_rfl) ?_ | refine BSpl.decY (by first | assumption | omega) ?_ | refine BSpl.decN (by first | assumption | omega) ?_ | refine BSpl.dec (fun _ => ?_) (fun _ => ?_) | refine BSpl.yes (by assumption) ?_ | refine BSpl.no (by assumption) ?_ | refine BSpl.mk (fun _ => ?_) (fun _ => ?_))
   all_goals (conv => whnf)
   all_goals first
     | exact absurd (show Nat.ble _ _ = false by assumption) (by rw [Bool.not_eq_false,Nat.ble_eq]; omega)
     | skip
   · refine ALoop.mk { x : Nat × Bool // x.1 ≤ l.length ∧ goB (l.take x.1) (l.getD i default) = x.2 } (fun x => ⟨[(0, .sl 12 l.length true (evF l)),(3, .v (.int .i64 (M : Int))),(4, .v (.int .i64 (i : Int))),(5, .v (.bool x.1.2)),(6, .v (.int .i64 (x.1.1 : Int)))],[],[],0⟩) (fun x => l.length - x.1.1) ⟨(0,false),Nat.zero_le _,by rw [h0]; simp; first | assumption | (rename_i hk; simpa using hk)⟩ _
      (LeR.mk' [] _ _ _ rfl ⟨AEq.refl _,AEq.refl _,AEq.refl _,AEq.refl _,AEq.int rfl,trivial⟩ trivial rfl) ?_
     rintro ⟨⟨k,b⟩,hk,hb⟩
     dsimp only at hk hb ⊢
     by_cases hkl : k < l.length
     · have hbj := below_spec (l.getD (i : Int).toNat default) (l.getD (k : Int).toNat default)
       have hgo := go_snoc (e := l.getD i default) hkl
       rw [hb] at hgo
       have hg2 : goP (l.getD i default) (l.getD k default) = (belowB (l.getD (i : Int).toNat default) (l.getD (k : Int).toNat default) && (decide ((l.getD (k : Int).toNat default).k = 2) && decide ((l.getD (k : Int).toNat default).key = (l.getD (i : Int).toNat default).key))) := rfl
       rw [hg2] at hgo
       generalize belowB (l.getD (i : Int).toNat default) (l.getD (k : Int).toNat default) = q at hbj hgo
       have o1 : b = true → goB (l.take (k + 1)) (l.getD i default) = true := fun h => by rw [hgo,h]; rfl
       have o2 : q = true → (l.getD (k : Int).toNat default).k = 2 → (l.getD (k : Int).toNat default).key = (l.getD (i : Int).toNat default).key → goB (l.take (k + 1)) (l.getD i default) = true := fun h1 h2 h3 => by
        rw [hgo,h1,decide_eq_true h2,decide_eq_true h3]
        cases b <;> rfl
       have o3 : b = false → q = false → goB (l.take (k + 1)) (l.getD i default) = false := fun h h1 => by rw [hgo,h,h1]; rfl
       have o4 : b = false → ¬ (l.getD (k : Int).toNat default).k = 2 → goB (l.take (k + 1)) (l.getD i default) = false := fun h h1 => by
        rw [hgo,h,decide_eq_false h1]
        cases q <;> rfl
       have o5 : b = false → ¬ (l.getD (k : Int).toNat default).key = (l.getD (i : Int).toNat default).key → goB (l.take (k + 1)) (l.getD i default) = false := fun h h1 => by
        rw [hgo,h,decide_eq_false h1,Bool.and_false,Bool.and_false]
        rfl
       clear hgo hg2
       dsimp only [Ev.av,Ev.cs] at hbj
       repeat' ((conv => whnf); first | refine Spl.yes (by first | assumption | omega) ?_ | refine Spl.no (by first | assumption | omega) ?_ | refine Wr.i64 (by omega) (by omega) ?_ | refine Still.mk rfl rfl ?_ | refine InB.mk (inB_mk (by omega) (by omega)) ?_ | refine Req.mk (by omega) ?_ | refine Req.mk ⟨by first | omega | (dsimp only; omega),by first | omega | (dsimp only; omega)⟩ ?_ | refine ACall.plain _ _ (hbj) (SubL.cons (.eq _) (SubL.cons (.eq _) .nil)) rfl ?_ | refine Spl.mk (fun _ => ?_) (fun _ => ?_) | refine InA.mk (inB_mk (by omega) (by omega)) ?_ | refine Wr.b64 ?_ | refine Wr.bu64 ?_ | refine Wr.bu32 ?_ | refine Wr.bu8 ?_ | refine Wr.u8 (by omega) (by omega) ?_ | refine Wr.u64 (by omega) (by omega) ?_ | refine Wr.u32 (by omega) (by omega) ?_ | refine Dv.pos (by omega) (by omega) ?_ | refine Rm.pos (by omega) (by omega) ?_ | refine ADraw.quiet follows_ok (by kernel_rfl) rfl ?_ | refine ADraw.sched (id := 9) lay_ok (awp_snd lay_ok _) [(0,none),(1,none),(2,none),(3,none),(4,none),(5,none),(6,none),(7,none),(8,some [7,3]),(9,none)] [(8,[7,3]),(9,[7,3])] follows_ok (by kernel_rfl) ?_ | refine BSpl.decY (by first | assumption | omega) ?_ | refine BSpl.decN (by first | assumption | omega) ?_ | refine BSpl.dec (fun _ => ?_) (fun _ => ?_) | refine BSpl.yes (by assumption) ?_ | refine BSpl.no (by assumption) ?_ | refine BSpl.mk (fun _ => ?_) (fun _ => ?_))
       all_goals (conv => whnf)
       all_goals first
         | exact absurd (show Nat.ble _ _ = false by assumption) (by rw [Bool.not_eq_false,Nat.ble_eq]; omega)
         | exact ⟨⟨(k + 1,true),hkl,by first | exact o1 (by assumption) | exact o2 (by assumption) (by assumption) (by assumption)⟩,_,LeR.mk' [] _ _ _ rfl ⟨AEq.refl _,AEq.refl _,AEq.refl _,AEq.refl _,AEq.int rfl,trivial⟩ trivial rfl,by show l.length - (k + 1) < l.length - k; omega⟩
         | exact ⟨⟨(k + 1,false),hkl,by first | exact o3 (by assumption) (by assumption) | exact o4 (by assumption) (by assumption) | exact o5 (by assumption) (by assumption)⟩,_,LeR.mk' [] _ _ _ rfl ⟨AEq.refl _,AEq.refl _,AEq.refl _,AEq.refl _,AEq.int rfl,trivial⟩ trivial rfl,by show l.length - (k + 1) < l.length - k; omega⟩
     · have hkn : k = l.length := by omega
       subst hkn
       rw [List.take_length] at hb
       rw [hb] at hsn
       repeat' ((conv => whnf); first | refine Spl.yes (by first | assumption | omega) ?_ | refine Spl.no (by first | assumption | omega) ?_ | refine Wr.i64 (by omega) (by omega) ?_ | refine Still.mk rfl rfl ?_ | refine InB.mk (inB_mk (by omega) (by omega)) ?_ | refine Req.mk (by omega) ?_ | refine Req.mk ⟨by first | omega | (dsimp only; omega),by first | omega | (dsimp only; omega)⟩ ?_ | refine Spl.mk (fun _ => ?_) (fun _ => ?_) | refine InA.mk (inB_mk (by omega) (by omega)) ?_ | refine Wr.b64 ?_ | refine Wr.bu64 ?_ | refine Wr.bu32 ?_ | refine Wr.bu8 ?_ | refine Wr.u8 (by omega) (by omega) ?_ | refine Wr.u64 (by omega) (by omega) ?_ | refine Wr.u32 (by omega) (by omega) ?_ | refine Dv.pos (by omega) (by omega) ?_ | refine Rm.pos (by omega) (by omega) ?_ | refine ADraw.quiet follows_ok (by kernel_rfl) rfl ?_ | refine ADraw.sched (id := 9) lay_ok (awp_snd lay_ok _) [(0,none),(1,none),(2,none),(3,none),(4,none),(5,none),(6,none),(7,none),(8,some [7,3]),(9,none)] [(8,[7,3]),(9,[7,3])] follows_ok (by kernel_rfl) ?_ | refine BSpl.decY (by first | assumption | omega) ?_ | refine BSpl.decN (by first | assumption | omega) ?_ | refine BSpl.dec (fun _ => ?_) (fun _ => ?_) | refine BSpl.yes (by assumption) ?_ | refine BSpl.no (by assumption) ?_ | refine BSpl.mk (fun _ => ?_) (fun _ => ?_))
       all_goals (conv => whnf)
       all_goals exact ⟨⟨i + 1,hil⟩,_,LeR.mk' [] _ _ _ rfl ⟨AEq.refl _,AEq.int (by rw [hsn]; first | (rw [show b = true by assumption]; rfl) | (rw [show b = false by assumption]; rfl)),AEq.int rfl,trivial⟩ trivial rfl,by show l.length - (i + 1) < l.length - i; omega⟩
   · refine ALoop.mk { x : Nat × Bool // x.1 ≤ l.length ∧ goB (l.take x.1) (l.getD i default) = x.2 } (fun x => ⟨[(0, .sl 12 l.length true (evF l)),(3, .v (.int .i64 (M : Int))),(4, .v (.int .i64 (i : Int))),(5, .v (.bool x.1.2)),(6, .v (.int .i64 (x.1.1 : Int)))],[],[],0⟩) (fun x => l.length - x.1.1) ⟨(0,true),Nat.zero_le _,by rw [h0]; simp; first | assumption | (rename_i hk; simpa using hk)⟩ _
      (LeR.mk' [] _ _ _ rfl ⟨AEq.refl _,AEq.refl _,AEq.refl _,AEq.refl _,AEq.int rfl,trivial⟩ trivial rfl) ?_
     rintro ⟨⟨k,b⟩,hk,hb⟩
     dsimp only at hk hb ⊢
     by_cases hkl : k < l.length
     · have hbj := below_spec (l.getD (i : Int).toNat default) (l.getD (k : Int).toNat default)
       have hgo := go_snoc (e := l.getD i default) hkl
       rw [hb] at hgo
       have hg2 : goP (l.getD i default) (l.getD k default) = (belowB (l.getD (i : Int).toNat default) (l.getD (k : Int).toNat default) && (decide ((l.getD (k : Int).toNat default).k = 2) && decide ((l.getD (k : Int).toNat default).key = (l.getD (i : Int).toNat default).key))) := rfl
       rw [hg2] at hgo
       generalize belowB (l.getD (i : Int).toNat default) (l.getD (k : Int).toNat default) = q at hbj hgo
       have o1 : b = true → goB (l.take (k + 1)) (l.getD i default) = true := fun h => by rw [hgo,h]; rfl
       have o2 : q = true → (l.getD (k : Int).toNat default).k = 2 → (l.getD (k : Int).toNat default).key = (l.getD (i : Int).toNat default).key → goB (l.take (k + 1)) (l.getD i default) = true := fun h1 h2 h3 => by
        rw [hgo,h1,decide_eq_true h2,decide_eq_true h3]
        cases b <;> rfl
       have o3 : b = false → q = false → goB (l.take (k + 1)) (l.getD i default) = false := fun h h1 => by rw [hgo,h,h1]; rfl
       have o4 : b = false → ¬ (l.getD (k : Int).toNat default).k = 2 → goB (l.take (k + 1)) (l.getD i default) = false := fun h h1 => by
        rw [hgo,h,decide_eq_false h1]
        cases q <;> rfl
       have o5 : b = false → ¬ (l.getD (k : Int).toNat default).key = (l.getD (i : Int).toNat default).key → goB (l.take (k + 1)) (l.getD i default) = false := fun h h1 => by
        rw [hgo,h,decide_eq_false h1,Bool.and_false,Bool.and_false]
        rfl
       clear hgo hg2
       dsimp only [Ev.av,Ev.cs] at hbj
       repeat' ((conv => whnf); first | refine Spl.yes (by first | assumption | omega) ?_ | refine Spl.no (by first | assumption | omega) ?_ | refine Wr.i64 (by omega) (by omega) ?_ | refine Still.mk rfl rfl ?_ | refine InB.mk (inB_mk (by omega) (by omega)) ?_ | refine Req.mk (by omega) ?_ | refine Req.mk ⟨by first | omega | (dsimp only; omega),by first | omega | (dsimp only; omega)⟩ ?_ | refine ACall.plain _ _ (hbj) (SubL.cons (.eq _) (SubL.cons (.eq _) .nil)) rfl ?_ | refine Spl.mk (fun _ => ?_) (fun _ => ?_) | refine InA.mk (inB_mk (by omega) (by omega)) ?_ | refine Wr.b64 ?_ | refine Wr.bu64 ?_ | refine Wr.bu32 ?_ | refine Wr.bu8 ?_ | refine Wr.u8 (by omega) (by omega) ?_ | refine Wr.u64 (by omega) (by omega) ?_ | refine Wr.u32 (by omega) (by omega) ?_ | refine Dv.pos (by omega) (by omega) ?_ | refine Rm.pos (by omega) (by omega) ?_ | refine ADraw.quiet follows_ok (by kernel_rfl) rfl ?_ | refine ADraw.sched (id := 9) lay_ok (awp_snd lay_ok _) [(0,none),(1,none),(2,none),(3,none),(4,none),(5,none),(6,none),(7,none),(8,some [7,3]),(9,none)] [(8,[7,3]),(9,[7,3])] follows_ok (by kernel_rfl) ?_ | refine BSpl.decY (by first | assumption | omega) ?_ | refine BSpl.decN (by first | assumption | omega) ?_ | refine BSpl.dec (fun _ => ?_) (fun _ => ?_) | refine BSpl.yes (by assumption) ?_ | refine BSpl.no (by assumption) ?_ | refine BSpl.mk (fun _ => ?_) (fun _ => ?_))
       all_goals (conv => whnf)
       all_goals first
         | exact absurd (show Nat.ble _ _ = false by assumption) (by rw [Bool.not_eq_false,Nat.ble_eq]; omega)
         | exact ⟨⟨(k + 1,true),hkl,by first | exact o1 (by assumption) | exact o2 (by assumption) (by assumption) (by assumption)⟩,_,LeR.mk' [] _ _ _ rfl ⟨AEq.refl _,AEq.refl _,AEq.refl _,AEq.refl _,AEq.int rfl,trivial⟩ trivial rfl,by show l.length - (k + 1) < l.length - k; omega⟩
         | exact ⟨⟨(k + 1,false),hkl,by first | exact o3 (by assumption) (by assumption) | exact o4 (by assumption) (by assumption) | exact o5 (by assumption) (by assumption)⟩,_,LeR.mk' [] _ _ _ rfl ⟨AEq.refl _,AEq.refl _,AEq.refl _,AEq.refl _,AEq.int rfl,trivial⟩ trivial rfl,by show l.length - (k + 1) < l.length - k; omega⟩
     · have hkn : k = l.length := by omega
       subst hkn
       rw [List.take_length] at hb
       rw [hb] at hsn
       repeat' ((conv => whnf); first | refine Spl.yes (by first | assumption | omega) ?_ | refine Spl.no (by first | assumption | omega) ?_ | refine Wr.i64 (by omega) (by omega) ?_ | refine Still.mk rfl rfl ?_ | refine InB.mk (inB_mk (by omega) (by omega)) ?_ | refine Req.mk (by omega) ?_ | refine Req.mk ⟨by first | omega | (dsimp only; omega),by first | omega | (dsimp only; omega)⟩ ?_ | refine Spl.mk (fun _ => ?_) (fun _ => ?_) | refine InA.mk (inB_mk (by omega) (by omega)) ?_ | refine Wr.b64 ?_ | refine Wr.bu64 ?_ | refine Wr.bu32 ?_ | refine Wr.bu8 ?_ | refine Wr.u8 (by omega) (by omega) ?_ | refine Wr.u64 (by omega) (by omega) ?_ | refine Wr.u32 (by omega) (by omega) ?_ | refine Dv.pos (by omega) (by omega) ?_ | refine Rm.pos (by omega) (by omega) ?_ | refine ADraw.quiet follows_ok (by kernel_rfl) rfl ?_ | refine ADraw.sched (id := 9) lay_ok (awp_snd lay_ok _) [(0,none),(1,none),(2,none),(3,none),(4,none),(5,none),(6,none),(7,none),(8,some [7,3]),(9,none)] [(8,[7,3]),(9,[7,3])] follows_ok (by kernel_rfl) ?_ | refine BSpl.decY (by first | assumption | omega) ?_ | refine BSpl.decN (by first | assumption | omega) ?_ | refine BSpl.dec (fun _ => ?_) (fun _ => ?_) | refine BSpl.yes (by assumption) ?_ | refine BSpl.no (by assumption) ?_ | refine BSpl.mk (fun _ => ?_) (fun _ => ?_))
       all_goals (conv => whnf)
       all_goals exact ⟨⟨i + 1,hil⟩,_,LeR.mk' [] _ _ _ rfl ⟨AEq.refl _,AEq.int (by rw [hsn]; first | (rw [show b = true by assumption]; rfl) | (rw [show b = false by assumption]; rfl)),AEq.int rfl,trivial⟩ trivial rfl,by show l.length - (i + 1) < l.length - i; omega⟩
 · have hin : i = l.length := by omega
   subst hin
   rw [List.take_length]
   repeat' ((conv => whnf); first | refine Spl.yes (by first | assumption | omega) ?_ | refine Spl.no (by first | assumption | omega) ?_ | refine Wr.i64 (by omega) (by omega) ?_ | refine Still.mk rfl rfl ?_ | refine InB.mk (inB_mk (by omega) (by omega)) ?_ | refine Req.mk (by omega) ?_ | refine Req.mk ⟨by first | omega | (dsimp only; omega),by first | omega | (dsimp only; omega)⟩ ?_ | refine ARet.hdI ?_ | refine Spl.mk (fun _ => ?_) (fun _ => ?_) | refine InA.mk (inB_mk (by omega) (by omega)) ?_ | refine Wr.b64 ?_ | refine Wr.bu64 ?_ | refine Wr.bu32 ?_ | refine Wr.bu8 ?_ | refine Wr.u8 (by omega) (by omega) ?_ | refine Wr.u64 (by omega) (by omega) ?_ | refine Wr.u32 (by omega) (by omega) ?_ | refine Dv.pos (by omega) (by omega) ?_ | refine Rm.pos (by omega) (by omega) ?_ | refine ADraw.quiet follows_ok (by kernel_rfl) rfl ?_ | refine ADraw.sched (id := 9) lay_ok (awp_snd lay_ok _) [(0,none),(1,none),(2,none),(3,none),(4,none),(5,none),(6,none),(7,none),(8,some [7,3]),(9,none)] [(8,[7,3]),(9,[7,3])] follows_ok (by kernel_rfl) ?_ | refine BSpl.decY (by first | assumption | omega) ?_ | refine BSpl.decN (by first | assumption | omega) ?_ | refine BSpl.dec (fun _ => ?_) (fun _ => ?_) | refine BSpl.yes (by assumption) ?_ | refine BSpl.no (by assumption) ?_ | refine BSpl.mk (fun _ => ?_) (fun _ => ?_))
   conv => whnf
   exact AEqI.mk (AEq.refl _)
end Go.Proofs.YtkkpfjifkjbndaaGreat

/-
 The choices that layer 10's statements take.
-/
namespace Go.Proofs.YtkkpfjifkjbndaaGreat
open Go.RowKit
theorem AEq.slG {s n : Nat} {sc : Bool} {f g : Nat → List AV} (h : ∀ i,i < n → f i = g i) : AEq (.sl s n sc f) (.sl s n sc g) := by
 intro X u hu
 have hu : PC X.w X.keep (.sl s n sc f) u := hu
 show PC X.w X.keep (.sl s n sc g) u
 cases hu with
 | sl _ _ _ _ A c us hs hn hc hl hf hsc hq hr => exact .sl s n sc g A c us hs hn hc hl (fun i hi => by rw [← h i hi]; exact hf i hi) (by rw [← flat_congr h]; exact hsc) (by rw [← flat_congr h]; exact hq) hr
theorem short_spec (l : List Ch0) : ASpec Tryz.prog 11 [.sl 7 l.length true (chF l)] (.sl 7 (l.take 40).length true (chF (l.take 40))) [] := by
 have hn : (if (40 : Int) < (l.length : Int) then (40 : Int) else (l.length : Int)).toNat = (l.take 40).length := by
  rw [List.length_take]
  split <;> omega
 refine aspec_of lay_ok 5 Tryz.func11 rfl rfl rfl ?_
 repeat' ((conv => whnf); first | refine Spl.yes (by first | assumption | omega) ?_ | refine Spl.no (by first | assumption | omega) ?_ | refine Wr.i64 (by omega) (by omega) ?_ | refine Still.mk rfl rfl ?_ | refine InB.mk (inB_mk (by omega) (by omega)) ?_ | refine Req.mk (by omega) ?_ | refine Req.mk ⟨by first | omega | (dsimp only; omega),by first | omega | (dsimp only; omega)⟩ ?_ | refine InB.mk (inB_mk (by split <;> omega) (by split <;> omega)) ?_ | refine ARet.hdI ?_ | refine Spl.mk (fun _ => ?_) (fun _ => ?_) | refine InA.mk (inB_mk (by omega) (by omega)) ?_ | refine Wr.b64 ?_ | refine Wr.bu64 ?_ | refine Wr.bu32 ?_ | refine Wr.bu8 ?_ | refine Wr.u8 (by omega) (by omega) ?_ | refine Wr.u64 (by omega) (by omega) ?_ | refine Wr.u32 (by omega) (by omega) ?_ | refine Dv.pos (by omega) (by omega) ?_ | refine Rm.pos (by omega) (by omega) ?_ | refine ADraw.quiet follows_ok (by kernel_rfl) rfl ?_ | refine BSpl.decY (by first | assumption | omega) ?_ | refine BSpl.decN (by first | assumption | omega) ?_ | refine BSpl.dec (fun _ => ?_) (fun _ => ?_) | refine BSpl.yes (by assumption) ?_ | refine BSpl.no (by assumption) ?_ | refine BSpl.mk (fun _ => ?_) (fun _ => ?_))
 conv => whnf
 refine AEqI.mk ?_
 rw [hn]
 refine AEq.slG fun i hi => ?_
 rw [List.length_take] at hi
 show Ch0.cs _ = Ch0.cs _
 rw [List.getD,List.getD,List.getElem?_take_of_lt (by omega)]
end Go.Proofs.YtkkpfjifkjbndaaGreat

/-
 A row's length,one more.
-/
namespace Go.Proofs.YtkkpfjifkjbndaaGreat
theorem len_app {α : Type} {l : List α} {x : α} : l.length + 1 = (l ++ [x]).length := by rw [List.length_append,List.length_singleton]
end Go.Proofs.YtkkpfjifkjbndaaGreat

/-
 The reference's clocks: kithref03.LessEq.
-/
namespace Go.Proofs.YtkkpfjifkjbndaaGreat
open Go.RowKit
set_option maxRecDepth 100000 in
theorem lessEq_spec (a b : Clk) : ASpec Tryz.prog 25 [a.av,b.av] (.v (.bool (a.le b))) [] := by
 dsimp only [Clk.av]
 refine aspec_of lay_ok 65727 Tryz.func25 rfl rfl rfl ?_
 repeat' ((conv => whnf); first | refine Spl.yes (by first | assumption | omega) ?_ | refine Spl.no (by first | assumption | omega) ?_ | refine Wr.i64 (by omega) (by omega) ?_ | refine Still.mk rfl rfl ?_ | refine InB.mk (inB_mk (by omega) (by omega)) ?_ | refine Req.mk (by omega) ?_ | refine Req.mk ⟨by first | omega | (dsimp only; omega),by first | omega | (dsimp only; omega)⟩ ?_ | refine ALoop.unr 5 6 rfl ?_ | refine ARet.hdI ?_ | refine Spl.mk (fun _ => ?_) (fun _ => ?_) | refine InA.mk (inB_mk (by omega) (by omega)) ?_ | refine Wr.b64 ?_ | refine Wr.bu64 ?_ | refine Wr.bu32 ?_ | refine Wr.bu8 ?_ | refine Wr.u8 (by omega) (by omega) ?_ | refine Wr.u64 (by omega) (by omega) ?_ | refine Wr.u32 (by omega) (by omega) ?_ | refine Dv.pos (by omega) (by omega) ?_ | refine Rm.pos (by omega) (by omega) ?_ | refine ADraw.quiet follows_ok (by kernel_rfl) rfl ?_ | refine BSpl.decY (by first | assumption | omega) ?_ | refine BSpl.decN (by first | assumption | omega) ?_ | refine BSpl.dec (fun _ => ?_) (fun _ => ?_) | refine BSpl.yes (by assumption) ?_ | refine BSpl.no (by assumption) ?_ | refine BSpl.mk (fun _ => ?_) (fun _ => ?_))
 all_goals (conv => whnf)
 all_goals (refine AEqI.mk (AEq.of ?_))
 all_goals (unfold Clk.le; congr 2; simp; try omega)
end Go.Proofs.YtkkpfjifkjbndaaGreat
