/-
  Contracts of the walk: NdB, NdC, ClG, NdD, NdE, RcD.
-/
import Derived.Test.YtimhagicagdkfaaGreatNdX10
import Derived.Test.YtimhagicagdkfaaGreatNdX6
import Derived.Test.YtimhagicagdkfaaGreatNdX8
import Derived.Test.YtimhagicagdkfaaGreatNdX9
/-
 Which event is ready (layer 12).
-/
namespace Go.Proofs.YtimhagicagdkfaaGreat
open Go.RowKit
def atM (l : List Ev) (r n : Int) : Option Ev := l.find? fun e => decide (e.r = r ∧ e.n = n)
def rdyAt (c : Clk) (l : List Ev) (r : Nat) : Option Ev := match atM l r (c.at r + 1) with
  | some e => if 1 ≤ e.n ∧ e.c.le c = true then some e else none
  | none => none
def nextW (c : Clk) (l : List Ev) : Option Ev := (List.range 5).findSome? (rdyAt c l)
theorem next_some {c : Clk} {l : List Ev} {j : Nat} {e : Ev} (hj : j < 5) (hq : ∀ q,q < j → rdyAt c l q = none) (h : rdyAt c l j = some e) : nextW c l = some e := by
 unfold nextW
 rw [show List.range 5 = [0,1,2,3,4] from rfl]
 rcases (show j = 0 ∨ j = 1 ∨ j = 2 ∨ j = 3 ∨ j = 4 by omega) with rfl | rfl | rfl | rfl | rfl
 · simp [h]
 · simp [h,hq 0 (by omega)]
 · simp [h,hq 0 (by omega),hq 1 (by omega)]
 · simp [h,hq 0 (by omega),hq 1 (by omega),hq 2 (by omega)]
 · simp [h,hq 0 (by omega),hq 1 (by omega),hq 2 (by omega),hq 3 (by omega)]
theorem next_none {c : Clk} {l : List Ev} (hq : ∀ q,q < 5 → rdyAt c l q = none) : nextW c l = none := by
 unfold nextW
 rw [List.findSome?_eq_none_iff]
 intro q h
 exact hq q (List.mem_range.1 h)
theorem atM_some {l : List Ev} {r n : Int} {e : Ev} (h : atM l r n = some e) : e.r = r ∧ e.n = n ∧ ∃ A B,l = A ++ e :: B := by
 have h1 := List.find?_some h
 have h2 := List.mem_of_find?_eq_some h
 simp only [decide_eq_true_eq] at h1
 obtain ⟨A,B,e'⟩ := List.append_of_mem h2
 exact ⟨h1.1,h1.2,A,B,e'⟩
theorem atM_none {l : List Ev} {r n : Int} (h : atM l r n = none) : ∀ e ∈ l,¬ (e.r = r ∧ e.n = n) := fun e he => by
 have := List.find?_eq_none.1 h e he
 simpa using this
theorem kv_app (A B : List Ev) (e : Ev) : kvE (A ++ e :: B) = kvE A ++ (markV e.r e.n,evV e) :: kvE B := by simp [kvE]
set_option maxHeartbeats 4000000 in
set_option maxRecDepth 100000 in
theorem next_m (c : Clk) (l : List Ev) (hc : ∀ r,0 ≤ c.at r ∧ c.at r ≤ 1000000000) : MSpec Tryz.prog 155 [(0, .obs (pmO (kvE l)))] [c.av, .own 0] (.tup [((nextW c l).getD ev0).av, .v (.bool (nextW c l).isSome)]) [(0, .obs (pmO (kvE l)))] := by
 generalize hn : nextW c l = nx
 obtain ⟨c0,c1,c2,c3,c4⟩ := c
 have k0 : 0 ≤ c0 ∧ c0 ≤ 1000000000 := hc 0
 have k1 : 0 ≤ c1 ∧ c1 ≤ 1000000000 := hc 1
 have k2 : 0 ≤ c2 ∧ c2 ≤ 1000000000 := hc 2
 have k3 : 0 ≤ c3 ∧ c3 ≤ 1000000000 := hc 3
 have k4 : 0 ≤ c4 ∧ c4 ≤ 1000000000 := hc 4
 dsimp only [Clk.av,Clk.cs]
 refine K1.M 0x4000007f7 Tryz.func155 10 ?_
 repeat' ((conv => whnf); first | refine K1.w ?_ | refine K1.u ?_ | refine K1.z ?_ | refine K1.y (fun _ => ?_) (fun _ => ?_) | fail)
 conv => whnf
 refine ALoop.mk { j : Nat // j ≤ 5 ∧ ∀ q,q < j → rdyAt ⟨c0,c1,c2,c3,c4⟩ l q = none } (fun j => ⟨[(9, .v (.int .i64 (j.1 : Int))),(5, .v (.bool false)),(4, .box 11 0),(2, .box 10 0),(1, .own 0)],[(11, .box 42 ev0.cs),(10, .box 31 [.v (.int .i64 c0), .v (.int .i64 c1), .v (.int .i64 c2), .v (.int .i64 c3), .v (.int .i64 c4)]),(0, .obs (pmO (kvE l)))],[[(0, .own 0)]],12⟩)
  (fun j => 5 - j.1) ⟨0,by omega,fun q h => absurd h (Nat.not_lt_zero q)⟩ _ (LeR.mk' [] _ _ _ rfl ⟨AEq.int rfl,AEq.refl _,AEq.refl _,AEq.refl _,AEq.refl _,trivial⟩ ⟨⟨_,rfl,OEq.refl _⟩,⟨_,rfl,OEq.refl _⟩,⟨_,rfl,OEq.refl _⟩,trivial⟩ rfl) ?_
 rintro ⟨j,hj,hq⟩
 dsimp only
 rcases (show j = 5 ∨ j < 5 by omega) with rfl | hj5
 · obtain rfl : none = nx := by rw [← hn]; exact (next_none hq).symm
   repeat' ((conv => whnf); first | refine K1.w ?_ | refine K1.u ?_ | refine K1.z ?_ | refine K1.y (fun _ => ?_) (fun _ => ?_) | fail)
   all_goals (conv => whnf)
   exact ⟨[],rfl,rfl,⟨⟨_,rfl,OEq.refl _⟩,trivial⟩,rfl,rfl,AEq.refl _⟩
 · have back : rdyAt ⟨c0,c1,c2,c3,c4⟩ l j = none → ∀ q,q < j + 1 → rdyAt ⟨c0,c1,c2,c3,c4⟩ l q = none := fun h q hlt => by
    rcases Nat.lt_or_ge q j with h' | h'
    · exact hq q h'
    · obtain rfl := Nat.le_antisymm (Nat.le_of_lt_succ hlt) h'
      exact h
   have hcj : 0 ≤ Clk.at ⟨c0,c1,c2,c3,c4⟩ j := (hc j).1
   cases hf : atM l j (Clk.at ⟨c0,c1,c2,c3,c4⟩ j + 1) with
   | none =>
     have hb := back (by unfold rdyAt; rw [hf])
     have hno := kv_no (atM_none hf)
     clear back hc hq hf hn
     rcases (show j = 0 ∨ j = 1 ∨ j = 2 ∨ j = 3 ∨ j = 4 by omega) with rfl | rfl | rfl | rfl | rfl
     all_goals
      repeat' ((conv => whnf); first | refine K1.w ?_ | refine K1.u ?_ | refine K1.P1 (mark_spec _) rfl ?_ | refine ASem.look mark_keys Tryz.underlying221 rfl rfl rfl (mark_whole _ _) ⟨_,_,rfl⟩ zero_ev (ev_whole ev0) hno ?_ | refine InA.mk (by decide) ?_ | refine K1.z ?_ | refine K1.y (fun _ => ?_) (fun _ => ?_) | fail)
      all_goals (conv => whnf)
      exact ⟨⟨_,by omega,hb⟩,_,LeR.mk' [] _ _ _ rfl ⟨AEq.int rfl,AEq.refl _,AEq.refl _,AEq.refl _,AEq.refl _,trivial⟩ ⟨⟨_,rfl,OEq.refl _⟩,⟨_,rfl,OEq.refl _⟩,⟨_,rfl,OEq.refl _⟩,trivial⟩ rfl,by dsimp only; omega⟩
   | some e =>
     obtain ⟨h1,h2,A,B,hl⟩ := atM_some hf
     have hs0 : kvE l = kvE A ++ (markV (j : Int) (Clk.at ⟨c0,c1,c2,c3,c4⟩ j + 1),evV e) :: kvE B := by rw [hl,kv_app,h1,h2]
     have hn1 : 1 ≤ e.n := by omega
     have hle := le_spec e.c ⟨c0,c1,c2,c3,c4⟩
     cases hc' : e.c.le ⟨c0,c1,c2,c3,c4⟩ with
     | true =>
       obtain rfl : some e = nx := by rw [← hn]; exact (next_some hj5 hq (by unfold rdyAt; rw [hf]; simp [hn1,hc'])).symm
       rw [hc'] at hle
       dsimp only [Clk.av,Clk.cs] at hle
       clear back hc hq hf hn h1 h2 hc'
       rcases (show j = 0 ∨ j = 1 ∨ j = 2 ∨ j = 3 ∨ j = 4 by omega) with rfl | rfl | rfl | rfl | rfl
       all_goals
        repeat' ((conv => whnf); first | refine K1.w ?_ | refine K1.u ?_ | refine K1.P1 (mark_spec _) rfl ?_ | refine K1.P1 (hle) rfl ?_ | refine ASem.lookY mark_keys Tryz.underlying221 rfl rfl rfl (mark_whole _ _) ⟨_,_,rfl⟩ ⟨_,zero_ev⟩ (ev_whole e) hs0 (kv_mark l) ?_ | refine InA.mk (by decide) ?_ | refine K1.z ?_ | refine K1.y (fun _ => ?_) (fun _ => ?_) | fail)
        all_goals (conv => whnf)
        exact ⟨[],rfl,rfl,⟨⟨_,rfl,OEq.refl _⟩,trivial⟩,rfl,rfl,AEq.refl _⟩
     | false =>
       have hb := back (by unfold rdyAt; rw [hf]; simp [hc'])
       rw [hc'] at hle
       dsimp only [Clk.av,Clk.cs] at hle
       clear back hc hq hf hn h1 h2 hc'
       rcases (show j = 0 ∨ j = 1 ∨ j = 2 ∨ j = 3 ∨ j = 4 by omega) with rfl | rfl | rfl | rfl | rfl
       all_goals
        repeat' ((conv => whnf); first | refine K1.w ?_ | refine K1.u ?_ | refine K1.P1 (mark_spec _) rfl ?_ | refine K1.P1 (hle) rfl ?_ | refine ASem.lookY mark_keys Tryz.underlying221 rfl rfl rfl (mark_whole _ _) ⟨_,_,rfl⟩ ⟨_,zero_ev⟩ (ev_whole e) hs0 (kv_mark l) ?_ | refine InA.mk (by decide) ?_ | refine K1.z ?_ | refine K1.y (fun _ => ?_) (fun _ => ?_) | fail)
        all_goals (conv => whnf)
        exact ⟨⟨_,by omega,hb⟩,_,LeR.mk' [] _ _ _ rfl ⟨AEq.int rfl,AEq.refl _,AEq.refl _,AEq.refl _,AEq.refl _,trivial⟩ ⟨⟨_,rfl,OEq.refl _⟩,⟨_,rfl,OEq.refl _⟩,⟨_,rfl,OEq.refl _⟩,trivial⟩ rfl,by dsimp only; omega⟩
end Go.Proofs.YtimhagicagdkfaaGreat

/-
 What can be delivered (layer 12): plain.
-/
namespace Go.Proofs.YtimhagicagdkfaaGreat
open Go.RowKit
def dStep (c : Clk) (w : List Ev) (e : Ev) : List Ev := if (atM w e.r e.n).isSome || hasB c e.r e.n then w else w ++ [e]
def wait0 (c : Clk) (l : List Ev) : List Ev := l.foldl (dStep c) []
def remM (w : List Ev) (e : Ev) : List Ev := w.eraseP fun x => decide (x.r = e.r ∧ x.n = e.n)
def drn : Nat → Clk → List Ev → List Ev → List Ev × List Ev × Clk
  | 0,c,w,d => (d,w,c)
  | f + 1,c,w,d => match nextW c w with
    | none => (d,w,c)
    | some e => drn f (c.inc e.r.toNat) (remM w e) (d ++ [e])
def drainL (c : Clk) (l : List Ev) : List Ev × List Ev × Clk := drn (wait0 c l).length c (wait0 c l) []
def Dm (w : List Ev) : Prop := w.Pairwise fun a b => ¬ (a.r = b.r ∧ a.n = b.n)
theorem dStep_dm {c : Clk} {w : List Ev} {e : Ev} (h : Dm w) : Dm (dStep c w e) := by
 unfold dStep
 split
 · exact h
 · rename_i hn
   simp only [Bool.or_eq_true,not_or,Bool.not_eq_true,Option.isSome_eq_false_iff,Option.isNone_iff_eq_none] at hn
   refine List.pairwise_append.2 ⟨h,List.pairwise_singleton ..,fun a ha b hb => ?_⟩
   obtain rfl := List.mem_singleton.1 hb
   exact atM_none hn.1 a ha
theorem wait0_dm (c : Clk) (l : List Ev) : Dm (wait0 c l) := by
 have : ∀ (l w : List Ev),Dm w → Dm (l.foldl (dStep c) w) := fun l => by
  induction l with
  | nil => exact fun _ h => h
  | cons e l ih => exact fun w h => ih _ (dStep_dm h)
 exact this l [] .nil
theorem dStep_len (c : Clk) (w : List Ev) (e : Ev) : (dStep c w e).length ≤ w.length + 1 := by
 unfold dStep
 split
 · omega
 · simp
theorem wait0_take {c : Clk} {l : List Ev} {j : Nat} (h : j < l.length) : wait0 c (l.take (j + 1)) = dStep c (wait0 c (l.take j)) (l.getD j default) := by
 unfold wait0
 rw [List.take_succ_eq_append_getElem h,List.foldl_append]
 simp [List.getD,h]
theorem wait0_len (c : Clk) (l : List Ev) : ∀ j,j ≤ l.length → (wait0 c (l.take j)).length ≤ j
  | 0,_ => by simp [wait0]
  | j + 1,h => by
    rw [wait0_take (by omega)]
    have h1 := dStep_len c (wait0 c (l.take j)) (l.getD j default)
    have h2 := wait0_len c l j (by omega)
    omega
theorem nextW_at {c : Clk} {w : List Ev} {e : Ev} (h : nextW c w = some e) : ∃ r : Nat,r < 5 ∧ e.r = (r : Int) ∧ e.n = c.at r + 1 ∧ e.c.le c = true ∧ 1 ≤ e.n ∧ e ∈ w := by
 obtain ⟨r,hr,h1⟩ := List.exists_of_findSome?_eq_some h
 have hr := List.mem_range.1 hr
 unfold rdyAt at h1
 split at h1
 · rename_i x hx
   obtain ⟨g1,g2,A,B,g3⟩ := atM_some hx
   split at h1
   · rename_i hc
     cases h1
     exact ⟨r,hr,g1,g2,hc.2,hc.1,by rw [g3]; simp⟩
   · cases h1
 · cases h1
theorem remM_split {w : List Ev} {e : Ev} (h : e ∈ w) : ∃ a A B,w = A ++ a :: B ∧ remM w e = A ++ B ∧ a.r = e.r ∧ a.n = e.n := by
 obtain ⟨a,A,B,_,h2,h3,h4⟩ := List.exists_of_eraseP (p := fun x : Ev => decide (x.r = e.r ∧ x.n = e.n)) h (by simp)
 simp only [decide_eq_true_eq] at h2
 exact ⟨a,A,B,h3,h4,h2.1,h2.2⟩
theorem remM_len {w : List Ev} {e : Ev} (h : e ∈ w) : (remM w e).length + 1 = w.length := by
 obtain ⟨a,A,B,h1,h2,_⟩ := remM_split h
 rw [h2,h1]
 simp
 omega
theorem left_eq : ∀ {W w : List Ev},Dm W → w.Sublist W → W.filter (fun e => (atM w e.r e.n).isSome) = w
  | [],w,_,h => by rw [List.sublist_nil.1 h]; rfl
  | x :: W,w,hd,h => by
    obtain ⟨hx,hW⟩ := List.pairwise_cons.1 hd
    rcases List.sublist_cons_iff.1 h with h2 | ⟨v,rfl,h2⟩
    · have : (atM w x.r x.n).isSome = false := by
       rw [Option.isSome_eq_false_iff,Option.isNone_iff_eq_none]
       refine List.find?_eq_none.2 fun y hy => ?_
       have := hx y (h2.subset hy)
       simp only [decide_eq_true_eq]
       exact fun hh => this ⟨hh.1.symm,hh.2.symm⟩
      rw [List.filter_cons,this]
      exact left_eq hW h2
    · have : (atM (x :: v) x.r x.n).isSome = true := by simp [atM]
      rw [List.filter_cons,this,if_pos rfl]
      congr 1
      refine (List.filter_congr fun e he => ?_).trans (left_eq hW h2)
      have hne := hx e he
      simp only [atM,List.find?_cons]
      rw [show decide (x.r = e.r ∧ x.n = e.n) = false by simpa using hne]
theorem drn_sub : ∀ (f : Nat) (c : Clk) (w d : List Ev),((drn f c w d).2.1).Sublist w
  | 0,_,w,_ => List.Sublist.refl w
  | f + 1,c,w,d => by
    unfold drn
    split
    · exact List.Sublist.refl w
    · exact (drn_sub f _ _ _).trans List.eraseP_sublist
theorem inc_at' (c : Clk) {r : Nat} (q : Nat) (hr : r < 5) : (c.inc r).at q ≤ c.at q + 1 ∧ c.at q ≤ (c.inc r).at q := by
 obtain ⟨c0,c1,c2,c3,c4⟩ := c
 rcases (show r = 0 ∨ r = 1 ∨ r = 2 ∨ r = 3 ∨ r = 4 by omega) with rfl | rfl | rfl | rfl | rfl
 all_goals
  match q with
  | 0 => simp only [Clk.inc,Clk.at]; omega
  | 1 => simp only [Clk.inc,Clk.at]; omega
  | 2 => simp only [Clk.inc,Clk.at]; omega
  | 3 => simp only [Clk.inc,Clk.at]; omega
  | _ + 4 => simp only [Clk.inc,Clk.at]; omega
end Go.Proofs.YtimhagicagdkfaaGreat

/-
 How what is told as a whole is closed: rows of other names,slices that are nil.
-/
namespace Go.Proofs.YtimhagicagdkfaaGreat
open Go.RowKit
def evRow (l : List Ev) : AO := .row 42 12 l.length true (evF l)
theorem boxO_one {X : CX} {i : Nat} {t : TypeId} {cs : List AV} (h : ObjOk X i (.box t cs)) : (hdV (X.ρ i)).oneCell' = true := by
 obtain ⟨b,us,e,_⟩ := h
 rw [e]
 rfl
def atV (ρ : Nat → Value) (j : Nat) (v : Value) : Nat → Value := fun i => if i = j then v else ρ i
theorem Closes.ren {hs : List (Nat × AO)} {j j' : Nat} {o : OB} (hC : Closes hs j o) (σ : List (Nat × Nat)) (hj : lookN σ j = some j') (hb : keyH σ hs = true) : Closes (renH σ hs) j' o := by
 intro w k ρ hnd hok
 let ρ0 : Nat → Value := fun k => match lookN σ k with | some i => ρ i | none => undef
 have e0 : ∀ k i,lookN σ k = some i → ρ i = ρ0 k := fun k i e => by simp only [ρ0,e]
 have hbl : blocksOf ρ (renH σ hs) = blocksOf ρ0 hs := blocks_renK e0 hb
 obtain ⟨us,a1,a2,a3⟩ := hC w k ρ0 (by rw [← hbl]; exact hnd) fun p hp => by
  obtain ⟨i,h1,h2,h3⟩ := renH_mem hb p hp
  exact (ObjOk.renK (X := ⟨w,k,ρ0⟩) (Y := ⟨w,k,ρ⟩) rfl rfl e0 h1 h3).1 (hok _ h2)
 exact ⟨us,a1,a2.trans (by rw [← e0 j j' hj]),by rw [hbl]; exact a3⟩
theorem cell_nil {X : CX} {cs : List AV} {us : List Value} {k d : Nat} (hk : cs[k]? = some (.v (.slice none 0 0))) (hd : hdV (X.ρ d) = .slice none 0 0) (ha : All2 (C0 X) cs us) : All2 (C0 X) (cs.set k (.own d)) us := by
 refine ⟨by simpa using ha.1,fun i x u hx hu => ?_⟩
 rw [List.getElem?_set] at hx
 by_cases e : k = i
 · subst e
   simp only [if_true] at hx
   split at hx
   · cases hx
     have : u = .slice none 0 0 := ha.2 k _ u hk hu
     rw [this]
     exact hd.symm
   · cases hx
 · rw [if_neg e] at hx
   exact ha.2 i x u hx hu
theorem Closes.nilc {A B : List (Nat × AO)} {id k d j : Nat} {t e : TypeId} {s : Nat} {f : Nat → List AV} {cs : List AV} {o : OB} (hC : Closes (A ++ (id, .box t (cs.set k (.own d))) :: (B ++ [(d, .row e s 0 true f)])) j o)
  (hk : cs[k]? = some (.v (.slice none 0 0))) (hs : 0 < s) (hb : (closedH (A ++ (id, .box t cs) :: B) (A ++ (id, .box t cs) :: B) && !(hasN d (A ++ (id, .box t cs) :: B)) && !(Nat.beq j d)) = true) : Closes (A ++ (id, .box t cs) :: B) j o := by
 simp only [Bool.and_eq_true,Bool.not_eq_true'] at hb
 obtain ⟨⟨hcl,hno⟩,hjd⟩ := hb
 refine Closes.imp hC fun X hnd hok => ?_
 let ρ' := atV X.ρ d (.slice none 0 0)
 have hne : ∀ i,hasN i (A ++ (id, .box t cs) :: B) = true → ρ' i = X.ρ i := fun i hi => if_neg (by rintro rfl; rw [hno] at hi; cases hi)
 have hd : ρ' d = .slice none 0 0 := if_pos rfl
 have over : ∀ p ∈ A ++ (id, .box t cs) :: B,ObjOk ⟨X.w,X.keep,ρ'⟩ p.1 p.2 := fun p hp => ObjOk.over (X := X) (Y := ⟨X.w,X.keep,ρ'⟩) (fun _ h => h) rfl hne (hasN_mem.2 ⟨p,hp,rfl⟩) (closedH_mem hcl p hp) (hok p hp)
 have hbl : blocksOf ρ' (A ++ (id, .box t (cs.set k (.own d))) :: (B ++ [(d, .row e s 0 true f)])) = blocksOf X.ρ (A ++ (id, .box t cs) :: B) := by
  have h1 := blocks_congr (ρ := X.ρ) (ρ' := ρ') (h := A) fun p hp => hne p.1 (hasN_mem.2 ⟨p,List.mem_append_left _ hp,rfl⟩)
  have h2 := blocks_congr (ρ := X.ρ) (ρ' := ρ') (h := B) fun p hp => hne p.1 (hasN_mem.2 ⟨p,List.mem_append_right _ (List.mem_cons_of_mem _ hp),rfl⟩)
  have h3 : ρ' id = X.ρ id := hne id (hasN_mem.2 ⟨_,List.mem_append_right _ List.mem_cons_self,rfl⟩)
  have h4 : blks (ρ' d) ++ blocksOf ρ' [] = [] := by rw [hd]; rfl
  rw [blocks_append,show blocksOf ρ' ((id, .box t (cs.set k (.own d))) :: (B ++ [(d, .row e s 0 true f)])) = blks (ρ' id) ++ blocksOf ρ' (B ++ [(d, .row e s 0 true f)]) from rfl,blocks_append,blocks_append,blocks_cons,h1,h2,h3]
  dsimp only
  rw [h4,List.append_nil,blocks_cons]
 refine ⟨ρ',congrArg hdV (if_neg fun e => (by rw [e,Nat.beq_refl] at hjd; cases hjd)),by rw [hbl]; exact hnd,fun b hb => by rw [hbl] at hb; exact hb,fun q hq => ?_⟩
 rcases List.mem_append.1 hq with hq | hq
 · exact over q (List.mem_append_left _ hq)
 rcases List.mem_cons.1 hq with rfl | hq
 · obtain ⟨b,us,g1,g2,g3⟩ := over (id, .box t cs) (List.mem_append_right _ List.mem_cons_self)
   exact ⟨b,us,g1,g2,cell_nil hk (by show hdV (ρ' d) = _; rw [hd]; rfl) g3⟩
 rcases List.mem_append.1 hq with hq | hq
 · exact over q (List.mem_append_right _ (List.mem_cons_of_mem _ hq))
 · obtain rfl := List.mem_singleton.1 hq
   exact ⟨[],by show World.ownsRow _ 0 e s (ρ' d) 0 []; rw [hd]; exact World.ownsRow_nil X.w _ _ _,hs,fun i hi => absurd hi (by omega),(fun _ x hx => by cases hx),All2.nil⟩
theorem OEq.box {t : TypeId} {cs cs' : List AV} (h : ∀ X us,All2 (C0 X) cs us → All2 (C0 X) cs' us) : OEq (.box t cs) (.box t cs') := by
 rintro X id ⟨b,us,h1,h2,h3⟩
 exact ⟨b,us,h1,h2,h X us h3⟩
theorem All2.setC {cs : List AV} {k : Nat} {x y : AV} (hk : cs[k]? = some x) (h : ∀ X u,C0 X x u → C0 X y u) {X : CX} {us : List Value} (ha : All2 (C0 X) cs us) : All2 (C0 X) (cs.set k y) us := by
 refine ⟨by simpa using ha.1,fun i z u hz hu => ?_⟩
 rw [List.getElem?_set] at hz
 by_cases e : k = i
 · subst e
   simp only [if_true] at hz
   split at hz
   · cases hz; exact h X u (ha.2 k _ u hk hu)
   · cases hz
 · rw [if_neg e] at hz
   exact ha.2 i z u hz hu
end Go.Proofs.YtimhagicagdkfaaGreat

/-
 What can be delivered (layer 12): Drain.
-/
namespace Go.Proofs.YtimhagicagdkfaaGreat
open Go.RowKit
set_option maxHeartbeats 8000000 in
set_option maxRecDepth 100000 in
theorem drain_spec (c : Clk) (l : List Ev) (hc : ∀ r,0 ≤ c.at r ∧ c.at r ≤ 1000000) (hl : l.length ≤ 1000000) {d w : List Ev} {c' : Clk} (hd : drainL c l = (d,w,c')) :
  ASpec Tryz.prog 129 [c.av, .sl 12 l.length true (evF l)] (.tup [.sl 12 d.length true (evF d), .sl 12 w.length true (evF w),c'.av]) [] := by
 have hhas := has_spec c
 dsimp only [Clk.av,Clk.cs] at hhas ⊢
 have U := Tryz.underlying221
 refine K1.E 0x200f80000800080000f575f7 Tryz.func129 ?_
 repeat' ((conv => whnf); first | refine K1.w ?_ | refine K1.u ?_ | refine ASem.mkM ?_ | refine K1.o (id := 8) [(0,none),(1,none),(3,none),(2,some [1]),(4,some [3,1])] [(2,[1]),(4,[3,1])] ?_ | refine K1.o (id := 26) [(0,none),(1,none),(2,none),(3,none),(4,none),(5,some [2])] [(5,[2])] ?_ | refine K1.z ?_ | refine K1.y (fun _ => ?_) (fun _ => ?_) | fail)
 conv => whnf
 refine ALoop.nil 8 90 42 12 (evF []) rfl (by decide) ?_
 refine ALoop.mk { j : Nat // j ≤ l.length } (fun j => ⟨[(22, .v (.int .i64 (j.1 : Int))),(21, .v (.int .i64 (l.length : Int))),(20, .sl 12 l.length true (evF l)),(8, .own 90),(7, .own 2),(6, .box 1 0),(5, .v (.slice none 0 0)),(4, .v (.slice none 0 0)),(2, .box 0 0)],
   [(0, .box 31 c.cs),(1, .box 31 clk0.cs),(2, .obs (pmO (kvE (wait0 c (l.take j.1))))),(90,evRow (wait0 c (l.take j.1)))],[],91⟩) (fun j => l.length - j.1) ⟨0,Nat.zero_le _⟩ _
  (LeR.mk' [] _ _ _ rfl ⟨AEq.int rfl,AEq.refl _,AEq.refl _,AEq.refl _,AEq.refl _,AEq.refl _,AEq.refl _,AEq.refl _,AEq.refl _,trivial⟩ ⟨⟨_,rfl,OEq.refl _⟩,⟨_,rfl,OEq.refl _⟩,⟨_,rfl,OEq.refl _⟩,⟨_,rfl,OEq.refl _⟩,trivial⟩ rfl) ?_
 rintro ⟨j,hj⟩
 dsimp only
 by_cases hjl : j < l.length
 · have hst := wait0_take (c := c) hjl
   have hwl := wait0_len c l j hj
   rw [show l.getD j default = l.getD (j : Int).toNat default from rfl] at hst
   have hm := mark_spec (l.getD (j : Int).toNat default)
   have hh := hhas (l.getD (j : Int).toNat default).r (l.getD (j : Int).toNat default).n
   have hev := ev_whole (l.getD (j : Int).toNat default)
   generalize wait0 c (l.take j) = w0 at hst hwl ⊢
   dsimp only [Ev.av,Ev.cs,evRow] at hm hev ⊢
   cases hf : atM w0 (l.getD (j : Int).toNat default).r (l.getD (j : Int).toNat default).n with
   | some x =>
     obtain ⟨h1,h2,A,B,hs⟩ := atM_some hf
     have hs0 : kvE w0 = kvE A ++ (markV (l.getD (j : Int).toNat default).r (l.getD (j : Int).toNat default).n,evV x) :: kvE B := by rw [hs,kv_app,h1,h2]
     have hnx : dStep c w0 (l.getD (j : Int).toNat default) = w0 := by unfold dStep; rw [hf]; rfl
     rw [hnx] at hst
     clear hf h1 h2 hs hnx hd
     repeat' ((conv => whnf); first | refine K1.w ?_ | refine K1.u ?_ | refine K1.P1 (hm) rfl ?_ | refine K1.P1 (hh) rfl ?_ | refine ASem.lookY mark_keys U rfl rfl rfl (mark_whole _ _) ⟨_,_,rfl⟩ ⟨_,zero_ev⟩ (ev_whole x) hs0 (kv_mark w0) ?_ | refine K1.o (id := 8) [(0,none),(1,none),(3,none),(2,some [1]),(4,some [3,1])] [(2,[1]),(4,[3,1])] ?_ | refine K1.o (id := 26) [(0,none),(1,none),(2,none),(3,none),(4,none),(5,some [2])] [(5,[2])] ?_ | refine K1.z ?_ | refine K1.y (fun _ => ?_) (fun _ => ?_) | fail)
     all_goals (conv => whnf)
     exact ⟨⟨j + 1,hjl⟩,_,LeR.mk' [] _ _ _ rfl ⟨AEq.int rfl,AEq.refl _,AEq.refl _,AEq.refl _,AEq.refl _,AEq.refl _,AEq.refl _,AEq.refl _,AEq.refl _,trivial⟩ ⟨⟨_,rfl,OEq.refl _⟩,⟨_,rfl,OEq.refl _⟩,⟨_,rfl,by dsimp only; rw [hst]; exact OEq.refl _⟩,⟨_,rfl,by dsimp only; rw [hst]; exact OEq.refl _⟩,trivial⟩ rfl,by show l.length - (j + 1) < l.length - j; omega⟩
   | none =>
     have hno := kv_no (atM_none hf)
     cases hb : hasB c (l.getD (j : Int).toNat default).r (l.getD (j : Int).toNat default).n with
     | true =>
       rw [hb] at hh
       have hnx : dStep c w0 (l.getD (j : Int).toNat default) = w0 := by unfold dStep; rw [hb]; simp
       rw [hnx] at hst
       clear hf hb hnx hd
       repeat' ((conv => whnf); first | refine K1.w ?_ | refine K1.u ?_ | refine K1.P1 (hm) rfl ?_ | refine K1.P1 (hh) rfl ?_ | refine ASem.look mark_keys U rfl rfl rfl (mark_whole _ _) ⟨_,_,rfl⟩ zero_ev (ev_whole ev0) hno ?_ | refine K1.o (id := 8) [(0,none),(1,none),(3,none),(2,some [1]),(4,some [3,1])] [(2,[1]),(4,[3,1])] ?_ | refine K1.o (id := 26) [(0,none),(1,none),(2,none),(3,none),(4,none),(5,some [2])] [(5,[2])] ?_ | refine K1.z ?_ | refine K1.y (fun _ => ?_) (fun _ => ?_) | fail)
       all_goals (conv => whnf)
       exact ⟨⟨j + 1,hjl⟩,_,LeR.mk' [] _ _ _ rfl ⟨AEq.int rfl,AEq.refl _,AEq.refl _,AEq.refl _,AEq.refl _,AEq.refl _,AEq.refl _,AEq.refl _,AEq.refl _,trivial⟩ ⟨⟨_,rfl,OEq.refl _⟩,⟨_,rfl,OEq.refl _⟩,⟨_,rfl,by dsimp only; rw [hst]; exact OEq.refl _⟩,⟨_,rfl,by dsimp only; rw [hst]; exact OEq.refl _⟩,trivial⟩ rfl,by show l.length - (j + 1) < l.length - j; omega⟩
     | false =>
       rw [hb] at hh
       have hnx : dStep c w0 (l.getD (j : Int).toNat default) = w0 ++ [l.getD (j : Int).toNat default] := by unfold dStep; rw [hb,hf]; rfl
       rw [hnx] at hst
       clear hf hb hnx hd
       repeat' ((conv => whnf); first | refine K1.w ?_ | refine K1.u ?_ | refine K1.P1 (hm) rfl ?_ | refine K1.P1 (hh) rfl ?_ | refine ASem.look mark_keys U rfl rfl rfl (mark_whole _ _) ⟨_,_,rfl⟩ zero_ev (ev_whole ev0) hno ?_ | refine ASem.updN mark_keys U rfl rfl rfl (mark_whole _ _) ⟨_,_,rfl⟩ rfl hev hno ?_ | refine K1.o (id := 8) [(0,none),(1,none),(3,none),(2,some [1]),(4,some [3,1])] [(2,[1]),(4,[3,1])] ?_ | refine K1.o (id := 26) [(0,none),(1,none),(2,none),(3,none),(4,none),(5,some [2])] [(5,[2])] ?_ | refine K1.z ?_ | refine K1.y (fun _ => ?_) (fun _ => ?_) | fail)
       all_goals (conv => whnf)
       exact ⟨⟨j + 1,hjl⟩,_,LeR.mk' [(94,90)] _ _ _ rfl ⟨AEq.int rfl,AEq.refl _,AEq.refl _,AEq.refl _,AEq.refl _,AEq.refl _,AEq.refl _,AEq.refl _,AEq.refl _,trivial⟩ ⟨⟨_,rfl,OEq.refl _⟩,⟨_,rfl,OEq.refl _⟩,⟨_,rfl,by dsimp only; rw [hst,kv_app w0 []]; exact OEq.refl _⟩,⟨_,rfl,by dsimp only [evRow]; rw [hst]; exact OEq.row (by simp) fun m hm => els_app1 (c := Ev.cs) (l := w0) rfl rfl m hm⟩,trivial⟩ rfl,by show l.length - (j + 1) < l.length - j; omega⟩
 · obtain rfl : j = l.length := by omega
   rw [List.take_length]
   have hwl := wait0_len c l l.length (Nat.le_refl _)
   rw [List.take_length] at hwl
   unfold drainL at hd
   have hdm := wait0_dm c l
   have hsub : w.Sublist (wait0 c l) := by have := drn_sub (wait0 c l).length c (wait0 c l) []; rw [hd] at this; exact this
   generalize wait0 c l = w0 at hwl hd hdm hsub ⊢
   have hnx := next_m c w0 (fun r => ⟨(hc r).1,by have := (hc r).2; omega⟩)
   generalize hnw : nextW c w0 = nx at hnx
   cases nx
   all_goals
    dsimp only [Clk.av,Clk.cs,Ev.av,Ev.cs,evRow,Option.getD,Option.isSome] at hnx ⊢
    repeat' ((conv => whnf); first | refine K1.w ?_ | refine K1.u ?_ | refine K1.C 1 [(0,_)] (hnx) rfl ?_ | refine K1.o (id := 8) [(0,none),(1,none),(3,none),(2,some [1]),(4,some [3,1])] [(2,[1]),(4,[3,1])] ?_ | refine K1.o (id := 26) [(0,none),(1,none),(2,none),(3,none),(4,none),(5,some [2])] [(5,[2])] ?_ | refine K1.z ?_ | refine K1.y (fun _ => ?_) (fun _ => ?_) | fail)
    conv => whnf
    refine ALoop.nil 4 95 42 12 (evF []) rfl (by decide) ?_
    refine ALoop.mk { s : Clk × List Ev × List Ev × Option Ev // nextW s.1 s.2.1 = s.2.2.2 ∧ drn s.2.1.length s.1 s.2.1 s.2.2.1 = (d,w,c') ∧ s.2.2.1.length + s.2.1.length = w0.length ∧ ∀ r,0 ≤ s.1.at r ∧ s.1.at r ≤ 1000000 + s.2.2.1.length }
     (fun x => ⟨[(14, .v (.bool x.1.2.2.2.isSome)),(13, .box 92 0),(8, .own 90),(7, .own 2),(6, .box 1 0),(5, .v (.slice none 0 0)),(4, .own 95),(2, .box 0 0)],
      [(92, .box 42 (x.1.2.2.2.getD ev0).cs),(2, .obs (pmO (kvE x.1.2.1))),(0, .box 31 x.1.1.cs),(1, .box 31 clk0.cs),(90,evRow w0),(95,evRow x.1.2.2.1)],[],96⟩)
     (fun x => x.1.2.1.length) ⟨(c,w0,[],_),hnw,hd,by simp,fun r => ⟨(hc r).1,by have := (hc r).2; simpa using this⟩⟩ _
     (LeR.mk' [] _ _ _ rfl ⟨AEq.refl _,AEq.refl _,AEq.refl _,AEq.refl _,AEq.refl _,AEq.refl _,AEq.refl _,AEq.refl _,trivial⟩ ⟨⟨_,rfl,OEq.refl _⟩,⟨_,rfl,OEq.refl _⟩,⟨_,rfl,OEq.refl _⟩,⟨_,rfl,OEq.refl _⟩,⟨_,rfl,OEq.refl _⟩,⟨_,rfl,OEq.refl _⟩,trivial⟩ rfl) ?_
    clear hnx hnw hd
    rintro ⟨⟨c1,w1,d1,nx⟩,hn1,hdr,hlen,hc1⟩
    dsimp only at hn1 hdr hlen hc1 ⊢
    cases nx with
    | none =>
      have he : drn w1.length c1 w1 d1 = (d1,w1,c1) := by
       cases h0 : w1.length with
       | zero => rfl
       | succ n => unfold drn; rw [hn1]
      rw [he] at hdr
      cases hdr
      clear he hn1 hlen
      repeat' ((conv => whnf); first | refine K1.w ?_ | refine K1.u ?_ | refine K1.o (id := 8) [(0,none),(1,none),(3,none),(2,some [1]),(4,some [3,1])] [(2,[1]),(4,[3,1])] ?_ | refine K1.o (id := 26) [(0,none),(1,none),(2,none),(3,none),(4,none),(5,some [2])] [(5,[2])] ?_ | refine K1.z ?_ | refine K1.y (fun _ => ?_) (fun _ => ?_) | fail)
      conv => whnf
      refine ALoop.frz 90 rfl ?_
      refine ALoop.nil 5 98 42 12 (evF []) rfl (by decide) ?_
      refine ALoop.mk { j : Nat // j ≤ w0.length } (fun j => ⟨[(82, .v (.int .i64 (j.1 : Int))),(81, .v (.int .i64 (w0.length : Int))),(80, .sl 12 w0.length true (evF w0)),(7, .own 2),(6, .box 1 0),(5, .own 98),(4, .own 95),(2, .box 0 0)],
       [(2, .obs (pmO (kvE w))),(0, .box 31 c'.cs),(1, .box 31 clk0.cs),(95,evRow d),(98,evRow ((w0.take j.1).filter fun e => (atM w e.r e.n).isSome))],[],99⟩) (fun j => w0.length - j.1) ⟨0,Nat.zero_le _⟩ _
       (LeR.mk' [] _ _ _ rfl ⟨AEq.int rfl,AEq.refl _,AEq.refl _,AEq.refl _,AEq.refl _,AEq.refl _,AEq.refl _,AEq.refl _,trivial⟩ ⟨⟨_,rfl,OEq.refl _⟩,⟨_,rfl,OEq.refl _⟩,⟨_,rfl,OEq.refl _⟩,⟨_,rfl,OEq.refl _⟩,⟨_,rfl,OEq.refl _⟩,trivial⟩ rfl) ?_
      clear hc1 hhas hj hjl hc
      rintro ⟨j,hj⟩
      dsimp only
      by_cases hjl : j < w0.length
      · have hft : (w0.take (j + 1)).filter (fun e => (atM w e.r e.n).isSome) = (w0.take j).filter (fun e => (atM w e.r e.n).isSome) ++ (if (atM w (w0.getD (j : Int).toNat default).r (w0.getD (j : Int).toNat default).n).isSome then [w0.getD (j : Int).toNat default] else []) := by
         rw [List.take_succ_eq_append_getElem hjl,List.filter_append,show w0.getD (j : Int).toNat default = w0[j] by simp [List.getD,hjl]]
         congr 1
         rw [List.filter_cons,List.filter_nil]
        have hfl : ((w0.take j).filter fun e => (atM w e.r e.n).isSome).length ≤ j := Nat.le_trans (List.length_filter_le ..) (by rw [List.length_take]; omega)
        have hm := mark_spec (w0.getD (j : Int).toNat default)
        generalize (w0.take j).filter (fun e => (atM w e.r e.n).isSome) = lf at hft hfl ⊢
        dsimp only [Ev.av,Ev.cs,evRow] at hm ⊢
        cases hf : atM w (w0.getD (j : Int).toNat default).r (w0.getD (j : Int).toNat default).n with
        | some x =>
          obtain ⟨h1,h2,A,B,hs⟩ := atM_some hf
          have hs0 : kvE w = kvE A ++ (markV (w0.getD (j : Int).toNat default).r (w0.getD (j : Int).toNat default).n,evV x) :: kvE B := by rw [hs,kv_app,h1,h2]
          rw [hf] at hft
          have hft : _ = lf ++ [w0.getD (j : Int).toNat default] := hft
          clear hf h1 h2 hs hdm hsub
          repeat' ((conv => whnf); first | refine K1.w ?_ | refine K1.u ?_ | refine K1.P1 (hm) rfl ?_ | refine ASem.lookY mark_keys U rfl rfl rfl (mark_whole _ _) ⟨_,_,rfl⟩ ⟨_,zero_ev⟩ (ev_whole x) hs0 (kv_mark w) ?_ | refine K1.o (id := 8) [(0,none),(1,none),(3,none),(2,some [1]),(4,some [3,1])] [(2,[1]),(4,[3,1])] ?_ | refine K1.o (id := 26) [(0,none),(1,none),(2,none),(3,none),(4,none),(5,some [2])] [(5,[2])] ?_ | refine K1.z ?_ | refine K1.y (fun _ => ?_) (fun _ => ?_) | fail)
          all_goals (conv => whnf)
          exact ⟨⟨j + 1,hjl⟩,_,LeR.mk' [(102,98)] _ _ _ rfl ⟨AEq.int rfl,AEq.refl _,AEq.refl _,AEq.refl _,AEq.refl _,AEq.refl _,AEq.refl _,AEq.refl _,trivial⟩ ⟨⟨_,rfl,OEq.refl _⟩,⟨_,rfl,OEq.refl _⟩,⟨_,rfl,OEq.refl _⟩,⟨_,rfl,OEq.refl _⟩,⟨_,rfl,by dsimp only; rw [hft]; exact OEq.row (by simp) fun m hm => els_app1 (c := Ev.cs) (l := lf) rfl rfl m hm⟩,trivial⟩ rfl,by show w0.length - (j + 1) < w0.length - j; omega⟩
        | none =>
          have hno := kv_no (atM_none hf)
          rw [hf] at hft
          have hft : _ = lf ++ [] := hft
          rw [List.append_nil] at hft
          clear hf hdm hsub
          repeat' ((conv => whnf); first | refine K1.w ?_ | refine K1.u ?_ | refine K1.P1 (hm) rfl ?_ | refine ASem.look mark_keys U rfl rfl rfl (mark_whole _ _) ⟨_,_,rfl⟩ zero_ev (ev_whole ev0) hno ?_ | refine K1.o (id := 8) [(0,none),(1,none),(3,none),(2,some [1]),(4,some [3,1])] [(2,[1]),(4,[3,1])] ?_ | refine K1.o (id := 26) [(0,none),(1,none),(2,none),(3,none),(4,none),(5,some [2])] [(5,[2])] ?_ | refine K1.z ?_ | refine K1.y (fun _ => ?_) (fun _ => ?_) | fail)
          all_goals (conv => whnf)
          exact ⟨⟨j + 1,hjl⟩,_,LeR.mk' [] _ _ _ rfl ⟨AEq.int rfl,AEq.refl _,AEq.refl _,AEq.refl _,AEq.refl _,AEq.refl _,AEq.refl _,AEq.refl _,trivial⟩ ⟨⟨_,rfl,OEq.refl _⟩,⟨_,rfl,OEq.refl _⟩,⟨_,rfl,OEq.refl _⟩,⟨_,rfl,OEq.refl _⟩,⟨_,rfl,by dsimp only; rw [hft]; exact OEq.refl _⟩,trivial⟩ rfl,by show w0.length - (j + 1) < w0.length - j; omega⟩
      · obtain rfl : j = w0.length := by omega
        rw [List.take_length,left_eq hdm hsub]
        clear hdm hsub
        dsimp only [evRow,Clk.cs]
        repeat' ((conv => whnf); first | refine K1.w ?_ | refine K1.u ?_ | refine ARet.hdI ?_ | refine K1.o (id := 8) [(0,none),(1,none),(3,none),(2,some [1]),(4,some [3,1])] [(2,[1]),(4,[3,1])] ?_ | refine K1.o (id := 26) [(0,none),(1,none),(2,none),(3,none),(4,none),(5,some [2])] [(5,[2])] ?_ | refine K1.z ?_ | refine K1.y (fun _ => ?_) (fun _ => ?_) | fail)
        all_goals (conv => whnf)
        exact AEqI.mk (AEq.refl _)
    | some e =>
      obtain ⟨r,hr5,her,hen,_,_,hin⟩ := nextW_at hn1
      obtain ⟨a,A,B,h1,h2,h3,h4⟩ := remM_split hin
      have hl1 := remM_len hin
      have hkv : kvE w1 = kvE A ++ (markV e.r e.n,evV a) :: kvE B := by rw [h1,kv_app,h3,h4]
      have hrm : kvE (remM w1 e) = kvE A ++ kvE B := by rw [h2]; simp [kvE]
      have hall := kv_mark w1
      have hdr2 : drn (remM w1 e).length (c1.inc r) (remM w1 e) (d1 ++ [e]) = (d,w,c') := by
       rw [← hl1] at hdr
       unfold drn at hdr
       rw [hn1] at hdr
       dsimp only at hdr
       rw [show e.r.toNat = r by omega] at hdr
       exact hdr
      have hlen2 : (d1 ++ [e]).length + (remM w1 e).length = w0.length := by rw [List.length_append]; simp; omega
      have hc2 : ∀ q,0 ≤ (c1.inc r).at q ∧ (c1.inc r).at q ≤ 1000000 + ((d1 ++ [e]).length : Int) := fun q => by
       have h1 := inc_at' c1 q hr5
       have h2 := hc1 q
       rw [List.length_append]
       simp
       omega
      have k0 : 0 ≤ c1.c0 ∧ c1.c0 ≤ 1000000 + (d1.length : Int) := hc1 0
      have k1 : 0 ≤ c1.c1 ∧ c1.c1 ≤ 1000000 + (d1.length : Int) := hc1 1
      have k2 : 0 ≤ c1.c2 ∧ c1.c2 ≤ 1000000 + (d1.length : Int) := hc1 2
      have k3 : 0 ≤ c1.c3 ∧ c1.c3 ≤ 1000000 + (d1.length : Int) := hc1 3
      have k4 : 0 ≤ c1.c4 ∧ c1.c4 ≤ 1000000 + (d1.length : Int) := hc1 4
      have hnx := next_m (c1.inc r) (remM w1 e) (fun q => ⟨(hc2 q).1,by have := (hc2 q).2; omega⟩)
      generalize hnw : nextW (c1.inc r) (remM w1 e) = nx at hnx
      rw [hrm] at hnx
      have hm := mark_spec e
      clear hn1 hdr h1 h2 h3 h4 hhas hdm hc hc1
      generalize remM w1 e = w2 at *
      cases nx
      all_goals
       rcases (show r = 0 ∨ r = 1 ∨ r = 2 ∨ r = 3 ∨ r = 4 by omega) with rfl | rfl | rfl | rfl | rfl
      all_goals
       dsimp only [Clk.av,Clk.cs,Ev.av,Ev.cs,evRow,Option.getD,Option.isSome,Clk.inc,Clk.at] at hnx hm ⊢
       repeat' ((conv => whnf); first | refine K1.w ?_ | refine K1.u ?_ | refine K1.C 1 [(0,_)] (hnx) rfl ?_ | refine K1.P1 (hm) rfl ?_ | refine ASem.del rfl rfl rfl mark_keys U rfl rfl rfl (mark_whole _ _) ⟨_,_,rfl⟩ hkv hall ?_ | refine InA.lit 0 her rfl ?_ | refine InA.lit 1 her rfl ?_ | refine InA.lit 2 her rfl ?_ | refine InA.lit 3 her rfl ?_ | refine InA.lit 4 her rfl ?_ | refine K1.o (id := 8) [(0,none),(1,none),(3,none),(2,some [1]),(4,some [3,1])] [(2,[1]),(4,[3,1])] ?_ | refine K1.o (id := 26) [(0,none),(1,none),(2,none),(3,none),(4,none),(5,some [2])] [(5,[2])] ?_ | refine K1.z ?_ | refine K1.y (fun _ => ?_) (fun _ => ?_) | fail)
       all_goals (conv => whnf)
       refine ⟨⟨(Clk.inc c1 _,w2,d1 ++ [e],_),hnw,hdr2,hlen2,hc2⟩,_,LeR.mk' [(98,92),(97,95)] _ _ _ rfl ⟨AEq.refl _,AEq.refl _,AEq.refl _,AEq.refl _,AEq.refl _,AEq.refl _,AEq.refl _,AEq.refl _,trivial⟩ ⟨⟨_,rfl,OEq.refl _⟩,⟨_,rfl,by dsimp only; rw [hrm]; exact OEq.refl _⟩,⟨_,rfl,OEq.refl _⟩,⟨_,rfl,OEq.refl _⟩,⟨_,rfl,OEq.refl _⟩,⟨_,rfl,OEq.row (by simp) fun m hm => els_app1 (c := Ev.cs) (l := d1) rfl rfl m hm⟩,trivial⟩ rfl,by dsimp only; omega⟩
end Go.Proofs.YtimhagicagdkfaaGreat

/-
 Inbox and outbox (layers 13,14),clock.Next,past.Height.
-/
namespace Go.Proofs.YtimhagicagdkfaaGreat
open Go.RowKit
theorem Ch.evs {n : Nat} {F : Nat → List AV} {l : List Ev} (hn : n = l.length) (hF : ∀ i,i < n → F i = evF l i) {xs ys : List AV} (h : Ch xs ys) : Ch (.sl 12 n true F :: xs) (.sl 12 l.length true (evF l) :: ys) := .of (fun X u hu => AEq.sl hn hF X u hu) h
theorem drain_any (c : Clk) (l : List Ev) (hc : ∀ r,0 ≤ c.at r ∧ c.at r ≤ 1000000) (hl : l.length ≤ 1000000) {d w : List Ev} {c' : Clk} (hd : drainL c l = (d,w,c')) {n : Nat} {F : Nat → List AV} (hn : n = l.length) (hF : ∀ i,i < n → F i = evF l i) :
  ASpec Tryz.prog 129 [c.av, .sl 12 n true F] (.tup [.sl 12 d.length true (evF d), .sl 12 w.length true (evF w),c'.av]) [] := (drain_spec c l hc hl hd).args (.same (Ch.evs hn hF .nil))
def ibB (most : Int) (c : Clk) (h : AV) : AO := .box 118 [.v (.int .i64 most), .v (.int .i64 c.c0), .v (.int .i64 c.c1), .v (.int .i64 c.c2), .v (.int .i64 c.c3), .v (.int .i64 c.c4),h]
def ouB (most batch sent : Int) (m : AV) : AO := .box 132 [.v (.int .i64 most), .v (.int .i64 batch), .v (.int .i64 sent),m]
def nilS : AV := .v (.slice none 0 0)
theorem in_new_m (most : Int) (c : Clk) : MSpec Tryz.prog 102 [] [.v (.int .i64 most),c.av] (.box 0 0) [(0,ibB most c nilS)] := by
 dsimp only [Clk.av,Clk.cs,ibB,nilS]
 refine K1.M 0x1b Tryz.func102 40 ?_
 repeat' ((conv => whnf); first | refine K1.w ?_ | refine K1.u ?_ | refine K1.z ?_ | refine K1.y (fun _ => ?_) (fun _ => ?_) | fail)
 all_goals (conv => whnf)
 exact ⟨[(41,0)],rfl,rfl,⟨⟨_,rfl,OEq.refl _⟩,trivial⟩,rfl,rfl,AEq.refl _⟩
theorem ou_new_m (most batch sent : Int) : MSpec Tryz.prog 101 [] [.v (.int .i64 most), .v (.int .i64 batch), .v (.int .i64 sent)] (.box 0 0) [(0,ouB most batch sent nilS)] := by
 dsimp only [ouB,nilS]
 refine K1.M 0x47 Tryz.func101 40 ?_
 repeat' ((conv => whnf); first | refine K1.w ?_ | refine K1.u ?_ | refine K1.z ?_ | refine K1.y (fun _ => ?_) (fun _ => ?_) | fail)
 all_goals (conv => whnf)
 exact ⟨[(40,0)],rfl,rfl,⟨⟨_,rfl,OEq.refl _⟩,trivial⟩,rfl,rfl,AEq.refl _⟩
set_option maxHeartbeats 4000000 in
set_option maxRecDepth 100000 in
theorem in_own_m (most : Int) (c : Clk) (h : AV) (hh : h = nilS ∨ ∃ n F,h = .sl 12 n true F) (e : Ev) (hc : ∀ r,0 ≤ c.at r ∧ c.at r ≤ 1000000) {d w : List Ev} {c' : Clk} (hd : drainL c [e] = (d,w,c')) :
  MSpec Tryz.prog 55 [(0,ibB most c h)] [.box 0 0,e.av] (.v (.int .i64 (if d.length = 0 then 20 else 0))) [(0,ibB most (if d.length = 0 then c else c') h)] := by
 have hdr := drain_any c [e] hc (by simp) hd (n := 1) (F := chunk 12 e.cs) rfl fun i hi => by
  obtain rfl : i = 0 := by omega
  rfl
 dsimp only [Clk.av,Clk.cs,Ev.av,Ev.cs,ibB] at hdr ⊢
 rcases hh with rfl | ⟨n,F,rfl⟩
 all_goals
  try dsimp only [nilS]
  by_cases h0 : d.length = 0
  · rw [if_pos h0,if_pos h0]
    refine K1.M 0x400bb Tryz.func55 40 ?_
    repeat' ((conv => whnf); first | refine K1.w ?_ | refine K1.u ?_ | refine K1.P1 (hdr) rfl ?_ | refine K1.I 0x73 Tryz.func95 ?_ | refine K1.z ?_ | refine K1.y (fun _ => ?_) (fun _ => ?_) | fail)
    all_goals (conv => whnf)
    exact ⟨[],rfl,rfl,⟨⟨_,rfl,OEq.refl _⟩,trivial⟩,rfl,rfl,AEq.refl _⟩
  · rw [if_neg h0,if_neg h0]
    refine K1.M 0x400bb Tryz.func55 40 ?_
    repeat' ((conv => whnf); first | refine K1.w ?_ | refine K1.u ?_ | refine K1.P1 (hdr) rfl ?_ | refine K1.I 0x73 Tryz.func95 ?_ | refine K1.z ?_ | refine K1.y (fun _ => ?_) (fun _ => ?_) | fail)
    all_goals (conv => whnf)
    exact ⟨[],rfl,rfl,⟨⟨_,rfl,OEq.refl _⟩,trivial⟩,rfl,rfl,AEq.refl _⟩
theorem clock_spec (most : Int) (c : Clk) (h : AV) (hh : h = nilS ∨ ∃ n F,h = .sl 12 n true F) : MSpec Tryz.prog 29 [(0,ibB most c h)] [.box 0 0] c.av [(0,ibB most c h)] := by
 dsimp only [Clk.av,Clk.cs,ibB]
 rcases hh with rfl | ⟨n,F,rfl⟩
 all_goals
  try dsimp only [nilS]
  refine K1.M 0x5 Tryz.func29 40 ?_
  repeat' ((conv => whnf); first | refine K1.w ?_ | refine K1.u ?_ | refine K1.z ?_ | refine K1.y (fun _ => ?_) (fun _ => ?_) | fail)
  all_goals (conv => whnf)
  exact ⟨[],rfl,rfl,⟨⟨_,rfl,OEq.refl _⟩,trivial⟩,rfl,rfl,AEq.refl _⟩
def nextC (c : Clk) (r : Nat) : Clk := if c.at r < 1048576 then c.inc r else clk0
set_option maxRecDepth 100000 in
theorem cnext_spec (c : Clk) (r : Nat) (hr : r < 5) (hc : 0 ≤ c.at r) : ASpec Tryz.prog 52 [c.av, .v (.int .i64 (r : Int))] (.tup [(nextC c r).av, .v (.int .i64 (if c.at r < 1048576 then 0 else 25))]) [] := by
 unfold nextC
 by_cases h : c.at r < 1048576
 · rw [if_pos h,if_pos h]
   rcases (show r = 0 ∨ r = 1 ∨ r = 2 ∨ r = 3 ∨ r = 4 by omega) with rfl | rfl | rfl | rfl | rfl
   all_goals
    simp only [Clk.at] at h hc
    simp only [Clk.av,Clk.cs,Clk.inc]
    refine K1.E 0x10837 Tryz.func52 ?_
    repeat' ((conv => whnf); first | refine K1.w ?_ | refine K1.u ?_ | refine InA.mk (by decide) ?_ | refine ARet.hdI ?_ | refine K1.z ?_ | refine K1.y (fun _ => ?_) (fun _ => ?_) | fail)
    all_goals (conv => whnf)
    exact AEqI.mk (AEq.refl _)
 · rw [if_neg h,if_neg h]
   rcases (show r = 0 ∨ r = 1 ∨ r = 2 ∨ r = 3 ∨ r = 4 by omega) with rfl | rfl | rfl | rfl | rfl
   all_goals
    simp only [Clk.at] at h hc
    simp only [Clk.av,Clk.cs,clk0]
    refine K1.E 0x10837 Tryz.func52 ?_
    repeat' ((conv => whnf); first | refine K1.w ?_ | refine K1.u ?_ | refine InA.mk (by decide) ?_ | refine ARet.hdI ?_ | refine K1.z ?_ | refine K1.y (fun _ => ?_) (fun _ => ?_) | fail)
    all_goals (conv => whnf)
    exact AEqI.mk (AEq.refl _)
set_option maxHeartbeats 8000000 in
set_option maxRecDepth 100000 in
theorem pheight_spec (l : List Ev) (c : Clk) (hl : l.length ≤ 1000000000) (hh : ∀ e ∈ l,0 ≤ e.h ∧ e.h ≤ 1000000000) :
  ASpec Tryz.prog 53 [.sl 12 l.length true (evF l),c.av] (.v (.int .i64 (hgt l c))) [] := by
 dsimp only [Clk.av,Clk.cs]
 refine K1.E 0x40001f7b Tryz.func53 ?_
 repeat' ((conv => whnf); first | refine K1.w ?_ | refine K1.u ?_ | refine ARet.hdI ?_ | refine K1.z ?_ | refine K1.y (fun _ => ?_) (fun _ => ?_) | fail)
 conv => whnf
 refine ALoop.mk { x : Nat × (Int × Bool) // x.1 ≤ l.length ∧ x.2 = hgtF c (l.take x.1) } (fun x => ⟨[(9, .sl 12 l.length true (evF l)),(10, .v (.int .i64 (l.length : Int))),(3, .box 0 0),(5, .v (.int .i64 x.1.2.1)),(6, .v (.bool x.1.2.2)),(11, .v (.int .i64 (x.1.1 : Int)))],
   [(0, .box 31 c.cs)],[],1⟩) (fun x => l.length - x.1.1) ⟨(0,(0,false)),Nat.zero_le _,rfl⟩ _
  (LeR.mk' [] _ _ _ rfl ⟨AEq.refl _,AEq.refl _,AEq.refl _,AEq.refl _,AEq.refl _,AEq.int rfl,trivial⟩ ⟨⟨_,rfl,OEq.refl _⟩,trivial⟩ rfl) ?_
 rintro ⟨⟨j,s⟩,hj,hs⟩
 dsimp only at hj hs ⊢
 have hb := hgtF_bnd (c := c) (M := 1000000000) (by omega) (l.take j) (fun e he => hh e (List.mem_of_mem_take he)) (0,false) (by simp)
 have hs' : s = (l.take j).foldl (hStep c) (0,false) := hs
 rw [← hs'] at hb
 by_cases hjl : j < l.length
 · have hhas := has_spec c (l.getD (j : Int).toNat default).r (l.getD (j : Int).toNat default).n
   have hft : hgtF c (l.take (j + 1)) = hStep c s (l.getD (j : Int).toNat default) := by rw [hs]; exact fold_take hjl
   have hst : hStep c s (l.getD (j : Int).toNat default) = if (hasB c (l.getD (j : Int).toNat default).r (l.getD (j : Int).toNat default).n && (!s.2 || decide (s.1 < (l.getD (j : Int).toNat default).h))) = true then ((l.getD (j : Int).toNat default).h,true) else s := rfl
   rw [hst] at hft
   generalize hasB c (l.getD (j : Int).toNat default).r (l.getD (j : Int).toNat default).n = q at hhas hft
   clear hs' hst hs hh
   obtain ⟨s1,s2⟩ := s
   dsimp only at hb hft ⊢
   have k1 : q = true → s2 = false → ((l.getD (j : Int).toNat default).h,true) = hgtF c (l.take (j + 1)) := fun h1 h2 => by rw [hft,h1,h2]; simp
   have k2 : q = true → s1 < (l.getD (j : Int).toNat default).h → ((l.getD (j : Int).toNat default).h,true) = hgtF c (l.take (j + 1)) := fun h1 h2 => by rw [hft,h1,decide_eq_true h2]; simp
   have k3 : q = false → (s1,s2) = hgtF c (l.take (j + 1)) := fun h1 => by rw [hft,h1]; simp
   have k4 : s2 = true → ¬ s1 < (l.getD (j : Int).toNat default).h → (s1,s2) = hgtF c (l.take (j + 1)) := fun h1 h2 => by rw [hft,h1,decide_eq_false h2]; simp
   clear hft
   dsimp only [Clk.av,Clk.cs] at hhas ⊢
   repeat' ((conv => whnf); first | refine K1.w ?_ | refine K1.u ?_ | refine K1.P1 (hhas) rfl ?_ | refine ARet.hdI ?_ | refine K1.z ?_ | refine K1.y (fun _ => ?_) (fun _ => ?_) | fail)
   all_goals (conv => whnf)
   all_goals first
     | exact ⟨⟨(j + 1,(_,true)),hjl,by first | exact k1 (by assumption) (by assumption) | exact k2 (by assumption) (by omega)⟩,_,LeR.mk' [] _ _ _ rfl ⟨AEq.refl _,AEq.refl _,AEq.refl _,AEq.refl _,AEq.refl _,AEq.int rfl,trivial⟩ ⟨⟨_,rfl,OEq.refl _⟩,trivial⟩ rfl,Nat.sub_succ_lt_self _ _ hjl⟩
     | exact ⟨⟨(j + 1,(s1,s2)),hjl,by first | exact k3 (by assumption) | exact k4 (by assumption) (by omega)⟩,_,LeR.mk' [] _ _ _ rfl ⟨AEq.refl _,AEq.refl _,AEq.refl _,AEq.refl _,AEq.refl _,AEq.int rfl,trivial⟩ ⟨⟨_,rfl,OEq.refl _⟩,trivial⟩ rfl,Nat.sub_succ_lt_self _ _ hjl⟩
 · rw [List.take_of_length_le (show l.length ≤ j by omega)] at hs
   have hR : hgt l c = s.1 + 1 := by rw [hs]; rfl
   rw [hR]
   repeat' ((conv => whnf); first | refine K1.w ?_ | refine K1.u ?_ | refine ARet.hdI ?_ | refine K1.z ?_ | refine K1.y (fun _ => ?_) (fun _ => ?_) | fail)
   conv => whnf
   exact AEqI.mk (AEq.refl _)
theorem cloneE_sl {n : Nat} {F : Nat → List AV} (hl : n ≤ 1000000000) : ASpec Tryz.prog 65 [.sl 12 n true F] (.sl 12 n true F) [] := by
 refine K1.E 0x15 Tryz.func65 ?_
 repeat' ((conv => whnf); first | refine K1.w ?_ | refine K1.u ?_ | refine ARet.hdI ?_ | refine K1.z ?_ | refine K1.y (fun _ => ?_) (fun _ => ?_) | fail)
 all_goals (conv => whnf)
 · obtain rfl : n = 0 := by assumption
   exact AEqI.mk fun X u h => C1.nilS (by decide) h
 · exact AEqI.mk (AEq.sl (Nat.zero_add _) fun i _ => rfl)
def lastOut (sent : Int) (w : List Ev) : Int := if w.length = 0 then sent else (w.getD (w.length - 1) default).n
def addO (most sent : Int) (w : List Ev) (e : Ev) : List Ev × Int := if most ≤ (w.length : Int) then (w,17) else if e.n = lastOut sent w + 1 then (w ++ [e],0) else (w,20)
set_option maxHeartbeats 4000000 in
set_option maxRecDepth 100000 in
theorem ou_add_m (most batch sent : Int) (w w' : List Ev) (e : Ev) (x : Int) (hl : w.length ≤ 1000000) (hs : 0 ≤ sent ∧ sent ≤ 1000000000) (hn : ∀ j,0 ≤ (w.getD j default).n ∧ (w.getD j default).n ≤ 1000000000) (h : addO most sent w e = (w',x)) :
  MSpec Tryz.prog 56 [(0,ouB most batch sent (.own 1)),(1,evRow w)] [.box 0 0,e.av] (.v (.int .i64 x)) [(0,ouB most batch sent (.own 2)),(2,evRow w')] := by
 have hlast := hn ((w.length : Int) - 1).toNat
 have hl1 : w.length ≠ 0 → lastOut sent w = (w.getD ((w.length : Int) - 1).toNat default).n := fun h => by unfold lastOut; rw [if_neg h,show ((w.length : Int) - 1).toNat = w.length - 1 by omega]
 have hl0 : w.length = 0 → lastOut sent w = sent := fun h => by unfold lastOut; rw [if_pos h]
 have hble : w.length ≠ 0 → Nat.ble (((w.length : Int) - 1).toNat + 1) w.length = true := fun h => Nat.ble_eq_true_of_le (by omega)
 unfold addO at h
 dsimp only [ouB,evRow,Ev.av,Ev.cs]
 clear hn
 by_cases hm : most ≤ (w.length : Int)
 · rw [if_pos hm] at h
   cases h
   refine K1.M 0x40010027b Tryz.func56 40 ?_
   repeat' ((conv => whnf); first | refine K1.w ?_ | refine K1.u ?_ | refine K1.I 0x5 Tryz.func51 ?_ | refine K1.o (id := 9) [(0,none),(1,none),(2,none),(3,none),(4,none),(5,none),(6,some [5]),(7,some [5,4,2]),(8,none),(9,none),(10,some [5,4,2,8])] [(3,[2]),(4,[2]),(6,[5]),(7,[5,4,2]),(8,[5,4,2]),(9,[5,4,2,8]),(10,[5,4,2,8])] ?_ | refine K1.z ?_ | refine K1.y (fun _ => ?_) (fun _ => ?_) | fail)
   all_goals (conv => whnf)
   exact ⟨[(1,2)],rfl,rfl,⟨⟨_,rfl,OEq.refl _⟩,⟨_,rfl,OEq.refl _⟩,trivial⟩,rfl,rfl,AEq.refl _⟩
 · rw [if_neg hm] at h
   by_cases h0 : w.length = 0
   · rw [hl0 h0] at h
     clear hl0 hl1 hble
     by_cases he : e.n = sent + 1
     · rw [if_pos he] at h
       cases h
       refine K1.M 0x40010027b Tryz.func56 40 ?_
       repeat' ((conv => whnf); first | refine K1.w ?_ | refine K1.u ?_ | refine K1.I 0x5 Tryz.func51 ?_ | refine K1.o (id := 9) [(0,none),(1,none),(2,none),(3,none),(4,none),(5,none),(6,some [5]),(7,some [5,4,2]),(8,none),(9,none),(10,some [5,4,2,8])] [(3,[2]),(4,[2]),(6,[5]),(7,[5,4,2]),(8,[5,4,2]),(9,[5,4,2,8]),(10,[5,4,2,8])] ?_ | refine K1.z ?_ | refine K1.y (fun _ => ?_) (fun _ => ?_) | fail)
       all_goals (conv => whnf)
       exact ⟨[(42,2)],rfl,rfl,⟨⟨_,rfl,OEq.refl _⟩,⟨_,rfl,OEq.row (by simp) fun m hm => els_app1 (c := Ev.cs) (l := w) rfl rfl m hm⟩,trivial⟩,rfl,rfl,AEq.refl _⟩
     · rw [if_neg he] at h
       cases h
       refine K1.M 0x40010027b Tryz.func56 40 ?_
       repeat' ((conv => whnf); first | refine K1.w ?_ | refine K1.u ?_ | refine K1.I 0x5 Tryz.func51 ?_ | refine K1.o (id := 9) [(0,none),(1,none),(2,none),(3,none),(4,none),(5,none),(6,some [5]),(7,some [5,4,2]),(8,none),(9,none),(10,some [5,4,2,8])] [(3,[2]),(4,[2]),(6,[5]),(7,[5,4,2]),(8,[5,4,2]),(9,[5,4,2,8]),(10,[5,4,2,8])] ?_ | refine K1.z ?_ | refine K1.y (fun _ => ?_) (fun _ => ?_) | fail)
       all_goals (conv => whnf)
       exact ⟨[(1,2)],rfl,rfl,⟨⟨_,rfl,OEq.refl _⟩,⟨_,rfl,OEq.refl _⟩,trivial⟩,rfl,rfl,AEq.refl _⟩
   · rw [hl1 h0] at h
     have hble := hble h0
     clear hl0 hl1
     by_cases he : e.n = (w.getD ((w.length : Int) - 1).toNat default).n + 1
     · rw [if_pos he] at h
       cases h
       refine K1.M 0x40010027b Tryz.func56 40 ?_
       repeat' ((conv => whnf); first | refine K1.w ?_ | refine K1.u ?_ | refine K1.I 0x5 Tryz.func51 ?_ | refine BSpl.yes hble ?_ | refine K1.o (id := 9) [(0,none),(1,none),(2,none),(3,none),(4,none),(5,none),(6,some [5]),(7,some [5,4,2]),(8,none),(9,none),(10,some [5,4,2,8])] [(3,[2]),(4,[2]),(6,[5]),(7,[5,4,2]),(8,[5,4,2]),(9,[5,4,2,8]),(10,[5,4,2,8])] ?_ | refine K1.z ?_ | refine K1.y (fun _ => ?_) (fun _ => ?_) | fail)
       all_goals (conv => whnf)
       exact ⟨[(42,2)],rfl,rfl,⟨⟨_,rfl,OEq.refl _⟩,⟨_,rfl,OEq.row (by simp) fun m hm => els_app1 (c := Ev.cs) (l := w) rfl rfl m hm⟩,trivial⟩,rfl,rfl,AEq.refl _⟩
     · rw [if_neg he] at h
       cases h
       refine K1.M 0x40010027b Tryz.func56 40 ?_
       repeat' ((conv => whnf); first | refine K1.w ?_ | refine K1.u ?_ | refine K1.I 0x5 Tryz.func51 ?_ | refine BSpl.yes hble ?_ | refine K1.o (id := 9) [(0,none),(1,none),(2,none),(3,none),(4,none),(5,none),(6,some [5]),(7,some [5,4,2]),(8,none),(9,none),(10,some [5,4,2,8])] [(3,[2]),(4,[2]),(6,[5]),(7,[5,4,2]),(8,[5,4,2]),(9,[5,4,2,8]),(10,[5,4,2,8])] ?_ | refine K1.z ?_ | refine K1.y (fun _ => ?_) (fun _ => ?_) | fail)
       all_goals (conv => whnf)
       exact ⟨[(1,2)],rfl,rfl,⟨⟨_,rfl,OEq.refl _⟩,⟨_,rfl,OEq.refl _⟩,trivial⟩,rfl,rfl,AEq.refl _⟩
end Go.Proofs.YtimhagicagdkfaaGreat

/-
 A record,or a frame: its parts,and which may be.
-/
namespace Go.Proofs.YtimhagicagdkfaaGreat
open Go.RowKit
structure Rc where
 (k r u : Int) (c : Clk) (ev : List Ev)
def Rc.cs (x : Rc) : List AV := [.v (.int .i64 x.k), .v (.int .i64 x.r), .v (.int .i64 x.u), .v (.int .i64 x.c.c0), .v (.int .i64 x.c.c1), .v (.int .i64 x.c.c2), .v (.int .i64 x.c.c3), .v (.int .i64 x.c.c4), .sl 12 x.ev.length true (evF x.ev)]
def Rc.av (x : Rc) : AV := .agg x.cs
def rcU (k : Int) : Bool := k == 3 || k == 4
def rcE (k : Int) : Bool := k == 1 || k == 2 || k == 5 || k == 4
def rcC (k : Int) : Bool := k == 6
def rcK (k : Int) : Bool := decide (1 ≤ k ∧ k ≤ 6)
def okC (c : Clk) : Bool := okN c.c0 && okN c.c1 && okN c.c2 && okN c.c3 && okN c.c4
def clkZ (c : Clk) : Bool := decide (c.c0 = 0 ∧ c.c1 = 0 ∧ c.c2 = 0 ∧ c.c3 = 0 ∧ c.c4 = 0)
theorem clkZ_iff (c : Clk) : clkZ c = true ↔ c = clk0 := by
 obtain ⟨a,b,d,e,f⟩ := c
 simp [clkZ,clk0]
def mayR (x : Rc) : Bool :=
 rcK x.k && decide (0 ≤ x.r) && decide (x.r < 5) && okN x.u && decide (x.ev.length ≤ 4096) && okC x.c && (rcU x.k || decide (x.u = 0)) && (rcC x.k || clkZ x.c) && (rcE x.k || decide (x.ev.length = 0)) &&
  x.ev.all (fun e => decide (mayE e = 0)) && (decide (x.k ≠ 1) || decide (x.ev.length = 1))
end Go.Proofs.YtimhagicagdkfaaGreat
