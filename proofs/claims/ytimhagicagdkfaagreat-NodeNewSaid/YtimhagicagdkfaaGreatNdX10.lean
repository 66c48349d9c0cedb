/-
  Contracts of the walk: NdF, AmO, PmO, EvEq, Mk2, NdA.
-/
import Derived.Test.YtimhagicagdkfaaGreatNdX6
import Derived.Test.YtimhagicagdkfaaGreatNdX8
import Derived.Test.YtimhagicagdkfaaGreatNdX9
import Derived.Laws.StructEq
import Derived.Laws.Cover2
/-
 What may be done (layer 11): edit.Check,which defers.
-/
namespace Go.Proofs.YtimhagicagdkfaaGreat
open Go.RowKit
def idxC (l : List Cont) (key : ByteArray) : Int := match l.findIdx? (fun c => decide (c.key = key)) with | some i => (i : Int) | none => -1
def inS (s : List (List UInt8)) (v : ByteArray) : Bool := s.any fun x => decide (v = ⟨x.toArray⟩)
theorem idxC_at {l : List Cont} {key : ByteArray} {j : Nat} (hj : j < l.length) (hq : ∀ i,i < j → (l.getD i default).key ≠ key) (h : (l.getD j default).key = key) : idxC l key = j := by
 have : l.findIdx? (fun c => decide (c.key = key)) = some j := by
  rw [List.findIdx?_eq_some_iff_getElem]
  refine ⟨hj,?_,fun i hi => ?_⟩
  · rw [show l[j] = l.getD j default by simp [List.getD,hj]]
    exact decide_eq_true h
  · have := hq i hi
    rw [show l.getD i default = l[i] by simp [List.getD,show i < l.length by omega]] at this
    simpa using this
 unfold idxC
 rw [this]
theorem idxC_no {l : List Cont} {key : ByteArray} (hq : ∀ i,i < l.length → (l.getD i default).key ≠ key) : idxC l key = -1 := by
 have : l.findIdx? (fun c => decide (c.key = key)) = none := by
  rw [List.findIdx?_eq_none_iff]
  intro c hc
  obtain ⟨i,hi,rfl⟩ := List.getElem_of_mem hc
  have := hq i hi
  rw [show l.getD i default = l[i] by simp [List.getD,hi]] at this
  simpa using this
 unfold idxC
 rw [this]
theorem idxC_in (l : List Cont) (key : ByteArray) : idxC l key = -1 ∨ ∃ i : Nat,i < l.length ∧ idxC l key = i := by
 unfold idxC
 cases h : l.findIdx? (fun c => decide (c.key = key)) with
 | none => exact .inl rfl
 | some i => exact .inr ⟨i,(List.findIdx?_eq_some_iff_getElem.1 h).1,rfl⟩
set_option maxHeartbeats 4000000 in
set_option maxRecDepth 100000 in
theorem idxf_m (ed : Ed) (l : List Cont) (hl : l.length ≤ 1000000000) : MSpec Tryz.prog 86 [(0, .box 64 ed.cs)] [.sl 7 l.length false (coF l), .fn 87 [.box 0 0]] (.v (.int .i64 (idxC l ed.key))) [(0, .box 64 ed.cs)] := by
 dsimp only [Ed.cs]
 refine K1.M 0x103b3 Tryz.func86 10 ?_
 repeat' ((conv => whnf); first | refine K1.w ?_ | refine K1.u ?_ | refine K1.z ?_ | refine K1.y (fun _ => ?_) (fun _ => ?_) | fail)
 conv => whnf
 refine ALoop.mk { j : Nat // j ≤ l.length ∧ ∀ i,i < j → (l.getD i default).key ≠ ed.key } (fun j => ⟨[(8, .v (.int .i64 (j.1 : Int))),(7, .v (.int .i64 (l.length : Int))),(0, .sl 7 l.length false (coF l)),(1, .fn 87 [.box 0 0])],[(0, .box 64 [.v (.int .i64 ed.k), .v (.string ed.key), .v (.int .i64 ed.l), .v (.string ed.v)])],[[(0, .box 0 0)]],11⟩)
  (fun j => l.length - j.1) ⟨0,Nat.zero_le _,fun i h => absurd h (Nat.not_lt_zero i)⟩ _ (LeR.mk' [] _ _ _ rfl ⟨AEq.int rfl,AEq.refl _,AEq.refl _,AEq.refl _,trivial⟩ ⟨⟨_,rfl,OEq.refl _⟩,trivial⟩ rfl) ?_
 rintro ⟨j,hj,hq⟩
 dsimp only
 by_cases hjl : j < l.length
 · by_cases hk : (l.getD j default).key = ed.key
   · rw [idxC_at hjl hq hk]
     have hk : (l.getD (j : Int).toNat default).key = ed.key := hk
     clear hq
     repeat' ((conv => whnf); first | refine K1.w ?_ | refine K1.u ?_ | refine K1.I 0xf Tryz.func87 ?_ | refine K1.z ?_ | refine K1.y (fun _ => ?_) (fun _ => ?_) | fail)
     all_goals (conv => whnf)
     exact ⟨[],rfl,rfl,⟨⟨_,rfl,OEq.refl _⟩,trivial⟩,rfl,rfl,AEq.refl _⟩
   · have hq2 : ∀ i,i < j + 1 → (l.getD i default).key ≠ ed.key := fun i hi => by
      rcases Nat.lt_or_ge i j with h | h
      · exact hq i h
      · obtain rfl := Nat.le_antisymm (Nat.le_of_lt_succ hi) h
        exact hk
     have hk : ¬ (l.getD (j : Int).toNat default).key = ed.key := hk
     clear hq
     repeat' ((conv => whnf); first | refine K1.w ?_ | refine K1.u ?_ | refine K1.I 0xf Tryz.func87 ?_ | refine K1.z ?_ | refine K1.y (fun _ => ?_) (fun _ => ?_) | fail)
     all_goals (conv => whnf)
     exact ⟨⟨j + 1,hjl,hq2⟩,_,LeR.mk' [] _ _ _ rfl ⟨AEq.int rfl,AEq.refl _,AEq.refl _,AEq.refl _,trivial⟩ ⟨⟨_,rfl,OEq.refl _⟩,trivial⟩ rfl,by show l.length - (j + 1) < l.length - j; omega⟩
 · obtain rfl : j = l.length := by omega
   rw [idxC_no hq]
   repeat' ((conv => whnf); first | refine K1.w ?_ | refine K1.u ?_ | refine K1.z ?_ | refine K1.y (fun _ => ?_) (fun _ => ?_) | fail)
   all_goals (conv => whnf)
   exact ⟨[],rfl,rfl,⟨⟨_,rfl,OEq.refl _⟩,trivial⟩,rfl,rfl,AEq.refl _⟩
set_option maxHeartbeats 4000000 in
set_option maxRecDepth 100000 in
theorem cont_spec (s : List (List UInt8)) (v : ByteArray) (hl : s.length ≤ 1000000000) : ASpec Tryz.prog 88 [.sl 1 s.length true (strF s), .v (.string v)] (.v (.bool (inS s v))) [] := by
 refine K1.E 0x13 Tryz.func88 ?_
 repeat' ((conv => whnf); first | refine K1.w ?_ | refine K1.u ?_ | refine K1.I 0x103b3 Tryz.func118 ?_ | refine K1.z ?_ | refine K1.y (fun _ => ?_) (fun _ => ?_) | fail)
 conv => whnf
 refine ALoop.mk { j : Nat // j ≤ s.length ∧ ∀ i,i < j → ¬ v = ⟨(s.getD i []).toArray⟩ } (fun j => ⟨[(8, .v (.int .i64 (j.1 : Int))),(7, .v (.int .i64 (s.length : Int))),(0, .sl 1 s.length true (strF s)),(1, .v (.string v))],[],
   [[(6, .v (.string v)),(5, .sl 1 s.length true (strF s)),(4, .v (.bool false)),(0, .sl 1 s.length true (strF s)),(1, .v (.string v))]],0⟩)
  (fun j => s.length - j.1) ⟨0,Nat.zero_le _,fun i h => absurd h (Nat.not_lt_zero i)⟩ _ (LeR.mk' [] _ _ _ rfl ⟨AEq.int rfl,AEq.refl _,AEq.refl _,AEq.refl _,trivial⟩ trivial rfl) ?_
 rintro ⟨j,hj,hq⟩
 dsimp only
 by_cases hjl : j < s.length
 · by_cases hk : v = ⟨(s.getD j []).toArray⟩
   · have hin : inS s v = true := List.any_eq_true.2 ⟨s[j],List.getElem_mem hjl,by rw [show s.getD j [] = s[j] by simp [List.getD,hjl]] at hk; exact decide_eq_true hk⟩
     rw [hin]
     have hk : v = ⟨(s.getD (j : Int).toNat []).toArray⟩ := hk
     clear hq
     repeat' ((conv => whnf); first | refine K1.w ?_ | refine K1.u ?_ | refine Spl.yes hk ?_ | refine ARet.hdI ?_ | refine K1.z ?_ | refine K1.y (fun _ => ?_) (fun _ => ?_) | fail)
     all_goals (conv => whnf)
     exact AEqI.mk (AEq.refl _)
   · have hq2 : ∀ i,i < j + 1 → ¬ v = ⟨(s.getD i []).toArray⟩ := fun i hi => by
      rcases Nat.lt_or_ge i j with h | h
      · exact hq i h
      · obtain rfl := Nat.le_antisymm (Nat.le_of_lt_succ hi) h
        exact hk
     have hk : ¬ v = ⟨(s.getD (j : Int).toNat []).toArray⟩ := hk
     clear hq
     repeat' ((conv => whnf); first | refine K1.w ?_ | refine K1.u ?_ | refine Spl.no hk ?_ | refine K1.z ?_ | refine K1.y (fun _ => ?_) (fun _ => ?_) | fail)
     all_goals (conv => whnf)
     exact ⟨⟨j + 1,hjl,hq2⟩,_,LeR.mk' [] _ _ _ rfl ⟨AEq.int rfl,AEq.refl _,AEq.refl _,AEq.refl _,trivial⟩ trivial rfl,by show s.length - (j + 1) < s.length - j; omega⟩
 · obtain rfl : j = s.length := by omega
   have hin : inS s v = false := by
    rw [Bool.eq_false_iff]
    intro h
    obtain ⟨x,hx,hv⟩ := List.any_eq_true.1 h
    obtain ⟨i,hi,rfl⟩ := List.getElem_of_mem hx
    exact hq i hi (by rw [show s.getD i [] = s[i] by simp [List.getD,hi]]; exact of_decide_eq_true hv)
   rw [hin]
   repeat' ((conv => whnf); first | refine K1.w ?_ | refine K1.u ?_ | refine ARet.hdI ?_ | refine K1.z ?_ | refine K1.y (fun _ => ?_) (fun _ => ?_) | fail)
   all_goals (conv => whnf)
   exact AEqI.mk (AEq.refl _)
def setL (c : Cont) (n : Int) : List (List UInt8) := if n = 0 then c.s0 else c.s1
def checkE (cL cP : Int) (l : List Cont) (e : Ed) : Int :=
 if editE e ≠ 0 then editE e
 else if e.k = 1 then (if idxC l e.key = -1 then (if cL ≤ (l.length : Int) then 15 else 0) else 13)
 else if idxC l e.key = -1 then 14
 else if e.k = 4 then (if cP ≤ ((setL (l.getD (idxC l e.key).toNat default) e.l).length : Int) then 15 else 0)
 else if e.k = 5 then (if inS (setL (l.getD (idxC l e.key).toNat default) e.l) e.v = true then 0 else 16)
 else 0
set_option maxHeartbeats 4000000 in
set_option maxRecDepth 100000 in
theorem check_spec (c : Cfg) (l : List Cont) (e : Ed) (hl : l.length ≤ 1000000) (hs : ∀ x ∈ l,x.s0.length ≤ 1000000 ∧ x.s1.length ≤ 1000000) : ASpec Tryz.prog 49 [c.av, .sl 7 l.length false (coF l),e.av] (.v (.int .i64 (checkE c.l c.p l e))) [] := by
 have hed := edit_spec e
 have hix := idxf_m e l (by omega)
 have hin := idxC_in l e.key
 generalize hi : idxC l e.key = ix at hix hin
 unfold checkE
 rw [hi]
 clear hi
 obtain ⟨cn,cw,cq,ch,cl,cp⟩ := c
 obtain ⟨k,key,lab,v⟩ := e
 dsimp only [Cfg.av,Cfg.cs,Ed.av,Ed.cs] at hed hix ⊢
 refine aspec_defer lay_ok 9 0x8004001a81011ef 0x43 Tryz.func49 rfl rfl rfl Tryz.func85 rfl rfl rfl (i := 6) (j := 7) rfl rfl rfl rfl rfl rfl rfl ?_
 by_cases he : editE ⟨k,key,lab,v⟩ = 0
 · rw [if_neg (by simp [he])]
   rw [he] at hed
   have hlab : k = 4 ∨ k = 5 → lab = 0 ∨ lab = 1 := fun h => by
    have g := (editE_zero he).2.2.2.2.2.1 (by unfold isLong; rcases h with rfl | rfl <;> rfl)
    have g1 := g.1
    have g2 := g.2.1
    dsimp only at g1 g2
    omega
   clear he
   rcases hin with rfl | ⟨i,hil,rfl⟩
   · rw [if_pos rfl,if_pos rfl]
     clear hlab hs
     by_cases hk1 : k = 1
     · rw [if_pos hk1]
       by_cases hcl : cl ≤ (l.length : Int)
       all_goals first | rw [if_pos hcl] | rw [if_neg hcl]
       all_goals repeat' ((conv => whnf); first | refine K1.w ?_ | refine K1.u ?_ | refine K1.P1 (hed) rfl ?_ | refine K1.C 1 [(0,_)] (hix) rfl ?_ | refine InA.mk (by decide) ?_ | refine ARet.hdI ?_ | refine K1.o (id := 16) [(0,none),(1,none),(2,none),(3,none),(4,none),(5,none),(6,none),(7,none),(8,none),(9,none),(10,none),(11,none),(12,some [11,10,7,3])] [(6,[3]),(7,[3]),(8,[7,3]),(11,[10,7,3]),(12,[11,10,7,3])] ?_ | refine K1.o (id := 18) [(0,none),(1,none),(2,none),(3,none),(4,none),(5,none),(6,none),(7,none),(8,none),(9,none),(10,some [9,7,3]),(11,none)] [(6,[3]),(7,[3]),(10,[9,7,3]),(11,[9,7,3])] ?_ | refine K1.z ?_ | refine K1.y (fun _ => ?_) (fun _ => ?_) | fail)
       all_goals (conv => whnf)
       all_goals exact AEqI.mk (AEq.refl _)
     · rw [if_neg hk1]
       repeat' ((conv => whnf); first | refine K1.w ?_ | refine K1.u ?_ | refine K1.P1 (hed) rfl ?_ | refine K1.C 1 [(0,_)] (hix) rfl ?_ | refine InA.mk (by decide) ?_ | refine ARet.hdI ?_ | refine K1.o (id := 16) [(0,none),(1,none),(2,none),(3,none),(4,none),(5,none),(6,none),(7,none),(8,none),(9,none),(10,none),(11,none),(12,some [11,10,7,3])] [(6,[3]),(7,[3]),(8,[7,3]),(11,[10,7,3]),(12,[11,10,7,3])] ?_ | refine K1.o (id := 18) [(0,none),(1,none),(2,none),(3,none),(4,none),(5,none),(6,none),(7,none),(8,none),(9,none),(10,some [9,7,3]),(11,none)] [(6,[3]),(7,[3]),(10,[9,7,3]),(11,[9,7,3])] ?_ | refine K1.z ?_ | refine K1.y (fun _ => ?_) (fun _ => ?_) | fail)
       all_goals (conv => whnf)
       all_goals exact AEqI.mk (AEq.refl _)
   · have hne : ¬ ((i : Int) = -1) := by omega
     rw [if_neg hne,if_neg hne,Int.toNat_natCast]
     by_cases hk1 : k = 1
     · rw [if_pos hk1]; clear hlab hs
       repeat' ((conv => whnf); first | refine K1.w ?_ | refine K1.u ?_ | refine K1.P1 (hed) rfl ?_ | refine K1.C 1 [(0,_)] (hix) rfl ?_ | refine InA.mk (by decide) ?_ | refine ARet.hdI ?_ | refine K1.o (id := 16) [(0,none),(1,none),(2,none),(3,none),(4,none),(5,none),(6,none),(7,none),(8,none),(9,none),(10,none),(11,none),(12,some [11,10,7,3])] [(6,[3]),(7,[3]),(8,[7,3]),(11,[10,7,3]),(12,[11,10,7,3])] ?_ | refine K1.o (id := 18) [(0,none),(1,none),(2,none),(3,none),(4,none),(5,none),(6,none),(7,none),(8,none),(9,none),(10,some [9,7,3]),(11,none)] [(6,[3]),(7,[3]),(10,[9,7,3]),(11,[9,7,3])] ?_ | refine K1.z ?_ | refine K1.y (fun _ => ?_) (fun _ => ?_) | fail)
       all_goals (conv => whnf)
       all_goals exact AEqI.mk (AEq.refl _)
     · rw [if_neg hk1]
       have hmem : l.getD i default ∈ l := by rw [show l.getD i default = l[i] by simp [List.getD,hil]]; exact List.getElem_mem hil
       have hb := hs _ hmem
       have c0 := cont_spec (l.getD i default).s0 v (by omega)
       have c1 := cont_spec (l.getD i default).s1 v (by omega)
       clear hs hmem
       rw [show l.getD i default = l.getD (i : Int).toNat default from rfl] at c0 c1 hb ⊢
       by_cases hk4 : k = 4
       · rw [if_pos hk4]
         rcases hlab (.inl hk4) with rfl | rfl
         all_goals first | rw [show setL (l.getD (i : Int).toNat default) 0 = (l.getD (i : Int).toNat default).s0 from rfl] | rw [show setL (l.getD (i : Int).toNat default) 1 = (l.getD (i : Int).toNat default).s1 from rfl]
         all_goals split
         all_goals repeat' ((conv => whnf); first | refine K1.w ?_ | refine K1.u ?_ | refine K1.P1 (hed) rfl ?_ | refine K1.C 1 [(0,_)] (hix) rfl ?_ | refine InA.mk (by decide) ?_ | refine ARet.hdI ?_ | refine K1.o (id := 16) [(0,none),(1,none),(2,none),(3,none),(4,none),(5,none),(6,none),(7,none),(8,none),(9,none),(10,none),(11,none),(12,some [11,10,7,3])] [(6,[3]),(7,[3]),(8,[7,3]),(11,[10,7,3]),(12,[11,10,7,3])] ?_ | refine K1.o (id := 18) [(0,none),(1,none),(2,none),(3,none),(4,none),(5,none),(6,none),(7,none),(8,none),(9,none),(10,some [9,7,3]),(11,none)] [(6,[3]),(7,[3]),(10,[9,7,3]),(11,[9,7,3])] ?_ | refine K1.z ?_ | refine K1.y (fun _ => ?_) (fun _ => ?_) | fail)
         all_goals (conv => whnf)
         all_goals exact AEqI.mk (AEq.refl _)
       · rw [if_neg hk4]
         by_cases hk5 : k = 5
         · rw [if_pos hk5]
           rcases hlab (.inr hk5) with rfl | rfl
           all_goals first | rw [show setL (l.getD (i : Int).toNat default) 0 = (l.getD (i : Int).toNat default).s0 from rfl]; generalize inS (l.getD (i : Int).toNat default).s0 v = b at c0 ⊢ | rw [show setL (l.getD (i : Int).toNat default) 1 = (l.getD (i : Int).toNat default).s1 from rfl]; generalize inS (l.getD (i : Int).toNat default).s1 v = b at c1 ⊢
           all_goals cases b
           all_goals first | rw [if_pos rfl] | rw [if_neg Bool.false_ne_true]
           all_goals repeat' ((conv => whnf); first | refine K1.w ?_ | refine K1.u ?_ | refine K1.P1 (hed) rfl ?_ | refine K1.C 1 [(0,_)] (hix) rfl ?_ | refine K1.P1 (c0) rfl ?_ | refine K1.P1 (c1) rfl ?_ | refine InA.mk (by decide) ?_ | refine ARet.hdI ?_ | refine K1.o (id := 16) [(0,none),(1,none),(2,none),(3,none),(4,none),(5,none),(6,none),(7,none),(8,none),(9,none),(10,none),(11,none),(12,some [11,10,7,3])] [(6,[3]),(7,[3]),(8,[7,3]),(11,[10,7,3]),(12,[11,10,7,3])] ?_ | refine K1.o (id := 18) [(0,none),(1,none),(2,none),(3,none),(4,none),(5,none),(6,none),(7,none),(8,none),(9,none),(10,some [9,7,3]),(11,none)] [(6,[3]),(7,[3]),(10,[9,7,3]),(11,[9,7,3])] ?_ | refine K1.z ?_ | refine K1.y (fun _ => ?_) (fun _ => ?_) | fail)
           all_goals (conv => whnf)
           all_goals exact AEqI.mk (AEq.refl _)
         · rw [if_neg hk5]
           repeat' ((conv => whnf); first | refine K1.w ?_ | refine K1.u ?_ | refine K1.P1 (hed) rfl ?_ | refine K1.C 1 [(0,_)] (hix) rfl ?_ | refine InA.mk (by decide) ?_ | refine ARet.hdI ?_ | refine K1.o (id := 16) [(0,none),(1,none),(2,none),(3,none),(4,none),(5,none),(6,none),(7,none),(8,none),(9,none),(10,none),(11,none),(12,some [11,10,7,3])] [(6,[3]),(7,[3]),(8,[7,3]),(11,[10,7,3]),(12,[11,10,7,3])] ?_ | refine K1.o (id := 18) [(0,none),(1,none),(2,none),(3,none),(4,none),(5,none),(6,none),(7,none),(8,none),(9,none),(10,some [9,7,3]),(11,none)] [(6,[3]),(7,[3]),(10,[9,7,3]),(11,[9,7,3])] ?_ | refine K1.z ?_ | refine K1.y (fun _ => ?_) (fun _ => ?_) | fail)
           all_goals (conv => whnf)
           all_goals exact AEqI.mk (AEq.refl _)
 · rw [if_pos he]
   generalize editE ⟨k,key,lab,v⟩ = x at hed he ⊢
   repeat' ((conv => whnf); first | refine K1.w ?_ | refine K1.u ?_ | refine K1.P1 (hed) rfl ?_ | refine ARet.hdI ?_ | refine K1.o (id := 16) [(0,none),(1,none),(2,none),(3,none),(4,none),(5,none),(6,none),(7,none),(8,none),(9,none),(10,none),(11,none),(12,some [11,10,7,3])] [(6,[3]),(7,[3]),(8,[7,3]),(11,[10,7,3]),(12,[11,10,7,3])] ?_ | refine K1.o (id := 18) [(0,none),(1,none),(2,none),(3,none),(4,none),(5,none),(6,none),(7,none),(8,none),(9,none),(10,some [9,7,3]),(11,none)] [(6,[3]),(7,[3]),(10,[9,7,3]),(11,[9,7,3])] ?_ | refine K1.z ?_ | refine K1.y (fun _ => ?_) (fun _ => ?_) | fail)
   all_goals (conv => whnf)
   all_goals exact AEqI.mk (AEq.refl _)
end Go.Proofs.YtimhagicagdkfaaGreat

/-
 Objects that are told as a whole: opened into their parts at a function's door,and closed at its end (MSpec.opn); what a slice's header says when its row is gone (ACall.hdr).
-/
namespace Go.Proofs.YtimhagicagdkfaaGreat
open Go.RowKit
def Opens (o : OB) (j : Nat) {Y : Type} (hs : Y → List (Nat × AO)) : Prop :=
 ∀ (w : World) (k : Nat → Prop) (v : Value),o.R w k v → ∃ (y : Y) (ρ : Nat → Value),hdV (ρ j) = hdV v ∧ (blocksOf ρ (hs y)).Perm (blks v) ∧ ∀ p ∈ hs y,ObjOk ⟨w,k,ρ⟩ p.1 p.2
def Closes (hs : List (Nat × AO)) (j : Nat) (o : OB) : Prop :=
 ∀ (w : World) (k : Nat → Prop) (ρ : Nat → Value),(blocksOf ρ hs).Nodup → (∀ p ∈ hs,ObjOk ⟨w,k,ρ⟩ p.1 p.2) → ∃ us,o.R w k (.tuple us) ∧ hdV (.tuple us) = hdV (ρ j) ∧ ∀ b ∈ blks (.tuple us),b ∈ blocksOf ρ hs
def refQ0 (q : Nat → Bool) (j : Nat) : AV → Bool
  | .own i => q i || Nat.beq i j
  | .box i _ => q i || Nat.beq i j
  | .eown i .. => q i
  | .osl i .. => q i || Nat.beq i j
  | .cf _ i _ => q i || Nat.beq i j
  | _ => true
def refQ1 (q : Nat → Bool) (j : Nat) : AV → Bool
  | .agg cs => cs.all (refQ0 q j)
  | .fn _ cs => cs.all (refQ0 q j)
  | x => refQ0 q j x
def refQ2 (q : Nat → Bool) (j : Nat) : AV → Bool
  | .tup vs => vs.all (refQ1 q j)
  | x => refQ1 q j x
section
variable {X Y : CX} {q : Nat → Bool} {j : Nat} (hk : ∀ b,X.keep b → Y.keep b) (hm : Y.w = X.w) (hρ : ∀ i,q i = true → Y.ρ i = X.ρ i) (hj : hdV (Y.ρ j) = hdV (X.ρ j))
include hk hm hρ hj
theorem C0.refQ {av : AV} {u : Value} (hr : refQ0 q j av = true) (hc : C0 X av u) : C0 Y av u := by
 have hmm : ∀ b,X.keep b → Y.w.heap[b]? = X.w.heap[b]? := fun _ _ => by rw [hm]
 have hh : ∀ i,(q i || Nat.beq i j) = true → hdV (Y.ρ i) = hdV (X.ρ i) := fun i h => by
  simp only [Bool.or_eq_true] at h
  rcases h with h | h
  · rw [hρ i h]
  · rw [Nat.eq_of_beq_eq_true h]; exact hj
 cases av with
 | own id => exact (show u = hdV (X.ρ id) from hc).trans (hh id hr).symm
 | eown id s i k => obtain ⟨b,n,c,h1,h2⟩ := hc; exact ⟨b,n,c,(hρ id hr).trans h1,h2⟩
 | osl id s i k => exact Or.imp (fun ⟨b,c,h1,h2⟩ => ⟨b,c,(congrArg blk1 (hh id hr)).trans h1,h2⟩) _root_.id hc
 | box id off => obtain ⟨b,h1,h2⟩ := hc; exact ⟨b,(hh id hr).trans h1,h2⟩
 | cf gg id off => obtain ⟨b,h1,h2⟩ := hc; exact ⟨b,(hh id hr).trans h1,h2⟩
 | el cs k =>
   obtain ⟨b,o,us,e,kb,ha,hcell⟩ := hc
   exact ⟨b,o,us,e,hk b kb,ha.imp (fun _ _ => PC.mono hk hmm),fun j y hj => (World.cell?_of_block (hmm b kb)).trans (hcell j y hj)⟩
 | sl s n sc f => exact PC.mono hk hmm hc
 | v x => exact hc
 | junk => trivial
 | agg cs => exact hc
 | tup cs => exact hc
 | fn g caps => exact hc
theorem C1.refQ {av : AV} {u : Value} (hr : refQ1 q j av = true) (hc : C1 X av u) : C1 Y av u := by
 cases av with
 | agg cs => obtain ⟨us,e,ha⟩ := hc; exact ⟨us,e,ha.impB hr fun _ _ q k => C0.refQ hk hm hρ hj q k⟩
 | fn g cs => obtain ⟨us,e,ha⟩ := hc; exact ⟨us,e,ha.impB hr fun _ _ q k => C0.refQ hk hm hρ hj q k⟩
 | own id => exact C1.of0 (C0.refQ hk hm hρ hj (av := .own id) hr hc)
 | eown id s i k => exact C1.of0 (C0.refQ hk hm hρ hj (av := .eown id s i k) hr hc)
 | osl id s i k => exact C1.of0 (C0.refQ hk hm hρ hj (av := .osl id s i k) hr hc)
 | box id k => exact C1.of0 (C0.refQ hk hm hρ hj (av := .box id k) hr hc)
 | cf gg id k => exact C1.of0 (C0.refQ hk hm hρ hj (av := .cf gg id k) hr hc)
 | el cs k => exact C1.of0 (C0.refQ hk hm hρ hj (av := .el cs k) hr hc)
 | sl s n sc f => exact C1.of0 (C0.refQ hk hm hρ hj (av := .sl s n sc f) hr hc)
 | v x => exact hc
 | junk => trivial
 | tup cs => exact hc
theorem C2.refQ {av : AV} {u : Value} (hr : refQ2 q j av = true) (hc : C2 X av u) : C2 Y av u := by
 cases av with
 | tup vs => obtain ⟨us,e,ha⟩ := hc; exact ⟨us,e,ha.impB hr fun _ _ q k => C1.refQ hk hm hρ hj q k⟩
 | agg cs => exact C2.of1 (C1.refQ hk hm hρ hj (av := .agg cs) hr hc)
 | fn g cs => exact C2.of1 (C1.refQ hk hm hρ hj (av := .fn g cs) hr hc)
 | own id => exact C2.of1 (C1.refQ hk hm hρ hj (av := .own id) hr hc)
 | eown id s i k => exact C2.of1 (C1.refQ hk hm hρ hj (av := .eown id s i k) hr hc)
 | osl id s i k => exact C2.of1 (C1.refQ hk hm hρ hj (av := .osl id s i k) hr hc)
 | box id k => exact C2.of1 (C1.refQ hk hm hρ hj (av := .box id k) hr hc)
 | cf gg id k => exact C2.of1 (C1.refQ hk hm hρ hj (av := .cf gg id k) hr hc)
 | el cs k => exact C2.of1 (C1.refQ hk hm hρ hj (av := .el cs k) hr hc)
 | sl s n sc f => exact C2.of1 (C1.refQ hk hm hρ hj (av := .sl s n sc f) hr hc)
 | v x => exact hc
 | junk => trivial
end
theorem single_blocks (ρ : Nat → Value) (p : Nat × AO) : blocksOf ρ [p] = blks (ρ p.1) := by rw [blocks_cons]; simp [blocksOf]
theorem MSpec.opn {P : Program} {f : FuncId} {o o' : OB} {j : Nat} {Y : Type} {hs : Y → List (Nat × AO)} {avs : List AV} {r : AV} {ho : List (Nat × AO)} (hE : Enters P f) (hO : Opens o j hs)
  (h : ∀ y,∃ hs',Closes hs' j o' ∧ hasN j (hs y) = true ∧ hasN j hs' = true ∧ MSpec P f (hs y) avs r (hs' ++ ho))
  (hb : (avs.all (refQ1 (fun _ => false) j) && refQ2 (fun i => hasN i ho) j r && closedH ho ho && !(hasN j ho)) = true) : MSpec P f [(j, .obs o)] avs r ((j, .obs o') :: ho) := by
 simp only [Bool.and_eq_true,Bool.not_eq_true'] at hb
 obtain ⟨⟨⟨hav,hrr⟩,hcl⟩,hne⟩ := hb
 refine ⟨hE,fun w keep ρ args hkeep hobj hnd hbl hargs => ?_⟩
 obtain ⟨us,eu,hR⟩ := hobj _ (List.mem_singleton.2 rfl)
 have eu : ρ j = .tuple us := eu
 have hR : o.R w keep (ρ j) := hR
 have hsb := single_blocks ρ (j, .obs o)
 rw [hsb] at hnd hbl
 obtain ⟨y,ρ',hhd,hperm,hok⟩ := hO w keep (ρ j) hR
 obtain ⟨hs',hC,hj1,hj2,hM⟩ := h y
 have hmem : ∀ b,b ∈ blocksOf ρ' (hs y) ↔ b ∈ blks (ρ j) := fun b => hperm.mem_iff
 refine (hM.2 w keep ρ' args hkeep hok (hperm.nodup_iff.2 hnd) (fun b hb => hbl b ((hmem b).1 hb)) (hargs.impB hav fun _ _ q k => C1.refQ (X := ⟨w,keep,ρ⟩) (Y := ⟨w,keep,ρ'⟩) (fun _ h => h) rfl (fun _ h => by cases h) hhd q k)).mono ?_
 rintro e w' ⟨u,ρ3,rfl,hbel,hfix,hc,hout,hnd',hnew⟩
 rw [blocks_append,List.nodup_append] at hnd'
 obtain ⟨hn1,hn2,hn3⟩ := hnd'
 obtain ⟨vs,hR',hhd',hbs⟩ := hC w' (keepOf (baseM w keep (fun b => b ∈ blocksOf ρ' (hs y))) w' ρ3 (hs' ++ ho)) ρ3 hn1 (fun p hp => hout p (List.mem_append_left _ hp))
 let ρ4 : Nat → Value := fun i => if i = j then .tuple vs else ρ3 i
 have e4j : ρ4 j = .tuple vs := by simp [ρ4]
 have e4 : ∀ i,hasN i ho = true → ρ4 i = ρ3 i := fun i hi => by
  have : i ≠ j := by rintro rfl; rw [hne] at hi; cases hi
  simp [ρ4,this]
 have hb4 : blocksOf ρ4 ((j, .obs o') :: ho) = blks (.tuple vs) ++ blocksOf ρ3 ho := by
  rw [blocks_cons,blocks_congr fun p hp => e4 p.1 (hasN_mem.2 ⟨p,hp,rfl⟩)]
  show blks (ρ4 j) ++ _ = _
  rw [e4j]
 have hsub4 : ∀ b,b ∈ blocksOf ρ4 ((j, .obs o') :: ho) → b ∈ blocksOf ρ3 (hs' ++ ho) := fun b hb => by
  rw [hb4] at hb
  rw [blocks_append]
  exact (List.mem_append.1 hb).elim (fun h => List.mem_append_left _ (hbs b h)) (fun h => List.mem_append_right _ h)
 have hk4 : ∀ b,keepOf (baseM w keep (fun b => b ∈ blocksOf ρ' (hs y))) w' ρ3 (hs' ++ ho) b → keepOf (baseM w keep (fun b => b ∈ blocksOf ρ [(j, .obs o)])) w' ρ4 ((j, .obs o') :: ho) b := by
  rintro b ⟨h1,h2,h3⟩
  exact ⟨h1,fun hlt => (h2 hlt).imp id fun h => (by show b ∈ blocksOf ρ [(j, .obs o)]; rw [hsb]; exact (hmem b).1 h),fun h => h3 (hsub4 b h)⟩
 refine ⟨u,ρ4,rfl,⟨hbel.os,hbel.tape,hbel.output,hbel.size,fun k hk hM' => hbel.block k hk fun h => hM' (by rw [hsb]; exact (hmem k).1 h)⟩,?_,?_,?_,?_,?_⟩
 · intro p hp q hq eq
   obtain rfl := List.mem_singleton.1 hp
   refine .inr ⟨⟨vs,e4j⟩,⟨us,eu⟩,?_⟩
   show hdV (ρ4 j) = hdV (ρ j)
   rw [e4j,hhd',← hhd]
   obtain ⟨p',hp',ep⟩ := hasN_mem.1 hj1
   obtain ⟨q',hq',eq'⟩ := hasN_mem.1 hj2
   have := (hfix p' hp' q' (List.mem_append_left _ hq') (eq'.trans ep.symm)).hd
   rw [ep] at this
   exact this
 · exact C2.refQ (X := cxOf (baseM w keep (fun b => b ∈ blocksOf ρ' (hs y))) w' ρ3 (hs' ++ ho)) (Y := cxOf (baseM w keep (fun b => b ∈ blocksOf ρ [(j, .obs o)])) w' ρ4 ((j, .obs o') :: ho)) hk4 rfl e4 (by show hdV (ρ4 j) = hdV (ρ3 j); rw [e4j,hhd']) hrr hc
 · intro p hp
   rcases List.mem_cons.1 hp with rfl | hp
   · refine ⟨vs,e4j,?_⟩
     show o'.R w' _ (ρ4 j)
     rw [e4j]
     exact o'.mono hk4 (fun _ _ => rfl) (fun _ _ => rfl) hR'
   · exact ObjOk.over (X := cxOf (baseM w keep (fun b => b ∈ blocksOf ρ' (hs y))) w' ρ3 (hs' ++ ho)) (Y := cxOf (baseM w keep (fun b => b ∈ blocksOf ρ [(j, .obs o)])) w' ρ4 ((j, .obs o') :: ho)) hk4 rfl e4 (hasN_mem.2 ⟨p,hp,rfl⟩) (closedH_mem hcl p hp) (hout p (List.mem_append_right _ hp))
 · rw [hb4,List.nodup_append]
   exact ⟨(o'.lt hR').2.2,hn2,fun a ha b hb => hn3 a (hbs a ha) b hb⟩
 · intro b hb
   rcases hnew b (hsub4 b hb) with h | h
   · exact .inl h
   · exact .inr (by rw [hsb]; exact (hmem b).1 h)
theorem MSpec.cls {P : Program} {f : FuncId} {o' : OB} {j : Nat} {avs : List AV} {r : AV} {hs' ho : List (Nat × AO)} (hC : Closes hs' j o') (hM : MSpec P f [] avs r (hs' ++ ho))
  (hb : (refQ2 (fun i => hasN i ho) j r && closedH ho ho && !(hasN j ho)) = true) : MSpec P f [] avs r ((j, .obs o') :: ho) := by
 simp only [Bool.and_eq_true,Bool.not_eq_true'] at hb
 obtain ⟨⟨hrr,hcl⟩,hne⟩ := hb
 refine ⟨hM.1,fun w keep ρ args hkeep hobj hnd hbl hargs => (hM.2 w keep ρ args hkeep hobj hnd hbl hargs).mono ?_⟩
 rintro e w' ⟨u,ρ3,rfl,hbel,hfix,hc,hout,hnd',hnew⟩
 rw [blocks_append,List.nodup_append] at hnd'
 obtain ⟨hn1,hn2,hn3⟩ := hnd'
 obtain ⟨vs,hR',hhd',hbs⟩ := hC w' (keepOf (baseM w keep (fun b => b ∈ blocksOf ρ [])) w' ρ3 (hs' ++ ho)) ρ3 hn1 (fun p hp => hout p (List.mem_append_left _ hp))
 let ρ4 : Nat → Value := fun i => if i = j then .tuple vs else ρ3 i
 have e4j : ρ4 j = .tuple vs := by simp [ρ4]
 have e4 : ∀ i,hasN i ho = true → ρ4 i = ρ3 i := fun i hi => by
  have : i ≠ j := by rintro rfl; rw [hne] at hi; cases hi
  simp [ρ4,this]
 have hb4 : blocksOf ρ4 ((j, .obs o') :: ho) = blks (.tuple vs) ++ blocksOf ρ3 ho := by
  rw [blocks_cons,blocks_congr fun p hp => e4 p.1 (hasN_mem.2 ⟨p,hp,rfl⟩)]
  show blks (ρ4 j) ++ _ = _
  rw [e4j]
 have hsub4 : ∀ b,b ∈ blocksOf ρ4 ((j, .obs o') :: ho) → b ∈ blocksOf ρ3 (hs' ++ ho) := fun b hb => by
  rw [hb4] at hb
  rw [blocks_append]
  exact (List.mem_append.1 hb).elim (fun h => List.mem_append_left _ (hbs b h)) (fun h => List.mem_append_right _ h)
 have hk4 : ∀ b,keepOf (baseM w keep (fun b => b ∈ blocksOf ρ [])) w' ρ3 (hs' ++ ho) b → keepOf (baseM w keep (fun b => b ∈ blocksOf ρ [])) w' ρ4 ((j, .obs o') :: ho) b :=
  fun b ⟨h1,h2,h3⟩ => ⟨h1,h2,fun h => h3 (hsub4 b h)⟩
 refine ⟨u,ρ4,rfl,hbel,(fun p hp => by cases hp),?_,?_,?_,fun b hb => hnew b (hsub4 b hb)⟩
 · exact C2.refQ (X := cxOf (baseM w keep (fun b => b ∈ blocksOf ρ [])) w' ρ3 (hs' ++ ho)) (Y := cxOf (baseM w keep (fun b => b ∈ blocksOf ρ [])) w' ρ4 ((j, .obs o') :: ho)) hk4 rfl e4 (by show hdV (ρ4 j) = hdV (ρ3 j); rw [e4j,hhd']) hrr hc
 · intro p hp
   rcases List.mem_cons.1 hp with rfl | hp
   · refine ⟨vs,e4j,?_⟩
     show o'.R w' _ (ρ4 j)
     rw [e4j]
     exact o'.mono hk4 (fun _ _ => rfl) (fun _ _ => rfl) hR'
   · exact ObjOk.over (X := cxOf (baseM w keep (fun b => b ∈ blocksOf ρ [])) w' ρ3 (hs' ++ ho)) (Y := cxOf (baseM w keep (fun b => b ∈ blocksOf ρ [])) w' ρ4 ((j, .obs o') :: ho)) hk4 rfl e4 (hasN_mem.2 ⟨p,hp,rfl⟩) (closedH_mem hcl p hp) (hout p (List.mem_append_right _ hp))
 · rw [hb4,List.nodup_append]
   exact ⟨(o'.lt hR').2.2,hn2,fun a ha b hb => hn3 a (hbs a ha) b hb⟩
def packR {α : Type} (hs : α → List (Nat × AO)) (w : World) (k : Nat → Prop) (v : Value) : Prop :=
 ∃ (x : α) (ρ : Nat → Value) (us : List Value),v = .tuple (hdV (ρ 0) :: us).toArray ∧ us.flatMap blk1 = blocksOf ρ (hs x) ∧ (blocksOf ρ (hs x)).Nodup ∧ hasN 0 (hs x) = true ∧ (hdV (ρ 0)).oneCell' = true ∧ ∀ p ∈ hs x,ObjOk ⟨w,k,ρ⟩ p.1 p.2
theorem blks_tup (x : Value) (us : List Value) : blks (.tuple (x :: us).toArray) = us.flatMap blk1 := by simp [blks]
def OB.pack {α : Type} (hs : α → List (Nat × AO)) : OB where
 R := packR hs
 mono := by
  rintro w w' k k' v hk hm hb ⟨x,ρ,us,rfl,hbl,hnd,hn,h1,hok⟩
  rw [blks_tup,hbl] at hb
  exact ⟨x,ρ,us,rfl,hbl,hnd,hn,h1,fun p hp => ObjOk.same (X := ⟨w,k,ρ⟩) (Y := ⟨w',k',ρ⟩) hk hm rfl (fun b hb' => hb b (mem_blocks.2 ⟨p,hp,hb'⟩)) (hok p hp)⟩
 lt := by
  rintro w k v ⟨x,ρ,us,rfl,hbl,hnd,hn,h1,hok⟩
  rw [blks_tup,hbl]
  refine ⟨fun b hb => ?_,h1,hnd⟩
  obtain ⟨p,hp,hb'⟩ := mem_blocks.1 hb
  exact (hok p hp).lt b hb'
theorem Opens.pack {α : Type} (hs : α → List (Nat × AO)) : Opens (OB.pack hs) 0 hs := by
 rintro w k v ⟨x,ρ,us,rfl,hbl,hnd,hn,h1,hok⟩
 exact ⟨x,ρ,rfl,by rw [blks_tup,hbl],hok⟩
theorem flat_ptr (l : List Nat) : (l.map fun b => Value.pointer (some ⟨b,0,none⟩)).flatMap blk1 = l := by
 induction l with
 | nil => rfl
 | cons x l ih => rw [List.map_cons,List.flatMap_cons,ih]; rfl
theorem Closes.pack {α : Type} (hs : α → List (Nat × AO)) (x : α) (hn : hasN 0 (hs x) = true) (h1 : ∀ (X : CX),(∀ p ∈ hs x,ObjOk X p.1 p.2) → (hdV (X.ρ 0)).oneCell' = true) : Closes (hs x) 0 (OB.pack hs) := by
 intro w k ρ hnd hok
 refine ⟨_,⟨x,ρ,(blocksOf ρ (hs x)).map fun b => .pointer (some ⟨b,0,none⟩),rfl,flat_ptr _,hnd,hn,h1 ⟨w,k,ρ⟩ hok,hok⟩,rfl,fun b hb => ?_⟩
 rw [blks_tup,flat_ptr] at hb
 exact hb
theorem Opens.imp {o : OB} {j : Nat} {Y Z : Type} {hs : Y → List (Nat × AO)} {gs : Z → List (Nat × AO)} (h : Opens o j hs) (hi : ∀ (X : CX) y,(blocksOf X.ρ (hs y)).Nodup → (∀ p ∈ hs y,ObjOk X p.1 p.2) → ∃ z ρ',hdV (ρ' j) = hdV (X.ρ j) ∧ (blocksOf ρ' (gs z)).Perm (blocksOf X.ρ (hs y)) ∧ ∀ p ∈ gs z,ObjOk ⟨X.w,X.keep,ρ'⟩ p.1 p.2) : Opens o j gs := by
 intro w k v hR
 obtain ⟨y,ρ,h1,h2,h3⟩ := h w k v hR
 obtain ⟨z,ρ',g1,g2,g3⟩ := hi ⟨w,k,ρ⟩ y (h2.nodup_iff.2 (o.lt hR).2.2) h3
 exact ⟨z,ρ',g1.trans h1,g2.trans h2,g3⟩
theorem Closes.imp {o : OB} {j : Nat} {hs gs : List (Nat × AO)} (h : Closes gs j o) (hi : ∀ (X : CX),(blocksOf X.ρ hs).Nodup → (∀ p ∈ hs,ObjOk X p.1 p.2) → ∃ ρ',hdV (ρ' j) = hdV (X.ρ j) ∧ (blocksOf ρ' gs).Nodup ∧ (∀ b ∈ blocksOf ρ' gs,b ∈ blocksOf X.ρ hs) ∧ ∀ p ∈ gs,ObjOk ⟨X.w,X.keep,ρ'⟩ p.1 p.2) : Closes hs j o := by
 intro w k ρ hnd hok
 obtain ⟨ρ',g1,g2,g3,g4⟩ := hi ⟨w,k,ρ⟩ hnd hok
 obtain ⟨us,a1,a2,a3⟩ := h w k ρ' g2 g4
 exact ⟨us,a1,a2.trans g1,fun b hb => g3 b (a3 b hb)⟩
theorem ACall.hdr {P : Program} {L : Lay} (hL : LayOk P L) {W : Walk} (hW : WOk P W) {d : Nat} {f : FuncId} {avs : List AV} {st : AS} {K : AV → AS → Prop} (t id : Nat) {e : TypeId} {s n : Nat} {sc : Bool} {F : Nat → List AV} (hE : Enters P f) (ht : st.tmps t = .own id) (hf : findObj id st.heap = some (.row e s n sc F))
  (h : ∀ A c,ACall P L W d f avs ⟨(t, .v (.slice A n c)) :: st.sl,st.heap,st.back,st.base⟩ K) : ACall P L W d f avs st K := by
 refine .sem hE fun g N bs ρ a w args R hargs => ?_
 obtain ⟨us,hown,hr⟩ := R.objs _ (findObj_mem hf)
 have hown : w.ownsRow 0 e s (ρ id) n us := hown
 obtain ⟨A,c,hv⟩ : ∃ A c,ρ id = .slice A n c := by
  rcases hown.2 with ⟨hv,hz⟩ | ⟨b,cap,cur,hv,_⟩
  · exact ⟨none,0,by rw [hv,hz]⟩
  · exact ⟨_,_,hv⟩
 have R' : Rel g N bs ρ a w ⟨(t, .v (.slice A n c)) :: st.sl,st.heap,st.back,st.base⟩ := by
  refine ⟨R.size,R.defers,R.below,fun t' => ?_,R.objs,R.apart,R.own,R.back⟩
  show C2 _ (upd t (.v (.slice A n c)) st.tmps t') _
  by_cases e' : t' = t
  · subst e'
    have h0 := R.tmps t'
    rw [ht] at h0
    simp only [upd,Nat.beq_refl,cond_true]
    exact (C2.inv_own h0).trans (by show hdV (ρ id) = _; rw [hv]; rfl)
  · simp only [upd,beq_false e',cond_false]
    exact R.tmps t'
 have := (acall_run R' hargs (h A c) (fun lv fn c hf' hnm hb hsz h' => inl_run hL hW R' hargs lv fn c hf' hb hsz h')).2
 exact this
end Go.Proofs.YtimhagicagdkfaaGreat

/-
 Maps of plain keys and values,told as a whole: by their entries,in order.
-/
namespace Go.Proofs.YtimhagicagdkfaaGreat
open Go.RowKit
def pmR (kv : List (Value × Value)) (w : World) (_ : Nat → Prop) (v : Value) : Prop :=
 ∃ b es c,v = .tuple #[.map (some b), .map (some b)] ∧ w.heap[b]? = some (.map es c) ∧ pairs es.toList = kv ∧ MapKept.Stamped es c
def pmO (kv : List (Value × Value)) : OB where
 R := pmR kv
 mono := by
  rintro w w' k k' v _ _ hm ⟨b,es,c,rfl,hh,hp,hs⟩
  exact ⟨b,es,c,rfl,(hm b (by simp [blks,blk1])).trans hh,hp,hs⟩
 lt := by
  rintro w k v ⟨b,es,c,rfl,hh,hp,hs⟩
  refine ⟨fun x hx => ?_,rfl,by simp [blks,blk1]⟩
  obtain rfl : x = b := by simpa [blks,blk1] using hx
  exact (Array.getElem?_eq_some_iff.1 hh).1
structure KeyOk (P : Program) (kt : TypeId) (q : Value → Prop) : Prop where
 chk : ∀ m k w,q k → (Instr.checkKey m 10000 kt k).run P w = .ok () w
 now : ∃ d,P.underlying kt = some d ∧ ∀ k k',q k → q k' → Instr.sameNow d k k' = none
 eq : ∀ k k' w,q k → q k' → ∃ t : Bool,(t = true ↔ k = k') ∧ (Op.equal kt k k').run P w = .ok t w
 bits : ∀ k,q k → Instr.sameBits 10000 k k = true
section
variable {P : Program} {kt et t : TypeId} {q : Value → Prop} (hK : KeyOk P kt q) {w : World} {k : Value}
include hK
theorem ask_no (hk : q k) : ∀ (es : List MapEntry) (i : Nat),(∀ e ∈ es,q e.key ∧ e.key ≠ k) → (Instr.findAsking kt k es i).run P w = .ok none w
  | [],_,_ => rfl
  | e :: es,i,h => by
    obtain ⟨b,hb,hr⟩ := hK.eq k e.key w hk (h e List.mem_cons_self).1
    have : b = false := by rw [Bool.eq_false_iff]; exact fun e' => (h e List.mem_cons_self).2 (hb.1 e').symm
    subst this
    simp only [Instr.findAsking,Sem.run_bind,hr,Result.andThen_ok]
    exact ask_no hk es (i + 1) fun e he => h e (List.mem_cons_of_mem _ he)
theorem ask_yes (hk : q k) : ∀ (es : List MapEntry) (i j : Nat) (e : MapEntry),(∀ e ∈ es,q e.key) → es[j]? = some e → e.key = k → (∀ l x,l < j → es[l]? = some x → x.key ≠ k) → (Instr.findAsking kt k es i).run P w = .ok (some (i + j,e.val)) w
  | [],_,_,_,_,h,_,_ => by simp at h
  | x :: es,i,j,e,h,he,hke,hno => by
    obtain ⟨b,hb,hr⟩ := hK.eq k x.key w hk (h x List.mem_cons_self)
    simp only [Instr.findAsking,Sem.run_bind,hr,Result.andThen_ok]
    cases j with
    | zero =>
      simp only [List.getElem?_cons_zero,Option.some.injEq] at he
      subst he
      rw [hb.2 hke.symm]
      rfl
    | succ j =>
      have hx : x.key ≠ k := hno 0 x (by omega) rfl
      have : b = false := by rw [Bool.eq_false_iff]; exact fun e' => hx (hb.1 e').symm
      subst this
      have := ask_yes hk es (i + 1) j e (fun e he => h e (List.mem_cons_of_mem _ he)) (by simpa using he) hke fun l x hl hx => hno (l + 1) x (by omega) (by simpa using hx)
      rw [show i + 1 + j = i + (j + 1) by omega] at this
      exact this
theorem find_ask (hk : q k) {es : List MapEntry} (h : ∀ e ∈ es,q e.key) {r : Option (Nat × Value)} (hr : (Instr.findAsking kt k es 0).run P w = .ok r w) : (Instr.findKey kt k es).run P w = .ok r w := by
 obtain ⟨d,hd,hn⟩ := hK.now
 cases es with
 | nil =>
   have : r = none := by cases hr; rfl
   subst this
   simp [Instr.findKey,run_underlying hd,Sem.run_bind,Result.andThen,Instr.findNow]
 | cons e es =>
   have : Instr.findNow d k (e :: es) 0 = none := by unfold Instr.findNow; rw [hn k e.key hk (h e List.mem_cons_self)]
   simp only [Instr.findKey,Sem.run_bind,run_underlying hd,Result.andThen_ok,this]
   exact hr
theorem find_no (hk : q k) {es : Array MapEntry} {kv : List (Value × Value)} (hp : pairs es.toList = kv) (h : ∀ p ∈ kv,q p.1 ∧ p.1 ≠ k) : (Instr.findKey kt k es.toList).run P w = .ok none w := by
 have h' : ∀ e ∈ es.toList,q e.key ∧ e.key ≠ k := fun e he => h (e.key,e.val) (by rw [← hp]; exact List.mem_map.2 ⟨e,he,rfl⟩)
 exact find_ask hK hk (fun e he => (h' e he).1) (ask_no hK hk es.toList 0 h')
theorem find_yes (hk : q k) {es : Array MapEntry} {c : Nat} (hs : MapKept.Stamped es c) {A B : List (Value × Value)} {v : Value} (hp : pairs es.toList = A ++ (k,v) :: B) (h : ∀ p ∈ A ++ (k,v) :: B,q p.1) :
  ∃ e,es.toList[A.length]? = some e ∧ e.key = k ∧ e.val = v ∧ (Instr.findKey kt k es.toList).run P w = .ok (some (A.length,v)) w := by
 have hl : (pairs es.toList)[A.length]? = some (k,v) := by rw [hp]; simp
 unfold pairs at hl
 rw [List.getElem?_map] at hl
 cases he : es.toList[A.length]? with
 | none => rw [he] at hl; cases hl
 | some e =>
   rw [he] at hl
   simp only [Option.map_some,Option.some.injEq,Prod.mk.injEq] at hl
   refine ⟨e,rfl,hl.1,hl.2,?_⟩
   have := ask_yes (w := w) hK hk es.toList 0 A.length e (fun x hx => h (x.key,x.val) (by rw [← hp]; exact List.mem_map.2 ⟨x,hx,rfl⟩)) he hl.1 fun l x hlt hx hxk => by
    have hn := hs.2.2
    have h1 : (es.toList.map (·.key))[l]? = some k := by rw [List.getElem?_map,hx,← hxk]; rfl
    have h2 : (es.toList.map (·.key))[A.length]? = some k := by rw [List.getElem?_map,he,← hl.1]; rfl
    obtain ⟨a1,a2⟩ := List.getElem?_eq_some_iff.1 h1
    obtain ⟨b1,b2⟩ := List.getElem?_eq_some_iff.1 h2
    have := nodup_idx hn a1 b1 (a2.trans b2.symm)
    omega
   rw [Nat.zero_add,hl.2] at this
   exact find_ask hK hk (fun x hx => h (x.key,x.val) (by rw [← hp]; exact List.mem_map.2 ⟨x,hx,rfl⟩)) this
end
section
variable {P : Program} {kt et t : TypeId} {q : Value → Prop} {w : World} {k v : Value} {b c : Nat} {es : Array MapEntry}
theorem run_look (ht : P.underlying t = some (.map kt et)) (hb : w.heap[b]? = some (.map es c)) (hc : (Instr.checkKey es.isEmpty 10000 kt k).run P w = .ok () w) {r : Option (Nat × Value)} (hf : (Instr.findKey kt k es.toList).run P w = .ok r w) {z : Value} (hz : (zeroValue et).run P w = .ok z w) :
  (Instr.lookup t (.map (some b)) k true).run P w = .ok (.tuple #[(r.map (·.2)).getD z, .bool r.isSome]) w := by
 cases r with
 | none => simp [Instr.lookup,run_underlying ht,MapKept.run_getObj_map hb,Sem.run_bind,Result.andThen,hc,hf,hz]
 | some p => simp [Instr.lookup,run_underlying ht,MapKept.run_getObj_map hb,Sem.run_bind,Result.andThen,hc,hf]
theorem run_upd_new (ht : P.underlying t = some (.map kt et)) (hb : w.heap[b]? = some (.map es c)) (hc : (Instr.checkKey false 10000 kt k).run P w = .ok () w) (hf : (Instr.findKey kt k es.toList).run P w = .ok none w) :
  (Instr.mapUpdate t (.map (some b)) k v).run P w = .ok () { w with heap := w.heap.setIfInBounds b (.map (es.push { key := k,val := v,born := c }) (c + 1)) } := by
 simp [Instr.mapUpdate,run_underlying ht,MapKept.run_getObj_map hb,Sem.run_bind,Result.andThen,hc,hf,MapKept.run_setObj_map _ hb]
theorem run_del (ht : P.underlying t = some (.map kt et)) (hb : w.heap[b]? = some (.map es c)) (hc : (Instr.checkKey es.isEmpty 10000 kt k).run P w = .ok () w) {i : Nat} {u : Value} (hf : (Instr.findKey kt k es.toList).run P w = .ok (some (i,u)) w) {kty ty : TypeId} :
  (Builtin.delete_ #[t,kty] ty #[.map (some b),k]).run P w = .ok (.tuple #[]) { w with heap := w.heap.setIfInBounds b (.map (es.eraseIdxIfInBounds i) c) } := by
 simp [Builtin.delete_,run_underlying ht,MapKept.run_getObj_map hb,Sem.run_bind,Result.andThen,hc,hf,MapKept.run_setObj_map _ hb]
end
section
variable {P : Program} {kt et t : TypeId} {q : Value → Prop} {st : AS} {K : AV → AS → Prop} {id : Nat} {kv : List (Value × Value)} {k v : Value}
def Whole (x : AV) (v : Value) : Prop := (∀ X u,C2 X x u → u = v) ∧ ∀ X,C1 X x v
theorem Whole.agg (us : List Value) : Whole (.agg (us.map .v)) (.agg us.toArray) := by
 refine ⟨fun X u h => ?_,fun X => ⟨us,rfl,by simp,fun i x u hx hu => ?_⟩⟩
 · obtain ⟨vs,rfl,ha⟩ : ∃ vs : List Value,u = .agg vs.toArray ∧ All2 (C0 X) (us.map .v) vs := h
   congr 2
   refine List.ext_getElem? fun i => ?_
   have hl : us.length = vs.length := by simpa using ha.1
   cases hv : vs[i]? with
   | none => rw [List.getElem?_eq_none_iff] at hv; exact (List.getElem?_eq_none (by omega)).symm
   | some y =>
     have hi : i < us.length := by rw [hl]; exact (List.getElem?_eq_some_iff.1 hv).1
     have : y = us[i] := ha.2 i (.v us[i]) y (by simp [hi]) hv
     rw [this]
     exact (List.getElem?_eq_getElem hi).symm
 · rw [List.getElem?_map,hu] at hx
   cases hx
   rfl
theorem pm_obj {g : Base} {N : Nat} {bs : List (Array Value)} {ρ : Nat → Value} {a : Act} {w : World} (R : Rel g N bs ρ a w st) (hf : findObj id st.heap = some (.obs (pmO kv))) :
  ∃ b es c,ρ id = .tuple #[.map (some b), .map (some b)] ∧ w.heap[b]? = some (.map es c) ∧ pairs es.toList = kv ∧ MapKept.Stamped es c := by
 obtain ⟨us,e,b,es,c,e2,h⟩ := R.objs _ (findObj_mem hf)
 exact ⟨b,es,c,e2,h⟩
theorem pm_ev {g : Base} {N : Nat} {bs : List (Array Value)} {ρ : Nat → Value} {a : Act} {w : World} (R : Rel g N bs ρ a w st) {x : Operand} (hx : st.ev x = .own id) {b : Nat} (e : ρ id = .tuple #[.map (some b), .map (some b)]) : a.eval x = .map (some b) := by
 have := R.ev x
 rw [hx] at this
 exact (C2.inv_own this).trans (by show hdV (ρ id) = _; rw [e]; rfl)
theorem pm_write {kv' : List (Value × Value)} {g : Base} {N : Nat} {bs : List (Array Value)} {ρ : Nat → Value} {a : Act} {w : World} (R : Rel g N bs ρ a w st) {b c c' : Nat} {es es' : Array MapEntry} (hf : findObj id st.heap = some (.obs (pmO kv))) (e : ρ id = .tuple #[.map (some b), .map (some b)]) (hh : w.heap[b]? = some (.map es c)) (hp : pairs es'.toList = kv') (hs : MapKept.Stamped es' c') :
  Rel g N bs ρ a { w with heap := w.heap.setIfInBounds b (.map es' c') } ⟨st.sl,setObj id (.obs (pmO kv')) st.heap,st.back,st.base⟩ := by
 have hlt : b < w.heap.size := (Array.getElem?_eq_some_iff.1 hh).1
 refine R.write hf (b := b) (by rw [e]; simp [blks,blk1]) ⟨rfl,rfl,rfl,by simp,fun k hk => by simp [Array.getElem?_setIfInBounds,show b ≠ k by omega]⟩ (by simp) (fun k hk => by simp [Array.getElem?_setIfInBounds,Ne.symm hk]) fun _ _ => ?_
 exact ⟨_,e,b,es',c',e,by simp [cxOf,hlt],hp,hs⟩
variable {x i y : Operand} {c : Call} {kty : TypeId} (hK : KeyOk P kt q) (ht : P.underlying t = some (.map kt et)) {kx vx : AV} (hx : st.ev x = .own id) (hf : findObj id st.heap = some (.obs (pmO kv))) (hi : st.ev i = kx) (hk : Whole kx k) (hq : q k)
include hK ht hx hf hi hk hq
theorem ASem.look (hz : ∀ w,(zeroValue et).run P w = .ok v w) (hv : Whole vx v) (hno : ∀ p ∈ kv,q p.1 ∧ p.1 ≠ k) (h : K (.tup [vx, .v (.bool false)]) st) : ASem P st (.lookup t x i true) K := by
 refine .q _ h fun g N bs ρ a w o ho R => ?_
 obtain ⟨b,es,c,e,hh,hp,hs⟩ := pm_obj R hf
 have e2 : a.eval i = k := hk.1 _ _ (by rw [← hi]; exact R.ev i)
 refine ⟨_,⟨[v, .bool false],rfl,All2.cons (hv.2 _) (All2.cons rfl All2.nil)⟩,?_⟩
 simp only [execOp,ho,pm_ev R hx e,e2,Sem.run_bind,run_look ht hh (hK.chk _ _ w hq) (find_no hK hq hp hno) (hz w),Result.andThen_ok,Sem.run_pure]
 rfl
theorem ASem.lookY {A B : List (Value × Value)} (hz : ∃ z,∀ w,(zeroValue et).run P w = .ok z w) (hv : Whole vx v) (hs0 : kv = A ++ (k,v) :: B) (hall : ∀ p ∈ kv,q p.1) (h : K (.tup [vx, .v (.bool true)]) st) : ASem P st (.lookup t x i true) K := by
 refine .q _ h fun g N bs ρ a w o ho R => ?_
 obtain ⟨b,es,c,e,hh,hp,hs⟩ := pm_obj R hf
 have e2 : a.eval i = k := hk.1 _ _ (by rw [← hi]; exact R.ev i)
 obtain ⟨z,hz⟩ := hz
 obtain ⟨_,_,_,_,h4⟩ := find_yes (w := w) hK hq hs (hp.trans hs0) (by rw [← hs0]; exact hall)
 refine ⟨_,⟨[v, .bool true],rfl,All2.cons (hv.2 _) (All2.cons rfl All2.nil)⟩,?_⟩
 simp only [execOp,ho,pm_ev R hx e,e2,Sem.run_bind,run_look ht hh (hK.chk _ _ w hq) h4 (hz w),Result.andThen_ok,Sem.run_pure]
 rfl
theorem ASem.updN (hy : st.ev y = vx) (hv : Whole vx v) (hno : ∀ p ∈ kv,q p.1 ∧ p.1 ≠ k) (h : K (.v undef) ⟨st.sl,setObj id (.obs (pmO (kv ++ [(k,v)]))) st.heap,st.back,st.base⟩) : ASem P st (.mapUpdate t x i y) K := by
 refine .mk rfl fun g N bs ρ a w o next Q ho R hk' => ?_
 obtain ⟨b,es,c,e,hh,hp,hs⟩ := pm_obj R hf
 have e2 : a.eval i = k := hk.1 _ _ (by rw [← hi]; exact R.ev i)
 have e3 : a.eval y = v := hv.1 _ _ (by rw [← hy]; exact R.ev y)
 have hrun : (execOp a.eval o).run P w = .ok .skip { w with heap := w.heap.setIfInBounds b (.map (es.push { key := k,val := v,born := c }) (c + 1)) } := by
  simp [execOp,ho,pm_ev R hx e,e2,e3,run_upd_new ht hh (hK.chk _ _ w hq) (find_no hK hq hp hno)]
 unfold Oper.wp
 rw [hrun]
 refine hk' _ _ _ _ _ h (pm_write R hf e hh (by simp [pairs,← hp]) (MapKept.stamped_push hs fun x hxm hxk => ?_)) rfl
 exact (hno (x.key,x.val) (by rw [← hp]; exact List.mem_map.2 ⟨x,hxm,rfl⟩)).2 hxk
theorem ASem.delY (hc : c.callee = .builtin .delete) (hca : c.args = #[x,i]) (hct : c.argTypes = #[t,kty]) {A B : List (Value × Value)} (hs0 : kv = A ++ (k,v) :: B) (hall : ∀ p ∈ kv,q p.1) (h : K (.tup []) ⟨st.sl,setObj id (.obs (pmO (A ++ B))) st.heap,st.back,st.base⟩) : ASem P st (.call c) K := by
 refine .mk (by unfold quietB; split <;> simp_all) fun g N bs ρ a w o next Q ho R hk' => ?_
 obtain ⟨b,es,cc,e,hh,hp,hs⟩ := pm_obj R hf
 have e2 : a.eval i = k := hk.1 _ _ (by rw [← hi]; exact R.ev i)
 obtain ⟨en,g1,_,_,h4⟩ := find_yes (w := w) hK hq hs (hp.trans hs0) (by rw [← hs0]; exact hall)
 have hrun : (execOp a.eval o).run P w = .ok (.value (.tuple #[])) { w with heap := w.heap.setIfInBounds b (.map (es.eraseIdxIfInBounds A.length) cc) } := by
  simp only [execOp,ho,resolve,hc,hca,hct,Sem.run_bind,Sem.run_pure,Result.andThen_ok,invoke]
  simp [builtin,pm_ev R hx e,e2,run_del ht hh (hK.chk _ _ w hq) h4,Sem.run_bind,Result.andThen]
 unfold Oper.wp
 rw [hrun]
 refine hk' _ _ _ _ _ h (pm_write R hf e hh ?_ (MapKept.stamped_erase hs _)) ⟨[],rfl,All2.nil⟩
 have : (es.eraseIdxIfInBounds A.length).toList = es.toList.eraseIdx A.length := by simp
 rw [this,List.eraseIdx_eq_take_drop_succ,pairs,List.map_append,List.map_take,List.map_drop,show es.toList.map (fun e => (e.key,e.val)) = A ++ (k,v) :: B from hp.trans hs0]
 simp
omit hK ht hx hf hi hk hq
theorem ASem.del (hc : c.callee = .builtin .delete) (hca : c.args = #[x,i]) (hct : c.argTypes = #[t,kty]) (hK : KeyOk P kt q) (ht : P.underlying t = some (.map kt et)) (hx : st.ev x = .own id) (hf : findObj id st.heap = some (.obs (pmO kv))) (hi : st.ev i = kx) (hk : Whole kx k) (hq : q k)
  {A B : List (Value × Value)} (hs0 : kv = A ++ (k,v) :: B) (hall : ∀ p ∈ kv,q p.1) (h : K (.tup []) ⟨st.sl,setObj id (.obs (pmO (A ++ B))) st.heap,st.back,st.base⟩) : ASem P st (.call c) K := .delY hK ht hx hf hi hk hq hc hca hct hs0 hall h
theorem ASem.mkM (h : nameOf st (fun d => K (.own d) (st.obj d d (.obs (pmO []))))) : ASem P st (.makeMap t none) K := by
 rw [nameOf_eq] at h
 refine .mk rfl fun g N bs ρ a w o next Q ho R hk' => ?_
 have hrun : (execOp a.eval o).run P w = .ok (.value (.map (some w.heap.size))) (w.alloc (.map #[] 0)) := by
  simp [execOp,ho,Instr.makeMap,Result.andThen,Sem.run_bind]
 unfold Oper.wp
 rw [hrun]
 refine hk' _ _ _ (reρ ρ st.base (.tuple #[.map (some w.heap.size), .map (some w.heap.size)])) _ h (R.obj st.base st.base (R.below.alloc R.below.size _) (by simp) (fun b hb _ => Below.heap_alloc w _ b hb) (fun b hb => ?_) (fun _ => ?_)) (by simp [C2,C1,C0,cxOf,reρ,hdV])
 · rw [show b = w.heap.size from by simpa [blks,blk1] using hb]; exact .inl (Nat.le_refl _)
 · have e : reρ ρ st.base (.tuple #[.map (some w.heap.size), .map (some w.heap.size)]) st.base = .tuple #[.map (some w.heap.size), .map (some w.heap.size)] := by simp [reρ]
   exact ⟨_,e,w.heap.size,#[],0,e,heap_alloc_new w _,rfl,MapKept.stamped_empty 0⟩
end
end Go.Proofs.YtimhagicagdkfaaGreat

/-
 Two events are equal just if all of theirs is: what the comparison of the program tells.
-/
namespace Go.Proofs.YtimhagicagdkfaaGreat
open Go.RowKit
def Clk.vs (c : Clk) : List Value := [.int .i64 c.c0, .int .i64 c.c1, .int .i64 c.c2, .int .i64 c.c3, .int .i64 c.c4]
def Ev.vs (e : Ev) : List Value := [.int .i64 e.r, .int .i64 e.n, .int .i64 e.c.c0, .int .i64 e.c.c1, .int .i64 e.c.c2, .int .i64 e.c.c3, .int .i64 e.c.c4, .int .i64 e.h, .int .i64 e.k, .string e.key, .int .i64 e.l, .string e.v]
theorem clk_eqIn (n : Nat) (a0 a1 a2 a3 a4 b0 b1 b2 b3 b4 : Int) (w : World) : (Op.equalIn (n + 2) 31 (.agg #[.int .i64 a0, .int .i64 a1, .int .i64 a2, .int .i64 a3, .int .i64 a4]) (.agg #[.int .i64 b0, .int .i64 b1, .int .i64 b2, .int .i64 b3, .int .i64 b4])).run Tryz.prog w =
  .ok (decide (a0 = b0 ∧ a1 = b1 ∧ a2 = b2 ∧ a3 = b3 ∧ a4 = b4)) w := by
 rw [Op.equalIn]
 simp only [Sem.run_bind,run_underlying Tryz.underlying31,Result.andThen_ok]
 simp only [Std.Legacy.Range.forIn_eq_forIn_range',Std.Legacy.Range.size,Nat.sub_zero,Nat.add_sub_cancel,Nat.div_one,List.range'_succ,List.range'_zero,List.forIn_cons,List.forIn_nil]
 have u3 := Tryz.underlying3
 have a3 := Tryz.isAgg3
 have z3 := Tryz.sizeOf3
 go_simp
 repeat' split
 all_goals simp_all
theorem Clk.eq_iff (a b : Clk) : (a.c0 = b.c0 ∧ a.c1 = b.c1 ∧ a.c2 = b.c2 ∧ a.c3 = b.c3 ∧ a.c4 = b.c4) ↔ a = b := by
 obtain ⟨a0,a1,a2,a3,a4⟩ := a
 obtain ⟨b0,b1,b2,b3,b4⟩ := b
 simp
theorem clk_guard : Tryz.prog.eqGuardType Tryz.prog.depth 31 = false := by kernel_rfl
theorem clk_eq (a b : Clk) : EqFact Tryz.prog 31 a.vs b.vs (a = b) :=
 ⟨clk_guard,fun w => ⟨_,by rw [decide_eq_true_eq,Clk.eq_iff],clk_eqIn 9998 _ _ _ _ _ _ _ _ _ _ w⟩⟩
theorem Ev.eq_iff (a b : Ev) : (a.r = b.r ∧ a.n = b.n ∧ (a.c.c0 = b.c.c0 ∧ a.c.c1 = b.c.c1 ∧ a.c.c2 = b.c.c2 ∧ a.c.c3 = b.c.c3 ∧ a.c.c4 = b.c.c4) ∧ a.h = b.h ∧ a.k = b.k ∧ a.key = b.key ∧ a.l = b.l ∧ a.v = b.v) ↔ a = b := by
 rw [Clk.eq_iff]
 obtain ⟨a0,a1,a2,a3,a4,a5,a6,a7⟩ := a
 obtain ⟨b0,b1,b2,b3,b4,b5,b6,b7⟩ := b
 simp
end Go.Proofs.YtimhagicagdkfaaGreat

/-
 Makers of pasts: kithref08.Make.
-/
namespace Go.Proofs.YtimhagicagdkfaaGreat
open Go.RowKit
def setC (H : Nat → Clk) (r : Nat) (c : Clk) : Nat → Clk := fun i => bif Nat.beq i r then c else H i
def Clk.inc (c : Clk) : Nat → Clk
  | 0 => ⟨c.c0 + 1,c.c1,c.c2,c.c3,c.c4⟩
  | 1 => ⟨c.c0,c.c1 + 1,c.c2,c.c3,c.c4⟩
  | 2 => ⟨c.c0,c.c1,c.c2 + 1,c.c3,c.c4⟩
  | 3 => ⟨c.c0,c.c1,c.c2,c.c3 + 1,c.c4⟩
  | _ => ⟨c.c0,c.c1,c.c2,c.c3,c.c4 + 1⟩
abbrev Mk := List Ev × (Nat → Clk)
def Ch0.ed (c : Ch0) : Ed := ⟨c.k,c.key,c.l,c.v⟩
def mkEvt (out : List Ev) (H : Nat → Clk) (r : Nat) (x : Ed) : Ev := ⟨(r : Int),(H r).at r + 1,H r,hgt out (H r),x.k,x.key,x.l,x.v⟩
def mkSync (s : Mk) (r f : Nat) : Mk := (s.1,setC s.2 r ((s.2 r).join (s.2 f)))
def mkEdit (s : Mk) (r : Nat) (x : Ed) : Mk := (s.1 ++ [mkEvt s.1 s.2 r x],setC s.2 r ((s.2 r).inc r))
def mkStep (s : Mk) (c : Ch0) : Mk :=
 if c.sy = true then mkSync s (c.r % 5).toNat (c.f % 5).toNat else mkEdit s (c.r % 5).toNat (fitEd c.ed)
def Clk.in (c : Clk) (M : Int) : Prop := (0 ≤ c.c0 ∧ c.c0 ≤ M) ∧ (0 ≤ c.c1 ∧ c.c1 ≤ M) ∧ (0 ≤ c.c2 ∧ c.c2 ≤ M) ∧ (0 ≤ c.c3 ∧ c.c3 ≤ M) ∧ (0 ≤ c.c4 ∧ c.c4 ≤ M)
def MkB (s : Mk) (n : Nat) : Prop := (∀ q,(s.2 q).in n) ∧ (∀ e ∈ s.1,0 ≤ e.h ∧ e.h ≤ (n : Int)) ∧ s.1.length ≤ n
theorem Clk.in.mono {c : Clk} {M N : Int} (h : c.in M) (hMN : M ≤ N) : c.in N := by unfold Clk.in at *; omega
theorem Clk.in.join {a b : Clk} {M : Int} (ha : a.in M) (hb : b.in M) : (a.join b).in M := by
 unfold Clk.in at *
 unfold Clk.join mxI
 simp only
 refine ⟨?_,?_,?_,?_,?_⟩ <;> split <;> omega
theorem Clk.in.inc {a : Clk} {M : Int} (ha : a.in M) : ∀ r,(a.inc r).in (M + 1)
  | 0 => by unfold Clk.in Clk.inc at *; simp only; omega
  | 1 => by unfold Clk.in Clk.inc at *; simp only; omega
  | 2 => by unfold Clk.in Clk.inc at *; simp only; omega
  | 3 => by unfold Clk.in Clk.inc at *; simp only; omega
  | _ + 4 => by unfold Clk.in Clk.inc at *; simp only; omega
theorem setC_all {P : Clk → Prop} {H : Nat → Clk} {r : Nat} {c : Clk} (h : ∀ q,P (H q)) (hc : P c) (q : Nat) : P (setC H r c q) := by
 unfold setC
 cases Nat.beq q r with
 | true => exact hc
 | false => exact h q
theorem MkB.step {s : Mk} {n : Nat} (h : MkB s n) (c : Ch0) : MkB (mkStep s c) (n + 1) := by
 obtain ⟨h1,h2,h3⟩ := h
 have h1' : ∀ q,(s.2 q).in ((n + 1 : Nat) : Int) := fun q => (h1 q).mono (by omega)
 unfold mkStep
 split
 · exact ⟨fun q => setC_all (P := fun c => c.in ((n + 1 : Nat) : Int)) h1' ((h1' _).join (h1' _)) q,fun e he => by have := h2 e he; omega,by show s.1.length ≤ _; omega⟩
 · refine ⟨fun q => setC_all (P := fun c => c.in ((n + 1 : Nat) : Int)) h1' ?_ q,fun e he => ?_,?_⟩
   · have := (h1 (c.r % 5).toNat).inc (c.r % 5).toNat
     exact this.mono (by omega)
   · rcases List.mem_append.1 he with he | he
     · have := h2 e he
       omega
     · rw [List.mem_singleton.1 he]
       have := hgt_bnd (c := s.2 (c.r % 5).toNat) (M := n) (by omega) h2
       show 0 ≤ hgt s.1 (s.2 (c.r % 5).toNat) ∧ hgt s.1 (s.2 (c.r % 5).toNat) ≤ ((n + 1 : Nat) : Int)
       omega
   · show (s.1 ++ [_]).length ≤ _
     rw [List.length_append,List.length_singleton]
     omega
end Go.Proofs.YtimhagicagdkfaaGreat

/-
 Marks of events,as keys of maps; clock.LessEq; which event is ready.
-/
namespace Go.Proofs.YtimhagicagdkfaaGreat
open Go.RowKit
def markVs (r n : Int) : List Value := [.int .i64 r, .int .i64 n]
def markV (r n : Int) : Value := .agg (markVs r n).toArray
def evV (e : Ev) : Value := .agg e.vs.toArray
def isMark (v : Value) : Prop := ∃ r n,v = markV r n
def kvE (l : List Ev) : List (Value × Value) := l.map fun e => (markV e.r e.n,evV e)
theorem markV_iff {r n r' n' : Int} : markV r n = markV r' n' ↔ r = r' ∧ n = n' := by simp [markV,markVs]
theorem mark_eqIn (a b a' b' : Int) (w : World) : (Op.equalIn 10000 44 (.agg #[.int .i64 a, .int .i64 b]) (.agg #[.int .i64 a', .int .i64 b'])).run Tryz.prog w = .ok (decide (a = a' ∧ b = b')) w := by
 have hS : Tryz.prog.underlying 44 = some (.struct (Tryz.prog.fieldsOf 44)) := by kernel_rfl
 have u3 := Tryz.underlying3
 have a3 := Tryz.isAgg3
 have z3 := Tryz.sizeOf3
 rw [show (10000 : Nat) = 9999 + 1 from rfl,run_equalIn_agg w 9999 44 _ _ hS (by kernel_rfl)]
 simp only [Program.fieldsOf,Tryz.underlying44]
 go_simp
 repeat' split
 all_goals simp_all
theorem mark_chk (m : Bool) (r n : Int) (w : World) : (Instr.checkKey m 10000 44 (markV r n)).run Tryz.prog w = .ok () w := by
 have u3 := Tryz.underlying3
 have a3 := Tryz.isAgg3
 have z3 := Tryz.sizeOf3
 rw [show (10000 : Nat) = 9999 + 1 from rfl,Instr.checkKey]
 simp only [Sem.run_bind,run_underlying Tryz.underlying44,Result.andThen_ok,markV,markVs]
 have c3 : ∀ x : Int,(Instr.checkKey m 9999 3 (.int .i64 x)).run Tryz.prog w = .ok () w := fun x => MapKept.run_checkKey u3 (show MapKept.IsKey (.int .i64) (.int .i64 x) from rfl) m 9998
 go_simp
theorem mark_keys : KeyOk Tryz.prog 44 isMark where
 chk := by rintro m _ w ⟨r,n,rfl⟩; exact mark_chk m r n w
 now := ⟨_,Tryz.underlying44,by rintro _ _ ⟨r,n,rfl⟩ ⟨r',n',rfl⟩; rfl⟩
 eq := by
  rintro _ _ w ⟨r,n,rfl⟩ ⟨r',n',rfl⟩
  exact ⟨_,by rw [decide_eq_true_eq,markV_iff],mark_eqIn r n r' n' w⟩
 bits := by rintro _ ⟨r,n,rfl⟩; simp [markV,markVs,Instr.sameBits]
theorem mark_whole (r n : Int) : Whole (.agg [.v (.int .i64 r), .v (.int .i64 n)]) (markV r n) := Whole.agg (markVs r n)
theorem ev_whole (e : Ev) : Whole e.av (evV e) := Whole.agg e.vs
theorem kv_mark (l : List Ev) : ∀ p ∈ kvE l,isMark p.1 := fun p hp => by
 obtain ⟨e,_,rfl⟩ := List.mem_map.1 hp
 exact ⟨_,_,rfl⟩
theorem kv_no {l : List Ev} {r n : Int} (h : ∀ e ∈ l,¬ (e.r = r ∧ e.n = n)) : ∀ p ∈ kvE l,isMark p.1 ∧ p.1 ≠ markV r n := fun p hp => by
 obtain ⟨e,he,rfl⟩ := List.mem_map.1 hp
 exact ⟨⟨_,_,rfl⟩,fun e' => h e he (markV_iff.1 e')⟩
def ev0 : Ev := ⟨0,0,⟨0,0,0,0,0⟩,0,0,⟨#[]⟩,0,⟨#[]⟩⟩
theorem zero_of {t : TypeId} {v : Value} (h : (Tryz.prog.info? t).bind (·.zero) = some v) (w : World) : (zeroValue t).run Tryz.prog w = .ok v w := by
 cases hi : Tryz.prog.info? t with
 | none => rw [hi] at h; cases h
 | some info =>
   rw [hi] at h
   have h : info.zero = _ := h
   simp [zeroValue,typeInfo,hi,h]
theorem zero_ev (w : World) : (zeroValue 42).run Tryz.prog w = .ok (evV ev0) w := zero_of (by kernel_rfl) w
theorem mark_spec (e : Ev) : ASpec Tryz.prog 154 [e.av] (.agg [.v (.int .i64 e.r), .v (.int .i64 e.n)]) [] := by
 obtain ⟨r,n,⟨c0,c1,c2,c3,c4⟩,h,k,key,l,v⟩ := e
 dsimp only [Ev.av,Ev.cs]
 refine K1.E 0x7 Tryz.func154 ?_
 repeat' ((conv => whnf); first | refine K1.w ?_ | refine K1.u ?_ | refine ARet.hdI ?_ | refine K1.z ?_ | refine K1.y (fun _ => ?_) (fun _ => ?_) | fail)
 all_goals (conv => whnf)
 all_goals exact AEqI.mk (AEq.refl _)
set_option maxRecDepth 100000 in
theorem le_spec (a b : Clk) : ASpec Tryz.prog 184 [a.av,b.av] (.v (.bool (a.le b))) [] := by
 dsimp only [Clk.av,Clk.cs]
 refine K1.E 0x80ff Tryz.func184 ?_
 repeat' ((conv => whnf); first | refine K1.w ?_ | refine K1.u ?_ | refine ALoop.unr 6 6 rfl ?_ | refine ARet.hdI ?_ | refine K1.z ?_ | refine K1.y (fun _ => ?_) (fun _ => ?_) | fail)
 all_goals (conv => whnf)
 all_goals (refine AEqI.mk (AEq.of ?_))
 all_goals (unfold Clk.le; congr 2; simp; try omega)
end Go.Proofs.YtimhagicagdkfaaGreat
