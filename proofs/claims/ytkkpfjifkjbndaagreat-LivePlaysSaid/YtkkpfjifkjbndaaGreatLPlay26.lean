/-
  Contracts of the walk: R6, LxK, LxA, LxP, LxQ, LxB, LenA, L3.
-/
import Derived.Test.YtkkpfjifkjbndaaGreatLPlay18
import Derived.Test.YtkkpfjifkjbndaaGreatLPlay11
import Derived.Test.YtkkpfjifkjbndaaGreatLPlay23
import Derived.Test.YtkkpfjifkjbndaaGreatLPlay24
import Derived.Test.YtkkpfjifkjbndaaGreatLPlay25
import Derived.Test.YtkkpfjifkjbndaaGreatLPlay22
import Derived.Test.YtkkpfjifkjbndaaGreatLPlay13
import Derived.Test.YtkkpfjifkjbndaaGreatLPlay6
/-
 What the reference of layer 6 lets be: kithref06.May.
-/
namespace Go.Proofs.YtkkpfjifkjbndaaGreat
open Go.RowKit
theorem labelE_11 (n : Int) : labelE n = 0 ∨ labelE n = 11 := by unfold labelE; split <;> simp
theorem keyE_10 (s : ByteArray) : keyE s = 0 ∨ keyE s = 10 := by unfold keyE; split <;> simp
theorem rlabel_spec (n : Int) : ASpec Tryz.prog 74 [.v (.int .i64 n)] (.v (.int .i64 (labelE n))) [] := by
 refine aspec_of lay_ok 261 Tryz.func74 rfl rfl rfl ?_
 repeat' ((conv => whnf); first | refine Spl.yes (by first | assumption | omega) ?_ | refine Spl.no (by first | assumption | omega) ?_ | refine Wr.i64 (by omega) (by omega) ?_ | refine Still.mk rfl rfl ?_ | refine InB.mk (inB_mk (by omega) (by omega)) ?_ | refine Req.mk (by omega) ?_ | refine Req.mk ⟨by first | omega | (dsimp only; omega),by first | omega | (dsimp only; omega)⟩ ?_ | refine Spl.mk (fun _ => ?_) (fun _ => ?_) | refine InA.mk (inB_mk (by omega) (by omega)) ?_ | refine Wr.b64 ?_ | refine Wr.bu64 ?_ | refine Wr.bu32 ?_ | refine Wr.bu8 ?_ | refine Wr.u8 (by omega) (by omega) ?_ | refine Wr.u64 (by omega) (by omega) ?_ | refine Wr.u32 (by omega) (by omega) ?_ | refine Dv.pos (by omega) (by omega) ?_ | refine Rm.pos (by omega) (by omega) ?_ | refine ADraw.quiet follows_ok (by kernel_rfl) rfl ?_ | refine BSpl.decY (by first | assumption | omega) ?_ | refine BSpl.decN (by first | assumption | omega) ?_ | refine BSpl.dec (fun _ => ?_) (fun _ => ?_) | refine BSpl.yes (by assumption) ?_ | refine BSpl.no (by assumption) ?_ | refine BSpl.mk (fun _ => ?_) (fun _ => ?_))
 all_goals (refine ARet.int rfl ?_; unfold labelE; (first | rw [if_pos (by omega)] | rw [if_neg (by omega)]))
theorem rvalue_spec (s : ByteArray) : ASpec Tryz.prog 75 [.v (.string s)] (.v (.int .i64 (valueE s))) [] := by
 refine aspec_of lay_ok 1029 Tryz.func75 rfl rfl rfl ?_
 repeat' ((conv => whnf); first | refine Spl.yes (by first | assumption | omega) ?_ | refine Spl.no (by first | assumption | omega) ?_ | refine Wr.i64 (by omega) (by omega) ?_ | refine Still.mk rfl rfl ?_ | refine InB.mk (inB_mk (by omega) (by omega)) ?_ | refine Req.mk (by omega) ?_ | refine Req.mk ⟨by first | omega | (dsimp only; omega),by first | omega | (dsimp only; omega)⟩ ?_ | refine Spl.mk (fun _ => ?_) (fun _ => ?_) | refine InA.mk (inB_mk (by omega) (by omega)) ?_ | refine Wr.b64 ?_ | refine Wr.bu64 ?_ | refine Wr.bu32 ?_ | refine Wr.bu8 ?_ | refine Wr.u8 (by omega) (by omega) ?_ | refine Wr.u64 (by omega) (by omega) ?_ | refine Wr.u32 (by omega) (by omega) ?_ | refine Dv.pos (by omega) (by omega) ?_ | refine Rm.pos (by omega) (by omega) ?_ | refine ADraw.quiet follows_ok (by kernel_rfl) rfl ?_ | refine BSpl.decY (by first | assumption | omega) ?_ | refine BSpl.decN (by first | assumption | omega) ?_ | refine BSpl.dec (fun _ => ?_) (fun _ => ?_) | refine BSpl.yes (by assumption) ?_ | refine BSpl.no (by assumption) ?_ | refine BSpl.mk (fun _ => ?_) (fun _ => ?_))
 all_goals (refine ARet.int rfl ?_; unfold valueE; (first | rw [if_pos (by omega)] | rw [if_neg (by omega)]))
theorem str_at {s : ByteArray} {j : Nat} (h : j < s.size) : (s.data.toList.getD j 0) = s[j]'h := by
 rw [List.getD,List.getElem?_eq_getElem (by rw [str_len]; exact h)]
 rfl
set_option maxHeartbeats 2000000 in
set_option maxRecDepth 100000 in
theorem rkey_spec (s : ByteArray) : ASpec Tryz.prog 73 [.v (.string s)] (.v (.int .i64 (keyE s))) [] := by
 refine aspec_of lay_ok 134252557 Tryz.func73 rfl rfl rfl ?_
 repeat' ((conv => whnf); first | refine Spl.yes (by first | assumption | omega) ?_ | refine Spl.no (by first | assumption | omega) ?_ | refine Wr.i64 (by omega) (by omega) ?_ | refine Still.mk rfl rfl ?_ | refine InB.mk (inB_mk (by omega) (by omega)) ?_ | refine Req.mk (by omega) ?_ | refine Req.mk ⟨by first | omega | (dsimp only; omega),by first | omega | (dsimp only; omega)⟩ ?_ | refine ARet.hdI ?_ | refine Spl.mk (fun _ => ?_) (fun _ => ?_) | refine InA.mk (inB_mk (by omega) (by omega)) ?_ | refine Wr.b64 ?_ | refine Wr.bu64 ?_ | refine Wr.bu32 ?_ | refine Wr.bu8 ?_ | refine Wr.u8 (by omega) (by omega) ?_ | refine Wr.u64 (by omega) (by omega) ?_ | refine Wr.u32 (by omega) (by omega) ?_ | refine Dv.pos (by omega) (by omega) ?_ | refine Rm.pos (by omega) (by omega) ?_ | refine ADraw.quiet follows_ok (by kernel_rfl) rfl ?_ | refine BSpl.decY (by first | assumption | omega) ?_ | refine BSpl.decN (by first | assumption | omega) ?_ | refine BSpl.dec (fun _ => ?_) (fun _ => ?_) | refine BSpl.yes (by assumption) ?_ | refine BSpl.no (by assumption) ?_ | refine BSpl.mk (fun _ => ?_) (fun _ => ?_))
 all_goals (conv => whnf)
 · exact AEqI.mk (AEq.int (keyE_size (by omega)).symm)
 · exact AEqI.mk (AEq.int (keyE_size (by omega)).symm)
 · refine ALoop.mk { j : Nat // j ≤ s.size ∧ ∀ i (h : i < s.size),i < j → 97 ≤ (s[i]'h).toNat ∧ (s[i]'h).toNat ≤ 122 } (fun j => ⟨[(0, .v (.string s)),(3, .v (.int .i64 (j.1 : Int)))],[],[],0⟩) (fun j => s.size - j.1) ⟨0,Nat.zero_le _,fun i _ h => absurd h (Nat.not_lt_zero i)⟩ _
    (LeR.mk' [] _ _ _ rfl ⟨AEq.refl _,AEq.int rfl,trivial⟩ trivial rfl) ?_
   rintro ⟨j,hj,hall⟩
   dsimp only
   repeat' ((conv => whnf); first | refine Spl.yes (by first | assumption | omega) ?_ | refine Spl.no (by first | assumption | omega) ?_ | refine Wr.i64 (by omega) (by omega) ?_ | refine Still.mk rfl rfl ?_ | refine InB.mk (inB_mk (by omega) (by omega)) ?_ | refine Req.mk (by omega) ?_ | refine Req.mk ⟨by first | omega | (dsimp only; omega),by first | omega | (dsimp only; omega)⟩ ?_ | refine ARet.hdI ?_ | refine Spl.mk (fun _ => ?_) (fun _ => ?_) | refine InA.mk (inB_mk (by omega) (by omega)) ?_ | refine Wr.b64 ?_ | refine Wr.bu64 ?_ | refine Wr.bu32 ?_ | refine Wr.bu8 ?_ | refine Wr.u8 (by omega) (by omega) ?_ | refine Wr.u64 (by omega) (by omega) ?_ | refine Wr.u32 (by omega) (by omega) ?_ | refine Dv.pos (by omega) (by omega) ?_ | refine Rm.pos (by omega) (by omega) ?_ | refine ADraw.quiet follows_ok (by kernel_rfl) rfl ?_ | refine BSpl.decY (by first | assumption | omega) ?_ | refine BSpl.decN (by first | assumption | omega) ?_ | refine BSpl.dec (fun _ => ?_) (fun _ => ?_) | refine BSpl.yes (by assumption) ?_ | refine BSpl.no (by assumption) ?_ | refine BSpl.mk (fun _ => ?_) (fun _ => ?_))
   all_goals (conv => whnf)
   all_goals first
     | (have hjs : j < s.size := by omega
        have hsj : (s.data.toList.getD ((j : Int)).toNat 0).toNat = (s[j]'hjs).toNat := congrArg UInt8.toNat (str_at hjs)
        first
          | (refine ⟨⟨j + 1,by omega,fun i h hi => ?_⟩,_,LeR.mk' [] _ _ _ rfl ⟨AEq.refl _,AEq.int rfl,trivial⟩ trivial rfl,by show s.size - (j + 1) < s.size - j; omega⟩
             by_cases e : i = j
             · subst e; omega
             · exact hall i h (by omega))
          | (exact AEqI.mk (AEq.int (keyE_no hjs (by omega)).symm)))
     | exact AEqI.mk (AEq.int (keyE_ok (by omega) (by omega) (fun i h => hall i h (by omega))).symm)
set_option maxRecDepth 100000 in
theorem redit_spec (e : Ed) : ASpec Tryz.prog 48 [e.av] (.v (.int .i64 (editE e))) [] := by
 refine aspec_of lay_ok 4601168903 Tryz.func48 rfl rfl rfl ?_
 repeat' ((conv => whnf); first | refine Spl.yes (by first | assumption | omega) ?_ | refine Spl.no (by first | assumption | omega) ?_ | refine Wr.i64 (by omega) (by omega) ?_ | refine Still.mk rfl rfl ?_ | refine InB.mk (inB_mk (by omega) (by omega)) ?_ | refine Req.mk (by omega) ?_ | refine Req.mk ⟨by first | omega | (dsimp only; omega),by first | omega | (dsimp only; omega)⟩ ?_ | refine ACall.plain _ _ (rkey_spec _) (SubL.cons (.eq _) .nil) rfl ?_ | refine ACall.plain _ _ (rlabel_spec _) (SubL.cons (.eq _) .nil) rfl ?_ | refine ACall.plain _ _ (rvalue_spec _) (SubL.cons (.eq _) .nil) rfl ?_ | refine Spl.mk (fun _ => ?_) (fun _ => ?_) | refine InA.mk (inB_mk (by omega) (by omega)) ?_ | refine Wr.b64 ?_ | refine Wr.bu64 ?_ | refine Wr.bu32 ?_ | refine Wr.bu8 ?_ | refine Wr.u8 (by omega) (by omega) ?_ | refine Wr.u64 (by omega) (by omega) ?_ | refine Wr.u32 (by omega) (by omega) ?_ | refine Dv.pos (by omega) (by omega) ?_ | refine Rm.pos (by omega) (by omega) ?_ | refine ADraw.quiet follows_ok (by kernel_rfl) rfl ?_ | refine BSpl.decY (by first | assumption | omega) ?_ | refine BSpl.decN (by first | assumption | omega) ?_ | refine BSpl.dec (fun _ => ?_) (fun _ => ?_) | refine BSpl.yes (by assumption) ?_ | refine BSpl.no (by assumption) ?_ | refine BSpl.mk (fun _ => ?_) (fun _ => ?_))
 all_goals (refine ARet.int rfl ?_; unfold editE; try have h0 := size_pos ‹_›)
 all_goals grind [size_zero,keyE_10,labelE_11]
theorem rin_spec (n a b : Int) : ASpec Tryz.prog 47 [.v (.int .i64 n), .v (.int .i64 a), .v (.int .i64 b)] (.v (.bool (decide (a ≤ n ∧ n ≤ b)))) [] := by
 refine aspec_of lay_ok 71 Tryz.func47 rfl rfl rfl ?_
 repeat' ((conv => whnf); first | refine Spl.yes (by first | assumption | omega) ?_ | refine Spl.no (by first | assumption | omega) ?_ | refine Wr.i64 (by omega) (by omega) ?_ | refine Still.mk rfl rfl ?_ | refine InB.mk (inB_mk (by omega) (by omega)) ?_ | refine Req.mk (by omega) ?_ | refine Req.mk ⟨by first | omega | (dsimp only; omega),by first | omega | (dsimp only; omega)⟩ ?_ | refine Spl.mk (fun _ => ?_) (fun _ => ?_) | refine InA.mk (inB_mk (by omega) (by omega)) ?_ | refine Wr.b64 ?_ | refine Wr.bu64 ?_ | refine Wr.bu32 ?_ | refine Wr.bu8 ?_ | refine Wr.u8 (by omega) (by omega) ?_ | refine Wr.u64 (by omega) (by omega) ?_ | refine Wr.u32 (by omega) (by omega) ?_ | refine Dv.pos (by omega) (by omega) ?_ | refine Rm.pos (by omega) (by omega) ?_ | refine ADraw.quiet follows_ok (by kernel_rfl) rfl ?_ | refine BSpl.decY (by first | assumption | omega) ?_ | refine BSpl.decN (by first | assumption | omega) ?_ | refine BSpl.dec (fun _ => ?_) (fun _ => ?_) | refine BSpl.yes (by assumption) ?_ | refine BSpl.no (by assumption) ?_ | refine BSpl.mk (fun _ => ?_) (fun _ => ?_))
 all_goals (refine ARet.bool rfl ?_; simp [*])
theorem redt_spec (e : Ev) : ASpec Tryz.prog 49 [e.av] e.ed.av [] := by
 refine aspec_of lay_ok 7 Tryz.func49 rfl rfl rfl ?_
 repeat' ((conv => whnf); first | refine Spl.yes (by first | assumption | omega) ?_ | refine Spl.no (by first | assumption | omega) ?_ | refine Wr.i64 (by omega) (by omega) ?_ | refine Still.mk rfl rfl ?_ | refine InB.mk (inB_mk (by omega) (by omega)) ?_ | refine Req.mk (by omega) ?_ | refine Req.mk ⟨by first | omega | (dsimp only; omega),by first | omega | (dsimp only; omega)⟩ ?_ | refine ARet.hdI ?_ | refine Spl.mk (fun _ => ?_) (fun _ => ?_) | refine InA.mk (inB_mk (by omega) (by omega)) ?_ | refine Wr.b64 ?_ | refine Wr.bu64 ?_ | refine Wr.bu32 ?_ | refine Wr.bu8 ?_ | refine Wr.u8 (by omega) (by omega) ?_ | refine Wr.u64 (by omega) (by omega) ?_ | refine Wr.u32 (by omega) (by omega) ?_ | refine Dv.pos (by omega) (by omega) ?_ | refine Rm.pos (by omega) (by omega) ?_ | refine ADraw.quiet follows_ok (by kernel_rfl) rfl ?_ | refine BSpl.decY (by first | assumption | omega) ?_ | refine BSpl.decN (by first | assumption | omega) ?_ | refine BSpl.dec (fun _ => ?_) (fun _ => ?_) | refine BSpl.yes (by assumption) ?_ | refine BSpl.no (by assumption) ?_ | refine BSpl.mk (fun _ => ?_) (fun _ => ?_))
 conv => whnf
 exact AEqI.mk (AEq.refl _)
set_option maxHeartbeats 2000000 in
set_option maxRecDepth 100000 in
theorem rmay_spec (e : Ev) : ASpec Tryz.prog 24 [e.av] (.v (.int .i64 (mayE e))) [] := by
 obtain ⟨r,n,⟨c0,c1,c2,c3,c4⟩,h,k,key,l,v⟩ := e
 dsimp only [Ev.av,Ev.cs]
 by_cases hr : 0 ≤ r ∧ r ≤ 4
 · rcases (show r = 0 ∨ r = 1 ∨ r = 2 ∨ r = 3 ∨ r = 4 by omega) with rfl | rfl | rfl | rfl | rfl
   all_goals
    refine aspec_of lay_ok 1104880336911 Tryz.func24 rfl rfl rfl ?_
    repeat' ((conv => whnf); first | refine Spl.yes (by first | assumption | omega) ?_ | refine Spl.no (by first | assumption | omega) ?_ | refine Wr.i64 (by omega) (by omega) ?_ | refine Still.mk rfl rfl ?_ | refine InB.mk (inB_mk (by omega) (by omega)) ?_ | refine Req.mk (by omega) ?_ | refine Req.mk ⟨by first | omega | (dsimp only; omega),by first | omega | (dsimp only; omega)⟩ ?_ | refine ACall.plain _ _ (rin_spec _ _ _) (SubL.cons (.eq _) (SubL.cons (.eq _) (SubL.cons (.eq _) .nil))) rfl ?_ | refine ACall.plain _ _ (redt_spec ⟨_,n,⟨c0,c1,c2,c3,c4⟩,h,k,key,l,v⟩) (SubL.cons (.eq _) .nil) rfl ?_ | refine ACall.plain _ _ (redit_spec ⟨k,key,l,v⟩) (SubL.cons (.eq _) .nil) rfl ?_ | refine ALoop.unr 3 6 rfl ?_ | refine Spl.mk (fun _ => ?_) (fun _ => ?_) | refine InA.mk (inB_mk (by omega) (by omega)) ?_ | refine Wr.b64 ?_ | refine Wr.bu64 ?_ | refine Wr.bu32 ?_ | refine Wr.bu8 ?_ | refine Wr.u8 (by omega) (by omega) ?_ | refine Wr.u64 (by omega) (by omega) ?_ | refine Wr.u32 (by omega) (by omega) ?_ | refine Dv.pos (by omega) (by omega) ?_ | refine Rm.pos (by omega) (by omega) ?_ | refine ADraw.quiet follows_ok (by kernel_rfl) rfl ?_ | refine ADraw.sched (id := 1) lay_ok (awp_snd lay_ok _) [(0,none),(1,none),(2,some [1]),(3,none),(4,none),(5,none),(6,none),(7,some [1,6]),(8,none),(9,none),(10,none),(11,none),(12,none),(13,some [1,6,12]),(14,none),(15,none),(16,none),(17,none),(18,none),(19,none),(20,none),(21,none),(22,none),(23,none),(24,none),(25,none),(26,none)] [(2,[1]),(3,[1]),(4,[1]),(5,[1]),(6,[1]),(7,[1,6]),(8,[1,6]),(9,[1,6]),(10,[1,6]),(11,[1,6]),(12,[1,6]),(13,[1,6,12]),(14,[1,6,12]),(15,[1,6,12]),(16,[1,6,12]),(17,[1,6,12]),(18,[1,6,12]),(19,[1,6,12]),(20,[1,6,12]),(21,[1,6,12]),(22,[1,6,12]),(23,[1,6,12]),(24,[1,6,12]),(25,[1,6,12]),(26,[1,6,12])] follows_ok (by kernel_rfl) ?_ | refine BSpl.decY (by first | assumption | omega) ?_ | refine BSpl.decN (by first | assumption | omega) ?_ | refine BSpl.dec (fun _ => ?_) (fun _ => ?_) | refine BSpl.yes (by assumption) ?_ | refine BSpl.no (by assumption) ?_ | refine BSpl.mk (fun _ => ?_) (fun _ => ?_))
    all_goals refine ARet.int rfl ?_
    all_goals first | (simp [mayE,okN,withinB,Clk.get,Ev.ed, *]; done) | (simp [mayE,okN,withinB,Clk.get,Ev.ed, *]; omega)
 · refine aspec_of lay_ok 1104880336911 Tryz.func24 rfl rfl rfl ?_
   repeat' ((conv => whnf); first | refine Spl.yes (by first | assumption | omega) ?_ | refine Spl.no (by first | assumption | omega) ?_ | refine Wr.i64 (by omega) (by omega) ?_ | refine Still.mk rfl rfl ?_ | refine InB.mk (inB_mk (by omega) (by omega)) ?_ | refine Req.mk (by omega) ?_ | refine Req.mk ⟨by first | omega | (dsimp only; omega),by first | omega | (dsimp only; omega)⟩ ?_ | refine ACall.plain _ _ (rin_spec _ _ _) (SubL.cons (.eq _) (SubL.cons (.eq _) (SubL.cons (.eq _) .nil))) rfl ?_ | refine ACall.plain _ _ (redt_spec ⟨r,n,⟨c0,c1,c2,c3,c4⟩,h,k,key,l,v⟩) (SubL.cons (.eq _) .nil) rfl ?_ | refine ACall.plain _ _ (redit_spec ⟨k,key,l,v⟩) (SubL.cons (.eq _) .nil) rfl ?_ | refine ALoop.unr 3 6 rfl ?_ | refine Spl.mk (fun _ => ?_) (fun _ => ?_) | refine InA.mk (inB_mk (by omega) (by omega)) ?_ | refine Wr.b64 ?_ | refine Wr.bu64 ?_ | refine Wr.bu32 ?_ | refine Wr.bu8 ?_ | refine Wr.u8 (by omega) (by omega) ?_ | refine Wr.u64 (by omega) (by omega) ?_ | refine Wr.u32 (by omega) (by omega) ?_ | refine Dv.pos (by omega) (by omega) ?_ | refine Rm.pos (by omega) (by omega) ?_ | refine ADraw.quiet follows_ok (by kernel_rfl) rfl ?_ | refine ADraw.sched (id := 1) lay_ok (awp_snd lay_ok _) [(0,none),(1,none),(2,some [1]),(3,none),(4,none),(5,none),(6,none),(7,some [1,6]),(8,none),(9,none),(10,none),(11,none),(12,none),(13,some [1,6,12]),(14,none),(15,none),(16,none),(17,none),(18,none),(19,none),(20,none),(21,none),(22,none),(23,none),(24,none),(25,none),(26,none)] [(2,[1]),(3,[1]),(4,[1]),(5,[1]),(6,[1]),(7,[1,6]),(8,[1,6]),(9,[1,6]),(10,[1,6]),(11,[1,6]),(12,[1,6]),(13,[1,6,12]),(14,[1,6,12]),(15,[1,6,12]),(16,[1,6,12]),(17,[1,6,12]),(18,[1,6,12]),(19,[1,6,12]),(20,[1,6,12]),(21,[1,6,12]),(22,[1,6,12]),(23,[1,6,12]),(24,[1,6,12]),(25,[1,6,12]),(26,[1,6,12])] follows_ok (by kernel_rfl) ?_ | refine BSpl.decY (by first | assumption | omega) ?_ | refine BSpl.decN (by first | assumption | omega) ?_ | refine BSpl.dec (fun _ => ?_) (fun _ => ?_) | refine BSpl.yes (by assumption) ?_ | refine BSpl.no (by assumption) ?_ | refine BSpl.mk (fun _ => ?_) (fun _ => ?_))
   all_goals refine ARet.int rfl ?_
   all_goals (simp [mayE,withinB]; omega)
end Go.Proofs.YtkkpfjifkjbndaaGreat

/-
 The reference of layer 10: kithref10.State's Apply and Get.
-/
namespace Go.Proofs.YtkkpfjifkjbndaaGreat
open Go.RowKit
theorem vals_le (B : List Ev) : (valsF B).length ≤ B.length := by
 have := compact_le (sortL (B.map fun e => strL e.v))
 rw [show (sortL (B.map fun e => strL e.v)).length = (B.map fun e => strL e.v).length from List.length_mergeSort ..,List.length_map] at this
 exact this
theorem of_setl (w : List Ev) : ∀ c ∈ ofB w,c.s0.length ≤ w.length ∧ c.s1.length ≤ w.length := fun c hc => by
 obtain ⟨k,_,rfl⟩ := List.mem_map.1 hc
 have h : ∀ n,(valsF (addsB ⟨k.toArray⟩ n (countingB w (livingB w)))).length ≤ w.length := fun n => by
  have h1 := vals_le (addsB ⟨k.toArray⟩ n (countingB w (livingB w)))
  have h2 : (addsB ⟨k.toArray⟩ n (countingB w (livingB w))).length ≤ (countingB w (livingB w)).length := List.length_filter_le ..
  have h3 : (countingB w (livingB w)).length ≤ w.length := List.length_filter_le ..
  omega
 exact ⟨h 0,h 1⟩
theorem MSpec.res {P : Program} {f : FuncId} {hin : List (Nat × AO)} {avs : List AV} {r r' : AV} {hout : List (Nat × AO)} (h : MSpec P f hin avs r hout) (hr : AEq r r') : MSpec P f hin avs r' hout := by
 refine ⟨h.1,fun w keep ρ args a1 a2 a3 a4 a5 => (h.2 w keep ρ args a1 a2 a3 a4 a5).mono ?_⟩
 rintro e w' ⟨u,ρ',rfl,b1,b2,b3,b4⟩
 exact ⟨u,ρ',rfl,b1,b2,hr _ _ b3,b4⟩
def gotC (O : List Cont) (key : ByteArray) : Cont := ((O.filter fun c => decide (c.key = key)).head?).getD default
def gotN (O : List Cont) (key : ByteArray) : Int := if (O.filter fun c => decide (c.key = key)) = [] then 14 else 0
theorem got_cons {O : List Cont} {key : ByteArray} {c : Cont} {r : List Cont} (h : (O.filter fun c => decide (c.key = key)) = c :: r) : gotC O key = c ∧ gotN O key = 0 := by
 unfold gotC gotN
 rw [h]
 exact ⟨rfl,if_neg (List.cons_ne_nil _ _)⟩
theorem got_nil {O : List Cont} {key : ByteArray} (h : (O.filter fun c => decide (c.key = key)) = []) : gotC O key = default ∧ gotN O key = 14 := by
 unfold gotC gotN
 rw [h]
 exact ⟨rfl,if_pos rfl⟩
theorem got_set {P : List Ev} {key : ByteArray} : (gotC (ofB P) key).s0.length ≤ P.length ∧ (gotC (ofB P) key).s1.length ≤ P.length := by
 cases h : (ofB P).filter fun c => decide (c.key = key) with
 | nil => rw [(got_nil h).1]; exact ⟨Nat.zero_le _,Nat.zero_le _⟩
 | cons c r =>
  rw [(got_cons h).1]
  refine of_setl P c ?_
  have : c ∈ (ofB P).filter fun c => decide (c.key = key) := by rw [h]; exact List.mem_cons_self
  exact (List.mem_filter.1 this).1
theorem zero_cs (x : AV) : AEq (.tup [.agg zeroC,x]) (.tup [.agg (default : Cont).cs,x]) := by
 rintro X u ⟨us,rfl,ha⟩
 refine ⟨us,rfl,ha.1,fun i y u hy hu => ?_⟩
 match i with
 | 0 =>
  cases hy
  obtain ⟨vs,rfl,hb⟩ := ha.2 0 _ u rfl hu
  refine ⟨vs,rfl,hb.1,fun k z v hz hv => ?_⟩
  match k with
  | 0 => cases hz; exact hb.2 0 _ v rfl hv
  | 1 => cases hz; exact hb.2 1 _ v rfl hv
  | 2 => cases hz; exact hb.2 2 _ v rfl hv
  | 3 => cases hz; exact hb.2 3 _ v rfl hv
  | 4 => cases hz; exact hb.2 4 _ v rfl hv
  | 5 => cases hz; exact C1.nilS (X := X) (s := 1) (sc := true) (f := strF []) (by decide) (hb.2 5 _ v rfl hv)
  | 6 => cases hz; exact C1.nilS (X := X) (s := 1) (sc := true) (f := strF []) (by decide) (hb.2 6 _ v rfl hv)
  | k + 7 => cases hz
 | 1 => cases hy; exact ha.2 1 _ u rfl hu
 | i + 2 => cases hy
theorem get_u {P : List Ev} (hp : ∀ key,Pst (onP (eqK key) P) key) (m : Nat) (key : ByteArray) (hk : key.size ≤ 9223372036854775807) (hl : P.length ≤ 1000000) :
  MSpec Tryz.prog 21 [(0, .obs (bookO P m))] [.box 0 0, .v (.string key)] (.tup [.agg (gotC (ofB P) key).cs, .v (.int .i64 (gotN (ofB P) key))]) [(0, .obs (bookO P (m + 1)))] := by
 cases h : (ofB P).filter fun c => decide (c.key = key) with
 | nil => rw [(got_nil h).1,(got_nil h).2]; exact (get_b0 hp m key hk hl h).res (zero_cs _)
 | cons c r => rw [(got_cons h).1,(got_cons h).2]; exact get_b hp m key hk hl h
theorem got_at {O : List Cont} {key : ByteArray} {j : Nat} (hj : j < O.length) (h : ∀ i,i < j → (O.getD i default).key ≠ key) (hk : (O.getD j default).key = key) : gotC O key = O.getD j default ∧ gotN O key = 0 := by
 have e : O = O.take j ++ O.getD j default :: O.drop (j + 1) := by
  rw [show O.getD j default = O[j] by rw [List.getD,List.getElem?_eq_getElem hj]; rfl,List.getElem_cons_drop hj,List.take_append_drop]
 have h1 : (O.take j).filter (fun c => decide (c.key = key)) = [] := List.filter_eq_nil_iff.2 fun c hc => by
  obtain ⟨i,hi,rfl⟩ := List.getElem_of_mem hc
  rw [List.length_take] at hi
  have := h i (by omega)
  rw [List.getD,List.getElem?_eq_getElem (by omega)] at this
  rw [List.getElem_take]
  simpa using this
 refine got_cons (r := (O.drop (j + 1)).filter fun c => decide (c.key = key)) ?_
 conv => lhs; rw [e]
 rw [List.filter_append,h1,List.filter_cons,if_pos (by simpa using hk)]
 rfl
theorem got_off {O : List Cont} {key : ByteArray} (h : ∀ i,i < O.length → (O.getD i default).key ≠ key) : gotC O key = default ∧ gotN O key = 14 :=
 got_nil (List.filter_eq_nil_iff.2 fun c hc => by
  obtain ⟨i,hi,rfl⟩ := List.getElem_of_mem hc
  have := h i hi
  rw [List.getD,List.getElem?_eq_getElem hi] at this
  simpa using this)
theorem same_one (c : Cont) (hs : c.s0.length ≤ 140737488355328 ∧ c.s1.length ≤ 140737488355328) {sa sb : Bool} {F G : Nat → List AV} (hF : F 0 = c.cs) (hG : G 0 = c.cs) :
  ASpec Tryz.prog 18 [.sl 7 1 sa F, .sl 7 1 sb G] (.v (.bool true)) [] := by
 have h := same_spec [c] [c] sa sb true (by simp) (by simp) (fun x hx => by rw [List.mem_singleton.1 hx]; exact hs)
 have e : ∀ (s : Bool) {F : Nat → List AV},F 0 = c.cs → AEq (.sl 7 1 s F) (.sl 7 1 s (coF [c])) := fun s F hF X u hu => by
  have hu : PC X.w X.keep (.sl 7 1 s F) u := hu
  show PC X.w X.keep (.sl 7 1 s (coF [c])) u
  have hp : ∀ i,i < 1 → F i = coF [c] i := fun i hi => by
   obtain rfl : i = 0 := by omega
   rw [hF]
   rfl
  cases hu with
  | sl _ _ _ _ A cp us hs hn hc hl hf hsc hq hr => exact .sl 7 1 s (coF [c]) A cp us hs hn hc hl (fun i hi => by rw [← hp i hi]; exact hf i hi) (by rw [← flat_congr hp]; exact hsc) (by rw [← flat_congr hp]; exact hq) hr
 exact h.args (.of (fun X u hu => e sa hF X u hu) (.of (fun X u hu => e sb hG X u hu) .nil))
abbrev refB : AO := .box 50 [.own 1]
set_option maxHeartbeats 4000000 in
set_option maxRecDepth 100000 in
theorem applyR_m (L : List Ev) (e : Ev) (hm : mayE e = 0) (hl : L.length ≤ 1000000) :
  MSpec Tryz.prog 17 [(0,refB),(1,evR L)] [.box 0 0,e.av] (.v (.int .i64 0)) [(0, .box 50 [.own 2]),(2,evR (L ++ [e]))] := by
 have hmay := rmay_spec e
 rw [hm] at hmay
 obtain ⟨M,hE⟩ : ∃ M,L ++ [e] = M := ⟨_,rfl⟩
 rw [hE]
 obtain ⟨er,en,ec,eh,ek,ekey,el,ev⟩ := e
 dsimp only [Ev.av,Ev.cs,evR,refB] at hmay ⊢
 refine mspec_of lay_ok 571 10 Tryz.func17 rfl rfl rfl ?_
 repeat' ((conv => whnf); first | refine Spl.yes (by first | assumption | omega) ?_ | refine Spl.no (by first | assumption | omega) ?_ | refine Wr.i64 (by omega) (by omega) ?_ | refine Still.mk rfl rfl ?_ | refine InB.mk (inB_mk (by omega) (by omega)) ?_ | refine Req.mk (by omega) ?_ | refine Req.mk ⟨by first | omega | (dsimp only; omega),by first | omega | (dsimp only; omega)⟩ ?_ | refine ACall.plain _ _ (hmay) (SubL.cons (.eq _) .nil) rfl ?_ | refine Spl.mk (fun _ => ?_) (fun _ => ?_) | refine InA.mk (inB_mk (by omega) (by omega)) ?_ | refine Wr.b64 ?_ | refine Wr.bu64 ?_ | refine Wr.bu32 ?_ | refine Wr.bu8 ?_ | refine Wr.u8 (by omega) (by omega) ?_ | refine Wr.u64 (by omega) (by omega) ?_ | refine Wr.u32 (by omega) (by omega) ?_ | refine Dv.pos (by omega) (by omega) ?_ | refine Rm.pos (by omega) (by omega) ?_ | refine ADraw.quiet follows_ok (by kernel_rfl) rfl ?_ | refine ADraw.sched (id := 3) lay_ok (awp_snd lay_ok _) [(0,none),(1,none),(2,none),(3,none),(4,none),(5,none),(6,some [5]),(7,some [5,4,2]),(8,none),(9,none),(10,some [5,4,2,8])] [(3,[2]),(4,[2]),(6,[5]),(7,[5,4,2]),(8,[5,4,2]),(9,[5,4,2,8]),(10,[5,4,2,8])] follows_ok (by kernel_rfl) ?_ | refine BSpl.decY (by first | assumption | omega) ?_ | refine BSpl.decN (by first | assumption | omega) ?_ | refine BSpl.dec (fun _ => ?_) (fun _ => ?_) | refine BSpl.yes (by assumption) ?_ | refine BSpl.no (by assumption) ?_ | refine BSpl.mk (fun _ => ?_) (fun _ => ?_))
 all_goals (conv => whnf)
 refine ⟨[(12,2)],rfl,rfl,⟨⟨_,rfl,OEq.refl _⟩,⟨_,rfl,OEq.row ?_ (fun m hm => ?_)⟩,trivial⟩,rfl,rfl,AEq.refl _⟩
 · show _ = M.length
   rw [← hE,List.length_append]
   rfl
 · show _ = evF M m
   rw [← hE]
   exact els_app1 (c := Ev.cs) rfl rfl m hm
set_option maxHeartbeats 4000000 in
set_option maxRecDepth 100000 in
theorem getR_m (L : List Ev) (key : ByteArray) (hl : L.length ≤ 1000000) :
  MSpec Tryz.prog 22 [(0,refB),(1,evR L)] [.box 0 0, .v (.string key)] (.tup [.agg (gotC (ofB L) key).cs, .v (.int .i64 (gotN (ofB L) key))]) [(0,refB),(1,evR L)] := by
 have hof := ofR_m L hl
 rw [ofR_eq] at hof
 have hlen := of_len L
 generalize ofB L = O at *
 dsimp only [evR,refB] at hof ⊢
 refine mspec_of lay_ok 33620211 10 Tryz.func22 rfl rfl rfl ?_
 repeat' ((conv => whnf); first | refine Spl.yes (by first | assumption | omega) ?_ | refine Spl.no (by first | assumption | omega) ?_ | refine Wr.i64 (by omega) (by omega) ?_ | refine Still.mk rfl rfl ?_ | refine InB.mk (inB_mk (by omega) (by omega)) ?_ | refine Req.mk (by omega) ?_ | refine Req.mk ⟨by first | omega | (dsimp only; omega),by first | omega | (dsimp only; omega)⟩ ?_ | refine ACall.chgR 1 [(0,_)] (hof) rfl ⟨rfl,trivial⟩ rfl rfl ?_ | refine Spl.mk (fun _ => ?_) (fun _ => ?_) | refine InA.mk (inB_mk (by omega) (by omega)) ?_ | refine Wr.b64 ?_ | refine Wr.bu64 ?_ | refine Wr.bu32 ?_ | refine Wr.bu8 ?_ | refine Wr.u8 (by omega) (by omega) ?_ | refine Wr.u64 (by omega) (by omega) ?_ | refine Wr.u32 (by omega) (by omega) ?_ | refine Dv.pos (by omega) (by omega) ?_ | refine Rm.pos (by omega) (by omega) ?_ | refine ADraw.quiet follows_ok (by kernel_rfl) rfl ?_ | refine BSpl.decY (by first | assumption | omega) ?_ | refine BSpl.decN (by first | assumption | omega) ?_ | refine BSpl.dec (fun _ => ?_) (fun _ => ?_) | refine BSpl.yes (by assumption) ?_ | refine BSpl.no (by assumption) ?_ | refine BSpl.mk (fun _ => ?_) (fun _ => ?_))
 conv => whnf
 refine ALoop.mk { j : Nat // j ≤ O.length ∧ ∀ i,i < j → (O.getD i default).key ≠ key } (fun j => ⟨[(0, .box 0 0),(1, .v (.string key)),(4, .box 10 0),(5, .v (.int .i64 0)),(6, .sl 7 O.length false (coF O)),(7, .v (.int .i64 (j.1 : Int)))],
   [(0,refB),(1, .row 36 12 L.length true (evF L)),(10, .box 45 zeroC)],[[(0, .box 0 0),(1, .own 1)]],12⟩) (fun j => O.length - j.1) ⟨0,Nat.zero_le _,fun i h => absurd h (Nat.not_lt_zero i)⟩ _
  (LeR.mk' [] _ _ _ rfl ⟨AEq.refl _,AEq.refl _,AEq.refl _,AEq.refl _,AEq.refl _,AEq.int rfl,trivial⟩ ⟨⟨_,rfl,OEq.refl _⟩,⟨_,rfl,OEq.refl _⟩,⟨_,rfl,OEq.refl _⟩,trivial⟩ rfl) ?_
 rintro ⟨j,hj,hall⟩
 dsimp only [refB]
 by_cases hjl : j < O.length
 · repeat' ((conv => whnf); first | refine Spl.yes (by first | assumption | omega) ?_ | refine Spl.no (by first | assumption | omega) ?_ | refine Wr.i64 (by omega) (by omega) ?_ | refine Still.mk rfl rfl ?_ | refine InB.mk (inB_mk (by omega) (by omega)) ?_ | refine Req.mk (by omega) ?_ | refine Req.mk ⟨by first | omega | (dsimp only; omega),by first | omega | (dsimp only; omega)⟩ ?_ | refine Spl.mk (fun _ => ?_) (fun _ => ?_) | refine InA.mk (inB_mk (by omega) (by omega)) ?_ | refine Wr.b64 ?_ | refine Wr.bu64 ?_ | refine Wr.bu32 ?_ | refine Wr.bu8 ?_ | refine Wr.u8 (by omega) (by omega) ?_ | refine Wr.u64 (by omega) (by omega) ?_ | refine Wr.u32 (by omega) (by omega) ?_ | refine Dv.pos (by omega) (by omega) ?_ | refine Rm.pos (by omega) (by omega) ?_ | refine ADraw.quiet follows_ok (by kernel_rfl) rfl ?_ | refine BSpl.decY (by first | assumption | omega) ?_ | refine BSpl.decN (by first | assumption | omega) ?_ | refine BSpl.dec (fun _ => ?_) (fun _ => ?_) | refine BSpl.yes (by assumption) ?_ | refine BSpl.no (by assumption) ?_ | refine BSpl.mk (fun _ => ?_) (fun _ => ?_))
   all_goals (conv => whnf)
   all_goals first
     | exact absurd (show Nat.ble _ _ = false by assumption) (by rw [Bool.not_eq_false,Nat.ble_eq]; omega)
     | (obtain ⟨g1,g2⟩ := got_at hjl hall (show (O.getD j default).key = key by assumption)
        rw [g1,g2]
        exact ⟨[],rfl,rfl,⟨⟨_,rfl,OEq.refl _⟩,⟨_,rfl,OEq.refl _⟩,trivial⟩,rfl,rfl,AEq.refl _⟩)
     | exact ⟨⟨j + 1,hjl,fun i hi => by
       rcases Nat.lt_succ_iff_lt_or_eq.1 hi with h | rfl
       · exact hall i h
       · assumption⟩,_,LeR.mk' [] _ _ _ rfl ⟨AEq.refl _,AEq.refl _,AEq.refl _,AEq.refl _,AEq.refl _,AEq.int rfl,trivial⟩ ⟨⟨_,rfl,OEq.refl _⟩,⟨_,rfl,OEq.refl _⟩,⟨_,rfl,OEq.refl _⟩,trivial⟩ rfl,Nat.sub_succ_lt_self _ _ hjl⟩
 · have hjn : j = O.length := by omega
   subst hjn
   obtain ⟨g1,g2⟩ := got_off hall
   rw [g1,g2]
   repeat' ((conv => whnf); first | refine Spl.yes (by first | assumption | omega) ?_ | refine Spl.no (by first | assumption | omega) ?_ | refine Wr.i64 (by omega) (by omega) ?_ | refine Still.mk rfl rfl ?_ | refine InB.mk (inB_mk (by omega) (by omega)) ?_ | refine Req.mk (by omega) ?_ | refine Req.mk ⟨by first | omega | (dsimp only; omega),by first | omega | (dsimp only; omega)⟩ ?_ | refine Spl.mk (fun _ => ?_) (fun _ => ?_) | refine InA.mk (inB_mk (by omega) (by omega)) ?_ | refine Wr.b64 ?_ | refine Wr.bu64 ?_ | refine Wr.bu32 ?_ | refine Wr.bu8 ?_ | refine Wr.u8 (by omega) (by omega) ?_ | refine Wr.u64 (by omega) (by omega) ?_ | refine Wr.u32 (by omega) (by omega) ?_ | refine Dv.pos (by omega) (by omega) ?_ | refine Rm.pos (by omega) (by omega) ?_ | refine ADraw.quiet follows_ok (by kernel_rfl) rfl ?_ | refine BSpl.decY (by first | assumption | omega) ?_ | refine BSpl.decN (by first | assumption | omega) ?_ | refine BSpl.dec (fun _ => ?_) (fun _ => ?_) | refine BSpl.yes (by assumption) ?_ | refine BSpl.no (by assumption) ?_ | refine BSpl.mk (fun _ => ?_) (fun _ => ?_))
   conv => whnf
   exact ⟨[],rfl,rfl,⟨⟨_,rfl,OEq.refl _⟩,⟨_,rfl,OEq.refl _⟩,trivial⟩,rfl,rfl,zero_cs _⟩
end Go.Proofs.YtkkpfjifkjbndaaGreat

/-
 The head of layer 10's statements: the document's example.
-/
namespace Go.Proofs.YtkkpfjifkjbndaaGreat
open Go.RowKit
theorem Pst.mk' {P : List Ev} (one : OneStamp P) (hi : ∀ a ∈ P,∀ b ∈ P,belowB a b = true → a.h < b.h) (tr : ∀ a ∈ P,∀ b ∈ P,∀ c ∈ P,belowB a b = true → belowB b c = true → belowB a c = true) (key : ByteArray) : Pst (onP (eqK key) P) key := by
 have hs : ∀ x ∈ onP (eqK key) P,x ∈ P := fun x hx => (List.mem_filter.1 hx).1
 exact ⟨on_key,fun a ha b hb => one a (hs a ha) b (hs b hb),fun a ha b hb => hi a (hs a ha) b (hs b hb),fun a ha b hb c hc => tr a (hs a ha) b (hs b hb) c (hs c hc)⟩
def ev1 : Ev := ⟨0,1,⟨0,0,0,0,0⟩,1,1,⟨#[99,121]⟩,0,⟨#[]⟩⟩
def ev2 : Ev := ⟨0,2,⟨1,0,0,0,0⟩,2,2,⟨#[99,121]⟩,0,⟨#[]⟩⟩
theorem nxt1 : Nxt (onP (eqK ev1.key) []) ev1 := ⟨fun x hx => (by cases hx),fun x hx => (by cases hx),by decide,fun x hx => (by cases hx),by decide,fun x hx => (by cases hx)⟩
theorem on1 {x : Ev} (h : x ∈ onP (eqK ev2.key) [ev1]) : x = ev1 := List.mem_singleton.1 (List.mem_filter.1 h).1
theorem nxt2 : Nxt (onP (eqK ev2.key) [ev1]) ev2 :=
 ⟨fun x hx => by rw [on1 hx]; rfl,fun x hx => by rw [on1 hx]; decide,by decide,fun a ha b hb => by rw [on1 ha,on1 hb]; decide,by decide,fun x hx => by rw [on1 hx]; decide⟩
theorem pst1 (key : ByteArray) : Pst (onP (eqK key) [ev1]) key :=
 Pst.mk' (fun a ha b hb _ => by rw [List.mem_singleton.1 ha,List.mem_singleton.1 hb]) (fun a ha b hb => by rw [List.mem_singleton.1 ha,List.mem_singleton.1 hb]; decide) (fun a ha b hb c hc => by rw [List.mem_singleton.1 ha,List.mem_singleton.1 hb,List.mem_singleton.1 hc]; decide) key
theorem two12 {x : Ev} (h : x ∈ [ev1,ev2]) : x = ev1 ∨ x = ev2 := by simpa using h
theorem pst2 (key : ByteArray) : Pst (onP (eqK key) [ev1,ev2]) key :=
 Pst.mk' (fun a ha b hb h => by
  rcases two12 ha with rfl | rfl <;> rcases two12 hb with rfl | rfl
  · rfl
  · exact absurd h (by simp [stampE,ev1,ev2])
  · exact absurd h (by simp [stampE,ev1,ev2])
  · rfl) (fun a ha b hb => by rcases two12 ha with rfl | rfl <;> rcases two12 hb with rfl | rfl <;> decide) (fun a ha b hb c hc => by rcases two12 ha with rfl | rfl <;> rcases two12 hb with rfl | rfl <;> rcases two12 hc with rfl | rfl <;> decide) key
theorem sz1 : sizeB [ev1] = 1 := by decide
theorem sz2 : sizeB [ev1,ev2] = 0 := by decide
theorem of1 : (ofB [ev1]).length = 1 := by
 rw [of_same (l := [ev1]) (key := ev1.key) (fun x hx => by rw [List.mem_singleton.1 hx])]
 rw [if_neg (fun h => by have : (livingB [ev1]).length = 0 := by rw [h]; rfl
                         revert this; decide)]
 rfl
theorem of2 : (ofB [ev1,ev2]).length = 0 := by
 rw [of_same (l := [ev1,ev2]) (key := ev1.key) (fun x hx => by rcases two12 hx with rfl | rfl <;> rfl)]
 rw [if_pos (List.eq_nil_of_length_eq_zero (by decide))]
 rfl
set_option maxHeartbeats 4000000 in
set_option maxRecDepth 100000 in
theorem shown_spec : ASpec Tryz.prog 8 [] (.v (.bool true)) [] := by
 have h1 := apply_b (P := []) nxt1 (by decide) (by decide) 0
 have h2 := apply_b (P := [ev1]) nxt2 (by decide) (by decide) 1
 have l1 := list_b (P := [ev1]) pst1 1 (by decide) (by decide)
 have l2 := list_b (P := [ev1,ev2]) pst2 2 (by decide) (by decide)
 have s1 := size_b [ev1] 1 (by decide)
 have s2 := size_b [ev1,ev2] 2 (by decide)
 rw [sz1] at s1
 rw [sz2] at s2
 have o1 := of1
 have o2 := of2
 dsimp only [List.nil_append,List.cons_append,Nat.zero_add,Nat.reduceAdd] at h1 h2
 have h0 := new_b
 generalize bookO [] 0 = b0 at *
 generalize bookO [ev1] 1 = b1 at *
 generalize bookO [ev1,ev2] 2 = b2 at *
 generalize ofB [ev1] = O1 at *
 generalize ofB [ev1,ev2] = O2 at *
 rw [o1] at l1
 rw [o2] at l2
 dsimp only [Ev.av,Ev.cs,ev1,ev2] at h1 h2
 refine aspec_of lay_ok 319 Tryz.func8 rfl rfl rfl ?_
 repeat' ((conv => whnf); first | refine Spl.yes (by first | assumption | omega) ?_ | refine Spl.no (by first | assumption | omega) ?_ | refine Wr.i64 (by omega) (by omega) ?_ | refine Still.mk rfl rfl ?_ | refine InB.mk (inB_mk (by omega) (by omega)) ?_ | refine Req.mk (by omega) ?_ | refine Req.mk ⟨by first | omega | (dsimp only; omega),by first | omega | (dsimp only; omega)⟩ ?_ | refine ACall.chgR 1 [(0,_)] (h1) rfl ⟨rfl,trivial⟩ rfl rfl ?_ | refine ACall.chgR 1 [(0,_)] (h2) rfl ⟨rfl,trivial⟩ rfl rfl ?_ | refine ACall.chgR 1 [(0,_)] (s1) rfl ⟨rfl,trivial⟩ rfl rfl ?_ | refine ACall.chgR 1 [(0,_)] (s2) rfl ⟨rfl,trivial⟩ rfl rfl ?_ | refine ACall.chgR 0 [] h0 rfl trivial rfl rfl ?_ | refine ACall.chgR 3 [(0,_)] l1 rfl ⟨rfl,trivial⟩ rfl rfl ?_ | refine ACall.chgR 3 [(0,_)] l2 rfl ⟨rfl,trivial⟩ rfl rfl ?_ | refine ARet.hdI ?_ | refine Spl.mk (fun _ => ?_) (fun _ => ?_) | refine InA.mk (inB_mk (by omega) (by omega)) ?_ | refine Wr.b64 ?_ | refine Wr.bu64 ?_ | refine Wr.bu32 ?_ | refine Wr.bu8 ?_ | refine Wr.u8 (by omega) (by omega) ?_ | refine Wr.u64 (by omega) (by omega) ?_ | refine Wr.u32 (by omega) (by omega) ?_ | refine Dv.pos (by omega) (by omega) ?_ | refine Rm.pos (by omega) (by omega) ?_ | refine ADraw.quiet follows_ok (by kernel_rfl) rfl ?_ | refine BSpl.decY (by first | assumption | omega) ?_ | refine BSpl.decN (by first | assumption | omega) ?_ | refine BSpl.dec (fun _ => ?_) (fun _ => ?_) | refine BSpl.yes (by assumption) ?_ | refine BSpl.no (by assumption) ?_ | refine BSpl.mk (fun _ => ?_) (fun _ => ?_))
 all_goals (conv => whnf)
 all_goals first
   | exact AEqI.mk (AEq.refl _)
   | exact absurd rfl (by assumption)
end Go.Proofs.YtkkpfjifkjbndaaGreat

/-
 Pasts,as layer 10's statements make them.
-/
namespace Go.Proofs.YtkkpfjifkjbndaaGreat
open Go.RowKit
structure Row (X : List Ev) : Prop where
 nxt : ∀ i,i < X.length → Nxt (onP (eqK (X.getD i default).key) (X.take i)) (X.getD i default)
 may : ∀ i,i < X.length → mayE (X.getD i default) = 0
 pst : ∀ i key,Pst (onP (eqK key) (X.take i)) key
 len : X.length ≤ 50
theorem row_of {W X : List Ev} {H : Nat → Clk} (hI : Inv W H) (ht : TrOk W) (hm : ∀ e ∈ W,mayE e = 0) (hl : W.length ≤ 50) (hX : W.Perm X) (ho : X.Pairwise fun a b => belowB b a = false) : Row X := by
 have hs : ∀ x ∈ X,x ∈ W := fun x hx => hX.mem_iff.2 hx
 have hg : ∀ i,i < X.length → X.getD i default = X.getD i default ∧ X.getD i default ∈ X := fun i hi => ⟨rfl,by rw [List.getD,List.getElem?_eq_getElem hi]; exact List.getElem_mem hi⟩
 refine ⟨fun i hi => ?_,fun i hi => hm _ (hs _ (hg i hi).2),fun i key => hI.pst (fun x hx => hs x (List.mem_of_mem_take hx)) (below_tr hI ht) key,by rw [← hX.length_eq]; exact hl⟩
 refine nxt_of hI ht hs ho (Q := X.drop (i + 1)) ?_
 have h1 : X.getD i default = X[i] := by rw [List.getD,List.getElem?_eq_getElem hi]; rfl
 rw [h1,List.getElem_cons_drop hi,List.take_append_drop]
theorem rng_of {l : List Ch0} (h : ∀ c ∈ l,c.rng) (k : Nat) : ∀ c ∈ l.take k,c.rng := fun c hc => h c (List.mem_of_mem_take hc)
theorem mk_len (l : List Ch0) : (makeL (l.take 40)).length ≤ 40 := by
 have h := (mkB_of (l.take 40)).2.2
 rw [List.length_take] at h
 have h : (makeL (l.take 40)).length ≤ min 40 l.length := h
 omega
theorem row_spread (l : List Ch0) (picks : List UInt8) : Row (sprL picks (makeL (l.take 40))) := by
 have hlt : (l.take 40).length ≤ 40 := by rw [List.length_take]; omega
 have hI := inv_of (l.take 40)
 have hW := mk_len l
 exact row_of hI (tr_of _) (mk_may _ (by omega)) (Nat.le_trans hW (by omega)) (spr_perm hI picks) (spr_ord hI picks)
theorem Row.apply {X : List Ev} (h : Row X) {i : Nat} (hi : i < X.length) :
  MSpec Tryz.prog 13 [(0, .obs (bookO (X.take i) i))] [.box 0 0,(X.getD i default).av] (.v (.int .i64 0)) [(0, .obs (bookO (X.take (i + 1)) (i + 1)))] := by
 have := apply_b (h.nxt i hi) (h.may i hi) (by have := h.len; rw [List.length_take]; omega) i
 rwa [show X.take i ++ [X.getD i default] = X.take (i + 1) by rw [List.take_add_one,List.getD,List.getElem?_eq_getElem hi]; rfl] at this
theorem Row.all {X : List Ev} (h : Row X) (key : ByteArray) : Pst (onP (eqK key) X) key := by
 have := h.pst X.length key
 rwa [List.take_length] at this
end Go.Proofs.YtkkpfjifkjbndaaGreat

/-
 Keys that pasts have.
-/
namespace Go.Proofs.YtkkpfjifkjbndaaGreat
open Go.RowKit
def kA : ByteArray := ⟨#[97,110,110]⟩
def kB : ByteArray := ⟨#[98,111,98]⟩
def kC : ByteArray := ⟨#[99,121]⟩
theorem ks3_is (n : Nat) : ks3 n = kA ∨ ks3 n = kB ∨ ks3 n = kC := by
 unfold ks3
 split
 · exact .inl rfl
 · split
   · exact .inr (.inl rfl)
   · exact .inr (.inr rfl)
theorem fit_key (e : Ed) : (fitEd e).key = kA ∨ (fitEd e).key = kB ∨ (fitEd e).key = kC := by
 unfold fitEd
 split <;> exact ks3_is _
theorem keys_fold : ∀ (l : List Ch0) (s : Mk),(∀ e ∈ s.1,e.key = kA ∨ e.key = kB ∨ e.key = kC) → ∀ e ∈ (l.foldl mkStep s).1,e.key = kA ∨ e.key = kB ∨ e.key = kC
  | [],_,h => h
  | c :: l,s,h => by
   rw [List.foldl_cons]
   refine keys_fold l (mkStep s c) fun e he => ?_
   unfold mkStep at he
   split at he
   · exact h e he
   · rcases List.mem_append.1 he with he | he
     · exact h e he
     · rw [List.mem_singleton.1 he]
       exact fit_key _
theorem mk_keys (l : List Ch0) : ∀ e ∈ makeL l,e.key = kA ∨ e.key = kB ∨ e.key = kC := keys_fold l ([],fun _ => clk0) fun e he => by cases he
end Go.Proofs.YtkkpfjifkjbndaaGreat

/-
 The choices that layer 10's statements take.
-/
namespace Go.Proofs.YtkkpfjifkjbndaaGreat
open Go.RowKit
theorem AEq.slG {s n : Nat} {sc : Bool} {f g : Nat → List AV} (h : ∀ i,i < n → f i = g i) : AEq (.sl s n sc f) (.sl s n sc g) := by
 intro X u hu
 have hu : PC X.w X.keep (.sl s n sc f) u := hu
 show PC X.w X.keep (.sl s n sc g) u
 cases hu with
 | sl _ _ _ _ A c us hs hn hc hl hf hsc hq hr => exact .sl s n sc g A c us hs hn hc hl (fun i hi => by rw [← h i hi]; exact hf i hi) (by rw [← flat_congr h]; exact hsc) (by rw [← flat_congr h]; exact hq) hr
theorem short_spec (l : List Ch0) : ASpec Tryz.prog 11 [.sl 7 l.length true (chF l)] (.sl 7 (l.take 40).length true (chF (l.take 40))) [] := by
 have hn : (if (40 : Int) < (l.length : Int) then (40 : Int) else (l.length : Int)).toNat = (l.take 40).length := by
  rw [List.length_take]
  split <;> omega
 refine aspec_of lay_ok 5 Tryz.func11 rfl rfl rfl ?_
 repeat' ((conv => whnf); first | refine Spl.yes (by first | assumption | omega) ?_ | refine Spl.no (by first | assumption | omega) ?_ | refine Wr.i64 (by omega) (by omega) ?_ | refine Still.mk rfl rfl ?_ | refine InB.mk (inB_mk (by omega) (by omega)) ?_ | refine Req.mk (by omega) ?_ | refine Req.mk ⟨by first | omega | (dsimp only; omega),by first | omega | (dsimp only; omega)⟩ ?_ | refine InB.mk (inB_mk (by split <;> omega) (by split <;> omega)) ?_ | refine ARet.hdI ?_ | refine Spl.mk (fun _ => ?_) (fun _ => ?_) | refine InA.mk (inB_mk (by omega) (by omega)) ?_ | refine Wr.b64 ?_ | refine Wr.bu64 ?_ | refine Wr.bu32 ?_ | refine Wr.bu8 ?_ | refine Wr.u8 (by omega) (by omega) ?_ | refine Wr.u64 (by omega) (by omega) ?_ | refine Wr.u32 (by omega) (by omega) ?_ | refine Dv.pos (by omega) (by omega) ?_ | refine Rm.pos (by omega) (by omega) ?_ | refine ADraw.quiet follows_ok (by kernel_rfl) rfl ?_ | refine BSpl.decY (by first | assumption | omega) ?_ | refine BSpl.decN (by first | assumption | omega) ?_ | refine BSpl.dec (fun _ => ?_) (fun _ => ?_) | refine BSpl.yes (by assumption) ?_ | refine BSpl.no (by assumption) ?_ | refine BSpl.mk (fun _ => ?_) (fun _ => ?_))
 conv => whnf
 refine AEqI.mk ?_
 rw [hn]
 refine AEq.slG fun i hi => ?_
 rw [List.length_take] at hi
 show Ch0.cs _ = Ch0.cs _
 rw [List.getD,List.getD,List.getElem?_take_of_lt (by omega)]
end Go.Proofs.YtkkpfjifkjbndaaGreat

/-
 A row's length,one more.
-/
namespace Go.Proofs.YtkkpfjifkjbndaaGreat
theorem len_app {α : Type} {l : List α} {x : α} : l.length + 1 = (l ++ [x]).length := by rw [List.length_append,List.length_singleton]
end Go.Proofs.YtkkpfjifkjbndaaGreat

/-
 The reference's clocks: kithref03.LessEq.
-/
namespace Go.Proofs.YtkkpfjifkjbndaaGreat
open Go.RowKit
set_option maxRecDepth 100000 in
theorem lessEq_spec (a b : Clk) : ASpec Tryz.prog 25 [a.av,b.av] (.v (.bool (a.le b))) [] := by
 dsimp only [Clk.av]
 refine aspec_of lay_ok 65727 Tryz.func25 rfl rfl rfl ?_
 repeat' ((conv => whnf); first | refine Spl.yes (by first | assumption | omega) ?_ | refine Spl.no (by first | assumption | omega) ?_ | refine Wr.i64 (by omega) (by omega) ?_ | refine Still.mk rfl rfl ?_ | refine InB.mk (inB_mk (by omega) (by omega)) ?_ | refine Req.mk (by omega) ?_ | refine Req.mk ⟨by first | omega | (dsimp only; omega),by first | omega | (dsimp only; omega)⟩ ?_ | refine ALoop.unr 5 6 rfl ?_ | refine ARet.hdI ?_ | refine Spl.mk (fun _ => ?_) (fun _ => ?_) | refine InA.mk (inB_mk (by omega) (by omega)) ?_ | refine Wr.b64 ?_ | refine Wr.bu64 ?_ | refine Wr.bu32 ?_ | refine Wr.bu8 ?_ | refine Wr.u8 (by omega) (by omega) ?_ | refine Wr.u64 (by omega) (by omega) ?_ | refine Wr.u32 (by omega) (by omega) ?_ | refine Dv.pos (by omega) (by omega) ?_ | refine Rm.pos (by omega) (by omega) ?_ | refine ADraw.quiet follows_ok (by kernel_rfl) rfl ?_ | refine BSpl.decY (by first | assumption | omega) ?_ | refine BSpl.decN (by first | assumption | omega) ?_ | refine BSpl.dec (fun _ => ?_) (fun _ => ?_) | refine BSpl.yes (by assumption) ?_ | refine BSpl.no (by assumption) ?_ | refine BSpl.mk (fun _ => ?_) (fun _ => ?_))
 all_goals (conv => whnf)
 all_goals (refine AEqI.mk (AEq.of ?_))
 all_goals (unfold Clk.le; congr 2; simp; try omega)
end Go.Proofs.YtkkpfjifkjbndaaGreat
