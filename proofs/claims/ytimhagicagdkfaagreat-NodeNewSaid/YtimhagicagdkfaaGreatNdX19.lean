/-
  Contracts of the walk: LvD, LvE, Ay, LvF, LvI, LvH, LvG, LvP, TxL.
-/
import Derived.Test.YtimhagicagdkfaaGreatNdX18
import Derived.Test.YtimhagicagdkfaaGreatNdX6
import Derived.Test.YtimhagicagdkfaaGreatNdX16
import Derived.Test.YtimhagicagdkfaaGreatNdX9
/-
 live.without with a function that takes nothing along.
-/
namespace Go.Proofs.YtimhagicagdkfaaGreat
open Go.RowKit
set_option maxHeartbeats 4000000 in
set_option maxRecDepth 100000 in
theorem withoutA_own (g : FuncId) (same : Ev → Bool) (kind : Int) (e : Ev) (hs : ∀ a,ASpec Tryz.prog g [a.av] (.v (.bool (same a))) [])
  (l : List Ev) (r : Ev) (rs : List Ev) (hr : l.filter (woutP kind same e) = r :: rs) (hl : l.length ≤ 1000000000) :
  MSpec Tryz.prog 159 [(0,evR l)] [.own 0,e.av, .v (.int .i64 kind), .fn g []] (.own 1) [(1, .row 42 12 (rs.length + 1) true (evF (r :: rs)))] := by
 dsimp only [Ev.av,Ev.cs]
 refine K1.M 0x20000fb2f Tryz.func159 10 ?_
 repeat' ((conv => whnf); first | refine K1.w ?_ | refine K1.u ?_ | refine ARet.hdI ?_ | refine K1.z ?_ | refine K1.y (fun _ => ?_) (fun _ => ?_) | fail)
 conv => whnf
 refine ALoop.frz 0 rfl ?_
 refine ALoop.mk (Took (woutP kind same e) l) (fun x => match x with
   | ⟨(j,[]),_⟩ => ⟨[(0, .sl 12 l.length true (evF l)),(2, .v (.int .i64 kind)),(3, .fn g []),(5, .box 10 0),(9, .v (.slice none 0 0)),(12, .sl 12 l.length true (evF l)),(13, .v (.int .i64 (l.length : Int))),(14, .v (.int .i64 (j : Int)))],[(10, .box 42 e.cs)],[[(0, .sl 12 l.length true (evF l))]],11⟩
   | ⟨(j,y :: ys),_⟩ => ⟨[(0, .sl 12 l.length true (evF l)),(2, .v (.int .i64 kind)),(3, .fn g []),(5, .box 10 0),(9, .own 90),(12, .sl 12 l.length true (evF l)),(13, .v (.int .i64 (l.length : Int))),(14, .v (.int .i64 (j : Int)))],[(10, .box 42 e.cs),(90, .row 42 12 (ys.length + 1) true (evF (y :: ys)))],[[(0, .sl 12 l.length true (evF l))]],91⟩) (fun x => l.length - x.1.1) ⟨(0,[]),Nat.zero_le _,rfl⟩ _
   (LeR.mk' [] _ _ _ rfl ⟨AEq.refl _,AEq.refl _,AEq.refl _,AEq.refl _,AEq.refl _,AEq.refl _,AEq.int rfl,AEq.int rfl,trivial⟩ ⟨⟨_,rfl,OEq.refl _⟩,trivial⟩ rfl) ?_
 rintro ⟨⟨j,ys⟩,hj,hys⟩
 dsimp only at hj hys
 rcases ys with _ | ⟨y,ys⟩
 · dsimp only
   by_cases hjl : j < l.length
   · have hab := hs (l.getD (j : Int).toNat default)
     have hbb := below_spec (l.getD (j : Int).toNat default) e
     have hft := filter_take (p := woutP kind same e) hjl
     rw [← hys,List.nil_append] at hft
     rw [show l.getD j default = l.getD (j : Int).toNat default from rfl] at hft
     have hk : ¬ (l.getD (j : Int).toNat default).k = kind → [l.getD j default] = (l.take (j + 1)).filter (woutP kind same e) := fun h => by rw [hft,wout_k h]; rfl
     have hsm : same (l.getD (j : Int).toNat default) = false → [l.getD j default] = (l.take (j + 1)).filter (woutP kind same e) := fun h => by rw [hft,wout_s h]; rfl
     have hbl : belowB (l.getD (j : Int).toNat default) e = false → [l.getD j default] = (l.take (j + 1)).filter (woutP kind same e) := fun h => by rw [hft,wout_b h]; rfl
     have hno : (l.getD (j : Int).toNat default).k = kind → same (l.getD (j : Int).toNat default) = true → belowB (l.getD (j : Int).toNat default) e = true → [] = (l.take (j + 1)).filter (woutP kind same e) := fun h h1 h2 => by rw [hft,wout_n h h1 h2]; simp
     clear hft
     generalize same (l.getD (j : Int).toNat default) = q1 at hab hsm hno
     generalize belowB (l.getD (j : Int).toNat default) e = q2 at hbb hbl hno
     dsimp only [Ev.av,Ev.cs] at hab hbb ⊢
     repeat' ((conv => whnf); first | refine K1.w ?_ | refine K1.u ?_ | refine K1.P1 (hab) rfl ?_ | refine K1.P1 (hbb) rfl ?_ | refine ARet.hdI ?_ | refine K1.z ?_ | refine K1.y (fun _ => ?_) (fun _ => ?_) | fail)
     all_goals (conv => whnf)
     all_goals first
       | exact ⟨⟨(j + 1,[]),hjl,hno (by assumption) (by assumption) (by assumption)⟩,_,LeR.mk' [] _ _ _ rfl ⟨AEq.refl _,AEq.refl _,AEq.refl _,AEq.refl _,AEq.refl _,AEq.refl _,AEq.int rfl,AEq.int rfl,trivial⟩ ⟨⟨_,rfl,OEq.refl _⟩,trivial⟩ rfl,by show l.length - (j + 1) < l.length - j; omega⟩
       | (refine ⟨⟨(j + 1,[l.getD j default]),hjl,by first | exact hk (by assumption) | exact hsm (by assumption) | exact hbl (by assumption)⟩,_,LeR.mk' [(12,90)] _ _ _ rfl ⟨AEq.refl _,AEq.refl _,AEq.refl _,AEq.refl _,AEq.refl _,AEq.refl _,AEq.int rfl,AEq.int rfl,trivial⟩ ⟨⟨_,rfl,OEq.refl _⟩,⟨_,rfl,OEq.row rfl (fun m hm => ?_)⟩,trivial⟩ rfl,by show l.length - (j + 1) < l.length - j; omega⟩
          have hm : m < 1 := hm
          obtain rfl : m = 0 := by omega
          rfl)
       | (refine ⟨⟨(j + 1,[l.getD j default]),hjl,by first | exact hk (by assumption) | exact hsm (by assumption) | exact hbl (by assumption)⟩,_,LeR.mk' [(13,90)] _ _ _ rfl ⟨AEq.refl _,AEq.refl _,AEq.refl _,AEq.refl _,AEq.refl _,AEq.refl _,AEq.int rfl,AEq.int rfl,trivial⟩ ⟨⟨_,rfl,OEq.refl _⟩,⟨_,rfl,OEq.row rfl (fun m hm => ?_)⟩,trivial⟩ rfl,by show l.length - (j + 1) < l.length - j; omega⟩
          have hm : m < 1 := hm
          obtain rfl : m = 0 := by omega
          rfl)
       | (refine ⟨⟨(j + 1,[l.getD j default]),hjl,by first | exact hk (by assumption) | exact hsm (by assumption) | exact hbl (by assumption)⟩,_,LeR.mk' [(14,90)] _ _ _ rfl ⟨AEq.refl _,AEq.refl _,AEq.refl _,AEq.refl _,AEq.refl _,AEq.refl _,AEq.int rfl,AEq.int rfl,trivial⟩ ⟨⟨_,rfl,OEq.refl _⟩,⟨_,rfl,OEq.row rfl (fun m hm => ?_)⟩,trivial⟩ rfl,by show l.length - (j + 1) < l.length - j; omega⟩
          have hm : m < 1 := hm
          obtain rfl : m = 0 := by omega
          rfl)
       | (refine ⟨⟨(j + 1,[l.getD j default]),hjl,by first | exact hk (by assumption) | exact hsm (by assumption) | exact hbl (by assumption)⟩,_,LeR.mk' [(15,90)] _ _ _ rfl ⟨AEq.refl _,AEq.refl _,AEq.refl _,AEq.refl _,AEq.refl _,AEq.refl _,AEq.int rfl,AEq.int rfl,trivial⟩ ⟨⟨_,rfl,OEq.refl _⟩,⟨_,rfl,OEq.row rfl (fun m hm => ?_)⟩,trivial⟩ rfl,by show l.length - (j + 1) < l.length - j; omega⟩
          have hm : m < 1 := hm
          obtain rfl : m = 0 := by omega
          rfl)
   · have e0 : l.filter (woutP kind same e) = [] := by rw [List.take_of_length_le (by omega)] at hys; exact hys.symm
     rw [hr] at e0
     cases e0
 · dsimp only
   have hyl : ys.length + 1 ≤ j := by
    have h1 := congrArg List.length hys
    have h2 := List.length_filter_le (woutP kind same e) (l.take j)
    rw [List.length_take] at h2
    rw [List.length_cons] at h1
    omega
   by_cases hjl : j < l.length
   · have hab := hs (l.getD (j : Int).toNat default)
     have hbb := below_spec (l.getD (j : Int).toNat default) e
     have hft := filter_take (p := woutP kind same e) hjl
     rw [← hys] at hft
     rw [show l.getD j default = l.getD (j : Int).toNat default from rfl] at hft
     have hk : ¬ (l.getD (j : Int).toNat default).k = kind → y :: (ys ++ [l.getD j default]) = (l.take (j + 1)).filter (woutP kind same e) := fun h => by rw [hft,wout_k h]; rfl
     have hsm : same (l.getD (j : Int).toNat default) = false → y :: (ys ++ [l.getD j default]) = (l.take (j + 1)).filter (woutP kind same e) := fun h => by rw [hft,wout_s h]; rfl
     have hbl : belowB (l.getD (j : Int).toNat default) e = false → y :: (ys ++ [l.getD j default]) = (l.take (j + 1)).filter (woutP kind same e) := fun h => by rw [hft,wout_b h]; rfl
     have hno : (l.getD (j : Int).toNat default).k = kind → same (l.getD (j : Int).toNat default) = true → belowB (l.getD (j : Int).toNat default) e = true → y :: ys = (l.take (j + 1)).filter (woutP kind same e) := fun h h1 h2 => by rw [hft,wout_n h h1 h2]; simp
     clear hft
     generalize same (l.getD (j : Int).toNat default) = q1 at hab hsm hno
     generalize belowB (l.getD (j : Int).toNat default) e = q2 at hbb hbl hno
     dsimp only [Ev.av,Ev.cs] at hab hbb ⊢
     repeat' ((conv => whnf); first | refine K1.w ?_ | refine K1.u ?_ | refine K1.P1 (hab) rfl ?_ | refine K1.P1 (hbb) rfl ?_ | refine ARet.hdI ?_ | refine K1.z ?_ | refine K1.y (fun _ => ?_) (fun _ => ?_) | fail)
     all_goals (conv => whnf)
     all_goals first
       | exact ⟨⟨(j + 1,y :: ys),hjl,hno (by assumption) (by assumption) (by assumption)⟩,_,LeR.mk' [] _ _ _ rfl ⟨AEq.refl _,AEq.refl _,AEq.refl _,AEq.refl _,AEq.refl _,AEq.refl _,AEq.int rfl,AEq.int rfl,trivial⟩ ⟨⟨_,rfl,OEq.refl _⟩,⟨_,rfl,OEq.refl _⟩,trivial⟩ rfl,by show l.length - (j + 1) < l.length - j; omega⟩
       | (refine ⟨⟨(j + 1,y :: (ys ++ [l.getD j default])),hjl,by first | exact hk (by assumption) | exact hsm (by assumption) | exact hbl (by assumption)⟩,_,LeR.mk' [(92,90)] _ _ _ rfl ⟨AEq.refl _,AEq.refl _,AEq.refl _,AEq.refl _,AEq.refl _,AEq.refl _,AEq.int rfl,AEq.int rfl,trivial⟩ ⟨⟨_,rfl,OEq.refl _⟩,⟨_,rfl,OEq.row (by simp) (fun m hm => ?_)⟩,trivial⟩ rfl,by show l.length - (j + 1) < l.length - j; omega⟩
          exact els_app1 (c := Ev.cs) (l := y :: ys) rfl rfl m hm)
       | (refine ⟨⟨(j + 1,y :: (ys ++ [l.getD j default])),hjl,by first | exact hk (by assumption) | exact hsm (by assumption) | exact hbl (by assumption)⟩,_,LeR.mk' [(93,90)] _ _ _ rfl ⟨AEq.refl _,AEq.refl _,AEq.refl _,AEq.refl _,AEq.refl _,AEq.refl _,AEq.int rfl,AEq.int rfl,trivial⟩ ⟨⟨_,rfl,OEq.refl _⟩,⟨_,rfl,OEq.row (by simp) (fun m hm => ?_)⟩,trivial⟩ rfl,by show l.length - (j + 1) < l.length - j; omega⟩
          exact els_app1 (c := Ev.cs) (l := y :: ys) rfl rfl m hm)
       | (refine ⟨⟨(j + 1,y :: (ys ++ [l.getD j default])),hjl,by first | exact hk (by assumption) | exact hsm (by assumption) | exact hbl (by assumption)⟩,_,LeR.mk' [(94,90)] _ _ _ rfl ⟨AEq.refl _,AEq.refl _,AEq.refl _,AEq.refl _,AEq.refl _,AEq.refl _,AEq.int rfl,AEq.int rfl,trivial⟩ ⟨⟨_,rfl,OEq.refl _⟩,⟨_,rfl,OEq.row (by simp) (fun m hm => ?_)⟩,trivial⟩ rfl,by show l.length - (j + 1) < l.length - j; omega⟩
          exact els_app1 (c := Ev.cs) (l := y :: ys) rfl rfl m hm)
       | (refine ⟨⟨(j + 1,y :: (ys ++ [l.getD j default])),hjl,by first | exact hk (by assumption) | exact hsm (by assumption) | exact hbl (by assumption)⟩,_,LeR.mk' [(95,90)] _ _ _ rfl ⟨AEq.refl _,AEq.refl _,AEq.refl _,AEq.refl _,AEq.refl _,AEq.refl _,AEq.int rfl,AEq.int rfl,trivial⟩ ⟨⟨_,rfl,OEq.refl _⟩,⟨_,rfl,OEq.row (by simp) (fun m hm => ?_)⟩,trivial⟩ rfl,by show l.length - (j + 1) < l.length - j; omega⟩
          exact els_app1 (c := Ev.cs) (l := y :: ys) rfl rfl m hm)
   · have e0 : l.filter (woutP kind same e) = y :: ys := by rw [List.take_of_length_le (by omega)] at hys; exact hys.symm
     rw [hr] at e0
     cases e0
     repeat' ((conv => whnf); first | refine K1.w ?_ | refine K1.u ?_ | refine ARet.hdI ?_ | refine K1.z ?_ | refine K1.y (fun _ => ?_) (fun _ => ?_) | fail)
     conv => whnf
     exact ⟨[(90,1)],rfl,rfl,⟨⟨_,rfl,OEq.refl _⟩,trivial⟩,rfl,rfl,AEq.refl _⟩
set_option maxHeartbeats 4000000 in
set_option maxRecDepth 100000 in
theorem withoutA_nil (g : FuncId) (same : Ev → Bool) (kind : Int) (e : Ev) (hs : ∀ a,ASpec Tryz.prog g [a.av] (.v (.bool (same a))) [])
  (l : List Ev) (hr : l.filter (woutP kind same e) = []) (hl : l.length ≤ 1000000000) :
  MSpec Tryz.prog 159 [(0,evR l)] [.own 0,e.av, .v (.int .i64 kind), .fn g []] (.v (.slice none 0 0)) [] := by
 dsimp only [Ev.av,Ev.cs]
 refine K1.M 0x20000fb2f Tryz.func159 10 ?_
 repeat' ((conv => whnf); first | refine K1.w ?_ | refine K1.u ?_ | refine ARet.hdI ?_ | refine K1.z ?_ | refine K1.y (fun _ => ?_) (fun _ => ?_) | fail)
 conv => whnf
 refine ALoop.frz 0 rfl ?_
 refine ALoop.mk (Took (woutP kind same e) l) (fun x => match x with
   | ⟨(j,[]),_⟩ => ⟨[(0, .sl 12 l.length true (evF l)),(2, .v (.int .i64 kind)),(3, .fn g []),(5, .box 10 0),(9, .v (.slice none 0 0)),(12, .sl 12 l.length true (evF l)),(13, .v (.int .i64 (l.length : Int))),(14, .v (.int .i64 (j : Int)))],[(10, .box 42 e.cs)],[[(0, .sl 12 l.length true (evF l))]],11⟩
   | ⟨(j,y :: ys),_⟩ => ⟨[(0, .sl 12 l.length true (evF l)),(2, .v (.int .i64 kind)),(3, .fn g []),(5, .box 10 0),(9, .own 90),(12, .sl 12 l.length true (evF l)),(13, .v (.int .i64 (l.length : Int))),(14, .v (.int .i64 (j : Int)))],[(10, .box 42 e.cs),(90, .row 42 12 (ys.length + 1) true (evF (y :: ys)))],[[(0, .sl 12 l.length true (evF l))]],91⟩) (fun x => l.length - x.1.1) ⟨(0,[]),Nat.zero_le _,rfl⟩ _
   (LeR.mk' [] _ _ _ rfl ⟨AEq.refl _,AEq.refl _,AEq.refl _,AEq.refl _,AEq.refl _,AEq.refl _,AEq.int rfl,AEq.int rfl,trivial⟩ ⟨⟨_,rfl,OEq.refl _⟩,trivial⟩ rfl) ?_
 rintro ⟨⟨j,ys⟩,hj,hys⟩
 dsimp only at hj hys
 rcases ys with _ | ⟨y,ys⟩
 · dsimp only
   by_cases hjl : j < l.length
   · have hab := hs (l.getD (j : Int).toNat default)
     have hbb := below_spec (l.getD (j : Int).toNat default) e
     have hft := filter_take (p := woutP kind same e) hjl
     rw [← hys,List.nil_append] at hft
     rw [show l.getD j default = l.getD (j : Int).toNat default from rfl] at hft
     have hk : ¬ (l.getD (j : Int).toNat default).k = kind → [l.getD j default] = (l.take (j + 1)).filter (woutP kind same e) := fun h => by rw [hft,wout_k h]; rfl
     have hsm : same (l.getD (j : Int).toNat default) = false → [l.getD j default] = (l.take (j + 1)).filter (woutP kind same e) := fun h => by rw [hft,wout_s h]; rfl
     have hbl : belowB (l.getD (j : Int).toNat default) e = false → [l.getD j default] = (l.take (j + 1)).filter (woutP kind same e) := fun h => by rw [hft,wout_b h]; rfl
     have hno : (l.getD (j : Int).toNat default).k = kind → same (l.getD (j : Int).toNat default) = true → belowB (l.getD (j : Int).toNat default) e = true → [] = (l.take (j + 1)).filter (woutP kind same e) := fun h h1 h2 => by rw [hft,wout_n h h1 h2]; simp
     clear hft
     generalize same (l.getD (j : Int).toNat default) = q1 at hab hsm hno
     generalize belowB (l.getD (j : Int).toNat default) e = q2 at hbb hbl hno
     dsimp only [Ev.av,Ev.cs] at hab hbb ⊢
     repeat' ((conv => whnf); first | refine K1.w ?_ | refine K1.u ?_ | refine K1.P1 (hab) rfl ?_ | refine K1.P1 (hbb) rfl ?_ | refine ARet.hdI ?_ | refine K1.z ?_ | refine K1.y (fun _ => ?_) (fun _ => ?_) | fail)
     all_goals (conv => whnf)
     all_goals first
       | exact ⟨⟨(j + 1,[]),hjl,hno (by assumption) (by assumption) (by assumption)⟩,_,LeR.mk' [] _ _ _ rfl ⟨AEq.refl _,AEq.refl _,AEq.refl _,AEq.refl _,AEq.refl _,AEq.refl _,AEq.int rfl,AEq.int rfl,trivial⟩ ⟨⟨_,rfl,OEq.refl _⟩,trivial⟩ rfl,by show l.length - (j + 1) < l.length - j; omega⟩
       | (refine ⟨⟨(j + 1,[l.getD j default]),hjl,by first | exact hk (by assumption) | exact hsm (by assumption) | exact hbl (by assumption)⟩,_,LeR.mk' [(12,90)] _ _ _ rfl ⟨AEq.refl _,AEq.refl _,AEq.refl _,AEq.refl _,AEq.refl _,AEq.refl _,AEq.int rfl,AEq.int rfl,trivial⟩ ⟨⟨_,rfl,OEq.refl _⟩,⟨_,rfl,OEq.row rfl (fun m hm => ?_)⟩,trivial⟩ rfl,by show l.length - (j + 1) < l.length - j; omega⟩
          have hm : m < 1 := hm
          obtain rfl : m = 0 := by omega
          rfl)
       | (refine ⟨⟨(j + 1,[l.getD j default]),hjl,by first | exact hk (by assumption) | exact hsm (by assumption) | exact hbl (by assumption)⟩,_,LeR.mk' [(13,90)] _ _ _ rfl ⟨AEq.refl _,AEq.refl _,AEq.refl _,AEq.refl _,AEq.refl _,AEq.refl _,AEq.int rfl,AEq.int rfl,trivial⟩ ⟨⟨_,rfl,OEq.refl _⟩,⟨_,rfl,OEq.row rfl (fun m hm => ?_)⟩,trivial⟩ rfl,by show l.length - (j + 1) < l.length - j; omega⟩
          have hm : m < 1 := hm
          obtain rfl : m = 0 := by omega
          rfl)
       | (refine ⟨⟨(j + 1,[l.getD j default]),hjl,by first | exact hk (by assumption) | exact hsm (by assumption) | exact hbl (by assumption)⟩,_,LeR.mk' [(14,90)] _ _ _ rfl ⟨AEq.refl _,AEq.refl _,AEq.refl _,AEq.refl _,AEq.refl _,AEq.refl _,AEq.int rfl,AEq.int rfl,trivial⟩ ⟨⟨_,rfl,OEq.refl _⟩,⟨_,rfl,OEq.row rfl (fun m hm => ?_)⟩,trivial⟩ rfl,by show l.length - (j + 1) < l.length - j; omega⟩
          have hm : m < 1 := hm
          obtain rfl : m = 0 := by omega
          rfl)
       | (refine ⟨⟨(j + 1,[l.getD j default]),hjl,by first | exact hk (by assumption) | exact hsm (by assumption) | exact hbl (by assumption)⟩,_,LeR.mk' [(15,90)] _ _ _ rfl ⟨AEq.refl _,AEq.refl _,AEq.refl _,AEq.refl _,AEq.refl _,AEq.refl _,AEq.int rfl,AEq.int rfl,trivial⟩ ⟨⟨_,rfl,OEq.refl _⟩,⟨_,rfl,OEq.row rfl (fun m hm => ?_)⟩,trivial⟩ rfl,by show l.length - (j + 1) < l.length - j; omega⟩
          have hm : m < 1 := hm
          obtain rfl : m = 0 := by omega
          rfl)
   · repeat' ((conv => whnf); first | refine K1.w ?_ | refine K1.u ?_ | refine ARet.hdI ?_ | refine K1.z ?_ | refine K1.y (fun _ => ?_) (fun _ => ?_) | fail)
     conv => whnf
     exact ⟨[],rfl,rfl,trivial,rfl,rfl,AEq.refl _⟩
 · dsimp only
   have hyl : ys.length + 1 ≤ j := by
    have h1 := congrArg List.length hys
    have h2 := List.length_filter_le (woutP kind same e) (l.take j)
    rw [List.length_take] at h2
    rw [List.length_cons] at h1
    omega
   by_cases hjl : j < l.length
   · have hab := hs (l.getD (j : Int).toNat default)
     have hbb := below_spec (l.getD (j : Int).toNat default) e
     have hft := filter_take (p := woutP kind same e) hjl
     rw [← hys] at hft
     rw [show l.getD j default = l.getD (j : Int).toNat default from rfl] at hft
     have hk : ¬ (l.getD (j : Int).toNat default).k = kind → y :: (ys ++ [l.getD j default]) = (l.take (j + 1)).filter (woutP kind same e) := fun h => by rw [hft,wout_k h]; rfl
     have hsm : same (l.getD (j : Int).toNat default) = false → y :: (ys ++ [l.getD j default]) = (l.take (j + 1)).filter (woutP kind same e) := fun h => by rw [hft,wout_s h]; rfl
     have hbl : belowB (l.getD (j : Int).toNat default) e = false → y :: (ys ++ [l.getD j default]) = (l.take (j + 1)).filter (woutP kind same e) := fun h => by rw [hft,wout_b h]; rfl
     have hno : (l.getD (j : Int).toNat default).k = kind → same (l.getD (j : Int).toNat default) = true → belowB (l.getD (j : Int).toNat default) e = true → y :: ys = (l.take (j + 1)).filter (woutP kind same e) := fun h h1 h2 => by rw [hft,wout_n h h1 h2]; simp
     clear hft
     generalize same (l.getD (j : Int).toNat default) = q1 at hab hsm hno
     generalize belowB (l.getD (j : Int).toNat default) e = q2 at hbb hbl hno
     dsimp only [Ev.av,Ev.cs] at hab hbb ⊢
     repeat' ((conv => whnf); first | refine K1.w ?_ | refine K1.u ?_ | refine K1.P1 (hab) rfl ?_ | refine K1.P1 (hbb) rfl ?_ | refine ARet.hdI ?_ | refine K1.z ?_ | refine K1.y (fun _ => ?_) (fun _ => ?_) | fail)
     all_goals (conv => whnf)
     all_goals first
       | exact ⟨⟨(j + 1,y :: ys),hjl,hno (by assumption) (by assumption) (by assumption)⟩,_,LeR.mk' [] _ _ _ rfl ⟨AEq.refl _,AEq.refl _,AEq.refl _,AEq.refl _,AEq.refl _,AEq.refl _,AEq.int rfl,AEq.int rfl,trivial⟩ ⟨⟨_,rfl,OEq.refl _⟩,⟨_,rfl,OEq.refl _⟩,trivial⟩ rfl,by show l.length - (j + 1) < l.length - j; omega⟩
       | (refine ⟨⟨(j + 1,y :: (ys ++ [l.getD j default])),hjl,by first | exact hk (by assumption) | exact hsm (by assumption) | exact hbl (by assumption)⟩,_,LeR.mk' [(92,90)] _ _ _ rfl ⟨AEq.refl _,AEq.refl _,AEq.refl _,AEq.refl _,AEq.refl _,AEq.refl _,AEq.int rfl,AEq.int rfl,trivial⟩ ⟨⟨_,rfl,OEq.refl _⟩,⟨_,rfl,OEq.row (by simp) (fun m hm => ?_)⟩,trivial⟩ rfl,by show l.length - (j + 1) < l.length - j; omega⟩
          exact els_app1 (c := Ev.cs) (l := y :: ys) rfl rfl m hm)
       | (refine ⟨⟨(j + 1,y :: (ys ++ [l.getD j default])),hjl,by first | exact hk (by assumption) | exact hsm (by assumption) | exact hbl (by assumption)⟩,_,LeR.mk' [(93,90)] _ _ _ rfl ⟨AEq.refl _,AEq.refl _,AEq.refl _,AEq.refl _,AEq.refl _,AEq.refl _,AEq.int rfl,AEq.int rfl,trivial⟩ ⟨⟨_,rfl,OEq.refl _⟩,⟨_,rfl,OEq.row (by simp) (fun m hm => ?_)⟩,trivial⟩ rfl,by show l.length - (j + 1) < l.length - j; omega⟩
          exact els_app1 (c := Ev.cs) (l := y :: ys) rfl rfl m hm)
       | (refine ⟨⟨(j + 1,y :: (ys ++ [l.getD j default])),hjl,by first | exact hk (by assumption) | exact hsm (by assumption) | exact hbl (by assumption)⟩,_,LeR.mk' [(94,90)] _ _ _ rfl ⟨AEq.refl _,AEq.refl _,AEq.refl _,AEq.refl _,AEq.refl _,AEq.refl _,AEq.int rfl,AEq.int rfl,trivial⟩ ⟨⟨_,rfl,OEq.refl _⟩,⟨_,rfl,OEq.row (by simp) (fun m hm => ?_)⟩,trivial⟩ rfl,by show l.length - (j + 1) < l.length - j; omega⟩
          exact els_app1 (c := Ev.cs) (l := y :: ys) rfl rfl m hm)
       | (refine ⟨⟨(j + 1,y :: (ys ++ [l.getD j default])),hjl,by first | exact hk (by assumption) | exact hsm (by assumption) | exact hbl (by assumption)⟩,_,LeR.mk' [(95,90)] _ _ _ rfl ⟨AEq.refl _,AEq.refl _,AEq.refl _,AEq.refl _,AEq.refl _,AEq.refl _,AEq.int rfl,AEq.int rfl,trivial⟩ ⟨⟨_,rfl,OEq.refl _⟩,⟨_,rfl,OEq.row (by simp) (fun m hm => ?_)⟩,trivial⟩ rfl,by show l.length - (j + 1) < l.length - j; omega⟩
          exact els_app1 (c := Ev.cs) (l := y :: ys) rfl rfl m hm)
   · have e0 : l.filter (woutP kind same e) = y :: ys := by rw [List.take_of_length_le (by omega)] at hys; exact hys.symm
     rw [hr] at e0
     cases e0
theorem all_lv (a : Ev) : ASpec Tryz.prog 160 [a.av] (.v (.bool true)) [] := by
 dsimp only [Ev.av,Ev.cs]
 refine K1.E 0x5 Tryz.func160 ?_
 repeat' ((conv => whnf); first | refine K1.w ?_ | refine K1.u ?_ | refine ARet.hdI ?_ | refine K1.z ?_ | refine K1.y (fun _ => ?_) (fun _ => ?_) | fail)
 conv => whnf
 exact AEqI.mk (AEq.refl _)
theorem label_m (e a : Ev) : MSpec Tryz.prog 162 [(0, .box 42 e.cs)] [a.av, .box 0 0] (.v (.bool (decide (a.l = e.l)))) [(0, .box 42 e.cs)] := by
 dsimp only [Ev.av,Ev.cs]
 refine K1.M 0xf Tryz.func162 10 ?_
 repeat' ((conv => whnf); first | refine K1.w ?_ | refine K1.u ?_ | refine K1.z ?_ | refine K1.y (fun _ => ?_) (fun _ => ?_) | fail)
 all_goals (conv => whnf)
 all_goals refine ⟨[],rfl,rfl,⟨⟨_,rfl,OEq.refl _⟩,trivial⟩,rfl,rfl,?_⟩
 · rw [decide_eq_true (by assumption)]; exact AEq.refl _
 · rw [decide_eq_false (by assumption)]; exact AEq.refl _
theorem value_m (e a : Ev) : MSpec Tryz.prog 163 [(0, .box 42 e.cs)] [a.av, .box 0 0] (.v (.bool (decide (a.l = e.l) && decide (a.v = e.v)))) [(0, .box 42 e.cs)] := by
 dsimp only [Ev.av,Ev.cs]
 refine K1.M 0xf Tryz.func163 10 ?_
 repeat' ((conv => whnf); first | refine K1.w ?_ | refine K1.u ?_ | refine K1.z ?_ | refine K1.y (fun _ => ?_) (fun _ => ?_) | fail)
 all_goals (conv => whnf)
 all_goals refine ⟨[],rfl,rfl,⟨⟨_,rfl,OEq.refl _⟩,trivial⟩,rfl,rfl,?_⟩
 all_goals first
   | (rw [show (decide (a.l = e.l) && decide (a.v = e.v)) = true by simp [*]]; exact AEq.refl _)
   | (rw [show (decide (a.l = e.l) && decide (a.v = e.v)) = false by simp [*]]; exact AEq.refl _)
end Go.Proofs.YtimhagicagdkfaaGreat

/-
 live.with: what is kept of a key once an event is applied.
-/
namespace Go.Proofs.YtimhagicagdkfaaGreat
open Go.RowKit
set_option maxHeartbeats 4000000 in
set_option maxRecDepth 100000 in
theorem with_1 (l : List Ev) (e : Ev) (hk : e.k = 1) (hl : l.length ≤ 1000000000) :
  MSpec Tryz.prog 132 [(0,evR l)] [.own 0,e.av] (.own 1) [(1,evR (l ++ [e]))] := by
 obtain ⟨er,en,ec,eh,ek,ekey,el,ev⟩ := e
 dsimp only at hk
 subst hk
 dsimp only [Ev.av,Ev.cs]
 refine K1.M 0x2020021041bb Tryz.func132 10 ?_
 repeat' ((conv => whnf); first | refine K1.w ?_ | refine K1.u ?_ | refine K1.z ?_ | refine K1.y (fun _ => ?_) (fun _ => ?_) | fail)
 conv => whnf
 refine ⟨[(12,1)],rfl,rfl,⟨⟨_,rfl,OEq.row (by simp) (fun m hm => ?_)⟩,trivial⟩,rfl,rfl,AEq.refl _⟩
 exact els_app1 (c := Ev.cs) (l := l) rfl rfl m hm
set_option maxHeartbeats 4000000 in
set_option maxRecDepth 100000 in
theorem with_3no (l : List Ev) (e : Ev) (hk : e.k = 3) (hc : l.any (crP e) = false) (hl : l.length ≤ 1000000000) :
  MSpec Tryz.prog 132 [(0,evR l)] [.own 0,e.av] (.own 0) [(0,evR l)] := by
 have hcr := created_spec l e (by omega)
 rw [hc] at hcr
 dsimp only [Ev.av,Ev.cs] at hcr ⊢
 refine K1.M 0x2020021041bb Tryz.func132 10 ?_
 repeat' ((conv => whnf); first | refine K1.w ?_ | refine K1.u ?_ | refine K1.P1 (hcr) rfl ?_ | refine K1.z ?_ | refine K1.y (fun _ => ?_) (fun _ => ?_) | fail)
 all_goals (conv => whnf)
 exact ⟨[],rfl,rfl,⟨⟨_,rfl,OEq.refl _⟩,trivial⟩,rfl,rfl,AEq.refl _⟩
end Go.Proofs.YtimhagicagdkfaaGreat

/-
 Drawn regions that act,without a schedule: all orders step by step (ADraw.cutI,AAnyI).
-/
namespace Go.Proofs.YtimhagicagdkfaaGreat
open Go.RowKit
section
variable {P : Program} {L : Lay} {N : Nat} {st : AS}
theorem ofL_filtK (lv : Nat) : ∀ (l : List (Nat × AV)) (t : Nat),ofL (filt lv l) t = if bitB lv t = true then ofL l t else .junk
  | [],t => by simp [filt,ofL]
  | (k,v) :: l,t => by
    have ih := ofL_filtK lv l t
    simp only [filt]
    cases hk : bitB lv k with
    | true =>
      simp only [cond_true,ofL]
      cases hb : Nat.beq t k with
      | true => rw [Nat.eq_of_beq_eq_true hb,hk]; simp
      | false => simpa using ih
    | false =>
      simp only [cond_false,ofL]
      cases hb : Nat.beq t k with
      | true => rw [ih,Nat.eq_of_beq_eq_true hb,hk]; simp
      | false => simpa using ih
theorem LeS.ofKeep {st S : AS} (lv : Nat) (h : LeS (st.keepSl lv) S) : LeS st S := by
 refine ⟨fun t => ?_,h.hp,h.nd,h.bk⟩
 rcases h.tm t with k | k
 · exact .inl k
 · refine .inr ?_
   have e : (st.keepSl lv).tmps t = if bitB lv t = true then st.tmps t else .junk := ofL_filtK lv st.sl t
   rw [e] at k
   split at k
   · exact k
   · exact fun X u _ => k X u (by trivial)
theorem ADraw.cutK (lv : Nat) (hL : LayOk P L) {W : Walk} (hW : WOk P W) {id : Nat} {ops : Array Oper} {K : AS → Prop} (S : AS) (hm : P.follows .mixedOrders = true) (hs : Region.noSelect ops = true) (h : aAny P L W N ops.toList.length ops.toList (fun st' => nrm lv st' (fun s => LeS s S)) ops.toList.length [] st) (hK : K S) : ADraw P L W N id ops K st := by
 have go : ∀ {st' : AS},nrm lv st' (fun s => LeS s S) → LeS st' S := fun h => by rw [nrm_eq] at h; exact h.ofKeep lv
 have := ADraw.any (P := P) (L := L) (N := N) (id := id) hL hW hm hs h
 cases this with
 | quiet hm hB hq h =>
   refine .sem fun g bs ρ a w E R hE => ?_
   refine wp_region_quiet (C := fun w' => w' = w.drew) hm hB rfl ?_
   have R' : Rel g N bs ρ a w.drew st := R.world (Below.refl _ _).drew
   exact awpQ_snd hL (E := fun a w => E .normal a w) (ops := ops.toList) (fun a w1 st R h => hE _ _ _ _ (R.less (go h)) hK) ops.toList hq R' h
 | sem h => exact .sem fun g bs ρ a w E R hE => h g bs ρ a w E R fun ρ a w st R h => hE _ _ _ _ (R.less (go h)) hK
structure AAnyI (P : Program) (L : Lay) (W : Walk) (N : Nat) (n : Nat) (ops : List Oper) (Q : AS → Prop) (f : Nat) (done : List Nat) (st : AS) : Prop where
 mk ::
 h : aAny P L W N n ops Q f done st
section
variable {W : Walk} {n : Nat} {ops : List Oper} {Q : AS → Prop} {f : Nat} {done : List Nat}
theorem AAnyI.eq : AAnyI P L W N n ops Q f done = aAny P L W N n ops Q f done := funext fun _ => propext ⟨fun k => k.h, .mk⟩
theorem AAnyI.fin (h1 : rdyFrom n done 0 ops = []) (h : Q st) : AAnyI P L W N n ops Q f done st := .mk (by
 cases f with
 | zero => simp only [aAny,h1]; exact h
 | succ f => simp only [aAny,h1]; exact h)
theorem AAnyI.pick (j : Nat) (o : Oper) (h2 : pickB L N st ops done (rdyFrom n done 0 ops) = some j) (h3 : ops[j]? = some o) (h : aStep P L W N ops o st (AAnyI P L W N n ops Q f (j :: done))) : AAnyI P L W N n ops Q (f + 1) done st := .mk (by
 rw [AAnyI.eq] at h
 cases h1 : rdyFrom n done 0 ops with
 | nil => rw [h1] at h2; cases h2
 | cons i r =>
   rw [h1] at h2
   simp only [aAny,h1,h2,h3]
   exact h)
theorem AAnyI.one (i : Nat) (o : Oper) (h1 : rdyFrom n done 0 ops = [i]) (h2 : pickB L N st ops done [i] = none) (h3 : ops[i]? = some o) (h : aStep P L W N ops o st (AAnyI P L W N n ops Q f (i :: done))) : AAnyI P L W N n ops Q (f + 1) done st := .mk (by
 rw [AAnyI.eq] at h
 simp only [aAny,h1,h2,allR,h3]
 exact h)
theorem AAnyI.fork (i j : Nat) (o p : Oper) (h1 : rdyFrom n done 0 ops = [i,j]) (h2 : pickB L N st ops done [i,j] = none) (h3 : ops[i]? = some o) (h4 : ops[j]? = some p)
  (h : aStep P L W N ops o st (AAnyI P L W N n ops Q f (i :: done))) (k : aStep P L W N ops p st (AAnyI P L W N n ops Q f (j :: done))) : AAnyI P L W N n ops Q (f + 1) done st := .mk (by
 rw [AAnyI.eq] at h k
 simp only [aAny,h1,h2,allR,h3,h4]
 exact ⟨h,k⟩)
theorem AAnyI.fork3 (i j q : Nat) (o p r : Oper) (h1 : rdyFrom n done 0 ops = [i,j,q]) (h2 : pickB L N st ops done [i,j,q] = none) (h3 : ops[i]? = some o) (h4 : ops[j]? = some p) (h5 : ops[q]? = some r)
  (h : aStep P L W N ops o st (AAnyI P L W N n ops Q f (i :: done))) (k : aStep P L W N ops p st (AAnyI P L W N n ops Q f (j :: done))) (m : aStep P L W N ops r st (AAnyI P L W N n ops Q f (q :: done))) : AAnyI P L W N n ops Q (f + 1) done st := .mk (by
 rw [AAnyI.eq] at h k m
 simp only [aAny,h1,h2,allR,h3,h4,h5]
 exact ⟨h,k,m⟩)
theorem ADraw.cutI (lv : Nat) (hL : LayOk P L) (hW : WOk P W) {id : Nat} {ops : Array Oper} {K : AS → Prop} (S : AS) (hm : P.follows .mixedOrders = true) (hs : Region.noSelect ops = true) (m : Nat) (l : List Oper) (hm' : ops.toList.length = m) (hl : ops.toList = l) (h : AAnyI P L W N m l (fun st' => nrm lv st' (fun s => LeS s S)) m [] st) (hK : K S) : ADraw P L W N id ops K st :=
 ADraw.cutK lv hL hW S hm hs (by subst hm' hl; exact h.h) hK
end
end
theorem LeS.mkF {st : AS} {l : List (Nat × AV)} {h : List (Nat × AO)} {b : Nat} {x : List (Nat × AV)} (ht : LeT st l) (hh : LeH st h) (hn : nodupB (h.map (·.1)) = true) (hb : st.back = [x]) : LeS st ⟨l,h,[[]],b⟩ := by
 have := LeS.mk' (st := st) l h ht hh hn
 exact ⟨this.tm,this.hp,this.nd,by rw [hb]; exact ⟨fun _ => .inl rfl,trivial⟩⟩
end Go.Proofs.YtimhagicagdkfaaGreat

/-
 live.with of a Set or an Add (nothing left) that a Create is below. 
-/
namespace Go.Proofs.YtimhagicagdkfaaGreat
open Go.RowKit
set_option maxHeartbeats 4000000 in
set_option maxRecDepth 100000 in
theorem with_3nil (l : List Ev) (e : Ev) (hk : e.k = 3)  (hc : l.any (crP e) = true) (hr : l.filter (woutP 3 (fun a => decide (a.l = e.l)) e) = []) (hl : l.length ≤ 1000000000) :
  MSpec Tryz.prog 132 [(0,evR l)] [.own 0,e.av] (.own 1) [(1,evR ([] ++ [e]))] := by
 have hw := without_nil 162 (fun a => decide (a.l = e.l)) 3 e (label_m e) l hr hl
 have hcr := created_spec l e (by omega)
 rw [hc] at hcr
 have hlf := List.length_filter_le (woutP 3 (fun a => decide (a.l = e.l)) e) l
 rw [hr] at hlf
 simp only [List.length_nil] at hlf
 dsimp only [Ev.av,Ev.cs] at hw hcr ⊢
 refine K1.M 0x2020021041bb Tryz.func132 10 ?_
 repeat' ((conv => whnf); first | refine K1.w ?_ | refine K1.u ?_ | refine K1.P1 (hcr) rfl ?_ | refine K1.C 2 [(0,_),(1,_)] (hw) rfl ?_ | refine ADraw.cutI 16 (id := 9) lay_ok (awp_snd lay_ok _) ⟨[(4, .own 13)],[(13,evR ([] ++ [e]))],[[]],14⟩ follows_ok (by kernel_rfl) 8 _ rfl rfl ?_ ?_ | refine AAnyI.fin rfl ?_ | refine LeS.mkF ⟨AEq.refl _,trivial⟩ ⟨⟨_,rfl,?_⟩,trivial⟩ rfl rfl | refine AAnyI.pick 0 _ rfl rfl ?_ | refine AAnyI.pick 1 _ rfl rfl ?_ | refine AAnyI.pick 2 _ rfl rfl ?_ | refine AAnyI.pick 3 _ rfl rfl ?_ | refine AAnyI.pick 4 _ rfl rfl ?_ | refine AAnyI.pick 5 _ rfl rfl ?_ | refine AAnyI.pick 6 _ rfl rfl ?_ | refine AAnyI.pick 7 _ rfl rfl ?_ | refine AAnyI.one 0 _ rfl rfl rfl ?_ | refine AAnyI.one 1 _ rfl rfl rfl ?_ | refine AAnyI.one 2 _ rfl rfl rfl ?_ | refine AAnyI.one 3 _ rfl rfl rfl ?_ | refine AAnyI.one 4 _ rfl rfl rfl ?_ | refine AAnyI.one 5 _ rfl rfl rfl ?_ | refine AAnyI.one 6 _ rfl rfl rfl ?_ | refine AAnyI.one 7 _ rfl rfl rfl ?_ | refine AAnyI.fork 0 1 _ _ rfl rfl rfl rfl ?_ ?_ | refine AAnyI.fork 0 2 _ _ rfl rfl rfl rfl ?_ ?_ | refine AAnyI.fork 0 3 _ _ rfl rfl rfl rfl ?_ ?_ | refine AAnyI.fork 0 4 _ _ rfl rfl rfl rfl ?_ ?_ | refine AAnyI.fork 0 5 _ _ rfl rfl rfl rfl ?_ ?_ | refine AAnyI.fork 0 6 _ _ rfl rfl rfl rfl ?_ ?_ | refine AAnyI.fork 1 2 _ _ rfl rfl rfl rfl ?_ ?_ | refine AAnyI.fork 1 3 _ _ rfl rfl rfl rfl ?_ ?_ | refine AAnyI.fork 1 4 _ _ rfl rfl rfl rfl ?_ ?_ | refine AAnyI.fork 1 5 _ _ rfl rfl rfl rfl ?_ ?_ | refine AAnyI.fork 1 6 _ _ rfl rfl rfl rfl ?_ ?_ | refine AAnyI.fork 2 3 _ _ rfl rfl rfl rfl ?_ ?_ | refine AAnyI.fork 2 4 _ _ rfl rfl rfl rfl ?_ ?_ | refine AAnyI.fork 2 5 _ _ rfl rfl rfl rfl ?_ ?_ | refine AAnyI.fork 2 6 _ _ rfl rfl rfl rfl ?_ ?_ | refine AAnyI.fork 3 4 _ _ rfl rfl rfl rfl ?_ ?_ | refine AAnyI.fork 3 5 _ _ rfl rfl rfl rfl ?_ ?_ | refine AAnyI.fork 3 6 _ _ rfl rfl rfl rfl ?_ ?_ | refine AAnyI.fork 4 5 _ _ rfl rfl rfl rfl ?_ ?_ | refine AAnyI.fork 4 6 _ _ rfl rfl rfl rfl ?_ ?_ | refine AAnyI.fork 5 6 _ _ rfl rfl rfl rfl ?_ ?_ | refine AAnyI.fork3 0 1 2 _ _ _ rfl rfl rfl rfl rfl ?_ ?_ ?_ | refine AAnyI.fork3 0 1 3 _ _ _ rfl rfl rfl rfl rfl ?_ ?_ ?_ | refine AAnyI.fork3 0 1 4 _ _ _ rfl rfl rfl rfl rfl ?_ ?_ ?_ | refine AAnyI.fork3 0 1 5 _ _ _ rfl rfl rfl rfl rfl ?_ ?_ ?_ | refine AAnyI.fork3 0 2 3 _ _ _ rfl rfl rfl rfl rfl ?_ ?_ ?_ | refine AAnyI.fork3 0 2 4 _ _ _ rfl rfl rfl rfl rfl ?_ ?_ ?_ | refine AAnyI.fork3 0 2 5 _ _ _ rfl rfl rfl rfl rfl ?_ ?_ ?_ | refine AAnyI.fork3 0 3 4 _ _ _ rfl rfl rfl rfl rfl ?_ ?_ ?_ | refine AAnyI.fork3 0 3 5 _ _ _ rfl rfl rfl rfl rfl ?_ ?_ ?_ | refine AAnyI.fork3 0 4 5 _ _ _ rfl rfl rfl rfl rfl ?_ ?_ ?_ | refine AAnyI.fork3 1 2 3 _ _ _ rfl rfl rfl rfl rfl ?_ ?_ ?_ | refine AAnyI.fork3 1 2 4 _ _ _ rfl rfl rfl rfl rfl ?_ ?_ ?_ | refine AAnyI.fork3 1 2 5 _ _ _ rfl rfl rfl rfl rfl ?_ ?_ ?_ | refine AAnyI.fork3 1 3 4 _ _ _ rfl rfl rfl rfl rfl ?_ ?_ ?_ | refine AAnyI.fork3 1 3 5 _ _ _ rfl rfl rfl rfl rfl ?_ ?_ ?_ | refine AAnyI.fork3 1 4 5 _ _ _ rfl rfl rfl rfl rfl ?_ ?_ ?_ | refine AAnyI.fork3 2 3 4 _ _ _ rfl rfl rfl rfl rfl ?_ ?_ ?_ | refine AAnyI.fork3 2 3 5 _ _ _ rfl rfl rfl rfl rfl ?_ ?_ ?_ | refine AAnyI.fork3 2 4 5 _ _ _ rfl rfl rfl rfl rfl ?_ ?_ ?_ | refine AAnyI.fork3 3 4 5 _ _ _ rfl rfl rfl rfl rfl ?_ ?_ ?_ | refine K1.z ?_ | refine K1.y (fun _ => ?_) (fun _ => ?_) | fail)
 all_goals first
   | exact ⟨[(13,1)],rfl,rfl,⟨⟨_,rfl,OEq.refl _⟩,trivial⟩,rfl,rfl,AEq.refl _⟩
   | (refine OEq.row rfl (fun m hm => ?_)
      have hm : m < 1 := hm
      obtain rfl : m = 0 := by omega
      rfl)
set_option maxHeartbeats 4000000 in
set_option maxRecDepth 100000 in
theorem with_4nil (l : List Ev) (e : Ev) (hk : e.k = 4)  (hc : l.any (crP e) = true) (hr : l.filter (woutP 4 (fun a => decide (a.l = e.l) && decide (a.v = e.v)) e) = []) (hl : l.length ≤ 1000000000) :
  MSpec Tryz.prog 132 [(0,evR l)] [.own 0,e.av] (.own 1) [(1,evR ([] ++ [e]))] := by
 have hw := without_nil 163 (fun a => decide (a.l = e.l) && decide (a.v = e.v)) 4 e (value_m e) l hr hl
 have hcr := created_spec l e (by omega)
 rw [hc] at hcr
 have hlf := List.length_filter_le (woutP 4 (fun a => decide (a.l = e.l) && decide (a.v = e.v)) e) l
 rw [hr] at hlf
 simp only [List.length_nil] at hlf
 dsimp only [Ev.av,Ev.cs] at hw hcr ⊢
 refine K1.M 0x2020021041bb Tryz.func132 10 ?_
 repeat' ((conv => whnf); first | refine K1.w ?_ | refine K1.u ?_ | refine K1.P1 (hcr) rfl ?_ | refine K1.C 2 [(0,_),(1,_)] (hw) rfl ?_ | refine ADraw.cutI 16 (id := 15) lay_ok (awp_snd lay_ok _) ⟨[(4, .own 13)],[(13,evR ([] ++ [e]))],[[]],14⟩ follows_ok (by kernel_rfl) 8 _ rfl rfl ?_ ?_ | refine AAnyI.fin rfl ?_ | refine LeS.mkF ⟨AEq.refl _,trivial⟩ ⟨⟨_,rfl,?_⟩,trivial⟩ rfl rfl | refine AAnyI.pick 0 _ rfl rfl ?_ | refine AAnyI.pick 1 _ rfl rfl ?_ | refine AAnyI.pick 2 _ rfl rfl ?_ | refine AAnyI.pick 3 _ rfl rfl ?_ | refine AAnyI.pick 4 _ rfl rfl ?_ | refine AAnyI.pick 5 _ rfl rfl ?_ | refine AAnyI.pick 6 _ rfl rfl ?_ | refine AAnyI.pick 7 _ rfl rfl ?_ | refine AAnyI.one 0 _ rfl rfl rfl ?_ | refine AAnyI.one 1 _ rfl rfl rfl ?_ | refine AAnyI.one 2 _ rfl rfl rfl ?_ | refine AAnyI.one 3 _ rfl rfl rfl ?_ | refine AAnyI.one 4 _ rfl rfl rfl ?_ | refine AAnyI.one 5 _ rfl rfl rfl ?_ | refine AAnyI.one 6 _ rfl rfl rfl ?_ | refine AAnyI.one 7 _ rfl rfl rfl ?_ | refine AAnyI.fork 0 1 _ _ rfl rfl rfl rfl ?_ ?_ | refine AAnyI.fork 0 2 _ _ rfl rfl rfl rfl ?_ ?_ | refine AAnyI.fork 0 3 _ _ rfl rfl rfl rfl ?_ ?_ | refine AAnyI.fork 0 4 _ _ rfl rfl rfl rfl ?_ ?_ | refine AAnyI.fork 0 5 _ _ rfl rfl rfl rfl ?_ ?_ | refine AAnyI.fork 0 6 _ _ rfl rfl rfl rfl ?_ ?_ | refine AAnyI.fork 1 2 _ _ rfl rfl rfl rfl ?_ ?_ | refine AAnyI.fork 1 3 _ _ rfl rfl rfl rfl ?_ ?_ | refine AAnyI.fork 1 4 _ _ rfl rfl rfl rfl ?_ ?_ | refine AAnyI.fork 1 5 _ _ rfl rfl rfl rfl ?_ ?_ | refine AAnyI.fork 1 6 _ _ rfl rfl rfl rfl ?_ ?_ | refine AAnyI.fork 2 3 _ _ rfl rfl rfl rfl ?_ ?_ | refine AAnyI.fork 2 4 _ _ rfl rfl rfl rfl ?_ ?_ | refine AAnyI.fork 2 5 _ _ rfl rfl rfl rfl ?_ ?_ | refine AAnyI.fork 2 6 _ _ rfl rfl rfl rfl ?_ ?_ | refine AAnyI.fork 3 4 _ _ rfl rfl rfl rfl ?_ ?_ | refine AAnyI.fork 3 5 _ _ rfl rfl rfl rfl ?_ ?_ | refine AAnyI.fork 3 6 _ _ rfl rfl rfl rfl ?_ ?_ | refine AAnyI.fork 4 5 _ _ rfl rfl rfl rfl ?_ ?_ | refine AAnyI.fork 4 6 _ _ rfl rfl rfl rfl ?_ ?_ | refine AAnyI.fork 5 6 _ _ rfl rfl rfl rfl ?_ ?_ | refine AAnyI.fork3 0 1 2 _ _ _ rfl rfl rfl rfl rfl ?_ ?_ ?_ | refine AAnyI.fork3 0 1 3 _ _ _ rfl rfl rfl rfl rfl ?_ ?_ ?_ | refine AAnyI.fork3 0 1 4 _ _ _ rfl rfl rfl rfl rfl ?_ ?_ ?_ | refine AAnyI.fork3 0 1 5 _ _ _ rfl rfl rfl rfl rfl ?_ ?_ ?_ | refine AAnyI.fork3 0 2 3 _ _ _ rfl rfl rfl rfl rfl ?_ ?_ ?_ | refine AAnyI.fork3 0 2 4 _ _ _ rfl rfl rfl rfl rfl ?_ ?_ ?_ | refine AAnyI.fork3 0 2 5 _ _ _ rfl rfl rfl rfl rfl ?_ ?_ ?_ | refine AAnyI.fork3 0 3 4 _ _ _ rfl rfl rfl rfl rfl ?_ ?_ ?_ | refine AAnyI.fork3 0 3 5 _ _ _ rfl rfl rfl rfl rfl ?_ ?_ ?_ | refine AAnyI.fork3 0 4 5 _ _ _ rfl rfl rfl rfl rfl ?_ ?_ ?_ | refine AAnyI.fork3 1 2 3 _ _ _ rfl rfl rfl rfl rfl ?_ ?_ ?_ | refine AAnyI.fork3 1 2 4 _ _ _ rfl rfl rfl rfl rfl ?_ ?_ ?_ | refine AAnyI.fork3 1 2 5 _ _ _ rfl rfl rfl rfl rfl ?_ ?_ ?_ | refine AAnyI.fork3 1 3 4 _ _ _ rfl rfl rfl rfl rfl ?_ ?_ ?_ | refine AAnyI.fork3 1 3 5 _ _ _ rfl rfl rfl rfl rfl ?_ ?_ ?_ | refine AAnyI.fork3 1 4 5 _ _ _ rfl rfl rfl rfl rfl ?_ ?_ ?_ | refine AAnyI.fork3 2 3 4 _ _ _ rfl rfl rfl rfl rfl ?_ ?_ ?_ | refine AAnyI.fork3 2 3 5 _ _ _ rfl rfl rfl rfl rfl ?_ ?_ ?_ | refine AAnyI.fork3 2 4 5 _ _ _ rfl rfl rfl rfl rfl ?_ ?_ ?_ | refine AAnyI.fork3 3 4 5 _ _ _ rfl rfl rfl rfl rfl ?_ ?_ ?_ | refine K1.z ?_ | refine K1.y (fun _ => ?_) (fun _ => ?_) | fail)
 all_goals first
   | exact ⟨[(13,1)],rfl,rfl,⟨⟨_,rfl,OEq.refl _⟩,trivial⟩,rfl,rfl,AEq.refl _⟩
   | (refine OEq.row rfl (fun m hm => ?_)
      have hm : m < 1 := hm
      obtain rfl : m = 0 := by omega
      rfl)
end Go.Proofs.YtimhagicagdkfaaGreat

/-
 live.with of a Add that a Create is below. 
-/
namespace Go.Proofs.YtimhagicagdkfaaGreat
open Go.RowKit
set_option maxHeartbeats 4000000 in
set_option maxRecDepth 100000 in
theorem with_4own (l : List Ev) (e : Ev) (hk : e.k = 4)  (hc : l.any (crP e) = true) (r : Ev) (rs : List Ev) (hr : l.filter (woutP 4 (fun a => decide (a.l = e.l) && decide (a.v = e.v)) e) = r :: rs) (hl : l.length ≤ 1000000000) :
  MSpec Tryz.prog 132 [(0,evR l)] [.own 0,e.av] (.own 1) [(1,evR ((r :: rs) ++ [e]))] := by
 have hw := without_own 163 (fun a => decide (a.l = e.l) && decide (a.v = e.v)) 4 e (value_m e) l r rs hr hl
 have hcr := created_spec l e (by omega)
 rw [hc] at hcr
 have hlf := List.length_filter_le (woutP 4 (fun a => decide (a.l = e.l) && decide (a.v = e.v)) e) l
 rw [hr] at hlf
 simp only [List.length_cons] at hlf
 dsimp only [Ev.av,Ev.cs] at hw hcr ⊢
 refine K1.M 0x2020021041bb Tryz.func132 10 ?_
 repeat' ((conv => whnf); first | refine K1.w ?_ | refine K1.u ?_ | refine K1.P1 (hcr) rfl ?_ | refine K1.C 2 [(0,_),(1,_)] (hw) rfl ?_ | refine ADraw.cutI 16 (id := 15) lay_ok (awp_snd lay_ok _) ⟨[(4, .own 13)],[(13,evR ((r :: rs) ++ [e]))],[[]],14⟩ follows_ok (by kernel_rfl) 8 _ rfl rfl ?_ ?_ | refine AAnyI.fin rfl ?_ | refine LeS.mkF ⟨AEq.refl _,trivial⟩ ⟨⟨_,rfl,OEq.row (by simp) (fun m hm => els_app1 (c := Ev.cs) (l := r :: rs) rfl rfl m hm)⟩,trivial⟩ rfl rfl | refine AAnyI.pick 0 _ rfl rfl ?_ | refine AAnyI.pick 1 _ rfl rfl ?_ | refine AAnyI.pick 2 _ rfl rfl ?_ | refine AAnyI.pick 3 _ rfl rfl ?_ | refine AAnyI.pick 4 _ rfl rfl ?_ | refine AAnyI.pick 5 _ rfl rfl ?_ | refine AAnyI.pick 6 _ rfl rfl ?_ | refine AAnyI.pick 7 _ rfl rfl ?_ | refine AAnyI.one 0 _ rfl rfl rfl ?_ | refine AAnyI.one 1 _ rfl rfl rfl ?_ | refine AAnyI.one 2 _ rfl rfl rfl ?_ | refine AAnyI.one 3 _ rfl rfl rfl ?_ | refine AAnyI.one 4 _ rfl rfl rfl ?_ | refine AAnyI.one 5 _ rfl rfl rfl ?_ | refine AAnyI.one 6 _ rfl rfl rfl ?_ | refine AAnyI.one 7 _ rfl rfl rfl ?_ | refine AAnyI.fork 0 1 _ _ rfl rfl rfl rfl ?_ ?_ | refine AAnyI.fork 0 2 _ _ rfl rfl rfl rfl ?_ ?_ | refine AAnyI.fork 0 3 _ _ rfl rfl rfl rfl ?_ ?_ | refine AAnyI.fork 0 4 _ _ rfl rfl rfl rfl ?_ ?_ | refine AAnyI.fork 0 5 _ _ rfl rfl rfl rfl ?_ ?_ | refine AAnyI.fork 0 6 _ _ rfl rfl rfl rfl ?_ ?_ | refine AAnyI.fork 1 2 _ _ rfl rfl rfl rfl ?_ ?_ | refine AAnyI.fork 1 3 _ _ rfl rfl rfl rfl ?_ ?_ | refine AAnyI.fork 1 4 _ _ rfl rfl rfl rfl ?_ ?_ | refine AAnyI.fork 1 5 _ _ rfl rfl rfl rfl ?_ ?_ | refine AAnyI.fork 1 6 _ _ rfl rfl rfl rfl ?_ ?_ | refine AAnyI.fork 2 3 _ _ rfl rfl rfl rfl ?_ ?_ | refine AAnyI.fork 2 4 _ _ rfl rfl rfl rfl ?_ ?_ | refine AAnyI.fork 2 5 _ _ rfl rfl rfl rfl ?_ ?_ | refine AAnyI.fork 2 6 _ _ rfl rfl rfl rfl ?_ ?_ | refine AAnyI.fork 3 4 _ _ rfl rfl rfl rfl ?_ ?_ | refine AAnyI.fork 3 5 _ _ rfl rfl rfl rfl ?_ ?_ | refine AAnyI.fork 3 6 _ _ rfl rfl rfl rfl ?_ ?_ | refine AAnyI.fork 4 5 _ _ rfl rfl rfl rfl ?_ ?_ | refine AAnyI.fork 4 6 _ _ rfl rfl rfl rfl ?_ ?_ | refine AAnyI.fork 5 6 _ _ rfl rfl rfl rfl ?_ ?_ | refine AAnyI.fork3 0 1 2 _ _ _ rfl rfl rfl rfl rfl ?_ ?_ ?_ | refine AAnyI.fork3 0 1 3 _ _ _ rfl rfl rfl rfl rfl ?_ ?_ ?_ | refine AAnyI.fork3 0 1 4 _ _ _ rfl rfl rfl rfl rfl ?_ ?_ ?_ | refine AAnyI.fork3 0 1 5 _ _ _ rfl rfl rfl rfl rfl ?_ ?_ ?_ | refine AAnyI.fork3 0 2 3 _ _ _ rfl rfl rfl rfl rfl ?_ ?_ ?_ | refine AAnyI.fork3 0 2 4 _ _ _ rfl rfl rfl rfl rfl ?_ ?_ ?_ | refine AAnyI.fork3 0 2 5 _ _ _ rfl rfl rfl rfl rfl ?_ ?_ ?_ | refine AAnyI.fork3 0 3 4 _ _ _ rfl rfl rfl rfl rfl ?_ ?_ ?_ | refine AAnyI.fork3 0 3 5 _ _ _ rfl rfl rfl rfl rfl ?_ ?_ ?_ | refine AAnyI.fork3 0 4 5 _ _ _ rfl rfl rfl rfl rfl ?_ ?_ ?_ | refine AAnyI.fork3 1 2 3 _ _ _ rfl rfl rfl rfl rfl ?_ ?_ ?_ | refine AAnyI.fork3 1 2 4 _ _ _ rfl rfl rfl rfl rfl ?_ ?_ ?_ | refine AAnyI.fork3 1 2 5 _ _ _ rfl rfl rfl rfl rfl ?_ ?_ ?_ | refine AAnyI.fork3 1 3 4 _ _ _ rfl rfl rfl rfl rfl ?_ ?_ ?_ | refine AAnyI.fork3 1 3 5 _ _ _ rfl rfl rfl rfl rfl ?_ ?_ ?_ | refine AAnyI.fork3 1 4 5 _ _ _ rfl rfl rfl rfl rfl ?_ ?_ ?_ | refine AAnyI.fork3 2 3 4 _ _ _ rfl rfl rfl rfl rfl ?_ ?_ ?_ | refine AAnyI.fork3 2 3 5 _ _ _ rfl rfl rfl rfl rfl ?_ ?_ ?_ | refine AAnyI.fork3 2 4 5 _ _ _ rfl rfl rfl rfl rfl ?_ ?_ ?_ | refine AAnyI.fork3 3 4 5 _ _ _ rfl rfl rfl rfl rfl ?_ ?_ ?_ | refine K1.z ?_ | refine K1.y (fun _ => ?_) (fun _ => ?_) | fail)
 all_goals (conv => whnf)
 exact ⟨[(13,1)],rfl,rfl,⟨⟨_,rfl,OEq.refl _⟩,trivial⟩,rfl,rfl,AEq.refl _⟩
end Go.Proofs.YtimhagicagdkfaaGreat

/-
 live.with of a Set that a Create is below. 
-/
namespace Go.Proofs.YtimhagicagdkfaaGreat
open Go.RowKit
set_option maxHeartbeats 4000000 in
set_option maxRecDepth 100000 in
theorem with_3own (l : List Ev) (e : Ev) (hk : e.k = 3)  (hc : l.any (crP e) = true) (r : Ev) (rs : List Ev) (hr : l.filter (woutP 3 (fun a => decide (a.l = e.l)) e) = r :: rs) (hl : l.length ≤ 1000000000) :
  MSpec Tryz.prog 132 [(0,evR l)] [.own 0,e.av] (.own 1) [(1,evR ((r :: rs) ++ [e]))] := by
 have hw := without_own 162 (fun a => decide (a.l = e.l)) 3 e (label_m e) l r rs hr hl
 have hcr := created_spec l e (by omega)
 rw [hc] at hcr
 have hlf := List.length_filter_le (woutP 3 (fun a => decide (a.l = e.l)) e) l
 rw [hr] at hlf
 simp only [List.length_cons] at hlf
 dsimp only [Ev.av,Ev.cs] at hw hcr ⊢
 refine K1.M 0x2020021041bb Tryz.func132 10 ?_
 repeat' ((conv => whnf); first | refine K1.w ?_ | refine K1.u ?_ | refine K1.P1 (hcr) rfl ?_ | refine K1.C 2 [(0,_),(1,_)] (hw) rfl ?_ | refine ADraw.cutI 16 (id := 9) lay_ok (awp_snd lay_ok _) ⟨[(4, .own 13)],[(13,evR ((r :: rs) ++ [e]))],[[]],14⟩ follows_ok (by kernel_rfl) 8 _ rfl rfl ?_ ?_ | refine AAnyI.fin rfl ?_ | refine LeS.mkF ⟨AEq.refl _,trivial⟩ ⟨⟨_,rfl,OEq.row (by simp) (fun m hm => els_app1 (c := Ev.cs) (l := r :: rs) rfl rfl m hm)⟩,trivial⟩ rfl rfl | refine AAnyI.pick 0 _ rfl rfl ?_ | refine AAnyI.pick 1 _ rfl rfl ?_ | refine AAnyI.pick 2 _ rfl rfl ?_ | refine AAnyI.pick 3 _ rfl rfl ?_ | refine AAnyI.pick 4 _ rfl rfl ?_ | refine AAnyI.pick 5 _ rfl rfl ?_ | refine AAnyI.pick 6 _ rfl rfl ?_ | refine AAnyI.pick 7 _ rfl rfl ?_ | refine AAnyI.one 0 _ rfl rfl rfl ?_ | refine AAnyI.one 1 _ rfl rfl rfl ?_ | refine AAnyI.one 2 _ rfl rfl rfl ?_ | refine AAnyI.one 3 _ rfl rfl rfl ?_ | refine AAnyI.one 4 _ rfl rfl rfl ?_ | refine AAnyI.one 5 _ rfl rfl rfl ?_ | refine AAnyI.one 6 _ rfl rfl rfl ?_ | refine AAnyI.one 7 _ rfl rfl rfl ?_ | refine AAnyI.fork 0 1 _ _ rfl rfl rfl rfl ?_ ?_ | refine AAnyI.fork 0 2 _ _ rfl rfl rfl rfl ?_ ?_ | refine AAnyI.fork 0 3 _ _ rfl rfl rfl rfl ?_ ?_ | refine AAnyI.fork 0 4 _ _ rfl rfl rfl rfl ?_ ?_ | refine AAnyI.fork 0 5 _ _ rfl rfl rfl rfl ?_ ?_ | refine AAnyI.fork 0 6 _ _ rfl rfl rfl rfl ?_ ?_ | refine AAnyI.fork 1 2 _ _ rfl rfl rfl rfl ?_ ?_ | refine AAnyI.fork 1 3 _ _ rfl rfl rfl rfl ?_ ?_ | refine AAnyI.fork 1 4 _ _ rfl rfl rfl rfl ?_ ?_ | refine AAnyI.fork 1 5 _ _ rfl rfl rfl rfl ?_ ?_ | refine AAnyI.fork 1 6 _ _ rfl rfl rfl rfl ?_ ?_ | refine AAnyI.fork 2 3 _ _ rfl rfl rfl rfl ?_ ?_ | refine AAnyI.fork 2 4 _ _ rfl rfl rfl rfl ?_ ?_ | refine AAnyI.fork 2 5 _ _ rfl rfl rfl rfl ?_ ?_ | refine AAnyI.fork 2 6 _ _ rfl rfl rfl rfl ?_ ?_ | refine AAnyI.fork 3 4 _ _ rfl rfl rfl rfl ?_ ?_ | refine AAnyI.fork 3 5 _ _ rfl rfl rfl rfl ?_ ?_ | refine AAnyI.fork 3 6 _ _ rfl rfl rfl rfl ?_ ?_ | refine AAnyI.fork 4 5 _ _ rfl rfl rfl rfl ?_ ?_ | refine AAnyI.fork 4 6 _ _ rfl rfl rfl rfl ?_ ?_ | refine AAnyI.fork 5 6 _ _ rfl rfl rfl rfl ?_ ?_ | refine AAnyI.fork3 0 1 2 _ _ _ rfl rfl rfl rfl rfl ?_ ?_ ?_ | refine AAnyI.fork3 0 1 3 _ _ _ rfl rfl rfl rfl rfl ?_ ?_ ?_ | refine AAnyI.fork3 0 1 4 _ _ _ rfl rfl rfl rfl rfl ?_ ?_ ?_ | refine AAnyI.fork3 0 1 5 _ _ _ rfl rfl rfl rfl rfl ?_ ?_ ?_ | refine AAnyI.fork3 0 2 3 _ _ _ rfl rfl rfl rfl rfl ?_ ?_ ?_ | refine AAnyI.fork3 0 2 4 _ _ _ rfl rfl rfl rfl rfl ?_ ?_ ?_ | refine AAnyI.fork3 0 2 5 _ _ _ rfl rfl rfl rfl rfl ?_ ?_ ?_ | refine AAnyI.fork3 0 3 4 _ _ _ rfl rfl rfl rfl rfl ?_ ?_ ?_ | refine AAnyI.fork3 0 3 5 _ _ _ rfl rfl rfl rfl rfl ?_ ?_ ?_ | refine AAnyI.fork3 0 4 5 _ _ _ rfl rfl rfl rfl rfl ?_ ?_ ?_ | refine AAnyI.fork3 1 2 3 _ _ _ rfl rfl rfl rfl rfl ?_ ?_ ?_ | refine AAnyI.fork3 1 2 4 _ _ _ rfl rfl rfl rfl rfl ?_ ?_ ?_ | refine AAnyI.fork3 1 2 5 _ _ _ rfl rfl rfl rfl rfl ?_ ?_ ?_ | refine AAnyI.fork3 1 3 4 _ _ _ rfl rfl rfl rfl rfl ?_ ?_ ?_ | refine AAnyI.fork3 1 3 5 _ _ _ rfl rfl rfl rfl rfl ?_ ?_ ?_ | refine AAnyI.fork3 1 4 5 _ _ _ rfl rfl rfl rfl rfl ?_ ?_ ?_ | refine AAnyI.fork3 2 3 4 _ _ _ rfl rfl rfl rfl rfl ?_ ?_ ?_ | refine AAnyI.fork3 2 3 5 _ _ _ rfl rfl rfl rfl rfl ?_ ?_ ?_ | refine AAnyI.fork3 2 4 5 _ _ _ rfl rfl rfl rfl rfl ?_ ?_ ?_ | refine AAnyI.fork3 3 4 5 _ _ _ rfl rfl rfl rfl rfl ?_ ?_ ?_ | refine K1.z ?_ | refine K1.y (fun _ => ?_) (fun _ => ?_) | fail)
 all_goals (conv => whnf)
 exact ⟨[(13,1)],rfl,rfl,⟨⟨_,rfl,OEq.refl _⟩,trivial⟩,rfl,rfl,AEq.refl _⟩
end Go.Proofs.YtimhagicagdkfaaGreat

/-
 live.with of a Remove,of an Add below which is no Create,of a Delete.
-/
namespace Go.Proofs.YtimhagicagdkfaaGreat
open Go.RowKit
set_option maxHeartbeats 4000000 in
set_option maxRecDepth 100000 in
theorem with_5own (l : List Ev) (e : Ev) (hk : e.k = 5)  (r : Ev) (rs : List Ev) (hr : l.filter (woutP 4 (fun a => decide (a.l = e.l) && decide (a.v = e.v)) e) = r :: rs) (hl : l.length ≤ 1000000000) :
  MSpec Tryz.prog 132 [(0,evR l)] [.own 0,e.av] (.own 1) [(1,evR (r :: rs))] := by
 have hw := without_own 163 (fun a => decide (a.l = e.l) && decide (a.v = e.v)) 4 e (value_m e) l r rs hr hl
 have hlf := List.length_filter_le (woutP 4 (fun a => decide (a.l = e.l) && decide (a.v = e.v)) e) l
 rw [hr] at hlf
 simp only [List.length_cons] at hlf
 dsimp only [Ev.av,Ev.cs] at hw ⊢
 refine K1.M 0x2020021041bb Tryz.func132 10 ?_
 repeat' ((conv => whnf); first | refine K1.w ?_ | refine K1.u ?_ | refine K1.C 2 [(0,_),(1,_)] (hw) rfl ?_ | refine K1.z ?_ | refine K1.y (fun _ => ?_) (fun _ => ?_) | fail)
 all_goals (conv => whnf)
 first
   | exact ⟨[(11,1)],rfl,rfl,⟨⟨_,rfl,OEq.refl _⟩,trivial⟩,rfl,rfl,AEq.refl _⟩
   | exact ⟨[(12,1)],rfl,rfl,⟨⟨_,rfl,OEq.refl _⟩,trivial⟩,rfl,rfl,AEq.refl _⟩
   | exact ⟨[(13,1)],rfl,rfl,⟨⟨_,rfl,OEq.refl _⟩,trivial⟩,rfl,rfl,AEq.refl _⟩
   | exact ⟨[(14,1)],rfl,rfl,⟨⟨_,rfl,OEq.refl _⟩,trivial⟩,rfl,rfl,AEq.refl _⟩
   | exact ⟨[(15,1)],rfl,rfl,⟨⟨_,rfl,OEq.refl _⟩,trivial⟩,rfl,rfl,AEq.refl _⟩
   | exact ⟨[(16,1)],rfl,rfl,⟨⟨_,rfl,OEq.refl _⟩,trivial⟩,rfl,rfl,AEq.refl _⟩
   | exact ⟨[(17,1)],rfl,rfl,⟨⟨_,rfl,OEq.refl _⟩,trivial⟩,rfl,rfl,AEq.refl _⟩
   | exact ⟨[(18,1)],rfl,rfl,⟨⟨_,rfl,OEq.refl _⟩,trivial⟩,rfl,rfl,AEq.refl _⟩
set_option maxHeartbeats 4000000 in
set_option maxRecDepth 100000 in
theorem with_5nil (l : List Ev) (e : Ev) (hk : e.k = 5)  (hr : l.filter (woutP 4 (fun a => decide (a.l = e.l) && decide (a.v = e.v)) e) = []) (hl : l.length ≤ 1000000000) :
  MSpec Tryz.prog 132 [(0,evR l)] [.own 0,e.av] (.v (.slice none 0 0)) [] := by
 have hw := without_nil 163 (fun a => decide (a.l = e.l) && decide (a.v = e.v)) 4 e (value_m e) l hr hl
 have hlf := List.length_filter_le (woutP 4 (fun a => decide (a.l = e.l) && decide (a.v = e.v)) e) l
 rw [hr] at hlf
 simp only [List.length_nil] at hlf
 dsimp only [Ev.av,Ev.cs] at hw ⊢
 refine K1.M 0x2020021041bb Tryz.func132 10 ?_
 repeat' ((conv => whnf); first | refine K1.w ?_ | refine K1.u ?_ | refine K1.C 2 [(0,_),(1,_)] (hw) rfl ?_ | refine K1.z ?_ | refine K1.y (fun _ => ?_) (fun _ => ?_) | fail)
 all_goals (conv => whnf)
 exact ⟨[],rfl,rfl,trivial,rfl,rfl,AEq.refl _⟩
set_option maxHeartbeats 4000000 in
set_option maxRecDepth 100000 in
theorem with_4no (l : List Ev) (e : Ev) (hk : e.k = 4) (hc : l.any (crP e) = false) (hl : l.length ≤ 1000000000) :
  MSpec Tryz.prog 132 [(0,evR l)] [.own 0,e.av] (.own 0) [(0,evR l)] := by
 have hcr := created_spec l e (by omega)
 rw [hc] at hcr
 dsimp only [Ev.av,Ev.cs] at hcr ⊢
 refine K1.M 0x2020021041bb Tryz.func132 10 ?_
 repeat' ((conv => whnf); first | refine K1.w ?_ | refine K1.u ?_ | refine K1.P1 (hcr) rfl ?_ | refine K1.z ?_ | refine K1.y (fun _ => ?_) (fun _ => ?_) | fail)
 all_goals (conv => whnf)
 exact ⟨[],rfl,rfl,⟨⟨_,rfl,OEq.refl _⟩,trivial⟩,rfl,rfl,AEq.refl _⟩
set_option maxHeartbeats 4000000 in
set_option maxRecDepth 100000 in
theorem with_2own (l : List Ev) (e : Ev) (hk : e.k = 2) (r : Ev) (rs : List Ev) (hr : l.filter (woutP 1 (fun _ => true) e) = r :: rs) (x : Ev) (xs : List Ev) (hx : (r :: rs).filter (cntP (r :: rs)) = x :: xs) (hl : l.length ≤ 1000000000) :
  MSpec Tryz.prog 132 [(0,evR l)] [.own 0,e.av] (.own 1) [(1,evR (x :: xs))] := by
 have hlf := List.length_filter_le (woutP 1 (fun _ => true) e) l
 rw [hr] at hlf
 have hw := withoutA_own 160 (fun _ => true) 1 e all_lv l r rs hr hl
 have hc := fun d => counted_own d (r :: rs) x xs hx (by omega)
 dsimp only [Ev.av,Ev.cs] at hw ⊢
 refine K1.M 0x2020021041bb Tryz.func132 10 ?_
 repeat' ((conv => whnf); first | refine K1.w ?_ | refine K1.u ?_ | refine K1.C 1 [(0,_)] (hw) rfl ?_ | refine K1.F1 (hc _) rfl ?_ | refine K1.z ?_ | refine K1.y (fun _ => ?_) (fun _ => ?_) | fail)
 all_goals (conv => whnf)
 first
   | exact ⟨[(11,1)],rfl,rfl,⟨⟨_,rfl,OEq.refl _⟩,trivial⟩,rfl,rfl,AEq.refl _⟩
   | exact ⟨[(12,1)],rfl,rfl,⟨⟨_,rfl,OEq.refl _⟩,trivial⟩,rfl,rfl,AEq.refl _⟩
   | exact ⟨[(13,1)],rfl,rfl,⟨⟨_,rfl,OEq.refl _⟩,trivial⟩,rfl,rfl,AEq.refl _⟩
   | exact ⟨[(14,1)],rfl,rfl,⟨⟨_,rfl,OEq.refl _⟩,trivial⟩,rfl,rfl,AEq.refl _⟩
   | exact ⟨[(15,1)],rfl,rfl,⟨⟨_,rfl,OEq.refl _⟩,trivial⟩,rfl,rfl,AEq.refl _⟩
   | exact ⟨[(16,1)],rfl,rfl,⟨⟨_,rfl,OEq.refl _⟩,trivial⟩,rfl,rfl,AEq.refl _⟩
   | exact ⟨[(17,1)],rfl,rfl,⟨⟨_,rfl,OEq.refl _⟩,trivial⟩,rfl,rfl,AEq.refl _⟩
   | exact ⟨[(18,1)],rfl,rfl,⟨⟨_,rfl,OEq.refl _⟩,trivial⟩,rfl,rfl,AEq.refl _⟩
set_option maxHeartbeats 4000000 in
set_option maxRecDepth 100000 in
theorem with_2cut (l : List Ev) (e : Ev) (hk : e.k = 2) (r : Ev) (rs : List Ev) (hr : l.filter (woutP 1 (fun _ => true) e) = r :: rs) (hx : (r :: rs).filter (cntP (r :: rs)) = []) (hl : l.length ≤ 1000000000) :
  MSpec Tryz.prog 132 [(0,evR l)] [.own 0,e.av] (.v (.slice none 0 0)) [] := by
 have hlf := List.length_filter_le (woutP 1 (fun _ => true) e) l
 rw [hr] at hlf
 have hw := withoutA_own 160 (fun _ => true) 1 e all_lv l r rs hr hl
 have hc := counted_nil (r :: rs) hx (by omega)
 dsimp only [Ev.av,Ev.cs] at hw ⊢
 refine K1.M 0x2020021041bb Tryz.func132 10 ?_
 repeat' ((conv => whnf); first | refine K1.w ?_ | refine K1.u ?_ | refine K1.C 1 [(0,_)] (hw) rfl ?_ | refine K1.P1 (hc) rfl ?_ | refine K1.z ?_ | refine K1.y (fun _ => ?_) (fun _ => ?_) | fail)
 all_goals (conv => whnf)
 exact ⟨[],rfl,rfl,trivial,rfl,rfl,AEq.refl _⟩
set_option maxHeartbeats 4000000 in
set_option maxRecDepth 100000 in
theorem with_2nil (l : List Ev) (e : Ev) (hk : e.k = 2) (hr : l.filter (woutP 1 (fun _ => true) e) = []) (hl : l.length ≤ 1000000000) :
  MSpec Tryz.prog 132 [(0,evR l)] [.own 0,e.av] (.v (.slice none 0 0)) [] := by
 have hlf := List.length_filter_le (woutP 1 (fun _ => true) e) l
 rw [hr] at hlf
 have hw := withoutA_nil 160 (fun _ => true) 1 e all_lv l hr hl
 have hc := counted_nil [] rfl (by decide)
 dsimp only [Ev.av,Ev.cs] at hw ⊢
 refine K1.M 0x2020021041bb Tryz.func132 10 ?_
 repeat' ((conv => whnf); first | refine K1.w ?_ | refine K1.u ?_ | refine K1.C 1 [(0,_)] (hw) rfl ?_ | refine K1.P1 (hc) rfl ?_ | refine ACall.plain _ _ hc (SubL.cons (.nil 12 true (evF []) (by decide)) .nil) rfl ?_ | refine K1.z ?_ | refine K1.y (fun _ => ?_) (fun _ => ?_) | fail)
 all_goals (conv => whnf)
 exact ⟨[],rfl,rfl,trivial,rfl,rfl,AEq.refl _⟩
end Go.Proofs.YtimhagicagdkfaaGreat

/-
 live.with: in all its cases at once.
-/
namespace Go.Proofs.YtimhagicagdkfaaGreat
open Go.RowKit
inductive WithIs (l : List Ev) (e : Ev) : Prop where
  | own (r : Ev) (rs : List Ev) (h : liveW l e = r :: rs) (hs : MSpec Tryz.prog 132 [(0,evR l)] [.own 0,e.av] (.own 1) [(1,evR (r :: rs))])
  | same (h : liveW l e = l) (hs : MSpec Tryz.prog 132 [(0,evR l)] [.own 0,e.av] (.own 0) [(0,evR l)])
  | nil (h : liveW l e = []) (hs : MSpec Tryz.prog 132 [(0,evR l)] [.own 0,e.av] (.v (.slice none 0 0)) [])
theorem drop_wout (kind : Int) (same : Ev → Bool) (e : Ev) (l : List Ev) : dropB kind same e l = l.filter (woutP kind same e) := by
 unfold dropB
 refine List.filter_congr fun a _ => ?_
 unfold woutP
 cases decide (a.k = kind) <;> cases same a <;> cases belowB a e <;> rfl
theorem crtd_cr (l : List Ev) (e : Ev) : crtdB l e = l.any (crP e) := by
 unfold crtdB
 refine any_congr fun a _ => ?_
 rfl
theorem cnt_cr (l : List Ev) : (l.filter fun a => decide (a.k = 1) || crtdB l a) = l.filter (cntP l) := by
 refine List.filter_congr fun a _ => ?_
 unfold cntP
 rw [crtd_cr]
theorem app_own {l : List Ev} {e : Ev} {m : List Ev} (h : liveW l e = m ++ [e]) (hs : MSpec Tryz.prog 132 [(0,evR l)] [.own 0,e.av] (.own 1) [(1,evR (m ++ [e]))]) : WithIs l e := by
 cases hm : m ++ [e] with
 | nil => simp at hm
 | cons r rs => rw [hm] at h hs; exact .own r rs h hs
theorem with_all (l : List Ev) (e : Ev) (hk : 1 ≤ e.k ∧ e.k ≤ 5) (hl : l.length ≤ 1000000000) : WithIs l e := by
 rcases (show e.k = 1 ∨ e.k = 2 ∨ e.k = 3 ∨ e.k = 4 ∨ e.k = 5 by omega) with h | h | h | h | h
 · exact app_own (m := l) (by unfold liveW; rw [if_pos h]) (with_1 l e h hl)
 · have hw : liveW l e = (l.filter (woutP 1 (fun _ => true) e)).filter (cntP (l.filter (woutP 1 (fun _ => true) e))) := by
    unfold liveW
    rw [if_neg (by omega),if_pos h,drop_wout,cnt_cr]
   cases hr : l.filter (woutP 1 (fun _ => true) e) with
   | nil => rw [hr] at hw; exact .nil hw (with_2nil l e h hr hl)
   | cons r rs =>
     rw [hr] at hw
     cases hx : (r :: rs).filter (cntP (r :: rs)) with
     | nil => rw [hx] at hw; exact .nil hw (with_2cut l e h r rs hr hx hl)
     | cons x xs => rw [hx] at hw; exact .own x xs hw (with_2own l e h r rs hr x xs hx hl)
 · cases hc : l.any (crP e) with
   | false => exact .same (by unfold liveW; rw [if_neg (by omega),if_neg (by omega),if_pos h,crtd_cr,hc]; rfl) (with_3no l e h hc hl)
   | true =>
     have hw : liveW l e = l.filter (woutP 3 (fun a => decide (a.l = e.l)) e) ++ [e] := by
      unfold liveW
      rw [if_neg (by omega),if_neg (by omega),if_pos h,crtd_cr,hc,if_pos rfl,drop_wout]
      rfl
     cases hr : l.filter (woutP 3 (fun a => decide (a.l = e.l)) e) with
     | nil => rw [hr] at hw; exact app_own hw (with_3nil l e h hc hr hl)
     | cons r rs => rw [hr] at hw; exact app_own hw (with_3own l e h hc r rs hr hl)
 · cases hc : l.any (crP e) with
   | false => exact .same (by unfold liveW; rw [if_neg (by omega),if_neg (by omega),if_neg (by omega),if_neg (by omega),crtd_cr,hc]; rfl) (with_4no l e h hc hl)
   | true =>
     have hw : liveW l e = l.filter (woutP 4 (fun a => decide (a.l = e.l) && decide (a.v = e.v)) e) ++ [e] := by
      unfold liveW
      rw [if_neg (by omega),if_neg (by omega),if_neg (by omega),if_neg (by omega),crtd_cr,hc,if_pos rfl,drop_wout]
      rfl
     cases hr : l.filter (woutP 4 (fun a => decide (a.l = e.l) && decide (a.v = e.v)) e) with
     | nil => rw [hr] at hw; exact app_own hw (with_4nil l e h hc hr hl)
     | cons r rs => rw [hr] at hw; exact app_own hw (with_4own l e h hc r rs hr hl)
 · have hw : liveW l e = l.filter (woutP 4 (fun a => decide (a.l = e.l) && decide (a.v = e.v)) e) := by
    unfold liveW
    rw [if_neg (by omega),if_neg (by omega),if_neg (by omega),if_pos h,drop_wout]
    rfl
   cases hr : l.filter (woutP 4 (fun a => decide (a.l = e.l) && decide (a.v = e.v)) e) with
   | nil => rw [hr] at hw; exact .nil hw (with_5nil l e h hr hl)
   | cons r rs => rw [hr] at hw; exact .own r rs hw (with_5own l e h r rs hr hl)
end Go.Proofs.YtimhagicagdkfaaGreat

/-
 What package text computes,for the books.
-/
