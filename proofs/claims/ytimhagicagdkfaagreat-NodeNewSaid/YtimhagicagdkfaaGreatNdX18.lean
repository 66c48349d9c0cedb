/-
  Contracts of the walk: LvC, LvO, LvU.
-/
import Derived.Test.YtimhagicagdkfaaGreatNdX17
import Derived.Test.YtimhagicagdkfaaGreatNdX2
/-
 live.without: events but those of a kind that are below an event and of its thing.
-/
namespace Go.Proofs.YtimhagicagdkfaaGreat
open Go.RowKit
abbrev evR (l : List Ev) : AO := .row 42 12 l.length true (evF l)
def woutP (kind : Int) (same : Ev → Bool) (e a : Ev) : Bool := !decide (a.k = kind) || (!same a || !belowB a e)
theorem wout_k {kind : Int} {same : Ev → Bool} {e a : Ev} (h : ¬ a.k = kind) : woutP kind same e a = true := by unfold woutP; rw [decide_eq_false h]; rfl
theorem wout_s {kind : Int} {same : Ev → Bool} {e a : Ev} (h : same a = false) : woutP kind same e a = true := by unfold woutP; rw [h]; simp
theorem wout_b {kind : Int} {same : Ev → Bool} {e a : Ev} (h : belowB a e = false) : woutP kind same e a = true := by unfold woutP; rw [h]; simp
theorem wout_n {kind : Int} {same : Ev → Bool} {e a : Ev} (h : a.k = kind) (h1 : same a = true) (h2 : belowB a e = true) : woutP kind same e a = false := by unfold woutP; rw [decide_eq_true h,h1,h2]; rfl
set_option maxHeartbeats 4000000 in
set_option maxRecDepth 100000 in
theorem without_own (g : FuncId) (same : Ev → Bool) (kind : Int) (e : Ev) (hs : ∀ a,MSpec Tryz.prog g [(0, .box 42 e.cs)] [a.av, .box 0 0] (.v (.bool (same a))) [(0, .box 42 e.cs)])
  (l : List Ev) (r : Ev) (rs : List Ev) (hr : l.filter (woutP kind same e) = r :: rs) (hl : l.length ≤ 1000000000) :
  MSpec Tryz.prog 159 [(0, .box 42 e.cs),(1,evR l)] [.own 1,e.av, .v (.int .i64 kind), .fn g [.box 0 0]] (.own 2) [(0, .box 42 e.cs),(2, .row 42 12 (rs.length + 1) true (evF (r :: rs)))] := by
 dsimp only [Ev.av,Ev.cs]
 refine K1.M 0x20000fb2f Tryz.func159 10 ?_
 repeat' ((conv => whnf); first | refine K1.w ?_ | refine K1.u ?_ | refine ARet.hdI ?_ | refine K1.z ?_ | refine K1.y (fun _ => ?_) (fun _ => ?_) | fail)
 conv => whnf
 refine ALoop.frz 1 rfl ?_
 refine ALoop.mk (Took (woutP kind same e) l) (fun x => match x with
   | ⟨(j,[]),_⟩ => ⟨[(0, .sl 12 l.length true (evF l)),(2, .v (.int .i64 kind)),(3, .fn g [.box 0 0]),(5, .box 10 0),(9, .v (.slice none 0 0)),(12, .sl 12 l.length true (evF l)),(13, .v (.int .i64 (l.length : Int))),(14, .v (.int .i64 (j : Int)))],[(10, .box 42 e.cs),(0, .box 42 e.cs)],[[(0, .box 0 0),(1, .sl 12 l.length true (evF l))]],11⟩
   | ⟨(j,y :: ys),_⟩ => ⟨[(0, .sl 12 l.length true (evF l)),(2, .v (.int .i64 kind)),(3, .fn g [.box 0 0]),(5, .box 10 0),(9, .own 90),(12, .sl 12 l.length true (evF l)),(13, .v (.int .i64 (l.length : Int))),(14, .v (.int .i64 (j : Int)))],[(10, .box 42 e.cs),(0, .box 42 e.cs),(90, .row 42 12 (ys.length + 1) true (evF (y :: ys)))],[[(0, .box 0 0),(1, .sl 12 l.length true (evF l))]],91⟩) (fun x => l.length - x.1.1) ⟨(0,[]),Nat.zero_le _,rfl⟩ _
   (LeR.mk' [] _ _ _ rfl ⟨AEq.refl _,AEq.refl _,AEq.refl _,AEq.refl _,AEq.refl _,AEq.refl _,AEq.int rfl,AEq.int rfl,trivial⟩ ⟨⟨_,rfl,OEq.refl _⟩,⟨_,rfl,OEq.refl _⟩,trivial⟩ rfl) ?_
 rintro ⟨⟨j,ys⟩,hj,hys⟩
 dsimp only at hj hys
 rcases ys with _ | ⟨y,ys⟩
 · dsimp only
   by_cases hjl : j < l.length
   · have hab := hs (l.getD (j : Int).toNat default)
     have hbb := below_spec (l.getD (j : Int).toNat default) e
     have hft := filter_take (p := woutP kind same e) hjl
     rw [← hys,List.nil_append] at hft
     rw [show l.getD j default = l.getD (j : Int).toNat default from rfl] at hft
     have hk : ¬ (l.getD (j : Int).toNat default).k = kind → [l.getD j default] = (l.take (j + 1)).filter (woutP kind same e) := fun h => by rw [hft,wout_k h]; rfl
     have hsm : same (l.getD (j : Int).toNat default) = false → [l.getD j default] = (l.take (j + 1)).filter (woutP kind same e) := fun h => by rw [hft,wout_s h]; rfl
     have hbl : belowB (l.getD (j : Int).toNat default) e = false → [l.getD j default] = (l.take (j + 1)).filter (woutP kind same e) := fun h => by rw [hft,wout_b h]; rfl
     have hno : (l.getD (j : Int).toNat default).k = kind → same (l.getD (j : Int).toNat default) = true → belowB (l.getD (j : Int).toNat default) e = true → [] = (l.take (j + 1)).filter (woutP kind same e) := fun h h1 h2 => by rw [hft,wout_n h h1 h2]; simp
     clear hft
     generalize same (l.getD (j : Int).toNat default) = q1 at hab hsm hno
     generalize belowB (l.getD (j : Int).toNat default) e = q2 at hbb hbl hno
     dsimp only [Ev.av,Ev.cs] at hab hbb ⊢
     repeat' ((conv => whnf); first | refine K1.w ?_ | refine K1.u ?_ | refine K1.C 1 [(0,_)] (hab) rfl ?_ | refine K1.P1 (hbb) rfl ?_ | refine ARet.hdI ?_ | refine K1.z ?_ | refine K1.y (fun _ => ?_) (fun _ => ?_) | fail)
     all_goals (conv => whnf)
     all_goals first
       | exact ⟨⟨(j + 1,[]),hjl,hno (by assumption) (by assumption) (by assumption)⟩,_,LeR.mk' [] _ _ _ rfl ⟨AEq.refl _,AEq.refl _,AEq.refl _,AEq.refl _,AEq.refl _,AEq.refl _,AEq.int rfl,AEq.int rfl,trivial⟩ ⟨⟨_,rfl,OEq.refl _⟩,⟨_,rfl,OEq.refl _⟩,trivial⟩ rfl,by show l.length - (j + 1) < l.length - j; omega⟩
       | (refine ⟨⟨(j + 1,[l.getD j default]),hjl,by first | exact hk (by assumption) | exact hsm (by assumption) | exact hbl (by assumption)⟩,_,LeR.mk' [(12,90)] _ _ _ rfl ⟨AEq.refl _,AEq.refl _,AEq.refl _,AEq.refl _,AEq.refl _,AEq.refl _,AEq.int rfl,AEq.int rfl,trivial⟩ ⟨⟨_,rfl,OEq.refl _⟩,⟨_,rfl,OEq.refl _⟩,⟨_,rfl,OEq.row rfl (fun m hm => ?_)⟩,trivial⟩ rfl,by show l.length - (j + 1) < l.length - j; omega⟩
          have hm : m < 1 := hm
          obtain rfl : m = 0 := by omega
          rfl)
       | (refine ⟨⟨(j + 1,[l.getD j default]),hjl,by first | exact hk (by assumption) | exact hsm (by assumption) | exact hbl (by assumption)⟩,_,LeR.mk' [(13,90)] _ _ _ rfl ⟨AEq.refl _,AEq.refl _,AEq.refl _,AEq.refl _,AEq.refl _,AEq.refl _,AEq.int rfl,AEq.int rfl,trivial⟩ ⟨⟨_,rfl,OEq.refl _⟩,⟨_,rfl,OEq.refl _⟩,⟨_,rfl,OEq.row rfl (fun m hm => ?_)⟩,trivial⟩ rfl,by show l.length - (j + 1) < l.length - j; omega⟩
          have hm : m < 1 := hm
          obtain rfl : m = 0 := by omega
          rfl)
       | (refine ⟨⟨(j + 1,[l.getD j default]),hjl,by first | exact hk (by assumption) | exact hsm (by assumption) | exact hbl (by assumption)⟩,_,LeR.mk' [(14,90)] _ _ _ rfl ⟨AEq.refl _,AEq.refl _,AEq.refl _,AEq.refl _,AEq.refl _,AEq.refl _,AEq.int rfl,AEq.int rfl,trivial⟩ ⟨⟨_,rfl,OEq.refl _⟩,⟨_,rfl,OEq.refl _⟩,⟨_,rfl,OEq.row rfl (fun m hm => ?_)⟩,trivial⟩ rfl,by show l.length - (j + 1) < l.length - j; omega⟩
          have hm : m < 1 := hm
          obtain rfl : m = 0 := by omega
          rfl)
       | (refine ⟨⟨(j + 1,[l.getD j default]),hjl,by first | exact hk (by assumption) | exact hsm (by assumption) | exact hbl (by assumption)⟩,_,LeR.mk' [(15,90)] _ _ _ rfl ⟨AEq.refl _,AEq.refl _,AEq.refl _,AEq.refl _,AEq.refl _,AEq.refl _,AEq.int rfl,AEq.int rfl,trivial⟩ ⟨⟨_,rfl,OEq.refl _⟩,⟨_,rfl,OEq.refl _⟩,⟨_,rfl,OEq.row rfl (fun m hm => ?_)⟩,trivial⟩ rfl,by show l.length - (j + 1) < l.length - j; omega⟩
          have hm : m < 1 := hm
          obtain rfl : m = 0 := by omega
          rfl)
   · have e0 : l.filter (woutP kind same e) = [] := by rw [List.take_of_length_le (by omega)] at hys; exact hys.symm
     rw [hr] at e0
     cases e0
 · dsimp only
   have hyl : ys.length + 1 ≤ j := by
    have h1 := congrArg List.length hys
    have h2 := List.length_filter_le (woutP kind same e) (l.take j)
    rw [List.length_take] at h2
    rw [List.length_cons] at h1
    omega
   by_cases hjl : j < l.length
   · have hab := hs (l.getD (j : Int).toNat default)
     have hbb := below_spec (l.getD (j : Int).toNat default) e
     have hft := filter_take (p := woutP kind same e) hjl
     rw [← hys] at hft
     rw [show l.getD j default = l.getD (j : Int).toNat default from rfl] at hft
     have hk : ¬ (l.getD (j : Int).toNat default).k = kind → y :: (ys ++ [l.getD j default]) = (l.take (j + 1)).filter (woutP kind same e) := fun h => by rw [hft,wout_k h]; rfl
     have hsm : same (l.getD (j : Int).toNat default) = false → y :: (ys ++ [l.getD j default]) = (l.take (j + 1)).filter (woutP kind same e) := fun h => by rw [hft,wout_s h]; rfl
     have hbl : belowB (l.getD (j : Int).toNat default) e = false → y :: (ys ++ [l.getD j default]) = (l.take (j + 1)).filter (woutP kind same e) := fun h => by rw [hft,wout_b h]; rfl
     have hno : (l.getD (j : Int).toNat default).k = kind → same (l.getD (j : Int).toNat default) = true → belowB (l.getD (j : Int).toNat default) e = true → y :: ys = (l.take (j + 1)).filter (woutP kind same e) := fun h h1 h2 => by rw [hft,wout_n h h1 h2]; simp
     clear hft
     generalize same (l.getD (j : Int).toNat default) = q1 at hab hsm hno
     generalize belowB (l.getD (j : Int).toNat default) e = q2 at hbb hbl hno
     dsimp only [Ev.av,Ev.cs] at hab hbb ⊢
     repeat' ((conv => whnf); first | refine K1.w ?_ | refine K1.u ?_ | refine K1.C 1 [(0,_)] (hab) rfl ?_ | refine K1.P1 (hbb) rfl ?_ | refine ARet.hdI ?_ | refine K1.z ?_ | refine K1.y (fun _ => ?_) (fun _ => ?_) | fail)
     all_goals (conv => whnf)
     all_goals first
       | exact ⟨⟨(j + 1,y :: ys),hjl,hno (by assumption) (by assumption) (by assumption)⟩,_,LeR.mk' [] _ _ _ rfl ⟨AEq.refl _,AEq.refl _,AEq.refl _,AEq.refl _,AEq.refl _,AEq.refl _,AEq.int rfl,AEq.int rfl,trivial⟩ ⟨⟨_,rfl,OEq.refl _⟩,⟨_,rfl,OEq.refl _⟩,⟨_,rfl,OEq.refl _⟩,trivial⟩ rfl,by show l.length - (j + 1) < l.length - j; omega⟩
       | (refine ⟨⟨(j + 1,y :: (ys ++ [l.getD j default])),hjl,by first | exact hk (by assumption) | exact hsm (by assumption) | exact hbl (by assumption)⟩,_,LeR.mk' [(92,90)] _ _ _ rfl ⟨AEq.refl _,AEq.refl _,AEq.refl _,AEq.refl _,AEq.refl _,AEq.refl _,AEq.int rfl,AEq.int rfl,trivial⟩ ⟨⟨_,rfl,OEq.refl _⟩,⟨_,rfl,OEq.refl _⟩,⟨_,rfl,OEq.row (by simp) (fun m hm => ?_)⟩,trivial⟩ rfl,by show l.length - (j + 1) < l.length - j; omega⟩
          exact els_app1 (c := Ev.cs) (l := y :: ys) rfl rfl m hm)
       | (refine ⟨⟨(j + 1,y :: (ys ++ [l.getD j default])),hjl,by first | exact hk (by assumption) | exact hsm (by assumption) | exact hbl (by assumption)⟩,_,LeR.mk' [(93,90)] _ _ _ rfl ⟨AEq.refl _,AEq.refl _,AEq.refl _,AEq.refl _,AEq.refl _,AEq.refl _,AEq.int rfl,AEq.int rfl,trivial⟩ ⟨⟨_,rfl,OEq.refl _⟩,⟨_,rfl,OEq.refl _⟩,⟨_,rfl,OEq.row (by simp) (fun m hm => ?_)⟩,trivial⟩ rfl,by show l.length - (j + 1) < l.length - j; omega⟩
          exact els_app1 (c := Ev.cs) (l := y :: ys) rfl rfl m hm)
       | (refine ⟨⟨(j + 1,y :: (ys ++ [l.getD j default])),hjl,by first | exact hk (by assumption) | exact hsm (by assumption) | exact hbl (by assumption)⟩,_,LeR.mk' [(94,90)] _ _ _ rfl ⟨AEq.refl _,AEq.refl _,AEq.refl _,AEq.refl _,AEq.refl _,AEq.refl _,AEq.int rfl,AEq.int rfl,trivial⟩ ⟨⟨_,rfl,OEq.refl _⟩,⟨_,rfl,OEq.refl _⟩,⟨_,rfl,OEq.row (by simp) (fun m hm => ?_)⟩,trivial⟩ rfl,by show l.length - (j + 1) < l.length - j; omega⟩
          exact els_app1 (c := Ev.cs) (l := y :: ys) rfl rfl m hm)
       | (refine ⟨⟨(j + 1,y :: (ys ++ [l.getD j default])),hjl,by first | exact hk (by assumption) | exact hsm (by assumption) | exact hbl (by assumption)⟩,_,LeR.mk' [(95,90)] _ _ _ rfl ⟨AEq.refl _,AEq.refl _,AEq.refl _,AEq.refl _,AEq.refl _,AEq.refl _,AEq.int rfl,AEq.int rfl,trivial⟩ ⟨⟨_,rfl,OEq.refl _⟩,⟨_,rfl,OEq.refl _⟩,⟨_,rfl,OEq.row (by simp) (fun m hm => ?_)⟩,trivial⟩ rfl,by show l.length - (j + 1) < l.length - j; omega⟩
          exact els_app1 (c := Ev.cs) (l := y :: ys) rfl rfl m hm)
   · have e0 : l.filter (woutP kind same e) = y :: ys := by rw [List.take_of_length_le (by omega)] at hys; exact hys.symm
     rw [hr] at e0
     cases e0
     repeat' ((conv => whnf); first | refine K1.w ?_ | refine K1.u ?_ | refine ARet.hdI ?_ | refine K1.z ?_ | refine K1.y (fun _ => ?_) (fun _ => ?_) | fail)
     conv => whnf
     exact ⟨[(90,2)],rfl,rfl,⟨⟨_,rfl,OEq.refl _⟩,⟨_,rfl,OEq.refl _⟩,trivial⟩,rfl,rfl,AEq.refl _⟩
set_option maxHeartbeats 4000000 in
set_option maxRecDepth 100000 in
theorem without_nil (g : FuncId) (same : Ev → Bool) (kind : Int) (e : Ev) (hs : ∀ a,MSpec Tryz.prog g [(0, .box 42 e.cs)] [a.av, .box 0 0] (.v (.bool (same a))) [(0, .box 42 e.cs)])
  (l : List Ev) (hr : l.filter (woutP kind same e) = []) (hl : l.length ≤ 1000000000) :
  MSpec Tryz.prog 159 [(0, .box 42 e.cs),(1,evR l)] [.own 1,e.av, .v (.int .i64 kind), .fn g [.box 0 0]] (.v (.slice none 0 0)) [(0, .box 42 e.cs)] := by
 dsimp only [Ev.av,Ev.cs]
 refine K1.M 0x20000fb2f Tryz.func159 10 ?_
 repeat' ((conv => whnf); first | refine K1.w ?_ | refine K1.u ?_ | refine ARet.hdI ?_ | refine K1.z ?_ | refine K1.y (fun _ => ?_) (fun _ => ?_) | fail)
 conv => whnf
 refine ALoop.frz 1 rfl ?_
 refine ALoop.mk (Took (woutP kind same e) l) (fun x => match x with
   | ⟨(j,[]),_⟩ => ⟨[(0, .sl 12 l.length true (evF l)),(2, .v (.int .i64 kind)),(3, .fn g [.box 0 0]),(5, .box 10 0),(9, .v (.slice none 0 0)),(12, .sl 12 l.length true (evF l)),(13, .v (.int .i64 (l.length : Int))),(14, .v (.int .i64 (j : Int)))],[(10, .box 42 e.cs),(0, .box 42 e.cs)],[[(0, .box 0 0),(1, .sl 12 l.length true (evF l))]],11⟩
   | ⟨(j,y :: ys),_⟩ => ⟨[(0, .sl 12 l.length true (evF l)),(2, .v (.int .i64 kind)),(3, .fn g [.box 0 0]),(5, .box 10 0),(9, .own 90),(12, .sl 12 l.length true (evF l)),(13, .v (.int .i64 (l.length : Int))),(14, .v (.int .i64 (j : Int)))],[(10, .box 42 e.cs),(0, .box 42 e.cs),(90, .row 42 12 (ys.length + 1) true (evF (y :: ys)))],[[(0, .box 0 0),(1, .sl 12 l.length true (evF l))]],91⟩) (fun x => l.length - x.1.1) ⟨(0,[]),Nat.zero_le _,rfl⟩ _
   (LeR.mk' [] _ _ _ rfl ⟨AEq.refl _,AEq.refl _,AEq.refl _,AEq.refl _,AEq.refl _,AEq.refl _,AEq.int rfl,AEq.int rfl,trivial⟩ ⟨⟨_,rfl,OEq.refl _⟩,⟨_,rfl,OEq.refl _⟩,trivial⟩ rfl) ?_
 rintro ⟨⟨j,ys⟩,hj,hys⟩
 dsimp only at hj hys
 rcases ys with _ | ⟨y,ys⟩
 · dsimp only
   by_cases hjl : j < l.length
   · have hab := hs (l.getD (j : Int).toNat default)
     have hbb := below_spec (l.getD (j : Int).toNat default) e
     have hft := filter_take (p := woutP kind same e) hjl
     rw [← hys,List.nil_append] at hft
     rw [show l.getD j default = l.getD (j : Int).toNat default from rfl] at hft
     have hk : ¬ (l.getD (j : Int).toNat default).k = kind → [l.getD j default] = (l.take (j + 1)).filter (woutP kind same e) := fun h => by rw [hft,wout_k h]; rfl
     have hsm : same (l.getD (j : Int).toNat default) = false → [l.getD j default] = (l.take (j + 1)).filter (woutP kind same e) := fun h => by rw [hft,wout_s h]; rfl
     have hbl : belowB (l.getD (j : Int).toNat default) e = false → [l.getD j default] = (l.take (j + 1)).filter (woutP kind same e) := fun h => by rw [hft,wout_b h]; rfl
     have hno : (l.getD (j : Int).toNat default).k = kind → same (l.getD (j : Int).toNat default) = true → belowB (l.getD (j : Int).toNat default) e = true → [] = (l.take (j + 1)).filter (woutP kind same e) := fun h h1 h2 => by rw [hft,wout_n h h1 h2]; simp
     clear hft
     generalize same (l.getD (j : Int).toNat default) = q1 at hab hsm hno
     generalize belowB (l.getD (j : Int).toNat default) e = q2 at hbb hbl hno
     dsimp only [Ev.av,Ev.cs] at hab hbb ⊢
     repeat' ((conv => whnf); first | refine K1.w ?_ | refine K1.u ?_ | refine K1.C 1 [(0,_)] (hab) rfl ?_ | refine K1.P1 (hbb) rfl ?_ | refine ARet.hdI ?_ | refine K1.z ?_ | refine K1.y (fun _ => ?_) (fun _ => ?_) | fail)
     all_goals (conv => whnf)
     all_goals first
       | exact ⟨⟨(j + 1,[]),hjl,hno (by assumption) (by assumption) (by assumption)⟩,_,LeR.mk' [] _ _ _ rfl ⟨AEq.refl _,AEq.refl _,AEq.refl _,AEq.refl _,AEq.refl _,AEq.refl _,AEq.int rfl,AEq.int rfl,trivial⟩ ⟨⟨_,rfl,OEq.refl _⟩,⟨_,rfl,OEq.refl _⟩,trivial⟩ rfl,by show l.length - (j + 1) < l.length - j; omega⟩
       | (refine ⟨⟨(j + 1,[l.getD j default]),hjl,by first | exact hk (by assumption) | exact hsm (by assumption) | exact hbl (by assumption)⟩,_,LeR.mk' [(12,90)] _ _ _ rfl ⟨AEq.refl _,AEq.refl _,AEq.refl _,AEq.refl _,AEq.refl _,AEq.refl _,AEq.int rfl,AEq.int rfl,trivial⟩ ⟨⟨_,rfl,OEq.refl _⟩,⟨_,rfl,OEq.refl _⟩,⟨_,rfl,OEq.row rfl (fun m hm => ?_)⟩,trivial⟩ rfl,by show l.length - (j + 1) < l.length - j; omega⟩
          have hm : m < 1 := hm
          obtain rfl : m = 0 := by omega
          rfl)
       | (refine ⟨⟨(j + 1,[l.getD j default]),hjl,by first | exact hk (by assumption) | exact hsm (by assumption) | exact hbl (by assumption)⟩,_,LeR.mk' [(13,90)] _ _ _ rfl ⟨AEq.refl _,AEq.refl _,AEq.refl _,AEq.refl _,AEq.refl _,AEq.refl _,AEq.int rfl,AEq.int rfl,trivial⟩ ⟨⟨_,rfl,OEq.refl _⟩,⟨_,rfl,OEq.refl _⟩,⟨_,rfl,OEq.row rfl (fun m hm => ?_)⟩,trivial⟩ rfl,by show l.length - (j + 1) < l.length - j; omega⟩
          have hm : m < 1 := hm
          obtain rfl : m = 0 := by omega
          rfl)
       | (refine ⟨⟨(j + 1,[l.getD j default]),hjl,by first | exact hk (by assumption) | exact hsm (by assumption) | exact hbl (by assumption)⟩,_,LeR.mk' [(14,90)] _ _ _ rfl ⟨AEq.refl _,AEq.refl _,AEq.refl _,AEq.refl _,AEq.refl _,AEq.refl _,AEq.int rfl,AEq.int rfl,trivial⟩ ⟨⟨_,rfl,OEq.refl _⟩,⟨_,rfl,OEq.refl _⟩,⟨_,rfl,OEq.row rfl (fun m hm => ?_)⟩,trivial⟩ rfl,by show l.length - (j + 1) < l.length - j; omega⟩
          have hm : m < 1 := hm
          obtain rfl : m = 0 := by omega
          rfl)
       | (refine ⟨⟨(j + 1,[l.getD j default]),hjl,by first | exact hk (by assumption) | exact hsm (by assumption) | exact hbl (by assumption)⟩,_,LeR.mk' [(15,90)] _ _ _ rfl ⟨AEq.refl _,AEq.refl _,AEq.refl _,AEq.refl _,AEq.refl _,AEq.refl _,AEq.int rfl,AEq.int rfl,trivial⟩ ⟨⟨_,rfl,OEq.refl _⟩,⟨_,rfl,OEq.refl _⟩,⟨_,rfl,OEq.row rfl (fun m hm => ?_)⟩,trivial⟩ rfl,by show l.length - (j + 1) < l.length - j; omega⟩
          have hm : m < 1 := hm
          obtain rfl : m = 0 := by omega
          rfl)
   · repeat' ((conv => whnf); first | refine K1.w ?_ | refine K1.u ?_ | refine ARet.hdI ?_ | refine K1.z ?_ | refine K1.y (fun _ => ?_) (fun _ => ?_) | fail)
     conv => whnf
     exact ⟨[],rfl,rfl,⟨⟨_,rfl,OEq.refl _⟩,trivial⟩,rfl,rfl,AEq.refl _⟩
 · dsimp only
   have hyl : ys.length + 1 ≤ j := by
    have h1 := congrArg List.length hys
    have h2 := List.length_filter_le (woutP kind same e) (l.take j)
    rw [List.length_take] at h2
    rw [List.length_cons] at h1
    omega
   by_cases hjl : j < l.length
   · have hab := hs (l.getD (j : Int).toNat default)
     have hbb := below_spec (l.getD (j : Int).toNat default) e
     have hft := filter_take (p := woutP kind same e) hjl
     rw [← hys] at hft
     rw [show l.getD j default = l.getD (j : Int).toNat default from rfl] at hft
     have hk : ¬ (l.getD (j : Int).toNat default).k = kind → y :: (ys ++ [l.getD j default]) = (l.take (j + 1)).filter (woutP kind same e) := fun h => by rw [hft,wout_k h]; rfl
     have hsm : same (l.getD (j : Int).toNat default) = false → y :: (ys ++ [l.getD j default]) = (l.take (j + 1)).filter (woutP kind same e) := fun h => by rw [hft,wout_s h]; rfl
     have hbl : belowB (l.getD (j : Int).toNat default) e = false → y :: (ys ++ [l.getD j default]) = (l.take (j + 1)).filter (woutP kind same e) := fun h => by rw [hft,wout_b h]; rfl
     have hno : (l.getD (j : Int).toNat default).k = kind → same (l.getD (j : Int).toNat default) = true → belowB (l.getD (j : Int).toNat default) e = true → y :: ys = (l.take (j + 1)).filter (woutP kind same e) := fun h h1 h2 => by rw [hft,wout_n h h1 h2]; simp
     clear hft
     generalize same (l.getD (j : Int).toNat default) = q1 at hab hsm hno
     generalize belowB (l.getD (j : Int).toNat default) e = q2 at hbb hbl hno
     dsimp only [Ev.av,Ev.cs] at hab hbb ⊢
     repeat' ((conv => whnf); first | refine K1.w ?_ | refine K1.u ?_ | refine K1.C 1 [(0,_)] (hab) rfl ?_ | refine K1.P1 (hbb) rfl ?_ | refine ARet.hdI ?_ | refine K1.z ?_ | refine K1.y (fun _ => ?_) (fun _ => ?_) | fail)
     all_goals (conv => whnf)
     all_goals first
       | exact ⟨⟨(j + 1,y :: ys),hjl,hno (by assumption) (by assumption) (by assumption)⟩,_,LeR.mk' [] _ _ _ rfl ⟨AEq.refl _,AEq.refl _,AEq.refl _,AEq.refl _,AEq.refl _,AEq.refl _,AEq.int rfl,AEq.int rfl,trivial⟩ ⟨⟨_,rfl,OEq.refl _⟩,⟨_,rfl,OEq.refl _⟩,⟨_,rfl,OEq.refl _⟩,trivial⟩ rfl,by show l.length - (j + 1) < l.length - j; omega⟩
       | (refine ⟨⟨(j + 1,y :: (ys ++ [l.getD j default])),hjl,by first | exact hk (by assumption) | exact hsm (by assumption) | exact hbl (by assumption)⟩,_,LeR.mk' [(92,90)] _ _ _ rfl ⟨AEq.refl _,AEq.refl _,AEq.refl _,AEq.refl _,AEq.refl _,AEq.refl _,AEq.int rfl,AEq.int rfl,trivial⟩ ⟨⟨_,rfl,OEq.refl _⟩,⟨_,rfl,OEq.refl _⟩,⟨_,rfl,OEq.row (by simp) (fun m hm => ?_)⟩,trivial⟩ rfl,by show l.length - (j + 1) < l.length - j; omega⟩
          exact els_app1 (c := Ev.cs) (l := y :: ys) rfl rfl m hm)
       | (refine ⟨⟨(j + 1,y :: (ys ++ [l.getD j default])),hjl,by first | exact hk (by assumption) | exact hsm (by assumption) | exact hbl (by assumption)⟩,_,LeR.mk' [(93,90)] _ _ _ rfl ⟨AEq.refl _,AEq.refl _,AEq.refl _,AEq.refl _,AEq.refl _,AEq.refl _,AEq.int rfl,AEq.int rfl,trivial⟩ ⟨⟨_,rfl,OEq.refl _⟩,⟨_,rfl,OEq.refl _⟩,⟨_,rfl,OEq.row (by simp) (fun m hm => ?_)⟩,trivial⟩ rfl,by show l.length - (j + 1) < l.length - j; omega⟩
          exact els_app1 (c := Ev.cs) (l := y :: ys) rfl rfl m hm)
       | (refine ⟨⟨(j + 1,y :: (ys ++ [l.getD j default])),hjl,by first | exact hk (by assumption) | exact hsm (by assumption) | exact hbl (by assumption)⟩,_,LeR.mk' [(94,90)] _ _ _ rfl ⟨AEq.refl _,AEq.refl _,AEq.refl _,AEq.refl _,AEq.refl _,AEq.refl _,AEq.int rfl,AEq.int rfl,trivial⟩ ⟨⟨_,rfl,OEq.refl _⟩,⟨_,rfl,OEq.refl _⟩,⟨_,rfl,OEq.row (by simp) (fun m hm => ?_)⟩,trivial⟩ rfl,by show l.length - (j + 1) < l.length - j; omega⟩
          exact els_app1 (c := Ev.cs) (l := y :: ys) rfl rfl m hm)
       | (refine ⟨⟨(j + 1,y :: (ys ++ [l.getD j default])),hjl,by first | exact hk (by assumption) | exact hsm (by assumption) | exact hbl (by assumption)⟩,_,LeR.mk' [(95,90)] _ _ _ rfl ⟨AEq.refl _,AEq.refl _,AEq.refl _,AEq.refl _,AEq.refl _,AEq.refl _,AEq.int rfl,AEq.int rfl,trivial⟩ ⟨⟨_,rfl,OEq.refl _⟩,⟨_,rfl,OEq.refl _⟩,⟨_,rfl,OEq.row (by simp) (fun m hm => ?_)⟩,trivial⟩ rfl,by show l.length - (j + 1) < l.length - j; omega⟩
          exact els_app1 (c := Ev.cs) (l := y :: ys) rfl rfl m hm)
   · have e0 : l.filter (woutP kind same e) = y :: ys := by rw [List.take_of_length_le (by omega)] at hys; exact hys.symm
     rw [hr] at e0
     cases e0
end Go.Proofs.YtimhagicagdkfaaGreat

/-
 A book that is kept (live.State),told as a whole: by each key's events and the number of all; opened at a key,and closed again.
-/
namespace Go.Proofs.YtimhagicagdkfaaGreat
open Go.RowKit
theorem HidOk.split {X : CX} {k : ByteArray} {r : RW} {post : List (ByteArray × RW)} : ∀ {pre : List (ByteArray × RW)} {hs : List Value},HidOk X (pre ++ (k,r) :: post) hs → ∃ hp v hq,hs = hp ++ v :: hq ∧ hp.length = pre.length ∧ RowOk X v r.e r.s r.n r.sc r.f ∧ HidOk X (pre ++ post) (hp ++ hq)
  | [],_,⟨v,q,e,hr,hq⟩ => ⟨[],v,q,e,rfl,hr,hq⟩
  | (_,r') :: pre,_,⟨v',q,e,hr,hq⟩ => by
    obtain ⟨hp,v,hq',e',hl,h1,h2⟩ := HidOk.split hq
    exact ⟨v' :: hp,v,hq',by rw [e,e']; rfl,by simp [hl],h1,v',_,rfl,hr,h2⟩
theorem HidOk.len {X : CX} : ∀ {rs : List (ByteArray × RW)} {hs : List Value},HidOk X rs hs → hs.length = rs.length
  | [],_,h => by rw [show _ = [] from h]; rfl
  | _ :: l,_,⟨v,q,e,_,hq⟩ => by rw [e,List.length_cons,List.length_cons,HidOk.len hq]
theorem HidOk.ρ {w : World} {k : Nat → Prop} {ρ ρ' : Nat → Value} {rs : List (ByteArray × RW)} {hs : List Value} (h : HidOk ⟨w,k,ρ⟩ rs hs) : HidOk ⟨w,k,ρ'⟩ rs hs :=
 HidOk.mono (X := ⟨w,k,ρ⟩) (Y := ⟨w,k,ρ'⟩) (fun _ h => h) (fun _ _ => rfl) (fun _ _ => rfl) h
theorem mpEs_mid {k : ByteArray} {v : Value} {pre post : List ByteArray} {hp hq : List Value} (hl : hp.length = pre.length) : (mpEs (pre ++ k :: post) (hp ++ v :: hq)).Perm (entE k v ++ mpEs (pre ++ post) (hp ++ hq)) := by
 have h1 : (pre ++ k :: post)[pre.length]? = some k := by simp
 have h2 : (hp ++ v :: hq)[pre.length]? = some v := by rw [← hl]; simp
 have := mpEs_at h1 h2
 have e1 : (pre ++ k :: post).eraseIdx pre.length = pre ++ post := by rw [List.eraseIdx_append_of_length_le (Nat.le_refl _)]; simp
 have e2 : (hp ++ v :: hq).eraseIdx pre.length = hp ++ hq := by rw [← hl,List.eraseIdx_append_of_length_le (Nat.le_refl _)]; simp
 rw [e1,e2] at this
 exact this
def re2 (ρ : Nat → Value) (i : Nat) (u : Value) (j : Nat) (v : Value) : Nat → Value := fun x => if x = i then u else if x = j then v else ρ x
theorem mp_out {X : CX} {i j : Nat} {t : TypeId} {k : ByteArray} {r : RW} {pre post : List (ByteArray × RW)} (hij : i ≠ j) (h : ObjOk X i (.mp t [] (pre ++ (k,r) :: post))) :
  ∃ u v,hdV u = hdV (X.ρ i) ∧ (blks u ++ blks v).Perm (blks (X.ρ i)) ∧ ObjOk ⟨X.w,X.keep,re2 X.ρ i u j v⟩ i (.mp t [(k,some j)] (pre ++ post)) ∧ ObjOk ⟨X.w,X.keep,re2 X.ρ i u j v⟩ j (.row r.e r.s r.n r.sc r.f) := by
 obtain ⟨b,es,c,vs,hs,e,hh,hi,hr,hp,hn,hst⟩ := h
 have hvs : vs = [] := hi
 subst hvs
 obtain ⟨hp',v,hq,rfl,hl,hrow,hrest⟩ := hr.split
 have hbv : blk1 v = blks v := by obtain ⟨us,ho,_⟩ := hrow; exact blk1_own ho
 have hv : hdV v = v := by obtain ⟨us,ho,_⟩ := hrow; exact hdV_own ho
 refine ⟨.tuple (.map (some b) :: .map (some b) :: (hp' ++ hq)).toArray,v,by rw [e]; rfl,?_,⟨b,es,c,[v],hp' ++ hq,by simp [re2],hh,⟨v,[],rfl,fun i' hi' => by cases hi'; simp [hdρ,re2,hij.symm,hv],rfl⟩,hrest.ρ,?_,?_,hst⟩,?_⟩
 · rw [e,blks_tup,blks_tup,List.flatMap_cons,List.flatMap_cons,List.flatMap_append,List.flatMap_append,List.flatMap_cons,hbv]
   simp only [List.append_assoc]
   refine (List.Perm.append_left _ (List.Perm.append_left _ ?_))
   exact List.perm_append_comm
 · refine hp.trans ?_
   simp only [List.map_nil,List.nil_append,List.map_append,List.map_cons,List.cons_append]
   rw [mpEs_cons]
   refine (mpEs_mid (by simpa using hl)).trans (.of_eq ?_)
   simp
 · simp only [List.map_nil,List.nil_append,List.map_append,List.map_cons,List.cons_append] at hn ⊢
   exact (List.perm_middle.nodup_iff).1 hn
 · show RowOk _ (re2 X.ρ i _ j v j) _ _ _ _ _
   rw [show re2 X.ρ i (.tuple (.map (some b) :: .map (some b) :: (hp' ++ hq)).toArray) j v j = v by simp [re2,hij.symm]]
   exact hrow.mono (X := X) (fun _ h => h) (fun _ _ => rfl) (fun _ _ => rfl)
theorem mp_fresh {X : CX} {i j : Nat} {t : TypeId} {k : ByteArray} {rs : List (ByteArray × RW)} (hij : i ≠ j) (hk : k ∉ rs.map (·.1)) (h : ObjOk X i (.mp t [] rs)) :
  ObjOk ⟨X.w,X.keep,re2 X.ρ i (X.ρ i) j (.slice none 0 0)⟩ i (.mp t [(k,some j)] rs) := by
 obtain ⟨b,es,c,vs,hs,e,hh,hi,hr,hp,hn,hst⟩ := h
 have hvs : vs = [] := hi
 subst hvs
 refine ⟨b,es,c,[.slice none 0 0],hs,by simp [re2,e],hh,⟨_,[],rfl,fun i' hi' => by cases hi'; simp [hdρ,re2,hij.symm,hdV],rfl⟩,hr.ρ,?_,?_,hst⟩
 · refine hp.trans ?_
   simp only [List.map_nil,List.nil_append,List.map_cons,List.cons_append]
   rw [mpEs_cons]
   exact .refl _
 · simp only [List.map_nil,List.nil_append,List.map_cons,List.cons_append] at hn ⊢
   exact List.nodup_cons.2 ⟨hk,hn⟩
theorem mp_in {X : CX} {i j : Nat} {t : TypeId} {k : ByteArray} {rs : List (ByteArray × RW)} {e : TypeId} {s n : Nat} {sc : Bool} {f : Nat → List AV} (h : ObjOk X i (.mp t [(k,some j)] rs)) (hr : ObjOk X j (.row e s n sc f)) :
  ∃ u,hdV u = hdV (X.ρ i) ∧ (blks u).Perm (blks (X.ρ i) ++ blks (X.ρ j)) ∧ ObjOk ⟨X.w,X.keep,re2 X.ρ i u i u⟩ i (.mp t [] ((k,⟨e,s,n,sc,f⟩) :: rs)) := by
 obtain ⟨b,es,c,vs,hs,e',hh,hi,hhid,hp,hn,hst⟩ := h
 obtain ⟨v,q,rfl,hv,hq⟩ := hi
 have hq : q = [] := hq
 subst hq
 have hv : v = hdV (X.ρ j) := hv j rfl
 rw [hdV_row hr] at hv
 have hrow : RowOk X v e s n sc f := by rw [hv]; exact hr
 have hbv : blk1 v = blks v := by obtain ⟨us,ho,_⟩ := hrow; exact blk1_own ho
 refine ⟨.tuple (.map (some b) :: .map (some b) :: v :: hs).toArray,by rw [e']; rfl,?_,b,es,c,[],v :: hs,by simp [re2],hh,rfl,⟨v,hs,rfl,hrow.mono (X := X) (fun _ h => h) (fun _ _ => rfl) (fun _ _ => rfl),HidOk.ρ (w := X.w) (k := X.keep) (ρ := X.ρ) hhid⟩,hp,hn,hst⟩
 rw [e',blks_tup,blks_tup,List.flatMap_cons,List.flatMap_cons,List.flatMap_cons,hbv,hv]
 simp only [List.append_assoc]
 exact (List.Perm.append_left _ List.perm_append_comm)
theorem mp_foc {X : CX} {i j : Nat} {t : TypeId} {k : ByteArray} {rs : List (ByteArray × RW)} (hj : X.ρ j = .slice none 0 0) (hk : k ∉ rs.map (·.1)) (h : ObjOk X i (.mp t [] rs)) : ObjOk X i (.mp t [(k,some j)] rs) := by
 obtain ⟨b,es,c,vs,hs,e,hh,hi,hr,hp,hn,hst⟩ := h
 have hvs : vs = [] := hi
 subst hvs
 refine ⟨b,es,c,[.slice none 0 0],hs,e,hh,⟨_,[],rfl,fun i' hi' => by cases hi'; simp [hdρ,hj,hdV],rfl⟩,hr,?_,?_,hst⟩
 · refine hp.trans ?_
   simp only [List.map_nil,List.nil_append,List.map_cons,List.cons_append]
   rw [mpEs_cons]
   exact .refl _
 · simp only [List.map_nil,List.nil_append,List.map_cons,List.cons_append] at hn ⊢
   exact List.nodup_cons.2 ⟨hk,hn⟩
def ImpV (x : AV) (st S : AS) : Prop := ∀ (g : Base) (N : Nat) (bs : List (Array Value)) (ρ : Nat → Value) (a : Act) (w : World) (u : Value),Rel g N bs ρ a w st → C2 (cxOf g w ρ st.heap) x u → ∃ ρ',Rel g N bs ρ' a w S ∧ C2 (cxOf g w ρ' S.heap) x u
theorem ACall.thn {P : Program} {L : Lay} (hL : LayOk P L) {W : Walk} (hW : WOk P W) {d : Nat} {f : FuncId} {avs : List AV} {st : AS} {K : AV → AS → Prop} (hE : Enters P f) (h : ACall P L W d f avs st (fun x st' => ∃ S,ImpV x st' S ∧ K x S)) : ACall P L W d f avs st K := by
 refine .sem hE fun g N bs ρ a w args R hargs => ?_
 refine ((acall_run R hargs h (fun lv fn c hf' hnm hb hsz h' => inl_run hL hW R hargs lv fn c hf' hb hsz h')).2).mono ?_
 rintro e w' ⟨u,x,st',ρ',rfl,⟨S,hI,hK⟩,R',hc⟩
 obtain ⟨ρ2,R2,hc2⟩ := hI _ _ _ _ _ _ _ R' hc
 exact ⟨u,x,S,ρ2,rfl,hK,R2,hc2⟩
theorem ImpV.foc {st : AS} (id d : Nat) {t e : TypeId} {s : Nat} {f : Nat → List AV} {k : ByteArray} {rs : List (ByteArray × RW)} (hs : 0 < s) (hf : findObj id (st.obj d d (.row e s 0 true f)).heap = some (.mp t [] rs)) (hk : k ∉ rs.map (·.1)) :
  ImpV (.tup []) st ⟨(st.obj d d (.row e s 0 true f)).sl,setObj id (.mp t [(k,some d)] rs) (st.obj d d (.row e s 0 true f)).heap,(st.obj d d (.row e s 0 true f)).back,(st.obj d d (.row e s 0 true f)).base⟩ := by
 intro g N bs ρ a w u R hc
 have R1 : Rel g N bs (reρ ρ d (.slice none 0 0)) a w (st.obj d d (.row e s 0 true f)) := by
  refine R.obj d d R.below (Nat.le_refl _) (fun _ _ _ => rfl) (fun b hb => by cases hb) (fun _ => ?_)
  exact ⟨[],by simpa [cxOf,reρ] using World.ownsRow_nil w _ e s,hs,fun i hi => absurd hi (by omega),(fun _ x hx => by cases hx),All2.nil⟩
 have ho := R1.objs _ (findObj_mem hf)
 have hd : reρ ρ d (.slice none 0 0) d = .slice none 0 0 := by simp [reρ]
 obtain ⟨b,es,c,vs,hs',e',_⟩ := ho
 have e' : reρ ρ d (.slice none 0 0) id = _ := e'
 obtain ⟨vs',rfl,hvs'⟩ : ∃ us : List Value,u = .tuple us.toArray ∧ All2 _ [] us := hc
 refine ⟨_,R1.write hf (b := b) (by rw [e']; exact List.mem_cons_self) (Below.refl _ _) rfl (fun _ _ => rfl) (fun hk' hm => ?_),vs',rfl,hvs'.1,fun i x u hx => by simp at hx⟩
 exact ObjOk.same (X := cxOf g w (reρ ρ d (.slice none 0 0)) (st.obj d d (.row e s 0 true f)).heap) (Y := cxOf g w (reρ ρ d (.slice none 0 0)) (setObj id (.mp t [(k,some d)] rs) (st.obj d d (.row e s 0 true f)).heap)) hk' hm rfl (fun _ _ => rfl) (mp_foc hd hk (R1.objs _ (findObj_mem hf)))
def stB (d : Int) (m : AV) (n : Int) : AO := .box 171 [.v (.int .u32 d), .v (.int .i32 0), .v (.int .u32 0),m, .v (.int .i64 n)]
def rwE (l : List Ev) : RW := ⟨42,12,l.length,true,evF l⟩
abbrev mapT : TypeId := 155
def hidE (kv : List (ByteArray × List Ev)) : List (ByteArray × RW) := kv.map fun p => (p.1,rwE p.2)
theorem hidE_keys (kv : List (ByteArray × List Ev)) : (hidE kv).map (·.1) = kv.map (·.1) := by simp [hidE,Function.comp_def]
def kvGet : List (ByteArray × List Ev) → ByteArray → List Ev
  | [],_ => []
  | p :: l,k => if p.1 = k then p.2 else kvGet l k
structure KV (K : ByteArray → List Ev) (m : Nat) (kv : List (ByteArray × List Ev)) : Prop where
 nd : (kv.map (·.1)).Nodup
 eq : ∀ k,K k = kvGet kv k
 ln : kv.length ≤ m
 ky : ∀ p ∈ kv,p.1.size ≤ 9223372036854775807
inductive LiveX (K : ByteArray → List Ev) (m : Nat) : Type where
  | new (h : ∀ k,K k = [])
  | old (kv : List (ByteArray × List Ev)) (h : KV K m kv)
def liveHs (K : ByteArray → List Ev) (n : Int) (m : Nat) : LiveX K m → List (Nat × AO)
  | .new _ => [(0,stB 0 (.v (.map none)) n)]
  | .old kv _ => [(0,stB 1 (.own 1) n),(1, .mp mapT [] (hidE kv))]
def liveO (K : ByteArray → List Ev) (n : Int) (m : Nat) : OB := OB.pack (liveHs K n m)
inductive LiveY (K : ByteArray → List Ev) (m : Nat) (k : ByteArray) : Type where
  | new (h : ∀ k,K k = [])
  | old (kv : List (ByteArray × List Ev)) (hn : (kv.map (·.1)).Nodup) (hk : k ∉ kv.map (·.1)) (he : ∀ q,q ≠ k → K q = kvGet kv q) (hm : kv.length ≤ m) (hky : ∀ p ∈ kv,p.1.size ≤ 9223372036854775807)
def liveGs (K : ByteArray → List Ev) (n : Int) (m : Nat) (k : ByteArray) : LiveY K m k → List (Nat × AO)
  | .new _ => [(0,stB 0 (.v (.map none)) n)]
  | .old kv _ _ _ _ _ => [(0,stB 1 (.own 1) n),(1, .mp mapT [(k,some 2)] (hidE kv)),(2,evR (K k))]
theorem kvGet_mem : ∀ {kv : List (ByteArray × List Ev)} {k : ByteArray},k ∈ kv.map (·.1) → ∃ pre l post,kv = pre ++ (k,l) :: post ∧ k ∉ pre.map (·.1)
  | [],_,h => by cases h
  | (q,l) :: kv,k,h => by
    by_cases e : q = k
    · subst e; exact ⟨[],l,kv,rfl,by simp⟩
    · have : k ∈ kv.map (·.1) := by
       rcases List.mem_cons.1 h with h | h
       · exact absurd h.symm e
       · exact h
      obtain ⟨pre,l',post,rfl,hn⟩ := kvGet_mem this
      exact ⟨(q,l) :: pre,l',post,rfl,by simp only [List.map_cons,List.mem_cons,not_or]; exact ⟨fun h => e h.symm,hn⟩⟩
theorem kvGet_none : ∀ {kv : List (ByteArray × List Ev)} {k : ByteArray},k ∉ kv.map (·.1) → kvGet kv k = []
  | [],_,_ => rfl
  | (q,l) :: kv,k,h => by
    simp only [List.map_cons,List.mem_cons,not_or] at h
    simp only [kvGet]
    rw [if_neg (fun e => h.1 e.symm)]
    exact kvGet_none h.2
theorem kvGet_app : ∀ {pre post : List (ByteArray × List Ev)} {k : ByteArray},k ∉ pre.map (·.1) → kvGet (pre ++ post) k = kvGet post k
  | [],_,_,_ => rfl
  | (q,l) :: pre,post,k,h => by
    simp only [List.map_cons,List.mem_cons,not_or] at h
    simp only [List.cons_append,kvGet]
    rw [if_neg (fun e => h.1 e.symm)]
    exact kvGet_app h.2
theorem kvGet_mid {k : ByteArray} {l : List Ev} : ∀ {pre post : List (ByteArray × List Ev)} {q : ByteArray},q ≠ k → kvGet (pre ++ (k,l) :: post) q = kvGet (pre ++ post) q
  | [],_,q,h => by simp only [List.nil_append,kvGet]; rw [if_neg (fun e => h e.symm)]
  | (p,m) :: pre,post,q,h => by
    simp only [List.cons_append,kvGet]
    rw [kvGet_mid h]
theorem liveO_opens (K : ByteArray → List Ev) (n : Int) (m : Nat) (k : ByteArray) : Opens (liveO K n m) 0 (liveGs K n m k) := by
 refine (Opens.pack (liveHs K n m)).imp fun X y hnd hok => ?_
 cases y with
 | new h => exact ⟨.new h,X.ρ,rfl, .refl _,hok⟩
 | old kv h =>
   have h0 := hok (0,stB 1 (.own 1) n) List.mem_cons_self
   have h1 := hok (1, .mp mapT [] (hidE kv)) (List.mem_cons_of_mem _ List.mem_cons_self)
   have box : ∀ (ρ' : Nat → Value),ρ' 0 = X.ρ 0 → hdV (ρ' 1) = hdV (X.ρ 1) → ObjOk ⟨X.w,X.keep,ρ'⟩ 0 (stB 1 (.own 1) n) := by
    intro ρ' e0 e1
    obtain ⟨b,us,e,hh,ha⟩ := h0
    refine ⟨b,us,e0.trans e,hh,ha.1,fun i x u hx hu => ?_⟩
    have := ha.2 i x u hx hu
    exact C0.refQ (X := X) (Y := ⟨X.w,X.keep,ρ'⟩) (q := fun _ => false) (j := 1) (fun _ h => h) rfl (fun _ h => by cases h) e1 (by
     have hm := List.mem_of_getElem? hx
     simp only [List.mem_cons,List.not_mem_nil,or_false] at hm
     rcases hm with rfl | rfl | rfl | rfl | rfl <;> rfl) this
   by_cases hk : k ∈ kv.map (·.1)
   · obtain ⟨pre,l,post,rfl,hpre⟩ := kvGet_mem hk
     have hK : K k = l := by rw [h.eq,kvGet_app hpre]; simp [kvGet]
     have hm : hidE (pre ++ (k,l) :: post) = hidE pre ++ (k,rwE l) :: hidE post := by simp [hidE]
     rw [hm] at h1
     obtain ⟨u,v,hu,hp,g1,g2⟩ := mp_out (i := 1) (j := 2) (by decide) h1
     have hnd' := h.nd
     rw [List.map_append,List.map_cons] at hnd'
     have hnd2 := (List.perm_middle.nodup_iff).1 hnd'
     rw [← List.map_append] at hnd2
     refine ⟨.old (pre ++ post) (List.nodup_cons.1 hnd2).2 (List.nodup_cons.1 hnd2).1 (fun q hq => by rw [h.eq,kvGet_mid hq]) (by have := h.ln; simp at this ⊢; omega) (fun p hp => h.ky p (by rcases List.mem_append.1 hp with hp | hp <;> simp [hp])),re2 X.ρ 1 u 2 v,by simp [re2],?_,?_⟩
     · show (blocksOf (re2 X.ρ 1 u 2 v) [(0,stB 1 (.own 1) n),(1, .mp mapT [(k,some 2)] (hidE (pre ++ post))),(2,evR (K k))]).Perm (blocksOf X.ρ [(0,stB 1 (.own 1) n),(1, .mp mapT [] (hidE (pre ++ (k,l) :: post)))])
       simp only [blocks_cons]
       rw [show re2 X.ρ 1 u 2 v 0 = X.ρ 0 from rfl,show re2 X.ρ 1 u 2 v 1 = u from rfl,show re2 X.ρ 1 u 2 v 2 = v from rfl]
       refine List.Perm.append_left _ ?_
       rw [← List.append_assoc]
       exact hp.append_right _
     · intro p hp'
       simp only [liveGs,List.mem_cons,List.not_mem_nil,or_false] at hp'
       rcases hp' with rfl | rfl | rfl
       · exact box _ rfl hu
       · have : hidE (pre ++ post) = hidE pre ++ hidE post := by simp [hidE]
         rw [this]; exact g1
       · rw [hK]; exact g2
   · refine ⟨.old kv h.nd hk (fun q _ => h.eq q) h.ln h.ky,re2 X.ρ 1 (X.ρ 1) 2 (.slice none 0 0),by simp [re2],?_,?_⟩
     · show (blocksOf (re2 X.ρ 1 (X.ρ 1) 2 (.slice none 0 0)) [(0,stB 1 (.own 1) n),(1, .mp mapT [(k,some 2)] (hidE kv)),(2,evR (K k))]).Perm (blocksOf X.ρ [(0,stB 1 (.own 1) n),(1, .mp mapT [] (hidE kv))])
       simp only [blocks_cons]
       exact .refl _
     · intro p hp'
       simp only [liveGs,List.mem_cons,List.not_mem_nil,or_false] at hp'
       rcases hp' with rfl | rfl | rfl
       · exact box _ rfl rfl
       · exact mp_fresh (i := 1) (by decide) (by rw [hidE_keys]; exact hk) h1
       · rw [h.eq,kvGet_none hk]
         exact ⟨[],World.ownsRow_nil _ _ _ _,by decide,fun i hi => absurd hi (by simp),fun _ x hx => absurd hx (by simp [flat]),All2.nil⟩
theorem box_one {X : CX} {t : TypeId} {cs : List AV} (h : ObjOk X 0 (.box t cs)) : (hdV (X.ρ 0)).oneCell' = true := by
 obtain ⟨b,us,e,_⟩ := h
 rw [e]; rfl
theorem liveO_new (K : ByteArray → List Ev) (n : Int) (m : Nat) (h : ∀ k,K k = []) : Closes [(0,stB 0 (.v (.map none)) n)] 0 (liveO K n m) :=
 Closes.pack (liveHs K n m) (.new h) rfl fun _ hok => box_one (hok _ List.mem_cons_self)
theorem liveO_closes (K' : ByteArray → List Ev) (n : Int) (m : Nat) (j : Nat) (_hj : 2 ≤ j) (k : ByteArray) (l : List Ev) (kv : List (ByteArray × List Ev)) (hn : (kv.map (·.1)).Nodup) (hk : k ∉ kv.map (·.1)) (he : ∀ q,q ≠ k → K' q = kvGet kv q) (hl : K' k = l) (hm : kv.length + 1 ≤ m) (hky : ∀ p ∈ kv,p.1.size ≤ 9223372036854775807) (hks : k.size ≤ 9223372036854775807) :
  Closes [(0,stB 1 (.own 1) n),(1, .mp mapT [(k,some j)] (hidE kv)),(j,evR l)] 0 (liveO K' n m) := by
 have hkv : KV K' m ((k,l) :: kv) := ⟨List.nodup_cons.2 ⟨hk,hn⟩,fun q => by
  simp only [kvGet]
  split
  · rename_i e; rw [← e]; exact hl
  · rename_i e; exact he q (fun h => e h.symm),by simpa using hm,fun p hp => by
  rcases List.mem_cons.1 hp with rfl | hp
  · exact hks
  · exact hky p hp⟩
 refine (Closes.pack (liveHs K' n m) (.old ((k,l) :: kv) hkv) rfl fun X hok => box_one (hok _ List.mem_cons_self)).imp fun X hnd hok => ?_
 have h0 := hok (0,stB 1 (.own 1) n) List.mem_cons_self
 have h1 := hok (1, .mp mapT [(k,some j)] (hidE kv)) (List.mem_cons_of_mem _ List.mem_cons_self)
 have h2 := hok (j,evR l) (List.mem_cons_of_mem _ (List.mem_cons_of_mem _ List.mem_cons_self))
 obtain ⟨u,hu,hp,g1⟩ := mp_in h1 h2
 have hsub : (blocksOf (re2 X.ρ 1 u 1 u) [(0,stB 1 (.own 1) n),(1, .mp mapT [] (hidE ((k,l) :: kv)))]).Perm (blocksOf X.ρ [(0,stB 1 (.own 1) n),(1, .mp mapT [(k,some j)] (hidE kv)),(j,evR l)]) := by
  simp only [blocks_cons]
  rw [show re2 X.ρ 1 u 1 u 0 = X.ρ 0 from rfl,show re2 X.ρ 1 u 1 u 1 = u from rfl]
  refine List.Perm.append_left _ ?_
  rw [← List.append_assoc]
  exact hp.append_right _
 refine ⟨re2 X.ρ 1 u 1 u,rfl,hsub.nodup_iff.2 hnd,fun b hb => hsub.mem_iff.1 hb,fun p hp' => ?_⟩
 simp only [liveHs,List.mem_cons,List.not_mem_nil,or_false] at hp'
 rcases hp' with rfl | rfl
 · obtain ⟨b,us,e,hh,ha⟩ := h0
   refine ⟨b,us,e,hh,ha.1,fun i x v hx hv => ?_⟩
   have := ha.2 i x v hx hv
   exact C0.refQ (X := X) (Y := ⟨X.w,X.keep,re2 X.ρ 1 u 1 u⟩) (q := fun _ => false) (j := 1) (fun _ h => h) rfl (fun _ h => by cases h) hu (by
    have hm := List.mem_of_getElem? hx
    simp only [List.mem_cons,List.not_mem_nil,or_false] at hm
    rcases hm with rfl | rfl | rfl | rfl | rfl <;> rfl) this
 · exact g1
end Go.Proofs.YtimhagicagdkfaaGreat

/-
 A book's map looked at key by key: the row of a key gets a name,and loses it,between the rounds of a loop.
-/
namespace Go.Proofs.YtimhagicagdkfaaGreat
open Go.RowKit
theorem Imp.leR {σ : List (Nat × Nat)} {st S : AS} (h : LeR σ st S) : Imp st S := fun _ _ _ _ _ _ R => R.lessR h
theorem refQ_ofL {q : Nat → Bool} {j : Nat} : ∀ {l : List (Nat × AV)} (t : Nat),(l.all fun p => refQ2 q j p.2) = true → refQ2 q j (ofL l t) = true
  | [],_,_ => rfl
  | p :: l,t,h => by
    simp only [List.all_cons,Bool.and_eq_true] at h
    simp only [ofL]
    cases Nat.beq t p.1 with
    | true => exact h.1
    | false => exact refQ_ofL t h.2
theorem back_refQ {X Y : CX} {q : Nat → Bool} {j : Nat} (hk : ∀ b,X.keep b → Y.keep b) (hm : Y.w = X.w) (hρ : ∀ i,q i = true → Y.ρ i = X.ρ i) (hj : hdV (Y.ρ j) = hdV (X.ρ j)) :
  ∀ {fs : List (List (Nat × AV))} {bs : List (Array Value)},(fs.all fun f => f.all fun p => refQ2 q j p.2) = true → BackOk X fs bs → BackOk Y fs bs
  | [],[],_,_ => trivial
  | _ :: _,_ :: _,h,k => by
    simp only [List.all_cons,Bool.and_eq_true] at h
    exact ⟨fun t => C2.refQ hk hm hρ hj (refQ_ofL t h.1) (k.1 t),back_refQ hk hm hρ hj h.2 k.2⟩
  | [],_ :: _,_,k => k.elim
  | _ :: _,[],_,k => k.elim
theorem Imp.chg {st S : AS} (q : Nat → Bool) (j : Nat) (hsl : S.sl = st.sl) (hbk : S.back = st.back) (h1 : (st.sl.all fun p => refQ2 q j p.2) = true) (h2 : (st.back.all fun f => f.all fun p => refQ2 q j p.2) = true)
  (h : ∀ X : CX,(blocksOf X.ρ st.heap).Nodup → (∀ p ∈ st.heap,ObjOk X p.1 p.2) → ∃ ρ' : Nat → Value,(∀ i,q i = true → ρ' i = X.ρ i) ∧ hdV (ρ' j) = hdV (X.ρ j) ∧ (blocksOf ρ' S.heap).Nodup ∧ (∀ b ∈ blocksOf ρ' S.heap,b ∈ blocksOf X.ρ st.heap) ∧ ∀ p ∈ S.heap,ObjOk ⟨X.w,X.keep,ρ'⟩ p.1 p.2) : Imp st S := by
 intro g N bs ρ a w R
 obtain ⟨ρ',g1,g2,gn,g3,g4⟩ := h (cxOf g w ρ st.heap) R.apart R.objs
 have hk : ∀ b,keepOf g w ρ st.heap b → keepOf g w ρ' S.heap b := fun b hb => ⟨hb.1,hb.2.1,fun h => hb.2.2 (g3 b h)⟩
 refine ⟨ρ',R.size,R.defers,R.below,fun t => ?_,fun p hp => ?_,gn,fun b hb => R.own b (g3 b hb),?_⟩
 · show C2 _ (ofL S.sl t) _
   rw [hsl]
   exact C2.refQ (X := cxOf g w ρ st.heap) (Y := cxOf g w ρ' S.heap) hk rfl g1 g2 (refQ_ofL t h1) (R.tmps t)
 · have := g4 p hp
   exact ObjOk.same (X := ⟨w,keepOf g w ρ st.heap,ρ'⟩) (Y := cxOf g w ρ' S.heap) hk (fun _ _ => rfl) rfl (fun _ _ => rfl) this
 · rw [hbk]
   exact back_refQ (X := cxOf g w ρ st.heap) (Y := cxOf g w ρ' S.heap) hk rfl g1 g2 h2 R.back
theorem Imp.chgP {st S : AS} (q : Nat → Bool) (j : Nat) (hsl : S.sl = st.sl) (hbk : S.back = st.back) (h1 : (st.sl.all fun p => refQ2 q j p.2) = true) (h2 : (st.back.all fun f => f.all fun p => refQ2 q j p.2) = true)
  (h : ∀ X : CX,(blocksOf X.ρ st.heap).Nodup → (∀ p ∈ st.heap,ObjOk X p.1 p.2) → ∃ ρ' : Nat → Value,(∀ i,q i = true → ρ' i = X.ρ i) ∧ hdV (ρ' j) = hdV (X.ρ j) ∧ (blocksOf ρ' S.heap).Perm (blocksOf X.ρ st.heap) ∧ ∀ p ∈ S.heap,ObjOk ⟨X.w,X.keep,ρ'⟩ p.1 p.2) : Imp st S :=
 Imp.chg q j hsl hbk h1 h2 fun X hn ho => by
  obtain ⟨ρ',g1,g2,g3,g4⟩ := h X hn ho
  exact ⟨ρ',g1,g2,g3.nodup_iff.2 hn,fun b hb => g3.mem_iff.1 hb,g4⟩
def rowA : AO → Bool
  | .row .. => true
  | _ => false
def n12 (i : Nat) : Bool := !(Nat.beq i 1) && !(Nat.beq i 2)
theorem row_same {X : CX} {p : Nat × AO} {ρ' : Nat → Value} (hp : rowA p.2 = true) (hρ : ρ' p.1 = X.ρ p.1) (h : ObjOk X p.1 p.2) : ObjOk ⟨X.w,X.keep,ρ'⟩ p.1 p.2 := by
 obtain ⟨i,o⟩ := p
 cases o with
 | row e s n sc f =>
   show RowOk _ (ρ' i) e s n sc f
   rw [show ρ' i = X.ρ i from hρ]
   exact RowOk.mono (X := X) (Y := ⟨X.w,X.keep,ρ'⟩) (fun _ h => h) (fun _ _ => rfl) (fun _ _ => rfl) h
 | _ => cases hp
theorem row_re {X : CX} {p : Nat × AO} {ρ' : Nat → Value} (hp : (rowA p.2 && n12 p.1) = true) (hρ : ∀ i,n12 i = true → ρ' i = X.ρ i) (h : ObjOk X p.1 p.2) : ObjOk ⟨X.w,X.keep,ρ'⟩ p.1 p.2 := by
 simp only [Bool.and_eq_true] at hp
 exact row_same hp.1 (hρ _ hp.2) h
theorem Imp.cls {sl : List (Nat × AV)} {back : List (List (Nat × AV))} {b : Nat} {hs' H : List (Nat × AO)} {o : OB} (hC : Closes hs' 0 o)
  (h1 : (sl.all fun p => refQ2 (fun i => hasN i H) 0 p.2) = true) (h2 : (back.all fun f => f.all fun p => refQ2 (fun i => hasN i H) 0 p.2) = true) (hH : (H.all fun p => rowA p.2) = true) (h0 : hasN 0 H = false) :
  Imp ⟨sl,hs' ++ H,back,b⟩ ⟨sl,(0, .obs o) :: H,back,b⟩ := by
 refine Imp.chg (fun i => hasN i H) 0 rfl rfl h1 h2 fun X hnd hok => ?_
 dsimp only at hnd hok ⊢
 rw [blocks_append,List.nodup_append] at hnd
 obtain ⟨us,a1,a2,a3⟩ := hC X.w X.keep X.ρ hnd.1 fun p hp => hok p (List.mem_append_left _ hp)
 have hne : ∀ i,hasN i H = true → (if i = 0 then Value.tuple us else X.ρ i) = X.ρ i := fun i hi => by
  have : i ≠ 0 := by rintro rfl; rw [h0] at hi; cases hi
  rw [if_neg this]
 have hb : blocksOf (fun i => if i = 0 then Value.tuple us else X.ρ i) ((0, .obs o) :: H) = blks (.tuple us) ++ blocksOf X.ρ H := by
  rw [blocks_cons,blocks_congr fun p hp => hne p.1 (hasN_mem.2 ⟨p,hp,rfl⟩)]
  rfl
 refine ⟨fun i => if i = 0 then .tuple us else X.ρ i,hne,a2,?_,fun b hb' => ?_,fun p hp => ?_⟩
 · rw [hb,List.nodup_append]
   exact ⟨(o.lt a1).2.2,hnd.2.1,fun a ha c hc => hnd.2.2 a (a3 a ha) c hc⟩
 · rw [hb] at hb'
   rw [blocks_append]
   exact (List.mem_append.1 hb').elim (fun h => List.mem_append_left _ (a3 b h)) (fun h => List.mem_append_right _ h)
 · rcases List.mem_cons.1 hp with rfl | hp
   · exact ⟨us,rfl,a1⟩
   · exact row_same (List.all_eq_true.1 hH p hp) (hne p.1 (hasN_mem.2 ⟨p,hp,rfl⟩)) (hok p (List.mem_append_right _ hp))
theorem Closes.obs (o : OB) : Closes [(0, .obs o)] 0 o := by
 intro w k ρ hnd hok
 obtain ⟨us,e,hR⟩ := hok _ List.mem_cons_self
 have e : ρ 0 = .tuple us := e
 have hR : o.R w k (ρ 0) := hR
 rw [e] at hR
 exact ⟨us,hR,by show _ = hdV (ρ 0); rw [e],fun b hb => mem_blocks.2 ⟨_,List.mem_cons_self,by show b ∈ blks (ρ 0); rw [e]; exact hb⟩⟩
theorem re2_n12 (ρ : Nat → Value) (u v : Value) (i : Nat) (h : n12 i = true) : re2 ρ 1 u 2 v i = ρ i := by
 simp only [n12,Bool.and_eq_true,Bool.not_eq_true'] at h
 have h1 : i ≠ 1 := fun e => by rw [e] at h; simp at h
 have h2 : i ≠ 2 := fun e => by rw [e] at h; simp at h
 simp [re2,h1,h2]
theorem re2_n11 (ρ : Nat → Value) (u v : Value) (i : Nat) (h : n12 i = true) : re2 ρ 1 u 1 v i = ρ i := by
 simp only [n12,Bool.and_eq_true,Bool.not_eq_true'] at h
 have h1 : i ≠ 1 := fun e => by rw [e] at h; simp at h
 simp [re2,h1]
theorem blocks_n12 {ρ ρ' : Nat → Value} {H : List (Nat × AO)} (hH : (H.all fun p => rowA p.2 && n12 p.1) = true) (hρ : ∀ i,n12 i = true → ρ' i = ρ i) : blocksOf ρ' H = blocksOf ρ H :=
 blocks_congr fun p hp => hρ _ (by
  have := List.all_eq_true.1 hH p hp
  simp only [Bool.and_eq_true] at this
  exact this.2)
theorem box_re {X : CX} {n : Int} {ρ' : Nat → Value} (e0 : ρ' 0 = X.ρ 0) (e1 : hdV (ρ' 1) = hdV (X.ρ 1)) (h0 : ObjOk X 0 (stB 1 (.own 1) n)) : ObjOk ⟨X.w,X.keep,ρ'⟩ 0 (stB 1 (.own 1) n) := by
 obtain ⟨b,us,e,hh,ha⟩ := h0
 refine ⟨b,us,e0.trans e,hh,ha.1,fun i x u hx hu => ?_⟩
 have := ha.2 i x u hx hu
 exact C0.refQ (X := X) (Y := ⟨X.w,X.keep,ρ'⟩) (q := fun _ => false) (j := 1) (fun _ h => h) rfl (fun _ h => by cases h) e1 (by
  have hm := List.mem_of_getElem? hx
  simp only [List.mem_cons,List.not_mem_nil,or_false] at hm
  rcases hm with rfl | rfl | rfl | rfl | rfl <;> rfl) this
theorem imp_open {sl : List (Nat × AV)} {back : List (List (Nat × AV))} {b : Nat} {n : Int} {k : ByteArray} {l : List Ev} {pre post : List (ByteArray × List Ev)} {H : List (Nat × AO)}
  (h1 : (sl.all fun p => refQ2 n12 1 p.2) = true) (h2 : (back.all fun f => f.all fun p => refQ2 n12 1 p.2) = true) (hH : (H.all fun p => rowA p.2 && n12 p.1) = true) :
  Imp ⟨sl,(0,stB 1 (.own 1) n) :: (1, .mp mapT [] (hidE (pre ++ (k,l) :: post))) :: H,back,b⟩ ⟨sl,(0,stB 1 (.own 1) n) :: (1, .mp mapT [(k,some 2)] (hidE (pre ++ post))) :: (2,evR l) :: H,back,b⟩ := by
 refine Imp.chgP n12 1 rfl rfl h1 h2 fun X hnd hok => ?_
 have g0 := hok (0,stB 1 (.own 1) n) List.mem_cons_self
 have g1 := hok (1, .mp mapT [] (hidE (pre ++ (k,l) :: post))) (List.mem_cons_of_mem _ List.mem_cons_self)
 rw [show hidE (pre ++ (k,l) :: post) = hidE pre ++ (k,rwE l) :: hidE post by simp [hidE]] at g1
 obtain ⟨u,v,hu,hp,a1,a2⟩ := mp_out (i := 1) (j := 2) (by decide) g1
 refine ⟨re2 X.ρ 1 u 2 v,re2_n12 X.ρ u v,hu,?_,fun p hp' => ?_⟩
 · simp only [blocks_cons]
   rw [show re2 X.ρ 1 u 2 v 0 = X.ρ 0 from rfl,show re2 X.ρ 1 u 2 v 1 = u from rfl,show re2 X.ρ 1 u 2 v 2 = v from rfl,blocks_n12 hH (re2_n12 X.ρ u v)]
   refine List.Perm.append_left _ ?_
   rw [← List.append_assoc]
   exact hp.append_right _
 · simp only [List.mem_cons] at hp'
   rcases hp' with rfl | rfl | rfl | hp'
   · exact box_re rfl hu g0
   · rw [show hidE (pre ++ post) = hidE pre ++ hidE post by simp [hidE]]; exact a1
   · exact a2
   · exact row_re (List.all_eq_true.1 hH p hp') (re2_n12 X.ρ u v) (hok p (List.mem_cons_of_mem _ (List.mem_cons_of_mem _ hp')))
theorem imp_close {sl : List (Nat × AV)} {back : List (List (Nat × AV))} {b : Nat} {n : Int} {k : ByteArray} {l : List Ev} {kv : List (ByteArray × List Ev)} {H : List (Nat × AO)}
  (h1 : (sl.all fun p => refQ2 n12 1 p.2) = true) (h2 : (back.all fun f => f.all fun p => refQ2 n12 1 p.2) = true) (hH : (H.all fun p => rowA p.2 && n12 p.1) = true) :
  Imp ⟨sl,(0,stB 1 (.own 1) n) :: (1, .mp mapT [(k,some 2)] (hidE kv)) :: (2,evR l) :: H,back,b⟩ ⟨sl,(0,stB 1 (.own 1) n) :: (1, .mp mapT [] (hidE ((k,l) :: kv))) :: H,back,b⟩ := by
 refine Imp.chgP n12 1 rfl rfl h1 h2 fun X hnd hok => ?_
 have g0 := hok (0,stB 1 (.own 1) n) List.mem_cons_self
 have g1 := hok (1, .mp mapT [(k,some 2)] (hidE kv)) (List.mem_cons_of_mem _ List.mem_cons_self)
 have g2 := hok (2,evR l) (List.mem_cons_of_mem _ (List.mem_cons_of_mem _ List.mem_cons_self))
 obtain ⟨u,hu,hp,a1⟩ := mp_in g1 g2
 refine ⟨re2 X.ρ 1 u 1 u,re2_n11 X.ρ u u,hu,?_,fun p hp' => ?_⟩
 · simp only [blocks_cons]
   rw [show re2 X.ρ 1 u 1 u 0 = X.ρ 0 from rfl,show re2 X.ρ 1 u 1 u 1 = u from rfl,blocks_n12 hH (re2_n11 X.ρ u u)]
   refine List.Perm.append_left _ ?_
   rw [← List.append_assoc]
   exact hp.append_right _
 · simp only [List.mem_cons] at hp'
   rcases hp' with rfl | rfl | hp'
   · exact box_re rfl hu g0
   · exact a1
   · exact row_re (List.all_eq_true.1 hH p hp') (re2_n11 X.ρ u u) (hok p (List.mem_cons_of_mem _ (List.mem_cons_of_mem _ (List.mem_cons_of_mem _ hp'))))
theorem hid_perm {X : CX} {rs' rs : List (ByteArray × RW)} (hp : rs'.Perm rs) : ∀ {hs' : List Value},HidOk X rs' hs' → ∃ hs,HidOk X rs hs ∧ (mpEs (rs.map (·.1)) hs).Perm (mpEs (rs'.map (·.1)) hs') ∧ (hs.flatMap blk1).Perm (hs'.flatMap blk1) := by
 induction hp with
 | nil => exact fun {hs'} h => ⟨hs',h, .refl _, .refl _⟩
 | cons p _ ih =>
   intro hs' h
   obtain ⟨v,q,rfl,hr,hq⟩ : ∃ v q,hs' = v :: q ∧ _ ∧ _ := h
   obtain ⟨hs,h1,h2,h3⟩ := ih hq
   refine ⟨v :: hs,⟨v,hs,rfl,hr,h1⟩,?_,?_⟩
   · simp only [List.map_cons,mpEs_cons]
     exact h2.append_left _
   · simp only [List.flatMap_cons]
     exact h3.append_left _
 | swap p q l =>
   intro hs' h
   obtain ⟨v,r,rfl,hr,u,t,rfl,hu,ht⟩ : ∃ v r,hs' = v :: r ∧ _ ∧ ∃ u t,r = u :: t ∧ _ ∧ _ := h
   refine ⟨u :: v :: t,⟨u,v :: t,rfl,hu,v,t,rfl,hr,ht⟩,?_,?_⟩
   · simp only [List.map_cons,mpEs_cons,← List.append_assoc]
     exact List.perm_append_comm.append_right _
   · simp only [List.flatMap_cons,← List.append_assoc]
     exact List.perm_append_comm.append_right _
 | trans _ _ ih1 ih2 =>
   intro hs' h
   obtain ⟨h1,a1,a2,a3⟩ := ih1 h
   obtain ⟨h2,b1,b2,b3⟩ := ih2 a1
   exact ⟨h2,b1,b2.trans a2,b3.trans a3⟩
theorem imp_perm {sl : List (Nat × AV)} {back : List (List (Nat × AV))} {b : Nat} {n : Int} {kv kv' : List (ByteArray × List Ev)} {H : List (Nat × AO)} (hp : kv.Perm kv')
  (h1 : (sl.all fun p => refQ2 n12 1 p.2) = true) (h2 : (back.all fun f => f.all fun p => refQ2 n12 1 p.2) = true) (hH : (H.all fun p => rowA p.2 && n12 p.1) = true) :
  Imp ⟨sl,(0,stB 1 (.own 1) n) :: (1, .mp mapT [] (hidE kv)) :: H,back,b⟩ ⟨sl,(0,stB 1 (.own 1) n) :: (1, .mp mapT [] (hidE kv')) :: H,back,b⟩ := by
 refine Imp.chgP n12 1 rfl rfl h1 h2 fun X hnd hok => ?_
 have g0 := hok (0,stB 1 (.own 1) n) List.mem_cons_self
 obtain ⟨c,es,cl,vs,hs,e,hh,hi,hr,hpe,hn,hst⟩ := hok (1, .mp mapT [] (hidE kv)) (List.mem_cons_of_mem _ List.mem_cons_self)
 have e : X.ρ 1 = _ := e
 have hvs : vs = [] := hi
 subst hvs
 have hpr : (hidE kv).Perm (hidE kv') := hp.map _
 obtain ⟨hs2,a1,a2,a3⟩ := hid_perm hpr hr
 simp only [List.map_nil,List.nil_append] at hpe hn
 obtain ⟨u,eu⟩ : ∃ u : Value,u = .tuple (.map (some c) :: .map (some c) :: hs2).toArray := ⟨_,rfl⟩
 have hu : hdV u = hdV (X.ρ 1) := by rw [e,eu]; rfl
 refine ⟨re2 X.ρ 1 u 1 u,re2_n11 X.ρ u u,hu,?_,fun p hp' => ?_⟩
 · simp only [blocks_cons]
   rw [show re2 X.ρ 1 u 1 u 0 = X.ρ 0 from rfl,show re2 X.ρ 1 u 1 u 1 = u from rfl,blocks_n12 hH (re2_n11 X.ρ u u)]
   refine List.Perm.append_left _ (List.Perm.append_right _ ?_)
   rw [e,eu,blks_tup,blks_tup,List.flatMap_cons,List.flatMap_cons]
   exact a3.append_left _
 · simp only [List.mem_cons] at hp'
   rcases hp' with rfl | rfl | hp'
   · exact box_re rfl hu g0
   · refine ⟨c,es,cl,[],hs2,eu,hh,rfl,HidOk.ρ (w := X.w) (k := X.keep) (ρ := X.ρ) a1,hpe.trans (by simpa using a2.symm),?_,hst⟩
     simpa using ((hpr.map _).nodup_iff).1 hn
   · exact row_re (List.all_eq_true.1 hH p hp') (re2_n11 X.ρ u u) (hok p (List.mem_cons_of_mem _ (List.mem_cons_of_mem _ hp')))
structure FOK (K : ByteArray → List Ev) (m : Nat) (k : ByteArray) (ss : List ByteArray) (kv : List (ByteArray × List Ev)) : Prop where
 nd : (kv.map (·.1)).Nodup
 nk : k ∉ kv.map (·.1)
 eq : ∀ q,q ≠ k → K q = kvGet kv q
 ln : kv.length + 1 ≤ m
 ky : ∀ p ∈ kv,p.1.size ≤ 9223372036854775807
 ks : k.size ≤ 9223372036854775807
 mem : ∀ x ∈ ss,x = k ∨ x ∈ kv.map (·.1)
theorem FOK.close {K : ByteArray → List Ev} {m : Nat} {k : ByteArray} {ss : List ByteArray} {kv : List (ByteArray × List Ev)} (h : FOK K m k ss kv) : KV K m ((k,K k) :: kv) ∧ ∀ x ∈ ss,x ∈ ((k,K k) :: kv).map (·.1) := by
 refine ⟨⟨List.nodup_cons.2 ⟨h.nk,h.nd⟩,fun q => ?_,h.ln,fun p hp => ?_⟩,fun x hx => ?_⟩
 · simp only [kvGet]
   split
   · rename_i e; rw [← e]
   · rename_i e; exact h.eq q (fun h => e h.symm)
 · rcases List.mem_cons.1 hp with rfl | hp
   · exact h.ks
   · exact h.ky p hp
 · rcases h.mem x hx with rfl | h
   · exact List.mem_cons_self
   · exact List.mem_cons_of_mem _ h
theorem FOK.open {K : ByteArray → List Ev} {m : Nat} {k : ByteArray} {ss : List ByteArray} {kv : List (ByteArray × List Ev)} (h : KV K m kv) (hs : ∀ x ∈ ss,x ∈ kv.map (·.1)) (hk : k ∈ kv.map (·.1)) :
  ∃ pre post,kv = pre ++ (k,K k) :: post ∧ FOK K m k ss (pre ++ post) := by
 obtain ⟨pre,l,post,rfl,hpre⟩ := kvGet_mem hk
 have hK : K k = l := by rw [h.eq,kvGet_app hpre]; simp [kvGet]
 have hnd' := h.nd
 rw [List.map_append,List.map_cons] at hnd'
 have hnd2 := (List.perm_middle.nodup_iff).1 hnd'
 rw [← List.map_append] at hnd2
 refine ⟨pre,post,by rw [hK],(List.nodup_cons.1 hnd2).2,(List.nodup_cons.1 hnd2).1,fun q hq => by rw [h.eq,kvGet_mid hq],by have := h.ln; simp at this ⊢; omega,fun p hp => h.ky p (by rcases List.mem_append.1 hp with hp | hp <;> simp [hp]),h.ky (k,l) (by simp),fun x hx => ?_⟩
 have := hs x hx
 simp only [List.map_append,List.map_cons,List.mem_append,List.mem_cons] at this ⊢
 grind
theorem imp_next {K : ByteArray → List Ev} {m : Nat} {ss : List ByteArray} {sl : List (Nat × AV)} {back : List (List (Nat × AV))} {b : Nat} {n : Int} {k k' : ByteArray} {kv : List (ByteArray × List Ev)} {H : List (Nat × AO)} (hf : FOK K m k ss kv) (hk : k' ∈ ss)
  (h1 : (sl.all fun p => refQ2 n12 1 p.2) = true) (h2 : (back.all fun f => f.all fun p => refQ2 n12 1 p.2) = true) (hH : (H.all fun p => rowA p.2 && n12 p.1) = true) :
  ∃ kv',FOK K m k' ss kv' ∧ ((k,K k) :: kv).Perm ((k',K k') :: kv') ∧ Imp ⟨sl,(0,stB 1 (.own 1) n) :: (1, .mp mapT [(k,some 2)] (hidE kv)) :: (2,evR (K k)) :: H,back,b⟩ ⟨sl,(0,stB 1 (.own 1) n) :: (1, .mp mapT [(k',some 2)] (hidE kv')) :: (2,evR (K k')) :: H,back,b⟩ := by
 obtain ⟨c1,c2⟩ := hf.close
 obtain ⟨pre,post,e,hf'⟩ := FOK.open c1 c2 (c2 k' hk)
 refine ⟨pre ++ post,hf',by rw [e]; exact List.perm_middle,(imp_close h1 h2 hH).trans ?_⟩
 rw [e]
 exact imp_open h1 h2 hH
theorem imp_first {K : ByteArray → List Ev} {m : Nat} {ss : List ByteArray} {sl : List (Nat × AV)} {back : List (List (Nat × AV))} {b : Nat} {n : Int} {k' : ByteArray} {kv : List (ByteArray × List Ev)} {H : List (Nat × AO)} (hf : KV K m kv) (hs : ∀ x ∈ ss,x ∈ kv.map (·.1)) (hk : k' ∈ ss)
  (h1 : (sl.all fun p => refQ2 n12 1 p.2) = true) (h2 : (back.all fun f => f.all fun p => refQ2 n12 1 p.2) = true) (hH : (H.all fun p => rowA p.2 && n12 p.1) = true) :
  ∃ kv',FOK K m k' ss kv' ∧ kv.Perm ((k',K k') :: kv') ∧ Imp ⟨sl,(0,stB 1 (.own 1) n) :: (1, .mp mapT [] (hidE kv)) :: H,back,b⟩ ⟨sl,(0,stB 1 (.own 1) n) :: (1, .mp mapT [(k',some 2)] (hidE kv')) :: (2,evR (K k')) :: H,back,b⟩ := by
 obtain ⟨pre,post,e,hf'⟩ := FOK.open hf hs (hs k' hk)
 refine ⟨pre ++ post,hf',by rw [e]; exact List.perm_middle,?_⟩
 rw [e]
 exact imp_open h1 h2 hH
end Go.Proofs.YtimhagicagdkfaaGreat
