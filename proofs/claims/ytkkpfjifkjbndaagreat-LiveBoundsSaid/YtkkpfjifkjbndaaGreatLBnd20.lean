/-
  Contracts of the walk: BkM.
-/
import Derived.Test.YtkkpfjifkjbndaaGreatLBnd6
/-
 book.living and book.counting,by the rows of their own that they leave.
-/
namespace Go.Proofs.YtkkpfjifkjbndaaGreat
open Go.RowKit
set_option maxHeartbeats 4000000 in
set_option maxRecDepth 100000 in
theorem living_own (d : Nat) (l : List Ev) (hl : l.length ≤ 1000000000) (r : Ev) (rs : List Ev) (hr : livingB l = r :: rs) :
  ASpec Tryz.prog 66 [.sl 12 l.length true (evF l)] (.own d) [(d, .row 36 12 (rs.length + 1) true (evF (r :: rs)))] := by
 refine aspec_of lay_ok 8392541 Tryz.func66 rfl rfl rfl ?_
 repeat' ((conv => whnf); first | refine Spl.yes (by first | assumption | omega) ?_ | refine Spl.no (by first | assumption | omega) ?_ | refine Wr.i64 (by omega) (by omega) ?_ | refine Still.mk rfl rfl ?_ | refine InB.mk (inB_mk (by omega) (by omega)) ?_ | refine Req.mk (by omega) ?_ | refine Req.mk ⟨by first | omega | (dsimp only; omega),by first | omega | (dsimp only; omega)⟩ ?_ | refine ARet.hdI ?_ | refine Spl.mk (fun _ => ?_) (fun _ => ?_) | refine InA.mk (inB_mk (by omega) (by omega)) ?_ | refine Wr.b64 ?_ | refine Wr.bu64 ?_ | refine Wr.bu32 ?_ | refine Wr.bu8 ?_ | refine Wr.u8 (by omega) (by omega) ?_ | refine Wr.u64 (by omega) (by omega) ?_ | refine Wr.u32 (by omega) (by omega) ?_ | refine Dv.pos (by omega) (by omega) ?_ | refine Rm.pos (by omega) (by omega) ?_ | refine ADraw.quiet follows_ok (by kernel_rfl) rfl ?_ | refine BSpl.decY (by first | assumption | omega) ?_ | refine BSpl.decN (by first | assumption | omega) ?_ | refine BSpl.dec (fun _ => ?_) (fun _ => ?_) | refine BSpl.yes (by assumption) ?_ | refine BSpl.no (by assumption) ?_ | refine BSpl.mk (fun _ => ?_) (fun _ => ?_))
 conv => whnf
 refine ALoop.mk (Took (livesB l) l) (fun x => match x with
   | ⟨(j,[]),_⟩ => ⟨[(0, .sl 12 l.length true (evF l)),(3, .box 0 0),(4, .v (.slice none 0 0)),(8, .sl 12 l.length true (evF l)),(9, .v (.int .i64 (l.length : Int))),(10, .v (.int .i64 (j : Int)))],
     [(0, .box 139 [.v (.int .i64 2), .v (.func (.func 88) #[] #[])])],[],1⟩
   | ⟨(j,y :: ys),_⟩ => ⟨[(0, .sl 12 l.length true (evF l)),(3, .box 0 0),(4, .own 90),(8, .sl 12 l.length true (evF l)),(9, .v (.int .i64 (l.length : Int))),(10, .v (.int .i64 (j : Int)))],
     [(0, .box 139 [.v (.int .i64 2), .v (.func (.func 88) #[] #[])]),(90, .row 36 12 (ys.length + 1) true (evF (y :: ys)))],[],91⟩) (fun x => l.length - x.1.1) ⟨(0,[]),Nat.zero_le _,rfl⟩ _
   (LeR.mk' [] _ _ _ rfl ⟨AEq.refl _,AEq.refl _,AEq.refl _,AEq.refl _,AEq.int rfl,AEq.int rfl,trivial⟩ ⟨⟨_,rfl,OEq.refl _⟩,trivial⟩ rfl) ?_
 rintro ⟨⟨j,ys⟩,hj,hys⟩
 dsimp only at hj hys
 rcases ys with _ | ⟨y,ys⟩
 · dsimp only
   by_cases hjl : j < l.length
   · have hab := above_spec 2 88 sameK sameK_spec l (l.getD (j : Int).toNat default) (by omega)
     have hft := filter_take (p := livesB l) hjl
     rw [← hys,List.nil_append] at hft
     have hlv : livesB l (l.getD j default) = (decide ((l.getD (j : Int).toNat default).k = 1) && !aboveB 2 sameK l (l.getD (j : Int).toNat default)) := by rw [show (j : Int).toNat = j by omega]; rfl
     rw [hlv] at hft
     generalize aboveB 2 sameK l (l.getD (j : Int).toNat default) = q at hab hft
     have hk0 : ¬ (l.getD (j : Int).toNat default).k = 1 → ([] : List Ev) = (l.take (j + 1)).filter (livesB l) := fun h => by rw [hft,decide_eq_false h]; simp
     have hq0 : q = true → ([] : List Ev) = (l.take (j + 1)).filter (livesB l) := fun h => by rw [hft,h]; simp
     have hq1 : (l.getD (j : Int).toNat default).k = 1 → q = false → [l.getD j default] = (l.take (j + 1)).filter (livesB l) := fun h h' => by rw [hft,decide_eq_true h,h']; simp
     clear hft hlv
     dsimp only [Ev.av,Ev.cs] at hab ⊢
     repeat' ((conv => whnf); first | refine Spl.yes (by first | assumption | omega) ?_ | refine Spl.no (by first | assumption | omega) ?_ | refine Wr.i64 (by omega) (by omega) ?_ | refine Still.mk rfl rfl ?_ | refine InB.mk (inB_mk (by omega) (by omega)) ?_ | refine Req.mk (by omega) ?_ | refine Req.mk ⟨by first | omega | (dsimp only; omega),by first | omega | (dsimp only; omega)⟩ ?_ | refine ACall.plain _ _ (hab) (SubL.cons (.eq _) (SubL.cons (.eq _) (SubL.cons (.eq _) .nil))) rfl ?_ | refine ARet.hdI ?_ | refine Spl.mk (fun _ => ?_) (fun _ => ?_) | refine InA.mk (inB_mk (by omega) (by omega)) ?_ | refine Wr.b64 ?_ | refine Wr.bu64 ?_ | refine Wr.bu32 ?_ | refine Wr.bu8 ?_ | refine Wr.u8 (by omega) (by omega) ?_ | refine Wr.u64 (by omega) (by omega) ?_ | refine Wr.u32 (by omega) (by omega) ?_ | refine Dv.pos (by omega) (by omega) ?_ | refine Rm.pos (by omega) (by omega) ?_ | refine ADraw.quiet follows_ok (by kernel_rfl) rfl ?_ | refine BSpl.decY (by first | assumption | omega) ?_ | refine BSpl.decN (by first | assumption | omega) ?_ | refine BSpl.dec (fun _ => ?_) (fun _ => ?_) | refine BSpl.yes (by assumption) ?_ | refine BSpl.no (by assumption) ?_ | refine BSpl.mk (fun _ => ?_) (fun _ => ?_))
     all_goals (conv => whnf)
     all_goals first
       | exact ⟨⟨(j + 1,[]),hjl,by first | exact hk0 (by assumption) | exact hq0 (by assumption)⟩,_,LeR.mk' [] _ _ _ rfl ⟨AEq.refl _,AEq.refl _,AEq.refl _,AEq.refl _,AEq.int rfl,AEq.int rfl,trivial⟩ ⟨⟨_,rfl,OEq.refl _⟩,trivial⟩ rfl,by show l.length - (j + 1) < l.length - j; omega⟩
       | (refine ⟨⟨(j + 1,[l.getD j default]),hjl,hq1 (by assumption) (by assumption)⟩,_,LeR.mk' [(3,90)] _ _ _ rfl ⟨AEq.refl _,AEq.refl _,AEq.refl _,AEq.refl _,AEq.int rfl,AEq.int rfl,trivial⟩ ⟨⟨_,rfl,OEq.refl _⟩,⟨_,rfl,OEq.row rfl (fun m hm => ?_)⟩,trivial⟩ rfl,by show l.length - (j + 1) < l.length - j; omega⟩
          have hm : m < 1 := hm
          obtain rfl : m = 0 := by omega
          rfl)
   · have e : livingB l = [] := by rw [hys,List.take_of_length_le (by omega)]; rfl
     rw [hr] at e
     cases e
 · dsimp only
   have hyl : ys.length + 1 ≤ j := by
    have h1 := congrArg List.length hys
    have h2 := List.length_filter_le (livesB l) (l.take j)
    rw [List.length_take] at h2
    rw [List.length_cons] at h1
    omega
   by_cases hjl : j < l.length
   · have hab := above_spec 2 88 sameK sameK_spec l (l.getD (j : Int).toNat default) (by omega)
     have hft := filter_take (p := livesB l) hjl
     rw [← hys] at hft
     have hlv : livesB l (l.getD j default) = (decide ((l.getD (j : Int).toNat default).k = 1) && !aboveB 2 sameK l (l.getD (j : Int).toNat default)) := by rw [show (j : Int).toNat = j by omega]; rfl
     rw [hlv] at hft
     generalize aboveB 2 sameK l (l.getD (j : Int).toNat default) = q at hab hft
     have hk0 : ¬ (l.getD (j : Int).toNat default).k = 1 → y :: ys = (l.take (j + 1)).filter (livesB l) := fun h => by rw [hft,decide_eq_false h]; simp
     have hq0 : q = true → y :: ys = (l.take (j + 1)).filter (livesB l) := fun h => by rw [hft,h]; simp
     have hq1 : (l.getD (j : Int).toNat default).k = 1 → q = false → y :: (ys ++ [l.getD j default]) = (l.take (j + 1)).filter (livesB l) := fun h h' => by rw [hft,decide_eq_true h,h']; simp
     clear hft hlv
     dsimp only [Ev.av,Ev.cs] at hab ⊢
     repeat' ((conv => whnf); first | refine Spl.yes (by first | assumption | omega) ?_ | refine Spl.no (by first | assumption | omega) ?_ | refine Wr.i64 (by omega) (by omega) ?_ | refine Still.mk rfl rfl ?_ | refine InB.mk (inB_mk (by omega) (by omega)) ?_ | refine Req.mk (by omega) ?_ | refine Req.mk ⟨by first | omega | (dsimp only; omega),by first | omega | (dsimp only; omega)⟩ ?_ | refine ACall.plain _ _ (hab) (SubL.cons (.eq _) (SubL.cons (.eq _) (SubL.cons (.eq _) .nil))) rfl ?_ | refine ARet.hdI ?_ | refine Spl.mk (fun _ => ?_) (fun _ => ?_) | refine InA.mk (inB_mk (by omega) (by omega)) ?_ | refine Wr.b64 ?_ | refine Wr.bu64 ?_ | refine Wr.bu32 ?_ | refine Wr.bu8 ?_ | refine Wr.u8 (by omega) (by omega) ?_ | refine Wr.u64 (by omega) (by omega) ?_ | refine Wr.u32 (by omega) (by omega) ?_ | refine Dv.pos (by omega) (by omega) ?_ | refine Rm.pos (by omega) (by omega) ?_ | refine ADraw.quiet follows_ok (by kernel_rfl) rfl ?_ | refine BSpl.decY (by first | assumption | omega) ?_ | refine BSpl.decN (by first | assumption | omega) ?_ | refine BSpl.dec (fun _ => ?_) (fun _ => ?_) | refine BSpl.yes (by assumption) ?_ | refine BSpl.no (by assumption) ?_ | refine BSpl.mk (fun _ => ?_) (fun _ => ?_))
     all_goals (conv => whnf)
     all_goals first
       | exact ⟨⟨(j + 1,y :: ys),hjl,by first | exact hk0 (by assumption) | exact hq0 (by assumption)⟩,_,LeR.mk' [] _ _ _ rfl ⟨AEq.refl _,AEq.refl _,AEq.refl _,AEq.refl _,AEq.int rfl,AEq.int rfl,trivial⟩ ⟨⟨_,rfl,OEq.refl _⟩,⟨_,rfl,OEq.refl _⟩,trivial⟩ rfl,by show l.length - (j + 1) < l.length - j; omega⟩
       | (refine ⟨⟨(j + 1,y :: (ys ++ [l.getD j default])),hjl,hq1 (by assumption) (by assumption)⟩,_,LeR.mk' [(93,90)] _ _ _ rfl ⟨AEq.refl _,AEq.refl _,AEq.refl _,AEq.refl _,AEq.int rfl,AEq.int rfl,trivial⟩ ⟨⟨_,rfl,OEq.refl _⟩,⟨_,rfl,OEq.row (by simp) (fun m hm => ?_)⟩,trivial⟩ rfl,by show l.length - (j + 1) < l.length - j; omega⟩
          exact els_app1 (c := Ev.cs) (l := y :: ys) rfl rfl m hm)
   · have e : livingB l = y :: ys := by rw [hys,List.take_of_length_le (by omega)]; rfl
     rw [hr] at e
     cases e
     repeat' ((conv => whnf); first | refine Spl.yes (by first | assumption | omega) ?_ | refine Spl.no (by first | assumption | omega) ?_ | refine Wr.i64 (by omega) (by omega) ?_ | refine Still.mk rfl rfl ?_ | refine InB.mk (inB_mk (by omega) (by omega)) ?_ | refine Req.mk (by omega) ?_ | refine Req.mk ⟨by first | omega | (dsimp only; omega),by first | omega | (dsimp only; omega)⟩ ?_ | refine ARet.ownX d rfl rfl (OEq.refl _) (AEq.refl _) | refine Spl.mk (fun _ => ?_) (fun _ => ?_) | refine InA.mk (inB_mk (by omega) (by omega)) ?_ | refine Wr.b64 ?_ | refine Wr.bu64 ?_ | refine Wr.bu32 ?_ | refine Wr.bu8 ?_ | refine Wr.u8 (by omega) (by omega) ?_ | refine Wr.u64 (by omega) (by omega) ?_ | refine Wr.u32 (by omega) (by omega) ?_ | refine Dv.pos (by omega) (by omega) ?_ | refine Rm.pos (by omega) (by omega) ?_ | refine ADraw.quiet follows_ok (by kernel_rfl) rfl ?_ | refine BSpl.decY (by first | assumption | omega) ?_ | refine BSpl.decN (by first | assumption | omega) ?_ | refine BSpl.dec (fun _ => ?_) (fun _ => ?_) | refine BSpl.yes (by assumption) ?_ | refine BSpl.no (by assumption) ?_ | refine BSpl.mk (fun _ => ?_) (fun _ => ?_))
set_option maxHeartbeats 4000000 in
set_option maxRecDepth 100000 in
theorem living_nil (l : List Ev) (hl : l.length ≤ 1000000000) (hr : livingB l = []) :
  ASpec Tryz.prog 66 [.sl 12 l.length true (evF l)] (.v (.slice none 0 0)) [] := by
 refine aspec_of lay_ok 8392541 Tryz.func66 rfl rfl rfl ?_
 repeat' ((conv => whnf); first | refine Spl.yes (by first | assumption | omega) ?_ | refine Spl.no (by first | assumption | omega) ?_ | refine Wr.i64 (by omega) (by omega) ?_ | refine Still.mk rfl rfl ?_ | refine InB.mk (inB_mk (by omega) (by omega)) ?_ | refine Req.mk (by omega) ?_ | refine Req.mk ⟨by first | omega | (dsimp only; omega),by first | omega | (dsimp only; omega)⟩ ?_ | refine ARet.hdI ?_ | refine Spl.mk (fun _ => ?_) (fun _ => ?_) | refine InA.mk (inB_mk (by omega) (by omega)) ?_ | refine Wr.b64 ?_ | refine Wr.bu64 ?_ | refine Wr.bu32 ?_ | refine Wr.bu8 ?_ | refine Wr.u8 (by omega) (by omega) ?_ | refine Wr.u64 (by omega) (by omega) ?_ | refine Wr.u32 (by omega) (by omega) ?_ | refine Dv.pos (by omega) (by omega) ?_ | refine Rm.pos (by omega) (by omega) ?_ | refine ADraw.quiet follows_ok (by kernel_rfl) rfl ?_ | refine BSpl.decY (by first | assumption | omega) ?_ | refine BSpl.decN (by first | assumption | omega) ?_ | refine BSpl.dec (fun _ => ?_) (fun _ => ?_) | refine BSpl.yes (by assumption) ?_ | refine BSpl.no (by assumption) ?_ | refine BSpl.mk (fun _ => ?_) (fun _ => ?_))
 conv => whnf
 refine ALoop.mk (Took (livesB l) l) (fun x => match x with
   | ⟨(j,[]),_⟩ => ⟨[(0, .sl 12 l.length true (evF l)),(3, .box 0 0),(4, .v (.slice none 0 0)),(8, .sl 12 l.length true (evF l)),(9, .v (.int .i64 (l.length : Int))),(10, .v (.int .i64 (j : Int)))],
     [(0, .box 139 [.v (.int .i64 2), .v (.func (.func 88) #[] #[])])],[],1⟩
   | ⟨(j,y :: ys),_⟩ => ⟨[(0, .sl 12 l.length true (evF l)),(3, .box 0 0),(4, .own 90),(8, .sl 12 l.length true (evF l)),(9, .v (.int .i64 (l.length : Int))),(10, .v (.int .i64 (j : Int)))],
     [(0, .box 139 [.v (.int .i64 2), .v (.func (.func 88) #[] #[])]),(90, .row 36 12 (ys.length + 1) true (evF (y :: ys)))],[],91⟩) (fun x => l.length - x.1.1) ⟨(0,[]),Nat.zero_le _,rfl⟩ _
   (LeR.mk' [] _ _ _ rfl ⟨AEq.refl _,AEq.refl _,AEq.refl _,AEq.refl _,AEq.int rfl,AEq.int rfl,trivial⟩ ⟨⟨_,rfl,OEq.refl _⟩,trivial⟩ rfl) ?_
 rintro ⟨⟨j,ys⟩,hj,hys⟩
 dsimp only at hj hys
 rcases ys with _ | ⟨y,ys⟩
 · dsimp only
   by_cases hjl : j < l.length
   · have hab := above_spec 2 88 sameK sameK_spec l (l.getD (j : Int).toNat default) (by omega)
     have hft := filter_take (p := livesB l) hjl
     rw [← hys,List.nil_append] at hft
     have hlv : livesB l (l.getD j default) = (decide ((l.getD (j : Int).toNat default).k = 1) && !aboveB 2 sameK l (l.getD (j : Int).toNat default)) := by rw [show (j : Int).toNat = j by omega]; rfl
     rw [hlv] at hft
     generalize aboveB 2 sameK l (l.getD (j : Int).toNat default) = q at hab hft
     have hk0 : ¬ (l.getD (j : Int).toNat default).k = 1 → ([] : List Ev) = (l.take (j + 1)).filter (livesB l) := fun h => by rw [hft,decide_eq_false h]; simp
     have hq0 : q = true → ([] : List Ev) = (l.take (j + 1)).filter (livesB l) := fun h => by rw [hft,h]; simp
     have hq1 : (l.getD (j : Int).toNat default).k = 1 → q = false → [l.getD j default] = (l.take (j + 1)).filter (livesB l) := fun h h' => by rw [hft,decide_eq_true h,h']; simp
     clear hft hlv
     dsimp only [Ev.av,Ev.cs] at hab ⊢
     repeat' ((conv => whnf); first | refine Spl.yes (by first | assumption | omega) ?_ | refine Spl.no (by first | assumption | omega) ?_ | refine Wr.i64 (by omega) (by omega) ?_ | refine Still.mk rfl rfl ?_ | refine InB.mk (inB_mk (by omega) (by omega)) ?_ | refine Req.mk (by omega) ?_ | refine Req.mk ⟨by first | omega | (dsimp only; omega),by first | omega | (dsimp only; omega)⟩ ?_ | refine ACall.plain _ _ (hab) (SubL.cons (.eq _) (SubL.cons (.eq _) (SubL.cons (.eq _) .nil))) rfl ?_ | refine ARet.hdI ?_ | refine Spl.mk (fun _ => ?_) (fun _ => ?_) | refine InA.mk (inB_mk (by omega) (by omega)) ?_ | refine Wr.b64 ?_ | refine Wr.bu64 ?_ | refine Wr.bu32 ?_ | refine Wr.bu8 ?_ | refine Wr.u8 (by omega) (by omega) ?_ | refine Wr.u64 (by omega) (by omega) ?_ | refine Wr.u32 (by omega) (by omega) ?_ | refine Dv.pos (by omega) (by omega) ?_ | refine Rm.pos (by omega) (by omega) ?_ | refine ADraw.quiet follows_ok (by kernel_rfl) rfl ?_ | refine BSpl.decY (by first | assumption | omega) ?_ | refine BSpl.decN (by first | assumption | omega) ?_ | refine BSpl.dec (fun _ => ?_) (fun _ => ?_) | refine BSpl.yes (by assumption) ?_ | refine BSpl.no (by assumption) ?_ | refine BSpl.mk (fun _ => ?_) (fun _ => ?_))
     all_goals (conv => whnf)
     all_goals first
       | exact ⟨⟨(j + 1,[]),hjl,by first | exact hk0 (by assumption) | exact hq0 (by assumption)⟩,_,LeR.mk' [] _ _ _ rfl ⟨AEq.refl _,AEq.refl _,AEq.refl _,AEq.refl _,AEq.int rfl,AEq.int rfl,trivial⟩ ⟨⟨_,rfl,OEq.refl _⟩,trivial⟩ rfl,by show l.length - (j + 1) < l.length - j; omega⟩
       | (refine ⟨⟨(j + 1,[l.getD j default]),hjl,hq1 (by assumption) (by assumption)⟩,_,LeR.mk' [(3,90)] _ _ _ rfl ⟨AEq.refl _,AEq.refl _,AEq.refl _,AEq.refl _,AEq.int rfl,AEq.int rfl,trivial⟩ ⟨⟨_,rfl,OEq.refl _⟩,⟨_,rfl,OEq.row rfl (fun m hm => ?_)⟩,trivial⟩ rfl,by show l.length - (j + 1) < l.length - j; omega⟩
          have hm : m < 1 := hm
          obtain rfl : m = 0 := by omega
          rfl)
   · have e : livingB l = [] := by rw [hys,List.take_of_length_le (by omega)]; rfl
     repeat' ((conv => whnf); first | refine Spl.yes (by first | assumption | omega) ?_ | refine Spl.no (by first | assumption | omega) ?_ | refine Wr.i64 (by omega) (by omega) ?_ | refine Still.mk rfl rfl ?_ | refine InB.mk (inB_mk (by omega) (by omega)) ?_ | refine Req.mk (by omega) ?_ | refine Req.mk ⟨by first | omega | (dsimp only; omega),by first | omega | (dsimp only; omega)⟩ ?_ | refine ARet.hdI ?_ | refine Spl.mk (fun _ => ?_) (fun _ => ?_) | refine InA.mk (inB_mk (by omega) (by omega)) ?_ | refine Wr.b64 ?_ | refine Wr.bu64 ?_ | refine Wr.bu32 ?_ | refine Wr.bu8 ?_ | refine Wr.u8 (by omega) (by omega) ?_ | refine Wr.u64 (by omega) (by omega) ?_ | refine Wr.u32 (by omega) (by omega) ?_ | refine Dv.pos (by omega) (by omega) ?_ | refine Rm.pos (by omega) (by omega) ?_ | refine ADraw.quiet follows_ok (by kernel_rfl) rfl ?_ | refine BSpl.decY (by first | assumption | omega) ?_ | refine BSpl.decN (by first | assumption | omega) ?_ | refine BSpl.dec (fun _ => ?_) (fun _ => ?_) | refine BSpl.yes (by assumption) ?_ | refine BSpl.no (by assumption) ?_ | refine BSpl.mk (fun _ => ?_) (fun _ => ?_))
     conv => whnf
     exact AEqI.mk (AEq.refl _)
 · dsimp only
   have hyl : ys.length + 1 ≤ j := by
    have h1 := congrArg List.length hys
    have h2 := List.length_filter_le (livesB l) (l.take j)
    rw [List.length_take] at h2
    rw [List.length_cons] at h1
    omega
   by_cases hjl : j < l.length
   · have hab := above_spec 2 88 sameK sameK_spec l (l.getD (j : Int).toNat default) (by omega)
     have hft := filter_take (p := livesB l) hjl
     rw [← hys] at hft
     have hlv : livesB l (l.getD j default) = (decide ((l.getD (j : Int).toNat default).k = 1) && !aboveB 2 sameK l (l.getD (j : Int).toNat default)) := by rw [show (j : Int).toNat = j by omega]; rfl
     rw [hlv] at hft
     generalize aboveB 2 sameK l (l.getD (j : Int).toNat default) = q at hab hft
     have hk0 : ¬ (l.getD (j : Int).toNat default).k = 1 → y :: ys = (l.take (j + 1)).filter (livesB l) := fun h => by rw [hft,decide_eq_false h]; simp
     have hq0 : q = true → y :: ys = (l.take (j + 1)).filter (livesB l) := fun h => by rw [hft,h]; simp
     have hq1 : (l.getD (j : Int).toNat default).k = 1 → q = false → y :: (ys ++ [l.getD j default]) = (l.take (j + 1)).filter (livesB l) := fun h h' => by rw [hft,decide_eq_true h,h']; simp
     clear hft hlv
     dsimp only [Ev.av,Ev.cs] at hab ⊢
     repeat' ((conv => whnf); first | refine Spl.yes (by first | assumption | omega) ?_ | refine Spl.no (by first | assumption | omega) ?_ | refine Wr.i64 (by omega) (by omega) ?_ | refine Still.mk rfl rfl ?_ | refine InB.mk (inB_mk (by omega) (by omega)) ?_ | refine Req.mk (by omega) ?_ | refine Req.mk ⟨by first | omega | (dsimp only; omega),by first | omega | (dsimp only; omega)⟩ ?_ | refine ACall.plain _ _ (hab) (SubL.cons (.eq _) (SubL.cons (.eq _) (SubL.cons (.eq _) .nil))) rfl ?_ | refine ARet.hdI ?_ | refine Spl.mk (fun _ => ?_) (fun _ => ?_) | refine InA.mk (inB_mk (by omega) (by omega)) ?_ | refine Wr.b64 ?_ | refine Wr.bu64 ?_ | refine Wr.bu32 ?_ | refine Wr.bu8 ?_ | refine Wr.u8 (by omega) (by omega) ?_ | refine Wr.u64 (by omega) (by omega) ?_ | refine Wr.u32 (by omega) (by omega) ?_ | refine Dv.pos (by omega) (by omega) ?_ | refine Rm.pos (by omega) (by omega) ?_ | refine ADraw.quiet follows_ok (by kernel_rfl) rfl ?_ | refine BSpl.decY (by first | assumption | omega) ?_ | refine BSpl.decN (by first | assumption | omega) ?_ | refine BSpl.dec (fun _ => ?_) (fun _ => ?_) | refine BSpl.yes (by assumption) ?_ | refine BSpl.no (by assumption) ?_ | refine BSpl.mk (fun _ => ?_) (fun _ => ?_))
     all_goals (conv => whnf)
     all_goals first
       | exact ⟨⟨(j + 1,y :: ys),hjl,by first | exact hk0 (by assumption) | exact hq0 (by assumption)⟩,_,LeR.mk' [] _ _ _ rfl ⟨AEq.refl _,AEq.refl _,AEq.refl _,AEq.refl _,AEq.int rfl,AEq.int rfl,trivial⟩ ⟨⟨_,rfl,OEq.refl _⟩,⟨_,rfl,OEq.refl _⟩,trivial⟩ rfl,by show l.length - (j + 1) < l.length - j; omega⟩
       | (refine ⟨⟨(j + 1,y :: (ys ++ [l.getD j default])),hjl,hq1 (by assumption) (by assumption)⟩,_,LeR.mk' [(93,90)] _ _ _ rfl ⟨AEq.refl _,AEq.refl _,AEq.refl _,AEq.refl _,AEq.int rfl,AEq.int rfl,trivial⟩ ⟨⟨_,rfl,OEq.refl _⟩,⟨_,rfl,OEq.row (by simp) (fun m hm => ?_)⟩,trivial⟩ rfl,by show l.length - (j + 1) < l.length - j; omega⟩
          exact els_app1 (c := Ev.cs) (l := y :: ys) rfl rfl m hm)
   · have e : livingB l = y :: ys := by rw [hys,List.take_of_length_le (by omega)]; rfl
     rw [hr] at e
     cases e
set_option maxHeartbeats 8000000 in
set_option maxRecDepth 100000 in
theorem counting_own (d : Nat) (l cr : List Ev) (hl : l.length ≤ 1000000000) (hc : cr.length ≤ 1000000000) (r : Ev) (rs : List Ev) (hr : countingB l cr = r :: rs) :
  ASpec Tryz.prog 67 [.sl 12 l.length true (evF l), .sl 12 cr.length true (evF cr)] (.own d) [(d, .row 36 12 (rs.length + 1) true (evF (r :: rs)))] := by
 refine aspec_of lay_ok 4399155442419 Tryz.func67 rfl rfl rfl ?_
 repeat' ((conv => whnf); first | refine Spl.yes (by first | assumption | omega) ?_ | refine Spl.no (by first | assumption | omega) ?_ | refine Wr.i64 (by omega) (by omega) ?_ | refine Still.mk rfl rfl ?_ | refine InB.mk (inB_mk (by omega) (by omega)) ?_ | refine Req.mk (by omega) ?_ | refine Req.mk ⟨by first | omega | (dsimp only; omega),by first | omega | (dsimp only; omega)⟩ ?_ | refine ARet.hdI ?_ | refine Spl.mk (fun _ => ?_) (fun _ => ?_) | refine InA.mk (inB_mk (by omega) (by omega)) ?_ | refine Wr.b64 ?_ | refine Wr.bu64 ?_ | refine Wr.bu32 ?_ | refine Wr.bu8 ?_ | refine Wr.u8 (by omega) (by omega) ?_ | refine Wr.u64 (by omega) (by omega) ?_ | refine Wr.u32 (by omega) (by omega) ?_ | refine Dv.pos (by omega) (by omega) ?_ | refine Rm.pos (by omega) (by omega) ?_ | refine ADraw.quiet follows_ok (by kernel_rfl) rfl ?_ | refine BSpl.decY (by first | assumption | omega) ?_ | refine BSpl.decN (by first | assumption | omega) ?_ | refine BSpl.dec (fun _ => ?_) (fun _ => ?_) | refine BSpl.yes (by assumption) ?_ | refine BSpl.no (by assumption) ?_ | refine BSpl.mk (fun _ => ?_) (fun _ => ?_))
 conv => whnf
 refine ALoop.mk (Took (countB l cr) l) (fun x => match x with
   | ⟨(j,[]),_⟩ => ⟨[(0, .sl 12 l.length true (evF l)),(1, .sl 12 cr.length true (evF cr)),(5, .box 0 0),(6, .box 1 0),(7, .v (.slice none 0 0)),(12, .sl 12 l.length true (evF l)),(13, .v (.int .i64 (l.length : Int))),(14, .v (.int .i64 (j : Int)))],
     [(0, .box 139 [.v (.int .i64 1), .v (.func (.func 88) #[] #[])]),(1, .box 139 [.v (.int .i64 5), .v (.func (.func 90) #[] #[])])],[],2⟩
   | ⟨(j,y :: ys),_⟩ => ⟨[(0, .sl 12 l.length true (evF l)),(1, .sl 12 cr.length true (evF cr)),(5, .box 0 0),(6, .box 1 0),(7, .own 90),(12, .sl 12 l.length true (evF l)),(13, .v (.int .i64 (l.length : Int))),(14, .v (.int .i64 (j : Int)))],
     [(0, .box 139 [.v (.int .i64 1), .v (.func (.func 88) #[] #[])]),(1, .box 139 [.v (.int .i64 5), .v (.func (.func 90) #[] #[])]),(90, .row 36 12 (ys.length + 1) true (evF (y :: ys)))],[],91⟩) (fun x => l.length - x.1.1) ⟨(0,[]),Nat.zero_le _,rfl⟩ _
   (LeR.mk' [] _ _ _ rfl ⟨AEq.refl _,AEq.refl _,AEq.refl _,AEq.refl _,AEq.refl _,AEq.refl _,AEq.int rfl,AEq.int rfl,trivial⟩ ⟨⟨_,rfl,OEq.refl _⟩,⟨_,rfl,OEq.refl _⟩,trivial⟩ rfl) ?_
 rintro ⟨⟨j,ys⟩,hj,hys⟩
 dsimp only at hj hys
 rcases ys with _ | ⟨y,ys⟩
 · dsimp only
   by_cases hjl : j < l.length
   · have hab := above_spec 5 90 sameV sameV_spec l (l.getD (j : Int).toNat default) (by omega)
     have hun := under_spec 1 88 sameK sameK_spec cr (l.getD (j : Int).toNat default) (by omega)
     have hft := filter_take (p := countB l cr) hjl
     rw [← hys,List.nil_append] at hft
     have hlv : countB l cr (l.getD j default) = ((decide ((l.getD (j : Int).toNat default).k = 3) || (decide ((l.getD (j : Int).toNat default).k = 4) && !aboveB 5 sameV l (l.getD (j : Int).toNat default))) && underB 1 sameK cr (l.getD (j : Int).toNat default)) := by rw [show (j : Int).toNat = j by omega]; rfl
     rw [hlv] at hft
     generalize aboveB 5 sameV l (l.getD (j : Int).toNat default) = q1 at hab hft
     generalize underB 1 sameK cr (l.getD (j : Int).toNat default) = q2 at hun hft
     have n1 : ¬ (l.getD (j : Int).toNat default).k = 3 → ¬ (l.getD (j : Int).toNat default).k = 4 → ([] : List Ev) = (l.take (j + 1)).filter (countB l cr) := fun h h' => by rw [hft,decide_eq_false h,decide_eq_false h']; simp
     have n2 : q2 = false → ([] : List Ev) = (l.take (j + 1)).filter (countB l cr) := fun h => by rw [hft,h]; simp
     have n3 : (l.getD (j : Int).toNat default).k = 4 → q1 = true → ([] : List Ev) = (l.take (j + 1)).filter (countB l cr) := fun h h' => by rw [hft,decide_eq_false (show ¬ (l.getD (j : Int).toNat default).k = 3 by omega),h']; simp
     have y1 : (l.getD (j : Int).toNat default).k = 3 → q2 = true → [l.getD j default] = (l.take (j + 1)).filter (countB l cr) := fun h h' => by rw [hft,decide_eq_true h,h']; simp
     have y2 : (l.getD (j : Int).toNat default).k = 4 → q1 = false → q2 = true → [l.getD j default] = (l.take (j + 1)).filter (countB l cr) := fun h h' h2 => by rw [hft,decide_eq_true h,h',h2]; simp
     clear hft hlv
     dsimp only [Ev.av,Ev.cs] at hab hun ⊢
     repeat' ((conv => whnf); first | refine Spl.yes (by first | assumption | omega) ?_ | refine Spl.no (by first | assumption | omega) ?_ | refine Wr.i64 (by omega) (by omega) ?_ | refine Still.mk rfl rfl ?_ | refine InB.mk (inB_mk (by omega) (by omega)) ?_ | refine Req.mk (by omega) ?_ | refine Req.mk ⟨by first | omega | (dsimp only; omega),by first | omega | (dsimp only; omega)⟩ ?_ | refine ACall.plain _ _ (hab) (SubL.cons (.eq _) (SubL.cons (.eq _) (SubL.cons (.eq _) .nil))) rfl ?_ | refine ACall.plain _ _ (hun) (SubL.cons (.eq _) (SubL.cons (.eq _) (SubL.cons (.eq _) .nil))) rfl ?_ | refine ARet.hdI ?_ | refine Spl.mk (fun _ => ?_) (fun _ => ?_) | refine InA.mk (inB_mk (by omega) (by omega)) ?_ | refine Wr.b64 ?_ | refine Wr.bu64 ?_ | refine Wr.bu32 ?_ | refine Wr.bu8 ?_ | refine Wr.u8 (by omega) (by omega) ?_ | refine Wr.u64 (by omega) (by omega) ?_ | refine Wr.u32 (by omega) (by omega) ?_ | refine Dv.pos (by omega) (by omega) ?_ | refine Rm.pos (by omega) (by omega) ?_ | refine ADraw.quiet follows_ok (by kernel_rfl) rfl ?_ | refine BSpl.decY (by first | assumption | omega) ?_ | refine BSpl.decN (by first | assumption | omega) ?_ | refine BSpl.dec (fun _ => ?_) (fun _ => ?_) | refine BSpl.yes (by assumption) ?_ | refine BSpl.no (by assumption) ?_ | refine BSpl.mk (fun _ => ?_) (fun _ => ?_))
     all_goals (conv => whnf)
     all_goals first
       | exact ⟨⟨(j + 1,([] : List Ev)),hjl,by first | exact n1 (by assumption) (by assumption) | exact n2 (by assumption) | exact n3 (by assumption) (by assumption)⟩,_,LeR.mk' [] _ _ _ rfl ⟨AEq.refl _,AEq.refl _,AEq.refl _,AEq.refl _,AEq.refl _,AEq.refl _,AEq.int rfl,AEq.int rfl,trivial⟩ ⟨⟨_,rfl,OEq.refl _⟩,⟨_,rfl,OEq.refl _⟩,trivial⟩ rfl,by show l.length - (j + 1) < l.length - j; omega⟩
       | (refine ⟨⟨(j + 1,[l.getD j default]),hjl,by first | exact y1 (by assumption) (by assumption) | exact y2 (by assumption) (by assumption) (by assumption)⟩,_,LeR.mk' [(4,90)] _ _ _ rfl ⟨AEq.refl _,AEq.refl _,AEq.refl _,AEq.refl _,AEq.refl _,AEq.refl _,AEq.int rfl,AEq.int rfl,trivial⟩ ⟨⟨_,rfl,OEq.refl _⟩,⟨_,rfl,OEq.refl _⟩,⟨_,rfl,OEq.row (by simp) (fun m hm => ?_)⟩,trivial⟩ rfl,by show l.length - (j + 1) < l.length - j; omega⟩
          have hm : m < 1 := hm
          obtain rfl : m = 0 := by omega
          rfl)
   · have e : countingB l cr = ([] : List Ev) := by rw [hys,List.take_of_length_le (by omega)]; rfl
     rw [hr] at e
     cases e
 · dsimp only
   have hyl : ys.length + 1 ≤ j := by
    have h1 := congrArg List.length hys
    have h2 := List.length_filter_le (countB l cr) (l.take j)
    rw [List.length_take] at h2
    rw [List.length_cons] at h1
    omega
   by_cases hjl : j < l.length
   · have hab := above_spec 5 90 sameV sameV_spec l (l.getD (j : Int).toNat default) (by omega)
     have hun := under_spec 1 88 sameK sameK_spec cr (l.getD (j : Int).toNat default) (by omega)
     have hft := filter_take (p := countB l cr) hjl
     rw [← hys] at hft
     have hlv : countB l cr (l.getD j default) = ((decide ((l.getD (j : Int).toNat default).k = 3) || (decide ((l.getD (j : Int).toNat default).k = 4) && !aboveB 5 sameV l (l.getD (j : Int).toNat default))) && underB 1 sameK cr (l.getD (j : Int).toNat default)) := by rw [show (j : Int).toNat = j by omega]; rfl
     rw [hlv] at hft
     generalize aboveB 5 sameV l (l.getD (j : Int).toNat default) = q1 at hab hft
     generalize underB 1 sameK cr (l.getD (j : Int).toNat default) = q2 at hun hft
     have n1 : ¬ (l.getD (j : Int).toNat default).k = 3 → ¬ (l.getD (j : Int).toNat default).k = 4 → y :: ys = (l.take (j + 1)).filter (countB l cr) := fun h h' => by rw [hft,decide_eq_false h,decide_eq_false h']; simp
     have n2 : q2 = false → y :: ys = (l.take (j + 1)).filter (countB l cr) := fun h => by rw [hft,h]; simp
     have n3 : (l.getD (j : Int).toNat default).k = 4 → q1 = true → y :: ys = (l.take (j + 1)).filter (countB l cr) := fun h h' => by rw [hft,decide_eq_false (show ¬ (l.getD (j : Int).toNat default).k = 3 by omega),h']; simp
     have y1 : (l.getD (j : Int).toNat default).k = 3 → q2 = true → y :: (ys ++ [l.getD j default]) = (l.take (j + 1)).filter (countB l cr) := fun h h' => by rw [hft,decide_eq_true h,h']; simp
     have y2 : (l.getD (j : Int).toNat default).k = 4 → q1 = false → q2 = true → y :: (ys ++ [l.getD j default]) = (l.take (j + 1)).filter (countB l cr) := fun h h' h2 => by rw [hft,decide_eq_true h,h',h2]; simp
     clear hft hlv
     dsimp only [Ev.av,Ev.cs] at hab hun ⊢
     repeat' ((conv => whnf); first | refine Spl.yes (by first | assumption | omega) ?_ | refine Spl.no (by first | assumption | omega) ?_ | refine Wr.i64 (by omega) (by omega) ?_ | refine Still.mk rfl rfl ?_ | refine InB.mk (inB_mk (by omega) (by omega)) ?_ | refine Req.mk (by omega) ?_ | refine Req.mk ⟨by first | omega | (dsimp only; omega),by first | omega | (dsimp only; omega)⟩ ?_ | refine ACall.plain _ _ (hab) (SubL.cons (.eq _) (SubL.cons (.eq _) (SubL.cons (.eq _) .nil))) rfl ?_ | refine ACall.plain _ _ (hun) (SubL.cons (.eq _) (SubL.cons (.eq _) (SubL.cons (.eq _) .nil))) rfl ?_ | refine ARet.hdI ?_ | refine Spl.mk (fun _ => ?_) (fun _ => ?_) | refine InA.mk (inB_mk (by omega) (by omega)) ?_ | refine Wr.b64 ?_ | refine Wr.bu64 ?_ | refine Wr.bu32 ?_ | refine Wr.bu8 ?_ | refine Wr.u8 (by omega) (by omega) ?_ | refine Wr.u64 (by omega) (by omega) ?_ | refine Wr.u32 (by omega) (by omega) ?_ | refine Dv.pos (by omega) (by omega) ?_ | refine Rm.pos (by omega) (by omega) ?_ | refine ADraw.quiet follows_ok (by kernel_rfl) rfl ?_ | refine BSpl.decY (by first | assumption | omega) ?_ | refine BSpl.decN (by first | assumption | omega) ?_ | refine BSpl.dec (fun _ => ?_) (fun _ => ?_) | refine BSpl.yes (by assumption) ?_ | refine BSpl.no (by assumption) ?_ | refine BSpl.mk (fun _ => ?_) (fun _ => ?_))
     all_goals (conv => whnf)
     all_goals first
       | exact ⟨⟨(j + 1,y :: ys),hjl,by first | exact n1 (by assumption) (by assumption) | exact n2 (by assumption) | exact n3 (by assumption) (by assumption)⟩,_,LeR.mk' [] _ _ _ rfl ⟨AEq.refl _,AEq.refl _,AEq.refl _,AEq.refl _,AEq.refl _,AEq.refl _,AEq.int rfl,AEq.int rfl,trivial⟩ ⟨⟨_,rfl,OEq.refl _⟩,⟨_,rfl,OEq.refl _⟩,⟨_,rfl,OEq.refl _⟩,trivial⟩ rfl,by show l.length - (j + 1) < l.length - j; omega⟩
       | (refine ⟨⟨(j + 1,y :: (ys ++ [l.getD j default])),hjl,by first | exact y1 (by assumption) (by assumption) | exact y2 (by assumption) (by assumption) (by assumption)⟩,_,LeR.mk' [(93,90)] _ _ _ rfl ⟨AEq.refl _,AEq.refl _,AEq.refl _,AEq.refl _,AEq.refl _,AEq.refl _,AEq.int rfl,AEq.int rfl,trivial⟩ ⟨⟨_,rfl,OEq.refl _⟩,⟨_,rfl,OEq.refl _⟩,⟨_,rfl,OEq.row (by simp) (fun m hm => ?_)⟩,trivial⟩ rfl,by show l.length - (j + 1) < l.length - j; omega⟩
          exact els_app1 (c := Ev.cs) (l := y :: ys) rfl rfl m hm)
   · have e : countingB l cr = y :: ys := by rw [hys,List.take_of_length_le (by omega)]; rfl
     rw [hr] at e
     cases e
     repeat' ((conv => whnf); first | refine Spl.yes (by first | assumption | omega) ?_ | refine Spl.no (by first | assumption | omega) ?_ | refine Wr.i64 (by omega) (by omega) ?_ | refine Still.mk rfl rfl ?_ | refine InB.mk (inB_mk (by omega) (by omega)) ?_ | refine Req.mk (by omega) ?_ | refine Req.mk ⟨by first | omega | (dsimp only; omega),by first | omega | (dsimp only; omega)⟩ ?_ | refine ARet.ownX d rfl rfl (OEq.refl _) (AEq.refl _) | refine Spl.mk (fun _ => ?_) (fun _ => ?_) | refine InA.mk (inB_mk (by omega) (by omega)) ?_ | refine Wr.b64 ?_ | refine Wr.bu64 ?_ | refine Wr.bu32 ?_ | refine Wr.bu8 ?_ | refine Wr.u8 (by omega) (by omega) ?_ | refine Wr.u64 (by omega) (by omega) ?_ | refine Wr.u32 (by omega) (by omega) ?_ | refine Dv.pos (by omega) (by omega) ?_ | refine Rm.pos (by omega) (by omega) ?_ | refine ADraw.quiet follows_ok (by kernel_rfl) rfl ?_ | refine BSpl.decY (by first | assumption | omega) ?_ | refine BSpl.decN (by first | assumption | omega) ?_ | refine BSpl.dec (fun _ => ?_) (fun _ => ?_) | refine BSpl.yes (by assumption) ?_ | refine BSpl.no (by assumption) ?_ | refine BSpl.mk (fun _ => ?_) (fun _ => ?_))
set_option maxHeartbeats 8000000 in
set_option maxRecDepth 100000 in
theorem counting_nil (l cr : List Ev) (hl : l.length ≤ 1000000000) (hc : cr.length ≤ 1000000000) (hr : countingB l cr = []) :
  ASpec Tryz.prog 67 [.sl 12 l.length true (evF l), .sl 12 cr.length true (evF cr)] (.v (.slice none 0 0)) [] := by
 refine aspec_of lay_ok 4399155442419 Tryz.func67 rfl rfl rfl ?_
 repeat' ((conv => whnf); first | refine Spl.yes (by first | assumption | omega) ?_ | refine Spl.no (by first | assumption | omega) ?_ | refine Wr.i64 (by omega) (by omega) ?_ | refine Still.mk rfl rfl ?_ | refine InB.mk (inB_mk (by omega) (by omega)) ?_ | refine Req.mk (by omega) ?_ | refine Req.mk ⟨by first | omega | (dsimp only; omega),by first | omega | (dsimp only; omega)⟩ ?_ | refine ARet.hdI ?_ | refine Spl.mk (fun _ => ?_) (fun _ => ?_) | refine InA.mk (inB_mk (by omega) (by omega)) ?_ | refine Wr.b64 ?_ | refine Wr.bu64 ?_ | refine Wr.bu32 ?_ | refine Wr.bu8 ?_ | refine Wr.u8 (by omega) (by omega) ?_ | refine Wr.u64 (by omega) (by omega) ?_ | refine Wr.u32 (by omega) (by omega) ?_ | refine Dv.pos (by omega) (by omega) ?_ | refine Rm.pos (by omega) (by omega) ?_ | refine ADraw.quiet follows_ok (by kernel_rfl) rfl ?_ | refine BSpl.decY (by first | assumption | omega) ?_ | refine BSpl.decN (by first | assumption | omega) ?_ | refine BSpl.dec (fun _ => ?_) (fun _ => ?_) | refine BSpl.yes (by assumption) ?_ | refine BSpl.no (by assumption) ?_ | refine BSpl.mk (fun _ => ?_) (fun _ => ?_))
 conv => whnf
 refine ALoop.mk (Took (countB l cr) l) (fun x => match x with
   | ⟨(j,[]),_⟩ => ⟨[(0, .sl 12 l.length true (evF l)),(1, .sl 12 cr.length true (evF cr)),(5, .box 0 0),(6, .box 1 0),(7, .v (.slice none 0 0)),(12, .sl 12 l.length true (evF l)),(13, .v (.int .i64 (l.length : Int))),(14, .v (.int .i64 (j : Int)))],
     [(0, .box 139 [.v (.int .i64 1), .v (.func (.func 88) #[] #[])]),(1, .box 139 [.v (.int .i64 5), .v (.func (.func 90) #[] #[])])],[],2⟩
   | ⟨(j,y :: ys),_⟩ => ⟨[(0, .sl 12 l.length true (evF l)),(1, .sl 12 cr.length true (evF cr)),(5, .box 0 0),(6, .box 1 0),(7, .own 90),(12, .sl 12 l.length true (evF l)),(13, .v (.int .i64 (l.length : Int))),(14, .v (.int .i64 (j : Int)))],
     [(0, .box 139 [.v (.int .i64 1), .v (.func (.func 88) #[] #[])]),(1, .box 139 [.v (.int .i64 5), .v (.func (.func 90) #[] #[])]),(90, .row 36 12 (ys.length + 1) true (evF (y :: ys)))],[],91⟩) (fun x => l.length - x.1.1) ⟨(0,[]),Nat.zero_le _,rfl⟩ _
   (LeR.mk' [] _ _ _ rfl ⟨AEq.refl _,AEq.refl _,AEq.refl _,AEq.refl _,AEq.refl _,AEq.refl _,AEq.int rfl,AEq.int rfl,trivial⟩ ⟨⟨_,rfl,OEq.refl _⟩,⟨_,rfl,OEq.refl _⟩,trivial⟩ rfl) ?_
 rintro ⟨⟨j,ys⟩,hj,hys⟩
 dsimp only at hj hys
 rcases ys with _ | ⟨y,ys⟩
 · dsimp only
   by_cases hjl : j < l.length
   · have hab := above_spec 5 90 sameV sameV_spec l (l.getD (j : Int).toNat default) (by omega)
     have hun := under_spec 1 88 sameK sameK_spec cr (l.getD (j : Int).toNat default) (by omega)
     have hft := filter_take (p := countB l cr) hjl
     rw [← hys,List.nil_append] at hft
     have hlv : countB l cr (l.getD j default) = ((decide ((l.getD (j : Int).toNat default).k = 3) || (decide ((l.getD (j : Int).toNat default).k = 4) && !aboveB 5 sameV l (l.getD (j : Int).toNat default))) && underB 1 sameK cr (l.getD (j : Int).toNat default)) := by rw [show (j : Int).toNat = j by omega]; rfl
     rw [hlv] at hft
     generalize aboveB 5 sameV l (l.getD (j : Int).toNat default) = q1 at hab hft
     generalize underB 1 sameK cr (l.getD (j : Int).toNat default) = q2 at hun hft
     have n1 : ¬ (l.getD (j : Int).toNat default).k = 3 → ¬ (l.getD (j : Int).toNat default).k = 4 → ([] : List Ev) = (l.take (j + 1)).filter (countB l cr) := fun h h' => by rw [hft,decide_eq_false h,decide_eq_false h']; simp
     have n2 : q2 = false → ([] : List Ev) = (l.take (j + 1)).filter (countB l cr) := fun h => by rw [hft,h]; simp
     have n3 : (l.getD (j : Int).toNat default).k = 4 → q1 = true → ([] : List Ev) = (l.take (j + 1)).filter (countB l cr) := fun h h' => by rw [hft,decide_eq_false (show ¬ (l.getD (j : Int).toNat default).k = 3 by omega),h']; simp
     have y1 : (l.getD (j : Int).toNat default).k = 3 → q2 = true → [l.getD j default] = (l.take (j + 1)).filter (countB l cr) := fun h h' => by rw [hft,decide_eq_true h,h']; simp
     have y2 : (l.getD (j : Int).toNat default).k = 4 → q1 = false → q2 = true → [l.getD j default] = (l.take (j + 1)).filter (countB l cr) := fun h h' h2 => by rw [hft,decide_eq_true h,h',h2]; simp
     clear hft hlv
     dsimp only [Ev.av,Ev.cs] at hab hun ⊢
     repeat' ((conv => whnf); first | refine Spl.yes (by first | assumption | omega) ?_ | refine Spl.no (by first | assumption | omega) ?_ | refine Wr.i64 (by omega) (by omega) ?_ | refine Still.mk rfl rfl ?_ | refine InB.mk (inB_mk (by omega) (by omega)) ?_ | refine Req.mk (by omega) ?_ | refine Req.mk ⟨by first | omega | (dsimp only; omega),by first | omega | (dsimp only; omega)⟩ ?_ | refine ACall.plain _ _ (hab) (SubL.cons (.eq _) (SubL.cons (.eq _) (SubL.cons (.eq _) .nil))) rfl ?_ | refine ACall.plain _ _ (hun) (SubL.cons (.eq _) (SubL.cons (.eq _) (SubL.cons (.eq _) .nil))) rfl ?_ | refine ARet.hdI ?_ | refine Spl.mk (fun _ => ?_) (fun _ => ?_) | refine InA.mk (inB_mk (by omega) (by omega)) ?_ | refine Wr.b64 ?_ | refine Wr.bu64 ?_ | refine Wr.bu32 ?_ | refine Wr.bu8 ?_ | refine Wr.u8 (by omega) (by omega) ?_ | refine Wr.u64 (by omega) (by omega) ?_ | refine Wr.u32 (by omega) (by omega) ?_ | refine Dv.pos (by omega) (by omega) ?_ | refine Rm.pos (by omega) (by omega) ?_ | refine ADraw.quiet follows_ok (by kernel_rfl) rfl ?_ | refine BSpl.decY (by first | assumption | omega) ?_ | refine BSpl.decN (by first | assumption | omega) ?_ | refine BSpl.dec (fun _ => ?_) (fun _ => ?_) | refine BSpl.yes (by assumption) ?_ | refine BSpl.no (by assumption) ?_ | refine BSpl.mk (fun _ => ?_) (fun _ => ?_))
     all_goals (conv => whnf)
     all_goals first
       | exact ⟨⟨(j + 1,([] : List Ev)),hjl,by first | exact n1 (by assumption) (by assumption) | exact n2 (by assumption) | exact n3 (by assumption) (by assumption)⟩,_,LeR.mk' [] _ _ _ rfl ⟨AEq.refl _,AEq.refl _,AEq.refl _,AEq.refl _,AEq.refl _,AEq.refl _,AEq.int rfl,AEq.int rfl,trivial⟩ ⟨⟨_,rfl,OEq.refl _⟩,⟨_,rfl,OEq.refl _⟩,trivial⟩ rfl,by show l.length - (j + 1) < l.length - j; omega⟩
       | (refine ⟨⟨(j + 1,[l.getD j default]),hjl,by first | exact y1 (by assumption) (by assumption) | exact y2 (by assumption) (by assumption) (by assumption)⟩,_,LeR.mk' [(4,90)] _ _ _ rfl ⟨AEq.refl _,AEq.refl _,AEq.refl _,AEq.refl _,AEq.refl _,AEq.refl _,AEq.int rfl,AEq.int rfl,trivial⟩ ⟨⟨_,rfl,OEq.refl _⟩,⟨_,rfl,OEq.refl _⟩,⟨_,rfl,OEq.row (by simp) (fun m hm => ?_)⟩,trivial⟩ rfl,by show l.length - (j + 1) < l.length - j; omega⟩
          have hm : m < 1 := hm
          obtain rfl : m = 0 := by omega
          rfl)
   · have e : countingB l cr = ([] : List Ev) := by rw [hys,List.take_of_length_le (by omega)]; rfl
     repeat' ((conv => whnf); first | refine Spl.yes (by first | assumption | omega) ?_ | refine Spl.no (by first | assumption | omega) ?_ | refine Wr.i64 (by omega) (by omega) ?_ | refine Still.mk rfl rfl ?_ | refine InB.mk (inB_mk (by omega) (by omega)) ?_ | refine Req.mk (by omega) ?_ | refine Req.mk ⟨by first | omega | (dsimp only; omega),by first | omega | (dsimp only; omega)⟩ ?_ | refine ARet.hdI ?_ | refine Spl.mk (fun _ => ?_) (fun _ => ?_) | refine InA.mk (inB_mk (by omega) (by omega)) ?_ | refine Wr.b64 ?_ | refine Wr.bu64 ?_ | refine Wr.bu32 ?_ | refine Wr.bu8 ?_ | refine Wr.u8 (by omega) (by omega) ?_ | refine Wr.u64 (by omega) (by omega) ?_ | refine Wr.u32 (by omega) (by omega) ?_ | refine Dv.pos (by omega) (by omega) ?_ | refine Rm.pos (by omega) (by omega) ?_ | refine ADraw.quiet follows_ok (by kernel_rfl) rfl ?_ | refine BSpl.decY (by first | assumption | omega) ?_ | refine BSpl.decN (by first | assumption | omega) ?_ | refine BSpl.dec (fun _ => ?_) (fun _ => ?_) | refine BSpl.yes (by assumption) ?_ | refine BSpl.no (by assumption) ?_ | refine BSpl.mk (fun _ => ?_) (fun _ => ?_))
     conv => whnf
     exact AEqI.mk (AEq.refl _)
 · dsimp only
   have hyl : ys.length + 1 ≤ j := by
    have h1 := congrArg List.length hys
    have h2 := List.length_filter_le (countB l cr) (l.take j)
    rw [List.length_take] at h2
    rw [List.length_cons] at h1
    omega
   by_cases hjl : j < l.length
   · have hab := above_spec 5 90 sameV sameV_spec l (l.getD (j : Int).toNat default) (by omega)
     have hun := under_spec 1 88 sameK sameK_spec cr (l.getD (j : Int).toNat default) (by omega)
     have hft := filter_take (p := countB l cr) hjl
     rw [← hys] at hft
     have hlv : countB l cr (l.getD j default) = ((decide ((l.getD (j : Int).toNat default).k = 3) || (decide ((l.getD (j : Int).toNat default).k = 4) && !aboveB 5 sameV l (l.getD (j : Int).toNat default))) && underB 1 sameK cr (l.getD (j : Int).toNat default)) := by rw [show (j : Int).toNat = j by omega]; rfl
     rw [hlv] at hft
     generalize aboveB 5 sameV l (l.getD (j : Int).toNat default) = q1 at hab hft
     generalize underB 1 sameK cr (l.getD (j : Int).toNat default) = q2 at hun hft
     have n1 : ¬ (l.getD (j : Int).toNat default).k = 3 → ¬ (l.getD (j : Int).toNat default).k = 4 → y :: ys = (l.take (j + 1)).filter (countB l cr) := fun h h' => by rw [hft,decide_eq_false h,decide_eq_false h']; simp
     have n2 : q2 = false → y :: ys = (l.take (j + 1)).filter (countB l cr) := fun h => by rw [hft,h]; simp
     have n3 : (l.getD (j : Int).toNat default).k = 4 → q1 = true → y :: ys = (l.take (j + 1)).filter (countB l cr) := fun h h' => by rw [hft,decide_eq_false (show ¬ (l.getD (j : Int).toNat default).k = 3 by omega),h']; simp
     have y1 : (l.getD (j : Int).toNat default).k = 3 → q2 = true → y :: (ys ++ [l.getD j default]) = (l.take (j + 1)).filter (countB l cr) := fun h h' => by rw [hft,decide_eq_true h,h']; simp
     have y2 : (l.getD (j : Int).toNat default).k = 4 → q1 = false → q2 = true → y :: (ys ++ [l.getD j default]) = (l.take (j + 1)).filter (countB l cr) := fun h h' h2 => by rw [hft,decide_eq_true h,h',h2]; simp
     clear hft hlv
     dsimp only [Ev.av,Ev.cs] at hab hun ⊢
     repeat' ((conv => whnf); first | refine Spl.yes (by first | assumption | omega) ?_ | refine Spl.no (by first | assumption | omega) ?_ | refine Wr.i64 (by omega) (by omega) ?_ | refine Still.mk rfl rfl ?_ | refine InB.mk (inB_mk (by omega) (by omega)) ?_ | refine Req.mk (by omega) ?_ | refine Req.mk ⟨by first | omega | (dsimp only; omega),by first | omega | (dsimp only; omega)⟩ ?_ | refine ACall.plain _ _ (hab) (SubL.cons (.eq _) (SubL.cons (.eq _) (SubL.cons (.eq _) .nil))) rfl ?_ | refine ACall.plain _ _ (hun) (SubL.cons (.eq _) (SubL.cons (.eq _) (SubL.cons (.eq _) .nil))) rfl ?_ | refine ARet.hdI ?_ | refine Spl.mk (fun _ => ?_) (fun _ => ?_) | refine InA.mk (inB_mk (by omega) (by omega)) ?_ | refine Wr.b64 ?_ | refine Wr.bu64 ?_ | refine Wr.bu32 ?_ | refine Wr.bu8 ?_ | refine Wr.u8 (by omega) (by omega) ?_ | refine Wr.u64 (by omega) (by omega) ?_ | refine Wr.u32 (by omega) (by omega) ?_ | refine Dv.pos (by omega) (by omega) ?_ | refine Rm.pos (by omega) (by omega) ?_ | refine ADraw.quiet follows_ok (by kernel_rfl) rfl ?_ | refine BSpl.decY (by first | assumption | omega) ?_ | refine BSpl.decN (by first | assumption | omega) ?_ | refine BSpl.dec (fun _ => ?_) (fun _ => ?_) | refine BSpl.yes (by assumption) ?_ | refine BSpl.no (by assumption) ?_ | refine BSpl.mk (fun _ => ?_) (fun _ => ?_))
     all_goals (conv => whnf)
     all_goals first
       | exact ⟨⟨(j + 1,y :: ys),hjl,by first | exact n1 (by assumption) (by assumption) | exact n2 (by assumption) | exact n3 (by assumption) (by assumption)⟩,_,LeR.mk' [] _ _ _ rfl ⟨AEq.refl _,AEq.refl _,AEq.refl _,AEq.refl _,AEq.refl _,AEq.refl _,AEq.int rfl,AEq.int rfl,trivial⟩ ⟨⟨_,rfl,OEq.refl _⟩,⟨_,rfl,OEq.refl _⟩,⟨_,rfl,OEq.refl _⟩,trivial⟩ rfl,by show l.length - (j + 1) < l.length - j; omega⟩
       | (refine ⟨⟨(j + 1,y :: (ys ++ [l.getD j default])),hjl,by first | exact y1 (by assumption) (by assumption) | exact y2 (by assumption) (by assumption) (by assumption)⟩,_,LeR.mk' [(93,90)] _ _ _ rfl ⟨AEq.refl _,AEq.refl _,AEq.refl _,AEq.refl _,AEq.refl _,AEq.refl _,AEq.int rfl,AEq.int rfl,trivial⟩ ⟨⟨_,rfl,OEq.refl _⟩,⟨_,rfl,OEq.refl _⟩,⟨_,rfl,OEq.row (by simp) (fun m hm => ?_)⟩,trivial⟩ rfl,by show l.length - (j + 1) < l.length - j; omega⟩
          exact els_app1 (c := Ev.cs) (l := y :: ys) rfl rfl m hm)
   · have e : countingB l cr = y :: ys := by rw [hys,List.take_of_length_le (by omega)]; rfl
     rw [hr] at e
     cases e
end Go.Proofs.YtkkpfjifkjbndaaGreat
