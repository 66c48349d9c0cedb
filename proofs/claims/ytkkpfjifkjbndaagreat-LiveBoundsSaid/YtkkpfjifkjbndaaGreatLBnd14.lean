/-
  Contracts of the walk: LvB, LvC.
-/
import Derived.Test.YtkkpfjifkjbndaaGreatLBnd13
import Derived.Test.YtkkpfjifkjbndaaGreatLBnd6
/-
 live.counted: events but the Sets and Adds below which no Create is left.
-/
namespace Go.Proofs.YtkkpfjifkjbndaaGreat
open Go.RowKit
def cntP (l : List Ev) (a : Ev) : Bool := decide (a.k = 1) || l.any (crP a)
set_option maxHeartbeats 4000000 in
set_option maxRecDepth 100000 in
theorem counted_own (d : Nat) (l : List Ev) (r : Ev) (rs : List Ev) (hr : l.filter (cntP l) = r :: rs) (hl : l.length ≤ 1000000000) :
  ASpec Tryz.prog 55 [.sl 12 l.length true (evF l)] (.own d) [(d, .row 36 12 (rs.length + 1) true (evF (r :: rs)))] := by
 refine aspec_of lay_ok 525293 Tryz.func55 rfl rfl rfl ?_
 repeat' ((conv => whnf); first | refine Spl.yes (by first | assumption | omega) ?_ | refine Spl.no (by first | assumption | omega) ?_ | refine Wr.i64 (by omega) (by omega) ?_ | refine Still.mk rfl rfl ?_ | refine InB.mk (inB_mk (by omega) (by omega)) ?_ | refine Req.mk (by omega) ?_ | refine Req.mk ⟨by first | omega | (dsimp only; omega),by first | omega | (dsimp only; omega)⟩ ?_ | refine ARet.hdI ?_ | refine Spl.mk (fun _ => ?_) (fun _ => ?_) | refine InA.mk (inB_mk (by omega) (by omega)) ?_ | refine Wr.b64 ?_ | refine Wr.bu64 ?_ | refine Wr.bu32 ?_ | refine Wr.bu8 ?_ | refine Wr.u8 (by omega) (by omega) ?_ | refine Wr.u64 (by omega) (by omega) ?_ | refine Wr.u32 (by omega) (by omega) ?_ | refine Dv.pos (by omega) (by omega) ?_ | refine Rm.pos (by omega) (by omega) ?_ | refine ADraw.quiet follows_ok (by kernel_rfl) rfl ?_ | refine BSpl.decY (by first | assumption | omega) ?_ | refine BSpl.decN (by first | assumption | omega) ?_ | refine BSpl.dec (fun _ => ?_) (fun _ => ?_) | refine BSpl.yes (by assumption) ?_ | refine BSpl.no (by assumption) ?_ | refine BSpl.mk (fun _ => ?_) (fun _ => ?_))
 conv => whnf
 refine ALoop.mk (Took (cntP l) l) (fun x => match x with
   | ⟨(j,[]),_⟩ => ⟨[(0, .sl 12 l.length true (evF l)),(3, .v (.slice none 0 0)),(6, .sl 12 l.length true (evF l)),(7, .v (.int .i64 (l.length : Int))),(8, .v (.int .i64 (j : Int)))],
     [],[],1⟩
   | ⟨(j,y :: ys),_⟩ => ⟨[(0, .sl 12 l.length true (evF l)),(3, .own 90),(6, .sl 12 l.length true (evF l)),(7, .v (.int .i64 (l.length : Int))),(8, .v (.int .i64 (j : Int)))],
     [(90, .row 36 12 (ys.length + 1) true (evF (y :: ys)))],[],91⟩) (fun x => l.length - x.1.1) ⟨(0,[]),Nat.zero_le _,rfl⟩ _
   (LeR.mk' [] _ _ _ rfl ⟨AEq.refl _,AEq.refl _,AEq.refl _,AEq.int rfl,AEq.int rfl,trivial⟩ trivial rfl) ?_
 rintro ⟨⟨j,ys⟩,hj,hys⟩
 dsimp only at hj hys
 rcases ys with _ | ⟨y,ys⟩
 · dsimp only
   by_cases hjl : j < l.length
   · have hab := created_spec l (l.getD (j : Int).toNat default) (by omega)
     have hft := filter_take (p := cntP l) hjl
     rw [← hys,List.nil_append] at hft
     have hlv : cntP l (l.getD j default) = (decide ((l.getD (j : Int).toNat default).k = 1) || l.any (crP (l.getD (j : Int).toNat default))) := by rw [show (j : Int).toNat = j by omega]; rfl
     rw [hlv] at hft
     generalize l.any (crP (l.getD (j : Int).toNat default)) = q at hab hft
     have hq0 : ¬ (l.getD (j : Int).toNat default).k = 1 → q = false → ([] : List Ev) = (l.take (j + 1)).filter (cntP l) := fun h h' => by rw [hft,decide_eq_false h,h']; simp
     have hq1 : q = true → [l.getD j default] = (l.take (j + 1)).filter (cntP l) := fun h' => by rw [hft,h']; simp
     have hk1 : (l.getD (j : Int).toNat default).k = 1 → [l.getD j default] = (l.take (j + 1)).filter (cntP l) := fun h => by rw [hft,decide_eq_true h]; simp
     clear hft hlv
     dsimp only [Ev.av,Ev.cs] at hab ⊢
     repeat' ((conv => whnf); first | refine Spl.yes (by first | assumption | omega) ?_ | refine Spl.no (by first | assumption | omega) ?_ | refine Wr.i64 (by omega) (by omega) ?_ | refine Still.mk rfl rfl ?_ | refine InB.mk (inB_mk (by omega) (by omega)) ?_ | refine Req.mk (by omega) ?_ | refine Req.mk ⟨by first | omega | (dsimp only; omega),by first | omega | (dsimp only; omega)⟩ ?_ | refine ACall.plain _ _ (hab) (SubL.cons (.eq _) (SubL.cons (.eq _) .nil)) rfl ?_ | refine ARet.hdI ?_ | refine Spl.mk (fun _ => ?_) (fun _ => ?_) | refine InA.mk (inB_mk (by omega) (by omega)) ?_ | refine Wr.b64 ?_ | refine Wr.bu64 ?_ | refine Wr.bu32 ?_ | refine Wr.bu8 ?_ | refine Wr.u8 (by omega) (by omega) ?_ | refine Wr.u64 (by omega) (by omega) ?_ | refine Wr.u32 (by omega) (by omega) ?_ | refine Dv.pos (by omega) (by omega) ?_ | refine Rm.pos (by omega) (by omega) ?_ | refine ADraw.quiet follows_ok (by kernel_rfl) rfl ?_ | refine BSpl.decY (by first | assumption | omega) ?_ | refine BSpl.decN (by first | assumption | omega) ?_ | refine BSpl.dec (fun _ => ?_) (fun _ => ?_) | refine BSpl.yes (by assumption) ?_ | refine BSpl.no (by assumption) ?_ | refine BSpl.mk (fun _ => ?_) (fun _ => ?_))
     all_goals (conv => whnf)
     all_goals first
       | exact ⟨⟨(j + 1,[]),hjl,hq0 (by assumption) (by assumption)⟩,_,LeR.mk' [] _ _ _ rfl ⟨AEq.refl _,AEq.refl _,AEq.refl _,AEq.int rfl,AEq.int rfl,trivial⟩ trivial rfl,by show l.length - (j + 1) < l.length - j; omega⟩
       | (refine ⟨⟨(j + 1,[l.getD j default]),hjl,by first | exact hq1 (by assumption) | exact hk1 (by assumption)⟩,_,LeR.mk' [(3,90)] _ _ _ rfl ⟨AEq.refl _,AEq.refl _,AEq.refl _,AEq.int rfl,AEq.int rfl,trivial⟩ ⟨⟨_,rfl,OEq.row rfl (fun m hm => ?_)⟩,trivial⟩ rfl,by show l.length - (j + 1) < l.length - j; omega⟩
          have hm : m < 1 := hm
          obtain rfl : m = 0 := by omega
          rfl)
   · have e : l.filter (cntP l) = [] := by rw [List.take_of_length_le (by omega)] at hys; exact hys.symm
     rw [hr] at e
     cases e
 · dsimp only
   have hyl : ys.length + 1 ≤ j := by
    have h1 := congrArg List.length hys
    have h2 := List.length_filter_le (cntP l) (l.take j)
    rw [List.length_take] at h2
    rw [List.length_cons] at h1
    omega
   by_cases hjl : j < l.length
   · have hab := created_spec l (l.getD (j : Int).toNat default) (by omega)
     have hft := filter_take (p := cntP l) hjl
     rw [← hys] at hft
     have hlv : cntP l (l.getD j default) = (decide ((l.getD (j : Int).toNat default).k = 1) || l.any (crP (l.getD (j : Int).toNat default))) := by rw [show (j : Int).toNat = j by omega]; rfl
     rw [hlv] at hft
     generalize l.any (crP (l.getD (j : Int).toNat default)) = q at hab hft
     have hq0 : ¬ (l.getD (j : Int).toNat default).k = 1 → q = false → y :: ys = (l.take (j + 1)).filter (cntP l) := fun h h' => by rw [hft,decide_eq_false h,h']; simp
     have hq1 : q = true → y :: (ys ++ [l.getD j default]) = (l.take (j + 1)).filter (cntP l) := fun h' => by rw [hft,h']; simp
     have hk1 : (l.getD (j : Int).toNat default).k = 1 → y :: (ys ++ [l.getD j default]) = (l.take (j + 1)).filter (cntP l) := fun h => by rw [hft,decide_eq_true h]; simp
     clear hft hlv
     dsimp only [Ev.av,Ev.cs] at hab ⊢
     repeat' ((conv => whnf); first | refine Spl.yes (by first | assumption | omega) ?_ | refine Spl.no (by first | assumption | omega) ?_ | refine Wr.i64 (by omega) (by omega) ?_ | refine Still.mk rfl rfl ?_ | refine InB.mk (inB_mk (by omega) (by omega)) ?_ | refine Req.mk (by omega) ?_ | refine Req.mk ⟨by first | omega | (dsimp only; omega),by first | omega | (dsimp only; omega)⟩ ?_ | refine ACall.plain _ _ (hab) (SubL.cons (.eq _) (SubL.cons (.eq _) .nil)) rfl ?_ | refine ARet.hdI ?_ | refine Spl.mk (fun _ => ?_) (fun _ => ?_) | refine InA.mk (inB_mk (by omega) (by omega)) ?_ | refine Wr.b64 ?_ | refine Wr.bu64 ?_ | refine Wr.bu32 ?_ | refine Wr.bu8 ?_ | refine Wr.u8 (by omega) (by omega) ?_ | refine Wr.u64 (by omega) (by omega) ?_ | refine Wr.u32 (by omega) (by omega) ?_ | refine Dv.pos (by omega) (by omega) ?_ | refine Rm.pos (by omega) (by omega) ?_ | refine ADraw.quiet follows_ok (by kernel_rfl) rfl ?_ | refine BSpl.decY (by first | assumption | omega) ?_ | refine BSpl.decN (by first | assumption | omega) ?_ | refine BSpl.dec (fun _ => ?_) (fun _ => ?_) | refine BSpl.yes (by assumption) ?_ | refine BSpl.no (by assumption) ?_ | refine BSpl.mk (fun _ => ?_) (fun _ => ?_))
     all_goals (conv => whnf)
     all_goals first
       | exact ⟨⟨(j + 1,y :: ys),hjl,hq0 (by assumption) (by assumption)⟩,_,LeR.mk' [] _ _ _ rfl ⟨AEq.refl _,AEq.refl _,AEq.refl _,AEq.int rfl,AEq.int rfl,trivial⟩ ⟨⟨_,rfl,OEq.refl _⟩,trivial⟩ rfl,by show l.length - (j + 1) < l.length - j; omega⟩
       | (refine ⟨⟨(j + 1,y :: (ys ++ [l.getD j default])),hjl,by first | exact hq1 (by assumption) | exact hk1 (by assumption)⟩,_,LeR.mk' [(93,90)] _ _ _ rfl ⟨AEq.refl _,AEq.refl _,AEq.refl _,AEq.int rfl,AEq.int rfl,trivial⟩ ⟨⟨_,rfl,OEq.row (by simp) (fun m hm => ?_)⟩,trivial⟩ rfl,by show l.length - (j + 1) < l.length - j; omega⟩
          exact els_app1 (c := Ev.cs) (l := y :: ys) rfl rfl m hm)
   · have e : l.filter (cntP l) = y :: ys := by rw [List.take_of_length_le (by omega)] at hys; exact hys.symm
     rw [hr] at e
     cases e
     repeat' ((conv => whnf); first | refine Spl.yes (by first | assumption | omega) ?_ | refine Spl.no (by first | assumption | omega) ?_ | refine Wr.i64 (by omega) (by omega) ?_ | refine Still.mk rfl rfl ?_ | refine InB.mk (inB_mk (by omega) (by omega)) ?_ | refine Req.mk (by omega) ?_ | refine Req.mk ⟨by first | omega | (dsimp only; omega),by first | omega | (dsimp only; omega)⟩ ?_ | refine ARet.ownX d rfl rfl (OEq.refl _) (AEq.refl _) | refine Spl.mk (fun _ => ?_) (fun _ => ?_) | refine InA.mk (inB_mk (by omega) (by omega)) ?_ | refine Wr.b64 ?_ | refine Wr.bu64 ?_ | refine Wr.bu32 ?_ | refine Wr.bu8 ?_ | refine Wr.u8 (by omega) (by omega) ?_ | refine Wr.u64 (by omega) (by omega) ?_ | refine Wr.u32 (by omega) (by omega) ?_ | refine Dv.pos (by omega) (by omega) ?_ | refine Rm.pos (by omega) (by omega) ?_ | refine ADraw.quiet follows_ok (by kernel_rfl) rfl ?_ | refine BSpl.decY (by first | assumption | omega) ?_ | refine BSpl.decN (by first | assumption | omega) ?_ | refine BSpl.dec (fun _ => ?_) (fun _ => ?_) | refine BSpl.yes (by assumption) ?_ | refine BSpl.no (by assumption) ?_ | refine BSpl.mk (fun _ => ?_) (fun _ => ?_))
set_option maxHeartbeats 4000000 in
set_option maxRecDepth 100000 in
theorem counted_nil (l : List Ev) (hr : l.filter (cntP l) = []) (hl : l.length ≤ 1000000000) :
  ASpec Tryz.prog 55 [.sl 12 l.length true (evF l)] (.v (.slice none 0 0)) [] := by
 refine aspec_of lay_ok 525293 Tryz.func55 rfl rfl rfl ?_
 repeat' ((conv => whnf); first | refine Spl.yes (by first | assumption | omega) ?_ | refine Spl.no (by first | assumption | omega) ?_ | refine Wr.i64 (by omega) (by omega) ?_ | refine Still.mk rfl rfl ?_ | refine InB.mk (inB_mk (by omega) (by omega)) ?_ | refine Req.mk (by omega) ?_ | refine Req.mk ⟨by first | omega | (dsimp only; omega),by first | omega | (dsimp only; omega)⟩ ?_ | refine ARet.hdI ?_ | refine Spl.mk (fun _ => ?_) (fun _ => ?_) | refine InA.mk (inB_mk (by omega) (by omega)) ?_ | refine Wr.b64 ?_ | refine Wr.bu64 ?_ | refine Wr.bu32 ?_ | refine Wr.bu8 ?_ | refine Wr.u8 (by omega) (by omega) ?_ | refine Wr.u64 (by omega) (by omega) ?_ | refine Wr.u32 (by omega) (by omega) ?_ | refine Dv.pos (by omega) (by omega) ?_ | refine Rm.pos (by omega) (by omega) ?_ | refine ADraw.quiet follows_ok (by kernel_rfl) rfl ?_ | refine BSpl.decY (by first | assumption | omega) ?_ | refine BSpl.decN (by first | assumption | omega) ?_ | refine BSpl.dec (fun _ => ?_) (fun _ => ?_) | refine BSpl.yes (by assumption) ?_ | refine BSpl.no (by assumption) ?_ | refine BSpl.mk (fun _ => ?_) (fun _ => ?_))
 conv => whnf
 refine ALoop.mk { j : Nat // j ≤ l.length } (fun j => ⟨[(0, .sl 12 l.length true (evF l)),(3, .v (.slice none 0 0)),(6, .sl 12 l.length true (evF l)),(7, .v (.int .i64 (l.length : Int))),(8, .v (.int .i64 (j.1 : Int)))],
       [],[],1⟩) (fun j => l.length - j.1) ⟨0,Nat.zero_le _⟩ _
  (LeR.mk' [] _ _ _ rfl ⟨AEq.refl _,AEq.refl _,AEq.refl _,AEq.int rfl,AEq.int rfl,trivial⟩ trivial rfl) ?_
 rintro ⟨j,hj⟩
 dsimp only
 by_cases hjl : j < l.length
 · have hab := created_spec l (l.getD (j : Int).toNat default) (by omega)
   have hlv : (decide ((l.getD (j : Int).toNat default).k = 1) || l.any (crP (l.getD (j : Int).toNat default))) = false := by
    have hm : l.getD (j : Int).toNat default ∈ l := by
     rw [show (j : Int).toNat = j by omega,List.getD,List.getElem?_eq_getElem hjl]
     exact List.getElem_mem _
    have := List.filter_eq_nil_iff.1 hr _ hm
    simpa [cntP] using this
   rw [Bool.or_eq_false_iff] at hlv
   have hk : ¬ (l.getD (j : Int).toNat default).k = 1 := of_decide_eq_false hlv.1
   rw [hlv.2] at hab
   clear hlv
   dsimp only [Ev.av,Ev.cs] at hab ⊢
   repeat' ((conv => whnf); first | refine Spl.yes (by first | assumption | omega) ?_ | refine Spl.no (by first | assumption | omega) ?_ | refine Wr.i64 (by omega) (by omega) ?_ | refine Still.mk rfl rfl ?_ | refine InB.mk (inB_mk (by omega) (by omega)) ?_ | refine Req.mk (by omega) ?_ | refine Req.mk ⟨by first | omega | (dsimp only; omega),by first | omega | (dsimp only; omega)⟩ ?_ | refine ACall.plain _ _ (hab) (SubL.cons (.eq _) (SubL.cons (.eq _) .nil)) rfl ?_ | refine ARet.hdI ?_ | refine Spl.mk (fun _ => ?_) (fun _ => ?_) | refine InA.mk (inB_mk (by omega) (by omega)) ?_ | refine Wr.b64 ?_ | refine Wr.bu64 ?_ | refine Wr.bu32 ?_ | refine Wr.bu8 ?_ | refine Wr.u8 (by omega) (by omega) ?_ | refine Wr.u64 (by omega) (by omega) ?_ | refine Wr.u32 (by omega) (by omega) ?_ | refine Dv.pos (by omega) (by omega) ?_ | refine Rm.pos (by omega) (by omega) ?_ | refine ADraw.quiet follows_ok (by kernel_rfl) rfl ?_ | refine BSpl.decY (by first | assumption | omega) ?_ | refine BSpl.decN (by first | assumption | omega) ?_ | refine BSpl.dec (fun _ => ?_) (fun _ => ?_) | refine BSpl.yes (by assumption) ?_ | refine BSpl.no (by assumption) ?_ | refine BSpl.mk (fun _ => ?_) (fun _ => ?_))
   all_goals (conv => whnf)
   all_goals exact ⟨⟨j + 1,hjl⟩,_,LeR.mk' [] _ _ _ rfl ⟨AEq.refl _,AEq.refl _,AEq.refl _,AEq.int rfl,AEq.int rfl,trivial⟩ trivial rfl,by show l.length - (j + 1) < l.length - j; omega⟩
 · repeat' ((conv => whnf); first | refine Spl.yes (by first | assumption | omega) ?_ | refine Spl.no (by first | assumption | omega) ?_ | refine Wr.i64 (by omega) (by omega) ?_ | refine Still.mk rfl rfl ?_ | refine InB.mk (inB_mk (by omega) (by omega)) ?_ | refine Req.mk (by omega) ?_ | refine Req.mk ⟨by first | omega | (dsimp only; omega),by first | omega | (dsimp only; omega)⟩ ?_ | refine ARet.hdI ?_ | refine Spl.mk (fun _ => ?_) (fun _ => ?_) | refine InA.mk (inB_mk (by omega) (by omega)) ?_ | refine Wr.b64 ?_ | refine Wr.bu64 ?_ | refine Wr.bu32 ?_ | refine Wr.bu8 ?_ | refine Wr.u8 (by omega) (by omega) ?_ | refine Wr.u64 (by omega) (by omega) ?_ | refine Wr.u32 (by omega) (by omega) ?_ | refine Dv.pos (by omega) (by omega) ?_ | refine Rm.pos (by omega) (by omega) ?_ | refine ADraw.quiet follows_ok (by kernel_rfl) rfl ?_ | refine BSpl.decY (by first | assumption | omega) ?_ | refine BSpl.decN (by first | assumption | omega) ?_ | refine BSpl.dec (fun _ => ?_) (fun _ => ?_) | refine BSpl.yes (by assumption) ?_ | refine BSpl.no (by assumption) ?_ | refine BSpl.mk (fun _ => ?_) (fun _ => ?_))
   conv => whnf
   exact AEqI.mk (AEq.refl _)
end Go.Proofs.YtkkpfjifkjbndaaGreat

/-
 live.without: events but those of a kind that are below an event and of its thing.
-/
namespace Go.Proofs.YtkkpfjifkjbndaaGreat
open Go.RowKit
abbrev evR (l : List Ev) : AO := .row 36 12 l.length true (evF l)
def woutP (kind : Int) (same : Ev → Bool) (e a : Ev) : Bool := !decide (a.k = kind) || (!same a || !belowB a e)
theorem wout_k {kind : Int} {same : Ev → Bool} {e a : Ev} (h : ¬ a.k = kind) : woutP kind same e a = true := by unfold woutP; rw [decide_eq_false h]; rfl
theorem wout_s {kind : Int} {same : Ev → Bool} {e a : Ev} (h : same a = false) : woutP kind same e a = true := by unfold woutP; rw [h]; simp
theorem wout_b {kind : Int} {same : Ev → Bool} {e a : Ev} (h : belowB a e = false) : woutP kind same e a = true := by unfold woutP; rw [h]; simp
theorem wout_n {kind : Int} {same : Ev → Bool} {e a : Ev} (h : a.k = kind) (h1 : same a = true) (h2 : belowB a e = true) : woutP kind same e a = false := by unfold woutP; rw [decide_eq_true h,h1,h2]; rfl
set_option maxHeartbeats 4000000 in
set_option maxRecDepth 100000 in
theorem without_own (g : FuncId) (same : Ev → Bool) (kind : Int) (e : Ev) (hs : ∀ a,MSpec Tryz.prog g [(0, .box 36 e.cs)] [a.av, .box 0 0] (.v (.bool (same a))) [(0, .box 36 e.cs)])
  (l : List Ev) (r : Ev) (rs : List Ev) (hr : l.filter (woutP kind same e) = r :: rs) (hl : l.length ≤ 1000000000) :
  MSpec Tryz.prog 56 [(0, .box 36 e.cs),(1,evR l)] [.own 1,e.av, .v (.int .i64 kind), .fn g [.box 0 0]] (.own 2) [(0, .box 36 e.cs),(2, .row 36 12 (rs.length + 1) true (evF (r :: rs)))] := by
 dsimp only [Ev.av,Ev.cs]
 refine mspec_of lay_ok 8589998895 10 Tryz.func56 rfl rfl rfl ?_
 repeat' ((conv => whnf); first | refine Spl.yes (by first | assumption | omega) ?_ | refine Spl.no (by first | assumption | omega) ?_ | refine Wr.i64 (by omega) (by omega) ?_ | refine Still.mk rfl rfl ?_ | refine InB.mk (inB_mk (by omega) (by omega)) ?_ | refine Req.mk (by omega) ?_ | refine Req.mk ⟨by first | omega | (dsimp only; omega),by first | omega | (dsimp only; omega)⟩ ?_ | refine ARet.hdI ?_ | refine Spl.mk (fun _ => ?_) (fun _ => ?_) | refine InA.mk (inB_mk (by omega) (by omega)) ?_ | refine Wr.b64 ?_ | refine Wr.bu64 ?_ | refine Wr.bu32 ?_ | refine Wr.bu8 ?_ | refine Wr.u8 (by omega) (by omega) ?_ | refine Wr.u64 (by omega) (by omega) ?_ | refine Wr.u32 (by omega) (by omega) ?_ | refine Dv.pos (by omega) (by omega) ?_ | refine Rm.pos (by omega) (by omega) ?_ | refine ADraw.quiet follows_ok (by kernel_rfl) rfl ?_ | refine BSpl.decY (by first | assumption | omega) ?_ | refine BSpl.decN (by first | assumption | omega) ?_ | refine BSpl.dec (fun _ => ?_) (fun _ => ?_) | refine BSpl.yes (by assumption) ?_ | refine BSpl.no (by assumption) ?_ | refine BSpl.mk (fun _ => ?_) (fun _ => ?_))
 conv => whnf
 refine ALoop.frz 1 rfl ?_
 refine ALoop.mk (Took (woutP kind same e) l) (fun x => match x with
   | ⟨(j,[]),_⟩ => ⟨[(0, .sl 12 l.length true (evF l)),(2, .v (.int .i64 kind)),(3, .fn g [.box 0 0]),(5, .box 10 0),(9, .v (.slice none 0 0)),(12, .sl 12 l.length true (evF l)),(13, .v (.int .i64 (l.length : Int))),(14, .v (.int .i64 (j : Int)))],[(10, .box 36 e.cs),(0, .box 36 e.cs)],[[(0, .box 0 0),(1, .sl 12 l.length true (evF l))]],11⟩
   | ⟨(j,y :: ys),_⟩ => ⟨[(0, .sl 12 l.length true (evF l)),(2, .v (.int .i64 kind)),(3, .fn g [.box 0 0]),(5, .box 10 0),(9, .own 90),(12, .sl 12 l.length true (evF l)),(13, .v (.int .i64 (l.length : Int))),(14, .v (.int .i64 (j : Int)))],[(10, .box 36 e.cs),(0, .box 36 e.cs),(90, .row 36 12 (ys.length + 1) true (evF (y :: ys)))],[[(0, .box 0 0),(1, .sl 12 l.length true (evF l))]],91⟩) (fun x => l.length - x.1.1) ⟨(0,[]),Nat.zero_le _,rfl⟩ _
   (LeR.mk' [] _ _ _ rfl ⟨AEq.refl _,AEq.refl _,AEq.refl _,AEq.refl _,AEq.refl _,AEq.refl _,AEq.int rfl,AEq.int rfl,trivial⟩ ⟨⟨_,rfl,OEq.refl _⟩,⟨_,rfl,OEq.refl _⟩,trivial⟩ rfl) ?_
 rintro ⟨⟨j,ys⟩,hj,hys⟩
 dsimp only at hj hys
 rcases ys with _ | ⟨y,ys⟩
 · dsimp only
   by_cases hjl : j < l.length
   · have hab := hs (l.getD (j : Int).toNat default)
     have hbb := below_spec (l.getD (j : Int).toNat default) e
     have hft := filter_take (p := woutP kind same e) hjl
     rw [← hys,List.nil_append] at hft
     rw [show l.getD j default = l.getD (j : Int).toNat default from rfl] at hft
     have hk : ¬ (l.getD (j : Int).toNat default).k = kind → [l.getD j default] = (l.take (j + 1)).filter (woutP kind same e) := fun h => by rw [hft,wout_k h]; rfl
     have hsm : same (l.getD (j : Int).toNat default) = false → [l.getD j default] = (l.take (j + 1)).filter (woutP kind same e) := fun h => by rw [hft,wout_s h]; rfl
     have hbl : belowB (l.getD (j : Int).toNat default) e = false → [l.getD j default] = (l.take (j + 1)).filter (woutP kind same e) := fun h => by rw [hft,wout_b h]; rfl
     have hno : (l.getD (j : Int).toNat default).k = kind → same (l.getD (j : Int).toNat default) = true → belowB (l.getD (j : Int).toNat default) e = true → [] = (l.take (j + 1)).filter (woutP kind same e) := fun h h1 h2 => by rw [hft,wout_n h h1 h2]; simp
     clear hft
     generalize same (l.getD (j : Int).toNat default) = q1 at hab hsm hno
     generalize belowB (l.getD (j : Int).toNat default) e = q2 at hbb hbl hno
     dsimp only [Ev.av,Ev.cs] at hab hbb ⊢
     repeat' ((conv => whnf); first | refine Spl.yes (by first | assumption | omega) ?_ | refine Spl.no (by first | assumption | omega) ?_ | refine Wr.i64 (by omega) (by omega) ?_ | refine Still.mk rfl rfl ?_ | refine InB.mk (inB_mk (by omega) (by omega)) ?_ | refine Req.mk (by omega) ?_ | refine Req.mk ⟨by first | omega | (dsimp only; omega),by first | omega | (dsimp only; omega)⟩ ?_ | refine ACall.chgR 1 [(0,_)] (hab) rfl ⟨rfl,trivial⟩ rfl rfl ?_ | refine ACall.plain _ _ (hbb) (SubL.cons (.eq _) (SubL.cons (.eq _) .nil)) rfl ?_ | refine ARet.hdI ?_ | refine Spl.mk (fun _ => ?_) (fun _ => ?_) | refine InA.mk (inB_mk (by omega) (by omega)) ?_ | refine Wr.b64 ?_ | refine Wr.bu64 ?_ | refine Wr.bu32 ?_ | refine Wr.bu8 ?_ | refine Wr.u8 (by omega) (by omega) ?_ | refine Wr.u64 (by omega) (by omega) ?_ | refine Wr.u32 (by omega) (by omega) ?_ | refine Dv.pos (by omega) (by omega) ?_ | refine Rm.pos (by omega) (by omega) ?_ | refine ADraw.quiet follows_ok (by kernel_rfl) rfl ?_ | refine BSpl.decY (by first | assumption | omega) ?_ | refine BSpl.decN (by first | assumption | omega) ?_ | refine BSpl.dec (fun _ => ?_) (fun _ => ?_) | refine BSpl.yes (by assumption) ?_ | refine BSpl.no (by assumption) ?_ | refine BSpl.mk (fun _ => ?_) (fun _ => ?_))
     all_goals (conv => whnf)
     all_goals first
       | exact ⟨⟨(j + 1,[]),hjl,hno (by assumption) (by assumption) (by assumption)⟩,_,LeR.mk' [] _ _ _ rfl ⟨AEq.refl _,AEq.refl _,AEq.refl _,AEq.refl _,AEq.refl _,AEq.refl _,AEq.int rfl,AEq.int rfl,trivial⟩ ⟨⟨_,rfl,OEq.refl _⟩,⟨_,rfl,OEq.refl _⟩,trivial⟩ rfl,by show l.length - (j + 1) < l.length - j; omega⟩
       | (refine ⟨⟨(j + 1,[l.getD j default]),hjl,by first | exact hk (by assumption) | exact hsm (by assumption) | exact hbl (by assumption)⟩,_,LeR.mk' [(12,90)] _ _ _ rfl ⟨AEq.refl _,AEq.refl _,AEq.refl _,AEq.refl _,AEq.refl _,AEq.refl _,AEq.int rfl,AEq.int rfl,trivial⟩ ⟨⟨_,rfl,OEq.refl _⟩,⟨_,rfl,OEq.refl _⟩,⟨_,rfl,OEq.row rfl (fun m hm => ?_)⟩,trivial⟩ rfl,by show l.length - (j + 1) < l.length - j; omega⟩
          have hm : m < 1 := hm
          obtain rfl : m = 0 := by omega
          rfl)
       | (refine ⟨⟨(j + 1,[l.getD j default]),hjl,by first | exact hk (by assumption) | exact hsm (by assumption) | exact hbl (by assumption)⟩,_,LeR.mk' [(13,90)] _ _ _ rfl ⟨AEq.refl _,AEq.refl _,AEq.refl _,AEq.refl _,AEq.refl _,AEq.refl _,AEq.int rfl,AEq.int rfl,trivial⟩ ⟨⟨_,rfl,OEq.refl _⟩,⟨_,rfl,OEq.refl _⟩,⟨_,rfl,OEq.row rfl (fun m hm => ?_)⟩,trivial⟩ rfl,by show l.length - (j + 1) < l.length - j; omega⟩
          have hm : m < 1 := hm
          obtain rfl : m = 0 := by omega
          rfl)
       | (refine ⟨⟨(j + 1,[l.getD j default]),hjl,by first | exact hk (by assumption) | exact hsm (by assumption) | exact hbl (by assumption)⟩,_,LeR.mk' [(14,90)] _ _ _ rfl ⟨AEq.refl _,AEq.refl _,AEq.refl _,AEq.refl _,AEq.refl _,AEq.refl _,AEq.int rfl,AEq.int rfl,trivial⟩ ⟨⟨_,rfl,OEq.refl _⟩,⟨_,rfl,OEq.refl _⟩,⟨_,rfl,OEq.row rfl (fun m hm => ?_)⟩,trivial⟩ rfl,by show l.length - (j + 1) < l.length - j; omega⟩
          have hm : m < 1 := hm
          obtain rfl : m = 0 := by omega
          rfl)
       | (refine ⟨⟨(j + 1,[l.getD j default]),hjl,by first | exact hk (by assumption) | exact hsm (by assumption) | exact hbl (by assumption)⟩,_,LeR.mk' [(15,90)] _ _ _ rfl ⟨AEq.refl _,AEq.refl _,AEq.refl _,AEq.refl _,AEq.refl _,AEq.refl _,AEq.int rfl,AEq.int rfl,trivial⟩ ⟨⟨_,rfl,OEq.refl _⟩,⟨_,rfl,OEq.refl _⟩,⟨_,rfl,OEq.row rfl (fun m hm => ?_)⟩,trivial⟩ rfl,by show l.length - (j + 1) < l.length - j; omega⟩
          have hm : m < 1 := hm
          obtain rfl : m = 0 := by omega
          rfl)
   · have e0 : l.filter (woutP kind same e) = [] := by rw [List.take_of_length_le (by omega)] at hys; exact hys.symm
     rw [hr] at e0
     cases e0
 · dsimp only
   have hyl : ys.length + 1 ≤ j := by
    have h1 := congrArg List.length hys
    have h2 := List.length_filter_le (woutP kind same e) (l.take j)
    rw [List.length_take] at h2
    rw [List.length_cons] at h1
    omega
   by_cases hjl : j < l.length
   · have hab := hs (l.getD (j : Int).toNat default)
     have hbb := below_spec (l.getD (j : Int).toNat default) e
     have hft := filter_take (p := woutP kind same e) hjl
     rw [← hys] at hft
     rw [show l.getD j default = l.getD (j : Int).toNat default from rfl] at hft
     have hk : ¬ (l.getD (j : Int).toNat default).k = kind → y :: (ys ++ [l.getD j default]) = (l.take (j + 1)).filter (woutP kind same e) := fun h => by rw [hft,wout_k h]; rfl
     have hsm : same (l.getD (j : Int).toNat default) = false → y :: (ys ++ [l.getD j default]) = (l.take (j + 1)).filter (woutP kind same e) := fun h => by rw [hft,wout_s h]; rfl
     have hbl : belowB (l.getD (j : Int).toNat default) e = false → y :: (ys ++ [l.getD j default]) = (l.take (j + 1)).filter (woutP kind same e) := fun h => by rw [hft,wout_b h]; rfl
     have hno : (l.getD (j : Int).toNat default).k = kind → same (l.getD (j : Int).toNat default) = true → belowB (l.getD (j : Int).toNat default) e = true → y :: ys = (l.take (j + 1)).filter (woutP kind same e) := fun h h1 h2 => by rw [hft,wout_n h h1 h2]; simp
     clear hft
     generalize same (l.getD (j : Int).toNat default) = q1 at hab hsm hno
     generalize belowB (l.getD (j : Int).toNat default) e = q2 at hbb hbl hno
     dsimp only [Ev.av,Ev.cs] at hab hbb ⊢
     repeat' ((conv => whnf); first | refine Spl.yes (by first | assumption | omega) ?_ | refine Spl.no (by first | assumption | omega) ?_ | refine Wr.i64 (by omega) (by omega) ?_ | refine Still.mk rfl rfl ?_ | refine InB.mk (inB_mk (by omega) (by omega)) ?_ | refine Req.mk (by omega) ?_ | refine Req.mk ⟨by first | omega | (dsimp only; omega),by first | omega | (dsimp only; omega)⟩ ?_ | refine ACall.chgR 1 [(0,_)] (hab) rfl ⟨rfl,trivial⟩ rfl rfl ?_ | refine ACall.plain _ _ (hbb) (SubL.cons (.eq _) (SubL.cons (.eq _) .nil)) rfl ?_ | refine ARet.hdI ?_ | refine Spl.mk (fun _ => ?_) (fun _ => ?_) | refine InA.mk (inB_mk (by omega) (by omega)) ?_ | refine Wr.b64 ?_ | refine Wr.bu64 ?_ | refine Wr.bu32 ?_ | refine Wr.bu8 ?_ | refine Wr.u8 (by omega) (by omega) ?_ | refine Wr.u64 (by omega) (by omega) ?_ | refine Wr.u32 (by omega) (by omega) ?_ | refine Dv.pos (by omega) (by omega) ?_ | refine Rm.pos (by omega) (by omega) ?_ | refine ADraw.quiet follows_ok (by kernel_rfl) rfl ?_ | refine BSpl.decY (by first | assumption | omega) ?_ | refine BSpl.decN (by first | assumption | omega) ?_ | refine BSpl.dec (fun _ => ?_) (fun _ => ?_) | refine BSpl.yes (by assumption) ?_ | refine BSpl.no (by assumption) ?_ | refine BSpl.mk (fun _ => ?_) (fun _ => ?_))
     all_goals (conv => whnf)
     all_goals first
       | exact ⟨⟨(j + 1,y :: ys),hjl,hno (by assumption) (by assumption) (by assumption)⟩,_,LeR.mk' [] _ _ _ rfl ⟨AEq.refl _,AEq.refl _,AEq.refl _,AEq.refl _,AEq.refl _,AEq.refl _,AEq.int rfl,AEq.int rfl,trivial⟩ ⟨⟨_,rfl,OEq.refl _⟩,⟨_,rfl,OEq.refl _⟩,⟨_,rfl,OEq.refl _⟩,trivial⟩ rfl,by show l.length - (j + 1) < l.length - j; omega⟩
       | (refine ⟨⟨(j + 1,y :: (ys ++ [l.getD j default])),hjl,by first | exact hk (by assumption) | exact hsm (by assumption) | exact hbl (by assumption)⟩,_,LeR.mk' [(92,90)] _ _ _ rfl ⟨AEq.refl _,AEq.refl _,AEq.refl _,AEq.refl _,AEq.refl _,AEq.refl _,AEq.int rfl,AEq.int rfl,trivial⟩ ⟨⟨_,rfl,OEq.refl _⟩,⟨_,rfl,OEq.refl _⟩,⟨_,rfl,OEq.row (by simp) (fun m hm => ?_)⟩,trivial⟩ rfl,by show l.length - (j + 1) < l.length - j; omega⟩
          exact els_app1 (c := Ev.cs) (l := y :: ys) rfl rfl m hm)
       | (refine ⟨⟨(j + 1,y :: (ys ++ [l.getD j default])),hjl,by first | exact hk (by assumption) | exact hsm (by assumption) | exact hbl (by assumption)⟩,_,LeR.mk' [(93,90)] _ _ _ rfl ⟨AEq.refl _,AEq.refl _,AEq.refl _,AEq.refl _,AEq.refl _,AEq.refl _,AEq.int rfl,AEq.int rfl,trivial⟩ ⟨⟨_,rfl,OEq.refl _⟩,⟨_,rfl,OEq.refl _⟩,⟨_,rfl,OEq.row (by simp) (fun m hm => ?_)⟩,trivial⟩ rfl,by show l.length - (j + 1) < l.length - j; omega⟩
          exact els_app1 (c := Ev.cs) (l := y :: ys) rfl rfl m hm)
       | (refine ⟨⟨(j + 1,y :: (ys ++ [l.getD j default])),hjl,by first | exact hk (by assumption) | exact hsm (by assumption) | exact hbl (by assumption)⟩,_,LeR.mk' [(94,90)] _ _ _ rfl ⟨AEq.refl _,AEq.refl _,AEq.refl _,AEq.refl _,AEq.refl _,AEq.refl _,AEq.int rfl,AEq.int rfl,trivial⟩ ⟨⟨_,rfl,OEq.refl _⟩,⟨_,rfl,OEq.refl _⟩,⟨_,rfl,OEq.row (by simp) (fun m hm => ?_)⟩,trivial⟩ rfl,by show l.length - (j + 1) < l.length - j; omega⟩
          exact els_app1 (c := Ev.cs) (l := y :: ys) rfl rfl m hm)
       | (refine ⟨⟨(j + 1,y :: (ys ++ [l.getD j default])),hjl,by first | exact hk (by assumption) | exact hsm (by assumption) | exact hbl (by assumption)⟩,_,LeR.mk' [(95,90)] _ _ _ rfl ⟨AEq.refl _,AEq.refl _,AEq.refl _,AEq.refl _,AEq.refl _,AEq.refl _,AEq.int rfl,AEq.int rfl,trivial⟩ ⟨⟨_,rfl,OEq.refl _⟩,⟨_,rfl,OEq.refl _⟩,⟨_,rfl,OEq.row (by simp) (fun m hm => ?_)⟩,trivial⟩ rfl,by show l.length - (j + 1) < l.length - j; omega⟩
          exact els_app1 (c := Ev.cs) (l := y :: ys) rfl rfl m hm)
   · have e0 : l.filter (woutP kind same e) = y :: ys := by rw [List.take_of_length_le (by omega)] at hys; exact hys.symm
     rw [hr] at e0
     cases e0
     repeat' ((conv => whnf); first | refine Spl.yes (by first | assumption | omega) ?_ | refine Spl.no (by first | assumption | omega) ?_ | refine Wr.i64 (by omega) (by omega) ?_ | refine Still.mk rfl rfl ?_ | refine InB.mk (inB_mk (by omega) (by omega)) ?_ | refine Req.mk (by omega) ?_ | refine Req.mk ⟨by first | omega | (dsimp only; omega),by first | omega | (dsimp only; omega)⟩ ?_ | refine ARet.hdI ?_ | refine Spl.mk (fun _ => ?_) (fun _ => ?_) | refine InA.mk (inB_mk (by omega) (by omega)) ?_ | refine Wr.b64 ?_ | refine Wr.bu64 ?_ | refine Wr.bu32 ?_ | refine Wr.bu8 ?_ | refine Wr.u8 (by omega) (by omega) ?_ | refine Wr.u64 (by omega) (by omega) ?_ | refine Wr.u32 (by omega) (by omega) ?_ | refine Dv.pos (by omega) (by omega) ?_ | refine Rm.pos (by omega) (by omega) ?_ | refine ADraw.quiet follows_ok (by kernel_rfl) rfl ?_ | refine BSpl.decY (by first | assumption | omega) ?_ | refine BSpl.decN (by first | assumption | omega) ?_ | refine BSpl.dec (fun _ => ?_) (fun _ => ?_) | refine BSpl.yes (by assumption) ?_ | refine BSpl.no (by assumption) ?_ | refine BSpl.mk (fun _ => ?_) (fun _ => ?_))
     conv => whnf
     exact ⟨[(90,2)],rfl,rfl,⟨⟨_,rfl,OEq.refl _⟩,⟨_,rfl,OEq.refl _⟩,trivial⟩,rfl,rfl,AEq.refl _⟩
set_option maxHeartbeats 4000000 in
set_option maxRecDepth 100000 in
theorem without_nil (g : FuncId) (same : Ev → Bool) (kind : Int) (e : Ev) (hs : ∀ a,MSpec Tryz.prog g [(0, .box 36 e.cs)] [a.av, .box 0 0] (.v (.bool (same a))) [(0, .box 36 e.cs)])
  (l : List Ev) (hr : l.filter (woutP kind same e) = []) (hl : l.length ≤ 1000000000) :
  MSpec Tryz.prog 56 [(0, .box 36 e.cs),(1,evR l)] [.own 1,e.av, .v (.int .i64 kind), .fn g [.box 0 0]] (.v (.slice none 0 0)) [(0, .box 36 e.cs)] := by
 dsimp only [Ev.av,Ev.cs]
 refine mspec_of lay_ok 8589998895 10 Tryz.func56 rfl rfl rfl ?_
 repeat' ((conv => whnf); first | refine Spl.yes (by first | assumption | omega) ?_ | refine Spl.no (by first | assumption | omega) ?_ | refine Wr.i64 (by omega) (by omega) ?_ | refine Still.mk rfl rfl ?_ | refine InB.mk (inB_mk (by omega) (by omega)) ?_ | refine Req.mk (by omega) ?_ | refine Req.mk ⟨by first | omega | (dsimp only; omega),by first | omega | (dsimp only; omega)⟩ ?_ | refine ARet.hdI ?_ | refine Spl.mk (fun _ => ?_) (fun _ => ?_) | refine InA.mk (inB_mk (by omega) (by omega)) ?_ | refine Wr.b64 ?_ | refine Wr.bu64 ?_ | refine Wr.bu32 ?_ | refine Wr.bu8 ?_ | refine Wr.u8 (by omega) (by omega) ?_ | refine Wr.u64 (by omega) (by omega) ?_ | refine Wr.u32 (by omega) (by omega) ?_ | refine Dv.pos (by omega) (by omega) ?_ | refine Rm.pos (by omega) (by omega) ?_ | refine ADraw.quiet follows_ok (by kernel_rfl) rfl ?_ | refine BSpl.decY (by first | assumption | omega) ?_ | refine BSpl.decN (by first | assumption | omega) ?_ | refine BSpl.dec (fun _ => ?_) (fun _ => ?_) | refine BSpl.yes (by assumption) ?_ | refine BSpl.no (by assumption) ?_ | refine BSpl.mk (fun _ => ?_) (fun _ => ?_))
 conv => whnf
 refine ALoop.frz 1 rfl ?_
 refine ALoop.mk (Took (woutP kind same e) l) (fun x => match x with
   | ⟨(j,[]),_⟩ => ⟨[(0, .sl 12 l.length true (evF l)),(2, .v (.int .i64 kind)),(3, .fn g [.box 0 0]),(5, .box 10 0),(9, .v (.slice none 0 0)),(12, .sl 12 l.length true (evF l)),(13, .v (.int .i64 (l.length : Int))),(14, .v (.int .i64 (j : Int)))],[(10, .box 36 e.cs),(0, .box 36 e.cs)],[[(0, .box 0 0),(1, .sl 12 l.length true (evF l))]],11⟩
   | ⟨(j,y :: ys),_⟩ => ⟨[(0, .sl 12 l.length true (evF l)),(2, .v (.int .i64 kind)),(3, .fn g [.box 0 0]),(5, .box 10 0),(9, .own 90),(12, .sl 12 l.length true (evF l)),(13, .v (.int .i64 (l.length : Int))),(14, .v (.int .i64 (j : Int)))],[(10, .box 36 e.cs),(0, .box 36 e.cs),(90, .row 36 12 (ys.length + 1) true (evF (y :: ys)))],[[(0, .box 0 0),(1, .sl 12 l.length true (evF l))]],91⟩) (fun x => l.length - x.1.1) ⟨(0,[]),Nat.zero_le _,rfl⟩ _
   (LeR.mk' [] _ _ _ rfl ⟨AEq.refl _,AEq.refl _,AEq.refl _,AEq.refl _,AEq.refl _,AEq.refl _,AEq.int rfl,AEq.int rfl,trivial⟩ ⟨⟨_,rfl,OEq.refl _⟩,⟨_,rfl,OEq.refl _⟩,trivial⟩ rfl) ?_
 rintro ⟨⟨j,ys⟩,hj,hys⟩
 dsimp only at hj hys
 rcases ys with _ | ⟨y,ys⟩
 · dsimp only
   by_cases hjl : j < l.length
   · have hab := hs (l.getD (j : Int).toNat default)
     have hbb := below_spec (l.getD (j : Int).toNat default) e
     have hft := filter_take (p := woutP kind same e) hjl
     rw [← hys,List.nil_append] at hft
     rw [show l.getD j default = l.getD (j : Int).toNat default from rfl] at hft
     have hk : ¬ (l.getD (j : Int).toNat default).k = kind → [l.getD j default] = (l.take (j + 1)).filter (woutP kind same e) := fun h => by rw [hft,wout_k h]; rfl
     have hsm : same (l.getD (j : Int).toNat default) = false → [l.getD j default] = (l.take (j + 1)).filter (woutP kind same e) := fun h => by rw [hft,wout_s h]; rfl
     have hbl : belowB (l.getD (j : Int).toNat default) e = false → [l.getD j default] = (l.take (j + 1)).filter (woutP kind same e) := fun h => by rw [hft,wout_b h]; rfl
     have hno : (l.getD (j : Int).toNat default).k = kind → same (l.getD (j : Int).toNat default) = true → belowB (l.getD (j : Int).toNat default) e = true → [] = (l.take (j + 1)).filter (woutP kind same e) := fun h h1 h2 => by rw [hft,wout_n h h1 h2]; simp
     clear hft
     generalize same (l.getD (j : Int).toNat default) = q1 at hab hsm hno
     generalize belowB (l.getD (j : Int).toNat default) e = q2 at hbb hbl hno
     dsimp only [Ev.av,Ev.cs] at hab hbb ⊢
     repeat' ((conv => whnf); first | refine Spl.yes (by first | assumption | omega) ?_ | refine Spl.no (by first | assumption | omega) ?_ | refine Wr.i64 (by omega) (by omega) ?_ | refine Still.mk rfl rfl ?_ | refine InB.mk (inB_mk (by omega) (by omega)) ?_ | refine Req.mk (by omega) ?_ | refine Req.mk ⟨by first | omega | (dsimp only; omega),by first | omega | (dsimp only; omega)⟩ ?_ | refine ACall.chgR 1 [(0,_)] (hab) rfl ⟨rfl,trivial⟩ rfl rfl ?_ | refine ACall.plain _ _ (hbb) (SubL.cons (.eq _) (SubL.cons (.eq _) .nil)) rfl ?_ | refine ARet.hdI ?_ | refine Spl.mk (fun _ => ?_) (fun _ => ?_) | refine InA.mk (inB_mk (by omega) (by omega)) ?_ | refine Wr.b64 ?_ | refine Wr.bu64 ?_ | refine Wr.bu32 ?_ | refine Wr.bu8 ?_ | refine Wr.u8 (by omega) (by omega) ?_ | refine Wr.u64 (by omega) (by omega) ?_ | refine Wr.u32 (by omega) (by omega) ?_ | refine Dv.pos (by omega) (by omega) ?_ | refine Rm.pos (by omega) (by omega) ?_ | refine ADraw.quiet follows_ok (by kernel_rfl) rfl ?_ | refine BSpl.decY (by first | assumption | omega) ?_ | refine BSpl.decN (by first | assumption | omega) ?_ | refine BSpl.dec (fun _ => ?_) (fun _ => ?_) | refine BSpl.yes (by assumption) ?_ | refine BSpl.no (by assumption) ?_ | refine BSpl.mk (fun _ => ?_) (fun _ => ?_))
     all_goals (conv => whnf)
     all_goals first
       | exact ⟨⟨(j + 1,[]),hjl,hno (by assumption) (by assumption) (by assumption)⟩,_,LeR.mk' [] _ _ _ rfl ⟨AEq.refl _,AEq.refl _,AEq.refl _,AEq.refl _,AEq.refl _,AEq.refl _,AEq.int rfl,AEq.int rfl,trivial⟩ ⟨⟨_,rfl,OEq.refl _⟩,⟨_,rfl,OEq.refl _⟩,trivial⟩ rfl,by show l.length - (j + 1) < l.length - j; omega⟩
       | (refine ⟨⟨(j + 1,[l.getD j default]),hjl,by first | exact hk (by assumption) | exact hsm (by assumption) | exact hbl (by assumption)⟩,_,LeR.mk' [(12,90)] _ _ _ rfl ⟨AEq.refl _,AEq.refl _,AEq.refl _,AEq.refl _,AEq.refl _,AEq.refl _,AEq.int rfl,AEq.int rfl,trivial⟩ ⟨⟨_,rfl,OEq.refl _⟩,⟨_,rfl,OEq.refl _⟩,⟨_,rfl,OEq.row rfl (fun m hm => ?_)⟩,trivial⟩ rfl,by show l.length - (j + 1) < l.length - j; omega⟩
          have hm : m < 1 := hm
          obtain rfl : m = 0 := by omega
          rfl)
       | (refine ⟨⟨(j + 1,[l.getD j default]),hjl,by first | exact hk (by assumption) | exact hsm (by assumption) | exact hbl (by assumption)⟩,_,LeR.mk' [(13,90)] _ _ _ rfl ⟨AEq.refl _,AEq.refl _,AEq.refl _,AEq.refl _,AEq.refl _,AEq.refl _,AEq.int rfl,AEq.int rfl,trivial⟩ ⟨⟨_,rfl,OEq.refl _⟩,⟨_,rfl,OEq.refl _⟩,⟨_,rfl,OEq.row rfl (fun m hm => ?_)⟩,trivial⟩ rfl,by show l.length - (j + 1) < l.length - j; omega⟩
          have hm : m < 1 := hm
          obtain rfl : m = 0 := by omega
          rfl)
       | (refine ⟨⟨(j + 1,[l.getD j default]),hjl,by first | exact hk (by assumption) | exact hsm (by assumption) | exact hbl (by assumption)⟩,_,LeR.mk' [(14,90)] _ _ _ rfl ⟨AEq.refl _,AEq.refl _,AEq.refl _,AEq.refl _,AEq.refl _,AEq.refl _,AEq.int rfl,AEq.int rfl,trivial⟩ ⟨⟨_,rfl,OEq.refl _⟩,⟨_,rfl,OEq.refl _⟩,⟨_,rfl,OEq.row rfl (fun m hm => ?_)⟩,trivial⟩ rfl,by show l.length - (j + 1) < l.length - j; omega⟩
          have hm : m < 1 := hm
          obtain rfl : m = 0 := by omega
          rfl)
       | (refine ⟨⟨(j + 1,[l.getD j default]),hjl,by first | exact hk (by assumption) | exact hsm (by assumption) | exact hbl (by assumption)⟩,_,LeR.mk' [(15,90)] _ _ _ rfl ⟨AEq.refl _,AEq.refl _,AEq.refl _,AEq.refl _,AEq.refl _,AEq.refl _,AEq.int rfl,AEq.int rfl,trivial⟩ ⟨⟨_,rfl,OEq.refl _⟩,⟨_,rfl,OEq.refl _⟩,⟨_,rfl,OEq.row rfl (fun m hm => ?_)⟩,trivial⟩ rfl,by show l.length - (j + 1) < l.length - j; omega⟩
          have hm : m < 1 := hm
          obtain rfl : m = 0 := by omega
          rfl)
   · repeat' ((conv => whnf); first | refine Spl.yes (by first | assumption | omega) ?_ | refine Spl.no (by first | assumption | omega) ?_ | refine Wr.i64 (by omega) (by omega) ?_ | refine Still.mk rfl rfl ?_ | refine InB.mk (inB_mk (by omega) (by omega)) ?_ | refine Req.mk (by omega) ?_ | refine Req.mk ⟨by first | omega | (dsimp only; omega),by first | omega | (dsimp only; omega)⟩ ?_ | refine ARet.hdI ?_ | refine Spl.mk (fun _ => ?_) (fun _ => ?_) | refine InA.mk (inB_mk (by omega) (by omega)) ?_ | refine Wr.b64 ?_ | refine Wr.bu64 ?_ | refine Wr.bu32 ?_ | refine Wr.bu8 ?_ | refine Wr.u8 (by omega) (by omega) ?_ | refine Wr.u64 (by omega) (by omega) ?_ | refine Wr.u32 (by omega) (by omega) ?_ | refine Dv.pos (by omega) (by omega) ?_ | refine Rm.pos (by omega) (by omega) ?_ | refine ADraw.quiet follows_ok (by kernel_rfl) rfl ?_ | refine BSpl.decY (by first | assumption | omega) ?_ | refine BSpl.decN (by first | assumption | omega) ?_ | refine BSpl.dec (fun _ => ?_) (fun _ => ?_) | refine BSpl.yes (by assumption) ?_ | refine BSpl.no (by assumption) ?_ | refine BSpl.mk (fun _ => ?_) (fun _ => ?_))
     conv => whnf
     exact ⟨[],rfl,rfl,⟨⟨_,rfl,OEq.refl _⟩,trivial⟩,rfl,rfl,AEq.refl _⟩
 · dsimp only
   have hyl : ys.length + 1 ≤ j := by
    have h1 := congrArg List.length hys
    have h2 := List.length_filter_le (woutP kind same e) (l.take j)
    rw [List.length_take] at h2
    rw [List.length_cons] at h1
    omega
   by_cases hjl : j < l.length
   · have hab := hs (l.getD (j : Int).toNat default)
     have hbb := below_spec (l.getD (j : Int).toNat default) e
     have hft := filter_take (p := woutP kind same e) hjl
     rw [← hys] at hft
     rw [show l.getD j default = l.getD (j : Int).toNat default from rfl] at hft
     have hk : ¬ (l.getD (j : Int).toNat default).k = kind → y :: (ys ++ [l.getD j default]) = (l.take (j + 1)).filter (woutP kind same e) := fun h => by rw [hft,wout_k h]; rfl
     have hsm : same (l.getD (j : Int).toNat default) = false → y :: (ys ++ [l.getD j default]) = (l.take (j + 1)).filter (woutP kind same e) := fun h => by rw [hft,wout_s h]; rfl
     have hbl : belowB (l.getD (j : Int).toNat default) e = false → y :: (ys ++ [l.getD j default]) = (l.take (j + 1)).filter (woutP kind same e) := fun h => by rw [hft,wout_b h]; rfl
     have hno : (l.getD (j : Int).toNat default).k = kind → same (l.getD (j : Int).toNat default) = true → belowB (l.getD (j : Int).toNat default) e = true → y :: ys = (l.take (j + 1)).filter (woutP kind same e) := fun h h1 h2 => by rw [hft,wout_n h h1 h2]; simp
     clear hft
     generalize same (l.getD (j : Int).toNat default) = q1 at hab hsm hno
     generalize belowB (l.getD (j : Int).toNat default) e = q2 at hbb hbl hno
     dsimp only [Ev.av,Ev.cs] at hab hbb ⊢
     repeat' ((conv => whnf); first | refine Spl.yes (by first | assumption | omega) ?_ | refine Spl.no (by first | assumption | omega) ?_ | refine Wr.i64 (by omega) (by omega) ?_ | refine Still.mk rfl rfl ?_ | refine InB.mk (inB_mk (by omega) (by omega)) ?_ | refine Req.mk (by omega) ?_ | refine Req.mk ⟨by first | omega | (dsimp only; omega),by first | omega | (dsimp only; omega)⟩ ?_ | refine ACall.chgR 1 [(0,_)] (hab) rfl ⟨rfl,trivial⟩ rfl rfl ?_ | refine ACall.plain _ _ (hbb) (SubL.cons (.eq _) (SubL.cons (.eq _) .nil)) rfl ?_ | refine ARet.hdI ?_ | refine Spl.mk (fun _ => ?_) (fun _ => ?_) | refine InA.mk (inB_mk (by omega) (by omega)) ?_ | refine Wr.b64 ?_ | refine Wr.bu64 ?_ | refine Wr.bu32 ?_ | refine Wr.bu8 ?_ | refine Wr.u8 (by omega) (by omega) ?_ | refine Wr.u64 (by omega) (by omega) ?_ | refine Wr.u32 (by omega) (by omega) ?_ | refine Dv.pos (by omega) (by omega) ?_ | refine Rm.pos (by omega) (by omega) ?_ | refine ADraw.quiet follows_ok (by kernel_rfl) rfl ?_ | refine BSpl.decY (by first | assumption | omega) ?_ | refine BSpl.decN (by first | assumption | omega) ?_ | refine BSpl.dec (fun _ => ?_) (fun _ => ?_) | refine BSpl.yes (by assumption) ?_ | refine BSpl.no (by assumption) ?_ | refine BSpl.mk (fun _ => ?_) (fun _ => ?_))
     all_goals (conv => whnf)
     all_goals first
       | exact ⟨⟨(j + 1,y :: ys),hjl,hno (by assumption) (by assumption) (by assumption)⟩,_,LeR.mk' [] _ _ _ rfl ⟨AEq.refl _,AEq.refl _,AEq.refl _,AEq.refl _,AEq.refl _,AEq.refl _,AEq.int rfl,AEq.int rfl,trivial⟩ ⟨⟨_,rfl,OEq.refl _⟩,⟨_,rfl,OEq.refl _⟩,⟨_,rfl,OEq.refl _⟩,trivial⟩ rfl,by show l.length - (j + 1) < l.length - j; omega⟩
       | (refine ⟨⟨(j + 1,y :: (ys ++ [l.getD j default])),hjl,by first | exact hk (by assumption) | exact hsm (by assumption) | exact hbl (by assumption)⟩,_,LeR.mk' [(92,90)] _ _ _ rfl ⟨AEq.refl _,AEq.refl _,AEq.refl _,AEq.refl _,AEq.refl _,AEq.refl _,AEq.int rfl,AEq.int rfl,trivial⟩ ⟨⟨_,rfl,OEq.refl _⟩,⟨_,rfl,OEq.refl _⟩,⟨_,rfl,OEq.row (by simp) (fun m hm => ?_)⟩,trivial⟩ rfl,by show l.length - (j + 1) < l.length - j; omega⟩
          exact els_app1 (c := Ev.cs) (l := y :: ys) rfl rfl m hm)
       | (refine ⟨⟨(j + 1,y :: (ys ++ [l.getD j default])),hjl,by first | exact hk (by assumption) | exact hsm (by assumption) | exact hbl (by assumption)⟩,_,LeR.mk' [(93,90)] _ _ _ rfl ⟨AEq.refl _,AEq.refl _,AEq.refl _,AEq.refl _,AEq.refl _,AEq.refl _,AEq.int rfl,AEq.int rfl,trivial⟩ ⟨⟨_,rfl,OEq.refl _⟩,⟨_,rfl,OEq.refl _⟩,⟨_,rfl,OEq.row (by simp) (fun m hm => ?_)⟩,trivial⟩ rfl,by show l.length - (j + 1) < l.length - j; omega⟩
          exact els_app1 (c := Ev.cs) (l := y :: ys) rfl rfl m hm)
       | (refine ⟨⟨(j + 1,y :: (ys ++ [l.getD j default])),hjl,by first | exact hk (by assumption) | exact hsm (by assumption) | exact hbl (by assumption)⟩,_,LeR.mk' [(94,90)] _ _ _ rfl ⟨AEq.refl _,AEq.refl _,AEq.refl _,AEq.refl _,AEq.refl _,AEq.refl _,AEq.int rfl,AEq.int rfl,trivial⟩ ⟨⟨_,rfl,OEq.refl _⟩,⟨_,rfl,OEq.refl _⟩,⟨_,rfl,OEq.row (by simp) (fun m hm => ?_)⟩,trivial⟩ rfl,by show l.length - (j + 1) < l.length - j; omega⟩
          exact els_app1 (c := Ev.cs) (l := y :: ys) rfl rfl m hm)
       | (refine ⟨⟨(j + 1,y :: (ys ++ [l.getD j default])),hjl,by first | exact hk (by assumption) | exact hsm (by assumption) | exact hbl (by assumption)⟩,_,LeR.mk' [(95,90)] _ _ _ rfl ⟨AEq.refl _,AEq.refl _,AEq.refl _,AEq.refl _,AEq.refl _,AEq.refl _,AEq.int rfl,AEq.int rfl,trivial⟩ ⟨⟨_,rfl,OEq.refl _⟩,⟨_,rfl,OEq.refl _⟩,⟨_,rfl,OEq.row (by simp) (fun m hm => ?_)⟩,trivial⟩ rfl,by show l.length - (j + 1) < l.length - j; omega⟩
          exact els_app1 (c := Ev.cs) (l := y :: ys) rfl rfl m hm)
   · have e0 : l.filter (woutP kind same e) = y :: ys := by rw [List.take_of_length_le (by omega)] at hys; exact hys.symm
     rw [hr] at e0
     cases e0
end Go.Proofs.YtkkpfjifkjbndaaGreat
