/-
  Contracts of the walk: LvH, LvG, LvP, TxL, LvQ.
-/
import Derived.Test.YtkkpfjifkjbndaaGreatLBnd16
import Derived.Test.YtkkpfjifkjbndaaGreatLBnd12
import Derived.Test.YtkkpfjifkjbndaaGreatLBnd6
import Derived.WalkSpells
import Derived.WalkLawsBesides
import Derived.Test.YtkkpfjifkjbndaaGreatLBnd15
/-
 live.with of a Set that a Create is below. 
-/
namespace Go.Proofs.YtkkpfjifkjbndaaGreat
open Go.RowKit
set_option maxHeartbeats 4000000 in
set_option maxRecDepth 100000 in
theorem with_3own (l : List Ev) (e : Ev) (hk : e.k = 3)  (hc : l.any (crP e) = true) (r : Ev) (rs : List Ev) (hr : l.filter (woutP 3 (fun a => decide (a.l = e.l)) e) = r :: rs) (hl : l.length ≤ 1000000000) :
  MSpec Tryz.prog 32 [(0,evR l)] [.own 0,e.av] (.own 1) [(1,evR ((r :: rs) ++ [e]))] := by
 have hw := without_own 59 (fun a => decide (a.l = e.l)) 3 e (label_m e) l r rs hr hl
 have hcr := created_spec l e (by omega)
 rw [hc] at hcr
 have hlf := List.length_filter_le (woutP 3 (fun a => decide (a.l = e.l)) e) l
 rw [hr] at hlf
 simp only [List.length_cons] at hlf
 dsimp only [Ev.av,Ev.cs] at hw hcr ⊢
 refine mspec_of lay_ok 35321845662139 10 Tryz.func32 rfl rfl rfl ?_
 repeat' ((conv => whnf); first | refine Spl.yes (by first | assumption | omega) ?_ | refine Spl.no (by first | assumption | omega) ?_ | refine Wr.i64 (by omega) (by omega) ?_ | refine Still.mk rfl rfl ?_ | refine InB.mk (inB_mk (by omega) (by omega)) ?_ | refine Req.mk (by omega) ?_ | refine Req.mk ⟨by first | omega | (dsimp only; omega),by first | omega | (dsimp only; omega)⟩ ?_ | refine ACall.plain _ _ (hcr) (SubL.cons (.eq _) (SubL.cons (.eq _) .nil)) rfl ?_ | refine ACall.chgR 2 [(0,_),(1,_)] (hw) rfl ⟨rfl,rfl,trivial⟩ rfl rfl ?_ | refine ADraw.cutI 16 (id := 9) lay_ok (awp_snd lay_ok _) ⟨[(4, .own 13)],[(13,evR ((r :: rs) ++ [e]))],[[]],14⟩ follows_ok (by kernel_rfl) 8 _ rfl rfl ?_ ?_ | refine AAnyI.fin rfl ?_ | refine LeS.mkF ⟨AEq.refl _,trivial⟩ ⟨⟨_,rfl,OEq.row (by simp) (fun m hm => els_app1 (c := Ev.cs) (l := r :: rs) rfl rfl m hm)⟩,trivial⟩ rfl rfl | refine AAnyI.pick 0 _ rfl rfl ?_ | refine AAnyI.pick 1 _ rfl rfl ?_ | refine AAnyI.pick 2 _ rfl rfl ?_ | refine AAnyI.pick 3 _ rfl rfl ?_ | refine AAnyI.pick 4 _ rfl rfl ?_ | refine AAnyI.pick 5 _ rfl rfl ?_ | refine AAnyI.pick 6 _ rfl rfl ?_ | refine AAnyI.pick 7 _ rfl rfl ?_ | refine AAnyI.one 0 _ rfl rfl rfl ?_ | refine AAnyI.one 1 _ rfl rfl rfl ?_ | refine AAnyI.one 2 _ rfl rfl rfl ?_ | refine AAnyI.one 3 _ rfl rfl rfl ?_ | refine AAnyI.one 4 _ rfl rfl rfl ?_ | refine AAnyI.one 5 _ rfl rfl rfl ?_ | refine AAnyI.one 6 _ rfl rfl rfl ?_ | refine AAnyI.one 7 _ rfl rfl rfl ?_ | refine AAnyI.fork 0 1 _ _ rfl rfl rfl rfl ?_ ?_ | refine AAnyI.fork 0 2 _ _ rfl rfl rfl rfl ?_ ?_ | refine AAnyI.fork 0 3 _ _ rfl rfl rfl rfl ?_ ?_ | refine AAnyI.fork 0 4 _ _ rfl rfl rfl rfl ?_ ?_ | refine AAnyI.fork 0 5 _ _ rfl rfl rfl rfl ?_ ?_ | refine AAnyI.fork 0 6 _ _ rfl rfl rfl rfl ?_ ?_ | refine AAnyI.fork 1 2 _ _ rfl rfl rfl rfl ?_ ?_ | refine AAnyI.fork 1 3 _ _ rfl rfl rfl rfl ?_ ?_ | refine AAnyI.fork 1 4 _ _ rfl rfl rfl rfl ?_ ?_ | refine AAnyI.fork 1 5 _ _ rfl rfl rfl rfl ?_ ?_ | refine AAnyI.fork 1 6 _ _ rfl rfl rfl rfl ?_ ?_ | refine AAnyI.fork 2 3 _ _ rfl rfl rfl rfl ?_ ?_ | refine AAnyI.fork 2 4 _ _ rfl rfl rfl rfl ?_ ?_ | refine AAnyI.fork 2 5 _ _ rfl rfl rfl rfl ?_ ?_ | refine AAnyI.fork 2 6 _ _ rfl rfl rfl rfl ?_ ?_ | refine AAnyI.fork 3 4 _ _ rfl rfl rfl rfl ?_ ?_ | refine AAnyI.fork 3 5 _ _ rfl rfl rfl rfl ?_ ?_ | refine AAnyI.fork 3 6 _ _ rfl rfl rfl rfl ?_ ?_ | refine AAnyI.fork 4 5 _ _ rfl rfl rfl rfl ?_ ?_ | refine AAnyI.fork 4 6 _ _ rfl rfl rfl rfl ?_ ?_ | refine AAnyI.fork 5 6 _ _ rfl rfl rfl rfl ?_ ?_ | refine AAnyI.fork3 0 1 2 _ _ _ rfl rfl rfl rfl rfl ?_ ?_ ?_ | refine AAnyI.fork3 0 1 3 _ _ _ rfl rfl rfl rfl rfl ?_ ?_ ?_ | refine AAnyI.fork3 0 1 4 _ _ _ rfl rfl rfl rfl rfl ?_ ?_ ?_ | refine AAnyI.fork3 0 1 5 _ _ _ rfl rfl rfl rfl rfl ?_ ?_ ?_ | refine AAnyI.fork3 0 2 3 _ _ _ rfl rfl rfl rfl rfl ?_ ?_ ?_ | refine AAnyI.fork3 0 2 4 _ _ _ rfl rfl rfl rfl rfl ?_ ?_ ?_ | refine AAnyI.fork3 0 2 5 _ _ _ rfl rfl rfl rfl rfl ?_ ?_ ?_ | refine AAnyI.fork3 0 3 4 _ _ _ rfl rfl rfl rfl rfl ?_ ?_ ?_ | refine AAnyI.fork3 0 3 5 _ _ _ rfl rfl rfl rfl rfl ?_ ?_ ?_ | refine AAnyI.fork3 0 4 5 _ _ _ rfl rfl rfl rfl rfl ?_ ?_ ?_ | refine AAnyI.fork3 1 2 3 _ _ _ rfl rfl rfl rfl rfl ?_ ?_ ?_ | refine AAnyI.fork3 1 2 4 _ _ _ rfl rfl rfl rfl rfl ?_ ?_ ?_ | refine AAnyI.fork3 1 2 5 _ _ _ rfl rfl rfl rfl rfl ?_ ?_ ?_ | refine AAnyI.fork3 1 3 4 _ _ _ rfl rfl rfl rfl rfl ?_ ?_ ?_ | refine AAnyI.fork3 1 3 5 _ _ _ rfl rfl rfl rfl rfl ?_ ?_ ?_ | refine AAnyI.fork3 1 4 5 _ _ _ rfl rfl rfl rfl rfl ?_ ?_ ?_ | refine AAnyI.fork3 2 3 4 _ _ _ rfl rfl rfl rfl rfl ?_ ?_ ?_ | refine AAnyI.fork3 2 3 5 _ _ _ rfl rfl rfl rfl rfl ?_ ?_ ?_ | refine AAnyI.fork3 2 4 5 _ _ _ rfl rfl rfl rfl rfl ?_ ?_ ?_ | refine AAnyI.fork3 3 4 5 _ _ _ rfl rfl rfl rfl rfl ?_ ?_ ?_ | refine Spl.mk (fun _ => ?_) (fun _ => ?_) | refine InA.mk (inB_mk (by omega) (by omega)) ?_ | refine Wr.b64 ?_ | refine Wr.bu64 ?_ | refine Wr.bu32 ?_ | refine Wr.bu8 ?_ | refine Wr.u8 (by omega) (by omega) ?_ | refine Wr.u64 (by omega) (by omega) ?_ | refine Wr.u32 (by omega) (by omega) ?_ | refine Dv.pos (by omega) (by omega) ?_ | refine Rm.pos (by omega) (by omega) ?_ | refine ADraw.quiet follows_ok (by kernel_rfl) rfl ?_ | refine BSpl.decY (by first | assumption | omega) ?_ | refine BSpl.decN (by first | assumption | omega) ?_ | refine BSpl.dec (fun _ => ?_) (fun _ => ?_) | refine BSpl.yes (by assumption) ?_ | refine BSpl.no (by assumption) ?_ | refine BSpl.mk (fun _ => ?_) (fun _ => ?_))
 all_goals (conv => whnf)
 exact ⟨[(13,1)],rfl,rfl,⟨⟨_,rfl,OEq.refl _⟩,trivial⟩,rfl,rfl,AEq.refl _⟩
end Go.Proofs.YtkkpfjifkjbndaaGreat

/-
 live.with of a Remove,of an Add below which is no Create,of a Delete.
-/
namespace Go.Proofs.YtkkpfjifkjbndaaGreat
open Go.RowKit
set_option maxHeartbeats 4000000 in
set_option maxRecDepth 100000 in
theorem with_5own (l : List Ev) (e : Ev) (hk : e.k = 5)  (r : Ev) (rs : List Ev) (hr : l.filter (woutP 4 (fun a => decide (a.l = e.l) && decide (a.v = e.v)) e) = r :: rs) (hl : l.length ≤ 1000000000) :
  MSpec Tryz.prog 32 [(0,evR l)] [.own 0,e.av] (.own 1) [(1,evR (r :: rs))] := by
 have hw := without_own 60 (fun a => decide (a.l = e.l) && decide (a.v = e.v)) 4 e (value_m e) l r rs hr hl
 have hlf := List.length_filter_le (woutP 4 (fun a => decide (a.l = e.l) && decide (a.v = e.v)) e) l
 rw [hr] at hlf
 simp only [List.length_cons] at hlf
 dsimp only [Ev.av,Ev.cs] at hw ⊢
 refine mspec_of lay_ok 35321845662139 10 Tryz.func32 rfl rfl rfl ?_
 repeat' ((conv => whnf); first | refine Spl.yes (by first | assumption | omega) ?_ | refine Spl.no (by first | assumption | omega) ?_ | refine Wr.i64 (by omega) (by omega) ?_ | refine Still.mk rfl rfl ?_ | refine InB.mk (inB_mk (by omega) (by omega)) ?_ | refine Req.mk (by omega) ?_ | refine Req.mk ⟨by first | omega | (dsimp only; omega),by first | omega | (dsimp only; omega)⟩ ?_ | refine ACall.chgR 2 [(0,_),(1,_)] (hw) rfl ⟨rfl,rfl,trivial⟩ rfl rfl ?_ | refine Spl.mk (fun _ => ?_) (fun _ => ?_) | refine InA.mk (inB_mk (by omega) (by omega)) ?_ | refine Wr.b64 ?_ | refine Wr.bu64 ?_ | refine Wr.bu32 ?_ | refine Wr.bu8 ?_ | refine Wr.u8 (by omega) (by omega) ?_ | refine Wr.u64 (by omega) (by omega) ?_ | refine Wr.u32 (by omega) (by omega) ?_ | refine Dv.pos (by omega) (by omega) ?_ | refine Rm.pos (by omega) (by omega) ?_ | refine ADraw.quiet follows_ok (by kernel_rfl) rfl ?_ | refine BSpl.decY (by first | assumption | omega) ?_ | refine BSpl.decN (by first | assumption | omega) ?_ | refine BSpl.dec (fun _ => ?_) (fun _ => ?_) | refine BSpl.yes (by assumption) ?_ | refine BSpl.no (by assumption) ?_ | refine BSpl.mk (fun _ => ?_) (fun _ => ?_))
 all_goals (conv => whnf)
 first
   | exact ⟨[(11,1)],rfl,rfl,⟨⟨_,rfl,OEq.refl _⟩,trivial⟩,rfl,rfl,AEq.refl _⟩
   | exact ⟨[(12,1)],rfl,rfl,⟨⟨_,rfl,OEq.refl _⟩,trivial⟩,rfl,rfl,AEq.refl _⟩
   | exact ⟨[(13,1)],rfl,rfl,⟨⟨_,rfl,OEq.refl _⟩,trivial⟩,rfl,rfl,AEq.refl _⟩
   | exact ⟨[(14,1)],rfl,rfl,⟨⟨_,rfl,OEq.refl _⟩,trivial⟩,rfl,rfl,AEq.refl _⟩
   | exact ⟨[(15,1)],rfl,rfl,⟨⟨_,rfl,OEq.refl _⟩,trivial⟩,rfl,rfl,AEq.refl _⟩
   | exact ⟨[(16,1)],rfl,rfl,⟨⟨_,rfl,OEq.refl _⟩,trivial⟩,rfl,rfl,AEq.refl _⟩
   | exact ⟨[(17,1)],rfl,rfl,⟨⟨_,rfl,OEq.refl _⟩,trivial⟩,rfl,rfl,AEq.refl _⟩
   | exact ⟨[(18,1)],rfl,rfl,⟨⟨_,rfl,OEq.refl _⟩,trivial⟩,rfl,rfl,AEq.refl _⟩
set_option maxHeartbeats 4000000 in
set_option maxRecDepth 100000 in
theorem with_5nil (l : List Ev) (e : Ev) (hk : e.k = 5)  (hr : l.filter (woutP 4 (fun a => decide (a.l = e.l) && decide (a.v = e.v)) e) = []) (hl : l.length ≤ 1000000000) :
  MSpec Tryz.prog 32 [(0,evR l)] [.own 0,e.av] (.v (.slice none 0 0)) [] := by
 have hw := without_nil 60 (fun a => decide (a.l = e.l) && decide (a.v = e.v)) 4 e (value_m e) l hr hl
 have hlf := List.length_filter_le (woutP 4 (fun a => decide (a.l = e.l) && decide (a.v = e.v)) e) l
 rw [hr] at hlf
 simp only [List.length_nil] at hlf
 dsimp only [Ev.av,Ev.cs] at hw ⊢
 refine mspec_of lay_ok 35321845662139 10 Tryz.func32 rfl rfl rfl ?_
 repeat' ((conv => whnf); first | refine Spl.yes (by first | assumption | omega) ?_ | refine Spl.no (by first | assumption | omega) ?_ | refine Wr.i64 (by omega) (by omega) ?_ | refine Still.mk rfl rfl ?_ | refine InB.mk (inB_mk (by omega) (by omega)) ?_ | refine Req.mk (by omega) ?_ | refine Req.mk ⟨by first | omega | (dsimp only; omega),by first | omega | (dsimp only; omega)⟩ ?_ | refine ACall.chgR 2 [(0,_),(1,_)] (hw) rfl ⟨rfl,rfl,trivial⟩ rfl rfl ?_ | refine Spl.mk (fun _ => ?_) (fun _ => ?_) | refine InA.mk (inB_mk (by omega) (by omega)) ?_ | refine Wr.b64 ?_ | refine Wr.bu64 ?_ | refine Wr.bu32 ?_ | refine Wr.bu8 ?_ | refine Wr.u8 (by omega) (by omega) ?_ | refine Wr.u64 (by omega) (by omega) ?_ | refine Wr.u32 (by omega) (by omega) ?_ | refine Dv.pos (by omega) (by omega) ?_ | refine Rm.pos (by omega) (by omega) ?_ | refine ADraw.quiet follows_ok (by kernel_rfl) rfl ?_ | refine BSpl.decY (by first | assumption | omega) ?_ | refine BSpl.decN (by first | assumption | omega) ?_ | refine BSpl.dec (fun _ => ?_) (fun _ => ?_) | refine BSpl.yes (by assumption) ?_ | refine BSpl.no (by assumption) ?_ | refine BSpl.mk (fun _ => ?_) (fun _ => ?_))
 all_goals (conv => whnf)
 exact ⟨[],rfl,rfl,trivial,rfl,rfl,AEq.refl _⟩
set_option maxHeartbeats 4000000 in
set_option maxRecDepth 100000 in
theorem with_4no (l : List Ev) (e : Ev) (hk : e.k = 4) (hc : l.any (crP e) = false) (hl : l.length ≤ 1000000000) :
  MSpec Tryz.prog 32 [(0,evR l)] [.own 0,e.av] (.own 0) [(0,evR l)] := by
 have hcr := created_spec l e (by omega)
 rw [hc] at hcr
 dsimp only [Ev.av,Ev.cs] at hcr ⊢
 refine mspec_of lay_ok 35321845662139 10 Tryz.func32 rfl rfl rfl ?_
 repeat' ((conv => whnf); first | refine Spl.yes (by first | assumption | omega) ?_ | refine Spl.no (by first | assumption | omega) ?_ | refine Wr.i64 (by omega) (by omega) ?_ | refine Still.mk rfl rfl ?_ | refine InB.mk (inB_mk (by omega) (by omega)) ?_ | refine Req.mk (by omega) ?_ | refine Req.mk ⟨by first | omega | (dsimp only; omega),by first | omega | (dsimp only; omega)⟩ ?_ | refine ACall.plain _ _ (hcr) (SubL.cons (.eq _) (SubL.cons (.eq _) .nil)) rfl ?_ | refine Spl.mk (fun _ => ?_) (fun _ => ?_) | refine InA.mk (inB_mk (by omega) (by omega)) ?_ | refine Wr.b64 ?_ | refine Wr.bu64 ?_ | refine Wr.bu32 ?_ | refine Wr.bu8 ?_ | refine Wr.u8 (by omega) (by omega) ?_ | refine Wr.u64 (by omega) (by omega) ?_ | refine Wr.u32 (by omega) (by omega) ?_ | refine Dv.pos (by omega) (by omega) ?_ | refine Rm.pos (by omega) (by omega) ?_ | refine ADraw.quiet follows_ok (by kernel_rfl) rfl ?_ | refine BSpl.decY (by first | assumption | omega) ?_ | refine BSpl.decN (by first | assumption | omega) ?_ | refine BSpl.dec (fun _ => ?_) (fun _ => ?_) | refine BSpl.yes (by assumption) ?_ | refine BSpl.no (by assumption) ?_ | refine BSpl.mk (fun _ => ?_) (fun _ => ?_))
 all_goals (conv => whnf)
 exact ⟨[],rfl,rfl,⟨⟨_,rfl,OEq.refl _⟩,trivial⟩,rfl,rfl,AEq.refl _⟩
set_option maxHeartbeats 4000000 in
set_option maxRecDepth 100000 in
theorem with_2own (l : List Ev) (e : Ev) (hk : e.k = 2) (r : Ev) (rs : List Ev) (hr : l.filter (woutP 1 (fun _ => true) e) = r :: rs) (x : Ev) (xs : List Ev) (hx : (r :: rs).filter (cntP (r :: rs)) = x :: xs) (hl : l.length ≤ 1000000000) :
  MSpec Tryz.prog 32 [(0,evR l)] [.own 0,e.av] (.own 1) [(1,evR (x :: xs))] := by
 have hlf := List.length_filter_le (woutP 1 (fun _ => true) e) l
 rw [hr] at hlf
 have hw := withoutA_own 57 (fun _ => true) 1 e all_spec l r rs hr hl
 have hc := fun d => counted_own d (r :: rs) x xs hx (by omega)
 dsimp only [Ev.av,Ev.cs] at hw ⊢
 refine mspec_of lay_ok 35321845662139 10 Tryz.func32 rfl rfl rfl ?_
 repeat' ((conv => whnf); first | refine Spl.yes (by first | assumption | omega) ?_ | refine Spl.no (by first | assumption | omega) ?_ | refine Wr.i64 (by omega) (by omega) ?_ | refine Still.mk rfl rfl ?_ | refine InB.mk (inB_mk (by omega) (by omega)) ?_ | refine Req.mk (by omega) ?_ | refine Req.mk ⟨by first | omega | (dsimp only; omega),by first | omega | (dsimp only; omega)⟩ ?_ | refine ACall.chgR 1 [(0,_)] (hw) rfl ⟨rfl,trivial⟩ rfl rfl ?_ | refine ACall.fresh _ _ _ _ _ _ _ (hc _) (SubL.cons (.eq _) .nil) rfl ?_ | refine Spl.mk (fun _ => ?_) (fun _ => ?_) | refine InA.mk (inB_mk (by omega) (by omega)) ?_ | refine Wr.b64 ?_ | refine Wr.bu64 ?_ | refine Wr.bu32 ?_ | refine Wr.bu8 ?_ | refine Wr.u8 (by omega) (by omega) ?_ | refine Wr.u64 (by omega) (by omega) ?_ | refine Wr.u32 (by omega) (by omega) ?_ | refine Dv.pos (by omega) (by omega) ?_ | refine Rm.pos (by omega) (by omega) ?_ | refine ADraw.quiet follows_ok (by kernel_rfl) rfl ?_ | refine BSpl.decY (by first | assumption | omega) ?_ | refine BSpl.decN (by first | assumption | omega) ?_ | refine BSpl.dec (fun _ => ?_) (fun _ => ?_) | refine BSpl.yes (by assumption) ?_ | refine BSpl.no (by assumption) ?_ | refine BSpl.mk (fun _ => ?_) (fun _ => ?_))
 all_goals (conv => whnf)
 first
   | exact ⟨[(11,1)],rfl,rfl,⟨⟨_,rfl,OEq.refl _⟩,trivial⟩,rfl,rfl,AEq.refl _⟩
   | exact ⟨[(12,1)],rfl,rfl,⟨⟨_,rfl,OEq.refl _⟩,trivial⟩,rfl,rfl,AEq.refl _⟩
   | exact ⟨[(13,1)],rfl,rfl,⟨⟨_,rfl,OEq.refl _⟩,trivial⟩,rfl,rfl,AEq.refl _⟩
   | exact ⟨[(14,1)],rfl,rfl,⟨⟨_,rfl,OEq.refl _⟩,trivial⟩,rfl,rfl,AEq.refl _⟩
   | exact ⟨[(15,1)],rfl,rfl,⟨⟨_,rfl,OEq.refl _⟩,trivial⟩,rfl,rfl,AEq.refl _⟩
   | exact ⟨[(16,1)],rfl,rfl,⟨⟨_,rfl,OEq.refl _⟩,trivial⟩,rfl,rfl,AEq.refl _⟩
   | exact ⟨[(17,1)],rfl,rfl,⟨⟨_,rfl,OEq.refl _⟩,trivial⟩,rfl,rfl,AEq.refl _⟩
   | exact ⟨[(18,1)],rfl,rfl,⟨⟨_,rfl,OEq.refl _⟩,trivial⟩,rfl,rfl,AEq.refl _⟩
set_option maxHeartbeats 4000000 in
set_option maxRecDepth 100000 in
theorem with_2cut (l : List Ev) (e : Ev) (hk : e.k = 2) (r : Ev) (rs : List Ev) (hr : l.filter (woutP 1 (fun _ => true) e) = r :: rs) (hx : (r :: rs).filter (cntP (r :: rs)) = []) (hl : l.length ≤ 1000000000) :
  MSpec Tryz.prog 32 [(0,evR l)] [.own 0,e.av] (.v (.slice none 0 0)) [] := by
 have hlf := List.length_filter_le (woutP 1 (fun _ => true) e) l
 rw [hr] at hlf
 have hw := withoutA_own 57 (fun _ => true) 1 e all_spec l r rs hr hl
 have hc := counted_nil (r :: rs) hx (by omega)
 dsimp only [Ev.av,Ev.cs] at hw ⊢
 refine mspec_of lay_ok 35321845662139 10 Tryz.func32 rfl rfl rfl ?_
 repeat' ((conv => whnf); first | refine Spl.yes (by first | assumption | omega) ?_ | refine Spl.no (by first | assumption | omega) ?_ | refine Wr.i64 (by omega) (by omega) ?_ | refine Still.mk rfl rfl ?_ | refine InB.mk (inB_mk (by omega) (by omega)) ?_ | refine Req.mk (by omega) ?_ | refine Req.mk ⟨by first | omega | (dsimp only; omega),by first | omega | (dsimp only; omega)⟩ ?_ | refine ACall.chgR 1 [(0,_)] (hw) rfl ⟨rfl,trivial⟩ rfl rfl ?_ | refine ACall.plain _ _ (hc) (SubL.cons (.eq _) .nil) rfl ?_ | refine Spl.mk (fun _ => ?_) (fun _ => ?_) | refine InA.mk (inB_mk (by omega) (by omega)) ?_ | refine Wr.b64 ?_ | refine Wr.bu64 ?_ | refine Wr.bu32 ?_ | refine Wr.bu8 ?_ | refine Wr.u8 (by omega) (by omega) ?_ | refine Wr.u64 (by omega) (by omega) ?_ | refine Wr.u32 (by omega) (by omega) ?_ | refine Dv.pos (by omega) (by omega) ?_ | refine Rm.pos (by omega) (by omega) ?_ | refine ADraw.quiet follows_ok (by kernel_rfl) rfl ?_ | refine BSpl.decY (by first | assumption | omega) ?_ | refine BSpl.decN (by first | assumption | omega) ?_ | refine BSpl.dec (fun _ => ?_) (fun _ => ?_) | refine BSpl.yes (by assumption) ?_ | refine BSpl.no (by assumption) ?_ | refine BSpl.mk (fun _ => ?_) (fun _ => ?_))
 all_goals (conv => whnf)
 exact ⟨[],rfl,rfl,trivial,rfl,rfl,AEq.refl _⟩
set_option maxHeartbeats 4000000 in
set_option maxRecDepth 100000 in
theorem with_2nil (l : List Ev) (e : Ev) (hk : e.k = 2) (hr : l.filter (woutP 1 (fun _ => true) e) = []) (hl : l.length ≤ 1000000000) :
  MSpec Tryz.prog 32 [(0,evR l)] [.own 0,e.av] (.v (.slice none 0 0)) [] := by
 have hlf := List.length_filter_le (woutP 1 (fun _ => true) e) l
 rw [hr] at hlf
 have hw := withoutA_nil 57 (fun _ => true) 1 e all_spec l hr hl
 have hc := counted_nil [] rfl (by decide)
 dsimp only [Ev.av,Ev.cs] at hw ⊢
 refine mspec_of lay_ok 35321845662139 10 Tryz.func32 rfl rfl rfl ?_
 repeat' ((conv => whnf); first | refine Spl.yes (by first | assumption | omega) ?_ | refine Spl.no (by first | assumption | omega) ?_ | refine Wr.i64 (by omega) (by omega) ?_ | refine Still.mk rfl rfl ?_ | refine InB.mk (inB_mk (by omega) (by omega)) ?_ | refine Req.mk (by omega) ?_ | refine Req.mk ⟨by first | omega | (dsimp only; omega),by first | omega | (dsimp only; omega)⟩ ?_ | refine ACall.chgR 1 [(0,_)] (hw) rfl ⟨rfl,trivial⟩ rfl rfl ?_ | refine ACall.plain _ _ (hc) (SubL.cons (.eq _) .nil) rfl ?_ | refine ACall.plain _ _ hc (SubL.cons (.nil 12 true (evF []) (by decide)) .nil) rfl ?_ | refine Spl.mk (fun _ => ?_) (fun _ => ?_) | refine InA.mk (inB_mk (by omega) (by omega)) ?_ | refine Wr.b64 ?_ | refine Wr.bu64 ?_ | refine Wr.bu32 ?_ | refine Wr.bu8 ?_ | refine Wr.u8 (by omega) (by omega) ?_ | refine Wr.u64 (by omega) (by omega) ?_ | refine Wr.u32 (by omega) (by omega) ?_ | refine Dv.pos (by omega) (by omega) ?_ | refine Rm.pos (by omega) (by omega) ?_ | refine ADraw.quiet follows_ok (by kernel_rfl) rfl ?_ | refine BSpl.decY (by first | assumption | omega) ?_ | refine BSpl.decN (by first | assumption | omega) ?_ | refine BSpl.dec (fun _ => ?_) (fun _ => ?_) | refine BSpl.yes (by assumption) ?_ | refine BSpl.no (by assumption) ?_ | refine BSpl.mk (fun _ => ?_) (fun _ => ?_))
 all_goals (conv => whnf)
 exact ⟨[],rfl,rfl,trivial,rfl,rfl,AEq.refl _⟩
end Go.Proofs.YtkkpfjifkjbndaaGreat

/-
 live.with: in all its cases at once.
-/
namespace Go.Proofs.YtkkpfjifkjbndaaGreat
open Go.RowKit
inductive WithIs (l : List Ev) (e : Ev) : Prop where
  | own (r : Ev) (rs : List Ev) (h : liveW l e = r :: rs) (hs : MSpec Tryz.prog 32 [(0,evR l)] [.own 0,e.av] (.own 1) [(1,evR (r :: rs))])
  | same (h : liveW l e = l) (hs : MSpec Tryz.prog 32 [(0,evR l)] [.own 0,e.av] (.own 0) [(0,evR l)])
  | nil (h : liveW l e = []) (hs : MSpec Tryz.prog 32 [(0,evR l)] [.own 0,e.av] (.v (.slice none 0 0)) [])
theorem drop_wout (kind : Int) (same : Ev → Bool) (e : Ev) (l : List Ev) : dropB kind same e l = l.filter (woutP kind same e) := by
 unfold dropB
 refine List.filter_congr fun a _ => ?_
 unfold woutP
 cases decide (a.k = kind) <;> cases same a <;> cases belowB a e <;> rfl
theorem crtd_cr (l : List Ev) (e : Ev) : crtdB l e = l.any (crP e) := by
 unfold crtdB
 refine any_congr fun a _ => ?_
 rfl
theorem cnt_cr (l : List Ev) : (l.filter fun a => decide (a.k = 1) || crtdB l a) = l.filter (cntP l) := by
 refine List.filter_congr fun a _ => ?_
 unfold cntP
 rw [crtd_cr]
theorem app_own {l : List Ev} {e : Ev} {m : List Ev} (h : liveW l e = m ++ [e]) (hs : MSpec Tryz.prog 32 [(0,evR l)] [.own 0,e.av] (.own 1) [(1,evR (m ++ [e]))]) : WithIs l e := by
 cases hm : m ++ [e] with
 | nil => simp at hm
 | cons r rs => rw [hm] at h hs; exact .own r rs h hs
theorem with_all (l : List Ev) (e : Ev) (hk : 1 ≤ e.k ∧ e.k ≤ 5) (hl : l.length ≤ 1000000000) : WithIs l e := by
 rcases (show e.k = 1 ∨ e.k = 2 ∨ e.k = 3 ∨ e.k = 4 ∨ e.k = 5 by omega) with h | h | h | h | h
 · exact app_own (m := l) (by unfold liveW; rw [if_pos h]) (with_1 l e h hl)
 · have hw : liveW l e = (l.filter (woutP 1 (fun _ => true) e)).filter (cntP (l.filter (woutP 1 (fun _ => true) e))) := by
    unfold liveW
    rw [if_neg (by omega),if_pos h,drop_wout,cnt_cr]
   cases hr : l.filter (woutP 1 (fun _ => true) e) with
   | nil => rw [hr] at hw; exact .nil hw (with_2nil l e h hr hl)
   | cons r rs =>
    rw [hr] at hw
    cases hx : (r :: rs).filter (cntP (r :: rs)) with
    | nil => rw [hx] at hw; exact .nil hw (with_2cut l e h r rs hr hx hl)
    | cons x xs => rw [hx] at hw; exact .own x xs hw (with_2own l e h r rs hr x xs hx hl)
 · cases hc : l.any (crP e) with
   | false => exact .same (by unfold liveW; rw [if_neg (by omega),if_neg (by omega),if_pos h,crtd_cr,hc]; rfl) (with_3no l e h hc hl)
   | true =>
    have hw : liveW l e = l.filter (woutP 3 (fun a => decide (a.l = e.l)) e) ++ [e] := by
     unfold liveW
     rw [if_neg (by omega),if_neg (by omega),if_pos h,crtd_cr,hc,if_pos rfl,drop_wout]
     rfl
    cases hr : l.filter (woutP 3 (fun a => decide (a.l = e.l)) e) with
    | nil => rw [hr] at hw; exact app_own hw (with_3nil l e h hc hr hl)
    | cons r rs => rw [hr] at hw; exact app_own hw (with_3own l e h hc r rs hr hl)
 · cases hc : l.any (crP e) with
   | false => exact .same (by unfold liveW; rw [if_neg (by omega),if_neg (by omega),if_neg (by omega),if_neg (by omega),crtd_cr,hc]; rfl) (with_4no l e h hc hl)
   | true =>
    have hw : liveW l e = l.filter (woutP 4 (fun a => decide (a.l = e.l) && decide (a.v = e.v)) e) ++ [e] := by
     unfold liveW
     rw [if_neg (by omega),if_neg (by omega),if_neg (by omega),if_neg (by omega),crtd_cr,hc,if_pos rfl,drop_wout]
     rfl
    cases hr : l.filter (woutP 4 (fun a => decide (a.l = e.l) && decide (a.v = e.v)) e) with
    | nil => rw [hr] at hw; exact app_own hw (with_4nil l e h hc hr hl)
    | cons r rs => rw [hr] at hw; exact app_own hw (with_4own l e h hc r rs hr hl)
 · have hw : liveW l e = l.filter (woutP 4 (fun a => decide (a.l = e.l) && decide (a.v = e.v)) e) := by
    unfold liveW
    rw [if_neg (by omega),if_neg (by omega),if_neg (by omega),if_pos h,drop_wout]
    rfl
   cases hr : l.filter (woutP 4 (fun a => decide (a.l = e.l) && decide (a.v = e.v)) e) with
   | nil => rw [hr] at hw; exact .nil hw (with_5nil l e h hr hl)
   | cons r rs => rw [hr] at hw; exact .own r rs hw (with_5own l e h r rs hr hl)
end Go.Proofs.YtkkpfjifkjbndaaGreat

/-
 What package text and event.May compute (beside the texts of a seat that knows events already).
-/
namespace Go.Proofs.YtkkpfjifkjbndaaGreat
open Go.RowKit
theorem lettersB_iff (s : ByteArray) : lettersB s = true ↔ ∀ i (h : i < s.size),97 ≤ (s[i]'h).toNat ∧ (s[i]'h).toNat ≤ 122 := by
 unfold lettersB
 rw [List.all_eq_true]
 constructor
 · intro h i hi
   have := h s[i] (by
    show s.data[i]'hi ∈ s.data.toList
    exact Array.mem_toList_iff.2 (Array.getElem_mem _))
   simpa using this
 · intro h b hb
   obtain ⟨i,hi,rfl⟩ := Array.getElem_of_mem (Array.mem_toList_iff.1 hb)
   have h1 : 97 ≤ (s.data[i]'hi).toNat ∧ (s.data[i]'hi).toNat ≤ 122 := h i hi
   simpa using h1
theorem keyE_ok {s : ByteArray} (h1 : 1 ≤ s.size) (h2 : s.size ≤ 8) (h : ∀ i (h : i < s.size),97 ≤ (s[i]'h).toNat ∧ (s[i]'h).toNat ≤ 122) : keyE s = 0 := by
 unfold keyE
 rw [if_pos ⟨h1,h2,(lettersB_iff s).2 h⟩]
theorem keyE_no {s : ByteArray} {i : Nat} (hi : i < s.size) (h : ¬ (97 ≤ (s[i]'hi).toNat ∧ (s[i]'hi).toNat ≤ 122)) : keyE s = 10 := by
 unfold keyE
 rw [if_neg (fun hh => h ((lettersB_iff s).1 hh.2.2 i hi))]
theorem keyE_size {s : ByteArray} (h : ¬ (1 ≤ s.size ∧ s.size ≤ 8)) : keyE s = 10 := by
 unfold keyE
 rw [if_neg (fun hh => h ⟨hh.1,hh.2.1⟩)]
set_option maxHeartbeats 1000000 in
theorem key_any (s : ByteArray) (w : World) :
  Calls Tryz.prog 76 #[.string s] w fun e w' => e = .returned (.int .i64 (keyE s)) ∧ Below w.heap.size w w' := by
 by_cases h1 : 1 ≤ s.size
 · by_cases h2 : s.size ≤ 8
   · go_enter Tryz.func76,Tryz.ntmps76
     go_wp2
     go_loopw [] (fun w' => ∃ pos : Nat,w' = w.iter s pos ∧ ∀ i (h : i < s.size),i < pos → 97 ≤ (s[i]'h).toNat ∧ (s[i]'h).toNat ≤ 122) (fun w' => s.size - w'.iterPos w.heap.size)
     case atStart => exact ⟨0,rfl,fun i _ h => by omega⟩
     case round =>
      obtain ⟨pos,rfl,hl⟩ := hrel
      have HL := Lib.hid hl
      clear hl
      by_cases hp : pos < s.size
      · by_cases ha : (s[pos]'hp).toNat < 128
        · have hnx : ∀ ty,(Instr.next (.pointer (some ⟨w.heap.size,0,none⟩)) true ty).run Tryz.prog (w.iter s pos) = _ := fun ty => run_next_ascii w s pos ty hp ha
          by_cases h97 : 97 ≤ (s[pos]'hp).toNat
          · by_cases h122 : (s[pos]'hp).toNat ≤ 122
            · go_wp2
              go_roundw
              case rel =>
               exact ⟨pos + 1,rfl,fun i h hi => by
                by_cases e : i = pos
                · subst e; exact ⟨h97,h122⟩
                · exact HL.out i h (by omega)⟩
              case measure =>
               simp
               omega
            · go_wp2
              go_ret
              exact ⟨ret_int (keyE_no hp (fun hh => h122 hh.2)).symm,(Below.refl _ _).alloc (Nat.le_refl _) _⟩
          · go_wp2
            go_ret
            exact ⟨ret_int (keyE_no hp (fun hh => h97 hh.1)).symm,(Below.refl _ _).alloc (Nat.le_refl _) _⟩
        · have hnx : ∀ ty,(Instr.next (.pointer (some ⟨w.heap.size,0,none⟩)) true ty).run Tryz.prog (w.iter s pos) = _ := fun ty => run_next_any w s pos ty hp
          have hd := (decode_high s pos hp (by omega)).1
          go_wp2
          go_ret
          exact ⟨ret_int (keyE_no hp (by omega)).symm,(Below.refl _ _).alloc (Nat.le_refl _) _⟩
      · have hnx : ∀ ty,(Instr.next (.pointer (some ⟨w.heap.size,0,none⟩)) true ty).run Tryz.prog (w.iter s pos) = _ := fun ty => run_next_end w s pos ty hp
        go_wp2
        go_ret
        exact ⟨ret_int (keyE_ok h1 h2 (fun i h => HL.out i h (by omega))).symm,(Below.refl _ _).alloc (Nat.le_refl _) _⟩
   · go_enter Tryz.func76,Tryz.ntmps76
     go_wp2
     go_ret
     exact ⟨ret_int (keyE_size (by omega)).symm,Below.refl _ _⟩
 · go_enter Tryz.func76,Tryz.ntmps76
   go_wp2
   go_ret
   exact ⟨ret_int (keyE_size (by omega)).symm,Below.refl _ _⟩
theorem key_spec (s : ByteArray) : ASpec Tryz.prog 76 [.v (.string s)] (.v (.int .i64 (keyE s))) [] :=
 spec_plain (xs := [.string s]) ⟨_,_,Tryz.func76,rfl,rfl⟩ fun w => key_any s w
theorem label_spec (n : Int) : ASpec Tryz.prog 77 [.v (.int .i64 n)] (.v (.int .i64 (labelE n))) [] := by
 refine aspec_of lay_ok 261 Tryz.func77 rfl rfl rfl ?_
 repeat' ((conv => whnf); first | refine Spl.yes (by first | assumption | omega) ?_ | refine Spl.no (by first | assumption | omega) ?_ | refine Wr.i64 (by omega) (by omega) ?_ | refine Still.mk rfl rfl ?_ | refine InB.mk (inB_mk (by omega) (by omega)) ?_ | refine Req.mk (by omega) ?_ | refine Req.mk ⟨by first | omega | (dsimp only; omega),by first | omega | (dsimp only; omega)⟩ ?_ | refine Spl.mk (fun _ => ?_) (fun _ => ?_) | refine InA.mk (inB_mk (by omega) (by omega)) ?_ | refine Wr.b64 ?_ | refine Wr.bu64 ?_ | refine Wr.bu32 ?_ | refine Wr.bu8 ?_ | refine Wr.u8 (by omega) (by omega) ?_ | refine Wr.u64 (by omega) (by omega) ?_ | refine Wr.u32 (by omega) (by omega) ?_ | refine Dv.pos (by omega) (by omega) ?_ | refine Rm.pos (by omega) (by omega) ?_ | refine ADraw.quiet follows_ok (by kernel_rfl) rfl ?_ | refine BSpl.decY (by first | assumption | omega) ?_ | refine BSpl.decN (by first | assumption | omega) ?_ | refine BSpl.dec (fun _ => ?_) (fun _ => ?_) | refine BSpl.yes (by assumption) ?_ | refine BSpl.no (by assumption) ?_ | refine BSpl.mk (fun _ => ?_) (fun _ => ?_))
 all_goals (refine ARet.int rfl ?_; unfold labelE; (first | rw [if_pos (by omega)] | rw [if_neg (by omega)]))
theorem value_spec (s : ByteArray) : ASpec Tryz.prog 78 [.v (.string s)] (.v (.int .i64 (valueE s))) [] := by
 refine aspec_of lay_ok 1029 Tryz.func78 rfl rfl rfl ?_
 repeat' ((conv => whnf); first | refine Spl.yes (by first | assumption | omega) ?_ | refine Spl.no (by first | assumption | omega) ?_ | refine Wr.i64 (by omega) (by omega) ?_ | refine Still.mk rfl rfl ?_ | refine InB.mk (inB_mk (by omega) (by omega)) ?_ | refine Req.mk (by omega) ?_ | refine Req.mk ⟨by first | omega | (dsimp only; omega),by first | omega | (dsimp only; omega)⟩ ?_ | refine Spl.mk (fun _ => ?_) (fun _ => ?_) | refine InA.mk (inB_mk (by omega) (by omega)) ?_ | refine Wr.b64 ?_ | refine Wr.bu64 ?_ | refine Wr.bu32 ?_ | refine Wr.bu8 ?_ | refine Wr.u8 (by omega) (by omega) ?_ | refine Wr.u64 (by omega) (by omega) ?_ | refine Wr.u32 (by omega) (by omega) ?_ | refine Dv.pos (by omega) (by omega) ?_ | refine Rm.pos (by omega) (by omega) ?_ | refine ADraw.quiet follows_ok (by kernel_rfl) rfl ?_ | refine BSpl.decY (by first | assumption | omega) ?_ | refine BSpl.decN (by first | assumption | omega) ?_ | refine BSpl.dec (fun _ => ?_) (fun _ => ?_) | refine BSpl.yes (by assumption) ?_ | refine BSpl.no (by assumption) ?_ | refine BSpl.mk (fun _ => ?_) (fun _ => ?_))
 all_goals (refine ARet.int rfl ?_; unfold valueE; (first | rw [if_pos (by omega)] | rw [if_neg (by omega)]))
theorem size_zero {s : ByteArray} (h : s = ⟨#[]⟩) : s.size = 0 := by rw [h]; rfl
theorem size_pos {s : ByteArray} (h : ¬ s = ⟨#[]⟩) : s.size ≠ 0 := fun e => h (by
 cases s with
 | mk d =>
  have : d = #[] := Array.eq_empty_of_size_eq_zero e
  rw [this])
set_option maxRecDepth 100000 in
theorem edit_spec (e : Ed) : ASpec Tryz.prog 52 [.agg [.v (.int .i64 e.k), .v (.string e.key), .v (.int .i64 e.l), .v (.string e.v)]] (.v (.int .i64 (editE e))) [] := by
 refine aspec_of lay_ok 142338035743 Tryz.func52 rfl rfl rfl ?_
 repeat' ((conv => whnf); first | refine Spl.yes (by first | assumption | omega) ?_ | refine Spl.no (by first | assumption | omega) ?_ | refine Wr.i64 (by omega) (by omega) ?_ | refine Still.mk rfl rfl ?_ | refine InB.mk (inB_mk (by omega) (by omega)) ?_ | refine Req.mk (by omega) ?_ | refine Req.mk ⟨by first | omega | (dsimp only; omega),by first | omega | (dsimp only; omega)⟩ ?_ | refine ACall.plain _ _ (key_spec _) (SubL.cons (.eq _) .nil) rfl ?_ | refine ACall.plain _ _ (label_spec _) (SubL.cons (.eq _) .nil) rfl ?_ | refine ACall.plain _ _ (value_spec _) (SubL.cons (.eq _) .nil) rfl ?_ | refine Spl.mk (fun _ => ?_) (fun _ => ?_) | refine InA.mk (inB_mk (by omega) (by omega)) ?_ | refine Wr.b64 ?_ | refine Wr.bu64 ?_ | refine Wr.bu32 ?_ | refine Wr.bu8 ?_ | refine Wr.u8 (by omega) (by omega) ?_ | refine Wr.u64 (by omega) (by omega) ?_ | refine Wr.u32 (by omega) (by omega) ?_ | refine Dv.pos (by omega) (by omega) ?_ | refine Rm.pos (by omega) (by omega) ?_ | refine ADraw.quiet follows_ok (by kernel_rfl) rfl ?_ | refine BSpl.decY (by first | assumption | omega) ?_ | refine BSpl.decN (by first | assumption | omega) ?_ | refine BSpl.dec (fun _ => ?_) (fun _ => ?_) | refine BSpl.yes (by assumption) ?_ | refine BSpl.no (by assumption) ?_ | refine BSpl.mk (fun _ => ?_) (fun _ => ?_))
 all_goals (refine ARet.int rfl ?_; unfold editE; try have h0 := size_pos ‹_›)
 all_goals grind [size_zero]
theorem within_spec (n a b : Int) : ASpec Tryz.prog 51 [.v (.int .i64 n), .v (.int .i64 a), .v (.int .i64 b)] (.v (.bool (decide (a ≤ n ∧ n ≤ b)))) [] := by
 refine aspec_of lay_ok 71 Tryz.func51 rfl rfl rfl ?_
 repeat' ((conv => whnf); first | refine Spl.yes (by first | assumption | omega) ?_ | refine Spl.no (by first | assumption | omega) ?_ | refine Wr.i64 (by omega) (by omega) ?_ | refine Still.mk rfl rfl ?_ | refine InB.mk (inB_mk (by omega) (by omega)) ?_ | refine Req.mk (by omega) ?_ | refine Req.mk ⟨by first | omega | (dsimp only; omega),by first | omega | (dsimp only; omega)⟩ ?_ | refine Spl.mk (fun _ => ?_) (fun _ => ?_) | refine InA.mk (inB_mk (by omega) (by omega)) ?_ | refine Wr.b64 ?_ | refine Wr.bu64 ?_ | refine Wr.bu32 ?_ | refine Wr.bu8 ?_ | refine Wr.u8 (by omega) (by omega) ?_ | refine Wr.u64 (by omega) (by omega) ?_ | refine Wr.u32 (by omega) (by omega) ?_ | refine Dv.pos (by omega) (by omega) ?_ | refine Rm.pos (by omega) (by omega) ?_ | refine ADraw.quiet follows_ok (by kernel_rfl) rfl ?_ | refine BSpl.decY (by first | assumption | omega) ?_ | refine BSpl.decN (by first | assumption | omega) ?_ | refine BSpl.dec (fun _ => ?_) (fun _ => ?_) | refine BSpl.yes (by assumption) ?_ | refine BSpl.no (by assumption) ?_ | refine BSpl.mk (fun _ => ?_) (fun _ => ?_))
 all_goals (refine ARet.bool rfl ?_; simp [*])
set_option maxRecDepth 100000 in
theorem may_spec (e : Ev) : ASpec Tryz.prog 29 [e.av] (.v (.int .i64 (mayE e))) [] := by
 obtain ⟨r,n,⟨c0,c1,c2,c3,c4⟩,h,k,key,l,v⟩ := e
 dsimp only [Ev.av,Ev.cs]
 by_cases hr : 0 ≤ r ∧ r ≤ 4
 · rcases (show r = 0 ∨ r = 1 ∨ r = 2 ∨ r = 3 ∨ r = 4 by omega) with rfl | rfl | rfl | rfl | rfl
   all_goals
    refine aspec_of lay_ok 275176751127 Tryz.func29 rfl rfl rfl ?_
    repeat' ((conv => whnf); first | refine Spl.yes (by first | assumption | omega) ?_ | refine Spl.no (by first | assumption | omega) ?_ | refine Wr.i64 (by omega) (by omega) ?_ | refine Still.mk rfl rfl ?_ | refine InB.mk (inB_mk (by omega) (by omega)) ?_ | refine Req.mk (by omega) ?_ | refine Req.mk ⟨by first | omega | (dsimp only; omega),by first | omega | (dsimp only; omega)⟩ ?_ | refine ACall.plain _ _ (within_spec _ _ _) (SubL.cons (.eq _) (SubL.cons (.eq _) (SubL.cons (.eq _) .nil))) rfl ?_ | refine ACall.plain _ _ (edit_spec ⟨k,key,l,v⟩) (SubL.cons (.eq _) .nil) rfl ?_ | refine ALoop.rounds 6 ?_ | refine Spl.mk (fun _ => ?_) (fun _ => ?_) | refine InA.mk (inB_mk (by omega) (by omega)) ?_ | refine Wr.b64 ?_ | refine Wr.bu64 ?_ | refine Wr.bu32 ?_ | refine Wr.bu8 ?_ | refine Wr.u8 (by omega) (by omega) ?_ | refine Wr.u64 (by omega) (by omega) ?_ | refine Wr.u32 (by omega) (by omega) ?_ | refine Dv.pos (by omega) (by omega) ?_ | refine Rm.pos (by omega) (by omega) ?_ | refine ADraw.quiet follows_ok (by kernel_rfl) rfl ?_ | refine BSpl.decY (by first | assumption | omega) ?_ | refine BSpl.decN (by first | assumption | omega) ?_ | refine BSpl.dec (fun _ => ?_) (fun _ => ?_) | refine BSpl.yes (by assumption) ?_ | refine BSpl.no (by assumption) ?_ | refine BSpl.mk (fun _ => ?_) (fun _ => ?_))
    all_goals refine ARet.int rfl ?_
    all_goals first | (simp [mayE,okN,withinB,Clk.get,Ev.ed, *]; done) | (simp [mayE,okN,withinB,Clk.get,Ev.ed, *]; omega)
 · refine aspec_of lay_ok 275176751127 Tryz.func29 rfl rfl rfl ?_
   repeat' ((conv => whnf); first | refine Spl.yes (by first | assumption | omega) ?_ | refine Spl.no (by first | assumption | omega) ?_ | refine Wr.i64 (by omega) (by omega) ?_ | refine Still.mk rfl rfl ?_ | refine InB.mk (inB_mk (by omega) (by omega)) ?_ | refine Req.mk (by omega) ?_ | refine Req.mk ⟨by first | omega | (dsimp only; omega),by first | omega | (dsimp only; omega)⟩ ?_ | refine ACall.plain _ _ (within_spec _ _ _) (SubL.cons (.eq _) (SubL.cons (.eq _) (SubL.cons (.eq _) .nil))) rfl ?_ | refine ACall.plain _ _ (edit_spec ⟨k,key,l,v⟩) (SubL.cons (.eq _) .nil) rfl ?_ | refine ALoop.rounds 6 ?_ | refine Spl.mk (fun _ => ?_) (fun _ => ?_) | refine InA.mk (inB_mk (by omega) (by omega)) ?_ | refine Wr.b64 ?_ | refine Wr.bu64 ?_ | refine Wr.bu32 ?_ | refine Wr.bu8 ?_ | refine Wr.u8 (by omega) (by omega) ?_ | refine Wr.u64 (by omega) (by omega) ?_ | refine Wr.u32 (by omega) (by omega) ?_ | refine Dv.pos (by omega) (by omega) ?_ | refine Rm.pos (by omega) (by omega) ?_ | refine ADraw.quiet follows_ok (by kernel_rfl) rfl ?_ | refine BSpl.decY (by first | assumption | omega) ?_ | refine BSpl.decN (by first | assumption | omega) ?_ | refine BSpl.dec (fun _ => ?_) (fun _ => ?_) | refine BSpl.yes (by assumption) ?_ | refine BSpl.no (by assumption) ?_ | refine BSpl.mk (fun _ => ?_) (fun _ => ?_))
   all_goals refine ARet.int rfl ?_
   all_goals (simp [mayE,withinB]; omega)
end Go.Proofs.YtkkpfjifkjbndaaGreat

/-
 live.State's Apply,of a book told as a whole.
-/
namespace Go.Proofs.YtkkpfjifkjbndaaGreat
open Go.RowKit
theorem zn_ev (w : World) : (zeroValue 25).run Tryz.prog w = .ok (.slice none 0 0) w := by
 have h : (Tryz.prog.info? 25).bind (·.zero) = some (.slice none 0 0) := by kernel_rfl
 cases hi : Tryz.prog.info? 25 with
 | none => rw [hi] at h; cases h
 | some info =>
  rw [hi] at h
  have h : info.zero = _ := h
  simp [zeroValue,typeInfo,hi,h]
theorem may_kind {e : Ev} (h : mayE e = 0) : 1 ≤ e.k ∧ e.k ≤ 5 := by
 unfold mayE at h
 split at h
 · omega
 · split at h
   · omega
   · split at h
     · omega
     · unfold editE at h
       grind [Ev.ed]
def updK (K : ByteArray → List Ev) (e : Ev) : ByteArray → List Ev := fun q => if q = e.key then liveW (K e.key) e else K q
theorem OEq.st {d : Int} {m : AV} {x y : Int} (h : x = y) : OEq (.box 86 [.v (.int .u32 d), .v (.int .i32 0), .v (.int .u32 0),m, .v (.int .i64 x)]) (.box 86 [.v (.int .u32 d), .v (.int .i32 0), .v (.int .u32 0),m, .v (.int .i64 y)]) := by rw [h]; exact OEq.refl _
set_option maxHeartbeats 4000000 in
set_option maxRecDepth 100000 in
theorem apply_own (K : ByteArray → List Ev) (n : Int) (e : Ev) (hm : mayE e = 0) (hl : (K e.key).length ≤ 1000000000) (h0 : 0 ≤ n) (h1 : n ≤ 1000000000000) (kv : List (ByteArray × List Ev)) (r : Ev) (rs : List Ev)
  (hr : rs.length ≤ 1000000000) (hs : MSpec Tryz.prog 32 [(0,evR (K e.key))] [.own 0,e.av] (.own 1) [(1,evR (r :: rs))]) :
  MSpec Tryz.prog 13 [(0,stB 1 (.own 1) n),(1, .mp mapT [(e.key,some 2)] (hidE kv)),(2,evR (K e.key))] [.box 0 0,e.av] (.v (.int .i64 0)) [(0,stB 1 (.own 1) (n + ((r :: rs).length - (K e.key).length))),(1, .mp mapT [(e.key,some 3)] (hidE kv)),(3,evR (r :: rs))] := by
 have hmay := may_spec e
 rw [hm] at hmay
 generalize K e.key = l at *
 generalize hidE kv = rv at *
 obtain ⟨er,en,ec,eh,ek,ekey,el,ev⟩ := e
 dsimp only [Ev.av,Ev.cs,stB,evR,List.length_cons] at hmay hs ⊢
 refine mspec_of lay_ok 549755816191 10 Tryz.func13 rfl rfl rfl ?_
 repeat' ((conv => whnf); first | refine Spl.yes (by first | assumption | omega) ?_ | refine Spl.no (by first | assumption | omega) ?_ | refine Wr.i64 (by omega) (by omega) ?_ | refine Still.mk rfl rfl ?_ | refine InB.mk (inB_mk (by omega) (by omega)) ?_ | refine Req.mk (by omega) ?_ | refine Req.mk ⟨by first | omega | (dsimp only; omega),by first | omega | (dsimp only; omega)⟩ ?_ | refine ACall.plain _ _ (hmay) (SubL.cons (.eq _) .nil) rfl ?_ | refine ACall.done 0 rfl rfl ?_ | refine ACall.add 0 4 rfl rfl (by omega) (by omega) ?_ | refine ZN.mk zn_ev ?_ | refine MpAt.mk 0 2 _ rfl rfl ?_ | refine ACall.hdr lay_ok (awp_snd lay_ok _) 6 2 ⟨_,_,Tryz.func32,rfl,rfl⟩ rfl rfl (fun A c => ACall.chgR 1 [(0,_)] hs rfl ⟨rfl,trivial⟩ rfl rfl ?_) | refine Spl.mk (fun _ => ?_) (fun _ => ?_) | refine InA.mk (inB_mk (by omega) (by omega)) ?_ | refine Wr.b64 ?_ | refine Wr.bu64 ?_ | refine Wr.bu32 ?_ | refine Wr.bu8 ?_ | refine Wr.u8 (by omega) (by omega) ?_ | refine Wr.u64 (by omega) (by omega) ?_ | refine Wr.u32 (by omega) (by omega) ?_ | refine Dv.pos (by omega) (by omega) ?_ | refine Rm.pos (by omega) (by omega) ?_ | refine ADraw.quiet follows_ok (by kernel_rfl) rfl ?_ | refine ADraw.sched (id := 9) lay_ok (awp_snd lay_ok _) [(0,none),(1,none),(2,none),(3,none),(4,none),(5,none),(6,some [5,3,1,0])] [(1,[0]),(2,[1,0]),(3,[1,0]),(6,[5,3,1,0])] follows_ok (by kernel_rfl) ?_ | refine ADraw.sched (id := 10) lay_ok (awp_snd lay_ok _) [(0,none),(1,none),(2,none),(3,none),(4,none),(5,none),(6,none),(7,some [5,3,1,0])] [(1,[0]),(2,[1,0]),(3,[1,0]),(7,[5,3,1,0])] follows_ok (by kernel_rfl) ?_ | refine BSpl.decY (by first | assumption | omega) ?_ | refine BSpl.decN (by first | assumption | omega) ?_ | refine BSpl.dec (fun _ => ?_) (fun _ => ?_) | refine BSpl.yes (by assumption) ?_ | refine BSpl.no (by assumption) ?_ | refine BSpl.mk (fun _ => ?_) (fun _ => ?_))
 all_goals (conv => whnf)
 exact ⟨[(12,3)],rfl,rfl,⟨⟨_,rfl,OEq.st (by omega)⟩,⟨_,rfl,OEq.refl _⟩,⟨_,rfl,OEq.refl _⟩,trivial⟩,rfl,rfl,AEq.refl _⟩
set_option maxHeartbeats 4000000 in
set_option maxRecDepth 100000 in
theorem apply_same (l : List Ev) (n : Int) (e : Ev) (hm : mayE e = 0) (hl : l.length ≤ 1000000000) (h0 : 0 ≤ n) (h1 : n ≤ 1000000000000) (kv : List (ByteArray × List Ev)) (hn : 0 < l.length)
  (hs : MSpec Tryz.prog 32 [(0,evR l)] [.own 0,e.av] (.own 0) [(0,evR l)]) :
  MSpec Tryz.prog 13 [(0,stB 1 (.own 1) n),(1, .mp mapT [(e.key,some 2)] (hidE kv)),(2,evR l)] [.box 0 0,e.av] (.v (.int .i64 0)) [(0,stB 1 (.own 1) n),(1, .mp mapT [(e.key,some 2)] (hidE kv)),(2,evR l)] := by
 have hmay := may_spec e
 rw [hm] at hmay
 generalize hidE kv = rv at *
 obtain ⟨er,en,ec,eh,ek,ekey,el,ev⟩ := e
 dsimp only [Ev.av,Ev.cs,stB,evR] at hmay hs ⊢
 refine mspec_of lay_ok 549755816191 10 Tryz.func13 rfl rfl rfl ?_
 repeat' ((conv => whnf); first | refine Spl.yes (by first | assumption | omega) ?_ | refine Spl.no (by first | assumption | omega) ?_ | refine Wr.i64 (by omega) (by omega) ?_ | refine Still.mk rfl rfl ?_ | refine InB.mk (inB_mk (by omega) (by omega)) ?_ | refine Req.mk (by omega) ?_ | refine Req.mk ⟨by first | omega | (dsimp only; omega),by first | omega | (dsimp only; omega)⟩ ?_ | refine ACall.plain _ _ (hmay) (SubL.cons (.eq _) .nil) rfl ?_ | refine ACall.done 0 rfl rfl ?_ | refine ACall.add 0 4 rfl rfl (by omega) (by omega) ?_ | refine ZN.mk zn_ev ?_ | refine MpAt.mk 0 2 _ rfl rfl ?_ | refine ACall.hdr lay_ok (awp_snd lay_ok _) 6 2 ⟨_,_,Tryz.func32,rfl,rfl⟩ rfl rfl (fun A c => ACall.chgR 1 [(0,_)] hs rfl ⟨rfl,trivial⟩ rfl rfl ?_) | refine Spl.mk (fun _ => ?_) (fun _ => ?_) | refine InA.mk (inB_mk (by omega) (by omega)) ?_ | refine Wr.b64 ?_ | refine Wr.bu64 ?_ | refine Wr.bu32 ?_ | refine Wr.bu8 ?_ | refine Wr.u8 (by omega) (by omega) ?_ | refine Wr.u64 (by omega) (by omega) ?_ | refine Wr.u32 (by omega) (by omega) ?_ | refine Dv.pos (by omega) (by omega) ?_ | refine Rm.pos (by omega) (by omega) ?_ | refine ADraw.quiet follows_ok (by kernel_rfl) rfl ?_ | refine ADraw.sched (id := 9) lay_ok (awp_snd lay_ok _) [(0,none),(1,none),(2,none),(3,none),(4,none),(5,none),(6,some [5,3,1,0])] [(1,[0]),(2,[1,0]),(3,[1,0]),(6,[5,3,1,0])] follows_ok (by kernel_rfl) ?_ | refine ADraw.sched (id := 10) lay_ok (awp_snd lay_ok _) [(0,none),(1,none),(2,none),(3,none),(4,none),(5,none),(6,none),(7,some [5,3,1,0])] [(1,[0]),(2,[1,0]),(3,[1,0]),(7,[5,3,1,0])] follows_ok (by kernel_rfl) ?_ | refine BSpl.decY (by first | assumption | omega) ?_ | refine BSpl.decN (by first | assumption | omega) ?_ | refine BSpl.dec (fun _ => ?_) (fun _ => ?_) | refine BSpl.yes (by assumption) ?_ | refine BSpl.no (by assumption) ?_ | refine BSpl.mk (fun _ => ?_) (fun _ => ?_))
 all_goals (conv => whnf)
 exact ⟨[],rfl,rfl,⟨⟨_,rfl,OEq.st (by omega)⟩,⟨_,rfl,OEq.refl _⟩,⟨_,rfl,OEq.refl _⟩,trivial⟩,rfl,rfl,AEq.refl _⟩
set_option maxHeartbeats 4000000 in
set_option maxRecDepth 100000 in
theorem apply_same0 (l : List Ev) (n : Int) (e : Ev) (hm : mayE e = 0) (h0 : 0 ≤ n) (h1 : n ≤ 1000000000000) (kv : List (ByteArray × List Ev)) (hn : l = [])
  (hs : MSpec Tryz.prog 32 [(0,evR l)] [.own 0,e.av] (.own 0) [(0,evR l)]) :
  MSpec Tryz.prog 13 [(0,stB 1 (.own 1) n),(1, .mp mapT [(e.key,some 2)] (hidE kv)),(2,evR l)] [.box 0 0,e.av] (.v (.int .i64 0)) [(0,stB 1 (.own 1) n),(1, .mp mapT [(e.key,some 3)] (hidE kv)),(3,evR [])] := by
 have hmay := may_spec e
 rw [hm] at hmay
 subst hn
 generalize hidE kv = rv at *
 obtain ⟨er,en,ec,eh,ek,ekey,el,ev⟩ := e
 dsimp only [Ev.av,Ev.cs,stB,evR,List.length_nil] at hmay hs ⊢
 refine mspec_of lay_ok 549755816191 10 Tryz.func13 rfl rfl rfl ?_
 repeat' ((conv => whnf); first | refine Spl.yes (by first | assumption | omega) ?_ | refine Spl.no (by first | assumption | omega) ?_ | refine Wr.i64 (by omega) (by omega) ?_ | refine Still.mk rfl rfl ?_ | refine InB.mk (inB_mk (by omega) (by omega)) ?_ | refine Req.mk (by omega) ?_ | refine Req.mk ⟨by first | omega | (dsimp only; omega),by first | omega | (dsimp only; omega)⟩ ?_ | refine ACall.plain _ _ (hmay) (SubL.cons (.eq _) .nil) rfl ?_ | refine ACall.done 0 rfl rfl ?_ | refine ACall.add 0 4 rfl rfl (by omega) (by omega) ?_ | refine ZN.mk zn_ev ?_ | refine MpAt.mk 0 2 _ rfl rfl ?_ | refine ACall.hdr lay_ok (awp_snd lay_ok _) 6 2 ⟨_,_,Tryz.func32,rfl,rfl⟩ rfl rfl (fun A c => ACall.chgR 1 [(0,_)] hs rfl ⟨rfl,trivial⟩ rfl rfl ?_) | refine Spl.mk (fun _ => ?_) (fun _ => ?_) | refine InA.mk (inB_mk (by omega) (by omega)) ?_ | refine Wr.b64 ?_ | refine Wr.bu64 ?_ | refine Wr.bu32 ?_ | refine Wr.bu8 ?_ | refine Wr.u8 (by omega) (by omega) ?_ | refine Wr.u64 (by omega) (by omega) ?_ | refine Wr.u32 (by omega) (by omega) ?_ | refine Dv.pos (by omega) (by omega) ?_ | refine Rm.pos (by omega) (by omega) ?_ | refine ADraw.quiet follows_ok (by kernel_rfl) rfl ?_ | refine ADraw.sched (id := 9) lay_ok (awp_snd lay_ok _) [(0,none),(1,none),(2,none),(3,none),(4,none),(5,none),(6,some [5,3,1,0])] [(1,[0]),(2,[1,0]),(3,[1,0]),(6,[5,3,1,0])] follows_ok (by kernel_rfl) ?_ | refine ADraw.sched (id := 10) lay_ok (awp_snd lay_ok _) [(0,none),(1,none),(2,none),(3,none),(4,none),(5,none),(6,none),(7,some [5,3,1,0])] [(1,[0]),(2,[1,0]),(3,[1,0]),(7,[5,3,1,0])] follows_ok (by kernel_rfl) ?_ | refine BSpl.decY (by first | assumption | omega) ?_ | refine BSpl.decN (by first | assumption | omega) ?_ | refine BSpl.dec (fun _ => ?_) (fun _ => ?_) | refine BSpl.yes (by assumption) ?_ | refine BSpl.no (by assumption) ?_ | refine BSpl.mk (fun _ => ?_) (fun _ => ?_))
 all_goals (conv => whnf)
 first
   | exact ⟨[(12,3)],rfl,rfl,⟨⟨_,rfl,OEq.st (by omega)⟩,⟨_,rfl,OEq.refl _⟩,⟨_,rfl,OEq.row rfl (fun m hm => absurd hm (Nat.not_lt_zero m))⟩,trivial⟩,rfl,rfl,AEq.refl _⟩
   | exact ⟨[(13,3)],rfl,rfl,⟨⟨_,rfl,OEq.st (by omega)⟩,⟨_,rfl,OEq.refl _⟩,⟨_,rfl,OEq.row rfl (fun m hm => absurd hm (Nat.not_lt_zero m))⟩,trivial⟩,rfl,rfl,AEq.refl _⟩
   | exact ⟨[(14,3)],rfl,rfl,⟨⟨_,rfl,OEq.st (by omega)⟩,⟨_,rfl,OEq.refl _⟩,⟨_,rfl,OEq.row rfl (fun m hm => absurd hm (Nat.not_lt_zero m))⟩,trivial⟩,rfl,rfl,AEq.refl _⟩
   | exact ⟨[(15,3)],rfl,rfl,⟨⟨_,rfl,OEq.st (by omega)⟩,⟨_,rfl,OEq.refl _⟩,⟨_,rfl,OEq.row rfl (fun m hm => absurd hm (Nat.not_lt_zero m))⟩,trivial⟩,rfl,rfl,AEq.refl _⟩
set_option maxHeartbeats 4000000 in
set_option maxRecDepth 100000 in
theorem apply_nil (l : List Ev) (n : Int) (e : Ev) (hm : mayE e = 0) (hl : l.length ≤ 1000000000) (h0 : 0 ≤ n) (h1 : n ≤ 1000000000000) (kv : List (ByteArray × List Ev))
  (hs : MSpec Tryz.prog 32 [(0,evR l)] [.own 0,e.av] (.v (.slice none 0 0)) []) :
  MSpec Tryz.prog 13 [(0,stB 1 (.own 1) n),(1, .mp mapT [(e.key,some 2)] (hidE kv)),(2,evR l)] [.box 0 0,e.av] (.v (.int .i64 0)) [(0,stB 1 (.own 1) (n - l.length)),(1, .mp mapT [(e.key,some 3)] (hidE kv)),(3,evR [])] := by
 have hmay := may_spec e
 rw [hm] at hmay
 generalize hidE kv = rv at *
 obtain ⟨er,en,ec,eh,ek,ekey,el,ev⟩ := e
 dsimp only [Ev.av,Ev.cs,stB,evR,List.length_nil] at hmay hs ⊢
 refine mspec_of lay_ok 549755816191 10 Tryz.func13 rfl rfl rfl ?_
 repeat' ((conv => whnf); first | refine Spl.yes (by first | assumption | omega) ?_ | refine Spl.no (by first | assumption | omega) ?_ | refine Wr.i64 (by omega) (by omega) ?_ | refine Still.mk rfl rfl ?_ | refine InB.mk (inB_mk (by omega) (by omega)) ?_ | refine Req.mk (by omega) ?_ | refine Req.mk ⟨by first | omega | (dsimp only; omega),by first | omega | (dsimp only; omega)⟩ ?_ | refine ACall.plain _ _ (hmay) (SubL.cons (.eq _) .nil) rfl ?_ | refine ACall.done 0 rfl rfl ?_ | refine ACall.add 0 4 rfl rfl (by omega) (by omega) ?_ | refine ZN.mk zn_ev ?_ | refine MpAt.mk 0 2 _ rfl rfl ?_ | refine ACall.hdr lay_ok (awp_snd lay_ok _) 6 2 ⟨_,_,Tryz.func32,rfl,rfl⟩ rfl rfl (fun A c => ACall.chgR 1 [(0,_)] hs rfl ⟨rfl,trivial⟩ rfl rfl ?_) | refine Spl.mk (fun _ => ?_) (fun _ => ?_) | refine InA.mk (inB_mk (by omega) (by omega)) ?_ | refine Wr.b64 ?_ | refine Wr.bu64 ?_ | refine Wr.bu32 ?_ | refine Wr.bu8 ?_ | refine Wr.u8 (by omega) (by omega) ?_ | refine Wr.u64 (by omega) (by omega) ?_ | refine Wr.u32 (by omega) (by omega) ?_ | refine Dv.pos (by omega) (by omega) ?_ | refine Rm.pos (by omega) (by omega) ?_ | refine ADraw.quiet follows_ok (by kernel_rfl) rfl ?_ | refine ADraw.sched (id := 9) lay_ok (awp_snd lay_ok _) [(0,none),(1,none),(2,none),(3,none),(4,none),(5,none),(6,some [5,3,1,0])] [(1,[0]),(2,[1,0]),(3,[1,0]),(6,[5,3,1,0])] follows_ok (by kernel_rfl) ?_ | refine ADraw.sched (id := 10) lay_ok (awp_snd lay_ok _) [(0,none),(1,none),(2,none),(3,none),(4,none),(5,none),(6,none),(7,some [5,3,1,0])] [(1,[0]),(2,[1,0]),(3,[1,0]),(7,[5,3,1,0])] follows_ok (by kernel_rfl) ?_ | refine BSpl.decY (by first | assumption | omega) ?_ | refine BSpl.decN (by first | assumption | omega) ?_ | refine BSpl.dec (fun _ => ?_) (fun _ => ?_) | refine BSpl.yes (by assumption) ?_ | refine BSpl.no (by assumption) ?_ | refine BSpl.mk (fun _ => ?_) (fun _ => ?_))
 all_goals (conv => whnf)
 first
   | exact ⟨[(12,3)],rfl,rfl,⟨⟨_,rfl,OEq.st (by omega)⟩,⟨_,rfl,OEq.refl _⟩,⟨_,rfl,OEq.row rfl (fun m hm => absurd hm (Nat.not_lt_zero m))⟩,trivial⟩,rfl,rfl,AEq.refl _⟩
   | exact ⟨[(13,3)],rfl,rfl,⟨⟨_,rfl,OEq.st (by omega)⟩,⟨_,rfl,OEq.refl _⟩,⟨_,rfl,OEq.row rfl (fun m hm => absurd hm (Nat.not_lt_zero m))⟩,trivial⟩,rfl,rfl,AEq.refl _⟩
   | exact ⟨[(14,3)],rfl,rfl,⟨⟨_,rfl,OEq.st (by omega)⟩,⟨_,rfl,OEq.refl _⟩,⟨_,rfl,OEq.row rfl (fun m hm => absurd hm (Nat.not_lt_zero m))⟩,trivial⟩,rfl,rfl,AEq.refl _⟩
   | exact ⟨[(15,3)],rfl,rfl,⟨⟨_,rfl,OEq.st (by omega)⟩,⟨_,rfl,OEq.refl _⟩,⟨_,rfl,OEq.row rfl (fun m hm => absurd hm (Nat.not_lt_zero m))⟩,trivial⟩,rfl,rfl,AEq.refl _⟩
end Go.Proofs.YtkkpfjifkjbndaaGreat
