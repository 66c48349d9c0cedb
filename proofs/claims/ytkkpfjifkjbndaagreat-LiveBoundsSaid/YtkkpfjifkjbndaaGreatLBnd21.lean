/-
  Contracts of the walk: BkX2, LvT, LvV, LvW, LvY, MkM, LvZ, LxA.
-/
import Derived.Test.YtkkpfjifkjbndaaGreatLBnd20
import Derived.Test.YtkkpfjifkjbndaaGreatLBnd9
import Derived.Test.YtkkpfjifkjbndaaGreatLBnd18
import Derived.Test.YtkkpfjifkjbndaaGreatLBnd19
import Derived.Test.YtkkpfjifkjbndaaGreatLBnd12
import Derived.Test.YtkkpfjifkjbndaaGreatLBnd15
import Derived.Test.YtkkpfjifkjbndaaGreatLBnd11
/-
 book.Of,of a row that stays the caller's own.
-/
namespace Go.Proofs.YtkkpfjifkjbndaaGreat
open Go.RowKit
inductive Back (f : FuncId) (avs : List AV) (C : List Ev) : Prop where
  | nil (h : C = []) (hs : ASpec Tryz.prog f avs (.v (.slice none 0 0)) [])
  | own (h : 0 < C.length) (hs : ∀ d,ASpec Tryz.prog f avs (.own d) [(d, .row 36 12 C.length true (evF C))])
theorem living_back (l : List Ev) (hl : l.length ≤ 1000000000) : Back 66 [.sl 12 l.length true (evF l)] (livingB l) := by
 cases h : livingB l with
 | nil => exact .nil rfl (living_nil l hl h)
 | cons r rs => exact .own (by simp) (fun d => living_own d l hl r rs h)
theorem counting_back (l C : List Ev) (hl : l.length ≤ 1000000000) (hc : C.length ≤ 1000000000) : Back 67 [.sl 12 l.length true (evF l), .sl 12 C.length true (evF C)] (countingB l C) := by
 cases h : countingB l C with
 | nil => exact .nil rfl (counting_nil l C hl hc h)
 | cons r rs => exact .own (by simp) (fun d => counting_own d l C hl hc r rs h)
theorem Back.args {f : FuncId} {avs bvs : List AV} {C : List Ev} (h : Back f bvs C) (hc : Ch avs bvs) : Back f avs C := by
 cases h with
 | nil h hs => exact .nil h (hs.args hc)
 | own h hs => exact .own h fun d => (hs d).args hc
set_option maxHeartbeats 8000000 in
set_option maxRecDepth 100000 in
theorem of_m (l : List Ev) (hl : l.length ≤ 1000000000) :
  MSpec Tryz.prog 37 [(0, .row 36 12 l.length true (evF l))] [.own 0] (.sl 7 (ofB l).length false (coF (ofB l))) [(0, .row 36 12 l.length true (evF l))] := by
 have hliv := living_back l hl
 have hcl : (livingB l).length ≤ l.length := List.length_filter_le ..
 have hcou := counting_back l (livingB l) hl (by omega)
 have hwl : (countingB l (livingB l)).length ≤ l.length := List.length_filter_le ..
 have hof : ofB l = (Lib.compact (sortL ((livingB l).map fun e => strL e.key))).map fun k => contactB ⟨k.toArray⟩ (countingB l (livingB l)) := rfl
 generalize ofB l = O at hof ⊢
 generalize countingB l (livingB l) = ws at hcou hwl hof
 generalize livingB l = C at hliv hcl hcou hof
 have hcon := fun k => contact_spec k ws (by omega)
 dsimp only [Cont.cs] at hcon
 have hcou' : C = [] → Back 67 [.sl 12 l.length true (evF l), .v (.slice none 0 0)] ws := fun h => by
  subst h
  exact hcou.args (.same (.of (fun X u h => C1.nilS (by decide) h) .nil))
 rcases hliv with ⟨hC,hliv⟩ | ⟨hC,hliv⟩
 rcases hcou' hC with ⟨hW,hcou⟩ | ⟨hW,hcou⟩
 rotate_left 2
 rcases hcou with ⟨hW,hcou⟩ | ⟨hW,hcou⟩
 all_goals refine mspec_of lay_ok 32213239229 10 Tryz.func37 rfl rfl rfl ?_
 all_goals first
   | (repeat' ((conv => whnf); first | refine Spl.yes (by first | assumption | omega) ?_ | refine Spl.no (by first | assumption | omega) ?_ | refine Wr.i64 (by omega) (by omega) ?_ | refine Still.mk rfl rfl ?_ | refine InB.mk (inB_mk (by omega) (by omega)) ?_ | refine Req.mk (by omega) ?_ | refine Req.mk ⟨by first | omega | (dsimp only; omega),by first | omega | (dsimp only; omega)⟩ ?_ | refine ACall.plain _ _ (hliv) (SubL.cons (.eq _) .nil) rfl ?_ | refine ACall.plain _ _ (hcou) (SubL.cons (.eq _) (SubL.cons (.eq _) .nil)) rfl ?_ | refine Spl.mk (fun _ => ?_) (fun _ => ?_) | refine InA.mk (inB_mk (by omega) (by omega)) ?_ | refine Wr.b64 ?_ | refine Wr.bu64 ?_ | refine Wr.bu32 ?_ | refine Wr.bu8 ?_ | refine Wr.u8 (by omega) (by omega) ?_ | refine Wr.u64 (by omega) (by omega) ?_ | refine Wr.u32 (by omega) (by omega) ?_ | refine Dv.pos (by omega) (by omega) ?_ | refine Rm.pos (by omega) (by omega) ?_ | refine ADraw.quiet follows_ok (by kernel_rfl) rfl ?_ | refine BSpl.decY (by first | assumption | omega) ?_ | refine BSpl.decN (by first | assumption | omega) ?_ | refine BSpl.dec (fun _ => ?_) (fun _ => ?_) | refine BSpl.yes (by assumption) ?_ | refine BSpl.no (by assumption) ?_ | refine BSpl.mk (fun _ => ?_) (fun _ => ?_))
      conv => whnf
      refine ALoop.nil 16 80 36 12 (evF []) rfl (by omega) ?_
      conv => whnf
      refine ALoop.frz 80 rfl ?_
      conv => whnf
      refine ALoop.nil 4 82 36 12 (evF []) rfl (by omega) ?_
      conv => whnf
      refine ALoop.frz 82 rfl ?_
      conv => whnf)
   | (repeat' ((conv => whnf); first | refine Spl.yes (by first | assumption | omega) ?_ | refine Spl.no (by first | assumption | omega) ?_ | refine Wr.i64 (by omega) (by omega) ?_ | refine Still.mk rfl rfl ?_ | refine InB.mk (inB_mk (by omega) (by omega)) ?_ | refine Req.mk (by omega) ?_ | refine Req.mk ⟨by first | omega | (dsimp only; omega),by first | omega | (dsimp only; omega)⟩ ?_ | refine ACall.plain _ _ (hliv) (SubL.cons (.eq _) .nil) rfl ?_ | refine ACall.fresh _ _ _ _ _ _ _ (hcou _) (SubL.cons (.eq _) (SubL.cons (.eq _) .nil)) rfl ?_ | refine Spl.mk (fun _ => ?_) (fun _ => ?_) | refine InA.mk (inB_mk (by omega) (by omega)) ?_ | refine Wr.b64 ?_ | refine Wr.bu64 ?_ | refine Wr.bu32 ?_ | refine Wr.bu8 ?_ | refine Wr.u8 (by omega) (by omega) ?_ | refine Wr.u64 (by omega) (by omega) ?_ | refine Wr.u32 (by omega) (by omega) ?_ | refine Dv.pos (by omega) (by omega) ?_ | refine Rm.pos (by omega) (by omega) ?_ | refine ADraw.quiet follows_ok (by kernel_rfl) rfl ?_ | refine BSpl.decY (by first | assumption | omega) ?_ | refine BSpl.decN (by first | assumption | omega) ?_ | refine BSpl.dec (fun _ => ?_) (fun _ => ?_) | refine BSpl.yes (by assumption) ?_ | refine BSpl.no (by assumption) ?_ | refine BSpl.mk (fun _ => ?_) (fun _ => ?_))
      conv => whnf
      refine ALoop.nil 16 80 36 12 (evF []) rfl (by omega) ?_
      conv => whnf
      refine ALoop.frz 80 rfl ?_
      conv => whnf
      refine ALoop.frz 10 rfl ?_
      conv => whnf)
   | (repeat' ((conv => whnf); first | refine Spl.yes (by first | assumption | omega) ?_ | refine Spl.no (by first | assumption | omega) ?_ | refine Wr.i64 (by omega) (by omega) ?_ | refine Still.mk rfl rfl ?_ | refine InB.mk (inB_mk (by omega) (by omega)) ?_ | refine Req.mk (by omega) ?_ | refine Req.mk ⟨by first | omega | (dsimp only; omega),by first | omega | (dsimp only; omega)⟩ ?_ | refine ACall.fresh _ _ _ _ _ _ _ (hliv _) (SubL.cons (.eq _) .nil) rfl ?_ | refine ACall.plain _ _ (hcou) (SubL.cons (.eq _) (SubL.cons (.eq _) .nil)) rfl ?_ | refine Spl.mk (fun _ => ?_) (fun _ => ?_) | refine InA.mk (inB_mk (by omega) (by omega)) ?_ | refine Wr.b64 ?_ | refine Wr.bu64 ?_ | refine Wr.bu32 ?_ | refine Wr.bu8 ?_ | refine Wr.u8 (by omega) (by omega) ?_ | refine Wr.u64 (by omega) (by omega) ?_ | refine Wr.u32 (by omega) (by omega) ?_ | refine Dv.pos (by omega) (by omega) ?_ | refine Rm.pos (by omega) (by omega) ?_ | refine ADraw.quiet follows_ok (by kernel_rfl) rfl ?_ | refine BSpl.decY (by first | assumption | omega) ?_ | refine BSpl.decN (by first | assumption | omega) ?_ | refine BSpl.dec (fun _ => ?_) (fun _ => ?_) | refine BSpl.yes (by assumption) ?_ | refine BSpl.no (by assumption) ?_ | refine BSpl.mk (fun _ => ?_) (fun _ => ?_))
      conv => whnf
      refine ALoop.frz 10 rfl ?_
      conv => whnf
      refine ALoop.nil 4 82 36 12 (evF []) rfl (by omega) ?_
      conv => whnf
      refine ALoop.frz 82 rfl ?_
      conv => whnf)
   | (repeat' ((conv => whnf); first | refine Spl.yes (by first | assumption | omega) ?_ | refine Spl.no (by first | assumption | omega) ?_ | refine Wr.i64 (by omega) (by omega) ?_ | refine Still.mk rfl rfl ?_ | refine InB.mk (inB_mk (by omega) (by omega)) ?_ | refine Req.mk (by omega) ?_ | refine Req.mk ⟨by first | omega | (dsimp only; omega),by first | omega | (dsimp only; omega)⟩ ?_ | refine ACall.fresh _ _ _ _ _ _ _ (hliv _) (SubL.cons (.eq _) .nil) rfl ?_ | refine ACall.fresh _ _ _ _ _ _ _ (hcou _) (SubL.cons (.eq _) (SubL.cons (.eq _) .nil)) rfl ?_ | refine Spl.mk (fun _ => ?_) (fun _ => ?_) | refine InA.mk (inB_mk (by omega) (by omega)) ?_ | refine Wr.b64 ?_ | refine Wr.bu64 ?_ | refine Wr.bu32 ?_ | refine Wr.bu8 ?_ | refine Wr.u8 (by omega) (by omega) ?_ | refine Wr.u64 (by omega) (by omega) ?_ | refine Wr.u32 (by omega) (by omega) ?_ | refine Dv.pos (by omega) (by omega) ?_ | refine Rm.pos (by omega) (by omega) ?_ | refine ADraw.quiet follows_ok (by kernel_rfl) rfl ?_ | refine BSpl.decY (by first | assumption | omega) ?_ | refine BSpl.decN (by first | assumption | omega) ?_ | refine BSpl.dec (fun _ => ?_) (fun _ => ?_) | refine BSpl.yes (by assumption) ?_ | refine BSpl.no (by assumption) ?_ | refine BSpl.mk (fun _ => ?_) (fun _ => ?_))
      conv => whnf
      refine ALoop.frz 10 rfl ?_
      conv => whnf
      refine ALoop.frz 11 rfl ?_
      conv => whnf)
 all_goals
  refine ALoop.nil 5 90 9 1 (strF []) rfl (by omega) ?_
  conv => whnf
  refine ALoop.mk { j : Nat // j ≤ C.length } (fun j => ⟨[(4, .sl 12 ws.length true (evF ws)),(5, .own 90),(16, .sl 12 C.length true (evF C)),(17, .v (.int .i64 (C.length : Int))),(18, .v (.int .i64 (j.1 : Int)))],
    [(90, .row 9 1 ((C.take j.1).map fun e => strL e.key).length true (strF ((C.take j.1).map fun e => strL e.key))),(0, .row 36 12 l.length true (evF l))],[[(0, .own 0)]],91⟩) (fun j => C.length - j.1) ⟨0,Nat.zero_le _⟩ _
   (LeR.mk' [] _ _ _ rfl ⟨by first | exact AEq.refl _ | (rw [hW]; exact AEq.refl _),AEq.refl _,by first | exact AEq.refl _ | (rw [hC]; exact AEq.refl _),by first | exact AEq.refl _ | exact AEq.int (by rw [hC]; rfl),AEq.int rfl,trivial⟩ ⟨⟨_,rfl,OEq.refl _⟩,⟨_,rfl,OEq.refl _⟩,trivial⟩ rfl) ?_
  rintro ⟨j,hj⟩
  dsimp only
  have lm : ((C.take j).map fun e => strL e.key).length = j := by rw [List.length_map,List.length_take]; omega
  by_cases hjl : j < C.length
  · have hg : (C.take (j + 1)).map (fun e => strL e.key) = (C.take j).map (fun e => strL e.key) ++ [strL (C.getD (j : Int).toNat default).key] := by
     rw [show (C.getD (j : Int).toNat default) = C.getD j default from rfl,List.getD,List.getElem?_eq_getElem hjl,List.take_add_one,List.getElem?_eq_getElem hjl,List.map_append]
     rfl
    repeat' ((conv => whnf); first | refine Spl.yes (by first | assumption | omega) ?_ | refine Spl.no (by first | assumption | omega) ?_ | refine Wr.i64 (by omega) (by omega) ?_ | refine Still.mk rfl rfl ?_ | refine InB.mk (inB_mk (by omega) (by omega)) ?_ | refine Req.mk (by omega) ?_ | refine Req.mk ⟨by first | omega | (dsimp only; omega),by first | omega | (dsimp only; omega)⟩ ?_ | refine Spl.mk (fun _ => ?_) (fun _ => ?_) | refine InA.mk (inB_mk (by omega) (by omega)) ?_ | refine Wr.b64 ?_ | refine Wr.bu64 ?_ | refine Wr.bu32 ?_ | refine Wr.bu8 ?_ | refine Wr.u8 (by omega) (by omega) ?_ | refine Wr.u64 (by omega) (by omega) ?_ | refine Wr.u32 (by omega) (by omega) ?_ | refine Dv.pos (by omega) (by omega) ?_ | refine Rm.pos (by omega) (by omega) ?_ | refine ADraw.quiet follows_ok (by kernel_rfl) rfl ?_ | refine BSpl.decY (by first | assumption | omega) ?_ | refine BSpl.decN (by first | assumption | omega) ?_ | refine BSpl.dec (fun _ => ?_) (fun _ => ?_) | refine BSpl.yes (by assumption) ?_ | refine BSpl.no (by assumption) ?_ | refine BSpl.mk (fun _ => ?_) (fun _ => ?_))
    conv => whnf
    refine ⟨⟨j + 1,hjl⟩,_,LeR.mk' [(93,90)] _ _ _ rfl ⟨AEq.refl _,AEq.refl _,AEq.refl _,AEq.refl _,AEq.int rfl,trivial⟩ ⟨⟨_,rfl,OEq.row ?_ (fun m hm => ?_)⟩,⟨_,rfl,OEq.refl _⟩,trivial⟩ rfl,by show C.length - (j + 1) < C.length - j; omega⟩
    · show _ = ((C.take (j + 1)).map fun e => strL e.key).length
      rw [hg,List.length_append]
      rfl
    · show _ = strF ((C.take (j + 1)).map fun e => strL e.key) m
      rw [hg]
      exact str_app1 (x := strL (C.getD (j : Int).toNat default).key) rfl (by rw [enc_strL]; rfl) m hm
  · rw [List.take_of_length_le (show C.length ≤ j by omega)] at lm ⊢
    generalize (C.map fun e => strL e.key) = K at lm hof ⊢
    have hso := sort_mspec K (by omega)
    have hsl : (sortL K).length = K.length := List.length_mergeSort ..
    have hco := compact_mspec (sortL K) (by omega)
    have hle := compact_le (sortL K)
    rw [hsl] at hco hle
    generalize Lib.compact (sortL K) = M at hco hle hof
    repeat' ((conv => whnf); first | refine Spl.yes (by first | assumption | omega) ?_ | refine Spl.no (by first | assumption | omega) ?_ | refine Wr.i64 (by omega) (by omega) ?_ | refine Still.mk rfl rfl ?_ | refine InB.mk (inB_mk (by omega) (by omega)) ?_ | refine Req.mk (by omega) ?_ | refine Req.mk ⟨by first | omega | (dsimp only; omega),by first | omega | (dsimp only; omega)⟩ ?_ | refine ACall.chgR 1 [(0,_)] (hso) rfl ⟨rfl,trivial⟩ rfl rfl ?_ | refine ACall.chgR 1 [(0,_)] (hco) rfl ⟨rfl,trivial⟩ rfl rfl ?_ | refine Spl.mk (fun _ => ?_) (fun _ => ?_) | refine InA.mk (inB_mk (by omega) (by omega)) ?_ | refine Wr.b64 ?_ | refine Wr.bu64 ?_ | refine Wr.bu32 ?_ | refine Wr.bu8 ?_ | refine Wr.u8 (by omega) (by omega) ?_ | refine Wr.u64 (by omega) (by omega) ?_ | refine Wr.u32 (by omega) (by omega) ?_ | refine Dv.pos (by omega) (by omega) ?_ | refine Rm.pos (by omega) (by omega) ?_ | refine ADraw.quiet follows_ok (by kernel_rfl) rfl ?_ | refine BSpl.decY (by first | assumption | omega) ?_ | refine BSpl.decN (by first | assumption | omega) ?_ | refine BSpl.dec (fun _ => ?_) (fun _ => ?_) | refine BSpl.yes (by assumption) ?_ | refine BSpl.no (by assumption) ?_ | refine BSpl.mk (fun _ => ?_) (fun _ => ?_))
    conv => whnf
    refine ALoop.nil 8 190 45 7 (coF []) rfl (by omega) ?_
    conv => whnf
    refine ALoop.mk { j : Nat // j ≤ M.length } (fun j => ⟨[(4, .sl 12 ws.length true (evF ws)),(8, .own 190),(31, .own 92),(32, .v (.int .i64 (M.length : Int))),(33, .v (.int .i64 (j.1 : Int)))],
     [(92, .row 9 1 M.length true (strF M)),(190, .row 45 7 ((M.take j.1).map fun k => contactB ⟨k.toArray⟩ ws).length false (coF ((M.take j.1).map fun k => contactB ⟨k.toArray⟩ ws))),(0, .row 36 12 l.length true (evF l))],[[(0, .own 0)]],191⟩) (fun j => M.length - j.1) ⟨0,Nat.zero_le _⟩ _
     (LeR.mk' [] _ _ _ rfl ⟨AEq.refl _,AEq.refl _,AEq.refl _,AEq.int rfl,AEq.int rfl,trivial⟩ ⟨⟨_,rfl,OEq.refl _⟩,⟨_,rfl,OEq.rowF rfl (fun i hi => absurd hi (Nat.not_lt_zero i))⟩,⟨_,rfl,OEq.refl _⟩,trivial⟩ rfl) ?_
    rintro ⟨j,hj⟩
    dsimp only
    have lo : ((M.take j).map fun k => contactB ⟨k.toArray⟩ ws).length = j := by rw [List.length_map,List.length_take]; omega
    by_cases hjl : j < M.length
    · have hg : (M.take (j + 1)).map (fun k => contactB ⟨k.toArray⟩ ws) = (M.take j).map (fun k => contactB ⟨k.toArray⟩ ws) ++ [contactB ⟨(M.getD (j : Int).toNat []).toArray⟩ ws] := by
       rw [show M.getD (j : Int).toNat [] = M.getD j [] from rfl,List.getD,List.getElem?_eq_getElem hjl,List.take_add_one,List.getElem?_eq_getElem hjl,List.map_append]
       rfl
      repeat' ((conv => whnf); first | refine Spl.yes (by first | assumption | omega) ?_ | refine Spl.no (by first | assumption | omega) ?_ | refine Wr.i64 (by omega) (by omega) ?_ | refine Still.mk rfl rfl ?_ | refine InB.mk (inB_mk (by omega) (by omega)) ?_ | refine Req.mk (by omega) ?_ | refine Req.mk ⟨by first | omega | (dsimp only; omega),by first | omega | (dsimp only; omega)⟩ ?_ | refine ACall.plain _ _ (hcon _) (SubL.cons (.eq _) (SubL.cons (.eq _) .nil)) rfl ?_ | refine Spl.mk (fun _ => ?_) (fun _ => ?_) | refine InA.mk (inB_mk (by omega) (by omega)) ?_ | refine Wr.b64 ?_ | refine Wr.bu64 ?_ | refine Wr.bu32 ?_ | refine Wr.bu8 ?_ | refine Wr.u8 (by omega) (by omega) ?_ | refine Wr.u64 (by omega) (by omega) ?_ | refine Wr.u32 (by omega) (by omega) ?_ | refine Dv.pos (by omega) (by omega) ?_ | refine Rm.pos (by omega) (by omega) ?_ | refine ADraw.quiet follows_ok (by kernel_rfl) rfl ?_ | refine BSpl.decY (by first | assumption | omega) ?_ | refine BSpl.decN (by first | assumption | omega) ?_ | refine BSpl.dec (fun _ => ?_) (fun _ => ?_) | refine BSpl.yes (by assumption) ?_ | refine BSpl.no (by assumption) ?_ | refine BSpl.mk (fun _ => ?_) (fun _ => ?_))
      rotate_left
      · exact absurd (show Nat.ble _ _ = false by assumption) (by rw [Bool.not_eq_false,Nat.ble_eq]; omega)
      conv => whnf
      refine ⟨⟨j + 1,hjl⟩,_,LeR.mk' [(192,190)] _ _ _ rfl ⟨AEq.refl _,AEq.refl _,AEq.refl _,AEq.int rfl,AEq.int rfl,trivial⟩ ⟨⟨_,rfl,OEq.refl _⟩,⟨_,rfl,OEq.row ?_ (fun m hm => ?_)⟩,⟨_,rfl,OEq.refl _⟩,trivial⟩ rfl,by show M.length - (j + 1) < M.length - j; omega⟩
      · show _ = ((M.take (j + 1)).map fun k => contactB ⟨k.toArray⟩ ws).length
        rw [hg,List.length_append]
        rfl
      · show _ = coF ((M.take (j + 1)).map fun k => contactB ⟨k.toArray⟩ ws) m
        rw [hg]
        exact els_app1 (c := Cont.cs) rfl rfl m hm
    · rw [List.take_of_length_le (show M.length ≤ j by omega)] at lo ⊢
      rw [hof]
      repeat' ((conv => whnf); first | refine Spl.yes (by first | assumption | omega) ?_ | refine Spl.no (by first | assumption | omega) ?_ | refine Wr.i64 (by omega) (by omega) ?_ | refine Still.mk rfl rfl ?_ | refine InB.mk (inB_mk (by omega) (by omega)) ?_ | refine Req.mk (by omega) ?_ | refine Req.mk ⟨by first | omega | (dsimp only; omega),by first | omega | (dsimp only; omega)⟩ ?_ | refine Spl.mk (fun _ => ?_) (fun _ => ?_) | refine InA.mk (inB_mk (by omega) (by omega)) ?_ | refine Wr.b64 ?_ | refine Wr.bu64 ?_ | refine Wr.bu32 ?_ | refine Wr.bu8 ?_ | refine Wr.u8 (by omega) (by omega) ?_ | refine Wr.u64 (by omega) (by omega) ?_ | refine Wr.u32 (by omega) (by omega) ?_ | refine Dv.pos (by omega) (by omega) ?_ | refine Rm.pos (by omega) (by omega) ?_ | refine ADraw.quiet follows_ok (by kernel_rfl) rfl ?_ | refine BSpl.decY (by first | assumption | omega) ?_ | refine BSpl.decN (by first | assumption | omega) ?_ | refine BSpl.dec (fun _ => ?_) (fun _ => ?_) | refine BSpl.yes (by assumption) ?_ | refine BSpl.no (by assumption) ?_ | refine BSpl.mk (fun _ => ?_) (fun _ => ?_))
      conv => whnf
      exact ⟨[],rfl,rfl,⟨⟨_,rfl,OEq.refl _⟩,trivial⟩,rfl,rfl,AEq.refl _⟩
end Go.Proofs.YtkkpfjifkjbndaaGreat

/-
 slices.Sorted(maps.Keys(m)),of a map of the call's own.
-/
namespace Go.Proofs.YtkkpfjifkjbndaaGreat
open Go.RowKit Go.Maps Go.Sort Go.Shelf
structure KeysOf2 (rs : List (ByteArray × RW)) (ss : List (List UInt8)) : Prop where
 up : ss.Pairwise (· < ·)
 mem : ∀ x ∈ ss,∃ p ∈ rs,strL p.1 = x
 all : ∀ p ∈ rs,0 < p.2.n → strL p.1 ∈ ss
 len : ss.length ≤ rs.length
theorem sort_up {l : List (List UInt8)} (hn : l.Nodup) : (l.mergeSort fun x y => decide (x ≤ y)).Pairwise (· < ·) := by
 have tr : ∀ a b c : List UInt8,leB a b = true → leB b c = true → leB a c = true := fun a b c h1 h2 => by simp only [leB,decide_eq_true_eq] at *; exact List.le_trans h1 h2
 have to : ∀ a b : List UInt8,(leB a b || leB b a) = true := fun a b => by simp only [leB,Bool.or_eq_true,decide_eq_true_eq]; exact List.le_total a b
 have h1 := List.pairwise_mergeSort tr to l
 have h2 : (l.mergeSort leB).Nodup := (List.mergeSort_perm l leB).nodup_iff.2 hn
 refine (h1.and h2).imp fun {a b} h => ?_
 simp only [leB,decide_eq_true_eq] at h
 rcases Decidable.em (a < b) with h' | h'
 · exact h'
 · exact absurd (List.le_antisymm h.1 (List.not_lt.1 h')) h.2
def trivR : Value → Option (DataW Unit × List MemPlace) := fun _ => some (.nil,[])
def keyB2 (v : Value) : List UInt8 := match v with | .string b => strL b | _ => []
theorem mp_own {X : CX} {i : Nat} {t : TypeId} {rs : List (ByteArray × RW)} (h : ObjOk X i (.mp t [] rs)) (hky : ∀ p ∈ rs,p.1.size ≤ 9223372036854775807) (hl : rs.length ≤ 9223372036854775807) :
  ∃ b hs D0,X.ρ i = .tuple (.map (some b) :: .map (some b) :: hs).toArray ∧ X.w.ownsMap Tryz.prog 9 trivR b rs.length D0 ∧ Maps.size D0 ≤ rs.length ∧ (strKeys D0).length ≤ rs.length ∧ (strKeys D0).Nodup ∧ (∀ x ∈ strKeys D0,∃ p ∈ rs,strL p.1 = x) ∧ ∀ p ∈ rs,0 < p.2.n → strL p.1 ∈ strKeys D0 := by
 obtain ⟨b,es,c,vs,hs,e,hh,hi,hr,hp,hn,hst⟩ := h
 have hvs : vs = [] := hi
 subst hvs
 simp only [List.map_nil,List.nil_append] at hp hn
 have hent : ∀ x ∈ es.toList,∃ p ∈ rs,x.key = .string p.1 := fun x hx => by
  have : (x.key,x.val) ∈ mpEs (rs.map (·.1)) hs := hp.mem_iff.1 (List.mem_map.2 ⟨x,hx,rfl⟩)
  obtain ⟨j,k,v,h1,_,h3,_⟩ := mem_mpEs this
  obtain ⟨p,hp',rfl⟩ := List.mem_map.1 (List.mem_of_getElem? h1)
  exact ⟨p,hp',congrArg Prod.fst h3⟩
 have hsz : es.size ≤ rs.length := by
  have h1 := hp.length_eq
  have h2 : ∀ (ks : List ByteArray) (vs : List Value),(mpEs ks vs).length ≤ ks.length := by
   intro ks
   induction ks with
   | nil => intro vs; simp [mpEs]
   | cons k ks ih =>
    intro vs
    cases vs with
    | nil => simp [mpEs]
    | cons v vs =>
     rw [mpEs_cons,List.length_append,List.length_cons]
     have := ih vs
     have : (entE k v).length ≤ 1 := by unfold entE; split <;> simp
     omega
  have := h2 (rs.map (·.1)) hs
  simp at h1 this
  omega
 have hkey : ∀ x ∈ es.toList,WideElems.rd Tryz.prog 9 trivR x = some (.string (keyB2 x.key), .nil) := fun x hx => by
  obtain ⟨p,hp',hk⟩ := hent x hx
  have := WideMaps.keyOf_string_mk (P := Tryz.prog) Tryz.underlying9 (hky p hp')
  unfold WideElems.rd
  rw [hk]
  simp [this,trivR,keyB2,strL]
 have F : WideElems.Fit Tryz.prog 9 trivR es c := ⟨Nat.le_trans hsz hl,hst,fun x hx => ⟨_,hkey x hx⟩⟩
 have hmap : es.toList.map (WideElems.rg Tryz.prog 9 trivR) = es.toList.map fun x => (Lit.string (keyB2 x.key),DataW.nil) := List.map_congr_left fun x hx => WideElems.rg_of (hkey x hx)
 have hperm : (strKeys (.map ((es.toList.map (WideElems.rg Tryz.prog 9 trivR)).foldr DataW.insert []) : DataW Unit)).Perm (es.toList.map fun x => keyB2 x.key) := by
  show (((es.toList.map (WideElems.rg Tryz.prog 9 trivR)).foldr DataW.insert []).map fun p => strOf p.1).Perm _
  refine ((WideShapes.sorted_perm _).map _).trans (.of_eq ?_)
  rw [hmap,List.map_map]
  rfl
 have hinj : ∀ a b : ByteArray,strL a = strL b → a = b := fun a b h => by
  have : a.data = b.data := Array.toList_inj.1 h
  cases a; cases b; simp at this; rw [this]
 refine ⟨b,hs,_,e,⟨es,c,hh,F,hsz,rfl⟩,?_,by rw [hperm.length_eq]; simpa using hsz,hperm.nodup_iff.2 ?_,fun x hx => ?_,fun p hp' hpos => ?_⟩
 · show ((es.toList.map (WideElems.rg Tryz.prog 9 trivR)).foldr DataW.insert []).length ≤ _
   rw [(WideShapes.sorted_perm _).length_eq]; simpa using hsz
 · refine List.pairwise_map.2 (((MapKept.stamped_iff es c).1 hst).2.2.imp_of_mem fun {x y} hx hy hne he => hne ?_)
   obtain ⟨p,_,h1⟩ := hent x hx
   obtain ⟨q,_,h2⟩ := hent y hy
   rw [h1,h2] at he ⊢
   exact congrArg Value.string (hinj _ _ he)
 · obtain ⟨y,hy,rfl⟩ := List.mem_map.1 (hperm.mem_iff.1 hx)
   obtain ⟨p,hp',hk⟩ := hent y hy
   exact ⟨p,hp',by rw [hk]; rfl⟩
 · obtain ⟨j,hj⟩ := List.getElem?_of_mem hp'
   obtain ⟨v,hv,hpos'⟩ : ∃ v,hs[j]? = some v ∧ ∀ a b,v ≠ .slice none a b := by
    have key : ∀ (rs : List (ByteArray × RW)) (hs : List Value) (j : Nat),HidOk X rs hs → rs[j]? = some p → ∃ v,hs[j]? = some v ∧ ∀ a b,v ≠ .slice none a b := by
     intro rs
     induction rs with
     | nil => intro hs j _ h; simp at h
     | cons q rs ih =>
      rintro hs j ⟨v,q',e,hrow,hq⟩ h
      subst e
      cases j with
      | zero =>
       simp at h
       subst h
       refine ⟨v,rfl,fun a b hv => ?_⟩
       obtain ⟨us,hown,_⟩ := hrow
       rcases hown.2 with ⟨_,hz⟩ | ⟨g,cap,cur,hv',_⟩
       · omega
       · rw [hv'] at hv; cases hv
      | succ j => exact ih q' j hq (by simpa using h)
    exact key _ _ _ hr hj
   have hin := in_mpEs (ks := rs.map (·.1)) (k := p.1) (i := j) (by rw [List.getElem?_map,hj]; rfl) hv hpos'
   obtain ⟨x,hx,hxe⟩ := List.mem_map.1 (hp.mem_iff.2 hin)
   refine hperm.mem_iff.2 (List.mem_map.2 ⟨x,hx,?_⟩)
   rw [show x.key = .string p.1 from congrArg Prod.fst hxe]
   rfl
end Go.Proofs.YtkkpfjifkjbndaaGreat

/-
 slices.Sorted of a map's keys,as a call of the machine.
-/
namespace Go.Proofs.YtkkpfjifkjbndaaGreat
open Go.RowKit Go.Maps Go.Sort Go.Shelf
theorem row_own {X : CX} {base : Nat} {v : Value} {l : List (List UInt8)} (h : X.w.ownsRow base 9 1 v l.length (l.map encStr)) : RowOk X v 9 1 l.length true (strF l) := by
 refine ⟨l.map encStr,⟨h.1,h.2.imp id fun ⟨g,cap,cur,h1,_,h2⟩ => ⟨g,cap,cur,h1,Nat.zero_le _,h2⟩⟩,by omega,fun _ _ => rfl,fun _ x hx => ?_,str_pc l⟩
 rw [flat_str] at hx
 obtain ⟨y,_,rfl⟩ := List.mem_map.1 hx
 exact ⟨_,rfl⟩
theorem Rel.strRow {g : Base} {N : Nat} {bs : List (Array Value)} {ρ : Nat → Value} {a : Act} {w w' : World} {st : AS} (R : Rel g N bs ρ a w st) (d : Nat) {v : Value} {l : List (List UInt8)} (h : w'.ownsRow w.heap.size 9 1 v l.length (l.map encStr)) (hb : Below w.heap.size w w') :
  Rel g N bs (reρ ρ d v) a w' (st.obj d d (.row 9 1 l.length true (strF l))) ∧ hdV v = v := by
 have hv : ∀ X : CX,X.w = w' → RowOk X v 9 1 l.length true (strF l) := fun X hX => row_own (base := w.heap.size) (by rw [hX]; exact h)
 have hh : hdV v = v := by
  obtain ⟨us,ho,_⟩ := hv ⟨w',fun _ => False,fun _ => undef⟩ rfl
  exact hdV_own ho
 refine ⟨R.obj d d (R.below.then hb R.below.size) hb.size (fun b hlt _ => hb.block b hlt) (fun b hbl => ?_) (fun _ => ?_) ?_,hh⟩
 · rcases h.2 with ⟨rfl,_⟩ | ⟨g,cap,cur,rfl,hge,_⟩
   · simp [blks,blk1] at hbl
   · simp [blks,blk1] at hbl
     subst hbl
     exact .inl hge
 · show RowOk _ (reρ ρ d v d) _ _ _ _ _
   rw [show reρ ρ d v d = v by simp [reρ]]
   exact hv _ rfl
 · rcases h.2 with ⟨rfl,_⟩ | ⟨g,cap,cur,rfl,hge,_⟩ <;> simp [blks,blk1]
theorem seq_args {X : CX} {h : List (Nat × AO)} {ib b : Nat} {t : TypeId} {cs : List AV} {args : List Value} {f : FuncId} (_ho : ∀ p ∈ h,ObjOk X p.1 p.2) (_hb : findObj ib h = some (.box t cs)) (e : X.ρ ib = .pointer (some ⟨b,0,none⟩)) (hargs : All2 (C2 X) [.fn f [.box ib 0]] args) : args = [.func (.func f) #[] #[.pointer (some ⟨b,0,none⟩)]] := by
 cases args with
 | nil => have := hargs.1; simp at this
 | cons a0 tl =>
  cases tl with
  | cons => have := hargs.1; simp at this
  | nil =>
   obtain ⟨cs,h0,hcs⟩ : ∃ us : List Value,a0 = .func (.func f) #[] us.toArray ∧ All2 (C0 X) [.box ib 0] us := hargs.2 0 _ _ rfl rfl
   subst h0
   cases cs with
   | nil => have := hcs.1; simp at this
   | cons p tl =>
    cases tl with
    | cons => have := hcs.1; simp at this
    | nil =>
     obtain ⟨b0,h1,h2⟩ : ∃ b0,hdV (X.ρ ib) = .pointer (some ⟨b0,0,none⟩) ∧ p = .pointer (some ⟨b0,0,none⟩) := hcs.2 0 _ _ rfl rfl
     rw [e] at h1
     cases h1
     subst h2
     rfl
theorem ACall.sorted {L : Lay} {W : Walk} {d : Nat} {st : AS} {K : AV → AS → Prop} (j ib id : Nat) {t mt : TypeId} {rs : List (ByteArray × RW)} (hb : findObj ib st.heap = some (.box t [.own id])) (hf : findObj id st.heap = some (.mp mt [] rs)) (hky : ∀ p ∈ rs,p.1.size ≤ 9223372036854775807) (hl : rs.length ≤ 1000000000)
  (hK : ∀ ss,KeysOf2 rs ss → K (.own j) (st.obj j j (.row 9 1 ss.length true (strF ss)))) :
  ACall Tryz.prog L W d 35 [.fn 65 [.box ib 0]] st K := by
 refine .sem ⟨_,_,Tryz.func35,rfl,rfl⟩ fun g N bs ρ a w args R hargs => ?_
 obtain ⟨b,us,e,hh,hc⟩ := R.objs _ (findObj_mem hb)
 obtain ⟨bm,hs,D0,em,hown,hsz,hlk,hnd,hmem,hall⟩ := mp_own (R.objs _ (findObj_mem hf)) hky (by omega)
 have e : ρ ib = _ := e
 have em : ρ id = _ := em
 have hh : w.heap[b]? = _ := hh
 have hown : w.ownsMap _ _ _ _ _ _ := hown
 obtain ⟨u,hu,hxu⟩ := hc.get (i := 0) rfl
 have hxu : u = hdV (ρ id) := hxu
 rw [em] at hxu
 have hxu : u = .map (some bm) := hxu
 subst hxu
 have hcell : w.cell? ⟨b,0,none⟩ = some (.map (some bm)) := (cell_get (i := 0) hh).1.trans hu
 have hlt : b < w.heap.size := by
  rcases Nat.lt_or_ge b w.heap.size with h' | h'
  · exact h'
  · rw [Array.getElem?_eq_none h'] at hh; cases hh
 obtain rfl := seq_args R.objs hb e hargs
 have hseq : SeqGives Fence.wide 2 Tryz.prog 65 #[.pointer (some ⟨b,0,none⟩)] encStr (fun ss => ss.Perm (strKeys D0)) (Maps.size D0) w :=
  AnyZ.keys_gives (ρ := Tryz.keys36_ren) { Tryz.keys36 with } Fence.wide _ trivial rfl (by omega) b bm rs.length D0 w hlt hcell hown
 have hso := AnyZ.sorted_in Tryz.sorted35 Fence.wide 5 trivial trivial trivial trivial rfl (by omega) (Tryz.sorts35 _) (enters_of Tryz.func64 (by kernel_rfl) rfl) 65 #[.pointer (some ⟨b,0,none⟩)] trivial (enters_of Tryz.func65 (by kernel_rfl) rfl) _ _ (Nat.le_trans hsz (by unfold maxLen; omega)) (by omega) w hseq
 refine (callsIn_wide.1 hso).mono ?_
 rintro e0 w' ⟨v,ss,rfl,hS,hrow,_,hbel⟩
 have hlen : (ss.mergeSort fun x y => decide (x ≤ y)).length = ss.length := List.length_mergeSort ..
 rw [← hlen] at hrow
 obtain ⟨R',hv⟩ := R.strRow j hrow hbel
 have hp : (ss.mergeSort fun x y => decide (x ≤ y)).Perm (strKeys D0) := (List.mergeSort_perm _ _).trans hS
 refine ⟨v,_,_,_,rfl,hK _ ⟨sort_up (hS.nodup_iff.2 hnd),fun x hx => hmem x (hp.mem_iff.1 hx),fun p hp' hpos => hp.mem_iff.2 (hall p hp' hpos),by rw [hp.length_eq]; exact hlk⟩,R',?_⟩
 show v = hdV (reρ ρ j v j)
 rw [show reρ ρ j v j = v by simp [reρ],hv]
theorem ACall.sorted0 {L : Lay} {W : Walk} {d : Nat} {st : AS} {K : AV → AS → Prop} (j ib : Nat) {t : TypeId} (hb : findObj ib st.heap = some (.box t [.v (.map none)]))
  (hK : K (.own j) (st.obj j j (.row 9 1 0 true (strF [])))) :
  ACall Tryz.prog L W d 35 [.fn 65 [.box ib 0]] st K := by
 refine .sem ⟨_,_,Tryz.func35,rfl,rfl⟩ fun g N bs ρ a w args R hargs => ?_
 obtain ⟨b,us,e,hh,hc⟩ := R.objs _ (findObj_mem hb)
 have e : ρ ib = _ := e
 have hh : w.heap[b]? = _ := hh
 obtain ⟨u,hu,hxu⟩ := hc.get (i := 0) rfl
 have hxu : u = .map none := hxu
 subst hxu
 have hcell : w.cell? ⟨b,0,none⟩ = some (.map none) := (cell_get (i := 0) hh).1.trans hu
 have hlt : b < w.heap.size := by
  rcases Nat.lt_or_ge b w.heap.size with h' | h'
  · exact h'
  · rw [Array.getElem?_eq_none h'] at hh; cases hh
 obtain rfl := seq_args R.objs hb e hargs
 have hseq : SeqGives Fence.wide 2 Tryz.prog 65 #[.pointer (some ⟨b,0,none⟩)] encStr (fun ss : List (List UInt8) => ss = []) 0 w :=
  AnyZ.keys_gives_nil (ρ := Tryz.keys36_ren) { Tryz.keys36 with } Fence.wide _ trivial rfl b w hlt hcell
 have hso := AnyZ.sorted_in Tryz.sorted35 Fence.wide 5 trivial trivial trivial trivial rfl (by omega) (Tryz.sorts35 _) (enters_of Tryz.func64 (by kernel_rfl) rfl) 65 #[.pointer (some ⟨b,0,none⟩)] trivial (enters_of Tryz.func65 (by kernel_rfl) rfl) _ 0 (Nat.zero_le _) (by omega) w hseq
 refine (callsIn_wide.1 hso).mono ?_
 rintro e0 w' ⟨v,ss,rfl,rfl,hrow,_,hbel⟩
 rw [List.mergeSort_nil] at hrow
 have hrow : w'.ownsRow w.heap.size 9 1 v ([] : List (List UInt8)).length (([] : List (List UInt8)).map encStr) := hrow
 obtain ⟨R',hv⟩ := R.strRow (l := []) j hrow hbel
 refine ⟨v,_,_,_,rfl,hK,R',?_⟩
 show v = hdV (reρ ρ j v j)
 rw [show reρ ρ j v j = v by simp [reρ],hv]
end Go.Proofs.YtkkpfjifkjbndaaGreat

/-
 live.State's List and Get,of a book told as a whole.
-/
namespace Go.Proofs.YtkkpfjifkjbndaaGreat
open Go.RowKit
theorem of_nil0 : ofB [] = [] := by
 rw [of_same (l := []) (key := ⟨#[]⟩) (fun x hx => by cases hx)]
 rfl
def lOf (K : ByteArray → List Ev) (ss : List Str) : List Cont := ss.flatMap fun k => ofB (K (keyS k))
theorem lOf_snoc {K : ByteArray → List Ev} {ss : List Str} {i : Nat} (h : i < ss.length) : lOf K (ss.take (i + 1)) = lOf K (ss.take i) ++ ofB (K (keyS (ss.getD i []))) := by
 unfold lOf
 rw [List.take_add_one,List.flatMap_append,List.getD,List.getElem?_eq_getElem h]
 simp
theorem lOf_le {K : ByteArray → List Ev} {ss : List Str} (i : Nat) : (lOf K (ss.take i)).length ≤ (lOf K ss).length := by
 have : lOf K ss = lOf K (ss.take i) ++ lOf K (ss.drop i) := by
  unfold lOf
  rw [← List.flatMap_append,List.take_append_drop]
 rw [this,List.length_append]
 omega
inductive LstX (K : ByteArray → List Ev) (m : Nat) (ss : List Str) (kv0 : List (ByteArray × List Ev)) : Type where
  | key (i : Nat) (k : ByteArray) (kv : List (ByteArray × List Ev)) (hi : i < ss.length) (hk : k = keyS (ss.getD i [])) (h : FOK K m k (ss.map keyS) kv) (hp : kv0.Perm ((k,K k) :: kv))
  | done
def LstX.n {K : ByteArray → List Ev} {m : Nat} {ss : List Str} {kv0 : List (ByteArray × List Ev)} : LstX K m ss kv0 → Nat
  | .key i .. => ss.length - i
  | .done => 0
def lstL (ss : List Str) (i : Nat) : List (Nat × AV) := [(0, .box 0 0),(3, .own 90),(11, .own 11),(12, .v (.int .i64 (ss.length : Int))),(13, .v (.int .i64 (i : Int)))]
def lstH (K : ByteArray → List Ev) (ss : List Str) (i : Nat) : List (Nat × AO) := [(90, .row 45 7 (lOf K (ss.take i)).length false (coF (lOf K (ss.take i)))),(11, .row 9 1 ss.length true (strF ss))]
def lstS (K : ByteArray → List Ev) (n : Int) (m : Nat) (ss : List Str) (kv0 : List (ByteArray × List Ev)) : LstX K m ss kv0 → AS
  | .key i k kv _ _ _ _ => ⟨lstL ss i,(0,stB 1 (.own 1) n) :: (1, .mp mapT [(k,some 2)] (hidE kv)) :: (2,evR (K k)) :: lstH K ss i,[[(0, .box 0 0),(1, .own 1)]],91⟩
  | .done => ⟨lstL ss ss.length,(0,stB 1 (.own 1) n) :: (1, .mp mapT [] (hidE kv0)) :: lstH K ss ss.length,[[(0, .box 0 0),(1, .own 1)]],91⟩
theorem kv_has {K : ByteArray → List Ev} {m : Nat} {kv : List (ByteArray × List Ev)} (h : KV K m kv) {q : ByteArray} (hq : K q ≠ []) : ∃ p ∈ hidE kv,p.1 = q ∧ 0 < p.2.n := by
 by_cases hm : q ∈ kv.map (·.1)
 · obtain ⟨pre,l,post,rfl,hn⟩ := kvGet_mem hm
   have : K q = l := by rw [h.eq,kvGet_app hn]; simp [kvGet]
   refine ⟨(q,rwE l),by simp [hidE],rfl,?_⟩
   rw [this] at hq
   exact List.length_pos_iff.2 hq
 · exact absurd (by rw [h.eq,kvGet_none hm]) hq
set_option maxHeartbeats 8000000 in
set_option maxRecDepth 100000 in
theorem list_m (K : ByteArray → List Ev) (n : Int) (m : Nat) (O : List Cont) (hK : ∀ k,(K k).length ≤ 1000000000) (hm : m ≤ 1000000000) (hOl : O.length ≤ 1000000000)
  (hO : ∀ ss : List Str,ss.Pairwise (· < ·) → (∀ k,K (keyS k) ≠ [] → k ∈ ss) → lOf K ss = O) :
  MSpec Tryz.prog 15 [(0, .obs (liveO K n m))] [.box 0 0] (.own 3) [(0, .obs (liveO K n m)),(3, .row 45 7 O.length false (coF O))] := by
 refine MSpec.opn (ho := [(3, .row 45 7 O.length false (coF O))]) ⟨_,_,Tryz.func15,rfl,rfl⟩ (Opens.pack (liveHs K n m)) (fun y => ⟨_,liveHs_closes K n m y,?_⟩) rfl
 cases y with
 | new h =>
  refine ⟨rfl,rfl,?_⟩
  have hO0 : O = [] := (hO [] List.Pairwise.nil fun k hk => absurd (h _) hk).symm
  subst hO0
  simp only [liveHs,List.cons_append,List.nil_append] 
  dsimp only [stB]
  refine mspec_of lay_ok 30765 10 Tryz.func15 rfl rfl rfl ?_
  repeat' ((conv => whnf); first | refine Spl.yes (by first | assumption | omega) ?_ | refine Spl.no (by first | assumption | omega) ?_ | refine Wr.i64 (by omega) (by omega) ?_ | refine Still.mk rfl rfl ?_ | refine InB.mk (inB_mk (by omega) (by omega)) ?_ | refine Req.mk (by omega) ?_ | refine Req.mk ⟨by first | omega | (dsimp only; omega),by first | omega | (dsimp only; omega)⟩ ?_ | refine ACall.into 7 _ _ Tryz.func36 rfl rfl rfl ?_ | refine ACall.sorted0 11 10 rfl ?_ | refine Spl.mk (fun _ => ?_) (fun _ => ?_) | refine InA.mk (inB_mk (by omega) (by omega)) ?_ | refine Wr.b64 ?_ | refine Wr.bu64 ?_ | refine Wr.bu32 ?_ | refine Wr.bu8 ?_ | refine Wr.u8 (by omega) (by omega) ?_ | refine Wr.u64 (by omega) (by omega) ?_ | refine Wr.u32 (by omega) (by omega) ?_ | refine Dv.pos (by omega) (by omega) ?_ | refine Rm.pos (by omega) (by omega) ?_ | refine ADraw.quiet follows_ok (by kernel_rfl) rfl ?_ | refine BSpl.decY (by first | assumption | omega) ?_ | refine BSpl.decN (by first | assumption | omega) ?_ | refine BSpl.dec (fun _ => ?_) (fun _ => ?_) | refine BSpl.yes (by assumption) ?_ | refine BSpl.no (by assumption) ?_ | refine BSpl.mk (fun _ => ?_) (fun _ => ?_))
  conv => whnf
  refine ALoop.nil 3 90 45 7 (coF []) rfl (by omega) ?_
  conv => whnf
  refine ALoop.rounds 1 ?_
  repeat' ((conv => whnf); first | refine Spl.yes (by first | assumption | omega) ?_ | refine Spl.no (by first | assumption | omega) ?_ | refine Wr.i64 (by omega) (by omega) ?_ | refine Still.mk rfl rfl ?_ | refine InB.mk (inB_mk (by omega) (by omega)) ?_ | refine Req.mk (by omega) ?_ | refine Req.mk ⟨by first | omega | (dsimp only; omega),by first | omega | (dsimp only; omega)⟩ ?_ | refine Spl.mk (fun _ => ?_) (fun _ => ?_) | refine InA.mk (inB_mk (by omega) (by omega)) ?_ | refine Wr.b64 ?_ | refine Wr.bu64 ?_ | refine Wr.bu32 ?_ | refine Wr.bu8 ?_ | refine Wr.u8 (by omega) (by omega) ?_ | refine Wr.u64 (by omega) (by omega) ?_ | refine Wr.u32 (by omega) (by omega) ?_ | refine Dv.pos (by omega) (by omega) ?_ | refine Rm.pos (by omega) (by omega) ?_ | refine ADraw.quiet follows_ok (by kernel_rfl) rfl ?_ | refine BSpl.decY (by first | assumption | omega) ?_ | refine BSpl.decN (by first | assumption | omega) ?_ | refine BSpl.dec (fun _ => ?_) (fun _ => ?_) | refine BSpl.yes (by assumption) ?_ | refine BSpl.no (by assumption) ?_ | refine BSpl.mk (fun _ => ?_) (fun _ => ?_))
  conv => whnf
  exact ⟨[(90,3)],rfl,rfl,⟨⟨_,rfl,OEq.refl _⟩,⟨_,rfl,OEq.rowF rfl (fun i hi => absurd hi (Nat.not_lt_zero i))⟩,trivial⟩,rfl,rfl,AEq.refl _⟩
 | old kv h =>
  refine ⟨rfl,rfl,?_⟩
  have hky : ∀ p ∈ hidE kv,p.1.size ≤ 9223372036854775807 := fun p hp => by
   obtain ⟨q,hq,rfl⟩ := List.mem_map.1 hp
   exact h.ky q hq
  have hln : (hidE kv).length ≤ 1000000000 := by
   unfold hidE
   rw [List.length_map]
   exact Nat.le_trans h.ln hm
  simp only [liveHs,List.cons_append,List.nil_append] 
  dsimp only [stB]
  refine mspec_of lay_ok 30765 10 Tryz.func15 rfl rfl rfl ?_
  repeat' ((conv => whnf); first | refine Spl.yes (by first | assumption | omega) ?_ | refine Spl.no (by first | assumption | omega) ?_ | refine Wr.i64 (by omega) (by omega) ?_ | refine Still.mk rfl rfl ?_ | refine InB.mk (inB_mk (by omega) (by omega)) ?_ | refine Req.mk (by omega) ?_ | refine Req.mk ⟨by first | omega | (dsimp only; omega),by first | omega | (dsimp only; omega)⟩ ?_ | refine ACall.into 7 _ _ Tryz.func36 rfl rfl rfl ?_ | refine ACall.sorted 11 10 1 rfl rfl hky hln (fun ss hss => ?_) | refine Spl.mk (fun _ => ?_) (fun _ => ?_) | refine InA.mk (inB_mk (by omega) (by omega)) ?_ | refine Wr.b64 ?_ | refine Wr.bu64 ?_ | refine Wr.bu32 ?_ | refine Wr.bu8 ?_ | refine Wr.u8 (by omega) (by omega) ?_ | refine Wr.u64 (by omega) (by omega) ?_ | refine Wr.u32 (by omega) (by omega) ?_ | refine Dv.pos (by omega) (by omega) ?_ | refine Rm.pos (by omega) (by omega) ?_ | refine ADraw.quiet follows_ok (by kernel_rfl) rfl ?_ | refine BSpl.decY (by first | assumption | omega) ?_ | refine BSpl.decN (by first | assumption | omega) ?_ | refine BSpl.dec (fun _ => ?_) (fun _ => ?_) | refine BSpl.yes (by assumption) ?_ | refine BSpl.no (by assumption) ?_ | refine BSpl.mk (fun _ => ?_) (fun _ => ?_))
  have hks : ∀ x ∈ ss.map keyS,x ∈ kv.map (·.1) := fun x hx => by
   obtain ⟨k,hk,rfl⟩ := List.mem_map.1 hx
   obtain ⟨p,hp,e⟩ := hss.mem k hk
   rw [← hidE_keys]
   exact List.mem_map.2 ⟨p,hp,by rw [← e]; exact strL_inj rfl⟩
  have hO' : lOf K ss = O := hO ss hss.up fun k hk => by
   obtain ⟨p,hp,e,hpos⟩ := kv_has h hk
   have := hss.all p hp hpos
   rwa [e,strL_keyS] at this
  have hsl : ss.length ≤ 1000000000 := Nat.le_trans hss.len hln
  have hle := fun i => lOf_le (K := K) (ss := ss) i
  rw [hO'] at hle
  conv => whnf
  refine ALoop.nil 3 90 45 7 (coF []) rfl (by omega) ?_
  conv => whnf
  refine ALoop.imp ⟨lstL ss 0,(0,stB 1 (.own 1) n) :: (1, .mp mapT [] (hidE kv)) :: lstH K ss 0,[[(0, .box 0 0),(1, .own 1)]],91⟩
   (Imp.leR (σ := []) ?_) ?_
  · dsimp only [lstL,lstH]
    exact LeR.mk' [] _ _ _ rfl ⟨AEq.refl _,AEq.refl _,AEq.refl _,AEq.int rfl,AEq.int rfl,trivial⟩ ⟨⟨_,rfl,OEq.refl _⟩,⟨_,rfl,OEq.refl _⟩,⟨_,rfl,OEq.rowF rfl (fun i hi => absurd hi (Nat.not_lt_zero i))⟩,⟨_,rfl,OEq.refl _⟩,trivial⟩ rfl
  have hst : ∃ x0 : LstX K m ss kv,Imp ⟨lstL ss 0,(0,stB 1 (.own 1) n) :: (1, .mp mapT [] (hidE kv)) :: lstH K ss 0,[[(0, .box 0 0),(1, .own 1)]],91⟩ (lstS K n m ss kv x0) := by
   by_cases hz : 0 < ss.length
   · obtain ⟨kv',hf,hpp,hI⟩ := imp_first (sl := lstL ss 0) (back := [[(0, .box 0 0),(1, .own 1)]]) (b := 91) (n := n) (H := lstH K ss 0) h hks (k' := keyS (ss.getD 0 [])) (List.mem_map.2 ⟨_,by rw [List.getD,List.getElem?_eq_getElem hz]; exact List.getElem_mem hz,rfl⟩) rfl rfl rfl
     exact ⟨.key 0 _ kv' hz rfl hf hpp,hI⟩
   · have hn : ss = [] := List.eq_nil_of_length_eq_zero (by omega)
     subst hn
     exact ⟨.done,Imp.refl _⟩
  obtain ⟨x0,hI0⟩ := hst
  refine ALoop.mkI (LstX K m ss kv) (lstS K n m ss kv) LstX.n x0 hI0 ?_
  clear x0 hI0
  intro x
  cases x with
  | done =>
   dsimp only [lstS,lstL,lstH]
   rw [List.take_of_length_le (Nat.le_refl _),hO']
   repeat' ((conv => whnf); first | refine Spl.yes (by first | assumption | omega) ?_ | refine Spl.no (by first | assumption | omega) ?_ | refine Wr.i64 (by omega) (by omega) ?_ | refine Still.mk rfl rfl ?_ | refine InB.mk (inB_mk (by omega) (by omega)) ?_ | refine Req.mk (by omega) ?_ | refine Req.mk ⟨by first | omega | (dsimp only; omega),by first | omega | (dsimp only; omega)⟩ ?_ | refine Spl.mk (fun _ => ?_) (fun _ => ?_) | refine InA.mk (inB_mk (by omega) (by omega)) ?_ | refine Wr.b64 ?_ | refine Wr.bu64 ?_ | refine Wr.bu32 ?_ | refine Wr.bu8 ?_ | refine Wr.u8 (by omega) (by omega) ?_ | refine Wr.u64 (by omega) (by omega) ?_ | refine Wr.u32 (by omega) (by omega) ?_ | refine Dv.pos (by omega) (by omega) ?_ | refine Rm.pos (by omega) (by omega) ?_ | refine ADraw.quiet follows_ok (by kernel_rfl) rfl ?_ | refine BSpl.decY (by first | assumption | omega) ?_ | refine BSpl.decN (by first | assumption | omega) ?_ | refine BSpl.dec (fun _ => ?_) (fun _ => ?_) | refine BSpl.yes (by assumption) ?_ | refine BSpl.no (by assumption) ?_ | refine BSpl.mk (fun _ => ?_) (fun _ => ?_))
   conv => whnf
   exact ⟨[(1,1),(90,3)],rfl,rfl,⟨⟨_,rfl,OEq.refl _⟩,⟨_,rfl,OEq.refl _⟩,⟨_,rfl,OEq.refl _⟩,trivial⟩,rfl,rfl,AEq.refl _⟩
  | key i k kv' hi hk hf hp =>
   have hof := of_m (K k) (hK k)
   have hsn := lOf_snoc (K := K) hi
   rw [← hk] at hsn
   have hb : (lOf K (ss.take i)).length + (ofB (K k)).length ≤ 1000000000 := by
    have := hle (i + 1)
    rw [hsn,List.length_append] at this
    omega
   have hJ : ∃ y : LstX K m ss kv,Imp ⟨lstL ss (i + 1),(0,stB 1 (.own 1) n) :: (1, .mp mapT [(k,some 2)] (hidE kv')) :: (2,evR (K k)) :: lstH K ss (i + 1),[[(0, .box 0 0),(1, .own 1)]],91⟩ (lstS K n m ss kv y) ∧ y.n < ss.length - i := by
    by_cases hl : i + 1 < ss.length
    · obtain ⟨kv2,hf2,hpp,hI⟩ := imp_next (sl := lstL ss (i + 1)) (back := [[(0, .box 0 0),(1, .own 1)]]) (b := 91) (n := n) (H := lstH K ss (i + 1)) hf (k' := keyS (ss.getD (i + 1) [])) (List.mem_map.2 ⟨_,by rw [List.getD,List.getElem?_eq_getElem hl]; exact List.getElem_mem hl,rfl⟩) rfl rfl rfl
      exact ⟨.key (i + 1) _ kv2 hl rfl hf2 (hp.trans hpp),hI,by show ss.length - (i + 1) < _; omega⟩
    · have e : ss.length = i + 1 := by omega
      refine ⟨.done,?_,by show 0 < _; omega⟩
      show Imp _ ⟨lstL ss ss.length,(0,stB 1 (.own 1) n) :: (1, .mp mapT [] (hidE kv)) :: lstH K ss ss.length,[[(0, .box 0 0),(1, .own 1)]],91⟩
      rw [e]
      exact (imp_close rfl rfl rfl).trans (imp_perm hp.symm rfl rfl rfl)
   obtain ⟨y,hI,hy⟩ := hJ
   dsimp only [lstS,lstL,lstH,stB,evR]
   repeat' ((conv => whnf); first | refine Spl.yes (by first | assumption | omega) ?_ | refine Spl.no (by first | assumption | omega) ?_ | refine Wr.i64 (by omega) (by omega) ?_ | refine Still.mk rfl rfl ?_ | refine InB.mk (inB_mk (by omega) (by omega)) ?_ | refine Req.mk (by omega) ?_ | refine Req.mk ⟨by first | omega | (dsimp only; omega),by first | omega | (dsimp only; omega)⟩ ?_ | refine ACall.chgR 1 [(0,_)] (hof) rfl ⟨rfl,trivial⟩ rfl rfl ?_ | refine ZN.mk zn_ev ?_ | refine MpAt.mk 0 2 _ rfl (by rw [hk]; rfl) ?_ | refine Spl.mk (fun _ => ?_) (fun _ => ?_) | refine InA.mk (inB_mk (by omega) (by omega)) ?_ | refine Wr.b64 ?_ | refine Wr.bu64 ?_ | refine Wr.bu32 ?_ | refine Wr.bu8 ?_ | refine Wr.u8 (by omega) (by omega) ?_ | refine Wr.u64 (by omega) (by omega) ?_ | refine Wr.u32 (by omega) (by omega) ?_ | refine Dv.pos (by omega) (by omega) ?_ | refine Rm.pos (by omega) (by omega) ?_ | refine ADraw.quiet follows_ok (by kernel_rfl) rfl ?_ | refine BSpl.decY (by first | assumption | omega) ?_ | refine BSpl.decN (by first | assumption | omega) ?_ | refine BSpl.dec (fun _ => ?_) (fun _ => ?_) | refine BSpl.yes (by assumption) ?_ | refine BSpl.no (by assumption) ?_ | refine BSpl.mk (fun _ => ?_) (fun _ => ?_))
   rotate_left
   · exact absurd (show Nat.ble _ _ = false by assumption) (by rw [Bool.not_eq_false,Nat.ble_eq]; omega)
   conv => whnf
   refine ⟨y,Imp.trans (Imp.leR (σ := [(92,90)]) ?_) hI,hy⟩
   dsimp only [lstL,lstH]
   refine LeR.mk' [(92,90)] _ _ _ rfl ⟨AEq.refl _,AEq.refl _,AEq.refl _,AEq.refl _,AEq.int rfl,trivial⟩ ⟨⟨_,rfl,OEq.refl _⟩,⟨_,rfl,OEq.refl _⟩,⟨_,rfl,OEq.refl _⟩,⟨_,rfl,OEq.row ?_ (fun m hm => ?_)⟩,⟨_,rfl,OEq.refl _⟩,trivial⟩ rfl
   · show _ = (lOf K (ss.take (i + 1))).length
     rw [hsn,List.length_append]
   · show _ = coF (lOf K (ss.take (i + 1))) m
     rw [hsn]
     exact els_app (c := Cont.cs) rfl m
end Go.Proofs.YtkkpfjifkjbndaaGreat

/-
 A book that is kept,step by step,in plain words: what is kept of each key,and how much.
-/
namespace Go.Proofs.YtkkpfjifkjbndaaGreat
open Go.RowKit
theorem upd_kept {P : List Ev} {e : Ev} (t : Nxt (onP (eqK e.key) P) e) : updK (keptK P) e = keptK (P ++ [e]) := by
 funext q
 by_cases h : q = e.key
 · subst h
   rw [updK_key,keptK_same t]
 · rw [updK_ne h,keptK_other h]
theorem sum_upd {f g : Str → Nat} {k0 : Str} : ∀ {ks : List Str},ks.Nodup → k0 ∈ ks → (∀ k,k ≠ k0 → g k = f k) → (ks.map g).sum + f k0 = (ks.map f).sum + g k0
  | [],_,h,_ => by cases h
  | k :: ks,hn,hk,h => by
   obtain ⟨h1,h2⟩ := List.nodup_cons.1 hn
   simp only [List.map_cons,List.sum_cons]
   by_cases e : k = k0
   · subst e
     have : ks.map g = ks.map f := List.map_congr_left fun x hx => h x fun e => h1 (e ▸ hx)
     rw [this]
     omega
   · have := sum_upd h2 ((List.mem_cons.1 hk).resolve_left fun h => e h.symm) h
     have := h k e
     omega
theorem size_step {P : List Ev} {e : Ev} (t : Nxt (onP (eqK e.key) P) e) : sizeK (keptK P) (sizeB P) e = sizeB (P ++ [e]) := by
 have hu := uniq_props ((P ++ [e]).map fun x : Ev => strL x.key)
 generalize uniq ((P ++ [e]).map fun x : Ev => strL x.key) = ks at hu
 have hn : ks.Nodup := hu.1.imp fun h => by rintro rfl; exact List.lt_irrefl _ h
 have hm : ∀ x ∈ P ++ [e],strL x.key ∈ ks := fun x hx => (hu.2 _).2 (List.mem_map.2 ⟨x,hx,rfl⟩)
 have h1 := size_keys _ P hn fun x hx => hm x (List.mem_append_left _ (List.mem_filter.1 hx).1)
 have h2 := size_keys _ (P ++ [e]) hn fun x hx => hm x (List.mem_filter.1 hx).1
 have h3 := sum_upd (f := fun k => (keptK P (keyS k)).length) (g := fun k => (keptK (P ++ [e]) (keyS k)).length) (k0 := strL e.key) hn (hm e (by simp)) fun k hk => by
  rw [keptK_other fun h => hk (by rw [← h]; rfl)]
 unfold sizeK
 have hk : keyS (strL e.key) = e.key := strL_inj rfl
 rw [hk,keptK_same t] at h3
 omega
theorem kept_le (P : List Ev) (key : ByteArray) : (keptK P key).length ≤ P.length :=
 Nat.le_trans (List.length_filter_le _ _) (List.length_filter_le _ _)
theorem list_any {P : List Ev} (hp : ∀ key,Pst (onP (eqK key) P) key) {ss : List Str} (hs : ss.Pairwise (· < ·)) (hm : ∀ k,keptK P (keyS k) ≠ [] → k ∈ ss) : lOf (keptK P) ss = ofB P := by
 have h := list_kept hp (ks := ss.filter fun k => decide (keptK P (keyS k) ≠ [])) (hs.filter _) fun k => by
  rw [List.mem_filter]
  simp only [decide_eq_true_eq]
  exact ⟨fun h => h.2,fun h => ⟨hm k h,h⟩⟩
 rw [← h]
 unfold lOf
 have key : ∀ l : List Str,l.flatMap (fun k => ofB (keptK P (keyS k))) = (l.filter fun k => decide (keptK P (keyS k) ≠ [])).flatMap fun k => ofB (keptK P (keyS k)) := by
  intro l
  induction l with
  | nil => rfl
  | cons k l ih =>
   rw [List.flatMap_cons,List.filter_cons,ih]
   by_cases hk : keptK P (keyS k) = []
   · rw [if_neg (by simpa using hk),hk,of_nil0]
     rfl
   · rw [if_pos (by simpa using hk),List.flatMap_cons]
 exact key ss
end Go.Proofs.YtkkpfjifkjbndaaGreat

/-
 What kithref08.Make makes may be.
-/
namespace Go.Proofs.YtkkpfjifkjbndaaGreat
theorem mk_key (n : Nat) : keyE (ks3 n) = 0 := by unfold ks3; split; decide; split <;> decide
theorem mk_val (n : Nat) : valueE (vs4 n) = 0 := by unfold vs4; split; decide; split; decide; split <;> decide
theorem mk_ed (e : Ed) : editE (fitEd e) = 0 := by
 have hm : 0 ≤ m5 e.k ∧ m5 e.k ≤ 4 := by unfold m5; omega
 have ha := andI_1 e.l
 unfold fitEd
 split
 · unfold editE
   simp only [mk_key,mk_val]
   rw [if_neg (by omega),if_neg (by simp),if_neg (by omega),if_neg (by unfold labelE; simp; omega)]
 · unfold editE
   simp only [mk_key]
   rw [if_neg (by omega),if_neg (by simp),if_pos (by omega)]
   rfl
theorem mkin_ok {c : Clk} {M : Int} (h : c.in M) (hM : M ≤ 1048576) : (okN c.c0 && okN c.c1 && okN c.c2 && okN c.c3 && okN c.c4) = true := by
 unfold Clk.in at h
 unfold okN withinB
 simp only [Bool.and_eq_true,decide_eq_true_eq]
 omega
theorem mkget_at (c : Clk) {r : Nat} (hr : r < 5) : c.get (r : Int) = c.at r := by
 rcases (show r = 0 ∨ r = 1 ∨ r = 2 ∨ r = 3 ∨ r = 4 by omega) with rfl | rfl | rfl | rfl | rfl <;> simp [Clk.get,Clk.at]
theorem mkin_at {c : Clk} {M : Int} (h : c.in M) (r : Nat) : 0 ≤ c.at r ∧ c.at r ≤ M := by
 unfold Clk.in at h
 unfold Clk.at
 split <;> omega
theorem mk_evt {s : Mk} {n : Nat} (h : MkB s n) (hn : n ≤ 1000) {r : Nat} (hr : r < 5) (x : Ed) : mayE (mkEvt s.1 s.2 r (fitEd x)) = 0 := by
 obtain ⟨h1,h2,h3⟩ := h
 have hi := mkin_at (h1 r) r
 have hh := hgt_bnd (c := s.2 r) (M := n) (by omega) h2
 have e1 : (withinB (r : Int) 0 4 && withinB ((s.2 r).at r + 1) 1 1048576 && withinB (hgt s.1 (s.2 r)) 1 16777216) = true := by
  unfold withinB
  simp only [Bool.and_eq_true,decide_eq_true_eq]
  omega
 have e2 := mkin_ok (h1 r) (by omega)
 unfold mayE mkEvt
 dsimp only
 rw [e1,e2,mkget_at _ hr]
 simp only [Bool.not_true,Bool.false_eq_true,if_false]
 rw [if_neg (by simp)]
 exact mk_ed x
theorem may_fold : ∀ (l : List Ch0) (s : Mk) (n : Nat),MkB s n → n + l.length ≤ 1000 → (∀ e ∈ s.1,mayE e = 0) → ∀ e ∈ (l.foldl mkStep s).1,mayE e = 0
  | [],_,_,_,_,h => h
  | c :: l,s,n,hb,hn,h => by
   rw [List.foldl_cons]
   rw [List.length_cons] at hn
   refine may_fold l (mkStep s c) (n + 1) (hb.step c) (by omega) fun e he => ?_
   unfold mkStep at he
   split at he
   · exact h e he
   · rcases List.mem_append.1 he with he | he
     · exact h e he
     · rw [List.mem_singleton.1 he]
       exact mk_evt hb (by omega) (by omega) _
theorem mk_may (l : List Ch0) (hl : l.length ≤ 1000) : ∀ e ∈ makeL l,mayE e = 0 :=
 may_fold l ([],fun _ => clk0) 0 ⟨fun q => by simp [Clk.in,clk0],fun e he => (by cases he),by simp⟩ (by omega) fun e he => by cases he
end Go.Proofs.YtkkpfjifkjbndaaGreat

/-
 live.State's methods,of the book of a past.
-/
namespace Go.Proofs.YtkkpfjifkjbndaaGreat
open Go.RowKit
theorem of_len (P : List Ev) : (ofB P).length ≤ P.length := by
 unfold ofB keysB
 rw [List.length_map]
 refine Nat.le_trans (compact_le _) ?_
 unfold sortL
 rw [List.length_mergeSort,List.length_map]
 exact List.length_filter_le ..
theorem size_len (P : List Ev) : sizeB P ≤ P.length := by
 rw [← size_kept]
 exact List.length_filter_le ..
def bookO (P : List Ev) (m : Nat) : OB := liveO (keptK P) (sizeB P : Int) m
theorem new_b : MSpec Tryz.prog 12 [] [] (.box 0 0) [(0, .obs (bookO [] 0))] := new_m
theorem apply_b {P : List Ev} {e : Ev} (t : Nxt (onP (eqK e.key) P) e) (hm : mayE e = 0) (hl : P.length ≤ 1000000) (m : Nat) :
  MSpec Tryz.prog 13 [(0, .obs (bookO P m))] [.box 0 0,e.av] (.v (.int .i64 0)) [(0, .obs (bookO (P ++ [e]) (m + 1)))] := by
 have h1 := kept_le P e.key
 have h2 := size_len P
 have := apply_m (keptK P) (sizeB P) m e hm (by omega) (by omega) (by omega)
 rw [upd_kept t,size_step t] at this
 exact this
theorem size_b (P : List Ev) (m : Nat) (hl : P.length ≤ 1000000) : MSpec Tryz.prog 16 [(0, .obs (bookO P m))] [.box 0 0] (.v (.int .i64 (sizeB P))) [(0, .obs (bookO P m))] := by
 have h2 := size_len P
 exact size_m _ _ _ (by omega) (by omega)
theorem list_b {P : List Ev} (hp : ∀ key,Pst (onP (eqK key) P) key) (m : Nat) (hl : P.length ≤ 1000000) (hm : m ≤ 1000000) :
  MSpec Tryz.prog 15 [(0, .obs (bookO P m))] [.box 0 0] (.own 3) [(0, .obs (bookO P m)),(3, .row 45 7 (ofB P).length false (coF (ofB P)))] := by
 have h1 := of_len P
 exact list_m (keptK P) (sizeB P) m (ofB P) (fun k => by have := kept_le P k; omega) (by omega) (by omega) fun ss hs h => list_any hp hs h
end Go.Proofs.YtkkpfjifkjbndaaGreat

/-
 The head of layer 10's statements: the document's example.
-/
namespace Go.Proofs.YtkkpfjifkjbndaaGreat
open Go.RowKit
theorem Pst.mk' {P : List Ev} (one : OneStamp P) (hi : ∀ a ∈ P,∀ b ∈ P,belowB a b = true → a.h < b.h) (tr : ∀ a ∈ P,∀ b ∈ P,∀ c ∈ P,belowB a b = true → belowB b c = true → belowB a c = true) (key : ByteArray) : Pst (onP (eqK key) P) key := by
 have hs : ∀ x ∈ onP (eqK key) P,x ∈ P := fun x hx => (List.mem_filter.1 hx).1
 exact ⟨on_key,fun a ha b hb => one a (hs a ha) b (hs b hb),fun a ha b hb => hi a (hs a ha) b (hs b hb),fun a ha b hb c hc => tr a (hs a ha) b (hs b hb) c (hs c hc)⟩
def ev1 : Ev := ⟨0,1,⟨0,0,0,0,0⟩,1,1,⟨#[99,121]⟩,0,⟨#[]⟩⟩
def ev2 : Ev := ⟨0,2,⟨1,0,0,0,0⟩,2,2,⟨#[99,121]⟩,0,⟨#[]⟩⟩
theorem nxt1 : Nxt (onP (eqK ev1.key) []) ev1 := ⟨fun x hx => (by cases hx),fun x hx => (by cases hx),by decide,fun x hx => (by cases hx),by decide,fun x hx => (by cases hx)⟩
theorem on1 {x : Ev} (h : x ∈ onP (eqK ev2.key) [ev1]) : x = ev1 := List.mem_singleton.1 (List.mem_filter.1 h).1
theorem nxt2 : Nxt (onP (eqK ev2.key) [ev1]) ev2 :=
 ⟨fun x hx => by rw [on1 hx]; rfl,fun x hx => by rw [on1 hx]; decide,by decide,fun a ha b hb => by rw [on1 ha,on1 hb]; decide,by decide,fun x hx => by rw [on1 hx]; decide⟩
theorem pst1 (key : ByteArray) : Pst (onP (eqK key) [ev1]) key :=
 Pst.mk' (fun a ha b hb _ => by rw [List.mem_singleton.1 ha,List.mem_singleton.1 hb]) (fun a ha b hb => by rw [List.mem_singleton.1 ha,List.mem_singleton.1 hb]; decide) (fun a ha b hb c hc => by rw [List.mem_singleton.1 ha,List.mem_singleton.1 hb,List.mem_singleton.1 hc]; decide) key
theorem two12 {x : Ev} (h : x ∈ [ev1,ev2]) : x = ev1 ∨ x = ev2 := by simpa using h
theorem pst2 (key : ByteArray) : Pst (onP (eqK key) [ev1,ev2]) key :=
 Pst.mk' (fun a ha b hb h => by
  rcases two12 ha with rfl | rfl <;> rcases two12 hb with rfl | rfl
  · rfl
  · exact absurd h (by simp [stampE,ev1,ev2])
  · exact absurd h (by simp [stampE,ev1,ev2])
  · rfl) (fun a ha b hb => by rcases two12 ha with rfl | rfl <;> rcases two12 hb with rfl | rfl <;> decide) (fun a ha b hb c hc => by rcases two12 ha with rfl | rfl <;> rcases two12 hb with rfl | rfl <;> rcases two12 hc with rfl | rfl <;> decide) key
theorem sz1 : sizeB [ev1] = 1 := by decide
theorem sz2 : sizeB [ev1,ev2] = 0 := by decide
theorem of1 : (ofB [ev1]).length = 1 := by
 rw [of_same (l := [ev1]) (key := ev1.key) (fun x hx => by rw [List.mem_singleton.1 hx])]
 rw [if_neg (fun h => by have : (livingB [ev1]).length = 0 := by rw [h]; rfl
                         revert this; decide)]
 rfl
theorem of2 : (ofB [ev1,ev2]).length = 0 := by
 rw [of_same (l := [ev1,ev2]) (key := ev1.key) (fun x hx => by rcases two12 hx with rfl | rfl <;> rfl)]
 rw [if_pos (List.eq_nil_of_length_eq_zero (by decide))]
 rfl
set_option maxHeartbeats 4000000 in
set_option maxRecDepth 100000 in
theorem shown_spec : ASpec Tryz.prog 8 [] (.v (.bool true)) [] := by
 have h1 := apply_b (P := []) nxt1 (by decide) (by decide) 0
 have h2 := apply_b (P := [ev1]) nxt2 (by decide) (by decide) 1
 have l1 := list_b (P := [ev1]) pst1 1 (by decide) (by decide)
 have l2 := list_b (P := [ev1,ev2]) pst2 2 (by decide) (by decide)
 have s1 := size_b [ev1] 1 (by decide)
 have s2 := size_b [ev1,ev2] 2 (by decide)
 rw [sz1] at s1
 rw [sz2] at s2
 have o1 := of1
 have o2 := of2
 dsimp only [List.nil_append,List.cons_append,Nat.zero_add,Nat.reduceAdd] at h1 h2
 have h0 := new_b
 generalize bookO [] 0 = b0 at *
 generalize bookO [ev1] 1 = b1 at *
 generalize bookO [ev1,ev2] 2 = b2 at *
 generalize ofB [ev1] = O1 at *
 generalize ofB [ev1,ev2] = O2 at *
 rw [o1] at l1
 rw [o2] at l2
 dsimp only [Ev.av,Ev.cs,ev1,ev2] at h1 h2
 refine aspec_of lay_ok 319 Tryz.func8 rfl rfl rfl ?_
 repeat' ((conv => whnf); first | refine Spl.yes (by first | assumption | omega) ?_ | refine Spl.no (by first | assumption | omega) ?_ | refine Wr.i64 (by omega) (by omega) ?_ | refine Still.mk rfl rfl ?_ | refine InB.mk (inB_mk (by omega) (by omega)) ?_ | refine Req.mk (by omega) ?_ | refine Req.mk ⟨by first | omega | (dsimp only; omega),by first | omega | (dsimp only; omega)⟩ ?_ | refine ACall.chgR 1 [(0,_)] (h1) rfl ⟨rfl,trivial⟩ rfl rfl ?_ | refine ACall.chgR 1 [(0,_)] (h2) rfl ⟨rfl,trivial⟩ rfl rfl ?_ | refine ACall.chgR 1 [(0,_)] (s1) rfl ⟨rfl,trivial⟩ rfl rfl ?_ | refine ACall.chgR 1 [(0,_)] (s2) rfl ⟨rfl,trivial⟩ rfl rfl ?_ | refine ACall.chgR 0 [] h0 rfl trivial rfl rfl ?_ | refine ACall.chgR 3 [(0,_)] l1 rfl ⟨rfl,trivial⟩ rfl rfl ?_ | refine ACall.chgR 3 [(0,_)] l2 rfl ⟨rfl,trivial⟩ rfl rfl ?_ | refine ARet.hdI ?_ | refine Spl.mk (fun _ => ?_) (fun _ => ?_) | refine InA.mk (inB_mk (by omega) (by omega)) ?_ | refine Wr.b64 ?_ | refine Wr.bu64 ?_ | refine Wr.bu32 ?_ | refine Wr.bu8 ?_ | refine Wr.u8 (by omega) (by omega) ?_ | refine Wr.u64 (by omega) (by omega) ?_ | refine Wr.u32 (by omega) (by omega) ?_ | refine Dv.pos (by omega) (by omega) ?_ | refine Rm.pos (by omega) (by omega) ?_ | refine ADraw.quiet follows_ok (by kernel_rfl) rfl ?_ | refine BSpl.decY (by first | assumption | omega) ?_ | refine BSpl.decN (by first | assumption | omega) ?_ | refine BSpl.dec (fun _ => ?_) (fun _ => ?_) | refine BSpl.yes (by assumption) ?_ | refine BSpl.no (by assumption) ?_ | refine BSpl.mk (fun _ => ?_) (fun _ => ?_))
 all_goals (conv => whnf)
 all_goals first
   | exact AEqI.mk (AEq.refl _)
   | exact absurd rfl (by assumption)
end Go.Proofs.YtkkpfjifkjbndaaGreat
