/-
  Contracts of the walk: Ps3.
-/
import Derived.Test.YtkkpfjifkjbndaaGreatLBnd11
import Derived.Test.YtkkpfjifkjbndaaGreatLBnd12
import Derived.Test.YtkkpfjifkjbndaaGreatLBnd22
/-
 kithref08.Spread.
-/
namespace Go.Proofs.YtkkpfjifkjbndaaGreat
open Go.RowKit
def natC (n : Nat) : List AV := [.v (.int .i64 (n : Int))]
abbrev natF (l : List Nat) : Nat → List AV := elsF natC l
def IsE {α : Type} [Inhabited α] (c : α → List AV) (F : Nat → List AV) (l : List α) : Prop := ∀ i,i < l.length → F i = elsF c l i
section
variable {α : Type} [Inhabited α] {c : α → List AV}
theorem IsE.refl (l : List α) : IsE c (elsF c l) l := fun _ _ => rfl
theorem IsE.nil (F : Nat → List AV) : IsE c F [] := fun i h => absurd h (by simp)
theorem IsE.app {F G : Nat → List AV} {l l' : List α} {n : Nat} (h : IsE c F l) (h' : IsE c G l') (hn : n = l.length) : IsE c (appF n F G) (l ++ l') := by
 intro i hi
 subst hn
 rw [List.length_append] at hi
 unfold appF
 cases hb : Nat.ble l.length i with
 | true =>
  have := Nat.le_of_ble_eq_true hb
  simp only [cond_true]
  rw [h' (i - l.length) (by omega)]
  unfold elsF
  rw [List.getD,List.getD,List.getElem?_append_right this]
 | false =>
  have : i < l.length := Nat.lt_of_not_le fun h => by rw [Nat.ble_eq_true_of_le h] at hb; cases hb
  simp only [cond_false]
  rw [h i this]
  unfold elsF
  rw [List.getD,List.getD,List.getElem?_append_left this]
theorem IsE.take {F : Nat → List AV} {l : List α} (h : IsE c F l) (k : Nat) : IsE c F (l.take k) := by
 intro i hi
 rw [List.length_take] at hi
 rw [h i (by omega)]
 unfold elsF
 rw [List.getD,List.getD,List.getElem?_take_of_lt (by omega)]
theorem IsE.drop {F : Nat → List AV} {l : List α} (h : IsE c F l) (k : Nat) : IsE c (fun i => F (k + i)) (l.drop k) := by
 intro i hi
 rw [List.length_drop] at hi
 show F (k + i) = _
 rw [h (k + i) (by omega)]
 unfold elsF
 rw [List.getD,List.getD,List.getElem?_drop]
theorem OEq.isE {e : TypeId} {s n : Nat} {sc : Bool} {F : Nat → List AV} {l t : List α} (h : IsE c F l) (hn : n = l.length) (ht : l = t) : OEq (.row e s n sc F) (.row e s t.length sc (elsF c t)) := by
 subst ht
 exact OEq.row hn fun i hi => h i (by omega)
end
theorem spr_is {out left : List Ev} {hv : Clk} {k : Nat} {r : Nat} (h : (left.getD (k : Int).toNat default).r = (r : Int)) : sprAt ⟨out,left,hv⟩ k = ⟨out ++ [left.getD (k : Int).toNat default],left.take k ++ left.drop (k + 1),hv.top r (left.getD (k : Int).toNat default).n⟩ := by
 rw [Int.toNat_natCast] at h ⊢
 unfold sprAt
 rw [h,Int.toNat_natCast]
theorem natCast_succ (n : Nat) : ((n : Int) + 1).toNat = n + 1 := by omega
theorem ble_no {a b : Nat} (h : Nat.ble a b = false) (k : a ≤ b) : False := by rw [Nat.ble_eq_true_of_le k] at h; cases h
theorem Rm.is' {a b c : Int} {K : Int → Prop} (h : 0 ≤ a) (hb : 0 < b) (hq : a % b = c) (k : K c) : Rm a b K := .pos h hb (by rw [hq]; exact k)
set_option maxHeartbeats 16000000 in
set_option maxRecDepth 100000 in
theorem spread_spec {W : List Ev} {H : Nat → Clk} (hI : Inv W H) (picks : List UInt8) (hW : W.length ≤ 100000) (hp : picks.length ≤ 140737488355328) :
  ASpec Tryz.prog 9 [.sl 12 W.length true (evF W), .sl 1 picks.length true (bytesF picks)] (.sl 12 (sprL picks W).length true (evF (sprL picks W))) [] := by
 refine aspec_of lay_ok 1130332380729331 Tryz.func9 rfl rfl rfl ?_
 repeat' ((conv => whnf); first | refine Spl.yes (by first | assumption | omega) ?_ | refine Spl.no (by first | assumption | omega) ?_ | refine Wr.i64 (by omega) (by omega) ?_ | refine Still.mk rfl rfl ?_ | refine InB.mk (inB_mk (by omega) (by omega)) ?_ | refine Req.mk (by omega) ?_ | refine Req.mk ⟨by first | omega | (dsimp only; omega),by first | omega | (dsimp only; omega)⟩ ?_ | refine ARet.hdI ?_ | refine Spl.mk (fun _ => ?_) (fun _ => ?_) | refine InA.mk (inB_mk (by omega) (by omega)) ?_ | refine Wr.b64 ?_ | refine Wr.bu64 ?_ | refine Wr.bu32 ?_ | refine Wr.bu8 ?_ | refine Wr.u8 (by omega) (by omega) ?_ | refine Wr.u64 (by omega) (by omega) ?_ | refine Wr.u32 (by omega) (by omega) ?_ | refine Dv.pos (by omega) (by omega) ?_ | refine Rm.pos (by omega) (by omega) ?_ | refine ADraw.quiet follows_ok (by kernel_rfl) rfl ?_ | refine ADraw.sched (id := 11) lay_ok (awp_snd lay_ok _) [(0,none),(1,none),(2,none),(3,none),(4,none),(5,none),(6,some [5,4])] [(6,[5,4])] follows_ok (by kernel_rfl) ?_ | refine ADraw.sched (id := 19) lay_ok (awp_snd lay_ok _) [(0,none),(1,none),(2,none),(3,none),(4,none),(5,none),(6,none),(7,none),(8,none),(9,none),(10,none),(11,none),(12,none),(13,none),(14,none),(15,none),(16,none),(17,none),(18,none),(19,some [17,16,11,9,4])] [(10,[9]),(11,[9]),(17,[16,11,9]),(18,[17,16,11,9,4]),(19,[17,16,11,9,4])] follows_ok (by kernel_rfl) ?_ | refine ADraw.sched (id := 20) lay_ok (awp_snd lay_ok _) [(1,none),(2,none),(3,none),(5,none),(6,none),(7,none),(8,none),(0,some []),(4,some []),(9,some [7]),(10,none)] [(0,[]),(4,[]),(8,[7]),(9,[7]),(10,[7])] follows_ok (by kernel_rfl) ?_ | refine BSpl.decY (by first | assumption | omega) ?_ | refine BSpl.decN (by first | assumption | omega) ?_ | refine BSpl.dec (fun _ => ?_) (fun _ => ?_) | refine BSpl.yes (by assumption) ?_ | refine BSpl.no (by assumption) ?_ | refine BSpl.mk (fun _ => ?_) (fun _ => ?_))
 conv => whnf
 refine ALoop.mk { x : Nat × Spr // x.1 ≤ W.length ∧ sprN picks W x.1 = x.2 } (fun x => ⟨[(1, .sl 1 picks.length true (bytesF picks)),(5, .own 90),(6, .own 91),(7, .box 92 0),(8, .v (.int .i64 (x.1.1 : Int)))],
   [(90, .row 36 12 x.1.2.out.length true (evF x.1.2.out)),(91, .row 36 12 x.1.2.left.length true (evF x.1.2.left)),(92, .box 34 x.1.2.hv.cs)],[],93⟩) (fun x => W.length - x.1.1) ⟨(0,⟨[],W,clk0⟩),Nat.zero_le _,rfl⟩ _
  (LeR.mk' [(0,90),(2,91),(3,92)] _ _ _ rfl ⟨AEq.refl _,AEq.refl _,AEq.refl _,AEq.refl _,AEq.int rfl,trivial⟩ ⟨⟨_,rfl,OEq.row rfl (fun i hi => absurd hi (Nat.not_lt_zero i))⟩,⟨_,rfl,OEq.isE (c := Ev.cs) ((IsE.nil _).app (IsE.refl W) rfl) (by simp) (List.nil_append W)⟩,⟨_,rfl,OEq.refl _⟩,trivial⟩ rfl) ?_
 rintro ⟨⟨i,s⟩,hi,hs⟩
 dsimp only at hi hs ⊢
 obtain ⟨hok,hlen⟩ := sprN_ok hI picks i hi
 have hR : i = W.length → sprL picks W = s.out := fun e => by rw [← hs,e]; rfl
 have hn : sprN picks W (i + 1) = sprAt (sprN picks W i) (pickN picks i (rdyL (sprN picks W i).left (sprN picks W i).hv)) := rfl
 have hol : (sprN picks W i).out.length + (sprN picks W i).left.length = W.length := by
  have := hok.perm.length_eq
  rwa [List.length_append] at this
 rw [hs] at hok hlen hn hol
 clear hs
 by_cases hil : i < W.length
 · have h0 := hok.rdy hI (by omega)
   have hpk := pick_lt (picks := picks) (i := i) h0
   have hev : ∀ k,k < s.left.length → ∃ r : Nat,r < 5 ∧ (s.left.getD k default).r = (r : Int) := fun k hk => by
    obtain ⟨r,h1,h2,_⟩ := hI.ev (s.left.getD k default) (hok.sub.subset (by
     rw [List.getD,List.getElem?_eq_getElem hk]
     exact List.getElem_mem hk))
    exact ⟨r,h1,h2⟩
   clear hok hR
   obtain ⟨out,left,hv⟩ := s
   dsimp only at hlen hn hol h0 hpk hev ⊢
   repeat' ((conv => whnf); first | refine Spl.yes (by first | assumption | omega) ?_ | refine Spl.no (by first | assumption | omega) ?_ | refine Wr.i64 (by omega) (by omega) ?_ | refine Still.mk rfl rfl ?_ | refine InB.mk (inB_mk (by omega) (by omega)) ?_ | refine Req.mk (by omega) ?_ | refine Req.mk ⟨by first | omega | (dsimp only; omega),by first | omega | (dsimp only; omega)⟩ ?_ | refine ARet.hdI ?_ | refine Spl.mk (fun _ => ?_) (fun _ => ?_) | refine InA.mk (inB_mk (by omega) (by omega)) ?_ | refine Wr.b64 ?_ | refine Wr.bu64 ?_ | refine Wr.bu32 ?_ | refine Wr.bu8 ?_ | refine Wr.u8 (by omega) (by omega) ?_ | refine Wr.u64 (by omega) (by omega) ?_ | refine Wr.u32 (by omega) (by omega) ?_ | refine Dv.pos (by omega) (by omega) ?_ | refine Rm.pos (by omega) (by omega) ?_ | refine ADraw.quiet follows_ok (by kernel_rfl) rfl ?_ | refine ADraw.sched (id := 11) lay_ok (awp_snd lay_ok _) [(0,none),(1,none),(2,none),(3,none),(4,none),(5,none),(6,some [5,4])] [(6,[5,4])] follows_ok (by kernel_rfl) ?_ | refine ADraw.sched (id := 19) lay_ok (awp_snd lay_ok _) [(0,none),(1,none),(2,none),(3,none),(4,none),(5,none),(6,none),(7,none),(8,none),(9,none),(10,none),(11,none),(12,none),(13,none),(14,none),(15,none),(16,none),(17,none),(18,none),(19,some [17,16,11,9,4])] [(10,[9]),(11,[9]),(17,[16,11,9]),(18,[17,16,11,9,4]),(19,[17,16,11,9,4])] follows_ok (by kernel_rfl) ?_ | refine ADraw.sched (id := 20) lay_ok (awp_snd lay_ok _) [(1,none),(2,none),(3,none),(5,none),(6,none),(7,none),(8,none),(0,some []),(4,some []),(9,some [7]),(10,none)] [(0,[]),(4,[]),(8,[7]),(9,[7]),(10,[7])] follows_ok (by kernel_rfl) ?_ | refine BSpl.decY (by first | assumption | omega) ?_ | refine BSpl.decN (by first | assumption | omega) ?_ | refine BSpl.dec (fun _ => ?_) (fun _ => ?_) | refine BSpl.yes (by assumption) ?_ | refine BSpl.no (by assumption) ?_ | refine BSpl.mk (fun _ => ?_) (fun _ => ?_))
   conv => whnf
   refine ALoop.frz 91 rfl ?_
   conv => whnf
   refine ALoop.mk { k : Nat // k ≤ left.length } (fun k => ⟨[(1, .sl 1 picks.length true (bytesF picks)),(5, .own 90),(6, .sl 12 left.length true (evF left)),(7, .box 92 0),(8, .v (.int .i64 (i : Int))),(9, .own 93),(10, .v (.int .i64 (k.1 : Int)))],
     [(90, .row 36 12 out.length true (evF out)),(92, .box 34 hv.cs),(93, .row 3 1 ((List.range k.1).filter (rdyP left hv)).length true (natF ((List.range k.1).filter (rdyP left hv))))],[],94⟩) (fun k => left.length - k.1) ⟨0,Nat.zero_le _⟩ _
    (LeR.mk' [] _ _ _ rfl ⟨AEq.refl _,AEq.refl _,AEq.refl _,AEq.refl _,AEq.refl _,AEq.refl _,AEq.int rfl,trivial⟩ ⟨⟨_,rfl,OEq.refl _⟩,⟨_,rfl,OEq.refl _⟩,⟨_,rfl,OEq.row rfl (fun i hi => absurd hi (Nat.not_lt_zero i))⟩,trivial⟩ rfl) ?_
   rintro ⟨k,hk⟩
   dsimp only
   by_cases hkl : k < left.length
   · have hle := lessEq_spec (left.getD (k : Int).toNat default).c hv
     have hrp : rdyP left hv k = (left.getD (k : Int).toNat default).c.le hv := rfl
     have hft : (List.range (k + 1)).filter (rdyP left hv) = (List.range k).filter (rdyP left hv) ++ (if rdyP left hv k = true then [k] else []) := by
      rw [List.range_succ,List.filter_append,List.filter_cons]
      rfl
     rw [hrp] at hft
     have hlk : ((List.range k).filter (rdyP left hv)).length ≤ k := by
      have := List.length_filter_le (rdyP left hv) (List.range k)
      rwa [List.length_range] at this
     generalize (left.getD (k : Int).toNat default).c.le hv = q at hle hft
     generalize (List.range k).filter (rdyP left hv) = T at hft hlk ⊢
     have k1 : q = true → T ++ [k] = (List.range (k + 1)).filter (rdyP left hv) := fun h => by rw [hft,h]; rfl
     have k2 : q = false → T = (List.range (k + 1)).filter (rdyP left hv) := fun h => by rw [hft,h]; simp
     clear hft hrp
     have k3 : T.length ≤ 100000 := by omega
     dsimp only [Clk.av,Clk.cs] at hle ⊢
     repeat' ((conv => whnf); first | refine Spl.yes (by first | assumption | omega) ?_ | refine Spl.no (by first | assumption | omega) ?_ | refine Wr.i64 (by omega) (by omega) ?_ | refine Still.mk rfl rfl ?_ | refine InB.mk (inB_mk (by omega) (by omega)) ?_ | refine Req.mk (by omega) ?_ | refine Req.mk ⟨by first | omega | (dsimp only; omega),by first | omega | (dsimp only; omega)⟩ ?_ | refine ACall.plain _ _ (hle) (SubL.cons (.eq _) (SubL.cons (.eq _) .nil)) rfl ?_ | refine ARet.hdI ?_ | refine Spl.mk (fun _ => ?_) (fun _ => ?_) | refine InA.mk (inB_mk (by omega) (by omega)) ?_ | refine Wr.b64 ?_ | refine Wr.bu64 ?_ | refine Wr.bu32 ?_ | refine Wr.bu8 ?_ | refine Wr.u8 (by omega) (by omega) ?_ | refine Wr.u64 (by omega) (by omega) ?_ | refine Wr.u32 (by omega) (by omega) ?_ | refine Dv.pos (by omega) (by omega) ?_ | refine Rm.pos (by omega) (by omega) ?_ | refine ADraw.quiet follows_ok (by kernel_rfl) rfl ?_ | refine ADraw.sched (id := 11) lay_ok (awp_snd lay_ok _) [(0,none),(1,none),(2,none),(3,none),(4,none),(5,none),(6,some [5,4])] [(6,[5,4])] follows_ok (by kernel_rfl) ?_ | refine ADraw.sched (id := 19) lay_ok (awp_snd lay_ok _) [(0,none),(1,none),(2,none),(3,none),(4,none),(5,none),(6,none),(7,none),(8,none),(9,none),(10,none),(11,none),(12,none),(13,none),(14,none),(15,none),(16,none),(17,none),(18,none),(19,some [17,16,11,9,4])] [(10,[9]),(11,[9]),(17,[16,11,9]),(18,[17,16,11,9,4]),(19,[17,16,11,9,4])] follows_ok (by kernel_rfl) ?_ | refine ADraw.sched (id := 20) lay_ok (awp_snd lay_ok _) [(1,none),(2,none),(3,none),(5,none),(6,none),(7,none),(8,none),(0,some []),(4,some []),(9,some [7]),(10,none)] [(0,[]),(4,[]),(8,[7]),(9,[7]),(10,[7])] follows_ok (by kernel_rfl) ?_ | refine BSpl.decY (by first | assumption | omega) ?_ | refine BSpl.decN (by first | assumption | omega) ?_ | refine BSpl.dec (fun _ => ?_) (fun _ => ?_) | refine BSpl.yes (by assumption) ?_ | refine BSpl.no (by assumption) ?_ | refine BSpl.mk (fun _ => ?_) (fun _ => ?_))
     all_goals (conv => whnf)
     · refine ⟨⟨k + 1,hkl⟩,_,LeR.mk' [(95,93)] _ _ _ rfl ⟨AEq.refl _,AEq.refl _,AEq.refl _,AEq.refl _,AEq.refl _,AEq.refl _,AEq.int rfl,trivial⟩ ⟨⟨_,rfl,OEq.refl _⟩,⟨_,rfl,OEq.refl _⟩,⟨_,rfl,?_⟩,trivial⟩ rfl,Nat.sub_succ_lt_self _ _ hkl⟩
       dsimp only
       rw [← k1 (by assumption)]
       exact OEq.row len_app (els_app1 (c := natC) (l := T) rfl rfl)
     · refine ⟨⟨k + 1,hkl⟩,_,LeR.mk' [] _ _ _ rfl ⟨AEq.refl _,AEq.refl _,AEq.refl _,AEq.refl _,AEq.refl _,AEq.refl _,AEq.int rfl,trivial⟩ ⟨⟨_,rfl,OEq.refl _⟩,⟨_,rfl,OEq.refl _⟩,⟨_,rfl,?_⟩,trivial⟩ rfl,Nat.sub_succ_lt_self _ _ hkl⟩
       dsimp only
       rw [← k2 (by assumption)]
       exact OEq.refl _
   · have hT : (List.range k).filter (rdyP left hv) = rdyL left hv := by
      rw [show k = left.length by omega]
      rfl
     rw [hT]
     clear hT
     have hTl : 0 < (rdyL left hv).length := List.length_pos_of_mem h0
     have hTm : (rdyL left hv).length ≤ 100000 := by
      have := List.length_filter_le (rdyP left hv) (List.range left.length)
      rw [List.length_range] at this
      unfold rdyL
      omega
     generalize rdyL left hv = T at hn h0 hpk hTl hTm ⊢
     clear h0
     by_cases hip : i < picks.length
     · have hq : ((picks.getD (i : Int).toNat 0).toNat : Int) % (T.length : Int) = (((picks.getD (i : Int).toNat 0).toNat % T.length : Nat) : Int) := by rw [Int.natCast_emod]
       have hql := Nat.mod_lt (picks.getD (i : Int).toNat 0).toNat hTl
       have hpe : pickN picks i T = T.getD ((((picks.getD (i : Int).toNat 0).toNat % T.length : Nat) : Int)).toNat default := by rw [pickN,if_pos hip]; rfl
       have hb := UInt8.toNat_lt (picks.getD (i : Int).toNat 0)
       generalize (picks.getD (i : Int).toNat 0).toNat % T.length = q at hq hql hpe
       rw [hpe] at hn hpk
       have hpk2 : T.getD q default < left.length := hpk
       obtain ⟨r,hr5,her⟩ := hev ((T.getD (q : Int).toNat default : Nat) : Int).toNat (by omega)
       obtain rfl | rfl | rfl | rfl | rfl : r = 0 ∨ r = 1 ∨ r = 2 ∨ r = 3 ∨ r = 4 := by omega
       · repeat' ((conv => whnf); first | refine Spl.yes (by first | assumption | omega) ?_ | refine Spl.no (by first | assumption | omega) ?_ | refine Wr.i64 (by omega) (by omega) ?_ | refine Still.mk rfl rfl ?_ | refine InB.mk (inB_mk (by omega) (by omega)) ?_ | refine Req.mk (by omega) ?_ | refine Req.mk ⟨by first | omega | (dsimp only; omega),by first | omega | (dsimp only; omega)⟩ ?_ | refine Rm.is' (by omega) (by omega) hq ?_ | refine InA.lit 0 her rfl ?_ | refine ARet.hdI ?_ | refine Spl.mk (fun _ => ?_) (fun _ => ?_) | refine InA.mk (inB_mk (by omega) (by omega)) ?_ | refine Wr.b64 ?_ | refine Wr.bu64 ?_ | refine Wr.bu32 ?_ | refine Wr.bu8 ?_ | refine Wr.u8 (by omega) (by omega) ?_ | refine Wr.u64 (by omega) (by omega) ?_ | refine Wr.u32 (by omega) (by omega) ?_ | refine Dv.pos (by omega) (by omega) ?_ | refine Rm.pos (by omega) (by omega) ?_ | refine ADraw.quiet follows_ok (by kernel_rfl) rfl ?_ | refine ADraw.sched (id := 11) lay_ok (awp_snd lay_ok _) [(0,none),(1,none),(2,none),(3,none),(4,none),(5,none),(6,some [5,4])] [(6,[5,4])] follows_ok (by kernel_rfl) ?_ | refine ADraw.sched (id := 19) lay_ok (awp_snd lay_ok _) [(0,none),(1,none),(2,none),(3,none),(4,none),(5,none),(6,none),(7,none),(8,none),(9,none),(10,none),(11,none),(12,none),(13,none),(14,none),(15,none),(16,none),(17,none),(18,none),(19,some [17,16,11,9,4])] [(10,[9]),(11,[9]),(17,[16,11,9]),(18,[17,16,11,9,4]),(19,[17,16,11,9,4])] follows_ok (by kernel_rfl) ?_ | refine ADraw.sched (id := 20) lay_ok (awp_snd lay_ok _) [(1,none),(2,none),(3,none),(5,none),(6,none),(7,none),(8,none),(0,some []),(4,some []),(9,some [7]),(10,none)] [(0,[]),(4,[]),(8,[7]),(9,[7]),(10,[7])] follows_ok (by kernel_rfl) ?_ | refine BSpl.decY (by first | assumption | omega) ?_ | refine BSpl.decN (by first | assumption | omega) ?_ | refine BSpl.dec (fun _ => ?_) (fun _ => ?_) | refine BSpl.yes (by assumption) ?_ | refine BSpl.no (by assumption) ?_ | refine BSpl.mk (fun _ => ?_) (fun _ => ?_))
         all_goals first
           | exact ble_no (by assumption) (by omega)
           | skip
         conv => whnf
         refine ⟨⟨(i + 1,_),hil,hn.trans (spr_is her)⟩,_,LeR.mk' [(95,90),(98,91)] _ _ _ rfl ⟨AEq.refl _,AEq.refl _,AEq.refl _,AEq.refl _,AEq.int rfl,trivial⟩ ⟨⟨_,rfl,?_⟩,⟨_,rfl,?_⟩,⟨_,rfl,OEq.refl _⟩,trivial⟩ rfl,Nat.sub_succ_lt_self _ _ hil⟩
         · exact OEq.row len_app (els_app1 (c := Ev.cs) (l := out) rfl rfl)
         · refine OEq.isE (c := Ev.cs) (((IsE.nil _).app ((IsE.refl left).take (T.getD (q : Int).toNat default)) rfl).app ((IsE.refl left).drop _) ?_) ?_ ?_
           · simp only [List.nil_append,List.length_take,Int.toNat_natCast]
             omega
           · simp only [List.nil_append,List.length_append,List.length_take,List.length_drop,Int.toNat_natCast]
             omega
           · simp only [List.nil_append,natCast_succ]
       · repeat' ((conv => whnf); first | refine Spl.yes (by first | assumption | omega) ?_ | refine Spl.no (by first | assumption | omega) ?_ | refine Wr.i64 (by omega) (by omega) ?_ | refine Still.mk rfl rfl ?_ | refine InB.mk (inB_mk (by omega) (by omega)) ?_ | refine Req.mk (by omega) ?_ | refine Req.mk ⟨by first | omega | (dsimp only; omega),by first | omega | (dsimp only; omega)⟩ ?_ | refine Rm.is' (by omega) (by omega) hq ?_ | refine InA.lit 1 her rfl ?_ | refine ARet.hdI ?_ | refine Spl.mk (fun _ => ?_) (fun _ => ?_) | refine InA.mk (inB_mk (by omega) (by omega)) ?_ | refine Wr.b64 ?_ | refine Wr.bu64 ?_ | refine Wr.bu32 ?_ | refine Wr.bu8 ?_ | refine Wr.u8 (by omega) (by omega) ?_ | refine Wr.u64 (by omega) (by omega) ?_ | refine Wr.u32 (by omega) (by omega) ?_ | refine Dv.pos (by omega) (by omega) ?_ | refine Rm.pos (by omega) (by omega) ?_ | refine ADraw.quiet follows_ok (by kernel_rfl) rfl ?_ | refine ADraw.sched (id := 11) lay_ok (awp_snd lay_ok _) [(0,none),(1,none),(2,none),(3,none),(4,none),(5,none),(6,some [5,4])] [(6,[5,4])] follows_ok (by kernel_rfl) ?_ | refine ADraw.sched (id := 19) lay_ok (awp_snd lay_ok _) [(0,none),(1,none),(2,none),(3,none),(4,none),(5,none),(6,none),(7,none),(8,none),(9,none),(10,none),(11,none),(12,none),(13,none),(14,none),(15,none),(16,none),(17,none),(18,none),(19,some [17,16,11,9,4])] [(10,[9]),(11,[9]),(17,[16,11,9]),(18,[17,16,11,9,4]),(19,[17,16,11,9,4])] follows_ok (by kernel_rfl) ?_ | refine ADraw.sched (id := 20) lay_ok (awp_snd lay_ok _) [(1,none),(2,none),(3,none),(5,none),(6,none),(7,none),(8,none),(0,some []),(4,some []),(9,some [7]),(10,none)] [(0,[]),(4,[]),(8,[7]),(9,[7]),(10,[7])] follows_ok (by kernel_rfl) ?_ | refine BSpl.decY (by first | assumption | omega) ?_ | refine BSpl.decN (by first | assumption | omega) ?_ | refine BSpl.dec (fun _ => ?_) (fun _ => ?_) | refine BSpl.yes (by assumption) ?_ | refine BSpl.no (by assumption) ?_ | refine BSpl.mk (fun _ => ?_) (fun _ => ?_))
         all_goals first
           | exact ble_no (by assumption) (by omega)
           | skip
         conv => whnf
         refine ⟨⟨(i + 1,_),hil,hn.trans (spr_is her)⟩,_,LeR.mk' [(95,90),(98,91)] _ _ _ rfl ⟨AEq.refl _,AEq.refl _,AEq.refl _,AEq.refl _,AEq.int rfl,trivial⟩ ⟨⟨_,rfl,?_⟩,⟨_,rfl,?_⟩,⟨_,rfl,OEq.refl _⟩,trivial⟩ rfl,Nat.sub_succ_lt_self _ _ hil⟩
         · exact OEq.row len_app (els_app1 (c := Ev.cs) (l := out) rfl rfl)
         · refine OEq.isE (c := Ev.cs) (((IsE.nil _).app ((IsE.refl left).take (T.getD (q : Int).toNat default)) rfl).app ((IsE.refl left).drop _) ?_) ?_ ?_
           · simp only [List.nil_append,List.length_take,Int.toNat_natCast]
             omega
           · simp only [List.nil_append,List.length_append,List.length_take,List.length_drop,Int.toNat_natCast]
             omega
           · simp only [List.nil_append,natCast_succ]
       · repeat' ((conv => whnf); first | refine Spl.yes (by first | assumption | omega) ?_ | refine Spl.no (by first | assumption | omega) ?_ | refine Wr.i64 (by omega) (by omega) ?_ | refine Still.mk rfl rfl ?_ | refine InB.mk (inB_mk (by omega) (by omega)) ?_ | refine Req.mk (by omega) ?_ | refine Req.mk ⟨by first | omega | (dsimp only; omega),by first | omega | (dsimp only; omega)⟩ ?_ | refine Rm.is' (by omega) (by omega) hq ?_ | refine InA.lit 2 her rfl ?_ | refine ARet.hdI ?_ | refine Spl.mk (fun _ => ?_) (fun _ => ?_) | refine InA.mk (inB_mk (by omega) (by omega)) ?_ | refine Wr.b64 ?_ | refine Wr.bu64 ?_ | refine Wr.bu32 ?_ | refine Wr.bu8 ?_ | refine Wr.u8 (by omega) (by omega) ?_ | refine Wr.u64 (by omega) (by omega) ?_ | refine Wr.u32 (by omega) (by omega) ?_ | refine Dv.pos (by omega) (by omega) ?_ | refine Rm.pos (by omega) (by omega) ?_ | refine ADraw.quiet follows_ok (by kernel_rfl) rfl ?_ | refine ADraw.sched (id := 11) lay_ok (awp_snd lay_ok _) [(0,none),(1,none),(2,none),(3,none),(4,none),(5,none),(6,some [5,4])] [(6,[5,4])] follows_ok (by kernel_rfl) ?_ | refine ADraw.sched (id := 19) lay_ok (awp_snd lay_ok _) [(0,none),(1,none),(2,none),(3,none),(4,none),(5,none),(6,none),(7,none),(8,none),(9,none),(10,none),(11,none),(12,none),(13,none),(14,none),(15,none),(16,none),(17,none),(18,none),(19,some [17,16,11,9,4])] [(10,[9]),(11,[9]),(17,[16,11,9]),(18,[17,16,11,9,4]),(19,[17,16,11,9,4])] follows_ok (by kernel_rfl) ?_ | refine ADraw.sched (id := 20) lay_ok (awp_snd lay_ok _) [(1,none),(2,none),(3,none),(5,none),(6,none),(7,none),(8,none),(0,some []),(4,some []),(9,some [7]),(10,none)] [(0,[]),(4,[]),(8,[7]),(9,[7]),(10,[7])] follows_ok (by kernel_rfl) ?_ | refine BSpl.decY (by first | assumption | omega) ?_ | refine BSpl.decN (by first | assumption | omega) ?_ | refine BSpl.dec (fun _ => ?_) (fun _ => ?_) | refine BSpl.yes (by assumption) ?_ | refine BSpl.no (by assumption) ?_ | refine BSpl.mk (fun _ => ?_) (fun _ => ?_))
         all_goals first
           | exact ble_no (by assumption) (by omega)
           | skip
         conv => whnf
         refine ⟨⟨(i + 1,_),hil,hn.trans (spr_is her)⟩,_,LeR.mk' [(95,90),(98,91)] _ _ _ rfl ⟨AEq.refl _,AEq.refl _,AEq.refl _,AEq.refl _,AEq.int rfl,trivial⟩ ⟨⟨_,rfl,?_⟩,⟨_,rfl,?_⟩,⟨_,rfl,OEq.refl _⟩,trivial⟩ rfl,Nat.sub_succ_lt_self _ _ hil⟩
         · exact OEq.row len_app (els_app1 (c := Ev.cs) (l := out) rfl rfl)
         · refine OEq.isE (c := Ev.cs) (((IsE.nil _).app ((IsE.refl left).take (T.getD (q : Int).toNat default)) rfl).app ((IsE.refl left).drop _) ?_) ?_ ?_
           · simp only [List.nil_append,List.length_take,Int.toNat_natCast]
             omega
           · simp only [List.nil_append,List.length_append,List.length_take,List.length_drop,Int.toNat_natCast]
             omega
           · simp only [List.nil_append,natCast_succ]
       · repeat' ((conv => whnf); first | refine Spl.yes (by first | assumption | omega) ?_ | refine Spl.no (by first | assumption | omega) ?_ | refine Wr.i64 (by omega) (by omega) ?_ | refine Still.mk rfl rfl ?_ | refine InB.mk (inB_mk (by omega) (by omega)) ?_ | refine Req.mk (by omega) ?_ | refine Req.mk ⟨by first | omega | (dsimp only; omega),by first | omega | (dsimp only; omega)⟩ ?_ | refine Rm.is' (by omega) (by omega) hq ?_ | refine InA.lit 3 her rfl ?_ | refine ARet.hdI ?_ | refine Spl.mk (fun _ => ?_) (fun _ => ?_) | refine InA.mk (inB_mk (by omega) (by omega)) ?_ | refine Wr.b64 ?_ | refine Wr.bu64 ?_ | refine Wr.bu32 ?_ | refine Wr.bu8 ?_ | refine Wr.u8 (by omega) (by omega) ?_ | refine Wr.u64 (by omega) (by omega) ?_ | refine Wr.u32 (by omega) (by omega) ?_ | refine Dv.pos (by omega) (by omega) ?_ | refine Rm.pos (by omega) (by omega) ?_ | refine ADraw.quiet follows_ok (by kernel_rfl) rfl ?_ | refine ADraw.sched (id := 11) lay_ok (awp_snd lay_ok _) [(0,none),(1,none),(2,none),(3,none),(4,none),(5,none),(6,some [5,4])] [(6,[5,4])] follows_ok (by kernel_rfl) ?_ | refine ADraw.sched (id := 19) lay_ok (awp_snd lay_ok _) [(0,none),(1,none),(2,none),(3,none),(4,none),(5,none),(6,none),(7,none),(8,none),(9,none),(10,none),(11,none),(12,none),(13,none),(14,none),(15,none),(16,none),(17,none),(18,none),(19,some [17,16,11,9,4])] [(10,[9]),(11,[9]),(17,[16,11,9]),(18,[17,16,11,9,4]),(19,[17,16,11,9,4])] follows_ok (by kernel_rfl) ?_ | refine ADraw.sched (id := 20) lay_ok (awp_snd lay_ok _) [(1,none),(2,none),(3,none),(5,none),(6,none),(7,none),(8,none),(0,some []),(4,some []),(9,some [7]),(10,none)] [(0,[]),(4,[]),(8,[7]),(9,[7]),(10,[7])] follows_ok (by kernel_rfl) ?_ | refine BSpl.decY (by first | assumption | omega) ?_ | refine BSpl.decN (by first | assumption | omega) ?_ | refine BSpl.dec (fun _ => ?_) (fun _ => ?_) | refine BSpl.yes (by assumption) ?_ | refine BSpl.no (by assumption) ?_ | refine BSpl.mk (fun _ => ?_) (fun _ => ?_))
         all_goals first
           | exact ble_no (by assumption) (by omega)
           | skip
         conv => whnf
         refine ⟨⟨(i + 1,_),hil,hn.trans (spr_is her)⟩,_,LeR.mk' [(95,90),(98,91)] _ _ _ rfl ⟨AEq.refl _,AEq.refl _,AEq.refl _,AEq.refl _,AEq.int rfl,trivial⟩ ⟨⟨_,rfl,?_⟩,⟨_,rfl,?_⟩,⟨_,rfl,OEq.refl _⟩,trivial⟩ rfl,Nat.sub_succ_lt_self _ _ hil⟩
         · exact OEq.row len_app (els_app1 (c := Ev.cs) (l := out) rfl rfl)
         · refine OEq.isE (c := Ev.cs) (((IsE.nil _).app ((IsE.refl left).take (T.getD (q : Int).toNat default)) rfl).app ((IsE.refl left).drop _) ?_) ?_ ?_
           · simp only [List.nil_append,List.length_take,Int.toNat_natCast]
             omega
           · simp only [List.nil_append,List.length_append,List.length_take,List.length_drop,Int.toNat_natCast]
             omega
           · simp only [List.nil_append,natCast_succ]
       · repeat' ((conv => whnf); first | refine Spl.yes (by first | assumption | omega) ?_ | refine Spl.no (by first | assumption | omega) ?_ | refine Wr.i64 (by omega) (by omega) ?_ | refine Still.mk rfl rfl ?_ | refine InB.mk (inB_mk (by omega) (by omega)) ?_ | refine Req.mk (by omega) ?_ | refine Req.mk ⟨by first | omega | (dsimp only; omega),by first | omega | (dsimp only; omega)⟩ ?_ | refine Rm.is' (by omega) (by omega) hq ?_ | refine InA.lit 4 her rfl ?_ | refine ARet.hdI ?_ | refine Spl.mk (fun _ => ?_) (fun _ => ?_) | refine InA.mk (inB_mk (by omega) (by omega)) ?_ | refine Wr.b64 ?_ | refine Wr.bu64 ?_ | refine Wr.bu32 ?_ | refine Wr.bu8 ?_ | refine Wr.u8 (by omega) (by omega) ?_ | refine Wr.u64 (by omega) (by omega) ?_ | refine Wr.u32 (by omega) (by omega) ?_ | refine Dv.pos (by omega) (by omega) ?_ | refine Rm.pos (by omega) (by omega) ?_ | refine ADraw.quiet follows_ok (by kernel_rfl) rfl ?_ | refine ADraw.sched (id := 11) lay_ok (awp_snd lay_ok _) [(0,none),(1,none),(2,none),(3,none),(4,none),(5,none),(6,some [5,4])] [(6,[5,4])] follows_ok (by kernel_rfl) ?_ | refine ADraw.sched (id := 19) lay_ok (awp_snd lay_ok _) [(0,none),(1,none),(2,none),(3,none),(4,none),(5,none),(6,none),(7,none),(8,none),(9,none),(10,none),(11,none),(12,none),(13,none),(14,none),(15,none),(16,none),(17,none),(18,none),(19,some [17,16,11,9,4])] [(10,[9]),(11,[9]),(17,[16,11,9]),(18,[17,16,11,9,4]),(19,[17,16,11,9,4])] follows_ok (by kernel_rfl) ?_ | refine ADraw.sched (id := 20) lay_ok (awp_snd lay_ok _) [(1,none),(2,none),(3,none),(5,none),(6,none),(7,none),(8,none),(0,some []),(4,some []),(9,some [7]),(10,none)] [(0,[]),(4,[]),(8,[7]),(9,[7]),(10,[7])] follows_ok (by kernel_rfl) ?_ | refine BSpl.decY (by first | assumption | omega) ?_ | refine BSpl.decN (by first | assumption | omega) ?_ | refine BSpl.dec (fun _ => ?_) (fun _ => ?_) | refine BSpl.yes (by assumption) ?_ | refine BSpl.no (by assumption) ?_ | refine BSpl.mk (fun _ => ?_) (fun _ => ?_))
         all_goals first
           | exact ble_no (by assumption) (by omega)
           | skip
         conv => whnf
         refine ⟨⟨(i + 1,_),hil,hn.trans (spr_is her)⟩,_,LeR.mk' [(95,90),(98,91)] _ _ _ rfl ⟨AEq.refl _,AEq.refl _,AEq.refl _,AEq.refl _,AEq.int rfl,trivial⟩ ⟨⟨_,rfl,?_⟩,⟨_,rfl,?_⟩,⟨_,rfl,OEq.refl _⟩,trivial⟩ rfl,Nat.sub_succ_lt_self _ _ hil⟩
         · exact OEq.row len_app (els_app1 (c := Ev.cs) (l := out) rfl rfl)
         · refine OEq.isE (c := Ev.cs) (((IsE.nil _).app ((IsE.refl left).take (T.getD (q : Int).toNat default)) rfl).app ((IsE.refl left).drop _) ?_) ?_ ?_
           · simp only [List.nil_append,List.length_take,Int.toNat_natCast]
             omega
           · simp only [List.nil_append,List.length_append,List.length_take,List.length_drop,Int.toNat_natCast]
             omega
           · simp only [List.nil_append,natCast_succ]
     · have hpe : pickN picks i T = T.getD (0 : Int).toNat default := by rw [pickN,if_neg hip]; rfl
       rw [hpe] at hn hpk
       obtain ⟨r,hr5,her⟩ := hev ((T.getD (0 : Int).toNat default : Nat) : Int).toNat (by omega)
       obtain rfl | rfl | rfl | rfl | rfl : r = 0 ∨ r = 1 ∨ r = 2 ∨ r = 3 ∨ r = 4 := by omega
       · repeat' ((conv => whnf); first | refine Spl.yes (by first | assumption | omega) ?_ | refine Spl.no (by first | assumption | omega) ?_ | refine Wr.i64 (by omega) (by omega) ?_ | refine Still.mk rfl rfl ?_ | refine InB.mk (inB_mk (by omega) (by omega)) ?_ | refine Req.mk (by omega) ?_ | refine Req.mk ⟨by first | omega | (dsimp only; omega),by first | omega | (dsimp only; omega)⟩ ?_ | refine InA.lit 0 her rfl ?_ | refine ARet.hdI ?_ | refine Spl.mk (fun _ => ?_) (fun _ => ?_) | refine InA.mk (inB_mk (by omega) (by omega)) ?_ | refine Wr.b64 ?_ | refine Wr.bu64 ?_ | refine Wr.bu32 ?_ | refine Wr.bu8 ?_ | refine Wr.u8 (by omega) (by omega) ?_ | refine Wr.u64 (by omega) (by omega) ?_ | refine Wr.u32 (by omega) (by omega) ?_ | refine Dv.pos (by omega) (by omega) ?_ | refine Rm.pos (by omega) (by omega) ?_ | refine ADraw.quiet follows_ok (by kernel_rfl) rfl ?_ | refine ADraw.sched (id := 11) lay_ok (awp_snd lay_ok _) [(0,none),(1,none),(2,none),(3,none),(4,none),(5,none),(6,some [5,4])] [(6,[5,4])] follows_ok (by kernel_rfl) ?_ | refine ADraw.sched (id := 19) lay_ok (awp_snd lay_ok _) [(0,none),(1,none),(2,none),(3,none),(4,none),(5,none),(6,none),(7,none),(8,none),(9,none),(10,none),(11,none),(12,none),(13,none),(14,none),(15,none),(16,none),(17,none),(18,none),(19,some [17,16,11,9,4])] [(10,[9]),(11,[9]),(17,[16,11,9]),(18,[17,16,11,9,4]),(19,[17,16,11,9,4])] follows_ok (by kernel_rfl) ?_ | refine ADraw.sched (id := 20) lay_ok (awp_snd lay_ok _) [(1,none),(2,none),(3,none),(5,none),(6,none),(7,none),(8,none),(0,some []),(4,some []),(9,some [7]),(10,none)] [(0,[]),(4,[]),(8,[7]),(9,[7]),(10,[7])] follows_ok (by kernel_rfl) ?_ | refine BSpl.decY (by first | assumption | omega) ?_ | refine BSpl.decN (by first | assumption | omega) ?_ | refine BSpl.dec (fun _ => ?_) (fun _ => ?_) | refine BSpl.yes (by assumption) ?_ | refine BSpl.no (by assumption) ?_ | refine BSpl.mk (fun _ => ?_) (fun _ => ?_))
         all_goals first
           | exact ble_no (by assumption) (by omega)
           | skip
         conv => whnf
         refine ⟨⟨(i + 1,_),hil,hn.trans (spr_is her)⟩,_,LeR.mk' [(95,90),(98,91)] _ _ _ rfl ⟨AEq.refl _,AEq.refl _,AEq.refl _,AEq.refl _,AEq.int rfl,trivial⟩ ⟨⟨_,rfl,?_⟩,⟨_,rfl,?_⟩,⟨_,rfl,OEq.refl _⟩,trivial⟩ rfl,Nat.sub_succ_lt_self _ _ hil⟩
         · exact OEq.row len_app (els_app1 (c := Ev.cs) (l := out) rfl rfl)
         · refine OEq.isE (c := Ev.cs) (((IsE.nil _).app ((IsE.refl left).take (T.getD (0 : Int).toNat default)) rfl).app ((IsE.refl left).drop _) ?_) ?_ ?_
           · simp only [List.nil_append,List.length_take,Int.toNat_natCast]
             omega
           · simp only [List.nil_append,List.length_append,List.length_take,List.length_drop,Int.toNat_natCast]
             omega
           · simp only [List.nil_append,natCast_succ]
       · repeat' ((conv => whnf); first | refine Spl.yes (by first | assumption | omega) ?_ | refine Spl.no (by first | assumption | omega) ?_ | refine Wr.i64 (by omega) (by omega) ?_ | refine Still.mk rfl rfl ?_ | refine InB.mk (inB_mk (by omega) (by omega)) ?_ | refine Req.mk (by omega) ?_ | refine Req.mk ⟨by first | omega | (dsimp only; omega),by first | omega | (dsimp only; omega)⟩ ?_ | refine InA.lit 1 her rfl ?_ | refine ARet.hdI ?_ | refine Spl.mk (fun _ => ?_) (fun _ => ?_) | refine InA.mk (inB_mk (by omega) (by omega)) ?_ | refine Wr.b64 ?_ | refine Wr.bu64 ?_ | refine Wr.bu32 ?_ | refine Wr.bu8 ?_ | refine Wr.u8 (by omega) (by omega) ?_ | refine Wr.u64 (by omega) (by omega) ?_ | refine Wr.u32 (by omega) (by omega) ?_ | refine Dv.pos (by omega) (by omega) ?_ | refine Rm.pos (by omega) (by omega) ?_ | refine ADraw.quiet follows_ok (by kernel_rfl) rfl ?_ | refine ADraw.sched (id := 11) lay_ok (awp_snd lay_ok _) [(0,none),(1,none),(2,none),(3,none),(4,none),(5,none),(6,some [5,4])] [(6,[5,4])] follows_ok (by kernel_rfl) ?_ | refine ADraw.sched (id := 19) lay_ok (awp_snd lay_ok _) [(0,none),(1,none),(2,none),(3,none),(4,none),(5,none),(6,none),(7,none),(8,none),(9,none),(10,none),(11,none),(12,none),(13,none),(14,none),(15,none),(16,none),(17,none),(18,none),(19,some [17,16,11,9,4])] [(10,[9]),(11,[9]),(17,[16,11,9]),(18,[17,16,11,9,4]),(19,[17,16,11,9,4])] follows_ok (by kernel_rfl) ?_ | refine ADraw.sched (id := 20) lay_ok (awp_snd lay_ok _) [(1,none),(2,none),(3,none),(5,none),(6,none),(7,none),(8,none),(0,some []),(4,some []),(9,some [7]),(10,none)] [(0,[]),(4,[]),(8,[7]),(9,[7]),(10,[7])] follows_ok (by kernel_rfl) ?_ | refine BSpl.decY (by first | assumption | omega) ?_ | refine BSpl.decN (by first | assumption | omega) ?_ | refine BSpl.dec (fun _ => ?_) (fun _ => ?_) | refine BSpl.yes (by assumption) ?_ | refine BSpl.no (by assumption) ?_ | refine BSpl.mk (fun _ => ?_) (fun _ => ?_))
         all_goals first
           | exact ble_no (by assumption) (by omega)
           | skip
         conv => whnf
         refine ⟨⟨(i + 1,_),hil,hn.trans (spr_is her)⟩,_,LeR.mk' [(95,90),(98,91)] _ _ _ rfl ⟨AEq.refl _,AEq.refl _,AEq.refl _,AEq.refl _,AEq.int rfl,trivial⟩ ⟨⟨_,rfl,?_⟩,⟨_,rfl,?_⟩,⟨_,rfl,OEq.refl _⟩,trivial⟩ rfl,Nat.sub_succ_lt_self _ _ hil⟩
         · exact OEq.row len_app (els_app1 (c := Ev.cs) (l := out) rfl rfl)
         · refine OEq.isE (c := Ev.cs) (((IsE.nil _).app ((IsE.refl left).take (T.getD (0 : Int).toNat default)) rfl).app ((IsE.refl left).drop _) ?_) ?_ ?_
           · simp only [List.nil_append,List.length_take,Int.toNat_natCast]
             omega
           · simp only [List.nil_append,List.length_append,List.length_take,List.length_drop,Int.toNat_natCast]
             omega
           · simp only [List.nil_append,natCast_succ]
       · repeat' ((conv => whnf); first | refine Spl.yes (by first | assumption | omega) ?_ | refine Spl.no (by first | assumption | omega) ?_ | refine Wr.i64 (by omega) (by omega) ?_ | refine Still.mk rfl rfl ?_ | refine InB.mk (inB_mk (by omega) (by omega)) ?_ | refine Req.mk (by omega) ?_ | refine Req.mk ⟨by first | omega | (dsimp only; omega),by first | omega | (dsimp only; omega)⟩ ?_ | refine InA.lit 2 her rfl ?_ | refine ARet.hdI ?_ | refine Spl.mk (fun _ => ?_) (fun _ => ?_) | refine InA.mk (inB_mk (by omega) (by omega)) ?_ | refine Wr.b64 ?_ | refine Wr.bu64 ?_ | refine Wr.bu32 ?_ | refine Wr.bu8 ?_ | refine Wr.u8 (by omega) (by omega) ?_ | refine Wr.u64 (by omega) (by omega) ?_ | refine Wr.u32 (by omega) (by omega) ?_ | refine Dv.pos (by omega) (by omega) ?_ | refine Rm.pos (by omega) (by omega) ?_ | refine ADraw.quiet follows_ok (by kernel_rfl) rfl ?_ | refine ADraw.sched (id := 11) lay_ok (awp_snd lay_ok _) [(0,none),(1,none),(2,none),(3,none),(4,none),(5,none),(6,some [5,4])] [(6,[5,4])] follows_ok (by kernel_rfl) ?_ | refine ADraw.sched (id := 19) lay_ok (awp_snd lay_ok _) [(0,none),(1,none),(2,none),(3,none),(4,none),(5,none),(6,none),(7,none),(8,none),(9,none),(10,none),(11,none),(12,none),(13,none),(14,none),(15,none),(16,none),(17,none),(18,none),(19,some [17,16,11,9,4])] [(10,[9]),(11,[9]),(17,[16,11,9]),(18,[17,16,11,9,4]),(19,[17,16,11,9,4])] follows_ok (by kernel_rfl) ?_ | refine ADraw.sched (id := 20) lay_ok (awp_snd lay_ok _) [(1,none),(2,none),(3,none),(5,none),(6,none),(7,none),(8,none),(0,some []),(4,some []),(9,some [7]),(10,none)] [(0,[]),(4,[]),(8,[7]),(9,[7]),(10,[7])] follows_ok (by kernel_rfl) ?_ | refine BSpl.decY (by first | assumption | omega) ?_ | refine BSpl.decN (by first | assumption | omega) ?_ | refine BSpl.dec (fun _ => ?_) (fun _ => ?_) | refine BSpl.yes (by assumption) ?_ | refine BSpl.no (by assumption) ?_ | refine BSpl.mk (fun _ => ?_) (fun _ => ?_))
         all_goals first
           | exact ble_no (by assumption) (by omega)
           | skip
         conv => whnf
         refine ⟨⟨(i + 1,_),hil,hn.trans (spr_is her)⟩,_,LeR.mk' [(95,90),(98,91)] _ _ _ rfl ⟨AEq.refl _,AEq.refl _,AEq.refl _,AEq.refl _,AEq.int rfl,trivial⟩ ⟨⟨_,rfl,?_⟩,⟨_,rfl,?_⟩,⟨_,rfl,OEq.refl _⟩,trivial⟩ rfl,Nat.sub_succ_lt_self _ _ hil⟩
         · exact OEq.row len_app (els_app1 (c := Ev.cs) (l := out) rfl rfl)
         · refine OEq.isE (c := Ev.cs) (((IsE.nil _).app ((IsE.refl left).take (T.getD (0 : Int).toNat default)) rfl).app ((IsE.refl left).drop _) ?_) ?_ ?_
           · simp only [List.nil_append,List.length_take,Int.toNat_natCast]
             omega
           · simp only [List.nil_append,List.length_append,List.length_take,List.length_drop,Int.toNat_natCast]
             omega
           · simp only [List.nil_append,natCast_succ]
       · repeat' ((conv => whnf); first | refine Spl.yes (by first | assumption | omega) ?_ | refine Spl.no (by first | assumption | omega) ?_ | refine Wr.i64 (by omega) (by omega) ?_ | refine Still.mk rfl rfl ?_ | refine InB.mk (inB_mk (by omega) (by omega)) ?_ | refine Req.mk (by omega) ?_ | refine Req.mk ⟨by first | omega | (dsimp only; omega),by first | omega | (dsimp only; omega)⟩ ?_ | refine InA.lit 3 her rfl ?_ | refine ARet.hdI ?_ | refine Spl.mk (fun _ => ?_) (fun _ => ?_) | refine InA.mk (inB_mk (by omega) (by omega)) ?_ | refine Wr.b64 ?_ | refine Wr.bu64 ?_ | refine Wr.bu32 ?_ | refine Wr.bu8 ?_ | refine Wr.u8 (by omega) (by omega) ?_ | refine Wr.u64 (by omega) (by omega) ?_ | refine Wr.u32 (by omega) (by omega) ?_ | refine Dv.pos (by omega) (by omega) ?_ | refine Rm.pos (by omega) (by omega) ?_ | refine ADraw.quiet follows_ok (by kernel_rfl) rfl ?_ | refine ADraw.sched (id := 11) lay_ok (awp_snd lay_ok _) [(0,none),(1,none),(2,none),(3,none),(4,none),(5,none),(6,some [5,4])] [(6,[5,4])] follows_ok (by kernel_rfl) ?_ | refine ADraw.sched (id := 19) lay_ok (awp_snd lay_ok _) [(0,none),(1,none),(2,none),(3,none),(4,none),(5,none),(6,none),(7,none),(8,none),(9,none),(10,none),(11,none),(12,none),(13,none),(14,none),(15,none),(16,none),(17,none),(18,none),(19,some [17,16,11,9,4])] [(10,[9]),(11,[9]),(17,[16,11,9]),(18,[17,16,11,9,4]),(19,[17,16,11,9,4])] follows_ok (by kernel_rfl) ?_ | refine ADraw.sched (id := 20) lay_ok (awp_snd lay_ok _) [(1,none),(2,none),(3,none),(5,none),(6,none),(7,none),(8,none),(0,some []),(4,some []),(9,some [7]),(10,none)] [(0,[]),(4,[]),(8,[7]),(9,[7]),(10,[7])] follows_ok (by kernel_rfl) ?_ | refine BSpl.decY (by first | assumption | omega) ?_ | refine BSpl.decN (by first | assumption | omega) ?_ | refine BSpl.dec (fun _ => ?_) (fun _ => ?_) | refine BSpl.yes (by assumption) ?_ | refine BSpl.no (by assumption) ?_ | refine BSpl.mk (fun _ => ?_) (fun _ => ?_))
         all_goals first
           | exact ble_no (by assumption) (by omega)
           | skip
         conv => whnf
         refine ⟨⟨(i + 1,_),hil,hn.trans (spr_is her)⟩,_,LeR.mk' [(95,90),(98,91)] _ _ _ rfl ⟨AEq.refl _,AEq.refl _,AEq.refl _,AEq.refl _,AEq.int rfl,trivial⟩ ⟨⟨_,rfl,?_⟩,⟨_,rfl,?_⟩,⟨_,rfl,OEq.refl _⟩,trivial⟩ rfl,Nat.sub_succ_lt_self _ _ hil⟩
         · exact OEq.row len_app (els_app1 (c := Ev.cs) (l := out) rfl rfl)
         · refine OEq.isE (c := Ev.cs) (((IsE.nil _).app ((IsE.refl left).take (T.getD (0 : Int).toNat default)) rfl).app ((IsE.refl left).drop _) ?_) ?_ ?_
           · simp only [List.nil_append,List.length_take,Int.toNat_natCast]
             omega
           · simp only [List.nil_append,List.length_append,List.length_take,List.length_drop,Int.toNat_natCast]
             omega
           · simp only [List.nil_append,natCast_succ]
       · repeat' ((conv => whnf); first | refine Spl.yes (by first | assumption | omega) ?_ | refine Spl.no (by first | assumption | omega) ?_ | refine Wr.i64 (by omega) (by omega) ?_ | refine Still.mk rfl rfl ?_ | refine InB.mk (inB_mk (by omega) (by omega)) ?_ | refine Req.mk (by omega) ?_ | refine Req.mk ⟨by first | omega | (dsimp only; omega),by first | omega | (dsimp only; omega)⟩ ?_ | refine InA.lit 4 her rfl ?_ | refine ARet.hdI ?_ | refine Spl.mk (fun _ => ?_) (fun _ => ?_) | refine InA.mk (inB_mk (by omega) (by omega)) ?_ | refine Wr.b64 ?_ | refine Wr.bu64 ?_ | refine Wr.bu32 ?_ | refine Wr.bu8 ?_ | refine Wr.u8 (by omega) (by omega) ?_ | refine Wr.u64 (by omega) (by omega) ?_ | refine Wr.u32 (by omega) (by omega) ?_ | refine Dv.pos (by omega) (by omega) ?_ | refine Rm.pos (by omega) (by omega) ?_ | refine ADraw.quiet follows_ok (by kernel_rfl) rfl ?_ | refine ADraw.sched (id := 11) lay_ok (awp_snd lay_ok _) [(0,none),(1,none),(2,none),(3,none),(4,none),(5,none),(6,some [5,4])] [(6,[5,4])] follows_ok (by kernel_rfl) ?_ | refine ADraw.sched (id := 19) lay_ok (awp_snd lay_ok _) [(0,none),(1,none),(2,none),(3,none),(4,none),(5,none),(6,none),(7,none),(8,none),(9,none),(10,none),(11,none),(12,none),(13,none),(14,none),(15,none),(16,none),(17,none),(18,none),(19,some [17,16,11,9,4])] [(10,[9]),(11,[9]),(17,[16,11,9]),(18,[17,16,11,9,4]),(19,[17,16,11,9,4])] follows_ok (by kernel_rfl) ?_ | refine ADraw.sched (id := 20) lay_ok (awp_snd lay_ok _) [(1,none),(2,none),(3,none),(5,none),(6,none),(7,none),(8,none),(0,some []),(4,some []),(9,some [7]),(10,none)] [(0,[]),(4,[]),(8,[7]),(9,[7]),(10,[7])] follows_ok (by kernel_rfl) ?_ | refine BSpl.decY (by first | assumption | omega) ?_ | refine BSpl.decN (by first | assumption | omega) ?_ | refine BSpl.dec (fun _ => ?_) (fun _ => ?_) | refine BSpl.yes (by assumption) ?_ | refine BSpl.no (by assumption) ?_ | refine BSpl.mk (fun _ => ?_) (fun _ => ?_))
         all_goals first
           | exact ble_no (by assumption) (by omega)
           | skip
         conv => whnf
         refine ⟨⟨(i + 1,_),hil,hn.trans (spr_is her)⟩,_,LeR.mk' [(95,90),(98,91)] _ _ _ rfl ⟨AEq.refl _,AEq.refl _,AEq.refl _,AEq.refl _,AEq.int rfl,trivial⟩ ⟨⟨_,rfl,?_⟩,⟨_,rfl,?_⟩,⟨_,rfl,OEq.refl _⟩,trivial⟩ rfl,Nat.sub_succ_lt_self _ _ hil⟩
         · exact OEq.row len_app (els_app1 (c := Ev.cs) (l := out) rfl rfl)
         · refine OEq.isE (c := Ev.cs) (((IsE.nil _).app ((IsE.refl left).take (T.getD (0 : Int).toNat default)) rfl).app ((IsE.refl left).drop _) ?_) ?_ ?_
           · simp only [List.nil_append,List.length_take,Int.toNat_natCast]
             omega
           · simp only [List.nil_append,List.length_append,List.length_take,List.length_drop,Int.toNat_natCast]
             omega
           · simp only [List.nil_append,natCast_succ]
 · rw [hR (by omega)]
   repeat' ((conv => whnf); first | refine Spl.yes (by first | assumption | omega) ?_ | refine Spl.no (by first | assumption | omega) ?_ | refine Wr.i64 (by omega) (by omega) ?_ | refine Still.mk rfl rfl ?_ | refine InB.mk (inB_mk (by omega) (by omega)) ?_ | refine Req.mk (by omega) ?_ | refine Req.mk ⟨by first | omega | (dsimp only; omega),by first | omega | (dsimp only; omega)⟩ ?_ | refine ARet.hdI ?_ | refine Spl.mk (fun _ => ?_) (fun _ => ?_) | refine InA.mk (inB_mk (by omega) (by omega)) ?_ | refine Wr.b64 ?_ | refine Wr.bu64 ?_ | refine Wr.bu32 ?_ | refine Wr.bu8 ?_ | refine Wr.u8 (by omega) (by omega) ?_ | refine Wr.u64 (by omega) (by omega) ?_ | refine Wr.u32 (by omega) (by omega) ?_ | refine Dv.pos (by omega) (by omega) ?_ | refine Rm.pos (by omega) (by omega) ?_ | refine ADraw.quiet follows_ok (by kernel_rfl) rfl ?_ | refine ADraw.sched (id := 11) lay_ok (awp_snd lay_ok _) [(0,none),(1,none),(2,none),(3,none),(4,none),(5,none),(6,some [5,4])] [(6,[5,4])] follows_ok (by kernel_rfl) ?_ | refine ADraw.sched (id := 19) lay_ok (awp_snd lay_ok _) [(0,none),(1,none),(2,none),(3,none),(4,none),(5,none),(6,none),(7,none),(8,none),(9,none),(10,none),(11,none),(12,none),(13,none),(14,none),(15,none),(16,none),(17,none),(18,none),(19,some [17,16,11,9,4])] [(10,[9]),(11,[9]),(17,[16,11,9]),(18,[17,16,11,9,4]),(19,[17,16,11,9,4])] follows_ok (by kernel_rfl) ?_ | refine ADraw.sched (id := 20) lay_ok (awp_snd lay_ok _) [(1,none),(2,none),(3,none),(5,none),(6,none),(7,none),(8,none),(0,some []),(4,some []),(9,some [7]),(10,none)] [(0,[]),(4,[]),(8,[7]),(9,[7]),(10,[7])] follows_ok (by kernel_rfl) ?_ | refine BSpl.decY (by first | assumption | omega) ?_ | refine BSpl.decN (by first | assumption | omega) ?_ | refine BSpl.dec (fun _ => ?_) (fun _ => ?_) | refine BSpl.yes (by assumption) ?_ | refine BSpl.no (by assumption) ?_ | refine BSpl.mk (fun _ => ?_) (fun _ => ?_))
   conv => whnf
   exact AEqI.mk (AEq.refl _)
end Go.Proofs.YtkkpfjifkjbndaaGreat
