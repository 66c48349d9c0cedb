/-
  Contracts of the walk: NdL, NdN, Open, OpenH, NdO.
-/
import Derived.Test.YtimhagicagdkfaaGreatNdX23
import Derived.Test.YtimhagicagdkfaaGreatNdX9
/-
 A replica: Start.
-/
namespace Go.Proofs.YtimhagicagdkfaaGreat
open Go.RowKit
set_option maxHeartbeats 16000000 in
set_option maxRecDepth 100000 in
theorem nd_start_m (h : Nd) (hup : h.up = false) (l : List Rc) (t : List UInt8) (hr : Recs h.d.bs l t) (hl : h.d.bs.length ≤ 1000000000) (hb : ∀ j,j ≤ l.length → (rpL (l.take j)).1.length ≤ 1000000) (hev : ∀ j,j < l.length → (l.getD j default).ev.length ≤ 1000000) (hG : LogOk (rpL l).1) (hs : 0 ≤ (rpL l).2 ∧ (rpL l).2 ≤ 1000000) :
  MSpec Tryz.prog 26 [(0, .obs (ndO h))] [.box 0 0] (.v (.int .i64 0)) [(0, .obs (ndO ⟨h.c,h.r,true,⟨rcsB l,false,false,h.d.keep⟩,(rpL l).1,(rpL l).2,clkL (rpL l).1,[],waitL h.c.q (rpL l).2 h.r (rpL l).1⟩))] := by
 refine nd_opnN (ho := []) 15 16 17 18 19 20 ⟨_,_,Tryz.func26,rfl,rfl⟩ rfl ?_ rfl
 rw [List.append_nil]
 have hcl := fun d => clone_own d h.d.bs (IsB.bytes _) rfl hl
 have hall := all_spec h.d.bs (IsB.bytes _) rfl hl hr
 have hbl : (rcsB l).length ≤ h.d.bs.length := by rw [hr.eq,List.length_append]; omega
 have htk : h.d.bs.take (rcsB l).length = rcsB l := by conv => lhs; rw [hr.eq]
                                                       rw [List.take_left]
 have htr := dk_trim_m ⟨h.d.bs,false,false,h.d.keep⟩ (rcsB l).length hbl hl
 dsimp only at htr
 rw [htk] at htr
 have hll := rcsB_len l
 obtain ⟨c,r,up,⟨bs,down,cut,keep⟩,log0,sent0,ic0,held0,wait0⟩ := h
 dsimp only [ndH,ndN,ndB,dkB,bRow] at *
 subst hup
 generalize rcsB l = w at *
 clear hr htk
 refine K1.M 0x40c7800008bd Tryz.func26 40 ?_
 repeat' ((conv => whnf); first | refine K1.w ?_ | refine K1.u ?_ | refine K1.F1 (hcl _) rfl ?_ | refine K1.P1 (hall) rfl ?_ | refine K1.C 2 [(0,_),(1,_)] (htr) rfl ?_ | refine K1.I 0x85 Tryz.func47 ?_ | refine K1.I 0x1 Tryz.func59 ?_ | refine K1.I 0x5 Tryz.func61 ?_ | refine CSem.scope lay_ok 0x40c7800008bd ?_ | refine CSem.label ?_ | refine K1.o (id := 15) [(0,none),(1,none),(2,none),(3,none),(4,none),(5,none),(6,some [4]),(7,none),(8,none),(9,some [4,3,7])] [(5,[4]),(6,[4]),(7,[4,3]),(8,[4,3,7]),(9,[4,3,7])] ?_ | refine K1.o (id := 16) [(0,none),(1,none),(2,none),(3,none),(4,none),(5,none),(6,none),(7,some [6,4,2]),(8,none),(9,none),(10,some [6,4,2,8])] [(3,[2]),(4,[2]),(7,[6,4,2]),(8,[6,4,2]),(9,[6,4,2,8]),(10,[6,4,2,8])] ?_ | refine K1.z ?_ | refine K1.y (fun _ => ?_) (fun _ => ?_) | fail)
 all_goals (conv => whnf)
 refine ALoop.nilB 0 9 45 42 12 (evF []) (by decide) rfl rfl ?_
 refine ALoop.mk { j : Nat // j ≤ l.length } (fun j => ⟨[(33, .v (.int .i64 (j.1 : Int))),(32, .v (.int .i64 (l.length : Int))),(31, .sl 9 l.length false (rcF l)),(0, .box 0 0),(2, .v (.int .i64 0))],
   [(0, .box 82 [.v (.int .i64 c.n), .v (.int .i64 c.w), .v (.int .i64 c.q), .v (.int .i64 c.h), .v (.int .i64 c.l), .v (.int .i64 c.p), .v (.int .i64 (r : Int)), .v (.bool false), .box 8 0, .own 45, .v (.int .i64 (rpL (l.take j.1)).2), .box 11 0, .box 12 0, .box 13 0]),(8, .box 146 [.own 41, .v (.bool false), .v (.bool false), .v (.int .i64 keep)]),(41, .row 5 1 w.length true (bytesF w)),(11, .obs (bookO log0 log0.length)),(12,ibB c.h ic0 (slE held0)),(13,ouB c.q c.w sent0 (.own 14)),(14,evRow wait0),(45,evRow (rpL (l.take j.1)).1)],
   [[(0, .box 0 0),(1, .box 8 0),(2, .own 11),(3, .box 12 0),(4, .box 13 0),(5, .own 9),(6, .own 10),(7, .own 14)]],50⟩) (fun j => l.length - j.1) ⟨0,Nat.zero_le _⟩ _
  (LeR.mk' [] _ _ _ rfl ⟨AEq.int rfl,AEq.refl _,AEq.refl _,AEq.refl _,AEq.refl _,trivial⟩ ⟨⟨_,rfl,OEq.refl _⟩,⟨_,rfl,OEq.refl _⟩,⟨_,rfl,OEq.refl _⟩,⟨_,rfl,OEq.refl _⟩,⟨_,rfl,OEq.refl _⟩,⟨_,rfl,OEq.refl _⟩,⟨_,rfl,OEq.refl _⟩,⟨_,rfl,OEq.refl _⟩,trivial⟩ rfl) ?_
 rintro ⟨j,hj⟩
 dsimp only
 by_cases hjl : j < l.length
 · have hst := rpL_take hjl
   have hb0 := hb j hj
   have hb1 := hev j hjl
   rw [show l.getD j default = l.getD (j : Int).toNat default from rfl] at hst hb1
   generalize rpL (l.take j) = q at hst hb0 ⊢
   obtain ⟨q1,q2⟩ := q
   unfold repS at hst
   dsimp only at hst hb0 ⊢
   by_cases hk3 : (l.getD (j : Int).toNat default).k = 3
   · rw [if_pos hk3] at hst
     repeat' ((conv => whnf); first | refine K1.w ?_ | refine K1.u ?_ | refine K1.o (id := 15) [(0,none),(1,none),(2,none),(3,none),(4,none),(5,none),(6,some [4]),(7,none),(8,none),(9,some [4,3,7])] [(5,[4]),(6,[4]),(7,[4,3]),(8,[4,3,7]),(9,[4,3,7])] ?_ | refine K1.o (id := 16) [(0,none),(1,none),(2,none),(3,none),(4,none),(5,none),(6,none),(7,some [6,4,2]),(8,none),(9,none),(10,some [6,4,2,8])] [(3,[2]),(4,[2]),(7,[6,4,2]),(8,[6,4,2]),(9,[6,4,2,8]),(10,[6,4,2,8])] ?_ | refine K1.z ?_ | refine K1.y (fun _ => ?_) (fun _ => ?_) | fail)
     all_goals (conv => whnf)
     exact ⟨⟨j + 1,hjl⟩,_,LeR.mk' [] _ _ _ rfl ⟨AEq.int rfl,AEq.refl _,AEq.refl _,AEq.refl _,AEq.refl _,trivial⟩ ⟨⟨_,rfl,by dsimp only; rw [hst]; exact OEq.refl _⟩,⟨_,rfl,OEq.refl _⟩,⟨_,rfl,OEq.refl _⟩,⟨_,rfl,OEq.refl _⟩,⟨_,rfl,OEq.refl _⟩,⟨_,rfl,OEq.refl _⟩,⟨_,rfl,OEq.refl _⟩,⟨_,rfl,by dsimp only; rw [hst]; exact OEq.refl _⟩,trivial⟩ rfl,by show l.length - (j + 1) < l.length - j; omega⟩
   · rw [if_neg hk3] at hst
     by_cases hk4 : (l.getD (j : Int).toNat default).k = 4
     · rw [if_pos hk4] at hst
       repeat' ((conv => whnf); first | refine K1.w ?_ | refine K1.u ?_ | refine K1.o (id := 15) [(0,none),(1,none),(2,none),(3,none),(4,none),(5,none),(6,some [4]),(7,none),(8,none),(9,some [4,3,7])] [(5,[4]),(6,[4]),(7,[4,3]),(8,[4,3,7]),(9,[4,3,7])] ?_ | refine K1.o (id := 16) [(0,none),(1,none),(2,none),(3,none),(4,none),(5,none),(6,none),(7,some [6,4,2]),(8,none),(9,none),(10,some [6,4,2,8])] [(3,[2]),(4,[2]),(7,[6,4,2]),(8,[6,4,2]),(9,[6,4,2,8]),(10,[6,4,2,8])] ?_ | refine K1.z ?_ | refine K1.y (fun _ => ?_) (fun _ => ?_) | fail)
       all_goals (conv => whnf)
       exact ⟨⟨j + 1,hjl⟩,_,LeR.mk' [(51,45)] _ _ _ rfl ⟨AEq.int rfl,AEq.refl _,AEq.refl _,AEq.refl _,AEq.refl _,trivial⟩ ⟨⟨_,rfl,by dsimp only; rw [hst]; exact OEq.refl _⟩,⟨_,rfl,OEq.refl _⟩,⟨_,rfl,OEq.refl _⟩,⟨_,rfl,OEq.refl _⟩,⟨_,rfl,OEq.refl _⟩,⟨_,rfl,OEq.refl _⟩,⟨_,rfl,OEq.refl _⟩,⟨_,rfl,by dsimp only; rw [hst]; exact OEq.refl _⟩,trivial⟩ rfl,by show l.length - (j + 1) < l.length - j; omega⟩
     · rw [if_neg hk4] at hst
       repeat' ((conv => whnf); first | refine K1.w ?_ | refine K1.u ?_ | refine K1.o (id := 15) [(0,none),(1,none),(2,none),(3,none),(4,none),(5,none),(6,some [4]),(7,none),(8,none),(9,some [4,3,7])] [(5,[4]),(6,[4]),(7,[4,3]),(8,[4,3,7]),(9,[4,3,7])] ?_ | refine K1.o (id := 16) [(0,none),(1,none),(2,none),(3,none),(4,none),(5,none),(6,none),(7,some [6,4,2]),(8,none),(9,none),(10,some [6,4,2,8])] [(3,[2]),(4,[2]),(7,[6,4,2]),(8,[6,4,2]),(9,[6,4,2,8]),(10,[6,4,2,8])] ?_ | refine K1.z ?_ | refine K1.y (fun _ => ?_) (fun _ => ?_) | fail)
       all_goals (conv => whnf)
       exact ⟨⟨j + 1,hjl⟩,_,LeR.mk' [(51,45)] _ _ _ rfl ⟨AEq.int rfl,AEq.refl _,AEq.refl _,AEq.refl _,AEq.refl _,trivial⟩ ⟨⟨_,rfl,by dsimp only; rw [hst]; exact OEq.refl _⟩,⟨_,rfl,OEq.refl _⟩,⟨_,rfl,OEq.refl _⟩,⟨_,rfl,OEq.refl _⟩,⟨_,rfl,OEq.refl _⟩,⟨_,rfl,OEq.refl _⟩,⟨_,rfl,OEq.refl _⟩,⟨_,rfl,by dsimp only; rw [hst]; exact OEq.row (by rw [List.length_append]) fun m _ => els_app rfl m⟩,trivial⟩ rfl,by show l.length - (j + 1) < l.length - j; omega⟩
 · obtain rfl : j = l.length := by omega
   rw [List.take_length]
   have hgl := hG.len
   generalize rpL l = q at hG hs hgl ⊢
   obtain ⟨L,sn⟩ := q
   dsimp only at hG hs hgl ⊢
   clear hall hcl htr hb hev
   repeat' ((conv => whnf); first | refine K1.w ?_ | refine K1.u ?_ | refine K1.C 0 [] (new_b) rfl ?_ | refine K1.C 0 [] (ou_new_m c.q c.w sn) rfl ?_ | refine K1.I 0x80000003c0000015 Tryz.func63 ?_ | refine K1.o (id := 15) [(0,none),(1,none),(2,none),(3,none),(4,none),(5,none),(6,some [4]),(7,none),(8,none),(9,some [4,3,7])] [(5,[4]),(6,[4]),(7,[4,3]),(8,[4,3,7]),(9,[4,3,7])] ?_ | refine K1.o (id := 16) [(0,none),(1,none),(2,none),(3,none),(4,none),(5,none),(6,none),(7,some [6,4,2]),(8,none),(9,none),(10,some [6,4,2,8])] [(3,[2]),(4,[2]),(7,[6,4,2]),(8,[6,4,2]),(9,[6,4,2,8]),(10,[6,4,2,8])] ?_ | refine K1.o (id := 2) [(0,none),(1,none),(2,none),(3,none),(4,none),(5,none),(6,none),(7,none),(8,none),(9,none),(10,none),(11,none),(12,none),(13,none),(14,none),(15,some [14,12,10,7,5,2]),(16,none),(17,none),(18,some [14,12,10,7,5,2,16])] [(3,[2]),(4,[2]),(5,[2]),(8,[7]),(9,[7]),(10,[7]),(13,[12]),(14,[12]),(15,[14,12,10,7,5,2]),(16,[14,12,10,7,5,2]),(17,[14,12,10,7,5,2,16]),(18,[14,12,10,7,5,2,16])] ?_ | refine K1.o (id := 7) [(0,none),(1,none),(2,none),(3,none),(4,none),(5,some [4,3,1])] [(2,[1]),(3,[1]),(5,[4,3,1])] ?_ | refine K1.o (id := 9) [(0,none),(1,none),(2,none),(3,none),(4,none),(5,some [4,3,1])] [(2,[1]),(3,[1]),(5,[4,3,1])] ?_ | refine K1.o (id := 11) [(0,none),(1,none),(2,none),(3,none),(4,none),(5,none),(6,none),(7,some [6,5,2]),(8,none),(9,none),(10,some [6,5,2,8])] [(3,[2]),(4,[2]),(5,[2]),(7,[6,5,2]),(8,[6,5,2]),(9,[6,5,2,8]),(10,[6,5,2,8])] ?_ | refine K1.z ?_ | refine K1.y (fun _ => ?_) (fun _ => ?_) | fail)
   all_goals (conv => whnf)
   refine ALoop.nilB 52 3 55 42 12 (evF []) (by decide) rfl rfl ?_
   refine ALoop.mk { i : Nat // i ≤ L.length } (fun i => ⟨[(32, .v (.int .i64 (i.1 : Int))),(31, .v (.int .i64 (L.length : Int))),(30, .own 45),(2, .box 50 0),(0, .box 0 0)],
    [(52, .box 132 [.v (.int .i64 c.q), .v (.int .i64 c.w), .v (.int .i64 sn), .own 55]),(51, .obs (bookO (L.take i.1) i.1)),(50, .box 31 (clkL (L.take i.1)).cs),(0, .box 82 [.v (.int .i64 c.n), .v (.int .i64 c.w), .v (.int .i64 c.q), .v (.int .i64 c.h), .v (.int .i64 c.l), .v (.int .i64 c.p), .v (.int .i64 (r : Int)), .v (.bool false), .box 8 0, .own 45, .v (.int .i64 sn), .box 51 0, .box 12 0, .box 52 0]),(8, .box 146 [.own 41, .v (.bool false), .v (.bool false), .v (.int .i64 keep)]),(41, .row 5 1 w.length true (bytesF w)),(12,ibB c.h ic0 (slE held0)),(45,evRow L),(55,evRow (waitL c.q sn r (L.take i.1)))],
    [[(67, .box 0 0),(34, .v (.bool false)),(33, .v (.int .i64 (l.length : Int))),(32, .v (.int .i64 (l.length : Int))),(31, .sl 9 l.length false (rcF l)),(0, .box 0 0),(2, .v (.int .i64 0))],[(0, .box 0 0),(1, .box 8 0),(2, .own 11),(3, .box 12 0),(4, .box 13 0),(5, .own 9),(6, .own 10),(7, .own 14)]],60⟩) (fun i => L.length - i.1) ⟨0,Nat.zero_le _⟩ _
    (LeR.mk' [] _ _ _ rfl ⟨AEq.int rfl,AEq.refl _,AEq.refl _,AEq.refl _,AEq.refl _,trivial⟩ ⟨⟨_,rfl,OEq.refl _⟩,⟨_,rfl,OEq.refl _⟩,⟨_,rfl,OEq.refl _⟩,⟨_,rfl,OEq.refl _⟩,⟨_,rfl,OEq.refl _⟩,⟨_,rfl,OEq.refl _⟩,⟨_,rfl,OEq.refl _⟩,⟨_,rfl,OEq.refl _⟩,⟨_,rfl,OEq.refl _⟩,trivial⟩ rfl) ?_
   rintro ⟨i,hi⟩
   dsimp only [Clk.cs]
   have hcb := clkL_le (L.take i)
   rw [List.length_take,Nat.min_eq_left hi] at hcb
   by_cases hil : i < L.length
   · have hap := apply_b (hG.nx i hil) (hG.may i hil) (by rw [List.length_take]; omega) i
     have her := hG.r i hil
     have hct := clkL_take hil
     have hwt := waitL_take (q := c.q) (sent := sn) (r := r) hil
     have hwl := waitF_len (q := c.q) (sent := sn) (r := r) (L.take i) []
     have hwn := fun j => wait_n (q := c.q) (sent := sn) (r := r) (l := L.take i) (fun e he => hG.n e (List.mem_of_mem_take he)) j
     rw [List.length_take,Nat.min_eq_left hi,List.length_nil,Nat.zero_add] at hwl
     rw [← take_snoc hil] at hap
     rw [show L.getD i default = L.getD (i : Int).toNat default from rfl] at hap her hct hwt
     obtain ⟨⟨w',x⟩,hwx⟩ : ∃ z,addO c.q sn (waitL c.q sn r (L.take i)) (L.getD (i : Int).toNat default) = z := ⟨_,rfl⟩
     have had := ou_add_m c.q c.w sn _ w' (L.getD (i : Int).toNat default) x (by show (waitL c.q sn r (L.take i)).length ≤ _; unfold waitL; omega) (by omega) (fun j => by have := hwn j; omega) hwx
     unfold waitS at hwt
     rw [hwx] at hwt
     clear hwx hwn hwl hG
     generalize waitL c.q sn r (L.take i) = wt at hwt had ⊢
     generalize clkL (L.take i) = ck at hct hcb ⊢
     obtain ⟨c0,c1,c2,c3,c4⟩ := ck
     unfold Clk.upto at hcb
     dsimp only [Ev.av,Ev.cs,ouB] at *
     have hble : Nat.ble ((i : Int).toNat + 1) L.length = true := Nat.ble_eq_true_of_le (by omega)
     rcases (show (L.getD (i : Int).toNat default).r = 0 ∨ (L.getD (i : Int).toNat default).r = 1 ∨ (L.getD (i : Int).toNat default).r = 2 ∨ (L.getD (i : Int).toNat default).r = 3 ∨ (L.getD (i : Int).toNat default).r = 4 by omega) with hr0 | hr0 | hr0 | hr0 | hr0
     all_goals
      rw [hr0] at hct
      simp only [Clk.inc,Int.toNat_zero,Int.toNat_one,Int.reduceToNat] at hct
      by_cases ho : (L.getD (i : Int).toNat default).r = (r : Int)
      · by_cases hn : sn < (L.getD (i : Int).toNat default).n
        · rw [if_pos ⟨ho,hn⟩] at hwt
          repeat' ((conv => whnf); first | refine K1.w ?_ | refine K1.u ?_ | refine K1.C 1 [(0,_)] (hap) rfl ?_ | refine K1.C 2 [(0,_),(1,_)] (had) rfl ?_ | refine BSpl.yes hble ?_ | refine InA.lit 0 hr0 rfl ?_ | refine InA.lit 1 hr0 rfl ?_ | refine InA.lit 2 hr0 rfl ?_ | refine InA.lit 3 hr0 rfl ?_ | refine InA.lit 4 hr0 rfl ?_ | refine K1.I 0x80000003c0000015 Tryz.func63 ?_ | refine K1.o (id := 15) [(0,none),(1,none),(2,none),(3,none),(4,none),(5,none),(6,some [4]),(7,none),(8,none),(9,some [4,3,7])] [(5,[4]),(6,[4]),(7,[4,3]),(8,[4,3,7]),(9,[4,3,7])] ?_ | refine K1.o (id := 16) [(0,none),(1,none),(2,none),(3,none),(4,none),(5,none),(6,none),(7,some [6,4,2]),(8,none),(9,none),(10,some [6,4,2,8])] [(3,[2]),(4,[2]),(7,[6,4,2]),(8,[6,4,2]),(9,[6,4,2,8]),(10,[6,4,2,8])] ?_ | refine K1.o (id := 2) [(0,none),(1,none),(2,none),(3,none),(4,none),(5,none),(6,none),(7,none),(8,none),(9,none),(10,none),(11,none),(12,none),(13,none),(14,none),(15,some [14,12,10,7,5,2]),(16,none),(17,none),(18,some [14,12,10,7,5,2,16])] [(3,[2]),(4,[2]),(5,[2]),(8,[7]),(9,[7]),(10,[7]),(13,[12]),(14,[12]),(15,[14,12,10,7,5,2]),(16,[14,12,10,7,5,2]),(17,[14,12,10,7,5,2,16]),(18,[14,12,10,7,5,2,16])] ?_ | refine K1.o (id := 7) [(0,none),(1,none),(2,none),(3,none),(4,none),(5,some [4,3,1])] [(2,[1]),(3,[1]),(5,[4,3,1])] ?_ | refine K1.o (id := 9) [(0,none),(1,none),(2,none),(3,none),(4,none),(5,some [4,3,1])] [(2,[1]),(3,[1]),(5,[4,3,1])] ?_ | refine K1.o (id := 11) [(0,none),(1,none),(2,none),(3,none),(4,none),(5,none),(6,none),(7,some [6,5,2]),(8,none),(9,none),(10,some [6,5,2,8])] [(3,[2]),(4,[2]),(5,[2]),(7,[6,5,2]),(8,[6,5,2]),(9,[6,5,2,8]),(10,[6,5,2,8])] ?_ | refine K1.z ?_ | refine K1.y (fun _ => ?_) (fun _ => ?_) | fail)
          all_goals (conv => whnf)
          exact ⟨⟨i + 1,hil⟩,_,LeR.mk' [(62,55)] _ _ _ rfl ⟨AEq.int rfl,AEq.refl _,AEq.refl _,AEq.refl _,AEq.refl _,trivial⟩ ⟨⟨_,rfl,OEq.refl _⟩,⟨_,rfl,OEq.refl _⟩,⟨_,rfl,by dsimp only; rw [hct]; exact OEq.refl _⟩,⟨_,rfl,OEq.refl _⟩,⟨_,rfl,OEq.refl _⟩,⟨_,rfl,OEq.refl _⟩,⟨_,rfl,OEq.refl _⟩,⟨_,rfl,OEq.refl _⟩,⟨_,rfl,by dsimp only; rw [hwt]; exact OEq.refl _⟩,trivial⟩ rfl,by show L.length - (i + 1) < L.length - i; omega⟩
        · rw [if_neg (fun h => hn h.2)] at hwt
          clear had
          repeat' ((conv => whnf); first | refine K1.w ?_ | refine K1.u ?_ | refine K1.C 1 [(0,_)] (hap) rfl ?_ | refine K1.C 2 [(0,_),(1,_)] (had) rfl ?_ | refine BSpl.yes hble ?_ | refine InA.lit 0 hr0 rfl ?_ | refine InA.lit 1 hr0 rfl ?_ | refine InA.lit 2 hr0 rfl ?_ | refine InA.lit 3 hr0 rfl ?_ | refine InA.lit 4 hr0 rfl ?_ | refine K1.I 0x80000003c0000015 Tryz.func63 ?_ | refine K1.o (id := 15) [(0,none),(1,none),(2,none),(3,none),(4,none),(5,none),(6,some [4]),(7,none),(8,none),(9,some [4,3,7])] [(5,[4]),(6,[4]),(7,[4,3]),(8,[4,3,7]),(9,[4,3,7])] ?_ | refine K1.o (id := 16) [(0,none),(1,none),(2,none),(3,none),(4,none),(5,none),(6,none),(7,some [6,4,2]),(8,none),(9,none),(10,some [6,4,2,8])] [(3,[2]),(4,[2]),(7,[6,4,2]),(8,[6,4,2]),(9,[6,4,2,8]),(10,[6,4,2,8])] ?_ | refine K1.o (id := 2) [(0,none),(1,none),(2,none),(3,none),(4,none),(5,none),(6,none),(7,none),(8,none),(9,none),(10,none),(11,none),(12,none),(13,none),(14,none),(15,some [14,12,10,7,5,2]),(16,none),(17,none),(18,some [14,12,10,7,5,2,16])] [(3,[2]),(4,[2]),(5,[2]),(8,[7]),(9,[7]),(10,[7]),(13,[12]),(14,[12]),(15,[14,12,10,7,5,2]),(16,[14,12,10,7,5,2]),(17,[14,12,10,7,5,2,16]),(18,[14,12,10,7,5,2,16])] ?_ | refine K1.o (id := 7) [(0,none),(1,none),(2,none),(3,none),(4,none),(5,some [4,3,1])] [(2,[1]),(3,[1]),(5,[4,3,1])] ?_ | refine K1.o (id := 9) [(0,none),(1,none),(2,none),(3,none),(4,none),(5,some [4,3,1])] [(2,[1]),(3,[1]),(5,[4,3,1])] ?_ | refine K1.o (id := 11) [(0,none),(1,none),(2,none),(3,none),(4,none),(5,none),(6,none),(7,some [6,5,2]),(8,none),(9,none),(10,some [6,5,2,8])] [(3,[2]),(4,[2]),(5,[2]),(7,[6,5,2]),(8,[6,5,2]),(9,[6,5,2,8]),(10,[6,5,2,8])] ?_ | refine K1.z ?_ | refine K1.y (fun _ => ?_) (fun _ => ?_) | fail)
          all_goals (conv => whnf)
          exact ⟨⟨i + 1,hil⟩,_,LeR.mk' [] _ _ _ rfl ⟨AEq.int rfl,AEq.refl _,AEq.refl _,AEq.refl _,AEq.refl _,trivial⟩ ⟨⟨_,rfl,OEq.refl _⟩,⟨_,rfl,OEq.refl _⟩,⟨_,rfl,by dsimp only; rw [hct]; exact OEq.refl _⟩,⟨_,rfl,OEq.refl _⟩,⟨_,rfl,OEq.refl _⟩,⟨_,rfl,OEq.refl _⟩,⟨_,rfl,OEq.refl _⟩,⟨_,rfl,OEq.refl _⟩,⟨_,rfl,by dsimp only; rw [hwt]; exact OEq.refl _⟩,trivial⟩ rfl,by show L.length - (i + 1) < L.length - i; omega⟩
      · rw [if_neg (fun h => ho h.1)] at hwt
        clear had
        repeat' ((conv => whnf); first | refine K1.w ?_ | refine K1.u ?_ | refine K1.C 1 [(0,_)] (hap) rfl ?_ | refine K1.C 2 [(0,_),(1,_)] (had) rfl ?_ | refine BSpl.yes hble ?_ | refine InA.lit 0 hr0 rfl ?_ | refine InA.lit 1 hr0 rfl ?_ | refine InA.lit 2 hr0 rfl ?_ | refine InA.lit 3 hr0 rfl ?_ | refine InA.lit 4 hr0 rfl ?_ | refine K1.I 0x80000003c0000015 Tryz.func63 ?_ | refine K1.o (id := 15) [(0,none),(1,none),(2,none),(3,none),(4,none),(5,none),(6,some [4]),(7,none),(8,none),(9,some [4,3,7])] [(5,[4]),(6,[4]),(7,[4,3]),(8,[4,3,7]),(9,[4,3,7])] ?_ | refine K1.o (id := 16) [(0,none),(1,none),(2,none),(3,none),(4,none),(5,none),(6,none),(7,some [6,4,2]),(8,none),(9,none),(10,some [6,4,2,8])] [(3,[2]),(4,[2]),(7,[6,4,2]),(8,[6,4,2]),(9,[6,4,2,8]),(10,[6,4,2,8])] ?_ | refine K1.o (id := 2) [(0,none),(1,none),(2,none),(3,none),(4,none),(5,none),(6,none),(7,none),(8,none),(9,none),(10,none),(11,none),(12,none),(13,none),(14,none),(15,some [14,12,10,7,5,2]),(16,none),(17,none),(18,some [14,12,10,7,5,2,16])] [(3,[2]),(4,[2]),(5,[2]),(8,[7]),(9,[7]),(10,[7]),(13,[12]),(14,[12]),(15,[14,12,10,7,5,2]),(16,[14,12,10,7,5,2]),(17,[14,12,10,7,5,2,16]),(18,[14,12,10,7,5,2,16])] ?_ | refine K1.o (id := 7) [(0,none),(1,none),(2,none),(3,none),(4,none),(5,some [4,3,1])] [(2,[1]),(3,[1]),(5,[4,3,1])] ?_ | refine K1.o (id := 9) [(0,none),(1,none),(2,none),(3,none),(4,none),(5,some [4,3,1])] [(2,[1]),(3,[1]),(5,[4,3,1])] ?_ | refine K1.o (id := 11) [(0,none),(1,none),(2,none),(3,none),(4,none),(5,none),(6,none),(7,some [6,5,2]),(8,none),(9,none),(10,some [6,5,2,8])] [(3,[2]),(4,[2]),(5,[2]),(7,[6,5,2]),(8,[6,5,2]),(9,[6,5,2,8]),(10,[6,5,2,8])] ?_ | refine K1.z ?_ | refine K1.y (fun _ => ?_) (fun _ => ?_) | fail)
        all_goals (conv => whnf)
        exact ⟨⟨i + 1,hil⟩,_,LeR.mk' [] _ _ _ rfl ⟨AEq.int rfl,AEq.refl _,AEq.refl _,AEq.refl _,AEq.refl _,trivial⟩ ⟨⟨_,rfl,OEq.refl _⟩,⟨_,rfl,OEq.refl _⟩,⟨_,rfl,by dsimp only; rw [hct]; exact OEq.refl _⟩,⟨_,rfl,OEq.refl _⟩,⟨_,rfl,OEq.refl _⟩,⟨_,rfl,OEq.refl _⟩,⟨_,rfl,OEq.refl _⟩,⟨_,rfl,OEq.refl _⟩,⟨_,rfl,by dsimp only; rw [hwt]; exact OEq.refl _⟩,trivial⟩ rfl,by show L.length - (i + 1) < L.length - i; omega⟩
   · obtain rfl : i = L.length := by omega
     rw [List.take_length]
     generalize clkL L = ck at hcb ⊢
     obtain ⟨c0,c1,c2,c3,c4⟩ := ck
     dsimp only
     repeat' ((conv => whnf); first | refine K1.w ?_ | refine K1.u ?_ | refine K1.C 0 [] (in_new_m c.h ⟨c0,c1,c2,c3,c4⟩) rfl ?_ | refine K1.I 0x80000003c0000015 Tryz.func63 ?_ | refine K1.o (id := 15) [(0,none),(1,none),(2,none),(3,none),(4,none),(5,none),(6,some [4]),(7,none),(8,none),(9,some [4,3,7])] [(5,[4]),(6,[4]),(7,[4,3]),(8,[4,3,7]),(9,[4,3,7])] ?_ | refine K1.o (id := 16) [(0,none),(1,none),(2,none),(3,none),(4,none),(5,none),(6,none),(7,some [6,4,2]),(8,none),(9,none),(10,some [6,4,2,8])] [(3,[2]),(4,[2]),(7,[6,4,2]),(8,[6,4,2]),(9,[6,4,2,8]),(10,[6,4,2,8])] ?_ | refine K1.o (id := 2) [(0,none),(1,none),(2,none),(3,none),(4,none),(5,none),(6,none),(7,none),(8,none),(9,none),(10,none),(11,none),(12,none),(13,none),(14,none),(15,some [14,12,10,7,5,2]),(16,none),(17,none),(18,some [14,12,10,7,5,2,16])] [(3,[2]),(4,[2]),(5,[2]),(8,[7]),(9,[7]),(10,[7]),(13,[12]),(14,[12]),(15,[14,12,10,7,5,2]),(16,[14,12,10,7,5,2]),(17,[14,12,10,7,5,2,16]),(18,[14,12,10,7,5,2,16])] ?_ | refine K1.o (id := 7) [(0,none),(1,none),(2,none),(3,none),(4,none),(5,some [4,3,1])] [(2,[1]),(3,[1]),(5,[4,3,1])] ?_ | refine K1.o (id := 9) [(0,none),(1,none),(2,none),(3,none),(4,none),(5,some [4,3,1])] [(2,[1]),(3,[1]),(5,[4,3,1])] ?_ | refine K1.o (id := 11) [(0,none),(1,none),(2,none),(3,none),(4,none),(5,none),(6,none),(7,some [6,5,2]),(8,none),(9,none),(10,some [6,5,2,8])] [(3,[2]),(4,[2]),(5,[2]),(7,[6,5,2]),(8,[6,5,2]),(9,[6,5,2,8]),(10,[6,5,2,8])] ?_ | refine K1.z ?_ | refine K1.y (fun _ => ?_) (fun _ => ?_) | fail)
     all_goals (conv => whnf)
     exact ⟨[(41,15),(45,16),(51,17),(60,18),(52,19),(55,20)],rfl,rfl,⟨⟨_,rfl,OEq.refl _⟩,⟨_,rfl,OEq.refl _⟩,⟨_,rfl,OEq.refl _⟩,⟨_,rfl,OEq.box fun X us h => All2.setC (k := 6) (x := .v (.slice none 0 0)) (y := slE []) rfl (fun X u h => C1.nilS (s := 12) (by decide) (show C1 X (.v (.slice none 0 0)) u from h)) h⟩,⟨_,rfl,OEq.refl _⟩,⟨_,rfl,OEq.refl _⟩,⟨_,rfl,OEq.refl _⟩,⟨_,rfl,OEq.refl _⟩,trivial⟩,rfl,rfl,AEq.refl _⟩
end Go.Proofs.YtimhagicagdkfaaGreat

/-
 Layer 19's example.
-/
namespace Go.Proofs.YtimhagicagdkfaaGreat
open Go.RowKit
theorem ndBS {d : Dk} {u : Bool} (hd : d.bs.length ≤ 1000000) : NdB ⟨cfS,1,u,d,[nv1],0,⟨0,1,0,0,0⟩,[],[nv1]⟩ where
 r := by show (1 : Nat) < 5; decide
 ic q := by
  show 0 ≤ (Clk.mk 0 1 0 0 0).at q ∧ (Clk.mk 0 1 0 0 0).at q ≤ 1000000
  match q with
  | 0 => decide
  | 1 => decide
  | 2 => decide
  | 3 => decide
  | _ + 4 => exact ⟨Int.le_refl 0,(by decide : (0 : Int) ≤ 1000000)⟩
 pst := pst_one (by decide)
 len := by show 1 ≤ 1000000; decide
 hh e he := by rw [List.mem_singleton.1 he]; decide
 cs x hx := by
  rw [show ofB _ = ofB [nv1] from rfl,ofB_one] at hx
  rw [← ofB_one] at hx
  exact of_sets [nv1] (by decide) x hx
 bs := hd
 wl := by show 1 ≤ 1000000; decide
 sent := ⟨Int.le_refl _,(by decide : (0 : Int) ≤ 1000000)⟩
 wn j := by
  show 0 ≤ ([nv1].getD j default).n ∧ ([nv1].getD j default).n ≤ 1000000
  match j with
  | 0 => decide
  | _ + 1 => rw [List.getD_cons_succ,List.getD_nil]; decide
theorem may1 : mayR rc1 = true := by decide
theorem may2 : mayR rc2 = true := by decide
theorem len1 : (rcBytes rc1).length ≤ 900000 := by have := rcBytes_max rc1 may1; exact Nat.le_trans this (by decide)
theorem len2 : 3 < (rcBytes rc2).length := by decide +kernel
theorem wr1 : writeD dk0 (rcBytes rc1) = (⟨rcBytes rc1,false,false,0⟩,0) := by unfold writeD; rfl
theorem wr2 : writeD ⟨rcBytes rc1,false,true,3⟩ (rcBytes rc2) = (⟨rcBytes rc1 ++ (rcBytes rc2).take 3,true,false,3⟩,18) := by
 have h := len2
 have hk : keepI 3 (rcBytes rc2).length = 3 := by unfold keepI; rw [if_neg (by omega),if_neg (by omega)]
 unfold writeD
 rw [if_neg (by simp),if_pos rfl]
 dsimp only
 rw [hk]
 rfl
theorem chk1 : checkE 4 3 (ofB []) ed1 = 0 := by rw [ofB_nil]; rfl
theorem chk2 : checkE 4 3 (ofB [nv1]) ed2 = 0 := by
 rw [ofB_one]
 unfold checkE
 rw [show idxC [contactB cyK (countingB [nv1] (livingB [nv1]))] ed2.key = 0 from idxC_at (j := 0) (by decide) (fun i h => absurd h (Nat.not_lt_zero i)) rfl]
 rfl
theorem logS : LogOk [nv1] where
 len := by show 1 ≤ 1000000; decide
 nx j hj := by
  obtain rfl : j = 0 := by have : j < 1 := hj; omega
  exact nxt_nil (e := nv1) (by decide) (by decide)
 may j hj := by
  obtain rfl : j = 0 := by have : j < 1 := hj; omega
  decide
 r j hj := by
  obtain rfl : j = 0 := by have : j < 1 := hj; omega
  decide
 n e he := by rw [List.mem_singleton.1 he]; decide
set_option maxHeartbeats 4000000 in
set_option maxRecDepth 100000 in
theorem shown19_spec : ASpec Tryz.prog 8 [] (.v (.bool true)) [] := by
 have h0 := nd_new_m cfS 1 (by decide) (by decide)
 have h1 : MSpec Tryz.prog 22 [(0, .obs (ndO (nd0 cfS 1)))] [.box 0 0,ed1.av] (.tup [nv1.av, .v (.int .i64 0)]) [(0, .obs (ndO nS1))] :=
  nd_edit_ok (nd0 cfS 1) ed1 ⟨rcBytes rc1,false,false,0⟩ (ndB0 cfS 1 (by decide)) rfl chk1 (by decide) (by decide) may1 wr1 (drain_one (r := 1) (by decide) rfl rfl (by decide) (by decide)) rfl (nxt_nil (e := nv1) (by decide) (by decide)) (by decide)
 have h2 : MSpec Tryz.prog 21 [(0, .obs (ndO nS1))] [.box 0 0, .v (.int .i64 3)] (.tup []) [(0, .obs (ndO nS2))] := nd_cut_m nS1 3
 have h3 : MSpec Tryz.prog 22 [(0, .obs (ndO nS2))] [.box 0 0,ed2.av] (.tup [evZ.av, .v (.int .i64 18)]) [(0, .obs (ndO nS3))] :=
  nd_edit_down nS2 ed2 _ 18 (by decide) (ndBS (Nat.le_trans len1 (by decide))) rfl chk2 (by decide) (by decide) may2 wr2
 have hb : (rcBytes rc1 ++ (rcBytes rc2).take 3).length ≤ 1000000000 := by
  have := len1
  rw [List.length_append,List.length_take]
  omega
 have h4 : MSpec Tryz.prog 26 [(0, .obs (ndO nS3))] [.box 0 0] (.v (.int .i64 0)) [(0, .obs (ndO nS4))] :=
  nd_start_m nS3 rfl [rc1] ((rcBytes rc2).take 3) (recs_part (recs_snoc (l := []) recs_no may1) may2 len2) hb (fun j hj => by
   rcases (show j = 0 ∨ j = 1 by have : j ≤ 1 := hj; omega) with rfl | rfl <;> decide) (fun j hj => by
   obtain rfl : j = 0 := by have : j < 1 := hj; omega
   decide) logS (by decide)
 have h5 := nd_list_m nS4 rfl (pst_one (by decide)) (by decide)
 rw [show ofB nS4.log = ofB [nv1] from rfl,ofB_one] at h5
 have hk : ([contactB cyK (countingB [nv1] (livingB [nv1]))].getD (0 : Int).toNat default).key = cyK := rfl
 generalize countingB [nv1] (livingB [nv1]) = W at h5 hk
 generalize ndO (nd0 cfS 1) = b0 at *
 generalize ndO nS1 = b1 at *
 generalize ndO nS2 = b2 at *
 generalize ndO nS3 = b3 at *
 generalize ndO nS4 = b4 at *
 dsimp only [Ev.av,Ev.cs,Ed.av,Cfg.av,Cfg.cs,nv1,ed1,ed2,evZ,clk0,cfS,cyK] at h0 h1 h3 h5 hk
 refine K1.E 0x1003df Tryz.func8 ?_
 repeat' ((conv => whnf); first | refine K1.w ?_ | refine K1.u ?_ | refine K1.C 0 [] (h0) rfl ?_ | refine K1.C 1 [(0,_)] (h1) rfl ?_ | refine K1.C 1 [(0,_)] (h2) rfl ?_ | refine K1.C 1 [(0,_)] (h3) rfl ?_ | refine K1.C 1 [(0,_)] (h4) rfl ?_ | refine K1.C 3 [(0,_)] (h5) rfl ?_ | refine ARet.hdI ?_ | refine K1.z ?_ | refine K1.y (fun _ => ?_) (fun _ => ?_) | fail)
 all_goals (conv => whnf)
 all_goals first
   | exact AEqI.mk (AEq.refl _)
   | exact absurd rfl (by assumption)
end Go.Proofs.YtimhagicagdkfaaGreat

/-
 Arguments that are events,rows of events,bytes.
-/

/-
 Arguments that are configs,numbers,truth values.
-/
namespace Go.Proofs.YtimhagicagdkfaaGreat
open Go.ChangeShapes Go.WideShapes Go.ChangeAt Go.RowKit
def i64R (n : Int) : Prop := -9223372036854775808 ≤ n ∧ n ≤ 9223372036854775807
theorem rng_i64' {n : Int} (h : (Lit.int .i64 n).wf = true) : i64R n := by
 simpa [i64R,Lit.wf,IntKind.min,IntKind.max,IntKind.signed,IntKind.bits] using h
structure Cfg.rng (c : Cfg) : Prop where
 n : i64R c.n
 w : i64R c.w
 q : i64R c.q
 h : i64R c.h
 l : i64R c.l
 p : i64R c.p
theorem sh_cfg : Sh 23 (fun avs => ∃ c : Cfg,avs = c.cs ∧ c.rng) :=
 (sh_struct Tryz.underlying23 (by kernel_rfl) rfl (.cons (sh_int Tryz.underlying3) (.cons (sh_int Tryz.underlying3) (.cons (sh_int Tryz.underlying3) (.cons (sh_int Tryz.underlying3) (.cons (sh_int Tryz.underlying3) (.cons (sh_int Tryz.underlying3) .nil))))))).imp fun avs h => by
  obtain ⟨_,_,rfl,⟨a,rfl,ha⟩,_,_,rfl,⟨b,rfl,hb⟩,_,_,rfl,⟨c,rfl,hc⟩,_,_,rfl,⟨d,rfl,hd⟩,_,_,rfl,⟨e,rfl,he⟩,_,_,rfl,⟨f,rfl,hf⟩,rfl⟩ := h
  exact ⟨⟨a,b,c,d,e,f⟩,rfl,rng_i64' ha,rng_i64' hb,rng_i64' hc,rng_i64' hd,rng_i64' he,rng_i64' hf⟩
section
variable {H : Type} {enc : TypeId × Value → H} {w : World} {spare : Nat → Bool} {held : Bool} {v : Value} {d : DataW H} {p : List MemPlace} {r : Reach} {b0 : Nat}
set_option maxRecDepth 100000 in
theorem arg_cfg (hv : Value.okWide Tryz.prog w r b0 23 v) (h : DataW.Trod enc Tryz.prog w 0 spare held 23 v d p) (hw : ∀ n ∈ d.weights Tryz.prog 23,n ≤ reachBytes) : ∃ c : Cfg,c.rng ∧ C1 ⟨w,allOf w,fun _ => undef⟩ c.av v := by
 obtain ⟨cs,rfl,_⟩ := okWide_struct Tryz.underlying23 hv
 obtain ⟨xs,⟨e,rfl,he⟩,hc⟩ := arg_agg sh_cfg h hw ⟨_,rfl⟩
 exact ⟨e,he,hc⟩
end
end Go.Proofs.YtimhagicagdkfaaGreat

/-
 NodeNew.
-/
namespace Go.Proofs.YtimhagicagdkfaaGreat
open Go.RowKit
set_option maxHeartbeats 4000000 in
set_option maxRecDepth 100000 in
theorem nodeNew_spec (c : Cfg) (r : Int) (_ : c.rng) (_ : -9223372036854775808 ≤ r ∧ r ≤ 9223372036854775807) : ASpec Tryz.prog 3 [c.av, .v (.int .i64 r)] (.v (.bool true)) [] := by
 have hsh := shown19_spec
 have hm := may11_spec c
 by_cases h : mayC c = true ∧ 0 ≤ r ∧ r < c.n
 · obtain ⟨h1,h2,h3⟩ := h
   obtain ⟨k,rfl⟩ : ∃ k : Nat,r = (k : Int) := ⟨r.toNat,by omega⟩
   have hn := nd_new_m c k h1 h3
   have hs := nd_site_m (nd0 c k) (Nat.zero_le _) (Nat.zero_le _)
   rw [h1] at hm
   generalize ndO (nd0 c k) = b at hn hs
   obtain ⟨cn,cw,cq,ch,cl,cp⟩ := c
   dsimp only [Cfg.av,Cfg.cs,siteV,nd0,clk0,cond_true] at *
   refine K1.E 0x200400003f7 Tryz.func3 ?_
   repeat' ((conv => whnf); first | refine K1.w ?_ | refine K1.u ?_ | refine K1.P1 (hsh) rfl ?_ | refine K1.P1 (hm) rfl ?_ | refine K1.C 0 [] (hn) rfl ?_ | refine K1.C 1 [(0,_)] (hs) rfl ?_ | refine EqA.mk (Clk.vs clk0) (Clk.vs clk0) (clk0 = clk0) rfl rfl (clk_eq _ _) ?_ | refine Spl.yes rfl ?_ | refine ARet.hdI ?_ | refine K1.z ?_ | refine K1.y (fun _ => ?_) (fun _ => ?_) | fail)
   all_goals (conv => whnf)
   exact AEqI.mk (AEq.refl _)
 · have hn := nd_new_no c r (by
    cases hq : mayC c with
    | false => exact .inl rfl
    | true =>
      rw [hq] at h
      simp only [true_and] at h
      omega)
   cases hq : mayC c with
   | false =>
     rw [hq] at hm
     clear h hq
     obtain ⟨cn,cw,cq,ch,cl,cp⟩ := c
     dsimp only [Cfg.av,Cfg.cs] at *
     refine K1.E 0x200400003f7 Tryz.func3 ?_
     repeat' ((conv => whnf); first | refine K1.w ?_ | refine K1.u ?_ | refine K1.P1 (hsh) rfl ?_ | refine K1.P1 (hm) rfl ?_ | refine K1.P1 (hn) rfl ?_ | refine ARet.hdI ?_ | refine K1.z ?_ | refine K1.y (fun _ => ?_) (fun _ => ?_) | fail)
     all_goals (conv => whnf)
     exact AEqI.mk (AEq.refl _)
   | true =>
     rw [hq] at hm h
     simp only [true_and] at h
     clear hq
     obtain ⟨cn,cw,cq,ch,cl,cp⟩ := c
     dsimp only [Cfg.av,Cfg.cs] at *
     by_cases h0 : 0 ≤ r
     · have h : cn ≤ r := by omega
       refine K1.E 0x200400003f7 Tryz.func3 ?_
       repeat' ((conv => whnf); first | refine K1.w ?_ | refine K1.u ?_ | refine K1.P1 (hsh) rfl ?_ | refine K1.P1 (hm) rfl ?_ | refine K1.P1 (hn) rfl ?_ | refine ARet.hdI ?_ | refine K1.z ?_ | refine K1.y (fun _ => ?_) (fun _ => ?_) | fail)
       all_goals (conv => whnf)
       all_goals exact AEqI.mk (AEq.refl _)
     · clear h
       refine K1.E 0x200400003f7 Tryz.func3 ?_
       repeat' ((conv => whnf); first | refine K1.w ?_ | refine K1.u ?_ | refine K1.P1 (hsh) rfl ?_ | refine K1.P1 (hm) rfl ?_ | refine K1.P1 (hn) rfl ?_ | refine ARet.hdI ?_ | refine K1.z ?_ | refine K1.y (fun _ => ?_) (fun _ => ?_) | fail)
       all_goals (conv => whnf)
       all_goals exact AEqI.mk (AEq.refl _)
end Go.Proofs.YtimhagicagdkfaaGreat
