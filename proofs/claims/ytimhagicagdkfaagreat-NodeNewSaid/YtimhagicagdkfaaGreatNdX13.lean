/-
  Contracts of the walk: TkE, TkLaw, TkLawB.
-/
import Derived.Test.YtimhagicagdkfaaGreatNdX12
import Derived.Test.YtimhagicagdkfaaGreatNdX9
import Derived.Test.YtimhagicagdkfaaGreatNdX8
/-
 What event.Take computes.
-/
namespace Go.Proofs.YtimhagicagdkfaaGreat
open Go.RowKit
def zeroEv : Ev := ⟨0,0,⟨0,0,0,0,0⟩,0,0,⟨#[]⟩,0,⟨#[]⟩⟩
def takeE (bs : List UInt8) : Ev × Nat × Int := if (fieldS bs (0,0)).2.2 ≠ 0 then (zeroEv,0,(fieldS bs (0,0)).2.2) else ((fieldS bs (0,0)).1,(fieldS bs (0,0)).2.1,0)
def tkR (t : Ev × Nat × Int) : AV := .tup [t.1.av, .v (.int .i64 (t.2.1 : Int)), .v (.int .i64 t.2.2)]
theorem takeE_ok {bs : List UInt8} {e : Ev} {s : Sq} (h : fieldS bs (0,0) = (e,s)) (h0 : s.2 = 0) : tkR (e,s.1,0) = tkR (takeE bs) := by
 unfold takeE; rw [h,if_neg (fun k => k h0)]
theorem takeE_no {bs : List UInt8} {e : Ev} {s : Sq} (h : fieldS bs (0,0) = (e,s)) (h0 : ¬ s.2 = 0) : tkR (zeroEv,0,s.2) = tkR (takeE bs) := by
 unfold takeE; rw [h,if_pos h0]
theorem numS_b {bs : List UInt8} {lo hi : Int} {s : Sq} (_h0 : 0 ≤ lo) (h1 : 0 ≤ hi) : 0 ≤ (numS bs lo hi s).1 ∧ (numS bs lo hi s).1 ≤ hi := by
 unfold numS
 split
 · exact ⟨Int.le_refl _,h1⟩
 · split
   · exact ⟨Int.le_refl _,h1⟩
   · split
     · rename_i h; exact ⟨by omega,h.2⟩
     · exact ⟨Int.le_refl _,h1⟩
theorem octS_to {bs : List UInt8} {lo hi c : Int} {s s' : Sq} (h : octS bs lo hi s = (c,s')) (hu : s.1 ≤ bs.length) : s'.1 ≤ bs.length ∧ (0 ≤ c ∧ c ≤ 255) := by
 have h1 := octS_le (lo := lo) (hi := hi) hu
 have h2 := octS_b (bs := bs) (lo := lo) (hi := hi) (s := s)
 rw [h] at h1 h2
 exact ⟨h1,h2⟩
theorem numS_to {bs : List UInt8} {lo hi c : Int} {s s' : Sq} (h : numS bs lo hi s = (c,s')) (hu : s.1 ≤ bs.length) (h0 : 0 ≤ lo) (h1 : 0 ≤ hi) : s'.1 ≤ bs.length ∧ (0 ≤ c ∧ c ≤ hi) := by
 have h3 := numS_le (lo := lo) (hi := hi) hu
 have h2 := numS_b (bs := bs) (lo := lo) (hi := hi) (s := s) h0 h1
 rw [h] at h3 h2
 exact ⟨h3,h2⟩
theorem wordS_to {bs : List UInt8} {sz : Int} {may : ByteArray → Int} {c : ByteArray} {s s' : Sq} (h : wordS bs sz may s = (c,s')) (hu : s.1 ≤ bs.length) : s'.1 ≤ bs.length := by
 have h1 := wordS_le (sz := sz) (may := may) hu
 rw [h] at h1
 exact h1
set_option maxHeartbeats 8000000 in
set_option maxRecDepth 100000 in
theorem take_spec (bs : List UInt8) (hl : bs.length ≤ 1000000000) : ASpec Tryz.prog 114 [.sl 1 bs.length true (bytesF bs)] (.tup [(takeE bs).1.av, .v (.int .i64 ((takeE bs).2.1 : Int)), .v (.int .i64 (takeE bs).2.2)]) [] := by
 obtain ⟨⟨k,s1⟩,e1⟩ : ∃ p,octS bs 1 5 (0,0) = p := ⟨_,rfl⟩
 obtain ⟨q1,g1⟩ := octS_to e1 (Nat.zero_le _)
 obtain ⟨⟨R,s2⟩,e2⟩ : ∃ p,octS bs 0 4 s1 = p := ⟨_,rfl⟩
 have hR0 := octS_range (bs := bs) (lo := 0) (hi := 4) (s := s1)
 rw [e2] at hR0
 obtain ⟨q2,g2⟩ := octS_to e2 q1
 obtain ⟨⟨N,s3⟩,e3⟩ : ∃ p,numS bs 1 1048576 s2 = p := ⟨_,rfl⟩
 obtain ⟨q3,g3⟩ := numS_to e3 q2 (by omega) (by omega)
 rcases (show R = 0 ∨ R = 1 ∨ R = 2 ∨ R = 3 ∨ R = 4 by simp only at hR0; omega) with rfl | rfl | rfl | rfl | rfl
 · obtain ⟨⟨c1,t2⟩,f1⟩ : ∃ p,numS bs 0 1048576 s3 = p := ⟨_,rfl⟩
   obtain ⟨p1,_⟩ := numS_to f1 q3 (by omega) (by omega)
   obtain ⟨⟨c2,t3⟩,f2⟩ : ∃ p,numS bs 0 1048576 t2 = p := ⟨_,rfl⟩
   obtain ⟨p2,_⟩ := numS_to f2 p1 (by omega) (by omega)
   obtain ⟨⟨c3,t4⟩,f3⟩ : ∃ p,numS bs 0 1048576 t3 = p := ⟨_,rfl⟩
   obtain ⟨p3,_⟩ := numS_to f3 p2 (by omega) (by omega)
   obtain ⟨⟨c4,t5⟩,f4⟩ : ∃ p,numS bs 0 1048576 t4 = p := ⟨_,rfl⟩
   obtain ⟨p4,_⟩ := numS_to f4 p3 (by omega) (by omega)
   obtain ⟨⟨H,s5⟩,e5⟩ : ∃ p,numS bs 1 16777216 t5 = p := ⟨_,rfl⟩
   obtain ⟨q5,g5⟩ := numS_to e5 p4 (by omega) (by omega)
   obtain ⟨⟨ks,s6⟩,e6⟩ : ∃ p,octS bs 1 8 s5 = p := ⟨_,rfl⟩
   obtain ⟨q6,g6⟩ := octS_to e6 q5
   obtain ⟨⟨key,s7⟩,e7⟩ : ∃ p,wordS bs ks keyE s6 = p := ⟨_,rfl⟩
   have q7 := wordS_to e7 q6
   obtain ⟨⟨l,s8⟩,e8⟩ : ∃ p,octS bs 0 1 s7 = p := ⟨_,rfl⟩
   obtain ⟨q8,g8⟩ := octS_to e8 q7
   obtain ⟨⟨vs,s9⟩,e9⟩ : ∃ p,octS bs 1 12 s8 = p := ⟨_,rfl⟩
   obtain ⟨q9,g9⟩ := octS_to e9 q8
   obtain ⟨⟨v,s10⟩,e10⟩ : ∃ p,wordS bs vs valueE s9 = p := ⟨_,rfl⟩
   have hF : fieldS bs (0,0) = if isLong k then (⟨0,N,⟨N - 1,c1,c2,c3,c4⟩,H,k,key,l,v⟩,s10) else (⟨0,N,⟨N - 1,c1,c2,c3,c4⟩,H,k,key,0,⟨#[]⟩⟩,s7) := by
    simp [fieldS,clockS,clkAt,skipS,Clk.setN,Clk.put,e1,e2,e3,f1,f2,f3,f4,e5,e6,e7,e8,e9,e10]
   have hL : isLong k = true → fieldS bs (0,0) = (⟨0,N,⟨N - 1,c1,c2,c3,c4⟩,H,k,key,l,v⟩,s10) := fun h => hF.trans (if_pos h)
   have hS : isLong k = false → fieldS bs (0,0) = (⟨0,N,⟨N - 1,c1,c2,c3,c4⟩,H,k,key,0,⟨#[]⟩⟩,s7) := fun h => hF.trans (if_neg (by rw [h]; exact Bool.false_ne_true))
   clear hF
   refine K1.E 0x100ff Tryz.func114 ?_
   repeat' ((conv => whnf); first | refine K1.w ?_ | refine K1.u ?_ | refine K1.C 3 [(0,_),(1,_),(2,_)] (octet_e bs _ _ _ _ _ e1 hl) rfl ?_ | refine K1.C 3 [(0,_),(1,_),(2,_)] (octet_e bs _ _ _ _ _ e2 hl) rfl ?_ | refine K1.C 3 [(0,_),(1,_),(2,_)] (number_e bs _ _ _ _ _ e3 (by assumption) hl (by omega) (by omega) (by omega)) rfl ?_ | refine K1.C 3 [(0,_),(1,_),(2,_)] (number_e bs _ _ _ _ _ f1 (by assumption) hl (by omega) (by omega) (by omega)) rfl ?_ | refine K1.C 3 [(0,_),(1,_),(2,_)] (number_e bs _ _ _ _ _ f2 (by assumption) hl (by omega) (by omega) (by omega)) rfl ?_ | refine K1.C 3 [(0,_),(1,_),(2,_)] (number_e bs _ _ _ _ _ f3 (by assumption) hl (by omega) (by omega) (by omega)) rfl ?_ | refine K1.C 3 [(0,_),(1,_),(2,_)] (number_e bs _ _ _ _ _ f4 (by assumption) hl (by omega) (by omega) (by omega)) rfl ?_ | refine K1.C 3 [(0,_),(1,_),(2,_)] (number_e bs _ _ _ _ _ e5 (by assumption) hl (by omega) (by omega) (by omega)) rfl ?_ | refine K1.C 3 [(0,_),(1,_),(2,_)] (octet_e bs _ _ _ _ _ e6 hl) rfl ?_ | refine K1.C 3 [(0,_),(1,_),(2,_)] (wordsK_e bs _ _ _ _ e7 (by assumption) hl (by assumption)) rfl ?_ | refine K1.C 3 [(0,_),(1,_),(2,_)] (octet_e bs _ _ _ _ _ e8 hl) rfl ?_ | refine K1.C 3 [(0,_),(1,_),(2,_)] (octet_e bs _ _ _ _ _ e9 hl) rfl ?_ | refine K1.C 3 [(0,_),(1,_),(2,_)] (wordsV_e bs _ _ _ _ e10 (by assumption) hl (by assumption)) rfl ?_ | refine K1.P1 (isLong_spec _) rfl ?_ | refine ALoop.rounds 6 ?_ | refine K1.I 0x4000004301c7 Tryz.func144 ?_ | refine K1.o (id := 6) [(0,none),(1,none),(2,some []),(3,some []),(4,some [1])] [(2,[]),(3,[]),(4,[1])] ?_ | refine K1.o (id := 7) [(0,none),(1,none),(2,some [0]),(3,some [0,1]),(4,some [0,1])] [(2,[0]),(3,[0,1]),(4,[0,1])] ?_ | refine K1.z ?_ | refine K1.y (fun _ => ?_) (fun _ => ?_) | fail)
   all_goals refine ARet.hdI ?_
   all_goals (conv => whnf)
   all_goals refine AEqI.mk (AEq.of ?_)
   all_goals first | exact takeE_ok (hL ‹_›) ‹_› | exact takeE_no (hL ‹_›) ‹_› | exact takeE_ok (hS ‹_›) ‹_› | exact takeE_no (hS ‹_›) ‹_›
 · obtain ⟨⟨c0,t1⟩,f0⟩ : ∃ p,numS bs 0 1048576 s3 = p := ⟨_,rfl⟩
   obtain ⟨p0,_⟩ := numS_to f0 q3 (by omega) (by omega)
   obtain ⟨⟨c2,t3⟩,f2⟩ : ∃ p,numS bs 0 1048576 t1 = p := ⟨_,rfl⟩
   obtain ⟨p2,_⟩ := numS_to f2 p0 (by omega) (by omega)
   obtain ⟨⟨c3,t4⟩,f3⟩ : ∃ p,numS bs 0 1048576 t3 = p := ⟨_,rfl⟩
   obtain ⟨p3,_⟩ := numS_to f3 p2 (by omega) (by omega)
   obtain ⟨⟨c4,t5⟩,f4⟩ : ∃ p,numS bs 0 1048576 t4 = p := ⟨_,rfl⟩
   obtain ⟨p4,_⟩ := numS_to f4 p3 (by omega) (by omega)
   obtain ⟨⟨H,s5⟩,e5⟩ : ∃ p,numS bs 1 16777216 t5 = p := ⟨_,rfl⟩
   obtain ⟨q5,g5⟩ := numS_to e5 p4 (by omega) (by omega)
   obtain ⟨⟨ks,s6⟩,e6⟩ : ∃ p,octS bs 1 8 s5 = p := ⟨_,rfl⟩
   obtain ⟨q6,g6⟩ := octS_to e6 q5
   obtain ⟨⟨key,s7⟩,e7⟩ : ∃ p,wordS bs ks keyE s6 = p := ⟨_,rfl⟩
   have q7 := wordS_to e7 q6
   obtain ⟨⟨l,s8⟩,e8⟩ : ∃ p,octS bs 0 1 s7 = p := ⟨_,rfl⟩
   obtain ⟨q8,g8⟩ := octS_to e8 q7
   obtain ⟨⟨vs,s9⟩,e9⟩ : ∃ p,octS bs 1 12 s8 = p := ⟨_,rfl⟩
   obtain ⟨q9,g9⟩ := octS_to e9 q8
   obtain ⟨⟨v,s10⟩,e10⟩ : ∃ p,wordS bs vs valueE s9 = p := ⟨_,rfl⟩
   have hF : fieldS bs (0,0) = if isLong k then (⟨1,N,⟨c0,N - 1,c2,c3,c4⟩,H,k,key,l,v⟩,s10) else (⟨1,N,⟨c0,N - 1,c2,c3,c4⟩,H,k,key,0,⟨#[]⟩⟩,s7) := by
    simp [fieldS,clockS,clkAt,skipS,Clk.setN,Clk.put,e1,e2,e3,f0,f2,f3,f4,e5,e6,e7,e8,e9,e10]
   have hL : isLong k = true → fieldS bs (0,0) = (⟨1,N,⟨c0,N - 1,c2,c3,c4⟩,H,k,key,l,v⟩,s10) := fun h => hF.trans (if_pos h)
   have hS : isLong k = false → fieldS bs (0,0) = (⟨1,N,⟨c0,N - 1,c2,c3,c4⟩,H,k,key,0,⟨#[]⟩⟩,s7) := fun h => hF.trans (if_neg (by rw [h]; exact Bool.false_ne_true))
   clear hF
   refine K1.E 0x100ff Tryz.func114 ?_
   repeat' ((conv => whnf); first | refine K1.w ?_ | refine K1.u ?_ | refine K1.C 3 [(0,_),(1,_),(2,_)] (octet_e bs _ _ _ _ _ e1 hl) rfl ?_ | refine K1.C 3 [(0,_),(1,_),(2,_)] (octet_e bs _ _ _ _ _ e2 hl) rfl ?_ | refine K1.C 3 [(0,_),(1,_),(2,_)] (number_e bs _ _ _ _ _ e3 (by assumption) hl (by omega) (by omega) (by omega)) rfl ?_ | refine K1.C 3 [(0,_),(1,_),(2,_)] (number_e bs _ _ _ _ _ f0 (by assumption) hl (by omega) (by omega) (by omega)) rfl ?_ | refine K1.C 3 [(0,_),(1,_),(2,_)] (number_e bs _ _ _ _ _ f2 (by assumption) hl (by omega) (by omega) (by omega)) rfl ?_ | refine K1.C 3 [(0,_),(1,_),(2,_)] (number_e bs _ _ _ _ _ f3 (by assumption) hl (by omega) (by omega) (by omega)) rfl ?_ | refine K1.C 3 [(0,_),(1,_),(2,_)] (number_e bs _ _ _ _ _ f4 (by assumption) hl (by omega) (by omega) (by omega)) rfl ?_ | refine K1.C 3 [(0,_),(1,_),(2,_)] (number_e bs _ _ _ _ _ e5 (by assumption) hl (by omega) (by omega) (by omega)) rfl ?_ | refine K1.C 3 [(0,_),(1,_),(2,_)] (octet_e bs _ _ _ _ _ e6 hl) rfl ?_ | refine K1.C 3 [(0,_),(1,_),(2,_)] (wordsK_e bs _ _ _ _ e7 (by assumption) hl (by assumption)) rfl ?_ | refine K1.C 3 [(0,_),(1,_),(2,_)] (octet_e bs _ _ _ _ _ e8 hl) rfl ?_ | refine K1.C 3 [(0,_),(1,_),(2,_)] (octet_e bs _ _ _ _ _ e9 hl) rfl ?_ | refine K1.C 3 [(0,_),(1,_),(2,_)] (wordsV_e bs _ _ _ _ e10 (by assumption) hl (by assumption)) rfl ?_ | refine K1.P1 (isLong_spec _) rfl ?_ | refine ALoop.rounds 6 ?_ | refine K1.I 0x4000004301c7 Tryz.func144 ?_ | refine K1.o (id := 6) [(0,none),(1,none),(2,some []),(3,some []),(4,some [1])] [(2,[]),(3,[]),(4,[1])] ?_ | refine K1.o (id := 7) [(0,none),(1,none),(2,some [0]),(3,some [0,1]),(4,some [0,1])] [(2,[0]),(3,[0,1]),(4,[0,1])] ?_ | refine K1.z ?_ | refine K1.y (fun _ => ?_) (fun _ => ?_) | fail)
   all_goals refine ARet.hdI ?_
   all_goals (conv => whnf)
   all_goals refine AEqI.mk (AEq.of ?_)
   all_goals first | exact takeE_ok (hL ‹_›) ‹_› | exact takeE_no (hL ‹_›) ‹_› | exact takeE_ok (hS ‹_›) ‹_› | exact takeE_no (hS ‹_›) ‹_›
 · obtain ⟨⟨c0,t1⟩,f0⟩ : ∃ p,numS bs 0 1048576 s3 = p := ⟨_,rfl⟩
   obtain ⟨p0,_⟩ := numS_to f0 q3 (by omega) (by omega)
   obtain ⟨⟨c1,t2⟩,f1⟩ : ∃ p,numS bs 0 1048576 t1 = p := ⟨_,rfl⟩
   obtain ⟨p1,_⟩ := numS_to f1 p0 (by omega) (by omega)
   obtain ⟨⟨c3,t4⟩,f3⟩ : ∃ p,numS bs 0 1048576 t2 = p := ⟨_,rfl⟩
   obtain ⟨p3,_⟩ := numS_to f3 p1 (by omega) (by omega)
   obtain ⟨⟨c4,t5⟩,f4⟩ : ∃ p,numS bs 0 1048576 t4 = p := ⟨_,rfl⟩
   obtain ⟨p4,_⟩ := numS_to f4 p3 (by omega) (by omega)
   obtain ⟨⟨H,s5⟩,e5⟩ : ∃ p,numS bs 1 16777216 t5 = p := ⟨_,rfl⟩
   obtain ⟨q5,g5⟩ := numS_to e5 p4 (by omega) (by omega)
   obtain ⟨⟨ks,s6⟩,e6⟩ : ∃ p,octS bs 1 8 s5 = p := ⟨_,rfl⟩
   obtain ⟨q6,g6⟩ := octS_to e6 q5
   obtain ⟨⟨key,s7⟩,e7⟩ : ∃ p,wordS bs ks keyE s6 = p := ⟨_,rfl⟩
   have q7 := wordS_to e7 q6
   obtain ⟨⟨l,s8⟩,e8⟩ : ∃ p,octS bs 0 1 s7 = p := ⟨_,rfl⟩
   obtain ⟨q8,g8⟩ := octS_to e8 q7
   obtain ⟨⟨vs,s9⟩,e9⟩ : ∃ p,octS bs 1 12 s8 = p := ⟨_,rfl⟩
   obtain ⟨q9,g9⟩ := octS_to e9 q8
   obtain ⟨⟨v,s10⟩,e10⟩ : ∃ p,wordS bs vs valueE s9 = p := ⟨_,rfl⟩
   have hF : fieldS bs (0,0) = if isLong k then (⟨2,N,⟨c0,c1,N - 1,c3,c4⟩,H,k,key,l,v⟩,s10) else (⟨2,N,⟨c0,c1,N - 1,c3,c4⟩,H,k,key,0,⟨#[]⟩⟩,s7) := by
    simp [fieldS,clockS,clkAt,skipS,Clk.setN,Clk.put,e1,e2,e3,f0,f1,f3,f4,e5,e6,e7,e8,e9,e10]
   have hL : isLong k = true → fieldS bs (0,0) = (⟨2,N,⟨c0,c1,N - 1,c3,c4⟩,H,k,key,l,v⟩,s10) := fun h => hF.trans (if_pos h)
   have hS : isLong k = false → fieldS bs (0,0) = (⟨2,N,⟨c0,c1,N - 1,c3,c4⟩,H,k,key,0,⟨#[]⟩⟩,s7) := fun h => hF.trans (if_neg (by rw [h]; exact Bool.false_ne_true))
   clear hF
   refine K1.E 0x100ff Tryz.func114 ?_
   repeat' ((conv => whnf); first | refine K1.w ?_ | refine K1.u ?_ | refine K1.C 3 [(0,_),(1,_),(2,_)] (octet_e bs _ _ _ _ _ e1 hl) rfl ?_ | refine K1.C 3 [(0,_),(1,_),(2,_)] (octet_e bs _ _ _ _ _ e2 hl) rfl ?_ | refine K1.C 3 [(0,_),(1,_),(2,_)] (number_e bs _ _ _ _ _ e3 (by assumption) hl (by omega) (by omega) (by omega)) rfl ?_ | refine K1.C 3 [(0,_),(1,_),(2,_)] (number_e bs _ _ _ _ _ f0 (by assumption) hl (by omega) (by omega) (by omega)) rfl ?_ | refine K1.C 3 [(0,_),(1,_),(2,_)] (number_e bs _ _ _ _ _ f1 (by assumption) hl (by omega) (by omega) (by omega)) rfl ?_ | refine K1.C 3 [(0,_),(1,_),(2,_)] (number_e bs _ _ _ _ _ f3 (by assumption) hl (by omega) (by omega) (by omega)) rfl ?_ | refine K1.C 3 [(0,_),(1,_),(2,_)] (number_e bs _ _ _ _ _ f4 (by assumption) hl (by omega) (by omega) (by omega)) rfl ?_ | refine K1.C 3 [(0,_),(1,_),(2,_)] (number_e bs _ _ _ _ _ e5 (by assumption) hl (by omega) (by omega) (by omega)) rfl ?_ | refine K1.C 3 [(0,_),(1,_),(2,_)] (octet_e bs _ _ _ _ _ e6 hl) rfl ?_ | refine K1.C 3 [(0,_),(1,_),(2,_)] (wordsK_e bs _ _ _ _ e7 (by assumption) hl (by assumption)) rfl ?_ | refine K1.C 3 [(0,_),(1,_),(2,_)] (octet_e bs _ _ _ _ _ e8 hl) rfl ?_ | refine K1.C 3 [(0,_),(1,_),(2,_)] (octet_e bs _ _ _ _ _ e9 hl) rfl ?_ | refine K1.C 3 [(0,_),(1,_),(2,_)] (wordsV_e bs _ _ _ _ e10 (by assumption) hl (by assumption)) rfl ?_ | refine K1.P1 (isLong_spec _) rfl ?_ | refine ALoop.rounds 6 ?_ | refine K1.I 0x4000004301c7 Tryz.func144 ?_ | refine K1.o (id := 6) [(0,none),(1,none),(2,some []),(3,some []),(4,some [1])] [(2,[]),(3,[]),(4,[1])] ?_ | refine K1.o (id := 7) [(0,none),(1,none),(2,some [0]),(3,some [0,1]),(4,some [0,1])] [(2,[0]),(3,[0,1]),(4,[0,1])] ?_ | refine K1.z ?_ | refine K1.y (fun _ => ?_) (fun _ => ?_) | fail)
   all_goals refine ARet.hdI ?_
   all_goals (conv => whnf)
   all_goals refine AEqI.mk (AEq.of ?_)
   all_goals first | exact takeE_ok (hL ‹_›) ‹_› | exact takeE_no (hL ‹_›) ‹_› | exact takeE_ok (hS ‹_›) ‹_› | exact takeE_no (hS ‹_›) ‹_›
 · obtain ⟨⟨c0,t1⟩,f0⟩ : ∃ p,numS bs 0 1048576 s3 = p := ⟨_,rfl⟩
   obtain ⟨p0,_⟩ := numS_to f0 q3 (by omega) (by omega)
   obtain ⟨⟨c1,t2⟩,f1⟩ : ∃ p,numS bs 0 1048576 t1 = p := ⟨_,rfl⟩
   obtain ⟨p1,_⟩ := numS_to f1 p0 (by omega) (by omega)
   obtain ⟨⟨c2,t3⟩,f2⟩ : ∃ p,numS bs 0 1048576 t2 = p := ⟨_,rfl⟩
   obtain ⟨p2,_⟩ := numS_to f2 p1 (by omega) (by omega)
   obtain ⟨⟨c4,t5⟩,f4⟩ : ∃ p,numS bs 0 1048576 t3 = p := ⟨_,rfl⟩
   obtain ⟨p4,_⟩ := numS_to f4 p2 (by omega) (by omega)
   obtain ⟨⟨H,s5⟩,e5⟩ : ∃ p,numS bs 1 16777216 t5 = p := ⟨_,rfl⟩
   obtain ⟨q5,g5⟩ := numS_to e5 p4 (by omega) (by omega)
   obtain ⟨⟨ks,s6⟩,e6⟩ : ∃ p,octS bs 1 8 s5 = p := ⟨_,rfl⟩
   obtain ⟨q6,g6⟩ := octS_to e6 q5
   obtain ⟨⟨key,s7⟩,e7⟩ : ∃ p,wordS bs ks keyE s6 = p := ⟨_,rfl⟩
   have q7 := wordS_to e7 q6
   obtain ⟨⟨l,s8⟩,e8⟩ : ∃ p,octS bs 0 1 s7 = p := ⟨_,rfl⟩
   obtain ⟨q8,g8⟩ := octS_to e8 q7
   obtain ⟨⟨vs,s9⟩,e9⟩ : ∃ p,octS bs 1 12 s8 = p := ⟨_,rfl⟩
   obtain ⟨q9,g9⟩ := octS_to e9 q8
   obtain ⟨⟨v,s10⟩,e10⟩ : ∃ p,wordS bs vs valueE s9 = p := ⟨_,rfl⟩
   have hF : fieldS bs (0,0) = if isLong k then (⟨3,N,⟨c0,c1,c2,N - 1,c4⟩,H,k,key,l,v⟩,s10) else (⟨3,N,⟨c0,c1,c2,N - 1,c4⟩,H,k,key,0,⟨#[]⟩⟩,s7) := by
    simp [fieldS,clockS,clkAt,skipS,Clk.setN,Clk.put,e1,e2,e3,f0,f1,f2,f4,e5,e6,e7,e8,e9,e10]
   have hL : isLong k = true → fieldS bs (0,0) = (⟨3,N,⟨c0,c1,c2,N - 1,c4⟩,H,k,key,l,v⟩,s10) := fun h => hF.trans (if_pos h)
   have hS : isLong k = false → fieldS bs (0,0) = (⟨3,N,⟨c0,c1,c2,N - 1,c4⟩,H,k,key,0,⟨#[]⟩⟩,s7) := fun h => hF.trans (if_neg (by rw [h]; exact Bool.false_ne_true))
   clear hF
   refine K1.E 0x100ff Tryz.func114 ?_
   repeat' ((conv => whnf); first | refine K1.w ?_ | refine K1.u ?_ | refine K1.C 3 [(0,_),(1,_),(2,_)] (octet_e bs _ _ _ _ _ e1 hl) rfl ?_ | refine K1.C 3 [(0,_),(1,_),(2,_)] (octet_e bs _ _ _ _ _ e2 hl) rfl ?_ | refine K1.C 3 [(0,_),(1,_),(2,_)] (number_e bs _ _ _ _ _ e3 (by assumption) hl (by omega) (by omega) (by omega)) rfl ?_ | refine K1.C 3 [(0,_),(1,_),(2,_)] (number_e bs _ _ _ _ _ f0 (by assumption) hl (by omega) (by omega) (by omega)) rfl ?_ | refine K1.C 3 [(0,_),(1,_),(2,_)] (number_e bs _ _ _ _ _ f1 (by assumption) hl (by omega) (by omega) (by omega)) rfl ?_ | refine K1.C 3 [(0,_),(1,_),(2,_)] (number_e bs _ _ _ _ _ f2 (by assumption) hl (by omega) (by omega) (by omega)) rfl ?_ | refine K1.C 3 [(0,_),(1,_),(2,_)] (number_e bs _ _ _ _ _ f4 (by assumption) hl (by omega) (by omega) (by omega)) rfl ?_ | refine K1.C 3 [(0,_),(1,_),(2,_)] (number_e bs _ _ _ _ _ e5 (by assumption) hl (by omega) (by omega) (by omega)) rfl ?_ | refine K1.C 3 [(0,_),(1,_),(2,_)] (octet_e bs _ _ _ _ _ e6 hl) rfl ?_ | refine K1.C 3 [(0,_),(1,_),(2,_)] (wordsK_e bs _ _ _ _ e7 (by assumption) hl (by assumption)) rfl ?_ | refine K1.C 3 [(0,_),(1,_),(2,_)] (octet_e bs _ _ _ _ _ e8 hl) rfl ?_ | refine K1.C 3 [(0,_),(1,_),(2,_)] (octet_e bs _ _ _ _ _ e9 hl) rfl ?_ | refine K1.C 3 [(0,_),(1,_),(2,_)] (wordsV_e bs _ _ _ _ e10 (by assumption) hl (by assumption)) rfl ?_ | refine K1.P1 (isLong_spec _) rfl ?_ | refine ALoop.rounds 6 ?_ | refine K1.I 0x4000004301c7 Tryz.func144 ?_ | refine K1.o (id := 6) [(0,none),(1,none),(2,some []),(3,some []),(4,some [1])] [(2,[]),(3,[]),(4,[1])] ?_ | refine K1.o (id := 7) [(0,none),(1,none),(2,some [0]),(3,some [0,1]),(4,some [0,1])] [(2,[0]),(3,[0,1]),(4,[0,1])] ?_ | refine K1.z ?_ | refine K1.y (fun _ => ?_) (fun _ => ?_) | fail)
   all_goals refine ARet.hdI ?_
   all_goals (conv => whnf)
   all_goals refine AEqI.mk (AEq.of ?_)
   all_goals first | exact takeE_ok (hL ‹_›) ‹_› | exact takeE_no (hL ‹_›) ‹_› | exact takeE_ok (hS ‹_›) ‹_› | exact takeE_no (hS ‹_›) ‹_›
 · obtain ⟨⟨c0,t1⟩,f0⟩ : ∃ p,numS bs 0 1048576 s3 = p := ⟨_,rfl⟩
   obtain ⟨p0,_⟩ := numS_to f0 q3 (by omega) (by omega)
   obtain ⟨⟨c1,t2⟩,f1⟩ : ∃ p,numS bs 0 1048576 t1 = p := ⟨_,rfl⟩
   obtain ⟨p1,_⟩ := numS_to f1 p0 (by omega) (by omega)
   obtain ⟨⟨c2,t3⟩,f2⟩ : ∃ p,numS bs 0 1048576 t2 = p := ⟨_,rfl⟩
   obtain ⟨p2,_⟩ := numS_to f2 p1 (by omega) (by omega)
   obtain ⟨⟨c3,t4⟩,f3⟩ : ∃ p,numS bs 0 1048576 t3 = p := ⟨_,rfl⟩
   obtain ⟨p3,_⟩ := numS_to f3 p2 (by omega) (by omega)
   obtain ⟨⟨H,s5⟩,e5⟩ : ∃ p,numS bs 1 16777216 t4 = p := ⟨_,rfl⟩
   obtain ⟨q5,g5⟩ := numS_to e5 p3 (by omega) (by omega)
   obtain ⟨⟨ks,s6⟩,e6⟩ : ∃ p,octS bs 1 8 s5 = p := ⟨_,rfl⟩
   obtain ⟨q6,g6⟩ := octS_to e6 q5
   obtain ⟨⟨key,s7⟩,e7⟩ : ∃ p,wordS bs ks keyE s6 = p := ⟨_,rfl⟩
   have q7 := wordS_to e7 q6
   obtain ⟨⟨l,s8⟩,e8⟩ : ∃ p,octS bs 0 1 s7 = p := ⟨_,rfl⟩
   obtain ⟨q8,g8⟩ := octS_to e8 q7
   obtain ⟨⟨vs,s9⟩,e9⟩ : ∃ p,octS bs 1 12 s8 = p := ⟨_,rfl⟩
   obtain ⟨q9,g9⟩ := octS_to e9 q8
   obtain ⟨⟨v,s10⟩,e10⟩ : ∃ p,wordS bs vs valueE s9 = p := ⟨_,rfl⟩
   have hF : fieldS bs (0,0) = if isLong k then (⟨4,N,⟨c0,c1,c2,c3,N - 1⟩,H,k,key,l,v⟩,s10) else (⟨4,N,⟨c0,c1,c2,c3,N - 1⟩,H,k,key,0,⟨#[]⟩⟩,s7) := by
    simp [fieldS,clockS,clkAt,skipS,Clk.setN,Clk.put,e1,e2,e3,f0,f1,f2,f3,e5,e6,e7,e8,e9,e10]
   have hL : isLong k = true → fieldS bs (0,0) = (⟨4,N,⟨c0,c1,c2,c3,N - 1⟩,H,k,key,l,v⟩,s10) := fun h => hF.trans (if_pos h)
   have hS : isLong k = false → fieldS bs (0,0) = (⟨4,N,⟨c0,c1,c2,c3,N - 1⟩,H,k,key,0,⟨#[]⟩⟩,s7) := fun h => hF.trans (if_neg (by rw [h]; exact Bool.false_ne_true))
   clear hF
   refine K1.E 0x100ff Tryz.func114 ?_
   repeat' ((conv => whnf); first | refine K1.w ?_ | refine K1.u ?_ | refine K1.C 3 [(0,_),(1,_),(2,_)] (octet_e bs _ _ _ _ _ e1 hl) rfl ?_ | refine K1.C 3 [(0,_),(1,_),(2,_)] (octet_e bs _ _ _ _ _ e2 hl) rfl ?_ | refine K1.C 3 [(0,_),(1,_),(2,_)] (number_e bs _ _ _ _ _ e3 (by assumption) hl (by omega) (by omega) (by omega)) rfl ?_ | refine K1.C 3 [(0,_),(1,_),(2,_)] (number_e bs _ _ _ _ _ f0 (by assumption) hl (by omega) (by omega) (by omega)) rfl ?_ | refine K1.C 3 [(0,_),(1,_),(2,_)] (number_e bs _ _ _ _ _ f1 (by assumption) hl (by omega) (by omega) (by omega)) rfl ?_ | refine K1.C 3 [(0,_),(1,_),(2,_)] (number_e bs _ _ _ _ _ f2 (by assumption) hl (by omega) (by omega) (by omega)) rfl ?_ | refine K1.C 3 [(0,_),(1,_),(2,_)] (number_e bs _ _ _ _ _ f3 (by assumption) hl (by omega) (by omega) (by omega)) rfl ?_ | refine K1.C 3 [(0,_),(1,_),(2,_)] (number_e bs _ _ _ _ _ e5 (by assumption) hl (by omega) (by omega) (by omega)) rfl ?_ | refine K1.C 3 [(0,_),(1,_),(2,_)] (octet_e bs _ _ _ _ _ e6 hl) rfl ?_ | refine K1.C 3 [(0,_),(1,_),(2,_)] (wordsK_e bs _ _ _ _ e7 (by assumption) hl (by assumption)) rfl ?_ | refine K1.C 3 [(0,_),(1,_),(2,_)] (octet_e bs _ _ _ _ _ e8 hl) rfl ?_ | refine K1.C 3 [(0,_),(1,_),(2,_)] (octet_e bs _ _ _ _ _ e9 hl) rfl ?_ | refine K1.C 3 [(0,_),(1,_),(2,_)] (wordsV_e bs _ _ _ _ e10 (by assumption) hl (by assumption)) rfl ?_ | refine K1.P1 (isLong_spec _) rfl ?_ | refine ALoop.rounds 6 ?_ | refine K1.I 0x4000004301c7 Tryz.func144 ?_ | refine K1.o (id := 6) [(0,none),(1,none),(2,some []),(3,some []),(4,some [1])] [(2,[]),(3,[]),(4,[1])] ?_ | refine K1.o (id := 7) [(0,none),(1,none),(2,some [0]),(3,some [0,1]),(4,some [0,1])] [(2,[0]),(3,[0,1]),(4,[0,1])] ?_ | refine K1.z ?_ | refine K1.y (fun _ => ?_) (fun _ => ?_) | fail)
   all_goals refine ARet.hdI ?_
   all_goals (conv => whnf)
   all_goals refine AEqI.mk (AEq.of ?_)
   all_goals first | exact takeE_ok (hL ‹_›) ‹_› | exact takeE_no (hL ‹_›) ‹_› | exact takeE_ok (hS ‹_›) ‹_› | exact takeE_no (hS ‹_›) ‹_›
end Go.Proofs.YtimhagicagdkfaaGreat

/-
 Plain Lean: what was put is taken; what is taken was put; what is cut is too short.
-/
namespace Go.Proofs.YtimhagicagdkfaaGreat
theorem u8_of {n : Nat} (h : n < 256) : (UInt8.ofNat n).toNat = n := by
 rw [UInt8.toNat_ofNat',Nat.mod_eq_of_lt (by omega)]
theorem u8_eq {a b : UInt8} (h : a.toNat = b.toNat) : a = b := UInt8.toNat_inj.1 h
theorem vtakeF_put (t : List UInt8) : ∀ (f i n acc : Nat),i + f = 9 → n * 128 ^ i ≤ 4294967296 → (0 < i → n ≠ 0) → n < 128 ^ (f + 1) →
  vtakeF ((vputF f n ++ t).take (10 - i)) i acc = (acc + n * 128 ^ i,i + (vputF f n).length,0)
  | 0,i,n,acc,hi,hn,h0,_ => by
    have : i = 9 := by omega
    subst this
    exfalso
    have : n = 0 ∨ 1 ≤ n := by omega
    rcases this with h | h
    · exact h0 (by omega) h
    · have h2 : 128 ^ 9 = 9223372036854775808 := by decide
      rw [h2] at hn
      omega
  | f + 1,i,n,acc,hi,hn,h0,hlt => by
    have h10 : 10 - i = (10 - (i + 1)) + 1 := by omega
    by_cases h : n < 128
    · simp only [vputF,if_pos h,List.cons_append,List.nil_append,h10,List.take_succ_cons,vtakeF,u8_of (show n < 256 by omega)]
      rw [if_neg (by omega),if_neg]
      · simp
      · rintro (⟨h1,h2⟩ | ⟨h1,h2⟩)
        · exact h0 h1 h2
        · omega
    · have hq : n % 128 + 128 < 256 := by omega
      have e : n / 128 * 128 ^ (i + 1) + n % 128 * 128 ^ i = n * 128 ^ i := by
       rw [Nat.pow_succ,Nat.mul_comm (128 ^ i) 128,← Nat.mul_assoc,← Nat.add_mul]
       congr 1
       omega
      have ih := vtakeF_put t f (i + 1) (n / 128) (acc + (n % 128) * 128 ^ i) (by omega) (by omega) (fun _ => by omega) (by
       rw [Nat.pow_succ] at hlt
       exact Nat.div_lt_of_lt_mul (by omega))
      simp only [vputF,if_neg h,List.cons_append,h10,List.take_succ_cons,vtakeF,u8_of hq]
      rw [if_pos (by omega),show n % 128 + 128 - 128 = n % 128 by omega,ih]
      simp only [List.length_cons,Prod.mk.injEq,and_true]
      exact ⟨by omega,by omega⟩
theorem vtake_put (n : Nat) (t : List UInt8) (h : n ≤ 4294967296) : vtake (vput n ++ t) = (n,(vput n).length,0) := by
 have := vtakeF_put t 9 0 n 0 rfl (by simpa using h) (fun h => absurd h (by omega)) (by
  have : 128 ^ (9 + 1) = 1180591620717411303424 := by decide
  omega)
 simpa [vtake,vput] using this
theorem vtakeF_ok : ∀ (l : List UInt8) (i acc m k : Nat),i + l.length ≤ 10 → vtakeF l i acc = (m,k,0) → ∃ n,m = acc + n * 128 ^ i ∧ k = i + (vputF (9 - i) n).length ∧ k ≤ i + l.length ∧ l.take (k - i) = vputF (9 - i) n ∧ (0 < i → n ≠ 0)
  | [],i,acc,m,k,hl,h => by
    simp only [vtakeF] at h
    split at h <;> cases h
  | c :: r,i,acc,m,k,hl,h => by
    simp only [vtakeF] at h
    simp only [List.length_cons] at hl
    have hc := UInt8.toNat_lt c
    by_cases h1 : 128 ≤ c.toNat
    · rw [if_pos h1] at h
      obtain ⟨n,e1,e2,e3,e4,e5⟩ := vtakeF_ok r (i + 1) _ m k (by omega) h
      have hn := e5 (by omega)
      have h9 : 9 - i = (9 - (i + 1)) + 1 := by
       have : 1 ≤ r.length := by
        cases r with
        | nil =>
          simp only [vtakeF] at h
          split at h <;> cases h
        | cons => simp
       omega
      refine ⟨n * 128 + (c.toNat - 128),?_,?_,by simp only [List.length_cons]; omega,?_,fun _ => by omega⟩
      · rw [e1,Nat.pow_succ,Nat.add_mul]
        have : n * (128 ^ i * 128) = n * 128 * 128 ^ i := by rw [Nat.mul_comm (128 ^ i) 128,Nat.mul_assoc]
        omega
      · rw [h9,vputF,if_neg (by omega),List.length_cons,show (n * 128 + (c.toNat - 128)) / 128 = n by omega]
        omega
      · have hk : k - i = (k - (i + 1)) + 1 := by
         have := vputF_pos (9 - (i + 1)) n
         omega
        rw [hk,List.take_succ_cons,e4,h9,vputF,if_neg (by omega),show (n * 128 + (c.toNat - 128)) / 128 = n by omega]
        have hcc : UInt8.ofNat ((n * 128 + (c.toNat - 128)) % 128 + 128) = c := u8_eq (by rw [u8_of (by omega)]; omega)
        rw [hcc]
    · rw [if_neg h1] at h
      split at h
      · cases h
      · rename_i h2
        simp only [Prod.mk.injEq,and_true] at h
        obtain ⟨h3,h4⟩ := h
        refine ⟨c.toNat,h3.symm,?_,by simp only [List.length_cons]; omega,?_,fun hi e => h2 (.inl ⟨hi,e⟩)⟩
        all_goals subst h4
        · cases h9 : 9 - i with
          | zero => simp [vputF]
          | succ f => simp [vputF,show c.toNat < 128 by omega]
        · rw [show i + 1 - i = 0 + 1 by omega,List.take_succ_cons,List.take_zero]
          have : UInt8.ofNat c.toNat = c := by simp
          cases h9 : 9 - i with
          | zero => simp [vputF,this]
          | succ f => simp [vputF,show c.toNat < 128 by omega,this]
theorem vtake_ok {l : List UInt8} {m k : Nat} (h : vtake l = (m,k,0)) : k = (vput m).length ∧ k ≤ l.length ∧ l.take k = vput m := by
 obtain ⟨n,e1,e2,e3,e4,_⟩ := vtakeF_ok (l.take 10) 0 0 m k (by rw [List.length_take]; omega) h
 simp only [Nat.pow_zero,Nat.mul_one,Nat.zero_add,Nat.sub_zero] at e1 e2 e3 e4
 subst e1
 rw [List.length_take] at e3
 refine ⟨e2,by omega,?_⟩
 rw [List.take_take,Nat.min_eq_left (by omega)] at e4
 exact e4
theorem vtakeF_err : ∀ (l : List UInt8) (i acc : Nat),(vtakeF l i acc).2.2 = 0 ∨ (vtakeF l i acc).2.2 = 2 ∨ (vtakeF l i acc).2.2 = 3
  | [],i,acc => by simp only [vtakeF]; split <;> simp
  | c :: r,i,acc => by
    simp only [vtakeF]
    split
    · exact vtakeF_err r _ _
    · split <;> simp
theorem vtakeF_cut : ∀ (f i n acc j : Nat),i + f ≤ 9 → j < (vputF f n).length → vtakeF ((vputF f n).take j) i acc = (0,0,2)
  | f,i,n,acc,0,hi,_ => by simp [vtakeF]; omega
  | 0,i,n,acc,j + 1,hi,hj => by simp [vputF] at hj
  | f + 1,i,n,acc,j + 1,hi,hj => by
    by_cases h : n < 128
    · simp [vputF,h] at hj
    · have hq : n % 128 + 128 < 256 := by omega
      simp only [vputF,if_neg h,List.length_cons] at hj
      simp only [vputF,if_neg h,List.take_succ_cons,vtakeF,u8_of hq]
      rw [if_pos (by omega)]
      exact vtakeF_cut f (i + 1) (n / 128) _ j (by omega) (by omega)
theorem vtake_cut {n j : Nat} (hj : j < (vput n).length) : vtake ((vput n).take j) = (0,0,2) := by
 have := vputF_le 9 n
 unfold vtake
 rw [List.take_take,Nat.min_eq_right (by unfold vput at hj; omega)]
 exact vtakeF_cut 9 0 n 0 j (by omega) hj
end Go.Proofs.YtimhagicagdkfaaGreat

/-
 Plain Lean: the fields of an event,put and taken.
-/
namespace Go.Proofs.YtimhagicagdkfaaGreat
theorem drop_cons {bs t : List UInt8} {u : Nat} {b : UInt8} (h : bs.drop u = b :: t) : u < bs.length ∧ bs.getD u 0 = b ∧ bs.drop (u + 1) = t := by
 have hlt : u < bs.length := by
  rcases Nat.lt_or_ge u bs.length with h' | h'
  · exact h'
  · rw [List.drop_of_length_le h'] at h; cases h
 refine ⟨hlt,?_,?_⟩
 · rw [List.drop_eq_getElem_cons hlt] at h
   rw [List.getD_eq_getElem?_getD,List.getElem?_eq_getElem hlt]
   exact (List.cons.inj h).1
 · rw [List.drop_eq_getElem_cons hlt] at h
   exact (List.cons.inj h).2
theorem drop_app {bs l t : List UInt8} {u : Nat} (h : bs.drop u = l ++ t) : bs.drop (u + l.length) = t := by
 rw [← List.drop_drop,h,List.drop_left]
theorem octS_put {bs t : List UInt8} {u : Nat} {b : UInt8} {lo hi : Int} (h : bs.drop u = b :: t) (h1 : lo ≤ (b.toNat : Int)) (h2 : (b.toNat : Int) ≤ hi) : octS bs lo hi (u,0) = ((b.toNat : Int),(u + 1,0)) ∧ bs.drop (u + 1) = t := by
 obtain ⟨h3,h4,h5⟩ := drop_cons h
 refine ⟨?_,h5⟩
 unfold octS
 rw [if_neg (by simp),if_neg (by simpa using h3),h4,if_pos ⟨h1,h2⟩]
theorem numS_put {bs t : List UInt8} {u n : Nat} {lo hi : Int} (h : bs.drop u = vput n ++ t) (hn : n ≤ 4294967296) (h1 : lo ≤ (n : Int)) (h2 : (n : Int) ≤ hi) : numS bs lo hi (u,0) = ((n : Int),(u + (vput n).length,0)) ∧ bs.drop (u + (vput n).length) = t := by
 refine ⟨?_,drop_app h⟩
 unfold numS
 simp only [h,vtake_put n t hn]
 rw [if_neg (by simp),if_neg (by simp),if_pos ⟨h1,h2⟩]
theorem wordS_put {bs t : List UInt8} {u : Nat} {s : ByteArray} {may : ByteArray → Int} (h : bs.drop u = s.data.toList ++ t) (h0 : 1 ≤ s.size) (h1 : may s = 0) : wordS bs (s.size : Int) may (u,0) = (s,(u + s.size,0)) ∧ bs.drop (u + s.size) = t := by
 have hs : s.data.toList.length = s.size := rfl
 have hc : cutB bs u s.size = s := by
  unfold cutB
  rw [h,← hs,List.take_left]
 have hl : s.size ≤ bs.length - u := by
  have := congrArg List.length h
  rw [List.length_drop,List.length_append] at this
  omega
 refine ⟨?_,by have := drop_app h; rwa [hs] at this⟩
 unfold wordS
 rw [if_neg (by simp),if_neg (by dsimp only; omega)]
 simp only [Int.toNat_natCast,hc,h1,if_true]
theorem byteOf_nat {n : Int} (h0 : 0 ≤ n) (h1 : n ≤ 255) : ((byteOf n).toNat : Int) = n := by
 unfold byteOf
 rw [UInt8.toNat_ofNat',Nat.mod_eq_of_lt (by omega)]
 omega
theorem size_nat {s : ByteArray} (h : s.size ≤ 255) : ((UInt8.ofNat s.size).toNat : Int) = s.size := by
 rw [UInt8.toNat_ofNat',Nat.mod_eq_of_lt (by omega)]
theorem vputI_nat (n : Nat) : vputI (n : Int) = vput n := by simp [vputI]
theorem size_nil {s : ByteArray} (h : s.size = 0) : s = ⟨#[]⟩ := by
 cases s with
 | mk d =>
   have : d = #[] := Array.eq_empty_of_size_eq_zero h
   rw [this]
set_option maxHeartbeats 4000000 in
theorem field_put (e : Ev) (h : mayE e = 0) (rest : List UInt8) : fieldS (evBytes e ++ rest) (0,0) = (e,((evBytes e).length,0)) := by
 have m := mayE_zero h
 have g := editE_zero m.ed
 obtain ⟨r,n,⟨c0,c1,c2,c3,c4⟩,hh,k,key,l,v⟩ := e
 obtain ⟨r0,r4,n1,n2,h1,h2,a0,a1,a2,a3,a4,own,ed⟩ := m
 dsimp only [Ev.ed] at r0 r4 n1 n2 h1 h2 a0 a1 a2 a3 a4 g own
 obtain ⟨g1,g2,g3,g4,g5,g6,g7⟩ := g
 clear ed h
 obtain ⟨n,rfl⟩ := Int.eq_ofNat_of_zero_le (show 0 ≤ n by omega)
 obtain ⟨hh,rfl⟩ := Int.eq_ofNat_of_zero_le (show 0 ≤ hh by omega)
 obtain ⟨c0,rfl⟩ := Int.eq_ofNat_of_zero_le a0.1
 obtain ⟨c1,rfl⟩ := Int.eq_ofNat_of_zero_le a1.1
 obtain ⟨c2,rfl⟩ := Int.eq_ofNat_of_zero_le a2.1
 obtain ⟨c3,rfl⟩ := Int.eq_ofNat_of_zero_le a3.1
 obtain ⟨c4,rfl⟩ := Int.eq_ofNat_of_zero_le a4.1
 have hkey : keyE key = 0 := by unfold keyE; rw [if_pos ⟨g3,g4,g5⟩]
 have bk := byteOf_nat (n := k) (by omega) (by omega)
 have bkey := size_nat (s := key) (by omega)
 rcases (show r = 0 ∨ r = 1 ∨ r = 2 ∨ r = 3 ∨ r = 4 by omega) with rfl | rfl | rfl | rfl | rfl
 · simp only [Clk.get] at own; simp at own
   have br : ((byteOf 0).toNat : Int) = 0 := byteOf_nat (by omega) (by omega)
   cases hl : isLong k with
   | true =>
     obtain ⟨x1,x2,x3,x4⟩ := g6 hl
     have bl := byteOf_nat (n := l) (by omega) (by omega)
     have bv := size_nat (s := v) (by omega)
     have hval : valueE v = 0 := by unfold valueE; rw [if_pos ⟨x3,x4⟩]
     generalize hbs : evBytes _ ++ rest = bs
     generalize hlen : (evBytes _).length = len
     have d0 : bs.drop 0 = byteOf k :: byteOf 0 :: (vput n ++ (vput c1 ++ ( vput c2 ++ ( vput c3 ++ ( vput c4 ++ ( (vput hh ++ (UInt8.ofNat key.size :: (key.data.toList ++ (byteOf l :: UInt8.ofNat v.size :: (v.data.toList ++ rest))))))))))) := by
      rw [← hbs]; simp [evBytes,others,words,vputI_nat,hl]
     obtain ⟨e1,d1⟩ := octS_put (lo := 1) (hi := 5) d0 (by omega) (by omega)
     obtain ⟨e2,d2⟩ := octS_put (lo := 0) (hi := 4) d1 (by omega) (by omega)
     obtain ⟨e3,d3⟩ := numS_put (lo := 1) (hi := 1048576) d2 (by omega) (by omega) (by omega)
     obtain ⟨f1,d11⟩ := numS_put (lo := 0) (hi := 1048576) d3 (by omega) (by omega) (by omega)
     obtain ⟨f2,d12⟩ := numS_put (lo := 0) (hi := 1048576) d11 (by omega) (by omega) (by omega)
     obtain ⟨f3,d13⟩ := numS_put (lo := 0) (hi := 1048576) d12 (by omega) (by omega) (by omega)
     obtain ⟨f4,d14⟩ := numS_put (lo := 0) (hi := 1048576) d13 (by omega) (by omega) (by omega)
     obtain ⟨e5,d5⟩ := numS_put (lo := 1) (hi := 16777216) d14 (by omega) (by omega) (by omega)
     obtain ⟨e6,d6⟩ := octS_put (lo := 1) (hi := 8) d5 (by omega) (by omega)
     obtain ⟨e7,d7⟩ := wordS_put (may := keyE) d6 g3 hkey
     obtain ⟨e8,d8⟩ := octS_put (lo := 0) (hi := 1) d7 (by omega) (by omega)
     obtain ⟨e9,d9⟩ := octS_put (lo := 1) (hi := 12) d8 (by omega) (by omega)
     obtain ⟨e10,d10⟩ := wordS_put (may := valueE) d9 x3 hval
     rw [bk] at e1; rw [br] at e2; rw [bkey] at e6; rw [bl] at e8; rw [bv] at e9
     simp [fieldS,clockS,clkAt,skipS,Clk.setN,Clk.put,e1,e2,e3,f1,f2,f3,f4,e5,e6,e7,e8,e9,e10,hl]
     refine ⟨?_,?_⟩
     · simp [own]
     · rw [← hlen]; simp [evBytes,others,words,vputI_nat,hl]; omega
   | false =>
     obtain ⟨x1,x2⟩ := g7 hl
     have hv0 : v = ⟨#[]⟩ := size_nil x2
     generalize hbs : evBytes _ ++ rest = bs
     generalize hlen : (evBytes _).length = len
     have d0 : bs.drop 0 = byteOf k :: byteOf 0 :: (vput n ++ (vput c1 ++ ( vput c2 ++ ( vput c3 ++ ( vput c4 ++ ( (vput hh ++ (UInt8.ofNat key.size :: (key.data.toList ++ (rest)))))))))) := by
      rw [← hbs]; simp [evBytes,others,words,vputI_nat,hl]
     obtain ⟨e1,d1⟩ := octS_put (lo := 1) (hi := 5) d0 (by omega) (by omega)
     obtain ⟨e2,d2⟩ := octS_put (lo := 0) (hi := 4) d1 (by omega) (by omega)
     obtain ⟨e3,d3⟩ := numS_put (lo := 1) (hi := 1048576) d2 (by omega) (by omega) (by omega)
     obtain ⟨f1,d11⟩ := numS_put (lo := 0) (hi := 1048576) d3 (by omega) (by omega) (by omega)
     obtain ⟨f2,d12⟩ := numS_put (lo := 0) (hi := 1048576) d11 (by omega) (by omega) (by omega)
     obtain ⟨f3,d13⟩ := numS_put (lo := 0) (hi := 1048576) d12 (by omega) (by omega) (by omega)
     obtain ⟨f4,d14⟩ := numS_put (lo := 0) (hi := 1048576) d13 (by omega) (by omega) (by omega)
     obtain ⟨e5,d5⟩ := numS_put (lo := 1) (hi := 16777216) d14 (by omega) (by omega) (by omega)
     obtain ⟨e6,d6⟩ := octS_put (lo := 1) (hi := 8) d5 (by omega) (by omega)
     obtain ⟨e7,d7⟩ := wordS_put (may := keyE) d6 g3 hkey
     rw [bk] at e1; rw [br] at e2; rw [bkey] at e6
     simp [fieldS,clockS,clkAt,skipS,Clk.setN,Clk.put,e1,e2,e3,f1,f2,f3,f4,e5,e6,e7,hl]
     refine ⟨?_,?_⟩
     · simp [own,x1,hv0]
     · rw [← hlen]; simp [evBytes,others,words,vputI_nat,hl]; omega
 · simp only [Clk.get] at own; simp at own
   have br : ((byteOf 1).toNat : Int) = 1 := byteOf_nat (by omega) (by omega)
   cases hl : isLong k with
   | true =>
     obtain ⟨x1,x2,x3,x4⟩ := g6 hl
     have bl := byteOf_nat (n := l) (by omega) (by omega)
     have bv := size_nat (s := v) (by omega)
     have hval : valueE v = 0 := by unfold valueE; rw [if_pos ⟨x3,x4⟩]
     generalize hbs : evBytes _ ++ rest = bs
     generalize hlen : (evBytes _).length = len
     have d0 : bs.drop 0 = byteOf k :: byteOf 1 :: (vput n ++ (vput c0 ++ ( vput c2 ++ ( vput c3 ++ ( vput c4 ++ ( (vput hh ++ (UInt8.ofNat key.size :: (key.data.toList ++ (byteOf l :: UInt8.ofNat v.size :: (v.data.toList ++ rest))))))))))) := by
      rw [← hbs]; simp [evBytes,others,words,vputI_nat,hl]
     obtain ⟨e1,d1⟩ := octS_put (lo := 1) (hi := 5) d0 (by omega) (by omega)
     obtain ⟨e2,d2⟩ := octS_put (lo := 0) (hi := 4) d1 (by omega) (by omega)
     obtain ⟨e3,d3⟩ := numS_put (lo := 1) (hi := 1048576) d2 (by omega) (by omega) (by omega)
     obtain ⟨f0,d10⟩ := numS_put (lo := 0) (hi := 1048576) d3 (by omega) (by omega) (by omega)
     obtain ⟨f2,d12⟩ := numS_put (lo := 0) (hi := 1048576) d10 (by omega) (by omega) (by omega)
     obtain ⟨f3,d13⟩ := numS_put (lo := 0) (hi := 1048576) d12 (by omega) (by omega) (by omega)
     obtain ⟨f4,d14⟩ := numS_put (lo := 0) (hi := 1048576) d13 (by omega) (by omega) (by omega)
     obtain ⟨e5,d5⟩ := numS_put (lo := 1) (hi := 16777216) d14 (by omega) (by omega) (by omega)
     obtain ⟨e6,d6⟩ := octS_put (lo := 1) (hi := 8) d5 (by omega) (by omega)
     obtain ⟨e7,d7⟩ := wordS_put (may := keyE) d6 g3 hkey
     obtain ⟨e8,d8⟩ := octS_put (lo := 0) (hi := 1) d7 (by omega) (by omega)
     obtain ⟨e9,d9⟩ := octS_put (lo := 1) (hi := 12) d8 (by omega) (by omega)
     obtain ⟨e10,d10⟩ := wordS_put (may := valueE) d9 x3 hval
     rw [bk] at e1; rw [br] at e2; rw [bkey] at e6; rw [bl] at e8; rw [bv] at e9
     simp [fieldS,clockS,clkAt,skipS,Clk.setN,Clk.put,e1,e2,e3,f0,f2,f3,f4,e5,e6,e7,e8,e9,e10,hl]
     refine ⟨?_,?_⟩
     · simp [own]
     · rw [← hlen]; simp [evBytes,others,words,vputI_nat,hl]; omega
   | false =>
     obtain ⟨x1,x2⟩ := g7 hl
     have hv0 : v = ⟨#[]⟩ := size_nil x2
     generalize hbs : evBytes _ ++ rest = bs
     generalize hlen : (evBytes _).length = len
     have d0 : bs.drop 0 = byteOf k :: byteOf 1 :: (vput n ++ (vput c0 ++ ( vput c2 ++ ( vput c3 ++ ( vput c4 ++ ( (vput hh ++ (UInt8.ofNat key.size :: (key.data.toList ++ (rest)))))))))) := by
      rw [← hbs]; simp [evBytes,others,words,vputI_nat,hl]
     obtain ⟨e1,d1⟩ := octS_put (lo := 1) (hi := 5) d0 (by omega) (by omega)
     obtain ⟨e2,d2⟩ := octS_put (lo := 0) (hi := 4) d1 (by omega) (by omega)
     obtain ⟨e3,d3⟩ := numS_put (lo := 1) (hi := 1048576) d2 (by omega) (by omega) (by omega)
     obtain ⟨f0,d10⟩ := numS_put (lo := 0) (hi := 1048576) d3 (by omega) (by omega) (by omega)
     obtain ⟨f2,d12⟩ := numS_put (lo := 0) (hi := 1048576) d10 (by omega) (by omega) (by omega)
     obtain ⟨f3,d13⟩ := numS_put (lo := 0) (hi := 1048576) d12 (by omega) (by omega) (by omega)
     obtain ⟨f4,d14⟩ := numS_put (lo := 0) (hi := 1048576) d13 (by omega) (by omega) (by omega)
     obtain ⟨e5,d5⟩ := numS_put (lo := 1) (hi := 16777216) d14 (by omega) (by omega) (by omega)
     obtain ⟨e6,d6⟩ := octS_put (lo := 1) (hi := 8) d5 (by omega) (by omega)
     obtain ⟨e7,d7⟩ := wordS_put (may := keyE) d6 g3 hkey
     rw [bk] at e1; rw [br] at e2; rw [bkey] at e6
     simp [fieldS,clockS,clkAt,skipS,Clk.setN,Clk.put,e1,e2,e3,f0,f2,f3,f4,e5,e6,e7,hl]
     refine ⟨?_,?_⟩
     · simp [own,x1,hv0]
     · rw [← hlen]; simp [evBytes,others,words,vputI_nat,hl]; omega
 · simp only [Clk.get] at own; simp at own
   have br : ((byteOf 2).toNat : Int) = 2 := byteOf_nat (by omega) (by omega)
   cases hl : isLong k with
   | true =>
     obtain ⟨x1,x2,x3,x4⟩ := g6 hl
     have bl := byteOf_nat (n := l) (by omega) (by omega)
     have bv := size_nat (s := v) (by omega)
     have hval : valueE v = 0 := by unfold valueE; rw [if_pos ⟨x3,x4⟩]
     generalize hbs : evBytes _ ++ rest = bs
     generalize hlen : (evBytes _).length = len
     have d0 : bs.drop 0 = byteOf k :: byteOf 2 :: (vput n ++ (vput c0 ++ ( vput c1 ++ ( vput c3 ++ ( vput c4 ++ ( (vput hh ++ (UInt8.ofNat key.size :: (key.data.toList ++ (byteOf l :: UInt8.ofNat v.size :: (v.data.toList ++ rest))))))))))) := by
      rw [← hbs]; simp [evBytes,others,words,vputI_nat,hl]
     obtain ⟨e1,d1⟩ := octS_put (lo := 1) (hi := 5) d0 (by omega) (by omega)
     obtain ⟨e2,d2⟩ := octS_put (lo := 0) (hi := 4) d1 (by omega) (by omega)
     obtain ⟨e3,d3⟩ := numS_put (lo := 1) (hi := 1048576) d2 (by omega) (by omega) (by omega)
     obtain ⟨f0,d10⟩ := numS_put (lo := 0) (hi := 1048576) d3 (by omega) (by omega) (by omega)
     obtain ⟨f1,d11⟩ := numS_put (lo := 0) (hi := 1048576) d10 (by omega) (by omega) (by omega)
     obtain ⟨f3,d13⟩ := numS_put (lo := 0) (hi := 1048576) d11 (by omega) (by omega) (by omega)
     obtain ⟨f4,d14⟩ := numS_put (lo := 0) (hi := 1048576) d13 (by omega) (by omega) (by omega)
     obtain ⟨e5,d5⟩ := numS_put (lo := 1) (hi := 16777216) d14 (by omega) (by omega) (by omega)
     obtain ⟨e6,d6⟩ := octS_put (lo := 1) (hi := 8) d5 (by omega) (by omega)
     obtain ⟨e7,d7⟩ := wordS_put (may := keyE) d6 g3 hkey
     obtain ⟨e8,d8⟩ := octS_put (lo := 0) (hi := 1) d7 (by omega) (by omega)
     obtain ⟨e9,d9⟩ := octS_put (lo := 1) (hi := 12) d8 (by omega) (by omega)
     obtain ⟨e10,d10⟩ := wordS_put (may := valueE) d9 x3 hval
     rw [bk] at e1; rw [br] at e2; rw [bkey] at e6; rw [bl] at e8; rw [bv] at e9
     simp [fieldS,clockS,clkAt,skipS,Clk.setN,Clk.put,e1,e2,e3,f0,f1,f3,f4,e5,e6,e7,e8,e9,e10,hl]
     refine ⟨?_,?_⟩
     · simp [own]
     · rw [← hlen]; simp [evBytes,others,words,vputI_nat,hl]; omega
   | false =>
     obtain ⟨x1,x2⟩ := g7 hl
     have hv0 : v = ⟨#[]⟩ := size_nil x2
     generalize hbs : evBytes _ ++ rest = bs
     generalize hlen : (evBytes _).length = len
     have d0 : bs.drop 0 = byteOf k :: byteOf 2 :: (vput n ++ (vput c0 ++ ( vput c1 ++ ( vput c3 ++ ( vput c4 ++ ( (vput hh ++ (UInt8.ofNat key.size :: (key.data.toList ++ (rest)))))))))) := by
      rw [← hbs]; simp [evBytes,others,words,vputI_nat,hl]
     obtain ⟨e1,d1⟩ := octS_put (lo := 1) (hi := 5) d0 (by omega) (by omega)
     obtain ⟨e2,d2⟩ := octS_put (lo := 0) (hi := 4) d1 (by omega) (by omega)
     obtain ⟨e3,d3⟩ := numS_put (lo := 1) (hi := 1048576) d2 (by omega) (by omega) (by omega)
     obtain ⟨f0,d10⟩ := numS_put (lo := 0) (hi := 1048576) d3 (by omega) (by omega) (by omega)
     obtain ⟨f1,d11⟩ := numS_put (lo := 0) (hi := 1048576) d10 (by omega) (by omega) (by omega)
     obtain ⟨f3,d13⟩ := numS_put (lo := 0) (hi := 1048576) d11 (by omega) (by omega) (by omega)
     obtain ⟨f4,d14⟩ := numS_put (lo := 0) (hi := 1048576) d13 (by omega) (by omega) (by omega)
     obtain ⟨e5,d5⟩ := numS_put (lo := 1) (hi := 16777216) d14 (by omega) (by omega) (by omega)
     obtain ⟨e6,d6⟩ := octS_put (lo := 1) (hi := 8) d5 (by omega) (by omega)
     obtain ⟨e7,d7⟩ := wordS_put (may := keyE) d6 g3 hkey
     rw [bk] at e1; rw [br] at e2; rw [bkey] at e6
     simp [fieldS,clockS,clkAt,skipS,Clk.setN,Clk.put,e1,e2,e3,f0,f1,f3,f4,e5,e6,e7,hl]
     refine ⟨?_,?_⟩
     · simp [own,x1,hv0]
     · rw [← hlen]; simp [evBytes,others,words,vputI_nat,hl]; omega
 · simp only [Clk.get] at own; simp at own
   have br : ((byteOf 3).toNat : Int) = 3 := byteOf_nat (by omega) (by omega)
   cases hl : isLong k with
   | true =>
     obtain ⟨x1,x2,x3,x4⟩ := g6 hl
     have bl := byteOf_nat (n := l) (by omega) (by omega)
     have bv := size_nat (s := v) (by omega)
     have hval : valueE v = 0 := by unfold valueE; rw [if_pos ⟨x3,x4⟩]
     generalize hbs : evBytes _ ++ rest = bs
     generalize hlen : (evBytes _).length = len
     have d0 : bs.drop 0 = byteOf k :: byteOf 3 :: (vput n ++ (vput c0 ++ ( vput c1 ++ ( vput c2 ++ ( vput c4 ++ ( (vput hh ++ (UInt8.ofNat key.size :: (key.data.toList ++ (byteOf l :: UInt8.ofNat v.size :: (v.data.toList ++ rest))))))))))) := by
      rw [← hbs]; simp [evBytes,others,words,vputI_nat,hl]
     obtain ⟨e1,d1⟩ := octS_put (lo := 1) (hi := 5) d0 (by omega) (by omega)
     obtain ⟨e2,d2⟩ := octS_put (lo := 0) (hi := 4) d1 (by omega) (by omega)
     obtain ⟨e3,d3⟩ := numS_put (lo := 1) (hi := 1048576) d2 (by omega) (by omega) (by omega)
     obtain ⟨f0,d10⟩ := numS_put (lo := 0) (hi := 1048576) d3 (by omega) (by omega) (by omega)
     obtain ⟨f1,d11⟩ := numS_put (lo := 0) (hi := 1048576) d10 (by omega) (by omega) (by omega)
     obtain ⟨f2,d12⟩ := numS_put (lo := 0) (hi := 1048576) d11 (by omega) (by omega) (by omega)
     obtain ⟨f4,d14⟩ := numS_put (lo := 0) (hi := 1048576) d12 (by omega) (by omega) (by omega)
     obtain ⟨e5,d5⟩ := numS_put (lo := 1) (hi := 16777216) d14 (by omega) (by omega) (by omega)
     obtain ⟨e6,d6⟩ := octS_put (lo := 1) (hi := 8) d5 (by omega) (by omega)
     obtain ⟨e7,d7⟩ := wordS_put (may := keyE) d6 g3 hkey
     obtain ⟨e8,d8⟩ := octS_put (lo := 0) (hi := 1) d7 (by omega) (by omega)
     obtain ⟨e9,d9⟩ := octS_put (lo := 1) (hi := 12) d8 (by omega) (by omega)
     obtain ⟨e10,d10⟩ := wordS_put (may := valueE) d9 x3 hval
     rw [bk] at e1; rw [br] at e2; rw [bkey] at e6; rw [bl] at e8; rw [bv] at e9
     simp [fieldS,clockS,clkAt,skipS,Clk.setN,Clk.put,e1,e2,e3,f0,f1,f2,f4,e5,e6,e7,e8,e9,e10,hl]
     refine ⟨?_,?_⟩
     · simp [own]
     · rw [← hlen]; simp [evBytes,others,words,vputI_nat,hl]; omega
   | false =>
     obtain ⟨x1,x2⟩ := g7 hl
     have hv0 : v = ⟨#[]⟩ := size_nil x2
     generalize hbs : evBytes _ ++ rest = bs
     generalize hlen : (evBytes _).length = len
     have d0 : bs.drop 0 = byteOf k :: byteOf 3 :: (vput n ++ (vput c0 ++ ( vput c1 ++ ( vput c2 ++ ( vput c4 ++ ( (vput hh ++ (UInt8.ofNat key.size :: (key.data.toList ++ (rest)))))))))) := by
      rw [← hbs]; simp [evBytes,others,words,vputI_nat,hl]
     obtain ⟨e1,d1⟩ := octS_put (lo := 1) (hi := 5) d0 (by omega) (by omega)
     obtain ⟨e2,d2⟩ := octS_put (lo := 0) (hi := 4) d1 (by omega) (by omega)
     obtain ⟨e3,d3⟩ := numS_put (lo := 1) (hi := 1048576) d2 (by omega) (by omega) (by omega)
     obtain ⟨f0,d10⟩ := numS_put (lo := 0) (hi := 1048576) d3 (by omega) (by omega) (by omega)
     obtain ⟨f1,d11⟩ := numS_put (lo := 0) (hi := 1048576) d10 (by omega) (by omega) (by omega)
     obtain ⟨f2,d12⟩ := numS_put (lo := 0) (hi := 1048576) d11 (by omega) (by omega) (by omega)
     obtain ⟨f4,d14⟩ := numS_put (lo := 0) (hi := 1048576) d12 (by omega) (by omega) (by omega)
     obtain ⟨e5,d5⟩ := numS_put (lo := 1) (hi := 16777216) d14 (by omega) (by omega) (by omega)
     obtain ⟨e6,d6⟩ := octS_put (lo := 1) (hi := 8) d5 (by omega) (by omega)
     obtain ⟨e7,d7⟩ := wordS_put (may := keyE) d6 g3 hkey
     rw [bk] at e1; rw [br] at e2; rw [bkey] at e6
     simp [fieldS,clockS,clkAt,skipS,Clk.setN,Clk.put,e1,e2,e3,f0,f1,f2,f4,e5,e6,e7,hl]
     refine ⟨?_,?_⟩
     · simp [own,x1,hv0]
     · rw [← hlen]; simp [evBytes,others,words,vputI_nat,hl]; omega
 · simp only [Clk.get] at own; simp at own
   have br : ((byteOf 4).toNat : Int) = 4 := byteOf_nat (by omega) (by omega)
   cases hl : isLong k with
   | true =>
     obtain ⟨x1,x2,x3,x4⟩ := g6 hl
     have bl := byteOf_nat (n := l) (by omega) (by omega)
     have bv := size_nat (s := v) (by omega)
     have hval : valueE v = 0 := by unfold valueE; rw [if_pos ⟨x3,x4⟩]
     generalize hbs : evBytes _ ++ rest = bs
     generalize hlen : (evBytes _).length = len
     have d0 : bs.drop 0 = byteOf k :: byteOf 4 :: (vput n ++ (vput c0 ++ ( vput c1 ++ ( vput c2 ++ ( vput c3 ++ ( (vput hh ++ (UInt8.ofNat key.size :: (key.data.toList ++ (byteOf l :: UInt8.ofNat v.size :: (v.data.toList ++ rest))))))))))) := by
      rw [← hbs]; simp [evBytes,others,words,vputI_nat,hl]
     obtain ⟨e1,d1⟩ := octS_put (lo := 1) (hi := 5) d0 (by omega) (by omega)
     obtain ⟨e2,d2⟩ := octS_put (lo := 0) (hi := 4) d1 (by omega) (by omega)
     obtain ⟨e3,d3⟩ := numS_put (lo := 1) (hi := 1048576) d2 (by omega) (by omega) (by omega)
     obtain ⟨f0,d10⟩ := numS_put (lo := 0) (hi := 1048576) d3 (by omega) (by omega) (by omega)
     obtain ⟨f1,d11⟩ := numS_put (lo := 0) (hi := 1048576) d10 (by omega) (by omega) (by omega)
     obtain ⟨f2,d12⟩ := numS_put (lo := 0) (hi := 1048576) d11 (by omega) (by omega) (by omega)
     obtain ⟨f3,d13⟩ := numS_put (lo := 0) (hi := 1048576) d12 (by omega) (by omega) (by omega)
     obtain ⟨e5,d5⟩ := numS_put (lo := 1) (hi := 16777216) d13 (by omega) (by omega) (by omega)
     obtain ⟨e6,d6⟩ := octS_put (lo := 1) (hi := 8) d5 (by omega) (by omega)
     obtain ⟨e7,d7⟩ := wordS_put (may := keyE) d6 g3 hkey
     obtain ⟨e8,d8⟩ := octS_put (lo := 0) (hi := 1) d7 (by omega) (by omega)
     obtain ⟨e9,d9⟩ := octS_put (lo := 1) (hi := 12) d8 (by omega) (by omega)
     obtain ⟨e10,d10⟩ := wordS_put (may := valueE) d9 x3 hval
     rw [bk] at e1; rw [br] at e2; rw [bkey] at e6; rw [bl] at e8; rw [bv] at e9
     simp [fieldS,clockS,clkAt,skipS,Clk.setN,Clk.put,e1,e2,e3,f0,f1,f2,f3,e5,e6,e7,e8,e9,e10,hl]
     refine ⟨?_,?_⟩
     · simp [own]
     · rw [← hlen]; simp [evBytes,others,words,vputI_nat,hl]; omega
   | false =>
     obtain ⟨x1,x2⟩ := g7 hl
     have hv0 : v = ⟨#[]⟩ := size_nil x2
     generalize hbs : evBytes _ ++ rest = bs
     generalize hlen : (evBytes _).length = len
     have d0 : bs.drop 0 = byteOf k :: byteOf 4 :: (vput n ++ (vput c0 ++ ( vput c1 ++ ( vput c2 ++ ( vput c3 ++ ( (vput hh ++ (UInt8.ofNat key.size :: (key.data.toList ++ (rest)))))))))) := by
      rw [← hbs]; simp [evBytes,others,words,vputI_nat,hl]
     obtain ⟨e1,d1⟩ := octS_put (lo := 1) (hi := 5) d0 (by omega) (by omega)
     obtain ⟨e2,d2⟩ := octS_put (lo := 0) (hi := 4) d1 (by omega) (by omega)
     obtain ⟨e3,d3⟩ := numS_put (lo := 1) (hi := 1048576) d2 (by omega) (by omega) (by omega)
     obtain ⟨f0,d10⟩ := numS_put (lo := 0) (hi := 1048576) d3 (by omega) (by omega) (by omega)
     obtain ⟨f1,d11⟩ := numS_put (lo := 0) (hi := 1048576) d10 (by omega) (by omega) (by omega)
     obtain ⟨f2,d12⟩ := numS_put (lo := 0) (hi := 1048576) d11 (by omega) (by omega) (by omega)
     obtain ⟨f3,d13⟩ := numS_put (lo := 0) (hi := 1048576) d12 (by omega) (by omega) (by omega)
     obtain ⟨e5,d5⟩ := numS_put (lo := 1) (hi := 16777216) d13 (by omega) (by omega) (by omega)
     obtain ⟨e6,d6⟩ := octS_put (lo := 1) (hi := 8) d5 (by omega) (by omega)
     obtain ⟨e7,d7⟩ := wordS_put (may := keyE) d6 g3 hkey
     rw [bk] at e1; rw [br] at e2; rw [bkey] at e6
     simp [fieldS,clockS,clkAt,skipS,Clk.setN,Clk.put,e1,e2,e3,f0,f1,f2,f3,e5,e6,e7,hl]
     refine ⟨?_,?_⟩
     · simp [own,x1,hv0]
     · rw [← hlen]; simp [evBytes,others,words,vputI_nat,hl]; omega
end Go.Proofs.YtimhagicagdkfaaGreat
