/-
  Contracts of the walk: RcV, AmG, RcW, Dk.
-/
import Derived.Test.YtimhagicagdkfaaGreatNdX14
import Derived.Test.YtimhagicagdkfaaGreatNdX4
import Derived.ScopeJumps
import Derived.Test.YtimhagicagdkfaaGreatNdX11
/-
 What record.number,record.list and record.read tell of any bytes.
-/
namespace Go.Proofs.YtimhagicagdkfaaGreat
open Go.RowKit
theorem AEq.tup {xs ys : List AV} (h : Ch xs ys) : AEq (.tup xs) (.tup ys) := fun _ _ ⟨us,e,ha⟩ => ⟨us,e,h.all ha⟩
set_option maxHeartbeats 2000000 in
set_option maxRecDepth 100000 in
theorem rnum_ok {n : Nat} {F : Nat → List AV} (l : List UInt8) {m k : Nat} (h : numF l = some (m,k)) (hF : IsB F l) (hn : n = l.length) : ASpec Tryz.prog 165 [.sl 1 n true F] (.tup [.v (.int .i64 (m : Int)), .sl 1 (l.drop k).length true (bytesF (l.drop k)), .v (.bool true)]) [] := by
 have hle := numF_le h
 obtain ⟨⟨a,c,e⟩,hv⟩ : ∃ p,vtake l = p := ⟨_,rfl⟩
 have hs := vtake_spec l hF hn
 unfold numF at h
 rw [hv] at hs h
 dsimp only at hs h
 split at h
 · rename_i h0
   obtain ⟨h0,h1⟩ := h0
   simp only [Option.some.injEq,Prod.mk.injEq] at h
   obtain ⟨rfl,rfl⟩ := h
   subst h0
   refine K1.E 0x800fd Tryz.func165 ?_
   repeat' ((conv => whnf); first | refine K1.w ?_ | refine K1.u ?_ | refine K1.P1 (hs) rfl ?_ | refine ARet.hdI ?_ | refine K1.o (id := 4) [(0,none),(1,none),(2,none),(3,none),(4,none),(5,none),(6,none),(7,none)] [] ?_ | refine K1.z ?_ | refine K1.y (fun _ => ?_) (fun _ => ?_) | fail)
   conv => whnf
   exact AEqI.mk (AEq.tup (.same (.isB (IsB.drop hF _) (by simp [hn]) (.same .nil))))
 · cases h
set_option maxHeartbeats 2000000 in
set_option maxRecDepth 100000 in
theorem rnum_no {n : Nat} {F : Nat → List AV} (l : List UInt8) (h : numF l = none) (hF : IsB F l) (hn : n = l.length) : ASpec Tryz.prog 165 [.sl 1 n true F] (.tup [.v (.int .i64 0), .v (.slice none 0 0), .v (.bool false)]) [] := by
 obtain ⟨⟨a,c,e⟩,hv⟩ : ∃ p,vtake l = p := ⟨_,rfl⟩
 have hs := vtake_spec l hF hn
 unfold numF at h
 rw [hv] at hs h
 dsimp only at hs h
 split at h
 · cases h
 · rename_i h0
   refine K1.E 0x800fd Tryz.func165 ?_
   repeat' ((conv => whnf); first | refine K1.w ?_ | refine K1.u ?_ | refine K1.P1 (hs) rfl ?_ | refine ARet.hdI ?_ | refine K1.o (id := 4) [(0,none),(1,none),(2,none),(3,none),(4,none),(5,none),(6,none),(7,none)] [] ?_ | refine K1.z ?_ | refine K1.y (fun _ => ?_) (fun _ => ?_) | fail)
   all_goals (conv => whnf)
   all_goals first
     | exact AEqI.mk (AEq.refl _)
     | (exfalso; apply h0; constructor <;> omega)
set_option maxHeartbeats 4000000 in
set_option maxRecDepth 100000 in
theorem rlist_e (b : List UInt8) (hl : b.length ≤ 1000000000) : ASpec Tryz.prog 166 [.sl 1 b.length true (bytesF b)] (evsR (listF b)) [] := by
 cases hN : numF b with
 | none =>
   have hnum := rnum_no b hN (IsB.bytes b) rfl
   rw [show listF b = none by unfold listF; rw [hN]]
   refine K1.E 0x101e003fd Tryz.func166 ?_
   repeat' ((conv => whnf); first | refine K1.w ?_ | refine K1.u ?_ | refine K1.P1 (hnum) rfl ?_ | refine ARet.hdI ?_ | refine K1.o (id := 10) [(0,none),(1,none),(4,none),(5,none),(6,none),(2,some [1]),(3,some [1]),(7,none),(8,none)] [(2,[1]),(3,[1]),(7,[1]),(8,[1])] ?_ | refine K1.z ?_ | refine K1.y (fun _ => ?_) (fun _ => ?_) | fail)
   all_goals (conv => whnf)
   all_goals exact AEqI.mk (AEq.refl _)
 | some p =>
   obtain ⟨c,k⟩ := p
   have hnum := rnum_ok b hN (IsB.bytes b) rfl
   have hle := numF_le hN
   have hdl : (b.drop k).length ≤ b.length := by rw [List.length_drop]; omega
   by_cases hc : 4096 < c
   · rw [show listF b = none by unfold listF; rw [hN]; dsimp only; rw [if_pos hc]]
     refine K1.E 0x101e003fd Tryz.func166 ?_
     repeat' ((conv => whnf); first | refine K1.w ?_ | refine K1.u ?_ | refine K1.P1 (hnum) rfl ?_ | refine ARet.hdI ?_ | refine K1.o (id := 10) [(0,none),(1,none),(4,none),(5,none),(6,none),(2,some [1]),(3,some [1]),(7,none),(8,none)] [(2,[1]),(3,[1]),(7,[1]),(8,[1])] ?_ | refine K1.z ?_ | refine K1.y (fun _ => ?_) (fun _ => ?_) | fail)
     all_goals (conv => whnf)
     all_goals exact AEqI.mk (AEq.refl _)
   · have hlf : listF b = (evsAt (b.drop k) c).map (·.1) := by unfold listF; rw [hN]; dsimp only; rw [if_neg hc]
     generalize b.drop k = t at hnum hdl hlf
     refine K1.E 0x101e003fd Tryz.func166 ?_
     repeat' ((conv => whnf); first | refine K1.w ?_ | refine K1.u ?_ | refine K1.P1 (hnum) rfl ?_ | refine ARet.hdI ?_ | refine K1.o (id := 10) [(0,none),(1,none),(4,none),(5,none),(6,none),(2,some [1]),(3,some [1]),(7,none),(8,none)] [(2,[1]),(3,[1]),(7,[1]),(8,[1])] ?_ | refine K1.z ?_ | refine K1.y (fun _ => ?_) (fun _ => ?_) | fail)
     conv => whnf
     refine ALoop.mk { p : Nat × List Ev × List UInt8 // evsAt t p.1 = some p.2 ∧ p.1 ≤ c } (fun p => match p with
       | ⟨(0,_,r),_⟩ => ⟨[(0, .sl 1 r.length true (bytesF r)),(6, .v (.slice none 0 0)),(22, .v (.int .i64 (c : Int))),(23, .v (.int .i64 0))],[],[],0⟩
       | ⟨(i + 1,l,r),_⟩ => ⟨[(0, .sl 1 r.length true (bytesF r)),(6, .own 90),(22, .v (.int .i64 (c : Int))),(23, .v (.int .i64 ((i : Int) + 1)))],[(90, .row 42 12 l.length true (evF l))],[],91⟩)
       (fun p => c - p.1.1) ⟨(0,[],t),rfl,Nat.zero_le _⟩ _
       (LeR.mk' [] _ _ _ rfl ⟨AEq.refl _,AEq.refl _,AEq.refl _,AEq.int rfl,trivial⟩ trivial rfl) ?_
     rintro ⟨⟨_ | i,l,r⟩,hp,hj⟩
     · dsimp only at hp hj
       obtain ⟨hl0,hr0⟩ := evsAt_len hp
       obtain rfl : l = [] := List.eq_nil_of_length_eq_zero hl0
       have hz : c = 0 → listF b = some [] := fun h => by rw [hlf,h,hp]; rfl
       rcases takeE_ways r with ⟨e,m,ht, -,hm, -⟩ | ht | ht
       · dsimp only
         repeat' ((conv => whnf); first | refine K1.w ?_ | refine K1.u ?_ | refine K1.P1 (take_any r ht (IsB.bytes r) rfl (by omega)) rfl ?_ | refine ARet.hdI ?_ | refine K1.o (id := 10) [(0,none),(1,none),(4,none),(5,none),(6,none),(2,some [1]),(3,some [1]),(7,none),(8,none)] [(2,[1]),(3,[1]),(7,[1]),(8,[1])] ?_ | refine K1.z ?_ | refine K1.y (fun _ => ?_) (fun _ => ?_) | fail)
         all_goals (conv => whnf)
         · refine ⟨⟨(0 + 1,[] ++ [e],r.drop m),evsAt_step hp ht,by omega⟩,_,LeR.mk' [(2,90)] _ _ _ rfl ⟨AEq.isB (IsB.drop (IsB.bytes r) m) (by simp),AEq.refl _,AEq.refl _,AEq.int rfl,trivial⟩ ⟨⟨_,rfl,OEq.row rfl (fun i hi => ?_)⟩,trivial⟩ rfl,by show c - (0 + 1) < c - 0; omega⟩
           have hi : i < 1 := hi
           obtain rfl : i = 0 := by omega
           rfl
         · rw [hz (by omega)]
           exact AEqI.mk (AEq.nilT _)
       all_goals
        have hno : 0 < c → listF b = none := fun h => by rw [hlf,evsAt_none (evsAt_stop hp (by rw [ht]; decide)) c (by omega)]; rfl
        dsimp only
        repeat' ((conv => whnf); first | refine K1.w ?_ | refine K1.u ?_ | refine K1.P1 (take_any r ht (IsB.bytes r) rfl (by omega)) rfl ?_ | refine ARet.hdI ?_ | refine K1.o (id := 10) [(0,none),(1,none),(4,none),(5,none),(6,none),(2,some [1]),(3,some [1]),(7,none),(8,none)] [(2,[1]),(3,[1]),(7,[1]),(8,[1])] ?_ | refine K1.z ?_ | refine K1.y (fun _ => ?_) (fun _ => ?_) | fail)
        all_goals (conv => whnf)
        · rw [hno (by omega)]
          exact AEqI.mk (AEq.refl _)
        · rw [hz (by omega)]
          exact AEqI.mk (AEq.nilT _)
     · dsimp only at hp hj
       obtain ⟨hl0,hr0⟩ := evsAt_len hp
       have hz : c = i + 1 → listF b = some l := fun h => by rw [hlf,h,hp]; rfl
       rcases takeE_ways r with ⟨e,m,ht, -,hm, -⟩ | ht | ht
       · dsimp only
         repeat' ((conv => whnf); first | refine K1.w ?_ | refine K1.u ?_ | refine K1.P1 (take_any r ht (IsB.bytes r) rfl (by omega)) rfl ?_ | refine ARet.hdI ?_ | refine K1.o (id := 10) [(0,none),(1,none),(4,none),(5,none),(6,none),(2,some [1]),(3,some [1]),(7,none),(8,none)] [(2,[1]),(3,[1]),(7,[1]),(8,[1])] ?_ | refine K1.z ?_ | refine K1.y (fun _ => ?_) (fun _ => ?_) | fail)
         all_goals (conv => whnf)
         · refine ⟨⟨(i + 1 + 1,l ++ [e],r.drop m),evsAt_step hp ht,by omega⟩,_,LeR.mk' [(93,90)] _ _ _ rfl ⟨AEq.isB (IsB.drop (IsB.bytes r) m) (by simp),AEq.refl _,AEq.refl _,AEq.int rfl,trivial⟩ ⟨⟨_,rfl,OEq.row (by simp) (fun m hm => els_app1 (c := Ev.cs) rfl rfl m hm)⟩,trivial⟩ rfl,by show c - (i + 1 + 1) < c - (i + 1); omega⟩
         · rw [hz (by omega)]
           exact AEqI.mk (AEq.refl _)
       all_goals
        have hno : i + 1 < c → listF b = none := fun h => by rw [hlf,evsAt_none (evsAt_stop hp (by rw [ht]; decide)) c (by omega)]; rfl
        dsimp only
        repeat' ((conv => whnf); first | refine K1.w ?_ | refine K1.u ?_ | refine K1.P1 (take_any r ht (IsB.bytes r) rfl (by omega)) rfl ?_ | refine ARet.hdI ?_ | refine K1.o (id := 10) [(0,none),(1,none),(4,none),(5,none),(6,none),(2,some [1]),(3,some [1]),(7,none),(8,none)] [(2,[1]),(3,[1]),(7,[1]),(8,[1])] ?_ | refine K1.z ?_ | refine K1.y (fun _ => ?_) (fun _ => ?_) | fail)
        all_goals (conv => whnf)
        · rw [hno (by omega)]
          exact AEqI.mk (AEq.refl _)
        · rw [hz (by omega)]
          exact AEqI.mk (AEq.refl _)
theorem rlist_spec {n : Nat} {F : Nat → List AV} (b : List UInt8) (hF : IsB F b) (hn : n = b.length) (hl : b.length ≤ 1000000000) : ASpec Tryz.prog 166 [.sl 1 n true F] (evsR (listF b)) [] :=
 (rlist_e b hl).args (Ch.isB hF hn .nil)
theorem fields_e (k : Int) (h : k = 1 ∨ k = 2 ∨ k = 5) : ASpec Tryz.prog 127 [.v (.int .i64 k)] (.tup [.v (.bool false), .v (.bool true), .v (.bool false), .v (.bool true)]) [] := by
 have := rcFields_spec k
 rcases h with rfl | rfl | rfl <;> exact this
theorem fields_u (k : Int) (h : k = 3) : ASpec Tryz.prog 127 [.v (.int .i64 k)] (.tup [.v (.bool true), .v (.bool false), .v (.bool false), .v (.bool true)]) [] := by
 have := rcFields_spec k
 rcases h with rfl; exact this
theorem fields_ue (k : Int) (h : k = 4) : ASpec Tryz.prog 127 [.v (.int .i64 k)] (.tup [.v (.bool true), .v (.bool true), .v (.bool false), .v (.bool true)]) [] := by
 have := rcFields_spec k
 rcases h with rfl; exact this
theorem fields_c (k : Int) (h : k = 6) : ASpec Tryz.prog 127 [.v (.int .i64 k)] (.tup [.v (.bool false), .v (.bool false), .v (.bool true), .v (.bool true)]) [] := by
 have := rcFields_spec k
 rcases h with rfl; exact this
theorem readR_eq {b : List UInt8} (hu : 2 ≤ b.length) : readR b = rdR ((b.getD 0 default).toNat : Int) ((b.getD 1 default).toNat : Int) (b.drop 2) := by
 unfold readR
 rw [if_neg (by omega)]
set_option maxHeartbeats 8000000 in
set_option maxRecDepth 100000 in
theorem rread_no (b : List UInt8) (hl : b.length ≤ 1000000000) (h : b.length < 2) :
  ASpec Tryz.prog 134 [.sl 1 b.length true (bytesF b)] (.tup [(readR b).1.av, .v (.bool (readR b).2)]) [] := by
 rw [show readR b = (rc0,false) by unfold readR; rw [if_pos h]]
 dsimp only [Rc.av,Rc.cs]
 refine K1.E 0x200042020000027fd Tryz.func134 ?_
 repeat' ((conv => whnf); first | refine K1.w ?_ | refine K1.u ?_ | refine ALoop.unr 10 6 rfl ?_ | refine ARet.hdI ?_ | refine K1.o (id := 3) [(0,none),(1,none),(2,none),(3,none),(4,none),(5,none),(6,none),(7,none),(8,none),(9,some []),(10,some [7,6,3,2])] [(3,[2]),(7,[6]),(8,[7,6,3,2]),(9,[]),(10,[7,6,3,2])] ?_ | refine K1.z ?_ | refine K1.y (fun _ => ?_) (fun _ => ?_) | fail)
 all_goals (conv => whnf)
 all_goals exact AEqI.mk (AEq.nilEvT _)
set_option maxHeartbeats 8000000 in
set_option maxRecDepth 100000 in
theorem rread_none (b : List UInt8) (hl : b.length ≤ 1000000000) (hu : 2 ≤ b.length) (hk : ¬ (((b.getD 0 default).toNat : Int) = 1 ∨ ((b.getD 0 default).toNat : Int) = 2 ∨ ((b.getD 0 default).toNat : Int) = 5) ∧ ¬ ((b.getD 0 default).toNat : Int) = 3 ∧ ¬ ((b.getD 0 default).toNat : Int) = 4 ∧ ¬ ((b.getD 0 default).toNat : Int) = 6) :
  ASpec Tryz.prog 134 [.sl 1 b.length true (bytesF b)] (.tup [(readR b).1.av, .v (.bool (readR b).2)]) [] := by
 rw [readR_eq hu]
 unfold rdR
 rw [if_neg hk.1,if_neg hk.2.1,if_neg hk.2.2.1,if_neg hk.2.2.2]
 have hf := rcFields_no ((b.getD 0 default).toNat : Int) (by omega)
 dsimp only [Rc.av,Rc.cs]
 refine K1.E 0x200042020000027fd Tryz.func134 ?_
 repeat' ((conv => whnf); first | refine K1.w ?_ | refine K1.u ?_ | refine K1.P1 (hf) rfl ?_ | refine ALoop.unr 10 6 rfl ?_ | refine ARet.hdI ?_ | refine K1.o (id := 3) [(0,none),(1,none),(2,none),(3,none),(4,none),(5,none),(6,none),(7,none),(8,none),(9,some []),(10,some [7,6,3,2])] [(3,[2]),(7,[6]),(8,[7,6,3,2]),(9,[]),(10,[7,6,3,2])] ?_ | refine K1.z ?_ | refine K1.y (fun _ => ?_) (fun _ => ?_) | fail)
 all_goals (conv => whnf)
 all_goals exact AEqI.mk (AEq.nilEvT _)
set_option maxHeartbeats 8000000 in
set_option maxRecDepth 100000 in
theorem rread_e (b : List UInt8) (hl : b.length ≤ 1000000000) (hu : 2 ≤ b.length) (hk : ((b.getD 0 default).toNat : Int) = 1 ∨ ((b.getD 0 default).toNat : Int) = 2 ∨ ((b.getD 0 default).toNat : Int) = 5) :
  ASpec Tryz.prog 134 [.sl 1 b.length true (bytesF b)] (.tup [(readR b).1.av, .v (.bool (readR b).2)]) [] := by
 rw [readR_eq hu]
 unfold rdR
 rw [if_pos hk]
 unfold rdRl
 have he := rlist_spec (n := b.length - 2) (b.drop 2) (IsB.drop (IsB.bytes b) 2) (by simp) (by simp; omega)
 cases hE : listF (b.drop 2) with
 | none =>
   rw [hE] at he
   dsimp only [evsR] at he
   dsimp only [Rc.av,Rc.cs]
   refine K1.E 0x200042020000027fd Tryz.func134 ?_
   repeat' ((conv => whnf); first | refine K1.w ?_ | refine K1.u ?_ | refine K1.P1 (fields_e _ hk) rfl ?_ | refine K1.P1 (he) rfl ?_ | refine ALoop.unr 10 6 rfl ?_ | refine ARet.hdI ?_ | refine K1.o (id := 3) [(0,none),(1,none),(2,none),(3,none),(4,none),(5,none),(6,none),(7,none),(8,none),(9,some []),(10,some [7,6,3,2])] [(3,[2]),(7,[6]),(8,[7,6,3,2]),(9,[]),(10,[7,6,3,2])] ?_ | refine K1.z ?_ | refine K1.y (fun _ => ?_) (fun _ => ?_) | fail)
   all_goals (conv => whnf)
   all_goals exact AEqI.mk (AEq.nilEvT _)
 | some l =>
   rw [hE] at he
   dsimp only [evsR] at he
   dsimp only [Rc.av,Rc.cs]
   refine K1.E 0x200042020000027fd Tryz.func134 ?_
   repeat' ((conv => whnf); first | refine K1.w ?_ | refine K1.u ?_ | refine K1.P1 (fields_e _ hk) rfl ?_ | refine K1.P1 (he) rfl ?_ | refine ALoop.unr 10 6 rfl ?_ | refine ARet.hdI ?_ | refine K1.o (id := 3) [(0,none),(1,none),(2,none),(3,none),(4,none),(5,none),(6,none),(7,none),(8,none),(9,some []),(10,some [7,6,3,2])] [(3,[2]),(7,[6]),(8,[7,6,3,2]),(9,[]),(10,[7,6,3,2])] ?_ | refine K1.z ?_ | refine K1.y (fun _ => ?_) (fun _ => ?_) | fail)
   all_goals (conv => whnf)
   all_goals exact AEqI.mk (AEq.refl _)
set_option maxHeartbeats 8000000 in
set_option maxRecDepth 100000 in
theorem rread_u (b : List UInt8) (hl : b.length ≤ 1000000000) (hu : 2 ≤ b.length) (hk : ((b.getD 0 default).toNat : Int) = 3) :
  ASpec Tryz.prog 134 [.sl 1 b.length true (bytesF b)] (.tup [(readR b).1.av, .v (.bool (readR b).2)]) [] := by
 rw [readR_eq hu]
 unfold rdR
 rw [if_neg (by omega),if_pos hk]
 unfold rdRn
 cases hE : numF (b.drop 2) with
 | none =>
   have he := rnum_no (n := b.length - 2) (b.drop 2) hE (IsB.drop (IsB.bytes b) 2) (by simp)
   dsimp only [Rc.av,Rc.cs]
   refine K1.E 0x200042020000027fd Tryz.func134 ?_
   repeat' ((conv => whnf); first | refine K1.w ?_ | refine K1.u ?_ | refine K1.P1 (fields_u _ hk) rfl ?_ | refine K1.P1 (he) rfl ?_ | refine ALoop.unr 10 6 rfl ?_ | refine ARet.hdI ?_ | refine K1.o (id := 3) [(0,none),(1,none),(2,none),(3,none),(4,none),(5,none),(6,none),(7,none),(8,none),(9,some []),(10,some [7,6,3,2])] [(3,[2]),(7,[6]),(8,[7,6,3,2]),(9,[]),(10,[7,6,3,2])] ?_ | refine K1.z ?_ | refine K1.y (fun _ => ?_) (fun _ => ?_) | fail)
   all_goals (conv => whnf)
   all_goals exact AEqI.mk (AEq.nilEvT _)
 | some p =>
   obtain ⟨m,k⟩ := p
   have he := rnum_ok (n := b.length - 2) (b.drop 2) hE (IsB.drop (IsB.bytes b) 2) (by simp)
   dsimp only [Rc.av,Rc.cs]
   refine K1.E 0x200042020000027fd Tryz.func134 ?_
   repeat' ((conv => whnf); first | refine K1.w ?_ | refine K1.u ?_ | refine K1.P1 (fields_u _ hk) rfl ?_ | refine K1.P1 (he) rfl ?_ | refine ALoop.unr 10 6 rfl ?_ | refine ARet.hdI ?_ | refine K1.o (id := 3) [(0,none),(1,none),(2,none),(3,none),(4,none),(5,none),(6,none),(7,none),(8,none),(9,some []),(10,some [7,6,3,2])] [(3,[2]),(7,[6]),(8,[7,6,3,2]),(9,[]),(10,[7,6,3,2])] ?_ | refine K1.z ?_ | refine K1.y (fun _ => ?_) (fun _ => ?_) | fail)
   all_goals (conv => whnf)
   all_goals exact AEqI.mk (AEq.nilEvT _)
set_option maxHeartbeats 8000000 in
set_option maxRecDepth 100000 in
theorem rread_ue (b : List UInt8) (hl : b.length ≤ 1000000000) (hu : 2 ≤ b.length) (hk : ((b.getD 0 default).toNat : Int) = 4) :
  ASpec Tryz.prog 134 [.sl 1 b.length true (bytesF b)] (.tup [(readR b).1.av, .v (.bool (readR b).2)]) [] := by
 rw [readR_eq hu]
 unfold rdR
 rw [if_neg (by omega),if_neg (by omega),if_pos hk]
 cases hE : numF (b.drop 2) with
 | none =>
   have he := rnum_no (n := b.length - 2) (b.drop 2) hE (IsB.drop (IsB.bytes b) 2) (by simp)
   dsimp only [Rc.av,Rc.cs]
   refine K1.E 0x200042020000027fd Tryz.func134 ?_
   repeat' ((conv => whnf); first | refine K1.w ?_ | refine K1.u ?_ | refine K1.P1 (fields_ue _ hk) rfl ?_ | refine K1.P1 (he) rfl ?_ | refine ALoop.unr 10 6 rfl ?_ | refine ARet.hdI ?_ | refine K1.o (id := 3) [(0,none),(1,none),(2,none),(3,none),(4,none),(5,none),(6,none),(7,none),(8,none),(9,some []),(10,some [7,6,3,2])] [(3,[2]),(7,[6]),(8,[7,6,3,2]),(9,[]),(10,[7,6,3,2])] ?_ | refine K1.z ?_ | refine K1.y (fun _ => ?_) (fun _ => ?_) | fail)
   all_goals (conv => whnf)
   all_goals exact AEqI.mk (AEq.nilEvT _)
 | some p =>
   obtain ⟨m,k⟩ := p
   have he := rnum_ok (n := b.length - 2) (b.drop 2) hE (IsB.drop (IsB.bytes b) 2) (by simp)
   dsimp only
   have hdl : ((b.drop 2).drop k).length ≤ b.length := by rw [List.length_drop,List.length_drop]; omega
   generalize (b.drop 2).drop k = t at he hdl
   have hli := rlist_spec t (IsB.bytes t) rfl (by omega)
   unfold rdRl
   cases hL : listF t with
   | none =>
     rw [hL] at hli
     dsimp only [evsR] at hli
     dsimp only [Rc.av,Rc.cs]
     refine K1.E 0x200042020000027fd Tryz.func134 ?_
     repeat' ((conv => whnf); first | refine K1.w ?_ | refine K1.u ?_ | refine K1.P1 (fields_ue _ hk) rfl ?_ | refine K1.P1 (he) rfl ?_ | refine K1.P1 (hli) rfl ?_ | refine ALoop.unr 10 6 rfl ?_ | refine ARet.hdI ?_ | refine K1.o (id := 3) [(0,none),(1,none),(2,none),(3,none),(4,none),(5,none),(6,none),(7,none),(8,none),(9,some []),(10,some [7,6,3,2])] [(3,[2]),(7,[6]),(8,[7,6,3,2]),(9,[]),(10,[7,6,3,2])] ?_ | refine K1.z ?_ | refine K1.y (fun _ => ?_) (fun _ => ?_) | fail)
     all_goals (conv => whnf)
     all_goals exact AEqI.mk (AEq.nilEvT _)
   | some l =>
     rw [hL] at hli
     dsimp only [evsR] at hli
     dsimp only [Rc.av,Rc.cs]
     refine K1.E 0x200042020000027fd Tryz.func134 ?_
     repeat' ((conv => whnf); first | refine K1.w ?_ | refine K1.u ?_ | refine K1.P1 (fields_ue _ hk) rfl ?_ | refine K1.P1 (he) rfl ?_ | refine K1.P1 (hli) rfl ?_ | refine ALoop.unr 10 6 rfl ?_ | refine ARet.hdI ?_ | refine K1.o (id := 3) [(0,none),(1,none),(2,none),(3,none),(4,none),(5,none),(6,none),(7,none),(8,none),(9,some []),(10,some [7,6,3,2])] [(3,[2]),(7,[6]),(8,[7,6,3,2]),(9,[]),(10,[7,6,3,2])] ?_ | refine K1.z ?_ | refine K1.y (fun _ => ?_) (fun _ => ?_) | fail)
     all_goals (conv => whnf)
     all_goals exact AEqI.mk (AEq.refl _)
set_option maxHeartbeats 8000000 in
set_option maxRecDepth 100000 in
theorem rread_c (b : List UInt8) (hl : b.length ≤ 1000000000) (hu : 2 ≤ b.length) (hk : ((b.getD 0 default).toNat : Int) = 6) :
  ASpec Tryz.prog 134 [.sl 1 b.length true (bytesF b)] (.tup [(readR b).1.av, .v (.bool (readR b).2)]) [] := by
 rw [readR_eq hu]
 unfold rdR
 rw [if_neg (by omega),if_neg (by omega),if_neg (by omega),if_pos hk]
 cases g0 : numF (b.drop 2) with
 | none =>
   have e0 := rnum_no (n := b.length - 2) (b.drop 2) g0 (IsB.drop (IsB.bytes b) 2) (by simp)
   have hr : rdC (b.drop 2) = (⟨0,0,0,0,0⟩,false) := by unfold rdC; simp only [g0]
   rw [hr]
   dsimp only [Rc.av,Rc.cs]
   refine K1.E 0x200042020000027fd Tryz.func134 ?_
   repeat' ((conv => whnf); first | refine K1.w ?_ | refine K1.u ?_ | refine K1.P1 (fields_c _ hk) rfl ?_ | refine K1.P1 (e0) rfl ?_ | refine ALoop.unr 10 6 rfl ?_ | refine ARet.hdI ?_ | refine K1.o (id := 3) [(0,none),(1,none),(2,none),(3,none),(4,none),(5,none),(6,none),(7,none),(8,none),(9,some []),(10,some [7,6,3,2])] [(3,[2]),(7,[6]),(8,[7,6,3,2]),(9,[]),(10,[7,6,3,2])] ?_ | refine K1.z ?_ | refine K1.y (fun _ => ?_) (fun _ => ?_) | fail)
   all_goals (conv => whnf)
   all_goals exact AEqI.mk (AEq.nilEvT _)
 | some p0 =>
   obtain ⟨m0,k0⟩ := p0
   have e0 := rnum_ok (n := b.length - 2) (b.drop 2) g0 (IsB.drop (IsB.bytes b) 2) (by simp)
   cases g1 : numF ((b.drop 2).drop k0) with
   | none =>
     have e1 := rnum_no ((b.drop 2).drop k0) g1 (IsB.bytes _) rfl
     have hr : rdC (b.drop 2) = (⟨m0,0,0,0,0⟩,false) := by unfold rdC; simp only [g0,g1]
     rw [hr]
     dsimp only [Rc.av,Rc.cs]
     refine K1.E 0x200042020000027fd Tryz.func134 ?_
     repeat' ((conv => whnf); first | refine K1.w ?_ | refine K1.u ?_ | refine K1.P1 (fields_c _ hk) rfl ?_ | refine K1.P1 (e0) rfl ?_ | refine K1.P1 (e1) rfl ?_ | refine ALoop.unr 10 6 rfl ?_ | refine ARet.hdI ?_ | refine K1.o (id := 3) [(0,none),(1,none),(2,none),(3,none),(4,none),(5,none),(6,none),(7,none),(8,none),(9,some []),(10,some [7,6,3,2])] [(3,[2]),(7,[6]),(8,[7,6,3,2]),(9,[]),(10,[7,6,3,2])] ?_ | refine K1.z ?_ | refine K1.y (fun _ => ?_) (fun _ => ?_) | fail)
     all_goals (conv => whnf)
     all_goals exact AEqI.mk (AEq.nilEvT _)
   | some p1 =>
     obtain ⟨m1,k1⟩ := p1
     have e1 := rnum_ok ((b.drop 2).drop k0) g1 (IsB.bytes _) rfl
     cases g2 : numF (((b.drop 2).drop k0).drop k1) with
     | none =>
       have e2 := rnum_no (((b.drop 2).drop k0).drop k1) g2 (IsB.bytes _) rfl
       have hr : rdC (b.drop 2) = (⟨m0,m1,0,0,0⟩,false) := by unfold rdC; simp only [g0,g1,g2]
       rw [hr]
       dsimp only [Rc.av,Rc.cs]
       refine K1.E 0x200042020000027fd Tryz.func134 ?_
       repeat' ((conv => whnf); first | refine K1.w ?_ | refine K1.u ?_ | refine K1.P1 (fields_c _ hk) rfl ?_ | refine K1.P1 (e0) rfl ?_ | refine K1.P1 (e1) rfl ?_ | refine K1.P1 (e2) rfl ?_ | refine ALoop.unr 10 6 rfl ?_ | refine ARet.hdI ?_ | refine K1.o (id := 3) [(0,none),(1,none),(2,none),(3,none),(4,none),(5,none),(6,none),(7,none),(8,none),(9,some []),(10,some [7,6,3,2])] [(3,[2]),(7,[6]),(8,[7,6,3,2]),(9,[]),(10,[7,6,3,2])] ?_ | refine K1.z ?_ | refine K1.y (fun _ => ?_) (fun _ => ?_) | fail)
       all_goals (conv => whnf)
       all_goals exact AEqI.mk (AEq.nilEvT _)
     | some p2 =>
       obtain ⟨m2,k2⟩ := p2
       have e2 := rnum_ok (((b.drop 2).drop k0).drop k1) g2 (IsB.bytes _) rfl
       cases g3 : numF ((((b.drop 2).drop k0).drop k1).drop k2) with
       | none =>
         have e3 := rnum_no ((((b.drop 2).drop k0).drop k1).drop k2) g3 (IsB.bytes _) rfl
         have hr : rdC (b.drop 2) = (⟨m0,m1,m2,0,0⟩,false) := by unfold rdC; simp only [g0,g1,g2,g3]
         rw [hr]
         dsimp only [Rc.av,Rc.cs]
         refine K1.E 0x200042020000027fd Tryz.func134 ?_
         repeat' ((conv => whnf); first | refine K1.w ?_ | refine K1.u ?_ | refine K1.P1 (fields_c _ hk) rfl ?_ | refine K1.P1 (e0) rfl ?_ | refine K1.P1 (e1) rfl ?_ | refine K1.P1 (e2) rfl ?_ | refine K1.P1 (e3) rfl ?_ | refine ALoop.unr 10 6 rfl ?_ | refine ARet.hdI ?_ | refine K1.o (id := 3) [(0,none),(1,none),(2,none),(3,none),(4,none),(5,none),(6,none),(7,none),(8,none),(9,some []),(10,some [7,6,3,2])] [(3,[2]),(7,[6]),(8,[7,6,3,2]),(9,[]),(10,[7,6,3,2])] ?_ | refine K1.z ?_ | refine K1.y (fun _ => ?_) (fun _ => ?_) | fail)
         all_goals (conv => whnf)
         all_goals exact AEqI.mk (AEq.nilEvT _)
       | some p3 =>
         obtain ⟨m3,k3⟩ := p3
         have e3 := rnum_ok ((((b.drop 2).drop k0).drop k1).drop k2) g3 (IsB.bytes _) rfl
         cases g4 : numF (((((b.drop 2).drop k0).drop k1).drop k2).drop k3) with
         | none =>
           have e4 := rnum_no (((((b.drop 2).drop k0).drop k1).drop k2).drop k3) g4 (IsB.bytes _) rfl
           have hr : rdC (b.drop 2) = (⟨m0,m1,m2,m3,0⟩,false) := by unfold rdC; simp only [g0,g1,g2,g3,g4]
           rw [hr]
           dsimp only [Rc.av,Rc.cs]
           refine K1.E 0x200042020000027fd Tryz.func134 ?_
           repeat' ((conv => whnf); first | refine K1.w ?_ | refine K1.u ?_ | refine K1.P1 (fields_c _ hk) rfl ?_ | refine K1.P1 (e0) rfl ?_ | refine K1.P1 (e1) rfl ?_ | refine K1.P1 (e2) rfl ?_ | refine K1.P1 (e3) rfl ?_ | refine K1.P1 (e4) rfl ?_ | refine ALoop.unr 10 6 rfl ?_ | refine ARet.hdI ?_ | refine K1.o (id := 3) [(0,none),(1,none),(2,none),(3,none),(4,none),(5,none),(6,none),(7,none),(8,none),(9,some []),(10,some [7,6,3,2])] [(3,[2]),(7,[6]),(8,[7,6,3,2]),(9,[]),(10,[7,6,3,2])] ?_ | refine K1.z ?_ | refine K1.y (fun _ => ?_) (fun _ => ?_) | fail)
           all_goals (conv => whnf)
           all_goals exact AEqI.mk (AEq.nilEvT _)
         | some p4 =>
           obtain ⟨m4,k4⟩ := p4
           have e4 := rnum_ok (((((b.drop 2).drop k0).drop k1).drop k2).drop k3) g4 (IsB.bytes _) rfl
           have hr : rdC (b.drop 2) = (⟨m0,m1,m2,m3,m4⟩,true) := by unfold rdC; simp only [g0,g1,g2,g3,g4]
           rw [hr]
           dsimp only [Rc.av,Rc.cs]
           refine K1.E 0x200042020000027fd Tryz.func134 ?_
           repeat' ((conv => whnf); first | refine K1.w ?_ | refine K1.u ?_ | refine K1.P1 (fields_c _ hk) rfl ?_ | refine K1.P1 (e0) rfl ?_ | refine K1.P1 (e1) rfl ?_ | refine K1.P1 (e2) rfl ?_ | refine K1.P1 (e3) rfl ?_ | refine K1.P1 (e4) rfl ?_ | refine ALoop.unr 10 6 rfl ?_ | refine ARet.hdI ?_ | refine K1.o (id := 3) [(0,none),(1,none),(2,none),(3,none),(4,none),(5,none),(6,none),(7,none),(8,none),(9,some []),(10,some [7,6,3,2])] [(3,[2]),(7,[6]),(8,[7,6,3,2]),(9,[]),(10,[7,6,3,2])] ?_ | refine K1.z ?_ | refine K1.y (fun _ => ?_) (fun _ => ?_) | fail)
           all_goals (conv => whnf)
           all_goals exact AEqI.mk (AEq.nilEvT _)
theorem rread_spec {n : Nat} {F : Nat → List AV} (b : List UInt8) (hF : IsB F b) (hn : n = b.length) (hl : b.length ≤ 1000000000) : ASpec Tryz.prog 134 [.sl 1 n true F] (.tup [(readR b).1.av, .v (.bool (readR b).2)]) [] := by
 refine ASpec.args ?_ (Ch.isB hF hn .nil)
 by_cases h : b.length < 2
 · exact rread_no b hl h
 · have hu : 2 ≤ b.length := by omega
   by_cases h1 : ((b.getD 0 default).toNat : Int) = 1 ∨ ((b.getD 0 default).toNat : Int) = 2 ∨ ((b.getD 0 default).toNat : Int) = 5
   · exact rread_e b hl hu h1
   · by_cases h2 : ((b.getD 0 default).toNat : Int) = 3
     · exact rread_u b hl hu h2
     · by_cases h3 : ((b.getD 0 default).toNat : Int) = 4
       · exact rread_ue b hl hu h3
       · by_cases h4 : ((b.getD 0 default).toNat : Int) = 6
         · exact rread_c b hl hu h4
         · exact rread_none b hl hu ⟨h1,h2,h3,h4⟩
end Go.Proofs.YtimhagicagdkfaaGreat

/-
 The abstract machine: a function whose body jumps back to one label.
-/
namespace Go.Proofs.YtimhagicagdkfaaGreat
open Go.RowKit
def kQ (K : AS → Prop) : AExit → AS → Prop := fun e st => match e with | .normal => K st | _ => False
structure AGotoB (P : Program) (L : Lay) (W : Walk) (N lv : Nat) (t : Operand) (x0 x1 y0 y1 z : Code) (Q : AExit → AS → Prop) (K : AS → Prop) (st : AS) : Prop where
 h : awpS P L W N lv x0 (kQ fun st => awpS P L W N lv x1 (kQ fun st => match st.ev t with
   | .v (.bool b) => (match b with
     | true => awpS P L W N lv y0 (kQ fun st => awpS P L W N lv y1 (kQ K) st) st
     | false => awpS P L W N lv z Q st)
   | _ => False) st) st
inductive AGoto (P : Program) (L : Lay) (W : Walk) (N lv : Nat) (t : Operand) (x0 x1 y0 y1 z : Code) (Q : AExit → AS → Prop) (st : AS) : Prop where
  | mk (X : Type) (S : X → AS) (m : X → Nat) (i0 : X) (σ : List (Nat × Nat)) (h0 : LeR σ st (S i0))
    (hb : ∀ i,awpS P L W N lv x0 (kQ fun st => awpS P L W N lv x1 (kQ fun st => match st.ev t with
    | .v (.bool b) => (match b with
      | true => awpS P L W N lv y0 (kQ fun st => awpS P L W N lv y1 (kQ fun st => ∃ j σ,LeR σ st (S j) ∧ m j < m i) st) st
      | false => awpS P L W N lv z Q st)
    | _ => False) st) (S i)) : AGoto P L W N lv t x0 x1 y0 y1 z Q st
section
variable {P : Program} {L : Lay} {g : Base} {N : Nat} {bs : List (Array Value)} {ρ : Nat → Value} {a : Act} {w : World} {st : AS}
theorem aspec_wp (hL : LayOk P L) {f : FuncId} {fn : Func} {c : Code} {avs : List AV} {r : AV} {hh : List (Nat × AO)} (hf : P.funcs[f]? = some fn) (hn : (fn.name == "runtime.NumGoroutine") = false) (hb : fn.body = some c) (hsz : Nat.ble avs.length fn.ntmps = true)
  (h : ∀ (g : Base) (E : Exit → Act → World → Prop) {ρ : Nat → Value} {a : Act} {w : World},qOf g fn.ntmps [] (retQ L fn r hh) E → Rel g fn.ntmps [] ρ a w (start avs) → c.wp P E a w) : ASpec P f avs r hh := by
 refine ⟨⟨fn,c,hf,hn,hb⟩,fun w keep args hkeep hargs => ?_⟩
 have hsz := Nat.le_of_ble_eq_true hsz
 have hlen : args.length = avs.length := hargs.1.symm
 refine calls_of_wp hf hb ?_
 let g : Base := base0 w keep
 have hargs2 : All2 (C2 (cxOf g w (fun _ => undef) [])) avs args := hargs.imp fun _ _ h => C2.of1 (C1.same (X := ⟨w,keep,fun _ => undef⟩) (Y := cxOf g w (fun _ => undef) []) (fun b hb => ⟨hkeep b hb,fun _ => .inl hb,by simp [blocksOf]⟩) (fun _ _ => rfl) rfl h)
 have R0 : Rel g fn.ntmps [] (fun _ => undef) { tmps := args.toArray ++ Array.replicate (fn.ntmps - args.toArray.size) undef,defers := [] } w (start avs) :=
  ⟨by simp; omega,rfl,BelowM.refl _ _ _,frame_start hargs2 hsz,(fun p hp => by cases hp),by simp [start,blocksOf],(fun b hb => by simp [start,blocksOf] at hb),trivial⟩
 have fin : ∀ (e : Exit),(e = .normal ∨ e = .ret) → ∀ ρ a w' st,Rel g fn.ntmps [] ρ a w' st → ares L st fn.results.toList (fun x => ARet st x r hh) →
   bodyPost P fn (fun e w' => ∃ u ρ,e = .returned u ∧ Below w.heap.size w w' ∧ C2 (cxOf (base0 w keep) w' ρ hh) r u ∧ (∀ p ∈ hh,ObjOk (cxOf (base0 w keep) w' ρ hh) p.1 p.2) ∧ (blocksOf ρ hh).Nodup ∧ ∀ b ∈ blocksOf ρ hh,w.heap.size ≤ b) e a w' := by
  intro e he ρ a w' st R hq
  obtain ⟨x,u,hret,hc,hrun⟩ := ret_run hL R hq
  have post : a.defers = [] ∧ ∃ v,(results fn a.tmps).run P w' = .ok v w' ∧ ∃ u ρ,Ending.returned v = .returned u ∧ Below w.heap.size w w' ∧ C2 (cxOf (base0 w keep) w' ρ hh) r u ∧ (∀ p ∈ hh,ObjOk (cxOf (base0 w keep) w' ρ hh) p.1 p.2) ∧ (blocksOf ρ hh).Nodup ∧ ∀ b ∈ blocksOf ρ hh,w.heap.size ≤ b := by
   have hbel : Below w.heap.size w w' := R.below.less fun _ h => h
   have hlt' : ∀ {b : Nat},b ∈ blocksOf ρ st.heap → g.w.heap.size ≤ b := fun {b} h => (R.own b h).elim id False.elim
   refine ⟨R.defers,u,hrun,?_⟩
   cases hret with
   | plain _ hr =>
     let k : Nat → Prop := keepOf g w' (fun _ => undef) []
     have hk : ∀ b,keepOf g w' ρ st.heap b → k b := fun b h => ⟨h.1,h.2.1,by simp [blocksOf]⟩
     have rd : ∀ y,Reads st ρ w' k y := fun y id e s n sc f _ hf => row_reads R hf hk fun b hb => by
      have hin := mem_blocks.2 ⟨_,findObj_mem hf,hb⟩
      have := R.lt_block hin
      exact ⟨this.1,fun hlt => absurd hlt (by have := hlt' hin; omega),by simp [blocksOf]⟩
     refine ⟨u,fun _ => undef,rfl,hbel,hr _ _ ?_,(fun p hp => by cases hp),by simp [blocksOf],(fun b hb => by simp [blocksOf] at hb)⟩
     cases x with
     | tup vs =>
       obtain ⟨us,rfl,ha⟩ := C2.inv_tup hc
       exact ⟨us,rfl,ha.mapl fun y v hy => see1_ok hk rd (C2.of1 hy)⟩
     | _ => exact C2.of1 (see1_ok hk rd hc)
   | nil d e s f hx hs =>
     subst hx
     obtain rfl := C2.inv_v hc
     have hb : blocksOf (fun _ : Nat => Value.slice none 0 0) [(d,AO.row e s 0 true f)] = [] := rfl
     refine ⟨.slice none 0 0,fun _ => .slice none 0 0,rfl,hbel,rfl,fun p hp => ?_,by rw [hb]; exact List.nodup_nil,fun b hb' => by rw [hb] at hb'; cases hb'⟩
     obtain rfl := List.mem_singleton.1 hp
     exact ⟨[],World.ownsRow_nil w' _ e s,hs,fun i hi => absurd hi (by omega),(fun _ x hx => by cases hx),All2.nil⟩
   | own id d _ e s n sc f o' hfo ho hr =>
     have hin := findObj_mem hfo
     let ρ' : Nat → Value := fun i => if i = d then ρ id else undef
     have hρ' : ρ' d = ρ id := by simp [ρ']
     have hbl : ∀ o'' : AO,blocksOf ρ' [(d,o'')] = blks (ρ id) := by intro o''; rw [blocks_cons]; simp [ρ',blocksOf]
     let k : Nat → Prop := keepOf g w' ρ' [(d,o')]
     have hk : ∀ b,keepOf g w' ρ st.heap b → k b := fun b h => ⟨h.1,h.2.1,fun hb => h.2.2 (by
      rw [hbl] at hb
      exact mem_blocks.2 ⟨_,hin,hb⟩)⟩
     have rd : ∀ i,i ≠ id → Reads st ρ w' k (.own i) := fun i hi j e s n sc f hij hf => row_reads R hf hk fun b hb => by
      cases hij
      have hin0 := mem_blocks.2 ⟨_,findObj_mem hf,hb⟩
      have := R.lt_block hin0
      refine ⟨this.1,fun hlt => absurd hlt (by have := hlt' hin0; omega),fun hin' => ?_⟩
      rw [hbl] at hin'
      exact hi (blocks_apart R.apart _ (findObj_mem hf) _ hin hb hin')
     refine ⟨u,ρ',rfl,hbel,hr _ _ ?_,?_,?_,?_⟩
     · cases x with
       | tup vs =>
         obtain ⟨us,rfl,ha⟩ := C2.inv_tup hc
         exact ⟨us,rfl,ha.mapl fun y v hy => ret1_ok hk hρ' rd (C2.of1 hy)⟩
       | agg cs => exact C2.of1 (ret1_ok hk hρ' rd hc)
       | v y => exact hc
       | own i => exact C2.of1 (ret1_ok hk hρ' rd (x := .own i) hc)
       | sl s n sc f => exact C2.of1 (ret1_ok hk hρ' rd (x := .sl s n sc f) hc)
       | _ => trivial
     · intro p hp
       simp only [List.mem_singleton] at hp
       subst hp
       refine ho _ _ ?_
       obtain ⟨us,hown,hs,hfl,hsc,ha⟩ := R.objs _ hin
       exact ⟨us,by simpa [cxOf,hρ'] using hown,hs,hfl,hsc,ha.imp fun _ _ => PC.mono hk (fun _ _ => rfl)⟩
     · rw [hbl]
       exact nodup_of_mem R.apart hin
     · intro b hb
       rw [hbl] at hb
       exact hlt' (mem_blocks.2 ⟨_,hin,hb⟩)
  rcases he with rfl | rfl
  · exact post
  · exact post
 exact h g _ ⟨fun ρ a w' st R h => fin _ (.inl rfl) ρ a w' st R h,fun i ρ a w' st R h => h.elim,fun ρ a w' st R h => fin _ (.inr rfl) ρ a w' st R h⟩ R0
theorem kQ_seq (hL : LayOk P L) {W : Walk} (hW : WOk P W) {lv : Nat} {p next : Code} {K : AS → Prop} {E : Exit → Act → World → Prop} (R : Rel g N bs ρ a w st) (h : awpS P L W N lv p (kQ K) st)
  (hk : ∀ ρ a w st,Rel g N bs ρ a w st → K st → next.wp P E a w) : (Code.seq p next).wp P E a w :=
 wp_seq (awpS_snd hL hW lv p (Q := kQ K) (E := Exit.then (next.wp P E) E) ⟨fun ρ a w st R h => hk ρ a w st R h,fun _ _ _ _ _ _ h => h.elim,fun _ _ _ _ _ h => h.elim⟩ R h)
def JN (P : Program) (L : Lay) (W : Walk) (g : Base) (N lv : Nat) (bs : List (Array Value)) (t : Operand) (x0 x1 y0 y1 z : Code) (Q : AExit → AS → Prop) (a : Act) (w : World) (n : Nat) : Prop :=
 ∃ (X : Type) (S : X → AS) (m : X → Nat) (i : X) (ρ : Nat → Value),(∀ i,awpS P L W N lv x0 (kQ fun st => awpS P L W N lv x1 (kQ fun st => match st.ev t with
   | .v (.bool b) => (match b with
     | true => awpS P L W N lv y0 (kQ fun st => awpS P L W N lv y1 (kQ fun st => ∃ j σ,LeR σ st (S j) ∧ m j < m i) st) st
     | false => awpS P L W N lv z Q st)
   | _ => False) st) (S i)) ∧ Rel g N bs ρ a w (S i) ∧ m i = n
theorem aspec_goto (hL : LayOk P L) (lv : Nat) {f : FuncId} {fn : Func} {p0 p1 p2 x0 x1 y0 y1 z : Code} {t : Operand} {l : Nat} {avs : List AV} {r : AV} {hh : List (Nat × AO)} (hf : P.funcs[f]? = some fn) (hn : (fn.name == "runtime.NumGoroutine") = false)
  (hb : fn.body = some (.seq p0 (.scope (.seq p1 (.seq p2 (.seq (.label l) (.seq (.seq x0 (.seq x1 (.cond t (.seq y0 (.seq y1 (.goto l))) .skip))) z))))))) (hsz : Nat.ble avs.length fn.ntmps = true)
  (hl : findLabel (.seq p1 (.seq p2 (.seq (.label l) (.seq (.seq x0 (.seq x1 (.cond t (.seq y0 (.seq y1 (.goto l))) .skip))) z)))) l = some (.seq .skip (.seq (.seq x0 (.seq x1 (.cond t (.seq y0 (.seq y1 (.goto l))) .skip))) z)))
  (h : awpS P L (awp P L 8) fn.ntmps lv p0 (kQ fun st => awpS P L (awp P L 8) fn.ntmps lv p1 (kQ fun st => awpS P L (awp P L 8) fn.ntmps lv p2 (kQ fun st => AGoto P L (awp P L 8) fn.ntmps lv t x0 x1 y0 y1 z (retQ L fn r hh) st) st) st) (start avs)) : ASpec P f avs r hh := by
 refine aspec_wp hL hf hn hb hsz fun g E ρ a w hq R => ?_
 have hW := awp_snd hL 8
 let J : Act → World → Nat → Prop := JN P L (awp P L 8) g fn.ntmps lv [] t x0 x1 y0 y1 z (retQ L fn r hh)
 refine kQ_seq hL hW R h fun ρ a w st R h => ?_
 refine wp_scope_jumps l (fun a w => ∃ n,J a w n) (fun a w => least (J a w)) hl ?_ ?_
 all_goals
  have body : ∀ (J' : Act → World → Prop) (X : Type) (S : X → AS) (m : X → Nat) (i : X) (ρ : Nat → Value) (a : Act) (w : World),(∀ a w n,n < m i → J a w n → J' a w) → (∀ i,awpS P L (awp P L 8) fn.ntmps lv x0 (kQ fun st => awpS P L (awp P L 8) fn.ntmps lv x1 (kQ fun st => match st.ev t with
      | .v (.bool b) => (match b with
        | true => awpS P L (awp P L 8) fn.ntmps lv y0 (kQ fun st => awpS P L (awp P L 8) fn.ntmps lv y1 (kQ fun st => ∃ j σ,LeR σ st (S j) ∧ m j < m i) st) st
        | false => awpS P L (awp P L 8) fn.ntmps lv z (retQ L fn r hh) st)
      | _ => False) st) (S i)) → Rel g fn.ntmps [] ρ a w (S i) → (Code.seq (.seq x0 (.seq x1 (.cond t (.seq y0 (.seq y1 (.goto l))) .skip))) z).wp P (Exit.jump l J' E) a w := by
   intro J' X S m i ρ a w hJ hb R
   refine wp_seq ?_
   refine kQ_seq hL hW R (hb i) fun ρ a w st R h => ?_
   refine kQ_seq hL hW R h fun ρ a w st R h => ?_
   split at h
   · rename_i b et
     have hc := R.ev t
     rw [et] at hc
     have hc := C2.inv_v hc
     cases b with
     | true =>
       refine wp_cond_true hc ?_
       refine kQ_seq hL hW R h fun ρ a w st R h => ?_
       refine kQ_seq hL hW R h fun ρ a w st R h => ?_
       obtain ⟨j,σ,hle,hlt⟩ := h
       obtain ⟨ρ',R'⟩ := R.lessR hle
       exact wp_goto ⟨rfl,hJ a w (m j) hlt ⟨X,S,m,j,ρ',hb,R',rfl⟩⟩
     | false =>
       refine wp_cond_false hc (wp_skip ?_)
       exact awpS_snd hL hW lv z (Q := retQ L fn r hh) (E := Exit.jump l J' E) ⟨fun ρ a w st R h => hq.1 ρ a w st R h,fun i ρ a w st R h => hq.2.1 i ρ a w st R h,fun ρ a w st R h => hq.2.2 ρ a w st R h⟩ R h
   · exact h.elim
 · refine kQ_seq hL hW R h fun ρ a w st R h => ?_
   refine kQ_seq hL hW R h fun ρ a w st R h => ?_
   refine wp_seq (wp_label ?_)
   cases h with
   | mk X S m i0 σ h0 hb =>
     obtain ⟨ρ',R'⟩ := R.lessR h0
     exact body _ X S m i0 ρ' a w (fun a w n _ hj => ⟨n,hj⟩) hb R'
 · intro a w hJ
   obtain ⟨X,S,m,i,ρ,hb,R,hm⟩ := least_spec hJ
   refine wp_seq (wp_skip ?_)
   refine body _ X S m i ρ a w (fun a' w' n hlt hj => ⟨⟨n,hj⟩,?_⟩) hb R
   have := least_le hj
   show least (J a' w') < least (J a w)
   omega
end
end Go.Proofs.YtimhagicagdkfaaGreat

/-
 What record.first and record.All tell of any bytes.
-/
namespace Go.Proofs.YtimhagicagdkfaaGreat
open Go.RowKit
theorem readR_len (b : List UInt8) : (readR b).1.ev.length ≤ 4096 := by
 have hl (t : List UInt8) (l : List Ev) (h : listF t = some l) : l.length ≤ 4096 := by
  unfold listF at h
  split at h
  · cases h
  · split at h
    · cases h
    · rename_i m k _ hm
      cases h0 : evsAt (t.drop k) m with
      | none => rw [h0] at h; cases h
      | some p =>
        obtain ⟨l0,r0⟩ := p
        rw [h0] at h
        simp only [Option.map_some,Option.some.injEq] at h
        subst h
        have := (evsAt_len h0).1
        omega
 have hr (k r u : Int) (t : List UInt8) : (rdRl k r u t).1.ev.length ≤ 4096 := by
  unfold rdRl
  split
  · simp
  · rename_i l h
    exact hl t l h
 unfold readR
 split
 · simp [rc0]
 · unfold rdR
   split
   · exact hr ..
   · split
     · unfold rdRn
       split <;> simp
     · split
       · split
         · simp
         · exact hr ..
       · split <;> simp
def firstR : Option (Rc × Nat) → AV
  | none => .tup [rc0.av, .v (.int .i64 0), .v (.bool false)]
  | some (x,n) => .tup [x.av, .v (.int .i64 (n : Int)), .v (.bool true)]
theorem nilRc (b c : AV) (f : Nat → List AV) {a1 a2 a3 a4 a5 a6 a7 a8 : AV} : AEq (.tup [.agg [a1,a2,a3,a4,a5,a6,a7,a8, .v (.slice none 0 0)],b,c]) (.tup [.agg [a1,a2,a3,a4,a5,a6,a7,a8, .sl 12 0 true f],b,c]) :=
 AEq.tup (.of (fun _ _ h => C1.nilEv h) (.same (.same .nil)))
set_option maxHeartbeats 8000000 in
set_option maxRecDepth 100000 in
theorem first_e (b : List UInt8) (hl : b.length ≤ 1000000000) : ASpec Tryz.prog 98 [.sl 1 b.length true (bytesF b)] (firstR (firstF b)) [] := by
 have hs := vtake_spec b (IsB.bytes b) rfl
 have hle := vtake_le b
 unfold firstF
 obtain ⟨⟨v,u,e⟩,hv⟩ : ∃ p,vtake b = p := ⟨_,rfl⟩
 rw [hv] at hs hle ⊢
 dsimp only at hs hle ⊢
 by_cases h0 : e ≠ 0 ∨ b.length - u < v
 · rw [if_pos h0]
   dsimp only [firstR]
   refine K1.E 0x100040400040003ffd Tryz.func98 ?_
   repeat' ((conv => whnf); first | refine K1.w ?_ | refine K1.u ?_ | refine K1.P1 (hs) rfl ?_ | refine ARet.hdI ?_ | refine K1.z ?_ | refine K1.y (fun _ => ?_) (fun _ => ?_) | fail)
   all_goals (conv => whnf)
   all_goals first
     | exact AEqI.mk (nilRc _ _ _)
     | (exfalso; omega)
 · rw [if_neg h0]
   obtain rfl : e = 0 := by omega
   have hvl : u + v ≤ b.length := by omega
   obtain ⟨W,hW⟩ : ∃ W,W = (b.drop u).take v := ⟨_,rfl⟩
   have hWl : W.length = v := by rw [hW,List.length_take,List.length_drop]; omega
   have hWF : IsB (fun i => bytesF b (u + i)) W := by rw [hW]; exact (IsB.drop (IsB.bytes b) u).take v
   rw [← hW]
   by_cases ho : okSeal W
   · rw [if_pos ho]
     have hil : (inner W).length ≤ W.length := by unfold inner; rw [List.length_take]; omega
     have hop : ∀ {n : Nat} {F : Nat → List AV} (_ : IsB F W) (_ : n = W.length),_ := fun {n} {F} hF hn => (open_spec 0 (n := n) (F := F) (inner W) (by rw [← ok_inner ho]; exact hF) (by rw [← ok_inner ho]; exact hn) (by omega)).thaw
     have hrd := rread_spec (inner W) (IsB.bytes _) rfl (by omega)
     have hrl := readR_len (inner W)
     generalize inner W = m at hop hrd hrl hil
     obtain ⟨⟨z,ok⟩,hz⟩ : ∃ p,readR m = p := ⟨_,rfl⟩
     rw [hz] at hrd hrl ⊢
     dsimp only at hrd hrl ⊢
     cases ok with
     | false =>
       rw [if_neg (by simp)]
       dsimp only [firstR]
       refine K1.E 0x100040400040003ffd Tryz.func98 ?_
       repeat' ((conv => whnf); first | refine K1.w ?_ | refine K1.u ?_ | refine K1.P1 (hs) rfl ?_ | refine K1.P1 (hop hWF (by omega)) rfl ?_ | refine K1.P1 (hrd) rfl ?_ | refine ARet.hdI ?_ | refine K1.z ?_ | refine K1.y (fun _ => ?_) (fun _ => ?_) | fail)
       all_goals (conv => whnf)
       all_goals exact AEqI.mk (nilRc _ _ _)
     | true =>
       cases hm : mayR z with
       | false =>
         rw [if_neg (by simp)]
         have hp := rcPut_no z (by omega) hm
         dsimp only [firstR]
         refine K1.E 0x100040400040003ffd Tryz.func98 ?_
         repeat' ((conv => whnf); first | refine K1.w ?_ | refine K1.u ?_ | refine K1.P1 (hs) rfl ?_ | refine K1.P1 (hop hWF (by omega)) rfl ?_ | refine K1.P1 (hrd) rfl ?_ | refine K1.P1 (hp) rfl ?_ | refine ARet.hdI ?_ | refine K1.z ?_ | refine K1.y (fun _ => ?_) (fun _ => ?_) | fail)
         all_goals (conv => whnf)
         all_goals exact AEqI.mk (nilRc _ _ _)
       | true =>
         have hp := (rcPut_yes 0 z hm).thaw
         have he : ∀ {n : Nat} (_ : n = u + v),_ := fun {n} hn => equal_spec (m := n) (rcBytes z) (b.take (u + v)) (IsB.bytes _) rfl ((IsB.bytes b).take (u + v)) (by rw [List.length_take]; omega)
         by_cases hb : rcBytes z = b.take (u + v)
         · rw [if_pos ⟨rfl,rfl,hb⟩]
           dsimp only [firstR]
           rw [decide_eq_true hb] at he
           generalize rcBytes z = w at hp he
           refine K1.E 0x100040400040003ffd Tryz.func98 ?_
           repeat' ((conv => whnf); first | refine K1.w ?_ | refine K1.u ?_ | refine K1.P1 (hs) rfl ?_ | refine K1.P1 (hop hWF (by omega)) rfl ?_ | refine K1.P1 (hrd) rfl ?_ | refine K1.P1 (hp) rfl ?_ | refine K1.P1 (he (by omega)) rfl ?_ | refine ARet.hdI ?_ | refine K1.z ?_ | refine K1.y (fun _ => ?_) (fun _ => ?_) | fail)
           all_goals (conv => whnf)
           all_goals exact AEqI.mk (AEq.tup (.same (.of (fun X u h => AEq.int (by omega) X u h) (.same .nil))))
         · rw [if_neg (fun h => hb h.2.2)]
           dsimp only [firstR]
           rw [decide_eq_false hb] at he
           generalize rcBytes z = w at hp he
           refine K1.E 0x100040400040003ffd Tryz.func98 ?_
           repeat' ((conv => whnf); first | refine K1.w ?_ | refine K1.u ?_ | refine K1.P1 (hs) rfl ?_ | refine K1.P1 (hop hWF (by omega)) rfl ?_ | refine K1.P1 (hrd) rfl ?_ | refine K1.P1 (hp) rfl ?_ | refine K1.P1 (he (by omega)) rfl ?_ | refine ARet.hdI ?_ | refine K1.z ?_ | refine K1.y (fun _ => ?_) (fun _ => ?_) | fail)
           all_goals (conv => whnf)
           all_goals exact AEqI.mk (nilRc _ _ _)
   · rw [if_neg ho]
     dsimp only [firstR]
     have hop : ∀ {n : Nat} {F : Nat → List AV} (_ : IsB F W) (_ : n = W.length),_ := fun {n} {F} hF hn => open_no (n := n) (F := F) W ho hF hn (by omega)
     refine K1.E 0x100040400040003ffd Tryz.func98 ?_
     repeat' ((conv => whnf); first | refine K1.w ?_ | refine K1.u ?_ | refine K1.P1 (hs) rfl ?_ | refine K1.P1 (hop hWF (by omega)) rfl ?_ | refine ARet.hdI ?_ | refine K1.z ?_ | refine K1.y (fun _ => ?_) (fun _ => ?_) | fail)
     all_goals (conv => whnf)
     all_goals exact AEqI.mk (nilRc _ _ _)
theorem first_spec {n : Nat} {F : Nat → List AV} (b : List UInt8) {p : Option (Rc × Nat)} (hp : firstF b = p) (hF : IsB F b) (hn : n = b.length) (hl : b.length ≤ 1000000000) : ASpec Tryz.prog 98 [.sl 1 n true F] (firstR p) [] := by
 have := (first_e b hl).args (Ch.isB hF hn .nil)
 rwa [hp] at this
abbrev rcF (l : List Rc) : Nat → List AV := elsF Rc.cs l
theorem rcsB_len : ∀ l : List Rc,l.length ≤ (rcsB l).length
  | [] => Nat.le_refl _
  | x :: l => by
    have := rcsB_len l
    have := rcBytes_len x
    show l.length + 1 ≤ (rcBytes x ++ rcsB l).length
    rw [List.length_append]
    omega
set_option maxHeartbeats 8000000 in
set_option maxRecDepth 100000 in
theorem all_e (b : List UInt8) (hl : b.length ≤ 1000000000) (l : List Rc) (t : List UInt8) (hr : Recs b l t) :
  ASpec Tryz.prog 60 [.sl 1 b.length true (bytesF b)] (.tup [.sl 9 l.length false (rcF l), .v (.int .i64 ((rcsB l).length : Int))]) [] := by
 have hbl : (rcsB l).length ≤ b.length := by rw [hr.eq,List.length_append]; omega
 have hat : ∀ j,j ≤ l.length → (rcsB (l.take j)).length ≤ b.length := by
  intro j _
  have e : rcsB l = rcsB (l.take j) ++ rcsB (l.drop j) := by
   show _ = List.flatMap rcBytes (l.take j) ++ List.flatMap rcBytes (l.drop j)
   rw [← List.flatMap_append,List.take_append_drop]
   rfl
  have := congrArg List.length e
  rw [List.length_append] at this
  omega
 have hnx : ∀ j,j < l.length → (rcsB (l.take (j + 1))).length = (rcsB (l.take j)).length + (rcBytes (l.getD j default)).length := fun j hj => by rw [recs_take hj,List.length_append]
 have hll := rcsB_len l
 have hstep := recs_step hr
 have hend := recs_end hr
 refine aspec_goto lay_ok 0x201fd (l := 0) Tryz.func60 rfl rfl rfl (by rfl) ?_
 conv => whnf
 refine AGoto.mk { j : Nat // j ≤ l.length } (fun j => match j with
   | ⟨0,_⟩ => ⟨[(0, .sl 1 b.length true (bytesF b)),(4, .v (.slice none 0 0)),(5, .v (.int .i64 0))],[],[],0⟩
   | ⟨i + 1,_⟩ => ⟨[(0, .sl 1 b.length true (bytesF b)),(4, .own 90),(5, .v (.int .i64 ((rcsB (l.take (i + 1))).length : Int)))],[(90, .row 59 9 (i + 1) false (rcF (l.take (i + 1))))],[],91⟩)
   (fun j => l.length - j.1) ⟨0,Nat.zero_le _⟩ _
   (LeR.mk' [] _ _ _ rfl ⟨AEq.refl _,AEq.refl _,AEq.int rfl,trivial⟩ trivial rfl) ?_
 rintro ⟨_ | i,hj⟩
 · dsimp only
   by_cases h0 : 0 < l.length
   · have hs := hstep 0 h0
     have hn := hnx 0 h0
     have ha := hat (0 + 1) (by omega)
     rw [show rcsB (l.take 0) = [] from rfl,List.length_nil] at hs hn
     have htk : (l.take (0 + 1)).length = 1 := by rw [List.length_take]; omega
     have hg : l.take (0 + 1) = [l.getD 0 default] := by cases l with | nil => cases h0 | cons a l => rfl
     repeat' ((conv => whnf); first | refine K1.w ?_ | refine K1.u ?_ | refine K1.P1 (first_spec (b.drop 0) hs (IsB.drop (IsB.bytes b) 0) (by simp) (by simp; omega)) rfl ?_ | refine ARet.hdI ?_ | refine K1.z ?_ | refine K1.y (fun _ => ?_) (fun _ => ?_) | fail)
     conv => whnf
     refine ⟨⟨0 + 1,by omega⟩,_,LeR.mk' [(2,90)] _ _ _ rfl ⟨AEq.refl _,AEq.refl _,AEq.int (by omega),trivial⟩ ⟨⟨_,rfl,OEq.row rfl (fun m hm => ?_)⟩,trivial⟩ rfl,by show l.length - (0 + 1) < l.length - 0; omega⟩
     have hm : m < 1 := hm
     obtain rfl : m = 0 := by omega
     show _ = rcF (l.take (0 + 1)) 0
     rw [hg]
     rfl
   · have hl0 : l = [] := List.eq_nil_of_length_eq_zero (by omega)
     subst hl0
     rw [show rcsB [] = [] from rfl,List.length_nil] at hend
     repeat' ((conv => whnf); first | refine K1.w ?_ | refine K1.u ?_ | refine K1.P1 (first_spec (b.drop 0) hend (IsB.drop (IsB.bytes b) 0) (by simp) (by simp; omega)) rfl ?_ | refine ARet.hdI ?_ | refine K1.z ?_ | refine K1.y (fun _ => ?_) (fun _ => ?_) | fail)
     conv => whnf
     exact AEqI.mk (AEq.tup (.of (fun X u h => C1.nilS (by decide) h) (.same .nil)))
 · dsimp only
   have hai := hat (i + 1) hj
   have hlt : (l.take (i + 1)).length = i + 1 := by rw [List.length_take]; omega
   by_cases h0 : i + 1 < l.length
   · have hs := hstep (i + 1) h0
     have hn := hnx (i + 1) h0
     have ha := hat (i + 1 + 1) (by omega)
     have hg : l.take (i + 1 + 1) = l.take (i + 1) ++ [l.getD (i + 1) default] := by
      rw [List.getD,List.getElem?_eq_getElem h0]; exact (List.take_append_getElem h0).symm
     repeat' ((conv => whnf); first | refine K1.w ?_ | refine K1.u ?_ | refine K1.P1 (first_spec (b.drop (rcsB (l.take (i + 1))).length) hs (IsB.drop (IsB.bytes b) _) (by simp) (by simp; omega)) rfl ?_ | refine ARet.hdI ?_ | refine K1.z ?_ | refine K1.y (fun _ => ?_) (fun _ => ?_) | fail)
     conv => whnf
     refine ⟨⟨i + 1 + 1,by omega⟩,_,LeR.mk' [(93,90)] _ _ _ rfl ⟨AEq.refl _,AEq.refl _,AEq.int (by omega),trivial⟩ ⟨⟨_,rfl,OEq.row rfl (fun m hm => ?_)⟩,trivial⟩ rfl,by show l.length - (i + 1 + 1) < l.length - (i + 1); omega⟩
     show _ = rcF (l.take (i + 1 + 1)) m
     rw [hg]
     exact els_app1 (c := Rc.cs) hlt.symm rfl m hm
   · have hli : l.take (i + 1) = l := List.take_of_length_le (by omega)
     have hle : i + 1 = l.length := by omega
     rw [hli] at hai hlt ⊢
     rw [hle]
     repeat' ((conv => whnf); first | refine K1.w ?_ | refine K1.u ?_ | refine K1.P1 (first_spec (b.drop (rcsB l).length) hend (IsB.drop (IsB.bytes b) _) (by simp) (by simp; omega)) rfl ?_ | refine ARet.hdI ?_ | refine K1.z ?_ | refine K1.y (fun _ => ?_) (fun _ => ?_) | fail)
     conv => whnf
     exact AEqI.mk (AEq.refl _)
theorem all_spec {n : Nat} {F : Nat → List AV} (b : List UInt8) (hF : IsB F b) (hn : n = b.length) (hl : b.length ≤ 1000000000) {l : List Rc} {t : List UInt8} (hr : Recs b l t) :
  ASpec Tryz.prog 60 [.sl 1 n true F] (.tup [.sl 9 l.length false (rcF l), .v (.int .i64 ((rcsB l).length : Int))]) [] :=
 (all_e b hl l t hr).args (Ch.isB hF hn .nil)
end Go.Proofs.YtimhagicagdkfaaGreat

/-
 A disk (layer 17): what Write,Bytes,Trim leave.
-/
namespace Go.Proofs.YtimhagicagdkfaaGreat
open Go.RowKit
structure Dk where
 (bs : List UInt8) (down cut : Bool) (keep : Int)
def dkB (m : AV) (d : Dk) : AO := .box 146 [m, .v (.bool d.down), .v (.bool d.cut), .v (.int .i64 d.keep)]
def bRow (l : List UInt8) : AO := .row 5 1 l.length true (bytesF l)
def dk0 : Dk := ⟨[],false,false,0⟩
theorem C1.nilY {X : CX} {f : Nat → List AV} {u : Value} (h : C1 X (.v (.slice none 0 0)) u) : C1 X (.sl 1 0 true f) u := by
 have h : u = .slice none 0 0 := h
 subst h
 exact .sl 1 0 true f none 0 [] (by omega) (Nat.le_refl _) (by simp [maxLen]) rfl (fun i hi => absurd hi (by omega)) (fun _ x hx => by cases hx) (fun i x u hx => by simp [flat] at hx) (.inl rfl)
theorem clone_own (d : Nat) {n : Nat} {F : Nat → List AV} (l : List UInt8) (hF : IsB F l) (hn : n = l.length) (hl : l.length ≤ 1000000000) : ASpec Tryz.prog 99 [.sl 1 n true F] (.own d) [(d,bRow l)] := by
 refine K1.E 0x15 Tryz.func99 ?_
 repeat' ((conv => whnf); first | refine K1.w ?_ | refine K1.u ?_ | refine K1.z ?_ | refine K1.y (fun _ => ?_) (fun _ => ?_) | fail)
 all_goals (conv => whnf)
 · have h0 : n = 0 := by assumption
   obtain rfl : l = [] := List.eq_nil_of_length_eq_zero (by omega)
   exact ARet.nil d _ 1 _ rfl (by decide)
 · refine ARet.ownX d rfl rfl ?_ (AEq.refl _)
   refine OEq.row (by omega) fun i hi => ?_
   exact hF i (by omega)
theorem clone_nil : ASpec Tryz.prog 99 [.v (.slice none 0 0)] (.v (.slice none 0 0)) [] := by
 refine K1.E 0x15 Tryz.func99 ?_
 repeat' ((conv => whnf); first | refine K1.w ?_ | refine K1.u ?_ | refine ARet.hdI ?_ | refine K1.z ?_ | refine K1.y (fun _ => ?_) (fun _ => ?_) | fail)
 all_goals (conv => whnf)
 exact AEqI.mk (AEq.refl _)
theorem all_nil : ASpec Tryz.prog 60 [.v (.slice none 0 0)] (.tup [.sl 9 0 false (rcF []), .v (.int .i64 0)]) [] := by
 have hr : Recs [] [] [] := ⟨by simp,rfl,by unfold firstF; rw [if_pos (.inl (by decide))]⟩
 have := all_spec (n := 0) (F := bytesF []) [] (IsB.bytes _) rfl (by decide) hr
 exact this.args (.of (fun _ _ h => C1.nilY h) .nil)
def keepI (keep : Int) (n : Nat) : Int := if (n : Int) < (if 0 > keep then 0 else keep) then (n : Int) else (if 0 > keep then 0 else keep)
theorem keepI_in (keep : Int) (n : Nat) : 0 ≤ keepI keep n ∧ keepI keep n ≤ n := by
 unfold keepI
 split <;> split <;> omega
def writeD (d : Dk) (b : List UInt8) : Dk × Int :=
 if d.down then (d,18) else if d.cut then (⟨d.bs ++ b.take (keepI d.keep b.length).toNat,true,false,d.keep⟩,18) else (⟨d.bs ++ b,false,false,d.keep⟩,0)
set_option maxHeartbeats 4000000 in
set_option maxRecDepth 100000 in
theorem dk_write_m (d d' : Dk) (b : List UInt8) (x : Int) {n : Nat} {F : Nat → List AV} (hF : IsB F b) (hn : n = b.length) (h1 : d.bs.length ≤ 1000000000) (h2 : b.length ≤ 1000000000) (hw : writeD d b = (d',x)) :
  MSpec Tryz.prog 94 [(0,dkB (.own 1) d),(1,bRow d.bs)] [.box 0 0, .sl 1 n true F] (.v (.int .i64 x)) [(0,dkB (.own 2) d'),(2,bRow d'.bs)] := by
 obtain ⟨bs,down,cut,keep⟩ := d
 have hk := keepI_in keep b.length
 unfold writeD at hw
 dsimp only [dkB,bRow] at h1 hw ⊢
 subst hn
 cases down with
 | true =>
   rw [if_pos rfl] at hw
   obtain ⟨rfl,rfl⟩ := Prod.mk.inj hw
   dsimp only
   refine K1.M 0x1113 Tryz.func94 40 ?_
   repeat' ((conv => whnf); first | refine K1.w ?_ | refine K1.u ?_ | refine K1.z ?_ | refine K1.y (fun _ => ?_) (fun _ => ?_) | fail)
   all_goals (conv => whnf)
   exact ⟨[(1,2)],rfl,rfl,⟨⟨_,rfl,OEq.refl _⟩,⟨_,rfl,OEq.refl _⟩,trivial⟩,rfl,rfl,AEq.refl _⟩
 | false =>
   rw [if_neg (by simp)] at hw
   cases cut with
   | true =>
     rw [if_pos rfl] at hw
     obtain ⟨rfl,rfl⟩ := Prod.mk.inj hw
     dsimp only
     refine K1.M 0x1113 Tryz.func94 40 ?_
     repeat' ((conv => whnf); first | refine K1.w ?_ | refine K1.u ?_ | refine K1.z ?_ | refine K1.y (fun _ => ?_) (fun _ => ?_) | fail)
     all_goals (conv => whnf)
     generalize hb : keepI keep b.length = k at hk ⊢
     unfold keepI at hb
     rw [hb]
     clear hb
     repeat' ((conv => whnf); first | refine K1.w ?_ | refine K1.u ?_ | refine K1.I 0x1 Tryz.func128 ?_ | refine K1.z ?_ | refine K1.y (fun _ => ?_) (fun _ => ?_) | fail)
     all_goals (conv => whnf)
     exact ⟨[(40,2)],rfl,rfl,⟨⟨_,rfl,OEq.refl _⟩,⟨_,rfl,OEq.isB (IsB.app (IsB.bytes _) (hF.take _) rfl) (by rw [List.length_append,List.length_take]; omega) rfl⟩,trivial⟩,rfl,rfl,AEq.refl _⟩
   | false =>
     rw [if_neg (by simp)] at hw
     obtain ⟨rfl,rfl⟩ := Prod.mk.inj hw
     dsimp only
     refine K1.M 0x1113 Tryz.func94 40 ?_
     repeat' ((conv => whnf); first | refine K1.w ?_ | refine K1.u ?_ | refine K1.z ?_ | refine K1.y (fun _ => ?_) (fun _ => ?_) | fail)
     all_goals (conv => whnf)
     exact ⟨[(40,2)],rfl,rfl,⟨⟨_,rfl,OEq.refl _⟩,⟨_,rfl,OEq.isB (IsB.app (IsB.bytes _) hF rfl) List.length_append.symm rfl⟩,trivial⟩,rfl,rfl,AEq.refl _⟩
theorem ovr_out {lo k m : Nat} {f g : Nat → List AV} (h : m < lo) : ovr lo k f g m = f m := by
 have hb : Nat.ble lo m = false := by
  rw [Bool.eq_false_iff]
  intro e
  have := Nat.le_of_ble_eq_true e
  omega
 show (bif Nat.ble lo m then _ else f m) = f m
 rw [hb]
 rfl
theorem bytes_take {l : List UInt8} {n i : Nat} (h : i < n) : bytesF (l.take n) i = bytesF l i := by
 show bC _ = bC _
 rw [List.getD,List.getD,List.getElem?_take_of_lt h]
set_option maxHeartbeats 4000000 in
set_option maxRecDepth 100000 in
theorem dk_trim_m (d : Dk) (n : Nat) (hn : n ≤ d.bs.length) (h1 : d.bs.length ≤ 1000000000) :
  MSpec Tryz.prog 62 [(0,dkB (.own 1) d),(1,bRow d.bs)] [.box 0 0, .v (.int .i64 (n : Int))] (.tup []) [(0,dkB (.own 2) ⟨d.bs.take n,d.down,d.cut,d.keep⟩),(2,bRow (d.bs.take n))] := by
 obtain ⟨bs,down,cut,keep⟩ := d
 dsimp only [dkB,bRow] at hn h1 ⊢
 refine K1.M 0x4003 Tryz.func62 40 ?_
 iterate 5 ((conv => whnf); first | refine K1.w ?_ | refine K1.u ?_ | refine ASl.part ?_ | refine K1.z ?_ | refine K1.y (fun _ => ?_) (fun _ => ?_) | fail)
 repeat' ((conv => whnf); first | refine K1.w ?_ | refine K1.u ?_ | refine ASl.cut ?_ | refine K1.z ?_ | refine K1.y (fun _ => ?_) (fun _ => ?_) | fail)
 all_goals (conv => whnf)
 exact ⟨[(40,2)],rfl,rfl,⟨⟨_,rfl,OEq.refl _⟩,⟨_,rfl,OEq.row (by rw [List.length_take]; omega) fun i hi => (ovr_out hi).trans (bytes_take hi).symm⟩,trivial⟩,rfl,rfl,AEq.refl _⟩
end Go.Proofs.YtimhagicagdkfaaGreat
