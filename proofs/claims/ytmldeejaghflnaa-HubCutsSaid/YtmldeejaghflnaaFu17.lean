/-
  Contracts of the walk: FrV, FrmF, FrmG, FrW, Ay, AyR.
-/
import Derived.Test.YtmldeejaghflnaaFu12
import Derived.Test.YtmldeejaghflnaaFu10
import Derived.Test.YtmldeejaghflnaaFu6
/-
 What frame.read tells of any bytes.
-/
namespace Go.Proofs.Ytmldeejaghflnaa
open Go.RowKit
theorem shape_ev (k : Int) (h : k = 1 ∨ k = 4) : ASpec Try.prog 53 [.v (.int .i64 k)] (.tup [.agg [.v (.bool true), .v (.bool false), .v (.bool false)], .v (.bool true)]) [] := by
 have := shape_spec k
 rcases h with rfl | rfl <;> exact this
theorem shape_up (k : Int) (h : k = 2) : ASpec Try.prog 53 [.v (.int .i64 k)] (.tup [.agg [.v (.bool false), .v (.bool true), .v (.bool false)], .v (.bool true)]) [] := by
 have := shape_spec k
 rcases h with rfl
 exact this
theorem shape_clk (k : Int) (h : k = 3 ∨ k = 5) : ASpec Try.prog 53 [.v (.int .i64 k)] (.tup [.agg [.v (.bool false), .v (.bool false), .v (.bool true)], .v (.bool true)]) [] := by
 have := shape_spec k
 rcases h with rfl | rfl <;> exact this
set_option maxHeartbeats 4000000 in
set_option maxRecDepth 100000 in
theorem read_no (b : List UInt8) (hl : b.length ≤ 1000000000) (h : (vtake b).2.2 ≠ 0 ∨ b.length < (vtake b).2.1 + 2) : ASpec Try.prog 30 [.sl 1 b.length true (bytesF b)] (.tup [(readF b).1.av, .v (.bool (readF b).2)]) [] := by
 have hs := vtake_spec b (IsB.bytes b) rfl
 have hle := vtake_le b
 rw [show readF b = (rc0,false) by unfold readF; rw [if_pos h]]
 obtain ⟨⟨v,u,e⟩,hv⟩ : ∃ p,vtake b = p := ⟨_,rfl⟩
 rw [hv] at hs h hle
 dsimp only at hs h hle
 refine aspec_of lay_ok 618648465007196520843245 Try.func30 rfl rfl rfl ?_
 repeat' ((conv => whnf); first | refine K1.a ?_ | refine K1.b ?_ | refine K1.c ?_ | refine K1.d ?_ | refine K1.e ?_ | refine K1.f ?_ | refine ACall.plain _ _ (hs) (SubL.cons (.eq _) .nil) rfl ?_ | refine ARet.hdI ?_ | refine Spl.mk (fun _ => ?_) (fun _ => ?_) | refine SNil.mk (fun _ => ?_) ?_ | refine K1.g ?_ | refine ASl.frz ?_ | refine Wr.b64 ?_ | refine Wr.bu64 ?_ | refine Wr.bu32 ?_ | refine Wr.bu8 ?_ | refine K1.u8 ?_ | refine K1.u64 ?_ | refine K1.u32 ?_ | refine K1.h ?_ | refine K1.i ?_ | refine K1.q ?_ | refine ADraw.sched (id := 4) lay_ok (awp_snd lay_ok _) [(0,none),(1,none),(2,none),(3,none),(4,none),(5,none),(6,none),(7,none),(8,none),(9,none),(10,none),(11,none),(12,some []),(13,some [10,9,7,4,3])] [(4,[3]),(8,[7]),(9,[7]),(10,[9,7]),(11,[10,9,7,4,3]),(12,[]),(13,[10,9,7,4,3])] follows_ok (by kernel_rfl) ?_ | refine K1.j ?_ | refine K1.k ?_ | refine BSpl.dec (fun _ => ?_) (fun _ => ?_) | refine K1.l ?_ | refine K1.n ?_ | refine BSpl.mk (fun _ => ?_) (fun _ => ?_))
 all_goals (conv => whnf)
 all_goals first
   | exact AEqI.mk (AEq.nilEvT _)
   | (exfalso; omega)
set_option maxHeartbeats 4000000 in
set_option maxRecDepth 100000 in
theorem read_ev (b : List UInt8) (hl : b.length ≤ 1000000000) {v u : Nat} (hv : vtake b = (v,u,0)) (hu : u + 2 ≤ b.length) (hk : ((b.getD u default).toNat : Int) = 1 ∨ ((b.getD u default).toNat : Int) = 4) :
  ASpec Try.prog 30 [.sl 1 b.length true (bytesF b)] (.tup [(readF b).1.av, .v (.bool (readF b).2)]) [] := by
 have hs := vtake_spec b (IsB.bytes b) rfl
 rw [hv] at hs
 dsimp only at hs
 have hr : readF b = rdB ((b.getD u default).toNat : Int) ((b.getD (u + 1) default).toNat : Int) (b.drop (u + 2)) := by
  unfold readF
  rw [hv,if_neg (by dsimp only; omega)]
 rw [hr]
 unfold rdB
 rw [if_pos hk]
 have he := events_spec (n := b.length - (u + 2)) (b.drop (u + 2)) (IsB.drop (IsB.bytes b) (u + 2)) (by simp) (by simp; omega)
 cases hE : evsF (b.drop (u + 2)) with
 | none =>
   rw [hE] at he
   dsimp only [evsR] at he
   dsimp only [Rc.av,Rc.cs]
   refine aspec_of lay_ok 618648465007196520843245 Try.func30 rfl rfl rfl ?_
   repeat' ((conv => whnf); first | refine K1.a ?_ | refine K1.b ?_ | refine K1.c ?_ | refine K1.d ?_ | refine K1.e ?_ | refine K1.f ?_ | refine ACall.plain _ _ (hs) (SubL.cons (.eq _) .nil) rfl ?_ | refine ACall.plain _ _ (shape_ev _ hk) (SubL.cons (.eq _) .nil) rfl ?_ | refine ACall.plain _ _ (he) (SubL.cons (.eq _) .nil) rfl ?_ | refine ALoop.unr 72 6 rfl ?_ | refine ARet.hdI ?_ | refine Spl.mk (fun _ => ?_) (fun _ => ?_) | refine SNil.mk (fun _ => ?_) ?_ | refine K1.g ?_ | refine ASl.frz ?_ | refine Wr.b64 ?_ | refine Wr.bu64 ?_ | refine Wr.bu32 ?_ | refine Wr.bu8 ?_ | refine K1.u8 ?_ | refine K1.u64 ?_ | refine K1.u32 ?_ | refine K1.h ?_ | refine K1.i ?_ | refine K1.q ?_ | refine ADraw.sched (id := 4) lay_ok (awp_snd lay_ok _) [(0,none),(1,none),(2,none),(3,none),(4,none),(5,none),(6,none),(7,none),(8,none),(9,none),(10,none),(11,none),(12,some []),(13,some [10,9,7,4,3])] [(4,[3]),(8,[7]),(9,[7]),(10,[9,7]),(11,[10,9,7,4,3]),(12,[]),(13,[10,9,7,4,3])] follows_ok (by kernel_rfl) ?_ | refine K1.j ?_ | refine K1.k ?_ | refine BSpl.dec (fun _ => ?_) (fun _ => ?_) | refine K1.l ?_ | refine K1.n ?_ | refine BSpl.mk (fun _ => ?_) (fun _ => ?_))
   all_goals (conv => whnf)
   exact AEqI.mk (AEq.nilEvT _)
 | some l =>
   rw [hE] at he
   dsimp only [evsR] at he
   dsimp only [Rc.av,Rc.cs]
   refine aspec_of lay_ok 618648465007196520843245 Try.func30 rfl rfl rfl ?_
   repeat' ((conv => whnf); first | refine K1.a ?_ | refine K1.b ?_ | refine K1.c ?_ | refine K1.d ?_ | refine K1.e ?_ | refine K1.f ?_ | refine ACall.plain _ _ (hs) (SubL.cons (.eq _) .nil) rfl ?_ | refine ACall.plain _ _ (shape_ev _ hk) (SubL.cons (.eq _) .nil) rfl ?_ | refine ACall.plain _ _ (he) (SubL.cons (.eq _) .nil) rfl ?_ | refine ALoop.unr 72 6 rfl ?_ | refine ARet.hdI ?_ | refine Spl.mk (fun _ => ?_) (fun _ => ?_) | refine SNil.mk (fun _ => ?_) ?_ | refine K1.g ?_ | refine ASl.frz ?_ | refine Wr.b64 ?_ | refine Wr.bu64 ?_ | refine Wr.bu32 ?_ | refine Wr.bu8 ?_ | refine K1.u8 ?_ | refine K1.u64 ?_ | refine K1.u32 ?_ | refine K1.h ?_ | refine K1.i ?_ | refine K1.q ?_ | refine ADraw.sched (id := 4) lay_ok (awp_snd lay_ok _) [(0,none),(1,none),(2,none),(3,none),(4,none),(5,none),(6,none),(7,none),(8,none),(9,none),(10,none),(11,none),(12,some []),(13,some [10,9,7,4,3])] [(4,[3]),(8,[7]),(9,[7]),(10,[9,7]),(11,[10,9,7,4,3]),(12,[]),(13,[10,9,7,4,3])] follows_ok (by kernel_rfl) ?_ | refine K1.j ?_ | refine K1.k ?_ | refine BSpl.dec (fun _ => ?_) (fun _ => ?_) | refine K1.l ?_ | refine K1.n ?_ | refine BSpl.mk (fun _ => ?_) (fun _ => ?_))
   all_goals (conv => whnf)
   exact AEqI.mk (AEq.refl _)
theorem readF_eq {b : List UInt8} {v u : Nat} (hv : vtake b = (v,u,0)) (hu : u + 2 ≤ b.length) : readF b = rdB ((b.getD u default).toNat : Int) ((b.getD (u + 1) default).toNat : Int) (b.drop (u + 2)) := by
 unfold readF
 rw [hv,if_neg (by dsimp only; omega)]
set_option maxHeartbeats 4000000 in
set_option maxRecDepth 100000 in
theorem read_up (b : List UInt8) (hl : b.length ≤ 1000000000) {v u : Nat} (hv : vtake b = (v,u,0)) (hu : u + 2 ≤ b.length) (hk : ((b.getD u default).toNat : Int) = 2) :
  ASpec Try.prog 30 [.sl 1 b.length true (bytesF b)] (.tup [(readF b).1.av, .v (.bool (readF b).2)]) [] := by
 have hs := vtake_spec b (IsB.bytes b) rfl
 rw [hv] at hs
 dsimp only at hs
 rw [readF_eq hv hu]
 unfold rdB
 rw [if_neg (by omega),if_pos hk]
 cases hE : numF (b.drop (u + 2)) with
 | none =>
   have he := number_no (n := b.length - (u + 2)) (b.drop (u + 2)) hE (IsB.drop (IsB.bytes b) (u + 2)) (by simp)
   dsimp only [Rc.av,Rc.cs]
   refine aspec_of lay_ok 618648465007196520843245 Try.func30 rfl rfl rfl ?_
   repeat' ((conv => whnf); first | refine K1.a ?_ | refine K1.b ?_ | refine K1.c ?_ | refine K1.d ?_ | refine K1.e ?_ | refine K1.f ?_ | refine ACall.plain _ _ (hs) (SubL.cons (.eq _) .nil) rfl ?_ | refine ACall.plain _ _ (shape_up _ hk) (SubL.cons (.eq _) .nil) rfl ?_ | refine ACall.plain _ _ (he) (SubL.cons (.eq _) .nil) rfl ?_ | refine ALoop.unr 72 6 rfl ?_ | refine ARet.hdI ?_ | refine Spl.mk (fun _ => ?_) (fun _ => ?_) | refine SNil.mk (fun _ => ?_) ?_ | refine K1.g ?_ | refine ASl.frz ?_ | refine Wr.b64 ?_ | refine Wr.bu64 ?_ | refine Wr.bu32 ?_ | refine Wr.bu8 ?_ | refine K1.u8 ?_ | refine K1.u64 ?_ | refine K1.u32 ?_ | refine K1.h ?_ | refine K1.i ?_ | refine K1.q ?_ | refine ADraw.sched (id := 4) lay_ok (awp_snd lay_ok _) [(0,none),(1,none),(2,none),(3,none),(4,none),(5,none),(6,none),(7,none),(8,none),(9,none),(10,none),(11,none),(12,some []),(13,some [10,9,7,4,3])] [(4,[3]),(8,[7]),(9,[7]),(10,[9,7]),(11,[10,9,7,4,3]),(12,[]),(13,[10,9,7,4,3])] follows_ok (by kernel_rfl) ?_ | refine K1.j ?_ | refine K1.k ?_ | refine BSpl.dec (fun _ => ?_) (fun _ => ?_) | refine K1.l ?_ | refine K1.n ?_ | refine BSpl.mk (fun _ => ?_) (fun _ => ?_))
   all_goals (conv => whnf)
   exact AEqI.mk (AEq.nilEvT _)
 | some p =>
   obtain ⟨m,k⟩ := p
   have he := number_ok (n := b.length - (u + 2)) (b.drop (u + 2)) hE (IsB.drop (IsB.bytes b) (u + 2)) (by simp)
   dsimp only [Rc.av,Rc.cs]
   refine aspec_of lay_ok 618648465007196520843245 Try.func30 rfl rfl rfl ?_
   repeat' ((conv => whnf); first | refine K1.a ?_ | refine K1.b ?_ | refine K1.c ?_ | refine K1.d ?_ | refine K1.e ?_ | refine K1.f ?_ | refine ACall.plain _ _ (hs) (SubL.cons (.eq _) .nil) rfl ?_ | refine ACall.plain _ _ (shape_up _ hk) (SubL.cons (.eq _) .nil) rfl ?_ | refine ACall.plain _ _ (he) (SubL.cons (.eq _) .nil) rfl ?_ | refine ALoop.unr 72 6 rfl ?_ | refine ARet.hdI ?_ | refine Spl.mk (fun _ => ?_) (fun _ => ?_) | refine SNil.mk (fun _ => ?_) ?_ | refine K1.g ?_ | refine ASl.frz ?_ | refine Wr.b64 ?_ | refine Wr.bu64 ?_ | refine Wr.bu32 ?_ | refine Wr.bu8 ?_ | refine K1.u8 ?_ | refine K1.u64 ?_ | refine K1.u32 ?_ | refine K1.h ?_ | refine K1.i ?_ | refine K1.q ?_ | refine ADraw.sched (id := 4) lay_ok (awp_snd lay_ok _) [(0,none),(1,none),(2,none),(3,none),(4,none),(5,none),(6,none),(7,none),(8,none),(9,none),(10,none),(11,none),(12,some []),(13,some [10,9,7,4,3])] [(4,[3]),(8,[7]),(9,[7]),(10,[9,7]),(11,[10,9,7,4,3]),(12,[]),(13,[10,9,7,4,3])] follows_ok (by kernel_rfl) ?_ | refine K1.j ?_ | refine K1.k ?_ | refine BSpl.dec (fun _ => ?_) (fun _ => ?_) | refine K1.l ?_ | refine K1.n ?_ | refine BSpl.mk (fun _ => ?_) (fun _ => ?_))
   all_goals (conv => whnf)
   exact AEqI.mk (AEq.nilEvT _)
theorem shK_no {k : Int} (h : ¬ (k = 1 ∨ k = 4) ∧ ¬ k = 2 ∧ ¬ (k = 3 ∨ k = 5)) : ¬ (1 ≤ k ∧ k ≤ 5) := by omega
set_option maxHeartbeats 4000000 in
set_option maxRecDepth 100000 in
theorem read_none (b : List UInt8) (hl : b.length ≤ 1000000000) {v u : Nat} (hv : vtake b = (v,u,0)) (hu : u + 2 ≤ b.length) (hk : ¬ (((b.getD u default).toNat : Int) = 1 ∨ ((b.getD u default).toNat : Int) = 4) ∧ ¬ ((b.getD u default).toNat : Int) = 2 ∧ ¬ (((b.getD u default).toNat : Int) = 3 ∨ ((b.getD u default).toNat : Int) = 5)) :
  ASpec Try.prog 30 [.sl 1 b.length true (bytesF b)] (.tup [(readF b).1.av, .v (.bool (readF b).2)]) [] := by
 have hs := vtake_spec b (IsB.bytes b) rfl
 rw [hv] at hs
 dsimp only at hs
 rw [readF_eq hv hu]
 unfold rdB
 rw [if_neg hk.1,if_neg hk.2.1,if_neg hk.2.2]
 have hk5 := shK_no hk
 dsimp only [Rc.av,Rc.cs]
 refine aspec_of lay_ok 618648465007196520843245 Try.func30 rfl rfl rfl ?_
 repeat' ((conv => whnf); first | refine K1.a ?_ | refine K1.b ?_ | refine K1.c ?_ | refine K1.d ?_ | refine K1.e ?_ | refine K1.f ?_ | refine ACall.plain _ _ (hs) (SubL.cons (.eq _) .nil) rfl ?_ | refine ACall.plain _ _ (shape_no _ hk5) (SubL.cons (.eq _) .nil) rfl ?_ | refine ALoop.unr 72 6 rfl ?_ | refine ARet.hdI ?_ | refine Spl.mk (fun _ => ?_) (fun _ => ?_) | refine SNil.mk (fun _ => ?_) ?_ | refine K1.g ?_ | refine ASl.frz ?_ | refine Wr.b64 ?_ | refine Wr.bu64 ?_ | refine Wr.bu32 ?_ | refine Wr.bu8 ?_ | refine K1.u8 ?_ | refine K1.u64 ?_ | refine K1.u32 ?_ | refine K1.h ?_ | refine K1.i ?_ | refine K1.q ?_ | refine ADraw.sched (id := 4) lay_ok (awp_snd lay_ok _) [(0,none),(1,none),(2,none),(3,none),(4,none),(5,none),(6,none),(7,none),(8,none),(9,none),(10,none),(11,none),(12,some []),(13,some [10,9,7,4,3])] [(4,[3]),(8,[7]),(9,[7]),(10,[9,7]),(11,[10,9,7,4,3]),(12,[]),(13,[10,9,7,4,3])] follows_ok (by kernel_rfl) ?_ | refine K1.j ?_ | refine K1.k ?_ | refine BSpl.dec (fun _ => ?_) (fun _ => ?_) | refine K1.l ?_ | refine K1.n ?_ | refine BSpl.mk (fun _ => ?_) (fun _ => ?_))
 all_goals (conv => whnf)
 exact AEqI.mk (AEq.nilEvT _)
set_option maxHeartbeats 8000000 in
set_option maxRecDepth 100000 in
theorem read_clk (b : List UInt8) (hl : b.length ≤ 1000000000) {v u : Nat} (hv : vtake b = (v,u,0)) (hu : u + 2 ≤ b.length) (hk : ((b.getD u default).toNat : Int) = 3 ∨ ((b.getD u default).toNat : Int) = 5) :
  ASpec Try.prog 30 [.sl 1 b.length true (bytesF b)] (.tup [(readF b).1.av, .v (.bool (readF b).2)]) [] := by
 have hs := vtake_spec b (IsB.bytes b) rfl
 rw [hv] at hs
 dsimp only at hs
 rw [readF_eq hv hu]
 unfold rdB
 rw [if_neg (by omega),if_neg (by omega),if_pos hk]
 have hF := IsB.drop (IsB.bytes b) (u + 2)
 have hn : b.length - (u + 2) = (b.drop (u + 2)).length := by simp
 cases g0 : numF (b.drop (u + 2)) with
 | none =>
   have e0 := number_no (n := b.length - (u + 2)) (b.drop (u + 2)) g0 hF hn
   have hr : rdC (b.drop (u + 2)) = (⟨0,0,0,0,0⟩,false) := by unfold rdC; simp only [g0]
   rw [hr]
   dsimp only [Rc.av,Rc.cs]
   refine aspec_of lay_ok 618648465007196520843245 Try.func30 rfl rfl rfl ?_
   repeat' ((conv => whnf); first | refine K1.a ?_ | refine K1.b ?_ | refine K1.c ?_ | refine K1.d ?_ | refine K1.e ?_ | refine K1.f ?_ | refine ACall.plain _ _ (hs) (SubL.cons (.eq _) .nil) rfl ?_ | refine ACall.plain _ _ (shape_clk _ hk) (SubL.cons (.eq _) .nil) rfl ?_ | refine ACall.plain _ _ (e0) (SubL.cons (.eq _) .nil) rfl ?_ | refine ALoop.unr 72 6 rfl ?_ | refine ARet.hdI ?_ | refine Spl.mk (fun _ => ?_) (fun _ => ?_) | refine SNil.mk (fun _ => ?_) ?_ | refine K1.g ?_ | refine ASl.frz ?_ | refine Wr.b64 ?_ | refine Wr.bu64 ?_ | refine Wr.bu32 ?_ | refine Wr.bu8 ?_ | refine K1.u8 ?_ | refine K1.u64 ?_ | refine K1.u32 ?_ | refine K1.h ?_ | refine K1.i ?_ | refine K1.q ?_ | refine ADraw.sched (id := 4) lay_ok (awp_snd lay_ok _) [(0,none),(1,none),(2,none),(3,none),(4,none),(5,none),(6,none),(7,none),(8,none),(9,none),(10,none),(11,none),(12,some []),(13,some [10,9,7,4,3])] [(4,[3]),(8,[7]),(9,[7]),(10,[9,7]),(11,[10,9,7,4,3]),(12,[]),(13,[10,9,7,4,3])] follows_ok (by kernel_rfl) ?_ | refine K1.j ?_ | refine K1.k ?_ | refine BSpl.dec (fun _ => ?_) (fun _ => ?_) | refine K1.l ?_ | refine K1.n ?_ | refine BSpl.mk (fun _ => ?_) (fun _ => ?_))
   all_goals (conv => whnf)
   exact AEqI.mk (AEq.nilEvT _)
 | some p0 =>
   obtain ⟨m0,k0⟩ := p0
   have l0 := numF_le g0
   rw [← hn] at l0
   have e0 := number_ok (n := b.length - (u + 2)) (b.drop (u + 2)) g0 hF hn
   have n1 : (b.length - (u + 2) - k0) = ((b.drop (u + 2)).drop k0).length := by simp; omega
   cases g1 : numF ((b.drop (u + 2)).drop k0) with
   | none =>
     have e1 := number_no (n := (b.length - (u + 2) - k0)) ((b.drop (u + 2)).drop k0) g1 (IsB.drop hF k0) (by simp; omega)
     have hr : rdC (b.drop (u + 2)) = (⟨m0,0,0,0,0⟩,false) := by unfold rdC; simp only [g0,g1]
     rw [hr]
     dsimp only [Rc.av,Rc.cs]
     refine aspec_of lay_ok 618648465007196520843245 Try.func30 rfl rfl rfl ?_
     repeat' ((conv => whnf); first | refine K1.a ?_ | refine K1.b ?_ | refine K1.c ?_ | refine K1.d ?_ | refine K1.e ?_ | refine K1.f ?_ | refine ACall.plain _ _ (hs) (SubL.cons (.eq _) .nil) rfl ?_ | refine ACall.plain _ _ (shape_clk _ hk) (SubL.cons (.eq _) .nil) rfl ?_ | refine ACall.plain _ _ (e0) (SubL.cons (.eq _) .nil) rfl ?_ | refine ACall.plain _ _ (e1) (SubL.cons (.eq _) .nil) rfl ?_ | refine ALoop.unr 72 6 rfl ?_ | refine ARet.hdI ?_ | refine Spl.mk (fun _ => ?_) (fun _ => ?_) | refine SNil.mk (fun _ => ?_) ?_ | refine K1.g ?_ | refine ASl.frz ?_ | refine Wr.b64 ?_ | refine Wr.bu64 ?_ | refine Wr.bu32 ?_ | refine Wr.bu8 ?_ | refine K1.u8 ?_ | refine K1.u64 ?_ | refine K1.u32 ?_ | refine K1.h ?_ | refine K1.i ?_ | refine K1.q ?_ | refine ADraw.sched (id := 4) lay_ok (awp_snd lay_ok _) [(0,none),(1,none),(2,none),(3,none),(4,none),(5,none),(6,none),(7,none),(8,none),(9,none),(10,none),(11,none),(12,some []),(13,some [10,9,7,4,3])] [(4,[3]),(8,[7]),(9,[7]),(10,[9,7]),(11,[10,9,7,4,3]),(12,[]),(13,[10,9,7,4,3])] follows_ok (by kernel_rfl) ?_ | refine K1.j ?_ | refine K1.k ?_ | refine BSpl.dec (fun _ => ?_) (fun _ => ?_) | refine K1.l ?_ | refine K1.n ?_ | refine BSpl.mk (fun _ => ?_) (fun _ => ?_))
     all_goals (conv => whnf)
     exact AEqI.mk (AEq.nilEvT _)
   | some p1 =>
     obtain ⟨m1,k1⟩ := p1
     have l1 := numF_le g1
     rw [← n1] at l1
     have e1 := number_ok (n := (b.length - (u + 2) - k0)) ((b.drop (u + 2)).drop k0) g1 (IsB.drop hF k0) (by simp; omega)
     have n2 : ((b.length - (u + 2) - k0) - k1) = (((b.drop (u + 2)).drop k0).drop k1).length := by simp; omega
     cases g2 : numF (((b.drop (u + 2)).drop k0).drop k1) with
     | none =>
       have e2 := number_no (n := ((b.length - (u + 2) - k0) - k1)) (((b.drop (u + 2)).drop k0).drop k1) g2 (IsB.drop (IsB.drop hF k0) k1) (by simp; omega)
       have hr : rdC (b.drop (u + 2)) = (⟨m0,m1,0,0,0⟩,false) := by unfold rdC; simp only [g0,g1,g2]
       rw [hr]
       dsimp only [Rc.av,Rc.cs]
       refine aspec_of lay_ok 618648465007196520843245 Try.func30 rfl rfl rfl ?_
       repeat' ((conv => whnf); first | refine K1.a ?_ | refine K1.b ?_ | refine K1.c ?_ | refine K1.d ?_ | refine K1.e ?_ | refine K1.f ?_ | refine ACall.plain _ _ (hs) (SubL.cons (.eq _) .nil) rfl ?_ | refine ACall.plain _ _ (shape_clk _ hk) (SubL.cons (.eq _) .nil) rfl ?_ | refine ACall.plain _ _ (e0) (SubL.cons (.eq _) .nil) rfl ?_ | refine ACall.plain _ _ (e1) (SubL.cons (.eq _) .nil) rfl ?_ | refine ACall.plain _ _ (e2) (SubL.cons (.eq _) .nil) rfl ?_ | refine ALoop.unr 72 6 rfl ?_ | refine ARet.hdI ?_ | refine Spl.mk (fun _ => ?_) (fun _ => ?_) | refine SNil.mk (fun _ => ?_) ?_ | refine K1.g ?_ | refine ASl.frz ?_ | refine Wr.b64 ?_ | refine Wr.bu64 ?_ | refine Wr.bu32 ?_ | refine Wr.bu8 ?_ | refine K1.u8 ?_ | refine K1.u64 ?_ | refine K1.u32 ?_ | refine K1.h ?_ | refine K1.i ?_ | refine K1.q ?_ | refine ADraw.sched (id := 4) lay_ok (awp_snd lay_ok _) [(0,none),(1,none),(2,none),(3,none),(4,none),(5,none),(6,none),(7,none),(8,none),(9,none),(10,none),(11,none),(12,some []),(13,some [10,9,7,4,3])] [(4,[3]),(8,[7]),(9,[7]),(10,[9,7]),(11,[10,9,7,4,3]),(12,[]),(13,[10,9,7,4,3])] follows_ok (by kernel_rfl) ?_ | refine K1.j ?_ | refine K1.k ?_ | refine BSpl.dec (fun _ => ?_) (fun _ => ?_) | refine K1.l ?_ | refine K1.n ?_ | refine BSpl.mk (fun _ => ?_) (fun _ => ?_))
       all_goals (conv => whnf)
       exact AEqI.mk (AEq.nilEvT _)
     | some p2 =>
       obtain ⟨m2,k2⟩ := p2
       have l2 := numF_le g2
       rw [← n2] at l2
       have e2 := number_ok (n := ((b.length - (u + 2) - k0) - k1)) (((b.drop (u + 2)).drop k0).drop k1) g2 (IsB.drop (IsB.drop hF k0) k1) (by simp; omega)
       have n3 : (((b.length - (u + 2) - k0) - k1) - k2) = ((((b.drop (u + 2)).drop k0).drop k1).drop k2).length := by simp; omega
       cases g3 : numF ((((b.drop (u + 2)).drop k0).drop k1).drop k2) with
       | none =>
         have e3 := number_no (n := (((b.length - (u + 2) - k0) - k1) - k2)) ((((b.drop (u + 2)).drop k0).drop k1).drop k2) g3 (IsB.drop (IsB.drop (IsB.drop hF k0) k1) k2) (by simp; omega)
         have hr : rdC (b.drop (u + 2)) = (⟨m0,m1,m2,0,0⟩,false) := by unfold rdC; simp only [g0,g1,g2,g3]
         rw [hr]
         dsimp only [Rc.av,Rc.cs]
         refine aspec_of lay_ok 618648465007196520843245 Try.func30 rfl rfl rfl ?_
         repeat' ((conv => whnf); first | refine K1.a ?_ | refine K1.b ?_ | refine K1.c ?_ | refine K1.d ?_ | refine K1.e ?_ | refine K1.f ?_ | refine ACall.plain _ _ (hs) (SubL.cons (.eq _) .nil) rfl ?_ | refine ACall.plain _ _ (shape_clk _ hk) (SubL.cons (.eq _) .nil) rfl ?_ | refine ACall.plain _ _ (e0) (SubL.cons (.eq _) .nil) rfl ?_ | refine ACall.plain _ _ (e1) (SubL.cons (.eq _) .nil) rfl ?_ | refine ACall.plain _ _ (e2) (SubL.cons (.eq _) .nil) rfl ?_ | refine ACall.plain _ _ (e3) (SubL.cons (.eq _) .nil) rfl ?_ | refine ALoop.unr 72 6 rfl ?_ | refine ARet.hdI ?_ | refine Spl.mk (fun _ => ?_) (fun _ => ?_) | refine SNil.mk (fun _ => ?_) ?_ | refine K1.g ?_ | refine ASl.frz ?_ | refine Wr.b64 ?_ | refine Wr.bu64 ?_ | refine Wr.bu32 ?_ | refine Wr.bu8 ?_ | refine K1.u8 ?_ | refine K1.u64 ?_ | refine K1.u32 ?_ | refine K1.h ?_ | refine K1.i ?_ | refine K1.q ?_ | refine ADraw.sched (id := 4) lay_ok (awp_snd lay_ok _) [(0,none),(1,none),(2,none),(3,none),(4,none),(5,none),(6,none),(7,none),(8,none),(9,none),(10,none),(11,none),(12,some []),(13,some [10,9,7,4,3])] [(4,[3]),(8,[7]),(9,[7]),(10,[9,7]),(11,[10,9,7,4,3]),(12,[]),(13,[10,9,7,4,3])] follows_ok (by kernel_rfl) ?_ | refine K1.j ?_ | refine K1.k ?_ | refine BSpl.dec (fun _ => ?_) (fun _ => ?_) | refine K1.l ?_ | refine K1.n ?_ | refine BSpl.mk (fun _ => ?_) (fun _ => ?_))
         all_goals (conv => whnf)
         exact AEqI.mk (AEq.nilEvT _)
       | some p3 =>
         obtain ⟨m3,k3⟩ := p3
         have l3 := numF_le g3
         rw [← n3] at l3
         have e3 := number_ok (n := (((b.length - (u + 2) - k0) - k1) - k2)) ((((b.drop (u + 2)).drop k0).drop k1).drop k2) g3 (IsB.drop (IsB.drop (IsB.drop hF k0) k1) k2) (by simp; omega)
         have n4 : ((((b.length - (u + 2) - k0) - k1) - k2) - k3) = (((((b.drop (u + 2)).drop k0).drop k1).drop k2).drop k3).length := by simp; omega
         cases g4 : numF (((((b.drop (u + 2)).drop k0).drop k1).drop k2).drop k3) with
         | none =>
           have e4 := number_no (n := ((((b.length - (u + 2) - k0) - k1) - k2) - k3)) (((((b.drop (u + 2)).drop k0).drop k1).drop k2).drop k3) g4 (IsB.drop (IsB.drop (IsB.drop (IsB.drop hF k0) k1) k2) k3) (by simp; omega)
           have hr : rdC (b.drop (u + 2)) = (⟨m0,m1,m2,m3,0⟩,false) := by unfold rdC; simp only [g0,g1,g2,g3,g4]
           rw [hr]
           dsimp only [Rc.av,Rc.cs]
           refine aspec_of lay_ok 618648465007196520843245 Try.func30 rfl rfl rfl ?_
           repeat' ((conv => whnf); first | refine K1.a ?_ | refine K1.b ?_ | refine K1.c ?_ | refine K1.d ?_ | refine K1.e ?_ | refine K1.f ?_ | refine ACall.plain _ _ (hs) (SubL.cons (.eq _) .nil) rfl ?_ | refine ACall.plain _ _ (shape_clk _ hk) (SubL.cons (.eq _) .nil) rfl ?_ | refine ACall.plain _ _ (e0) (SubL.cons (.eq _) .nil) rfl ?_ | refine ACall.plain _ _ (e1) (SubL.cons (.eq _) .nil) rfl ?_ | refine ACall.plain _ _ (e2) (SubL.cons (.eq _) .nil) rfl ?_ | refine ACall.plain _ _ (e3) (SubL.cons (.eq _) .nil) rfl ?_ | refine ACall.plain _ _ (e4) (SubL.cons (.eq _) .nil) rfl ?_ | refine ALoop.unr 72 6 rfl ?_ | refine ARet.hdI ?_ | refine Spl.mk (fun _ => ?_) (fun _ => ?_) | refine SNil.mk (fun _ => ?_) ?_ | refine K1.g ?_ | refine ASl.frz ?_ | refine Wr.b64 ?_ | refine Wr.bu64 ?_ | refine Wr.bu32 ?_ | refine Wr.bu8 ?_ | refine K1.u8 ?_ | refine K1.u64 ?_ | refine K1.u32 ?_ | refine K1.h ?_ | refine K1.i ?_ | refine K1.q ?_ | refine ADraw.sched (id := 4) lay_ok (awp_snd lay_ok _) [(0,none),(1,none),(2,none),(3,none),(4,none),(5,none),(6,none),(7,none),(8,none),(9,none),(10,none),(11,none),(12,some []),(13,some [10,9,7,4,3])] [(4,[3]),(8,[7]),(9,[7]),(10,[9,7]),(11,[10,9,7,4,3]),(12,[]),(13,[10,9,7,4,3])] follows_ok (by kernel_rfl) ?_ | refine K1.j ?_ | refine K1.k ?_ | refine BSpl.dec (fun _ => ?_) (fun _ => ?_) | refine K1.l ?_ | refine K1.n ?_ | refine BSpl.mk (fun _ => ?_) (fun _ => ?_))
           all_goals (conv => whnf)
           exact AEqI.mk (AEq.nilEvT _)
         | some p4 =>
           obtain ⟨m4,k4⟩ := p4
           have l4 := numF_le g4
           rw [← n4] at l4
           have e4 := number_ok (n := ((((b.length - (u + 2) - k0) - k1) - k2) - k3)) (((((b.drop (u + 2)).drop k0).drop k1).drop k2).drop k3) g4 (IsB.drop (IsB.drop (IsB.drop (IsB.drop hF k0) k1) k2) k3) (by simp; omega)
           have hr : rdC (b.drop (u + 2)) = (⟨m0,m1,m2,m3,m4⟩,true) := by unfold rdC; simp only [g0,g1,g2,g3,g4]
           rw [hr]
           dsimp only [Rc.av,Rc.cs]
           refine aspec_of lay_ok 618648465007196520843245 Try.func30 rfl rfl rfl ?_
           repeat' ((conv => whnf); first | refine K1.a ?_ | refine K1.b ?_ | refine K1.c ?_ | refine K1.d ?_ | refine K1.e ?_ | refine K1.f ?_ | refine ACall.plain _ _ (hs) (SubL.cons (.eq _) .nil) rfl ?_ | refine ACall.plain _ _ (shape_clk _ hk) (SubL.cons (.eq _) .nil) rfl ?_ | refine ACall.plain _ _ (e0) (SubL.cons (.eq _) .nil) rfl ?_ | refine ACall.plain _ _ (e1) (SubL.cons (.eq _) .nil) rfl ?_ | refine ACall.plain _ _ (e2) (SubL.cons (.eq _) .nil) rfl ?_ | refine ACall.plain _ _ (e3) (SubL.cons (.eq _) .nil) rfl ?_ | refine ACall.plain _ _ (e4) (SubL.cons (.eq _) .nil) rfl ?_ | refine ALoop.unr 72 6 rfl ?_ | refine ARet.hdI ?_ | refine Spl.mk (fun _ => ?_) (fun _ => ?_) | refine SNil.mk (fun _ => ?_) ?_ | refine K1.g ?_ | refine ASl.frz ?_ | refine Wr.b64 ?_ | refine Wr.bu64 ?_ | refine Wr.bu32 ?_ | refine Wr.bu8 ?_ | refine K1.u8 ?_ | refine K1.u64 ?_ | refine K1.u32 ?_ | refine K1.h ?_ | refine K1.i ?_ | refine K1.q ?_ | refine ADraw.sched (id := 4) lay_ok (awp_snd lay_ok _) [(0,none),(1,none),(2,none),(3,none),(4,none),(5,none),(6,none),(7,none),(8,none),(9,none),(10,none),(11,none),(12,some []),(13,some [10,9,7,4,3])] [(4,[3]),(8,[7]),(9,[7]),(10,[9,7]),(11,[10,9,7,4,3]),(12,[]),(13,[10,9,7,4,3])] follows_ok (by kernel_rfl) ?_ | refine K1.j ?_ | refine K1.k ?_ | refine BSpl.dec (fun _ => ?_) (fun _ => ?_) | refine K1.l ?_ | refine K1.n ?_ | refine BSpl.mk (fun _ => ?_) (fun _ => ?_))
           all_goals (conv => whnf)
           exact AEqI.mk (AEq.nilEvT _)
theorem read_e (b : List UInt8) (hl : b.length ≤ 1000000000) : ASpec Try.prog 30 [.sl 1 b.length true (bytesF b)] (.tup [(readF b).1.av, .v (.bool (readF b).2)]) [] := by
 by_cases h : (vtake b).2.2 ≠ 0 ∨ b.length < (vtake b).2.1 + 2
 · exact read_no b hl h
 · obtain ⟨⟨v,u,e⟩,hv⟩ : ∃ p,vtake b = p := ⟨_,rfl⟩
   rw [hv] at h
   dsimp only at h
   obtain rfl : e = 0 := by omega
   have hu : u + 2 ≤ b.length := by omega
   by_cases h1 : ((b.getD u default).toNat : Int) = 1 ∨ ((b.getD u default).toNat : Int) = 4
   · exact read_ev b hl hv hu h1
   · by_cases h2 : ((b.getD u default).toNat : Int) = 2
     · exact read_up b hl hv hu h2
     · by_cases h3 : ((b.getD u default).toNat : Int) = 3 ∨ ((b.getD u default).toNat : Int) = 5
       · exact read_clk b hl hv hu h3
       · exact read_none b hl hv hu ⟨h1,h2,h3⟩
theorem read_spec {n : Nat} {F : Nat → List AV} (b : List UInt8) (hF : IsB F b) (hn : n = b.length) (hl : b.length ≤ 1000000000) : ASpec Try.prog 30 [.sl 1 n true F] (.tup [(readF b).1.av, .v (.bool (readF b).2)]) [] :=
 (read_e b hl).args (Ch.isB hF hn .nil)
end Go.Proofs.Ytmldeejaghflnaa

/-
 The document's example of a frame; the maker of frames that may be (kithref07.Fit).
-/
namespace Go.Proofs.Ytmldeejaghflnaa
open Go.RowKit
def exFr : Rc := ⟨2,2,300,clk0,[]⟩
def pushE (r : Int) (e : Ev) : Ev := ⟨r,e.n,(e.c.put e.r 0).put r (e.n - 1),e.h,e.k,e.key,e.l,e.v⟩
def fitF (x : Rc) : Rc :=
 if 1 + m5 x.k = 2 then ⟨2,m5 x.r,andI x.u 1048575,clk0,[]⟩
 else if 1 + m5 x.k = 3 ∨ 1 + m5 x.k = 5 then ⟨1 + m5 x.k,m5 x.r,0,fitC x.c,[]⟩
 else if 1 + m5 x.k = 1 ∧ x.ev.length ≠ 0 then ⟨1,m5 x.r,0,clk0,(x.ev.take 20).map fun e => pushE (m5 x.r) (fitE e)⟩
 else ⟨4,m5 x.r,0,clk0,(x.ev.take 20).map fitE⟩
end Go.Proofs.Ytmldeejaghflnaa

/-
 What Fit makes may be; the statement FrameFields,walked.
-/
namespace Go.Proofs.Ytmldeejaghflnaa
open Go.RowKit
set_option maxRecDepth 100000 in
theorem takeBig_spec {n : Nat} {F : Nat → List AV} (h : 2048 < n) : ASpec Try.prog 15 [.sl 1 n true F] (.tup [.agg (rcCs 0 0 0 0 0 0 0 0 (.v (.slice none 0 0))), .v (.int .i64 5)]) [] := by
 refine aspec_of lay_ok 2199158000125 Try.func15 rfl rfl rfl ?_
 repeat' ((conv => whnf); first | refine K1.a ?_ | refine K1.b ?_ | refine K1.c ?_ | refine K1.d ?_ | refine K1.e ?_ | refine K1.f ?_ | refine ARet.hdI ?_ | refine Spl.mk (fun _ => ?_) (fun _ => ?_) | refine SNil.mk (fun _ => ?_) ?_ | refine K1.g ?_ | refine ASl.frz ?_ | refine Wr.b64 ?_ | refine Wr.bu64 ?_ | refine Wr.bu32 ?_ | refine Wr.bu8 ?_ | refine K1.u8 ?_ | refine K1.u64 ?_ | refine K1.u32 ?_ | refine K1.h ?_ | refine K1.i ?_ | refine K1.q ?_ | refine K1.j ?_ | refine K1.k ?_ | refine BSpl.dec (fun _ => ?_) (fun _ => ?_) | refine K1.l ?_ | refine K1.n ?_ | refine BSpl.mk (fun _ => ?_) (fun _ => ?_))
 conv => whnf
 exact AEqI.mk (AEq.refl _)
end Go.Proofs.Ytmldeejaghflnaa

/-
 What frame.Take tells of any bytes.
-/
namespace Go.Proofs.Ytmldeejaghflnaa
open Go.RowKit
theorem evsF_len {b : List UInt8} {l : List Ev} (h : evsF b = some l) : l.length ≤ 255 := by
 rcases b with _ | ⟨c,t⟩
 · cases h
 · have h : (evsAt t c.toNat).map (·.1) = some l := h
   cases h0 : evsAt t c.toNat with
   | none => rw [h0] at h; cases h
   | some p =>
     obtain ⟨l0,r0⟩ := p
     rw [h0] at h
     simp only [Option.map_some,Option.some.injEq] at h
     subst h
     have := (evsAt_len h0).1
     have := UInt8.toNat_lt c
     omega
theorem readF_len (b : List UInt8) : (readF b).1.ev.length ≤ 255 := by
 unfold readF
 split
 · simp [rc0]
 · unfold rdB
   split
   · split
     · simp
     · rename_i l h
       exact evsF_len h
   · split
     · split <;> simp
     · split <;> simp
set_option maxHeartbeats 4000000 in
set_option maxRecDepth 100000 in
theorem frTake_e (l : List UInt8) (hl : l.length ≤ 2048) : ASpec Try.prog 15 [.sl 1 l.length true (bytesF l)] (.tup [(takeF l).1.av, .v (.int .i64 (takeF l).2)]) [] := by
 unfold takeF
 rw [if_neg (by omega)]
 by_cases ho : okSeal l
 · rw [if_pos ho]
   have hF : IsB (bytesF l) (sealB (inner l)) := by rw [← ok_inner ho]; exact IsB.bytes l
   have hil : (inner l).length ≤ l.length := by unfold inner; rw [List.length_take]; omega
   have hop := (open_spec 0 (inner l) hF (by rw [← ok_inner ho]) (by omega)).thaw
   have hrd := read_spec (inner l) (IsB.bytes _) rfl (by omega)
   have hrl := readF_len (inner l)
   generalize inner l = m at hop hrd hrl
   obtain ⟨⟨z,ok⟩,hz⟩ : ∃ p,readF m = p := ⟨_,rfl⟩
   rw [hz] at hrd hrl ⊢
   dsimp only at hrd hrl ⊢
   cases ok with
   | false =>
     rw [if_neg (by simp)]
     refine aspec_of lay_ok 2199158000125 Try.func15 rfl rfl rfl ?_
     repeat' ((conv => whnf); first | refine K1.a ?_ | refine K1.b ?_ | refine K1.c ?_ | refine K1.d ?_ | refine K1.e ?_ | refine K1.f ?_ | refine ACall.plain _ _ (hop) (SubL.cons (.eq _) .nil) rfl ?_ | refine ACall.plain _ _ (hrd) (SubL.cons (.eq _) .nil) rfl ?_ | refine ARet.hdI ?_ | refine Spl.mk (fun _ => ?_) (fun _ => ?_) | refine SNil.mk (fun _ => ?_) ?_ | refine K1.g ?_ | refine ASl.frz ?_ | refine Wr.b64 ?_ | refine Wr.bu64 ?_ | refine Wr.bu32 ?_ | refine Wr.bu8 ?_ | refine K1.u8 ?_ | refine K1.u64 ?_ | refine K1.u32 ?_ | refine K1.h ?_ | refine K1.i ?_ | refine K1.q ?_ | refine K1.j ?_ | refine K1.k ?_ | refine BSpl.dec (fun _ => ?_) (fun _ => ?_) | refine K1.l ?_ | refine K1.n ?_ | refine BSpl.mk (fun _ => ?_) (fun _ => ?_))
     all_goals (conv => whnf)
     all_goals exact AEqI.mk (AEq.nilEvT _)
   | true =>
     cases hm : mayF z with
     | false =>
       rw [if_neg (by simp)]
       have hp := frPut_no z (by omega) hm
       refine aspec_of lay_ok 2199158000125 Try.func15 rfl rfl rfl ?_
       repeat' ((conv => whnf); first | refine K1.a ?_ | refine K1.b ?_ | refine K1.c ?_ | refine K1.d ?_ | refine K1.e ?_ | refine K1.f ?_ | refine ACall.plain _ _ (hop) (SubL.cons (.eq _) .nil) rfl ?_ | refine ACall.plain _ _ (hrd) (SubL.cons (.eq _) .nil) rfl ?_ | refine ACall.plain _ _ (hp) (SubL.cons (.eq _) .nil) rfl ?_ | refine ARet.hdI ?_ | refine Spl.mk (fun _ => ?_) (fun _ => ?_) | refine SNil.mk (fun _ => ?_) ?_ | refine K1.g ?_ | refine ASl.frz ?_ | refine Wr.b64 ?_ | refine Wr.bu64 ?_ | refine Wr.bu32 ?_ | refine Wr.bu8 ?_ | refine K1.u8 ?_ | refine K1.u64 ?_ | refine K1.u32 ?_ | refine K1.h ?_ | refine K1.i ?_ | refine K1.q ?_ | refine K1.j ?_ | refine K1.k ?_ | refine BSpl.dec (fun _ => ?_) (fun _ => ?_) | refine K1.l ?_ | refine K1.n ?_ | refine BSpl.mk (fun _ => ?_) (fun _ => ?_))
       all_goals (conv => whnf)
       all_goals exact AEqI.mk (AEq.nilEvT _)
     | true =>
       have hp := (frPut_yes 0 z hm).thaw
       have he := equal_spec (frBytes z) l (IsB.bytes _) rfl (IsB.bytes _) rfl
       by_cases hb : frBytes z = l
       · rw [if_pos ⟨rfl,rfl,hb⟩]
         rw [decide_eq_true hb] at he
         generalize frBytes z = w at hp he
         refine aspec_of lay_ok 2199158000125 Try.func15 rfl rfl rfl ?_
         repeat' ((conv => whnf); first | refine K1.a ?_ | refine K1.b ?_ | refine K1.c ?_ | refine K1.d ?_ | refine K1.e ?_ | refine K1.f ?_ | refine ACall.plain _ _ (hop) (SubL.cons (.eq _) .nil) rfl ?_ | refine ACall.plain _ _ (hrd) (SubL.cons (.eq _) .nil) rfl ?_ | refine ACall.plain _ _ (hp) (SubL.cons (.eq _) .nil) rfl ?_ | refine ACall.plain _ _ (he) (SubL.cons (.eq _) (SubL.cons (.eq _) .nil)) rfl ?_ | refine ARet.hdI ?_ | refine Spl.mk (fun _ => ?_) (fun _ => ?_) | refine SNil.mk (fun _ => ?_) ?_ | refine K1.g ?_ | refine ASl.frz ?_ | refine Wr.b64 ?_ | refine Wr.bu64 ?_ | refine Wr.bu32 ?_ | refine Wr.bu8 ?_ | refine K1.u8 ?_ | refine K1.u64 ?_ | refine K1.u32 ?_ | refine K1.h ?_ | refine K1.i ?_ | refine K1.q ?_ | refine K1.j ?_ | refine K1.k ?_ | refine BSpl.dec (fun _ => ?_) (fun _ => ?_) | refine K1.l ?_ | refine K1.n ?_ | refine BSpl.mk (fun _ => ?_) (fun _ => ?_))
         all_goals (conv => whnf)
         all_goals exact AEqI.mk (AEq.refl _)
       · rw [if_neg (fun h => hb h.2.2)]
         rw [decide_eq_false hb] at he
         generalize frBytes z = w at hp he
         refine aspec_of lay_ok 2199158000125 Try.func15 rfl rfl rfl ?_
         repeat' ((conv => whnf); first | refine K1.a ?_ | refine K1.b ?_ | refine K1.c ?_ | refine K1.d ?_ | refine K1.e ?_ | refine K1.f ?_ | refine ACall.plain _ _ (hop) (SubL.cons (.eq _) .nil) rfl ?_ | refine ACall.plain _ _ (hrd) (SubL.cons (.eq _) .nil) rfl ?_ | refine ACall.plain _ _ (hp) (SubL.cons (.eq _) .nil) rfl ?_ | refine ACall.plain _ _ (he) (SubL.cons (.eq _) (SubL.cons (.eq _) .nil)) rfl ?_ | refine ARet.hdI ?_ | refine Spl.mk (fun _ => ?_) (fun _ => ?_) | refine SNil.mk (fun _ => ?_) ?_ | refine K1.g ?_ | refine ASl.frz ?_ | refine Wr.b64 ?_ | refine Wr.bu64 ?_ | refine Wr.bu32 ?_ | refine Wr.bu8 ?_ | refine K1.u8 ?_ | refine K1.u64 ?_ | refine K1.u32 ?_ | refine K1.h ?_ | refine K1.i ?_ | refine K1.q ?_ | refine K1.j ?_ | refine K1.k ?_ | refine BSpl.dec (fun _ => ?_) (fun _ => ?_) | refine K1.l ?_ | refine K1.n ?_ | refine BSpl.mk (fun _ => ?_) (fun _ => ?_))
         all_goals (conv => whnf)
         all_goals exact AEqI.mk (AEq.nilEvT _)
 · rw [if_neg ho]
   have hop := open_no l ho (IsB.bytes _) rfl (by omega)
   refine aspec_of lay_ok 2199158000125 Try.func15 rfl rfl rfl ?_
   repeat' ((conv => whnf); first | refine K1.a ?_ | refine K1.b ?_ | refine K1.c ?_ | refine K1.d ?_ | refine K1.e ?_ | refine K1.f ?_ | refine ACall.plain _ _ (hop) (SubL.cons (.eq _) .nil) rfl ?_ | refine ARet.hdI ?_ | refine Spl.mk (fun _ => ?_) (fun _ => ?_) | refine SNil.mk (fun _ => ?_) ?_ | refine K1.g ?_ | refine ASl.frz ?_ | refine Wr.b64 ?_ | refine Wr.bu64 ?_ | refine Wr.bu32 ?_ | refine Wr.bu8 ?_ | refine K1.u8 ?_ | refine K1.u64 ?_ | refine K1.u32 ?_ | refine K1.h ?_ | refine K1.i ?_ | refine K1.q ?_ | refine K1.j ?_ | refine K1.k ?_ | refine BSpl.dec (fun _ => ?_) (fun _ => ?_) | refine K1.l ?_ | refine K1.n ?_ | refine BSpl.mk (fun _ => ?_) (fun _ => ?_))
   all_goals (conv => whnf)
   all_goals exact AEqI.mk (AEq.nilEvT _)
theorem frTake_any {n : Nat} {F : Nat → List AV} (l : List UInt8) {z : Rc} {x : Int} (ht : takeF l = (z,x)) (hF : IsB F l) (hn : n = l.length) :
  ASpec Try.prog 15 [.sl 1 n true F] (.tup [z.av, .v (.int .i64 x)]) [] := by
 rcases Nat.lt_or_ge 2048 l.length with h | h
 · unfold takeF at ht
   rw [if_pos h] at ht
   simp only [Prod.mk.injEq] at ht
   obtain ⟨rfl,rfl⟩ := ht
   exact (takeBig_spec (n := n) (F := F) (by omega)).res (AEq.nilEvT _)
 · have := frTake_e l h
   rw [ht] at this
   exact this.args (Ch.isB hF hn .nil)
end Go.Proofs.Ytmldeejaghflnaa

/-
 Drawn regions that act,without a schedule: all orders step by step (ADraw.cutI,AAnyI).
-/
namespace Go.Proofs.Ytmldeejaghflnaa
open Go.RowKit
section
variable {P : Program} {L : Lay} {N : Nat} {st : AS}
structure AAnyI (P : Program) (L : Lay) (W : Walk) (N : Nat) (n : Nat) (ops : List Oper) (Q : AS → Prop) (f : Nat) (done : List Nat) (st : AS) : Prop where
 mk ::
 h : aAny P L W N n ops Q f done st
section
variable {W : Walk} {n : Nat} {ops : List Oper} {Q : AS → Prop} {f : Nat} {done : List Nat}
theorem AAnyI.eq : AAnyI P L W N n ops Q f done = aAny P L W N n ops Q f done := funext fun _ => propext ⟨fun k => k.h, .mk⟩
theorem AAnyI.fin (h1 : rdyFrom n done 0 ops = []) (h : Q st) : AAnyI P L W N n ops Q f done st := .mk (by
 cases f with
 | zero => simp only [aAny,h1]; exact h
 | succ f => simp only [aAny,h1]; exact h)
theorem AAnyI.pick (j : Nat) (o : Oper) (h2 : pickB L N st ops done (rdyFrom n done 0 ops) = some j) (h3 : ops[j]? = some o) (h : aStep P L W N ops o st (AAnyI P L W N n ops Q f (j :: done))) : AAnyI P L W N n ops Q (f + 1) done st := .mk (by
 rw [AAnyI.eq] at h
 cases h1 : rdyFrom n done 0 ops with
 | nil => rw [h1] at h2; cases h2
 | cons i r =>
   rw [h1] at h2
   simp only [aAny,h1,h2,h3]
   exact h)
theorem AAnyI.one (i : Nat) (o : Oper) (h1 : rdyFrom n done 0 ops = [i]) (h2 : pickB L N st ops done [i] = none) (h3 : ops[i]? = some o) (h : aStep P L W N ops o st (AAnyI P L W N n ops Q f (i :: done))) : AAnyI P L W N n ops Q (f + 1) done st := .mk (by
 rw [AAnyI.eq] at h
 simp only [aAny,h1,h2,allR,h3]
 exact h)
theorem AAnyI.fork (i j : Nat) (o p : Oper) (h1 : rdyFrom n done 0 ops = [i,j]) (h2 : pickB L N st ops done [i,j] = none) (h3 : ops[i]? = some o) (h4 : ops[j]? = some p)
  (h : aStep P L W N ops o st (AAnyI P L W N n ops Q f (i :: done))) (k : aStep P L W N ops p st (AAnyI P L W N n ops Q f (j :: done))) : AAnyI P L W N n ops Q (f + 1) done st := .mk (by
 rw [AAnyI.eq] at h k
 simp only [aAny,h1,h2,allR,h3,h4]
 exact ⟨h,k⟩)
theorem AAnyI.fork3 (i j q : Nat) (o p r : Oper) (h1 : rdyFrom n done 0 ops = [i,j,q]) (h2 : pickB L N st ops done [i,j,q] = none) (h3 : ops[i]? = some o) (h4 : ops[j]? = some p) (h5 : ops[q]? = some r)
  (h : aStep P L W N ops o st (AAnyI P L W N n ops Q f (i :: done))) (k : aStep P L W N ops p st (AAnyI P L W N n ops Q f (j :: done))) (m : aStep P L W N ops r st (AAnyI P L W N n ops Q f (q :: done))) : AAnyI P L W N n ops Q (f + 1) done st := .mk (by
 rw [AAnyI.eq] at h k m
 simp only [aAny,h1,h2,allR,h3,h4,h5]
 exact ⟨h,k,m⟩)
end
end
end Go.Proofs.Ytmldeejaghflnaa

/-
 Drawn regions that act and make objects: all orders,what is known behind them told under other names.
-/
namespace Go.Proofs.Ytmldeejaghflnaa
open Go.RowKit
section
variable {P : Program} {L : Lay} {N : Nat} {st : AS}
theorem ADraw.cutR (lv : Nat) (hL : LayOk P L) {W : Walk} (hW : WOk P W) {id : Nat} {ops : Array Oper} {K : AS → Prop} (S : AS) (hm : P.follows .mixedOrders = true) (hs : Region.noSelect ops = true) (m : Nat) (l : List Oper) (hm' : ops.toList.length = m) (hl : ops.toList = l)
  (h : AAnyI P L W N m l (fun st' => nrm lv st' (fun s => ∃ σ,LeR σ s S)) m [] st) (hK : K S) : ADraw P L W N id ops K st := by
 subst hm' hl
 have go : ∀ {g : Base} {bs : List (Array Value)} {ρ : Nat → Value} {a : Act} {w : World} {st' : AS},nrm lv st' (fun s => ∃ σ,LeR σ s S) → Rel g N bs ρ a w st' → ∃ ρ',Rel g N bs ρ' a w S := fun h R => by
  rw [nrm_eq] at h
  obtain ⟨σ,h⟩ := h
  exact (R.keepSl lv).lessR h
 have := ADraw.any (P := P) (L := L) (N := N) (id := id) hL hW hm hs h.h
 cases this with
 | quiet hm hB hq h =>
   refine .sem fun g bs ρ a w E R hE => ?_
   refine wp_region_quiet (C := fun w' => w' = w.drew) hm hB rfl ?_
   have R' : Rel g N bs ρ a w.drew st := R.world (Below.refl _ _).drew
   exact awpQ_snd hL (E := fun a w => E .normal a w) (ops := ops.toList) (fun a w1 st R h => (go h R).elim fun _ R' => hE _ _ _ _ R' hK) ops.toList hq R' h
 | sem h => exact .sem fun g bs ρ a w E R hE => h g bs ρ a w E R fun ρ a w st R h => (go h R).elim fun _ R' => hE _ _ _ _ R' hK
end
end Go.Proofs.Ytmldeejaghflnaa
