/-
  What frame.read tells of any bytes.
-/
import Derived.Test.YtbmojelnkldecaaFrLaw
namespace Go.Proofs.Ytbmojelnkldecaa
open Go.RowKit

theorem AEq.nilEvT {a1 a2 a3 a4 a5 a6 a7 a8 b : AV} (f : Nat → List AV) : AEq (.tup [.agg [a1, a2, a3, a4, a5, a6, a7, a8, .v (.slice none 0 0)], b]) (.tup [.agg [a1, a2, a3, a4, a5, a6, a7, a8, .sl 12 0 true f], b]) := by
  rintro X u ⟨us, e, ha⟩
  exact ⟨us, e, ha.hd fun u hu => C1.nilEv hu⟩

theorem shape_ev (k : Int) (h : k = 1 ∨ k = 4) : ASpec Try.prog 57 [.v (.int .i64 k)] (.tup [.agg [.v (.bool true), .v (.bool false), .v (.bool false)], .v (.bool true)]) [] := by
  have := shape_spec k
  rcases h with rfl | rfl <;> exact this
theorem shape_up (k : Int) (h : k = 2) : ASpec Try.prog 57 [.v (.int .i64 k)] (.tup [.agg [.v (.bool false), .v (.bool true), .v (.bool false)], .v (.bool true)]) [] := by
  have := shape_spec k
  rcases h with rfl
  exact this
theorem shape_clk (k : Int) (h : k = 3 ∨ k = 5) : ASpec Try.prog 57 [.v (.int .i64 k)] (.tup [.agg [.v (.bool false), .v (.bool false), .v (.bool true)], .v (.bool true)]) [] := by
  have := shape_spec k
  rcases h with rfl | rfl <;> exact this

set_option maxHeartbeats 4000000 in
set_option maxRecDepth 100000 in
theorem read_no (b : List UInt8) (hl : b.length ≤ 1000000000) (h : (vtake b).2.2 ≠ 0 ∨ b.length < (vtake b).2.1 + 2) : ASpec Try.prog 63 [.sl 1 b.length true (bytesF b)] (.tup [(readF b).1.av, .v (.bool (readF b).2)]) [] := by
  have hs := vtake_spec b (IsB.bytes b) rfl
  have hle := vtake_le b
  rw [show readF b = (rc0, false) by unfold readF; rw [if_pos h]]
  obtain ⟨⟨v, u, e⟩, hv⟩ : ∃ p, vtake b = p := ⟨_, rfl⟩
  rw [hv] at hs h hle
  dsimp only at hs h hle
  refine aspec_of lay_ok 618648465007196520843245 Try.func63 rfl rfl rfl ?_
  repeat' ((conv => whnf); first | refine Spl.yes (by first | assumption | omega) ?_ | refine Spl.no (by first | assumption | omega) ?_ | refine Wr.i64 (by omega) (by omega) ?_ | refine Still.mk rfl rfl ?_ | refine InB.mk (inB_mk (by omega) (by omega)) ?_ | refine Req.mk (by omega) ?_ | refine Req.mk ⟨by first | omega | (dsimp only; omega), by first | omega | (dsimp only; omega)⟩ ?_ | refine ACall.plain _ _ (hs) (SubL.cons (.eq _) .nil) rfl ?_ | refine ARet.hdI ?_ | refine Spl.mk (fun _ => ?_) (fun _ => ?_) | refine Wr.b64 ?_ | refine Wr.bu64 ?_ | refine Wr.bu32 ?_ | refine Wr.bu8 ?_ | refine Wr.u8 (by omega) (by omega) ?_ | refine Wr.u64 (by omega) (by omega) ?_ | refine Wr.u32 (by omega) (by omega) ?_ | refine Dv.pos (by omega) (by omega) ?_ | refine Rm.pos (by omega) (by omega) ?_ | refine ADraw.quiet follows_ok (by kernel_rfl) rfl ?_ | refine ADraw.sched (id := 4) lay_ok (awp_snd lay_ok _) [(0, none), (1, none), (2, none), (3, none), (4, none), (5, none), (6, none), (7, none), (8, none), (9, none), (10, none), (11, none), (12, some []), (13, some [10, 9, 7, 4, 3])] [(4, [3]), (8, [7]), (9, [7]), (10, [9, 7]), (11, [10, 9, 7, 4, 3]), (12, []), (13, [10, 9, 7, 4, 3])] follows_ok (by kernel_rfl) ?_ | refine BSpl.decY (by first | assumption | omega) ?_ | refine BSpl.decN (by first | assumption | omega) ?_ | refine BSpl.dec (fun _ => ?_) (fun _ => ?_) | refine BSpl.yes (by assumption) ?_ | refine BSpl.no (by assumption) ?_ | refine BSpl.mk (fun _ => ?_) (fun _ => ?_))
  all_goals (conv => whnf)
  all_goals first
    | exact AEqI.mk (AEq.nilEvT _)
    | (exfalso; omega)

set_option maxHeartbeats 4000000 in
set_option maxRecDepth 100000 in
theorem read_ev (b : List UInt8) (hl : b.length ≤ 1000000000) {v u : Nat} (hv : vtake b = (v, u, 0)) (hu : u + 2 ≤ b.length) (hk : ((b.getD u default).toNat : Int) = 1 ∨ ((b.getD u default).toNat : Int) = 4) :
    ASpec Try.prog 63 [.sl 1 b.length true (bytesF b)] (.tup [(readF b).1.av, .v (.bool (readF b).2)]) [] := by
  have hs := vtake_spec b (IsB.bytes b) rfl
  rw [hv] at hs
  dsimp only at hs
  have hr : readF b = rdB ((b.getD u default).toNat : Int) ((b.getD (u + 1) default).toNat : Int) (b.drop (u + 2)) := by
    unfold readF
    rw [hv, if_neg (by dsimp only; omega)]
  rw [hr]
  unfold rdB
  rw [if_pos hk]
  have he := events_spec (n := b.length - (u + 2)) (b.drop (u + 2)) (IsB.drop (IsB.bytes b) (u + 2)) (by simp) (by simp; omega)
  cases hE : evsF (b.drop (u + 2)) with
  | none =>
    rw [hE] at he
    dsimp only [evsR] at he
    dsimp only [Rc.av, Rc.cs]
    refine aspec_of lay_ok 618648465007196520843245 Try.func63 rfl rfl rfl ?_
    repeat' ((conv => whnf); first | refine Spl.yes (by first | assumption | omega) ?_ | refine Spl.no (by first | assumption | omega) ?_ | refine Wr.i64 (by omega) (by omega) ?_ | refine Still.mk rfl rfl ?_ | refine InB.mk (inB_mk (by omega) (by omega)) ?_ | refine Req.mk (by omega) ?_ | refine Req.mk ⟨by first | omega | (dsimp only; omega), by first | omega | (dsimp only; omega)⟩ ?_ | refine ACall.plain _ _ (hs) (SubL.cons (.eq _) .nil) rfl ?_ | refine ACall.plain _ _ (shape_ev _ hk) (SubL.cons (.eq _) .nil) rfl ?_ | refine ACall.plain _ _ (he) (SubL.cons (.eq _) .nil) rfl ?_ | refine ALoop.unr 72 6 rfl ?_ | refine ARet.hdI ?_ | refine Spl.mk (fun _ => ?_) (fun _ => ?_) | refine Wr.b64 ?_ | refine Wr.bu64 ?_ | refine Wr.bu32 ?_ | refine Wr.bu8 ?_ | refine Wr.u8 (by omega) (by omega) ?_ | refine Wr.u64 (by omega) (by omega) ?_ | refine Wr.u32 (by omega) (by omega) ?_ | refine Dv.pos (by omega) (by omega) ?_ | refine Rm.pos (by omega) (by omega) ?_ | refine ADraw.quiet follows_ok (by kernel_rfl) rfl ?_ | refine ADraw.sched (id := 4) lay_ok (awp_snd lay_ok _) [(0, none), (1, none), (2, none), (3, none), (4, none), (5, none), (6, none), (7, none), (8, none), (9, none), (10, none), (11, none), (12, some []), (13, some [10, 9, 7, 4, 3])] [(4, [3]), (8, [7]), (9, [7]), (10, [9, 7]), (11, [10, 9, 7, 4, 3]), (12, []), (13, [10, 9, 7, 4, 3])] follows_ok (by kernel_rfl) ?_ | refine BSpl.decY (by first | assumption | omega) ?_ | refine BSpl.decN (by first | assumption | omega) ?_ | refine BSpl.dec (fun _ => ?_) (fun _ => ?_) | refine BSpl.yes (by assumption) ?_ | refine BSpl.no (by assumption) ?_ | refine BSpl.mk (fun _ => ?_) (fun _ => ?_))
    all_goals (conv => whnf)
    exact AEqI.mk (AEq.nilEvT _)
  | some l =>
    rw [hE] at he
    dsimp only [evsR] at he
    dsimp only [Rc.av, Rc.cs]
    refine aspec_of lay_ok 618648465007196520843245 Try.func63 rfl rfl rfl ?_
    repeat' ((conv => whnf); first | refine Spl.yes (by first | assumption | omega) ?_ | refine Spl.no (by first | assumption | omega) ?_ | refine Wr.i64 (by omega) (by omega) ?_ | refine Still.mk rfl rfl ?_ | refine InB.mk (inB_mk (by omega) (by omega)) ?_ | refine Req.mk (by omega) ?_ | refine Req.mk ⟨by first | omega | (dsimp only; omega), by first | omega | (dsimp only; omega)⟩ ?_ | refine ACall.plain _ _ (hs) (SubL.cons (.eq _) .nil) rfl ?_ | refine ACall.plain _ _ (shape_ev _ hk) (SubL.cons (.eq _) .nil) rfl ?_ | refine ACall.plain _ _ (he) (SubL.cons (.eq _) .nil) rfl ?_ | refine ALoop.unr 72 6 rfl ?_ | refine ARet.hdI ?_ | refine Spl.mk (fun _ => ?_) (fun _ => ?_) | refine Wr.b64 ?_ | refine Wr.bu64 ?_ | refine Wr.bu32 ?_ | refine Wr.bu8 ?_ | refine Wr.u8 (by omega) (by omega) ?_ | refine Wr.u64 (by omega) (by omega) ?_ | refine Wr.u32 (by omega) (by omega) ?_ | refine Dv.pos (by omega) (by omega) ?_ | refine Rm.pos (by omega) (by omega) ?_ | refine ADraw.quiet follows_ok (by kernel_rfl) rfl ?_ | refine ADraw.sched (id := 4) lay_ok (awp_snd lay_ok _) [(0, none), (1, none), (2, none), (3, none), (4, none), (5, none), (6, none), (7, none), (8, none), (9, none), (10, none), (11, none), (12, some []), (13, some [10, 9, 7, 4, 3])] [(4, [3]), (8, [7]), (9, [7]), (10, [9, 7]), (11, [10, 9, 7, 4, 3]), (12, []), (13, [10, 9, 7, 4, 3])] follows_ok (by kernel_rfl) ?_ | refine BSpl.decY (by first | assumption | omega) ?_ | refine BSpl.decN (by first | assumption | omega) ?_ | refine BSpl.dec (fun _ => ?_) (fun _ => ?_) | refine BSpl.yes (by assumption) ?_ | refine BSpl.no (by assumption) ?_ | refine BSpl.mk (fun _ => ?_) (fun _ => ?_))
    all_goals (conv => whnf)
    exact AEqI.mk (AEq.refl _)

theorem readF_eq {b : List UInt8} {v u : Nat} (hv : vtake b = (v, u, 0)) (hu : u + 2 ≤ b.length) : readF b = rdB ((b.getD u default).toNat : Int) ((b.getD (u + 1) default).toNat : Int) (b.drop (u + 2)) := by
  unfold readF
  rw [hv, if_neg (by dsimp only; omega)]
theorem numF_le {b : List UInt8} {m k : Nat} (h : numF b = some (m, k)) : k ≤ b.length ∧ m ≤ 1048576 := by
  have hle := vtake_le b
  unfold numF at h
  split at h
  · rename_i h0
    simp only [Option.some.injEq, Prod.mk.injEq] at h
    omega
  · cases h

set_option maxHeartbeats 4000000 in
set_option maxRecDepth 100000 in
theorem read_up (b : List UInt8) (hl : b.length ≤ 1000000000) {v u : Nat} (hv : vtake b = (v, u, 0)) (hu : u + 2 ≤ b.length) (hk : ((b.getD u default).toNat : Int) = 2) :
    ASpec Try.prog 63 [.sl 1 b.length true (bytesF b)] (.tup [(readF b).1.av, .v (.bool (readF b).2)]) [] := by
  have hs := vtake_spec b (IsB.bytes b) rfl
  rw [hv] at hs
  dsimp only at hs
  rw [readF_eq hv hu]
  unfold rdB
  rw [if_neg (by omega), if_pos hk]
  cases hE : numF (b.drop (u + 2)) with
  | none =>
    have he := number_no (n := b.length - (u + 2)) (b.drop (u + 2)) hE (IsB.drop (IsB.bytes b) (u + 2)) (by simp)
    dsimp only [Rc.av, Rc.cs]
    refine aspec_of lay_ok 618648465007196520843245 Try.func63 rfl rfl rfl ?_
    repeat' ((conv => whnf); first | refine Spl.yes (by first | assumption | omega) ?_ | refine Spl.no (by first | assumption | omega) ?_ | refine Wr.i64 (by omega) (by omega) ?_ | refine Still.mk rfl rfl ?_ | refine InB.mk (inB_mk (by omega) (by omega)) ?_ | refine Req.mk (by omega) ?_ | refine Req.mk ⟨by first | omega | (dsimp only; omega), by first | omega | (dsimp only; omega)⟩ ?_ | refine ACall.plain _ _ (hs) (SubL.cons (.eq _) .nil) rfl ?_ | refine ACall.plain _ _ (shape_up _ hk) (SubL.cons (.eq _) .nil) rfl ?_ | refine ACall.plain _ _ (he) (SubL.cons (.eq _) .nil) rfl ?_ | refine ALoop.unr 72 6 rfl ?_ | refine ARet.hdI ?_ | refine Spl.mk (fun _ => ?_) (fun _ => ?_) | refine Wr.b64 ?_ | refine Wr.bu64 ?_ | refine Wr.bu32 ?_ | refine Wr.bu8 ?_ | refine Wr.u8 (by omega) (by omega) ?_ | refine Wr.u64 (by omega) (by omega) ?_ | refine Wr.u32 (by omega) (by omega) ?_ | refine Dv.pos (by omega) (by omega) ?_ | refine Rm.pos (by omega) (by omega) ?_ | refine ADraw.quiet follows_ok (by kernel_rfl) rfl ?_ | refine ADraw.sched (id := 4) lay_ok (awp_snd lay_ok _) [(0, none), (1, none), (2, none), (3, none), (4, none), (5, none), (6, none), (7, none), (8, none), (9, none), (10, none), (11, none), (12, some []), (13, some [10, 9, 7, 4, 3])] [(4, [3]), (8, [7]), (9, [7]), (10, [9, 7]), (11, [10, 9, 7, 4, 3]), (12, []), (13, [10, 9, 7, 4, 3])] follows_ok (by kernel_rfl) ?_ | refine BSpl.decY (by first | assumption | omega) ?_ | refine BSpl.decN (by first | assumption | omega) ?_ | refine BSpl.dec (fun _ => ?_) (fun _ => ?_) | refine BSpl.yes (by assumption) ?_ | refine BSpl.no (by assumption) ?_ | refine BSpl.mk (fun _ => ?_) (fun _ => ?_))
    all_goals (conv => whnf)
    exact AEqI.mk (AEq.nilEvT _)
  | some p =>
    obtain ⟨m, k⟩ := p
    have he := number_ok (n := b.length - (u + 2)) (b.drop (u + 2)) hE (IsB.drop (IsB.bytes b) (u + 2)) (by simp)
    dsimp only [Rc.av, Rc.cs]
    refine aspec_of lay_ok 618648465007196520843245 Try.func63 rfl rfl rfl ?_
    repeat' ((conv => whnf); first | refine Spl.yes (by first | assumption | omega) ?_ | refine Spl.no (by first | assumption | omega) ?_ | refine Wr.i64 (by omega) (by omega) ?_ | refine Still.mk rfl rfl ?_ | refine InB.mk (inB_mk (by omega) (by omega)) ?_ | refine Req.mk (by omega) ?_ | refine Req.mk ⟨by first | omega | (dsimp only; omega), by first | omega | (dsimp only; omega)⟩ ?_ | refine ACall.plain _ _ (hs) (SubL.cons (.eq _) .nil) rfl ?_ | refine ACall.plain _ _ (shape_up _ hk) (SubL.cons (.eq _) .nil) rfl ?_ | refine ACall.plain _ _ (he) (SubL.cons (.eq _) .nil) rfl ?_ | refine ALoop.unr 72 6 rfl ?_ | refine ARet.hdI ?_ | refine Spl.mk (fun _ => ?_) (fun _ => ?_) | refine Wr.b64 ?_ | refine Wr.bu64 ?_ | refine Wr.bu32 ?_ | refine Wr.bu8 ?_ | refine Wr.u8 (by omega) (by omega) ?_ | refine Wr.u64 (by omega) (by omega) ?_ | refine Wr.u32 (by omega) (by omega) ?_ | refine Dv.pos (by omega) (by omega) ?_ | refine Rm.pos (by omega) (by omega) ?_ | refine ADraw.quiet follows_ok (by kernel_rfl) rfl ?_ | refine ADraw.sched (id := 4) lay_ok (awp_snd lay_ok _) [(0, none), (1, none), (2, none), (3, none), (4, none), (5, none), (6, none), (7, none), (8, none), (9, none), (10, none), (11, none), (12, some []), (13, some [10, 9, 7, 4, 3])] [(4, [3]), (8, [7]), (9, [7]), (10, [9, 7]), (11, [10, 9, 7, 4, 3]), (12, []), (13, [10, 9, 7, 4, 3])] follows_ok (by kernel_rfl) ?_ | refine BSpl.decY (by first | assumption | omega) ?_ | refine BSpl.decN (by first | assumption | omega) ?_ | refine BSpl.dec (fun _ => ?_) (fun _ => ?_) | refine BSpl.yes (by assumption) ?_ | refine BSpl.no (by assumption) ?_ | refine BSpl.mk (fun _ => ?_) (fun _ => ?_))
    all_goals (conv => whnf)
    exact AEqI.mk (AEq.nilEvT _)

theorem shK_no {k : Int} (h : ¬ (k = 1 ∨ k = 4) ∧ ¬ k = 2 ∧ ¬ (k = 3 ∨ k = 5)) : ¬ (1 ≤ k ∧ k ≤ 5) := by omega
set_option maxHeartbeats 4000000 in
set_option maxRecDepth 100000 in
theorem read_none (b : List UInt8) (hl : b.length ≤ 1000000000) {v u : Nat} (hv : vtake b = (v, u, 0)) (hu : u + 2 ≤ b.length) (hk : ¬ (((b.getD u default).toNat : Int) = 1 ∨ ((b.getD u default).toNat : Int) = 4) ∧ ¬ ((b.getD u default).toNat : Int) = 2 ∧ ¬ (((b.getD u default).toNat : Int) = 3 ∨ ((b.getD u default).toNat : Int) = 5)) :
    ASpec Try.prog 63 [.sl 1 b.length true (bytesF b)] (.tup [(readF b).1.av, .v (.bool (readF b).2)]) [] := by
  have hs := vtake_spec b (IsB.bytes b) rfl
  rw [hv] at hs
  dsimp only at hs
  rw [readF_eq hv hu]
  unfold rdB
  rw [if_neg hk.1, if_neg hk.2.1, if_neg hk.2.2]
  have hk5 := shK_no hk
  dsimp only [Rc.av, Rc.cs]
  refine aspec_of lay_ok 618648465007196520843245 Try.func63 rfl rfl rfl ?_
  repeat' ((conv => whnf); first | refine Spl.yes (by first | assumption | omega) ?_ | refine Spl.no (by first | assumption | omega) ?_ | refine Wr.i64 (by omega) (by omega) ?_ | refine Still.mk rfl rfl ?_ | refine InB.mk (inB_mk (by omega) (by omega)) ?_ | refine Req.mk (by omega) ?_ | refine Req.mk ⟨by first | omega | (dsimp only; omega), by first | omega | (dsimp only; omega)⟩ ?_ | refine ACall.plain _ _ (hs) (SubL.cons (.eq _) .nil) rfl ?_ | refine ACall.plain _ _ (shape_no _ hk5) (SubL.cons (.eq _) .nil) rfl ?_ | refine ALoop.unr 72 6 rfl ?_ | refine ARet.hdI ?_ | refine Spl.mk (fun _ => ?_) (fun _ => ?_) | refine Wr.b64 ?_ | refine Wr.bu64 ?_ | refine Wr.bu32 ?_ | refine Wr.bu8 ?_ | refine Wr.u8 (by omega) (by omega) ?_ | refine Wr.u64 (by omega) (by omega) ?_ | refine Wr.u32 (by omega) (by omega) ?_ | refine Dv.pos (by omega) (by omega) ?_ | refine Rm.pos (by omega) (by omega) ?_ | refine ADraw.quiet follows_ok (by kernel_rfl) rfl ?_ | refine ADraw.sched (id := 4) lay_ok (awp_snd lay_ok _) [(0, none), (1, none), (2, none), (3, none), (4, none), (5, none), (6, none), (7, none), (8, none), (9, none), (10, none), (11, none), (12, some []), (13, some [10, 9, 7, 4, 3])] [(4, [3]), (8, [7]), (9, [7]), (10, [9, 7]), (11, [10, 9, 7, 4, 3]), (12, []), (13, [10, 9, 7, 4, 3])] follows_ok (by kernel_rfl) ?_ | refine BSpl.decY (by first | assumption | omega) ?_ | refine BSpl.decN (by first | assumption | omega) ?_ | refine BSpl.dec (fun _ => ?_) (fun _ => ?_) | refine BSpl.yes (by assumption) ?_ | refine BSpl.no (by assumption) ?_ | refine BSpl.mk (fun _ => ?_) (fun _ => ?_))
  all_goals (conv => whnf)
  exact AEqI.mk (AEq.nilEvT _)

set_option maxHeartbeats 8000000 in
set_option maxRecDepth 100000 in
theorem read_clk (b : List UInt8) (hl : b.length ≤ 1000000000) {v u : Nat} (hv : vtake b = (v, u, 0)) (hu : u + 2 ≤ b.length) (hk : ((b.getD u default).toNat : Int) = 3 ∨ ((b.getD u default).toNat : Int) = 5) :
    ASpec Try.prog 63 [.sl 1 b.length true (bytesF b)] (.tup [(readF b).1.av, .v (.bool (readF b).2)]) [] := by
  have hs := vtake_spec b (IsB.bytes b) rfl
  rw [hv] at hs
  dsimp only at hs
  rw [readF_eq hv hu]
  unfold rdB
  rw [if_neg (by omega), if_neg (by omega), if_pos hk]
  have hF := IsB.drop (IsB.bytes b) (u + 2)
  have hn : b.length - (u + 2) = (b.drop (u + 2)).length := by simp
  cases g0 : numF (b.drop (u + 2)) with
  | none =>
    have e0 := number_no (n := b.length - (u + 2)) (b.drop (u + 2)) g0 hF hn
    have hr : rdC (b.drop (u + 2)) = (⟨0, 0, 0, 0, 0⟩, false) := by unfold rdC; simp only [g0]
    rw [hr]
    dsimp only [Rc.av, Rc.cs]
    refine aspec_of lay_ok 618648465007196520843245 Try.func63 rfl rfl rfl ?_
    repeat' ((conv => whnf); first | refine Spl.yes (by first | assumption | omega) ?_ | refine Spl.no (by first | assumption | omega) ?_ | refine Wr.i64 (by omega) (by omega) ?_ | refine Still.mk rfl rfl ?_ | refine InB.mk (inB_mk (by omega) (by omega)) ?_ | refine Req.mk (by omega) ?_ | refine Req.mk ⟨by first | omega | (dsimp only; omega), by first | omega | (dsimp only; omega)⟩ ?_ | refine ACall.plain _ _ (hs) (SubL.cons (.eq _) .nil) rfl ?_ | refine ACall.plain _ _ (shape_clk _ hk) (SubL.cons (.eq _) .nil) rfl ?_ | refine ACall.plain _ _ (e0) (SubL.cons (.eq _) .nil) rfl ?_ | refine ALoop.unr 72 6 rfl ?_ | refine ARet.hdI ?_ | refine Spl.mk (fun _ => ?_) (fun _ => ?_) | refine Wr.b64 ?_ | refine Wr.bu64 ?_ | refine Wr.bu32 ?_ | refine Wr.bu8 ?_ | refine Wr.u8 (by omega) (by omega) ?_ | refine Wr.u64 (by omega) (by omega) ?_ | refine Wr.u32 (by omega) (by omega) ?_ | refine Dv.pos (by omega) (by omega) ?_ | refine Rm.pos (by omega) (by omega) ?_ | refine ADraw.quiet follows_ok (by kernel_rfl) rfl ?_ | refine ADraw.sched (id := 4) lay_ok (awp_snd lay_ok _) [(0, none), (1, none), (2, none), (3, none), (4, none), (5, none), (6, none), (7, none), (8, none), (9, none), (10, none), (11, none), (12, some []), (13, some [10, 9, 7, 4, 3])] [(4, [3]), (8, [7]), (9, [7]), (10, [9, 7]), (11, [10, 9, 7, 4, 3]), (12, []), (13, [10, 9, 7, 4, 3])] follows_ok (by kernel_rfl) ?_ | refine BSpl.decY (by first | assumption | omega) ?_ | refine BSpl.decN (by first | assumption | omega) ?_ | refine BSpl.dec (fun _ => ?_) (fun _ => ?_) | refine BSpl.yes (by assumption) ?_ | refine BSpl.no (by assumption) ?_ | refine BSpl.mk (fun _ => ?_) (fun _ => ?_))
    all_goals (conv => whnf)
    exact AEqI.mk (AEq.nilEvT _)
  | some p0 =>
    obtain ⟨m0, k0⟩ := p0
    have l0 := numF_le g0
    rw [← hn] at l0
    have e0 := number_ok (n := b.length - (u + 2)) (b.drop (u + 2)) g0 hF hn
    have n1 : (b.length - (u + 2) - k0) = ((b.drop (u + 2)).drop k0).length := by simp; omega
    cases g1 : numF ((b.drop (u + 2)).drop k0) with
    | none =>
      have e1 := number_no (n := (b.length - (u + 2) - k0)) ((b.drop (u + 2)).drop k0) g1 (IsB.drop hF k0) (by simp; omega)
      have hr : rdC (b.drop (u + 2)) = (⟨m0, 0, 0, 0, 0⟩, false) := by unfold rdC; simp only [g0, g1]
      rw [hr]
      dsimp only [Rc.av, Rc.cs]
      refine aspec_of lay_ok 618648465007196520843245 Try.func63 rfl rfl rfl ?_
      repeat' ((conv => whnf); first | refine Spl.yes (by first | assumption | omega) ?_ | refine Spl.no (by first | assumption | omega) ?_ | refine Wr.i64 (by omega) (by omega) ?_ | refine Still.mk rfl rfl ?_ | refine InB.mk (inB_mk (by omega) (by omega)) ?_ | refine Req.mk (by omega) ?_ | refine Req.mk ⟨by first | omega | (dsimp only; omega), by first | omega | (dsimp only; omega)⟩ ?_ | refine ACall.plain _ _ (hs) (SubL.cons (.eq _) .nil) rfl ?_ | refine ACall.plain _ _ (shape_clk _ hk) (SubL.cons (.eq _) .nil) rfl ?_ | refine ACall.plain _ _ (e0) (SubL.cons (.eq _) .nil) rfl ?_ | refine ACall.plain _ _ (e1) (SubL.cons (.eq _) .nil) rfl ?_ | refine ALoop.unr 72 6 rfl ?_ | refine ARet.hdI ?_ | refine Spl.mk (fun _ => ?_) (fun _ => ?_) | refine Wr.b64 ?_ | refine Wr.bu64 ?_ | refine Wr.bu32 ?_ | refine Wr.bu8 ?_ | refine Wr.u8 (by omega) (by omega) ?_ | refine Wr.u64 (by omega) (by omega) ?_ | refine Wr.u32 (by omega) (by omega) ?_ | refine Dv.pos (by omega) (by omega) ?_ | refine Rm.pos (by omega) (by omega) ?_ | refine ADraw.quiet follows_ok (by kernel_rfl) rfl ?_ | refine ADraw.sched (id := 4) lay_ok (awp_snd lay_ok _) [(0, none), (1, none), (2, none), (3, none), (4, none), (5, none), (6, none), (7, none), (8, none), (9, none), (10, none), (11, none), (12, some []), (13, some [10, 9, 7, 4, 3])] [(4, [3]), (8, [7]), (9, [7]), (10, [9, 7]), (11, [10, 9, 7, 4, 3]), (12, []), (13, [10, 9, 7, 4, 3])] follows_ok (by kernel_rfl) ?_ | refine BSpl.decY (by first | assumption | omega) ?_ | refine BSpl.decN (by first | assumption | omega) ?_ | refine BSpl.dec (fun _ => ?_) (fun _ => ?_) | refine BSpl.yes (by assumption) ?_ | refine BSpl.no (by assumption) ?_ | refine BSpl.mk (fun _ => ?_) (fun _ => ?_))
      all_goals (conv => whnf)
      exact AEqI.mk (AEq.nilEvT _)
    | some p1 =>
      obtain ⟨m1, k1⟩ := p1
      have l1 := numF_le g1
      rw [← n1] at l1
      have e1 := number_ok (n := (b.length - (u + 2) - k0)) ((b.drop (u + 2)).drop k0) g1 (IsB.drop hF k0) (by simp; omega)
      have n2 : ((b.length - (u + 2) - k0) - k1) = (((b.drop (u + 2)).drop k0).drop k1).length := by simp; omega
      cases g2 : numF (((b.drop (u + 2)).drop k0).drop k1) with
      | none =>
        have e2 := number_no (n := ((b.length - (u + 2) - k0) - k1)) (((b.drop (u + 2)).drop k0).drop k1) g2 (IsB.drop (IsB.drop hF k0) k1) (by simp; omega)
        have hr : rdC (b.drop (u + 2)) = (⟨m0, m1, 0, 0, 0⟩, false) := by unfold rdC; simp only [g0, g1, g2]
        rw [hr]
        dsimp only [Rc.av, Rc.cs]
        refine aspec_of lay_ok 618648465007196520843245 Try.func63 rfl rfl rfl ?_
        repeat' ((conv => whnf); first | refine Spl.yes (by first | assumption | omega) ?_ | refine Spl.no (by first | assumption | omega) ?_ | refine Wr.i64 (by omega) (by omega) ?_ | refine Still.mk rfl rfl ?_ | refine InB.mk (inB_mk (by omega) (by omega)) ?_ | refine Req.mk (by omega) ?_ | refine Req.mk ⟨by first | omega | (dsimp only; omega), by first | omega | (dsimp only; omega)⟩ ?_ | refine ACall.plain _ _ (hs) (SubL.cons (.eq _) .nil) rfl ?_ | refine ACall.plain _ _ (shape_clk _ hk) (SubL.cons (.eq _) .nil) rfl ?_ | refine ACall.plain _ _ (e0) (SubL.cons (.eq _) .nil) rfl ?_ | refine ACall.plain _ _ (e1) (SubL.cons (.eq _) .nil) rfl ?_ | refine ACall.plain _ _ (e2) (SubL.cons (.eq _) .nil) rfl ?_ | refine ALoop.unr 72 6 rfl ?_ | refine ARet.hdI ?_ | refine Spl.mk (fun _ => ?_) (fun _ => ?_) | refine Wr.b64 ?_ | refine Wr.bu64 ?_ | refine Wr.bu32 ?_ | refine Wr.bu8 ?_ | refine Wr.u8 (by omega) (by omega) ?_ | refine Wr.u64 (by omega) (by omega) ?_ | refine Wr.u32 (by omega) (by omega) ?_ | refine Dv.pos (by omega) (by omega) ?_ | refine Rm.pos (by omega) (by omega) ?_ | refine ADraw.quiet follows_ok (by kernel_rfl) rfl ?_ | refine ADraw.sched (id := 4) lay_ok (awp_snd lay_ok _) [(0, none), (1, none), (2, none), (3, none), (4, none), (5, none), (6, none), (7, none), (8, none), (9, none), (10, none), (11, none), (12, some []), (13, some [10, 9, 7, 4, 3])] [(4, [3]), (8, [7]), (9, [7]), (10, [9, 7]), (11, [10, 9, 7, 4, 3]), (12, []), (13, [10, 9, 7, 4, 3])] follows_ok (by kernel_rfl) ?_ | refine BSpl.decY (by first | assumption | omega) ?_ | refine BSpl.decN (by first | assumption | omega) ?_ | refine BSpl.dec (fun _ => ?_) (fun _ => ?_) | refine BSpl.yes (by assumption) ?_ | refine BSpl.no (by assumption) ?_ | refine BSpl.mk (fun _ => ?_) (fun _ => ?_))
        all_goals (conv => whnf)
        exact AEqI.mk (AEq.nilEvT _)
      | some p2 =>
        obtain ⟨m2, k2⟩ := p2
        have l2 := numF_le g2
        rw [← n2] at l2
        have e2 := number_ok (n := ((b.length - (u + 2) - k0) - k1)) (((b.drop (u + 2)).drop k0).drop k1) g2 (IsB.drop (IsB.drop hF k0) k1) (by simp; omega)
        have n3 : (((b.length - (u + 2) - k0) - k1) - k2) = ((((b.drop (u + 2)).drop k0).drop k1).drop k2).length := by simp; omega
        cases g3 : numF ((((b.drop (u + 2)).drop k0).drop k1).drop k2) with
        | none =>
          have e3 := number_no (n := (((b.length - (u + 2) - k0) - k1) - k2)) ((((b.drop (u + 2)).drop k0).drop k1).drop k2) g3 (IsB.drop (IsB.drop (IsB.drop hF k0) k1) k2) (by simp; omega)
          have hr : rdC (b.drop (u + 2)) = (⟨m0, m1, m2, 0, 0⟩, false) := by unfold rdC; simp only [g0, g1, g2, g3]
          rw [hr]
          dsimp only [Rc.av, Rc.cs]
          refine aspec_of lay_ok 618648465007196520843245 Try.func63 rfl rfl rfl ?_
          repeat' ((conv => whnf); first | refine Spl.yes (by first | assumption | omega) ?_ | refine Spl.no (by first | assumption | omega) ?_ | refine Wr.i64 (by omega) (by omega) ?_ | refine Still.mk rfl rfl ?_ | refine InB.mk (inB_mk (by omega) (by omega)) ?_ | refine Req.mk (by omega) ?_ | refine Req.mk ⟨by first | omega | (dsimp only; omega), by first | omega | (dsimp only; omega)⟩ ?_ | refine ACall.plain _ _ (hs) (SubL.cons (.eq _) .nil) rfl ?_ | refine ACall.plain _ _ (shape_clk _ hk) (SubL.cons (.eq _) .nil) rfl ?_ | refine ACall.plain _ _ (e0) (SubL.cons (.eq _) .nil) rfl ?_ | refine ACall.plain _ _ (e1) (SubL.cons (.eq _) .nil) rfl ?_ | refine ACall.plain _ _ (e2) (SubL.cons (.eq _) .nil) rfl ?_ | refine ACall.plain _ _ (e3) (SubL.cons (.eq _) .nil) rfl ?_ | refine ALoop.unr 72 6 rfl ?_ | refine ARet.hdI ?_ | refine Spl.mk (fun _ => ?_) (fun _ => ?_) | refine Wr.b64 ?_ | refine Wr.bu64 ?_ | refine Wr.bu32 ?_ | refine Wr.bu8 ?_ | refine Wr.u8 (by omega) (by omega) ?_ | refine Wr.u64 (by omega) (by omega) ?_ | refine Wr.u32 (by omega) (by omega) ?_ | refine Dv.pos (by omega) (by omega) ?_ | refine Rm.pos (by omega) (by omega) ?_ | refine ADraw.quiet follows_ok (by kernel_rfl) rfl ?_ | refine ADraw.sched (id := 4) lay_ok (awp_snd lay_ok _) [(0, none), (1, none), (2, none), (3, none), (4, none), (5, none), (6, none), (7, none), (8, none), (9, none), (10, none), (11, none), (12, some []), (13, some [10, 9, 7, 4, 3])] [(4, [3]), (8, [7]), (9, [7]), (10, [9, 7]), (11, [10, 9, 7, 4, 3]), (12, []), (13, [10, 9, 7, 4, 3])] follows_ok (by kernel_rfl) ?_ | refine BSpl.decY (by first | assumption | omega) ?_ | refine BSpl.decN (by first | assumption | omega) ?_ | refine BSpl.dec (fun _ => ?_) (fun _ => ?_) | refine BSpl.yes (by assumption) ?_ | refine BSpl.no (by assumption) ?_ | refine BSpl.mk (fun _ => ?_) (fun _ => ?_))
          all_goals (conv => whnf)
          exact AEqI.mk (AEq.nilEvT _)
        | some p3 =>
          obtain ⟨m3, k3⟩ := p3
          have l3 := numF_le g3
          rw [← n3] at l3
          have e3 := number_ok (n := (((b.length - (u + 2) - k0) - k1) - k2)) ((((b.drop (u + 2)).drop k0).drop k1).drop k2) g3 (IsB.drop (IsB.drop (IsB.drop hF k0) k1) k2) (by simp; omega)
          have n4 : ((((b.length - (u + 2) - k0) - k1) - k2) - k3) = (((((b.drop (u + 2)).drop k0).drop k1).drop k2).drop k3).length := by simp; omega
          cases g4 : numF (((((b.drop (u + 2)).drop k0).drop k1).drop k2).drop k3) with
          | none =>
            have e4 := number_no (n := ((((b.length - (u + 2) - k0) - k1) - k2) - k3)) (((((b.drop (u + 2)).drop k0).drop k1).drop k2).drop k3) g4 (IsB.drop (IsB.drop (IsB.drop (IsB.drop hF k0) k1) k2) k3) (by simp; omega)
            have hr : rdC (b.drop (u + 2)) = (⟨m0, m1, m2, m3, 0⟩, false) := by unfold rdC; simp only [g0, g1, g2, g3, g4]
            rw [hr]
            dsimp only [Rc.av, Rc.cs]
            refine aspec_of lay_ok 618648465007196520843245 Try.func63 rfl rfl rfl ?_
            repeat' ((conv => whnf); first | refine Spl.yes (by first | assumption | omega) ?_ | refine Spl.no (by first | assumption | omega) ?_ | refine Wr.i64 (by omega) (by omega) ?_ | refine Still.mk rfl rfl ?_ | refine InB.mk (inB_mk (by omega) (by omega)) ?_ | refine Req.mk (by omega) ?_ | refine Req.mk ⟨by first | omega | (dsimp only; omega), by first | omega | (dsimp only; omega)⟩ ?_ | refine ACall.plain _ _ (hs) (SubL.cons (.eq _) .nil) rfl ?_ | refine ACall.plain _ _ (shape_clk _ hk) (SubL.cons (.eq _) .nil) rfl ?_ | refine ACall.plain _ _ (e0) (SubL.cons (.eq _) .nil) rfl ?_ | refine ACall.plain _ _ (e1) (SubL.cons (.eq _) .nil) rfl ?_ | refine ACall.plain _ _ (e2) (SubL.cons (.eq _) .nil) rfl ?_ | refine ACall.plain _ _ (e3) (SubL.cons (.eq _) .nil) rfl ?_ | refine ACall.plain _ _ (e4) (SubL.cons (.eq _) .nil) rfl ?_ | refine ALoop.unr 72 6 rfl ?_ | refine ARet.hdI ?_ | refine Spl.mk (fun _ => ?_) (fun _ => ?_) | refine Wr.b64 ?_ | refine Wr.bu64 ?_ | refine Wr.bu32 ?_ | refine Wr.bu8 ?_ | refine Wr.u8 (by omega) (by omega) ?_ | refine Wr.u64 (by omega) (by omega) ?_ | refine Wr.u32 (by omega) (by omega) ?_ | refine Dv.pos (by omega) (by omega) ?_ | refine Rm.pos (by omega) (by omega) ?_ | refine ADraw.quiet follows_ok (by kernel_rfl) rfl ?_ | refine ADraw.sched (id := 4) lay_ok (awp_snd lay_ok _) [(0, none), (1, none), (2, none), (3, none), (4, none), (5, none), (6, none), (7, none), (8, none), (9, none), (10, none), (11, none), (12, some []), (13, some [10, 9, 7, 4, 3])] [(4, [3]), (8, [7]), (9, [7]), (10, [9, 7]), (11, [10, 9, 7, 4, 3]), (12, []), (13, [10, 9, 7, 4, 3])] follows_ok (by kernel_rfl) ?_ | refine BSpl.decY (by first | assumption | omega) ?_ | refine BSpl.decN (by first | assumption | omega) ?_ | refine BSpl.dec (fun _ => ?_) (fun _ => ?_) | refine BSpl.yes (by assumption) ?_ | refine BSpl.no (by assumption) ?_ | refine BSpl.mk (fun _ => ?_) (fun _ => ?_))
            all_goals (conv => whnf)
            exact AEqI.mk (AEq.nilEvT _)
          | some p4 =>
            obtain ⟨m4, k4⟩ := p4
            have l4 := numF_le g4
            rw [← n4] at l4
            have e4 := number_ok (n := ((((b.length - (u + 2) - k0) - k1) - k2) - k3)) (((((b.drop (u + 2)).drop k0).drop k1).drop k2).drop k3) g4 (IsB.drop (IsB.drop (IsB.drop (IsB.drop hF k0) k1) k2) k3) (by simp; omega)
            have hr : rdC (b.drop (u + 2)) = (⟨m0, m1, m2, m3, m4⟩, true) := by unfold rdC; simp only [g0, g1, g2, g3, g4]
            rw [hr]
            dsimp only [Rc.av, Rc.cs]
            refine aspec_of lay_ok 618648465007196520843245 Try.func63 rfl rfl rfl ?_
            repeat' ((conv => whnf); first | refine Spl.yes (by first | assumption | omega) ?_ | refine Spl.no (by first | assumption | omega) ?_ | refine Wr.i64 (by omega) (by omega) ?_ | refine Still.mk rfl rfl ?_ | refine InB.mk (inB_mk (by omega) (by omega)) ?_ | refine Req.mk (by omega) ?_ | refine Req.mk ⟨by first | omega | (dsimp only; omega), by first | omega | (dsimp only; omega)⟩ ?_ | refine ACall.plain _ _ (hs) (SubL.cons (.eq _) .nil) rfl ?_ | refine ACall.plain _ _ (shape_clk _ hk) (SubL.cons (.eq _) .nil) rfl ?_ | refine ACall.plain _ _ (e0) (SubL.cons (.eq _) .nil) rfl ?_ | refine ACall.plain _ _ (e1) (SubL.cons (.eq _) .nil) rfl ?_ | refine ACall.plain _ _ (e2) (SubL.cons (.eq _) .nil) rfl ?_ | refine ACall.plain _ _ (e3) (SubL.cons (.eq _) .nil) rfl ?_ | refine ACall.plain _ _ (e4) (SubL.cons (.eq _) .nil) rfl ?_ | refine ALoop.unr 72 6 rfl ?_ | refine ARet.hdI ?_ | refine Spl.mk (fun _ => ?_) (fun _ => ?_) | refine Wr.b64 ?_ | refine Wr.bu64 ?_ | refine Wr.bu32 ?_ | refine Wr.bu8 ?_ | refine Wr.u8 (by omega) (by omega) ?_ | refine Wr.u64 (by omega) (by omega) ?_ | refine Wr.u32 (by omega) (by omega) ?_ | refine Dv.pos (by omega) (by omega) ?_ | refine Rm.pos (by omega) (by omega) ?_ | refine ADraw.quiet follows_ok (by kernel_rfl) rfl ?_ | refine ADraw.sched (id := 4) lay_ok (awp_snd lay_ok _) [(0, none), (1, none), (2, none), (3, none), (4, none), (5, none), (6, none), (7, none), (8, none), (9, none), (10, none), (11, none), (12, some []), (13, some [10, 9, 7, 4, 3])] [(4, [3]), (8, [7]), (9, [7]), (10, [9, 7]), (11, [10, 9, 7, 4, 3]), (12, []), (13, [10, 9, 7, 4, 3])] follows_ok (by kernel_rfl) ?_ | refine BSpl.decY (by first | assumption | omega) ?_ | refine BSpl.decN (by first | assumption | omega) ?_ | refine BSpl.dec (fun _ => ?_) (fun _ => ?_) | refine BSpl.yes (by assumption) ?_ | refine BSpl.no (by assumption) ?_ | refine BSpl.mk (fun _ => ?_) (fun _ => ?_))
            all_goals (conv => whnf)
            exact AEqI.mk (AEq.nilEvT _)

theorem read_e (b : List UInt8) (hl : b.length ≤ 1000000000) : ASpec Try.prog 63 [.sl 1 b.length true (bytesF b)] (.tup [(readF b).1.av, .v (.bool (readF b).2)]) [] := by
  by_cases h : (vtake b).2.2 ≠ 0 ∨ b.length < (vtake b).2.1 + 2
  · exact read_no b hl h
  · obtain ⟨⟨v, u, e⟩, hv⟩ : ∃ p, vtake b = p := ⟨_, rfl⟩
    rw [hv] at h
    dsimp only at h
    obtain rfl : e = 0 := by omega
    have hu : u + 2 ≤ b.length := by omega
    by_cases h1 : ((b.getD u default).toNat : Int) = 1 ∨ ((b.getD u default).toNat : Int) = 4
    · exact read_ev b hl hv hu h1
    · by_cases h2 : ((b.getD u default).toNat : Int) = 2
      · exact read_up b hl hv hu h2
      · by_cases h3 : ((b.getD u default).toNat : Int) = 3 ∨ ((b.getD u default).toNat : Int) = 5
        · exact read_clk b hl hv hu h3
        · exact read_none b hl hv hu ⟨h1, h2, h3⟩
theorem read_spec {n : Nat} {F : Nat → List AV} (b : List UInt8) (hF : IsB F b) (hn : n = b.length) (hl : b.length ≤ 1000000000) : ASpec Try.prog 63 [.sl 1 n true F] (.tup [(readF b).1.av, .v (.bool (readF b).2)]) [] :=
  (read_e b hl).args (Ch.isB hF hn .nil)
end Go.Proofs.Ytbmojelnkldecaa
