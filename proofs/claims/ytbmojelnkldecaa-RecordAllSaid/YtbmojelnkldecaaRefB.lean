/-
  What the references of layers 6 and 18 let be and put.
-/
import Derived.Test.YtbmojelnkldecaaRefA
import Derived.Test.YtbmojelnkldecaaRecF
namespace Go.Proofs.Ytbmojelnkldecaa
open Go.RowKit

set_option maxHeartbeats 2000000 in
set_option maxRecDepth 100000 in
theorem rmay_spec (e : Ev) : ASpec Try.prog 81 [e.av] (.v (.int .i64 (mayE e))) [] := by
  obtain ⟨r, n, ⟨c0, c1, c2, c3, c4⟩, h, k, key, l, v⟩ := e
  dsimp only [Ev.av, Ev.cs]
  by_cases hr : 0 ≤ r ∧ r ≤ 4
  · rcases (show r = 0 ∨ r = 1 ∨ r = 2 ∨ r = 3 ∨ r = 4 by omega) with rfl | rfl | rfl | rfl | rfl
    all_goals
      refine aspec_of lay_ok 1104880336911 Try.func81 rfl rfl rfl ?_
      repeat' ((conv => whnf); first | refine Spl.yes (by first | assumption | omega) ?_ | refine Spl.no (by first | assumption | omega) ?_ | refine Wr.i64 (by omega) (by omega) ?_ | refine Still.mk rfl rfl ?_ | refine InB.mk (inB_mk (by omega) (by omega)) ?_ | refine Req.mk (by omega) ?_ | refine Req.mk ⟨by first | omega | (dsimp only; omega), by first | omega | (dsimp only; omega)⟩ ?_ | refine ACall.plain _ _ (rin_spec _ _ _) (SubL.cons (.eq _) (SubL.cons (.eq _) (SubL.cons (.eq _) .nil))) rfl ?_ | refine ACall.plain _ _ (redt_spec ⟨_, n, ⟨c0, c1, c2, c3, c4⟩, h, k, key, l, v⟩) (SubL.cons (.eq _) .nil) rfl ?_ | refine ACall.plain _ _ (redit_spec ⟨k, key, l, v⟩) (SubL.cons (.eq _) .nil) rfl ?_ | refine ALoop.unr 3 6 rfl ?_ | refine Spl.mk (fun _ => ?_) (fun _ => ?_) | refine Wr.b64 ?_ | refine Wr.bu64 ?_ | refine Wr.bu32 ?_ | refine Wr.bu8 ?_ | refine Wr.u8 (by omega) (by omega) ?_ | refine Wr.u64 (by omega) (by omega) ?_ | refine Wr.u32 (by omega) (by omega) ?_ | refine Dv.pos (by omega) (by omega) ?_ | refine Rm.pos (by omega) (by omega) ?_ | refine ADraw.quiet follows_ok (by kernel_rfl) rfl ?_ | refine ADraw.sched (id := 1) lay_ok (awp_snd lay_ok _) [(0, none), (1, none), (2, some [1]), (3, none), (4, none), (5, none), (6, none), (7, some [1, 6]), (8, none), (9, none), (10, none), (11, none), (12, none), (13, some [1, 6, 12]), (14, none), (15, none), (16, none), (17, none), (18, none), (19, none), (20, none), (21, none), (22, none), (23, none), (24, none), (25, none), (26, none)] [(2, [1]), (3, [1]), (4, [1]), (5, [1]), (6, [1]), (7, [1, 6]), (8, [1, 6]), (9, [1, 6]), (10, [1, 6]), (11, [1, 6]), (12, [1, 6]), (13, [1, 6, 12]), (14, [1, 6, 12]), (15, [1, 6, 12]), (16, [1, 6, 12]), (17, [1, 6, 12]), (18, [1, 6, 12]), (19, [1, 6, 12]), (20, [1, 6, 12]), (21, [1, 6, 12]), (22, [1, 6, 12]), (23, [1, 6, 12]), (24, [1, 6, 12]), (25, [1, 6, 12]), (26, [1, 6, 12])] follows_ok (by kernel_rfl) ?_ | refine BSpl.decY (by first | assumption | omega) ?_ | refine BSpl.decN (by first | assumption | omega) ?_ | refine BSpl.dec (fun _ => ?_) (fun _ => ?_) | refine BSpl.yes (by assumption) ?_ | refine BSpl.no (by assumption) ?_ | refine BSpl.mk (fun _ => ?_) (fun _ => ?_))
      all_goals refine ARet.int rfl ?_
      all_goals first | (simp [mayE, okN, withinB, Clk.get, Ev.ed, *]; done) | (simp [mayE, okN, withinB, Clk.get, Ev.ed, *]; omega)
  · refine aspec_of lay_ok 1104880336911 Try.func81 rfl rfl rfl ?_
    repeat' ((conv => whnf); first | refine Spl.yes (by first | assumption | omega) ?_ | refine Spl.no (by first | assumption | omega) ?_ | refine Wr.i64 (by omega) (by omega) ?_ | refine Still.mk rfl rfl ?_ | refine InB.mk (inB_mk (by omega) (by omega)) ?_ | refine Req.mk (by omega) ?_ | refine Req.mk ⟨by first | omega | (dsimp only; omega), by first | omega | (dsimp only; omega)⟩ ?_ | refine ACall.plain _ _ (rin_spec _ _ _) (SubL.cons (.eq _) (SubL.cons (.eq _) (SubL.cons (.eq _) .nil))) rfl ?_ | refine ACall.plain _ _ (redt_spec ⟨r, n, ⟨c0, c1, c2, c3, c4⟩, h, k, key, l, v⟩) (SubL.cons (.eq _) .nil) rfl ?_ | refine ACall.plain _ _ (redit_spec ⟨k, key, l, v⟩) (SubL.cons (.eq _) .nil) rfl ?_ | refine ALoop.unr 3 6 rfl ?_ | refine Spl.mk (fun _ => ?_) (fun _ => ?_) | refine Wr.b64 ?_ | refine Wr.bu64 ?_ | refine Wr.bu32 ?_ | refine Wr.bu8 ?_ | refine Wr.u8 (by omega) (by omega) ?_ | refine Wr.u64 (by omega) (by omega) ?_ | refine Wr.u32 (by omega) (by omega) ?_ | refine Dv.pos (by omega) (by omega) ?_ | refine Rm.pos (by omega) (by omega) ?_ | refine ADraw.quiet follows_ok (by kernel_rfl) rfl ?_ | refine ADraw.sched (id := 1) lay_ok (awp_snd lay_ok _) [(0, none), (1, none), (2, some [1]), (3, none), (4, none), (5, none), (6, none), (7, some [1, 6]), (8, none), (9, none), (10, none), (11, none), (12, none), (13, some [1, 6, 12]), (14, none), (15, none), (16, none), (17, none), (18, none), (19, none), (20, none), (21, none), (22, none), (23, none), (24, none), (25, none), (26, none)] [(2, [1]), (3, [1]), (4, [1]), (5, [1]), (6, [1]), (7, [1, 6]), (8, [1, 6]), (9, [1, 6]), (10, [1, 6]), (11, [1, 6]), (12, [1, 6]), (13, [1, 6, 12]), (14, [1, 6, 12]), (15, [1, 6, 12]), (16, [1, 6, 12]), (17, [1, 6, 12]), (18, [1, 6, 12]), (19, [1, 6, 12]), (20, [1, 6, 12]), (21, [1, 6, 12]), (22, [1, 6, 12]), (23, [1, 6, 12]), (24, [1, 6, 12]), (25, [1, 6, 12]), (26, [1, 6, 12])] follows_ok (by kernel_rfl) ?_ | refine BSpl.decY (by first | assumption | omega) ?_ | refine BSpl.decN (by first | assumption | omega) ?_ | refine BSpl.dec (fun _ => ?_) (fun _ => ?_) | refine BSpl.yes (by assumption) ?_ | refine BSpl.no (by assumption) ?_ | refine BSpl.mk (fun _ => ?_) (fun _ => ?_))
    all_goals refine ARet.int rfl ?_
    all_goals (simp [mayE, withinB]; omega)

theorem rput_no (e : Ev) (h : mayE e ≠ 0) : ASpec Try.prog 60 [e.av] (.tup [.v (.slice none 0 0), .v (.int .i64 (mayE e))]) [] := by
  have hm := rmay_spec e
  obtain ⟨r, n, ⟨c0, c1, c2, c3, c4⟩, hh, k, key, l, v⟩ := e
  dsimp only [Ev.av, Ev.cs] at hm ⊢
  refine aspec_of lay_ok 576460756665500799 Try.func60 rfl rfl rfl ?_
  repeat' ((conv => whnf); first | refine Spl.yes (by first | assumption | omega) ?_ | refine Spl.no (by first | assumption | omega) ?_ | refine Wr.i64 (by omega) (by omega) ?_ | refine Still.mk rfl rfl ?_ | refine InB.mk (inB_mk (by omega) (by omega)) ?_ | refine Req.mk (by omega) ?_ | refine Req.mk ⟨by first | omega | (dsimp only; omega), by first | omega | (dsimp only; omega)⟩ ?_ | refine ACall.plain _ _ (hm) (SubL.cons (.eq _) .nil) rfl ?_ | refine Spl.mk (fun _ => ?_) (fun _ => ?_) | refine Wr.b64 ?_ | refine Wr.bu64 ?_ | refine Wr.bu32 ?_ | refine Wr.bu8 ?_ | refine Wr.u8 (by omega) (by omega) ?_ | refine Wr.u64 (by omega) (by omega) ?_ | refine Wr.u32 (by omega) (by omega) ?_ | refine Dv.pos (by omega) (by omega) ?_ | refine Rm.pos (by omega) (by omega) ?_ | refine ADraw.quiet follows_ok (by kernel_rfl) rfl ?_ | refine ADraw.sched (id := 12) lay_ok (awp_snd lay_ok _) [(0, none), (1, none), (2, none), (3, none), (4, none), (7, none), (8, none), (5, some [4, 2]), (6, some [4, 2]), (9, some [4, 2, 8]), (10, none)] [(3, [2]), (4, [2]), (5, [4, 2]), (6, [4, 2]), (9, [4, 2, 8]), (10, [4, 2, 8])] follows_ok (by kernel_rfl) ?_ | refine ADraw.sched (id := 14) lay_ok (awp_snd lay_ok _) [(0, none), (1, none), (2, none), (3, none), (4, none), (5, none), (6, none), (7, none), (10, none), (11, none), (8, some [7, 5, 3, 2]), (9, some [7, 5, 3, 2]), (12, some [7, 5, 3, 2, 11]), (13, none)] [(3, [2]), (6, [5]), (7, [5]), (8, [7, 5, 3, 2]), (9, [7, 5, 3, 2]), (12, [7, 5, 3, 2, 11]), (13, [7, 5, 3, 2, 11])] follows_ok (by kernel_rfl) ?_ | refine BSpl.decY (by first | assumption | omega) ?_ | refine BSpl.decN (by first | assumption | omega) ?_ | refine BSpl.dec (fun _ => ?_) (fun _ => ?_) | refine BSpl.yes (by assumption) ?_ | refine BSpl.no (by assumption) ?_ | refine BSpl.mk (fun _ => ?_) (fun _ => ?_))
  · exact ARet.same rfl

set_option maxHeartbeats 4000000 in
set_option maxRecDepth 100000 in
theorem rput_yes (d : Nat) (e : Ev) (h : mayE e = 0) : ASpec Try.prog 60 [e.av] (.tup [.own d, .v (.int .i64 0)]) [(d, .row 5 1 (evBytes e).length true (bytesF (evBytes e)))] := by
  have m := mayE_zero h
  have g := editE_zero m.ed
  have hm := rmay_spec e
  rw [h] at hm
  obtain ⟨r, n, ⟨c0, c1, c2, c3, c4⟩, hh, k, key, l, v⟩ := e
  obtain ⟨r0, r4, n1, n2, h1, h2, a0, a1, a2, a3, a4, own, ed⟩ := m
  dsimp only [Ev.ed] at r0 r4 n1 n2 h1 h2 a0 a1 a2 a3 a4 g
  obtain ⟨g1, g2, g3, g4, g5, g6, g7⟩ := g
  have g8 : v.size ≤ 12 ∧ 0 ≤ l ∧ l ≤ 1 := by
    cases hl : isLong k with
    | true => have := g6 hl; omega
    | false => have := g7 hl; omega
  have hk : (isLong k = true ∧ 2 < k) ∨ (isLong k = false ∧ k ≤ 2) := by
    unfold isLong
    rcases (show k = 1 ∨ k = 2 ∨ k = 3 ∨ k = 4 ∨ k = 5 by omega) with rfl | rfl | rfl | rfl | rfl <;> decide
  clear own ed g6 g7
  obtain ⟨n, rfl⟩ := Int.eq_ofNat_of_zero_le (show 0 ≤ n by omega)
  obtain ⟨hh, rfl⟩ := Int.eq_ofNat_of_zero_le (show 0 ≤ hh by omega)
  obtain ⟨c0, rfl⟩ := Int.eq_ofNat_of_zero_le a0.1
  obtain ⟨c1, rfl⟩ := Int.eq_ofNat_of_zero_le a1.1
  obtain ⟨c2, rfl⟩ := Int.eq_ofNat_of_zero_le a2.1
  obtain ⟨c3, rfl⟩ := Int.eq_ofNat_of_zero_le a3.1
  obtain ⟨c4, rfl⟩ := Int.eq_ofNat_of_zero_le a4.1
  have q (x : Nat) : (vput x).length ≤ 10 := vputF_le 9 x
  have q0 := q n
  have q1 := q hh
  have q2 := q c0
  have q3 := q c1
  have q4 := q c2
  have q5 := q c3
  have q6 := q c4
  clear q
  dsimp only [Ev.av, Ev.cs] at hm ⊢
  rcases hk with ⟨hl, hk⟩ | ⟨hl, hk⟩
  all_goals
    rcases (show r = 0 ∨ r = 1 ∨ r = 2 ∨ r = 3 ∨ r = 4 by omega) with rfl | rfl | rfl | rfl | rfl
  all_goals
    refine aspec_of lay_ok 576460756665500799 Try.func60 rfl rfl rfl ?_
    repeat' ((conv => whnf); first | refine Spl.yes (by first | assumption | omega) ?_ | refine Spl.no (by first | assumption | omega) ?_ | refine Wr.i64 (by omega) (by omega) ?_ | refine Still.mk rfl rfl ?_ | refine InB.mk (inB_mk (by omega) (by omega)) ?_ | refine Req.mk (by omega) ?_ | refine Req.mk ⟨by first | omega | (dsimp only; omega), by first | omega | (dsimp only; omega)⟩ ?_ | refine ACall.plain _ _ (hm) (SubL.cons (.eq _) .nil) rfl ?_ | refine ACall.fresh _ _ _ _ _ _ _ (rvput_spec _ _ (by omega)) (SubL.cons (.eq _) .nil) rfl ?_ | refine ALoop.unr 6 6 rfl ?_ | refine Spl.mk (fun _ => ?_) (fun _ => ?_) | refine Wr.b64 ?_ | refine Wr.bu64 ?_ | refine Wr.bu32 ?_ | refine Wr.bu8 ?_ | refine Wr.u8 (by omega) (by omega) ?_ | refine Wr.u64 (by omega) (by omega) ?_ | refine Wr.u32 (by omega) (by omega) ?_ | refine Dv.pos (by omega) (by omega) ?_ | refine Rm.pos (by omega) (by omega) ?_ | refine ADraw.quiet follows_ok (by kernel_rfl) rfl ?_ | refine ADraw.sched (id := 12) lay_ok (awp_snd lay_ok _) [(0, none), (1, none), (2, none), (3, none), (4, none), (7, none), (8, none), (5, some [4, 2]), (6, some [4, 2]), (9, some [4, 2, 8]), (10, none)] [(3, [2]), (4, [2]), (5, [4, 2]), (6, [4, 2]), (9, [4, 2, 8]), (10, [4, 2, 8])] follows_ok (by kernel_rfl) ?_ | refine ADraw.sched (id := 14) lay_ok (awp_snd lay_ok _) [(0, none), (1, none), (2, none), (3, none), (4, none), (5, none), (6, none), (7, none), (10, none), (11, none), (8, some [7, 5, 3, 2]), (9, some [7, 5, 3, 2]), (12, some [7, 5, 3, 2, 11]), (13, none)] [(3, [2]), (6, [5]), (7, [5]), (8, [7, 5, 3, 2]), (9, [7, 5, 3, 2]), (12, [7, 5, 3, 2, 11]), (13, [7, 5, 3, 2, 11])] follows_ok (by kernel_rfl) ?_ | refine BSpl.decY (by first | assumption | omega) ?_ | refine BSpl.decN (by first | assumption | omega) ?_ | refine BSpl.dec (fun _ => ?_) (fun _ => ?_) | refine BSpl.yes (by assumption) ?_ | refine BSpl.no (by assumption) ?_ | refine BSpl.mk (fun _ => ?_) (fun _ => ?_))
    all_goals (refine ARet.ownX d rfl rfl ?_ (AEq.refl _); apply OEq.isB)
    all_goals (try (repeat' (first | exact IsB.bytes _ | exact IsB.str _ | exact IsB.one (by omega) (by omega) | exact IsB.two (by omega) (by omega) (by omega) (by omega) | apply IsB.app)))
    all_goals first
      | (simp only [List.length_append, List.length_cons, List.length_nil, str_len]; try omega; done)
      | (simp [evBytes, others, words, vputI, byteOf, byteOf', *]; done)
end Go.Proofs.Ytbmojelnkldecaa
