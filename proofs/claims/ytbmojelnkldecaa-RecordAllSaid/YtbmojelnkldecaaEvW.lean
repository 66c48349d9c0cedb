/-
  What event.Put computes.
-/
import Derived.Test.YtbmojelnkldecaaVin
import Derived.Test.YtbmojelnkldecaaEvM
namespace Go.Proofs.Ytbmojelnkldecaa
open Go.RowKit

theorem put_no_spec (e : Ev) (h : mayE e ≠ 0) : ASpec Try.prog 18 [e.av] (.tup [.v (.slice none 0 0), .v (.int .i64 (mayE e))]) [] := by
  obtain ⟨r, n, ⟨c0, c1, c2, c3, c4⟩, hh, k, key, l, v⟩ := e
  dsimp only [Ev.av, Ev.cs]
  refine aspec_of lay_ok 4503740824429567 Try.func18 rfl rfl rfl ?_
  repeat' ((conv => whnf); first | refine Spl.yes (by first | assumption | omega) ?_ | refine Spl.no (by first | assumption | omega) ?_ | refine Wr.i64 (by omega) (by omega) ?_ | refine Still.mk rfl rfl ?_ | refine InB.mk (inB_mk (by omega) (by omega)) ?_ | refine Req.mk (by omega) ?_ | refine Req.mk ⟨by first | omega | (dsimp only; omega), by first | omega | (dsimp only; omega)⟩ ?_ | refine ACall.plain _ _ (may_spec ⟨r, n, ⟨c0, c1, c2, c3, c4⟩, hh, k, key, l, v⟩) (SubL.cons (.eq _) .nil) rfl ?_ | refine Spl.mk (fun _ => ?_) (fun _ => ?_) | refine Wr.b64 ?_ | refine Wr.bu64 ?_ | refine Wr.bu32 ?_ | refine Wr.bu8 ?_ | refine Wr.u8 (by omega) (by omega) ?_ | refine Wr.u64 (by omega) (by omega) ?_ | refine Wr.u32 (by omega) (by omega) ?_ | refine Dv.pos (by omega) (by omega) ?_ | refine Rm.pos (by omega) (by omega) ?_ | refine ADraw.quiet follows_ok (by kernel_rfl) rfl ?_ | refine BSpl.decY (by first | assumption | omega) ?_ | refine BSpl.decN (by first | assumption | omega) ?_ | refine BSpl.dec (fun _ => ?_) (fun _ => ?_) | refine BSpl.yes (by assumption) ?_ | refine BSpl.no (by assumption) ?_ | refine BSpl.mk (fun _ => ?_) (fun _ => ?_))
  · exact ARet.same rfl

set_option maxHeartbeats 2000000 in
set_option maxRecDepth 100000 in
theorem put_yes_spec (d : Nat) (e : Ev) (h : mayE e = 0) : ASpec Try.prog 18 [e.av] (.tup [.own d, .v (.int .i64 0)]) [(d, .row 5 1 (evBytes e).length true (bytesF (evBytes e)))] := by
  have m := mayE_zero h
  have g := editE_zero m.ed
  obtain ⟨r, n, ⟨c0, c1, c2, c3, c4⟩, hh, k, key, l, v⟩ := e
  obtain ⟨r0, r4, n1, n2, h1, h2, a0, a1, a2, a3, a4, own, ed⟩ := m
  dsimp only [Ev.ed] at r0 r4 n1 n2 h1 h2 a0 a1 a2 a3 a4 g
  obtain ⟨g1, g2, g3, g4, g5, g6, g7⟩ := g
  have g8 : v.size ≤ 12 ∧ 0 ≤ l ∧ l ≤ 1 := by
    cases hl : isLong k with
    | true => have := g6 hl; omega
    | false => have := g7 hl; omega
  clear own ed
  obtain ⟨n, rfl⟩ := Int.eq_ofNat_of_zero_le (show 0 ≤ n by omega)
  obtain ⟨hh, rfl⟩ := Int.eq_ofNat_of_zero_le (show 0 ≤ hh by omega)
  obtain ⟨c0, rfl⟩ := Int.eq_ofNat_of_zero_le a0.1
  obtain ⟨c1, rfl⟩ := Int.eq_ofNat_of_zero_le a1.1
  obtain ⟨c2, rfl⟩ := Int.eq_ofNat_of_zero_le a2.1
  obtain ⟨c3, rfl⟩ := Int.eq_ofNat_of_zero_le a3.1
  obtain ⟨c4, rfl⟩ := Int.eq_ofNat_of_zero_le a4.1
  have q (x : Nat) : (vput x).length ≤ 10 := vputF_le 9 x
  have q0 := q n
  have q1 := q hh
  have q2 := q c0
  have q3 := q c1
  have q4 := q c2
  have q5 := q c3
  have q6 := q c4
  clear q
  dsimp only [Ev.av, Ev.cs]
  rcases (show r = 0 ∨ r = 1 ∨ r = 2 ∨ r = 3 ∨ r = 4 by omega) with rfl | rfl | rfl | rfl | rfl
  all_goals
    refine aspec_of lay_ok 4503740824429567 Try.func18 rfl rfl rfl ?_
    repeat' ((conv => whnf); first | refine Spl.yes (by first | assumption | omega) ?_ | refine Spl.no (by first | assumption | omega) ?_ | refine Wr.i64 (by omega) (by omega) ?_ | refine Still.mk rfl rfl ?_ | refine InB.mk (inB_mk (by omega) (by omega)) ?_ | refine Req.mk (by omega) ?_ | refine Req.mk ⟨by first | omega | (dsimp only; omega), by first | omega | (dsimp only; omega)⟩ ?_ | refine ACall.plain _ _ (may_spec ⟨_, (n : Int), ⟨(c0 : Int), (c1 : Int), (c2 : Int), (c3 : Int), (c4 : Int)⟩, (hh : Int), k, key, l, v⟩) (SubL.cons (.eq _) .nil) rfl ?_ | refine ACall.fresh _ _ _ _ _ _ _ (vput_spec _ _ (by omega)) (SubL.cons (.eq _) .nil) rfl ?_ | refine ACall.plain _ _ (isLong_spec _) (SubL.cons (.eq _) .nil) rfl ?_ | refine ALoop.rounds 6 ?_ | refine ACall.into 3 _ _ Try.func46 rfl rfl rfl ?_ | refine ACall.into 3 _ _ Try.func47 rfl rfl rfl ?_ | refine Spl.mk (fun _ => ?_) (fun _ => ?_) | refine Wr.b64 ?_ | refine Wr.bu64 ?_ | refine Wr.bu32 ?_ | refine Wr.bu8 ?_ | refine Wr.u8 (by omega) (by omega) ?_ | refine Wr.u64 (by omega) (by omega) ?_ | refine Wr.u32 (by omega) (by omega) ?_ | refine Dv.pos (by omega) (by omega) ?_ | refine Rm.pos (by omega) (by omega) ?_ | refine ADraw.quiet follows_ok (by kernel_rfl) rfl ?_ | refine ADraw.sched (id := 0) lay_ok (awp_snd lay_ok _) [(0, none), (1, none), (2, none), (3, some [2]), (4, some [2, 0]), (5, some [2, 0])] [(3, [2]), (4, [2, 0]), (5, [2, 0])] follows_ok (by kernel_rfl) ?_ | refine BSpl.decY (by first | assumption | omega) ?_ | refine BSpl.decN (by first | assumption | omega) ?_ | refine BSpl.dec (fun _ => ?_) (fun _ => ?_) | refine BSpl.yes (by assumption) ?_ | refine BSpl.no (by assumption) ?_ | refine BSpl.mk (fun _ => ?_) (fun _ => ?_))
    all_goals (refine ARet.ownX d rfl rfl ?_ (AEq.refl _); apply OEq.isB)
    all_goals (try (repeat' (first | exact IsB.bytes _ | exact IsB.str _ | exact IsB.one (by omega) (by omega) | exact IsB.two (by omega) (by omega) (by omega) (by omega) | apply IsB.app)))
    all_goals first
      | (simp only [List.length_append, List.length_cons, List.length_nil, str_len]; try omega; done)
      | (simp [evBytes, others, words, vputI, byteOf, byteOf', *]; done)
end Go.Proofs.Ytbmojelnkldecaa
