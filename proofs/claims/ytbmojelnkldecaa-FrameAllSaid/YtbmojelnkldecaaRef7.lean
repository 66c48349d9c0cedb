/-
  What the reference of layer 7 lets be and puts.
-/
import Derived.Test.YtbmojelnkldecaaRefB
import Derived.Test.YtbmojelnkldecaaFrmP
namespace Go.Proofs.Ytbmojelnkldecaa
open Go.RowKit

theorem r07in_spec (n : Int) : ASpec Try.prog 79 [.v (.int .i64 n)] (.v (.bool (okN n))) [] := by
  refine aspec_of lay_ok 5 Try.func79 rfl rfl rfl ?_
  repeat' ((conv => whnf); first | refine Spl.yes (by first | assumption | omega) ?_ | refine Spl.no (by first | assumption | omega) ?_ | refine Wr.i64 (by omega) (by omega) ?_ | refine Still.mk rfl rfl ?_ | refine InB.mk (inB_mk (by omega) (by omega)) ?_ | refine Req.mk (by omega) ?_ | refine Req.mk ⟨by first | omega | (dsimp only; omega), by first | omega | (dsimp only; omega)⟩ ?_ | refine ARet.hdI ?_ | refine Spl.mk (fun _ => ?_) (fun _ => ?_) | refine Wr.b64 ?_ | refine Wr.bu64 ?_ | refine Wr.bu32 ?_ | refine Wr.bu8 ?_ | refine Wr.u8 (by omega) (by omega) ?_ | refine Wr.u64 (by omega) (by omega) ?_ | refine Wr.u32 (by omega) (by omega) ?_ | refine Dv.pos (by omega) (by omega) ?_ | refine Rm.pos (by omega) (by omega) ?_ | refine ADraw.quiet follows_ok (by kernel_rfl) rfl ?_ | refine BSpl.decY (by first | assumption | omega) ?_ | refine BSpl.decN (by first | assumption | omega) ?_ | refine BSpl.dec (fun _ => ?_) (fun _ => ?_) | refine BSpl.yes (by assumption) ?_ | refine BSpl.no (by assumption) ?_ | refine BSpl.mk (fun _ => ?_) (fun _ => ?_))
  all_goals (conv => whnf)
  all_goals (refine AEqI.mk (AEq.of ?_))
  all_goals simp [okN, withinB, *]
theorem r07clock_spec (c0 c1 c2 c3 c4 : Int) : ASpec Try.prog 80 [.agg [.v (.int .i64 c0), .v (.int .i64 c1), .v (.int .i64 c2), .v (.int .i64 c3), .v (.int .i64 c4)]] (.v (.bool (okC ⟨c0, c1, c2, c3, c4⟩))) [] := by
  refine aspec_of lay_ok 4143 Try.func80 rfl rfl rfl ?_
  repeat' ((conv => whnf); first | refine Spl.yes (by first | assumption | omega) ?_ | refine Spl.no (by first | assumption | omega) ?_ | refine Wr.i64 (by omega) (by omega) ?_ | refine Still.mk rfl rfl ?_ | refine InB.mk (inB_mk (by omega) (by omega)) ?_ | refine Req.mk (by omega) ?_ | refine Req.mk ⟨by first | omega | (dsimp only; omega), by first | omega | (dsimp only; omega)⟩ ?_ | refine ACall.plain _ _ (r07in_spec _) (SubL.cons (.eq _) .nil) rfl ?_ | refine ALoop.unr 3 6 rfl ?_ | refine ARet.hdI ?_ | refine Spl.mk (fun _ => ?_) (fun _ => ?_) | refine Wr.b64 ?_ | refine Wr.bu64 ?_ | refine Wr.bu32 ?_ | refine Wr.bu8 ?_ | refine Wr.u8 (by omega) (by omega) ?_ | refine Wr.u64 (by omega) (by omega) ?_ | refine Wr.u32 (by omega) (by omega) ?_ | refine Dv.pos (by omega) (by omega) ?_ | refine Rm.pos (by omega) (by omega) ?_ | refine ADraw.quiet follows_ok (by kernel_rfl) rfl ?_ | refine BSpl.decY (by first | assumption | omega) ?_ | refine BSpl.decN (by first | assumption | omega) ?_ | refine BSpl.dec (fun _ => ?_) (fun _ => ?_) | refine BSpl.yes (by assumption) ?_ | refine BSpl.no (by assumption) ?_ | refine BSpl.mk (fun _ => ?_) (fun _ => ?_))
  all_goals (conv => whnf)
  all_goals (refine AEqI.mk (AEq.of ?_))
  all_goals simp [okC, *]

set_option maxHeartbeats 4000000 in
set_option maxRecDepth 100000 in
theorem r07events_spec (l : List Ev) (hl : l.length ≤ 140737488355328) : ASpec Try.prog 78 [.sl 12 l.length true (evF l)] (.v (.bool (l.all (fun e => decide (mayE e = 0)) && decide (l.length ≤ 20)))) [] := by
  refine aspec_of lay_ok 32909 Try.func78 rfl rfl rfl ?_
  repeat' ((conv => whnf); first | refine Spl.yes (by first | assumption | omega) ?_ | refine Spl.no (by first | assumption | omega) ?_ | refine Wr.i64 (by omega) (by omega) ?_ | refine Still.mk rfl rfl ?_ | refine InB.mk (inB_mk (by omega) (by omega)) ?_ | refine Req.mk (by omega) ?_ | refine Req.mk ⟨by first | omega | (dsimp only; omega), by first | omega | (dsimp only; omega)⟩ ?_ | refine ARet.hdI ?_ | refine Spl.mk (fun _ => ?_) (fun _ => ?_) | refine Wr.b64 ?_ | refine Wr.bu64 ?_ | refine Wr.bu32 ?_ | refine Wr.bu8 ?_ | refine Wr.u8 (by omega) (by omega) ?_ | refine Wr.u64 (by omega) (by omega) ?_ | refine Wr.u32 (by omega) (by omega) ?_ | refine Dv.pos (by omega) (by omega) ?_ | refine Rm.pos (by omega) (by omega) ?_ | refine ADraw.quiet follows_ok (by kernel_rfl) rfl ?_ | refine BSpl.decY (by first | assumption | omega) ?_ | refine BSpl.decN (by first | assumption | omega) ?_ | refine BSpl.dec (fun _ => ?_) (fun _ => ?_) | refine BSpl.yes (by assumption) ?_ | refine BSpl.no (by assumption) ?_ | refine BSpl.mk (fun _ => ?_) (fun _ => ?_))
  conv => whnf
  refine ALoop.mk { j : Nat // j ≤ l.length ∧ ∀ i, i < j → mayE (l.getD i default) = 0 } (fun j => ⟨[(0, .sl 12 l.length true (evF l)), (3, .v (.int .i64 (j.1 : Int)))], [], [], 4⟩) (fun j => l.length - j.1) ⟨0, Nat.zero_le _, fun i h => absurd h (Nat.not_lt_zero i)⟩ _
    (LeR.mk' [] _ _ _ rfl ⟨AEq.refl _, AEq.int rfl, trivial⟩ trivial rfl) ?_
  rintro ⟨j, hj, hall⟩
  dsimp only
  repeat' ((conv => whnf); first | refine Spl.yes (by first | assumption | omega) ?_ | refine Spl.no (by first | assumption | omega) ?_ | refine Wr.i64 (by omega) (by omega) ?_ | refine Still.mk rfl rfl ?_ | refine InB.mk (inB_mk (by omega) (by omega)) ?_ | refine Req.mk (by omega) ?_ | refine Req.mk ⟨by first | omega | (dsimp only; omega), by first | omega | (dsimp only; omega)⟩ ?_ | refine ACall.plain _ _ (rmay_spec (l.getD (j : Int).toNat default)) (SubL.cons (.eq _) .nil) rfl ?_ | refine ARet.hdI ?_ | refine Spl.mk (fun _ => ?_) (fun _ => ?_) | refine Wr.b64 ?_ | refine Wr.bu64 ?_ | refine Wr.bu32 ?_ | refine Wr.bu8 ?_ | refine Wr.u8 (by omega) (by omega) ?_ | refine Wr.u64 (by omega) (by omega) ?_ | refine Wr.u32 (by omega) (by omega) ?_ | refine Dv.pos (by omega) (by omega) ?_ | refine Rm.pos (by omega) (by omega) ?_ | refine ADraw.quiet follows_ok (by kernel_rfl) rfl ?_ | refine BSpl.decY (by first | assumption | omega) ?_ | refine BSpl.decN (by first | assumption | omega) ?_ | refine BSpl.dec (fun _ => ?_) (fun _ => ?_) | refine BSpl.yes (by assumption) ?_ | refine BSpl.no (by assumption) ?_ | refine BSpl.mk (fun _ => ?_) (fun _ => ?_))
  all_goals (conv => whnf)
  all_goals first
    | (refine ⟨⟨j + 1, by omega, fun i hi => ?_⟩, _, LeR.mk' [] _ _ _ rfl ⟨AEq.refl _, AEq.int rfl, trivial⟩ trivial rfl, by show l.length - (j + 1) < l.length - j; omega⟩
       rcases Nat.lt_or_ge i j with h | h
       · exact hall i h
       · rw [show i = j by omega]
         exact ‹mayE (l.getD (j : Int).toNat default) = 0›)
    | (refine AEqI.mk (AEq.of ?_)
       have hno := all_no (l := l) (j := j) (by omega) ‹¬ mayE (l.getD (j : Int).toNat default) = 0›
       simp [hno])
    | (refine AEqI.mk (AEq.of ?_)
       have hyes := all_yes (l := l) (fun i hi => hall i (by omega))
       rw [hyes, Bool.true_and]
       first
         | rw [decide_eq_true (show l.length ≤ 20 by omega)]
         | rw [decide_eq_false (show ¬ l.length ≤ 20 by omega)])

theorem all_evOk1 (l : List Ev) (r : Int) : l.all (evOk 1 r) = (l.all (fun e => decide (mayE e = 0)) && l.all (fun e => decide (e.r = r))) := by
  induction l with
  | nil => rfl
  | cons e l ih =>
    simp only [List.all_cons, ih, evOk]
    cases decide (mayE e = 0) <;> cases decide (e.r = r) <;> simp
theorem all_evOk4 (l : List Ev) {k : Int} (hk : k ≠ 1) (r : Int) : l.all (evOk k r) = l.all (fun e => decide (mayE e = 0)) := by
  induction l with
  | nil => rfl
  | cons e l ih => simp only [List.all_cons, ih, evOk, decide_eq_true hk, Bool.true_or, Bool.and_true]
theorem allr_no {l : List Ev} {j : Nat} {r : Int} (hj : j < l.length) (h : ¬ (l.getD j default).r = r) : l.all (fun e => decide (e.r = r)) = false := allF_no (p := fun e => decide (e.r = r)) hj (decide_eq_false h)
theorem allr_yes {l : List Ev} {r : Int} (h : ∀ i, i < l.length → (l.getD i default).r = r) : l.all (fun e => decide (e.r = r)) = true := allF_yes (p := fun e => decide (e.r = r)) fun i hi => decide_eq_true (h i hi)
theorem clkZ_no' {c : Clk} (h : ¬ c = clk0) : clkZ c = false := by
  cases hc : clkZ c with
  | false => rfl
  | true => exact absurd ((clkZ_iff c).1 hc) h

set_option maxHeartbeats 8000000 in
set_option maxRecDepth 100000 in
theorem r07may_spec (x : Rc) (hl : x.ev.length ≤ 140737488355328) : ASpec Try.prog 58 [x.av] (.v (.bool (mayF x))) [] := by
  obtain ⟨k, r, u, ⟨c0, c1, c2, c3, c4⟩, ev⟩ := x
  dsimp only at hl
  have hevs := r07events_spec ev hl
  obtain ⟨A, hA⟩ : ∃ A, A = ev.all (fun e => decide (mayE e = 0)) := ⟨_, rfl⟩
  rw [← hA] at hevs
  obtain ⟨B, hB⟩ : ∃ B, B = (A && decide (ev.length ≤ 20)) := ⟨_, rfl⟩
  rw [← hB] at hevs
  have ok0 : okN 0 = true := rfl
  rcases (show k = 1 ∨ k = 2 ∨ (k = 3 ∨ k = 5) ∨ k = 4 ∨ ¬ (1 ≤ k ∧ k ≤ 5) by omega) with rfl | rfl | hk | rfl | hk
  · have hm : mayF ⟨1, r, u, ⟨c0, c1, c2, c3, c4⟩, ev⟩ = (decide (0 ≤ r) && decide (r < 5) && decide (u = 0) && clkZ ⟨c0, c1, c2, c3, c4⟩ && B && decide (ev.length ≠ 0) && ev.all (fun e => decide (e.r = r))) := by
      rw [Bool.eq_iff_iff]
      simp only [mayF, all_evOk1, ← hA, hB, Bool.and_eq_true, Bool.or_eq_true, decide_eq_true_eq, shK, shU, shC, shE, clkZ_iff]
      constructor
      · intro h; simp at h ⊢; grind
      · intro h
        obtain ⟨⟨⟨⟨⟨⟨h1, h2⟩, h3⟩, h4⟩, h5⟩, h6⟩, h7⟩ := h
        simp only [clk0, Clk.mk.injEq] at h4
        obtain ⟨rfl, rfl, rfl, rfl, rfl⟩ := h4
        simp [h1, h2, h3, h5, h6, h7, okN, okC, clk0, withinB]
    rw [hm]
    clear hm hB hA
    dsimp only [Rc.av, Rc.cs]
    refine aspec_of lay_ok 151124950824965567680543 Try.func58 rfl rfl rfl ?_
    repeat' ((conv => whnf); first | refine Spl.yes (by first | assumption | omega) ?_ | refine Spl.no (by first | assumption | omega) ?_ | refine Wr.i64 (by omega) (by omega) ?_ | refine Still.mk rfl rfl ?_ | refine InB.mk (inB_mk (by omega) (by omega)) ?_ | refine Req.mk (by omega) ?_ | refine Req.mk ⟨by first | omega | (dsimp only; omega), by first | omega | (dsimp only; omega)⟩ ?_ | refine ACall.plain _ _ (r07in_spec _) (SubL.cons (.eq _) .nil) rfl ?_ | refine ACall.plain _ _ (hevs) (SubL.cons (.eq _) .nil) rfl ?_ | refine EqA.mk (Clk.vs ⟨c0, c1, c2, c3, c4⟩) (Clk.vs clk0) (Clk.mk c0 c1 c2 c3 c4 = clk0) rfl rfl (clk_eq _ _) ?_ | refine ARet.hdI ?_ | refine Spl.mk (fun _ => ?_) (fun _ => ?_) | refine Wr.b64 ?_ | refine Wr.bu64 ?_ | refine Wr.bu32 ?_ | refine Wr.bu8 ?_ | refine Wr.u8 (by omega) (by omega) ?_ | refine Wr.u64 (by omega) (by omega) ?_ | refine Wr.u32 (by omega) (by omega) ?_ | refine Dv.pos (by omega) (by omega) ?_ | refine Rm.pos (by omega) (by omega) ?_ | refine ADraw.quiet follows_ok (by kernel_rfl) rfl ?_ | refine BSpl.decY (by first | assumption | omega) ?_ | refine BSpl.decN (by first | assumption | omega) ?_ | refine BSpl.dec (fun _ => ?_) (fun _ => ?_) | refine BSpl.yes (by assumption) ?_ | refine BSpl.no (by assumption) ?_ | refine BSpl.mk (fun _ => ?_) (fun _ => ?_))
    all_goals (conv => whnf)
    all_goals first
      | (refine AEqI.mk (AEq.of ?_); simp; omega)
      | refine ALoop.mk { j : Nat // j ≤ ev.length ∧ ∀ i, i < j → (ev.getD i default).r = r } (fun j => ⟨[(1, .box 0 0), (3, .v (.bool _)), (4, .v (.int .i64 (j.1 : Int)))],
          [(0, .box 43 [.v (.int .i64 1), .v (.int .i64 r), .v (.int .i64 u), .v (.int .i64 c0), .v (.int .i64 c1), .v (.int .i64 c2), .v (.int .i64 c3), .v (.int .i64 c4), .sl 12 ev.length true (evF ev)])], [], 4⟩) (fun j => ev.length - j.1) ⟨0, Nat.zero_le _, fun i h => absurd h (Nat.not_lt_zero i)⟩ _
          (LeR.mk' [] _ _ _ rfl ⟨AEq.refl _, AEq.refl _, AEq.int rfl, trivial⟩ ⟨⟨_, rfl, OEq.refl _⟩, trivial⟩ rfl) ?_
    all_goals (rintro ⟨j, hj, hall⟩; dsimp only)
    all_goals repeat' ((conv => whnf); first | refine Spl.yes (by first | assumption | omega) ?_ | refine Spl.no (by first | assumption | omega) ?_ | refine Wr.i64 (by omega) (by omega) ?_ | refine Still.mk rfl rfl ?_ | refine InB.mk (inB_mk (by omega) (by omega)) ?_ | refine Req.mk (by omega) ?_ | refine Req.mk ⟨by first | omega | (dsimp only; omega), by first | omega | (dsimp only; omega)⟩ ?_ | refine ACall.plain _ _ (hevs) (SubL.cons (.eq _) .nil) rfl ?_ | refine ARet.hdI ?_ | refine Spl.mk (fun _ => ?_) (fun _ => ?_) | refine Wr.b64 ?_ | refine Wr.bu64 ?_ | refine Wr.bu32 ?_ | refine Wr.bu8 ?_ | refine Wr.u8 (by omega) (by omega) ?_ | refine Wr.u64 (by omega) (by omega) ?_ | refine Wr.u32 (by omega) (by omega) ?_ | refine Dv.pos (by omega) (by omega) ?_ | refine Rm.pos (by omega) (by omega) ?_ | refine ADraw.quiet follows_ok (by kernel_rfl) rfl ?_ | refine BSpl.decY (by first | assumption | omega) ?_ | refine BSpl.decN (by first | assumption | omega) ?_ | refine BSpl.dec (fun _ => ?_) (fun _ => ?_) | refine BSpl.yes (by assumption) ?_ | refine BSpl.no (by assumption) ?_ | refine BSpl.mk (fun _ => ?_) (fun _ => ?_))
    all_goals (conv => whnf)
    all_goals first
      | (refine ⟨⟨j + 1, by omega, fun i hi => ?_⟩, _, LeR.mk' [] _ _ _ rfl ⟨AEq.refl _, AEq.refl _, AEq.int rfl, trivial⟩ ⟨⟨_, rfl, OEq.refl _⟩, trivial⟩ rfl, by show ev.length - (j + 1) < ev.length - j; omega⟩
         rcases Nat.lt_or_ge i j with h | h
         · exact hall i h
         · rw [show i = j by omega]
           exact ‹(ev.getD (j : Int).toNat default).r = r›)
      | (refine AEqI.mk (AEq.of ?_)
         rw [allr_no (l := ev) (j := j) (r := r) (by omega) ‹¬ (ev.getD (j : Int).toNat default).r = r›, Bool.and_false])
      | (refine AEqI.mk (AEq.of ?_)
         rw [allr_yes (l := ev) (r := r) (fun i hi => hall i (by omega)), Bool.and_true]
         first
           | (rw [clkZ_no' ‹¬ Clk.mk c0 c1 c2 c3 c4 = clk0›]; simp; done)
           | (rw [(clkZ_iff _).2 ‹Clk.mk c0 c1 c2 c3 c4 = clk0›]; simp [-List.length_eq_zero_iff, *] <;> omega)
           | (simp [-List.length_eq_zero_iff, *]; done)
           | (simp [-List.length_eq_zero_iff, *]; omega))
  · have hm : mayF ⟨2, r, u, ⟨c0, c1, c2, c3, c4⟩, ev⟩ = (decide (0 ≤ r) && decide (r < 5) && okN u && clkZ ⟨c0, c1, c2, c3, c4⟩ && decide (ev.length = 0)) := by
      rw [Bool.eq_iff_iff]
      simp only [mayF, Bool.and_eq_true, Bool.or_eq_true, decide_eq_true_eq, shK, shU, shC, shE, clkZ_iff]
      constructor
      · intro h; simp at h ⊢; grind
      · intro h
        obtain ⟨⟨⟨⟨h1, h2⟩, h3⟩, h4⟩, h5⟩ := h
        have h5 := List.eq_nil_of_length_eq_zero h5
        subst h5
        simp only [clk0, Clk.mk.injEq] at h4
        obtain ⟨rfl, rfl, rfl, rfl, rfl⟩ := h4
        simp [h1, h2, h3, okC, clk0, ok0]
    rw [hm]
    clear hm hB hA
    dsimp only [Rc.av, Rc.cs]
    refine aspec_of lay_ok 151124950824965567680543 Try.func58 rfl rfl rfl ?_
    repeat' ((conv => whnf); first | refine Spl.yes (by first | assumption | omega) ?_ | refine Spl.no (by first | assumption | omega) ?_ | refine Wr.i64 (by omega) (by omega) ?_ | refine Still.mk rfl rfl ?_ | refine InB.mk (inB_mk (by omega) (by omega)) ?_ | refine Req.mk (by omega) ?_ | refine Req.mk ⟨by first | omega | (dsimp only; omega), by first | omega | (dsimp only; omega)⟩ ?_ | refine ACall.plain _ _ (r07in_spec _) (SubL.cons (.eq _) .nil) rfl ?_ | refine EqA.mk (Clk.vs ⟨c0, c1, c2, c3, c4⟩) (Clk.vs clk0) (Clk.mk c0 c1 c2 c3 c4 = clk0) rfl rfl (clk_eq _ _) ?_ | refine ARet.hdI ?_ | refine Spl.mk (fun _ => ?_) (fun _ => ?_) | refine Wr.b64 ?_ | refine Wr.bu64 ?_ | refine Wr.bu32 ?_ | refine Wr.bu8 ?_ | refine Wr.u8 (by omega) (by omega) ?_ | refine Wr.u64 (by omega) (by omega) ?_ | refine Wr.u32 (by omega) (by omega) ?_ | refine Dv.pos (by omega) (by omega) ?_ | refine Rm.pos (by omega) (by omega) ?_ | refine ADraw.quiet follows_ok (by kernel_rfl) rfl ?_ | refine BSpl.decY (by first | assumption | omega) ?_ | refine BSpl.decN (by first | assumption | omega) ?_ | refine BSpl.dec (fun _ => ?_) (fun _ => ?_) | refine BSpl.yes (by assumption) ?_ | refine BSpl.no (by assumption) ?_ | refine BSpl.mk (fun _ => ?_) (fun _ => ?_))
    all_goals (conv => whnf)
    all_goals (refine AEqI.mk (AEq.of ?_))
    all_goals first
      | (simp [-List.length_eq_zero_iff, *] <;> omega; done)
      | (rw [clkZ_no' ‹¬ Clk.mk c0 c1 c2 c3 c4 = clk0›]; simp; done)
      | (rw [(clkZ_iff _).2 ‹Clk.mk c0 c1 c2 c3 c4 = clk0›]; simp [-List.length_eq_zero_iff, *] <;> omega)
  · have hm : mayF ⟨k, r, u, ⟨c0, c1, c2, c3, c4⟩, ev⟩ = (decide (0 ≤ r) && decide (r < 5) && decide (u = 0) && okC ⟨c0, c1, c2, c3, c4⟩ && decide (ev.length = 0)) := by
      rw [Bool.eq_iff_iff]
      simp only [mayF, Bool.and_eq_true, Bool.or_eq_true, decide_eq_true_eq, shK, shU, shC, shE, clkZ_iff]
      constructor
      · intro h; rcases hk with rfl | rfl <;> (simp at h ⊢; grind)
      · intro h
        obtain ⟨⟨⟨⟨h1, h2⟩, h3⟩, h4⟩, h5⟩ := h
        have h5 := List.eq_nil_of_length_eq_zero h5
        subst h5
        rcases hk with rfl | rfl <;> simp [h1, h2, h3, h4, ok0]
    rw [hm]
    clear hm hB hA
    have hclk := r07clock_spec c0 c1 c2 c3 c4
    dsimp only [Rc.av, Rc.cs]
    rcases hk with rfl | rfl
    all_goals
      refine aspec_of lay_ok 151124950824965567680543 Try.func58 rfl rfl rfl ?_
      repeat' ((conv => whnf); first | refine Spl.yes (by first | assumption | omega) ?_ | refine Spl.no (by first | assumption | omega) ?_ | refine Wr.i64 (by omega) (by omega) ?_ | refine Still.mk rfl rfl ?_ | refine InB.mk (inB_mk (by omega) (by omega)) ?_ | refine Req.mk (by omega) ?_ | refine Req.mk ⟨by first | omega | (dsimp only; omega), by first | omega | (dsimp only; omega)⟩ ?_ | refine ACall.plain _ _ (r07in_spec _) (SubL.cons (.eq _) .nil) rfl ?_ | refine ACall.plain _ _ (hclk) (SubL.cons (.eq _) .nil) rfl ?_ | refine EqA.mk (Clk.vs ⟨c0, c1, c2, c3, c4⟩) (Clk.vs clk0) (Clk.mk c0 c1 c2 c3 c4 = clk0) rfl rfl (clk_eq _ _) ?_ | refine ARet.hdI ?_ | refine Spl.mk (fun _ => ?_) (fun _ => ?_) | refine Wr.b64 ?_ | refine Wr.bu64 ?_ | refine Wr.bu32 ?_ | refine Wr.bu8 ?_ | refine Wr.u8 (by omega) (by omega) ?_ | refine Wr.u64 (by omega) (by omega) ?_ | refine Wr.u32 (by omega) (by omega) ?_ | refine Dv.pos (by omega) (by omega) ?_ | refine Rm.pos (by omega) (by omega) ?_ | refine ADraw.quiet follows_ok (by kernel_rfl) rfl ?_ | refine BSpl.decY (by first | assumption | omega) ?_ | refine BSpl.decN (by first | assumption | omega) ?_ | refine BSpl.dec (fun _ => ?_) (fun _ => ?_) | refine BSpl.yes (by assumption) ?_ | refine BSpl.no (by assumption) ?_ | refine BSpl.mk (fun _ => ?_) (fun _ => ?_))
      all_goals (conv => whnf)
      all_goals (refine AEqI.mk (AEq.of ?_))
      all_goals first
        | (simp [-List.length_eq_zero_iff, *] <;> omega; done)
        | (simp only [‹okC _ = _›]; simp [-List.length_eq_zero_iff] <;> omega)
  · have hm : mayF ⟨4, r, u, ⟨c0, c1, c2, c3, c4⟩, ev⟩ = (decide (0 ≤ r) && decide (r < 5) && decide (u = 0) && clkZ ⟨c0, c1, c2, c3, c4⟩ && B) := by
      rw [Bool.eq_iff_iff]
      simp only [mayF, all_evOk4 ev (show (4 : Int) ≠ 1 by decide), ← hA, hB, Bool.and_eq_true, Bool.or_eq_true, decide_eq_true_eq, shK, shU, shC, shE, clkZ_iff]
      constructor
      · intro h; simp at h ⊢; grind
      · intro h
        obtain ⟨⟨⟨⟨h1, h2⟩, h3⟩, h4⟩, h5⟩ := h
        simp only [clk0, Clk.mk.injEq] at h4
        obtain ⟨rfl, rfl, rfl, rfl, rfl⟩ := h4
        simp [h1, h2, h3, h5, okN, okC, clk0, withinB]
    rw [hm]
    clear hm hB hA
    dsimp only [Rc.av, Rc.cs]
    refine aspec_of lay_ok 151124950824965567680543 Try.func58 rfl rfl rfl ?_
    repeat' ((conv => whnf); first | refine Spl.yes (by first | assumption | omega) ?_ | refine Spl.no (by first | assumption | omega) ?_ | refine Wr.i64 (by omega) (by omega) ?_ | refine Still.mk rfl rfl ?_ | refine InB.mk (inB_mk (by omega) (by omega)) ?_ | refine Req.mk (by omega) ?_ | refine Req.mk ⟨by first | omega | (dsimp only; omega), by first | omega | (dsimp only; omega)⟩ ?_ | refine ACall.plain _ _ (r07in_spec _) (SubL.cons (.eq _) .nil) rfl ?_ | refine ACall.plain _ _ (hevs) (SubL.cons (.eq _) .nil) rfl ?_ | refine EqA.mk (Clk.vs ⟨c0, c1, c2, c3, c4⟩) (Clk.vs clk0) (Clk.mk c0 c1 c2 c3 c4 = clk0) rfl rfl (clk_eq _ _) ?_ | refine ARet.hdI ?_ | refine Spl.mk (fun _ => ?_) (fun _ => ?_) | refine Wr.b64 ?_ | refine Wr.bu64 ?_ | refine Wr.bu32 ?_ | refine Wr.bu8 ?_ | refine Wr.u8 (by omega) (by omega) ?_ | refine Wr.u64 (by omega) (by omega) ?_ | refine Wr.u32 (by omega) (by omega) ?_ | refine Dv.pos (by omega) (by omega) ?_ | refine Rm.pos (by omega) (by omega) ?_ | refine ADraw.quiet follows_ok (by kernel_rfl) rfl ?_ | refine BSpl.decY (by first | assumption | omega) ?_ | refine BSpl.decN (by first | assumption | omega) ?_ | refine BSpl.dec (fun _ => ?_) (fun _ => ?_) | refine BSpl.yes (by assumption) ?_ | refine BSpl.no (by assumption) ?_ | refine BSpl.mk (fun _ => ?_) (fun _ => ?_))
    all_goals (conv => whnf)
    all_goals (refine AEqI.mk (AEq.of ?_))
    all_goals first
      | (simp [-List.length_eq_zero_iff, *] <;> omega; done)
      | (rw [clkZ_no' ‹¬ Clk.mk c0 c1 c2 c3 c4 = clk0›]; simp; done)
      | (rw [(clkZ_iff _).2 ‹Clk.mk c0 c1 c2 c3 c4 = clk0›]; simp [-List.length_eq_zero_iff, *] <;> omega)
  · have hm : mayF ⟨k, r, u, ⟨c0, c1, c2, c3, c4⟩, ev⟩ = false := by
      simp only [mayF, shK, decide_eq_false hk, Bool.false_and]
    rw [hm]
    clear hm hB hA
    dsimp only [Rc.av, Rc.cs]
    refine aspec_of lay_ok 151124950824965567680543 Try.func58 rfl rfl rfl ?_
    repeat' ((conv => whnf); first | refine Spl.yes (by first | assumption | omega) ?_ | refine Spl.no (by first | assumption | omega) ?_ | refine Wr.i64 (by omega) (by omega) ?_ | refine Still.mk rfl rfl ?_ | refine InB.mk (inB_mk (by omega) (by omega)) ?_ | refine Req.mk (by omega) ?_ | refine Req.mk ⟨by first | omega | (dsimp only; omega), by first | omega | (dsimp only; omega)⟩ ?_ | refine ACall.plain _ _ (r07in_spec _) (SubL.cons (.eq _) .nil) rfl ?_ | refine EqA.mk (Clk.vs ⟨c0, c1, c2, c3, c4⟩) (Clk.vs clk0) (Clk.mk c0 c1 c2 c3 c4 = clk0) rfl rfl (clk_eq _ _) ?_ | refine ARet.hdI ?_ | refine Spl.mk (fun _ => ?_) (fun _ => ?_) | refine Wr.b64 ?_ | refine Wr.bu64 ?_ | refine Wr.bu32 ?_ | refine Wr.bu8 ?_ | refine Wr.u8 (by omega) (by omega) ?_ | refine Wr.u64 (by omega) (by omega) ?_ | refine Wr.u32 (by omega) (by omega) ?_ | refine Dv.pos (by omega) (by omega) ?_ | refine Rm.pos (by omega) (by omega) ?_ | refine ADraw.quiet follows_ok (by kernel_rfl) rfl ?_ | refine BSpl.decY (by first | assumption | omega) ?_ | refine BSpl.decN (by first | assumption | omega) ?_ | refine BSpl.dec (fun _ => ?_) (fun _ => ?_) | refine BSpl.yes (by assumption) ?_ | refine BSpl.no (by assumption) ?_ | refine BSpl.mk (fun _ => ?_) (fun _ => ?_))
    all_goals (conv => whnf)
    all_goals exact AEqI.mk (AEq.refl _)

theorem r07Put_no (x : Rc) (hl : x.ev.length ≤ 140737488355328) (h : mayF x = false) : ASpec Try.prog 27 [x.av] (.tup [.v (.slice none 0 0), .v (.int .i64 1)]) [] := by
  have hm := r07may_spec x hl
  rw [h] at hm
  refine aspec_of lay_ok 612630291106760959 Try.func27 rfl rfl rfl ?_
  repeat' ((conv => whnf); first | refine Spl.yes (by first | assumption | omega) ?_ | refine Spl.no (by first | assumption | omega) ?_ | refine Wr.i64 (by omega) (by omega) ?_ | refine Still.mk rfl rfl ?_ | refine InB.mk (inB_mk (by omega) (by omega)) ?_ | refine Req.mk (by omega) ?_ | refine Req.mk ⟨by first | omega | (dsimp only; omega), by first | omega | (dsimp only; omega)⟩ ?_ | refine ACall.plain _ _ (hm) (SubL.cons (.eq _) .nil) rfl ?_ | refine ARet.hdI ?_ | refine Spl.mk (fun _ => ?_) (fun _ => ?_) | refine Wr.b64 ?_ | refine Wr.bu64 ?_ | refine Wr.bu32 ?_ | refine Wr.bu8 ?_ | refine Wr.u8 (by omega) (by omega) ?_ | refine Wr.u64 (by omega) (by omega) ?_ | refine Wr.u32 (by omega) (by omega) ?_ | refine Dv.pos (by omega) (by omega) ?_ | refine Rm.pos (by omega) (by omega) ?_ | refine ADraw.quiet follows_ok (by kernel_rfl) rfl ?_ | refine BSpl.decY (by first | assumption | omega) ?_ | refine BSpl.decN (by first | assumption | omega) ?_ | refine BSpl.dec (fun _ => ?_) (fun _ => ?_) | refine BSpl.yes (by assumption) ?_ | refine BSpl.no (by assumption) ?_ | refine BSpl.mk (fun _ => ?_) (fun _ => ?_))
  conv => whnf
  exact AEqI.mk (AEq.refl _)

set_option maxHeartbeats 8000000 in
set_option maxRecDepth 100000 in
theorem r07Put_e (d : Nat) (x : Rc) (h : mayF x = true) (hk : x.k = 1 ∨ x.k = 4) :
    ASpec Try.prog 27 [x.av] (.tup [.own d, .v (.int .i64 0)]) [(d, .row 5 1 (frBytes x).length true (bytesF (frBytes x)))] := by
  have m := mayF_of h
  have hm := r07may_spec x (by have := m.l; omega)
  rw [h] at hm
  obtain ⟨k, r, u, c, ev⟩ := x
  obtain ⟨mk, mr, mu, mu0, mc0, me0, mc, ml, m1, mev0⟩ := m
  dsimp only at mk mr mu ml mc mu0 mc0 me0 mev0 m1 hk
  have mev := evOk_may mev0
  have hat : ∀ j, j < ev.length → mayE (ev.getD j default) = 0 := fun j hj => may_at mev hj
  have h44 : ∀ j, j < ev.length → (evBytes (ev.getD j default)).length ≤ 44 := fun j hj => evBytes_len (hat j hj)
  have hlen : ∀ j, (evsB (ev.take j)).length ≤ 44 * j := fun j => Nat.le_trans (evsB_len fun e he => may_mem mev e (List.mem_of_mem_take he)) (Nat.mul_le_mul_left _ (by rw [List.length_take]; omega))
  obtain ⟨kk, hkk⟩ : ∃ kk, kk = k := ⟨_, rfl⟩
  have hmore : ∀ j, (([byteOf' kk, byteOf' r] ++ [byteOf' (ev.length : Int)]) ++ evsB (ev.take j)).length = 3 + (evsB (ev.take j)).length := fun j => by simp; omega
  rcases hk with rfl | rfl
  all_goals
    dsimp only [Rc.av, Rc.cs] at hm ⊢
    refine aspec_of lay_ok 612630291106760959 Try.func27 rfl rfl rfl ?_
    repeat' ((conv => whnf); first | refine Spl.yes (by first | assumption | omega) ?_ | refine Spl.no (by first | assumption | omega) ?_ | refine Wr.i64 (by omega) (by omega) ?_ | refine Still.mk rfl rfl ?_ | refine InB.mk (inB_mk (by omega) (by omega)) ?_ | refine Req.mk (by omega) ?_ | refine Req.mk ⟨by first | omega | (dsimp only; omega), by first | omega | (dsimp only; omega)⟩ ?_ | refine ACall.plain _ _ (hm) (SubL.cons (.eq _) .nil) rfl ?_ | refine Spl.mk (fun _ => ?_) (fun _ => ?_) | refine Wr.b64 ?_ | refine Wr.bu64 ?_ | refine Wr.bu32 ?_ | refine Wr.bu8 ?_ | refine Wr.u8 (by omega) (by omega) ?_ | refine Wr.u64 (by omega) (by omega) ?_ | refine Wr.u32 (by omega) (by omega) ?_ | refine Dv.pos (by omega) (by omega) ?_ | refine Rm.pos (by omega) (by omega) ?_ | refine ADraw.quiet follows_ok (by kernel_rfl) rfl ?_ | refine BSpl.decY (by first | assumption | omega) ?_ | refine BSpl.decN (by first | assumption | omega) ?_ | refine BSpl.dec (fun _ => ?_) (fun _ => ?_) | refine BSpl.yes (by assumption) ?_ | refine BSpl.no (by assumption) ?_ | refine BSpl.mk (fun _ => ?_) (fun _ => ?_))
    conv => whnf
    refine ALoop.mk { j : Nat // j ≤ ev.length } (fun j => ⟨[(1, .box 0 0), (4, .own 90), (6, .v (.int .i64 (j.1 : Int)))],
        [(0, .box 43 [.v (.int .i64 kk), .v (.int .i64 r), .v (.int .i64 u), .v (.int .i64 c.c0), .v (.int .i64 c.c1), .v (.int .i64 c.c2), .v (.int .i64 c.c3), .v (.int .i64 c.c4), .sl 12 ev.length true (evF ev)]), (90, .row 5 1 (([byteOf' kk, byteOf' r] ++ [byteOf' (ev.length : Int)]) ++ evsB (ev.take j.1)).length true (bytesF (([byteOf' kk, byteOf' r] ++ [byteOf' (ev.length : Int)]) ++ evsB (ev.take j.1))))], [], 91⟩) (fun j => ev.length - j.1) ⟨0, Nat.zero_le _⟩ _
        (LeR.mk' [(3, 90)] _ _ _ rfl ⟨AEq.refl _, AEq.refl _, AEq.int rfl, trivial⟩ ⟨⟨_, rfl, by rw [hkk]; exact OEq.refl _⟩, ⟨_, rfl, OEq.isB (IsB.app (IsB.two (by omega) (by omega) (by omega) (by omega)) (IsB.one (by omega) (by omega)) rfl) (by simp <;> omega) (by simp [evsB, hkk])⟩, trivial⟩ rfl) ?_
    rintro ⟨j, hj⟩
    dsimp only
    have h44j := h44 (j : Int).toNat
    have hmj := hmore j
    have hlj := hlen j
    have hsl := sealB_len (vput (([byteOf' kk, byteOf' r] ++ [byteOf' (ev.length : Int)]) ++ evsB (ev.take j)).length ++ (([byteOf' kk, byteOf' r] ++ [byteOf' (ev.length : Int)]) ++ evsB (ev.take j)))
    have hvs : (vput (([byteOf' kk, byteOf' r] ++ [byteOf' (ev.length : Int)]) ++ evsB (ev.take j)).length).length ≤ 10 := vputF_le 9 _
    repeat' ((conv => whnf); first | refine Spl.yes (by first | assumption | omega) ?_ | refine Spl.no (by first | assumption | omega) ?_ | refine Wr.i64 (by omega) (by omega) ?_ | refine Still.mk rfl rfl ?_ | refine InB.mk (inB_mk (by omega) (by omega)) ?_ | refine Req.mk (by omega) ?_ | refine Req.mk ⟨by first | omega | (dsimp only; omega), by first | omega | (dsimp only; omega)⟩ ?_ | refine ACall.fresh _ _ _ _ _ _ _ (rput_yes _ (ev.getD (j : Int).toNat default) (hat _ (by omega))) (SubL.cons (.eq _) .nil) rfl ?_ | refine ACall.fresh _ _ _ _ _ _ _ (rvput_spec _ (([byteOf' kk, byteOf' r] ++ [byteOf' (ev.length : Int)]) ++ evsB (ev.take j)).length (by omega)) (SubL.cons (.eq _) .nil) rfl ?_ | refine ACall.fresh _ _ _ _ _ _ _ (rseal_spec _ (vput (([byteOf' kk, byteOf' r] ++ [byteOf' (ev.length : Int)]) ++ evsB (ev.take j)).length ++ (([byteOf' kk, byteOf' r] ++ [byteOf' (ev.length : Int)]) ++ evsB (ev.take j))) (IsB.app (IsB.bytes _) (IsB.bytes _) rfl) List.length_append.symm (by rw [List.length_append]; omega)) (SubL.cons (.eq _) .nil) rfl ?_ | refine Spl.mk (fun _ => ?_) (fun _ => ?_) | refine Wr.b64 ?_ | refine Wr.bu64 ?_ | refine Wr.bu32 ?_ | refine Wr.bu8 ?_ | refine Wr.u8 (by omega) (by omega) ?_ | refine Wr.u64 (by omega) (by omega) ?_ | refine Wr.u32 (by omega) (by omega) ?_ | refine Dv.pos (by omega) (by omega) ?_ | refine Rm.pos (by omega) (by omega) ?_ | refine ADraw.quiet follows_ok (by kernel_rfl) rfl ?_ | refine BSpl.decY (by first | assumption | omega) ?_ | refine BSpl.decN (by first | assumption | omega) ?_ | refine BSpl.dec (fun _ => ?_) (fun _ => ?_) | refine BSpl.yes (by assumption) ?_ | refine BSpl.no (by assumption) ?_ | refine BSpl.mk (fun _ => ?_) (fun _ => ?_))
    · conv => whnf
      refine ⟨⟨j + 1, by omega⟩, _, LeR.mk' [(92, 90)] _ _ _ rfl ⟨AEq.refl _, AEq.refl _, AEq.int rfl, trivial⟩ ⟨⟨_, rfl, OEq.refl _⟩, ⟨_, rfl, OEq.isB (IsB.app (IsB.bytes _) (IsB.bytes _) rfl) List.length_append.symm ?_⟩, trivial⟩ rfl, by show ev.length - (j + 1) < ev.length - j; omega⟩
      rw [evsB_take (by omega), List.append_assoc]
      rfl
    · conv => whnf
      refine ARet.ownX d rfl rfl ?_ (AEq.refl _)
      refine OEq.isB (IsB.bytes _) rfl ?_
      rw [List.take_of_length_le (by omega)]
      unfold frBytes frBody
      simp [hkk, shE, shU, shC, byteOf, byteOf']

set_option maxHeartbeats 8000000 in
set_option maxRecDepth 100000 in
theorem r07Put_u (d : Nat) (x : Rc) (h : mayF x = true) (hk : x.k = 2) :
    ASpec Try.prog 27 [x.av] (.tup [.own d, .v (.int .i64 0)]) [(d, .row 5 1 (frBytes x).length true (bytesF (frBytes x)))] := by
  have m := mayF_of h
  have hm := r07may_spec x (by have := m.l; omega)
  rw [h] at hm
  obtain ⟨k, r, u, c, ev⟩ := x
  obtain ⟨mk, mr, mu, mu0, mc0, me0, mc, ml, m1, mev0⟩ := m
  dsimp only at mk mr mu ml mc mu0 mc0 me0 mev0 m1 hk
  obtain ⟨kk, hkk⟩ : ∃ kk, kk = k := ⟨_, rfl⟩
  obtain ⟨un, rfl, hun⟩ := okN_of mu
  have hvu : (vput un).length ≤ 10 := vputF_le 9 _
  have hmore : ([byteOf' kk, byteOf' r] ++ vput un).length = 2 + (vput un).length := by simp; omega
  have hsl := sealB_len (vput (2 + (vput un).length) ++ ([byteOf' kk, byteOf' r] ++ vput un))
  have hvs : (vput (2 + (vput un).length)).length ≤ 10 := vputF_le 9 _
  subst hk
  have hP : IsB (appF 2 (chunk 1 [.v (.int .u8 2), .v (.int .u8 r)]) (bytesF (vput un))) ([byteOf' kk, byteOf' r] ++ vput un) := hkk ▸ IsB.app (IsB.two (by omega) (by omega) (by omega) (by omega)) (IsB.bytes _) rfl
  have hn : 2 + (vput un).length = ([byteOf' kk, byteOf' r] ++ vput un).length := by omega
  dsimp only [Rc.av, Rc.cs] at hm ⊢
  refine aspec_of lay_ok 612630291106760959 Try.func27 rfl rfl rfl ?_
  repeat' ((conv => whnf); first | refine Spl.yes (by first | assumption | omega) ?_ | refine Spl.no (by first | assumption | omega) ?_ | refine Wr.i64 (by omega) (by omega) ?_ | refine Still.mk rfl rfl ?_ | refine InB.mk (inB_mk (by omega) (by omega)) ?_ | refine Req.mk (by omega) ?_ | refine Req.mk ⟨by first | omega | (dsimp only; omega), by first | omega | (dsimp only; omega)⟩ ?_ | refine ACall.plain _ _ (hm) (SubL.cons (.eq _) .nil) rfl ?_ | refine ACall.fresh _ _ _ _ _ _ _ (rvput_spec _ un (by omega)) (SubL.cons (.eq _) .nil) rfl ?_ | refine ACall.fresh _ _ _ _ _ _ _ (rvput_spec _ (2 + (vput un).length) (by omega)) (SubL.cons (.eq _) .nil) rfl ?_ | refine ACall.fresh _ _ _ _ _ _ _ (rseal_spec _ (vput (2 + (vput un).length) ++ ([byteOf' kk, byteOf' r] ++ vput un)) (IsB.app (IsB.bytes _) hP rfl) (by rw [List.length_append, ← hn]) (by rw [List.length_append, ← hn]; omega)) (SubL.cons (.eq _) .nil) rfl ?_ | refine Spl.mk (fun _ => ?_) (fun _ => ?_) | refine Wr.b64 ?_ | refine Wr.bu64 ?_ | refine Wr.bu32 ?_ | refine Wr.bu8 ?_ | refine Wr.u8 (by omega) (by omega) ?_ | refine Wr.u64 (by omega) (by omega) ?_ | refine Wr.u32 (by omega) (by omega) ?_ | refine Dv.pos (by omega) (by omega) ?_ | refine Rm.pos (by omega) (by omega) ?_ | refine ADraw.quiet follows_ok (by kernel_rfl) rfl ?_ | refine BSpl.decY (by first | assumption | omega) ?_ | refine BSpl.decN (by first | assumption | omega) ?_ | refine BSpl.dec (fun _ => ?_) (fun _ => ?_) | refine BSpl.yes (by assumption) ?_ | refine BSpl.no (by assumption) ?_ | refine BSpl.mk (fun _ => ?_) (fun _ => ?_))
  conv => whnf
  refine ARet.ownX d rfl rfl ?_ (AEq.refl _)
  refine OEq.isB (IsB.bytes _) rfl ?_
  rw [hn]
  unfold frBytes frBody
  simp [hkk, shE, shU, shC, byteOf, byteOf', vputI]

set_option maxHeartbeats 8000000 in
set_option maxRecDepth 100000 in
theorem r07Put_c (d : Nat) (x : Rc) (h : mayF x = true) (hk : x.k = 3 ∨ x.k = 5) :
    ASpec Try.prog 27 [x.av] (.tup [.own d, .v (.int .i64 0)]) [(d, .row 5 1 (frBytes x).length true (bytesF (frBytes x)))] := by
  have m := mayF_of h
  have hm := r07may_spec x (by have := m.l; omega)
  rw [h] at hm
  obtain ⟨k, r, u, ⟨c0, c1, c2, c3, c4⟩, ev⟩ := x
  obtain ⟨mk, mr, mu, mu0, mc0, me0, ⟨m0, m1, m2, m3, m4⟩, ml, mone, mev0⟩ := m
  dsimp only at mk mr mu ml m0 m1 m2 m3 m4 mu0 mc0 me0 mev0 mone hk
  obtain ⟨kk, hkk⟩ : ∃ kk, kk = k := ⟨_, rfl⟩
  obtain ⟨c0, rfl, hc0⟩ := okN_of m0
  obtain ⟨c1, rfl, hc1⟩ := okN_of m1
  obtain ⟨c2, rfl, hc2⟩ := okN_of m2
  obtain ⟨c3, rfl, hc3⟩ := okN_of m3
  obtain ⟨c4, rfl, hc4⟩ := okN_of m4
  have q0 : (vput c0).length ≤ 10 := vputF_le 9 _
  have q1 : (vput c1).length ≤ 10 := vputF_le 9 _
  have q2 : (vput c2).length ≤ 10 := vputF_le 9 _
  have q3 : (vput c3).length ≤ 10 := vputF_le 9 _
  have q4 : (vput c4).length ≤ 10 := vputF_le 9 _
  obtain ⟨n, hn0⟩ : ∃ n, n = 2 + (vput c0).length + (vput c1).length + (vput c2).length + (vput c3).length + (vput c4).length := ⟨_, rfl⟩
  have hn : n = ([byteOf' kk, byteOf' r] ++ vput c0 ++ vput c1 ++ vput c2 ++ vput c3 ++ vput c4).length := by rw [hn0]; simp; omega
  have hvs : (vput (2 + (vput c0).length + (vput c1).length + (vput c2).length + (vput c3).length + (vput c4).length)).length ≤ 10 := vputF_le 9 _
  have hsl := sealB_len (vput (2 + (vput c0).length + (vput c1).length + (vput c2).length + (vput c3).length + (vput c4).length) ++ ([byteOf' kk, byteOf' r] ++ vput c0 ++ vput c1 ++ vput c2 ++ vput c3 ++ vput c4))
  rcases hk with rfl | rfl
  all_goals
    have hP := IsB.app (IsB.app (IsB.app (IsB.app (IsB.app (IsB.two (x := kk) (y := r) (by omega) (by omega) (by omega) (by omega)) (IsB.bytes (vput c0)) rfl) (IsB.bytes (vput c1)) (n := 2 + (vput c0).length) (by simp <;> omega)) (IsB.bytes (vput c2)) (n := 2 + (vput c0).length + (vput c1).length) (by simp <;> omega)) (IsB.bytes (vput c3)) (n := 2 + (vput c0).length + (vput c1).length + (vput c2).length) (by simp <;> omega)) (IsB.bytes (vput c4)) (n := 2 + (vput c0).length + (vput c1).length + (vput c2).length + (vput c3).length) (by simp <;> omega)
    rw [hkk] at hP hn
    dsimp only [Rc.av, Rc.cs] at hm ⊢
    refine aspec_of lay_ok 612630291106760959 Try.func27 rfl rfl rfl ?_
    repeat' ((conv => whnf); first | refine Spl.yes (by first | assumption | omega) ?_ | refine Spl.no (by first | assumption | omega) ?_ | refine Wr.i64 (by omega) (by omega) ?_ | refine Still.mk rfl rfl ?_ | refine InB.mk (inB_mk (by omega) (by omega)) ?_ | refine Req.mk (by omega) ?_ | refine Req.mk ⟨by first | omega | (dsimp only; omega), by first | omega | (dsimp only; omega)⟩ ?_ | refine ACall.plain _ _ (hm) (SubL.cons (.eq _) .nil) rfl ?_ | refine ACall.fresh _ _ _ _ _ _ _ (rvput_spec _ c0 (by omega)) (SubL.cons (.eq _) .nil) rfl ?_ | refine ACall.fresh _ _ _ _ _ _ _ (rvput_spec _ c1 (by omega)) (SubL.cons (.eq _) .nil) rfl ?_ | refine ACall.fresh _ _ _ _ _ _ _ (rvput_spec _ c2 (by omega)) (SubL.cons (.eq _) .nil) rfl ?_ | refine ACall.fresh _ _ _ _ _ _ _ (rvput_spec _ c3 (by omega)) (SubL.cons (.eq _) .nil) rfl ?_ | refine ACall.fresh _ _ _ _ _ _ _ (rvput_spec _ c4 (by omega)) (SubL.cons (.eq _) .nil) rfl ?_ | refine ACall.fresh _ _ _ _ _ _ _ (rvput_spec _ (2 + (vput c0).length + (vput c1).length + (vput c2).length + (vput c3).length + (vput c4).length) (by omega)) (SubL.cons (.eq _) .nil) rfl ?_ | refine ACall.fresh _ _ _ _ _ _ _ (rseal_spec _ (vput (2 + (vput c0).length + (vput c1).length + (vput c2).length + (vput c3).length + (vput c4).length) ++ ([byteOf' _, byteOf' r] ++ vput c0 ++ vput c1 ++ vput c2 ++ vput c3 ++ vput c4)) (IsB.app (IsB.bytes _) hP rfl) (by rw [List.length_append, ← hn, hn0]) (by rw [List.length_append, ← hn, hn0]; omega)) (SubL.cons (.eq _) .nil) rfl ?_ | refine ALoop.unr 5 6 rfl ?_ | refine Spl.mk (fun _ => ?_) (fun _ => ?_) | refine Wr.b64 ?_ | refine Wr.bu64 ?_ | refine Wr.bu32 ?_ | refine Wr.bu8 ?_ | refine Wr.u8 (by omega) (by omega) ?_ | refine Wr.u64 (by omega) (by omega) ?_ | refine Wr.u32 (by omega) (by omega) ?_ | refine Dv.pos (by omega) (by omega) ?_ | refine Rm.pos (by omega) (by omega) ?_ | refine ADraw.quiet follows_ok (by kernel_rfl) rfl ?_ | refine BSpl.decY (by first | assumption | omega) ?_ | refine BSpl.decN (by first | assumption | omega) ?_ | refine BSpl.dec (fun _ => ?_) (fun _ => ?_) | refine BSpl.yes (by assumption) ?_ | refine BSpl.no (by assumption) ?_ | refine BSpl.mk (fun _ => ?_) (fun _ => ?_))
    conv => whnf
    refine ARet.ownX d rfl rfl ?_ (AEq.refl _)
    refine OEq.isB (IsB.bytes _) rfl ?_
    rw [← hn0, hn]
    unfold frBytes frBody
    simp [shE, shU, shC, byteOf, byteOf', vputI, clkB]

theorem r07Put_yes (d : Nat) (x : Rc) (h : mayF x = true) :
    ASpec Try.prog 27 [x.av] (.tup [.own d, .v (.int .i64 0)]) [(d, .row 5 1 (frBytes x).length true (bytesF (frBytes x)))] := by
  have m := (mayF_of h).k
  rcases (show x.k = 1 ∨ x.k = 2 ∨ x.k = 3 ∨ x.k = 4 ∨ x.k = 5 by omega) with hk | hk | hk | hk | hk
  · exact r07Put_e d x h (.inl hk)
  · exact r07Put_u d x h hk
  · exact r07Put_c d x h (.inl hk)
  · exact r07Put_e d x h (.inr hk)
  · exact r07Put_c d x h (.inr hk)
end Go.Proofs.Ytbmojelnkldecaa
