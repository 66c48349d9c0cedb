/-
  The reference of layer 9: what counts; which stamp is the last; a row of texts with one more.
-/
import Derived.Test.YtihjfndkgmjanaaBr1
namespace Go.Proofs.Ytihjfndkgmjanaa
open Go.RowKit

def cntP (l : List Ev) (e x : Ev) : Bool := livesB l x && (decide (x.key = e.key) && belowB x e)
def countR (l : List Ev) (e : Ev) : Bool := (decide (e.k = 3) || (decide (e.k = 4) && !aboveB 5 sameV l e)) && l.any (cntP l e)
theorem countR_eq (l : List Ev) (e : Ev) : countR l e = countB l (livingB l) e := by
  unfold countR countB
  congr 1
  unfold underB livingB
  rw [List.any_filter]
  refine any_congr fun x _ => ?_
  unfold cntP sameK
  cases hx : livesB l x with
  | false => rfl
  | true =>
    have : x.k = 1 := by
      simp only [livesB, Bool.and_eq_true, decide_eq_true_eq] at hx
      exact hx.1
    simp [this]

set_option maxHeartbeats 8000000 in
set_option maxRecDepth 100000 in
theorem countsR_spec (l : List Ev) (e : Ev) (hl : l.length ≤ 1000000000) :
    ASpec Try.prog 43 [.sl 12 l.length true (evF l), e.av] (.v (.bool (countB l (livingB l) e))) [] := by
  rw [← countR_eq]
  have hyes : ∀ j, j < l.length → cntP l e (l.getD j default) = true → l.any (cntP l e) = true := fun j hj h1 => any_get hj h1
  have hno : (∀ i, i < l.length → cntP l e (l.getD i default) = false) → l.any (cntP l e) = false := fun h => any_none h
  have hR : countR l e = ((decide (e.k = 3) || (decide (e.k = 4) && !aboveB 5 sameV l e)) && l.any (cntP l e)) := rfl
  rw [hR]
  generalize l.any (cntP l e) = R at hyes hno
  have ha := aboveR_spec l e 5 true true hl
  rw [abv_V] at ha
  generalize aboveB 5 sameV l e = q at ha
  dsimp only [Ev.av, Ev.cs] at ha ⊢
  refine aspec_of lay_ok 9007199326060667 Try.func43 rfl rfl rfl ?_
  repeat' ((conv => whnf); first | refine Spl.yes (by first | assumption | omega) ?_ | refine Spl.no (by first | assumption | omega) ?_ | refine Wr.i64 (by omega) (by omega) ?_ | refine Still.mk rfl rfl ?_ | refine InB.mk (inB_mk (by omega) (by omega)) ?_ | refine Req.mk (by omega) ?_ | refine Req.mk ⟨by first | omega | (dsimp only; omega), by first | omega | (dsimp only; omega)⟩ ?_ | refine ACall.plain _ _ (ha) (SubL.cons (.eq _) (SubL.cons (.eq _) (SubL.cons (.eq _) (SubL.cons (.eq _) (SubL.cons (.eq _) .nil))))) rfl ?_ | refine ARet.hdI ?_ | refine Spl.mk (fun _ => ?_) (fun _ => ?_) | refine Wr.b64 ?_ | refine Wr.bu64 ?_ | refine Wr.bu32 ?_ | refine Wr.bu8 ?_ | refine Wr.u8 (by omega) (by omega) ?_ | refine Wr.u64 (by omega) (by omega) ?_ | refine Wr.u32 (by omega) (by omega) ?_ | refine Dv.pos (by omega) (by omega) ?_ | refine Rm.pos (by omega) (by omega) ?_ | refine ADraw.quiet follows_ok (by kernel_rfl) rfl ?_ | refine ADraw.sched (id := 9) lay_ok (awp_snd lay_ok _) [(0, none), (1, none), (2, none), (3, none), (4, none), (5, none), (6, none), (7, none), (8, none), (9, none), (10, none), (11, none), (12, none), (13, none), (14, none), (15, none), (16, none), (17, some [9, 8, 6, 16, 15]), (18, none)] [(9, [8, 6]), (10, [9, 8, 6]), (11, [9, 8, 6]), (12, [9, 8, 6]), (13, [9, 8, 6]), (14, [9, 8, 6]), (15, [9, 8, 6]), (16, [9, 8, 6]), (17, [9, 8, 6, 16, 15]), (18, [9, 8, 6, 16, 15])] follows_ok (by kernel_rfl) ?_ | refine BSpl.decY (by first | assumption | omega) ?_ | refine BSpl.decN (by first | assumption | omega) ?_ | refine BSpl.dec (fun _ => ?_) (fun _ => ?_) | refine BSpl.yes (by assumption) ?_ | refine BSpl.no (by assumption) ?_ | refine BSpl.mk (fun _ => ?_) (fun _ => ?_))
  all_goals (conv => whnf)
  any_goals (refine AEqI.mk (AEq.of ?_); simp [*]; done)
  all_goals
    have hE : ((decide (e.k = 3) || (decide (e.k = 4) && !q)) && R) = R := by simp [*]
    rw [hE]
    clear hE ha
    refine ALoop.mk { j : Nat // j ≤ l.length ∧ ∀ i, i < j → cntP l e (l.getD i default) = false } (fun j => ⟨[(0, .sl 12 l.length true (evF l)), (3, .box 0 0), (5, .v (.int .i64 (j.1 : Int)))],
        [(0, .box 32 e.cs)], [], 1⟩) (fun j => l.length - j.1) ⟨0, Nat.zero_le _, fun i h => absurd h (Nat.not_lt_zero i)⟩ _
      (LeR.mk' [] _ _ _ rfl ⟨AEq.refl _, AEq.refl _, AEq.int rfl, trivial⟩ ⟨⟨_, rfl, OEq.refl _⟩, trivial⟩ rfl) ?_
    rintro ⟨j, hj, hall⟩
    dsimp only
    by_cases hjl : j < l.length
    · have hyj := hyes j hjl
      have hnj : cntP l e (l.getD j default) = false → ∀ i, i < j + 1 → cntP l e (l.getD i default) = false := by
        intro h i hi
        rcases Nat.lt_or_ge i j with h' | h'
        · exact hall i h'
        · obtain rfl : i = j := by omega
          exact h
      have hb := below6_spec (l.getD (j : Int).toNat default) e
      have hv := livesR_spec l (l.getD (j : Int).toNat default) hl
      have hw : cntP l e (l.getD j default) = (livesB l (l.getD (j : Int).toNat default) && (decide ((l.getD (j : Int).toNat default).key = e.key) && belowB (l.getD (j : Int).toNat default) e)) := rfl
      rw [hw] at hyj hnj
      generalize belowB (l.getD (j : Int).toNat default) e = q1 at hb hyj hnj
      generalize livesB l (l.getD (j : Int).toNat default) = q2 at hv hyj hnj
      clear hw hyes hno hall
      dsimp only [Ev.av, Ev.cs] at hb hv ⊢
      repeat' ((conv => whnf); first | refine Spl.yes (by first | assumption | omega) ?_ | refine Spl.no (by first | assumption | omega) ?_ | refine Wr.i64 (by omega) (by omega) ?_ | refine Still.mk rfl rfl ?_ | refine InB.mk (inB_mk (by omega) (by omega)) ?_ | refine Req.mk (by omega) ?_ | refine Req.mk ⟨by first | omega | (dsimp only; omega), by first | omega | (dsimp only; omega)⟩ ?_ | refine ACall.plain _ _ (hb) (SubL.cons (.eq _) (SubL.cons (.eq _) .nil)) rfl ?_ | refine ACall.plain _ _ (hv) (SubL.cons (.eq _) (SubL.cons (.eq _) .nil)) rfl ?_ | refine ARet.hdI ?_ | refine Spl.mk (fun _ => ?_) (fun _ => ?_) | refine Wr.b64 ?_ | refine Wr.bu64 ?_ | refine Wr.bu32 ?_ | refine Wr.bu8 ?_ | refine Wr.u8 (by omega) (by omega) ?_ | refine Wr.u64 (by omega) (by omega) ?_ | refine Wr.u32 (by omega) (by omega) ?_ | refine Dv.pos (by omega) (by omega) ?_ | refine Rm.pos (by omega) (by omega) ?_ | refine ADraw.quiet follows_ok (by kernel_rfl) rfl ?_ | refine ADraw.sched (id := 9) lay_ok (awp_snd lay_ok _) [(0, none), (1, none), (2, none), (3, none), (4, none), (5, none), (6, none), (7, none), (8, none), (9, none), (10, none), (11, none), (12, none), (13, none), (14, none), (15, none), (16, none), (17, some [9, 8, 6, 16, 15]), (18, none)] [(9, [8, 6]), (10, [9, 8, 6]), (11, [9, 8, 6]), (12, [9, 8, 6]), (13, [9, 8, 6]), (14, [9, 8, 6]), (15, [9, 8, 6]), (16, [9, 8, 6]), (17, [9, 8, 6, 16, 15]), (18, [9, 8, 6, 16, 15])] follows_ok (by kernel_rfl) ?_ | refine BSpl.decY (by first | assumption | omega) ?_ | refine BSpl.decN (by first | assumption | omega) ?_ | refine BSpl.dec (fun _ => ?_) (fun _ => ?_) | refine BSpl.yes (by assumption) ?_ | refine BSpl.no (by assumption) ?_ | refine BSpl.mk (fun _ => ?_) (fun _ => ?_))
      all_goals (conv => whnf)
      all_goals (clear hb hv)
      all_goals first
        | (rw [hyj (by generalize l.getD (j : Int).toNat default = x at *; simp [*])]; exact AEqI.mk (AEq.refl _))
        | exact ⟨⟨j + 1, hjl, hnj (by generalize l.getD (j : Int).toNat default = x at *; simp [*])⟩, _, LeR.mk' [] _ _ _ rfl ⟨AEq.refl _, AEq.refl _, AEq.int rfl, trivial⟩ ⟨⟨_, rfl, OEq.refl _⟩, trivial⟩ rfl, Nat.sub_succ_lt_self _ _ hjl⟩
    · rw [hno fun i hi => hall i (by omega)]
      dsimp only [Ev.cs]
      repeat' ((conv => whnf); first | refine Spl.yes (by first | assumption | omega) ?_ | refine Spl.no (by first | assumption | omega) ?_ | refine Wr.i64 (by omega) (by omega) ?_ | refine Still.mk rfl rfl ?_ | refine InB.mk (inB_mk (by omega) (by omega)) ?_ | refine Req.mk (by omega) ?_ | refine Req.mk ⟨by first | omega | (dsimp only; omega), by first | omega | (dsimp only; omega)⟩ ?_ | refine ARet.hdI ?_ | refine Spl.mk (fun _ => ?_) (fun _ => ?_) | refine Wr.b64 ?_ | refine Wr.bu64 ?_ | refine Wr.bu32 ?_ | refine Wr.bu8 ?_ | refine Wr.u8 (by omega) (by omega) ?_ | refine Wr.u64 (by omega) (by omega) ?_ | refine Wr.u32 (by omega) (by omega) ?_ | refine Dv.pos (by omega) (by omega) ?_ | refine Rm.pos (by omega) (by omega) ?_ | refine ADraw.quiet follows_ok (by kernel_rfl) rfl ?_ | refine ADraw.sched (id := 9) lay_ok (awp_snd lay_ok _) [(0, none), (1, none), (2, none), (3, none), (4, none), (5, none), (6, none), (7, none), (8, none), (9, none), (10, none), (11, none), (12, none), (13, none), (14, none), (15, none), (16, none), (17, some [9, 8, 6, 16, 15]), (18, none)] [(9, [8, 6]), (10, [9, 8, 6]), (11, [9, 8, 6]), (12, [9, 8, 6]), (13, [9, 8, 6]), (14, [9, 8, 6]), (15, [9, 8, 6]), (16, [9, 8, 6]), (17, [9, 8, 6, 16, 15]), (18, [9, 8, 6, 16, 15])] follows_ok (by kernel_rfl) ?_ | refine BSpl.decY (by first | assumption | omega) ?_ | refine BSpl.decN (by first | assumption | omega) ?_ | refine BSpl.dec (fun _ => ?_) (fun _ => ?_) | refine BSpl.yes (by assumption) ?_ | refine BSpl.no (by assumption) ?_ | refine BSpl.mk (fun _ => ?_) (fun _ => ?_))
      conv => whnf
      exact AEqI.mk (AEq.refl _)

theorem lessR_spec (a b : St) : ASpec Try.prog 61 [.agg (stC a), .agg (stC b)] (.v (.bool (lessB a b))) [] := by
  dsimp only [stC]
  refine aspec_of lay_ok 31 Try.func61 rfl rfl rfl ?_
  repeat' ((conv => whnf); first | refine Spl.yes (by first | assumption | omega) ?_ | refine Spl.no (by first | assumption | omega) ?_ | refine Wr.i64 (by omega) (by omega) ?_ | refine Still.mk rfl rfl ?_ | refine InB.mk (inB_mk (by omega) (by omega)) ?_ | refine Req.mk (by omega) ?_ | refine Req.mk ⟨by first | omega | (dsimp only; omega), by first | omega | (dsimp only; omega)⟩ ?_ | refine ARet.hdI ?_ | refine Spl.mk (fun _ => ?_) (fun _ => ?_) | refine Wr.b64 ?_ | refine Wr.bu64 ?_ | refine Wr.bu32 ?_ | refine Wr.bu8 ?_ | refine Wr.u8 (by omega) (by omega) ?_ | refine Wr.u64 (by omega) (by omega) ?_ | refine Wr.u32 (by omega) (by omega) ?_ | refine Dv.pos (by omega) (by omega) ?_ | refine Rm.pos (by omega) (by omega) ?_ | refine ADraw.quiet follows_ok (by kernel_rfl) rfl ?_ | refine BSpl.decY (by first | assumption | omega) ?_ | refine BSpl.decN (by first | assumption | omega) ?_ | refine BSpl.dec (fun _ => ?_) (fun _ => ?_) | refine BSpl.yes (by assumption) ?_ | refine BSpl.no (by assumption) ?_ | refine BSpl.mk (fun _ => ?_) (fun _ => ?_))
  all_goals (conv => whnf)
  all_goals (refine AEqI.mk (AEq.of ?_))
  all_goals (unfold lessB; split <;> (congr 2; simp; omega))
end Go.Proofs.Ytihjfndkgmjanaa
