/-
  What package frame computes: which frames may be.
-/
import Derived.Test.YtbmojelnkldecaaRecF
import Derived.Test.YtbmojelnkldecaaShape
namespace Go.Proofs.Ytbmojelnkldecaa
open Go.RowKit

theorem shape_no (k : Int) (h : ¬ (1 ≤ k ∧ k ≤ 5)) : ASpec Try.prog 57 [.v (.int .i64 k)] (.tup [.agg [.v (.bool false), .v (.bool false), .v (.bool false)], .v (.bool false)]) [] := by
  have := shape_spec k
  rw [show shE k = false by simp [shE]; omega, show shU k = false by simp [shU]; omega, show shC k = false by simp [shC]; omega, show shK k = false by simp [shK]; omega] at this
  exact this

theorem frCount_spec (n : Int) : ASpec Try.prog 77 [.v (.int .i64 n)] (.v (.bool (okN n))) [] := by
  refine aspec_of lay_ok 5 Try.func77 rfl rfl rfl ?_
  repeat' ((conv => whnf); first | refine Spl.yes (by first | assumption | omega) ?_ | refine Spl.no (by first | assumption | omega) ?_ | refine Wr.i64 (by omega) (by omega) ?_ | refine Still.mk rfl rfl ?_ | refine InB.mk (inB_mk (by omega) (by omega)) ?_ | refine Req.mk (by omega) ?_ | refine Req.mk ⟨by first | omega | (dsimp only; omega), by first | omega | (dsimp only; omega)⟩ ?_ | refine ARet.hdI ?_ | refine Spl.mk (fun _ => ?_) (fun _ => ?_) | refine Wr.b64 ?_ | refine Wr.bu64 ?_ | refine Wr.bu32 ?_ | refine Wr.bu8 ?_ | refine Wr.u8 (by omega) (by omega) ?_ | refine Wr.u64 (by omega) (by omega) ?_ | refine Wr.u32 (by omega) (by omega) ?_ | refine Dv.pos (by omega) (by omega) ?_ | refine Rm.pos (by omega) (by omega) ?_ | refine ADraw.quiet follows_ok (by kernel_rfl) rfl ?_ | refine BSpl.decY (by first | assumption | omega) ?_ | refine BSpl.decN (by first | assumption | omega) ?_ | refine BSpl.dec (fun _ => ?_) (fun _ => ?_) | refine BSpl.yes (by assumption) ?_ | refine BSpl.no (by assumption) ?_ | refine BSpl.mk (fun _ => ?_) (fun _ => ?_))
  all_goals (conv => whnf)
  all_goals (refine AEqI.mk (AEq.of ?_))
  all_goals simp [okN, withinB, *]

def evOk (k r : Int) (e : Ev) : Bool := decide (mayE e = 0) && (decide (k ≠ 1) || decide (e.r = r))
theorem evOk_no1 {k r : Int} {e : Ev} (h : ¬ mayE e = 0) : evOk k r e = false := by simp [evOk, h]
theorem evOk_no2 {k r : Int} {e : Ev} (hk : k = 1) (h : ¬ e.r = r) : evOk k r e = false := by simp [evOk, h, hk]
theorem evOk_yes1 {k r : Int} {e : Ev} (h : mayE e = 0) (hk : k ≠ 1) : evOk k r e = true := by simp [evOk, h, hk]
theorem evOk_yes2 {k r : Int} {e : Ev} (h : mayE e = 0) (hr : e.r = r) : evOk k r e = true := by simp [evOk, h, hr]
def mayF (x : Rc) : Bool :=
  shK x.k && decide (0 ≤ x.r) && decide (x.r < 5) && okN x.u && (shU x.k || decide (x.u = 0)) && (shC x.k || clkZ x.c) && (shE x.k || decide (x.ev.length = 0)) && okC x.c && decide (x.ev.length ≤ 20) && (decide (x.k ≠ 1) || decide (x.ev.length ≠ 0)) &&
    x.ev.all (evOk x.k x.r)

theorem allF_no {p : Ev → Bool} {l : List Ev} {j : Nat} (hj : j < l.length) (h : p (l.getD j default) = false) : l.all p = false := by
  rw [List.all_eq_false]
  refine ⟨l[j], List.getElem_mem hj, ?_⟩
  rw [List.getD, List.getElem?_eq_getElem hj] at h
  simpa using h
theorem allF_yes {p : Ev → Bool} {l : List Ev} (h : ∀ i, i < l.length → p (l.getD i default) = true) : l.all p = true := by
  rw [List.all_eq_true]
  intro e he
  obtain ⟨i, hi, rfl⟩ := List.mem_iff_getElem.1 he
  have := h i hi
  rw [List.getD, List.getElem?_eq_getElem hi] at this
  exact this

set_option maxHeartbeats 8000000 in
set_option maxRecDepth 100000 in
theorem frMay_spec (x : Rc) (hl : x.ev.length ≤ 140737488355328) : ASpec Try.prog 56 [x.av] (.v (.bool (mayF x))) [] := by
  obtain ⟨k, r, u, ⟨c0, c1, c2, c3, c4⟩, ev⟩ := x
  dsimp only at hl
  obtain ⟨kk, hkk⟩ : ∃ kk, kk = k := ⟨_, rfl⟩
  rcases (show k = 1 ∨ k = 2 ∨ k = 3 ∨ k = 4 ∨ k = 5 ∨ ¬ (1 ≤ k ∧ k ≤ 5) by omega) with rfl | rfl | rfl | rfl | rfl | hk
  all_goals dsimp only [Rc.av, Rc.cs]
  all_goals
    refine aspec_of lay_ok 324523273306140832810710174007647 Try.func56 rfl rfl rfl ?_
    repeat' ((conv => whnf); first | refine Spl.yes (by first | assumption | omega) ?_ | refine Spl.no (by first | assumption | omega) ?_ | refine Wr.i64 (by omega) (by omega) ?_ | refine Still.mk rfl rfl ?_ | refine InB.mk (inB_mk (by omega) (by omega)) ?_ | refine Req.mk (by omega) ?_ | refine Req.mk ⟨by first | omega | (dsimp only; omega), by first | omega | (dsimp only; omega)⟩ ?_ | refine ACall.plain _ _ (shape_no _ hk) (SubL.cons (.eq _) .nil) rfl ?_ | refine ACall.plain _ _ (shape_spec _) (SubL.cons (.eq _) .nil) rfl ?_ | refine ACall.plain _ _ (frCount_spec _) (SubL.cons (.eq _) .nil) rfl ?_ | refine ALoop.unr 65 6 rfl ?_ | refine EqA.mk (Clk.vs ⟨c0, c1, c2, c3, c4⟩) (Clk.vs clk0) (Clk.mk c0 c1 c2 c3 c4 = clk0) rfl rfl (clk_eq _ _) ?_ | refine ARet.hdI ?_ | refine Spl.mk (fun _ => ?_) (fun _ => ?_) | refine Wr.b64 ?_ | refine Wr.bu64 ?_ | refine Wr.bu32 ?_ | refine Wr.bu8 ?_ | refine Wr.u8 (by omega) (by omega) ?_ | refine Wr.u64 (by omega) (by omega) ?_ | refine Wr.u32 (by omega) (by omega) ?_ | refine Dv.pos (by omega) (by omega) ?_ | refine Rm.pos (by omega) (by omega) ?_ | refine ADraw.quiet follows_ok (by kernel_rfl) rfl ?_ | refine BSpl.decY (by first | assumption | omega) ?_ | refine BSpl.decN (by first | assumption | omega) ?_ | refine BSpl.dec (fun _ => ?_) (fun _ => ?_) | refine BSpl.yes (by assumption) ?_ | refine BSpl.no (by assumption) ?_ | refine BSpl.mk (fun _ => ?_) (fun _ => ?_))
    all_goals (conv => whnf)
    all_goals first
      | refine AEqI.mk (AEq.of ?_)
      | refine ALoop.mk { j : Nat // j ≤ ev.length ∧ ∀ i, i < j → evOk kk r (ev.getD i default) = true } (fun j => ⟨[(1, .box 0 0), (88, .sl 12 ev.length true (evF ev)), (89, .v (.int .i64 (ev.length : Int))), (90, .v (.int .i64 (j.1 : Int)))],
          [(0, .box 43 [.v (.int .i64 _), .v (.int .i64 r), .v (.int .i64 u), .v (.int .i64 c0), .v (.int .i64 c1), .v (.int .i64 c2), .v (.int .i64 c3), .v (.int .i64 c4), .sl 12 ev.length true (evF ev)])], [], 4⟩) (fun j => ev.length - j.1) ⟨0, Nat.zero_le _, fun i h => absurd h (Nat.not_lt_zero i)⟩ _
          (LeR.mk' [] _ _ _ rfl ⟨AEq.refl _, AEq.refl _, AEq.refl _, AEq.int rfl, trivial⟩ ⟨⟨_, rfl, OEq.refl _⟩, trivial⟩ rfl) ?_
    all_goals try (simp [mayF, shK, shU, shE, shC, okC, clkZ_iff, -List.length_eq_zero_iff, *] <;> omega; done)
    all_goals (rintro ⟨j, hj, hall⟩; dsimp only)
    all_goals repeat' ((conv => whnf); first | refine Spl.yes (by first | assumption | omega) ?_ | refine Spl.no (by first | assumption | omega) ?_ | refine Wr.i64 (by omega) (by omega) ?_ | refine Still.mk rfl rfl ?_ | refine InB.mk (inB_mk (by omega) (by omega)) ?_ | refine Req.mk (by omega) ?_ | refine Req.mk ⟨by first | omega | (dsimp only; omega), by first | omega | (dsimp only; omega)⟩ ?_ | refine ACall.plain _ _ (may_spec (ev.getD (j : Int).toNat default)) (SubL.cons (.eq _) .nil) rfl ?_ | refine ARet.hdI ?_ | refine Spl.mk (fun _ => ?_) (fun _ => ?_) | refine Wr.b64 ?_ | refine Wr.bu64 ?_ | refine Wr.bu32 ?_ | refine Wr.bu8 ?_ | refine Wr.u8 (by omega) (by omega) ?_ | refine Wr.u64 (by omega) (by omega) ?_ | refine Wr.u32 (by omega) (by omega) ?_ | refine Dv.pos (by omega) (by omega) ?_ | refine Rm.pos (by omega) (by omega) ?_ | refine ADraw.quiet follows_ok (by kernel_rfl) rfl ?_ | refine BSpl.decY (by first | assumption | omega) ?_ | refine BSpl.decN (by first | assumption | omega) ?_ | refine BSpl.dec (fun _ => ?_) (fun _ => ?_) | refine BSpl.yes (by assumption) ?_ | refine BSpl.no (by assumption) ?_ | refine BSpl.mk (fun _ => ?_) (fun _ => ?_))
    all_goals first
      | (conv => whnf
         refine ⟨⟨j + 1, by omega, fun i hi => ?_⟩, _, LeR.mk' [] _ _ _ rfl ⟨AEq.refl _, AEq.refl _, AEq.refl _, AEq.int rfl, trivial⟩ ⟨⟨_, rfl, OEq.refl _⟩, trivial⟩ rfl, by show ev.length - (j + 1) < ev.length - j; omega⟩
         rcases Nat.lt_or_ge i j with h | h
         · exact hall i h
         · obtain rfl : i = j := by omega
           have h0 : mayE (ev.getD i default) = 0 := ‹mayE (ev.getD (i : Int).toNat default) = 0›
           first
             | exact evOk_yes1 h0 (by omega)
             | exact evOk_yes2 h0 ‹(ev.getD (i : Int).toNat default).r = r›)
      | (conv => whnf
         refine AEqI.mk (AEq.of ?_)
         have hno := allF_no (p := evOk kk r) (l := ev) (j := j) (by omega) (evOk_no1 ‹¬ mayE (ev.getD (j : Int).toNat default) = 0›)
         rw [hkk] at hno
         simp [mayF, hno])
      | (conv => whnf
         refine AEqI.mk (AEq.of ?_)
         have hno := allF_no (p := evOk kk r) (l := ev) (j := j) (by omega) (evOk_no2 hkk ‹¬ (ev.getD (j : Int).toNat default).r = r›)
         rw [hkk] at hno
         simp [mayF, hno])
      | (conv => whnf
         refine AEqI.mk (AEq.of ?_)
         have hyes := allF_yes (p := evOk kk r) (l := ev) (fun i hi => hall i (by omega))
         rw [hkk] at hyes
         simp [mayF, show okN 0 = true from rfl, shK, shU, shE, shC, okC, clkZ_iff, -List.length_eq_zero_iff, *] <;> omega)
end Go.Proofs.Ytbmojelnkldecaa
