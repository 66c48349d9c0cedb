/-
  Plain Lean: a past at whose end one replica gets everything, and edits.
-/
import Derived.Test.YtihjfndkgmjanaaLa1
namespace Go.Proofs.Ytihjfndkgmjanaa
open Go.RowKit

theorem sync_zero (T : List Ev) (H : Nat → Clk) {f : Nat} (_hf : f < 5) :
    ∃ H' : Nat → Clk, mkSync (T, H) 0 f = (T, H') ∧ (∀ q, q ≠ 0 → H' q = H q) ∧ (∀ r : Nat, (H 0).at r ≤ (H' 0).at r ∧ (H f).at r ≤ (H' 0).at r) := by
  refine ⟨setC H 0 ((H 0).join (H f)), rfl, fun q hq => by rw [setC_at, if_neg hq], fun r => ?_⟩
  rw [setC_at, if_pos rfl, join_at]
  exact ⟨mx_l _ _, mx_r _ _⟩
theorem syn_step (s : Mk) (f : Nat) (hf : f < 5) : mkStep s (syn (f : Int)) = mkSync s 0 f := by
  have h2 : ((f : Int) % 5).toNat = f := by omega
  unfold mkStep syn
  simp only [if_true, h2]
  rfl
theorem every_make (l : List Ch0) : ∃ H', mkS (l ++ everyL) = (makeL l, H') ∧ ∀ r : Nat, r < 5 → ((mkS l).2 r).at r ≤ (H' 0).at r := by
  have e : mkS (l ++ everyL) = mkSync (mkSync (mkSync (mkSync (mkS l) 0 1) 0 2) 0 3) 0 4 := by
    rw [mkS, List.foldl_append]
    show List.foldl mkStep (mkS l) everyL = _
    have h1 := syn_step (mkS l) 1 (by omega)
    have h2 := syn_step (mkSync (mkS l) 0 1) 2 (by omega)
    have h3 := syn_step (mkSync (mkSync (mkS l) 0 1) 0 2) 3 (by omega)
    have h4 := syn_step (mkSync (mkSync (mkSync (mkS l) 0 1) 0 2) 0 3) 4 (by omega)
    show mkStep (mkStep (mkStep (mkStep (mkS l) (syn ((1 : Nat) : Int))) (syn ((2 : Nat) : Int))) (syn ((3 : Nat) : Int))) (syn ((4 : Nat) : Int)) = _
    rw [h1, h2, h3, h4]
  have hm : mkS l = (makeL l, (mkS l).2) := rfl
  generalize (mkS l).2 = H at hm
  rw [hm] at e
  obtain ⟨H1, e1, k1, g1⟩ := sync_zero (makeL l) H (f := 1) (by omega)
  rw [e1] at e
  obtain ⟨H2, e2, k2, g2⟩ := sync_zero (makeL l) H1 (f := 2) (by omega)
  rw [e2] at e
  obtain ⟨H3, e3, k3, g3⟩ := sync_zero (makeL l) H2 (f := 3) (by omega)
  rw [e3] at e
  obtain ⟨H4, e4, k4, g4⟩ := sync_zero (makeL l) H3 (f := 4) (by omega)
  rw [e4] at e
  refine ⟨H4, e, fun r hr => ?_⟩
  have a1 := g1 r
  have a2 := g2 r
  have a3 := g3 r
  have a4 := g4 r
  rw [k1 2 (by omega)] at a2
  rw [k2 3 (by omega), k1 3 (by omega)] at a3
  rw [k3 4 (by omega), k2 4 (by omega), k1 4 (by omega)] at a4
  obtain rfl | rfl | rfl | rfl | rfl : r = 0 ∨ r = 1 ∨ r = 2 ∨ r = 3 ∨ r = 4 := by omega
  all_goals omega
/-- The choices, all that the others have, and an edit of the first replica's. -/
theorem last_make (l : List Ch0) (x : Ch0) (hr : x.r = 0) (hs : x.sy = false) : ∃ e : Ev, makeL (l ++ everyL ++ [x]) = makeL l ++ [e] ∧ ∀ y ∈ makeL l, belowB y e = true := by
  obtain ⟨H', h1, h2⟩ := every_make l
  have hI := inv_of l
  refine ⟨mkEvt (makeL l) H' 0 (fitEd x.ed), ?_, fun y hy => ?_⟩
  · unfold makeL
    rw [mkS_snoc, h1]
    unfold mkStep
    rw [hs, hr]
    rfl
  · obtain ⟨r, k1, k2, k3, k4, k5⟩ := hI.ev y hy
    unfold belowB
    rw [k2]
    refine (has_at k1).2 ⟨k3, ?_⟩
    have := h2 r k1
    show y.n ≤ (H' 0).at r
    omega
end Go.Proofs.Ytihjfndkgmjanaa
