/-
  What frame.read tells of any bytes; whether two lists of events, two frames are the same.
-/
import Derived.Test.YtbmojelnkldecaaFrT
namespace Go.Proofs.Ytbmojelnkldecaa
open Go.RowKit

theorem all_same {a b : List Ev} (hl : a.length = b.length) (h : ∀ i, i < a.length → a.getD i default = b.getD i default) : a = b := by
  apply List.ext_getElem hl
  intro i h1 h2
  have := h i h1
  rw [List.getD, List.getElem?_eq_getElem h1, List.getD, List.getElem?_eq_getElem h2] at this
  exact this

set_option maxHeartbeats 4000000 in
set_option maxRecDepth 100000 in
theorem same06_spec (a b : List Ev) (q : Bool) (hq : q = true ↔ a = b) (ha : a.length ≤ 1000000000) (hb : b.length ≤ 1000000000) : ASpec Try.prog 69 [.sl 12 a.length true (evF a), .sl 12 b.length true (evF b)] (.v (.bool q)) [] := by
  refine aspec_of lay_ok 33571891 Try.func69 rfl rfl rfl ?_
  repeat' ((conv => whnf); first | refine Spl.yes (by first | assumption | omega) ?_ | refine Spl.no (by first | assumption | omega) ?_ | refine Wr.i64 (by omega) (by omega) ?_ | refine Still.mk rfl rfl ?_ | refine InB.mk (inB_mk (by omega) (by omega)) ?_ | refine Req.mk (by omega) ?_ | refine Req.mk ⟨by first | omega | (dsimp only; omega), by first | omega | (dsimp only; omega)⟩ ?_ | refine ARet.hdI ?_ | refine Spl.mk (fun _ => ?_) (fun _ => ?_) | refine Wr.b64 ?_ | refine Wr.bu64 ?_ | refine Wr.bu32 ?_ | refine Wr.bu8 ?_ | refine Wr.u8 (by omega) (by omega) ?_ | refine Wr.u64 (by omega) (by omega) ?_ | refine Wr.u32 (by omega) (by omega) ?_ | refine Dv.pos (by omega) (by omega) ?_ | refine Rm.pos (by omega) (by omega) ?_ | refine ADraw.quiet follows_ok (by kernel_rfl) rfl ?_ | refine BSpl.decY (by first | assumption | omega) ?_ | refine BSpl.decN (by first | assumption | omega) ?_ | refine BSpl.dec (fun _ => ?_) (fun _ => ?_) | refine BSpl.yes (by assumption) ?_ | refine BSpl.no (by assumption) ?_ | refine BSpl.mk (fun _ => ?_) (fun _ => ?_))
  all_goals (conv => whnf)
  · refine ALoop.mk { j : Nat // j ≤ a.length ∧ ∀ i, i < j → a.getD i default = b.getD i default } (fun j => ⟨[(0, .sl 12 a.length true (evF a)), (1, .sl 12 b.length true (evF b)), (5, .v (.int .i64 (j.1 : Int)))], [], [], 0⟩) (fun j => a.length - j.1) ⟨0, Nat.zero_le _, fun i h => absurd h (Nat.not_lt_zero i)⟩ _
      (LeR.mk' [] _ _ _ rfl ⟨AEq.refl _, AEq.refl _, AEq.int rfl, trivial⟩ trivial rfl) ?_
    rintro ⟨j, hj, hall⟩
    dsimp only
    repeat' ((conv => whnf); first | refine Spl.yes (by first | assumption | omega) ?_ | refine Spl.no (by first | assumption | omega) ?_ | refine Wr.i64 (by omega) (by omega) ?_ | refine Still.mk rfl rfl ?_ | refine InB.mk (inB_mk (by omega) (by omega)) ?_ | refine Req.mk (by omega) ?_ | refine Req.mk ⟨by first | omega | (dsimp only; omega), by first | omega | (dsimp only; omega)⟩ ?_ | refine EqA.mk (Ev.vs (a.getD (j : Int).toNat default)) (Ev.vs (b.getD (j : Int).toNat default)) (a.getD (j : Int).toNat default = b.getD (j : Int).toNat default) rfl rfl (ev_eq _ _) ?_ | refine ARet.hdI ?_ | refine Spl.mk (fun _ => ?_) (fun _ => ?_) | refine Wr.b64 ?_ | refine Wr.bu64 ?_ | refine Wr.bu32 ?_ | refine Wr.bu8 ?_ | refine Wr.u8 (by omega) (by omega) ?_ | refine Wr.u64 (by omega) (by omega) ?_ | refine Wr.u32 (by omega) (by omega) ?_ | refine Dv.pos (by omega) (by omega) ?_ | refine Rm.pos (by omega) (by omega) ?_ | refine ADraw.quiet follows_ok (by kernel_rfl) rfl ?_ | refine BSpl.decY (by first | assumption | omega) ?_ | refine BSpl.decN (by first | assumption | omega) ?_ | refine BSpl.dec (fun _ => ?_) (fun _ => ?_) | refine BSpl.yes (by assumption) ?_ | refine BSpl.no (by assumption) ?_ | refine BSpl.mk (fun _ => ?_) (fun _ => ?_))
    all_goals (conv => whnf)
    all_goals first
      | (refine ⟨⟨j + 1, by omega, fun i hi => ?_⟩, _, LeR.mk' [] _ _ _ rfl ⟨AEq.refl _, AEq.refl _, AEq.int rfl, trivial⟩ trivial rfl, by show a.length - (j + 1) < a.length - j; omega⟩
         rcases Nat.lt_or_ge i j with h | h
         · exact hall i h
         · obtain rfl : i = j := by omega
           exact ‹a.getD (i : Int).toNat default = b.getD (i : Int).toNat default›)
      | (have hno : ¬ a.getD (j : Int).toNat default = b.getD (j : Int).toNat default := by assumption
         have : q = false := by cases q with | false => rfl | true => exact absurd (by rw [hq.1 rfl]) hno
         rw [this]
         exact AEqI.mk (AEq.refl _))
      | (have : q = true := hq.2 (all_same (by omega) (fun i hi => hall i (by omega)))
         rw [this]
         exact AEqI.mk (AEq.refl _))
  · refine AEqI.mk (AEq.of ?_)
    have hne : ¬ a = b := fun h => by subst h; omega
    have : q = false := by cases q with | false => rfl | true => exact absurd (hq.1 rfl) hne
    rw [this]

set_option maxHeartbeats 4000000 in
set_option maxRecDepth 100000 in
theorem same07_spec (x y : Rc) (q : Bool) (hq : q = true ↔ x = y) (ha : x.ev.length ≤ 1000000000) (hb : y.ev.length ≤ 1000000000) : ASpec Try.prog 32 [x.av, y.av] (.v (.bool q)) [] := by
  obtain ⟨k, r, u, ⟨c0, c1, c2, c3, c4⟩, ev⟩ := x
  obtain ⟨k', r', u', ⟨d0, d1, d2, d3, d4⟩, ev'⟩ := y
  dsimp only at ha hb
  obtain ⟨q', hq'⟩ : ∃ q' : Bool, q' = true ↔ ev = ev' := by
    by_cases h : ev = ev'
    · exact ⟨true, by simp [h]⟩
    · exact ⟨false, by simp [h]⟩
  have hs := same06_spec ev ev' q' hq' ha hb
  have hno : (¬ k = k' ∨ ¬ r = r' ∨ ¬ u = u' ∨ ¬ Clk.mk c0 c1 c2 c3 c4 = Clk.mk d0 d1 d2 d3 d4 ∨ ¬ q' = true) → q = false := fun h => by
    cases q with
    | false => rfl
    | true =>
      have := hq.1 rfl
      simp only [Rc.mk.injEq] at this
      obtain ⟨e1, e2, e3, e4, e5⟩ := this
      rcases h with h | h | h | h | h
      · exact absurd e1 h
      · exact absurd e2 h
      · exact absurd e3 h
      · exact absurd e4 h
      · exact absurd (hq'.2 e5) h
  have hyes : k = k' → r = r' → u = u' → Clk.mk c0 c1 c2 c3 c4 = Clk.mk d0 d1 d2 d3 d4 → q' = true → q = true := fun e1 e2 e3 e4 e5 => hq.2 (by rw [e1, e2, e3, e4, hq'.1 e5])
  dsimp only [Rc.av, Rc.cs]
  refine aspec_of lay_ok 31 Try.func32 rfl rfl rfl ?_
  repeat' ((conv => whnf); first | refine Spl.yes (by first | assumption | omega) ?_ | refine Spl.no (by first | assumption | omega) ?_ | refine Wr.i64 (by omega) (by omega) ?_ | refine Still.mk rfl rfl ?_ | refine InB.mk (inB_mk (by omega) (by omega)) ?_ | refine Req.mk (by omega) ?_ | refine Req.mk ⟨by first | omega | (dsimp only; omega), by first | omega | (dsimp only; omega)⟩ ?_ | refine ACall.plain _ _ (hs) (SubL.cons (.eq _) (SubL.cons (.eq _) .nil)) rfl ?_ | refine EqA.mk (Clk.vs ⟨c0, c1, c2, c3, c4⟩) (Clk.vs ⟨d0, d1, d2, d3, d4⟩) (Clk.mk c0 c1 c2 c3 c4 = Clk.mk d0 d1 d2 d3 d4) rfl rfl (clk_eq _ _) ?_ | refine ARet.hdI ?_ | refine Spl.mk (fun _ => ?_) (fun _ => ?_) | refine Wr.b64 ?_ | refine Wr.bu64 ?_ | refine Wr.bu32 ?_ | refine Wr.bu8 ?_ | refine Wr.u8 (by omega) (by omega) ?_ | refine Wr.u64 (by omega) (by omega) ?_ | refine Wr.u32 (by omega) (by omega) ?_ | refine Dv.pos (by omega) (by omega) ?_ | refine Rm.pos (by omega) (by omega) ?_ | refine ADraw.quiet follows_ok (by kernel_rfl) rfl ?_ | refine BSpl.decY (by first | assumption | omega) ?_ | refine BSpl.decN (by first | assumption | omega) ?_ | refine BSpl.dec (fun _ => ?_) (fun _ => ?_) | refine BSpl.yes (by assumption) ?_ | refine BSpl.no (by assumption) ?_ | refine BSpl.mk (fun _ => ?_) (fun _ => ?_))
  all_goals (conv => whnf)
  all_goals (refine AEqI.mk (AEq.of ?_))
  all_goals first
    | rw [hyes (by assumption) (by assumption) (by assumption) (by assumption) (by assumption)]
    | rw [hno (.inl (by assumption))]
    | rw [hno (.inr (.inl (by assumption)))]
    | rw [hno (.inr (.inr (.inl (by assumption))))]
    | rw [hno (.inr (.inr (.inr (.inl (by assumption)))))]
    | rw [hno (.inr (.inr (.inr (.inr (by simp [*])))))]
end Go.Proofs.Ytbmojelnkldecaa
