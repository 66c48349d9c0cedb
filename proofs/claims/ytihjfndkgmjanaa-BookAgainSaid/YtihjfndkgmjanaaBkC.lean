/-
  Which Creates live.
-/
import Derived.Test.YtihjfndkgmjanaaBkB
namespace Go.Proofs.Ytihjfndkgmjanaa
open Go.RowKit

theorem C1.nilS {X : CX} {s : Nat} {sc : Bool} {f : Nat → List AV} (hs : 0 < s) {u : Value} (h : C1 X (.v (.slice none 0 0)) u) : C1 X (.sl s 0 sc f) u := by
  have h : u = .slice none 0 0 := h
  subst h
  exact (show C0 X (.sl s 0 sc f) (.slice none 0 0) from .sl s 0 sc f none 0 [] hs (Nat.le_refl _) (by simp [maxLen]) (by simp) (fun i hi => absurd hi (Nat.not_lt_zero i)) (fun _ x hx => by simp [flat] at hx) (fun i x u hx => by simp [flat] at hx) (.inl rfl))
theorem filter_take {p : Ev → Bool} {l : List Ev} {j : Nat} (hj : j < l.length) : (l.take (j + 1)).filter p = (l.take j).filter p ++ (if p (l.getD j default) = true then [l.getD j default] else []) := by
  rw [List.take_add_one, List.getElem?_eq_getElem hj, List.getD, List.getElem?_eq_getElem hj, List.filter_append]
  congr 1
  simp [List.filter_cons]

/-- Rounds of a loop that takes some of the events: how many were looked at, and which were taken. -/
abbrev Took (p : Ev → Bool) (l : List Ev) : Type := { x : Nat × List Ev // x.1 ≤ l.length ∧ x.2 = (l.take x.1).filter p }

set_option maxHeartbeats 4000000 in
set_option maxRecDepth 100000 in
theorem living_spec (l : List Ev) (hl : l.length ≤ 1000000000) :
    ASpec Try.prog 33 [.sl 12 l.length true (evF l)] (.sl 12 (livingB l).length true (evF (livingB l))) [] := by
  refine aspec_of lay_ok 8392541 Try.func33 rfl rfl rfl ?_
  repeat' ((conv => whnf); first | refine Spl.yes (by first | assumption | omega) ?_ | refine Spl.no (by first | assumption | omega) ?_ | refine Wr.i64 (by omega) (by omega) ?_ | refine Still.mk rfl rfl ?_ | refine InB.mk (inB_mk (by omega) (by omega)) ?_ | refine Req.mk (by omega) ?_ | refine Req.mk ⟨by first | omega | (dsimp only; omega), by first | omega | (dsimp only; omega)⟩ ?_ | refine ARet.hdI ?_ | refine Spl.mk (fun _ => ?_) (fun _ => ?_) | refine InA.mk (inB_mk (by omega) (by omega)) ?_ | refine Wr.b64 ?_ | refine Wr.bu64 ?_ | refine Wr.bu32 ?_ | refine Wr.bu8 ?_ | refine Wr.u8 (by omega) (by omega) ?_ | refine Wr.u64 (by omega) (by omega) ?_ | refine Wr.u32 (by omega) (by omega) ?_ | refine Dv.pos (by omega) (by omega) ?_ | refine Rm.pos (by omega) (by omega) ?_ | refine ADraw.quiet follows_ok (by kernel_rfl) rfl ?_ | refine BSpl.decY (by first | assumption | omega) ?_ | refine BSpl.decN (by first | assumption | omega) ?_ | refine BSpl.dec (fun _ => ?_) (fun _ => ?_) | refine BSpl.yes (by assumption) ?_ | refine BSpl.no (by assumption) ?_ | refine BSpl.mk (fun _ => ?_) (fun _ => ?_))
  conv => whnf
  refine ALoop.mk (Took (livesB l) l) (fun x => match x with
    | ⟨(j, []), _⟩ => ⟨[(0, .sl 12 l.length true (evF l)), (3, .box 0 0), (4, .v (.slice none 0 0)), (8, .sl 12 l.length true (evF l)), (9, .v (.int .i64 (l.length : Int))), (10, .v (.int .i64 (j : Int)))],
        [(0, .box 73 [.v (.int .i64 2), .v (.func (.func 52) #[] #[])])], [], 1⟩
    | ⟨(j, y :: ys), _⟩ => ⟨[(0, .sl 12 l.length true (evF l)), (3, .box 0 0), (4, .own 90), (8, .sl 12 l.length true (evF l)), (9, .v (.int .i64 (l.length : Int))), (10, .v (.int .i64 (j : Int)))],
        [(0, .box 73 [.v (.int .i64 2), .v (.func (.func 52) #[] #[])]), (90, .row 32 12 (ys.length + 1) true (evF (y :: ys)))], [], 91⟩) (fun x => l.length - x.1.1) ⟨(0, []), Nat.zero_le _, rfl⟩ _
    (LeR.mk' [] _ _ _ rfl ⟨AEq.refl _, AEq.refl _, AEq.refl _, AEq.refl _, AEq.int rfl, AEq.int rfl, trivial⟩ ⟨⟨_, rfl, OEq.refl _⟩, trivial⟩ rfl) ?_
  rintro ⟨⟨j, ys⟩, hj, hys⟩
  dsimp only at hj hys
  rcases ys with _ | ⟨y, ys⟩
  · dsimp only
    by_cases hjl : j < l.length
    · have hab := above_spec 2 52 sameK sameK_spec l (l.getD (j : Int).toNat default) (by omega)
      have hft := filter_take (p := livesB l) hjl
      rw [← hys, List.nil_append] at hft
      have hlv : livesB l (l.getD j default) = (decide ((l.getD (j : Int).toNat default).k = 1) && !aboveB 2 sameK l (l.getD (j : Int).toNat default)) := by rw [show (j : Int).toNat = j by omega]; rfl
      rw [hlv] at hft
      generalize aboveB 2 sameK l (l.getD (j : Int).toNat default) = q at hab hft
      have hk0 : ¬ (l.getD (j : Int).toNat default).k = 1 → ([] : List Ev) = (l.take (j + 1)).filter (livesB l) := fun h => by rw [hft, decide_eq_false h]; simp
      have hq0 : q = true → ([] : List Ev) = (l.take (j + 1)).filter (livesB l) := fun h => by rw [hft, h]; simp
      have hq1 : (l.getD (j : Int).toNat default).k = 1 → q = false → [l.getD j default] = (l.take (j + 1)).filter (livesB l) := fun h h' => by rw [hft, decide_eq_true h, h']; simp
      clear hft hlv
      dsimp only [Ev.av, Ev.cs] at hab ⊢
      repeat' ((conv => whnf); first | refine Spl.yes (by first | assumption | omega) ?_ | refine Spl.no (by first | assumption | omega) ?_ | refine Wr.i64 (by omega) (by omega) ?_ | refine Still.mk rfl rfl ?_ | refine InB.mk (inB_mk (by omega) (by omega)) ?_ | refine Req.mk (by omega) ?_ | refine Req.mk ⟨by first | omega | (dsimp only; omega), by first | omega | (dsimp only; omega)⟩ ?_ | refine ACall.plain _ _ (hab) (SubL.cons (.eq _) (SubL.cons (.eq _) (SubL.cons (.eq _) .nil))) rfl ?_ | refine ARet.hdI ?_ | refine Spl.mk (fun _ => ?_) (fun _ => ?_) | refine InA.mk (inB_mk (by omega) (by omega)) ?_ | refine Wr.b64 ?_ | refine Wr.bu64 ?_ | refine Wr.bu32 ?_ | refine Wr.bu8 ?_ | refine Wr.u8 (by omega) (by omega) ?_ | refine Wr.u64 (by omega) (by omega) ?_ | refine Wr.u32 (by omega) (by omega) ?_ | refine Dv.pos (by omega) (by omega) ?_ | refine Rm.pos (by omega) (by omega) ?_ | refine ADraw.quiet follows_ok (by kernel_rfl) rfl ?_ | refine BSpl.decY (by first | assumption | omega) ?_ | refine BSpl.decN (by first | assumption | omega) ?_ | refine BSpl.dec (fun _ => ?_) (fun _ => ?_) | refine BSpl.yes (by assumption) ?_ | refine BSpl.no (by assumption) ?_ | refine BSpl.mk (fun _ => ?_) (fun _ => ?_))
      all_goals (conv => whnf)
      all_goals first
        | exact ⟨⟨(j + 1, []), hjl, by first | exact hk0 (by assumption) | exact hq0 (by assumption)⟩, _, LeR.mk' [] _ _ _ rfl ⟨AEq.refl _, AEq.refl _, AEq.refl _, AEq.refl _, AEq.int rfl, AEq.int rfl, trivial⟩ ⟨⟨_, rfl, OEq.refl _⟩, trivial⟩ rfl, by show l.length - (j + 1) < l.length - j; omega⟩
        | (refine ⟨⟨(j + 1, [l.getD j default]), hjl, hq1 (by assumption) (by assumption)⟩, _, LeR.mk' [(3, 90)] _ _ _ rfl ⟨AEq.refl _, AEq.refl _, AEq.refl _, AEq.refl _, AEq.int rfl, AEq.int rfl, trivial⟩ ⟨⟨_, rfl, OEq.refl _⟩, ⟨_, rfl, OEq.row rfl (fun m hm => ?_)⟩, trivial⟩ rfl, by show l.length - (j + 1) < l.length - j; omega⟩
           have hm : m < 1 := hm
           obtain rfl : m = 0 := by omega
           rfl)
    · have e : livingB l = [] := by rw [hys, List.take_of_length_le (by omega)]; rfl
      rw [e]
      repeat' ((conv => whnf); first | refine Spl.yes (by first | assumption | omega) ?_ | refine Spl.no (by first | assumption | omega) ?_ | refine Wr.i64 (by omega) (by omega) ?_ | refine Still.mk rfl rfl ?_ | refine InB.mk (inB_mk (by omega) (by omega)) ?_ | refine Req.mk (by omega) ?_ | refine Req.mk ⟨by first | omega | (dsimp only; omega), by first | omega | (dsimp only; omega)⟩ ?_ | refine ARet.hdI ?_ | refine Spl.mk (fun _ => ?_) (fun _ => ?_) | refine InA.mk (inB_mk (by omega) (by omega)) ?_ | refine Wr.b64 ?_ | refine Wr.bu64 ?_ | refine Wr.bu32 ?_ | refine Wr.bu8 ?_ | refine Wr.u8 (by omega) (by omega) ?_ | refine Wr.u64 (by omega) (by omega) ?_ | refine Wr.u32 (by omega) (by omega) ?_ | refine Dv.pos (by omega) (by omega) ?_ | refine Rm.pos (by omega) (by omega) ?_ | refine ADraw.quiet follows_ok (by kernel_rfl) rfl ?_ | refine BSpl.decY (by first | assumption | omega) ?_ | refine BSpl.decN (by first | assumption | omega) ?_ | refine BSpl.dec (fun _ => ?_) (fun _ => ?_) | refine BSpl.yes (by assumption) ?_ | refine BSpl.no (by assumption) ?_ | refine BSpl.mk (fun _ => ?_) (fun _ => ?_))
      conv => whnf
      exact AEqI.mk (fun X u h => C1.nilS (by decide) h)
  · dsimp only
    have hyl : ys.length + 1 ≤ j := by
      have h1 := congrArg List.length hys
      have h2 := List.length_filter_le (livesB l) (l.take j)
      rw [List.length_take] at h2
      rw [List.length_cons] at h1
      omega
    by_cases hjl : j < l.length
    · have hab := above_spec 2 52 sameK sameK_spec l (l.getD (j : Int).toNat default) (by omega)
      have hft := filter_take (p := livesB l) hjl
      rw [← hys] at hft
      have hlv : livesB l (l.getD j default) = (decide ((l.getD (j : Int).toNat default).k = 1) && !aboveB 2 sameK l (l.getD (j : Int).toNat default)) := by rw [show (j : Int).toNat = j by omega]; rfl
      rw [hlv] at hft
      generalize aboveB 2 sameK l (l.getD (j : Int).toNat default) = q at hab hft
      have hk0 : ¬ (l.getD (j : Int).toNat default).k = 1 → y :: ys = (l.take (j + 1)).filter (livesB l) := fun h => by rw [hft, decide_eq_false h]; simp
      have hq0 : q = true → y :: ys = (l.take (j + 1)).filter (livesB l) := fun h => by rw [hft, h]; simp
      have hq1 : (l.getD (j : Int).toNat default).k = 1 → q = false → y :: (ys ++ [l.getD j default]) = (l.take (j + 1)).filter (livesB l) := fun h h' => by rw [hft, decide_eq_true h, h']; simp
      clear hft hlv
      dsimp only [Ev.av, Ev.cs] at hab ⊢
      repeat' ((conv => whnf); first | refine Spl.yes (by first | assumption | omega) ?_ | refine Spl.no (by first | assumption | omega) ?_ | refine Wr.i64 (by omega) (by omega) ?_ | refine Still.mk rfl rfl ?_ | refine InB.mk (inB_mk (by omega) (by omega)) ?_ | refine Req.mk (by omega) ?_ | refine Req.mk ⟨by first | omega | (dsimp only; omega), by first | omega | (dsimp only; omega)⟩ ?_ | refine ACall.plain _ _ (hab) (SubL.cons (.eq _) (SubL.cons (.eq _) (SubL.cons (.eq _) .nil))) rfl ?_ | refine ARet.hdI ?_ | refine Spl.mk (fun _ => ?_) (fun _ => ?_) | refine InA.mk (inB_mk (by omega) (by omega)) ?_ | refine Wr.b64 ?_ | refine Wr.bu64 ?_ | refine Wr.bu32 ?_ | refine Wr.bu8 ?_ | refine Wr.u8 (by omega) (by omega) ?_ | refine Wr.u64 (by omega) (by omega) ?_ | refine Wr.u32 (by omega) (by omega) ?_ | refine Dv.pos (by omega) (by omega) ?_ | refine Rm.pos (by omega) (by omega) ?_ | refine ADraw.quiet follows_ok (by kernel_rfl) rfl ?_ | refine BSpl.decY (by first | assumption | omega) ?_ | refine BSpl.decN (by first | assumption | omega) ?_ | refine BSpl.dec (fun _ => ?_) (fun _ => ?_) | refine BSpl.yes (by assumption) ?_ | refine BSpl.no (by assumption) ?_ | refine BSpl.mk (fun _ => ?_) (fun _ => ?_))
      all_goals (conv => whnf)
      all_goals first
        | exact ⟨⟨(j + 1, y :: ys), hjl, by first | exact hk0 (by assumption) | exact hq0 (by assumption)⟩, _, LeR.mk' [] _ _ _ rfl ⟨AEq.refl _, AEq.refl _, AEq.refl _, AEq.refl _, AEq.int rfl, AEq.int rfl, trivial⟩ ⟨⟨_, rfl, OEq.refl _⟩, ⟨_, rfl, OEq.refl _⟩, trivial⟩ rfl, by show l.length - (j + 1) < l.length - j; omega⟩
        | (refine ⟨⟨(j + 1, y :: (ys ++ [l.getD j default])), hjl, hq1 (by assumption) (by assumption)⟩, _, LeR.mk' [(93, 90)] _ _ _ rfl ⟨AEq.refl _, AEq.refl _, AEq.refl _, AEq.refl _, AEq.int rfl, AEq.int rfl, trivial⟩ ⟨⟨_, rfl, OEq.refl _⟩, ⟨_, rfl, OEq.row (by simp) (fun m hm => ?_)⟩, trivial⟩ rfl, by show l.length - (j + 1) < l.length - j; omega⟩
           exact els_app1 (c := Ev.cs) (l := y :: ys) rfl rfl m hm)
    · have e : livingB l = y :: ys := by rw [hys, List.take_of_length_le (by omega)]; rfl
      rw [e]
      repeat' ((conv => whnf); first | refine Spl.yes (by first | assumption | omega) ?_ | refine Spl.no (by first | assumption | omega) ?_ | refine Wr.i64 (by omega) (by omega) ?_ | refine Still.mk rfl rfl ?_ | refine InB.mk (inB_mk (by omega) (by omega)) ?_ | refine Req.mk (by omega) ?_ | refine Req.mk ⟨by first | omega | (dsimp only; omega), by first | omega | (dsimp only; omega)⟩ ?_ | refine ARet.hdI ?_ | refine Spl.mk (fun _ => ?_) (fun _ => ?_) | refine InA.mk (inB_mk (by omega) (by omega)) ?_ | refine Wr.b64 ?_ | refine Wr.bu64 ?_ | refine Wr.bu32 ?_ | refine Wr.bu8 ?_ | refine Wr.u8 (by omega) (by omega) ?_ | refine Wr.u64 (by omega) (by omega) ?_ | refine Wr.u32 (by omega) (by omega) ?_ | refine Dv.pos (by omega) (by omega) ?_ | refine Rm.pos (by omega) (by omega) ?_ | refine ADraw.quiet follows_ok (by kernel_rfl) rfl ?_ | refine BSpl.decY (by first | assumption | omega) ?_ | refine BSpl.decN (by first | assumption | omega) ?_ | refine BSpl.dec (fun _ => ?_) (fun _ => ?_) | refine BSpl.yes (by assumption) ?_ | refine BSpl.no (by assumption) ?_ | refine BSpl.mk (fun _ => ?_) (fun _ => ?_))
      conv => whnf
      exact AEqI.mk (AEq.refl _)
end Go.Proofs.Ytihjfndkgmjanaa
