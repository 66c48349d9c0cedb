/-
  Contracts of the walk: LvC, LvO.
-/
import Derived.Test.YtkkpfjifkjbndaaLEmp8
import Derived.Test.YtkkpfjifkjbndaaMp1
/-
  live.without: events but those of a kind that are below an event and of its thing.
-/
namespace Go.Proofs.Ytkkpfjifkjbndaa
open Go.RowKit

abbrev evR (l : List Ev) : AO := .row 38 12 l.length true (evF l)
def woutP (kind : Int) (same : Ev → Bool) (e a : Ev) : Bool := !decide (a.k = kind) || (!same a || !belowB a e)
theorem wout_k {kind : Int} {same : Ev → Bool} {e a : Ev} (h : ¬ a.k = kind) : woutP kind same e a = true := by unfold woutP; rw [decide_eq_false h]; rfl
theorem wout_s {kind : Int} {same : Ev → Bool} {e a : Ev} (h : same a = false) : woutP kind same e a = true := by unfold woutP; rw [h]; simp
theorem wout_b {kind : Int} {same : Ev → Bool} {e a : Ev} (h : belowB a e = false) : woutP kind same e a = true := by unfold woutP; rw [h]; simp
theorem wout_n {kind : Int} {same : Ev → Bool} {e a : Ev} (h : a.k = kind) (h1 : same a = true) (h2 : belowB a e = true) : woutP kind same e a = false := by unfold woutP; rw [decide_eq_true h, h1, h2]; rfl

set_option maxHeartbeats 4000000 in
set_option maxRecDepth 100000 in
theorem without_own (g : FuncId) (same : Ev → Bool) (kind : Int) (e : Ev) (hs : ∀ a, MSpec Try.prog g [(0, .box 38 e.cs)] [a.av, .box 0 0] (.v (.bool (same a))) [(0, .box 38 e.cs)])
    (l : List Ev) (r : Ev) (rs : List Ev) (hr : l.filter (woutP kind same e) = r :: rs) (hl : l.length ≤ 1000000000) :
    MSpec Try.prog 28 [(0, .box 38 e.cs), (1, evR l)] [.own 1, e.av, .v (.int .i64 kind), .fn g [.box 0 0]] (.own 2) [(0, .box 38 e.cs), (2, .row 38 12 (rs.length + 1) true (evF (r :: rs)))] := by
  dsimp only [Ev.av, Ev.cs]
  refine mspec_of lay_ok 8589998895 10 Try.func28 rfl rfl rfl ?_
  repeat' ((conv => whnf); first | refine Spl.yes (by first | assumption | omega) ?_ | refine Spl.no (by first | assumption | omega) ?_ | refine Wr.i64 (by omega) (by omega) ?_ | refine Still.mk rfl rfl ?_ | refine InB.mk (inB_mk (by omega) (by omega)) ?_ | refine Req.mk (by omega) ?_ | refine Req.mk ⟨by first | omega | (dsimp only; omega), by first | omega | (dsimp only; omega)⟩ ?_ | refine ARet.hdI ?_ | refine Spl.mk (fun _ => ?_) (fun _ => ?_) | refine InA.mk (inB_mk (by omega) (by omega)) ?_ | refine Wr.b64 ?_ | refine Wr.bu64 ?_ | refine Wr.bu32 ?_ | refine Wr.bu8 ?_ | refine Wr.u8 (by omega) (by omega) ?_ | refine Wr.u64 (by omega) (by omega) ?_ | refine Wr.u32 (by omega) (by omega) ?_ | refine Dv.pos (by omega) (by omega) ?_ | refine Rm.pos (by omega) (by omega) ?_ | refine ADraw.quiet follows_ok (by kernel_rfl) rfl ?_ | refine BSpl.decY (by first | assumption | omega) ?_ | refine BSpl.decN (by first | assumption | omega) ?_ | refine BSpl.dec (fun _ => ?_) (fun _ => ?_) | refine BSpl.yes (by assumption) ?_ | refine BSpl.no (by assumption) ?_ | refine BSpl.mk (fun _ => ?_) (fun _ => ?_))
  conv => whnf
  refine ALoop.frz 1 rfl ?_
  refine ALoop.mk (Took (woutP kind same e) l) (fun x => match x with
    | ⟨(j, []), _⟩ => ⟨[(0, .sl 12 l.length true (evF l)), (2, .v (.int .i64 kind)), (3, .fn g [.box 0 0]), (5, .box 10 0), (9, .v (.slice none 0 0)), (12, .sl 12 l.length true (evF l)), (13, .v (.int .i64 (l.length : Int))), (14, .v (.int .i64 (j : Int)))], [(10, .box 38 e.cs), (0, .box 38 e.cs)], [[(0, .box 0 0), (1, .sl 12 l.length true (evF l))]], 11⟩
    | ⟨(j, y :: ys), _⟩ => ⟨[(0, .sl 12 l.length true (evF l)), (2, .v (.int .i64 kind)), (3, .fn g [.box 0 0]), (5, .box 10 0), (9, .own 90), (12, .sl 12 l.length true (evF l)), (13, .v (.int .i64 (l.length : Int))), (14, .v (.int .i64 (j : Int)))], [(10, .box 38 e.cs), (0, .box 38 e.cs), (90, .row 38 12 (ys.length + 1) true (evF (y :: ys)))], [[(0, .box 0 0), (1, .sl 12 l.length true (evF l))]], 91⟩) (fun x => l.length - x.1.1) ⟨(0, []), Nat.zero_le _, rfl⟩ _
    (LeR.mk' [] _ _ _ rfl ⟨AEq.refl _, AEq.refl _, AEq.refl _, AEq.refl _, AEq.refl _, AEq.refl _, AEq.int rfl, AEq.int rfl, trivial⟩ ⟨⟨_, rfl, OEq.refl _⟩, ⟨_, rfl, OEq.refl _⟩, trivial⟩ rfl) ?_
  rintro ⟨⟨j, ys⟩, hj, hys⟩
  dsimp only at hj hys
  rcases ys with _ | ⟨y, ys⟩
  · dsimp only
    by_cases hjl : j < l.length
    · have hab := hs (l.getD (j : Int).toNat default)
      have hbb := below_spec (l.getD (j : Int).toNat default) e
      have hft := filter_take (p := woutP kind same e) hjl
      rw [← hys, List.nil_append] at hft
      rw [show l.getD j default = l.getD (j : Int).toNat default from rfl] at hft
      have hk : ¬ (l.getD (j : Int).toNat default).k = kind → [l.getD j default] = (l.take (j + 1)).filter (woutP kind same e) := fun h => by rw [hft, wout_k h]; rfl
      have hsm : same (l.getD (j : Int).toNat default) = false → [l.getD j default] = (l.take (j + 1)).filter (woutP kind same e) := fun h => by rw [hft, wout_s h]; rfl
      have hbl : belowB (l.getD (j : Int).toNat default) e = false → [l.getD j default] = (l.take (j + 1)).filter (woutP kind same e) := fun h => by rw [hft, wout_b h]; rfl
      have hno : (l.getD (j : Int).toNat default).k = kind → same (l.getD (j : Int).toNat default) = true → belowB (l.getD (j : Int).toNat default) e = true → [] = (l.take (j + 1)).filter (woutP kind same e) := fun h h1 h2 => by rw [hft, wout_n h h1 h2]; simp
      clear hft
      generalize same (l.getD (j : Int).toNat default) = q1 at hab hsm hno
      generalize belowB (l.getD (j : Int).toNat default) e = q2 at hbb hbl hno
      dsimp only [Ev.av, Ev.cs] at hab hbb ⊢
      repeat' ((conv => whnf); first | refine Spl.yes (by first | assumption | omega) ?_ | refine Spl.no (by first | assumption | omega) ?_ | refine Wr.i64 (by omega) (by omega) ?_ | refine Still.mk rfl rfl ?_ | refine InB.mk (inB_mk (by omega) (by omega)) ?_ | refine Req.mk (by omega) ?_ | refine Req.mk ⟨by first | omega | (dsimp only; omega), by first | omega | (dsimp only; omega)⟩ ?_ | refine ACall.chgR 1 [(0, _)] (hab) rfl ⟨rfl, trivial⟩ rfl rfl ?_ | refine ACall.plain _ _ (hbb) (SubL.cons (.eq _) (SubL.cons (.eq _) .nil)) rfl ?_ | refine ARet.hdI ?_ | refine Spl.mk (fun _ => ?_) (fun _ => ?_) | refine InA.mk (inB_mk (by omega) (by omega)) ?_ | refine Wr.b64 ?_ | refine Wr.bu64 ?_ | refine Wr.bu32 ?_ | refine Wr.bu8 ?_ | refine Wr.u8 (by omega) (by omega) ?_ | refine Wr.u64 (by omega) (by omega) ?_ | refine Wr.u32 (by omega) (by omega) ?_ | refine Dv.pos (by omega) (by omega) ?_ | refine Rm.pos (by omega) (by omega) ?_ | refine ADraw.quiet follows_ok (by kernel_rfl) rfl ?_ | refine BSpl.decY (by first | assumption | omega) ?_ | refine BSpl.decN (by first | assumption | omega) ?_ | refine BSpl.dec (fun _ => ?_) (fun _ => ?_) | refine BSpl.yes (by assumption) ?_ | refine BSpl.no (by assumption) ?_ | refine BSpl.mk (fun _ => ?_) (fun _ => ?_))
      all_goals (conv => whnf)
      all_goals first
        | exact ⟨⟨(j + 1, []), hjl, hno (by assumption) (by assumption) (by assumption)⟩, _, LeR.mk' [] _ _ _ rfl ⟨AEq.refl _, AEq.refl _, AEq.refl _, AEq.refl _, AEq.refl _, AEq.refl _, AEq.int rfl, AEq.int rfl, trivial⟩ ⟨⟨_, rfl, OEq.refl _⟩, ⟨_, rfl, OEq.refl _⟩, trivial⟩ rfl, by show l.length - (j + 1) < l.length - j; omega⟩
        | (refine ⟨⟨(j + 1, [l.getD j default]), hjl, by first | exact hk (by assumption) | exact hsm (by assumption) | exact hbl (by assumption)⟩, _, LeR.mk' [(12, 90)] _ _ _ rfl ⟨AEq.refl _, AEq.refl _, AEq.refl _, AEq.refl _, AEq.refl _, AEq.refl _, AEq.int rfl, AEq.int rfl, trivial⟩ ⟨⟨_, rfl, OEq.refl _⟩, ⟨_, rfl, OEq.refl _⟩, ⟨_, rfl, OEq.row rfl (fun m hm => ?_)⟩, trivial⟩ rfl, by show l.length - (j + 1) < l.length - j; omega⟩
           have hm : m < 1 := hm
           obtain rfl : m = 0 := by omega
           rfl)
        | (refine ⟨⟨(j + 1, [l.getD j default]), hjl, by first | exact hk (by assumption) | exact hsm (by assumption) | exact hbl (by assumption)⟩, _, LeR.mk' [(13, 90)] _ _ _ rfl ⟨AEq.refl _, AEq.refl _, AEq.refl _, AEq.refl _, AEq.refl _, AEq.refl _, AEq.int rfl, AEq.int rfl, trivial⟩ ⟨⟨_, rfl, OEq.refl _⟩, ⟨_, rfl, OEq.refl _⟩, ⟨_, rfl, OEq.row rfl (fun m hm => ?_)⟩, trivial⟩ rfl, by show l.length - (j + 1) < l.length - j; omega⟩
           have hm : m < 1 := hm
           obtain rfl : m = 0 := by omega
           rfl)
        | (refine ⟨⟨(j + 1, [l.getD j default]), hjl, by first | exact hk (by assumption) | exact hsm (by assumption) | exact hbl (by assumption)⟩, _, LeR.mk' [(14, 90)] _ _ _ rfl ⟨AEq.refl _, AEq.refl _, AEq.refl _, AEq.refl _, AEq.refl _, AEq.refl _, AEq.int rfl, AEq.int rfl, trivial⟩ ⟨⟨_, rfl, OEq.refl _⟩, ⟨_, rfl, OEq.refl _⟩, ⟨_, rfl, OEq.row rfl (fun m hm => ?_)⟩, trivial⟩ rfl, by show l.length - (j + 1) < l.length - j; omega⟩
           have hm : m < 1 := hm
           obtain rfl : m = 0 := by omega
           rfl)
        | (refine ⟨⟨(j + 1, [l.getD j default]), hjl, by first | exact hk (by assumption) | exact hsm (by assumption) | exact hbl (by assumption)⟩, _, LeR.mk' [(15, 90)] _ _ _ rfl ⟨AEq.refl _, AEq.refl _, AEq.refl _, AEq.refl _, AEq.refl _, AEq.refl _, AEq.int rfl, AEq.int rfl, trivial⟩ ⟨⟨_, rfl, OEq.refl _⟩, ⟨_, rfl, OEq.refl _⟩, ⟨_, rfl, OEq.row rfl (fun m hm => ?_)⟩, trivial⟩ rfl, by show l.length - (j + 1) < l.length - j; omega⟩
           have hm : m < 1 := hm
           obtain rfl : m = 0 := by omega
           rfl)
    · have e0 : l.filter (woutP kind same e) = [] := by rw [List.take_of_length_le (by omega)] at hys; exact hys.symm
      rw [hr] at e0
      cases e0
  · dsimp only
    have hyl : ys.length + 1 ≤ j := by
      have h1 := congrArg List.length hys
      have h2 := List.length_filter_le (woutP kind same e) (l.take j)
      rw [List.length_take] at h2
      rw [List.length_cons] at h1
      omega
    by_cases hjl : j < l.length
    · have hab := hs (l.getD (j : Int).toNat default)
      have hbb := below_spec (l.getD (j : Int).toNat default) e
      have hft := filter_take (p := woutP kind same e) hjl
      rw [← hys] at hft
      rw [show l.getD j default = l.getD (j : Int).toNat default from rfl] at hft
      have hk : ¬ (l.getD (j : Int).toNat default).k = kind → y :: (ys ++ [l.getD j default]) = (l.take (j + 1)).filter (woutP kind same e) := fun h => by rw [hft, wout_k h]; rfl
      have hsm : same (l.getD (j : Int).toNat default) = false → y :: (ys ++ [l.getD j default]) = (l.take (j + 1)).filter (woutP kind same e) := fun h => by rw [hft, wout_s h]; rfl
      have hbl : belowB (l.getD (j : Int).toNat default) e = false → y :: (ys ++ [l.getD j default]) = (l.take (j + 1)).filter (woutP kind same e) := fun h => by rw [hft, wout_b h]; rfl
      have hno : (l.getD (j : Int).toNat default).k = kind → same (l.getD (j : Int).toNat default) = true → belowB (l.getD (j : Int).toNat default) e = true → y :: ys = (l.take (j + 1)).filter (woutP kind same e) := fun h h1 h2 => by rw [hft, wout_n h h1 h2]; simp
      clear hft
      generalize same (l.getD (j : Int).toNat default) = q1 at hab hsm hno
      generalize belowB (l.getD (j : Int).toNat default) e = q2 at hbb hbl hno
      dsimp only [Ev.av, Ev.cs] at hab hbb ⊢
      repeat' ((conv => whnf); first | refine Spl.yes (by first | assumption | omega) ?_ | refine Spl.no (by first | assumption | omega) ?_ | refine Wr.i64 (by omega) (by omega) ?_ | refine Still.mk rfl rfl ?_ | refine InB.mk (inB_mk (by omega) (by omega)) ?_ | refine Req.mk (by omega) ?_ | refine Req.mk ⟨by first | omega | (dsimp only; omega), by first | omega | (dsimp only; omega)⟩ ?_ | refine ACall.chgR 1 [(0, _)] (hab) rfl ⟨rfl, trivial⟩ rfl rfl ?_ | refine ACall.plain _ _ (hbb) (SubL.cons (.eq _) (SubL.cons (.eq _) .nil)) rfl ?_ | refine ARet.hdI ?_ | refine Spl.mk (fun _ => ?_) (fun _ => ?_) | refine InA.mk (inB_mk (by omega) (by omega)) ?_ | refine Wr.b64 ?_ | refine Wr.bu64 ?_ | refine Wr.bu32 ?_ | refine Wr.bu8 ?_ | refine Wr.u8 (by omega) (by omega) ?_ | refine Wr.u64 (by omega) (by omega) ?_ | refine Wr.u32 (by omega) (by omega) ?_ | refine Dv.pos (by omega) (by omega) ?_ | refine Rm.pos (by omega) (by omega) ?_ | refine ADraw.quiet follows_ok (by kernel_rfl) rfl ?_ | refine BSpl.decY (by first | assumption | omega) ?_ | refine BSpl.decN (by first | assumption | omega) ?_ | refine BSpl.dec (fun _ => ?_) (fun _ => ?_) | refine BSpl.yes (by assumption) ?_ | refine BSpl.no (by assumption) ?_ | refine BSpl.mk (fun _ => ?_) (fun _ => ?_))
      all_goals (conv => whnf)
      all_goals first
        | exact ⟨⟨(j + 1, y :: ys), hjl, hno (by assumption) (by assumption) (by assumption)⟩, _, LeR.mk' [] _ _ _ rfl ⟨AEq.refl _, AEq.refl _, AEq.refl _, AEq.refl _, AEq.refl _, AEq.refl _, AEq.int rfl, AEq.int rfl, trivial⟩ ⟨⟨_, rfl, OEq.refl _⟩, ⟨_, rfl, OEq.refl _⟩, ⟨_, rfl, OEq.refl _⟩, trivial⟩ rfl, by show l.length - (j + 1) < l.length - j; omega⟩
        | (refine ⟨⟨(j + 1, y :: (ys ++ [l.getD j default])), hjl, by first | exact hk (by assumption) | exact hsm (by assumption) | exact hbl (by assumption)⟩, _, LeR.mk' [(92, 90)] _ _ _ rfl ⟨AEq.refl _, AEq.refl _, AEq.refl _, AEq.refl _, AEq.refl _, AEq.refl _, AEq.int rfl, AEq.int rfl, trivial⟩ ⟨⟨_, rfl, OEq.refl _⟩, ⟨_, rfl, OEq.refl _⟩, ⟨_, rfl, OEq.row (by simp) (fun m hm => ?_)⟩, trivial⟩ rfl, by show l.length - (j + 1) < l.length - j; omega⟩
           exact els_app1 (c := Ev.cs) (l := y :: ys) rfl rfl m hm)
        | (refine ⟨⟨(j + 1, y :: (ys ++ [l.getD j default])), hjl, by first | exact hk (by assumption) | exact hsm (by assumption) | exact hbl (by assumption)⟩, _, LeR.mk' [(93, 90)] _ _ _ rfl ⟨AEq.refl _, AEq.refl _, AEq.refl _, AEq.refl _, AEq.refl _, AEq.refl _, AEq.int rfl, AEq.int rfl, trivial⟩ ⟨⟨_, rfl, OEq.refl _⟩, ⟨_, rfl, OEq.refl _⟩, ⟨_, rfl, OEq.row (by simp) (fun m hm => ?_)⟩, trivial⟩ rfl, by show l.length - (j + 1) < l.length - j; omega⟩
           exact els_app1 (c := Ev.cs) (l := y :: ys) rfl rfl m hm)
        | (refine ⟨⟨(j + 1, y :: (ys ++ [l.getD j default])), hjl, by first | exact hk (by assumption) | exact hsm (by assumption) | exact hbl (by assumption)⟩, _, LeR.mk' [(94, 90)] _ _ _ rfl ⟨AEq.refl _, AEq.refl _, AEq.refl _, AEq.refl _, AEq.refl _, AEq.refl _, AEq.int rfl, AEq.int rfl, trivial⟩ ⟨⟨_, rfl, OEq.refl _⟩, ⟨_, rfl, OEq.refl _⟩, ⟨_, rfl, OEq.row (by simp) (fun m hm => ?_)⟩, trivial⟩ rfl, by show l.length - (j + 1) < l.length - j; omega⟩
           exact els_app1 (c := Ev.cs) (l := y :: ys) rfl rfl m hm)
        | (refine ⟨⟨(j + 1, y :: (ys ++ [l.getD j default])), hjl, by first | exact hk (by assumption) | exact hsm (by assumption) | exact hbl (by assumption)⟩, _, LeR.mk' [(95, 90)] _ _ _ rfl ⟨AEq.refl _, AEq.refl _, AEq.refl _, AEq.refl _, AEq.refl _, AEq.refl _, AEq.int rfl, AEq.int rfl, trivial⟩ ⟨⟨_, rfl, OEq.refl _⟩, ⟨_, rfl, OEq.refl _⟩, ⟨_, rfl, OEq.row (by simp) (fun m hm => ?_)⟩, trivial⟩ rfl, by show l.length - (j + 1) < l.length - j; omega⟩
           exact els_app1 (c := Ev.cs) (l := y :: ys) rfl rfl m hm)
    · have e0 : l.filter (woutP kind same e) = y :: ys := by rw [List.take_of_length_le (by omega)] at hys; exact hys.symm
      rw [hr] at e0
      cases e0
      repeat' ((conv => whnf); first | refine Spl.yes (by first | assumption | omega) ?_ | refine Spl.no (by first | assumption | omega) ?_ | refine Wr.i64 (by omega) (by omega) ?_ | refine Still.mk rfl rfl ?_ | refine InB.mk (inB_mk (by omega) (by omega)) ?_ | refine Req.mk (by omega) ?_ | refine Req.mk ⟨by first | omega | (dsimp only; omega), by first | omega | (dsimp only; omega)⟩ ?_ | refine ARet.hdI ?_ | refine Spl.mk (fun _ => ?_) (fun _ => ?_) | refine InA.mk (inB_mk (by omega) (by omega)) ?_ | refine Wr.b64 ?_ | refine Wr.bu64 ?_ | refine Wr.bu32 ?_ | refine Wr.bu8 ?_ | refine Wr.u8 (by omega) (by omega) ?_ | refine Wr.u64 (by omega) (by omega) ?_ | refine Wr.u32 (by omega) (by omega) ?_ | refine Dv.pos (by omega) (by omega) ?_ | refine Rm.pos (by omega) (by omega) ?_ | refine ADraw.quiet follows_ok (by kernel_rfl) rfl ?_ | refine BSpl.decY (by first | assumption | omega) ?_ | refine BSpl.decN (by first | assumption | omega) ?_ | refine BSpl.dec (fun _ => ?_) (fun _ => ?_) | refine BSpl.yes (by assumption) ?_ | refine BSpl.no (by assumption) ?_ | refine BSpl.mk (fun _ => ?_) (fun _ => ?_))
      conv => whnf
      exact ⟨[(90, 2)], rfl, rfl, ⟨⟨_, rfl, OEq.refl _⟩, ⟨_, rfl, OEq.refl _⟩, trivial⟩, rfl, rfl, AEq.refl _⟩
set_option maxHeartbeats 4000000 in
set_option maxRecDepth 100000 in
theorem without_nil (g : FuncId) (same : Ev → Bool) (kind : Int) (e : Ev) (hs : ∀ a, MSpec Try.prog g [(0, .box 38 e.cs)] [a.av, .box 0 0] (.v (.bool (same a))) [(0, .box 38 e.cs)])
    (l : List Ev) (hr : l.filter (woutP kind same e) = []) (hl : l.length ≤ 1000000000) :
    MSpec Try.prog 28 [(0, .box 38 e.cs), (1, evR l)] [.own 1, e.av, .v (.int .i64 kind), .fn g [.box 0 0]] (.v (.slice none 0 0)) [(0, .box 38 e.cs)] := by
  dsimp only [Ev.av, Ev.cs]
  refine mspec_of lay_ok 8589998895 10 Try.func28 rfl rfl rfl ?_
  repeat' ((conv => whnf); first | refine Spl.yes (by first | assumption | omega) ?_ | refine Spl.no (by first | assumption | omega) ?_ | refine Wr.i64 (by omega) (by omega) ?_ | refine Still.mk rfl rfl ?_ | refine InB.mk (inB_mk (by omega) (by omega)) ?_ | refine Req.mk (by omega) ?_ | refine Req.mk ⟨by first | omega | (dsimp only; omega), by first | omega | (dsimp only; omega)⟩ ?_ | refine ARet.hdI ?_ | refine Spl.mk (fun _ => ?_) (fun _ => ?_) | refine InA.mk (inB_mk (by omega) (by omega)) ?_ | refine Wr.b64 ?_ | refine Wr.bu64 ?_ | refine Wr.bu32 ?_ | refine Wr.bu8 ?_ | refine Wr.u8 (by omega) (by omega) ?_ | refine Wr.u64 (by omega) (by omega) ?_ | refine Wr.u32 (by omega) (by omega) ?_ | refine Dv.pos (by omega) (by omega) ?_ | refine Rm.pos (by omega) (by omega) ?_ | refine ADraw.quiet follows_ok (by kernel_rfl) rfl ?_ | refine BSpl.decY (by first | assumption | omega) ?_ | refine BSpl.decN (by first | assumption | omega) ?_ | refine BSpl.dec (fun _ => ?_) (fun _ => ?_) | refine BSpl.yes (by assumption) ?_ | refine BSpl.no (by assumption) ?_ | refine BSpl.mk (fun _ => ?_) (fun _ => ?_))
  conv => whnf
  refine ALoop.frz 1 rfl ?_
  refine ALoop.mk (Took (woutP kind same e) l) (fun x => match x with
    | ⟨(j, []), _⟩ => ⟨[(0, .sl 12 l.length true (evF l)), (2, .v (.int .i64 kind)), (3, .fn g [.box 0 0]), (5, .box 10 0), (9, .v (.slice none 0 0)), (12, .sl 12 l.length true (evF l)), (13, .v (.int .i64 (l.length : Int))), (14, .v (.int .i64 (j : Int)))], [(10, .box 38 e.cs), (0, .box 38 e.cs)], [[(0, .box 0 0), (1, .sl 12 l.length true (evF l))]], 11⟩
    | ⟨(j, y :: ys), _⟩ => ⟨[(0, .sl 12 l.length true (evF l)), (2, .v (.int .i64 kind)), (3, .fn g [.box 0 0]), (5, .box 10 0), (9, .own 90), (12, .sl 12 l.length true (evF l)), (13, .v (.int .i64 (l.length : Int))), (14, .v (.int .i64 (j : Int)))], [(10, .box 38 e.cs), (0, .box 38 e.cs), (90, .row 38 12 (ys.length + 1) true (evF (y :: ys)))], [[(0, .box 0 0), (1, .sl 12 l.length true (evF l))]], 91⟩) (fun x => l.length - x.1.1) ⟨(0, []), Nat.zero_le _, rfl⟩ _
    (LeR.mk' [] _ _ _ rfl ⟨AEq.refl _, AEq.refl _, AEq.refl _, AEq.refl _, AEq.refl _, AEq.refl _, AEq.int rfl, AEq.int rfl, trivial⟩ ⟨⟨_, rfl, OEq.refl _⟩, ⟨_, rfl, OEq.refl _⟩, trivial⟩ rfl) ?_
  rintro ⟨⟨j, ys⟩, hj, hys⟩
  dsimp only at hj hys
  rcases ys with _ | ⟨y, ys⟩
  · dsimp only
    by_cases hjl : j < l.length
    · have hab := hs (l.getD (j : Int).toNat default)
      have hbb := below_spec (l.getD (j : Int).toNat default) e
      have hft := filter_take (p := woutP kind same e) hjl
      rw [← hys, List.nil_append] at hft
      rw [show l.getD j default = l.getD (j : Int).toNat default from rfl] at hft
      have hk : ¬ (l.getD (j : Int).toNat default).k = kind → [l.getD j default] = (l.take (j + 1)).filter (woutP kind same e) := fun h => by rw [hft, wout_k h]; rfl
      have hsm : same (l.getD (j : Int).toNat default) = false → [l.getD j default] = (l.take (j + 1)).filter (woutP kind same e) := fun h => by rw [hft, wout_s h]; rfl
      have hbl : belowB (l.getD (j : Int).toNat default) e = false → [l.getD j default] = (l.take (j + 1)).filter (woutP kind same e) := fun h => by rw [hft, wout_b h]; rfl
      have hno : (l.getD (j : Int).toNat default).k = kind → same (l.getD (j : Int).toNat default) = true → belowB (l.getD (j : Int).toNat default) e = true → [] = (l.take (j + 1)).filter (woutP kind same e) := fun h h1 h2 => by rw [hft, wout_n h h1 h2]; simp
      clear hft
      generalize same (l.getD (j : Int).toNat default) = q1 at hab hsm hno
      generalize belowB (l.getD (j : Int).toNat default) e = q2 at hbb hbl hno
      dsimp only [Ev.av, Ev.cs] at hab hbb ⊢
      repeat' ((conv => whnf); first | refine Spl.yes (by first | assumption | omega) ?_ | refine Spl.no (by first | assumption | omega) ?_ | refine Wr.i64 (by omega) (by omega) ?_ | refine Still.mk rfl rfl ?_ | refine InB.mk (inB_mk (by omega) (by omega)) ?_ | refine Req.mk (by omega) ?_ | refine Req.mk ⟨by first | omega | (dsimp only; omega), by first | omega | (dsimp only; omega)⟩ ?_ | refine ACall.chgR 1 [(0, _)] (hab) rfl ⟨rfl, trivial⟩ rfl rfl ?_ | refine ACall.plain _ _ (hbb) (SubL.cons (.eq _) (SubL.cons (.eq _) .nil)) rfl ?_ | refine ARet.hdI ?_ | refine Spl.mk (fun _ => ?_) (fun _ => ?_) | refine InA.mk (inB_mk (by omega) (by omega)) ?_ | refine Wr.b64 ?_ | refine Wr.bu64 ?_ | refine Wr.bu32 ?_ | refine Wr.bu8 ?_ | refine Wr.u8 (by omega) (by omega) ?_ | refine Wr.u64 (by omega) (by omega) ?_ | refine Wr.u32 (by omega) (by omega) ?_ | refine Dv.pos (by omega) (by omega) ?_ | refine Rm.pos (by omega) (by omega) ?_ | refine ADraw.quiet follows_ok (by kernel_rfl) rfl ?_ | refine BSpl.decY (by first | assumption | omega) ?_ | refine BSpl.decN (by first | assumption | omega) ?_ | refine BSpl.dec (fun _ => ?_) (fun _ => ?_) | refine BSpl.yes (by assumption) ?_ | refine BSpl.no (by assumption) ?_ | refine BSpl.mk (fun _ => ?_) (fun _ => ?_))
      all_goals (conv => whnf)
      all_goals first
        | exact ⟨⟨(j + 1, []), hjl, hno (by assumption) (by assumption) (by assumption)⟩, _, LeR.mk' [] _ _ _ rfl ⟨AEq.refl _, AEq.refl _, AEq.refl _, AEq.refl _, AEq.refl _, AEq.refl _, AEq.int rfl, AEq.int rfl, trivial⟩ ⟨⟨_, rfl, OEq.refl _⟩, ⟨_, rfl, OEq.refl _⟩, trivial⟩ rfl, by show l.length - (j + 1) < l.length - j; omega⟩
        | (refine ⟨⟨(j + 1, [l.getD j default]), hjl, by first | exact hk (by assumption) | exact hsm (by assumption) | exact hbl (by assumption)⟩, _, LeR.mk' [(12, 90)] _ _ _ rfl ⟨AEq.refl _, AEq.refl _, AEq.refl _, AEq.refl _, AEq.refl _, AEq.refl _, AEq.int rfl, AEq.int rfl, trivial⟩ ⟨⟨_, rfl, OEq.refl _⟩, ⟨_, rfl, OEq.refl _⟩, ⟨_, rfl, OEq.row rfl (fun m hm => ?_)⟩, trivial⟩ rfl, by show l.length - (j + 1) < l.length - j; omega⟩
           have hm : m < 1 := hm
           obtain rfl : m = 0 := by omega
           rfl)
        | (refine ⟨⟨(j + 1, [l.getD j default]), hjl, by first | exact hk (by assumption) | exact hsm (by assumption) | exact hbl (by assumption)⟩, _, LeR.mk' [(13, 90)] _ _ _ rfl ⟨AEq.refl _, AEq.refl _, AEq.refl _, AEq.refl _, AEq.refl _, AEq.refl _, AEq.int rfl, AEq.int rfl, trivial⟩ ⟨⟨_, rfl, OEq.refl _⟩, ⟨_, rfl, OEq.refl _⟩, ⟨_, rfl, OEq.row rfl (fun m hm => ?_)⟩, trivial⟩ rfl, by show l.length - (j + 1) < l.length - j; omega⟩
           have hm : m < 1 := hm
           obtain rfl : m = 0 := by omega
           rfl)
        | (refine ⟨⟨(j + 1, [l.getD j default]), hjl, by first | exact hk (by assumption) | exact hsm (by assumption) | exact hbl (by assumption)⟩, _, LeR.mk' [(14, 90)] _ _ _ rfl ⟨AEq.refl _, AEq.refl _, AEq.refl _, AEq.refl _, AEq.refl _, AEq.refl _, AEq.int rfl, AEq.int rfl, trivial⟩ ⟨⟨_, rfl, OEq.refl _⟩, ⟨_, rfl, OEq.refl _⟩, ⟨_, rfl, OEq.row rfl (fun m hm => ?_)⟩, trivial⟩ rfl, by show l.length - (j + 1) < l.length - j; omega⟩
           have hm : m < 1 := hm
           obtain rfl : m = 0 := by omega
           rfl)
        | (refine ⟨⟨(j + 1, [l.getD j default]), hjl, by first | exact hk (by assumption) | exact hsm (by assumption) | exact hbl (by assumption)⟩, _, LeR.mk' [(15, 90)] _ _ _ rfl ⟨AEq.refl _, AEq.refl _, AEq.refl _, AEq.refl _, AEq.refl _, AEq.refl _, AEq.int rfl, AEq.int rfl, trivial⟩ ⟨⟨_, rfl, OEq.refl _⟩, ⟨_, rfl, OEq.refl _⟩, ⟨_, rfl, OEq.row rfl (fun m hm => ?_)⟩, trivial⟩ rfl, by show l.length - (j + 1) < l.length - j; omega⟩
           have hm : m < 1 := hm
           obtain rfl : m = 0 := by omega
           rfl)
    · repeat' ((conv => whnf); first | refine Spl.yes (by first | assumption | omega) ?_ | refine Spl.no (by first | assumption | omega) ?_ | refine Wr.i64 (by omega) (by omega) ?_ | refine Still.mk rfl rfl ?_ | refine InB.mk (inB_mk (by omega) (by omega)) ?_ | refine Req.mk (by omega) ?_ | refine Req.mk ⟨by first | omega | (dsimp only; omega), by first | omega | (dsimp only; omega)⟩ ?_ | refine ARet.hdI ?_ | refine Spl.mk (fun _ => ?_) (fun _ => ?_) | refine InA.mk (inB_mk (by omega) (by omega)) ?_ | refine Wr.b64 ?_ | refine Wr.bu64 ?_ | refine Wr.bu32 ?_ | refine Wr.bu8 ?_ | refine Wr.u8 (by omega) (by omega) ?_ | refine Wr.u64 (by omega) (by omega) ?_ | refine Wr.u32 (by omega) (by omega) ?_ | refine Dv.pos (by omega) (by omega) ?_ | refine Rm.pos (by omega) (by omega) ?_ | refine ADraw.quiet follows_ok (by kernel_rfl) rfl ?_ | refine BSpl.decY (by first | assumption | omega) ?_ | refine BSpl.decN (by first | assumption | omega) ?_ | refine BSpl.dec (fun _ => ?_) (fun _ => ?_) | refine BSpl.yes (by assumption) ?_ | refine BSpl.no (by assumption) ?_ | refine BSpl.mk (fun _ => ?_) (fun _ => ?_))
      conv => whnf
      exact ⟨[], rfl, rfl, ⟨⟨_, rfl, OEq.refl _⟩, trivial⟩, rfl, rfl, AEq.refl _⟩
  · dsimp only
    have hyl : ys.length + 1 ≤ j := by
      have h1 := congrArg List.length hys
      have h2 := List.length_filter_le (woutP kind same e) (l.take j)
      rw [List.length_take] at h2
      rw [List.length_cons] at h1
      omega
    by_cases hjl : j < l.length
    · have hab := hs (l.getD (j : Int).toNat default)
      have hbb := below_spec (l.getD (j : Int).toNat default) e
      have hft := filter_take (p := woutP kind same e) hjl
      rw [← hys] at hft
      rw [show l.getD j default = l.getD (j : Int).toNat default from rfl] at hft
      have hk : ¬ (l.getD (j : Int).toNat default).k = kind → y :: (ys ++ [l.getD j default]) = (l.take (j + 1)).filter (woutP kind same e) := fun h => by rw [hft, wout_k h]; rfl
      have hsm : same (l.getD (j : Int).toNat default) = false → y :: (ys ++ [l.getD j default]) = (l.take (j + 1)).filter (woutP kind same e) := fun h => by rw [hft, wout_s h]; rfl
      have hbl : belowB (l.getD (j : Int).toNat default) e = false → y :: (ys ++ [l.getD j default]) = (l.take (j + 1)).filter (woutP kind same e) := fun h => by rw [hft, wout_b h]; rfl
      have hno : (l.getD (j : Int).toNat default).k = kind → same (l.getD (j : Int).toNat default) = true → belowB (l.getD (j : Int).toNat default) e = true → y :: ys = (l.take (j + 1)).filter (woutP kind same e) := fun h h1 h2 => by rw [hft, wout_n h h1 h2]; simp
      clear hft
      generalize same (l.getD (j : Int).toNat default) = q1 at hab hsm hno
      generalize belowB (l.getD (j : Int).toNat default) e = q2 at hbb hbl hno
      dsimp only [Ev.av, Ev.cs] at hab hbb ⊢
      repeat' ((conv => whnf); first | refine Spl.yes (by first | assumption | omega) ?_ | refine Spl.no (by first | assumption | omega) ?_ | refine Wr.i64 (by omega) (by omega) ?_ | refine Still.mk rfl rfl ?_ | refine InB.mk (inB_mk (by omega) (by omega)) ?_ | refine Req.mk (by omega) ?_ | refine Req.mk ⟨by first | omega | (dsimp only; omega), by first | omega | (dsimp only; omega)⟩ ?_ | refine ACall.chgR 1 [(0, _)] (hab) rfl ⟨rfl, trivial⟩ rfl rfl ?_ | refine ACall.plain _ _ (hbb) (SubL.cons (.eq _) (SubL.cons (.eq _) .nil)) rfl ?_ | refine ARet.hdI ?_ | refine Spl.mk (fun _ => ?_) (fun _ => ?_) | refine InA.mk (inB_mk (by omega) (by omega)) ?_ | refine Wr.b64 ?_ | refine Wr.bu64 ?_ | refine Wr.bu32 ?_ | refine Wr.bu8 ?_ | refine Wr.u8 (by omega) (by omega) ?_ | refine Wr.u64 (by omega) (by omega) ?_ | refine Wr.u32 (by omega) (by omega) ?_ | refine Dv.pos (by omega) (by omega) ?_ | refine Rm.pos (by omega) (by omega) ?_ | refine ADraw.quiet follows_ok (by kernel_rfl) rfl ?_ | refine BSpl.decY (by first | assumption | omega) ?_ | refine BSpl.decN (by first | assumption | omega) ?_ | refine BSpl.dec (fun _ => ?_) (fun _ => ?_) | refine BSpl.yes (by assumption) ?_ | refine BSpl.no (by assumption) ?_ | refine BSpl.mk (fun _ => ?_) (fun _ => ?_))
      all_goals (conv => whnf)
      all_goals first
        | exact ⟨⟨(j + 1, y :: ys), hjl, hno (by assumption) (by assumption) (by assumption)⟩, _, LeR.mk' [] _ _ _ rfl ⟨AEq.refl _, AEq.refl _, AEq.refl _, AEq.refl _, AEq.refl _, AEq.refl _, AEq.int rfl, AEq.int rfl, trivial⟩ ⟨⟨_, rfl, OEq.refl _⟩, ⟨_, rfl, OEq.refl _⟩, ⟨_, rfl, OEq.refl _⟩, trivial⟩ rfl, by show l.length - (j + 1) < l.length - j; omega⟩
        | (refine ⟨⟨(j + 1, y :: (ys ++ [l.getD j default])), hjl, by first | exact hk (by assumption) | exact hsm (by assumption) | exact hbl (by assumption)⟩, _, LeR.mk' [(92, 90)] _ _ _ rfl ⟨AEq.refl _, AEq.refl _, AEq.refl _, AEq.refl _, AEq.refl _, AEq.refl _, AEq.int rfl, AEq.int rfl, trivial⟩ ⟨⟨_, rfl, OEq.refl _⟩, ⟨_, rfl, OEq.refl _⟩, ⟨_, rfl, OEq.row (by simp) (fun m hm => ?_)⟩, trivial⟩ rfl, by show l.length - (j + 1) < l.length - j; omega⟩
           exact els_app1 (c := Ev.cs) (l := y :: ys) rfl rfl m hm)
        | (refine ⟨⟨(j + 1, y :: (ys ++ [l.getD j default])), hjl, by first | exact hk (by assumption) | exact hsm (by assumption) | exact hbl (by assumption)⟩, _, LeR.mk' [(93, 90)] _ _ _ rfl ⟨AEq.refl _, AEq.refl _, AEq.refl _, AEq.refl _, AEq.refl _, AEq.refl _, AEq.int rfl, AEq.int rfl, trivial⟩ ⟨⟨_, rfl, OEq.refl _⟩, ⟨_, rfl, OEq.refl _⟩, ⟨_, rfl, OEq.row (by simp) (fun m hm => ?_)⟩, trivial⟩ rfl, by show l.length - (j + 1) < l.length - j; omega⟩
           exact els_app1 (c := Ev.cs) (l := y :: ys) rfl rfl m hm)
        | (refine ⟨⟨(j + 1, y :: (ys ++ [l.getD j default])), hjl, by first | exact hk (by assumption) | exact hsm (by assumption) | exact hbl (by assumption)⟩, _, LeR.mk' [(94, 90)] _ _ _ rfl ⟨AEq.refl _, AEq.refl _, AEq.refl _, AEq.refl _, AEq.refl _, AEq.refl _, AEq.int rfl, AEq.int rfl, trivial⟩ ⟨⟨_, rfl, OEq.refl _⟩, ⟨_, rfl, OEq.refl _⟩, ⟨_, rfl, OEq.row (by simp) (fun m hm => ?_)⟩, trivial⟩ rfl, by show l.length - (j + 1) < l.length - j; omega⟩
           exact els_app1 (c := Ev.cs) (l := y :: ys) rfl rfl m hm)
        | (refine ⟨⟨(j + 1, y :: (ys ++ [l.getD j default])), hjl, by first | exact hk (by assumption) | exact hsm (by assumption) | exact hbl (by assumption)⟩, _, LeR.mk' [(95, 90)] _ _ _ rfl ⟨AEq.refl _, AEq.refl _, AEq.refl _, AEq.refl _, AEq.refl _, AEq.refl _, AEq.int rfl, AEq.int rfl, trivial⟩ ⟨⟨_, rfl, OEq.refl _⟩, ⟨_, rfl, OEq.refl _⟩, ⟨_, rfl, OEq.row (by simp) (fun m hm => ?_)⟩, trivial⟩ rfl, by show l.length - (j + 1) < l.length - j; omega⟩
           exact els_app1 (c := Ev.cs) (l := y :: ys) rfl rfl m hm)
    · have e0 : l.filter (woutP kind same e) = y :: ys := by rw [List.take_of_length_le (by omega)] at hys; exact hys.symm
      rw [hr] at e0
      cases e0
end Go.Proofs.Ytkkpfjifkjbndaa

/-
  A book that is kept (live.State), told as a whole: by each key's events and the number of all; opened at a key, and closed again.
-/
namespace Go.Proofs.Ytkkpfjifkjbndaa
open Go.RowKit

/-! ### Maps: a row without a name gets one, and loses it -/
theorem HidOk.split {X : CX} {k : ByteArray} {r : RW} {post : List (ByteArray × RW)} : ∀ {pre : List (ByteArray × RW)} {hs : List Value}, HidOk X (pre ++ (k, r) :: post) hs → ∃ hp v hq, hs = hp ++ v :: hq ∧ hp.length = pre.length ∧ RowOk X v r.e r.s r.n r.sc r.f ∧ HidOk X (pre ++ post) (hp ++ hq)
  | [], _, ⟨v, q, e, hr, hq⟩ => ⟨[], v, q, e, rfl, hr, hq⟩
  | (_, r') :: pre, _, ⟨v', q, e, hr, hq⟩ => by
    obtain ⟨hp, v, hq', e', hl, h1, h2⟩ := HidOk.split hq
    exact ⟨v' :: hp, v, hq', by rw [e, e']; rfl, by simp [hl], h1, v', _, rfl, hr, h2⟩
theorem HidOk.len {X : CX} : ∀ {rs : List (ByteArray × RW)} {hs : List Value}, HidOk X rs hs → hs.length = rs.length
  | [], _, h => by rw [show _ = [] from h]; rfl
  | _ :: l, _, ⟨v, q, e, _, hq⟩ => by rw [e, List.length_cons, List.length_cons, HidOk.len hq]
theorem HidOk.ρ {w : World} {k : Nat → Prop} {ρ ρ' : Nat → Value} {rs : List (ByteArray × RW)} {hs : List Value} (h : HidOk ⟨w, k, ρ⟩ rs hs) : HidOk ⟨w, k, ρ'⟩ rs hs :=
  HidOk.mono (X := ⟨w, k, ρ⟩) (Y := ⟨w, k, ρ'⟩) (fun _ h => h) (fun _ _ => rfl) (fun _ _ => rfl) h
theorem mpEs_mid {k : ByteArray} {v : Value} {pre post : List ByteArray} {hp hq : List Value} (hl : hp.length = pre.length) : (mpEs (pre ++ k :: post) (hp ++ v :: hq)).Perm (entE k v ++ mpEs (pre ++ post) (hp ++ hq)) := by
  have h1 : (pre ++ k :: post)[pre.length]? = some k := by simp
  have h2 : (hp ++ v :: hq)[pre.length]? = some v := by rw [← hl]; simp
  have := mpEs_at h1 h2
  have e1 : (pre ++ k :: post).eraseIdx pre.length = pre ++ post := by rw [List.eraseIdx_append_of_length_le (Nat.le_refl _)]; simp
  have e2 : (hp ++ v :: hq).eraseIdx pre.length = hp ++ hq := by rw [← hl, List.eraseIdx_append_of_length_le (Nat.le_refl _)]; simp
  rw [e1, e2] at this
  exact this
def re2 (ρ : Nat → Value) (i : Nat) (u : Value) (j : Nat) (v : Value) : Nat → Value := fun x => if x = i then u else if x = j then v else ρ x
/-- A row gets the name j. -/
theorem mp_out {X : CX} {i j : Nat} {t : TypeId} {k : ByteArray} {r : RW} {pre post : List (ByteArray × RW)} (hij : i ≠ j) (h : ObjOk X i (.mp t [] (pre ++ (k, r) :: post))) :
    ∃ u v, hdV u = hdV (X.ρ i) ∧ (blks u ++ blks v).Perm (blks (X.ρ i)) ∧ ObjOk ⟨X.w, X.keep, re2 X.ρ i u j v⟩ i (.mp t [(k, some j)] (pre ++ post)) ∧ ObjOk ⟨X.w, X.keep, re2 X.ρ i u j v⟩ j (.row r.e r.s r.n r.sc r.f) := by
  obtain ⟨b, es, c, vs, hs, e, hh, hi, hr, hp, hn, hst⟩ := h
  have hvs : vs = [] := hi
  subst hvs
  obtain ⟨hp', v, hq, rfl, hl, hrow, hrest⟩ := hr.split
  have hbv : blk1 v = blks v := by obtain ⟨us, ho, _⟩ := hrow; exact blk1_own ho
  have hv : hdV v = v := by obtain ⟨us, ho, _⟩ := hrow; exact hdV_own ho
  refine ⟨.tuple (.map (some b) :: .map (some b) :: (hp' ++ hq)).toArray, v, by rw [e]; rfl, ?_, ⟨b, es, c, [v], hp' ++ hq, by simp [re2], hh, ⟨v, [], rfl, fun i' hi' => by cases hi'; simp [hdρ, re2, hij.symm, hv], rfl⟩, hrest.ρ, ?_, ?_, hst⟩, ?_⟩
  · rw [e, blks_tup, blks_tup, List.flatMap_cons, List.flatMap_cons, List.flatMap_append, List.flatMap_append, List.flatMap_cons, hbv]
    simp only [List.append_assoc]
    refine (List.Perm.append_left _ (List.Perm.append_left _ ?_))
    exact List.perm_append_comm
  · refine hp.trans ?_
    simp only [List.map_nil, List.nil_append, List.map_append, List.map_cons, List.cons_append]
    rw [mpEs_cons]
    refine (mpEs_mid (by simpa using hl)).trans (.of_eq ?_)
    simp
  · simp only [List.map_nil, List.nil_append, List.map_append, List.map_cons, List.cons_append] at hn ⊢
    exact (List.perm_middle.nodup_iff).1 hn
  · show RowOk _ (re2 X.ρ i _ j v j) _ _ _ _ _
    rw [show re2 X.ρ i (.tuple (.map (some b) :: .map (some b) :: (hp' ++ hq)).toArray) j v j = v by simp [re2, hij.symm]]
    exact hrow.mono (X := X) (fun _ h => h) (fun _ _ => rfl) (fun _ _ => rfl)
/-- A key that the map has not gets the name j: of a nil row. -/
theorem mp_fresh {X : CX} {i j : Nat} {t : TypeId} {k : ByteArray} {rs : List (ByteArray × RW)} (hij : i ≠ j) (hk : k ∉ rs.map (·.1)) (h : ObjOk X i (.mp t [] rs)) :
    ObjOk ⟨X.w, X.keep, re2 X.ρ i (X.ρ i) j (.slice none 0 0)⟩ i (.mp t [(k, some j)] rs) := by
  obtain ⟨b, es, c, vs, hs, e, hh, hi, hr, hp, hn, hst⟩ := h
  have hvs : vs = [] := hi
  subst hvs
  refine ⟨b, es, c, [.slice none 0 0], hs, by simp [re2, e], hh, ⟨_, [], rfl, fun i' hi' => by cases hi'; simp [hdρ, re2, hij.symm, hdV], rfl⟩, hr.ρ, ?_, ?_, hst⟩
  · refine hp.trans ?_
    simp only [List.map_nil, List.nil_append, List.map_cons, List.cons_append]
    rw [mpEs_cons]
    exact .refl _
  · simp only [List.map_nil, List.nil_append, List.map_cons, List.cons_append] at hn ⊢
    exact List.nodup_cons.2 ⟨hk, hn⟩
/-- A named row loses its name. -/
theorem mp_in {X : CX} {i j : Nat} {t : TypeId} {k : ByteArray} {rs : List (ByteArray × RW)} {e : TypeId} {s n : Nat} {sc : Bool} {f : Nat → List AV} (h : ObjOk X i (.mp t [(k, some j)] rs)) (hr : ObjOk X j (.row e s n sc f)) :
    ∃ u, hdV u = hdV (X.ρ i) ∧ (blks u).Perm (blks (X.ρ i) ++ blks (X.ρ j)) ∧ ObjOk ⟨X.w, X.keep, re2 X.ρ i u i u⟩ i (.mp t [] ((k, ⟨e, s, n, sc, f⟩) :: rs)) := by
  obtain ⟨b, es, c, vs, hs, e', hh, hi, hhid, hp, hn, hst⟩ := h
  obtain ⟨v, q, rfl, hv, hq⟩ := hi
  have hq : q = [] := hq
  subst hq
  have hv : v = hdV (X.ρ j) := hv j rfl
  rw [hdV_row hr] at hv
  have hrow : RowOk X v e s n sc f := by rw [hv]; exact hr
  have hbv : blk1 v = blks v := by obtain ⟨us, ho, _⟩ := hrow; exact blk1_own ho
  refine ⟨.tuple (.map (some b) :: .map (some b) :: v :: hs).toArray, by rw [e']; rfl, ?_, b, es, c, [], v :: hs, by simp [re2], hh, rfl, ⟨v, hs, rfl, hrow.mono (X := X) (fun _ h => h) (fun _ _ => rfl) (fun _ _ => rfl), HidOk.ρ (w := X.w) (k := X.keep) (ρ := X.ρ) hhid⟩, hp, hn, hst⟩
  rw [e', blks_tup, blks_tup, List.flatMap_cons, List.flatMap_cons, List.flatMap_cons, hbv, hv]
  simp only [List.append_assoc]
  exact (List.Perm.append_left _ List.perm_append_comm)

/-- The same, without other names: where the row j is the nil row. -/
theorem mp_foc {X : CX} {i j : Nat} {t : TypeId} {k : ByteArray} {rs : List (ByteArray × RW)} (hj : X.ρ j = .slice none 0 0) (hk : k ∉ rs.map (·.1)) (h : ObjOk X i (.mp t [] rs)) : ObjOk X i (.mp t [(k, some j)] rs) := by
  obtain ⟨b, es, c, vs, hs, e, hh, hi, hr, hp, hn, hst⟩ := h
  have hvs : vs = [] := hi
  subst hvs
  refine ⟨b, es, c, [.slice none 0 0], hs, e, hh, ⟨_, [], rfl, fun i' hi' => by cases hi'; simp [hdρ, hj, hdV], rfl⟩, hr, ?_, ?_, hst⟩
  · refine hp.trans ?_
    simp only [List.map_nil, List.nil_append, List.map_cons, List.cons_append]
    rw [mpEs_cons]
    exact .refl _
  · simp only [List.map_nil, List.nil_append, List.map_cons, List.cons_append] at hn ⊢
    exact List.nodup_cons.2 ⟨hk, hn⟩
/-- Behind a call, what is known is told in other words. -/
def ImpV (x : AV) (st S : AS) : Prop := ∀ (g : Base) (N : Nat) (bs : List (Array Value)) (ρ : Nat → Value) (a : Act) (w : World) (u : Value), Rel g N bs ρ a w st → C2 (cxOf g w ρ st.heap) x u → ∃ ρ', Rel g N bs ρ' a w S ∧ C2 (cxOf g w ρ' S.heap) x u
theorem ACall.thn {P : Program} {L : Lay} (hL : LayOk P L) {W : Walk} (hW : WOk P W) {d : Nat} {f : FuncId} {avs : List AV} {st : AS} {K : AV → AS → Prop} (hE : Enters P f) (h : ACall P L W d f avs st (fun x st' => ∃ S, ImpV x st' S ∧ K x S)) : ACall P L W d f avs st K := by
  refine .sem hE fun g N bs ρ a w args R hargs => ?_
  refine ((acall_run R hargs h (fun lv fn c hf' hnm hb hsz h' => inl_run hL hW R hargs lv fn c hf' hb hsz h')).2).mono ?_
  rintro e w' ⟨u, x, st', ρ', rfl, ⟨S, hI, hK⟩, R', hc⟩
  obtain ⟨ρ2, R2, hc2⟩ := hI _ _ _ _ _ _ _ R' hc
  exact ⟨u, x, S, ρ2, rfl, hK, R2, hc2⟩
/-- A key that a map has not is looked at: it gets a nil row. -/
theorem ImpV.foc {st : AS} (id d : Nat) {t e : TypeId} {s : Nat} {f : Nat → List AV} {k : ByteArray} {rs : List (ByteArray × RW)} (hs : 0 < s) (hf : findObj id (st.obj d d (.row e s 0 true f)).heap = some (.mp t [] rs)) (hk : k ∉ rs.map (·.1)) :
    ImpV (.tup []) st ⟨(st.obj d d (.row e s 0 true f)).sl, setObj id (.mp t [(k, some d)] rs) (st.obj d d (.row e s 0 true f)).heap, (st.obj d d (.row e s 0 true f)).back, (st.obj d d (.row e s 0 true f)).base⟩ := by
  intro g N bs ρ a w u R hc
  have R1 : Rel g N bs (reρ ρ d (.slice none 0 0)) a w (st.obj d d (.row e s 0 true f)) := by
    refine R.obj d d R.below (Nat.le_refl _) (fun _ _ _ => rfl) (fun b hb => by cases hb) (fun _ => ?_)
    exact ⟨[], by simpa [cxOf, reρ] using World.ownsRow_nil w _ e s, hs, fun i hi => absurd hi (by omega), (fun _ x hx => by cases hx), All2.nil⟩
  have ho := R1.objs _ (findObj_mem hf)
  have hd : reρ ρ d (.slice none 0 0) d = .slice none 0 0 := by simp [reρ]
  obtain ⟨b, es, c, vs, hs', e', _⟩ := ho
  have e' : reρ ρ d (.slice none 0 0) id = _ := e'
  obtain ⟨vs', rfl, hvs'⟩ : ∃ us : List Value, u = .tuple us.toArray ∧ All2 _ [] us := hc
  refine ⟨_, R1.write hf (b := b) (by rw [e']; exact List.mem_cons_self) (Below.refl _ _) rfl (fun _ _ => rfl) (fun hk' hm => ?_), vs', rfl, hvs'.1, fun i x u hx => by simp at hx⟩
  exact ObjOk.same (X := cxOf g w (reρ ρ d (.slice none 0 0)) (st.obj d d (.row e s 0 true f)).heap) (Y := cxOf g w (reρ ρ d (.slice none 0 0)) (setObj id (.mp t [(k, some d)] rs) (st.obj d d (.row e s 0 true f)).heap)) hk' hm rfl (fun _ _ => rfl) (mp_foc hd hk (R1.objs _ (findObj_mem hf)))

/-! ### The book -/
def stB (d : Int) (m : AV) (n : Int) : AO := .box 64 [.v (.int .u32 d), .v (.int .i32 0), .v (.int .u32 0), m, .v (.int .i64 n)]
def rwE (l : List Ev) : RW := ⟨38, 12, l.length, true, evF l⟩
abbrev mapT : TypeId := 59
def hidE (kv : List (ByteArray × List Ev)) : List (ByteArray × RW) := kv.map fun p => (p.1, rwE p.2)
theorem hidE_keys (kv : List (ByteArray × List Ev)) : (hidE kv).map (·.1) = kv.map (·.1) := by simp [hidE, Function.comp_def]
def kvGet : List (ByteArray × List Ev) → ByteArray → List Ev
  | [], _ => []
  | p :: l, k => if p.1 = k then p.2 else kvGet l k
/-- Who holds what of each key. -/
structure KV (K : ByteArray → List Ev) (m : Nat) (kv : List (ByteArray × List Ev)) : Prop where
  nd : (kv.map (·.1)).Nodup
  eq : ∀ k, K k = kvGet kv k
  ln : kv.length ≤ m
  ky : ∀ p ∈ kv, p.1.size ≤ 9223372036854775807
inductive LiveX (K : ByteArray → List Ev) (m : Nat) : Type where
  | new (h : ∀ k, K k = [])
  | old (kv : List (ByteArray × List Ev)) (h : KV K m kv)
def liveHs (K : ByteArray → List Ev) (n : Int) (m : Nat) : LiveX K m → List (Nat × AO)
  | .new _ => [(0, stB 0 (.v (.map none)) n)]
  | .old kv _ => [(0, stB 1 (.own 1) n), (1, .mp mapT [] (hidE kv))]
def liveO (K : ByteArray → List Ev) (n : Int) (m : Nat) : OB := OB.pack (liveHs K n m)
/-- Opened at a key. -/
inductive LiveY (K : ByteArray → List Ev) (m : Nat) (k : ByteArray) : Type where
  | new (h : ∀ k, K k = [])
  | old (kv : List (ByteArray × List Ev)) (hn : (kv.map (·.1)).Nodup) (hk : k ∉ kv.map (·.1)) (he : ∀ q, q ≠ k → K q = kvGet kv q) (hm : kv.length ≤ m) (hky : ∀ p ∈ kv, p.1.size ≤ 9223372036854775807)
def liveGs (K : ByteArray → List Ev) (n : Int) (m : Nat) (k : ByteArray) : LiveY K m k → List (Nat × AO)
  | .new _ => [(0, stB 0 (.v (.map none)) n)]
  | .old kv _ _ _ _ _ => [(0, stB 1 (.own 1) n), (1, .mp mapT [(k, some 2)] (hidE kv)), (2, evR (K k))]
theorem kvGet_mem : ∀ {kv : List (ByteArray × List Ev)} {k : ByteArray}, k ∈ kv.map (·.1) → ∃ pre l post, kv = pre ++ (k, l) :: post ∧ k ∉ pre.map (·.1)
  | [], _, h => by cases h
  | (q, l) :: kv, k, h => by
    by_cases e : q = k
    · subst e; exact ⟨[], l, kv, rfl, by simp⟩
    · have : k ∈ kv.map (·.1) := by
        rcases List.mem_cons.1 h with h | h
        · exact absurd h.symm e
        · exact h
      obtain ⟨pre, l', post, rfl, hn⟩ := kvGet_mem this
      exact ⟨(q, l) :: pre, l', post, rfl, by simp only [List.map_cons, List.mem_cons, not_or]; exact ⟨fun h => e h.symm, hn⟩⟩
theorem kvGet_none : ∀ {kv : List (ByteArray × List Ev)} {k : ByteArray}, k ∉ kv.map (·.1) → kvGet kv k = []
  | [], _, _ => rfl
  | (q, l) :: kv, k, h => by
    simp only [List.map_cons, List.mem_cons, not_or] at h
    simp only [kvGet]
    rw [if_neg (fun e => h.1 e.symm)]
    exact kvGet_none h.2
theorem kvGet_app : ∀ {pre post : List (ByteArray × List Ev)} {k : ByteArray}, k ∉ pre.map (·.1) → kvGet (pre ++ post) k = kvGet post k
  | [], _, _, _ => rfl
  | (q, l) :: pre, post, k, h => by
    simp only [List.map_cons, List.mem_cons, not_or] at h
    simp only [List.cons_append, kvGet]
    rw [if_neg (fun e => h.1 e.symm)]
    exact kvGet_app h.2
theorem kvGet_mid {k : ByteArray} {l : List Ev} : ∀ {pre post : List (ByteArray × List Ev)} {q : ByteArray}, q ≠ k → kvGet (pre ++ (k, l) :: post) q = kvGet (pre ++ post) q
  | [], _, q, h => by simp only [List.nil_append, kvGet]; rw [if_neg (fun e => h e.symm)]
  | (p, m) :: pre, post, q, h => by
    simp only [List.cons_append, kvGet]
    rw [kvGet_mid h]
theorem hd_re2 {X : CX} {i j : Nat} {u v : Value} (hij : i ≠ j) : re2 X.ρ i u j v j = v := by simp [re2, hij.symm]
theorem liveO_opens (K : ByteArray → List Ev) (n : Int) (m : Nat) (k : ByteArray) : Opens (liveO K n m) 0 (liveGs K n m k) := by
  refine (Opens.pack (liveHs K n m)).imp fun X y hnd hok => ?_
  cases y with
  | new h => exact ⟨.new h, X.ρ, rfl, .refl _, hok⟩
  | old kv h =>
    have h0 := hok (0, stB 1 (.own 1) n) List.mem_cons_self
    have h1 := hok (1, .mp mapT [] (hidE kv)) (List.mem_cons_of_mem _ List.mem_cons_self)
    have box : ∀ (ρ' : Nat → Value), ρ' 0 = X.ρ 0 → hdV (ρ' 1) = hdV (X.ρ 1) → ObjOk ⟨X.w, X.keep, ρ'⟩ 0 (stB 1 (.own 1) n) := by
      intro ρ' e0 e1
      obtain ⟨b, us, e, hh, ha⟩ := h0
      refine ⟨b, us, e0.trans e, hh, ha.1, fun i x u hx hu => ?_⟩
      have := ha.2 i x u hx hu
      exact C0.refQ (X := X) (Y := ⟨X.w, X.keep, ρ'⟩) (q := fun _ => false) (j := 1) (fun _ h => h) rfl (fun _ h => by cases h) e1 (by
        have hm := List.mem_of_getElem? hx
        simp only [List.mem_cons, List.not_mem_nil, or_false] at hm
        rcases hm with rfl | rfl | rfl | rfl | rfl <;> rfl) this
    by_cases hk : k ∈ kv.map (·.1)
    · obtain ⟨pre, l, post, rfl, hpre⟩ := kvGet_mem hk
      have hK : K k = l := by rw [h.eq, kvGet_app hpre]; simp [kvGet]
      have hm : hidE (pre ++ (k, l) :: post) = hidE pre ++ (k, rwE l) :: hidE post := by simp [hidE]
      rw [hm] at h1
      obtain ⟨u, v, hu, hp, g1, g2⟩ := mp_out (i := 1) (j := 2) (by decide) h1
      have hnd' := h.nd
      rw [List.map_append, List.map_cons] at hnd'
      have hnd2 := (List.perm_middle.nodup_iff).1 hnd'
      rw [← List.map_append] at hnd2
      refine ⟨.old (pre ++ post) (List.nodup_cons.1 hnd2).2 (List.nodup_cons.1 hnd2).1 (fun q hq => by rw [h.eq, kvGet_mid hq]) (by have := h.ln; simp at this ⊢; omega) (fun p hp => h.ky p (by rcases List.mem_append.1 hp with hp | hp <;> simp [hp])), re2 X.ρ 1 u 2 v, by simp [re2], ?_, ?_⟩
      · show (blocksOf (re2 X.ρ 1 u 2 v) [(0, stB 1 (.own 1) n), (1, .mp mapT [(k, some 2)] (hidE (pre ++ post))), (2, evR (K k))]).Perm (blocksOf X.ρ [(0, stB 1 (.own 1) n), (1, .mp mapT [] (hidE (pre ++ (k, l) :: post)))])
        simp only [blocks_cons]
        rw [show re2 X.ρ 1 u 2 v 0 = X.ρ 0 from rfl, show re2 X.ρ 1 u 2 v 1 = u from rfl, show re2 X.ρ 1 u 2 v 2 = v from rfl]
        refine List.Perm.append_left _ ?_
        rw [← List.append_assoc]
        exact hp.append_right _
      · intro p hp'
        simp only [liveGs, List.mem_cons, List.not_mem_nil, or_false] at hp'
        rcases hp' with rfl | rfl | rfl
        · exact box _ rfl hu
        · have : hidE (pre ++ post) = hidE pre ++ hidE post := by simp [hidE]
          rw [this]; exact g1
        · rw [hK]; exact g2
    · refine ⟨.old kv h.nd hk (fun q _ => h.eq q) h.ln h.ky, re2 X.ρ 1 (X.ρ 1) 2 (.slice none 0 0), by simp [re2], ?_, ?_⟩
      · show (blocksOf (re2 X.ρ 1 (X.ρ 1) 2 (.slice none 0 0)) [(0, stB 1 (.own 1) n), (1, .mp mapT [(k, some 2)] (hidE kv)), (2, evR (K k))]).Perm (blocksOf X.ρ [(0, stB 1 (.own 1) n), (1, .mp mapT [] (hidE kv))])
        simp only [blocks_cons]
        exact .refl _
      · intro p hp'
        simp only [liveGs, List.mem_cons, List.not_mem_nil, or_false] at hp'
        rcases hp' with rfl | rfl | rfl
        · exact box _ rfl rfl
        · exact mp_fresh (i := 1) (by decide) (by rw [hidE_keys]; exact hk) h1
        · rw [h.eq, kvGet_none hk]
          exact ⟨[], World.ownsRow_nil _ _ _ _, by decide, fun i hi => absurd hi (by simp), fun _ x hx => absurd hx (by simp [flat]), All2.nil⟩
theorem box_one {X : CX} {t : TypeId} {cs : List AV} (h : ObjOk X 0 (.box t cs)) : (hdV (X.ρ 0)).oneCell' = true := by
  obtain ⟨b, us, e, _⟩ := h
  rw [e]; rfl
theorem liveO_new (K : ByteArray → List Ev) (n : Int) (m : Nat) (h : ∀ k, K k = []) : Closes [(0, stB 0 (.v (.map none)) n)] 0 (liveO K n m) :=
  Closes.pack (liveHs K n m) (.new h) rfl fun _ hok => box_one (hok _ List.mem_cons_self)
/-- Closed: the key k holds l now. -/
theorem liveO_closes (K' : ByteArray → List Ev) (n : Int) (m : Nat) (j : Nat) (_hj : 2 ≤ j) (k : ByteArray) (l : List Ev) (kv : List (ByteArray × List Ev)) (hn : (kv.map (·.1)).Nodup) (hk : k ∉ kv.map (·.1)) (he : ∀ q, q ≠ k → K' q = kvGet kv q) (hl : K' k = l) (hm : kv.length + 1 ≤ m) (hky : ∀ p ∈ kv, p.1.size ≤ 9223372036854775807) (hks : k.size ≤ 9223372036854775807) :
    Closes [(0, stB 1 (.own 1) n), (1, .mp mapT [(k, some j)] (hidE kv)), (j, evR l)] 0 (liveO K' n m) := by
  have hkv : KV K' m ((k, l) :: kv) := ⟨List.nodup_cons.2 ⟨hk, hn⟩, fun q => by
    simp only [kvGet]
    split
    · rename_i e; rw [← e]; exact hl
    · rename_i e; exact he q (fun h => e h.symm), by simpa using hm, fun p hp => by
    rcases List.mem_cons.1 hp with rfl | hp
    · exact hks
    · exact hky p hp⟩
  refine (Closes.pack (liveHs K' n m) (.old ((k, l) :: kv) hkv) rfl fun X hok => box_one (hok _ List.mem_cons_self)).imp fun X hnd hok => ?_
  have h0 := hok (0, stB 1 (.own 1) n) List.mem_cons_self
  have h1 := hok (1, .mp mapT [(k, some j)] (hidE kv)) (List.mem_cons_of_mem _ List.mem_cons_self)
  have h2 := hok (j, evR l) (List.mem_cons_of_mem _ (List.mem_cons_of_mem _ List.mem_cons_self))
  obtain ⟨u, hu, hp, g1⟩ := mp_in h1 h2
  have hsub : (blocksOf (re2 X.ρ 1 u 1 u) [(0, stB 1 (.own 1) n), (1, .mp mapT [] (hidE ((k, l) :: kv)))]).Perm (blocksOf X.ρ [(0, stB 1 (.own 1) n), (1, .mp mapT [(k, some j)] (hidE kv)), (j, evR l)]) := by
    simp only [blocks_cons]
    rw [show re2 X.ρ 1 u 1 u 0 = X.ρ 0 from rfl, show re2 X.ρ 1 u 1 u 1 = u from rfl]
    refine List.Perm.append_left _ ?_
    rw [← List.append_assoc]
    exact hp.append_right _
  refine ⟨re2 X.ρ 1 u 1 u, rfl, hsub.nodup_iff.2 hnd, fun b hb => hsub.mem_iff.1 hb, fun p hp' => ?_⟩
  simp only [liveHs, List.mem_cons, List.not_mem_nil, or_false] at hp'
  rcases hp' with rfl | rfl
  · obtain ⟨b, us, e, hh, ha⟩ := h0
    refine ⟨b, us, e, hh, ha.1, fun i x v hx hv => ?_⟩
    have := ha.2 i x v hx hv
    exact C0.refQ (X := X) (Y := ⟨X.w, X.keep, re2 X.ρ 1 u 1 u⟩) (q := fun _ => false) (j := 1) (fun _ h => h) rfl (fun _ h => by cases h) hu (by
      have hm := List.mem_of_getElem? hx
      simp only [List.mem_cons, List.not_mem_nil, or_false] at hm
      rcases hm with rfl | rfl | rfl | rfl | rfl <;> rfl) this
  · exact g1
end Go.Proofs.Ytkkpfjifkjbndaa
