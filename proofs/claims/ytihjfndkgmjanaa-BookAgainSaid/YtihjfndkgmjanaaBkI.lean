/-
  The head of all statements of layer 9: the document's example comes to what it must.
-/
import Derived.Test.YtihjfndkgmjanaaBkH
namespace Go.Proofs.Ytihjfndkgmjanaa
open Go.RowKit

def twoL : List Ev := [⟨0, 1, ⟨0, 0, 0, 0, 0⟩, 1, 1, cyS, 0, ⟨#[]⟩⟩, ⟨1, 1, ⟨1, 0, 0, 0, 0⟩, 2, 3, cyS, 0, ⟨#[49]⟩⟩]
theorem liv_one : livingB oneL = [⟨0, 3, ⟨2, 0, 0, 0, 0⟩, 3, 1, cyS, 0, ⟨#[]⟩⟩] := by kernel_rfl
theorem liv_two : livingB twoL = [⟨0, 1, ⟨0, 0, 0, 0, 0⟩, 1, 1, cyS, 0, ⟨#[]⟩⟩] := by kernel_rfl
theorem cou_one : countingB oneL [⟨0, 3, ⟨2, 0, 0, 0, 0⟩, 3, 1, cyS, 0, ⟨#[]⟩⟩] = [] := by kernel_rfl
theorem cou_two : countingB twoL [⟨0, 1, ⟨0, 0, 0, 0, 0⟩, 1, 1, cyS, 0, ⟨#[]⟩⟩] = [⟨1, 1, ⟨1, 0, 0, 0, 0⟩, 2, 3, cyS, 0, ⟨#[49]⟩⟩] := by kernel_rfl
theorem sortL_one (x : List UInt8) : sortL [x] = [x] := by simp [sortL]
theorem sortL_nil : sortL [] = [] := by simp [sortL]
theorem valsF_nil : valsF [] = [] := by
  unfold valsF
  rw [List.map_nil, sortL_nil]
  rfl
theorem compact_one (x : List UInt8) : Lib.compact [x] = [x] := rfl
theorem of_one : ofB oneL = [⟨cyS, false, false, ⟨#[]⟩, ⟨#[]⟩, [], []⟩] := by
  unfold ofB keysB
  rw [liv_one, cou_one, List.map_cons, List.map_nil, sortL_one, compact_one, List.map_cons, List.map_nil]
  unfold contactB
  rw [show setsB ⟨(strL cyS).toArray⟩ 0 [] = [] from rfl, show setsB ⟨(strL cyS).toArray⟩ 1 [] = [] from rfl, show addsB ⟨(strL cyS).toArray⟩ 0 [] = [] from rfl, show addsB ⟨(strL cyS).toArray⟩ 1 [] = [] from rfl, valsF_nil]
  rfl
theorem of_two : ofB twoL = [⟨cyS, true, false, ⟨#[49]⟩, ⟨#[]⟩, [], []⟩] := by
  unfold ofB keysB
  rw [liv_two, cou_two, List.map_cons, List.map_nil, sortL_one, compact_one, List.map_cons, List.map_nil]
  unfold contactB
  rw [show addsB ⟨(strL cyS).toArray⟩ 0 [⟨1, 1, ⟨1, 0, 0, 0, 0⟩, 2, 3, cyS, 0, ⟨#[49]⟩⟩] = [] by kernel_rfl, show addsB ⟨(strL cyS).toArray⟩ 1 [⟨1, 1, ⟨1, 0, 0, 0, 0⟩, 2, 3, cyS, 0, ⟨#[49]⟩⟩] = [] by kernel_rfl, valsF_nil,
    show setsB ⟨(strL cyS).toArray⟩ 0 [⟨1, 1, ⟨1, 0, 0, 0, 0⟩, 2, 3, cyS, 0, ⟨#[49]⟩⟩] = [⟨1, 1, ⟨1, 0, 0, 0, 0⟩, 2, 3, cyS, 0, ⟨#[49]⟩⟩] by kernel_rfl, show setsB ⟨(strL cyS).toArray⟩ 1 [⟨1, 1, ⟨1, 0, 0, 0, 0⟩, 2, 3, cyS, 0, ⟨#[49]⟩⟩] = [] by kernel_rfl]
  rfl
set_option maxHeartbeats 4000000 in
set_option maxRecDepth 100000 in
theorem shown_spec : ASpec Try.prog 11 [] (.v (.bool true)) [] := by
  have h1 : ASpec Try.prog 15 [.sl 12 4 true (evF oneL)] (.sl 7 (ofB oneL).length false (coF (ofB oneL))) [] := of_spec oneL (by decide)
  rw [of_one] at h1
  have h2 : ASpec Try.prog 15 [.sl 12 2 true (evF oneL)] (.sl 7 (ofB twoL).length false (coF (ofB twoL))) [] := (of_spec twoL (by decide)).args (.of (fun X u h => AEq.slF (n := 2) (fun i hi => by
    rcases (show i = 0 ∨ i = 1 by omega) with rfl | rfl
    all_goals rfl) X u h) .nil)
  rw [of_two] at h2
  have h0 := one_spec
  generalize evF oneL = fo at h0 h1 h2
  dsimp only [List.length_cons, List.length_nil] at h1 h2
  refine aspec_of lay_ok 7 Try.func11 rfl rfl rfl ?_
  repeat' ((conv => whnf); first | refine Spl.yes (by first | assumption | omega) ?_ | refine Spl.no (by first | assumption | omega) ?_ | refine Wr.i64 (by omega) (by omega) ?_ | refine Still.mk rfl rfl ?_ | refine InB.mk (inB_mk (by omega) (by omega)) ?_ | refine Req.mk (by omega) ?_ | refine Req.mk ⟨by first | omega | (dsimp only; omega), by first | omega | (dsimp only; omega)⟩ ?_ | refine ACall.plain _ _ (h0) .nil rfl ?_ | refine ACall.plain _ _ (h1) (SubL.cons (.eq _) .nil) rfl ?_ | refine ACall.plain _ _ (h2) (SubL.cons (.eq _) .nil) rfl ?_ | refine ARet.hdI ?_ | refine Spl.mk (fun _ => ?_) (fun _ => ?_) | refine InA.mk (inB_mk (by omega) (by omega)) ?_ | refine Wr.b64 ?_ | refine Wr.bu64 ?_ | refine Wr.bu32 ?_ | refine Wr.bu8 ?_ | refine Wr.u8 (by omega) (by omega) ?_ | refine Wr.u64 (by omega) (by omega) ?_ | refine Wr.u32 (by omega) (by omega) ?_ | refine Dv.pos (by omega) (by omega) ?_ | refine Rm.pos (by omega) (by omega) ?_ | refine ADraw.quiet follows_ok (by kernel_rfl) rfl ?_ | refine BSpl.decY (by first | assumption | omega) ?_ | refine BSpl.decN (by first | assumption | omega) ?_ | refine BSpl.dec (fun _ => ?_) (fun _ => ?_) | refine BSpl.yes (by assumption) ?_ | refine BSpl.no (by assumption) ?_ | refine BSpl.mk (fun _ => ?_) (fun _ => ?_))
  all_goals (conv => whnf)
  all_goals first
    | exact AEqI.mk (AEq.refl _)
    | exact absurd rfl (by assumption)
end Go.Proofs.Ytihjfndkgmjanaa
