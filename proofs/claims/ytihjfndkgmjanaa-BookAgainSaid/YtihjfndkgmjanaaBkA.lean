/-
  What the small functions of book tell of events.
-/
import Derived.Test.YtihjfndkgmjanaaAmUse
import Derived.Test.YtihjfndkgmjanaaBkPlain
namespace Go.Proofs.Ytihjfndkgmjanaa
open Go.RowKit

instance : Inhabited Ev := ⟨⟨0, 0, ⟨0, 0, 0, 0, 0⟩, 0, 0, ⟨#[]⟩, 0, ⟨#[]⟩⟩⟩
def Ev.cs (e : Ev) : List AV := [.v (.int .i64 e.r), .v (.int .i64 e.n), .v (.int .i64 e.c.c0), .v (.int .i64 e.c.c1), .v (.int .i64 e.c.c2), .v (.int .i64 e.c.c3), .v (.int .i64 e.c.c4), .v (.int .i64 e.h), .v (.int .i64 e.k), .v (.string e.key), .v (.int .i64 e.l), .v (.string e.v)]
def Ev.av (e : Ev) : AV := .agg e.cs
abbrev evF (l : List Ev) : Nat → List AV := elsF Ev.cs l
def Clk.av (c : Clk) : AV := .agg [.v (.int .i64 c.c0), .v (.int .i64 c.c1), .v (.int .i64 c.c2), .v (.int .i64 c.c3), .v (.int .i64 c.c4)]

theorem has_spec (c : Clk) (r n : Int) : ASpec Try.prog 76 [c.av, .v (.int .i64 r), .v (.int .i64 n)] (.v (.bool (hasB c r n))) [] := by
  obtain ⟨c0, c1, c2, c3, c4⟩ := c
  dsimp only [Clk.av]
  by_cases hr : r = 0 ∨ r = 1 ∨ r = 2 ∨ r = 3 ∨ r = 4
  · rcases hr with rfl | rfl | rfl | rfl | rfl
    all_goals
      refine aspec_of lay_ok 79 Try.func76 rfl rfl rfl ?_
      repeat' ((conv => whnf); first | refine Spl.yes (by first | assumption | omega) ?_ | refine Spl.no (by first | assumption | omega) ?_ | refine Wr.i64 (by omega) (by omega) ?_ | refine Still.mk rfl rfl ?_ | refine InB.mk (inB_mk (by omega) (by omega)) ?_ | refine Req.mk (by omega) ?_ | refine Req.mk ⟨by first | omega | (dsimp only; omega), by first | omega | (dsimp only; omega)⟩ ?_ | refine ARet.hdI ?_ | refine Spl.mk (fun _ => ?_) (fun _ => ?_) | refine InA.mk (inB_mk (by omega) (by omega)) ?_ | refine Wr.b64 ?_ | refine Wr.bu64 ?_ | refine Wr.bu32 ?_ | refine Wr.bu8 ?_ | refine Wr.u8 (by omega) (by omega) ?_ | refine Wr.u64 (by omega) (by omega) ?_ | refine Wr.u32 (by omega) (by omega) ?_ | refine Dv.pos (by omega) (by omega) ?_ | refine Rm.pos (by omega) (by omega) ?_ | refine ADraw.quiet follows_ok (by kernel_rfl) rfl ?_ | refine BSpl.decY (by first | assumption | omega) ?_ | refine BSpl.decN (by first | assumption | omega) ?_ | refine BSpl.dec (fun _ => ?_) (fun _ => ?_) | refine BSpl.yes (by assumption) ?_ | refine BSpl.no (by assumption) ?_ | refine BSpl.mk (fun _ => ?_) (fun _ => ?_))
      all_goals (conv => whnf)
      all_goals (refine AEqI.mk (AEq.of ?_))
      all_goals simp [hasB, Clk.get, *]
  · have h : ¬ (0 ≤ r ∧ r < 5) := by omega
    refine aspec_of lay_ok 79 Try.func76 rfl rfl rfl ?_
    repeat' ((conv => whnf); first | refine Spl.yes (by first | assumption | omega) ?_ | refine Spl.no (by first | assumption | omega) ?_ | refine Wr.i64 (by omega) (by omega) ?_ | refine Still.mk rfl rfl ?_ | refine InB.mk (inB_mk (by omega) (by omega)) ?_ | refine Req.mk (by omega) ?_ | refine Req.mk ⟨by first | omega | (dsimp only; omega), by first | omega | (dsimp only; omega)⟩ ?_ | refine ARet.hdI ?_ | refine Spl.mk (fun _ => ?_) (fun _ => ?_) | refine InA.mk (inB_mk (by omega) (by omega)) ?_ | refine Wr.b64 ?_ | refine Wr.bu64 ?_ | refine Wr.bu32 ?_ | refine Wr.bu8 ?_ | refine Wr.u8 (by omega) (by omega) ?_ | refine Wr.u64 (by omega) (by omega) ?_ | refine Wr.u32 (by omega) (by omega) ?_ | refine Dv.pos (by omega) (by omega) ?_ | refine Rm.pos (by omega) (by omega) ?_ | refine ADraw.quiet follows_ok (by kernel_rfl) rfl ?_ | refine BSpl.decY (by first | assumption | omega) ?_ | refine BSpl.decN (by first | assumption | omega) ?_ | refine BSpl.dec (fun _ => ?_) (fun _ => ?_) | refine BSpl.yes (by assumption) ?_ | refine BSpl.no (by assumption) ?_ | refine BSpl.mk (fun _ => ?_) (fun _ => ?_))
    all_goals (conv => whnf)
    all_goals (refine AEqI.mk (AEq.of ?_))
    all_goals (simp [hasB]; try omega)
theorem below_spec (a b : Ev) : ASpec Try.prog 59 [a.av, b.av] (.v (.bool (belowB a b))) [] := by
  have h := has_spec b.c a.r a.n
  obtain ⟨q, hq⟩ : ∃ q, hasB b.c a.r a.n = q := ⟨_, rfl⟩
  rw [hq] at h
  rw [show belowB a b = q from hq]
  dsimp only [Ev.av, Ev.cs, Clk.av] at h ⊢
  refine aspec_of lay_ok 31 Try.func59 rfl rfl rfl ?_
  repeat' ((conv => whnf); first | refine Spl.yes (by first | assumption | omega) ?_ | refine Spl.no (by first | assumption | omega) ?_ | refine Wr.i64 (by omega) (by omega) ?_ | refine Still.mk rfl rfl ?_ | refine InB.mk (inB_mk (by omega) (by omega)) ?_ | refine Req.mk (by omega) ?_ | refine Req.mk ⟨by first | omega | (dsimp only; omega), by first | omega | (dsimp only; omega)⟩ ?_ | refine ACall.plain _ _ (h) (SubL.cons (.eq _) (SubL.cons (.eq _) (SubL.cons (.eq _) .nil))) rfl ?_ | refine ARet.hdI ?_ | refine Spl.mk (fun _ => ?_) (fun _ => ?_) | refine InA.mk (inB_mk (by omega) (by omega)) ?_ | refine Wr.b64 ?_ | refine Wr.bu64 ?_ | refine Wr.bu32 ?_ | refine Wr.bu8 ?_ | refine Wr.u8 (by omega) (by omega) ?_ | refine Wr.u64 (by omega) (by omega) ?_ | refine Wr.u32 (by omega) (by omega) ?_ | refine Dv.pos (by omega) (by omega) ?_ | refine Rm.pos (by omega) (by omega) ?_ | refine ADraw.quiet follows_ok (by kernel_rfl) rfl ?_ | refine BSpl.decY (by first | assumption | omega) ?_ | refine BSpl.decN (by first | assumption | omega) ?_ | refine BSpl.dec (fun _ => ?_) (fun _ => ?_) | refine BSpl.yes (by assumption) ?_ | refine BSpl.no (by assumption) ?_ | refine BSpl.mk (fun _ => ?_) (fun _ => ?_))
  all_goals (conv => whnf)
  all_goals (refine AEqI.mk (AEq.of ?_))
  all_goals simp [*]
theorem sameK_spec (a b : Ev) : ASpec Try.prog 52 [a.av, b.av] (.v (.bool (sameK a b))) [] := by
  dsimp only [Ev.av, Ev.cs]
  refine aspec_of lay_ok 31 Try.func52 rfl rfl rfl ?_
  repeat' ((conv => whnf); first | refine Spl.yes (by first | assumption | omega) ?_ | refine Spl.no (by first | assumption | omega) ?_ | refine Wr.i64 (by omega) (by omega) ?_ | refine Still.mk rfl rfl ?_ | refine InB.mk (inB_mk (by omega) (by omega)) ?_ | refine Req.mk (by omega) ?_ | refine Req.mk ⟨by first | omega | (dsimp only; omega), by first | omega | (dsimp only; omega)⟩ ?_ | refine ARet.hdI ?_ | refine Spl.mk (fun _ => ?_) (fun _ => ?_) | refine InA.mk (inB_mk (by omega) (by omega)) ?_ | refine Wr.b64 ?_ | refine Wr.bu64 ?_ | refine Wr.bu32 ?_ | refine Wr.bu8 ?_ | refine Wr.u8 (by omega) (by omega) ?_ | refine Wr.u64 (by omega) (by omega) ?_ | refine Wr.u32 (by omega) (by omega) ?_ | refine Dv.pos (by omega) (by omega) ?_ | refine Rm.pos (by omega) (by omega) ?_ | refine ADraw.quiet follows_ok (by kernel_rfl) rfl ?_ | refine BSpl.decY (by first | assumption | omega) ?_ | refine BSpl.decN (by first | assumption | omega) ?_ | refine BSpl.dec (fun _ => ?_) (fun _ => ?_) | refine BSpl.yes (by assumption) ?_ | refine BSpl.no (by assumption) ?_ | refine BSpl.mk (fun _ => ?_) (fun _ => ?_))
  all_goals (conv => whnf)
  all_goals (refine AEqI.mk (AEq.of ?_))
  all_goals simp [sameK, *]
theorem sameL_spec (a b : Ev) : ASpec Try.prog 38 [a.av, b.av] (.v (.bool (sameL a b))) [] := by
  have h := sameK_spec a b
  obtain ⟨q, hq⟩ : ∃ q, sameK a b = q := ⟨_, rfl⟩
  rw [hq] at h
  rw [show sameL a b = (q && decide (a.l = b.l)) by rw [← hq]; rfl]
  dsimp only [Ev.av, Ev.cs] at h ⊢
  refine aspec_of lay_ok 31 Try.func38 rfl rfl rfl ?_
  repeat' ((conv => whnf); first | refine Spl.yes (by first | assumption | omega) ?_ | refine Spl.no (by first | assumption | omega) ?_ | refine Wr.i64 (by omega) (by omega) ?_ | refine Still.mk rfl rfl ?_ | refine InB.mk (inB_mk (by omega) (by omega)) ?_ | refine Req.mk (by omega) ?_ | refine Req.mk ⟨by first | omega | (dsimp only; omega), by first | omega | (dsimp only; omega)⟩ ?_ | refine ACall.plain _ _ (h) (SubL.cons (.eq _) (SubL.cons (.eq _) .nil)) rfl ?_ | refine ARet.hdI ?_ | refine Spl.mk (fun _ => ?_) (fun _ => ?_) | refine InA.mk (inB_mk (by omega) (by omega)) ?_ | refine Wr.b64 ?_ | refine Wr.bu64 ?_ | refine Wr.bu32 ?_ | refine Wr.bu8 ?_ | refine Wr.u8 (by omega) (by omega) ?_ | refine Wr.u64 (by omega) (by omega) ?_ | refine Wr.u32 (by omega) (by omega) ?_ | refine Dv.pos (by omega) (by omega) ?_ | refine Rm.pos (by omega) (by omega) ?_ | refine ADraw.quiet follows_ok (by kernel_rfl) rfl ?_ | refine BSpl.decY (by first | assumption | omega) ?_ | refine BSpl.decN (by first | assumption | omega) ?_ | refine BSpl.dec (fun _ => ?_) (fun _ => ?_) | refine BSpl.yes (by assumption) ?_ | refine BSpl.no (by assumption) ?_ | refine BSpl.mk (fun _ => ?_) (fun _ => ?_))
  all_goals (conv => whnf)
  all_goals (refine AEqI.mk (AEq.of ?_))
  all_goals simp [*]
theorem sameV_spec (a b : Ev) : ASpec Try.prog 39 [a.av, b.av] (.v (.bool (sameV a b))) [] := by
  have h := sameL_spec a b
  obtain ⟨q, hq⟩ : ∃ q, sameL a b = q := ⟨_, rfl⟩
  rw [hq] at h
  rw [show sameV a b = (q && decide (a.v = b.v)) by rw [← hq]; rfl]
  dsimp only [Ev.av, Ev.cs] at h ⊢
  refine aspec_of lay_ok 31 Try.func39 rfl rfl rfl ?_
  repeat' ((conv => whnf); first | refine Spl.yes (by first | assumption | omega) ?_ | refine Spl.no (by first | assumption | omega) ?_ | refine Wr.i64 (by omega) (by omega) ?_ | refine Still.mk rfl rfl ?_ | refine InB.mk (inB_mk (by omega) (by omega)) ?_ | refine Req.mk (by omega) ?_ | refine Req.mk ⟨by first | omega | (dsimp only; omega), by first | omega | (dsimp only; omega)⟩ ?_ | refine ACall.plain _ _ (h) (SubL.cons (.eq _) (SubL.cons (.eq _) .nil)) rfl ?_ | refine ARet.hdI ?_ | refine Spl.mk (fun _ => ?_) (fun _ => ?_) | refine InA.mk (inB_mk (by omega) (by omega)) ?_ | refine Wr.b64 ?_ | refine Wr.bu64 ?_ | refine Wr.bu32 ?_ | refine Wr.bu8 ?_ | refine Wr.u8 (by omega) (by omega) ?_ | refine Wr.u64 (by omega) (by omega) ?_ | refine Wr.u32 (by omega) (by omega) ?_ | refine Dv.pos (by omega) (by omega) ?_ | refine Rm.pos (by omega) (by omega) ?_ | refine ADraw.quiet follows_ok (by kernel_rfl) rfl ?_ | refine BSpl.decY (by first | assumption | omega) ?_ | refine BSpl.decN (by first | assumption | omega) ?_ | refine BSpl.dec (fun _ => ?_) (fun _ => ?_) | refine BSpl.yes (by assumption) ?_ | refine BSpl.no (by assumption) ?_ | refine BSpl.mk (fun _ => ?_) (fun _ => ?_))
  all_goals (conv => whnf)
  all_goals (refine AEqI.mk (AEq.of ?_))
  all_goals simp [*]
end Go.Proofs.Ytihjfndkgmjanaa
