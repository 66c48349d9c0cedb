/-
  What package record computes: which records may be, and their bytes.
-/
import Derived.Test.YtbmojelnkldecaaCrc
import Derived.Test.YtbmojelnkldecaaEvW
import Derived.Test.YtbmojelnkldecaaEvEq
import Derived.Test.YtbmojelnkldecaaVin
namespace Go.Proofs.Ytbmojelnkldecaa
open Go.RowKit

/-- A record, or a frame. -/
structure Rc where
  (k r u : Int) (c : Clk) (ev : List Ev)
instance : Inhabited Ev := ⟨⟨0, 0, ⟨0, 0, 0, 0, 0⟩, 0, 0, ⟨#[]⟩, 0, ⟨#[]⟩⟩⟩
abbrev evF (l : List Ev) : Nat → List AV := elsF Ev.cs l
def Rc.cs (x : Rc) : List AV := [.v (.int .i64 x.k), .v (.int .i64 x.r), .v (.int .i64 x.u), .v (.int .i64 x.c.c0), .v (.int .i64 x.c.c1), .v (.int .i64 x.c.c2), .v (.int .i64 x.c.c3), .v (.int .i64 x.c.c4), .sl 12 x.ev.length true (evF x.ev)]
def Rc.av (x : Rc) : AV := .agg x.cs

def clk0 : Clk := ⟨0, 0, 0, 0, 0⟩
def rcU (k : Int) : Bool := k == 3 || k == 4
def rcE (k : Int) : Bool := k == 1 || k == 2 || k == 5 || k == 4
def rcC (k : Int) : Bool := k == 6
def rcK (k : Int) : Bool := decide (1 ≤ k ∧ k ≤ 6)
def okC (c : Clk) : Bool := okN c.c0 && okN c.c1 && okN c.c2 && okN c.c3 && okN c.c4

set_option maxRecDepth 100000 in
theorem rcFields_spec (k : Int) : ASpec Try.prog 55 [.v (.int .i64 k)] (.tup [.v (.bool (rcU k)), .v (.bool (rcE k)), .v (.bool (rcC k)), .v (.bool (rcK k))]) [] := by
  refine aspec_of lay_ok 43261 Try.func55 rfl rfl rfl ?_
  repeat' ((conv => whnf); first | refine Spl.yes (by first | assumption | omega) ?_ | refine Spl.no (by first | assumption | omega) ?_ | refine Wr.i64 (by omega) (by omega) ?_ | refine Still.mk rfl rfl ?_ | refine InB.mk (inB_mk (by omega) (by omega)) ?_ | refine Req.mk (by omega) ?_ | refine Req.mk ⟨by first | omega | (dsimp only; omega), by first | omega | (dsimp only; omega)⟩ ?_ | refine ARet.hdI ?_ | refine Spl.mk (fun _ => ?_) (fun _ => ?_) | refine Wr.b64 ?_ | refine Wr.bu64 ?_ | refine Wr.bu32 ?_ | refine Wr.bu8 ?_ | refine Wr.u8 (by omega) (by omega) ?_ | refine Wr.u64 (by omega) (by omega) ?_ | refine Wr.u32 (by omega) (by omega) ?_ | refine Dv.pos (by omega) (by omega) ?_ | refine Rm.pos (by omega) (by omega) ?_ | refine ADraw.quiet follows_ok (by kernel_rfl) rfl ?_ | refine BSpl.decY (by first | assumption | omega) ?_ | refine BSpl.decN (by first | assumption | omega) ?_ | refine BSpl.dec (fun _ => ?_) (fun _ => ?_) | refine BSpl.yes (by assumption) ?_ | refine BSpl.no (by assumption) ?_ | refine BSpl.mk (fun _ => ?_) (fun _ => ?_))
  all_goals (conv => whnf)
  all_goals (refine AEqI.mk (AEq.of ?_))
  all_goals first | (subst_vars; rfl) | (simp [rcU, rcE, rcC, rcK, *]; omega)
theorem rcCount_spec (n : Int) : ASpec Try.prog 76 [.v (.int .i64 n)] (.v (.bool (okN n))) [] := by
  refine aspec_of lay_ok 5 Try.func76 rfl rfl rfl ?_
  repeat' ((conv => whnf); first | refine Spl.yes (by first | assumption | omega) ?_ | refine Spl.no (by first | assumption | omega) ?_ | refine Wr.i64 (by omega) (by omega) ?_ | refine Still.mk rfl rfl ?_ | refine InB.mk (inB_mk (by omega) (by omega)) ?_ | refine Req.mk (by omega) ?_ | refine Req.mk ⟨by first | omega | (dsimp only; omega), by first | omega | (dsimp only; omega)⟩ ?_ | refine ARet.hdI ?_ | refine Spl.mk (fun _ => ?_) (fun _ => ?_) | refine Wr.b64 ?_ | refine Wr.bu64 ?_ | refine Wr.bu32 ?_ | refine Wr.bu8 ?_ | refine Wr.u8 (by omega) (by omega) ?_ | refine Wr.u64 (by omega) (by omega) ?_ | refine Wr.u32 (by omega) (by omega) ?_ | refine Dv.pos (by omega) (by omega) ?_ | refine Rm.pos (by omega) (by omega) ?_ | refine ADraw.quiet follows_ok (by kernel_rfl) rfl ?_ | refine BSpl.decY (by first | assumption | omega) ?_ | refine BSpl.decN (by first | assumption | omega) ?_ | refine BSpl.dec (fun _ => ?_) (fun _ => ?_) | refine BSpl.yes (by assumption) ?_ | refine BSpl.no (by assumption) ?_ | refine BSpl.mk (fun _ => ?_) (fun _ => ?_))
  all_goals (conv => whnf)
  all_goals (refine AEqI.mk (AEq.of ?_))
  all_goals simp [okN, withinB, *]

def clkZ (c : Clk) : Bool := decide (c.c0 = 0 ∧ c.c1 = 0 ∧ c.c2 = 0 ∧ c.c3 = 0 ∧ c.c4 = 0)
theorem clkZ_iff (c : Clk) : clkZ c = true ↔ c = clk0 := by
  obtain ⟨a, b, d, e, f⟩ := c
  simp [clkZ, clk0]
def mayR (x : Rc) : Bool :=
  rcK x.k && decide (0 ≤ x.r) && decide (x.r < 5) && okN x.u && decide (x.ev.length ≤ 4096) && okC x.c && (rcU x.k || decide (x.u = 0)) && (rcC x.k || clkZ x.c) && (rcE x.k || decide (x.ev.length = 0)) &&
    x.ev.all (fun e => decide (mayE e = 0)) && (decide (x.k ≠ 1) || decide (x.ev.length = 1))

theorem all_no {l : List Ev} {j : Nat} (hj : j < l.length) (h : ¬ mayE (l.getD j default) = 0) : l.all (fun e => decide (mayE e = 0)) = false := by
  rw [List.all_eq_false]
  refine ⟨l[j], List.getElem_mem hj, ?_⟩
  rw [List.getD, List.getElem?_eq_getElem hj] at h
  simpa using h
theorem all_yes {l : List Ev} (h : ∀ i, i < l.length → mayE (l.getD i default) = 0) : l.all (fun e => decide (mayE e = 0)) = true := by
  rw [List.all_eq_true]
  intro e he
  obtain ⟨i, hi, rfl⟩ := List.mem_iff_getElem.1 he
  have := h i hi
  rw [List.getD, List.getElem?_eq_getElem hi] at this
  simpa using this

theorem rcFields_no (k : Int) (h : ¬ (1 ≤ k ∧ k ≤ 6)) : ASpec Try.prog 55 [.v (.int .i64 k)] (.tup [.v (.bool false), .v (.bool false), .v (.bool false), .v (.bool false)]) [] := by
  have := rcFields_spec k
  rw [show rcU k = false by simp [rcU]; omega, show rcE k = false by simp [rcE]; omega, show rcC k = false by simp [rcC]; omega, show rcK k = false by simp [rcK]; omega] at this
  exact this

set_option maxHeartbeats 8000000 in
set_option maxRecDepth 100000 in
theorem rcMay_spec (x : Rc) (hl : x.ev.length ≤ 140737488355328) : ASpec Try.prog 54 [x.av] (.v (.bool (mayR x))) [] := by
  obtain ⟨k, r, u, ⟨c0, c1, c2, c3, c4⟩, ev⟩ := x
  dsimp only at hl
  rcases (show k = 1 ∨ k = 2 ∨ k = 3 ∨ k = 4 ∨ k = 5 ∨ k = 6 ∨ ¬ (1 ≤ k ∧ k ≤ 6) by omega) with rfl | rfl | rfl | rfl | rfl | rfl | hk
  all_goals dsimp only [Rc.av, Rc.cs]
  all_goals
    refine aspec_of lay_ok 327921128571721606894716287 Try.func54 rfl rfl rfl ?_
    repeat' ((conv => whnf); first | refine Spl.yes (by first | assumption | omega) ?_ | refine Spl.no (by first | assumption | omega) ?_ | refine Wr.i64 (by omega) (by omega) ?_ | refine Still.mk rfl rfl ?_ | refine InB.mk (inB_mk (by omega) (by omega)) ?_ | refine Req.mk (by omega) ?_ | refine Req.mk ⟨by first | omega | (dsimp only; omega), by first | omega | (dsimp only; omega)⟩ ?_ | refine ACall.plain _ _ (rcFields_no _ hk) (SubL.cons (.eq _) .nil) rfl ?_ | refine ACall.plain _ _ (rcFields_spec _) (SubL.cons (.eq _) .nil) rfl ?_ | refine ACall.plain _ _ (rcCount_spec _) (SubL.cons (.eq _) .nil) rfl ?_ | refine ALoop.unr 45 6 rfl ?_ | refine EqA.mk (Clk.vs ⟨c0, c1, c2, c3, c4⟩) (Clk.vs clk0) (Clk.mk c0 c1 c2 c3 c4 = clk0) rfl rfl (clk_eq _ _) ?_ | refine ARet.hdI ?_ | refine Spl.mk (fun _ => ?_) (fun _ => ?_) | refine Wr.b64 ?_ | refine Wr.bu64 ?_ | refine Wr.bu32 ?_ | refine Wr.bu8 ?_ | refine Wr.u8 (by omega) (by omega) ?_ | refine Wr.u64 (by omega) (by omega) ?_ | refine Wr.u32 (by omega) (by omega) ?_ | refine Dv.pos (by omega) (by omega) ?_ | refine Rm.pos (by omega) (by omega) ?_ | refine ADraw.quiet follows_ok (by kernel_rfl) rfl ?_ | refine BSpl.decY (by first | assumption | omega) ?_ | refine BSpl.decN (by first | assumption | omega) ?_ | refine BSpl.dec (fun _ => ?_) (fun _ => ?_) | refine BSpl.yes (by assumption) ?_ | refine BSpl.no (by assumption) ?_ | refine BSpl.mk (fun _ => ?_) (fun _ => ?_))
    all_goals (conv => whnf)
    all_goals first
      | refine AEqI.mk (AEq.of ?_)
      | refine ALoop.mk { j : Nat // j ≤ ev.length ∧ ∀ i, i < j → mayE (ev.getD i default) = 0 } (fun j => ⟨[(1, .box 0 0), (80, .sl 12 ev.length true (evF ev)), (81, .v (.int .i64 (ev.length : Int))), (82, .v (.int .i64 (j.1 : Int)))],
          [(0, .box 39 [.v (.int .i64 _), .v (.int .i64 r), .v (.int .i64 u), .v (.int .i64 c0), .v (.int .i64 c1), .v (.int .i64 c2), .v (.int .i64 c3), .v (.int .i64 c4), .sl 12 ev.length true (evF ev)])], [], 4⟩) (fun j => ev.length - j.1) ⟨0, Nat.zero_le _, fun i h => absurd h (Nat.not_lt_zero i)⟩ _
          (LeR.mk' [] _ _ _ rfl ⟨AEq.refl _, AEq.refl _, AEq.refl _, AEq.int rfl, trivial⟩ ⟨⟨_, rfl, OEq.refl _⟩, trivial⟩ rfl) ?_
    all_goals try (simp [mayR, rcK, rcU, rcE, rcC, okC, clkZ_iff, -List.length_eq_zero_iff, *] <;> omega; done)
    all_goals (rintro ⟨j, hj, hall⟩; dsimp only)
    all_goals repeat' ((conv => whnf); first | refine Spl.yes (by first | assumption | omega) ?_ | refine Spl.no (by first | assumption | omega) ?_ | refine Wr.i64 (by omega) (by omega) ?_ | refine Still.mk rfl rfl ?_ | refine InB.mk (inB_mk (by omega) (by omega)) ?_ | refine Req.mk (by omega) ?_ | refine Req.mk ⟨by first | omega | (dsimp only; omega), by first | omega | (dsimp only; omega)⟩ ?_ | refine ACall.plain _ _ (may_spec (ev.getD (j : Int).toNat default)) (SubL.cons (.eq _) .nil) rfl ?_ | refine ARet.hdI ?_ | refine Spl.mk (fun _ => ?_) (fun _ => ?_) | refine Wr.b64 ?_ | refine Wr.bu64 ?_ | refine Wr.bu32 ?_ | refine Wr.bu8 ?_ | refine Wr.u8 (by omega) (by omega) ?_ | refine Wr.u64 (by omega) (by omega) ?_ | refine Wr.u32 (by omega) (by omega) ?_ | refine Dv.pos (by omega) (by omega) ?_ | refine Rm.pos (by omega) (by omega) ?_ | refine ADraw.quiet follows_ok (by kernel_rfl) rfl ?_ | refine BSpl.decY (by first | assumption | omega) ?_ | refine BSpl.decN (by first | assumption | omega) ?_ | refine BSpl.dec (fun _ => ?_) (fun _ => ?_) | refine BSpl.yes (by assumption) ?_ | refine BSpl.no (by assumption) ?_ | refine BSpl.mk (fun _ => ?_) (fun _ => ?_))
    all_goals first
      | (conv => whnf
         refine ⟨⟨j + 1, by omega, fun i hi => ?_⟩, _, LeR.mk' [] _ _ _ rfl ⟨AEq.refl _, AEq.refl _, AEq.refl _, AEq.int rfl, trivial⟩ ⟨⟨_, rfl, OEq.refl _⟩, trivial⟩ rfl, by show ev.length - (j + 1) < ev.length - j; omega⟩
         rcases Nat.lt_or_ge i j with h | h
         · exact hall i h
         · rw [show i = j by omega]
           exact ‹mayE (ev.getD (j : Int).toNat default) = 0›)
      | (conv => whnf
         refine AEqI.mk (AEq.of ?_)
         have hno := all_no (l := ev) (j := j) (by omega) ‹¬ mayE (ev.getD (j : Int).toNat default) = 0›
         simp [mayR, hno])
      | (conv => whnf
         refine AEqI.mk (AEq.of ?_)
         have hyes := all_yes (l := ev) (fun i hi => hall i (by omega))
         simp [mayR, show okN 0 = true from rfl, rcK, rcU, rcE, rcC, okC, clkZ_iff, -List.length_eq_zero_iff, *] <;> omega)

def evsB (l : List Ev) : List UInt8 := l.flatMap evBytes
def clkB (c : Clk) : List UInt8 := vputI c.c0 ++ vputI c.c1 ++ vputI c.c2 ++ vputI c.c3 ++ vputI c.c4
/-- A record's body. -/
def rcBody (x : Rc) : List UInt8 :=
  [byteOf x.k, byteOf x.r] ++ (if rcU x.k then vputI x.u else []) ++ (if rcC x.k then clkB x.c else []) ++ (if rcE x.k then vput x.ev.length ++ evsB x.ev else [])
def rcBytes (x : Rc) : List UInt8 := vput (sealB (rcBody x)).length ++ sealB (rcBody x)

theorem rcPut_no (x : Rc) (hl : x.ev.length ≤ 140737488355328) (h : mayR x = false) : ASpec Try.prog 23 [x.av] (.tup [.v (.slice none 0 0), .v (.int .i64 1)]) [] := by
  have hm := rcMay_spec x hl
  rw [h] at hm
  refine aspec_of lay_ok 18958650292743101019519 Try.func23 rfl rfl rfl ?_
  repeat' ((conv => whnf); first | refine Spl.yes (by first | assumption | omega) ?_ | refine Spl.no (by first | assumption | omega) ?_ | refine Wr.i64 (by omega) (by omega) ?_ | refine Still.mk rfl rfl ?_ | refine InB.mk (inB_mk (by omega) (by omega)) ?_ | refine Req.mk (by omega) ?_ | refine Req.mk ⟨by first | omega | (dsimp only; omega), by first | omega | (dsimp only; omega)⟩ ?_ | refine ACall.plain _ _ (hm) (SubL.cons (.eq _) .nil) rfl ?_ | refine ARet.hdI ?_ | refine Spl.mk (fun _ => ?_) (fun _ => ?_) | refine Wr.b64 ?_ | refine Wr.bu64 ?_ | refine Wr.bu32 ?_ | refine Wr.bu8 ?_ | refine Wr.u8 (by omega) (by omega) ?_ | refine Wr.u64 (by omega) (by omega) ?_ | refine Wr.u32 (by omega) (by omega) ?_ | refine Dv.pos (by omega) (by omega) ?_ | refine Rm.pos (by omega) (by omega) ?_ | refine ADraw.quiet follows_ok (by kernel_rfl) rfl ?_ | refine BSpl.decY (by first | assumption | omega) ?_ | refine BSpl.decN (by first | assumption | omega) ?_ | refine BSpl.dec (fun _ => ?_) (fun _ => ?_) | refine BSpl.yes (by assumption) ?_ | refine BSpl.no (by assumption) ?_ | refine BSpl.mk (fun _ => ?_) (fun _ => ?_))
  conv => whnf
  exact AEqI.mk (AEq.refl _)
end Go.Proofs.Ytbmojelnkldecaa
