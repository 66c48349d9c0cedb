/-
  Two events are equal just if all of theirs is: what the comparison of the program tells.
-/
import Derived.Test.YtbmojelnkldecaaTxt
import Derived.Laws.StructEq
import Derived.Laws.Cover2
namespace Go.Proofs.Ytbmojelnkldecaa
open Go.RowKit

def Clk.vs (c : Clk) : List Value := [.int .i64 c.c0, .int .i64 c.c1, .int .i64 c.c2, .int .i64 c.c3, .int .i64 c.c4]
def Ev.vs (e : Ev) : List Value := [.int .i64 e.r, .int .i64 e.n, .int .i64 e.c.c0, .int .i64 e.c.c1, .int .i64 e.c.c2, .int .i64 e.c.c3, .int .i64 e.c.c4, .int .i64 e.h, .int .i64 e.k, .string e.key, .int .i64 e.l, .string e.v]

theorem bytes_inj {a b : ByteArray} (h : a.data.toList = b.data.toList) : a = b := by
  cases a; cases b
  simp only at h
  rw [Array.toList_inj.1 h]

theorem tl_iff (a b : ByteArray) : a.toList = b.toList ↔ a = b := by
  rw [ByteArray.toList_eq, ByteArray.toList_eq]
  exact ⟨bytes_inj, fun h => by rw [h]⟩

theorem ev_guard : Try.prog.eqGuardType Try.prog.depth 25 = false := by kernel_rfl
theorem clk_eqIn (n : Nat) (a0 a1 a2 a3 a4 b0 b1 b2 b3 b4 : Int) (w : World) : (Op.equalIn (n + 2) 23 (.agg #[.int .i64 a0, .int .i64 a1, .int .i64 a2, .int .i64 a3, .int .i64 a4]) (.agg #[.int .i64 b0, .int .i64 b1, .int .i64 b2, .int .i64 b3, .int .i64 b4])).run Try.prog w =
    .ok (decide (a0 = b0 ∧ a1 = b1 ∧ a2 = b2 ∧ a3 = b3 ∧ a4 = b4)) w := by
  rw [Op.equalIn]
  simp only [Sem.run_bind, run_underlying Try.underlying23, Result.andThen_ok]
  simp only [Std.Legacy.Range.forIn_eq_forIn_range', Std.Legacy.Range.size, Nat.sub_zero, Nat.add_sub_cancel, Nat.div_one, List.range'_succ, List.range'_zero, List.forIn_cons, List.forIn_nil]
  have u3 := Try.underlying3
  have a3 := Try.isAgg3
  have z3 := Try.sizeOf3
  go_simp
  repeat' split
  all_goals simp_all
theorem Clk.eq_iff (a b : Clk) : (a.c0 = b.c0 ∧ a.c1 = b.c1 ∧ a.c2 = b.c2 ∧ a.c3 = b.c3 ∧ a.c4 = b.c4) ↔ a = b := by
  obtain ⟨a0, a1, a2, a3, a4⟩ := a
  obtain ⟨b0, b1, b2, b3, b4⟩ := b
  simp
theorem clk_guard : Try.prog.eqGuardType Try.prog.depth 23 = false := by kernel_rfl
theorem clk_eq (a b : Clk) : EqFact Try.prog 23 a.vs b.vs (a = b) :=
  ⟨clk_guard, fun w => ⟨_, by rw [decide_eq_true_eq, Clk.eq_iff], clk_eqIn 9998 _ _ _ _ _ _ _ _ _ _ w⟩⟩

theorem ev_eqIn (a b : Ev) (w : World) : (Op.equalIn 10000 25 (.agg a.vs.toArray) (.agg b.vs.toArray)).run Try.prog w =
    .ok (decide (a.r = b.r ∧ a.n = b.n ∧ (a.c.c0 = b.c.c0 ∧ a.c.c1 = b.c.c1 ∧ a.c.c2 = b.c.c2 ∧ a.c.c3 = b.c.c3 ∧ a.c.c4 = b.c.c4) ∧ a.h = b.h ∧ a.k = b.k ∧ a.key = b.key ∧ a.l = b.l ∧ a.v = b.v)) w := by
  have hS : Try.prog.underlying 25 = some (.struct (Try.prog.fieldsOf 25)) := by kernel_rfl
  have u3 := Try.underlying3
  have a3 := Try.isAgg3
  have z3 := Try.sizeOf3
  have u4 := Try.underlying9
  have a4 := Try.isAgg9
  have z4 := Try.sizeOf9
  have a5 := Try.isAgg23
  have z5 := Try.sizeOf23
  rw [show (10000 : Nat) = 9999 + 1 from rfl, run_equalIn_agg w 9999 25 _ _ hS (by kernel_rfl)]
  simp only [Program.fieldsOf, Try.underlying25]
  have hk := clk_eqIn 9997
  unfold Ev.vs
  go_simp
  simp only [tl_iff]
  repeat' split
  all_goals simp_all
theorem Ev.eq_iff (a b : Ev) : (a.r = b.r ∧ a.n = b.n ∧ (a.c.c0 = b.c.c0 ∧ a.c.c1 = b.c.c1 ∧ a.c.c2 = b.c.c2 ∧ a.c.c3 = b.c.c3 ∧ a.c.c4 = b.c.c4) ∧ a.h = b.h ∧ a.k = b.k ∧ a.key = b.key ∧ a.l = b.l ∧ a.v = b.v) ↔ a = b := by
  rw [Clk.eq_iff]
  obtain ⟨a0, a1, a2, a3, a4, a5, a6, a7⟩ := a
  obtain ⟨b0, b1, b2, b3, b4, b5, b6, b7⟩ := b
  simp
theorem ev_eq (a b : Ev) : EqFact Try.prog 25 a.vs b.vs (a = b) :=
  ⟨ev_guard, fun w => ⟨_, by rw [decide_eq_true_eq, Ev.eq_iff], ev_eqIn a b w⟩⟩
end Go.Proofs.Ytbmojelnkldecaa
