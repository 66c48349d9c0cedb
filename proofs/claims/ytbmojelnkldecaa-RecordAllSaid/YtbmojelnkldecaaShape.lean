/-
  Which fields a kind of frames names (frame.shapeOf: a literal map is asked).
-/
import Derived.Test.YtbmojelnkldecaaAmUse
import Derived.Test.YtbmojelnkldecaaAmA
import Derived.WalkSpells
import Derived.WalkLawsBesides
import Derived.Handy
import Derived.WideMake
import Derived.Lib.Hide
namespace Go.Proofs.Ytbmojelnkldecaa
open Go.RowKit

def shE (k : Int) : Bool := k == 1 || k == 4
def shU (k : Int) : Bool := k == 2
def shC (k : Int) : Bool := k == 3 || k == 5
def shK (k : Int) : Bool := decide (1 ≤ k ∧ k ≤ 5)

def shapeV (e u c : Bool) : Value := .agg #[.bool e, .bool u, .bool c]
theorem upd_run (w : World) (b : Nat) (es : Array MapEntry) (clock : Nat) (n : Int) (x : Value) (hb : w.heap[b]? = some (.map es clock)) (hn : Instr.findNow (.int .i64) (.int .i64 n) es.toList 0 = some none) :
    (Instr.mapUpdate 106 (.map (some b)) (.int .i64 n) x).run Try.prog w = .ok () { w with heap := w.heap.setIfInBounds b (.map (es.push { key := .int .i64 n, val := x, born := clock }) (clock + 1)) } := by
  have hc : (Instr.checkKey false 10000 3 (.int .i64 n)).run Try.prog w = .ok () w := MapKept.run_checkKey (k := .int .i64 n) Try.underlying3 (by simp [MapKept.IsKey]) false 9999
  simp [Instr.mapUpdate, run_underlying Try.underlying106, MapKept.run_getObj_map hb, hc, MapKept.run_findKey Try.underlying3 hn, MapKept.run_setObj_map _ hb, Result.andThen]
def valOf : Option (Nat × Value) → Value
  | some p => p.2
  | none => shapeV false false false
theorem look_run (w : World) (b : Nat) (es : Array MapEntry) (clock : Nat) (n : Int) (r : Option (Nat × Value)) (hb : w.heap[b]? = some (.map es clock)) (hn : Instr.findNow (.int .i64) (.int .i64 n) es.toList 0 = some r) :
    (Instr.lookup 106 (.map (some b)) (.int .i64 n) true).run Try.prog w = .ok (.tuple #[(valOf r), .bool r.isSome]) w := by
  have hc : (Instr.checkKey es.isEmpty 10000 3 (.int .i64 n)).run Try.prog w = .ok () w := MapKept.run_checkKey (k := .int .i64 n) Try.underlying3 (by simp [MapKept.IsKey]) _ 9999
  have hz : (zeroValue 88).run Try.prog w = .ok (shapeV false false false) w := by kernel_rfl
  cases r with
  | none => simp [Instr.lookup, run_underlying Try.underlying106, MapKept.run_getObj_map hb, hc, MapKept.run_findKey Try.underlying3 hn, hz, Result.andThen, valOf]
  | some p => simp [Instr.lookup, run_underlying Try.underlying106, MapKept.run_getObj_map hb, hc, MapKept.run_findKey Try.underlying3 hn, Result.andThen, valOf]

def ent (n : Int) (e u c : Bool) (b : Nat) : MapEntry := { key := .int .i64 n, val := shapeV e u c, born := b }
def ents : List MapEntry := [ent 1 true false false 0, ent 2 false true false 1, ent 3 false false true 2, ent 4 true false false 3, ent 5 false false true 4]
theorem ents_find (k : Int) : ∃ r, Instr.findNow (.int .i64) (.int .i64 k) ents 0 = some r ∧ (valOf r) = shapeV (shE k) (shU k) (shC k) ∧ r.isSome = shK k := by
  by_cases h : 1 ≤ k ∧ k ≤ 5
  · rcases (show k = 1 ∨ k = 2 ∨ k = 3 ∨ k = 4 ∨ k = 5 by omega) with rfl | rfl | rfl | rfl | rfl <;> exact ⟨_, rfl, rfl, rfl⟩
  · refine ⟨none, ?_, ?_, ?_⟩
    · have h1 : (k == 1) = false := by simp; omega
      have h2 : (k == 2) = false := by simp; omega
      have h3 : (k == 3) = false := by simp; omega
      have h4 : (k == 4) = false := by simp; omega
      have h5 : (k == 5) = false := by simp; omega
      simp [ents, ent, Instr.findNow, Instr.sameNow, h1, h2, h3, h4, h5]
    · simp [valOf, shapeV, shE, shU, shC]; omega
    · simp [shK]; omega

theorem set_push (a : Array Obj) (o o' : Obj) : (a.push o).setIfInBounds a.size o' = a.push o' := by
  apply Array.ext'
  rw [Array.toList_setIfInBounds, Array.toList_push, Array.toList_push, ← Array.length_toList, List.set_append_right _ _ (Nat.le_refl _), Nat.sub_self]
  rfl
theorem set_alloc (w : World) (o o' : Obj) : ({ (w.alloc o) with heap := (w.alloc o).heap.setIfInBounds w.heap.size o' } : World) = w.alloc o' := by
  show ({ w with heap := (w.heap.push o).setIfInBounds w.heap.size o' } : World) = { w with heap := w.heap.push o' }
  rw [set_push]
theorem upd_alloc (w : World) (b : Nat) (l : List MapEntry) (n : Int) (e u c : Bool) (hb : b = w.heap.size) (hn : Instr.findNow (.int .i64) (.int .i64 n) l 0 = some none) :
    (Instr.mapUpdate 106 (.map (some b)) (.int .i64 n) (.agg #[.bool e, .bool u, .bool c])).run Try.prog (w.alloc (.map l.toArray l.length)) = .ok () (w.alloc (.map (l ++ [ent n e u c l.length]).toArray (l.length + 1))) := by
  subst hb
  rw [upd_run _ _ l.toArray l.length n _ (heap_alloc_new w _) (by simpa using hn), set_alloc]
  simp [ent, shapeV]

set_option maxRecDepth 100000 in
set_option maxHeartbeats 4000000 in
theorem shape_any (k : Int) (w : World) : Calls Try.prog 57 #[.int .i64 k] w fun e w' => e = .returned (.tuple #[shapeV (shE k) (shU k) (shC k), .bool (shK k)]) ∧ Below w.heap.size w w' := by
  have hmm := @run_makeMap Try.prog
  obtain ⟨W1, hW⟩ : ∃ W1, W1 = w.alloc (.cells #[.bool false, .bool false, .bool false] 88) := ⟨_, rfl⟩
  have hs : w.heap.size + 1 = W1.heap.size := by rw [hW]; simp
  have h1 : (Instr.mapUpdate 106 (.map (some (w.heap.size + 1))) (.int .i64 1) (.agg #[.bool true, .bool false, .bool false])).run Try.prog (W1.alloc (.map #[] 0)) = .ok () (W1.alloc (.map #[ent 1 true false false 0] 1)) := upd_alloc W1 _ [] 1 true false false hs rfl
  have h2 : (Instr.mapUpdate 106 (.map (some (w.heap.size + 1))) (.int .i64 2) (.agg #[.bool false, .bool true, .bool false])).run Try.prog (W1.alloc (.map #[ent 1 true false false 0] 1)) = .ok () (W1.alloc (.map #[ent 1 true false false 0, ent 2 false true false 1] 2)) := upd_alloc W1 _ [ent 1 true false false 0] 2 false true false hs rfl
  have h3 : (Instr.mapUpdate 106 (.map (some (w.heap.size + 1))) (.int .i64 3) (.agg #[.bool false, .bool false, .bool true])).run Try.prog (W1.alloc (.map #[ent 1 true false false 0, ent 2 false true false 1] 2)) = .ok () (W1.alloc (.map #[ent 1 true false false 0, ent 2 false true false 1, ent 3 false false true 2] 3)) := upd_alloc W1 _ [ent 1 true false false 0, ent 2 false true false 1] 3 false false true hs rfl
  have h4 : (Instr.mapUpdate 106 (.map (some (w.heap.size + 1))) (.int .i64 4) (.agg #[.bool true, .bool false, .bool false])).run Try.prog (W1.alloc (.map #[ent 1 true false false 0, ent 2 false true false 1, ent 3 false false true 2] 3)) = .ok () (W1.alloc (.map #[ent 1 true false false 0, ent 2 false true false 1, ent 3 false false true 2, ent 4 true false false 3] 4)) := upd_alloc W1 _ [ent 1 true false false 0, ent 2 false true false 1, ent 3 false false true 2] 4 true false false hs rfl
  have h5 : (Instr.mapUpdate 106 (.map (some (w.heap.size + 1))) (.int .i64 5) (.agg #[.bool false, .bool false, .bool true])).run Try.prog (W1.alloc (.map #[ent 1 true false false 0, ent 2 false true false 1, ent 3 false false true 2, ent 4 true false false 3] 4)) = .ok () (W1.alloc (.map #[ent 1 true false false 0, ent 2 false true false 1, ent 3 false false true 2, ent 4 true false false 3, ent 5 false false true 4] 5)) := upd_alloc W1 _ [ent 1 true false false 0, ent 2 false true false 1, ent 3 false false true 2, ent 4 true false false 3] 5 false false true hs rfl
  obtain ⟨r, hr1, hr2, hr3⟩ := ents_find k
  have hl := look_run (W1.alloc (.map ents.toArray 5)) (w.heap.size + 1) ents.toArray 5 k r (by rw [hs]; exact heap_alloc_new W1 _) (by simpa using hr1)
  rw [hr2, hr3] at hl
  unfold ents at hl
  rw [hW] at h1 h2 h3 h4 h5 hl
  have H1 := Lib.hid h1
  have H2 := Lib.hid h2
  have H3 := Lib.hid h3
  have H4 := Lib.hid h4
  have H5 := Lib.hid h5
  have HL := Lib.hid hl
  clear h1 h2 h3 h4 h5 hl hr1 hr2 hr3 hs hW
  go_enter Try.func57, Try.ntmps57
  go_wp2
  rw [H1.out]
  go_wp2
  rw [H2.out]
  go_wp2
  rw [H3.out]
  go_wp2
  rw [H4.out]
  go_wp2
  rw [H5.out]
  go_wp2
  rw [HL.out]
  simp only [shapeV]
  go_wp2
  go_returns
  exact ⟨rfl, by go_grown⟩

theorem shape_spec (k : Int) : ASpec Try.prog 57 [.v (.int .i64 k)] (.tup [.agg [.v (.bool (shE k)), .v (.bool (shU k)), .v (.bool (shC k))], .v (.bool (shK k))]) [] := by
  refine ⟨⟨_, _, Try.func57, rfl, rfl⟩, fun w keep args _ hargs => ?_⟩
  obtain ⟨u, rfl, hu⟩ := one_arg hargs
  have hu : u = .int .i64 k := hu
  subst hu
  refine (shape_any k w).mono ?_
  rintro e w' ⟨h1, h2⟩
  exact ⟨_, fun _ => undef, h1, h2, ⟨[.agg #[.bool (shE k), .bool (shU k), .bool (shC k)], .bool (shK k)], rfl, All2.cons ⟨[.bool (shE k), .bool (shU k), .bool (shC k)], rfl, All2.cons rfl (All2.cons rfl (All2.cons rfl All2.nil))⟩ (All2.cons rfl All2.nil)⟩, (fun p hp => by cases hp), by simp [blocksOf], (fun b hb => by simp [blocksOf] at hb)⟩
end Go.Proofs.Ytbmojelnkldecaa
