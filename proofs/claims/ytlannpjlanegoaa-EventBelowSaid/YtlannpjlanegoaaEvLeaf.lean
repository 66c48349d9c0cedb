/-
  What the small functions below package event compute: within, long, Has, Below, Key, Label, Value, Edit, May. Each contract is for every input.
-/
import Derived.Test.YtlannpjlanegoaaChecked
import Derived.Test.YtlannpjlanegoaaMem
import Derived.Test.YtlannpjlanegoaaPlain
import Derived.WalkSpells
import Derived.WalkLawsBesides
import Derived.Handy
import Derived.Deep.QuietTactic
import Derived.BigQuiet
namespace Go.Proofs.Ytlannpjlanegoaa
open Go.RowKit

def Clk.val (c : Clk) : Value := .agg #[.int .i64 c.c0, .int .i64 c.c1, .int .i64 c.c2, .int .i64 c.c3, .int .i64 c.c4]
def Ev.cells (e : Ev) : Array Value := #[.int .i64 e.r, .int .i64 e.n, .int .i64 e.c.c0, .int .i64 e.c.c1, .int .i64 e.c.c2, .int .i64 e.c.c3, .int .i64 e.c.c4, .int .i64 e.h, .int .i64 e.k, .string e.key, .int .i64 e.l, .string e.v]
def Ev.val (e : Ev) : Value := .agg e.cells
def Ed.val (e : Ed) : Value := .agg #[.int .i64 e.k, .string e.key, .int .i64 e.l, .string e.v]

theorem ev_size : (Try.prog.info? 25).map (·.size) = some 12 := by kernel_rfl

/-- A whole event out of its block; into a block; out of a result's block. -/
theorem wpList_loadEv {ops : Array Oper} {rest : List Oper} {o : Oper} {a : Act} {w : World} {Q : Exit → Act → World → Prop} (hgd : o.guard = none) (x : Operand) (ho : o.op = .load 25 x)
    (g : Nat) (hx : a.eval x = .pointer (some ⟨g, 0, none⟩)) (cs : Array Value) (hg : w.heap[g]? = some (.cells cs 25 (0, 0))) (hsz : cs.size = 12)
    (h : wpList Try.prog ops Q rest (a.put o.dst (.agg cs)) w) : wpList Try.prog ops Q (o :: rest) a w :=
  wpList_load_row hgd _ x ho g hx _ cs (0, 0) _ hg Try.underlying25 rfl (by rw [hsz]; exact ev_size) h
theorem wpList_storeEv {ops : Array Oper} {rest : List Oper} {o : Oper} {a : Act} {w : World} {Q : Exit → Act → World → Prop} (hgd : o.guard = none) (x y : Operand) (ho : o.op = .store 25 x y)
    (g : Nat) (cs : Array Value) (hx : a.eval x = .pointer (some ⟨g, 0, none⟩)) (hy : a.eval y = .agg cs) (old : Array Value) (hg : w.heap[g]? = some (.cells old 25 (0, 0))) (hsz : cs.size = 12) (hso : old.size = 12) (h1 : cs.toList.all (·.oneCell') = true)
    (h : wpList Try.prog ops Q rest (a.put o.dst undef) (w.setRow g cs)) : wpList Try.prog ops Q (o :: rest) a w :=
  wpList_store_row hgd _ x y ho g cs hx hy _ old hg (by rw [hsz]; exact ev_size) (by rw [hso, hsz]) (by rw [← Array.all_toList]; exact h1) h
theorem results_ev {fn : Func} {p : Tmp} (h : fn.results = #[.cell p 25]) (tmps : Array Value) (w : World) (g : Nat) (cs : Array Value) (hp : tmps.getD p undef = .pointer (some ⟨g, 0, none⟩)) (hg : w.heap[g]? = some (.cells cs 25 (0, 0))) (hsz : cs.size = 12) :
    (results fn tmps).run Try.prog w = .ok (.agg cs) w :=
  results_cell_row h tmps w g _ cs (0, 0) _ hp hg Try.underlying25 rfl (by rw [hsz]; exact ev_size)

set_option maxHeartbeats 400000 in
theorem within_any (n a b : Int) (w : World) :
    Calls Try.prog 22 #[.int .i64 n, .int .i64 a, .int .i64 b] w fun e w' => e = .returned (.bool (withinB n a b)) ∧ w = w' := by
  by_cases h : a ≤ n
  · go_enter Try.func22, Try.ntmps22
    go_wp2
    go_ret
    simp [withinB, h]
  · go_enter Try.func22, Try.ntmps22
    go_wp2
    go_ret
    have : decide (a ≤ n) = false := by simp; omega
    simp [withinB, this]

set_option maxHeartbeats 400000 in
theorem isLong_any (k : Int) (w : World) :
    Calls Try.prog 21 #[.int .i64 k] w fun e w' => e = .returned (.bool (isLong k)) ∧ w = w' := by
  by_cases h : k = 1
  · subst h
    go_enter Try.func21, Try.ntmps21
    go_wp2
    go_ret
    simp [isLong]
  · go_enter Try.func21, Try.ntmps21
    go_wp2
    go_ret
    simp [isLong]

set_option maxHeartbeats 400000 in
theorem has_any (c0 c1 c2 c3 c4 r n : Int) (w : World) :
    Calls Try.prog 24 #[.agg #[.int .i64 c0, .int .i64 c1, .int .i64 c2, .int .i64 c3, .int .i64 c4], .int .i64 r, .int .i64 n] w fun e w' => e = .returned (.bool (hasB ⟨c0, c1, c2, c3, c4⟩ r n)) ∧ Below w.heap.size w w' := by
  by_cases h0 : 0 ≤ r
  · by_cases h1 : r < 5
    · by_cases h2 : 1 ≤ n
      · rcases (show r = 0 ∨ r = 1 ∨ r = 2 ∨ r = 3 ∨ r = 4 by omega) with rfl | rfl | rfl | rfl | rfl <;>
        · go_enter Try.func24, Try.ntmps24
          go_wp2
          go_ret
          exact ⟨by simp [hasB, Clk.get, h2], by go_grown⟩
      · go_enter Try.func24, Try.ntmps24
        go_wp2
        go_ret
        exact ⟨by simp [hasB]; omega, by go_grown⟩
    · go_enter Try.func24, Try.ntmps24
      go_wp2
      go_ret
      exact ⟨by simp [hasB]; omega, by go_grown⟩
  · go_enter Try.func24, Try.ntmps24
    go_wp2
    go_ret
    exact ⟨by simp [hasB]; omega, by go_grown⟩

set_option maxHeartbeats 400000 in
theorem below_any (a b : Ev) (w : World) :
    Calls Try.prog 13 #[a.val, b.val] w
     fun e w' => e = .returned (.bool (belowB a b)) ∧ Below w.heap.size w w' := by
  unfold Ev.val Ev.cells
  go_enter Try.func13, Try.ntmps13
  go_wp2_with (go_at_call 24; refine (has_any _ _ _ _ _ _ _ _).mono ?_; rintro e w1 ⟨rfl, hb⟩)
  go_ret
  exact ⟨rfl, Below.trans (b := (w.alloc _).alloc _) (by go_grown) (hb.mono (by simp; omega))⟩

set_option maxHeartbeats 400000 in
theorem label_any (n : Int) (w : World) :
    Calls Try.prog 31 #[.int .i64 n] w fun e w' => e = .returned (.int .i64 (labelE n)) ∧ w = w' := by
  go_enter Try.func31, Try.ntmps31
  go_wp2
  all_goals
    go_ret
    unfold labelE
  · rw [if_neg (by omega)]; exact ⟨rfl, rfl⟩
  · rw [if_pos (by omega)]; exact ⟨rfl, rfl⟩
  · rw [if_neg (by omega)]; exact ⟨rfl, rfl⟩

set_option maxHeartbeats 400000 in
theorem value_any (s : ByteArray) (w : World) :
    Calls Try.prog 32 #[.string s] w fun e w' => e = .returned (.int .i64 (valueE s)) ∧ w = w' := by
  go_enter Try.func32, Try.ntmps32
  go_wp2
  all_goals
    go_ret
    unfold valueE
  · rw [if_neg (by omega)]; exact ⟨rfl, rfl⟩
  · rw [if_pos (by omega)]; exact ⟨rfl, rfl⟩
  · rw [if_neg (by omega)]; exact ⟨rfl, rfl⟩

theorem lettersB_iff (s : ByteArray) : lettersB s = true ↔ ∀ i (h : i < s.size), 97 ≤ (s[i]'h).toNat ∧ (s[i]'h).toNat ≤ 122 := by
  unfold lettersB
  rw [List.all_eq_true]
  constructor
  · intro h i hi
    have := h s[i] (by
      show s.data[i]'hi ∈ s.data.toList
      exact Array.mem_toList_iff.2 (Array.getElem_mem _))
    simpa using this
  · intro h b hb
    obtain ⟨i, hi, rfl⟩ := Array.getElem_of_mem (Array.mem_toList_iff.1 hb)
    have h1 : 97 ≤ (s.data[i]'hi).toNat ∧ (s.data[i]'hi).toNat ≤ 122 := h i hi
    simpa using h1

theorem keyE_ok {s : ByteArray} (h1 : 1 ≤ s.size) (h2 : s.size ≤ 8) (h : ∀ i (h : i < s.size), 97 ≤ (s[i]'h).toNat ∧ (s[i]'h).toNat ≤ 122) : keyE s = 0 := by
  unfold keyE
  rw [if_pos ⟨h1, h2, (lettersB_iff s).2 h⟩]
theorem keyE_no {s : ByteArray} {i : Nat} (hi : i < s.size) (h : ¬ (97 ≤ (s[i]'hi).toNat ∧ (s[i]'hi).toNat ≤ 122)) : keyE s = 10 := by
  unfold keyE
  rw [if_neg (fun hh => h ((lettersB_iff s).1 hh.2.2 i hi))]
theorem keyE_size {s : ByteArray} (h : ¬ (1 ≤ s.size ∧ s.size ≤ 8)) : keyE s = 10 := by
  unfold keyE
  rw [if_neg (fun hh => h ⟨hh.1, hh.2.1⟩)]

set_option maxHeartbeats 1000000 in
theorem key_any (s : ByteArray) (w : World) :
    Calls Try.prog 30 #[.string s] w fun e w' => e = .returned (.int .i64 (keyE s)) ∧ Below w.heap.size w w' := by
  by_cases h1 : 1 ≤ s.size
  · by_cases h2 : s.size ≤ 8
    · go_enter Try.func30, Try.ntmps30
      go_wp2
      go_loopw [] (fun w' => ∃ pos : Nat, w' = w.iter s pos ∧ ∀ i (h : i < s.size), i < pos → 97 ≤ (s[i]'h).toNat ∧ (s[i]'h).toNat ≤ 122) (fun w' => s.size - w'.iterPos w.heap.size)
      case atStart => exact ⟨0, rfl, fun i _ h => by omega⟩
      case round =>
        obtain ⟨pos, rfl, hl⟩ := hrel
        have HL := Lib.hid hl
        clear hl
        by_cases hp : pos < s.size
        · by_cases ha : (s[pos]'hp).toNat < 128
          · have hnx : ∀ ty, (Instr.next (.pointer (some ⟨w.heap.size, 0, none⟩)) true ty).run Try.prog (w.iter s pos) = _ := fun ty => run_next_ascii w s pos ty hp ha
            by_cases h97 : 97 ≤ (s[pos]'hp).toNat
            · by_cases h122 : (s[pos]'hp).toNat ≤ 122
              · go_wp2
                go_roundw
                case rel =>
                  exact ⟨pos + 1, rfl, fun i h hi => by
                    by_cases e : i = pos
                    · subst e; exact ⟨h97, h122⟩
                    · exact HL.out i h (by omega)⟩
                case measure =>
                  simp
                  omega
              · go_wp2
                go_ret
                exact ⟨ret_int (keyE_no hp (fun hh => h122 hh.2)).symm, (Below.refl _ _).alloc (Nat.le_refl _) _⟩
            · go_wp2
              go_ret
              exact ⟨ret_int (keyE_no hp (fun hh => h97 hh.1)).symm, (Below.refl _ _).alloc (Nat.le_refl _) _⟩
          · have hnx : ∀ ty, (Instr.next (.pointer (some ⟨w.heap.size, 0, none⟩)) true ty).run Try.prog (w.iter s pos) = _ := fun ty => run_next_any w s pos ty hp
            have hd := (decode_high s pos hp (by omega)).1
            go_wp2
            go_ret
            exact ⟨ret_int (keyE_no hp (by omega)).symm, (Below.refl _ _).alloc (Nat.le_refl _) _⟩
        · have hnx : ∀ ty, (Instr.next (.pointer (some ⟨w.heap.size, 0, none⟩)) true ty).run Try.prog (w.iter s pos) = _ := fun ty => run_next_end w s pos ty hp
          go_wp2
          go_ret
          exact ⟨ret_int (keyE_ok h1 h2 (fun i h => HL.out i h (by omega))).symm, (Below.refl _ _).alloc (Nat.le_refl _) _⟩
    · go_enter Try.func30, Try.ntmps30
      go_wp2
      go_ret
      exact ⟨ret_int (keyE_size (by omega)).symm, Below.refl _ _⟩
  · go_enter Try.func30, Try.ntmps30
    go_wp2
    go_ret
    exact ⟨ret_int (keyE_size (by omega)).symm, Below.refl _ _⟩

end Go.Proofs.Ytlannpjlanegoaa
