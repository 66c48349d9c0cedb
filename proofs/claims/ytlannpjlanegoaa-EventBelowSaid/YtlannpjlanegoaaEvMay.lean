/-
  What text.Edit and event.May compute. Each contract is for every input.
-/
import Derived.Test.YtlannpjlanegoaaEvLeaf
namespace Go.Proofs.Ytlannpjlanegoaa
open Go.RowKit

set_option maxHeartbeats 2000000 in
theorem edit_any (e : Ed) (w : World) :
    Calls Try.prog 23 #[e.val] w fun x w' => x = .returned (.int .i64 (editE e)) ∧ Below w.heap.size w w' := by
  unfold Ed.val
  by_cases hk1 : e.k < 1
  · have Hf := Lib.hid (show editE e = 1 by unfold editE; rw [if_pos (.inl hk1)])
    go_enter Try.func23, Try.ntmps23
    go_wp2
    go_ret
    exact ⟨ret_int Hf.out.symm, below_own _⟩
  by_cases hk5 : 5 < e.k
  · have Hf := Lib.hid (show editE e = 1 by unfold editE; rw [if_pos (.inr hk5)])
    go_enter Try.func23, Try.ntmps23
    go_wp2
    go_ret
    exact ⟨ret_int Hf.out.symm, below_own _⟩
  by_cases hkey : keyE e.key = 0
  case neg =>
    have hb1 : (keyE e.key != 0) = true := by simp [hkey]
    have Hf := Lib.hid (show editE e = keyE e.key by unfold editE; rw [if_neg (by omega), if_pos hkey])
    clear hkey
    go_enter Try.func23, Try.ntmps23
    go_wp2_with (go_at_call 30; refine (key_any _ _).mono ?_; rintro x w1 ⟨rfl, hb⟩; obtain ⟨hc, hf⟩ := bcell hb)
    go_ret
    exact ⟨ret_int Hf.out.symm, below_box hb⟩
  have hkeyb : (keyE e.key != 0) = false := by simp [hkey]
  have Hk := Lib.hid hkey
  clear hkey
  by_cases h12 : e.k = 1 ∨ e.k = 2
  · by_cases hl : e.l = 0
    · by_cases hv : e.v.size = 0
      · have Hf := Lib.hid (show editE e = 0 by unfold editE; rw [if_neg (by omega), if_neg (by simp [Hk.out]), if_pos h12, if_neg (by simp [hl]), if_neg (by simp [hv])])
        have he := isEmpty_of hv
        have hlb : (e.l != 0) = false := by simp [hl]
        clear hv hl
        rcases h12 with h12 | h12
        · have h1 : (e.k == 1) = true := by simp [h12]
          clear h12
          go_enter Try.func23, Try.ntmps23
          go_wp2_with (go_at_call 30; refine (key_any _ _).mono ?_; rintro x w1 ⟨rfl, hb⟩; obtain ⟨hc, hf⟩ := bcell hb)
          go_ret
          exact ⟨ret_int Hf.out.symm, below_box hb⟩
        · have h1 : (e.k == 1) = false := by simp [h12]
          have h2 : (e.k == 2) = true := by simp [h12]
          clear h12
          go_enter Try.func23, Try.ntmps23
          go_wp2_with (go_at_call 30; refine (key_any _ _).mono ?_; rintro x w1 ⟨rfl, hb⟩; obtain ⟨hc, hf⟩ := bcell hb)
          go_ret
          exact ⟨ret_int Hf.out.symm, below_box hb⟩
      · have Hf := Lib.hid (show editE e = 12 by unfold editE; rw [if_neg (by omega), if_neg (by simp [Hk.out]), if_pos h12, if_neg (by simp [hl]), if_pos hv])
        have he := isEmpty_not hv
        have hlb : (e.l != 0) = false := by simp [hl]
        clear hv hl
        rcases h12 with h12 | h12
        · have h1 : (e.k == 1) = true := by simp [h12]
          clear h12
          go_enter Try.func23, Try.ntmps23
          go_wp2_with (go_at_call 30; refine (key_any _ _).mono ?_; rintro x w1 ⟨rfl, hb⟩; obtain ⟨hc, hf⟩ := bcell hb)
          go_ret
          exact ⟨ret_int Hf.out.symm, below_box hb⟩
        · have h1 : (e.k == 1) = false := by simp [h12]
          have h2 : (e.k == 2) = true := by simp [h12]
          clear h12
          go_enter Try.func23, Try.ntmps23
          go_wp2_with (go_at_call 30; refine (key_any _ _).mono ?_; rintro x w1 ⟨rfl, hb⟩; obtain ⟨hc, hf⟩ := bcell hb)
          go_ret
          exact ⟨ret_int Hf.out.symm, below_box hb⟩
    · have Hf := Lib.hid (show editE e = 11 by unfold editE; rw [if_neg (by omega), if_neg (by simp [Hk.out]), if_pos h12, if_pos hl])
      have hlb : (e.l != 0) = true := by simp [hl]
      clear hl
      rcases h12 with h12 | h12
      · have h1 : (e.k == 1) = true := by simp [h12]
        clear h12
        go_enter Try.func23, Try.ntmps23
        go_wp2_with (go_at_call 30; refine (key_any _ _).mono ?_; rintro x w1 ⟨rfl, hb⟩; obtain ⟨hc, hf⟩ := bcell hb)
        go_ret
        exact ⟨ret_int Hf.out.symm, below_box hb⟩
      · have h1 : (e.k == 1) = false := by simp [h12]
        have h2 : (e.k == 2) = true := by simp [h12]
        clear h12
        go_enter Try.func23, Try.ntmps23
        go_wp2_with (go_at_call 30; refine (key_any _ _).mono ?_; rintro x w1 ⟨rfl, hb⟩; obtain ⟨hc, hf⟩ := bcell hb)
        go_ret
        exact ⟨ret_int Hf.out.symm, below_box hb⟩
  · have h1 : (e.k == 1) = false := by simp; omega
    have h2 : (e.k == 2) = false := by simp; omega
    by_cases hl : labelE e.l = 0
    · have hlb : (labelE e.l != 0) = false := by simp [hl]
      have Hf := Lib.hid (show editE e = valueE e.v by unfold editE; rw [if_neg (by omega), if_neg (by simp [Hk.out]), if_neg h12, if_neg (by simp [hl])])
      clear hl h12
      go_enter Try.func23, Try.ntmps23
      go_wp2_with (first | (go_at_call 30; refine (key_any _ _).mono ?_; rintro x w1 ⟨rfl, hb⟩; obtain ⟨hc, hf⟩ := bcell hb) | (go_at_call 31; refine (label_any _ _).mono ?_; rintro x w2 ⟨rfl, rfl⟩) | (go_at_call 32; refine (value_any _ _).mono ?_; rintro x w2 ⟨rfl, rfl⟩))
      go_ret
      exact ⟨ret_int Hf.out.symm, below_box hb⟩
    · have hlb : (labelE e.l != 0) = true := by simp [hl]
      have Hf := Lib.hid (show editE e = labelE e.l by unfold editE; rw [if_neg (by omega), if_neg (by simp [Hk.out]), if_neg h12, if_pos hl])
      clear hl h12
      go_enter Try.func23, Try.ntmps23
      go_wp2_with (first | (go_at_call 30; refine (key_any _ _).mono ?_; rintro x w1 ⟨rfl, hb⟩; obtain ⟨hc, hf⟩ := bcell hb) | (go_at_call 31; refine (label_any _ _).mono ?_; rintro x w2 ⟨rfl, rfl⟩))
      go_ret
      exact ⟨ret_int Hf.out.symm, below_box hb⟩
@[go_sem] theorem clk_index0 (a b c d e : Int) (w : World) : (Instr.index 23 (.agg #[.int .i64 a, .int .i64 b, .int .i64 c, .int .i64 d, .int .i64 e]) (.int .i64 0)).run Try.prog w = .ok (.int .i64 a) w := by kernel_rfl
@[go_sem] theorem clk_index1 (a b c d e : Int) (w : World) : (Instr.index 23 (.agg #[.int .i64 a, .int .i64 b, .int .i64 c, .int .i64 d, .int .i64 e]) (.int .i64 1)).run Try.prog w = .ok (.int .i64 b) w := by kernel_rfl
@[go_sem] theorem clk_index2 (a b c d e : Int) (w : World) : (Instr.index 23 (.agg #[.int .i64 a, .int .i64 b, .int .i64 c, .int .i64 d, .int .i64 e]) (.int .i64 2)).run Try.prog w = .ok (.int .i64 c) w := by kernel_rfl
@[go_sem] theorem clk_index3 (a b c d e : Int) (w : World) : (Instr.index 23 (.agg #[.int .i64 a, .int .i64 b, .int .i64 c, .int .i64 d, .int .i64 e]) (.int .i64 3)).run Try.prog w = .ok (.int .i64 d) w := by kernel_rfl
@[go_sem] theorem clk_index4 (a b c d e : Int) (w : World) : (Instr.index 23 (.agg #[.int .i64 a, .int .i64 b, .int .i64 c, .int .i64 d, .int .i64 e]) (.int .i64 4)).run Try.prog w = .ok (.int .i64 e) w := by kernel_rfl

theorem ctx_at (e : Ev) (h0 : 0 ≤ e.r) (h5 : e.r ≤ 4) : e.cells[2 + e.r.toNat]? = some (.int .i64 (e.c.get e.r)) := by
  unfold Ev.cells Clk.get
  rcases (show e.r = 0 ∨ e.r = 1 ∨ e.r = 2 ∨ e.r = 3 ∨ e.r = 4 by omega) with h | h | h | h | h <;> simp [h]

theorem withinB_true {n a b : Int} (h : withinB n a b = true) : a ≤ n ∧ n ≤ b := by simpa [withinB] using h

set_option maxHeartbeats 1000000 in
theorem may_r (e : Ev) (w : World) (hr : withinB e.r 0 4 = false) :
    Calls Try.prog 12 #[e.val] w fun x w' => x = .returned (.int .i64 (mayE e)) ∧ Below w.heap.size w w' := by
  have Hf := Lib.hid (show mayE e = 1 by simp [mayE, hr])
  unfold Ev.val Ev.cells
  go_enter Try.func12, Try.ntmps12
  go_wp2_with (go_at_call 22; refine (within_any _ _ _ _).mono ?_; rintro e w1 ⟨rfl, rfl⟩)
  go_ret
  exact ⟨ret_int Hf.out.symm, below_own _⟩

set_option maxHeartbeats 1000000 in
theorem may_n (e : Ev) (w : World) (hr : withinB e.r 0 4 = true) (hn : withinB e.n 1 1048576 = false) :
    Calls Try.prog 12 #[e.val] w fun x w' => x = .returned (.int .i64 (mayE e)) ∧ Below w.heap.size w w' := by
  have Hf := Lib.hid (show mayE e = 1 by simp [mayE, hr, hn])
  unfold Ev.val Ev.cells
  go_enter Try.func12, Try.ntmps12
  go_wp2_with (go_at_call 22; refine (within_any _ _ _ _).mono ?_; rintro e w1 ⟨rfl, rfl⟩)
  go_ret
  exact ⟨ret_int Hf.out.symm, below_own _⟩

set_option maxHeartbeats 1000000 in
theorem may_h (e : Ev) (w : World) (hr : withinB e.r 0 4 = true) (hn : withinB e.n 1 1048576 = true) (hh : withinB e.h 1 16777216 = false) :
    Calls Try.prog 12 #[e.val] w fun x w' => x = .returned (.int .i64 (mayE e)) ∧ Below w.heap.size w w' := by
  have Hf := Lib.hid (show mayE e = 1 by simp [mayE, hr, hn, hh])
  unfold Ev.val Ev.cells
  go_enter Try.func12, Try.ntmps12
  go_wp2_with (go_at_call 22; refine (within_any _ _ _ _).mono ?_; rintro e w1 ⟨rfl, rfl⟩)
  go_ret
  exact ⟨ret_int Hf.out.symm, below_own _⟩

set_option maxHeartbeats 1000000 in
theorem may_c0 (e : Ev) (w : World) (hr : withinB e.r 0 4 = true) (hn : withinB e.n 1 1048576 = true) (hh : withinB e.h 1 16777216 = true) (h0 : withinB e.c.c0 0 1048576 = false) :
    Calls Try.prog 12 #[e.val] w fun x w' => x = .returned (.int .i64 (mayE e)) ∧ Below w.heap.size w w' := by
  have Hf := Lib.hid (show mayE e = 1 by simp [mayE, hr, hn, hh, okN, h0])
  unfold Ev.val Ev.cells
  go_enter Try.func12, Try.ntmps12
  go_wp2_with (go_at_call 22; refine (within_any _ _ _ _).mono ?_; rintro e w1 ⟨rfl, rfl⟩)
  refine wp_loop_rounds 1 ?_
  iterate 1 (rw [rounds_succ]; go_wp2_with (go_at_call 22; refine (within_any _ _ _ _).mono ?_; rintro e w1 ⟨rfl, rfl⟩))
  go_ret
  exact ⟨ret_int Hf.out.symm, below_own _⟩

set_option maxHeartbeats 1000000 in
theorem may_c1 (e : Ev) (w : World) (hr : withinB e.r 0 4 = true) (hn : withinB e.n 1 1048576 = true) (hh : withinB e.h 1 16777216 = true) (h0 : withinB e.c.c0 0 1048576 = true) (h1 : withinB e.c.c1 0 1048576 = false) :
    Calls Try.prog 12 #[e.val] w fun x w' => x = .returned (.int .i64 (mayE e)) ∧ Below w.heap.size w w' := by
  have Hf := Lib.hid (show mayE e = 1 by simp [mayE, hr, hn, hh, okN, h0, h1])
  unfold Ev.val Ev.cells
  go_enter Try.func12, Try.ntmps12
  go_wp2_with (go_at_call 22; refine (within_any _ _ _ _).mono ?_; rintro e w1 ⟨rfl, rfl⟩)
  refine wp_loop_rounds 2 ?_
  iterate 2 (rw [rounds_succ]; go_wp2_with (go_at_call 22; refine (within_any _ _ _ _).mono ?_; rintro e w1 ⟨rfl, rfl⟩))
  go_ret
  exact ⟨ret_int Hf.out.symm, below_own _⟩

set_option maxHeartbeats 1000000 in
theorem may_c2 (e : Ev) (w : World) (hr : withinB e.r 0 4 = true) (hn : withinB e.n 1 1048576 = true) (hh : withinB e.h 1 16777216 = true) (h0 : withinB e.c.c0 0 1048576 = true) (h1 : withinB e.c.c1 0 1048576 = true) (h2 : withinB e.c.c2 0 1048576 = false) :
    Calls Try.prog 12 #[e.val] w fun x w' => x = .returned (.int .i64 (mayE e)) ∧ Below w.heap.size w w' := by
  have Hf := Lib.hid (show mayE e = 1 by simp [mayE, hr, hn, hh, okN, h0, h1, h2])
  unfold Ev.val Ev.cells
  go_enter Try.func12, Try.ntmps12
  go_wp2_with (go_at_call 22; refine (within_any _ _ _ _).mono ?_; rintro e w1 ⟨rfl, rfl⟩)
  refine wp_loop_rounds 3 ?_
  iterate 3 (rw [rounds_succ]; go_wp2_with (go_at_call 22; refine (within_any _ _ _ _).mono ?_; rintro e w1 ⟨rfl, rfl⟩))
  go_ret
  exact ⟨ret_int Hf.out.symm, below_own _⟩

set_option maxHeartbeats 1000000 in
theorem may_c3 (e : Ev) (w : World) (hr : withinB e.r 0 4 = true) (hn : withinB e.n 1 1048576 = true) (hh : withinB e.h 1 16777216 = true) (h0 : withinB e.c.c0 0 1048576 = true) (h1 : withinB e.c.c1 0 1048576 = true) (h2 : withinB e.c.c2 0 1048576 = true) (h3 : withinB e.c.c3 0 1048576 = false) :
    Calls Try.prog 12 #[e.val] w fun x w' => x = .returned (.int .i64 (mayE e)) ∧ Below w.heap.size w w' := by
  have Hf := Lib.hid (show mayE e = 1 by simp [mayE, hr, hn, hh, okN, h0, h1, h2, h3])
  unfold Ev.val Ev.cells
  go_enter Try.func12, Try.ntmps12
  go_wp2_with (go_at_call 22; refine (within_any _ _ _ _).mono ?_; rintro e w1 ⟨rfl, rfl⟩)
  refine wp_loop_rounds 4 ?_
  iterate 4 (rw [rounds_succ]; go_wp2_with (go_at_call 22; refine (within_any _ _ _ _).mono ?_; rintro e w1 ⟨rfl, rfl⟩))
  go_ret
  exact ⟨ret_int Hf.out.symm, below_own _⟩

set_option maxHeartbeats 1000000 in
theorem may_c4 (e : Ev) (w : World) (hr : withinB e.r 0 4 = true) (hn : withinB e.n 1 1048576 = true) (hh : withinB e.h 1 16777216 = true) (h0 : withinB e.c.c0 0 1048576 = true) (h1 : withinB e.c.c1 0 1048576 = true) (h2 : withinB e.c.c2 0 1048576 = true) (h3 : withinB e.c.c3 0 1048576 = true) (h4 : withinB e.c.c4 0 1048576 = false) :
    Calls Try.prog 12 #[e.val] w fun x w' => x = .returned (.int .i64 (mayE e)) ∧ Below w.heap.size w w' := by
  have Hf := Lib.hid (show mayE e = 1 by simp [mayE, hr, hn, hh, okN, h0, h1, h2, h3, h4])
  unfold Ev.val Ev.cells
  go_enter Try.func12, Try.ntmps12
  go_wp2_with (go_at_call 22; refine (within_any _ _ _ _).mono ?_; rintro e w1 ⟨rfl, rfl⟩)
  refine wp_loop_rounds 5 ?_
  iterate 5 (rw [rounds_succ]; go_wp2_with (go_at_call 22; refine (within_any _ _ _ _).mono ?_; rintro e w1 ⟨rfl, rfl⟩))
  go_ret
  exact ⟨ret_int Hf.out.symm, below_own _⟩

set_option maxHeartbeats 2000000 in
theorem may_own (e : Ev) (w : World) (hr : withinB e.r 0 4 = true) (hn : withinB e.n 1 1048576 = true) (hh : withinB e.h 1 16777216 = true) (h0 : withinB e.c.c0 0 1048576 = true) (h1 : withinB e.c.c1 0 1048576 = true) (h2 : withinB e.c.c2 0 1048576 = true) (h3 : withinB e.c.c3 0 1048576 = true) (h4 : withinB e.c.c4 0 1048576 = true) (hg : (e.c.get e.r != e.n - 1) = true) :
    Calls Try.prog 12 #[e.val] w fun x w' => x = .returned (.int .i64 (mayE e)) ∧ Below w.heap.size w w' := by
  have Hf := Lib.hid (show mayE e = 1 by simp [mayE, hr, hn, hh, okN, h0, h1, h2, h3, h4, hg])
  obtain ⟨hr0, hr4⟩ := withinB_true hr
  obtain ⟨hn0, hn1⟩ := withinB_true hn
  have hat := ctx_at e hr0 hr4
  unfold Ev.val
  unfold Ev.cells at hat ⊢
  go_enter Try.func12, Try.ntmps12
  go_wp2_with (go_at_call 22; refine (within_any _ _ _ _).mono ?_; rintro e w1 ⟨rfl, rfl⟩)
  refine wp_loop_rounds 6 ?_
  iterate 6 (rw [rounds_succ]; go_wp2_with (go_at_call 22; refine (within_any _ _ _ _).mono ?_; rintro e w1 ⟨rfl, rfl⟩))
  go_quiet (fail)
  go_wp2
  go_ret
  exact ⟨ret_int Hf.out.symm, below_drewN (below_own _) _⟩

set_option maxHeartbeats 2000000 in
theorem may_fin (e : Ev) (w : World) (hr : withinB e.r 0 4 = true) (hn : withinB e.n 1 1048576 = true) (hh : withinB e.h 1 16777216 = true) (h0 : withinB e.c.c0 0 1048576 = true) (h1 : withinB e.c.c1 0 1048576 = true) (h2 : withinB e.c.c2 0 1048576 = true) (h3 : withinB e.c.c3 0 1048576 = true) (h4 : withinB e.c.c4 0 1048576 = true) (hg : (e.c.get e.r != e.n - 1) = false) :
    Calls Try.prog 12 #[e.val] w fun x w' => x = .returned (.int .i64 (mayE e)) ∧ Below w.heap.size w w' := by
  have Hf := Lib.hid (show mayE e = editE e.ed by simp [mayE, hr, hn, hh, okN, h0, h1, h2, h3, h4, hg])
  obtain ⟨hr0, hr4⟩ := withinB_true hr
  obtain ⟨hn0, hn1⟩ := withinB_true hn
  have hat := ctx_at e hr0 hr4
  unfold Ev.val
  unfold Ev.cells at hat ⊢
  go_enter Try.func12, Try.ntmps12
  go_wp2_with (go_at_call 22; refine (within_any _ _ _ _).mono ?_; rintro e w1 ⟨rfl, rfl⟩)
  refine wp_loop_rounds 6 ?_
  iterate 6 (rw [rounds_succ]; go_wp2_with (go_at_call 22; refine (within_any _ _ _ _).mono ?_; rintro e w1 ⟨rfl, rfl⟩))
  go_quiet (fail)
  go_wp2_with (go_at_call 23; refine (edit_any ⟨e.k, e.key, e.l, e.v⟩ _).mono ?_; rintro x w1 ⟨rfl, hb⟩)
  go_ret
  exact ⟨ret_int Hf.out.symm, (below_drewN (below_own _) _).trans (hb.mono (by simp))⟩

theorem may_any (e : Ev) (w : World) :
    Calls Try.prog 12 #[e.val] w fun x w' => x = .returned (.int .i64 (mayE e)) ∧ Below w.heap.size w w' := by
  cases hr : withinB e.r 0 4 with
  | false => exact may_r e w hr
  | true =>
  cases hn : withinB e.n 1 1048576 with
  | false => exact may_n e w hr hn
  | true =>
  cases hh : withinB e.h 1 16777216 with
  | false => exact may_h e w hr hn hh
  | true =>
  cases h0 : withinB e.c.c0 0 1048576 with
  | false => exact may_c0 e w hr hn hh h0
  | true =>
  cases h1 : withinB e.c.c1 0 1048576 with
  | false => exact may_c1 e w hr hn hh h0 h1
  | true =>
  cases h2 : withinB e.c.c2 0 1048576 with
  | false => exact may_c2 e w hr hn hh h0 h1 h2
  | true =>
  cases h3 : withinB e.c.c3 0 1048576 with
  | false => exact may_c3 e w hr hn hh h0 h1 h2 h3
  | true =>
  cases h4 : withinB e.c.c4 0 1048576 with
  | false => exact may_c4 e w hr hn hh h0 h1 h2 h3 h4
  | true =>
  cases hg : (e.c.get e.r != e.n - 1) with
  | true => exact may_own e w hr hn hh h0 h1 h2 h3 h4 hg
  | false => exact may_fin e w hr hn hh h0 h1 h2 h3 h4 hg

end Go.Proofs.Ytlannpjlanegoaa
