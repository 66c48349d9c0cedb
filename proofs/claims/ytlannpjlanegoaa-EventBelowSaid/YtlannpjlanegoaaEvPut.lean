/-
  What event.Put computes: the bytes of an event that may be, or the error.
-/
import Derived.Test.YtlannpjlanegoaaEvMay
import Derived.Test.YtlannpjlanegoaaVar
import Derived.Deep.RegionHeld3
import Derived.Deep.RegionLaw
import Derived.OneCell
namespace Go.Proofs.Ytlannpjlanegoaa
open Go.RowKit

/-- The captured variable b, in a block of its own, holds the bytes bs, L at most, in a row from base on. -/
def Hb (w : World) (base B L : Nat) (bs : List UInt8) : Prop :=
  base ≤ B ∧ ∃ v n, w.heap[B]? = some (.cells #[v] 28 (0, 0)) ∧ w.ownsRow base 5 1 v n (bs.map bV) ∧ n ≤ L

theorem own_ne {w : World} {base B : Nat} {v u : Value} {n : Nat} {xs : List Value} (h : w.ownsRow base 5 1 v n xs) (hB : w.heap[B]? = some (.cells #[u] 28 (0, 0))) : v.ownBlock ≠ some B := by
  rcases h.2 with ⟨rfl, _⟩ | ⟨g, cap, cur, rfl, _, hh, _⟩
  · simp [Value.ownBlock]
  · intro e
    obtain rfl : g = B := by simpa [Value.ownBlock] using e
    rw [hh] at hB
    simp at hB

theorem hb_done {w w2 : World} {base B n L : Nat} {v u : Value} {bs : List UInt8} (hB : base ≤ B) (hL : n ≤ L) (hbel : Below base w w2) (hv : w2.heap[B]? = some (.cells #[v] 28 (0, 0)))
    (hown : w2.ownsRow base 5 1 u n (bs.map bV)) : Hb (w2.setCell ⟨B, 0, none⟩ u) base B L bs ∧ Below base w (w2.setCell ⟨B, 0, none⟩ u) :=
  ⟨⟨hB, u, n, one_setCell hv, ownsRow_setCell_other hown (own_ne hown hv) u, hL⟩, hbel.setCell hB u⟩

/-- The row has been appended to: what stands then, and the captured variable's block. -/
theorem hb_row {w w1 w2 : World} {base B : Nat} {v u : Value} {n : Nat} {xs : List Value} (hB : base ≤ B) (hv : w.heap[B]? = some (.cells #[u] 28 (0, 0))) (hown : w.ownsRow base 5 1 v n xs) (hb1 : Below w.heap.size w w1) (hg : w1.grownBy w2 v.ownBlock) :
    w2.heap[B]? = some (.cells #[u] 28 (0, 0)) ∧ Below base w w2 := by
  have hlt := lt_of_block hv
  have hsz := hb1.size
  refine ⟨((hg.block B (by omega) (Ne.symm (own_ne hown hv))).trans (hb1.block B hlt)).trans hv, ?_⟩
  exact (hb1.mono (by omega)).grown hg (by omega) (fun k hk => (hown.lt k hk).1)

set_option maxRecDepth 100000 in
set_option maxHeartbeats 1000000 in
theorem number_any (n : Int) (base B L : Nat) (bs : List UInt8) (w : World) (hb : Hb w base B L bs) (h0 : 0 ≤ n) (h1 : n ≤ 16777216) (hl : L ≤ 1000000) :
    Calls Try.prog 18 #[.int .i64 n, .pointer (some ⟨B, 0, none⟩)] w fun x w' => x = .returned (.tuple #[]) ∧ Hb w' base B (L + 10) (bs ++ vputI n) ∧ Below base w w' := by
  obtain ⟨hB, v, n0, hv, hown, hn0⟩ := hb

  have hcell := cell_of_one hv
  have hfree := free_of_one hv
  have hlt := lt_of_block hv
  have hu : IntKind.u64.wrap n = n := IntWalk.u64_in n (by omega)
  go_enter Try.func18, Try.ntmps18
  go_wp2_with fail
  go_region_law
    (first
      | (refine step_call (by rfl) 19 #[.int .u64 n] (by simp [go_sem]) (vput_any _ h0 (by omega) _) ?_; rintro x w1 ⟨A, c, rfl, hown1, hb1⟩; have hsz1 := hb1.size; simp only [World.size_drew] at hsz1; have hc1 := (bcell hb1).1 B 0 hlt; have hf1 := (bcell hb1).2 B 0 hlt)
      | (refine step_appB _ (by rfl) _ _ _ (by rfl) base v _ bs (by rfl) (own_below (hown.drew) hb1) _ _ (vputI n) (by rfl) ((Rd.of_own hown1).src Try.underlying28 (bV_one _)) (by have := vputF_le 9 n.toNat; unfold vputI vput; omega) (by omega) ?_; intro v2 w2 hown2 hg2 hat2; have hsz2 := hg2.size; obtain ⟨A2, c2, rfl, hf2⟩ := own_form hown2; have hc2 : w2.cell? ⟨B, 0, none⟩ = some v := (World.cell?_of_block (hg2.block B (by omega) (Ne.symm (own_ne hown hv)))).trans (hc1.trans hcell); have hf2 : w2.frozen? ⟨B, 0, none⟩ = false := (World.frozen?_of_block (hg2.block B (by omega) (Ne.symm (own_ne hown hv)))).trans (hf1.trans hfree)))
  all_goals
    go_wp2
    go_end0
    obtain ⟨h1, h2⟩ := hb_row hB hv hown ((Below.refl w.heap.size w).drew.trans hb1) hg2
    exact ⟨rfl, hb_done hB (by have := vputF_le 9 n.toNat; unfold vputI vput; omega) h2 h1 hown2⟩

theorem srcS (s : ByteArray) (w : World) : Src Try.prog 1 9 (.string s) s.size (s.data.toList.map bV) w := Src.ofString w Try.underlying9 s

set_option maxRecDepth 100000 in
set_option maxHeartbeats 1000000 in
theorem words_any (s : ByteArray) (base B L : Nat) (bs : List UInt8) (w : World) (hb : Hb w base B L bs) (hs : s.size ≤ 12) (hl : L ≤ 1000000) :
    Calls Try.prog 20 #[.string s, .pointer (some ⟨B, 0, none⟩)] w fun x w' => x = .returned (.tuple #[]) ∧ Hb w' base B (L + 13) (bs ++ words s) ∧ Below base w w' := by
  obtain ⟨hB, v, n0, hv, hown, hn0⟩ := hb

  have hcell := cell_of_one hv
  have hfree := free_of_one hv
  have hlt := lt_of_block hv
  have hu : IntKind.u8.wrap (s.size : Int) = (s.size : Int) := IntWalk.u8_in _ (by omega)
  have HN := Lib.hid (show (s.size : Int) = ((UInt8.ofNat s.size).toNat : Int) by rw [UInt8.toNat_ofNat', Nat.mod_eq_of_lt (by omega)])
  go_enter Try.func20, Try.ntmps20
  go_wp2_with (first
    | (at_builtin; refine wpList_appB _ rfl (.tmp 3) (.tmp 7) _ rfl base v _ bs rfl (hown.alloc _) _ 1 [UInt8.ofNat s.size] rfl (src1 HN.out) (by omega) (by simp; omega) ?_; intro v1 w1 hown1 hg1 hat1; obtain ⟨h1, hbel1⟩ := hb_row hB hv hown (below_own _) hg1; obtain ⟨A1, c1, rfl, hf1⟩ := own_form hown1; have hcell1 := cell_of_one h1; have hfree1 := free_of_one h1)
    | (at_builtin; refine wpList_appB _ rfl (.tmp 9) (.tmp 10) _ rfl base _ _ (bs ++ [UInt8.ofNat s.size]) rfl (ownsRow_setCell_other hown1 (own_ne hown1 h1) _) _ _ s.data.toList rfl (srcS s _) (by omega) (by have := hbel1.size; simp; omega) ?_; intro v2 w2 hown2 hg2 hat2; obtain ⟨h2, hbel2⟩ := hb_row hB (one_setCell h1) (ownsRow_setCell_other hown1 (own_ne hown1 h1) _) (Below.refl _ _) hg2; obtain ⟨A2, c2, rfl, hf2⟩ := own_form hown2; have hcell2 := cell_of_one h2; have hfree2 := free_of_one h2))
  go_end0
  refine ⟨rfl, ?_⟩
  have e : bs ++ [UInt8.ofNat s.size] ++ s.data.toList = bs ++ words s := by simp [words]
  rw [← e]
  exact hb_done hB (by omega) ((hbel1.setCell hB _).trans hbel2) h2 hown2

/-- The value that is put, or the error. -/
def PutE (e : Ev) (w : World) (x : Ending) (w' : World) : Prop := ∃ v, x = .returned (.tuple #[v, .int .i64 (mayE e)]) ∧ OutB w (evOut e) v w'

/-- What an event that may be is like. -/
structure MayB (e : Ev) : Prop where
  r0 : 0 ≤ e.r
  r4 : e.r ≤ 4
  n1 : 1 ≤ e.n
  n2 : e.n ≤ 1048576
  h1 : 1 ≤ e.h
  h2 : e.h ≤ 16777216
  a0 : 0 ≤ e.c.c0 ∧ e.c.c0 ≤ 1048576
  a1 : 0 ≤ e.c.c1 ∧ e.c.c1 ≤ 1048576
  a2 : 0 ≤ e.c.c2 ∧ e.c.c2 ≤ 1048576
  a3 : 0 ≤ e.c.c3 ∧ e.c.c3 ≤ 1048576
  a4 : 0 ≤ e.c.c4 ∧ e.c.c4 ≤ 1048576
  own : e.c.get e.r = e.n - 1
  ed : editE e.ed = 0

theorem mayE_zero {e : Ev} (h : mayE e = 0) : MayB e := by
  unfold mayE at h
  split at h
  · cases h
  · rename_i g1
    split at h
    · cases h
    · rename_i g2
      split at h
      · cases h
      · rename_i g3
        simp only [Bool.not_eq_true, Bool.not_eq_false', Bool.and_eq_true, okN] at g1 g2
        simp only [bne_iff_ne, ne_eq, Decidable.not_not] at g3
        obtain ⟨⟨hr, hn⟩, hh⟩ := g1
        obtain ⟨⟨⟨⟨h0, h1⟩, h2⟩, h3⟩, h4⟩ := g2
        exact ⟨(withinB_true hr).1, (withinB_true hr).2, (withinB_true hn).1, (withinB_true hn).2, (withinB_true hh).1, (withinB_true hh).2, withinB_true h0, withinB_true h1, withinB_true h2, withinB_true h3, withinB_true h4, g3, h⟩

/-- What an edit that may be is like. -/
theorem editE_zero {e : Ed} (h : editE e = 0) : 1 ≤ e.k ∧ e.k ≤ 5 ∧ 1 ≤ e.key.size ∧ e.key.size ≤ 8 ∧ lettersB e.key = true ∧ (isLong e.k = true → 0 ≤ e.l ∧ e.l ≤ 1 ∧ 1 ≤ e.v.size ∧ e.v.size ≤ 12) ∧ (isLong e.k = false → e.l = 0 ∧ e.v.size = 0) := by
  unfold editE at h
  by_cases h1 : e.k < 1 ∨ 5 < e.k
  · rw [if_pos h1] at h; cases h
  · rw [if_neg h1] at h
    by_cases h2 : keyE e.key ≠ 0
    · rw [if_pos h2] at h; exact absurd h h2
    · rw [if_neg h2] at h
      have hk : keyE e.key = 0 := by simpa using h2
      unfold keyE at hk
      split at hk
      · rename_i hk'
        refine ⟨by omega, by omega, hk'.1, hk'.2.1, hk'.2.2, ?_, ?_⟩
        · intro hl
          simp only [isLong, Bool.and_eq_true, bne_iff_ne, ne_eq] at hl
          rw [if_neg (by omega)] at h
          by_cases h3 : labelE e.l ≠ 0
          · rw [if_pos h3] at h; exact absurd h h3
          · rw [if_neg h3] at h
            have h4 : labelE e.l = 0 := by simpa using h3
            unfold labelE at h4
            unfold valueE at h
            split at h4
            · split at h
              · rename_i a b; exact ⟨by omega, by omega, b.1, b.2⟩
              · cases h
            · cases h4
        · intro hl
          simp only [isLong, Bool.and_eq_false_iff, bne_eq_false_iff_eq] at hl
          rw [if_pos hl] at h
          by_cases h3 : e.l ≠ 0
          · rw [if_pos h3] at h; cases h
          · rw [if_neg h3] at h
            by_cases h4 : e.v.size ≠ 0
            · rw [if_pos h4] at h; cases h
            · exact ⟨by simpa using h3, by simpa using h4⟩
      · cases hk

set_option maxHeartbeats 1000000 in
theorem put_no (e : Ev) (w : World) (h : ¬ mayE e = 0) : Calls Try.prog 10 #[e.val] w (PutE e w) := by
  have hb0 : (mayE e != 0) = true := by simp [h]
  have Ho := Lib.hid (show evOut e = [] by unfold evOut; rw [if_neg h])
  clear h
  unfold Ev.val Ev.cells
  go_enter Try.func10, Try.ntmps10
  go_wp2_with (go_at_call 12; refine (may_any e _).mono ?_; rintro x w1 ⟨rfl, hb1⟩)
  go_ret2
  refine ⟨.slice none 0 0, rfl, ?_⟩
  rw [Ho.out]
  exact ⟨none, 0, rfl, World.ownsRow_nil _ _ _ _, below_box hb1⟩

theorem heap_new1 (w : World) (o : Obj) (o' : Obj) : ((w.alloc o).alloc o').heap[w.heap.size]? = some o := by
  rw [Below.heap_alloc _ _ _ (by simp)]
  exact heap_alloc_new w o

end Go.Proofs.Ytlannpjlanegoaa
