/-
  The statement EventBelow.
-/
import Derived.Test.YtlannpjlanegoaaEvShown
import Derived.Deep.RegionHeld3
namespace Go.Proofs.Ytlannpjlanegoaa
open Go.RowKit

theorem below_self (f : Ev) (m : MayB f) : belowB f f = false := by
  have := m.own
  simp [belowB, hasB]
  omega

theorem below_same (f g : Ev) (m : MayB f) (m' : MayB g) (h : f.r = g.r) : belowB f g = decide (f.n < g.n) := by
  have h1 := m'.own
  have h2 := m.r0
  have h3 := m.r4
  have h4 := m.n1
  simp only [belowB, hasB, h, h1]
  rw [← h]
  congr 1
  simp
  omega

theorem below_not (f g : Ev) (m : MayB f) (h : belowB f g = true) : ¬ ∀ k, k < 5 → cAt g.c k ≤ cAt f.c k := by
  intro hall
  have h0 := hall 0 (by omega); have h1 := hall 1 (by omega); have h2' := hall 2 (by omega); have h3 := hall 3 (by omega); have h4 := hall 4 (by omega)
  simp only [cAt] at h0 h1 h2' h3 h4
  have hb : f.n ≤ g.c.get f.r := by simp [belowB, hasB] at h; exact h.2.2.2
  have ho := m.own
  have r0 := m.r0
  have r4 := m.r4
  rcases (show f.r = 0 ∨ f.r = 1 ∨ f.r = 2 ∨ f.r = 3 ∨ f.r = 4 by omega) with hr | hr | hr | hr | hr <;> simp [Clk.get, hr] at hb ho <;> omega

set_option maxRecDepth 100000 in
set_option maxHeartbeats 4000000 in
theorem below_law (a b : Ev) (w : World) (hk : a.key.size ≤ 140737488355328) (hv : a.v.size ≤ 140737488355328) (hk' : b.key.size ≤ 140737488355328) (hv' : b.v.size ≤ 140737488355328) :
    Calls Try.prog 5 #[a.val, b.val] w fun x w' => x = .returned (.bool true) ∧ Below w.heap.size w w' := by
  unfold Ev.val Ev.cells
  go_enter Try.func5, Try.ntmps5
  go_wp2_with fail
  refine (shown06_any _).mono ?_
  rintro x w1 ⟨rfl, hb1⟩
  have hs1 := hb1.size
  simp only [World.size_alloc] at hs1
  have hx1 : ∀ o, w1.cell? ⟨w.heap.size, o, none⟩ = _ := fun o => (hb1.cell (p := ⟨w.heap.size, o, none⟩) (by simp; omega)).trans ((World.cell?_alloc_lt _ _ _ (by simp)).trans (World.cell?_alloc_new w _ _ o))
  have hy1 : ∀ o, w1.cell? ⟨w.heap.size + 1, o, none⟩ = _ := fun o => (hb1.cell (p := ⟨w.heap.size + 1, o, none⟩) (by simp)).trans ((congrArg (fun n => World.cell? _ ⟨n, o, none⟩) (by simp)).trans (World.cell?_alloc_new (w.alloc _) _ _ o))
  have HB1 := Lib.hid (below_box2 hb1)
  clear hb1
  go_wp2_with fail
  refine (fit06_any a _ hk hv).mono ?_
  rintro x w2 ⟨⟨f, rfl, hm0⟩, hb2⟩
  have hs2 := hb2.size
  have hy2 := box_keep hy1 hb2 (by omega)
  have hl2 : w.heap.size + 1 < w2.heap.size := by omega
  have HB2 := Lib.hid (HB1.out.trans (hb2.mono (by omega)))
  clear hb2 hx1 hy1
  unfold Ev.val Ev.cells
  go_wp2_with fail
  refine (fit06_any b _ hk' hv').mono ?_
  rintro x w3 ⟨⟨g, rfl, hm0'⟩, hb3⟩
  have hs3 := hb3.size
  simp only [World.size_alloc] at hs3
  have hx3 : ∀ o, w3.cell? ⟨w2.heap.size, o, none⟩ = _ := fun o => (hb3.cell (p := ⟨w2.heap.size, o, none⟩) (by simp)).trans (World.cell?_alloc_new w2 _ _ o)
  have HB3 := Lib.hid (HB2.out.trans (((Below.refl _ _).alloc (by omega) _).trans (hb3.mono (by simp; omega))))
  clear hb3 hy2
  have hl3 : w2.heap.size < w3.heap.size := by omega
  have hl3' : w2.heap.size < w3.heap.size + 1 := by omega
  have m := mayE_zero hm0
  have m' := mayE_zero hm0'
  unfold Ev.val Ev.cells
  go_wp2_with fail
  refine (show Calls Try.prog 13 _ _ _ from ((below_any f f _).mono ?_))
  rw [below_self f m]
  rintro x w4 ⟨rfl, hb4⟩
  have hs4 := hb4.size
  simp only [World.size_alloc] at hs4
  have hx4 : ∀ o, w4.cell? ⟨w2.heap.size, o, none⟩ = _ := fun o => (hb4.cell (p := ⟨w2.heap.size, o, none⟩) (by simp; omega)).trans ((World.cell?_alloc_lt w3 _ ⟨w2.heap.size, o, none⟩ (by show w2.heap.size < w3.heap.size; omega)).trans (hx3 o))
  have hy4 : ∀ o, w4.cell? ⟨w3.heap.size, o, none⟩ = _ := fun o => (hb4.cell (p := ⟨w3.heap.size, o, none⟩) (by simp)).trans (World.cell?_alloc_new w3 _ _ o)
  have hl4 : w2.heap.size < w4.heap.size := by omega
  have hl4' : w3.heap.size < w4.heap.size := by omega
  have HB4 := Lib.hid (HB3.out.trans (((Below.refl _ _).alloc (by omega) _).trans (hb4.mono (by simp; omega))))
  clear hb4 hx3
  go_wp2_with fail
  refine (show Calls Try.prog 13 _ _ _ from ((below_any g g _).mono ?_))
  rw [below_self g m']
  rintro x w5 ⟨rfl, hb5⟩
  have hs5 := hb5.size
  have hx5 := box_keep hx4 hb5 (by omega)
  have hy5 := box_keep hy4 hb5 (by omega)
  have HB5 := Lib.hid (HB4.out.trans (hb5.mono (by omega)))
  clear hb5 hx4 hy4
  have hsx : w2.heap.size < w5.heap.size := by omega
  have hsy : w3.heap.size < w5.heap.size := by omega
  cases hr : (f.r == g.r) with
  | true =>
    have hbs := below_same f g m m' (by simpa using hr)
    go_wp2_with fail
    go_region_held3 (fun w' : World => (∀ o, w'.cell? ⟨w2.heap.size, o, none⟩ = (#[.int .i64 f.r, .int .i64 f.n, .int .i64 f.c.c0, .int .i64 f.c.c1, .int .i64 f.c.c2, .int .i64 f.c.c3, .int .i64 f.c.c4, .int .i64 f.h, .int .i64 f.k, .string f.key, .int .i64 f.l, .string f.v] : Array Value)[o]?) ∧ (∀ o, w'.cell? ⟨w3.heap.size, o, none⟩ = (#[.int .i64 g.r, .int .i64 g.n, .int .i64 g.c.c0, .int .i64 g.c.c1, .int .i64 g.c.c2, .int .i64 g.c.c3, .int .i64 g.c.c4, .int .i64 g.h, .int .i64 g.k, .string g.key, .int .i64 g.l, .string g.v] : Array Value)[o]?))
      (first | exact ⟨hx6, hy6⟩ | exact ⟨hx5, hy5⟩)
      (first | (go_at_call 13; refine (show Calls Try.prog 13 _ _ _ from ((below_any f g _).mono ?_)); rintro x w6 ⟨rfl, hb6⟩; rw [hbs]; have hs6 := hb6.size; simp only [World.size_drew] at hs6; have hx6 : ∀ o, w6.cell? ⟨w2.heap.size, o, none⟩ = (#[.int .i64 f.r, .int .i64 f.n, .int .i64 f.c.c0, .int .i64 f.c.c1, .int .i64 f.c.c2, .int .i64 f.c.c3, .int .i64 f.c.c4, .int .i64 f.h, .int .i64 f.k, .string f.key, .int .i64 f.l, .string f.v] : Array Value)[o]? := fun o => (hb6.cell (p := ⟨w2.heap.size, o, none⟩) (by simp; omega)).trans (hx5 o); have hy6 : ∀ o, w6.cell? ⟨w3.heap.size, o, none⟩ = (#[.int .i64 g.r, .int .i64 g.n, .int .i64 g.c.c0, .int .i64 g.c.c1, .int .i64 g.c.c2, .int .i64 g.c.c3, .int .i64 g.c.c4, .int .i64 g.h, .int .i64 g.k, .string g.key, .int .i64 g.l, .string g.v] : Array Value)[o]? := fun o => (hb6.cell (p := ⟨w3.heap.size, o, none⟩) (by simp; omega)).trans (hy5 o)))
    go_wp2_with fail
    go_ret
    exact ⟨rfl, (HB5.out.drew).trans (hb6.mono (by simp; omega))⟩
  | false =>
    go_wp2_with fail
    refine (show Calls Try.prog 13 _ _ _ from ((below_any f g _).mono ?_))
    rintro x w6 ⟨rfl, hb6⟩
    generalize h1 : belowB f g = one
    have H1 := Lib.hid h1
    clear h1
    have hs6 := hb6.size
    have hx6 := box_keep hx5 hb6 (by omega)
    have hy6 := box_keep hy5 hb6 (by omega)
    have HB6 := Lib.hid (HB5.out.trans (hb6.mono (by omega)))
    clear hb6 hx5 hy5
    go_wp2_with fail
    refine (show Calls Try.prog 13 _ _ _ from ((below_any g f _).mono ?_))
    rintro x w7 ⟨rfl, hb7⟩
    generalize h2 : belowB g f = two
    have H2 := Lib.hid h2
    clear h2
    have hs7 := hb7.size
    have hx7 := box_keep hx6 hb7 (by omega)
    have hy7 := box_keep hy6 hb7 (by omega)
    have HB7 := Lib.hid (HB6.out.trans (hb7.mono (by omega)))
    clear hb7 hx6 hy6
    go_wp2_with fail
    have HM := Lib.hid m
    have HR := Lib.hid hr
    clear m m' hr
    have hlx7 : w2.heap.size < w7.heap.size := by omega
    have hly7 : w3.heap.size < w7.heap.size := by omega
    go_loopw [10, 11] (fun t i wr => ∃ (j : Nat) (c : Bool) (nd : Nat), wr = w7.drewN nd ∧ j ≤ 5 ∧ i = .int .i64 j ∧ t = .bool c ∧ (c = true → one = true → two = true → ∀ k, k < j → cAt g.c k ≤ cAt f.c k)) (fun _ i _ => 5 - (intOf i).toNat)
    case atStart => exact ⟨0, true, 0, rfl, by omega, rfl, rfl, fun _ _ _ k hk => by omega⟩
    case round =>
      obtain ⟨j, c, nd, rfl, hj, rfl, rfl, hcl⟩ := hrel
      have HC := Lib.hid hcl
      clear hcl
      rcases (show j = 0 ∨ j = 1 ∨ j = 2 ∨ j = 3 ∨ j = 4 ∨ j = 5 by omega) with rfl | rfl | rfl | rfl | rfl | rfl
      · cases c with
        | false =>
          go_wp2_with fail
          go_quiet (fail)
          go_wp2_with fail
          go_roundw
          case rel => exact ⟨1, false, _, rfl, by omega, by go_num, rfl, fun h => by cases h⟩
          case measure => simp [intOf]
        | true =>
          cases one with
          | false =>
            cases two with
            | false =>
              go_wp2_with fail
              go_quiet (fail)
              go_wp2_with fail
              go_roundw
              case rel => exact ⟨1, true, _, rfl, by omega, by go_num, rfl, fun _ h => by cases h⟩
              case measure => simp [intOf]
            | true =>
              go_wp2_with fail
              go_quiet (fail)
              go_wp2_with fail
              go_roundw
              case rel => exact ⟨1, _, _, rfl, by omega, by go_num, rfl, fun _ h => by cases h⟩
              case measure => simp [intOf]
          | true =>
            cases hq : decide (f.c.c0 ≤ g.c.c0) with
            | false =>
              go_wp2_with fail
              go_quiet (fail)
              go_wp2_with fail
              go_roundw
              case rel => exact ⟨1, false, _, rfl, by omega, by go_num, rfl, fun h => by cases h⟩
              case measure => simp [intOf]
            | true =>
              cases two with
              | false =>
                go_wp2_with fail
                go_quiet (fail)
                go_wp2_with fail
                go_roundw
                case rel => exact ⟨1, true, _, rfl, by omega, by go_num, rfl, fun _ _ h => by cases h⟩
                case measure => simp [intOf]
              | true =>
                go_wp2_with fail
                go_quiet (fail)
                go_wp2_with fail
                go_roundw
                case rel => exact ⟨1, _, _, rfl, by omega, by go_num, rfl, fun h _ _ k hk => by
                  rcases (show k < 0 ∨ k = 0 by omega) with h' | rfl
                  · exact HC.out (by trivial) (by trivial) (by trivial) k h'
                  · simpa [cAt] using h⟩
                case measure => simp [intOf]
      · cases c with
        | false =>
          go_wp2_with fail
          go_quiet (fail)
          go_wp2_with fail
          go_roundw
          case rel => exact ⟨2, false, _, rfl, by omega, by go_num, rfl, fun h => by cases h⟩
          case measure => simp [intOf]
        | true =>
          cases one with
          | false =>
            cases two with
            | false =>
              go_wp2_with fail
              go_quiet (fail)
              go_wp2_with fail
              go_roundw
              case rel => exact ⟨2, true, _, rfl, by omega, by go_num, rfl, fun _ h => by cases h⟩
              case measure => simp [intOf]
            | true =>
              go_wp2_with fail
              go_quiet (fail)
              go_wp2_with fail
              go_roundw
              case rel => exact ⟨2, _, _, rfl, by omega, by go_num, rfl, fun _ h => by cases h⟩
              case measure => simp [intOf]
          | true =>
            cases hq : decide (f.c.c1 ≤ g.c.c1) with
            | false =>
              go_wp2_with fail
              go_quiet (fail)
              go_wp2_with fail
              go_roundw
              case rel => exact ⟨2, false, _, rfl, by omega, by go_num, rfl, fun h => by cases h⟩
              case measure => simp [intOf]
            | true =>
              cases two with
              | false =>
                go_wp2_with fail
                go_quiet (fail)
                go_wp2_with fail
                go_roundw
                case rel => exact ⟨2, true, _, rfl, by omega, by go_num, rfl, fun _ _ h => by cases h⟩
                case measure => simp [intOf]
              | true =>
                go_wp2_with fail
                go_quiet (fail)
                go_wp2_with fail
                go_roundw
                case rel => exact ⟨2, _, _, rfl, by omega, by go_num, rfl, fun h _ _ k hk => by
                  rcases (show k < 1 ∨ k = 1 by omega) with h' | rfl
                  · exact HC.out (by trivial) (by trivial) (by trivial) k h'
                  · simpa [cAt] using h⟩
                case measure => simp [intOf]
      · cases c with
        | false =>
          go_wp2_with fail
          go_quiet (fail)
          go_wp2_with fail
          go_roundw
          case rel => exact ⟨3, false, _, rfl, by omega, by go_num, rfl, fun h => by cases h⟩
          case measure => simp [intOf]
        | true =>
          cases one with
          | false =>
            cases two with
            | false =>
              go_wp2_with fail
              go_quiet (fail)
              go_wp2_with fail
              go_roundw
              case rel => exact ⟨3, true, _, rfl, by omega, by go_num, rfl, fun _ h => by cases h⟩
              case measure => simp [intOf]
            | true =>
              go_wp2_with fail
              go_quiet (fail)
              go_wp2_with fail
              go_roundw
              case rel => exact ⟨3, _, _, rfl, by omega, by go_num, rfl, fun _ h => by cases h⟩
              case measure => simp [intOf]
          | true =>
            cases hq : decide (f.c.c2 ≤ g.c.c2) with
            | false =>
              go_wp2_with fail
              go_quiet (fail)
              go_wp2_with fail
              go_roundw
              case rel => exact ⟨3, false, _, rfl, by omega, by go_num, rfl, fun h => by cases h⟩
              case measure => simp [intOf]
            | true =>
              cases two with
              | false =>
                go_wp2_with fail
                go_quiet (fail)
                go_wp2_with fail
                go_roundw
                case rel => exact ⟨3, true, _, rfl, by omega, by go_num, rfl, fun _ _ h => by cases h⟩
                case measure => simp [intOf]
              | true =>
                go_wp2_with fail
                go_quiet (fail)
                go_wp2_with fail
                go_roundw
                case rel => exact ⟨3, _, _, rfl, by omega, by go_num, rfl, fun h _ _ k hk => by
                  rcases (show k < 2 ∨ k = 2 by omega) with h' | rfl
                  · exact HC.out (by trivial) (by trivial) (by trivial) k h'
                  · simpa [cAt] using h⟩
                case measure => simp [intOf]
      · cases c with
        | false =>
          go_wp2_with fail
          go_quiet (fail)
          go_wp2_with fail
          go_roundw
          case rel => exact ⟨4, false, _, rfl, by omega, by go_num, rfl, fun h => by cases h⟩
          case measure => simp [intOf]
        | true =>
          cases one with
          | false =>
            cases two with
            | false =>
              go_wp2_with fail
              go_quiet (fail)
              go_wp2_with fail
              go_roundw
              case rel => exact ⟨4, true, _, rfl, by omega, by go_num, rfl, fun _ h => by cases h⟩
              case measure => simp [intOf]
            | true =>
              go_wp2_with fail
              go_quiet (fail)
              go_wp2_with fail
              go_roundw
              case rel => exact ⟨4, _, _, rfl, by omega, by go_num, rfl, fun _ h => by cases h⟩
              case measure => simp [intOf]
          | true =>
            cases hq : decide (f.c.c3 ≤ g.c.c3) with
            | false =>
              go_wp2_with fail
              go_quiet (fail)
              go_wp2_with fail
              go_roundw
              case rel => exact ⟨4, false, _, rfl, by omega, by go_num, rfl, fun h => by cases h⟩
              case measure => simp [intOf]
            | true =>
              cases two with
              | false =>
                go_wp2_with fail
                go_quiet (fail)
                go_wp2_with fail
                go_roundw
                case rel => exact ⟨4, true, _, rfl, by omega, by go_num, rfl, fun _ _ h => by cases h⟩
                case measure => simp [intOf]
              | true =>
                go_wp2_with fail
                go_quiet (fail)
                go_wp2_with fail
                go_roundw
                case rel => exact ⟨4, _, _, rfl, by omega, by go_num, rfl, fun h _ _ k hk => by
                  rcases (show k < 3 ∨ k = 3 by omega) with h' | rfl
                  · exact HC.out (by trivial) (by trivial) (by trivial) k h'
                  · simpa [cAt] using h⟩
                case measure => simp [intOf]
      · cases c with
        | false =>
          go_wp2_with fail
          go_quiet (fail)
          go_wp2_with fail
          go_roundw
          case rel => exact ⟨5, false, _, rfl, by omega, by go_num, rfl, fun h => by cases h⟩
          case measure => simp [intOf]
        | true =>
          cases one with
          | false =>
            cases two with
            | false =>
              go_wp2_with fail
              go_quiet (fail)
              go_wp2_with fail
              go_roundw
              case rel => exact ⟨5, true, _, rfl, by omega, by go_num, rfl, fun _ h => by cases h⟩
              case measure => simp [intOf]
            | true =>
              go_wp2_with fail
              go_quiet (fail)
              go_wp2_with fail
              go_roundw
              case rel => exact ⟨5, _, _, rfl, by omega, by go_num, rfl, fun _ h => by cases h⟩
              case measure => simp [intOf]
          | true =>
            cases hq : decide (f.c.c4 ≤ g.c.c4) with
            | false =>
              go_wp2_with fail
              go_quiet (fail)
              go_wp2_with fail
              go_roundw
              case rel => exact ⟨5, false, _, rfl, by omega, by go_num, rfl, fun h => by cases h⟩
              case measure => simp [intOf]
            | true =>
              cases two with
              | false =>
                go_wp2_with fail
                go_quiet (fail)
                go_wp2_with fail
                go_roundw
                case rel => exact ⟨5, true, _, rfl, by omega, by go_num, rfl, fun _ _ h => by cases h⟩
                case measure => simp [intOf]
              | true =>
                go_wp2_with fail
                go_quiet (fail)
                go_wp2_with fail
                go_roundw
                case rel => exact ⟨5, _, _, rfl, by omega, by go_num, rfl, fun h _ _ k hk => by
                  rcases (show k < 4 ∨ k = 4 by omega) with h' | rfl
                  · exact HC.out (by trivial) (by trivial) (by trivial) k h'
                  · simpa [cAt] using h⟩
                case measure => simp [intOf]
      · have hfin : one = true → two = true → c = false := fun ho ht => by
          cases hc : c with
          | false => rfl
          | true =>
            have hx := below_not f g HM.out (H1.out.trans ho)
            exact absurd (HC.out hc ho ht) hx
        have HB8 := Lib.hid (below_drewN HB7.out nd)
        cases one with
        | false =>
          go_wp2_with fail
          go_ret
          exact ⟨rfl, HB8.out⟩
        | true =>
          cases two with
          | false =>
            go_wp2_with fail
            go_ret
            exact ⟨rfl, HB8.out⟩
          | true =>
            have hc := hfin rfl rfl
            subst hc
            go_wp2_with fail
            go_ret
            exact ⟨rfl, HB8.out⟩
end Go.Proofs.Ytlannpjlanegoaa
