/-
  The statement EventOdd: an event of which one thing may not be is refused, by which. (Printed by gen_evodd.py.)
-/
import Derived.Test.YtlannpjlanegoaaEvShown
namespace Go.Proofs.Ytlannpjlanegoaa
open Go.RowKit

def bang (s : ByteArray) : ByteArray := s ++ ⟨#[33]⟩

theorem push_last (s t : ByteArray) (i : Nat) (hi : i < (s ++ t).size) (h : s.size ≤ i) : (s ++ t)[i]'hi = t[i - s.size]'(by rw [ByteArray.size_append] at hi; omega) := ByteArray.getElem_append_right h

theorem bang_bad (s : ByteArray) : keyE (bang s) = 10 := by
  have hz : (bang s).size = s.size + 1 := ByteArray.size_append
  refine keyE_no (i := s.size) (by omega) ?_
  have hg : (bang s)[s.size]'(by omega) = 33 := by
    refine (push_last s ⟨#[33]⟩ s.size (by unfold bang at hz; omega) (Nat.le_refl _)).trans ?_
    simp
    rfl
  rw [hg]
  decide

theorem odd_n (f : Ev) (m : MayB f) : mayE { f with n := f.n + 1 } = 1 := by
  have hq := m.own
  unfold mayE
  split
  · rfl
  · split
    · rfl
    · split
      · rfl
      · rename_i h
        simp at h
        omega

theorem odd_within (f : Ev) (h : (withinB f.r 0 4 && withinB f.n 1 1048576 && withinB f.h 1 16777216) = false) : mayE f = 1 := by
  unfold mayE; rw [h]; rfl
theorem odd_clock (f : Ev) (h : (okN f.c.c0 && okN f.c.c1 && okN f.c.c2 && okN f.c.c3 && okN f.c.c4) = false) : mayE f = 1 := by
  unfold mayE
  split
  · rfl
  · rw [h]; rfl

theorem odd_edit (f g : Ev) (m : MayB f) (e : g = { f with k := g.k, key := g.key, l := g.l, v := g.v }) : mayE g = editE g.ed := by
  have hr : g.r = f.r := by rw [e]
  have hn : g.n = f.n := by rw [e]
  have hc : g.c = f.c := by rw [e]
  have hh : g.h = f.h := by rw [e]
  unfold mayE
  rw [hr, hn, hc, hh]
  have a0 : okN f.c.c0 = true := by simp [okN, withinB, m.a0]
  have a1 : okN f.c.c1 = true := by simp [okN, withinB, m.a1]
  have a2 : okN f.c.c2 = true := by simp [okN, withinB, m.a2]
  have a3 : okN f.c.c3 = true := by simp [okN, withinB, m.a3]
  have a4 : okN f.c.c4 = true := by simp [okN, withinB, m.a4]
  simp [a0, a1, a2, a3, a4, m.own, withinB, m.r0, m.r4, m.n1, m.n2, m.h1, m.h2]

theorem odd_key (f : Ev) (m : MayB f) : mayE { f with key := bang f.key } = 10 := by
  rw [odd_edit f _ m rfl]
  have hb := bang_bad f.key
  obtain ⟨k1, k5, _⟩ := editE_zero m.ed
  have k1 : 1 ≤ f.k := k1
  have k5 : f.k ≤ 5 := k5
  simp only [editE, Ev.ed, hb]
  rw [if_neg (by omega), if_pos (by decide)]

theorem key_of {e : Ed} (h : editE e = 0) : keyE e.key = 0 := by
  have := editE_zero h
  unfold keyE
  rw [if_pos ⟨this.2.2.1, this.2.2.2.1, this.2.2.2.2.1⟩]

theorem edit_l2 (k : Int) (key v : ByteArray) (k1 : 1 ≤ k) (k5 : k ≤ 5) (hb : keyE key = 0) : editE ⟨k, key, 2, v⟩ = 11 := by
  unfold editE
  dsimp only
  rw [hb, if_neg (by omega), if_neg (by decide)]
  split
  · rfl
  · rfl

def v13 : ByteArray := ⟨#[116, 104, 105, 114, 116, 101, 101, 110, 32, 98, 121, 116, 101]⟩

theorem edit_v13 (k l : Int) (key : ByteArray) (k1 : 1 ≤ k) (k5 : k ≤ 5) (hb : keyE key = 0) (h1 : isLong k = true → 0 ≤ l ∧ l ≤ 1) (h2 : isLong k = false → l = 0) : editE ⟨k, key, l, v13⟩ = 12 := by
  have hz : v13.size = 13 := rfl
  unfold editE
  dsimp only
  rw [hb, if_neg (by omega), if_neg (by decide)]
  by_cases h : k = 1 ∨ k = 2
  · have hl : l = 0 := h2 (by rcases h with h | h <;> rw [h] <;> rfl)
    rw [if_pos h, if_neg (by omega), if_pos (by omega)]
  · have hl : isLong k = true := by simp only [not_or] at h; simp [isLong, h]
    obtain ⟨l0, l1⟩ := h1 hl
    have hlab : labelE l = 0 := by unfold labelE; rw [if_pos ⟨l0, by omega⟩]
    rw [if_neg h, if_neg (by rw [hlab]; decide)]
    unfold valueE
    rw [if_neg (by omega)]

theorem odd_label (f : Ev) (m : MayB f) : mayE { f with l := 2 } = 11 := by
  rw [odd_edit f _ m rfl]
  obtain ⟨k1, k5, _⟩ := editE_zero m.ed
  exact edit_l2 f.k f.key f.v k1 k5 (key_of m.ed)

theorem odd_value (f : Ev) (m : MayB f) : mayE { f with v := v13 } = 12 := by
  rw [odd_edit f _ m rfl]
  obtain ⟨k1, k5, _, _, _, hlg, hsh⟩ := editE_zero m.ed
  exact edit_v13 f.k f.l f.key k1 k5 (key_of m.ed) (fun h => ⟨(hlg h).1, (hlg h).2.1⟩) (fun h => (hsh h).1)

theorem withinB_no {n a b : Int} (h : ¬ (a ≤ n ∧ n ≤ b)) : withinB n a b = false := by
  cases hq : withinB n a b with
  | false => rfl
  | true => exact absurd (withinB_true hq) h

set_option maxRecDepth 100000 in
set_option maxHeartbeats 4000000 in
theorem odd0 (e : Ev) (wh : Int) (w : World) (hk : e.key.size ≤ 140737488355328) (hv : e.v.size ≤ 140737488355328) (h0 : 0 ≤ wh) (hm : wh % 8 = 0) :
    Calls Try.prog 4 #[e.val, .int .u8 wh] w fun x w' => x = .returned (.bool true) ∧ Below w.heap.size w w' := by
  unfold Ev.val Ev.cells
  go_enter Try.func4, Try.ntmps4
  go_wp2_with fail
  refine (shown06_any _).mono ?_
  rintro x w1 ⟨rfl, hb1⟩
  have hs1 := hb1.size
  simp only [World.size_alloc] at hs1
  have hx1 : ∀ o, w1.cell? ⟨w.heap.size, o, none⟩ = _ := fun o => (hb1.cell (p := ⟨w.heap.size, o, none⟩) (by simp)).trans (World.cell?_alloc_new w _ _ o)
  have HB1 := Lib.hid (below_box hb1)
  clear hb1
  go_wp2_with fail
  refine (fit06_any e _ hk hv).mono ?_
  rintro x w2 ⟨⟨f, rfl, hm0⟩, hb2⟩
  have hs2 := hb2.size
  have HB2 := Lib.hid (HB1.out.trans (hb2.mono (by omega)))
  clear hb2 hx1
  have m := mayE_zero hm0
  have HM := Lib.hid m
  obtain ⟨r0, r4, n1, n2, _⟩ := m
  unfold Ev.val Ev.cells
  have hw : wh.tmod 8 = 0 := (Int.tmod_eq_emod_of_nonneg h0).trans hm
  go_wp2_with fail
  have hme : mayE ({ f with r := 5 }) = 1 := odd_within _ (by simp [withinB_no (show ¬ ((0 : Int) ≤ 5 ∧ (5 : Int) ≤ 4) by decide)])
  obtain ⟨f', hf'⟩ : ∃ f' : Ev, f' = ({ f with r := 5 }) := ⟨_, rfl⟩
  refine (show Calls Try.prog 10 _ _ _ from ((put_any ({ f with r := 5 }) _).mono ?_))
  rw [← hf'] at hme ⊢
  rintro x w3 ⟨v, rfl, ho⟩
  have hout : evOut f' = [] := by unfold evOut; rw [if_neg (by rw [hme]; decide)]
  rw [hout] at ho
  rw [hme]
  obtain ⟨A, c, rfl, _, hb3⟩ := ho
  have hxf : ∀ o, w3.cell? ⟨w2.heap.size, o, none⟩ = _ := fun o => (hb3.cell (p := ⟨w2.heap.size, o, none⟩) (by simp)).trans (World.cell?_alloc_new w2 _ _ o)
  have hs3 := hb3.size
  simp only [World.size_alloc] at hs3
  have HB3 := Lib.hid (HB2.out.trans (((Below.refl _ _).alloc (by omega) _).trans (hb3.mono (by simp; omega))))
  clear hb3
  go_wp2_with fail
  refine (show Calls Try.prog 12 _ _ _ from ((may_any ({ f with r := 5 }) _).mono ?_))
  rw [← hf', hme]
  rintro x w4 ⟨rfl, hb4⟩
  have HB4 := Lib.hid (HB3.out.trans (hb4.mono (by omega)))
  clear hb4 hxf
  go_wp2_with fail
  go_ret
  exact ⟨rfl, HB4.out⟩

set_option maxRecDepth 100000 in
set_option maxHeartbeats 4000000 in
theorem odd1 (e : Ev) (wh : Int) (w : World) (hk : e.key.size ≤ 140737488355328) (hv : e.v.size ≤ 140737488355328) (h0 : 0 ≤ wh) (hm : wh % 8 = 1) :
    Calls Try.prog 4 #[e.val, .int .u8 wh] w fun x w' => x = .returned (.bool true) ∧ Below w.heap.size w w' := by
  unfold Ev.val Ev.cells
  go_enter Try.func4, Try.ntmps4
  go_wp2_with fail
  refine (shown06_any _).mono ?_
  rintro x w1 ⟨rfl, hb1⟩
  have hs1 := hb1.size
  simp only [World.size_alloc] at hs1
  have hx1 : ∀ o, w1.cell? ⟨w.heap.size, o, none⟩ = _ := fun o => (hb1.cell (p := ⟨w.heap.size, o, none⟩) (by simp)).trans (World.cell?_alloc_new w _ _ o)
  have HB1 := Lib.hid (below_box hb1)
  clear hb1
  go_wp2_with fail
  refine (fit06_any e _ hk hv).mono ?_
  rintro x w2 ⟨⟨f, rfl, hm0⟩, hb2⟩
  have hs2 := hb2.size
  have HB2 := Lib.hid (HB1.out.trans (hb2.mono (by omega)))
  clear hb2 hx1
  have m := mayE_zero hm0
  have HM := Lib.hid m
  obtain ⟨r0, r4, n1, n2, _⟩ := m
  unfold Ev.val Ev.cells
  have hw : wh.tmod 8 = 1 := (Int.tmod_eq_emod_of_nonneg h0).trans hm
  have hwr : IntKind.i64.wrap (f.n + 1) = f.n + 1 := IntWalk.i64_in _ (by omega)
  go_wp2_with fail
  have hme : mayE ({ f with n := f.n + 1 }) = 1 := odd_n f HM.out
  obtain ⟨f', hf'⟩ : ∃ f' : Ev, f' = ({ f with n := f.n + 1 }) := ⟨_, rfl⟩
  refine (show Calls Try.prog 10 _ _ _ from ((put_any ({ f with n := f.n + 1 }) _).mono ?_))
  rw [← hf'] at hme ⊢
  rintro x w3 ⟨v, rfl, ho⟩
  have hout : evOut f' = [] := by unfold evOut; rw [if_neg (by rw [hme]; decide)]
  rw [hout] at ho
  rw [hme]
  obtain ⟨A, c, rfl, _, hb3⟩ := ho
  have hxf : ∀ o, w3.cell? ⟨w2.heap.size, o, none⟩ = _ := fun o => (hb3.cell (p := ⟨w2.heap.size, o, none⟩) (by simp)).trans (World.cell?_alloc_new w2 _ _ o)
  have hs3 := hb3.size
  simp only [World.size_alloc] at hs3
  have HB3 := Lib.hid (HB2.out.trans (((Below.refl _ _).alloc (by omega) _).trans (hb3.mono (by simp; omega))))
  clear hb3
  go_wp2_with fail
  refine (show Calls Try.prog 12 _ _ _ from ((may_any ({ f with n := f.n + 1 }) _).mono ?_))
  rw [← hf', hme]
  rintro x w4 ⟨rfl, hb4⟩
  have HB4 := Lib.hid (HB3.out.trans (hb4.mono (by omega)))
  clear hb4 hxf
  go_wp2_with fail
  go_ret
  exact ⟨rfl, HB4.out⟩

set_option maxRecDepth 100000 in
set_option maxHeartbeats 4000000 in
theorem odd2 (e : Ev) (wh : Int) (w : World) (hk : e.key.size ≤ 140737488355328) (hv : e.v.size ≤ 140737488355328) (h0 : 0 ≤ wh) (hm : wh % 8 = 2) :
    Calls Try.prog 4 #[e.val, .int .u8 wh] w fun x w' => x = .returned (.bool true) ∧ Below w.heap.size w w' := by
  unfold Ev.val Ev.cells
  go_enter Try.func4, Try.ntmps4
  go_wp2_with fail
  refine (shown06_any _).mono ?_
  rintro x w1 ⟨rfl, hb1⟩
  have hs1 := hb1.size
  simp only [World.size_alloc] at hs1
  have hx1 : ∀ o, w1.cell? ⟨w.heap.size, o, none⟩ = _ := fun o => (hb1.cell (p := ⟨w.heap.size, o, none⟩) (by simp)).trans (World.cell?_alloc_new w _ _ o)
  have HB1 := Lib.hid (below_box hb1)
  clear hb1
  go_wp2_with fail
  refine (fit06_any e _ hk hv).mono ?_
  rintro x w2 ⟨⟨f, rfl, hm0⟩, hb2⟩
  have hs2 := hb2.size
  have HB2 := Lib.hid (HB1.out.trans (hb2.mono (by omega)))
  clear hb2 hx1
  have m := mayE_zero hm0
  have HM := Lib.hid m
  obtain ⟨r0, r4, n1, n2, _⟩ := m
  unfold Ev.val Ev.cells
  have hw : wh.tmod 8 = 2 := (Int.tmod_eq_emod_of_nonneg h0).trans hm
  obtain ⟨r, n, ⟨c0, c1, c2, c3, c4⟩, h, k, key, l, v⟩ := f
  dsimp only at r0 r4 n1 n2 ⊢
  rcases (show r = 0 ∨ r = 1 ∨ r = 2 ∨ r = 3 ∨ r = 4 by omega) with rfl | rfl | rfl | rfl | rfl
  · go_wp2_with fail
    have hme : mayE ((⟨0, n, ⟨c0, -1, c2, c3, c4⟩, h, k, key, l, v⟩ : Ev)) = 1 := odd_clock _ (by simp [okN, withinB_no (show ¬ ((0 : Int) ≤ -1 ∧ (-1 : Int) ≤ 1048576) by decide)])
    obtain ⟨f', hf'⟩ : ∃ f' : Ev, f' = ((⟨0, n, ⟨c0, -1, c2, c3, c4⟩, h, k, key, l, v⟩ : Ev)) := ⟨_, rfl⟩
    refine (show Calls Try.prog 10 _ _ _ from ((put_any ((⟨0, n, ⟨c0, -1, c2, c3, c4⟩, h, k, key, l, v⟩ : Ev)) _).mono ?_))
    rw [← hf'] at hme ⊢
    rintro x w3 ⟨v, rfl, ho⟩
    have hout : evOut f' = [] := by unfold evOut; rw [if_neg (by rw [hme]; decide)]
    rw [hout] at ho
    rw [hme]
    obtain ⟨A, c, rfl, _, hb3⟩ := ho
    have hxf : ∀ o, w3.cell? ⟨w2.heap.size, o, none⟩ = _ := fun o => (hb3.cell (p := ⟨w2.heap.size, o, none⟩) (by simp)).trans (World.cell?_alloc_new w2 _ _ o)
    have hs3 := hb3.size
    simp only [World.size_alloc] at hs3
    have HB3 := Lib.hid (HB2.out.trans (((Below.refl _ _).alloc (by omega) _).trans (hb3.mono (by simp; omega))))
    clear hb3
    go_wp2_with fail
    refine (show Calls Try.prog 12 _ _ _ from ((may_any ((⟨0, n, ⟨c0, -1, c2, c3, c4⟩, h, k, key, l, v⟩ : Ev)) _).mono ?_))
    rw [← hf', hme]
    rintro x w4 ⟨rfl, hb4⟩
    have HB4 := Lib.hid (HB3.out.trans (hb4.mono (by omega)))
    clear hb4 hxf
    go_wp2_with fail
    go_ret
    exact ⟨rfl, HB4.out⟩
  · go_wp2_with fail
    have hme : mayE ((⟨1, n, ⟨c0, c1, -1, c3, c4⟩, h, k, key, l, v⟩ : Ev)) = 1 := odd_clock _ (by simp [okN, withinB_no (show ¬ ((0 : Int) ≤ -1 ∧ (-1 : Int) ≤ 1048576) by decide)])
    obtain ⟨f', hf'⟩ : ∃ f' : Ev, f' = ((⟨1, n, ⟨c0, c1, -1, c3, c4⟩, h, k, key, l, v⟩ : Ev)) := ⟨_, rfl⟩
    refine (show Calls Try.prog 10 _ _ _ from ((put_any ((⟨1, n, ⟨c0, c1, -1, c3, c4⟩, h, k, key, l, v⟩ : Ev)) _).mono ?_))
    rw [← hf'] at hme ⊢
    rintro x w3 ⟨v, rfl, ho⟩
    have hout : evOut f' = [] := by unfold evOut; rw [if_neg (by rw [hme]; decide)]
    rw [hout] at ho
    rw [hme]
    obtain ⟨A, c, rfl, _, hb3⟩ := ho
    have hxf : ∀ o, w3.cell? ⟨w2.heap.size, o, none⟩ = _ := fun o => (hb3.cell (p := ⟨w2.heap.size, o, none⟩) (by simp)).trans (World.cell?_alloc_new w2 _ _ o)
    have hs3 := hb3.size
    simp only [World.size_alloc] at hs3
    have HB3 := Lib.hid (HB2.out.trans (((Below.refl _ _).alloc (by omega) _).trans (hb3.mono (by simp; omega))))
    clear hb3
    go_wp2_with fail
    refine (show Calls Try.prog 12 _ _ _ from ((may_any ((⟨1, n, ⟨c0, c1, -1, c3, c4⟩, h, k, key, l, v⟩ : Ev)) _).mono ?_))
    rw [← hf', hme]
    rintro x w4 ⟨rfl, hb4⟩
    have HB4 := Lib.hid (HB3.out.trans (hb4.mono (by omega)))
    clear hb4 hxf
    go_wp2_with fail
    go_ret
    exact ⟨rfl, HB4.out⟩
  · go_wp2_with fail
    have hme : mayE ((⟨2, n, ⟨c0, c1, c2, -1, c4⟩, h, k, key, l, v⟩ : Ev)) = 1 := odd_clock _ (by simp [okN, withinB_no (show ¬ ((0 : Int) ≤ -1 ∧ (-1 : Int) ≤ 1048576) by decide)])
    obtain ⟨f', hf'⟩ : ∃ f' : Ev, f' = ((⟨2, n, ⟨c0, c1, c2, -1, c4⟩, h, k, key, l, v⟩ : Ev)) := ⟨_, rfl⟩
    refine (show Calls Try.prog 10 _ _ _ from ((put_any ((⟨2, n, ⟨c0, c1, c2, -1, c4⟩, h, k, key, l, v⟩ : Ev)) _).mono ?_))
    rw [← hf'] at hme ⊢
    rintro x w3 ⟨v, rfl, ho⟩
    have hout : evOut f' = [] := by unfold evOut; rw [if_neg (by rw [hme]; decide)]
    rw [hout] at ho
    rw [hme]
    obtain ⟨A, c, rfl, _, hb3⟩ := ho
    have hxf : ∀ o, w3.cell? ⟨w2.heap.size, o, none⟩ = _ := fun o => (hb3.cell (p := ⟨w2.heap.size, o, none⟩) (by simp)).trans (World.cell?_alloc_new w2 _ _ o)
    have hs3 := hb3.size
    simp only [World.size_alloc] at hs3
    have HB3 := Lib.hid (HB2.out.trans (((Below.refl _ _).alloc (by omega) _).trans (hb3.mono (by simp; omega))))
    clear hb3
    go_wp2_with fail
    refine (show Calls Try.prog 12 _ _ _ from ((may_any ((⟨2, n, ⟨c0, c1, c2, -1, c4⟩, h, k, key, l, v⟩ : Ev)) _).mono ?_))
    rw [← hf', hme]
    rintro x w4 ⟨rfl, hb4⟩
    have HB4 := Lib.hid (HB3.out.trans (hb4.mono (by omega)))
    clear hb4 hxf
    go_wp2_with fail
    go_ret
    exact ⟨rfl, HB4.out⟩
  · go_wp2_with fail
    have hme : mayE ((⟨3, n, ⟨c0, c1, c2, c3, -1⟩, h, k, key, l, v⟩ : Ev)) = 1 := odd_clock _ (by simp [okN, withinB_no (show ¬ ((0 : Int) ≤ -1 ∧ (-1 : Int) ≤ 1048576) by decide)])
    obtain ⟨f', hf'⟩ : ∃ f' : Ev, f' = ((⟨3, n, ⟨c0, c1, c2, c3, -1⟩, h, k, key, l, v⟩ : Ev)) := ⟨_, rfl⟩
    refine (show Calls Try.prog 10 _ _ _ from ((put_any ((⟨3, n, ⟨c0, c1, c2, c3, -1⟩, h, k, key, l, v⟩ : Ev)) _).mono ?_))
    rw [← hf'] at hme ⊢
    rintro x w3 ⟨v, rfl, ho⟩
    have hout : evOut f' = [] := by unfold evOut; rw [if_neg (by rw [hme]; decide)]
    rw [hout] at ho
    rw [hme]
    obtain ⟨A, c, rfl, _, hb3⟩ := ho
    have hxf : ∀ o, w3.cell? ⟨w2.heap.size, o, none⟩ = _ := fun o => (hb3.cell (p := ⟨w2.heap.size, o, none⟩) (by simp)).trans (World.cell?_alloc_new w2 _ _ o)
    have hs3 := hb3.size
    simp only [World.size_alloc] at hs3
    have HB3 := Lib.hid (HB2.out.trans (((Below.refl _ _).alloc (by omega) _).trans (hb3.mono (by simp; omega))))
    clear hb3
    go_wp2_with fail
    refine (show Calls Try.prog 12 _ _ _ from ((may_any ((⟨3, n, ⟨c0, c1, c2, c3, -1⟩, h, k, key, l, v⟩ : Ev)) _).mono ?_))
    rw [← hf', hme]
    rintro x w4 ⟨rfl, hb4⟩
    have HB4 := Lib.hid (HB3.out.trans (hb4.mono (by omega)))
    clear hb4 hxf
    go_wp2_with fail
    go_ret
    exact ⟨rfl, HB4.out⟩
  · go_wp2_with fail
    have hme : mayE ((⟨4, n, ⟨-1, c1, c2, c3, c4⟩, h, k, key, l, v⟩ : Ev)) = 1 := odd_clock _ (by simp [okN, withinB_no (show ¬ ((0 : Int) ≤ -1 ∧ (-1 : Int) ≤ 1048576) by decide)])
    obtain ⟨f', hf'⟩ : ∃ f' : Ev, f' = ((⟨4, n, ⟨-1, c1, c2, c3, c4⟩, h, k, key, l, v⟩ : Ev)) := ⟨_, rfl⟩
    refine (show Calls Try.prog 10 _ _ _ from ((put_any ((⟨4, n, ⟨-1, c1, c2, c3, c4⟩, h, k, key, l, v⟩ : Ev)) _).mono ?_))
    rw [← hf'] at hme ⊢
    rintro x w3 ⟨v, rfl, ho⟩
    have hout : evOut f' = [] := by unfold evOut; rw [if_neg (by rw [hme]; decide)]
    rw [hout] at ho
    rw [hme]
    obtain ⟨A, c, rfl, _, hb3⟩ := ho
    have hxf : ∀ o, w3.cell? ⟨w2.heap.size, o, none⟩ = _ := fun o => (hb3.cell (p := ⟨w2.heap.size, o, none⟩) (by simp)).trans (World.cell?_alloc_new w2 _ _ o)
    have hs3 := hb3.size
    simp only [World.size_alloc] at hs3
    have HB3 := Lib.hid (HB2.out.trans (((Below.refl _ _).alloc (by omega) _).trans (hb3.mono (by simp; omega))))
    clear hb3
    go_wp2_with fail
    refine (show Calls Try.prog 12 _ _ _ from ((may_any ((⟨4, n, ⟨-1, c1, c2, c3, c4⟩, h, k, key, l, v⟩ : Ev)) _).mono ?_))
    rw [← hf', hme]
    rintro x w4 ⟨rfl, hb4⟩
    have HB4 := Lib.hid (HB3.out.trans (hb4.mono (by omega)))
    clear hb4 hxf
    go_wp2_with fail
    go_ret
    exact ⟨rfl, HB4.out⟩

set_option maxRecDepth 100000 in
set_option maxHeartbeats 4000000 in
theorem odd3 (e : Ev) (wh : Int) (w : World) (hk : e.key.size ≤ 140737488355328) (hv : e.v.size ≤ 140737488355328) (h0 : 0 ≤ wh) (hm : wh % 8 = 3) :
    Calls Try.prog 4 #[e.val, .int .u8 wh] w fun x w' => x = .returned (.bool true) ∧ Below w.heap.size w w' := by
  unfold Ev.val Ev.cells
  go_enter Try.func4, Try.ntmps4
  go_wp2_with fail
  refine (shown06_any _).mono ?_
  rintro x w1 ⟨rfl, hb1⟩
  have hs1 := hb1.size
  simp only [World.size_alloc] at hs1
  have hx1 : ∀ o, w1.cell? ⟨w.heap.size, o, none⟩ = _ := fun o => (hb1.cell (p := ⟨w.heap.size, o, none⟩) (by simp)).trans (World.cell?_alloc_new w _ _ o)
  have HB1 := Lib.hid (below_box hb1)
  clear hb1
  go_wp2_with fail
  refine (fit06_any e _ hk hv).mono ?_
  rintro x w2 ⟨⟨f, rfl, hm0⟩, hb2⟩
  have hs2 := hb2.size
  have HB2 := Lib.hid (HB1.out.trans (hb2.mono (by omega)))
  clear hb2 hx1
  have m := mayE_zero hm0
  have HM := Lib.hid m
  obtain ⟨r0, r4, n1, n2, _⟩ := m
  unfold Ev.val Ev.cells
  have hw : wh.tmod 8 = 3 := (Int.tmod_eq_emod_of_nonneg h0).trans hm
  go_wp2_with fail
  have hme : mayE ({ f with h := 0 }) = 1 := odd_within _ (by simp [withinB_no (show ¬ ((1 : Int) ≤ 0 ∧ (0 : Int) ≤ 16777216) by decide)])
  obtain ⟨f', hf'⟩ : ∃ f' : Ev, f' = ({ f with h := 0 }) := ⟨_, rfl⟩
  refine (show Calls Try.prog 10 _ _ _ from ((put_any ({ f with h := 0 }) _).mono ?_))
  rw [← hf'] at hme ⊢
  rintro x w3 ⟨v, rfl, ho⟩
  have hout : evOut f' = [] := by unfold evOut; rw [if_neg (by rw [hme]; decide)]
  rw [hout] at ho
  rw [hme]
  obtain ⟨A, c, rfl, _, hb3⟩ := ho
  have hxf : ∀ o, w3.cell? ⟨w2.heap.size, o, none⟩ = _ := fun o => (hb3.cell (p := ⟨w2.heap.size, o, none⟩) (by simp)).trans (World.cell?_alloc_new w2 _ _ o)
  have hs3 := hb3.size
  simp only [World.size_alloc] at hs3
  have HB3 := Lib.hid (HB2.out.trans (((Below.refl _ _).alloc (by omega) _).trans (hb3.mono (by simp; omega))))
  clear hb3
  go_wp2_with fail
  refine (show Calls Try.prog 12 _ _ _ from ((may_any ({ f with h := 0 }) _).mono ?_))
  rw [← hf', hme]
  rintro x w4 ⟨rfl, hb4⟩
  have HB4 := Lib.hid (HB3.out.trans (hb4.mono (by omega)))
  clear hb4 hxf
  go_wp2_with fail
  go_ret
  exact ⟨rfl, HB4.out⟩

set_option maxRecDepth 100000 in
set_option maxHeartbeats 4000000 in
theorem odd4 (e : Ev) (wh : Int) (w : World) (hk : e.key.size ≤ 140737488355328) (hv : e.v.size ≤ 140737488355328) (h0 : 0 ≤ wh) (hm : wh % 8 = 4) :
    Calls Try.prog 4 #[e.val, .int .u8 wh] w fun x w' => x = .returned (.bool true) ∧ Below w.heap.size w w' := by
  unfold Ev.val Ev.cells
  go_enter Try.func4, Try.ntmps4
  go_wp2_with fail
  refine (shown06_any _).mono ?_
  rintro x w1 ⟨rfl, hb1⟩
  have hs1 := hb1.size
  simp only [World.size_alloc] at hs1
  have hx1 : ∀ o, w1.cell? ⟨w.heap.size, o, none⟩ = _ := fun o => (hb1.cell (p := ⟨w.heap.size, o, none⟩) (by simp)).trans (World.cell?_alloc_new w _ _ o)
  have HB1 := Lib.hid (below_box hb1)
  clear hb1
  go_wp2_with fail
  refine (fit06_any e _ hk hv).mono ?_
  rintro x w2 ⟨⟨f, rfl, hm0⟩, hb2⟩
  have hs2 := hb2.size
  have HB2 := Lib.hid (HB1.out.trans (hb2.mono (by omega)))
  clear hb2 hx1
  have m := mayE_zero hm0
  have HM := Lib.hid m
  obtain ⟨r0, r4, n1, n2, _⟩ := m
  unfold Ev.val Ev.cells
  have hw : wh.tmod 8 = 4 := (Int.tmod_eq_emod_of_nonneg h0).trans hm
  go_wp2_with fail
  have hme : mayE ({ f with h := 16777217 }) = 1 := odd_within _ (by simp [withinB_no (show ¬ ((1 : Int) ≤ 16777217 ∧ (16777217 : Int) ≤ 16777216) by decide)])
  obtain ⟨f', hf'⟩ : ∃ f' : Ev, f' = ({ f with h := 16777217 }) := ⟨_, rfl⟩
  refine (show Calls Try.prog 10 _ _ _ from ((put_any ({ f with h := 16777217 }) _).mono ?_))
  rw [← hf'] at hme ⊢
  rintro x w3 ⟨v, rfl, ho⟩
  have hout : evOut f' = [] := by unfold evOut; rw [if_neg (by rw [hme]; decide)]
  rw [hout] at ho
  rw [hme]
  obtain ⟨A, c, rfl, _, hb3⟩ := ho
  have hxf : ∀ o, w3.cell? ⟨w2.heap.size, o, none⟩ = _ := fun o => (hb3.cell (p := ⟨w2.heap.size, o, none⟩) (by simp)).trans (World.cell?_alloc_new w2 _ _ o)
  have hs3 := hb3.size
  simp only [World.size_alloc] at hs3
  have HB3 := Lib.hid (HB2.out.trans (((Below.refl _ _).alloc (by omega) _).trans (hb3.mono (by simp; omega))))
  clear hb3
  go_wp2_with fail
  refine (show Calls Try.prog 12 _ _ _ from ((may_any ({ f with h := 16777217 }) _).mono ?_))
  rw [← hf', hme]
  rintro x w4 ⟨rfl, hb4⟩
  have HB4 := Lib.hid (HB3.out.trans (hb4.mono (by omega)))
  clear hb4 hxf
  go_wp2_with fail
  go_ret
  exact ⟨rfl, HB4.out⟩

set_option maxRecDepth 100000 in
set_option maxHeartbeats 4000000 in
theorem odd5 (e : Ev) (wh : Int) (w : World) (hk : e.key.size ≤ 140737488355328) (hv : e.v.size ≤ 140737488355328) (h0 : 0 ≤ wh) (hm : wh % 8 = 5) :
    Calls Try.prog 4 #[e.val, .int .u8 wh] w fun x w' => x = .returned (.bool true) ∧ Below w.heap.size w w' := by
  unfold Ev.val Ev.cells
  go_enter Try.func4, Try.ntmps4
  go_wp2_with fail
  refine (shown06_any _).mono ?_
  rintro x w1 ⟨rfl, hb1⟩
  have hs1 := hb1.size
  simp only [World.size_alloc] at hs1
  have hx1 : ∀ o, w1.cell? ⟨w.heap.size, o, none⟩ = _ := fun o => (hb1.cell (p := ⟨w.heap.size, o, none⟩) (by simp)).trans (World.cell?_alloc_new w _ _ o)
  have HB1 := Lib.hid (below_box hb1)
  clear hb1
  go_wp2_with fail
  refine (fit06_any e _ hk hv).mono ?_
  rintro x w2 ⟨⟨f, rfl, hm0⟩, hb2⟩
  have hs2 := hb2.size
  have HB2 := Lib.hid (HB1.out.trans (hb2.mono (by omega)))
  clear hb2 hx1
  have m := mayE_zero hm0
  have HM := Lib.hid m
  obtain ⟨r0, r4, n1, n2, _⟩ := m
  unfold Ev.val Ev.cells
  have hw : wh.tmod 8 = 5 := (Int.tmod_eq_emod_of_nonneg h0).trans hm
  have h8 : f.key.size ≤ 8 := (editE_zero HM.out.ed).2.2.2.1
  have hadd : ∀ W : World, (Op.stringOp .add f.key ⟨#[33]⟩).run Try.prog W = .ok (.string (bang f.key)) W := fun W => run_string_add_sum W f.key ⟨#[33]⟩ (by show f.key.size + 1 ≤ _; omega)
  go_wp2_with fail
  have hme : mayE ({ f with key := bang f.key }) = 10 := odd_key f HM.out
  obtain ⟨f', hf'⟩ : ∃ f' : Ev, f' = ({ f with key := bang f.key }) := ⟨_, rfl⟩
  refine (show Calls Try.prog 10 _ _ _ from ((put_any ({ f with key := bang f.key }) _).mono ?_))
  rw [← hf'] at hme ⊢
  rintro x w3 ⟨v, rfl, ho⟩
  have hout : evOut f' = [] := by unfold evOut; rw [if_neg (by rw [hme]; decide)]
  rw [hout] at ho
  rw [hme]
  obtain ⟨A, c, rfl, _, hb3⟩ := ho
  have hxf : ∀ o, w3.cell? ⟨w2.heap.size, o, none⟩ = _ := fun o => (hb3.cell (p := ⟨w2.heap.size, o, none⟩) (by simp)).trans (World.cell?_alloc_new w2 _ _ o)
  have hs3 := hb3.size
  simp only [World.size_alloc] at hs3
  have HB3 := Lib.hid (HB2.out.trans (((Below.refl _ _).alloc (by omega) _).trans (hb3.mono (by simp; omega))))
  clear hb3
  go_wp2_with fail
  refine (show Calls Try.prog 12 _ _ _ from ((may_any ({ f with key := bang f.key }) _).mono ?_))
  rw [← hf', hme]
  rintro x w4 ⟨rfl, hb4⟩
  have HB4 := Lib.hid (HB3.out.trans (hb4.mono (by omega)))
  clear hb4 hxf
  go_wp2_with fail
  go_ret
  exact ⟨rfl, HB4.out⟩

set_option maxRecDepth 100000 in
set_option maxHeartbeats 4000000 in
theorem odd6 (e : Ev) (wh : Int) (w : World) (hk : e.key.size ≤ 140737488355328) (hv : e.v.size ≤ 140737488355328) (h0 : 0 ≤ wh) (hm : wh % 8 = 6) :
    Calls Try.prog 4 #[e.val, .int .u8 wh] w fun x w' => x = .returned (.bool true) ∧ Below w.heap.size w w' := by
  unfold Ev.val Ev.cells
  go_enter Try.func4, Try.ntmps4
  go_wp2_with fail
  refine (shown06_any _).mono ?_
  rintro x w1 ⟨rfl, hb1⟩
  have hs1 := hb1.size
  simp only [World.size_alloc] at hs1
  have hx1 : ∀ o, w1.cell? ⟨w.heap.size, o, none⟩ = _ := fun o => (hb1.cell (p := ⟨w.heap.size, o, none⟩) (by simp)).trans (World.cell?_alloc_new w _ _ o)
  have HB1 := Lib.hid (below_box hb1)
  clear hb1
  go_wp2_with fail
  refine (fit06_any e _ hk hv).mono ?_
  rintro x w2 ⟨⟨f, rfl, hm0⟩, hb2⟩
  have hs2 := hb2.size
  have HB2 := Lib.hid (HB1.out.trans (hb2.mono (by omega)))
  clear hb2 hx1
  have m := mayE_zero hm0
  have HM := Lib.hid m
  obtain ⟨r0, r4, n1, n2, _⟩ := m
  unfold Ev.val Ev.cells
  have hw : wh.tmod 8 = 6 := (Int.tmod_eq_emod_of_nonneg h0).trans hm
  go_wp2_with fail
  have hme : mayE ({ f with l := 2 }) = 11 := odd_label f HM.out
  obtain ⟨f', hf'⟩ : ∃ f' : Ev, f' = ({ f with l := 2 }) := ⟨_, rfl⟩
  refine (show Calls Try.prog 10 _ _ _ from ((put_any ({ f with l := 2 }) _).mono ?_))
  rw [← hf'] at hme ⊢
  rintro x w3 ⟨v, rfl, ho⟩
  have hout : evOut f' = [] := by unfold evOut; rw [if_neg (by rw [hme]; decide)]
  rw [hout] at ho
  rw [hme]
  obtain ⟨A, c, rfl, _, hb3⟩ := ho
  have hxf : ∀ o, w3.cell? ⟨w2.heap.size, o, none⟩ = _ := fun o => (hb3.cell (p := ⟨w2.heap.size, o, none⟩) (by simp)).trans (World.cell?_alloc_new w2 _ _ o)
  have hs3 := hb3.size
  simp only [World.size_alloc] at hs3
  have HB3 := Lib.hid (HB2.out.trans (((Below.refl _ _).alloc (by omega) _).trans (hb3.mono (by simp; omega))))
  clear hb3
  go_wp2_with fail
  refine (show Calls Try.prog 12 _ _ _ from ((may_any ({ f with l := 2 }) _).mono ?_))
  rw [← hf', hme]
  rintro x w4 ⟨rfl, hb4⟩
  have HB4 := Lib.hid (HB3.out.trans (hb4.mono (by omega)))
  clear hb4 hxf
  go_wp2_with fail
  go_ret
  exact ⟨rfl, HB4.out⟩

set_option maxRecDepth 100000 in
set_option maxHeartbeats 4000000 in
theorem odd7 (e : Ev) (wh : Int) (w : World) (hk : e.key.size ≤ 140737488355328) (hv : e.v.size ≤ 140737488355328) (h0 : 0 ≤ wh) (hm : wh % 8 = 7) :
    Calls Try.prog 4 #[e.val, .int .u8 wh] w fun x w' => x = .returned (.bool true) ∧ Below w.heap.size w w' := by
  unfold Ev.val Ev.cells
  go_enter Try.func4, Try.ntmps4
  go_wp2_with fail
  refine (shown06_any _).mono ?_
  rintro x w1 ⟨rfl, hb1⟩
  have hs1 := hb1.size
  simp only [World.size_alloc] at hs1
  have hx1 : ∀ o, w1.cell? ⟨w.heap.size, o, none⟩ = _ := fun o => (hb1.cell (p := ⟨w.heap.size, o, none⟩) (by simp)).trans (World.cell?_alloc_new w _ _ o)
  have HB1 := Lib.hid (below_box hb1)
  clear hb1
  go_wp2_with fail
  refine (fit06_any e _ hk hv).mono ?_
  rintro x w2 ⟨⟨f, rfl, hm0⟩, hb2⟩
  have hs2 := hb2.size
  have HB2 := Lib.hid (HB1.out.trans (hb2.mono (by omega)))
  clear hb2 hx1
  have m := mayE_zero hm0
  have HM := Lib.hid m
  obtain ⟨r0, r4, n1, n2, _⟩ := m
  unfold Ev.val Ev.cells
  have hw : wh.tmod 8 = 7 := (Int.tmod_eq_emod_of_nonneg h0).trans hm
  go_wp2_with fail
  have hme : mayE ({ f with v := v13 }) = 12 := odd_value f HM.out
  obtain ⟨f', hf'⟩ : ∃ f' : Ev, f' = ({ f with v := v13 }) := ⟨_, rfl⟩
  refine (show Calls Try.prog 10 _ _ _ from ((put_any ({ f with v := v13 }) _).mono ?_))
  rw [← hf'] at hme ⊢
  rintro x w3 ⟨v, rfl, ho⟩
  have hout : evOut f' = [] := by unfold evOut; rw [if_neg (by rw [hme]; decide)]
  rw [hout] at ho
  rw [hme]
  obtain ⟨A, c, rfl, _, hb3⟩ := ho
  have hxf : ∀ o, w3.cell? ⟨w2.heap.size, o, none⟩ = _ := fun o => (hb3.cell (p := ⟨w2.heap.size, o, none⟩) (by simp)).trans (World.cell?_alloc_new w2 _ _ o)
  have hs3 := hb3.size
  simp only [World.size_alloc] at hs3
  have HB3 := Lib.hid (HB2.out.trans (((Below.refl _ _).alloc (by omega) _).trans (hb3.mono (by simp; omega))))
  clear hb3
  go_wp2_with fail
  refine (show Calls Try.prog 12 _ _ _ from ((may_any ({ f with v := v13 }) _).mono ?_))
  rw [← hf', hme]
  rintro x w4 ⟨rfl, hb4⟩
  have HB4 := Lib.hid (HB3.out.trans (hb4.mono (by omega)))
  clear hb4 hxf
  go_wp2_with fail
  go_ret
  exact ⟨rfl, HB4.out⟩

theorem odd_any (e : Ev) (wh : Int) (w : World) (hk : e.key.size ≤ 140737488355328) (hv : e.v.size ≤ 140737488355328) (h0 : 0 ≤ wh) :
    Calls Try.prog 4 #[e.val, .int .u8 wh] w fun x w' => x = .returned (.bool true) ∧ Below w.heap.size w w' := by
  rcases (show wh % 8 = 0 ∨ wh % 8 = 1 ∨ wh % 8 = 2 ∨ wh % 8 = 3 ∨ wh % 8 = 4 ∨ wh % 8 = 5 ∨ wh % 8 = 6 ∨ wh % 8 = 7 by omega) with h | h | h | h | h | h | h | h
  · exact odd0 e wh w hk hv h0 h
  · exact odd1 e wh w hk hv h0 h
  · exact odd2 e wh w hk hv h0 h
  · exact odd3 e wh w hk hv h0 h
  · exact odd4 e wh w hk hv h0 h
  · exact odd5 e wh w hk hv h0 h
  · exact odd6 e wh w hk hv h0 h
  · exact odd7 e wh w hk hv h0 h

end Go.Proofs.Ytlannpjlanegoaa
