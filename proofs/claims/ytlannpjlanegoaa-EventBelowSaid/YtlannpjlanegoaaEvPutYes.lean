/-
  event.Put of an event that may be: its bytes, in a new slice.
-/
import Derived.Test.YtlannpjlanegoaaEvPut
namespace Go.Proofs.Ytlannpjlanegoaa
open Go.RowKit

theorem byteOf_cast (n : Int) (h0 : 0 ≤ n) (h1 : n < 256) : n = ((byteOf n).toNat : Int) := by
  unfold byteOf
  rw [UInt8.toNat_ofNat', Nat.mod_eq_of_lt (by omega)]
  omega

theorem hb_start (w : World) (k r : Int) (hk : k = ((byteOf k).toNat : Int)) (hr : r = ((byteOf r).toNat : Int)) :
    Hb ((w.alloc (.cells #[.int .u8 k, .int .u8 r] 5)).alloc (.cells #[.slice (some ⟨w.heap.size, 0, none⟩) 2 2] 28)) w.heap.size (w.heap.size + 1) 2 [byteOf k, byteOf r] := by
  refine ⟨by omega, .slice (some ⟨w.heap.size, 0, none⟩) 2 2, 2, ?_, ?_, Nat.le_refl _⟩
  · have := heap_alloc_new (w.alloc (.cells #[.int .u8 k, .int .u8 r] 5)) (.cells #[.slice (some ⟨w.heap.size, 0, none⟩) 2 2] 28)
    simpa using this
  · have h := World.ownsRow_lit (base := w.heap.size) (e := 5) (size := 1) w #[.int .u8 k, .int .u8 r] 2 (Nat.le_refl _) (by simp [maxLen]) rfl
    have e : ([byteOf k, byteOf r].map bV) = (#[.int .u8 k, .int .u8 r] : Array Value).toList := by
      simp only [List.map_cons, List.map_nil, bV, ← hk, ← hr]
    rw [e]
    exact h.alloc _

theorem below_start {w w1 w2 : World} {B : Nat} {o o' : Obj} (h : Below w.heap.size w w1) (h2 : Below w1.heap.size ((w1.alloc o).alloc o') w2) (hB : w.heap.size ≤ w1.heap.size) (hBB : B = w.heap.size) : Below B w w2 := by
  subst hBB
  exact (h.trans (((Below.refl _ _).alloc hB _).alloc (by simp; omega) _)).trans (h2.mono hB)

/-- At the end: the captured variable holds the bytes. -/
theorem hb_end {w wk : World} {base B L : Nat} {bs : List UInt8} (hb : Hb wk base B L bs) (hbel : Below w.heap.size w wk) (hbase : w.heap.size ≤ base) :
    ∃ v, wk.cell? ⟨B, 0, none⟩ = some v ∧ OutB w bs v wk := by
  obtain ⟨_, v, n, hv, hown, _⟩ := hb
  obtain ⟨A, c, rfl, hf⟩ := own_form hown
  have hn : n = bs.length := by have := hown.1; simp at this; exact this.symm
  subst hn
  exact ⟨_, cell_of_one hv, A, c, rfl, own_lower hown hbase, hbel⟩

/-- The numbers of the clock but the own one, up to the j-th. -/
def cAt (c : Clk) : Nat → Int
  | 0 => c.c0
  | 1 => c.c1
  | 2 => c.c2
  | 3 => c.c3
  | _ => c.c4
def oth (e : Ev) : Nat → List UInt8
  | 0 => []
  | j + 1 => oth e j ++ if (j : Int) ≠ e.r then vputI (cAt e.c j) else []

theorem oth_all (e : Ev) : oth e 5 = (others e).flatMap vputI := by
  have h : ∀ (i : Int) (n : Int), (if i ≠ e.r then vputI n else []) = (if e.r ≠ i then [n] else []).flatMap vputI := by
    intro i n
    by_cases h : e.r = i
    · simp [h]
    · rw [if_pos (fun x => h x.symm), if_pos h]
      simp
  simp only [oth, cAt, others, List.flatMap_append, ← h]
  simp

theorem evOut_short (e : Ev) (h0 : mayE e = 0) (h : isLong e.k = false) : evOut e = [byteOf e.k, byteOf e.r] ++ vputI e.n ++ oth e 5 ++ vputI e.h ++ words e.key := by
  unfold evOut
  rw [if_pos h0, oth_all]
  unfold evBytes
  rw [h]
  simp
theorem evOut_long (e : Ev) (h0 : mayE e = 0) (h : isLong e.k = true) : evOut e = [byteOf e.k, byteOf e.r] ++ vputI e.n ++ oth e 5 ++ vputI e.h ++ words e.key ++ [byteOf e.l] ++ words e.v := by
  unfold evOut
  rw [if_pos h0, oth_all]
  unfold evBytes
  rw [h]
  simp

theorem hb_nil {w : World} {base B L L' : Nat} {bs cs : List UInt8} (h : Hb w base B L bs) (hL : L ≤ L') (e : bs = cs) : Hb w base B L' cs := by
  subst e
  obtain ⟨hB, v, n, h1, h2, h3⟩ := h
  exact ⟨hB, v, n, h1, h2, by omega⟩

/-- What holds at the head of each round. -/
def PutRel (e : Ev) (w : World) (base : Nat) (j : Nat) (wr : World) : Prop :=
  Hb wr base (base + 1) (12 + 10 * j) (([byteOf e.k, byteOf e.r] ++ vputI e.n) ++ oth e j) ∧ (∀ o, wr.cell? ⟨w.heap.size, o, none⟩ = e.cells[o]?) ∧ Below w.heap.size w wr

theorem putRel_same {e : Ev} {w wr : World} {base j : Nat} (h : PutRel e w base j wr) (ho : oth e (j + 1) = oth e j) : PutRel e w base (j + 1) wr :=
  ⟨hb_nil h.1 (by omega) (by rw [ho]), h.2⟩

theorem putRel_next {e : Ev} {w wr w2 : World} {base j : Nat} {n : Int} (h : PutRel e w base j wr) (hlt : w.heap.size < base)
    (hb : Hb w2 base (base + 1) (12 + 10 * j + 10) ((([byteOf e.k, byteOf e.r] ++ vputI e.n) ++ oth e j) ++ vputI n)) (hbel : Below base wr w2) (ho : oth e (j + 1) = oth e j ++ vputI n) : PutRel e w base (j + 1) w2 :=
  ⟨hb_nil hb (by omega) (by rw [ho, List.append_assoc]), box_keep h.2.1 hbel hlt, h.2.2.trans (hbel.mono (by omega))⟩

set_option maxRecDepth 100000 in
set_option maxHeartbeats 8000000 in
theorem put_yes (e : Ev) (w : World) (hm0 : mayE e = 0) (m : MayB e) (hk0 : 0 ≤ e.k) (hk5 : e.k ≤ 5) (h8 : e.key.size ≤ 8)
    (hlong : isLong e.k = true → 0 ≤ e.l ∧ e.l ≤ 1 ∧ e.v.size ≤ 12) : Calls Try.prog 10 #[e.val] w (PutE e w) := by
  have hm : (mayE e != 0) = false := by simp [hm0]
  have ek : IntKind.u8.wrap e.k = e.k := IntWalk.u8_in _ (by omega)
  have er : IntKind.u8.wrap e.r = e.r := IntWalk.u8_in _ (by have := m.r0; have := m.r4; omega)
  have HK := Lib.hid (byteOf_cast e.k hk0 (by omega))
  have HR := Lib.hid (byteOf_cast e.r m.r0 (by have := m.r4; omega))
  have HM := Lib.hid m
  have HZ := Lib.hid hm0
  have HL := Lib.hid hlong
  have hr0 := m.r0
  have hr4 := m.r4
  have hmf : ∀ (fn : Fn) (first cap : Array Value) (w : World), (Instr.makeFunc fn first cap).run Try.prog w = .ok (.func fn first cap) w := fun _ _ _ _ => rfl
  clear m hm0 hlong
  unfold Ev.val Ev.cells
  go_enter Try.func10, Try.ntmps10
  go_wp2_with fail
  refine (may_any e _).mono ?_
  rintro x w1 ⟨rfl, hb1⟩
  have hx1 := fun o => (hb1.cell (p := ⟨w.heap.size, o, none⟩) (by simp)).trans (World.cell?_alloc_new w _ _ o)
  have hs1 := hb1.size
  simp only [World.size_alloc] at hs1
  have hlt1 : w.heap.size < w1.heap.size := by omega
  have hlt2 : w.heap.size < w1.heap.size + 1 := by omega
  have HB1 := Lib.hid (below_box hb1)
  clear hb1 hs1
  go_wp2_with fail
  have hb2 := hb_start w1 e.k e.r HK.out HR.out
  have hx2 := fun o => ((World.cell?_alloc_past _ _ o (by simp; omega)).trans ((World.cell?_alloc_past _ _ o hlt1).trans (hx1 o)) : ((w1.alloc (.cells #[.int .u8 e.k, .int .u8 e.r] 5)).alloc (.cells #[.slice (some ⟨w1.heap.size, 0, none⟩) 2 2] 28)).cell? ⟨w.heap.size, o, none⟩ = _)
  clear hx1
  refine (number_any _ _ _ 2 _ _ hb2 (by have := HM.out.n1; omega) (by have := HM.out.n2; omega) (by omega)).mono ?_
  rintro x w3 ⟨rfl, hb3, bel3⟩
  have hx3 := box_keep hx2 bel3 hlt1
  have HR3 : PutRel e w w1.heap.size 0 w3 := ⟨by simpa [oth] using hb3, hx3, below_start HB1.out bel3 (by omega) rfl⟩
  have hlt3 : w.heap.size < w3.heap.size := by have := bel3.size; simp at this; omega
  clear hb2 hx2 bel3 hb3
  go_wp2_with fail
  clear hx3
  go_loopw [30] (fun i wr => ∃ j : Nat, j ≤ 5 ∧ i = .int .i64 j ∧ PutRel e w w1.heap.size j wr) (fun i _ => 5 - (intOf i).toNat)
  case atStart => exact ⟨0, by omega, rfl, HR3⟩
  case round =>
    clear HR3 hlt3
    obtain ⟨j, hj, rfl, hrel⟩ := hrel
    have hx := hrel.2.1
    have hltr : w.heap.size < wr.heap.size := by
      obtain ⟨_, v, n, hv, _⟩ := hrel.1
      have := lt_of_block hv
      omega
    unfold Ev.cells at hx
    have HRel := Lib.hid hrel
    clear hrel
    rcases (show j = 0 ∨ j = 1 ∨ j = 2 ∨ j = 3 ∨ j = 4 ∨ j = 5 by omega) with rfl | rfl | rfl | rfl | rfl | rfl
    · cases hq : ((0 : Int) != e.r) with
      | false =>
        have HQ := Lib.hid hq
        go_wp2_with fail
        go_roundw
        case rel => exact ⟨1, by omega, by go_num, putRel_same HRel.out (by have := HQ.out; simp only [bne_eq_false_iff_eq] at this; simp [oth, this])⟩
        case measure => simp [intOf]
      | true =>
        have HQ := Lib.hid hq
        go_wp2_with fail
        refine (number_any _ _ _ 12 _ _ HRel.out.1 HM.out.a0.1 (by have := HM.out.a0.2; omega) (by omega)).mono ?_
        rintro x w4 ⟨rfl, hb4, bel4⟩
        go_wp2_with fail
        go_roundw
        case rel => exact ⟨1, by omega, by go_num, putRel_next HRel.out hlt1 hb4 bel4 (by have := HQ.out; simp only [bne_iff_ne, ne_eq] at this; simp [oth, cAt, this])⟩
        case measure => simp [intOf]
    · cases hq : ((1 : Int) != e.r) with
      | false =>
        have HQ := Lib.hid hq
        go_wp2_with fail
        go_roundw
        case rel => exact ⟨2, by omega, by go_num, putRel_same HRel.out (by have := HQ.out; simp only [bne_eq_false_iff_eq] at this; simp [oth, this])⟩
        case measure => simp [intOf]
      | true =>
        have HQ := Lib.hid hq
        go_wp2_with fail
        refine (number_any _ _ _ 22 _ _ HRel.out.1 HM.out.a1.1 (by have := HM.out.a1.2; omega) (by omega)).mono ?_
        rintro x w4 ⟨rfl, hb4, bel4⟩
        go_wp2_with fail
        go_roundw
        case rel => exact ⟨2, by omega, by go_num, putRel_next HRel.out hlt1 hb4 bel4 (by have := HQ.out; simp only [bne_iff_ne, ne_eq] at this; simp [oth, cAt, this])⟩
        case measure => simp [intOf]
    · cases hq : ((2 : Int) != e.r) with
      | false =>
        have HQ := Lib.hid hq
        go_wp2_with fail
        go_roundw
        case rel => exact ⟨3, by omega, by go_num, putRel_same HRel.out (by have := HQ.out; simp only [bne_eq_false_iff_eq] at this; simp [oth, this])⟩
        case measure => simp [intOf]
      | true =>
        have HQ := Lib.hid hq
        go_wp2_with fail
        refine (number_any _ _ _ 32 _ _ HRel.out.1 HM.out.a2.1 (by have := HM.out.a2.2; omega) (by omega)).mono ?_
        rintro x w4 ⟨rfl, hb4, bel4⟩
        go_wp2_with fail
        go_roundw
        case rel => exact ⟨3, by omega, by go_num, putRel_next HRel.out hlt1 hb4 bel4 (by have := HQ.out; simp only [bne_iff_ne, ne_eq] at this; simp [oth, cAt, this])⟩
        case measure => simp [intOf]
    · cases hq : ((3 : Int) != e.r) with
      | false =>
        have HQ := Lib.hid hq
        go_wp2_with fail
        go_roundw
        case rel => exact ⟨4, by omega, by go_num, putRel_same HRel.out (by have := HQ.out; simp only [bne_eq_false_iff_eq] at this; simp [oth, this])⟩
        case measure => simp [intOf]
      | true =>
        have HQ := Lib.hid hq
        go_wp2_with fail
        refine (number_any _ _ _ 42 _ _ HRel.out.1 HM.out.a3.1 (by have := HM.out.a3.2; omega) (by omega)).mono ?_
        rintro x w4 ⟨rfl, hb4, bel4⟩
        go_wp2_with fail
        go_roundw
        case rel => exact ⟨4, by omega, by go_num, putRel_next HRel.out hlt1 hb4 bel4 (by have := HQ.out; simp only [bne_iff_ne, ne_eq] at this; simp [oth, cAt, this])⟩
        case measure => simp [intOf]
    · cases hq : ((4 : Int) != e.r) with
      | false =>
        have HQ := Lib.hid hq
        go_wp2_with fail
        go_roundw
        case rel => exact ⟨5, by omega, by go_num, putRel_same HRel.out (by have := HQ.out; simp only [bne_eq_false_iff_eq] at this; simp [oth, this])⟩
        case measure => simp [intOf]
      | true =>
        have HQ := Lib.hid hq
        go_wp2_with fail
        refine (number_any _ _ _ 52 _ _ HRel.out.1 HM.out.a4.1 (by have := HM.out.a4.2; omega) (by omega)).mono ?_
        rintro x w4 ⟨rfl, hb4, bel4⟩
        go_wp2_with fail
        go_roundw
        case rel => exact ⟨5, by omega, by go_num, putRel_next HRel.out hlt1 hb4 bel4 (by have := HQ.out; simp only [bne_iff_ne, ne_eq] at this; simp [oth, cAt, this])⟩
        case measure => simp [intOf]
    · cases hq : isLong e.k with
      | false =>
        have HG := Lib.hid hq
        go_wp2_with fail
        refine (number_any _ _ _ 62 _ _ HRel.out.1 (by have := HM.out.h1; omega) HM.out.h2 (by omega)).mono ?_
        rintro x w4 ⟨rfl, hb4, bel4⟩
        have hx4 := box_keep hx bel4 hlt1
        have hlt4 : w.heap.size < w4.heap.size := by have := bel4.size; omega
        have HB4 := Lib.hid (HRel.out.2.2.trans (bel4.mono (by omega)))
        clear hx bel4
        go_wp2_with fail
        refine (words_any _ _ _ 72 _ _ hb4 (by omega) (by omega)).mono ?_
        rintro x w5 ⟨rfl, hb5, bel5⟩
        have hx5 := box_keep hx4 bel5 hlt1
        have hlt5 : w.heap.size < w5.heap.size := by have := bel5.size; omega
        have HB5 := Lib.hid (HB4.out.trans (bel5.mono (by omega)))
        clear hb4 hx4 bel5
        go_wp2_with fail
        refine (isLong_any _ _).mono ?_
        rintro x w' ⟨rfl, rfl⟩
        obtain ⟨v, hc, ho⟩ := hb_end hb5 HB5.out (by omega)
        go_wp2_with fail
        go_ret2
        refine ⟨v, ?_, ?_⟩
        · simp [HZ.out]
        · rw [evOut_short e HZ.out HG.out]
          exact ho
      | true =>
        have HG := Lib.hid hq
        go_wp2_with fail
        refine (number_any _ _ _ 62 _ _ HRel.out.1 (by have := HM.out.h1; omega) HM.out.h2 (by omega)).mono ?_
        rintro x w4 ⟨rfl, hb4, bel4⟩
        have hx4 := box_keep hx bel4 hlt1
        have hlt4 : w.heap.size < w4.heap.size := by have := bel4.size; omega
        have HB4 := Lib.hid (HRel.out.2.2.trans (bel4.mono (by omega)))
        clear hx bel4
        go_wp2_with fail
        refine (words_any _ _ _ 72 _ _ hb4 (by omega) (by omega)).mono ?_
        rintro x w5 ⟨rfl, hb5, bel5⟩
        have hx5 := box_keep hx4 bel5 hlt1
        have hlt5 : w.heap.size < w5.heap.size := by have := bel5.size; omega
        have HB5 := Lib.hid (HB4.out.trans (bel5.mono (by omega)))
        clear hb4 hx4 bel5
        go_wp2_with fail
        refine (isLong_any _ _).mono ?_
        rintro x w' ⟨rfl, rfl⟩
        obtain ⟨hl0, hl1, h12⟩ := HL.out HG.out
        have el : IntKind.u8.wrap e.l = e.l := IntWalk.u8_in _ (by omega)
        have HLb := Lib.hid (byteOf_cast e.l hl0 (by omega))
        obtain ⟨hB, v, n0, hv, hown, hn0⟩ := hb5
        have hcell := cell_of_one hv
        have hfree := free_of_one hv
        have hltB := lt_of_block hv
        go_wp2_with (at_builtin; refine wpList_appB _ rfl (.tmp 53) (.tmp 57) _ rfl w1.heap.size v _ _ rfl (hown.alloc _) _ 1 [byteOf e.l] rfl (src1 HLb.out) (by omega) (by simp; omega) ?_; intro v1 wa hown1 hg1 hat1; obtain ⟨h1, hbel1⟩ := hb_row hB hv hown (below_own _) hg1; obtain ⟨A1, c1, rfl, hf1⟩ := own_form hown1; have hcell1 := cell_of_one h1; have hfree1 := free_of_one h1; have hxa := box_keep hx5 hbel1 hlt1; have hsa := hbel1.size; have hnB : ¬ w.heap.size = w1.heap.size + 1 := by omega)
        obtain ⟨hb6, bel6⟩ := hb_done (L := 86) hB (by omega) hbel1 h1 hown1
        have HB6 := Lib.hid (HB5.out.trans (bel6.mono (by omega)))
        refine (words_any _ _ _ 86 _ _ hb6 h12 (by omega)).mono ?_
        rintro x w7 ⟨rfl, hb7, bel7⟩
        obtain ⟨v, hc, ho⟩ := hb_end hb7 (HB6.out.trans (bel7.mono (by omega))) (by omega)
        clear hcell hfree hcell1 hfree1 hxa hx5
        go_wp2_with fail
        go_ret2
        refine ⟨v, ?_, ?_⟩
        · simp [HZ.out]
        · rw [evOut_long e HZ.out HG.out]
          exact ho

/-- What event.Put computes, for every event. -/
theorem put_any (e : Ev) (w : World) : Calls Try.prog 10 #[e.val] w (PutE e w) := by
  by_cases h : mayE e = 0
  · have m := mayE_zero h
    obtain ⟨h1, h2, h3, h4, h5, h6, h7⟩ := editE_zero m.ed
    exact put_yes e w h m (by simp only [Ev.ed] at h1; omega) h2 h4 (fun hl => ⟨(h6 hl).1, (h6 hl).2.1, (h6 hl).2.2.2⟩)
  · exact put_no e w h

end Go.Proofs.Ytlannpjlanegoaa
