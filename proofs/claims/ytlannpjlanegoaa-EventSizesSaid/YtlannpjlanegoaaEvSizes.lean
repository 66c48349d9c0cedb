/-
  The statement EventSizes: an event that is put has as many bytes as its numbers and texts ask, and begins with its kind and its replica.
-/
import Derived.Test.YtlannpjlanegoaaEvShown
namespace Go.Proofs.Ytlannpjlanegoaa
open Go.RowKit

theorem out_cells {w w' : World} {bs : List UInt8} {A : Option Addr} {n c : Nat} (h : OutB w bs (.slice A n c) w') (j : Nat) (hj : j < bs.length) : ∃ g, A = some ⟨g, 0, none⟩ ∧ ∀ i (hi : i < bs.length), w'.cell? ⟨g, i, none⟩ = some (bV bs[i]) := by
  obtain ⟨A', c', e, hown, _⟩ := h
  injection e with e1 e2 e3
  subst e1 e2 e3
  rcases hown.2 with ⟨_, h0⟩ | ⟨g, cap, cur, hv, _, hg, _⟩
  · omega
  · injection hv with hA hn hc
    subst hA
    refine ⟨g, rfl, fun i hi => ?_⟩
    have := hown.cells (g := g) rfl i (bV bs[i]) (by rw [List.getElem?_map, List.getElem?_eq_getElem hi]; rfl)
    rwa [Addr.add_lit, Nat.zero_add] at this

theorem evOut_head (f : Ev) (h0 : mayE f = 0) : ∃ rest, evOut f = byteOf f.k :: byteOf f.r :: rest := by
  unfold evOut
  rw [if_pos h0]
  unfold evBytes
  simp only [List.cons_append, List.nil_append, List.append_assoc]
  exact ⟨_, rfl⟩

theorem words_len (s : ByteArray) : (words s).length = 1 + s.size := by
  unfold words
  rw [List.length_cons, Array.length_toList]
  show s.size + 1 = _
  omega

theorem evLen_short (f : Ev) (h0 : mayE f = 0) (h : isLong f.k = false) : (evOut f).length = 2 + (vputI f.n).length + (oth f 5).length + (vputI f.h).length + 1 + f.key.size := by
  rw [evOut_short f h0 h]
  simp only [List.length_append, words_len, List.length_cons, List.length_nil]
  omega
theorem evLen_long (f : Ev) (h0 : mayE f = 0) (h : isLong f.k = true) : (evOut f).length = 2 + (vputI f.n).length + (oth f 5).length + (vputI f.h).length + 1 + f.key.size + 2 + f.v.size := by
  rw [evOut_long f h0 h]
  simp only [List.length_append, words_len, List.length_cons, List.length_nil]
  omega

theorem oth_same (f : Ev) (j : Nat) (h : (j : Int) = f.r) : oth f (j + 1) = oth f j := by simp [oth, h]
theorem oth_next (f : Ev) (j : Nat) (h : ¬ (j : Int) = f.r) : oth f (j + 1) = oth f j ++ vputI (cAt f.c j) := by simp [oth, h]

theorem oth_le (f : Ev) : ∀ j, (oth f j).length ≤ 10 * j
  | 0 => by simp [oth]
  | j + 1 => by
    have := oth_le f j
    have h2 := vputF_le 9 (cAt f.c j).toNat
    unfold oth
    split <;> simp [vputI, vput] at * <;> omega

set_option maxRecDepth 100000 in
set_option maxHeartbeats 4000000 in
theorem sizes_any (e : Ev) (w : World) (hk : e.key.size ≤ 140737488355328) (hv : e.v.size ≤ 140737488355328) :
    Calls Try.prog 3 #[e.val] w fun x w' => x = .returned (.bool true) ∧ Below w.heap.size w w' := by
  unfold Ev.val Ev.cells
  go_enter Try.func3, Try.ntmps3
  go_wp2_with fail
  refine (shown06_any _).mono ?_
  rintro x w1 ⟨rfl, hb1⟩
  have hs1 := hb1.size
  simp only [World.size_alloc] at hs1
  have hx1 : ∀ o, w1.cell? ⟨w.heap.size, o, none⟩ = _ := fun o => (hb1.cell (p := ⟨w.heap.size, o, none⟩) (by simp)).trans (World.cell?_alloc_new w _ _ o)
  have HB1 := Lib.hid (below_box hb1)
  clear hb1
  go_wp2_with fail
  refine (fit06_any e _ hk hv).mono ?_
  rintro x w2 ⟨⟨f, rfl, hm0⟩, hb2⟩
  have hs2 := hb2.size
  have HB2 := Lib.hid (HB1.out.trans (hb2.mono (by omega)))
  clear hb2 hx1
  unfold Ev.val Ev.cells
  go_wp2_with fail
  refine (put_any f _).mono ?_
  rintro x w3 ⟨v, rfl, ho⟩
  obtain ⟨A, c, rfl, hown, hb3⟩ := ho
  have ho : OutB _ (evOut f) _ w3 := ⟨A, c, rfl, hown, hb3⟩
  obtain ⟨rest, hrest⟩ := evOut_head f hm0
  obtain ⟨g, rfl, hgc⟩ := out_cells ho 0 (by rw [hrest]; simp)
  have m := mayE_zero hm0
  obtain ⟨k1, k5, _, h8, _, hlg, _⟩ := editE_zero m.ed
  have k1 : 1 ≤ f.k := k1
  have k5 : f.k ≤ 5 := k5
  have h8 : f.key.size ≤ 8 := h8
  have hlg : isLong f.k = true → f.v.size ≤ 12 := fun h => (hlg h).2.2.2
  have hc0 : w3.cell? ⟨g, 0, none⟩ = some (.int .u8 f.k) := by
    rw [hgc 0 (by rw [hrest]; simp)]
    simp only [hrest, List.getElem_cons_zero, bV]
    rw [← byteOf_cast f.k (by omega) (by omega)]
  have hc1 : w3.cell? ⟨g, 1, none⟩ = some (.int .u8 f.r) := by
    rw [hgc 1 (by rw [hrest]; simp)]
    simp only [hrest, List.getElem_cons_succ, List.getElem_cons_zero, bV]
    rw [← byteOf_cast f.r m.r0 (by have := m.r4; omega)]
  have hxf : ∀ o, w3.cell? ⟨w2.heap.size, o, none⟩ = _ := fun o => (hb3.cell (p := ⟨w2.heap.size, o, none⟩) (by simp)).trans (World.cell?_alloc_new w2 _ _ o)
  have HB3 := Lib.hid (HB2.out.trans (((Below.refl _ _).alloc (by omega) _).trans (hb3.mono (by simp; omega))))
  clear hb3 hown ho hgc
  rw [hm0]
  have hln := vputF_le 9 f.n.toNat
  have hlh := vputF_le 9 f.h.toNat
  have els := evLen_short f hm0
  have ell := evLen_long f hm0
  have ole := oth_le f
  have ELS := Lib.hid els
  have ELL := Lib.hid ell
  have OLE := Lib.hid ole
  have HM := Lib.hid m
  have HLG := Lib.hid hlg
  clear els ell ole m hlg hrest hm0
  obtain ⟨L, hL⟩ : ∃ L, (evOut f).length = L := ⟨_, rfl⟩
  obtain ⟨ln, hln'⟩ : ∃ ln, (vputI f.n).length = ln := ⟨_, rfl⟩
  obtain ⟨lh, hlh'⟩ : ∃ lh, (vputI f.h).length = lh := ⟨_, rfl⟩
  have hlnle : ln ≤ 10 := by rw [← hln']; exact hln
  have hlhle : lh ≤ 10 := by rw [← hlh']; exact hlh
  clear hln hlh
  have e1 : IntKind.i64.wrap (2 + (ln : Int)) = 2 + ln := IntWalk.i64_in _ (by omega)
  have e2 : IntKind.i64.wrap (2 + (ln : Int) + lh) = 2 + ln + lh := IntWalk.i64_in _ (by omega)
  have e3 : IntKind.i64.wrap (2 + (ln : Int) + lh + 1) = 2 + ln + lh + 1 := IntWalk.i64_in _ (by omega)
  have e4 : IntKind.i64.wrap (2 + (ln : Int) + lh + 1 + f.key.size) = 2 + ln + lh + 1 + f.key.size := IntWalk.i64_in _ (by omega)
  go_wp2_with fail
  have hn0 := HM.out.n1
  have hn1 := HM.out.n2
  have hh0 := HM.out.h1
  have hh1 := HM.out.h2
  go_quiet ((go_at_call 11; exact quiet_left (long06_any _ (by omega) (by omega) _)))
  go_wp2_with fail
  clear e1 e2 e3 e4 hk hv
  have HLN := Lib.hid hln'
  have HLH := Lib.hid hlh'
  clear hln' hlh'
  have hL2 := hL
  have HLL := Lib.hid hL2
  clear hL2 hL
  go_loop [7, 8] (fun t i => ∃ (j s : Nat), j ≤ 5 ∧ i = .int .i64 j ∧ t = .int .i64 (2 + ln + lh + 1 + f.key.size + s) ∧ s ≤ 50 ∧ (oth f j).length = s) (fun _ i => 5 - (intOf i).toNat)
  case atStart => exact ⟨0, 0, by omega, rfl, by go_num, by omega, rfl⟩
  case round =>
    obtain ⟨j, s, hj, rfl, rfl, hs50, hos⟩ := hrel
    have HO := Lib.hid hos
    clear hos
    rcases (show j = 0 ∨ j = 1 ∨ j = 2 ∨ j = 3 ∨ j = 4 ∨ j = 5 by omega) with rfl | rfl | rfl | rfl | rfl | rfl
    · cases hq : ((0 : Int) != f.r) with
      | false =>
        have HQ := Lib.hid hq
        go_wp2_with fail
        go_round
        case rel => exact ⟨1, s, by omega, by go_num, rfl, by omega, by rw [← HO.out, oth_same f 0 (by simpa using HQ.out)]⟩
        case measure => simp [intOf]
      | true =>
        have HQ := Lib.hid hq
        have hle := OLE.out 1
        have ho2 : (oth f 1).length = s + (vputI f.c.c0).length := by rw [← HO.out, oth_next f 0 (by simpa using HQ.out), List.length_append]; rfl
        have HO2 := Lib.hid ho2
        have hv10 := vputF_le 9 f.c.c0.toNat
        obtain ⟨lc, hlc⟩ : ∃ lc, (vputI f.c.c0).length = lc := ⟨_, rfl⟩
        have hlcle : lc ≤ 10 := by rw [← hlc]; exact hv10
        have HLC := Lib.hid hlc
        have hsle : s + lc ≤ 50 := by rw [HO2.out, HLC.out] at hle; omega
        clear hle ho2 hv10
        go_wp2_with fail
        refine (long06_any _ HM.out.a0.1 (by have := HM.out.a0.2; omega) _).mono ?_
        rintro x w' ⟨rfl, rfl⟩
        go_wp2_with fail
        go_round
        case rel => exact ⟨1, s + lc, by omega, by go_num, by go_num, hsle, by rw [HO2.out, HLC.out]⟩
        case measure => simp [intOf]
    · cases hq : ((1 : Int) != f.r) with
      | false =>
        have HQ := Lib.hid hq
        go_wp2_with fail
        go_round
        case rel => exact ⟨2, s, by omega, by go_num, rfl, by omega, by rw [← HO.out, oth_same f 1 (by simpa using HQ.out)]⟩
        case measure => simp [intOf]
      | true =>
        have HQ := Lib.hid hq
        have hle := OLE.out 2
        have ho2 : (oth f 2).length = s + (vputI f.c.c1).length := by rw [← HO.out, oth_next f 1 (by simpa using HQ.out), List.length_append]; rfl
        have HO2 := Lib.hid ho2
        have hv10 := vputF_le 9 f.c.c1.toNat
        obtain ⟨lc, hlc⟩ : ∃ lc, (vputI f.c.c1).length = lc := ⟨_, rfl⟩
        have hlcle : lc ≤ 10 := by rw [← hlc]; exact hv10
        have HLC := Lib.hid hlc
        have hsle : s + lc ≤ 50 := by rw [HO2.out, HLC.out] at hle; omega
        clear hle ho2 hv10
        go_wp2_with fail
        refine (long06_any _ HM.out.a1.1 (by have := HM.out.a1.2; omega) _).mono ?_
        rintro x w' ⟨rfl, rfl⟩
        go_wp2_with fail
        go_round
        case rel => exact ⟨2, s + lc, by omega, by go_num, by go_num, hsle, by rw [HO2.out, HLC.out]⟩
        case measure => simp [intOf]
    · cases hq : ((2 : Int) != f.r) with
      | false =>
        have HQ := Lib.hid hq
        go_wp2_with fail
        go_round
        case rel => exact ⟨3, s, by omega, by go_num, rfl, by omega, by rw [← HO.out, oth_same f 2 (by simpa using HQ.out)]⟩
        case measure => simp [intOf]
      | true =>
        have HQ := Lib.hid hq
        have hle := OLE.out 3
        have ho2 : (oth f 3).length = s + (vputI f.c.c2).length := by rw [← HO.out, oth_next f 2 (by simpa using HQ.out), List.length_append]; rfl
        have HO2 := Lib.hid ho2
        have hv10 := vputF_le 9 f.c.c2.toNat
        obtain ⟨lc, hlc⟩ : ∃ lc, (vputI f.c.c2).length = lc := ⟨_, rfl⟩
        have hlcle : lc ≤ 10 := by rw [← hlc]; exact hv10
        have HLC := Lib.hid hlc
        have hsle : s + lc ≤ 50 := by rw [HO2.out, HLC.out] at hle; omega
        clear hle ho2 hv10
        go_wp2_with fail
        refine (long06_any _ HM.out.a2.1 (by have := HM.out.a2.2; omega) _).mono ?_
        rintro x w' ⟨rfl, rfl⟩
        go_wp2_with fail
        go_round
        case rel => exact ⟨3, s + lc, by omega, by go_num, by go_num, hsle, by rw [HO2.out, HLC.out]⟩
        case measure => simp [intOf]
    · cases hq : ((3 : Int) != f.r) with
      | false =>
        have HQ := Lib.hid hq
        go_wp2_with fail
        go_round
        case rel => exact ⟨4, s, by omega, by go_num, rfl, by omega, by rw [← HO.out, oth_same f 3 (by simpa using HQ.out)]⟩
        case measure => simp [intOf]
      | true =>
        have HQ := Lib.hid hq
        have hle := OLE.out 4
        have ho2 : (oth f 4).length = s + (vputI f.c.c3).length := by rw [← HO.out, oth_next f 3 (by simpa using HQ.out), List.length_append]; rfl
        have HO2 := Lib.hid ho2
        have hv10 := vputF_le 9 f.c.c3.toNat
        obtain ⟨lc, hlc⟩ : ∃ lc, (vputI f.c.c3).length = lc := ⟨_, rfl⟩
        have hlcle : lc ≤ 10 := by rw [← hlc]; exact hv10
        have HLC := Lib.hid hlc
        have hsle : s + lc ≤ 50 := by rw [HO2.out, HLC.out] at hle; omega
        clear hle ho2 hv10
        go_wp2_with fail
        refine (long06_any _ HM.out.a3.1 (by have := HM.out.a3.2; omega) _).mono ?_
        rintro x w' ⟨rfl, rfl⟩
        go_wp2_with fail
        go_round
        case rel => exact ⟨4, s + lc, by omega, by go_num, by go_num, hsle, by rw [HO2.out, HLC.out]⟩
        case measure => simp [intOf]
    · cases hq : ((4 : Int) != f.r) with
      | false =>
        have HQ := Lib.hid hq
        go_wp2_with fail
        go_round
        case rel => exact ⟨5, s, by omega, by go_num, rfl, by omega, by rw [← HO.out, oth_same f 4 (by simpa using HQ.out)]⟩
        case measure => simp [intOf]
      | true =>
        have HQ := Lib.hid hq
        have hle := OLE.out 5
        have ho2 : (oth f 5).length = s + (vputI f.c.c4).length := by rw [← HO.out, oth_next f 4 (by simpa using HQ.out), List.length_append]; rfl
        have HO2 := Lib.hid ho2
        have hv10 := vputF_le 9 f.c.c4.toNat
        obtain ⟨lc, hlc⟩ : ∃ lc, (vputI f.c.c4).length = lc := ⟨_, rfl⟩
        have hlcle : lc ≤ 10 := by rw [← hlc]; exact hv10
        have HLC := Lib.hid hlc
        have hsle : s + lc ≤ 50 := by rw [HO2.out, HLC.out] at hle; omega
        clear hle ho2 hv10
        go_wp2_with fail
        refine (long06_any _ HM.out.a4.1 (by have := HM.out.a4.2; omega) _).mono ?_
        rintro x w' ⟨rfl, rfl⟩
        go_wp2_with fail
        go_round
        case rel => exact ⟨5, s + lc, by omega, by go_num, by go_num, hsle, by rw [HO2.out, HLC.out]⟩
        case measure => simp [intOf]
    · cases hq : isLong f.k with
      | false =>
        have hk2 : f.k ≤ 2 := by simp only [isLong, Bool.and_eq_false_iff, bne_eq_false_iff_eq] at hq; omega
        have hfin : L = 2 + ln + lh + 1 + f.key.size + s := by rw [← HLL.out, ELS.out hq, HO.out, HLN.out, HLH.out]; omega
        have hfb : ((L : Int) == 2 + (ln : Int) + (lh : Int) + 1 + (f.key.size : Int) + (s : Int)) = true := by rw [beq_iff_eq, hfin]; omega
        have hL2 : 2 ≤ L := by omega
        have hL3 : (0 : Int) < (L : Int) := by omega
        have hL4 : (1 : Int) < (L : Int) := by omega
        clear hq hfin
        have hr0 := HM.out.r0
        have hr4 := HM.out.r4
        go_wp2_with fail
        go_quiet (fail)
        go_wp2_with fail
        go_ret
        exact ⟨rfl, below_drewN (below_drewN HB3.out _) _⟩
      | true =>
        have hk2 : 2 < f.k := by simp only [isLong, Bool.and_eq_true, bne_iff_ne, ne_eq] at hq; omega
        have hv12 := HLG.out hq
        have hfin : L = 2 + ln + lh + 1 + f.key.size + s + 2 + f.v.size := by rw [← HLL.out, ELL.out hq, HO.out, HLN.out, HLH.out]; omega
        have hfb : ((L : Int) == 2 + (ln : Int) + (lh : Int) + 1 + (f.key.size : Int) + (s : Int) + 2 + (f.v.size : Int)) = true := by rw [beq_iff_eq, hfin]; omega
        have hL2 : 2 ≤ L := by omega
        have hL3 : (0 : Int) < (L : Int) := by omega
        have hL4 : (1 : Int) < (L : Int) := by omega
        clear hq hfin
        have hr0 := HM.out.r0
        have hr4 := HM.out.r4
        go_wp2_with fail
        go_quiet (fail)
        go_wp2_with fail
        go_ret
        exact ⟨rfl, below_drewN (below_drewN HB3.out _) _⟩

end Go.Proofs.Ytlannpjlanegoaa
