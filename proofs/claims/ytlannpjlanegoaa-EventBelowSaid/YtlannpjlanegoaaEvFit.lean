/-
  The law's helpers that make an event that may be: the edit of an event; Fit of an edit; Fit of an event.
-/
import Derived.Test.YtlannpjlanegoaaEvPut
import Derived.Laws.BitsLemmas
import Derived.BigRegion
namespace Go.Proofs.Ytlannpjlanegoaa
open Go.RowKit

set_option maxHeartbeats 400000 in
theorem ed06_any (e : Ev) (w : World) : Calls Try.prog 17 #[e.val] w fun x w' => x = .returned e.ed.val ∧ Below w.heap.size w w' := by
  unfold Ev.val Ev.cells
  go_enter Try.func17, Try.ntmps17
  go_wp2
  go_returns
  exact ⟨rfl, by go_grown⟩

theorem tmod_range (k : Int) : -5 < k.tmod 5 ∧ k.tmod 5 < 5 := by
  have h1 := Int.tmod_lt_of_pos k (show (0 : Int) < 5 by decide)
  have h2 := Int.lt_tmod_of_pos k (show (0 : Int) < 5 by decide)
  omega

theorem and_low (x : Int) (m : Nat) (hm : m ≤ 4294967296) : 0 ≤ bits .and .i64 x (m : Int) ∧ bits .and .i64 x (m : Int) ≤ m := by
  have h : (BitVec.ofInt 64 x &&& BitVec.ofInt 64 (m : Int)).toNat ≤ m := by
    rw [BitVec.toNat_and, BitVec.ofInt_natCast, BitVec.toNat_ofNat]
    exact Nat.le_trans Nat.and_le_right (Nat.mod_le _ _)
  show 0 ≤ IntKind.i64.wrap ((BitVec.ofInt 64 x &&& BitVec.ofInt 64 (m : Int)).toNat : Int) ∧ IntKind.i64.wrap ((BitVec.ofInt 64 x &&& BitVec.ofInt 64 (m : Int)).toNat : Int) ≤ m
  rw [IntKind.wrap_i64]
  omega
theorem and_one (x : Int) : ∃ q, bits .and .i64 x 1 = q ∧ 0 ≤ q ∧ q ≤ 1 := ⟨_, rfl, and_low x 1 (by decide)⟩
theorem and_20 (x : Int) : ∃ q, bits .and .i64 x 1048575 = q ∧ 0 ≤ q ∧ q ≤ 1048575 := ⟨_, rfl, and_low x 1048575 (by decide)⟩
theorem and_24 (x : Int) : ∃ q, bits .and .i64 x 16777215 = q ∧ 0 ≤ q ∧ q ≤ 16777215 := ⟨_, rfl, and_low x 16777215 (by decide)⟩

/-- An edit that may be is told. -/
def FitEd (w : World) (x : Ending) (w' : World) : Prop := (∃ f : Ed, x = .returned f.val ∧ editE f = 0) ∧ Below w.heap.size w w'

theorem fit_short {k : Int} {s : ByteArray} (h1 : 1 ≤ k) (h2 : k ≤ 2) (hs : keyE s = 0) : editE ⟨k, s, 0, ⟨#[]⟩⟩ = 0 := by
  unfold editE
  rw [if_neg (by simp; omega), if_neg (by simp [hs]), if_pos (by simp; omega)]
  simp
  rfl
theorem fit_long {k l : Int} {s v : ByteArray} (h1 : 2 < k) (h2 : k ≤ 5) (hl0 : 0 ≤ l) (hl1 : l ≤ 1) (hs : keyE s = 0) (hv : valueE v = 0) : editE ⟨k, s, l, v⟩ = 0 := by
  have hl : labelE l = 0 := by unfold labelE; rw [if_pos (by omega)]
  unfold editE
  rw [if_neg (by simp; omega), if_neg (by simp [hs]), if_neg (by simp; omega), if_neg (by simp [hl])]
  exact hv

theorem key_at (q : Int) : ∃ s : ByteArray, (#[.string ⟨#[97, 110, 110]⟩, .string ⟨#[98, 111, 98]⟩, .string ⟨#[99, 121]⟩] : Array Value)[(q % 3).toNat]? = some (.string s) ∧ keyE s = 0 := by
  rcases (show q % 3 = 0 ∨ q % 3 = 1 ∨ q % 3 = 2 by omega) with h | h | h <;> rw [h]
  · exact ⟨_, rfl, by decide⟩
  · exact ⟨_, rfl, by decide⟩
  · exact ⟨_, rfl, by decide⟩
theorem value_at (q : Int) : ∃ s : ByteArray, (#[.string ⟨#[49]⟩, .string ⟨#[116, 119, 111]⟩, .string ⟨#[0, 255]⟩, .string ⟨#[116, 119, 101, 108, 118, 101, 32, 98, 121, 116, 101, 115]⟩] : Array Value)[(q % 4).toNat]? = some (.string s) ∧ valueE s = 0 := by
  rcases (show q % 4 = 0 ∨ q % 4 = 1 ∨ q % 4 = 2 ∨ q % 4 = 3 by omega) with h | h | h | h <;> rw [h]
  · exact ⟨_, rfl, by decide⟩
  · exact ⟨_, rfl, by decide⟩
  · exact ⟨_, rfl, by decide⟩
  · exact ⟨_, rfl, by decide⟩

set_option maxRecDepth 100000 in
set_option maxHeartbeats 4000000 in
theorem fit05_any (e : Ed) (w : World) (hk : e.key.size ≤ 140737488355328) (hv : e.v.size ≤ 140737488355328) :
    Calls Try.prog 16 #[e.val] w (FitEd w) := by
  obtain ⟨lb, hlb, hlb0, hlb1⟩ := and_one e.l
  have ht := tmod_range e.k
  obtain ⟨ht1, ht2⟩ := ht
  unfold Ed.val
  go_enter Try.func16, Try.ntmps16
  go_wp2
  go_loop [5, 6] (fun n i => ∃ (j : Nat) (q : Int), j ≤ e.key.size ∧ i = .int .i64 j ∧ n = .int .i64 q ∧ 0 ≤ q ∧ q ≤ 255 * j) (fun _ i => e.key.size - (intOf i).toNat)
  case atStart => exact ⟨0, 0, by omega, rfl, rfl, by omega, by omega⟩
  case round =>
    obtain ⟨j, q, hj, rfl, rfl, hq0, hq1⟩ := hrel
    by_cases hlt : j < e.key.size
    · have hb : ((e.key[j]'hlt).toNat : Int) ≤ 255 := by have := (e.key[j]'hlt).toNat_lt; omega
      go_wp2
      go_round
      case rel => exact ⟨j + 1, _, by omega, by go_num, rfl, by omega, by omega⟩
      case measure => simp [intOf]; omega
    · go_wp2
      go_loop [7, 8] (fun n i => ∃ (j : Nat) (q : Int), j ≤ e.v.size ∧ i = .int .i64 j ∧ n = .int .i64 q ∧ 0 ≤ q ∧ q ≤ 255 * j) (fun _ i => e.v.size - (intOf i).toNat)
      case atStart => exact ⟨0, 0, by omega, rfl, rfl, by omega, by omega⟩
      case round =>
        obtain ⟨j2, q2, hj2, rfl, rfl, hq20, hq21⟩ := hrel
        by_cases hlt2 : j2 < e.v.size
        · have hb : ((e.v[j2]'hlt2).toNat : Int) ≤ 255 := by have := (e.v[j2]'hlt2).toNat_lt; omega
          go_wp2
          go_round
          case rel => exact ⟨j2 + 1, _, by omega, by go_num, rfl, by omega, by omega⟩
          case measure => simp [intOf]; omega
        · obtain ⟨ks, hks, hkok⟩ := key_at q
          obtain ⟨vs, hvs, hvok⟩ := value_at q2
          have HK := Lib.hid hkok
          have HV := Lib.hid hvok
          clear hkok hvok
          go_wp2
          go_region
          go_wp2
          · go_returns
            exact ⟨⟨⟨_, ks, lb, vs⟩, rfl, fit_long (by assumption) (by omega) hlb0 hlb1 HK.out HV.out⟩, by go_grown⟩
          · go_returns
            exact ⟨⟨⟨_, ks, 0, ⟨#[]⟩⟩, rfl, fit_short (by omega) (by assumption) HK.out⟩, by go_grown⟩

theorem withinB_of {n a b : Int} (h : a ≤ n ∧ n ≤ b) : withinB n a b = true := by simp [withinB, h.1, h.2]

theorem mayE_of {e : Ev} (m : MayB e) : mayE e = 0 := by
  unfold mayE okN
  rw [withinB_of ⟨m.r0, m.r4⟩, withinB_of ⟨m.n1, m.n2⟩, withinB_of ⟨m.h1, m.h2⟩, withinB_of m.a0, withinB_of m.a1, withinB_of m.a2, withinB_of m.a3, withinB_of m.a4]
  have := m.own
  simp [this, m.ed]

/-- An event that may be is told. -/
def FitEv (w : World) (x : Ending) (w' : World) : Prop := (∃ f : Ev, x = .returned f.val ∧ mayE f = 0) ∧ Below w.heap.size w w'

theorem fit_rem (r : Int) : ∃ rr, r.tmod 5 % 5 = rr ∧ 0 ≤ rr ∧ rr ≤ 4 := ⟨_, rfl, by omega, by omega⟩

set_option maxRecDepth 100000 in
set_option maxHeartbeats 8000000 in
theorem fit06_any (e : Ev) (w : World) (hk : e.key.size ≤ 140737488355328) (hv : e.v.size ≤ 140737488355328) :
    Calls Try.prog 9 #[e.val] w (FitEv w) := by
  obtain ⟨rr, hrr, hr0, hr4⟩ := fit_rem e.r
  obtain ⟨ht1, ht2⟩ := tmod_range e.r
  obtain ⟨qn, hqn, hqn0, hqn1⟩ := and_20 e.n
  obtain ⟨qh, hqh, hqh0, hqh1⟩ := and_24 e.h
  obtain ⟨q0, hq0, hq00, hq01⟩ := and_20 e.c.c0
  obtain ⟨q1, hq1, hq10, hq11⟩ := and_20 e.c.c1
  obtain ⟨q2, hq2, hq20, hq21⟩ := and_20 e.c.c2
  obtain ⟨q3, hq3, hq30, hq31⟩ := and_20 e.c.c3
  obtain ⟨q4, hq4, hq40, hq41⟩ := and_20 e.c.c4
  unfold Ev.val Ev.cells
  rcases (show rr = 0 ∨ rr = 1 ∨ rr = 2 ∨ rr = 3 ∨ rr = 4 by omega) with rfl | rfl | rfl | rfl | rfl <;>
  · go_enter Try.func9, Try.ntmps9
    go_wp2_with fail
    refine (ed06_any e _).mono ?_
    rintro x w1 ⟨rfl, hb1⟩
    have hs1 := hb1.size
    simp only [World.size_alloc] at hs1
    have hx1 : ∀ o, w1.cell? ⟨w.heap.size, o, none⟩ = _ := fun o => (hb1.cell (p := ⟨w.heap.size, o, none⟩) (by simp; omega)).trans ((World.cell?_alloc_past _ _ o (by simp)).trans (World.cell?_alloc_new w _ _ o))
    have HB1 := Lib.hid (below_box2 hb1)
    go_wp2_with fail
    have hy1 : w1.heap[w.heap.size + 1]? = _ := (hb1.block (w.heap.size + 1) (by simp)).trans (heap_alloc2_new _ _ _)
    clear hb1
    refine (fit05_any e.ed _ hk hv).mono ?_
    rintro x w2 ⟨⟨⟨fk, fkey, fl, fv⟩, rfl, hf⟩, hb2⟩
    have hs2 := hb2.size
    have hx2 := box_keep hx1 hb2 (by omega)
    have HY2 := Lib.hid ((hb2.block (w.heap.size + 1) (by omega)).trans hy1)
    have HB2 := Lib.hid (HB1.out.trans (hb2.mono (by omega)))
    have HF := Lib.hid hf
    have hlt2 : w.heap.size < w2.heap.size := by omega
    have hlt3 : w.heap.size < w2.heap.size + 1 := by omega
    have hlt4 : w.heap.size + 1 < w2.heap.size := by omega
    clear hb2 hx1 hs1 hf hy1 hs2
    simp only [Ed.val]
    go_wp2_with fail
    refine wp_loop_rounds 6 ?_
    iterate 5 (rw [rounds_succ]; go_wp2)
    rw [rounds_succ]
    go_wp2_with (first
      | ((with_reducible show wpList _ _ _ ((⟨some 50, .load 25 (.tmp 4), _, _, _, _⟩ : Oper) :: _) _ _); refine wpList_loadEv rfl (.tmp 4) rfl (w2.heap.size + 1) rfl _ (heap_alloc2_new _ _ _) rfl ?_)
      | ((with_reducible show wpList _ _ _ ((⟨none, .store 25 (.tmp 2) (.tmp 50), _, _, _, _⟩ : Oper) :: _) _ _); refine wpList_storeEv rfl (.tmp 2) (.tmp 50) rfl (w.heap.size + 1) _ rfl rfl _ (((Below.heap_alloc _ _ _ (by simp; omega)).trans (Below.heap_alloc _ _ _ (by omega))).trans HY2.out) rfl rfl rfl ?_))
    refine bodyPost_ret (results_ev rfl _ _ (w.heap.size + 1) _ rfl (row_back HY2.out) rfl) rfl ?_
    refine ⟨⟨⟨_, _, ⟨_, _, _, _, _⟩, _, fk, fkey, fl, fv⟩, rfl, mayE_of ⟨by dsimp only; omega, by dsimp only; omega, by dsimp only; omega, by dsimp only; omega, by dsimp only; omega, by dsimp only; omega, by dsimp only; omega, by dsimp only; omega, by dsimp only; omega, by dsimp only; omega, by dsimp only; omega, rfl, HF.out⟩⟩, ?_⟩
    exact below_row (((HB2.out).alloc (by omega) _).alloc (by simp; omega) _) (by omega)

end Go.Proofs.Ytlannpjlanegoaa
