/-
  Layer 24's example; reports that are the same.
-/
import Derived.Test.YtkimgljckickcaaGreatRa42
import Derived.Test.YtkimgljckickcaaGreatRa16
set_option maxHeartbeats 16000000
set_option maxRecDepth 100000
set_option linter.unusedVariables false
set_option linter.unusedSimpArgs false
namespace Go.Proofs.YtkimgljckickcaaGreat
open Go.RowKit

def tdF (w : Wy) (l : List Stp) (j : Nat) : Nat → List AV := fun m => [.v (.int .i64 (if j ≤ m ∧ m < l.length then 0 else tdA w l m))]
def tlF (w : Wy) (l : List Stp) : Nat → List AV := fun m => [.v (.int .i64 (tdA w l m))]
theorem tdF_end (w : Wy) (l : List Stp) : tdF w l l.length = tlF w l := funext fun m => by
  unfold tdF tlF
  rw [if_neg (by omega)]
def siF (w : Wy) (j : Nat) : Nat → List AV := fun m => if j ≤ m ∧ m < w.ns.length then alp else alo (w.ns.getD m default)
theorem siF_end (w : Wy) : siF w w.ns.length = qh alo w.ns := funext fun m => by
  unfold siF
  rw [if_neg (by omega)]
  rfl
abbrev stepsR (l : List Stp) : AV := .sl 10 l.length true (akU l)
def rnH (o : OB) (l : List Stp) : List (Nat × AO) := [(0, .obs o), (1, .box (44 : Nat) [.box 0 0]), (2, .box 24 [stepsR l])]
theorem told_m {j : Nat} {w : Wy} {l : List Stp} (h : GU j w) (hj : j ≤ 480) (hl : ∀ s ∈ l, s.rng) {i : Nat} (hi : i < l.length) :
    aj Tryz.prog 69 (rnH (CQ j w) l) [.v (.int .i64 (i : Int)), .box 1 0, .box 2 0] (.v (.int .i64 (w.step (l.getD (i : Int).toNat default)).2)) (rnH (CQ (j + 1) (w.step (l.getD (i : Int).toNat default)).1) l) := by
  have hg := alr hl hi
  have hst := ah' h hj (l.getD (i : Int).toNat default) hg.bit hg.mask
  generalize w.step (l.getD (i : Int).toNat default) = r at *
  generalize CQ j w = B0 at *
  generalize CQ (j + 1) r.1 = B1 at *
  dsimp only [Stp.av, Stp.cs] at hst
  dsimp only [rnH, stepsR]
  refine K1.M 0x17 Tryz.func69 40 ?_
  repeat' ((conv => whnf); first | refine K1.u ?_ | refine K1.C 1 [(0, _)] (hst) rfl ?_ | refine K1.o (id := 1) (nN [0,1,2,3,4] [(5,some [4, 1, 0]),(6,none)]) ?_ | refine K1.z ?_ | refine K1.y (fun _ => ?_) (fun _ => ?_) | fail)
  all_goals (conv => whnf)
  exact ⟨[], rfl, rfl, ⟨⟨_, rfl, dK.refl _⟩, ⟨_, rfl, dK.refl _⟩, ⟨_, rfl, dK.refl _⟩, trivial⟩, rfl, rfl, dJ.refl _⟩
theorem fillE_m {w : Wy} {l : List Stp} (h : GU 0 w) (hl : ∀ s ∈ l, s.rng) (hn : l.length ≤ 480) :
    aj Tryz.prog 68 (rnH (CQ 0 w) l) [.v (.int .i64 (l.length : Int)), .fn 69 [.box 1 0, .box 2 0]] (.own 3)
      (rnH (CQ l.length (wAt w l l.length)) l ++ [(3, .row 39 1 l.length true (tlF w l))]) := by
  dsimp only [rnH, stepsR, List.cons_append, List.nil_append]
  refine K1.M 0x1c73 Tryz.func68 40 ?_
  repeat' ((conv => whnf); first | refine K1.u ?_ | refine AMk.full (by omega) rfl (by simp only; omega) (by omega) ?_ | refine K1.z ?_ | refine K1.y (fun _ => ?_) (fun _ => ?_) | fail)
  conv => whnf
  refine aI.mk { j : Nat // j ≤ l.length } (fun j => ⟨[(1, .fn 69 [.box 1 0, .box 2 0]), (5, .own 90), (10, .v (.int .i64 (l.length : Int))), (11, .v (.int .i64 (j.1 : Int)))],
    [(90, .row 39 1 l.length true (tdF w l j.1)), (0, .obs (CQ j.1 (wAt w l j.1))), (1, .box (44 : Nat) [.box 0 0]), (2, .box 24 [stepsR l])], [[(0, .own 0), (1, .box 1 0), (2, .box 2 0)]], 91⟩) (fun j => l.length - j.1) ⟨0, Nat.zero_le _⟩ _
    (dZ.mk' [(40, 90)] _ _ _ rfl ⟨dJ.refl _, dJ.refl _, dJ.int (by omega), dJ.int rfl, trivial⟩ ⟨⟨_, rfl, dK.row (Int.toNat_natCast _) (fun m hm => ?_)⟩, ⟨_, rfl, dK.refl _⟩, ⟨_, rfl, dK.refl _⟩, ⟨_, rfl, dK.refl _⟩, trivial⟩ rfl) ?_
  · show _ = tdF w l 0 m
    unfold tdF
    rw [if_pos ⟨Nat.zero_le _, by rw [Int.toNat_natCast] at hm; exact hm⟩]
    rfl
  rintro ⟨j, hj⟩
  dsimp only
  by_cases hjl : j < l.length
  · have hto := told_m (aia h hn j hj) (by omega) hl hjl
    rw [show (wAt w l j).step (l.getD (j : Int).toNat default) = (wAt w l j).step (l.getD j default) from rfl] at hto
    have hs := VT (w := w) hjl
    rw [← hs] at hto
    rw [show ((wAt w l j).step (l.getD j default)).2 = tdA w l j from rfl] at hto
    dsimp only [rnH, stepsR] at hto
    have hF : ∀ m, m < l.length → (bif Nat.beq m (j : Int).toNat then splice (tdF w l j (j : Int).toNat) 0 [.v (.int .i64 (tdA w l j))] else tdF w l j m) = tdF w l (j + 1) m := fun m hm => by
      rw [Int.toNat_natCast]
      cases hb : Nat.beq m j with
      | true =>
        obtain rfl := Nat.eq_of_beq_eq_true hb
        show _ = [AV.v (.int .i64 (if m + 1 ≤ m ∧ m < l.length then 0 else tdA w l m))]
        rw [if_neg (by omega)]
        rfl
      | false =>
        have := Nat.ne_of_beq_eq_false hb
        unfold tdF
        rw [cond_false]
        simp only [show (j + 1 ≤ m) = (j ≤ m) from propext (by omega)]
    generalize CQ j (wAt w l j) = B0 at *
    obtain ⟨B1, hB1⟩ : ∃ B, CQ (j + 1) (wAt w l (j + 1)) = B := ⟨_, rfl⟩
    rw [hB1] at hto
    generalize tdA w l j = x at *
    have UO : Nat.ble ((j : Int).toNat + 1) l.length = true := Nat.ble_eq_true_of_le (by omega)
    repeat' ((conv => whnf); first | refine K1.u ?_ | refine K1.C 3 [(0, 0), (1, _), (2, _)] hto rfl ?_ | refine uS.yes UO ?_ | refine K1.z ?_ | refine K1.y (fun _ => ?_) (fun _ => ?_) | fail)
    all_goals (conv => whnf)
    all_goals exact ⟨⟨j + 1, hjl⟩, _, dZ.mk' [] _ _ _ rfl ⟨dJ.refl _, dJ.refl _, dJ.refl _, dJ.int rfl, trivial⟩ ⟨⟨_, rfl, dK.row rfl hF⟩, ⟨_, rfl, by dsimp only; rw [hB1]; exact dK.refl _⟩, ⟨_, rfl, dK.refl _⟩, ⟨_, rfl, dK.refl _⟩, trivial⟩ rfl, by show l.length - (j + 1) < l.length - j; omega⟩
  · rw [show j = l.length by omega, tdF_end]
    repeat' ((conv => whnf); first | refine K1.u ?_ | refine K1.z ?_ | refine K1.y (fun _ => ?_) (fun _ => ?_) | fail)
    all_goals (conv => whnf)
    exact ⟨[(90, 3)], rfl, rfl, ⟨⟨_, rfl, dK.refl _⟩, ⟨_, rfl, dK.refl _⟩, ⟨_, rfl, dK.refl _⟩, ⟨_, rfl, dK.refl _⟩, trivial⟩, rfl, rfl, dJ.refl _⟩
theorem aj.rez {P : Program} {f : FuncId} {hin : List (Nat × AO)} {aW : List AV} {r r' : AV} {hout : List (Nat × AO)} (h : aj P f hin aW r hout) (hr : dJ r r') : aj P f hin aW r' hout := by
  refine ⟨h.1, fun w keep ρ args a1 a2 a3 a4 a5 => (h.2 w keep ρ args a1 a2 a3 a4 a5).mono ?_⟩
  rintro e w' ⟨u, ρ', rfl, b1, b2, b3, b4⟩
  exact ⟨u, ρ', rfl, b1, b2, hr _ _ b3, b4⟩
theorem site_eqX (y : Ny) : dJ (Pj y) (.agg (alo y)) := fun X u hu => acd y.up y.clk y.sent y.held y.log X u (by
  unfold Pj at hu
  cases hq : y.up <;> rw [hq] at hu <;> exact hu)
theorem wi_siteX {k : Nat} {w : Wy} (h : GU k w) (hk : k ≤ 480) {r : Nat} (hr : r < w.ns.length) : aj Tryz.prog 16 [(0, .obs (CQ k w))] [.box 0 0, .v (.int .i64 (r : Int))] (.agg (alo (w.ns.getD r default))) [(0, .obs (CQ k w))] :=
  (aly h hk hr).rez (site_eqX _)
theorem fillS_m {k : Nat} {w : Wy} (h : GU k w) (hk : k ≤ 480) :
    aj Tryz.prog 70 [(0, .obs (CQ k w))] [.v (.int .i64 (w.ns.length : Int)), .cf (Nat.add 16 million) 0 0] (.own 3)
      [(0, .obs (CQ k w)), (3, .row 55 9 w.ns.length false (qh alo w.ns))] := by
  have h5 := h.five
  refine K1.M 0x1c73 Tryz.func70 40 ?_
  repeat' ((conv => whnf); first | refine K1.u ?_ | refine AMk.full (by omega) rfl (by simp only; omega) (by omega) ?_ | refine K1.z ?_ | refine K1.y (fun _ => ?_) (fun _ => ?_) | fail)
  conv => whnf
  refine aI.mk { j : Nat // j ≤ w.ns.length } (fun j => ⟨[(1, .cf (Nat.add 16 million) 0 0), (5, .own 90), (10, .v (.int .i64 (w.ns.length : Int))), (11, .v (.int .i64 (j.1 : Int)))],
    [(90, .row 55 9 w.ns.length false (siF w j.1)), (0, .obs (CQ k w))], [[(0, .own 0)]], 91⟩) (fun j => w.ns.length - j.1) ⟨0, Nat.zero_le _⟩ _
    (dZ.mk' [(40, 90)] _ _ _ rfl ⟨dJ.refl _, dJ.refl _, dJ.int (by omega), dJ.int rfl, trivial⟩ ⟨⟨_, rfl, dK.ajd (Int.toNat_natCast _) (fun m hm => ?_)⟩, ⟨_, rfl, dK.refl _⟩, trivial⟩ rfl) ?_
  · show _ = siF w 0 m
    unfold siF
    rw [if_pos ⟨Nat.zero_le _, by rw [Int.toNat_natCast] at hm; exact hm⟩]
    rfl
  rintro ⟨j, hj⟩
  dsimp only
  by_cases hjl : j < w.ns.length
  · have hsi := wi_siteX h hk hjl
    have hF : ∀ m, m < w.ns.length → (bif Nat.beq m (j : Int).toNat then splice (siF w j (j : Int).toNat) 0 (alo (w.ns.getD j default)) else siF w j m) = siF w (j + 1) m := fun m hm => by
      rw [Int.toNat_natCast]
      cases hb : Nat.beq m j with
      | true =>
        obtain rfl := Nat.eq_of_beq_eq_true hb
        unfold siF
        rw [if_pos (by omega), if_neg (by omega)]
        rfl
      | false =>
        have := Nat.ne_of_beq_eq_false hb
        unfold siF
        rw [cond_false]
        simp only [show (j + 1 ≤ m) = (j ≤ m) from propext (by omega)]
    dsimp only [alo, Pm] at hsi
    generalize CQ k w = B0 at *
    have UO : Nat.ble ((j : Int).toNat + 1) w.ns.length = true := Nat.ble_eq_true_of_le (by omega)
    repeat' ((conv => whnf); first | refine K1.u ?_ | refine K1.C 1 [(0, _)] (hsi) rfl ?_ | refine uS.yes UO ?_ | refine K1.z ?_ | refine K1.y (fun _ => ?_) (fun _ => ?_) | fail)
    all_goals (conv => whnf)
    all_goals exact ⟨⟨j + 1, hjl⟩, _, dZ.mk' [] _ _ _ rfl ⟨dJ.refl _, dJ.refl _, dJ.refl _, dJ.int rfl, trivial⟩ ⟨⟨_, rfl, dK.ajd rfl hF⟩, ⟨_, rfl, dK.refl _⟩, trivial⟩ rfl, by show w.ns.length - (j + 1) < w.ns.length - j; omega⟩
  · rw [show j = w.ns.length by omega, siF_end]
    repeat' ((conv => whnf); first | refine K1.u ?_ | refine K1.z ?_ | refine K1.y (fun _ => ?_) (fun _ => ?_) | fail)
    all_goals (conv => whnf)
    exact ⟨[(90, 3)], rfl, rfl, ⟨⟨_, rfl, dK.refl _⟩, ⟨_, rfl, dK.refl _⟩, trivial⟩, rfl, rfl, dJ.refl _⟩
end Go.Proofs.YtkimgljckickcaaGreat

namespace Go.Proofs.YtkimgljckickcaaGreat
open Go.RowKit

/-- A report. -/
def repC (w : Wy) (n : Nat) (F : Nat → List AV) : List AV := .sl 1 n true F :: .sl 9 w.ns.length false (qh alo w.ns) :: ((ZF w.hb).vs.map .v ++ [.v (.int .i64 (w.fl.length : Int))])
theorem run_spec {c : lZ} (hc : qj c = true) {l : List Stp} (hl : ∀ s ∈ l, s.rng) (hn : l.length ≤ 480) :
    aF Tryz.prog 12 [c.av, stepsR l] (.aZ [.agg (repC (wAt (wy0 c) l l.length) l.length (tlF (wy0 c) l)), .v (.int .i64 0)]) [] := by
  have hnew := amm hc
  have hI := GU.new hc
  have hE := fillE_m hI hl hn
  have hI' := aia hI hn l.length (Nat.le_refl _)
  have hS := fillS_m hI' hn
  have hH := amn hI'
  have hF := akk hI'
  have hln : c.n = ((wAt (wy0 c) l l.length).ns.length : Int) := by
    obtain ⟨n, h0, h1, h5⟩ := Fj hc
    rw [aib _ (Nat.le_refl _), h0]
    show _ = (((List.range c.n.toNat).map (ny0 c)).length : Int)
    rw [List.length_map, List.length_range, h0, Int.toNat_natCast]
  generalize wAt (wy0 c) l l.length = w at *
  generalize tlF (wy0 c) l = F at *
  obtain ⟨S, hSi⟩ : ∃ S, ZF w.hb = S := ⟨_, rfl⟩
  rw [hSi] at hH
  unfold repC
  rw [hSi]
  generalize CQ 0 (wy0 c) = B0 at *
  generalize CQ l.length w = B1 at *
  generalize qh alo w.ns = G at *
  generalize w.ns.length = n at *
  generalize (w.fl.length : Int) = fl at *
  clear hI hI' hSi
  obtain ⟨cn, cw, cq, ch, cl, cp⟩ := c
  dsimp only at hln
  subst hln
  dsimp only [lZ.av, lZ.cs, rnH, stepsR, List.cons_append, List.nil_append] at hnew hE hS ⊢
  refine K1.E 0x201f7 Tryz.func12 ?_
  repeat' ((conv => whnf); first | refine K1.u ?_ | refine K1.C 0 [] (hnew) rfl ?_ | refine K1.C 3 [(0, _)] (hS) rfl ?_ | refine K1.C 1 [(0, _)] (hH) rfl ?_ | refine K1.C 1 [(0, _)] (hF) rfl ?_ | refine K1.C 3 [(0, 4), (1, _), (2, _)] hE rfl ?_ | refine K1.I 0x81ff Tryz.func31 ?_ | refine K1.I 0x47 Tryz.func32 ?_ | refine aT.fH ?_ | refine fU.lex 70 bU (dS bU _) iy (by kernel_rfl) ?_ | refine Both.mk ?_ ?_ | exact LeC.mk rfl rfl rfl rfl rfl | refine K1.z ?_ | refine K1.y (fun _ => ?_) (fun _ => ?_) | fail)
  all_goals (conv => whnf)
  all_goals exact bF.mk (dJ.refl _)
end Go.Proofs.YtkimgljckickcaaGreat

namespace Go.Proofs.YtkimgljckickcaaGreat
open Go.RowKit

theorem short24_spec (l : List Stp) : aF Tryz.prog 11 [stepsR l] (stepsR (l.take 60)) [] := by
  have hn : (if (60 : Int) < (l.length : Int) then (60 : Int) else (l.length : Int)).toNat = (l.take 60).length := by
    rw [List.length_take]
    split <;> omega
  refine K1.E 0x5 Tryz.func11 ?_
  repeat' ((conv => whnf); first | refine K1.u ?_ | refine RV.mk (V5 (by split <;> omega) (by split <;> omega)) ?_ | refine aT.fH ?_ | refine K1.z ?_ | refine K1.y (fun _ => ?_) (fun _ => ?_) | fail)
  conv => whnf
  refine bF.mk ?_
  rw [hn]
  refine dJ.slF fun i hi => ?_
  rw [List.length_take] at hi
  show Stp.cs _ = Stp.cs _
  rw [List.getD, List.getD, List.getElem?_take_of_lt (by omega)]
theorem w_new_no (c : lZ) (h : qj c = false) : aF Tryz.prog 14 [c.av] (.aZ [.v (.pointer none), .v (.int .i64 1)]) [] := by
  have hb := aki c h
  obtain ⟨n, w, q, hh, l, p⟩ := c
  dsimp only [lZ.av, lZ.cs] at hb ⊢
  refine K1.E 0x4038103ff Tryz.func14 ?_
  repeat' ((conv => whnf); first | refine K1.u ?_ | refine K1.P1 (hb) ?_ | refine aT.fH ?_ | refine K1.z ?_ | refine K1.y (fun _ => ?_) (fun _ => ?_) | fail)
  all_goals (conv => whnf)
  all_goals exact bF.mk (dJ.refl _)
def repZ : List AV := .v (.slice none 0 0) :: .v (.slice none 0 0) :: (alc.vs.map .v ++ [.v (.int .i64 0)])
theorem run_no (c : lZ) (h : qj c = false) : aF Tryz.prog 12 [c.av, .v (.slice none 0 0)] (.aZ [.agg repZ, .v (.int .i64 1)]) [] := by
  have hw := w_new_no c h
  obtain ⟨n, w, q, hh, l, p⟩ := c
  dsimp only [lZ.av, lZ.cs] at hw ⊢
  refine K1.E 0x201f7 Tryz.func12 ?_
  repeat' ((conv => whnf); first | refine K1.u ?_ | refine K1.P1 (hw) ?_ | refine K1.I 0x81ff Tryz.func31 ?_ | refine aT.fH ?_ | refine K1.o (id := 4) (nN [0,1,2] ((3,some []) :: (4,some [1]) :: nN [5,6,7] [])) ?_ | refine K1.z ?_ | refine K1.y (fun _ => ?_) (fun _ => ?_) | fail)
  all_goals (conv => whnf)
  all_goals exact bF.mk (dJ.refl _)
def c24 : lZ := ⟨2, 1, 1, 2, 1, 1⟩
theorem run_nil {c : lZ} (hc : qj c = true) : aF Tryz.prog 12 [c.av, .v (.slice none 0 0)] (.aZ [.agg (repC (wy0 c) 0 (tlF (wy0 c) [])), .v (.int .i64 0)]) [] :=
  (run_spec hc (l := []) (fun s hs => by cases hs) (by decide)).args (.same (.of (fun X u hu => C1.iC (X := X) (s := 10) (sc := true) (f := akU []) (by decide) hu) .nil))
theorem shown24_spec : aF Tryz.prog 9 [] (.v (.bool true)) [] := by
  have h0 := run_no ⟨0, 0, 0, 0, 0, 0⟩ (by decide)
  have h1 := run_nil (c := c24) (by decide)
  have hS : (ZF (wy0 c24).hb).up = true := by kernel_rfl
  unfold repC at h1
  rw [show (wy0 c24).ns.length = 2 from rfl, show (wy0 c24).fl.length = 0 from rfl] at h1
  generalize ZF (wy0 c24).hb = S at *
  generalize tlF (wy0 c24) [] = F at *
  generalize qh alo (wy0 c24).ns = G at *
  obtain ⟨up, ⟨b0, b1, b2, b3, b4⟩, ⟨l0, l1, l2, l3, l4⟩, a0, a1, a2, a3, a4⟩ := S
  dsimp only at hS
  subst hS
  dsimp only [c24, lZ.av, lZ.cs] at h0 h1
  refine K1.E 0x1d Tryz.func9 ?_
  repeat' ((conv => whnf); first | refine K1.u ?_ | refine K1.P1 (h0) ?_ | refine K1.P1 (h1) ?_ | refine aT.fH ?_ | refine K1.z ?_ | refine K1.y (fun _ => ?_) (fun _ => ?_) | fail)
  all_goals (conv => whnf)
  all_goals exact bF.mk (dJ.refl _)
end Go.Proofs.YtkimgljckickcaaGreat
