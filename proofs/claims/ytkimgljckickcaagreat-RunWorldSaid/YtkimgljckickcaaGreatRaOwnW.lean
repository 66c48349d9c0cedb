/-
  RunWorld: the walk.
-/
import Derived.Test.YtkimgljckickcaaGreatRaOwn
set_option maxHeartbeats 16000000
set_option maxRecDepth 100000
set_option linter.unusedVariables false
set_option linter.unusedSimpArgs false
namespace Go.Proofs.YtkimgljckickcaaGreat
open Go.RowKit
theorem runWorld_spec (c : lZ) (l : List Stp) (_ : c.rng) (hl : ∀ s ∈ l, s.rng) (_ : l.length ≤ 140737488355328) : aF Tryz.prog 4 [c.av, stepsR l] (.v (.bool true)) [] := by
  have hsh := shown24_spec
  have hfc := ajj c
  have hmc := akf c
  generalize adO c = d at hfc hmc
  obtain ⟨n, hn, hn1, hn5⟩ := Fj hmc
  have hnew := amm hmc
  have hI := GU.new hmc
  have hdn : (wy0 d).ns.length = n := by
    show ((List.range d.n.toNat).map (ny0 d)).length = n
    rw [List.length_map, List.length_range]
    omega
  have hst := short24_spec l
  have hl' : ∀ s ∈ l.take 60, s.rng := fun s hs => hl s (List.mem_of_mem_take hs)
  have hs60 : (l.take 60).length ≤ 60 := by rw [List.length_take]; omega
  have hget : ∀ i, i < (l.take 60).length → l.getD i default = (l.take 60).getD i default := fun i hi => by
    rw [List.length_take] at hi
    rw [List.getD, List.getD, List.getElem?_take_of_lt (by omega)]
  have hlL : (l.take 60).length ≤ l.length := by rw [List.length_take]; omega
  generalize l.take 60 = L at hst hl' hs60 hget hlL
  have hrun := run_spec hmc hl' (by omega)
  have hIL := aia hI (by omega) L.length (Nat.le_refl _)
  have hln := aib (w := wy0 d) (l := L) L.length (Nat.le_refl _)
  rw [hdn] at hln
  generalize wy0 d = w0 at *
  obtain ⟨wLQ0, hwL⟩ : ∃ w, wAt w0 L L.length = w := ⟨_, rfl⟩
  rw [hwL] at hrun hIL hln
  obtain ⟨S, hS⟩ : ∃ S, ZF wLQ0.hb = S := ⟨_, rfl⟩
  unfold repC at hrun
  rw [hS, hln] at hrun
  obtain ⟨fl, hfl⟩ : ∃ x : Int, (wLQ0.fl.length : Int) = x := ⟨_, rfl⟩
  rw [hfl] at hrun
  obtain ⟨dnQ0, dwQ0, dq, dhQ0, dl, dp⟩ := d
  obtain ⟨cn, cw, cq, ch, cl, cp⟩ := c
  dsimp only [lZ.av, lZ.cs] at hfc hnew hn hrun ⊢
  subst hn
  refine K1.E 0x4000000000220008400000000001ff7 Tryz.func4 ?_
  repeat' ((conv => whnf); first | refine K1.u ?_ | refine K1.P1 (hsh) ?_ | refine K1.P1 (hfc) ?_ | refine K1.C 0 [] (hnew) rfl ?_ | refine K1.P1 (hst) ?_ | refine K1.P1 (hrun) ?_ | refine K1.o (id := 10) (nN [0,1,2,3,4,6,7,8,9,10] [(5,some [4]),(11,none)]) ?_ | refine K1.o (id := 15) (nN [0,1,4,5,6,7,8,9] ((2,some []) :: nN [3,10,11,12,13,16,17,18,19,20,21] ((14,some [10, 9, 5, 3]) :: nN [15,22,23,24,25,26,30,31,32,33,34,35,36] ((27,some [10, 9, 5, 3, 22, 21, 17, 15]) :: nN [28,29,37,38] [])))) ?_ | refine K1.o (id := 17) (nN [0,2,3] ((1,some []) :: nN [4,5,6,8,9] ((7,some [4, 3]) :: nN [10,11,12] []))) ?_ | refine fU.lex 70 bU (dS bU _) iy (by kernel_rfl) ?_ | refine Both.mk ?_ ?_ | exact LeC.mk rfl rfl rfl rfl rfl | refine K1.z ?_ | refine K1.y (fun _ => ?_) (fun _ => ?_) | fail)
  all_goals (conv => whnf)
  refine aI.mk { j : Nat // j ≤ L.length } (fun j => ⟨[(1, stepsR l), (6, .box 1 0), (7, .box 2 0), (9, .box 3 0), (11, .v (.int .i64 (j.1 : Int)))],
    [(3, .obs (CQ j.1 (wAt w0 L j.1))), (2, .box 38 (.sl 1 L.length true (tlF w0 L) :: .sl 9 n false (qh alo wLQ0.ns) :: (S.vs.map .v ++ [.v (.int .i64 fl)]))), (1, .box 23 [.v (.int .i64 (n : Int)), .v (.int .i64 dwQ0), .v (.int .i64 dq), .v (.int .i64 dhQ0), .v (.int .i64 dl), .v (.int .i64 dp)])], [], 4⟩) (fun j => L.length - j.1) ⟨0, Nat.zero_le _⟩ _
    (dZ.mk' [] _ _ _ rfl ⟨dJ.refl _, dJ.refl _, dJ.refl _, dJ.refl _, dJ.int rfl, trivial⟩ ⟨⟨_, rfl, dK.refl _⟩, ⟨_, rfl, dK.refl _⟩, ⟨_, rfl, dK.refl _⟩, trivial⟩ rfl) ?_
  clear hsh hfc hnew hrun
  rintro ⟨j, hj⟩
  dsimp only
  by_cases hjl : j < L.length
  · have hg := alr hl (j := j) (by omega)
    have hs := ah' (aia hI (by omega) j hj) (by omega) (l.getD (j : Int).toNat default) hg.bit hg.mask
    have e : l.getD (j : Int).toNat default = L.getD j default := hget j hjl
    have r1 : ((wAt w0 L j).step (l.getD (j : Int).toNat default)).2 = tdA w0 L (j : Int).toNat := by rw [e]; rfl
    have r2 : ((wAt w0 L j).step (l.getD (j : Int).toNat default)).1 = wAt w0 L (j + 1) := by rw [e, VT hjl]
    rw [r1, r2] at hs
    clear e r1 r2 hg hI hIL hget
    obtain ⟨B1, hB1⟩ : ∃ B, CQ (j + 1) (wAt w0 L (j + 1)) = B := ⟨_, rfl⟩
    rw [hB1] at hs
    generalize CQ j (wAt w0 L j) = B0 at *
    dsimp only [Stp.av, Stp.cs] at hs
    have UO : Nat.ble ((j : Int).toNat + 1) L.length = true := Nat.ble_eq_true_of_le (by omega)
    have hble' : Nat.ble ((j : Int).toNat + 1) l.length = true := Nat.ble_eq_true_of_le (by omega)
    repeat' ((conv => whnf); first | refine K1.u ?_ | refine K1.C 1 [(0, _)] (hs) rfl ?_ | refine uS.yes UO ?_ | refine uS.yes hble' ?_ | refine nR.no (fun h => h rfl) ?_ | refine K1.o (id := 5) (nN [0,1,2,3,4,5,6,7,8,9,10,11,12,13,14,15,16,17,18] ((19,some [4, 8, 12]) :: nN [20,21,22,23,24,25,26,27,28,29,30] [])) ?_ | refine K1.o (id := 15) (nN [0,1,4,5,6,7,8,9] ((2,some []) :: nN [3,10,11,12,13,16,17,18,19,20,21] ((14,some [10, 9, 5, 3]) :: nN [15,22,23,24,25,26,30,31,32,33,34,35,36] ((27,some [10, 9, 5, 3, 22, 21, 17, 15]) :: nN [28,29,37,38] [])))) ?_ | refine K1.o (id := 17) (nN [0,2,3] ((1,some []) :: nN [4,5,6,8,9] ((7,some [4, 3]) :: nN [10,11,12] []))) ?_ | refine fU.lex 70 bU (dS bU _) iy (by kernel_rfl) ?_ | refine Both.mk ?_ ?_ | exact LeC.mk rfl rfl rfl rfl rfl | refine K1.z ?_ | refine K1.y (fun _ => ?_) (fun _ => ?_) | fail)
    all_goals (conv => whnf)
    all_goals exact ⟨⟨j + 1, hjl⟩, _, dZ.mk' [] _ _ _ rfl ⟨dJ.refl _, dJ.refl _, dJ.refl _, dJ.refl _, dJ.int rfl, trivial⟩ ⟨⟨_, rfl, by dsimp only; rw [hB1]; exact dK.refl _⟩, ⟨_, rfl, dK.refl _⟩, ⟨_, rfl, dK.refl _⟩, trivial⟩ rfl, by show L.length - (j + 1) < L.length - j; omega⟩
  · rw [show j = L.length by omega, hwL]
    repeat' ((conv => whnf); first | refine K1.u ?_ | refine K1.o (id := 5) (nN [0,1,2,3,4,5,6,7,8,9,10,11,12,13,14,15,16,17,18] ((19,some [4, 8, 12]) :: nN [20,21,22,23,24,25,26,27,28,29,30] [])) ?_ | refine K1.o (id := 10) (nN [0,1,2,3,4,6,7,8,9,10] [(5,some [4]),(11,none)]) ?_ | refine K1.o (id := 15) (nN [0,1,4,5,6,7,8,9] ((2,some []) :: nN [3,10,11,12,13,16,17,18,19,20,21] ((14,some [10, 9, 5, 3]) :: nN [15,22,23,24,25,26,30,31,32,33,34,35,36] ((27,some [10, 9, 5, 3, 22, 21, 17, 15]) :: nN [28,29,37,38] [])))) ?_ | refine K1.o (id := 17) (nN [0,2,3] ((1,some []) :: nN [4,5,6,8,9] ((7,some [4, 3]) :: nN [10,11,12] []))) ?_ | refine K1.z ?_ | refine K1.y (fun _ => ?_) (fun _ => ?_) | fail)
    all_goals (conv => whnf)
    refine aI.mk { k : Nat // k ≤ n } (fun k => ⟨[(6, .box 1 0), (7, .box 2 0), (9, .box 3 0), (12, .v (.int .i64 (k.1 : Int)))],
      [(3, .obs (CQ L.length wLQ0)), (2, .box 38 (.sl 1 L.length true (tlF w0 L) :: .sl 9 n false (qh alo wLQ0.ns) :: (S.vs.map .v ++ [.v (.int .i64 fl)]))), (1, .box 23 [.v (.int .i64 (n : Int)), .v (.int .i64 dwQ0), .v (.int .i64 dq), .v (.int .i64 dhQ0), .v (.int .i64 dl), .v (.int .i64 dp)])], [], 4⟩) (fun k => n - k.1) ⟨0, Nat.zero_le _⟩ _
      (dZ.mk' [] _ _ _ rfl ⟨dJ.refl _, dJ.refl _, dJ.refl _, dJ.int rfl, trivial⟩ ⟨⟨_, rfl, dK.refl _⟩, ⟨_, rfl, dK.refl _⟩, ⟨_, rfl, dK.refl _⟩, trivial⟩ rfl) ?_
    rintro ⟨k, hk⟩
    dsimp only
    by_cases hkn : k < n
    · have c3 := wi_siteX hIL (by omega) (r := k) (by omega)
      rw [show wLQ0.ns.getD k default = wLQ0.ns.getD (k : Int).toNat default from rfl] at c3
      have UO : Nat.ble ((k : Int).toNat + 1) n = true := Nat.ble_eq_true_of_le (by omega)
      clear hI hIL hget hst
      generalize CQ L.length wLQ0 = B0 at *
      dsimp only [alo, Pm] at c3
      repeat' ((conv => whnf); first | refine K1.u ?_ | refine K1.C 1 [(0, _)] (c3) rfl ?_ | refine uS.yes UO ?_ | refine ZI.mk [.int .i64 _, .int .i64 _, .int .i64 _, .int .i64 _, .int .i64 _] [.int .i64 _, .int .i64 _, .int .i64 _, .int .i64 _, .int .i64 _] _ rfl rfl (Fq ⟨_, _, _, _, _⟩ ⟨_, _, _, _, _⟩) ?_ | refine nR.yes rfl ?_ | refine nR.no (fun h => h rfl) ?_ | refine K1.o (id := 5) (nN [0,1,2,3,4,5,6,7,8,9,10,11,12,13,14,15,16,17,18] ((19,some [4, 8, 12]) :: nN [20,21,22,23,24,25,26,27,28,29,30] [])) ?_ | refine K1.o (id := 10) (nN [0,1,2,3,4,6,7,8,9,10] [(5,some [4]),(11,none)]) ?_ | refine K1.o (id := 17) (nN [0,2,3] ((1,some []) :: nN [4,5,6,8,9] ((7,some [4, 3]) :: nN [10,11,12] []))) ?_ | refine fU.lex 70 bU (dS bU _) iy (by kernel_rfl) ?_ | refine Both.mk ?_ ?_ | exact LeC.mk rfl rfl rfl rfl rfl | refine K1.z ?_ | refine K1.y (fun _ => ?_) (fun _ => ?_) | fail)
      all_goals (conv => whnf)
      all_goals exact ⟨⟨k + 1, hkn⟩, _, dZ.mk' [] _ _ _ rfl ⟨dJ.refl _, dJ.refl _, dJ.refl _, dJ.int rfl, trivial⟩ ⟨⟨_, rfl, dK.refl _⟩, ⟨_, rfl, dK.refl _⟩, ⟨_, rfl, dK.refl _⟩, trivial⟩ rfl, by show n - (k + 1) < n - k; omega⟩
    · have e1 := amn hIL
      have e2 := akk hIL
      rw [hS] at e1
      rw [hfl] at e2
      clear hI hIL hget hst
      generalize CQ L.length wLQ0 = B0 at *
      repeat' ((conv => whnf); first | refine K1.u ?_ | refine K1.C 1 [(0, _)] (e1) rfl ?_ | refine K1.C 1 [(0, _)] (e2) rfl ?_ | refine ZI.mk S.vs S.vs (S = S) rfl rfl (al5 _ _) ?_ | refine nR.yes rfl ?_ | refine aT.fH ?_ | refine K1.o (id := 5) (nN [0,1,2,3,4,5,6,7,8,9,10,11,12,13,14,15,16,17,18] ((19,some [4, 8, 12]) :: nN [20,21,22,23,24,25,26,27,28,29,30] [])) ?_ | refine K1.o (id := 10) (nN [0,1,2,3,4,6,7,8,9,10] [(5,some [4]),(11,none)]) ?_ | refine K1.o (id := 15) (nN [0,1,4,5,6,7,8,9] ((2,some []) :: nN [3,10,11,12,13,16,17,18,19,20,21] ((14,some [10, 9, 5, 3]) :: nN [15,22,23,24,25,26,30,31,32,33,34,35,36] ((27,some [10, 9, 5, 3, 22, 21, 17, 15]) :: nN [28,29,37,38] [])))) ?_ | refine fU.lex 70 bU (dS bU _) iy (by kernel_rfl) ?_ | refine Both.mk ?_ ?_ | exact LeC.mk rfl rfl rfl rfl rfl | refine K1.z ?_ | refine K1.y (fun _ => ?_) (fun _ => ?_) | fail)
      all_goals (conv => whnf)
      all_goals exact bF.mk (dJ.refl _)
end Go.Proofs.YtkimgljckickcaaGreat
