/-
  What the reference of layer 6 takes (in parts).
-/
import Derived.Test.YtbmojelnkldecaaRefU
import Derived.Test.YtbmojelnkldecaaRefVa
import Derived.Test.YtbmojelnkldecaaRefVb
namespace Go.Proofs.Ytbmojelnkldecaa
open Go.RowKit

set_option maxHeartbeats 16000000 in
set_option maxRecDepth 100000 in
theorem refE_4 (bs : List UInt8) (hl : bs.length ≤ 1000000000) {k R N : Int} {s1 s2 s3 : St} (e1 : octR bs 1 5 (0, 0) = (k, s1)) (_g1 : 0 ≤ k ∧ k ≤ 255) (_q0 : ((0, 0) : St).1 ≤ bs.length) (_q1 : s1.1 ≤ bs.length) (e2 : octR bs 0 4 s1 = (R, s2)) (_g2 : 0 ≤ R ∧ R ≤ 255) (_q2 : s2.1 ≤ bs.length) (e3 : numR bs 1 1048576 s2 = (N, s3)) (_g3 : 0 ≤ N ∧ N ≤ 1048576) (q3 : s3.1 ≤ bs.length) (hR : R = 4) : ∃ p, RefE bs p := by
    subst hR
    unfold RefE
    obtain ⟨⟨c0, t0⟩, f0⟩ : ∃ p, numR bs 0 1048576 s3 = p := ⟨_, rfl⟩
    obtain ⟨p0, _⟩ := numR_to f0 q3 (by omega) (by omega)
    obtain ⟨⟨c1, t1⟩, f1⟩ : ∃ p, numR bs 0 1048576 t0 = p := ⟨_, rfl⟩
    obtain ⟨p1, _⟩ := numR_to f1 p0 (by omega) (by omega)
    obtain ⟨⟨c2, t2⟩, f2⟩ : ∃ p, numR bs 0 1048576 t1 = p := ⟨_, rfl⟩
    obtain ⟨p2, _⟩ := numR_to f2 p1 (by omega) (by omega)
    obtain ⟨⟨c3, t3⟩, f3⟩ : ∃ p, numR bs 0 1048576 t2 = p := ⟨_, rfl⟩
    obtain ⟨p3, _⟩ := numR_to f3 p2 (by omega) (by omega)
    obtain ⟨⟨H, s5⟩, e5⟩ : ∃ p, numR bs 1 16777216 t3 = p := ⟨_, rfl⟩
    obtain ⟨q5, g5⟩ := numR_to e5 p3 (by omega) (by omega)
    obtain ⟨⟨ks, s6⟩, e6⟩ : ∃ p, octR bs 1 8 s5 = p := ⟨_, rfl⟩
    obtain ⟨q6, g6⟩ := octR_to e6 q5
    obtain ⟨⟨key, s7⟩, e7⟩ : ∃ p, wordR bs ks s6 = p := ⟨_, rfl⟩
    have q7 := wordR_to e7 q6 g6.1
    have z7 : s7.2 = 0 → s6.2 = 0 := wordR_z e7
    have z6 : s6.2 = 0 → s5.2 = 0 := fun h => (octR_z e6 h).1
    have z5 : s5.2 = 0 → t3.2 = 0 := numR_z e5
    have zt0 : t0.2 = 0 → s3.2 = 0 := numR_z f0
    have zt1 : t1.2 = 0 → t0.2 = 0 := numR_z f1
    have zt2 : t2.2 = 0 → t1.2 = 0 := numR_z f2
    have zt3 : t3.2 = 0 → t2.2 = 0 := numR_z f3
    have z3 : s3.2 = 0 → s2.2 = 0 := numR_z e3
    by_cases hkey : s7.2 = 0 ∧ ¬ keyE key = 0
    · obtain ⟨⟨l, s8⟩, e8⟩ : ∃ p, octR bs 0 1 (s7.1, 3) = p := ⟨_, rfl⟩
      obtain ⟨q8, g8⟩ := octR_to e8 q7
      obtain ⟨⟨vs, s9⟩, e9⟩ : ∃ p, octR bs 1 12 s8 = p := ⟨_, rfl⟩
      obtain ⟨q9, g9⟩ := octR_to e9 q8
      obtain ⟨⟨v, s10⟩, e10⟩ : ∃ p, wordR bs vs s9 = p := ⟨_, rfl⟩
      have q10 := wordR_to e10 q9 g9.1
      have z10 : s10.2 = 0 → s9.2 = 0 := wordR_z e10
      have z9 : s9.2 = 0 → s8.2 = 0 := fun h => (octR_z e9 h).1
      have z8 : ¬ s8.2 = 0 := fun h => absurd (octR_z e8 h).1 (by decide : ¬ (3 : Int) = 0)
      have z8b : ¬ s10.2 = 0 := fun h => z8 (z9 (z10 h))
      obtain ⟨hkey1, hkey2⟩ := hkey
      refine ⟨if 2 < k then resR s10 ⟨4, N, ⟨c0, c1, c2, c3, N - 1⟩, H, k, key, l, v⟩ else resR (s7.1, 3) ⟨4, N, ⟨c0, c1, c2, c3, N - 1⟩, H, k, key, 0, ⟨#[]⟩⟩, ?_, ?_, ?_⟩
      · by_cases hk2 : 2 < k
        · rw [if_pos hk2]
          rw [resR_no z8b]
          clear z7 z6 z5 z3 zt0 zt1 zt2 zt3 z10 z9 z8
          dsimp only [tkR]
          refine aspec_of lay_ok 2361475975410874319101 Try.func85 rfl rfl rfl ?_
          repeat' ((conv => whnf); first | refine Spl.yes (by first | assumption | omega) ?_ | refine Spl.no (by first | assumption | omega) ?_ | refine Wr.i64 (by omega) (by omega) ?_ | refine Still.mk rfl rfl ?_ | refine InB.mk (inB_mk (by omega) (by omega)) ?_ | refine Req.mk (by omega) ?_ | refine Req.mk ⟨by first | omega | (dsimp only; omega), by first | omega | (dsimp only; omega)⟩ ?_ | refine ACall.chgR 1 [(0, _)] (one_e bs _ _ _ _ _ e1 hl (by assumption)) rfl ⟨rfl, trivial⟩ rfl rfl ?_ | refine ACall.chgR 1 [(0, _)] (one_e bs _ _ _ _ _ e2 hl (by assumption)) rfl ⟨rfl, trivial⟩ rfl rfl ?_ | refine ACall.chgR 1 [(0, _)] (num_e bs _ _ _ _ _ e3 hl (by assumption) (by omega) (by omega) (by omega)) rfl ⟨rfl, trivial⟩ rfl rfl ?_ | refine ACall.chgR 1 [(0, _)] (num_e bs _ _ _ _ _ f0 hl (by assumption) (by omega) (by omega) (by omega)) rfl ⟨rfl, trivial⟩ rfl rfl ?_ | refine ACall.chgR 1 [(0, _)] (num_e bs _ _ _ _ _ f1 hl (by assumption) (by omega) (by omega) (by omega)) rfl ⟨rfl, trivial⟩ rfl rfl ?_ | refine ACall.chgR 1 [(0, _)] (num_e bs _ _ _ _ _ f2 hl (by assumption) (by omega) (by omega) (by omega)) rfl ⟨rfl, trivial⟩ rfl rfl ?_ | refine ACall.chgR 1 [(0, _)] (num_e bs _ _ _ _ _ f3 hl (by assumption) (by omega) (by omega) (by omega)) rfl ⟨rfl, trivial⟩ rfl rfl ?_ | refine ACall.chgR 1 [(0, _)] (num_e bs _ _ _ _ _ e5 hl (by assumption) (by omega) (by omega) (by omega)) rfl ⟨rfl, trivial⟩ rfl rfl ?_ | refine ACall.chgR 1 [(0, _)] (one_e bs _ _ _ _ _ e6 hl (by assumption)) rfl ⟨rfl, trivial⟩ rfl rfl ?_ | refine ACall.chgR 1 [(0, _)] (wrd_e bs _ _ _ _ e7 hl (by assumption) g6) rfl ⟨rfl, trivial⟩ rfl rfl ?_ | refine ACall.plain _ _ (rkey_spec key) (SubL.cons (.eq _) .nil) rfl ?_ | refine ACall.chgR 1 [(0, _)] (one_e bs _ _ _ _ _ e8 hl (by assumption)) rfl ⟨rfl, trivial⟩ rfl rfl ?_ | refine ACall.chgR 1 [(0, _)] (one_e bs _ _ _ _ _ e9 hl (by assumption)) rfl ⟨rfl, trivial⟩ rfl rfl ?_ | refine ACall.chgR 1 [(0, _)] (wrd_e bs _ _ _ _ e10 hl (by assumption) g9) rfl ⟨rfl, trivial⟩ rfl rfl ?_ | refine ALoop.unr 7 6 rfl ?_ | refine ARet.hdI ?_ | refine Spl.mk (fun _ => ?_) (fun _ => ?_) | refine Wr.b64 ?_ | refine Wr.bu64 ?_ | refine Wr.bu32 ?_ | refine Wr.bu8 ?_ | refine Wr.u8 (by omega) (by omega) ?_ | refine Wr.u64 (by omega) (by omega) ?_ | refine Wr.u32 (by omega) (by omega) ?_ | refine Dv.pos (by omega) (by omega) ?_ | refine Rm.pos (by omega) (by omega) ?_ | refine ADraw.quiet follows_ok (by kernel_rfl) rfl ?_ | refine ADraw.sched (id := 19) lay_ok (awp_snd lay_ok _) [(0, none), (1, none), (2, none), (3, none), (4, none), (5, some []), (6, none), (7, none)] [(5, [])] follows_ok (by kernel_rfl) ?_ | refine ADraw.sched (id := 21) lay_ok (awp_snd lay_ok _) [(0, none), (1, none), (2, none), (3, none), (4, none), (5, some [0]), (6, none), (7, none)] [(5, [0]), (6, [0]), (7, [0])] follows_ok (by kernel_rfl) ?_ | refine BSpl.decY (by first | assumption | omega) ?_ | refine BSpl.decN (by first | assumption | omega) ?_ | refine BSpl.dec (fun _ => ?_) (fun _ => ?_) | refine BSpl.yes (by assumption) ?_ | refine BSpl.no (by assumption) ?_ | refine BSpl.mk (fun _ => ?_) (fun _ => ?_))
          all_goals (conv => whnf)
          all_goals first
            | exact AEqI.mk (AEq.refl _)
            | (exfalso; omega)
        · rw [if_neg hk2]
          rw [resR_no (by show ¬ (3 : Int) = 0; decide)]
          clear z7 z6 z5 z3 zt0 zt1 zt2 zt3 z10 z9 z8
          dsimp only [tkR]
          refine aspec_of lay_ok 2361475975410874319101 Try.func85 rfl rfl rfl ?_
          repeat' ((conv => whnf); first | refine Spl.yes (by first | assumption | omega) ?_ | refine Spl.no (by first | assumption | omega) ?_ | refine Wr.i64 (by omega) (by omega) ?_ | refine Still.mk rfl rfl ?_ | refine InB.mk (inB_mk (by omega) (by omega)) ?_ | refine Req.mk (by omega) ?_ | refine Req.mk ⟨by first | omega | (dsimp only; omega), by first | omega | (dsimp only; omega)⟩ ?_ | refine ACall.chgR 1 [(0, _)] (one_e bs _ _ _ _ _ e1 hl (by assumption)) rfl ⟨rfl, trivial⟩ rfl rfl ?_ | refine ACall.chgR 1 [(0, _)] (one_e bs _ _ _ _ _ e2 hl (by assumption)) rfl ⟨rfl, trivial⟩ rfl rfl ?_ | refine ACall.chgR 1 [(0, _)] (num_e bs _ _ _ _ _ e3 hl (by assumption) (by omega) (by omega) (by omega)) rfl ⟨rfl, trivial⟩ rfl rfl ?_ | refine ACall.chgR 1 [(0, _)] (num_e bs _ _ _ _ _ f0 hl (by assumption) (by omega) (by omega) (by omega)) rfl ⟨rfl, trivial⟩ rfl rfl ?_ | refine ACall.chgR 1 [(0, _)] (num_e bs _ _ _ _ _ f1 hl (by assumption) (by omega) (by omega) (by omega)) rfl ⟨rfl, trivial⟩ rfl rfl ?_ | refine ACall.chgR 1 [(0, _)] (num_e bs _ _ _ _ _ f2 hl (by assumption) (by omega) (by omega) (by omega)) rfl ⟨rfl, trivial⟩ rfl rfl ?_ | refine ACall.chgR 1 [(0, _)] (num_e bs _ _ _ _ _ f3 hl (by assumption) (by omega) (by omega) (by omega)) rfl ⟨rfl, trivial⟩ rfl rfl ?_ | refine ACall.chgR 1 [(0, _)] (num_e bs _ _ _ _ _ e5 hl (by assumption) (by omega) (by omega) (by omega)) rfl ⟨rfl, trivial⟩ rfl rfl ?_ | refine ACall.chgR 1 [(0, _)] (one_e bs _ _ _ _ _ e6 hl (by assumption)) rfl ⟨rfl, trivial⟩ rfl rfl ?_ | refine ACall.chgR 1 [(0, _)] (wrd_e bs _ _ _ _ e7 hl (by assumption) g6) rfl ⟨rfl, trivial⟩ rfl rfl ?_ | refine ACall.plain _ _ (rkey_spec key) (SubL.cons (.eq _) .nil) rfl ?_ | refine ACall.chgR 1 [(0, _)] (one_e bs _ _ _ _ _ e8 hl (by assumption)) rfl ⟨rfl, trivial⟩ rfl rfl ?_ | refine ACall.chgR 1 [(0, _)] (one_e bs _ _ _ _ _ e9 hl (by assumption)) rfl ⟨rfl, trivial⟩ rfl rfl ?_ | refine ACall.chgR 1 [(0, _)] (wrd_e bs _ _ _ _ e10 hl (by assumption) g9) rfl ⟨rfl, trivial⟩ rfl rfl ?_ | refine ALoop.unr 7 6 rfl ?_ | refine ARet.hdI ?_ | refine Spl.mk (fun _ => ?_) (fun _ => ?_) | refine Wr.b64 ?_ | refine Wr.bu64 ?_ | refine Wr.bu32 ?_ | refine Wr.bu8 ?_ | refine Wr.u8 (by omega) (by omega) ?_ | refine Wr.u64 (by omega) (by omega) ?_ | refine Wr.u32 (by omega) (by omega) ?_ | refine Dv.pos (by omega) (by omega) ?_ | refine Rm.pos (by omega) (by omega) ?_ | refine ADraw.quiet follows_ok (by kernel_rfl) rfl ?_ | refine ADraw.sched (id := 19) lay_ok (awp_snd lay_ok _) [(0, none), (1, none), (2, none), (3, none), (4, none), (5, some []), (6, none), (7, none)] [(5, [])] follows_ok (by kernel_rfl) ?_ | refine ADraw.sched (id := 21) lay_ok (awp_snd lay_ok _) [(0, none), (1, none), (2, none), (3, none), (4, none), (5, some [0]), (6, none), (7, none)] [(5, [0]), (6, [0]), (7, [0])] follows_ok (by kernel_rfl) ?_ | refine BSpl.decY (by first | assumption | omega) ?_ | refine BSpl.decN (by first | assumption | omega) ?_ | refine BSpl.dec (fun _ => ?_) (fun _ => ?_) | refine BSpl.yes (by assumption) ?_ | refine BSpl.no (by assumption) ?_ | refine BSpl.mk (fun _ => ?_) (fun _ => ?_))
          all_goals (conv => whnf)
          all_goals first
            | exact AEqI.mk (AEq.refl _)
            | (exfalso; omega)
      · split
        · exact resR_le q10
        · exact resR_le q7
      · intro e m ht
        have hf := takeE_field ht
        obtain ⟨⟨k', w1⟩, a1⟩ : ∃ p, octS bs 1 5 (0, 0) = p := ⟨_, rfl⟩
        obtain ⟨⟨R', w2⟩, a2⟩ : ∃ p, octS bs 0 4 w1 = p := ⟨_, rfl⟩
        obtain ⟨⟨N', w3⟩, a3⟩ : ∃ p, numS bs 1 1048576 w2 = p := ⟨_, rfl⟩
        obtain ⟨⟨C', w4⟩, a4⟩ : ∃ p, clockS bs R' w3 = p := ⟨_, rfl⟩
        obtain ⟨⟨H', w5⟩, a5⟩ : ∃ p, numS bs 1 16777216 w4 = p := ⟨_, rfl⟩
        obtain ⟨⟨ks', w6⟩, a6⟩ : ∃ p, octS bs 1 8 w5 = p := ⟨_, rfl⟩
        obtain ⟨⟨key', w7⟩, a7⟩ : ∃ p, wordS bs ks' keyE w6 = p := ⟨_, rfl⟩
        obtain ⟨⟨l', w8⟩, a8⟩ : ∃ p, octS bs 0 1 w7 = p := ⟨_, rfl⟩
        obtain ⟨⟨vs', w9⟩, a9⟩ : ∃ p, octS bs 1 12 w8 = p := ⟨_, rfl⟩
        obtain ⟨⟨v', w10⟩, a10⟩ : ∃ p, wordS bs vs' valueE w9 = p := ⟨_, rfl⟩
        have hf2 : fieldS bs (0, 0) = if isLong k' then (⟨R', N', C'.put R' (N' - 1), H', k', key', l', v'⟩, w10) else (⟨R', N', C'.put R' (N' - 1), H', k', key', 0, ⟨#[]⟩⟩, w7) := by simp only [fieldS, a1, a2, a3, a4, a5, a6, a7, a8, a9, a10]
        rw [hf] at hf2
        have y7 : w7.2 = 0 := by
          split at hf2
          · have h10 : w10.2 = 0 := by rw [← (Prod.mk.inj hf2).2]
            exact octS_z a8 (octS_z a9 (wordS_z a10 h10))
          · rw [← (Prod.mk.inj hf2).2]
        have y6 := wordS_z a7 y7
        have y5 := octS_z a6 y6
        have y4 := numS_z a5 y5
        have y3 : w3.2 = 0 := clkAt_z (bs := bs) (r := R') 5 (by have h : (clockS bs R' w3).2.2 = 0 := by rw [a4]; exact y4
                                                                 exact h)
        have y2 := numS_z a3 y3
        have y1 := octS_z a2 y2
        rw [octR_of a1 y1] at e1
        obtain ⟨rfl, rfl⟩ := Prod.mk.inj e1
        rw [octR_of a2 y2] at e2
        obtain ⟨rfl, rfl⟩ := Prod.mk.inj e2
        rw [numR_of a3 y3 (by omega)] at e3
        obtain ⟨rfl, rfl⟩ := Prod.mk.inj e3
        obtain ⟨⟨d0, x0⟩, b0⟩ : ∃ p, numS bs 0 1048576 w3 = p := ⟨_, rfl⟩
        obtain ⟨⟨d1, x1⟩, b1⟩ : ∃ p, numS bs 0 1048576 x0 = p := ⟨_, rfl⟩
        obtain ⟨⟨d2, x2⟩, b2⟩ : ∃ p, numS bs 0 1048576 x1 = p := ⟨_, rfl⟩
        obtain ⟨⟨d3, x3⟩, b3⟩ : ∃ p, numS bs 0 1048576 x2 = p := ⟨_, rfl⟩
        have a4b : clockS bs 4 w3 = (⟨d0, d1, d2, d3, 0⟩, x3) := by simp [clockS, clkAt, skipS, Clk.setN, b0, b1, b2, b3]
        rw [a4b] at a4
        obtain ⟨rfl, rfl⟩ := Prod.mk.inj a4
        have u2 := numS_z b3 y4
        have u1 := numS_z b2 u2
        have u0 := numS_z b1 u1
        rw [numR_of b0 u0 (by omega)] at f0
        obtain ⟨rfl, rfl⟩ := Prod.mk.inj f0
        rw [numR_of b1 u1 (by omega)] at f1
        obtain ⟨rfl, rfl⟩ := Prod.mk.inj f1
        rw [numR_of b2 u2 (by omega)] at f2
        obtain ⟨rfl, rfl⟩ := Prod.mk.inj f2
        rw [numR_of b3 y4 (by omega)] at f3
        obtain ⟨rfl, rfl⟩ := Prod.mk.inj f3
        rw [numR_of a5 y5 (by omega)] at e5
        obtain ⟨rfl, rfl⟩ := Prod.mk.inj e5
        rw [octR_of a6 y6] at e6
        obtain ⟨rfl, rfl⟩ := Prod.mk.inj e6
        rw [(wordR_of a7 y7).1] at e7
        obtain ⟨rfl, rfl⟩ := Prod.mk.inj e7
        have hk0 := (wordR_of a7 y7).2
        exact absurd hk0 hkey2
    · obtain ⟨⟨l, s8⟩, e8⟩ : ∃ p, octR bs 0 1 s7 = p := ⟨_, rfl⟩
      obtain ⟨q8, g8⟩ := octR_to e8 q7
      obtain ⟨⟨vs, s9⟩, e9⟩ : ∃ p, octR bs 1 12 s8 = p := ⟨_, rfl⟩
      obtain ⟨q9, g9⟩ := octR_to e9 q8
      obtain ⟨⟨v, s10⟩, e10⟩ : ∃ p, wordR bs vs s9 = p := ⟨_, rfl⟩
      have q10 := wordR_to e10 q9 g9.1
      have z10 : s10.2 = 0 → s9.2 = 0 := wordR_z e10
      have z9 : s9.2 = 0 → s8.2 = 0 := fun h => (octR_z e9 h).1
      have z8 : s8.2 = 0 → s7.2 = 0 := fun h => (octR_z e8 h).1
      have hkey1 : s7.2 = 0 → keyE key = 0 := fun h => Classical.byContradiction fun hn => hkey ⟨h, hn⟩
      refine ⟨if 2 < k then resR s10 ⟨4, N, ⟨c0, c1, c2, c3, N - 1⟩, H, k, key, l, v⟩ else resR s7 ⟨4, N, ⟨c0, c1, c2, c3, N - 1⟩, H, k, key, 0, ⟨#[]⟩⟩, ?_, ?_, ?_⟩
      · by_cases hk2 : 2 < k
        · rw [if_pos hk2]
          by_cases hF : s10.2 = 0
          · rw [resR_ok hF]
            have hF7 := z8 (z9 (z10 hF))
            have hkey2 := hkey1 hF7
            clear z7 z6 z5 z3 zt0 zt1 zt2 zt3 z10 z9 z8 hkey hkey1
            dsimp only [tkR]
            refine aspec_of lay_ok 2361475975410874319101 Try.func85 rfl rfl rfl ?_
            repeat' ((conv => whnf); first | refine Spl.yes (by first | assumption | omega) ?_ | refine Spl.no (by first | assumption | omega) ?_ | refine Wr.i64 (by omega) (by omega) ?_ | refine Still.mk rfl rfl ?_ | refine InB.mk (inB_mk (by omega) (by omega)) ?_ | refine Req.mk (by omega) ?_ | refine Req.mk ⟨by first | omega | (dsimp only; omega), by first | omega | (dsimp only; omega)⟩ ?_ | refine ACall.chgR 1 [(0, _)] (one_e bs _ _ _ _ _ e1 hl (by assumption)) rfl ⟨rfl, trivial⟩ rfl rfl ?_ | refine ACall.chgR 1 [(0, _)] (one_e bs _ _ _ _ _ e2 hl (by assumption)) rfl ⟨rfl, trivial⟩ rfl rfl ?_ | refine ACall.chgR 1 [(0, _)] (num_e bs _ _ _ _ _ e3 hl (by assumption) (by omega) (by omega) (by omega)) rfl ⟨rfl, trivial⟩ rfl rfl ?_ | refine ACall.chgR 1 [(0, _)] (num_e bs _ _ _ _ _ f0 hl (by assumption) (by omega) (by omega) (by omega)) rfl ⟨rfl, trivial⟩ rfl rfl ?_ | refine ACall.chgR 1 [(0, _)] (num_e bs _ _ _ _ _ f1 hl (by assumption) (by omega) (by omega) (by omega)) rfl ⟨rfl, trivial⟩ rfl rfl ?_ | refine ACall.chgR 1 [(0, _)] (num_e bs _ _ _ _ _ f2 hl (by assumption) (by omega) (by omega) (by omega)) rfl ⟨rfl, trivial⟩ rfl rfl ?_ | refine ACall.chgR 1 [(0, _)] (num_e bs _ _ _ _ _ f3 hl (by assumption) (by omega) (by omega) (by omega)) rfl ⟨rfl, trivial⟩ rfl rfl ?_ | refine ACall.chgR 1 [(0, _)] (num_e bs _ _ _ _ _ e5 hl (by assumption) (by omega) (by omega) (by omega)) rfl ⟨rfl, trivial⟩ rfl rfl ?_ | refine ACall.chgR 1 [(0, _)] (one_e bs _ _ _ _ _ e6 hl (by assumption)) rfl ⟨rfl, trivial⟩ rfl rfl ?_ | refine ACall.chgR 1 [(0, _)] (wrd_e bs _ _ _ _ e7 hl (by assumption) g6) rfl ⟨rfl, trivial⟩ rfl rfl ?_ | refine ACall.plain _ _ (rkey_spec key) (SubL.cons (.eq _) .nil) rfl ?_ | refine ACall.chgR 1 [(0, _)] (one_e bs _ _ _ _ _ e8 hl (by assumption)) rfl ⟨rfl, trivial⟩ rfl rfl ?_ | refine ACall.chgR 1 [(0, _)] (one_e bs _ _ _ _ _ e9 hl (by assumption)) rfl ⟨rfl, trivial⟩ rfl rfl ?_ | refine ACall.chgR 1 [(0, _)] (wrd_e bs _ _ _ _ e10 hl (by assumption) g9) rfl ⟨rfl, trivial⟩ rfl rfl ?_ | refine ALoop.unr 7 6 rfl ?_ | refine ARet.hdI ?_ | refine Spl.mk (fun _ => ?_) (fun _ => ?_) | refine Wr.b64 ?_ | refine Wr.bu64 ?_ | refine Wr.bu32 ?_ | refine Wr.bu8 ?_ | refine Wr.u8 (by omega) (by omega) ?_ | refine Wr.u64 (by omega) (by omega) ?_ | refine Wr.u32 (by omega) (by omega) ?_ | refine Dv.pos (by omega) (by omega) ?_ | refine Rm.pos (by omega) (by omega) ?_ | refine ADraw.quiet follows_ok (by kernel_rfl) rfl ?_ | refine ADraw.sched (id := 19) lay_ok (awp_snd lay_ok _) [(0, none), (1, none), (2, none), (3, none), (4, none), (5, some []), (6, none), (7, none)] [(5, [])] follows_ok (by kernel_rfl) ?_ | refine ADraw.sched (id := 21) lay_ok (awp_snd lay_ok _) [(0, none), (1, none), (2, none), (3, none), (4, none), (5, some [0]), (6, none), (7, none)] [(5, [0]), (6, [0]), (7, [0])] follows_ok (by kernel_rfl) ?_ | refine BSpl.decY (by first | assumption | omega) ?_ | refine BSpl.decN (by first | assumption | omega) ?_ | refine BSpl.dec (fun _ => ?_) (fun _ => ?_) | refine BSpl.yes (by assumption) ?_ | refine BSpl.no (by assumption) ?_ | refine BSpl.mk (fun _ => ?_) (fun _ => ?_))
            all_goals (conv => whnf)
            all_goals first
              | exact AEqI.mk (AEq.refl _)
              | (exfalso; omega)
          · rw [resR_no hF]
            by_cases hF7 : s7.2 = 0
            · have hkey2 := hkey1 hF7
              clear z7 z6 z5 z3 zt0 zt1 zt2 zt3 z10 z9 z8 hkey hkey1
              dsimp only [tkR]
              refine aspec_of lay_ok 2361475975410874319101 Try.func85 rfl rfl rfl ?_
              repeat' ((conv => whnf); first | refine Spl.yes (by first | assumption | omega) ?_ | refine Spl.no (by first | assumption | omega) ?_ | refine Wr.i64 (by omega) (by omega) ?_ | refine Still.mk rfl rfl ?_ | refine InB.mk (inB_mk (by omega) (by omega)) ?_ | refine Req.mk (by omega) ?_ | refine Req.mk ⟨by first | omega | (dsimp only; omega), by first | omega | (dsimp only; omega)⟩ ?_ | refine ACall.chgR 1 [(0, _)] (one_e bs _ _ _ _ _ e1 hl (by assumption)) rfl ⟨rfl, trivial⟩ rfl rfl ?_ | refine ACall.chgR 1 [(0, _)] (one_e bs _ _ _ _ _ e2 hl (by assumption)) rfl ⟨rfl, trivial⟩ rfl rfl ?_ | refine ACall.chgR 1 [(0, _)] (num_e bs _ _ _ _ _ e3 hl (by assumption) (by omega) (by omega) (by omega)) rfl ⟨rfl, trivial⟩ rfl rfl ?_ | refine ACall.chgR 1 [(0, _)] (num_e bs _ _ _ _ _ f0 hl (by assumption) (by omega) (by omega) (by omega)) rfl ⟨rfl, trivial⟩ rfl rfl ?_ | refine ACall.chgR 1 [(0, _)] (num_e bs _ _ _ _ _ f1 hl (by assumption) (by omega) (by omega) (by omega)) rfl ⟨rfl, trivial⟩ rfl rfl ?_ | refine ACall.chgR 1 [(0, _)] (num_e bs _ _ _ _ _ f2 hl (by assumption) (by omega) (by omega) (by omega)) rfl ⟨rfl, trivial⟩ rfl rfl ?_ | refine ACall.chgR 1 [(0, _)] (num_e bs _ _ _ _ _ f3 hl (by assumption) (by omega) (by omega) (by omega)) rfl ⟨rfl, trivial⟩ rfl rfl ?_ | refine ACall.chgR 1 [(0, _)] (num_e bs _ _ _ _ _ e5 hl (by assumption) (by omega) (by omega) (by omega)) rfl ⟨rfl, trivial⟩ rfl rfl ?_ | refine ACall.chgR 1 [(0, _)] (one_e bs _ _ _ _ _ e6 hl (by assumption)) rfl ⟨rfl, trivial⟩ rfl rfl ?_ | refine ACall.chgR 1 [(0, _)] (wrd_e bs _ _ _ _ e7 hl (by assumption) g6) rfl ⟨rfl, trivial⟩ rfl rfl ?_ | refine ACall.plain _ _ (rkey_spec key) (SubL.cons (.eq _) .nil) rfl ?_ | refine ACall.chgR 1 [(0, _)] (one_e bs _ _ _ _ _ e8 hl (by assumption)) rfl ⟨rfl, trivial⟩ rfl rfl ?_ | refine ACall.chgR 1 [(0, _)] (one_e bs _ _ _ _ _ e9 hl (by assumption)) rfl ⟨rfl, trivial⟩ rfl rfl ?_ | refine ACall.chgR 1 [(0, _)] (wrd_e bs _ _ _ _ e10 hl (by assumption) g9) rfl ⟨rfl, trivial⟩ rfl rfl ?_ | refine ALoop.unr 7 6 rfl ?_ | refine ARet.hdI ?_ | refine Spl.mk (fun _ => ?_) (fun _ => ?_) | refine Wr.b64 ?_ | refine Wr.bu64 ?_ | refine Wr.bu32 ?_ | refine Wr.bu8 ?_ | refine Wr.u8 (by omega) (by omega) ?_ | refine Wr.u64 (by omega) (by omega) ?_ | refine Wr.u32 (by omega) (by omega) ?_ | refine Dv.pos (by omega) (by omega) ?_ | refine Rm.pos (by omega) (by omega) ?_ | refine ADraw.quiet follows_ok (by kernel_rfl) rfl ?_ | refine ADraw.sched (id := 19) lay_ok (awp_snd lay_ok _) [(0, none), (1, none), (2, none), (3, none), (4, none), (5, some []), (6, none), (7, none)] [(5, [])] follows_ok (by kernel_rfl) ?_ | refine ADraw.sched (id := 21) lay_ok (awp_snd lay_ok _) [(0, none), (1, none), (2, none), (3, none), (4, none), (5, some [0]), (6, none), (7, none)] [(5, [0]), (6, [0]), (7, [0])] follows_ok (by kernel_rfl) ?_ | refine BSpl.decY (by first | assumption | omega) ?_ | refine BSpl.decN (by first | assumption | omega) ?_ | refine BSpl.dec (fun _ => ?_) (fun _ => ?_) | refine BSpl.yes (by assumption) ?_ | refine BSpl.no (by assumption) ?_ | refine BSpl.mk (fun _ => ?_) (fun _ => ?_))
              all_goals (conv => whnf)
              all_goals first
                | exact AEqI.mk (AEq.refl _)
                | (exfalso; omega)
            · skip
              clear z7 z6 z5 z3 zt0 zt1 zt2 zt3 z10 z9 z8 hkey hkey1
              dsimp only [tkR]
              refine aspec_of lay_ok 2361475975410874319101 Try.func85 rfl rfl rfl ?_
              repeat' ((conv => whnf); first | refine Spl.yes (by first | assumption | omega) ?_ | refine Spl.no (by first | assumption | omega) ?_ | refine Wr.i64 (by omega) (by omega) ?_ | refine Still.mk rfl rfl ?_ | refine InB.mk (inB_mk (by omega) (by omega)) ?_ | refine Req.mk (by omega) ?_ | refine Req.mk ⟨by first | omega | (dsimp only; omega), by first | omega | (dsimp only; omega)⟩ ?_ | refine ACall.chgR 1 [(0, _)] (one_e bs _ _ _ _ _ e1 hl (by assumption)) rfl ⟨rfl, trivial⟩ rfl rfl ?_ | refine ACall.chgR 1 [(0, _)] (one_e bs _ _ _ _ _ e2 hl (by assumption)) rfl ⟨rfl, trivial⟩ rfl rfl ?_ | refine ACall.chgR 1 [(0, _)] (num_e bs _ _ _ _ _ e3 hl (by assumption) (by omega) (by omega) (by omega)) rfl ⟨rfl, trivial⟩ rfl rfl ?_ | refine ACall.chgR 1 [(0, _)] (num_e bs _ _ _ _ _ f0 hl (by assumption) (by omega) (by omega) (by omega)) rfl ⟨rfl, trivial⟩ rfl rfl ?_ | refine ACall.chgR 1 [(0, _)] (num_e bs _ _ _ _ _ f1 hl (by assumption) (by omega) (by omega) (by omega)) rfl ⟨rfl, trivial⟩ rfl rfl ?_ | refine ACall.chgR 1 [(0, _)] (num_e bs _ _ _ _ _ f2 hl (by assumption) (by omega) (by omega) (by omega)) rfl ⟨rfl, trivial⟩ rfl rfl ?_ | refine ACall.chgR 1 [(0, _)] (num_e bs _ _ _ _ _ f3 hl (by assumption) (by omega) (by omega) (by omega)) rfl ⟨rfl, trivial⟩ rfl rfl ?_ | refine ACall.chgR 1 [(0, _)] (num_e bs _ _ _ _ _ e5 hl (by assumption) (by omega) (by omega) (by omega)) rfl ⟨rfl, trivial⟩ rfl rfl ?_ | refine ACall.chgR 1 [(0, _)] (one_e bs _ _ _ _ _ e6 hl (by assumption)) rfl ⟨rfl, trivial⟩ rfl rfl ?_ | refine ACall.chgR 1 [(0, _)] (wrd_e bs _ _ _ _ e7 hl (by assumption) g6) rfl ⟨rfl, trivial⟩ rfl rfl ?_ | refine ACall.plain _ _ (rkey_spec key) (SubL.cons (.eq _) .nil) rfl ?_ | refine ACall.chgR 1 [(0, _)] (one_e bs _ _ _ _ _ e8 hl (by assumption)) rfl ⟨rfl, trivial⟩ rfl rfl ?_ | refine ACall.chgR 1 [(0, _)] (one_e bs _ _ _ _ _ e9 hl (by assumption)) rfl ⟨rfl, trivial⟩ rfl rfl ?_ | refine ACall.chgR 1 [(0, _)] (wrd_e bs _ _ _ _ e10 hl (by assumption) g9) rfl ⟨rfl, trivial⟩ rfl rfl ?_ | refine ALoop.unr 7 6 rfl ?_ | refine ARet.hdI ?_ | refine Spl.mk (fun _ => ?_) (fun _ => ?_) | refine Wr.b64 ?_ | refine Wr.bu64 ?_ | refine Wr.bu32 ?_ | refine Wr.bu8 ?_ | refine Wr.u8 (by omega) (by omega) ?_ | refine Wr.u64 (by omega) (by omega) ?_ | refine Wr.u32 (by omega) (by omega) ?_ | refine Dv.pos (by omega) (by omega) ?_ | refine Rm.pos (by omega) (by omega) ?_ | refine ADraw.quiet follows_ok (by kernel_rfl) rfl ?_ | refine ADraw.sched (id := 19) lay_ok (awp_snd lay_ok _) [(0, none), (1, none), (2, none), (3, none), (4, none), (5, some []), (6, none), (7, none)] [(5, [])] follows_ok (by kernel_rfl) ?_ | refine ADraw.sched (id := 21) lay_ok (awp_snd lay_ok _) [(0, none), (1, none), (2, none), (3, none), (4, none), (5, some [0]), (6, none), (7, none)] [(5, [0]), (6, [0]), (7, [0])] follows_ok (by kernel_rfl) ?_ | refine BSpl.decY (by first | assumption | omega) ?_ | refine BSpl.decN (by first | assumption | omega) ?_ | refine BSpl.dec (fun _ => ?_) (fun _ => ?_) | refine BSpl.yes (by assumption) ?_ | refine BSpl.no (by assumption) ?_ | refine BSpl.mk (fun _ => ?_) (fun _ => ?_))
              all_goals (conv => whnf)
              all_goals first
                | exact AEqI.mk (AEq.refl _)
                | (exfalso; omega)
        · rw [if_neg hk2]
          by_cases hF : s7.2 = 0
          · rw [resR_ok hF]
            have hkey2 := hkey1 hF
            clear z7 z6 z5 z3 zt0 zt1 zt2 zt3 z10 z9 z8 hkey hkey1
            dsimp only [tkR]
            refine aspec_of lay_ok 2361475975410874319101 Try.func85 rfl rfl rfl ?_
            repeat' ((conv => whnf); first | refine Spl.yes (by first | assumption | omega) ?_ | refine Spl.no (by first | assumption | omega) ?_ | refine Wr.i64 (by omega) (by omega) ?_ | refine Still.mk rfl rfl ?_ | refine InB.mk (inB_mk (by omega) (by omega)) ?_ | refine Req.mk (by omega) ?_ | refine Req.mk ⟨by first | omega | (dsimp only; omega), by first | omega | (dsimp only; omega)⟩ ?_ | refine ACall.chgR 1 [(0, _)] (one_e bs _ _ _ _ _ e1 hl (by assumption)) rfl ⟨rfl, trivial⟩ rfl rfl ?_ | refine ACall.chgR 1 [(0, _)] (one_e bs _ _ _ _ _ e2 hl (by assumption)) rfl ⟨rfl, trivial⟩ rfl rfl ?_ | refine ACall.chgR 1 [(0, _)] (num_e bs _ _ _ _ _ e3 hl (by assumption) (by omega) (by omega) (by omega)) rfl ⟨rfl, trivial⟩ rfl rfl ?_ | refine ACall.chgR 1 [(0, _)] (num_e bs _ _ _ _ _ f0 hl (by assumption) (by omega) (by omega) (by omega)) rfl ⟨rfl, trivial⟩ rfl rfl ?_ | refine ACall.chgR 1 [(0, _)] (num_e bs _ _ _ _ _ f1 hl (by assumption) (by omega) (by omega) (by omega)) rfl ⟨rfl, trivial⟩ rfl rfl ?_ | refine ACall.chgR 1 [(0, _)] (num_e bs _ _ _ _ _ f2 hl (by assumption) (by omega) (by omega) (by omega)) rfl ⟨rfl, trivial⟩ rfl rfl ?_ | refine ACall.chgR 1 [(0, _)] (num_e bs _ _ _ _ _ f3 hl (by assumption) (by omega) (by omega) (by omega)) rfl ⟨rfl, trivial⟩ rfl rfl ?_ | refine ACall.chgR 1 [(0, _)] (num_e bs _ _ _ _ _ e5 hl (by assumption) (by omega) (by omega) (by omega)) rfl ⟨rfl, trivial⟩ rfl rfl ?_ | refine ACall.chgR 1 [(0, _)] (one_e bs _ _ _ _ _ e6 hl (by assumption)) rfl ⟨rfl, trivial⟩ rfl rfl ?_ | refine ACall.chgR 1 [(0, _)] (wrd_e bs _ _ _ _ e7 hl (by assumption) g6) rfl ⟨rfl, trivial⟩ rfl rfl ?_ | refine ACall.plain _ _ (rkey_spec key) (SubL.cons (.eq _) .nil) rfl ?_ | refine ACall.chgR 1 [(0, _)] (one_e bs _ _ _ _ _ e8 hl (by assumption)) rfl ⟨rfl, trivial⟩ rfl rfl ?_ | refine ACall.chgR 1 [(0, _)] (one_e bs _ _ _ _ _ e9 hl (by assumption)) rfl ⟨rfl, trivial⟩ rfl rfl ?_ | refine ACall.chgR 1 [(0, _)] (wrd_e bs _ _ _ _ e10 hl (by assumption) g9) rfl ⟨rfl, trivial⟩ rfl rfl ?_ | refine ALoop.unr 7 6 rfl ?_ | refine ARet.hdI ?_ | refine Spl.mk (fun _ => ?_) (fun _ => ?_) | refine Wr.b64 ?_ | refine Wr.bu64 ?_ | refine Wr.bu32 ?_ | refine Wr.bu8 ?_ | refine Wr.u8 (by omega) (by omega) ?_ | refine Wr.u64 (by omega) (by omega) ?_ | refine Wr.u32 (by omega) (by omega) ?_ | refine Dv.pos (by omega) (by omega) ?_ | refine Rm.pos (by omega) (by omega) ?_ | refine ADraw.quiet follows_ok (by kernel_rfl) rfl ?_ | refine ADraw.sched (id := 19) lay_ok (awp_snd lay_ok _) [(0, none), (1, none), (2, none), (3, none), (4, none), (5, some []), (6, none), (7, none)] [(5, [])] follows_ok (by kernel_rfl) ?_ | refine ADraw.sched (id := 21) lay_ok (awp_snd lay_ok _) [(0, none), (1, none), (2, none), (3, none), (4, none), (5, some [0]), (6, none), (7, none)] [(5, [0]), (6, [0]), (7, [0])] follows_ok (by kernel_rfl) ?_ | refine BSpl.decY (by first | assumption | omega) ?_ | refine BSpl.decN (by first | assumption | omega) ?_ | refine BSpl.dec (fun _ => ?_) (fun _ => ?_) | refine BSpl.yes (by assumption) ?_ | refine BSpl.no (by assumption) ?_ | refine BSpl.mk (fun _ => ?_) (fun _ => ?_))
            all_goals (conv => whnf)
            all_goals first
              | exact AEqI.mk (AEq.refl _)
              | (exfalso; omega)
          · rw [resR_no hF]
            clear z7 z6 z5 z3 zt0 zt1 zt2 zt3 z10 z9 z8 hkey hkey1
            dsimp only [tkR]
            refine aspec_of lay_ok 2361475975410874319101 Try.func85 rfl rfl rfl ?_
            repeat' ((conv => whnf); first | refine Spl.yes (by first | assumption | omega) ?_ | refine Spl.no (by first | assumption | omega) ?_ | refine Wr.i64 (by omega) (by omega) ?_ | refine Still.mk rfl rfl ?_ | refine InB.mk (inB_mk (by omega) (by omega)) ?_ | refine Req.mk (by omega) ?_ | refine Req.mk ⟨by first | omega | (dsimp only; omega), by first | omega | (dsimp only; omega)⟩ ?_ | refine ACall.chgR 1 [(0, _)] (one_e bs _ _ _ _ _ e1 hl (by assumption)) rfl ⟨rfl, trivial⟩ rfl rfl ?_ | refine ACall.chgR 1 [(0, _)] (one_e bs _ _ _ _ _ e2 hl (by assumption)) rfl ⟨rfl, trivial⟩ rfl rfl ?_ | refine ACall.chgR 1 [(0, _)] (num_e bs _ _ _ _ _ e3 hl (by assumption) (by omega) (by omega) (by omega)) rfl ⟨rfl, trivial⟩ rfl rfl ?_ | refine ACall.chgR 1 [(0, _)] (num_e bs _ _ _ _ _ f0 hl (by assumption) (by omega) (by omega) (by omega)) rfl ⟨rfl, trivial⟩ rfl rfl ?_ | refine ACall.chgR 1 [(0, _)] (num_e bs _ _ _ _ _ f1 hl (by assumption) (by omega) (by omega) (by omega)) rfl ⟨rfl, trivial⟩ rfl rfl ?_ | refine ACall.chgR 1 [(0, _)] (num_e bs _ _ _ _ _ f2 hl (by assumption) (by omega) (by omega) (by omega)) rfl ⟨rfl, trivial⟩ rfl rfl ?_ | refine ACall.chgR 1 [(0, _)] (num_e bs _ _ _ _ _ f3 hl (by assumption) (by omega) (by omega) (by omega)) rfl ⟨rfl, trivial⟩ rfl rfl ?_ | refine ACall.chgR 1 [(0, _)] (num_e bs _ _ _ _ _ e5 hl (by assumption) (by omega) (by omega) (by omega)) rfl ⟨rfl, trivial⟩ rfl rfl ?_ | refine ACall.chgR 1 [(0, _)] (one_e bs _ _ _ _ _ e6 hl (by assumption)) rfl ⟨rfl, trivial⟩ rfl rfl ?_ | refine ACall.chgR 1 [(0, _)] (wrd_e bs _ _ _ _ e7 hl (by assumption) g6) rfl ⟨rfl, trivial⟩ rfl rfl ?_ | refine ACall.plain _ _ (rkey_spec key) (SubL.cons (.eq _) .nil) rfl ?_ | refine ACall.chgR 1 [(0, _)] (one_e bs _ _ _ _ _ e8 hl (by assumption)) rfl ⟨rfl, trivial⟩ rfl rfl ?_ | refine ACall.chgR 1 [(0, _)] (one_e bs _ _ _ _ _ e9 hl (by assumption)) rfl ⟨rfl, trivial⟩ rfl rfl ?_ | refine ACall.chgR 1 [(0, _)] (wrd_e bs _ _ _ _ e10 hl (by assumption) g9) rfl ⟨rfl, trivial⟩ rfl rfl ?_ | refine ALoop.unr 7 6 rfl ?_ | refine ARet.hdI ?_ | refine Spl.mk (fun _ => ?_) (fun _ => ?_) | refine Wr.b64 ?_ | refine Wr.bu64 ?_ | refine Wr.bu32 ?_ | refine Wr.bu8 ?_ | refine Wr.u8 (by omega) (by omega) ?_ | refine Wr.u64 (by omega) (by omega) ?_ | refine Wr.u32 (by omega) (by omega) ?_ | refine Dv.pos (by omega) (by omega) ?_ | refine Rm.pos (by omega) (by omega) ?_ | refine ADraw.quiet follows_ok (by kernel_rfl) rfl ?_ | refine ADraw.sched (id := 19) lay_ok (awp_snd lay_ok _) [(0, none), (1, none), (2, none), (3, none), (4, none), (5, some []), (6, none), (7, none)] [(5, [])] follows_ok (by kernel_rfl) ?_ | refine ADraw.sched (id := 21) lay_ok (awp_snd lay_ok _) [(0, none), (1, none), (2, none), (3, none), (4, none), (5, some [0]), (6, none), (7, none)] [(5, [0]), (6, [0]), (7, [0])] follows_ok (by kernel_rfl) ?_ | refine BSpl.decY (by first | assumption | omega) ?_ | refine BSpl.decN (by first | assumption | omega) ?_ | refine BSpl.dec (fun _ => ?_) (fun _ => ?_) | refine BSpl.yes (by assumption) ?_ | refine BSpl.no (by assumption) ?_ | refine BSpl.mk (fun _ => ?_) (fun _ => ?_))
            all_goals (conv => whnf)
            all_goals first
              | exact AEqI.mk (AEq.refl _)
              | (exfalso; omega)
      · split
        · exact resR_le q10
        · exact resR_le q7
      · intro e m ht
        have hf := takeE_field ht
        obtain ⟨⟨k', w1⟩, a1⟩ : ∃ p, octS bs 1 5 (0, 0) = p := ⟨_, rfl⟩
        obtain ⟨⟨R', w2⟩, a2⟩ : ∃ p, octS bs 0 4 w1 = p := ⟨_, rfl⟩
        obtain ⟨⟨N', w3⟩, a3⟩ : ∃ p, numS bs 1 1048576 w2 = p := ⟨_, rfl⟩
        obtain ⟨⟨C', w4⟩, a4⟩ : ∃ p, clockS bs R' w3 = p := ⟨_, rfl⟩
        obtain ⟨⟨H', w5⟩, a5⟩ : ∃ p, numS bs 1 16777216 w4 = p := ⟨_, rfl⟩
        obtain ⟨⟨ks', w6⟩, a6⟩ : ∃ p, octS bs 1 8 w5 = p := ⟨_, rfl⟩
        obtain ⟨⟨key', w7⟩, a7⟩ : ∃ p, wordS bs ks' keyE w6 = p := ⟨_, rfl⟩
        obtain ⟨⟨l', w8⟩, a8⟩ : ∃ p, octS bs 0 1 w7 = p := ⟨_, rfl⟩
        obtain ⟨⟨vs', w9⟩, a9⟩ : ∃ p, octS bs 1 12 w8 = p := ⟨_, rfl⟩
        obtain ⟨⟨v', w10⟩, a10⟩ : ∃ p, wordS bs vs' valueE w9 = p := ⟨_, rfl⟩
        have hf2 : fieldS bs (0, 0) = if isLong k' then (⟨R', N', C'.put R' (N' - 1), H', k', key', l', v'⟩, w10) else (⟨R', N', C'.put R' (N' - 1), H', k', key', 0, ⟨#[]⟩⟩, w7) := by simp only [fieldS, a1, a2, a3, a4, a5, a6, a7, a8, a9, a10]
        rw [hf] at hf2
        have y7 : w7.2 = 0 := by
          split at hf2
          · have h10 : w10.2 = 0 := by rw [← (Prod.mk.inj hf2).2]
            exact octS_z a8 (octS_z a9 (wordS_z a10 h10))
          · rw [← (Prod.mk.inj hf2).2]
        have y6 := wordS_z a7 y7
        have y5 := octS_z a6 y6
        have y4 := numS_z a5 y5
        have y3 : w3.2 = 0 := clkAt_z (bs := bs) (r := R') 5 (by have h : (clockS bs R' w3).2.2 = 0 := by rw [a4]; exact y4
                                                                 exact h)
        have y2 := numS_z a3 y3
        have y1 := octS_z a2 y2
        rw [octR_of a1 y1] at e1
        obtain ⟨rfl, rfl⟩ := Prod.mk.inj e1
        rw [octR_of a2 y2] at e2
        obtain ⟨rfl, rfl⟩ := Prod.mk.inj e2
        rw [numR_of a3 y3 (by omega)] at e3
        obtain ⟨rfl, rfl⟩ := Prod.mk.inj e3
        obtain ⟨⟨d0, x0⟩, b0⟩ : ∃ p, numS bs 0 1048576 w3 = p := ⟨_, rfl⟩
        obtain ⟨⟨d1, x1⟩, b1⟩ : ∃ p, numS bs 0 1048576 x0 = p := ⟨_, rfl⟩
        obtain ⟨⟨d2, x2⟩, b2⟩ : ∃ p, numS bs 0 1048576 x1 = p := ⟨_, rfl⟩
        obtain ⟨⟨d3, x3⟩, b3⟩ : ∃ p, numS bs 0 1048576 x2 = p := ⟨_, rfl⟩
        have a4b : clockS bs 4 w3 = (⟨d0, d1, d2, d3, 0⟩, x3) := by simp [clockS, clkAt, skipS, Clk.setN, b0, b1, b2, b3]
        rw [a4b] at a4
        obtain ⟨rfl, rfl⟩ := Prod.mk.inj a4
        have u2 := numS_z b3 y4
        have u1 := numS_z b2 u2
        have u0 := numS_z b1 u1
        rw [numR_of b0 u0 (by omega)] at f0
        obtain ⟨rfl, rfl⟩ := Prod.mk.inj f0
        rw [numR_of b1 u1 (by omega)] at f1
        obtain ⟨rfl, rfl⟩ := Prod.mk.inj f1
        rw [numR_of b2 u2 (by omega)] at f2
        obtain ⟨rfl, rfl⟩ := Prod.mk.inj f2
        rw [numR_of b3 y4 (by omega)] at f3
        obtain ⟨rfl, rfl⟩ := Prod.mk.inj f3
        rw [numR_of a5 y5 (by omega)] at e5
        obtain ⟨rfl, rfl⟩ := Prod.mk.inj e5
        rw [octR_of a6 y6] at e6
        obtain ⟨rfl, rfl⟩ := Prod.mk.inj e6
        rw [(wordR_of a7 y7).1] at e7
        obtain ⟨rfl, rfl⟩ := Prod.mk.inj e7
        have hk0 := (wordR_of a7 y7).2
        have hk15 := (octR_z (octR_of a1 y1) y1).2
        by_cases hk2 : 2 < k'
        · have hlong : isLong k' = true := by unfold isLong; simp; omega
          rw [if_pos hlong] at hf2
          have h10 : w10.2 = 0 := by rw [← (Prod.mk.inj hf2).2]
          have h9 := wordS_z a10 h10
          have h8 := octS_z a9 h9
          rw [octR_of a8 h8] at e8
          obtain ⟨rfl, rfl⟩ := Prod.mk.inj e8
          rw [octR_of a9 h9] at e9
          obtain ⟨rfl, rfl⟩ := Prod.mk.inj e9
          rw [(wordR_of a10 h10).1] at e10
          obtain ⟨rfl, rfl⟩ := Prod.mk.inj e10
          rw [if_pos hk2, resR_ok h10, ← (Prod.mk.inj hf2).2, (Prod.mk.inj hf2).1]
          rfl
        · have hlong : isLong k' = false := by unfold isLong; simp; omega
          rw [if_neg (by rw [hlong]; exact Bool.false_ne_true)] at hf2
          rw [if_neg hk2, resR_ok y7, ← (Prod.mk.inj hf2).2, (Prod.mk.inj hf2).1]
          rfl

set_option maxHeartbeats 16000000 in
set_option maxRecDepth 100000 in
theorem refE_x (bs : List UInt8) (hl : bs.length ≤ 1000000000) {k R N : Int} {s1 s2 s3 : St} (e1 : octR bs 1 5 (0, 0) = (k, s1)) (_g1 : 0 ≤ k ∧ k ≤ 255) (_q0 : ((0, 0) : St).1 ≤ bs.length) (_q1 : s1.1 ≤ bs.length) (e2 : octR bs 0 4 s1 = (R, s2)) (_g2 : 0 ≤ R ∧ R ≤ 255) (_q2 : s2.1 ≤ bs.length) (e3 : numR bs 1 1048576 s2 = (N, s3)) (_g3 : 0 ≤ N ∧ N ≤ 1048576) (q3 : s3.1 ≤ bs.length) (hR : ¬ (0 ≤ R ∧ R ≤ 4)) : ∃ p, RefE bs p := by
    unfold RefE
    obtain ⟨⟨c0, t0⟩, f0⟩ : ∃ p, numR bs 0 1048576 s3 = p := ⟨_, rfl⟩
    obtain ⟨p0, _⟩ := numR_to f0 q3 (by omega) (by omega)
    obtain ⟨⟨c1, t1⟩, f1⟩ : ∃ p, numR bs 0 1048576 t0 = p := ⟨_, rfl⟩
    obtain ⟨p1, _⟩ := numR_to f1 p0 (by omega) (by omega)
    obtain ⟨⟨c2, t2⟩, f2⟩ : ∃ p, numR bs 0 1048576 t1 = p := ⟨_, rfl⟩
    obtain ⟨p2, _⟩ := numR_to f2 p1 (by omega) (by omega)
    obtain ⟨⟨c3, t3⟩, f3⟩ : ∃ p, numR bs 0 1048576 t2 = p := ⟨_, rfl⟩
    obtain ⟨p3, _⟩ := numR_to f3 p2 (by omega) (by omega)
    obtain ⟨⟨c4, t4⟩, f4⟩ : ∃ p, numR bs 0 1048576 t3 = p := ⟨_, rfl⟩
    obtain ⟨p4, _⟩ := numR_to f4 p3 (by omega) (by omega)
    obtain ⟨⟨H, s5⟩, e5⟩ : ∃ p, numR bs 1 16777216 t4 = p := ⟨_, rfl⟩
    obtain ⟨q5, g5⟩ := numR_to e5 p4 (by omega) (by omega)
    obtain ⟨⟨ks, s6⟩, e6⟩ : ∃ p, octR bs 1 8 s5 = p := ⟨_, rfl⟩
    obtain ⟨q6, g6⟩ := octR_to e6 q5
    obtain ⟨⟨key, s7⟩, e7⟩ : ∃ p, wordR bs ks s6 = p := ⟨_, rfl⟩
    have q7 := wordR_to e7 q6 g6.1
    have z7 : s7.2 = 0 → s6.2 = 0 := wordR_z e7
    have z6 : s6.2 = 0 → s5.2 = 0 := fun h => (octR_z e6 h).1
    have z5 : s5.2 = 0 → t4.2 = 0 := numR_z e5
    have zt0 : t0.2 = 0 → s3.2 = 0 := numR_z f0
    have zt1 : t1.2 = 0 → t0.2 = 0 := numR_z f1
    have zt2 : t2.2 = 0 → t1.2 = 0 := numR_z f2
    have zt3 : t3.2 = 0 → t2.2 = 0 := numR_z f3
    have zt4 : t4.2 = 0 → t3.2 = 0 := numR_z f4
    have z3 : s3.2 = 0 → s2.2 = 0 := numR_z e3
    have bad7 : ¬ s7.2 = 0 := fun h => hR (octR_z e2 (z3 ((zt0 (zt1 (zt2 (zt3 (zt4 (z5 (z6 (z7 h))))))))))).2
    by_cases hkey : s7.2 = 0 ∧ ¬ keyE key = 0
    · obtain ⟨⟨l, s8⟩, e8⟩ : ∃ p, octR bs 0 1 (s7.1, 3) = p := ⟨_, rfl⟩
      obtain ⟨q8, g8⟩ := octR_to e8 q7
      obtain ⟨⟨vs, s9⟩, e9⟩ : ∃ p, octR bs 1 12 s8 = p := ⟨_, rfl⟩
      obtain ⟨q9, g9⟩ := octR_to e9 q8
      obtain ⟨⟨v, s10⟩, e10⟩ : ∃ p, wordR bs vs s9 = p := ⟨_, rfl⟩
      have q10 := wordR_to e10 q9 g9.1
      have z10 : s10.2 = 0 → s9.2 = 0 := wordR_z e10
      have z9 : s9.2 = 0 → s8.2 = 0 := fun h => (octR_z e9 h).1
      have z8 : ¬ s8.2 = 0 := fun h => absurd (octR_z e8 h).1 (by decide : ¬ (3 : Int) = 0)
      have z8b : ¬ s10.2 = 0 := fun h => z8 (z9 (z10 h))
      obtain ⟨hkey1, hkey2⟩ := hkey
      exact absurd hkey1 bad7
    · obtain ⟨⟨l, s8⟩, e8⟩ : ∃ p, octR bs 0 1 s7 = p := ⟨_, rfl⟩
      obtain ⟨q8, g8⟩ := octR_to e8 q7
      obtain ⟨⟨vs, s9⟩, e9⟩ : ∃ p, octR bs 1 12 s8 = p := ⟨_, rfl⟩
      obtain ⟨q9, g9⟩ := octR_to e9 q8
      obtain ⟨⟨v, s10⟩, e10⟩ : ∃ p, wordR bs vs s9 = p := ⟨_, rfl⟩
      have q10 := wordR_to e10 q9 g9.1
      have z10 : s10.2 = 0 → s9.2 = 0 := wordR_z e10
      have z9 : s9.2 = 0 → s8.2 = 0 := fun h => (octR_z e9 h).1
      have z8 : s8.2 = 0 → s7.2 = 0 := fun h => (octR_z e8 h).1
      have hkey1 : s7.2 = 0 → keyE key = 0 := fun h => Classical.byContradiction fun hn => hkey ⟨h, hn⟩
      have bad10 : ¬ s10.2 = 0 := fun h => bad7 (z8 (z9 (z10 h)))
      refine ⟨if 2 < k then resR s10 ⟨R, N, ⟨c0, c1, c2, c3, c4⟩, H, k, key, l, v⟩ else resR s7 ⟨R, N, ⟨c0, c1, c2, c3, c4⟩, H, k, key, 0, ⟨#[]⟩⟩, ?_, ?_, ?_⟩
      · by_cases hk2 : 2 < k
        · rw [if_pos hk2]
          rw [resR_no bad10]
          clear z7 z6 z5 z3 zt0 zt1 zt2 zt3 zt4 z10 z9 z8 hkey hkey1
          dsimp only [tkR]
          refine aspec_of lay_ok 2361475975410874319101 Try.func85 rfl rfl rfl ?_
          repeat' ((conv => whnf); first | refine Spl.yes (by first | assumption | omega) ?_ | refine Spl.no (by first | assumption | omega) ?_ | refine Wr.i64 (by omega) (by omega) ?_ | refine Still.mk rfl rfl ?_ | refine InB.mk (inB_mk (by omega) (by omega)) ?_ | refine Req.mk (by omega) ?_ | refine Req.mk ⟨by first | omega | (dsimp only; omega), by first | omega | (dsimp only; omega)⟩ ?_ | refine ACall.chgR 1 [(0, _)] (one_e bs _ _ _ _ _ e1 hl (by assumption)) rfl ⟨rfl, trivial⟩ rfl rfl ?_ | refine ACall.chgR 1 [(0, _)] (one_e bs _ _ _ _ _ e2 hl (by assumption)) rfl ⟨rfl, trivial⟩ rfl rfl ?_ | refine ACall.chgR 1 [(0, _)] (num_e bs _ _ _ _ _ e3 hl (by assumption) (by omega) (by omega) (by omega)) rfl ⟨rfl, trivial⟩ rfl rfl ?_ | refine ACall.chgR 1 [(0, _)] (num_e bs _ _ _ _ _ f0 hl (by assumption) (by omega) (by omega) (by omega)) rfl ⟨rfl, trivial⟩ rfl rfl ?_ | refine ACall.chgR 1 [(0, _)] (num_e bs _ _ _ _ _ f1 hl (by assumption) (by omega) (by omega) (by omega)) rfl ⟨rfl, trivial⟩ rfl rfl ?_ | refine ACall.chgR 1 [(0, _)] (num_e bs _ _ _ _ _ f2 hl (by assumption) (by omega) (by omega) (by omega)) rfl ⟨rfl, trivial⟩ rfl rfl ?_ | refine ACall.chgR 1 [(0, _)] (num_e bs _ _ _ _ _ f3 hl (by assumption) (by omega) (by omega) (by omega)) rfl ⟨rfl, trivial⟩ rfl rfl ?_ | refine ACall.chgR 1 [(0, _)] (num_e bs _ _ _ _ _ f4 hl (by assumption) (by omega) (by omega) (by omega)) rfl ⟨rfl, trivial⟩ rfl rfl ?_ | refine ACall.chgR 1 [(0, _)] (num_e bs _ _ _ _ _ e5 hl (by assumption) (by omega) (by omega) (by omega)) rfl ⟨rfl, trivial⟩ rfl rfl ?_ | refine ACall.chgR 1 [(0, _)] (one_e bs _ _ _ _ _ e6 hl (by assumption)) rfl ⟨rfl, trivial⟩ rfl rfl ?_ | refine ACall.chgR 1 [(0, _)] (wrd_e bs _ _ _ _ e7 hl (by assumption) g6) rfl ⟨rfl, trivial⟩ rfl rfl ?_ | refine ACall.plain _ _ (rkey_spec key) (SubL.cons (.eq _) .nil) rfl ?_ | refine ACall.chgR 1 [(0, _)] (one_e bs _ _ _ _ _ e8 hl (by assumption)) rfl ⟨rfl, trivial⟩ rfl rfl ?_ | refine ACall.chgR 1 [(0, _)] (one_e bs _ _ _ _ _ e9 hl (by assumption)) rfl ⟨rfl, trivial⟩ rfl rfl ?_ | refine ACall.chgR 1 [(0, _)] (wrd_e bs _ _ _ _ e10 hl (by assumption) g9) rfl ⟨rfl, trivial⟩ rfl rfl ?_ | refine ALoop.unr 7 6 rfl ?_ | refine ARet.hdI ?_ | refine Spl.mk (fun _ => ?_) (fun _ => ?_) | refine Wr.b64 ?_ | refine Wr.bu64 ?_ | refine Wr.bu32 ?_ | refine Wr.bu8 ?_ | refine Wr.u8 (by omega) (by omega) ?_ | refine Wr.u64 (by omega) (by omega) ?_ | refine Wr.u32 (by omega) (by omega) ?_ | refine Dv.pos (by omega) (by omega) ?_ | refine Rm.pos (by omega) (by omega) ?_ | refine ADraw.quiet follows_ok (by kernel_rfl) rfl ?_ | refine ADraw.sched (id := 19) lay_ok (awp_snd lay_ok _) [(0, none), (1, none), (2, none), (3, none), (4, none), (5, some []), (6, none), (7, none)] [(5, [])] follows_ok (by kernel_rfl) ?_ | refine ADraw.sched (id := 21) lay_ok (awp_snd lay_ok _) [(0, none), (1, none), (2, none), (3, none), (4, none), (5, some [0]), (6, none), (7, none)] [(5, [0]), (6, [0]), (7, [0])] follows_ok (by kernel_rfl) ?_ | refine BSpl.decY (by first | assumption | omega) ?_ | refine BSpl.decN (by first | assumption | omega) ?_ | refine BSpl.dec (fun _ => ?_) (fun _ => ?_) | refine BSpl.yes (by assumption) ?_ | refine BSpl.no (by assumption) ?_ | refine BSpl.mk (fun _ => ?_) (fun _ => ?_))
          all_goals (conv => whnf)
          all_goals first
            | exact AEqI.mk (AEq.refl _)
            | (exfalso; omega)
        · rw [if_neg hk2]
          rw [resR_no bad7]
          clear z7 z6 z5 z3 zt0 zt1 zt2 zt3 zt4 z10 z9 z8 hkey hkey1
          dsimp only [tkR]
          refine aspec_of lay_ok 2361475975410874319101 Try.func85 rfl rfl rfl ?_
          repeat' ((conv => whnf); first | refine Spl.yes (by first | assumption | omega) ?_ | refine Spl.no (by first | assumption | omega) ?_ | refine Wr.i64 (by omega) (by omega) ?_ | refine Still.mk rfl rfl ?_ | refine InB.mk (inB_mk (by omega) (by omega)) ?_ | refine Req.mk (by omega) ?_ | refine Req.mk ⟨by first | omega | (dsimp only; omega), by first | omega | (dsimp only; omega)⟩ ?_ | refine ACall.chgR 1 [(0, _)] (one_e bs _ _ _ _ _ e1 hl (by assumption)) rfl ⟨rfl, trivial⟩ rfl rfl ?_ | refine ACall.chgR 1 [(0, _)] (one_e bs _ _ _ _ _ e2 hl (by assumption)) rfl ⟨rfl, trivial⟩ rfl rfl ?_ | refine ACall.chgR 1 [(0, _)] (num_e bs _ _ _ _ _ e3 hl (by assumption) (by omega) (by omega) (by omega)) rfl ⟨rfl, trivial⟩ rfl rfl ?_ | refine ACall.chgR 1 [(0, _)] (num_e bs _ _ _ _ _ f0 hl (by assumption) (by omega) (by omega) (by omega)) rfl ⟨rfl, trivial⟩ rfl rfl ?_ | refine ACall.chgR 1 [(0, _)] (num_e bs _ _ _ _ _ f1 hl (by assumption) (by omega) (by omega) (by omega)) rfl ⟨rfl, trivial⟩ rfl rfl ?_ | refine ACall.chgR 1 [(0, _)] (num_e bs _ _ _ _ _ f2 hl (by assumption) (by omega) (by omega) (by omega)) rfl ⟨rfl, trivial⟩ rfl rfl ?_ | refine ACall.chgR 1 [(0, _)] (num_e bs _ _ _ _ _ f3 hl (by assumption) (by omega) (by omega) (by omega)) rfl ⟨rfl, trivial⟩ rfl rfl ?_ | refine ACall.chgR 1 [(0, _)] (num_e bs _ _ _ _ _ f4 hl (by assumption) (by omega) (by omega) (by omega)) rfl ⟨rfl, trivial⟩ rfl rfl ?_ | refine ACall.chgR 1 [(0, _)] (num_e bs _ _ _ _ _ e5 hl (by assumption) (by omega) (by omega) (by omega)) rfl ⟨rfl, trivial⟩ rfl rfl ?_ | refine ACall.chgR 1 [(0, _)] (one_e bs _ _ _ _ _ e6 hl (by assumption)) rfl ⟨rfl, trivial⟩ rfl rfl ?_ | refine ACall.chgR 1 [(0, _)] (wrd_e bs _ _ _ _ e7 hl (by assumption) g6) rfl ⟨rfl, trivial⟩ rfl rfl ?_ | refine ACall.plain _ _ (rkey_spec key) (SubL.cons (.eq _) .nil) rfl ?_ | refine ACall.chgR 1 [(0, _)] (one_e bs _ _ _ _ _ e8 hl (by assumption)) rfl ⟨rfl, trivial⟩ rfl rfl ?_ | refine ACall.chgR 1 [(0, _)] (one_e bs _ _ _ _ _ e9 hl (by assumption)) rfl ⟨rfl, trivial⟩ rfl rfl ?_ | refine ACall.chgR 1 [(0, _)] (wrd_e bs _ _ _ _ e10 hl (by assumption) g9) rfl ⟨rfl, trivial⟩ rfl rfl ?_ | refine ALoop.unr 7 6 rfl ?_ | refine ARet.hdI ?_ | refine Spl.mk (fun _ => ?_) (fun _ => ?_) | refine Wr.b64 ?_ | refine Wr.bu64 ?_ | refine Wr.bu32 ?_ | refine Wr.bu8 ?_ | refine Wr.u8 (by omega) (by omega) ?_ | refine Wr.u64 (by omega) (by omega) ?_ | refine Wr.u32 (by omega) (by omega) ?_ | refine Dv.pos (by omega) (by omega) ?_ | refine Rm.pos (by omega) (by omega) ?_ | refine ADraw.quiet follows_ok (by kernel_rfl) rfl ?_ | refine ADraw.sched (id := 19) lay_ok (awp_snd lay_ok _) [(0, none), (1, none), (2, none), (3, none), (4, none), (5, some []), (6, none), (7, none)] [(5, [])] follows_ok (by kernel_rfl) ?_ | refine ADraw.sched (id := 21) lay_ok (awp_snd lay_ok _) [(0, none), (1, none), (2, none), (3, none), (4, none), (5, some [0]), (6, none), (7, none)] [(5, [0]), (6, [0]), (7, [0])] follows_ok (by kernel_rfl) ?_ | refine BSpl.decY (by first | assumption | omega) ?_ | refine BSpl.decN (by first | assumption | omega) ?_ | refine BSpl.dec (fun _ => ?_) (fun _ => ?_) | refine BSpl.yes (by assumption) ?_ | refine BSpl.no (by assumption) ?_ | refine BSpl.mk (fun _ => ?_) (fun _ => ?_))
          all_goals (conv => whnf)
          all_goals first
            | exact AEqI.mk (AEq.refl _)
            | (exfalso; omega)
      · split
        · exact resR_le q10
        · exact resR_le q7
      · intro e m ht
        have hf := takeE_field ht
        obtain ⟨⟨k', w1⟩, a1⟩ : ∃ p, octS bs 1 5 (0, 0) = p := ⟨_, rfl⟩
        obtain ⟨⟨R', w2⟩, a2⟩ : ∃ p, octS bs 0 4 w1 = p := ⟨_, rfl⟩
        obtain ⟨⟨N', w3⟩, a3⟩ : ∃ p, numS bs 1 1048576 w2 = p := ⟨_, rfl⟩
        obtain ⟨⟨C', w4⟩, a4⟩ : ∃ p, clockS bs R' w3 = p := ⟨_, rfl⟩
        obtain ⟨⟨H', w5⟩, a5⟩ : ∃ p, numS bs 1 16777216 w4 = p := ⟨_, rfl⟩
        obtain ⟨⟨ks', w6⟩, a6⟩ : ∃ p, octS bs 1 8 w5 = p := ⟨_, rfl⟩
        obtain ⟨⟨key', w7⟩, a7⟩ : ∃ p, wordS bs ks' keyE w6 = p := ⟨_, rfl⟩
        obtain ⟨⟨l', w8⟩, a8⟩ : ∃ p, octS bs 0 1 w7 = p := ⟨_, rfl⟩
        obtain ⟨⟨vs', w9⟩, a9⟩ : ∃ p, octS bs 1 12 w8 = p := ⟨_, rfl⟩
        obtain ⟨⟨v', w10⟩, a10⟩ : ∃ p, wordS bs vs' valueE w9 = p := ⟨_, rfl⟩
        have hf2 : fieldS bs (0, 0) = if isLong k' then (⟨R', N', C'.put R' (N' - 1), H', k', key', l', v'⟩, w10) else (⟨R', N', C'.put R' (N' - 1), H', k', key', 0, ⟨#[]⟩⟩, w7) := by simp only [fieldS, a1, a2, a3, a4, a5, a6, a7, a8, a9, a10]
        rw [hf] at hf2
        have y7 : w7.2 = 0 := by
          split at hf2
          · have h10 : w10.2 = 0 := by rw [← (Prod.mk.inj hf2).2]
            exact octS_z a8 (octS_z a9 (wordS_z a10 h10))
          · rw [← (Prod.mk.inj hf2).2]
        have y6 := wordS_z a7 y7
        have y5 := octS_z a6 y6
        have y4 := numS_z a5 y5
        have y3 : w3.2 = 0 := clkAt_z (bs := bs) (r := R') 5 (by have h : (clockS bs R' w3).2.2 = 0 := by rw [a4]; exact y4
                                                                 exact h)
        have y2 := numS_z a3 y3
        have y1 := octS_z a2 y2
        rw [octR_of a1 y1] at e1
        obtain ⟨rfl, rfl⟩ := Prod.mk.inj e1
        rw [octR_of a2 y2] at e2
        obtain ⟨rfl, rfl⟩ := Prod.mk.inj e2
        exact absurd (octR_z (octR_of a2 y2) y2).2 hR

theorem refE_any (bs : List UInt8) (hl : bs.length ≤ 1000000000) : ∃ p, RefE bs p := by
  obtain ⟨⟨k, s1⟩, e1⟩ : ∃ p, octR bs 1 5 (0, 0) = p := ⟨_, rfl⟩
  have q0 : ((0, 0) : St).1 ≤ bs.length := Nat.zero_le _
  obtain ⟨q1, g1⟩ := octR_to e1 q0
  obtain ⟨⟨R, s2⟩, e2⟩ : ∃ p, octR bs 0 4 s1 = p := ⟨_, rfl⟩
  obtain ⟨q2, g2⟩ := octR_to e2 q1
  obtain ⟨⟨N, s3⟩, e3⟩ : ∃ p, numR bs 1 1048576 s2 = p := ⟨_, rfl⟩
  obtain ⟨q3, g3⟩ := numR_to e3 q2 (by omega) (by omega)
  by_cases hR : 0 ≤ R ∧ R ≤ 4
  · rcases (show R = 0 ∨ R = 1 ∨ R = 2 ∨ R = 3 ∨ R = 4 by omega) with h | h | h | h | h
    · exact refE_0 bs hl e1 g1 q0 q1 e2 g2 q2 e3 g3 q3 h
    · exact refE_1 bs hl e1 g1 q0 q1 e2 g2 q2 e3 g3 q3 h
    · exact refE_2 bs hl e1 g1 q0 q1 e2 g2 q2 e3 g3 q3 h
    · exact refE_3 bs hl e1 g1 q0 q1 e2 g2 q2 e3 g3 q3 h
    · exact refE_4 bs hl e1 g1 q0 q1 e2 g2 q2 e3 g3 q3 h
  · exact refE_x bs hl e1 g1 q0 q1 e2 g2 q2 e3 g3 q3 hR
end Go.Proofs.Ytbmojelnkldecaa
