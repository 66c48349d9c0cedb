/-
  Plain Lean: an event that is cut is too short.
-/
import Derived.Test.YtbmojelnkldecaaTkLawC
namespace Go.Proofs.Ytbmojelnkldecaa

theorem getD_take {l : List UInt8} {i j : Nat} (h : j < i) : (l.take i).getD j 0 = l.getD j 0 := by
  simp [List.getD_eq_getElem?_getD, h]

theorem octS_cut {bs : List UInt8} {lo hi c : Int} {s t : St} (h : octS bs lo hi s = (c, t)) (h0 : t.2 = 0) (i : Nat) (hu : s.1 ≤ i) : (octS (bs.take i) lo hi s = (c, t) ∧ t.1 ≤ i) ∨ (octS (bs.take i) lo hi s).2.2 = 2 := by
  have hz := octS_z h h0
  obtain ⟨u, x⟩ := s
  dsimp only at hz hu
  subst hz
  unfold octS at h ⊢
  rw [if_neg (by simp)] at h ⊢
  split at h
  · cases h; cases h0
  · rename_i h2
    dsimp only at h2
    rcases Nat.lt_or_ge u i with hi' | hi'
    · rw [if_neg (by rw [List.length_take]; dsimp only; omega), getD_take hi']
      left
      refine ⟨h, ?_⟩
      split at h
      · cases h; exact hi'
      · cases h; cases h0
    · rw [if_pos (by rw [List.length_take]; dsimp only; omega)]
      exact .inr rfl
theorem drop_take' (l : List UInt8) (u i : Nat) : (l.take i).drop u = (l.drop u).take (i - u) := List.drop_take ..
theorem numS_cut {bs : List UInt8} {lo hi c : Int} {s t : St} (h : numS bs lo hi s = (c, t)) (h0 : t.2 = 0) (hb : hi ≤ 4294967296) (i : Nat) (hu : s.1 ≤ i) : (numS (bs.take i) lo hi s = (c, t) ∧ t.1 ≤ i) ∨ (numS (bs.take i) lo hi s).2.2 = 2 := by
  have hz := numS_z h h0
  obtain ⟨u, x⟩ := s
  dsimp only at hz hu
  subst hz
  unfold numS at h ⊢
  rw [if_neg (by simp)] at h ⊢
  split at h
  · rename_i h1; cases h; exact absurd h0 h1
  · rename_i h1
    split at h
    · rename_i h3
      dsimp only at h h1 h3 ⊢
      have h1' : (vtake (bs.drop u)).2.2 = 0 := by simpa using h1
      obtain ⟨k1, k2, k3⟩ := vtake_ok (l := bs.drop u) (m := (vtake (bs.drop u)).1) (k := (vtake (bs.drop u)).2.1) (by rw [← h1'])
      rw [drop_take']
      rcases Nat.lt_or_ge (i - u) (vtake (bs.drop u)).2.1 with hlt | hge
      · have e : (bs.drop u).take (i - u) = (vput (vtake (bs.drop u)).1).take (i - u) := by
          rw [← k3, List.take_take, Nat.min_eq_left (by omega)]
        rw [e, vtake_cut (by omega)]
        exact .inr rfl
      · have e : (bs.drop u).take (i - u) = vput (vtake (bs.drop u)).1 ++ ((bs.drop u).take (i - u)).drop (vtake (bs.drop u)).2.1 := by
          have := List.take_append_drop (vtake (bs.drop u)).2.1 ((bs.drop u).take (i - u))
          rw [List.take_take, Nat.min_eq_left hge, k3] at this
          exact this.symm
        have hv : vtake ((bs.drop u).take (i - u)) = ((vtake (bs.drop u)).1, (vtake (bs.drop u)).2.1, 0) := by
          rw [e, vtake_put _ _ (by omega), ← k1]
        rw [hv]
        left
        cases h
        refine ⟨?_, by dsimp only; omega⟩
        rw [if_neg (by simp), if_pos h3]
    · cases h; cases h0
theorem wordS_cut {bs : List UInt8} {sz : Int} {may : ByteArray → Int} {c : ByteArray} {s t : St} (h : wordS bs sz may s = (c, t)) (h0 : t.2 = 0) (hz0 : 0 ≤ sz) (i : Nat) (hu : s.1 ≤ i) : (wordS (bs.take i) sz may s = (c, t) ∧ t.1 ≤ i) ∨ (wordS (bs.take i) sz may s).2.2 = 2 := by
  have hz := wordS_z h h0
  obtain ⟨u, x⟩ := s
  dsimp only at hz hu
  subst hz
  unfold wordS at h ⊢
  rw [if_neg (by simp)] at h ⊢
  split at h
  · cases h; cases h0
  · rename_i h2
    dsimp only at h h2 ⊢
    rcases Int.lt_or_le ((i : Int) - u) sz with hlt | hge
    · rw [if_pos (by rw [List.length_take]; omega)]
      exact .inr rfl
    · rw [if_neg (by rw [List.length_take]; omega)]
      have e : cutB (bs.take i) u sz.toNat = cutB bs u sz.toNat := by
        unfold cutB
        rw [drop_take', List.take_take, Nat.min_eq_left (by omega)]
      rw [e]
      left
      cases h
      exact ⟨rfl, by dsimp only; omega⟩
theorem octS_st {bs : List UInt8} {lo hi : Int} {s : St} (h : s.2 = 2) : octS bs lo hi s = (0, s) := by unfold octS; rw [if_pos (by rw [h]; decide)]
theorem numS_st {bs : List UInt8} {lo hi : Int} {s : St} (h : s.2 = 2) : numS bs lo hi s = (0, s) := by unfold numS; rw [if_pos (by rw [h]; decide)]
theorem wordS_st {bs : List UInt8} {sz : Int} {may : ByteArray → Int} {s : St} (h : s.2 = 2) : wordS bs sz may s = (⟨#[]⟩, s) := by unfold wordS; rw [if_pos (by rw [h]; decide)]

set_option maxHeartbeats 4000000 in
theorem field_cut (bs : List UInt8) {e : Ev} (h : fieldS bs (0, 0) = (e, (bs.length, 0))) (i : Nat) (hi : i < bs.length) : (fieldS (bs.take i) (0, 0)).2.2 = 2 := by
  obtain ⟨⟨k, s1⟩, e1⟩ : ∃ p, octS bs 1 5 (0, 0) = p := ⟨_, rfl⟩
  obtain ⟨⟨R, s2⟩, e2⟩ : ∃ p, octS bs 0 4 s1 = p := ⟨_, rfl⟩
  obtain ⟨⟨N, s3⟩, e3⟩ : ∃ p, numS bs 1 1048576 s2 = p := ⟨_, rfl⟩
  have hR0 := octS_range (bs := bs) (lo := 0) (hi := 4) (s := s1)
  rw [e2] at hR0
  rcases (show R = 0 ∨ R = 1 ∨ R = 2 ∨ R = 3 ∨ R = 4 by simp only at hR0; omega) with rfl | rfl | rfl | rfl | rfl
  · obtain ⟨⟨c1, t2⟩, f1⟩ : ∃ p, numS bs 0 1048576 s3 = p := ⟨_, rfl⟩
    obtain ⟨⟨c2, t3⟩, f2⟩ : ∃ p, numS bs 0 1048576 t2 = p := ⟨_, rfl⟩
    obtain ⟨⟨c3, t4⟩, f3⟩ : ∃ p, numS bs 0 1048576 t3 = p := ⟨_, rfl⟩
    obtain ⟨⟨c4, t5⟩, f4⟩ : ∃ p, numS bs 0 1048576 t4 = p := ⟨_, rfl⟩
    obtain ⟨⟨H, s5⟩, e5⟩ : ∃ p, numS bs 1 16777216 t5 = p := ⟨_, rfl⟩
    obtain ⟨⟨ks, s6⟩, e6⟩ : ∃ p, octS bs 1 8 s5 = p := ⟨_, rfl⟩
    obtain ⟨⟨key, s7⟩, e7⟩ : ∃ p, wordS bs ks keyE s6 = p := ⟨_, rfl⟩
    obtain ⟨⟨l, s8⟩, e8⟩ : ∃ p, octS bs 0 1 s7 = p := ⟨_, rfl⟩
    obtain ⟨⟨vs, s9⟩, e9⟩ : ∃ p, octS bs 1 12 s8 = p := ⟨_, rfl⟩
    obtain ⟨⟨v, s10⟩, e10⟩ : ∃ p, wordS bs vs valueE s9 = p := ⟨_, rfl⟩
    have hF : fieldS bs (0, 0) = if isLong k then (⟨0, N, ⟨N - 1, c1, c2, c3, c4⟩, H, k, key, l, v⟩, s10) else (⟨0, N, ⟨N - 1, c1, c2, c3, c4⟩, H, k, key, 0, ⟨#[]⟩⟩, s7) := by
      simp [fieldS, clockS, clkAt, skipS, Clk.setN, Clk.put, e1, e2, e3, f1, f2, f3, f4, e5, e6, e7, e8, e9, e10]
    rw [hF] at h
    cases hl : isLong k with
    | false =>
      rw [hl] at h
      simp only [Bool.false_eq_true, if_false, Prod.mk.injEq] at h
      obtain ⟨rfl, hs⟩ := h
      have y7 : s7.2 = 0 := by rw [hs]
      have hm : s7.1 = bs.length := by rw [hs]
      have y6 := (wordS_z e7 y7)
      have y5 := (octS_z e6 y6)
      have yp := (numS_z e5 y5)
      have yt4 := (numS_z f4 yp)
      have yt3 := (numS_z f3 yt4)
      have yt2 := (numS_z f2 yt3)
      have y3 := (numS_z f1 yt2)
      have y2 := (numS_z e3 y3)
      have y1 := (octS_z e2 y2)
      rcases octS_cut e1 y1 i (Nat.zero_le _) with ⟨qe1, u1⟩ | er
      rotate_left
      · simp [fieldS, clockS, clkAt, skipS, octS_st er, numS_st er, wordS_st er, er]
      rcases octS_cut e2 y2 i u1 with ⟨qe2, u2⟩ | er
      rotate_left
      · simp [fieldS, clockS, clkAt, skipS, qe1, octS_st er, numS_st er, wordS_st er, er, hl]
      rcases numS_cut e3 y3 (by omega) i u2 with ⟨qe3, u3⟩ | er
      rotate_left
      · simp [fieldS, clockS, clkAt, skipS, qe1, qe2, octS_st er, numS_st er, wordS_st er, er, hl]
      rcases numS_cut f1 yt2 (by omega) i u3 with ⟨qf1, v1⟩ | er
      rotate_left
      · simp [fieldS, clockS, clkAt, skipS, qe1, qe2, qe3, octS_st er, numS_st er, wordS_st er, er, hl]
      rcases numS_cut f2 yt3 (by omega) i v1 with ⟨qf2, v2⟩ | er
      rotate_left
      · simp [fieldS, clockS, clkAt, skipS, qe1, qe2, qe3, qf1, octS_st er, numS_st er, wordS_st er, er, hl]
      rcases numS_cut f3 yt4 (by omega) i v2 with ⟨qf3, v3⟩ | er
      rotate_left
      · simp [fieldS, clockS, clkAt, skipS, qe1, qe2, qe3, qf1, qf2, octS_st er, numS_st er, wordS_st er, er, hl]
      rcases numS_cut f4 yp (by omega) i v3 with ⟨qf4, v4⟩ | er
      rotate_left
      · simp [fieldS, clockS, clkAt, skipS, qe1, qe2, qe3, qf1, qf2, qf3, octS_st er, numS_st er, wordS_st er, er, hl]
      rcases numS_cut e5 y5 (by omega) i v4 with ⟨qe5, u5⟩ | er
      rotate_left
      · simp [fieldS, clockS, clkAt, skipS, qe1, qe2, qe3, qf1, qf2, qf3, qf4, octS_st er, wordS_st er, er, hl]
      rcases octS_cut e6 y6 i u5 with ⟨qe6, u6⟩ | er
      rotate_left
      · simp [fieldS, clockS, clkAt, skipS, qe1, qe2, qe3, qf1, qf2, qf3, qf4, qe5, wordS_st er, er, hl]
      rcases wordS_cut e7 y7 (octS_ok e6 y6).2.2.2.1 i u6 with ⟨qe7, u7⟩ | er
      rotate_left
      · simp [fieldS, clockS, clkAt, skipS, qe1, qe2, qe3, qf1, qf2, qf3, qf4, qe5, qe6, er, hl]
      · omega
    | true =>
      rw [hl] at h
      simp only [if_true, Prod.mk.injEq] at h
      obtain ⟨rfl, hs⟩ := h
      have y10 : s10.2 = 0 := by rw [hs]
      have hm : s10.1 = bs.length := by rw [hs]
      have y9 := (wordS_z e10 y10)
      have y8 := (octS_z e9 y9)
      have y7 := (octS_z e8 y8)
      have y6 := (wordS_z e7 y7)
      have y5 := (octS_z e6 y6)
      have yp := (numS_z e5 y5)
      have yt4 := (numS_z f4 yp)
      have yt3 := (numS_z f3 yt4)
      have yt2 := (numS_z f2 yt3)
      have y3 := (numS_z f1 yt2)
      have y2 := (numS_z e3 y3)
      have y1 := (octS_z e2 y2)
      rcases octS_cut e1 y1 i (Nat.zero_le _) with ⟨qe1, u1⟩ | er
      rotate_left
      · simp [fieldS, clockS, clkAt, skipS, octS_st er, numS_st er, wordS_st er, er]
      rcases octS_cut e2 y2 i u1 with ⟨qe2, u2⟩ | er
      rotate_left
      · simp [fieldS, clockS, clkAt, skipS, qe1, octS_st er, numS_st er, wordS_st er, er, hl]
      rcases numS_cut e3 y3 (by omega) i u2 with ⟨qe3, u3⟩ | er
      rotate_left
      · simp [fieldS, clockS, clkAt, skipS, qe1, qe2, octS_st er, numS_st er, wordS_st er, er, hl]
      rcases numS_cut f1 yt2 (by omega) i u3 with ⟨qf1, v1⟩ | er
      rotate_left
      · simp [fieldS, clockS, clkAt, skipS, qe1, qe2, qe3, octS_st er, numS_st er, wordS_st er, er, hl]
      rcases numS_cut f2 yt3 (by omega) i v1 with ⟨qf2, v2⟩ | er
      rotate_left
      · simp [fieldS, clockS, clkAt, skipS, qe1, qe2, qe3, qf1, octS_st er, numS_st er, wordS_st er, er, hl]
      rcases numS_cut f3 yt4 (by omega) i v2 with ⟨qf3, v3⟩ | er
      rotate_left
      · simp [fieldS, clockS, clkAt, skipS, qe1, qe2, qe3, qf1, qf2, octS_st er, numS_st er, wordS_st er, er, hl]
      rcases numS_cut f4 yp (by omega) i v3 with ⟨qf4, v4⟩ | er
      rotate_left
      · simp [fieldS, clockS, clkAt, skipS, qe1, qe2, qe3, qf1, qf2, qf3, octS_st er, numS_st er, wordS_st er, er, hl]
      rcases numS_cut e5 y5 (by omega) i v4 with ⟨qe5, u5⟩ | er
      rotate_left
      · simp [fieldS, clockS, clkAt, skipS, qe1, qe2, qe3, qf1, qf2, qf3, qf4, octS_st er, wordS_st er, er, hl]
      rcases octS_cut e6 y6 i u5 with ⟨qe6, u6⟩ | er
      rotate_left
      · simp [fieldS, clockS, clkAt, skipS, qe1, qe2, qe3, qf1, qf2, qf3, qf4, qe5, octS_st er, wordS_st er, er, hl]
      rcases wordS_cut e7 y7 (octS_ok e6 y6).2.2.2.1 i u6 with ⟨qe7, u7⟩ | er
      rotate_left
      · simp [fieldS, clockS, clkAt, skipS, qe1, qe2, qe3, qf1, qf2, qf3, qf4, qe5, qe6, octS_st er, wordS_st er, er, hl]
      rcases octS_cut e8 y8 i u7 with ⟨qe8, u8⟩ | er
      rotate_left
      · simp [fieldS, clockS, clkAt, skipS, qe1, qe2, qe3, qf1, qf2, qf3, qf4, qe5, qe6, qe7, octS_st er, wordS_st er, er, hl]
      rcases octS_cut e9 y9 i u8 with ⟨qe9, u9⟩ | er
      rotate_left
      · simp [fieldS, clockS, clkAt, skipS, qe1, qe2, qe3, qf1, qf2, qf3, qf4, qe5, qe6, qe7, qe8, wordS_st er, er, hl]
      rcases wordS_cut e10 y10 (octS_ok e9 y9).2.2.2.1 i u9 with ⟨qe10, u10⟩ | er
      rotate_left
      · simp [fieldS, clockS, clkAt, skipS, qe1, qe2, qe3, qf1, qf2, qf3, qf4, qe5, qe6, qe7, qe8, qe9, er, hl]
      · omega
  · obtain ⟨⟨c0, t1⟩, f0⟩ : ∃ p, numS bs 0 1048576 s3 = p := ⟨_, rfl⟩
    obtain ⟨⟨c2, t3⟩, f2⟩ : ∃ p, numS bs 0 1048576 t1 = p := ⟨_, rfl⟩
    obtain ⟨⟨c3, t4⟩, f3⟩ : ∃ p, numS bs 0 1048576 t3 = p := ⟨_, rfl⟩
    obtain ⟨⟨c4, t5⟩, f4⟩ : ∃ p, numS bs 0 1048576 t4 = p := ⟨_, rfl⟩
    obtain ⟨⟨H, s5⟩, e5⟩ : ∃ p, numS bs 1 16777216 t5 = p := ⟨_, rfl⟩
    obtain ⟨⟨ks, s6⟩, e6⟩ : ∃ p, octS bs 1 8 s5 = p := ⟨_, rfl⟩
    obtain ⟨⟨key, s7⟩, e7⟩ : ∃ p, wordS bs ks keyE s6 = p := ⟨_, rfl⟩
    obtain ⟨⟨l, s8⟩, e8⟩ : ∃ p, octS bs 0 1 s7 = p := ⟨_, rfl⟩
    obtain ⟨⟨vs, s9⟩, e9⟩ : ∃ p, octS bs 1 12 s8 = p := ⟨_, rfl⟩
    obtain ⟨⟨v, s10⟩, e10⟩ : ∃ p, wordS bs vs valueE s9 = p := ⟨_, rfl⟩
    have hF : fieldS bs (0, 0) = if isLong k then (⟨1, N, ⟨c0, N - 1, c2, c3, c4⟩, H, k, key, l, v⟩, s10) else (⟨1, N, ⟨c0, N - 1, c2, c3, c4⟩, H, k, key, 0, ⟨#[]⟩⟩, s7) := by
      simp [fieldS, clockS, clkAt, skipS, Clk.setN, Clk.put, e1, e2, e3, f0, f2, f3, f4, e5, e6, e7, e8, e9, e10]
    rw [hF] at h
    cases hl : isLong k with
    | false =>
      rw [hl] at h
      simp only [Bool.false_eq_true, if_false, Prod.mk.injEq] at h
      obtain ⟨rfl, hs⟩ := h
      have y7 : s7.2 = 0 := by rw [hs]
      have hm : s7.1 = bs.length := by rw [hs]
      have y6 := (wordS_z e7 y7)
      have y5 := (octS_z e6 y6)
      have yp := (numS_z e5 y5)
      have yt4 := (numS_z f4 yp)
      have yt3 := (numS_z f3 yt4)
      have yt2 := (numS_z f2 yt3)
      have y3 := (numS_z f0 yt2)
      have y2 := (numS_z e3 y3)
      have y1 := (octS_z e2 y2)
      rcases octS_cut e1 y1 i (Nat.zero_le _) with ⟨qe1, u1⟩ | er
      rotate_left
      · simp [fieldS, clockS, clkAt, skipS, octS_st er, numS_st er, wordS_st er, er]
      rcases octS_cut e2 y2 i u1 with ⟨qe2, u2⟩ | er
      rotate_left
      · simp [fieldS, clockS, clkAt, skipS, qe1, octS_st er, numS_st er, wordS_st er, er, hl]
      rcases numS_cut e3 y3 (by omega) i u2 with ⟨qe3, u3⟩ | er
      rotate_left
      · simp [fieldS, clockS, clkAt, skipS, qe1, qe2, octS_st er, numS_st er, wordS_st er, er, hl]
      rcases numS_cut f0 yt2 (by omega) i u3 with ⟨qf0, v0⟩ | er
      rotate_left
      · simp [fieldS, clockS, clkAt, skipS, qe1, qe2, qe3, octS_st er, numS_st er, wordS_st er, er, hl]
      rcases numS_cut f2 yt3 (by omega) i v0 with ⟨qf2, v2⟩ | er
      rotate_left
      · simp [fieldS, clockS, clkAt, skipS, qe1, qe2, qe3, qf0, octS_st er, numS_st er, wordS_st er, er, hl]
      rcases numS_cut f3 yt4 (by omega) i v2 with ⟨qf3, v3⟩ | er
      rotate_left
      · simp [fieldS, clockS, clkAt, skipS, qe1, qe2, qe3, qf0, qf2, octS_st er, numS_st er, wordS_st er, er, hl]
      rcases numS_cut f4 yp (by omega) i v3 with ⟨qf4, v4⟩ | er
      rotate_left
      · simp [fieldS, clockS, clkAt, skipS, qe1, qe2, qe3, qf0, qf2, qf3, octS_st er, numS_st er, wordS_st er, er, hl]
      rcases numS_cut e5 y5 (by omega) i v4 with ⟨qe5, u5⟩ | er
      rotate_left
      · simp [fieldS, clockS, clkAt, skipS, qe1, qe2, qe3, qf0, qf2, qf3, qf4, octS_st er, wordS_st er, er, hl]
      rcases octS_cut e6 y6 i u5 with ⟨qe6, u6⟩ | er
      rotate_left
      · simp [fieldS, clockS, clkAt, skipS, qe1, qe2, qe3, qf0, qf2, qf3, qf4, qe5, wordS_st er, er, hl]
      rcases wordS_cut e7 y7 (octS_ok e6 y6).2.2.2.1 i u6 with ⟨qe7, u7⟩ | er
      rotate_left
      · simp [fieldS, clockS, clkAt, skipS, qe1, qe2, qe3, qf0, qf2, qf3, qf4, qe5, qe6, er, hl]
      · omega
    | true =>
      rw [hl] at h
      simp only [if_true, Prod.mk.injEq] at h
      obtain ⟨rfl, hs⟩ := h
      have y10 : s10.2 = 0 := by rw [hs]
      have hm : s10.1 = bs.length := by rw [hs]
      have y9 := (wordS_z e10 y10)
      have y8 := (octS_z e9 y9)
      have y7 := (octS_z e8 y8)
      have y6 := (wordS_z e7 y7)
      have y5 := (octS_z e6 y6)
      have yp := (numS_z e5 y5)
      have yt4 := (numS_z f4 yp)
      have yt3 := (numS_z f3 yt4)
      have yt2 := (numS_z f2 yt3)
      have y3 := (numS_z f0 yt2)
      have y2 := (numS_z e3 y3)
      have y1 := (octS_z e2 y2)
      rcases octS_cut e1 y1 i (Nat.zero_le _) with ⟨qe1, u1⟩ | er
      rotate_left
      · simp [fieldS, clockS, clkAt, skipS, octS_st er, numS_st er, wordS_st er, er]
      rcases octS_cut e2 y2 i u1 with ⟨qe2, u2⟩ | er
      rotate_left
      · simp [fieldS, clockS, clkAt, skipS, qe1, octS_st er, numS_st er, wordS_st er, er, hl]
      rcases numS_cut e3 y3 (by omega) i u2 with ⟨qe3, u3⟩ | er
      rotate_left
      · simp [fieldS, clockS, clkAt, skipS, qe1, qe2, octS_st er, numS_st er, wordS_st er, er, hl]
      rcases numS_cut f0 yt2 (by omega) i u3 with ⟨qf0, v0⟩ | er
      rotate_left
      · simp [fieldS, clockS, clkAt, skipS, qe1, qe2, qe3, octS_st er, numS_st er, wordS_st er, er, hl]
      rcases numS_cut f2 yt3 (by omega) i v0 with ⟨qf2, v2⟩ | er
      rotate_left
      · simp [fieldS, clockS, clkAt, skipS, qe1, qe2, qe3, qf0, octS_st er, numS_st er, wordS_st er, er, hl]
      rcases numS_cut f3 yt4 (by omega) i v2 with ⟨qf3, v3⟩ | er
      rotate_left
      · simp [fieldS, clockS, clkAt, skipS, qe1, qe2, qe3, qf0, qf2, octS_st er, numS_st er, wordS_st er, er, hl]
      rcases numS_cut f4 yp (by omega) i v3 with ⟨qf4, v4⟩ | er
      rotate_left
      · simp [fieldS, clockS, clkAt, skipS, qe1, qe2, qe3, qf0, qf2, qf3, octS_st er, numS_st er, wordS_st er, er, hl]
      rcases numS_cut e5 y5 (by omega) i v4 with ⟨qe5, u5⟩ | er
      rotate_left
      · simp [fieldS, clockS, clkAt, skipS, qe1, qe2, qe3, qf0, qf2, qf3, qf4, octS_st er, wordS_st er, er, hl]
      rcases octS_cut e6 y6 i u5 with ⟨qe6, u6⟩ | er
      rotate_left
      · simp [fieldS, clockS, clkAt, skipS, qe1, qe2, qe3, qf0, qf2, qf3, qf4, qe5, octS_st er, wordS_st er, er, hl]
      rcases wordS_cut e7 y7 (octS_ok e6 y6).2.2.2.1 i u6 with ⟨qe7, u7⟩ | er
      rotate_left
      · simp [fieldS, clockS, clkAt, skipS, qe1, qe2, qe3, qf0, qf2, qf3, qf4, qe5, qe6, octS_st er, wordS_st er, er, hl]
      rcases octS_cut e8 y8 i u7 with ⟨qe8, u8⟩ | er
      rotate_left
      · simp [fieldS, clockS, clkAt, skipS, qe1, qe2, qe3, qf0, qf2, qf3, qf4, qe5, qe6, qe7, octS_st er, wordS_st er, er, hl]
      rcases octS_cut e9 y9 i u8 with ⟨qe9, u9⟩ | er
      rotate_left
      · simp [fieldS, clockS, clkAt, skipS, qe1, qe2, qe3, qf0, qf2, qf3, qf4, qe5, qe6, qe7, qe8, wordS_st er, er, hl]
      rcases wordS_cut e10 y10 (octS_ok e9 y9).2.2.2.1 i u9 with ⟨qe10, u10⟩ | er
      rotate_left
      · simp [fieldS, clockS, clkAt, skipS, qe1, qe2, qe3, qf0, qf2, qf3, qf4, qe5, qe6, qe7, qe8, qe9, er, hl]
      · omega
  · obtain ⟨⟨c0, t1⟩, f0⟩ : ∃ p, numS bs 0 1048576 s3 = p := ⟨_, rfl⟩
    obtain ⟨⟨c1, t2⟩, f1⟩ : ∃ p, numS bs 0 1048576 t1 = p := ⟨_, rfl⟩
    obtain ⟨⟨c3, t4⟩, f3⟩ : ∃ p, numS bs 0 1048576 t2 = p := ⟨_, rfl⟩
    obtain ⟨⟨c4, t5⟩, f4⟩ : ∃ p, numS bs 0 1048576 t4 = p := ⟨_, rfl⟩
    obtain ⟨⟨H, s5⟩, e5⟩ : ∃ p, numS bs 1 16777216 t5 = p := ⟨_, rfl⟩
    obtain ⟨⟨ks, s6⟩, e6⟩ : ∃ p, octS bs 1 8 s5 = p := ⟨_, rfl⟩
    obtain ⟨⟨key, s7⟩, e7⟩ : ∃ p, wordS bs ks keyE s6 = p := ⟨_, rfl⟩
    obtain ⟨⟨l, s8⟩, e8⟩ : ∃ p, octS bs 0 1 s7 = p := ⟨_, rfl⟩
    obtain ⟨⟨vs, s9⟩, e9⟩ : ∃ p, octS bs 1 12 s8 = p := ⟨_, rfl⟩
    obtain ⟨⟨v, s10⟩, e10⟩ : ∃ p, wordS bs vs valueE s9 = p := ⟨_, rfl⟩
    have hF : fieldS bs (0, 0) = if isLong k then (⟨2, N, ⟨c0, c1, N - 1, c3, c4⟩, H, k, key, l, v⟩, s10) else (⟨2, N, ⟨c0, c1, N - 1, c3, c4⟩, H, k, key, 0, ⟨#[]⟩⟩, s7) := by
      simp [fieldS, clockS, clkAt, skipS, Clk.setN, Clk.put, e1, e2, e3, f0, f1, f3, f4, e5, e6, e7, e8, e9, e10]
    rw [hF] at h
    cases hl : isLong k with
    | false =>
      rw [hl] at h
      simp only [Bool.false_eq_true, if_false, Prod.mk.injEq] at h
      obtain ⟨rfl, hs⟩ := h
      have y7 : s7.2 = 0 := by rw [hs]
      have hm : s7.1 = bs.length := by rw [hs]
      have y6 := (wordS_z e7 y7)
      have y5 := (octS_z e6 y6)
      have yp := (numS_z e5 y5)
      have yt4 := (numS_z f4 yp)
      have yt3 := (numS_z f3 yt4)
      have yt1 := (numS_z f1 yt3)
      have y3 := (numS_z f0 yt1)
      have y2 := (numS_z e3 y3)
      have y1 := (octS_z e2 y2)
      rcases octS_cut e1 y1 i (Nat.zero_le _) with ⟨qe1, u1⟩ | er
      rotate_left
      · simp [fieldS, clockS, clkAt, skipS, octS_st er, numS_st er, wordS_st er, er]
      rcases octS_cut e2 y2 i u1 with ⟨qe2, u2⟩ | er
      rotate_left
      · simp [fieldS, clockS, clkAt, skipS, qe1, octS_st er, numS_st er, wordS_st er, er, hl]
      rcases numS_cut e3 y3 (by omega) i u2 with ⟨qe3, u3⟩ | er
      rotate_left
      · simp [fieldS, clockS, clkAt, skipS, qe1, qe2, octS_st er, numS_st er, wordS_st er, er, hl]
      rcases numS_cut f0 yt1 (by omega) i u3 with ⟨qf0, v0⟩ | er
      rotate_left
      · simp [fieldS, clockS, clkAt, skipS, qe1, qe2, qe3, octS_st er, numS_st er, wordS_st er, er, hl]
      rcases numS_cut f1 yt3 (by omega) i v0 with ⟨qf1, v1⟩ | er
      rotate_left
      · simp [fieldS, clockS, clkAt, skipS, qe1, qe2, qe3, qf0, octS_st er, numS_st er, wordS_st er, er, hl]
      rcases numS_cut f3 yt4 (by omega) i v1 with ⟨qf3, v3⟩ | er
      rotate_left
      · simp [fieldS, clockS, clkAt, skipS, qe1, qe2, qe3, qf0, qf1, octS_st er, numS_st er, wordS_st er, er, hl]
      rcases numS_cut f4 yp (by omega) i v3 with ⟨qf4, v4⟩ | er
      rotate_left
      · simp [fieldS, clockS, clkAt, skipS, qe1, qe2, qe3, qf0, qf1, qf3, octS_st er, numS_st er, wordS_st er, er, hl]
      rcases numS_cut e5 y5 (by omega) i v4 with ⟨qe5, u5⟩ | er
      rotate_left
      · simp [fieldS, clockS, clkAt, skipS, qe1, qe2, qe3, qf0, qf1, qf3, qf4, octS_st er, wordS_st er, er, hl]
      rcases octS_cut e6 y6 i u5 with ⟨qe6, u6⟩ | er
      rotate_left
      · simp [fieldS, clockS, clkAt, skipS, qe1, qe2, qe3, qf0, qf1, qf3, qf4, qe5, wordS_st er, er, hl]
      rcases wordS_cut e7 y7 (octS_ok e6 y6).2.2.2.1 i u6 with ⟨qe7, u7⟩ | er
      rotate_left
      · simp [fieldS, clockS, clkAt, skipS, qe1, qe2, qe3, qf0, qf1, qf3, qf4, qe5, qe6, er, hl]
      · omega
    | true =>
      rw [hl] at h
      simp only [if_true, Prod.mk.injEq] at h
      obtain ⟨rfl, hs⟩ := h
      have y10 : s10.2 = 0 := by rw [hs]
      have hm : s10.1 = bs.length := by rw [hs]
      have y9 := (wordS_z e10 y10)
      have y8 := (octS_z e9 y9)
      have y7 := (octS_z e8 y8)
      have y6 := (wordS_z e7 y7)
      have y5 := (octS_z e6 y6)
      have yp := (numS_z e5 y5)
      have yt4 := (numS_z f4 yp)
      have yt3 := (numS_z f3 yt4)
      have yt1 := (numS_z f1 yt3)
      have y3 := (numS_z f0 yt1)
      have y2 := (numS_z e3 y3)
      have y1 := (octS_z e2 y2)
      rcases octS_cut e1 y1 i (Nat.zero_le _) with ⟨qe1, u1⟩ | er
      rotate_left
      · simp [fieldS, clockS, clkAt, skipS, octS_st er, numS_st er, wordS_st er, er]
      rcases octS_cut e2 y2 i u1 with ⟨qe2, u2⟩ | er
      rotate_left
      · simp [fieldS, clockS, clkAt, skipS, qe1, octS_st er, numS_st er, wordS_st er, er, hl]
      rcases numS_cut e3 y3 (by omega) i u2 with ⟨qe3, u3⟩ | er
      rotate_left
      · simp [fieldS, clockS, clkAt, skipS, qe1, qe2, octS_st er, numS_st er, wordS_st er, er, hl]
      rcases numS_cut f0 yt1 (by omega) i u3 with ⟨qf0, v0⟩ | er
      rotate_left
      · simp [fieldS, clockS, clkAt, skipS, qe1, qe2, qe3, octS_st er, numS_st er, wordS_st er, er, hl]
      rcases numS_cut f1 yt3 (by omega) i v0 with ⟨qf1, v1⟩ | er
      rotate_left
      · simp [fieldS, clockS, clkAt, skipS, qe1, qe2, qe3, qf0, octS_st er, numS_st er, wordS_st er, er, hl]
      rcases numS_cut f3 yt4 (by omega) i v1 with ⟨qf3, v3⟩ | er
      rotate_left
      · simp [fieldS, clockS, clkAt, skipS, qe1, qe2, qe3, qf0, qf1, octS_st er, numS_st er, wordS_st er, er, hl]
      rcases numS_cut f4 yp (by omega) i v3 with ⟨qf4, v4⟩ | er
      rotate_left
      · simp [fieldS, clockS, clkAt, skipS, qe1, qe2, qe3, qf0, qf1, qf3, octS_st er, numS_st er, wordS_st er, er, hl]
      rcases numS_cut e5 y5 (by omega) i v4 with ⟨qe5, u5⟩ | er
      rotate_left
      · simp [fieldS, clockS, clkAt, skipS, qe1, qe2, qe3, qf0, qf1, qf3, qf4, octS_st er, wordS_st er, er, hl]
      rcases octS_cut e6 y6 i u5 with ⟨qe6, u6⟩ | er
      rotate_left
      · simp [fieldS, clockS, clkAt, skipS, qe1, qe2, qe3, qf0, qf1, qf3, qf4, qe5, octS_st er, wordS_st er, er, hl]
      rcases wordS_cut e7 y7 (octS_ok e6 y6).2.2.2.1 i u6 with ⟨qe7, u7⟩ | er
      rotate_left
      · simp [fieldS, clockS, clkAt, skipS, qe1, qe2, qe3, qf0, qf1, qf3, qf4, qe5, qe6, octS_st er, wordS_st er, er, hl]
      rcases octS_cut e8 y8 i u7 with ⟨qe8, u8⟩ | er
      rotate_left
      · simp [fieldS, clockS, clkAt, skipS, qe1, qe2, qe3, qf0, qf1, qf3, qf4, qe5, qe6, qe7, octS_st er, wordS_st er, er, hl]
      rcases octS_cut e9 y9 i u8 with ⟨qe9, u9⟩ | er
      rotate_left
      · simp [fieldS, clockS, clkAt, skipS, qe1, qe2, qe3, qf0, qf1, qf3, qf4, qe5, qe6, qe7, qe8, wordS_st er, er, hl]
      rcases wordS_cut e10 y10 (octS_ok e9 y9).2.2.2.1 i u9 with ⟨qe10, u10⟩ | er
      rotate_left
      · simp [fieldS, clockS, clkAt, skipS, qe1, qe2, qe3, qf0, qf1, qf3, qf4, qe5, qe6, qe7, qe8, qe9, er, hl]
      · omega
  · obtain ⟨⟨c0, t1⟩, f0⟩ : ∃ p, numS bs 0 1048576 s3 = p := ⟨_, rfl⟩
    obtain ⟨⟨c1, t2⟩, f1⟩ : ∃ p, numS bs 0 1048576 t1 = p := ⟨_, rfl⟩
    obtain ⟨⟨c2, t3⟩, f2⟩ : ∃ p, numS bs 0 1048576 t2 = p := ⟨_, rfl⟩
    obtain ⟨⟨c4, t5⟩, f4⟩ : ∃ p, numS bs 0 1048576 t3 = p := ⟨_, rfl⟩
    obtain ⟨⟨H, s5⟩, e5⟩ : ∃ p, numS bs 1 16777216 t5 = p := ⟨_, rfl⟩
    obtain ⟨⟨ks, s6⟩, e6⟩ : ∃ p, octS bs 1 8 s5 = p := ⟨_, rfl⟩
    obtain ⟨⟨key, s7⟩, e7⟩ : ∃ p, wordS bs ks keyE s6 = p := ⟨_, rfl⟩
    obtain ⟨⟨l, s8⟩, e8⟩ : ∃ p, octS bs 0 1 s7 = p := ⟨_, rfl⟩
    obtain ⟨⟨vs, s9⟩, e9⟩ : ∃ p, octS bs 1 12 s8 = p := ⟨_, rfl⟩
    obtain ⟨⟨v, s10⟩, e10⟩ : ∃ p, wordS bs vs valueE s9 = p := ⟨_, rfl⟩
    have hF : fieldS bs (0, 0) = if isLong k then (⟨3, N, ⟨c0, c1, c2, N - 1, c4⟩, H, k, key, l, v⟩, s10) else (⟨3, N, ⟨c0, c1, c2, N - 1, c4⟩, H, k, key, 0, ⟨#[]⟩⟩, s7) := by
      simp [fieldS, clockS, clkAt, skipS, Clk.setN, Clk.put, e1, e2, e3, f0, f1, f2, f4, e5, e6, e7, e8, e9, e10]
    rw [hF] at h
    cases hl : isLong k with
    | false =>
      rw [hl] at h
      simp only [Bool.false_eq_true, if_false, Prod.mk.injEq] at h
      obtain ⟨rfl, hs⟩ := h
      have y7 : s7.2 = 0 := by rw [hs]
      have hm : s7.1 = bs.length := by rw [hs]
      have y6 := (wordS_z e7 y7)
      have y5 := (octS_z e6 y6)
      have yp := (numS_z e5 y5)
      have yt4 := (numS_z f4 yp)
      have yt2 := (numS_z f2 yt4)
      have yt1 := (numS_z f1 yt2)
      have y3 := (numS_z f0 yt1)
      have y2 := (numS_z e3 y3)
      have y1 := (octS_z e2 y2)
      rcases octS_cut e1 y1 i (Nat.zero_le _) with ⟨qe1, u1⟩ | er
      rotate_left
      · simp [fieldS, clockS, clkAt, skipS, octS_st er, numS_st er, wordS_st er, er]
      rcases octS_cut e2 y2 i u1 with ⟨qe2, u2⟩ | er
      rotate_left
      · simp [fieldS, clockS, clkAt, skipS, qe1, octS_st er, numS_st er, wordS_st er, er, hl]
      rcases numS_cut e3 y3 (by omega) i u2 with ⟨qe3, u3⟩ | er
      rotate_left
      · simp [fieldS, clockS, clkAt, skipS, qe1, qe2, octS_st er, numS_st er, wordS_st er, er, hl]
      rcases numS_cut f0 yt1 (by omega) i u3 with ⟨qf0, v0⟩ | er
      rotate_left
      · simp [fieldS, clockS, clkAt, skipS, qe1, qe2, qe3, octS_st er, numS_st er, wordS_st er, er, hl]
      rcases numS_cut f1 yt2 (by omega) i v0 with ⟨qf1, v1⟩ | er
      rotate_left
      · simp [fieldS, clockS, clkAt, skipS, qe1, qe2, qe3, qf0, octS_st er, numS_st er, wordS_st er, er, hl]
      rcases numS_cut f2 yt4 (by omega) i v1 with ⟨qf2, v2⟩ | er
      rotate_left
      · simp [fieldS, clockS, clkAt, skipS, qe1, qe2, qe3, qf0, qf1, octS_st er, numS_st er, wordS_st er, er, hl]
      rcases numS_cut f4 yp (by omega) i v2 with ⟨qf4, v4⟩ | er
      rotate_left
      · simp [fieldS, clockS, clkAt, skipS, qe1, qe2, qe3, qf0, qf1, qf2, octS_st er, numS_st er, wordS_st er, er, hl]
      rcases numS_cut e5 y5 (by omega) i v4 with ⟨qe5, u5⟩ | er
      rotate_left
      · simp [fieldS, clockS, clkAt, skipS, qe1, qe2, qe3, qf0, qf1, qf2, qf4, octS_st er, wordS_st er, er, hl]
      rcases octS_cut e6 y6 i u5 with ⟨qe6, u6⟩ | er
      rotate_left
      · simp [fieldS, clockS, clkAt, skipS, qe1, qe2, qe3, qf0, qf1, qf2, qf4, qe5, wordS_st er, er, hl]
      rcases wordS_cut e7 y7 (octS_ok e6 y6).2.2.2.1 i u6 with ⟨qe7, u7⟩ | er
      rotate_left
      · simp [fieldS, clockS, clkAt, skipS, qe1, qe2, qe3, qf0, qf1, qf2, qf4, qe5, qe6, er, hl]
      · omega
    | true =>
      rw [hl] at h
      simp only [if_true, Prod.mk.injEq] at h
      obtain ⟨rfl, hs⟩ := h
      have y10 : s10.2 = 0 := by rw [hs]
      have hm : s10.1 = bs.length := by rw [hs]
      have y9 := (wordS_z e10 y10)
      have y8 := (octS_z e9 y9)
      have y7 := (octS_z e8 y8)
      have y6 := (wordS_z e7 y7)
      have y5 := (octS_z e6 y6)
      have yp := (numS_z e5 y5)
      have yt4 := (numS_z f4 yp)
      have yt2 := (numS_z f2 yt4)
      have yt1 := (numS_z f1 yt2)
      have y3 := (numS_z f0 yt1)
      have y2 := (numS_z e3 y3)
      have y1 := (octS_z e2 y2)
      rcases octS_cut e1 y1 i (Nat.zero_le _) with ⟨qe1, u1⟩ | er
      rotate_left
      · simp [fieldS, clockS, clkAt, skipS, octS_st er, numS_st er, wordS_st er, er]
      rcases octS_cut e2 y2 i u1 with ⟨qe2, u2⟩ | er
      rotate_left
      · simp [fieldS, clockS, clkAt, skipS, qe1, octS_st er, numS_st er, wordS_st er, er, hl]
      rcases numS_cut e3 y3 (by omega) i u2 with ⟨qe3, u3⟩ | er
      rotate_left
      · simp [fieldS, clockS, clkAt, skipS, qe1, qe2, octS_st er, numS_st er, wordS_st er, er, hl]
      rcases numS_cut f0 yt1 (by omega) i u3 with ⟨qf0, v0⟩ | er
      rotate_left
      · simp [fieldS, clockS, clkAt, skipS, qe1, qe2, qe3, octS_st er, numS_st er, wordS_st er, er, hl]
      rcases numS_cut f1 yt2 (by omega) i v0 with ⟨qf1, v1⟩ | er
      rotate_left
      · simp [fieldS, clockS, clkAt, skipS, qe1, qe2, qe3, qf0, octS_st er, numS_st er, wordS_st er, er, hl]
      rcases numS_cut f2 yt4 (by omega) i v1 with ⟨qf2, v2⟩ | er
      rotate_left
      · simp [fieldS, clockS, clkAt, skipS, qe1, qe2, qe3, qf0, qf1, octS_st er, numS_st er, wordS_st er, er, hl]
      rcases numS_cut f4 yp (by omega) i v2 with ⟨qf4, v4⟩ | er
      rotate_left
      · simp [fieldS, clockS, clkAt, skipS, qe1, qe2, qe3, qf0, qf1, qf2, octS_st er, numS_st er, wordS_st er, er, hl]
      rcases numS_cut e5 y5 (by omega) i v4 with ⟨qe5, u5⟩ | er
      rotate_left
      · simp [fieldS, clockS, clkAt, skipS, qe1, qe2, qe3, qf0, qf1, qf2, qf4, octS_st er, wordS_st er, er, hl]
      rcases octS_cut e6 y6 i u5 with ⟨qe6, u6⟩ | er
      rotate_left
      · simp [fieldS, clockS, clkAt, skipS, qe1, qe2, qe3, qf0, qf1, qf2, qf4, qe5, octS_st er, wordS_st er, er, hl]
      rcases wordS_cut e7 y7 (octS_ok e6 y6).2.2.2.1 i u6 with ⟨qe7, u7⟩ | er
      rotate_left
      · simp [fieldS, clockS, clkAt, skipS, qe1, qe2, qe3, qf0, qf1, qf2, qf4, qe5, qe6, octS_st er, wordS_st er, er, hl]
      rcases octS_cut e8 y8 i u7 with ⟨qe8, u8⟩ | er
      rotate_left
      · simp [fieldS, clockS, clkAt, skipS, qe1, qe2, qe3, qf0, qf1, qf2, qf4, qe5, qe6, qe7, octS_st er, wordS_st er, er, hl]
      rcases octS_cut e9 y9 i u8 with ⟨qe9, u9⟩ | er
      rotate_left
      · simp [fieldS, clockS, clkAt, skipS, qe1, qe2, qe3, qf0, qf1, qf2, qf4, qe5, qe6, qe7, qe8, wordS_st er, er, hl]
      rcases wordS_cut e10 y10 (octS_ok e9 y9).2.2.2.1 i u9 with ⟨qe10, u10⟩ | er
      rotate_left
      · simp [fieldS, clockS, clkAt, skipS, qe1, qe2, qe3, qf0, qf1, qf2, qf4, qe5, qe6, qe7, qe8, qe9, er, hl]
      · omega
  · obtain ⟨⟨c0, t1⟩, f0⟩ : ∃ p, numS bs 0 1048576 s3 = p := ⟨_, rfl⟩
    obtain ⟨⟨c1, t2⟩, f1⟩ : ∃ p, numS bs 0 1048576 t1 = p := ⟨_, rfl⟩
    obtain ⟨⟨c2, t3⟩, f2⟩ : ∃ p, numS bs 0 1048576 t2 = p := ⟨_, rfl⟩
    obtain ⟨⟨c3, t4⟩, f3⟩ : ∃ p, numS bs 0 1048576 t3 = p := ⟨_, rfl⟩
    obtain ⟨⟨H, s5⟩, e5⟩ : ∃ p, numS bs 1 16777216 t4 = p := ⟨_, rfl⟩
    obtain ⟨⟨ks, s6⟩, e6⟩ : ∃ p, octS bs 1 8 s5 = p := ⟨_, rfl⟩
    obtain ⟨⟨key, s7⟩, e7⟩ : ∃ p, wordS bs ks keyE s6 = p := ⟨_, rfl⟩
    obtain ⟨⟨l, s8⟩, e8⟩ : ∃ p, octS bs 0 1 s7 = p := ⟨_, rfl⟩
    obtain ⟨⟨vs, s9⟩, e9⟩ : ∃ p, octS bs 1 12 s8 = p := ⟨_, rfl⟩
    obtain ⟨⟨v, s10⟩, e10⟩ : ∃ p, wordS bs vs valueE s9 = p := ⟨_, rfl⟩
    have hF : fieldS bs (0, 0) = if isLong k then (⟨4, N, ⟨c0, c1, c2, c3, N - 1⟩, H, k, key, l, v⟩, s10) else (⟨4, N, ⟨c0, c1, c2, c3, N - 1⟩, H, k, key, 0, ⟨#[]⟩⟩, s7) := by
      simp [fieldS, clockS, clkAt, skipS, Clk.setN, Clk.put, e1, e2, e3, f0, f1, f2, f3, e5, e6, e7, e8, e9, e10]
    rw [hF] at h
    cases hl : isLong k with
    | false =>
      rw [hl] at h
      simp only [Bool.false_eq_true, if_false, Prod.mk.injEq] at h
      obtain ⟨rfl, hs⟩ := h
      have y7 : s7.2 = 0 := by rw [hs]
      have hm : s7.1 = bs.length := by rw [hs]
      have y6 := (wordS_z e7 y7)
      have y5 := (octS_z e6 y6)
      have yp := (numS_z e5 y5)
      have yt3 := (numS_z f3 yp)
      have yt2 := (numS_z f2 yt3)
      have yt1 := (numS_z f1 yt2)
      have y3 := (numS_z f0 yt1)
      have y2 := (numS_z e3 y3)
      have y1 := (octS_z e2 y2)
      rcases octS_cut e1 y1 i (Nat.zero_le _) with ⟨qe1, u1⟩ | er
      rotate_left
      · simp [fieldS, clockS, clkAt, skipS, octS_st er, numS_st er, wordS_st er, er]
      rcases octS_cut e2 y2 i u1 with ⟨qe2, u2⟩ | er
      rotate_left
      · simp [fieldS, clockS, clkAt, skipS, qe1, octS_st er, numS_st er, wordS_st er, er, hl]
      rcases numS_cut e3 y3 (by omega) i u2 with ⟨qe3, u3⟩ | er
      rotate_left
      · simp [fieldS, clockS, clkAt, skipS, qe1, qe2, octS_st er, numS_st er, wordS_st er, er, hl]
      rcases numS_cut f0 yt1 (by omega) i u3 with ⟨qf0, v0⟩ | er
      rotate_left
      · simp [fieldS, clockS, clkAt, skipS, qe1, qe2, qe3, octS_st er, numS_st er, wordS_st er, er, hl]
      rcases numS_cut f1 yt2 (by omega) i v0 with ⟨qf1, v1⟩ | er
      rotate_left
      · simp [fieldS, clockS, clkAt, skipS, qe1, qe2, qe3, qf0, octS_st er, numS_st er, wordS_st er, er, hl]
      rcases numS_cut f2 yt3 (by omega) i v1 with ⟨qf2, v2⟩ | er
      rotate_left
      · simp [fieldS, clockS, clkAt, skipS, qe1, qe2, qe3, qf0, qf1, octS_st er, numS_st er, wordS_st er, er, hl]
      rcases numS_cut f3 yp (by omega) i v2 with ⟨qf3, v3⟩ | er
      rotate_left
      · simp [fieldS, clockS, clkAt, skipS, qe1, qe2, qe3, qf0, qf1, qf2, octS_st er, numS_st er, wordS_st er, er, hl]
      rcases numS_cut e5 y5 (by omega) i v3 with ⟨qe5, u5⟩ | er
      rotate_left
      · simp [fieldS, clockS, clkAt, skipS, qe1, qe2, qe3, qf0, qf1, qf2, qf3, octS_st er, wordS_st er, er, hl]
      rcases octS_cut e6 y6 i u5 with ⟨qe6, u6⟩ | er
      rotate_left
      · simp [fieldS, clockS, clkAt, skipS, qe1, qe2, qe3, qf0, qf1, qf2, qf3, qe5, wordS_st er, er, hl]
      rcases wordS_cut e7 y7 (octS_ok e6 y6).2.2.2.1 i u6 with ⟨qe7, u7⟩ | er
      rotate_left
      · simp [fieldS, clockS, clkAt, skipS, qe1, qe2, qe3, qf0, qf1, qf2, qf3, qe5, qe6, er, hl]
      · omega
    | true =>
      rw [hl] at h
      simp only [if_true, Prod.mk.injEq] at h
      obtain ⟨rfl, hs⟩ := h
      have y10 : s10.2 = 0 := by rw [hs]
      have hm : s10.1 = bs.length := by rw [hs]
      have y9 := (wordS_z e10 y10)
      have y8 := (octS_z e9 y9)
      have y7 := (octS_z e8 y8)
      have y6 := (wordS_z e7 y7)
      have y5 := (octS_z e6 y6)
      have yp := (numS_z e5 y5)
      have yt3 := (numS_z f3 yp)
      have yt2 := (numS_z f2 yt3)
      have yt1 := (numS_z f1 yt2)
      have y3 := (numS_z f0 yt1)
      have y2 := (numS_z e3 y3)
      have y1 := (octS_z e2 y2)
      rcases octS_cut e1 y1 i (Nat.zero_le _) with ⟨qe1, u1⟩ | er
      rotate_left
      · simp [fieldS, clockS, clkAt, skipS, octS_st er, numS_st er, wordS_st er, er]
      rcases octS_cut e2 y2 i u1 with ⟨qe2, u2⟩ | er
      rotate_left
      · simp [fieldS, clockS, clkAt, skipS, qe1, octS_st er, numS_st er, wordS_st er, er, hl]
      rcases numS_cut e3 y3 (by omega) i u2 with ⟨qe3, u3⟩ | er
      rotate_left
      · simp [fieldS, clockS, clkAt, skipS, qe1, qe2, octS_st er, numS_st er, wordS_st er, er, hl]
      rcases numS_cut f0 yt1 (by omega) i u3 with ⟨qf0, v0⟩ | er
      rotate_left
      · simp [fieldS, clockS, clkAt, skipS, qe1, qe2, qe3, octS_st er, numS_st er, wordS_st er, er, hl]
      rcases numS_cut f1 yt2 (by omega) i v0 with ⟨qf1, v1⟩ | er
      rotate_left
      · simp [fieldS, clockS, clkAt, skipS, qe1, qe2, qe3, qf0, octS_st er, numS_st er, wordS_st er, er, hl]
      rcases numS_cut f2 yt3 (by omega) i v1 with ⟨qf2, v2⟩ | er
      rotate_left
      · simp [fieldS, clockS, clkAt, skipS, qe1, qe2, qe3, qf0, qf1, octS_st er, numS_st er, wordS_st er, er, hl]
      rcases numS_cut f3 yp (by omega) i v2 with ⟨qf3, v3⟩ | er
      rotate_left
      · simp [fieldS, clockS, clkAt, skipS, qe1, qe2, qe3, qf0, qf1, qf2, octS_st er, numS_st er, wordS_st er, er, hl]
      rcases numS_cut e5 y5 (by omega) i v3 with ⟨qe5, u5⟩ | er
      rotate_left
      · simp [fieldS, clockS, clkAt, skipS, qe1, qe2, qe3, qf0, qf1, qf2, qf3, octS_st er, wordS_st er, er, hl]
      rcases octS_cut e6 y6 i u5 with ⟨qe6, u6⟩ | er
      rotate_left
      · simp [fieldS, clockS, clkAt, skipS, qe1, qe2, qe3, qf0, qf1, qf2, qf3, qe5, octS_st er, wordS_st er, er, hl]
      rcases wordS_cut e7 y7 (octS_ok e6 y6).2.2.2.1 i u6 with ⟨qe7, u7⟩ | er
      rotate_left
      · simp [fieldS, clockS, clkAt, skipS, qe1, qe2, qe3, qf0, qf1, qf2, qf3, qe5, qe6, octS_st er, wordS_st er, er, hl]
      rcases octS_cut e8 y8 i u7 with ⟨qe8, u8⟩ | er
      rotate_left
      · simp [fieldS, clockS, clkAt, skipS, qe1, qe2, qe3, qf0, qf1, qf2, qf3, qe5, qe6, qe7, octS_st er, wordS_st er, er, hl]
      rcases octS_cut e9 y9 i u8 with ⟨qe9, u9⟩ | er
      rotate_left
      · simp [fieldS, clockS, clkAt, skipS, qe1, qe2, qe3, qf0, qf1, qf2, qf3, qe5, qe6, qe7, qe8, wordS_st er, er, hl]
      rcases wordS_cut e10 y10 (octS_ok e9 y9).2.2.2.1 i u9 with ⟨qe10, u10⟩ | er
      rotate_left
      · simp [fieldS, clockS, clkAt, skipS, qe1, qe2, qe3, qf0, qf1, qf2, qf3, qe5, qe6, qe7, qe8, qe9, er, hl]
      · omega
end Go.Proofs.Ytbmojelnkldecaa
