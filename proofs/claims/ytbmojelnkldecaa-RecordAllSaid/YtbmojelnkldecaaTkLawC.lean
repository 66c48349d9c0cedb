/-
  Plain Lean: what is taken was put.
-/
import Derived.Test.YtbmojelnkldecaaTkLawB
namespace Go.Proofs.Ytbmojelnkldecaa

theorem octS_ok {bs : List UInt8} {lo hi c : Int} {s s' : St} (h : octS bs lo hi s = (c, s')) (h0 : s'.2 = 0) : s.2 = 0 ∧ lo ≤ c ∧ c ≤ hi ∧ 0 ≤ c ∧ c ≤ 255 ∧ s'.1 ≤ bs.length ∧ bs.drop s.1 = byteOf c :: bs.drop s'.1 := by
  unfold octS at h
  split at h
  · rename_i h1; cases h; exact absurd h0 h1
  · rename_i h1
    split at h
    · cases h; cases h0
    · rename_i h2
      split at h
      · rename_i h3
        cases h
        have hb := UInt8.toNat_lt (bs.getD s.1 0)
        refine ⟨by simpa using h1, h3.1, h3.2, by omega, by omega, by dsimp only; omega, ?_⟩
        have hlt : s.1 < bs.length := by omega
        rw [List.drop_eq_getElem_cons hlt]
        congr 1
        apply u8_eq
        have := byteOf_nat (n := ((bs.getD s.1 0).toNat : Int)) (by omega) (by omega)
        have e : bs.getD s.1 0 = bs[s.1] := by rw [List.getD_eq_getElem?_getD, List.getElem?_eq_getElem hlt]; rfl
        rw [e] at this ⊢
        omega
      · cases h; cases h0
theorem numS_ok {bs : List UInt8} {lo hi c : Int} {s s' : St} (h : numS bs lo hi s = (c, s')) (h0 : s'.2 = 0) (hs : s.1 ≤ bs.length) : s.2 = 0 ∧ lo ≤ c ∧ c ≤ hi ∧ 0 ≤ c ∧ s'.1 ≤ bs.length ∧ bs.drop s.1 = vputI c ++ bs.drop s'.1 := by
  unfold numS at h
  split at h
  · rename_i h1; cases h; exact absurd h0 h1
  · rename_i h1
    split at h
    · rename_i h2; cases h; exact absurd h0 h2
    · rename_i h2
      split at h
      · rename_i h3
        cases h
        have h2' : (vtake (bs.drop s.1)).2.2 = 0 := by simpa using h2
        obtain ⟨k1, k2, k3⟩ := vtake_ok (l := bs.drop s.1) (m := (vtake (bs.drop s.1)).1) (k := (vtake (bs.drop s.1)).2.1) (by rw [← h2'])
        rw [List.length_drop] at k2
        refine ⟨by simpa using h1, h3.1, h3.2, by omega, by dsimp only; omega, ?_⟩
        have e : vputI (((vtake (bs.drop s.1)).1 : Nat) : Int) = vput (vtake (bs.drop s.1)).1 := vputI_nat _
        rw [e, ← k3, ← List.drop_drop, List.take_append_drop]
      · cases h; cases h0
theorem wordS_ok {bs : List UInt8} {sz : Int} {may : ByteArray → Int} {c : ByteArray} {s s' : St} (h : wordS bs sz may s = (c, s')) (h0 : s'.2 = 0) (hs : s.1 ≤ bs.length) (hz : 0 ≤ sz) : s.2 = 0 ∧ (c.size : Int) = sz ∧ may c = 0 ∧ s'.1 ≤ bs.length ∧ bs.drop s.1 = c.data.toList ++ bs.drop s'.1 := by
  unfold wordS at h
  split at h
  · rename_i h1; cases h; exact absurd h0 h1
  · rename_i h1
    split at h
    · cases h; cases h0
    · rename_i h2
      cases h
      dsimp only at h0
      have h3 : may (cutB bs s.1 sz.toNat) = 0 := by
        split at h0
        · assumption
        · cases h0
      refine ⟨by simpa using h1, ?_, h3, by dsimp only; omega, ?_⟩
      · show ((cutB bs s.1 sz.toNat).data.size : Int) = sz
        simp only [cutB, List.size_toArray, List.length_take, List.length_drop]
        omega
      · simp only [cutB]
        rw [← List.drop_drop, List.take_append_drop]

theorem isLong_k {k : Int} (h : isLong k = false) : k = 1 ∨ k = 2 := by
  simp only [isLong, Bool.and_eq_false_iff, bne_eq_false_iff_eq] at h
  exact h
theorem keyE_ok' {s : ByteArray} (h : keyE s = 0) : 1 ≤ s.size ∧ s.size ≤ 8 ∧ lettersB s = true := by
  unfold keyE at h
  split at h
  · assumption
  · cases h
theorem words_eq (s : ByteArray) {c : Int} (h : (s.size : Int) = c) : byteOf c :: s.data.toList = words s := by
  subst h
  simp [words, byteOf]

theorem editE_short {e : Ed} (h1 : 1 ≤ e.k ∧ e.k ≤ 5) (h2 : keyE e.key = 0) (h3 : e.k = 1 ∨ e.k = 2) (h4 : e.l = 0) (h5 : e.v.size = 0) : editE e = 0 := by
  unfold editE
  rw [if_neg (by omega), if_neg (by simp [h2]), if_pos h3, if_neg (by simp [h4]), if_neg (by simp [h5])]
theorem editE_long {e : Ed} (h1 : 1 ≤ e.k ∧ e.k ≤ 5) (h2 : keyE e.key = 0) (h3 : isLong e.k = true) (h4 : 0 ≤ e.l ∧ e.l < 2) (h5 : valueE e.v = 0) : editE e = 0 := by
  have hk : ¬ (e.k = 1 ∨ e.k = 2) := by
    simp only [isLong, Bool.and_eq_true, bne_iff_ne, ne_eq] at h3
    omega
  have hlab : labelE e.l = 0 := by unfold labelE; rw [if_pos h4]
  unfold editE
  rw [if_neg (by omega), if_neg (by simp [h2]), if_neg hk, if_neg (by simp [hlab]), h5]
theorem octS_z {bs : List UInt8} {lo hi c : Int} {s s' : St} (h : octS bs lo hi s = (c, s')) (h0 : s'.2 = 0) : s.2 = 0 := (octS_ok h h0).1
theorem numS_z {bs : List UInt8} {lo hi c : Int} {s s' : St} (h : numS bs lo hi s = (c, s')) (h0 : s'.2 = 0) : s.2 = 0 := by
  unfold numS at h
  split at h
  · rename_i h1; cases h; exact absurd h0 h1
  · rename_i h1; simpa using h1
theorem wordS_z {bs : List UInt8} {sz : Int} {may : ByteArray → Int} {c : ByteArray} {s s' : St} (h : wordS bs sz may s = (c, s')) (h0 : s'.2 = 0) : s.2 = 0 := by
  unfold wordS at h
  split at h
  · rename_i h1; cases h; exact absurd h0 h1
  · rename_i h1; simpa using h1
theorem take_eq {bs l : List UInt8} {m : Nat} (_hm : m ≤ bs.length) (h : bs = l ++ bs.drop m) : bs.take m = l := by
  have h1 : bs = bs.take m ++ bs.drop m := (List.take_append_drop m bs).symm
  exact List.append_cancel_right (h1.symm.trans h)

set_option maxHeartbeats 4000000 in
theorem field_ok (bs : List UInt8) {e : Ev} {m : Nat} (h : fieldS bs (0, 0) = (e, (m, 0))) : mayE e = 0 ∧ m ≤ bs.length ∧ bs.take m = evBytes e := by
  obtain ⟨⟨k, s1⟩, e1⟩ : ∃ p, octS bs 1 5 (0, 0) = p := ⟨_, rfl⟩
  obtain ⟨⟨R, s2⟩, e2⟩ : ∃ p, octS bs 0 4 s1 = p := ⟨_, rfl⟩
  obtain ⟨⟨N, s3⟩, e3⟩ : ∃ p, numS bs 1 1048576 s2 = p := ⟨_, rfl⟩
  have hR0 := octS_range (bs := bs) (lo := 0) (hi := 4) (s := s1)
  rw [e2] at hR0
  rcases (show R = 0 ∨ R = 1 ∨ R = 2 ∨ R = 3 ∨ R = 4 by simp only at hR0; omega) with rfl | rfl | rfl | rfl | rfl
  · obtain ⟨⟨c1, t2⟩, f1⟩ : ∃ p, numS bs 0 1048576 s3 = p := ⟨_, rfl⟩
    obtain ⟨⟨c2, t3⟩, f2⟩ : ∃ p, numS bs 0 1048576 t2 = p := ⟨_, rfl⟩
    obtain ⟨⟨c3, t4⟩, f3⟩ : ∃ p, numS bs 0 1048576 t3 = p := ⟨_, rfl⟩
    obtain ⟨⟨c4, t5⟩, f4⟩ : ∃ p, numS bs 0 1048576 t4 = p := ⟨_, rfl⟩
    obtain ⟨⟨H, s5⟩, e5⟩ : ∃ p, numS bs 1 16777216 t5 = p := ⟨_, rfl⟩
    obtain ⟨⟨ks, s6⟩, e6⟩ : ∃ p, octS bs 1 8 s5 = p := ⟨_, rfl⟩
    obtain ⟨⟨key, s7⟩, e7⟩ : ∃ p, wordS bs ks keyE s6 = p := ⟨_, rfl⟩
    obtain ⟨⟨l, s8⟩, e8⟩ : ∃ p, octS bs 0 1 s7 = p := ⟨_, rfl⟩
    obtain ⟨⟨vs, s9⟩, e9⟩ : ∃ p, octS bs 1 12 s8 = p := ⟨_, rfl⟩
    obtain ⟨⟨v, s10⟩, e10⟩ : ∃ p, wordS bs vs valueE s9 = p := ⟨_, rfl⟩
    have hF : fieldS bs (0, 0) = if isLong k then (⟨0, N, ⟨N - 1, c1, c2, c3, c4⟩, H, k, key, l, v⟩, s10) else (⟨0, N, ⟨N - 1, c1, c2, c3, c4⟩, H, k, key, 0, ⟨#[]⟩⟩, s7) := by
      simp [fieldS, clockS, clkAt, skipS, Clk.setN, Clk.put, e1, e2, e3, f1, f2, f3, f4, e5, e6, e7, e8, e9, e10]
    rw [hF] at h
    cases hl : isLong k with
    | false =>
      rw [hl] at h
      simp only [Bool.false_eq_true, if_false, Prod.mk.injEq] at h
      obtain ⟨rfl, hs⟩ := h
      have y7 : s7.2 = 0 := by rw [hs]
      have hm : s7.1 = m := by rw [hs]
      have y6 := (wordS_z e7 y7)
      have y5 := (octS_z e6 y6)
      have yp := (numS_z e5 y5)
      have yt4 := (numS_z f4 yp)
      have yt3 := (numS_z f3 yt4)
      have yt2 := (numS_z f2 yt3)
      have y3 := (numS_z f1 yt2)
      have y2 := (numS_z e3 y3)
      have y1 := (octS_z e2 y2)
      obtain ⟨_, k1, k2, _, _, u1, b1⟩ := octS_ok e1 y1
      obtain ⟨_, r1, r2, _, _, u2, b2⟩ := octS_ok e2 y2
      obtain ⟨_, n1, n2, _, u3, b3⟩ := numS_ok e3 y3 u2
      obtain ⟨_, m1, mm1, _, v1, g1⟩ := numS_ok f1 yt2 u3
      obtain ⟨_, m2, mm2, _, v2, g2⟩ := numS_ok f2 yt3 v1
      obtain ⟨_, m3, mm3, _, v3, g3⟩ := numS_ok f3 yt4 v2
      obtain ⟨_, m4, mm4, _, v4, g4⟩ := numS_ok f4 yp v3
      obtain ⟨_, h1, h2, _, u5, b5⟩ := numS_ok e5 y5 v4
      obtain ⟨_, k3, k4, k5, _, u6, b6⟩ := octS_ok e6 y6
      obtain ⟨_, q1, q2, u7, b7⟩ := wordS_ok e7 y7 u6 k5
      obtain ⟨q3, q4, q5⟩ := keyE_ok' q2
      refine ⟨mayE_of ⟨by dsimp only; omega, by dsimp only; omega, n1, n2, h1, h2, by dsimp only; omega, by dsimp only; omega, by dsimp only; omega, by dsimp only; omega, by dsimp only; omega, by simp [Clk.get], ?_⟩, by rw [← hm]; exact u7, ?_⟩
      · exact editE_short (e := ⟨k, key, 0, ⟨#[]⟩⟩) ⟨by dsimp only; omega, by dsimp only; omega⟩ q2 (isLong_k hl) rfl rfl
      · refine take_eq (by rw [← hm]; exact u7) (l := evBytes _) ?_
        rw [← hm]
        have b0 : bs = bs.drop (0, (0 : Int)).1 := rfl
        conv => lhs; rw [b0, b1, b2, b3, g1, g2, g3, g4, b5, b6, b7]
        simp [evBytes, others, hl, ← words_eq key q1]
    | true =>
      rw [hl] at h
      simp only [if_true, Prod.mk.injEq] at h
      obtain ⟨rfl, hs⟩ := h
      have y10 : s10.2 = 0 := by rw [hs]
      have hm : s10.1 = m := by rw [hs]
      have y9 := (wordS_z e10 y10)
      have y8 := (octS_z e9 y9)
      have y7 := (octS_z e8 y8)
      have y6 := (wordS_z e7 y7)
      have y5 := (octS_z e6 y6)
      have yp := (numS_z e5 y5)
      have yt4 := (numS_z f4 yp)
      have yt3 := (numS_z f3 yt4)
      have yt2 := (numS_z f2 yt3)
      have y3 := (numS_z f1 yt2)
      have y2 := (numS_z e3 y3)
      have y1 := (octS_z e2 y2)
      obtain ⟨_, k1, k2, _, _, u1, b1⟩ := octS_ok e1 y1
      obtain ⟨_, r1, r2, _, _, u2, b2⟩ := octS_ok e2 y2
      obtain ⟨_, n1, n2, _, u3, b3⟩ := numS_ok e3 y3 u2
      obtain ⟨_, m1, mm1, _, v1, g1⟩ := numS_ok f1 yt2 u3
      obtain ⟨_, m2, mm2, _, v2, g2⟩ := numS_ok f2 yt3 v1
      obtain ⟨_, m3, mm3, _, v3, g3⟩ := numS_ok f3 yt4 v2
      obtain ⟨_, m4, mm4, _, v4, g4⟩ := numS_ok f4 yp v3
      obtain ⟨_, h1, h2, _, u5, b5⟩ := numS_ok e5 y5 v4
      obtain ⟨_, k3, k4, k5, _, u6, b6⟩ := octS_ok e6 y6
      obtain ⟨_, q1, q2, u7, b7⟩ := wordS_ok e7 y7 u6 k5
      obtain ⟨q3, q4, q5⟩ := keyE_ok' q2
      obtain ⟨_, l1, l2, _, _, u8, b8⟩ := octS_ok e8 y8
      obtain ⟨_, l3, l4, l5, _, u9, b9⟩ := octS_ok e9 y9
      obtain ⟨_, p1, p2, u10, b10⟩ := wordS_ok e10 y10 u9 l5
      refine ⟨mayE_of ⟨by dsimp only; omega, by dsimp only; omega, n1, n2, h1, h2, by dsimp only; omega, by dsimp only; omega, by dsimp only; omega, by dsimp only; omega, by dsimp only; omega, by simp [Clk.get], ?_⟩, by rw [← hm]; exact u10, ?_⟩
      · exact editE_long (e := ⟨k, key, l, v⟩) ⟨by dsimp only; omega, by dsimp only; omega⟩ q2 hl (by dsimp only; omega) p2
      · refine take_eq (by rw [← hm]; exact u10) (l := evBytes _) ?_
        rw [← hm]
        have b0 : bs = bs.drop (0, (0 : Int)).1 := rfl
        conv => lhs; rw [b0, b1, b2, b3, g1, g2, g3, g4, b5, b6, b7, b8, b9, b10]
        simp [evBytes, others, hl, ← words_eq key q1, ← words_eq v p1]
  · obtain ⟨⟨c0, t1⟩, f0⟩ : ∃ p, numS bs 0 1048576 s3 = p := ⟨_, rfl⟩
    obtain ⟨⟨c2, t3⟩, f2⟩ : ∃ p, numS bs 0 1048576 t1 = p := ⟨_, rfl⟩
    obtain ⟨⟨c3, t4⟩, f3⟩ : ∃ p, numS bs 0 1048576 t3 = p := ⟨_, rfl⟩
    obtain ⟨⟨c4, t5⟩, f4⟩ : ∃ p, numS bs 0 1048576 t4 = p := ⟨_, rfl⟩
    obtain ⟨⟨H, s5⟩, e5⟩ : ∃ p, numS bs 1 16777216 t5 = p := ⟨_, rfl⟩
    obtain ⟨⟨ks, s6⟩, e6⟩ : ∃ p, octS bs 1 8 s5 = p := ⟨_, rfl⟩
    obtain ⟨⟨key, s7⟩, e7⟩ : ∃ p, wordS bs ks keyE s6 = p := ⟨_, rfl⟩
    obtain ⟨⟨l, s8⟩, e8⟩ : ∃ p, octS bs 0 1 s7 = p := ⟨_, rfl⟩
    obtain ⟨⟨vs, s9⟩, e9⟩ : ∃ p, octS bs 1 12 s8 = p := ⟨_, rfl⟩
    obtain ⟨⟨v, s10⟩, e10⟩ : ∃ p, wordS bs vs valueE s9 = p := ⟨_, rfl⟩
    have hF : fieldS bs (0, 0) = if isLong k then (⟨1, N, ⟨c0, N - 1, c2, c3, c4⟩, H, k, key, l, v⟩, s10) else (⟨1, N, ⟨c0, N - 1, c2, c3, c4⟩, H, k, key, 0, ⟨#[]⟩⟩, s7) := by
      simp [fieldS, clockS, clkAt, skipS, Clk.setN, Clk.put, e1, e2, e3, f0, f2, f3, f4, e5, e6, e7, e8, e9, e10]
    rw [hF] at h
    cases hl : isLong k with
    | false =>
      rw [hl] at h
      simp only [Bool.false_eq_true, if_false, Prod.mk.injEq] at h
      obtain ⟨rfl, hs⟩ := h
      have y7 : s7.2 = 0 := by rw [hs]
      have hm : s7.1 = m := by rw [hs]
      have y6 := (wordS_z e7 y7)
      have y5 := (octS_z e6 y6)
      have yp := (numS_z e5 y5)
      have yt4 := (numS_z f4 yp)
      have yt3 := (numS_z f3 yt4)
      have yt2 := (numS_z f2 yt3)
      have y3 := (numS_z f0 yt2)
      have y2 := (numS_z e3 y3)
      have y1 := (octS_z e2 y2)
      obtain ⟨_, k1, k2, _, _, u1, b1⟩ := octS_ok e1 y1
      obtain ⟨_, r1, r2, _, _, u2, b2⟩ := octS_ok e2 y2
      obtain ⟨_, n1, n2, _, u3, b3⟩ := numS_ok e3 y3 u2
      obtain ⟨_, m0, mm0, _, v0, g0⟩ := numS_ok f0 yt2 u3
      obtain ⟨_, m2, mm2, _, v2, g2⟩ := numS_ok f2 yt3 v0
      obtain ⟨_, m3, mm3, _, v3, g3⟩ := numS_ok f3 yt4 v2
      obtain ⟨_, m4, mm4, _, v4, g4⟩ := numS_ok f4 yp v3
      obtain ⟨_, h1, h2, _, u5, b5⟩ := numS_ok e5 y5 v4
      obtain ⟨_, k3, k4, k5, _, u6, b6⟩ := octS_ok e6 y6
      obtain ⟨_, q1, q2, u7, b7⟩ := wordS_ok e7 y7 u6 k5
      obtain ⟨q3, q4, q5⟩ := keyE_ok' q2
      refine ⟨mayE_of ⟨by dsimp only; omega, by dsimp only; omega, n1, n2, h1, h2, by dsimp only; omega, by dsimp only; omega, by dsimp only; omega, by dsimp only; omega, by dsimp only; omega, by simp [Clk.get], ?_⟩, by rw [← hm]; exact u7, ?_⟩
      · exact editE_short (e := ⟨k, key, 0, ⟨#[]⟩⟩) ⟨by dsimp only; omega, by dsimp only; omega⟩ q2 (isLong_k hl) rfl rfl
      · refine take_eq (by rw [← hm]; exact u7) (l := evBytes _) ?_
        rw [← hm]
        have b0 : bs = bs.drop (0, (0 : Int)).1 := rfl
        conv => lhs; rw [b0, b1, b2, b3, g0, g2, g3, g4, b5, b6, b7]
        simp [evBytes, others, hl, ← words_eq key q1]
    | true =>
      rw [hl] at h
      simp only [if_true, Prod.mk.injEq] at h
      obtain ⟨rfl, hs⟩ := h
      have y10 : s10.2 = 0 := by rw [hs]
      have hm : s10.1 = m := by rw [hs]
      have y9 := (wordS_z e10 y10)
      have y8 := (octS_z e9 y9)
      have y7 := (octS_z e8 y8)
      have y6 := (wordS_z e7 y7)
      have y5 := (octS_z e6 y6)
      have yp := (numS_z e5 y5)
      have yt4 := (numS_z f4 yp)
      have yt3 := (numS_z f3 yt4)
      have yt2 := (numS_z f2 yt3)
      have y3 := (numS_z f0 yt2)
      have y2 := (numS_z e3 y3)
      have y1 := (octS_z e2 y2)
      obtain ⟨_, k1, k2, _, _, u1, b1⟩ := octS_ok e1 y1
      obtain ⟨_, r1, r2, _, _, u2, b2⟩ := octS_ok e2 y2
      obtain ⟨_, n1, n2, _, u3, b3⟩ := numS_ok e3 y3 u2
      obtain ⟨_, m0, mm0, _, v0, g0⟩ := numS_ok f0 yt2 u3
      obtain ⟨_, m2, mm2, _, v2, g2⟩ := numS_ok f2 yt3 v0
      obtain ⟨_, m3, mm3, _, v3, g3⟩ := numS_ok f3 yt4 v2
      obtain ⟨_, m4, mm4, _, v4, g4⟩ := numS_ok f4 yp v3
      obtain ⟨_, h1, h2, _, u5, b5⟩ := numS_ok e5 y5 v4
      obtain ⟨_, k3, k4, k5, _, u6, b6⟩ := octS_ok e6 y6
      obtain ⟨_, q1, q2, u7, b7⟩ := wordS_ok e7 y7 u6 k5
      obtain ⟨q3, q4, q5⟩ := keyE_ok' q2
      obtain ⟨_, l1, l2, _, _, u8, b8⟩ := octS_ok e8 y8
      obtain ⟨_, l3, l4, l5, _, u9, b9⟩ := octS_ok e9 y9
      obtain ⟨_, p1, p2, u10, b10⟩ := wordS_ok e10 y10 u9 l5
      refine ⟨mayE_of ⟨by dsimp only; omega, by dsimp only; omega, n1, n2, h1, h2, by dsimp only; omega, by dsimp only; omega, by dsimp only; omega, by dsimp only; omega, by dsimp only; omega, by simp [Clk.get], ?_⟩, by rw [← hm]; exact u10, ?_⟩
      · exact editE_long (e := ⟨k, key, l, v⟩) ⟨by dsimp only; omega, by dsimp only; omega⟩ q2 hl (by dsimp only; omega) p2
      · refine take_eq (by rw [← hm]; exact u10) (l := evBytes _) ?_
        rw [← hm]
        have b0 : bs = bs.drop (0, (0 : Int)).1 := rfl
        conv => lhs; rw [b0, b1, b2, b3, g0, g2, g3, g4, b5, b6, b7, b8, b9, b10]
        simp [evBytes, others, hl, ← words_eq key q1, ← words_eq v p1]
  · obtain ⟨⟨c0, t1⟩, f0⟩ : ∃ p, numS bs 0 1048576 s3 = p := ⟨_, rfl⟩
    obtain ⟨⟨c1, t2⟩, f1⟩ : ∃ p, numS bs 0 1048576 t1 = p := ⟨_, rfl⟩
    obtain ⟨⟨c3, t4⟩, f3⟩ : ∃ p, numS bs 0 1048576 t2 = p := ⟨_, rfl⟩
    obtain ⟨⟨c4, t5⟩, f4⟩ : ∃ p, numS bs 0 1048576 t4 = p := ⟨_, rfl⟩
    obtain ⟨⟨H, s5⟩, e5⟩ : ∃ p, numS bs 1 16777216 t5 = p := ⟨_, rfl⟩
    obtain ⟨⟨ks, s6⟩, e6⟩ : ∃ p, octS bs 1 8 s5 = p := ⟨_, rfl⟩
    obtain ⟨⟨key, s7⟩, e7⟩ : ∃ p, wordS bs ks keyE s6 = p := ⟨_, rfl⟩
    obtain ⟨⟨l, s8⟩, e8⟩ : ∃ p, octS bs 0 1 s7 = p := ⟨_, rfl⟩
    obtain ⟨⟨vs, s9⟩, e9⟩ : ∃ p, octS bs 1 12 s8 = p := ⟨_, rfl⟩
    obtain ⟨⟨v, s10⟩, e10⟩ : ∃ p, wordS bs vs valueE s9 = p := ⟨_, rfl⟩
    have hF : fieldS bs (0, 0) = if isLong k then (⟨2, N, ⟨c0, c1, N - 1, c3, c4⟩, H, k, key, l, v⟩, s10) else (⟨2, N, ⟨c0, c1, N - 1, c3, c4⟩, H, k, key, 0, ⟨#[]⟩⟩, s7) := by
      simp [fieldS, clockS, clkAt, skipS, Clk.setN, Clk.put, e1, e2, e3, f0, f1, f3, f4, e5, e6, e7, e8, e9, e10]
    rw [hF] at h
    cases hl : isLong k with
    | false =>
      rw [hl] at h
      simp only [Bool.false_eq_true, if_false, Prod.mk.injEq] at h
      obtain ⟨rfl, hs⟩ := h
      have y7 : s7.2 = 0 := by rw [hs]
      have hm : s7.1 = m := by rw [hs]
      have y6 := (wordS_z e7 y7)
      have y5 := (octS_z e6 y6)
      have yp := (numS_z e5 y5)
      have yt4 := (numS_z f4 yp)
      have yt3 := (numS_z f3 yt4)
      have yt1 := (numS_z f1 yt3)
      have y3 := (numS_z f0 yt1)
      have y2 := (numS_z e3 y3)
      have y1 := (octS_z e2 y2)
      obtain ⟨_, k1, k2, _, _, u1, b1⟩ := octS_ok e1 y1
      obtain ⟨_, r1, r2, _, _, u2, b2⟩ := octS_ok e2 y2
      obtain ⟨_, n1, n2, _, u3, b3⟩ := numS_ok e3 y3 u2
      obtain ⟨_, m0, mm0, _, v0, g0⟩ := numS_ok f0 yt1 u3
      obtain ⟨_, m1, mm1, _, v1, g1⟩ := numS_ok f1 yt3 v0
      obtain ⟨_, m3, mm3, _, v3, g3⟩ := numS_ok f3 yt4 v1
      obtain ⟨_, m4, mm4, _, v4, g4⟩ := numS_ok f4 yp v3
      obtain ⟨_, h1, h2, _, u5, b5⟩ := numS_ok e5 y5 v4
      obtain ⟨_, k3, k4, k5, _, u6, b6⟩ := octS_ok e6 y6
      obtain ⟨_, q1, q2, u7, b7⟩ := wordS_ok e7 y7 u6 k5
      obtain ⟨q3, q4, q5⟩ := keyE_ok' q2
      refine ⟨mayE_of ⟨by dsimp only; omega, by dsimp only; omega, n1, n2, h1, h2, by dsimp only; omega, by dsimp only; omega, by dsimp only; omega, by dsimp only; omega, by dsimp only; omega, by simp [Clk.get], ?_⟩, by rw [← hm]; exact u7, ?_⟩
      · exact editE_short (e := ⟨k, key, 0, ⟨#[]⟩⟩) ⟨by dsimp only; omega, by dsimp only; omega⟩ q2 (isLong_k hl) rfl rfl
      · refine take_eq (by rw [← hm]; exact u7) (l := evBytes _) ?_
        rw [← hm]
        have b0 : bs = bs.drop (0, (0 : Int)).1 := rfl
        conv => lhs; rw [b0, b1, b2, b3, g0, g1, g3, g4, b5, b6, b7]
        simp [evBytes, others, hl, ← words_eq key q1]
    | true =>
      rw [hl] at h
      simp only [if_true, Prod.mk.injEq] at h
      obtain ⟨rfl, hs⟩ := h
      have y10 : s10.2 = 0 := by rw [hs]
      have hm : s10.1 = m := by rw [hs]
      have y9 := (wordS_z e10 y10)
      have y8 := (octS_z e9 y9)
      have y7 := (octS_z e8 y8)
      have y6 := (wordS_z e7 y7)
      have y5 := (octS_z e6 y6)
      have yp := (numS_z e5 y5)
      have yt4 := (numS_z f4 yp)
      have yt3 := (numS_z f3 yt4)
      have yt1 := (numS_z f1 yt3)
      have y3 := (numS_z f0 yt1)
      have y2 := (numS_z e3 y3)
      have y1 := (octS_z e2 y2)
      obtain ⟨_, k1, k2, _, _, u1, b1⟩ := octS_ok e1 y1
      obtain ⟨_, r1, r2, _, _, u2, b2⟩ := octS_ok e2 y2
      obtain ⟨_, n1, n2, _, u3, b3⟩ := numS_ok e3 y3 u2
      obtain ⟨_, m0, mm0, _, v0, g0⟩ := numS_ok f0 yt1 u3
      obtain ⟨_, m1, mm1, _, v1, g1⟩ := numS_ok f1 yt3 v0
      obtain ⟨_, m3, mm3, _, v3, g3⟩ := numS_ok f3 yt4 v1
      obtain ⟨_, m4, mm4, _, v4, g4⟩ := numS_ok f4 yp v3
      obtain ⟨_, h1, h2, _, u5, b5⟩ := numS_ok e5 y5 v4
      obtain ⟨_, k3, k4, k5, _, u6, b6⟩ := octS_ok e6 y6
      obtain ⟨_, q1, q2, u7, b7⟩ := wordS_ok e7 y7 u6 k5
      obtain ⟨q3, q4, q5⟩ := keyE_ok' q2
      obtain ⟨_, l1, l2, _, _, u8, b8⟩ := octS_ok e8 y8
      obtain ⟨_, l3, l4, l5, _, u9, b9⟩ := octS_ok e9 y9
      obtain ⟨_, p1, p2, u10, b10⟩ := wordS_ok e10 y10 u9 l5
      refine ⟨mayE_of ⟨by dsimp only; omega, by dsimp only; omega, n1, n2, h1, h2, by dsimp only; omega, by dsimp only; omega, by dsimp only; omega, by dsimp only; omega, by dsimp only; omega, by simp [Clk.get], ?_⟩, by rw [← hm]; exact u10, ?_⟩
      · exact editE_long (e := ⟨k, key, l, v⟩) ⟨by dsimp only; omega, by dsimp only; omega⟩ q2 hl (by dsimp only; omega) p2
      · refine take_eq (by rw [← hm]; exact u10) (l := evBytes _) ?_
        rw [← hm]
        have b0 : bs = bs.drop (0, (0 : Int)).1 := rfl
        conv => lhs; rw [b0, b1, b2, b3, g0, g1, g3, g4, b5, b6, b7, b8, b9, b10]
        simp [evBytes, others, hl, ← words_eq key q1, ← words_eq v p1]
  · obtain ⟨⟨c0, t1⟩, f0⟩ : ∃ p, numS bs 0 1048576 s3 = p := ⟨_, rfl⟩
    obtain ⟨⟨c1, t2⟩, f1⟩ : ∃ p, numS bs 0 1048576 t1 = p := ⟨_, rfl⟩
    obtain ⟨⟨c2, t3⟩, f2⟩ : ∃ p, numS bs 0 1048576 t2 = p := ⟨_, rfl⟩
    obtain ⟨⟨c4, t5⟩, f4⟩ : ∃ p, numS bs 0 1048576 t3 = p := ⟨_, rfl⟩
    obtain ⟨⟨H, s5⟩, e5⟩ : ∃ p, numS bs 1 16777216 t5 = p := ⟨_, rfl⟩
    obtain ⟨⟨ks, s6⟩, e6⟩ : ∃ p, octS bs 1 8 s5 = p := ⟨_, rfl⟩
    obtain ⟨⟨key, s7⟩, e7⟩ : ∃ p, wordS bs ks keyE s6 = p := ⟨_, rfl⟩
    obtain ⟨⟨l, s8⟩, e8⟩ : ∃ p, octS bs 0 1 s7 = p := ⟨_, rfl⟩
    obtain ⟨⟨vs, s9⟩, e9⟩ : ∃ p, octS bs 1 12 s8 = p := ⟨_, rfl⟩
    obtain ⟨⟨v, s10⟩, e10⟩ : ∃ p, wordS bs vs valueE s9 = p := ⟨_, rfl⟩
    have hF : fieldS bs (0, 0) = if isLong k then (⟨3, N, ⟨c0, c1, c2, N - 1, c4⟩, H, k, key, l, v⟩, s10) else (⟨3, N, ⟨c0, c1, c2, N - 1, c4⟩, H, k, key, 0, ⟨#[]⟩⟩, s7) := by
      simp [fieldS, clockS, clkAt, skipS, Clk.setN, Clk.put, e1, e2, e3, f0, f1, f2, f4, e5, e6, e7, e8, e9, e10]
    rw [hF] at h
    cases hl : isLong k with
    | false =>
      rw [hl] at h
      simp only [Bool.false_eq_true, if_false, Prod.mk.injEq] at h
      obtain ⟨rfl, hs⟩ := h
      have y7 : s7.2 = 0 := by rw [hs]
      have hm : s7.1 = m := by rw [hs]
      have y6 := (wordS_z e7 y7)
      have y5 := (octS_z e6 y6)
      have yp := (numS_z e5 y5)
      have yt4 := (numS_z f4 yp)
      have yt2 := (numS_z f2 yt4)
      have yt1 := (numS_z f1 yt2)
      have y3 := (numS_z f0 yt1)
      have y2 := (numS_z e3 y3)
      have y1 := (octS_z e2 y2)
      obtain ⟨_, k1, k2, _, _, u1, b1⟩ := octS_ok e1 y1
      obtain ⟨_, r1, r2, _, _, u2, b2⟩ := octS_ok e2 y2
      obtain ⟨_, n1, n2, _, u3, b3⟩ := numS_ok e3 y3 u2
      obtain ⟨_, m0, mm0, _, v0, g0⟩ := numS_ok f0 yt1 u3
      obtain ⟨_, m1, mm1, _, v1, g1⟩ := numS_ok f1 yt2 v0
      obtain ⟨_, m2, mm2, _, v2, g2⟩ := numS_ok f2 yt4 v1
      obtain ⟨_, m4, mm4, _, v4, g4⟩ := numS_ok f4 yp v2
      obtain ⟨_, h1, h2, _, u5, b5⟩ := numS_ok e5 y5 v4
      obtain ⟨_, k3, k4, k5, _, u6, b6⟩ := octS_ok e6 y6
      obtain ⟨_, q1, q2, u7, b7⟩ := wordS_ok e7 y7 u6 k5
      obtain ⟨q3, q4, q5⟩ := keyE_ok' q2
      refine ⟨mayE_of ⟨by dsimp only; omega, by dsimp only; omega, n1, n2, h1, h2, by dsimp only; omega, by dsimp only; omega, by dsimp only; omega, by dsimp only; omega, by dsimp only; omega, by simp [Clk.get], ?_⟩, by rw [← hm]; exact u7, ?_⟩
      · exact editE_short (e := ⟨k, key, 0, ⟨#[]⟩⟩) ⟨by dsimp only; omega, by dsimp only; omega⟩ q2 (isLong_k hl) rfl rfl
      · refine take_eq (by rw [← hm]; exact u7) (l := evBytes _) ?_
        rw [← hm]
        have b0 : bs = bs.drop (0, (0 : Int)).1 := rfl
        conv => lhs; rw [b0, b1, b2, b3, g0, g1, g2, g4, b5, b6, b7]
        simp [evBytes, others, hl, ← words_eq key q1]
    | true =>
      rw [hl] at h
      simp only [if_true, Prod.mk.injEq] at h
      obtain ⟨rfl, hs⟩ := h
      have y10 : s10.2 = 0 := by rw [hs]
      have hm : s10.1 = m := by rw [hs]
      have y9 := (wordS_z e10 y10)
      have y8 := (octS_z e9 y9)
      have y7 := (octS_z e8 y8)
      have y6 := (wordS_z e7 y7)
      have y5 := (octS_z e6 y6)
      have yp := (numS_z e5 y5)
      have yt4 := (numS_z f4 yp)
      have yt2 := (numS_z f2 yt4)
      have yt1 := (numS_z f1 yt2)
      have y3 := (numS_z f0 yt1)
      have y2 := (numS_z e3 y3)
      have y1 := (octS_z e2 y2)
      obtain ⟨_, k1, k2, _, _, u1, b1⟩ := octS_ok e1 y1
      obtain ⟨_, r1, r2, _, _, u2, b2⟩ := octS_ok e2 y2
      obtain ⟨_, n1, n2, _, u3, b3⟩ := numS_ok e3 y3 u2
      obtain ⟨_, m0, mm0, _, v0, g0⟩ := numS_ok f0 yt1 u3
      obtain ⟨_, m1, mm1, _, v1, g1⟩ := numS_ok f1 yt2 v0
      obtain ⟨_, m2, mm2, _, v2, g2⟩ := numS_ok f2 yt4 v1
      obtain ⟨_, m4, mm4, _, v4, g4⟩ := numS_ok f4 yp v2
      obtain ⟨_, h1, h2, _, u5, b5⟩ := numS_ok e5 y5 v4
      obtain ⟨_, k3, k4, k5, _, u6, b6⟩ := octS_ok e6 y6
      obtain ⟨_, q1, q2, u7, b7⟩ := wordS_ok e7 y7 u6 k5
      obtain ⟨q3, q4, q5⟩ := keyE_ok' q2
      obtain ⟨_, l1, l2, _, _, u8, b8⟩ := octS_ok e8 y8
      obtain ⟨_, l3, l4, l5, _, u9, b9⟩ := octS_ok e9 y9
      obtain ⟨_, p1, p2, u10, b10⟩ := wordS_ok e10 y10 u9 l5
      refine ⟨mayE_of ⟨by dsimp only; omega, by dsimp only; omega, n1, n2, h1, h2, by dsimp only; omega, by dsimp only; omega, by dsimp only; omega, by dsimp only; omega, by dsimp only; omega, by simp [Clk.get], ?_⟩, by rw [← hm]; exact u10, ?_⟩
      · exact editE_long (e := ⟨k, key, l, v⟩) ⟨by dsimp only; omega, by dsimp only; omega⟩ q2 hl (by dsimp only; omega) p2
      · refine take_eq (by rw [← hm]; exact u10) (l := evBytes _) ?_
        rw [← hm]
        have b0 : bs = bs.drop (0, (0 : Int)).1 := rfl
        conv => lhs; rw [b0, b1, b2, b3, g0, g1, g2, g4, b5, b6, b7, b8, b9, b10]
        simp [evBytes, others, hl, ← words_eq key q1, ← words_eq v p1]
  · obtain ⟨⟨c0, t1⟩, f0⟩ : ∃ p, numS bs 0 1048576 s3 = p := ⟨_, rfl⟩
    obtain ⟨⟨c1, t2⟩, f1⟩ : ∃ p, numS bs 0 1048576 t1 = p := ⟨_, rfl⟩
    obtain ⟨⟨c2, t3⟩, f2⟩ : ∃ p, numS bs 0 1048576 t2 = p := ⟨_, rfl⟩
    obtain ⟨⟨c3, t4⟩, f3⟩ : ∃ p, numS bs 0 1048576 t3 = p := ⟨_, rfl⟩
    obtain ⟨⟨H, s5⟩, e5⟩ : ∃ p, numS bs 1 16777216 t4 = p := ⟨_, rfl⟩
    obtain ⟨⟨ks, s6⟩, e6⟩ : ∃ p, octS bs 1 8 s5 = p := ⟨_, rfl⟩
    obtain ⟨⟨key, s7⟩, e7⟩ : ∃ p, wordS bs ks keyE s6 = p := ⟨_, rfl⟩
    obtain ⟨⟨l, s8⟩, e8⟩ : ∃ p, octS bs 0 1 s7 = p := ⟨_, rfl⟩
    obtain ⟨⟨vs, s9⟩, e9⟩ : ∃ p, octS bs 1 12 s8 = p := ⟨_, rfl⟩
    obtain ⟨⟨v, s10⟩, e10⟩ : ∃ p, wordS bs vs valueE s9 = p := ⟨_, rfl⟩
    have hF : fieldS bs (0, 0) = if isLong k then (⟨4, N, ⟨c0, c1, c2, c3, N - 1⟩, H, k, key, l, v⟩, s10) else (⟨4, N, ⟨c0, c1, c2, c3, N - 1⟩, H, k, key, 0, ⟨#[]⟩⟩, s7) := by
      simp [fieldS, clockS, clkAt, skipS, Clk.setN, Clk.put, e1, e2, e3, f0, f1, f2, f3, e5, e6, e7, e8, e9, e10]
    rw [hF] at h
    cases hl : isLong k with
    | false =>
      rw [hl] at h
      simp only [Bool.false_eq_true, if_false, Prod.mk.injEq] at h
      obtain ⟨rfl, hs⟩ := h
      have y7 : s7.2 = 0 := by rw [hs]
      have hm : s7.1 = m := by rw [hs]
      have y6 := (wordS_z e7 y7)
      have y5 := (octS_z e6 y6)
      have yp := (numS_z e5 y5)
      have yt3 := (numS_z f3 yp)
      have yt2 := (numS_z f2 yt3)
      have yt1 := (numS_z f1 yt2)
      have y3 := (numS_z f0 yt1)
      have y2 := (numS_z e3 y3)
      have y1 := (octS_z e2 y2)
      obtain ⟨_, k1, k2, _, _, u1, b1⟩ := octS_ok e1 y1
      obtain ⟨_, r1, r2, _, _, u2, b2⟩ := octS_ok e2 y2
      obtain ⟨_, n1, n2, _, u3, b3⟩ := numS_ok e3 y3 u2
      obtain ⟨_, m0, mm0, _, v0, g0⟩ := numS_ok f0 yt1 u3
      obtain ⟨_, m1, mm1, _, v1, g1⟩ := numS_ok f1 yt2 v0
      obtain ⟨_, m2, mm2, _, v2, g2⟩ := numS_ok f2 yt3 v1
      obtain ⟨_, m3, mm3, _, v3, g3⟩ := numS_ok f3 yp v2
      obtain ⟨_, h1, h2, _, u5, b5⟩ := numS_ok e5 y5 v3
      obtain ⟨_, k3, k4, k5, _, u6, b6⟩ := octS_ok e6 y6
      obtain ⟨_, q1, q2, u7, b7⟩ := wordS_ok e7 y7 u6 k5
      obtain ⟨q3, q4, q5⟩ := keyE_ok' q2
      refine ⟨mayE_of ⟨by dsimp only; omega, by dsimp only; omega, n1, n2, h1, h2, by dsimp only; omega, by dsimp only; omega, by dsimp only; omega, by dsimp only; omega, by dsimp only; omega, by simp [Clk.get], ?_⟩, by rw [← hm]; exact u7, ?_⟩
      · exact editE_short (e := ⟨k, key, 0, ⟨#[]⟩⟩) ⟨by dsimp only; omega, by dsimp only; omega⟩ q2 (isLong_k hl) rfl rfl
      · refine take_eq (by rw [← hm]; exact u7) (l := evBytes _) ?_
        rw [← hm]
        have b0 : bs = bs.drop (0, (0 : Int)).1 := rfl
        conv => lhs; rw [b0, b1, b2, b3, g0, g1, g2, g3, b5, b6, b7]
        simp [evBytes, others, hl, ← words_eq key q1]
    | true =>
      rw [hl] at h
      simp only [if_true, Prod.mk.injEq] at h
      obtain ⟨rfl, hs⟩ := h
      have y10 : s10.2 = 0 := by rw [hs]
      have hm : s10.1 = m := by rw [hs]
      have y9 := (wordS_z e10 y10)
      have y8 := (octS_z e9 y9)
      have y7 := (octS_z e8 y8)
      have y6 := (wordS_z e7 y7)
      have y5 := (octS_z e6 y6)
      have yp := (numS_z e5 y5)
      have yt3 := (numS_z f3 yp)
      have yt2 := (numS_z f2 yt3)
      have yt1 := (numS_z f1 yt2)
      have y3 := (numS_z f0 yt1)
      have y2 := (numS_z e3 y3)
      have y1 := (octS_z e2 y2)
      obtain ⟨_, k1, k2, _, _, u1, b1⟩ := octS_ok e1 y1
      obtain ⟨_, r1, r2, _, _, u2, b2⟩ := octS_ok e2 y2
      obtain ⟨_, n1, n2, _, u3, b3⟩ := numS_ok e3 y3 u2
      obtain ⟨_, m0, mm0, _, v0, g0⟩ := numS_ok f0 yt1 u3
      obtain ⟨_, m1, mm1, _, v1, g1⟩ := numS_ok f1 yt2 v0
      obtain ⟨_, m2, mm2, _, v2, g2⟩ := numS_ok f2 yt3 v1
      obtain ⟨_, m3, mm3, _, v3, g3⟩ := numS_ok f3 yp v2
      obtain ⟨_, h1, h2, _, u5, b5⟩ := numS_ok e5 y5 v3
      obtain ⟨_, k3, k4, k5, _, u6, b6⟩ := octS_ok e6 y6
      obtain ⟨_, q1, q2, u7, b7⟩ := wordS_ok e7 y7 u6 k5
      obtain ⟨q3, q4, q5⟩ := keyE_ok' q2
      obtain ⟨_, l1, l2, _, _, u8, b8⟩ := octS_ok e8 y8
      obtain ⟨_, l3, l4, l5, _, u9, b9⟩ := octS_ok e9 y9
      obtain ⟨_, p1, p2, u10, b10⟩ := wordS_ok e10 y10 u9 l5
      refine ⟨mayE_of ⟨by dsimp only; omega, by dsimp only; omega, n1, n2, h1, h2, by dsimp only; omega, by dsimp only; omega, by dsimp only; omega, by dsimp only; omega, by dsimp only; omega, by simp [Clk.get], ?_⟩, by rw [← hm]; exact u10, ?_⟩
      · exact editE_long (e := ⟨k, key, l, v⟩) ⟨by dsimp only; omega, by dsimp only; omega⟩ q2 hl (by dsimp only; omega) p2
      · refine take_eq (by rw [← hm]; exact u10) (l := evBytes _) ?_
        rw [← hm]
        have b0 : bs = bs.drop (0, (0 : Int)).1 := rfl
        conv => lhs; rw [b0, b1, b2, b3, g0, g1, g2, g3, b5, b6, b7, b8, b9, b10]
        simp [evBytes, others, hl, ← words_eq key q1, ← words_eq v p1]
end Go.Proofs.Ytbmojelnkldecaa
