/-
  Plain Lean: the fields of an event, put and taken.
-/
import Derived.Test.YtbmojelnkldecaaTkLaw
namespace Go.Proofs.Ytbmojelnkldecaa

theorem drop_cons {bs t : List UInt8} {u : Nat} {b : UInt8} (h : bs.drop u = b :: t) : u < bs.length ∧ bs.getD u 0 = b ∧ bs.drop (u + 1) = t := by
  have hlt : u < bs.length := by
    rcases Nat.lt_or_ge u bs.length with h' | h'
    · exact h'
    · rw [List.drop_of_length_le h'] at h; cases h
  refine ⟨hlt, ?_, ?_⟩
  · rw [List.drop_eq_getElem_cons hlt] at h
    rw [List.getD_eq_getElem?_getD, List.getElem?_eq_getElem hlt]
    exact (List.cons.inj h).1
  · rw [List.drop_eq_getElem_cons hlt] at h
    exact (List.cons.inj h).2
theorem drop_app {bs l t : List UInt8} {u : Nat} (h : bs.drop u = l ++ t) : bs.drop (u + l.length) = t := by
  rw [← List.drop_drop, h, List.drop_left]

theorem octS_put {bs t : List UInt8} {u : Nat} {b : UInt8} {lo hi : Int} (h : bs.drop u = b :: t) (h1 : lo ≤ (b.toNat : Int)) (h2 : (b.toNat : Int) ≤ hi) : octS bs lo hi (u, 0) = ((b.toNat : Int), (u + 1, 0)) ∧ bs.drop (u + 1) = t := by
  obtain ⟨h3, h4, h5⟩ := drop_cons h
  refine ⟨?_, h5⟩
  unfold octS
  rw [if_neg (by simp), if_neg (by simpa using h3), h4, if_pos ⟨h1, h2⟩]
theorem numS_put {bs t : List UInt8} {u n : Nat} {lo hi : Int} (h : bs.drop u = vput n ++ t) (hn : n ≤ 4294967296) (h1 : lo ≤ (n : Int)) (h2 : (n : Int) ≤ hi) : numS bs lo hi (u, 0) = ((n : Int), (u + (vput n).length, 0)) ∧ bs.drop (u + (vput n).length) = t := by
  refine ⟨?_, drop_app h⟩
  unfold numS
  simp only [h, vtake_put n t hn]
  rw [if_neg (by simp), if_neg (by simp), if_pos ⟨h1, h2⟩]
theorem wordS_put {bs t : List UInt8} {u : Nat} {s : ByteArray} {may : ByteArray → Int} (h : bs.drop u = s.data.toList ++ t) (h0 : 1 ≤ s.size) (h1 : may s = 0) : wordS bs (s.size : Int) may (u, 0) = (s, (u + s.size, 0)) ∧ bs.drop (u + s.size) = t := by
  have hs : s.data.toList.length = s.size := rfl
  have hc : cutB bs u s.size = s := by
    unfold cutB
    rw [h, ← hs, List.take_left]
  have hl : s.size ≤ bs.length - u := by
    have := congrArg List.length h
    rw [List.length_drop, List.length_append] at this
    omega
  refine ⟨?_, by have := drop_app h; rwa [hs] at this⟩
  unfold wordS
  rw [if_neg (by simp), if_neg (by dsimp only; omega)]
  simp only [Int.toNat_natCast, hc, h1, if_true]

theorem byteOf_nat {n : Int} (h0 : 0 ≤ n) (h1 : n ≤ 255) : ((byteOf n).toNat : Int) = n := by
  unfold byteOf
  rw [UInt8.toNat_ofNat', Nat.mod_eq_of_lt (by omega)]
  omega
theorem size_nat {s : ByteArray} (h : s.size ≤ 255) : ((UInt8.ofNat s.size).toNat : Int) = s.size := by
  rw [UInt8.toNat_ofNat', Nat.mod_eq_of_lt (by omega)]
theorem vputI_nat (n : Nat) : vputI (n : Int) = vput n := by simp [vputI]

theorem size_nil {s : ByteArray} (h : s.size = 0) : s = ⟨#[]⟩ := by
  cases s with
  | mk d =>
    have : d = #[] := Array.eq_empty_of_size_eq_zero h
    rw [this]
theorem str_len' (s : ByteArray) : s.data.size = s.size := rfl

set_option maxHeartbeats 4000000 in
theorem field_put (e : Ev) (h : mayE e = 0) (rest : List UInt8) : fieldS (evBytes e ++ rest) (0, 0) = (e, ((evBytes e).length, 0)) := by
  have m := mayE_zero h
  have g := editE_zero m.ed
  obtain ⟨r, n, ⟨c0, c1, c2, c3, c4⟩, hh, k, key, l, v⟩ := e
  obtain ⟨r0, r4, n1, n2, h1, h2, a0, a1, a2, a3, a4, own, ed⟩ := m
  dsimp only [Ev.ed] at r0 r4 n1 n2 h1 h2 a0 a1 a2 a3 a4 g own
  obtain ⟨g1, g2, g3, g4, g5, g6, g7⟩ := g
  clear ed h
  obtain ⟨n, rfl⟩ := Int.eq_ofNat_of_zero_le (show 0 ≤ n by omega)
  obtain ⟨hh, rfl⟩ := Int.eq_ofNat_of_zero_le (show 0 ≤ hh by omega)
  obtain ⟨c0, rfl⟩ := Int.eq_ofNat_of_zero_le a0.1
  obtain ⟨c1, rfl⟩ := Int.eq_ofNat_of_zero_le a1.1
  obtain ⟨c2, rfl⟩ := Int.eq_ofNat_of_zero_le a2.1
  obtain ⟨c3, rfl⟩ := Int.eq_ofNat_of_zero_le a3.1
  obtain ⟨c4, rfl⟩ := Int.eq_ofNat_of_zero_le a4.1
  have hkey : keyE key = 0 := by unfold keyE; rw [if_pos ⟨g3, g4, g5⟩]
  have bk := byteOf_nat (n := k) (by omega) (by omega)
  have bkey := size_nat (s := key) (by omega)
  rcases (show r = 0 ∨ r = 1 ∨ r = 2 ∨ r = 3 ∨ r = 4 by omega) with rfl | rfl | rfl | rfl | rfl
  · simp only [Clk.get] at own; simp at own
    have br : ((byteOf 0).toNat : Int) = 0 := byteOf_nat (by omega) (by omega)
    cases hl : isLong k with
    | true =>
      obtain ⟨x1, x2, x3, x4⟩ := g6 hl
      have bl := byteOf_nat (n := l) (by omega) (by omega)
      have bv := size_nat (s := v) (by omega)
      have hval : valueE v = 0 := by unfold valueE; rw [if_pos ⟨x3, x4⟩]
      generalize hbs : evBytes _ ++ rest = bs
      generalize hlen : (evBytes _).length = len
      have d0 : bs.drop 0 = byteOf k :: byteOf 0 :: (vput n ++ (vput c1 ++ ( vput c2 ++ ( vput c3 ++ ( vput c4 ++ ( (vput hh ++ (UInt8.ofNat key.size :: (key.data.toList ++ (byteOf l :: UInt8.ofNat v.size :: (v.data.toList ++ rest))))))))))) := by
        rw [← hbs]; simp [evBytes, others, words, vputI_nat, hl]
      obtain ⟨e1, d1⟩ := octS_put (lo := 1) (hi := 5) d0 (by omega) (by omega)
      obtain ⟨e2, d2⟩ := octS_put (lo := 0) (hi := 4) d1 (by omega) (by omega)
      obtain ⟨e3, d3⟩ := numS_put (lo := 1) (hi := 1048576) d2 (by omega) (by omega) (by omega)
      obtain ⟨f1, d11⟩ := numS_put (lo := 0) (hi := 1048576) d3 (by omega) (by omega) (by omega)
      obtain ⟨f2, d12⟩ := numS_put (lo := 0) (hi := 1048576) d11 (by omega) (by omega) (by omega)
      obtain ⟨f3, d13⟩ := numS_put (lo := 0) (hi := 1048576) d12 (by omega) (by omega) (by omega)
      obtain ⟨f4, d14⟩ := numS_put (lo := 0) (hi := 1048576) d13 (by omega) (by omega) (by omega)
      obtain ⟨e5, d5⟩ := numS_put (lo := 1) (hi := 16777216) d14 (by omega) (by omega) (by omega)
      obtain ⟨e6, d6⟩ := octS_put (lo := 1) (hi := 8) d5 (by omega) (by omega)
      obtain ⟨e7, d7⟩ := wordS_put (may := keyE) d6 g3 hkey
      obtain ⟨e8, d8⟩ := octS_put (lo := 0) (hi := 1) d7 (by omega) (by omega)
      obtain ⟨e9, d9⟩ := octS_put (lo := 1) (hi := 12) d8 (by omega) (by omega)
      obtain ⟨e10, d10⟩ := wordS_put (may := valueE) d9 x3 hval
      rw [bk] at e1; rw [br] at e2; rw [bkey] at e6; rw [bl] at e8; rw [bv] at e9
      simp [fieldS, clockS, clkAt, skipS, Clk.setN, Clk.put, e1, e2, e3, f1, f2, f3, f4, e5, e6, e7, e8, e9, e10, hl]
      refine ⟨?_, ?_⟩
      · simp [own]
      · rw [← hlen]; simp [evBytes, others, words, vputI_nat, hl]; omega
    | false =>
      obtain ⟨x1, x2⟩ := g7 hl
      have hv0 : v = ⟨#[]⟩ := size_nil x2
      generalize hbs : evBytes _ ++ rest = bs
      generalize hlen : (evBytes _).length = len
      have d0 : bs.drop 0 = byteOf k :: byteOf 0 :: (vput n ++ (vput c1 ++ ( vput c2 ++ ( vput c3 ++ ( vput c4 ++ ( (vput hh ++ (UInt8.ofNat key.size :: (key.data.toList ++ (rest)))))))))) := by
        rw [← hbs]; simp [evBytes, others, words, vputI_nat, hl]
      obtain ⟨e1, d1⟩ := octS_put (lo := 1) (hi := 5) d0 (by omega) (by omega)
      obtain ⟨e2, d2⟩ := octS_put (lo := 0) (hi := 4) d1 (by omega) (by omega)
      obtain ⟨e3, d3⟩ := numS_put (lo := 1) (hi := 1048576) d2 (by omega) (by omega) (by omega)
      obtain ⟨f1, d11⟩ := numS_put (lo := 0) (hi := 1048576) d3 (by omega) (by omega) (by omega)
      obtain ⟨f2, d12⟩ := numS_put (lo := 0) (hi := 1048576) d11 (by omega) (by omega) (by omega)
      obtain ⟨f3, d13⟩ := numS_put (lo := 0) (hi := 1048576) d12 (by omega) (by omega) (by omega)
      obtain ⟨f4, d14⟩ := numS_put (lo := 0) (hi := 1048576) d13 (by omega) (by omega) (by omega)
      obtain ⟨e5, d5⟩ := numS_put (lo := 1) (hi := 16777216) d14 (by omega) (by omega) (by omega)
      obtain ⟨e6, d6⟩ := octS_put (lo := 1) (hi := 8) d5 (by omega) (by omega)
      obtain ⟨e7, d7⟩ := wordS_put (may := keyE) d6 g3 hkey
      rw [bk] at e1; rw [br] at e2; rw [bkey] at e6
      simp [fieldS, clockS, clkAt, skipS, Clk.setN, Clk.put, e1, e2, e3, f1, f2, f3, f4, e5, e6, e7, hl]
      refine ⟨?_, ?_⟩
      · simp [own, x1, hv0]
      · rw [← hlen]; simp [evBytes, others, words, vputI_nat, hl]; omega
  · simp only [Clk.get] at own; simp at own
    have br : ((byteOf 1).toNat : Int) = 1 := byteOf_nat (by omega) (by omega)
    cases hl : isLong k with
    | true =>
      obtain ⟨x1, x2, x3, x4⟩ := g6 hl
      have bl := byteOf_nat (n := l) (by omega) (by omega)
      have bv := size_nat (s := v) (by omega)
      have hval : valueE v = 0 := by unfold valueE; rw [if_pos ⟨x3, x4⟩]
      generalize hbs : evBytes _ ++ rest = bs
      generalize hlen : (evBytes _).length = len
      have d0 : bs.drop 0 = byteOf k :: byteOf 1 :: (vput n ++ (vput c0 ++ ( vput c2 ++ ( vput c3 ++ ( vput c4 ++ ( (vput hh ++ (UInt8.ofNat key.size :: (key.data.toList ++ (byteOf l :: UInt8.ofNat v.size :: (v.data.toList ++ rest))))))))))) := by
        rw [← hbs]; simp [evBytes, others, words, vputI_nat, hl]
      obtain ⟨e1, d1⟩ := octS_put (lo := 1) (hi := 5) d0 (by omega) (by omega)
      obtain ⟨e2, d2⟩ := octS_put (lo := 0) (hi := 4) d1 (by omega) (by omega)
      obtain ⟨e3, d3⟩ := numS_put (lo := 1) (hi := 1048576) d2 (by omega) (by omega) (by omega)
      obtain ⟨f0, d10⟩ := numS_put (lo := 0) (hi := 1048576) d3 (by omega) (by omega) (by omega)
      obtain ⟨f2, d12⟩ := numS_put (lo := 0) (hi := 1048576) d10 (by omega) (by omega) (by omega)
      obtain ⟨f3, d13⟩ := numS_put (lo := 0) (hi := 1048576) d12 (by omega) (by omega) (by omega)
      obtain ⟨f4, d14⟩ := numS_put (lo := 0) (hi := 1048576) d13 (by omega) (by omega) (by omega)
      obtain ⟨e5, d5⟩ := numS_put (lo := 1) (hi := 16777216) d14 (by omega) (by omega) (by omega)
      obtain ⟨e6, d6⟩ := octS_put (lo := 1) (hi := 8) d5 (by omega) (by omega)
      obtain ⟨e7, d7⟩ := wordS_put (may := keyE) d6 g3 hkey
      obtain ⟨e8, d8⟩ := octS_put (lo := 0) (hi := 1) d7 (by omega) (by omega)
      obtain ⟨e9, d9⟩ := octS_put (lo := 1) (hi := 12) d8 (by omega) (by omega)
      obtain ⟨e10, d10⟩ := wordS_put (may := valueE) d9 x3 hval
      rw [bk] at e1; rw [br] at e2; rw [bkey] at e6; rw [bl] at e8; rw [bv] at e9
      simp [fieldS, clockS, clkAt, skipS, Clk.setN, Clk.put, e1, e2, e3, f0, f2, f3, f4, e5, e6, e7, e8, e9, e10, hl]
      refine ⟨?_, ?_⟩
      · simp [own]
      · rw [← hlen]; simp [evBytes, others, words, vputI_nat, hl]; omega
    | false =>
      obtain ⟨x1, x2⟩ := g7 hl
      have hv0 : v = ⟨#[]⟩ := size_nil x2
      generalize hbs : evBytes _ ++ rest = bs
      generalize hlen : (evBytes _).length = len
      have d0 : bs.drop 0 = byteOf k :: byteOf 1 :: (vput n ++ (vput c0 ++ ( vput c2 ++ ( vput c3 ++ ( vput c4 ++ ( (vput hh ++ (UInt8.ofNat key.size :: (key.data.toList ++ (rest)))))))))) := by
        rw [← hbs]; simp [evBytes, others, words, vputI_nat, hl]
      obtain ⟨e1, d1⟩ := octS_put (lo := 1) (hi := 5) d0 (by omega) (by omega)
      obtain ⟨e2, d2⟩ := octS_put (lo := 0) (hi := 4) d1 (by omega) (by omega)
      obtain ⟨e3, d3⟩ := numS_put (lo := 1) (hi := 1048576) d2 (by omega) (by omega) (by omega)
      obtain ⟨f0, d10⟩ := numS_put (lo := 0) (hi := 1048576) d3 (by omega) (by omega) (by omega)
      obtain ⟨f2, d12⟩ := numS_put (lo := 0) (hi := 1048576) d10 (by omega) (by omega) (by omega)
      obtain ⟨f3, d13⟩ := numS_put (lo := 0) (hi := 1048576) d12 (by omega) (by omega) (by omega)
      obtain ⟨f4, d14⟩ := numS_put (lo := 0) (hi := 1048576) d13 (by omega) (by omega) (by omega)
      obtain ⟨e5, d5⟩ := numS_put (lo := 1) (hi := 16777216) d14 (by omega) (by omega) (by omega)
      obtain ⟨e6, d6⟩ := octS_put (lo := 1) (hi := 8) d5 (by omega) (by omega)
      obtain ⟨e7, d7⟩ := wordS_put (may := keyE) d6 g3 hkey
      rw [bk] at e1; rw [br] at e2; rw [bkey] at e6
      simp [fieldS, clockS, clkAt, skipS, Clk.setN, Clk.put, e1, e2, e3, f0, f2, f3, f4, e5, e6, e7, hl]
      refine ⟨?_, ?_⟩
      · simp [own, x1, hv0]
      · rw [← hlen]; simp [evBytes, others, words, vputI_nat, hl]; omega
  · simp only [Clk.get] at own; simp at own
    have br : ((byteOf 2).toNat : Int) = 2 := byteOf_nat (by omega) (by omega)
    cases hl : isLong k with
    | true =>
      obtain ⟨x1, x2, x3, x4⟩ := g6 hl
      have bl := byteOf_nat (n := l) (by omega) (by omega)
      have bv := size_nat (s := v) (by omega)
      have hval : valueE v = 0 := by unfold valueE; rw [if_pos ⟨x3, x4⟩]
      generalize hbs : evBytes _ ++ rest = bs
      generalize hlen : (evBytes _).length = len
      have d0 : bs.drop 0 = byteOf k :: byteOf 2 :: (vput n ++ (vput c0 ++ ( vput c1 ++ ( vput c3 ++ ( vput c4 ++ ( (vput hh ++ (UInt8.ofNat key.size :: (key.data.toList ++ (byteOf l :: UInt8.ofNat v.size :: (v.data.toList ++ rest))))))))))) := by
        rw [← hbs]; simp [evBytes, others, words, vputI_nat, hl]
      obtain ⟨e1, d1⟩ := octS_put (lo := 1) (hi := 5) d0 (by omega) (by omega)
      obtain ⟨e2, d2⟩ := octS_put (lo := 0) (hi := 4) d1 (by omega) (by omega)
      obtain ⟨e3, d3⟩ := numS_put (lo := 1) (hi := 1048576) d2 (by omega) (by omega) (by omega)
      obtain ⟨f0, d10⟩ := numS_put (lo := 0) (hi := 1048576) d3 (by omega) (by omega) (by omega)
      obtain ⟨f1, d11⟩ := numS_put (lo := 0) (hi := 1048576) d10 (by omega) (by omega) (by omega)
      obtain ⟨f3, d13⟩ := numS_put (lo := 0) (hi := 1048576) d11 (by omega) (by omega) (by omega)
      obtain ⟨f4, d14⟩ := numS_put (lo := 0) (hi := 1048576) d13 (by omega) (by omega) (by omega)
      obtain ⟨e5, d5⟩ := numS_put (lo := 1) (hi := 16777216) d14 (by omega) (by omega) (by omega)
      obtain ⟨e6, d6⟩ := octS_put (lo := 1) (hi := 8) d5 (by omega) (by omega)
      obtain ⟨e7, d7⟩ := wordS_put (may := keyE) d6 g3 hkey
      obtain ⟨e8, d8⟩ := octS_put (lo := 0) (hi := 1) d7 (by omega) (by omega)
      obtain ⟨e9, d9⟩ := octS_put (lo := 1) (hi := 12) d8 (by omega) (by omega)
      obtain ⟨e10, d10⟩ := wordS_put (may := valueE) d9 x3 hval
      rw [bk] at e1; rw [br] at e2; rw [bkey] at e6; rw [bl] at e8; rw [bv] at e9
      simp [fieldS, clockS, clkAt, skipS, Clk.setN, Clk.put, e1, e2, e3, f0, f1, f3, f4, e5, e6, e7, e8, e9, e10, hl]
      refine ⟨?_, ?_⟩
      · simp [own]
      · rw [← hlen]; simp [evBytes, others, words, vputI_nat, hl]; omega
    | false =>
      obtain ⟨x1, x2⟩ := g7 hl
      have hv0 : v = ⟨#[]⟩ := size_nil x2
      generalize hbs : evBytes _ ++ rest = bs
      generalize hlen : (evBytes _).length = len
      have d0 : bs.drop 0 = byteOf k :: byteOf 2 :: (vput n ++ (vput c0 ++ ( vput c1 ++ ( vput c3 ++ ( vput c4 ++ ( (vput hh ++ (UInt8.ofNat key.size :: (key.data.toList ++ (rest)))))))))) := by
        rw [← hbs]; simp [evBytes, others, words, vputI_nat, hl]
      obtain ⟨e1, d1⟩ := octS_put (lo := 1) (hi := 5) d0 (by omega) (by omega)
      obtain ⟨e2, d2⟩ := octS_put (lo := 0) (hi := 4) d1 (by omega) (by omega)
      obtain ⟨e3, d3⟩ := numS_put (lo := 1) (hi := 1048576) d2 (by omega) (by omega) (by omega)
      obtain ⟨f0, d10⟩ := numS_put (lo := 0) (hi := 1048576) d3 (by omega) (by omega) (by omega)
      obtain ⟨f1, d11⟩ := numS_put (lo := 0) (hi := 1048576) d10 (by omega) (by omega) (by omega)
      obtain ⟨f3, d13⟩ := numS_put (lo := 0) (hi := 1048576) d11 (by omega) (by omega) (by omega)
      obtain ⟨f4, d14⟩ := numS_put (lo := 0) (hi := 1048576) d13 (by omega) (by omega) (by omega)
      obtain ⟨e5, d5⟩ := numS_put (lo := 1) (hi := 16777216) d14 (by omega) (by omega) (by omega)
      obtain ⟨e6, d6⟩ := octS_put (lo := 1) (hi := 8) d5 (by omega) (by omega)
      obtain ⟨e7, d7⟩ := wordS_put (may := keyE) d6 g3 hkey
      rw [bk] at e1; rw [br] at e2; rw [bkey] at e6
      simp [fieldS, clockS, clkAt, skipS, Clk.setN, Clk.put, e1, e2, e3, f0, f1, f3, f4, e5, e6, e7, hl]
      refine ⟨?_, ?_⟩
      · simp [own, x1, hv0]
      · rw [← hlen]; simp [evBytes, others, words, vputI_nat, hl]; omega
  · simp only [Clk.get] at own; simp at own
    have br : ((byteOf 3).toNat : Int) = 3 := byteOf_nat (by omega) (by omega)
    cases hl : isLong k with
    | true =>
      obtain ⟨x1, x2, x3, x4⟩ := g6 hl
      have bl := byteOf_nat (n := l) (by omega) (by omega)
      have bv := size_nat (s := v) (by omega)
      have hval : valueE v = 0 := by unfold valueE; rw [if_pos ⟨x3, x4⟩]
      generalize hbs : evBytes _ ++ rest = bs
      generalize hlen : (evBytes _).length = len
      have d0 : bs.drop 0 = byteOf k :: byteOf 3 :: (vput n ++ (vput c0 ++ ( vput c1 ++ ( vput c2 ++ ( vput c4 ++ ( (vput hh ++ (UInt8.ofNat key.size :: (key.data.toList ++ (byteOf l :: UInt8.ofNat v.size :: (v.data.toList ++ rest))))))))))) := by
        rw [← hbs]; simp [evBytes, others, words, vputI_nat, hl]
      obtain ⟨e1, d1⟩ := octS_put (lo := 1) (hi := 5) d0 (by omega) (by omega)
      obtain ⟨e2, d2⟩ := octS_put (lo := 0) (hi := 4) d1 (by omega) (by omega)
      obtain ⟨e3, d3⟩ := numS_put (lo := 1) (hi := 1048576) d2 (by omega) (by omega) (by omega)
      obtain ⟨f0, d10⟩ := numS_put (lo := 0) (hi := 1048576) d3 (by omega) (by omega) (by omega)
      obtain ⟨f1, d11⟩ := numS_put (lo := 0) (hi := 1048576) d10 (by omega) (by omega) (by omega)
      obtain ⟨f2, d12⟩ := numS_put (lo := 0) (hi := 1048576) d11 (by omega) (by omega) (by omega)
      obtain ⟨f4, d14⟩ := numS_put (lo := 0) (hi := 1048576) d12 (by omega) (by omega) (by omega)
      obtain ⟨e5, d5⟩ := numS_put (lo := 1) (hi := 16777216) d14 (by omega) (by omega) (by omega)
      obtain ⟨e6, d6⟩ := octS_put (lo := 1) (hi := 8) d5 (by omega) (by omega)
      obtain ⟨e7, d7⟩ := wordS_put (may := keyE) d6 g3 hkey
      obtain ⟨e8, d8⟩ := octS_put (lo := 0) (hi := 1) d7 (by omega) (by omega)
      obtain ⟨e9, d9⟩ := octS_put (lo := 1) (hi := 12) d8 (by omega) (by omega)
      obtain ⟨e10, d10⟩ := wordS_put (may := valueE) d9 x3 hval
      rw [bk] at e1; rw [br] at e2; rw [bkey] at e6; rw [bl] at e8; rw [bv] at e9
      simp [fieldS, clockS, clkAt, skipS, Clk.setN, Clk.put, e1, e2, e3, f0, f1, f2, f4, e5, e6, e7, e8, e9, e10, hl]
      refine ⟨?_, ?_⟩
      · simp [own]
      · rw [← hlen]; simp [evBytes, others, words, vputI_nat, hl]; omega
    | false =>
      obtain ⟨x1, x2⟩ := g7 hl
      have hv0 : v = ⟨#[]⟩ := size_nil x2
      generalize hbs : evBytes _ ++ rest = bs
      generalize hlen : (evBytes _).length = len
      have d0 : bs.drop 0 = byteOf k :: byteOf 3 :: (vput n ++ (vput c0 ++ ( vput c1 ++ ( vput c2 ++ ( vput c4 ++ ( (vput hh ++ (UInt8.ofNat key.size :: (key.data.toList ++ (rest)))))))))) := by
        rw [← hbs]; simp [evBytes, others, words, vputI_nat, hl]
      obtain ⟨e1, d1⟩ := octS_put (lo := 1) (hi := 5) d0 (by omega) (by omega)
      obtain ⟨e2, d2⟩ := octS_put (lo := 0) (hi := 4) d1 (by omega) (by omega)
      obtain ⟨e3, d3⟩ := numS_put (lo := 1) (hi := 1048576) d2 (by omega) (by omega) (by omega)
      obtain ⟨f0, d10⟩ := numS_put (lo := 0) (hi := 1048576) d3 (by omega) (by omega) (by omega)
      obtain ⟨f1, d11⟩ := numS_put (lo := 0) (hi := 1048576) d10 (by omega) (by omega) (by omega)
      obtain ⟨f2, d12⟩ := numS_put (lo := 0) (hi := 1048576) d11 (by omega) (by omega) (by omega)
      obtain ⟨f4, d14⟩ := numS_put (lo := 0) (hi := 1048576) d12 (by omega) (by omega) (by omega)
      obtain ⟨e5, d5⟩ := numS_put (lo := 1) (hi := 16777216) d14 (by omega) (by omega) (by omega)
      obtain ⟨e6, d6⟩ := octS_put (lo := 1) (hi := 8) d5 (by omega) (by omega)
      obtain ⟨e7, d7⟩ := wordS_put (may := keyE) d6 g3 hkey
      rw [bk] at e1; rw [br] at e2; rw [bkey] at e6
      simp [fieldS, clockS, clkAt, skipS, Clk.setN, Clk.put, e1, e2, e3, f0, f1, f2, f4, e5, e6, e7, hl]
      refine ⟨?_, ?_⟩
      · simp [own, x1, hv0]
      · rw [← hlen]; simp [evBytes, others, words, vputI_nat, hl]; omega
  · simp only [Clk.get] at own; simp at own
    have br : ((byteOf 4).toNat : Int) = 4 := byteOf_nat (by omega) (by omega)
    cases hl : isLong k with
    | true =>
      obtain ⟨x1, x2, x3, x4⟩ := g6 hl
      have bl := byteOf_nat (n := l) (by omega) (by omega)
      have bv := size_nat (s := v) (by omega)
      have hval : valueE v = 0 := by unfold valueE; rw [if_pos ⟨x3, x4⟩]
      generalize hbs : evBytes _ ++ rest = bs
      generalize hlen : (evBytes _).length = len
      have d0 : bs.drop 0 = byteOf k :: byteOf 4 :: (vput n ++ (vput c0 ++ ( vput c1 ++ ( vput c2 ++ ( vput c3 ++ ( (vput hh ++ (UInt8.ofNat key.size :: (key.data.toList ++ (byteOf l :: UInt8.ofNat v.size :: (v.data.toList ++ rest))))))))))) := by
        rw [← hbs]; simp [evBytes, others, words, vputI_nat, hl]
      obtain ⟨e1, d1⟩ := octS_put (lo := 1) (hi := 5) d0 (by omega) (by omega)
      obtain ⟨e2, d2⟩ := octS_put (lo := 0) (hi := 4) d1 (by omega) (by omega)
      obtain ⟨e3, d3⟩ := numS_put (lo := 1) (hi := 1048576) d2 (by omega) (by omega) (by omega)
      obtain ⟨f0, d10⟩ := numS_put (lo := 0) (hi := 1048576) d3 (by omega) (by omega) (by omega)
      obtain ⟨f1, d11⟩ := numS_put (lo := 0) (hi := 1048576) d10 (by omega) (by omega) (by omega)
      obtain ⟨f2, d12⟩ := numS_put (lo := 0) (hi := 1048576) d11 (by omega) (by omega) (by omega)
      obtain ⟨f3, d13⟩ := numS_put (lo := 0) (hi := 1048576) d12 (by omega) (by omega) (by omega)
      obtain ⟨e5, d5⟩ := numS_put (lo := 1) (hi := 16777216) d13 (by omega) (by omega) (by omega)
      obtain ⟨e6, d6⟩ := octS_put (lo := 1) (hi := 8) d5 (by omega) (by omega)
      obtain ⟨e7, d7⟩ := wordS_put (may := keyE) d6 g3 hkey
      obtain ⟨e8, d8⟩ := octS_put (lo := 0) (hi := 1) d7 (by omega) (by omega)
      obtain ⟨e9, d9⟩ := octS_put (lo := 1) (hi := 12) d8 (by omega) (by omega)
      obtain ⟨e10, d10⟩ := wordS_put (may := valueE) d9 x3 hval
      rw [bk] at e1; rw [br] at e2; rw [bkey] at e6; rw [bl] at e8; rw [bv] at e9
      simp [fieldS, clockS, clkAt, skipS, Clk.setN, Clk.put, e1, e2, e3, f0, f1, f2, f3, e5, e6, e7, e8, e9, e10, hl]
      refine ⟨?_, ?_⟩
      · simp [own]
      · rw [← hlen]; simp [evBytes, others, words, vputI_nat, hl]; omega
    | false =>
      obtain ⟨x1, x2⟩ := g7 hl
      have hv0 : v = ⟨#[]⟩ := size_nil x2
      generalize hbs : evBytes _ ++ rest = bs
      generalize hlen : (evBytes _).length = len
      have d0 : bs.drop 0 = byteOf k :: byteOf 4 :: (vput n ++ (vput c0 ++ ( vput c1 ++ ( vput c2 ++ ( vput c3 ++ ( (vput hh ++ (UInt8.ofNat key.size :: (key.data.toList ++ (rest)))))))))) := by
        rw [← hbs]; simp [evBytes, others, words, vputI_nat, hl]
      obtain ⟨e1, d1⟩ := octS_put (lo := 1) (hi := 5) d0 (by omega) (by omega)
      obtain ⟨e2, d2⟩ := octS_put (lo := 0) (hi := 4) d1 (by omega) (by omega)
      obtain ⟨e3, d3⟩ := numS_put (lo := 1) (hi := 1048576) d2 (by omega) (by omega) (by omega)
      obtain ⟨f0, d10⟩ := numS_put (lo := 0) (hi := 1048576) d3 (by omega) (by omega) (by omega)
      obtain ⟨f1, d11⟩ := numS_put (lo := 0) (hi := 1048576) d10 (by omega) (by omega) (by omega)
      obtain ⟨f2, d12⟩ := numS_put (lo := 0) (hi := 1048576) d11 (by omega) (by omega) (by omega)
      obtain ⟨f3, d13⟩ := numS_put (lo := 0) (hi := 1048576) d12 (by omega) (by omega) (by omega)
      obtain ⟨e5, d5⟩ := numS_put (lo := 1) (hi := 16777216) d13 (by omega) (by omega) (by omega)
      obtain ⟨e6, d6⟩ := octS_put (lo := 1) (hi := 8) d5 (by omega) (by omega)
      obtain ⟨e7, d7⟩ := wordS_put (may := keyE) d6 g3 hkey
      rw [bk] at e1; rw [br] at e2; rw [bkey] at e6
      simp [fieldS, clockS, clkAt, skipS, Clk.setN, Clk.put, e1, e2, e3, f0, f1, f2, f3, e5, e6, e7, hl]
      refine ⟨?_, ?_⟩
      · simp [own, x1, hv0]
      · rw [← hlen]; simp [evBytes, others, words, vputI_nat, hl]; omega
end Go.Proofs.Ytbmojelnkldecaa
