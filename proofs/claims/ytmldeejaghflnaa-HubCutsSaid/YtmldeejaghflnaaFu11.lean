/-
  Contracts of the walk: TkLawB, TkLawC, TkLawD, TkF.
-/
import Derived.Test.YtmldeejaghflnaaFu10
import Derived.Test.YtmldeejaghflnaaFu6
/-
 Plain Lean: the fields of an event,put and taken.
-/
namespace Go.Proofs.Ytmldeejaghflnaa
theorem drop_cons {bs t : List UInt8} {u : Nat} {b : UInt8} (h : bs.drop u = b :: t) : u < bs.length ∧ bs.getD u 0 = b ∧ bs.drop (u + 1) = t := by
 have hlt : u < bs.length := by
  rcases Nat.lt_or_ge u bs.length with h' | h'
  · exact h'
  · rw [List.drop_of_length_le h'] at h; cases h
 refine ⟨hlt,?_,?_⟩
 · rw [List.drop_eq_getElem_cons hlt] at h
   rw [List.getD_eq_getElem?_getD,List.getElem?_eq_getElem hlt]
   exact (List.cons.inj h).1
 · rw [List.drop_eq_getElem_cons hlt] at h
   exact (List.cons.inj h).2
theorem drop_app {bs l t : List UInt8} {u : Nat} (h : bs.drop u = l ++ t) : bs.drop (u + l.length) = t := by
 rw [← List.drop_drop,h,List.drop_left]
theorem octS_put {bs t : List UInt8} {u : Nat} {b : UInt8} {lo hi : Int} (h : bs.drop u = b :: t) (h1 : lo ≤ (b.toNat : Int)) (h2 : (b.toNat : Int) ≤ hi) : octS bs lo hi (u,0) = ((b.toNat : Int),(u + 1,0)) ∧ bs.drop (u + 1) = t := by
 obtain ⟨h3,h4,h5⟩ := drop_cons h
 refine ⟨?_,h5⟩
 unfold octS
 rw [if_neg (by simp),if_neg (by simpa using h3),h4,if_pos ⟨h1,h2⟩]
theorem numS_put {bs t : List UInt8} {u n : Nat} {lo hi : Int} (h : bs.drop u = vput n ++ t) (hn : n ≤ 4294967296) (h1 : lo ≤ (n : Int)) (h2 : (n : Int) ≤ hi) : numS bs lo hi (u,0) = ((n : Int),(u + (vput n).length,0)) ∧ bs.drop (u + (vput n).length) = t := by
 refine ⟨?_,drop_app h⟩
 unfold numS
 simp only [h,vtake_put n t hn]
 rw [if_neg (by simp),if_neg (by simp),if_pos ⟨h1,h2⟩]
theorem wordS_put {bs t : List UInt8} {u : Nat} {s : ByteArray} {may : ByteArray → Int} (h : bs.drop u = s.data.toList ++ t) (h0 : 1 ≤ s.size) (h1 : may s = 0) : wordS bs (s.size : Int) may (u,0) = (s,(u + s.size,0)) ∧ bs.drop (u + s.size) = t := by
 have hs : s.data.toList.length = s.size := rfl
 have hc : cutB bs u s.size = s := by
  unfold cutB
  rw [h,← hs,List.take_left]
 have hl : s.size ≤ bs.length - u := by
  have := congrArg List.length h
  rw [List.length_drop,List.length_append] at this
  omega
 refine ⟨?_,by have := drop_app h; rwa [hs] at this⟩
 unfold wordS
 rw [if_neg (by simp),if_neg (by dsimp only; omega)]
 simp only [Int.toNat_natCast,hc,h1,if_true]
theorem byteOf_nat {n : Int} (h0 : 0 ≤ n) (h1 : n ≤ 255) : ((byteOf n).toNat : Int) = n := by
 unfold byteOf
 rw [UInt8.toNat_ofNat',Nat.mod_eq_of_lt (by omega)]
 omega
theorem size_nat {s : ByteArray} (h : s.size ≤ 255) : ((UInt8.ofNat s.size).toNat : Int) = s.size := by
 rw [UInt8.toNat_ofNat',Nat.mod_eq_of_lt (by omega)]
theorem vputI_nat (n : Nat) : vputI (n : Int) = vput n := by simp [vputI]
theorem size_nil {s : ByteArray} (h : s.size = 0) : s = ⟨#[]⟩ := by
 cases s with
 | mk d =>
   have : d = #[] := Array.eq_empty_of_size_eq_zero h
   rw [this]
set_option maxHeartbeats 4000000 in
theorem field_put (e : Ev) (h : mayE e = 0) (rest : List UInt8) : fieldS (evBytes e ++ rest) (0,0) = (e,((evBytes e).length,0)) := by
 have m := mayE_zero h
 have g := editE_zero m.ed
 obtain ⟨r,n,⟨c0,c1,c2,c3,c4⟩,hh,k,key,l,v⟩ := e
 obtain ⟨r0,r4,n1,n2,h1,h2,a0,a1,a2,a3,a4,own,ed⟩ := m
 dsimp only [Ev.ed] at r0 r4 n1 n2 h1 h2 a0 a1 a2 a3 a4 g own
 obtain ⟨g1,g2,g3,g4,g5,g6,g7⟩ := g
 clear ed h
 obtain ⟨n,rfl⟩ := Int.eq_ofNat_of_zero_le (show 0 ≤ n by omega)
 obtain ⟨hh,rfl⟩ := Int.eq_ofNat_of_zero_le (show 0 ≤ hh by omega)
 obtain ⟨c0,rfl⟩ := Int.eq_ofNat_of_zero_le a0.1
 obtain ⟨c1,rfl⟩ := Int.eq_ofNat_of_zero_le a1.1
 obtain ⟨c2,rfl⟩ := Int.eq_ofNat_of_zero_le a2.1
 obtain ⟨c3,rfl⟩ := Int.eq_ofNat_of_zero_le a3.1
 obtain ⟨c4,rfl⟩ := Int.eq_ofNat_of_zero_le a4.1
 have hkey : keyE key = 0 := by unfold keyE; rw [if_pos ⟨g3,g4,g5⟩]
 have bk := byteOf_nat (n := k) (by omega) (by omega)
 have bkey := size_nat (s := key) (by omega)
 rcases (show r = 0 ∨ r = 1 ∨ r = 2 ∨ r = 3 ∨ r = 4 by omega) with rfl | rfl | rfl | rfl | rfl
 · simp only [Clk.get] at own; simp at own
   have br : ((byteOf 0).toNat : Int) = 0 := byteOf_nat (by omega) (by omega)
   cases hl : isLong k with
   | true =>
     obtain ⟨x1,x2,x3,x4⟩ := g6 hl
     have bl := byteOf_nat (n := l) (by omega) (by omega)
     have bv := size_nat (s := v) (by omega)
     have hval : valueE v = 0 := by unfold valueE; rw [if_pos ⟨x3,x4⟩]
     generalize hbs : evBytes _ ++ rest = bs
     generalize hlen : (evBytes _).length = len
     have d0 : bs.drop 0 = byteOf k :: byteOf 0 :: (vput n ++ (vput c1 ++ ( vput c2 ++ ( vput c3 ++ ( vput c4 ++ ( (vput hh ++ (UInt8.ofNat key.size :: (key.data.toList ++ (byteOf l :: UInt8.ofNat v.size :: (v.data.toList ++ rest))))))))))) := by
      rw [← hbs]; simp [evBytes,others,words,vputI_nat,hl]
     obtain ⟨e1,d1⟩ := octS_put (lo := 1) (hi := 5) d0 (by omega) (by omega)
     obtain ⟨e2,d2⟩ := octS_put (lo := 0) (hi := 4) d1 (by omega) (by omega)
     obtain ⟨e3,d3⟩ := numS_put (lo := 1) (hi := 1048576) d2 (by omega) (by omega) (by omega)
     obtain ⟨f1,d11⟩ := numS_put (lo := 0) (hi := 1048576) d3 (by omega) (by omega) (by omega)
     obtain ⟨f2,d12⟩ := numS_put (lo := 0) (hi := 1048576) d11 (by omega) (by omega) (by omega)
     obtain ⟨f3,d13⟩ := numS_put (lo := 0) (hi := 1048576) d12 (by omega) (by omega) (by omega)
     obtain ⟨f4,d14⟩ := numS_put (lo := 0) (hi := 1048576) d13 (by omega) (by omega) (by omega)
     obtain ⟨e5,d5⟩ := numS_put (lo := 1) (hi := 16777216) d14 (by omega) (by omega) (by omega)
     obtain ⟨e6,d6⟩ := octS_put (lo := 1) (hi := 8) d5 (by omega) (by omega)
     obtain ⟨e7,d7⟩ := wordS_put (may := keyE) d6 g3 hkey
     obtain ⟨e8,d8⟩ := octS_put (lo := 0) (hi := 1) d7 (by omega) (by omega)
     obtain ⟨e9,d9⟩ := octS_put (lo := 1) (hi := 12) d8 (by omega) (by omega)
     obtain ⟨e10,d10⟩ := wordS_put (may := valueE) d9 x3 hval
     rw [bk] at e1; rw [br] at e2; rw [bkey] at e6; rw [bl] at e8; rw [bv] at e9
     simp [fieldS,clockS,clkAt,skipS,Clk.setN,Clk.put,e1,e2,e3,f1,f2,f3,f4,e5,e6,e7,e8,e9,e10,hl]
     refine ⟨?_,?_⟩
     · simp [own]
     · rw [← hlen]; simp [evBytes,others,words,vputI_nat,hl]; omega
   | false =>
     obtain ⟨x1,x2⟩ := g7 hl
     have hv0 : v = ⟨#[]⟩ := size_nil x2
     generalize hbs : evBytes _ ++ rest = bs
     generalize hlen : (evBytes _).length = len
     have d0 : bs.drop 0 = byteOf k :: byteOf 0 :: (vput n ++ (vput c1 ++ ( vput c2 ++ ( vput c3 ++ ( vput c4 ++ ( (vput hh ++ (UInt8.ofNat key.size :: (key.data.toList ++ (rest)))))))))) := by
      rw [← hbs]; simp [evBytes,others,words,vputI_nat,hl]
     obtain ⟨e1,d1⟩ := octS_put (lo := 1) (hi := 5) d0 (by omega) (by omega)
     obtain ⟨e2,d2⟩ := octS_put (lo := 0) (hi := 4) d1 (by omega) (by omega)
     obtain ⟨e3,d3⟩ := numS_put (lo := 1) (hi := 1048576) d2 (by omega) (by omega) (by omega)
     obtain ⟨f1,d11⟩ := numS_put (lo := 0) (hi := 1048576) d3 (by omega) (by omega) (by omega)
     obtain ⟨f2,d12⟩ := numS_put (lo := 0) (hi := 1048576) d11 (by omega) (by omega) (by omega)
     obtain ⟨f3,d13⟩ := numS_put (lo := 0) (hi := 1048576) d12 (by omega) (by omega) (by omega)
     obtain ⟨f4,d14⟩ := numS_put (lo := 0) (hi := 1048576) d13 (by omega) (by omega) (by omega)
     obtain ⟨e5,d5⟩ := numS_put (lo := 1) (hi := 16777216) d14 (by omega) (by omega) (by omega)
     obtain ⟨e6,d6⟩ := octS_put (lo := 1) (hi := 8) d5 (by omega) (by omega)
     obtain ⟨e7,d7⟩ := wordS_put (may := keyE) d6 g3 hkey
     rw [bk] at e1; rw [br] at e2; rw [bkey] at e6
     simp [fieldS,clockS,clkAt,skipS,Clk.setN,Clk.put,e1,e2,e3,f1,f2,f3,f4,e5,e6,e7,hl]
     refine ⟨?_,?_⟩
     · simp [own,x1,hv0]
     · rw [← hlen]; simp [evBytes,others,words,vputI_nat,hl]; omega
 · simp only [Clk.get] at own; simp at own
   have br : ((byteOf 1).toNat : Int) = 1 := byteOf_nat (by omega) (by omega)
   cases hl : isLong k with
   | true =>
     obtain ⟨x1,x2,x3,x4⟩ := g6 hl
     have bl := byteOf_nat (n := l) (by omega) (by omega)
     have bv := size_nat (s := v) (by omega)
     have hval : valueE v = 0 := by unfold valueE; rw [if_pos ⟨x3,x4⟩]
     generalize hbs : evBytes _ ++ rest = bs
     generalize hlen : (evBytes _).length = len
     have d0 : bs.drop 0 = byteOf k :: byteOf 1 :: (vput n ++ (vput c0 ++ ( vput c2 ++ ( vput c3 ++ ( vput c4 ++ ( (vput hh ++ (UInt8.ofNat key.size :: (key.data.toList ++ (byteOf l :: UInt8.ofNat v.size :: (v.data.toList ++ rest))))))))))) := by
      rw [← hbs]; simp [evBytes,others,words,vputI_nat,hl]
     obtain ⟨e1,d1⟩ := octS_put (lo := 1) (hi := 5) d0 (by omega) (by omega)
     obtain ⟨e2,d2⟩ := octS_put (lo := 0) (hi := 4) d1 (by omega) (by omega)
     obtain ⟨e3,d3⟩ := numS_put (lo := 1) (hi := 1048576) d2 (by omega) (by omega) (by omega)
     obtain ⟨f0,d10⟩ := numS_put (lo := 0) (hi := 1048576) d3 (by omega) (by omega) (by omega)
     obtain ⟨f2,d12⟩ := numS_put (lo := 0) (hi := 1048576) d10 (by omega) (by omega) (by omega)
     obtain ⟨f3,d13⟩ := numS_put (lo := 0) (hi := 1048576) d12 (by omega) (by omega) (by omega)
     obtain ⟨f4,d14⟩ := numS_put (lo := 0) (hi := 1048576) d13 (by omega) (by omega) (by omega)
     obtain ⟨e5,d5⟩ := numS_put (lo := 1) (hi := 16777216) d14 (by omega) (by omega) (by omega)
     obtain ⟨e6,d6⟩ := octS_put (lo := 1) (hi := 8) d5 (by omega) (by omega)
     obtain ⟨e7,d7⟩ := wordS_put (may := keyE) d6 g3 hkey
     obtain ⟨e8,d8⟩ := octS_put (lo := 0) (hi := 1) d7 (by omega) (by omega)
     obtain ⟨e9,d9⟩ := octS_put (lo := 1) (hi := 12) d8 (by omega) (by omega)
     obtain ⟨e10,d10⟩ := wordS_put (may := valueE) d9 x3 hval
     rw [bk] at e1; rw [br] at e2; rw [bkey] at e6; rw [bl] at e8; rw [bv] at e9
     simp [fieldS,clockS,clkAt,skipS,Clk.setN,Clk.put,e1,e2,e3,f0,f2,f3,f4,e5,e6,e7,e8,e9,e10,hl]
     refine ⟨?_,?_⟩
     · simp [own]
     · rw [← hlen]; simp [evBytes,others,words,vputI_nat,hl]; omega
   | false =>
     obtain ⟨x1,x2⟩ := g7 hl
     have hv0 : v = ⟨#[]⟩ := size_nil x2
     generalize hbs : evBytes _ ++ rest = bs
     generalize hlen : (evBytes _).length = len
     have d0 : bs.drop 0 = byteOf k :: byteOf 1 :: (vput n ++ (vput c0 ++ ( vput c2 ++ ( vput c3 ++ ( vput c4 ++ ( (vput hh ++ (UInt8.ofNat key.size :: (key.data.toList ++ (rest)))))))))) := by
      rw [← hbs]; simp [evBytes,others,words,vputI_nat,hl]
     obtain ⟨e1,d1⟩ := octS_put (lo := 1) (hi := 5) d0 (by omega) (by omega)
     obtain ⟨e2,d2⟩ := octS_put (lo := 0) (hi := 4) d1 (by omega) (by omega)
     obtain ⟨e3,d3⟩ := numS_put (lo := 1) (hi := 1048576) d2 (by omega) (by omega) (by omega)
     obtain ⟨f0,d10⟩ := numS_put (lo := 0) (hi := 1048576) d3 (by omega) (by omega) (by omega)
     obtain ⟨f2,d12⟩ := numS_put (lo := 0) (hi := 1048576) d10 (by omega) (by omega) (by omega)
     obtain ⟨f3,d13⟩ := numS_put (lo := 0) (hi := 1048576) d12 (by omega) (by omega) (by omega)
     obtain ⟨f4,d14⟩ := numS_put (lo := 0) (hi := 1048576) d13 (by omega) (by omega) (by omega)
     obtain ⟨e5,d5⟩ := numS_put (lo := 1) (hi := 16777216) d14 (by omega) (by omega) (by omega)
     obtain ⟨e6,d6⟩ := octS_put (lo := 1) (hi := 8) d5 (by omega) (by omega)
     obtain ⟨e7,d7⟩ := wordS_put (may := keyE) d6 g3 hkey
     rw [bk] at e1; rw [br] at e2; rw [bkey] at e6
     simp [fieldS,clockS,clkAt,skipS,Clk.setN,Clk.put,e1,e2,e3,f0,f2,f3,f4,e5,e6,e7,hl]
     refine ⟨?_,?_⟩
     · simp [own,x1,hv0]
     · rw [← hlen]; simp [evBytes,others,words,vputI_nat,hl]; omega
 · simp only [Clk.get] at own; simp at own
   have br : ((byteOf 2).toNat : Int) = 2 := byteOf_nat (by omega) (by omega)
   cases hl : isLong k with
   | true =>
     obtain ⟨x1,x2,x3,x4⟩ := g6 hl
     have bl := byteOf_nat (n := l) (by omega) (by omega)
     have bv := size_nat (s := v) (by omega)
     have hval : valueE v = 0 := by unfold valueE; rw [if_pos ⟨x3,x4⟩]
     generalize hbs : evBytes _ ++ rest = bs
     generalize hlen : (evBytes _).length = len
     have d0 : bs.drop 0 = byteOf k :: byteOf 2 :: (vput n ++ (vput c0 ++ ( vput c1 ++ ( vput c3 ++ ( vput c4 ++ ( (vput hh ++ (UInt8.ofNat key.size :: (key.data.toList ++ (byteOf l :: UInt8.ofNat v.size :: (v.data.toList ++ rest))))))))))) := by
      rw [← hbs]; simp [evBytes,others,words,vputI_nat,hl]
     obtain ⟨e1,d1⟩ := octS_put (lo := 1) (hi := 5) d0 (by omega) (by omega)
     obtain ⟨e2,d2⟩ := octS_put (lo := 0) (hi := 4) d1 (by omega) (by omega)
     obtain ⟨e3,d3⟩ := numS_put (lo := 1) (hi := 1048576) d2 (by omega) (by omega) (by omega)
     obtain ⟨f0,d10⟩ := numS_put (lo := 0) (hi := 1048576) d3 (by omega) (by omega) (by omega)
     obtain ⟨f1,d11⟩ := numS_put (lo := 0) (hi := 1048576) d10 (by omega) (by omega) (by omega)
     obtain ⟨f3,d13⟩ := numS_put (lo := 0) (hi := 1048576) d11 (by omega) (by omega) (by omega)
     obtain ⟨f4,d14⟩ := numS_put (lo := 0) (hi := 1048576) d13 (by omega) (by omega) (by omega)
     obtain ⟨e5,d5⟩ := numS_put (lo := 1) (hi := 16777216) d14 (by omega) (by omega) (by omega)
     obtain ⟨e6,d6⟩ := octS_put (lo := 1) (hi := 8) d5 (by omega) (by omega)
     obtain ⟨e7,d7⟩ := wordS_put (may := keyE) d6 g3 hkey
     obtain ⟨e8,d8⟩ := octS_put (lo := 0) (hi := 1) d7 (by omega) (by omega)
     obtain ⟨e9,d9⟩ := octS_put (lo := 1) (hi := 12) d8 (by omega) (by omega)
     obtain ⟨e10,d10⟩ := wordS_put (may := valueE) d9 x3 hval
     rw [bk] at e1; rw [br] at e2; rw [bkey] at e6; rw [bl] at e8; rw [bv] at e9
     simp [fieldS,clockS,clkAt,skipS,Clk.setN,Clk.put,e1,e2,e3,f0,f1,f3,f4,e5,e6,e7,e8,e9,e10,hl]
     refine ⟨?_,?_⟩
     · simp [own]
     · rw [← hlen]; simp [evBytes,others,words,vputI_nat,hl]; omega
   | false =>
     obtain ⟨x1,x2⟩ := g7 hl
     have hv0 : v = ⟨#[]⟩ := size_nil x2
     generalize hbs : evBytes _ ++ rest = bs
     generalize hlen : (evBytes _).length = len
     have d0 : bs.drop 0 = byteOf k :: byteOf 2 :: (vput n ++ (vput c0 ++ ( vput c1 ++ ( vput c3 ++ ( vput c4 ++ ( (vput hh ++ (UInt8.ofNat key.size :: (key.data.toList ++ (rest)))))))))) := by
      rw [← hbs]; simp [evBytes,others,words,vputI_nat,hl]
     obtain ⟨e1,d1⟩ := octS_put (lo := 1) (hi := 5) d0 (by omega) (by omega)
     obtain ⟨e2,d2⟩ := octS_put (lo := 0) (hi := 4) d1 (by omega) (by omega)
     obtain ⟨e3,d3⟩ := numS_put (lo := 1) (hi := 1048576) d2 (by omega) (by omega) (by omega)
     obtain ⟨f0,d10⟩ := numS_put (lo := 0) (hi := 1048576) d3 (by omega) (by omega) (by omega)
     obtain ⟨f1,d11⟩ := numS_put (lo := 0) (hi := 1048576) d10 (by omega) (by omega) (by omega)
     obtain ⟨f3,d13⟩ := numS_put (lo := 0) (hi := 1048576) d11 (by omega) (by omega) (by omega)
     obtain ⟨f4,d14⟩ := numS_put (lo := 0) (hi := 1048576) d13 (by omega) (by omega) (by omega)
     obtain ⟨e5,d5⟩ := numS_put (lo := 1) (hi := 16777216) d14 (by omega) (by omega) (by omega)
     obtain ⟨e6,d6⟩ := octS_put (lo := 1) (hi := 8) d5 (by omega) (by omega)
     obtain ⟨e7,d7⟩ := wordS_put (may := keyE) d6 g3 hkey
     rw [bk] at e1; rw [br] at e2; rw [bkey] at e6
     simp [fieldS,clockS,clkAt,skipS,Clk.setN,Clk.put,e1,e2,e3,f0,f1,f3,f4,e5,e6,e7,hl]
     refine ⟨?_,?_⟩
     · simp [own,x1,hv0]
     · rw [← hlen]; simp [evBytes,others,words,vputI_nat,hl]; omega
 · simp only [Clk.get] at own; simp at own
   have br : ((byteOf 3).toNat : Int) = 3 := byteOf_nat (by omega) (by omega)
   cases hl : isLong k with
   | true =>
     obtain ⟨x1,x2,x3,x4⟩ := g6 hl
     have bl := byteOf_nat (n := l) (by omega) (by omega)
     have bv := size_nat (s := v) (by omega)
     have hval : valueE v = 0 := by unfold valueE; rw [if_pos ⟨x3,x4⟩]
     generalize hbs : evBytes _ ++ rest = bs
     generalize hlen : (evBytes _).length = len
     have d0 : bs.drop 0 = byteOf k :: byteOf 3 :: (vput n ++ (vput c0 ++ ( vput c1 ++ ( vput c2 ++ ( vput c4 ++ ( (vput hh ++ (UInt8.ofNat key.size :: (key.data.toList ++ (byteOf l :: UInt8.ofNat v.size :: (v.data.toList ++ rest))))))))))) := by
      rw [← hbs]; simp [evBytes,others,words,vputI_nat,hl]
     obtain ⟨e1,d1⟩ := octS_put (lo := 1) (hi := 5) d0 (by omega) (by omega)
     obtain ⟨e2,d2⟩ := octS_put (lo := 0) (hi := 4) d1 (by omega) (by omega)
     obtain ⟨e3,d3⟩ := numS_put (lo := 1) (hi := 1048576) d2 (by omega) (by omega) (by omega)
     obtain ⟨f0,d10⟩ := numS_put (lo := 0) (hi := 1048576) d3 (by omega) (by omega) (by omega)
     obtain ⟨f1,d11⟩ := numS_put (lo := 0) (hi := 1048576) d10 (by omega) (by omega) (by omega)
     obtain ⟨f2,d12⟩ := numS_put (lo := 0) (hi := 1048576) d11 (by omega) (by omega) (by omega)
     obtain ⟨f4,d14⟩ := numS_put (lo := 0) (hi := 1048576) d12 (by omega) (by omega) (by omega)
     obtain ⟨e5,d5⟩ := numS_put (lo := 1) (hi := 16777216) d14 (by omega) (by omega) (by omega)
     obtain ⟨e6,d6⟩ := octS_put (lo := 1) (hi := 8) d5 (by omega) (by omega)
     obtain ⟨e7,d7⟩ := wordS_put (may := keyE) d6 g3 hkey
     obtain ⟨e8,d8⟩ := octS_put (lo := 0) (hi := 1) d7 (by omega) (by omega)
     obtain ⟨e9,d9⟩ := octS_put (lo := 1) (hi := 12) d8 (by omega) (by omega)
     obtain ⟨e10,d10⟩ := wordS_put (may := valueE) d9 x3 hval
     rw [bk] at e1; rw [br] at e2; rw [bkey] at e6; rw [bl] at e8; rw [bv] at e9
     simp [fieldS,clockS,clkAt,skipS,Clk.setN,Clk.put,e1,e2,e3,f0,f1,f2,f4,e5,e6,e7,e8,e9,e10,hl]
     refine ⟨?_,?_⟩
     · simp [own]
     · rw [← hlen]; simp [evBytes,others,words,vputI_nat,hl]; omega
   | false =>
     obtain ⟨x1,x2⟩ := g7 hl
     have hv0 : v = ⟨#[]⟩ := size_nil x2
     generalize hbs : evBytes _ ++ rest = bs
     generalize hlen : (evBytes _).length = len
     have d0 : bs.drop 0 = byteOf k :: byteOf 3 :: (vput n ++ (vput c0 ++ ( vput c1 ++ ( vput c2 ++ ( vput c4 ++ ( (vput hh ++ (UInt8.ofNat key.size :: (key.data.toList ++ (rest)))))))))) := by
      rw [← hbs]; simp [evBytes,others,words,vputI_nat,hl]
     obtain ⟨e1,d1⟩ := octS_put (lo := 1) (hi := 5) d0 (by omega) (by omega)
     obtain ⟨e2,d2⟩ := octS_put (lo := 0) (hi := 4) d1 (by omega) (by omega)
     obtain ⟨e3,d3⟩ := numS_put (lo := 1) (hi := 1048576) d2 (by omega) (by omega) (by omega)
     obtain ⟨f0,d10⟩ := numS_put (lo := 0) (hi := 1048576) d3 (by omega) (by omega) (by omega)
     obtain ⟨f1,d11⟩ := numS_put (lo := 0) (hi := 1048576) d10 (by omega) (by omega) (by omega)
     obtain ⟨f2,d12⟩ := numS_put (lo := 0) (hi := 1048576) d11 (by omega) (by omega) (by omega)
     obtain ⟨f4,d14⟩ := numS_put (lo := 0) (hi := 1048576) d12 (by omega) (by omega) (by omega)
     obtain ⟨e5,d5⟩ := numS_put (lo := 1) (hi := 16777216) d14 (by omega) (by omega) (by omega)
     obtain ⟨e6,d6⟩ := octS_put (lo := 1) (hi := 8) d5 (by omega) (by omega)
     obtain ⟨e7,d7⟩ := wordS_put (may := keyE) d6 g3 hkey
     rw [bk] at e1; rw [br] at e2; rw [bkey] at e6
     simp [fieldS,clockS,clkAt,skipS,Clk.setN,Clk.put,e1,e2,e3,f0,f1,f2,f4,e5,e6,e7,hl]
     refine ⟨?_,?_⟩
     · simp [own,x1,hv0]
     · rw [← hlen]; simp [evBytes,others,words,vputI_nat,hl]; omega
 · simp only [Clk.get] at own; simp at own
   have br : ((byteOf 4).toNat : Int) = 4 := byteOf_nat (by omega) (by omega)
   cases hl : isLong k with
   | true =>
     obtain ⟨x1,x2,x3,x4⟩ := g6 hl
     have bl := byteOf_nat (n := l) (by omega) (by omega)
     have bv := size_nat (s := v) (by omega)
     have hval : valueE v = 0 := by unfold valueE; rw [if_pos ⟨x3,x4⟩]
     generalize hbs : evBytes _ ++ rest = bs
     generalize hlen : (evBytes _).length = len
     have d0 : bs.drop 0 = byteOf k :: byteOf 4 :: (vput n ++ (vput c0 ++ ( vput c1 ++ ( vput c2 ++ ( vput c3 ++ ( (vput hh ++ (UInt8.ofNat key.size :: (key.data.toList ++ (byteOf l :: UInt8.ofNat v.size :: (v.data.toList ++ rest))))))))))) := by
      rw [← hbs]; simp [evBytes,others,words,vputI_nat,hl]
     obtain ⟨e1,d1⟩ := octS_put (lo := 1) (hi := 5) d0 (by omega) (by omega)
     obtain ⟨e2,d2⟩ := octS_put (lo := 0) (hi := 4) d1 (by omega) (by omega)
     obtain ⟨e3,d3⟩ := numS_put (lo := 1) (hi := 1048576) d2 (by omega) (by omega) (by omega)
     obtain ⟨f0,d10⟩ := numS_put (lo := 0) (hi := 1048576) d3 (by omega) (by omega) (by omega)
     obtain ⟨f1,d11⟩ := numS_put (lo := 0) (hi := 1048576) d10 (by omega) (by omega) (by omega)
     obtain ⟨f2,d12⟩ := numS_put (lo := 0) (hi := 1048576) d11 (by omega) (by omega) (by omega)
     obtain ⟨f3,d13⟩ := numS_put (lo := 0) (hi := 1048576) d12 (by omega) (by omega) (by omega)
     obtain ⟨e5,d5⟩ := numS_put (lo := 1) (hi := 16777216) d13 (by omega) (by omega) (by omega)
     obtain ⟨e6,d6⟩ := octS_put (lo := 1) (hi := 8) d5 (by omega) (by omega)
     obtain ⟨e7,d7⟩ := wordS_put (may := keyE) d6 g3 hkey
     obtain ⟨e8,d8⟩ := octS_put (lo := 0) (hi := 1) d7 (by omega) (by omega)
     obtain ⟨e9,d9⟩ := octS_put (lo := 1) (hi := 12) d8 (by omega) (by omega)
     obtain ⟨e10,d10⟩ := wordS_put (may := valueE) d9 x3 hval
     rw [bk] at e1; rw [br] at e2; rw [bkey] at e6; rw [bl] at e8; rw [bv] at e9
     simp [fieldS,clockS,clkAt,skipS,Clk.setN,Clk.put,e1,e2,e3,f0,f1,f2,f3,e5,e6,e7,e8,e9,e10,hl]
     refine ⟨?_,?_⟩
     · simp [own]
     · rw [← hlen]; simp [evBytes,others,words,vputI_nat,hl]; omega
   | false =>
     obtain ⟨x1,x2⟩ := g7 hl
     have hv0 : v = ⟨#[]⟩ := size_nil x2
     generalize hbs : evBytes _ ++ rest = bs
     generalize hlen : (evBytes _).length = len
     have d0 : bs.drop 0 = byteOf k :: byteOf 4 :: (vput n ++ (vput c0 ++ ( vput c1 ++ ( vput c2 ++ ( vput c3 ++ ( (vput hh ++ (UInt8.ofNat key.size :: (key.data.toList ++ (rest)))))))))) := by
      rw [← hbs]; simp [evBytes,others,words,vputI_nat,hl]
     obtain ⟨e1,d1⟩ := octS_put (lo := 1) (hi := 5) d0 (by omega) (by omega)
     obtain ⟨e2,d2⟩ := octS_put (lo := 0) (hi := 4) d1 (by omega) (by omega)
     obtain ⟨e3,d3⟩ := numS_put (lo := 1) (hi := 1048576) d2 (by omega) (by omega) (by omega)
     obtain ⟨f0,d10⟩ := numS_put (lo := 0) (hi := 1048576) d3 (by omega) (by omega) (by omega)
     obtain ⟨f1,d11⟩ := numS_put (lo := 0) (hi := 1048576) d10 (by omega) (by omega) (by omega)
     obtain ⟨f2,d12⟩ := numS_put (lo := 0) (hi := 1048576) d11 (by omega) (by omega) (by omega)
     obtain ⟨f3,d13⟩ := numS_put (lo := 0) (hi := 1048576) d12 (by omega) (by omega) (by omega)
     obtain ⟨e5,d5⟩ := numS_put (lo := 1) (hi := 16777216) d13 (by omega) (by omega) (by omega)
     obtain ⟨e6,d6⟩ := octS_put (lo := 1) (hi := 8) d5 (by omega) (by omega)
     obtain ⟨e7,d7⟩ := wordS_put (may := keyE) d6 g3 hkey
     rw [bk] at e1; rw [br] at e2; rw [bkey] at e6
     simp [fieldS,clockS,clkAt,skipS,Clk.setN,Clk.put,e1,e2,e3,f0,f1,f2,f3,e5,e6,e7,hl]
     refine ⟨?_,?_⟩
     · simp [own,x1,hv0]
     · rw [← hlen]; simp [evBytes,others,words,vputI_nat,hl]; omega
end Go.Proofs.Ytmldeejaghflnaa

/-
 Plain Lean: what is taken was put.
-/
namespace Go.Proofs.Ytmldeejaghflnaa
theorem octS_ok {bs : List UInt8} {lo hi c : Int} {s s' : St} (h : octS bs lo hi s = (c,s')) (h0 : s'.2 = 0) : s.2 = 0 ∧ lo ≤ c ∧ c ≤ hi ∧ 0 ≤ c ∧ c ≤ 255 ∧ s'.1 ≤ bs.length ∧ bs.drop s.1 = byteOf c :: bs.drop s'.1 := by
 unfold octS at h
 split at h
 · rename_i h1; cases h; exact absurd h0 h1
 · rename_i h1
   split at h
   · cases h; cases h0
   · rename_i h2
     split at h
     · rename_i h3
       cases h
       have hb := UInt8.toNat_lt (bs.getD s.1 0)
       refine ⟨by simpa using h1,h3.1,h3.2,by omega,by omega,by dsimp only; omega,?_⟩
       have hlt : s.1 < bs.length := by omega
       rw [List.drop_eq_getElem_cons hlt]
       congr 1
       apply u8_eq
       have := byteOf_nat (n := ((bs.getD s.1 0).toNat : Int)) (by omega) (by omega)
       have e : bs.getD s.1 0 = bs[s.1] := by rw [List.getD_eq_getElem?_getD,List.getElem?_eq_getElem hlt]; rfl
       rw [e] at this ⊢
       omega
     · cases h; cases h0
theorem numS_ok {bs : List UInt8} {lo hi c : Int} {s s' : St} (h : numS bs lo hi s = (c,s')) (h0 : s'.2 = 0) (hs : s.1 ≤ bs.length) : s.2 = 0 ∧ lo ≤ c ∧ c ≤ hi ∧ 0 ≤ c ∧ s'.1 ≤ bs.length ∧ bs.drop s.1 = vputI c ++ bs.drop s'.1 := by
 unfold numS at h
 split at h
 · rename_i h1; cases h; exact absurd h0 h1
 · rename_i h1
   split at h
   · rename_i h2; cases h; exact absurd h0 h2
   · rename_i h2
     split at h
     · rename_i h3
       cases h
       have h2' : (vtake (bs.drop s.1)).2.2 = 0 := by simpa using h2
       obtain ⟨k1,k2,k3⟩ := vtake_ok (l := bs.drop s.1) (m := (vtake (bs.drop s.1)).1) (k := (vtake (bs.drop s.1)).2.1) (by rw [← h2'])
       rw [List.length_drop] at k2
       refine ⟨by simpa using h1,h3.1,h3.2,by omega,by dsimp only; omega,?_⟩
       have e : vputI (((vtake (bs.drop s.1)).1 : Nat) : Int) = vput (vtake (bs.drop s.1)).1 := vputI_nat _
       rw [e,← k3,← List.drop_drop,List.take_append_drop]
     · cases h; cases h0
theorem wordS_ok {bs : List UInt8} {sz : Int} {may : ByteArray → Int} {c : ByteArray} {s s' : St} (h : wordS bs sz may s = (c,s')) (h0 : s'.2 = 0) (hs : s.1 ≤ bs.length) (hz : 0 ≤ sz) : s.2 = 0 ∧ (c.size : Int) = sz ∧ may c = 0 ∧ s'.1 ≤ bs.length ∧ bs.drop s.1 = c.data.toList ++ bs.drop s'.1 := by
 unfold wordS at h
 split at h
 · rename_i h1; cases h; exact absurd h0 h1
 · rename_i h1
   split at h
   · cases h; cases h0
   · rename_i h2
     cases h
     dsimp only at h0
     have h3 : may (cutB bs s.1 sz.toNat) = 0 := by
      split at h0
      · assumption
      · cases h0
     refine ⟨by simpa using h1,?_,h3,by dsimp only; omega,?_⟩
     · show ((cutB bs s.1 sz.toNat).data.size : Int) = sz
       simp only [cutB,List.size_toArray,List.length_take,List.length_drop]
       omega
     · simp only [cutB]
       rw [← List.drop_drop,List.take_append_drop]
theorem isLong_k {k : Int} (h : isLong k = false) : k = 1 ∨ k = 2 := by
 simp only [isLong,Bool.and_eq_false_iff,bne_eq_false_iff_eq] at h
 exact h
theorem keyE_ok' {s : ByteArray} (h : keyE s = 0) : 1 ≤ s.size ∧ s.size ≤ 8 ∧ lettersB s = true := by
 unfold keyE at h
 split at h
 · assumption
 · cases h
theorem words_eq (s : ByteArray) {c : Int} (h : (s.size : Int) = c) : byteOf c :: s.data.toList = words s := by
 subst h
 simp [words,byteOf]
theorem editE_short {e : Ed} (h1 : 1 ≤ e.k ∧ e.k ≤ 5) (h2 : keyE e.key = 0) (h3 : e.k = 1 ∨ e.k = 2) (h4 : e.l = 0) (h5 : e.v.size = 0) : editE e = 0 := by
 unfold editE
 rw [if_neg (by omega),if_neg (by simp [h2]),if_pos h3,if_neg (by simp [h4]),if_neg (by simp [h5])]
theorem editE_long {e : Ed} (h1 : 1 ≤ e.k ∧ e.k ≤ 5) (h2 : keyE e.key = 0) (h3 : isLong e.k = true) (h4 : 0 ≤ e.l ∧ e.l < 2) (h5 : valueE e.v = 0) : editE e = 0 := by
 have hk : ¬ (e.k = 1 ∨ e.k = 2) := by
  simp only [isLong,Bool.and_eq_true,bne_iff_ne,ne_eq] at h3
  omega
 have hlab : labelE e.l = 0 := by unfold labelE; rw [if_pos h4]
 unfold editE
 rw [if_neg (by omega),if_neg (by simp [h2]),if_neg hk,if_neg (by simp [hlab]),h5]
theorem octS_z {bs : List UInt8} {lo hi c : Int} {s s' : St} (h : octS bs lo hi s = (c,s')) (h0 : s'.2 = 0) : s.2 = 0 := (octS_ok h h0).1
theorem numS_z {bs : List UInt8} {lo hi c : Int} {s s' : St} (h : numS bs lo hi s = (c,s')) (h0 : s'.2 = 0) : s.2 = 0 := by
 unfold numS at h
 split at h
 · rename_i h1; cases h; exact absurd h0 h1
 · rename_i h1; simpa using h1
theorem wordS_z {bs : List UInt8} {sz : Int} {may : ByteArray → Int} {c : ByteArray} {s s' : St} (h : wordS bs sz may s = (c,s')) (h0 : s'.2 = 0) : s.2 = 0 := by
 unfold wordS at h
 split at h
 · rename_i h1; cases h; exact absurd h0 h1
 · rename_i h1; simpa using h1
theorem take_eq {bs l : List UInt8} {m : Nat} (_hm : m ≤ bs.length) (h : bs = l ++ bs.drop m) : bs.take m = l := by
 have h1 : bs = bs.take m ++ bs.drop m := (List.take_append_drop m bs).symm
 exact List.append_cancel_right (h1.symm.trans h)
set_option maxHeartbeats 4000000 in
theorem field_ok (bs : List UInt8) {e : Ev} {m : Nat} (h : fieldS bs (0,0) = (e,(m,0))) : mayE e = 0 ∧ m ≤ bs.length ∧ bs.take m = evBytes e := by
 obtain ⟨⟨k,s1⟩,e1⟩ : ∃ p,octS bs 1 5 (0,0) = p := ⟨_,rfl⟩
 obtain ⟨⟨R,s2⟩,e2⟩ : ∃ p,octS bs 0 4 s1 = p := ⟨_,rfl⟩
 obtain ⟨⟨N,s3⟩,e3⟩ : ∃ p,numS bs 1 1048576 s2 = p := ⟨_,rfl⟩
 have hR0 := octS_range (bs := bs) (lo := 0) (hi := 4) (s := s1)
 rw [e2] at hR0
 rcases (show R = 0 ∨ R = 1 ∨ R = 2 ∨ R = 3 ∨ R = 4 by simp only at hR0; omega) with rfl | rfl | rfl | rfl | rfl
 · obtain ⟨⟨c1,t2⟩,f1⟩ : ∃ p,numS bs 0 1048576 s3 = p := ⟨_,rfl⟩
   obtain ⟨⟨c2,t3⟩,f2⟩ : ∃ p,numS bs 0 1048576 t2 = p := ⟨_,rfl⟩
   obtain ⟨⟨c3,t4⟩,f3⟩ : ∃ p,numS bs 0 1048576 t3 = p := ⟨_,rfl⟩
   obtain ⟨⟨c4,t5⟩,f4⟩ : ∃ p,numS bs 0 1048576 t4 = p := ⟨_,rfl⟩
   obtain ⟨⟨H,s5⟩,e5⟩ : ∃ p,numS bs 1 16777216 t5 = p := ⟨_,rfl⟩
   obtain ⟨⟨ks,s6⟩,e6⟩ : ∃ p,octS bs 1 8 s5 = p := ⟨_,rfl⟩
   obtain ⟨⟨key,s7⟩,e7⟩ : ∃ p,wordS bs ks keyE s6 = p := ⟨_,rfl⟩
   obtain ⟨⟨l,s8⟩,e8⟩ : ∃ p,octS bs 0 1 s7 = p := ⟨_,rfl⟩
   obtain ⟨⟨vs,s9⟩,e9⟩ : ∃ p,octS bs 1 12 s8 = p := ⟨_,rfl⟩
   obtain ⟨⟨v,s10⟩,e10⟩ : ∃ p,wordS bs vs valueE s9 = p := ⟨_,rfl⟩
   have hF : fieldS bs (0,0) = if isLong k then (⟨0,N,⟨N - 1,c1,c2,c3,c4⟩,H,k,key,l,v⟩,s10) else (⟨0,N,⟨N - 1,c1,c2,c3,c4⟩,H,k,key,0,⟨#[]⟩⟩,s7) := by
    simp [fieldS,clockS,clkAt,skipS,Clk.setN,Clk.put,e1,e2,e3,f1,f2,f3,f4,e5,e6,e7,e8,e9,e10]
   rw [hF] at h
   cases hl : isLong k with
   | false =>
     rw [hl] at h
     simp only [Bool.false_eq_true,if_false,Prod.mk.injEq] at h
     obtain ⟨rfl,hs⟩ := h
     have y7 : s7.2 = 0 := by rw [hs]
     have hm : s7.1 = m := by rw [hs]
     have y6 := (wordS_z e7 y7)
     have y5 := (octS_z e6 y6)
     have yp := (numS_z e5 y5)
     have yt4 := (numS_z f4 yp)
     have yt3 := (numS_z f3 yt4)
     have yt2 := (numS_z f2 yt3)
     have y3 := (numS_z f1 yt2)
     have y2 := (numS_z e3 y3)
     have y1 := (octS_z e2 y2)
     obtain ⟨_,k1,k2,_,_,u1,b1⟩ := octS_ok e1 y1
     obtain ⟨_,r1,r2,_,_,u2,b2⟩ := octS_ok e2 y2
     obtain ⟨_,n1,n2,_,u3,b3⟩ := numS_ok e3 y3 u2
     obtain ⟨_,m1,mm1,_,v1,g1⟩ := numS_ok f1 yt2 u3
     obtain ⟨_,m2,mm2,_,v2,g2⟩ := numS_ok f2 yt3 v1
     obtain ⟨_,m3,mm3,_,v3,g3⟩ := numS_ok f3 yt4 v2
     obtain ⟨_,m4,mm4,_,v4,g4⟩ := numS_ok f4 yp v3
     obtain ⟨_,h1,h2,_,u5,b5⟩ := numS_ok e5 y5 v4
     obtain ⟨_,k3,k4,k5,_,u6,b6⟩ := octS_ok e6 y6
     obtain ⟨_,q1,q2,u7,b7⟩ := wordS_ok e7 y7 u6 k5
     obtain ⟨q3,q4,q5⟩ := keyE_ok' q2
     refine ⟨mayE_of ⟨by dsimp only; omega,by dsimp only; omega,n1,n2,h1,h2,by dsimp only; omega,by dsimp only; omega,by dsimp only; omega,by dsimp only; omega,by dsimp only; omega,by simp [Clk.get],?_⟩,by rw [← hm]; exact u7,?_⟩
     · exact editE_short (e := ⟨k,key,0,⟨#[]⟩⟩) ⟨by dsimp only; omega,by dsimp only; omega⟩ q2 (isLong_k hl) rfl rfl
     · refine take_eq (by rw [← hm]; exact u7) (l := evBytes _) ?_
       rw [← hm]
       have b0 : bs = bs.drop (0,(0 : Int)).1 := rfl
       conv => lhs; rw [b0,b1,b2,b3,g1,g2,g3,g4,b5,b6,b7]
       simp [evBytes,others,hl,← words_eq key q1]
   | true =>
     rw [hl] at h
     simp only [if_true,Prod.mk.injEq] at h
     obtain ⟨rfl,hs⟩ := h
     have y10 : s10.2 = 0 := by rw [hs]
     have hm : s10.1 = m := by rw [hs]
     have y9 := (wordS_z e10 y10)
     have y8 := (octS_z e9 y9)
     have y7 := (octS_z e8 y8)
     have y6 := (wordS_z e7 y7)
     have y5 := (octS_z e6 y6)
     have yp := (numS_z e5 y5)
     have yt4 := (numS_z f4 yp)
     have yt3 := (numS_z f3 yt4)
     have yt2 := (numS_z f2 yt3)
     have y3 := (numS_z f1 yt2)
     have y2 := (numS_z e3 y3)
     have y1 := (octS_z e2 y2)
     obtain ⟨_,k1,k2,_,_,u1,b1⟩ := octS_ok e1 y1
     obtain ⟨_,r1,r2,_,_,u2,b2⟩ := octS_ok e2 y2
     obtain ⟨_,n1,n2,_,u3,b3⟩ := numS_ok e3 y3 u2
     obtain ⟨_,m1,mm1,_,v1,g1⟩ := numS_ok f1 yt2 u3
     obtain ⟨_,m2,mm2,_,v2,g2⟩ := numS_ok f2 yt3 v1
     obtain ⟨_,m3,mm3,_,v3,g3⟩ := numS_ok f3 yt4 v2
     obtain ⟨_,m4,mm4,_,v4,g4⟩ := numS_ok f4 yp v3
     obtain ⟨_,h1,h2,_,u5,b5⟩ := numS_ok e5 y5 v4
     obtain ⟨_,k3,k4,k5,_,u6,b6⟩ := octS_ok e6 y6
     obtain ⟨_,q1,q2,u7,b7⟩ := wordS_ok e7 y7 u6 k5
     obtain ⟨q3,q4,q5⟩ := keyE_ok' q2
     obtain ⟨_,l1,l2,_,_,u8,b8⟩ := octS_ok e8 y8
     obtain ⟨_,l3,l4,l5,_,u9,b9⟩ := octS_ok e9 y9
     obtain ⟨_,p1,p2,u10,b10⟩ := wordS_ok e10 y10 u9 l5
     refine ⟨mayE_of ⟨by dsimp only; omega,by dsimp only; omega,n1,n2,h1,h2,by dsimp only; omega,by dsimp only; omega,by dsimp only; omega,by dsimp only; omega,by dsimp only; omega,by simp [Clk.get],?_⟩,by rw [← hm]; exact u10,?_⟩
     · exact editE_long (e := ⟨k,key,l,v⟩) ⟨by dsimp only; omega,by dsimp only; omega⟩ q2 hl (by dsimp only; omega) p2
     · refine take_eq (by rw [← hm]; exact u10) (l := evBytes _) ?_
       rw [← hm]
       have b0 : bs = bs.drop (0,(0 : Int)).1 := rfl
       conv => lhs; rw [b0,b1,b2,b3,g1,g2,g3,g4,b5,b6,b7,b8,b9,b10]
       simp [evBytes,others,hl,← words_eq key q1,← words_eq v p1]
 · obtain ⟨⟨c0,t1⟩,f0⟩ : ∃ p,numS bs 0 1048576 s3 = p := ⟨_,rfl⟩
   obtain ⟨⟨c2,t3⟩,f2⟩ : ∃ p,numS bs 0 1048576 t1 = p := ⟨_,rfl⟩
   obtain ⟨⟨c3,t4⟩,f3⟩ : ∃ p,numS bs 0 1048576 t3 = p := ⟨_,rfl⟩
   obtain ⟨⟨c4,t5⟩,f4⟩ : ∃ p,numS bs 0 1048576 t4 = p := ⟨_,rfl⟩
   obtain ⟨⟨H,s5⟩,e5⟩ : ∃ p,numS bs 1 16777216 t5 = p := ⟨_,rfl⟩
   obtain ⟨⟨ks,s6⟩,e6⟩ : ∃ p,octS bs 1 8 s5 = p := ⟨_,rfl⟩
   obtain ⟨⟨key,s7⟩,e7⟩ : ∃ p,wordS bs ks keyE s6 = p := ⟨_,rfl⟩
   obtain ⟨⟨l,s8⟩,e8⟩ : ∃ p,octS bs 0 1 s7 = p := ⟨_,rfl⟩
   obtain ⟨⟨vs,s9⟩,e9⟩ : ∃ p,octS bs 1 12 s8 = p := ⟨_,rfl⟩
   obtain ⟨⟨v,s10⟩,e10⟩ : ∃ p,wordS bs vs valueE s9 = p := ⟨_,rfl⟩
   have hF : fieldS bs (0,0) = if isLong k then (⟨1,N,⟨c0,N - 1,c2,c3,c4⟩,H,k,key,l,v⟩,s10) else (⟨1,N,⟨c0,N - 1,c2,c3,c4⟩,H,k,key,0,⟨#[]⟩⟩,s7) := by
    simp [fieldS,clockS,clkAt,skipS,Clk.setN,Clk.put,e1,e2,e3,f0,f2,f3,f4,e5,e6,e7,e8,e9,e10]
   rw [hF] at h
   cases hl : isLong k with
   | false =>
     rw [hl] at h
     simp only [Bool.false_eq_true,if_false,Prod.mk.injEq] at h
     obtain ⟨rfl,hs⟩ := h
     have y7 : s7.2 = 0 := by rw [hs]
     have hm : s7.1 = m := by rw [hs]
     have y6 := (wordS_z e7 y7)
     have y5 := (octS_z e6 y6)
     have yp := (numS_z e5 y5)
     have yt4 := (numS_z f4 yp)
     have yt3 := (numS_z f3 yt4)
     have yt2 := (numS_z f2 yt3)
     have y3 := (numS_z f0 yt2)
     have y2 := (numS_z e3 y3)
     have y1 := (octS_z e2 y2)
     obtain ⟨_,k1,k2,_,_,u1,b1⟩ := octS_ok e1 y1
     obtain ⟨_,r1,r2,_,_,u2,b2⟩ := octS_ok e2 y2
     obtain ⟨_,n1,n2,_,u3,b3⟩ := numS_ok e3 y3 u2
     obtain ⟨_,m0,mm0,_,v0,g0⟩ := numS_ok f0 yt2 u3
     obtain ⟨_,m2,mm2,_,v2,g2⟩ := numS_ok f2 yt3 v0
     obtain ⟨_,m3,mm3,_,v3,g3⟩ := numS_ok f3 yt4 v2
     obtain ⟨_,m4,mm4,_,v4,g4⟩ := numS_ok f4 yp v3
     obtain ⟨_,h1,h2,_,u5,b5⟩ := numS_ok e5 y5 v4
     obtain ⟨_,k3,k4,k5,_,u6,b6⟩ := octS_ok e6 y6
     obtain ⟨_,q1,q2,u7,b7⟩ := wordS_ok e7 y7 u6 k5
     obtain ⟨q3,q4,q5⟩ := keyE_ok' q2
     refine ⟨mayE_of ⟨by dsimp only; omega,by dsimp only; omega,n1,n2,h1,h2,by dsimp only; omega,by dsimp only; omega,by dsimp only; omega,by dsimp only; omega,by dsimp only; omega,by simp [Clk.get],?_⟩,by rw [← hm]; exact u7,?_⟩
     · exact editE_short (e := ⟨k,key,0,⟨#[]⟩⟩) ⟨by dsimp only; omega,by dsimp only; omega⟩ q2 (isLong_k hl) rfl rfl
     · refine take_eq (by rw [← hm]; exact u7) (l := evBytes _) ?_
       rw [← hm]
       have b0 : bs = bs.drop (0,(0 : Int)).1 := rfl
       conv => lhs; rw [b0,b1,b2,b3,g0,g2,g3,g4,b5,b6,b7]
       simp [evBytes,others,hl,← words_eq key q1]
   | true =>
     rw [hl] at h
     simp only [if_true,Prod.mk.injEq] at h
     obtain ⟨rfl,hs⟩ := h
     have y10 : s10.2 = 0 := by rw [hs]
     have hm : s10.1 = m := by rw [hs]
     have y9 := (wordS_z e10 y10)
     have y8 := (octS_z e9 y9)
     have y7 := (octS_z e8 y8)
     have y6 := (wordS_z e7 y7)
     have y5 := (octS_z e6 y6)
     have yp := (numS_z e5 y5)
     have yt4 := (numS_z f4 yp)
     have yt3 := (numS_z f3 yt4)
     have yt2 := (numS_z f2 yt3)
     have y3 := (numS_z f0 yt2)
     have y2 := (numS_z e3 y3)
     have y1 := (octS_z e2 y2)
     obtain ⟨_,k1,k2,_,_,u1,b1⟩ := octS_ok e1 y1
     obtain ⟨_,r1,r2,_,_,u2,b2⟩ := octS_ok e2 y2
     obtain ⟨_,n1,n2,_,u3,b3⟩ := numS_ok e3 y3 u2
     obtain ⟨_,m0,mm0,_,v0,g0⟩ := numS_ok f0 yt2 u3
     obtain ⟨_,m2,mm2,_,v2,g2⟩ := numS_ok f2 yt3 v0
     obtain ⟨_,m3,mm3,_,v3,g3⟩ := numS_ok f3 yt4 v2
     obtain ⟨_,m4,mm4,_,v4,g4⟩ := numS_ok f4 yp v3
     obtain ⟨_,h1,h2,_,u5,b5⟩ := numS_ok e5 y5 v4
     obtain ⟨_,k3,k4,k5,_,u6,b6⟩ := octS_ok e6 y6
     obtain ⟨_,q1,q2,u7,b7⟩ := wordS_ok e7 y7 u6 k5
     obtain ⟨q3,q4,q5⟩ := keyE_ok' q2
     obtain ⟨_,l1,l2,_,_,u8,b8⟩ := octS_ok e8 y8
     obtain ⟨_,l3,l4,l5,_,u9,b9⟩ := octS_ok e9 y9
     obtain ⟨_,p1,p2,u10,b10⟩ := wordS_ok e10 y10 u9 l5
     refine ⟨mayE_of ⟨by dsimp only; omega,by dsimp only; omega,n1,n2,h1,h2,by dsimp only; omega,by dsimp only; omega,by dsimp only; omega,by dsimp only; omega,by dsimp only; omega,by simp [Clk.get],?_⟩,by rw [← hm]; exact u10,?_⟩
     · exact editE_long (e := ⟨k,key,l,v⟩) ⟨by dsimp only; omega,by dsimp only; omega⟩ q2 hl (by dsimp only; omega) p2
     · refine take_eq (by rw [← hm]; exact u10) (l := evBytes _) ?_
       rw [← hm]
       have b0 : bs = bs.drop (0,(0 : Int)).1 := rfl
       conv => lhs; rw [b0,b1,b2,b3,g0,g2,g3,g4,b5,b6,b7,b8,b9,b10]
       simp [evBytes,others,hl,← words_eq key q1,← words_eq v p1]
 · obtain ⟨⟨c0,t1⟩,f0⟩ : ∃ p,numS bs 0 1048576 s3 = p := ⟨_,rfl⟩
   obtain ⟨⟨c1,t2⟩,f1⟩ : ∃ p,numS bs 0 1048576 t1 = p := ⟨_,rfl⟩
   obtain ⟨⟨c3,t4⟩,f3⟩ : ∃ p,numS bs 0 1048576 t2 = p := ⟨_,rfl⟩
   obtain ⟨⟨c4,t5⟩,f4⟩ : ∃ p,numS bs 0 1048576 t4 = p := ⟨_,rfl⟩
   obtain ⟨⟨H,s5⟩,e5⟩ : ∃ p,numS bs 1 16777216 t5 = p := ⟨_,rfl⟩
   obtain ⟨⟨ks,s6⟩,e6⟩ : ∃ p,octS bs 1 8 s5 = p := ⟨_,rfl⟩
   obtain ⟨⟨key,s7⟩,e7⟩ : ∃ p,wordS bs ks keyE s6 = p := ⟨_,rfl⟩
   obtain ⟨⟨l,s8⟩,e8⟩ : ∃ p,octS bs 0 1 s7 = p := ⟨_,rfl⟩
   obtain ⟨⟨vs,s9⟩,e9⟩ : ∃ p,octS bs 1 12 s8 = p := ⟨_,rfl⟩
   obtain ⟨⟨v,s10⟩,e10⟩ : ∃ p,wordS bs vs valueE s9 = p := ⟨_,rfl⟩
   have hF : fieldS bs (0,0) = if isLong k then (⟨2,N,⟨c0,c1,N - 1,c3,c4⟩,H,k,key,l,v⟩,s10) else (⟨2,N,⟨c0,c1,N - 1,c3,c4⟩,H,k,key,0,⟨#[]⟩⟩,s7) := by
    simp [fieldS,clockS,clkAt,skipS,Clk.setN,Clk.put,e1,e2,e3,f0,f1,f3,f4,e5,e6,e7,e8,e9,e10]
   rw [hF] at h
   cases hl : isLong k with
   | false =>
     rw [hl] at h
     simp only [Bool.false_eq_true,if_false,Prod.mk.injEq] at h
     obtain ⟨rfl,hs⟩ := h
     have y7 : s7.2 = 0 := by rw [hs]
     have hm : s7.1 = m := by rw [hs]
     have y6 := (wordS_z e7 y7)
     have y5 := (octS_z e6 y6)
     have yp := (numS_z e5 y5)
     have yt4 := (numS_z f4 yp)
     have yt3 := (numS_z f3 yt4)
     have yt1 := (numS_z f1 yt3)
     have y3 := (numS_z f0 yt1)
     have y2 := (numS_z e3 y3)
     have y1 := (octS_z e2 y2)
     obtain ⟨_,k1,k2,_,_,u1,b1⟩ := octS_ok e1 y1
     obtain ⟨_,r1,r2,_,_,u2,b2⟩ := octS_ok e2 y2
     obtain ⟨_,n1,n2,_,u3,b3⟩ := numS_ok e3 y3 u2
     obtain ⟨_,m0,mm0,_,v0,g0⟩ := numS_ok f0 yt1 u3
     obtain ⟨_,m1,mm1,_,v1,g1⟩ := numS_ok f1 yt3 v0
     obtain ⟨_,m3,mm3,_,v3,g3⟩ := numS_ok f3 yt4 v1
     obtain ⟨_,m4,mm4,_,v4,g4⟩ := numS_ok f4 yp v3
     obtain ⟨_,h1,h2,_,u5,b5⟩ := numS_ok e5 y5 v4
     obtain ⟨_,k3,k4,k5,_,u6,b6⟩ := octS_ok e6 y6
     obtain ⟨_,q1,q2,u7,b7⟩ := wordS_ok e7 y7 u6 k5
     obtain ⟨q3,q4,q5⟩ := keyE_ok' q2
     refine ⟨mayE_of ⟨by dsimp only; omega,by dsimp only; omega,n1,n2,h1,h2,by dsimp only; omega,by dsimp only; omega,by dsimp only; omega,by dsimp only; omega,by dsimp only; omega,by simp [Clk.get],?_⟩,by rw [← hm]; exact u7,?_⟩
     · exact editE_short (e := ⟨k,key,0,⟨#[]⟩⟩) ⟨by dsimp only; omega,by dsimp only; omega⟩ q2 (isLong_k hl) rfl rfl
     · refine take_eq (by rw [← hm]; exact u7) (l := evBytes _) ?_
       rw [← hm]
       have b0 : bs = bs.drop (0,(0 : Int)).1 := rfl
       conv => lhs; rw [b0,b1,b2,b3,g0,g1,g3,g4,b5,b6,b7]
       simp [evBytes,others,hl,← words_eq key q1]
   | true =>
     rw [hl] at h
     simp only [if_true,Prod.mk.injEq] at h
     obtain ⟨rfl,hs⟩ := h
     have y10 : s10.2 = 0 := by rw [hs]
     have hm : s10.1 = m := by rw [hs]
     have y9 := (wordS_z e10 y10)
     have y8 := (octS_z e9 y9)
     have y7 := (octS_z e8 y8)
     have y6 := (wordS_z e7 y7)
     have y5 := (octS_z e6 y6)
     have yp := (numS_z e5 y5)
     have yt4 := (numS_z f4 yp)
     have yt3 := (numS_z f3 yt4)
     have yt1 := (numS_z f1 yt3)
     have y3 := (numS_z f0 yt1)
     have y2 := (numS_z e3 y3)
     have y1 := (octS_z e2 y2)
     obtain ⟨_,k1,k2,_,_,u1,b1⟩ := octS_ok e1 y1
     obtain ⟨_,r1,r2,_,_,u2,b2⟩ := octS_ok e2 y2
     obtain ⟨_,n1,n2,_,u3,b3⟩ := numS_ok e3 y3 u2
     obtain ⟨_,m0,mm0,_,v0,g0⟩ := numS_ok f0 yt1 u3
     obtain ⟨_,m1,mm1,_,v1,g1⟩ := numS_ok f1 yt3 v0
     obtain ⟨_,m3,mm3,_,v3,g3⟩ := numS_ok f3 yt4 v1
     obtain ⟨_,m4,mm4,_,v4,g4⟩ := numS_ok f4 yp v3
     obtain ⟨_,h1,h2,_,u5,b5⟩ := numS_ok e5 y5 v4
     obtain ⟨_,k3,k4,k5,_,u6,b6⟩ := octS_ok e6 y6
     obtain ⟨_,q1,q2,u7,b7⟩ := wordS_ok e7 y7 u6 k5
     obtain ⟨q3,q4,q5⟩ := keyE_ok' q2
     obtain ⟨_,l1,l2,_,_,u8,b8⟩ := octS_ok e8 y8
     obtain ⟨_,l3,l4,l5,_,u9,b9⟩ := octS_ok e9 y9
     obtain ⟨_,p1,p2,u10,b10⟩ := wordS_ok e10 y10 u9 l5
     refine ⟨mayE_of ⟨by dsimp only; omega,by dsimp only; omega,n1,n2,h1,h2,by dsimp only; omega,by dsimp only; omega,by dsimp only; omega,by dsimp only; omega,by dsimp only; omega,by simp [Clk.get],?_⟩,by rw [← hm]; exact u10,?_⟩
     · exact editE_long (e := ⟨k,key,l,v⟩) ⟨by dsimp only; omega,by dsimp only; omega⟩ q2 hl (by dsimp only; omega) p2
     · refine take_eq (by rw [← hm]; exact u10) (l := evBytes _) ?_
       rw [← hm]
       have b0 : bs = bs.drop (0,(0 : Int)).1 := rfl
       conv => lhs; rw [b0,b1,b2,b3,g0,g1,g3,g4,b5,b6,b7,b8,b9,b10]
       simp [evBytes,others,hl,← words_eq key q1,← words_eq v p1]
 · obtain ⟨⟨c0,t1⟩,f0⟩ : ∃ p,numS bs 0 1048576 s3 = p := ⟨_,rfl⟩
   obtain ⟨⟨c1,t2⟩,f1⟩ : ∃ p,numS bs 0 1048576 t1 = p := ⟨_,rfl⟩
   obtain ⟨⟨c2,t3⟩,f2⟩ : ∃ p,numS bs 0 1048576 t2 = p := ⟨_,rfl⟩
   obtain ⟨⟨c4,t5⟩,f4⟩ : ∃ p,numS bs 0 1048576 t3 = p := ⟨_,rfl⟩
   obtain ⟨⟨H,s5⟩,e5⟩ : ∃ p,numS bs 1 16777216 t5 = p := ⟨_,rfl⟩
   obtain ⟨⟨ks,s6⟩,e6⟩ : ∃ p,octS bs 1 8 s5 = p := ⟨_,rfl⟩
   obtain ⟨⟨key,s7⟩,e7⟩ : ∃ p,wordS bs ks keyE s6 = p := ⟨_,rfl⟩
   obtain ⟨⟨l,s8⟩,e8⟩ : ∃ p,octS bs 0 1 s7 = p := ⟨_,rfl⟩
   obtain ⟨⟨vs,s9⟩,e9⟩ : ∃ p,octS bs 1 12 s8 = p := ⟨_,rfl⟩
   obtain ⟨⟨v,s10⟩,e10⟩ : ∃ p,wordS bs vs valueE s9 = p := ⟨_,rfl⟩
   have hF : fieldS bs (0,0) = if isLong k then (⟨3,N,⟨c0,c1,c2,N - 1,c4⟩,H,k,key,l,v⟩,s10) else (⟨3,N,⟨c0,c1,c2,N - 1,c4⟩,H,k,key,0,⟨#[]⟩⟩,s7) := by
    simp [fieldS,clockS,clkAt,skipS,Clk.setN,Clk.put,e1,e2,e3,f0,f1,f2,f4,e5,e6,e7,e8,e9,e10]
   rw [hF] at h
   cases hl : isLong k with
   | false =>
     rw [hl] at h
     simp only [Bool.false_eq_true,if_false,Prod.mk.injEq] at h
     obtain ⟨rfl,hs⟩ := h
     have y7 : s7.2 = 0 := by rw [hs]
     have hm : s7.1 = m := by rw [hs]
     have y6 := (wordS_z e7 y7)
     have y5 := (octS_z e6 y6)
     have yp := (numS_z e5 y5)
     have yt4 := (numS_z f4 yp)
     have yt2 := (numS_z f2 yt4)
     have yt1 := (numS_z f1 yt2)
     have y3 := (numS_z f0 yt1)
     have y2 := (numS_z e3 y3)
     have y1 := (octS_z e2 y2)
     obtain ⟨_,k1,k2,_,_,u1,b1⟩ := octS_ok e1 y1
     obtain ⟨_,r1,r2,_,_,u2,b2⟩ := octS_ok e2 y2
     obtain ⟨_,n1,n2,_,u3,b3⟩ := numS_ok e3 y3 u2
     obtain ⟨_,m0,mm0,_,v0,g0⟩ := numS_ok f0 yt1 u3
     obtain ⟨_,m1,mm1,_,v1,g1⟩ := numS_ok f1 yt2 v0
     obtain ⟨_,m2,mm2,_,v2,g2⟩ := numS_ok f2 yt4 v1
     obtain ⟨_,m4,mm4,_,v4,g4⟩ := numS_ok f4 yp v2
     obtain ⟨_,h1,h2,_,u5,b5⟩ := numS_ok e5 y5 v4
     obtain ⟨_,k3,k4,k5,_,u6,b6⟩ := octS_ok e6 y6
     obtain ⟨_,q1,q2,u7,b7⟩ := wordS_ok e7 y7 u6 k5
     obtain ⟨q3,q4,q5⟩ := keyE_ok' q2
     refine ⟨mayE_of ⟨by dsimp only; omega,by dsimp only; omega,n1,n2,h1,h2,by dsimp only; omega,by dsimp only; omega,by dsimp only; omega,by dsimp only; omega,by dsimp only; omega,by simp [Clk.get],?_⟩,by rw [← hm]; exact u7,?_⟩
     · exact editE_short (e := ⟨k,key,0,⟨#[]⟩⟩) ⟨by dsimp only; omega,by dsimp only; omega⟩ q2 (isLong_k hl) rfl rfl
     · refine take_eq (by rw [← hm]; exact u7) (l := evBytes _) ?_
       rw [← hm]
       have b0 : bs = bs.drop (0,(0 : Int)).1 := rfl
       conv => lhs; rw [b0,b1,b2,b3,g0,g1,g2,g4,b5,b6,b7]
       simp [evBytes,others,hl,← words_eq key q1]
   | true =>
     rw [hl] at h
     simp only [if_true,Prod.mk.injEq] at h
     obtain ⟨rfl,hs⟩ := h
     have y10 : s10.2 = 0 := by rw [hs]
     have hm : s10.1 = m := by rw [hs]
     have y9 := (wordS_z e10 y10)
     have y8 := (octS_z e9 y9)
     have y7 := (octS_z e8 y8)
     have y6 := (wordS_z e7 y7)
     have y5 := (octS_z e6 y6)
     have yp := (numS_z e5 y5)
     have yt4 := (numS_z f4 yp)
     have yt2 := (numS_z f2 yt4)
     have yt1 := (numS_z f1 yt2)
     have y3 := (numS_z f0 yt1)
     have y2 := (numS_z e3 y3)
     have y1 := (octS_z e2 y2)
     obtain ⟨_,k1,k2,_,_,u1,b1⟩ := octS_ok e1 y1
     obtain ⟨_,r1,r2,_,_,u2,b2⟩ := octS_ok e2 y2
     obtain ⟨_,n1,n2,_,u3,b3⟩ := numS_ok e3 y3 u2
     obtain ⟨_,m0,mm0,_,v0,g0⟩ := numS_ok f0 yt1 u3
     obtain ⟨_,m1,mm1,_,v1,g1⟩ := numS_ok f1 yt2 v0
     obtain ⟨_,m2,mm2,_,v2,g2⟩ := numS_ok f2 yt4 v1
     obtain ⟨_,m4,mm4,_,v4,g4⟩ := numS_ok f4 yp v2
     obtain ⟨_,h1,h2,_,u5,b5⟩ := numS_ok e5 y5 v4
     obtain ⟨_,k3,k4,k5,_,u6,b6⟩ := octS_ok e6 y6
     obtain ⟨_,q1,q2,u7,b7⟩ := wordS_ok e7 y7 u6 k5
     obtain ⟨q3,q4,q5⟩ := keyE_ok' q2
     obtain ⟨_,l1,l2,_,_,u8,b8⟩ := octS_ok e8 y8
     obtain ⟨_,l3,l4,l5,_,u9,b9⟩ := octS_ok e9 y9
     obtain ⟨_,p1,p2,u10,b10⟩ := wordS_ok e10 y10 u9 l5
     refine ⟨mayE_of ⟨by dsimp only; omega,by dsimp only; omega,n1,n2,h1,h2,by dsimp only; omega,by dsimp only; omega,by dsimp only; omega,by dsimp only; omega,by dsimp only; omega,by simp [Clk.get],?_⟩,by rw [← hm]; exact u10,?_⟩
     · exact editE_long (e := ⟨k,key,l,v⟩) ⟨by dsimp only; omega,by dsimp only; omega⟩ q2 hl (by dsimp only; omega) p2
     · refine take_eq (by rw [← hm]; exact u10) (l := evBytes _) ?_
       rw [← hm]
       have b0 : bs = bs.drop (0,(0 : Int)).1 := rfl
       conv => lhs; rw [b0,b1,b2,b3,g0,g1,g2,g4,b5,b6,b7,b8,b9,b10]
       simp [evBytes,others,hl,← words_eq key q1,← words_eq v p1]
 · obtain ⟨⟨c0,t1⟩,f0⟩ : ∃ p,numS bs 0 1048576 s3 = p := ⟨_,rfl⟩
   obtain ⟨⟨c1,t2⟩,f1⟩ : ∃ p,numS bs 0 1048576 t1 = p := ⟨_,rfl⟩
   obtain ⟨⟨c2,t3⟩,f2⟩ : ∃ p,numS bs 0 1048576 t2 = p := ⟨_,rfl⟩
   obtain ⟨⟨c3,t4⟩,f3⟩ : ∃ p,numS bs 0 1048576 t3 = p := ⟨_,rfl⟩
   obtain ⟨⟨H,s5⟩,e5⟩ : ∃ p,numS bs 1 16777216 t4 = p := ⟨_,rfl⟩
   obtain ⟨⟨ks,s6⟩,e6⟩ : ∃ p,octS bs 1 8 s5 = p := ⟨_,rfl⟩
   obtain ⟨⟨key,s7⟩,e7⟩ : ∃ p,wordS bs ks keyE s6 = p := ⟨_,rfl⟩
   obtain ⟨⟨l,s8⟩,e8⟩ : ∃ p,octS bs 0 1 s7 = p := ⟨_,rfl⟩
   obtain ⟨⟨vs,s9⟩,e9⟩ : ∃ p,octS bs 1 12 s8 = p := ⟨_,rfl⟩
   obtain ⟨⟨v,s10⟩,e10⟩ : ∃ p,wordS bs vs valueE s9 = p := ⟨_,rfl⟩
   have hF : fieldS bs (0,0) = if isLong k then (⟨4,N,⟨c0,c1,c2,c3,N - 1⟩,H,k,key,l,v⟩,s10) else (⟨4,N,⟨c0,c1,c2,c3,N - 1⟩,H,k,key,0,⟨#[]⟩⟩,s7) := by
    simp [fieldS,clockS,clkAt,skipS,Clk.setN,Clk.put,e1,e2,e3,f0,f1,f2,f3,e5,e6,e7,e8,e9,e10]
   rw [hF] at h
   cases hl : isLong k with
   | false =>
     rw [hl] at h
     simp only [Bool.false_eq_true,if_false,Prod.mk.injEq] at h
     obtain ⟨rfl,hs⟩ := h
     have y7 : s7.2 = 0 := by rw [hs]
     have hm : s7.1 = m := by rw [hs]
     have y6 := (wordS_z e7 y7)
     have y5 := (octS_z e6 y6)
     have yp := (numS_z e5 y5)
     have yt3 := (numS_z f3 yp)
     have yt2 := (numS_z f2 yt3)
     have yt1 := (numS_z f1 yt2)
     have y3 := (numS_z f0 yt1)
     have y2 := (numS_z e3 y3)
     have y1 := (octS_z e2 y2)
     obtain ⟨_,k1,k2,_,_,u1,b1⟩ := octS_ok e1 y1
     obtain ⟨_,r1,r2,_,_,u2,b2⟩ := octS_ok e2 y2
     obtain ⟨_,n1,n2,_,u3,b3⟩ := numS_ok e3 y3 u2
     obtain ⟨_,m0,mm0,_,v0,g0⟩ := numS_ok f0 yt1 u3
     obtain ⟨_,m1,mm1,_,v1,g1⟩ := numS_ok f1 yt2 v0
     obtain ⟨_,m2,mm2,_,v2,g2⟩ := numS_ok f2 yt3 v1
     obtain ⟨_,m3,mm3,_,v3,g3⟩ := numS_ok f3 yp v2
     obtain ⟨_,h1,h2,_,u5,b5⟩ := numS_ok e5 y5 v3
     obtain ⟨_,k3,k4,k5,_,u6,b6⟩ := octS_ok e6 y6
     obtain ⟨_,q1,q2,u7,b7⟩ := wordS_ok e7 y7 u6 k5
     obtain ⟨q3,q4,q5⟩ := keyE_ok' q2
     refine ⟨mayE_of ⟨by dsimp only; omega,by dsimp only; omega,n1,n2,h1,h2,by dsimp only; omega,by dsimp only; omega,by dsimp only; omega,by dsimp only; omega,by dsimp only; omega,by simp [Clk.get],?_⟩,by rw [← hm]; exact u7,?_⟩
     · exact editE_short (e := ⟨k,key,0,⟨#[]⟩⟩) ⟨by dsimp only; omega,by dsimp only; omega⟩ q2 (isLong_k hl) rfl rfl
     · refine take_eq (by rw [← hm]; exact u7) (l := evBytes _) ?_
       rw [← hm]
       have b0 : bs = bs.drop (0,(0 : Int)).1 := rfl
       conv => lhs; rw [b0,b1,b2,b3,g0,g1,g2,g3,b5,b6,b7]
       simp [evBytes,others,hl,← words_eq key q1]
   | true =>
     rw [hl] at h
     simp only [if_true,Prod.mk.injEq] at h
     obtain ⟨rfl,hs⟩ := h
     have y10 : s10.2 = 0 := by rw [hs]
     have hm : s10.1 = m := by rw [hs]
     have y9 := (wordS_z e10 y10)
     have y8 := (octS_z e9 y9)
     have y7 := (octS_z e8 y8)
     have y6 := (wordS_z e7 y7)
     have y5 := (octS_z e6 y6)
     have yp := (numS_z e5 y5)
     have yt3 := (numS_z f3 yp)
     have yt2 := (numS_z f2 yt3)
     have yt1 := (numS_z f1 yt2)
     have y3 := (numS_z f0 yt1)
     have y2 := (numS_z e3 y3)
     have y1 := (octS_z e2 y2)
     obtain ⟨_,k1,k2,_,_,u1,b1⟩ := octS_ok e1 y1
     obtain ⟨_,r1,r2,_,_,u2,b2⟩ := octS_ok e2 y2
     obtain ⟨_,n1,n2,_,u3,b3⟩ := numS_ok e3 y3 u2
     obtain ⟨_,m0,mm0,_,v0,g0⟩ := numS_ok f0 yt1 u3
     obtain ⟨_,m1,mm1,_,v1,g1⟩ := numS_ok f1 yt2 v0
     obtain ⟨_,m2,mm2,_,v2,g2⟩ := numS_ok f2 yt3 v1
     obtain ⟨_,m3,mm3,_,v3,g3⟩ := numS_ok f3 yp v2
     obtain ⟨_,h1,h2,_,u5,b5⟩ := numS_ok e5 y5 v3
     obtain ⟨_,k3,k4,k5,_,u6,b6⟩ := octS_ok e6 y6
     obtain ⟨_,q1,q2,u7,b7⟩ := wordS_ok e7 y7 u6 k5
     obtain ⟨q3,q4,q5⟩ := keyE_ok' q2
     obtain ⟨_,l1,l2,_,_,u8,b8⟩ := octS_ok e8 y8
     obtain ⟨_,l3,l4,l5,_,u9,b9⟩ := octS_ok e9 y9
     obtain ⟨_,p1,p2,u10,b10⟩ := wordS_ok e10 y10 u9 l5
     refine ⟨mayE_of ⟨by dsimp only; omega,by dsimp only; omega,n1,n2,h1,h2,by dsimp only; omega,by dsimp only; omega,by dsimp only; omega,by dsimp only; omega,by dsimp only; omega,by simp [Clk.get],?_⟩,by rw [← hm]; exact u10,?_⟩
     · exact editE_long (e := ⟨k,key,l,v⟩) ⟨by dsimp only; omega,by dsimp only; omega⟩ q2 hl (by dsimp only; omega) p2
     · refine take_eq (by rw [← hm]; exact u10) (l := evBytes _) ?_
       rw [← hm]
       have b0 : bs = bs.drop (0,(0 : Int)).1 := rfl
       conv => lhs; rw [b0,b1,b2,b3,g0,g1,g2,g3,b5,b6,b7,b8,b9,b10]
       simp [evBytes,others,hl,← words_eq key q1,← words_eq v p1]
end Go.Proofs.Ytmldeejaghflnaa

/-
 Plain Lean: an event that is cut is too short.
-/
namespace Go.Proofs.Ytmldeejaghflnaa
end Go.Proofs.Ytmldeejaghflnaa

/-
 What event.Take tells: which errors; and that what was put is taken.
-/
namespace Go.Proofs.Ytmldeejaghflnaa
open Go.RowKit
def E23 (x : Int) : Prop := x = 0 ∨ x = 2 ∨ x = 3
theorem octS_err {bs : List UInt8} {lo hi : Int} {s : St} (h : E23 s.2) : E23 (octS bs lo hi s).2.2 := by
 unfold octS
 split
 · exact h
 · split
   · exact .inr (.inl rfl)
   · split
     · exact .inl rfl
     · exact .inr (.inr rfl)
theorem numS_err {bs : List UInt8} {lo hi : Int} {s : St} (h : E23 s.2) : E23 (numS bs lo hi s).2.2 := by
 unfold numS
 split
 · exact h
 · split
   · have h : vtakeF ((bs.drop s.1).take 10) 0 0 = vtake (bs.drop s.1) := rfl
     have := vtakeF_err ((bs.drop s.1).take 10) 0 0
     rw [h] at this
     exact this
   · split
     · exact .inl rfl
     · exact .inr (.inr rfl)
theorem wordS_err {bs : List UInt8} {sz : Int} {may : ByteArray → Int} {s : St} (h : E23 s.2) : E23 (wordS bs sz may s).2.2 := by
 unfold wordS
 split
 · exact h
 · split
   · exact .inr (.inl rfl)
   · dsimp only
     split
     · exact .inl rfl
     · exact .inr (.inr rfl)
theorem skipS_err {bs : List UInt8} {r : Int} {j : Nat} {s : St} (h : E23 s.2) : E23 (skipS bs r j s).2.2 := by
 unfold skipS
 split
 · exact h
 · exact numS_err h
theorem clkAt_err {bs : List UInt8} {r : Int} {s : St} (h : E23 s.2) : ∀ j,E23 (clkAt bs r s j).2.2
  | 0 => h
  | j + 1 => skipS_err (clkAt_err h j)
theorem fieldS_err (bs : List UInt8) : E23 (fieldS bs (0,0)).2.2 := by
 have h6 : E23 (wordS bs (octS bs 1 8 (numS bs 1 16777216 (clockS bs (octS bs 0 4 (octS bs 1 5 (0,0)).2).1 (numS bs 1 1048576 (octS bs 0 4 (octS bs 1 5 (0,0)).2).2).2).2).2).1 keyE (octS bs 1 8 (numS bs 1 16777216 (clockS bs (octS bs 0 4 (octS bs 1 5 (0,0)).2).1 (numS bs 1 1048576 (octS bs 0 4 (octS bs 1 5 (0,0)).2).2).2).2).2).2).2.2 :=
  wordS_err (octS_err (numS_err (clkAt_err (numS_err (octS_err (octS_err (.inl rfl)))) 5)))
 unfold fieldS
 dsimp only
 split
 · exact wordS_err (octS_err (octS_err h6))
 · exact h6
theorem takeE_ways (bs : List UInt8) : (∃ e m,takeE bs = (e,m,0) ∧ mayE e = 0 ∧ m ≤ bs.length ∧ bs.take m = evBytes e ∧ m = (evBytes e).length) ∨ takeE bs = (zeroEv,0,2) ∨ takeE bs = (zeroEv,0,3) := by
 obtain ⟨⟨e,m,x⟩,hf⟩ : ∃ p,fieldS bs (0,0) = p := ⟨_,rfl⟩
 have he := fieldS_err bs
 rw [hf] at he
 unfold takeE
 rw [hf]
 rcases he with h | h | h <;> dsimp only at h <;> subst h
 · obtain ⟨h1,h2,h3⟩ := field_ok bs hf
   refine .inl ⟨e,m,by simp,h1,h2,h3,?_⟩
   rw [← h3,List.length_take]
   omega
 · exact .inr (.inl (by simp))
 · exact .inr (.inr (by simp))
theorem takeE_put (e : Ev) (h : mayE e = 0) (rest : List UInt8) : takeE (evBytes e ++ rest) = (e,(evBytes e).length,0) := by
 unfold takeE
 rw [field_put e h rest]
 simp
theorem Ch.isB {n : Nat} {sc : Bool} {F : Nat → List AV} {l : List UInt8} {xs ys : List AV} (h : IsB F l) (hn : n = l.length) (k : Ch xs ys) : Ch (.sl 1 n sc F :: xs) (.sl 1 l.length sc (bytesF l) :: ys) :=
 .of (fun X u hu => AEq.isB (sc := sc) h hn X u hu) k
theorem take_any {n : Nat} {F : Nat → List AV} (l : List UInt8) {e : Ev} {m : Nat} {x : Int} (ht : takeE l = (e,m,x)) (hF : IsB F l) (hn : n = l.length) (hl : l.length ≤ 1000000000) :
  ASpec Try.prog 78 [.sl 1 n true F] (.tup [e.av, .v (.int .i64 (m : Int)), .v (.int .i64 x)]) [] := by
 have h := take_spec l hl
 rw [ht] at h
 exact h.args (Ch.isB hF hn .nil)
end Go.Proofs.Ytmldeejaghflnaa
