/-
  Contracts of the walk: TkLawC, TkLawD, TkF, FrT, FrU, FrLaw, FrN, RcLaw.
-/
import Derived.Test.YtimhagicagdkfaaGreatNdX13
import Derived.Test.YtimhagicagdkfaaGreatNdX6
import Derived.Test.YtimhagicagdkfaaGreatNdX12
/-
 Plain Lean: what is taken was put.
-/
namespace Go.Proofs.YtimhagicagdkfaaGreat
theorem octS_ok {bs : List UInt8} {lo hi c : Int} {s s' : Sq} (h : octS bs lo hi s = (c,s')) (h0 : s'.2 = 0) : s.2 = 0 ∧ lo ≤ c ∧ c ≤ hi ∧ 0 ≤ c ∧ c ≤ 255 ∧ s'.1 ≤ bs.length ∧ bs.drop s.1 = byteOf c :: bs.drop s'.1 := by
 unfold octS at h
 split at h
 · rename_i h1; cases h; exact absurd h0 h1
 · rename_i h1
   split at h
   · cases h; cases h0
   · rename_i h2
     split at h
     · rename_i h3
       cases h
       have hb := UInt8.toNat_lt (bs.getD s.1 0)
       refine ⟨by simpa using h1,h3.1,h3.2,by omega,by omega,by dsimp only; omega,?_⟩
       have hlt : s.1 < bs.length := by omega
       rw [List.drop_eq_getElem_cons hlt]
       congr 1
       apply u8_eq
       have := byteOf_nat (n := ((bs.getD s.1 0).toNat : Int)) (by omega) (by omega)
       have e : bs.getD s.1 0 = bs[s.1] := by rw [List.getD_eq_getElem?_getD,List.getElem?_eq_getElem hlt]; rfl
       rw [e] at this ⊢
       omega
     · cases h; cases h0
theorem numS_ok {bs : List UInt8} {lo hi c : Int} {s s' : Sq} (h : numS bs lo hi s = (c,s')) (h0 : s'.2 = 0) (hs : s.1 ≤ bs.length) : s.2 = 0 ∧ lo ≤ c ∧ c ≤ hi ∧ 0 ≤ c ∧ s'.1 ≤ bs.length ∧ bs.drop s.1 = vputI c ++ bs.drop s'.1 := by
 unfold numS at h
 split at h
 · rename_i h1; cases h; exact absurd h0 h1
 · rename_i h1
   split at h
   · rename_i h2; cases h; exact absurd h0 h2
   · rename_i h2
     split at h
     · rename_i h3
       cases h
       have h2' : (vtake (bs.drop s.1)).2.2 = 0 := by simpa using h2
       obtain ⟨k1,k2,k3⟩ := vtake_ok (l := bs.drop s.1) (m := (vtake (bs.drop s.1)).1) (k := (vtake (bs.drop s.1)).2.1) (by rw [← h2'])
       rw [List.length_drop] at k2
       refine ⟨by simpa using h1,h3.1,h3.2,by omega,by dsimp only; omega,?_⟩
       have e : vputI (((vtake (bs.drop s.1)).1 : Nat) : Int) = vput (vtake (bs.drop s.1)).1 := vputI_nat _
       rw [e,← k3,← List.drop_drop,List.take_append_drop]
     · cases h; cases h0
theorem wordS_ok {bs : List UInt8} {sz : Int} {may : ByteArray → Int} {c : ByteArray} {s s' : Sq} (h : wordS bs sz may s = (c,s')) (h0 : s'.2 = 0) (hs : s.1 ≤ bs.length) (hz : 0 ≤ sz) : s.2 = 0 ∧ (c.size : Int) = sz ∧ may c = 0 ∧ s'.1 ≤ bs.length ∧ bs.drop s.1 = c.data.toList ++ bs.drop s'.1 := by
 unfold wordS at h
 split at h
 · rename_i h1; cases h; exact absurd h0 h1
 · rename_i h1
   split at h
   · cases h; cases h0
   · rename_i h2
     cases h
     dsimp only at h0
     have h3 : may (cutB bs s.1 sz.toNat) = 0 := by
      split at h0
      · assumption
      · cases h0
     refine ⟨by simpa using h1,?_,h3,by dsimp only; omega,?_⟩
     · show ((cutB bs s.1 sz.toNat).data.size : Int) = sz
       simp only [cutB,List.size_toArray,List.length_take,List.length_drop]
       omega
     · simp only [cutB]
       rw [← List.drop_drop,List.take_append_drop]
theorem isLong_k {k : Int} (h : isLong k = false) : k = 1 ∨ k = 2 := by
 simp only [isLong,Bool.and_eq_false_iff,bne_eq_false_iff_eq] at h
 exact h
theorem keyE_ok' {s : ByteArray} (h : keyE s = 0) : 1 ≤ s.size ∧ s.size ≤ 8 ∧ lettersB s = true := by
 unfold keyE at h
 split at h
 · assumption
 · cases h
theorem words_eq (s : ByteArray) {c : Int} (h : (s.size : Int) = c) : byteOf c :: s.data.toList = words s := by
 subst h
 simp [words,byteOf]
theorem editE_short {e : Ed} (h1 : 1 ≤ e.k ∧ e.k ≤ 5) (h2 : keyE e.key = 0) (h3 : e.k = 1 ∨ e.k = 2) (h4 : e.l = 0) (h5 : e.v.size = 0) : editE e = 0 := by
 unfold editE
 rw [if_neg (by omega),if_neg (by simp [h2]),if_pos h3,if_neg (by simp [h4]),if_neg (by simp [h5])]
theorem editE_long {e : Ed} (h1 : 1 ≤ e.k ∧ e.k ≤ 5) (h2 : keyE e.key = 0) (h3 : isLong e.k = true) (h4 : 0 ≤ e.l ∧ e.l < 2) (h5 : valueE e.v = 0) : editE e = 0 := by
 have hk : ¬ (e.k = 1 ∨ e.k = 2) := by
  simp only [isLong,Bool.and_eq_true,bne_iff_ne,ne_eq] at h3
  omega
 have hlab : labelE e.l = 0 := by unfold labelE; rw [if_pos h4]
 unfold editE
 rw [if_neg (by omega),if_neg (by simp [h2]),if_neg hk,if_neg (by simp [hlab]),h5]
theorem octS_z {bs : List UInt8} {lo hi c : Int} {s s' : Sq} (h : octS bs lo hi s = (c,s')) (h0 : s'.2 = 0) : s.2 = 0 := (octS_ok h h0).1
theorem numS_z {bs : List UInt8} {lo hi c : Int} {s s' : Sq} (h : numS bs lo hi s = (c,s')) (h0 : s'.2 = 0) : s.2 = 0 := by
 unfold numS at h
 split at h
 · rename_i h1; cases h; exact absurd h0 h1
 · rename_i h1; simpa using h1
theorem wordS_z {bs : List UInt8} {sz : Int} {may : ByteArray → Int} {c : ByteArray} {s s' : Sq} (h : wordS bs sz may s = (c,s')) (h0 : s'.2 = 0) : s.2 = 0 := by
 unfold wordS at h
 split at h
 · rename_i h1; cases h; exact absurd h0 h1
 · rename_i h1; simpa using h1
theorem take_eq {bs l : List UInt8} {m : Nat} (_hm : m ≤ bs.length) (h : bs = l ++ bs.drop m) : bs.take m = l := by
 have h1 : bs = bs.take m ++ bs.drop m := (List.take_append_drop m bs).symm
 exact List.append_cancel_right (h1.symm.trans h)
set_option maxHeartbeats 4000000 in
theorem field_ok (bs : List UInt8) {e : Ev} {m : Nat} (h : fieldS bs (0,0) = (e,(m,0))) : mayE e = 0 ∧ m ≤ bs.length ∧ bs.take m = evBytes e := by
 obtain ⟨⟨k,s1⟩,e1⟩ : ∃ p,octS bs 1 5 (0,0) = p := ⟨_,rfl⟩
 obtain ⟨⟨R,s2⟩,e2⟩ : ∃ p,octS bs 0 4 s1 = p := ⟨_,rfl⟩
 obtain ⟨⟨N,s3⟩,e3⟩ : ∃ p,numS bs 1 1048576 s2 = p := ⟨_,rfl⟩
 have hR0 := octS_range (bs := bs) (lo := 0) (hi := 4) (s := s1)
 rw [e2] at hR0
 rcases (show R = 0 ∨ R = 1 ∨ R = 2 ∨ R = 3 ∨ R = 4 by simp only at hR0; omega) with rfl | rfl | rfl | rfl | rfl
 · obtain ⟨⟨c1,t2⟩,f1⟩ : ∃ p,numS bs 0 1048576 s3 = p := ⟨_,rfl⟩
   obtain ⟨⟨c2,t3⟩,f2⟩ : ∃ p,numS bs 0 1048576 t2 = p := ⟨_,rfl⟩
   obtain ⟨⟨c3,t4⟩,f3⟩ : ∃ p,numS bs 0 1048576 t3 = p := ⟨_,rfl⟩
   obtain ⟨⟨c4,t5⟩,f4⟩ : ∃ p,numS bs 0 1048576 t4 = p := ⟨_,rfl⟩
   obtain ⟨⟨H,s5⟩,e5⟩ : ∃ p,numS bs 1 16777216 t5 = p := ⟨_,rfl⟩
   obtain ⟨⟨ks,s6⟩,e6⟩ : ∃ p,octS bs 1 8 s5 = p := ⟨_,rfl⟩
   obtain ⟨⟨key,s7⟩,e7⟩ : ∃ p,wordS bs ks keyE s6 = p := ⟨_,rfl⟩
   obtain ⟨⟨l,s8⟩,e8⟩ : ∃ p,octS bs 0 1 s7 = p := ⟨_,rfl⟩
   obtain ⟨⟨vs,s9⟩,e9⟩ : ∃ p,octS bs 1 12 s8 = p := ⟨_,rfl⟩
   obtain ⟨⟨v,s10⟩,e10⟩ : ∃ p,wordS bs vs valueE s9 = p := ⟨_,rfl⟩
   have hF : fieldS bs (0,0) = if isLong k then (⟨0,N,⟨N - 1,c1,c2,c3,c4⟩,H,k,key,l,v⟩,s10) else (⟨0,N,⟨N - 1,c1,c2,c3,c4⟩,H,k,key,0,⟨#[]⟩⟩,s7) := by
    simp [fieldS,clockS,clkAt,skipS,Clk.setN,Clk.put,e1,e2,e3,f1,f2,f3,f4,e5,e6,e7,e8,e9,e10]
   rw [hF] at h
   cases hl : isLong k with
   | false =>
     rw [hl] at h
     simp only [Bool.false_eq_true,if_false,Prod.mk.injEq] at h
     obtain ⟨rfl,hs⟩ := h
     have y7 : s7.2 = 0 := by rw [hs]
     have hm : s7.1 = m := by rw [hs]
     have y6 := (wordS_z e7 y7)
     have y5 := (octS_z e6 y6)
     have yp := (numS_z e5 y5)
     have yt4 := (numS_z f4 yp)
     have yt3 := (numS_z f3 yt4)
     have yt2 := (numS_z f2 yt3)
     have y3 := (numS_z f1 yt2)
     have y2 := (numS_z e3 y3)
     have y1 := (octS_z e2 y2)
     obtain ⟨_,k1,k2,_,_,u1,b1⟩ := octS_ok e1 y1
     obtain ⟨_,r1,r2,_,_,u2,b2⟩ := octS_ok e2 y2
     obtain ⟨_,n1,n2,_,u3,b3⟩ := numS_ok e3 y3 u2
     obtain ⟨_,m1,mm1,_,v1,g1⟩ := numS_ok f1 yt2 u3
     obtain ⟨_,m2,mm2,_,v2,g2⟩ := numS_ok f2 yt3 v1
     obtain ⟨_,m3,mm3,_,v3,g3⟩ := numS_ok f3 yt4 v2
     obtain ⟨_,m4,mm4,_,v4,g4⟩ := numS_ok f4 yp v3
     obtain ⟨_,h1,h2,_,u5,b5⟩ := numS_ok e5 y5 v4
     obtain ⟨_,k3,k4,k5,_,u6,b6⟩ := octS_ok e6 y6
     obtain ⟨_,q1,q2,u7,b7⟩ := wordS_ok e7 y7 u6 k5
     obtain ⟨q3,q4,q5⟩ := keyE_ok' q2
     refine ⟨mayE_of ⟨by dsimp only; omega,by dsimp only; omega,n1,n2,h1,h2,by dsimp only; omega,by dsimp only; omega,by dsimp only; omega,by dsimp only; omega,by dsimp only; omega,by simp [Clk.get],?_⟩,by rw [← hm]; exact u7,?_⟩
     · exact editE_short (e := ⟨k,key,0,⟨#[]⟩⟩) ⟨by dsimp only; omega,by dsimp only; omega⟩ q2 (isLong_k hl) rfl rfl
     · refine take_eq (by rw [← hm]; exact u7) (l := evBytes _) ?_
       rw [← hm]
       have b0 : bs = bs.drop (0,(0 : Int)).1 := rfl
       conv => lhs; rw [b0,b1,b2,b3,g1,g2,g3,g4,b5,b6,b7]
       simp [evBytes,others,hl,← words_eq key q1]
   | true =>
     rw [hl] at h
     simp only [if_true,Prod.mk.injEq] at h
     obtain ⟨rfl,hs⟩ := h
     have y10 : s10.2 = 0 := by rw [hs]
     have hm : s10.1 = m := by rw [hs]
     have y9 := (wordS_z e10 y10)
     have y8 := (octS_z e9 y9)
     have y7 := (octS_z e8 y8)
     have y6 := (wordS_z e7 y7)
     have y5 := (octS_z e6 y6)
     have yp := (numS_z e5 y5)
     have yt4 := (numS_z f4 yp)
     have yt3 := (numS_z f3 yt4)
     have yt2 := (numS_z f2 yt3)
     have y3 := (numS_z f1 yt2)
     have y2 := (numS_z e3 y3)
     have y1 := (octS_z e2 y2)
     obtain ⟨_,k1,k2,_,_,u1,b1⟩ := octS_ok e1 y1
     obtain ⟨_,r1,r2,_,_,u2,b2⟩ := octS_ok e2 y2
     obtain ⟨_,n1,n2,_,u3,b3⟩ := numS_ok e3 y3 u2
     obtain ⟨_,m1,mm1,_,v1,g1⟩ := numS_ok f1 yt2 u3
     obtain ⟨_,m2,mm2,_,v2,g2⟩ := numS_ok f2 yt3 v1
     obtain ⟨_,m3,mm3,_,v3,g3⟩ := numS_ok f3 yt4 v2
     obtain ⟨_,m4,mm4,_,v4,g4⟩ := numS_ok f4 yp v3
     obtain ⟨_,h1,h2,_,u5,b5⟩ := numS_ok e5 y5 v4
     obtain ⟨_,k3,k4,k5,_,u6,b6⟩ := octS_ok e6 y6
     obtain ⟨_,q1,q2,u7,b7⟩ := wordS_ok e7 y7 u6 k5
     obtain ⟨q3,q4,q5⟩ := keyE_ok' q2
     obtain ⟨_,l1,l2,_,_,u8,b8⟩ := octS_ok e8 y8
     obtain ⟨_,l3,l4,l5,_,u9,b9⟩ := octS_ok e9 y9
     obtain ⟨_,p1,p2,u10,b10⟩ := wordS_ok e10 y10 u9 l5
     refine ⟨mayE_of ⟨by dsimp only; omega,by dsimp only; omega,n1,n2,h1,h2,by dsimp only; omega,by dsimp only; omega,by dsimp only; omega,by dsimp only; omega,by dsimp only; omega,by simp [Clk.get],?_⟩,by rw [← hm]; exact u10,?_⟩
     · exact editE_long (e := ⟨k,key,l,v⟩) ⟨by dsimp only; omega,by dsimp only; omega⟩ q2 hl (by dsimp only; omega) p2
     · refine take_eq (by rw [← hm]; exact u10) (l := evBytes _) ?_
       rw [← hm]
       have b0 : bs = bs.drop (0,(0 : Int)).1 := rfl
       conv => lhs; rw [b0,b1,b2,b3,g1,g2,g3,g4,b5,b6,b7,b8,b9,b10]
       simp [evBytes,others,hl,← words_eq key q1,← words_eq v p1]
 · obtain ⟨⟨c0,t1⟩,f0⟩ : ∃ p,numS bs 0 1048576 s3 = p := ⟨_,rfl⟩
   obtain ⟨⟨c2,t3⟩,f2⟩ : ∃ p,numS bs 0 1048576 t1 = p := ⟨_,rfl⟩
   obtain ⟨⟨c3,t4⟩,f3⟩ : ∃ p,numS bs 0 1048576 t3 = p := ⟨_,rfl⟩
   obtain ⟨⟨c4,t5⟩,f4⟩ : ∃ p,numS bs 0 1048576 t4 = p := ⟨_,rfl⟩
   obtain ⟨⟨H,s5⟩,e5⟩ : ∃ p,numS bs 1 16777216 t5 = p := ⟨_,rfl⟩
   obtain ⟨⟨ks,s6⟩,e6⟩ : ∃ p,octS bs 1 8 s5 = p := ⟨_,rfl⟩
   obtain ⟨⟨key,s7⟩,e7⟩ : ∃ p,wordS bs ks keyE s6 = p := ⟨_,rfl⟩
   obtain ⟨⟨l,s8⟩,e8⟩ : ∃ p,octS bs 0 1 s7 = p := ⟨_,rfl⟩
   obtain ⟨⟨vs,s9⟩,e9⟩ : ∃ p,octS bs 1 12 s8 = p := ⟨_,rfl⟩
   obtain ⟨⟨v,s10⟩,e10⟩ : ∃ p,wordS bs vs valueE s9 = p := ⟨_,rfl⟩
   have hF : fieldS bs (0,0) = if isLong k then (⟨1,N,⟨c0,N - 1,c2,c3,c4⟩,H,k,key,l,v⟩,s10) else (⟨1,N,⟨c0,N - 1,c2,c3,c4⟩,H,k,key,0,⟨#[]⟩⟩,s7) := by
    simp [fieldS,clockS,clkAt,skipS,Clk.setN,Clk.put,e1,e2,e3,f0,f2,f3,f4,e5,e6,e7,e8,e9,e10]
   rw [hF] at h
   cases hl : isLong k with
   | false =>
     rw [hl] at h
     simp only [Bool.false_eq_true,if_false,Prod.mk.injEq] at h
     obtain ⟨rfl,hs⟩ := h
     have y7 : s7.2 = 0 := by rw [hs]
     have hm : s7.1 = m := by rw [hs]
     have y6 := (wordS_z e7 y7)
     have y5 := (octS_z e6 y6)
     have yp := (numS_z e5 y5)
     have yt4 := (numS_z f4 yp)
     have yt3 := (numS_z f3 yt4)
     have yt2 := (numS_z f2 yt3)
     have y3 := (numS_z f0 yt2)
     have y2 := (numS_z e3 y3)
     have y1 := (octS_z e2 y2)
     obtain ⟨_,k1,k2,_,_,u1,b1⟩ := octS_ok e1 y1
     obtain ⟨_,r1,r2,_,_,u2,b2⟩ := octS_ok e2 y2
     obtain ⟨_,n1,n2,_,u3,b3⟩ := numS_ok e3 y3 u2
     obtain ⟨_,m0,mm0,_,v0,g0⟩ := numS_ok f0 yt2 u3
     obtain ⟨_,m2,mm2,_,v2,g2⟩ := numS_ok f2 yt3 v0
     obtain ⟨_,m3,mm3,_,v3,g3⟩ := numS_ok f3 yt4 v2
     obtain ⟨_,m4,mm4,_,v4,g4⟩ := numS_ok f4 yp v3
     obtain ⟨_,h1,h2,_,u5,b5⟩ := numS_ok e5 y5 v4
     obtain ⟨_,k3,k4,k5,_,u6,b6⟩ := octS_ok e6 y6
     obtain ⟨_,q1,q2,u7,b7⟩ := wordS_ok e7 y7 u6 k5
     obtain ⟨q3,q4,q5⟩ := keyE_ok' q2
     refine ⟨mayE_of ⟨by dsimp only; omega,by dsimp only; omega,n1,n2,h1,h2,by dsimp only; omega,by dsimp only; omega,by dsimp only; omega,by dsimp only; omega,by dsimp only; omega,by simp [Clk.get],?_⟩,by rw [← hm]; exact u7,?_⟩
     · exact editE_short (e := ⟨k,key,0,⟨#[]⟩⟩) ⟨by dsimp only; omega,by dsimp only; omega⟩ q2 (isLong_k hl) rfl rfl
     · refine take_eq (by rw [← hm]; exact u7) (l := evBytes _) ?_
       rw [← hm]
       have b0 : bs = bs.drop (0,(0 : Int)).1 := rfl
       conv => lhs; rw [b0,b1,b2,b3,g0,g2,g3,g4,b5,b6,b7]
       simp [evBytes,others,hl,← words_eq key q1]
   | true =>
     rw [hl] at h
     simp only [if_true,Prod.mk.injEq] at h
     obtain ⟨rfl,hs⟩ := h
     have y10 : s10.2 = 0 := by rw [hs]
     have hm : s10.1 = m := by rw [hs]
     have y9 := (wordS_z e10 y10)
     have y8 := (octS_z e9 y9)
     have y7 := (octS_z e8 y8)
     have y6 := (wordS_z e7 y7)
     have y5 := (octS_z e6 y6)
     have yp := (numS_z e5 y5)
     have yt4 := (numS_z f4 yp)
     have yt3 := (numS_z f3 yt4)
     have yt2 := (numS_z f2 yt3)
     have y3 := (numS_z f0 yt2)
     have y2 := (numS_z e3 y3)
     have y1 := (octS_z e2 y2)
     obtain ⟨_,k1,k2,_,_,u1,b1⟩ := octS_ok e1 y1
     obtain ⟨_,r1,r2,_,_,u2,b2⟩ := octS_ok e2 y2
     obtain ⟨_,n1,n2,_,u3,b3⟩ := numS_ok e3 y3 u2
     obtain ⟨_,m0,mm0,_,v0,g0⟩ := numS_ok f0 yt2 u3
     obtain ⟨_,m2,mm2,_,v2,g2⟩ := numS_ok f2 yt3 v0
     obtain ⟨_,m3,mm3,_,v3,g3⟩ := numS_ok f3 yt4 v2
     obtain ⟨_,m4,mm4,_,v4,g4⟩ := numS_ok f4 yp v3
     obtain ⟨_,h1,h2,_,u5,b5⟩ := numS_ok e5 y5 v4
     obtain ⟨_,k3,k4,k5,_,u6,b6⟩ := octS_ok e6 y6
     obtain ⟨_,q1,q2,u7,b7⟩ := wordS_ok e7 y7 u6 k5
     obtain ⟨q3,q4,q5⟩ := keyE_ok' q2
     obtain ⟨_,l1,l2,_,_,u8,b8⟩ := octS_ok e8 y8
     obtain ⟨_,l3,l4,l5,_,u9,b9⟩ := octS_ok e9 y9
     obtain ⟨_,p1,p2,u10,b10⟩ := wordS_ok e10 y10 u9 l5
     refine ⟨mayE_of ⟨by dsimp only; omega,by dsimp only; omega,n1,n2,h1,h2,by dsimp only; omega,by dsimp only; omega,by dsimp only; omega,by dsimp only; omega,by dsimp only; omega,by simp [Clk.get],?_⟩,by rw [← hm]; exact u10,?_⟩
     · exact editE_long (e := ⟨k,key,l,v⟩) ⟨by dsimp only; omega,by dsimp only; omega⟩ q2 hl (by dsimp only; omega) p2
     · refine take_eq (by rw [← hm]; exact u10) (l := evBytes _) ?_
       rw [← hm]
       have b0 : bs = bs.drop (0,(0 : Int)).1 := rfl
       conv => lhs; rw [b0,b1,b2,b3,g0,g2,g3,g4,b5,b6,b7,b8,b9,b10]
       simp [evBytes,others,hl,← words_eq key q1,← words_eq v p1]
 · obtain ⟨⟨c0,t1⟩,f0⟩ : ∃ p,numS bs 0 1048576 s3 = p := ⟨_,rfl⟩
   obtain ⟨⟨c1,t2⟩,f1⟩ : ∃ p,numS bs 0 1048576 t1 = p := ⟨_,rfl⟩
   obtain ⟨⟨c3,t4⟩,f3⟩ : ∃ p,numS bs 0 1048576 t2 = p := ⟨_,rfl⟩
   obtain ⟨⟨c4,t5⟩,f4⟩ : ∃ p,numS bs 0 1048576 t4 = p := ⟨_,rfl⟩
   obtain ⟨⟨H,s5⟩,e5⟩ : ∃ p,numS bs 1 16777216 t5 = p := ⟨_,rfl⟩
   obtain ⟨⟨ks,s6⟩,e6⟩ : ∃ p,octS bs 1 8 s5 = p := ⟨_,rfl⟩
   obtain ⟨⟨key,s7⟩,e7⟩ : ∃ p,wordS bs ks keyE s6 = p := ⟨_,rfl⟩
   obtain ⟨⟨l,s8⟩,e8⟩ : ∃ p,octS bs 0 1 s7 = p := ⟨_,rfl⟩
   obtain ⟨⟨vs,s9⟩,e9⟩ : ∃ p,octS bs 1 12 s8 = p := ⟨_,rfl⟩
   obtain ⟨⟨v,s10⟩,e10⟩ : ∃ p,wordS bs vs valueE s9 = p := ⟨_,rfl⟩
   have hF : fieldS bs (0,0) = if isLong k then (⟨2,N,⟨c0,c1,N - 1,c3,c4⟩,H,k,key,l,v⟩,s10) else (⟨2,N,⟨c0,c1,N - 1,c3,c4⟩,H,k,key,0,⟨#[]⟩⟩,s7) := by
    simp [fieldS,clockS,clkAt,skipS,Clk.setN,Clk.put,e1,e2,e3,f0,f1,f3,f4,e5,e6,e7,e8,e9,e10]
   rw [hF] at h
   cases hl : isLong k with
   | false =>
     rw [hl] at h
     simp only [Bool.false_eq_true,if_false,Prod.mk.injEq] at h
     obtain ⟨rfl,hs⟩ := h
     have y7 : s7.2 = 0 := by rw [hs]
     have hm : s7.1 = m := by rw [hs]
     have y6 := (wordS_z e7 y7)
     have y5 := (octS_z e6 y6)
     have yp := (numS_z e5 y5)
     have yt4 := (numS_z f4 yp)
     have yt3 := (numS_z f3 yt4)
     have yt1 := (numS_z f1 yt3)
     have y3 := (numS_z f0 yt1)
     have y2 := (numS_z e3 y3)
     have y1 := (octS_z e2 y2)
     obtain ⟨_,k1,k2,_,_,u1,b1⟩ := octS_ok e1 y1
     obtain ⟨_,r1,r2,_,_,u2,b2⟩ := octS_ok e2 y2
     obtain ⟨_,n1,n2,_,u3,b3⟩ := numS_ok e3 y3 u2
     obtain ⟨_,m0,mm0,_,v0,g0⟩ := numS_ok f0 yt1 u3
     obtain ⟨_,m1,mm1,_,v1,g1⟩ := numS_ok f1 yt3 v0
     obtain ⟨_,m3,mm3,_,v3,g3⟩ := numS_ok f3 yt4 v1
     obtain ⟨_,m4,mm4,_,v4,g4⟩ := numS_ok f4 yp v3
     obtain ⟨_,h1,h2,_,u5,b5⟩ := numS_ok e5 y5 v4
     obtain ⟨_,k3,k4,k5,_,u6,b6⟩ := octS_ok e6 y6
     obtain ⟨_,q1,q2,u7,b7⟩ := wordS_ok e7 y7 u6 k5
     obtain ⟨q3,q4,q5⟩ := keyE_ok' q2
     refine ⟨mayE_of ⟨by dsimp only; omega,by dsimp only; omega,n1,n2,h1,h2,by dsimp only; omega,by dsimp only; omega,by dsimp only; omega,by dsimp only; omega,by dsimp only; omega,by simp [Clk.get],?_⟩,by rw [← hm]; exact u7,?_⟩
     · exact editE_short (e := ⟨k,key,0,⟨#[]⟩⟩) ⟨by dsimp only; omega,by dsimp only; omega⟩ q2 (isLong_k hl) rfl rfl
     · refine take_eq (by rw [← hm]; exact u7) (l := evBytes _) ?_
       rw [← hm]
       have b0 : bs = bs.drop (0,(0 : Int)).1 := rfl
       conv => lhs; rw [b0,b1,b2,b3,g0,g1,g3,g4,b5,b6,b7]
       simp [evBytes,others,hl,← words_eq key q1]
   | true =>
     rw [hl] at h
     simp only [if_true,Prod.mk.injEq] at h
     obtain ⟨rfl,hs⟩ := h
     have y10 : s10.2 = 0 := by rw [hs]
     have hm : s10.1 = m := by rw [hs]
     have y9 := (wordS_z e10 y10)
     have y8 := (octS_z e9 y9)
     have y7 := (octS_z e8 y8)
     have y6 := (wordS_z e7 y7)
     have y5 := (octS_z e6 y6)
     have yp := (numS_z e5 y5)
     have yt4 := (numS_z f4 yp)
     have yt3 := (numS_z f3 yt4)
     have yt1 := (numS_z f1 yt3)
     have y3 := (numS_z f0 yt1)
     have y2 := (numS_z e3 y3)
     have y1 := (octS_z e2 y2)
     obtain ⟨_,k1,k2,_,_,u1,b1⟩ := octS_ok e1 y1
     obtain ⟨_,r1,r2,_,_,u2,b2⟩ := octS_ok e2 y2
     obtain ⟨_,n1,n2,_,u3,b3⟩ := numS_ok e3 y3 u2
     obtain ⟨_,m0,mm0,_,v0,g0⟩ := numS_ok f0 yt1 u3
     obtain ⟨_,m1,mm1,_,v1,g1⟩ := numS_ok f1 yt3 v0
     obtain ⟨_,m3,mm3,_,v3,g3⟩ := numS_ok f3 yt4 v1
     obtain ⟨_,m4,mm4,_,v4,g4⟩ := numS_ok f4 yp v3
     obtain ⟨_,h1,h2,_,u5,b5⟩ := numS_ok e5 y5 v4
     obtain ⟨_,k3,k4,k5,_,u6,b6⟩ := octS_ok e6 y6
     obtain ⟨_,q1,q2,u7,b7⟩ := wordS_ok e7 y7 u6 k5
     obtain ⟨q3,q4,q5⟩ := keyE_ok' q2
     obtain ⟨_,l1,l2,_,_,u8,b8⟩ := octS_ok e8 y8
     obtain ⟨_,l3,l4,l5,_,u9,b9⟩ := octS_ok e9 y9
     obtain ⟨_,p1,p2,u10,b10⟩ := wordS_ok e10 y10 u9 l5
     refine ⟨mayE_of ⟨by dsimp only; omega,by dsimp only; omega,n1,n2,h1,h2,by dsimp only; omega,by dsimp only; omega,by dsimp only; omega,by dsimp only; omega,by dsimp only; omega,by simp [Clk.get],?_⟩,by rw [← hm]; exact u10,?_⟩
     · exact editE_long (e := ⟨k,key,l,v⟩) ⟨by dsimp only; omega,by dsimp only; omega⟩ q2 hl (by dsimp only; omega) p2
     · refine take_eq (by rw [← hm]; exact u10) (l := evBytes _) ?_
       rw [← hm]
       have b0 : bs = bs.drop (0,(0 : Int)).1 := rfl
       conv => lhs; rw [b0,b1,b2,b3,g0,g1,g3,g4,b5,b6,b7,b8,b9,b10]
       simp [evBytes,others,hl,← words_eq key q1,← words_eq v p1]
 · obtain ⟨⟨c0,t1⟩,f0⟩ : ∃ p,numS bs 0 1048576 s3 = p := ⟨_,rfl⟩
   obtain ⟨⟨c1,t2⟩,f1⟩ : ∃ p,numS bs 0 1048576 t1 = p := ⟨_,rfl⟩
   obtain ⟨⟨c2,t3⟩,f2⟩ : ∃ p,numS bs 0 1048576 t2 = p := ⟨_,rfl⟩
   obtain ⟨⟨c4,t5⟩,f4⟩ : ∃ p,numS bs 0 1048576 t3 = p := ⟨_,rfl⟩
   obtain ⟨⟨H,s5⟩,e5⟩ : ∃ p,numS bs 1 16777216 t5 = p := ⟨_,rfl⟩
   obtain ⟨⟨ks,s6⟩,e6⟩ : ∃ p,octS bs 1 8 s5 = p := ⟨_,rfl⟩
   obtain ⟨⟨key,s7⟩,e7⟩ : ∃ p,wordS bs ks keyE s6 = p := ⟨_,rfl⟩
   obtain ⟨⟨l,s8⟩,e8⟩ : ∃ p,octS bs 0 1 s7 = p := ⟨_,rfl⟩
   obtain ⟨⟨vs,s9⟩,e9⟩ : ∃ p,octS bs 1 12 s8 = p := ⟨_,rfl⟩
   obtain ⟨⟨v,s10⟩,e10⟩ : ∃ p,wordS bs vs valueE s9 = p := ⟨_,rfl⟩
   have hF : fieldS bs (0,0) = if isLong k then (⟨3,N,⟨c0,c1,c2,N - 1,c4⟩,H,k,key,l,v⟩,s10) else (⟨3,N,⟨c0,c1,c2,N - 1,c4⟩,H,k,key,0,⟨#[]⟩⟩,s7) := by
    simp [fieldS,clockS,clkAt,skipS,Clk.setN,Clk.put,e1,e2,e3,f0,f1,f2,f4,e5,e6,e7,e8,e9,e10]
   rw [hF] at h
   cases hl : isLong k with
   | false =>
     rw [hl] at h
     simp only [Bool.false_eq_true,if_false,Prod.mk.injEq] at h
     obtain ⟨rfl,hs⟩ := h
     have y7 : s7.2 = 0 := by rw [hs]
     have hm : s7.1 = m := by rw [hs]
     have y6 := (wordS_z e7 y7)
     have y5 := (octS_z e6 y6)
     have yp := (numS_z e5 y5)
     have yt4 := (numS_z f4 yp)
     have yt2 := (numS_z f2 yt4)
     have yt1 := (numS_z f1 yt2)
     have y3 := (numS_z f0 yt1)
     have y2 := (numS_z e3 y3)
     have y1 := (octS_z e2 y2)
     obtain ⟨_,k1,k2,_,_,u1,b1⟩ := octS_ok e1 y1
     obtain ⟨_,r1,r2,_,_,u2,b2⟩ := octS_ok e2 y2
     obtain ⟨_,n1,n2,_,u3,b3⟩ := numS_ok e3 y3 u2
     obtain ⟨_,m0,mm0,_,v0,g0⟩ := numS_ok f0 yt1 u3
     obtain ⟨_,m1,mm1,_,v1,g1⟩ := numS_ok f1 yt2 v0
     obtain ⟨_,m2,mm2,_,v2,g2⟩ := numS_ok f2 yt4 v1
     obtain ⟨_,m4,mm4,_,v4,g4⟩ := numS_ok f4 yp v2
     obtain ⟨_,h1,h2,_,u5,b5⟩ := numS_ok e5 y5 v4
     obtain ⟨_,k3,k4,k5,_,u6,b6⟩ := octS_ok e6 y6
     obtain ⟨_,q1,q2,u7,b7⟩ := wordS_ok e7 y7 u6 k5
     obtain ⟨q3,q4,q5⟩ := keyE_ok' q2
     refine ⟨mayE_of ⟨by dsimp only; omega,by dsimp only; omega,n1,n2,h1,h2,by dsimp only; omega,by dsimp only; omega,by dsimp only; omega,by dsimp only; omega,by dsimp only; omega,by simp [Clk.get],?_⟩,by rw [← hm]; exact u7,?_⟩
     · exact editE_short (e := ⟨k,key,0,⟨#[]⟩⟩) ⟨by dsimp only; omega,by dsimp only; omega⟩ q2 (isLong_k hl) rfl rfl
     · refine take_eq (by rw [← hm]; exact u7) (l := evBytes _) ?_
       rw [← hm]
       have b0 : bs = bs.drop (0,(0 : Int)).1 := rfl
       conv => lhs; rw [b0,b1,b2,b3,g0,g1,g2,g4,b5,b6,b7]
       simp [evBytes,others,hl,← words_eq key q1]
   | true =>
     rw [hl] at h
     simp only [if_true,Prod.mk.injEq] at h
     obtain ⟨rfl,hs⟩ := h
     have y10 : s10.2 = 0 := by rw [hs]
     have hm : s10.1 = m := by rw [hs]
     have y9 := (wordS_z e10 y10)
     have y8 := (octS_z e9 y9)
     have y7 := (octS_z e8 y8)
     have y6 := (wordS_z e7 y7)
     have y5 := (octS_z e6 y6)
     have yp := (numS_z e5 y5)
     have yt4 := (numS_z f4 yp)
     have yt2 := (numS_z f2 yt4)
     have yt1 := (numS_z f1 yt2)
     have y3 := (numS_z f0 yt1)
     have y2 := (numS_z e3 y3)
     have y1 := (octS_z e2 y2)
     obtain ⟨_,k1,k2,_,_,u1,b1⟩ := octS_ok e1 y1
     obtain ⟨_,r1,r2,_,_,u2,b2⟩ := octS_ok e2 y2
     obtain ⟨_,n1,n2,_,u3,b3⟩ := numS_ok e3 y3 u2
     obtain ⟨_,m0,mm0,_,v0,g0⟩ := numS_ok f0 yt1 u3
     obtain ⟨_,m1,mm1,_,v1,g1⟩ := numS_ok f1 yt2 v0
     obtain ⟨_,m2,mm2,_,v2,g2⟩ := numS_ok f2 yt4 v1
     obtain ⟨_,m4,mm4,_,v4,g4⟩ := numS_ok f4 yp v2
     obtain ⟨_,h1,h2,_,u5,b5⟩ := numS_ok e5 y5 v4
     obtain ⟨_,k3,k4,k5,_,u6,b6⟩ := octS_ok e6 y6
     obtain ⟨_,q1,q2,u7,b7⟩ := wordS_ok e7 y7 u6 k5
     obtain ⟨q3,q4,q5⟩ := keyE_ok' q2
     obtain ⟨_,l1,l2,_,_,u8,b8⟩ := octS_ok e8 y8
     obtain ⟨_,l3,l4,l5,_,u9,b9⟩ := octS_ok e9 y9
     obtain ⟨_,p1,p2,u10,b10⟩ := wordS_ok e10 y10 u9 l5
     refine ⟨mayE_of ⟨by dsimp only; omega,by dsimp only; omega,n1,n2,h1,h2,by dsimp only; omega,by dsimp only; omega,by dsimp only; omega,by dsimp only; omega,by dsimp only; omega,by simp [Clk.get],?_⟩,by rw [← hm]; exact u10,?_⟩
     · exact editE_long (e := ⟨k,key,l,v⟩) ⟨by dsimp only; omega,by dsimp only; omega⟩ q2 hl (by dsimp only; omega) p2
     · refine take_eq (by rw [← hm]; exact u10) (l := evBytes _) ?_
       rw [← hm]
       have b0 : bs = bs.drop (0,(0 : Int)).1 := rfl
       conv => lhs; rw [b0,b1,b2,b3,g0,g1,g2,g4,b5,b6,b7,b8,b9,b10]
       simp [evBytes,others,hl,← words_eq key q1,← words_eq v p1]
 · obtain ⟨⟨c0,t1⟩,f0⟩ : ∃ p,numS bs 0 1048576 s3 = p := ⟨_,rfl⟩
   obtain ⟨⟨c1,t2⟩,f1⟩ : ∃ p,numS bs 0 1048576 t1 = p := ⟨_,rfl⟩
   obtain ⟨⟨c2,t3⟩,f2⟩ : ∃ p,numS bs 0 1048576 t2 = p := ⟨_,rfl⟩
   obtain ⟨⟨c3,t4⟩,f3⟩ : ∃ p,numS bs 0 1048576 t3 = p := ⟨_,rfl⟩
   obtain ⟨⟨H,s5⟩,e5⟩ : ∃ p,numS bs 1 16777216 t4 = p := ⟨_,rfl⟩
   obtain ⟨⟨ks,s6⟩,e6⟩ : ∃ p,octS bs 1 8 s5 = p := ⟨_,rfl⟩
   obtain ⟨⟨key,s7⟩,e7⟩ : ∃ p,wordS bs ks keyE s6 = p := ⟨_,rfl⟩
   obtain ⟨⟨l,s8⟩,e8⟩ : ∃ p,octS bs 0 1 s7 = p := ⟨_,rfl⟩
   obtain ⟨⟨vs,s9⟩,e9⟩ : ∃ p,octS bs 1 12 s8 = p := ⟨_,rfl⟩
   obtain ⟨⟨v,s10⟩,e10⟩ : ∃ p,wordS bs vs valueE s9 = p := ⟨_,rfl⟩
   have hF : fieldS bs (0,0) = if isLong k then (⟨4,N,⟨c0,c1,c2,c3,N - 1⟩,H,k,key,l,v⟩,s10) else (⟨4,N,⟨c0,c1,c2,c3,N - 1⟩,H,k,key,0,⟨#[]⟩⟩,s7) := by
    simp [fieldS,clockS,clkAt,skipS,Clk.setN,Clk.put,e1,e2,e3,f0,f1,f2,f3,e5,e6,e7,e8,e9,e10]
   rw [hF] at h
   cases hl : isLong k with
   | false =>
     rw [hl] at h
     simp only [Bool.false_eq_true,if_false,Prod.mk.injEq] at h
     obtain ⟨rfl,hs⟩ := h
     have y7 : s7.2 = 0 := by rw [hs]
     have hm : s7.1 = m := by rw [hs]
     have y6 := (wordS_z e7 y7)
     have y5 := (octS_z e6 y6)
     have yp := (numS_z e5 y5)
     have yt3 := (numS_z f3 yp)
     have yt2 := (numS_z f2 yt3)
     have yt1 := (numS_z f1 yt2)
     have y3 := (numS_z f0 yt1)
     have y2 := (numS_z e3 y3)
     have y1 := (octS_z e2 y2)
     obtain ⟨_,k1,k2,_,_,u1,b1⟩ := octS_ok e1 y1
     obtain ⟨_,r1,r2,_,_,u2,b2⟩ := octS_ok e2 y2
     obtain ⟨_,n1,n2,_,u3,b3⟩ := numS_ok e3 y3 u2
     obtain ⟨_,m0,mm0,_,v0,g0⟩ := numS_ok f0 yt1 u3
     obtain ⟨_,m1,mm1,_,v1,g1⟩ := numS_ok f1 yt2 v0
     obtain ⟨_,m2,mm2,_,v2,g2⟩ := numS_ok f2 yt3 v1
     obtain ⟨_,m3,mm3,_,v3,g3⟩ := numS_ok f3 yp v2
     obtain ⟨_,h1,h2,_,u5,b5⟩ := numS_ok e5 y5 v3
     obtain ⟨_,k3,k4,k5,_,u6,b6⟩ := octS_ok e6 y6
     obtain ⟨_,q1,q2,u7,b7⟩ := wordS_ok e7 y7 u6 k5
     obtain ⟨q3,q4,q5⟩ := keyE_ok' q2
     refine ⟨mayE_of ⟨by dsimp only; omega,by dsimp only; omega,n1,n2,h1,h2,by dsimp only; omega,by dsimp only; omega,by dsimp only; omega,by dsimp only; omega,by dsimp only; omega,by simp [Clk.get],?_⟩,by rw [← hm]; exact u7,?_⟩
     · exact editE_short (e := ⟨k,key,0,⟨#[]⟩⟩) ⟨by dsimp only; omega,by dsimp only; omega⟩ q2 (isLong_k hl) rfl rfl
     · refine take_eq (by rw [← hm]; exact u7) (l := evBytes _) ?_
       rw [← hm]
       have b0 : bs = bs.drop (0,(0 : Int)).1 := rfl
       conv => lhs; rw [b0,b1,b2,b3,g0,g1,g2,g3,b5,b6,b7]
       simp [evBytes,others,hl,← words_eq key q1]
   | true =>
     rw [hl] at h
     simp only [if_true,Prod.mk.injEq] at h
     obtain ⟨rfl,hs⟩ := h
     have y10 : s10.2 = 0 := by rw [hs]
     have hm : s10.1 = m := by rw [hs]
     have y9 := (wordS_z e10 y10)
     have y8 := (octS_z e9 y9)
     have y7 := (octS_z e8 y8)
     have y6 := (wordS_z e7 y7)
     have y5 := (octS_z e6 y6)
     have yp := (numS_z e5 y5)
     have yt3 := (numS_z f3 yp)
     have yt2 := (numS_z f2 yt3)
     have yt1 := (numS_z f1 yt2)
     have y3 := (numS_z f0 yt1)
     have y2 := (numS_z e3 y3)
     have y1 := (octS_z e2 y2)
     obtain ⟨_,k1,k2,_,_,u1,b1⟩ := octS_ok e1 y1
     obtain ⟨_,r1,r2,_,_,u2,b2⟩ := octS_ok e2 y2
     obtain ⟨_,n1,n2,_,u3,b3⟩ := numS_ok e3 y3 u2
     obtain ⟨_,m0,mm0,_,v0,g0⟩ := numS_ok f0 yt1 u3
     obtain ⟨_,m1,mm1,_,v1,g1⟩ := numS_ok f1 yt2 v0
     obtain ⟨_,m2,mm2,_,v2,g2⟩ := numS_ok f2 yt3 v1
     obtain ⟨_,m3,mm3,_,v3,g3⟩ := numS_ok f3 yp v2
     obtain ⟨_,h1,h2,_,u5,b5⟩ := numS_ok e5 y5 v3
     obtain ⟨_,k3,k4,k5,_,u6,b6⟩ := octS_ok e6 y6
     obtain ⟨_,q1,q2,u7,b7⟩ := wordS_ok e7 y7 u6 k5
     obtain ⟨q3,q4,q5⟩ := keyE_ok' q2
     obtain ⟨_,l1,l2,_,_,u8,b8⟩ := octS_ok e8 y8
     obtain ⟨_,l3,l4,l5,_,u9,b9⟩ := octS_ok e9 y9
     obtain ⟨_,p1,p2,u10,b10⟩ := wordS_ok e10 y10 u9 l5
     refine ⟨mayE_of ⟨by dsimp only; omega,by dsimp only; omega,n1,n2,h1,h2,by dsimp only; omega,by dsimp only; omega,by dsimp only; omega,by dsimp only; omega,by dsimp only; omega,by simp [Clk.get],?_⟩,by rw [← hm]; exact u10,?_⟩
     · exact editE_long (e := ⟨k,key,l,v⟩) ⟨by dsimp only; omega,by dsimp only; omega⟩ q2 hl (by dsimp only; omega) p2
     · refine take_eq (by rw [← hm]; exact u10) (l := evBytes _) ?_
       rw [← hm]
       have b0 : bs = bs.drop (0,(0 : Int)).1 := rfl
       conv => lhs; rw [b0,b1,b2,b3,g0,g1,g2,g3,b5,b6,b7,b8,b9,b10]
       simp [evBytes,others,hl,← words_eq key q1,← words_eq v p1]
end Go.Proofs.YtimhagicagdkfaaGreat

/-
 Plain Lean: an event that is cut is too short.
-/
namespace Go.Proofs.YtimhagicagdkfaaGreat
end Go.Proofs.YtimhagicagdkfaaGreat

/-
 What event.Take tells: which errors; and that what was put is taken.
-/
namespace Go.Proofs.YtimhagicagdkfaaGreat
open Go.RowKit
def E23 (x : Int) : Prop := x = 0 ∨ x = 2 ∨ x = 3
theorem octS_err {bs : List UInt8} {lo hi : Int} {s : Sq} (h : E23 s.2) : E23 (octS bs lo hi s).2.2 := by
 unfold octS
 split
 · exact h
 · split
   · exact .inr (.inl rfl)
   · split
     · exact .inl rfl
     · exact .inr (.inr rfl)
theorem numS_err {bs : List UInt8} {lo hi : Int} {s : Sq} (h : E23 s.2) : E23 (numS bs lo hi s).2.2 := by
 unfold numS
 split
 · exact h
 · split
   · have h : vtakeF ((bs.drop s.1).take 10) 0 0 = vtake (bs.drop s.1) := rfl
     have := vtakeF_err ((bs.drop s.1).take 10) 0 0
     rw [h] at this
     exact this
   · split
     · exact .inl rfl
     · exact .inr (.inr rfl)
theorem wordS_err {bs : List UInt8} {sz : Int} {may : ByteArray → Int} {s : Sq} (h : E23 s.2) : E23 (wordS bs sz may s).2.2 := by
 unfold wordS
 split
 · exact h
 · split
   · exact .inr (.inl rfl)
   · dsimp only
     split
     · exact .inl rfl
     · exact .inr (.inr rfl)
theorem skipS_err {bs : List UInt8} {r : Int} {j : Nat} {s : Sq} (h : E23 s.2) : E23 (skipS bs r j s).2.2 := by
 unfold skipS
 split
 · exact h
 · exact numS_err h
theorem clkAt_err {bs : List UInt8} {r : Int} {s : Sq} (h : E23 s.2) : ∀ j,E23 (clkAt bs r s j).2.2
  | 0 => h
  | j + 1 => skipS_err (clkAt_err h j)
theorem fieldS_err (bs : List UInt8) : E23 (fieldS bs (0,0)).2.2 := by
 have h6 : E23 (wordS bs (octS bs 1 8 (numS bs 1 16777216 (clockS bs (octS bs 0 4 (octS bs 1 5 (0,0)).2).1 (numS bs 1 1048576 (octS bs 0 4 (octS bs 1 5 (0,0)).2).2).2).2).2).1 keyE (octS bs 1 8 (numS bs 1 16777216 (clockS bs (octS bs 0 4 (octS bs 1 5 (0,0)).2).1 (numS bs 1 1048576 (octS bs 0 4 (octS bs 1 5 (0,0)).2).2).2).2).2).2).2.2 :=
  wordS_err (octS_err (numS_err (clkAt_err (numS_err (octS_err (octS_err (.inl rfl)))) 5)))
 unfold fieldS
 dsimp only
 split
 · exact wordS_err (octS_err (octS_err h6))
 · exact h6
theorem takeE_ways (bs : List UInt8) : (∃ e m,takeE bs = (e,m,0) ∧ mayE e = 0 ∧ m ≤ bs.length ∧ bs.take m = evBytes e ∧ m = (evBytes e).length) ∨ takeE bs = (zeroEv,0,2) ∨ takeE bs = (zeroEv,0,3) := by
 obtain ⟨⟨e,m,x⟩,hf⟩ : ∃ p,fieldS bs (0,0) = p := ⟨_,rfl⟩
 have he := fieldS_err bs
 rw [hf] at he
 unfold takeE
 rw [hf]
 rcases he with h | h | h <;> dsimp only at h <;> subst h
 · obtain ⟨h1,h2,h3⟩ := field_ok bs hf
   refine .inl ⟨e,m,by simp,h1,h2,h3,?_⟩
   rw [← h3,List.length_take]
   omega
 · exact .inr (.inl (by simp))
 · exact .inr (.inr (by simp))
theorem takeE_put (e : Ev) (h : mayE e = 0) (rest : List UInt8) : takeE (evBytes e ++ rest) = (e,(evBytes e).length,0) := by
 unfold takeE
 rw [field_put e h rest]
 simp
theorem Ch.isB {n : Nat} {sc : Bool} {F : Nat → List AV} {l : List UInt8} {xs ys : List AV} (h : IsB F l) (hn : n = l.length) (k : Ch xs ys) : Ch (.sl 1 n sc F :: xs) (.sl 1 l.length sc (bytesF l) :: ys) :=
 .of (fun X u hu => AEq.isB (sc := sc) h hn X u hu) k
theorem take_any {n : Nat} {F : Nat → List AV} (l : List UInt8) {e : Ev} {m : Nat} {x : Int} (ht : takeE l = (e,m,x)) (hF : IsB F l) (hn : n = l.length) (hl : l.length ≤ 1000000000) :
  ASpec Tryz.prog 114 [.sl 1 n true F] (.tup [e.av, .v (.int .i64 (m : Int)), .v (.int .i64 x)]) [] := by
 have h := take_spec l hl
 rw [ht] at h
 exact h.args (Ch.isB hF hn .nil)
end Go.Proofs.YtimhagicagdkfaaGreat

/-
 What frame.number and frame.events tell of any bytes; equality of bytes and of lists of events.
-/
namespace Go.Proofs.YtimhagicagdkfaaGreat
open Go.RowKit
def numF (b : List UInt8) : Option (Nat × Nat) := if (vtake b).2.2 = 0 ∧ (vtake b).1 ≤ 1048576 then some ((vtake b).1,(vtake b).2.1) else none
def evsAt (b : List UInt8) : Nat → Option (List Ev × List UInt8)
  | 0 => some ([],b)
  | j + 1 => match evsAt b j with
    | none => none
    | some (l,r) => if (takeE r).2.2 = 0 then some (l ++ [(takeE r).1],r.drop (takeE r).2.1) else none
theorem evsAt_len {b : List UInt8} : ∀ {j : Nat} {l : List Ev} {r : List UInt8},evsAt b j = some (l,r) → l.length = j ∧ r.length ≤ b.length
  | 0,l,r,h => by
    simp only [evsAt,Option.some.injEq,Prod.mk.injEq] at h
    obtain ⟨rfl,rfl⟩ := h
    exact ⟨rfl,Nat.le_refl _⟩
  | j + 1,l,r,h => by
    unfold evsAt at h
    cases h0 : evsAt b j with
    | none => rw [h0] at h; cases h
    | some p =>
      obtain ⟨l0,r0⟩ := p
      rw [h0] at h
      dsimp only at h
      have ih := evsAt_len h0
      split at h
      · simp only [Option.some.injEq,Prod.mk.injEq] at h
        obtain ⟨rfl,rfl⟩ := h
        refine ⟨by simp [ih.1],?_⟩
        rw [List.length_drop]
        omega
      · cases h
theorem evsAt_step {b : List UInt8} {j : Nat} {l : List Ev} {r : List UInt8} {e : Ev} {m : Nat} (h : evsAt b j = some (l,r)) (ht : takeE r = (e,m,0)) : evsAt b (j + 1) = some (l ++ [e],r.drop m) := by
 unfold evsAt
 rw [h]
 dsimp only
 rw [ht]
 rfl
theorem evsAt_stop {b : List UInt8} {j : Nat} {l : List Ev} {r : List UInt8} (h : evsAt b j = some (l,r)) (ht : (takeE r).2.2 ≠ 0) : evsAt b (j + 1) = none := by
 unfold evsAt
 rw [h]
 dsimp only
 rw [if_neg ht]
theorem evsAt_none {b : List UInt8} {j : Nat} (h : evsAt b j = none) : ∀ n,j ≤ n → evsAt b n = none := by
 intro n hn
 obtain ⟨d,rfl⟩ := Nat.le.dest hn
 clear hn
 induction d with
 | zero => exact h
 | succ d ih =>
   show evsAt b (j + d + 1) = none
   unfold evsAt
   rw [ih]
theorem C1.nilSl {X : CX} {f : Nat → List AV} {u : Value} (h : C1 X (.v (.slice none 0 0)) u) : C1 X (.sl 12 0 true f) u := by
 have h : u = .slice none 0 0 := h
 subst h
 exact (show C0 X (.sl 12 0 true f) (.slice none 0 0) from .sl 12 0 true f none 0 [] (by omega) (Nat.le_refl _) (by simp [maxLen]) (by simp) (fun i hi => absurd hi (Nat.not_lt_zero i)) (fun _ x hx => by simp [flat] at hx) (fun i x u hx => by simp [flat] at hx) (.inl rfl))
theorem All2.hd {R : AV → Value → Prop} {x y : AV} {xs : List AV} {us : List Value} (h : All2 R (x :: xs) us) (hi : ∀ u,R x u → R y u) : All2 R (y :: xs) us := by
 rcases us with _ | ⟨u,us⟩
 · have := h.1; simp at this
 · exact All2.cons (hi u (h.2 0 _ _ rfl rfl)) ⟨by have := h.1; simpa using this,fun i a b ha hb => h.2 (i + 1) a b (by simpa using ha) (by simpa using hb)⟩
theorem AEq.nilT {b : AV} (f : Nat → List AV) : AEq (.tup [.v (.slice none 0 0),b]) (.tup [.sl 12 0 true f,b]) := by
 rintro X u ⟨us,e,ha⟩
 exact ⟨us,e,ha.hd fun u hu => C1.nilSl hu⟩
def evsR : Option (List Ev) → AV
  | none => .tup [.v (.slice none 0 0), .v (.bool false)]
  | some l => .tup [.sl 12 l.length true (evF l), .v (.bool true)]
theorem equal_spec {n m : Nat} {F G : Nat → List AV} (a b : List UInt8) (hF : IsB F a) (hn : n = a.length) (hG : IsB G b) (hm : m = b.length) : ASpec Tryz.prog 46 [.sl 1 n true F, .sl 1 m true G] (.v (.bool (decide (a = b)))) [] := by
 refine K1.E 0x13 Tryz.func46 ?_
 repeat' ((conv => whnf); first | refine K1.w ?_ | refine K1.u ?_ | refine Bs.of a hF hn ?_ | refine Bs.of b hG hm ?_ | refine ARet.hdI ?_ | refine K1.z ?_ | refine K1.y (fun _ => ?_) (fun _ => ?_) | fail)
 all_goals (conv => whnf)
 all_goals (refine AEqI.mk (AEq.of ?_))
 · have h : (⟨a.toArray⟩ : ByteArray) = ⟨b.toArray⟩ := by assumption
   have : a = b := by simpa using h
   simp [this]
 · have h : ¬ (⟨a.toArray⟩ : ByteArray) = ⟨b.toArray⟩ := by assumption
   have : ¬ a = b := by simpa using h
   simp [this]
end Go.Proofs.YtimhagicagdkfaaGreat

/-
 What frame.read tells of any bytes; whether two lists of events,two frames are the same.
-/
namespace Go.Proofs.YtimhagicagdkfaaGreat
open Go.RowKit
end Go.Proofs.YtimhagicagdkfaaGreat

/-
 Plain Lean: what a frame's bytes say,read again; what frame.Take tells.
-/
namespace Go.Proofs.YtimhagicagdkfaaGreat
def rdC (b : List UInt8) : Clk × Bool :=
 match numF b with
 | none => (⟨0,0,0,0,0⟩,false)
 | some (n0,k0) => match numF (b.drop k0) with
   | none => (⟨n0,0,0,0,0⟩,false)
   | some (n1,k1) => match numF ((b.drop k0).drop k1) with
     | none => (⟨n0,n1,0,0,0⟩,false)
     | some (n2,k2) => match numF (((b.drop k0).drop k1).drop k2) with
       | none => (⟨n0,n1,n2,0,0⟩,false)
       | some (n3,k3) => match numF ((((b.drop k0).drop k1).drop k2).drop k3) with
         | none => (⟨n0,n1,n2,n3,0⟩,false)
         | some (n4,_) => (⟨n0,n1,n2,n3,n4⟩,true)
def rc0 : Rc := ⟨0,0,0,clk0,[]⟩
theorem numF_put {n : Nat} (h : n ≤ 1048576) (t : List UInt8) : numF (vput n ++ t) = some (n,(vput n).length) := by
 unfold numF
 rw [vtake_put n t (by omega),if_pos ⟨rfl,h⟩]
theorem evsAt_put (l : List Ev) (h : ∀ e ∈ l,mayE e = 0) (t : List UInt8) : ∀ j,j ≤ l.length → evsAt (evsB l ++ t) j = some (l.take j,evsB (l.drop j) ++ t)
  | 0,_ => by simp [evsAt]
  | j + 1,hj => by
    have ih := evsAt_put l h t j (by omega)
    have e0 : l.drop j = l[j] :: l.drop (j + 1) := List.drop_eq_getElem_cons (by omega)
    have e1 : evsB (l.drop j) ++ t = evBytes l[j] ++ (evsB (l.drop (j + 1)) ++ t) := by
     rw [e0]
     show evBytes l[j] ++ evsB (l.drop (j + 1)) ++ t = _
     rw [List.append_assoc]
    have ht := takeE_put l[j] (h _ (List.getElem_mem _)) (evsB (l.drop (j + 1)) ++ t)
    rw [← e1] at ht
    rw [evsAt_step ih ht,e1,List.drop_left]
    congr 2
    exact List.take_append_getElem (by omega)
theorem rdC_put {c0 c1 c2 c3 c4 : Nat} (h0 : c0 ≤ 1048576) (h1 : c1 ≤ 1048576) (h2 : c2 ≤ 1048576) (h3 : c3 ≤ 1048576) (h4 : c4 ≤ 1048576) (t : List UInt8) :
  rdC (vput c0 ++ (vput c1 ++ (vput c2 ++ (vput c3 ++ (vput c4 ++ t))))) = (⟨c0,c1,c2,c3,c4⟩,true) := by
 unfold rdC
 rw [numF_put h0]
 dsimp only
 rw [List.drop_left,numF_put h1]
 dsimp only
 rw [List.drop_left,numF_put h2]
 dsimp only
 rw [List.drop_left,numF_put h3]
 dsimp only
 rw [List.drop_left,numF_put h4]
instance (l : List UInt8) : Decidable (okSeal l) := inferInstanceAs (Decidable (_ ∧ _))
def inner (l : List UInt8) : List UInt8 := l.take (l.length - 4)
theorem inner_seal (m : List UInt8) : inner (sealB m) = m := by
 unfold inner
 rw [sealB_len,Nat.add_sub_cancel]
 simp [sealB]
theorem ok_seal (m : List UInt8) : okSeal (sealB m) := by
 refine ⟨by rw [sealB_len]; omega,?_⟩
 have := inner_seal m
 unfold inner at this
 rw [this]
theorem ok_inner {l : List UInt8} (h : okSeal l) : l = sealB (inner l) := h.2
end Go.Proofs.YtimhagicagdkfaaGreat

/-
 Small lemmas for the walks of frames and records.
-/
namespace Go.Proofs.YtimhagicagdkfaaGreat
open Go.RowKit
theorem AEq.nilEvT {a1 a2 a3 a4 a5 a6 a7 a8 b : AV} (f : Nat → List AV) : AEq (.tup [.agg [a1,a2,a3,a4,a5,a6,a7,a8, .v (.slice none 0 0)],b]) (.tup [.agg [a1,a2,a3,a4,a5,a6,a7,a8, .sl 12 0 true f],b]) := by
 rintro X u ⟨us,e,ha⟩
 exact ⟨us,e,ha.hd fun u hu => C1.nilEv hu⟩
theorem numF_le {b : List UInt8} {m k : Nat} (h : numF b = some (m,k)) : k ≤ b.length ∧ m ≤ 1048576 := by
 have hle := vtake_le b
 unfold numF at h
 split at h
 · rename_i h0
   simp only [Option.some.injEq,Prod.mk.injEq] at h
   omega
 · cases h
end Go.Proofs.YtimhagicagdkfaaGreat

/-
 Plain Lean: what a record's bytes say,read again; records one behind the other.
-/
namespace Go.Proofs.YtimhagicagdkfaaGreat
instance : Inhabited Rc := ⟨rc0⟩
def listF (b : List UInt8) : Option (List Ev) := match numF b with
  | none => none
  | some (m,k) => if 4096 < m then none else (evsAt (b.drop k) m).map (·.1)
def rdRn (k r : Int) (t : List UInt8) : Rc × Bool := match numF t with
  | none => (⟨k,r,0,clk0,[]⟩,false)
  | some (n,_) => (⟨k,r,n,clk0,[]⟩,true)
def rdRl (k r u : Int) (t : List UInt8) : Rc × Bool := match listF t with
  | none => (⟨k,r,u,clk0,[]⟩,false)
  | some l => (⟨k,r,u,clk0,l⟩,true)
def rdR (k r : Int) (t : List UInt8) : Rc × Bool :=
 if k = 1 ∨ k = 2 ∨ k = 5 then rdRl k r 0 t
 else if k = 3 then rdRn k r t
 else if k = 4 then (match numF t with | none => (⟨k,r,0,clk0,[]⟩,false) | some (n,j) => rdRl k r n (t.drop j))
 else if k = 6 then (⟨k,r,0,(rdC t).1,[]⟩,(rdC t).2)
 else (⟨k,r,0,clk0,[]⟩,false)
def readR (b : List UInt8) : Rc × Bool :=
 if b.length < 2 then (rc0,false) else rdR ((b.getD 0 default).toNat : Int) ((b.getD 1 default).toNat : Int) (b.drop 2)
theorem listF_put (l : List Ev) (h : ∀ e ∈ l,mayE e = 0) (hl : l.length ≤ 4096) (t : List UInt8) : listF (vput l.length ++ (evsB l ++ t)) = some l := by
 unfold listF
 rw [numF_put (by omega)]
 dsimp only
 rw [if_neg (by omega),List.drop_left,evsAt_put l h t _ (Nat.le_refl _),List.take_length]
 rfl
theorem readR_put (x : Rc) (h : mayR x = true) (t : List UInt8) : readR (rcBody x ++ t) = (x,true) := by
 have m := mayR_of h
 obtain ⟨k,r,u,⟨c0,c1,c2,c3,c4⟩,ev⟩ := x
 obtain ⟨mk,mr,mu,ml,⟨m0,m1,m2,m3,m4⟩,mu0,mc0,me0,mev,mone⟩ := m
 dsimp only at mk mr mu ml m0 m1 m2 m3 m4 mu0 mc0 me0 mev mone
 obtain ⟨rest,hrest⟩ : ∃ rest,rest = (if rcU k then vputI u else []) ++ (if rcC k then clkB ⟨c0,c1,c2,c3,c4⟩ else []) ++ (if rcE k then vput ev.length ++ evsB ev else []) ++ t := ⟨_,rfl⟩
 have hb : rcBody ⟨k,r,u,⟨c0,c1,c2,c3,c4⟩,ev⟩ ++ t = byteOf k :: byteOf r :: rest := by
  rw [hrest]; simp [rcBody]
 rw [hb]
 unfold readR
 rw [if_neg (by simp)]
 rw [show (byteOf k :: byteOf r :: rest).getD 0 default = byteOf k from rfl,show (byteOf k :: byteOf r :: rest).getD 1 default = byteOf r from rfl,show (byteOf k :: byteOf r :: rest).drop 2 = rest from rfl,byteOf_nat (by omega) (by omega),byteOf_nat (by omega) (by omega)]
 clear hb
 unfold rdR
 rcases (show (k = 1 ∨ k = 2 ∨ k = 5) ∨ k = 3 ∨ k = 4 ∨ k = 6 by omega) with hk | hk | hk | hk
 · have hU : rcU k = false := by simp [rcU]; omega
   have hC : rcC k = false := by simp [rcC]; omega
   have hE : rcE k = true := by simp [rcE]; omega
   rw [hU] at mu0 hrest; rw [hC] at mc0 hrest; rw [hE] at hrest
   simp only [Bool.false_eq_true,false_or] at mu0 mc0
   rw [if_pos hk,hrest]
   simp only [if_true,Bool.false_eq_true,if_false,List.nil_append,List.append_assoc]
   unfold rdRl
   rw [listF_put ev (may_mem mev) ml t]
   dsimp only
   rw [mu0,mc0]
 · have hU : rcU k = true := by simp [rcU]; omega
   have hC : rcC k = false := by simp [rcC]; omega
   have hE : rcE k = false := by simp [rcE]; omega
   rw [hU] at hrest; rw [hC] at mc0 hrest; rw [hE] at me0 hrest
   simp only [Bool.false_eq_true,false_or] at me0 mc0
   obtain ⟨un,rfl,hun⟩ := okN_of mu
   rw [if_neg (by omega),if_pos hk,hrest]
   simp only [if_true,Bool.false_eq_true,if_false,List.append_nil]
   unfold rdRn
   rw [vputI_nat,numF_put hun]
   dsimp only
   rw [List.eq_nil_of_length_eq_zero me0,mc0]
 · have hU : rcU k = true := by simp [rcU]; omega
   have hC : rcC k = false := by simp [rcC]; omega
   have hE : rcE k = true := by simp [rcE]; omega
   rw [hU] at hrest; rw [hC] at mc0 hrest; rw [hE] at hrest
   simp only [Bool.false_eq_true,false_or] at mc0
   obtain ⟨un,rfl,hun⟩ := okN_of mu
   rw [if_neg (by omega),if_neg (by omega),if_pos hk,hrest]
   simp only [if_true,Bool.false_eq_true,if_false,List.append_nil,List.append_assoc]
   rw [vputI_nat,numF_put hun]
   dsimp only
   rw [List.drop_left]
   unfold rdRl
   rw [listF_put ev (may_mem mev) ml t]
   dsimp only
   rw [mc0]
 · have hU : rcU k = false := by simp [rcU]; omega
   have hC : rcC k = true := by simp [rcC]; omega
   have hE : rcE k = false := by simp [rcE]; omega
   rw [hU] at mu0 hrest; rw [hC] at hrest; rw [hE] at me0 hrest
   simp only [Bool.false_eq_true,false_or] at mu0 me0
   obtain ⟨c0,rfl,hc0⟩ := okN_of m0
   obtain ⟨c1,rfl,hc1⟩ := okN_of m1
   obtain ⟨c2,rfl,hc2⟩ := okN_of m2
   obtain ⟨c3,rfl,hc3⟩ := okN_of m3
   obtain ⟨c4,rfl,hc4⟩ := okN_of m4
   rw [if_neg (by omega),if_neg (by omega),if_neg (by omega),if_pos hk,hrest]
   simp only [if_true,Bool.false_eq_true,if_false,List.nil_append,clkB,vputI_nat,List.append_assoc]
   rw [rdC_put hc0 hc1 hc2 hc3 hc4]
   dsimp only
   rw [List.eq_nil_of_length_eq_zero me0,mu0]
def firstF (b : List UInt8) : Option (Rc × Nat) :=
 if (vtake b).2.2 ≠ 0 ∨ b.length - (vtake b).2.1 < (vtake b).1 then none
 else if okSeal ((b.drop (vtake b).2.1).take (vtake b).1) then
  if (readR (inner ((b.drop (vtake b).2.1).take (vtake b).1))).2 = true ∧ mayR (readR (inner ((b.drop (vtake b).2.1).take (vtake b).1))).1 = true ∧ rcBytes (readR (inner ((b.drop (vtake b).2.1).take (vtake b).1))).1 = b.take ((vtake b).2.1 + (vtake b).1)
  then some ((readR (inner ((b.drop (vtake b).2.1).take (vtake b).1))).1,(vtake b).2.1 + (vtake b).1) else none
 else none
theorem rcBody_len (x : Rc) (h : mayR x = true) : 2 ≤ (rcBody x).length ∧ (rcBody x).length ≤ 200000 := by
 have m := mayR_of h
 have hv (n : Nat) : (vput n).length ≤ 10 := vputF_le 9 _
 have hvi (n : Int) : (vputI n).length ≤ 10 := hv _
 have he := evsB_len (may_mem m.ev)
 have hl := m.l
 have e1 : (rcBody x).length = 2 + (if rcU x.k then (vputI x.u).length else 0) + (if rcC x.k then (clkB x.c).length else 0) + (if rcE x.k then (vput x.ev.length).length + (evsB x.ev).length else 0) := by
  unfold rcBody
  simp only [List.length_append]
  congr 1
  · congr 1
    · congr 1
      split <;> rfl
    · split <;> rfl
  · split
    · rw [List.length_append]
    · rfl
 have hc : (clkB x.c).length ≤ 50 := by
  have := hvi x.c.c0; have := hvi x.c.c1; have := hvi x.c.c2; have := hvi x.c.c3; have := hvi x.c.c4
  unfold clkB
  simp only [List.length_append]
  omega
 have := hvi x.u
 have := hv x.ev.length
 rw [e1]
 refine ⟨by omega,?_⟩
 split <;> split <;> split <;> omega
theorem rcBytes_max (x : Rc) (h : mayR x = true) : (rcBytes x).length ≤ 200100 := by
 have := rcBody_len x h
 have hv : (vput (sealB (rcBody x)).length).length ≤ 10 := vputF_le 9 _
 unfold rcBytes
 rw [List.length_append,sealB_len]
 rw [sealB_len] at hv
 omega
theorem firstF_put (x : Rc) (h : mayR x = true) (t : List UInt8) : firstF (rcBytes x ++ t) = some (x,(rcBytes x).length) := by
 have hb := rcBody_len x h
 have hs := sealB_len (rcBody x)
 have hr := readR_put x h []
 rw [List.append_nil] at hr
 have e : rcBytes x ++ t = vput (sealB (rcBody x)).length ++ (sealB (rcBody x) ++ t) := by unfold rcBytes; rw [List.append_assoc]
 have hv := vtake_put (sealB (rcBody x)).length (sealB (rcBody x) ++ t) (by omega)
 have hl : (rcBytes x).length = (vput (sealB (rcBody x)).length).length + (sealB (rcBody x)).length := by unfold rcBytes; rw [List.length_append]
 unfold firstF
 rw [e,hv,List.drop_left,List.take_left,if_neg (by simp),if_pos (ok_seal _),inner_seal,hr,if_pos ⟨rfl,h,by rw [← e,← hl,List.take_left]⟩,hl]
def rcsB (l : List Rc) : List UInt8 := l.flatMap rcBytes
structure Recs (b : List UInt8) (l : List Rc) (t : List UInt8) : Prop where
 may : ∀ r ∈ l,mayR r = true
 eq : b = rcsB l ++ t
 no : firstF t = none
theorem rcsB_snoc (l : List Rc) (x : Rc) : rcsB (l ++ [x]) = rcsB l ++ rcBytes x := by simp [rcsB]
theorem recs_step {b : List UInt8} {l : List Rc} {t : List UInt8} (h : Recs b l t) (j : Nat) (hj : j < l.length) : firstF (b.drop (rcsB (l.take j)).length) = some (l.getD j default,(rcBytes (l.getD j default)).length) := by
 have e : l = l.take j ++ l.getD j default :: l.drop (j + 1) := by
  rw [List.getD,List.getElem?_eq_getElem hj]
  simp
 have e2 : b = rcsB (l.take j) ++ (rcBytes (l.getD j default) ++ (rcsB (l.drop (j + 1)) ++ t)) := by
  rw [h.eq]
  conv => lhs; rw [e]
  simp [rcsB]
 rw [e2,List.drop_left]
 refine firstF_put _ (h.may _ ?_) _
 rw [List.getD,List.getElem?_eq_getElem hj]
 exact List.getElem_mem hj
theorem recs_end {b : List UInt8} {l : List Rc} {t : List UInt8} (h : Recs b l t) : firstF (b.drop (rcsB l).length) = none := by
 rw [h.eq,List.drop_left]
 exact h.no
theorem recs_take {l : List Rc} {j : Nat} (hj : j < l.length) : rcsB (l.take (j + 1)) = rcsB (l.take j) ++ rcBytes (l.getD j default) := by
 have : l.take (j + 1) = l.take j ++ [l.getD j default] := by
  rw [List.getD,List.getElem?_eq_getElem hj]
  simp
 rw [this,rcsB_snoc]
end Go.Proofs.YtimhagicagdkfaaGreat
