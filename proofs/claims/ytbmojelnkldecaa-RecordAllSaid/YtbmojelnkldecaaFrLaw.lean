/-
  Plain Lean: what a frame's bytes say, read again; what frame.Take tells.
-/
import Derived.Test.YtbmojelnkldecaaFrU
namespace Go.Proofs.Ytbmojelnkldecaa

def rdC (b : List UInt8) : Clk × Bool :=
  match numF b with
  | none => (⟨0, 0, 0, 0, 0⟩, false)
  | some (n0, k0) => match numF (b.drop k0) with
    | none => (⟨n0, 0, 0, 0, 0⟩, false)
    | some (n1, k1) => match numF ((b.drop k0).drop k1) with
      | none => (⟨n0, n1, 0, 0, 0⟩, false)
      | some (n2, k2) => match numF (((b.drop k0).drop k1).drop k2) with
        | none => (⟨n0, n1, n2, 0, 0⟩, false)
        | some (n3, k3) => match numF ((((b.drop k0).drop k1).drop k2).drop k3) with
          | none => (⟨n0, n1, n2, n3, 0⟩, false)
          | some (n4, _) => (⟨n0, n1, n2, n3, n4⟩, true)

def rc0 : Rc := ⟨0, 0, 0, clk0, []⟩
def rdB (k r : Int) (t : List UInt8) : Rc × Bool :=
  if k = 1 ∨ k = 4 then (match evsF t with | none => (⟨k, r, 0, clk0, []⟩, false) | some l => (⟨k, r, 0, clk0, l⟩, true))
  else if k = 2 then (match numF t with | none => (⟨k, r, 0, clk0, []⟩, false) | some (n, _) => (⟨k, r, n, clk0, []⟩, true))
  else if k = 3 ∨ k = 5 then (⟨k, r, 0, (rdC t).1, []⟩, (rdC t).2)
  else (⟨k, r, 0, clk0, []⟩, false)
def readF (b : List UInt8) : Rc × Bool :=
  if (vtake b).2.2 ≠ 0 ∨ b.length < (vtake b).2.1 + 2 then (rc0, false)
  else rdB ((b.getD (vtake b).2.1 default).toNat : Int) ((b.getD ((vtake b).2.1 + 1) default).toNat : Int) (b.drop ((vtake b).2.1 + 2))

theorem numF_put {n : Nat} (h : n ≤ 1048576) (t : List UInt8) : numF (vput n ++ t) = some (n, (vput n).length) := by
  unfold numF
  rw [vtake_put n t (by omega), if_pos ⟨rfl, h⟩]
theorem evsAt_put (l : List Ev) (h : ∀ e ∈ l, mayE e = 0) (t : List UInt8) : ∀ j, j ≤ l.length → evsAt (evsB l ++ t) j = some (l.take j, evsB (l.drop j) ++ t)
  | 0, _ => by simp [evsAt]
  | j + 1, hj => by
    have ih := evsAt_put l h t j (by omega)
    have e0 : l.drop j = l[j] :: l.drop (j + 1) := List.drop_eq_getElem_cons (by omega)
    have e1 : evsB (l.drop j) ++ t = evBytes l[j] ++ (evsB (l.drop (j + 1)) ++ t) := by
      rw [e0]
      show evBytes l[j] ++ evsB (l.drop (j + 1)) ++ t = _
      rw [List.append_assoc]
    have ht := takeE_put l[j] (h _ (List.getElem_mem _)) (evsB (l.drop (j + 1)) ++ t)
    rw [← e1] at ht
    rw [evsAt_step ih ht, e1, List.drop_left]
    congr 2
    exact List.take_append_getElem (by omega)
theorem evsF_put (l : List Ev) (h : ∀ e ∈ l, mayE e = 0) (hl : l.length ≤ 255) (t : List UInt8) : evsF (UInt8.ofNat l.length :: (evsB l ++ t)) = some l := by
  show (evsAt (evsB l ++ t) (UInt8.ofNat l.length).toNat).map (·.1) = _
  rw [u8_of (by omega), evsAt_put l h t _ (Nat.le_refl _), List.take_length]
  rfl
theorem rdC_put {c0 c1 c2 c3 c4 : Nat} (h0 : c0 ≤ 1048576) (h1 : c1 ≤ 1048576) (h2 : c2 ≤ 1048576) (h3 : c3 ≤ 1048576) (h4 : c4 ≤ 1048576) (t : List UInt8) :
    rdC (vput c0 ++ (vput c1 ++ (vput c2 ++ (vput c3 ++ (vput c4 ++ t))))) = (⟨c0, c1, c2, c3, c4⟩, true) := by
  unfold rdC
  rw [numF_put h0]
  dsimp only
  rw [List.drop_left, numF_put h1]
  dsimp only
  rw [List.drop_left, numF_put h2]
  dsimp only
  rw [List.drop_left, numF_put h3]
  dsimp only
  rw [List.drop_left, numF_put h4]

theorem readF_put (x : Rc) (h : mayF x = true) (n : Nat) (hn : n ≤ 4294967296) (t : List UInt8) : readF (vput n ++ (frBody x ++ t)) = (x, true) := by
  have m := mayF_of h
  obtain ⟨k, r, u, ⟨c0, c1, c2, c3, c4⟩, ev⟩ := x
  obtain ⟨mk, mr, mu, mu0, mc0, me0, ⟨m0, m1, m2, m3, m4⟩, ml, mone, mev0⟩ := m
  dsimp only at mk mr mu ml m0 m1 m2 m3 m4 mu0 mc0 me0 mev0 mone
  have mev := evOk_may mev0
  obtain ⟨rest, hrest⟩ : ∃ rest, rest = (if shE k then UInt8.ofNat ev.length :: evsB ev else []) ++ (if shU k then vputI u else []) ++ (if shC k then clkB ⟨c0, c1, c2, c3, c4⟩ else []) ++ t := ⟨_, rfl⟩
  have hb : vput n ++ (frBody ⟨k, r, u, ⟨c0, c1, c2, c3, c4⟩, ev⟩ ++ t) = vput n ++ ([byteOf k, byteOf r] ++ rest) := by
    rw [hrest]; simp [frBody]
  have g0 : ((vput n ++ ([byteOf k, byteOf r] ++ rest)).getD (vput n).length default) = byteOf k := by
    rw [List.getD, List.getElem?_append_right (Nat.le_refl _), Nat.sub_self]; rfl
  have g1 : ((vput n ++ ([byteOf k, byteOf r] ++ rest)).getD ((vput n).length + 1) default) = byteOf r := by
    rw [List.getD, List.getElem?_append_right (by omega), Nat.add_sub_cancel_left]; rfl
  have g2 : (vput n ++ ([byteOf k, byteOf r] ++ rest)).drop ((vput n).length + 2) = rest := by
    rw [← List.drop_drop, List.drop_left]; rfl
  rw [hb]
  unfold readF
  rw [vtake_put n _ hn]
  rw [if_neg (by simp)]
  dsimp only
  rw [g0, g1, g2, byteOf_nat (by omega) (by omega), byteOf_nat (by omega) (by omega)]
  clear g0 g1 g2 hb
  unfold rdB
  rcases (show (k = 1 ∨ k = 4) ∨ k = 2 ∨ (k = 3 ∨ k = 5) by omega) with hk | hk | hk
  · have hU : shU k = false := by simp [shU]; omega
    have hC : shC k = false := by simp [shC]; omega
    have hE : shE k = true := by simp [shE]; omega
    rw [hU] at mu0 hrest; rw [hC] at mc0 hrest; rw [hE] at hrest
    simp only [Bool.false_eq_true, false_or] at mu0 mc0
    rw [if_pos hk, hrest]
    simp only [if_true, Bool.false_eq_true, if_false, List.append_nil, List.cons_append]
    rw [evsF_put ev (may_mem mev) (by omega)]
    rw [mu0, mc0]
  · have hU : shU k = true := by simp [shU]; omega
    have hC : shC k = false := by simp [shC]; omega
    have hE : shE k = false := by simp [shE]; omega
    rw [hU] at hrest; rw [hC] at mc0 hrest; rw [hE] at me0 hrest
    simp only [Bool.false_eq_true, false_or] at me0 mc0
    obtain ⟨un, rfl, hun⟩ := okN_of mu
    rw [if_neg (by omega), if_pos hk, hrest]
    simp only [if_true, Bool.false_eq_true, if_false, List.append_nil, List.nil_append]
    rw [vputI_nat, numF_put hun]
    dsimp only
    rw [List.eq_nil_of_length_eq_zero me0, mc0]
  · have hU : shU k = false := by simp [shU]; omega
    have hC : shC k = true := by simp [shC]; omega
    have hE : shE k = false := by simp [shE]; omega
    rw [hU] at mu0 hrest; rw [hC] at hrest; rw [hE] at me0 hrest
    simp only [Bool.false_eq_true, false_or] at mu0 me0
    obtain ⟨c0, rfl, hc0⟩ := okN_of m0
    obtain ⟨c1, rfl, hc1⟩ := okN_of m1
    obtain ⟨c2, rfl, hc2⟩ := okN_of m2
    obtain ⟨c3, rfl, hc3⟩ := okN_of m3
    obtain ⟨c4, rfl, hc4⟩ := okN_of m4
    rw [if_neg (by omega), if_neg (by omega), if_pos hk, hrest]
    simp only [if_true, Bool.false_eq_true, if_false, List.append_nil, List.nil_append, clkB, vputI_nat, List.append_assoc]
    rw [rdC_put hc0 hc1 hc2 hc3 hc4]
    dsimp only
    rw [List.eq_nil_of_length_eq_zero me0, mu0]

instance (l : List UInt8) : Decidable (okSeal l) := inferInstanceAs (Decidable (_ ∧ _))
/-- What was sealed. -/
def inner (l : List UInt8) : List UInt8 := l.take (l.length - 4)
theorem inner_seal (m : List UInt8) : inner (sealB m) = m := by
  unfold inner
  rw [sealB_len, Nat.add_sub_cancel]
  simp [sealB]
theorem ok_seal (m : List UInt8) : okSeal (sealB m) := by
  refine ⟨by rw [sealB_len]; omega, ?_⟩
  have := inner_seal m
  unfold inner at this
  rw [this]
theorem ok_inner {l : List UInt8} (h : okSeal l) : l = sealB (inner l) := h.2

def takeF (l : List UInt8) : Rc × Int :=
  if 2048 < l.length then (rc0, 5) else if okSeal l then
    if (readF (inner l)).2 = true ∧ mayF (readF (inner l)).1 = true ∧ frBytes (readF (inner l)).1 = l then ((readF (inner l)).1, 0) else (rc0, 3)
  else (rc0, 4)

theorem frBody_len (x : Rc) (h : mayF x = true) : 2 ≤ (frBody x).length ∧ (frBody x).length ≤ 1000 := by
  have m := mayF_of h
  have hv (n : Nat) : (vput n).length ≤ 10 := vputF_le 9 _
  have hvi (n : Int) : (vputI n).length ≤ 10 := hv _
  have he := evsB_len (may_mem (evOk_may m.ev))
  have hl := m.l
  have e1 : (frBody x).length = 2 + (if shE x.k then 1 + (evsB x.ev).length else 0) + (if shU x.k then (vputI x.u).length else 0) + (if shC x.k then (clkB x.c).length else 0) := by
    unfold frBody
    simp only [List.length_append]
    congr 1
    · congr 1
      · congr 1
        split <;> simp
        omega
      · split <;> rfl
    · split <;> rfl
  have hc : (clkB x.c).length ≤ 50 := by
    have := hvi x.c.c0; have := hvi x.c.c1; have := hvi x.c.c2; have := hvi x.c.c3; have := hvi x.c.c4
    unfold clkB
    simp only [List.length_append]
    omega
  have := hvi x.u
  rw [e1]
  refine ⟨by omega, ?_⟩
  split <;> split <;> split <;> omega
theorem frBytes_max (x : Rc) (h : mayF x = true) : (frBytes x).length ≤ 2048 := by
  have := frBody_len x h
  have hv : (vput (frBody x).length).length ≤ 10 := vputF_le 9 _
  unfold frBytes
  rw [sealB_len, List.length_append]
  omega
theorem takeF_put (x : Rc) (h : mayF x = true) : takeF (frBytes x) = (x, 0) := by
  have hb := frBody_len x h
  have hr := readF_put x h (frBody x).length (by omega) []
  rw [List.append_nil] at hr
  have hi : inner (frBytes x) = vput (frBody x).length ++ frBody x := inner_seal _
  have ho : okSeal (frBytes x) := ok_seal _
  unfold takeF
  rw [if_neg (by have := frBytes_max x h; omega), if_pos ho, hi, hr, if_pos ⟨rfl, h, rfl⟩]
theorem takeF_ways (l : List UInt8) (h : l.length ≤ 2048) : (∃ z, takeF l = (z, 0) ∧ mayF z = true ∧ frBytes z = l) ∨ takeF l = (rc0, 3) ∨ takeF l = (rc0, 4) := by
  unfold takeF
  rw [if_neg (by omega)]
  split
  · split
    · rename_i h1
      exact .inl ⟨_, rfl, h1.2.1, h1.2.2⟩
    · exact .inr (.inl rfl)
  · exact .inr (.inr rfl)
theorem takeF_seal (m : List UInt8) (h : m.length ≤ 2044) : (∃ z, takeF (sealB m) = (z, 0) ∧ mayF z = true ∧ frBytes z = sealB m) ∨ takeF (sealB m) = (rc0, 3) := by
  unfold takeF
  rw [if_neg (by rw [sealB_len]; omega), if_pos (ok_seal m)]
  split
  · rename_i h1
    exact .inl ⟨_, rfl, h1.2.1, h1.2.2⟩
  · exact .inr rfl
/-- A frame with another byte, or one fewer, sealed anew. -/
theorem takeF_other (x : Rc) (hx : mayF x = true) (m : List UInt8) (hm : m.length ≤ 2044) (t : List UInt8) (he : m = vput (frBody x).length ++ t) (hne : t.length ≠ (frBody x).length) : takeF (sealB m) = (rc0, 3) := by
  rcases takeF_seal m hm with ⟨z, _, hz, hb⟩ | h
  · exfalso
    have e := congrArg inner hb
    unfold frBytes at e
    rw [inner_seal, inner_seal] at e
    have hzl := frBody_len z hz
    have hxl := frBody_len x hx
    have v1 := vtake_put (frBody z).length (frBody z) (by omega)
    rw [e, he, vtake_put (frBody x).length t (by omega)] at v1
    have n1 : (frBody x).length = (frBody z).length := congrArg Prod.fst v1
    rw [he, n1] at e
    have := List.append_cancel_left e
    rw [this] at n1
    exact hne n1.symm
  · exact h
theorem frBytes_inj {x y : Rc} (hx : mayF x = true) (hy : mayF y = true) (h : frBytes x = frBytes y) : x = y := by
  have h1 := takeF_put x hx
  rw [h, takeF_put y hy] at h1
  exact (congrArg Prod.fst h1).symm
end Go.Proofs.Ytbmojelnkldecaa
