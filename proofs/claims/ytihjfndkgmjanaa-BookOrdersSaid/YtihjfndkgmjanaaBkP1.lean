/-
  Plain Lean: unlike contacts have unlike bytes; how many bytes they have.
-/
import Derived.Test.YtihjfndkgmjanaaBkB1
namespace Go.Proofs.Ytihjfndkgmjanaa
open Go.RowKit

theorem u8_ne {a b : Nat} (ha : a < 128) (hb : 128 ≤ b) (hb' : b < 256) : UInt8.ofNat a ≠ UInt8.ofNat b := fun h => by
  have := congrArg UInt8.toNat h
  rw [UInt8.toNat_ofNat', UInt8.toNat_ofNat', Nat.mod_eq_of_lt (by omega), Nat.mod_eq_of_lt (by omega)] at this
  omega
theorem u8_inj {a b : Nat} (ha : a < 256) (hb : b < 256) (h : UInt8.ofNat a = UInt8.ofNat b) : a = b := by
  have := congrArg UInt8.toNat h
  rwa [UInt8.toNat_ofNat', UInt8.toNat_ofNat', Nat.mod_eq_of_lt (by omega), Nat.mod_eq_of_lt (by omega)] at this
theorem vputF_inj : ∀ {f n m : Nat} {r r' : List UInt8}, n < 128 ^ (f + 1) → m < 128 ^ (f + 1) → vputF f n ++ r = vputF f m ++ r' → n = m ∧ r = r'
  | 0, n, m, r, r', hn, hm, h => by
    simp only [vputF, List.cons_append, List.nil_append, List.cons.injEq] at h
    rw [Nat.zero_add, Nat.pow_one] at hn hm
    exact ⟨u8_inj (by omega) (by omega) h.1, h.2⟩
  | f + 1, n, m, r, r', hn, hm, h => by
    rw [vputF, vputF] at h
    split at h
    · split at h
      · simp only [List.cons_append, List.nil_append, List.cons.injEq] at h
        exact ⟨u8_inj (by omega) (by omega) h.1, h.2⟩
      · simp only [List.cons_append, List.nil_append, List.cons.injEq] at h
        exact absurd h.1 (u8_ne (by omega) (by omega) (by omega))
    · split at h
      · simp only [List.cons_append, List.nil_append, List.cons.injEq] at h
        exact absurd h.1.symm (u8_ne (by omega) (by omega) (by omega))
      · simp only [List.cons_append, List.cons.injEq] at h
        have h1 := u8_inj (by omega) (by omega) h.1
        rw [Nat.pow_succ] at hn hm
        obtain ⟨h2, h3⟩ := vputF_inj (Nat.div_lt_of_lt_mul (by omega)) (Nat.div_lt_of_lt_mul (by omega)) h.2
        exact ⟨by omega, h3⟩
theorem vput_inj {n m : Nat} {r r' : List UInt8} (hn : n ≤ 4294967296) (hm : m ≤ 4294967296) (h : vput n ++ r = vput m ++ r') : n = m ∧ r = r' := by
  have : 128 ^ (9 + 1) = 1180591620717411303424 := by decide
  exact vputF_inj (by omega) (by omega) h
theorem txt_inj {s t : List UInt8} {r r' : List UInt8} (hs : s.length ≤ 4294967296) (ht : t.length ≤ 4294967296) (h : txtB s ++ r = txtB t ++ r') : s = t ∧ r = r' := by
  unfold txtB at h
  rw [List.append_assoc, List.append_assoc] at h
  obtain ⟨h1, h2⟩ := vput_inj hs ht h
  exact List.append_inj h2 h1
theorem has_inj {h h' : Bool} {f f' : ByteArray} {r r' : List UInt8} (hf : f.size ≤ 4294967296) (hf' : f'.size ≤ 4294967296) (h0 : h = false → f = ⟨#[]⟩) (h0' : h' = false → f' = ⟨#[]⟩) (e : hasP h f ++ r = hasP h' f' ++ r') : h = h' ∧ f = f' ∧ r = r' := by
  cases h <;> cases h' <;> simp only [hasP, if_true, List.cons_append, List.nil_append, List.cons.injEq, Bool.false_eq_true, if_false] at e
  · exact ⟨rfl, by rw [h0 rfl, h0' rfl], e.2⟩
  · exact absurd e.1 (by decide)
  · exact absurd e.1 (by decide)
  · obtain ⟨e1, e2⟩ := txt_inj (show f.data.toList.length ≤ _ from hf) (show f'.data.toList.length ≤ _ from hf') e.2
    refine ⟨rfl, ?_, e2⟩
    cases f; cases f'
    congr
    exact Array.toList_inj.1 e1
theorem set_inj0 : ∀ {l l' : List (List UInt8)} {r r' : List UInt8}, l.length = l'.length → (∀ x ∈ l, x.length ≤ 4294967296) → (∀ x ∈ l', x.length ≤ 4294967296) → l.flatMap txtB ++ r = l'.flatMap txtB ++ r' → l = l' ∧ r = r'
  | [], [], _, _, _, _, _, h => ⟨rfl, h⟩
  | [], _ :: _, _, _, hl, _, _, _ => by simp at hl
  | _ :: _, [], _, _, hl, _, _, _ => by simp at hl
  | x :: l, y :: l', r, r', hl, h1, h2, h => by
    rw [List.flatMap_cons, List.flatMap_cons, List.append_assoc, List.append_assoc] at h
    obtain ⟨e1, e2⟩ := txt_inj (h1 x List.mem_cons_self) (h2 y List.mem_cons_self) h
    obtain ⟨e3, e4⟩ := set_inj0 (by simpa using hl) (fun z hz => h1 z (List.mem_cons_of_mem _ hz)) (fun z hz => h2 z (List.mem_cons_of_mem _ hz)) e2
    exact ⟨by rw [e1, e3], e4⟩
theorem set_inj {l l' : List (List UInt8)} {r r' : List UInt8} (hl : l.length ≤ 4294967296) (hl' : l'.length ≤ 4294967296) (h1 : ∀ x ∈ l, x.length ≤ 4294967296) (h2 : ∀ x ∈ l', x.length ≤ 4294967296) (h : setP l ++ r = setP l' ++ r') : l = l' ∧ r = r' := by
  unfold setP at h
  rw [List.append_assoc, List.append_assoc] at h
  obtain ⟨e1, e2⟩ := vput_inj hl hl' h
  exact set_inj0 e1 h1 h2 e2
/-- A contact of which fields that are not set are empty. -/
def Cont.neat (c : Cont) : Prop := (c.h0 = false → c.f0 = ⟨#[]⟩) ∧ (c.h1 = false → c.f1 = ⟨#[]⟩)
theorem cont_inj {a b : Cont} {r r' : List UInt8} (ma : a.mod) (mb : b.mod) (na : a.neat) (nb : b.neat) (h : contP a ++ r = contP b ++ r') : a = b ∧ r = r' := by
  obtain ⟨ak, a0, a1, ⟨al0, as0⟩, al1, as1⟩ := ma
  obtain ⟨bk, b0, b1, ⟨bl0, bs0⟩, bl1, bs1⟩ := mb
  unfold contP at h
  simp only [List.append_assoc] at h
  obtain ⟨e1, h⟩ := txt_inj (show a.key.data.toList.length ≤ _ from ak) (show b.key.data.toList.length ≤ _ from bk) h
  obtain ⟨e2, e3, h⟩ := has_inj a0 b0 na.1 nb.1 h
  obtain ⟨e4, e5, h⟩ := has_inj a1 b1 na.2 nb.2 h
  obtain ⟨e6, h⟩ := set_inj al0 bl0 as0 bs0 h
  obtain ⟨e7, h⟩ := set_inj al1 bl1 as1 bs1 h
  refine ⟨?_, h⟩
  obtain ⟨⟨ka⟩, x2, x3, x4, x5, x6, x7⟩ := a
  obtain ⟨⟨kb⟩, y2, y3, y4, y5, y6, y7⟩ := b
  simp only at e1 e2 e3 e4 e5 e6 e7
  rw [e2, e3, e4, e5, e6, e7, Array.toList_inj.1 e1]
theorem contP_ne (c : Cont) : contP c ≠ [] := fun h => by
  have h1 := congrArg List.length h
  have h2 := vputF_pos 9 c.key.data.toList.length
  simp only [contP, txtB, vput, List.length_append, List.length_nil] at h1
  omega
theorem bytes_inj : ∀ {a b : List Cont}, (∀ c ∈ a, c.mod ∧ c.neat) → (∀ c ∈ b, c.mod ∧ c.neat) → bytesC a = bytesC b → a = b
  | [], [], _, _, _ => rfl
  | [], y :: b, _, _, h => by
    exfalso
    rw [bytesC, bytesC, List.flatMap_nil, List.flatMap_cons] at h
    exact contP_ne y (List.append_eq_nil_iff.1 h.symm).1
  | x :: a, [], _, _, h => by
    exfalso
    rw [bytesC, bytesC, List.flatMap_nil, List.flatMap_cons] at h
    exact contP_ne x (List.append_eq_nil_iff.1 h).1
  | x :: a, y :: b, ha, hb, h => by
    rw [bytesC, bytesC, List.flatMap_cons, List.flatMap_cons] at h
    obtain ⟨e1, e2⟩ := cont_inj (ha x List.mem_cons_self).1 (hb y List.mem_cons_self).1 (ha x List.mem_cons_self).2 (hb y List.mem_cons_self).2 h
    rw [e1, bytes_inj (fun c hc => ha c (List.mem_cons_of_mem _ hc)) (fun c hc => hb c (List.mem_cons_of_mem _ hc)) e2]

/-! ### How much -/
def strW (s : List UInt8) : Nat := s.length + 1
def setW (l : List (List UInt8)) : Nat := (l.map strW).sum + 1
def contW (c : Cont) : Nat := (c.key.size + 1) + ((c.f0.size + 1) + ((c.f1.size + 1) + (setW c.s0 + setW c.s1)))
theorem sum_mem {α : Type} {m : α → Nat} : ∀ {l : List α} {x : α}, x ∈ l → m x ≤ (l.map m).sum
  | [], _, h => by cases h
  | y :: l, x, h => by
    rw [List.map_cons, List.sum_cons]
    rcases List.mem_cons.1 h with rfl | h
    · omega
    · have := sum_mem (m := m) h
      omega
theorem sum_len {α : Type} {m : α → Nat} (h1 : ∀ a, 1 ≤ m a) : ∀ l : List α, l.length ≤ (l.map m).sum
  | [] => Nat.le_refl _
  | y :: l => by
    rw [List.map_cons, List.sum_cons, List.length_cons]
    have := sum_len h1 l
    have := h1 y
    omega
theorem sum_le {α : Type} {m m' : α → Nat} (h : ∀ a, m a ≤ m' a) : ∀ l : List α, (l.map m).sum ≤ (l.map m').sum
  | [] => Nat.le_refl _
  | y :: l => by
    rw [List.map_cons, List.sum_cons, List.map_cons, List.sum_cons]
    have := sum_le h l
    have := h y
    omega
theorem sum_take {α : Type} {m : α → Nat} : ∀ (l : List α) (k : Nat), ((l.take k).map m).sum ≤ (l.map m).sum
  | [], k => by simp
  | y :: l, 0 => by simp
  | y :: l, k + 1 => by
    rw [List.take_succ_cons, List.map_cons, List.sum_cons, List.map_cons, List.sum_cons]
    have := sum_take (m := m) l k
    omega
theorem flat_len_le {α : Type} {m : α → Nat} {f : α → List UInt8} {c : Nat} (h : ∀ a, (f a).length ≤ c * m a) : ∀ l : List α, (l.flatMap f).length ≤ c * (l.map m).sum
  | [] => by simp
  | y :: l => by
    rw [List.flatMap_cons, List.length_append, List.map_cons, List.sum_cons, Nat.mul_add]
    have := flat_len_le h l
    have := h y
    omega
theorem txt_len (s : List UInt8) : (txtB s).length ≤ 10 * strW s := by
  have := vputF_le 9 s.length
  unfold txtB strW vput
  rw [List.length_append]
  omega
theorem set_len (l : List (List UInt8)) : (setP l).length ≤ 10 * setW l := by
  have h1 := vputF_le 9 l.length
  have h2 := flat_len_le txt_len l
  unfold setP setW vput
  rw [List.length_append]
  omega
theorem has_len (h : Bool) (f : ByteArray) : (hasP h f).length ≤ 11 * (f.size + 1) := by
  have := txt_len f.data.toList
  have e : strW f.data.toList = f.size + 1 := rfl
  unfold hasP
  split
  · rw [List.length_cons]
    omega
  · show 1 ≤ _
    omega
theorem cont_len (c : Cont) : (contP c).length ≤ 11 * contW c := by
  have h1 := txt_len c.key.data.toList
  have e : strW c.key.data.toList = c.key.size + 1 := rfl
  have h2 := has_len c.h0 c.f0
  have h3 := has_len c.h1 c.f1
  have h4 := set_len c.s0
  have h5 := set_len c.s1
  unfold contP contW
  simp only [List.length_append]
  omega
theorem contW_pos (c : Cont) : 1 ≤ contW c := by unfold contW; omega
theorem set_mem {l : List (List UInt8)} {k : Nat} (h : setW l ≤ k) : l.length ≤ k ∧ ∀ x ∈ l, x.length ≤ k := by
  unfold setW at h
  refine ⟨by have := sum_len (m := strW) (fun _ => by unfold strW; omega) l; omega, fun x hx => ?_⟩
  have := sum_mem (m := strW) hx
  unfold strW at this h
  omega
theorem mod_of {c : Cont} {k : Nat} (hk : k ≤ 4294967296) (h : contW c ≤ k) : c.mod := by
  have h0 := set_mem (l := c.s0) (k := k) (by unfold contW at h; omega)
  have h1 := set_mem (l := c.s1) (k := k) (by unfold contW at h; omega)
  unfold contW at h
  exact ⟨by omega, by omega, by omega, ⟨by omega, fun x hx => by have := h0.2 x hx; omega⟩, by omega, fun x hx => by have := h1.2 x hx; omega⟩
/-- Of contacts of small bulk: what their bytes ask for. -/
theorem bytes_small {l : List Cont} (h : (l.map contW).sum ≤ 100000000) : l.length ≤ 100000000 ∧ (∀ c ∈ l, c.mod) ∧ (bytesC l).length ≤ 140737488355328 := by
  refine ⟨?_, fun c hc => ?_, ?_⟩
  · have := sum_len contW_pos l
    omega
  · have := sum_mem (m := contW) hc
    exact mod_of (k := 100000000) (by omega) (by omega)
  · have := flat_len_le cont_len l
    unfold bytesC
    omega
end Go.Proofs.Ytihjfndkgmjanaa
