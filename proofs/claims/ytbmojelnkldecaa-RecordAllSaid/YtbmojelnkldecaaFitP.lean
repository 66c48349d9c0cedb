/-
  Plain Lean: what Fit makes may be; and sizes of an event's bytes.
-/
import Derived.Test.YtbmojelnkldecaaFitA
namespace Go.Proofs.Ytbmojelnkldecaa

theorem m5_range (x : Int) : 0 ≤ m5 x ∧ m5 x ≤ 4 := by unfold m5; omega
theorem ks3_ok (n : Nat) : keyE (ks3 n) = 0 := by unfold ks3; split; decide; split <;> decide
theorem vs4_ok (n : Nat) : valueE (vs4 n) = 0 := by unfold vs4; split; decide; split; decide; split <;> decide
theorem fitEd_ok (e : Ed) : editE (fitEd e) = 0 := by
  have hm := m5_range e.k
  have ha := andI_1 e.l
  unfold fitEd
  split
  · unfold editE
    simp only [ks3_ok, vs4_ok]
    rw [if_neg (by omega), if_neg (by simp), if_neg (by omega), if_neg (by unfold labelE; simp; omega)]
  · unfold editE
    simp only [ks3_ok]
    rw [if_neg (by omega), if_neg (by simp), if_pos (by omega)]
    rfl
theorem fitE_may (e : Ev) : mayE (fitE e) = 0 := by
  have hm := m5_range e.r
  have a0 := andI_20 e.n
  have a1 := andI_24 e.h
  have b0 := andI_20 e.c.c0
  have b1 := andI_20 e.c.c1
  have b2 := andI_20 e.c.c2
  have b3 := andI_20 e.c.c3
  have b4 := andI_20 e.c.c4
  refine mayE_of ?_
  have hed : (fitE e).ed = fitEd e.ed := rfl
  rcases (show m5 e.r = 0 ∨ m5 e.r = 1 ∨ m5 e.r = 2 ∨ m5 e.r = 3 ∨ m5 e.r = 4 by omega) with h | h | h | h | h <;>
    (refine ⟨?_, ?_, ?_, ?_, ?_, ?_, ?_, ?_, ?_, ?_, ?_, ?_, by rw [hed]; exact fitEd_ok _⟩ <;> simp [fitE, h, Clk.put, Clk.get] <;> omega)

theorem vputF_len : ∀ (f n k : Nat), n < 128 ^ (k + 1) → (vputF f n).length ≤ k + 1
  | 0, n, k, _ => by simp [vputF]
  | f + 1, n, k, h => by
    unfold vputF
    split
    · simp
    · cases k with
      | zero => simp at h; omega
      | succ k =>
        have := vputF_len f (n / 128) k (by rw [Nat.pow_succ] at h; exact Nat.div_lt_of_lt_mul (by rw [Nat.mul_comm]; exact h))
        simp only [List.length_cons]
        omega
theorem vput3 {n : Nat} (h : n ≤ 1048576) : (vput n).length ≤ 3 := vputF_len 9 n 2 (by omega)
theorem vput4 {n : Nat} (h : n ≤ 16777216) : (vput n).length ≤ 4 := vputF_len 9 n 3 (by omega)
theorem vputI3 {n : Int} (h : n ≤ 1048576) : (vputI n).length ≤ 3 := vput3 (by omega)
theorem vputI4 {n : Int} (h : n ≤ 16777216) : (vputI n).length ≤ 4 := vput4 (by omega)
theorem words_len (s : ByteArray) : (words s).length = 1 + s.size := by
  unfold words
  rw [List.length_cons, Array.length_toList]
  show s.size + 1 = _
  omega
/-- An event's bytes are 44 at most. -/
theorem evBytes_len {e : Ev} (h : mayE e = 0) : (evBytes e).length ≤ 44 := by
  have m := mayE_zero h
  obtain ⟨k1, k2, s1, s2, _, hl, hs⟩ := editE_zero m.ed
  have hn := vputI3 (n := e.n) (by have := m.n2; omega)
  have hh := vputI4 (n := e.h) (by have := m.h2; omega)
  have c0 := vputI3 m.a0.2
  have c1 := vputI3 m.a1.2
  have c2 := vputI3 m.a2.2
  have c3 := vputI3 m.a3.2
  have c4 := vputI3 m.a4.2
  have r0 := m.r0
  have r4 := m.r4
  have hv : (if isLong e.k then byteOf e.l :: words e.v else []).length ≤ 14 := by
    split
    · rename_i h
      have := hl h
      simp only [List.length_cons, words_len, Ev.ed] at this ⊢
      omega
    · simp
  have ho : ((others e).flatMap vputI).length ≤ 12 := by
    unfold others
    rcases (show e.r = 0 ∨ e.r = 1 ∨ e.r = 2 ∨ e.r = 3 ∨ e.r = 4 by omega) with h | h | h | h | h <;> simp [h] <;> omega
  unfold evBytes
  simp only [List.length_append, List.length_cons, List.length_nil, words_len]
  have : e.key.size ≤ 8 := s2
  omega
theorem evBytes_two (e : Ev) : ∃ t, evBytes e = byteOf e.k :: byteOf e.r :: t := ⟨_, by
  unfold evBytes
  simp only [List.cons_append, List.nil_append, List.append_assoc]
  rfl⟩
end Go.Proofs.Ytbmojelnkldecaa
