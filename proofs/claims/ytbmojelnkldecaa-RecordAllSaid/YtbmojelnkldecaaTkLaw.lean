/-
  Plain Lean: what was put is taken; what is taken was put; what is cut is too short.
-/
import Derived.Test.YtbmojelnkldecaaTkPlain
import Derived.Test.YtbmojelnkldecaaEvM
namespace Go.Proofs.Ytbmojelnkldecaa

theorem u8_of {n : Nat} (h : n < 256) : (UInt8.ofNat n).toNat = n := by
  rw [UInt8.toNat_ofNat', Nat.mod_eq_of_lt (by omega)]
theorem u8_eq {a b : UInt8} (h : a.toNat = b.toNat) : a = b := UInt8.toNat_inj.1 h

/-! ### Numbers -/
theorem vtakeF_put (t : List UInt8) : ∀ (f i n acc : Nat), i + f = 9 → n * 128 ^ i ≤ 4294967296 → (0 < i → n ≠ 0) → n < 128 ^ (f + 1) →
    vtakeF ((vputF f n ++ t).take (10 - i)) i acc = (acc + n * 128 ^ i, i + (vputF f n).length, 0)
  | 0, i, n, acc, hi, hn, h0, _ => by
    have : i = 9 := by omega
    subst this
    exfalso
    have : n = 0 ∨ 1 ≤ n := by omega
    rcases this with h | h
    · exact h0 (by omega) h
    · have h2 : 128 ^ 9 = 9223372036854775808 := by decide
      rw [h2] at hn
      omega
  | f + 1, i, n, acc, hi, hn, h0, hlt => by
    have h10 : 10 - i = (10 - (i + 1)) + 1 := by omega
    by_cases h : n < 128
    · simp only [vputF, if_pos h, List.cons_append, List.nil_append, h10, List.take_succ_cons, vtakeF, u8_of (show n < 256 by omega)]
      rw [if_neg (by omega), if_neg]
      · simp
      · rintro (⟨h1, h2⟩ | ⟨h1, h2⟩)
        · exact h0 h1 h2
        · omega
    · have hq : n % 128 + 128 < 256 := by omega
      have e : n / 128 * 128 ^ (i + 1) + n % 128 * 128 ^ i = n * 128 ^ i := by
        rw [Nat.pow_succ, Nat.mul_comm (128 ^ i) 128, ← Nat.mul_assoc, ← Nat.add_mul]
        congr 1
        omega
      have ih := vtakeF_put t f (i + 1) (n / 128) (acc + (n % 128) * 128 ^ i) (by omega) (by omega) (fun _ => by omega) (by
        rw [Nat.pow_succ] at hlt
        exact Nat.div_lt_of_lt_mul (by omega))
      simp only [vputF, if_neg h, List.cons_append, h10, List.take_succ_cons, vtakeF, u8_of hq]
      rw [if_pos (by omega), show n % 128 + 128 - 128 = n % 128 by omega, ih]
      simp only [List.length_cons, Prod.mk.injEq, and_true]
      exact ⟨by omega, by omega⟩

theorem vtake_put (n : Nat) (t : List UInt8) (h : n ≤ 4294967296) : vtake (vput n ++ t) = (n, (vput n).length, 0) := by
  have := vtakeF_put t 9 0 n 0 rfl (by simpa using h) (fun h => absurd h (by omega)) (by
    have : 128 ^ (9 + 1) = 1180591620717411303424 := by decide
    omega)
  simpa [vtake, vput] using this

theorem vtakeF_ok : ∀ (l : List UInt8) (i acc m k : Nat), i + l.length ≤ 10 → vtakeF l i acc = (m, k, 0) → ∃ n, m = acc + n * 128 ^ i ∧ k = i + (vputF (9 - i) n).length ∧ k ≤ i + l.length ∧ l.take (k - i) = vputF (9 - i) n ∧ (0 < i → n ≠ 0)
  | [], i, acc, m, k, hl, h => by
    simp only [vtakeF] at h
    split at h <;> cases h
  | c :: r, i, acc, m, k, hl, h => by
    simp only [vtakeF] at h
    simp only [List.length_cons] at hl
    have hc := UInt8.toNat_lt c
    by_cases h1 : 128 ≤ c.toNat
    · rw [if_pos h1] at h
      obtain ⟨n, e1, e2, e3, e4, e5⟩ := vtakeF_ok r (i + 1) _ m k (by omega) h
      have hn := e5 (by omega)
      have h9 : 9 - i = (9 - (i + 1)) + 1 := by
        have : 1 ≤ r.length := by
          cases r with
          | nil =>
            simp only [vtakeF] at h
            split at h <;> cases h
          | cons => simp
        omega
      refine ⟨n * 128 + (c.toNat - 128), ?_, ?_, by simp only [List.length_cons]; omega, ?_, fun _ => by omega⟩
      · rw [e1, Nat.pow_succ, Nat.add_mul]
        have : n * (128 ^ i * 128) = n * 128 * 128 ^ i := by rw [Nat.mul_comm (128 ^ i) 128, Nat.mul_assoc]
        omega
      · rw [h9, vputF, if_neg (by omega), List.length_cons, show (n * 128 + (c.toNat - 128)) / 128 = n by omega]
        omega
      · have hk : k - i = (k - (i + 1)) + 1 := by
          have := vputF_pos (9 - (i + 1)) n
          omega
        rw [hk, List.take_succ_cons, e4, h9, vputF, if_neg (by omega), show (n * 128 + (c.toNat - 128)) / 128 = n by omega]
        have hcc : UInt8.ofNat ((n * 128 + (c.toNat - 128)) % 128 + 128) = c := u8_eq (by rw [u8_of (by omega)]; omega)
        rw [hcc]
    · rw [if_neg h1] at h
      split at h
      · cases h
      · rename_i h2
        simp only [Prod.mk.injEq, and_true] at h
        obtain ⟨h3, h4⟩ := h
        refine ⟨c.toNat, h3.symm, ?_, by simp only [List.length_cons]; omega, ?_, fun hi e => h2 (.inl ⟨hi, e⟩)⟩
        all_goals subst h4
        · cases h9 : 9 - i with
          | zero => simp [vputF]
          | succ f => simp [vputF, show c.toNat < 128 by omega]
        · rw [show i + 1 - i = 0 + 1 by omega, List.take_succ_cons, List.take_zero]
          have : UInt8.ofNat c.toNat = c := by simp
          cases h9 : 9 - i with
          | zero => simp [vputF, this]
          | succ f => simp [vputF, show c.toNat < 128 by omega, this]

theorem vtake_ok {l : List UInt8} {m k : Nat} (h : vtake l = (m, k, 0)) : k = (vput m).length ∧ k ≤ l.length ∧ l.take k = vput m := by
  obtain ⟨n, e1, e2, e3, e4, _⟩ := vtakeF_ok (l.take 10) 0 0 m k (by rw [List.length_take]; omega) h
  simp only [Nat.pow_zero, Nat.mul_one, Nat.zero_add, Nat.sub_zero] at e1 e2 e3 e4
  subst e1
  rw [List.length_take] at e3
  refine ⟨e2, by omega, ?_⟩
  rw [List.take_take, Nat.min_eq_left (by omega)] at e4
  exact e4

theorem vtakeF_err : ∀ (l : List UInt8) (i acc : Nat), (vtakeF l i acc).2.2 = 0 ∨ (vtakeF l i acc).2.2 = 2 ∨ (vtakeF l i acc).2.2 = 3
  | [], i, acc => by simp only [vtakeF]; split <;> simp
  | c :: r, i, acc => by
    simp only [vtakeF]
    split
    · exact vtakeF_err r _ _
    · split <;> simp

/-- A number that is cut is too short. -/
theorem vtakeF_cut : ∀ (f i n acc j : Nat), i + f ≤ 9 → j < (vputF f n).length → vtakeF ((vputF f n).take j) i acc = (0, 0, 2)
  | f, i, n, acc, 0, hi, _ => by simp [vtakeF]; omega
  | 0, i, n, acc, j + 1, hi, hj => by simp [vputF] at hj
  | f + 1, i, n, acc, j + 1, hi, hj => by
    by_cases h : n < 128
    · simp [vputF, h] at hj
    · have hq : n % 128 + 128 < 256 := by omega
      simp only [vputF, if_neg h, List.length_cons] at hj
      simp only [vputF, if_neg h, List.take_succ_cons, vtakeF, u8_of hq]
      rw [if_pos (by omega)]
      exact vtakeF_cut f (i + 1) (n / 128) _ j (by omega) (by omega)
theorem vtake_cut {n j : Nat} (hj : j < (vput n).length) : vtake ((vput n).take j) = (0, 0, 2) := by
  have := vputF_le 9 n
  unfold vtake
  rw [List.take_take, Nat.min_eq_right (by unfold vput at hj; omega)]
  exact vtakeF_cut 9 0 n 0 j (by omega) hj
end Go.Proofs.Ytbmojelnkldecaa
