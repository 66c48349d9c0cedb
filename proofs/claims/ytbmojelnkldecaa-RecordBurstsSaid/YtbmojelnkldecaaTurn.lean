/-
  Plain Lean: bits that are turned within 32 in a row.
-/
import Derived.Test.YtbmojelnkldecaaCrcLaw
namespace Go.Proofs.Ytbmojelnkldecaa

def turn1 (l : List UInt8) (q : Nat) : List UInt8 := l.set (q / 8) (l.getD (q / 8) default ^^^ UInt8.ofNat (2 ^ (q % 8)))
def turnN (l : List UInt8) (k m : Nat) : Nat → List UInt8
  | 0 => l
  | i + 1 => if m.testBit i = true then turn1 (turnN l k m i) (k + i) else turnN l k m i

theorem turn1_len (l : List UInt8) (q : Nat) : (turn1 l q).length = l.length := by simp [turn1]
theorem turnN_len (l : List UInt8) (k m : Nat) : ∀ i, (turnN l k m i).length = l.length
  | 0 => rfl
  | i + 1 => by
    unfold turnN
    split
    · rw [turn1_len, turnN_len l k m i]
    · exact turnN_len l k m i

theorem bits8_get (c : UInt8) (i : Nat) (h : i < 8) : (bits8 c)[i]? = some (c.toNat.testBit i) := lowBits_get _ _ _ h
theorem bitsOf_get : ∀ (l : List UInt8) (q : Nat), (bitsOf l)[q]? = (l[q / 8]?).map fun c => c.toNat.testBit (q % 8)
  | [], q => by simp [bitsOf]
  | c :: l, q => by
    show (bits8 c ++ bitsOf l)[q]? = _
    have h8 : (bits8 c).length = 8 := by unfold bits8; rw [lowBits_len]
    by_cases h : q < 8
    · rw [List.getElem?_append_left (by omega), bits8_get c q h, Nat.div_eq_of_lt h, Nat.mod_eq_of_lt h]
      rfl
    · rw [List.getElem?_append_right (by omega), h8, bitsOf_get l (q - 8), show q / 8 = (q - 8) / 8 + 1 by omega, show (q - 8) % 8 = q % 8 by omega]
      rfl
theorem bit_u8 {n : Nat} (h : n < 8) : (UInt8.ofNat (2 ^ n)).toNat = 2 ^ n := by
  rw [UInt8.toNat_ofNat', Nat.mod_eq_of_lt]
  exact Nat.pow_lt_pow_right (by omega) h
theorem turn1_get (l : List UInt8) (q j : Nat) (hq : q < 8 * l.length) : (bitsOf (turn1 l q))[j]? = ((bitsOf l)[j]?).map fun b => xor b (decide (q = j)) := by
  rw [bitsOf_get, bitsOf_get]
  unfold turn1
  rw [List.getElem?_set]
  by_cases h : q / 8 = j / 8
  · rw [if_pos h, if_pos (by omega), h, List.getElem?_eq_getElem (by omega), List.getD, List.getElem?_eq_getElem (by omega)]
    simp only [Option.map_some, Option.some.injEq, Option.getD_some]
    rw [UInt8.toNat_xor, Nat.testBit_xor, bit_u8 (by omega), Nat.testBit_two_pow]
    congr 1
    rw [decide_eq_decide]
    omega
  · rw [if_neg h]
    have : decide (q = j) = false := decide_eq_false (fun e => h (by rw [e]))
    rw [this]
    cases l[j / 8]? <;> simp
theorem turnN_get (l : List UInt8) (k m : Nat) : ∀ i, k + i ≤ 8 * l.length → ∀ j, (bitsOf (turnN l k m i))[j]? = ((bitsOf l)[j]?).map fun b => xor b (decide (k ≤ j ∧ j < k + i) && m.testBit (j - k))
  | 0, _, j => by
    have : decide (k ≤ j ∧ j < k + 0) = false := decide_eq_false (by omega)
    rw [this]
    cases h : (bitsOf l)[j]? <;> simp [turnN, h]
  | i + 1, hi, j => by
    have ih := turnN_get l k m i (by omega) j
    unfold turnN
    split
    · rename_i hb
      rw [turn1_get _ _ _ (by rw [turnN_len]; omega), ih]
      cases (bitsOf l)[j]? with
      | none => rfl
      | some b =>
        simp only [Option.map_some, Option.some.injEq]
        by_cases e : k + i = j
        · have h1 : decide (k ≤ j ∧ j < k + i) = false := decide_eq_false (by omega)
          have h2 : decide (k ≤ j ∧ j < k + (i + 1)) = true := decide_eq_true (by omega)
          rw [h1, h2, decide_eq_true e, show j - k = i by omega, hb]
          simp
        · have h1 : decide (k ≤ j ∧ j < k + i) = decide (k ≤ j ∧ j < k + (i + 1)) := by rw [decide_eq_decide]; omega
          rw [h1, decide_eq_false e]
          simp
    · rename_i hb
      rw [ih]
      cases (bitsOf l)[j]? with
      | none => rfl
      | some b =>
        simp only [Option.map_some, Option.some.injEq]
        by_cases e : k + i = j
        · have h1 : decide (k ≤ j ∧ j < k + i) = false := decide_eq_false (by omega)
          have h2 : m.testBit (j - k) = false := by rw [show j - k = i by omega]; simpa using hb
          rw [h1, h2]
          simp
        · have h1 : decide (k ≤ j ∧ j < k + i) = decide (k ≤ j ∧ j < k + (i + 1)) := by rw [decide_eq_decide]; omega
          rw [h1]

theorem turnN_found {l : List UInt8} {k m i : Nat} (hl : okSeal l) (hk : k + i ≤ 8 * l.length) (hi : i ≤ 32) (ht : okSeal (turnN l k m i)) : turnN l k m i = l := by
  refine burst_found (k := k) (z := 8 * l.length - (k + i)) (ws := (List.range i).map fun j => m.testBit j) hl ht (turnN_len l k m i) (by simpa using hi) ?_
  apply List.ext_getElem?
  intro j
  have hb : (bitsOf l).length = 8 * l.length := bitsOf_len l
  rw [List.getElem?_zipWith, turnN_get l k m i hk j]
  by_cases hj : j < 8 * l.length
  · rw [List.getElem?_eq_getElem (by omega)]
    simp only [Option.map_some]
    have hx (b c : Bool) : xor b (xor b c) = c := by cases b <;> cases c <;> rfl
    rw [hx]
    by_cases h1 : j < k
    · rw [List.append_assoc, List.getElem?_append_left (by simpa using h1), List.getElem?_replicate, if_pos h1]
      have : decide (k ≤ j ∧ j < k + i) = false := decide_eq_false (by omega)
      rw [this]
      rfl
    · by_cases h2 : j < k + i
      · rw [List.append_assoc, List.getElem?_append_right (by simp; omega), List.getElem?_append_left (by simp; omega)]
        have : decide (k ≤ j ∧ j < k + i) = true := decide_eq_true (by omega)
        rw [this]
        simp only [List.length_replicate, List.getElem?_map, Bool.true_and]
        rw [List.getElem?_range (by omega)]
        rfl
      · rw [List.getElem?_append_right (by simp; omega), List.getElem?_replicate, if_pos (by simp; omega)]
        have : decide (k ≤ j ∧ j < k + i) = false := decide_eq_false (by omega)
        rw [this]
        rfl
  · rw [List.getElem?_eq_none (by omega)]
    rw [List.getElem?_eq_none (by simp; omega)]

open Go.RowKit
theorem Spl.bit {m i : Nat} (hm : m < 4294967296) (hi : i < 32) {A B : Prop} (h1 : m.testBit i = true → A) (h2 : ¬ m.testBit i = true → B) : Spl (IntKind.u32.wrap ((BitVec.ofInt IntKind.u32.bits ((m : Int).fdiv (2 ^ min (Int.toNat (i : Int)) IntKind.u32.bits)) &&& BitVec.ofInt IntKind.u32.bits (1 : Int)).toNat : Int) = 1) A B := by
  have e1 : (m : Int).fdiv (2 ^ min (Int.toNat (i : Int)) IntKind.u32.bits) = ((m / 2 ^ i : Nat) : Int) := by
    have : min (Int.toNat (i : Int)) IntKind.u32.bits = i := by show min (Int.toNat (i : Int)) 32 = i; omega
    rw [this, Int.fdiv_eq_ediv_of_nonneg _ (Int.pow_nonneg (by omega))]
    push_cast
    rfl
  have hlt : m / 2 ^ i < 4294967296 := Nat.lt_of_le_of_lt (Nat.div_le_self _ _) hm
  rw [e1, _root_.Go.Proofs.Ytbmojelnkldecaa.and1 hlt]
  have e2 : m.testBit i = decide (m / 2 ^ i % 2 = 1) := by rw [Nat.testBit_eq_decide_div_mod_eq]
  rw [e2, decide_eq_true_eq] at h1 h2
  exact ⟨fun h => h1 (by omega), fun h => h2 (by omega)⟩
theorem Wr.shl {b : Int} {q : Nat} (hb : b = (q : Int)) (h : q < 8) {K : Int → Prop} (k : K ((2 ^ q : Nat) : Int)) : Wr (1 * 2 ^ min (Int.toNat b) IntKind.u8.bits) K .u8 := by
  subst hb
  have hp : 2 ^ q ≤ 2 ^ 7 := Nat.pow_le_pow_right (by omega) (by omega)
  have e : (1 * 2 ^ min (Int.toNat (q : Int)) IntKind.u8.bits : Int) = ((2 ^ q : Nat) : Int) := by
    have : min (Int.toNat (q : Int)) IntKind.u8.bits = q := by show min (Int.toNat (q : Int)) 8 = q; omega
    rw [this, Int.one_mul]
    push_cast
    rfl
  have h0 : (0 : Int) ≤ ((2 ^ q : Nat) : Int) := Int.natCast_nonneg _
  rw [e]
  exact .u8 (by omega) (by omega) k
theorem row_turn (l : List UInt8) (q : Nat) {j : Nat} (hj : j = q / 8) (hq : q / 8 < l.length) {v : Int} (hv : v = ((l.getD (q / 8) default ^^^ UInt8.ofNat (2 ^ (q % 8))).toNat : Int)) (mm : Nat) :
    (bif Nat.beq mm j then [AV.v (.int .u8 v)] else bytesF l mm) = bytesF (turn1 l q) mm := by
  subst hj hv
  unfold turn1
  show _ = bC ((l.set (q / 8) _).getD mm default)
  rw [List.getD_eq_getElem?_getD (l := l.set _ _), List.getElem?_set]
  cases hb : Nat.beq mm (q / 8) with
  | true =>
    obtain rfl := Nat.eq_of_beq_eq_true hb
    rw [if_pos rfl, if_pos hq]
    rfl
  | false =>
    have hne : q / 8 ≠ mm := fun e => by subst e; rw [Nat.beq_refl] at hb; cases hb
    rw [if_neg hne]
    rfl
theorem xor8 (c : UInt8) {q : Nat} (h : q < 8) : IntKind.u8.wrap ((BitVec.ofInt IntKind.u8.bits (c.toNat : Int) ^^^ BitVec.ofInt IntKind.u8.bits ((2 ^ q : Nat) : Int)).toNat : Int) = ((c ^^^ UInt8.ofNat (2 ^ q)).toNat : Int) := by
  have hp : 2 ^ q ≤ 2 ^ 7 := Nat.pow_le_pow_right (by omega) (by omega)
  have hc := UInt8.toNat_lt c
  rw [UInt8.toNat_xor, bit_u8 h]
  exact u8_xor_nat c.toNat (2 ^ q) hc (by omega)
theorem str_ne' {a b : List UInt8} (h : a ≠ b) : ¬ (⟨a.toArray⟩ : ByteArray) = ⟨b.toArray⟩ := fun e => h (by
  have := congrArg (fun s => s.data.toList) e
  simpa using this)
end Go.Proofs.Ytbmojelnkldecaa
