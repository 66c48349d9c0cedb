/-
  Plain Lean: the sum finds each burst of 32 bits.
-/
import Derived.Test.YtbmojelnkldecaaCrc
namespace Go.Proofs.Ytbmojelnkldecaa

theorem xor_half (a b : Nat) : (a ^^^ b) / 2 = a / 2 ^^^ b / 2 := by
  apply Nat.eq_of_testBit_eq
  intro i
  simp [Nat.testBit_div_two, Nat.testBit_xor]
theorem xor_odd (a b : Nat) : (a ^^^ b) % 2 = (a % 2 + b % 2) % 2 := by
  have h : (a ^^^ b).testBit 0 = ((a.testBit 0) ^^ (b.testBit 0)) := Nat.testBit_xor a b 0
  simp only [Nat.testBit_zero] at h
  rcases Nat.mod_two_eq_zero_or_one a with ha | ha <;> rcases Nat.mod_two_eq_zero_or_one b with hb | hb <;> rcases Nat.mod_two_eq_zero_or_one (a ^^^ b) with hc | hc <;> simp_all

theorem stepBit_xor (a b : Nat) : stepBit (a ^^^ b) = stepBit a ^^^ stepBit b := by
  unfold stepBit
  rw [xor_half, xor_odd]
  rcases Nat.mod_two_eq_zero_or_one a with ha | ha <;> rcases Nat.mod_two_eq_zero_or_one b with hb | hb <;> simp only [ha, hb]
  · simp
  · simp [Nat.xor_assoc]
  · simp only [if_true, if_false, Nat.zero_ne_one]
    rw [Nat.xor_assoc, Nat.xor_assoc, Nat.xor_comm (b / 2)]
  · simp only [Nat.reduceAdd, Nat.reduceMod, if_true, if_false, Nat.zero_ne_one]
    rw [Nat.xor_assoc, Nat.xor_comm (b / 2), ← Nat.xor_assoc 3988292384, Nat.xor_self, Nat.zero_xor]
theorem stepBit_even (b : Nat) : stepBit (2 * b) = b := by
  unfold stepBit
  rw [if_neg (by omega)]
  omega
theorem stepBit_zero {x : Nat} (hx : x < 4294967296) (h : stepBit x = 0) : x = 0 := by
  unfold stepBit at h
  split at h
  · have e : x / 2 = 3988292384 := by
      have := congrArg (fun n => n ^^^ 3988292384) h
      simpa [Nat.xor_assoc] using this
    omega
  · omega

def rb (r : Nat) (b : Bool) : Nat := stepBit (r ^^^ b.toNat)
def regBits (r : Nat) (bs : List Bool) : Nat := bs.foldl rb r
def lowBits (c : Nat) : Nat → List Bool
  | 0 => []
  | n + 1 => lowBits c n ++ [c.testBit n]
theorem regBits_app (r : Nat) (a b : List Bool) : regBits r (a ++ b) = regBits (regBits r a) b := List.foldl_append ..
theorem split_bit (c n : Nat) : c >>> n = (c.testBit n).toNat ^^^ (2 * (c >>> (n + 1))) := by
  apply Nat.eq_of_testBit_eq
  intro i
  rw [Nat.testBit_xor]
  cases i with
  | zero =>
    simp
    cases c.testBit n <;> decide
  | succ i =>
    rw [Nat.testBit_shiftRight, show 2 * (c >>> (n + 1)) = 2 ^ 1 * (c >>> (n + 1)) by omega, Nat.testBit_two_pow_mul]
    cases c.testBit n <;> simp [Nat.testBit_shiftRight, Nat.testBit_succ] <;> congr 1 <;> omega
theorem stepK_bits (r c : Nat) : ∀ n, stepK (r ^^^ c) n = regBits r (lowBits c n) ^^^ (c >>> n)
  | 0 => by simp [stepK, lowBits, regBits]
  | n + 1 => by
    show stepBit (stepK (r ^^^ c) n) = _
    rw [stepK_bits r c n, split_bit c n, ← Nat.xor_assoc, stepBit_xor, stepBit_even]
    rw [lowBits, regBits_app]
    rfl
theorem regBits_xor : ∀ (bs cs : List Bool) (r s : Nat), bs.length = cs.length → regBits r bs ^^^ regBits s cs = regBits (r ^^^ s) (List.zipWith xor bs cs)
  | [], [], r, s, _ => rfl
  | b :: bs, c :: cs, r, s, h => by
    show regBits (rb r b) bs ^^^ regBits (rb s c) cs = regBits (rb (r ^^^ s) (xor b c)) (List.zipWith xor bs cs)
    rw [regBits_xor bs cs _ _ (by simpa using h)]
    congr 1
    unfold rb
    rw [← stepBit_xor]
    congr 1
    have e : (xor b c).toNat = b.toNat ^^^ c.toNat := by cases b <;> cases c <;> rfl
    rw [e, Nat.xor_assoc, Nat.xor_assoc, ← Nat.xor_assoc b.toNat, Nat.xor_comm b.toNat s, Nat.xor_assoc s]
  | [], _ :: _, _, _, h => by simp at h
  | _ :: _, [], _, _, h => by simp at h
theorem regBits_zero : ∀ n, regBits 0 (List.replicate n false) = 0
  | 0 => rfl
  | n + 1 => by
    rw [List.replicate_succ]
    show regBits (rb 0 false) _ = 0
    exact regBits_zero n
theorem regBits_lt {r : Nat} (h : r < 4294967296) : ∀ bs, regBits r bs < 4294967296
  | [] => h
  | b :: bs => regBits_lt (r := rb r b) (stepBit_lt (Nat.xor_lt_two_pow (n := 32) (by omega) (by cases b <;> decide))) bs
theorem regBits_nz : ∀ (n r : Nat), r < 4294967296 → r ≠ 0 → regBits r (List.replicate n false) ≠ 0
  | 0, _, _, h => h
  | n + 1, r, hr, h => by
    rw [List.replicate_succ]
    show regBits (rb r false) _ ≠ 0
    have e : rb r false = stepBit r := by simp [rb]
    rw [e]
    exact regBits_nz n _ (stepBit_lt hr) fun h0 => h (stepBit_zero hr h0)
theorem stepK_nz {r : Nat} (hr : r < 4294967296) (h : r ≠ 0) : ∀ n, stepK r n ≠ 0
  | 0 => h
  | n + 1 => fun h0 => stepK_nz hr h n (stepBit_zero (stepK_lt hr n) h0)

/-- The number that bits make. -/
def numBits : List Bool → Nat
  | [] => 0
  | b :: bs => b.toNat + 2 * numBits bs
theorem numBits_lt : ∀ bs, numBits bs < 2 ^ bs.length
  | [] => by simp [numBits]
  | b :: bs => by
    have := numBits_lt bs
    have hb : b.toNat ≤ 1 := by cases b <;> decide
    simp only [numBits, List.length_cons, Nat.pow_succ]
    omega
theorem numBits_zero : ∀ {bs : List Bool}, numBits bs = 0 → bs = List.replicate bs.length false
  | [], _ => rfl
  | b :: bs, h => by
    simp only [numBits] at h
    have hb : b = false := by cases b with | false => rfl | true => simp at h
    have := numBits_zero (bs := bs) (by omega)
    rw [hb, List.length_cons, List.replicate_succ, ← this]
theorem numBits_test : ∀ (bs : List Bool) (i : Nat), (numBits bs).testBit i = bs.getD i false
  | [], i => by simp [numBits]
  | b :: bs, 0 => by cases b <;> simp [numBits, Nat.testBit_zero] <;> omega
  | b :: bs, i + 1 => by
    rw [Nat.testBit_succ]
    have : numBits (b :: bs) / 2 = numBits bs := by cases b <;> simp [numBits] <;> omega
    rw [this, numBits_test bs i]
    rfl
theorem lowBits_len (c : Nat) : ∀ n, (lowBits c n).length = n
  | 0 => rfl
  | n + 1 => by simp [lowBits, lowBits_len c n]
theorem lowBits_get (c : Nat) : ∀ (n i : Nat), i < n → (lowBits c n)[i]? = some (c.testBit i)
  | 0, _, h => absurd h (Nat.not_lt_zero _)
  | n + 1, i, h => by
    rw [lowBits]
    by_cases hi : i < n
    · rw [List.getElem?_append_left (by rw [lowBits_len]; exact hi), lowBits_get c n i hi]
    · have : i = n := by omega
      subst this
      rw [List.getElem?_append_right (by rw [lowBits_len]; omega), lowBits_len]
      simp
theorem lowBits_num (bs : List Bool) : lowBits (numBits bs) bs.length = bs := by
  apply List.ext_getElem?
  intro i
  by_cases hi : i < bs.length
  · rw [lowBits_get _ _ _ hi, numBits_test, List.getD, List.getElem?_eq_getElem hi]
    rfl
  · rw [List.getElem?_eq_none (by rw [lowBits_len]; omega), List.getElem?_eq_none (by omega)]
/-- A burst leaves something in the register. -/
theorem burst_nz (ws : List Bool) (h32 : ws.length ≤ 32) (h : ws ≠ List.replicate ws.length false) : regBits 0 ws ≠ 0 := by
  have hs := stepK_bits 0 (numBits ws) ws.length
  rw [lowBits_num, Nat.zero_xor, Nat.shiftRight_eq_div_pow, Nat.div_eq_of_lt (numBits_lt ws), Nat.xor_zero] at hs
  rw [← hs]
  have : 2 ^ ws.length ≤ 2 ^ 32 := Nat.pow_le_pow_right (by omega) h32
  exact stepK_nz (Nat.lt_of_lt_of_le (numBits_lt ws) this) (fun h0 => h (numBits_zero h0)) _

def bits8 (c : UInt8) : List Bool := lowBits c.toNat 8
def bitsOf (l : List UInt8) : List Bool := l.flatMap bits8
theorem crcStep_bits (r : Nat) (c : UInt8) : crcStep r c = regBits r (bits8 c) := by
  have h := stepK_bits r c.toNat 8
  have := UInt8.toNat_lt c
  rw [Nat.shiftRight_eq_div_pow, Nat.div_eq_of_lt this, Nat.xor_zero] at h
  exact h
theorem foldl_bits : ∀ (l : List UInt8) (r : Nat), l.foldl crcStep r = regBits r (bitsOf l)
  | [], _ => rfl
  | c :: l, r => by
    rw [List.foldl_cons, foldl_bits l, crcStep_bits]
    show _ = regBits r (bits8 c ++ bitsOf l)
    rw [regBits_app]
theorem bitsOf_len (l : List UInt8) : (bitsOf l).length = 8 * l.length := by
  induction l with
  | nil => rfl
  | cons c l ih =>
    show (bits8 c ++ bitsOf l).length = _
    rw [List.length_append, ih, bits8, lowBits_len, List.length_cons]
    omega

/-! What is sealed leaves the same in the register -/
theorem lowBits_add (c n : Nat) : ∀ m, lowBits c (n + m) = lowBits c n ++ lowBits (c >>> n) m
  | 0 => by simp [lowBits]
  | m + 1 => by
    show lowBits c (n + m) ++ [c.testBit (n + m)] = lowBits c n ++ (lowBits (c >>> n) m ++ [(c >>> n).testBit m])
    rw [lowBits_add c n m, List.append_assoc, Nat.testBit_shiftRight]
theorem lowBits_mod (c : Nat) : lowBits (c % 256) 8 = lowBits c 8 := by
  simp only [lowBits, show (256 : Nat) = 2 ^ 8 from rfl, Nat.testBit_mod_two_pow]
  simp
theorem bits8_of (c : Nat) : bits8 (UInt8.ofNat c) = lowBits c 8 := by
  unfold bits8
  rw [UInt8.toNat_ofNat']
  exact lowBits_mod c
theorem tail_bits (l : List UInt8) : bitsOf (crcTail l) = lowBits (crcSum l) 32 := by
  unfold crcTail bitsOf
  simp only [List.flatMap_cons, List.flatMap_nil, List.append_nil, bits8_of]
  rw [show (32 : Nat) = 8 + (8 + (8 + 8)) from rfl, lowBits_add, lowBits_add, lowBits_add]
  simp only [Nat.shiftRight_eq_div_pow, Nat.div_div_eq_div_mul, Nat.reducePow, Nat.reduceMul]
theorem reg_tail (r c n : Nat) (hc : c < 2 ^ n) : regBits r (lowBits c n) = stepK (r ^^^ c) n := by
  have h := stepK_bits r c n
  rw [Nat.shiftRight_eq_div_pow, Nat.div_eq_of_lt hc, Nat.xor_zero] at h
  exact h.symm
theorem sum_xor (m : List UInt8) : crcReg m ^^^ crcSum m = 4294967295 := by
  unfold crcSum
  rw [Nat.xor_comm, Nat.xor_assoc, Nat.xor_self, Nat.xor_zero]
theorem seal_regN (m : List UInt8) (n : Nat) (hn : bitsOf (crcTail m) = lowBits (crcSum m) n) (hc : crcSum m < 2 ^ n) : crcReg (sealB m) = stepK 4294967295 n := by
  unfold crcReg sealB
  rw [List.foldl_append, foldl_bits (crcTail m), hn]
  show regBits (crcReg m) _ = _
  rw [reg_tail _ _ _ hc, sum_xor]
theorem seal_reg (m : List UInt8) : crcReg (sealB m) = stepK 4294967295 32 := seal_regN m 32 (tail_bits m) (crcSum_lt m)
theorem ok_reg {l : List UInt8} (h : okSeal l) : crcReg l = stepK 4294967295 32 := by
  rw [h.2]
  exact seal_reg _

theorem bits8_inj {a b : UInt8} (h : bits8 a = bits8 b) : a = b := by
  apply UInt8.toNat_inj.1
  apply Nat.eq_of_testBit_eq
  intro i
  by_cases hi : i < 8
  · have h1 := lowBits_get a.toNat 8 i hi
    have h2 := lowBits_get b.toNat 8 i hi
    have h' : lowBits a.toNat 8 = lowBits b.toNat 8 := h
    rw [h', h2] at h1
    exact (Option.some.inj h1).symm
  · have ha := UInt8.toNat_lt a
    have hb := UInt8.toNat_lt b
    have h8 : 2 ^ 8 ≤ 2 ^ i := Nat.pow_le_pow_right (by omega) (by omega)
    rw [Nat.testBit_lt_two_pow (by omega), Nat.testBit_lt_two_pow (by omega)]
theorem bitsOf_inj : ∀ {l t : List UInt8}, l.length = t.length → bitsOf l = bitsOf t → l = t
  | [], [], _, _ => rfl
  | a :: l, b :: t, hl, h => by
    have h' : bits8 a ++ bitsOf l = bits8 b ++ bitsOf t := h
    obtain ⟨h1, h2⟩ := List.append_inj h' (by rw [bits8, bits8, lowBits_len, lowBits_len])
    rw [bits8_inj h1, bitsOf_inj (by simpa using hl) h2]
  | [], _ :: _, h, _ => by simp at h
  | _ :: _, [], h, _ => by simp at h

/-- A burst is found: what is turned within 32 bits in a row is not sealed. -/
theorem burst_found {l t : List UInt8} {k z : Nat} {ws : List Bool} (hl : okSeal l) (ht : okSeal t) (hlen : t.length = l.length) (h32 : ws.length ≤ 32)
    (hx : List.zipWith xor (bitsOf l) (bitsOf t) = List.replicate k false ++ ws ++ List.replicate z false) : t = l := by
  have h1 := ok_reg hl
  have h2 := ok_reg ht
  unfold crcReg at h1 h2
  rw [foldl_bits] at h1 h2
  have hb : (bitsOf l).length = (bitsOf t).length := by rw [bitsOf_len, bitsOf_len, hlen]
  have h3 := regBits_xor (bitsOf l) (bitsOf t) 4294967295 4294967295 hb
  rw [h1, h2, Nat.xor_self, Nat.xor_self, hx, regBits_app, regBits_app, regBits_zero] at h3
  have h4 : ws = List.replicate ws.length false := Classical.byContradiction fun hn => by
    have hn0 := burst_nz ws h32 hn
    exact regBits_nz z _ (regBits_lt (by omega) _) hn0 h3.symm
  apply bitsOf_inj hlen
  rw [h4, List.append_assoc, List.replicate_append_replicate, List.replicate_append_replicate] at hx
  apply List.ext_getElem hb.symm
  intro i hi1 hi2
  have h5 := congrArg (fun x => x[i]?) hx
  have hi3 : i < (List.zipWith xor (bitsOf l) (bitsOf t)).length := by rw [List.length_zipWith]; omega
  have hi4 := hi3
  rw [hx, List.length_replicate] at hi4
  simp only [List.getElem?_eq_getElem hi3, List.getElem_zipWith, List.getElem?_replicate, if_pos hi4, Option.some.injEq] at h5
  revert h5
  cases (bitsOf l)[i] <;> cases (bitsOf t)[i] <;> simp
end Go.Proofs.Ytbmojelnkldecaa
