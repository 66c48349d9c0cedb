/-
  Plain Lean, no program in sight: what an event is, which events may be, and which bytes they are.
-/
namespace Go.Proofs.Ytihjfndkgmjanaa

structure Clk where
  (c0 c1 c2 c3 c4 : Int)

def Clk.get (c : Clk) (r : Int) : Int := if r = 0 then c.c0 else if r = 1 then c.c1 else if r = 2 then c.c2 else if r = 3 then c.c3 else c.c4

structure Ev where
  (r n : Int) (c : Clk) (h k : Int) (key : ByteArray) (l : Int) (v : ByteArray)

structure Ed where
  (k : Int) (key : ByteArray) (l : Int) (v : ByteArray)

def Ev.ed (e : Ev) : Ed := ⟨e.k, e.key, e.l, e.v⟩

def withinB (n a b : Int) : Bool := decide (a ≤ n) && decide (n ≤ b)
def isLong (k : Int) : Bool := k != 1 && k != 2
def hasB (c : Clk) (r n : Int) : Bool := decide (0 ≤ r ∧ r < 5 ∧ 1 ≤ n ∧ n ≤ c.get r)
def belowB (a b : Ev) : Bool := hasB b.c a.r a.n

def lettersB (s : ByteArray) : Bool := s.data.toList.all fun b => decide (97 ≤ b.toNat ∧ b.toNat ≤ 122)
def keyE (s : ByteArray) : Int := if 1 ≤ s.size ∧ s.size ≤ 8 ∧ lettersB s = true then 0 else 10
def labelE (n : Int) : Int := if 0 ≤ n ∧ n < 2 then 0 else 11
def valueE (s : ByteArray) : Int := if 1 ≤ s.size ∧ s.size ≤ 12 then 0 else 12

def editE (e : Ed) : Int :=
  if e.k < 1 ∨ 5 < e.k then 1
  else if keyE e.key ≠ 0 then keyE e.key
  else if e.k = 1 ∨ e.k = 2 then (if e.l ≠ 0 then 11 else if e.v.size ≠ 0 then 12 else 0)
  else if labelE e.l ≠ 0 then labelE e.l
  else valueE e.v

def okN (n : Int) : Bool := withinB n 0 1048576

def mayE (e : Ev) : Int :=
  if !(withinB e.r 0 4 && withinB e.n 1 1048576 && withinB e.h 1 16777216) then 1
  else if !(okN e.c.c0 && okN e.c.c1 && okN e.c.c2 && okN e.c.c3 && okN e.c.c4) then 1
  else if e.c.get e.r != e.n - 1 then 1
  else editE e.ed

/-- A number as bytes: seven bits a byte, the lowest first. -/
def vputF : Nat → Nat → List UInt8
  | 0, n => [UInt8.ofNat n]
  | f + 1, n => if n < 128 then [UInt8.ofNat n] else UInt8.ofNat (n % 128 + 128) :: vputF f (n / 128)
def vput (n : Nat) : List UInt8 := vputF 9 n

def vputI (n : Int) : List UInt8 := vput n.toNat

def others (e : Ev) : List Int :=
  (if e.r ≠ 0 then [e.c.c0] else []) ++ (if e.r ≠ 1 then [e.c.c1] else []) ++ (if e.r ≠ 2 then [e.c.c2] else []) ++ (if e.r ≠ 3 then [e.c.c3] else []) ++ (if e.r ≠ 4 then [e.c.c4] else [])

def byteOf (n : Int) : UInt8 := UInt8.ofNat n.toNat

def words (s : ByteArray) : List UInt8 := UInt8.ofNat s.size :: s.data.toList

def evBytes (e : Ev) : List UInt8 :=
  [byteOf e.k, byteOf e.r] ++ vputI e.n ++ (others e).flatMap vputI ++ vputI e.h ++ words e.key ++ (if isLong e.k then byteOf e.l :: words e.v else [])

def evOut (e : Ev) : List UInt8 := if mayE e = 0 then evBytes e else []

theorem vputF_pos (f n : Nat) : 1 ≤ (vputF f n).length := by
  cases f with
  | zero => simp [vputF]
  | succ f => unfold vputF; split <;> simp

theorem vputF_le (f n : Nat) : (vputF f n).length ≤ f + 1 := by
  induction f generalizing n with
  | zero => simp [vputF]
  | succ f ih => unfold vputF; split <;> simp; exact ih _

theorem vput_round {acc t : List UInt8} {f m : Nat} (h : acc ++ vputF f m = t) (hm : m < 128 ^ (f + 1)) (h128 : 128 ≤ m) :
    ∃ f', (acc ++ [UInt8.ofNat (m % 128 + 128)]) ++ vputF f' (m / 128) = t ∧ m / 128 < 128 ^ (f' + 1) := by
  cases f with
  | zero => simp at hm; omega
  | succ f =>
    refine ⟨f, ?_, ?_⟩
    · rw [← h]
      simp [vputF, Nat.not_lt.2 h128]
    · rw [Nat.pow_succ] at hm
      exact Nat.div_lt_of_lt_mul (by omega)

theorem vput_last {acc t : List UInt8} {f m : Nat} (h : acc ++ vputF f m = t) (hm : m < 128) : acc ++ [UInt8.ofNat m] = t := by
  rw [← h]
  cases f with
  | zero => rfl
  | succ f => simp [vputF, hm]

theorem vput_start (n : Nat) (h : n ≤ 4294967296) : ([] : List UInt8) ++ vputF 9 n = vput n ∧ n < 128 ^ (9 + 1) := ⟨rfl, by
  have : 128 ^ (9 + 1) = 1180591620717411303424 := by decide
  omega⟩

end Go.Proofs.Ytihjfndkgmjanaa
