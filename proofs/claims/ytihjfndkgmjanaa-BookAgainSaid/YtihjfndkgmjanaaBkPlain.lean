/-
  Plain Lean: what a past comes to.
-/
import Derived.Test.YtihjfndkgmjanaaPlain
namespace Go.Proofs.Ytihjfndkgmjanaa

def sameK (a b : Ev) : Bool := decide (a.key = b.key)
def sameL (a b : Ev) : Bool := sameK a b && decide (a.l = b.l)
def sameV (a b : Ev) : Bool := sameL a b && decide (a.v = b.v)
def aboveB (k : Int) (same : Ev → Ev → Bool) (l : List Ev) (e : Ev) : Bool := l.any fun a => decide (a.k = k) && (same a e && belowB e a)
def underB (k : Int) (same : Ev → Ev → Bool) (l : List Ev) (e : Ev) : Bool := l.any fun a => decide (a.k = k) && (same a e && belowB a e)
def livesB (l : List Ev) (e : Ev) : Bool := decide (e.k = 1) && !aboveB 2 sameK l e
def livingB (l : List Ev) : List Ev := l.filter (livesB l)
def countB (l cr : List Ev) (e : Ev) : Bool := (decide (e.k = 3) || (decide (e.k = 4) && !aboveB 5 sameV l e)) && underB 1 sameK cr e
def countingB (l cr : List Ev) : List Ev := l.filter (countB l cr)

/-- A contact. -/
structure Ct where
  (key : ByteArray) (h0 h1 : Bool) (f0 f1 : ByteArray) (s0 s1 : List ByteArray)
end Go.Proofs.Ytihjfndkgmjanaa
