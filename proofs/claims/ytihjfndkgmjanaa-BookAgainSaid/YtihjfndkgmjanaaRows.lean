/-
  No cell of these rows narrows 'for every input' (looked for: loops, veiled, ifaces, maps, wideKeys, modest, calm, conditions, laid).
  DERIVED. THE GIVEN ROWS OF THIS SEAT. 8 by the template 'for every input the law returns true; each argument reads behind the call as it read before'; 0 by the template 'total and deterministic' (their statements: YtihjfndkgmjanaaTotals.lean).
  GIVEN WITH THE SEED: the statements are not yours to turn. If you find one false, say at which input.
  Laid BY PROGRAM, IN A SANDBOX (cutbox-rows.mjs): the forced cells as the released guide's own fill.sh prints them over the translation 3722915e14d6bc9f… (all of the seat's roots in one cut). By AI agents, Wed Nov 11 2026. No macro, syntax, notation, axiom, sorry.
-/
import Derived.Test.YtihjfndkgmjanaaChecked
import GoSem.Claim
import GoSem.ClaimJoined
import GoSem.ClaimMapViews
import Derived.JoinedTies
import Derived.KernelRfl
namespace Go.Proofs.Ytihjfndkgmjanaa
/- THE CELL 'sum', in the pinned program and in every row, IS THE sha256 OF THE DUMP (.gsa) THAT YtihjfndkgmjanaaProg.lean LOADS. Nothing in Lean hashes anything: it is a label: what it is worth is what the hold of that sum in a sandbox is worth. -/
noncomputable def Try.pinned : Pinned := { name := "ytihjfndkgmjanaa", sum := "3722915e14d6bc9f12c7d18b8d98297ddcab3cb1fcbedf98cbd5252f25022612", checked := Try.checked }
namespace Rows
def none {H : Type} : Left H := { results := [], args := [] }

/-- 'kithlaw09.BookBytes': WHATEVER THE INPUT: true; the input reads as it did. -/
def bookBytesSpec : ChangeSpec := { name := "bookBytes", fn := fun _ => fun
  | [d1, d2] => { results := [.lit (.bool true)], args := [d1, d2] }
  | _ => none }
def bookBytesRow : OpenClaim := { program := "ytihjfndkgmjanaa", sum := "3722915e14d6bc9f12c7d18b8d98297ddcab3cb1fcbedf98cbd5252f25022612", func := "kith/kithlaw09.BookBytes", spec := "bookBytes", unfollowed := true, recurses := true, apart := false }
def BookBytesSaid : Prop := bookBytesRow.holds Try.pinned (OpenSpec.ofChange bookBytesSpec)

/-- ITS FALSE NEIGHBOUR: 'it returns false'. Refute it at one input. -/
def bookBytesWrong : ChangeSpec := { name := "bookBytes", fn := fun _ => fun
  | [d1, d2] => { results := [.lit (.bool false)], args := [d1, d2] }
  | _ => none }
def BookBytesWrongFalsely : Prop := bookBytesRow.holds Try.pinned (OpenSpec.ofChange bookBytesWrong)

/-- 'kithlaw09.BookWrites': WHATEVER THE INPUT: true; the input reads as it did. -/
def bookWritesSpec : ChangeSpec := { name := "bookWrites", fn := fun _ => fun
  | [d] => { results := [.lit (.bool true)], args := [d] }
  | _ => none }
def bookWritesRow : OpenClaim := { program := "ytihjfndkgmjanaa", sum := "3722915e14d6bc9f12c7d18b8d98297ddcab3cb1fcbedf98cbd5252f25022612", func := "kith/kithlaw09.BookWrites", spec := "bookWrites", unfollowed := true, recurses := true, apart := false }
def BookWritesSaid : Prop := bookWritesRow.holds Try.pinned (OpenSpec.ofChange bookWritesSpec)

/-- ITS FALSE NEIGHBOUR: 'it returns false'. Refute it at one input. -/
def bookWritesWrong : ChangeSpec := { name := "bookWrites", fn := fun _ => fun
  | [d] => { results := [.lit (.bool false)], args := [d] }
  | _ => none }
def BookWritesWrongFalsely : Prop := bookWritesRow.holds Try.pinned (OpenSpec.ofChange bookWritesWrong)

/-- 'kithlaw09.BookLists': WHATEVER THE INPUT: true; the input reads as it did. -/
def bookListsSpec : ChangeSpec := { name := "bookLists", fn := fun _ => fun
  | [d] => { results := [.lit (.bool true)], args := [d] }
  | _ => none }
def bookListsRow : OpenClaim := { program := "ytihjfndkgmjanaa", sum := "3722915e14d6bc9f12c7d18b8d98297ddcab3cb1fcbedf98cbd5252f25022612", func := "kith/kithlaw09.BookLists", spec := "bookLists", unfollowed := true, recurses := true, apart := false }
def BookListsSaid : Prop := bookListsRow.holds Try.pinned (OpenSpec.ofChange bookListsSpec)

/-- ITS FALSE NEIGHBOUR: 'it returns false'. Refute it at one input. -/
def bookListsWrong : ChangeSpec := { name := "bookLists", fn := fun _ => fun
  | [d] => { results := [.lit (.bool false)], args := [d] }
  | _ => none }
def BookListsWrongFalsely : Prop := bookListsRow.holds Try.pinned (OpenSpec.ofChange bookListsWrong)

/-- 'kithlaw09.BookAll': WHATEVER THE INPUT: true; the input reads as it did. -/
def bookAllSpec : ChangeSpec := { name := "bookAll", fn := fun _ => fun
  | [d] => { results := [.lit (.bool true)], args := [d] }
  | _ => none }
def bookAllRow : OpenClaim := { program := "ytihjfndkgmjanaa", sum := "3722915e14d6bc9f12c7d18b8d98297ddcab3cb1fcbedf98cbd5252f25022612", func := "kith/kithlaw09.BookAll", spec := "bookAll", unfollowed := true, recurses := true, apart := false }
def BookAllSaid : Prop := bookAllRow.holds Try.pinned (OpenSpec.ofChange bookAllSpec)

/-- ITS FALSE NEIGHBOUR: 'it returns false'. Refute it at one input. -/
def bookAllWrong : ChangeSpec := { name := "bookAll", fn := fun _ => fun
  | [d] => { results := [.lit (.bool false)], args := [d] }
  | _ => none }
def BookAllWrongFalsely : Prop := bookAllRow.holds Try.pinned (OpenSpec.ofChange bookAllWrong)

/-- 'kithlaw09.BookLast': WHATEVER THE INPUT: true; the input reads as it did. -/
def bookLastSpec : ChangeSpec := { name := "bookLast", fn := fun _ => fun
  | [d1, d2] => { results := [.lit (.bool true)], args := [d1, d2] }
  | _ => none }
def bookLastRow : OpenClaim := { program := "ytihjfndkgmjanaa", sum := "3722915e14d6bc9f12c7d18b8d98297ddcab3cb1fcbedf98cbd5252f25022612", func := "kith/kithlaw09.BookLast", spec := "bookLast", unfollowed := true, recurses := true, apart := false }
def BookLastSaid : Prop := bookLastRow.holds Try.pinned (OpenSpec.ofChange bookLastSpec)

/-- ITS FALSE NEIGHBOUR: 'it returns false'. Refute it at one input. -/
def bookLastWrong : ChangeSpec := { name := "bookLast", fn := fun _ => fun
  | [d1, d2] => { results := [.lit (.bool false)], args := [d1, d2] }
  | _ => none }
def BookLastWrongFalsely : Prop := bookLastRow.holds Try.pinned (OpenSpec.ofChange bookLastWrong)

/-- 'kithlaw09.BookAgain': WHATEVER THE INPUT: true; the input reads as it did. -/
def bookAgainSpec : ChangeSpec := { name := "bookAgain", fn := fun _ => fun
  | [d1, d2] => { results := [.lit (.bool true)], args := [d1, d2] }
  | _ => none }
def bookAgainRow : OpenClaim := { program := "ytihjfndkgmjanaa", sum := "3722915e14d6bc9f12c7d18b8d98297ddcab3cb1fcbedf98cbd5252f25022612", func := "kith/kithlaw09.BookAgain", spec := "bookAgain", unfollowed := true, recurses := true, apart := false }
def BookAgainSaid : Prop := bookAgainRow.holds Try.pinned (OpenSpec.ofChange bookAgainSpec)

/-- ITS FALSE NEIGHBOUR: 'it returns false'. Refute it at one input. -/
def bookAgainWrong : ChangeSpec := { name := "bookAgain", fn := fun _ => fun
  | [d1, d2] => { results := [.lit (.bool false)], args := [d1, d2] }
  | _ => none }
def BookAgainWrongFalsely : Prop := bookAgainRow.holds Try.pinned (OpenSpec.ofChange bookAgainWrong)

/-- 'kithlaw09.BookApart': WHATEVER THE INPUT: true; the input reads as it did. -/
def bookApartSpec : ChangeSpec := { name := "bookApart", fn := fun _ => fun
  | [d1, d2] => { results := [.lit (.bool true)], args := [d1, d2] }
  | _ => none }
def bookApartRow : OpenClaim := { program := "ytihjfndkgmjanaa", sum := "3722915e14d6bc9f12c7d18b8d98297ddcab3cb1fcbedf98cbd5252f25022612", func := "kith/kithlaw09.BookApart", spec := "bookApart", unfollowed := true, recurses := true, apart := false }
def BookApartSaid : Prop := bookApartRow.holds Try.pinned (OpenSpec.ofChange bookApartSpec)

/-- ITS FALSE NEIGHBOUR: 'it returns false'. Refute it at one input. -/
def bookApartWrong : ChangeSpec := { name := "bookApart", fn := fun _ => fun
  | [d1, d2] => { results := [.lit (.bool false)], args := [d1, d2] }
  | _ => none }
def BookApartWrongFalsely : Prop := bookApartRow.holds Try.pinned (OpenSpec.ofChange bookApartWrong)

/-- 'kithlaw09.BookOrders': WHATEVER THE INPUT: true; the input reads as it did. -/
def bookOrdersSpec : ChangeSpec := { name := "bookOrders", fn := fun _ => fun
  | [d1, d2] => { results := [.lit (.bool true)], args := [d1, d2] }
  | _ => none }
def bookOrdersRow : OpenClaim := { program := "ytihjfndkgmjanaa", sum := "3722915e14d6bc9f12c7d18b8d98297ddcab3cb1fcbedf98cbd5252f25022612", func := "kith/kithlaw09.BookOrders", spec := "bookOrders", unfollowed := true, recurses := true, apart := false }
def BookOrdersSaid : Prop := bookOrdersRow.holds Try.pinned (OpenSpec.ofChange bookOrdersSpec)

/-- ITS FALSE NEIGHBOUR: 'it returns false'. Refute it at one input. -/
def bookOrdersWrong : ChangeSpec := { name := "bookOrders", fn := fun _ => fun
  | [d1, d2] => { results := [.lit (.bool false)], args := [d1, d2] }
  | _ => none }
def BookOrdersWrongFalsely : Prop := bookOrdersRow.holds Try.pinned (OpenSpec.ofChange bookOrdersWrong)

/- THE SECOND FORM. 'bulk': how many values and letters a reading holds, each counted each time it is reached (what is shared counts as often as it is met; a slice's spare places count too). A statement '..UptoSaid' is the law's where the arguments, and the package variables that the reading takes, are together of bulk at most 1048576: NARROWER than '..Said'. Prove '..Said' where nothing that the law and all that it calls make is longer than what came in: it says more and counts as full. Else prove '..UptoSaid'. A law counts once. -/
mutual
def uptoBulk {H : Type} : DataW H → Nat
  | .lit (.string bytes) => bytes.length + 1
  | .lit _ => 1
  | .nil => 1
  | .ptr d => uptoBulk d + 1
  | .slice elems spare => uptoBulkAll elems + uptoBulkAll spare + 1
  | .agg parts => uptoBulkAll parts + 1
  | .iface _ d => uptoBulk d + 1
  | .map entries => uptoBulkEntries entries + 1
  | .held _ => 1
def uptoBulkAll {H : Type} : List (DataW H) → Nat
  | [] => 0
  | d :: r => uptoBulk d + uptoBulkAll r
def uptoBulkEntries {H : Type} : List (Lit × DataW H) → Nat
  | [] => 0
  | x :: r => uptoBulkEntry x + uptoBulkEntries r
def uptoBulkEntry {H : Type} : Lit × DataW H → Nat
  | (.string bytes, d) => bytes.length + uptoBulk d + 1
  | (_, d) => uptoBulk d + 1
 end
def uptoSmall : (H : Type) → List (DataW H) → Bool := fun _ ds => decide (uptoBulkAll ds ≤ 1048576)
def OpenSpec.upto (s : _root_.Go.ChangeSpec) : _root_.Go.OpenSpec := { _root_.Go.OpenSpec.ofChange s with cond := some uptoSmall }

/-- 'kithlaw09.BookBytes', WHERE WHAT IT READS IS OF BULK AT MOST 1048576: true; the input reads as it did. -/
def bookBytesUptoRow : OpenClaim := { program := "ytihjfndkgmjanaa", sum := "3722915e14d6bc9f12c7d18b8d98297ddcab3cb1fcbedf98cbd5252f25022612", func := "kith/kithlaw09.BookBytes", spec := "bookBytes", unfollowed := true, recurses := true, apart := false, narrowed := true }
def BookBytesUptoSaid : Prop := bookBytesUptoRow.holds Try.pinned (OpenSpec.upto bookBytesSpec)

/-- 'kithlaw09.BookWrites', WHERE WHAT IT READS IS OF BULK AT MOST 1048576: true; the input reads as it did. -/
def bookWritesUptoRow : OpenClaim := { program := "ytihjfndkgmjanaa", sum := "3722915e14d6bc9f12c7d18b8d98297ddcab3cb1fcbedf98cbd5252f25022612", func := "kith/kithlaw09.BookWrites", spec := "bookWrites", unfollowed := true, recurses := true, apart := false, narrowed := true }
def BookWritesUptoSaid : Prop := bookWritesUptoRow.holds Try.pinned (OpenSpec.upto bookWritesSpec)

/-- 'kithlaw09.BookLists', WHERE WHAT IT READS IS OF BULK AT MOST 1048576: true; the input reads as it did. -/
def bookListsUptoRow : OpenClaim := { program := "ytihjfndkgmjanaa", sum := "3722915e14d6bc9f12c7d18b8d98297ddcab3cb1fcbedf98cbd5252f25022612", func := "kith/kithlaw09.BookLists", spec := "bookLists", unfollowed := true, recurses := true, apart := false, narrowed := true }
def BookListsUptoSaid : Prop := bookListsUptoRow.holds Try.pinned (OpenSpec.upto bookListsSpec)

/-- 'kithlaw09.BookAll', WHERE WHAT IT READS IS OF BULK AT MOST 1048576: true; the input reads as it did. -/
def bookAllUptoRow : OpenClaim := { program := "ytihjfndkgmjanaa", sum := "3722915e14d6bc9f12c7d18b8d98297ddcab3cb1fcbedf98cbd5252f25022612", func := "kith/kithlaw09.BookAll", spec := "bookAll", unfollowed := true, recurses := true, apart := false, narrowed := true }
def BookAllUptoSaid : Prop := bookAllUptoRow.holds Try.pinned (OpenSpec.upto bookAllSpec)

/-- 'kithlaw09.BookLast', WHERE WHAT IT READS IS OF BULK AT MOST 1048576: true; the input reads as it did. -/
def bookLastUptoRow : OpenClaim := { program := "ytihjfndkgmjanaa", sum := "3722915e14d6bc9f12c7d18b8d98297ddcab3cb1fcbedf98cbd5252f25022612", func := "kith/kithlaw09.BookLast", spec := "bookLast", unfollowed := true, recurses := true, apart := false, narrowed := true }
def BookLastUptoSaid : Prop := bookLastUptoRow.holds Try.pinned (OpenSpec.upto bookLastSpec)

/-- 'kithlaw09.BookAgain', WHERE WHAT IT READS IS OF BULK AT MOST 1048576: true; the input reads as it did. -/
def bookAgainUptoRow : OpenClaim := { program := "ytihjfndkgmjanaa", sum := "3722915e14d6bc9f12c7d18b8d98297ddcab3cb1fcbedf98cbd5252f25022612", func := "kith/kithlaw09.BookAgain", spec := "bookAgain", unfollowed := true, recurses := true, apart := false, narrowed := true }
def BookAgainUptoSaid : Prop := bookAgainUptoRow.holds Try.pinned (OpenSpec.upto bookAgainSpec)

/-- 'kithlaw09.BookApart', WHERE WHAT IT READS IS OF BULK AT MOST 1048576: true; the input reads as it did. -/
def bookApartUptoRow : OpenClaim := { program := "ytihjfndkgmjanaa", sum := "3722915e14d6bc9f12c7d18b8d98297ddcab3cb1fcbedf98cbd5252f25022612", func := "kith/kithlaw09.BookApart", spec := "bookApart", unfollowed := true, recurses := true, apart := false, narrowed := true }
def BookApartUptoSaid : Prop := bookApartUptoRow.holds Try.pinned (OpenSpec.upto bookApartSpec)

/-- 'kithlaw09.BookOrders', WHERE WHAT IT READS IS OF BULK AT MOST 1048576: true; the input reads as it did. -/
def bookOrdersUptoRow : OpenClaim := { program := "ytihjfndkgmjanaa", sum := "3722915e14d6bc9f12c7d18b8d98297ddcab3cb1fcbedf98cbd5252f25022612", func := "kith/kithlaw09.BookOrders", spec := "bookOrders", unfollowed := true, recurses := true, apart := false, narrowed := true }
def BookOrdersUptoSaid : Prop := bookOrdersUptoRow.holds Try.pinned (OpenSpec.upto bookOrdersSpec)

end Rows
end Go.Proofs.Ytihjfndkgmjanaa
