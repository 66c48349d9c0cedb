/-
  No cell of these rows narrows 'for every input' (looked for: loops, veiled, ifaces, maps, wideKeys, modest, calm, conditions, laid).
  DERIVED. THE GIVEN ROWS OF THIS SEAT. 5 by the template 'for every input the law returns true; each argument reads behind the call as it read before'; 0 by the template 'total and deterministic' (their statements: YtlannpjlanegoaaTotals.lean).
  GIVEN WITH THE SEED: the statements are not yours to turn. If you find one false, say at which input.
  Laid BY PROGRAM, IN A SANDBOX (cutbox-rows.mjs): the forced cells as the released guide's own fill.sh prints them over the translation c40fa967a5af3d78… (all of the seat's roots in one cut). By AI agents, Wed Nov 11 2026. No macro, syntax, notation, axiom, sorry.
-/
import Derived.Test.YtlannpjlanegoaaChecked
import GoSem.Claim
import GoSem.ClaimJoined
import GoSem.ClaimMapViews
import Derived.JoinedTies
import Derived.KernelRfl
namespace Go.Proofs.Ytlannpjlanegoaa
/- THE CELL 'sum', in the pinned program and in every row, IS THE sha256 OF THE DUMP (.gsa) THAT YtlannpjlanegoaaProg.lean LOADS. Nothing in Lean hashes anything: it is a label: what it is worth is what the hold of that sum in a sandbox is worth. -/
noncomputable def Try.pinned : Pinned := { name := "ytlannpjlanegoaa", sum := "c40fa967a5af3d78b1133b70d9de1ace423d4acd2d04ccd52d3e45a7872d244e", checked := Try.checked }
namespace Rows
def none {H : Type} : Left H := { results := [], args := [] }

/-- 'kithlaw06.EventSizes': WHATEVER THE INPUT: true; the input reads as it did. -/
def eventSizesSpec : ChangeSpec := { name := "eventSizes", fn := fun _ => fun
  | [d] => { results := [.lit (.bool true)], args := [d] }
  | _ => none }
def eventSizesRow : OpenClaim := { program := "ytlannpjlanegoaa", sum := "c40fa967a5af3d78b1133b70d9de1ace423d4acd2d04ccd52d3e45a7872d244e", func := "kith/kithlaw06.EventSizes", spec := "eventSizes", unfollowed := true, recurses := true, apart := false }
def EventSizesSaid : Prop := eventSizesRow.holds Try.pinned (OpenSpec.ofChange eventSizesSpec)

/-- ITS FALSE NEIGHBOUR: 'it returns false'. Refute it at one input. -/
def eventSizesWrong : ChangeSpec := { name := "eventSizes", fn := fun _ => fun
  | [d] => { results := [.lit (.bool false)], args := [d] }
  | _ => none }
def EventSizesWrongFalsely : Prop := eventSizesRow.holds Try.pinned (OpenSpec.ofChange eventSizesWrong)

/-- 'kithlaw06.EventOdd': WHATEVER THE INPUT: true; the input reads as it did. -/
def eventOddSpec : ChangeSpec := { name := "eventOdd", fn := fun _ => fun
  | [d1, d2] => { results := [.lit (.bool true)], args := [d1, d2] }
  | _ => none }
def eventOddRow : OpenClaim := { program := "ytlannpjlanegoaa", sum := "c40fa967a5af3d78b1133b70d9de1ace423d4acd2d04ccd52d3e45a7872d244e", func := "kith/kithlaw06.EventOdd", spec := "eventOdd", unfollowed := true, recurses := true, apart := false }
def EventOddSaid : Prop := eventOddRow.holds Try.pinned (OpenSpec.ofChange eventOddSpec)

/-- ITS FALSE NEIGHBOUR: 'it returns false'. Refute it at one input. -/
def eventOddWrong : ChangeSpec := { name := "eventOdd", fn := fun _ => fun
  | [d1, d2] => { results := [.lit (.bool false)], args := [d1, d2] }
  | _ => none }
def EventOddWrongFalsely : Prop := eventOddRow.holds Try.pinned (OpenSpec.ofChange eventOddWrong)

/-- 'kithlaw06.EventBelow': WHATEVER THE INPUT: true; the input reads as it did. -/
def eventBelowSpec : ChangeSpec := { name := "eventBelow", fn := fun _ => fun
  | [d1, d2] => { results := [.lit (.bool true)], args := [d1, d2] }
  | _ => none }
def eventBelowRow : OpenClaim := { program := "ytlannpjlanegoaa", sum := "c40fa967a5af3d78b1133b70d9de1ace423d4acd2d04ccd52d3e45a7872d244e", func := "kith/kithlaw06.EventBelow", spec := "eventBelow", unfollowed := true, recurses := true, apart := false }
def EventBelowSaid : Prop := eventBelowRow.holds Try.pinned (OpenSpec.ofChange eventBelowSpec)

/-- ITS FALSE NEIGHBOUR: 'it returns false'. Refute it at one input. -/
def eventBelowWrong : ChangeSpec := { name := "eventBelow", fn := fun _ => fun
  | [d1, d2] => { results := [.lit (.bool false)], args := [d1, d2] }
  | _ => none }
def EventBelowWrongFalsely : Prop := eventBelowRow.holds Try.pinned (OpenSpec.ofChange eventBelowWrong)

/-- 'kithlaw06.EventBack': WHATEVER THE INPUT: true; the input reads as it did. -/
def eventBackSpec : ChangeSpec := { name := "eventBack", fn := fun _ => fun
  | [d1, d2, d3] => { results := [.lit (.bool true)], args := [d1, d2, d3] }
  | _ => none }
def eventBackRow : OpenClaim := { program := "ytlannpjlanegoaa", sum := "c40fa967a5af3d78b1133b70d9de1ace423d4acd2d04ccd52d3e45a7872d244e", func := "kith/kithlaw06.EventBack", spec := "eventBack", unfollowed := true, recurses := true, apart := false }
def EventBackSaid : Prop := eventBackRow.holds Try.pinned (OpenSpec.ofChange eventBackSpec)

/-- ITS FALSE NEIGHBOUR: 'it returns false'. Refute it at one input. -/
def eventBackWrong : ChangeSpec := { name := "eventBack", fn := fun _ => fun
  | [d1, d2, d3] => { results := [.lit (.bool false)], args := [d1, d2, d3] }
  | _ => none }
def EventBackWrongFalsely : Prop := eventBackRow.holds Try.pinned (OpenSpec.ofChange eventBackWrong)

/-- 'kithlaw06.EventCuts': WHATEVER THE INPUT: true; the input reads as it did. -/
def eventCutsSpec : ChangeSpec := { name := "eventCuts", fn := fun _ => fun
  | [d1, d2] => { results := [.lit (.bool true)], args := [d1, d2] }
  | _ => none }
def eventCutsRow : OpenClaim := { program := "ytlannpjlanegoaa", sum := "c40fa967a5af3d78b1133b70d9de1ace423d4acd2d04ccd52d3e45a7872d244e", func := "kith/kithlaw06.EventCuts", spec := "eventCuts", unfollowed := true, recurses := true, apart := false }
def EventCutsSaid : Prop := eventCutsRow.holds Try.pinned (OpenSpec.ofChange eventCutsSpec)

/-- ITS FALSE NEIGHBOUR: 'it returns false'. Refute it at one input. -/
def eventCutsWrong : ChangeSpec := { name := "eventCuts", fn := fun _ => fun
  | [d1, d2] => { results := [.lit (.bool false)], args := [d1, d2] }
  | _ => none }
def EventCutsWrongFalsely : Prop := eventCutsRow.holds Try.pinned (OpenSpec.ofChange eventCutsWrong)

/- THE SECOND FORM. 'bulk': how many values and letters a reading holds, each counted each time it is reached (what is shared counts as often as it is met; a slice's spare places count too). A statement '..UptoSaid' is the law's where the arguments, and the package variables that the reading takes, are together of bulk at most 1048576: NARROWER than '..Said'. Prove '..Said' where nothing that the law and all that it calls make is longer than what came in: it says more and counts as full. Else prove '..UptoSaid'. A law counts once. -/
mutual
def uptoBulk {H : Type} : DataW H → Nat
  | .lit (.string bytes) => bytes.length + 1
  | .lit _ => 1
  | .nil => 1
  | .ptr d => uptoBulk d + 1
  | .slice elems spare => uptoBulkAll elems + uptoBulkAll spare + 1
  | .agg parts => uptoBulkAll parts + 1
  | .iface _ d => uptoBulk d + 1
  | .map entries => uptoBulkEntries entries + 1
  | .held _ => 1
def uptoBulkAll {H : Type} : List (DataW H) → Nat
  | [] => 0
  | d :: r => uptoBulk d + uptoBulkAll r
def uptoBulkEntries {H : Type} : List (Lit × DataW H) → Nat
  | [] => 0
  | x :: r => uptoBulkEntry x + uptoBulkEntries r
def uptoBulkEntry {H : Type} : Lit × DataW H → Nat
  | (.string bytes, d) => bytes.length + uptoBulk d + 1
  | (_, d) => uptoBulk d + 1
 end
def uptoSmall : (H : Type) → List (DataW H) → Bool := fun _ ds => decide (uptoBulkAll ds ≤ 1048576)
def OpenSpec.upto (s : _root_.Go.ChangeSpec) : _root_.Go.OpenSpec := { _root_.Go.OpenSpec.ofChange s with cond := some uptoSmall }

/-- 'kithlaw06.EventSizes', WHERE WHAT IT READS IS OF BULK AT MOST 1048576: true; the input reads as it did. -/
def eventSizesUptoRow : OpenClaim := { program := "ytlannpjlanegoaa", sum := "c40fa967a5af3d78b1133b70d9de1ace423d4acd2d04ccd52d3e45a7872d244e", func := "kith/kithlaw06.EventSizes", spec := "eventSizes", unfollowed := true, recurses := true, apart := false, narrowed := true }
def EventSizesUptoSaid : Prop := eventSizesUptoRow.holds Try.pinned (OpenSpec.upto eventSizesSpec)

/-- 'kithlaw06.EventOdd', WHERE WHAT IT READS IS OF BULK AT MOST 1048576: true; the input reads as it did. -/
def eventOddUptoRow : OpenClaim := { program := "ytlannpjlanegoaa", sum := "c40fa967a5af3d78b1133b70d9de1ace423d4acd2d04ccd52d3e45a7872d244e", func := "kith/kithlaw06.EventOdd", spec := "eventOdd", unfollowed := true, recurses := true, apart := false, narrowed := true }
def EventOddUptoSaid : Prop := eventOddUptoRow.holds Try.pinned (OpenSpec.upto eventOddSpec)

/-- 'kithlaw06.EventBelow', WHERE WHAT IT READS IS OF BULK AT MOST 1048576: true; the input reads as it did. -/
def eventBelowUptoRow : OpenClaim := { program := "ytlannpjlanegoaa", sum := "c40fa967a5af3d78b1133b70d9de1ace423d4acd2d04ccd52d3e45a7872d244e", func := "kith/kithlaw06.EventBelow", spec := "eventBelow", unfollowed := true, recurses := true, apart := false, narrowed := true }
def EventBelowUptoSaid : Prop := eventBelowUptoRow.holds Try.pinned (OpenSpec.upto eventBelowSpec)

/-- 'kithlaw06.EventBack', WHERE WHAT IT READS IS OF BULK AT MOST 1048576: true; the input reads as it did. -/
def eventBackUptoRow : OpenClaim := { program := "ytlannpjlanegoaa", sum := "c40fa967a5af3d78b1133b70d9de1ace423d4acd2d04ccd52d3e45a7872d244e", func := "kith/kithlaw06.EventBack", spec := "eventBack", unfollowed := true, recurses := true, apart := false, narrowed := true }
def EventBackUptoSaid : Prop := eventBackUptoRow.holds Try.pinned (OpenSpec.upto eventBackSpec)

/-- 'kithlaw06.EventCuts', WHERE WHAT IT READS IS OF BULK AT MOST 1048576: true; the input reads as it did. -/
def eventCutsUptoRow : OpenClaim := { program := "ytlannpjlanegoaa", sum := "c40fa967a5af3d78b1133b70d9de1ace423d4acd2d04ccd52d3e45a7872d244e", func := "kith/kithlaw06.EventCuts", spec := "eventCuts", unfollowed := true, recurses := true, apart := false, narrowed := true }
def EventCutsUptoSaid : Prop := eventCutsUptoRow.holds Try.pinned (OpenSpec.upto eventCutsSpec)

end Rows
end Go.Proofs.Ytlannpjlanegoaa
