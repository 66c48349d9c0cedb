/-
  No cell of these rows narrows 'for every input' (looked for: loops, veiled, ifaces, maps, wideKeys, modest, calm, conditions, laid).
  DERIVED. THE GIVEN ROWS OF THIS SEAT. 4 by the template 'for every input the law returns true; each argument reads behind the call as it read before'; 0 by the template 'total and deterministic' (their statements: YtmldeejaghflnaaTotals.lean).
  GIVEN WITH THE SEED: the statements are not yours to turn. If you find one false, say at which input.
  Laid BY PROGRAM, IN A SANDBOX (cutbox-rows.mjs): the forced cells as the released guide's own fill.sh prints them over the translation 425ed505824fe07b… (all of the seat's roots in one cut). By AI agents, Wed Nov 11 2026. No macro, syntax, notation, axiom, sorry.
-/
import Derived.Test.YtmldeejaghflnaaChecked
import GoSem.Claim
import GoSem.ClaimJoined
import GoSem.ClaimMapViews
import Derived.JoinedTies
import Derived.KernelRfl
namespace Go.Proofs.Ytmldeejaghflnaa
/- THE CELL 'sum', in the pinned program and in every row, IS THE sha256 OF THE DUMP (.gsa) THAT YtmldeejaghflnaaProg.lean LOADS. Nothing in Lean hashes anything: it is a label: what it is worth is what the hold of that sum in a sandbox is worth. -/
noncomputable def Try.pinned : Pinned := { name := "ytmldeejaghflnaa", sum := "425ed505824fe07b8378371c397718e3c3ed426b9ac964105ee62370f1b407d5", checked := Try.checked }
namespace Rows
def none {H : Type} : Left H := { results := [], args := [] }

/-- 'kithlaw20.HubNew': WHATEVER THE INPUT: true; the input reads as it did. -/
def hubNewSpec : ChangeSpec := { name := "hubNew", fn := fun _ => fun
  | [d] => { results := [.lit (.bool true)], args := [d] }
  | _ => none }
def hubNewRow : OpenClaim := { program := "ytmldeejaghflnaa", sum := "425ed505824fe07b8378371c397718e3c3ed426b9ac964105ee62370f1b407d5", func := "kith/kithlaw20.HubNew", spec := "hubNew", unfollowed := true, recurses := true, apart := false }
def HubNewSaid : Prop := hubNewRow.holds Try.pinned (OpenSpec.ofChange hubNewSpec)

/-- ITS FALSE NEIGHBOUR: 'it returns false'. Refute it at one input. -/
def hubNewWrong : ChangeSpec := { name := "hubNew", fn := fun _ => fun
  | [d] => { results := [.lit (.bool false)], args := [d] }
  | _ => none }
def HubNewWrongFalsely : Prop := hubNewRow.holds Try.pinned (OpenSpec.ofChange hubNewWrong)

/-- 'kithlaw20.HubReplies': WHATEVER THE INPUT: true; the input reads as it did. -/
def hubRepliesSpec : ChangeSpec := { name := "hubReplies", fn := fun _ => fun
  | [d1, d2] => { results := [.lit (.bool true)], args := [d1, d2] }
  | _ => none }
def hubRepliesRow : OpenClaim := { program := "ytmldeejaghflnaa", sum := "425ed505824fe07b8378371c397718e3c3ed426b9ac964105ee62370f1b407d5", func := "kith/kithlaw20.HubReplies", spec := "hubReplies", unfollowed := true, recurses := true, apart := false }
def HubRepliesSaid : Prop := hubRepliesRow.holds Try.pinned (OpenSpec.ofChange hubRepliesSpec)

/-- ITS FALSE NEIGHBOUR: 'it returns false'. Refute it at one input. -/
def hubRepliesWrong : ChangeSpec := { name := "hubReplies", fn := fun _ => fun
  | [d1, d2] => { results := [.lit (.bool false)], args := [d1, d2] }
  | _ => none }
def HubRepliesWrongFalsely : Prop := hubRepliesRow.holds Try.pinned (OpenSpec.ofChange hubRepliesWrong)

/-- 'kithlaw20.HubRefuses': WHATEVER THE INPUT: true; the input reads as it did. -/
def hubRefusesSpec : ChangeSpec := { name := "hubRefuses", fn := fun _ => fun
  | [d1, d2] => { results := [.lit (.bool true)], args := [d1, d2] }
  | _ => none }
def hubRefusesRow : OpenClaim := { program := "ytmldeejaghflnaa", sum := "425ed505824fe07b8378371c397718e3c3ed426b9ac964105ee62370f1b407d5", func := "kith/kithlaw20.HubRefuses", spec := "hubRefuses", unfollowed := true, recurses := true, apart := false }
def HubRefusesSaid : Prop := hubRefusesRow.holds Try.pinned (OpenSpec.ofChange hubRefusesSpec)

/-- ITS FALSE NEIGHBOUR: 'it returns false'. Refute it at one input. -/
def hubRefusesWrong : ChangeSpec := { name := "hubRefuses", fn := fun _ => fun
  | [d1, d2] => { results := [.lit (.bool false)], args := [d1, d2] }
  | _ => none }
def HubRefusesWrongFalsely : Prop := hubRefusesRow.holds Try.pinned (OpenSpec.ofChange hubRefusesWrong)

/-- 'kithlaw20.HubCuts': WHATEVER THE INPUT: true; the input reads as it did. -/
def hubCutsSpec : ChangeSpec := { name := "hubCuts", fn := fun _ => fun
  | [d1, d2, d3] => { results := [.lit (.bool true)], args := [d1, d2, d3] }
  | _ => none }
def hubCutsRow : OpenClaim := { program := "ytmldeejaghflnaa", sum := "425ed505824fe07b8378371c397718e3c3ed426b9ac964105ee62370f1b407d5", func := "kith/kithlaw20.HubCuts", spec := "hubCuts", unfollowed := true, recurses := true, apart := false }
def HubCutsSaid : Prop := hubCutsRow.holds Try.pinned (OpenSpec.ofChange hubCutsSpec)

/-- ITS FALSE NEIGHBOUR: 'it returns false'. Refute it at one input. -/
def hubCutsWrong : ChangeSpec := { name := "hubCuts", fn := fun _ => fun
  | [d1, d2, d3] => { results := [.lit (.bool false)], args := [d1, d2, d3] }
  | _ => none }
def HubCutsWrongFalsely : Prop := hubCutsRow.holds Try.pinned (OpenSpec.ofChange hubCutsWrong)

/- THE SECOND FORM. 'bulk': how many values and letters a reading holds, each counted each time it is reached (what is shared counts as often as it is met; a slice's spare places count too). A statement '..UptoSaid' is the law's where the arguments, and the package variables that the reading takes, are together of bulk at most 1048576: NARROWER than '..Said'. Prove '..Said' where nothing that the law and all that it calls make is longer than what came in: it says more and counts as full. Else prove '..UptoSaid'. A law counts once. -/
mutual
def uptoBulk {H : Type} : DataW H → Nat
  | .lit (.string bytes) => bytes.length + 1
  | .lit _ => 1
  | .nil => 1
  | .ptr d => uptoBulk d + 1
  | .slice elems spare => uptoBulkAll elems + uptoBulkAll spare + 1
  | .agg parts => uptoBulkAll parts + 1
  | .iface _ d => uptoBulk d + 1
  | .map entries => uptoBulkEntries entries + 1
  | .held _ => 1
def uptoBulkAll {H : Type} : List (DataW H) → Nat
  | [] => 0
  | d :: r => uptoBulk d + uptoBulkAll r
def uptoBulkEntries {H : Type} : List (Lit × DataW H) → Nat
  | [] => 0
  | x :: r => uptoBulkEntry x + uptoBulkEntries r
def uptoBulkEntry {H : Type} : Lit × DataW H → Nat
  | (.string bytes, d) => bytes.length + uptoBulk d + 1
  | (_, d) => uptoBulk d + 1
 end
def uptoSmall : (H : Type) → List (DataW H) → Bool := fun _ ds => decide (uptoBulkAll ds ≤ 1048576)
def OpenSpec.upto (s : _root_.Go.ChangeSpec) : _root_.Go.OpenSpec := { _root_.Go.OpenSpec.ofChange s with cond := some uptoSmall }

/-- 'kithlaw20.HubNew', WHERE WHAT IT READS IS OF BULK AT MOST 1048576: true; the input reads as it did. -/
def hubNewUptoRow : OpenClaim := { program := "ytmldeejaghflnaa", sum := "425ed505824fe07b8378371c397718e3c3ed426b9ac964105ee62370f1b407d5", func := "kith/kithlaw20.HubNew", spec := "hubNew", unfollowed := true, recurses := true, apart := false, narrowed := true }
def HubNewUptoSaid : Prop := hubNewUptoRow.holds Try.pinned (OpenSpec.upto hubNewSpec)

/-- 'kithlaw20.HubReplies', WHERE WHAT IT READS IS OF BULK AT MOST 1048576: true; the input reads as it did. -/
def hubRepliesUptoRow : OpenClaim := { program := "ytmldeejaghflnaa", sum := "425ed505824fe07b8378371c397718e3c3ed426b9ac964105ee62370f1b407d5", func := "kith/kithlaw20.HubReplies", spec := "hubReplies", unfollowed := true, recurses := true, apart := false, narrowed := true }
def HubRepliesUptoSaid : Prop := hubRepliesUptoRow.holds Try.pinned (OpenSpec.upto hubRepliesSpec)

/-- 'kithlaw20.HubRefuses', WHERE WHAT IT READS IS OF BULK AT MOST 1048576: true; the input reads as it did. -/
def hubRefusesUptoRow : OpenClaim := { program := "ytmldeejaghflnaa", sum := "425ed505824fe07b8378371c397718e3c3ed426b9ac964105ee62370f1b407d5", func := "kith/kithlaw20.HubRefuses", spec := "hubRefuses", unfollowed := true, recurses := true, apart := false, narrowed := true }
def HubRefusesUptoSaid : Prop := hubRefusesUptoRow.holds Try.pinned (OpenSpec.upto hubRefusesSpec)

/-- 'kithlaw20.HubCuts', WHERE WHAT IT READS IS OF BULK AT MOST 1048576: true; the input reads as it did. -/
def hubCutsUptoRow : OpenClaim := { program := "ytmldeejaghflnaa", sum := "425ed505824fe07b8378371c397718e3c3ed426b9ac964105ee62370f1b407d5", func := "kith/kithlaw20.HubCuts", spec := "hubCuts", unfollowed := true, recurses := true, apart := false, narrowed := true }
def HubCutsUptoSaid : Prop := hubCutsUptoRow.holds Try.pinned (OpenSpec.upto hubCutsSpec)

end Rows
end Go.Proofs.Ytmldeejaghflnaa
