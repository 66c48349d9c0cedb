/-
  No cell of these rows narrows 'for every input' (looked for: loops, veiled, ifaces, maps, wideKeys, modest, calm, conditions, laid).
  DERIVED. THE GIVEN ROWS OF THIS SEAT. 5 by the template 'for every input the law returns true; each argument reads behind the call as it read before'; 0 by the template 'total and deterministic' (their statements: YtimhagicagdkfaaGreatTotals.lean).
  GIVEN WITH THE SEED: the statements are not yours to turn. If you find one false, say at which input.
  Laid BY PROGRAM, IN A SANDBOX (cutbox-rows.mjs): the forced cells as the released guide's own fill.sh prints them over the translation 20cef95d3654cb99… (all of the seat's roots in one cut). By AI agents, Wed Nov 11 2026. No macro, syntax, notation, axiom, sorry.
-/
import Derived.Test.YtimhagicagdkfaaGreatChecked
import GoSem.Claim
import GoSem.ClaimJoined
import GoSem.ClaimMapViews
import Derived.JoinedTies
import Derived.KernelRfl
namespace Go.Proofs.YtimhagicagdkfaaGreat
/- THE CELL 'sum', in the pinned program and in every row, IS THE sha256 OF THE DUMP (.gsa) THAT YtimhagicagdkfaaGreatProg.lean LOADS. Nothing in Lean hashes anything: it is a label: what it is worth is what the hold of that sum in a sandbox is worth. -/
noncomputable def Tryz.pinned : Pinned := { name := "ytimhagicagdkfaagreat", sum := "20cef95d3654cb99cc58295d0170f0ef6a06328658ca294fc3e54734fce8d26b", checked := Tryz.checked }
namespace Rows
def none {H : Type} : Left H := { results := [], args := [] }

/-- 'kithlaw19.NodeNew': WHATEVER THE INPUT: true; the input reads as it did. -/
def nodeNewSpec : ChangeSpec := { name := "nodeNew", fn := fun _ => fun
  | [d1, d2] => { results := [.lit (.bool true)], args := [d1, d2] }
  | _ => none }
def nodeNewRow : OpenClaim := { program := "ytimhagicagdkfaagreat", sum := "20cef95d3654cb99cc58295d0170f0ef6a06328658ca294fc3e54734fce8d26b", func := "kith/kithlaw19.NodeNew", spec := "nodeNew", inPlace := ["sync/atomic.LoadUint32", "(*internal/sync.Mutex).Lock", "internal/race.Disable", "sync/atomic.CompareAndSwapInt32", "internal/race.Enable", "internal/race.Acquire", "(*internal/sync.Mutex).lockSlow", "internal/sync.runtime_canSpin", "internal/sync.runtime_doSpin", "internal/sync.throw", "internal/sync.runtime_nanotime", "internal/sync.runtime_SemacquireMutex", "sync/atomic.AddInt32", "(*internal/sync.Mutex).Unlock", "internal/race.ReleaseMerge", "(*internal/sync.Mutex).unlockSlow", "internal/sync.fatal", "internal/sync.runtime_Semrelease", "sync/atomic.StoreUint32", "sync/atomic.AddInt64"], unfollowed := true, recurses := true, plainKeys := false, apart := false }
def NodeNewSaid : Prop := nodeNewRow.holds Tryz.pinned (OpenSpec.ofChange nodeNewSpec)

/-- ITS FALSE NEIGHBOUR: 'it returns false'. Refute it at one input. -/
def nodeNewWrong : ChangeSpec := { name := "nodeNew", fn := fun _ => fun
  | [d1, d2] => { results := [.lit (.bool false)], args := [d1, d2] }
  | _ => none }
def NodeNewWrongFalsely : Prop := nodeNewRow.holds Tryz.pinned (OpenSpec.ofChange nodeNewWrong)

/-- 'kithlaw19.NodeEdits': WHATEVER THE INPUT: true; the input reads as it did. -/
def nodeEditsSpec : ChangeSpec := { name := "nodeEdits", fn := fun _ => fun
  | [d1, d2, d3] => { results := [.lit (.bool true)], args := [d1, d2, d3] }
  | _ => none }
def nodeEditsRow : OpenClaim := { program := "ytimhagicagdkfaagreat", sum := "20cef95d3654cb99cc58295d0170f0ef6a06328658ca294fc3e54734fce8d26b", func := "kith/kithlaw19.NodeEdits", spec := "nodeEdits", inPlace := ["sync/atomic.LoadUint32", "(*internal/sync.Mutex).Lock", "internal/race.Disable", "sync/atomic.CompareAndSwapInt32", "internal/race.Enable", "internal/race.Acquire", "(*internal/sync.Mutex).lockSlow", "internal/sync.runtime_canSpin", "internal/sync.runtime_doSpin", "internal/sync.throw", "internal/sync.runtime_nanotime", "internal/sync.runtime_SemacquireMutex", "sync/atomic.AddInt32", "(*internal/sync.Mutex).Unlock", "internal/race.ReleaseMerge", "(*internal/sync.Mutex).unlockSlow", "internal/sync.fatal", "internal/sync.runtime_Semrelease", "sync/atomic.StoreUint32", "sync/atomic.AddInt64"], unfollowed := true, recurses := true, plainKeys := false, apart := false }
def NodeEditsSaid : Prop := nodeEditsRow.holds Tryz.pinned (OpenSpec.ofChange nodeEditsSpec)

/-- ITS FALSE NEIGHBOUR: 'it returns false'. Refute it at one input. -/
def nodeEditsWrong : ChangeSpec := { name := "nodeEdits", fn := fun _ => fun
  | [d1, d2, d3] => { results := [.lit (.bool false)], args := [d1, d2, d3] }
  | _ => none }
def NodeEditsWrongFalsely : Prop := nodeEditsRow.holds Tryz.pinned (OpenSpec.ofChange nodeEditsWrong)

/-- 'kithlaw19.NodeStrange': WHATEVER THE INPUT: true; the input reads as it did. -/
def nodeStrangeSpec : ChangeSpec := { name := "nodeStrange", fn := fun _ => fun
  | [d1, d2, d3] => { results := [.lit (.bool true)], args := [d1, d2, d3] }
  | _ => none }
def nodeStrangeRow : OpenClaim := { program := "ytimhagicagdkfaagreat", sum := "20cef95d3654cb99cc58295d0170f0ef6a06328658ca294fc3e54734fce8d26b", func := "kith/kithlaw19.NodeStrange", spec := "nodeStrange", inPlace := ["sync/atomic.LoadUint32", "(*internal/sync.Mutex).Lock", "internal/race.Disable", "sync/atomic.CompareAndSwapInt32", "internal/race.Enable", "internal/race.Acquire", "(*internal/sync.Mutex).lockSlow", "internal/sync.runtime_canSpin", "internal/sync.runtime_doSpin", "internal/sync.throw", "internal/sync.runtime_nanotime", "internal/sync.runtime_SemacquireMutex", "sync/atomic.AddInt32", "(*internal/sync.Mutex).Unlock", "internal/race.ReleaseMerge", "(*internal/sync.Mutex).unlockSlow", "internal/sync.fatal", "internal/sync.runtime_Semrelease", "sync/atomic.StoreUint32", "sync/atomic.AddInt64"], unfollowed := true, recurses := true, plainKeys := false, apart := false }
def NodeStrangeSaid : Prop := nodeStrangeRow.holds Tryz.pinned (OpenSpec.ofChange nodeStrangeSpec)

/-- ITS FALSE NEIGHBOUR: 'it returns false'. Refute it at one input. -/
def nodeStrangeWrong : ChangeSpec := { name := "nodeStrange", fn := fun _ => fun
  | [d1, d2, d3] => { results := [.lit (.bool false)], args := [d1, d2, d3] }
  | _ => none }
def NodeStrangeWrongFalsely : Prop := nodeStrangeRow.holds Tryz.pinned (OpenSpec.ofChange nodeStrangeWrong)

/-- 'kithlaw19.NodeSends': WHATEVER THE INPUT: true; the input reads as it did. -/
def nodeSendsSpec : ChangeSpec := { name := "nodeSends", fn := fun _ => fun
  | [d1, d2, d3] => { results := [.lit (.bool true)], args := [d1, d2, d3] }
  | _ => none }
def nodeSendsRow : OpenClaim := { program := "ytimhagicagdkfaagreat", sum := "20cef95d3654cb99cc58295d0170f0ef6a06328658ca294fc3e54734fce8d26b", func := "kith/kithlaw19.NodeSends", spec := "nodeSends", inPlace := ["sync/atomic.LoadUint32", "(*internal/sync.Mutex).Lock", "internal/race.Disable", "sync/atomic.CompareAndSwapInt32", "internal/race.Enable", "internal/race.Acquire", "(*internal/sync.Mutex).lockSlow", "internal/sync.runtime_canSpin", "internal/sync.runtime_doSpin", "internal/sync.throw", "internal/sync.runtime_nanotime", "internal/sync.runtime_SemacquireMutex", "sync/atomic.AddInt32", "(*internal/sync.Mutex).Unlock", "internal/race.ReleaseMerge", "(*internal/sync.Mutex).unlockSlow", "internal/sync.fatal", "internal/sync.runtime_Semrelease", "sync/atomic.StoreUint32", "sync/atomic.AddInt64"], unfollowed := true, recurses := true, plainKeys := false, apart := false }
def NodeSendsSaid : Prop := nodeSendsRow.holds Tryz.pinned (OpenSpec.ofChange nodeSendsSpec)

/-- ITS FALSE NEIGHBOUR: 'it returns false'. Refute it at one input. -/
def nodeSendsWrong : ChangeSpec := { name := "nodeSends", fn := fun _ => fun
  | [d1, d2, d3] => { results := [.lit (.bool false)], args := [d1, d2, d3] }
  | _ => none }
def NodeSendsWrongFalsely : Prop := nodeSendsRow.holds Tryz.pinned (OpenSpec.ofChange nodeSendsWrong)

/-- 'kithlaw19.NodeCuts': WHATEVER THE INPUT: true; the input reads as it did. -/
def nodeCutsSpec : ChangeSpec := { name := "nodeCuts", fn := fun _ => fun
  | [d1, d2, d3] => { results := [.lit (.bool true)], args := [d1, d2, d3] }
  | _ => none }
def nodeCutsRow : OpenClaim := { program := "ytimhagicagdkfaagreat", sum := "20cef95d3654cb99cc58295d0170f0ef6a06328658ca294fc3e54734fce8d26b", func := "kith/kithlaw19.NodeCuts", spec := "nodeCuts", inPlace := ["sync/atomic.LoadUint32", "(*internal/sync.Mutex).Lock", "internal/race.Disable", "sync/atomic.CompareAndSwapInt32", "internal/race.Enable", "internal/race.Acquire", "(*internal/sync.Mutex).lockSlow", "internal/sync.runtime_canSpin", "internal/sync.runtime_doSpin", "internal/sync.throw", "internal/sync.runtime_nanotime", "internal/sync.runtime_SemacquireMutex", "sync/atomic.AddInt32", "(*internal/sync.Mutex).Unlock", "internal/race.ReleaseMerge", "(*internal/sync.Mutex).unlockSlow", "internal/sync.fatal", "internal/sync.runtime_Semrelease", "sync/atomic.StoreUint32", "sync/atomic.AddInt64"], unfollowed := true, recurses := true, plainKeys := false, apart := false }
def NodeCutsSaid : Prop := nodeCutsRow.holds Tryz.pinned (OpenSpec.ofChange nodeCutsSpec)

/-- ITS FALSE NEIGHBOUR: 'it returns false'. Refute it at one input. -/
def nodeCutsWrong : ChangeSpec := { name := "nodeCuts", fn := fun _ => fun
  | [d1, d2, d3] => { results := [.lit (.bool false)], args := [d1, d2, d3] }
  | _ => none }
def NodeCutsWrongFalsely : Prop := nodeCutsRow.holds Tryz.pinned (OpenSpec.ofChange nodeCutsWrong)

/- THE SECOND FORM. 'bulk': how many values and letters a reading holds, each counted each time it is reached (what is shared counts as often as it is met; a slice's spare places count too). A statement '..UptoSaid' is the law's where the arguments, and the package variables that the reading takes, are together of bulk at most 1048576: NARROWER than '..Said'. Prove '..Said' where nothing that the law and all that it calls make is longer than what came in: it says more and counts as full. Else prove '..UptoSaid'. A law counts once. -/
mutual
def uptoBulk {H : Type} : DataW H → Nat
  | .lit (.string bytes) => bytes.length + 1
  | .lit _ => 1
  | .nil => 1
  | .ptr d => uptoBulk d + 1
  | .slice elems spare => uptoBulkAll elems + uptoBulkAll spare + 1
  | .agg parts => uptoBulkAll parts + 1
  | .iface _ d => uptoBulk d + 1
  | .map entries => uptoBulkEntries entries + 1
  | .held _ => 1
def uptoBulkAll {H : Type} : List (DataW H) → Nat
  | [] => 0
  | d :: r => uptoBulk d + uptoBulkAll r
def uptoBulkEntries {H : Type} : List (Lit × DataW H) → Nat
  | [] => 0
  | x :: r => uptoBulkEntry x + uptoBulkEntries r
def uptoBulkEntry {H : Type} : Lit × DataW H → Nat
  | (.string bytes, d) => bytes.length + uptoBulk d + 1
  | (_, d) => uptoBulk d + 1
 end
def uptoSmall : (H : Type) → List (DataW H) → Bool := fun _ ds => decide (uptoBulkAll ds ≤ 1048576)
def OpenSpec.upto (s : _root_.Go.ChangeSpec) : _root_.Go.OpenSpec := { _root_.Go.OpenSpec.ofChange s with cond := some uptoSmall }

/-- 'kithlaw19.NodeNew', WHERE WHAT IT READS IS OF BULK AT MOST 1048576: true; the input reads as it did. -/
def nodeNewUptoRow : OpenClaim := { program := "ytimhagicagdkfaagreat", sum := "20cef95d3654cb99cc58295d0170f0ef6a06328658ca294fc3e54734fce8d26b", func := "kith/kithlaw19.NodeNew", spec := "nodeNew", inPlace := ["sync/atomic.LoadUint32", "(*internal/sync.Mutex).Lock", "internal/race.Disable", "sync/atomic.CompareAndSwapInt32", "internal/race.Enable", "internal/race.Acquire", "(*internal/sync.Mutex).lockSlow", "internal/sync.runtime_canSpin", "internal/sync.runtime_doSpin", "internal/sync.throw", "internal/sync.runtime_nanotime", "internal/sync.runtime_SemacquireMutex", "sync/atomic.AddInt32", "(*internal/sync.Mutex).Unlock", "internal/race.ReleaseMerge", "(*internal/sync.Mutex).unlockSlow", "internal/sync.fatal", "internal/sync.runtime_Semrelease", "sync/atomic.StoreUint32", "sync/atomic.AddInt64"], unfollowed := true, recurses := true, plainKeys := false, apart := false, narrowed := true }
def NodeNewUptoSaid : Prop := nodeNewUptoRow.holds Tryz.pinned (OpenSpec.upto nodeNewSpec)

/-- 'kithlaw19.NodeEdits', WHERE WHAT IT READS IS OF BULK AT MOST 1048576: true; the input reads as it did. -/
def nodeEditsUptoRow : OpenClaim := { program := "ytimhagicagdkfaagreat", sum := "20cef95d3654cb99cc58295d0170f0ef6a06328658ca294fc3e54734fce8d26b", func := "kith/kithlaw19.NodeEdits", spec := "nodeEdits", inPlace := ["sync/atomic.LoadUint32", "(*internal/sync.Mutex).Lock", "internal/race.Disable", "sync/atomic.CompareAndSwapInt32", "internal/race.Enable", "internal/race.Acquire", "(*internal/sync.Mutex).lockSlow", "internal/sync.runtime_canSpin", "internal/sync.runtime_doSpin", "internal/sync.throw", "internal/sync.runtime_nanotime", "internal/sync.runtime_SemacquireMutex", "sync/atomic.AddInt32", "(*internal/sync.Mutex).Unlock", "internal/race.ReleaseMerge", "(*internal/sync.Mutex).unlockSlow", "internal/sync.fatal", "internal/sync.runtime_Semrelease", "sync/atomic.StoreUint32", "sync/atomic.AddInt64"], unfollowed := true, recurses := true, plainKeys := false, apart := false, narrowed := true }
def NodeEditsUptoSaid : Prop := nodeEditsUptoRow.holds Tryz.pinned (OpenSpec.upto nodeEditsSpec)

/-- 'kithlaw19.NodeStrange', WHERE WHAT IT READS IS OF BULK AT MOST 1048576: true; the input reads as it did. -/
def nodeStrangeUptoRow : OpenClaim := { program := "ytimhagicagdkfaagreat", sum := "20cef95d3654cb99cc58295d0170f0ef6a06328658ca294fc3e54734fce8d26b", func := "kith/kithlaw19.NodeStrange", spec := "nodeStrange", inPlace := ["sync/atomic.LoadUint32", "(*internal/sync.Mutex).Lock", "internal/race.Disable", "sync/atomic.CompareAndSwapInt32", "internal/race.Enable", "internal/race.Acquire", "(*internal/sync.Mutex).lockSlow", "internal/sync.runtime_canSpin", "internal/sync.runtime_doSpin", "internal/sync.throw", "internal/sync.runtime_nanotime", "internal/sync.runtime_SemacquireMutex", "sync/atomic.AddInt32", "(*internal/sync.Mutex).Unlock", "internal/race.ReleaseMerge", "(*internal/sync.Mutex).unlockSlow", "internal/sync.fatal", "internal/sync.runtime_Semrelease", "sync/atomic.StoreUint32", "sync/atomic.AddInt64"], unfollowed := true, recurses := true, plainKeys := false, apart := false, narrowed := true }
def NodeStrangeUptoSaid : Prop := nodeStrangeUptoRow.holds Tryz.pinned (OpenSpec.upto nodeStrangeSpec)

/-- 'kithlaw19.NodeSends', WHERE WHAT IT READS IS OF BULK AT MOST 1048576: true; the input reads as it did. -/
def nodeSendsUptoRow : OpenClaim := { program := "ytimhagicagdkfaagreat", sum := "20cef95d3654cb99cc58295d0170f0ef6a06328658ca294fc3e54734fce8d26b", func := "kith/kithlaw19.NodeSends", spec := "nodeSends", inPlace := ["sync/atomic.LoadUint32", "(*internal/sync.Mutex).Lock", "internal/race.Disable", "sync/atomic.CompareAndSwapInt32", "internal/race.Enable", "internal/race.Acquire", "(*internal/sync.Mutex).lockSlow", "internal/sync.runtime_canSpin", "internal/sync.runtime_doSpin", "internal/sync.throw", "internal/sync.runtime_nanotime", "internal/sync.runtime_SemacquireMutex", "sync/atomic.AddInt32", "(*internal/sync.Mutex).Unlock", "internal/race.ReleaseMerge", "(*internal/sync.Mutex).unlockSlow", "internal/sync.fatal", "internal/sync.runtime_Semrelease", "sync/atomic.StoreUint32", "sync/atomic.AddInt64"], unfollowed := true, recurses := true, plainKeys := false, apart := false, narrowed := true }
def NodeSendsUptoSaid : Prop := nodeSendsUptoRow.holds Tryz.pinned (OpenSpec.upto nodeSendsSpec)

/-- 'kithlaw19.NodeCuts', WHERE WHAT IT READS IS OF BULK AT MOST 1048576: true; the input reads as it did. -/
def nodeCutsUptoRow : OpenClaim := { program := "ytimhagicagdkfaagreat", sum := "20cef95d3654cb99cc58295d0170f0ef6a06328658ca294fc3e54734fce8d26b", func := "kith/kithlaw19.NodeCuts", spec := "nodeCuts", inPlace := ["sync/atomic.LoadUint32", "(*internal/sync.Mutex).Lock", "internal/race.Disable", "sync/atomic.CompareAndSwapInt32", "internal/race.Enable", "internal/race.Acquire", "(*internal/sync.Mutex).lockSlow", "internal/sync.runtime_canSpin", "internal/sync.runtime_doSpin", "internal/sync.throw", "internal/sync.runtime_nanotime", "internal/sync.runtime_SemacquireMutex", "sync/atomic.AddInt32", "(*internal/sync.Mutex).Unlock", "internal/race.ReleaseMerge", "(*internal/sync.Mutex).unlockSlow", "internal/sync.fatal", "internal/sync.runtime_Semrelease", "sync/atomic.StoreUint32", "sync/atomic.AddInt64"], unfollowed := true, recurses := true, plainKeys := false, apart := false, narrowed := true }
def NodeCutsUptoSaid : Prop := nodeCutsUptoRow.holds Tryz.pinned (OpenSpec.upto nodeCutsSpec)

end Rows
end Go.Proofs.YtimhagicagdkfaaGreat
