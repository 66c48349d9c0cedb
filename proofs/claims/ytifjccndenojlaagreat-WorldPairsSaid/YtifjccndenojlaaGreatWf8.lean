/-
  Contracts of the walk:Std.
-/
import Derived.Shelf.Small.Bits
import Derived.Shelf.Strconv.Itoa0
import Derived.Shelf.Sort.Plain
import Derived.Shelf.Slices.CompactS
import Derived.Shelf.Slices.Cells
import Derived.Shelf.Slices.In.SortNone
import Derived.Test.YtifjccndenojlaaGreatProg
import Derived.Test.YtifjccndenojlaaGreatWf0
set_option maxHeartbeats 16000000
set_option maxRecDepth 100000
set_option linter.unusedVariables false
set_option linter.unusedSimpArgs false
namespace Go.Proofs.YtifjccndenojlaaGreat
open Go.Proofs.Tryz
section
open Go.Shelf
def Tryz.lays190_ren:Go.Shelf.Ren:=⟨λ|190=>121|125=>154|258=>153|128=>190|129=>191|302=>181|303=>182|304=>183|305=>184|306=>185|307=>186|308=>187|309=>188|310=>189|333=>207|329=>208|330=>209|334=>210|335=>211|336=>212|344=>222|n=>n,λ|31=>65|9=>9|3=>3|46=>257|0=>0|51=>36|53=>196|4=>4|183=>289|182=>288|131=>294|5=>5|218=>310|222=>314|228=>323|229=>324|n=>n,λ|n=>n⟩
theorem Tryz.lays190:Go.Proofs.Lays.n190 prog Tryz.lays190_ren:={
 mixed:=by kernel_rfl
 f125:=func154.trans (congrArg some (by kernel_rfl))
 f128:=func190.trans (congrArg some (by kernel_rfl))
 f129:=func191.trans (congrArg some (by kernel_rfl))
 f190:=func121.trans (congrArg some (by kernel_rfl))
 f258:=func153.trans (congrArg some (by kernel_rfl))
 f302:=func181.trans (congrArg some (by kernel_rfl))
 f303:=func182.trans (congrArg some (by kernel_rfl))
 f304:=func183.trans (congrArg some (by kernel_rfl))
 f305:=func184.trans (congrArg some (by kernel_rfl))
 f306:=func185.trans (congrArg some (by kernel_rfl))
 f307:=func186.trans (congrArg some (by kernel_rfl))
 f308:=func187.trans (congrArg some (by kernel_rfl))
 f309:=func188.trans (congrArg some (by kernel_rfl))
 f310:=func189.trans (congrArg some (by kernel_rfl))
 f329:=func208.trans (congrArg some (by kernel_rfl))
 f330:=func209.trans (congrArg some (by kernel_rfl))
 f333:=func207.trans (congrArg some (by kernel_rfl))
 f334:=func210.trans (congrArg some (by kernel_rfl))
 f335:=func211.trans (congrArg some (by kernel_rfl))
 f336:=func212.trans (congrArg some (by kernel_rfl))
 f344:=func222.trans (congrArg some (by kernel_rfl))
 t0:=Tryz.underlying0
 a0:=Tryz.isAgg0
 z0:=Tryz.sizeOf0
 v0:=Tryz.zeroValue0
 t3:=Tryz.underlying3
 a3:=Tryz.isAgg3
 z3:=Tryz.sizeOf3
 v3:=Tryz.zeroValue3
 t4:=Tryz.underlying4
 a4:=Tryz.isAgg4
 z4:=Tryz.sizeOf4
 v4:=Tryz.zeroValue4
 t5:=Tryz.underlying5
 a5:=Tryz.isAgg5
 z5:=Tryz.sizeOf5
 v5:=Tryz.zeroValue5
 t9:=Tryz.underlying9
 a9:=Tryz.isAgg9
 z9:=Tryz.sizeOf9
 v9:=Tryz.zeroValue9
 t31:=Tryz.underlying65
 a31:=Tryz.isAgg65
 z31:=Tryz.sizeOf65
 v31:=Tryz.zeroValue65
 t46:=Tryz.underlying257
 a46:=Tryz.isAgg257
 z46:=Tryz.sizeOf257
 v46:=Tryz.zeroValue257
 t51:=Tryz.underlying36
 a51:=Tryz.isAgg36
 z51:=Tryz.sizeOf36
 v51:=Tryz.zeroValue36
 t53:=Tryz.underlying196
 a53:=Tryz.isAgg196
 z53:=Tryz.sizeOf196
 v53:=Tryz.zeroValue196
 t131:=Tryz.underlying294
 a131:=Tryz.isAgg294
 z131:=Tryz.sizeOf294
 v131:=Tryz.zeroValue294
 t182:=Tryz.underlying288
 a182:=Tryz.isAgg288
 z182:=Tryz.sizeOf288
 v182:=Tryz.zeroValue288
 t183:=Tryz.underlying289
 a183:=Tryz.isAgg289
 z183:=Tryz.sizeOf289
 v183:=Tryz.zeroValue289
 t218:=Tryz.underlying310
 a218:=Tryz.isAgg310
 z218:=Tryz.sizeOf310
 v218:=Tryz.zeroValue310
 t222:=Tryz.underlying314
 a222:=Tryz.isAgg314
 z222:=Tryz.sizeOf314
 v222:=Tryz.zeroValue314
 t228:=Tryz.underlying323
 a228:=Tryz.isAgg323
 z228:=Tryz.sizeOf323
 v228:=Tryz.zeroValue323
 t229:=Tryz.underlying324
 a229:=Tryz.isAgg324
 z229:=Tryz.sizeOf324
 v229:=Tryz.zeroValue324}
open Go.Sort Go.RowKit in
theorem Tryz.slices_Sort_string(blk off cap:Nat)(ss:List (List UInt8))(w:World)(hH:Holds encStr w blk off ss.toArray)(hblk:blk<w.heap.size)(hsz:ss.length<4611686018427387904):
 Calls prog 121 #[.slice (some ⟨blk,off,none⟩) ss.length cap] w λ e w'=>
  e= .returned (.tuple #[])/\ ∃n os,w'=grow (putRow encStr (Sort.ahead w n) blk off (ss.mergeSort λ x y=>decide (x<=y)).toArray) os:=Any.slices_Sort_string Tryz.lays190 blk off cap ss w hH hblk hsz
def Tryz.lays194_ren:Go.Shelf.Ren:=⟨λ|194=>125|n=>n,λ|31=>65|9=>9|3=>3|4=>4|0=>0|n=>n,λ|n=>n⟩
theorem Tryz.lays194:Go.Proofs.Lays.n194 prog Tryz.lays194_ren:={
 mixed:=by kernel_rfl
 f194:=func125.trans (congrArg some (by kernel_rfl))
 t0:=Tryz.underlying0
 a0:=Tryz.isAgg0
 z0:=Tryz.sizeOf0
 v0:=Tryz.zeroValue0
 t3:=Tryz.underlying3
 a3:=Tryz.isAgg3
 z3:=Tryz.sizeOf3
 v3:=Tryz.zeroValue3
 t4:=Tryz.underlying4
 a4:=Tryz.isAgg4
 z4:=Tryz.sizeOf4
 v4:=Tryz.zeroValue4
 t9:=Tryz.underlying9
 a9:=Tryz.isAgg9
 z9:=Tryz.sizeOf9
 v9:=Tryz.zeroValue9
 t31:=Tryz.underlying65
 a31:=Tryz.isAgg65
 z31:=Tryz.sizeOf65
 v31:=Tryz.zeroValue65}
open Go.RowKit Go.Lib Go.Sort in
theorem Tryz.slices_Compact_string(blk off cap:Nat)(zs:List (List UInt8))(w:World)(hH:Holds encStr w blk off zs.toArray)(hsz:zs.length<=9223372036854775807)(hcap:zs.length<=cap):
 Calls prog 125 #[.slice (some ⟨blk,off,none⟩) zs.length cap] w λ e w'=>e= .returned (.slice (some ⟨blk,off,none⟩) (Lib.compact zs).length cap)/\ ∃q,w'=putRow encStr (Sort.ahead w q) blk off (Lib.compact zs++List.replicate (zs.length-(Lib.compact zs).length) []).toArray:=Any.slices_Compact_string Tryz.lays194 blk off cap zs w hH hsz hcap
open Go.RowKit Go.Lib Go.Sort in
theorem Tryz.slices_Compact_string_empty(a:Option Addr)(cap:Nat)(w:World):
 Calls prog 125 #[.slice a 0 cap] w λ e w'=>e= .returned (.slice a 0 cap)/\w'=w:=Any.slices_Compact_string_empty Tryz.lays194 a cap w
open Go.RowKit Go.Sort in
theorem Tryz.slices_Sort_string_none(p:Option Addr)(cap:Nat)(w:World):
 Calls prog 121 #[.slice p 0 cap] w λ e w'=>e= .returned (.tuple #[])/\w'=w:=Any.slices_Sort_string_none Tryz.lays190 p cap w
end
end Go.Proofs.YtifjccndenojlaaGreat
