/-
  Contracts of the walk:Std.
-/
import Derived.Shelf.Small.Bits
import Derived.Shelf.Strconv.Itoa0
import Derived.Shelf.Sort.Plain
import Derived.Shelf.Slices.Turned
import Derived.Shelf.Slices.CompactS
import Derived.Shelf.Slices.Cells
import Derived.Shelf.Slices.In.SortNone
import Derived.Shelf.Bytes.Small
import Derived.Test.YtkimgljckickcaaGreatProg
import Derived.Test.YtkimgljckickcaaGreatRa0
set_option maxHeartbeats 16000000
set_option maxRecDepth 100000
set_option linter.unusedVariables false
set_option linter.unusedSimpArgs false
namespace Go.Proofs.YtkimgljckickcaaGreat
open Go.Proofs.Tryz
section
open Go.Shelf
def Tryz.lays190_ren:Go.Shelf.Ren:=⟨λ|190=>59|125=>106|258=>105|128=>164|129=>165|302=>155|303=>156|304=>157|305=>158|306=>159|307=>160|308=>161|309=>162|310=>163|333=>204|329=>205|330=>206|334=>207|335=>208|336=>209|344=>232|n=>n,λ|31=>83|9=>9|3=>3|46=>193|0=>0|51=>50|53=>117|4=>4|183=>270|182=>269|131=>275|5=>5|218=>315|222=>319|228=>342|229=>343|n=>n,λ|n=>n⟩
theorem Tryz.lays190:Go.Proofs.Lays.n190 prog Tryz.lays190_ren:={
 mixed:=by kernel_rfl
 f125:=func106.trans (congrArg some (by kernel_rfl))
 f128:=func164.trans (congrArg some (by kernel_rfl))
 f129:=func165.trans (congrArg some (by kernel_rfl))
 f190:=func59.trans (congrArg some (by kernel_rfl))
 f258:=func105.trans (congrArg some (by kernel_rfl))
 f302:=func155.trans (congrArg some (by kernel_rfl))
 f303:=func156.trans (congrArg some (by kernel_rfl))
 f304:=func157.trans (congrArg some (by kernel_rfl))
 f305:=func158.trans (congrArg some (by kernel_rfl))
 f306:=func159.trans (congrArg some (by kernel_rfl))
 f307:=func160.trans (congrArg some (by kernel_rfl))
 f308:=func161.trans (congrArg some (by kernel_rfl))
 f309:=func162.trans (congrArg some (by kernel_rfl))
 f310:=func163.trans (congrArg some (by kernel_rfl))
 f329:=func205.trans (congrArg some (by kernel_rfl))
 f330:=func206.trans (congrArg some (by kernel_rfl))
 f333:=func204.trans (congrArg some (by kernel_rfl))
 f334:=func207.trans (congrArg some (by kernel_rfl))
 f335:=func208.trans (congrArg some (by kernel_rfl))
 f336:=func209.trans (congrArg some (by kernel_rfl))
 f344:=func232.trans (congrArg some (by kernel_rfl))
 t0:=Tryz.underlying0
 a0:=Tryz.isAgg0
 z0:=Tryz.sizeOf0
 v0:=Tryz.zeroValue0
 t3:=Tryz.underlying3
 a3:=Tryz.isAgg3
 z3:=Tryz.sizeOf3
 v3:=Tryz.zeroValue3
 t4:=Tryz.underlying4
 a4:=Tryz.isAgg4
 z4:=Tryz.sizeOf4
 v4:=Tryz.zeroValue4
 t5:=Tryz.underlying5
 a5:=Tryz.isAgg5
 z5:=Tryz.sizeOf5
 v5:=Tryz.zeroValue5
 t9:=Tryz.underlying9
 a9:=Tryz.isAgg9
 z9:=Tryz.sizeOf9
 v9:=Tryz.zeroValue9
 t31:=Tryz.underlying83
 a31:=Tryz.isAgg83
 z31:=Tryz.sizeOf83
 v31:=Tryz.zeroValue83
 t46:=Tryz.underlying193
 a46:=Tryz.isAgg193
 z46:=Tryz.sizeOf193
 v46:=Tryz.zeroValue193
 t51:=Tryz.underlying50
 a51:=Tryz.isAgg50
 z51:=Tryz.sizeOf50
 v51:=Tryz.zeroValue50
 t53:=Tryz.underlying117
 a53:=Tryz.isAgg117
 z53:=Tryz.sizeOf117
 v53:=Tryz.zeroValue117
 t131:=Tryz.underlying275
 a131:=Tryz.isAgg275
 z131:=Tryz.sizeOf275
 v131:=Tryz.zeroValue275
 t182:=Tryz.underlying269
 a182:=Tryz.isAgg269
 z182:=Tryz.sizeOf269
 v182:=Tryz.zeroValue269
 t183:=Tryz.underlying270
 a183:=Tryz.isAgg270
 z183:=Tryz.sizeOf270
 v183:=Tryz.zeroValue270
 t218:=Tryz.underlying315
 a218:=Tryz.isAgg315
 z218:=Tryz.sizeOf315
 v218:=Tryz.zeroValue315
 t222:=Tryz.underlying319
 a222:=Tryz.isAgg319
 z222:=Tryz.sizeOf319
 v222:=Tryz.zeroValue319
 t228:=Tryz.underlying342
 a228:=Tryz.isAgg342
 z228:=Tryz.sizeOf342
 v228:=Tryz.zeroValue342
 t229:=Tryz.underlying343
 a229:=Tryz.isAgg343
 z229:=Tryz.sizeOf343
 v229:=Tryz.zeroValue343}
open Go.Sort Go.RowKit in
theorem Tryz.slices_Sort_string(blk off cap:Nat)(ss:List (List UInt8))(w:World)(hH:Holds encStr w blk off ss.toArray)(hblk:blk<w.heap.size)(hsz:ss.length<4611686018427387904):
 Calls prog 59 #[.slice (some ⟨blk,off,none⟩) ss.length cap] w λ e w'=>
  e= .returned (.tuple #[])/\ ∃n os,w'=grow (putRow encStr (Sort.ahead w n) blk off (ss.mergeSort λ x y=>decide (x<=y)).toArray) os:=Any.slices_Sort_string Tryz.lays190 blk off cap ss w hH hblk hsz
def Tryz.lays194_ren:Go.Shelf.Ren:=⟨λ|194=>60|n=>n,λ|31=>83|9=>9|3=>3|4=>4|0=>0|n=>n,λ|n=>n⟩
theorem Tryz.lays194:Go.Proofs.Lays.n194 prog Tryz.lays194_ren:={
 mixed:=by kernel_rfl
 f194:=func60.trans (congrArg some (by kernel_rfl))
 t0:=Tryz.underlying0
 a0:=Tryz.isAgg0
 z0:=Tryz.sizeOf0
 v0:=Tryz.zeroValue0
 t3:=Tryz.underlying3
 a3:=Tryz.isAgg3
 z3:=Tryz.sizeOf3
 v3:=Tryz.zeroValue3
 t4:=Tryz.underlying4
 a4:=Tryz.isAgg4
 z4:=Tryz.sizeOf4
 v4:=Tryz.zeroValue4
 t9:=Tryz.underlying9
 a9:=Tryz.isAgg9
 z9:=Tryz.sizeOf9
 v9:=Tryz.zeroValue9
 t31:=Tryz.underlying83
 a31:=Tryz.isAgg83
 z31:=Tryz.sizeOf83
 v31:=Tryz.zeroValue83}
open Go.RowKit Go.Lib Go.Sort in
theorem Tryz.slices_Compact_string(blk off cap:Nat)(zs:List (List UInt8))(w:World)(hH:Holds encStr w blk off zs.toArray)(hsz:zs.length<=9223372036854775807)(hcap:zs.length<=cap):
 Calls prog 60 #[.slice (some ⟨blk,off,none⟩) zs.length cap] w λ e w'=>e= .returned (.slice (some ⟨blk,off,none⟩) (Lib.compact zs).length cap)/\ ∃q,w'=putRow encStr (Sort.ahead w q) blk off (Lib.compact zs++List.replicate (zs.length-(Lib.compact zs).length) []).toArray:=Any.slices_Compact_string Tryz.lays194 blk off cap zs w hH hsz hcap
open Go.RowKit Go.Lib Go.Sort in
theorem Tryz.slices_Compact_string_empty(a:Option Addr)(cap:Nat)(w:World):
 Calls prog 60 #[.slice a 0 cap] w λ e w'=>e= .returned (.slice a 0 cap)/\w'=w:=Any.slices_Compact_string_empty Tryz.lays194 a cap w
open Go.RowKit Go.Sort in
theorem Tryz.slices_Sort_string_none(p:Option Addr)(cap:Nat)(w:World):
 Calls prog 59 #[.slice p 0 cap] w λ e w'=>e= .returned (.tuple #[])/\w'=w:=Any.slices_Sort_string_none Tryz.lays190 p cap w
end
end Go.Proofs.YtkimgljckickcaaGreat
