/-
  Contracts of the walk:Std.
-/
import Derived.Shelf.Small.Bits
import Derived.Shelf.Strconv.Itoa0
import Derived.Shelf.Sort.Plain
import Derived.Shelf.Slices.CompactS
import Derived.Shelf.Slices.Cells
import Derived.Shelf.Slices.In.SortNone
import Derived.Test.YtimhagicagdkfaaGreatProg
set_option maxHeartbeats 16000000
set_option maxRecDepth 100000
set_option linter.unusedVariables false
set_option linter.unusedSimpArgs false
namespace Go.Proofs.YtimhagicagdkfaaGreat
section
open Go.Shelf
def Tryz.lays190_ren:Go.Shelf.Ren:=⟨fun|190=>120|125=>147|258=>146|128=>176|129=>177|302=>167|303=>168|304=>169|305=>170|306=>171|307=>172|308=>173|309=>174|310=>175|333=>190|329=>191|330=>192|334=>193|335=>194|336=>195|344=>201|n=>n,fun|31=>73|9=>9|3=>3|46=>212|0=>0|51=>126|53=>91|4=>4|183=>235|182=>234|131=>240|5=>5|218=>251|222=>255|228=>261|229=>262|n=>n,fun|n=>n⟩
theorem Tryz.lays190:Go.Proofs.Lays.n190 Tryz.prog Tryz.lays190_ren:={
 mixed:=by kernel_rfl
 f125:=Tryz.func147.trans (congrArg some (by kernel_rfl))
 f128:=Tryz.func176.trans (congrArg some (by kernel_rfl))
 f129:=Tryz.func177.trans (congrArg some (by kernel_rfl))
 f190:=Tryz.func120.trans (congrArg some (by kernel_rfl))
 f258:=Tryz.func146.trans (congrArg some (by kernel_rfl))
 f302:=Tryz.func167.trans (congrArg some (by kernel_rfl))
 f303:=Tryz.func168.trans (congrArg some (by kernel_rfl))
 f304:=Tryz.func169.trans (congrArg some (by kernel_rfl))
 f305:=Tryz.func170.trans (congrArg some (by kernel_rfl))
 f306:=Tryz.func171.trans (congrArg some (by kernel_rfl))
 f307:=Tryz.func172.trans (congrArg some (by kernel_rfl))
 f308:=Tryz.func173.trans (congrArg some (by kernel_rfl))
 f309:=Tryz.func174.trans (congrArg some (by kernel_rfl))
 f310:=Tryz.func175.trans (congrArg some (by kernel_rfl))
 f329:=Tryz.func191.trans (congrArg some (by kernel_rfl))
 f330:=Tryz.func192.trans (congrArg some (by kernel_rfl))
 f333:=Tryz.func190.trans (congrArg some (by kernel_rfl))
 f334:=Tryz.func193.trans (congrArg some (by kernel_rfl))
 f335:=Tryz.func194.trans (congrArg some (by kernel_rfl))
 f336:=Tryz.func195.trans (congrArg some (by kernel_rfl))
 f344:=Tryz.func201.trans (congrArg some (by kernel_rfl))
 t0:=Tryz.underlying0
 a0:=Tryz.isAgg0
 z0:=Tryz.sizeOf0
 v0:=Tryz.zeroValue0
 t3:=Tryz.underlying3
 a3:=Tryz.isAgg3
 z3:=Tryz.sizeOf3
 v3:=Tryz.zeroValue3
 t4:=Tryz.underlying4
 a4:=Tryz.isAgg4
 z4:=Tryz.sizeOf4
 v4:=Tryz.zeroValue4
 t5:=Tryz.underlying5
 a5:=Tryz.isAgg5
 z5:=Tryz.sizeOf5
 v5:=Tryz.zeroValue5
 t9:=Tryz.underlying9
 a9:=Tryz.isAgg9
 z9:=Tryz.sizeOf9
 v9:=Tryz.zeroValue9
 t31:=Tryz.underlying73
 a31:=Tryz.isAgg73
 z31:=Tryz.sizeOf73
 v31:=Tryz.zeroValue73
 t46:=Tryz.underlying212
 a46:=Tryz.isAgg212
 z46:=Tryz.sizeOf212
 v46:=Tryz.zeroValue212
 t51:=Tryz.underlying126
 a51:=Tryz.isAgg126
 z51:=Tryz.sizeOf126
 v51:=Tryz.zeroValue126
 t53:=Tryz.underlying91
 a53:=Tryz.isAgg91
 z53:=Tryz.sizeOf91
 v53:=Tryz.zeroValue91
 t131:=Tryz.underlying240
 a131:=Tryz.isAgg240
 z131:=Tryz.sizeOf240
 v131:=Tryz.zeroValue240
 t182:=Tryz.underlying234
 a182:=Tryz.isAgg234
 z182:=Tryz.sizeOf234
 v182:=Tryz.zeroValue234
 t183:=Tryz.underlying235
 a183:=Tryz.isAgg235
 z183:=Tryz.sizeOf235
 v183:=Tryz.zeroValue235
 t218:=Tryz.underlying251
 a218:=Tryz.isAgg251
 z218:=Tryz.sizeOf251
 v218:=Tryz.zeroValue251
 t222:=Tryz.underlying255
 a222:=Tryz.isAgg255
 z222:=Tryz.sizeOf255
 v222:=Tryz.zeroValue255
 t228:=Tryz.underlying261
 a228:=Tryz.isAgg261
 z228:=Tryz.sizeOf261
 v228:=Tryz.zeroValue261
 t229:=Tryz.underlying262
 a229:=Tryz.isAgg262
 z229:=Tryz.sizeOf262
 v229:=Tryz.zeroValue262}
open Go.Sort Go.RowKit in
theorem Tryz.slices_Sort_string (blk off cap:Nat) (ss:List (List UInt8)) (w:World) (hH:Holds encStr w blk off ss.toArray) (hblk:blk<w.heap.size) (hsz:ss.length<4611686018427387904):
  Calls Tryz.prog 120 #[.slice (some ⟨blk,off,none⟩) ss.length cap] w fun e w'=>
   e= .returned (.tuple #[])∧ ∃n os,w'=grow (putRow encStr (Sort.ahead w n) blk off (ss.mergeSort fun x y=>decide (x≤y)).toArray) os:=Any.slices_Sort_string Tryz.lays190 blk off cap ss w hH hblk hsz
def Tryz.lays194_ren:Go.Shelf.Ren:=⟨fun|194=>124|n=>n,fun|31=>73|9=>9|3=>3|4=>4|0=>0|n=>n,fun|n=>n⟩
theorem Tryz.lays194:Go.Proofs.Lays.n194 Tryz.prog Tryz.lays194_ren:={
 mixed:=by kernel_rfl
 f194:=Tryz.func124.trans (congrArg some (by kernel_rfl))
 t0:=Tryz.underlying0
 a0:=Tryz.isAgg0
 z0:=Tryz.sizeOf0
 v0:=Tryz.zeroValue0
 t3:=Tryz.underlying3
 a3:=Tryz.isAgg3
 z3:=Tryz.sizeOf3
 v3:=Tryz.zeroValue3
 t4:=Tryz.underlying4
 a4:=Tryz.isAgg4
 z4:=Tryz.sizeOf4
 v4:=Tryz.zeroValue4
 t9:=Tryz.underlying9
 a9:=Tryz.isAgg9
 z9:=Tryz.sizeOf9
 v9:=Tryz.zeroValue9
 t31:=Tryz.underlying73
 a31:=Tryz.isAgg73
 z31:=Tryz.sizeOf73
 v31:=Tryz.zeroValue73}
open Go.RowKit Go.Lib Go.Sort in
theorem Tryz.slices_Compact_string (blk off cap:Nat) (zs:List (List UInt8)) (w:World) (hH:Holds encStr w blk off zs.toArray) (hsz:zs.length≤9223372036854775807) (hcap:zs.length≤cap):
  Calls Tryz.prog 124 #[.slice (some ⟨blk,off,none⟩) zs.length cap] w fun e w'=>e= .returned (.slice (some ⟨blk,off,none⟩) (Lib.compact zs).length cap)∧ ∃q,w'=putRow encStr (Sort.ahead w q) blk off (Lib.compact zs++List.replicate (zs.length-(Lib.compact zs).length) []).toArray:=Any.slices_Compact_string Tryz.lays194 blk off cap zs w hH hsz hcap
open Go.RowKit Go.Lib Go.Sort in
theorem Tryz.slices_Compact_string_empty (a:Option Addr) (cap:Nat) (w:World):
  Calls Tryz.prog 124 #[.slice a 0 cap] w fun e w'=>e= .returned (.slice a 0 cap)∧w'=w:=Any.slices_Compact_string_empty Tryz.lays194 a cap w
open Go.RowKit Go.Sort in
theorem Tryz.slices_Sort_string_none (p:Option Addr) (cap:Nat) (w:World):
  Calls Tryz.prog 120 #[.slice p 0 cap] w fun e w'=>e= .returned (.tuple #[])∧w'=w:=Any.slices_Sort_string_none Tryz.lays190 p cap w
end
end Go.Proofs.YtimhagicagdkfaaGreat
