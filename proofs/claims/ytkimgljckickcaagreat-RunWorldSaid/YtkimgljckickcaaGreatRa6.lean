/-
  Contracts of the walk:Iter.
-/
import Derived.Shelf.SlIter.Nil
import Derived.Shelf.SortM.Plain
import Derived.Shelf.SortM.SortNone
import Derived.Ground.GgzProg
import Derived.Ground.SlgmProg
import Derived.Test.YtkimgljckickcaaGreatProg
import Derived.Test.YtkimgljckickcaaGreatRa0
set_option maxHeartbeats 16000000
set_option maxRecDepth 100000
set_option linter.unusedVariables false
set_option linter.unusedSimpArgs false
namespace Go.Proofs.YtkimgljckickcaaGreat
open Go.Proofs.Tryz
section
open Go.RowKit Go.Maps Go.Sort Go.Shelf
def Tryz.keys129_ren:Go.Shelf.Ren:=⟨λ|7=>129|10=>182|n=>n,λ|23=>221|26=>9|3=>75|28=>219|0=>0|27=>218|33=>292|4=>4|n=>n,λ|n=>n⟩
theorem Tryz.keys129:Go.Proofs.SlLaysZ.n7 prog Tryz.keys129_ren:={
 mixed:=by kernel_rfl
 f7:=⟨"maps.Keys[map[string][]kith/api.Event,string,[]kith/api.Event]",d_,func129.trans (congrArg some (by kernel_rfl))⟩
 f10:=⟨"maps.Keys[map[string][]kith/api.Event,string,[]kith/api.Event]$1",d_,func182.trans (congrArg some (by kernel_rfl))⟩
 t0:=Tryz.underlying0
 a0:=Tryz.isAgg0
 z0:=Tryz.sizeOf0
 v0:=Tryz.zeroValue0
 t4:=Tryz.underlying4
 a4:=Tryz.isAgg4
 z4:=Tryz.sizeOf4
 v4:=Tryz.zeroValue4
 t23:=Tryz.underlying221
 a23:=Tryz.isAgg221
 z23:=Tryz.sizeOf221
 v23:=Tryz.zeroValue221
 t26:=Tryz.underlying9
 a26:=Tryz.isAgg9
 z26:=Tryz.sizeOf9
 v26:=Tryz.zeroValue9
 t27:=Tryz.underlying218
 a27:=Tryz.isAgg218
 z27:=Tryz.sizeOf218
 v27:=Tryz.zeroValue218
 t28:=Tryz.underlying219
 a28:=Tryz.isAgg219
 z28:=Tryz.sizeOf219
 v28:=Tryz.zeroValue219
 t33:=Tryz.underlying292
 a33:=Tryz.isAgg292
 z33:=Tryz.sizeOf292
 v33:=Tryz.zeroValue292}
def Tryz.sorted128_ren:Go.Shelf.Ren:=⟨λ|6=>128|8=>181|9=>59|11=>213|13=>106|12=>105|23=>164|24=>165|14=>155|15=>156|16=>157|17=>158|18=>159|19=>160|20=>161|21=>162|22=>163|25=>204|26=>205|27=>206|28=>207|29=>208|30=>209|31=>232|n=>n,λ|26=>9|28=>219|24=>83|0=>0|3=>3|37=>193|48=>50|50=>117|4=>4|40=>270|39=>269|45=>275|5=>5|9=>9|51=>315|55=>319|57=>342|58=>343|33=>292|n=>n,λ|n=>n⟩
theorem Tryz.sorted128:Go.Proofs.SlLaysZ.n6 prog Tryz.sorted128_ren:={
 mixed:=by kernel_rfl
 f6:=⟨"slices.Sorted[string]",d_,func128.trans (congrArg some (by kernel_rfl))⟩
 f8:=⟨"slices.Collect[string]",d_,func181.trans (congrArg some (by kernel_rfl))⟩
 f11:=⟨"slices.AppendSeq[[]string,string]",d_,func213.trans (congrArg some (by kernel_rfl))⟩
 t0:=Tryz.underlying0
 a0:=Tryz.isAgg0
 z0:=Tryz.sizeOf0
 v0:=Tryz.zeroValue0
 t24:=Tryz.underlying83
 a24:=Tryz.isAgg83
 z24:=Tryz.sizeOf83
 v24:=Tryz.zeroValue83
 t26:=Tryz.underlying9
 a26:=Tryz.isAgg9
 z26:=Tryz.sizeOf9
 v26:=Tryz.zeroValue9
 t28:=Tryz.underlying219
 a28:=Tryz.isAgg219
 z28:=Tryz.sizeOf219
 v28:=Tryz.zeroValue219
 i26:=by kernel_rfl}
def Tryz.sort59_ren:Go.Shelf.Ren:=⟨λ|6=>59|8=>106|9=>105|19=>164|20=>165|21=>155|22=>156|23=>157|24=>158|25=>159|26=>160|27=>161|28=>162|29=>163|36=>204|31=>205|32=>206|37=>207|38=>208|39=>209|41=>232|n=>n,λ|27=>83|29=>9|3=>3|32=>193|26=>83|0=>0|44=>50|46=>117|4=>4|36=>270|35=>269|41=>275|5=>5|9=>9|53=>315|57=>319|63=>342|64=>343|n=>n,λ|n=>n⟩
theorem Tryz.sort59:Go.Proofs.SlLaysM.n6 prog Tryz.sort59_ren:={
 mixed:=by kernel_rfl
 f6:=⟨"slices.Sort[[]string,string]",d_,func59.trans (congrArg some (by kernel_rfl))⟩
 f8:=func106.trans (congrArg some (by kernel_rfl))
 f9:=⟨"slices.pdqsortOrdered[string]",d_,func105.trans (congrArg some (by kernel_rfl))⟩
 f19:=func164.trans (congrArg some (by kernel_rfl))
 f20:=func165.trans (congrArg some (by kernel_rfl))
 f21:=⟨"slices.insertionSortOrdered[string]",d_,func155.trans (congrArg some (by kernel_rfl))⟩
 f22:=⟨"slices.heapSortOrdered[string]",d_,func156.trans (congrArg some (by kernel_rfl))⟩
 f23:=⟨"slices.breakPatternsOrdered[string]",d_,func157.trans (congrArg some (by kernel_rfl))⟩
 f24:=⟨"slices.choosePivotOrdered[string]",d_,func158.trans (congrArg some (by kernel_rfl))⟩
 f25:=⟨"slices.reverseRangeOrdered[string]",d_,func159.trans (congrArg some (by kernel_rfl))⟩
 f26:=⟨"slices.partialInsertionSortOrdered[string]",d_,func160.trans (congrArg some (by kernel_rfl))⟩
 f27:=⟨"cmp.Less[string]",d_,func161.trans (congrArg some (by kernel_rfl))⟩
 f28:=⟨"slices.partitionEqualOrdered[string]",d_,func162.trans (congrArg some (by kernel_rfl))⟩
 f29:=⟨"slices.partitionOrdered[string]",d_,func163.trans (congrArg some (by kernel_rfl))⟩
 f31:=func205.trans (congrArg some (by kernel_rfl))
 f32:=func206.trans (congrArg some (by kernel_rfl))
 f36:=⟨"slices.siftDownOrdered[string]",d_,func204.trans (congrArg some (by kernel_rfl))⟩
 f37:=⟨"slices.medianAdjacentOrdered[string]",d_,func207.trans (congrArg some (by kernel_rfl))⟩
 f38:=⟨"slices.medianOrdered[string]",d_,func208.trans (congrArg some (by kernel_rfl))⟩
 f39:=⟨"cmp.isNaN[string]",d_,func209.trans (congrArg some (by kernel_rfl))⟩
 f41:=⟨"slices.order2Ordered[string]",d_,func232.trans (congrArg some (by kernel_rfl))⟩
 t0:=Tryz.underlying0
 a0:=Tryz.isAgg0
 z0:=Tryz.sizeOf0
 v0:=Tryz.zeroValue0
 t3:=Tryz.underlying3
 a3:=Tryz.isAgg3
 z3:=Tryz.sizeOf3
 v3:=Tryz.zeroValue3
 t4:=Tryz.underlying4
 a4:=Tryz.isAgg4
 z4:=Tryz.sizeOf4
 v4:=Tryz.zeroValue4
 t5:=Tryz.underlying5
 a5:=Tryz.isAgg5
 z5:=Tryz.sizeOf5
 v5:=Tryz.zeroValue5
 t9:=Tryz.underlying9
 a9:=Tryz.isAgg9
 z9:=Tryz.sizeOf9
 v9:=Tryz.zeroValue9
 t26:=Tryz.underlying83
 a26:=Tryz.isAgg83
 z26:=Tryz.sizeOf83
 v26:=Tryz.zeroValue83
 t27:=Tryz.underlying83
 a27:=Tryz.isAgg83
 z27:=Tryz.sizeOf83
 v27:=Tryz.zeroValue83
 t29:=Tryz.underlying9
 a29:=Tryz.isAgg9
 z29:=Tryz.sizeOf9
 v29:=Tryz.zeroValue9
 t32:=Tryz.underlying193
 a32:=Tryz.isAgg193
 z32:=Tryz.sizeOf193
 v32:=Tryz.zeroValue193
 t35:=Tryz.underlying269
 a35:=Tryz.isAgg269
 z35:=Tryz.sizeOf269
 v35:=Tryz.zeroValue269
 t36:=Tryz.underlying270
 a36:=Tryz.isAgg270
 z36:=Tryz.sizeOf270
 v36:=Tryz.zeroValue270
 t41:=Tryz.underlying275
 a41:=Tryz.isAgg275
 z41:=Tryz.sizeOf275
 v41:=Tryz.zeroValue275
 t44:=Tryz.underlying50
 a44:=Tryz.isAgg50
 z44:=Tryz.sizeOf50
 v44:=Tryz.zeroValue50
 t46:=Tryz.underlying117
 a46:=Tryz.isAgg117
 z46:=Tryz.sizeOf117
 v46:=Tryz.zeroValue117
 t53:=Tryz.underlying315
 a53:=Tryz.isAgg315
 z53:=Tryz.sizeOf315
 v53:=Tryz.zeroValue315
 t57:=Tryz.underlying319
 a57:=Tryz.isAgg319
 z57:=Tryz.sizeOf319
 v57:=Tryz.zeroValue319
 t63:=Tryz.underlying342
 a63:=Tryz.isAgg342
 z63:=Tryz.sizeOf342
 v63:=Tryz.zeroValue342
 t64:=Tryz.underlying343
 a64:=Tryz.isAgg343
 z64:=Tryz.sizeOf343
 v64:=Tryz.zeroValue343}
theorem Tryz.sorts128(m:Nat):AnyZ.SortsIn prog Tryz.sorted128_ren Fence.wide m:=
 ⟨λ blk off cap ss W hH hblk hsz=>callsIn_wide.2 (AnyM.slices_Sort_string Tryz.sort59 blk off cap ss W hH hblk hsz),
  λ p cap W=>callsIn_wide.2 (AnyM.slices_Sort_string_none Tryz.sort59 p cap W)⟩
end
end Go.Proofs.YtkimgljckickcaaGreat
