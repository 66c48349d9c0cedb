/-
  Contracts of the walk:Iter.
-/
import Derived.Shelf.SlIter.Nil
import Derived.Shelf.SortM.Plain
import Derived.Shelf.SortM.SortNone
import Derived.Ground.GgzProg
import Derived.Ground.SlgmProg
import Derived.Test.YtifjccndenojlaaGreatProg
import Derived.Test.YtifjccndenojlaaGreatWf0
set_option maxHeartbeats 16000000
set_option maxRecDepth 100000
set_option linter.unusedVariables false
set_option linter.unusedSimpArgs false
namespace Go.Proofs.YtifjccndenojlaaGreat
open Go.Proofs.Tryz
section
open Go.RowKit Go.Maps Go.Sort Go.Shelf
def Tryz.keys83_ren:Go.Shelf.Ren:=⟨λ|7=>83|10=>122|n=>n,λ|23=>163|26=>9|3=>104|28=>161|0=>0|27=>160|33=>224|4=>4|n=>n,λ|n=>n⟩
theorem Tryz.keys83:Go.Proofs.SlLaysZ.n7 prog Tryz.keys83_ren:={
 mixed:=by kernel_rfl
 f7:=⟨"maps.Keys[map[string][]kith/api.Event,string,[]kith/api.Event]",d_,func83.trans (congrArg some (by kernel_rfl))⟩
 f10:=⟨"maps.Keys[map[string][]kith/api.Event,string,[]kith/api.Event]$1",d_,func122.trans (congrArg some (by kernel_rfl))⟩
 t0:=Tryz.underlying0
 a0:=Tryz.isAgg0
 z0:=Tryz.sizeOf0
 v0:=Tryz.zeroValue0
 t4:=Tryz.underlying4
 a4:=Tryz.isAgg4
 z4:=Tryz.sizeOf4
 v4:=Tryz.zeroValue4
 t23:=Tryz.underlying163
 a23:=Tryz.isAgg163
 z23:=Tryz.sizeOf163
 v23:=Tryz.zeroValue163
 t26:=Tryz.underlying9
 a26:=Tryz.isAgg9
 z26:=Tryz.sizeOf9
 v26:=Tryz.zeroValue9
 t27:=Tryz.underlying160
 a27:=Tryz.isAgg160
 z27:=Tryz.sizeOf160
 v27:=Tryz.zeroValue160
 t28:=Tryz.underlying161
 a28:=Tryz.isAgg161
 z28:=Tryz.sizeOf161
 v28:=Tryz.zeroValue161
 t33:=Tryz.underlying224
 a33:=Tryz.isAgg224
 z33:=Tryz.sizeOf224
 v33:=Tryz.zeroValue224}
def Tryz.sorted82_ren:Go.Shelf.Ren:=⟨λ|6=>82|8=>120|9=>121|11=>152|13=>154|12=>153|23=>190|24=>191|14=>181|15=>182|16=>183|17=>184|18=>185|19=>186|20=>187|21=>188|22=>189|25=>207|26=>208|27=>209|28=>210|29=>211|30=>212|31=>222|n=>n,λ|26=>9|28=>161|24=>65|0=>0|3=>3|37=>257|48=>36|50=>196|4=>4|40=>289|39=>288|45=>294|5=>5|9=>9|51=>310|55=>314|57=>323|58=>324|33=>224|n=>n,λ|n=>n⟩
theorem Tryz.sorted82:Go.Proofs.SlLaysZ.n6 prog Tryz.sorted82_ren:={
 mixed:=by kernel_rfl
 f6:=⟨"slices.Sorted[string]",d_,func82.trans (congrArg some (by kernel_rfl))⟩
 f8:=⟨"slices.Collect[string]",d_,func120.trans (congrArg some (by kernel_rfl))⟩
 f11:=⟨"slices.AppendSeq[[]string,string]",d_,func152.trans (congrArg some (by kernel_rfl))⟩
 t0:=Tryz.underlying0
 a0:=Tryz.isAgg0
 z0:=Tryz.sizeOf0
 v0:=Tryz.zeroValue0
 t24:=Tryz.underlying65
 a24:=Tryz.isAgg65
 z24:=Tryz.sizeOf65
 v24:=Tryz.zeroValue65
 t26:=Tryz.underlying9
 a26:=Tryz.isAgg9
 z26:=Tryz.sizeOf9
 v26:=Tryz.zeroValue9
 t28:=Tryz.underlying161
 a28:=Tryz.isAgg161
 z28:=Tryz.sizeOf161
 v28:=Tryz.zeroValue161
 i26:=by kernel_rfl}
def Tryz.sort121_ren:Go.Shelf.Ren:=⟨λ|6=>121|8=>154|9=>153|19=>190|20=>191|21=>181|22=>182|23=>183|24=>184|25=>185|26=>186|27=>187|28=>188|29=>189|36=>207|31=>208|32=>209|37=>210|38=>211|39=>212|41=>222|n=>n,λ|27=>65|29=>9|3=>3|32=>257|26=>65|0=>0|44=>36|46=>196|4=>4|36=>289|35=>288|41=>294|5=>5|9=>9|53=>310|57=>314|63=>323|64=>324|n=>n,λ|n=>n⟩
theorem Tryz.sort121:Go.Proofs.SlLaysM.n6 prog Tryz.sort121_ren:={
 mixed:=by kernel_rfl
 f6:=⟨"slices.Sort[[]string,string]",d_,func121.trans (congrArg some (by kernel_rfl))⟩
 f8:=func154.trans (congrArg some (by kernel_rfl))
 f9:=⟨"slices.pdqsortOrdered[string]",d_,func153.trans (congrArg some (by kernel_rfl))⟩
 f19:=func190.trans (congrArg some (by kernel_rfl))
 f20:=func191.trans (congrArg some (by kernel_rfl))
 f21:=⟨"slices.insertionSortOrdered[string]",d_,func181.trans (congrArg some (by kernel_rfl))⟩
 f22:=⟨"slices.heapSortOrdered[string]",d_,func182.trans (congrArg some (by kernel_rfl))⟩
 f23:=⟨"slices.breakPatternsOrdered[string]",d_,func183.trans (congrArg some (by kernel_rfl))⟩
 f24:=⟨"slices.choosePivotOrdered[string]",d_,func184.trans (congrArg some (by kernel_rfl))⟩
 f25:=⟨"slices.reverseRangeOrdered[string]",d_,func185.trans (congrArg some (by kernel_rfl))⟩
 f26:=⟨"slices.partialInsertionSortOrdered[string]",d_,func186.trans (congrArg some (by kernel_rfl))⟩
 f27:=⟨"cmp.Less[string]",d_,func187.trans (congrArg some (by kernel_rfl))⟩
 f28:=⟨"slices.partitionEqualOrdered[string]",d_,func188.trans (congrArg some (by kernel_rfl))⟩
 f29:=⟨"slices.partitionOrdered[string]",d_,func189.trans (congrArg some (by kernel_rfl))⟩
 f31:=func208.trans (congrArg some (by kernel_rfl))
 f32:=func209.trans (congrArg some (by kernel_rfl))
 f36:=⟨"slices.siftDownOrdered[string]",d_,func207.trans (congrArg some (by kernel_rfl))⟩
 f37:=⟨"slices.medianAdjacentOrdered[string]",d_,func210.trans (congrArg some (by kernel_rfl))⟩
 f38:=⟨"slices.medianOrdered[string]",d_,func211.trans (congrArg some (by kernel_rfl))⟩
 f39:=⟨"cmp.isNaN[string]",d_,func212.trans (congrArg some (by kernel_rfl))⟩
 f41:=⟨"slices.order2Ordered[string]",d_,func222.trans (congrArg some (by kernel_rfl))⟩
 t0:=Tryz.underlying0
 a0:=Tryz.isAgg0
 z0:=Tryz.sizeOf0
 v0:=Tryz.zeroValue0
 t3:=Tryz.underlying3
 a3:=Tryz.isAgg3
 z3:=Tryz.sizeOf3
 v3:=Tryz.zeroValue3
 t4:=Tryz.underlying4
 a4:=Tryz.isAgg4
 z4:=Tryz.sizeOf4
 v4:=Tryz.zeroValue4
 t5:=Tryz.underlying5
 a5:=Tryz.isAgg5
 z5:=Tryz.sizeOf5
 v5:=Tryz.zeroValue5
 t9:=Tryz.underlying9
 a9:=Tryz.isAgg9
 z9:=Tryz.sizeOf9
 v9:=Tryz.zeroValue9
 t26:=Tryz.underlying65
 a26:=Tryz.isAgg65
 z26:=Tryz.sizeOf65
 v26:=Tryz.zeroValue65
 t27:=Tryz.underlying65
 a27:=Tryz.isAgg65
 z27:=Tryz.sizeOf65
 v27:=Tryz.zeroValue65
 t29:=Tryz.underlying9
 a29:=Tryz.isAgg9
 z29:=Tryz.sizeOf9
 v29:=Tryz.zeroValue9
 t32:=Tryz.underlying257
 a32:=Tryz.isAgg257
 z32:=Tryz.sizeOf257
 v32:=Tryz.zeroValue257
 t35:=Tryz.underlying288
 a35:=Tryz.isAgg288
 z35:=Tryz.sizeOf288
 v35:=Tryz.zeroValue288
 t36:=Tryz.underlying289
 a36:=Tryz.isAgg289
 z36:=Tryz.sizeOf289
 v36:=Tryz.zeroValue289
 t41:=Tryz.underlying294
 a41:=Tryz.isAgg294
 z41:=Tryz.sizeOf294
 v41:=Tryz.zeroValue294
 t44:=Tryz.underlying36
 a44:=Tryz.isAgg36
 z44:=Tryz.sizeOf36
 v44:=Tryz.zeroValue36
 t46:=Tryz.underlying196
 a46:=Tryz.isAgg196
 z46:=Tryz.sizeOf196
 v46:=Tryz.zeroValue196
 t53:=Tryz.underlying310
 a53:=Tryz.isAgg310
 z53:=Tryz.sizeOf310
 v53:=Tryz.zeroValue310
 t57:=Tryz.underlying314
 a57:=Tryz.isAgg314
 z57:=Tryz.sizeOf314
 v57:=Tryz.zeroValue314
 t63:=Tryz.underlying323
 a63:=Tryz.isAgg323
 z63:=Tryz.sizeOf323
 v63:=Tryz.zeroValue323
 t64:=Tryz.underlying324
 a64:=Tryz.isAgg324
 z64:=Tryz.sizeOf324
 v64:=Tryz.zeroValue324}
theorem Tryz.sorts82(m:Nat):AnyZ.SortsIn prog Tryz.sorted82_ren Fence.wide m:=
 ⟨λ blk off cap ss W hH hblk hsz=>callsIn_wide.2 (AnyM.slices_Sort_string Tryz.sort121 blk off cap ss W hH hblk hsz),
  λ p cap W=>callsIn_wide.2 (AnyM.slices_Sort_string_none Tryz.sort121 p cap W)⟩
end
end Go.Proofs.YtifjccndenojlaaGreat
