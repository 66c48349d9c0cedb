/-
  Contracts of the walk:Iter.
-/
import Derived.Shelf.SlIter.Nil
import Derived.Shelf.SortM.Plain
import Derived.Shelf.SortM.SortNone
import Derived.Ground.GgzProg
import Derived.Ground.SlgmProg
import Derived.Test.YtimhagicagdkfaaGreatProg
set_option maxHeartbeats 16000000
set_option maxRecDepth 100000
set_option linter.unusedVariables false
set_option linter.unusedSimpArgs false
namespace Go.Proofs.YtimhagicagdkfaaGreat
section
open Go.RowKit Go.Maps Go.Sort Go.Shelf
def Tryz.keys90_ren:Go.Shelf.Ren:=⟨fun|7=>90|10=>121|n=>n,fun|23=>155|26=>9|3=>39|28=>153|0=>0|27=>152|33=>192|4=>4|n=>n,fun|n=>n⟩
theorem Tryz.keys90:Go.Proofs.SlLaysZ.n7 Tryz.prog Tryz.keys90_ren:={
 mixed:=by kernel_rfl
 f7:=⟨"maps.Keys[map[string][]kith/api.Event,string,[]kith/api.Event]",by decide,Tryz.func90.trans (congrArg some (by kernel_rfl))⟩
 f10:=⟨"maps.Keys[map[string][]kith/api.Event,string,[]kith/api.Event]$1",by decide,Tryz.func121.trans (congrArg some (by kernel_rfl))⟩
 t0:=Tryz.underlying0
 a0:=Tryz.isAgg0
 z0:=Tryz.sizeOf0
 v0:=Tryz.zeroValue0
 t4:=Tryz.underlying4
 a4:=Tryz.isAgg4
 z4:=Tryz.sizeOf4
 v4:=Tryz.zeroValue4
 t23:=Tryz.underlying155
 a23:=Tryz.isAgg155
 z23:=Tryz.sizeOf155
 v23:=Tryz.zeroValue155
 t26:=Tryz.underlying9
 a26:=Tryz.isAgg9
 z26:=Tryz.sizeOf9
 v26:=Tryz.zeroValue9
 t27:=Tryz.underlying152
 a27:=Tryz.isAgg152
 z27:=Tryz.sizeOf152
 v27:=Tryz.zeroValue152
 t28:=Tryz.underlying153
 a28:=Tryz.isAgg153
 z28:=Tryz.sizeOf153
 v28:=Tryz.zeroValue153
 t33:=Tryz.underlying192
 a33:=Tryz.isAgg192
 z33:=Tryz.sizeOf192
 v33:=Tryz.zeroValue192}
def Tryz.sorted89_ren:Go.Shelf.Ren:=⟨fun|6=>89|8=>119|9=>120|11=>145|13=>147|12=>146|23=>176|24=>177|14=>167|15=>168|16=>169|17=>170|18=>171|19=>172|20=>173|21=>174|22=>175|25=>190|26=>191|27=>192|28=>193|29=>194|30=>195|31=>201|n=>n,fun|26=>9|28=>153|24=>73|0=>0|3=>3|37=>212|48=>126|50=>91|4=>4|40=>235|39=>234|45=>240|5=>5|9=>9|51=>251|55=>255|57=>261|58=>262|33=>192|n=>n,fun|n=>n⟩
theorem Tryz.sorted89:Go.Proofs.SlLaysZ.n6 Tryz.prog Tryz.sorted89_ren:={
 mixed:=by kernel_rfl
 f6:=⟨"slices.Sorted[string]",by decide,Tryz.func89.trans (congrArg some (by kernel_rfl))⟩
 f8:=⟨"slices.Collect[string]",by decide,Tryz.func119.trans (congrArg some (by kernel_rfl))⟩
 f11:=⟨"slices.AppendSeq[[]string,string]",by decide,Tryz.func145.trans (congrArg some (by kernel_rfl))⟩
 t0:=Tryz.underlying0
 a0:=Tryz.isAgg0
 z0:=Tryz.sizeOf0
 v0:=Tryz.zeroValue0
 t24:=Tryz.underlying73
 a24:=Tryz.isAgg73
 z24:=Tryz.sizeOf73
 v24:=Tryz.zeroValue73
 t26:=Tryz.underlying9
 a26:=Tryz.isAgg9
 z26:=Tryz.sizeOf9
 v26:=Tryz.zeroValue9
 t28:=Tryz.underlying153
 a28:=Tryz.isAgg153
 z28:=Tryz.sizeOf153
 v28:=Tryz.zeroValue153
 i26:=by kernel_rfl}
def Tryz.sort120_ren:Go.Shelf.Ren:=⟨fun|6=>120|8=>147|9=>146|19=>176|20=>177|21=>167|22=>168|23=>169|24=>170|25=>171|26=>172|27=>173|28=>174|29=>175|36=>190|31=>191|32=>192|37=>193|38=>194|39=>195|41=>201|n=>n,fun|27=>73|29=>9|3=>3|32=>212|26=>73|0=>0|44=>126|46=>91|4=>4|36=>235|35=>234|41=>240|5=>5|9=>9|53=>251|57=>255|63=>261|64=>262|n=>n,fun|n=>n⟩
theorem Tryz.sort120:Go.Proofs.SlLaysM.n6 Tryz.prog Tryz.sort120_ren:={
 mixed:=by kernel_rfl
 f6:=⟨"slices.Sort[[]string,string]",by decide,Tryz.func120.trans (congrArg some (by kernel_rfl))⟩
 f8:=Tryz.func147.trans (congrArg some (by kernel_rfl))
 f9:=⟨"slices.pdqsortOrdered[string]",by decide,Tryz.func146.trans (congrArg some (by kernel_rfl))⟩
 f19:=Tryz.func176.trans (congrArg some (by kernel_rfl))
 f20:=Tryz.func177.trans (congrArg some (by kernel_rfl))
 f21:=⟨"slices.insertionSortOrdered[string]",by decide,Tryz.func167.trans (congrArg some (by kernel_rfl))⟩
 f22:=⟨"slices.heapSortOrdered[string]",by decide,Tryz.func168.trans (congrArg some (by kernel_rfl))⟩
 f23:=⟨"slices.breakPatternsOrdered[string]",by decide,Tryz.func169.trans (congrArg some (by kernel_rfl))⟩
 f24:=⟨"slices.choosePivotOrdered[string]",by decide,Tryz.func170.trans (congrArg some (by kernel_rfl))⟩
 f25:=⟨"slices.reverseRangeOrdered[string]",by decide,Tryz.func171.trans (congrArg some (by kernel_rfl))⟩
 f26:=⟨"slices.partialInsertionSortOrdered[string]",by decide,Tryz.func172.trans (congrArg some (by kernel_rfl))⟩
 f27:=⟨"cmp.Less[string]",by decide,Tryz.func173.trans (congrArg some (by kernel_rfl))⟩
 f28:=⟨"slices.partitionEqualOrdered[string]",by decide,Tryz.func174.trans (congrArg some (by kernel_rfl))⟩
 f29:=⟨"slices.partitionOrdered[string]",by decide,Tryz.func175.trans (congrArg some (by kernel_rfl))⟩
 f31:=Tryz.func191.trans (congrArg some (by kernel_rfl))
 f32:=Tryz.func192.trans (congrArg some (by kernel_rfl))
 f36:=⟨"slices.siftDownOrdered[string]",by decide,Tryz.func190.trans (congrArg some (by kernel_rfl))⟩
 f37:=⟨"slices.medianAdjacentOrdered[string]",by decide,Tryz.func193.trans (congrArg some (by kernel_rfl))⟩
 f38:=⟨"slices.medianOrdered[string]",by decide,Tryz.func194.trans (congrArg some (by kernel_rfl))⟩
 f39:=⟨"cmp.isNaN[string]",by decide,Tryz.func195.trans (congrArg some (by kernel_rfl))⟩
 f41:=⟨"slices.order2Ordered[string]",by decide,Tryz.func201.trans (congrArg some (by kernel_rfl))⟩
 t0:=Tryz.underlying0
 a0:=Tryz.isAgg0
 z0:=Tryz.sizeOf0
 v0:=Tryz.zeroValue0
 t3:=Tryz.underlying3
 a3:=Tryz.isAgg3
 z3:=Tryz.sizeOf3
 v3:=Tryz.zeroValue3
 t4:=Tryz.underlying4
 a4:=Tryz.isAgg4
 z4:=Tryz.sizeOf4
 v4:=Tryz.zeroValue4
 t5:=Tryz.underlying5
 a5:=Tryz.isAgg5
 z5:=Tryz.sizeOf5
 v5:=Tryz.zeroValue5
 t9:=Tryz.underlying9
 a9:=Tryz.isAgg9
 z9:=Tryz.sizeOf9
 v9:=Tryz.zeroValue9
 t26:=Tryz.underlying73
 a26:=Tryz.isAgg73
 z26:=Tryz.sizeOf73
 v26:=Tryz.zeroValue73
 t27:=Tryz.underlying73
 a27:=Tryz.isAgg73
 z27:=Tryz.sizeOf73
 v27:=Tryz.zeroValue73
 t29:=Tryz.underlying9
 a29:=Tryz.isAgg9
 z29:=Tryz.sizeOf9
 v29:=Tryz.zeroValue9
 t32:=Tryz.underlying212
 a32:=Tryz.isAgg212
 z32:=Tryz.sizeOf212
 v32:=Tryz.zeroValue212
 t35:=Tryz.underlying234
 a35:=Tryz.isAgg234
 z35:=Tryz.sizeOf234
 v35:=Tryz.zeroValue234
 t36:=Tryz.underlying235
 a36:=Tryz.isAgg235
 z36:=Tryz.sizeOf235
 v36:=Tryz.zeroValue235
 t41:=Tryz.underlying240
 a41:=Tryz.isAgg240
 z41:=Tryz.sizeOf240
 v41:=Tryz.zeroValue240
 t44:=Tryz.underlying126
 a44:=Tryz.isAgg126
 z44:=Tryz.sizeOf126
 v44:=Tryz.zeroValue126
 t46:=Tryz.underlying91
 a46:=Tryz.isAgg91
 z46:=Tryz.sizeOf91
 v46:=Tryz.zeroValue91
 t53:=Tryz.underlying251
 a53:=Tryz.isAgg251
 z53:=Tryz.sizeOf251
 v53:=Tryz.zeroValue251
 t57:=Tryz.underlying255
 a57:=Tryz.isAgg255
 z57:=Tryz.sizeOf255
 v57:=Tryz.zeroValue255
 t63:=Tryz.underlying261
 a63:=Tryz.isAgg261
 z63:=Tryz.sizeOf261
 v63:=Tryz.zeroValue261
 t64:=Tryz.underlying262
 a64:=Tryz.isAgg262
 z64:=Tryz.sizeOf262
 v64:=Tryz.zeroValue262}
theorem Tryz.sorts89 (m:Nat):AnyZ.SortsIn Tryz.prog Tryz.sorted89_ren Fence.wide m:=
 ⟨fun blk off cap ss W hH hblk hsz=>callsIn_wide.2 (AnyM.slices_Sort_string Tryz.sort120 blk off cap ss W hH hblk hsz),
  fun p cap W=>callsIn_wide.2 (AnyM.slices_Sort_string_none Tryz.sort120 p cap W)⟩
end
end Go.Proofs.YtimhagicagdkfaaGreat
