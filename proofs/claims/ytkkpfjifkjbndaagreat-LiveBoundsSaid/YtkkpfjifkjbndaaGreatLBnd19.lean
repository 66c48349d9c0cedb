/-
  Contracts of the walk: Iter.
-/
import Derived.Shelf.SlIter.Nil
import Derived.Shelf.SortM.Plain
import Derived.Shelf.SortM.SortNone
import Derived.Ground.GgzProg
import Derived.Ground.SlgmProg
import Derived.Test.YtkkpfjifkjbndaaGreatProg
/-
 slices.Sorted(maps.Keys(m)) at this program: the shelf's contracts laid,in plain words.
-/
namespace Go.Proofs.YtkkpfjifkjbndaaGreat
open Go.RowKit Go.Maps Go.Sort Go.Shelf
def Tryz.keys36_ren : Go.Shelf.Ren := ⟨fun | 7 => 36 | 10 => 65 | n => n,fun | 23 => 81 | 26 => 9 | 3 => 25 | 28 => 93 | 0 => 0 | 27 => 92 | 33 => 121 | 4 => 4 | n => n,fun | n => n⟩
theorem Tryz.keys36 : Go.Proofs.SlLaysZ.n7 Tryz.prog Tryz.keys36_ren := {
 mixed := by kernel_rfl
 f7 := ⟨"maps.Keys[map[string][]kith/api.Event,string,[]kith/api.Event]",by decide,Tryz.func36.trans (congrArg some (by kernel_rfl))⟩
 f10 := ⟨"maps.Keys[map[string][]kith/api.Event,string,[]kith/api.Event]$1",by decide,Tryz.func65.trans (congrArg some (by kernel_rfl))⟩
 t0 := Tryz.underlying0
 a0 := Tryz.isAgg0
 z0 := Tryz.sizeOf0
 v0 := Tryz.zeroValue0
 t4 := Tryz.underlying4
 a4 := Tryz.isAgg4
 z4 := Tryz.sizeOf4
 v4 := Tryz.zeroValue4
 t23 := Tryz.underlying81
 a23 := Tryz.isAgg81
 z23 := Tryz.sizeOf81
 v23 := Tryz.zeroValue81
 t26 := Tryz.underlying9
 a26 := Tryz.isAgg9
 z26 := Tryz.sizeOf9
 v26 := Tryz.zeroValue9
 t27 := Tryz.underlying92
 a27 := Tryz.isAgg92
 z27 := Tryz.sizeOf92
 v27 := Tryz.zeroValue92
 t28 := Tryz.underlying93
 a28 := Tryz.isAgg93
 z28 := Tryz.sizeOf93
 v28 := Tryz.zeroValue93
 t33 := Tryz.underlying121
 a33 := Tryz.isAgg121
 z33 := Tryz.sizeOf121
 v33 := Tryz.zeroValue121 }
def Tryz.sorted35_ren : Go.Shelf.Ren := ⟨fun | 6 => 35 | 8 => 63 | 9 => 64 | 11 => 85 | 13 => 87 | 12 => 86 | 23 => 107 | 24 => 108 | 14 => 98 | 15 => 99 | 16 => 100 | 17 => 101 | 18 => 102 | 19 => 103 | 20 => 104 | 21 => 105 | 22 => 106 | 25 => 121 | 26 => 122 | 27 => 123 | 28 => 124 | 29 => 125 | 30 => 126 | 31 => 134 | n => n,fun | 26 => 9 | 28 => 93 | 24 => 40 | 0 => 0 | 3 => 3 | 37 => 137 | 48 => 72 | 50 => 104 | 4 => 4 | 40 => 146 | 39 => 145 | 45 => 151 | 5 => 5 | 9 => 9 | 51 => 162 | 55 => 166 | 57 => 170 | 58 => 171 | 33 => 121 | n => n,fun | n => n⟩
theorem Tryz.sorted35 : Go.Proofs.SlLaysZ.n6 Tryz.prog Tryz.sorted35_ren := {
 mixed := by kernel_rfl
 f6 := ⟨"slices.Sorted[string]",by decide,Tryz.func35.trans (congrArg some (by kernel_rfl))⟩
 f8 := ⟨"slices.Collect[string]",by decide,Tryz.func63.trans (congrArg some (by kernel_rfl))⟩
 f11 := ⟨"slices.AppendSeq[[]string,string]",by decide,Tryz.func85.trans (congrArg some (by kernel_rfl))⟩
 t0 := Tryz.underlying0
 a0 := Tryz.isAgg0
 z0 := Tryz.sizeOf0
 v0 := Tryz.zeroValue0
 t24 := Tryz.underlying40
 a24 := Tryz.isAgg40
 z24 := Tryz.sizeOf40
 v24 := Tryz.zeroValue40
 t26 := Tryz.underlying9
 a26 := Tryz.isAgg9
 z26 := Tryz.sizeOf9
 v26 := Tryz.zeroValue9
 t28 := Tryz.underlying93
 a28 := Tryz.isAgg93
 z28 := Tryz.sizeOf93
 v28 := Tryz.zeroValue93
 i26 := by kernel_rfl }
def Tryz.sort64_ren : Go.Shelf.Ren := ⟨fun | 6 => 64 | 8 => 87 | 9 => 86 | 19 => 107 | 20 => 108 | 21 => 98 | 22 => 99 | 23 => 100 | 24 => 101 | 25 => 102 | 26 => 103 | 27 => 104 | 28 => 105 | 29 => 106 | 36 => 121 | 31 => 122 | 32 => 123 | 37 => 124 | 38 => 125 | 39 => 126 | 41 => 134 | n => n,fun | 27 => 40 | 29 => 9 | 3 => 3 | 32 => 137 | 26 => 40 | 0 => 0 | 44 => 72 | 46 => 104 | 4 => 4 | 36 => 146 | 35 => 145 | 41 => 151 | 5 => 5 | 9 => 9 | 53 => 162 | 57 => 166 | 63 => 170 | 64 => 171 | n => n,fun | n => n⟩
theorem Tryz.sort64 : Go.Proofs.SlLaysM.n6 Tryz.prog Tryz.sort64_ren := {
 mixed := by kernel_rfl
 f6 := ⟨"slices.Sort[[]string,string]",by decide,Tryz.func64.trans (congrArg some (by kernel_rfl))⟩
 f8 := Tryz.func87.trans (congrArg some (by kernel_rfl))
 f9 := ⟨"slices.pdqsortOrdered[string]",by decide,Tryz.func86.trans (congrArg some (by kernel_rfl))⟩
 f19 := Tryz.func107.trans (congrArg some (by kernel_rfl))
 f20 := Tryz.func108.trans (congrArg some (by kernel_rfl))
 f21 := ⟨"slices.insertionSortOrdered[string]",by decide,Tryz.func98.trans (congrArg some (by kernel_rfl))⟩
 f22 := ⟨"slices.heapSortOrdered[string]",by decide,Tryz.func99.trans (congrArg some (by kernel_rfl))⟩
 f23 := ⟨"slices.breakPatternsOrdered[string]",by decide,Tryz.func100.trans (congrArg some (by kernel_rfl))⟩
 f24 := ⟨"slices.choosePivotOrdered[string]",by decide,Tryz.func101.trans (congrArg some (by kernel_rfl))⟩
 f25 := ⟨"slices.reverseRangeOrdered[string]",by decide,Tryz.func102.trans (congrArg some (by kernel_rfl))⟩
 f26 := ⟨"slices.partialInsertionSortOrdered[string]",by decide,Tryz.func103.trans (congrArg some (by kernel_rfl))⟩
 f27 := ⟨"cmp.Less[string]",by decide,Tryz.func104.trans (congrArg some (by kernel_rfl))⟩
 f28 := ⟨"slices.partitionEqualOrdered[string]",by decide,Tryz.func105.trans (congrArg some (by kernel_rfl))⟩
 f29 := ⟨"slices.partitionOrdered[string]",by decide,Tryz.func106.trans (congrArg some (by kernel_rfl))⟩
 f31 := Tryz.func122.trans (congrArg some (by kernel_rfl))
 f32 := Tryz.func123.trans (congrArg some (by kernel_rfl))
 f36 := ⟨"slices.siftDownOrdered[string]",by decide,Tryz.func121.trans (congrArg some (by kernel_rfl))⟩
 f37 := ⟨"slices.medianAdjacentOrdered[string]",by decide,Tryz.func124.trans (congrArg some (by kernel_rfl))⟩
 f38 := ⟨"slices.medianOrdered[string]",by decide,Tryz.func125.trans (congrArg some (by kernel_rfl))⟩
 f39 := ⟨"cmp.isNaN[string]",by decide,Tryz.func126.trans (congrArg some (by kernel_rfl))⟩
 f41 := ⟨"slices.order2Ordered[string]",by decide,Tryz.func134.trans (congrArg some (by kernel_rfl))⟩
 t0 := Tryz.underlying0
 a0 := Tryz.isAgg0
 z0 := Tryz.sizeOf0
 v0 := Tryz.zeroValue0
 t3 := Tryz.underlying3
 a3 := Tryz.isAgg3
 z3 := Tryz.sizeOf3
 v3 := Tryz.zeroValue3
 t4 := Tryz.underlying4
 a4 := Tryz.isAgg4
 z4 := Tryz.sizeOf4
 v4 := Tryz.zeroValue4
 t5 := Tryz.underlying5
 a5 := Tryz.isAgg5
 z5 := Tryz.sizeOf5
 v5 := Tryz.zeroValue5
 t9 := Tryz.underlying9
 a9 := Tryz.isAgg9
 z9 := Tryz.sizeOf9
 v9 := Tryz.zeroValue9
 t26 := Tryz.underlying40
 a26 := Tryz.isAgg40
 z26 := Tryz.sizeOf40
 v26 := Tryz.zeroValue40
 t27 := Tryz.underlying40
 a27 := Tryz.isAgg40
 z27 := Tryz.sizeOf40
 v27 := Tryz.zeroValue40
 t29 := Tryz.underlying9
 a29 := Tryz.isAgg9
 z29 := Tryz.sizeOf9
 v29 := Tryz.zeroValue9
 t32 := Tryz.underlying137
 a32 := Tryz.isAgg137
 z32 := Tryz.sizeOf137
 v32 := Tryz.zeroValue137
 t35 := Tryz.underlying145
 a35 := Tryz.isAgg145
 z35 := Tryz.sizeOf145
 v35 := Tryz.zeroValue145
 t36 := Tryz.underlying146
 a36 := Tryz.isAgg146
 z36 := Tryz.sizeOf146
 v36 := Tryz.zeroValue146
 t41 := Tryz.underlying151
 a41 := Tryz.isAgg151
 z41 := Tryz.sizeOf151
 v41 := Tryz.zeroValue151
 t44 := Tryz.underlying72
 a44 := Tryz.isAgg72
 z44 := Tryz.sizeOf72
 v44 := Tryz.zeroValue72
 t46 := Tryz.underlying104
 a46 := Tryz.isAgg104
 z46 := Tryz.sizeOf104
 v46 := Tryz.zeroValue104
 t53 := Tryz.underlying162
 a53 := Tryz.isAgg162
 z53 := Tryz.sizeOf162
 v53 := Tryz.zeroValue162
 t57 := Tryz.underlying166
 a57 := Tryz.isAgg166
 z57 := Tryz.sizeOf166
 v57 := Tryz.zeroValue166
 t63 := Tryz.underlying170
 a63 := Tryz.isAgg170
 z63 := Tryz.sizeOf170
 v63 := Tryz.zeroValue170
 t64 := Tryz.underlying171
 a64 := Tryz.isAgg171
 z64 := Tryz.sizeOf171
 v64 := Tryz.zeroValue171 }
theorem Tryz.sorts35 (m : Nat) : AnyZ.SortsIn Tryz.prog Tryz.sorted35_ren Fence.wide m :=
 ⟨fun blk off cap ss W hH hblk hsz => callsIn_wide.2 (AnyM.slices_Sort_string Tryz.sort64 blk off cap ss W hH hblk hsz),
  fun p cap W => callsIn_wide.2 (AnyM.slices_Sort_string_none Tryz.sort64 p cap W)⟩
end Go.Proofs.YtkkpfjifkjbndaaGreat
