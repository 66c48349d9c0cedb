/-
  slices.Sorted(maps.Keys(m)) at this program: the shelf's contracts laid, in plain words.
-/
import Derived.Shelf.SlIter.Nil
import Derived.Shelf.SortM.Plain
import Derived.Shelf.SortM.SortNone
import Derived.Ground.GgzProg
import Derived.Ground.SlgmProg
import Derived.Test.YtkkpfjifkjbndaaProg
namespace Go.Proofs.Ytkkpfjifkjbndaa
open Go.RowKit Go.Maps Go.Sort Go.Shelf

def Try.keys19_ren : Go.Shelf.Ren := ⟨fun | 7 => 19 | 10 => 36 | n => n, fun | 23 => 59 | 26 => 9 | 3 => 29 | 28 => 71 | 0 => 0 | 27 => 70 | 33 => 89 | 4 => 4 | n => n, fun | n => n⟩
theorem Try.keys19 : Go.Proofs.SlLaysZ.n7 Try.prog Try.keys19_ren := {
  mixed := by kernel_rfl
  f7 := ⟨"maps.Keys[map[string][]kith/api.Event,string,[]kith/api.Event]", by decide, Try.func19.trans (congrArg some (by kernel_rfl))⟩
  f10 := ⟨"maps.Keys[map[string][]kith/api.Event,string,[]kith/api.Event]$1", by decide, Try.func36.trans (congrArg some (by kernel_rfl))⟩
  t0 := Try.underlying0
  a0 := Try.isAgg0
  z0 := Try.sizeOf0
  v0 := Try.zeroValue0
  t4 := Try.underlying4
  a4 := Try.isAgg4
  z4 := Try.sizeOf4
  v4 := Try.zeroValue4
  t23 := Try.underlying59
  a23 := Try.isAgg59
  z23 := Try.sizeOf59
  v23 := Try.zeroValue59
  t26 := Try.underlying9
  a26 := Try.isAgg9
  z26 := Try.sizeOf9
  v26 := Try.zeroValue9
  t27 := Try.underlying70
  a27 := Try.isAgg70
  z27 := Try.sizeOf70
  v27 := Try.zeroValue70
  t28 := Try.underlying71
  a28 := Try.isAgg71
  z28 := Try.sizeOf71
  v28 := Try.zeroValue71
  t33 := Try.underlying89
  a33 := Try.isAgg89
  z33 := Try.sizeOf89
  v33 := Try.zeroValue89 }
def Try.sorted18_ren : Go.Shelf.Ren := ⟨fun | 6 => 18 | 8 => 34 | 9 => 35 | 11 => 52 | 13 => 54 | 12 => 53 | 23 => 75 | 24 => 76 | 14 => 66 | 15 => 67 | 16 => 68 | 17 => 69 | 18 => 70 | 19 => 71 | 20 => 72 | 21 => 73 | 22 => 74 | 25 => 89 | 26 => 90 | 27 => 91 | 28 => 92 | 29 => 93 | 30 => 94 | 31 => 102 | n => n, fun | 26 => 9 | 28 => 71 | 24 => 68 | 0 => 0 | 3 => 3 | 37 => 110 | 48 => 50 | 50 => 132 | 4 => 4 | 40 => 123 | 39 => 122 | 45 => 128 | 5 => 5 | 9 => 9 | 51 => 141 | 55 => 145 | 57 => 150 | 58 => 151 | 33 => 89 | n => n, fun | n => n⟩
theorem Try.sorted18 : Go.Proofs.SlLaysZ.n6 Try.prog Try.sorted18_ren := {
  mixed := by kernel_rfl
  f6 := ⟨"slices.Sorted[string]", by decide, Try.func18.trans (congrArg some (by kernel_rfl))⟩
  f8 := ⟨"slices.Collect[string]", by decide, Try.func34.trans (congrArg some (by kernel_rfl))⟩
  f11 := ⟨"slices.AppendSeq[[]string,string]", by decide, Try.func52.trans (congrArg some (by kernel_rfl))⟩
  t0 := Try.underlying0
  a0 := Try.isAgg0
  z0 := Try.sizeOf0
  v0 := Try.zeroValue0
  t24 := Try.underlying68
  a24 := Try.isAgg68
  z24 := Try.sizeOf68
  v24 := Try.zeroValue68
  t26 := Try.underlying9
  a26 := Try.isAgg9
  z26 := Try.sizeOf9
  v26 := Try.zeroValue9
  t28 := Try.underlying71
  a28 := Try.isAgg71
  z28 := Try.sizeOf71
  v28 := Try.zeroValue71
  i26 := by kernel_rfl }
def Try.sort35_ren : Go.Shelf.Ren := ⟨fun | 6 => 35 | 8 => 54 | 9 => 53 | 19 => 75 | 20 => 76 | 21 => 66 | 22 => 67 | 23 => 68 | 24 => 69 | 25 => 70 | 26 => 71 | 27 => 72 | 28 => 73 | 29 => 74 | 36 => 89 | 31 => 90 | 32 => 91 | 37 => 92 | 38 => 93 | 39 => 94 | 41 => 102 | n => n, fun | 27 => 68 | 29 => 9 | 3 => 3 | 32 => 110 | 26 => 68 | 0 => 0 | 44 => 50 | 46 => 132 | 4 => 4 | 36 => 123 | 35 => 122 | 41 => 128 | 5 => 5 | 9 => 9 | 53 => 141 | 57 => 145 | 63 => 150 | 64 => 151 | n => n, fun | n => n⟩
theorem Try.sort35 : Go.Proofs.SlLaysM.n6 Try.prog Try.sort35_ren := {
  mixed := by kernel_rfl
  f6 := ⟨"slices.Sort[[]string,string]", by decide, Try.func35.trans (congrArg some (by kernel_rfl))⟩
  f8 := Try.func54.trans (congrArg some (by kernel_rfl))
  f9 := ⟨"slices.pdqsortOrdered[string]", by decide, Try.func53.trans (congrArg some (by kernel_rfl))⟩
  f19 := Try.func75.trans (congrArg some (by kernel_rfl))
  f20 := Try.func76.trans (congrArg some (by kernel_rfl))
  f21 := ⟨"slices.insertionSortOrdered[string]", by decide, Try.func66.trans (congrArg some (by kernel_rfl))⟩
  f22 := ⟨"slices.heapSortOrdered[string]", by decide, Try.func67.trans (congrArg some (by kernel_rfl))⟩
  f23 := ⟨"slices.breakPatternsOrdered[string]", by decide, Try.func68.trans (congrArg some (by kernel_rfl))⟩
  f24 := ⟨"slices.choosePivotOrdered[string]", by decide, Try.func69.trans (congrArg some (by kernel_rfl))⟩
  f25 := ⟨"slices.reverseRangeOrdered[string]", by decide, Try.func70.trans (congrArg some (by kernel_rfl))⟩
  f26 := ⟨"slices.partialInsertionSortOrdered[string]", by decide, Try.func71.trans (congrArg some (by kernel_rfl))⟩
  f27 := ⟨"cmp.Less[string]", by decide, Try.func72.trans (congrArg some (by kernel_rfl))⟩
  f28 := ⟨"slices.partitionEqualOrdered[string]", by decide, Try.func73.trans (congrArg some (by kernel_rfl))⟩
  f29 := ⟨"slices.partitionOrdered[string]", by decide, Try.func74.trans (congrArg some (by kernel_rfl))⟩
  f31 := Try.func90.trans (congrArg some (by kernel_rfl))
  f32 := Try.func91.trans (congrArg some (by kernel_rfl))
  f36 := ⟨"slices.siftDownOrdered[string]", by decide, Try.func89.trans (congrArg some (by kernel_rfl))⟩
  f37 := ⟨"slices.medianAdjacentOrdered[string]", by decide, Try.func92.trans (congrArg some (by kernel_rfl))⟩
  f38 := ⟨"slices.medianOrdered[string]", by decide, Try.func93.trans (congrArg some (by kernel_rfl))⟩
  f39 := ⟨"cmp.isNaN[string]", by decide, Try.func94.trans (congrArg some (by kernel_rfl))⟩
  f41 := ⟨"slices.order2Ordered[string]", by decide, Try.func102.trans (congrArg some (by kernel_rfl))⟩
  t0 := Try.underlying0
  a0 := Try.isAgg0
  z0 := Try.sizeOf0
  v0 := Try.zeroValue0
  t3 := Try.underlying3
  a3 := Try.isAgg3
  z3 := Try.sizeOf3
  v3 := Try.zeroValue3
  t4 := Try.underlying4
  a4 := Try.isAgg4
  z4 := Try.sizeOf4
  v4 := Try.zeroValue4
  t5 := Try.underlying5
  a5 := Try.isAgg5
  z5 := Try.sizeOf5
  v5 := Try.zeroValue5
  t9 := Try.underlying9
  a9 := Try.isAgg9
  z9 := Try.sizeOf9
  v9 := Try.zeroValue9
  t26 := Try.underlying68
  a26 := Try.isAgg68
  z26 := Try.sizeOf68
  v26 := Try.zeroValue68
  t27 := Try.underlying68
  a27 := Try.isAgg68
  z27 := Try.sizeOf68
  v27 := Try.zeroValue68
  t29 := Try.underlying9
  a29 := Try.isAgg9
  z29 := Try.sizeOf9
  v29 := Try.zeroValue9
  t32 := Try.underlying110
  a32 := Try.isAgg110
  z32 := Try.sizeOf110
  v32 := Try.zeroValue110
  t35 := Try.underlying122
  a35 := Try.isAgg122
  z35 := Try.sizeOf122
  v35 := Try.zeroValue122
  t36 := Try.underlying123
  a36 := Try.isAgg123
  z36 := Try.sizeOf123
  v36 := Try.zeroValue123
  t41 := Try.underlying128
  a41 := Try.isAgg128
  z41 := Try.sizeOf128
  v41 := Try.zeroValue128
  t44 := Try.underlying50
  a44 := Try.isAgg50
  z44 := Try.sizeOf50
  v44 := Try.zeroValue50
  t46 := Try.underlying132
  a46 := Try.isAgg132
  z46 := Try.sizeOf132
  v46 := Try.zeroValue132
  t53 := Try.underlying141
  a53 := Try.isAgg141
  z53 := Try.sizeOf141
  v53 := Try.zeroValue141
  t57 := Try.underlying145
  a57 := Try.isAgg145
  z57 := Try.sizeOf145
  v57 := Try.zeroValue145
  t63 := Try.underlying150
  a63 := Try.isAgg150
  z63 := Try.sizeOf150
  v63 := Try.zeroValue150
  t64 := Try.underlying151
  a64 := Try.isAgg151
  z64 := Try.sizeOf151
  v64 := Try.zeroValue151 }

theorem Try.sorts18 (m : Nat) : AnyZ.SortsIn Try.prog Try.sorted18_ren Fence.wide m :=
  ⟨fun blk off cap ss W hH hblk hsz => callsIn_wide.2 (AnyM.slices_Sort_string Try.sort35 blk off cap ss W hH hblk hsz),
   fun p cap W => callsIn_wide.2 (AnyM.slices_Sort_string_none Try.sort35 p cap W)⟩

theorem Try.maps_Keys_19 (mb : Option Nat) (W : World) : CallsIn Fence.wide 5 Try.prog 19 #[.map mb] W fun e w' => e = .returned (.func (.func 36) #[] #[.pointer (some ⟨W.heap.size, 0, none⟩)]) ∧ w' = W.alloc (.cells #[.map mb] 59) :=
  AnyZ.keys_in Try.keys19 Fence.wide 5 trivial rfl mb W

set_option maxHeartbeats 1000000 in
theorem Try.slices_Sorted_keys_18_19 {H : Type} (b nn : Nat) (D0 : DataW H) (R : Value → Option (DataW H × List MemPlace)) (w : World) (hown : w.ownsMap Try.prog 9 R b nn D0) (hmax : Maps.size D0 ≤ maxLen) (hbytes : Maps.size D0 * 16 ≤ 140737488355328) :
    CallsIn Fence.wide 5 Try.prog 18 #[.func (.func 36) #[] #[.pointer (some ⟨w.heap.size, 0, none⟩)]] (w.alloc (.cells #[.map (some b)] 59)) fun e w' => ∃ (v : Value) (ss : List (List UInt8)), e = .returned v ∧ ss.Perm (strKeys D0) ∧
      w'.ownsRow (w.alloc (.cells #[.map (some b)] 59)).heap.size 9 1 v ss.length ((ss.mergeSort (fun x y => decide (x ≤ y))).map encStr) ∧ (v = .slice none 0 0 ↔ ss = []) ∧ Below (w.alloc (.cells #[.map (some b)] 59)).heap.size (w.alloc (.cells #[.map (some b)] 59)) w' := by
  have hbl := hown.lt
  have hseq : SeqGives Fence.wide 2 Try.prog 36 #[.pointer (some ⟨w.heap.size, 0, none⟩)] encStr (fun ss => ss.Perm (strKeys D0)) (Maps.size D0) (w.alloc (.cells #[.map (some b)] 59)) :=
    AnyZ.keys_gives (ρ := Try.keys19_ren) { Try.keys19 with } Fence.wide _ trivial rfl (by omega) w.heap.size b nn D0 _ (by simp) (by simp) (by
      obtain ⟨es, clock, hb, Ft, hs, hD⟩ := hown
      exact ⟨es, clock, (Below.heap_alloc _ _ b hbl).trans hb, Ft, hs, hD⟩)
  exact AnyZ.sorted_in Try.sorted18 Fence.wide 5 trivial trivial trivial trivial rfl (by omega) (Try.sorts18 _) (enters_of Try.func35 (by kernel_rfl) rfl) 36 #[.pointer (some ⟨w.heap.size, 0, none⟩)] trivial (enters_of Try.func36 (by kernel_rfl) rfl) _ _ hmax hbytes _ hseq

set_option maxHeartbeats 1000000 in
theorem Try.slices_Sorted_keys_nil_18_19 (w : World) :
    CallsIn Fence.wide 5 Try.prog 18 #[.func (.func 36) #[] #[.pointer (some ⟨w.heap.size, 0, none⟩)]] (w.alloc (.cells #[.map none] 59)) fun e w' => ∃ (v : Value) (ss : List (List UInt8)), e = .returned v ∧ ss = [] ∧
      w'.ownsRow (w.alloc (.cells #[.map none] 59)).heap.size 9 1 v ss.length ((ss.mergeSort (fun x y => decide (x ≤ y))).map encStr) ∧ (v = .slice none 0 0 ↔ ss = []) ∧ Below (w.alloc (.cells #[.map none] 59)).heap.size (w.alloc (.cells #[.map none] 59)) w' := by
  have hseq : SeqGives Fence.wide 2 Try.prog 36 #[.pointer (some ⟨w.heap.size, 0, none⟩)] encStr (fun ss : List (List UInt8) => ss = []) 0 (w.alloc (.cells #[.map none] 59)) :=
    AnyZ.keys_gives_nil (ρ := Try.keys19_ren) { Try.keys19 with } Fence.wide _ trivial rfl w.heap.size _ (by simp) (by simp)
  exact AnyZ.sorted_in Try.sorted18 Fence.wide 5 trivial trivial trivial trivial rfl (by omega) (Try.sorts18 _) (enters_of Try.func35 (by kernel_rfl) rfl) 36 #[.pointer (some ⟨w.heap.size, 0, none⟩)] trivial (enters_of Try.func36 (by kernel_rfl) rfl) _ 0 (Nat.zero_le _) (by omega) _ hseq



end Go.Proofs.Ytkkpfjifkjbndaa
