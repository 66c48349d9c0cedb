/-
  Contracts of the walk: Std.
-/
import Derived.Shelf.Small.Bits
import Derived.Shelf.Strconv.Itoa0
import Derived.Shelf.Sort.Plain
import Derived.Shelf.Slices.CompactS
import Derived.Shelf.Slices.Cells
import Derived.Shelf.Slices.In.SortNone
import Derived.Test.YtkkpfjifkjbndaaGreatProg
/-
 DERIVED: THE SHELF's CONTRACTS AT THIS DUMP,IN PLAIN WORDS (tools/lay-plain.mjs out of 'YtkkpfjifkjbndaaGreatStd.lean',which tools/lay-shelf.mjs wrote): THE SAME DECLARATIONS UNDER THE SAME NAMES: 'import','namespace','open','def','theorem' AND NOTHING ELSE: no command of the shelf's: FOR A HAND-IN. Each laying: the table of numbers ('.._ren') and one theorem,a field a fact of the dump's own or the kernel's comparison; each contract: ONE APPLICATION.
-/
namespace Go.Proofs.YtkkpfjifkjbndaaGreat
open Go.Shelf
def Tryz.lays128_ren : Go.Shelf.Ren := ⟨fun | 128 => 107 | n => n,fun | 51 => 72 | 3 => 3 | 4 => 4 | 46 => 137 | 5 => 5 | 9 => 9 | n => n,fun | n => n⟩
def Tryz.lays125_ren : Go.Shelf.Ren := ⟨fun | 125 => 87 | 128 => 107 | 129 => 108 | n => n,fun | 46 => 137 | 3 => 3 | 51 => 72 | 53 => 104 | 4 => 4 | 5 => 5 | 9 => 9 | n => n,fun | n => n⟩
def Tryz.lays129_ren : Go.Shelf.Ren := ⟨fun | 129 => 108 | n => n,fun | 53 => 104 | 3 => 3 | 4 => 4 | 46 => 137 | 5 => 5 | 9 => 9 | n => n,fun | n => n⟩
def Tryz.lays190_ren : Go.Shelf.Ren := ⟨fun | 190 => 64 | 125 => 87 | 258 => 86 | 128 => 107 | 129 => 108 | 302 => 98 | 303 => 99 | 304 => 100 | 305 => 101 | 306 => 102 | 307 => 103 | 308 => 104 | 309 => 105 | 310 => 106 | 333 => 121 | 329 => 122 | 330 => 123 | 334 => 124 | 335 => 125 | 336 => 126 | 344 => 134 | n => n,fun | 31 => 40 | 9 => 9 | 3 => 3 | 46 => 137 | 0 => 0 | 51 => 72 | 53 => 104 | 4 => 4 | 183 => 146 | 182 => 145 | 131 => 151 | 5 => 5 | 218 => 162 | 222 => 166 | 228 => 170 | 229 => 171 | n => n,fun | n => n⟩
theorem Tryz.lays190 : Go.Proofs.Lays.n190 Tryz.prog Tryz.lays190_ren := {
 mixed := by kernel_rfl
 f125 := Tryz.func87.trans (congrArg some (by kernel_rfl))
 f128 := Tryz.func107.trans (congrArg some (by kernel_rfl))
 f129 := Tryz.func108.trans (congrArg some (by kernel_rfl))
 f190 := Tryz.func64.trans (congrArg some (by kernel_rfl))
 f258 := Tryz.func86.trans (congrArg some (by kernel_rfl))
 f302 := Tryz.func98.trans (congrArg some (by kernel_rfl))
 f303 := Tryz.func99.trans (congrArg some (by kernel_rfl))
 f304 := Tryz.func100.trans (congrArg some (by kernel_rfl))
 f305 := Tryz.func101.trans (congrArg some (by kernel_rfl))
 f306 := Tryz.func102.trans (congrArg some (by kernel_rfl))
 f307 := Tryz.func103.trans (congrArg some (by kernel_rfl))
 f308 := Tryz.func104.trans (congrArg some (by kernel_rfl))
 f309 := Tryz.func105.trans (congrArg some (by kernel_rfl))
 f310 := Tryz.func106.trans (congrArg some (by kernel_rfl))
 f329 := Tryz.func122.trans (congrArg some (by kernel_rfl))
 f330 := Tryz.func123.trans (congrArg some (by kernel_rfl))
 f333 := Tryz.func121.trans (congrArg some (by kernel_rfl))
 f334 := Tryz.func124.trans (congrArg some (by kernel_rfl))
 f335 := Tryz.func125.trans (congrArg some (by kernel_rfl))
 f336 := Tryz.func126.trans (congrArg some (by kernel_rfl))
 f344 := Tryz.func134.trans (congrArg some (by kernel_rfl))
 t0 := Tryz.underlying0
 a0 := Tryz.isAgg0
 z0 := Tryz.sizeOf0
 v0 := Tryz.zeroValue0
 t3 := Tryz.underlying3
 a3 := Tryz.isAgg3
 z3 := Tryz.sizeOf3
 v3 := Tryz.zeroValue3
 t4 := Tryz.underlying4
 a4 := Tryz.isAgg4
 z4 := Tryz.sizeOf4
 v4 := Tryz.zeroValue4
 t5 := Tryz.underlying5
 a5 := Tryz.isAgg5
 z5 := Tryz.sizeOf5
 v5 := Tryz.zeroValue5
 t9 := Tryz.underlying9
 a9 := Tryz.isAgg9
 z9 := Tryz.sizeOf9
 v9 := Tryz.zeroValue9
 t31 := Tryz.underlying40
 a31 := Tryz.isAgg40
 z31 := Tryz.sizeOf40
 v31 := Tryz.zeroValue40
 t46 := Tryz.underlying137
 a46 := Tryz.isAgg137
 z46 := Tryz.sizeOf137
 v46 := Tryz.zeroValue137
 t51 := Tryz.underlying72
 a51 := Tryz.isAgg72
 z51 := Tryz.sizeOf72
 v51 := Tryz.zeroValue72
 t53 := Tryz.underlying104
 a53 := Tryz.isAgg104
 z53 := Tryz.sizeOf104
 v53 := Tryz.zeroValue104
 t131 := Tryz.underlying151
 a131 := Tryz.isAgg151
 z131 := Tryz.sizeOf151
 v131 := Tryz.zeroValue151
 t182 := Tryz.underlying145
 a182 := Tryz.isAgg145
 z182 := Tryz.sizeOf145
 v182 := Tryz.zeroValue145
 t183 := Tryz.underlying146
 a183 := Tryz.isAgg146
 z183 := Tryz.sizeOf146
 v183 := Tryz.zeroValue146
 t218 := Tryz.underlying162
 a218 := Tryz.isAgg162
 z218 := Tryz.sizeOf162
 v218 := Tryz.zeroValue162
 t222 := Tryz.underlying166
 a222 := Tryz.isAgg166
 z222 := Tryz.sizeOf166
 v222 := Tryz.zeroValue166
 t228 := Tryz.underlying170
 a228 := Tryz.isAgg170
 z228 := Tryz.sizeOf170
 v228 := Tryz.zeroValue170
 t229 := Tryz.underlying171
 a229 := Tryz.isAgg171
 z229 := Tryz.sizeOf171
 v229 := Tryz.zeroValue171 }
open Go.Sort Go.RowKit in
theorem Tryz.slices_Sort_string (blk off cap : Nat) (ss : List (List UInt8)) (w : World) (hH : Holds encStr w blk off ss.toArray) (hblk : blk < w.heap.size) (hsz : ss.length < 4611686018427387904) :
  Calls Tryz.prog 64 #[.slice (some ⟨blk,off,none⟩) ss.length cap] w fun e w' =>
   e = .returned (.tuple #[]) ∧ ∃ n os,w' = grow (putRow encStr (Sort.ahead w n) blk off (ss.mergeSort fun x y => decide (x ≤ y)).toArray) os := Any.slices_Sort_string Tryz.lays190 blk off cap ss w hH hblk hsz
def Tryz.lays194_ren : Go.Shelf.Ren := ⟨fun | 194 => 68 | n => n,fun | 31 => 40 | 9 => 9 | 3 => 3 | 4 => 4 | 0 => 0 | n => n,fun | n => n⟩
theorem Tryz.lays194 : Go.Proofs.Lays.n194 Tryz.prog Tryz.lays194_ren := {
 mixed := by kernel_rfl
 f194 := Tryz.func68.trans (congrArg some (by kernel_rfl))
 t0 := Tryz.underlying0
 a0 := Tryz.isAgg0
 z0 := Tryz.sizeOf0
 v0 := Tryz.zeroValue0
 t3 := Tryz.underlying3
 a3 := Tryz.isAgg3
 z3 := Tryz.sizeOf3
 v3 := Tryz.zeroValue3
 t4 := Tryz.underlying4
 a4 := Tryz.isAgg4
 z4 := Tryz.sizeOf4
 v4 := Tryz.zeroValue4
 t9 := Tryz.underlying9
 a9 := Tryz.isAgg9
 z9 := Tryz.sizeOf9
 v9 := Tryz.zeroValue9
 t31 := Tryz.underlying40
 a31 := Tryz.isAgg40
 z31 := Tryz.sizeOf40
 v31 := Tryz.zeroValue40 }
open Go.RowKit Go.Lib Go.Sort in
theorem Tryz.slices_Compact_string (blk off cap : Nat) (zs : List (List UInt8)) (w : World) (hH : Holds encStr w blk off zs.toArray) (hsz : zs.length ≤ 9223372036854775807) (hcap : zs.length ≤ cap) :
  Calls Tryz.prog 68 #[.slice (some ⟨blk,off,none⟩) zs.length cap] w fun e w' => e = .returned (.slice (some ⟨blk,off,none⟩) (Lib.compact zs).length cap) ∧ ∃ q,w' = putRow encStr (Sort.ahead w q) blk off (Lib.compact zs ++ List.replicate (zs.length - (Lib.compact zs).length) []).toArray := Any.slices_Compact_string Tryz.lays194 blk off cap zs w hH hsz hcap
open Go.RowKit Go.Lib Go.Sort in
theorem Tryz.slices_Compact_string_empty (a : Option Addr) (cap : Nat) (w : World) :
  Calls Tryz.prog 68 #[.slice a 0 cap] w fun e w' => e = .returned (.slice a 0 cap) ∧ w' = w := Any.slices_Compact_string_empty Tryz.lays194 a cap w
open Go.RowKit Go.Sort in
theorem Tryz.slices_Sort_string_none (p : Option Addr) (cap : Nat) (w : World) :
  Calls Tryz.prog 64 #[.slice p 0 cap] w fun e w' => e = .returned (.tuple #[]) ∧ w' = w := Any.slices_Sort_string_none Tryz.lays190 p cap w
end Go.Proofs.YtkkpfjifkjbndaaGreat
