/-
What a tactic shows,by a name.
-/
import Derived.Lib.RowBridge
import Derived.WalkKit
import Derived.Deep.AppendSrc
import Derived.Lib.Hide
import Derived.Deep.Quiet
import Derived.Deep.Draws
import Derived.WalkLawsBesides
import Derived.Laws.IdiomStrings
import Derived.Deep.QuietTactic
import Derived.MapKept
import Derived.Laws.OwnMore
import Derived.Orders
import Derived.Shelf.SlIter.Nil
import Derived.Shelf.SortM.Plain
import Derived.Shelf.SortM.SortNone
import Derived.Ground.GgzProg
import Derived.Ground.SlgmProg
namespace Go.Proofs.YtkimgljckickcaaGreat
open Go.RowKit
theorem o_{p:Prop}(h:p:=by omega):p:=h
theorem a_{p:Prop}(h:p:=by assumption):p:=h
theorem s_{p:Prop}(h:p:=by simp):p:=h
theorem d_{p:Prop}(h:p:=by decide):p:=h
theorem amW:type_of% @List.mem_cons_self:=@List.mem_cons_self
theorem amX:type_of% @List.getElem?_eq_getElem:=@List.getElem?_eq_getElem
theorem amY:type_of% @Bool.and_eq_true:=@Bool.and_eq_true
theorem amZ:type_of% @List.mem_singleton:=@List.mem_singleton
theorem am0:type_of% @List.length_append:=@List.length_append
theorem am1:type_of% @List.mem_cons_of_mem:=@List.mem_cons_of_mem
theorem am2:type_of% @List.append_nil:=@List.append_nil
theorem am3:type_of% @Nat.eq_of_beq_eq_true:=@Nat.eq_of_beq_eq_true
theorem am4:type_of% @List.mem_cons:=@List.mem_cons
theorem am5:type_of% @List.length_take:=@List.length_take
theorem am6:type_of% @List.mem_append:=@List.mem_append
theorem am7:type_of% @Nat.le_of_ble_eq_true:=@Nat.le_of_ble_eq_true
theorem am8:type_of% @Result.andThen_ok:=@Result.andThen_ok
theorem am9:type_of% @List.eq_nil_of_length_eq_zero:=@List.eq_nil_of_length_eq_zero
theorem am':type_of% @Sem.run_bind:=@Sem.run_bind
theorem ana:type_of% @List.mem_filter:=@List.mem_filter
theorem anb:type_of% @List.length_cons:=@List.length_cons
theorem anc:type_of% @List.getElem?_eq_some_iff:=@List.getElem?_eq_some_iff
theorem ane:type_of% @Nat.zero_le:=@Nat.zero_le
theorem anf:type_of% @List.take_of_length_le:=@List.take_of_length_le
theorem ang:type_of% @List.getD_eq_getElem?_getD:=@List.getD_eq_getElem?_getD
theorem anh:type_of% @List.all_eq_true:=@List.all_eq_true
theorem ani:type_of% @Nat.le_refl:=@Nat.le_refl
theorem anj:type_of% @List.length_filter_le:=@List.length_filter_le
theorem ank:type_of% @Option.some.injEq:=@Option.some.injEq
theorem anl:type_of% @List.length_drop:=@List.length_drop
theorem anm:type_of% @List.append_assoc:=@List.append_assoc
theorem ano:type_of% @List.nil_append:=@List.nil_append
theorem anp:type_of% @Sem.run_pure:=@Sem.run_pure
theorem anq:type_of% @List.getElem?_append_left:=@List.getElem?_append_left
theorem anr:type_of% @Nat.lt_or_ge:=@Nat.lt_or_ge
theorem ant:type_of% @List.mem_map:=@List.mem_map
theorem anu:type_of% @List.length_map:=@List.length_map
theorem anv:type_of% @List.mem_append_left:=@List.mem_append_left
theorem anw:type_of% @Bool.eq_false_iff:=@Bool.eq_false_iff
theorem anx:type_of% @List.mem_append_right:=@List.mem_append_right
theorem anz:type_of% @List.getElem?_eq_none:=@List.getElem?_eq_none
theorem anA:type_of% @Nat.not_lt_zero:=@Nat.not_lt_zero
theorem anB:type_of% @Bool.not_eq_true':=@Bool.not_eq_true'
theorem anC:type_of% @Array.length_toList:=@Array.length_toList
theorem anD:type_of% @List.length_nil:=@List.length_nil
theorem anE:type_of% @List.getElem?_map:=@List.getElem?_map
theorem anF:type_of% @List.filter_congr:=@List.filter_congr
theorem anG:type_of% @List.mem_of_getElem?:=@List.mem_of_getElem?
theorem anH:type_of% @List.getElem_mem:=@List.getElem_mem
theorem anI:type_of% @List.getElem?_append_right:=@List.getElem?_append_right
theorem anJ:type_of% @List.cons_append:=@List.cons_append
theorem anK:type_of% @Nat.le_trans:=@Nat.le_trans
theorem anL:type_of% @List.filter_filter:=@List.filter_filter
theorem anM:type_of% @List.nodup_append:=@List.nodup_append
theorem anN:type_of% @List.flatMap_cons:=@List.flatMap_cons
theorem anO:type_of% @Int.eq_ofNat_of_zero_le:=@Int.eq_ofNat_of_zero_le
theorem anP:type_of% @Int.toNat_natCast:=@Int.toNat_natCast
theorem anQ:type_of% @Array.getElem?_eq_some_iff:=@Array.getElem?_eq_some_iff
theorem anR:type_of% @List.getElem_of_mem:=@List.getElem_of_mem
theorem anS:type_of% @List.map_cons:=@List.map_cons
theorem anT:type_of% @Bool.or_eq_true:=@Bool.or_eq_true
theorem anU:type_of% @List.getElem?_take:=@List.getElem?_take
theorem anV:type_of% @Bool.false_eq_true:=@Bool.false_eq_true
theorem anW:type_of% @Addr.add_lit:=@Addr.add_lit
theorem anX:type_of% @List.filter_cons:=@List.filter_cons
theorem anY:type_of% @MapKept.run_getObj_map:=@MapKept.run_getObj_map
theorem anZ:type_of% @Nat.zero_add:=@Nat.zero_add
theorem an0:type_of% @Nat.ble_eq_true_of_le:=@Nat.ble_eq_true_of_le
theorem an1:type_of% @List.nodup_cons:=@List.nodup_cons
theorem an2:type_of% @List.map_append:=@List.map_append
theorem an3:type_of% @UInt8.toNat_lt:=@UInt8.toNat_lt
theorem an4:type_of% @List.pairwise_append:=@List.pairwise_append
theorem an5:type_of% @Nat.mul_le_mul_right:=@Nat.mul_le_mul_right
theorem an6:type_of% @List.any_eq_true:=@List.any_eq_true
theorem an7:type_of% @List.mem_of_mem_take:=@List.mem_of_mem_take
theorem an8:type_of% @List.take_append_drop:=@List.take_append_drop
theorem an9:type_of% @List.length_eq_zero_iff:=@List.length_eq_zero_iff
theorem an':type_of% @List.getD_cons_succ:=@List.getD_cons_succ
theorem aoa:type_of% @List.take_add_one:=@List.take_add_one
theorem aob:type_of% @Below.refl:=@Below.refl
theorem aoc:type_of% @List.drop_left:=@List.drop_left
theorem aod:type_of% @Array.getElem?_toList:=@Array.getElem?_toList
theorem aoe:type_of% @List.getD_cons_zero:=@List.getD_cons_zero
theorem aof:type_of% @List.take_length:=@List.take_length
theorem aog:type_of% @List.pairwise_singleton:=@List.pairwise_singleton
theorem aoh:type_of% @List.getElem?_cons_zero:=@List.getElem?_cons_zero
theorem aoi:type_of% @World.ownsRow_nil:=@World.ownsRow_nil
theorem aoj:type_of% @List.foldl_append:=@List.foldl_append
theorem aok:type_of% @List.drop_eq_getElem_cons:=@List.drop_eq_getElem_cons
theorem aol:type_of% @List.not_mem_nil:=@List.not_mem_nil
theorem aom:type_of% @Int.le_refl:=@Int.le_refl
theorem aon:type_of% @Nat.lt_of_lt_of_le:=@Nat.lt_of_lt_of_le
theorem aoo:type_of% @Option.map_some:=@Option.map_some
theorem aop:type_of% @List.getElem?_drop:=@List.getElem?_drop
theorem aoq:type_of% @List.filter_append:=@List.filter_append
theorem aor:type_of% @Nat.add_mul:=@Nat.add_mul
theorem aos:type_of% @List.ext_getElem?:=@List.ext_getElem?
theorem aot:type_of% @Prod.mk.injEq:=@Prod.mk.injEq
theorem aou:type_of% @List.length_mergeSort:=@List.length_mergeSort
theorem aov:type_of% @List.Perm.append_left:=@List.Perm.append_left
theorem aow:type_of% @Nat.min_eq_left:=@Nat.min_eq_left
theorem aox:type_of% @List.map_nil:=@List.map_nil
theorem aoy:type_of% @Nat.xor_assoc:=@Nat.xor_assoc
theorem aoz:type_of% @MapKept.run_setObj_map:=@MapKept.run_setObj_map
theorem aoA:type_of% @Array.getElem?_eq_none:=@Array.getElem?_eq_none
theorem aoB:type_of% @List.length_set:=@List.length_set
theorem aoC:type_of% @List.length_replicate:=@List.length_replicate
theorem aoD:type_of% @List.take_append_of_le_length:=@List.take_append_of_le_length
theorem aoE:type_of% @UInt8.toNat_ofNat':=@UInt8.toNat_ofNat'
theorem aoF:type_of% @World.cell?_of_block:=@World.cell?_of_block
theorem aoG:type_of% @List.mem_of_mem_drop:=@List.mem_of_mem_drop
theorem aoH:type_of% @Bool.or_eq_false_iff:=@Bool.or_eq_false_iff
theorem aoI:type_of% @List.getElem?_replicate:=@List.getElem?_replicate
theorem aoJ:type_of% @List.getElem?_set:=@List.getElem?_set
theorem aoK:type_of% @List.replicate_succ:=@List.replicate_succ
theorem aoL:type_of% @Lib.hid:=@Lib.hid
theorem aoM:type_of% @Nat.succ_mul:=@Nat.succ_mul
theorem aoN:type_of% @Nat.mod_two_eq_zero_or_one:=@Nat.mod_two_eq_zero_or_one
theorem aoO:type_of% @List.perm_middle:=@List.perm_middle
theorem aoP:type_of% @Nat.mod_eq_of_lt:=@Nat.mod_eq_of_lt
theorem aoQ:type_of% @List.take_succ_eq_append_getElem:=@List.take_succ_eq_append_getElem
theorem aoR:type_of% @List.perm_append_comm:=@List.perm_append_comm
theorem aoS:type_of% @List.pairwise_iff_getElem:=@List.pairwise_iff_getElem
theorem aoT:type_of% @Array.getElem?_eq_getElem:=@Array.getElem?_eq_getElem
theorem aoU:type_of% @List.eraseIdx_eq_take_drop_succ:=@List.eraseIdx_eq_take_drop_succ
theorem aoV:type_of% @List.cons.injEq:=@List.cons.injEq
theorem aoW:type_of% @List.eq_of_mem_replicate:=@List.eq_of_mem_replicate
theorem aoX:type_of% @Array.ext':=@Array.ext'
theorem aoY:type_of% @List.any_filter:=@List.any_filter
theorem aoZ:type_of% @List.eraseIdx_cons_succ:=@List.eraseIdx_cons_succ
theorem ao0:type_of% @List.flatMap_append:=@List.flatMap_append
theorem ao1:type_of% @List.drop_drop:=@List.drop_drop
theorem ao2:type_of% @Option.bind_some:=@Option.bind_some
theorem ao3:type_of% @List.mem_range:=@List.mem_range
theorem ao4:type_of% @List.filter_eq_nil_iff:=@List.filter_eq_nil_iff
theorem ao5:type_of% @Int.tmod_lt_of_pos:=@Int.tmod_lt_of_pos
theorem ao6:type_of% @List.foldl_cons:=@List.foldl_cons
theorem ao7:type_of% @Bool.true_and:=@Bool.true_and
theorem ao8:type_of% @List.any_eq_false:=@List.any_eq_false
theorem ao9:type_of% @Bool.not_eq_false:=@Bool.not_eq_false
theorem apa:type_of% @Nat.pow_le_pow_right:=@Nat.pow_le_pow_right
theorem apb:type_of% @List.exists_mem_of_ne_nil:=@List.exists_mem_of_ne_nil
theorem apc:type_of% @Nat.shiftRight_eq_div_pow:=@Nat.shiftRight_eq_div_pow
theorem apd:type_of% @List.take_left:=@List.take_left
theorem ape:type_of% @List.take_take:=@List.take_take
theorem apf:type_of% @Nat.pow_succ:=@Nat.pow_succ
theorem apg:type_of% @Nat.add_zero:=@Nat.add_zero
theorem aph:type_of% @Below.heap_alloc:=@Below.heap_alloc
theorem apj:type_of% @Nat.zero_mul:=@Nat.zero_mul
theorem apk:type_of% @Nat.sub_zero:=@Nat.sub_zero
theorem apl:type_of% @List.getElem?_take_of_lt:=@List.getElem?_take_of_lt
theorem apm:type_of% @List.take_succ_cons:=@List.take_succ_cons
theorem apn:type_of% @Ne.symm:=@Ne.symm
theorem apo:type_of% @Nat.eq_zero_or_pos:=@Nat.eq_zero_or_pos
theorem apq:type_of% @Nat.add_sub_cancel:=@Nat.add_sub_cancel
theorem apr:type_of% @Nat.xor_lt_two_pow:=@Nat.xor_lt_two_pow
theorem aps:type_of% @Src.ofSlice:=@Src.ofSlice
theorem apt:type_of% @List.getElem?_set_self:=@List.getElem?_set_self
theorem apu:type_of% @Decidable.not_not:=@Decidable.not_not
theorem apv:type_of% @Nat.beq_refl:=@Nat.beq_refl
theorem apw:type_of% @List.take_append:=@List.take_append
theorem apx:type_of% @IntKind.wrap_u64:=@IntKind.wrap_u64
theorem apy:type_of% @Bool.and_comm:=@Bool.and_comm
end Go.Proofs.YtkimgljckickcaaGreat
