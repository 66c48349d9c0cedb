/-
What a tactic shows,by a name.
-/
import Derived.Lib.RowBridge
import Derived.WalkKit
import Derived.Deep.AppendSrc
import Derived.Lib.Hide
import Derived.Deep.Quiet
import Derived.Deep.Draws
import Derived.WalkLawsBesides
import Derived.Laws.IdiomStrings
import Derived.Deep.QuietTactic
import Derived.MapKept
import Derived.Laws.OwnMore
import Derived.Orders
import Derived.Shelf.SlIter.Nil
import Derived.Shelf.SortM.Plain
import Derived.Shelf.SortM.SortNone
import Derived.Ground.GgzProg
import Derived.Ground.SlgmProg
namespace Go.Proofs.YtifjccndenojlaaGreat
open Go.RowKit
theorem o_{p:Prop}(h:p:=by omega):p:=h
theorem a_{p:Prop}(h:p:=by assumption):p:=h
theorem s_{p:Prop}(h:p:=by simp):p:=h
theorem d_{p:Prop}(h:p:=by decide):p:=h
theorem aol:type_of% @List.mem_cons_self:=@List.mem_cons_self
theorem aom:type_of% @List.getElem?_eq_getElem:=@List.getElem?_eq_getElem
theorem aon:type_of% @Bool.and_eq_true:=@Bool.and_eq_true
theorem aoo:type_of% @List.mem_singleton:=@List.mem_singleton
theorem aop:type_of% @List.length_append:=@List.length_append
theorem aoq:type_of% @List.mem_cons_of_mem:=@List.mem_cons_of_mem
theorem aor:type_of% @List.append_nil:=@List.append_nil
theorem aos:type_of% @Nat.eq_of_beq_eq_true:=@Nat.eq_of_beq_eq_true
theorem aot:type_of% @List.mem_cons:=@List.mem_cons
theorem aou:type_of% @List.length_take:=@List.length_take
theorem aov:type_of% @List.mem_append:=@List.mem_append
theorem aow:type_of% @Result.andThen_ok:=@Result.andThen_ok
theorem aox:type_of% @Nat.le_of_ble_eq_true:=@Nat.le_of_ble_eq_true
theorem aoy:type_of% @Sem.run_bind:=@Sem.run_bind
theorem aoz:type_of% @List.eq_nil_of_length_eq_zero:=@List.eq_nil_of_length_eq_zero
theorem aoA:type_of% @List.mem_filter:=@List.mem_filter
theorem aoB:type_of% @Nat.zero_le:=@Nat.zero_le
theorem aoC:type_of% @List.getElem?_eq_some_iff:=@List.getElem?_eq_some_iff
theorem aoD:type_of% @List.all_eq_true:=@List.all_eq_true
theorem aoE:type_of% @List.length_cons:=@List.length_cons
theorem aoF:type_of% @List.take_of_length_le:=@List.take_of_length_le
theorem aoG:type_of% @List.getD_eq_getElem?_getD:=@List.getD_eq_getElem?_getD
theorem aoH:type_of% @Nat.le_refl:=@Nat.le_refl
theorem aoI:type_of% @List.length_filter_le:=@List.length_filter_le
theorem aoJ:type_of% @Option.some.injEq:=@Option.some.injEq
theorem aoK:type_of% @List.length_drop:=@List.length_drop
theorem aoL:type_of% @List.append_assoc:=@List.append_assoc
theorem aoM:type_of% @Nat.not_lt_zero:=@Nat.not_lt_zero
theorem aoN:type_of% @List.nil_append:=@List.nil_append
theorem aoO:type_of% @List.length_map:=@List.length_map
theorem aoP:type_of% @Nat.lt_or_ge:=@Nat.lt_or_ge
theorem aoQ:type_of% @Sem.run_pure:=@Sem.run_pure
theorem aoR:type_of% @List.mem_map:=@List.mem_map
theorem aoS:type_of% @List.getElem?_append_left:=@List.getElem?_append_left
theorem aoT:type_of% @List.mem_append_left:=@List.mem_append_left
theorem aoU:type_of% @Bool.eq_false_iff:=@Bool.eq_false_iff
theorem aoV:type_of% @List.mem_append_right:=@List.mem_append_right
theorem aoW:type_of% @List.getElem?_eq_none:=@List.getElem?_eq_none
theorem aoX:type_of% @Bool.not_eq_true':=@Bool.not_eq_true'
theorem aoY:type_of% @Array.length_toList:=@Array.length_toList
theorem aoZ:type_of% @List.length_nil:=@List.length_nil
theorem ao0:type_of% @List.getElem?_map:=@List.getElem?_map
theorem ao1:type_of% @List.getElem_mem:=@List.getElem_mem
theorem ao2:type_of% @List.getElem?_append_right:=@List.getElem?_append_right
theorem ao3:type_of% @List.mem_of_getElem?:=@List.mem_of_getElem?
theorem ao4:type_of% @List.filter_congr:=@List.filter_congr
theorem ao5:type_of% @Array.getElem?_eq_some_iff:=@Array.getElem?_eq_some_iff
theorem ao6:type_of% @List.cons_append:=@List.cons_append
theorem ao7:type_of% @Nat.le_trans:=@Nat.le_trans
theorem ao8:type_of% @List.filter_filter:=@List.filter_filter
theorem ao9:type_of% @List.nodup_append:=@List.nodup_append
theorem apa:type_of% @List.flatMap_cons:=@List.flatMap_cons
theorem apb:type_of% @Int.eq_ofNat_of_zero_le:=@Int.eq_ofNat_of_zero_le
theorem apc:type_of% @Int.toNat_natCast:=@Int.toNat_natCast
theorem apd:type_of% @List.map_cons:=@List.map_cons
theorem ape:type_of% @List.getElem_of_mem:=@List.getElem_of_mem
theorem apf:type_of% @Bool.or_eq_true:=@Bool.or_eq_true
theorem apg:type_of% @List.getElem?_take:=@List.getElem?_take
theorem aph:type_of% @Bool.false_eq_true:=@Bool.false_eq_true
theorem apj:type_of% @List.nodup_cons:=@List.nodup_cons
theorem apk:type_of% @Addr.add_lit:=@Addr.add_lit
theorem apl:type_of% @Nat.zero_add:=@Nat.zero_add
theorem apm:type_of% @Nat.ble_eq_true_of_le:=@Nat.ble_eq_true_of_le
theorem apn:type_of% @List.mem_of_mem_take:=@List.mem_of_mem_take
theorem apo:type_of% @List.filter_cons:=@List.filter_cons
theorem apq:type_of% @MapKept.run_getObj_map:=@MapKept.run_getObj_map
theorem apr:type_of% @List.length_eq_zero_iff:=@List.length_eq_zero_iff
theorem aps:type_of% @List.any_eq_true:=@List.any_eq_true
theorem apt:type_of% @List.map_append:=@List.map_append
theorem apu:type_of% @List.take_append_drop:=@List.take_append_drop
theorem apv:type_of% @UInt8.toNat_lt:=@UInt8.toNat_lt
theorem apw:type_of% @List.pairwise_append:=@List.pairwise_append
theorem apx:type_of% @Nat.mul_le_mul_right:=@Nat.mul_le_mul_right
theorem apy:type_of% @List.not_mem_nil:=@List.not_mem_nil
theorem apz:type_of% @List.getElem?_cons_zero:=@List.getElem?_cons_zero
theorem apA:type_of% @World.ownsRow_nil:=@World.ownsRow_nil
theorem apB:type_of% @List.take_add_one:=@List.take_add_one
theorem apC:type_of% @List.getElem?_drop:=@List.getElem?_drop
theorem apD:type_of% @Below.refl:=@Below.refl
theorem apE:type_of% @List.drop_left:=@List.drop_left
theorem apF:type_of% @Array.getElem?_toList:=@Array.getElem?_toList
theorem apG:type_of% @List.getD_cons_succ:=@List.getD_cons_succ
theorem apH:type_of% @List.take_length:=@List.take_length
theorem apI:type_of% @List.pairwise_singleton:=@List.pairwise_singleton
theorem apJ:type_of% @List.drop_eq_getElem_cons:=@List.drop_eq_getElem_cons
theorem apK:type_of% @List.perm_middle:=@List.perm_middle
theorem apL:type_of% @Std.Legacy.Range.forIn_eq_forIn_range':=@Std.Legacy.Range.forIn_eq_forIn_range'
theorem apM:type_of% @List.getD_cons_zero:=@List.getD_cons_zero
theorem apN:type_of% @Nat.add_mul:=@Nat.add_mul
theorem apO:type_of% @List.foldl_append:=@List.foldl_append
theorem apP:type_of% @Int.le_refl:=@Int.le_refl
theorem apQ:type_of% @Nat.lt_of_lt_of_le:=@Nat.lt_of_lt_of_le
theorem apR:type_of% @Option.map_some:=@Option.map_some
theorem apS:type_of% @UInt8.toNat_ofNat':=@UInt8.toNat_ofNat'
theorem apT:type_of% @List.filter_append:=@List.filter_append
theorem apU:type_of% @Array.getElem?_eq_none:=@Array.getElem?_eq_none
theorem apV:type_of% @List.ext_getElem?:=@List.ext_getElem?
theorem apW:type_of% @Prod.mk.injEq:=@Prod.mk.injEq
theorem apX:type_of% @List.length_mergeSort:=@List.length_mergeSort
theorem apY:type_of% @List.Perm.append_left:=@List.Perm.append_left
theorem apZ:type_of% @List.length_set:=@List.length_set
theorem ap0:type_of% @Nat.mod_eq_of_lt:=@Nat.mod_eq_of_lt
theorem ap1:type_of% @List.map_nil:=@List.map_nil
theorem ap2:type_of% @Nat.xor_assoc:=@Nat.xor_assoc
theorem ap3:type_of% @MapKept.run_setObj_map:=@MapKept.run_setObj_map
theorem ap4:type_of% @List.mem_range:=@List.mem_range
theorem ap5:type_of% @Nat.min_eq_left:=@Nat.min_eq_left
theorem ap6:type_of% @List.length_replicate:=@List.length_replicate
theorem ap7:type_of% @World.cell?_of_block:=@World.cell?_of_block
theorem ap8:type_of% @List.mem_of_mem_drop:=@List.mem_of_mem_drop
theorem ap9:type_of% @Bool.or_eq_false_iff:=@Bool.or_eq_false_iff
theorem ap':type_of% @List.getElem?_replicate:=@List.getElem?_replicate
theorem aqa:type_of% @List.getElem?_set:=@List.getElem?_set
theorem aqb:type_of% @List.replicate_succ:=@List.replicate_succ
theorem aqc:type_of% @Lib.hid:=@Lib.hid
theorem aqd:type_of% @Nat.succ_mul:=@Nat.succ_mul
theorem aqe:type_of% @Nat.mod_two_eq_zero_or_one:=@Nat.mod_two_eq_zero_or_one
theorem aqf:type_of% @List.take_succ_eq_append_getElem:=@List.take_succ_eq_append_getElem
theorem aqg:type_of% @List.drop_drop:=@List.drop_drop
theorem aqh:type_of% @List.perm_append_comm:=@List.perm_append_comm
theorem aqi:type_of% @Nat.add_sub_cancel:=@Nat.add_sub_cancel
theorem aqj:type_of% @List.pairwise_iff_getElem:=@List.pairwise_iff_getElem
theorem aqk:type_of% @Array.getElem?_eq_getElem:=@Array.getElem?_eq_getElem
theorem aql:type_of% @List.eraseIdx_eq_take_drop_succ:=@List.eraseIdx_eq_take_drop_succ
theorem aqm:type_of% @List.cons.injEq:=@List.cons.injEq
theorem aqn:type_of% @List.eq_of_mem_replicate:=@List.eq_of_mem_replicate
theorem aqo:type_of% @Nat.sub_zero:=@Nat.sub_zero
theorem aqp:type_of% @Array.ext':=@Array.ext'
theorem aqr:type_of% @List.any_filter:=@List.any_filter
theorem aqs:type_of% @List.getElem?_take_of_lt:=@List.getElem?_take_of_lt
theorem aqt:type_of% @List.take_append_of_le_length:=@List.take_append_of_le_length
theorem aqu:type_of% @List.eraseIdx_cons_succ:=@List.eraseIdx_cons_succ
theorem aqv:type_of% @List.flatMap_append:=@List.flatMap_append
theorem aqw:type_of% @Option.bind_some:=@Option.bind_some
theorem aqx:type_of% @List.filter_eq_nil_iff:=@List.filter_eq_nil_iff
theorem aqy:type_of% @Int.tmod_lt_of_pos:=@Int.tmod_lt_of_pos
theorem aqz:type_of% @List.foldl_cons:=@List.foldl_cons
theorem aqA:type_of% @Bool.true_and:=@Bool.true_and
theorem aqB:type_of% @List.any_eq_false:=@List.any_eq_false
theorem aqC:type_of% @List.length_range:=@List.length_range
theorem aqD:type_of% @Bool.not_eq_false:=@Bool.not_eq_false
theorem aqE:type_of% @Nat.pow_le_pow_right:=@Nat.pow_le_pow_right
theorem aqF:type_of% @List.exists_mem_of_ne_nil:=@List.exists_mem_of_ne_nil
theorem aqG:type_of% @Nat.sub_succ_lt_self:=@Nat.sub_succ_lt_self
theorem aqH:type_of% @Nat.shiftRight_eq_div_pow:=@Nat.shiftRight_eq_div_pow
theorem aqI:type_of% @List.length_eraseIdx:=@List.length_eraseIdx
theorem aqJ:type_of% @List.take_left:=@List.take_left
theorem aqK:type_of% @Nat.pow_succ:=@Nat.pow_succ
theorem aqL:type_of% @Nat.add_zero:=@Nat.add_zero
theorem aqM:type_of% @Below.heap_alloc:=@Below.heap_alloc
theorem aqN:type_of% @Nat.zero_mul:=@Nat.zero_mul
theorem aqO:type_of% @List.take_succ_cons:=@List.take_succ_cons
theorem aqP:type_of% @Ne.symm:=@Ne.symm
theorem aqQ:type_of% @Nat.eq_zero_or_pos:=@Nat.eq_zero_or_pos
theorem aqR:type_of% @Nat.xor_lt_two_pow:=@Nat.xor_lt_two_pow
theorem aqS:type_of% @Src.ofSlice:=@Src.ofSlice
theorem aqT:type_of% @List.getElem?_set_self:=@List.getElem?_set_self
theorem aqU:type_of% @List.drop_eq_nil_of_le:=@List.drop_eq_nil_of_le
theorem aqV:type_of% @Decidable.not_not:=@Decidable.not_not
theorem aqW:type_of% @Nat.beq_refl:=@Nat.beq_refl
theorem aqX:type_of% @List.take_take:=@List.take_take
theorem aqY:type_of% @List.take_append:=@List.take_append
theorem aqZ:type_of% @List.ext_getElem:=@List.ext_getElem
theorem aq0:type_of% @IntKind.wrap_u64:=@IntKind.wrap_u64
theorem aq1:type_of% @List.range'_succ:=@List.range'_succ
theorem aq2:type_of% @List.range'_zero:=@List.range'_zero
theorem aq3:type_of% @Bool.and_comm:=@Bool.and_comm
end Go.Proofs.YtifjccndenojlaaGreat
