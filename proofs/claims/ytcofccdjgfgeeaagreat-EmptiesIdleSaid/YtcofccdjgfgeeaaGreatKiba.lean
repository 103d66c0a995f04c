/- A part of the proof of emptiesIdle_holds. Conditions: none. -/
import Derived.Orders
import Derived.Below
import Derived.Laws.Rows
import Derived.Laws.MakeOwn
import Derived.Laws.OwnMore
import Derived.LoopN
import Derived.Scope
import Derived.RangeFuncRecord
import Derived.OrdersIn
import Derived.LoopNIn
import Derived.Laws.Entries
import Derived.Laws.Cells
import Derived.Laws.StructEq
import Derived.ProofKit
import Derived.JoinedOf
import Derived.ChangeSame
import Derived.WideKeyArgs
set_option linter.unusedVariables false
set_option linter.unusedSimpArgs false
namespace Px
abbrev w00:=@Option.some.injEq
abbrev w01:=@Nat.eq_of_beq_eq_true
abbrev w02:=@List.getElem?_eq_some_iff
abbrev w03:=@Bool.and_eq_true
abbrev w04:=@Option.bind_some
abbrev w05:=@Go.Result.andThen_ok
abbrev w06:=@Go.Sem.run_bind
abbrev w07:=@Array.getD_eq_getD_getElem?
abbrev w08:=@List.mem_cons
abbrev w09:=@List.getElem?_eq_getElem
abbrev w0a:=@List.mem_map
abbrev w0b:=@List.append_nil
abbrev w0c:=@Option.some.inj
abbrev w0d:=@List.length_append
abbrev w0e:=@List.map_cons
abbrev w0f:=@Prod.mk.injEq
abbrev w0g:=@List.all_eq_true
abbrev w0h:=@List.mem_cons_of_mem
abbrev w0i:=@List.mem_filter
abbrev w0j:=@Go.Sem.run_pure
abbrev w0k:=@List.length_cons
abbrev w0l:=@List.mem_cons_self
abbrev w0m:=@List.mem_append
abbrev w0n:=@List.getElem?_append_left
abbrev w0o:=@List.pairwise_cons
abbrev w0p:=@Nat.le_of_ble_eq_true
abbrev w0q:=@Bool.false_eq_true
abbrev w0r:=@List.getElem?_take
abbrev w0s:=@Nat.le_refl
abbrev w0t:=@List.append_assoc
abbrev w0u:=@Option.map_some
abbrev w0v:=@List.mem_singleton
abbrev w0w:=@List.flatMap_cons
abbrev w0x:=@List.length_map
abbrev w0y:=@Go.MapKept.run_getObj_map
abbrev w0z:=@Bool.not_eq_true'
abbrev w10:=@List.not_mem_nil
abbrev w11:=@List.getElem?_append_right
abbrev w12:=@List.mem_of_getElem?
abbrev w13:=@Nat.mul_le_mul_right
abbrev w14:=@List.take_append_drop
abbrev w15:=@Array.getElem?_append
abbrev w16:=@Nat.add_mul
abbrev w17:=@List.eq_nil_of_length_eq_zero
abbrev w18:=@Option.isSome_iff_exists
abbrev w19:=@Array.getElem?_eq_some_iff
abbrev w1a:=@List.getElem?_map
abbrev w1b:=@List.all_cons
abbrev w1c:=@Nat.zero_add
abbrev w1d:=@Go.World.putObj_heap_other
abbrev w1e:=@Option.getD_some
abbrev w1f:=@List.length_take
abbrev w1g:=@List.filter_append
abbrev w1h:=@Bool.or_eq_true
abbrev w1i:=@List.getElem?_set_self
abbrev w1j:=@Option.map_eq_some_iff
abbrev w1k:=@List.mem_append_left
abbrev w1l:=@List.getElem?_drop
abbrev w1m:=@List.getElem?_eq_none
abbrev w1n:=@List.mem_append_right
abbrev w1o:=@List.filter_cons
abbrev w1p:=@List.mem_range
abbrev w1q:=@List.getD_eq_getElem?_getD
abbrev w1r:=@Int.fdiv_eq_ediv_of_nonneg
abbrev w1s:=@Array.toList_modify
abbrev w1t:=@Array.getElem?_eq_getElem
abbrev w1u:=@List.length_nil
abbrev w1v:=@List.getElem?_set
abbrev w1w:=@List.getElem?_append
abbrev w1x:=@List.nodup_cons
abbrev w1y:=@Array.length_toList
abbrev w1z:=@List.getElem?_cons_zero
abbrev w20:=@List.getElem?_cons_succ
abbrev w21:=@List.take_append_of_le_length
abbrev w22:=@List.getElem?_set_ne
abbrev w23:=@Nat.blt_eq
abbrev w24:=@List.take_of_length_le
abbrev w25:=@List.map_append
abbrev w26:=@Nat.le_trans
abbrev w27:=@List.length_set
abbrev w28:=@List.cons.injEq
abbrev w29:=@List.take_length
abbrev w2a:=@List.cons_append
abbrev w2b:=@List.drop_append_of_le_length
abbrev w2c:=@List.filter_congr
abbrev w2d:=@Int.toNat_natCast
abbrev w2e:=@List.map_map
abbrev w2f:=@List.foldl_cons
abbrev w2g:=@Nat.lt_of_lt_of_le
abbrev w2h:=@List.any_eq_true
abbrev w2i:=@Bool.or_eq_false_iff
abbrev w2j:=@Nat.beq_refl
abbrev w2k:=@Nat.add_assoc
abbrev w2l:=@Go.MapKept.run_setObj_map
abbrev w2m:=@Nat.add_sub_cancel'
abbrev w2n:=@Bool.eq_iff_iff
abbrev w2o:=@Bool.not_true
abbrev w2p:=@Nat.zero_le
abbrev w2q:=@List.filter_cons_of_pos
abbrev w2r:=@List.pairwise_singleton
abbrev w2s:=@List.pairwise_map
abbrev w2t:=@Option.map_none
abbrev w2u:=@List.nil_append
abbrev w2v:=@List.toList_toArray
abbrev w2w:=@Bool.false_or
abbrev w2x:=@Array.all_eq_true_iff_forall_mem
abbrev w2y:=@List.take_succ_eq_append_getElem
abbrev w2z:=@Option.isNone_iff_eq_none
abbrev w30:=@Array.getElem?_setIfInBounds_ne
abbrev w31:=@List.set_set
abbrev w32:=@List.ext_getElem?
abbrev w33:=@Array.toList_push
abbrev w34:=@Int.mul_assoc
abbrev w35:=@List.flatMap_append
abbrev w36:=@List.take_append
abbrev w37:=@List.mem_flatMap
abbrev w38:=@List.drop_length_add_append
abbrev w39:=@Nat.sub_zero
abbrev w3a:=@Array.getElem?_toList
abbrev w3b:=@Int.ediv_nonneg
abbrev w3c:=@Int.ediv_mul_add_emod
abbrev w3d:=@Bool.true_and
abbrev w3e:=@List.drop_drop
abbrev w3f:=@Bool.not_false
abbrev w3g:=@Int.mul_nonneg
abbrev w3h:=@List.isEmpty_iff
abbrev w3i:=@List.filter_eq_self
abbrev w3j:=@Nat.add_sub_cancel_left
abbrev w3k:=@Option.bind_eq_some_iff
abbrev w3l:=@List.set_cons_succ
abbrev w3m:=@Int.ediv_lt_of_lt_mul
abbrev w3n:=@List.take_length_add_append
abbrev w3o:=@List.getElem?_of_mem
abbrev w3p:=@List.length_drop
abbrev w3q:=@List.range_eq_range'
abbrev w3r:=@Nat.lt_succ_self
abbrev w3s:=@List.any_cons
abbrev w3t:=@Bool.and_self
abbrev w3u:=@Int.tmod_eq_emod_of_nonneg
abbrev w3v:=@Int.add_mul
abbrev w3w:=@List.range_succ
abbrev w3x:=@Int.emod_nonneg
abbrev w3y:=@Nat.add_zero
abbrev w3z:=@Int.emod_lt_of_pos
abbrev w40:=@List.nodup_nil
abbrev w41:=@List.getElem?_replicate
abbrev w42:=@List.filter_cons_of_neg
abbrev w43:=@List.nodup_append
abbrev w44:=@Nat.le_succ
abbrev w45:=@List.filter_eq_nil_iff
abbrev w46:=@Nat.one_mul
abbrev w47:=@Nat.lt_irrefl
abbrev w48:=@Nat.le_of_not_lt
abbrev w49:=@List.range'_succ
abbrev w4a:=@List.perm_append_comm
abbrev w4b:=@Bool.and_eq_false_iff
abbrev w4c:=@Nat.min_eq_left
abbrev w4d:=@List.take_left'
abbrev w4e:=@Nat.mod_lt
abbrev w4f:=@List.eq_nil_iff_forall_not_mem
abbrev w4g:=@Array.ext'
abbrev w4h:=@Array.eq_empty_of_size_eq_zero
abbrev w4i:=@List.all_append
abbrev w4j:=@List.pairwise_append
abbrev w4k:=@Int.mul_le_mul_of_nonneg_right
abbrev w4l:=@Int.natCast_mul
abbrev w4m:=@Int.mul_comm
abbrev w4n:=@List.map_congr_left
abbrev w4o:=@Array.getElem?_push
abbrev w4p:=@List.take_take
abbrev w4q:=@Nat.pow_add
abbrev w4r:=@Int.mul_add
abbrev w4s:=@List.cons_beq_cons
abbrev w4t:=@Nat.lt_of_le_of_lt
abbrev w4u:=@Int.mul_right_comm
abbrev w4v:=@Int.mul_lt_mul_of_pos_right
abbrev w4w:=@List.perm_ext_iff_of_nodup
abbrev w4x:=@Int.tdiv_eq_ediv_of_nonneg
abbrev w4y:=@Nat.add_comm
abbrev w4z:=@Nat.div_eq_of_lt
abbrev w50:=@Nat.mul_comm
abbrev w51:=@List.drop_append
abbrev w52:=@List.flatMap_map
abbrev w53:=@List.foldlM_cons
abbrev w54:=@List.map_flatMap
abbrev w55:=@List.foldr_cons
abbrev w56:=@Array.size_push
abbrev w57:=@Int.le_refl
abbrev rg(a n:Int):Prop:=(0:Int)<=a/\a<n
def kk2{A0 A1 B R:Type}(f:A0->A1->R)(z:A0×A1×B):R:=f z.1 z.2.1
def kk3{A0 A1 A2 B R:Type}(f:A0->A1->A2->R)(z:A0×A1×A2×B):R:=f z.1 z.2.1 z.2.2.1
def kk4{A0 A1 A2 A3 B R:Type}(f:A0->A1->A2->A3->R)(z:A0×A1×A2×A3×B):R:=f z.1 z.2.1 z.2.2.1 z.2.2.2.1
def kk5{A0 A1 A2 A3 A4 B R:Type}(f:A0->A1->A2->A3->A4->R)(z:A0×A1×A2×A3×A4×B):R:=f z.1 z.2.1 z.2.2.1 z.2.2.2.1 z.2.2.2.2.1
def kk6{A0 A1 A2 A3 A4 A5 B R:Type}(f:A0->A1->A2->A3->A4->A5->R)(z:A0×A1×A2×A3×A4×A5×B):R:=f z.1 z.2.1 z.2.2.1 z.2.2.2.1 z.2.2.2.2.1 z.2.2.2.2.2.1
def kk7{A0 A1 A2 A3 A4 A5 A6 B R:Type}(f:A0->A1->A2->A3->A4->A5->A6->R)(z:A0×A1×A2×A3×A4×A5×A6×B):R:=f z.1 z.2.1 z.2.2.1 z.2.2.2.1 z.2.2.2.2.1 z.2.2.2.2.2.1 z.2.2.2.2.2.2.1
def kk8{A0 A1 A2 A3 A4 A5 A6 A7 B R:Type}(f:A0->A1->A2->A3->A4->A5->A6->A7->R)(z:A0×A1×A2×A3×A4×A5×A6×A7×B):R:=f z.1 z.2.1 z.2.2.1 z.2.2.2.1 z.2.2.2.2.1 z.2.2.2.2.2.1 z.2.2.2.2.2.2.1 z.2.2.2.2.2.2.2.1
def kk9{A0 A1 A2 A3 A4 A5 A6 A7 A8 B R:Type}(f:A0->A1->A2->A3->A4->A5->A6->A7->A8->R)(z:A0×A1×A2×A3×A4×A5×A6×A7×A8×B):R:=f z.1 z.2.1 z.2.2.1 z.2.2.2.1 z.2.2.2.2.1 z.2.2.2.2.2.1 z.2.2.2.2.2.2.1 z.2.2.2.2.2.2.2.1 z.2.2.2.2.2.2.2.2.1
def kk10{A0 A1 A2 A3 A4 A5 A6 A7 A8 A9 B R:Type}(f:A0->A1->A2->A3->A4->A5->A6->A7->A8->A9->R)(z:A0×A1×A2×A3×A4×A5×A6×A7×A8×A9×B):R:=f z.1 z.2.1 z.2.2.1 z.2.2.2.1 z.2.2.2.2.1 z.2.2.2.2.2.1 z.2.2.2.2.2.2.1 z.2.2.2.2.2.2.2.1 z.2.2.2.2.2.2.2.2.1 z.2.2.2.2.2.2.2.2.2.1
def kk11{A0 A1 A2 A3 A4 A5 A6 A7 A8 A9 A10 B R:Type}(f:A0->A1->A2->A3->A4->A5->A6->A7->A8->A9->A10->R)(z:A0×A1×A2×A3×A4×A5×A6×A7×A8×A9×A10×B):R:=f z.1 z.2.1 z.2.2.1 z.2.2.2.1 z.2.2.2.2.1 z.2.2.2.2.2.1 z.2.2.2.2.2.2.1 z.2.2.2.2.2.2.2.1 z.2.2.2.2.2.2.2.2.1 z.2.2.2.2.2.2.2.2.2.1 z.2.2.2.2.2.2.2.2.2.2.1
def kk12{A0 A1 A2 A3 A4 A5 A6 A7 A8 A9 A10 A11 B R:Type}(f:A0->A1->A2->A3->A4->A5->A6->A7->A8->A9->A10->A11->R)(z:A0×A1×A2×A3×A4×A5×A6×A7×A8×A9×A10×A11×B):R:=f z.1 z.2.1 z.2.2.1 z.2.2.2.1 z.2.2.2.2.1 z.2.2.2.2.2.1 z.2.2.2.2.2.2.1 z.2.2.2.2.2.2.2.1 z.2.2.2.2.2.2.2.2.1 z.2.2.2.2.2.2.2.2.2.1 z.2.2.2.2.2.2.2.2.2.2.1 z.2.2.2.2.2.2.2.2.2.2.2.1
def kk13{A0 A1 A2 A3 A4 A5 A6 A7 A8 A9 A10 A11 A12 B R:Type}(f:A0->A1->A2->A3->A4->A5->A6->A7->A8->A9->A10->A11->A12->R)(z:A0×A1×A2×A3×A4×A5×A6×A7×A8×A9×A10×A11×A12×B):R:=f z.1 z.2.1 z.2.2.1 z.2.2.2.1 z.2.2.2.2.1 z.2.2.2.2.2.1 z.2.2.2.2.2.2.1 z.2.2.2.2.2.2.2.1 z.2.2.2.2.2.2.2.2.1 z.2.2.2.2.2.2.2.2.2.1 z.2.2.2.2.2.2.2.2.2.2.1 z.2.2.2.2.2.2.2.2.2.2.2.1 z.2.2.2.2.2.2.2.2.2.2.2.2.1
def kk14{A0 A1 A2 A3 A4 A5 A6 A7 A8 A9 A10 A11 A12 A13 B R:Type}(f:A0->A1->A2->A3->A4->A5->A6->A7->A8->A9->A10->A11->A12->A13->R)(z:A0×A1×A2×A3×A4×A5×A6×A7×A8×A9×A10×A11×A12×A13×B):R:=f z.1 z.2.1 z.2.2.1 z.2.2.2.1 z.2.2.2.2.1 z.2.2.2.2.2.1 z.2.2.2.2.2.2.1 z.2.2.2.2.2.2.2.1 z.2.2.2.2.2.2.2.2.1 z.2.2.2.2.2.2.2.2.2.1 z.2.2.2.2.2.2.2.2.2.2.1 z.2.2.2.2.2.2.2.2.2.2.2.1 z.2.2.2.2.2.2.2.2.2.2.2.2.1 z.2.2.2.2.2.2.2.2.2.2.2.2.2.1
def kk15{A0 A1 A2 A3 A4 A5 A6 A7 A8 A9 A10 A11 A12 A13 A14 B R:Type}(f:A0->A1->A2->A3->A4->A5->A6->A7->A8->A9->A10->A11->A12->A13->A14->R)(z:A0×A1×A2×A3×A4×A5×A6×A7×A8×A9×A10×A11×A12×A13×A14×B):R:=f z.1 z.2.1 z.2.2.1 z.2.2.2.1 z.2.2.2.2.1 z.2.2.2.2.2.1 z.2.2.2.2.2.2.1 z.2.2.2.2.2.2.2.1 z.2.2.2.2.2.2.2.2.1 z.2.2.2.2.2.2.2.2.2.1 z.2.2.2.2.2.2.2.2.2.2.1 z.2.2.2.2.2.2.2.2.2.2.2.1 z.2.2.2.2.2.2.2.2.2.2.2.2.1 z.2.2.2.2.2.2.2.2.2.2.2.2.2.1 z.2.2.2.2.2.2.2.2.2.2.2.2.2.2.1
def kk16{A0 A1 A2 A3 A4 A5 A6 A7 A8 A9 A10 A11 A12 A13 A14 A15 B R:Type}(f:A0->A1->A2->A3->A4->A5->A6->A7->A8->A9->A10->A11->A12->A13->A14->A15->R)(z:A0×A1×A2×A3×A4×A5×A6×A7×A8×A9×A10×A11×A12×A13×A14×A15×B):R:=f z.1 z.2.1 z.2.2.1 z.2.2.2.1 z.2.2.2.2.1 z.2.2.2.2.2.1 z.2.2.2.2.2.2.1 z.2.2.2.2.2.2.2.1 z.2.2.2.2.2.2.2.2.1 z.2.2.2.2.2.2.2.2.2.1 z.2.2.2.2.2.2.2.2.2.2.1 z.2.2.2.2.2.2.2.2.2.2.2.1 z.2.2.2.2.2.2.2.2.2.2.2.2.1 z.2.2.2.2.2.2.2.2.2.2.2.2.2.1 z.2.2.2.2.2.2.2.2.2.2.2.2.2.2.1 z.2.2.2.2.2.2.2.2.2.2.2.2.2.2.2.1
def kk17{A0 A1 A2 A3 A4 A5 A6 A7 A8 A9 A10 A11 A12 A13 A14 A15 A16 B R:Type}(f:A0->A1->A2->A3->A4->A5->A6->A7->A8->A9->A10->A11->A12->A13->A14->A15->A16->R)(z:A0×A1×A2×A3×A4×A5×A6×A7×A8×A9×A10×A11×A12×A13×A14×A15×A16×B):R:=f z.1 z.2.1 z.2.2.1 z.2.2.2.1 z.2.2.2.2.1 z.2.2.2.2.2.1 z.2.2.2.2.2.2.1 z.2.2.2.2.2.2.2.1 z.2.2.2.2.2.2.2.2.1 z.2.2.2.2.2.2.2.2.2.1 z.2.2.2.2.2.2.2.2.2.2.1 z.2.2.2.2.2.2.2.2.2.2.2.1 z.2.2.2.2.2.2.2.2.2.2.2.2.1 z.2.2.2.2.2.2.2.2.2.2.2.2.2.1 z.2.2.2.2.2.2.2.2.2.2.2.2.2.2.1 z.2.2.2.2.2.2.2.2.2.2.2.2.2.2.2.1 z.2.2.2.2.2.2.2.2.2.2.2.2.2.2.2.2.1
def kk18{A0 A1 A2 A3 A4 A5 A6 A7 A8 A9 A10 A11 A12 A13 A14 A15 A16 A17 B R:Type}(f:A0->A1->A2->A3->A4->A5->A6->A7->A8->A9->A10->A11->A12->A13->A14->A15->A16->A17->R)(z:A0×A1×A2×A3×A4×A5×A6×A7×A8×A9×A10×A11×A12×A13×A14×A15×A16×A17×B):R:=f z.1 z.2.1 z.2.2.1 z.2.2.2.1 z.2.2.2.2.1 z.2.2.2.2.2.1 z.2.2.2.2.2.2.1 z.2.2.2.2.2.2.2.1 z.2.2.2.2.2.2.2.2.1 z.2.2.2.2.2.2.2.2.2.1 z.2.2.2.2.2.2.2.2.2.2.1 z.2.2.2.2.2.2.2.2.2.2.2.1 z.2.2.2.2.2.2.2.2.2.2.2.2.1 z.2.2.2.2.2.2.2.2.2.2.2.2.2.1 z.2.2.2.2.2.2.2.2.2.2.2.2.2.2.1 z.2.2.2.2.2.2.2.2.2.2.2.2.2.2.2.1 z.2.2.2.2.2.2.2.2.2.2.2.2.2.2.2.2.1 z.2.2.2.2.2.2.2.2.2.2.2.2.2.2.2.2.2.1
def kk19{A0 A1 A2 A3 A4 A5 A6 A7 A8 A9 A10 A11 A12 A13 A14 A15 A16 A17 A18 B R:Type}(f:A0->A1->A2->A3->A4->A5->A6->A7->A8->A9->A10->A11->A12->A13->A14->A15->A16->A17->A18->R)(z:A0×A1×A2×A3×A4×A5×A6×A7×A8×A9×A10×A11×A12×A13×A14×A15×A16×A17×A18×B):R:=f z.1 z.2.1 z.2.2.1 z.2.2.2.1 z.2.2.2.2.1 z.2.2.2.2.2.1 z.2.2.2.2.2.2.1 z.2.2.2.2.2.2.2.1 z.2.2.2.2.2.2.2.2.1 z.2.2.2.2.2.2.2.2.2.1 z.2.2.2.2.2.2.2.2.2.2.1 z.2.2.2.2.2.2.2.2.2.2.2.1 z.2.2.2.2.2.2.2.2.2.2.2.2.1 z.2.2.2.2.2.2.2.2.2.2.2.2.2.1 z.2.2.2.2.2.2.2.2.2.2.2.2.2.2.1 z.2.2.2.2.2.2.2.2.2.2.2.2.2.2.2.1 z.2.2.2.2.2.2.2.2.2.2.2.2.2.2.2.2.1 z.2.2.2.2.2.2.2.2.2.2.2.2.2.2.2.2.2.1 z.2.2.2.2.2.2.2.2.2.2.2.2.2.2.2.2.2.2.1
def kk20{A0 A1 A2 A3 A4 A5 A6 A7 A8 A9 A10 A11 A12 A13 A14 A15 A16 A17 A18 A19 B R:Type}(f:A0->A1->A2->A3->A4->A5->A6->A7->A8->A9->A10->A11->A12->A13->A14->A15->A16->A17->A18->A19->R)(z:A0×A1×A2×A3×A4×A5×A6×A7×A8×A9×A10×A11×A12×A13×A14×A15×A16×A17×A18×A19×B):R:=f z.1 z.2.1 z.2.2.1 z.2.2.2.1 z.2.2.2.2.1 z.2.2.2.2.2.1 z.2.2.2.2.2.2.1 z.2.2.2.2.2.2.2.1 z.2.2.2.2.2.2.2.2.1 z.2.2.2.2.2.2.2.2.2.1 z.2.2.2.2.2.2.2.2.2.2.1 z.2.2.2.2.2.2.2.2.2.2.2.1 z.2.2.2.2.2.2.2.2.2.2.2.2.1 z.2.2.2.2.2.2.2.2.2.2.2.2.2.1 z.2.2.2.2.2.2.2.2.2.2.2.2.2.2.1 z.2.2.2.2.2.2.2.2.2.2.2.2.2.2.2.1 z.2.2.2.2.2.2.2.2.2.2.2.2.2.2.2.2.1 z.2.2.2.2.2.2.2.2.2.2.2.2.2.2.2.2.2.1 z.2.2.2.2.2.2.2.2.2.2.2.2.2.2.2.2.2.2.1 z.2.2.2.2.2.2.2.2.2.2.2.2.2.2.2.2.2.2.2.1
end Px
section
namespace Px
open Go Go.RowKit
def Rec(o:Option Obj):Prop:=(∃l,o=some (.deferred l))\/∃r,o=some (.loop r)
structure VP where
 h :(Nat->Prop)->World->Value->Prop
 wk:∀{ro ro':Nat->Prop}{w w':World}{v:Value},(∀b,ro b->ro' b)->(∀b,ro b->¬Rec w.heap[b]?->w'.heap[b]? = w.heap[b]?)->h ro w v->h ro' w' v
theorem VP.mono(A:VP){ro ro':Nat->Prop}{w w':World}{v:Value}(h1:∀b,ro b->ro' b)(h2:∀b,ro b->w'.heap[b]? = w.heap[b]?)(h:A.h ro w v):A.h ro' w' v:=A.wk h1 (λb hb _=>h2 b hb) h
structure HP where
 h :(Nat->Prop)->(Nat->Prop)->World->Prop
 wk:∀{S ro ro':Nat->Prop}{w w':World},(∀b,ro b->ro' b)->(∀b,ro b->¬Rec w.heap[b]?->w'.heap[b]? = w.heap[b]?)->(∀b,S b->w'.heap[b]? = w.heap[b]?)->h S ro w->h S ro' w'
theorem HP.mono(A:HP){S ro ro':Nat->Prop}{w w':World}(h1:∀b,ro b->ro' b)(h2:∀b,ro b->w'.heap[b]? = w.heap[b]?)(h3:∀b,S b->w'.heap[b]? = w.heap[b]?)(h:A.h S ro w):A.h S ro' w':=A.wk h1 (λb hb _=>h2 b hb) h3 h
abbrev z8a:=Nat->Option VP
def z8a.set(s:z8a)(d:Option Nat)(x:VP):z8a:=match d with
 |some d=>λt=>bif Nat.beq t d then some x else s t
 |none=>s
structure St where
 slots:z8a
 objs:List HP
class Dr where
 p:Prop
instance(priority:=10):Dr:=⟨False⟩
structure Bel[Dr](B:Nat)(w w':World):Prop extends Below B w w' where
 drawn:Dr.p->w.drawn<=w'.drawn
theorem Bel.refl[Dr](B:Nat)(w:World):Bel B w w:=⟨Below.refl B w,λ_=>w0s _⟩
theorem Bel.trans[Dr]{B:Nat}{a b c:World}(h:Bel B a b)(k:Bel B b c):Bel B a c:=⟨h.toBelow.trans k.toBelow,λp=>w26 (h.drawn p) (k.drawn p)⟩
theorem Bel.mono[Dr]{B B':Nat}{w w':World}(h:Bel B w w')(hB:B'<=B):Bel B' w w':=⟨h.toBelow.mono hB,h.drawn⟩
theorem Bel.alloc[Dr]{B:Nat}{a w:World}(h:Bel B a w)(hB:B<=w.heap.size)(o:Obj):Bel B a (w.alloc o):=⟨h.toBelow.alloc hB o,h.drawn⟩
structure WInv[Dr](w0:World)(base:Nat)(objs:List HP)(ro:Nat->Prop)(S:Nat->Nat->Prop)(w:World):Prop where
 below:Bel base w0 w
 size:base<=w.heap.size
 obj:∀(i:Nat)(H:HP),objs[i]? = some H->H.h (S i) ro w
 own:∀i b,S i b->i<objs.length/\base<=b/\b<w.heap.size/\¬ro b
 apart:∀i j b,S i b->S j b->i=j
 old:∀b,ro b->b<w.heap.size
def ze(s:z8a)(a:Act)(ro:Nat->Prop)(w:World):Prop:=∀t A,s t=some A->A.h ro w (a.tmps.getD t undef)
def Evo(B:Nat)(ro:Nat->Prop)(w:World)(ro':Nat->Prop)(w':World):Prop:=(∀b,ro b->ro' b)/\(∀b,ro b->w'.heap[b]? = w.heap[b]?)/\∀b,ro' b->ro b\/B<=b
theorem Evo.refl(B:Nat)(ro:Nat->Prop)(w:World):Evo B ro w ro w:=⟨λ_ h=>h,λ_ _=>rfl,λ_ h=>.inl h⟩
theorem Evo.trans{B:Nat}{ro ro' ro'':Nat->Prop}{w w' w'':World}(h:Evo B ro w ro' w')(k:Evo B ro' w' ro'' w''):Evo B ro w ro'' w'':=⟨λb hb=>k.1 b (h.1 b hb),λb hb=>(k.2.1 b (h.1 b hb)).trans (h.2.1 b hb),λb hb=>(k.2.2 b hb).elim (h.2.2 b) .inr⟩
theorem VP.evo(A:VP){B:Nat}{ro ro':Nat->Prop}{w w':World}{v:Value}(e:Evo B ro w ro' w')(h:A.h ro w v):A.h ro' w' v:=A.mono e.1 e.2.1 h
theorem ze.evo{s:z8a}{a:Act}{B:Nat}{ro ro':Nat->Prop}{w w':World}(e:Evo B ro w ro' w')(h:ze s a ro w):ze s a ro' w':=λt A ht=>A.evo e (h t A ht)
structure Cx(P:Program)where
 w0:World
 base:Nat
 r0:Nat->Prop
 wI:World
 n:Nat
 rd:Option Nat:=none
 df:List Deferred:=[]
def Sat[Dr]{P:Program}(C:Cx P)(s:St)(a:Act)(w:World):Prop:=a.defers=C.df/\a.tmps.size=C.n/\∃ro S,WInv C.w0 C.base s.objs ro S w/\Evo C.base C.r0 C.wI ro w/\ze s.slots a ro w
def y0j[Dr]{P:Program}(C:Cx P)(c:Code)(s:St)(Q:Exit->Act->World->Prop):Prop:=∀a w,Sat C s a w->c.wp P Q a w
def AtX[Dr]{P:Program}(C:Cx P)(s:St)(e:Exit)(Q:Exit->Act->World->Prop):Prop:=∀a w,Sat C s a w->Q e a w
def OpT[Dr]{P:Program}(C:Cx P)(o:Oper)(s:St)(K:VP->List HP->Prop):Prop:=
 ∀a w ro S Q,a.defers=C.df->a.tmps.size=C.n->WInv C.w0 C.base s.objs ro S w->ze s.slots a ro w->
  o.wp P a w (λa' w'=>∃v ro' S' x objs',a'=a.put o.dst v/\Evo C.base ro w ro' w'/\WInv C.w0 C.base objs' ro' S' w'/\x.h ro' w' v/\K x objs') Q
def OpQ[Dr]{P:Program}(C:Cx P)(o:Oper)(s:St)(x:VP):Prop:=OpT C o s λy objs=>y=x/\objs=s.objs
def zie[Dr]{P:Program}(C:Cx P)(ops:Array Oper)(l:List Nat)(s:St)(Q:Exit->Act->World->Prop):Prop:=∀a w,Sat C s a w->wpOps P ops Q l a w
abbrev fz(rd:Option Nat):Fence:={ fn:=λ_=>True,depth:=none,alive:=false,round:=rd }
theorem y0n{rd:Option Nat}{n:Nat}{P:Program}{f:FuncId}{args:Array Value}{w:World}{R:Ending->World->Prop}(h:Calls P f args w R):CallsIn (fz rd) n P f args w R:=by have h1:CallsIn Fence.wide n P f args w R:=callsIn_wide.2 h;exact h1
theorem y7n{n:Nat}{P:Program}{f:FuncId}{args:Array Value}{w:World}{R:Ending->World->Prop}(h:CallsIn (fz none) n P f args w R):Calls P f args w R:=callsIn_wide.1 h
theorem Oper.wp_fz{rd:Option Nat}{P:Program}{o:Oper}{a:Act}{w:World}{next:Act->World->Prop}{Q:Exit->Act->World->Prop}(hnd:∀c,o.op≠.defer c)(h:o.wp P a w next Q):o.wpIn (fz rd) 0 P a w next Q:=by
 unfold Oper.wp at h;refine⟨λ_ _=>trivial,?_⟩;rw[Oper.semAt_eq _ _ _ hnd];generalize (execOp a.eval o).run P w=x at h;cases x with
 |ok x w'=>
  cases x with
  |enter f args=>exact⟨λe=>by simp at e,y0n h⟩
  |row row args=>exact⟨λe=>by simp at e,λc cs _=>let ⟨v,w',r,s⟩:=h c cs;⟨v,w',r,stepsIn_wide.2 s⟩⟩
  |value v=>exact h
  |skip=>exact h
  |defer d=>exact h
  |_=>exact h.elim
 |halt x w'=>
  cases x with
  |panic v=>exact h
  |_=>exact h.elim
theorem OpT.nd[Dr]{P:Program}{C:Cx P}{o:Oper}{s:St}{K:VP->List HP->Prop}(h:OpT C o s K){a:Act}{w:World}{ro:Nat->Prop}{S:Nat->Nat->Prop}(hd:a.defers=C.df)(hn:a.tmps.size=C.n)
  (hw:WInv C.w0 C.base s.objs ro S w) (hs:ze s.slots a ro w):∀c,o.op≠.defer c:=by
 intro c hc;have h1:=h a w ro S (λ_ _ _=>False) hd hn hw hs;unfold Oper.wp at h1;have e:execOp a.eval o =(do pure (.defer (<- resolve a.eval c o.type))):=by unfold execOp;rw[hc]
 rw[e,w06] at h1;generalize (resolve a.eval c o.type).run P w=x at h1;cases x with
 |ok d w'=>obtain⟨v,_,_,_,_,e2,_⟩:=h1;have:=congrArg (λa:Act=>a.defers.length) e2;cases hdst:o.dst<;>simp[Act.put,hdst] at this
 |halt x w'=>cases x<;>exact h1
theorem OpT.fz[Dr]{rd:Option Nat}{P:Program}{C:Cx P}{o:Oper}{s:St}{K:VP->List HP->Prop}(h:OpT C o s K)(a:Act)(w:World)(ro:Nat->Prop)(S:Nat->Nat->Prop)(Q:Exit->Act->World->Prop)(hd:a.defers=C.df)(hn:a.tmps.size=C.n)
  (hw:WInv C.w0 C.base s.objs ro S w) (hs:ze s.slots a ro w) :
  o.wpIn (Px.fz rd) 0 P a w (λa' w'=>∃v ro' S' x objs',a'=a.put o.dst v/\Evo C.base ro w ro' w'/\WInv C.w0 C.base objs' ro' S' w'/\x.h ro' w' v/\K x objs') Q:=
 Oper.wp_fz (h.nd hd hn hw hs) (h a w ro S Q hd hn hw hs)
theorem zrq{rd:Option Nat}{P:Program}{Q:Exit->Act->World->Prop}{a:Act}{w:World}{c:Code}(h:c.wpIn (fz rd) 0 P (Exit.noGoto Q) a w):(Code.scope c).wpIn (fz rd) 0 P Q a w:=by
 intro b k cs hro hb hr;obtain⟨e,a1,w1,hq,harr⟩:=h b (.inScope c::k) cs hro hb hr;have s1:StepsIn (Machine.fenced P (fz rd)) P (lone (b.atR a (.code (.scope c)::k)) cs w) (lone (b.atR a (.code c::.inScope c::k)) cs w):=.one (fenced_calm hb hr rfl) (step_lone_go (by simp[stepG,stepG.exec,Frame.atR]));cases e with
 |normal=>exact⟨.normal,a1,w1,hq,s1.trans (StepsIn.trans harr (.one (fenced_calm hb hr rfl) (step_lone_go (by simp[stepG,stepG.exec,Frame.atR]))))⟩
 |exit id=>exact⟨.exit id,a1,w1,hq,.of_steps s1 ⟨λk' hk=>harr.1 k' (by simp[exitTo,hk]),λhr' hk=>harr.2 hr' (by simp[exitTo,hk])⟩⟩
 |goto l=>exact hq.elim
 |ret=>exact⟨_,a1,w1,hq,.of_steps s1 harr⟩
 |panic ch=>exact⟨_,a1,w1,hq,.of_steps s1 harr⟩
 |outgrown=>exact⟨_,a1,w1,hq,.of_steps s1 harr⟩
theorem zj7(a:Act)(d:Option Nat)(v:Value)(t:Nat)(hd:∀x,d=some x->x<a.tmps.size):
  (a.put d v).tmps.getD t undef=if d=some t then v else a.tmps.getD t undef:=by
 cases d with
 |none=>simp[Act.put]
 |some d=>
  have hlt:=hd d rfl;by_cases h:d=t
  .subst h;simp[Act.put,hlt]
  .simp[Act.put,h,w30 h]
theorem znn{a b:Nat}(h:a≠b):Nat.beq a b=false:=by
 cases hb:Nat.beq a b with
 |false=>rfl
 |true=>exact absurd (w01 hb) h
theorem ze.put{s:z8a}{a:Act}{ro:Nat->Prop}{w:World}{x:VP}{v:Value}{d:Option Nat}(hd:∀y,d=some y->y<a.tmps.size)
  (h:ze s a ro w) (hx:x.h ro w v):ze (s.set d x) (a.put d v) ro w:=by
 intro t A ht;rw[zj7 a d v t hd];cases d with
 |none=>simpa[z8a.set] using h t A (by simpa[z8a.set] using ht)
 |some d=>
  simp only[z8a.set] at ht;by_cases e:t=d
  .subst e;rw[w2j] at ht;simp only[cond_true,w00] at ht;subst ht;simpa using hx
  .rw[znn e] at ht;have e':¬d=t:=λh=>e h.symm
   rw[if_neg (by simpa using e')];exact h t A ht
def z6m{P:Program}(C:Cx P)(o:Oper):Bool:=match o.dst with|some d=>decide (d<C.n)|none=>true
theorem zh4{P:Program}{C:Cx P}{o:Oper}(h:z6m C o=true){a:Act}(ha:a.tmps.size=C.n):∀y,o.dst=some y->y<a.tmps.size:=by intro y hy;simp[z6m,hy] at h;rw[ha];exact h
section run
variable{P:Program}{C:Cx P}{ops:Array Oper}{i:Nat}{rest:List Nat}{s:St}{Q:Exit->Act->World->Prop}{o:Oper}
theorem y6e[Dr]{a:Act}{w w':World}{ro ro':Nat->Prop}{S':Nat->Nat->Prop}{x:VP}{objs:List HP}{v:Value}(hr:z6m C o=true)
  (hd:a.defers=C.df) (hn:a.tmps.size=C.n) (hs:ze s.slots a ro w) (e0:Evo C.base C.r0 C.wI ro w) (e:Evo C.base ro w ro' w') (hw:WInv C.w0 C.base objs ro' S' w') (hx:x.h ro' w' v) :
  Sat C ⟨s.slots.set o.dst x,objs⟩ (a.put o.dst v) w':=by
 refine⟨?_,?_,ro',S',hw,e0.trans e,ze.put (zh4 hr hn) (hs.evo e) hx⟩
 .cases h:o.dst<;>simp[Act.put,hd]
 .cases h:o.dst<;>simp[Act.put,hn]
theorem OpT.mono[Dr]{K K':VP->List HP->Prop}(h:OpT C o s K)(hk:∀x objs,K x objs->K' x objs):OpT C o s K':=by intro a w ro S Q hd hn hw hs;refine Oper.wp_mono ?_ (h a w ro S Q hd hn hw hs);rintro a' w' ⟨v,ro',S',x,objs',ha,e,hw',hx,hkk⟩;exact⟨v,ro',S',x,objs',ha,e,hw',hx,hk _ _ hkk⟩
def cnd(c:Prop)(x:VP):VP:=⟨λro w v=>(c->x.h ro w v)/\(¬c->v=undef),λh1 h2 h=>⟨λhc=>x.wk h1 h2 (h.1 hc),h.2⟩⟩
def eqv(u:Value):VP:=⟨λ_ _ v=>v=u,λ_ _ h=>h⟩
abbrev iv(k:IntKind)(n:Int):VP:=eqv (.int k n)
abbrev bv(b:Bool):VP:=eqv (.bool b)
theorem ze1{a:Act}{j t:Nat}(hj :(ops[j]?).bind (·.dst)=some t):(∀g,a.tmps.getD t undef = .bool g->yielded ops a.tmps j=some g)/\(a.tmps.getD t undef=undef->yielded ops a.tmps j=none):=by
 cases ho':ops[j]? with
 |none=>rw[ho'] at hj;simp at hj
 |some oj=>
  rw[ho'] at hj;simp only[w04] at hj;by_cases hlt:t<a.tmps.size
  .simp only[w07,w1t hlt,w1e];refine⟨λg hg=>?_,λhu=>?_⟩
   .simp[yielded,ho',hj,hlt,hg]
   .simp[yielded,ho',hj,hlt,hu,undef]
  .rw[w07,Array.getElem?_eq_none (by omega)];refine⟨λg hg=>by simp[undef] at hg,λ_=>?_⟩;simp[yielded,ho',hj,w48 hlt]
theorem zie.cons_g'[Dr](x:VP)(p:Prop){j:Nat}{want:Bool}(ho:ops[i]? = some o)(hg:o.guard=some (j,want))(hr:z6m C o=true)
  (hy:∀a ro w,ze s.slots a ro w->(p->yielded ops a.tmps j=some want)/\(¬p->yielded ops a.tmps j≠some want)) (hq:p->OpQ C o s x)
  (h:zie C ops rest ⟨s.slots.set o.dst (cnd p x),s.objs⟩ Q):zie C ops (i::rest) s Q:=by
 rintro a w ⟨hd,hn,ro,S,hw,he,hs⟩;obtain⟨hy1,hy2⟩:=hy a ro w hs;simp only[wpOps,ho,Region.wanted,hg];by_cases hc:p
 .simp only[hy1 hc,BEq.rfl,if_true];refine .inl (Oper.wp_mono ?_ (hq hc a w ro S Q hd hn hw hs));rintro a' w' ⟨v,ro',S',y,objs',rfl,e,hw',hx,rfl,rfl⟩;exact h _ _ (y6e hr hd hn hs he e hw' ⟨λ_=>hx,λh=>absurd hc h⟩)
 .have :(yielded ops a.tmps j==some want)=false:=by
   cases hb :(yielded ops a.tmps j==some want) with
   |false=>rfl
   |true=>exact absurd (by simpa using hb) (hy2 hc)
  rw[this];simp only[w0q,if_false];exact h _ _ (y6e hr hd hn hs he (Evo.refl _ _ _) hw ⟨λh=>absurd h hc,λ_=>rfl⟩)
theorem zst{s:z8a}{a:Act}{ro:Nat->Prop}{w:World}{j t:Nat}{g want:Bool}(hj :(ops[j]?).bind (·.dst)=some t)(ht:s t=some (bv g))(hs:ze s a ro w):
  (g=want->yielded ops a.tmps j=some want)/\(¬g=want->yielded ops a.tmps j≠some want):=by
 have h:=(ze1 (a:=a) hj).1 g (hs t _ ht);exact⟨λe=>e ▸ h,λe h'=>e (by rw[h] at h';simpa using h')⟩
theorem zxg{s:z8a}{a:Act}{ro:Nat->Prop}{w:World}{j t:Nat}{c:Prop}{g want:Bool}(hj :(ops[j]?).bind (·.dst)=some t)(ht:s t=some (cnd c (bv g)))(hs:ze s a ro w):
  ((c/\g=want)->yielded ops a.tmps j=some want)/\(¬(c/\g=want)->yielded ops a.tmps j≠some want):=by
 obtain⟨h1,h2⟩:=hs t _ ht;refine⟨λ⟨hc,e⟩=>e ▸ (ze1 (a:=a) hj).1 g (h1 hc),λhn h'=>?_⟩;by_cases hc:c
 .have:=(ze1 (a:=a) hj).1 g (h1 hc)
  rw[h'] at this;simp at this;exact hn ⟨hc,this.symm⟩
 .have:=(ze1 (a:=a) hj).2 (h2 hc)
  rw[h'] at this;cases this
theorem zie.cons_g[Dr](x:VP)(g:Bool){j:Nat}{want:Bool}{t:Nat}(ho:ops[i]? = some o)(hg:o.guard=some (j,want))(hr:z6m C o=true)
  (hj :(ops[j]?).bind (·.dst)=some t) (ht:s.slots t=some (bv g)) (hq:g=want->OpQ C o s x)
  (h:zie C ops rest ⟨s.slots.set o.dst (cnd (g=want) x),s.objs⟩ Q):zie C ops (i::rest) s Q:=
 .cons_g' x (g=want) ho hg hr (λ_ _ _ hs=>zst hj ht hs) hq h
theorem WInv.drawn[Dr]{w0:World}{base:Nat}{objs:List HP}{ro:Nat->Prop}{S:Nat->Nat->Prop}{w:World}(h:WInv w0 base objs ro S w)(k:Nat)(hk:w.drawn<=k):
  WInv w0 base objs ro S { w with drawn:=k } where
 below:=⟨⟨h.below.os,h.below.tape,h.below.output,h.below.size,h.below.block⟩,λp=>w26 (h.below.drawn p) hk⟩
 size:=h.size
 obj:=λi H hi=>H.mono (w:=w) (λ_ h=>h) (λ_ _=>rfl) (λ_ _=>rfl) (h.obj i H hi)
 own:=h.own
 apart:=h.apart
 old:=h.old
theorem Sat.drawn[Dr]{a:Act}{w:World}(h:Sat C s a w)(k:Nat)(hk:w.drawn<=k):Sat C s a { w with drawn:=k }:=by obtain⟨hd,hn,ro,S,hw,he,hs⟩:=h;exact⟨hd,hn,ro,S,hw.drawn k hk,⟨he.1,he.2.1,he.2.2⟩,hs.evo (B:=0) (w:=w) ⟨λ_ h=>h,λ_ _=>rfl,λ_ h=>.inl h⟩⟩
end run
section code
variable{P:Program}{C:Cx P}{s:St}{Q:Exit->Act->World->Prop}{x y c:Code}
theorem y0j.seq[Dr](h:y0j C x s (Exit.then (y.wp P Q) Q)):y0j C (.seq x y) s Q:=λa w hs=>wp_seq (h a w hs)
end code
end Px
end
section
namespace Px
open Go Go.RowKit
def Ev(s:St)(x:Operand)(A:VP):Prop:=∀a ro w,ze s.slots a ro w->A.h ro w (a.eval x)
theorem Ev.tmp{s:St}{t:Nat}{A:VP}(h:s.slots t=some A):Ev s (.tmp t) A:=λa ro w hs=>hs t A h
theorem Ev.const{s:St}(v:Value):Ev s (.const v) (eqv v):=λ_ _ _ _=>rfl
theorem Ev.func{s:St}(f:Nat):Ev s (.func f) (eqv (.func (.func f) #[] #[])):=λ_ _ _ _=>rfl
def topv:VP:=⟨λ_ _ _=>True,λ_ _ h=>h⟩
section
variable{P:Program}{C:Cx P}{o:Oper}{s:St}
theorem OpQ.val[Dr]{x:VP}(h:∀a ro w,ze s.slots a ro w->∃v,(execOp a.eval o).run P w = .ok (.value v) w/\x.h ro w v):OpQ C o s x:=by intro a w ro S Q hd hn hw hs;obtain⟨v,hr,hx⟩:=h a ro w hs;unfold Oper.wp;rw[hr,Oper.upon_value];exact⟨v,ro,S,x,s.objs,rfl,Evo.refl _ _ _,hw,hx,rfl,rfl⟩
theorem OpQ.valO[Dr]{x:VP}(h:∀a ro S w,WInv C.w0 C.base s.objs ro S w->ze s.slots a ro w->∃v,(execOp a.eval o).run P w = .ok (.value v) w/\x.h ro w v):OpQ C o s x:=by intro a w ro S Q hd hn hw hs;obtain⟨v,hr,hx⟩:=h a ro S w hw hs;unfold Oper.wp;rw[hr,Oper.upon_value];exact⟨v,ro,S,x,s.objs,rfl,Evo.refl _ _ _,hw,hx,rfl,rfl⟩
end
section ops
variable{P:Program}{C:Cx P}{s:St}{dst:Option Tmp}{ty:TypeId}{pos:String}{after:Array Edge}{guard:Option (Nat×Bool)}
theorem yg8[Dr]{x:Operand}{A:VP}(h:Ev s x A):OpQ C ⟨dst,.move x,ty,pos,after,guard⟩ s A:=
 .val λa ro w hs=>⟨_,rfl,h a ro w hs⟩
theorem y9g[Dr]{x:Operand}{A:VP}(h:Ev s x A):OpQ C ⟨dst,.assign x,ty,pos,after,guard⟩ s A:=
 .val λa ro w hs=>⟨_,rfl,h a ro w hs⟩
theorem zzx[Dr]{c x y:Operand}{A:VP}{g:Bool}(hc:Ev s c (bv g))(hx:g=true->Ev s x A)(hy:g=false->Ev s y A):OpQ C ⟨dst,.pick c x y,ty,pos,after,guard⟩ s A:=
 .val λa ro w hs=>by
  have:=hc a ro w hs;simp only[bv,eqv] at this;cases g
  .exact⟨a.eval y,by simp[execOp,this,asBool],hy rfl a ro w hs⟩
  .exact⟨a.eval x,by simp[execOp,this,asBool],hx rfl a ro w hs⟩
theorem yha[Dr]{c x y:Operand}{g q:Bool}(hc:Ev s c (bv g))(hx:g=true->Ev s x (bv q))(hy:Ev s y (bv false)):OpQ C ⟨dst,.pick c x y,ty,pos,after,guard⟩ s (bv (g&&q)):=zzx hc (λh=>by subst h;simpa using hx rfl) (λh=>by subst h;simpa using hy)
theorem opOr[Dr]{c x y:Operand}{g q:Bool}(hc:Ev s c (bv g))(hx:Ev s x (bv true))(hy:g=false->Ev s y (bv q)):OpQ C ⟨dst,.pick c x y,ty,pos,after,guard⟩ s (bv (g||q)):=zzx hc (λh=>by subst h;simpa using hx) (λh=>by subst h;simpa using hy rfl)
theorem zjk[Dr]{op:BinOp}{t t':TypeId}{x y:Operand}{k:IntKind}{m n:Int}{A:VP}(hx:Ev s x (iv k m))(hy:Ev s y (iv k n))
  (hr:∀w:World,∃v,(binOp op t (.int k m) (.int k n)).run P w = .ok v w/\∀ro w,A.h ro w v):OpQ C ⟨dst,.binOp op t x y t',ty,pos,after,guard⟩ s A:=
 .val λa ro w hs=>by
  have h1:=hx a ro w hs;have h2:=hy a ro w hs;simp only[iv,eqv] at h1 h2;obtain⟨v,hv,hA⟩:=hr w;refine⟨v,?_,hA ro w⟩;have hg :(eqGuard op t x y (.int k m) (.int k n)).run P w = .ok () w:=by cases op<;>simp[eqGuard]
  simp[execOp,h1,h2,hv,hg]
section int
variable{t t':TypeId}{x y:Operand}{k:IntKind}{m n:Int}(hx:Ev s x (iv k m))(hy:Ev s y (iv k n))
include hx hy
theorem yfy[Dr]:OpQ C ⟨dst,.binOp .add t x y t',ty,pos,after,guard⟩ s (iv k (k.wrap (m+n))):=zjk hx hy λw=>⟨_,by simp only[binOp,Op.intArith,ne_eq,not_true_eq_false,if_false];rfl,λ_ _=>rfl⟩
theorem yhs[Dr]:OpQ C ⟨dst,.binOp .sub t x y t',ty,pos,after,guard⟩ s (iv k (k.wrap (m-n))):=zjk hx hy λw=>⟨_,by simp only[binOp,Op.intArith,ne_eq,not_true_eq_false,if_false];rfl,λ_ _=>rfl⟩
theorem yhl[Dr]:OpQ C ⟨dst,.binOp .mul t x y t',ty,pos,after,guard⟩ s (iv k (k.wrap (m*n))):=zjk hx hy λw=>⟨_,by simp only[binOp,Op.intArith,ne_eq,not_true_eq_false,if_false];rfl,λ_ _=>rfl⟩
theorem yhq[Dr](h0:n≠0):OpQ C ⟨dst,.binOp .quo t x y t',ty,pos,after,guard⟩ s (iv k (k.wrap (m.tdiv n))):=zjk hx hy λw=>⟨_,by simp only[binOp,Op.intDiv,h0,ne_eq,not_true_eq_false,if_false];rfl,λ_ _=>rfl⟩
theorem yhr[Dr](h0:n≠0):OpQ C ⟨dst,.binOp .rem t x y t',ty,pos,after,guard⟩ s (iv k (m.tmod n)):=zjk hx hy λw=>⟨_,by simp only[binOp,Op.intDiv,h0,ne_eq,not_true_eq_false,if_false];rfl,λ_ _=>rfl⟩
theorem yfz[Dr]:OpQ C ⟨dst,.binOp .and t x y t',ty,pos,after,guard⟩ s (iv k (k.wrap (BitVec.ofInt k.bits m&&& BitVec.ofInt k.bits n).toNat)):=zjk hx hy λw=>⟨_,by simp only[binOp,Op.intBits,ne_eq,not_true_eq_false,if_false];rfl,λ_ _=>rfl⟩
theorem yhb[Dr]:OpQ C ⟨dst,.binOp .or t x y t',ty,pos,after,guard⟩ s (iv k (k.wrap (BitVec.ofInt k.bits m||| BitVec.ofInt k.bits n).toNat)):=zjk hx hy λw=>⟨_,by simp only[binOp,Op.intBits,ne_eq,not_true_eq_false,if_false];rfl,λ_ _=>rfl⟩
theorem yg0[Dr]:OpQ C ⟨dst,.binOp .xor t x y t',ty,pos,after,guard⟩ s (iv k (k.wrap (BitVec.ofInt k.bits m ^^^ BitVec.ofInt k.bits n).toNat)):=zjk hx hy λw=>⟨_,by simp only[binOp,Op.intBits,ne_eq,not_true_eq_false,if_false];rfl,λ_ _=>rfl⟩
theorem yhe[Dr]:OpQ C ⟨dst,.binOp .eql t x y t',ty,pos,after,guard⟩ s (bv (m==n)):=zjk hx hy λw=>⟨_,by simp only[binOp,Op.intCmp,ne_eq,not_true_eq_false,if_false];rfl,λ_ _=>rfl⟩
theorem yho[Dr]:OpQ C ⟨dst,.binOp .neq t x y t',ty,pos,after,guard⟩ s (bv (m !=n)):=zjk hx hy λw=>⟨_,by simp only[binOp,Op.intCmp,ne_eq,not_true_eq_false,if_false];rfl,λ_ _=>rfl⟩
theorem yhi[Dr]:OpQ C ⟨dst,.binOp .lss t x y t',ty,pos,after,guard⟩ s (bv (decide (m<n))):=zjk hx hy λw=>⟨_,by simp only[binOp,Op.intCmp,ne_eq,not_true_eq_false,if_false];rfl,λ_ _=>rfl⟩
theorem yhh[Dr]:OpQ C ⟨dst,.binOp .leq t x y t',ty,pos,after,guard⟩ s (bv (decide (m<=n))):=zjk hx hy λw=>⟨_,by simp only[binOp,Op.intCmp,ne_eq,not_true_eq_false,if_false];rfl,λ_ _=>rfl⟩
theorem yhg[Dr]:OpQ C ⟨dst,.binOp .gtr t x y t',ty,pos,after,guard⟩ s (bv (decide (n<m))):=zjk hx hy λw=>⟨_,by simp only[binOp,Op.intCmp,ne_eq,not_true_eq_false,if_false];rfl,λ_ _=>rfl⟩
theorem yhf[Dr]:OpQ C ⟨dst,.binOp .geq t x y t',ty,pos,after,guard⟩ s (bv (decide (n<=m))):=zjk hx hy λw=>⟨_,by simp only[binOp,Op.intCmp,ne_eq,not_true_eq_false,if_false];rfl,λ_ _=>rfl⟩
end int
theorem yga[Dr]{t t':TypeId}{x y:Operand}{k k':IntKind}{m n:Int}(hx:Ev s x (iv k m))(hy:Ev s y (iv k' n))(h0:0<=n):
  OpQ C ⟨dst,.binOp .shl t x y t',ty,pos,after,guard⟩ s (iv k (k.wrap (m*2 ^ (min n.toNat k.bits)))):=
 .val λa ro w hs=>by
  have h1:=hx a ro w hs;have h2:=hy a ro w hs;simp only[iv,eqv] at h1 h2;refine⟨_,?_,rfl⟩;simp only[execOp,h1,h2,eqGuard,binOp,Op.shift,if_neg (Int.not_lt.2 h0)];rfl
theorem ygb[Dr]{t t':TypeId}{x y:Operand}{k k':IntKind}{m n:Int}(hx:Ev s x (iv k m))(hy:Ev s y (iv k' n))(h0:0<=n):
  OpQ C ⟨dst,.binOp .shr t x y t',ty,pos,after,guard⟩ s (iv k (m.fdiv (2 ^ (min n.toNat k.bits)))):=
 .val λa ro w hs=>by
  have h1:=hx a ro w hs;have h2:=hy a ro w hs;simp only[iv,eqv] at h1 h2;refine⟨_,?_,rfl⟩;simp only[execOp,h1,h2,eqGuard,binOp,Op.shift,if_neg (Int.not_lt.2 h0)];rfl
theorem zn3{P:Program}(w:World)(d:Nat){t:TypeId}(m n:Bool)(ht:P.underlying t=some .bool):
  (Op.equalIn (d+1) t (.bool m) (.bool n)).run P w = .ok (m==n) w:=by
 simp[Op.equalIn,run_underlying ht]
theorem zhn{P:Program}(w:World){t:TypeId}(m n:Bool)(ht:P.underlying t=some .bool):
  (Op.equal t (.bool m) (.bool n)).run P w = .ok (m==n) w:=zn3 w 9999 m n ht
theorem yg3[Dr]{t t':TypeId}{x y:Operand}{m n:Bool}(ht:P.underlying t=some .bool)(hx:Ev s x (bv m))(hy:Ev s y (bv n)):
  OpQ C ⟨dst,.binOp .eql t x y t',ty,pos,after,guard⟩ s (bv (m==n)):=
 .val λa ro w hs=>by
  have h1:=hx a ro w hs;have h2:=hy a ro w hs;simp only[bv,eqv] at h1 h2;refine⟨_,?_,rfl⟩;simp[execOp,h1,h2,eqGuard,binOp,zhn w m n ht]
theorem yg9[Dr]{t t':TypeId}{x y:Operand}{m n:Bool}(ht:P.underlying t=some .bool)(hx:Ev s x (bv m))(hy:Ev s y (bv n)):
  OpQ C ⟨dst,.binOp .neq t x y t',ty,pos,after,guard⟩ s (bv (m !=n)):=
 .val λa ro w hs=>by
  have h1:=hx a ro w hs;have h2:=hy a ro w hs;simp only[bv,eqv] at h1 h2;refine⟨_,?_,rfl⟩;simp[execOp,h1,h2,eqGuard,binOp,zhn w m n ht,bne]
theorem yhp[Dr]{t:TypeId}{x:Operand}{m:Bool}(hx:Ev s x (bv m)):OpQ C ⟨dst,.unOp .not t x,ty,pos,after,guard⟩ s (bv (!m)):=
 .val λa ro w hs=>⟨_,by have h1:=hx a ro w hs;simp only[bv,eqv] at h1;simp[execOp,h1,Op.unary],rfl⟩
theorem yhn[Dr]{t:TypeId}{x:Operand}{k:IntKind}{m:Int}(hx:Ev s x (iv k m)):OpQ C ⟨dst,.unOp .neg t x,ty,pos,after,guard⟩ s (iv k (k.wrap (0-m))):=
 .val λa ro w hs=>⟨_,by have h1:=hx a ro w hs;simp only[iv,eqv] at h1;simp only[execOp,h1,Op.unary,Op.intArith,w06,w0j,w05],rfl⟩
theorem yg1[Dr]{src d:TypeId}{x:Operand}{k k':IntKind}{m:Int}(h :(P.underlying src).isSome=true)(hd:P.underlying d=some (.int k'))(hx:Ev s x (iv k m)):
  OpQ C ⟨dst,.convert src d x,ty,pos,after,guard⟩ s (iv k' (k'.wrap m)):=
 .val λa ro w hs=>by
  have h1:=hx a ro w hs;simp only[iv,eqv] at h1;obtain⟨ds,hds⟩:=w18.1 h;refine⟨_,?_,rfl⟩;simp[execOp,h1,convert,run_underlying hds,run_underlying hd,Conv.intToInt]
def tupv(xs:List VP):VP:=⟨λro w v=>∃vs:Array Value,v = .tuple vs/\vs.size=xs.length/\∀(i:Nat)(A:VP),xs[i]? = some A->A.h ro w (vs.getD i undef),
 λh1 h2 ⟨vs,e,hl,h⟩=>⟨vs,e,hl,λi A hi=>A.wk h1 h2 (h i A hi)⟩⟩
theorem zvn[Dr]{x:Operand}{xs:List VP}{i:Nat}{A:VP}(hx:Ev s x (tupv xs))(hi:xs[i]? = some A):OpQ C ⟨dst,.extract x i,ty,pos,after,guard⟩ s A:=
 .val λa ro w hs=>by
  obtain⟨vs,e,hl,h⟩:=hx a ro w hs;have hlt:i<vs.size:=by rw[hl];exact(w02.1 hi).1
  have hA:=h i A hi;refine⟨vs[i],?_,?_⟩
  .simp[execOp,e,Instr.extract,hlt]
  .simpa[Array.getD,hlt] using hA
end ops
end Px
end
section
namespace Px
open Go Go.RowKit
def z3u(w:World)(ro:Nat->Prop)(b o:Nat)(cs:List VP):Prop:=∀(j:Nat)(A:VP),cs[j]? = some A->∃u,w.cell? ⟨b,o+j,none⟩=some u/\A.h ro w u/\u.oneCell'=true
def zl(ro:Nat->Prop)(w:World)(cs:List VP)(vs:List Value):Prop:=cs.length=vs.length/\∀(j:Nat)(A:VP),cs[j]? = some A->∃u,vs[j]? = some u/\A.h ro w u/\u.oneCell'=true
theorem zns{w w':World}{b o:Nat}(h:w'.heap[b]? = w.heap[b]?):w'.cell? ⟨b,o,none⟩=w.cell? ⟨b,o,none⟩:=by simp[World.cell?,h]
theorem y7x{w:World}{b o:Nat}{v:Value}(h:w.cell? ⟨b,o,none⟩=some v):¬Rec w.heap[b]?:=by rintro(⟨l,e⟩|⟨l,e⟩)<;>(unfold World.cell? at h;simp[e] at h)
theorem z3u.wk{w w':World}{ro ro':Nat->Prop}{b o:Nat}{cs:List VP}(h1:∀b,ro b->ro' b)(h2:∀b,ro b->¬Rec w.heap[b]?->w'.heap[b]? = w.heap[b]?)
  (hb:¬Rec w.heap[b]?->w'.heap[b]? = w.heap[b]?) (h:z3u w ro b o cs):z3u w' ro' b o cs:=λj A hj=>by
 obtain⟨u,hc,hA,ho⟩:=h j A hj;exact⟨u,(zns (hb (y7x hc))).trans hc,A.wk h1 h2 hA,ho⟩
theorem zl.wk{w w':World}{ro ro':Nat->Prop}{cs:List VP}{vs:List Value}(h1:∀b,ro b->ro' b)(h2:∀b,ro b->¬Rec w.heap[b]?->w'.heap[b]? = w.heap[b]?)
  (h:zl ro w cs vs):zl ro' w' cs vs:=⟨h.1,λj A hj=>by
 obtain⟨u,hc,hA,ho⟩:=h.2 j A hj;exact⟨u,hc,A.wk h1 h2 hA,ho⟩⟩
theorem zl.mono{w w':World}{ro ro':Nat->Prop}{cs:List VP}{vs:List Value}(h1:∀b,ro b->ro' b)(h2:∀b,ro b->w'.heap[b]? = w.heap[b]?)
  (h:zl ro w cs vs):zl ro' w' cs vs:=⟨h.1,λj A hj=>by
 obtain⟨u,hc,hA,ho⟩:=h.2 j A hj;exact⟨u,hc,A.mono h1 h2 hA,ho⟩⟩
theorem z3u.drop{w:World}{ro:Nat->Prop}{b o:Nat}{cs:List VP}(h:z3u w ro b o cs)(n:Nat):z3u w ro b (o+n) (cs.drop n):=λj A hj=>by
 rw[w1l] at hj;have:=h (n+j) A hj
 rwa [<- w2k] at this
theorem z3u.take{w:World}{ro:Nat->Prop}{b o:Nat}{cs:List VP}(h:z3u w ro b o cs)(n:Nat):z3u w ro b o (cs.take n):=λj A hj=>by
 rw[w0r] at hj;split at hj
 .exact h j A hj
 .cases hj
def agg(cs:List VP):VP:=⟨λro w v=>∃vs:Array Value,v = .agg vs/\zl ro w cs vs.toList,λh1 h2 ⟨vs,e,h⟩=>⟨vs,e,h.wk h1 h2⟩⟩
def ro{α:Type}(e:α->List VP)(sz:Nat)(l:List α):VP:=
 ⟨λr w v=>((∃a cap,v = .slice a 0 cap)/\l = [])\/∃b o cap,v = .slice (some ⟨b,o,none⟩) l.length (l.length+cap)/\∀(i:Nat)(x:α),l[i]? = some x->r b/\z3u w r b (o+i*sz) (e x),
  λh1 h2 h=>by
  rcases h with h|⟨b,o,cap,hv,h⟩
  .exact .inl h
  .exact .inr ⟨b,o,cap,hv,λi x hi=>⟨h1 _ (h i x hi).1,(h i x hi).2.wk h1 h2 (h2 _ (h i x hi).1)⟩⟩⟩
def rop(cs:List VP):VP:=⟨λr w v=>∃b o,v = .pointer (some ⟨b,o,none⟩)/\r b/\z3u w r b o cs,λh1 h2 ⟨b,o,hv,hr,h⟩=>⟨b,o,hv,h1 _ hr,h.wk h1 h2 (h2 _ hr)⟩⟩
def rowp(sv:Value)(off:Nat):VP:=⟨λ_ _ v=>∃g n cap,sv = .slice (some ⟨g,0,none⟩) n cap/\v = .pointer (some ⟨g,off,none⟩),λ_ _ h=>h⟩
def box(b:Nat)(T:TypeId)(cs:List VP):HP:=
 ⟨λS r w=>S b/\∃cur:Array Value,w.heap[b]? = some (.cells cur T (0,0))/\zl r w cs cur.toList,
  λh1 h2 h3 ⟨hS,cur,hc,h⟩=>⟨hS,cur,(h3 _ hS).trans hc,h.wk h1 h2⟩⟩
def row{α:Type}(E:TypeId)(e:α->List VP)(sz:Nat)(l:List α)(sv:Value):HP:=
 ⟨λS r w=>(sv = .slice none 0 0/\l = [])\/∃g cap,∃cur:Array Value,sv = .slice (some ⟨g,0,none⟩) l.length cap/\S g/\w.heap[g]? = some (.cells cur E (0,0))/\
   l.length<=cap/\cap<=maxLen/\cur.size=cap*sz/\zl r w (l.flatMap e) (cur.toList.take (l.length*sz)),
  λh1 h2 h3 h=>by
  rcases h with h|⟨g,cap,cur,hv,hS,hc,hl,hm,hs,h⟩
  .exact .inl h
  .exact .inr ⟨g,cap,cur,hv,hS,(h3 _ hS).trans hc,hl,hm,hs,h.wk h1 h2⟩⟩
def emp:HP:=⟨λ_ _ _=>True,λ_ _ _ h=>h⟩
def z3s(P:Program)(t:TypeId):Option (Bool×Nat):=match P.underlying t,P.info? t with
 |some d,some i=>some (match d with | .struct _ | .array _ _=>true|_=>false,i.size)
 |_,_=>none
def foff(P:Program)(t:TypeId)(f:Nat):Option Nat:=match P.underlying t with
 |some (.struct fs)=>(fs[f]?).bind λx=>(P.info? x.type).bind λi=>if i.size=0 then none else some x.offset
 |_=>none
def tidx(P:Program)(t:TypeId):Option (Bool×Nat×Nat):=match P.underlying t with
 |some (.array n e)=>(P.info? e).map λi=>(true,n,i.size)
 |some (.slice e)=>(P.info? e).map λi=>(false,0,i.size)
 |_=>none
section runs
variable{P:Program}{t:TypeId}{n:Nat}(w:World)
theorem zib{b:Bool}(h:z3s P t=some (b,n)):∃d i,P.underlying t=some d/\P.info? t=some i/\i.size=n/\(match d with | .struct _ | .array _ _=>true|_=>false)=b:=by
 unfold z3s at h;split at h
 .rename_i d i hd hi;simp only[w00,w0f] at h;exact⟨d,i,hd,hi,h.2,h.1⟩
 .cases h
theorem zjw{b:Bool}(h:z3s P t=some (b,n)):(isAgg t).run P w = .ok b w:=by obtain⟨d,i,hd,hi,hs,hb⟩:=zib h;simp only[isAgg,w06,run_underlying hd,w05];cases d<;>simp_all
theorem z6q{b:Bool}(h:z3s P t=some (b,n)):(Go.sizeOf t).run P w = .ok n w:=by obtain⟨d,i,hd,hi,hs,hb⟩:=zib h;simp[Go.sizeOf,typeInfo,hi,hs]
theorem zvr{b o:Nat}{u:Value}(h:z3s P t=some (false,n))(hc:w.cell? ⟨b,o,none⟩=some u):
  (Instr.loadAt t (.pointer (some ⟨b,o,none⟩))).run P w = .ok u w:=by
 simp[Instr.loadAt,Instr.sureAddr,loadVar,zjw w h,hc]
theorem zvs{b o:Nat}{vs:List Value}(h:z3s P t=some (true,vs.length))(hc:∀j u,vs[j]? = some u->w.cell? ⟨b,o+j,none⟩=some u):
  (Instr.loadAt t (.pointer (some ⟨b,o,none⟩))).run P w = .ok (.agg vs.toArray) w:=by
 have:=run_loadCells_list (P:=P) w ⟨b,o,none⟩ vs (λj v hj=>by rw[Addr.add_lit];exact hc j v hj);simp[Instr.loadAt,Instr.sureAddr,loadVar,zjw w h,z6q w h,this]
theorem y0p{f off:Nat}(h:foff P t f=some off):∃fs x i,P.underlying t=some (.struct fs)/\fs[f]? = some x/\P.info? x.type=some i/\i.size≠0/\x.offset=off:=by
 unfold foff at h;split at h
 .rename_i fs hfs;cases hx:fs[f]? with
  |none=>rw[hx] at h;simp at h
  |some x=>
   rw[hx] at h;simp only[w04] at h;cases hi:P.info? x.type with
   |none=>rw[hi] at h;simp at h
   |some i=>
    rw[hi] at h;simp only[w04] at h;split at h
    .cases h
    .exact⟨fs,x,i,hfs,hx,hi,by assumption,by simpa using h⟩
 .cases h
theorem zew{f off b o:Nat}(h:foff P t f=some off):(Instr.fieldAt t (.pointer (some ⟨b,o,none⟩)) f).run P w = .ok (.pointer (some ⟨b,o+off,none⟩)) w:=by obtain⟨fs,x,i,hfs,hx,hi,h0,ho⟩:=y0p h;simp[Instr.fieldAt,run_underlying hfs,hx,Instr.sureAddr,fieldPlace,Go.sizeOf,typeInfo,hi,h0,Addr.add_lit,ho]
theorem y0g{len esz:Nat}(h:tidx P t=some (true,len,esz)):∃e i,P.underlying t=some (.array len e)/\P.info? e=some i/\i.size=esz:=by
 unfold tidx at h;split at h
 .rename_i n e hu;cases hi:P.info? e with
  |none=>rw[hi] at h;simp at h
  |some i=>rw[hi] at h;simp at h;obtain⟨rfl,rfl⟩:=h;exact⟨e,i,hu,hi,rfl⟩
 .rename_i e hu;cases hi:P.info? e with
  |none=>rw[hi] at h;simp at h
  |some i=>rw[hi] at h;simp at h
 .cases h
theorem y6w{len esz:Nat}(h:tidx P t=some (false,len,esz)):∃e i,P.underlying t=some (.slice e)/\P.info? e=some i/\i.size=esz:=by
 unfold tidx at h;split at h
 .rename_i n e hu;cases hi:P.info? e with
  |none=>rw[hi] at h;simp at h
  |some i=>rw[hi] at h;simp at h
 .rename_i e hu;cases hi:P.info? e with
  |none=>rw[hi] at h;simp at h
  |some i=>rw[hi] at h;simp at h;obtain⟨rfl,rfl⟩:=h;exact⟨e,i,hu,hi,rfl⟩
 .cases h
theorem zm6{len esz b o:Nat}{k:IntKind}{m:Int}(h:tidx P t=some (true,len,esz))(h0:0<=m)(h1:m<len):
  (Instr.indexAt t (.pointer (some ⟨b,o,none⟩)) (.int k m)).run P w = .ok (.pointer (some ⟨b,o+m.toNat*esz,none⟩)) w:=by
 obtain⟨e,i,hu,hi,hs⟩:=y0g h;simp[Instr.indexAt,asIntOf,run_underlying hu,Instr.sureAddr,h0,h1,Go.sizeOf,typeInfo,hi,hs,Addr.add_lit]
theorem zex{esz b o n cap:Nat}{k:IntKind}{m:Int}(h:tidx P t=some (false,0,esz))(h0:0<=m)(h1:m<n):
  (Instr.indexAt t (.slice (some ⟨b,o,none⟩) n cap) (.int k m)).run P w = .ok (.pointer (some ⟨b,o+m.toNat*esz,none⟩)) w:=by
 obtain⟨e,i,hu,hi,hs⟩:=y6w h;simp[Instr.indexAt,asIntOf,run_underlying hu,h0,h1,Go.sizeOf,typeInfo,hi,hs,Addr.add_lit]
end runs
def Pt[Dr]{P:Program}(C:Cx P)(s:St)(x:Operand)(cs:List VP):Prop:=∀a r S w,WInv C.w0 C.base s.objs r S w->ze s.slots a r w->∃b o,a.eval x = .pointer (some ⟨b,o,none⟩)/\z3u w r b o cs
theorem zl.rd{w:World}{r:Nat->Prop}{cs:List VP}{cur:Array Value}{b:Nat}{T:TypeId}(hc:w.heap[b]? = some (.cells cur T (0,0)))(h:zl r w cs cur.toList):z3u w r b 0 cs:=λj A hj=>by obtain⟨u,hu,hA,ho⟩:=h.2 j A hj;refine⟨u,?_,hA,ho⟩;rw[w1c,cell_of_row w b j cur T (0,0) hc];simpa using hu
section pt
variable{P:Program}{C:Cx P}{s:St}{x:Operand}
theorem Pt.rop[Dr]{cs:List VP}(h:Ev s x (rop cs)):Pt C s x cs:=λa r S w hw hs=>by obtain⟨b,o,hv,_,hc⟩:=h a r w hs;exact⟨b,o,hv,hc⟩
theorem Pt.box[Dr](i:Nat){b off:Nat}{T:TypeId}{cells cs:List VP}(h:Ev s x (eqv (.pointer (some ⟨b,off,none⟩))))(ho:s.objs[i]? = some (box b T cells))(hc:cells.drop off=cs):Pt C s x cs:=λa r S w hw hs=>by refine⟨b,off,h a r w hs,?_⟩;obtain⟨hS,cur,hcur,hh⟩:=hw.obj i _ ho;have:=(hh.rd hcur).drop off;rw[w1c,hc] at this;exact this
end pt
theorem z3g{α:Type}{e:α->List VP}{sz:Nat}(he:∀x,(e x).length=sz):∀(l:List α)(k:Nat)(x:α),l[k]? = some x->∀(j:Nat)(A:VP),(e x)[j]? = some A->(l.flatMap e)[k*sz+j]? = some A
 | [],k,x,h,_,_,_=>by simp at h
 |y::l,0,x,h,j,A,hj=>by simp at h;subst h;rw[w0w,Nat.zero_mul,w1c,w0n (w02.1 hj).1];exact hj
 |y::l,k+1,x,h,j,A,hj=>by
  simp at h;have ih:=z3g he l k x h j A hj;have e1 :(k+1)*sz+j =(e y).length+(k*sz+j):=by rw[he,w16];omega
  rw[w0w,e1,w11 (Nat.le_add_right _ _),w3j];exact ih
theorem z1c{α:Type}{e:α->List VP}{sz:Nat}(he:∀x,(e x).length=sz):∀(l:List α),(l.flatMap e).length=l.length*sz
 | []=>by simp
 |y::l=>by simp[z1c he l,he,w16,w4y]
theorem Pt.row[Dr]{P:Program}(C:Cx P){s:St}{x:Operand}{α:Type}(i:Nat){E:TypeId}{e:α->List VP}{sz:Nat}{l:List α}{sv:Value}{off k fo:Nat}{y:α}{cs:List VP}(he:∀x,(e x).length=sz)
  (h:Ev s x (rowp sv off)) (ho:s.objs[i]? = some (row E e sz l sv)) (hoff:off=k*sz+fo) (hy:l[k]? = some y) (hc :(e y).drop fo=cs):Pt C s x cs:=λa r S w hw hs=>by
 obtain⟨g,n,cap,hv,hx⟩:=h a r w hs;refine⟨g,off,hx,?_⟩;rcases hw.obj i _ ho with⟨hn,_⟩|⟨g',cap',cur,hv',hS,hcur,hl,hm,hsz,hh⟩
 .rw[hv] at hn;cases hn
 .rw[hv] at hv';simp only[Value.slice.injEq,w00,Addr.mk.injEq] at hv';obtain⟨⟨rfl,_⟩,_,_⟩:=hv';intro j A hj;rw[<- hc,w1l] at hj;have hfm:=z3g he l k y hy (fo+j) A hj;obtain⟨u,hu,hA,h1⟩:=hh.2 _ _ hfm;refine⟨u,?_,hA,h1⟩;rw[w0r] at hu;split at hu
  .rw[cell_of_row w g _ cur E (0,0) hcur,hoff,w2k];simpa using hu
  .cases hu
section ops
variable{P:Program}{C:Cx P}{s:St}{dst:Option Tmp}{ty:TypeId}{pos:String}{after:Array Edge}{guard:Option (Nat×Bool)}
theorem y5s[Dr]{t:TypeId}{x:Operand}{n:Nat}{A:VP}{cs:List VP}(ht:z3s P t=some (false,n))(h:Pt C s x (A::cs)):OpQ C ⟨dst,.load t x,ty,pos,after,guard⟩ s A:=
 .valO λa r S w hw hs=>by
  obtain⟨b,o,hx,hc⟩:=h a r S w hw hs;obtain⟨u,hu,hA,_⟩:=hc 0 A rfl;exact⟨u,by simp[execOp,hx,zvr w ht (by simpa using hu)],hA⟩
theorem z3u.list{w:World}{r:Nat->Prop}{b o:Nat}{cs:List VP}(h:z3u w r b o cs):∃vs:List Value,zl r w cs vs/\∀j u,vs[j]? = some u->w.cell? ⟨b,o+j,none⟩=some u:=by
 refine⟨(List.range cs.length).map λj=>(w.cell? ⟨b,o+j,none⟩).getD undef,⟨by simp,λj A hj=>?_⟩,λj u hj=>?_⟩
 .obtain⟨u,hu,hA,h1⟩:=h j A hj;have hlt:=(w02.1 hj).1;exact⟨u,by simp[hlt,hu],hA,h1⟩
 .have hlt:j<cs.length:=by have:=(w02.1 hj).1;simpa using this
  obtain⟨u',hu',_⟩:=h j _ (w09 hlt);simp[hlt,hu'] at hj;rw[hu',hj]
theorem ydt[Dr]{t:TypeId}{x:Operand}{cs:List VP}(ht:z3s P t=some (true,cs.length))(h:Pt C s x cs):OpQ C ⟨dst,.load t x,ty,pos,after,guard⟩ s (agg cs):=
 .valO λa r S w hw hs=>by
  obtain⟨b,o,hx,hc⟩:=h a r S w hw hs;obtain⟨vs,hvs,hcell⟩:=hc.list;refine⟨_,by simp only[execOp,hx,w06,zvs w (hvs.1 ▸ ht) hcell];rfl,_,rfl,by simpa using hvs⟩
theorem Pt.take[Dr]{x:Operand}{cs:List VP}(n:Nat){cs':List VP}(h:Pt C s x cs)(hc:cs.take n=cs'):Pt C s x cs':=λa r S w hw hs=>by obtain⟨b,o,hx,hh⟩:=h a r S w hw hs;exact⟨b,o,hx,hc ▸ hh.take n⟩
theorem y9k[Dr]{t:TypeId}{f off b o:Nat}{x:Operand}(hf:foff P t f=some off)(h:Ev s x (eqv (.pointer (some ⟨b,o,none⟩)))):
  OpQ C ⟨dst,.fieldAddr t x f,ty,pos,after,guard⟩ s (eqv (.pointer (some ⟨b,o+off,none⟩))):=
 .val λa r w hs=>⟨_,by have h1:=h a r w hs;simp only[eqv] at h1;simp[execOp,h1,zew w hf],rfl⟩
theorem y9l[Dr]{t:TypeId}{f off:Nat}{x:Operand}{cs cs':List VP}(hf:foff P t f=some off)(h:Ev s x (rop cs))(hc:cs.drop off=cs'):
  OpQ C ⟨dst,.fieldAddr t x f,ty,pos,after,guard⟩ s (rop cs'):=
 .val λa r w hs=>by
  obtain⟨b,o,hx,hr,hh⟩:=h a r w hs;exact⟨_,by simp[execOp,hx,zew w hf],b,o+off,rfl,hr,hc ▸ hh.drop off⟩
theorem y9n[Dr]{α:Type}{e:α->List VP}{sz:Nat}{l:List α}{t:TypeId}{x i:Operand}{k:IntKind}{m:Int}{y:α}(ht:tidx P t=some (false,0,sz))(h:Ev s x (ro e sz l))(hi:Ev s i (iv k m))
  (h0:0<=m) (hy:l[m.toNat]? = some y):OpQ C ⟨dst,.indexAddr t x i,ty,pos,after,guard⟩ s (rop (e y)):=
 .val λa r w hs=>by
  have h2:=hi a r w hs;simp only[iv,eqv] at h2;have hlt:=(w02.1 hy).1;rcases h a r w hs with⟨_,rfl⟩|⟨b,o,cap,hv,hh⟩
  .simp at hlt
  .obtain⟨hr,hc⟩:=hh _ _ hy;exact⟨_,by simp only[execOp,hv,h2,w06,zex w ht h0 (show m<(l.length:Int) by omega)];rfl,b,_,rfl,hr,hc⟩
def isSl(P:Program)(t:TypeId):Bool:=match P.underlying t with|some (.slice _)=>true|_=>false
theorem z86{P:Program}(w:World){t ty:TypeId}{a:Option Addr}{n cap:Nat}(h:isSl P t=true):(Builtin.len_ #[t] ty #[.slice a n cap]).run P w = .ok (.int .i64 n) w:=by
 unfold isSl at h;split at h
 .rename_i e hu;simp[Builtin.len_,run_underlying hu,goInt]
 .cases h
theorem z5g{P:Program}{a:Act}{x:Operand}{t:TypeId}{w:World}{v:Value}(hr :(Builtin.len_ #[t] ty #[a.eval x]).run P w = .ok v w):
  (execOp a.eval ⟨dst,.call { callee:=.builtin .len,args:=#[x],argTypes:=#[t] },ty,pos,after,guard⟩).run P w = .ok (.value v) w:=by
 simp[execOp,resolve,invoke,builtin,hr]
theorem yg6[Dr]{α:Type}{e:α->List VP}{sz:Nat}{l:List α}{t:TypeId}{x:Operand}(ht:isSl P t=true)(h:Ev s x (ro e sz l)):
  OpQ C ⟨dst,.call { callee:=.builtin .len,args:=#[x],argTypes:=#[t] },ty,pos,after,guard⟩ s (iv .i64 l.length):=
 .val λa r w hs=>by
  rcases h a r w hs with⟨⟨a',c',hv⟩,rfl⟩|⟨b,o,cap,hv,hh⟩
  .exact⟨_,z5g (by rw[hv];exact z86 w ht),rfl⟩
  .exact⟨_,z5g (by rw[hv];exact z86 w ht),rfl⟩
def z5v{α:Type}(l:List α)(lo hi:Nat):List α:=(l.take hi).drop lo
theorem zha{α:Type}{l:List α}{lo hi:Nat}(h1:lo<=hi)(h2:hi<=l.length):(z5v l lo hi).length=hi-lo:=by simp[z5v];omega
theorem y5v{α:Type}{l:List α}{lo hi i:Nat}{x:α}(h :(z5v l lo hi)[i]? = some x):l[lo+i]? = some x:=by
 unfold z5v at h;rw[w1l,w0r] at h;split at h
 .exact h
 .cases h
theorem ye0{α:Type}{e:α->List VP}{sz:Nat}{l:List α}{r:Nat->Prop}{w:World}{v:Value}(h :(ro e sz l).h r w v){lo hi:Nat}(h1:lo<=hi)(h2:hi<=l.length):
  ∃a len cap,v = .slice a len cap/\len=l.length/\hi<=cap/\(ro e sz (z5v l lo hi)).h r w (.slice (if cap=lo then a else a.map (·.add (lo*sz))) (hi-lo) (cap-lo)):=by
 rcases h with⟨⟨a,cap,hv⟩,hl⟩|⟨b,o,cap,hv,hh⟩
 .subst hl;have:hi=0:=by simpa using h2
  subst this;exact⟨a,0,cap,hv,rfl,by omega,.inl ⟨⟨_,_,by rw[Nat.zero_sub]⟩,by simp[z5v]⟩⟩
 .refine⟨_,_,_,hv,rfl,by omega,?_⟩;by_cases he:hi=lo
  .subst he;exact .inl ⟨⟨_,_,by rw[Nat.sub_self]⟩,by simp[z5v]⟩
  .refine .inr ⟨b,o+lo*sz,l.length+cap-lo-(hi-lo),?_,λi x hx=>?_⟩
   .rw[zha h1 h2,if_neg (by omega),w2m (by omega)];simp[Addr.add_lit]
   .obtain⟨q1,q2⟩:=hh (lo+i) x (y5v hx);refine⟨q1,?_⟩;rw[w2k,<- w16];exact q2
theorem zjy{w:World}{t:TypeId}{esz:Nat}{a:Option Addr}{len cap lo hi:Nat}{low high:Option Value}(h:tidx P t=some (false,0,esz))(hlo:low=none/\lo=0\/∃k,low=some (.int k (lo:Int)))
  (hhi:high=none/\hi=len\/∃k,high=some (.int k (hi:Int))) (h1:lo<=hi) (h2:hi<=cap) :
  (Instr.sliceAt t (.slice a len cap) low high none).run P w = .ok (.slice (if cap=lo then a else a.map (·.add (lo*esz))) (hi-lo) (cap-lo)) w:=by
 obtain⟨e,i,hu,hi',hs⟩:=y6w h;have e1 :((hi:Int)<=(cap:Int))=True:=by simp;omega
 have e2 :((lo:Int)<=(hi:Int))=True:=by simp;omega
 rcases hlo with⟨rfl,rfl⟩|⟨k,rfl⟩<;>rcases hhi with⟨rfl,rfl⟩|⟨k',rfl⟩<;>
  simp[Instr.sliceAt,Instr.slice,Instr.sliceBounds,Instr.sliceBound,asIntOf,run_underlying hu,Go.sizeOf,typeInfo,hi',hs,e1,e2,h1,h2]
def BdE(s:St)(o:Option Operand)(n dflt:Nat):Prop:=match o with
 |none=>n=dflt
 |some x=>∃k,Ev s x (iv k (n:Int))
theorem y9t[Dr]{α:Type}{e:α->List VP}{sz:Nat}{l:List α}{t:TypeId}{x:Operand}{lo hi:Option Operand}{m n:Nat}(ht:tidx P t=some (false,0,sz))(h:Ev s x (ro e sz l))(hlo:BdE s lo m 0)(hhi:BdE s hi n l.length)
  (h1:m<=n) (h2:n<=l.length):OpQ C ⟨dst,.slice t x lo hi none,ty,pos,after,guard⟩ s (ro e sz (z5v l m n)):=
 .val λa r w hs=>by
  obtain⟨a',len,cap,hv,hlen,hcap,hro⟩:=ye0 (h a r w hs) h1 h2;subst hlen;have q1:lo.map a.eval=none/\m=0\/∃k,lo.map a.eval=some (.int k (m:Int)):=by
   cases lo with
   |none=>exact .inl ⟨rfl,hlo⟩
   |some o=>obtain⟨k,hk⟩:=hlo;exact .inr ⟨k,congrArg some (hk a r w hs)⟩
  have q2:hi.map a.eval=none/\n=l.length\/∃k,hi.map a.eval=some (.int k (n:Int)):=by
   cases hi with
   |none=>exact .inl ⟨rfl,hhi⟩
   |some o=>obtain⟨k,hk⟩:=hhi;exact .inr ⟨k,congrArg some (hk a r w hs)⟩
  exact⟨_,by simp only[execOp,hv,w2t,w06,zjy (w:=w) ht q1 q2 h1 hcap];rfl,hro⟩
theorem yg5[Dr]{α:Type}{E:TypeId}{e:α->List VP}{sz:Nat}{l:List α}{sv:Value}(j:Nat){t:TypeId}{x:Operand}(ht:isSl P t=true)(h:Ev s x (eqv sv))(ho:s.objs[j]? = some (row E e sz l sv)):
  OpQ C ⟨dst,.call { callee:=.builtin .len,args:=#[x],argTypes:=#[t] },ty,pos,after,guard⟩ s (iv .i64 l.length):=
 .valO λa r S w hw hs=>by
  have h3:=h a r w hs;simp only[eqv] at h3;rcases hw.obj j _ ho with⟨hv,rfl⟩|⟨g,cap,cur,hv,_⟩
  .exact⟨_,z5g (by rw[h3,hv];exact z86 w ht),rfl⟩
  .exact⟨_,z5g (by rw[h3,hv];exact z86 w ht),rfl⟩
end ops
end Px
end
section
namespace Px
open Go Go.RowKit
section winv
variable{w0 w w':World}{base:Nat}{objs:List HP}{r:Nat->Prop}{S:Nat->Nat->Prop}
theorem WInv.push[Dr](h:WInv w0 base objs r S w)(H:HP)(o:Obj)(hH:H.h (λb=>b=w.heap.size) r (w.alloc o)):
  WInv w0 base (objs++[H]) r (λi b=>(i=objs.length/\b=w.heap.size)\/S i b) (w.alloc o) where
 below:=h.below.alloc h.size o
 size:=by have:=h.size;simp;omega
 obj:=by
  intro i K hi;rw[w1w] at hi;split at hi
  .rename_i hlt;refine K.mono (S:=λb=>(i=objs.length/\b=w.heap.size)\/S i b) (w:=w) (λ_ h=>h) (λb hb=>Below.heap_alloc _ _ _ (h.old b hb)) ?_ ?_
   .rintro b (⟨e,_⟩|hb)
    .omega
    .exact Below.heap_alloc _ _ _ (h.own i b hb).2.2.1
   .have e :(λb=>(i=objs.length/\b=w.heap.size)\/S i b)=S i:=by
     funext b;have:¬i=objs.length:=by omega
     simp[this]
    rw[e];exact h.obj i K hi
  .rename_i hge;cases hk:i-objs.length with
   |succ k=>rw[hk] at hi;simp at hi
   |zero=>
    rw[hk] at hi;simp at hi;subst hi;have e1:i=objs.length:=by omega
    have e :(λb=>(i=objs.length/\b=w.heap.size)\/S i b)=λb=>b=w.heap.size:=by
     funext b;have:¬S i b:=λhb=>by have:=(h.own i b hb).1;omega
     exact propext ⟨λh=>h.elim (·.2) (λhb=>absurd hb this),λh=>.inl ⟨e1,h⟩⟩
    rw[e];exact hH
 own:=by
  rintro i b (⟨rfl,rfl⟩|hb)
  .have:=h.size
   refine⟨by simp,this,by simp,λhr=>?_⟩;have:=h.old _ hr;omega
  .obtain⟨h1,h2,h3,h4⟩:=h.own i b hb;exact⟨by simp;omega,h2,by simp;omega,h4⟩
 apart:=by
  rintro i j b (⟨rfl,rfl⟩|hi) (⟨rfl,hj⟩|hj)
  .rfl
  .have:=(h.own _ _ hj).2.2.1;omega
  .subst hj;have:=(h.own _ _ hi).2.2.1;omega
  .exact h.apart i j b hi hj
 old:=λb hb=>by have:=h.old b hb;simp;omega
theorem WInv.repl[Dr](h:WInv w0 base objs r S w)(i:Nat)(H:HP)(Sn:Nat->Prop)(hi:i<objs.length)(hos:w'.os=w.os)(htp:w'.tape=w.tape/\w.drawn<=w'.drawn)(hout:w'.output=w.output)(hsz:w.heap.size<=w'.heap.size)
  (hblk:∀b,b<w.heap.size->¬S i b->w'.heap[b]? = w.heap[b]?) (hn:∀b,Sn b->base<=b/\b<w'.heap.size/\¬r b/\∀j,j≠i->¬S j b)
  (hH:H.h Sn r w'):WInv w0 base (objs.set i H) r (λj b=>(j=i/\Sn b)\/(j≠i/\S j b)) w' where
 below:=h.below.trans ⟨⟨hos,htp.1,hout,hsz,λk hk=>hblk k (by have:=h.size;omega) (λhs=>by have:=(h.own i k hs).2.1;omega)⟩,λ_=>htp.2⟩
 size:=w26 h.size hsz
 obj:=by
  intro j K hj;by_cases e:j=i
  .subst e;rw[w1i (by simpa using hi)] at hj;simp at hj;subst hj;have e' :(λb=>(j=j/\Sn b)\/(j≠j/\S j b))=Sn:=by funext b;simp
   rw[e'];exact hH
  .rw[w22 (λh=>e h.symm)] at hj;have e' :(λb=>(j=i/\Sn b)\/(j≠i/\S j b))=S j:=by funext b;simp[e]
   rw[e'];refine K.mono (w:=w) (λ_ h=>h) (λb hb=>hblk b (h.old b hb) (λhs=>(h.own i b hs).2.2.2 hb)) (λb hb=>hblk b (h.own j b hb).2.2.1 (λhs=>e (h.apart j i b hb hs))) (h.obj j K hj)
 own:=by
  rintro j b (⟨rfl,hb⟩|⟨_,hb⟩)
  .obtain⟨h1,h2,h3,_⟩:=hn b hb;exact⟨by simpa using hi,h1,h2,h3⟩
  .obtain⟨h1,h2,h3,h4⟩:=h.own j b hb;exact⟨by simpa using h1,h2,w2g h3 hsz,h4⟩
 apart:=by
  rintro j k b (⟨rfl,hj⟩|⟨hj,hb⟩) (⟨rfl,hk⟩|⟨hk,hb'⟩)
  .rfl
  .exact absurd hb' ((hn b hj).2.2.2 k hk)
  .exact absurd hb ((hn b hk).2.2.2 j hj)
  .exact h.apart j k b hb hb'
 old:=λb hb=>w2g (h.old b hb) hsz
theorem WInv.evo_repl[Dr](h:WInv w0 base objs r S w)(i:Nat)(hblk:∀b,b<w.heap.size->¬S i b->w'.heap[b]? = w.heap[b]?):Evo base r w r w':=⟨λ_ h=>h,λb hb=>hblk b (h.old b hb) (λhs=>(h.own i b hs).2.2.2 hb),λ_ h=>.inl h⟩
theorem WInv.evo_alloc[Dr](h:WInv w0 base objs r S w)(o:Obj):Evo base r w r (w.alloc o):=⟨λ_ h=>h,λb hb=>Below.heap_alloc _ _ _ (h.old b hb),λ_ h=>.inl h⟩
end winv
def yak(r:Nat->Prop)(w:World)(cs:List VP)(v:Value):Prop:=zl r w cs v.cells.toList
def Ce(s:St)(x:Operand)(cs:List VP):Prop:=∀a r w,ze s.slots a r w->yak r w cs (a.eval x)
theorem Ce.agg{s:St}{x:Operand}{cs:List VP}(h:Ev s x (agg cs)):Ce s x cs:=λa r w hs=>by obtain⟨vs,hv,hh⟩:=h a r w hs;simpa[yak,hv,Value.cells] using hh
def One(A:VP):Prop:=∀r w v,A.h r w v->v.oneCell'=true
theorem One.eqv{u:Value}(h:u.oneCell'=true):One (eqv u):=λ_ _ _ e=>by simp only[Px.eqv] at e;subst e;exact h
theorem One.ro{α:Type}{e:α->List VP}{sz:Nat}{l:List α}: One (ro e sz l):=λr w v h=>by rcases h with⟨⟨a',c',rfl⟩,_⟩|⟨b,o,cap,rfl,_⟩<;>rfl
theorem One.rop{cs:List VP}: One (rop cs):=λr w v ⟨b,o,h,_⟩=>by subst h;rfl
theorem Ce.one{s:St}{x:Operand}{A:VP}(h:Ev s x A)(ho:One A):Ce s x [A]:=λa r w hs=>by
 have hA:=h a r w hs;have h1:=ho _ _ _ hA;have hc :(a.eval x).cells.toList = [a.eval x]:=by revert h1;generalize a.eval x=v;cases v<;>simp[Value.oneCell',Value.cells]
 refine⟨by rw[hc];rfl,λj B hj=>?_⟩;cases j with
 |zero=>simp at hj;subst hj;exact⟨_,by rw[hc];rfl,hA,h1⟩
 |succ j=>simp at hj
section ops
variable{P:Program}{C:Cx P}{s:St}{dst:Option Tmp}{ty:TypeId}{pos:String}{after:Array Edge}{guard:Option (Nat×Bool)}{K:VP->List HP->Prop}
theorem OpT.push[Dr]{o:Oper}(H:Nat->HP)(x:Nat->VP)
  (hr:∀a r S w,WInv C.w0 C.base s.objs r S w->ze s.slots a r w->∃ob v,(execOp a.eval o).run P w = .ok (.value v) (w.alloc ob)/\(x w.heap.size).h r (w.alloc ob) v/\(H w.heap.size).h (λb=>b=w.heap.size) r (w.alloc ob))
  (k:∀b,K (x b) (s.objs++[H b])):OpT C o s K:=by
 intro a w r S Q hd hn hw hs;obtain⟨ob,v,hrun,hx,hH⟩:=hr a r S w hw hs;unfold Oper.wp;rw[hrun,Oper.upon_value];exact⟨v,r,_,_,_,rfl,hw.evo_alloc ob,hw.push _ ob hH,hx,k _⟩
def zlr(P:Program)(t:TypeId):Option (List Value):=((P.info? t).bind (·.zero)).map (·.cells.toList)
theorem zwb{P:Program}{t:TypeId}{zs:List Value}(h:zlr P t=some zs)(w:World):∃z,(zeroValue t).run P w = .ok z w/\z.cells.toList=zs:=by
 unfold zlr at h;cases hi:P.info? t with
 |none=>rw[hi] at h;simp at h
 |some i=>
  rw[hi] at h;cases hz:i.zero with
  |none=>simp[hz] at h
  |some z=>simp[hz] at h;exact⟨z,by simp[zeroValue,typeInfo,hi,hz],h⟩
theorem zau{r:Nat->Prop}{w:World}{zs:List Value}(h:zs.all (·.oneCell')=true):zl r w (zs.map eqv) zs:=by refine⟨by simp,λj A hj=>?_⟩;rw[w1a,w1j] at hj;obtain⟨u,hu,rfl⟩:=hj;exact⟨u,hu,rfl,by simpa using w0g.1 h u (w12 hu)⟩
theorem zu6{r:Nat->Prop}{w:World}{T:TypeId}{cs:List VP}{cur:Array Value}(h:zl r w cs cur.toList)(ho:∀b,r b->b<w.heap.size):
  (box w.heap.size T cs).h (λb=>b=w.heap.size) r (w.alloc (.cells cur T)):=
 ⟨rfl,cur,heap_alloc_new w _,h.mono (λ_ h=>h) (λb hb=>Below.heap_alloc _ _ _ (ho b hb))⟩
theorem y5k[Dr]{t:TypeId}(zs:List Value)(hz:zlr P t=some zs)(h1:zs.all (·.oneCell')=true)(k:∀b,K (eqv (.pointer (some ⟨b,0,none⟩))) (s.objs++[box b t (zs.map eqv)])):
  OpT C ⟨dst,.alloc t,ty,pos,after,guard⟩ s K:=
 .push (λb=>box b t (zs.map eqv)) (λb=>eqv (.pointer (some ⟨b,0,none⟩))) (λa r S w hw hs=>by
  obtain⟨z,hr,hc⟩:=zwb hz w;refine⟨.cells z.cells t,_,?_,rfl,zu6 (by rw[hc];exact zau h1) hw.old⟩;simp[execOp,Instr.alloc,hr,newVar,newRow]) k
theorem yhc[Dr]{t:TypeId}{x:Operand}{cs:List VP}(hx:Ce s x cs)(k:∀b,K (eqv (.pointer (some ⟨b,0,none⟩))) (s.objs++[box b t cs])):
  OpT C ⟨dst,.box t x,ty,pos,after,guard⟩ s K:=
 .push (λb=>box b t cs) (λb=>eqv (.pointer (some ⟨b,0,none⟩))) (λa r S w hw hs=>by
  refine⟨.cells (a.eval x).cells t,_,?_,rfl,zu6 (hx a r w hs) hw.old⟩;simp[execOp,Instr.box,newVar,newRow]) k
theorem zgo{P:Program}{t:TypeId}{g:Bool}{n:Nat}(ht:z3s P t=some (g,n)){w:World}{b o:Nat}{cur:Array Value}{T:TypeId}(hb:w.heap[b]? = some (.cells cur T (0,0)))
  {v:Value} (hn:v.cells.size=n) (ho:o+n<=cur.size) (h1:∀u∈v.cells.toList,u.oneCell'=true) :
  (Instr.storeAt t (.pointer (some ⟨b,o,none⟩)) v).run P w = .ok () (w.setRow b (cur.toList.take o++v.cells.toList++cur.toList.drop (o+v.cells.toList.length)).toArray):=by
 have:=run_storeCells_at P b o T v.cells.toList 0 cur w hb (by simpa[hn] using ho) h1;simp only[w3y] at this;simp[Instr.storeAt,Instr.sureAddr,storeVar,z6q w ht,hn,this]
theorem zl.one{r:Nat->Prop}{w:World}{cs:List VP}{vs:List Value}(h:zl r w cs vs):∀u∈vs,u.oneCell'=true:=by intro u hu;obtain⟨j,hj⟩:=w3o hu;have hlt:=(w02.1 hj).1;obtain⟨u',hu',_,h1⟩:=h.2 j _ (w09 (by rw[h.1];exact hlt));rw[hj] at hu';simp at hu';rw[hu'];exact h1
theorem zl.splice{r:Nat->Prop}{w:World}{cs ds:List VP}{vs us:List Value}(h:zl r w cs vs)(k:zl r w ds us)(o:Nat)(ho:o+ds.length<=cs.length):
  zl r w (cs.take o++ds++cs.drop (o+ds.length)) (vs.take o++us++vs.drop (o+us.length)):=by
 have l1:=h.1;have l2:=k.1;refine⟨by simp[l1,l2],λj A hj=>?_⟩;by_cases c1:j<o
 .rw[w0t,w0n (by simp;omega),w0r,if_pos c1] at hj;rw[w0t,w0n (by simp;omega),w0r,if_pos c1];exact h.2 j A hj
 .by_cases c2:j<o+ds.length
  .rw[w0t,w11 (by simp;omega),w0n (by simp;omega)] at hj;rw[w0t,w11 (by simp;omega),w0n (by simp;omega)];have e :(vs.take o).length =(cs.take o).length:=by simp[l1]
   rw[e];exact k.2 _ A hj
  .rw[w11 (by simp;omega),w1l] at hj;rw[w11 (by simp;omega),w1l];have e:o+ds.length+(j-(cs.take o++ds).length)=o+us.length+(j-(vs.take o++us).length):=by simp[l1,l2]
   rw[<- e];exact h.2 _ A hj
theorem OpT.store[Dr]{o:Oper}(hdst:o.dst=none)(i:Nat)(H:HP)(hi:i<s.objs.length)
  (hr:∀a r S w,WInv C.w0 C.base s.objs r S w->ze s.slots a r w->∃b cs,S i b/\(execOp a.eval o).run P w = .ok .skip (w.setRow b cs)/\H.h (S i) r (w.setRow b cs))
  (k:K topv (s.objs.set i H)):OpT C o s K:=by
 intro a w r S Q hd hn hw hs;obtain⟨b,cs,hS,hrun,hH⟩:=hr a r S w hw hs;unfold Oper.wp;rw[hrun,Oper.upon_skip];have hblk:∀b',b'<w.heap.size->¬S i b'->(w.setRow b cs).heap[b']? = w.heap[b']?:=λb' _ hb'=>setRow_other w b b' cs (λe=>hb' (e ▸ hS))
 exact⟨undef,r,_,topv,_,rfl,hw.evo_repl i hblk,hw.repl i H (S i) hi rfl ⟨rfl,w0s _⟩ rfl (by simp) hblk (λb' hb'=>by obtain⟨h1,h2,h3,h4⟩:=hw.own i b' hb';exact⟨h2,by simpa using h3,h4,λj hj hS'=>hj (hw.apart j i b' hS' hb')⟩) hH,trivial,k⟩
theorem zl.setRow[Dr]{w0 w:World}{base:Nat}{objs:List HP}{r:Nat->Prop}{S:Nat->Nat->Prop}(hw:WInv w0 base objs r S w){i b:Nat}(hS:S i b)(cur:Array Value){cs:List VP}{vs:List Value}(h:zl r w cs vs):
  zl r (w.setRow b cur) cs vs:=
 h.mono (λ_ h=>h) (λb' hb'=>setRow_other w b b' cur (λe=>(hw.own i b hS).2.2.2 (e ▸ hb')))
theorem ydv[Dr](i:Nat){t T:TypeId}{g:Bool}{n b off:Nat}{x y:Operand}{cells cs out:List VP}(ht:z3s P t=some (g,n))(hx:Ev s x (eqv (.pointer (some ⟨b,off,none⟩))))(hy:Ce s y cs)(ho:s.objs[i]? = some (box b T cells))
  (hl:cs.length=n) (hb:off+n<=cells.length) (hout:cells.take off++cs++cells.drop (off+n)=out)
  (k:K topv (s.objs.set i (box b T out))):OpT C ⟨none,.store t x y,ty,pos,after,guard⟩ s K:=
 .store rfl i (box b T out) (w02.1 ho).1 (λa r S w hw hs=>by
  have hx':=hx a r w hs;simp only[eqv] at hx';have hy':=hy a r w hs;obtain⟨hS,cur,hcur,hh⟩:=hw.obj i _ ho;have hsz :(a.eval y).cells.size=n:=by have:=hy'.1;simp at this;omega
  have hbl:off+n<=cur.size:=by have:=hh.1;simp at this;omega
  refine⟨b,(cur.toList.take off++(a.eval y).cells.toList++cur.toList.drop (off+(a.eval y).cells.toList.length)).toArray,hS,?_,hS,_,setRow_heap w b cur _ T (0,0) hcur,?_⟩
  .simp only[execOp,hx',w06,zgo ht hcur hsz hbl hy'.one];rfl
  .subst hl;have:=zl.splice hh hy' off hb;rw[hout] at this;have:=zl.setRow hw hS (cur.toList.take off++(a.eval y).cells.toList++cur.toList.drop (off+(a.eval y).cells.toList.length)).toArray this;simpa using this) k
theorem zhu{α:Type}{e:α->List VP}{sz:Nat}(he:∀x,(e x).length=sz):∀(l:List α)(k:Nat)(x y:α)(fo:Nat)(cs:List VP),l[k]? = some x->fo+cs.length<=sz->
  e y =(e x).take fo++cs++(e x).drop (fo+cs.length)->(l.set k y).flatMap e =(l.flatMap e).take (k*sz+fo)++cs++(l.flatMap e).drop (k*sz+fo+cs.length)
 | [],k,x,y,fo,cs,h,_,_=>by simp at h
 |z::l,0,x,y,fo,cs,h,hf,hy=>by simp at h;subst h;have hz:=he z;simp only[List.set_cons_zero,w0w,Nat.zero_mul,w1c,hy];rw[w21 (by omega),w2b (by omega)];simp
 |z::l,k+1,x,y,fo,cs,h,hf,hy=>by
  simp at h;have ih:=zhu he l k x y fo cs h hf hy;have hz:=he z;have e1 :(k+1)*sz+fo =(e z).length+(k*sz+fo):=by rw[hz,w16];omega
  simp only[w3l,w0w,ih,e1,w3n,w0t,w2k,w38]
theorem zzz[Dr]{α:Type}(i:Nat){t E:TypeId}{g:Bool}{n off k fo:Nat}{e:α->List VP}{sz:Nat}{l:List α}{sv:Value}{z z':α}{x y:Operand}{cs:List VP}(he:∀x,(e x).length=sz)(ht:z3s P t=some (g,n))
  (hx:Ev s x (rowp sv off)) (hy:Ce s y cs) (ho:s.objs[i]? = some (row E e sz l sv)) (hl:cs.length=n) (hoff:off=k*sz+fo) (hz:l[k]? = some z) (hf:fo+n<=sz)
  (hz':e z' =(e z).take fo++cs++(e z).drop (fo+n)) (kk:K topv (s.objs.set i (row E e sz (l.set k z') sv))):OpT C ⟨none,.store t x y,ty,pos,after,guard⟩ s K:=
 .store rfl i _ (w02.1 ho).1 (λa r S w hw hs=>by
  obtain⟨g',n',cap',hsv,hx'⟩:=hx a r w hs;have hy':=hy a r w hs;rcases hw.obj i _ ho with⟨hn,_⟩|⟨g2,cap,cur,hv',hS,hcur,hll,hm,hsz,hh⟩
  .rw[hsv] at hn;cases hn
  .rw[hsv] at hv';simp only[Value.slice.injEq,w00,Addr.mk.injEq] at hv';obtain⟨⟨rfl,_⟩,rfl,rfl⟩:=hv';have hvs :(a.eval y).cells.size=n:=by have:=hy'.1;simp at this;omega
   have hk:=(w02.1 hz).1;have hle :(k+1)*sz<=l.length*sz:=w13 _ hk;have hle2:l.length*sz<=cap'*sz:=w13 _ hll;rw[w16] at hle;have hbl:off+n<=cur.size:=by omega
   refine⟨g',(cur.toList.take off++(a.eval y).cells.toList++cur.toList.drop (off+(a.eval y).cells.toList.length)).toArray,hS,?_,?_⟩
   .simp only[execOp,hx',w06,zgo ht hcur hvs hbl hy'.one];rfl
   .refine .inr ⟨g',cap',_,?_,hS,setRow_heap w g' cur _ E (0,0) hcur,by simpa using hll,hm,?_,?_⟩
    .simpa using hsv
    .simp;omega
    .have hfl:=z1c he l;subst hl;have:=zl.splice hh hy' off (by rw[hfl];omega);rw[hoff,<- zhu he l k z z' fo cs hz hf hz'] at this;have:=zl.setRow hw hS (cur.toList.take off++(a.eval y).cells.toList++cur.toList.drop (off+(a.eval y).cells.toList.length)).toArray this;have e1 :(a.eval y).cells.toList.length=cs.length:=by simpa using hvs
     have hcs:cur.toList.length=cur.size:=by simp
     refine cast ?_ this;congr 1;rw[e1,hoff,w2v,w27,w36,w36];have l1 :(List.take (k*sz+fo) cur.toList).length=k*sz+fo:=by rw[w1f];omega
     rw[w0d,l1,e1];rw[w24 (l:=List.take (k*sz+fo) cur.toList) (by rw[l1];omega),w24 (l:=(a.eval y).cells.toList) (by rw[e1];omega)];rw[w4p,w4c (by omega),List.drop_take]) kk
end ops
end Px
end
section
namespace Px
open Go Go.RowKit
def tsl(P:Program)(t:TypeId):Option (TypeId×Nat×Nat):=match P.underlying t with
 |some (.slice e)=>(P.info? e).bind λi=>i.zero.bind λz=>if z.cells.size=i.size/\0<i.size then some (e,i.size,i.bytes) else none
 |_=>none
theorem zcb{P:Program}{t E:TypeId}{sz by':Nat}(h:tsl P t=some (E,sz,by')):
  ∃i z,P.underlying t=some (.slice E)/\P.info? E=some i/\i.zero=some z/\i.size=sz/\i.bytes=by'/\z.cells.size=sz/\0<sz:=by
 unfold tsl at h;split at h
 .rename_i e hu;cases hi:P.info? e with
  |none=>rw[hi] at h;simp at h
  |some i=>
   rw[hi] at h;simp only[w04] at h;cases hz:i.zero with
   |none=>rw[hz] at h;simp at h
   |some z=>
    rw[hz] at h;simp only[w04] at h;split at h
    .rename_i hc;simp only[w00,w0f] at h;obtain⟨rfl,rfl,rfl⟩:=h;exact⟨i,z,hu,hi,hz,rfl,rfl,hc.1,hc.2⟩
    .cases h
 .cases h
def Src[Dr]{P:Program}(C:Cx P)(s:St)(x:Operand)(m:Nat)(cs:List VP):Prop:=
 ∀a r S w,WInv C.w0 C.base s.objs r S w->ze s.slots a r w->
  ((∃a' c',a.eval x = .slice a' 0 c')/\m=0/\cs = [])\/∃b o c vs,a.eval x = .slice (some ⟨b,o,none⟩) m c/\zl r w cs vs/\∀j u,vs[j]? = some u->w.cell? ⟨b,o+j,none⟩=some u
theorem zgy{α:Type}{e:α->List VP}{sz:Nat}(he:∀x,(e x).length=sz)(hsz:0<sz):∀(l:List α)(j:Nat)(A:VP),(l.flatMap e)[j]? = some A->
  ∃x,l[j / sz]? = some x/\(e x)[j % sz]? = some A
 | [],j,A,h=>by simp at h
 |y::l,j,A,h=>by
  by_cases hj:j<sz
  .rw[w0w,w0n (by rw[he];exact hj)] at h;exact⟨y,by rw[w4z hj];rfl,by rw[Nat.mod_eq_of_lt hj];exact h⟩
  .rw[w0w,w11 (by rw[he];omega),he] at h;obtain⟨x,hx,hA⟩:=zgy he hsz l _ A h;have e1:j / sz =(j-sz) / sz+1:=by rw[Nat.div_eq_sub_div hsz (by omega)]
   have e2:j % sz =(j-sz) % sz:=by rw[Nat.mod_eq_sub_mod (by omega)]
   exact⟨x,by rw[e1];simpa using hx,by rw[e2];exact hA⟩
theorem Src.ro[Dr]{P:Program}{C:Cx P}{s:St}{x:Operand}{α:Type}{e:α->List VP}{sz:Nat}{l:List α}(he:∀x,(e x).length=sz)(hsz:0<sz)(h:Ev s x (ro e sz l)):Src C s x l.length (l.flatMap e):=λa r S w hw hs=>by
 rcases h a r w hs with⟨hv,rfl⟩|⟨b,o,cap,hv,hh⟩
 .exact .inl ⟨hv,rfl,rfl⟩
 .have hrd:z3u w r b o (l.flatMap e):=by intro j A hj;obtain⟨y,hy,hA⟩:=zgy he hsz l j A hj;obtain⟨u,hu,hA',h1⟩:=(hh _ _ hy).2 _ A hA;refine⟨u,?_,hA',h1⟩;rw[<- hu];congr 2;have:=Nat.div_add_mod j sz;rw[w50] at this;omega
  obtain⟨vs,hvs,hc⟩:=hrd.list;exact .inr ⟨b,o,l.length+cap,vs,hv,hvs,hc⟩
theorem Src.row[Dr]{P:Program}{C:Cx P}{s:St}{x:Operand}{α:Type}(i:Nat){E:TypeId}{e:α->List VP}{sz:Nat}{l:List α}{sv:Value}(h:Ev s x (eqv sv))(ho:s.objs[i]? = some (row E e sz l sv)):Src C s x l.length (l.flatMap e):=λa r S w hw hs=>by
 have hx:=h a r w hs;simp only[eqv] at hx;rcases hw.obj i _ ho with⟨hn,rfl⟩|⟨g,cap,cur,hv,hS,hcur,hl,hm,hsz,hh⟩
 .exact .inl ⟨⟨none,0,by rw[hx,hn]⟩,rfl,rfl⟩
 .refine .inr ⟨g,0,cap,_,by rw[hx,hv],hh,λj u hj=>?_⟩;rw[w1c,cell_of_row w g j cur E (0,0) hcur];rw[w0r] at hj;split at hj
  .simpa using hj
  .cases hj
theorem Src.nil[Dr]{P:Program}{C:Cx P}{s:St}{x:Operand}{ad:Option Addr}{cap:Nat}(h:Ev s x (eqv (.slice ad 0 cap))):Src C s x 0 []:=λa r S w hw hs=>.inl ⟨⟨ad,cap,h a r w hs⟩,rfl,rfl⟩
theorem zl.append{r:Nat->Prop}{w:World}{cs ds:List VP}{vs us:List Value}(h:zl r w cs vs)(k:zl r w ds us):zl r w (cs++ds) (vs++us):=by
 refine⟨by simp[h.1,k.1],λj A hj=>?_⟩;by_cases c:j<cs.length
 .rw[w0n c] at hj;rw[w0n (h.1 ▸ c)];exact h.2 j A hj
 .rw[w11 (by omega)] at hj;rw[w11 (by rw[<- h.1];omega),<- h.1];exact k.2 _ A hj
theorem zx8{P:Program}{a:Act}{x y:Operand}{t:TypeId}{w w':World}{v:Value}{dst:Option Tmp}{ty:TypeId}{pos:String}{after:Array Edge}{guard:Option (Nat×Bool)}
  (hr :(Builtin.append_ #[t,t] ty #[a.eval x,a.eval y]).run P w = .ok v w') :
  (execOp a.eval ⟨dst,.call { callee:=.builtin .append,args:=#[x,y],argTypes:=#[t,t] },ty,pos,after,guard⟩).run P w = .ok (.value v) w':=by
 simp[execOp,resolve,invoke,builtin,hr]
theorem yed{P:Program}{w:World}{r:Nat->Prop}{Si:Nat->Prop}{α:Type}{E t ty:TypeId}{e:α->List VP}{sz by':Nat}{l m:List α}{sv xv:Value}(ht:tsl P t=some (E,sz,by'))
  (he:∀x,(e x).length=sz) (hrow :(row E e sz l sv).h Si r w) (hro:∀b,r b->b<w.heap.size/\¬Si b) (hby :(l.length+m.length)*by'<=140737488355328) (hmax:l.length+m.length<=maxLen)
  (hsrc :((∃a' c',xv = .slice a' 0 c')/\m.length=0/\m.flatMap e = [])\/∃b o c vs,xv = .slice (some ⟨b,o,none⟩) m.length c/\zl r w (m.flatMap e) vs/\∀j u,vs[j]? = some u->w.cell? ⟨b,o+j,none⟩=some u) :
  ∃v' w' Sn,(Builtin.append_ #[t,t] ty #[sv,xv]).run P w = .ok v' w'/\w'.os=w.os/\(w'.tape=w.tape/\w.drawn<=w'.drawn)/\w'.output=w.output/\w.heap.size<=w'.heap.size/\
   (∀b,b<w.heap.size->¬Si b->w'.heap[b]? = w.heap[b]?)/\(∀b,Sn b->Si b\/(b=w.heap.size/\b<w'.heap.size))/\(row E e sz (l++m) v').h Sn r w':=by
 obtain⟨i,z,hu,hi,hz,rfl,rfl,hzs,hpos⟩:=zcb ht;have hsmall:l.length+m.length<=9223372036854775807:=by simpa[maxLen] using hmax
 have hfl:=z1c he l;have hfm:=z1c he m;have idle:m.length=0->(row E e i.size (l++m) sv).h Si r w:=λh0=>by have:m = []:=w17 h0;subst this;simpa using hrow
 rcases hsrc with⟨⟨a',c',rfl⟩,hm0,_⟩|⟨b,o,c,vs,rfl,hvs,hcell⟩
 .refine⟨sv,w,Si,?_,rfl,⟨rfl,w0s _⟩,rfl,w0s _,λ_ _ _=>rfl,λb h=>.inl h,idle hm0⟩;rcases hrow with⟨rfl,rfl⟩|⟨g,cap,cur,rfl,hS,hcur,hl,hm,hsz,hh⟩
  .cases a'<;>simp[Builtin.append_,run_underlying hu,Go.sizeOf,typeInfo,hi,Builtin.lenOf,Builtin.firstCells,loadCells,loadCellsFrom]
  .cases a'<;>simp[Builtin.append_,run_underlying hu,Go.sizeOf,typeInfo,hi,Builtin.lenOf,Builtin.firstCells,hl,storeCells,loadCells,loadCellsFrom]
 .have hvl:vs.length=m.length*i.size:=by rw[<- hvs.1,hfm]
  have hcell':∀j u,vs[j]? = some u->w.cell? ((⟨b,o,none⟩:Addr).add j)=some u:=λj u hj=>by rw[Addr.add_lit];exact hcell j u hj
  have fresh:∀(us:List Value)(cap:Nat),zl r w ((l++m).flatMap e) us->l.length+m.length<=cap->cap<=maxLen->
    (row E e i.size (l++m) (.slice (some ⟨w.heap.size,0,none⟩) (l.length+m.length) cap)).h (λk=>k=w.heap.size) r (w.drew.alloc (.cells (us.toArray++Builtin.zeroCells z.cells (cap-(l.length+m.length))) E)):=by
   intro us cap hus hge hcm;have hul:us.length =(l.length+m.length)*i.size:=by rw[<- hus.1,z1c he,w0d]
   refine .inr ⟨w.heap.size,cap,_,by simp,rfl,heap_alloc_new w.drew _,by simpa using hge,hcm,?_,?_⟩
   .simp only[Array.size_append,List.size_toArray,size_zeroCells,hzs,hul,<- w16];congr 1;omega
   .rw[w0d,<- hul];have e1 :(us.toArray++Builtin.zeroCells z.cells (cap-(l.length+m.length))).toList.take us.length=us:=by simp
    rw[e1];exact zl.mono (w:=w) (λ_ h=>h) (λb hb=>Below.heap_alloc w.drew _ b (hro b hb).1) hus
  rcases hrow with⟨rfl,rfl⟩|⟨g,cap,cur,rfl,hS,hcur,hl,hm,hsz,hh⟩
  .by_cases h0:m.length=0
   .refine⟨.slice none 0 0,w,Si,?_,rfl,⟨rfl,w0s _⟩,rfl,w0s _,λ_ _ _=>rfl,λb h=>.inl h,?_⟩
    .simp[Builtin.append_,run_underlying hu,Go.sizeOf,typeInfo,hi,Builtin.lenOf,Builtin.firstCells,h0,loadCells,loadCellsFrom]
    .have:m = []:=w17 h0;subst this;exact .inl ⟨rfl,rfl⟩
   .simp only[w1u,w1c] at hby hmax hsmall fresh;have hr:=run_append_nil (P:=P) w t ty E i z hu hi hz ⟨b,o,none⟩ m.length c vs hvl hcell' (by omega) (by omega) (by omega);have hge:=grownCap_ge w m.length 0 E;have hcm:=grownCap_le_maxLen w m.length 0 E hmax;refine⟨_,_,λk=>k=w.heap.size,hr,rfl,⟨rfl,w44 _⟩,rfl,by simp,λk hk _=>Below.heap_alloc w.drew _ k hk,λk hk=>.inr ⟨hk,by subst hk;simp⟩,?_⟩;exact fresh vs _ (by simpa using hvs) hge hcm
  .by_cases hroom:l.length+m.length<=cap
   .have hle :(l.length+m.length)*i.size<=cap*i.size:=w13 _ hroom;have hr:=run_append_room (P:=P) w t ty E i hu hi g l.length cap cur hcur ⟨b,o,none⟩ m.length c vs hvl hcell' hvs.one hroom (by rw[hvl,hsz,<- w16];exact hle);refine⟨_,_,Si,hr,rfl,⟨rfl,w0s _⟩,rfl,by simp,λk hk hk'=>setRow_other w g k _ (λe=>hk' (e ▸ hS)),λk hk=>.inl hk,?_⟩;rw[w16] at hle;refine .inr ⟨g,cap,_,by simp,hS,setRow_heap w g cur _ E _ hcur,by simpa using hroom,hm,?_,?_⟩
    .simp;omega
    .rw[w0d];have hus:=zl.append hh hvs;rw[<- w35] at hus;have hl1 :(cur.toList.take (l.length*i.size)).length=l.length*i.size:=by rw[w1f];simp;omega
     have e1 :(cur.toList.take (l.length*i.size)++vs++cur.toList.drop (l.length*i.size+vs.length)).toArray.toList.take ((l.length+m.length)*i.size)=cur.toList.take (l.length*i.size)++vs:=by rw[w2v];apply w4d;rw[w0d,hl1,hvl,w16]
     rw[e1];exact hus.mono (λ_ h=>h) (λk hk=>setRow_other w g k _ (λe=>(hro k hk).2 (e ▸ hS)))
   .have holds:∀j u,(cur.toList.take (l.length*i.size))[j]? = some u->w.cell? ((⟨g,0,none⟩:Addr).add j)=some u:=λj u hj=>by
     rw[Addr.add_lit,w1c,cell_of_row w g j cur E (0,0) hcur];rw[w0r] at hj;split at hj
     .simpa using hj
     .cases hj
    have hle:l.length*i.size<=cap*i.size:=w13 _ hl;have hr:=run_append_grow (P:=P) w t ty E i z hu hi hz ⟨g,0,none⟩ l.length cap (cur.toList.take (l.length*i.size)) (by rw[w1f];simp;omega) holds ⟨b,o,none⟩ m.length c vs hvl hcell' (by omega) (by omega) (growslice_fits (by omega) hby);have hge:=grownCap_ge w (l.length+m.length) cap E;have hcm:=grownCap_le_maxLen w (l.length+m.length) cap E hmax;refine⟨_,_,λk=>k=w.heap.size,hr,rfl,⟨rfl,w44 _⟩,rfl,by simp,λk hk _=>Below.heap_alloc w.drew _ k hk,λk hk=>.inr ⟨hk,by subst hk;simp⟩,?_⟩;have hus:=zl.append hh hvs;rw[<- w35] at hus;have:=fresh _ _ hus hge hcm;simpa using this
section ops
variable{P:Program}{C:Cx P}{s:St}{dst:Option Tmp}{ty:TypeId}{pos:String}{after:Array Edge}{guard:Option (Nat×Bool)}{K:VP->List HP->Prop}
theorem y9f[Dr]{α:Type}(i:Nat){t E:TypeId}{e:α->List VP}{sz by':Nat}{l m:List α}{sv:Value}{x y:Operand}(ht:tsl P t=some (E,sz,by'))(he:∀x,(e x).length=sz)
  (hx:Ev s x (eqv sv)) (ho:s.objs[i]? = some (row E e sz l sv)) (hy:Src C s y m.length (m.flatMap e)) (hby :(l.length+m.length)*by'<=140737488355328) (hmax:l.length+m.length<=maxLen)
  (k:∀v',K (eqv v') (s.objs.set i (row E e sz (l++m) v'))):OpT C ⟨dst,.call { callee:=.builtin .append,args:=#[x,y],argTypes:=#[t,t] },ty,pos,after,guard⟩ s K:=by
 intro a w r S Q hd hn hw hs;have hx':=hx a r w hs;simp only[eqv] at hx';have hi:=(w02.1 ho).1;obtain⟨v',w',Sn,hr,h1,h2,h3,h4,h5,h6,h7⟩:=yed (w:=w) (r:=r) (Si:=S i) (ty:=ty) ht he (hw.obj i _ ho) (λb hb=>⟨hw.old b hb,λhS=>(hw.own i b hS).2.2.2 hb⟩) hby hmax (hy a r S w hw hs);unfold Oper.wp;rw[zx8 (hx' ▸ hr),Oper.upon_value];refine⟨v',r,_,_,_,rfl,hw.evo_repl i h5,hw.repl i _ Sn hi h1 h2 h3 h4 h5 (λb hb=>?_) h7,rfl,k v'⟩;rcases h6 b hb with hS|⟨rfl,hlt⟩
 .obtain⟨q1,q2,q3,q4⟩:=hw.own i b hS;exact⟨q2,w2g q3 h4,q4,λj hj hSj=>hj (hw.apart j i b hSj hS)⟩
 .exact⟨hw.size,hlt,λhb'=>w47 _ (hw.old _ hb'),λj hj hSj=>w47 _ (hw.own j _ hSj).2.2.1⟩
theorem WInv.addNil[Dr]{w0 w:World}{base:Nat}{objs:List HP}{r:Nat->Prop}{S:Nat->Nat->Prop}(h:WInv w0 base objs r S w)(H:HP)(hH:H.h (λ_=>False) r w):WInv w0 base (objs++[H]) r S w where
 below:=h.below
 size:=h.size
 obj:=by
  intro i K hi;rw[w1w] at hi;split at hi
  .exact h.obj i K hi
  .rename_i hge;cases hk:i-objs.length with
   |succ k=>rw[hk] at hi;simp at hi
   |zero=>
    rw[hk] at hi;simp at hi;subst hi;have:S i=λ_=>False:=by funext b;exact propext ⟨λhb=>absurd (h.own i b hb).1 hge,λhf=>hf.elim⟩
    rw[this];exact hH
 own:=λi b hb=>by obtain⟨h1,h2,h3,h4⟩:=h.own i b hb;exact⟨by simp;omega,h2,h3,h4⟩
 apart:=h.apart
 old:=h.old
theorem ybb[Dr]{α:Type}{t E:TypeId}{e:α->List VP}{sz by':Nat}{x y:Operand}{k1 k2:IntKind}{n:Int}(z:α)(zs:List Value)(ht:tsl P t=some (E,sz,by'))(he:∀x,(e x).length=sz)
  (hz:zlr P E=some zs) (hzc:∀r w,zl r w (e z) zs) (hx:Ev s x (iv k1 n)) (hy:Ev s y (iv k2 n)) (h0:0<=n) (hby :(by':Int)*n<=281474976710656) (hmax:n<=9223372036854775807)
  (k:∀v',(∃g n,v' = .slice (some ⟨g,0,none⟩) n n)->K (eqv v') (s.objs++[row E e sz (List.replicate n.toNat z) v'])):OpT C ⟨dst,.makeSlice t x y,ty,pos,after,guard⟩ s K:=by
 intro a w r S Q hd hn hw hs;have hx':=hx a r w hs;have hy':=hy a r w hs;simp only[iv,eqv] at hx' hy';obtain⟨i,zv,hu,hi,hzv,rfl,rfl,hzs,hpos⟩:=zcb ht;have hzv':zv.cells.toList=zs:=by unfold zlr at hz;simp[hi,hzv] at hz;exact hz
 have hr:=run_make w t E i zv hu hi hzv k1 k2 n n h0 (w57 _) hby hmax;unfold Oper.wp;simp only[execOp,hx',hy',w06,hr,w05,w0j,Oper.upon_value];refine⟨_,r,_,_,_,rfl,hw.evo_alloc _,hw.push _ _ ?_,rfl,k _ ⟨_,_,rfl⟩⟩;refine .inr ⟨w.heap.size,n.toNat,_,by simp,rfl,heap_alloc_new w _,by simp,by simp[maxLen];omega,size_madeCells _ _,?_⟩;have hfl:=z1c he (List.replicate n.toNat z);have e1 :(madeCells zv.cells (n.toNat*i.size)).toList.take ((List.replicate n.toNat z).length*i.size) =(madeCells zv.cells (n.toNat*i.size)).toList:=by apply w24;simp[size_madeCells]
 rw[e1];refine⟨by rw[hfl];simp[size_madeCells],λj A hj=>?_⟩;have hlt:j<n.toNat*i.size:=by have:=(w02.1 hj).1;rw[hfl] at this;simpa using this
 obtain⟨y,hy2,hA⟩:=zgy he hpos _ j A hj;rw[w41] at hy2;split at hy2
 .simp at hy2;subst hy2;obtain⟨u,hu',hAu,h1c⟩:=(hzc _ _).2 _ A hA;refine⟨u,?_,hAu,h1c⟩;have :(madeCells zv.cells (n.toNat*i.size)).toList[j]? = some (zv.cells[j % zv.cells.size]!):=by simp[madeCells,hlt]
  rw[this,hzs];have hml:j % i.size<zv.cells.size:=by rw[hzs];exact w4e _ hpos
  rw[<- hzv'] at hu';simp[hml] at hu'⊢;exact hu'
 .cases hy2
end ops
end Px
end
section
namespace Px
open Go Go.RowKit
def Ent(A B:VP):Prop:=∀r w v,A.h r w v->B.h r w v
theorem Ent.refl{A:VP}: Ent A A:=λ_ _ _ h=>h
theorem Ent.of_eq{A B:VP}(h:A=B):Ent A B:=h ▸ Ent.refl
def EntH(A B:HP):Prop:=∀S r w,A.h S r w->B.h S r w
theorem EntH.refl{A:HP}: EntH A A:=λ_ _ _ h=>h
def zwm(s:z8a):List (Nat×VP)->Prop
 | []=>True
 |(t,B)::l=>(∃A,s t=some A/\Ent A B)/\zwm s l
def z5s:List HP->List HP->Prop
 |_,[]=>True
 | [],_::_=>False
 |A::l,B::m=>EntH A B/\z5s l m
theorem z5s.at:∀{l m:List HP},z5s l m->∀(i:Nat)(B:HP),m[i]? = some B->∃A,l[i]? = some A/\EntH A B
 |_,[],_,i,B,h=>by simp at h
 | [],_::_,hf,_,_,_=>hf.elim
 |A::l,B::m,⟨he,_⟩,0,B',h=>by simp at h;subst h;exact⟨A,rfl,he⟩
 |A::l,B::m,⟨_,hm⟩,i+1,B',h=>by simpa using z5s.at hm i B' (by simpa using h)
theorem WInv.le[Dr]{w0 w:World}{base:Nat}{objs O:List HP}{r:Nat->Prop}{S:Nat->Nat->Prop}(h:WInv w0 base objs r S w)(hO:z5s objs O):
  WInv w0 base O r (λi b=>i<O.length/\S i b) w where
 below:=h.below
 size:=h.size
 obj:=λi B hi=>by
  obtain⟨A,hA,he⟩:=hO.at i B hi;have hlt:=(w02.1 hi).1;have :(λb=>i<O.length/\S i b)=S i:=by funext b;simp[hlt]
  rw[this];exact he _ _ _ (h.obj i A hA)
 own:=λi b ⟨hlt,hb⟩=>by obtain⟨_,h2,h3,h4⟩:=h.own i b hb;exact⟨hlt,h2,h3,h4⟩
 apart:=λi j b hi hj=>h.apart i j b hi.2 hj.2
 old:=h.old
section atx
variable{P:Program}{C:Cx P}{s:St}{Q:Exit->Act->World->Prop}{x y c:Code}{K:Act->World->Prop}{e:Exit}
end atx
def retR[Dr](w0:World)(base:Nat)(r0:Nat->Prop)(wI:World)(K:VP->List HP->Prop):Ending->World->Prop:=λe w'=>∃v x objs' r' S',e = .returned v/\Evo base r0 wI r' w'/\WInv w0 base objs' r' S' w'/\x.h r' w' v/\K x objs'
section ret
variable{P:Program}{C:Cx P}{s:St}{fn:Func}{K:VP->List HP->Prop}
def RV[Dr]{P:Program}(C:Cx P)(s:St):ResultVar->VP->Prop
 | .tmp t,A=>s.slots t=some A
 | .cell a t,A=>(∃n,z3s P t=some (false,n)/\∃cs,Pt C s (.tmp a) (A::cs))\/(∃cs,A=agg cs/\z3s P t=some (true,cs.length)/\Pt C s (.tmp a) cs)
def zte(tmps:Array Value)(rv:ResultVar):Sem Value:=match rv with
 | .tmp t=>pure (tmps.getD t undef)
 | .cell a t=>do loadVar t (<- asAddr (tmps.getD a undef))
theorem y1q(fn:Func)(tmps:Array Value):results fn tmps =(do
  let vs <- fn.results.mapM (zte tmps)
  pure (if h:vs.size=1 then vs[0] else .tuple vs)):=rfl
theorem RV.run[Dr]{rv:ResultVar}{A:VP}(h:RV C s rv A){a:Act}{r:Nat->Prop}{S:Nat->Nat->Prop}{w:World}(hw:WInv C.w0 C.base s.objs r S w)(hs:ze s.slots a r w):
  ∃v,(zte a.tmps rv).run P w = .ok v w/\A.h r w v:=by
 cases rv with
 |tmp t=>exact⟨_,rfl,hs t A h⟩
 |cell b t=>
  rcases h with⟨n,ht,cs,hp⟩|⟨cs,rfl,ht,hp⟩
  .obtain⟨b',o,hx,hc⟩:=hp a r S w hw hs;obtain⟨u,hu,hA,_⟩:=hc 0 A rfl;have hx':a.tmps.getD b undef = .pointer (some ⟨b',o,none⟩):=hx;have hl:=zvr w ht (b:=b') (o:=o) (by simpa using hu);simp only[Instr.loadAt,Instr.sureAddr,w06,w0j,w05] at hl;refine⟨u,?_,hA⟩;simp only[zte,hx',w06,asAddr,w0j,w05,hl]
  .obtain⟨b',o,hx,hc⟩:=hp a r S w hw hs;obtain⟨vs,hvs,hcell⟩:=hc.list;have hx':a.tmps.getD b undef = .pointer (some ⟨b',o,none⟩):=hx;have hl:=zvs w (b:=b') (o:=o) (hvs.1 ▸ ht) hcell;simp only[Instr.loadAt,Instr.sureAddr,w06,w0j,w05] at hl;refine⟨_,?_,vs.toArray,rfl,by simpa using hvs⟩;simp only[zte,hx',w06,asAddr,w0j,w05,hl]
end ret
def ygy[Dr](P:Program)(w0:World)(base:Nat)(f:FuncId)(args:List VP)(objs:List HP)(K:VP->List HP->Prop):Prop:=∀r S w vs,WInv w0 base objs r S w->vs.size=args.length->(∀(i:Nat)(A:VP),args[i]? = some A->A.h r w (vs.getD i undef))->Calls P f vs w (retR w0 base r w K)
def zdn[Dr](P:Program)(f:FuncId)(args:List VP)(K:VP->List HP->Prop):Prop:=∀r w vs,(∀b,r b->b<w.heap.size)->vs.size=args.length->(∀(i:Nat)(A:VP),args[i]? = some A->A.h r w (vs.getD i undef))->Calls P f vs w (retR w w.heap.size r w K)
theorem WInv.join[Dr]{w0 w w':World}{base:Nat}{objs news:List HP}{r r':Nat->Prop}{S S':Nat->Nat->Prop}(h:WInv w0 base objs r S w)(k:WInv w w.heap.size news r' S' w')
  (rr:Nat->Prop) (h1:∀b,r b->rr b) (h2:∀b,rr b->r b\/(w.heap.size<=b/\r' b)) (hn:∀(i:Nat)(H:HP),news[i]? = some H->H.h (S' i) rr w') :
  WInv w0 base (objs++news) rr (λi b=>(i<objs.length/\S i b)\/(objs.length<=i/\S' (i-objs.length) b)) w' where
 below:=h.below.trans (k.below.mono h.size)
 size:=w26 h.size k.size
 obj:=by
  intro i H hi;rw[w1w] at hi;split at hi
  .rename_i hlt;have e :(λb=>(i<objs.length/\S i b)\/(objs.length<=i/\S' (i-objs.length) b))=S i:=by
    funext b;have:¬objs.length<=i:=by omega
    simp[hlt,this]
   rw[e];exact H.mono (w:=w) h1 (λb hb=>k.below.block b (h.old b hb)) (λb hb=>k.below.block b (h.own i b hb).2.2.1) (h.obj i H hi)
  .rename_i hge;have e :(λb=>(i<objs.length/\S i b)\/(objs.length<=i/\S' (i-objs.length) b))=S' (i-objs.length):=by funext b;simp[hge,w48 hge]
   rw[e];exact hn _ H hi
 own:=by
  rintro i b (⟨hlt,hb⟩|⟨hge,hb⟩)
  .obtain⟨a1,a2,a3,a4⟩:=h.own i b hb;refine⟨by simp;omega,a2,w2g a3 k.size,λhr=>?_⟩;rcases h2 b hr with q|⟨q,_⟩
   .exact a4 q
   .omega
  .obtain⟨a1,a2,a3,a4⟩:=k.own _ b hb;refine⟨by simp;omega,w26 h.size a2,a3,λhr=>?_⟩;rcases h2 b hr with q|⟨_,q⟩
   .have:=h.old b q;omega
   .exact a4 q
 apart:=by
  rintro i j b (⟨hi,hb⟩|⟨hi,hb⟩) (⟨hj,hb'⟩|⟨hj,hb'⟩)
  .exact h.apart i j b hb hb'
  .have:=(h.own i b hb).2.2.1;have:=(k.own _ b hb').2.1;omega
  .have:=(h.own j b hb').2.2.1;have:=(k.own _ b hb).2.1;omega
  .have:=k.apart _ _ b hb hb';omega
 old:=λb hb=>by
  rcases h2 b hb with q|⟨_,q⟩
  .exact w2g (h.old b q) k.size
  .exact k.old b q
def VP.flat(A:VP):Prop:=∀r r' w w' v,A.h r w v->A.h r' w' v
def HP.flat(H:HP):Prop:=∀S r r' w,H.h S r w->H.h S r' w
theorem zed{v:Value}:(eqv v).flat:=λ_ _ _ _ _ h=>h
theorem y8h{xs:List VP}(h:∀A∈xs,A.flat):(tupv xs).flat:=λr r' w w' v ⟨vs,e,hl,hh⟩=>⟨vs,e,hl,λi A hi=>h A (w12 hi) r r' w w' _ (hh i A hi)⟩
theorem zl.flat{r r':Nat->Prop}{w:World}{cs:List VP}{vs:List Value}(hf:∀A∈cs,A.flat)(h:zl r w cs vs):zl r' w cs vs:=⟨h.1,λj A hj=>by obtain⟨u,hu,hA,h1⟩:=h.2 j A hj;exact⟨u,hu,hf A (w12 hj) _ _ _ _ _ hA,h1⟩⟩
theorem y8g{cs:List VP}(h:∀A∈cs,A.flat):(agg cs).flat:=λr r' w w' v ⟨vs,e,hh⟩=>⟨vs,e,hh.1,λj A hj=>by obtain⟨u,hu,hA,h1⟩:=hh.2 j A hj;exact⟨u,hu,h A (w12 hj) _ _ _ _ _ hA,h1⟩⟩
theorem zz6{α:Type}{E:TypeId}{e:α->List VP}{sz:Nat}{l:List α}{sv:Value}(h:∀x,∀A∈e x,A.flat):(row E e sz l sv).flat:=λS r r' w hh=>by
 rcases hh with hn|⟨g,cap,cur,hv,hS,hcur,hl,hm,hsz,hc⟩
 .exact .inl hn
 .exact .inr ⟨g,cap,cur,hv,hS,hcur,hl,hm,hsz,hc.flat (λA hA=>by obtain⟨x,_,hx⟩:=w37.1 hA;exact h x A hx)⟩
def Args(s:St):List Operand->List VP->Prop
 | [],[]=>True
 |o::os,A::As=>Ev s o A/\Args s os As
 |_,_=>False
theorem Args.ok{s:St}{a:Act}{r:Nat->Prop}{w:World}(hs:ze s.slots a r w):∀{os:List Operand}{As:List VP},Args s os As->
  os.length=As.length/\∀(i:Nat)(A:VP),As[i]? = some A->A.h r w ((os.map a.eval).getD i undef)
 | [],[],_=>⟨rfl,λi A h=>by simp at h⟩
 |o::os,A::As,⟨h,hr⟩=>by
  obtain⟨h1,h2⟩:=Args.ok hs hr;refine⟨by simp[h1],λi B hi=>?_⟩;cases i with
  |zero=>simp at hi;subst hi;exact h a r w hs
  |succ i=>simpa using h2 i B (by simpa using hi)
 | [],_::_,h=>h.elim
 |_::_,[],h=>h.elim
def EvF[Dr]{P:Program}(C:Cx P)(s:St)(o:Operand)(A:VP):Prop:=∀a r S w,WInv C.w0 C.base s.objs r S w->ze s.slots a r w->A.h (λb=>b<w.heap.size) w (a.eval o)
def zts[Dr]{P:Program}(C:Cx P)(s:St):List Operand->List VP->Prop
 | [],[]=>True
 |o::os,A::As=>EvF C s o A/\zts C s os As
 |_,_=>False
theorem zts.ok[Dr]{P:Program}{C:Cx P}{s:St}{a:Act}{r:Nat->Prop}{S:Nat->Nat->Prop}{w:World}(hw:WInv C.w0 C.base s.objs r S w)(hs:ze s.slots a r w):∀{os:List Operand}{As:List VP},zts C s os As->
  os.length=As.length/\∀(i:Nat)(A:VP),As[i]? = some A->A.h (λb=>b<w.heap.size) w ((os.map a.eval).getD i undef)
 | [],[],_=>⟨rfl,λi A h=>by simp at h⟩
 |o::os,A::As,⟨h,hr⟩=>by
  obtain⟨h1,h2⟩:=zts.ok hw hs hr;refine⟨by simp[h1],λi B hi=>?_⟩;cases i with
  |zero=>simp at hi;subst hi;exact h a r S w hw hs
  |succ i=>simpa using h2 i B (by simpa using hi)
 | [],_::_,h=>h.elim
 |_::_,[],h=>h.elim
def FEnt[Dr]{P:Program}(C:Cx P)(s:St)(A B:VP):Prop:=∀r S w v,WInv C.w0 C.base s.objs r S w->A.h r w v->B.h (λb=>r b\/∃j,S j b) w v
theorem WInv.all[Dr]{w0 w:World}{base:Nat}{objs:List HP}{r:Nat->Prop}{S:Nat->Nat->Prop}(hw:WInv w0 base objs r S w){b:Nat}(h:r b\/∃j,S j b):b<w.heap.size:=h.elim (hw.old b) λ⟨j,hj⟩=>(hw.own j b hj).2.2.1
theorem FEnt.refl[Dr]{P:Program}{C:Cx P}{s:St}{A:VP}: FEnt C s A A:=λr S w v hw h=>A.mono (λb hb=>.inl hb) (λ_ _=>rfl) h
theorem FEnt.row[Dr]{P:Program}{C:Cx P}{s:St}{α:Type}(i:Nat){E:TypeId}{e:α->List VP}{sz:Nat}{l:List α}{sv:Value}(he:∀x,(e x).length=sz)(ho:s.objs[i]? = some (row E e sz l sv)):FEnt C s (eqv sv) (ro e sz l):=by
 intro r S w v hw h;simp only[eqv] at h;subst h;rcases hw.obj i _ ho with⟨rfl,rfl⟩|⟨g,cap,cur,rfl,hS,hcur,hl,hm,hsz,hh⟩
 .exact .inl ⟨⟨none,0,rfl⟩,rfl⟩
 .refine .inr ⟨g,0,cap-l.length,by rw[w2m hl],λk x hk=>⟨.inr ⟨i,hS⟩,λj A hj=>?_⟩⟩;obtain⟨u,hu,hA,h1⟩:=hh.2 _ A (z3g he l k x hk j A hj);refine⟨u,?_,A.mono (λb hb=>.inl hb) (λ_ _=>rfl) hA,h1⟩;rw[w1c,cell_of_row w g _ cur E (0,0) hcur];rw[w0r] at hu;split at hu
  .simpa using hu
  .cases hu
theorem FEnt.nil[Dr]{P:Program}{C:Cx P}{s:St}{α:Type}{e:α->List VP}{sz:Nat}: FEnt C s (eqv (.slice none 0 0)) (ro e sz []):=λr S w v hw h=>.inl ⟨⟨none,0,h⟩,rfl⟩
def zka[Dr]{P:Program}(C:Cx P)(s:St):List VP->List VP->Prop
 | [],[]=>True
 |A::As,B::Bs=>FEnt C s A B/\zka C s As Bs
 |_,_=>False
theorem zka.ok[Dr]{P:Program}{C:Cx P}{s:St}: ∀{As Bs:List VP},zka C s As Bs->As.length=Bs.length/\∀(j:Nat)(B:VP),Bs[j]? = some B->∃A,As[j]? = some A/\FEnt C s A B
 | [],[],_=>⟨rfl,λj B h=>by simp at h⟩
 |A::As,B::Bs,⟨h,hr⟩=>by
  obtain⟨h1,h2⟩:=zka.ok hr;refine⟨by simp[h1],λj D hj=>?_⟩;cases j with
  |zero=>simp at hj;subst hj;exact⟨A,rfl,h⟩
  |succ j=>simpa using h2 j D (by simpa using hj)
 | [],_::_,h=>h.elim
 |_::_,[],h=>h.elim
theorem FEnt.agg[Dr]{P:Program}{C:Cx P}{s:St}{cs ds:List VP}(h:zka C s cs ds):FEnt C s (agg cs) (agg ds):=by rintro r S w v hw ⟨vs,rfl,hh⟩;obtain⟨h1,h2⟩:=h.ok;refine⟨vs,rfl,by rw[<- h1];exact hh.1,λj B hj=>?_⟩;obtain⟨A,hA,hAB⟩:=h2 j B hj;obtain⟨u,hu,hAu,ho⟩:=hh.2 j A hA;exact⟨u,hu,hAB r S w u hw hAu,ho⟩
theorem EvF.of[Dr]{P:Program}{C:Cx P}{s:St}{o:Operand}{A B:VP}(h:Ev s o A)(hf:FEnt C s A B):EvF C s o B:=λa r S w hw hs=>B.mono (λ_ hb=>hw.all hb) (λ_ _=>rfl) (hf r S w _ hw (h a r w hs))
theorem z1v {P : Program} {f : FuncId} {fn : Func} (hf : P.funcs[f]? = some fn) (hname : (fn.name == "runtime.NumGoroutine") = false) (hb : fn.body.isSome = true) (args : Array Value) (w : World) :
  (callFunc f args).run P w = .ok (.enter f args) w:=by
 obtain⟨c,hc⟩:=w18.1 hb
 have h1 : fn.name ≠ "runtime.NumGoroutine" := by simpa using hname
 simp[callFunc,hf,h1,hc]
def FnOK (P : Program) (f : FuncId) : Prop := ∃ fn, P.funcs[f]? = some fn /\ (fn.name == "runtime.NumGoroutine") = false /\ fn.body.isSome = true
section ops
variable{P:Program}{C:Cx P}{s:St}{dst:Option Tmp}{ty:TypeId}{pos:String}{after:Array Edge}{guard:Option (Nat×Bool)}{K:VP->List HP->Prop}
theorem OpT.calls[Dr]{f:FuncId}{fo:Operand}{as:Array Operand}{ts:Array TypeId}{caps:Array Value}(hf:FnOK P f)(hfo:Ev s fo (eqv (.func (.func f) #[] caps)))
  (h:∀a r S w,a.defers=C.df->WInv C.w0 C.base s.objs r S w->ze s.slots a r w->Calls P f (as.map a.eval++caps) w (retR C.w0 C.base r w K)) :
  OpT C ⟨dst,.call { callee:=.value fo,args:=as,argTypes:=ts },ty,pos,after,guard⟩ s K:=by
 intro a w r S Q hd hn hw hs;obtain⟨fn,h1,h2,h3⟩:=hf;have hfo':=hfo a r w hs;simp only[eqv] at hfo';unfold Oper.wp;have hrun :(execOp a.eval ⟨dst,.call { callee:=.value fo,args:=as,argTypes:=ts },ty,pos,after,guard⟩).run P w = .ok (.enter f (as.map a.eval++caps)) w:=by simp[execOp,resolve,hfo',Deferred.ofValue,invoke,z1v h1 h2 h3]
 rw[hrun,Oper.upon_enter];refine(h a r S w hd hw hs).mono ?_;rintro e w' ⟨v,x,objs',r',S',rfl,he,hw',hx,hk⟩;exact⟨v,r',S',x,objs',rfl,he,hw',hx,hk⟩
theorem y5n[Dr]{f:FuncId}{as:Array Operand}{ts:Array TypeId}{args:List VP}{K':VP->List HP->Prop}(hf:FnOK P f)(ha:Args s as.toList args)
  (h:zdn P f args K') (k:∀x news,K' x news->K x (s.objs++news)):OpT C ⟨dst,.call { callee:=.value (.func f),args:=as,argTypes:=ts },ty,pos,after,guard⟩ s K:=
 .calls hf (Ev.func f) λa r S w hd hw hs=>by
  obtain⟨h1,h2⟩:=ha.ok hs;refine(h r w _ hw.old (by simp at h1;simp[h1]) λi A hi=>?_).mono ?_
  .have:=h2 i A hi
   have hlt:i<as.size:=by have:=(w02.1 hi).1;simp at h1;omega
   simpa[w1a,hlt] using this
  .rintro e w' ⟨v,x,news,r',S',rfl,he,hw',hx,hk⟩;refine⟨v,x,_,r',_,rfl,⟨he.1,he.2.1,λb hb=>(he.2.2 b hb).imp id (λq=>w26 hw.size q)⟩,hw.join hw' r' he.1 (λb hb=>?_) hw'.obj,hx,k _ _ hk⟩;rcases he.2.2 b hb with q|q
   .exact .inl q
   .exact .inr ⟨q,hb⟩
theorem zxv[Dr]{f:FuncId}{as:Array Operand}{ts:Array TypeId}{args:List VP}{K':VP->List HP->Prop}(hf:FnOK P f)(ha:zts C s as.toList args)
  (h:zdn P f args K') (k:∀x news,K' x news->x.flat/\(∀H∈news,H.flat)/\K x (s.objs++news)):OpT C ⟨dst,.call { callee:=.value (.func f),args:=as,argTypes:=ts },ty,pos,after,guard⟩ s K:=
 .calls hf (Ev.func f) λa r S w hd hw hs=>by
  obtain⟨h1,h2⟩:=ha.ok hw hs;refine(h _ w _ (λ_ h=>h) (by simp at h1;simp[h1]) λi A hi=>?_).mono ?_
  .have:=h2 i A hi
   have hlt:i<as.size:=by have:=(w02.1 hi).1;simp at h1;omega
   simpa[w1a,hlt] using this
  .rintro e w' ⟨v,x,news,r',S',rfl,he,hw',hx,hk⟩;obtain⟨k1,k2,k3⟩:=k _ _ hk;exact⟨v,x,_,r,_,rfl,⟨λ_ h=>h,λb hb=>he.2.1 b (hw.old b hb),λ_ h=>.inl h⟩,hw.join hw' r (λ_ h=>h) (λb hb=>.inl hb)
    (λi H hi=>k2 H (w12 hi) _ _ _ _ (hw'.obj i H hi)),k1 _ _ _ _ _ hx,k3⟩
theorem ydr[Dr]{f:FuncId}{as:Array Operand}{ts:Array TypeId}{args:List VP}{x:VP}(hf:FnOK P f)(ha:zts C s as.toList args)
  (h:zdn P f args λy news=>y=x/\news = []) (hx:x.flat):OpQ C ⟨dst,.call { callee:=.value (.func f),args:=as,argTypes:=ts },ty,pos,after,guard⟩ s x:=
 zxv hf ha h λy news ⟨hy,hn⟩=>by subst hy;subst hn;exact⟨hx,by simp,rfl,by simp⟩
end ops
end Px
end
section
namespace Px
open Go Go.RowKit
def zr(ops:Array Oper):List (Option Nat×List Nat):=ops.toList.map λo=>(o.dst,(o.after.toList.filter (Region.binds .any ·)).map (·.on))
abbrev Tab:=List (Option Nat×List Nat)
def Tab.dst(tab:Tab)(i:Nat):Option Nat:=match tab[i]? with|some p=>p.1|none=>none
def Tab.deps(tab:Tab)(i:Nat):List Nat:=match tab[i]? with|some p=>p.2|none=>[]
def memB(l:List Nat)(i:Nat):Bool:=l.any (Nat.beq i)
theorem z06{l:List Nat}{i:Nat}: memB l i=true↔i∈l:=by simp only[memB,w2h];exact⟨λ⟨x,hx,h⟩=>by have:=w01 h;subst this;exact hx,λh=>⟨i,h,w2j i⟩⟩
def zdq(d:Option Nat)(t:Nat):Bool:=match d with|some d=>Nat.beq d t|none=>false
theorem zoq{d:Option Nat}{t:Nat}: zdq d t=true↔d=some t:=by
 cases d with
 |none=>simp[zdq]
 |some d=>simp[zdq]
def z18(tab:Tab)(ok:Nat->Bool)(s:z8a):List (Nat×VP)->z8a
 | []=>s
 |(q,x)::r=>λt=>bif (ok q&&zdq (tab.dst q) t) then some x else z18 tab ok s r t
def GQ[Dr]{P:Program}(C:Cx P)(tab:Tab)(o:Oper)(s:St)(x:VP):Prop:=match o.guard with
 |none=>OpQ C o s x
 |some (j,want)=>∃p x0 t,tab.dst j=some t/\x=cnd p x0/\(p->OpQ C o s x0)/\((∃g,s.slots t=some (bv g)/\p =(g=want))\/(∃c g,s.slots t=some (cnd c (bv g))/\p =(c/\g=want)))
structure Node(ops:Array Oper)(tab:Tab)(D:List Nat)(QR:List (Nat×VP))(E:List Nat)(fuel:Nat)(listed:Array Bool):Prop where
 closed:∀j,j∈D\/j∈E->∀e∈tab.deps j,e∈D\/e∈E
 size:listed.size=ops.size
 lst:∀i,i<ops.size->(listed.getD i true=true↔i∈D\/i∈E)
 sub:∀q∈E,q∈QR.map (·.1)
 fuel :((List.range ops.size).filter λi=>!listed.getD i true).length=fuel
def yfa(tab:Tab)(QR:List (Nat×VP))(E:List Nat)(a:Act)(r:Nat->Prop)(w:World):Prop:=∀q x t,q∈E->(q,x)∈QR->tab.dst q=some t->x.h r w (a.tmps.getD t undef)
def Reg[Dr]{P:Program}(C:Cx P)(ops:Array Oper)(tab:Tab)(Q:Exit->Act->World->Prop)(D:List Nat)(s:St)(QR:List (Nat×VP)):Prop:=
 ∀fuel listed a w E r S,Node ops tab D QR E fuel listed->a.defers=C.df->a.tmps.size=C.n->WInv C.w0 C.base s.objs r S w->Evo C.base C.r0 C.wI r w->ze s.slots a r w->yfa tab QR E a r w->
  wpAnyIn (fz C.rd) 0 P .any ops Q fuel listed a w
def zgl:List Nat->Bool
 | []=>true
 |x::r=>!memB r x&&zgl r
theorem zao:∀{l:List Nat},zgl l=true->l.Nodup
 | [],_=>w40
 |x::r,h=>by simp only[zgl,w03,w0z] at h;refine w1x.2 ⟨λhm=>?_,zao h.2⟩;rw[z06.2 hm] at h;cases h.1
def AllP{α:Type}(P:α->Prop):List α->Prop
 | []=>True
 |a::l=>P a/\AllP P l
theorem AllP.mem{α:Type}{P:α->Prop}: ∀{l:List α},AllP P l->∀a∈l,P a
 |_::_,⟨h,_⟩,_,.head _=>h
 |_::_,⟨_,h⟩,a,.tail _ hm=>AllP.mem h a hm
def zx0(a b:Option Nat):Bool:=match a,b with
 |some x,some y=>!Nat.beq x y
 |_,_=>true
theorem zit{a b:Option Nat}(h:zx0 a b=true):∀t,a=some t->b≠some t:=by intro t ha hb;subst ha;subst hb;simp[zx0] at h
def chk(tab:Tab)(n:Nat)(D keys cands sure:List Nat):Bool:=
 sure.all (λq=>(D++sure).any λj=>memB (tab.deps j) q)&&
 zgl keys&&zgl (keys.filterMap tab.dst)&&keys.all (λq=>(tab.dst q).isSome&&!memB D q&&decide (q<tab.length)&&isSomeLt (tab.dst q) n)&&
 (List.range tab.length).all (λi=>memB D i||memB keys i||memB cands i||(tab.deps i).any (λe=>!memB D e&&!memB keys e))&&
 (List.range tab.length).all (λi=>(tab.deps i).all (λe=>decide (e<i)))
 where isSomeLt (d:Option Nat) (n:Nat):Bool:=match d with|some d=>decide (d<n)|none=>false
def ze8(tab:Tab)(D keys:List Nat):Bool:=(List.range tab.length).all λi=>memB D i||memB keys i
theorem zjl{tab:Tab}{ok:Nat->Bool}{s:z8a}{a:Act}{r:Nat->Prop}{w:World}(hs:ze s a r w):∀{QR:List (Nat×VP)},(∀q x t,(q,x)∈QR->ok q=true->tab.dst q=some t->x.h r w (a.tmps.getD t undef))->
  ze (z18 tab ok s QR) a r w
 | [],_=>hs
 |(q,x)::rr,h=>λt A hA=>by
  simp only[z18] at hA;cases hc :(ok q&&zdq (tab.dst q) t) with
  |true=>rw[hc] at hA;simp only[cond_true,w00] at hA;subst hA;simp only[w03] at hc;exact h q x t (w0l ..) hc.1 (zoq.1 hc.2)
  |false=>rw[hc] at hA;exact zjl hs (λq' x' t' hm=>h q' x' t' (w0h _ hm)) t A hA
section
variable{P:Program}{C:Cx P}{ops:Array Oper}{tab:Tab}{Q:Exit->Act->World->Prop}
theorem zm9(htab:zr ops=tab){i:Nat}{o:Oper}(ho:ops[i]? = some o):tab[i]? = some (o.dst,(o.after.toList.filter (Region.binds .any ·)).map (·.on)):=by subst htab;simp[zr,ho]
theorem zf1(htab:zr ops=tab):tab.length=ops.size:=by subst htab;simp[zr]
theorem zyz(htab:zr ops=tab){j t:Nat}(hj:tab.dst j=some t):(ops[j]?).bind (·.dst)=some t:=by
 cases ho:ops[j]? with
 |none=>
  have:tab[j]? = none:=by have:=zf1 htab;rw[w1m];rw[this];simpa using ho
  simp[Tab.dst,this] at hj
 |some oj=>simp[Tab.dst,zm9 htab ho] at hj;simpa using hj
theorem zjn{listed:Array Bool}{i:Nat}(h:i∈Region.ready .any ops listed):i<ops.size/\listed.getD i true=false/\∃o,ops[i]? = some o/\∀e∈o.after,Region.binds .any e=true->listed.getD e.on false=true:=by simp only[Region.ready,w0i,w1p,w03,w0z] at h;obtain⟨h1,h2,h3⟩:=h;refine⟨h1,h2,ops[i],by simp[h1],λe he hb=>?_⟩;simp only[w1t h1,w0u,w1e,w2x] at h3;have:=h3 e he;simpa[hb] using this
theorem zm0{f:Nat->Option Nat}: ∀{l:List Nat},(l.filterMap f).Nodup->∀{q q' t:Nat},q∈l->q'∈l->f q=some t->f q'=some t->q=q'
 | [],_,q,q',t,hq,_,_,_=>by cases hq
 |y::l,h,q,q',t,hq,hq',h1,h2=>by
  have htail :(l.filterMap f).Nodup:=by
   cases hy:f y with
   |none=>rwa [List.filterMap_cons_none hy] at h
   |some z=>rw[List.filterMap_cons_some hy] at h;exact(w1x.1 h).2
  have hhead:∀z,f y=some z->z ∉ l.filterMap f:=λz hz=>by rw[List.filterMap_cons_some hz] at h;exact(w1x.1 h).1
  rcases w08.1 hq with e|hq
  .rcases w08.1 hq' with e'|hq'
   .rw[e,e']
   .exact absurd (List.mem_filterMap.2 ⟨q',hq',h2⟩) (hhead t (e ▸ h1))
  .rcases w08.1 hq' with e'|hq'
   .exact absurd (List.mem_filterMap.2 ⟨q,hq,h1⟩) (hhead t (e' ▸ h2))
   .exact zm0 htail hq hq' h1 h2
theorem zaz{α:Type}: ∀{l:List (Nat×α)},(l.map (·.1)).Nodup->∀{p p':Nat×α},p∈l->p'∈l->p.1=p'.1->p=p'
 | [],_,_,_,h,_,_=>by cases h
 |y::l,h,p,p',hp,hp',e=>by
  rw[w0e] at h;obtain⟨h1,h2⟩:=w1x.1 h;rcases w08.1 hp with r|hp
  .rcases w08.1 hp' with r'|hp'
   .rw[r,r']
   .exact absurd (w0a.2 ⟨p',hp',by rw[<- e,r]⟩) h1
  .rcases w08.1 hp' with r'|hp'
   .exact absurd (w0a.2 ⟨p,hp,by rw[e,r']⟩) h1
   .exact zaz h2 hp hp' e
theorem zug{listed:Array Bool}{i:Nat}: ∀{n:Nat},i<n->listed.getD i true=false->
  ((List.range n).filter λj=>!(if j=i then true else listed.getD j true)).length+1 =((List.range n).filter λj=>!listed.getD j true).length
 |0,h,_=>by omega
 |n+1,h,hl=>by
  rw[w3w,w1g,w1g,w0d,w0d];by_cases e:i=n
  .subst e;have :((List.range i).filter λj=>!(if j=i then true else listed.getD j true)) =(List.range i).filter λj=>!listed.getD j true:=by
    apply w2c;intro j hj;have:¬j=i:=by have:=w1p.1 hj;omega
    simp[this]
   rw[this];have h1 :(List.filter (λj=>!(if j=i then true else listed.getD j true)) [i]).length=0:=by simp
   have h2 :(List.filter (λj=>!listed.getD j true) [i]).length=1:=by rw[w2q (by rw[hl];rfl)];rfl
   omega
  .have ih:=zug (n:=n) (by omega) hl;have :(List.filter (λj=>!(if j=i then true else listed.getD j true)) [n])=List.filter (λj=>!listed.getD j true) [n]:=by
    apply w2c;intro j hj;have:¬j=i:=by simp at hj;omega
    simp[this]
   rw[this];omega
def ztw(tab:Tab)(s:z8a)(QR:List (Nat×VP)):Prop:=∀p∈QR,∀t,tab.dst p.1=some t->s t=none\/s t=some p.2
def y2d[Dr]{P:Program}(C:Cx P)(tab:Tab)(o:Oper)(s:St)(K:VP->List HP->Prop):Prop:=match o.guard with
 |none=>OpT C o s K
 |some (j,want)=>∃(p:Prop)(t:Nat),tab.dst j=some t/\((∃g,s.slots t=some (bv g)/\p =(g=want))\/(∃c g,s.slots t=some (cnd c (bv g))/\p =(c/\g=want)))/\(p->OpT C o s K)/\
   (¬p->∃x objs,(∀r w,x.h r w undef)/\(∀r S w,WInv C.w0 C.base s.objs r S w->∃S',WInv C.w0 C.base objs r S' w)/\K x objs)
theorem Reg.introW[Dr]{D:List Nat}{s:St}{QR:List (Nat×VP)}(cands W sure:List Nat)(htab:zr ops=tab)(hchk:chk tab C.n D (QR.map (·.1)) (cands++W) sure=true)
  (hnone:ztw tab s.slots QR)
  (hQ':AllP (λp=>memB sure p.1=false->∃o,ops[p.1]? = some o/\GQ C tab o ⟨z18 tab (memB (tab.deps p.1)) s.slots QR,s.objs⟩ p.2) QR)
  (hL':AllP (λi=>∃o,ops[i]? = some o/\z6m C o=true/\((QR.map (·.1)).all λq=>zx0 (tab.dst q) o.dst)=true/\
   y2d C tab o ⟨z18 tab (memB (tab.deps i)) s.slots QR,s.objs⟩ (λx objs=>∃N,(N.all λp=>!memB (QR.map (·.1)) p.1)=true/\Reg C ops tab Q (i::D) ⟨s.slots.set o.dst x,objs⟩ (QR++N))) cands)
  (hW:∀i∈W,∀fuel listed a w E r S,Node ops tab D QR E (fuel+1) listed->a.defers=C.df->a.tmps.size=C.n->WInv C.w0 C.base s.objs r S w->Evo C.base C.r0 C.wI r w->ze s.slots a r w->yfa tab QR E a r w->i<ops.size->
   (∀e∈tab.deps i,e∈D\/e∈E)->(∀j,j<ops.size->listed.getD j true=false->j≠i->j ∉ D/\j ∉ E)->wpOpIn (fz C.rd) 0 P ops Q i (wpAnyIn (fz C.rd) 0 P .any ops Q fuel (listed.setIfInBounds i true)) a w)
  (hE:ze8 tab D (QR.map (·.1))=true->AtX C ⟨z18 tab (λ_=>true) s.slots QR,s.objs⟩ .normal Q):Reg C ops tab Q D s QR:=by
 have hQ:=hQ'.mem;have hL:∀i∈cands,∃o,ops[i]? = some o/\z6m C o=true/\(∀q∈QR.map (·.1),∀t,tab.dst q=some t->o.dst≠some t)/\
   y2d C tab o ⟨z18 tab (memB (tab.deps i)) s.slots QR,s.objs⟩ (λx objs=>∃N,(N.all λp=>!memB (QR.map (·.1)) p.1)=true/\Reg C ops tab Q (i::D) ⟨s.slots.set o.dst x,objs⟩ (QR++N)):=λi hi=>by
  obtain⟨o,h1,h3,h4,h5⟩:=hL'.mem i hi;exact⟨o,h1,h3,λq hq=>zit (w0g.1 h4 q hq),h5⟩
 simp only[chk,w03,w0g,w1p,w1h,w0z,decide_eq_true_eq,w2h] at hchk;obtain⟨⟨⟨⟨⟨hk0,hk1⟩,hk2⟩,hk3⟩,hk4⟩,hk5⟩:=hchk;have hnd:=zao hk1;have hdd:=zao hk2;have hlen:=zf1 htab;have hdist:∀q q' t,q∈QR.map (·.1)->q'∈QR.map (·.1)->tab.dst q=some t->tab.dst q'=some t->q=q':=by intro q q' t hq hq' ht ht';exact zm0 hdd hq hq' ht ht'
 intro fuel
 induction fuel with
 |zero=>
  intro listed a w E r S hN hd hn hw he hs hf;have hnil :(List.range ops.size).filter (λi=>!listed.getD i true) = []:=w17 hN.fuel;have hall:∀i,i<ops.size->listed.getD i true=true:=λi hi=>by have:=w45.1 hnil i (by simpa using hi);simpa using this
  refine⟨?_,?_⟩
  .apply w4f.2;intro i hi;obtain⟨h1,h2,_⟩:=zjn hi;rw[hall i h1] at h2;cases h2
  .refine hE ?_ a w ⟨hd,hn,r,S,hw,he,zjl hs λq x t hm _ ht=>hf q x t ?_ hm ht⟩
   .simp only[ze8,w0g,w1p,w1h];intro i hi;rw[hlen] at hi;rcases(hN.lst i hi).1 (hall i hi) with h|h
    .exact .inl (z06.2 h)
    .exact .inr (z06.2 (hN.sub i h))
   .have hqm:q∈QR.map (·.1):=w0a.2 ⟨_,hm,rfl⟩;obtain⟨⟨⟨_,hqD⟩,hql⟩,_⟩:=hk3 q hqm;rcases(hN.lst q (by omega)).1 (hall q (by omega)) with h|h
    .rw[z06.2 h] at hqD;cases hqD
    .exact h
 |succ fuel ih=>
  intro listed a w E r S hN hd hn hw he hs hf;have hprog:Region.ready .any ops listed = []->False:=by
   intro hnil;have hne :(List.range ops.size).filter (λi=>!listed.getD i true)≠[]:=by intro h;have:=hN.fuel;rw[h] at this;simp at this
   obtain⟨i0,hi0⟩:=List.exists_mem_of_ne_nil _ hne;have key:∀i,i<ops.size->listed.getD i true=false->False:=by
    intro i
    induction i using Nat.strongRecOn with
    |_ i ihi=>
     intro hi hli;have:i∈Region.ready .any ops listed:=by
      simp only[Region.ready,w0i,w1p,w03,w0z];refine⟨hi,hli,?_⟩;simp only[w1t hi,w0u,w1e,w2x];intro e hem;by_cases hb:Region.binds .any e=true
      .simp only[hb,w2o,w2w];have htb:=zm9 htab (i:=i) (o:=ops[i]) (by simp[hi]);have hlt:=hk5 i (by omega) e.on (by simp only[Tab.deps,htb];exact w0a.2 ⟨e,w0i.2 ⟨by simpa using hem,hb⟩,rfl⟩);cases hle:listed.getD e.on true with
       |true=>
        have hb':e.on<listed.size:=by rw[hN.size];omega
        simp[hb'] at hle⊢;exact hle
       |false=>exact(ihi e.on hlt (by omega) hle).elim
      .simp[hb]
     rw[hnil] at this;cases this
   simp only[w0i,w1p,w0z] at hi0;exact key i0 hi0.1 hi0.2
  refine⟨λh=>(hprog h).elim,λi hi=>?_⟩;obtain⟨hisz,hli,o,ho,hdeps⟩:=zjn hi;have hiDE:i ∉ D/\i ∉ E:=by
   constructor<;>intro h
   .rw[(hN.lst i hisz).2 (.inl h)] at hli;cases hli
   .rw[(hN.lst i hisz).2 (.inr h)] at hli;cases hli
  have htb:=zm9 htab ho;have hdeps':∀e∈tab.deps i,e∈D\/e∈E:=by
   intro e hem;simp only[Tab.deps,htb] at hem;obtain⟨ed,hed,rfl⟩:=w0a.1 hem;obtain⟨hed1,hed2⟩:=w0i.1 hed;have hl:=hdeps ed (by simpa using hed1) hed2;have hlt:=hk5 i (by omega) ed.on (by simp only[Tab.deps,htb];exact hem);have hb':ed.on<listed.size:=by rw[hN.size];omega
   refine(hN.lst ed.on (by omega)).1 ?_;simp[hb'] at hl⊢;exact hl
  have hdq:ze (z18 tab (memB (tab.deps i)) s.slots QR) a r w:=zjl hs λq x t hm hok ht=>by
   rcases hdeps' q (z06.1 hok) with h|h
   .have hqm:q∈QR.map (·.1):=w0a.2 ⟨_,hm,rfl⟩;obtain⟨⟨⟨_,hqD⟩,_⟩,_⟩:=hk3 q hqm;rw[z06.2 h] at hqD;cases hqD
   .exact hf q x t h hm ht
  have hNext:∀(D' E':List Nat)(QR':List (Nat×VP)),(∀j,(j∈D'\/j∈E')↔(j=i\/j∈D\/j∈E))->(∀q∈E',q∈QR'.map (·.1))->
    Node ops tab D' QR' E' fuel (listed.setIfInBounds i true):=by
   intro D' E' QR' hDE hsub;have hget:∀j,(listed.setIfInBounds i true).getD j true =(if j=i then true else listed.getD j true):=by
    intro j;by_cases e:j=i
    .subst e;by_cases hb:j<listed.size<;>simp[hb]
    .have:¬i=j:=λh=>e h.symm
     simp[e,w30 this]
   refine⟨λj hj e he=>?_,by simp[hN.size],λj hj=>?_,hsub,?_⟩
   .refine(hDE e).2 (.inr ?_);rcases(hDE j).1 hj with rfl|h
    .exact hdeps' e he
    .exact hN.closed j h e he
   .rw[hget j,hDE];by_cases e:j=i
    .simp[e]
    .rw[if_neg e,hN.lst j hj];simp[e]
   .have:=zug (listed:=listed) (i:=i) (n:=ops.size) hisz hli
    have h2:=hN.fuel;have e1 :(λj=>!(listed.setIfInBounds i true).getD j true)=λj=>!(if j=i then true else listed.getD j true):=by funext j;rw[hget j]
    rw[e1];omega
  rcases hk4 i (by omega) with((h|h)|h)|⟨e,hem,h⟩
  .exact absurd (z06.1 h) hiDE.1
  .-- a zm operation
   obtain⟨p,hp,rfl⟩:=w0a.1 (z06.1 h);have hnsure:memB sure p.1=false:=by
    have key:∀m q,q∈sure->tab.length<=m+q->q∈D\/q∈E:=by
     intro m
     induction m with
     |zero=>
      intro q hq hm;obtain⟨j,hj,hd⟩:=hk0 q hq;have hjlt:j<tab.length:=by
       apply Classical.byContradiction;intro hge;have:tab.deps j = []:=by unfold Tab.deps;rw[w1m (w48 hge)]
       rw[this] at hd;simp[memB] at hd
      have:=hk5 j hjlt q (z06.1 hd);omega
     |succ m ihm=>
      intro q hq hm;obtain⟨j,hj,hd⟩:=hk0 q hq;have hjlt:j<tab.length:=by
       apply Classical.byContradiction;intro hge;have:tab.deps j = []:=by unfold Tab.deps;rw[w1m (w48 hge)]
       rw[this] at hd;simp[memB] at hd
      have hlt:=hk5 j hjlt q (z06.1 hd);rcases w0m.1 hj with hj|hj
      .exact hN.closed j (.inl hj) q (z06.1 hd)
      .exact hN.closed j (ihm j hj (by omega)) q (z06.1 hd)
    cases hm:memB sure p.1 with
    |false=>rfl
    |true=>
     rcases key tab.length p.1 (z06.1 hm) (by omega) with h'|h'
     .exact absurd h' hiDE.1
     .exact absurd h' hiDE.2
   obtain⟨o',ho',hq⟩:=hQ p hp hnsure;rw[ho] at ho';simp at ho';subst ho';have hqm:p.1∈QR.map (·.1):=z06.1 h;obtain⟨⟨⟨hsome,hqD⟩,_⟩,hlt⟩:=hk3 p.1 hqm;obtain⟨t,ht⟩:=w18.1 hsome;have hdst:o.dst=some t:=by simpa[Tab.dst,htb] using ht
   have hin:z6m C o=true:=by simp only[z6m,hdst];simpa[chk.isSomeLt,ht] using hlt
   have hkeep:∀(v:Value)(r':Nat->Prop)(S':Nat->Nat->Prop)(w':World),Evo C.base r w r' w'->WInv C.w0 C.base s.objs r' S' w'->p.2.h r' w' v->wpAnyIn (fz C.rd) 0 P .any ops Q fuel (listed.setIfInBounds p.1 true) (a.put o.dst v) w':=by
    intro v r' S' w' hev hw' hx;have hgd:=λt'=>zj7 a o.dst v t' (zh4 hin hn)
    refine ih (listed.setIfInBounds p.1 true) _ w' (p.1::E) r' S' (hNext _ _ _ ?_ ?_) ?_ ?_ hw' (he.trans hev) ?_ ?_
    .intro j;simp only[w08];constructor
     .rintro(h|h|h)
      .exact .inr (.inl h)
      .exact .inl h
      .exact .inr (.inr h)
     .rintro(h|h|h)
      .exact .inr (.inl h)
      .exact .inl h
      .exact .inr (.inr h)
    .intro q hqE;rcases w08.1 hqE with rfl|h
     .exact hqm
     .exact hN.sub q h
    .rw[hdst];exact hd
    .rw[hdst];simp[Act.put,hn]
    .intro t' A hA;rw[hgd];by_cases e:o.dst=some t'
     .rw[if_pos e];rw[hdst] at e;simp at e;subst e;rcases hnone p hp t ht with hz|hz
      .rw[hz] at hA;cases hA
      .rw[hz] at hA;cases hA;exact hx
     .rw[if_neg e];exact A.evo hev (hs t' A hA)
    .intro q x' t' hqE hm ht';rw[hgd];have hqm':q∈QR.map (·.1):=w0a.2 ⟨_,hm,rfl⟩;by_cases e:o.dst=some t'
     .rw[if_pos e];have:q=p.1:=hdist q p.1 t' hqm' hqm ht' (by rw[ht,<- hdst];exact e);subst this;have :(p.1,x')=p:=zaz hnd hm hp rfl;rw[<- this] at hx;exact hx
     .rw[if_neg e];rcases w08.1 hqE with rfl|h
      .exact absurd (by rw[hdst,<- ht];exact ht') e
      .exact x'.evo hev (hf q x' t' h hm ht')
   unfold wpOpIn;rw[ho];unfold GQ at hq;cases hg:o.guard with
   |none=>rw[hg] at hq;simp only[Region.wanted,hg,if_true];refine Oper.wpIn_mono ?_ (OpT.fz hq a w r S Q hd hn hw hdq);rintro a' w' ⟨v,r',S',x,objs',rfl,hev,hw',hx,rfl,rfl⟩;exact hkeep v r' S' w' hev hw' hx
   |some jw=>
    obtain⟨j,want⟩:=jw;rw[hg] at hq;obtain⟨pp,x0,tj,htj,hx0,hq,hcase⟩:=hq;have hy :(pp->yielded ops a.tmps j=some want)/\(¬pp->yielded ops a.tmps j≠some want):=by
     rcases hcase with⟨g,hsj,rfl⟩|⟨c,g,hsj,rfl⟩
     .exact zst (zyz htab htj) hsj hdq
     .exact zxg (zyz htab htj) hsj hdq
    simp only[Region.wanted,hg];by_cases hc:pp
    .simp only[hy.1 hc,BEq.rfl,if_true];refine Oper.wpIn_mono ?_ (OpT.fz (hq hc) a w r S Q hd hn hw hdq);rintro a' w' ⟨v,r',S',x,objs',rfl,hev,hw',hx,rfl,rfl⟩;exact hkeep v r' S' w' hev hw' (by rw[hx0];exact⟨λ_=>hx,λh=>absurd hc h⟩)
    .have :(yielded ops a.tmps j==some want)=false:=by
      cases hb :(yielded ops a.tmps j==some want) with
      |false=>rfl
      |true=>exact absurd (by simpa using hb) (hy.2 hc)
     rw[this];simp only[w0q,if_false];exact⟨λ_ _=>trivial,hkeep undef r S w (Evo.refl _ _ _) hw (by rw[hx0];exact⟨λh=>absurd h hc,λ_=>rfl⟩)⟩
  .-- one of the others
   rcases w0m.1 (z06.1 h) with h|h
   rotate_left
   .exact hW i h fuel listed a w E r S hN hd hn hw he hs hf hisz hdeps' λj hj hlj _=>⟨λq=>(by rw[(hN.lst j hj).2 (.inl q)] at hlj;cases hlj),λq=>(by rw[(hN.lst j hj).2 (.inr q)] at hlj;cases hlj)⟩
   obtain⟨o',ho',hin,hne,hT⟩:=hL i h;rw[ho] at ho';simp at ho';subst ho';have hfin:∀(v:Value)(r':Nat->Prop)(S':Nat->Nat->Prop)(w':World)(x:VP)(objs':List HP),Evo C.base r w r' w'->WInv C.w0 C.base objs' r' S' w'->x.h r' w' v->
     (∃N,(N.all λp=>!memB (QR.map (·.1)) p.1)=true/\Reg C ops tab Q (i::D) ⟨s.slots.set o.dst x,objs'⟩ (QR++N))->wpAnyIn (fz C.rd) 0 P .any ops Q fuel (listed.setIfInBounds i true) (a.put o.dst v) w':=by
    rintro v r' S' w' x objs' hev hw' hx ⟨N,hsub,hreg⟩;have hgd:=λt'=>zj7 a o.dst v t' (zh4 hin hn)
    refine hreg fuel _ _ w' E r' S' (hNext _ _ _ ?_ ?_) ?_ ?_ hw' (he.trans hev) ?_ ?_
    .intro j;simp only[w08];exact⟨λh=>h.elim (λh=>h.elim .inl (λh=>.inr (.inl h))) (λh=>.inr (.inr h)),λh=>h.elim (λh=>.inl (.inl h)) (λh=>h.elim (λh=>.inl (.inr h)) .inr)⟩
    .intro q hq;obtain⟨p,hp,rfl⟩:=w0a.1 (hN.sub q hq);exact w0a.2 ⟨p,w1k _ hp,rfl⟩
    .cases h:o.dst<;>simp[Act.put,hd]
    .cases h:o.dst<;>simp[Act.put,hn]
    .exact ze.put (zh4 hin hn) (hs.evo hev) hx
    .intro q x' t' hqE hm ht';obtain⟨p,hp,hpe⟩:=w0a.1 (hN.sub q hqE);have hqm':q∈QR.map (·.1):=hN.sub q hqE;rw[hgd,if_neg (hne q hqm' t' ht')]
     -- the fact of q in the larger list is the fact of q
     refine x'.evo hev (hf q x' t' hqE ?_ ht');rcases w0m.1 hm with h'|h'
     .exact h'
     .have:=w0g.1 hsub _ h'
      simp only[w0z] at this;rw[z06.2 hqm'] at this;cases this
   unfold wpOpIn;rw[ho];unfold y2d at hT;cases hg:o.guard with
   |none=>rw[hg] at hT;simp only[Region.wanted,hg,if_true];refine Oper.wpIn_mono ?_ (OpT.fz hT a w r S Q hd hn hw hdq);rintro a' w' ⟨v,r',S',x,objs',rfl,hev,hw',hx,hk⟩;exact hfin v r' S' w' x objs' hev hw' hx hk
   |some jw=>
    obtain⟨j,want⟩:=jw;rw[hg] at hT;obtain⟨pp,tj,htj,hcase,hq,hsk⟩:=hT;have hy :(pp->yielded ops a.tmps j=some want)/\(¬pp->yielded ops a.tmps j≠some want):=by
     rcases hcase with⟨g,hsj,rfl⟩|⟨c,g,hsj,rfl⟩
     .exact zst (zyz htab htj) hsj hdq
     .exact zxg (zyz htab htj) hsj hdq
    simp only[Region.wanted,hg];by_cases hc:pp
    .simp only[hy.1 hc,BEq.rfl,if_true];refine Oper.wpIn_mono ?_ (OpT.fz (hq hc) a w r S Q hd hn hw hdq);rintro a' w' ⟨v,r',S',x,objs',rfl,hev,hw',hx,hk⟩;exact hfin v r' S' w' x objs' hev hw' hx hk
    .have :(yielded ops a.tmps j==some want)=false:=by
      cases hb :(yielded ops a.tmps j==some want) with
      |false=>rfl
      |true=>exact absurd (by simpa using hb) (hy.2 hc)
     rw[this];simp only[w0q,if_false];obtain⟨x,objs',hx,hw2,hk⟩:=hsk hc;obtain⟨S',hw'⟩:=hw2 r S w hw;exact⟨λ_ _=>trivial,hfin undef r S' w x objs' (Evo.refl _ _ _) hw' (hx r w) hk⟩
  .rcases hdeps' e hem with h'|h'
   .rw[z06.2 h'] at h;cases h.1
   .have:=hN.sub e h'
    rw[z06.2 this] at h;cases h.2
theorem Reg.introG[Dr]{D:List Nat}{s:St}{QR:List (Nat×VP)}(cands sure:List Nat)(htab:zr ops=tab)(hchk:chk tab C.n D (QR.map (·.1)) cands sure=true)
  (hnone':ztw tab s.slots QR)
  (hQ':AllP (λp=>memB sure p.1=false->∃o,ops[p.1]? = some o/\GQ C tab o ⟨z18 tab (memB (tab.deps p.1)) s.slots QR,s.objs⟩ p.2) QR)
  (hL':AllP (λi=>∃o,ops[i]? = some o/\z6m C o=true/\((QR.map (·.1)).all λq=>zx0 (tab.dst q) o.dst)=true/\
   y2d C tab o ⟨z18 tab (memB (tab.deps i)) s.slots QR,s.objs⟩ (λx objs=>∃N,(N.all λp=>!memB (QR.map (·.1)) p.1)=true/\Reg C ops tab Q (i::D) ⟨s.slots.set o.dst x,objs⟩ (QR++N))) cands)
  (hE:ze8 tab D (QR.map (·.1))=true->AtX C ⟨z18 tab (λ_=>true) s.slots QR,s.objs⟩ .normal Q):Reg C ops tab Q D s QR:=
 Reg.introW cands [] sure htab (by rw[w0b];exact hchk) hnone' hQ' hL' (λ_ h=>by cases h) hE
theorem zwz[Dr]{id:Nat}{s:St}{QR:List (Nat×VP)}(hm:P.follows .mixedOrders=true)(h:Reg C ops tab Q [] s QR){a:Act}{w:World}(hs:Sat C s a w):(Code.region id ops true).wpIn (fz C.rd) 0 P Q a w:=by
 refine wpIn_region_any hm ?_;obtain⟨hd,hn,r,S,hw,he,hsl⟩:=hs.drawn (w.drawn+1) (w44 _);refine h _ _ _ _ [] r S ⟨(λj hj=>by rcases hj with h|h<;>cases h),by simp,λi hi=>by simp[hi],(λq hq=>by cases hq),?_⟩ hd hn hw he hsl (λq x t hq=>by cases hq);rw[w3i.2]
 .simp
 .intro i hi;have:=w1p.1 hi;simp[this]
end
end Px
end
section
namespace Px
open Go Go.RowKit
def zmb(P:Program)(t:TypeId)(i:Nat):Option (Nat×Nat):=match P.underlying t with
 |some (.struct fs)=>(fs[i]?).bind λf=>(P.info? f.type).map λj=>(f.offset,j.size)
 |some (.array _ e)=>(P.info? e).map λj=>(i*j.size,j.size)
 |_=>none
def zma(P:Program)(t:TypeId):Bool:=match P.underlying t with
 |some (.struct fs)=>fs.toList.all λf=>(P.info? f.type).isSome
 |some (.array _ e)=>(P.info? e).isSome
 |_=>false
theorem zly:∀(vs:List Value)(k off:Nat)(cells:Array Value),off+k+vs.length<=cells.size->
  ((vs.zipIdx k).foldl (λcs(p:Value×Nat)=>cs.setIfInBounds (off+p.2) p.1) cells).toList=cells.toList.take (off+k)++vs++cells.toList.drop (off+k+vs.length)
 | [],k,off,cells,h=>by simp
 |v::vs,k,off,cells,h=>by
  simp only[w0k] at h;rw[List.zipIdx_cons,w2f,zly vs (k+1) off (cells.setIfInBounds (off+k) v) (by simp;omega)];simp only[Array.toList_setIfInBounds];have hl:off+k<cells.toList.length:=by simp;omega
  rw[show off+(k+1)=off+k+1 from rfl,List.take_set,List.drop_set];have e1 :(cells.toList.take (off+k+1)).set (off+k) v=cells.toList.take (off+k)++[v]:=by
   rw[w2y hl];rw[List.set_append_right _ _ (by rw[w1f];omega)];have:off+k-(List.take (off+k) cells.toList).length=0:=by rw[w1f];omega
   rw[this];rfl
  have e2:¬off+k+1+vs.length<=off+k:=by omega
  rw[e1,if_pos (by omega)];simp only[w0t,List.singleton_append,w0k];congr 3;omega
theorem zj5(v:Value)(off:Nat)(cells:Array Value)(h:off+v.cells.size<=cells.size):
  (v.cells.zipIdx.foldl (λcs(p:Value×Nat)=>cs.setIfInBounds (off+p.2) p.1) cells) =(cells.toList.take off++v.cells.toList++cells.toList.drop (off+v.cells.toList.length)).toArray:=by
 apply w4g;have:=zly v.cells.toList 0 off cells (by simpa using h);rw[<- Array.foldl_toList];simpa using this
def lay:List VP->List (Nat×List VP)->List VP
 |cs,[]=>cs
 |cs,(off,ds)::r=>lay (cs.take off++ds++cs.drop (off+ds.length)) r
def y7e(s:St)(place:Nat->Option (Nat×Nat))(n:Nat):List (Nat×Operand)->List (Nat×List VP)->Prop
 | [],[]=>True
 |(i,o)::r,(off,ds)::r'=>place i=some (off,ds.length)/\off+ds.length<=n/\Ce s o ds/\y7e s place n r r'
 |_,_=>False
theorem ztd{s:St}{a:Act}{r:Nat->Prop}{w:World}(hs:ze s.slots a r w){place place':Nat->Option (Nat×Nat)}(hpl:∀i p,place i=some p->place' i=some p){n:Nat}:
  ∀(ps:List (Nat×Operand))(qs:List (Nat×List VP))(cs:List VP)(cells:Array Value),cells.size=n->y7e s place n ps qs->zl r w cs cells.toList->
   ∃out:Array Value,Instr.fill place' cells (ps.map λp=>(p.1,a.eval p.2))=some out/\zl r w (lay cs qs) out.toList
 | [],[],cs,cells,_,_,h=>⟨cells,rfl,h⟩
 |(i,o)::ps,(off,ds)::qs,cs,cells,hn,⟨h1,h2,h3,h4⟩,h=>by
  have hv:=h3 a r w hs;have hsz :(a.eval o).cells.size=ds.length:=by have:=hv.1;simp at this;omega
  have hcs:cs.length=n:=by have:=h.1;simp at this;omega
  have hb:off+(a.eval o).cells.size<=cells.size:=by omega
  obtain⟨out,ho,hh⟩:=ztd hs hpl ps qs (cs.take off++ds++cs.drop (off+ds.length)) (cells.toList.take off++(a.eval o).cells.toList++cells.toList.drop (off+(a.eval o).cells.toList.length)).toArray
   (by simp;omega) h4 (zl.splice h hv off (by omega))
  refine⟨out,?_,hh⟩;simp only[w0e,Instr.fill,hpl i _ h1];rw[if_neg (by simp[hn,hsz];omega),zj5 _ _ _ hb];exact ho
 | [],_::_,_,_,_,h,_=>h.elim
 |_::_,[],_,_,_,h,_=>h.elim
theorem zrm{P:Program}(w:World):∀(fs:List Field),fs.all (λf=>(P.info? f.type).isSome)=true->
  (fs.mapM (m:=Sem) λf=>do pure (f.offset,<- Go.sizeOf f.type)).run P w = .ok (fs.map λf=>(f.offset,P.cellsOf f.type)) w
 | [],_=>rfl
 |f::fs,h=>by
  simp only[w1b,w03] at h;obtain⟨i,hi⟩:=w18.1 h.1;have ih:=zrm (P:=P) w fs h.2;have hsz :(Go.sizeOf f.type).run P w = .ok i.size w:=by simp[Go.sizeOf,typeInfo,hi]
  rw[List.mapM_cons];simp only[w06,hsz,w05,w0j,ih,w0e,Program.cellsOf,hi,w0u,w1e]
section ops
variable{P:Program}{C:Cx P}{s:St}{dst:Option Tmp}{ty:TypeId}{pos:String}{after:Array Edge}{guard:Option (Nat×Bool)}{K:VP->List HP->Prop}
theorem y5l[Dr]{t:TypeId}{parts:Array (Nat×Operand)}(zs:List Value)(qs:List (Nat×List VP)){out:List VP}(hz:zlr P t=some zs)(h1:zs.all (·.oneCell')=true)(hb:zma P t=true)
  (hp:y7e s (zmb P t) zs.length parts.toList qs) (hout:lay (zs.map eqv) qs=out):OpQ C ⟨dst,.build t parts,ty,pos,after,guard⟩ s (agg out):=
 .val λa r w hs=>by
  obtain⟨z,hzr,hzc⟩:=zwb hz w;have hzs:z.cells.size=zs.length:=by rw[<- hzc];simp
  have hz0:zl r w (zs.map eqv) z.cells.toList:=by rw[hzc];exact zau h1
  have hmap :(parts.map λ(p:Nat×Operand)=>(p.1,a.eval p.2)).toList=parts.toList.map λp=>(p.1,a.eval p.2):=by simp
  unfold zma at hb;split at hb
  .rename_i fs hu;obtain⟨o,ho,hh⟩:=ztd hs (place:=zmb P t) (place':=λi=>((fs.toList.map λf=>(f.offset,P.cellsOf f.type)).toArray)[i]?) (by
    intro i p hpi;simp only[zmb,hu] at hpi;cases hf:fs[i]? with
    |none=>rw[hf] at hpi;simp at hpi
    |some f=>rw[hf] at hpi;simp only[w04,w1j] at hpi;obtain⟨j,hj,rfl⟩:=hpi;simp[hf,Program.cellsOf,hj]) parts.toList qs _ z.cells hzs hp hz0
   refine⟨.agg o,?_,o,rfl,hout ▸ hh⟩;have hpl:=zrm w fs.toList hb;have hpl' :(fs.mapM (m:=Sem) λf=>do pure (f.offset,<- Go.sizeOf f.type)).run P w = .ok (fs.toList.map λf=>(f.offset,P.cellsOf f.type)).toArray w:=by rw[Array.mapM_eq_mapM_toList];simp only[Sem.run_map,hpl,w05]
   simp only[execOp,Instr.build,w06,hzr,w05,run_underlying hu,hpl',hmap,ho,w0j]
  .rename_i n e hu;obtain⟨j,hj⟩:=w18.1 hb;obtain⟨o,ho,hh⟩:=ztd hs (place:=zmb P t) (place':=λi=>some (i*j.size,j.size)) (by intro i p hpi;simp only[zmb,hu,hj,w0u] at hpi;exact hpi) parts.toList qs _ z.cells hzs hp hz0;refine⟨.agg o,?_,o,rfl,hout ▸ hh⟩;simp only[execOp,Instr.build,w06,hzr,w05,run_underlying hu,Go.sizeOf,typeInfo,run_program,hj,hmap,ho,w0j]
  .cases hb
def y27{α:Type}(s:St)(e:α->List VP):Nat->List (Nat×Operand)->List α->Prop
 |_,[],[]=>True
 |k,(i,o)::r,x::l=>i=k/\Ce s o (e x)/\y27 s e (k+1) r l
 |_,_,_=>False
theorem zvq{α:Type}{s:St}{a:Act}{r:Nat->Prop}{w:World}(hs:ze s.slots a r w){e:α->List VP}{sz:Nat}(he:∀x,(e x).length=sz):
  ∀(ps:List (Nat×Operand))(l:List α)(k:Nat)(pre:List Value)(post:List Value),pre.length=k*sz->post.length=l.length*sz->y27 s e k ps l->
   ∃us,Instr.fill (λi=>some (i*sz,sz)) (pre++post).toArray (ps.map λp=>(p.1,a.eval p.2))=some (pre++us).toArray/\zl r w (l.flatMap e) us
 | [],[],k,pre,post,h1,h2,_=>⟨[],by have:post = []:=w17 (by simpa using h2);subst this;rfl,by simp[zl]⟩
 |(i,o)::ps,x::l,k,pre,post,h1,h2,⟨hik,h3,h4⟩=>by
  subst hik;have hv:=h3 a r w hs;have hsz :(a.eval o).cells.size=sz:=by have:=hv.1;simp at this;rw[he] at this;omega
  simp only[w0k,w16,w46] at h2;have hb:i*sz+(a.eval o).cells.size<=(pre++post).toArray.size:=by simp;omega
  have hfold:=zj5 (a.eval o) (i*sz) (pre++post).toArray hb;have htl :(a.eval o).cells.toList.length=sz:=by simpa using hsz
  have e1 :((pre++post).toArray.toList.take (i*sz)++(a.eval o).cells.toList++(pre++post).toArray.toList.drop (i*sz+(a.eval o).cells.toList.length)) =(pre++(a.eval o).cells.toList)++post.drop sz:=by simp only[w2v,htl];rw[w21 (by omega),w24 (by omega),w51,List.drop_of_length_le (by omega)];simp only[w2u];congr 2;omega
  obtain⟨us,hu,hh⟩:=zvq hs he ps l (i+1) (pre++(a.eval o).cells.toList) (post.drop sz) (by rw[w0d,htl,h1,w16];omega) (by rw[w3p];omega) h4;refine⟨(a.eval o).cells.toList++us,?_,?_⟩
  .simp only[w0e,Instr.fill];rw[if_neg (by simp[hsz];omega),hfold,e1,hu,w0t]
  .rw[w0w];exact zl.append hv hh
 | [],_::_,_,_,_,_,_,h=>h.elim
 |_::_,[],_,_,_,_,_,h=>h.elim
theorem zm5[Dr]{α:Type}{t E:TypeId}{e:α->List VP}{sz by' n:Nat}{parts:Array (Nat×Operand)}(l:List α)(ht:tsl P t=some (E,sz,by'))(he:∀x,(e x).length=sz)
  (hl:l.length=n) (hbig:n*sz<=16777216) (hp:y27 s e 0 parts.toList l) (k:∀v',K (eqv v') (s.objs++[row E e sz l v'])):OpT C ⟨dst,.buildSlice t n parts,ty,pos,after,guard⟩ s K:=by
 intro a w r S Q hd hn hw hs;obtain⟨i,zv,hu,hi,hzv,rfl,rfl,hzs,hpos⟩:=zcb ht;have hmap :(parts.map λ(p:Nat×Operand)=>(p.1,a.eval p.2)).toList=parts.toList.map λp=>(p.1,a.eval p.2):=by simp
 obtain⟨us,hfill,hus⟩:=zvq hs he parts.toList l 0 [] ((List.range (n*i.size)).map λj=>zv.cells[j % zv.cells.size]!) (by simp) (by simp[hl]) hp;have hul:us.length=l.length*i.size:=by rw[<- hus.1,z1c he]
 have hz :(zeroValue E).run P w = .ok zv w:=by simp[zeroValue,typeInfo,hi,hzv]
 have harr:∀Z:Array Value,(n*i.size≠0->Z=zv.cells)->(Array.range (n*i.size)).map (λj=>Z[j % Z.size]!) =(([]:List Value)++(List.range (n*i.size)).map λj=>zv.cells[j % zv.cells.size]!).toArray:=by
  intro Z hZ;by_cases h0:n*i.size=0
  .rw[h0];apply w4g;simp
  .rw[hZ h0];apply w4g;simp[Array.toList_range]
 have hrun :(execOp a.eval ⟨dst,.buildSlice t n parts,ty,pos,after,guard⟩).run P w = .ok (.value (.slice (some ⟨w.heap.size,0,none⟩) n n)) (w.alloc (.cells us.toArray E)):=by
  have hnb:¬n*i.size > 2 ^ 24:=by omega
  simp only[execOp,Instr.buildSlice,w06,run_underlying hu,w05,Go.sizeOf,typeInfo,run_program,hi,w0j,if_neg hnb];split
  .rename_i h0;simp only[w06,w0j,w05];rw[harr _ (λh=>absurd h0 h),hmap,hfill];simp[newRow]
  .simp only[w06,hz,w0j,w05];rw[harr _ (λ_=>rfl),hmap,hfill];simp[newRow]
 unfold Oper.wp;rw[hrun,Oper.upon_value];refine⟨_,r,_,_,_,rfl,hw.evo_alloc _,hw.push _ _ ?_,rfl,k _⟩;by_cases hlen:n<=maxLen
 .refine .inr ⟨w.heap.size,n,_,by rw[hl],rfl,heap_alloc_new w _,by omega,hlen,by simp[hul,hl],?_⟩;have:us.toArray.toList.take (l.length*i.size)=us:=by rw[w2v,<- hul];exact w29
  rw[this];exact hus.mono (λ_ h=>h) (λb hb=>Below.heap_alloc _ _ _ (hw.old b hb))
 .have:n<=n*i.size:=Nat.le_mul_of_pos_right _ hpos;simp[maxLen] at hlen;omega
theorem zl.vals{r:Nat->Prop}{w:World}: ∀{vs us:List Value},zl r w (vs.map eqv) us->us=vs:=by
 intro vs us h;apply w32;intro j;by_cases hj:j<vs.length
 .obtain⟨u,hu,hA,_⟩:=h.2 j (eqv vs[j]) (by simp[hj]);simp only[eqv] at hA;rw[hu,hA,w09 hj]
 .have:=h.1
  simp at this;rw[w1m (by omega),w1m (by omega)]
theorem yhd[Dr]{t t':TypeId}{x y:Operand}{cs ds:List VP}(vs us:List Value){g:Bool}(hx:Ev s x (agg cs))(hy:Ev s y (agg ds))(hcs:cs=vs.map eqv)(hds:ds=us.map eqv)
  (hg:P.eqGuardType P.depth t=false) (hr:∀w,(Op.equal t (.agg vs.toArray) (.agg us.toArray)).run P w = .ok g w):OpQ C ⟨dst,.binOp .eql t x y t',ty,pos,after,guard⟩ s (bv g):=
 .val λa r w hs=>by
  obtain⟨xs,hxv,hxc⟩:=hx a r w hs;obtain⟨ys,hyv,hyc⟩:=hy a r w hs;subst hcs;subst hds;have e1:xs=vs.toArray:=by rw[<- hxc.vals]
  have e2:ys=us.toArray:=by rw[<- hyc.vals]
  subst e1;subst e2;exact⟨_,by simp[execOp,hxv,hyv,eqGuard,hg,binOp,hr w],rfl⟩
theorem yhm[Dr]{t t':TypeId}{x y:Operand}{cs ds:List VP}(vs us:List Value){g:Bool}(hx:Ev s x (agg cs))(hy:Ev s y (agg ds))(hcs:cs=vs.map eqv)(hds:ds=us.map eqv)
  (hg:P.eqGuardType P.depth t=false) (hr:∀w,(Op.equal t (.agg vs.toArray) (.agg us.toArray)).run P w = .ok g w):OpQ C ⟨dst,.binOp .neq t x y t',ty,pos,after,guard⟩ s (bv (!g)):=
 .val λa r w hs=>by
  obtain⟨xs,hxv,hxc⟩:=hx a r w hs;obtain⟨ys,hyv,hyc⟩:=hy a r w hs;subst hcs;subst hds;have e1:xs=vs.toArray:=by rw[<- hxc.vals]
  have e2:ys=us.toArray:=by rw[<- hyc.vals]
  subst e1;subst e2;exact⟨_,by simp[execOp,hxv,hyv,eqGuard,hg,binOp,hr w],rfl⟩
end ops
end Px
end
section
namespace Px
open Go Go.RowKit
def ck{ρ:Type}(p:Prop)[Decidable p](x:Option ρ):Option ρ:=if p then x else none
theorem zcv{ρ:Type}{p:Prop}[Decidable p]{x:Option ρ}{r:ρ}(h:ck p x=some r):p/\x=some r:=by
 unfold ck at h;split at h
 .exact⟨by assumption,h⟩
 .cases h
theorem zg{ρ:Type}{p:Prop}[Decidable p]{x:Option ρ}(h:p):ck p x=x:=if_pos h
theorem bind_some{α ρ:Type}{x:Option α}{f:α->Option ρ}{r:ρ}(h:x.bind f=some r):∃y,x=some y/\f y=some r:=by
 cases x with
 |none=>cases h
 |some y=>exact⟨y,rfl,h⟩
def gt{α:Type}[Inhabited α](l:List α)(i:Int):α:=l.getD i.toNat default
def zt{α:Type}(l:List α)(i:Int)(x:α):List α:=l.set i.toNat x
def fits(n b:Nat):Prop:=n*b<=140737488355328
instance(n b:Nat):Decidable (fits n b):=inferInstanceAs (Decidable (_<=_))
theorem zz5{n b:Nat}(hb:0<b)(h:fits n b):n<=maxLen:=by unfold fits at h;have:n<=n*b:=Nat.le_mul_of_pos_right _ hb;simp[maxLen];omega
def za(n:Int)(b:Nat):Prop:=0<=n/\(b:Int)*n<=281474976710656/\n<=9223372036854775807
instance(n:Int)(b:Nat):Decidable (za n b):=inferInstanceAs (Decidable (_/\_))
abbrev W(n:Int):Int:=IntKind.wrap .i64 n
abbrev U(n:Int):Int:=IntKind.wrap .u64 n
def arr{α:Type}(N:Nat)(e:α->List VP)(f:Nat->α):List VP:=(List.range N).flatMap λi=>e (f i)
def upd{α:Type}(f:Nat->α)(k:Nat)(x:α):Nat->α:=λj=>if j=k then x else f j
theorem zyo{α:Type}(N:Nat)(e:α->List VP)(f:Nat->α):arr N e f =((List.range N).map f).flatMap e:=by simp[arr,w52]
theorem zfk{α:Type}{N sz:Nat}{e:α->List VP}{f:Nat->α}(he:∀x,(e x).length=sz):(arr N e f).length=N*sz:=by rw[zyo,z1c he];simp
theorem zqw{α:Type}{N sz k:Nat}{e:α->List VP}{f:Nat->α}(he:∀x,(e x).length=sz)(hk:k<N):((arr N e f).drop (k*sz)).take sz=e (f k):=by
 apply w32;intro j;by_cases hj:j<sz
 .rw[w0r,if_pos hj,w1l];have hlt:j<(e (f k)).length:=by rw[he];exact hj
  rw[w09 hlt,zyo];exact z3g he _ k (f k) (by simp[hk]) j _ (w09 hlt)
 .rw[w0r,if_neg hj,w1m (by rw[he];omega)]
theorem ybo{α:Type}{N sz k:Nat}{e:α->List VP}{f:Nat->α}{x:α}(he:∀x,(e x).length=sz)(hk:k<N):
  (arr N e f).take (k*sz)++e x++(arr N e f).drop (k*sz+sz)=arr N e (upd f k x):=by
 have h1 :((List.range N).map f).set k x =(List.range N).map (upd f k x):=by
  apply w32;intro j;rw[w1v];by_cases e:k=j
  .subst e;simp[hk,upd]
  .have:¬j=k:=λh=>e h.symm
   have e':upd f k x j=f j:=if_neg this;rw[if_neg e,w1a,w1a];by_cases hj:j<N
   .simp[hj,e']
   .simp[hj]
 have:=zhu he ((List.range N).map f) k (f k) x 0 (e x) (by simp[hk]) (by rw[he];omega) (by simp[he]);rw[h1] at this;rw[zyo,zyo,this];simp[he]
section
variable{P:Program}{C:Cx P}{s:St}{x:Operand}{α:Type}
theorem zqx{pre post:List VP}{N sz k off n:Nat}{e:α->List VP}{f:Nat->α}{y:α}{cs:List VP}(he:∀x,(e x).length=sz)(hoff:off=pre.length+k*sz)(hk:k<N)(hn:n=sz)(hcs:cs=e y):
  (pre++Px.arr N e f++post).take off++cs++(pre++Px.arr N e f++post).drop (off+n)=pre++Px.arr N e (upd f k y)++post:=by
 have hl:=zfk (N:=N) (f:=f) he;have hle :(k+1)*sz<=N*sz:=w13 _ hk;rw[w16] at hle;subst hn;subst hcs;rw[hoff,w0t pre,w2k,w3n,w38,w21 (by omega),w2b (by omega),<- ybo he hk];simp[w0t]
end
section ops
variable{P:Program}{C:Cx P}{s:St}{dst:Option Tmp}{ty:TypeId}{pos:String}{after:Array Edge}{guard:Option (Nat×Bool)}{K:VP->List HP->Prop}
end ops
section joins
variable{P:Program}{C:Cx P}{s:St}{Q:Exit->Act->World->Prop}{x y:Code}
end joins
end Px
end
section
namespace Px
open Go Go.RowKit
def zfi(objs:List HP):List Nat->List HP->Prop
 | [],[]=>True
 |i::is,B::O=>(∃A,objs[i]? = some A/\EntH A B)/\zfi objs is O
 |_,_=>False
theorem zfi.at{objs:List HP}: ∀{is:List Nat}{O:List HP},zfi objs is O->is.length=O.length/\∀(k:Nat)(B:HP),O[k]? = some B->∃i A,is[k]? = some i/\objs[i]? = some A/\EntH A B
 | [],[],_=>⟨rfl,λk B h=>by simp at h⟩
 |i::is,B::O,⟨⟨A,hA,he⟩,hr⟩=>by
  obtain⟨h1,h2⟩:=hr.at;refine⟨by simp[h1],λk D hk=>?_⟩;cases k with
  |zero=>simp at hk;subst hk;exact⟨i,A,rfl,hA,he⟩
  |succ k=>simpa using h2 k D (by simpa using hk)
 | [],_::_,h=>h.elim
 |_::_,[],h=>h.elim
theorem zzu:∀{l:List Nat},l.Nodup->∀{i j x:Nat},l[i]? = some x->l[j]? = some x->i=j
 | [],_,_,_,_,h,_=>by simp at h
 |y::l,h,0,0,_,_,_=>rfl
 |y::l,h,0,j+1,x,h1,h2=>by simp at h1 h2;subst h1;exact absurd (w12 h2) (w1x.1 h).1
 |y::l,h,i+1,0,x,h1,h2=>by simp at h1 h2;subst h2;exact absurd (w12 h1) (w1x.1 h).1
 |y::l,h,i+1,j+1,x,h1,h2=>by have:=zzu (w1x.1 h).2 (i:=i) (j:=j) (by simpa using h1) (by simpa using h2);omega
theorem WInv.sel[Dr]{w0 w:World}{base:Nat}{objs O:List HP}{is:List Nat}{r:Nat->Prop}{S:Nat->Nat->Prop}(h:WInv w0 base objs r S w)(hO:zfi objs is O)(hn:zgl is=true):
  WInv w0 base O r (λk b=>∃i,is[k]? = some i/\S i b) w where
 below:=h.below
 size:=h.size
 obj:=λk B hk=>by
  obtain⟨i,A,hi,hA,he⟩:=hO.at.2 k B hk;have :(λb=>∃j,is[k]? = some j/\S j b)=S i:=by funext b;rw[hi];exact propext ⟨λ⟨j,hj,hb⟩=>by simp at hj;subst hj;exact hb,λhb=>⟨i,rfl,hb⟩⟩
  rw[this];exact he _ _ _ (h.obj i A hA)
 own:=λk b ⟨i,hi,hb⟩=>by obtain⟨_,h2,h3,h4⟩:=h.own i b hb;have:=(w02.1 hi).1;exact⟨by rw[<- hO.at.1];exact this,h2,h3,h4⟩
 apart:=λk l b ⟨i,hi,hb⟩ ⟨j,hj,hb'⟩=>by have:=h.apart i j b hb hb';subst this;exact zzu (zao hn) hi hj
 old:=h.old
section atx
variable{P:Program}{C:Cx P}{s:St}{Q:Exit->Act->World->Prop}{x y c:Code}{e:Exit}
variable{fn:Func}{K:VP->List HP->Prop}
end atx
def zap:List VP->Prop
 | []=>True
 |A::l=>A.flat/\zap l
theorem zap.mem:∀{l:List VP},zap l->∀A∈l,A.flat
 |_::_,⟨h,_⟩,_,.head _=>h
 |_::_,⟨_,h⟩,A,.tail _ hm=>zap.mem h A hm
theorem y3k{xs:List VP}(h:zap xs):(agg xs).flat:=y8g h.mem
theorem zuu{α:Type}{E:TypeId}{e:α->List VP}{sz:Nat}{l:List α}{sv:Value}(h:∀x,zap (e x)):(row E e sz l sv).flat:=zz6 λx=>(h x).mem
theorem OpT.of_q[Dr]{P:Program}{C:Cx P}{o:Oper}{s:St}{x:VP}{K:VP->List HP->Prop}(h:OpQ C o s x)(k:K x s.objs):OpT C o s K:=h.mono λy objs ⟨hy,ho⟩=>by subst hy;subst ho;exact k
theorem zy8{α:Type}{E:TypeId}{e:α->List VP}{sz:Nat}{l:List α}{sv:Value}{S r:Nat->Prop}{w:World}(h :(row E e sz l sv).h S r w):sv.oneCell'=true:=by rcases h with⟨rfl,_⟩|⟨g,cap,cur,rfl,_⟩<;>rfl
theorem Pt.ofArrF[Dr]{P:Program}{C:Cx P}{s:St}{x:Operand}{α:Type}(i:Nat){b off:Nat}{T:TypeId}{pre post:List VP}{N sz k fo:Nat}{e:α->List VP}{f:Nat->α}{cs:List VP}(h:Ev s x (eqv (.pointer (some ⟨b,off,none⟩))))
  (ho:s.objs[i]? = some (Px.box b T (pre++Px.arr N e f++post))) (he:∀x,(e x).length=sz) (hoff:off=pre.length+k*sz+fo) (hk:k<N) (hc :(e (f k)).drop fo=cs):Pt C s x cs:=by
 intro a r S w hw hs;obtain⟨hS,cur,hcur,hh⟩:=hw.obj i _ ho;refine⟨b,off,h a r w hs,?_⟩;have hrd:=(hh.rd hcur).drop (pre.length+k*sz);have hl:=zfk (N:=N) (f:=f) he;have hle :(k+1)*sz<=N*sz:=w13 _ hk;rw[w16] at hle;have hrd2:=(hrd.take sz).drop fo;rw[w0t,w38,w2b (by omega),w21 (by rw[w3p];omega),zqw he hk,hc,w1c,<- hoff] at hrd2;exact hrd2
section ops
variable{P:Program}{C:Cx P}{s:St}{dst:Option Tmp}{ty:TypeId}{pos:String}{after:Array Edge}{guard:Option (Nat×Bool)}{K:VP->List HP->Prop}
def zas(s:ByteArray)(i:Int):Int:=(s.data.toList.getD i.toNat 0).toNat
theorem y9o[Dr]{t:TypeId}{x i:Operand}{k:IntKind}{m:Int}{bs:ByteArray}{n:Nat}(ht:P.underlying t=some .string)(h:Ev s x (eqv (.string bs)))(hi:Ev s i (iv k m))(hn:bs.size=n)(h0:0<=m)(h1:m<n):
  OpQ C ⟨dst,.index t x i,ty,pos,after,guard⟩ s (iv .u8 (zas bs m)):=
 .val λa r w hs=>by
  have h2:=hi a r w hs;have h3:=h a r w hs;simp only[iv,eqv] at h2 h3;have hlt:m.toNat<bs.size:=by omega
  have hb:bs[m.toNat]? = some bs[m.toNat]:=by simp[hlt]
  have hv :((bs[m.toNat]).toNat:Int)=zas bs m:=by
   have hlt':m.toNat<bs.data.toList.length:=by simpa using hlt
   simp only[zas,List.getD,w09 hlt',w1e];rfl
  refine⟨_,?_,rfl⟩;simp only[execOp,Instr.index,h2,h3,w06,asIntOf,w0j,w05,run_underlying ht,if_pos h0,hb,hv]
theorem y1l[Dr]{x:Operand}{b o:Nat}(h:Ev s x (eqv (.pointer (some ⟨b,o,none⟩)))):OpQ C ⟨dst,.nilCheck x,ty,pos,after,guard⟩ s (eqv (.pointer (some ⟨b,o,none⟩))):=
 .val λa r w hs=>⟨_,by have h1:=h a r w hs;simp only[eqv] at h1;simp only[execOp,h1];rfl,rfl⟩
def min2(x y:Int):Int:=if y<x then y else x
def max2(x y:Int):Int:=if x<y then y else x
def znj(s:St)(k:IntKind):List Operand->List Int->Prop
 | [],[]=>True
 |o::os,n::ns=>Ev s o (iv k n)/\znj s k os ns
 |_,_=>False
theorem znj.map{k:IntKind}{a:Act}{r:Nat->Prop}{w:World}(hs:ze s.slots a r w):∀{os:List Operand}{ns:List Int},znj s k os ns->os.map a.eval=ns.map (.int k)
 | [],[],_=>rfl
 |o::os,n::ns,⟨h,hr⟩=>by have h1:=h a r w hs;simp only[iv,eqv] at h1;rw[w0e,w0e,h1,znj.map hs hr]
 | [],_::_,h=>h.elim
 |_::_,[],h=>h.elim
theorem y6c{P:Program}{k:IntKind}(w:World):∀(ns:List Int)(m:Int),((ns.map (Value.int k)).foldlM Builtin.min2 (.int k m)).run P w = .ok (.int k (ns.foldl min2 m)) w
 | [],m=>rfl
 |n::ns,m=>by rw[w0e,w53,w2f];simp only[w06,Builtin.min2,w0j,w05];exact y6c w ns _
theorem y6b{P:Program}{k:IntKind}(w:World):∀(ns:List Int)(m:Int),((ns.map (Value.int k)).foldlM Builtin.max2 (.int k m)).run P w = .ok (.int k (ns.foldl max2 m)) w
 | [],m=>rfl
 |n::ns,m=>by
  rw[w0e,w53,w2f];have h1 :(Builtin.max2 (.int k m) (.int k n)).run P w = .ok (.int k (max2 m n)) w:=by simp only[Builtin.max2,w0j,max2]
  simp only[w06,h1,w05];exact y6b w ns _
theorem yhk[Dr]{x:Operand}{xs:List Operand}{ts:Array TypeId}{k:IntKind}{m:Int}{n:List Int}(hx:Ev s x (iv k m))(hr:znj s k xs n):
  OpQ C ⟨dst,.call { callee:=.builtin .min,args:=⟨x::xs⟩,argTypes:=ts },ty,pos,after,guard⟩ s (iv k (n.foldl min2 m)):=
 .val λa r w hs=>by
  have h1:=hx a r w hs;have h2:=hr.map hs;simp only[iv,eqv] at h1;refine⟨_,?_,rfl⟩;have h3 :(Array.map a.eval ⟨x::xs⟩).toList = .int k m::n.map (.int k):=by simp[h1,h2]
  simp[execOp,resolve,invoke,builtin,Builtin.min_,h3,y6c,h1,h2]
theorem yhj[Dr]{x:Operand}{xs:List Operand}{ts:Array TypeId}{k:IntKind}{m:Int}{n:List Int}(hx:Ev s x (iv k m))(hr:znj s k xs n):
  OpQ C ⟨dst,.call { callee:=.builtin .max,args:=⟨x::xs⟩,argTypes:=ts },ty,pos,after,guard⟩ s (iv k (n.foldl max2 m)):=
 .val λa r w hs=>by
  have h1:=hx a r w hs;have h2:=hr.map hs;simp only[iv,eqv] at h1;refine⟨_,?_,rfl⟩;have h3 :(Array.map a.eval ⟨x::xs⟩).toList = .int k m::n.map (.int k):=by simp[h1,h2]
  simp[execOp,resolve,invoke,builtin,Builtin.max_,h3,y6b,h1,h2]
theorem y5p[Dr]{α:Type}{t:TypeId}{len esz:Nat}{x i:Operand}{k:IntKind}{m:Int}{e:α->List VP}{f:Nat->α}(ht:tidx P t=some (true,len,esz))(h:Ev s x (rop ([]++arr len e f++[])))(hi:Ev s i (iv k m))
  (he:∀x,(e x).length=esz) (h0:0<=m) (h1:m<len):OpQ C ⟨dst,.indexAddr t x i,ty,pos,after,guard⟩ s (rop (e (f m.toNat))):=
 .val λa r w hs=>by
  have h2:=hi a r w hs;simp only[iv,eqv] at h2;obtain⟨b,o,hx,hr,hh⟩:=h a r w hs;refine⟨_,by simp only[execOp,hx,h2,w06,zm6 w ht h0 h1];rfl,b,_,rfl,hr,?_⟩;have:=(hh.drop (m.toNat*esz)).take esz;rw[w2u,w0b,zqw he (by omega)] at this;exact this
end ops
instance:Inhabited ByteArray:=⟨⟨#[]⟩⟩
end Px
end
section
namespace Px
open Go Go.RowKit
def FzV(sv:Value)(X A B:VP):Prop:=∀r w v,X.h r w sv->A.h r w v->B.h r w v
def FzH(sv:Value)(X:VP)(A B:HP):Prop:=∀S r w,X.h r w sv->A.h S r w->B.h S r w
section fz
variable{sv:Value}{X:VP}
theorem FzV.refl{A:VP}: FzV sv X A A:=λ_ _ _ _ h=>h
theorem FzV.here:FzV sv X (eqv sv) X:=λr w v hx h=>by simp only[eqv] at h;subst h;exact hx
def FzVs(sv:Value)(X:VP):List VP->List VP->Prop
 | [],[]=>True
 |A::l,B::m=>FzV sv X A B/\FzVs sv X l m
 |_,_=>False
theorem FzVs.cells{r:Nat->Prop}{w:World}(hx:X.h r w sv):∀{l m:List VP}{vs:List Value},FzVs sv X l m->zl r w l vs->zl r w m vs
 | [],[],vs,_,h=>h
 |A::l,B::m,vs,⟨hA,hr⟩,h=>by
  cases vs with
  |nil=>simp[zl] at h
  |cons u vs=>
   have h':zl r w l vs:=⟨by simpa using h.1,λj D hj=>by simpa using h.2 (j+1) D (by simpa using hj)⟩;have k:=FzVs.cells hx hr h';refine⟨by simpa using k.1,λj D hj=>?_⟩;cases j with
   |zero=>simp at hj;subst hj;obtain⟨u',hu,hAu,ho⟩:=h.2 0 A rfl;exact⟨u',hu,hA _ _ _ hx hAu,ho⟩
   |succ j=>simpa using k.2 j D (by simpa using hj)
 | [],_::_,_,h,_=>h.elim
 |_::_,[],_,h,_=>h.elim
theorem FzV.agg{cs ds:List VP}(h:FzVs sv X cs ds):FzV sv X (agg cs) (agg ds):=λr w v hx ⟨vs,e,hh⟩=>⟨vs,e,h.cells hx hh⟩
theorem FzH.refl{A:HP}: FzH sv X A A:=λ_ _ _ _ h=>h
theorem FzH.box{b:Nat}{T:TypeId}{cs ds:List VP}(h:FzVs sv X cs ds):FzH sv X (box b T cs) (box b T ds):=λS r w hx ⟨hS,cur,hc,hh⟩=>⟨hS,cur,hc,h.cells hx hh⟩
def zls(sv:Value)(X:VP):List HP->List HP->Prop
 | [],[]=>True
 |A::l,B::m=>FzH sv X A B/\zls sv X l m
 |_,_=>False
theorem zls.at:∀{l m:List HP},zls sv X l m->l.length=m.length/\∀(i:Nat)(B:HP),m[i]? = some B->∃A,l[i]? = some A/\FzH sv X A B
 | [],[],_=>⟨rfl,λi B h=>by simp at h⟩
 |A::l,B::m,⟨he,hm⟩=>by
  obtain⟨h1,h2⟩:=zls.at hm;refine⟨by simp[h1],λi D hi=>?_⟩;cases i with
  |zero=>simp at hi;subst hi;exact⟨A,rfl,he⟩
  |succ i=>simpa using h2 i D (by simpa using hi)
 | [],_::_,h=>h.elim
 |_::_,[],h=>h.elim
end fz
section freeze
variable{P:Program}{C:Cx P}{s:St}{Q:Exit->Act->World->Prop}{c:Code}{e:Exit}{ops:Array Oper}{l:List Nat}
variable{α:Type}{E:TypeId}{en:α->List VP}{sz:Nat}{xs:List α}{sv:Value}
def when(g:Prop)[Decidable g](H:HP):HP:=if g then H else emp
end freeze
section parts
variable{P:Program}{C:Cx P}{s:St}{dst:Option Tmp}{ty:TypeId}{pos:String}{after:Array Edge}{guard:Option (Nat×Bool)}
theorem y9q[Dr]{t:TypeId}{x:Operand}{cs:List VP}{n:Nat}(ht:z3s P t=some (true,n))(hn:cs.length=n)(h:Pt C s x cs):OpQ C ⟨dst,.load t x,ty,pos,after,guard⟩ s (agg cs):=ydt (hn ▸ ht) h
theorem zvt{t:TypeId}{n off:Nat}{vs:Array Value}(w:World)(h:z3s P t=some (true,n)):(part t vs off).run P w = .ok (.agg (vs.extract off (off+n))) w:=by simp only[part,w06,zjw w h,w05,if_true,z6q w h,w0j]
theorem zjx{t:TypeId}{n off:Nat}{vs:Array Value}{u:Value}(w:World)(h:z3s P t=some (false,n))(hu:vs[off]? = some u):(part t vs off).run P w = .ok u w:=by simp only[part,w06,zjw w h,w05,w0q,if_false,hu,w0j]
theorem zl.extract{r:Nat->Prop}{w:World}{cs:List VP}{vs:Array Value}(h:zl r w cs vs.toList)(off n:Nat):zl r w ((cs.drop off).take n) (vs.extract off (off+n)).toList:=by
 have e :(vs.extract off (off+n)).toList =(vs.toList.drop off).take n:=by simp[Array.toList_extract,List.take_drop,List.extract]
 rw[e];refine⟨by simp[h.1],λj A hj=>?_⟩;rw[w0r] at hj⊢;split at hj
 .rename_i c;rw[if_pos c];rw[w1l] at hj⊢;exact h.2 _ A hj
 .cases hj
def tarr(P:Program)(t:TypeId):Option (Nat×TypeId):=match P.underlying t with
 |some (.array n e)=>some (n,e)
 |_=>none
theorem zlp{t E:TypeId}{N:Nat}(h:tarr P t=some (N,E)):P.underlying t=some (.array N E):=by
 unfold tarr at h;split at h
 .rename_i n e hu;simp only[w00,w0f] at h;rw[hu,h.1,h.2]
 .cases h
theorem y5r[Dr]{α:Type}{t E:TypeId}{N sz:Nat}{x i:Operand}{k:IntKind}{m:Int}{e:α->List VP}{f:Nat->α}(ht:tarr P t=some (N,E))(hE:z3s P E=some (true,sz))(h:Ev s x (agg (arr N e f)))(hi:Ev s i (iv k m))
  (he:∀x,(e x).length=sz) (h0:0<=m) (h1:m<N):OpQ C ⟨dst,.index t x i,ty,pos,after,guard⟩ s (agg (e (f m.toNat))):=
 .val λa r w hs=>by
  have h2:=hi a r w hs;simp only[iv,eqv] at h2;obtain⟨vs,hx,hh⟩:=h a r w hs;refine⟨.agg (vs.extract (m.toNat*sz) (m.toNat*sz+sz)),by simp only[execOp,Instr.index,hx,h2,w06,asIntOf,w0j,w05,run_underlying (zlp ht),if_pos (And.intro h0 h1),z6q w hE,zvt w hE],_,rfl,?_⟩;have:=hh.extract (m.toNat*sz) sz
  rwa [zqw he (by omega)] at this
theorem y5q[Dr]{α:Type}{t E:TypeId}{N:Nat}{x i:Operand}{k:IntKind}{m:Int}{e:α->List VP}{f:Nat->α}{A:VP}(ht:tarr P t=some (N,E))(hE:z3s P E=some (false,1))(h:Ev s x (agg (arr N e f)))(hi:Ev s i (iv k m))
  (he:∀x,(e x).length=1) (hA:e (f m.toNat) = [A]) (h0:0<=m) (h1:m<N):OpQ C ⟨dst,.index t x i,ty,pos,after,guard⟩ s A:=
 .val λa r w hs=>by
  have h2:=hi a r w hs;simp only[iv,eqv] at h2;obtain⟨vs,hx,hh⟩:=h a r w hs;have hat:=zqw (e:=e) (f:=f) (N:=N) (k:=m.toNat) he (by omega);have hj :(arr N e f)[m.toNat*1]? = some A:=by
   have :(((arr N e f).drop (m.toNat*1)).take 1)[0]? = some A:=by rw[hat,hA];rfl
   rw[w0r,if_pos (by decide),w1l] at this;simpa using this
  obtain⟨u,hu,hAu,_⟩:=hh.2 _ A hj;have hp:=zjx (vs:=vs) (off:=m.toNat*1) (u:=u) w hE (by simpa using hu);exact⟨u,by simp only[execOp,Instr.index,hx,h2,w06,asIntOf,w0j,w05,run_underlying (zlp ht),if_pos (And.intro h0 h1),z6q w hE,hp],hAu⟩
end parts
section equal
variable{P:Program}
end equal
end Px
end
section
namespace Px
open Go Go.RowKit Go.ChangeShapes Go.WideShapes Go.ChangeAt
theorem zk2{H:Type}{enc:TypeId×Value->H}{P:Program}(hl:laidOutB P=true){W W':World}(hb:Below W.heap.size W W'){sp:Nat->Bool}: ∀{ts:List TypeId}{vs:List Value}{ds:List (DataW H)}{ps:List MemPlace},
  (∀t∈ts,P.readableRec t=true/\t<P.types.size)->DataW.TrodAll enc P W 0 (λ_=>true) true ts vs ds ps->(∀p∈ps,p.block<W.heap.size)->(∀p∈ps,sp p.block=true)->DataW.TrodAll enc P W' 0 sp true ts vs ds ps
 | [],[],[],_,_,h,_,_=>h
 |t::ts,v::vs,d::ds,ps,ht,⟨p,q,h1,h2,e⟩,hlt,hs=>
  ⟨p,q,WideElems.Trod_stays hl (ht t (w0l)).1 (ht t (w0l)).2 h1 (λx hx=>hb.same (hlt x (by rw[e];exact w1k _ hx))) (λx hx=>hs x (by rw[e];exact w1k _ hx)),
   zk2 hl hb (λt' ht'=>ht t' (w0h _ ht')) h2 (λx hx=>hlt x (by rw[e];exact w1n _ hx)) (λx hx=>hs x (by rw[e];exact w1n _ hx)),e⟩
 | [],_::_,_,_,_,h,_,_=>h.elim
 | [],[],_::_,_,_,h,_,_=>h.elim
 |_::_,[],_,_,_,h,_,_=>h.elim
 |_::_,_::_,[],_,_,h,_,_=>h.elim
theorem ya2{H:Type}{enc:TypeId×Value->H}{P:Program}{f:Func}{s:ChangeSpec}{apart fresh handsOn again:Bool}{W W':World}{args:Array Value}{ds:List (DataW H)}{before:List MemPlace}{tb:TypeId}
  (hW:DataW.Whole enc P f.params.toList s.vars apart W args.toList ds [] before) (hsv:s.vars = []) (hres :(s.fn H (ds++[])).results = [.lit (.bool true)]) (harg :(s.fn H (ds++[])).args=ds) (hvar :(s.fn H (ds++[])).vars = [])
  (hrt:f.resultTypes = #[tb]) (htb:P.underlying tb=some .bool) (hl:laidOutB P=true) (hread:∀t∈f.params.toList,P.readableRec t=true/\t<P.types.size) (hb:Below W.heap.size W W') :
  s.post enc P f apart fresh handsOn again W args (.bool true) W':=by
 have hlt:∀p∈before,p.block<W.heap.size:=λp hp=>hW.lt p hp
 have hW0:=hW;obtain⟨p,q,hA,hV,he,hz,hn⟩:=hW;rw[hsv] at hV;obtain⟨_,rfl⟩:=trodVars_none hV;rw[w0b] at he;subst he;have hres':∀(b:Nat)(sp:Nat->Bool)(hd:Bool),DataW.TrodAll enc P W' b sp hd f.resultTypes.toList ((Value.bool true).resultList f.resultTypes.size) (s.fn H (ds++[])).results []:=λb sp hd=>by rw[hres,hrt];exact trodAll_mk1 (shut_bool htb _)
 have hargs:∀sp:Nat->Bool,(∀p∈before,sp p.block=true)->DataW.TrodAll enc P W' 0 sp true f.params.toList args.toList (s.fn H (ds++[])).args before:=λsp hs=>by rw[harg];exact zk2 hl hb hread hA hlt hs
 have hvars:∀sp:Nat->Bool,DataW.TrodVars enc P W' sp s.vars (s.fn H (ds++[])).vars []:=λsp=>by rw[hsv,hvar];rfl
 have hold:∀p∈before,(λb=>decide (b<W.heap.size)) p.block=true:=λp hp=>by simpa using hlt p hp
 refine⟨ds,[],before,[],before,[],hW0,hres' _ _ _,hargs _ hold,hvars _,World.keptBut_mono (λp hp=>⟨hp,by simp[hp]⟩) (hb.frame (·∈before)),λ_=>?_⟩;refine⟨ok_one (by rw[hrt]) rfl (okWide_bool_mk htb _),_,_,([]++before)++[],⟨[]++before,[],trodAll_append (hargs _ (λ_ _=>rfl)) (hres' _ _ _),hvars _,rfl,?_,?_⟩,?_⟩
 .intro b off hp;have hp':MemPlace.cell b off∈before:=by simpa using hp
  rw[hb.frozen (hlt _ hp')];exact hz b off hp'
 .intro ha;simpa using hn ha
 .intro p hp _;simpa using hp
def Opn(P:Program){α:Type}(t:TypeId)(n:Nat)(e:α->List VP)(R:α->Prop):Prop:=
 ∀(H:Type)(enc:TypeId×Value->H)(w:World)(sp:Nat->Bool)(held:Bool)(fuel:Nat)(cs:List Value)(x:DataW H×List MemPlace),
  DataW.trod enc P w 0 sp held fuel t cs=some x->cs.length=n/\∃y:α,R y/\zl (λb=>b<w.heap.size) w (e y) cs
def RI(k:IntKind)(n:Int):Prop:=k.min<=n/\n<=k.max
theorem zqy{r:Nat->Prop}{w:World}{A:VP}{v:Value}(h:A.h r w v)(h1:v.oneCell'=true):zl r w [A] [v]:=⟨rfl,λj B hj=>by
 cases j with
 |zero=>simp at hj;subst hj;exact⟨v,rfl,h,h1⟩
 |succ j=>simp at hj⟩
theorem Opn.int{P:Program}{t:TypeId}{k:IntKind}(ht:P.underlying t=some (.int k)):Opn P t 1 (λn=>[iv k n]) (RI k):=by intro H enc w sp held fuel cs x h;obtain⟨n,rfl,_,hw⟩:=DataW.trod_int ht h;simp only[Lit.wf,w03,decide_eq_true_eq] at hw;exact⟨rfl,n,hw,zqy rfl rfl⟩
theorem Opn.bool{P:Program}{t:TypeId}(ht:P.underlying t=some .bool):Opn P t 1 (λb=>[bv b]) (λ_=>True):=by intro H enc w sp held fuel cs x h;obtain⟨n,rfl,_⟩:=DataW.trod_bool ht h;exact⟨rfl,n,trivial,zqy rfl rfl⟩
theorem Opn.string{P:Program}{t:TypeId}(ht:P.underlying t=some .string):Opn P t 1 (λs=>[eqv (.string s)]) (λs=>s.size<=maxLen):=by intro H enc w sp held fuel cs x h;obtain⟨n,rfl,_,hs⟩:=DataW.trod_string ht h;exact⟨rfl,n,hs,zqy rfl rfl⟩
theorem y4l{α:Type}{Q:Nat->α->Prop}: ∀(n:Nat),(∀i,i<n->∃y,Q i y)->∃l:List α,l.length=n/\∀i y,l[i]? = some y->Q i y
 |0,_=>⟨[],rfl,λi y h=>by simp at h⟩
 |n+1,h=>by
  obtain⟨l,hl,hq⟩:=y4l n (λi hi=>h i (by omega));obtain⟨y,hy⟩:=h n (by omega);refine⟨l++[y],by simp[hl],λi z hz=>?_⟩;rw[w1w] at hz;split at hz
  .exact hq i z hz
  .rename_i hge;have:i=n:=by have:=(w02.1 hz).1;simp at this;omega
   subst this;simp[hl] at hz;subst hz;exact hy
def RL{α:Type}(R:α->Prop)(l:List α):Prop:=(∀y∈l,R y)/\l.length<=maxLen
theorem Opn.slice{P:Program}{α:Type}{t E:TypeId}{n:Nat}{e:α->List VP}{R:α->Prop}(ht:P.underlying t=some (.slice E))(hn:P.cellsOf E=n)(hp:0<n)(he:Opn P E n e R):
  Opn P t 1 (λl=>[ro e n l]) (RL R):=by
 intro H enc w sp held fuel cs x h;rcases DataW.trod_slice ht h with⟨rfl,_⟩|⟨a,len,cap,zx7,rest,m,rfl,rfl,_,_,hle,hcap,hlen,hel,_,_⟩
 .exact⟨rfl,[],⟨by simp,by simp⟩,zqy (.inl ⟨⟨none,0,rfl⟩,rfl⟩) rfl⟩
 .have hat:∀i,i<len->∃cs,cs.length=n/\(∃y,R y/\zl (λb=>b<w.heap.size) w (e y) cs)/\∀j,j<n->w.cell? ((a.add (i*n)).add j)=cs[j]?:=by intro i hi;have hE:=hel i hi;rw[w09 (by omega),hn] at hE;simp only[w3k] at hE;obtain⟨cs,hc,hy⟩:=hE;obtain⟨hcl,y,hR,hcells⟩:=he _ _ _ _ _ _ _ _ hy;simp only[World.cells?,w2p,if_true] at hc;exact⟨cs,hcl,⟨y,hR,hcells⟩,λj hj=>by simpa using mapM_some_get hc j j (by simp[hj])⟩
  by_cases h0:len=0
  .subst h0;exact⟨rfl,[],⟨by simp,by simp⟩,zqy (.inl ⟨⟨_,_,rfl⟩,rfl⟩) rfl⟩
  have hspot:a.spot=none:=by obtain⟨cs,hcl,_,hget⟩:=hat 0 (by omega);have:=hget 0 hp;rw[w09 (by omega)] at this;simpa[Addr.add] using World.cell?_spot this
  obtain⟨b,o,s⟩:=a;simp only at hspot;subst hspot;have hone:∀i,i<len->∃y,R y/\b<w.heap.size/\z3u w (λb=>b<w.heap.size) b (o+i*n) (e y):=by
   intro i hi;obtain⟨cs,hcl,⟨y,hR,hcells⟩,hget⟩:=hat i hi;have hget':∀j,j<n->w.cell? ⟨b,o+i*n+j,none⟩=cs[j]?:=λj hj=>by
    have:=hget j hj
    rwa [Addr.add_lit,Addr.add_lit] at this
   refine⟨y,hR,?_,λj A hj=>?_⟩
   .have h1:=hget' 0 hp;rw[w09 (by omega)] at h1;unfold World.cell? at h1;split at h1
    .rename_i hb;exact(w19.1 hb).1
    .cases h1
   .obtain⟨u,hu,hA,h1⟩:=hcells.2 j A hj;have hjn:j<n:=by have:=(w02.1 hu).1;omega
    exact⟨u,by rw[hget' j hjn,hu],hA,h1⟩
  obtain⟨l,hll,hlq⟩:=y4l len hone;refine⟨rfl,l,⟨λy hy=>?_,by omega⟩,zqy ?_ rfl⟩
  .obtain⟨i,hi⟩:=w3o hy;exact(hlq i y hi).1
  .exact .inr ⟨b,o,cap-l.length,by rw[hll,w2m hle],λi x hi=>⟨(hlq i x hi).2.1,(hlq i x hi).2.2⟩⟩
def zto(P:Program)(t:TypeId):Option (List (TypeId×Nat×Nat)):=match P.underlying t with
 |some (.struct fs)=>some (fs.toList.map λf=>(f.type,f.offset,P.cellsOf f.type))
 |_=>none
theorem zyf{H:Type}{enc:TypeId×Value->H}{P:Program}{w:World}{sp:Nat->Bool}{held:Bool}{fuel:Nat}{t:TypeId}{cs:List Value}{x:DataW H×List MemPlace}{L:List (TypeId×Nat×Nat)}
  (h:zto P t=some L) (hd:DataW.trod enc P w 0 sp held fuel t cs=some x):cs.length=P.cellsOf t/\∃n,∀(i ty off m:Nat),L[i]? = some (ty,off,m)->∃y,DataW.trod enc P w 0 sp held n ty ((cs.drop off).take m)=some y:=by
 unfold zto at h;split at h
 .rename_i fs hu;simp only[w00] at h;subst h;obtain⟨xs,n,rfl,_,hl,hn,hf⟩:=DataW.trod_struct hu hd;refine⟨hl,n,λi ty off m hi=>?_⟩;rw[w1a,w1j] at hi;obtain⟨f,hfi,he⟩:=hi;simp only[w0f] at he;obtain⟨rfl,rfl,rfl⟩:=he;have hfi':fs[i]? = some f:=by simpa using hfi
  have hlt:i<xs.length:=by have:=(w19.1 hfi').1;omega
  exact⟨_,(hf i f hfi').trans (w09 hlt)⟩
 .cases h
theorem zl.tile{r:Nat->Prop}{w:World}{A B:List VP}{cs:List Value}{off m:Nat}(c:zl r w A ((cs.drop off).take m))(d:zl r w B (cs.drop (off+m))):zl r w (A++B) (cs.drop off):=by
 have:=c.append d
 rwa [<- w3e,w14] at this
theorem zl.tile0{r:Nat->Prop}{w:World}{cs:List Value}{n:Nat}(h:cs.length=n):zl r w [] (cs.drop n):=by rw[List.drop_of_length_le (by omega)];exact⟨rfl,λj A hj=>by simp at hj⟩
theorem y4j[Dr]{P:Program}{f:FuncId}{As:List VP}{vs:Array Value}{W:World}(h:zdn P f As (λx news=>x=bv true/\news = []))(hl:vs.size=As.length)
  (hA:∀(i:Nat)(A:VP),As[i]? = some A->A.h (λb=>b<W.heap.size) W (vs.getD i undef)):Calls P f vs W (λe W'=>e = .returned (.bool true)/\Below W.heap.size W W'):=by
 refine(h (λb=>b<W.heap.size) W vs (λ_ hb=>hb) hl hA).mono ?_;rintro e w' ⟨v,x,news,r',S',rfl,_,hw,hx,rfl,rfl⟩;have hx':v = .bool true:=hx;exact⟨by rw[hx'],hw.below.toBelow⟩
end Px
end
section
namespace Px
open Go Go.RowKit
def y3w(s:z8a):List Nat->Option (List (Nat×VP))
 | []=>some []
 |k::ks=>match s k,y3w s ks with
  |some A,some L=>some ((k,A)::L)
  |_,_=>none
theorem zzb{s:z8a}: ∀{ks:List Nat}{L:List (Nat×VP)},y3w s ks=some L->zwm s L
 | [],L,h=>by cases h;trivial
 |k::ks,L,h=>by
  unfold y3w at h;cases hk:s k with
  |none=>rw[hk] at h;cases h
  |some A=>
   cases hr:y3w s ks with
   |none=>rw[hk,hr] at h;cases h
   |some L'=>rw[hk,hr] at h;cases h;exact⟨⟨A,hk,Ent.refl⟩,zzb hr⟩
theorem sl{s:z8a}{L:List (Nat×VP)}(h:y3w s (L.map (·.1))=some L):zwm s L:=zzb h
section short
variable{P:Program}{C:Cx P}{s:St}{Q:Exit->Act->World->Prop}{x y c:Code}{e:Exit}{ops:Array Oper}{i:Nat}{rest:List Nat}{o:Oper}
theorem cs[Dr](h:y0j C x s (Exit.then (y.wp P Q) Q)):y0j C (.seq x y) s Q:=y0j.seq h
end short
end Px
end
