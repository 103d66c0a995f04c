/- A part of the proof of emptiesMatchesReference_holds. Conditions: none. -/
import Derived.Orders
import Derived.Below
import Derived.Laws.Rows
import Derived.Laws.MakeOwn
import Derived.Laws.OwnMore
import Derived.LoopN
import Derived.Scope
import Derived.RangeFuncRecord
import Derived.OrdersIn
import Derived.LoopNIn
import Derived.Laws.Entries
import Derived.Laws.Cells
import Derived.Laws.StructEq
import Derived.ProofKit
import Derived.JoinedOf
import Derived.ChangeSame
import Derived.WideKeyArgs
set_option linter.unusedVariables false
set_option linter.unusedSimpArgs false
namespace Px
abbrev w00:=@Option.bind_some
abbrev w01:=@Option.some.injEq
abbrev w02:=@Bool.and_eq_true
abbrev w03:=@Nat.eq_of_beq_eq_true
abbrev w04:=@List.getElem?_eq_some_iff
abbrev w05:=@List.mem_cons
abbrev w06:=@Go.Result.andThen_ok
abbrev w07:=@Array.getD_eq_getD_getElem?
abbrev w08:=@Go.Sem.run_bind
abbrev w09:=@Bool.false_eq_true
abbrev w0a:=@List.all_eq_true
abbrev w0b:=@List.mem_map
abbrev w0c:=@List.getElem?_eq_getElem
abbrev w0d:=@List.mem_singleton
abbrev w0e:=@List.append_nil
abbrev w0f:=@Option.some.inj
abbrev w0g:=@List.mem_cons_of_mem
abbrev w0h:=@List.length_append
abbrev w0i:=@List.mem_filter
abbrev w0j:=@List.mem_append
abbrev w0k:=@Prod.mk.injEq
abbrev w0l:=@List.map_cons
abbrev w0m:=@List.append_assoc
abbrev w0n:=@List.mem_cons_self
abbrev w0o:=@List.length_cons
abbrev w0p:=@Go.Sem.run_pure
abbrev w0q:=@List.length_map
abbrev w0r:=@List.getElem?_append_left
abbrev w0s:=@Nat.le_of_ble_eq_true
abbrev w0t:=@Bool.eq_iff_iff
abbrev w0u:=@List.flatMap_cons
abbrev w0v:=@Bool.not_eq_true'
abbrev w0w:=@Bool.or_eq_true
abbrev w0x:=@List.getElem?_take
abbrev w0y:=@List.not_mem_nil
abbrev w0z:=@Option.map_some
abbrev w10:=@Go.MapKept.run_getObj_map
abbrev w11:=@List.take_length
abbrev w12:=@List.filter_append
abbrev w13:=@List.pairwise_cons
abbrev w14:=@List.eq_nil_of_length_eq_zero
abbrev w15:=@List.filter_cons
abbrev w16:=@Nat.le_refl
abbrev w17:=@List.mem_of_getElem?
abbrev w18:=@List.getElem?_append_right
abbrev w19:=@Option.isSome_iff_exists
abbrev w1a:=@Array.getElem?_append
abbrev w1b:=@Option.getD_some
abbrev w1c:=@Array.getElem?_eq_some_iff
abbrev w1d:=@List.mem_range
abbrev w1e:=@List.length_take
abbrev w1f:=@List.mem_append_left
abbrev w1g:=@List.map_append
abbrev w1h:=@List.all_cons
abbrev w1i:=@Int.toNat_natCast
abbrev w1j:=@Nat.zero_add
abbrev w1k:=@Bool.not_eq_true
abbrev w1l:=@Bool.or_eq_false_iff
abbrev w1m:=@Go.World.putObj_heap_other
abbrev w1n:=@List.range_succ
abbrev w1o:=@Nat.le_trans
abbrev w1p:=@Nat.mul_le_mul_right
abbrev w1q:=@List.any_eq_true
abbrev w1r:=@List.getElem?_map
abbrev w1s:=@Nat.add_mul
abbrev w1t:=@List.getElem?_eq_none
abbrev w1u:=@List.mem_append_right
abbrev w1v:=@List.getElem?_set_self
abbrev w1w:=@Option.map_eq_some_iff
abbrev w1x:=@List.nodup_cons
abbrev w1y:=@List.foldl_cons
abbrev w1z:=@List.nil_append
abbrev w20:=@List.getElem?_drop
abbrev w21:=@Bool.not_true
abbrev w22:=@Array.toList_modify
abbrev w23:=@Array.getElem?_eq_getElem
abbrev w24:=@List.mem_flatMap
abbrev w25:=@Bool.true_and
abbrev w26:=@List.getD_eq_getElem?_getD
abbrev w27:=@Int.fdiv_eq_ediv_of_nonneg
abbrev w28:=@Int.tmod_eq_emod_of_nonneg
abbrev w29:=@List.getElem?_cons_succ
abbrev w2a:=@List.getElem?_set
abbrev w2b:=@List.getElem?_set_ne
abbrev w2c:=@Bool.false_or
abbrev w2d:=@List.flatMap_append
abbrev w2e:=@Nat.blt_eq
abbrev w2f:=@List.getElem?_cons_zero
abbrev w2g:=@List.getElem?_append
abbrev w2h:=@List.length_nil
abbrev w2i:=@List.cons.injEq
abbrev w2j:=@List.cons_append
abbrev w2k:=@List.take_append_of_le_length
abbrev w2l:=@List.take_append_drop
abbrev w2m:=@Bool.not_false
abbrev w2n:=@List.map_map
abbrev w2o:=@List.length_set
abbrev w2p:=@Nat.beq_refl
abbrev w2q:=@List.take_of_length_le
abbrev w2r:=@Go.MapKept.run_setObj_map
abbrev w2s:=@List.drop_append_of_le_length
abbrev w2t:=@Nat.lt_of_lt_of_le
abbrev w2u:=@Nat.mod_eq_of_lt
abbrev w2v:=@Nat.add_assoc
abbrev w2w:=@List.filter_cons_of_pos
abbrev w2x:=@List.pairwise_map
abbrev w2y:=@Int.le_refl
abbrev w2z:=@List.drop_of_length_le
abbrev w30:=@Nat.zero_le
abbrev w31:=@Array.all_eq_true_iff_forall_mem
abbrev w32:=@List.take_succ_eq_append_getElem
abbrev w33:=@Bool.and_eq_false_iff
abbrev w34:=@Option.isNone_iff_eq_none
abbrev w35:=@Array.getElem?_setIfInBounds_ne
abbrev w36:=@List.ext_getElem?
abbrev w37:=@Array.toList_push
abbrev w38:=@Int.mul_assoc
abbrev w39:=@List.toList_toArray
abbrev w3a:=@Nat.add_sub_cancel'
abbrev w3b:=@List.filter_eq_self
abbrev w3c:=@Array.length_toList
abbrev w3d:=@List.getElem_of_mem
abbrev w3e:=@List.drop_length_add_append
abbrev w3f:=@Nat.sub_zero
abbrev w3g:=@List.set_set
abbrev w3h:=@Array.getElem?_toList
abbrev w3i:=@Int.ediv_nonneg
abbrev w3j:=@Int.ediv_mul_add_emod
abbrev w3k:=@Int.tdiv_eq_ediv_of_nonneg
abbrev w3l:=@List.filter_congr
abbrev w3m:=@List.all_eq_false
abbrev w3n:=@List.drop_eq_getElem_cons
abbrev w3o:=@List.drop_drop
abbrev w3p:=@List.drop_zero
abbrev w3q:=@Int.mul_nonneg
abbrev w3r:=@Nat.add_zero
abbrev w3s:=@List.isEmpty_iff
abbrev w3t:=@Nat.add_sub_cancel_left
abbrev w3u:=@List.any_eq_not_all_not
abbrev w3v:=@List.set_cons_succ
abbrev w3w:=@List.find?_cons
abbrev w3x:=@Nat.one_mul
abbrev w3y:=@List.length_singleton
abbrev w3z:=@Int.ediv_lt_of_lt_mul
abbrev w40:=@List.take_length_add_append
abbrev w41:=@Nat.le_of_not_lt
abbrev w42:=@List.getElem?_of_mem
abbrev w43:=@List.take_append
abbrev w44:=@Nat.mod_lt
abbrev w45:=@List.range_eq_range'
abbrev w46:=@Nat.lt_succ_self
abbrev w47:=@List.pairwise_append
abbrev w48:=@List.perm_ext_iff_of_nodup
abbrev w49:=@List.any_cons
abbrev w4a:=@Bool.and_self
abbrev w4b:=@Bool.or_false
abbrev w4c:=@Nat.mod_two_eq_zero_or_one
abbrev w4d:=@Int.add_mul
abbrev w4e:=@List.all_append
abbrev w4f:=@Int.emod_nonneg
abbrev w4g:=@Int.emod_lt_of_pos
abbrev w4h:=@List.nodup_nil
abbrev w4i:=@List.getElem?_replicate
abbrev w4j:=@Option.bind_eq_some_iff
abbrev w4k:=@List.pairwise_singleton
abbrev w4l:=@List.filter_cons_of_neg
abbrev w4m:=@List.nodup_append
abbrev w4n:=@List.foldl_append
abbrev w4o:=@Classical.not_not
abbrev w4p:=@List.range'_succ
abbrev w4q:=@List.perm_append_comm
abbrev w4r:=@Nat.div_add_mod
abbrev w4s:=@Nat.mul_comm
abbrev w4t:=@List.eq_nil_iff_forall_not_mem
abbrev w4u:=@Array.ext'
abbrev w4v:=@Array.eq_empty_of_size_eq_zero
abbrev w4w:=@List.filter_nil
abbrev w4x:=@Nat.not_lt
abbrev w4y:=@Int.mul_le_mul_of_nonneg_right
abbrev w4z:=@Int.natCast_mul
abbrev w50:=@Int.mul_comm
abbrev w51:=@List.count_le_length
abbrev w52:=@List.map_congr_left
abbrev w53:=@Array.getElem?_push
abbrev w54:=@Nat.le_succ
abbrev w55:=@Nat.pow_add
abbrev w56:=@Int.mul_add
abbrev w57:=@List.mem_filterMap
abbrev w58:=@List.cons_beq_cons
abbrev w59:=@List.find?_eq_none
abbrev w5a:=@Nat.lt_of_le_of_lt
abbrev w5b:=@Int.mul_right_comm
abbrev w5c:=@Int.mul_lt_mul_of_pos_right
abbrev w5d:=@Option.isSome_none
abbrev w5e:=@Option.isSome_some
abbrev w5f:=@Bool.and_true
abbrev w5g:=@Nat.mul_assoc
abbrev w5h:=@Nat.add_comm
abbrev w5i:=@Nat.div_eq_of_lt
abbrev w5j:=@List.drop_append
abbrev w5k:=@List.length_drop
abbrev w5l:=@List.flatMap_map
abbrev w5m:=@List.foldlM_cons
abbrev w5n:=@List.map_flatMap
abbrev w5o:=@List.ext_getElem
abbrev w5p:=@BitVec.toNat_and
abbrev w5q:=@Int.zero_sub
abbrev w5r:=@Option.getD_none
abbrev w5s:=@List.foldr_cons
abbrev w5t:=@Array.size_push
abbrev w5u:=@Option.map_none
abbrev rg(a n:Int):Prop:=(0:Int)<=a/\a<n
section
variable{A B C D E F G H I J K L M N O P Q S T U V W X Y R Z:Type}
abbrev kq1(f:A->R)(z:A×Z):R:=f z.1
abbrev kq2(f:A->B->R)(z:A×B×Z):R:=kq1 (f z.1) z.2
abbrev kq3(f:A->B->C->R)(z:A×B×C×Z):R:=kq2 (f z.1) z.2
abbrev kq4(f:A->B->C->D->R)(z:A×B×C×D×Z):R:=kq3 (f z.1) z.2
abbrev kq5(f:A->B->C->D->E->R)(z:A×B×C×D×E×Z):R:=kq4 (f z.1) z.2
abbrev kq6(f:A->B->C->D->E->F->R)(z:A×B×C×D×E×F×Z):R:=kq5 (f z.1) z.2
abbrev kq7(f:A->B->C->D->E->F->G->R)(z:A×B×C×D×E×F×G×Z):R:=kq6 (f z.1) z.2
abbrev kq8(f:A->B->C->D->E->F->G->H->R)(z:A×B×C×D×E×F×G×H×Z):R:=kq7 (f z.1) z.2
abbrev kq9(f:A->B->C->D->E->F->G->H->I->R)(z:A×B×C×D×E×F×G×H×I×Z):R:=kq8 (f z.1) z.2
abbrev kq10(f:A->B->C->D->E->F->G->H->I->J->R)(z:A×B×C×D×E×F×G×H×I×J×Z):R:=kq9 (f z.1) z.2
abbrev kq11(f:A->B->C->D->E->F->G->H->I->J->K->R)(z:A×B×C×D×E×F×G×H×I×J×K×Z):R:=kq10 (f z.1) z.2
abbrev kq12(f:A->B->C->D->E->F->G->H->I->J->K->L->R)(z:A×B×C×D×E×F×G×H×I×J×K×L×Z):R:=kq11 (f z.1) z.2
abbrev kq13(f:A->B->C->D->E->F->G->H->I->J->K->L->M->R)(z:A×B×C×D×E×F×G×H×I×J×K×L×M×Z):R:=kq12 (f z.1) z.2
abbrev kq14(f:A->B->C->D->E->F->G->H->I->J->K->L->M->N->R)(z:A×B×C×D×E×F×G×H×I×J×K×L×M×N×Z):R:=kq13 (f z.1) z.2
abbrev kq15(f:A->B->C->D->E->F->G->H->I->J->K->L->M->N->O->R)(z:A×B×C×D×E×F×G×H×I×J×K×L×M×N×O×Z):R:=kq14 (f z.1) z.2
abbrev kq16(f:A->B->C->D->E->F->G->H->I->J->K->L->M->N->O->P->R)(z:A×B×C×D×E×F×G×H×I×J×K×L×M×N×O×P×Z):R:=kq15 (f z.1) z.2
abbrev kq17(f:A->B->C->D->E->F->G->H->I->J->K->L->M->N->O->P->Q->R)(z:A×B×C×D×E×F×G×H×I×J×K×L×M×N×O×P×Q×Z):R:=kq16 (f z.1) z.2
abbrev kq18(f:A->B->C->D->E->F->G->H->I->J->K->L->M->N->O->P->Q->S->R)(z:A×B×C×D×E×F×G×H×I×J×K×L×M×N×O×P×Q×S×Z):R:=kq17 (f z.1) z.2
abbrev kq19(f:A->B->C->D->E->F->G->H->I->J->K->L->M->N->O->P->Q->S->T->R)(z:A×B×C×D×E×F×G×H×I×J×K×L×M×N×O×P×Q×S×T×Z):R:=kq18 (f z.1) z.2
abbrev kq20(f:A->B->C->D->E->F->G->H->I->J->K->L->M->N->O->P->Q->S->T->U->R)(z:A×B×C×D×E×F×G×H×I×J×K×L×M×N×O×P×Q×S×T×U×Z):R:=kq19 (f z.1) z.2
abbrev kq21(f:A->B->C->D->E->F->G->H->I->J->K->L->M->N->O->P->Q->S->T->U->V->R)(z:A×B×C×D×E×F×G×H×I×J×K×L×M×N×O×P×Q×S×T×U×V×Z):R:=kq20 (f z.1) z.2
abbrev kq22(f:A->B->C->D->E->F->G->H->I->J->K->L->M->N->O->P->Q->S->T->U->V->W->R)(z:A×B×C×D×E×F×G×H×I×J×K×L×M×N×O×P×Q×S×T×U×V×W×Z):R:=kq21 (f z.1) z.2
abbrev kq23(f:A->B->C->D->E->F->G->H->I->J->K->L->M->N->O->P->Q->S->T->U->V->W->X->R)(z:A×B×C×D×E×F×G×H×I×J×K×L×M×N×O×P×Q×S×T×U×V×W×X×Z):R:=kq22 (f z.1) z.2
abbrev kq24(f:A->B->C->D->E->F->G->H->I->J->K->L->M->N->O->P->Q->S->T->U->V->W->X->Y->R)(z:A×B×C×D×E×F×G×H×I×J×K×L×M×N×O×P×Q×S×T×U×V×W×X×Y×Z):R:=kq23 (f z.1) z.2
abbrev uu1(f:A×Unit->R)(a:A):R:=f (a,())
abbrev uu2(f:A×B×Unit->R)(a:A):B->R:=uu1 λz=>f (a,z)
abbrev uu3(f:A×B×C×Unit->R)(a:A):B->C->R:=uu2 λz=>f (a,z)
abbrev uu4(f:A×B×C×D×Unit->R)(a:A):B->C->D->R:=uu3 λz=>f (a,z)
abbrev uu5(f:A×B×C×D×E×Unit->R)(a:A):B->C->D->E->R:=uu4 λz=>f (a,z)
abbrev uu6(f:A×B×C×D×E×F×Unit->R)(a:A):B->C->D->E->F->R:=uu5 λz=>f (a,z)
abbrev uu7(f:A×B×C×D×E×F×G×Unit->R)(a:A):B->C->D->E->F->G->R:=uu6 λz=>f (a,z)
abbrev uu8(f:A×B×C×D×E×F×G×H×Unit->R)(a:A):B->C->D->E->F->G->H->R:=uu7 λz=>f (a,z)
abbrev uu9(f:A×B×C×D×E×F×G×H×I×Unit->R)(a:A):B->C->D->E->F->G->H->I->R:=uu8 λz=>f (a,z)
abbrev uu10(f:A×B×C×D×E×F×G×H×I×J×Unit->R)(a:A):B->C->D->E->F->G->H->I->J->R:=uu9 λz=>f (a,z)
abbrev uu11(f:A×B×C×D×E×F×G×H×I×J×K×Unit->R)(a:A):B->C->D->E->F->G->H->I->J->K->R:=uu10 λz=>f (a,z)
abbrev uu12(f:A×B×C×D×E×F×G×H×I×J×K×L×Unit->R)(a:A):B->C->D->E->F->G->H->I->J->K->L->R:=uu11 λz=>f (a,z)
abbrev uu13(f:A×B×C×D×E×F×G×H×I×J×K×L×M×Unit->R)(a:A):B->C->D->E->F->G->H->I->J->K->L->M->R:=uu12 λz=>f (a,z)
abbrev uu14(f:A×B×C×D×E×F×G×H×I×J×K×L×M×N×Unit->R)(a:A):B->C->D->E->F->G->H->I->J->K->L->M->N->R:=uu13 λz=>f (a,z)
abbrev uu15(f:A×B×C×D×E×F×G×H×I×J×K×L×M×N×O×Unit->R)(a:A):B->C->D->E->F->G->H->I->J->K->L->M->N->O->R:=uu14 λz=>f (a,z)
abbrev uu16(f:A×B×C×D×E×F×G×H×I×J×K×L×M×N×O×P×Unit->R)(a:A):B->C->D->E->F->G->H->I->J->K->L->M->N->O->P->R:=uu15 λz=>f (a,z)
abbrev uu17(f:A×B×C×D×E×F×G×H×I×J×K×L×M×N×O×P×Q×Unit->R)(a:A):B->C->D->E->F->G->H->I->J->K->L->M->N->O->P->Q->R:=uu16 λz=>f (a,z)
abbrev uu18(f:A×B×C×D×E×F×G×H×I×J×K×L×M×N×O×P×Q×S×Unit->R)(a:A):B->C->D->E->F->G->H->I->J->K->L->M->N->O->P->Q->S->R:=uu17 λz=>f (a,z)
abbrev uu19(f:A×B×C×D×E×F×G×H×I×J×K×L×M×N×O×P×Q×S×T×Unit->R)(a:A):B->C->D->E->F->G->H->I->J->K->L->M->N->O->P->Q->S->T->R:=uu18 λz=>f (a,z)
abbrev uu20(f:A×B×C×D×E×F×G×H×I×J×K×L×M×N×O×P×Q×S×T×U×Unit->R)(a:A):B->C->D->E->F->G->H->I->J->K->L->M->N->O->P->Q->S->T->U->R:=uu19 λz=>f (a,z)
end
end Px
section
namespace Px
open Go Go.RowKit
def Rec(o:Option Obj):Prop:=(∃l,o=some (.deferred l))\/∃r,o=some (.loop r)
structure VP where
 h :(Nat->Prop)->World->Value->Prop
 wk:∀{ro ro':Nat->Prop}{w w':World}{v:Value},(∀b,ro b->ro' b)->(∀b,ro b->¬Rec w.heap[b]?->w'.heap[b]? = w.heap[b]?)->h ro w v->h ro' w' v
theorem VP.mono(A:VP){ro d:Nat->Prop}{w w':World}{v:Value}(f:∀b,ro b->d b)(g:∀b,ro b->w'.heap[b]? = w.heap[b]?)(h:A.h ro w v):A.h d w' v:=A.wk f (λb j _=>g b j) h
structure HP where
 h :(Nat->Prop)->(Nat->Prop)->World->Prop
 wk:∀{S ro ro':Nat->Prop}{w w':World},(∀b,ro b->ro' b)->(∀b,ro b->¬Rec w.heap[b]?->w'.heap[b]? = w.heap[b]?)->(∀b,S b->w'.heap[b]? = w.heap[b]?)->h S ro w->h S ro' w'
theorem HP.mono(A:HP){S ro d:Nat->Prop}{w w':World}(f:∀b,ro b->d b)(g:∀b,ro b->w'.heap[b]? = w.heap[b]?)(j:∀b,S b->w'.heap[b]? = w.heap[b]?)(h:A.h S ro w):A.h S d w':=A.wk f (λb u _=>g b u) j h
abbrev z9i:=Nat->Option VP
def z9i.set(s:z9i)(d:Option Nat)(x:VP):z9i:=match d with
 |some d=>λt=>bif Nat.beq t d then some x else s t
 |none=>s
structure St where
 slots:z9i
 objs:List HP
class Dr where
 p:Prop
instance(priority:=10):Dr:=⟨False⟩
structure Bel[Dr](B:Nat)(w w':World):Prop extends Below B w w' where
 drawn:Dr.p->w.drawn<=w'.drawn
theorem Bel.refl[Dr](B:Nat)(w:World):Bel B w w:=⟨Below.refl B w,λ_=>w16 _⟩
theorem Bel.trans[Dr]{B:Nat}{a b c:World}(h:Bel B a b)(k:Bel B b c):Bel B a c:=⟨h.toBelow.trans k.toBelow,λp=>w1o (h.drawn p) (k.drawn p)⟩
theorem Bel.mono[Dr]{B d:Nat}{w w':World}(h:Bel B w w')(f:d<=B):Bel d w w':=⟨h.toBelow.mono f,h.drawn⟩
theorem Bel.alloc[Dr]{B:Nat}{a w:World}(h:Bel B a w)(d:B<=w.heap.size)(o:Obj):Bel B a (w.alloc o):=⟨h.toBelow.alloc d o,h.drawn⟩
structure WInv[Dr](w0:World)(base:Nat)(objs:List HP)(ro:Nat->Prop)(S:Nat->Nat->Prop)(w:World):Prop where
 below:Bel base w0 w
 size:base<=w.heap.size
 obj:∀(i:Nat)(H:HP),objs[i]? = some H->H.h (S i) ro w
 own:∀i b,S i b->i<objs.length/\base<=b/\b<w.heap.size/\¬ro b
 apart:∀i j b,S i b->S j b->i=j
 old:∀b,ro b->b<w.heap.size
def zj(s:z9i)(a:Act)(ro:Nat->Prop)(w:World):Prop:=∀t A,s t=some A->A.h ro w (a.tmps.getD t undef)
def Evo(B:Nat)(ro:Nat->Prop)(w:World)(ro':Nat->Prop)(w':World):Prop:=(∀b,ro b->ro' b)/\(∀b,ro b->w'.heap[b]? = w.heap[b]?)/\∀b,ro' b->ro b\/B<=b
theorem Evo.refl(B:Nat)(ro:Nat->Prop)(w:World):Evo B ro w ro w:=⟨λ_ h=>h,λ_ _=>rfl,λ_ h=>.inl h⟩
theorem Evo.trans{B:Nat}{ro g d:Nat->Prop}{w w' j:World}(h:Evo B ro w g w')(k:Evo B g w' d j):Evo B ro w d j:=⟨λb f=>k.1 b (h.1 b f),λb f=>(k.2.1 b (h.1 b f)).trans (h.2.1 b f),λb f=>(k.2.2 b f).elim (h.2.2 b) .inr⟩
theorem VP.evo(A:VP){B:Nat}{ro d:Nat->Prop}{w w':World}{v:Value}(e:Evo B ro w d w')(h:A.h ro w v):A.h d w' v:=A.mono e.1 e.2.1 h
theorem zj.evo{s:z9i}{a:Act}{B:Nat}{ro d:Nat->Prop}{w w':World}(e:Evo B ro w d w')(h:zj s a ro w):zj s a d w':=λt A f=>A.evo e (h t A f)
structure Cx(P:Program)where
 w0:World
 base:Nat
 r0:Nat->Prop
 wI:World
 n:Nat
 rd:Option Nat:=none
 df:List Deferred:=[]
def Sat[Dr]{P:Program}(C:Cx P)(s:St)(a:Act)(w:World):Prop:=a.defers=C.df/\a.tmps.size=C.n/\∃ro S,WInv C.w0 C.base s.objs ro S w/\Evo C.base C.r0 C.wI ro w/\zj s.slots a ro w
def y5o[Dr]{P:Program}(C:Cx P)(c:Code)(s:St)(Q:Exit->Act->World->Prop):Prop:=∀a w,Sat C s a w->c.wp P Q a w
def AtX[Dr]{P:Program}(C:Cx P)(s:St)(e:Exit)(Q:Exit->Act->World->Prop):Prop:=∀a w,Sat C s a w->Q e a w
def OpT[Dr]{P:Program}(C:Cx P)(o:Oper)(s:St)(K:VP->List HP->Prop):Prop:=
 ∀a w ro S Q,a.defers=C.df->a.tmps.size=C.n->WInv C.w0 C.base s.objs ro S w->zj s.slots a ro w->
  o.wp P a w (λa' w'=>∃v ro' S' x objs',a'=a.put o.dst v/\Evo C.base ro w ro' w'/\WInv C.w0 C.base objs' ro' S' w'/\x.h ro' w' v/\K x objs') Q
def OpQ[Dr]{P:Program}(C:Cx P)(o:Oper)(s:St)(x:VP):Prop:=OpT C o s λy objs=>y=x/\objs=s.objs
def zim[Dr]{P:Program}(C:Cx P)(ops:Array Oper)(l:List Nat)(s:St)(Q:Exit->Act->World->Prop):Prop:=∀a w,Sat C s a w->wpOps P ops Q l a w
abbrev fz(rd:Option Nat):Fence:={ fn:=λ_=>True,depth:=none,alive:=false,round:=rd }
theorem y5x{rd:Option Nat}{n:Nat}{P:Program}{f:FuncId}{args:Array Value}{w:World}{R:Ending->World->Prop}(h:Calls P f args w R):CallsIn (fz rd) n P f args w R:=by have d:CallsIn Fence.wide n P f args w R:=callsIn_wide.2 h;exact d
theorem yck{n:Nat}{P:Program}{f:FuncId}{args:Array Value}{w:World}{R:Ending->World->Prop}(h:CallsIn (fz none) n P f args w R):Calls P f args w R:=callsIn_wide.1 h
theorem Oper.wp_fz{rd:Option Nat}{P:Program}{o:Oper}{a:Act}{w:World}{next:Act->World->Prop}{Q:Exit->Act->World->Prop}(g:∀c,o.op≠.defer c)(h:o.wp P a w next Q):o.wpIn (fz rd) 0 P a w next Q:=by
 unfold Oper.wp at h;refine⟨λ_ _=>trivial,?_⟩;rw[Oper.semAt_eq _ _ _ g];generalize (execOp a.eval o).run P w=x at h;cases x with
 |ok x w'=>
  cases x with
  |enter f args=>exact⟨λe=>by simp at e,y5x h⟩
  |row row args=>exact⟨λe=>by simp at e,λc cs _=>let ⟨v,w',r,s⟩:=h c cs;⟨v,w',r,stepsIn_wide.2 s⟩⟩
  |value v=>exact h
  |skip=>exact h
  |defer d=>exact h
  |_=>exact h.elim
 |halt x w'=>
  cases x with
  |panic v=>exact h
  |_=>exact h.elim
theorem OpT.nd[Dr]{P:Program}{C:Cx P}{o:Oper}{s:St}{K:VP->List HP->Prop}(h:OpT C o s K){a:Act}{w:World}{ro:Nat->Prop}{S:Nat->Nat->Prop}(z:a.defers=C.df)(hn:a.tmps.size=C.n)
  (hw:WInv C.w0 C.base s.objs ro S w) (hs:zj s.slots a ro w):∀c,o.op≠.defer c:=by
 intro c u;have f:=h a w ro S (λ_ _ _=>False) z hn hw hs;unfold Oper.wp at f;have e:execOp a.eval o =(do pure (.defer (<- resolve a.eval c o.type))):=by unfold execOp;rw[u]
 rw[e,w08] at f;generalize (resolve a.eval c o.type).run P w=x at f;cases x with
 |ok d w'=>obtain⟨v,_,_,_,_,j,_⟩:=f;have:=congrArg (λa:Act=>a.defers.length) j;cases g:o.dst<;>simp[Act.put,g] at this
 |halt x w'=>cases x<;>exact f
theorem OpT.fz[Dr]{rd:Option Nat}{P:Program}{C:Cx P}{o:Oper}{s:St}{K:VP->List HP->Prop}(h:OpT C o s K)(a:Act)(w:World)(ro:Nat->Prop)(S:Nat->Nat->Prop)(Q:Exit->Act->World->Prop)(f:a.defers=C.df)(g:a.tmps.size=C.n)
  (u:WInv C.w0 C.base s.objs ro S w) (j:zj s.slots a ro w) :
  o.wpIn (Px.fz rd) 0 P a w (λa' w'=>∃v d z x objs',a'=a.put o.dst v/\Evo C.base ro w d w'/\WInv C.w0 C.base objs' d z w'/\x.h d w' v/\K x objs') Q:=
 Oper.wp_fz (h.nd f g u j) (h a w ro S Q f g u j)
theorem zta{rd:Option Nat}{P:Program}{Q:Exit->Act->World->Prop}{a:Act}{w:World}{c:Code}(h:c.wpIn (fz rd) 0 P (Exit.noGoto Q) a w):(Code.scope c).wpIn (fz rd) 0 P Q a w:=by
 intro b k cs a2 z hr;obtain⟨e,g,u,f,d⟩:=h b (.inScope c::k) cs a2 z hr;have j:StepsIn (Machine.fenced P (fz rd)) P (lone (b.atR a (.code (.scope c)::k)) cs w) (lone (b.atR a (.code c::.inScope c::k)) cs w):=.one (fenced_calm z hr rfl) (step_lone_go (by simp[stepG,stepG.exec,Frame.atR]));cases e with
 |normal=>exact⟨.normal,g,u,f,j.trans (StepsIn.trans d (.one (fenced_calm z hr rfl) (step_lone_go (by simp[stepG,stepG.exec,Frame.atR]))))⟩
 |exit id=>exact⟨.exit id,g,u,f,.of_steps j ⟨λk' hk=>d.1 k' (by simp[exitTo,hk]),λa0 hk=>d.2 a0 (by simp[exitTo,hk])⟩⟩
 |goto l=>exact f.elim
 |ret=>exact⟨_,g,u,f,.of_steps j d⟩
 |panic ch=>exact⟨_,g,u,f,.of_steps j d⟩
 |outgrown=>exact⟨_,g,u,f,.of_steps j d⟩
theorem zji(a:Act)(d:Option Nat)(v:Value)(t:Nat)(g:∀x,d=some x->x<a.tmps.size):
  (a.put d v).tmps.getD t undef=if d=some t then v else a.tmps.getD t undef:=by
 cases d with
 |none=>simp[Act.put]
 |some d=>
  have f:=g d rfl;by_cases h:d=t
  .subst h;simp[Act.put,f]
  .simp[Act.put,h,w35 h]
theorem zo7{a b:Nat}(h:a≠b):Nat.beq a b=false:=by
 cases d:Nat.beq a b with
 |false=>rfl
 |true=>exact absurd (w03 d) h
theorem zj.put{s:z9i}{a:Act}{ro:Nat->Prop}{w:World}{x:VP}{v:Value}{d:Option Nat}(j:∀y,d=some y->y<a.tmps.size)
  (h:zj s a ro w) (u:x.h ro w v):zj (s.set d x) (a.put d v) ro w:=by
 intro t A f;rw[zji a d v t j];cases d with
 |none=>simpa[z9i.set] using h t A (by simpa[z9i.set] using f)
 |some d=>
  simp only[z9i.set] at f;by_cases e:t=d
  .subst e;rw[w2p] at f;simp only[cond_true,w01] at f;subst f;simpa using u
  .rw[zo7 e] at f;have g:¬d=t:=λh=>e h.symm
   rw[if_neg (by simpa using g)];exact h t A f
def z8g{P:Program}(C:Cx P)(o:Oper):Bool:=match o.dst with|some d=>decide (d<C.n)|none=>true
theorem zgx{P:Program}{C:Cx P}{o:Oper}(h:z8g C o=true){a:Act}(d:a.tmps.size=C.n):∀y,o.dst=some y->y<a.tmps.size:=by intro y hy;simp[z8g,hy] at h;rw[d];exact h
section run
variable{P:Program}{C:Cx P}{ops:Array Oper}{i:Nat}{rest:List Nat}{s:St}{Q:Exit->Act->World->Prop}{o:Oper}
theorem yb5[Dr]{a:Act}{w w':World}{ro d:Nat->Prop}{g:Nat->Nat->Prop}{x:VP}{f:List HP}{v:Value}(hr:z8g C o=true)
  (z:a.defers=C.df) (j:a.tmps.size=C.n) (hs:zj s.slots a ro w) (u:Evo C.base C.r0 C.wI ro w) (e:Evo C.base ro w d w') (hw:WInv C.w0 C.base f d g w') (hx:x.h d w' v) :
  Sat C ⟨s.slots.set o.dst x,f⟩ (a.put o.dst v) w':=by
 refine⟨?_,?_,d,g,hw,u.trans e,zj.put (zgx hr j) (hs.evo e) hx⟩
 .cases h:o.dst<;>simp[Act.put,z]
 .cases h:o.dst<;>simp[Act.put,j]
theorem OpT.mono[Dr]{K j:VP->List HP->Prop}(h:OpT C o s K)(hk:∀x objs,K x objs->j x objs):OpT C o s j:=by intro a w ro S Q hd hn hw hs;refine Oper.wp_mono ?_ (h a w ro S Q hd hn hw hs);rintro a' w' ⟨v,g,u,x,objs',z,e,f,hx,d⟩;exact⟨v,g,u,x,objs',z,e,f,hx,hk _ _ d⟩
def cnd(c:Prop)(x:VP):VP:=⟨λro w v=>(c->x.h ro w v)/\(¬c->v=undef),λh1 h2 h=>⟨λhc=>x.wk h1 h2 (h.1 hc),h.2⟩⟩
def eqv(u:Value):VP:=⟨λ_ _ v=>v=u,λ_ _ h=>h⟩
abbrev iv(k:IntKind)(n:Int):VP:=eqv (.int k n)
abbrev bv(b:Bool):VP:=eqv (.bool b)
theorem ze7{a:Act}{j t:Nat}(h :(ops[j]?).bind (·.dst)=some t):(∀g,a.tmps.getD t undef = .bool g->yielded ops a.tmps j=some g)/\(a.tmps.getD t undef=undef->yielded ops a.tmps j=none):=by
 cases d:ops[j]? with
 |none=>rw[d] at h;simp at h
 |some oj=>
  rw[d] at h;simp only[w00] at h;by_cases f:t<a.tmps.size
  .simp only[w07,w23 f,w1b];refine⟨λg u=>?_,λz=>?_⟩
   .simp[yielded,d,h,f,u]
   .simp[yielded,d,h,f,z,undef]
  .rw[w07,Array.getElem?_eq_none (by omega)];refine⟨λg u=>by simp[undef] at u,λ_=>?_⟩;simp[yielded,d,h,w41 f]
theorem zim.cons_g'[Dr](x:VP)(p:Prop){j:Nat}{want:Bool}(ho:ops[i]? = some o)(hg:o.guard=some (j,want))(hr:z8g C o=true)
  (hy:∀a ro w,zj s.slots a ro w->(p->yielded ops a.tmps j=some want)/\(¬p->yielded ops a.tmps j≠some want)) (hq:p->OpQ C o s x)
  (h:zim C ops rest ⟨s.slots.set o.dst (cnd p x),s.objs⟩ Q):zim C ops (i::rest) s Q:=by
 rintro a w ⟨g,u,ro,S,hw,he,f⟩;obtain⟨a0,a1⟩:=hy a ro w f;simp only[wpOps,ho,Region.wanted,hg];by_cases d:p
 .simp only[a0 d,BEq.rfl,if_true];refine .inl (Oper.wp_mono ?_ (hq d a w ro S Q g u hw f));rintro a' w' ⟨v,a2,S',y,objs',rfl,e,z,hx,rfl,rfl⟩;exact h _ _ (yb5 hr g u f he e z ⟨λ_=>hx,λh=>absurd d h⟩)
 .have :(yielded ops a.tmps j==some want)=false:=by
   cases hb :(yielded ops a.tmps j==some want) with
   |false=>rfl
   |true=>exact absurd (by simpa using hb) (a1 d)
  rw[this];simp only[w09,if_false];exact h _ _ (yb5 hr g u f he (Evo.refl _ _ _) hw ⟨λh=>absurd h d,λ_=>rfl⟩)
theorem zud{s:z9i}{a:Act}{ro:Nat->Prop}{w:World}{j t:Nat}{g want:Bool}(f :(ops[j]?).bind (·.dst)=some t)(z:s t=some (bv g))(u:zj s a ro w):
  (g=want->yielded ops a.tmps j=some want)/\(¬g=want->yielded ops a.tmps j≠some want):=by
 have h:=(ze7 (a:=a) f).1 g (u t _ z);exact⟨λe=>e ▸ h,λe d=>e (by rw[h] at d;simpa using d)⟩
theorem y0w{s:z9i}{a:Act}{ro:Nat->Prop}{w:World}{j t:Nat}{c:Prop}{g want:Bool}(f :(ops[j]?).bind (·.dst)=some t)(ht:s t=some (cnd c (bv g)))(hs:zj s a ro w):
  ((c/\g=want)->yielded ops a.tmps j=some want)/\(¬(c/\g=want)->yielded ops a.tmps j≠some want):=by
 obtain⟨u,z⟩:=hs t _ ht;refine⟨λ⟨d,e⟩=>e ▸ (ze7 (a:=a) f).1 g (u d),λhn h=>?_⟩;by_cases d:c
 .have:=(ze7 (a:=a) f).1 g (u d)
  rw[h] at this;simp at this;exact hn ⟨d,this.symm⟩
 .have:=(ze7 (a:=a) f).2 (z d)
  rw[h] at this;cases this
theorem zim.cons_g[Dr](x:VP)(g:Bool){j:Nat}{want:Bool}{t:Nat}(u:ops[i]? = some o)(d:o.guard=some (j,want))(hr:z8g C o=true)
  (f :(ops[j]?).bind (·.dst)=some t) (ht:s.slots t=some (bv g)) (z:g=want->OpQ C o s x)
  (h:zim C ops rest ⟨s.slots.set o.dst (cnd (g=want) x),s.objs⟩ Q):zim C ops (i::rest) s Q:=
 .cons_g' x (g=want) u d hr (λ_ _ _ hs=>zud f ht hs) z h
theorem WInv.drawn[Dr]{g:World}{d:Nat}{f:List HP}{ro:Nat->Prop}{S:Nat->Nat->Prop}{w:World}(h:WInv g d f ro S w)(k:Nat)(u:w.drawn<=k):
  WInv g d f ro S { w with drawn:=k } where
 below:=⟨⟨h.below.os,h.below.tape,h.below.output,h.below.size,h.below.block⟩,λp=>w1o (h.below.drawn p) u⟩
 size:=h.size
 obj:=λi H j=>H.mono (w:=w) (λ_ h=>h) (λ_ _=>rfl) (λ_ _=>rfl) (h.obj i H j)
 own:=h.own
 apart:=h.apart
 old:=h.old
theorem Sat.drawn[Dr]{a:Act}{w:World}(h:Sat C s a w)(k:Nat)(g:w.drawn<=k):Sat C s a { w with drawn:=k }:=by obtain⟨f,j,ro,S,z,d,u⟩:=h;exact⟨f,j,ro,S,z.drawn k g,⟨d.1,d.2.1,d.2.2⟩,u.evo (B:=0) (w:=w) ⟨λ_ h=>h,λ_ _=>rfl,λ_ h=>.inl h⟩⟩
end run
section code
variable{P:Program}{C:Cx P}{s:St}{Q:Exit->Act->World->Prop}{x y c:Code}
theorem y5o.seq[Dr](h:y5o C x s (Exit.then (y.wp P Q) Q)):y5o C (.seq x y) s Q:=λa w d=>wp_seq (h a w d)
end code
end Px
end
section
namespace Px
open Go Go.RowKit
def Ev(s:St)(x:Operand)(A:VP):Prop:=∀a ro w,zj s.slots a ro w->A.h ro w (a.eval x)
theorem Ev.tmp{s:St}{t:Nat}{A:VP}(h:s.slots t=some A):Ev s (.tmp t) A:=λa ro w d=>d t A h
theorem Ev.const{s:St}(v:Value):Ev s (.const v) (eqv v):=λ_ _ _ _=>rfl
theorem Ev.func{s:St}(f:Nat):Ev s (.func f) (eqv (.func (.func f) #[] #[])):=λ_ _ _ _=>rfl
def topv:VP:=⟨λ_ _ _=>True,λ_ _ h=>h⟩
section
variable{P:Program}{C:Cx P}{o:Oper}{s:St}
theorem OpQ.val[Dr]{x:VP}(h:∀a ro w,zj s.slots a ro w->∃v,(execOp a.eval o).run P w = .ok (.value v) w/\x.h ro w v):OpQ C o s x:=by intro a w ro S Q j u g f;obtain⟨v,d,hx⟩:=h a ro w f;unfold Oper.wp;rw[d,Oper.upon_value];exact⟨v,ro,S,x,s.objs,rfl,Evo.refl _ _ _,g,hx,rfl,rfl⟩
theorem OpQ.valO[Dr]{x:VP}(h:∀a ro S w,WInv C.w0 C.base s.objs ro S w->zj s.slots a ro w->∃v,(execOp a.eval o).run P w = .ok (.value v) w/\x.h ro w v):OpQ C o s x:=by intro a w ro S Q j u d g;obtain⟨v,f,hx⟩:=h a ro S w d g;unfold Oper.wp;rw[f,Oper.upon_value];exact⟨v,ro,S,x,s.objs,rfl,Evo.refl _ _ _,d,hx,rfl,rfl⟩
end
section ops
variable{P:Program}{C:Cx P}{s:St}{dst:Option Tmp}{ty:TypeId}{pos:String}{after:Array Edge}{guard:Option (Nat×Bool)}
theorem ylt[Dr]{x:Operand}{A:VP}(h:Ev s x A):OpQ C ⟨dst,.move x,ty,pos,after,guard⟩ s A:=
 .val λa ro w d=>⟨_,rfl,h a ro w d⟩
theorem yed[Dr]{x:Operand}{A:VP}(h:Ev s x A):OpQ C ⟨dst,.assign x,ty,pos,after,guard⟩ s A:=
 .val λa ro w d=>⟨_,rfl,h a ro w d⟩
theorem y4o[Dr]{c x y:Operand}{A:VP}{g:Bool}(f:Ev s c (bv g))(h:g=true->Ev s x A)(j:g=false->Ev s y A):OpQ C ⟨dst,.pick c x y,ty,pos,after,guard⟩ s A:=
 .val λa ro w d=>by
  have:=f a ro w d;simp only[bv,eqv] at this;cases g
  .exact⟨a.eval y,by simp[execOp,this,asBool],j rfl a ro w d⟩
  .exact⟨a.eval x,by simp[execOp,this,asBool],h rfl a ro w d⟩
theorem ymx[Dr]{c x y:Operand}{g q:Bool}(d:Ev s c (bv g))(f:g=true->Ev s x (bv q))(j:Ev s y (bv false)):OpQ C ⟨dst,.pick c x y,ty,pos,after,guard⟩ s (bv (g&&q)):=y4o d (λh=>by subst h;simpa using f rfl) (λh=>by subst h;simpa using j)
theorem opOr[Dr]{c x y:Operand}{g q:Bool}(d:Ev s c (bv g))(f:Ev s x (bv true))(j:g=false->Ev s y (bv q)):OpQ C ⟨dst,.pick c x y,ty,pos,after,guard⟩ s (bv (g||q)):=y4o d (λh=>by subst h;simpa using f) (λh=>by subst h;simpa using j rfl)
theorem zjv[Dr]{d:BinOp}{t t':TypeId}{x y:Operand}{k:IntKind}{m n:Int}{A:VP}(hx:Ev s x (iv k m))(hy:Ev s y (iv k n))
  (z:∀w:World,∃v,(binOp d t (.int k m) (.int k n)).run P w = .ok v w/\∀ro w,A.h ro w v):OpQ C ⟨dst,.binOp d t x y t',ty,pos,after,guard⟩ s A:=
 .val λa ro w h=>by
  have f:=hx a ro w h;have g:=hy a ro w h;simp only[iv,eqv] at f g;obtain⟨v,hv,j⟩:=z w;refine⟨v,?_,j ro w⟩;have u :(eqGuard d t x y (.int k m) (.int k n)).run P w = .ok () w:=by cases d<;>simp[eqGuard]
  simp[execOp,f,g,hv,u]
section int
variable{t t':TypeId}{x y:Operand}{k:IntKind}{m n:Int}(hx:Ev s x (iv k m))(hy:Ev s y (iv k n))
include hx hy
theorem ylk[Dr]:OpQ C ⟨dst,.binOp .add t x y t',ty,pos,after,guard⟩ s (iv k (k.wrap (m+n))):=zjv hx hy λw=>⟨_,by simp only[binOp,Op.intArith,ne_eq,not_true_eq_false,if_false];rfl,λ_ _=>rfl⟩
theorem ynh[Dr]:OpQ C ⟨dst,.binOp .sub t x y t',ty,pos,after,guard⟩ s (iv k (k.wrap (m-n))):=zjv hx hy λw=>⟨_,by simp only[binOp,Op.intArith,ne_eq,not_true_eq_false,if_false];rfl,λ_ _=>rfl⟩
theorem yna[Dr]:OpQ C ⟨dst,.binOp .mul t x y t',ty,pos,after,guard⟩ s (iv k (k.wrap (m*n))):=zjv hx hy λw=>⟨_,by simp only[binOp,Op.intArith,ne_eq,not_true_eq_false,if_false];rfl,λ_ _=>rfl⟩
theorem ynf[Dr](d:n≠0):OpQ C ⟨dst,.binOp .quo t x y t',ty,pos,after,guard⟩ s (iv k (k.wrap (m.tdiv n))):=zjv hx hy λw=>⟨_,by simp only[binOp,Op.intDiv,d,ne_eq,not_true_eq_false,if_false];rfl,λ_ _=>rfl⟩
theorem yng[Dr](d:n≠0):OpQ C ⟨dst,.binOp .rem t x y t',ty,pos,after,guard⟩ s (iv k (m.tmod n)):=zjv hx hy λw=>⟨_,by simp only[binOp,Op.intDiv,d,ne_eq,not_true_eq_false,if_false];rfl,λ_ _=>rfl⟩
theorem yll[Dr]:OpQ C ⟨dst,.binOp .and t x y t',ty,pos,after,guard⟩ s (iv k (k.wrap (BitVec.ofInt k.bits m&&& BitVec.ofInt k.bits n).toNat)):=zjv hx hy λw=>⟨_,by simp only[binOp,Op.intBits,ne_eq,not_true_eq_false,if_false];rfl,λ_ _=>rfl⟩
theorem ymy[Dr]:OpQ C ⟨dst,.binOp .or t x y t',ty,pos,after,guard⟩ s (iv k (k.wrap (BitVec.ofInt k.bits m||| BitVec.ofInt k.bits n).toNat)):=zjv hx hy λw=>⟨_,by simp only[binOp,Op.intBits,ne_eq,not_true_eq_false,if_false];rfl,λ_ _=>rfl⟩
theorem ylm[Dr]:OpQ C ⟨dst,.binOp .xor t x y t',ty,pos,after,guard⟩ s (iv k (k.wrap (BitVec.ofInt k.bits m ^^^ BitVec.ofInt k.bits n).toNat)):=zjv hx hy λw=>⟨_,by simp only[binOp,Op.intBits,ne_eq,not_true_eq_false,if_false];rfl,λ_ _=>rfl⟩
theorem yn3[Dr]:OpQ C ⟨dst,.binOp .eql t x y t',ty,pos,after,guard⟩ s (bv (m==n)):=zjv hx hy λw=>⟨_,by simp only[binOp,Op.intCmp,ne_eq,not_true_eq_false,if_false];rfl,λ_ _=>rfl⟩
theorem ynd[Dr]:OpQ C ⟨dst,.binOp .neq t x y t',ty,pos,after,guard⟩ s (bv (m !=n)):=zjv hx hy λw=>⟨_,by simp only[binOp,Op.intCmp,ne_eq,not_true_eq_false,if_false];rfl,λ_ _=>rfl⟩
theorem yn7[Dr]:OpQ C ⟨dst,.binOp .lss t x y t',ty,pos,after,guard⟩ s (bv (decide (m<n))):=zjv hx hy λw=>⟨_,by simp only[binOp,Op.intCmp,ne_eq,not_true_eq_false,if_false];rfl,λ_ _=>rfl⟩
theorem yn6[Dr]:OpQ C ⟨dst,.binOp .leq t x y t',ty,pos,after,guard⟩ s (bv (decide (m<=n))):=zjv hx hy λw=>⟨_,by simp only[binOp,Op.intCmp,ne_eq,not_true_eq_false,if_false];rfl,λ_ _=>rfl⟩
theorem yn5[Dr]:OpQ C ⟨dst,.binOp .gtr t x y t',ty,pos,after,guard⟩ s (bv (decide (n<m))):=zjv hx hy λw=>⟨_,by simp only[binOp,Op.intCmp,ne_eq,not_true_eq_false,if_false];rfl,λ_ _=>rfl⟩
theorem yn4[Dr]:OpQ C ⟨dst,.binOp .geq t x y t',ty,pos,after,guard⟩ s (bv (decide (n<=m))):=zjv hx hy λw=>⟨_,by simp only[binOp,Op.intCmp,ne_eq,not_true_eq_false,if_false];rfl,λ_ _=>rfl⟩
end int
theorem ylv[Dr]{t t':TypeId}{x y:Operand}{k z:IntKind}{m n:Int}(j:Ev s x (iv k m))(u:Ev s y (iv z n))(h:0<=n):
  OpQ C ⟨dst,.binOp .shl t x y t',ty,pos,after,guard⟩ s (iv k (k.wrap (m*2 ^ (min n.toNat k.bits)))):=
 .val λa ro w g=>by
  have d:=j a ro w g;have f:=u a ro w g;simp only[iv,eqv] at d f;refine⟨_,?_,rfl⟩;simp only[execOp,d,f,eqGuard,binOp,Op.shift,if_neg (Int.not_lt.2 h)];rfl
theorem ylw[Dr]{t t':TypeId}{x y:Operand}{k z:IntKind}{m n:Int}(j:Ev s x (iv k m))(u:Ev s y (iv z n))(h:0<=n):
  OpQ C ⟨dst,.binOp .shr t x y t',ty,pos,after,guard⟩ s (iv k (m.fdiv (2 ^ (min n.toNat k.bits)))):=
 .val λa ro w g=>by
  have d:=j a ro w g;have f:=u a ro w g;simp only[iv,eqv] at d f;refine⟨_,?_,rfl⟩;simp only[execOp,d,f,eqGuard,binOp,Op.shift,if_neg (Int.not_lt.2 h)];rfl
theorem znm{P:Program}(w:World)(d:Nat){t:TypeId}(m n:Bool)(f:P.underlying t=some .bool):
  (Op.equalIn (d+1) t (.bool m) (.bool n)).run P w = .ok (m==n) w:=by
 simp[Op.equalIn,run_underlying f]
theorem zhy{P:Program}(w:World){t:TypeId}(m n:Bool)(d:P.underlying t=some .bool):
  (Op.equal t (.bool m) (.bool n)).run P w = .ok (m==n) w:=znm w 9999 m n d
theorem ylo[Dr]{t t':TypeId}{x y:Operand}{m n:Bool}(h:P.underlying t=some .bool)(j:Ev s x (bv m))(u:Ev s y (bv n)):
  OpQ C ⟨dst,.binOp .eql t x y t',ty,pos,after,guard⟩ s (bv (m==n)):=
 .val λa ro w g=>by
  have d:=j a ro w g;have f:=u a ro w g;simp only[bv,eqv] at d f;refine⟨_,?_,rfl⟩;simp[execOp,d,f,eqGuard,binOp,zhy w m n h]
theorem ylu[Dr]{t t':TypeId}{x y:Operand}{m n:Bool}(h:P.underlying t=some .bool)(j:Ev s x (bv m))(u:Ev s y (bv n)):
  OpQ C ⟨dst,.binOp .neq t x y t',ty,pos,after,guard⟩ s (bv (m !=n)):=
 .val λa ro w g=>by
  have d:=j a ro w g;have f:=u a ro w g;simp only[bv,eqv] at d f;refine⟨_,?_,rfl⟩;simp[execOp,d,f,eqGuard,binOp,zhy w m n h,bne]
theorem yne[Dr]{t:TypeId}{x:Operand}{m:Bool}(g:Ev s x (bv m)):OpQ C ⟨dst,.unOp .not t x,ty,pos,after,guard⟩ s (bv (!m)):=
 .val λa ro w f=>⟨_,by have d:=g a ro w f;simp only[bv,eqv] at d;simp[execOp,d,Op.unary],rfl⟩
theorem ync[Dr]{t:TypeId}{x:Operand}{k:IntKind}{m:Int}(g:Ev s x (iv k m)):OpQ C ⟨dst,.unOp .neg t x,ty,pos,after,guard⟩ s (iv k (k.wrap (0-m))):=
 .val λa ro w f=>⟨_,by have d:=g a ro w f;simp only[iv,eqv] at d;simp only[execOp,d,Op.unary,Op.intArith,w08,w0p,w06],rfl⟩
theorem yln[Dr]{f d:TypeId}{x:Operand}{k j:IntKind}{m:Int}(h :(P.underlying f).isSome=true)(z:P.underlying d=some (.int j))(hx:Ev s x (iv k m)):
  OpQ C ⟨dst,.convert f d x,ty,pos,after,guard⟩ s (iv j (j.wrap m)):=
 .val λa ro w hs=>by
  have u:=hx a ro w hs;simp only[iv,eqv] at u;obtain⟨ds,g⟩:=w19.1 h;refine⟨_,?_,rfl⟩;simp[execOp,u,convert,run_underlying g,run_underlying z,Conv.intToInt]
def tupv(xs:List VP):VP:=⟨λro w v=>∃vs:Array Value,v = .tuple vs/\vs.size=xs.length/\∀(i:Nat)(A:VP),xs[i]? = some A->A.h ro w (vs.getD i undef),
 λh1 h2 ⟨vs,e,hl,h⟩=>⟨vs,e,hl,λi A hi=>A.wk h1 h2 (h i A hi)⟩⟩
theorem zyi[Dr]{x:Operand}{xs:List VP}{i:Nat}{A:VP}(z:Ev s x (tupv xs))(f:xs[i]? = some A):OpQ C ⟨dst,.extract x i,ty,pos,after,guard⟩ s A:=
 .val λa ro w u=>by
  obtain⟨vs,e,j,h⟩:=z a ro w u;have d:i<vs.size:=by rw[j];exact(w04.1 f).1
  have g:=h i A f;refine⟨vs[i],?_,?_⟩
  .simp[execOp,e,Instr.extract,d]
  .simpa[Array.getD,d] using g
end ops
end Px
end
section
namespace Px
open Go Go.RowKit
def z5p(w:World)(ro:Nat->Prop)(b o:Nat)(cs:List VP):Prop:=∀(j:Nat)(A:VP),cs[j]? = some A->∃u,w.cell? ⟨b,o+j,none⟩=some u/\A.h ro w u/\u.oneCell'=true
def zr(ro:Nat->Prop)(w:World)(cs:List VP)(vs:List Value):Prop:=cs.length=vs.length/\∀(j:Nat)(A:VP),cs[j]? = some A->∃u,vs[j]? = some u/\A.h ro w u/\u.oneCell'=true
theorem zod{w w':World}{b o:Nat}(h:w'.heap[b]? = w.heap[b]?):w'.cell? ⟨b,o,none⟩=w.cell? ⟨b,o,none⟩:=by simp[World.cell?,h]
theorem ycu{w:World}{b o:Nat}{v:Value}(h:w.cell? ⟨b,o,none⟩=some v):¬Rec w.heap[b]?:=by rintro(⟨l,e⟩|⟨l,e⟩)<;>(unfold World.cell? at h;simp[e] at h)
theorem z5p.wk{w w':World}{ro d:Nat->Prop}{b o:Nat}{cs:List VP}(g:∀b,ro b->d b)(z:∀b,ro b->¬Rec w.heap[b]?->w'.heap[b]? = w.heap[b]?)
  (hb:¬Rec w.heap[b]?->w'.heap[b]? = w.heap[b]?) (h:z5p w ro b o cs):z5p w' d b o cs:=λj A hj=>by
 obtain⟨u,f,hA,ho⟩:=h j A hj;exact⟨u,(zod (hb (ycu f))).trans f,A.wk g z hA,ho⟩
theorem zr.wk{w w':World}{ro d:Nat->Prop}{cs:List VP}{vs:List Value}(f:∀b,ro b->d b)(g:∀b,ro b->¬Rec w.heap[b]?->w'.heap[b]? = w.heap[b]?)
  (h:zr ro w cs vs):zr d w' cs vs:=⟨h.1,λj A hj=>by
 obtain⟨u,hc,z,ho⟩:=h.2 j A hj;exact⟨u,hc,A.wk f g z,ho⟩⟩
theorem zr.mono{w w':World}{ro d:Nat->Prop}{cs:List VP}{vs:List Value}(f:∀b,ro b->d b)(g:∀b,ro b->w'.heap[b]? = w.heap[b]?)
  (h:zr ro w cs vs):zr d w' cs vs:=⟨h.1,λj A hj=>by
 obtain⟨u,hc,z,ho⟩:=h.2 j A hj;exact⟨u,hc,A.mono f g z,ho⟩⟩
theorem z5p.drop{w:World}{ro:Nat->Prop}{b o:Nat}{cs:List VP}(h:z5p w ro b o cs)(n:Nat):z5p w ro b (o+n) (cs.drop n):=λj A d=>by
 rw[w20] at d;have:=h (n+j) A d
 rwa [<- w2v] at this
theorem z5p.take{w:World}{ro:Nat->Prop}{b o:Nat}{cs:List VP}(h:z5p w ro b o cs)(n:Nat):z5p w ro b o (cs.take n):=λj A d=>by
 rw[w0x] at d;split at d
 .exact h j A d
 .cases d
def agg(cs:List VP):VP:=⟨λro w v=>∃vs:Array Value,v = .agg vs/\zr ro w cs vs.toList,λh1 h2 ⟨vs,e,h⟩=>⟨vs,e,h.wk h1 h2⟩⟩
def ro{α:Type}(e:α->List VP)(sz:Nat)(l:List α):VP:=
 ⟨λr w v=>((∃a cap,v = .slice a 0 cap)/\l = [])\/∃b o cap,v = .slice (some ⟨b,o,none⟩) l.length (l.length+cap)/\∀(i:Nat)(x:α),l[i]? = some x->r b/\z5p w r b (o+i*sz) (e x),
  λh1 h2 h=>by
  rcases h with h|⟨b,o,cap,hv,h⟩
  .exact .inl h
  .exact .inr ⟨b,o,cap,hv,λi x hi=>⟨h1 _ (h i x hi).1,(h i x hi).2.wk h1 h2 (h2 _ (h i x hi).1)⟩⟩⟩
def rop(cs:List VP):VP:=⟨λr w v=>∃b o,v = .pointer (some ⟨b,o,none⟩)/\r b/\z5p w r b o cs,λh1 h2 ⟨b,o,hv,hr,h⟩=>⟨b,o,hv,h1 _ hr,h.wk h1 h2 (h2 _ hr)⟩⟩
def rowp(sv:Value)(off:Nat):VP:=⟨λ_ _ v=>∃g n cap,sv = .slice (some ⟨g,0,none⟩) n cap/\v = .pointer (some ⟨g,off,none⟩),λ_ _ h=>h⟩
def box(b:Nat)(T:TypeId)(cs:List VP):HP:=
 ⟨λS r w=>S b/\∃cur:Array Value,w.heap[b]? = some (.cells cur T (0,0))/\zr r w cs cur.toList,
  λh1 h2 h3 ⟨hS,cur,hc,h⟩=>⟨hS,cur,(h3 _ hS).trans hc,h.wk h1 h2⟩⟩
def row{α:Type}(E:TypeId)(e:α->List VP)(sz:Nat)(l:List α)(sv:Value):HP:=
 ⟨λS r w=>(sv = .slice none 0 0/\l = [])\/∃g cap,∃cur:Array Value,sv = .slice (some ⟨g,0,none⟩) l.length cap/\S g/\w.heap[g]? = some (.cells cur E (0,0))/\
   l.length<=cap/\cap<=maxLen/\cur.size=cap*sz/\zr r w (l.flatMap e) (cur.toList.take (l.length*sz)),
  λh1 h2 h3 h=>by
  rcases h with h|⟨g,cap,cur,hv,hS,hc,hl,hm,hs,h⟩
  .exact .inl h
  .exact .inr ⟨g,cap,cur,hv,hS,(h3 _ hS).trans hc,hl,hm,hs,h.wk h1 h2⟩⟩
def emp:HP:=⟨λ_ _ _=>True,λ_ _ _ h=>h⟩
def z5n(P:Program)(t:TypeId):Option (Bool×Nat):=match P.underlying t,P.info? t with
 |some d,some i=>some (match d with | .struct _ | .array _ _=>true|_=>false,i.size)
 |_,_=>none
def foff(P:Program)(t:TypeId)(f:Nat):Option Nat:=match P.underlying t with
 |some (.struct fs)=>(fs[f]?).bind λx=>(P.info? x.type).bind λi=>if i.size=0 then none else some x.offset
 |_=>none
def tidx(P:Program)(t:TypeId):Option (Bool×Nat×Nat):=match P.underlying t with
 |some (.array n e)=>(P.info? e).map λi=>(true,n,i.size)
 |some (.slice e)=>(P.info? e).map λi=>(false,0,i.size)
 |_=>none
section runs
variable{P:Program}{t:TypeId}{n:Nat}(w:World)
theorem zij{b:Bool}(h:z5n P t=some (b,n)):∃d i,P.underlying t=some d/\P.info? t=some i/\i.size=n/\(match d with | .struct _ | .array _ _=>true|_=>false)=b:=by
 unfold z5n at h;split at h
 .rename_i d i f g;simp only[w01,w0k] at h;exact⟨d,i,f,g,h.2,h.1⟩
 .cases h
theorem zkm{b:Bool}(h:z5n P t=some (b,n)):(isAgg t).run P w = .ok b w:=by obtain⟨d,i,f,j,u,g⟩:=zij h;simp only[isAgg,w08,run_underlying f,w06];cases d<;>simp_all
theorem z8i{b:Bool}(h:z5n P t=some (b,n)):(Go.sizeOf t).run P w = .ok n w:=by obtain⟨d,i,u,f,g,j⟩:=zij h;simp[Go.sizeOf,typeInfo,f,g]
theorem zz5{b o:Nat}{u:Value}(h:z5n P t=some (false,n))(d:w.cell? ⟨b,o,none⟩=some u):
  (Instr.loadAt t (.pointer (some ⟨b,o,none⟩))).run P w = .ok u w:=by
 simp[Instr.loadAt,Instr.sureAddr,loadVar,zkm w h,d]
theorem zz6{b o:Nat}{vs:List Value}(h:z5n P t=some (true,vs.length))(d:∀j u,vs[j]? = some u->w.cell? ⟨b,o+j,none⟩=some u):
  (Instr.loadAt t (.pointer (some ⟨b,o,none⟩))).run P w = .ok (.agg vs.toArray) w:=by
 have:=run_loadCells_list (P:=P) w ⟨b,o,none⟩ vs (λj v f=>by rw[Addr.add_lit];exact d j v f);simp[Instr.loadAt,Instr.sureAddr,loadVar,zkm w h,z8i w h,this]
theorem y61{f off:Nat}(h:foff P t f=some off):∃fs x i,P.underlying t=some (.struct fs)/\fs[f]? = some x/\P.info? x.type=some i/\i.size≠0/\x.offset=off:=by
 unfold foff at h;split at h
 .rename_i fs d;cases hx:fs[f]? with
  |none=>rw[hx] at h;simp at h
  |some x=>
   rw[hx] at h;simp only[w00] at h;cases g:P.info? x.type with
   |none=>rw[g] at h;simp at h
   |some i=>
    rw[g] at h;simp only[w00] at h;split at h
    .cases h
    .exact⟨fs,x,i,d,hx,g,by assumption,by simpa using h⟩
 .cases h
theorem zf7{f off b o:Nat}(h:foff P t f=some off):(Instr.fieldAt t (.pointer (some ⟨b,o,none⟩)) f).run P w = .ok (.pointer (some ⟨b,o+off,none⟩)) w:=by obtain⟨fs,x,i,d,hx,j,g,u⟩:=y61 h;simp[Instr.fieldAt,run_underlying d,hx,Instr.sureAddr,fieldPlace,Go.sizeOf,typeInfo,j,g,Addr.add_lit,u]
theorem yfm{len f:Nat}(h:tidx P t=some (true,len,f)):∃e i,P.underlying t=some (.array len e)/\P.info? e=some i/\i.size=f:=by
 unfold tidx at h;split at h
 .rename_i n e g;cases d:P.info? e with
  |none=>rw[d] at h;simp at h
  |some i=>rw[d] at h;simp at h;obtain⟨rfl,rfl⟩:=h;exact⟨e,i,g,d,rfl⟩
 .rename_i e g;cases d:P.info? e with
  |none=>rw[d] at h;simp at h
  |some i=>rw[d] at h;simp at h
 .cases h
theorem yk2{len f:Nat}(h:tidx P t=some (false,len,f)):∃e i,P.underlying t=some (.slice e)/\P.info? e=some i/\i.size=f:=by
 unfold tidx at h;split at h
 .rename_i n e g;cases d:P.info? e with
  |none=>rw[d] at h;simp at h
  |some i=>rw[d] at h;simp at h
 .rename_i e g;cases d:P.info? e with
  |none=>rw[d] at h;simp at h
  |some i=>rw[d] at h;simp at h;obtain⟨rfl,rfl⟩:=h;exact⟨e,i,g,d,rfl⟩
 .cases h
theorem zmv{len d b o:Nat}{k:IntKind}{m:Int}(h:tidx P t=some (true,len,d))(f:0<=m)(g:m<len):
  (Instr.indexAt t (.pointer (some ⟨b,o,none⟩)) (.int k m)).run P w = .ok (.pointer (some ⟨b,o+m.toNat*d,none⟩)) w:=by
 obtain⟨e,i,z,j,u⟩:=yfm h;simp[Instr.indexAt,asIntOf,run_underlying z,Instr.sureAddr,f,g,Go.sizeOf,typeInfo,j,u,Addr.add_lit]
theorem zf8{d b o n f:Nat}{k:IntKind}{m:Int}(h:tidx P t=some (false,0,d))(g:0<=m)(j:m<n):
  (Instr.indexAt t (.slice (some ⟨b,o,none⟩) n f) (.int k m)).run P w = .ok (.pointer (some ⟨b,o+m.toNat*d,none⟩)) w:=by
 obtain⟨e,i,hu,u,z⟩:=yk2 h;simp[Instr.indexAt,asIntOf,run_underlying hu,g,j,Go.sizeOf,typeInfo,u,z,Addr.add_lit]
end runs
def Pt[Dr]{P:Program}(C:Cx P)(s:St)(x:Operand)(cs:List VP):Prop:=∀a r S w,WInv C.w0 C.base s.objs r S w->zj s.slots a r w->∃b o,a.eval x = .pointer (some ⟨b,o,none⟩)/\z5p w r b o cs
theorem zr.rd{w:World}{r:Nat->Prop}{cs:List VP}{d:Array Value}{b:Nat}{T:TypeId}(g:w.heap[b]? = some (.cells d T (0,0)))(h:zr r w cs d.toList):z5p w r b 0 cs:=λj A z=>by obtain⟨u,hu,f,ho⟩:=h.2 j A z;refine⟨u,?_,f,ho⟩;rw[w1j,cell_of_row w b j d T (0,0) g];simpa using hu
section pt
variable{P:Program}{C:Cx P}{s:St}{x:Operand}
theorem Pt.rop[Dr]{cs:List VP}(h:Ev s x (rop cs)):Pt C s x cs:=λa r S w j f=>by obtain⟨b,o,g,_,d⟩:=h a r w f;exact⟨b,o,g,d⟩
theorem Pt.box[Dr](i:Nat){b off:Nat}{T:TypeId}{d cs:List VP}(h:Ev s x (eqv (.pointer (some ⟨b,off,none⟩))))(j:s.objs[i]? = some (box b T d))(g:d.drop off=cs):Pt C s x cs:=λa r S w z u=>by refine⟨b,off,h a r w u,?_⟩;obtain⟨hS,cur,f,hh⟩:=z.obj i _ j;have:=(hh.rd f).drop off;rw[w1j,g] at this;exact this
end pt
theorem z4t{α:Type}{e:α->List VP}{sz:Nat}(f:∀x,(e x).length=sz):∀(l:List α)(k:Nat)(x:α),l[k]? = some x->∀(j:Nat)(A:VP),(e x)[j]? = some A->(l.flatMap e)[k*sz+j]? = some A
 | [],k,x,h,_,_,_=>by simp at h
 |y::l,0,x,h,j,A,d=>by simp at h;subst h;rw[w0u,Nat.zero_mul,w1j,w0r (w04.1 d).1];exact d
 |y::l,k+1,x,h,j,A,d=>by
  simp at h;have u:=z4t f l k x h j A d;have g :(k+1)*sz+j =(e y).length+(k*sz+j):=by rw[f,w1s];omega
  rw[w0u,g,w18 (Nat.le_add_right _ _),w3t];exact u
theorem z6e{α:Type}{e:α->List VP}{sz:Nat}(d:∀x,(e x).length=sz):∀(l:List α),(l.flatMap e).length=l.length*sz
 | []=>by simp
 |y::l=>by simp[z6e d l,d,w1s,w5h]
theorem Pt.row[Dr]{P:Program}(C:Cx P){s:St}{x:Operand}{α:Type}(i:Nat){E:TypeId}{e:α->List VP}{sz:Nat}{l:List α}{sv:Value}{off k fo:Nat}{y:α}{cs:List VP}(he:∀x,(e x).length=sz)
  (h:Ev s x (rowp sv off)) (ho:s.objs[i]? = some (row E e sz l sv)) (z:off=k*sz+fo) (hy:l[k]? = some y) (hc :(e y).drop fo=cs):Pt C s x cs:=λa r S w hw hs=>by
 obtain⟨g,n,a2,hv,hx⟩:=h a r w hs;refine⟨g,off,hx,?_⟩;rcases hw.obj i _ ho with⟨hn,_⟩|⟨g',a1,cur,d,hS,f,hl,hm,a3,hh⟩
 .rw[hv] at hn;cases hn
 .rw[hv] at d;simp only[Value.slice.injEq,w01,Addr.mk.injEq] at d;obtain⟨⟨rfl,_⟩,_,_⟩:=d;intro j A hj;rw[<- hc,w20] at hj;have a0:=z4t he l k y hy (fo+j) A hj;obtain⟨u,hu,hA,h1⟩:=hh.2 _ _ a0;refine⟨u,?_,hA,h1⟩;rw[w0x] at hu;split at hu
  .rw[cell_of_row w g _ cur E (0,0) f,z,w2v];simpa using hu
  .cases hu
section ops
variable{P:Program}{C:Cx P}{s:St}{dst:Option Tmp}{ty:TypeId}{pos:String}{after:Array Edge}{guard:Option (Nat×Bool)}
theorem yal[Dr]{t:TypeId}{x:Operand}{n:Nat}{A:VP}{cs:List VP}(j:z5n P t=some (false,n))(h:Pt C s x (A::cs)):OpQ C ⟨dst,.load t x,ty,pos,after,guard⟩ s A:=
 .valO λa r S w hw g=>by
  obtain⟨b,o,hx,f⟩:=h a r S w hw g;obtain⟨u,z,d,_⟩:=f 0 A rfl;exact⟨u,by simp[execOp,hx,zz5 w j (by simpa using z)],d⟩
theorem z5p.list{w:World}{r:Nat->Prop}{b o:Nat}{cs:List VP}(h:z5p w r b o cs):∃vs:List Value,zr r w cs vs/\∀j u,vs[j]? = some u->w.cell? ⟨b,o+j,none⟩=some u:=by
 refine⟨(List.range cs.length).map λj=>(w.cell? ⟨b,o+j,none⟩).getD undef,⟨by simp,λj A f=>?_⟩,λj u f=>?_⟩
 .obtain⟨u,hu,hA,z⟩:=h j A f;have d:=(w04.1 f).1;exact⟨u,by simp[d,hu],hA,z⟩
 .have d:j<cs.length:=by have:=(w04.1 f).1;simpa using this
  obtain⟨u',g,_⟩:=h j _ (w0c d);simp[d,g] at f;rw[g,f]
theorem yj5[Dr]{t:TypeId}{x:Operand}{cs:List VP}(u:z5n P t=some (true,cs.length))(h:Pt C s x cs):OpQ C ⟨dst,.load t x,ty,pos,after,guard⟩ s (agg cs):=
 .valO λa r S w z j=>by
  obtain⟨b,o,hx,g⟩:=h a r S w z j;obtain⟨vs,f,d⟩:=g.list;refine⟨_,by simp only[execOp,hx,w08,zz6 w (f.1 ▸ u) d];rfl,_,rfl,by simpa using f⟩
theorem Pt.take[Dr]{x:Operand}{cs:List VP}(n:Nat){d:List VP}(h:Pt C s x cs)(f:cs.take n=d):Pt C s x d:=λa r S w j g=>by obtain⟨b,o,hx,hh⟩:=h a r S w j g;exact⟨b,o,hx,f ▸ hh.take n⟩
theorem yeh[Dr]{t:TypeId}{f off b o:Nat}{x:Operand}(g:foff P t f=some off)(h:Ev s x (eqv (.pointer (some ⟨b,o,none⟩)))):
  OpQ C ⟨dst,.fieldAddr t x f,ty,pos,after,guard⟩ s (eqv (.pointer (some ⟨b,o+off,none⟩))):=
 .val λa r w j=>⟨_,by have d:=h a r w j;simp only[eqv] at d;simp[execOp,d,zf7 w g],rfl⟩
theorem yei[Dr]{t:TypeId}{f off:Nat}{x:Operand}{cs d:List VP}(j:foff P t f=some off)(h:Ev s x (rop cs))(g:cs.drop off=d):
  OpQ C ⟨dst,.fieldAddr t x f,ty,pos,after,guard⟩ s (rop d):=
 .val λa r w z=>by
  obtain⟨b,o,hx,u,hh⟩:=h a r w z;exact⟨_,by simp[execOp,hx,zf7 w j],b,o+off,rfl,u,g ▸ hh.drop off⟩
theorem yek[Dr]{α:Type}{e:α->List VP}{sz:Nat}{l:List α}{t:TypeId}{x i:Operand}{k:IntKind}{m:Int}{y:α}(ht:tidx P t=some (false,0,sz))(h:Ev s x (ro e sz l))(hi:Ev s i (iv k m))
  (z:0<=m) (j:l[m.toNat]? = some y):OpQ C ⟨dst,.indexAddr t x i,ty,pos,after,guard⟩ s (rop (e y)):=
 .val λa r w g=>by
  have f:=hi a r w g;simp only[iv,eqv] at f;have d:=(w04.1 j).1;rcases h a r w g with⟨_,rfl⟩|⟨b,o,u,hv,hh⟩
  .simp at d
  .obtain⟨hr,hc⟩:=hh _ _ j;exact⟨_,by simp only[execOp,hv,f,w08,zf8 w ht z (show m<(l.length:Int) by omega)];rfl,b,_,rfl,hr,hc⟩
def isSl(P:Program)(t:TypeId):Bool:=match P.underlying t with|some (.slice _)=>true|_=>false
theorem z9e{P:Program}(w:World){t ty:TypeId}{a:Option Addr}{n d:Nat}(h:isSl P t=true):(Builtin.len_ #[t] ty #[.slice a n d]).run P w = .ok (.int .i64 n) w:=by
 unfold isSl at h;split at h
 .rename_i e f;simp[Builtin.len_,run_underlying f,goInt]
 .cases h
theorem z7r{P:Program}{a:Act}{x:Operand}{t:TypeId}{w:World}{v:Value}(d :(Builtin.len_ #[t] ty #[a.eval x]).run P w = .ok v w):
  (execOp a.eval ⟨dst,.call { callee:=.builtin .len,args:=#[x],argTypes:=#[t] },ty,pos,after,guard⟩).run P w = .ok (.value v) w:=by
 simp[execOp,resolve,invoke,builtin,d]
theorem ylr[Dr]{α:Type}{e:α->List VP}{sz:Nat}{l:List α}{t:TypeId}{x:Operand}(f:isSl P t=true)(h:Ev s x (ro e sz l)):
  OpQ C ⟨dst,.call { callee:=.builtin .len,args:=#[x],argTypes:=#[t] },ty,pos,after,guard⟩ s (iv .i64 l.length):=
 .val λa r w j=>by
  rcases h a r w j with⟨⟨u,z,d⟩,rfl⟩|⟨b,o,g,d,hh⟩
  .exact⟨_,z7r (by rw[d];exact z9e w f),rfl⟩
  .exact⟨_,z7r (by rw[d];exact z9e w f),rfl⟩
def zjw{α:Type}(l:List α)(lo hi:Nat):List α:=(l.take hi).drop lo
theorem zlo{α:Type}{l:List α}{f d:Nat}(g:f<=d)(h:d<=l.length):(zjw l f d).length=d-f:=by simp[zjw];omega
theorem ylq[Dr]{α:Type}{E:TypeId}{e:α->List VP}{sz:Nat}{l:List α}{sv:Value}(j:Nat){t:TypeId}{x:Operand}(u:isSl P t=true)(h:Ev s x (eqv sv))(ho:s.objs[j]? = some (row E e sz l sv)):
  OpQ C ⟨dst,.call { callee:=.builtin .len,args:=#[x],argTypes:=#[t] },ty,pos,after,guard⟩ s (iv .i64 l.length):=
 .valO λa r S w hw hs=>by
  have d:=h a r w hs;simp only[eqv] at d;rcases hw.obj j _ ho with⟨f,rfl⟩|⟨g,z,cur,f,_⟩
  .exact⟨_,z7r (by rw[d,f];exact z9e w u),rfl⟩
  .exact⟨_,z7r (by rw[d,f];exact z9e w u),rfl⟩
end ops
end Px
end
section
namespace Px
open Go Go.RowKit
section winv
variable{w0 w w':World}{base:Nat}{objs:List HP}{r:Nat->Prop}{S:Nat->Nat->Prop}
theorem WInv.push[Dr](h:WInv w0 base objs r S w)(H:HP)(o:Obj)(z:H.h (λb=>b=w.heap.size) r (w.alloc o)):
  WInv w0 base (objs++[H]) r (λi b=>(i=objs.length/\b=w.heap.size)\/S i b) (w.alloc o) where
 below:=h.below.alloc h.size o
 size:=by have:=h.size;simp;omega
 obj:=by
  intro i K hi;rw[w2g] at hi;split at hi
  .rename_i a1;refine K.mono (S:=λb=>(i=objs.length/\b=w.heap.size)\/S i b) (w:=w) (λ_ h=>h) (λb hb=>Below.heap_alloc _ _ _ (h.old b hb)) ?_ ?_
   .rintro b (⟨e,_⟩|hb)
    .omega
    .exact Below.heap_alloc _ _ _ (h.own i b hb).2.2.1
   .have e :(λb=>(i=objs.length/\b=w.heap.size)\/S i b)=S i:=by
     funext b;have:¬i=objs.length:=by omega
     simp[this]
    rw[e];exact h.obj i K hi
  .rename_i a0;cases d:i-objs.length with
   |succ k=>rw[d] at hi;simp at hi
   |zero=>
    rw[d] at hi;simp at hi;subst hi;have f:i=objs.length:=by omega
    have e :(λb=>(i=objs.length/\b=w.heap.size)\/S i b)=λb=>b=w.heap.size:=by
     funext b;have:¬S i b:=λhb=>by have:=(h.own i b hb).1;omega
     exact propext ⟨λh=>h.elim (·.2) (λhb=>absurd hb this),λh=>.inl ⟨f,h⟩⟩
    rw[e];exact z
 own:=by
  rintro i b (⟨rfl,rfl⟩|hb)
  .have:=h.size
   refine⟨by simp,this,by simp,λhr=>?_⟩;have:=h.old _ hr;omega
  .obtain⟨h1,g,h3,u⟩:=h.own i b hb;exact⟨by simp;omega,g,by simp;omega,u⟩
 apart:=by
  rintro i j b (⟨rfl,rfl⟩|hi) (⟨rfl,hj⟩|hj)
  .rfl
  .have:=(h.own _ _ hj).2.2.1;omega
  .subst hj;have:=(h.own _ _ hi).2.2.1;omega
  .exact h.apart i j b hi hj
 old:=λb hb=>by have:=h.old b hb;simp;omega
theorem WInv.repl[Dr](h:WInv w0 base objs r S w)(i:Nat)(H:HP)(z:Nat->Prop)(hi:i<objs.length)(a3:w'.os=w.os)(a2:w'.tape=w.tape/\w.drawn<=w'.drawn)(a1:w'.output=w.output)(u:w.heap.size<=w'.heap.size)
  (f:∀b,b<w.heap.size->¬S i b->w'.heap[b]? = w.heap[b]?) (hn:∀b,z b->base<=b/\b<w'.heap.size/\¬r b/\∀j,j≠i->¬S j b)
  (hH:H.h z r w'):WInv w0 base (objs.set i H) r (λj b=>(j=i/\z b)\/(j≠i/\S j b)) w' where
 below:=h.below.trans ⟨⟨a3,a2.1,a1,u,λk hk=>f k (by have:=h.size;omega) (λhs=>by have:=(h.own i k hs).2.1;omega)⟩,λ_=>a2.2⟩
 size:=w1o h.size u
 obj:=by
  intro j K g;by_cases e:j=i
  .subst e;rw[w1v (by simpa using hi)] at g;simp at g;subst g;have e' :(λb=>(j=j/\z b)\/(j≠j/\S j b))=z:=by funext b;simp
   rw[e'];exact hH
  .rw[w2b (λh=>e h.symm)] at g;have e' :(λb=>(j=i/\z b)\/(j≠i/\S j b))=S j:=by funext b;simp[e]
   rw[e'];refine K.mono (w:=w) (λ_ h=>h) (λb d=>f b (h.old b d) (λhs=>(h.own i b hs).2.2.2 d)) (λb d=>f b (h.own j b d).2.2.1 (λhs=>e (h.apart j i b d hs))) (h.obj j K g)
 own:=by
  rintro j b (⟨rfl,d⟩|⟨_,d⟩)
  .obtain⟨h1,h2,h3,_⟩:=hn b d;exact⟨by simpa using hi,h1,h2,h3⟩
  .obtain⟨h1,h2,h3,h4⟩:=h.own j b d;exact⟨by simpa using h1,h2,w2t h3 u,h4⟩
 apart:=by
  rintro j k b (⟨rfl,g⟩|⟨g,d⟩) (⟨rfl,hk⟩|⟨hk,a0⟩)
  .rfl
  .exact absurd a0 ((hn b g).2.2.2 k hk)
  .exact absurd d ((hn b hk).2.2.2 j g)
  .exact h.apart j k b d a0
 old:=λb d=>w2t (h.old b d) u
theorem WInv.evo_repl[Dr](h:WInv w0 base objs r S w)(i:Nat)(d:∀b,b<w.heap.size->¬S i b->w'.heap[b]? = w.heap[b]?):Evo base r w r w':=⟨λ_ h=>h,λb f=>d b (h.old b f) (λg=>(h.own i b g).2.2.2 f),λ_ h=>.inl h⟩
theorem WInv.evo_alloc[Dr](h:WInv w0 base objs r S w)(o:Obj):Evo base r w r (w.alloc o):=⟨λ_ h=>h,λb d=>Below.heap_alloc _ _ _ (h.old b d),λ_ h=>.inl h⟩
end winv
def yfp(r:Nat->Prop)(w:World)(cs:List VP)(v:Value):Prop:=zr r w cs v.cells.toList
def Ce(s:St)(x:Operand)(cs:List VP):Prop:=∀a r w,zj s.slots a r w->yfp r w cs (a.eval x)
theorem Ce.agg{s:St}{x:Operand}{cs:List VP}(h:Ev s x (agg cs)):Ce s x cs:=λa r w d=>by obtain⟨vs,f,hh⟩:=h a r w d;simpa[yfp,f,Value.cells] using hh
def One(A:VP):Prop:=∀r w v,A.h r w v->v.oneCell'=true
theorem One.eqv{u:Value}(h:u.oneCell'=true):One (eqv u):=λ_ _ _ e=>by simp only[Px.eqv] at e;subst e;exact h
theorem One.ro{α:Type}{e:α->List VP}{sz:Nat}{l:List α}: One (ro e sz l):=λr w v h=>by rcases h with⟨⟨f,g,rfl⟩,_⟩|⟨b,o,d,rfl,_⟩<;>rfl
theorem One.rop{cs:List VP}: One (rop cs):=λr w v ⟨b,o,h,_⟩=>by subst h;rfl
theorem Ce.one{s:St}{x:Operand}{A:VP}(h:Ev s x A)(z:One A):Ce s x [A]:=λa r w hs=>by
 have g:=h a r w hs;have f:=z _ _ _ g;have u :(a.eval x).cells.toList = [a.eval x]:=by revert f;generalize a.eval x=v;cases v<;>simp[Value.oneCell',Value.cells]
 refine⟨by rw[u];rfl,λj B d=>?_⟩;cases j with
 |zero=>simp at d;subst d;exact⟨_,by rw[u];rfl,g,f⟩
 |succ j=>simp at d
section ops
variable{P:Program}{C:Cx P}{s:St}{dst:Option Tmp}{ty:TypeId}{pos:String}{after:Array Edge}{guard:Option (Nat×Bool)}{K:VP->List HP->Prop}
theorem OpT.push[Dr]{o:Oper}(H:Nat->HP)(x:Nat->VP)
  (h:∀a r S w,WInv C.w0 C.base s.objs r S w->zj s.slots a r w->∃ob v,(execOp a.eval o).run P w = .ok (.value v) (w.alloc ob)/\(x w.heap.size).h r (w.alloc ob) v/\(H w.heap.size).h (λb=>b=w.heap.size) r (w.alloc ob))
  (k:∀b,K (x b) (s.objs++[H b])):OpT C o s K:=by
 intro a w r S Q u z f j;obtain⟨ob,v,d,hx,g⟩:=h a r S w f j;unfold Oper.wp;rw[d,Oper.upon_value];exact⟨v,r,_,_,_,rfl,f.evo_alloc ob,f.push _ ob g,hx,k _⟩
def zwf(P:Program)(t:TypeId):Option (List Value):=((P.info? t).bind (·.zero)).map (·.cells.toList)
theorem zzo{P:Program}{t:TypeId}{zs:List Value}(h:zwf P t=some zs)(w:World):∃z,(zeroValue t).run P w = .ok z w/\z.cells.toList=zs:=by
 unfold zwf at h;cases d:P.info? t with
 |none=>rw[d] at h;simp at h
 |some i=>
  rw[d] at h;cases f:i.zero with
  |none=>simp[f] at h
  |some z=>simp[f] at h;exact⟨z,by simp[zeroValue,typeInfo,d,f],h⟩
theorem zbm{r:Nat->Prop}{w:World}{zs:List Value}(h:zs.all (·.oneCell')=true):zr r w (zs.map eqv) zs:=by refine⟨by simp,λj A d=>?_⟩;rw[w1r,w1w] at d;obtain⟨u,f,rfl⟩:=d;exact⟨u,f,rfl,by simpa using w0a.1 h u (w17 f)⟩
theorem zwy{r:Nat->Prop}{w:World}{T:TypeId}{cs:List VP}{d:Array Value}(h:zr r w cs d.toList)(g:∀b,r b->b<w.heap.size):
  (box w.heap.size T cs).h (λb=>b=w.heap.size) r (w.alloc (.cells d T)):=
 ⟨rfl,d,heap_alloc_new w _,h.mono (λ_ h=>h) (λb f=>Below.heap_alloc _ _ _ (g b f))⟩
theorem yae[Dr]{t:TypeId}(zs:List Value)(j:zwf P t=some zs)(d:zs.all (·.oneCell')=true)(k:∀b,K (eqv (.pointer (some ⟨b,0,none⟩))) (s.objs++[box b t (zs.map eqv)])):
  OpT C ⟨dst,.alloc t,ty,pos,after,guard⟩ s K:=
 .push (λb=>box b t (zs.map eqv)) (λb=>eqv (.pointer (some ⟨b,0,none⟩))) (λa r S w h u=>by
  obtain⟨z,g,f⟩:=zzo j w;refine⟨.cells z.cells t,_,?_,rfl,zwy (by rw[f];exact zbm d) h.old⟩;simp[execOp,Instr.alloc,g,newVar,newRow]) k
theorem ymz[Dr]{t:TypeId}{x:Operand}{cs:List VP}(g:Ce s x cs)(k:∀b,K (eqv (.pointer (some ⟨b,0,none⟩))) (s.objs++[box b t cs])):
  OpT C ⟨dst,.box t x,ty,pos,after,guard⟩ s K:=
 .push (λb=>box b t cs) (λb=>eqv (.pointer (some ⟨b,0,none⟩))) (λa r S w f d=>by
  refine⟨.cells (a.eval x).cells t,_,?_,rfl,zwy (g a r w d) f.old⟩;simp[execOp,Instr.box,newVar,newRow]) k
theorem zgj{P:Program}{t:TypeId}{g:Bool}{n:Nat}(ht:z5n P t=some (g,n)){w:World}{b o:Nat}{d:Array Value}{T:TypeId}(j:w.heap[b]? = some (.cells d T (0,0)))
  {v:Value} (f:v.cells.size=n) (z:o+n<=d.size) (h:∀u∈v.cells.toList,u.oneCell'=true) :
  (Instr.storeAt t (.pointer (some ⟨b,o,none⟩)) v).run P w = .ok () (w.setRow b (d.toList.take o++v.cells.toList++d.toList.drop (o+v.cells.toList.length)).toArray):=by
 have:=run_storeCells_at P b o T v.cells.toList 0 d w j (by simpa[f] using z) h;simp only[w3r] at this;simp[Instr.storeAt,Instr.sureAddr,storeVar,z8i w ht,f,this]
theorem zr.one{r:Nat->Prop}{w:World}{cs:List VP}{vs:List Value}(h:zr r w cs vs):∀u∈vs,u.oneCell'=true:=by intro u hu;obtain⟨j,g⟩:=w42 hu;have f:=(w04.1 g).1;obtain⟨u',d,_,z⟩:=h.2 j _ (w0c (by rw[h.1];exact f));rw[g] at d;simp at d;rw[d];exact z
theorem zr.splice{r:Nat->Prop}{w:World}{cs d:List VP}{vs us:List Value}(h:zr r w cs vs)(k:zr r w d us)(o:Nat)(ho:o+d.length<=cs.length):
  zr r w (cs.take o++d++cs.drop (o+d.length)) (vs.take o++us++vs.drop (o+us.length)):=by
 have g:=h.1;have z:=k.1;refine⟨by simp[g,z],λj A f=>?_⟩;by_cases u:j<o
 .rw[w0m,w0r (by simp;omega),w0x,if_pos u] at f;rw[w0m,w0r (by simp;omega),w0x,if_pos u];exact h.2 j A f
 .by_cases c2:j<o+d.length
  .rw[w0m,w18 (by simp;omega),w0r (by simp;omega)] at f;rw[w0m,w18 (by simp;omega),w0r (by simp;omega)];have e :(vs.take o).length =(cs.take o).length:=by simp[g]
   rw[e];exact k.2 _ A f
  .rw[w18 (by simp;omega),w20] at f;rw[w18 (by simp;omega),w20];have e:o+d.length+(j-(cs.take o++d).length)=o+us.length+(j-(vs.take o++us).length):=by simp[g,z]
   rw[<- e];exact h.2 _ A f
theorem OpT.store[Dr]{o:Oper}(a0:o.dst=none)(i:Nat)(H:HP)(hi:i<s.objs.length)
  (hr:∀a r S w,WInv C.w0 C.base s.objs r S w->zj s.slots a r w->∃b cs,S i b/\(execOp a.eval o).run P w = .ok .skip (w.setRow b cs)/\H.h (S i) r (w.setRow b cs))
  (k:K topv (s.objs.set i H)):OpT C o s K:=by
 intro a w r S Q hd hn u hs;obtain⟨b,cs,hS,h,hH⟩:=hr a r S w u hs;unfold Oper.wp;rw[h,Oper.upon_skip];have g:∀d,d<w.heap.size->¬S i d->(w.setRow b cs).heap[d]? = w.heap[d]?:=λd _ f=>setRow_other w b d cs (λe=>f (e ▸ hS))
 exact⟨undef,r,_,topv,_,rfl,u.evo_repl i g,u.repl i H (S i) hi rfl ⟨rfl,w16 _⟩ rfl (by simp) g (λd f=>by obtain⟨h1,h2,h3,h4⟩:=u.own i d f;exact⟨h2,by simpa using h3,h4,λj hj z=>hj (u.apart j i d z f)⟩) hH,trivial,k⟩
theorem zr.setRow[Dr]{w0 w:World}{d:Nat}{g:List HP}{r:Nat->Prop}{S:Nat->Nat->Prop}(hw:WInv w0 d g r S w){i b:Nat}(z:S i b)(f:Array Value){cs:List VP}{vs:List Value}(h:zr r w cs vs):
  zr r (w.setRow b f) cs vs:=
 h.mono (λ_ h=>h) (λu j=>setRow_other w b u f (λe=>(hw.own i b z).2.2.2 (e ▸ j)))
theorem yj7[Dr](i:Nat){t T:TypeId}{g:Bool}{n b off:Nat}{x y:Operand}{d cs out:List VP}(ht:z5n P t=some (g,n))(hx:Ev s x (eqv (.pointer (some ⟨b,off,none⟩))))(hy:Ce s y cs)(ho:s.objs[i]? = some (box b T d))
  (hl:cs.length=n) (hb:off+n<=d.length) (j:d.take off++cs++d.drop (off+n)=out)
  (k:K topv (s.objs.set i (box b T out))):OpT C ⟨none,.store t x y,ty,pos,after,guard⟩ s K:=
 .store rfl i (box b T out) (w04.1 ho).1 (λa r S w hw hs=>by
  have u:=hx a r w hs;simp only[eqv] at u;have h:=hy a r w hs;obtain⟨z,cur,f,hh⟩:=hw.obj i _ ho;have a1 :(a.eval y).cells.size=n:=by have:=h.1;simp at this;omega
  have a0:off+n<=cur.size:=by have:=hh.1;simp at this;omega
  refine⟨b,(cur.toList.take off++(a.eval y).cells.toList++cur.toList.drop (off+(a.eval y).cells.toList.length)).toArray,z,?_,z,_,setRow_heap w b cur _ T (0,0) f,?_⟩
  .simp only[execOp,u,w08,zgj ht f a1 a0 h.one];rfl
  .subst hl;have:=zr.splice hh h off hb;rw[j] at this;have:=zr.setRow hw z (cur.toList.take off++(a.eval y).cells.toList++cur.toList.drop (off+(a.eval y).cells.toList.length)).toArray this;simpa using this) k
theorem zi7{α:Type}{e:α->List VP}{sz:Nat}(d:∀x,(e x).length=sz):∀(l:List α)(k:Nat)(x y:α)(fo:Nat)(cs:List VP),l[k]? = some x->fo+cs.length<=sz->
  e y =(e x).take fo++cs++(e x).drop (fo+cs.length)->(l.set k y).flatMap e =(l.flatMap e).take (k*sz+fo)++cs++(l.flatMap e).drop (k*sz+fo+cs.length)
 | [],k,x,y,fo,cs,h,_,_=>by simp at h
 |z::l,0,x,y,fo,cs,h,f,hy=>by simp at h;subst h;have g:=d z;simp only[List.set_cons_zero,w0u,Nat.zero_mul,w1j,hy];rw[w2k (by omega),w2s (by omega)];simp
 |z::l,k+1,x,y,fo,cs,h,f,hy=>by
  simp at h;have u:=zi7 d l k x y fo cs h f hy;have g:=d z;have j :(k+1)*sz+fo =(e z).length+(k*sz+fo):=by rw[g,w1s];omega
  simp only[w3v,w0u,u,j,w40,w0m,w2v,w3e]
theorem y4q[Dr]{α:Type}(i:Nat){t E:TypeId}{g:Bool}{n off k fo:Nat}{e:α->List VP}{sz:Nat}{l:List α}{sv:Value}{z z':α}{x y:Operand}{cs:List VP}(he:∀x,(e x).length=sz)(ht:z5n P t=some (g,n))
  (hx:Ev s x (rowp sv off)) (hy:Ce s y cs) (ho:s.objs[i]? = some (row E e sz l sv)) (hl:cs.length=n) (h:off=k*sz+fo) (hz:l[k]? = some z) (hf:fo+n<=sz)
  (a7:e z' =(e z).take fo++cs++(e z).drop (fo+n)) (kk:K topv (s.objs.set i (row E e sz (l.set k z') sv))):OpT C ⟨none,.store t x y,ty,pos,after,guard⟩ s K:=
 .store rfl i _ (w04.1 ho).1 (λa r S w hw hs=>by
  obtain⟨g',n',d,j,a6⟩:=hx a r w hs;have a0:=hy a r w hs;rcases hw.obj i _ ho with⟨hn,_⟩|⟨g2,a9,cur,u,hS,f,a1,hm,ab,hh⟩
  .rw[j] at hn;cases hn
  .rw[j] at u;simp only[Value.slice.injEq,w01,Addr.mk.injEq] at u;obtain⟨⟨rfl,_⟩,rfl,rfl⟩:=u;have a2 :(a.eval y).cells.size=n:=by have:=a0.1;simp at this;omega
   have hk:=(w04.1 hz).1;have a5 :(k+1)*sz<=l.length*sz:=w1p _ hk;have a8:l.length*sz<=d*sz:=w1p _ a1;rw[w1s] at a5;have a3:off+n<=cur.size:=by omega
   refine⟨g',(cur.toList.take off++(a.eval y).cells.toList++cur.toList.drop (off+(a.eval y).cells.toList.length)).toArray,hS,?_,?_⟩
   .simp only[execOp,a6,w08,zgj ht f a2 a3 a0.one];rfl
   .refine .inr ⟨g',d,_,?_,hS,setRow_heap w g' cur _ E (0,0) f,by simpa using a1,hm,?_,?_⟩
    .simpa using j
    .simp;omega
    .have a4:=z6e he l;subst hl;have:=zr.splice hh a0 off (by rw[a4];omega);rw[h,<- zi7 he l k z z' fo cs hz hf a7] at this;have:=zr.setRow hw hS (cur.toList.take off++(a.eval y).cells.toList++cur.toList.drop (off+(a.eval y).cells.toList.length)).toArray this;have e1 :(a.eval y).cells.toList.length=cs.length:=by simpa using a2
     have aa:cur.toList.length=cur.size:=by simp
     refine cast ?_ this;congr 1;rw[e1,h,w39,w2o,w43,w43];have l1 :(List.take (k*sz+fo) cur.toList).length=k*sz+fo:=by rw[w1e];omega
     rw[w0h,l1,e1];rw[w2q (l:=List.take (k*sz+fo) cur.toList) (by rw[l1];omega),w2q (l:=(a.eval y).cells.toList) (by rw[e1];omega)];rw[List.take_take,Nat.min_eq_left (by omega),List.drop_take]) kk
end ops
end Px
end
section
namespace Px
open Go Go.RowKit
def tsl(P:Program)(t:TypeId):Option (TypeId×Nat×Nat):=match P.underlying t with
 |some (.slice e)=>(P.info? e).bind λi=>i.zero.bind λz=>if z.cells.size=i.size/\0<i.size then some (e,i.size,i.bytes) else none
 |_=>none
theorem zks{P:Program}{t E:TypeId}{sz d:Nat}(h:tsl P t=some (E,sz,d)):
  ∃i z,P.underlying t=some (.slice E)/\P.info? E=some i/\i.zero=some z/\i.size=sz/\i.bytes=d/\z.cells.size=sz/\0<sz:=by
 unfold tsl at h;split at h
 .rename_i e u;cases f:P.info? e with
  |none=>rw[f] at h;simp at h
  |some i=>
   rw[f] at h;simp only[w00] at h;cases g:i.zero with
   |none=>rw[g] at h;simp at h
   |some z=>
    rw[g] at h;simp only[w00] at h;split at h
    .rename_i j;simp only[w01,w0k] at h;obtain⟨rfl,rfl,rfl⟩:=h;exact⟨i,z,u,f,g,rfl,rfl,j.1,j.2⟩
    .cases h
 .cases h
def Src[Dr]{P:Program}(C:Cx P)(s:St)(x:Operand)(m:Nat)(cs:List VP):Prop:=
 ∀a r S w,WInv C.w0 C.base s.objs r S w->zj s.slots a r w->
  ((∃a' c',a.eval x = .slice a' 0 c')/\m=0/\cs = [])\/∃b o c vs,a.eval x = .slice (some ⟨b,o,none⟩) m c/\zr r w cs vs/\∀j u,vs[j]? = some u->w.cell? ⟨b,o+j,none⟩=some u
theorem zl8{α:Type}{e:α->List VP}{sz:Nat}(f:∀x,(e x).length=sz)(d:0<sz):∀(l:List α)(j:Nat)(A:VP),(l.flatMap e)[j]? = some A->
  ∃x,l[j / sz]? = some x/\(e x)[j % sz]? = some A
 | [],j,A,h=>by simp at h
 |y::l,j,A,h=>by
  by_cases g:j<sz
  .rw[w0u,w0r (by rw[f];exact g)] at h;exact⟨y,by rw[w5i g];rfl,by rw[w2u g];exact h⟩
  .rw[w0u,w18 (by rw[f];omega),f] at h;obtain⟨x,hx,hA⟩:=zl8 f d l _ A h;have u:j / sz =(j-sz) / sz+1:=by rw[Nat.div_eq_sub_div d (by omega)]
   have z:j % sz =(j-sz) % sz:=by rw[Nat.mod_eq_sub_mod (by omega)]
   exact⟨x,by rw[u];simpa using hx,by rw[z];exact hA⟩
theorem Src.ro[Dr]{P:Program}{C:Cx P}{s:St}{x:Operand}{α:Type}{e:α->List VP}{sz:Nat}{l:List α}(he:∀x,(e x).length=sz)(z:0<sz)(h:Ev s x (ro e sz l)):Src C s x l.length (l.flatMap e):=λa r S w hw hs=>by
 rcases h a r w hs with⟨hv,rfl⟩|⟨b,o,d,hv,hh⟩
 .exact .inl ⟨hv,rfl,rfl⟩
 .have g:z5p w r b o (l.flatMap e):=by intro j A hj;obtain⟨y,hy,hA⟩:=zl8 he z l j A hj;obtain⟨u,hu,f,h1⟩:=(hh _ _ hy).2 _ A hA;refine⟨u,?_,f,h1⟩;rw[<- hu];congr 2;have:=w4r j sz;rw[w4s] at this;omega
  obtain⟨vs,a0,hc⟩:=g.list;exact .inr ⟨b,o,l.length+d,vs,hv,a0,hc⟩
theorem Src.row[Dr]{P:Program}{C:Cx P}{s:St}{x:Operand}{α:Type}(i:Nat){E:TypeId}{e:α->List VP}{sz:Nat}{l:List α}{sv:Value}(h:Ev s x (eqv sv))(ho:s.objs[i]? = some (row E e sz l sv)):Src C s x l.length (l.flatMap e):=λa r S w hw hs=>by
 have hx:=h a r w hs;simp only[eqv] at hx;rcases hw.obj i _ ho with⟨hn,rfl⟩|⟨g,z,cur,hv,hS,d,hl,hm,a0,hh⟩
 .exact .inl ⟨⟨none,0,by rw[hx,hn]⟩,rfl,rfl⟩
 .refine .inr ⟨g,0,z,_,by rw[hx,hv],hh,λj u f=>?_⟩;rw[w1j,cell_of_row w g j cur E (0,0) d];rw[w0x] at f;split at f
  .simpa using f
  .cases f
theorem Src.nil[Dr]{P:Program}{C:Cx P}{s:St}{x:Operand}{f:Option Addr}{d:Nat}(h:Ev s x (eqv (.slice f 0 d))):Src C s x 0 []:=λa r S w j g=>.inl ⟨⟨f,d,h a r w g⟩,rfl,rfl⟩
theorem zr.append{r:Nat->Prop}{w:World}{cs f:List VP}{vs us:List Value}(h:zr r w cs vs)(k:zr r w f us):zr r w (cs++f) (vs++us):=by
 refine⟨by simp[h.1,k.1],λj A d=>?_⟩;by_cases c:j<cs.length
 .rw[w0r c] at d;rw[w0r (h.1 ▸ c)];exact h.2 j A d
 .rw[w18 (by omega)] at d;rw[w18 (by rw[<- h.1];omega),<- h.1];exact k.2 _ A d
theorem y0r{P:Program}{a:Act}{x y:Operand}{t:TypeId}{w w':World}{v:Value}{dst:Option Tmp}{ty:TypeId}{pos:String}{after:Array Edge}{guard:Option (Nat×Bool)}
  (d :(Builtin.append_ #[t,t] ty #[a.eval x,a.eval y]).run P w = .ok v w') :
  (execOp a.eval ⟨dst,.call { callee:=.builtin .append,args:=#[x,y],argTypes:=#[t,t] },ty,pos,after,guard⟩).run P w = .ok (.value v) w':=by
 simp[execOp,resolve,invoke,builtin,d]
theorem yjm{P:Program}{w:World}{r:Nat->Prop}{Si:Nat->Prop}{α:Type}{E t ty:TypeId}{e:α->List VP}{sz ac:Nat}{l m:List α}{sv xv:Value}(ht:tsl P t=some (E,sz,ac))
  (he:∀x,(e x).length=sz) (a6 :(row E e sz l sv).h Si r w) (ae:∀b,r b->b<w.heap.size/\¬Si b) (ad :(l.length+m.length)*ac<=140737488355328) (a3:l.length+m.length<=maxLen)
  (af :((∃a' c',xv = .slice a' 0 c')/\m.length=0/\m.flatMap e = [])\/∃b o c vs,xv = .slice (some ⟨b,o,none⟩) m.length c/\zr r w (m.flatMap e) vs/\∀j u,vs[j]? = some u->w.cell? ⟨b,o+j,none⟩=some u) :
  ∃v' w' Sn,(Builtin.append_ #[t,t] ty #[sv,xv]).run P w = .ok v' w'/\w'.os=w.os/\(w'.tape=w.tape/\w.drawn<=w'.drawn)/\w'.output=w.output/\w.heap.size<=w'.heap.size/\
   (∀b,b<w.heap.size->¬Si b->w'.heap[b]? = w.heap[b]?)/\(∀b,Sn b->Si b\/(b=w.heap.size/\b<w'.heap.size))/\(row E e sz (l++m) v').h Sn r w':=by
 obtain⟨i,z,hu,hi,hz,rfl,rfl,ao,ap⟩:=zks ht;have hsmall:l.length+m.length<=9223372036854775807:=by simpa[maxLen] using a3
 have aq:=z6e he l;have ai:=z6e he m;have idle:m.length=0->(row E e i.size (l++m) sv).h Si r w:=λh0=>by have:m = []:=w14 h0;subst this;simpa using a6
 rcases af with⟨⟨a',c',rfl⟩,am,_⟩|⟨b,o,c,vs,rfl,a8,a9⟩
 .refine⟨sv,w,Si,?_,rfl,⟨rfl,w16 _⟩,rfl,w16 _,λ_ _ _=>rfl,λb h=>.inl h,idle am⟩;rcases a6 with⟨rfl,rfl⟩|⟨g,d,cur,rfl,hS,a2,hl,hm,ag,hh⟩
  .cases a'<;>simp[Builtin.append_,run_underlying hu,Go.sizeOf,typeInfo,hi,Builtin.lenOf,Builtin.firstCells,loadCells,loadCellsFrom]
  .cases a'<;>simp[Builtin.append_,run_underlying hu,Go.sizeOf,typeInfo,hi,Builtin.lenOf,Builtin.firstCells,hl,storeCells,loadCells,loadCellsFrom]
 .have a7:vs.length=m.length*i.size:=by rw[<- a8.1,ai]
  have f:∀j u,vs[j]? = some u->w.cell? ((⟨b,o,none⟩:Addr).add j)=some u:=λj u hj=>by rw[Addr.add_lit];exact a9 j u hj
  have fresh:∀(us:List Value)(d:Nat),zr r w ((l++m).flatMap e) us->l.length+m.length<=d->d<=maxLen->
    (row E e i.size (l++m) (.slice (some ⟨w.heap.size,0,none⟩) (l.length+m.length) d)).h (λk=>k=w.heap.size) r (w.drew.alloc (.cells (us.toArray++Builtin.zeroCells z.cells (d-(l.length+m.length))) E)):=by
   intro us d a0 a5 a4;have ah:us.length =(l.length+m.length)*i.size:=by rw[<- a0.1,z6e he,w0h]
   refine .inr ⟨w.heap.size,d,_,by simp,rfl,heap_alloc_new w.drew _,by simpa using a5,a4,?_,?_⟩
   .simp only[Array.size_append,List.size_toArray,size_zeroCells,ao,ah,<- w1s];congr 1;omega
   .rw[w0h,<- ah];have e1 :(us.toArray++Builtin.zeroCells z.cells (d-(l.length+m.length))).toList.take us.length=us:=by simp
    rw[e1];exact zr.mono (w:=w) (λ_ h=>h) (λb hb=>Below.heap_alloc w.drew _ b (ae b hb).1) a0
  rcases a6 with⟨rfl,rfl⟩|⟨g,d,cur,rfl,hS,a2,hl,hm,ag,hh⟩
  .by_cases h0:m.length=0
   .refine⟨.slice none 0 0,w,Si,?_,rfl,⟨rfl,w16 _⟩,rfl,w16 _,λ_ _ _=>rfl,λb h=>.inl h,?_⟩
    .simp[Builtin.append_,run_underlying hu,Go.sizeOf,typeInfo,hi,Builtin.lenOf,Builtin.firstCells,h0,loadCells,loadCellsFrom]
    .have:m = []:=w14 h0;subst this;exact .inl ⟨rfl,rfl⟩
   .simp only[w2h,w1j] at ad a3 hsmall fresh;have hr:=run_append_nil (P:=P) w t ty E i z hu hi hz ⟨b,o,none⟩ m.length c vs a7 f (by omega) (by omega) (by omega);have a5:=grownCap_ge w m.length 0 E;have a4:=grownCap_le_maxLen w m.length 0 E a3;refine⟨_,_,λk=>k=w.heap.size,hr,rfl,⟨rfl,w54 _⟩,rfl,by simp,λk hk _=>Below.heap_alloc w.drew _ k hk,λk hk=>.inr ⟨hk,by subst hk;simp⟩,?_⟩;exact fresh vs _ (by simpa using a8) a5 a4
  .by_cases a1:l.length+m.length<=d
   .have aa :(l.length+m.length)*i.size<=d*i.size:=w1p _ a1;have hr:=run_append_room (P:=P) w t ty E i hu hi g l.length d cur a2 ⟨b,o,none⟩ m.length c vs a7 f a8.one a1 (by rw[a7,ag,<- w1s];exact aa);refine⟨_,_,Si,hr,rfl,⟨rfl,w16 _⟩,rfl,by simp,λk hk aj=>setRow_other w g k _ (λe=>aj (e ▸ hS)),λk hk=>.inl hk,?_⟩;rw[w1s] at aa;refine .inr ⟨g,d,_,by simp,hS,setRow_heap w g cur _ E _ a2,by simpa using a1,hm,?_,?_⟩
    .simp;omega
    .rw[w0h];have a0:=zr.append hh a8;rw[<- w2d] at a0;have ak :(cur.toList.take (l.length*i.size)).length=l.length*i.size:=by rw[w1e];simp;omega
     have e1 :(cur.toList.take (l.length*i.size)++vs++cur.toList.drop (l.length*i.size+vs.length)).toArray.toList.take ((l.length+m.length)*i.size)=cur.toList.take (l.length*i.size)++vs:=by rw[w39];apply List.take_left';rw[w0h,ak,a7,w1s]
     rw[e1];exact a0.mono (λ_ h=>h) (λk hk=>setRow_other w g k _ (λe=>(ae k hk).2 (e ▸ hS)))
   .have ab:∀j u,(cur.toList.take (l.length*i.size))[j]? = some u->w.cell? ((⟨g,0,none⟩:Addr).add j)=some u:=λj u hj=>by
     rw[Addr.add_lit,w1j,cell_of_row w g j cur E (0,0) a2];rw[w0x] at hj;split at hj
     .simpa using hj
     .cases hj
    have aa:l.length*i.size<=d*i.size:=w1p _ hl;have hr:=run_append_grow (P:=P) w t ty E i z hu hi hz ⟨g,0,none⟩ l.length d (cur.toList.take (l.length*i.size)) (by rw[w1e];simp;omega) ab ⟨b,o,none⟩ m.length c vs a7 f (by omega) (by omega) (growslice_fits (by omega) ad);have a5:=grownCap_ge w (l.length+m.length) d E;have a4:=grownCap_le_maxLen w (l.length+m.length) d E a3;refine⟨_,_,λk=>k=w.heap.size,hr,rfl,⟨rfl,w54 _⟩,rfl,by simp,λk hk _=>Below.heap_alloc w.drew _ k hk,λk hk=>.inr ⟨hk,by subst hk;simp⟩,?_⟩;have a0:=zr.append hh a8;rw[<- w2d] at a0;have:=fresh _ _ a0 a5 a4;simpa using this
section ops
variable{P:Program}{C:Cx P}{s:St}{dst:Option Tmp}{ty:TypeId}{pos:String}{after:Array Edge}{guard:Option (Nat×Bool)}{K:VP->List HP->Prop}
theorem yec[Dr]{α:Type}(i:Nat){t E:TypeId}{e:α->List VP}{sz g:Nat}{l m:List α}{sv:Value}{x y:Operand}(ht:tsl P t=some (E,sz,g))(he:∀x,(e x).length=sz)
  (hx:Ev s x (eqv sv)) (ho:s.objs[i]? = some (row E e sz l sv)) (hy:Src C s y m.length (m.flatMap e)) (a1 :(l.length+m.length)*g<=140737488355328) (h:l.length+m.length<=maxLen)
  (k:∀z,K (eqv z) (s.objs.set i (row E e sz (l++m) z))):OpT C ⟨dst,.call { callee:=.builtin .append,args:=#[x,y],argTypes:=#[t,t] },ty,pos,after,guard⟩ s K:=by
 intro a w r S Q hd hn d hs;have u:=hx a r w hs;simp only[eqv] at u;have hi:=(w04.1 ho).1;obtain⟨z,w',Sn,hr,h1,h2,h3,h4,h5,h6,h7⟩:=yjm (w:=w) (r:=r) (Si:=S i) (ty:=ty) ht he (d.obj i _ ho) (λb hb=>⟨d.old b hb,λhS=>(d.own i b hS).2.2.2 hb⟩) a1 h (hy a r S w d hs);unfold Oper.wp;rw[y0r (u ▸ hr),Oper.upon_value];refine⟨z,r,_,_,_,rfl,d.evo_repl i h5,d.repl i _ Sn hi h1 h2 h3 h4 h5 (λb hb=>?_) h7,rfl,k z⟩;rcases h6 b hb with hS|⟨rfl,a2⟩
 .obtain⟨q1,q2,q3,q4⟩:=d.own i b hS;exact⟨q2,w2t q3 h4,q4,λj hj f=>hj (d.apart j i b f hS)⟩
 .exact⟨d.size,a2,λa0=>Nat.lt_irrefl _ (d.old _ a0),λj hj f=>Nat.lt_irrefl _ (d.own j _ f).2.2.1⟩
theorem WInv.addNil[Dr]{w0 w:World}{f:Nat}{d:List HP}{r:Nat->Prop}{S:Nat->Nat->Prop}(h:WInv w0 f d r S w)(H:HP)(hH:H.h (λ_=>False) r w):WInv w0 f (d++[H]) r S w where
 below:=h.below
 size:=h.size
 obj:=by
  intro i K g;rw[w2g] at g;split at g
  .exact h.obj i K g
  .rename_i u;cases z:i-d.length with
   |succ k=>rw[z] at g;simp at g
   |zero=>
    rw[z] at g;simp at g;subst g;have:S i=λ_=>False:=by funext b;exact propext ⟨λj=>absurd (h.own i b j).1 u,λhf=>hf.elim⟩
    rw[this];exact hH
 own:=λi b j=>by obtain⟨h1,h2,h3,h4⟩:=h.own i b j;exact⟨by simp;omega,h2,h3,h4⟩
 apart:=h.apart
 old:=h.old
theorem ygg[Dr]{α:Type}{t E:TypeId}{e:α->List VP}{sz a1:Nat}{x y:Operand}{k1 k2:IntKind}{n:Int}(z:α)(zs:List Value)(ht:tsl P t=some (E,sz,a1))(he:∀x,(e x).length=sz)
  (hz:zwf P E=some zs) (ae:∀r w,zr r w (e z) zs) (hx:Ev s x (iv k1 n)) (hy:Ev s y (iv k2 n)) (h0:0<=n) (ab :(a1:Int)*n<=281474976710656) (a3:n<=9223372036854775807)
  (k:∀v',(∃g n,v' = .slice (some ⟨g,0,none⟩) n n)->K (eqv v') (s.objs++[row E e sz (List.replicate n.toNat z) v'])):OpT C ⟨dst,.makeSlice t x y,ty,pos,after,guard⟩ s K:=by
 intro a w r S Q hd hn hw hs;have a4:=hx a r w hs;have a5:=hy a r w hs;simp only[iv,eqv] at a4 a5;obtain⟨i,h,hu,hi,a7,rfl,rfl,a6,f⟩:=zks ht;have a8:h.cells.toList=zs:=by unfold zwf at hz;simp[hi,a7] at hz;exact hz
 have hr:=run_make w t E i h hu hi a7 k1 k2 n n h0 (w2y _) ab a3;unfold Oper.wp;simp only[execOp,a4,a5,w08,hr,w06,w0p,Oper.upon_value];refine⟨_,r,_,_,_,rfl,hw.evo_alloc _,hw.push _ _ ?_,rfl,k _ ⟨_,_,rfl⟩⟩;refine .inr ⟨w.heap.size,n.toNat,_,by simp,rfl,heap_alloc_new w _,by simp,by simp[maxLen];omega,size_madeCells _ _,?_⟩;have a2:=z6e he (List.replicate n.toNat z);have e1 :(madeCells h.cells (n.toNat*i.size)).toList.take ((List.replicate n.toNat z).length*i.size) =(madeCells h.cells (n.toNat*i.size)).toList:=by apply w2q;simp[size_madeCells]
 rw[e1];refine⟨by rw[a2];simp[size_madeCells],λj A hj=>?_⟩;have ac:j<n.toNat*i.size:=by have:=(w04.1 hj).1;rw[a2] at this;simpa using this
 obtain⟨y,d,hA⟩:=zl8 he f _ j A hj;rw[w4i] at d;split at d
 .simp at d;subst d;obtain⟨u,a0,aa,a9⟩:=(ae _ _).2 _ A hA;refine⟨u,?_,aa,a9⟩;have :(madeCells h.cells (n.toNat*i.size)).toList[j]? = some (h.cells[j % h.cells.size]!):=by simp[madeCells,ac]
  rw[this,a6];have ad:j % i.size<h.cells.size:=by rw[a6];exact w44 _ f
  rw[<- a8] at a0;simp[ad] at a0⊢;exact a0
 .cases d
end ops
end Px
end
section
namespace Px
open Go Go.RowKit
def Ent(A B:VP):Prop:=∀r w v,A.h r w v->B.h r w v
theorem Ent.refl{A:VP}: Ent A A:=λ_ _ _ h=>h
theorem Ent.of_eq{A B:VP}(h:A=B):Ent A B:=h ▸ Ent.refl
def EntH(A B:HP):Prop:=∀S r w,A.h S r w->B.h S r w
theorem EntH.refl{A:HP}: EntH A A:=λ_ _ _ h=>h
def y04(s:z9i):List (Nat×VP)->Prop
 | []=>True
 |(t,B)::l=>(∃A,s t=some A/\Ent A B)/\y04 s l
def z7y:List HP->List HP->Prop
 |_,[]=>True
 | [],_::_=>False
 |A::l,B::m=>EntH A B/\z7y l m
theorem z7y.at:∀{l m:List HP},z7y l m->∀(i:Nat)(B:HP),m[i]? = some B->∃A,l[i]? = some A/\EntH A B
 |_,[],_,i,B,h=>by simp at h
 | [],_::_,g,_,_,_=>g.elim
 |A::l,B::m,⟨f,_⟩,0,d,h=>by simp at h;subst h;exact⟨A,rfl,f⟩
 |A::l,B::m,⟨_,j⟩,i+1,d,h=>by simpa using z7y.at j i d (by simpa using h)
theorem WInv.le[Dr]{z w:World}{d:Nat}{f O:List HP}{r:Nat->Prop}{S:Nat->Nat->Prop}(h:WInv z d f r S w)(hO:z7y f O):
  WInv z d O r (λi b=>i<O.length/\S i b) w where
 below:=h.below
 size:=h.size
 obj:=λi B u=>by
  obtain⟨A,hA,he⟩:=hO.at i B u;have g:=(w04.1 u).1;have :(λb=>i<O.length/\S i b)=S i:=by funext b;simp[g]
  rw[this];exact he _ _ _ (h.obj i A hA)
 own:=λi b ⟨g,hb⟩=>by obtain⟨_,h2,h3,h4⟩:=h.own i b hb;exact⟨g,h2,h3,h4⟩
 apart:=λi j b u hj=>h.apart i j b u.2 hj.2
 old:=h.old
section atx
variable{P:Program}{C:Cx P}{s:St}{Q:Exit->Act->World->Prop}{x y c:Code}{K:Act->World->Prop}{e:Exit}
end atx
def retR[Dr](w0:World)(base:Nat)(r0:Nat->Prop)(wI:World)(K:VP->List HP->Prop):Ending->World->Prop:=λe w'=>∃v x objs' r' S',e = .returned v/\Evo base r0 wI r' w'/\WInv w0 base objs' r' S' w'/\x.h r' w' v/\K x objs'
section ret
variable{P:Program}{C:Cx P}{s:St}{fn:Func}{K:VP->List HP->Prop}
def RV[Dr]{P:Program}(C:Cx P)(s:St):ResultVar->VP->Prop
 | .tmp t,A=>s.slots t=some A
 | .cell a t,A=>(∃n,z5n P t=some (false,n)/\∃cs,Pt C s (.tmp a) (A::cs))\/(∃cs,A=agg cs/\z5n P t=some (true,cs.length)/\Pt C s (.tmp a) cs)
def zw4(tmps:Array Value)(rv:ResultVar):Sem Value:=match rv with
 | .tmp t=>pure (tmps.getD t undef)
 | .cell a t=>do loadVar t (<- asAddr (tmps.getD a undef))
theorem y6z(fn:Func)(tmps:Array Value):results fn tmps =(do
  let vs <- fn.results.mapM (zw4 tmps)
  pure (if h:vs.size=1 then vs[0] else .tuple vs)):=rfl
theorem RV.run[Dr]{rv:ResultVar}{A:VP}(h:RV C s rv A){a:Act}{r:Nat->Prop}{S:Nat->Nat->Prop}{w:World}(hw:WInv C.w0 C.base s.objs r S w)(hs:zj s.slots a r w):
  ∃v,(zw4 a.tmps rv).run P w = .ok v w/\A.h r w v:=by
 cases rv with
 |tmp t=>exact⟨_,rfl,hs t A h⟩
 |cell b t=>
  rcases h with⟨n,ht,cs,hp⟩|⟨cs,rfl,ht,hp⟩
  .obtain⟨g,o,hx,hc⟩:=hp a r S w hw hs;obtain⟨u,hu,hA,_⟩:=hc 0 A rfl;have f:a.tmps.getD b undef = .pointer (some ⟨g,o,none⟩):=hx;have j:=zz5 w ht (b:=g) (o:=o) (by simpa using hu);simp only[Instr.loadAt,Instr.sureAddr,w08,w0p,w06] at j;refine⟨u,?_,hA⟩;simp only[zw4,f,w08,asAddr,w0p,w06,j]
  .obtain⟨g,o,hx,hc⟩:=hp a r S w hw hs;obtain⟨vs,z,d⟩:=hc.list;have f:a.tmps.getD b undef = .pointer (some ⟨g,o,none⟩):=hx;have j:=zz6 w (b:=g) (o:=o) (z.1 ▸ ht) d;simp only[Instr.loadAt,Instr.sureAddr,w08,w0p,w06] at j;refine⟨_,?_,vs.toArray,rfl,by simpa using z⟩;simp only[zw4,f,w08,asAddr,w0p,w06,j]
end ret
def ymn[Dr](P:Program)(w0:World)(base:Nat)(f:FuncId)(args:List VP)(objs:List HP)(K:VP->List HP->Prop):Prop:=∀r S w vs,WInv w0 base objs r S w->vs.size=args.length->(∀(i:Nat)(A:VP),args[i]? = some A->A.h r w (vs.getD i undef))->Calls P f vs w (retR w0 base r w K)
def zdv[Dr](P:Program)(f:FuncId)(args:List VP)(K:VP->List HP->Prop):Prop:=∀r w vs,(∀b,r b->b<w.heap.size)->vs.size=args.length->(∀(i:Nat)(A:VP),args[i]? = some A->A.h r w (vs.getD i undef))->Calls P f vs w (retR w w.heap.size r w K)
theorem WInv.join[Dr]{w0 w w':World}{z:Nat}{d u:List HP}{r r':Nat->Prop}{S S':Nat->Nat->Prop}(h:WInv w0 z d r S w)(k:WInv w w.heap.size u r' S' w')
  (rr:Nat->Prop) (h1:∀b,r b->rr b) (h2:∀b,rr b->r b\/(w.heap.size<=b/\r' b)) (hn:∀(i:Nat)(H:HP),u[i]? = some H->H.h (S' i) rr w') :
  WInv w0 z (d++u) rr (λi b=>(i<d.length/\S i b)\/(d.length<=i/\S' (i-d.length) b)) w' where
 below:=h.below.trans (k.below.mono h.size)
 size:=w1o h.size k.size
 obj:=by
  intro i H hi;rw[w2g] at hi;split at hi
  .rename_i a5;have e :(λb=>(i<d.length/\S i b)\/(d.length<=i/\S' (i-d.length) b))=S i:=by
    funext b;have:¬d.length<=i:=by omega
    simp[a5,this]
   rw[e];exact H.mono (w:=w) h1 (λb f=>k.below.block b (h.old b f)) (λb f=>k.below.block b (h.own i b f).2.2.1) (h.obj i H hi)
  .rename_i a0;have e :(λb=>(i<d.length/\S i b)\/(d.length<=i/\S' (i-d.length) b))=S' (i-d.length):=by funext b;simp[a0,w41 a0]
   rw[e];exact hn _ H hi
 own:=by
  rintro i b (⟨a5,f⟩|⟨a0,f⟩)
  .obtain⟨a1,a2,a3,a4⟩:=h.own i b f;refine⟨by simp;omega,a2,w2t a3 k.size,λhr=>?_⟩;rcases h2 b hr with q|⟨q,_⟩
   .exact a4 q
   .omega
  .obtain⟨a1,a2,a3,a4⟩:=k.own _ b f;refine⟨by simp;omega,w1o h.size a2,a3,λhr=>?_⟩;rcases h2 b hr with q|⟨_,q⟩
   .have:=h.old b q;omega
   .exact a4 q
 apart:=by
  rintro i j b (⟨hi,f⟩|⟨hi,f⟩) (⟨hj,g⟩|⟨hj,g⟩)
  .exact h.apart i j b f g
  .have:=(h.own i b f).2.2.1;have:=(k.own _ b g).2.1;omega
  .have:=(h.own j b g).2.2.1;have:=(k.own _ b f).2.1;omega
  .have:=k.apart _ _ b f g;omega
 old:=λb f=>by
  rcases h2 b f with q|⟨_,q⟩
  .exact w2t (h.old b q) k.size
  .exact k.old b q
def VP.flat(A:VP):Prop:=∀r r' w w' v,A.h r w v->A.h r' w' v
def HP.flat(H:HP):Prop:=∀S r r' w,H.h S r w->H.h S r' w
theorem zem{v:Value}:(eqv v).flat:=λ_ _ _ _ _ h=>h
theorem ydg{xs:List VP}(h:∀A∈xs,A.flat):(tupv xs).flat:=λr g w w' v ⟨vs,e,f,hh⟩=>⟨vs,e,f,λi A d=>h A (w17 d) r g w w' _ (hh i A d)⟩
theorem zr.flat{r r':Nat->Prop}{w:World}{cs:List VP}{vs:List Value}(z:∀A∈cs,A.flat)(h:zr r w cs vs):zr r' w cs vs:=⟨h.1,λj A d=>by obtain⟨u,hu,g,f⟩:=h.2 j A d;exact⟨u,hu,z A (w17 d) _ _ _ _ _ g,f⟩⟩
theorem ydf{cs:List VP}(h:∀A∈cs,A.flat):(agg cs).flat:=λr r' w w' v ⟨vs,e,hh⟩=>⟨vs,e,hh.1,λj A d=>by obtain⟨u,z,g,f⟩:=hh.2 j A d;exact⟨u,z,h A (w17 d) _ _ _ _ _ g,f⟩⟩
theorem y3p{α:Type}{E:TypeId}{e:α->List VP}{sz:Nat}{l:List α}{sv:Value}(h:∀x,∀A∈e x,A.flat):(row E e sz l sv).flat:=λS r r' w hh=>by
 rcases hh with hn|⟨g,f,cur,hv,z,d,hl,hm,j,hc⟩
 .exact .inl hn
 .exact .inr ⟨g,f,cur,hv,z,d,hl,hm,j,hc.flat (λA u=>by obtain⟨x,_,hx⟩:=w24.1 u;exact h x A hx)⟩
def Args(s:St):List Operand->List VP->Prop
 | [],[]=>True
 |o::os,A::As=>Ev s o A/\Args s os As
 |_,_=>False
theorem Args.ok{s:St}{a:Act}{r:Nat->Prop}{w:World}(f:zj s.slots a r w):∀{os:List Operand}{As:List VP},Args s os As->
  os.length=As.length/\∀(i:Nat)(A:VP),As[i]? = some A->A.h r w ((os.map a.eval).getD i undef)
 | [],[],_=>⟨rfl,λi A h=>by simp at h⟩
 |o::os,A::As,⟨h,u⟩=>by
  obtain⟨g,j⟩:=Args.ok f u;refine⟨by simp[g],λi B d=>?_⟩;cases i with
  |zero=>simp at d;subst d;exact h a r w f
  |succ i=>simpa using j i B (by simpa using d)
 | [],_::_,h=>h.elim
 |_::_,[],h=>h.elim
def EvF[Dr]{P:Program}(C:Cx P)(s:St)(o:Operand)(A:VP):Prop:=∀a r S w,WInv C.w0 C.base s.objs r S w->zj s.slots a r w->A.h (λb=>b<w.heap.size) w (a.eval o)
def zwi[Dr]{P:Program}(C:Cx P)(s:St):List Operand->List VP->Prop
 | [],[]=>True
 |o::os,A::As=>EvF C s o A/\zwi C s os As
 |_,_=>False
theorem zwi.ok[Dr]{P:Program}{C:Cx P}{s:St}{a:Act}{r:Nat->Prop}{S:Nat->Nat->Prop}{w:World}(g:WInv C.w0 C.base s.objs r S w)(f:zj s.slots a r w):∀{os:List Operand}{As:List VP},zwi C s os As->
  os.length=As.length/\∀(i:Nat)(A:VP),As[i]? = some A->A.h (λb=>b<w.heap.size) w ((os.map a.eval).getD i undef)
 | [],[],_=>⟨rfl,λi A h=>by simp at h⟩
 |o::os,A::As,⟨h,z⟩=>by
  obtain⟨j,u⟩:=zwi.ok g f z;refine⟨by simp[j],λi B d=>?_⟩;cases i with
  |zero=>simp at d;subst d;exact h a r S w g f
  |succ i=>simpa using u i B (by simpa using d)
 | [],_::_,h=>h.elim
 |_::_,[],h=>h.elim
def FEnt[Dr]{P:Program}(C:Cx P)(s:St)(A B:VP):Prop:=∀r S w v,WInv C.w0 C.base s.objs r S w->A.h r w v->B.h (λb=>r b\/∃j,S j b) w v
theorem WInv.all[Dr]{z w:World}{d:Nat}{f:List HP}{r:Nat->Prop}{S:Nat->Nat->Prop}(g:WInv z d f r S w){b:Nat}(h:r b\/∃j,S j b):b<w.heap.size:=h.elim (g.old b) λ⟨j,u⟩=>(g.own j b u).2.2.1
theorem FEnt.refl[Dr]{P:Program}{C:Cx P}{s:St}{A:VP}: FEnt C s A A:=λr S w v f h=>A.mono (λb d=>.inl d) (λ_ _=>rfl) h
theorem FEnt.row[Dr]{P:Program}{C:Cx P}{s:St}{α:Type}(i:Nat){E:TypeId}{e:α->List VP}{sz:Nat}{l:List α}{sv:Value}(he:∀x,(e x).length=sz)(ho:s.objs[i]? = some (row E e sz l sv)):FEnt C s (eqv sv) (ro e sz l):=by
 intro r S w v hw h;simp only[eqv] at h;subst h;rcases hw.obj i _ ho with⟨rfl,rfl⟩|⟨g,z,cur,rfl,hS,d,hl,hm,a0,hh⟩
 .exact .inl ⟨⟨none,0,rfl⟩,rfl⟩
 .refine .inr ⟨g,0,z-l.length,by rw[w3a hl],λk x hk=>⟨.inr ⟨i,hS⟩,λj A hj=>?_⟩⟩;obtain⟨u,f,hA,h1⟩:=hh.2 _ A (z4t he l k x hk j A hj);refine⟨u,?_,A.mono (λb hb=>.inl hb) (λ_ _=>rfl) hA,h1⟩;rw[w1j,cell_of_row w g _ cur E (0,0) d];rw[w0x] at f;split at f
  .simpa using f
  .cases f
theorem FEnt.nil[Dr]{P:Program}{C:Cx P}{s:St}{α:Type}{e:α->List VP}{sz:Nat}: FEnt C s (eqv (.slice none 0 0)) (ro e sz []):=λr S w v d h=>.inl ⟨⟨none,0,h⟩,rfl⟩
def zku[Dr]{P:Program}(C:Cx P)(s:St):List VP->List VP->Prop
 | [],[]=>True
 |A::As,B::Bs=>FEnt C s A B/\zku C s As Bs
 |_,_=>False
theorem zku.ok[Dr]{P:Program}{C:Cx P}{s:St}: ∀{As d:List VP},zku C s As d->As.length=d.length/\∀(j:Nat)(B:VP),d[j]? = some B->∃A,As[j]? = some A/\FEnt C s A B
 | [],[],_=>⟨rfl,λj B h=>by simp at h⟩
 |A::As,B::d,⟨h,z⟩=>by
  obtain⟨g,u⟩:=zku.ok z;refine⟨by simp[g],λj D f=>?_⟩;cases j with
  |zero=>simp at f;subst f;exact⟨A,rfl,h⟩
  |succ j=>simpa using u j D (by simpa using f)
 | [],_::_,h=>h.elim
 |_::_,[],h=>h.elim
theorem FEnt.agg[Dr]{P:Program}{C:Cx P}{s:St}{cs g:List VP}(h:zku C s cs g):FEnt C s (agg cs) (agg g):=by rintro r S w v hw ⟨vs,rfl,hh⟩;obtain⟨z,h2⟩:=h.ok;refine⟨vs,rfl,by rw[<- z];exact hh.1,λj B hj=>?_⟩;obtain⟨A,hA,d⟩:=h2 j B hj;obtain⟨u,hu,f,ho⟩:=hh.2 j A hA;exact⟨u,hu,d r S w u hw f,ho⟩
theorem EvF.of[Dr]{P:Program}{C:Cx P}{s:St}{o:Operand}{A B:VP}(h:Ev s o A)(g:FEnt C s A B):EvF C s o B:=λa r S w d j=>B.mono (λ_ f=>d.all f) (λ_ _=>rfl) (g r S w _ d (h a r w j))
theorem z2w {P : Program} {f : FuncId} {fn : Func} (hf : P.funcs[f]? = some fn) (hname : (fn.name == "runtime.NumGoroutine") = false) (hb : fn.body.isSome = true) (args : Array Value) (w : World) :
  (callFunc f args).run P w = .ok (.enter f args) w:=by
 obtain⟨c,hc⟩:=w19.1 hb
 have h1 : fn.name ≠ "runtime.NumGoroutine" := by simpa using hname
 simp[callFunc,hf,h1,hc]
def FnOK (P : Program) (f : FuncId) : Prop := ∃ fn, P.funcs[f]? = some fn /\ (fn.name == "runtime.NumGoroutine") = false /\ fn.body.isSome = true
section ops
variable{P:Program}{C:Cx P}{s:St}{dst:Option Tmp}{ty:TypeId}{pos:String}{after:Array Edge}{guard:Option (Nat×Bool)}{K:VP->List HP->Prop}
theorem OpT.calls[Dr]{f:FuncId}{fo:Operand}{as:Array Operand}{ts:Array TypeId}{d:Array Value}(hf:FnOK P f)(u:Ev s fo (eqv (.func (.func f) #[] d)))
  (h:∀a r S w,a.defers=C.df->WInv C.w0 C.base s.objs r S w->zj s.slots a r w->Calls P f (as.map a.eval++d) w (retR C.w0 C.base r w K)) :
  OpT C ⟨dst,.call { callee:=.value fo,args:=as,argTypes:=ts },ty,pos,after,guard⟩ s K:=by
 intro a w r S Q hd hn hw hs;obtain⟨fn,h1,h2,h3⟩:=hf;have g:=u a r w hs;simp only[eqv] at g;unfold Oper.wp;have j :(execOp a.eval ⟨dst,.call { callee:=.value fo,args:=as,argTypes:=ts },ty,pos,after,guard⟩).run P w = .ok (.enter f (as.map a.eval++d)) w:=by simp[execOp,resolve,g,Deferred.ofValue,invoke,z2w h1 h2 h3]
 rw[j,Oper.upon_enter];refine(h a r S w hd hw hs).mono ?_;rintro e w' ⟨v,x,objs',r',S',rfl,he,z,hx,hk⟩;exact⟨v,r',S',x,objs',rfl,he,z,hx,hk⟩
theorem yah[Dr]{f:FuncId}{as:Array Operand}{ts:Array TypeId}{args:List VP}{K':VP->List HP->Prop}(hf:FnOK P f)(ha:Args s as.toList args)
  (h:zdv P f args K') (k:∀x news,K' x news->K x (s.objs++news)):OpT C ⟨dst,.call { callee:=.value (.func f),args:=as,argTypes:=ts },ty,pos,after,guard⟩ s K:=
 .calls hf (Ev.func f) λa r S w hd hw hs=>by
  obtain⟨u,h2⟩:=ha.ok hs;refine(h r w _ hw.old (by simp at u;simp[u]) λi A hi=>?_).mono ?_
  .have:=h2 i A hi
   have z:i<as.size:=by have:=(w04.1 hi).1;simp at u;omega
   simpa[w1r,z] using this
  .rintro e w' ⟨v,x,news,r',S',rfl,d,g,hx,hk⟩;refine⟨v,x,_,r',_,rfl,⟨d.1,d.2.1,λb j=>(d.2.2 b j).imp id (λq=>w1o hw.size q)⟩,hw.join g r' d.1 (λb j=>?_) g.obj,hx,k _ _ hk⟩;rcases d.2.2 b j with q|q
   .exact .inl q
   .exact .inr ⟨q,j⟩
theorem y1o[Dr]{f:FuncId}{as:Array Operand}{ts:Array TypeId}{args:List VP}{K':VP->List HP->Prop}(hf:FnOK P f)(ha:zwi C s as.toList args)
  (h:zdv P f args K') (k:∀x news,K' x news->x.flat/\(∀H∈news,H.flat)/\K x (s.objs++news)):OpT C ⟨dst,.call { callee:=.value (.func f),args:=as,argTypes:=ts },ty,pos,after,guard⟩ s K:=
 .calls hf (Ev.func f) λa r S w hd hw hs=>by
  obtain⟨j,h2⟩:=ha.ok hw hs;refine(h _ w _ (λ_ h=>h) (by simp at j;simp[j]) λi A d=>?_).mono ?_
  .have:=h2 i A d
   have z:i<as.size:=by have:=(w04.1 d).1;simp at j;omega
   simpa[w1r,z] using this
  .rintro e w' ⟨v,x,news,r',S',rfl,he,g,hx,hk⟩;obtain⟨k1,k2,k3⟩:=k _ _ hk;exact⟨v,x,_,r,_,rfl,⟨λ_ h=>h,λb u=>he.2.1 b (hw.old b u),λ_ h=>.inl h⟩,hw.join g r (λ_ h=>h) (λb u=>.inl u)
    (λi H d=>k2 H (w17 d) _ _ _ _ (g.obj i H d)),k1 _ _ _ _ _ hx,k3⟩
theorem yj3[Dr]{f:FuncId}{as:Array Operand}{z:Array TypeId}{args:List VP}{x:VP}(g:FnOK P f)(d:zwi C s as.toList args)
  (h:zdv P f args λy news=>y=x/\news = []) (u:x.flat):OpQ C ⟨dst,.call { callee:=.value (.func f),args:=as,argTypes:=z },ty,pos,after,guard⟩ s x:=
 y1o g d h λy news ⟨hy,j⟩=>by subst hy;subst j;exact⟨u,by simp,rfl,by simp⟩
end ops
end Px
end
section
namespace Px
open Go Go.RowKit
def z02(ops:Array Oper):List (Option Nat×List Nat):=ops.toList.map λo=>(o.dst,(o.after.toList.filter (Region.binds .any ·)).map (·.on))
abbrev Tab:=List (Option Nat×List Nat)
def Tab.dst(tab:Tab)(i:Nat):Option Nat:=match tab[i]? with|some p=>p.1|none=>none
def Tab.deps(tab:Tab)(i:Nat):List Nat:=match tab[i]? with|some p=>p.2|none=>[]
def memB(l:List Nat)(i:Nat):Bool:=l.any (Nat.beq i)
theorem z0f{l:List Nat}{i:Nat}: memB l i=true↔i∈l:=by simp only[memB,w1q];exact⟨λ⟨x,hx,h⟩=>by have:=w03 h;subst this;exact hx,λh=>⟨i,h,w2p i⟩⟩
def zdz(d:Option Nat)(t:Nat):Bool:=match d with|some d=>Nat.beq d t|none=>false
theorem zp8{d:Option Nat}{t:Nat}: zdz d t=true↔d=some t:=by
 cases d with
 |none=>simp[zdz]
 |some d=>simp[zdz]
def z1k(tab:Tab)(ok:Nat->Bool)(s:z9i):List (Nat×VP)->z9i
 | []=>s
 |(q,x)::r=>λt=>bif (ok q&&zdz (tab.dst q) t) then some x else z1k tab ok s r t
def GQ[Dr]{P:Program}(C:Cx P)(tab:Tab)(o:Oper)(s:St)(x:VP):Prop:=match o.guard with
 |none=>OpQ C o s x
 |some (j,want)=>∃p x0 t,tab.dst j=some t/\x=cnd p x0/\(p->OpQ C o s x0)/\((∃g,s.slots t=some (bv g)/\p =(g=want))\/(∃c g,s.slots t=some (cnd c (bv g))/\p =(c/\g=want)))
structure Node(ops:Array Oper)(tab:Tab)(D:List Nat)(QR:List (Nat×VP))(E:List Nat)(fuel:Nat)(listed:Array Bool):Prop where
 closed:∀j,j∈D\/j∈E->∀e∈tab.deps j,e∈D\/e∈E
 size:listed.size=ops.size
 lst:∀i,i<ops.size->(listed.getD i true=true↔i∈D\/i∈E)
 sub:∀q∈E,q∈QR.map (·.1)
 fuel :((List.range ops.size).filter λi=>!listed.getD i true).length=fuel
def ykt(tab:Tab)(QR:List (Nat×VP))(E:List Nat)(a:Act)(r:Nat->Prop)(w:World):Prop:=∀q x t,q∈E->(q,x)∈QR->tab.dst q=some t->x.h r w (a.tmps.getD t undef)
def Reg[Dr]{P:Program}(C:Cx P)(ops:Array Oper)(tab:Tab)(Q:Exit->Act->World->Prop)(D:List Nat)(s:St)(QR:List (Nat×VP)):Prop:=
 ∀fuel listed a w E r S,Node ops tab D QR E fuel listed->a.defers=C.df->a.tmps.size=C.n->WInv C.w0 C.base s.objs r S w->Evo C.base C.r0 C.wI r w->zj s.slots a r w->ykt tab QR E a r w->
  wpAnyIn (fz C.rd) 0 P .any ops Q fuel listed a w
def zga:List Nat->Bool
 | []=>true
 |x::r=>!memB r x&&zga r
theorem zbg:∀{l:List Nat},zga l=true->l.Nodup
 | [],_=>w4h
 |x::r,h=>by simp only[zga,w02,w0v] at h;refine w1x.2 ⟨λd=>?_,zbg h.2⟩;rw[z0f.2 d] at h;cases h.1
def AllP{α:Type}(P:α->Prop):List α->Prop
 | []=>True
 |a::l=>P a/\AllP P l
theorem AllP.mem{α:Type}{P:α->Prop}: ∀{l:List α},AllP P l->∀a∈l,P a
 |_::_,⟨h,_⟩,_,.head _=>h
 |_::_,⟨_,h⟩,a,.tail _ d=>AllP.mem h a d
def y0i(a b:Option Nat):Bool:=match a,b with
 |some x,some y=>!Nat.beq x y
 |_,_=>true
theorem zj3{a b:Option Nat}(h:y0i a b=true):∀t,a=some t->b≠some t:=by intro t d f;subst d;subst f;simp[y0i] at h
def chk(tab:Tab)(n:Nat)(D keys cands sure:List Nat):Bool:=
 sure.all (λq=>(D++sure).any λj=>memB (tab.deps j) q)&&
 zga keys&&zga (keys.filterMap tab.dst)&&keys.all (λq=>(tab.dst q).isSome&&!memB D q&&decide (q<tab.length)&&isSomeLt (tab.dst q) n)&&
 (List.range tab.length).all (λi=>memB D i||memB keys i||memB cands i||(tab.deps i).any (λe=>!memB D e&&!memB keys e))&&
 (List.range tab.length).all (λi=>(tab.deps i).all (λe=>decide (e<i)))
 where isSomeLt (d:Option Nat) (n:Nat):Bool:=match d with|some d=>decide (d<n)|none=>false
def zek(tab:Tab)(D keys:List Nat):Bool:=(List.range tab.length).all λi=>memB D i||memB keys i
theorem zjz{tab:Tab}{g:Nat->Bool}{s:z9i}{a:Act}{r:Nat->Prop}{w:World}(j:zj s a r w):∀{QR:List (Nat×VP)},(∀q x t,(q,x)∈QR->g q=true->tab.dst q=some t->x.h r w (a.tmps.getD t undef))->
  zj (z1k tab g s QR) a r w
 | [],_=>j
 |(q,x)::rr,h=>λt A d=>by
  simp only[z1k] at d;cases f :(g q&&zdz (tab.dst q) t) with
  |true=>rw[f] at d;simp only[cond_true,w01] at d;subst d;simp only[w02] at f;exact h q x t (w0n ..) f.1 (zp8.1 f.2)
  |false=>rw[f] at d;exact zjz j (λz x' t' u=>h z x' t' (w0g _ u)) t A d
section
variable{P:Program}{C:Cx P}{ops:Array Oper}{tab:Tab}{Q:Exit->Act->World->Prop}
theorem zmx(d:z02 ops=tab){i:Nat}{o:Oper}(f:ops[i]? = some o):tab[i]? = some (o.dst,(o.after.toList.filter (Region.binds .any ·)).map (·.on)):=by subst d;simp[z02,f]
theorem zfa(d:z02 ops=tab):tab.length=ops.size:=by subst d;simp[z02]
theorem y3h(d:z02 ops=tab){j t:Nat}(f:tab.dst j=some t):(ops[j]?).bind (·.dst)=some t:=by
 cases g:ops[j]? with
 |none=>
  have:tab[j]? = none:=by have:=zfa d;rw[w1t];rw[this];simpa using g
  simp[Tab.dst,this] at f
 |some h=>simp[Tab.dst,zmx d g] at f;simpa using f
theorem zk1{listed:Array Bool}{i:Nat}(h:i∈Region.ready .any ops listed):i<ops.size/\listed.getD i true=false/\∃o,ops[i]? = some o/\∀e∈o.after,Region.binds .any e=true->listed.getD e.on false=true:=by simp only[Region.ready,w0i,w1d,w02,w0v] at h;obtain⟨d,g,f⟩:=h;refine⟨d,g,ops[i],by simp[d],λe u j=>?_⟩;simp only[w23 d,w0z,w1b,w31] at f;have:=f e u;simpa[j] using this
theorem zmo{f:Nat->Option Nat}: ∀{l:List Nat},(l.filterMap f).Nodup->∀{q j t:Nat},q∈l->j∈l->f q=some t->f j=some t->q=j
 | [],_,q,j,t,hq,_,_,_=>by cases hq
 |y::l,h,q,j,t,hq,hq',h1,h2=>by
  have g :(l.filterMap f).Nodup:=by
   cases hy:f y with
   |none=>rwa [List.filterMap_cons_none hy] at h
   |some z=>rw[List.filterMap_cons_some hy] at h;exact(w1x.1 h).2
  have d:∀z,f y=some z->z ∉ l.filterMap f:=λz hz=>by rw[List.filterMap_cons_some hz] at h;exact(w1x.1 h).1
  rcases w05.1 hq with e|hq
  .rcases w05.1 hq' with u|hq'
   .rw[e,u]
   .exact absurd (w57.2 ⟨j,hq',h2⟩) (d t (e ▸ h1))
  .rcases w05.1 hq' with u|hq'
   .exact absurd (w57.2 ⟨q,hq,h1⟩) (d t (u ▸ h2))
   .exact zmo g hq hq' h1 h2
theorem zbq{α:Type}: ∀{l:List (Nat×α)},(l.map (·.1)).Nodup->∀{p d:Nat×α},p∈l->d∈l->p.1=d.1->p=d
 | [],_,_,_,h,_,_=>by cases h
 |y::l,h,p,d,hp,hp',e=>by
  rw[w0l] at h;obtain⟨g,j⟩:=w1x.1 h;rcases w05.1 hp with r|hp
  .rcases w05.1 hp' with f|hp'
   .rw[r,f]
   .exact absurd (w0b.2 ⟨d,hp',by rw[<- e,r]⟩) g
  .rcases w05.1 hp' with f|hp'
   .exact absurd (w0b.2 ⟨p,hp,by rw[e,f]⟩) g
   .exact zbq j hp hp' e
theorem count_set{listed:Array Bool}{i:Nat}: ∀{n:Nat},i<n->listed.getD i true=false->
  ((List.range n).filter λj=>!(if j=i then true else listed.getD j true)).length+1 =((List.range n).filter λj=>!listed.getD j true).length
 |0,h,_=>by omega
 |n+1,h,f=>by
  rw[w1n,w12,w12,w0h,w0h];by_cases e:i=n
  .subst e;have :((List.range i).filter λj=>!(if j=i then true else listed.getD j true)) =(List.range i).filter λj=>!listed.getD j true:=by
    apply w3l;intro j d;have:¬j=i:=by have:=w1d.1 d;omega
    simp[this]
   rw[this];have g :(List.filter (λj=>!(if j=i then true else listed.getD j true)) [i]).length=0:=by simp
   have u :(List.filter (λj=>!listed.getD j true) [i]).length=1:=by rw[w2w (by rw[f];rfl)];rfl
   omega
  .have z:=count_set (n:=n) (by omega) f;have :(List.filter (λj=>!(if j=i then true else listed.getD j true)) [n])=List.filter (λj=>!listed.getD j true) [n]:=by
    apply w3l;intro j d;have:¬j=i:=by simp at d;omega
    simp[this]
   rw[this];omega
def zwo(tab:Tab)(s:z9i)(QR:List (Nat×VP)):Prop:=∀p∈QR,∀t,tab.dst p.1=some t->s t=none\/s t=some p.2
def y7m[Dr]{P:Program}(C:Cx P)(tab:Tab)(o:Oper)(s:St)(K:VP->List HP->Prop):Prop:=match o.guard with
 |none=>OpT C o s K
 |some (j,want)=>∃(p:Prop)(t:Nat),tab.dst j=some t/\((∃g,s.slots t=some (bv g)/\p =(g=want))\/(∃c g,s.slots t=some (cnd c (bv g))/\p =(c/\g=want)))/\(p->OpT C o s K)/\
   (¬p->∃x objs,(∀r w,x.h r w undef)/\(∀r S w,WInv C.w0 C.base s.objs r S w->∃S',WInv C.w0 C.base objs r S' w)/\K x objs)
theorem Reg.introW[Dr]{D:List Nat}{s:St}{QR:List (Nat×VP)}(a5 W a4:List Nat)(a0:z02 ops=tab)(az:chk tab C.n D (QR.map (·.1)) (a5++W) a4=true)
  (ba:zwo tab s.slots QR)
  (bl:AllP (λp=>memB a4 p.1=false->∃o,ops[p.1]? = some o/\GQ C tab o ⟨z1k tab (memB (tab.deps p.1)) s.slots QR,s.objs⟩ p.2) QR)
  (bk:AllP (λi=>∃o,ops[i]? = some o/\z8g C o=true/\((QR.map (·.1)).all λq=>y0i (tab.dst q) o.dst)=true/\
   y7m C tab o ⟨z1k tab (memB (tab.deps i)) s.slots QR,s.objs⟩ (λx objs=>∃N,(N.all λp=>!memB (QR.map (·.1)) p.1)=true/\Reg C ops tab Q (i::D) ⟨s.slots.set o.dst x,objs⟩ (QR++N))) a5)
  (hW:∀i∈W,∀fuel listed a w E r S,Node ops tab D QR E (fuel+1) listed->a.defers=C.df->a.tmps.size=C.n->WInv C.w0 C.base s.objs r S w->Evo C.base C.r0 C.wI r w->zj s.slots a r w->ykt tab QR E a r w->i<ops.size->
   (∀e∈tab.deps i,e∈D\/e∈E)->(∀j,j<ops.size->listed.getD j true=false->j≠i->j ∉ D/\j ∉ E)->wpOpIn (fz C.rd) 0 P ops Q i (wpAnyIn (fz C.rd) 0 P .any ops Q fuel (listed.setIfInBounds i true)) a w)
  (hE:zek tab D (QR.map (·.1))=true->AtX C ⟨z1k tab (λ_=>true) s.slots QR,s.objs⟩ .normal Q):Reg C ops tab Q D s QR:=by
 have hQ:=bl.mem;have hL:∀i∈a5,∃o,ops[i]? = some o/\z8g C o=true/\(∀q∈QR.map (·.1),∀t,tab.dst q=some t->o.dst≠some t)/\
   y7m C tab o ⟨z1k tab (memB (tab.deps i)) s.slots QR,s.objs⟩ (λx objs=>∃N,(N.all λp=>!memB (QR.map (·.1)) p.1)=true/\Reg C ops tab Q (i::D) ⟨s.slots.set o.dst x,objs⟩ (QR++N)):=λi hi=>by
  obtain⟨o,h1,h3,h4,h5⟩:=bk.mem i hi;exact⟨o,h1,h3,λq hq=>zj3 (w0a.1 h4 q hq),h5⟩
 simp only[chk,w02,w0a,w1d,w0w,w0v,decide_eq_true_eq,w1q] at az;obtain⟨⟨⟨⟨⟨bg,bo⟩,bp⟩,b7⟩,bq⟩,ax⟩:=az;have br:=zbg bo;have bm:=zbg bp;have bh:=zfa a0;have b4:∀q q' t,q∈QR.map (·.1)->q'∈QR.map (·.1)->tab.dst q=some t->tab.dst q'=some t->q=q':=by intro q q' t hq bt ht a3;exact zmo bm hq bt ht a3
 intro fuel
 induction fuel with
 |zero=>
  intro listed a w E r S u hd hn hw he hs hf;have ap :(List.range ops.size).filter (λi=>!listed.getD i true) = []:=w14 u.fuel;have ai:∀i,i<ops.size->listed.getD i true=true:=λi hi=>by have:=List.filter_eq_nil_iff.1 ap i (by simpa using hi);simpa using this
  refine⟨?_,?_⟩
  .apply w4t.2;intro i hi;obtain⟨h1,h2,_⟩:=zk1 hi;rw[ai i h1] at h2;cases h2
  .refine hE ?_ a w ⟨hd,hn,r,S,hw,he,zjz hs λq x t hm _ ht=>hf q x t ?_ hm ht⟩
   .simp only[zek,w0a,w1d,w0w];intro i hi;rw[bh] at hi;rcases(u.lst i hi).1 (ai i hi) with h|h
    .exact .inl (z0f.2 h)
    .exact .inr (z0f.2 (u.sub i h))
   .have ac:q∈QR.map (·.1):=w0b.2 ⟨_,hm,rfl⟩;obtain⟨⟨⟨_,ag⟩,c2⟩,_⟩:=b7 q ac;rcases(u.lst q (by omega)).1 (ai q (by omega)) with h|h
    .rw[z0f.2 h] at ag;cases ag
    .exact h
 |succ fuel ih=>
  intro listed a w E r S u hd hn hw he hs hf;have bb:Region.ready .any ops listed = []->False:=by
   intro ap;have b9 :(List.range ops.size).filter (λi=>!listed.getD i true)≠[]:=by intro h;have:=u.fuel;rw[h] at this;simp at this
   obtain⟨i0,b6⟩:=List.exists_mem_of_ne_nil _ b9;have key:∀i,i<ops.size->listed.getD i true=false->False:=by
    intro i
    induction i using Nat.strongRecOn with
    |_ i bx=>
     intro hi a9;have:i∈Region.ready .any ops listed:=by
      simp only[Region.ready,w0i,w1d,w02,w0v];refine⟨hi,a9,?_⟩;simp only[w23 hi,w0z,w1b,w31];intro e a7;by_cases hb:Region.binds .any e=true
      .simp only[hb,w21,w2c];have ar:=zmx a0 (i:=i) (o:=ops[i]) (by simp[hi]);have ao:=ax i (by omega) e.on (by simp only[Tab.deps,ar];exact w0b.2 ⟨e,w0i.2 ⟨by simpa using a7,hb⟩,rfl⟩);cases b8:listed.getD e.on true with
       |true=>
        have b2:e.on<listed.size:=by rw[u.size];omega
        simp[b2] at b8⊢;exact b8
       |false=>exact(bx e.on ao (by omega) b8).elim
      .simp[hb]
     rw[ap] at this;cases this
   simp only[w0i,w1d,w0v] at b6;exact key i0 b6.1 b6.2
  refine⟨λh=>(bb h).elim,λi hi=>?_⟩;obtain⟨ae,a9,o,ho,b3⟩:=zk1 hi;have ak:i ∉ D/\i ∉ E:=by
   constructor<;>intro h
   .rw[(u.lst i ae).2 (.inl h)] at a9;cases a9
   .rw[(u.lst i ae).2 (.inr h)] at a9;cases a9
  have ar:=zmx a0 ho;have z:∀e∈tab.deps i,e∈D\/e∈E:=by
   intro e a7;simp only[Tab.deps,ar] at a7;obtain⟨ed,bn,rfl⟩:=w0b.1 a7;obtain⟨be,bf⟩:=w0i.1 bn;have hl:=b3 ed (by simpa using be) bf;have ao:=ax i (by omega) ed.on (by simp only[Tab.deps,ar];exact a7);have b2:ed.on<listed.size:=by rw[u.size];omega
   refine(u.lst ed.on (by omega)).1 ?_;simp[b2] at hl⊢;exact hl
  have a2:zj (z1k tab (memB (tab.deps i)) s.slots QR) a r w:=zjz hs λq x t hm bs ht=>by
   rcases z q (z0f.1 bs) with h|h
   .have ac:q∈QR.map (·.1):=w0b.2 ⟨_,hm,rfl⟩;obtain⟨⟨⟨_,ag⟩,_⟩,_⟩:=b7 q ac;rw[z0f.2 h] at ag;cases ag
   .exact hf q x t h hm ht
  have ah:∀(D' E':List Nat)(QR':List (Nat×VP)),(∀j,(j∈D'\/j∈E')↔(j=i\/j∈D\/j∈E))->(∀q∈E',q∈QR'.map (·.1))->
    Node ops tab D' QR' E' fuel (listed.setIfInBounds i true):=by
   intro D' E' QR' b1 aq;have b0:∀j,(listed.setIfInBounds i true).getD j true =(if j=i then true else listed.getD j true):=by
    intro j;by_cases e:j=i
    .subst e;by_cases hb:j<listed.size<;>simp[hb]
    .have:¬i=j:=λh=>e h.symm
     simp[e,w35 this]
   refine⟨λj hj e he=>?_,by simp[u.size],λj hj=>?_,aq,?_⟩
   .refine(b1 e).2 (.inr ?_);rcases(b1 j).1 hj with rfl|h
    .exact z e he
    .exact u.closed j h e he
   .rw[b0 j,b1];by_cases e:j=i
    .simp[e]
    .rw[if_neg e,u.lst j hj];simp[e]
   .have:=count_set (listed:=listed) (i:=i) (n:=ops.size) ae a9
    have h2:=u.fuel;have e1 :(λj=>!(listed.setIfInBounds i true).getD j true)=λj=>!(if j=i then true else listed.getD j true):=by funext j;rw[b0 j]
    rw[e1];omega
  rcases bq i (by omega) with((h|h)|h)|⟨e,a7,h⟩
  .exact absurd (z0f.1 h) ak.1
  .-- a zt operation
   obtain⟨p,hp,rfl⟩:=w0b.1 (z0f.1 h);have hnsure:memB a4 p.1=false:=by
    have key:∀m q,q∈a4->tab.length<=m+q->q∈D\/q∈E:=by
     intro m
     induction m with
     |zero=>
      intro q hq hm;obtain⟨j,hj,hd⟩:=bg q hq;have am:j<tab.length:=by
       apply Classical.byContradiction;intro b5;have:tab.deps j = []:=by unfold Tab.deps;rw[w1t (w41 b5)]
       rw[this] at hd;simp[memB] at hd
      have:=ax j am q (z0f.1 hd);omega
     |succ m bz=>
      intro q hq hm;obtain⟨j,hj,hd⟩:=bg q hq;have am:j<tab.length:=by
       apply Classical.byContradiction;intro b5;have:tab.deps j = []:=by unfold Tab.deps;rw[w1t (w41 b5)]
       rw[this] at hd;simp[memB] at hd
      have ao:=ax j am q (z0f.1 hd);rcases w0j.1 hj with hj|hj
      .exact u.closed j (.inl hj) q (z0f.1 hd)
      .exact u.closed j (bz j hj (by omega)) q (z0f.1 hd)
    cases hm:memB a4 p.1 with
    |false=>rfl
    |true=>
     rcases key tab.length p.1 (z0f.1 hm) (by omega) with h'|h'
     .exact absurd h' ak.1
     .exact absurd h' ak.2
   obtain⟨o',aa,hq⟩:=hQ p hp hnsure;rw[ho] at aa;simp at aa;subst aa;have ac:p.1∈QR.map (·.1):=z0f.1 h;obtain⟨⟨⟨bc,ag⟩,_⟩,ao⟩:=b7 p.1 ac;obtain⟨t,ht⟩:=w19.1 bc;have a1:o.dst=some t:=by simpa[Tab.dst,ar] using ht
   have aw:z8g C o=true:=by simp only[z8g,a1];simpa[chk.isSomeLt,ht] using ao
   have a8:∀(v:Value)(r':Nat->Prop)(S':Nat->Nat->Prop)(w':World),Evo C.base r w r' w'->WInv C.w0 C.base s.objs r' S' w'->p.2.h r' w' v->wpAnyIn (fz C.rd) 0 P .any ops Q fuel (listed.setIfInBounds p.1 true) (a.put o.dst v) w':=by
    intro v r' S' w' d f hx;have av:=λt'=>zji a o.dst v t' (zgx aw hn)
    refine ih (listed.setIfInBounds p.1 true) _ w' (p.1::E) r' S' (ah _ _ _ ?_ ?_) ?_ ?_ f (he.trans d) ?_ ?_
    .intro j;simp only[w05];constructor
     .rintro(h|h|h)
      .exact .inr (.inl h)
      .exact .inl h
      .exact .inr (.inr h)
     .rintro(h|h|h)
      .exact .inr (.inl h)
      .exact .inl h
      .exact .inr (.inr h)
    .intro q ab;rcases w05.1 ab with rfl|h
     .exact ac
     .exact u.sub q h
    .rw[a1];exact hd
    .rw[a1];simp[Act.put,hn]
    .intro t' A hA;rw[av];by_cases e:o.dst=some t'
     .rw[if_pos e];rw[a1] at e;simp at e;subst e;rcases ba p hp t ht with hz|hz
      .rw[hz] at hA;cases hA
      .rw[hz] at hA;cases hA;exact hx
     .rw[if_neg e];exact A.evo d (hs t' A hA)
    .intro q x' t' ab hm a3;rw[av];have af:q∈QR.map (·.1):=w0b.2 ⟨_,hm,rfl⟩;by_cases e:o.dst=some t'
     .rw[if_pos e];have:q=p.1:=b4 q p.1 t' af ac a3 (by rw[ht,<- a1];exact e);subst this;have :(p.1,x')=p:=zbq br hm hp rfl;rw[<- this] at hx;exact hx
     .rw[if_neg e];rcases w05.1 ab with rfl|h
      .exact absurd (by rw[a1,<- ht];exact a3) e
      .exact x'.evo d (hf q x' t' h hm a3)
   unfold wpOpIn;rw[ho];unfold GQ at hq;cases hg:o.guard with
   |none=>rw[hg] at hq;simp only[Region.wanted,hg,if_true];refine Oper.wpIn_mono ?_ (OpT.fz hq a w r S Q hd hn hw a2);rintro a' w' ⟨v,r',S',x,objs',rfl,d,f,hx,rfl,rfl⟩;exact a8 v r' S' w' d f hx
   |some jw=>
    obtain⟨j,want⟩:=jw;rw[hg] at hq;obtain⟨pp,x0,tj,au,bj,hq,a6⟩:=hq;have hy :(pp->yielded ops a.tmps j=some want)/\(¬pp->yielded ops a.tmps j≠some want):=by
     rcases a6 with⟨g,ad,rfl⟩|⟨c,g,ad,rfl⟩
     .exact zud (y3h a0 au) ad a2
     .exact y0w (y3h a0 au) ad a2
    simp only[Region.wanted,hg];by_cases hc:pp
    .simp only[hy.1 hc,BEq.rfl,if_true];refine Oper.wpIn_mono ?_ (OpT.fz (hq hc) a w r S Q hd hn hw a2);rintro a' w' ⟨v,r',S',x,objs',rfl,d,f,hx,rfl,rfl⟩;exact a8 v r' S' w' d f (by rw[bj];exact⟨λ_=>hx,λh=>absurd hc h⟩)
    .have :(yielded ops a.tmps j==some want)=false:=by
      cases hb :(yielded ops a.tmps j==some want) with
      |false=>rfl
      |true=>exact absurd (by simpa using hb) (hy.2 hc)
     rw[this];simp only[w09,if_false];exact⟨λ_ _=>trivial,a8 undef r S w (Evo.refl _ _ _) hw (by rw[bj];exact⟨λh=>absurd h hc,λ_=>rfl⟩)⟩
  .-- one of bd others
   rcases w0j.1 (z0f.1 h) with h|h
   rotate_left
   .exact hW i h fuel listed a w E r S u hd hn hw he hs hf ae z λj hj ay _=>⟨λq=>(by rw[(u.lst j hj).2 (.inl q)] at ay;cases ay),λq=>(by rw[(u.lst j hj).2 (.inr q)] at ay;cases ay)⟩
   obtain⟨o',aa,aw,b9,hT⟩:=hL i h;rw[ho] at aa;simp at aa;subst aa;have aj:∀(v:Value)(r':Nat->Prop)(S':Nat->Nat->Prop)(w':World)(x:VP)(objs':List HP),Evo C.base r w r' w'->WInv C.w0 C.base objs' r' S' w'->x.h r' w' v->
     (∃N,(N.all λp=>!memB (QR.map (·.1)) p.1)=true/\Reg C ops tab Q (i::D) ⟨s.slots.set o.dst x,objs'⟩ (QR++N))->wpAnyIn (fz C.rd) 0 P .any ops Q fuel (listed.setIfInBounds i true) (a.put o.dst v) w':=by
    rintro v r' S' w' x objs' d f hx ⟨N,aq,bi⟩;have av:=λt'=>zji a o.dst v t' (zgx aw hn)
    refine bi fuel _ _ w' E r' S' (ah _ _ _ ?_ ?_) ?_ ?_ f (he.trans d) ?_ ?_
    .intro j;simp only[w05];exact⟨λh=>h.elim (λh=>h.elim .inl (λh=>.inr (.inl h))) (λh=>.inr (.inr h)),λh=>h.elim (λh=>.inl (.inl h)) (λh=>h.elim (λh=>.inl (.inr h)) .inr)⟩
    .intro q hq;obtain⟨p,hp,rfl⟩:=w0b.1 (u.sub q hq);exact w0b.2 ⟨p,w1f _ hp,rfl⟩
    .cases h:o.dst<;>simp[Act.put,hd]
    .cases h:o.dst<;>simp[Act.put,hn]
    .exact zj.put (zgx aw hn) (hs.evo d) hx
    .intro q x' t' ab hm a3;obtain⟨p,hp,c1⟩:=w0b.1 (u.sub q ab);have af:q∈QR.map (·.1):=u.sub q ab;rw[av,if_neg (b9 q af t' a3)]
     refine x'.evo d (hf q x' t' ab ?_ a3);rcases w0j.1 hm with h'|h'
     .exact h'
     .have:=w0a.1 aq _ h'
      simp only[w0v] at this;rw[z0f.2 af] at this;cases this
   unfold wpOpIn;rw[ho];unfold y7m at hT;cases hg:o.guard with
   |none=>rw[hg] at hT;simp only[Region.wanted,hg,if_true];refine Oper.wpIn_mono ?_ (OpT.fz hT a w r S Q hd hn hw a2);rintro a' w' ⟨v,r',S',x,objs',rfl,d,f,hx,hk⟩;exact aj v r' S' w' x objs' d f hx hk
   |some jw=>
    obtain⟨j,want⟩:=jw;rw[hg] at hT;obtain⟨pp,tj,au,a6,hq,bu⟩:=hT;have hy :(pp->yielded ops a.tmps j=some want)/\(¬pp->yielded ops a.tmps j≠some want):=by
     rcases a6 with⟨g,ad,rfl⟩|⟨c,g,ad,rfl⟩
     .exact zud (y3h a0 au) ad a2
     .exact y0w (y3h a0 au) ad a2
    simp only[Region.wanted,hg];by_cases hc:pp
    .simp only[hy.1 hc,BEq.rfl,if_true];refine Oper.wpIn_mono ?_ (OpT.fz (hq hc) a w r S Q hd hn hw a2);rintro a' w' ⟨v,r',S',x,objs',rfl,d,f,hx,hk⟩;exact aj v r' S' w' x objs' d f hx hk
    .have :(yielded ops a.tmps j==some want)=false:=by
      cases hb :(yielded ops a.tmps j==some want) with
      |false=>rfl
      |true=>exact absurd (by simpa using hb) (hy.2 hc)
     rw[this];simp only[w09,if_false];obtain⟨x,objs',hx,bw,hk⟩:=bu hc;obtain⟨S',f⟩:=bw r S w hw;exact⟨λ_ _=>trivial,aj undef r S' w x objs' (Evo.refl _ _ _) f (hx r w) hk⟩
  .rcases z e a7 with h'|h'
   .rw[z0f.2 h'] at h;cases h.1
   .have:=u.sub e h'
    rw[z0f.2 this] at h;cases h.2
theorem Reg.introG[Dr]{D:List Nat}{s:St}{QR:List (Nat×VP)}(d f:List Nat)(u:z02 ops=tab)(j:chk tab C.n D (QR.map (·.1)) d f=true)
  (g:zwo tab s.slots QR)
  (a0:AllP (λp=>memB f p.1=false->∃o,ops[p.1]? = some o/\GQ C tab o ⟨z1k tab (memB (tab.deps p.1)) s.slots QR,s.objs⟩ p.2) QR)
  (z:AllP (λi=>∃o,ops[i]? = some o/\z8g C o=true/\((QR.map (·.1)).all λq=>y0i (tab.dst q) o.dst)=true/\
   y7m C tab o ⟨z1k tab (memB (tab.deps i)) s.slots QR,s.objs⟩ (λx objs=>∃N,(N.all λp=>!memB (QR.map (·.1)) p.1)=true/\Reg C ops tab Q (i::D) ⟨s.slots.set o.dst x,objs⟩ (QR++N))) d)
  (hE:zek tab D (QR.map (·.1))=true->AtX C ⟨z1k tab (λ_=>true) s.slots QR,s.objs⟩ .normal Q):Reg C ops tab Q D s QR:=
 Reg.introW d [] f u (by rw[w0e];exact j) g a0 z (λ_ h=>by cases h) hE
theorem y0h[Dr]{id:Nat}{s:St}{QR:List (Nat×VP)}(hm:P.follows .mixedOrders=true)(h:Reg C ops tab Q [] s QR){a:Act}{w:World}(hs:Sat C s a w):(Code.region id ops true).wpIn (fz C.rd) 0 P Q a w:=by
 refine wpIn_region_any hm ?_;obtain⟨u,hn,r,S,hw,z,g⟩:=hs.drawn (w.drawn+1) (w54 _);refine h _ _ _ _ [] r S ⟨(λj hj=>by rcases hj with h|h<;>cases h),by simp,λi d=>by simp[d],(λq f=>by cases f),?_⟩ u hn hw z g (λq x t f=>by cases f);rw[w3b.2]
 .simp
 .intro i d;have:=w1d.1 d;simp[this]
end
end Px
end
section
namespace Px
open Go Go.RowKit
def zmz(P:Program)(t:TypeId)(i:Nat):Option (Nat×Nat):=match P.underlying t with
 |some (.struct fs)=>(fs[i]?).bind λf=>(P.info? f.type).map λj=>(f.offset,j.size)
 |some (.array _ e)=>(P.info? e).map λj=>(i*j.size,j.size)
 |_=>none
def zmy(P:Program)(t:TypeId):Bool:=match P.underlying t with
 |some (.struct fs)=>fs.toList.all λf=>(P.info? f.type).isSome
 |some (.array _ e)=>(P.info? e).isSome
 |_=>false
theorem zml:∀(vs:List Value)(k off:Nat)(cells:Array Value),off+k+vs.length<=cells.size->
  ((vs.zipIdx k).foldl (λcs(p:Value×Nat)=>cs.setIfInBounds (off+p.2) p.1) cells).toList=cells.toList.take (off+k)++vs++cells.toList.drop (off+k+vs.length)
 | [],k,off,cells,h=>by simp
 |v::vs,k,off,cells,h=>by
  simp only[w0o] at h;rw[List.zipIdx_cons,w1y,zml vs (k+1) off (cells.setIfInBounds (off+k) v) (by simp;omega)];simp only[Array.toList_setIfInBounds];have f:off+k<cells.toList.length:=by simp;omega
  rw[show off+(k+1)=off+k+1 from rfl,List.take_set,List.drop_set];have d :(cells.toList.take (off+k+1)).set (off+k) v=cells.toList.take (off+k)++[v]:=by
   rw[w32 f];rw[List.set_append_right _ _ (by rw[w1e];omega)];have:off+k-(List.take (off+k) cells.toList).length=0:=by rw[w1e];omega
   rw[this];rfl
  have g:¬off+k+1+vs.length<=off+k:=by omega
  rw[d,if_pos (by omega)];simp only[w0m,List.singleton_append,w0o];congr 3;omega
theorem zjg(v:Value)(off:Nat)(d:Array Value)(h:off+v.cells.size<=d.size):
  (v.cells.zipIdx.foldl (λcs(p:Value×Nat)=>cs.setIfInBounds (off+p.2) p.1) d) =(d.toList.take off++v.cells.toList++d.toList.drop (off+v.cells.toList.length)).toArray:=by
 apply w4u;have:=zml v.cells.toList 0 off d (by simpa using h);rw[<- Array.foldl_toList];simpa using this
def lay:List VP->List (Nat×List VP)->List VP
 |cs,[]=>cs
 |cs,(off,ds)::r=>lay (cs.take off++ds++cs.drop (off+ds.length)) r
def yc6(s:St)(place:Nat->Option (Nat×Nat))(n:Nat):List (Nat×Operand)->List (Nat×List VP)->Prop
 | [],[]=>True
 |(i,o)::r,(off,ds)::r'=>place i=some (off,ds.length)/\off+ds.length<=n/\Ce s o ds/\yc6 s place n r r'
 |_,_=>False
theorem zw3{s:St}{a:Act}{r:Nat->Prop}{w:World}(u:zj s.slots a r w){place place':Nat->Option (Nat×Nat)}(d:∀i p,place i=some p->place' i=some p){n:Nat}:
  ∀(ps:List (Nat×Operand))(f:List (Nat×List VP))(cs:List VP)(cells:Array Value),cells.size=n->yc6 s place n ps f->zr r w cs cells.toList->
   ∃out:Array Value,Instr.fill place' cells (ps.map λp=>(p.1,a.eval p.2))=some out/\zr r w (lay cs f) out.toList
 | [],[],cs,cells,_,_,h=>⟨cells,rfl,h⟩
 |(i,o)::ps,(off,g)::f,cs,cells,hn,⟨h1,h2,h3,h4⟩,h=>by
  have z:=h3 a r w u;have j :(a.eval o).cells.size=g.length:=by have:=z.1;simp at this;omega
  have a0:cs.length=n:=by have:=h.1;simp at this;omega
  have hb:off+(a.eval o).cells.size<=cells.size:=by omega
  obtain⟨out,ho,hh⟩:=zw3 u d ps f (cs.take off++g++cs.drop (off+g.length)) (cells.toList.take off++(a.eval o).cells.toList++cells.toList.drop (off+(a.eval o).cells.toList.length)).toArray
   (by simp;omega) h4 (zr.splice h z off (by omega))
  refine⟨out,?_,hh⟩;simp only[w0l,Instr.fill,d i _ h1];rw[if_neg (by simp[hn,j];omega),zjg _ _ _ hb];exact ho
 | [],_::_,_,_,_,h,_=>h.elim
 |_::_,[],_,_,_,h,_=>h.elim
theorem zt6{P:Program}(w:World):∀(fs:List Field),fs.all (λf=>(P.info? f.type).isSome)=true->
  (fs.mapM (m:=Sem) λf=>do pure (f.offset,<- Go.sizeOf f.type)).run P w = .ok (fs.map λf=>(f.offset,P.cellsOf f.type)) w
 | [],_=>rfl
 |f::fs,h=>by
  simp only[w1h,w02] at h;obtain⟨i,g⟩:=w19.1 h.1;have j:=zt6 (P:=P) w fs h.2;have d :(Go.sizeOf f.type).run P w = .ok i.size w:=by simp[Go.sizeOf,typeInfo,g]
  rw[List.mapM_cons];simp only[w08,d,w06,w0p,j,w0l,Program.cellsOf,g,w0z,w1b]
section ops
variable{P:Program}{C:Cx P}{s:St}{dst:Option Tmp}{ty:TypeId}{pos:String}{after:Array Edge}{guard:Option (Nat×Bool)}{K:VP->List HP->Prop}
theorem yaf[Dr]{t:TypeId}{d:Array (Nat×Operand)}(zs:List Value)(qs:List (Nat×List VP)){out:List VP}(hz:zwf P t=some zs)(h1:zs.all (·.oneCell')=true)(hb:zmy P t=true)
  (hp:yc6 s (zmz P t) zs.length d.toList qs) (u:lay (zs.map eqv) qs=out):OpQ C ⟨dst,.build t d,ty,pos,after,guard⟩ s (agg out):=
 .val λa r w hs=>by
  obtain⟨z,a3,a2⟩:=zzo hz w;have a4:z.cells.size=zs.length:=by rw[<- a2];simp
  have a1:zr r w (zs.map eqv) z.cells.toList:=by rw[a2];exact zbm h1
  have h :(d.map λ(p:Nat×Operand)=>(p.1,a.eval p.2)).toList=d.toList.map λp=>(p.1,a.eval p.2):=by simp
  unfold zmy at hb;split at hb
  .rename_i fs hu;obtain⟨o,ho,hh⟩:=zw3 hs (place:=zmz P t) (place':=λi=>((fs.toList.map λf=>(f.offset,P.cellsOf f.type)).toArray)[i]?) (by
    intro i p g;simp only[zmz,hu] at g;cases hf:fs[i]? with
    |none=>rw[hf] at g;simp at g
    |some f=>rw[hf] at g;simp only[w00,w1w] at g;obtain⟨j,hj,rfl⟩:=g;simp[hf,Program.cellsOf,hj]) d.toList qs _ z.cells a4 hp a1
   refine⟨.agg o,?_,o,rfl,u ▸ hh⟩;have a5:=zt6 w fs.toList hb;have a0 :(fs.mapM (m:=Sem) λf=>do pure (f.offset,<- Go.sizeOf f.type)).run P w = .ok (fs.toList.map λf=>(f.offset,P.cellsOf f.type)).toArray w:=by rw[Array.mapM_eq_mapM_toList];simp only[Sem.run_map,a5,w06]
   simp only[execOp,Instr.build,w08,a3,w06,run_underlying hu,a0,h,ho,w0p]
  .rename_i n e hu;obtain⟨j,hj⟩:=w19.1 hb;obtain⟨o,ho,hh⟩:=zw3 hs (place:=zmz P t) (place':=λi=>some (i*j.size,j.size)) (by intro i p g;simp only[zmz,hu,hj,w0z] at g;exact g) d.toList qs _ z.cells a4 hp a1;refine⟨.agg o,?_,o,rfl,u ▸ hh⟩;simp only[execOp,Instr.build,w08,a3,w06,run_underlying hu,Go.sizeOf,typeInfo,run_program,hj,h,ho,w0p]
  .cases hb
def y7h{α:Type}(s:St)(e:α->List VP):Nat->List (Nat×Operand)->List α->Prop
 |_,[],[]=>True
 |k,(i,o)::r,x::l=>i=k/\Ce s o (e x)/\y7h s e (k+1) r l
 |_,_,_=>False
theorem zz4{α:Type}{s:St}{a:Act}{r:Nat->Prop}{w:World}(hs:zj s.slots a r w){e:α->List VP}{sz:Nat}(he:∀x,(e x).length=sz):
  ∀(ps:List (Nat×Operand))(l:List α)(k:Nat)(pre:List Value)(post:List Value),pre.length=k*sz->post.length=l.length*sz->y7h s e k ps l->
   ∃us,Instr.fill (λi=>some (i*sz,sz)) (pre++post).toArray (ps.map λp=>(p.1,a.eval p.2))=some (pre++us).toArray/\zr r w (l.flatMap e) us
 | [],[],k,pre,post,z,j,_=>⟨[],by have:post = []:=w14 (by simpa using j);subst this;rfl,by simp[zr]⟩
 |(i,o)::ps,x::l,k,pre,post,z,j,⟨u,h3,h4⟩=>by
  subst u;have hv:=h3 a r w hs;have f :(a.eval o).cells.size=sz:=by have:=hv.1;simp at this;rw[he] at this;omega
  simp only[w0o,w1s,w3x] at j;have hb:i*sz+(a.eval o).cells.size<=(pre++post).toArray.size:=by simp;omega
  have d:=zjg (a.eval o) (i*sz) (pre++post).toArray hb;have g :(a.eval o).cells.toList.length=sz:=by simpa using f
  have e1 :((pre++post).toArray.toList.take (i*sz)++(a.eval o).cells.toList++(pre++post).toArray.toList.drop (i*sz+(a.eval o).cells.toList.length)) =(pre++(a.eval o).cells.toList)++post.drop sz:=by simp only[w39,g];rw[w2k (by omega),w2q (by omega),w5j,w2z (by omega)];simp only[w1z];congr 2;omega
  obtain⟨us,hu,hh⟩:=zz4 hs he ps l (i+1) (pre++(a.eval o).cells.toList) (post.drop sz) (by rw[w0h,g,z,w1s];omega) (by rw[w5k];omega) h4;refine⟨(a.eval o).cells.toList++us,?_,?_⟩
  .simp only[w0l,Instr.fill];rw[if_neg (by simp[f];omega),d,e1,hu,w0m]
  .rw[w0u];exact zr.append hv hh
 | [],_::_,_,_,_,_,_,h=>h.elim
 |_::_,[],_,_,_,_,_,h=>h.elim
theorem zmt[Dr]{α:Type}{t E:TypeId}{e:α->List VP}{sz a4 n:Nat}{d:Array (Nat×Operand)}(l:List α)(ht:tsl P t=some (E,sz,a4))(he:∀x,(e x).length=sz)
  (hl:l.length=n) (a7:n*sz<=16777216) (hp:y7h s e 0 d.toList l) (k:∀v',K (eqv v') (s.objs++[row E e sz l v'])):OpT C ⟨dst,.buildSlice t n d,ty,pos,after,guard⟩ s K:=by
 intro a w r S Q hd hn hw hs;obtain⟨i,zv,hu,hi,a6,rfl,rfl,a8,a0⟩:=zks ht;have z :(d.map λ(p:Nat×Operand)=>(p.1,a.eval p.2)).toList=d.toList.map λp=>(p.1,a.eval p.2):=by simp
 obtain⟨us,f,a3⟩:=zz4 hs he d.toList l 0 [] ((List.range (n*i.size)).map λj=>zv.cells[j % zv.cells.size]!) (by simp) (by simp[hl]) hp;have a2:us.length=l.length*i.size:=by rw[<- a3.1,z6e he]
 have hz :(zeroValue E).run P w = .ok zv w:=by simp[zeroValue,typeInfo,hi,a6]
 have g:∀Z:Array Value,(n*i.size≠0->Z=zv.cells)->(Array.range (n*i.size)).map (λj=>Z[j % Z.size]!) =(([]:List Value)++(List.range (n*i.size)).map λj=>zv.cells[j % zv.cells.size]!).toArray:=by
  intro Z hZ;by_cases h0:n*i.size=0
  .rw[h0];apply w4u;simp
  .rw[hZ h0];apply w4u;simp[Array.toList_range]
 have a1 :(execOp a.eval ⟨dst,.buildSlice t n d,ty,pos,after,guard⟩).run P w = .ok (.value (.slice (some ⟨w.heap.size,0,none⟩) n n)) (w.alloc (.cells us.toArray E)):=by
  have a5:¬n*i.size > 2 ^ 24:=by omega
  simp only[execOp,Instr.buildSlice,w08,run_underlying hu,w06,Go.sizeOf,typeInfo,run_program,hi,w0p,if_neg a5];split
  .rename_i h0;simp only[w08,w0p,w06];rw[g _ (λh=>absurd h0 h),z,f];simp[newRow]
  .simp only[w08,hz,w0p,w06];rw[g _ (λ_=>rfl),z,f];simp[newRow]
 unfold Oper.wp;rw[a1,Oper.upon_value];refine⟨_,r,_,_,_,rfl,hw.evo_alloc _,hw.push _ _ ?_,rfl,k _⟩;by_cases u:n<=maxLen
 .refine .inr ⟨w.heap.size,n,_,by rw[hl],rfl,heap_alloc_new w _,by omega,u,by simp[a2,hl],?_⟩;have:us.toArray.toList.take (l.length*i.size)=us:=by rw[w39,<- a2];exact w11
  rw[this];exact a3.mono (λ_ h=>h) (λb hb=>Below.heap_alloc _ _ _ (hw.old b hb))
 .have:n<=n*i.size:=Nat.le_mul_of_pos_right _ a0;simp[maxLen] at u;omega
theorem zr.vals{r:Nat->Prop}{w:World}: ∀{vs us:List Value},zr r w (vs.map eqv) us->us=vs:=by
 intro vs us h;apply w36;intro j;by_cases f:j<vs.length
 .obtain⟨u,g,d,_⟩:=h.2 j (eqv vs[j]) (by simp[f]);simp only[eqv] at d;rw[g,d,w0c f]
 .have:=h.1
  simp at this;rw[w1t (by omega),w1t (by omega)]
theorem yn2[Dr]{t t':TypeId}{x y:Operand}{cs ds:List VP}(vs us:List Value){g:Bool}(hx:Ev s x (agg cs))(hy:Ev s y (agg ds))(d:cs=vs.map eqv)(f:ds=us.map eqv)
  (hg:P.eqGuardType P.depth t=false) (hr:∀w,(Op.equal t (.agg vs.toArray) (.agg us.toArray)).run P w = .ok g w):OpQ C ⟨dst,.binOp .eql t x y t',ty,pos,after,guard⟩ s (bv g):=
 .val λa r w hs=>by
  obtain⟨xs,j,h⟩:=hx a r w hs;obtain⟨ys,z,u⟩:=hy a r w hs;subst d;subst f;have e1:xs=vs.toArray:=by rw[<- h.vals]
  have e2:ys=us.toArray:=by rw[<- u.vals]
  subst e1;subst e2;exact⟨_,by simp[execOp,j,z,eqGuard,hg,binOp,hr w],rfl⟩
theorem ynb[Dr]{t t':TypeId}{x y:Operand}{cs ds:List VP}(vs us:List Value){g:Bool}(hx:Ev s x (agg cs))(hy:Ev s y (agg ds))(d:cs=vs.map eqv)(f:ds=us.map eqv)
  (hg:P.eqGuardType P.depth t=false) (hr:∀w,(Op.equal t (.agg vs.toArray) (.agg us.toArray)).run P w = .ok g w):OpQ C ⟨dst,.binOp .neq t x y t',ty,pos,after,guard⟩ s (bv (!g)):=
 .val λa r w hs=>by
  obtain⟨xs,j,h⟩:=hx a r w hs;obtain⟨ys,z,u⟩:=hy a r w hs;subst d;subst f;have e1:xs=vs.toArray:=by rw[<- h.vals]
  have e2:ys=us.toArray:=by rw[<- u.vals]
  subst e1;subst e2;exact⟨_,by simp[execOp,j,z,eqGuard,hg,binOp,hr w],rfl⟩
end ops
end Px
end
section
namespace Px
open Go Go.RowKit
def ck{ρ:Type}(p:Prop)[Decidable p](x:Option ρ):Option ρ:=if p then x else none
theorem zef{ρ:Type}{p:Prop}[Decidable p]{x:Option ρ}{r:ρ}(h:ck p x=some r):p/\x=some r:=by
 unfold ck at h;split at h
 .exact⟨by assumption,h⟩
 .cases h
theorem z6{ρ:Type}{p:Prop}[Decidable p]{x:Option ρ}(h:p):ck p x=x:=if_pos h
theorem bind_some{α ρ:Type}{x:Option α}{f:α->Option ρ}{r:ρ}(h:x.bind f=some r):∃y,x=some y/\f y=some r:=by
 cases x with
 |none=>cases h
 |some y=>exact⟨y,rfl,h⟩
def gt{α:Type}[Inhabited α](l:List α)(i:Int):α:=l.getD i.toNat default
def zo{α:Type}(l:List α)(i:Int)(x:α):List α:=l.set i.toNat x
def fits(n b:Nat):Prop:=n*b<=140737488355328
instance(n b:Nat):Decidable (fits n b):=inferInstanceAs (Decidable (_<=_))
theorem yde{n b:Nat}(d:0<b)(h:fits n b):n<=maxLen:=by unfold fits at h;have:n<=n*b:=Nat.le_mul_of_pos_right _ d;simp[maxLen];omega
def zd(n:Int)(b:Nat):Prop:=0<=n/\(b:Int)*n<=281474976710656/\n<=9223372036854775807
instance(n:Int)(b:Nat):Decidable (zd n b):=inferInstanceAs (Decidable (_/\_))
abbrev W(n:Int):Int:=IntKind.wrap .i64 n
abbrev U(n:Int):Int:=IntKind.wrap .u64 n
def arr{α:Type}(N:Nat)(e:α->List VP)(f:Nat->α):List VP:=(List.range N).flatMap λi=>e (f i)
def upd{α:Type}(f:Nat->α)(k:Nat)(x:α):Nat->α:=λj=>if j=k then x else f j
theorem y2x{α:Type}(N:Nat)(e:α->List VP)(f:Nat->α):arr N e f =((List.range N).map f).flatMap e:=by simp[arr,w5l]
theorem zi4{α:Type}{N sz:Nat}{e:α->List VP}{f:Nat->α}(d:∀x,(e x).length=sz):(arr N e f).length=N*sz:=by rw[y2x,z6e d];simp
theorem zwt{α:Type}{N sz k:Nat}{e:α->List VP}{f:Nat->α}(g:∀x,(e x).length=sz)(u:k<N):((arr N e f).drop (k*sz)).take sz=e (f k):=by
 apply w36;intro j;by_cases h:j<sz
 .rw[w0x,if_pos h,w20];have d:j<(e (f k)).length:=by rw[g];exact h
  rw[w0c d,y2x];exact z4t g _ k (f k) (by simp[u]) j _ (w0c d)
 .rw[w0x,if_neg h,w1t (by rw[g];omega)]
theorem yh0{α:Type}{N sz k:Nat}{e:α->List VP}{f:Nat->α}{x:α}(d:∀x,(e x).length=sz)(u:k<N):
  (arr N e f).take (k*sz)++e x++(arr N e f).drop (k*sz+sz)=arr N e (upd f k x):=by
 have h1 :((List.range N).map f).set k x =(List.range N).map (upd f k x):=by
  apply w36;intro j;rw[w2a];by_cases e:k=j
  .subst e;simp[u,upd]
  .have:¬j=k:=λh=>e h.symm
   have z:upd f k x j=f j:=if_neg this;rw[if_neg e,w1r,w1r];by_cases g:j<N
   .simp[g,z]
   .simp[g]
 have:=zi7 d ((List.range N).map f) k (f k) x 0 (e x) (by simp[u]) (by rw[d];omega) (by simp[d]);rw[h1] at this;rw[y2x,y2x,this];simp[d]
section
variable{P:Program}{C:Cx P}{s:St}{x:Operand}{α:Type}
theorem zsg{pre post:List VP}{N sz k off n:Nat}{e:α->List VP}{f:Nat->α}{y:α}{cs:List VP}(j:∀x,(e x).length=sz)(d:off=pre.length+k*sz)(u:k<N)(z:n=sz)(g:cs=e y):
  (pre++Px.arr N e f++post).take off++cs++(pre++Px.arr N e f++post).drop (off+n)=pre++Px.arr N e (upd f k y)++post:=by
 have hl:=zi4 (N:=N) (f:=f) j;have h :(k+1)*sz<=N*sz:=w1p _ u;rw[w1s] at h;subst z;subst g;rw[d,w0m pre,w2v,w40,w3e,w2k (by omega),w2s (by omega),<- yh0 j u];simp[w0m]
end
section ops
variable{P:Program}{C:Cx P}{s:St}{dst:Option Tmp}{ty:TypeId}{pos:String}{after:Array Edge}{guard:Option (Nat×Bool)}{K:VP->List HP->Prop}
end ops
section zrk
variable{P:Program}{C:Cx P}{s:St}{Q:Exit->Act->World->Prop}{x y:Code}
end zrk
end Px
end
section
namespace Px
open Go Go.RowKit
def zfq(objs:List HP):List Nat->List HP->Prop
 | [],[]=>True
 |i::is,B::O=>(∃A,objs[i]? = some A/\EntH A B)/\zfq objs is O
 |_,_=>False
theorem zfq.at{d:List HP}: ∀{f:List Nat}{O:List HP},zfq d f O->f.length=O.length/\∀(k:Nat)(B:HP),O[k]? = some B->∃i A,f[k]? = some i/\d[i]? = some A/\EntH A B
 | [],[],_=>⟨rfl,λk B h=>by simp at h⟩
 |i::f,B::O,⟨⟨A,z,he⟩,hr⟩=>by
  obtain⟨j,u⟩:=hr.at;refine⟨by simp[j],λk D g=>?_⟩;cases k with
  |zero=>simp at g;subst g;exact⟨i,A,rfl,z,he⟩
  |succ k=>simpa using u k D (by simpa using g)
 | [],_::_,h=>h.elim
 |_::_,[],h=>h.elim
theorem y4l:∀{l:List Nat},l.Nodup->∀{i j x:Nat},l[i]? = some x->l[j]? = some x->i=j
 | [],_,_,_,_,h,_=>by simp at h
 |y::l,h,0,0,_,_,_=>rfl
 |y::l,h,0,j+1,x,d,f=>by simp at d f;subst d;exact absurd (w17 f) (w1x.1 h).1
 |y::l,h,i+1,0,x,d,f=>by simp at d f;subst f;exact absurd (w17 d) (w1x.1 h).1
 |y::l,h,i+1,j+1,x,d,f=>by have:=y4l (w1x.1 h).2 (i:=i) (j:=j) (by simpa using d) (by simpa using f);omega
theorem WInv.sel[Dr]{w0 w:World}{d:Nat}{f O:List HP}{is:List Nat}{r:Nat->Prop}{S:Nat->Nat->Prop}(h:WInv w0 d f r S w)(hO:zfq f is O)(hn:zga is=true):
  WInv w0 d O r (λk b=>∃i,is[k]? = some i/\S i b) w where
 below:=h.below
 size:=h.size
 obj:=λk B hk=>by
  obtain⟨i,A,u,hA,he⟩:=hO.at.2 k B hk;have :(λb=>∃j,is[k]? = some j/\S j b)=S i:=by funext b;rw[u];exact propext ⟨λ⟨j,z,g⟩=>by simp at z;subst z;exact g,λg=>⟨i,rfl,g⟩⟩
  rw[this];exact he _ _ _ (h.obj i A hA)
 own:=λk b ⟨i,u,g⟩=>by obtain⟨_,h2,h3,h4⟩:=h.own i b g;have:=(w04.1 u).1;exact⟨by rw[<- hO.at.1];exact this,h2,h3,h4⟩
 apart:=λk l b ⟨i,u,g⟩ ⟨j,z,a0⟩=>by have:=h.apart i j b g a0;subst this;exact y4l (zbg hn) u z
 old:=h.old
section atx
variable{P:Program}{C:Cx P}{s:St}{Q:Exit->Act->World->Prop}{x y c:Code}{e:Exit}
variable{fn:Func}{K:VP->List HP->Prop}
end atx
def zbi:List VP->Prop
 | []=>True
 |A::l=>A.flat/\zbi l
theorem zbi.mem:∀{l:List VP},zbi l->∀A∈l,A.flat
 |_::_,⟨h,_⟩,_,.head _=>h
 |_::_,⟨_,h⟩,A,.tail _ d=>zbi.mem h A d
theorem y8t{xs:List VP}(h:zbi xs):(agg xs).flat:=ydf h.mem
theorem zxo{α:Type}{E:TypeId}{e:α->List VP}{sz:Nat}{l:List α}{sv:Value}(h:∀x,zbi (e x)):(row E e sz l sv).flat:=y3p λx=>(h x).mem
theorem OpT.of_q[Dr]{P:Program}{C:Cx P}{o:Oper}{s:St}{x:VP}{K:VP->List HP->Prop}(h:OpQ C o s x)(k:K x s.objs):OpT C o s K:=h.mono λy objs ⟨hy,d⟩=>by subst hy;subst d;exact k
theorem y2e{α:Type}{E:TypeId}{e:α->List VP}{sz:Nat}{l:List α}{sv:Value}{S r:Nat->Prop}{w:World}(h :(row E e sz l sv).h S r w):sv.oneCell'=true:=by rcases h with⟨rfl,_⟩|⟨g,d,cur,rfl,_⟩<;>rfl
theorem Pt.ofArrF[Dr]{P:Program}{C:Cx P}{s:St}{x:Operand}{α:Type}(i:Nat){b off:Nat}{T:TypeId}{pre post:List VP}{N sz k fo:Nat}{e:α->List VP}{f:Nat->α}{cs:List VP}(h:Ev s x (eqv (.pointer (some ⟨b,off,none⟩))))
  (ho:s.objs[i]? = some (Px.box b T (pre++Px.arr N e f++post))) (he:∀x,(e x).length=sz) (j:off=pre.length+k*sz+fo) (hk:k<N) (hc :(e (f k)).drop fo=cs):Pt C s x cs:=by
 intro a r S w hw hs;obtain⟨hS,cur,g,hh⟩:=hw.obj i _ ho;refine⟨b,off,h a r w hs,?_⟩;have z:=(hh.rd g).drop (pre.length+k*sz);have hl:=zi4 (N:=N) (f:=f) he;have u :(k+1)*sz<=N*sz:=w1p _ hk;rw[w1s] at u;have d:=(z.take sz).drop fo;rw[w0m,w3e,w2s (by omega),w2k (by rw[w5k];omega),zwt he hk,hc,w1j,<- j] at d;exact d
section ops
variable{P:Program}{C:Cx P}{s:St}{dst:Option Tmp}{ty:TypeId}{pos:String}{after:Array Edge}{guard:Option (Nat×Bool)}{K:VP->List HP->Prop}
def z75(s:ByteArray)(i:Int):Int:=(s.data.toList.getD i.toNat 0).toNat
theorem yel[Dr]{t:TypeId}{x i:Operand}{k:IntKind}{m:Int}{bs:ByteArray}{n:Nat}(ht:P.underlying t=some .string)(h:Ev s x (eqv (.string bs)))(hi:Ev s i (iv k m))(hn:bs.size=n)(z:0<=m)(h1:m<n):
  OpQ C ⟨dst,.index t x i,ty,pos,after,guard⟩ s (iv .u8 (z75 bs m)):=
 .val λa r w u=>by
  have g:=hi a r w u;have j:=h a r w u;simp only[iv,eqv] at g j;have d:m.toNat<bs.size:=by omega
  have hb:bs[m.toNat]? = some bs[m.toNat]:=by simp[d]
  have hv :((bs[m.toNat]).toNat:Int)=z75 bs m:=by
   have f:m.toNat<bs.data.toList.length:=by simpa using d
   simp only[z75,List.getD,w0c f,w1b];rfl
  refine⟨_,?_,rfl⟩;simp only[execOp,Instr.index,g,j,w08,asIntOf,w0p,w06,run_underlying ht,if_pos z,hb,hv]
theorem y6p[Dr]{x:Operand}{b o:Nat}(h:Ev s x (eqv (.pointer (some ⟨b,o,none⟩)))):OpQ C ⟨dst,.nilCheck x,ty,pos,after,guard⟩ s (eqv (.pointer (some ⟨b,o,none⟩))):=
 .val λa r w f=>⟨_,by have d:=h a r w f;simp only[eqv] at d;simp only[execOp,d];rfl,rfl⟩
def min2(x y:Int):Int:=if y<x then y else x
def max2(x y:Int):Int:=if x<y then y else x
def zo3(s:St)(k:IntKind):List Operand->List Int->Prop
 | [],[]=>True
 |o::os,n::ns=>Ev s o (iv k n)/\zo3 s k os ns
 |_,_=>False
theorem zo3.map{k:IntKind}{a:Act}{r:Nat->Prop}{w:World}(g:zj s.slots a r w):∀{os:List Operand}{d:List Int},zo3 s k os d->os.map a.eval=d.map (.int k)
 | [],[],_=>rfl
 |o::os,n::d,⟨h,j⟩=>by have f:=h a r w g;simp only[iv,eqv] at f;rw[w0l,w0l,f,zo3.map g j]
 | [],_::_,h=>h.elim
 |_::_,[],h=>h.elim
theorem yb2{P:Program}{k:IntKind}(w:World):∀(d:List Int)(m:Int),((d.map (Value.int k)).foldlM Builtin.min2 (.int k m)).run P w = .ok (.int k (d.foldl min2 m)) w
 | [],m=>rfl
 |n::d,m=>by rw[w0l,w5m,w1y];simp only[w08,Builtin.min2,w0p,w06];exact yb2 w d _
theorem yb1{P:Program}{k:IntKind}(w:World):∀(d:List Int)(m:Int),((d.map (Value.int k)).foldlM Builtin.max2 (.int k m)).run P w = .ok (.int k (d.foldl max2 m)) w
 | [],m=>rfl
 |n::d,m=>by
  rw[w0l,w5m,w1y];have f :(Builtin.max2 (.int k m) (.int k n)).run P w = .ok (.int k (max2 m n)) w:=by simp only[Builtin.max2,w0p,max2]
  simp only[w08,f,w06];exact yb1 w d _
theorem yn9[Dr]{x:Operand}{xs:List Operand}{z:Array TypeId}{k:IntKind}{m:Int}{n:List Int}(u:Ev s x (iv k m))(j:zo3 s k xs n):
  OpQ C ⟨dst,.call { callee:=.builtin .min,args:=⟨x::xs⟩,argTypes:=z },ty,pos,after,guard⟩ s (iv k (n.foldl min2 m)):=
 .val λa r w g=>by
  have d:=u a r w g;have f:=j.map g;simp only[iv,eqv] at d;refine⟨_,?_,rfl⟩;have h :(Array.map a.eval ⟨x::xs⟩).toList = .int k m::n.map (.int k):=by simp[d,f]
  simp[execOp,resolve,invoke,builtin,Builtin.min_,h,yb2,d,f]
theorem yn8[Dr]{x:Operand}{xs:List Operand}{z:Array TypeId}{k:IntKind}{m:Int}{n:List Int}(u:Ev s x (iv k m))(j:zo3 s k xs n):
  OpQ C ⟨dst,.call { callee:=.builtin .max,args:=⟨x::xs⟩,argTypes:=z },ty,pos,after,guard⟩ s (iv k (n.foldl max2 m)):=
 .val λa r w g=>by
  have d:=u a r w g;have f:=j.map g;simp only[iv,eqv] at d;refine⟨_,?_,rfl⟩;have h :(Array.map a.eval ⟨x::xs⟩).toList = .int k m::n.map (.int k):=by simp[d,f]
  simp[execOp,resolve,invoke,builtin,Builtin.max_,h,yb1,d,f]
theorem yai[Dr]{α:Type}{t:TypeId}{len d:Nat}{x i:Operand}{k:IntKind}{m:Int}{e:α->List VP}{f:Nat->α}(ht:tidx P t=some (true,len,d))(h:Ev s x (rop ([]++arr len e f++[])))(hi:Ev s i (iv k m))
  (he:∀x,(e x).length=d) (u:0<=m) (z:m<len):OpQ C ⟨dst,.indexAddr t x i,ty,pos,after,guard⟩ s (rop (e (f m.toNat))):=
 .val λa r w j=>by
  have g:=hi a r w j;simp only[iv,eqv] at g;obtain⟨b,o,hx,hr,hh⟩:=h a r w j;refine⟨_,by simp only[execOp,hx,g,w08,zmv w ht u z];rfl,b,_,rfl,hr,?_⟩;have:=(hh.drop (m.toNat*d)).take d;rw[w1z,w0e,zwt he (by omega)] at this;exact this
end ops
instance:Inhabited ByteArray:=⟨⟨#[]⟩⟩
end Px
end
section
namespace Px
open Go Go.RowKit
def FzV(sv:Value)(X A B:VP):Prop:=∀r w v,X.h r w sv->A.h r w v->B.h r w v
def FzH(sv:Value)(X:VP)(A B:HP):Prop:=∀S r w,X.h r w sv->A.h S r w->B.h S r w
section fz
variable{sv:Value}{X:VP}
theorem FzV.refl{A:VP}: FzV sv X A A:=λ_ _ _ _ h=>h
theorem FzV.here:FzV sv X (eqv sv) X:=λr w v hx h=>by simp only[eqv] at h;subst h;exact hx
def FzVs(sv:Value)(X:VP):List VP->List VP->Prop
 | [],[]=>True
 |A::l,B::m=>FzV sv X A B/\FzVs sv X l m
 |_,_=>False
theorem FzVs.cells{r:Nat->Prop}{w:World}(g:X.h r w sv):∀{l m:List VP}{vs:List Value},FzVs sv X l m->zr r w l vs->zr r w m vs
 | [],[],vs,_,h=>h
 |A::l,B::m,vs,⟨hA,hr⟩,h=>by
  cases vs with
  |nil=>simp[zr] at h
  |cons u vs=>
   have z:zr r w l vs:=⟨by simpa using h.1,λj D d=>by simpa using h.2 (j+1) D (by simpa using d)⟩;have k:=FzVs.cells g hr z;refine⟨by simpa using k.1,λj D d=>?_⟩;cases j with
   |zero=>simp at d;subst d;obtain⟨u',hu,f,ho⟩:=h.2 0 A rfl;exact⟨u',hu,hA _ _ _ g f,ho⟩
   |succ j=>simpa using k.2 j D (by simpa using d)
 | [],_::_,_,h,_=>h.elim
 |_::_,[],_,h,_=>h.elim
theorem FzV.agg{cs d:List VP}(h:FzVs sv X cs d):FzV sv X (agg cs) (agg d):=λr w v hx ⟨vs,e,hh⟩=>⟨vs,e,h.cells hx hh⟩
theorem FzH.refl{A:HP}: FzH sv X A A:=λ_ _ _ _ h=>h
theorem FzH.box{b:Nat}{T:TypeId}{cs d:List VP}(h:FzVs sv X cs d):FzH sv X (box b T cs) (box b T d):=λS r w hx ⟨f,cur,g,hh⟩=>⟨f,cur,g,h.cells hx hh⟩
def zmf(sv:Value)(X:VP):List HP->List HP->Prop
 | [],[]=>True
 |A::l,B::m=>FzH sv X A B/\zmf sv X l m
 |_,_=>False
theorem zmf.at:∀{l m:List HP},zmf sv X l m->l.length=m.length/\∀(i:Nat)(B:HP),m[i]? = some B->∃A,l[i]? = some A/\FzH sv X A B
 | [],[],_=>⟨rfl,λi B h=>by simp at h⟩
 |A::l,B::m,⟨j,u⟩=>by
  obtain⟨f,g⟩:=zmf.at u;refine⟨by simp[f],λi D d=>?_⟩;cases i with
  |zero=>simp at d;subst d;exact⟨A,rfl,j⟩
  |succ i=>simpa using g i D (by simpa using d)
 | [],_::_,h=>h.elim
 |_::_,[],h=>h.elim
end fz
section freeze
variable{P:Program}{C:Cx P}{s:St}{Q:Exit->Act->World->Prop}{c:Code}{e:Exit}{ops:Array Oper}{l:List Nat}
variable{α:Type}{E:TypeId}{en:α->List VP}{sz:Nat}{xs:List α}{sv:Value}
def when(g:Prop)[Decidable g](H:HP):HP:=if g then H else emp
end freeze
section parts
variable{P:Program}{C:Cx P}{s:St}{dst:Option Tmp}{ty:TypeId}{pos:String}{after:Array Edge}{guard:Option (Nat×Bool)}
theorem yen[Dr]{t:TypeId}{x:Operand}{cs:List VP}{n:Nat}(f:z5n P t=some (true,n))(d:cs.length=n)(h:Pt C s x cs):OpQ C ⟨dst,.load t x,ty,pos,after,guard⟩ s (agg cs):=yj5 (d ▸ f) h
theorem zz7{t:TypeId}{n off:Nat}{vs:Array Value}(w:World)(h:z5n P t=some (true,n)):(part t vs off).run P w = .ok (.agg (vs.extract off (off+n))) w:=by simp only[part,w08,zkm w h,w06,if_true,z8i w h,w0p]
theorem zkn{t:TypeId}{n off:Nat}{vs:Array Value}{u:Value}(w:World)(h:z5n P t=some (false,n))(d:vs[off]? = some u):(part t vs off).run P w = .ok u w:=by simp only[part,w08,zkm w h,w06,w09,if_false,d,w0p]
theorem zr.extract{r:Nat->Prop}{w:World}{cs:List VP}{vs:Array Value}(h:zr r w cs vs.toList)(off n:Nat):zr r w ((cs.drop off).take n) (vs.extract off (off+n)).toList:=by
 have e :(vs.extract off (off+n)).toList =(vs.toList.drop off).take n:=by simp[Array.toList_extract,List.take_drop,List.extract]
 rw[e];refine⟨by simp[h.1],λj A d=>?_⟩;rw[w0x] at d⊢;split at d
 .rename_i c;rw[if_pos c];rw[w20] at d⊢;exact h.2 _ A d
 .cases d
def tarr(P:Program)(t:TypeId):Option (Nat×TypeId):=match P.underlying t with
 |some (.array n e)=>some (n,e)
 |_=>none
theorem zmd{t E:TypeId}{N:Nat}(h:tarr P t=some (N,E)):P.underlying t=some (.array N E):=by
 unfold tarr at h;split at h
 .rename_i n e d;simp only[w01,w0k] at h;rw[d,h.1,h.2]
 .cases h
theorem yak[Dr]{α:Type}{t E:TypeId}{N sz:Nat}{x i:Operand}{k:IntKind}{m:Int}{e:α->List VP}{f:Nat->α}(ht:tarr P t=some (N,E))(g:z5n P E=some (true,sz))(h:Ev s x (agg (arr N e f)))(hi:Ev s i (iv k m))
  (he:∀x,(e x).length=sz) (u:0<=m) (z:m<N):OpQ C ⟨dst,.index t x i,ty,pos,after,guard⟩ s (agg (e (f m.toNat))):=
 .val λa r w j=>by
  have d:=hi a r w j;simp only[iv,eqv] at d;obtain⟨vs,hx,hh⟩:=h a r w j;refine⟨.agg (vs.extract (m.toNat*sz) (m.toNat*sz+sz)),by simp only[execOp,Instr.index,hx,d,w08,asIntOf,w0p,w06,run_underlying (zmd ht),if_pos (And.intro u z),z8i w g,zz7 w g],_,rfl,?_⟩;have:=hh.extract (m.toNat*sz) sz
  rwa [zwt he (by omega)] at this
theorem yaj[Dr]{α:Type}{t E:TypeId}{N:Nat}{x i:Operand}{k:IntKind}{m:Int}{e:α->List VP}{f:Nat->α}{A:VP}(ht:tarr P t=some (N,E))(z:z5n P E=some (false,1))(h:Ev s x (agg (arr N e f)))(hi:Ev s i (iv k m))
  (he:∀x,(e x).length=1) (hA:e (f m.toNat) = [A]) (h0:0<=m) (h1:m<N):OpQ C ⟨dst,.index t x i,ty,pos,after,guard⟩ s A:=
 .val λa r w hs=>by
  have j:=hi a r w hs;simp only[iv,eqv] at j;obtain⟨vs,hx,hh⟩:=h a r w hs;have g:=zwt (e:=e) (f:=f) (N:=N) (k:=m.toNat) he (by omega);have hj :(arr N e f)[m.toNat*1]? = some A:=by
   have :(((arr N e f).drop (m.toNat*1)).take 1)[0]? = some A:=by rw[g,hA];rfl
   rw[w0x,if_pos (by decide),w20] at this;simpa using this
  obtain⟨u,hu,d,_⟩:=hh.2 _ A hj;have hp:=zkn (vs:=vs) (off:=m.toNat*1) (u:=u) w z (by simpa using hu);exact⟨u,by simp only[execOp,Instr.index,hx,j,w08,asIntOf,w0p,w06,run_underlying (zmd ht),if_pos (And.intro h0 h1),z8i w z,hp],d⟩
end parts
section equal
variable{P:Program}
end equal
end Px
end
section
namespace Px
open Go Go.RowKit Go.ChangeShapes Go.WideShapes Go.ChangeAt
theorem zkr{H:Type}{enc:TypeId×Value->H}{P:Program}(hl:laidOutB P=true){W W':World}(hb:Below W.heap.size W W'){sp:Nat->Bool}: ∀{g:List TypeId}{vs:List Value}{j:List (DataW H)}{ps:List MemPlace},
  (∀t∈g,P.readableRec t=true/\t<P.types.size)->DataW.TrodAll enc P W 0 (λ_=>true) true g vs j ps->(∀p∈ps,p.block<W.heap.size)->(∀p∈ps,sp p.block=true)->DataW.TrodAll enc P W' 0 sp true g vs j ps
 | [],[],[],_,_,h,_,_=>h
 |t::g,v::vs,d::j,ps,u,⟨p,q,h1,h2,e⟩,f,hs=>
  ⟨p,q,WideElems.Trod_stays hl (u t (w0n)).1 (u t (w0n)).2 h1 (λx hx=>hb.same (f x (by rw[e];exact w1f _ hx))) (λx hx=>hs x (by rw[e];exact w1f _ hx)),
   zkr hl hb (λt' z=>u t' (w0g _ z)) h2 (λx hx=>f x (by rw[e];exact w1u _ hx)) (λx hx=>hs x (by rw[e];exact w1u _ hx)),e⟩
 | [],_::_,_,_,_,h,_,_=>h.elim
 | [],[],_::_,_,_,h,_,_=>h.elim
 |_::_,[],_,_,_,h,_,_=>h.elim
 |_::_,_::_,[],_,_,h,_,_=>h.elim
theorem yew{H:Type}{enc:TypeId×Value->H}{P:Program}{f:Func}{s:ChangeSpec}{apart a1 g a0:Bool}{W W':World}{args:Array Value}{ds:List (DataW H)}{d:List MemPlace}{tb:TypeId}
  (hW:DataW.Whole enc P f.params.toList s.vars apart W args.toList ds [] d) (a9:s.vars = []) (a7 :(s.fn H (ds++[])).results = [.lit (.bool true)]) (a4 :(s.fn H (ds++[])).args=ds) (ab :(s.fn H (ds++[])).vars = [])
  (a8:f.resultTypes = #[tb]) (aa:P.underlying tb=some .bool) (hl:laidOutB P=true) (a3:∀t∈f.params.toList,P.readableRec t=true/\t<P.types.size) (hb:Below W.heap.size W W') :
  s.post enc P f apart a1 g a0 W args (.bool true) W':=by
 have a2:∀p∈d,p.block<W.heap.size:=λp z=>hW.lt p z
 have ac:=hW;obtain⟨p,q,hA,hV,he,hz,hn⟩:=hW;rw[a9] at hV;obtain⟨_,rfl⟩:=trodVars_none hV;rw[w0e] at he;subst he;have j:∀(b:Nat)(sp:Nat->Bool)(hd:Bool),DataW.TrodAll enc P W' b sp hd f.resultTypes.toList ((Value.bool true).resultList f.resultTypes.size) (s.fn H (ds++[])).results []:=λb sp hd=>by rw[a7,a8];exact trodAll_mk1 (shut_bool aa _)
 have h:∀sp:Nat->Bool,(∀p∈d,sp p.block=true)->DataW.TrodAll enc P W' 0 sp true f.params.toList args.toList (s.fn H (ds++[])).args d:=λsp hs=>by rw[a4];exact zkr hl hb a3 hA a2 hs
 have u:∀sp:Nat->Bool,DataW.TrodVars enc P W' sp s.vars (s.fn H (ds++[])).vars []:=λsp=>by rw[a9,ab];rfl
 have a5:∀p∈d,(λb=>decide (b<W.heap.size)) p.block=true:=λp z=>by simpa using a2 p z
 refine⟨ds,[],d,[],d,[],ac,j _ _ _,h _ a5,u _,World.keptBut_mono (λp z=>⟨z,by simp[z]⟩) (hb.frame (·∈d)),λ_=>?_⟩;refine⟨ok_one (by rw[a8]) rfl (okWide_bool_mk aa _),_,_,([]++d)++[],⟨[]++d,[],trodAll_append (h _ (λ_ _=>rfl)) (j _ _ _),u _,rfl,?_,?_⟩,?_⟩
 .intro b off z;have a6:MemPlace.cell b off∈d:=by simpa using z
  rw[hb.frozen (a2 _ a6)];exact hz b off a6
 .intro ha;simpa using hn ha
 .intro p z _;simpa using z
def Opn(P:Program){α:Type}(t:TypeId)(n:Nat)(e:α->List VP)(R:α->Prop):Prop:=
 ∀(H:Type)(enc:TypeId×Value->H)(w:World)(sp:Nat->Bool)(held:Bool)(fuel:Nat)(cs:List Value)(x:DataW H×List MemPlace),
  DataW.trod enc P w 0 sp held fuel t cs=some x->cs.length=n/\∃y:α,R y/\zr (λb=>b<w.heap.size) w (e y) cs
def RI(k:IntKind)(n:Int):Prop:=k.min<=n/\n<=k.max
theorem zsh{r:Nat->Prop}{w:World}{A:VP}{v:Value}(h:A.h r w v)(f:v.oneCell'=true):zr r w [A] [v]:=⟨rfl,λj B d=>by
 cases j with
 |zero=>simp at d;subst d;exact⟨v,rfl,h,f⟩
 |succ j=>simp at d⟩
theorem Opn.int{P:Program}{t:TypeId}{k:IntKind}(g:P.underlying t=some (.int k)):Opn P t 1 (λn=>[iv k n]) (RI k):=by intro H enc w sp d fuel cs x h;obtain⟨n,rfl,_,f⟩:=DataW.trod_int g h;simp only[Lit.wf,w02,decide_eq_true_eq] at f;exact⟨rfl,n,f,zsh rfl rfl⟩
theorem Opn.bool{P:Program}{t:TypeId}(f:P.underlying t=some .bool):Opn P t 1 (λb=>[bv b]) (λ_=>True):=by intro H enc w sp d fuel cs x h;obtain⟨n,rfl,_⟩:=DataW.trod_bool f h;exact⟨rfl,n,trivial,zsh rfl rfl⟩
theorem Opn.string{P:Program}{t:TypeId}(g:P.underlying t=some .string):Opn P t 1 (λs=>[eqv (.string s)]) (λs=>s.size<=maxLen):=by intro H enc w sp d fuel cs x h;obtain⟨n,rfl,_,f⟩:=DataW.trod_string g h;exact⟨rfl,n,f,zsh rfl rfl⟩
theorem y9o{α:Type}{Q:Nat->α->Prop}: ∀(n:Nat),(∀i,i<n->∃y,Q i y)->∃l:List α,l.length=n/\∀i y,l[i]? = some y->Q i y
 |0,_=>⟨[],rfl,λi y h=>by simp at h⟩
 |n+1,h=>by
  obtain⟨l,f,j⟩:=y9o n (λi u=>h i (by omega));obtain⟨y,hy⟩:=h n (by omega);refine⟨l++[y],by simp[f],λi z d=>?_⟩;rw[w2g] at d;split at d
  .exact j i z d
  .rename_i g;have:i=n:=by have:=(w04.1 d).1;simp at this;omega
   subst this;simp[f] at d;subst d;exact hy
def RL{α:Type}(R:α->Prop)(l:List α):Prop:=(∀y∈l,R y)/\l.length<=maxLen
theorem Opn.slice{P:Program}{α:Type}{t E:TypeId}{n:Nat}{e:α->List VP}{R:α->Prop}(ht:P.underlying t=some (.slice E))(hn:P.cellsOf E=n)(hp:0<n)(he:Opn P E n e R):
  Opn P t 1 (λl=>[ro e n l]) (RL R):=by
 intro H enc w sp aa fuel cs x h;rcases DataW.trod_slice ht h with⟨rfl,_⟩|⟨a,len,a4,y0p,rest,m,rfl,rfl,_,_,a7,a9,ab,a5,_,_⟩
 .exact⟨rfl,[],⟨by simp,by simp⟩,zsh (.inl ⟨⟨none,0,rfl⟩,rfl⟩) rfl⟩
 .have a2:∀i,i<len->∃cs,cs.length=n/\(∃y,R y/\zr (λb=>b<w.heap.size) w (e y) cs)/\∀j,j<n->w.cell? ((a.add (i*n)).add j)=cs[j]?:=by intro i z;have hE:=a5 i z;rw[w0c (by omega),hn] at hE;simp only[w4j] at hE;obtain⟨cs,hc,hy⟩:=hE;obtain⟨a0,y,hR,hcells⟩:=he _ _ _ _ _ _ _ _ hy;simp only[World.cells?,w30,if_true] at hc;exact⟨cs,a0,⟨y,hR,hcells⟩,λj hj=>by simpa using mapM_some_get hc j j (by simp[hj])⟩
  by_cases h0:len=0
  .subst h0;exact⟨rfl,[],⟨by simp,by simp⟩,zsh (.inl ⟨⟨_,_,rfl⟩,rfl⟩) rfl⟩
  have g:a.spot=none:=by obtain⟨cs,a0,_,d⟩:=a2 0 (by omega);have:=d 0 hp;rw[w0c (by omega)] at this;simpa[Addr.add] using World.cell?_spot this
  obtain⟨b,o,s⟩:=a;simp only at g;subst g;have a3:∀i,i<len->∃y,R y/\b<w.heap.size/\z5p w (λb=>b<w.heap.size) b (o+i*n) (e y):=by
   intro i z;obtain⟨cs,a0,⟨y,hR,hcells⟩,d⟩:=a2 i z;have f:∀j,j<n->w.cell? ⟨b,o+i*n+j,none⟩=cs[j]?:=λj hj=>by
    have:=d j hj
    rwa [Addr.add_lit,Addr.add_lit] at this
   refine⟨y,hR,?_,λj A hj=>?_⟩
   .have h1:=f 0 hp;rw[w0c (by omega)] at h1;unfold World.cell? at h1;split at h1
    .rename_i hb;exact(w1c.1 hb).1
    .cases h1
   .obtain⟨u,hu,hA,h1⟩:=hcells.2 j A hj;have a6:j<n:=by have:=(w04.1 hu).1;omega
    exact⟨u,by rw[f j a6,hu],hA,h1⟩
  obtain⟨l,a8,a1⟩:=y9o len a3;refine⟨rfl,l,⟨λy hy=>?_,by omega⟩,zsh ?_ rfl⟩
  .obtain⟨i,z⟩:=w42 hy;exact(a1 i y z).1
  .exact .inr ⟨b,o,a4-l.length,by rw[a8,w3a a7],λi x z=>⟨(a1 i x z).2.1,(a1 i x z).2.2⟩⟩
def zwe(P:Program)(t:TypeId):Option (List (TypeId×Nat×Nat)):=match P.underlying t with
 |some (.struct fs)=>some (fs.toList.map λf=>(f.type,f.offset,P.cellsOf f.type))
 |_=>none
theorem y2m{H:Type}{enc:TypeId×Value->H}{P:Program}{w:World}{sp:Nat->Bool}{d:Bool}{j:Nat}{t:TypeId}{cs:List Value}{x:DataW H×List MemPlace}{L:List (TypeId×Nat×Nat)}
  (h:zwe P t=some L) (hd:DataW.trod enc P w 0 sp d j t cs=some x):cs.length=P.cellsOf t/\∃n,∀(i ty off m:Nat),L[i]? = some (ty,off,m)->∃y,DataW.trod enc P w 0 sp d n ty ((cs.drop off).take m)=some y:=by
 unfold zwe at h;split at h
 .rename_i fs hu;simp only[w01] at h;subst h;obtain⟨xs,n,rfl,_,hl,hn,hf⟩:=DataW.trod_struct hu hd;refine⟨hl,n,λi ty off m hi=>?_⟩;rw[w1r,w1w] at hi;obtain⟨f,u,he⟩:=hi;simp only[w0k] at he;obtain⟨rfl,rfl,rfl⟩:=he;have g:fs[i]? = some f:=by simpa using u
  have z:i<xs.length:=by have:=(w1c.1 g).1;omega
  exact⟨_,(hf i f g).trans (w0c z)⟩
 .cases h
theorem zr.tile{r:Nat->Prop}{w:World}{A B:List VP}{cs:List Value}{off m:Nat}(c:zr r w A ((cs.drop off).take m))(d:zr r w B (cs.drop (off+m))):zr r w (A++B) (cs.drop off):=by
 have:=c.append d
 rwa [<- w3o,w2l] at this
theorem zr.tile0{r:Nat->Prop}{w:World}{cs:List Value}{n:Nat}(h:cs.length=n):zr r w [] (cs.drop n):=by rw[w2z (by omega)];exact⟨rfl,λj A d=>by simp at d⟩
theorem y9m[Dr]{P:Program}{f:FuncId}{As:List VP}{vs:Array Value}{W:World}(h:zdv P f As (λx news=>x=bv true/\news = []))(z:vs.size=As.length)
  (j:∀(i:Nat)(A:VP),As[i]? = some A->A.h (λb=>b<W.heap.size) W (vs.getD i undef)):Calls P f vs W (λe g=>e = .returned (.bool true)/\Below W.heap.size W g):=by
 refine(h (λb=>b<W.heap.size) W vs (λ_ u=>u) z j).mono ?_;rintro e w' ⟨v,x,news,r',S',rfl,_,hw,hx,rfl,rfl⟩;have d:v = .bool true:=hx;exact⟨by rw[d],hw.below.toBelow⟩
end Px
end
section
namespace Px
open Go Go.RowKit
def y97(s:z9i):List Nat->Option (List (Nat×VP))
 | []=>some []
 |k::ks=>match s k,y97 s ks with
  |some A,some L=>some ((k,A)::L)
  |_,_=>none
theorem y3u{s:z9i}: ∀{g:List Nat}{L:List (Nat×VP)},y97 s g=some L->y04 s L
 | [],L,h=>by cases h;trivial
 |k::g,L,h=>by
  unfold y97 at h;cases d:s k with
  |none=>rw[d] at h;cases h
  |some A=>
   cases f:y97 s g with
   |none=>rw[d,f] at h;cases h
   |some j=>rw[d,f] at h;cases h;exact⟨⟨A,d,Ent.refl⟩,y3u f⟩
theorem sl{s:z9i}{L:List (Nat×VP)}(h:y97 s (L.map (·.1))=some L):y04 s L:=y3u h
section short
variable{P:Program}{C:Cx P}{s:St}{Q:Exit->Act->World->Prop}{x y c:Code}{e:Exit}{ops:Array Oper}{i:Nat}{rest:List Nat}{o:Oper}
theorem cs[Dr](h:y5o C x s (Exit.then (y.wp P Q) Q)):y5o C (.seq x y) s Q:=y5o.seq h
end short
end Px
end
