/- A part of the proof of topCheapest_holds. Conditions: none. -/
import Derived.Orders
import Derived.Below
import Derived.Laws.Rows
import Derived.Laws.MakeOwn
import Derived.Laws.OwnMore
import Derived.LoopN
import Derived.Scope
import Derived.RangeFuncRecord
import Derived.OrdersIn
import Derived.LoopNIn
import Derived.Laws.Entries
import Derived.Laws.Cells
import Derived.Laws.StructEq
import Derived.ProofKit
import Derived.JoinedOf
import Derived.ChangeSame
import Derived.WideKeyArgs
set_option linter.unusedVariables false
set_option linter.unusedSimpArgs false
namespace Px
abbrev w00:=@Option.some.injEq
abbrev w01:=@Nat.eq_of_beq_eq_true
abbrev w02:=@Bool.and_eq_true
abbrev w03:=@Option.bind_some
abbrev w04:=@List.getElem?_eq_some_iff
abbrev w05:=@Go.Result.andThen_ok
abbrev w06:=@Go.Sem.run_bind
abbrev w07:=@Array.getD_eq_getD_getElem?
abbrev w08:=@List.all_eq_true
abbrev w09:=@List.mem_cons_of_mem
abbrev w0a:=@List.getElem?_eq_getElem
abbrev w0b:=@Prod.mk.injEq
abbrev w0c:=@List.mem_cons
abbrev w0d:=@List.mem_singleton
abbrev w0e:=@List.append_nil
abbrev w0f:=@Option.some.inj
abbrev w0g:=@Go.Sem.run_pure
abbrev w0h:=@List.mem_map
abbrev w0i:=@List.length_append
abbrev w0j:=@List.getElem?_append_left
abbrev w0k:=@List.mem_append
abbrev w0l:=@List.mem_range
abbrev w0m:=@List.mem_cons_self
abbrev w0n:=@List.flatMap_cons
abbrev w0o:=@List.getElem?_take
abbrev w0p:=@List.map_cons
abbrev w0q:=@List.append_assoc
abbrev w0r:=@Option.map_some
abbrev w0s:=@Bool.or_eq_true
abbrev w0t:=@Bool.false_eq_true
abbrev w0u:=@Nat.le_of_ble_eq_true
abbrev w0v:=@List.mem_filter
abbrev w0w:=@Bool.not_eq_true'
abbrev w0x:=@Nat.le_refl
abbrev w0y:=@List.mem_of_getElem?
abbrev w0z:=@List.getElem?_append_right
abbrev w10:=@Bool.or_eq_false_iff
abbrev w11:=@Option.isSome_iff_exists
abbrev w12:=@List.getElem?_map
abbrev w13:=@Nat.zero_add
abbrev w14:=@Nat.mul_le_mul_right
abbrev w17:=@Array.getElem?_append
abbrev w18:=@List.eq_nil_of_length_eq_zero
abbrev w19:=@Option.getD_some
abbrev w1a:=@Go.World.putObj_heap_other
abbrev w1b:=@List.length_cons
abbrev w1c:=@List.length_map
abbrev w1d:=@Int.mul_nonneg
abbrev w1e:=@Nat.add_mul
abbrev w1f:=@Go.MapKept.run_getObj_map
abbrev w1g:=@List.mem_append_left
abbrev w1h:=@List.all_cons
abbrev w1i:=@Int.le_refl
abbrev w1j:=@List.mem_append_right
abbrev w1k:=@List.getD_eq_getElem?_getD
abbrev w1l:=@Int.tmod_eq_emod_of_nonneg
abbrev w1m:=@List.getElem?_eq_none
abbrev w1n:=@Int.eq_ofNat_of_zero_le
abbrev w1o:=@List.range_succ
abbrev w1p:=@List.mem_flatMap
abbrev w1q:=@List.not_mem_nil
abbrev w1r:=@Bool.not_true
abbrev w1s:=@List.getElem?_set
abbrev w1t:=@Int.toNat_natCast
abbrev w1u:=@Option.map_eq_some_iff
abbrev w1v:=@List.getElem?_drop
abbrev w1w:=@List.nodup_cons
abbrev w1x:=@List.flatMap_append
abbrev w1y:=@List.length_take
abbrev w1z:=@List.take_length
abbrev w20:=@Array.getElem?_eq_some_iff
abbrev w21:=@Int.fdiv_eq_ediv_of_nonneg
abbrev w22:=@List.take_append_of_le_length
abbrev w23:=@List.getElem?_append
abbrev w24:=@List.getElem?_set_ne
abbrev w25:=@List.take_append_drop
abbrev w26:=@Bool.false_or
abbrev w27:=@List.foldl_cons
abbrev w28:=@List.pairwise_cons
abbrev w29:=@Int.mul_comm
abbrev w2a:=@Int.mul_le_mul_of_nonneg_right
abbrev w2b:=@Array.getElem?_eq_getElem
abbrev w2c:=@List.drop_append_of_le_length
abbrev w2d:=@Nat.blt_eq
abbrev w2e:=@List.length_set
abbrev w2f:=@List.map_append
abbrev w2g:=@List.any_eq_true
abbrev w2h:=@Nat.add_assoc
abbrev w2i:=@List.take_of_length_le
abbrev w2j:=@Nat.add_sub_cancel'
abbrev w2k:=@List.getElem_of_mem
abbrev w2l:=@Bool.true_and
abbrev w2m:=@Bool.not_false
abbrev w2n:=@List.getElem?_cons_succ
abbrev w2o:=@Nat.beq_refl
abbrev w2p:=@List.getElem?_set_self
abbrev w2q:=@List.drop_of_length_le
abbrev w2r:=@Nat.mod_eq_of_lt
abbrev w2s:=@Array.all_eq_true_iff_forall_mem
abbrev w2t:=@List.take_succ_eq_append_getElem
abbrev w2u:=@List.cons_append
abbrev w2v:=@Int.mul_le_mul
abbrev w2w:=@Array.getElem?_setIfInBounds_ne
abbrev w2x:=@Int.add_mul
abbrev w2y:=@List.cons.injEq
abbrev w2z:=@Int.mul_assoc
abbrev w30:=@List.getElem?_replicate
abbrev w31:=@List.getElem?_cons_zero
abbrev w32:=@Nat.lt_succ_self
abbrev w33:=@Int.mul_add
abbrev w34:=@Nat.le_trans
abbrev w35:=@Nat.lt_of_lt_of_le
abbrev w36:=@List.drop_length_add_append
abbrev w37:=@Option.map_none
abbrev w38:=@List.length_nil
abbrev w39:=@List.nil_append
abbrev w3a:=@Int.ediv_nonneg
abbrev w3b:=@Int.ediv_mul_add_emod
abbrev w3c:=@Int.tdiv_eq_ediv_of_nonneg
abbrev w3d:=@List.ext_getElem?
abbrev w3e:=@List.range_eq_range'
abbrev w3f:=@Option.isNone_iff_eq_none
abbrev w3g:=@List.drop_eq_getElem_cons
abbrev w3h:=@List.drop_drop
abbrev w3i:=@List.toList_toArray
abbrev w3j:=@Array.length_toList
abbrev w3k:=@Int.toNat_of_nonneg
abbrev w3l:=@Nat.add_sub_cancel_left
abbrev w3m:=@List.pairwise_singleton
abbrev w3n:=@Bool.eq_iff_iff
abbrev w3o:=@Int.emod_nonneg
abbrev w3p:=@Int.emod_lt_of_pos
abbrev w3q:=@Nat.zero_le
abbrev w3r:=@List.pairwise_lt_range
abbrev w3s:=@List.pairwise_map
abbrev w3t:=@List.foldl_append
abbrev w3u:=@Nat.add_zero
abbrev w3v:=@List.drop_zero
abbrev w3w:=@Bool.false_and
abbrev w3x:=@Array.getElem?_toList
abbrev w3y:=@Int.ediv_lt_of_lt_mul
abbrev w3z:=@Int.add_zero
abbrev w40:=@List.take_length_add_append
abbrev w41:=@List.getElem?_of_mem
abbrev w42:=@List.take_append
abbrev w43:=@Bool.not_eq_true
abbrev w44:=@Nat.mod_two_eq_zero_or_one
abbrev w45:=@Nat.one_mul
abbrev w46:=@Int.sub_mul
abbrev w47:=@List.filter_eq_self
abbrev w48:=@List.set_cons_succ
abbrev w49:=@Nat.sub_zero
abbrev w4a:=@List.map_map
abbrev w4b:=@Int.mul_zero
abbrev w4c:=@List.filter_cons_of_pos
abbrev w4d:=@Option.bind_eq_some_iff
abbrev w4e:=@Classical.not_not
abbrev w4f:=@List.any_cons
abbrev w4g:=@Bool.and_self
abbrev w4h:=@Nat.le_of_not_lt
abbrev w4i:=@List.length_drop
abbrev w4j:=@List.range'_succ
abbrev w4k:=@List.isEmpty_iff
abbrev w4l:=@Bool.and_eq_false_iff
abbrev w4m:=@Nat.div_add_mod
abbrev w4n:=@Nat.mod_lt
abbrev w4o:=@List.eq_nil_iff_forall_not_mem
abbrev w4p:=@List.all_append
abbrev w4q:=@List.find?_cons
abbrev w4r:=@Int.natCast_mul
abbrev w4s:=@List.pairwise_append
abbrev w4t:=@List.count_le_length
abbrev w4u:=@Array.getElem?_push
abbrev w4v:=@Int.mul_sub
abbrev w4w:=@Nat.pow_add
abbrev w4x:=@List.mem_filterMap
abbrev w4y:=@List.filter_append
abbrev w4z:=@List.cons_beq_cons
abbrev w50:=@Nat.lt_of_le_of_lt
abbrev w51:=@Int.mul_right_comm
abbrev w52:=@Int.mul_lt_mul_of_pos_right
abbrev w53:=@Option.isSome_none
abbrev w54:=@Option.isSome_some
abbrev w55:=@Nat.mul_assoc
abbrev w57:=@List.filter_congr
abbrev w58:=@List.nodup_append
abbrev w59:=@Nat.add_comm
abbrev w5a:=@Nat.mul_comm
abbrev w5b:=@List.drop_append
abbrev w5c:=@List.foldlM_cons
abbrev w5d:=@List.filter_cons
abbrev w5e:=@List.set_set
abbrev w5f:=@Int.le_trans
abbrev w5g:=@Int.zero_sub
abbrev w5h:=@Option.getD_none
abbrev w5i:=@Nat.min_eq_left
abbrev w5j:=@List.take_left'
abbrev w5k:=@List.foldr_cons
abbrev w5l:=@Array.size_push
abbrev w5m:=@Nat.le_succ
abbrev rg(a n:Int):Prop:=(0:Int)<=a/\a<n
def kk2{A0 A1 B R:Type}(f:A0->A1->R)(z:A0×A1×B):R:=f z.1 z.2.1
def kk3{A0 A1 A2 B R:Type}(f:A0->A1->A2->R)(z:A0×A1×A2×B):R:=f z.1 z.2.1 z.2.2.1
def kk4{A0 A1 A2 A3 B R:Type}(f:A0->A1->A2->A3->R)(z:A0×A1×A2×A3×B):R:=f z.1 z.2.1 z.2.2.1 z.2.2.2.1
def kk5{A0 A1 A2 A3 A4 B R:Type}(f:A0->A1->A2->A3->A4->R)(z:A0×A1×A2×A3×A4×B):R:=f z.1 z.2.1 z.2.2.1 z.2.2.2.1 z.2.2.2.2.1
def kk6{A0 A1 A2 A3 A4 A5 B R:Type}(f:A0->A1->A2->A3->A4->A5->R)(z:A0×A1×A2×A3×A4×A5×B):R:=f z.1 z.2.1 z.2.2.1 z.2.2.2.1 z.2.2.2.2.1 z.2.2.2.2.2.1
def kk7{A0 A1 A2 A3 A4 A5 A6 B R:Type}(f:A0->A1->A2->A3->A4->A5->A6->R)(z:A0×A1×A2×A3×A4×A5×A6×B):R:=f z.1 z.2.1 z.2.2.1 z.2.2.2.1 z.2.2.2.2.1 z.2.2.2.2.2.1 z.2.2.2.2.2.2.1
def kk8{A0 A1 A2 A3 A4 A5 A6 A7 B R:Type}(f:A0->A1->A2->A3->A4->A5->A6->A7->R)(z:A0×A1×A2×A3×A4×A5×A6×A7×B):R:=f z.1 z.2.1 z.2.2.1 z.2.2.2.1 z.2.2.2.2.1 z.2.2.2.2.2.1 z.2.2.2.2.2.2.1 z.2.2.2.2.2.2.2.1
def kk9{A0 A1 A2 A3 A4 A5 A6 A7 A8 B R:Type}(f:A0->A1->A2->A3->A4->A5->A6->A7->A8->R)(z:A0×A1×A2×A3×A4×A5×A6×A7×A8×B):R:=f z.1 z.2.1 z.2.2.1 z.2.2.2.1 z.2.2.2.2.1 z.2.2.2.2.2.1 z.2.2.2.2.2.2.1 z.2.2.2.2.2.2.2.1 z.2.2.2.2.2.2.2.2.1
def kk10{A0 A1 A2 A3 A4 A5 A6 A7 A8 A9 B R:Type}(f:A0->A1->A2->A3->A4->A5->A6->A7->A8->A9->R)(z:A0×A1×A2×A3×A4×A5×A6×A7×A8×A9×B):R:=f z.1 z.2.1 z.2.2.1 z.2.2.2.1 z.2.2.2.2.1 z.2.2.2.2.2.1 z.2.2.2.2.2.2.1 z.2.2.2.2.2.2.2.1 z.2.2.2.2.2.2.2.2.1 z.2.2.2.2.2.2.2.2.2.1
def kk11{A0 A1 A2 A3 A4 A5 A6 A7 A8 A9 A10 B R:Type}(f:A0->A1->A2->A3->A4->A5->A6->A7->A8->A9->A10->R)(z:A0×A1×A2×A3×A4×A5×A6×A7×A8×A9×A10×B):R:=f z.1 z.2.1 z.2.2.1 z.2.2.2.1 z.2.2.2.2.1 z.2.2.2.2.2.1 z.2.2.2.2.2.2.1 z.2.2.2.2.2.2.2.1 z.2.2.2.2.2.2.2.2.1 z.2.2.2.2.2.2.2.2.2.1 z.2.2.2.2.2.2.2.2.2.2.1
def kk12{A0 A1 A2 A3 A4 A5 A6 A7 A8 A9 A10 A11 B R:Type}(f:A0->A1->A2->A3->A4->A5->A6->A7->A8->A9->A10->A11->R)(z:A0×A1×A2×A3×A4×A5×A6×A7×A8×A9×A10×A11×B):R:=f z.1 z.2.1 z.2.2.1 z.2.2.2.1 z.2.2.2.2.1 z.2.2.2.2.2.1 z.2.2.2.2.2.2.1 z.2.2.2.2.2.2.2.1 z.2.2.2.2.2.2.2.2.1 z.2.2.2.2.2.2.2.2.2.1 z.2.2.2.2.2.2.2.2.2.2.1 z.2.2.2.2.2.2.2.2.2.2.2.1
def kk21{A0 A1 A2 A3 A4 A5 A6 A7 A8 A9 A10 A11 A12 A13 A14 A15 A16 A17 A18 A19 A20 B R:Type}(f:A0->A1->A2->A3->A4->A5->A6->A7->A8->A9->A10->A11->A12->A13->A14->A15->A16->A17->A18->A19->A20->R)(z:A0×A1×A2×A3×A4×A5×A6×A7×A8×A9×A10×A11×A12×A13×A14×A15×A16×A17×A18×A19×A20×B):R:=f z.1 z.2.1 z.2.2.1 z.2.2.2.1 z.2.2.2.2.1 z.2.2.2.2.2.1 z.2.2.2.2.2.2.1 z.2.2.2.2.2.2.2.1 z.2.2.2.2.2.2.2.2.1 z.2.2.2.2.2.2.2.2.2.1 z.2.2.2.2.2.2.2.2.2.2.1 z.2.2.2.2.2.2.2.2.2.2.2.1 z.2.2.2.2.2.2.2.2.2.2.2.2.1 z.2.2.2.2.2.2.2.2.2.2.2.2.2.1 z.2.2.2.2.2.2.2.2.2.2.2.2.2.2.1 z.2.2.2.2.2.2.2.2.2.2.2.2.2.2.2.1 z.2.2.2.2.2.2.2.2.2.2.2.2.2.2.2.2.1 z.2.2.2.2.2.2.2.2.2.2.2.2.2.2.2.2.2.1 z.2.2.2.2.2.2.2.2.2.2.2.2.2.2.2.2.2.2.1 z.2.2.2.2.2.2.2.2.2.2.2.2.2.2.2.2.2.2.2.1 z.2.2.2.2.2.2.2.2.2.2.2.2.2.2.2.2.2.2.2.2.1
end Px
section
namespace Px
open Go Go.RowKit
def Rec(o:Option Obj):Prop:=(∃l,o=some (.deferred l))\/∃r,o=some (.loop r)
structure VP where
 h :(Nat->Prop)->World->Value->Prop
 wk:∀{ro ro':Nat->Prop}{w w':World}{v:Value},(∀b,ro b->ro' b)->(∀b,ro b->¬Rec w.heap[b]?->w'.heap[b]? = w.heap[b]?)->h ro w v->h ro' w' v
theorem VP.mono(A:VP){ro ro':Nat->Prop}{w w':World}{v:Value}(h1:∀b,ro b->ro' b)(h2:∀b,ro b->w'.heap[b]? = w.heap[b]?)(h:A.h ro w v):A.h ro' w' v:=A.wk h1 (λb hb _=>h2 b hb) h
structure HP where
 h :(Nat->Prop)->(Nat->Prop)->World->Prop
 wk:∀{S ro ro':Nat->Prop}{w w':World},(∀b,ro b->ro' b)->(∀b,ro b->¬Rec w.heap[b]?->w'.heap[b]? = w.heap[b]?)->(∀b,S b->w'.heap[b]? = w.heap[b]?)->h S ro w->h S ro' w'
theorem HP.mono(A:HP){S ro ro':Nat->Prop}{w w':World}(h1:∀b,ro b->ro' b)(h2:∀b,ro b->w'.heap[b]? = w.heap[b]?)(h3:∀b,S b->w'.heap[b]? = w.heap[b]?)(h:A.h S ro w):A.h S ro' w':=A.wk h1 (λb hb _=>h2 b hb) h3 h
abbrev z8z:=Nat->Option VP
def z8z.set(s:z8z)(d:Option Nat)(x:VP):z8z:=match d with
 |some d=>λt=>bif Nat.beq t d then some x else s t
 |none=>s
structure St where
 slots:z8z
 objs:List HP
class Dr where
 p:Prop
instance(priority:=10):Dr:=⟨False⟩
structure Bel[Dr](B:Nat)(w w':World):Prop extends Below B w w' where
 drawn:Dr.p->w.drawn<=w'.drawn
theorem Bel.refl[Dr](B:Nat)(w:World):Bel B w w:=⟨Below.refl B w,λ_=>w0x _⟩
theorem Bel.trans[Dr]{B:Nat}{a b c:World}(h:Bel B a b)(k:Bel B b c):Bel B a c:=⟨h.toBelow.trans k.toBelow,λp=>w34 (h.drawn p) (k.drawn p)⟩
theorem Bel.mono[Dr]{B B':Nat}{w w':World}(h:Bel B w w')(hB:B'<=B):Bel B' w w':=⟨h.toBelow.mono hB,h.drawn⟩
theorem Bel.alloc[Dr]{B:Nat}{a w:World}(h:Bel B a w)(hB:B<=w.heap.size)(o:Obj):Bel B a (w.alloc o):=⟨h.toBelow.alloc hB o,h.drawn⟩
structure WInv[Dr](w0:World)(base:Nat)(objs:List HP)(ro:Nat->Prop)(S:Nat->Nat->Prop)(w:World):Prop where
 below:Bel base w0 w
 size:base<=w.heap.size
 obj:∀(i:Nat)(H:HP),objs[i]? = some H->H.h (S i) ro w
 own:∀i b,S i b->i<objs.length/\base<=b/\b<w.heap.size/\¬ro b
 apart:∀i j b,S i b->S j b->i=j
 old:∀b,ro b->b<w.heap.size
def zj(s:z8z)(a:Act)(ro:Nat->Prop)(w:World):Prop:=∀t A,s t=some A->A.h ro w (a.tmps.getD t undef)
def Evo(B:Nat)(ro:Nat->Prop)(w:World)(ro':Nat->Prop)(w':World):Prop:=(∀b,ro b->ro' b)/\(∀b,ro b->w'.heap[b]? = w.heap[b]?)/\∀b,ro' b->ro b\/B<=b
theorem Evo.refl(B:Nat)(ro:Nat->Prop)(w:World):Evo B ro w ro w:=⟨λ_ h=>h,λ_ _=>rfl,λ_ h=>.inl h⟩
theorem Evo.trans{B:Nat}{ro ro' ro'':Nat->Prop}{w w' w'':World}(h:Evo B ro w ro' w')(k:Evo B ro' w' ro'' w''):Evo B ro w ro'' w'':=⟨λb hb=>k.1 b (h.1 b hb),λb hb=>(k.2.1 b (h.1 b hb)).trans (h.2.1 b hb),λb hb=>(k.2.2 b hb).elim (h.2.2 b) .inr⟩
theorem VP.evo(A:VP){B:Nat}{ro ro':Nat->Prop}{w w':World}{v:Value}(e:Evo B ro w ro' w')(h:A.h ro w v):A.h ro' w' v:=A.mono e.1 e.2.1 h
theorem zj.evo{s:z8z}{a:Act}{B:Nat}{ro ro':Nat->Prop}{w w':World}(e:Evo B ro w ro' w')(h:zj s a ro w):zj s a ro' w':=λt A ht=>A.evo e (h t A ht)
structure Cx(P:Program)where
 w0:World
 base:Nat
 r0:Nat->Prop
 wI:World
 n:Nat
 rd:Option Nat:=none
 df:List Deferred:=[]
def Sat[Dr]{P:Program}(C:Cx P)(s:St)(a:Act)(w:World):Prop:=a.defers=C.df/\a.tmps.size=C.n/\∃ro S,WInv C.w0 C.base s.objs ro S w/\Evo C.base C.r0 C.wI ro w/\zj s.slots a ro w
def zyk[Dr]{P:Program}(C:Cx P)(c:Code)(s:St)(Q:Exit->Act->World->Prop):Prop:=∀a w,Sat C s a w->c.wp P Q a w
def AtX[Dr]{P:Program}(C:Cx P)(s:St)(e:Exit)(Q:Exit->Act->World->Prop):Prop:=∀a w,Sat C s a w->Q e a w
def OpT[Dr]{P:Program}(C:Cx P)(o:Oper)(s:St)(K:VP->List HP->Prop):Prop:=
 ∀a w ro S Q,a.defers=C.df->a.tmps.size=C.n->WInv C.w0 C.base s.objs ro S w->zj s.slots a ro w->
  o.wp P a w (λa' w'=>∃v ro' S' x objs',a'=a.put o.dst v/\Evo C.base ro w ro' w'/\WInv C.w0 C.base objs' ro' S' w'/\x.h ro' w' v/\K x objs') Q
def OpQ[Dr]{P:Program}(C:Cx P)(o:Oper)(s:St)(x:VP):Prop:=OpT C o s λy objs=>y=x/\objs=s.objs
def z7k[Dr]{P:Program}(C:Cx P)(ops:Array Oper)(l:List Nat)(s:St)(Q:Exit->Act->World->Prop):Prop:=∀a w,Sat C s a w->wpOps P ops Q l a w
abbrev fz(rd:Option Nat):Fence:={ fn:=λ_=>True,depth:=none,alive:=false,round:=rd }
theorem zyt{rd:Option Nat}{n:Nat}{P:Program}{f:FuncId}{args:Array Value}{w:World}{R:Ending->World->Prop}(h:Calls P f args w R):CallsIn (fz rd) n P f args w R:=by have h1:CallsIn Fence.wide n P f args w R:=callsIn_wide.2 h;exact h1
theorem y5q{n:Nat}{P:Program}{f:FuncId}{args:Array Value}{w:World}{R:Ending->World->Prop}(h:CallsIn (fz none) n P f args w R):Calls P f args w R:=callsIn_wide.1 h
theorem Oper.wp_fz{rd:Option Nat}{P:Program}{o:Oper}{a:Act}{w:World}{next:Act->World->Prop}{Q:Exit->Act->World->Prop}(hnd:∀c,o.op≠.defer c)(h:o.wp P a w next Q):o.wpIn (fz rd) 0 P a w next Q:=by
 unfold Oper.wp at h;refine⟨λ_ _=>trivial,?_⟩;rw[Oper.semAt_eq _ _ _ hnd];generalize (execOp a.eval o).run P w=x at h;cases x with
 |ok x w'=>
  cases x with
  |enter f args=>exact⟨λe=>by simp at e,zyt h⟩
  |row row args=>exact⟨λe=>by simp at e,λc cs _=>let ⟨v,w',r,s⟩:=h c cs;⟨v,w',r,stepsIn_wide.2 s⟩⟩
  |value v=>exact h
  |skip=>exact h
  |defer d=>exact h
  |_=>exact h.elim
 |halt x w'=>
  cases x with
  |panic v=>exact h
  |_=>exact h.elim
theorem OpT.nd[Dr]{P:Program}{C:Cx P}{o:Oper}{s:St}{K:VP->List HP->Prop}(h:OpT C o s K){a:Act}{w:World}{ro:Nat->Prop}{S:Nat->Nat->Prop}(hd:a.defers=C.df)(hn:a.tmps.size=C.n)
  (hw:WInv C.w0 C.base s.objs ro S w) (hs:zj s.slots a ro w):∀c,o.op≠.defer c:=by
 intro c hc;have h1:=h a w ro S (λ_ _ _=>False) hd hn hw hs;unfold Oper.wp at h1;have e:execOp a.eval o =(do pure (.defer (<- resolve a.eval c o.type))):=by unfold execOp;rw[hc]
 rw[e,w06] at h1;generalize (resolve a.eval c o.type).run P w=x at h1;cases x with
 |ok d w'=>obtain⟨v,_,_,_,_,e2,_⟩:=h1;have:=congrArg (λa:Act=>a.defers.length) e2;cases hdst:o.dst<;>simp[Act.put,hdst] at this
 |halt x w'=>cases x<;>exact h1
theorem OpT.fz[Dr]{rd:Option Nat}{P:Program}{C:Cx P}{o:Oper}{s:St}{K:VP->List HP->Prop}(h:OpT C o s K)(a:Act)(w:World)(ro:Nat->Prop)(S:Nat->Nat->Prop)(Q:Exit->Act->World->Prop)(hd:a.defers=C.df)(hn:a.tmps.size=C.n)
  (hw:WInv C.w0 C.base s.objs ro S w) (hs:zj s.slots a ro w) :
  o.wpIn (Px.fz rd) 0 P a w (λa' w'=>∃v ro' S' x objs',a'=a.put o.dst v/\Evo C.base ro w ro' w'/\WInv C.w0 C.base objs' ro' S' w'/\x.h ro' w' v/\K x objs') Q:=
 Oper.wp_fz (h.nd hd hn hw hs) (h a w ro S Q hd hn hw hs)
theorem zpi{rd:Option Nat}{P:Program}{Q:Exit->Act->World->Prop}{a:Act}{w:World}{c:Code}(h:c.wpIn (fz rd) 0 P (Exit.noGoto Q) a w):(Code.scope c).wpIn (fz rd) 0 P Q a w:=by
 intro b k cs hro hb hr;obtain⟨e,a1,w1,hq,harr⟩:=h b (.inScope c::k) cs hro hb hr;have s1:StepsIn (Machine.fenced P (fz rd)) P (lone (b.atR a (.code (.scope c)::k)) cs w) (lone (b.atR a (.code c::.inScope c::k)) cs w):=.one (fenced_calm hb hr rfl) (step_lone_go (by simp[stepG,stepG.exec,Frame.atR]));cases e with
 |normal=>exact⟨.normal,a1,w1,hq,s1.trans (StepsIn.trans harr (.one (fenced_calm hb hr rfl) (step_lone_go (by simp[stepG,stepG.exec,Frame.atR]))))⟩
 |exit id=>exact⟨.exit id,a1,w1,hq,.of_steps s1 ⟨λk' hk=>harr.1 k' (by simp[exitTo,hk]),λhr' hk=>harr.2 hr' (by simp[exitTo,hk])⟩⟩
 |goto l=>exact hq.elim
 |ret=>exact⟨_,a1,w1,hq,.of_steps s1 harr⟩
 |panic ch=>exact⟨_,a1,w1,hq,.of_steps s1 harr⟩
 |outgrown=>exact⟨_,a1,w1,hq,.of_steps s1 harr⟩
theorem zgt(a:Act)(d:Option Nat)(v:Value)(t:Nat)(hd:∀x,d=some x->x<a.tmps.size):
  (a.put d v).tmps.getD t undef=if d=some t then v else a.tmps.getD t undef:=by
 cases d with
 |none=>simp[Act.put]
 |some d=>
  have hlt:=hd d rfl;by_cases h:d=t
  .subst h;simp[Act.put,hlt]
  .simp[Act.put,h,w2w h]
theorem zs1{a b:Nat}(h:a≠b):Nat.beq a b=false:=by
 cases hb:Nat.beq a b with
 |false=>rfl
 |true=>exact absurd (w01 hb) h
theorem zj.put{s:z8z}{a:Act}{ro:Nat->Prop}{w:World}{x:VP}{v:Value}{d:Option Nat}(hd:∀y,d=some y->y<a.tmps.size)
  (h:zj s a ro w) (hx:x.h ro w v):zj (s.set d x) (a.put d v) ro w:=by
 intro t A ht;rw[zgt a d v t hd];cases d with
 |none=>simpa[z8z.set] using h t A (by simpa[z8z.set] using ht)
 |some d=>
  simp only[z8z.set] at ht;by_cases e:t=d
  .subst e;rw[w2o] at ht;simp only[cond_true,w00] at ht;subst ht;simpa using hx
  .rw[zs1 e] at ht;have e':¬d=t:=λh=>e h.symm
   rw[if_neg (by simpa using e')];exact h t A ht
def z45{P:Program}(C:Cx P)(o:Oper):Bool:=match o.dst with|some d=>decide (d<C.n)|none=>true
theorem zf7{P:Program}{C:Cx P}{o:Oper}(h:z45 C o=true){a:Act}(ha:a.tmps.size=C.n):∀y,o.dst=some y->y<a.tmps.size:=by intro y hy;simp[z45,hy] at h;rw[ha];exact h
section run
variable{P:Program}{C:Cx P}{ops:Array Oper}{i:Nat}{rest:List Nat}{s:St}{Q:Exit->Act->World->Prop}{o:Oper}
theorem zw7[Dr]{a:Act}{w w':World}{ro ro':Nat->Prop}{S':Nat->Nat->Prop}{x:VP}{objs:List HP}{v:Value}(hr:z45 C o=true)
  (hd:a.defers=C.df) (hn:a.tmps.size=C.n) (hs:zj s.slots a ro w) (e0:Evo C.base C.r0 C.wI ro w) (e:Evo C.base ro w ro' w') (hw:WInv C.w0 C.base objs ro' S' w') (hx:x.h ro' w' v) :
  Sat C ⟨s.slots.set o.dst x,objs⟩ (a.put o.dst v) w':=by
 refine⟨?_,?_,ro',S',hw,e0.trans e,zj.put (zf7 hr hn) (hs.evo e) hx⟩
 .cases h:o.dst<;>simp[Act.put,hd]
 .cases h:o.dst<;>simp[Act.put,hn]
theorem z7k.cons[Dr](ho:ops[i]? = some o)(hg:o.guard=none)(hr:z45 C o=true)
  (h:OpT C o s λx objs=>z7k C ops rest ⟨s.slots.set o.dst x,objs⟩ Q):z7k C ops (i::rest) s Q:=by
 rintro a w ⟨hd,hn,ro,S,hw,he,hs⟩;simp only[wpOps,ho,Region.wanted,hg,if_true];refine .inl (Oper.wp_mono ?_ (h a w ro S Q hd hn hw hs));rintro a' w' ⟨v,ro',S',x,objs',rfl,e,hw',hx,hk⟩;exact hk _ _ (zw7 hr hd hn hs he e hw' hx)
theorem OpT.mono[Dr]{K K':VP->List HP->Prop}(h:OpT C o s K)(hk:∀x objs,K x objs->K' x objs):OpT C o s K':=by intro a w ro S Q hd hn hw hs;refine Oper.wp_mono ?_ (h a w ro S Q hd hn hw hs);rintro a' w' ⟨v,ro',S',x,objs',ha,e,hw',hx,hkk⟩;exact⟨v,ro',S',x,objs',ha,e,hw',hx,hk _ _ hkk⟩
theorem z7k.cons_q[Dr](x:VP)(ho:ops[i]? = some o)(hg:o.guard=none)(hr:z45 C o=true)(hq:OpQ C o s x)
  (h:z7k C ops rest ⟨s.slots.set o.dst x,s.objs⟩ Q):z7k C ops (i::rest) s Q:=
 .cons ho hg hr (hq.mono λy objs ⟨hy,ho⟩=>by subst hy;subst ho;exact h)
def cnd(c:Prop)(x:VP):VP:=⟨λro w v=>(c->x.h ro w v)/\(¬c->v=undef),λh1 h2 h=>⟨λhc=>x.wk h1 h2 (h.1 hc),h.2⟩⟩
def eqv(u:Value):VP:=⟨λ_ _ v=>v=u,λ_ _ h=>h⟩
abbrev iv(k:IntKind)(n:Int):VP:=eqv (.int k n)
abbrev bv(b:Bool):VP:=eqv (.bool b)
theorem zcf{a:Act}{j t:Nat}(hj :(ops[j]?).bind (·.dst)=some t):(∀g,a.tmps.getD t undef = .bool g->yielded ops a.tmps j=some g)/\(a.tmps.getD t undef=undef->yielded ops a.tmps j=none):=by
 cases ho':ops[j]? with
 |none=>rw[ho'] at hj;simp at hj
 |some oj=>
  rw[ho'] at hj;simp only[w03] at hj;by_cases hlt:t<a.tmps.size
  .simp only[w07,w2b hlt,w19];refine⟨λg hg=>?_,λhu=>?_⟩
   .simp[yielded,ho',hj,hlt,hg]
   .simp[yielded,ho',hj,hlt,hu,undef]
  .rw[w07,Array.getElem?_eq_none (by omega)];refine⟨λg hg=>by simp[undef] at hg,λ_=>?_⟩;simp[yielded,ho',hj,w4h hlt]
theorem z7k.cons_g'[Dr](x:VP)(p:Prop){j:Nat}{want:Bool}(ho:ops[i]? = some o)(hg:o.guard=some (j,want))(hr:z45 C o=true)
  (hy:∀a ro w,zj s.slots a ro w->(p->yielded ops a.tmps j=some want)/\(¬p->yielded ops a.tmps j≠some want)) (hq:p->OpQ C o s x)
  (h:z7k C ops rest ⟨s.slots.set o.dst (cnd p x),s.objs⟩ Q):z7k C ops (i::rest) s Q:=by
 rintro a w ⟨hd,hn,ro,S,hw,he,hs⟩;obtain⟨hy1,hy2⟩:=hy a ro w hs;simp only[wpOps,ho,Region.wanted,hg];by_cases hc:p
 .simp only[hy1 hc,BEq.rfl,if_true];refine .inl (Oper.wp_mono ?_ (hq hc a w ro S Q hd hn hw hs));rintro a' w' ⟨v,ro',S',y,objs',rfl,e,hw',hx,rfl,rfl⟩;exact h _ _ (zw7 hr hd hn hs he e hw' ⟨λ_=>hx,λh=>absurd hc h⟩)
 .have :(yielded ops a.tmps j==some want)=false:=by
   cases hb :(yielded ops a.tmps j==some want) with
   |false=>rfl
   |true=>exact absurd (by simpa using hb) (hy2 hc)
  rw[this];simp only[w0t,if_false];exact h _ _ (zw7 hr hd hn hs he (Evo.refl _ _ _) hw ⟨λh=>absurd h hc,λ_=>rfl⟩)
theorem zqn{s:z8z}{a:Act}{ro:Nat->Prop}{w:World}{j t:Nat}{g want:Bool}(hj :(ops[j]?).bind (·.dst)=some t)(ht:s t=some (bv g))(hs:zj s a ro w):
  (g=want->yielded ops a.tmps j=some want)/\(¬g=want->yielded ops a.tmps j≠some want):=by
 have h:=(zcf (a:=a) hj).1 g (hs t _ ht);exact⟨λe=>e ▸ h,λe h'=>e (by rw[h] at h';simpa using h')⟩
theorem zvb{s:z8z}{a:Act}{ro:Nat->Prop}{w:World}{j t:Nat}{c:Prop}{g want:Bool}(hj :(ops[j]?).bind (·.dst)=some t)(ht:s t=some (cnd c (bv g)))(hs:zj s a ro w):
  ((c/\g=want)->yielded ops a.tmps j=some want)/\(¬(c/\g=want)->yielded ops a.tmps j≠some want):=by
 obtain⟨h1,h2⟩:=hs t _ ht;refine⟨λ⟨hc,e⟩=>e ▸ (zcf (a:=a) hj).1 g (h1 hc),λhn h'=>?_⟩;by_cases hc:c
 .have:=(zcf (a:=a) hj).1 g (h1 hc)
  rw[h'] at this;simp at this;exact hn ⟨hc,this.symm⟩
 .have:=(zcf (a:=a) hj).2 (h2 hc)
  rw[h'] at this;cases this
theorem z7k.cons_g[Dr](x:VP)(g:Bool){j:Nat}{want:Bool}{t:Nat}(ho:ops[i]? = some o)(hg:o.guard=some (j,want))(hr:z45 C o=true)
  (hj :(ops[j]?).bind (·.dst)=some t) (ht:s.slots t=some (bv g)) (hq:g=want->OpQ C o s x)
  (h:z7k C ops rest ⟨s.slots.set o.dst (cnd (g=want) x),s.objs⟩ Q):z7k C ops (i::rest) s Q:=
 .cons_g' x (g=want) ho hg hr (λ_ _ _ hs=>zqn hj ht hs) hq h
theorem WInv.drawn[Dr]{w0:World}{base:Nat}{objs:List HP}{ro:Nat->Prop}{S:Nat->Nat->Prop}{w:World}(h:WInv w0 base objs ro S w)(k:Nat)(hk:w.drawn<=k):
  WInv w0 base objs ro S { w with drawn:=k } where
 below:=⟨⟨h.below.os,h.below.tape,h.below.output,h.below.size,h.below.block⟩,λp=>w34 (h.below.drawn p) hk⟩
 size:=h.size
 obj:=λi H hi=>H.mono (w:=w) (λ_ h=>h) (λ_ _=>rfl) (λ_ _=>rfl) (h.obj i H hi)
 own:=h.own
 apart:=h.apart
 old:=h.old
theorem Sat.drawn[Dr]{a:Act}{w:World}(h:Sat C s a w)(k:Nat)(hk:w.drawn<=k):Sat C s a { w with drawn:=k }:=by obtain⟨hd,hn,ro,S,hw,he,hs⟩:=h;exact⟨hd,hn,ro,S,hw.drawn k hk,⟨he.1,he.2.1,he.2.2⟩,hs.evo (B:=0) (w:=w) ⟨λ_ h=>h,λ_ _=>rfl,λ_ h=>.inl h⟩⟩
end run
section code
variable{P:Program}{C:Cx P}{s:St}{Q:Exit->Act->World->Prop}{x y c:Code}
theorem zyk.seq[Dr](h:zyk C x s (Exit.then (y.wp P Q) Q)):zyk C (.seq x y) s Q:=λa w hs=>wp_seq (h a w hs)
end code
end Px
end
section
namespace Px
open Go Go.RowKit
def Ev(s:St)(x:Operand)(A:VP):Prop:=∀a ro w,zj s.slots a ro w->A.h ro w (a.eval x)
theorem Ev.tmp{s:St}{t:Nat}{A:VP}(h:s.slots t=some A):Ev s (.tmp t) A:=λa ro w hs=>hs t A h
theorem Ev.const{s:St}(v:Value):Ev s (.const v) (eqv v):=λ_ _ _ _=>rfl
theorem Ev.func{s:St}(f:Nat):Ev s (.func f) (eqv (.func (.func f) #[] #[])):=λ_ _ _ _=>rfl
def topv:VP:=⟨λ_ _ _=>True,λ_ _ h=>h⟩
section
variable{P:Program}{C:Cx P}{o:Oper}{s:St}
theorem OpQ.val[Dr]{x:VP}(h:∀a ro w,zj s.slots a ro w->∃v,(execOp a.eval o).run P w = .ok (.value v) w/\x.h ro w v):OpQ C o s x:=by intro a w ro S Q hd hn hw hs;obtain⟨v,hr,hx⟩:=h a ro w hs;unfold Oper.wp;rw[hr,Oper.upon_value];exact⟨v,ro,S,x,s.objs,rfl,Evo.refl _ _ _,hw,hx,rfl,rfl⟩
theorem OpQ.valO[Dr]{x:VP}(h:∀a ro S w,WInv C.w0 C.base s.objs ro S w->zj s.slots a ro w->∃v,(execOp a.eval o).run P w = .ok (.value v) w/\x.h ro w v):OpQ C o s x:=by intro a w ro S Q hd hn hw hs;obtain⟨v,hr,hx⟩:=h a ro S w hw hs;unfold Oper.wp;rw[hr,Oper.upon_value];exact⟨v,ro,S,x,s.objs,rfl,Evo.refl _ _ _,hw,hx,rfl,rfl⟩
end
section ops
variable{P:Program}{C:Cx P}{s:St}{dst:Option Tmp}{ty:TypeId}{pos:String}{after:Array Edge}{guard:Option (Nat×Bool)}
theorem yef[Dr]{x:Operand}{A:VP}(h:Ev s x A):OpQ C ⟨dst,.move x,ty,pos,after,guard⟩ s A:=
 .val λa ro w hs=>⟨_,rfl,h a ro w hs⟩
theorem y7k[Dr]{x:Operand}{A:VP}(h:Ev s x A):OpQ C ⟨dst,.assign x,ty,pos,after,guard⟩ s A:=
 .val λa ro w hs=>⟨_,rfl,h a ro w hs⟩
theorem zy1[Dr]{c x y:Operand}{A:VP}{g:Bool}(hc:Ev s c (bv g))(hx:g=true->Ev s x A)(hy:g=false->Ev s y A):OpQ C ⟨dst,.pick c x y,ty,pos,after,guard⟩ s A:=
 .val λa ro w hs=>by
  have:=hc a ro w hs;simp only[bv,eqv] at this;cases g
  .exact⟨a.eval y,by simp[execOp,this,asBool],hy rfl a ro w hs⟩
  .exact⟨a.eval x,by simp[execOp,this,asBool],hx rfl a ro w hs⟩
theorem yfh[Dr]{c x y:Operand}{g q:Bool}(hc:Ev s c (bv g))(hx:g=true->Ev s x (bv q))(hy:Ev s y (bv false)):OpQ C ⟨dst,.pick c x y,ty,pos,after,guard⟩ s (bv (g&&q)):=zy1 hc (λh=>by subst h;simpa using hx rfl) (λh=>by subst h;simpa using hy)
theorem opOr[Dr]{c x y:Operand}{g q:Bool}(hc:Ev s c (bv g))(hx:Ev s x (bv true))(hy:g=false->Ev s y (bv q)):OpQ C ⟨dst,.pick c x y,ty,pos,after,guard⟩ s (bv (g||q)):=zy1 hc (λh=>by subst h;simpa using hx) (λh=>by subst h;simpa using hy rfl)
theorem zgy[Dr]{op:BinOp}{t t':TypeId}{x y:Operand}{k:IntKind}{m n:Int}{A:VP}(hx:Ev s x (iv k m))(hy:Ev s y (iv k n))
  (hr:∀w:World,∃v,(binOp op t (.int k m) (.int k n)).run P w = .ok v w/\∀ro w,A.h ro w v):OpQ C ⟨dst,.binOp op t x y t',ty,pos,after,guard⟩ s A:=
 .val λa ro w hs=>by
  have h1:=hx a ro w hs;have h2:=hy a ro w hs;simp only[iv,eqv] at h1 h2;obtain⟨v,hv,hA⟩:=hr w;refine⟨v,?_,hA ro w⟩;have hg :(eqGuard op t x y (.int k m) (.int k n)).run P w = .ok () w:=by cases op<;>simp[eqGuard]
  simp[execOp,h1,h2,hv,hg]
section int
variable{t t':TypeId}{x y:Operand}{k:IntKind}{m n:Int}(hx:Ev s x (iv k m))(hy:Ev s y (iv k n))
include hx hy
theorem yfg[Dr]:OpQ C ⟨dst,.binOp .add t x y t',ty,pos,after,guard⟩ s (iv k (k.wrap (m+n))):=zgy hx hy λw=>⟨_,by simp only[binOp,Op.intArith,ne_eq,not_true_eq_false,if_false];rfl,λ_ _=>rfl⟩
theorem yfz[Dr]:OpQ C ⟨dst,.binOp .sub t x y t',ty,pos,after,guard⟩ s (iv k (k.wrap (m-n))):=zgy hx hy λw=>⟨_,by simp only[binOp,Op.intArith,ne_eq,not_true_eq_false,if_false];rfl,λ_ _=>rfl⟩
theorem yfs[Dr]:OpQ C ⟨dst,.binOp .mul t x y t',ty,pos,after,guard⟩ s (iv k (k.wrap (m*n))):=zgy hx hy λw=>⟨_,by simp only[binOp,Op.intArith,ne_eq,not_true_eq_false,if_false];rfl,λ_ _=>rfl⟩
theorem yfx[Dr](h0:n≠0):OpQ C ⟨dst,.binOp .quo t x y t',ty,pos,after,guard⟩ s (iv k (k.wrap (m.tdiv n))):=zgy hx hy λw=>⟨_,by simp only[binOp,Op.intDiv,h0,ne_eq,not_true_eq_false,if_false];rfl,λ_ _=>rfl⟩
theorem yfy[Dr](h0:n≠0):OpQ C ⟨dst,.binOp .rem t x y t',ty,pos,after,guard⟩ s (iv k (m.tmod n)):=zgy hx hy λw=>⟨_,by simp only[binOp,Op.intDiv,h0,ne_eq,not_true_eq_false,if_false];rfl,λ_ _=>rfl⟩
theorem ye7[Dr]:OpQ C ⟨dst,.binOp .and t x y t',ty,pos,after,guard⟩ s (iv k (k.wrap (BitVec.ofInt k.bits m&&& BitVec.ofInt k.bits n).toNat)):=zgy hx hy λw=>⟨_,by simp only[binOp,Op.intBits,ne_eq,not_true_eq_false,if_false];rfl,λ_ _=>rfl⟩
theorem yfi[Dr]:OpQ C ⟨dst,.binOp .or t x y t',ty,pos,after,guard⟩ s (iv k (k.wrap (BitVec.ofInt k.bits m||| BitVec.ofInt k.bits n).toNat)):=zgy hx hy λw=>⟨_,by simp only[binOp,Op.intBits,ne_eq,not_true_eq_false,if_false];rfl,λ_ _=>rfl⟩
theorem ye8[Dr]:OpQ C ⟨dst,.binOp .xor t x y t',ty,pos,after,guard⟩ s (iv k (k.wrap (BitVec.ofInt k.bits m ^^^ BitVec.ofInt k.bits n).toNat)):=zgy hx hy λw=>⟨_,by simp only[binOp,Op.intBits,ne_eq,not_true_eq_false,if_false];rfl,λ_ _=>rfl⟩
theorem yfl[Dr]:OpQ C ⟨dst,.binOp .eql t x y t',ty,pos,after,guard⟩ s (bv (m==n)):=zgy hx hy λw=>⟨_,by simp only[binOp,Op.intCmp,ne_eq,not_true_eq_false,if_false];rfl,λ_ _=>rfl⟩
theorem yfv[Dr]:OpQ C ⟨dst,.binOp .neq t x y t',ty,pos,after,guard⟩ s (bv (m !=n)):=zgy hx hy λw=>⟨_,by simp only[binOp,Op.intCmp,ne_eq,not_true_eq_false,if_false];rfl,λ_ _=>rfl⟩
theorem yfp[Dr]:OpQ C ⟨dst,.binOp .lss t x y t',ty,pos,after,guard⟩ s (bv (decide (m<n))):=zgy hx hy λw=>⟨_,by simp only[binOp,Op.intCmp,ne_eq,not_true_eq_false,if_false];rfl,λ_ _=>rfl⟩
theorem yfo[Dr]:OpQ C ⟨dst,.binOp .leq t x y t',ty,pos,after,guard⟩ s (bv (decide (m<=n))):=zgy hx hy λw=>⟨_,by simp only[binOp,Op.intCmp,ne_eq,not_true_eq_false,if_false];rfl,λ_ _=>rfl⟩
theorem yfn[Dr]:OpQ C ⟨dst,.binOp .gtr t x y t',ty,pos,after,guard⟩ s (bv (decide (n<m))):=zgy hx hy λw=>⟨_,by simp only[binOp,Op.intCmp,ne_eq,not_true_eq_false,if_false];rfl,λ_ _=>rfl⟩
theorem yfm[Dr]:OpQ C ⟨dst,.binOp .geq t x y t',ty,pos,after,guard⟩ s (bv (decide (n<=m))):=zgy hx hy λw=>⟨_,by simp only[binOp,Op.intCmp,ne_eq,not_true_eq_false,if_false];rfl,λ_ _=>rfl⟩
end int
theorem yeh[Dr]{t t':TypeId}{x y:Operand}{k k':IntKind}{m n:Int}(hx:Ev s x (iv k m))(hy:Ev s y (iv k' n))(h0:0<=n):
  OpQ C ⟨dst,.binOp .shl t x y t',ty,pos,after,guard⟩ s (iv k (k.wrap (m*2 ^ (min n.toNat k.bits)))):=
 .val λa ro w hs=>by
  have h1:=hx a ro w hs;have h2:=hy a ro w hs;simp only[iv,eqv] at h1 h2;refine⟨_,?_,rfl⟩;simp only[execOp,h1,h2,eqGuard,binOp,Op.shift,if_neg (Int.not_lt.2 h0)];rfl
theorem yei[Dr]{t t':TypeId}{x y:Operand}{k k':IntKind}{m n:Int}(hx:Ev s x (iv k m))(hy:Ev s y (iv k' n))(h0:0<=n):
  OpQ C ⟨dst,.binOp .shr t x y t',ty,pos,after,guard⟩ s (iv k (m.fdiv (2 ^ (min n.toNat k.bits)))):=
 .val λa ro w hs=>by
  have h1:=hx a ro w hs;have h2:=hy a ro w hs;simp only[iv,eqv] at h1 h2;refine⟨_,?_,rfl⟩;simp only[execOp,h1,h2,eqGuard,binOp,Op.shift,if_neg (Int.not_lt.2 h0)];rfl
theorem zko{P:Program}(w:World)(d:Nat){t:TypeId}(m n:Bool)(ht:P.underlying t=some .bool):
  (Op.equalIn (d+1) t (.bool m) (.bool n)).run P w = .ok (m==n) w:=by
 simp[Op.equalIn,run_underlying ht]
theorem zfn{P:Program}(w:World){t:TypeId}(m n:Bool)(ht:P.underlying t=some .bool):
  (Op.equal t (.bool m) (.bool n)).run P w = .ok (m==n) w:=zko w 9999 m n ht
theorem yea[Dr]{t t':TypeId}{x y:Operand}{m n:Bool}(ht:P.underlying t=some .bool)(hx:Ev s x (bv m))(hy:Ev s y (bv n)):
  OpQ C ⟨dst,.binOp .eql t x y t',ty,pos,after,guard⟩ s (bv (m==n)):=
 .val λa ro w hs=>by
  have h1:=hx a ro w hs;have h2:=hy a ro w hs;simp only[bv,eqv] at h1 h2;refine⟨_,?_,rfl⟩;simp[execOp,h1,h2,eqGuard,binOp,zfn w m n ht]
theorem yeg[Dr]{t t':TypeId}{x y:Operand}{m n:Bool}(ht:P.underlying t=some .bool)(hx:Ev s x (bv m))(hy:Ev s y (bv n)):
  OpQ C ⟨dst,.binOp .neq t x y t',ty,pos,after,guard⟩ s (bv (m !=n)):=
 .val λa ro w hs=>by
  have h1:=hx a ro w hs;have h2:=hy a ro w hs;simp only[bv,eqv] at h1 h2;refine⟨_,?_,rfl⟩;simp[execOp,h1,h2,eqGuard,binOp,zfn w m n ht,bne]
theorem yfw[Dr]{t:TypeId}{x:Operand}{m:Bool}(hx:Ev s x (bv m)):OpQ C ⟨dst,.unOp .not t x,ty,pos,after,guard⟩ s (bv (!m)):=
 .val λa ro w hs=>⟨_,by have h1:=hx a ro w hs;simp only[bv,eqv] at h1;simp[execOp,h1,Op.unary],rfl⟩
theorem yfu[Dr]{t:TypeId}{x:Operand}{k:IntKind}{m:Int}(hx:Ev s x (iv k m)):OpQ C ⟨dst,.unOp .neg t x,ty,pos,after,guard⟩ s (iv k (k.wrap (0-m))):=
 .val λa ro w hs=>⟨_,by have h1:=hx a ro w hs;simp only[iv,eqv] at h1;simp only[execOp,h1,Op.unary,Op.intArith,w06,w0g,w05],rfl⟩
theorem ye9[Dr]{src d:TypeId}{x:Operand}{k k':IntKind}{m:Int}(h :(P.underlying src).isSome=true)(hd:P.underlying d=some (.int k'))(hx:Ev s x (iv k m)):
  OpQ C ⟨dst,.convert src d x,ty,pos,after,guard⟩ s (iv k' (k'.wrap m)):=
 .val λa ro w hs=>by
  have h1:=hx a ro w hs;simp only[iv,eqv] at h1;obtain⟨ds,hds⟩:=w11.1 h;refine⟨_,?_,rfl⟩;simp[execOp,h1,convert,run_underlying hds,run_underlying hd,Conv.intToInt]
def tupv(xs:List VP):VP:=⟨λro w v=>∃vs:Array Value,v = .tuple vs/\vs.size=xs.length/\∀(i:Nat)(A:VP),xs[i]? = some A->A.h ro w (vs.getD i undef),
 λh1 h2 ⟨vs,e,hl,h⟩=>⟨vs,e,hl,λi A hi=>A.wk h1 h2 (h i A hi)⟩⟩
theorem y3m[Dr]{x:Operand}{xs:List VP}{i:Nat}{A:VP}(hx:Ev s x (tupv xs))(hi:xs[i]? = some A):OpQ C ⟨dst,.extract x i,ty,pos,after,guard⟩ s A:=
 .val λa ro w hs=>by
  obtain⟨vs,e,hl,h⟩:=hx a ro w hs;have hlt:i<vs.size:=by rw[hl];exact(w04.1 hi).1
  have hA:=h i A hi;refine⟨vs[i],?_,?_⟩
  .simp[execOp,e,Instr.extract,hlt]
  .simpa[Array.getD,hlt] using hA
end ops
end Px
end
section
namespace Px
open Go Go.RowKit
def z3r(w:World)(ro:Nat->Prop)(b o:Nat)(cs:List VP):Prop:=∀(j:Nat)(A:VP),cs[j]? = some A->∃u,w.cell? ⟨b,o+j,none⟩=some u/\A.h ro w u/\u.oneCell'=true
def zo(ro:Nat->Prop)(w:World)(cs:List VP)(vs:List Value):Prop:=cs.length=vs.length/\∀(j:Nat)(A:VP),cs[j]? = some A->∃u,vs[j]? = some u/\A.h ro w u/\u.oneCell'=true
theorem zlb{w w':World}{b o:Nat}(h:w'.heap[b]? = w.heap[b]?):w'.cell? ⟨b,o,none⟩=w.cell? ⟨b,o,none⟩:=by simp[World.cell?,h]
theorem y5z{w:World}{b o:Nat}{v:Value}(h:w.cell? ⟨b,o,none⟩=some v):¬Rec w.heap[b]?:=by rintro(⟨l,e⟩|⟨l,e⟩)<;>(unfold World.cell? at h;simp[e] at h)
theorem z3r.wk{w w':World}{ro ro':Nat->Prop}{b o:Nat}{cs:List VP}(h1:∀b,ro b->ro' b)(h2:∀b,ro b->¬Rec w.heap[b]?->w'.heap[b]? = w.heap[b]?)
  (hb:¬Rec w.heap[b]?->w'.heap[b]? = w.heap[b]?) (h:z3r w ro b o cs):z3r w' ro' b o cs:=λj A hj=>by
 obtain⟨u,hc,hA,ho⟩:=h j A hj;exact⟨u,(zlb (hb (y5z hc))).trans hc,A.wk h1 h2 hA,ho⟩
theorem zo.wk{w w':World}{ro ro':Nat->Prop}{cs:List VP}{vs:List Value}(h1:∀b,ro b->ro' b)(h2:∀b,ro b->¬Rec w.heap[b]?->w'.heap[b]? = w.heap[b]?)
  (h:zo ro w cs vs):zo ro' w' cs vs:=⟨h.1,λj A hj=>by
 obtain⟨u,hc,hA,ho⟩:=h.2 j A hj;exact⟨u,hc,A.wk h1 h2 hA,ho⟩⟩
theorem zo.mono{w w':World}{ro ro':Nat->Prop}{cs:List VP}{vs:List Value}(h1:∀b,ro b->ro' b)(h2:∀b,ro b->w'.heap[b]? = w.heap[b]?)
  (h:zo ro w cs vs):zo ro' w' cs vs:=⟨h.1,λj A hj=>by
 obtain⟨u,hc,hA,ho⟩:=h.2 j A hj;exact⟨u,hc,A.mono h1 h2 hA,ho⟩⟩
theorem z3r.drop{w:World}{ro:Nat->Prop}{b o:Nat}{cs:List VP}(h:z3r w ro b o cs)(n:Nat):z3r w ro b (o+n) (cs.drop n):=λj A hj=>by
 rw[w1v] at hj;have:=h (n+j) A hj
 rwa [<- w2h] at this
theorem z3r.take{w:World}{ro:Nat->Prop}{b o:Nat}{cs:List VP}(h:z3r w ro b o cs)(n:Nat):z3r w ro b o (cs.take n):=λj A hj=>by
 rw[w0o] at hj;split at hj
 .exact h j A hj
 .cases hj
def agg(cs:List VP):VP:=⟨λro w v=>∃vs:Array Value,v = .agg vs/\zo ro w cs vs.toList,λh1 h2 ⟨vs,e,h⟩=>⟨vs,e,h.wk h1 h2⟩⟩
def ro{α:Type}(e:α->List VP)(sz:Nat)(l:List α):VP:=
 ⟨λr w v=>((∃a cap,v = .slice a 0 cap)/\l = [])\/∃b o cap,v = .slice (some ⟨b,o,none⟩) l.length (l.length+cap)/\∀(i:Nat)(x:α),l[i]? = some x->r b/\z3r w r b (o+i*sz) (e x),
  λh1 h2 h=>by
  rcases h with h|⟨b,o,cap,hv,h⟩
  .exact .inl h
  .exact .inr ⟨b,o,cap,hv,λi x hi=>⟨h1 _ (h i x hi).1,(h i x hi).2.wk h1 h2 (h2 _ (h i x hi).1)⟩⟩⟩
def rop(cs:List VP):VP:=⟨λr w v=>∃b o,v = .pointer (some ⟨b,o,none⟩)/\r b/\z3r w r b o cs,λh1 h2 ⟨b,o,hv,hr,h⟩=>⟨b,o,hv,h1 _ hr,h.wk h1 h2 (h2 _ hr)⟩⟩
def rowp(sv:Value)(off:Nat):VP:=⟨λ_ _ v=>∃g n cap,sv = .slice (some ⟨g,0,none⟩) n cap/\v = .pointer (some ⟨g,off,none⟩),λ_ _ h=>h⟩
def box(b:Nat)(T:TypeId)(cs:List VP):HP:=
 ⟨λS r w=>S b/\∃cur:Array Value,w.heap[b]? = some (.cells cur T (0,0))/\zo r w cs cur.toList,
  λh1 h2 h3 ⟨hS,cur,hc,h⟩=>⟨hS,cur,(h3 _ hS).trans hc,h.wk h1 h2⟩⟩
def row{α:Type}(E:TypeId)(e:α->List VP)(sz:Nat)(l:List α)(sv:Value):HP:=
 ⟨λS r w=>(sv = .slice none 0 0/\l = [])\/∃g cap,∃cur:Array Value,sv = .slice (some ⟨g,0,none⟩) l.length cap/\S g/\w.heap[g]? = some (.cells cur E (0,0))/\
   l.length<=cap/\cap<=maxLen/\cur.size=cap*sz/\zo r w (l.flatMap e) (cur.toList.take (l.length*sz)),
  λh1 h2 h3 h=>by
  rcases h with h|⟨g,cap,cur,hv,hS,hc,hl,hm,hs,h⟩
  .exact .inl h
  .exact .inr ⟨g,cap,cur,hv,hS,(h3 _ hS).trans hc,hl,hm,hs,h.wk h1 h2⟩⟩
def emp:HP:=⟨λ_ _ _=>True,λ_ _ _ h=>h⟩
def z3p(P:Program)(t:TypeId):Option (Bool×Nat):=match P.underlying t,P.info? t with
 |some d,some i=>some (match d with | .struct _ | .array _ _=>true|_=>false,i.size)
 |_,_=>none
def foff(P:Program)(t:TypeId)(f:Nat):Option Nat:=match P.underlying t with
 |some (.struct fs)=>(fs[f]?).bind λx=>(P.info? x.type).bind λi=>if i.size=0 then none else some x.offset
 |_=>none
def tidx(P:Program)(t:TypeId):Option (Bool×Nat×Nat):=match P.underlying t with
 |some (.array n e)=>(P.info? e).map λi=>(true,n,i.size)
 |some (.slice e)=>(P.info? e).map λi=>(false,0,i.size)
 |_=>none
section runs
variable{P:Program}{t:TypeId}{n:Nat}(w:World)
theorem zg4{b:Bool}(h:z3p P t=some (b,n)):∃d i,P.underlying t=some d/\P.info? t=some i/\i.size=n/\(match d with | .struct _ | .array _ _=>true|_=>false)=b:=by
 unfold z3p at h;split at h
 .rename_i d i hd hi;simp only[w00,w0b] at h;exact⟨d,i,hd,hi,h.2,h.1⟩
 .cases h
theorem zh8{b:Bool}(h:z3p P t=some (b,n)):(isAgg t).run P w = .ok b w:=by obtain⟨d,i,hd,hi,hs,hb⟩:=zg4 h;simp only[isAgg,w06,run_underlying hd,w05];cases d<;>simp_all
theorem z68{b:Bool}(h:z3p P t=some (b,n)):(Go.sizeOf t).run P w = .ok n w:=by obtain⟨d,i,hd,hi,hs,hb⟩:=zg4 h;simp[Go.sizeOf,typeInfo,hi,hs]
theorem ztu{b o:Nat}{u:Value}(h:z3p P t=some (false,n))(hc:w.cell? ⟨b,o,none⟩=some u):
  (Instr.loadAt t (.pointer (some ⟨b,o,none⟩))).run P w = .ok u w:=by
 simp[Instr.loadAt,Instr.sureAddr,loadVar,zh8 w h,hc]
theorem ztv{b o:Nat}{vs:List Value}(h:z3p P t=some (true,vs.length))(hc:∀j u,vs[j]? = some u->w.cell? ⟨b,o+j,none⟩=some u):
  (Instr.loadAt t (.pointer (some ⟨b,o,none⟩))).run P w = .ok (.agg vs.toArray) w:=by
 have:=run_loadCells_list (P:=P) w ⟨b,o,none⟩ vs (λj v hj=>by rw[Addr.add_lit];exact hc j v hj);simp[Instr.loadAt,Instr.sureAddr,loadVar,zh8 w h,z68 w h,this]
theorem zyz{f off:Nat}(h:foff P t f=some off):∃fs x i,P.underlying t=some (.struct fs)/\fs[f]? = some x/\P.info? x.type=some i/\i.size≠0/\x.offset=off:=by
 unfold foff at h;split at h
 .rename_i fs hfs;cases hx:fs[f]? with
  |none=>rw[hx] at h;simp at h
  |some x=>
   rw[hx] at h;simp only[w03] at h;cases hi:P.info? x.type with
   |none=>rw[hi] at h;simp at h
   |some i=>
    rw[hi] at h;simp only[w03] at h;split at h
    .cases h
    .exact⟨fs,x,i,hfs,hx,hi,by assumption,by simpa using h⟩
 .cases h
theorem zdb{f off b o:Nat}(h:foff P t f=some off):(Instr.fieldAt t (.pointer (some ⟨b,o,none⟩)) f).run P w = .ok (.pointer (some ⟨b,o+off,none⟩)) w:=by obtain⟨fs,x,i,hfs,hx,hi,h0,ho⟩:=zyz h;simp[Instr.fieldAt,run_underlying hfs,hx,Instr.sureAddr,fieldPlace,Go.sizeOf,typeInfo,hi,h0,Addr.add_lit,ho]
theorem zyh{len esz:Nat}(h:tidx P t=some (true,len,esz)):∃e i,P.underlying t=some (.array len e)/\P.info? e=some i/\i.size=esz:=by
 unfold tidx at h;split at h
 .rename_i n e hu;cases hi:P.info? e with
  |none=>rw[hi] at h;simp at h
  |some i=>rw[hi] at h;simp at h;obtain⟨rfl,rfl⟩:=h;exact⟨e,i,hu,hi,rfl⟩
 .rename_i e hu;cases hi:P.info? e with
  |none=>rw[hi] at h;simp at h
  |some i=>rw[hi] at h;simp at h
 .cases h
theorem y4s{len esz:Nat}(h:tidx P t=some (false,len,esz)):∃e i,P.underlying t=some (.slice e)/\P.info? e=some i/\i.size=esz:=by
 unfold tidx at h;split at h
 .rename_i n e hu;cases hi:P.info? e with
  |none=>rw[hi] at h;simp at h
  |some i=>rw[hi] at h;simp at h
 .rename_i e hu;cases hi:P.info? e with
  |none=>rw[hi] at h;simp at h
  |some i=>rw[hi] at h;simp at h;obtain⟨rfl,rfl⟩:=h;exact⟨e,i,hu,hi,rfl⟩
 .cases h
theorem zjo{len esz b o:Nat}{k:IntKind}{m:Int}(h:tidx P t=some (true,len,esz))(h0:0<=m)(h1:m<len):
  (Instr.indexAt t (.pointer (some ⟨b,o,none⟩)) (.int k m)).run P w = .ok (.pointer (some ⟨b,o+m.toNat*esz,none⟩)) w:=by
 obtain⟨e,i,hu,hi,hs⟩:=zyh h;simp[Instr.indexAt,asIntOf,run_underlying hu,Instr.sureAddr,h0,h1,Go.sizeOf,typeInfo,hi,hs,Addr.add_lit]
theorem zdc{esz b o n cap:Nat}{k:IntKind}{m:Int}(h:tidx P t=some (false,0,esz))(h0:0<=m)(h1:m<n):
  (Instr.indexAt t (.slice (some ⟨b,o,none⟩) n cap) (.int k m)).run P w = .ok (.pointer (some ⟨b,o+m.toNat*esz,none⟩)) w:=by
 obtain⟨e,i,hu,hi,hs⟩:=y4s h;simp[Instr.indexAt,asIntOf,run_underlying hu,h0,h1,Go.sizeOf,typeInfo,hi,hs,Addr.add_lit]
end runs
def Pt[Dr]{P:Program}(C:Cx P)(s:St)(x:Operand)(cs:List VP):Prop:=∀a r S w,WInv C.w0 C.base s.objs r S w->zj s.slots a r w->∃b o,a.eval x = .pointer (some ⟨b,o,none⟩)/\z3r w r b o cs
theorem zo.rd{w:World}{r:Nat->Prop}{cs:List VP}{cur:Array Value}{b:Nat}{T:TypeId}(hc:w.heap[b]? = some (.cells cur T (0,0)))(h:zo r w cs cur.toList):z3r w r b 0 cs:=λj A hj=>by obtain⟨u,hu,hA,ho⟩:=h.2 j A hj;refine⟨u,?_,hA,ho⟩;rw[w13,cell_of_row w b j cur T (0,0) hc];simpa using hu
section pt
variable{P:Program}{C:Cx P}{s:St}{x:Operand}
theorem Pt.rop[Dr]{cs:List VP}(h:Ev s x (rop cs)):Pt C s x cs:=λa r S w hw hs=>by obtain⟨b,o,hv,_,hc⟩:=h a r w hs;exact⟨b,o,hv,hc⟩
theorem Pt.box[Dr](i:Nat){b off:Nat}{T:TypeId}{cells cs:List VP}(h:Ev s x (eqv (.pointer (some ⟨b,off,none⟩))))(ho:s.objs[i]? = some (box b T cells))(hc:cells.drop off=cs):Pt C s x cs:=λa r S w hw hs=>by refine⟨b,off,h a r w hs,?_⟩;obtain⟨hS,cur,hcur,hh⟩:=hw.obj i _ ho;have:=(hh.rd hcur).drop off;rw[w13,hc] at this;exact this
end pt
theorem z3e{α:Type}{e:α->List VP}{sz:Nat}(he:∀x,(e x).length=sz):∀(l:List α)(k:Nat)(x:α),l[k]? = some x->∀(j:Nat)(A:VP),(e x)[j]? = some A->(l.flatMap e)[k*sz+j]? = some A
 | [],k,x,h,_,_,_=>by simp at h
 |y::l,0,x,h,j,A,hj=>by simp at h;subst h;rw[w0n,Nat.zero_mul,w13,w0j (w04.1 hj).1];exact hj
 |y::l,k+1,x,h,j,A,hj=>by
  simp at h;have ih:=z3e he l k x h j A hj;have e1 :(k+1)*sz+j =(e y).length+(k*sz+j):=by rw[he,w1e];omega
  rw[w0n,e1,w0z (Nat.le_add_right _ _),w3l];exact ih
theorem z3j{α:Type}{e:α->List VP}{sz:Nat}(he:∀x,(e x).length=sz):∀(l:List α),(l.flatMap e).length=l.length*sz
 | []=>by simp
 |y::l=>by simp[z3j he l,he,w1e,w59]
theorem Pt.row[Dr]{P:Program}(C:Cx P){s:St}{x:Operand}{α:Type}(i:Nat){E:TypeId}{e:α->List VP}{sz:Nat}{l:List α}{sv:Value}{off k fo:Nat}{y:α}{cs:List VP}(he:∀x,(e x).length=sz)
  (h:Ev s x (rowp sv off)) (ho:s.objs[i]? = some (row E e sz l sv)) (hoff:off=k*sz+fo) (hy:l[k]? = some y) (hc :(e y).drop fo=cs):Pt C s x cs:=λa r S w hw hs=>by
 obtain⟨g,n,cap,hv,hx⟩:=h a r w hs;refine⟨g,off,hx,?_⟩;rcases hw.obj i _ ho with⟨hn,_⟩|⟨g',cap',cur,hv',hS,hcur,hl,hm,hsz,hh⟩
 .rw[hv] at hn;cases hn
 .rw[hv] at hv';simp only[Value.slice.injEq,w00,Addr.mk.injEq] at hv';obtain⟨⟨rfl,_⟩,_,_⟩:=hv';intro j A hj;rw[<- hc,w1v] at hj;have hfm:=z3e he l k y hy (fo+j) A hj;obtain⟨u,hu,hA,h1⟩:=hh.2 _ _ hfm;refine⟨u,?_,hA,h1⟩;rw[w0o] at hu;split at hu
  .rw[cell_of_row w g _ cur E (0,0) hcur,hoff,w2h];simpa using hu
  .cases hu
section ops
variable{P:Program}{C:Cx P}{s:St}{dst:Option Tmp}{ty:TypeId}{pos:String}{after:Array Edge}{guard:Option (Nat×Bool)}
theorem y3q[Dr]{t:TypeId}{x:Operand}{n:Nat}{A:VP}{cs:List VP}(ht:z3p P t=some (false,n))(h:Pt C s x (A::cs)):OpQ C ⟨dst,.load t x,ty,pos,after,guard⟩ s A:=
 .valO λa r S w hw hs=>by
  obtain⟨b,o,hx,hc⟩:=h a r S w hw hs;obtain⟨u,hu,hA,_⟩:=hc 0 A rfl;exact⟨u,by simp[execOp,hx,ztu w ht (by simpa using hu)],hA⟩
theorem z3r.list{w:World}{r:Nat->Prop}{b o:Nat}{cs:List VP}(h:z3r w r b o cs):∃vs:List Value,zo r w cs vs/\∀j u,vs[j]? = some u->w.cell? ⟨b,o+j,none⟩=some u:=by
 refine⟨(List.range cs.length).map λj=>(w.cell? ⟨b,o+j,none⟩).getD undef,⟨by simp,λj A hj=>?_⟩,λj u hj=>?_⟩
 .obtain⟨u,hu,hA,h1⟩:=h j A hj;have hlt:=(w04.1 hj).1;exact⟨u,by simp[hlt,hu],hA,h1⟩
 .have hlt:j<cs.length:=by have:=(w04.1 hj).1;simpa using this
  obtain⟨u',hu',_⟩:=h j _ (w0a hlt);simp[hlt,hu'] at hj;rw[hu',hj]
theorem yc8[Dr]{t:TypeId}{x:Operand}{cs:List VP}(ht:z3p P t=some (true,cs.length))(h:Pt C s x cs):OpQ C ⟨dst,.load t x,ty,pos,after,guard⟩ s (agg cs):=
 .valO λa r S w hw hs=>by
  obtain⟨b,o,hx,hc⟩:=h a r S w hw hs;obtain⟨vs,hvs,hcell⟩:=hc.list;refine⟨_,by simp only[execOp,hx,w06,ztv w (hvs.1 ▸ ht) hcell];rfl,_,rfl,by simpa using hvs⟩
theorem Pt.take[Dr]{x:Operand}{cs:List VP}(n:Nat){cs':List VP}(h:Pt C s x cs)(hc:cs.take n=cs'):Pt C s x cs':=λa r S w hw hs=>by obtain⟨b,o,hx,hh⟩:=h a r S w hw hs;exact⟨b,o,hx,hc ▸ hh.take n⟩
theorem y7o[Dr]{t:TypeId}{f off b o:Nat}{x:Operand}(hf:foff P t f=some off)(h:Ev s x (eqv (.pointer (some ⟨b,o,none⟩)))):
  OpQ C ⟨dst,.fieldAddr t x f,ty,pos,after,guard⟩ s (eqv (.pointer (some ⟨b,o+off,none⟩))):=
 .val λa r w hs=>⟨_,by have h1:=h a r w hs;simp only[eqv] at h1;simp[execOp,h1,zdb w hf],rfl⟩
theorem y7p[Dr]{t:TypeId}{f off:Nat}{x:Operand}{cs cs':List VP}(hf:foff P t f=some off)(h:Ev s x (rop cs))(hc:cs.drop off=cs'):
  OpQ C ⟨dst,.fieldAddr t x f,ty,pos,after,guard⟩ s (rop cs'):=
 .val λa r w hs=>by
  obtain⟨b,o,hx,hr,hh⟩:=h a r w hs;exact⟨_,by simp[execOp,hx,zdb w hf],b,o+off,rfl,hr,hc ▸ hh.drop off⟩
theorem y7r[Dr]{α:Type}{e:α->List VP}{sz:Nat}{l:List α}{t:TypeId}{x i:Operand}{k:IntKind}{m:Int}{y:α}(ht:tidx P t=some (false,0,sz))(h:Ev s x (ro e sz l))(hi:Ev s i (iv k m))
  (h0:0<=m) (hy:l[m.toNat]? = some y):OpQ C ⟨dst,.indexAddr t x i,ty,pos,after,guard⟩ s (rop (e y)):=
 .val λa r w hs=>by
  have h2:=hi a r w hs;simp only[iv,eqv] at h2;have hlt:=(w04.1 hy).1;rcases h a r w hs with⟨_,rfl⟩|⟨b,o,cap,hv,hh⟩
  .simp at hlt
  .obtain⟨hr,hc⟩:=hh _ _ hy;exact⟨_,by simp only[execOp,hv,h2,w06,zdc w ht h0 (show m<(l.length:Int) by omega)];rfl,b,_,rfl,hr,hc⟩
def isSl(P:Program)(t:TypeId):Bool:=match P.underlying t with|some (.slice _)=>true|_=>false
theorem z7c{P:Program}(w:World){t ty:TypeId}{a:Option Addr}{n cap:Nat}(h:isSl P t=true):(Builtin.len_ #[t] ty #[.slice a n cap]).run P w = .ok (.int .i64 n) w:=by
 unfold isSl at h;split at h
 .rename_i e hu;simp[Builtin.len_,run_underlying hu,goInt]
 .cases h
theorem z4x{P:Program}{a:Act}{x:Operand}{t:TypeId}{w:World}{v:Value}(hr :(Builtin.len_ #[t] ty #[a.eval x]).run P w = .ok v w):
  (execOp a.eval ⟨dst,.call { callee:=.builtin .len,args:=#[x],argTypes:=#[t] },ty,pos,after,guard⟩).run P w = .ok (.value v) w:=by
 simp[execOp,resolve,invoke,builtin,hr]
theorem yed[Dr]{α:Type}{e:α->List VP}{sz:Nat}{l:List α}{t:TypeId}{x:Operand}(ht:isSl P t=true)(h:Ev s x (ro e sz l)):
  OpQ C ⟨dst,.call { callee:=.builtin .len,args:=#[x],argTypes:=#[t] },ty,pos,after,guard⟩ s (iv .i64 l.length):=
 .val λa r w hs=>by
  rcases h a r w hs with⟨⟨a',c',hv⟩,rfl⟩|⟨b,o,cap,hv,hh⟩
  .exact⟨_,z4x (by rw[hv];exact z7c w ht),rfl⟩
  .exact⟨_,z4x (by rw[hv];exact z7c w ht),rfl⟩
def z3y{α:Type}(l:List α)(lo hi:Nat):List α:=(l.take hi).drop lo
theorem zcc{α:Type}{l:List α}{lo hi:Nat}(h1:lo<=hi)(h2:hi<=l.length):(z3y l lo hi).length=hi-lo:=by simp[z3y];omega
theorem y3u{α:Type}{l:List α}{lo hi i:Nat}{x:α}(h :(z3y l lo hi)[i]? = some x):l[lo+i]? = some x:=by
 unfold z3y at h;rw[w1v,w0o] at h;split at h
 .exact h
 .cases h
theorem yce{α:Type}{e:α->List VP}{sz:Nat}{l:List α}{r:Nat->Prop}{w:World}{v:Value}(h :(ro e sz l).h r w v){lo hi:Nat}(h1:lo<=hi)(h2:hi<=l.length):
  ∃a len cap,v = .slice a len cap/\len=l.length/\hi<=cap/\(ro e sz (z3y l lo hi)).h r w (.slice (if cap=lo then a else a.map (·.add (lo*sz))) (hi-lo) (cap-lo)):=by
 rcases h with⟨⟨a,cap,hv⟩,hl⟩|⟨b,o,cap,hv,hh⟩
 .subst hl;have:hi=0:=by simpa using h2
  subst this;exact⟨a,0,cap,hv,rfl,by omega,.inl ⟨⟨_,_,by rw[Nat.zero_sub]⟩,by simp[z3y]⟩⟩
 .refine⟨_,_,_,hv,rfl,by omega,?_⟩;by_cases he:hi=lo
  .subst he;exact .inl ⟨⟨_,_,by rw[Nat.sub_self]⟩,by simp[z3y]⟩
  .refine .inr ⟨b,o+lo*sz,l.length+cap-lo-(hi-lo),?_,λi x hx=>?_⟩
   .rw[zcc h1 h2,if_neg (by omega),w2j (by omega)];simp[Addr.add_lit]
   .obtain⟨q1,q2⟩:=hh (lo+i) x (y3u hx);refine⟨q1,?_⟩;rw[w2h,<- w1e];exact q2
theorem zha{w:World}{t:TypeId}{esz:Nat}{a:Option Addr}{len cap lo hi:Nat}{low high:Option Value}(h:tidx P t=some (false,0,esz))(hlo:low=none/\lo=0\/∃k,low=some (.int k (lo:Int)))
  (hhi:high=none/\hi=len\/∃k,high=some (.int k (hi:Int))) (h1:lo<=hi) (h2:hi<=cap) :
  (Instr.sliceAt t (.slice a len cap) low high none).run P w = .ok (.slice (if cap=lo then a else a.map (·.add (lo*esz))) (hi-lo) (cap-lo)) w:=by
 obtain⟨e,i,hu,hi',hs⟩:=y4s h;have e1 :((hi:Int)<=(cap:Int))=True:=by simp;omega
 have e2 :((lo:Int)<=(hi:Int))=True:=by simp;omega
 rcases hlo with⟨rfl,rfl⟩|⟨k,rfl⟩<;>rcases hhi with⟨rfl,rfl⟩|⟨k',rfl⟩<;>
  simp[Instr.sliceAt,Instr.slice,Instr.sliceBounds,Instr.sliceBound,asIntOf,run_underlying hu,Go.sizeOf,typeInfo,hi',hs,e1,e2,h1,h2]
def BdE(s:St)(o:Option Operand)(n dflt:Nat):Prop:=match o with
 |none=>n=dflt
 |some x=>∃k,Ev s x (iv k (n:Int))
theorem y7x[Dr]{α:Type}{e:α->List VP}{sz:Nat}{l:List α}{t:TypeId}{x:Operand}{lo hi:Option Operand}{m n:Nat}(ht:tidx P t=some (false,0,sz))(h:Ev s x (ro e sz l))(hlo:BdE s lo m 0)(hhi:BdE s hi n l.length)
  (h1:m<=n) (h2:n<=l.length):OpQ C ⟨dst,.slice t x lo hi none,ty,pos,after,guard⟩ s (ro e sz (z3y l m n)):=
 .val λa r w hs=>by
  obtain⟨a',len,cap,hv,hlen,hcap,hro⟩:=yce (h a r w hs) h1 h2;subst hlen;have q1:lo.map a.eval=none/\m=0\/∃k,lo.map a.eval=some (.int k (m:Int)):=by
   cases lo with
   |none=>exact .inl ⟨rfl,hlo⟩
   |some o=>obtain⟨k,hk⟩:=hlo;exact .inr ⟨k,congrArg some (hk a r w hs)⟩
  have q2:hi.map a.eval=none/\n=l.length\/∃k,hi.map a.eval=some (.int k (n:Int)):=by
   cases hi with
   |none=>exact .inl ⟨rfl,hhi⟩
   |some o=>obtain⟨k,hk⟩:=hhi;exact .inr ⟨k,congrArg some (hk a r w hs)⟩
  exact⟨_,by simp only[execOp,hv,w37,w06,zha (w:=w) ht q1 q2 h1 hcap];rfl,hro⟩
theorem yec[Dr]{α:Type}{E:TypeId}{e:α->List VP}{sz:Nat}{l:List α}{sv:Value}(j:Nat){t:TypeId}{x:Operand}(ht:isSl P t=true)(h:Ev s x (eqv sv))(ho:s.objs[j]? = some (row E e sz l sv)):
  OpQ C ⟨dst,.call { callee:=.builtin .len,args:=#[x],argTypes:=#[t] },ty,pos,after,guard⟩ s (iv .i64 l.length):=
 .valO λa r S w hw hs=>by
  have h3:=h a r w hs;simp only[eqv] at h3;rcases hw.obj j _ ho with⟨hv,rfl⟩|⟨g,cap,cur,hv,_⟩
  .exact⟨_,z4x (by rw[h3,hv];exact z7c w ht),rfl⟩
  .exact⟨_,z4x (by rw[h3,hv];exact z7c w ht),rfl⟩
end ops
end Px
end
section
namespace Px
open Go Go.RowKit
section winv
variable{w0 w w':World}{base:Nat}{objs:List HP}{r:Nat->Prop}{S:Nat->Nat->Prop}
theorem WInv.push[Dr](h:WInv w0 base objs r S w)(H:HP)(o:Obj)(hH:H.h (λb=>b=w.heap.size) r (w.alloc o)):
  WInv w0 base (objs++[H]) r (λi b=>(i=objs.length/\b=w.heap.size)\/S i b) (w.alloc o) where
 below:=h.below.alloc h.size o
 size:=by have:=h.size;simp;omega
 obj:=by
  intro i K hi;rw[w23] at hi;split at hi
  .rename_i hlt;refine K.mono (S:=λb=>(i=objs.length/\b=w.heap.size)\/S i b) (w:=w) (λ_ h=>h) (λb hb=>Below.heap_alloc _ _ _ (h.old b hb)) ?_ ?_
   .rintro b (⟨e,_⟩|hb)
    .omega
    .exact Below.heap_alloc _ _ _ (h.own i b hb).2.2.1
   .have e :(λb=>(i=objs.length/\b=w.heap.size)\/S i b)=S i:=by
     funext b;have:¬i=objs.length:=by omega
     simp[this]
    rw[e];exact h.obj i K hi
  .rename_i hge;cases hk:i-objs.length with
   |succ k=>rw[hk] at hi;simp at hi
   |zero=>
    rw[hk] at hi;simp at hi;subst hi;have e1:i=objs.length:=by omega
    have e :(λb=>(i=objs.length/\b=w.heap.size)\/S i b)=λb=>b=w.heap.size:=by
     funext b;have:¬S i b:=λhb=>by have:=(h.own i b hb).1;omega
     exact propext ⟨λh=>h.elim (·.2) (λhb=>absurd hb this),λh=>.inl ⟨e1,h⟩⟩
    rw[e];exact hH
 own:=by
  rintro i b (⟨rfl,rfl⟩|hb)
  .have:=h.size
   refine⟨by simp,this,by simp,λhr=>?_⟩;have:=h.old _ hr;omega
  .obtain⟨h1,h2,h3,h4⟩:=h.own i b hb;exact⟨by simp;omega,h2,by simp;omega,h4⟩
 apart:=by
  rintro i j b (⟨rfl,rfl⟩|hi) (⟨rfl,hj⟩|hj)
  .rfl
  .have:=(h.own _ _ hj).2.2.1;omega
  .subst hj;have:=(h.own _ _ hi).2.2.1;omega
  .exact h.apart i j b hi hj
 old:=λb hb=>by have:=h.old b hb;simp;omega
theorem WInv.repl[Dr](h:WInv w0 base objs r S w)(i:Nat)(H:HP)(Sn:Nat->Prop)(hi:i<objs.length)(hos:w'.os=w.os)(htp:w'.tape=w.tape/\w.drawn<=w'.drawn)(hout:w'.output=w.output)(hsz:w.heap.size<=w'.heap.size)
  (hblk:∀b,b<w.heap.size->¬S i b->w'.heap[b]? = w.heap[b]?) (hn:∀b,Sn b->base<=b/\b<w'.heap.size/\¬r b/\∀j,j≠i->¬S j b)
  (hH:H.h Sn r w'):WInv w0 base (objs.set i H) r (λj b=>(j=i/\Sn b)\/(j≠i/\S j b)) w' where
 below:=h.below.trans ⟨⟨hos,htp.1,hout,hsz,λk hk=>hblk k (by have:=h.size;omega) (λhs=>by have:=(h.own i k hs).2.1;omega)⟩,λ_=>htp.2⟩
 size:=w34 h.size hsz
 obj:=by
  intro j K hj;by_cases e:j=i
  .subst e;rw[w2p (by simpa using hi)] at hj;simp at hj;subst hj;have e' :(λb=>(j=j/\Sn b)\/(j≠j/\S j b))=Sn:=by funext b;simp
   rw[e'];exact hH
  .rw[w24 (λh=>e h.symm)] at hj;have e' :(λb=>(j=i/\Sn b)\/(j≠i/\S j b))=S j:=by funext b;simp[e]
   rw[e'];refine K.mono (w:=w) (λ_ h=>h) (λb hb=>hblk b (h.old b hb) (λhs=>(h.own i b hs).2.2.2 hb)) (λb hb=>hblk b (h.own j b hb).2.2.1 (λhs=>e (h.apart j i b hb hs))) (h.obj j K hj)
 own:=by
  rintro j b (⟨rfl,hb⟩|⟨_,hb⟩)
  .obtain⟨h1,h2,h3,_⟩:=hn b hb;exact⟨by simpa using hi,h1,h2,h3⟩
  .obtain⟨h1,h2,h3,h4⟩:=h.own j b hb;exact⟨by simpa using h1,h2,w35 h3 hsz,h4⟩
 apart:=by
  rintro j k b (⟨rfl,hj⟩|⟨hj,hb⟩) (⟨rfl,hk⟩|⟨hk,hb'⟩)
  .rfl
  .exact absurd hb' ((hn b hj).2.2.2 k hk)
  .exact absurd hb ((hn b hk).2.2.2 j hj)
  .exact h.apart j k b hb hb'
 old:=λb hb=>w35 (h.old b hb) hsz
theorem WInv.evo_repl[Dr](h:WInv w0 base objs r S w)(i:Nat)(hblk:∀b,b<w.heap.size->¬S i b->w'.heap[b]? = w.heap[b]?):Evo base r w r w':=⟨λ_ h=>h,λb hb=>hblk b (h.old b hb) (λhs=>(h.own i b hs).2.2.2 hb),λ_ h=>.inl h⟩
theorem WInv.evo_alloc[Dr](h:WInv w0 base objs r S w)(o:Obj):Evo base r w r (w.alloc o):=⟨λ_ h=>h,λb hb=>Below.heap_alloc _ _ _ (h.old b hb),λ_ h=>.inl h⟩
end winv
def y8x(r:Nat->Prop)(w:World)(cs:List VP)(v:Value):Prop:=zo r w cs v.cells.toList
def Ce(s:St)(x:Operand)(cs:List VP):Prop:=∀a r w,zj s.slots a r w->y8x r w cs (a.eval x)
theorem Ce.agg{s:St}{x:Operand}{cs:List VP}(h:Ev s x (agg cs)):Ce s x cs:=λa r w hs=>by obtain⟨vs,hv,hh⟩:=h a r w hs;simpa[y8x,hv,Value.cells] using hh
def One(A:VP):Prop:=∀r w v,A.h r w v->v.oneCell'=true
theorem One.eqv{u:Value}(h:u.oneCell'=true):One (eqv u):=λ_ _ _ e=>by simp only[Px.eqv] at e;subst e;exact h
theorem One.ro{α:Type}{e:α->List VP}{sz:Nat}{l:List α}: One (ro e sz l):=λr w v h=>by rcases h with⟨⟨a',c',rfl⟩,_⟩|⟨b,o,cap,rfl,_⟩<;>rfl
theorem One.rop{cs:List VP}: One (rop cs):=λr w v ⟨b,o,h,_⟩=>by subst h;rfl
theorem Ce.one{s:St}{x:Operand}{A:VP}(h:Ev s x A)(ho:One A):Ce s x [A]:=λa r w hs=>by
 have hA:=h a r w hs;have h1:=ho _ _ _ hA;have hc :(a.eval x).cells.toList = [a.eval x]:=by revert h1;generalize a.eval x=v;cases v<;>simp[Value.oneCell',Value.cells]
 refine⟨by rw[hc];rfl,λj B hj=>?_⟩;cases j with
 |zero=>simp at hj;subst hj;exact⟨_,by rw[hc];rfl,hA,h1⟩
 |succ j=>simp at hj
section ops
variable{P:Program}{C:Cx P}{s:St}{dst:Option Tmp}{ty:TypeId}{pos:String}{after:Array Edge}{guard:Option (Nat×Bool)}{K:VP->List HP->Prop}
theorem OpT.push[Dr]{o:Oper}(H:Nat->HP)(x:Nat->VP)
  (hr:∀a r S w,WInv C.w0 C.base s.objs r S w->zj s.slots a r w->∃ob v,(execOp a.eval o).run P w = .ok (.value v) (w.alloc ob)/\(x w.heap.size).h r (w.alloc ob) v/\(H w.heap.size).h (λb=>b=w.heap.size) r (w.alloc ob))
  (k:∀b,K (x b) (s.objs++[H b])):OpT C o s K:=by
 intro a w r S Q hd hn hw hs;obtain⟨ob,v,hrun,hx,hH⟩:=hr a r S w hw hs;unfold Oper.wp;rw[hrun,Oper.upon_value];exact⟨v,r,_,_,_,rfl,hw.evo_alloc ob,hw.push _ ob hH,hx,k _⟩
def zrq(P:Program)(t:TypeId):Option (List Value):=((P.info? t).bind (·.zero)).map (·.cells.toList)
theorem zui{P:Program}{t:TypeId}{zs:List Value}(h:zrq P t=some zs)(w:World):∃z,(zeroValue t).run P w = .ok z w/\z.cells.toList=zs:=by
 unfold zrq at h;cases hi:P.info? t with
 |none=>rw[hi] at h;simp at h
 |some i=>
  rw[hi] at h;cases hz:i.zero with
  |none=>simp[hz] at h
  |some z=>simp[hz] at h;exact⟨z,by simp[zeroValue,typeInfo,hi,hz],h⟩
theorem zfq{r:Nat->Prop}{w:World}{zs:List Value}(h:zs.all (·.oneCell')=true):zo r w (zs.map eqv) zs:=by refine⟨by simp,λj A hj=>?_⟩;rw[w12,w1u] at hj;obtain⟨u,hu,rfl⟩:=hj;exact⟨u,hu,rfl,by simpa using w08.1 h u (w0y hu)⟩
theorem zsa{r:Nat->Prop}{w:World}{T:TypeId}{cs:List VP}{cur:Array Value}(h:zo r w cs cur.toList)(ho:∀b,r b->b<w.heap.size):
  (box w.heap.size T cs).h (λb=>b=w.heap.size) r (w.alloc (.cells cur T)):=
 ⟨rfl,cur,heap_alloc_new w _,h.mono (λ_ h=>h) (λb hb=>Below.heap_alloc _ _ _ (ho b hb))⟩
theorem y3i[Dr]{t:TypeId}(zs:List Value)(hz:zrq P t=some zs)(h1:zs.all (·.oneCell')=true)(k:∀b,K (eqv (.pointer (some ⟨b,0,none⟩))) (s.objs++[box b t (zs.map eqv)])):
  OpT C ⟨dst,.alloc t,ty,pos,after,guard⟩ s K:=
 .push (λb=>box b t (zs.map eqv)) (λb=>eqv (.pointer (some ⟨b,0,none⟩))) (λa r S w hw hs=>by
  obtain⟨z,hr,hc⟩:=zui hz w;refine⟨.cells z.cells t,_,?_,rfl,zsa (by rw[hc];exact zfq h1) hw.old⟩;simp[execOp,Instr.alloc,hr,newVar,newRow]) k
theorem yfj[Dr]{t:TypeId}{x:Operand}{cs:List VP}(hx:Ce s x cs)(k:∀b,K (eqv (.pointer (some ⟨b,0,none⟩))) (s.objs++[box b t cs])):
  OpT C ⟨dst,.box t x,ty,pos,after,guard⟩ s K:=
 .push (λb=>box b t cs) (λb=>eqv (.pointer (some ⟨b,0,none⟩))) (λa r S w hw hs=>by
  refine⟨.cells (a.eval x).cells t,_,?_,rfl,zsa (hx a r w hs) hw.old⟩;simp[execOp,Instr.box,newVar,newRow]) k
theorem zer{P:Program}{t:TypeId}{g:Bool}{n:Nat}(ht:z3p P t=some (g,n)){w:World}{b o:Nat}{cur:Array Value}{T:TypeId}(hb:w.heap[b]? = some (.cells cur T (0,0)))
  {v:Value} (hn:v.cells.size=n) (ho:o+n<=cur.size) (h1:∀u∈v.cells.toList,u.oneCell'=true) :
  (Instr.storeAt t (.pointer (some ⟨b,o,none⟩)) v).run P w = .ok () (w.setRow b (cur.toList.take o++v.cells.toList++cur.toList.drop (o+v.cells.toList.length)).toArray):=by
 have:=run_storeCells_at P b o T v.cells.toList 0 cur w hb (by simpa[hn] using ho) h1;simp only[w3u] at this;simp[Instr.storeAt,Instr.sureAddr,storeVar,z68 w ht,hn,this]
theorem zo.one{r:Nat->Prop}{w:World}{cs:List VP}{vs:List Value}(h:zo r w cs vs):∀u∈vs,u.oneCell'=true:=by intro u hu;obtain⟨j,hj⟩:=w41 hu;have hlt:=(w04.1 hj).1;obtain⟨u',hu',_,h1⟩:=h.2 j _ (w0a (by rw[h.1];exact hlt));rw[hj] at hu';simp at hu';rw[hu'];exact h1
theorem zo.splice{r:Nat->Prop}{w:World}{cs ds:List VP}{vs us:List Value}(h:zo r w cs vs)(k:zo r w ds us)(o:Nat)(ho:o+ds.length<=cs.length):
  zo r w (cs.take o++ds++cs.drop (o+ds.length)) (vs.take o++us++vs.drop (o+us.length)):=by
 have l1:=h.1;have l2:=k.1;refine⟨by simp[l1,l2],λj A hj=>?_⟩;by_cases c1:j<o
 .rw[w0q,w0j (by simp;omega),w0o,if_pos c1] at hj;rw[w0q,w0j (by simp;omega),w0o,if_pos c1];exact h.2 j A hj
 .by_cases c2:j<o+ds.length
  .rw[w0q,w0z (by simp;omega),w0j (by simp;omega)] at hj;rw[w0q,w0z (by simp;omega),w0j (by simp;omega)];have e :(vs.take o).length =(cs.take o).length:=by simp[l1]
   rw[e];exact k.2 _ A hj
  .rw[w0z (by simp;omega),w1v] at hj;rw[w0z (by simp;omega),w1v];have e:o+ds.length+(j-(cs.take o++ds).length)=o+us.length+(j-(vs.take o++us).length):=by simp[l1,l2]
   rw[<- e];exact h.2 _ A hj
theorem OpT.store[Dr]{o:Oper}(hdst:o.dst=none)(i:Nat)(H:HP)(hi:i<s.objs.length)
  (hr:∀a r S w,WInv C.w0 C.base s.objs r S w->zj s.slots a r w->∃b cs,S i b/\(execOp a.eval o).run P w = .ok .skip (w.setRow b cs)/\H.h (S i) r (w.setRow b cs))
  (k:K topv (s.objs.set i H)):OpT C o s K:=by
 intro a w r S Q hd hn hw hs;obtain⟨b,cs,hS,hrun,hH⟩:=hr a r S w hw hs;unfold Oper.wp;rw[hrun,Oper.upon_skip];have hblk:∀b',b'<w.heap.size->¬S i b'->(w.setRow b cs).heap[b']? = w.heap[b']?:=λb' _ hb'=>setRow_other w b b' cs (λe=>hb' (e ▸ hS))
 exact⟨undef,r,_,topv,_,rfl,hw.evo_repl i hblk,hw.repl i H (S i) hi rfl ⟨rfl,w0x _⟩ rfl (by simp) hblk (λb' hb'=>by obtain⟨h1,h2,h3,h4⟩:=hw.own i b' hb';exact⟨h2,by simpa using h3,h4,λj hj hS'=>hj (hw.apart j i b' hS' hb')⟩) hH,trivial,k⟩
theorem zo.setRow[Dr]{w0 w:World}{base:Nat}{objs:List HP}{r:Nat->Prop}{S:Nat->Nat->Prop}(hw:WInv w0 base objs r S w){i b:Nat}(hS:S i b)(cur:Array Value){cs:List VP}{vs:List Value}(h:zo r w cs vs):
  zo r (w.setRow b cur) cs vs:=
 h.mono (λ_ h=>h) (λb' hb'=>setRow_other w b b' cur (λe=>(hw.own i b hS).2.2.2 (e ▸ hb')))
theorem yca[Dr](i:Nat){t T:TypeId}{g:Bool}{n b off:Nat}{x y:Operand}{cells cs out:List VP}(ht:z3p P t=some (g,n))(hx:Ev s x (eqv (.pointer (some ⟨b,off,none⟩))))(hy:Ce s y cs)(ho:s.objs[i]? = some (box b T cells))
  (hl:cs.length=n) (hb:off+n<=cells.length) (hout:cells.take off++cs++cells.drop (off+n)=out)
  (k:K topv (s.objs.set i (box b T out))):OpT C ⟨none,.store t x y,ty,pos,after,guard⟩ s K:=
 .store rfl i (box b T out) (w04.1 ho).1 (λa r S w hw hs=>by
  have hx':=hx a r w hs;simp only[eqv] at hx';have hy':=hy a r w hs;obtain⟨hS,cur,hcur,hh⟩:=hw.obj i _ ho;have hsz :(a.eval y).cells.size=n:=by have:=hy'.1;simp at this;omega
  have hbl:off+n<=cur.size:=by have:=hh.1;simp at this;omega
  refine⟨b,(cur.toList.take off++(a.eval y).cells.toList++cur.toList.drop (off+(a.eval y).cells.toList.length)).toArray,hS,?_,hS,_,setRow_heap w b cur _ T (0,0) hcur,?_⟩
  .simp only[execOp,hx',w06,zer ht hcur hsz hbl hy'.one];rfl
  .subst hl;have:=zo.splice hh hy' off hb;rw[hout] at this;have:=zo.setRow hw hS (cur.toList.take off++(a.eval y).cells.toList++cur.toList.drop (off+(a.eval y).cells.toList.length)).toArray this;simpa using this) k
theorem zfs{α:Type}{e:α->List VP}{sz:Nat}(he:∀x,(e x).length=sz):∀(l:List α)(k:Nat)(x y:α)(fo:Nat)(cs:List VP),l[k]? = some x->fo+cs.length<=sz->
  e y =(e x).take fo++cs++(e x).drop (fo+cs.length)->(l.set k y).flatMap e =(l.flatMap e).take (k*sz+fo)++cs++(l.flatMap e).drop (k*sz+fo+cs.length)
 | [],k,x,y,fo,cs,h,_,_=>by simp at h
 |z::l,0,x,y,fo,cs,h,hf,hy=>by simp at h;subst h;have hz:=he z;simp only[List.set_cons_zero,w0n,Nat.zero_mul,w13,hy];rw[w22 (by omega),w2c (by omega)];simp
 |z::l,k+1,x,y,fo,cs,h,hf,hy=>by
  simp at h;have ih:=zfs he l k x y fo cs h hf hy;have hz:=he z;have e1 :(k+1)*sz+fo =(e z).length+(k*sz+fo):=by rw[hz,w1e];omega
  simp only[w48,w0n,ih,e1,w40,w0q,w2h,w36]
theorem zy3[Dr]{α:Type}(i:Nat){t E:TypeId}{g:Bool}{n off k fo:Nat}{e:α->List VP}{sz:Nat}{l:List α}{sv:Value}{z z':α}{x y:Operand}{cs:List VP}(he:∀x,(e x).length=sz)(ht:z3p P t=some (g,n))
  (hx:Ev s x (rowp sv off)) (hy:Ce s y cs) (ho:s.objs[i]? = some (row E e sz l sv)) (hl:cs.length=n) (hoff:off=k*sz+fo) (hz:l[k]? = some z) (hf:fo+n<=sz)
  (hz':e z' =(e z).take fo++cs++(e z).drop (fo+n)) (kk:K topv (s.objs.set i (row E e sz (l.set k z') sv))):OpT C ⟨none,.store t x y,ty,pos,after,guard⟩ s K:=
 .store rfl i _ (w04.1 ho).1 (λa r S w hw hs=>by
  obtain⟨g',n',cap',hsv,hx'⟩:=hx a r w hs;have hy':=hy a r w hs;rcases hw.obj i _ ho with⟨hn,_⟩|⟨g2,cap,cur,hv',hS,hcur,hll,hm,hsz,hh⟩
  .rw[hsv] at hn;cases hn
  .rw[hsv] at hv';simp only[Value.slice.injEq,w00,Addr.mk.injEq] at hv';obtain⟨⟨rfl,_⟩,rfl,rfl⟩:=hv';have hvs :(a.eval y).cells.size=n:=by have:=hy'.1;simp at this;omega
   have hk:=(w04.1 hz).1;have hle :(k+1)*sz<=l.length*sz:=w14 _ hk;have hle2:l.length*sz<=cap'*sz:=w14 _ hll;rw[w1e] at hle;have hbl:off+n<=cur.size:=by omega
   refine⟨g',(cur.toList.take off++(a.eval y).cells.toList++cur.toList.drop (off+(a.eval y).cells.toList.length)).toArray,hS,?_,?_⟩
   .simp only[execOp,hx',w06,zer ht hcur hvs hbl hy'.one];rfl
   .refine .inr ⟨g',cap',_,?_,hS,setRow_heap w g' cur _ E (0,0) hcur,by simpa using hll,hm,?_,?_⟩
    .simpa using hsv
    .simp;omega
    .have hfl:=z3j he l;subst hl;have:=zo.splice hh hy' off (by rw[hfl];omega);rw[hoff,<- zfs he l k z z' fo cs hz hf hz'] at this;have:=zo.setRow hw hS (cur.toList.take off++(a.eval y).cells.toList++cur.toList.drop (off+(a.eval y).cells.toList.length)).toArray this;have e1 :(a.eval y).cells.toList.length=cs.length:=by simpa using hvs
     have hcs:cur.toList.length=cur.size:=by simp
     refine cast ?_ this;congr 1;rw[e1,hoff,w3i,w2e,w42,w42];have l1 :(List.take (k*sz+fo) cur.toList).length=k*sz+fo:=by rw[w1y];omega
     rw[w0i,l1,e1];rw[w2i (l:=List.take (k*sz+fo) cur.toList) (by rw[l1];omega),w2i (l:=(a.eval y).cells.toList) (by rw[e1];omega)];rw[List.take_take,w5i (by omega),List.drop_take]) kk
end ops
end Px
end
section
namespace Px
open Go Go.RowKit
def tsl(P:Program)(t:TypeId):Option (TypeId×Nat×Nat):=match P.underlying t with
 |some (.slice e)=>(P.info? e).bind λi=>i.zero.bind λz=>if z.cells.size=i.size/\0<i.size then some (e,i.size,i.bytes) else none
 |_=>none
theorem zhf{P:Program}{t E:TypeId}{sz by':Nat}(h:tsl P t=some (E,sz,by')):
  ∃i z,P.underlying t=some (.slice E)/\P.info? E=some i/\i.zero=some z/\i.size=sz/\i.bytes=by'/\z.cells.size=sz/\0<sz:=by
 unfold tsl at h;split at h
 .rename_i e hu;cases hi:P.info? e with
  |none=>rw[hi] at h;simp at h
  |some i=>
   rw[hi] at h;simp only[w03] at h;cases hz:i.zero with
   |none=>rw[hz] at h;simp at h
   |some z=>
    rw[hz] at h;simp only[w03] at h;split at h
    .rename_i hc;simp only[w00,w0b] at h;obtain⟨rfl,rfl,rfl⟩:=h;exact⟨i,z,hu,hi,hz,rfl,rfl,hc.1,hc.2⟩
    .cases h
 .cases h
def Src[Dr]{P:Program}(C:Cx P)(s:St)(x:Operand)(m:Nat)(cs:List VP):Prop:=
 ∀a r S w,WInv C.w0 C.base s.objs r S w->zj s.slots a r w->
  ((∃a' c',a.eval x = .slice a' 0 c')/\m=0/\cs = [])\/∃b o c vs,a.eval x = .slice (some ⟨b,o,none⟩) m c/\zo r w cs vs/\∀j u,vs[j]? = some u->w.cell? ⟨b,o+j,none⟩=some u
theorem zhx{α:Type}{e:α->List VP}{sz:Nat}(he:∀x,(e x).length=sz)(hsz:0<sz):∀(l:List α)(j:Nat)(A:VP),(l.flatMap e)[j]? = some A->
  ∃x,l[j / sz]? = some x/\(e x)[j % sz]? = some A
 | [],j,A,h=>by simp at h
 |y::l,j,A,h=>by
  by_cases hj:j<sz
  .rw[w0n,w0j (by rw[he];exact hj)] at h;exact⟨y,by rw[Nat.div_eq_of_lt hj];rfl,by rw[w2r hj];exact h⟩
  .rw[w0n,w0z (by rw[he];omega),he] at h;obtain⟨x,hx,hA⟩:=zhx he hsz l _ A h;have e1:j / sz =(j-sz) / sz+1:=by rw[Nat.div_eq_sub_div hsz (by omega)]
   have e2:j % sz =(j-sz) % sz:=by rw[Nat.mod_eq_sub_mod (by omega)]
   exact⟨x,by rw[e1];simpa using hx,by rw[e2];exact hA⟩
theorem Src.ro[Dr]{P:Program}{C:Cx P}{s:St}{x:Operand}{α:Type}{e:α->List VP}{sz:Nat}{l:List α}(he:∀x,(e x).length=sz)(hsz:0<sz)(h:Ev s x (ro e sz l)):Src C s x l.length (l.flatMap e):=λa r S w hw hs=>by
 rcases h a r w hs with⟨hv,rfl⟩|⟨b,o,cap,hv,hh⟩
 .exact .inl ⟨hv,rfl,rfl⟩
 .have hrd:z3r w r b o (l.flatMap e):=by intro j A hj;obtain⟨y,hy,hA⟩:=zhx he hsz l j A hj;obtain⟨u,hu,hA',h1⟩:=(hh _ _ hy).2 _ A hA;refine⟨u,?_,hA',h1⟩;rw[<- hu];congr 2;have:=w4m j sz;rw[w5a] at this;omega
  obtain⟨vs,hvs,hc⟩:=hrd.list;exact .inr ⟨b,o,l.length+cap,vs,hv,hvs,hc⟩
theorem Src.row[Dr]{P:Program}{C:Cx P}{s:St}{x:Operand}{α:Type}(i:Nat){E:TypeId}{e:α->List VP}{sz:Nat}{l:List α}{sv:Value}(h:Ev s x (eqv sv))(ho:s.objs[i]? = some (row E e sz l sv)):Src C s x l.length (l.flatMap e):=λa r S w hw hs=>by
 have hx:=h a r w hs;simp only[eqv] at hx;rcases hw.obj i _ ho with⟨hn,rfl⟩|⟨g,cap,cur,hv,hS,hcur,hl,hm,hsz,hh⟩
 .exact .inl ⟨⟨none,0,by rw[hx,hn]⟩,rfl,rfl⟩
 .refine .inr ⟨g,0,cap,_,by rw[hx,hv],hh,λj u hj=>?_⟩;rw[w13,cell_of_row w g j cur E (0,0) hcur];rw[w0o] at hj;split at hj
  .simpa using hj
  .cases hj
theorem Src.nil[Dr]{P:Program}{C:Cx P}{s:St}{x:Operand}(h:Ev s x (eqv (.slice none 0 0))):Src C s x 0 []:=λa r S w hw hs=>.inl ⟨⟨none,0,h a r w hs⟩,rfl,rfl⟩
theorem zo.append{r:Nat->Prop}{w:World}{cs ds:List VP}{vs us:List Value}(h:zo r w cs vs)(k:zo r w ds us):zo r w (cs++ds) (vs++us):=by
 refine⟨by simp[h.1,k.1],λj A hj=>?_⟩;by_cases c:j<cs.length
 .rw[w0j c] at hj;rw[w0j (h.1 ▸ c)];exact h.2 j A hj
 .rw[w0z (by omega)] at hj;rw[w0z (by rw[<- h.1];omega),<- h.1];exact k.2 _ A hj
theorem zv5{P:Program}{a:Act}{x y:Operand}{t:TypeId}{w w':World}{v:Value}{dst:Option Tmp}{ty:TypeId}{pos:String}{after:Array Edge}{guard:Option (Nat×Bool)}
  (hr :(Builtin.append_ #[t,t] ty #[a.eval x,a.eval y]).run P w = .ok v w') :
  (execOp a.eval ⟨dst,.call { callee:=.builtin .append,args:=#[x,y],argTypes:=#[t,t] },ty,pos,after,guard⟩).run P w = .ok (.value v) w':=by
 simp[execOp,resolve,invoke,builtin,hr]
theorem yco{P:Program}{w:World}{r:Nat->Prop}{Si:Nat->Prop}{α:Type}{E t ty:TypeId}{e:α->List VP}{sz by':Nat}{l m:List α}{sv xv:Value}(ht:tsl P t=some (E,sz,by'))
  (he:∀x,(e x).length=sz) (hrow :(row E e sz l sv).h Si r w) (hro:∀b,r b->b<w.heap.size/\¬Si b) (hby :(l.length+m.length)*by'<=140737488355328) (hmax:l.length+m.length<=maxLen)
  (hsrc :((∃a' c',xv = .slice a' 0 c')/\m.length=0/\m.flatMap e = [])\/∃b o c vs,xv = .slice (some ⟨b,o,none⟩) m.length c/\zo r w (m.flatMap e) vs/\∀j u,vs[j]? = some u->w.cell? ⟨b,o+j,none⟩=some u) :
  ∃v' w' Sn,(Builtin.append_ #[t,t] ty #[sv,xv]).run P w = .ok v' w'/\w'.os=w.os/\(w'.tape=w.tape/\w.drawn<=w'.drawn)/\w'.output=w.output/\w.heap.size<=w'.heap.size/\
   (∀b,b<w.heap.size->¬Si b->w'.heap[b]? = w.heap[b]?)/\(∀b,Sn b->Si b\/(b=w.heap.size/\b<w'.heap.size))/\(row E e sz (l++m) v').h Sn r w':=by
 obtain⟨i,z,hu,hi,hz,rfl,rfl,hzs,hpos⟩:=zhf ht;have hsmall:l.length+m.length<=9223372036854775807:=by simpa[maxLen] using hmax
 have hfl:=z3j he l;have hfm:=z3j he m;have idle:m.length=0->(row E e i.size (l++m) sv).h Si r w:=λh0=>by have:m = []:=w18 h0;subst this;simpa using hrow
 rcases hsrc with⟨⟨a',c',rfl⟩,hm0,_⟩|⟨b,o,c,vs,rfl,hvs,hcell⟩
 .refine⟨sv,w,Si,?_,rfl,⟨rfl,w0x _⟩,rfl,w0x _,λ_ _ _=>rfl,λb h=>.inl h,idle hm0⟩;rcases hrow with⟨rfl,rfl⟩|⟨g,cap,cur,rfl,hS,hcur,hl,hm,hsz,hh⟩
  .cases a'<;>simp[Builtin.append_,run_underlying hu,Go.sizeOf,typeInfo,hi,Builtin.lenOf,Builtin.firstCells,loadCells,loadCellsFrom]
  .cases a'<;>simp[Builtin.append_,run_underlying hu,Go.sizeOf,typeInfo,hi,Builtin.lenOf,Builtin.firstCells,hl,storeCells,loadCells,loadCellsFrom]
 .have hvl:vs.length=m.length*i.size:=by rw[<- hvs.1,hfm]
  have hcell':∀j u,vs[j]? = some u->w.cell? ((⟨b,o,none⟩:Addr).add j)=some u:=λj u hj=>by rw[Addr.add_lit];exact hcell j u hj
  have fresh:∀(us:List Value)(cap:Nat),zo r w ((l++m).flatMap e) us->l.length+m.length<=cap->cap<=maxLen->
    (row E e i.size (l++m) (.slice (some ⟨w.heap.size,0,none⟩) (l.length+m.length) cap)).h (λk=>k=w.heap.size) r (w.drew.alloc (.cells (us.toArray++Builtin.zeroCells z.cells (cap-(l.length+m.length))) E)):=by
   intro us cap hus hge hcm;have hul:us.length =(l.length+m.length)*i.size:=by rw[<- hus.1,z3j he,w0i]
   refine .inr ⟨w.heap.size,cap,_,by simp,rfl,heap_alloc_new w.drew _,by simpa using hge,hcm,?_,?_⟩
   .simp only[Array.size_append,List.size_toArray,size_zeroCells,hzs,hul,<- w1e];congr 1;omega
   .rw[w0i,<- hul];have e1 :(us.toArray++Builtin.zeroCells z.cells (cap-(l.length+m.length))).toList.take us.length=us:=by simp
    rw[e1];exact zo.mono (w:=w) (λ_ h=>h) (λb hb=>Below.heap_alloc w.drew _ b (hro b hb).1) hus
  rcases hrow with⟨rfl,rfl⟩|⟨g,cap,cur,rfl,hS,hcur,hl,hm,hsz,hh⟩
  .by_cases h0:m.length=0
   .refine⟨.slice none 0 0,w,Si,?_,rfl,⟨rfl,w0x _⟩,rfl,w0x _,λ_ _ _=>rfl,λb h=>.inl h,?_⟩
    .simp[Builtin.append_,run_underlying hu,Go.sizeOf,typeInfo,hi,Builtin.lenOf,Builtin.firstCells,h0,loadCells,loadCellsFrom]
    .have:m = []:=w18 h0;subst this;exact .inl ⟨rfl,rfl⟩
   .simp only[w38,w13] at hby hmax hsmall fresh;have hr:=run_append_nil (P:=P) w t ty E i z hu hi hz ⟨b,o,none⟩ m.length c vs hvl hcell' (by omega) (by omega) (by omega);have hge:=grownCap_ge w m.length 0 E;have hcm:=grownCap_le_maxLen w m.length 0 E hmax;refine⟨_,_,λk=>k=w.heap.size,hr,rfl,⟨rfl,w5m _⟩,rfl,by simp,λk hk _=>Below.heap_alloc w.drew _ k hk,λk hk=>.inr ⟨hk,by subst hk;simp⟩,?_⟩;exact fresh vs _ (by simpa using hvs) hge hcm
  .by_cases hroom:l.length+m.length<=cap
   .have hle :(l.length+m.length)*i.size<=cap*i.size:=w14 _ hroom;have hr:=run_append_room (P:=P) w t ty E i hu hi g l.length cap cur hcur ⟨b,o,none⟩ m.length c vs hvl hcell' hvs.one hroom (by rw[hvl,hsz,<- w1e];exact hle);refine⟨_,_,Si,hr,rfl,⟨rfl,w0x _⟩,rfl,by simp,λk hk hk'=>setRow_other w g k _ (λe=>hk' (e ▸ hS)),λk hk=>.inl hk,?_⟩;rw[w1e] at hle;refine .inr ⟨g,cap,_,by simp,hS,setRow_heap w g cur _ E _ hcur,by simpa using hroom,hm,?_,?_⟩
    .simp;omega
    .rw[w0i];have hus:=zo.append hh hvs;rw[<- w1x] at hus;have hl1 :(cur.toList.take (l.length*i.size)).length=l.length*i.size:=by rw[w1y];simp;omega
     have e1 :(cur.toList.take (l.length*i.size)++vs++cur.toList.drop (l.length*i.size+vs.length)).toArray.toList.take ((l.length+m.length)*i.size)=cur.toList.take (l.length*i.size)++vs:=by rw[w3i];apply w5j;rw[w0i,hl1,hvl,w1e]
     rw[e1];exact hus.mono (λ_ h=>h) (λk hk=>setRow_other w g k _ (λe=>(hro k hk).2 (e ▸ hS)))
   .have holds:∀j u,(cur.toList.take (l.length*i.size))[j]? = some u->w.cell? ((⟨g,0,none⟩:Addr).add j)=some u:=λj u hj=>by
     rw[Addr.add_lit,w13,cell_of_row w g j cur E (0,0) hcur];rw[w0o] at hj;split at hj
     .simpa using hj
     .cases hj
    have hle:l.length*i.size<=cap*i.size:=w14 _ hl;have hr:=run_append_grow (P:=P) w t ty E i z hu hi hz ⟨g,0,none⟩ l.length cap (cur.toList.take (l.length*i.size)) (by rw[w1y];simp;omega) holds ⟨b,o,none⟩ m.length c vs hvl hcell' (by omega) (by omega) (growslice_fits (by omega) hby);have hge:=grownCap_ge w (l.length+m.length) cap E;have hcm:=grownCap_le_maxLen w (l.length+m.length) cap E hmax;refine⟨_,_,λk=>k=w.heap.size,hr,rfl,⟨rfl,w5m _⟩,rfl,by simp,λk hk _=>Below.heap_alloc w.drew _ k hk,λk hk=>.inr ⟨hk,by subst hk;simp⟩,?_⟩;have hus:=zo.append hh hvs;rw[<- w1x] at hus;have:=fresh _ _ hus hge hcm;simpa using this
section ops
variable{P:Program}{C:Cx P}{s:St}{dst:Option Tmp}{ty:TypeId}{pos:String}{after:Array Edge}{guard:Option (Nat×Bool)}{K:VP->List HP->Prop}
theorem y7j[Dr]{α:Type}(i:Nat){t E:TypeId}{e:α->List VP}{sz by':Nat}{l m:List α}{sv:Value}{x y:Operand}(ht:tsl P t=some (E,sz,by'))(he:∀x,(e x).length=sz)
  (hx:Ev s x (eqv sv)) (ho:s.objs[i]? = some (row E e sz l sv)) (hy:Src C s y m.length (m.flatMap e)) (hby :(l.length+m.length)*by'<=140737488355328) (hmax:l.length+m.length<=maxLen)
  (k:∀v',K (eqv v') (s.objs.set i (row E e sz (l++m) v'))):OpT C ⟨dst,.call { callee:=.builtin .append,args:=#[x,y],argTypes:=#[t,t] },ty,pos,after,guard⟩ s K:=by
 intro a w r S Q hd hn hw hs;have hx':=hx a r w hs;simp only[eqv] at hx';have hi:=(w04.1 ho).1;obtain⟨v',w',Sn,hr,h1,h2,h3,h4,h5,h6,h7⟩:=yco (w:=w) (r:=r) (Si:=S i) (ty:=ty) ht he (hw.obj i _ ho) (λb hb=>⟨hw.old b hb,λhS=>(hw.own i b hS).2.2.2 hb⟩) hby hmax (hy a r S w hw hs);unfold Oper.wp;rw[zv5 (hx' ▸ hr),Oper.upon_value];refine⟨v',r,_,_,_,rfl,hw.evo_repl i h5,hw.repl i _ Sn hi h1 h2 h3 h4 h5 (λb hb=>?_) h7,rfl,k v'⟩;rcases h6 b hb with hS|⟨rfl,hlt⟩
 .obtain⟨q1,q2,q3,q4⟩:=hw.own i b hS;exact⟨q2,w35 q3 h4,q4,λj hj hSj=>hj (hw.apart j i b hSj hS)⟩
 .exact⟨hw.size,hlt,λhb'=>Nat.lt_irrefl _ (hw.old _ hb'),λj hj hSj=>Nat.lt_irrefl _ (hw.own j _ hSj).2.2.1⟩
theorem WInv.addNil[Dr]{w0 w:World}{base:Nat}{objs:List HP}{r:Nat->Prop}{S:Nat->Nat->Prop}(h:WInv w0 base objs r S w)(H:HP)(hH:H.h (λ_=>False) r w):WInv w0 base (objs++[H]) r S w where
 below:=h.below
 size:=h.size
 obj:=by
  intro i K hi;rw[w23] at hi;split at hi
  .exact h.obj i K hi
  .rename_i hge;cases hk:i-objs.length with
   |succ k=>rw[hk] at hi;simp at hi
   |zero=>
    rw[hk] at hi;simp at hi;subst hi;have:S i=λ_=>False:=by funext b;exact propext ⟨λhb=>absurd (h.own i b hb).1 hge,λhf=>hf.elim⟩
    rw[this];exact hH
 own:=λi b hb=>by obtain⟨h1,h2,h3,h4⟩:=h.own i b hb;exact⟨by simp;omega,h2,h3,h4⟩
 apart:=h.apart
 old:=h.old
theorem y9s[Dr]{α:Type}{t E:TypeId}{e:α->List VP}{sz by':Nat}{x y:Operand}{k1 k2:IntKind}{n:Int}(z:α)(zs:List Value)(ht:tsl P t=some (E,sz,by'))(he:∀x,(e x).length=sz)
  (hz:zrq P E=some zs) (hz1:zs.all (·.oneCell')=true) (hze:e z=zs.map eqv) (hx:Ev s x (iv k1 n)) (hy:Ev s y (iv k2 n)) (h0:0<=n) (hby :(by':Int)*n<=281474976710656) (hmax:n<=9223372036854775807)
  (k:∀v',(∃g n,v' = .slice (some ⟨g,0,none⟩) n n)->K (eqv v') (s.objs++[row E e sz (List.replicate n.toNat z) v'])):OpT C ⟨dst,.makeSlice t x y,ty,pos,after,guard⟩ s K:=by
 intro a w r S Q hd hn hw hs;have hx':=hx a r w hs;have hy':=hy a r w hs;simp only[iv,eqv] at hx' hy';obtain⟨i,zv,hu,hi,hzv,rfl,rfl,hzs,hpos⟩:=zhf ht;have hzv':zv.cells.toList=zs:=by unfold zrq at hz;simp[hi,hzv] at hz;exact hz
 have hr:=run_make w t E i zv hu hi hzv k1 k2 n n h0 (w1i _) hby hmax;unfold Oper.wp;simp only[execOp,hx',hy',w06,hr,w05,w0g,Oper.upon_value];refine⟨_,r,_,_,_,rfl,hw.evo_alloc _,hw.push _ _ ?_,rfl,k _ ⟨_,_,rfl⟩⟩;refine .inr ⟨w.heap.size,n.toNat,_,by simp,rfl,heap_alloc_new w _,by simp,by simp[maxLen];omega,size_madeCells _ _,?_⟩;have hfl:=z3j he (List.replicate n.toNat z);have e1 :(madeCells zv.cells (n.toNat*i.size)).toList.take ((List.replicate n.toNat z).length*i.size) =(madeCells zv.cells (n.toNat*i.size)).toList:=by apply w2i;simp[size_madeCells]
 rw[e1];refine⟨by rw[hfl];simp[size_madeCells],λj A hj=>?_⟩;have hlt:j<n.toNat*i.size:=by have:=(w04.1 hj).1;rw[hfl] at this;simpa using this
 obtain⟨y,hy2,hA⟩:=zhx he hpos _ j A hj;rw[w30] at hy2;split at hy2
 .simp at hy2;subst hy2;rw[hze,w12,w1u] at hA;obtain⟨u,hu',rfl⟩:=hA;refine⟨u,?_,rfl,by simpa using w08.1 hz1 u (w0y hu')⟩;have :(madeCells zv.cells (n.toNat*i.size)).toList[j]? = some (zv.cells[j % zv.cells.size]!):=by simp[madeCells,hlt]
  rw[this,hzs];have hml:j % i.size<zv.cells.size:=by rw[hzs];exact w4n _ hpos
  rw[<- hzv'] at hu';simp[hml] at hu'⊢;exact hu'
 .cases hy2
end ops
end Px
end
section
namespace Px
open Go Go.RowKit
def Ent(A B:VP):Prop:=∀r w v,A.h r w v->B.h r w v
theorem Ent.refl{A:VP}: Ent A A:=λ_ _ _ h=>h
theorem Ent.of_eq{A B:VP}(h:A=B):Ent A B:=h ▸ Ent.refl
def EntH(A B:HP):Prop:=∀S r w,A.h S r w->B.h S r w
theorem EntH.refl{A:HP}: EntH A A:=λ_ _ _ h=>h
def zur(s:z8z):List (Nat×VP)->Prop
 | []=>True
 |(t,B)::l=>(∃A,s t=some A/\Ent A B)/\zur s l
def z5c:List HP->List HP->Prop
 |_,[]=>True
 | [],_::_=>False
 |A::l,B::m=>EntH A B/\z5c l m
theorem z5c.at:∀{l m:List HP},z5c l m->∀(i:Nat)(B:HP),m[i]? = some B->∃A,l[i]? = some A/\EntH A B
 |_,[],_,i,B,h=>by simp at h
 | [],_::_,hf,_,_,_=>hf.elim
 |A::l,B::m,⟨he,_⟩,0,B',h=>by simp at h;subst h;exact⟨A,rfl,he⟩
 |A::l,B::m,⟨_,hm⟩,i+1,B',h=>by simpa using z5c.at hm i B' (by simpa using h)
theorem WInv.le[Dr]{w0 w:World}{base:Nat}{objs O:List HP}{r:Nat->Prop}{S:Nat->Nat->Prop}(h:WInv w0 base objs r S w)(hO:z5c objs O):
  WInv w0 base O r (λi b=>i<O.length/\S i b) w where
 below:=h.below
 size:=h.size
 obj:=λi B hi=>by
  obtain⟨A,hA,he⟩:=hO.at i B hi;have hlt:=(w04.1 hi).1;have :(λb=>i<O.length/\S i b)=S i:=by funext b;simp[hlt]
  rw[this];exact he _ _ _ (h.obj i A hA)
 own:=λi b ⟨hlt,hb⟩=>by obtain⟨_,h2,h3,h4⟩:=h.own i b hb;exact⟨hlt,h2,h3,h4⟩
 apart:=λi j b hi hj=>h.apart i j b hi.2 hj.2
 old:=h.old
section atx
variable{P:Program}{C:Cx P}{s:St}{Q:Exit->Act->World->Prop}{x y c:Code}{K:Act->World->Prop}{e:Exit}
end atx
def retR[Dr](w0:World)(base:Nat)(r0:Nat->Prop)(wI:World)(K:VP->List HP->Prop):Ending->World->Prop:=λe w'=>∃v x objs' r' S',e = .returned v/\Evo base r0 wI r' w'/\WInv w0 base objs' r' S' w'/\x.h r' w' v/\K x objs'
section ret
variable{P:Program}{C:Cx P}{s:St}{fn:Func}{K:VP->List HP->Prop}
def RV[Dr]{P:Program}(C:Cx P)(s:St):ResultVar->VP->Prop
 | .tmp t,A=>s.slots t=some A
 | .cell a t,A=>(∃n,z3p P t=some (false,n)/\∃cs,Pt C s (.tmp a) (A::cs))\/(∃cs,A=agg cs/\z3p P t=some (true,cs.length)/\Pt C s (.tmp a) cs)
def zrc(tmps:Array Value)(rv:ResultVar):Sem Value:=match rv with
 | .tmp t=>pure (tmps.getD t undef)
 | .cell a t=>do loadVar t (<- asAddr (tmps.getD a undef))
theorem zzl(fn:Func)(tmps:Array Value):results fn tmps =(do
  let vs <- fn.results.mapM (zrc tmps)
  pure (if h:vs.size=1 then vs[0] else .tuple vs)):=rfl
theorem RV.run[Dr]{rv:ResultVar}{A:VP}(h:RV C s rv A){a:Act}{r:Nat->Prop}{S:Nat->Nat->Prop}{w:World}(hw:WInv C.w0 C.base s.objs r S w)(hs:zj s.slots a r w):
  ∃v,(zrc a.tmps rv).run P w = .ok v w/\A.h r w v:=by
 cases rv with
 |tmp t=>exact⟨_,rfl,hs t A h⟩
 |cell b t=>
  rcases h with⟨n,ht,cs,hp⟩|⟨cs,rfl,ht,hp⟩
  .obtain⟨b',o,hx,hc⟩:=hp a r S w hw hs;obtain⟨u,hu,hA,_⟩:=hc 0 A rfl;have hx':a.tmps.getD b undef = .pointer (some ⟨b',o,none⟩):=hx;have hl:=ztu w ht (b:=b') (o:=o) (by simpa using hu);simp only[Instr.loadAt,Instr.sureAddr,w06,w0g,w05] at hl;refine⟨u,?_,hA⟩;simp only[zrc,hx',w06,asAddr,w0g,w05,hl]
  .obtain⟨b',o,hx,hc⟩:=hp a r S w hw hs;obtain⟨vs,hvs,hcell⟩:=hc.list;have hx':a.tmps.getD b undef = .pointer (some ⟨b',o,none⟩):=hx;have hl:=ztv w (b:=b') (o:=o) (hvs.1 ▸ ht) hcell;simp only[Instr.loadAt,Instr.sureAddr,w06,w0g,w05] at hl;refine⟨_,?_,vs.toArray,rfl,by simpa using hvs⟩;simp only[zrc,hx',w06,asAddr,w0g,w05,hl]
end ret
def yf4[Dr](P:Program)(w0:World)(base:Nat)(f:FuncId)(args:List VP)(objs:List HP)(K:VP->List HP->Prop):Prop:=∀r S w vs,WInv w0 base objs r S w->vs.size=args.length->(∀(i:Nat)(A:VP),args[i]? = some A->A.h r w (vs.getD i undef))->Calls P f vs w (retR w0 base r w K)
def zdq[Dr](P:Program)(f:FuncId)(args:List VP)(K:VP->List HP->Prop):Prop:=∀r w vs,(∀b,r b->b<w.heap.size)->vs.size=args.length->(∀(i:Nat)(A:VP),args[i]? = some A->A.h r w (vs.getD i undef))->Calls P f vs w (retR w w.heap.size r w K)
theorem WInv.join[Dr]{w0 w w':World}{base:Nat}{objs news:List HP}{r r':Nat->Prop}{S S':Nat->Nat->Prop}(h:WInv w0 base objs r S w)(k:WInv w w.heap.size news r' S' w')
  (rr:Nat->Prop) (h1:∀b,r b->rr b) (h2:∀b,rr b->r b\/(w.heap.size<=b/\r' b)) (hn:∀(i:Nat)(H:HP),news[i]? = some H->H.h (S' i) rr w') :
  WInv w0 base (objs++news) rr (λi b=>(i<objs.length/\S i b)\/(objs.length<=i/\S' (i-objs.length) b)) w' where
 below:=h.below.trans (k.below.mono h.size)
 size:=w34 h.size k.size
 obj:=by
  intro i H hi;rw[w23] at hi;split at hi
  .rename_i hlt;have e :(λb=>(i<objs.length/\S i b)\/(objs.length<=i/\S' (i-objs.length) b))=S i:=by
    funext b;have:¬objs.length<=i:=by omega
    simp[hlt,this]
   rw[e];exact H.mono (w:=w) h1 (λb hb=>k.below.block b (h.old b hb)) (λb hb=>k.below.block b (h.own i b hb).2.2.1) (h.obj i H hi)
  .rename_i hge;have e :(λb=>(i<objs.length/\S i b)\/(objs.length<=i/\S' (i-objs.length) b))=S' (i-objs.length):=by funext b;simp[hge,w4h hge]
   rw[e];exact hn _ H hi
 own:=by
  rintro i b (⟨hlt,hb⟩|⟨hge,hb⟩)
  .obtain⟨a1,a2,a3,a4⟩:=h.own i b hb;refine⟨by simp;omega,a2,w35 a3 k.size,λhr=>?_⟩;rcases h2 b hr with q|⟨q,_⟩
   .exact a4 q
   .omega
  .obtain⟨a1,a2,a3,a4⟩:=k.own _ b hb;refine⟨by simp;omega,w34 h.size a2,a3,λhr=>?_⟩;rcases h2 b hr with q|⟨_,q⟩
   .have:=h.old b q;omega
   .exact a4 q
 apart:=by
  rintro i j b (⟨hi,hb⟩|⟨hi,hb⟩) (⟨hj,hb'⟩|⟨hj,hb'⟩)
  .exact h.apart i j b hb hb'
  .have:=(h.own i b hb).2.2.1;have:=(k.own _ b hb').2.1;omega
  .have:=(h.own j b hb').2.2.1;have:=(k.own _ b hb).2.1;omega
  .have:=k.apart _ _ b hb hb';omega
 old:=λb hb=>by
  rcases h2 b hb with q|⟨_,q⟩
  .exact w35 (h.old b q) k.size
  .exact k.old b q
def VP.flat(A:VP):Prop:=∀r r' w w' v,A.h r w v->A.h r' w' v
def HP.flat(H:HP):Prop:=∀S r r' w,H.h S r w->H.h S r' w
theorem zco{v:Value}:(eqv v).flat:=λ_ _ _ _ _ h=>h
theorem y6m{xs:List VP}(h:∀A∈xs,A.flat):(tupv xs).flat:=λr r' w w' v ⟨vs,e,hl,hh⟩=>⟨vs,e,hl,λi A hi=>h A (w0y hi) r r' w w' _ (hh i A hi)⟩
theorem zo.flat{r r':Nat->Prop}{w:World}{cs:List VP}{vs:List Value}(hf:∀A∈cs,A.flat)(h:zo r w cs vs):zo r' w cs vs:=⟨h.1,λj A hj=>by obtain⟨u,hu,hA,h1⟩:=h.2 j A hj;exact⟨u,hu,hf A (w0y hj) _ _ _ _ _ hA,h1⟩⟩
theorem y6l{cs:List VP}(h:∀A∈cs,A.flat):(agg cs).flat:=λr r' w w' v ⟨vs,e,hh⟩=>⟨vs,e,hh.1,λj A hj=>by obtain⟨u,hu,hA,h1⟩:=hh.2 j A hj;exact⟨u,hu,h A (w0y hj) _ _ _ _ _ hA,h1⟩⟩
theorem zxc{α:Type}{E:TypeId}{e:α->List VP}{sz:Nat}{l:List α}{sv:Value}(h:∀x,∀A∈e x,A.flat):(row E e sz l sv).flat:=λS r r' w hh=>by
 rcases hh with hn|⟨g,cap,cur,hv,hS,hcur,hl,hm,hsz,hc⟩
 .exact .inl hn
 .exact .inr ⟨g,cap,cur,hv,hS,hcur,hl,hm,hsz,hc.flat (λA hA=>by obtain⟨x,_,hx⟩:=w1p.1 hA;exact h x A hx)⟩
def Args(s:St):List Operand->List VP->Prop
 | [],[]=>True
 |o::os,A::As=>Ev s o A/\Args s os As
 |_,_=>False
theorem Args.ok{s:St}{a:Act}{r:Nat->Prop}{w:World}(hs:zj s.slots a r w):∀{os:List Operand}{As:List VP},Args s os As->
  os.length=As.length/\∀(i:Nat)(A:VP),As[i]? = some A->A.h r w ((os.map a.eval).getD i undef)
 | [],[],_=>⟨rfl,λi A h=>by simp at h⟩
 |o::os,A::As,⟨h,hr⟩=>by
  obtain⟨h1,h2⟩:=Args.ok hs hr;refine⟨by simp[h1],λi B hi=>?_⟩;cases i with
  |zero=>simp at hi;subst hi;exact h a r w hs
  |succ i=>simpa using h2 i B (by simpa using hi)
 | [],_::_,h=>h.elim
 |_::_,[],h=>h.elim
def EvF[Dr]{P:Program}(C:Cx P)(s:St)(o:Operand)(A:VP):Prop:=∀a r S w,WInv C.w0 C.base s.objs r S w->zj s.slots a r w->A.h (λb=>b<w.heap.size) w (a.eval o)
def zrt[Dr]{P:Program}(C:Cx P)(s:St):List Operand->List VP->Prop
 | [],[]=>True
 |o::os,A::As=>EvF C s o A/\zrt C s os As
 |_,_=>False
theorem zrt.ok[Dr]{P:Program}{C:Cx P}{s:St}{a:Act}{r:Nat->Prop}{S:Nat->Nat->Prop}{w:World}(hw:WInv C.w0 C.base s.objs r S w)(hs:zj s.slots a r w):∀{os:List Operand}{As:List VP},zrt C s os As->
  os.length=As.length/\∀(i:Nat)(A:VP),As[i]? = some A->A.h (λb=>b<w.heap.size) w ((os.map a.eval).getD i undef)
 | [],[],_=>⟨rfl,λi A h=>by simp at h⟩
 |o::os,A::As,⟨h,hr⟩=>by
  obtain⟨h1,h2⟩:=zrt.ok hw hs hr;refine⟨by simp[h1],λi B hi=>?_⟩;cases i with
  |zero=>simp at hi;subst hi;exact h a r S w hw hs
  |succ i=>simpa using h2 i B (by simpa using hi)
 | [],_::_,h=>h.elim
 |_::_,[],h=>h.elim
def FEnt[Dr]{P:Program}(C:Cx P)(s:St)(A B:VP):Prop:=∀r S w v,WInv C.w0 C.base s.objs r S w->A.h r w v->B.h (λb=>r b\/∃j,S j b) w v
theorem WInv.all[Dr]{w0 w:World}{base:Nat}{objs:List HP}{r:Nat->Prop}{S:Nat->Nat->Prop}(hw:WInv w0 base objs r S w){b:Nat}(h:r b\/∃j,S j b):b<w.heap.size:=h.elim (hw.old b) λ⟨j,hj⟩=>(hw.own j b hj).2.2.1
theorem FEnt.refl[Dr]{P:Program}{C:Cx P}{s:St}{A:VP}: FEnt C s A A:=λr S w v hw h=>A.mono (λb hb=>.inl hb) (λ_ _=>rfl) h
theorem FEnt.row[Dr]{P:Program}{C:Cx P}{s:St}{α:Type}(i:Nat){E:TypeId}{e:α->List VP}{sz:Nat}{l:List α}{sv:Value}(he:∀x,(e x).length=sz)(ho:s.objs[i]? = some (row E e sz l sv)):FEnt C s (eqv sv) (ro e sz l):=by
 intro r S w v hw h;simp only[eqv] at h;subst h;rcases hw.obj i _ ho with⟨rfl,rfl⟩|⟨g,cap,cur,rfl,hS,hcur,hl,hm,hsz,hh⟩
 .exact .inl ⟨⟨none,0,rfl⟩,rfl⟩
 .refine .inr ⟨g,0,cap-l.length,by rw[w2j hl],λk x hk=>⟨.inr ⟨i,hS⟩,λj A hj=>?_⟩⟩;obtain⟨u,hu,hA,h1⟩:=hh.2 _ A (z3e he l k x hk j A hj);refine⟨u,?_,A.mono (λb hb=>.inl hb) (λ_ _=>rfl) hA,h1⟩;rw[w13,cell_of_row w g _ cur E (0,0) hcur];rw[w0o] at hu;split at hu
  .simpa using hu
  .cases hu
theorem FEnt.nil[Dr]{P:Program}{C:Cx P}{s:St}{α:Type}{e:α->List VP}{sz:Nat}: FEnt C s (eqv (.slice none 0 0)) (ro e sz []):=λr S w v hw h=>.inl ⟨⟨none,0,h⟩,rfl⟩
def zhg[Dr]{P:Program}(C:Cx P)(s:St):List VP->List VP->Prop
 | [],[]=>True
 |A::As,B::Bs=>FEnt C s A B/\zhg C s As Bs
 |_,_=>False
theorem zhg.ok[Dr]{P:Program}{C:Cx P}{s:St}: ∀{As Bs:List VP},zhg C s As Bs->As.length=Bs.length/\∀(j:Nat)(B:VP),Bs[j]? = some B->∃A,As[j]? = some A/\FEnt C s A B
 | [],[],_=>⟨rfl,λj B h=>by simp at h⟩
 |A::As,B::Bs,⟨h,hr⟩=>by
  obtain⟨h1,h2⟩:=zhg.ok hr;refine⟨by simp[h1],λj D hj=>?_⟩;cases j with
  |zero=>simp at hj;subst hj;exact⟨A,rfl,h⟩
  |succ j=>simpa using h2 j D (by simpa using hj)
 | [],_::_,h=>h.elim
 |_::_,[],h=>h.elim
theorem FEnt.agg[Dr]{P:Program}{C:Cx P}{s:St}{cs ds:List VP}(h:zhg C s cs ds):FEnt C s (agg cs) (agg ds):=by rintro r S w v hw ⟨vs,rfl,hh⟩;obtain⟨h1,h2⟩:=h.ok;refine⟨vs,rfl,by rw[<- h1];exact hh.1,λj B hj=>?_⟩;obtain⟨A,hA,hAB⟩:=h2 j B hj;obtain⟨u,hu,hAu,ho⟩:=hh.2 j A hA;exact⟨u,hu,hAB r S w u hw hAu,ho⟩
theorem EvF.of[Dr]{P:Program}{C:Cx P}{s:St}{o:Operand}{A B:VP}(h:Ev s o A)(hf:FEnt C s A B):EvF C s o B:=λa r S w hw hs=>B.mono (λ_ hb=>hw.all hb) (λ_ _=>rfl) (hf r S w _ hw (h a r w hs))
theorem z1x {P : Program} {f : FuncId} {fn : Func} (hf : P.funcs[f]? = some fn) (hname : (fn.name == "runtime.NumGoroutine") = false) (hb : fn.body.isSome = true) (args : Array Value) (w : World) :
  (callFunc f args).run P w = .ok (.enter f args) w:=by
 obtain⟨c,hc⟩:=w11.1 hb
 have h1 : fn.name ≠ "runtime.NumGoroutine" := by simpa using hname
 simp[callFunc,hf,h1,hc]
def FnOK (P : Program) (f : FuncId) : Prop := ∃ fn, P.funcs[f]? = some fn /\ (fn.name == "runtime.NumGoroutine") = false /\ fn.body.isSome = true
section ops
variable{P:Program}{C:Cx P}{s:St}{dst:Option Tmp}{ty:TypeId}{pos:String}{after:Array Edge}{guard:Option (Nat×Bool)}{K:VP->List HP->Prop}
theorem OpT.calls[Dr]{f:FuncId}{fo:Operand}{as:Array Operand}{ts:Array TypeId}{caps:Array Value}(hf:FnOK P f)(hfo:Ev s fo (eqv (.func (.func f) #[] caps)))
  (h:∀a r S w,a.defers=C.df->WInv C.w0 C.base s.objs r S w->zj s.slots a r w->Calls P f (as.map a.eval++caps) w (retR C.w0 C.base r w K)) :
  OpT C ⟨dst,.call { callee:=.value fo,args:=as,argTypes:=ts },ty,pos,after,guard⟩ s K:=by
 intro a w r S Q hd hn hw hs;obtain⟨fn,h1,h2,h3⟩:=hf;have hfo':=hfo a r w hs;simp only[eqv] at hfo';unfold Oper.wp;have hrun :(execOp a.eval ⟨dst,.call { callee:=.value fo,args:=as,argTypes:=ts },ty,pos,after,guard⟩).run P w = .ok (.enter f (as.map a.eval++caps)) w:=by simp[execOp,resolve,hfo',Deferred.ofValue,invoke,z1x h1 h2 h3]
 rw[hrun,Oper.upon_enter];refine(h a r S w hd hw hs).mono ?_;rintro e w' ⟨v,x,objs',r',S',rfl,he,hw',hx,hk⟩;exact⟨v,r',S',x,objs',rfl,he,hw',hx,hk⟩
theorem y3l[Dr]{f:FuncId}{as:Array Operand}{ts:Array TypeId}{args:List VP}{K':VP->List HP->Prop}(hf:FnOK P f)(ha:Args s as.toList args)
  (h:zdq P f args K') (k:∀x news,K' x news->K x (s.objs++news)):OpT C ⟨dst,.call { callee:=.value (.func f),args:=as,argTypes:=ts },ty,pos,after,guard⟩ s K:=
 .calls hf (Ev.func f) λa r S w hd hw hs=>by
  obtain⟨h1,h2⟩:=ha.ok hs;refine(h r w _ hw.old (by simp at h1;simp[h1]) λi A hi=>?_).mono ?_
  .have:=h2 i A hi
   have hlt:i<as.size:=by have:=(w04.1 hi).1;simp at h1;omega
   simpa[w12,hlt] using this
  .rintro e w' ⟨v,x,news,r',S',rfl,he,hw',hx,hk⟩;refine⟨v,x,_,r',_,rfl,⟨he.1,he.2.1,λb hb=>(he.2.2 b hb).imp id (λq=>w34 hw.size q)⟩,hw.join hw' r' he.1 (λb hb=>?_) hw'.obj,hx,k _ _ hk⟩;rcases he.2.2 b hb with q|q
   .exact .inl q
   .exact .inr ⟨q,hb⟩
theorem zvq[Dr]{f:FuncId}{as:Array Operand}{ts:Array TypeId}{args:List VP}{K':VP->List HP->Prop}(hf:FnOK P f)(ha:zrt C s as.toList args)
  (h:zdq P f args K') (k:∀x news,K' x news->x.flat/\(∀H∈news,H.flat)/\K x (s.objs++news)):OpT C ⟨dst,.call { callee:=.value (.func f),args:=as,argTypes:=ts },ty,pos,after,guard⟩ s K:=
 .calls hf (Ev.func f) λa r S w hd hw hs=>by
  obtain⟨h1,h2⟩:=ha.ok hw hs;refine(h _ w _ (λ_ h=>h) (by simp at h1;simp[h1]) λi A hi=>?_).mono ?_
  .have:=h2 i A hi
   have hlt:i<as.size:=by have:=(w04.1 hi).1;simp at h1;omega
   simpa[w12,hlt] using this
  .rintro e w' ⟨v,x,news,r',S',rfl,he,hw',hx,hk⟩;obtain⟨k1,k2,k3⟩:=k _ _ hk;exact⟨v,x,_,r,_,rfl,⟨λ_ h=>h,λb hb=>he.2.1 b (hw.old b hb),λ_ h=>.inl h⟩,hw.join hw' r (λ_ h=>h) (λb hb=>.inl hb)
    (λi H hi=>k2 H (w0y hi) _ _ _ _ (hw'.obj i H hi)),k1 _ _ _ _ _ hx,k3⟩
theorem yc6[Dr]{f:FuncId}{as:Array Operand}{ts:Array TypeId}{args:List VP}{x:VP}(hf:FnOK P f)(ha:zrt C s as.toList args)
  (h:zdq P f args λy news=>y=x/\news = []) (hx:x.flat):OpQ C ⟨dst,.call { callee:=.value (.func f),args:=as,argTypes:=ts },ty,pos,after,guard⟩ s x:=
 zvq hf ha h λy news ⟨hy,hn⟩=>by subst hy;subst hn;exact⟨hx,by simp,rfl,by simp⟩
end ops
end Px
end
section
namespace Px
open Go Go.RowKit
def z0j(ops:Array Oper):List (Option Nat×List Nat):=ops.toList.map λo=>(o.dst,(o.after.toList.filter (Region.binds .any ·)).map (·.on))
abbrev Tab:=List (Option Nat×List Nat)
def Tab.dst(tab:Tab)(i:Nat):Option Nat:=match tab[i]? with|some p=>p.1|none=>none
def Tab.deps(tab:Tab)(i:Nat):List Nat:=match tab[i]? with|some p=>p.2|none=>[]
def memB(l:List Nat)(i:Nat):Bool:=l.any (Nat.beq i)
theorem z0t{l:List Nat}{i:Nat}: memB l i=true↔i∈l:=by simp only[memB,w2g];exact⟨λ⟨x,hx,h⟩=>by have:=w01 h;subst this;exact hx,λh=>⟨i,h,w2o i⟩⟩
def zgu(d:Option Nat)(t:Nat):Bool:=match d with|some d=>Nat.beq d t|none=>false
theorem y2b{d:Option Nat}{t:Nat}: zgu d t=true↔d=some t:=by
 cases d with
 |none=>simp[zgu]
 |some d=>simp[zgu]
def z3z(tab:Tab)(ok:Nat->Bool)(s:z8z):List (Nat×VP)->z8z
 | []=>s
 |(q,x)::r=>λt=>bif (ok q&&zgu (tab.dst q) t) then some x else z3z tab ok s r t
def GQ[Dr]{P:Program}(C:Cx P)(tab:Tab)(o:Oper)(s:St)(x:VP):Prop:=match o.guard with
 |none=>OpQ C o s x
 |some (j,want)=>∃p x0 t,tab.dst j=some t/\x=cnd p x0/\(p->OpQ C o s x0)/\((∃g,s.slots t=some (bv g)/\p =(g=want))\/(∃c g,s.slots t=some (cnd c (bv g))/\p =(c/\g=want)))
structure Node(ops:Array Oper)(tab:Tab)(D:List Nat)(QR:List (Nat×VP))(E:List Nat)(fuel:Nat)(listed:Array Bool):Prop where
 closed:∀j,j∈D\/j∈E->∀e∈tab.deps j,e∈D\/e∈E
 size:listed.size=ops.size
 lst:∀i,i<ops.size->(listed.getD i true=true↔i∈D\/i∈E)
 sub:∀q∈E,q∈QR.map (·.1)
 fuel :((List.range ops.size).filter λi=>!listed.getD i true).length=fuel
def ydh(tab:Tab)(QR:List (Nat×VP))(E:List Nat)(a:Act)(r:Nat->Prop)(w:World):Prop:=∀q x t,q∈E->(q,x)∈QR->tab.dst q=some t->x.h r w (a.tmps.getD t undef)
def Reg[Dr]{P:Program}(C:Cx P)(ops:Array Oper)(tab:Tab)(Q:Exit->Act->World->Prop)(D:List Nat)(s:St)(QR:List (Nat×VP)):Prop:=
 ∀fuel listed a w E r S,Node ops tab D QR E fuel listed->a.defers=C.df->a.tmps.size=C.n->WInv C.w0 C.base s.objs r S w->Evo C.base C.r0 C.wI r w->zj s.slots a r w->ydh tab QR E a r w->
  wpAnyIn (fz C.rd) 0 P .any ops Q fuel listed a w
def zek:List Nat->Bool
 | []=>true
 |x::r=>!memB r x&&zek r
theorem zcb:∀{l:List Nat},zek l=true->l.Nodup
 | [],_=>List.nodup_nil
 |x::r,h=>by simp only[zek,w02,w0w] at h;refine w1w.2 ⟨λhm=>?_,zcb h.2⟩;rw[z0t.2 hm] at h;cases h.1
def AllP{α:Type}(P:α->Prop):List α->Prop
 | []=>True
 |a::l=>P a/\AllP P l
theorem AllP.mem{α:Type}{P:α->Prop}: ∀{l:List α},AllP P l->∀a∈l,P a
 |_::_,⟨h,_⟩,_,.head _=>h
 |_::_,⟨_,h⟩,a,.tail _ hm=>AllP.mem h a hm
def y0y(a b:Option Nat):Bool:=match a,b with
 |some x,some y=>!Nat.beq x y
 |_,_=>true
theorem y0z{a b:Option Nat}(h:y0y a b=true):∀t,a=some t->b≠some t:=by intro t ha hb;subst ha;subst hb;simp[y0y] at h
def chk(tab:Tab)(n:Nat)(D keys cands sure:List Nat):Bool:=
 sure.all (λq=>(D++sure).any λj=>memB (tab.deps j) q)&&
 zek keys&&zek (keys.filterMap tab.dst)&&keys.all (λq=>(tab.dst q).isSome&&!memB D q&&decide (q<tab.length)&&isSomeLt (tab.dst q) n)&&
 (List.range tab.length).all (λi=>memB D i||memB keys i||memB cands i||(tab.deps i).any (λe=>!memB D e&&!memB keys e))&&
 (List.range tab.length).all (λi=>(tab.deps i).all (λe=>decide (e<i)))
 where isSomeLt (d:Option Nat) (n:Nat):Bool:=match d with|some d=>decide (d<n)|none=>false
def zck(tab:Tab)(D keys:List Nat):Bool:=(List.range tab.length).all λi=>memB D i||memB keys i
theorem zh0{tab:Tab}{ok:Nat->Bool}{s:z8z}{a:Act}{r:Nat->Prop}{w:World}(hs:zj s a r w):∀{QR:List (Nat×VP)},(∀q x t,(q,x)∈QR->ok q=true->tab.dst q=some t->x.h r w (a.tmps.getD t undef))->
  zj (z3z tab ok s QR) a r w
 | [],_=>hs
 |(q,x)::rr,h=>λt A hA=>by
  simp only[z3z] at hA;cases hc :(ok q&&zgu (tab.dst q) t) with
  |true=>rw[hc] at hA;simp only[cond_true,w00] at hA;subst hA;simp only[w02] at hc;exact h q x t (w0m ..) hc.1 (y2b.1 hc.2)
  |false=>rw[hc] at hA;exact zh0 hs (λq' x' t' hm=>h q' x' t' (w09 _ hm)) t A hA
section
variable{P:Program}{C:Cx P}{ops:Array Oper}{tab:Tab}{Q:Exit->Act->World->Prop}
theorem zjq(htab:z0j ops=tab){i:Nat}{o:Oper}(ho:ops[i]? = some o):tab[i]? = some (o.dst,(o.after.toList.filter (Region.binds .any ·)).map (·.on)):=by subst htab;simp[z0j,ho]
theorem zit(htab:z0j ops=tab):tab.length=ops.size:=by subst htab;simp[z0j]
theorem zx6(htab:z0j ops=tab){j t:Nat}(hj:tab.dst j=some t):(ops[j]?).bind (·.dst)=some t:=by
 cases ho:ops[j]? with
 |none=>
  have:tab[j]? = none:=by have:=zit htab;rw[w1m];rw[this];simpa using ho
  simp[Tab.dst,this] at hj
 |some oj=>simp[Tab.dst,zjq htab ho] at hj;simpa using hj
theorem zh2{listed:Array Bool}{i:Nat}(h:i∈Region.ready .any ops listed):i<ops.size/\listed.getD i true=false/\∃o,ops[i]? = some o/\∀e∈o.after,Region.binds .any e=true->listed.getD e.on false=true:=by simp only[Region.ready,w0v,w0l,w02,w0w] at h;obtain⟨h1,h2,h3⟩:=h;refine⟨h1,h2,ops[i],by simp[h1],λe he hb=>?_⟩;simp only[w2b h1,w0r,w19,w2s] at h3;have:=h3 e he;simpa[hb] using this
theorem zjf{f:Nat->Option Nat}: ∀{l:List Nat},(l.filterMap f).Nodup->∀{q q' t:Nat},q∈l->q'∈l->f q=some t->f q'=some t->q=q'
 | [],_,q,q',t,hq,_,_,_=>by cases hq
 |y::l,h,q,q',t,hq,hq',h1,h2=>by
  have htail :(l.filterMap f).Nodup:=by
   cases hy:f y with
   |none=>rwa [List.filterMap_cons_none hy] at h
   |some z=>rw[List.filterMap_cons_some hy] at h;exact(w1w.1 h).2
  have hhead:∀z,f y=some z->z ∉ l.filterMap f:=λz hz=>by rw[List.filterMap_cons_some hz] at h;exact(w1w.1 h).1
  rcases w0c.1 hq with e|hq
  .rcases w0c.1 hq' with e'|hq'
   .rw[e,e']
   .exact absurd (w4x.2 ⟨q',hq',h2⟩) (hhead t (e ▸ h1))
  .rcases w0c.1 hq' with e'|hq'
   .exact absurd (w4x.2 ⟨q,hq,h1⟩) (hhead t (e' ▸ h2))
   .exact zjf htail hq hq' h1 h2
theorem za4{α:Type}: ∀{l:List (Nat×α)},(l.map (·.1)).Nodup->∀{p p':Nat×α},p∈l->p'∈l->p.1=p'.1->p=p'
 | [],_,_,_,h,_,_=>by cases h
 |y::l,h,p,p',hp,hp',e=>by
  rw[w0p] at h;obtain⟨h1,h2⟩:=w1w.1 h;rcases w0c.1 hp with r|hp
  .rcases w0c.1 hp' with r'|hp'
   .rw[r,r']
   .exact absurd (w0h.2 ⟨p',hp',by rw[<- e,r]⟩) h1
  .rcases w0c.1 hp' with r'|hp'
   .exact absurd (w0h.2 ⟨p,hp,by rw[e,r']⟩) h1
   .exact za4 h2 hp hp' e
theorem count_set{listed:Array Bool}{i:Nat}: ∀{n:Nat},i<n->listed.getD i true=false->
  ((List.range n).filter λj=>!(if j=i then true else listed.getD j true)).length+1 =((List.range n).filter λj=>!listed.getD j true).length
 |0,h,_=>by omega
 |n+1,h,hl=>by
  rw[w1o,w4y,w4y,w0i,w0i];by_cases e:i=n
  .subst e;have :((List.range i).filter λj=>!(if j=i then true else listed.getD j true)) =(List.range i).filter λj=>!listed.getD j true:=by
    apply w57;intro j hj;have:¬j=i:=by have:=w0l.1 hj;omega
    simp[this]
   rw[this];have h1 :(List.filter (λj=>!(if j=i then true else listed.getD j true)) [i]).length=0:=by simp
   have h2 :(List.filter (λj=>!listed.getD j true) [i]).length=1:=by rw[w4c (by rw[hl];rfl)];rfl
   omega
  .have ih:=count_set (n:=n) (by omega) hl;have :(List.filter (λj=>!(if j=i then true else listed.getD j true)) [n])=List.filter (λj=>!listed.getD j true) [n]:=by
    apply w57;intro j hj;have:¬j=i:=by simp at hj;omega
    simp[this]
   rw[this];omega
def zwk(tab:Tab)(s:z8z)(QR:List (Nat×VP)):Prop:=∀p∈QR,∀t,tab.dst p.1=some t->s t=none\/s t=some p.2
def y07[Dr]{P:Program}(C:Cx P)(tab:Tab)(o:Oper)(s:St)(K:VP->List HP->Prop):Prop:=match o.guard with
 |none=>OpT C o s K
 |some (j,want)=>∃(p:Prop)(t:Nat),tab.dst j=some t/\((∃g,s.slots t=some (bv g)/\p =(g=want))\/(∃c g,s.slots t=some (cnd c (bv g))/\p =(c/\g=want)))/\(p->OpT C o s K)/\
   (¬p->∃x objs,(∀r w,x.h r w undef)/\(∀r S w,WInv C.w0 C.base s.objs r S w->∃S',WInv C.w0 C.base objs r S' w)/\K x objs)
theorem Reg.introW[Dr]{D:List Nat}{s:St}{QR:List (Nat×VP)}(cands W sure:List Nat)(htab:z0j ops=tab)(hchk:chk tab C.n D (QR.map (·.1)) (cands++W) sure=true)
  (hnone:zwk tab s.slots QR)
  (hQ':AllP (λp=>memB sure p.1=false->∃o,ops[p.1]? = some o/\GQ C tab o ⟨z3z tab (memB (tab.deps p.1)) s.slots QR,s.objs⟩ p.2) QR)
  (hL':AllP (λi=>∃o,ops[i]? = some o/\z45 C o=true/\((QR.map (·.1)).all λq=>y0y (tab.dst q) o.dst)=true/\
   y07 C tab o ⟨z3z tab (memB (tab.deps i)) s.slots QR,s.objs⟩ (λx objs=>∃N,(N.all λp=>!memB (QR.map (·.1)) p.1)=true/\Reg C ops tab Q (i::D) ⟨s.slots.set o.dst x,objs⟩ (QR++N))) cands)
  (hW:∀i∈W,∀fuel listed a w E r S,Node ops tab D QR E (fuel+1) listed->a.defers=C.df->a.tmps.size=C.n->WInv C.w0 C.base s.objs r S w->Evo C.base C.r0 C.wI r w->zj s.slots a r w->ydh tab QR E a r w->i<ops.size->
   (∀e∈tab.deps i,e∈D\/e∈E)->(∀j,j<ops.size->listed.getD j true=false->j≠i->j ∉ D/\j ∉ E)->wpOpIn (fz C.rd) 0 P ops Q i (wpAnyIn (fz C.rd) 0 P .any ops Q fuel (listed.setIfInBounds i true)) a w)
  (hE:zck tab D (QR.map (·.1))=true->AtX C ⟨z3z tab (λ_=>true) s.slots QR,s.objs⟩ .normal Q):Reg C ops tab Q D s QR:=by
 have hQ:=hQ'.mem;have hL:∀i∈cands,∃o,ops[i]? = some o/\z45 C o=true/\(∀q∈QR.map (·.1),∀t,tab.dst q=some t->o.dst≠some t)/\
   y07 C tab o ⟨z3z tab (memB (tab.deps i)) s.slots QR,s.objs⟩ (λx objs=>∃N,(N.all λp=>!memB (QR.map (·.1)) p.1)=true/\Reg C ops tab Q (i::D) ⟨s.slots.set o.dst x,objs⟩ (QR++N)):=λi hi=>by
  obtain⟨o,h1,h3,h4,h5⟩:=hL'.mem i hi;exact⟨o,h1,h3,λq hq=>y0z (w08.1 h4 q hq),h5⟩
 simp only[chk,w02,w08,w0l,w0s,w0w,decide_eq_true_eq,w2g] at hchk;obtain⟨⟨⟨⟨⟨hk0,hk1⟩,hk2⟩,hk3⟩,hk4⟩,hk5⟩:=hchk;have hnd:=zcb hk1;have hdd:=zcb hk2;have hlen:=zit htab;have hdist:∀q q' t,q∈QR.map (·.1)->q'∈QR.map (·.1)->tab.dst q=some t->tab.dst q'=some t->q=q':=by intro q q' t hq hq' ht ht';exact zjf hdd hq hq' ht ht'
 intro fuel
 induction fuel with
 |zero=>
  intro listed a w E r S hN hd hn hw he hs hf;have hnil :(List.range ops.size).filter (λi=>!listed.getD i true) = []:=w18 hN.fuel;have hall:∀i,i<ops.size->listed.getD i true=true:=λi hi=>by have:=List.filter_eq_nil_iff.1 hnil i (by simpa using hi);simpa using this
  refine⟨?_,?_⟩
  .apply w4o.2;intro i hi;obtain⟨h1,h2,_⟩:=zh2 hi;rw[hall i h1] at h2;cases h2
  .refine hE ?_ a w ⟨hd,hn,r,S,hw,he,zh0 hs λq x t hm _ ht=>hf q x t ?_ hm ht⟩
   .simp only[zck,w08,w0l,w0s];intro i hi;rw[hlen] at hi;rcases(hN.lst i hi).1 (hall i hi) with h|h
    .exact .inl (z0t.2 h)
    .exact .inr (z0t.2 (hN.sub i h))
   .have hqm:q∈QR.map (·.1):=w0h.2 ⟨_,hm,rfl⟩;obtain⟨⟨⟨_,hqD⟩,hql⟩,_⟩:=hk3 q hqm;rcases(hN.lst q (by omega)).1 (hall q (by omega)) with h|h
    .rw[z0t.2 h] at hqD;cases hqD
    .exact h
 |succ fuel ih=>
  intro listed a w E r S hN hd hn hw he hs hf;have hprog:Region.ready .any ops listed = []->False:=by
   intro hnil;have hne :(List.range ops.size).filter (λi=>!listed.getD i true)≠[]:=by intro h;have:=hN.fuel;rw[h] at this;simp at this
   obtain⟨i0,hi0⟩:=List.exists_mem_of_ne_nil _ hne;have key:∀i,i<ops.size->listed.getD i true=false->False:=by
    intro i
    induction i using Nat.strongRecOn with
    |_ i ihi=>
     intro hi hli;have:i∈Region.ready .any ops listed:=by
      simp only[Region.ready,w0v,w0l,w02,w0w];refine⟨hi,hli,?_⟩;simp only[w2b hi,w0r,w19,w2s];intro e hem;by_cases hb:Region.binds .any e=true
      .simp only[hb,w1r,w26];have htb:=zjq htab (i:=i) (o:=ops[i]) (by simp[hi]);have hlt:=hk5 i (by omega) e.on (by simp only[Tab.deps,htb];exact w0h.2 ⟨e,w0v.2 ⟨by simpa using hem,hb⟩,rfl⟩);cases hle:listed.getD e.on true with
       |true=>
        have hb':e.on<listed.size:=by rw[hN.size];omega
        simp[hb'] at hle⊢;exact hle
       |false=>exact(ihi e.on hlt (by omega) hle).elim
      .simp[hb]
     rw[hnil] at this;cases this
   simp only[w0v,w0l,w0w] at hi0;exact key i0 hi0.1 hi0.2
  refine⟨λh=>(hprog h).elim,λi hi=>?_⟩;obtain⟨hisz,hli,o,ho,hdeps⟩:=zh2 hi;have hiDE:i ∉ D/\i ∉ E:=by
   constructor<;>intro h
   .rw[(hN.lst i hisz).2 (.inl h)] at hli;cases hli
   .rw[(hN.lst i hisz).2 (.inr h)] at hli;cases hli
  have htb:=zjq htab ho;have hdeps':∀e∈tab.deps i,e∈D\/e∈E:=by
   intro e hem;simp only[Tab.deps,htb] at hem;obtain⟨ed,hed,rfl⟩:=w0h.1 hem;obtain⟨hed1,hed2⟩:=w0v.1 hed;have hl:=hdeps ed (by simpa using hed1) hed2;have hlt:=hk5 i (by omega) ed.on (by simp only[Tab.deps,htb];exact hem);have hb':ed.on<listed.size:=by rw[hN.size];omega
   refine(hN.lst ed.on (by omega)).1 ?_;simp[hb'] at hl⊢;exact hl
  have hdq:zj (z3z tab (memB (tab.deps i)) s.slots QR) a r w:=zh0 hs λq x t hm hok ht=>by
   rcases hdeps' q (z0t.1 hok) with h|h
   .have hqm:q∈QR.map (·.1):=w0h.2 ⟨_,hm,rfl⟩;obtain⟨⟨⟨_,hqD⟩,_⟩,_⟩:=hk3 q hqm;rw[z0t.2 h] at hqD;cases hqD
   .exact hf q x t h hm ht
  have hNext:∀(D' E':List Nat)(QR':List (Nat×VP)),(∀j,(j∈D'\/j∈E')↔(j=i\/j∈D\/j∈E))->(∀q∈E',q∈QR'.map (·.1))->
    Node ops tab D' QR' E' fuel (listed.setIfInBounds i true):=by
   intro D' E' QR' hDE hsub;have hget:∀j,(listed.setIfInBounds i true).getD j true =(if j=i then true else listed.getD j true):=by
    intro j;by_cases e:j=i
    .subst e;by_cases hb:j<listed.size<;>simp[hb]
    .have:¬i=j:=λh=>e h.symm
     simp[e,w2w this]
   refine⟨λj hj e he=>?_,by simp[hN.size],λj hj=>?_,hsub,?_⟩
   .refine(hDE e).2 (.inr ?_);rcases(hDE j).1 hj with rfl|h
    .exact hdeps' e he
    .exact hN.closed j h e he
   .rw[hget j,hDE];by_cases e:j=i
    .simp[e]
    .rw[if_neg e,hN.lst j hj];simp[e]
   .have:=count_set (listed:=listed) (i:=i) (n:=ops.size) hisz hli
    have h2:=hN.fuel;have e1 :(λj=>!(listed.setIfInBounds i true).getD j true)=λj=>!(if j=i then true else listed.getD j true):=by funext j;rw[hget j]
    rw[e1];omega
  rcases hk4 i (by omega) with((h|h)|h)|⟨e,hem,h⟩
  .exact absurd (z0t.1 h) hiDE.1
  .-- a zn operation
   obtain⟨p,hp,rfl⟩:=w0h.1 (z0t.1 h);have hnsure:memB sure p.1=false:=by
    have key:∀m q,q∈sure->tab.length<=m+q->q∈D\/q∈E:=by
     intro m
     induction m with
     |zero=>
      intro q hq hm;obtain⟨j,hj,hd⟩:=hk0 q hq;have hjlt:j<tab.length:=by
       apply Classical.byContradiction;intro hge;have:tab.deps j = []:=by unfold Tab.deps;rw[w1m (w4h hge)]
       rw[this] at hd;simp[memB] at hd
      have:=hk5 j hjlt q (z0t.1 hd);omega
     |succ m ihm=>
      intro q hq hm;obtain⟨j,hj,hd⟩:=hk0 q hq;have hjlt:j<tab.length:=by
       apply Classical.byContradiction;intro hge;have:tab.deps j = []:=by unfold Tab.deps;rw[w1m (w4h hge)]
       rw[this] at hd;simp[memB] at hd
      have hlt:=hk5 j hjlt q (z0t.1 hd);rcases w0k.1 hj with hj|hj
      .exact hN.closed j (.inl hj) q (z0t.1 hd)
      .exact hN.closed j (ihm j hj (by omega)) q (z0t.1 hd)
    cases hm:memB sure p.1 with
    |false=>rfl
    |true=>
     rcases key tab.length p.1 (z0t.1 hm) (by omega) with h'|h'
     .exact absurd h' hiDE.1
     .exact absurd h' hiDE.2
   obtain⟨o',ho',hq⟩:=hQ p hp hnsure;rw[ho] at ho';simp at ho';subst ho';have hqm:p.1∈QR.map (·.1):=z0t.1 h;obtain⟨⟨⟨hsome,hqD⟩,_⟩,hlt⟩:=hk3 p.1 hqm;obtain⟨t,ht⟩:=w11.1 hsome;have hdst:o.dst=some t:=by simpa[Tab.dst,htb] using ht
   have hin:z45 C o=true:=by simp only[z45,hdst];simpa[chk.isSomeLt,ht] using hlt
   have hkeep:∀(v:Value)(r':Nat->Prop)(S':Nat->Nat->Prop)(w':World),Evo C.base r w r' w'->WInv C.w0 C.base s.objs r' S' w'->p.2.h r' w' v->wpAnyIn (fz C.rd) 0 P .any ops Q fuel (listed.setIfInBounds p.1 true) (a.put o.dst v) w':=by
    intro v r' S' w' hev hw' hx;have hgd:=λt'=>zgt a o.dst v t' (zf7 hin hn)
    refine ih (listed.setIfInBounds p.1 true) _ w' (p.1::E) r' S' (hNext _ _ _ ?_ ?_) ?_ ?_ hw' (he.trans hev) ?_ ?_
    .intro j;simp only[w0c];constructor
     .rintro(h|h|h)
      .exact .inr (.inl h)
      .exact .inl h
      .exact .inr (.inr h)
     .rintro(h|h|h)
      .exact .inr (.inl h)
      .exact .inl h
      .exact .inr (.inr h)
    .intro q hqE;rcases w0c.1 hqE with rfl|h
     .exact hqm
     .exact hN.sub q h
    .rw[hdst];exact hd
    .rw[hdst];simp[Act.put,hn]
    .intro t' A hA;rw[hgd];by_cases e:o.dst=some t'
     .rw[if_pos e];rw[hdst] at e;simp at e;subst e;rcases hnone p hp t ht with hz|hz
      .rw[hz] at hA;cases hA
      .rw[hz] at hA;cases hA;exact hx
     .rw[if_neg e];exact A.evo hev (hs t' A hA)
    .intro q x' t' hqE hm ht';rw[hgd];have hqm':q∈QR.map (·.1):=w0h.2 ⟨_,hm,rfl⟩;by_cases e:o.dst=some t'
     .rw[if_pos e];have:q=p.1:=hdist q p.1 t' hqm' hqm ht' (by rw[ht,<- hdst];exact e);subst this;have :(p.1,x')=p:=za4 hnd hm hp rfl;rw[<- this] at hx;exact hx
     .rw[if_neg e];rcases w0c.1 hqE with rfl|h
      .exact absurd (by rw[hdst,<- ht];exact ht') e
      .exact x'.evo hev (hf q x' t' h hm ht')
   unfold wpOpIn;rw[ho];unfold GQ at hq;cases hg:o.guard with
   |none=>rw[hg] at hq;simp only[Region.wanted,hg,if_true];refine Oper.wpIn_mono ?_ (OpT.fz hq a w r S Q hd hn hw hdq);rintro a' w' ⟨v,r',S',x,objs',rfl,hev,hw',hx,rfl,rfl⟩;exact hkeep v r' S' w' hev hw' hx
   |some jw=>
    obtain⟨j,want⟩:=jw;rw[hg] at hq;obtain⟨pp,x0,tj,htj,hx0,hq,hcase⟩:=hq;have hy :(pp->yielded ops a.tmps j=some want)/\(¬pp->yielded ops a.tmps j≠some want):=by
     rcases hcase with⟨g,hsj,rfl⟩|⟨c,g,hsj,rfl⟩
     .exact zqn (zx6 htab htj) hsj hdq
     .exact zvb (zx6 htab htj) hsj hdq
    simp only[Region.wanted,hg];by_cases hc:pp
    .simp only[hy.1 hc,BEq.rfl,if_true];refine Oper.wpIn_mono ?_ (OpT.fz (hq hc) a w r S Q hd hn hw hdq);rintro a' w' ⟨v,r',S',x,objs',rfl,hev,hw',hx,rfl,rfl⟩;exact hkeep v r' S' w' hev hw' (by rw[hx0];exact⟨λ_=>hx,λh=>absurd hc h⟩)
    .have :(yielded ops a.tmps j==some want)=false:=by
      cases hb :(yielded ops a.tmps j==some want) with
      |false=>rfl
      |true=>exact absurd (by simpa using hb) (hy.2 hc)
     rw[this];simp only[w0t,if_false];exact⟨λ_ _=>trivial,hkeep undef r S w (Evo.refl _ _ _) hw (by rw[hx0];exact⟨λh=>absurd h hc,λ_=>rfl⟩)⟩
  .-- one of the others
   rcases w0k.1 (z0t.1 h) with h|h
   rotate_left
   .exact hW i h fuel listed a w E r S hN hd hn hw he hs hf hisz hdeps' λj hj hlj _=>⟨λq=>(by rw[(hN.lst j hj).2 (.inl q)] at hlj;cases hlj),λq=>(by rw[(hN.lst j hj).2 (.inr q)] at hlj;cases hlj)⟩
   obtain⟨o',ho',hin,hne,hT⟩:=hL i h;rw[ho] at ho';simp at ho';subst ho';have hfin:∀(v:Value)(r':Nat->Prop)(S':Nat->Nat->Prop)(w':World)(x:VP)(objs':List HP),Evo C.base r w r' w'->WInv C.w0 C.base objs' r' S' w'->x.h r' w' v->
     (∃N,(N.all λp=>!memB (QR.map (·.1)) p.1)=true/\Reg C ops tab Q (i::D) ⟨s.slots.set o.dst x,objs'⟩ (QR++N))->wpAnyIn (fz C.rd) 0 P .any ops Q fuel (listed.setIfInBounds i true) (a.put o.dst v) w':=by
    rintro v r' S' w' x objs' hev hw' hx ⟨N,hsub,hreg⟩;have hgd:=λt'=>zgt a o.dst v t' (zf7 hin hn)
    refine hreg fuel _ _ w' E r' S' (hNext _ _ _ ?_ ?_) ?_ ?_ hw' (he.trans hev) ?_ ?_
    .intro j;simp only[w0c];exact⟨λh=>h.elim (λh=>h.elim .inl (λh=>.inr (.inl h))) (λh=>.inr (.inr h)),λh=>h.elim (λh=>.inl (.inl h)) (λh=>h.elim (λh=>.inl (.inr h)) .inr)⟩
    .intro q hq;obtain⟨p,hp,rfl⟩:=w0h.1 (hN.sub q hq);exact w0h.2 ⟨p,w1g _ hp,rfl⟩
    .cases h:o.dst<;>simp[Act.put,hd]
    .cases h:o.dst<;>simp[Act.put,hn]
    .exact zj.put (zf7 hin hn) (hs.evo hev) hx
    .intro q x' t' hqE hm ht';obtain⟨p,hp,hpe⟩:=w0h.1 (hN.sub q hqE);have hqm':q∈QR.map (·.1):=hN.sub q hqE;rw[hgd,if_neg (hne q hqm' t' ht')]
     -- the fact of q in the larger list is the fact of q
     refine x'.evo hev (hf q x' t' hqE ?_ ht');rcases w0k.1 hm with h'|h'
     .exact h'
     .have:=w08.1 hsub _ h'
      simp only[w0w] at this;rw[z0t.2 hqm'] at this;cases this
   unfold wpOpIn;rw[ho];unfold y07 at hT;cases hg:o.guard with
   |none=>rw[hg] at hT;simp only[Region.wanted,hg,if_true];refine Oper.wpIn_mono ?_ (OpT.fz hT a w r S Q hd hn hw hdq);rintro a' w' ⟨v,r',S',x,objs',rfl,hev,hw',hx,hk⟩;exact hfin v r' S' w' x objs' hev hw' hx hk
   |some jw=>
    obtain⟨j,want⟩:=jw;rw[hg] at hT;obtain⟨pp,tj,htj,hcase,hq,hsk⟩:=hT;have hy :(pp->yielded ops a.tmps j=some want)/\(¬pp->yielded ops a.tmps j≠some want):=by
     rcases hcase with⟨g,hsj,rfl⟩|⟨c,g,hsj,rfl⟩
     .exact zqn (zx6 htab htj) hsj hdq
     .exact zvb (zx6 htab htj) hsj hdq
    simp only[Region.wanted,hg];by_cases hc:pp
    .simp only[hy.1 hc,BEq.rfl,if_true];refine Oper.wpIn_mono ?_ (OpT.fz (hq hc) a w r S Q hd hn hw hdq);rintro a' w' ⟨v,r',S',x,objs',rfl,hev,hw',hx,hk⟩;exact hfin v r' S' w' x objs' hev hw' hx hk
    .have :(yielded ops a.tmps j==some want)=false:=by
      cases hb :(yielded ops a.tmps j==some want) with
      |false=>rfl
      |true=>exact absurd (by simpa using hb) (hy.2 hc)
     rw[this];simp only[w0t,if_false];obtain⟨x,objs',hx,hw2,hk⟩:=hsk hc;obtain⟨S',hw'⟩:=hw2 r S w hw;exact⟨λ_ _=>trivial,hfin undef r S' w x objs' (Evo.refl _ _ _) hw' (hx r w) hk⟩
  .rcases hdeps' e hem with h'|h'
   .rw[z0t.2 h'] at h;cases h.1
   .have:=hN.sub e h'
    rw[z0t.2 this] at h;cases h.2
theorem Reg.introG[Dr]{D:List Nat}{s:St}{QR:List (Nat×VP)}(cands sure:List Nat)(htab:z0j ops=tab)(hchk:chk tab C.n D (QR.map (·.1)) cands sure=true)
  (hnone':zwk tab s.slots QR)
  (hQ':AllP (λp=>memB sure p.1=false->∃o,ops[p.1]? = some o/\GQ C tab o ⟨z3z tab (memB (tab.deps p.1)) s.slots QR,s.objs⟩ p.2) QR)
  (hL':AllP (λi=>∃o,ops[i]? = some o/\z45 C o=true/\((QR.map (·.1)).all λq=>y0y (tab.dst q) o.dst)=true/\
   y07 C tab o ⟨z3z tab (memB (tab.deps i)) s.slots QR,s.objs⟩ (λx objs=>∃N,(N.all λp=>!memB (QR.map (·.1)) p.1)=true/\Reg C ops tab Q (i::D) ⟨s.slots.set o.dst x,objs⟩ (QR++N))) cands)
  (hE:zck tab D (QR.map (·.1))=true->AtX C ⟨z3z tab (λ_=>true) s.slots QR,s.objs⟩ .normal Q):Reg C ops tab Q D s QR:=
 Reg.introW cands [] sure htab (by rw[w0e];exact hchk) hnone' hQ' hL' (λ_ h=>by cases h) hE
theorem y0x[Dr]{id:Nat}{s:St}{QR:List (Nat×VP)}(hm:P.follows .mixedOrders=true)(h:Reg C ops tab Q [] s QR){a:Act}{w:World}(hs:Sat C s a w):(Code.region id ops true).wpIn (fz C.rd) 0 P Q a w:=by
 refine wpIn_region_any hm ?_;obtain⟨hd,hn,r,S,hw,he,hsl⟩:=hs.drawn (w.drawn+1) (w5m _);refine h _ _ _ _ [] r S ⟨(λj hj=>by rcases hj with h|h<;>cases h),by simp,λi hi=>by simp[hi],(λq hq=>by cases hq),?_⟩ hd hn hw he hsl (λq x t hq=>by cases hq);rw[w47.2]
 .simp
 .intro i hi;have:=w0l.1 hi;simp[this]
end
end Px
end
section
namespace Px
open Go Go.RowKit
def zjs(P:Program)(t:TypeId)(i:Nat):Option (Nat×Nat):=match P.underlying t with
 |some (.struct fs)=>(fs[i]?).bind λf=>(P.info? f.type).map λj=>(f.offset,j.size)
 |some (.array _ e)=>(P.info? e).map λj=>(i*j.size,j.size)
 |_=>none
def zjr(P:Program)(t:TypeId):Bool:=match P.underlying t with
 |some (.struct fs)=>fs.toList.all λf=>(P.info? f.type).isSome
 |some (.array _ e)=>(P.info? e).isSome
 |_=>false
theorem zjc:∀(vs:List Value)(k off:Nat)(cells:Array Value),off+k+vs.length<=cells.size->
  ((vs.zipIdx k).foldl (λcs(p:Value×Nat)=>cs.setIfInBounds (off+p.2) p.1) cells).toList=cells.toList.take (off+k)++vs++cells.toList.drop (off+k+vs.length)
 | [],k,off,cells,h=>by simp
 |v::vs,k,off,cells,h=>by
  simp only[w1b] at h;rw[List.zipIdx_cons,w27,zjc vs (k+1) off (cells.setIfInBounds (off+k) v) (by simp;omega)];simp only[Array.toList_setIfInBounds];have hl:off+k<cells.toList.length:=by simp;omega
  rw[show off+(k+1)=off+k+1 from rfl,List.take_set,List.drop_set];have e1 :(cells.toList.take (off+k+1)).set (off+k) v=cells.toList.take (off+k)++[v]:=by
   rw[w2t hl];rw[List.set_append_right _ _ (by rw[w1y];omega)];have:off+k-(List.take (off+k) cells.toList).length=0:=by rw[w1y];omega
   rw[this];rfl
  have e2:¬off+k+1+vs.length<=off+k:=by omega
  rw[e1,if_pos (by omega)];simp only[w0q,List.singleton_append,w1b];congr 3;omega
theorem zgr(v:Value)(off:Nat)(cells:Array Value)(h:off+v.cells.size<=cells.size):
  (v.cells.zipIdx.foldl (λcs(p:Value×Nat)=>cs.setIfInBounds (off+p.2) p.1) cells) =(cells.toList.take off++v.cells.toList++cells.toList.drop (off+v.cells.toList.length)).toArray:=by
 apply Array.ext';have:=zjc v.cells.toList 0 off cells (by simpa using h);rw[<- Array.foldl_toList];simpa using this
def lay:List VP->List (Nat×List VP)->List VP
 |cs,[]=>cs
 |cs,(off,ds)::r=>lay (cs.take off++ds++cs.drop (off+ds.length)) r
def y5e(s:St)(place:Nat->Option (Nat×Nat))(n:Nat):List (Nat×Operand)->List (Nat×List VP)->Prop
 | [],[]=>True
 |(i,o)::r,(off,ds)::r'=>place i=some (off,ds.length)/\off+ds.length<=n/\Ce s o ds/\y5e s place n r r'
 |_,_=>False
theorem zrb{s:St}{a:Act}{r:Nat->Prop}{w:World}(hs:zj s.slots a r w){place place':Nat->Option (Nat×Nat)}(hpl:∀i p,place i=some p->place' i=some p){n:Nat}:
  ∀(ps:List (Nat×Operand))(qs:List (Nat×List VP))(cs:List VP)(cells:Array Value),cells.size=n->y5e s place n ps qs->zo r w cs cells.toList->
   ∃out:Array Value,Instr.fill place' cells (ps.map λp=>(p.1,a.eval p.2))=some out/\zo r w (lay cs qs) out.toList
 | [],[],cs,cells,_,_,h=>⟨cells,rfl,h⟩
 |(i,o)::ps,(off,ds)::qs,cs,cells,hn,⟨h1,h2,h3,h4⟩,h=>by
  have hv:=h3 a r w hs;have hsz :(a.eval o).cells.size=ds.length:=by have:=hv.1;simp at this;omega
  have hcs:cs.length=n:=by have:=h.1;simp at this;omega
  have hb:off+(a.eval o).cells.size<=cells.size:=by omega
  obtain⟨out,ho,hh⟩:=zrb hs hpl ps qs (cs.take off++ds++cs.drop (off+ds.length)) (cells.toList.take off++(a.eval o).cells.toList++cells.toList.drop (off+(a.eval o).cells.toList.length)).toArray
   (by simp;omega) h4 (zo.splice h hv off (by omega))
  refine⟨out,?_,hh⟩;simp only[w0p,Instr.fill,hpl i _ h1];rw[if_neg (by simp[hn,hsz];omega),zgr _ _ _ hb];exact ho
 | [],_::_,_,_,_,h,_=>h.elim
 |_::_,[],_,_,_,h,_=>h.elim
theorem zpa{P:Program}(w:World):∀(fs:List Field),fs.all (λf=>(P.info? f.type).isSome)=true->
  (fs.mapM (m:=Sem) λf=>do pure (f.offset,<- Go.sizeOf f.type)).run P w = .ok (fs.map λf=>(f.offset,P.cellsOf f.type)) w
 | [],_=>rfl
 |f::fs,h=>by
  simp only[w1h,w02] at h;obtain⟨i,hi⟩:=w11.1 h.1;have ih:=zpa (P:=P) w fs h.2;have hsz :(Go.sizeOf f.type).run P w = .ok i.size w:=by simp[Go.sizeOf,typeInfo,hi]
  rw[List.mapM_cons];simp only[w06,hsz,w05,w0g,ih,w0p,Program.cellsOf,hi,w0r,w19]
section ops
variable{P:Program}{C:Cx P}{s:St}{dst:Option Tmp}{ty:TypeId}{pos:String}{after:Array Edge}{guard:Option (Nat×Bool)}{K:VP->List HP->Prop}
theorem y3j[Dr]{t:TypeId}{parts:Array (Nat×Operand)}(zs:List Value)(qs:List (Nat×List VP)){out:List VP}(hz:zrq P t=some zs)(h1:zs.all (·.oneCell')=true)(hb:zjr P t=true)
  (hp:y5e s (zjs P t) zs.length parts.toList qs) (hout:lay (zs.map eqv) qs=out):OpQ C ⟨dst,.build t parts,ty,pos,after,guard⟩ s (agg out):=
 .val λa r w hs=>by
  obtain⟨z,hzr,hzc⟩:=zui hz w;have hzs:z.cells.size=zs.length:=by rw[<- hzc];simp
  have hz0:zo r w (zs.map eqv) z.cells.toList:=by rw[hzc];exact zfq h1
  have hmap :(parts.map λ(p:Nat×Operand)=>(p.1,a.eval p.2)).toList=parts.toList.map λp=>(p.1,a.eval p.2):=by simp
  unfold zjr at hb;split at hb
  .rename_i fs hu;obtain⟨o,ho,hh⟩:=zrb hs (place:=zjs P t) (place':=λi=>((fs.toList.map λf=>(f.offset,P.cellsOf f.type)).toArray)[i]?) (by
    intro i p hpi;simp only[zjs,hu] at hpi;cases hf:fs[i]? with
    |none=>rw[hf] at hpi;simp at hpi
    |some f=>rw[hf] at hpi;simp only[w03,w1u] at hpi;obtain⟨j,hj,rfl⟩:=hpi;simp[hf,Program.cellsOf,hj]) parts.toList qs _ z.cells hzs hp hz0
   refine⟨.agg o,?_,o,rfl,hout ▸ hh⟩;have hpl:=zpa w fs.toList hb;have hpl' :(fs.mapM (m:=Sem) λf=>do pure (f.offset,<- Go.sizeOf f.type)).run P w = .ok (fs.toList.map λf=>(f.offset,P.cellsOf f.type)).toArray w:=by rw[Array.mapM_eq_mapM_toList];simp only[Sem.run_map,hpl,w05]
   simp only[execOp,Instr.build,w06,hzr,w05,run_underlying hu,hpl',hmap,ho,w0g]
  .rename_i n e hu;obtain⟨j,hj⟩:=w11.1 hb;obtain⟨o,ho,hh⟩:=zrb hs (place:=zjs P t) (place':=λi=>some (i*j.size,j.size)) (by intro i p hpi;simp only[zjs,hu,hj,w0r] at hpi;exact hpi) parts.toList qs _ z.cells hzs hp hz0;refine⟨.agg o,?_,o,rfl,hout ▸ hh⟩;simp only[execOp,Instr.build,w06,hzr,w05,run_underlying hu,Go.sizeOf,typeInfo,run_program,hj,hmap,ho,w0g]
  .cases hb
def y05{α:Type}(s:St)(e:α->List VP):Nat->List (Nat×Operand)->List α->Prop
 |_,[],[]=>True
 |k,(i,o)::r,x::l=>i=k/\Ce s o (e x)/\y05 s e (k+1) r l
 |_,_,_=>False
theorem ztt{α:Type}{s:St}{a:Act}{r:Nat->Prop}{w:World}(hs:zj s.slots a r w){e:α->List VP}{sz:Nat}(he:∀x,(e x).length=sz):
  ∀(ps:List (Nat×Operand))(l:List α)(k:Nat)(pre:List Value)(post:List Value),pre.length=k*sz->post.length=l.length*sz->y05 s e k ps l->
   ∃us,Instr.fill (λi=>some (i*sz,sz)) (pre++post).toArray (ps.map λp=>(p.1,a.eval p.2))=some (pre++us).toArray/\zo r w (l.flatMap e) us
 | [],[],k,pre,post,h1,h2,_=>⟨[],by have:post = []:=w18 (by simpa using h2);subst this;rfl,by simp[zo]⟩
 |(i,o)::ps,x::l,k,pre,post,h1,h2,⟨hik,h3,h4⟩=>by
  subst hik;have hv:=h3 a r w hs;have hsz :(a.eval o).cells.size=sz:=by have:=hv.1;simp at this;rw[he] at this;omega
  simp only[w1b,w1e,w45] at h2;have hb:i*sz+(a.eval o).cells.size<=(pre++post).toArray.size:=by simp;omega
  have hfold:=zgr (a.eval o) (i*sz) (pre++post).toArray hb;have htl :(a.eval o).cells.toList.length=sz:=by simpa using hsz
  have e1 :((pre++post).toArray.toList.take (i*sz)++(a.eval o).cells.toList++(pre++post).toArray.toList.drop (i*sz+(a.eval o).cells.toList.length)) =(pre++(a.eval o).cells.toList)++post.drop sz:=by simp only[w3i,htl];rw[w22 (by omega),w2i (by omega),w5b,w2q (by omega)];simp only[w39];congr 2;omega
  obtain⟨us,hu,hh⟩:=ztt hs he ps l (i+1) (pre++(a.eval o).cells.toList) (post.drop sz) (by rw[w0i,htl,h1,w1e];omega) (by rw[w4i];omega) h4;refine⟨(a.eval o).cells.toList++us,?_,?_⟩
  .simp only[w0p,Instr.fill];rw[if_neg (by simp[hsz];omega),hfold,e1,hu,w0q]
  .rw[w0n];exact zo.append hv hh
 | [],_::_,_,_,_,_,_,h=>h.elim
 |_::_,[],_,_,_,_,_,h=>h.elim
theorem zjj[Dr]{α:Type}{t E:TypeId}{e:α->List VP}{sz by' n:Nat}{parts:Array (Nat×Operand)}(l:List α)(ht:tsl P t=some (E,sz,by'))(he:∀x,(e x).length=sz)
  (hl:l.length=n) (hbig:n*sz<=16777216) (hp:y05 s e 0 parts.toList l) (k:∀v',K (eqv v') (s.objs++[row E e sz l v'])):OpT C ⟨dst,.buildSlice t n parts,ty,pos,after,guard⟩ s K:=by
 intro a w r S Q hd hn hw hs;obtain⟨i,zv,hu,hi,hzv,rfl,rfl,hzs,hpos⟩:=zhf ht;have hmap :(parts.map λ(p:Nat×Operand)=>(p.1,a.eval p.2)).toList=parts.toList.map λp=>(p.1,a.eval p.2):=by simp
 obtain⟨us,hfill,hus⟩:=ztt hs he parts.toList l 0 [] ((List.range (n*i.size)).map λj=>zv.cells[j % zv.cells.size]!) (by simp) (by simp[hl]) hp;have hul:us.length=l.length*i.size:=by rw[<- hus.1,z3j he]
 have hz :(zeroValue E).run P w = .ok zv w:=by simp[zeroValue,typeInfo,hi,hzv]
 have harr:∀Z:Array Value,(n*i.size≠0->Z=zv.cells)->(Array.range (n*i.size)).map (λj=>Z[j % Z.size]!) =(([]:List Value)++(List.range (n*i.size)).map λj=>zv.cells[j % zv.cells.size]!).toArray:=by
  intro Z hZ;by_cases h0:n*i.size=0
  .rw[h0];apply Array.ext';simp
  .rw[hZ h0];apply Array.ext';simp[Array.toList_range]
 have hrun :(execOp a.eval ⟨dst,.buildSlice t n parts,ty,pos,after,guard⟩).run P w = .ok (.value (.slice (some ⟨w.heap.size,0,none⟩) n n)) (w.alloc (.cells us.toArray E)):=by
  have hnb:¬n*i.size > 2 ^ 24:=by omega
  simp only[execOp,Instr.buildSlice,w06,run_underlying hu,w05,Go.sizeOf,typeInfo,run_program,hi,w0g,if_neg hnb];split
  .rename_i h0;simp only[w06,w0g,w05];rw[harr _ (λh=>absurd h0 h),hmap,hfill];simp[newRow]
  .simp only[w06,hz,w0g,w05];rw[harr _ (λ_=>rfl),hmap,hfill];simp[newRow]
 unfold Oper.wp;rw[hrun,Oper.upon_value];refine⟨_,r,_,_,_,rfl,hw.evo_alloc _,hw.push _ _ ?_,rfl,k _⟩;by_cases hlen:n<=maxLen
 .refine .inr ⟨w.heap.size,n,_,by rw[hl],rfl,heap_alloc_new w _,by omega,hlen,by simp[hul,hl],?_⟩;have:us.toArray.toList.take (l.length*i.size)=us:=by rw[w3i,<- hul];exact w1z
  rw[this];exact hus.mono (λ_ h=>h) (λb hb=>Below.heap_alloc _ _ _ (hw.old b hb))
 .have:n<=n*i.size:=Nat.le_mul_of_pos_right _ hpos;simp[maxLen] at hlen;omega
theorem zo.vals{r:Nat->Prop}{w:World}: ∀{vs us:List Value},zo r w (vs.map eqv) us->us=vs:=by
 intro vs us h;apply w3d;intro j;by_cases hj:j<vs.length
 .obtain⟨u,hu,hA,_⟩:=h.2 j (eqv vs[j]) (by simp[hj]);simp only[eqv] at hA;rw[hu,hA,w0a hj]
 .have:=h.1
  simp at this;rw[w1m (by omega),w1m (by omega)]
theorem yfk[Dr]{t t':TypeId}{x y:Operand}{cs ds:List VP}(vs us:List Value){g:Bool}(hx:Ev s x (agg cs))(hy:Ev s y (agg ds))(hcs:cs=vs.map eqv)(hds:ds=us.map eqv)
  (hg:P.eqGuardType P.depth t=false) (hr:∀w,(Op.equal t (.agg vs.toArray) (.agg us.toArray)).run P w = .ok g w):OpQ C ⟨dst,.binOp .eql t x y t',ty,pos,after,guard⟩ s (bv g):=
 .val λa r w hs=>by
  obtain⟨xs,hxv,hxc⟩:=hx a r w hs;obtain⟨ys,hyv,hyc⟩:=hy a r w hs;subst hcs;subst hds;have e1:xs=vs.toArray:=by rw[<- hxc.vals]
  have e2:ys=us.toArray:=by rw[<- hyc.vals]
  subst e1;subst e2;exact⟨_,by simp[execOp,hxv,hyv,eqGuard,hg,binOp,hr w],rfl⟩
theorem yft[Dr]{t t':TypeId}{x y:Operand}{cs ds:List VP}(vs us:List Value){g:Bool}(hx:Ev s x (agg cs))(hy:Ev s y (agg ds))(hcs:cs=vs.map eqv)(hds:ds=us.map eqv)
  (hg:P.eqGuardType P.depth t=false) (hr:∀w,(Op.equal t (.agg vs.toArray) (.agg us.toArray)).run P w = .ok g w):OpQ C ⟨dst,.binOp .neq t x y t',ty,pos,after,guard⟩ s (bv (!g)):=
 .val λa r w hs=>by
  obtain⟨xs,hxv,hxc⟩:=hx a r w hs;obtain⟨ys,hyv,hyc⟩:=hy a r w hs;subst hcs;subst hds;have e1:xs=vs.toArray:=by rw[<- hxc.vals]
  have e2:ys=us.toArray:=by rw[<- hyc.vals]
  subst e1;subst e2;exact⟨_,by simp[execOp,hxv,hyv,eqGuard,hg,binOp,hr w],rfl⟩
end ops
end Px
end
section
namespace Px
open Go Go.RowKit
def ck{ρ:Type}(p:Prop)[Decidable p](x:Option ρ):Option ρ:=if p then x else none
theorem zci{ρ:Type}{p:Prop}[Decidable p]{x:Option ρ}{r:ρ}(h:ck p x=some r):p/\x=some r:=by
 unfold ck at h;split at h
 .exact⟨by assumption,h⟩
 .cases h
theorem z6{ρ:Type}{p:Prop}[Decidable p]{x:Option ρ}(h:p):ck p x=x:=if_pos h
theorem bind_some{α ρ:Type}{x:Option α}{f:α->Option ρ}{r:ρ}(h:x.bind f=some r):∃y,x=some y/\f y=some r:=by
 cases x with
 |none=>cases h
 |some y=>exact⟨y,rfl,h⟩
def gt{α:Type}[Inhabited α](l:List α)(i:Int):α:=l.getD i.toNat default
def zu{α:Type}(l:List α)(i:Int)(x:α):List α:=l.set i.toNat x
def fits(n b:Nat):Prop:=n*b<=140737488355328
instance(n b:Nat):Decidable (fits n b):=inferInstanceAs (Decidable (_<=_))
theorem y6i{n b:Nat}(hb:0<b)(h:fits n b):n<=maxLen:=by unfold fits at h;have:n<=n*b:=Nat.le_mul_of_pos_right _ hb;simp[maxLen];omega
def zb(n:Int)(b:Nat):Prop:=0<=n/\(b:Int)*n<=281474976710656/\n<=9223372036854775807
instance(n:Int)(b:Nat):Decidable (zb n b):=inferInstanceAs (Decidable (_/\_))
abbrev W(n:Int):Int:=IntKind.wrap .i64 n
abbrev U(n:Int):Int:=IntKind.wrap .u64 n
def arr{α:Type}(N:Nat)(e:α->List VP)(f:Nat->α):List VP:=(List.range N).flatMap λi=>e (f i)
def upd{α:Type}(f:Nat->α)(k:Nat)(x:α):Nat->α:=λj=>if j=k then x else f j
theorem zwo{α:Type}(N:Nat)(e:α->List VP)(f:Nat->α):arr N e f =((List.range N).map f).flatMap e:=by simp[arr,List.flatMap_map]
theorem zdr{α:Type}{N sz:Nat}{e:α->List VP}{f:Nat->α}(he:∀x,(e x).length=sz):(arr N e f).length=N*sz:=by rw[zwo,z3j he];simp
theorem zoi{α:Type}{N sz k:Nat}{e:α->List VP}{f:Nat->α}(he:∀x,(e x).length=sz)(hk:k<N):((arr N e f).drop (k*sz)).take sz=e (f k):=by
 apply w3d;intro j;by_cases hj:j<sz
 .rw[w0o,if_pos hj,w1v];have hlt:j<(e (f k)).length:=by rw[he];exact hj
  rw[w0a hlt,zwo];exact z3e he _ k (f k) (by simp[hk]) j _ (w0a hlt)
 .rw[w0o,if_neg hj,w1m (by rw[he];omega)]
theorem ya6{α:Type}{N sz k:Nat}{e:α->List VP}{f:Nat->α}{x:α}(he:∀x,(e x).length=sz)(hk:k<N):
  (arr N e f).take (k*sz)++e x++(arr N e f).drop (k*sz+sz)=arr N e (upd f k x):=by
 have h1 :((List.range N).map f).set k x =(List.range N).map (upd f k x):=by
  apply w3d;intro j;rw[w1s];by_cases e:k=j
  .subst e;simp[hk,upd]
  .have:¬j=k:=λh=>e h.symm
   have e':upd f k x j=f j:=if_neg this;rw[if_neg e,w12,w12];by_cases hj:j<N
   .simp[hj,e']
   .simp[hj]
 have:=zfs he ((List.range N).map f) k (f k) x 0 (e x) (by simp[hk]) (by rw[he];omega) (by simp[he]);rw[h1] at this;rw[zwo,zwo,this];simp[he]
section
variable{P:Program}{C:Cx P}{s:St}{x:Operand}{α:Type}
theorem zoj{pre post:List VP}{N sz k off n:Nat}{e:α->List VP}{f:Nat->α}{y:α}{cs:List VP}(he:∀x,(e x).length=sz)(hoff:off=pre.length+k*sz)(hk:k<N)(hn:n=sz)(hcs:cs=e y):
  (pre++Px.arr N e f++post).take off++cs++(pre++Px.arr N e f++post).drop (off+n)=pre++Px.arr N e (upd f k y)++post:=by
 have hl:=zdr (N:=N) (f:=f) he;have hle :(k+1)*sz<=N*sz:=w14 _ hk;rw[w1e] at hle;subst hn;subst hcs;rw[hoff,w0q pre,w2h,w40,w36,w22 (by omega),w2c (by omega),<- ya6 he hk];simp[w0q]
end
section ops
variable{P:Program}{C:Cx P}{s:St}{dst:Option Tmp}{ty:TypeId}{pos:String}{after:Array Edge}{guard:Option (Nat×Bool)}{K:VP->List HP->Prop}
end ops
section joins
variable{P:Program}{C:Cx P}{s:St}{Q:Exit->Act->World->Prop}{x y:Code}
end joins
end Px
end
section
namespace Px
open Go Go.RowKit
def zfp(objs:List HP):List Nat->List HP->Prop
 | [],[]=>True
 |i::is,B::O=>(∃A,objs[i]? = some A/\EntH A B)/\zfp objs is O
 |_,_=>False
theorem zfp.at{objs:List HP}: ∀{is:List Nat}{O:List HP},zfp objs is O->is.length=O.length/\∀(k:Nat)(B:HP),O[k]? = some B->∃i A,is[k]? = some i/\objs[i]? = some A/\EntH A B
 | [],[],_=>⟨rfl,λk B h=>by simp at h⟩
 |i::is,B::O,⟨⟨A,hA,he⟩,hr⟩=>by
  obtain⟨h1,h2⟩:=hr.at;refine⟨by simp[h1],λk D hk=>?_⟩;cases k with
  |zero=>simp at hk;subst hk;exact⟨i,A,rfl,hA,he⟩
  |succ k=>simpa using h2 k D (by simpa using hk)
 | [],_::_,h=>h.elim
 |_::_,[],h=>h.elim
theorem zxv:∀{l:List Nat},l.Nodup->∀{i j x:Nat},l[i]? = some x->l[j]? = some x->i=j
 | [],_,_,_,_,h,_=>by simp at h
 |y::l,h,0,0,_,_,_=>rfl
 |y::l,h,0,j+1,x,h1,h2=>by simp at h1 h2;subst h1;exact absurd (w0y h2) (w1w.1 h).1
 |y::l,h,i+1,0,x,h1,h2=>by simp at h1 h2;subst h2;exact absurd (w0y h1) (w1w.1 h).1
 |y::l,h,i+1,j+1,x,h1,h2=>by have:=zxv (w1w.1 h).2 (i:=i) (j:=j) (by simpa using h1) (by simpa using h2);omega
theorem WInv.sel[Dr]{w0 w:World}{base:Nat}{objs O:List HP}{is:List Nat}{r:Nat->Prop}{S:Nat->Nat->Prop}(h:WInv w0 base objs r S w)(hO:zfp objs is O)(hn:zek is=true):
  WInv w0 base O r (λk b=>∃i,is[k]? = some i/\S i b) w where
 below:=h.below
 size:=h.size
 obj:=λk B hk=>by
  obtain⟨i,A,hi,hA,he⟩:=hO.at.2 k B hk;have :(λb=>∃j,is[k]? = some j/\S j b)=S i:=by funext b;rw[hi];exact propext ⟨λ⟨j,hj,hb⟩=>by simp at hj;subst hj;exact hb,λhb=>⟨i,rfl,hb⟩⟩
  rw[this];exact he _ _ _ (h.obj i A hA)
 own:=λk b ⟨i,hi,hb⟩=>by obtain⟨_,h2,h3,h4⟩:=h.own i b hb;have:=(w04.1 hi).1;exact⟨by rw[<- hO.at.1];exact this,h2,h3,h4⟩
 apart:=λk l b ⟨i,hi,hb⟩ ⟨j,hj,hb'⟩=>by have:=h.apart i j b hb hb';subst this;exact zxv (zcb hn) hi hj
 old:=h.old
section atx
variable{P:Program}{C:Cx P}{s:St}{Q:Exit->Act->World->Prop}{x y c:Code}{e:Exit}
variable{fn:Func}{K:VP->List HP->Prop}
end atx
def z9w:List VP->Prop
 | []=>True
 |A::l=>A.flat/\z9w l
theorem z9w.mem:∀{l:List VP},z9w l->∀A∈l,A.flat
 |_::_,⟨h,_⟩,_,.head _=>h
 |_::_,⟨_,h⟩,A,.tail _ hm=>z9w.mem h A hm
theorem y1j{xs:List VP}(h:z9w xs):(agg xs).flat:=y6l h.mem
theorem zsx{α:Type}{E:TypeId}{e:α->List VP}{sz:Nat}{l:List α}{sv:Value}(h:∀x,z9w (e x)):(row E e sz l sv).flat:=zxc λx=>(h x).mem
theorem OpT.of_q[Dr]{P:Program}{C:Cx P}{o:Oper}{s:St}{x:VP}{K:VP->List HP->Prop}(h:OpQ C o s x)(k:K x s.objs):OpT C o s K:=h.mono λy objs ⟨hy,ho⟩=>by subst hy;subst ho;exact k
theorem zw6{α:Type}{E:TypeId}{e:α->List VP}{sz:Nat}{l:List α}{sv:Value}{S r:Nat->Prop}{w:World}(h :(row E e sz l sv).h S r w):sv.oneCell'=true:=by rcases h with⟨rfl,_⟩|⟨g,cap,cur,rfl,_⟩<;>rfl
theorem Pt.ofArrF[Dr]{P:Program}{C:Cx P}{s:St}{x:Operand}{α:Type}(i:Nat){b off:Nat}{T:TypeId}{pre post:List VP}{N sz k fo:Nat}{e:α->List VP}{f:Nat->α}{cs:List VP}(h:Ev s x (eqv (.pointer (some ⟨b,off,none⟩))))
  (ho:s.objs[i]? = some (Px.box b T (pre++Px.arr N e f++post))) (he:∀x,(e x).length=sz) (hoff:off=pre.length+k*sz+fo) (hk:k<N) (hc :(e (f k)).drop fo=cs):Pt C s x cs:=by
 intro a r S w hw hs;obtain⟨hS,cur,hcur,hh⟩:=hw.obj i _ ho;refine⟨b,off,h a r w hs,?_⟩;have hrd:=(hh.rd hcur).drop (pre.length+k*sz);have hl:=zdr (N:=N) (f:=f) he;have hle :(k+1)*sz<=N*sz:=w14 _ hk;rw[w1e] at hle;have hrd2:=(hrd.take sz).drop fo;rw[w0q,w36,w2c (by omega),w22 (by rw[w4i];omega),zoi he hk,hc,w13,<- hoff] at hrd2;exact hrd2
section ops
variable{P:Program}{C:Cx P}{s:St}{dst:Option Tmp}{ty:TypeId}{pos:String}{after:Array Edge}{guard:Option (Nat×Bool)}{K:VP->List HP->Prop}
def z9y(s:ByteArray)(i:Int):Int:=(s.data.toList.getD i.toNat 0).toNat
theorem y7s[Dr]{t:TypeId}{x i:Operand}{k:IntKind}{m:Int}{bs:ByteArray}{n:Nat}(ht:P.underlying t=some .string)(h:Ev s x (eqv (.string bs)))(hi:Ev s i (iv k m))(hn:bs.size=n)(h0:0<=m)(h1:m<n):
  OpQ C ⟨dst,.index t x i,ty,pos,after,guard⟩ s (iv .u8 (z9y bs m)):=
 .val λa r w hs=>by
  have h2:=hi a r w hs;have h3:=h a r w hs;simp only[iv,eqv] at h2 h3;have hlt:m.toNat<bs.size:=by omega
  have hb:bs[m.toNat]? = some bs[m.toNat]:=by simp[hlt]
  have hv :((bs[m.toNat]).toNat:Int)=z9y bs m:=by
   have hlt':m.toNat<bs.data.toList.length:=by simpa using hlt
   simp only[z9y,List.getD,w0a hlt',w19];rfl
  refine⟨_,?_,rfl⟩;simp only[execOp,Instr.index,h2,h3,w06,asIntOf,w0g,w05,run_underlying ht,if_pos h0,hb,hv]
theorem zzh[Dr]{x:Operand}{b o:Nat}(h:Ev s x (eqv (.pointer (some ⟨b,o,none⟩)))):OpQ C ⟨dst,.nilCheck x,ty,pos,after,guard⟩ s (eqv (.pointer (some ⟨b,o,none⟩))):=
 .val λa r w hs=>⟨_,by have h1:=h a r w hs;simp only[eqv] at h1;simp only[execOp,h1];rfl,rfl⟩
def min2(x y:Int):Int:=if y<x then y else x
def max2(x y:Int):Int:=if x<y then y else x
def zl2(s:St)(k:IntKind):List Operand->List Int->Prop
 | [],[]=>True
 |o::os,n::ns=>Ev s o (iv k n)/\zl2 s k os ns
 |_,_=>False
theorem zl2.map{k:IntKind}{a:Act}{r:Nat->Prop}{w:World}(hs:zj s.slots a r w):∀{os:List Operand}{ns:List Int},zl2 s k os ns->os.map a.eval=ns.map (.int k)
 | [],[],_=>rfl
 |o::os,n::ns,⟨h,hr⟩=>by have h1:=h a r w hs;simp only[iv,eqv] at h1;rw[w0p,w0p,h1,zl2.map hs hr]
 | [],_::_,h=>h.elim
 |_::_,[],h=>h.elim
theorem y4d{P:Program}{k:IntKind}(w:World):∀(ns:List Int)(m:Int),((ns.map (Value.int k)).foldlM Builtin.min2 (.int k m)).run P w = .ok (.int k (ns.foldl min2 m)) w
 | [],m=>rfl
 |n::ns,m=>by rw[w0p,w5c,w27];simp only[w06,Builtin.min2,w0g,w05];exact y4d w ns _
theorem y4c{P:Program}{k:IntKind}(w:World):∀(ns:List Int)(m:Int),((ns.map (Value.int k)).foldlM Builtin.max2 (.int k m)).run P w = .ok (.int k (ns.foldl max2 m)) w
 | [],m=>rfl
 |n::ns,m=>by
  rw[w0p,w5c,w27];have h1 :(Builtin.max2 (.int k m) (.int k n)).run P w = .ok (.int k (max2 m n)) w:=by simp only[Builtin.max2,w0g,max2]
  simp only[w06,h1,w05];exact y4c w ns _
theorem yfr[Dr]{x:Operand}{xs:List Operand}{ts:Array TypeId}{k:IntKind}{m:Int}{n:List Int}(hx:Ev s x (iv k m))(hr:zl2 s k xs n):
  OpQ C ⟨dst,.call { callee:=.builtin .min,args:=⟨x::xs⟩,argTypes:=ts },ty,pos,after,guard⟩ s (iv k (n.foldl min2 m)):=
 .val λa r w hs=>by
  have h1:=hx a r w hs;have h2:=hr.map hs;simp only[iv,eqv] at h1;refine⟨_,?_,rfl⟩;have h3 :(Array.map a.eval ⟨x::xs⟩).toList = .int k m::n.map (.int k):=by simp[h1,h2]
  simp[execOp,resolve,invoke,builtin,Builtin.min_,h3,y4d,h1,h2]
theorem yfq[Dr]{x:Operand}{xs:List Operand}{ts:Array TypeId}{k:IntKind}{m:Int}{n:List Int}(hx:Ev s x (iv k m))(hr:zl2 s k xs n):
  OpQ C ⟨dst,.call { callee:=.builtin .max,args:=⟨x::xs⟩,argTypes:=ts },ty,pos,after,guard⟩ s (iv k (n.foldl max2 m)):=
 .val λa r w hs=>by
  have h1:=hx a r w hs;have h2:=hr.map hs;simp only[iv,eqv] at h1;refine⟨_,?_,rfl⟩;have h3 :(Array.map a.eval ⟨x::xs⟩).toList = .int k m::n.map (.int k):=by simp[h1,h2]
  simp[execOp,resolve,invoke,builtin,Builtin.max_,h3,y4c,h1,h2]
theorem y3n[Dr]{α:Type}{t:TypeId}{len esz:Nat}{x i:Operand}{k:IntKind}{m:Int}{e:α->List VP}{f:Nat->α}(ht:tidx P t=some (true,len,esz))(h:Ev s x (rop ([]++arr len e f++[])))(hi:Ev s i (iv k m))
  (he:∀x,(e x).length=esz) (h0:0<=m) (h1:m<len):OpQ C ⟨dst,.indexAddr t x i,ty,pos,after,guard⟩ s (rop (e (f m.toNat))):=
 .val λa r w hs=>by
  have h2:=hi a r w hs;simp only[iv,eqv] at h2;obtain⟨b,o,hx,hr,hh⟩:=h a r w hs;refine⟨_,by simp only[execOp,hx,h2,w06,zjo w ht h0 h1];rfl,b,_,rfl,hr,?_⟩;have:=(hh.drop (m.toNat*esz)).take esz;rw[w39,w0e,zoi he (by omega)] at this;exact this
end ops
instance:Inhabited ByteArray:=⟨⟨#[]⟩⟩
end Px
end
section
namespace Px
open Go Go.RowKit
def FzV(sv:Value)(X A B:VP):Prop:=∀r w v,X.h r w sv->A.h r w v->B.h r w v
def FzH(sv:Value)(X:VP)(A B:HP):Prop:=∀S r w,X.h r w sv->A.h S r w->B.h S r w
section fz
variable{sv:Value}{X:VP}
theorem FzV.refl{A:VP}: FzV sv X A A:=λ_ _ _ _ h=>h
theorem FzV.here:FzV sv X (eqv sv) X:=λr w v hx h=>by simp only[eqv] at h;subst h;exact hx
def FzVs(sv:Value)(X:VP):List VP->List VP->Prop
 | [],[]=>True
 |A::l,B::m=>FzV sv X A B/\FzVs sv X l m
 |_,_=>False
theorem FzVs.cells{r:Nat->Prop}{w:World}(hx:X.h r w sv):∀{l m:List VP}{vs:List Value},FzVs sv X l m->zo r w l vs->zo r w m vs
 | [],[],vs,_,h=>h
 |A::l,B::m,vs,⟨hA,hr⟩,h=>by
  cases vs with
  |nil=>simp[zo] at h
  |cons u vs=>
   have h':zo r w l vs:=⟨by simpa using h.1,λj D hj=>by simpa using h.2 (j+1) D (by simpa using hj)⟩;have k:=FzVs.cells hx hr h';refine⟨by simpa using k.1,λj D hj=>?_⟩;cases j with
   |zero=>simp at hj;subst hj;obtain⟨u',hu,hAu,ho⟩:=h.2 0 A rfl;exact⟨u',hu,hA _ _ _ hx hAu,ho⟩
   |succ j=>simpa using k.2 j D (by simpa using hj)
 | [],_::_,_,h,_=>h.elim
 |_::_,[],_,h,_=>h.elim
theorem FzV.agg{cs ds:List VP}(h:FzVs sv X cs ds):FzV sv X (agg cs) (agg ds):=λr w v hx ⟨vs,e,hh⟩=>⟨vs,e,h.cells hx hh⟩
theorem FzH.refl{A:HP}: FzH sv X A A:=λ_ _ _ _ h=>h
theorem FzH.box{b:Nat}{T:TypeId}{cs ds:List VP}(h:FzVs sv X cs ds):FzH sv X (box b T cs) (box b T ds):=λS r w hx ⟨hS,cur,hc,hh⟩=>⟨hS,cur,hc,h.cells hx hh⟩
def zj1(sv:Value)(X:VP):List HP->List HP->Prop
 | [],[]=>True
 |A::l,B::m=>FzH sv X A B/\zj1 sv X l m
 |_,_=>False
theorem zj1.at:∀{l m:List HP},zj1 sv X l m->l.length=m.length/\∀(i:Nat)(B:HP),m[i]? = some B->∃A,l[i]? = some A/\FzH sv X A B
 | [],[],_=>⟨rfl,λi B h=>by simp at h⟩
 |A::l,B::m,⟨he,hm⟩=>by
  obtain⟨h1,h2⟩:=zj1.at hm;refine⟨by simp[h1],λi D hi=>?_⟩;cases i with
  |zero=>simp at hi;subst hi;exact⟨A,rfl,he⟩
  |succ i=>simpa using h2 i D (by simpa using hi)
 | [],_::_,h=>h.elim
 |_::_,[],h=>h.elim
end fz
section freeze
variable{P:Program}{C:Cx P}{s:St}{Q:Exit->Act->World->Prop}{c:Code}{e:Exit}{ops:Array Oper}{l:List Nat}
variable{α:Type}{E:TypeId}{en:α->List VP}{sz:Nat}{xs:List α}{sv:Value}
def when(g:Prop)[Decidable g](H:HP):HP:=if g then H else emp
end freeze
section parts
variable{P:Program}{C:Cx P}{s:St}{dst:Option Tmp}{ty:TypeId}{pos:String}{after:Array Edge}{guard:Option (Nat×Bool)}
theorem y7u[Dr]{t:TypeId}{x:Operand}{cs:List VP}{n:Nat}(ht:z3p P t=some (true,n))(hn:cs.length=n)(h:Pt C s x cs):OpQ C ⟨dst,.load t x,ty,pos,after,guard⟩ s (agg cs):=yc8 (hn ▸ ht) h
theorem ztw{t:TypeId}{n off:Nat}{vs:Array Value}(w:World)(h:z3p P t=some (true,n)):(part t vs off).run P w = .ok (.agg (vs.extract off (off+n))) w:=by simp only[part,w06,zh8 w h,w05,if_true,z68 w h,w0g]
theorem zh9{t:TypeId}{n off:Nat}{vs:Array Value}{u:Value}(w:World)(h:z3p P t=some (false,n))(hu:vs[off]? = some u):(part t vs off).run P w = .ok u w:=by simp only[part,w06,zh8 w h,w05,w0t,if_false,hu,w0g]
theorem zo.extract{r:Nat->Prop}{w:World}{cs:List VP}{vs:Array Value}(h:zo r w cs vs.toList)(off n:Nat):zo r w ((cs.drop off).take n) (vs.extract off (off+n)).toList:=by
 have e :(vs.extract off (off+n)).toList =(vs.toList.drop off).take n:=by simp[Array.toList_extract,List.take_drop,List.extract]
 rw[e];refine⟨by simp[h.1],λj A hj=>?_⟩;rw[w0o] at hj⊢;split at hj
 .rename_i c;rw[if_pos c];rw[w1v] at hj⊢;exact h.2 _ A hj
 .cases hj
def tarr(P:Program)(t:TypeId):Option (Nat×TypeId):=match P.underlying t with
 |some (.array n e)=>some (n,e)
 |_=>none
theorem ziu{t E:TypeId}{N:Nat}(h:tarr P t=some (N,E)):P.underlying t=some (.array N E):=by
 unfold tarr at h;split at h
 .rename_i n e hu;simp only[w00,w0b] at h;rw[hu,h.1,h.2]
 .cases h
theorem y3p[Dr]{α:Type}{t E:TypeId}{N sz:Nat}{x i:Operand}{k:IntKind}{m:Int}{e:α->List VP}{f:Nat->α}(ht:tarr P t=some (N,E))(hE:z3p P E=some (true,sz))(h:Ev s x (agg (arr N e f)))(hi:Ev s i (iv k m))
  (he:∀x,(e x).length=sz) (h0:0<=m) (h1:m<N):OpQ C ⟨dst,.index t x i,ty,pos,after,guard⟩ s (agg (e (f m.toNat))):=
 .val λa r w hs=>by
  have h2:=hi a r w hs;simp only[iv,eqv] at h2;obtain⟨vs,hx,hh⟩:=h a r w hs;refine⟨.agg (vs.extract (m.toNat*sz) (m.toNat*sz+sz)),by simp only[execOp,Instr.index,hx,h2,w06,asIntOf,w0g,w05,run_underlying (ziu ht),if_pos (And.intro h0 h1),z68 w hE,ztw w hE],_,rfl,?_⟩;have:=hh.extract (m.toNat*sz) sz
  rwa [zoi he (by omega)] at this
theorem y3o[Dr]{α:Type}{t E:TypeId}{N:Nat}{x i:Operand}{k:IntKind}{m:Int}{e:α->List VP}{f:Nat->α}{A:VP}(ht:tarr P t=some (N,E))(hE:z3p P E=some (false,1))(h:Ev s x (agg (arr N e f)))(hi:Ev s i (iv k m))
  (he:∀x,(e x).length=1) (hA:e (f m.toNat) = [A]) (h0:0<=m) (h1:m<N):OpQ C ⟨dst,.index t x i,ty,pos,after,guard⟩ s A:=
 .val λa r w hs=>by
  have h2:=hi a r w hs;simp only[iv,eqv] at h2;obtain⟨vs,hx,hh⟩:=h a r w hs;have hat:=zoi (e:=e) (f:=f) (N:=N) (k:=m.toNat) he (by omega);have hj :(arr N e f)[m.toNat*1]? = some A:=by
   have :(((arr N e f).drop (m.toNat*1)).take 1)[0]? = some A:=by rw[hat,hA];rfl
   rw[w0o,if_pos (by decide),w1v] at this;simpa using this
  obtain⟨u,hu,hAu,_⟩:=hh.2 _ A hj;have hp:=zh9 (vs:=vs) (off:=m.toNat*1) (u:=u) w hE (by simpa using hu);exact⟨u,by simp only[execOp,Instr.index,hx,h2,w06,asIntOf,w0g,w05,run_underlying (ziu ht),if_pos (And.intro h0 h1),z68 w hE,hp],hAu⟩
end parts
section equal
variable{P:Program}
end equal
end Px
end
section
namespace Px
open Go Go.RowKit Go.ChangeShapes Go.WideShapes Go.ChangeAt
theorem zhe{H:Type}{enc:TypeId×Value->H}{P:Program}(hl:laidOutB P=true){W W':World}(hb:Below W.heap.size W W'){sp:Nat->Bool}: ∀{ts:List TypeId}{vs:List Value}{ds:List (DataW H)}{ps:List MemPlace},
  (∀t∈ts,P.readableRec t=true/\t<P.types.size)->DataW.TrodAll enc P W 0 (λ_=>true) true ts vs ds ps->(∀p∈ps,p.block<W.heap.size)->(∀p∈ps,sp p.block=true)->DataW.TrodAll enc P W' 0 sp true ts vs ds ps
 | [],[],[],_,_,h,_,_=>h
 |t::ts,v::vs,d::ds,ps,ht,⟨p,q,h1,h2,e⟩,hlt,hs=>
  ⟨p,q,WideElems.Trod_stays hl (ht t (w0m)).1 (ht t (w0m)).2 h1 (λx hx=>hb.same (hlt x (by rw[e];exact w1g _ hx))) (λx hx=>hs x (by rw[e];exact w1g _ hx)),
   zhe hl hb (λt' ht'=>ht t' (w09 _ ht')) h2 (λx hx=>hlt x (by rw[e];exact w1j _ hx)) (λx hx=>hs x (by rw[e];exact w1j _ hx)),e⟩
 | [],_::_,_,_,_,h,_,_=>h.elim
 | [],[],_::_,_,_,h,_,_=>h.elim
 |_::_,[],_,_,_,h,_,_=>h.elim
 |_::_,_::_,[],_,_,h,_,_=>h.elim
theorem y83{H:Type}{enc:TypeId×Value->H}{P:Program}{f:Func}{s:ChangeSpec}{apart fresh handsOn again:Bool}{W W':World}{args:Array Value}{ds:List (DataW H)}{before:List MemPlace}{tb:TypeId}
  (hW:DataW.Whole enc P f.params.toList s.vars apart W args.toList ds [] before) (hsv:s.vars = []) (hres :(s.fn H (ds++[])).results = [.lit (.bool true)]) (harg :(s.fn H (ds++[])).args=ds) (hvar :(s.fn H (ds++[])).vars = [])
  (hrt:f.resultTypes = #[tb]) (htb:P.underlying tb=some .bool) (hl:laidOutB P=true) (hread:∀t∈f.params.toList,P.readableRec t=true/\t<P.types.size) (hb:Below W.heap.size W W') :
  s.post enc P f apart fresh handsOn again W args (.bool true) W':=by
 have hlt:∀p∈before,p.block<W.heap.size:=λp hp=>hW.lt p hp
 have hW0:=hW;obtain⟨p,q,hA,hV,he,hz,hn⟩:=hW;rw[hsv] at hV;obtain⟨_,rfl⟩:=trodVars_none hV;rw[w0e] at he;subst he;have hres':∀(b:Nat)(sp:Nat->Bool)(hd:Bool),DataW.TrodAll enc P W' b sp hd f.resultTypes.toList ((Value.bool true).resultList f.resultTypes.size) (s.fn H (ds++[])).results []:=λb sp hd=>by rw[hres,hrt];exact trodAll_mk1 (shut_bool htb _)
 have hargs:∀sp:Nat->Bool,(∀p∈before,sp p.block=true)->DataW.TrodAll enc P W' 0 sp true f.params.toList args.toList (s.fn H (ds++[])).args before:=λsp hs=>by rw[harg];exact zhe hl hb hread hA hlt hs
 have hvars:∀sp:Nat->Bool,DataW.TrodVars enc P W' sp s.vars (s.fn H (ds++[])).vars []:=λsp=>by rw[hsv,hvar];rfl
 have hold:∀p∈before,(λb=>decide (b<W.heap.size)) p.block=true:=λp hp=>by simpa using hlt p hp
 refine⟨ds,[],before,[],before,[],hW0,hres' _ _ _,hargs _ hold,hvars _,World.keptBut_mono (λp hp=>⟨hp,by simp[hp]⟩) (hb.frame (·∈before)),λ_=>?_⟩;refine⟨ok_one (by rw[hrt]) rfl (okWide_bool_mk htb _),_,_,([]++before)++[],⟨[]++before,[],trodAll_append (hargs _ (λ_ _=>rfl)) (hres' _ _ _),hvars _,rfl,?_,?_⟩,?_⟩
 .intro b off hp;have hp':MemPlace.cell b off∈before:=by simpa using hp
  rw[hb.frozen (hlt _ hp')];exact hz b off hp'
 .intro ha;simpa using hn ha
 .intro p hp _;simpa using hp
def Opn(P:Program){α:Type}(t:TypeId)(n:Nat)(e:α->List VP)(R:α->Prop):Prop:=
 ∀(H:Type)(enc:TypeId×Value->H)(w:World)(sp:Nat->Bool)(held:Bool)(fuel:Nat)(cs:List Value)(x:DataW H×List MemPlace),
  DataW.trod enc P w 0 sp held fuel t cs=some x->cs.length=n/\∃y:α,R y/\zo (λb=>b<w.heap.size) w (e y) cs
def RI(k:IntKind)(n:Int):Prop:=k.min<=n/\n<=k.max
theorem zol{r:Nat->Prop}{w:World}{A:VP}{v:Value}(h:A.h r w v)(h1:v.oneCell'=true):zo r w [A] [v]:=⟨rfl,λj B hj=>by
 cases j with
 |zero=>simp at hj;subst hj;exact⟨v,rfl,h,h1⟩
 |succ j=>simp at hj⟩
theorem Opn.int{P:Program}{t:TypeId}{k:IntKind}(ht:P.underlying t=some (.int k)):Opn P t 1 (λn=>[iv k n]) (RI k):=by intro H enc w sp held fuel cs x h;obtain⟨n,rfl,_,hw⟩:=DataW.trod_int ht h;simp only[Lit.wf,w02,decide_eq_true_eq] at hw;exact⟨rfl,n,hw,zol rfl rfl⟩
theorem Opn.bool{P:Program}{t:TypeId}(ht:P.underlying t=some .bool):Opn P t 1 (λb=>[bv b]) (λ_=>True):=by intro H enc w sp held fuel cs x h;obtain⟨n,rfl,_⟩:=DataW.trod_bool ht h;exact⟨rfl,n,trivial,zol rfl rfl⟩
theorem Opn.string{P:Program}{t:TypeId}(ht:P.underlying t=some .string):Opn P t 1 (λs=>[eqv (.string s)]) (λs=>s.size<=maxLen):=by intro H enc w sp held fuel cs x h;obtain⟨n,rfl,_,hs⟩:=DataW.trod_string ht h;exact⟨rfl,n,hs,zol rfl rfl⟩
theorem y2l{α:Type}{Q:Nat->α->Prop}: ∀(n:Nat),(∀i,i<n->∃y,Q i y)->∃l:List α,l.length=n/\∀i y,l[i]? = some y->Q i y
 |0,_=>⟨[],rfl,λi y h=>by simp at h⟩
 |n+1,h=>by
  obtain⟨l,hl,hq⟩:=y2l n (λi hi=>h i (by omega));obtain⟨y,hy⟩:=h n (by omega);refine⟨l++[y],by simp[hl],λi z hz=>?_⟩;rw[w23] at hz;split at hz
  .exact hq i z hz
  .rename_i hge;have:i=n:=by have:=(w04.1 hz).1;simp at this;omega
   subst this;simp[hl] at hz;subst hz;exact hy
def RL{α:Type}(R:α->Prop)(l:List α):Prop:=(∀y∈l,R y)/\l.length<=maxLen
theorem Opn.slice{P:Program}{α:Type}{t E:TypeId}{n:Nat}{e:α->List VP}{R:α->Prop}(ht:P.underlying t=some (.slice E))(hn:P.cellsOf E=n)(hp:0<n)(he:Opn P E n e R):
  Opn P t 1 (λl=>[ro e n l]) (RL R):=by
 intro H enc w sp held fuel cs x h;rcases DataW.trod_slice ht h with⟨rfl,_⟩|⟨a,len,cap,zv4,rest,m,rfl,rfl,_,_,hle,hcap,hlen,hel,_,_⟩
 .exact⟨rfl,[],⟨by simp,by simp⟩,zol (.inl ⟨⟨none,0,rfl⟩,rfl⟩) rfl⟩
 .have hat:∀i,i<len->∃cs,cs.length=n/\(∃y,R y/\zo (λb=>b<w.heap.size) w (e y) cs)/\∀j,j<n->w.cell? ((a.add (i*n)).add j)=cs[j]?:=by intro i hi;have hE:=hel i hi;rw[w0a (by omega),hn] at hE;simp only[w4d] at hE;obtain⟨cs,hc,hy⟩:=hE;obtain⟨hcl,y,hR,hcells⟩:=he _ _ _ _ _ _ _ _ hy;simp only[World.cells?,w3q,if_true] at hc;exact⟨cs,hcl,⟨y,hR,hcells⟩,λj hj=>by simpa using mapM_some_get hc j j (by simp[hj])⟩
  by_cases h0:len=0
  .subst h0;exact⟨rfl,[],⟨by simp,by simp⟩,zol (.inl ⟨⟨_,_,rfl⟩,rfl⟩) rfl⟩
  have hspot:a.spot=none:=by obtain⟨cs,hcl,_,hget⟩:=hat 0 (by omega);have:=hget 0 hp;rw[w0a (by omega)] at this;simpa[Addr.add] using World.cell?_spot this
  obtain⟨b,o,s⟩:=a;simp only at hspot;subst hspot;have hone:∀i,i<len->∃y,R y/\b<w.heap.size/\z3r w (λb=>b<w.heap.size) b (o+i*n) (e y):=by
   intro i hi;obtain⟨cs,hcl,⟨y,hR,hcells⟩,hget⟩:=hat i hi;have hget':∀j,j<n->w.cell? ⟨b,o+i*n+j,none⟩=cs[j]?:=λj hj=>by
    have:=hget j hj
    rwa [Addr.add_lit,Addr.add_lit] at this
   refine⟨y,hR,?_,λj A hj=>?_⟩
   .have h1:=hget' 0 hp;rw[w0a (by omega)] at h1;unfold World.cell? at h1;split at h1
    .rename_i hb;exact(w20.1 hb).1
    .cases h1
   .obtain⟨u,hu,hA,h1⟩:=hcells.2 j A hj;have hjn:j<n:=by have:=(w04.1 hu).1;omega
    exact⟨u,by rw[hget' j hjn,hu],hA,h1⟩
  obtain⟨l,hll,hlq⟩:=y2l len hone;refine⟨rfl,l,⟨λy hy=>?_,by omega⟩,zol ?_ rfl⟩
  .obtain⟨i,hi⟩:=w41 hy;exact(hlq i y hi).1
  .exact .inr ⟨b,o,cap-l.length,by rw[hll,w2j hle],λi x hi=>⟨(hlq i x hi).2.1,(hlq i x hi).2.2⟩⟩
def zro(P:Program)(t:TypeId):Option (List (TypeId×Nat×Nat)):=match P.underlying t with
 |some (.struct fs)=>some (fs.toList.map λf=>(f.type,f.offset,P.cellsOf f.type))
 |_=>none
theorem zwe{H:Type}{enc:TypeId×Value->H}{P:Program}{w:World}{sp:Nat->Bool}{held:Bool}{fuel:Nat}{t:TypeId}{cs:List Value}{x:DataW H×List MemPlace}{L:List (TypeId×Nat×Nat)}
  (h:zro P t=some L) (hd:DataW.trod enc P w 0 sp held fuel t cs=some x):cs.length=P.cellsOf t/\∃n,∀(i ty off m:Nat),L[i]? = some (ty,off,m)->∃y,DataW.trod enc P w 0 sp held n ty ((cs.drop off).take m)=some y:=by
 unfold zro at h;split at h
 .rename_i fs hu;simp only[w00] at h;subst h;obtain⟨xs,n,rfl,_,hl,hn,hf⟩:=DataW.trod_struct hu hd;refine⟨hl,n,λi ty off m hi=>?_⟩;rw[w12,w1u] at hi;obtain⟨f,hfi,he⟩:=hi;simp only[w0b] at he;obtain⟨rfl,rfl,rfl⟩:=he;have hfi':fs[i]? = some f:=by simpa using hfi
  have hlt:i<xs.length:=by have:=(w20.1 hfi').1;omega
  exact⟨_,(hf i f hfi').trans (w0a hlt)⟩
 .cases h
theorem zo.tile{r:Nat->Prop}{w:World}{A B:List VP}{cs:List Value}{off m:Nat}(c:zo r w A ((cs.drop off).take m))(d:zo r w B (cs.drop (off+m))):zo r w (A++B) (cs.drop off):=by
 have:=c.append d
 rwa [<- w3h,w25] at this
theorem zo.tile0{r:Nat->Prop}{w:World}{cs:List Value}{n:Nat}(h:cs.length=n):zo r w [] (cs.drop n):=by rw[w2q (by omega)];exact⟨rfl,λj A hj=>by simp at hj⟩
theorem y2j[Dr]{P:Program}{f:FuncId}{As:List VP}{vs:Array Value}{W:World}(h:zdq P f As (λx news=>x=bv true/\news = []))(hl:vs.size=As.length)
  (hA:∀(i:Nat)(A:VP),As[i]? = some A->A.h (λb=>b<W.heap.size) W (vs.getD i undef)):Calls P f vs W (λe W'=>e = .returned (.bool true)/\Below W.heap.size W W'):=by
 refine(h (λb=>b<W.heap.size) W vs (λ_ hb=>hb) hl hA).mono ?_;rintro e w' ⟨v,x,news,r',S',rfl,_,hw,hx,rfl,rfl⟩;have hx':v = .bool true:=hx;exact⟨by rw[hx'],hw.below.toBelow⟩
end Px
end
section
namespace Px
open Go Go.RowKit
def y1v(s:z8z):List Nat->Option (List (Nat×VP))
 | []=>some []
 |k::ks=>match s k,y1v s ks with
  |some A,some L=>some ((k,A)::L)
  |_,_=>none
theorem zxh{s:z8z}: ∀{ks:List Nat}{L:List (Nat×VP)},y1v s ks=some L->zur s L
 | [],L,h=>by cases h;trivial
 |k::ks,L,h=>by
  unfold y1v at h;cases hk:s k with
  |none=>rw[hk] at h;cases h
  |some A=>
   cases hr:y1v s ks with
   |none=>rw[hk,hr] at h;cases h
   |some L'=>rw[hk,hr] at h;cases h;exact⟨⟨A,hk,Ent.refl⟩,zxh hr⟩
theorem sl{s:z8z}{L:List (Nat×VP)}(h:y1v s (L.map (·.1))=some L):zur s L:=zxh h
section short
variable{P:Program}{C:Cx P}{s:St}{Q:Exit->Act->World->Prop}{x y c:Code}{e:Exit}{ops:Array Oper}{i:Nat}{rest:List Nat}{o:Oper}
theorem cs[Dr](h:zyk C x s (Exit.then (y.wp P Q) Q)):zyk C (.seq x y) s Q:=zyk.seq h
end short
end Px
end
