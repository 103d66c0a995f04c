/- The forms in which the read-out proofs use the laws. Conditions: none. -/
import Derived.Test.YtbfoamlmlbmmnaaPi
namespace Px
open Go Go.RowKit
set_option linter.unusedSimpArgs false
set_option linter.unusedVariables false

theorem bne_true {g : Bool} (h : g = false) : ¬ (g = true) := by rw [h]; exact Bool.false_ne_true
def ObjsSel (objs : List HP) : List Nat → List HP → Prop
  | [], [] => True
  | i :: is, B :: O => (∃ A, objs[i]? = some A ∧ EntH A B) ∧ ObjsSel objs is O
  | _, _ => False
theorem ObjsSel.at {objs : List HP} : ∀ {is : List Nat} {O : List HP}, ObjsSel objs is O → is.length = O.length ∧ ∀ (k : Nat) (B : HP), O[k]? = some B → ∃ i A, is[k]? = some i ∧ objs[i]? = some A ∧ EntH A B
  | [], [], _ => ⟨rfl, fun k B h => by simp at h⟩
  | i :: is, B :: O, ⟨⟨A, hA, he⟩, hr⟩ => by
    obtain ⟨h1, h2⟩ := hr.at
    refine ⟨by simp [h1], fun k D hk => ?_⟩
    cases k with
    | zero => simp at hk; subst hk; exact ⟨i, A, rfl, hA, he⟩
    | succ k => simpa using h2 k D (by simpa using hk)
  | [], _ :: _, h => h.elim
  | _ :: _, [], h => h.elim
theorem nodup_at : ∀ {l : List Nat}, l.Nodup → ∀ {i j x : Nat}, l[i]? = some x → l[j]? = some x → i = j
  | [], _, _, _, _, h, _ => by simp at h
  | y :: l, h, 0, 0, _, _, _ => rfl
  | y :: l, h, 0, j + 1, x, h1, h2 => by
    simp at h1 h2
    subst h1
    exact absurd (List.mem_of_getElem? h2) (List.nodup_cons.1 h).1
  | y :: l, h, i + 1, 0, x, h1, h2 => by
    simp at h1 h2
    subst h2
    exact absurd (List.mem_of_getElem? h1) (List.nodup_cons.1 h).1
  | y :: l, h, i + 1, j + 1, x, h1, h2 => by
    have := nodup_at (List.nodup_cons.1 h).2 (i := i) (j := j) (by simpa using h1) (by simpa using h2)
    omega
theorem WInv.sel {w0 w : World} {base : Nat} {objs O : List HP} {is : List Nat} {r : Nat → Prop} {S : Nat → Nat → Prop} (h : WInv w0 base objs r S w) (hO : ObjsSel objs is O) (hn : nodupB is = true) :
    WInv w0 base O r (fun k b => ∃ i, is[k]? = some i ∧ S i b) w where
  below := h.below
  size := h.size
  obj := fun k B hk => by
    obtain ⟨i, A, hi, hA, he⟩ := hO.at.2 k B hk
    have : (fun b => ∃ j, is[k]? = some j ∧ S j b) = S i := by
      funext b
      rw [hi]
      exact propext ⟨fun ⟨j, hj, hb⟩ => by simp at hj; subst hj; exact hb, fun hb => ⟨i, rfl, hb⟩⟩
    rw [this]
    exact he _ _ _ (h.obj i A hA)
  own := fun k b ⟨i, hi, hb⟩ => by
    obtain ⟨_, h2, h3, h4⟩ := h.own i b hb
    have := (List.getElem?_eq_some_iff.1 hi).1
    exact ⟨by rw [← hO.at.1]; exact this, h2, h3, h4⟩
  apart := fun k l b ⟨i, hi, hb⟩ ⟨j, hj, hb'⟩ => by
    have := h.apart i j b hb hb'
    subst this
    exact nodup_at (nodupB_iff hn) hi hj
  old := h.old

section atx
variable {P : Program} {C : Cx P} {s : St} {Q : Exit → Act → World → Prop} {x y c : Code} {e : Exit}
theorem Sat.sel {a : Act} {w : World} {L : List (Nat × VP)} {is : List Nat} {O : List HP} (hL : SlotsLe s.slots L) (hO : ObjsSel s.objs is O) (hn : nodupB is = true) (h : Sat C s a w) : Sat C ⟨Slots.of L, O⟩ a w := by
  obtain ⟨hd, hnn, r, S, hw, he, hs⟩ := h
  exact ⟨hd, hnn, r, _, hw.sel hO hn, he, hL.ok hs⟩
theorem AtX.le' (L : List (Nat × VP)) (is : List Nat) (O : List HP) (hL : SlotsLe s.slots L) (hO : ObjsSel s.objs is O) (hn : nodupB is = true) (h : AtX C ⟨Slots.of L, O⟩ e Q) : AtX C s e Q :=
  fun a w hs => h a w (hs.sel hL hO hn)
theorem CodeT.le' (L : List (Nat × VP)) (is : List Nat) (O : List HP) (hL : SlotsLe s.slots L) (hO : ObjsSel s.objs is O) (hn : nodupB is = true) (h : CodeT C c ⟨Slots.of L, O⟩ Q) : CodeT C c s Q :=
  fun a w hs => h a w (hs.sel hL hO hn)
theorem AtX.to {L : List (Nat × VP)} {O : List HP} (h : AtX C ⟨Slots.of L, O⟩ e Q) (is : List Nat) (hL : SlotsLe s.slots L) (hO : ObjsSel s.objs is O) (hn : nodupB is = true) : AtX C s e Q :=
  fun a w hs => h a w (hs.sel hL hO hn)
theorem CodeT.to {L : List (Nat × VP)} {O : List HP} (h : CodeT C c ⟨Slots.of L, O⟩ Q) (is : List Nat) (hL : SlotsLe s.slots L) (hO : ObjsSel s.objs is O) (hn : nodupB is = true) : CodeT C c s Q :=
  fun a w hs => h a w (hs.sel hL hO hn)
/-- The ways out of a piece of code meet again. -/
theorem CodeT.join {σ ρ : Type} (J : σ → Option ρ) (r : ρ) (st : σ → St) (hj : ∀ z, J z = some r → AtX C (st z) .normal Q)
    (hx : (∀ z, J z = some r → AtX C (st z) .normal Q) → CodeT C c s Q) : CodeT C c s Q := hx hj
variable {fn : Func} {K : VP → List HP → Prop}
theorem AtX.ret' (x : VP) (h : ResOK C s fn x) (is : List Nat) (O : List HP) (hO : ObjsSel s.objs is O) (hn : nodupB is = true) (k : K x O) : AtX C s .ret (retQ C fn K) := by
  rintro a w ⟨hd, hnn, r, S, hw, he, hs⟩
  obtain ⟨v, hv, hx⟩ := h a r S w hw hs
  exact ⟨hd, v, hv, v, x, O, r, _, rfl, he, hw.sel hO hn, hx, k⟩
theorem AtX.fall' (x : VP) (h : ResOK C s fn x) (is : List Nat) (O : List HP) (hO : ObjsSel s.objs is O) (hn : nodupB is = true) (k : K x O) : AtX C s .normal (retQ C fn K) := by
  rintro a w ⟨hd, hnn, r, S, hw, he, hs⟩
  obtain ⟨v, hv, hx⟩ := h a r S w hw hs
  exact ⟨hd, v, hv, v, x, O, r, _, rfl, he, hw.sel hO hn, hx, k⟩
end atx

def CapsOK (a : Act) : List Operand → List Value → Prop
  | [], [] => True
  | o :: os, v :: vs => a.eval o = v ∧ CapsOK a os vs
  | _, _ => False
theorem CapsOK.map {a : Act} : ∀ {os : List Operand} {vs : List Value}, CapsOK a os vs → os.map a.eval = vs
  | [], [], _ => rfl
  | o :: os, v :: vs, ⟨h, hr⟩ => by rw [List.map_cons, h, CapsOK.map hr]
  | [], _ :: _, h => h.elim
  | _ :: _, [], h => h.elim
theorem capN {a : Act} {os : Array Operand} {vs : Array Value} (h : CapsOK a os.toList vs.toList) : os.map a.eval = vs := by
  apply Array.ext'
  rw [Array.toList_map]
  exact h.map

def AllFlat : List VP → Prop
  | [] => True
  | A :: l => A.flat ∧ AllFlat l
theorem AllFlat.mem : ∀ {l : List VP}, AllFlat l → ∀ A ∈ l, A.flat
  | _ :: _, ⟨h, _⟩, _, .head _ => h
  | _ :: _, ⟨_, h⟩, A, .tail _ hm => AllFlat.mem h A hm
theorem flat_tup' {xs : List VP} (h : AllFlat xs) : (tupv xs).flat := flat_tup h.mem
theorem flat_agg' {xs : List VP} (h : AllFlat xs) : (agg xs).flat := flat_agg h.mem
theorem flat_row' {α : Type} {E : TypeId} {e : α → List VP} {sz : Nat} {l : List α} {sv : Value} (h : ∀ x, AllFlat (e x)) : (row E e sz l sv).flat := flat_row fun x => (h x).mem
def AllFlatH : List HP → Prop
  | [] => True
  | A :: l => A.flat ∧ AllFlatH l
theorem allFlatH : ∀ {l : List HP}, AllFlatH l → ∀ A ∈ l, A.flat
  | _ :: _, ⟨h, _⟩, _, .head _ => h
  | _ :: _, ⟨_, h⟩, A, .tail _ hm => allFlatH h A hm

theorem OpT.of_q {P : Program} {C : Cx P} {o : Oper} {s : St} {x : VP} {K : VP → List HP → Prop} (h : OpQ C o s x) (k : K x s.objs) : OpT C o s K :=
  h.mono fun y objs ⟨hy, ho⟩ => by subst hy; subst ho; exact k

/-- A slice of the call's own as the value of a cell. -/
theorem row_one {α : Type} {E : TypeId} {e : α → List VP} {sz : Nat} {l : List α} {sv : Value} {S r : Nat → Prop} {w : World} (h : (row E e sz l sv).h S r w) : sv.oneCell' = true := by
  rcases h with ⟨rfl, _⟩ | ⟨g, cap, cur, rfl, _⟩ <;> rfl

/-- A pointer to the cells of a part. -/
theorem Pt.ofArrF {P : Program} {C : Cx P} {s : St} {x : Operand} {α : Type} (i : Nat) {b off : Nat} {T : TypeId} {pre post : List VP} {N sz k fo : Nat} {e : α → List VP} {f : Nat → α} {cs : List VP} (h : Ev s x (eqv (.pointer (some ⟨b, off, none⟩))))
    (ho : s.objs[i]? = some (Px.box b T (pre ++ Px.arr N e f ++ post))) (he : ∀ x, (e x).length = sz) (hoff : off = pre.length + k * sz + fo) (hk : k < N) (hc : (e (f k)).drop fo = cs) : Pt C s x cs := by
  intro a r S w hw hs
  obtain ⟨hS, cur, hcur, hh⟩ := hw.obj i _ ho
  refine ⟨b, off, h a r w hs, ?_⟩
  have hrd := (hh.rd hcur).drop (pre.length + k * sz)
  have hl := arr_len (N := N) (f := f) he
  have hle : (k + 1) * sz ≤ N * sz := Nat.mul_le_mul_right _ hk
  rw [Nat.add_mul] at hle
  have hrd2 := (hrd.take sz).drop fo
  rw [List.append_assoc, List.drop_length_add_append, List.drop_append_of_le_length (by omega), List.take_append_of_le_length (by rw [List.length_drop]; omega), arr_at he hk, hc, Nat.zero_add, ← hoff] at hrd2
  exact hrd2

section ops
variable {P : Program} {C : Cx P} {s : St} {dst : Option Tmp} {ty : TypeId} {pos : String} {after : Array Edge} {guard : Option (Nat × Bool)} {K : VP → List HP → Prop}
theorem opFieldRT {t : TypeId} {f off : Nat} {x : Operand} {cs cs' : List VP} (hf : foff P t f = some off) (h : Ev s x (rop cs)) (n : Nat) (hc : (cs.drop off).take n = cs') :
    OpQ C ⟨dst, .fieldAddr t x f, ty, pos, after, guard⟩ s (rop cs') :=
  .val fun a r w hs => by
    obtain ⟨b, o, hx, hr, hh⟩ := h a r w hs
    exact ⟨_, by simp [execOp, hx, run_fieldAt w hf], b, o + off, rfl, hr, hc ▸ (hh.drop off).take n⟩
def byteAt (s : ByteArray) (i : Int) : Int := (s.data.toList.getD i.toNat 0).toNat
theorem opIndexS {t : TypeId} {x i : Operand} {k : IntKind} {m : Int} {bs : ByteArray} {n : Nat} (ht : P.underlying t = some .string) (h : Ev s x (eqv (.string bs))) (hi : Ev s i (iv k m)) (hn : bs.size = n) (h0 : 0 ≤ m) (h1 : m < n) :
    OpQ C ⟨dst, .index t x i, ty, pos, after, guard⟩ s (iv .u8 (byteAt bs m)) :=
  .val fun a r w hs => by
    have h2 := hi a r w hs
    have h3 := h a r w hs
    simp only [iv, eqv] at h2 h3
    have hlt : m.toNat < bs.size := by omega
    have hb : bs[m.toNat]? = some bs[m.toNat] := by simp [hlt]
    have hv : ((bs[m.toNat]).toNat : Int) = byteAt bs m := by
      have hlt' : m.toNat < bs.data.toList.length := by simpa using hlt
      simp only [byteAt, List.getD, List.getElem?_eq_getElem hlt', Option.getD_some]
      rfl
    refine ⟨_, ?_, rfl⟩
    simp only [execOp, Instr.index, h2, h3, Sem.run_bind, asIntOf, Sem.run_pure, Result.andThen_ok, run_underlying ht, if_pos h0, hb, hv]
theorem opShlC {t t' : TypeId} {x y : Operand} {k k' : IntKind} {m n : Int} (p : Int) (hp : (2 : Int) ^ (min n.toNat k.bits) = p) (hx : Ev s x (iv k m)) (hy : Ev s y (iv k' n)) (h0 : 0 ≤ n) :
    OpQ C ⟨dst, .binOp .shl t x y t', ty, pos, after, guard⟩ s (iv k (k.wrap (m * p))) := hp ▸ opShl hx hy h0
theorem opShrC {t t' : TypeId} {x y : Operand} {k k' : IntKind} {m n : Int} (p : Int) (hp : (2 : Int) ^ (min n.toNat k.bits) = p) (hx : Ev s x (iv k m)) (hy : Ev s y (iv k' n)) (h0 : 0 ≤ n) :
    OpQ C ⟨dst, .binOp .shr t x y t', ty, pos, after, guard⟩ s (iv k (m.fdiv p)) := hp ▸ opShr hx hy h0
theorem opNilCheck {x : Operand} {b o : Nat} (h : Ev s x (eqv (.pointer (some ⟨b, o, none⟩)))) : OpQ C ⟨dst, .nilCheck x, ty, pos, after, guard⟩ s (eqv (.pointer (some ⟨b, o, none⟩))) :=
  .val fun a r w hs => ⟨_, by have h1 := h a r w hs; simp only [eqv] at h1; simp only [execOp, h1]; rfl, rfl⟩
def min2 (x y : Int) : Int := if y < x then y else x
def max2 (x y : Int) : Int := if x < y then y else x
def IntOps (s : St) (k : IntKind) : List Operand → List Int → Prop
  | [], [] => True
  | o :: os, n :: ns => Ev s o (iv k n) ∧ IntOps s k os ns
  | _, _ => False
theorem IntOps.map {k : IntKind} {a : Act} {r : Nat → Prop} {w : World} (hs : SlotsOK s.slots a r w) : ∀ {os : List Operand} {ns : List Int}, IntOps s k os ns → os.map a.eval = ns.map (.int k)
  | [], [], _ => rfl
  | o :: os, n :: ns, ⟨h, hr⟩ => by
    have h1 := h a r w hs
    simp only [iv, eqv] at h1
    rw [List.map_cons, List.map_cons, h1, IntOps.map hs hr]
  | [], _ :: _, h => h.elim
  | _ :: _, [], h => h.elim
theorem run_min {P : Program} {k : IntKind} (w : World) : ∀ (ns : List Int) (m : Int), ((ns.map (Value.int k)).foldlM Builtin.min2 (.int k m)).run P w = .ok (.int k (ns.foldl min2 m)) w
  | [], m => rfl
  | n :: ns, m => by
    rw [List.map_cons, List.foldlM_cons, List.foldl_cons]
    simp only [Sem.run_bind, Builtin.min2, Sem.run_pure, Result.andThen_ok]
    exact run_min w ns _
theorem run_max {P : Program} {k : IntKind} (w : World) : ∀ (ns : List Int) (m : Int), ((ns.map (Value.int k)).foldlM Builtin.max2 (.int k m)).run P w = .ok (.int k (ns.foldl max2 m)) w
  | [], m => rfl
  | n :: ns, m => by
    rw [List.map_cons, List.foldlM_cons, List.foldl_cons]
    have h1 : (Builtin.max2 (.int k m) (.int k n)).run P w = .ok (.int k (max2 m n)) w := by
      simp only [Builtin.max2, Sem.run_pure, max2]
    simp only [Sem.run_bind, h1, Result.andThen_ok]
    exact run_max w ns _
theorem opMin {x : Operand} {xs : List Operand} {ts : Array TypeId} {k : IntKind} {m : Int} {n : List Int} (hx : Ev s x (iv k m)) (hr : IntOps s k xs n) :
    OpQ C ⟨dst, .call { callee := .builtin .min, args := ⟨x :: xs⟩, argTypes := ts }, ty, pos, after, guard⟩ s (iv k (n.foldl min2 m)) :=
  .val fun a r w hs => by
    have h1 := hx a r w hs
    have h2 := hr.map hs
    simp only [iv, eqv] at h1
    refine ⟨_, ?_, rfl⟩
    have h3 : (Array.map a.eval ⟨x :: xs⟩).toList = .int k m :: n.map (.int k) := by simp [h1, h2]
    simp [execOp, resolve, invoke, builtin, Builtin.min_, h3, run_min, h1, h2]
theorem opMax {x : Operand} {xs : List Operand} {ts : Array TypeId} {k : IntKind} {m : Int} {n : List Int} (hx : Ev s x (iv k m)) (hr : IntOps s k xs n) :
    OpQ C ⟨dst, .call { callee := .builtin .max, args := ⟨x :: xs⟩, argTypes := ts }, ty, pos, after, guard⟩ s (iv k (n.foldl max2 m)) :=
  .val fun a r w hs => by
    have h1 := hx a r w hs
    have h2 := hr.map hs
    simp only [iv, eqv] at h1
    refine ⟨_, ?_, rfl⟩
    have h3 : (Array.map a.eval ⟨x :: xs⟩).toList = .int k m :: n.map (.int k) := by simp [h1, h2]
    simp [execOp, resolve, invoke, builtin, Builtin.max_, h3, run_max, h1, h2]
/-- An element of an array that is only read. -/
theorem opIndexAF {α : Type} {t : TypeId} {len esz : Nat} {x i : Operand} {k : IntKind} {m : Int} {e : α → List VP} {f : Nat → α} (ht : tidx P t = some (true, len, esz)) (h : Ev s x (rop ([] ++ arr len e f ++ []))) (hi : Ev s i (iv k m))
    (he : ∀ x, (e x).length = esz) (h0 : 0 ≤ m) (h1 : m < len) : OpQ C ⟨dst, .indexAddr t x i, ty, pos, after, guard⟩ s (rop (e (f m.toNat))) :=
  .val fun a r w hs => by
    have h2 := hi a r w hs
    simp only [iv, eqv] at h2
    obtain ⟨b, o, hx, hr, hh⟩ := h a r w hs
    refine ⟨_, by simp only [execOp, hx, h2, Sem.run_bind, run_indexArr w ht h0 h1]; rfl, b, _, rfl, hr, ?_⟩
    have := (hh.drop (m.toNat * esz)).take esz
    rw [List.nil_append, List.append_nil, arr_at he (by omega)] at this
    exact this
end ops

abbrev eI8 (x : Int) : List VP := [iv .i8 x]
abbrev eI16 (x : Int) : List VP := [iv .i16 x]
abbrev eI32 (x : Int) : List VP := [iv .i32 x]
abbrev eI64 (x : Int) : List VP := [iv .i64 x]
abbrev eU8 (x : Int) : List VP := [iv .u8 x]
abbrev eU16 (x : Int) : List VP := [iv .u16 x]
abbrev eU32 (x : Int) : List VP := [iv .u32 x]
abbrev eU64 (x : Int) : List VP := [iv .u64 x]
abbrev eB (x : Bool) : List VP := [bv x]
abbrev eS (x : ByteArray) : List VP := [eqv (.string x)]
theorem lI64 (x : Int) : (eI64 x).length = 1 := rfl
theorem lU64 (x : Int) : (eU64 x).length = 1 := rfl
theorem lU8 (x : Int) : (eU8 x).length = 1 := rfl
theorem lI32 (x : Int) : (eI32 x).length = 1 := rfl
theorem lB (x : Bool) : (eB x).length = 1 := rfl
theorem lS (x : ByteArray) : (eS x).length = 1 := rfl
instance : Inhabited ByteArray := ⟨⟨#[]⟩⟩
end Px
