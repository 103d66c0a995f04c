/- Operations that only yield a value: what is known of it. Conditions: none. -/
import Derived.Test.YtbfoamlmlbmmnaaPa
import Derived.Laws.Entries
import Derived.Laws.Cells
namespace Px
open Go Go.RowKit
set_option linter.unusedSimpArgs false
set_option linter.unusedVariables false

theorem CodeT.region' {P : Program} {C : Cx P} {s : St} {Q : Exit → Act → World → Prop} {id : Nat} {ops : Array Oper} (l : List Nat) (hl : List.range ops.size = l) (h : RunOps C ops l s Q) : CodeT C (.region id ops false) s Q :=
  .region (hl ▸ h)

/-- What is known of an operand. -/
def Ev (s : St) (x : Operand) (A : VP) : Prop := ∀ a ro w, SlotsOK s.slots a ro w → A.h ro w (a.eval x)
theorem Ev.tmp {s : St} {t : Nat} {A : VP} (h : s.slots t = some A) : Ev s (.tmp t) A := fun a ro w hs => hs t A h
theorem Ev.const {s : St} (v : Value) : Ev s (.const v) (eqv v) := fun _ _ _ _ => rfl
theorem Ev.func {s : St} (f : Nat) : Ev s (.func f) (eqv (.func (.func f) #[] #[])) := fun _ _ _ _ => rfl
theorem Ev.cnd {s : St} {x : Operand} {c : Prop} {A : VP} (h : Ev s x (cnd c A)) (hc : c) : Ev s x A := fun a ro w hs => (h a ro w hs).1 hc
theorem Ev.eq {s : St} {x : Operand} {u u' : Value} (h : Ev s x (eqv u)) (e : u = u') : Ev s x (eqv u') := e ▸ h

def topv : VP := ⟨fun _ _ _ => True, fun _ _ h => h⟩

section
variable {P : Program} {C : Cx P} {o : Oper} {s : St}
theorem OpQ.val {x : VP} (h : ∀ a ro w, SlotsOK s.slots a ro w → ∃ v, (execOp a.eval o).run P w = .ok (.value v) w ∧ x.h ro w v) : OpQ C o s x := by
  intro a w ro S Q hd hn hw hs
  obtain ⟨v, hr, hx⟩ := h a ro w hs
  unfold Oper.wp
  rw [hr, Oper.upon_value]
  exact ⟨v, ro, S, x, s.objs, rfl, Evo.refl _ _ _, hw, hx, rfl, rfl⟩
theorem OpQ.valO {x : VP} (h : ∀ a ro S w, WInv C.w0 C.base s.objs ro S w → SlotsOK s.slots a ro w → ∃ v, (execOp a.eval o).run P w = .ok (.value v) w ∧ x.h ro w v) : OpQ C o s x := by
  intro a w ro S Q hd hn hw hs
  obtain ⟨v, hr, hx⟩ := h a ro S w hw hs
  unfold Oper.wp
  rw [hr, Oper.upon_value]
  exact ⟨v, ro, S, x, s.objs, rfl, Evo.refl _ _ _, hw, hx, rfl, rfl⟩
end

section ops
variable {P : Program} {C : Cx P} {s : St} {dst : Option Tmp} {ty : TypeId} {pos : String} {after : Array Edge} {guard : Option (Nat × Bool)}

theorem opMove {x : Operand} {A : VP} (h : Ev s x A) : OpQ C ⟨dst, .move x, ty, pos, after, guard⟩ s A :=
  .val fun a ro w hs => ⟨_, rfl, h a ro w hs⟩
theorem opAssign {x : Operand} {A : VP} (h : Ev s x A) : OpQ C ⟨dst, .assign x, ty, pos, after, guard⟩ s A :=
  .val fun a ro w hs => ⟨_, rfl, h a ro w hs⟩
theorem opPick {c x y : Operand} {A : VP} {g : Bool} (hc : Ev s c (bv g)) (hx : g = true → Ev s x A) (hy : g = false → Ev s y A) : OpQ C ⟨dst, .pick c x y, ty, pos, after, guard⟩ s A :=
  .val fun a ro w hs => by
    have := hc a ro w hs
    simp only [bv, eqv] at this
    cases g
    · exact ⟨a.eval y, by simp [execOp, this, asBool], hy rfl a ro w hs⟩
    · exact ⟨a.eval x, by simp [execOp, this, asBool], hx rfl a ro w hs⟩
theorem opAnd {c x y : Operand} {g q : Bool} (hc : Ev s c (bv g)) (hx : g = true → Ev s x (bv q)) (hy : Ev s y (bv false)) : OpQ C ⟨dst, .pick c x y, ty, pos, after, guard⟩ s (bv (g && q)) :=
  opPick hc (fun h => by subst h; simpa using hx rfl) (fun h => by subst h; simpa using hy)
theorem opOr {c x y : Operand} {g q : Bool} (hc : Ev s c (bv g)) (hx : Ev s x (bv true)) (hy : g = false → Ev s y (bv q)) : OpQ C ⟨dst, .pick c x y, ty, pos, after, guard⟩ s (bv (g || q)) :=
  opPick hc (fun h => by subst h; simpa using hx) (fun h => by subst h; simpa using hy rfl)

/-- A binary operation on two integers of one kind. -/
theorem opInt {op : BinOp} {t t' : TypeId} {x y : Operand} {k : IntKind} {m n : Int} {A : VP} (hx : Ev s x (iv k m)) (hy : Ev s y (iv k n))
    (hr : ∀ w : World, ∃ v, (binOp op t (.int k m) (.int k n)).run P w = .ok v w ∧ ∀ ro w, A.h ro w v) : OpQ C ⟨dst, .binOp op t x y t', ty, pos, after, guard⟩ s A :=
  .val fun a ro w hs => by
    have h1 := hx a ro w hs
    have h2 := hy a ro w hs
    simp only [iv, eqv] at h1 h2
    obtain ⟨v, hv, hA⟩ := hr w
    refine ⟨v, ?_, hA ro w⟩
    have hg : (eqGuard op t x y (.int k m) (.int k n)).run P w = .ok () w := by
      cases op <;> simp [eqGuard]
    simp [execOp, h1, h2, hv, hg]

section int
variable {t t' : TypeId} {x y : Operand} {k : IntKind} {m n : Int} (hx : Ev s x (iv k m)) (hy : Ev s y (iv k n))
include hx hy
theorem opAdd : OpQ C ⟨dst, .binOp .add t x y t', ty, pos, after, guard⟩ s (iv k (k.wrap (m + n))) := opInt hx hy fun w => ⟨_, by simp only [binOp, Op.intArith, ne_eq, not_true_eq_false, if_false]; rfl, fun _ _ => rfl⟩
theorem opSub : OpQ C ⟨dst, .binOp .sub t x y t', ty, pos, after, guard⟩ s (iv k (k.wrap (m - n))) := opInt hx hy fun w => ⟨_, by simp only [binOp, Op.intArith, ne_eq, not_true_eq_false, if_false]; rfl, fun _ _ => rfl⟩
theorem opMul : OpQ C ⟨dst, .binOp .mul t x y t', ty, pos, after, guard⟩ s (iv k (k.wrap (m * n))) := opInt hx hy fun w => ⟨_, by simp only [binOp, Op.intArith, ne_eq, not_true_eq_false, if_false]; rfl, fun _ _ => rfl⟩
theorem opQuo (h0 : n ≠ 0) : OpQ C ⟨dst, .binOp .quo t x y t', ty, pos, after, guard⟩ s (iv k (k.wrap (m.tdiv n))) := opInt hx hy fun w => ⟨_, by simp only [binOp, Op.intDiv, h0, ne_eq, not_true_eq_false, if_false]; rfl, fun _ _ => rfl⟩
theorem opRem (h0 : n ≠ 0) : OpQ C ⟨dst, .binOp .rem t x y t', ty, pos, after, guard⟩ s (iv k (m.tmod n)) := opInt hx hy fun w => ⟨_, by simp only [binOp, Op.intDiv, h0, ne_eq, not_true_eq_false, if_false]; rfl, fun _ _ => rfl⟩
theorem opBand : OpQ C ⟨dst, .binOp .and t x y t', ty, pos, after, guard⟩ s (iv k (k.wrap (BitVec.ofInt k.bits m &&& BitVec.ofInt k.bits n).toNat)) := opInt hx hy fun w => ⟨_, by simp only [binOp, Op.intBits, ne_eq, not_true_eq_false, if_false]; rfl, fun _ _ => rfl⟩
theorem opBor : OpQ C ⟨dst, .binOp .or t x y t', ty, pos, after, guard⟩ s (iv k (k.wrap (BitVec.ofInt k.bits m ||| BitVec.ofInt k.bits n).toNat)) := opInt hx hy fun w => ⟨_, by simp only [binOp, Op.intBits, ne_eq, not_true_eq_false, if_false]; rfl, fun _ _ => rfl⟩
theorem opBxor : OpQ C ⟨dst, .binOp .xor t x y t', ty, pos, after, guard⟩ s (iv k (k.wrap (BitVec.ofInt k.bits m ^^^ BitVec.ofInt k.bits n).toNat)) := opInt hx hy fun w => ⟨_, by simp only [binOp, Op.intBits, ne_eq, not_true_eq_false, if_false]; rfl, fun _ _ => rfl⟩
theorem opEql : OpQ C ⟨dst, .binOp .eql t x y t', ty, pos, after, guard⟩ s (bv (m == n)) := opInt hx hy fun w => ⟨_, by simp only [binOp, Op.intCmp, ne_eq, not_true_eq_false, if_false]; rfl, fun _ _ => rfl⟩
theorem opNeq : OpQ C ⟨dst, .binOp .neq t x y t', ty, pos, after, guard⟩ s (bv (m != n)) := opInt hx hy fun w => ⟨_, by simp only [binOp, Op.intCmp, ne_eq, not_true_eq_false, if_false]; rfl, fun _ _ => rfl⟩
theorem opLss : OpQ C ⟨dst, .binOp .lss t x y t', ty, pos, after, guard⟩ s (bv (decide (m < n))) := opInt hx hy fun w => ⟨_, by simp only [binOp, Op.intCmp, ne_eq, not_true_eq_false, if_false]; rfl, fun _ _ => rfl⟩
theorem opLeq : OpQ C ⟨dst, .binOp .leq t x y t', ty, pos, after, guard⟩ s (bv (decide (m ≤ n))) := opInt hx hy fun w => ⟨_, by simp only [binOp, Op.intCmp, ne_eq, not_true_eq_false, if_false]; rfl, fun _ _ => rfl⟩
theorem opGtr : OpQ C ⟨dst, .binOp .gtr t x y t', ty, pos, after, guard⟩ s (bv (decide (n < m))) := opInt hx hy fun w => ⟨_, by simp only [binOp, Op.intCmp, ne_eq, not_true_eq_false, if_false]; rfl, fun _ _ => rfl⟩
theorem opGeq : OpQ C ⟨dst, .binOp .geq t x y t', ty, pos, after, guard⟩ s (bv (decide (n ≤ m))) := opInt hx hy fun w => ⟨_, by simp only [binOp, Op.intCmp, ne_eq, not_true_eq_false, if_false]; rfl, fun _ _ => rfl⟩
end int

theorem opShl {t t' : TypeId} {x y : Operand} {k k' : IntKind} {m n : Int} (hx : Ev s x (iv k m)) (hy : Ev s y (iv k' n)) (h0 : 0 ≤ n) :
    OpQ C ⟨dst, .binOp .shl t x y t', ty, pos, after, guard⟩ s (iv k (k.wrap (m * 2 ^ (min n.toNat k.bits)))) :=
  .val fun a ro w hs => by
    have h1 := hx a ro w hs
    have h2 := hy a ro w hs
    simp only [iv, eqv] at h1 h2
    refine ⟨_, ?_, rfl⟩
    simp only [execOp, h1, h2, eqGuard, binOp, Op.shift, if_neg (Int.not_lt.2 h0)]; rfl
theorem opShr {t t' : TypeId} {x y : Operand} {k k' : IntKind} {m n : Int} (hx : Ev s x (iv k m)) (hy : Ev s y (iv k' n)) (h0 : 0 ≤ n) :
    OpQ C ⟨dst, .binOp .shr t x y t', ty, pos, after, guard⟩ s (iv k (m.fdiv (2 ^ (min n.toNat k.bits)))) :=
  .val fun a ro w hs => by
    have h1 := hx a ro w hs
    have h2 := hy a ro w hs
    simp only [iv, eqv] at h1 h2
    refine ⟨_, ?_, rfl⟩
    simp only [execOp, h1, h2, eqGuard, binOp, Op.shift, if_neg (Int.not_lt.2 h0)]; rfl

theorem run_equalIn_bool {P : Program} (w : World) (d : Nat) {t : TypeId} (m n : Bool) (ht : P.underlying t = some .bool) :
    (Op.equalIn (d + 1) t (.bool m) (.bool n)).run P w = .ok (m == n) w := by
  simp [Op.equalIn, run_underlying ht]
theorem run_equal_bool {P : Program} (w : World) {t : TypeId} (m n : Bool) (ht : P.underlying t = some .bool) :
    (Op.equal t (.bool m) (.bool n)).run P w = .ok (m == n) w := run_equalIn_bool w 9999 m n ht
theorem opEqlB {t t' : TypeId} {x y : Operand} {m n : Bool} (ht : P.underlying t = some .bool) (hx : Ev s x (bv m)) (hy : Ev s y (bv n)) :
    OpQ C ⟨dst, .binOp .eql t x y t', ty, pos, after, guard⟩ s (bv (m == n)) :=
  .val fun a ro w hs => by
    have h1 := hx a ro w hs
    have h2 := hy a ro w hs
    simp only [bv, eqv] at h1 h2
    refine ⟨_, ?_, rfl⟩
    simp [execOp, h1, h2, eqGuard, binOp, run_equal_bool w m n ht]
theorem opNeqB {t t' : TypeId} {x y : Operand} {m n : Bool} (ht : P.underlying t = some .bool) (hx : Ev s x (bv m)) (hy : Ev s y (bv n)) :
    OpQ C ⟨dst, .binOp .neq t x y t', ty, pos, after, guard⟩ s (bv (m != n)) :=
  .val fun a ro w hs => by
    have h1 := hx a ro w hs
    have h2 := hy a ro w hs
    simp only [bv, eqv] at h1 h2
    refine ⟨_, ?_, rfl⟩
    simp [execOp, h1, h2, eqGuard, binOp, run_equal_bool w m n ht, bne]

theorem opNot {t : TypeId} {x : Operand} {m : Bool} (hx : Ev s x (bv m)) : OpQ C ⟨dst, .unOp .not t x, ty, pos, after, guard⟩ s (bv (!m)) :=
  .val fun a ro w hs => ⟨_, by have h1 := hx a ro w hs; simp only [bv, eqv] at h1; simp [execOp, h1, Op.unary], rfl⟩
theorem opNeg {t : TypeId} {x : Operand} {k : IntKind} {m : Int} (hx : Ev s x (iv k m)) : OpQ C ⟨dst, .unOp .neg t x, ty, pos, after, guard⟩ s (iv k (k.wrap (0 - m))) :=
  .val fun a ro w hs => ⟨_, by have h1 := hx a ro w hs; simp only [iv, eqv] at h1; simp only [execOp, h1, Op.unary, Op.intArith, Sem.run_bind, Sem.run_pure, Result.andThen_ok], rfl⟩
theorem opConv {src d : TypeId} {x : Operand} {k k' : IntKind} {m : Int} (h : (P.underlying src).isSome = true) (hd : P.underlying d = some (.int k')) (hx : Ev s x (iv k m)) :
    OpQ C ⟨dst, .convert src d x, ty, pos, after, guard⟩ s (iv k' (k'.wrap m)) :=
  .val fun a ro w hs => by
    have h1 := hx a ro w hs
    simp only [iv, eqv] at h1
    obtain ⟨ds, hds⟩ := Option.isSome_iff_exists.1 h
    refine ⟨_, ?_, rfl⟩
    simp [execOp, h1, convert, run_underlying hds, run_underlying hd, Conv.intToInt]

theorem opMakeFunc {f : Fn} {caps : Array Operand} {vs : Array Value} (h : ∀ a ro w, SlotsOK s.slots a ro w → caps.map a.eval = vs) :
    OpQ C ⟨dst, .makeFunc f #[] caps, ty, pos, after, guard⟩ s (eqv (.func f #[] vs)) :=
  .val fun a ro w hs => ⟨_, by simp [execOp, Instr.makeFunc, h a ro w hs], rfl⟩
theorem capNil : ∀ (a : Act) ro w, SlotsOK s.slots a ro w → (#[] : Array Operand).map a.eval = #[] := fun _ _ _ _ => by simp

/-- A tuple of values. -/
def tupv (xs : List VP) : VP := ⟨fun ro w v => ∃ vs : Array Value, v = .tuple vs ∧ vs.size = xs.length ∧ ∀ (i : Nat) (A : VP), xs[i]? = some A → A.h ro w (vs.getD i undef),
  fun h1 h2 ⟨vs, e, hl, h⟩ => ⟨vs, e, hl, fun i A hi => A.mono h1 h2 (h i A hi)⟩⟩
theorem opExtract {x : Operand} {xs : List VP} {i : Nat} {A : VP} (hx : Ev s x (tupv xs)) (hi : xs[i]? = some A) : OpQ C ⟨dst, .extract x i, ty, pos, after, guard⟩ s A :=
  .val fun a ro w hs => by
    obtain ⟨vs, e, hl, h⟩ := hx a ro w hs
    have hlt : i < vs.size := by rw [hl]; exact (List.getElem?_eq_some_iff.1 hi).1
    have hA := h i A hi
    refine ⟨vs[i], ?_, ?_⟩
    · simp [execOp, e, Instr.extract, hlt]
    · simpa [Array.getD, hlt] using hA
end ops
end Px
