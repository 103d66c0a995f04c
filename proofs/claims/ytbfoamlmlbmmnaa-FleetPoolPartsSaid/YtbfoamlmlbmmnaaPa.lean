/- The assertions about a state of the machine (slots, objects of the call's own, memory that is only read), and what it means that code, an operation or a call goes well from such a state. Conditions: none. -/
import Derived.Orders
import Derived.Below
import Derived.Laws.Rows
import Derived.Laws.MakeOwn
import Derived.Laws.OwnMore
import Derived.LoopN
import Derived.Scope
namespace Px
open Go Go.RowKit

/-- What is known of a value: it may speak of memory that is only read (ro). -/
structure VP where
  h : (Nat → Prop) → World → Value → Prop
  mono : ∀ {ro ro' : Nat → Prop} {w w' : World} {v : Value}, (∀ b, ro b → ro' b) → (∀ b, ro b → w'.heap[b]? = w.heap[b]?) → h ro w v → h ro' w' v

/-- What is known of an object of the call's own, which lies in the blocks S. -/
structure HP where
  h : (Nat → Prop) → (Nat → Prop) → World → Prop
  mono : ∀ {S ro ro' : Nat → Prop} {w w' : World}, (∀ b, ro b → ro' b) → (∀ b, ro b → w'.heap[b]? = w.heap[b]?) → (∀ b, S b → w'.heap[b]? = w.heap[b]?) → h S ro w → h S ro' w'

abbrev Slots := Nat → Option VP
def Slots.set (s : Slots) (d : Option Nat) (x : VP) : Slots := match d with
  | some d => fun t => bif Nat.beq t d then some x else s t
  | none => s
def Slots.of : List (Nat × VP) → Slots
  | [] => fun _ => none
  | (d, x) :: r => fun t => bif Nat.beq t d then some x else Slots.of r t
structure St where
  slots : Slots
  objs : List HP

/-- The memory of a call that began in w0: objs lie each in its own blocks from base on; ro is only read. -/
structure WInv (w0 : World) (base : Nat) (objs : List HP) (ro : Nat → Prop) (S : Nat → Nat → Prop) (w : World) : Prop where
  below : Below base w0 w
  size : base ≤ w.heap.size
  obj : ∀ (i : Nat) (H : HP), objs[i]? = some H → H.h (S i) ro w
  own : ∀ i b, S i b → i < objs.length ∧ base ≤ b ∧ b < w.heap.size ∧ ¬ ro b
  apart : ∀ i j b, S i b → S j b → i = j
  old : ∀ b, ro b → b < w.heap.size

def SlotsOK (s : Slots) (a : Act) (ro : Nat → Prop) (w : World) : Prop :=
  ∀ t A, s t = some A → A.h ro w (a.tmps.getD t undef)

/-- Memory that was only read reads as before. -/
def Evo (B : Nat) (ro : Nat → Prop) (w : World) (ro' : Nat → Prop) (w' : World) : Prop :=
  (∀ b, ro b → ro' b) ∧ (∀ b, ro b → w'.heap[b]? = w.heap[b]?) ∧ ∀ b, ro' b → ro b ∨ B ≤ b
theorem Evo.refl (B : Nat) (ro : Nat → Prop) (w : World) : Evo B ro w ro w := ⟨fun _ h => h, fun _ _ => rfl, fun _ h => .inl h⟩
theorem Evo.trans {B : Nat} {ro ro' ro'' : Nat → Prop} {w w' w'' : World} (h : Evo B ro w ro' w') (k : Evo B ro' w' ro'' w'') : Evo B ro w ro'' w'' :=
  ⟨fun b hb => k.1 b (h.1 b hb), fun b hb => (k.2.1 b (h.1 b hb)).trans (h.2.1 b hb), fun b hb => (k.2.2 b hb).elim (h.2.2 b) .inr⟩
theorem VP.evo (A : VP) {B : Nat} {ro ro' : Nat → Prop} {w w' : World} {v : Value} (e : Evo B ro w ro' w') (h : A.h ro w v) : A.h ro' w' v := A.mono e.1 e.2.1 h
theorem SlotsOK.evo {s : Slots} {a : Act} {B : Nat} {ro ro' : Nat → Prop} {w w' : World} (e : Evo B ro w ro' w') (h : SlotsOK s a ro w) : SlotsOK s a ro' w' :=
  fun t A ht => A.evo e (h t A ht)

/-- The frame of reference: the program, the world and the first own block of the call, how many slots its frame has, and what was only read where this frame began. -/
structure Cx (P : Program) where
  w0 : World
  base : Nat
  r0 : Nat → Prop
  wI : World
  n : Nat

def Sat {P : Program} (C : Cx P) (s : St) (a : Act) (w : World) : Prop :=
  a.defers = [] ∧ a.tmps.size = C.n ∧ ∃ ro S, WInv C.w0 C.base s.objs ro S w ∧ Evo C.base C.r0 C.wI ro w ∧ SlotsOK s.slots a ro w

def CodeT {P : Program} (C : Cx P) (c : Code) (s : St) (Q : Exit → Act → World → Prop) : Prop :=
  ∀ a w, Sat C s a w → c.wp P Q a w
/-- The state lets the run leave this way. -/
def AtX {P : Program} (C : Cx P) (s : St) (e : Exit) (Q : Exit → Act → World → Prop) : Prop :=
  ∀ a w, Sat C s a w → Q e a w

/-- An operation goes well: it yields a value of which x is known, and the objects become objs'. -/
def OpT {P : Program} (C : Cx P) (o : Oper) (s : St) (K : VP → List HP → Prop) : Prop :=
  ∀ a w ro S Q, a.defers = [] → a.tmps.size = C.n → WInv C.w0 C.base s.objs ro S w → SlotsOK s.slots a ro w →
    o.wp P a w (fun a' w' => ∃ v ro' S' x objs', a' = a.put o.dst v ∧ Evo C.base ro w ro' w' ∧ WInv C.w0 C.base objs' ro' S' w' ∧ x.h ro' w' v ∧ K x objs') Q
/-- An operation that only yields a value. -/
def OpQ {P : Program} (C : Cx P) (o : Oper) (s : St) (x : VP) : Prop := OpT C o s fun y objs => y = x ∧ objs = s.objs

def RunOps {P : Program} (C : Cx P) (ops : Array Oper) (l : List Nat) (s : St) (Q : Exit → Act → World → Prop) : Prop :=
  ∀ a w, Sat C s a w → wpOps P ops Q l a w

theorem getD_put (a : Act) (d : Option Nat) (v : Value) (t : Nat) (hd : ∀ x, d = some x → x < a.tmps.size) :
    (a.put d v).tmps.getD t undef = if d = some t then v else a.tmps.getD t undef := by
  cases d with
  | none => simp [Act.put]
  | some d =>
    have hlt := hd d rfl
    by_cases h : d = t
    · subst h; simp [Act.put, hlt]
    · simp [Act.put, h, Array.getElem?_setIfInBounds_ne h]

theorem beq_ne {a b : Nat} (h : a ≠ b) : Nat.beq a b = false := by
  cases hb : Nat.beq a b with
  | false => rfl
  | true => exact absurd (Nat.eq_of_beq_eq_true hb) h
theorem SlotsOK.put {s : Slots} {a : Act} {ro : Nat → Prop} {w : World} {x : VP} {v : Value} {d : Option Nat} (hd : ∀ y, d = some y → y < a.tmps.size)
    (h : SlotsOK s a ro w) (hx : x.h ro w v) : SlotsOK (s.set d x) (a.put d v) ro w := by
  intro t A ht
  rw [getD_put a d v t hd]
  cases d with
  | none => simpa [Slots.set] using h t A (by simpa [Slots.set] using ht)
  | some d =>
    simp only [Slots.set] at ht
    by_cases e : t = d
    · subst e
      rw [Nat.beq_refl] at ht
      simp only [cond_true, Option.some.injEq] at ht
      subst ht
      simpa using hx
    · rw [beq_ne e] at ht
      have e' : ¬ d = t := fun h => e h.symm
      rw [if_neg (by simpa using e')]
      exact h t A ht

def inRange {P : Program} (C : Cx P) (o : Oper) : Bool := match o.dst with | some d => decide (d < C.n) | none => true
theorem inRange_lt {P : Program} {C : Cx P} {o : Oper} (h : inRange C o = true) {a : Act} (ha : a.tmps.size = C.n) : ∀ y, o.dst = some y → y < a.tmps.size := by
  intro y hy
  simp [inRange, hy] at h
  rw [ha]; exact h

section run
variable {P : Program} {C : Cx P} {ops : Array Oper} {i : Nat} {rest : List Nat} {s : St} {Q : Exit → Act → World → Prop} {o : Oper}

theorem RunOps.nil (h : AtX C s .normal Q) : RunOps C ops [] s Q := fun a w hs => h a w hs

theorem sat_put {a : Act} {w w' : World} {ro ro' : Nat → Prop} {S' : Nat → Nat → Prop} {x : VP} {objs : List HP} {v : Value} (hr : inRange C o = true)
    (hd : a.defers = []) (hn : a.tmps.size = C.n) (hs : SlotsOK s.slots a ro w) (e0 : Evo C.base C.r0 C.wI ro w) (e : Evo C.base ro w ro' w') (hw : WInv C.w0 C.base objs ro' S' w') (hx : x.h ro' w' v) :
    Sat C ⟨s.slots.set o.dst x, objs⟩ (a.put o.dst v) w' := by
  refine ⟨?_, ?_, ro', S', hw, e0.trans e, SlotsOK.put (inRange_lt hr hn) (hs.evo e) hx⟩
  · cases h : o.dst <;> simp [Act.put, hd]
  · cases h : o.dst <;> simp [Act.put, hn]

theorem RunOps.cons (ho : ops[i]? = some o) (hg : o.guard = none) (hr : inRange C o = true)
    (h : OpT C o s fun x objs => RunOps C ops rest ⟨s.slots.set o.dst x, objs⟩ Q) : RunOps C ops (i :: rest) s Q := by
  rintro a w ⟨hd, hn, ro, S, hw, he, hs⟩
  simp only [wpOps, ho, Region.wanted, hg, if_true]
  refine .inl (Oper.wp_mono ?_ (h a w ro S Q hd hn hw hs))
  rintro a' w' ⟨v, ro', S', x, objs', rfl, e, hw', hx, hk⟩
  exact hk _ _ (sat_put hr hd hn hs he e hw' hx)

theorem OpT.mono {K K' : VP → List HP → Prop} (h : OpT C o s K) (hk : ∀ x objs, K x objs → K' x objs) : OpT C o s K' := by
  intro a w ro S Q hd hn hw hs
  refine Oper.wp_mono ?_ (h a w ro S Q hd hn hw hs)
  rintro a' w' ⟨v, ro', S', x, objs', ha, e, hw', hx, hkk⟩
  exact ⟨v, ro', S', x, objs', ha, e, hw', hx, hk _ _ hkk⟩

theorem RunOps.cons_q (x : VP) (ho : ops[i]? = some o) (hg : o.guard = none) (hr : inRange C o = true) (hq : OpQ C o s x)
    (h : RunOps C ops rest ⟨s.slots.set o.dst x, s.objs⟩ Q) : RunOps C ops (i :: rest) s Q :=
  .cons ho hg hr (hq.mono fun y objs ⟨hy, ho⟩ => by subst hy; subst ho; exact h)

/-- A value known only under a condition; without it the operation was skipped. -/
def cnd (c : Prop) (x : VP) : VP := ⟨fun ro w v => (c → x.h ro w v) ∧ (¬ c → v = undef), fun h1 h2 h => ⟨fun hc => x.mono h1 h2 (h.1 hc), h.2⟩⟩
def eqv (u : Value) : VP := ⟨fun _ _ v => v = u, fun _ _ h => h⟩
abbrev iv (k : IntKind) (n : Int) : VP := eqv (.int k n)
abbrev bv (b : Bool) : VP := eqv (.bool b)

theorem yielded_at {a : Act} {j t : Nat} (hj : (ops[j]?).bind (·.dst) = some t) : (∀ g, a.tmps.getD t undef = .bool g → yielded ops a.tmps j = some g) ∧ (a.tmps.getD t undef = undef → yielded ops a.tmps j = none) := by
  cases ho' : ops[j]? with
  | none => rw [ho'] at hj; simp at hj
  | some oj =>
    rw [ho'] at hj
    simp only [Option.bind_some] at hj
    by_cases hlt : t < a.tmps.size
    · simp only [Array.getD_eq_getD_getElem?, Array.getElem?_eq_getElem hlt, Option.getD_some]
      refine ⟨fun g hg => ?_, fun hu => ?_⟩
      · simp [yielded, ho', hj, hlt, hg]
      · simp [yielded, ho', hj, hlt, hu, undef]
    · rw [Array.getD_eq_getD_getElem?, Array.getElem?_eq_none (by omega)]
      refine ⟨fun g hg => by simp [undef] at hg, fun _ => ?_⟩
      simp [yielded, ho', hj, Nat.le_of_not_lt hlt]
/-- An operation that is guarded: it is run only if the operation j yielded 'want'. -/
theorem RunOps.cons_g' (x : VP) (p : Prop) {j : Nat} {want : Bool} (ho : ops[i]? = some o) (hg : o.guard = some (j, want)) (hr : inRange C o = true)
    (hy : ∀ a ro w, SlotsOK s.slots a ro w → (p → yielded ops a.tmps j = some want) ∧ (¬ p → yielded ops a.tmps j ≠ some want)) (hq : p → OpQ C o s x)
    (h : RunOps C ops rest ⟨s.slots.set o.dst (cnd p x), s.objs⟩ Q) : RunOps C ops (i :: rest) s Q := by
  rintro a w ⟨hd, hn, ro, S, hw, he, hs⟩
  obtain ⟨hy1, hy2⟩ := hy a ro w hs
  simp only [wpOps, ho, Region.wanted, hg]
  by_cases hc : p
  · simp only [hy1 hc, BEq.rfl, if_true]
    refine .inl (Oper.wp_mono ?_ (hq hc a w ro S Q hd hn hw hs))
    rintro a' w' ⟨v, ro', S', y, objs', rfl, e, hw', hx, rfl, rfl⟩
    exact h _ _ (sat_put hr hd hn hs he e hw' ⟨fun _ => hx, fun h => absurd hc h⟩)
  · have : (yielded ops a.tmps j == some want) = false := by
      cases hb : (yielded ops a.tmps j == some want) with
      | false => rfl
      | true => exact absurd (by simpa using hb) (hy2 hc)
    rw [this]
    simp only [Bool.false_eq_true, if_false]
    exact h _ _ (sat_put hr hd hn hs he (Evo.refl _ _ _) hw ⟨fun h => absurd h hc, fun _ => rfl⟩)
theorem guard_b {s : Slots} {a : Act} {ro : Nat → Prop} {w : World} {j t : Nat} {g want : Bool} (hj : (ops[j]?).bind (·.dst) = some t) (ht : s t = some (bv g)) (hs : SlotsOK s a ro w) :
    (g = want → yielded ops a.tmps j = some want) ∧ (¬ g = want → yielded ops a.tmps j ≠ some want) := by
  have h := (yielded_at (a := a) hj).1 g (hs t _ ht)
  exact ⟨fun e => e ▸ h, fun e h' => e (by rw [h] at h'; simpa using h')⟩
theorem guard_c {s : Slots} {a : Act} {ro : Nat → Prop} {w : World} {j t : Nat} {c : Prop} {g want : Bool} (hj : (ops[j]?).bind (·.dst) = some t) (ht : s t = some (cnd c (bv g))) (hs : SlotsOK s a ro w) :
    ((c ∧ g = want) → yielded ops a.tmps j = some want) ∧ (¬ (c ∧ g = want) → yielded ops a.tmps j ≠ some want) := by
  obtain ⟨h1, h2⟩ := hs t _ ht
  refine ⟨fun ⟨hc, e⟩ => e ▸ (yielded_at (a := a) hj).1 g (h1 hc), fun hn h' => ?_⟩
  by_cases hc : c
  · have := (yielded_at (a := a) hj).1 g (h1 hc)
    rw [h'] at this
    simp at this
    exact hn ⟨hc, this.symm⟩
  · have := (yielded_at (a := a) hj).2 (h2 hc)
    rw [h'] at this
    cases this
theorem RunOps.cons_g (x : VP) (g : Bool) {j : Nat} {want : Bool} {t : Nat} (ho : ops[i]? = some o) (hg : o.guard = some (j, want)) (hr : inRange C o = true)
    (hj : (ops[j]?).bind (·.dst) = some t) (ht : s.slots t = some (bv g)) (hq : g = want → OpQ C o s x)
    (h : RunOps C ops rest ⟨s.slots.set o.dst (cnd (g = want) x), s.objs⟩ Q) : RunOps C ops (i :: rest) s Q :=
  .cons_g' x (g = want) ho hg hr (fun _ _ _ hs => guard_b hj ht hs) hq h
theorem RunOps.cons_gc (x : VP) (c : Prop) (g : Bool) {j : Nat} {want : Bool} {t : Nat} (ho : ops[i]? = some o) (hg : o.guard = some (j, want)) (hr : inRange C o = true)
    (hj : (ops[j]?).bind (·.dst) = some t) (ht : s.slots t = some (cnd c (bv g))) (hq : c ∧ g = want → OpQ C o s x)
    (h : RunOps C ops rest ⟨s.slots.set o.dst (cnd (c ∧ g = want) x), s.objs⟩ Q) : RunOps C ops (i :: rest) s Q :=
  .cons_g' x (c ∧ g = want) ho hg hr (fun _ _ _ hs => guard_c hj ht hs) hq h

theorem WInv.drawn {w0 : World} {base : Nat} {objs : List HP} {ro : Nat → Prop} {S : Nat → Nat → Prop} {w : World} (h : WInv w0 base objs ro S w) (k : Nat) :
    WInv w0 base objs ro S { w with drawn := k } where
  below := ⟨h.below.os, h.below.tape, h.below.output, h.below.size, h.below.block⟩
  size := h.size
  obj := fun i H hi => H.mono (w := w) (fun _ h => h) (fun _ _ => rfl) (fun _ _ => rfl) (h.obj i H hi)
  own := h.own
  apart := h.apart
  old := h.old

theorem Sat.drawn {a : Act} {w : World} (h : Sat C s a w) (k : Nat) : Sat C s a { w with drawn := k } := by
  obtain ⟨hd, hn, ro, S, hw, he, hs⟩ := h
  exact ⟨hd, hn, ro, S, hw.drawn k, ⟨he.1, he.2.1, he.2.2⟩, hs.evo (B := 0) (w := w) ⟨fun _ h => h, fun _ _ => rfl, fun _ h => .inl h⟩⟩
end run

section code
variable {P : Program} {C : Cx P} {s : St} {Q : Exit → Act → World → Prop} {x y c : Code}

theorem CodeT.seq (h : CodeT C x s (Exit.then (y.wp P Q) Q)) : CodeT C (.seq x y) s Q := fun a w hs => wp_seq (h a w hs)
theorem CodeT.skip (h : AtX C s .normal Q) : CodeT C .skip s Q := fun a w hs => wp_skip (h a w hs)
theorem CodeT.label {l : Nat} (h : AtX C s .normal Q) : CodeT C (.label l) s Q := fun a w hs => wp_label (h a w hs)
theorem CodeT.exit {id : Nat} (h : AtX C s (.exit id) Q) : CodeT C (.exit id) s Q := fun a w hs => wp_exit (h a w hs)
theorem CodeT.ret (h : AtX C s .ret Q) : CodeT C .ret s Q := fun a w hs => wp_ret (h a w hs)
theorem CodeT.block {id : Nat} (h : CodeT C c s (Exit.inBlock id Q)) : CodeT C (.block id c) s Q := fun a w hs => wp_block (h a w hs)
theorem CodeT.region {id : Nat} {ops : Array Oper} (h : RunOps C ops (List.range ops.size) s Q) : CodeT C (.region id ops false) s Q :=
  fun a w hs => wp_region (h a w hs)
theorem CodeT.cond {o : Operand} (g : Bool) (ho : ∀ a w ro, SlotsOK s.slots a ro w → a.eval o = .bool g) (ht : g = true → CodeT C x s Q) (hf : g = false → CodeT C y s Q) : CodeT C (.cond o x y) s Q := by
  intro a w hs
  obtain ⟨hd, hn, ro, S, hw, he, hsl⟩ := id hs
  exact wp_cond_split (ho a w ro hsl) (fun h => ht h a w hs) (fun h => hf h a w hs)
theorem CodeT.scope (h : CodeT C c s (Exit.noGoto Q)) : CodeT C (.scope c) s Q := fun a w hs => wp_scope_straight (h a w hs)

/-- A loop, by the fuel of the function L that says what it comes to: r. -/
theorem CodeT.loop {σ ρ : Type} (L : Nat → σ → Option ρ) (r : ρ) (st : σ → St) (h0 : ∀ z, L 0 z = none)
    (hs : ∀ n z, (∀ z', L n z' = some r → AtX C (st z') .normal (Exit.then (Code.rounds P c Q n) Q)) → L (n + 1) z = some r →
      CodeT C c (st z) (Exit.then (Code.rounds P c Q n) Q)) (n : Nat) (z : σ) (h : L n z = some r) : CodeT C (.loop c) (st z) Q := by
  have key : ∀ n z, L n z = some r → ∀ a w, Sat C (st z) a w → Code.rounds P c Q n a w := by
    intro n
    induction n with
    | zero => intro z h; rw [h0] at h; cases h
    | succ n ih => intro z h a w hsat; exact hs n z (fun z' hz' a w h => ih z' hz' a w h) h a w hsat
  exact fun a w hsat => wp_loop_rounds n (key n z h a w hsat)
end code
end Px
