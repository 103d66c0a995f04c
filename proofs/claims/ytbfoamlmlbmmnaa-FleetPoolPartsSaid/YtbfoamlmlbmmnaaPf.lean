/- Calls, the entry and the exit of a function, what may be forgotten. Conditions: none. -/
import Derived.Test.YtbfoamlmlbmmnaaPe
namespace Px
open Go Go.RowKit
set_option linter.unusedSimpArgs false
set_option linter.unusedVariables false

def Ent (A B : VP) : Prop := ∀ r w v, A.h r w v → B.h r w v
theorem Ent.refl {A : VP} : Ent A A := fun _ _ _ h => h
theorem Ent.of_eq {A B : VP} (h : A = B) : Ent A B := h ▸ Ent.refl
def EntH (A B : HP) : Prop := ∀ S r w, A.h S r w → B.h S r w
theorem EntH.refl {A : HP} : EntH A A := fun _ _ _ h => h
theorem EntH.of_eq {A B : HP} (h : A = B) : EntH A B := h ▸ EntH.refl
theorem EntH.emp {A : HP} : EntH A emp := fun _ _ _ _ => trivial
def SlotsLe (s : Slots) : List (Nat × VP) → Prop
  | [] => True
  | (t, B) :: l => (∃ A, s t = some A ∧ Ent A B) ∧ SlotsLe s l
def ObjsLe : List HP → List HP → Prop
  | _, [] => True
  | [], _ :: _ => False
  | A :: l, B :: m => EntH A B ∧ ObjsLe l m

theorem SlotsLe.ok {s : Slots} {a : Act} {r : Nat → Prop} {w : World} (hs : SlotsOK s a r w) : ∀ {L : List (Nat × VP)}, SlotsLe s L → SlotsOK (Slots.of L) a r w
  | [], _ => fun t A h => by simp [Slots.of] at h
  | (d, B) :: l, ⟨⟨A, hA, he⟩, hl⟩ => fun t A' h => by
    simp only [Slots.of] at h
    by_cases e : t = d
    · subst e
      rw [Nat.beq_refl] at h
      simp only [cond_true, Option.some.injEq] at h
      subst h
      exact he _ _ _ (hs _ _ hA)
    · rw [beq_ne e] at h
      exact SlotsLe.ok hs hl t A' h
theorem ObjsLe.at : ∀ {l m : List HP}, ObjsLe l m → ∀ (i : Nat) (B : HP), m[i]? = some B → ∃ A, l[i]? = some A ∧ EntH A B
  | _, [], _, i, B, h => by simp at h
  | [], _ :: _, hf, _, _, _ => hf.elim
  | A :: l, B :: m, ⟨he, _⟩, 0, B', h => by simp at h; subst h; exact ⟨A, rfl, he⟩
  | A :: l, B :: m, ⟨_, hm⟩, i + 1, B', h => by simpa using ObjsLe.at hm i B' (by simpa using h)

theorem WInv.le {w0 w : World} {base : Nat} {objs O : List HP} {r : Nat → Prop} {S : Nat → Nat → Prop} (h : WInv w0 base objs r S w) (hO : ObjsLe objs O) :
    WInv w0 base O r (fun i b => i < O.length ∧ S i b) w where
  below := h.below
  size := h.size
  obj := fun i B hi => by
    obtain ⟨A, hA, he⟩ := hO.at i B hi
    have hlt := (List.getElem?_eq_some_iff.1 hi).1
    have : (fun b => i < O.length ∧ S i b) = S i := by funext b; simp [hlt]
    rw [this]
    exact he _ _ _ (h.obj i A hA)
  own := fun i b ⟨hlt, hb⟩ => by
    obtain ⟨_, h2, h3, h4⟩ := h.own i b hb
    exact ⟨hlt, h2, h3, h4⟩
  apart := fun i j b hi hj => h.apart i j b hi.2 hj.2
  old := h.old

section atx
variable {P : Program} {C : Cx P} {s : St} {Q : Exit → Act → World → Prop} {x y c : Code} {K : Act → World → Prop} {e : Exit}
theorem Sat.le {a : Act} {w : World} (L : List (Nat × VP)) (O : List HP) (hL : SlotsLe s.slots L) (hO : ObjsLe s.objs O) (h : Sat C s a w) : Sat C ⟨Slots.of L, O⟩ a w := by
  obtain ⟨hd, hn, r, S, hw, he, hs⟩ := h
  exact ⟨hd, hn, r, _, hw.le hO, he, hL.ok hs⟩
theorem AtX.le (L : List (Nat × VP)) (O : List HP) (hL : SlotsLe s.slots L) (hO : ObjsLe s.objs O) (h : AtX C ⟨Slots.of L, O⟩ e Q) : AtX C s e Q :=
  fun a w hs => h a w (hs.le L O hL hO)
theorem CodeT.le (L : List (Nat × VP)) (O : List HP) (hL : SlotsLe s.slots L) (hO : ObjsLe s.objs O) (h : CodeT C c ⟨Slots.of L, O⟩ Q) : CodeT C c s Q :=
  fun a w hs => h a w (hs.le L O hL hO)
theorem AtX.then (h : ∀ a w, Sat C s a w → K a w) : AtX C s .normal (Exit.then K Q) := h
theorem AtX.seq (h : CodeT C y s Q) : AtX C s .normal (Exit.then (y.wp P Q) Q) := h
theorem AtX.then_exit {id : Nat} (h : AtX C s (.exit id) Q) : AtX C s (.exit id) (Exit.then K Q) := h
theorem AtX.then_ret (h : AtX C s .ret Q) : AtX C s .ret (Exit.then K Q) := h
theorem AtX.in_hit {id : Nat} (h : AtX C s .normal Q) : AtX C s (.exit id) (Exit.inBlock id Q) := fun a w hs => by
  simp only [Exit.inBlock, if_true]
  exact h a w hs
theorem AtX.in_miss {id id' : Nat} (hne : id' ≠ id) (h : AtX C s (.exit id') Q) : AtX C s (.exit id') (Exit.inBlock id Q) := fun a w hs => by
  simp only [Exit.inBlock, hne, if_false]
  exact h a w hs
theorem AtX.in_normal {id : Nat} (h : AtX C s .normal Q) : AtX C s .normal (Exit.inBlock id Q) := h
theorem AtX.in_ret {id : Nat} (h : AtX C s .ret Q) : AtX C s .ret (Exit.inBlock id Q) := h
theorem AtX.ng_normal (h : AtX C s .normal Q) : AtX C s .normal (Exit.noGoto Q) := h
theorem AtX.ng_exit {id : Nat} (h : AtX C s (.exit id) Q) : AtX C s (.exit id) (Exit.noGoto Q) := h
theorem AtX.ng_ret (h : AtX C s .ret Q) : AtX C s .ret (Exit.noGoto Q) := h
end atx

/-- What holds when a call has ended. -/
def retR (w0 : World) (base : Nat) (r0 : Nat → Prop) (wI : World) (K : VP → List HP → Prop) : Ending → World → Prop := fun e w' =>
  ∃ v x objs' r' S', e = .returned v ∧ Evo base r0 wI r' w' ∧ WInv w0 base objs' r' S' w' ∧ x.h r' w' v ∧ K x objs'
abbrev retQ {P : Program} (C : Cx P) (fn : Func) (K : VP → List HP → Prop) : Exit → Act → World → Prop := bodyPost P fn (retR C.w0 C.base C.r0 C.wI K)

def ResOK {P : Program} (C : Cx P) (s : St) (fn : Func) (x : VP) : Prop :=
  ∀ a r S w, WInv C.w0 C.base s.objs r S w → SlotsOK s.slots a r w → ∃ v, (results fn a.tmps).run P w = .ok v w ∧ x.h r w v
section ret
variable {P : Program} {C : Cx P} {s : St} {fn : Func} {K : VP → List HP → Prop}
theorem AtX.ret (x : VP) (h : ResOK C s fn x) (k : K x s.objs) : AtX C s .ret (retQ C fn K) := by
  rintro a w ⟨hd, hn, r, S, hw, he, hs⟩
  obtain ⟨v, hv, hx⟩ := h a r S w hw hs
  exact ⟨hd, v, hv, v, x, s.objs, r, S, rfl, he, hw, hx, k⟩
theorem AtX.fall (x : VP) (h : ResOK C s fn x) (k : K x s.objs) : AtX C s .normal (retQ C fn K) := by
  rintro a w ⟨hd, hn, r, S, hw, he, hs⟩
  obtain ⟨v, hv, hx⟩ := h a r S w hw hs
  exact ⟨hd, v, hv, v, x, s.objs, r, S, rfl, he, hw, hx, k⟩

/-- One result variable: a slot, or a cell of a variable of the call's own. -/
def RV {P : Program} (C : Cx P) (s : St) : ResultVar → VP → Prop
  | .tmp t, A => s.slots t = some A
  | .cell a t, A => (∃ n, tload P t = some (false, n) ∧ ∃ cs, Pt C s (.tmp a) (A :: cs)) ∨ (∃ cs, A = agg cs ∧ tload P t = some (true, cs.length) ∧ Pt C s (.tmp a) cs)
def rvRun (tmps : Array Value) (rv : ResultVar) : Sem Value := match rv with
  | .tmp t => pure (tmps.getD t undef)
  | .cell a t => do loadVar t (← asAddr (tmps.getD a undef))
theorem results_eq (fn : Func) (tmps : Array Value) : results fn tmps = (do
    let vs ← fn.results.mapM (rvRun tmps)
    pure (if h : vs.size = 1 then vs[0] else .tuple vs)) := rfl
theorem RV.run {rv : ResultVar} {A : VP} (h : RV C s rv A) {a : Act} {r : Nat → Prop} {S : Nat → Nat → Prop} {w : World} (hw : WInv C.w0 C.base s.objs r S w) (hs : SlotsOK s.slots a r w) :
    ∃ v, (rvRun a.tmps rv).run P w = .ok v w ∧ A.h r w v := by
  cases rv with
  | tmp t => exact ⟨_, rfl, hs t A h⟩
  | cell b t =>
    rcases h with ⟨n, ht, cs, hp⟩ | ⟨cs, rfl, ht, hp⟩
    · obtain ⟨b', o, hx, hc⟩ := hp a r S w hw hs
      obtain ⟨u, hu, hA, _⟩ := hc 0 A rfl
      have hx' : a.tmps.getD b undef = .pointer (some ⟨b', o, none⟩) := hx
      have hl := run_load1 w ht (b := b') (o := o) (by simpa using hu)
      simp only [Instr.loadAt, Instr.sureAddr, Sem.run_bind, Sem.run_pure, Result.andThen_ok] at hl
      refine ⟨u, ?_, hA⟩
      simp only [rvRun, hx', Sem.run_bind, asAddr, Sem.run_pure, Result.andThen_ok, hl]
    · obtain ⟨b', o, hx, hc⟩ := hp a r S w hw hs
      obtain ⟨vs, hvs, hcell⟩ := hc.list
      have hx' : a.tmps.getD b undef = .pointer (some ⟨b', o, none⟩) := hx
      have hl := run_loadN w (b := b') (o := o) (hvs.1 ▸ ht) hcell
      simp only [Instr.loadAt, Instr.sureAddr, Sem.run_bind, Sem.run_pure, Result.andThen_ok] at hl
      refine ⟨_, ?_, vs.toArray, rfl, by simpa using hvs⟩
      simp only [rvRun, hx', Sem.run_bind, asAddr, Sem.run_pure, Result.andThen_ok, hl]
theorem ResOK.zero (hr : fn.results = #[]) : ResOK C s fn (eqv (.tuple #[])) := fun a r S w hw hs => ⟨_, by simp [results, hr], rfl⟩
theorem ResOK.one {rv : ResultVar} {A : VP} (hr : fn.results = #[rv]) (h : RV C s rv A) : ResOK C s fn A := fun a r S w hw hs => by
  obtain ⟨v, hv, hA⟩ := h.run hw hs
  refine ⟨v, ?_, hA⟩
  rw [results_eq, hr]
  simp only [List.mapM_toArray, List.mapM_cons, List.mapM_nil, Sem.run_bind, Sem.run_map, hv, Result.andThen_ok, Sem.run_pure, List.size_toArray, List.length_cons, List.length_nil]
  simp
theorem ResOK.two {rv rv' : ResultVar} {A B : VP} (hr : fn.results = #[rv, rv']) (h : RV C s rv A) (h' : RV C s rv' B) : ResOK C s fn (tupv [A, B]) := fun a r S w hw hs => by
  obtain ⟨v, hv, hA⟩ := h.run hw hs
  obtain ⟨v', hv', hB⟩ := h'.run hw hs
  refine ⟨.tuple #[v, v'], ?_, #[v, v'], rfl, rfl, ?_⟩
  · rw [results_eq, hr]
    simp only [List.mapM_toArray, List.mapM_cons, List.mapM_nil, Sem.run_bind, Sem.run_map, hv, hv', Result.andThen_ok, Sem.run_pure, List.size_toArray, List.length_cons, List.length_nil]
    simp
  · intro i D hi
    match i with
    | 0 => simp at hi; subst hi; exact hA
    | 1 => simp at hi; subst hi; exact hB
    | i + 2 => simp at hi
theorem ResOK.three {rv rv' rv2 : ResultVar} {A B D : VP} (hr : fn.results = #[rv, rv', rv2]) (h : RV C s rv A) (h' : RV C s rv' B) (h2 : RV C s rv2 D) : ResOK C s fn (tupv [A, B, D]) := fun a r S w hw hs => by
  obtain ⟨v, hv, hA⟩ := h.run hw hs
  obtain ⟨v', hv', hB⟩ := h'.run hw hs
  obtain ⟨v2, hv2, hD⟩ := h2.run hw hs
  refine ⟨.tuple #[v, v', v2], ?_, #[v, v', v2], rfl, rfl, ?_⟩
  · rw [results_eq, hr]
    simp only [List.mapM_toArray, List.mapM_cons, List.mapM_nil, Sem.run_bind, Sem.run_map, hv, hv', hv2, Result.andThen_ok, Sem.run_pure, List.size_toArray, List.length_cons, List.length_nil]
    simp
  · intro i D' hi
    match i with
    | 0 => simp at hi; subst hi; exact hA
    | 1 => simp at hi; subst hi; exact hB
    | 2 => simp at hi; subst hi; exact hD
    | i + 3 => simp at hi
end ret

/-- A call from any state of this kind goes well. -/
def CallT (P : Program) (w0 : World) (base : Nat) (f : FuncId) (args : List VP) (objs : List HP) (K : VP → List HP → Prop) : Prop :=
  ∀ r S w vs, WInv w0 base objs r S w → vs.size = args.length → (∀ (i : Nat) (A : VP), args[i]? = some A → A.h r w (vs.getD i undef)) → Calls P f vs w (retR w0 base r w K)
/-- A call that needs nothing but its arguments, and makes what it returns. -/
def PureT (P : Program) (f : FuncId) (args : List VP) (K : VP → List HP → Prop) : Prop :=
  ∀ r w vs, (∀ b, r b → b < w.heap.size) → vs.size = args.length → (∀ (i : Nat) (A : VP), args[i]? = some A → A.h r w (vs.getD i undef)) → Calls P f vs w (retR w w.heap.size r w K)

def argSlots (args : List VP) : Slots := fun t => args[t]?
theorem CallT.of_code {P : Program} {w0 : World} {base : Nat} {f : FuncId} {fn : Func} {c : Code} {args : List VP} {objs : List HP} {K : VP → List HP → Prop} (hf : P.funcs[f]? = some fn) (hb : fn.body = some c)
    (hn : args.length ≤ fn.ntmps) (h : ∀ r0 wI, CodeT (⟨w0, base, r0, wI, fn.ntmps⟩ : Cx P) c ⟨argSlots args, objs⟩ (retQ (⟨w0, base, r0, wI, fn.ntmps⟩ : Cx P) fn K)) : CallT P w0 base f args objs K := by
  intro r S w vs hw hl hA
  refine calls_of_wp hf hb (h r w _ _ ⟨rfl, ?_, r, S, hw, Evo.refl _ _ _, fun t A ht => ?_⟩)
  · simp [hl]; omega
  · have hlt : t < args.length := (List.getElem?_eq_some_iff.1 ht).1
    have := hA t A ht
    have hvt : t < vs.size := hl ▸ hlt
    simpa [Array.getElem?_append, hvt] using this
theorem PureT.of_code {P : Program} {f : FuncId} {fn : Func} {c : Code} {args : List VP} {K : VP → List HP → Prop} (hf : P.funcs[f]? = some fn) (hb : fn.body = some c) (hn : args.length ≤ fn.ntmps)
    (h : ∀ w0 base r0 wI, CodeT (⟨w0, base, r0, wI, fn.ntmps⟩ : Cx P) c ⟨argSlots args, []⟩ (retQ (⟨w0, base, r0, wI, fn.ntmps⟩ : Cx P) fn K)) : PureT P f args K := by
  intro r w vs hr hl hA
  refine CallT.of_code hf hb hn (h w w.heap.size) r (fun _ _ => False) w vs ?_ hl hA
  exact ⟨Below.refl _ _, Nat.le_refl _, fun i H hi => by simp at hi, fun i b hb => hb.elim, fun i j b hb => hb.elim, hr⟩

/-- What a call brings with it is put beside what the caller has. -/
theorem WInv.join {w0 w w' : World} {base : Nat} {objs news : List HP} {r r' : Nat → Prop} {S S' : Nat → Nat → Prop} (h : WInv w0 base objs r S w) (k : WInv w w.heap.size news r' S' w')
    (rr : Nat → Prop) (h1 : ∀ b, r b → rr b) (h2 : ∀ b, rr b → r b ∨ (w.heap.size ≤ b ∧ r' b)) (hn : ∀ (i : Nat) (H : HP), news[i]? = some H → H.h (S' i) rr w') :
    WInv w0 base (objs ++ news) rr (fun i b => (i < objs.length ∧ S i b) ∨ (objs.length ≤ i ∧ S' (i - objs.length) b)) w' where
  below := h.below.trans (k.below.mono h.size)
  size := Nat.le_trans h.size k.size
  obj := by
    intro i H hi
    rw [List.getElem?_append] at hi
    split at hi
    · rename_i hlt
      have e : (fun b => (i < objs.length ∧ S i b) ∨ (objs.length ≤ i ∧ S' (i - objs.length) b)) = S i := by
        funext b
        have : ¬ objs.length ≤ i := by omega
        simp [hlt, this]
      rw [e]
      exact H.mono (w := w) h1 (fun b hb => k.below.block b (h.old b hb)) (fun b hb => k.below.block b (h.own i b hb).2.2.1) (h.obj i H hi)
    · rename_i hge
      have e : (fun b => (i < objs.length ∧ S i b) ∨ (objs.length ≤ i ∧ S' (i - objs.length) b)) = S' (i - objs.length) := by
        funext b
        simp [hge, Nat.le_of_not_lt hge]
      rw [e]
      exact hn _ H hi
  own := by
    rintro i b (⟨hlt, hb⟩ | ⟨hge, hb⟩)
    · obtain ⟨a1, a2, a3, a4⟩ := h.own i b hb
      refine ⟨by simp; omega, a2, Nat.lt_of_lt_of_le a3 k.size, fun hr => ?_⟩
      rcases h2 b hr with q | ⟨q, _⟩
      · exact a4 q
      · omega
    · obtain ⟨a1, a2, a3, a4⟩ := k.own _ b hb
      refine ⟨by simp; omega, Nat.le_trans h.size a2, a3, fun hr => ?_⟩
      rcases h2 b hr with q | ⟨_, q⟩
      · have := h.old b q; omega
      · exact a4 q
  apart := by
    rintro i j b (⟨hi, hb⟩ | ⟨hi, hb⟩) (⟨hj, hb'⟩ | ⟨hj, hb'⟩)
    · exact h.apart i j b hb hb'
    · have := (h.own i b hb).2.2.1; have := (k.own _ b hb').2.1; omega
    · have := (h.own j b hb').2.2.1; have := (k.own _ b hb).2.1; omega
    · have := k.apart _ _ b hb hb'; omega
  old := fun b hb => by
    rcases h2 b hb with q | ⟨_, q⟩
    · exact Nat.lt_of_lt_of_le (h.old b q) k.size
    · exact k.old b q

/-- Known without any memory. -/
def VP.flat (A : VP) : Prop := ∀ r r' w w' v, A.h r w v → A.h r' w' v
def HP.flat (H : HP) : Prop := ∀ S r r' w, H.h S r w → H.h S r' w
theorem flat_eqv {v : Value} : (eqv v).flat := fun _ _ _ _ _ h => h
theorem flat_tup {xs : List VP} (h : ∀ A ∈ xs, A.flat) : (tupv xs).flat := fun r r' w w' v ⟨vs, e, hl, hh⟩ => ⟨vs, e, hl, fun i A hi => h A (List.mem_of_getElem? hi) r r' w w' _ (hh i A hi)⟩
theorem CellsH.flat {r r' : Nat → Prop} {w : World} {cs : List VP} {vs : List Value} (hf : ∀ A ∈ cs, A.flat) (h : CellsH r w cs vs) : CellsH r' w cs vs := ⟨h.1, fun j A hj => by
  obtain ⟨u, hu, hA, h1⟩ := h.2 j A hj
  exact ⟨u, hu, hf A (List.mem_of_getElem? hj) _ _ _ _ _ hA, h1⟩⟩
theorem flat_agg {cs : List VP} (h : ∀ A ∈ cs, A.flat) : (agg cs).flat := fun r r' w w' v ⟨vs, e, hh⟩ => ⟨vs, e, hh.1, fun j A hj => by
  obtain ⟨u, hu, hA, h1⟩ := hh.2 j A hj
  exact ⟨u, hu, h A (List.mem_of_getElem? hj) _ _ _ _ _ hA, h1⟩⟩
theorem flat_row {α : Type} {E : TypeId} {e : α → List VP} {sz : Nat} {l : List α} {sv : Value} (h : ∀ x, ∀ A ∈ e x, A.flat) : (row E e sz l sv).flat := fun S r r' w hh => by
  rcases hh with hn | ⟨g, cap, cur, hv, hS, hcur, hl, hm, hsz, hc⟩
  · exact .inl hn
  · exact .inr ⟨g, cap, cur, hv, hS, hcur, hl, hm, hsz, hc.flat (fun A hA => by
      obtain ⟨x, _, hx⟩ := List.mem_flatMap.1 hA
      exact h x A hx)⟩

def Args (s : St) : List Operand → List VP → Prop
  | [], [] => True
  | o :: os, A :: As => Ev s o A ∧ Args s os As
  | _, _ => False
theorem Args.ok {s : St} {a : Act} {r : Nat → Prop} {w : World} (hs : SlotsOK s.slots a r w) : ∀ {os : List Operand} {As : List VP}, Args s os As →
    os.length = As.length ∧ ∀ (i : Nat) (A : VP), As[i]? = some A → A.h r w ((os.map a.eval).getD i undef)
  | [], [], _ => ⟨rfl, fun i A h => by simp at h⟩
  | o :: os, A :: As, ⟨h, hr⟩ => by
    obtain ⟨h1, h2⟩ := Args.ok hs hr
    refine ⟨by simp [h1], fun i B hi => ?_⟩
    cases i with
    | zero => simp at hi; subst hi; exact h a r w hs
    | succ i => simpa using h2 i B (by simpa using hi)
  | [], _ :: _, h => h.elim
  | _ :: _, [], h => h.elim
/-- What is known of an operand if all memory there is, is only read. -/
def EvF {P : Program} (C : Cx P) (s : St) (o : Operand) (A : VP) : Prop := ∀ a r S w, WInv C.w0 C.base s.objs r S w → SlotsOK s.slots a r w → A.h (fun b => b < w.heap.size) w (a.eval o)
def ArgsF {P : Program} (C : Cx P) (s : St) : List Operand → List VP → Prop
  | [], [] => True
  | o :: os, A :: As => EvF C s o A ∧ ArgsF C s os As
  | _, _ => False
theorem ArgsF.ok {P : Program} {C : Cx P} {s : St} {a : Act} {r : Nat → Prop} {S : Nat → Nat → Prop} {w : World} (hw : WInv C.w0 C.base s.objs r S w) (hs : SlotsOK s.slots a r w) : ∀ {os : List Operand} {As : List VP}, ArgsF C s os As →
    os.length = As.length ∧ ∀ (i : Nat) (A : VP), As[i]? = some A → A.h (fun b => b < w.heap.size) w ((os.map a.eval).getD i undef)
  | [], [], _ => ⟨rfl, fun i A h => by simp at h⟩
  | o :: os, A :: As, ⟨h, hr⟩ => by
    obtain ⟨h1, h2⟩ := ArgsF.ok hw hs hr
    refine ⟨by simp [h1], fun i B hi => ?_⟩
    cases i with
    | zero => simp at hi; subst hi; exact h a r S w hw hs
    | succ i => simpa using h2 i B (by simpa using hi)
  | [], _ :: _, h => h.elim
  | _ :: _, [], h => h.elim
/-- With all memory only read, a cell known as A is known as B. -/
def FEnt {P : Program} (C : Cx P) (s : St) (A B : VP) : Prop := ∀ r S w v, WInv C.w0 C.base s.objs r S w → A.h r w v → B.h (fun b => b < w.heap.size) w v
theorem FEnt.refl {P : Program} {C : Cx P} {s : St} {A : VP} : FEnt C s A A := fun r S w v hw h => A.mono (fun b hb => hw.old b hb) (fun _ _ => rfl) h
theorem FEnt.row {P : Program} {C : Cx P} {s : St} {α : Type} (i : Nat) {E : TypeId} {e : α → List VP} {sz : Nat} {l : List α} {sv : Value} (he : ∀ x, (e x).length = sz) (ho : s.objs[i]? = some (row E e sz l sv)) : FEnt C s (eqv sv) (ro e sz l) := by
  intro r S w v hw h
  simp only [eqv] at h
  subst h
  rcases hw.obj i _ ho with ⟨rfl, rfl⟩ | ⟨g, cap, cur, rfl, hS, hcur, hl, hm, hsz, hh⟩
  · exact .inl ⟨⟨none, 0, rfl⟩, rfl⟩
  · refine .inr ⟨g, 0, cap, rfl, fun k x hk => ⟨(hw.own i g hS).2.2.1, fun j A hj => ?_⟩⟩
    obtain ⟨u, hu, hA, h1⟩ := hh.2 _ A (flatMap_slice he l k x hk j A hj)
    refine ⟨u, ?_, A.mono (fun b hb => hw.old b hb) (fun _ _ => rfl) hA, h1⟩
    rw [Nat.zero_add, cell_of_row w g _ cur E (0, 0) hcur]
    rw [List.getElem?_take] at hu
    split at hu
    · simpa using hu
    · cases hu
theorem FEnt.nil {P : Program} {C : Cx P} {s : St} {α : Type} {e : α → List VP} {sz : Nat} : FEnt C s (eqv (.slice none 0 0)) (ro e sz []) := fun r S w v hw h => .inl ⟨⟨none, 0, h⟩, rfl⟩
def FEnts {P : Program} (C : Cx P) (s : St) : List VP → List VP → Prop
  | [], [] => True
  | A :: As, B :: Bs => FEnt C s A B ∧ FEnts C s As Bs
  | _, _ => False
theorem FEnts.ok {P : Program} {C : Cx P} {s : St} : ∀ {As Bs : List VP}, FEnts C s As Bs → As.length = Bs.length ∧ ∀ (j : Nat) (B : VP), Bs[j]? = some B → ∃ A, As[j]? = some A ∧ FEnt C s A B
  | [], [], _ => ⟨rfl, fun j B h => by simp at h⟩
  | A :: As, B :: Bs, ⟨h, hr⟩ => by
    obtain ⟨h1, h2⟩ := FEnts.ok hr
    refine ⟨by simp [h1], fun j D hj => ?_⟩
    cases j with
    | zero => simp at hj; subst hj; exact ⟨A, rfl, h⟩
    | succ j => simpa using h2 j D (by simpa using hj)
  | [], _ :: _, h => h.elim
  | _ :: _, [], h => h.elim
theorem FEnt.agg {P : Program} {C : Cx P} {s : St} {cs ds : List VP} (h : FEnts C s cs ds) : FEnt C s (agg cs) (agg ds) := by
  rintro r S w v hw ⟨vs, rfl, hh⟩
  obtain ⟨h1, h2⟩ := h.ok
  refine ⟨vs, rfl, by rw [← h1]; exact hh.1, fun j B hj => ?_⟩
  obtain ⟨A, hA, hAB⟩ := h2 j B hj
  obtain ⟨u, hu, hAu, ho⟩ := hh.2 j A hA
  exact ⟨u, hu, hAB r S w u hw hAu, ho⟩
theorem EvF.of {P : Program} {C : Cx P} {s : St} {o : Operand} {A B : VP} (h : Ev s o A) (hf : FEnt C s A B) : EvF C s o B := fun a r S w hw hs => hf r S w _ hw (h a r w hs)

theorem run_callFunc_enter' {P : Program} {f : FuncId} {fn : Func} (hf : P.funcs[f]? = some fn) (hname : (fn.name == "runtime.NumGoroutine") = false) (hb : fn.body.isSome = true) (args : Array Value) (w : World) :
    (callFunc f args).run P w = .ok (.enter f args) w := by
  obtain ⟨c, hc⟩ := Option.isSome_iff_exists.1 hb
  have h1 : fn.name ≠ "runtime.NumGoroutine" := by simpa using hname
  simp [callFunc, hf, h1, hc]
/-- A function with a Go body. -/
def FnOK (P : Program) (f : FuncId) : Prop := ∃ fn, P.funcs[f]? = some fn ∧ (fn.name == "runtime.NumGoroutine") = false ∧ fn.body.isSome = true

section ops
variable {P : Program} {C : Cx P} {s : St} {dst : Option Tmp} {ty : TypeId} {pos : String} {after : Array Edge} {guard : Option (Nat × Bool)} {K : VP → List HP → Prop}
theorem OpT.calls {f : FuncId} {fo : Operand} {as : Array Operand} {ts : Array TypeId} {caps : Array Value} (hf : FnOK P f) (hfo : Ev s fo (eqv (.func (.func f) #[] caps)))
    (h : ∀ a r S w, a.defers = [] → WInv C.w0 C.base s.objs r S w → SlotsOK s.slots a r w → Calls P f (as.map a.eval ++ caps) w (retR C.w0 C.base r w K)) :
    OpT C ⟨dst, .call { callee := .value fo, args := as, argTypes := ts }, ty, pos, after, guard⟩ s K := by
  intro a w r S Q hd hn hw hs
  obtain ⟨fn, h1, h2, h3⟩ := hf
  have hfo' := hfo a r w hs
  simp only [eqv] at hfo'
  unfold Oper.wp
  have hrun : (execOp a.eval ⟨dst, .call { callee := .value fo, args := as, argTypes := ts }, ty, pos, after, guard⟩).run P w = .ok (.enter f (as.map a.eval ++ caps)) w := by
    simp [execOp, resolve, hfo', Deferred.ofValue, invoke, run_callFunc_enter' h1 h2 h3]
  rw [hrun, Oper.upon_enter]
  refine (h a r S w hd hw hs).mono ?_
  rintro e w' ⟨v, x, objs', r', S', rfl, he, hw', hx, hk⟩
  exact ⟨v, r', S', x, objs', rfl, he, hw', hx, hk⟩

/-- A call by a contract that takes the caller's objects with it; captured values behind the arguments. -/
theorem opCallT {f : FuncId} {fo : Operand} {as : Array Operand} {ts : Array TypeId} {caps : Array Value} {args : List VP} (hf : FnOK P f) (hfo : Ev s fo (eqv (.func (.func f) #[] caps))) (ha : Args s as.toList args)
    (h : CallT P C.w0 C.base f (args ++ caps.toList.map eqv) s.objs K) : OpT C ⟨dst, .call { callee := .value fo, args := as, argTypes := ts }, ty, pos, after, guard⟩ s K :=
  .calls hf hfo fun a r S w hd hw hs => by
    obtain ⟨h1, h2⟩ := ha.ok hs
    refine h r S w _ hw (by simp at h1; simp [h1]) fun i A hi => ?_
    rw [List.getElem?_append] at hi
    split at hi
    · rename_i hlt
      have := h2 i A hi
      have hlt' : i < as.size := by simp at h1; omega
      simpa [Array.getElem?_append, hlt', List.getElem?_map, hlt'] using this
    · rename_i hge
      rw [List.getElem?_map, Option.map_eq_some_iff] at hi
      obtain ⟨u, hu, rfl⟩ := hi
      have hge' : ¬ i < as.size := by simp at h1; omega
      simp at h1
      rw [← h1] at hu
      have hlt2 := (List.getElem?_eq_some_iff.1 hu).1
      simp [eqv, Array.getElem?_append, hge']
      simp at hu
      rw [hu]; rfl

/-- A call by a contract that needs its arguments alone: what it returns may lie in the memory that the arguments read. -/
theorem opCallP {f : FuncId} {as : Array Operand} {ts : Array TypeId} {args : List VP} {K' : VP → List HP → Prop} (hf : FnOK P f) (ha : Args s as.toList args)
    (h : PureT P f args K') (k : ∀ x news, K' x news → K x (s.objs ++ news)) : OpT C ⟨dst, .call { callee := .value (.func f), args := as, argTypes := ts }, ty, pos, after, guard⟩ s K :=
  .calls hf (Ev.func f) fun a r S w hd hw hs => by
    obtain ⟨h1, h2⟩ := ha.ok hs
    refine (h r w _ hw.old (by simp at h1; simp [h1]) fun i A hi => ?_).mono ?_
    · have := h2 i A hi
      have hlt : i < as.size := by have := (List.getElem?_eq_some_iff.1 hi).1; simp at h1; omega
      simpa [List.getElem?_map, hlt] using this
    · rintro e w' ⟨v, x, news, r', S', rfl, he, hw', hx, hk⟩
      refine ⟨v, x, _, r', _, rfl, ⟨he.1, he.2.1, fun b hb => (he.2.2 b hb).imp id (fun q => Nat.le_trans hw.size q)⟩, hw.join hw' r' he.1 (fun b hb => ?_) hw'.obj, hx, k _ _ hk⟩
      rcases he.2.2 b hb with q | q
      · exact .inl q
      · exact .inr ⟨q, hb⟩
/-- The same where the arguments may show objects of the caller's own; the results then are known without memory. -/
theorem opCallF {f : FuncId} {as : Array Operand} {ts : Array TypeId} {args : List VP} {K' : VP → List HP → Prop} (hf : FnOK P f) (ha : ArgsF C s as.toList args)
    (h : PureT P f args K') (k : ∀ x news, K' x news → x.flat ∧ (∀ H ∈ news, H.flat) ∧ K x (s.objs ++ news)) : OpT C ⟨dst, .call { callee := .value (.func f), args := as, argTypes := ts }, ty, pos, after, guard⟩ s K :=
  .calls hf (Ev.func f) fun a r S w hd hw hs => by
    obtain ⟨h1, h2⟩ := ha.ok hw hs
    refine (h _ w _ (fun _ h => h) (by simp at h1; simp [h1]) fun i A hi => ?_).mono ?_
    · have := h2 i A hi
      have hlt : i < as.size := by have := (List.getElem?_eq_some_iff.1 hi).1; simp at h1; omega
      simpa [List.getElem?_map, hlt] using this
    · rintro e w' ⟨v, x, news, r', S', rfl, he, hw', hx, hk⟩
      obtain ⟨k1, k2, k3⟩ := k _ _ hk
      exact ⟨v, x, _, r, _, rfl, ⟨fun _ h => h, fun b hb => he.2.1 b (hw.old b hb), fun _ h => .inl h⟩, hw.join hw' r (fun _ h => h) (fun b hb => .inl hb)
        (fun i H hi => k2 H (List.mem_of_getElem? hi) _ _ _ _ (hw'.obj i H hi)), k1 _ _ _ _ _ hx, k3⟩
/-- A call whose result is one value known without memory: a quiet operation. -/
theorem opCallQ {f : FuncId} {as : Array Operand} {ts : Array TypeId} {args : List VP} {x : VP} (hf : FnOK P f) (ha : ArgsF C s as.toList args)
    (h : PureT P f args fun y news => y = x ∧ news = []) (hx : x.flat) : OpQ C ⟨dst, .call { callee := .value (.func f), args := as, argTypes := ts }, ty, pos, after, guard⟩ s x :=
  opCallF hf ha h fun y news ⟨hy, hn⟩ => by subst hy; subst hn; exact ⟨hx, by simp, rfl, by simp⟩
end ops
end Px
