/- A slice of the call's own that is only read from now on; objects made under a condition; parts of values. Conditions: none. -/
import Derived.Test.YtbfoamlmlbmmnaaPj
import Derived.Laws.StructEq
namespace Px
open Go Go.RowKit
set_option linter.unusedSimpArgs false
set_option linter.unusedVariables false

/-- What A says, if sv is known as X. -/
def FzV (sv : Value) (X A B : VP) : Prop := ∀ r w v, X.h r w sv → A.h r w v → B.h r w v
def FzH (sv : Value) (X : VP) (A B : HP) : Prop := ∀ S r w, X.h r w sv → A.h S r w → B.h S r w
section fz
variable {sv : Value} {X : VP}
theorem FzV.refl {A : VP} : FzV sv X A A := fun _ _ _ _ h => h
theorem FzV.here : FzV sv X (eqv sv) X := fun r w v hx h => by
  simp only [eqv] at h; subst h; exact hx
def FzVs (sv : Value) (X : VP) : List VP → List VP → Prop
  | [], [] => True
  | A :: l, B :: m => FzV sv X A B ∧ FzVs sv X l m
  | _, _ => False
theorem FzVs.cells {r : Nat → Prop} {w : World} (hx : X.h r w sv) : ∀ {l m : List VP} {vs : List Value}, FzVs sv X l m → CellsH r w l vs → CellsH r w m vs
  | [], [], vs, _, h => h
  | A :: l, B :: m, vs, ⟨hA, hr⟩, h => by
    cases vs with
    | nil => simp [CellsH] at h
    | cons u vs =>
      have h' : CellsH r w l vs := ⟨by simpa using h.1, fun j D hj => by simpa using h.2 (j + 1) D (by simpa using hj)⟩
      have k := FzVs.cells hx hr h'
      refine ⟨by simpa using k.1, fun j D hj => ?_⟩
      cases j with
      | zero =>
        simp at hj; subst hj
        obtain ⟨u', hu, hAu, ho⟩ := h.2 0 A rfl
        exact ⟨u', hu, hA _ _ _ hx hAu, ho⟩
      | succ j => simpa using k.2 j D (by simpa using hj)
  | [], _ :: _, _, h, _ => h.elim
  | _ :: _, [], _, h, _ => h.elim
theorem FzV.agg {cs ds : List VP} (h : FzVs sv X cs ds) : FzV sv X (agg cs) (agg ds) := fun r w v hx ⟨vs, e, hh⟩ => ⟨vs, e, h.cells hx hh⟩
theorem FzH.refl {A : HP} : FzH sv X A A := fun _ _ _ _ h => h
theorem FzH.emp {A : HP} : FzH sv X A emp := fun _ _ _ _ _ => trivial
theorem FzH.box {b : Nat} {T : TypeId} {cs ds : List VP} (h : FzVs sv X cs ds) : FzH sv X (box b T cs) (box b T ds) := fun S r w hx ⟨hS, cur, hc, hh⟩ => ⟨hS, cur, hc, h.cells hx hh⟩

def FzSlots (sv : Value) (X : VP) (s : Slots) : List (Nat × VP) → Prop
  | [] => True
  | (t, B) :: l => (∃ A, s t = some A ∧ FzV sv X A B) ∧ FzSlots sv X s l
def FzObjs (sv : Value) (X : VP) : List HP → List HP → Prop
  | [], [] => True
  | A :: l, B :: m => FzH sv X A B ∧ FzObjs sv X l m
  | _, _ => False
theorem FzSlots.ok {s s' : Slots} {a : Act} {r : Nat → Prop} {w : World} (hx : X.h r w sv) (hs : SlotsOK s a r w) (hs' : SlotsOK s' a r w) : ∀ {L : List (Nat × VP)}, FzSlots sv X s L →
    SlotsOK (L.foldl (fun s p => s.set (some p.1) p.2) s') a r w := by
  intro L h
  induction L generalizing s' with
  | nil => exact hs'
  | cons p L ih =>
    obtain ⟨⟨A, hA, hf⟩, hr⟩ := h
    refine ih (s' := s'.set (some p.1) p.2) ?_ hr
    intro t B ht
    simp only [Slots.set] at ht
    by_cases e : t = p.1
    · subst e
      rw [Nat.beq_refl] at ht
      simp only [cond_true, Option.some.injEq] at ht
      subst ht
      exact hf _ _ _ hx (hs _ _ hA)
    · rw [beq_ne e] at ht
      exact hs' t B ht
theorem FzObjs.at : ∀ {l m : List HP}, FzObjs sv X l m → l.length = m.length ∧ ∀ (i : Nat) (B : HP), m[i]? = some B → ∃ A, l[i]? = some A ∧ FzH sv X A B
  | [], [], _ => ⟨rfl, fun i B h => by simp at h⟩
  | A :: l, B :: m, ⟨he, hm⟩ => by
    obtain ⟨h1, h2⟩ := FzObjs.at hm
    refine ⟨by simp [h1], fun i D hi => ?_⟩
    cases i with
    | zero => simp at hi; subst hi; exact ⟨A, rfl, he⟩
    | succ i => simpa using h2 i D (by simpa using hi)
  | [], _ :: _, h => h.elim
  | _ :: _, [], h => h.elim
end fz

section freeze
variable {P : Program} {C : Cx P} {s : St} {Q : Exit → Act → World → Prop} {c : Code} {e : Exit} {ops : Array Oper} {l : List Nat}
abbrev ovr (s : Slots) (L : List (Nat × VP)) : Slots := L.foldl (fun s p => s.set (some p.1) p.2) s
/-- The slice in object i is not written any more. -/
theorem Sat.freeze {a : Act} {w : World} {α : Type} {E : TypeId} {en : α → List VP} {sz : Nat} {l : List α} {sv : Value} (i : Nat) (ho : s.objs[i]? = some (row E en sz l sv)) (he : ∀ x, (en x).length = sz)
    (L : List (Nat × VP)) (O : List HP) (hL : FzSlots sv (ro en sz l) s.slots L) (hO : FzObjs sv (ro en sz l) (s.objs.set i emp) O) (h : Sat C s a w) : Sat C ⟨ovr s.slots L, O⟩ a w := by
  obtain ⟨hd, hn, r, S, hw, hev, hs⟩ := h
  have hi : i < s.objs.length := (List.getElem?_eq_some_iff.1 ho).1
  let r' : Nat → Prop := fun b => r b ∨ S i b
  have hrr : ∀ b, r b → r' b := fun b hb => .inl hb
  have hx : (ro en sz l).h r' w sv := by
    rcases hw.obj i _ ho with ⟨rfl, rfl⟩ | ⟨g, cap, cur, rfl, hS, hcur, hl, hm, hsz, hh⟩
    · exact .inl ⟨⟨none, 0, rfl⟩, rfl⟩
    · refine .inr ⟨g, 0, cap, rfl, fun k x hk => ⟨.inr hS, fun j A hj => ?_⟩⟩
      obtain ⟨u, hu, hA, h1⟩ := hh.2 _ A (flatMap_slice he l k x hk j A hj)
      refine ⟨u, ?_, A.mono hrr (fun _ _ => rfl) hA, h1⟩
      rw [Nat.zero_add, cell_of_row w g _ cur E (0, 0) hcur]
      rw [List.getElem?_take] at hu
      split at hu
      · simpa using hu
      · cases hu
  have hs' : SlotsOK s.slots a r' w := fun t A ht => A.mono hrr (fun _ _ => rfl) (hs t A ht)
  have hlen := hO.at.1
  rw [List.length_set] at hlen
  refine ⟨hd, hn, r', fun j b => j ≠ i ∧ S j b, ⟨hw.below, hw.size, ?_, ?_, ?_, ?_⟩, ?_, hL.ok hx hs' hs'⟩
  · intro j B hj
    obtain ⟨A, hA, hf⟩ := hO.at.2 j B hj
    refine hf _ _ _ hx ?_
    rw [List.getElem?_set] at hA
    split at hA
    · rename_i e; subst e
      simp only [hi, if_true, Option.some.injEq] at hA; subst hA; trivial
    · rename_i e
      have : (fun b => j ≠ i ∧ S j b) = S j := by
        funext b; exact propext ⟨fun h => h.2, fun h => ⟨fun h => e h.symm, h⟩⟩
      rw [this]
      exact A.mono hrr (fun _ _ => rfl) (fun _ _ => rfl) (hw.obj j A hA)
  · rintro j b ⟨hne, hb⟩
    obtain ⟨h1, h2, h3, h4⟩ := hw.own j b hb
    refine ⟨hlen ▸ h1, h2, h3, ?_⟩
    rintro (q | q)
    · exact h4 q
    · exact hne (hw.apart j i b hb q)
  · rintro j k b ⟨_, hb⟩ ⟨_, hb'⟩
    exact hw.apart j k b hb hb'
  · rintro b (q | q)
    · exact hw.old b q
    · exact (hw.own i b q).2.2.1
  · refine ⟨fun b hb => .inl (hev.1 b hb), hev.2.1, ?_⟩
    rintro b (q | q)
    · exact hev.2.2 b q
    · exact .inr (hw.own i b q).2.1
variable {α : Type} {E : TypeId} {en : α → List VP} {sz : Nat} {xs : List α} {sv : Value}
theorem RunOps.freeze (i : Nat) (L : List (Nat × VP)) (O : List HP) (ho : s.objs[i]? = some (row E en sz xs sv)) (he : ∀ x, (en x).length = sz)
    (hL : FzSlots sv (ro en sz xs) s.slots L) (hO : FzObjs sv (ro en sz xs) (s.objs.set i emp) O) (h : RunOps C ops l ⟨ovr s.slots L, O⟩ Q) : RunOps C ops l s Q :=
  fun a w hs => h a w (hs.freeze i ho he L O hL hO)
theorem AtX.freeze (i : Nat) (L : List (Nat × VP)) (O : List HP) (ho : s.objs[i]? = some (row E en sz xs sv)) (he : ∀ x, (en x).length = sz)
    (hL : FzSlots sv (ro en sz xs) s.slots L) (hO : FzObjs sv (ro en sz xs) (s.objs.set i emp) O) (h : AtX C ⟨ovr s.slots L, O⟩ e Q) : AtX C s e Q :=
  fun a w hs => h a w (hs.freeze i ho he L O hL hO)
theorem CodeT.freeze (i : Nat) (L : List (Nat × VP)) (O : List HP) (ho : s.objs[i]? = some (row E en sz xs sv)) (he : ∀ x, (en x).length = sz)
    (hL : FzSlots sv (ro en sz xs) s.slots L) (hO : FzObjs sv (ro en sz xs) (s.objs.set i emp) O) (h : CodeT C c ⟨ovr s.slots L, O⟩ Q) : CodeT C c s Q :=
  fun a w hs => h a w (hs.freeze i ho he L O hL hO)
/-- A slice of the call's own fills one cell. -/
theorem Sat.own1 {a : Act} {w : World} (h : Sat C s a w) (i : Nat) (ho : s.objs[i]? = some (row E en sz xs sv)) : sv.oneCell' = true := by
  obtain ⟨hd, hn, r, S, hw, hev, hs⟩ := h
  rcases hw.obj i _ ho with ⟨rfl, _⟩ | ⟨g, cap, cur, rfl, _⟩ <;> rfl
theorem RunOps.own1 (i : Nat) (ho : s.objs[i]? = some (row E en sz xs sv)) (h : sv.oneCell' = true → RunOps C ops l s Q) : RunOps C ops l s Q :=
  fun a w hs => h (hs.own1 i ho) a w hs

theorem OpT.own1 {o : Oper} {K : VP → List HP → Prop} (i : Nat) (ho : s.objs[i]? = some (row E en sz xs sv)) (h : sv.oneCell' = true → OpT C o s K) : OpT C o s K := by
  intro a w r S Q' hd hn hw hs
  have h1 : sv.oneCell' = true := by
    rcases hw.obj i _ ho with ⟨rfl, _⟩ | ⟨g, cap, cur, rfl, _⟩ <;> rfl
  exact h h1 a w r S Q' hd hn hw hs

/-- An object that is there only under a condition. -/
def when (g : Prop) [Decidable g] (H : HP) : HP := if g then H else emp
theorem when_at {O : List HP} {i : Nat} {g : Prop} [Decidable g] {H : HP} (h : O[i]? = some (when g H)) (hg : g) : O[i]? = some H := by
  rw [h, when, if_pos hg]
theorem WInv.empS {w0 w : World} {base : Nat} {objs : List HP} {r : Nat → Prop} {S : Nat → Nat → Prop} (h : WInv w0 base objs r S w) (news : List HP) (hn : ∀ H ∈ news, H = emp) : WInv w0 base (objs ++ news) r S w where
  below := h.below
  size := h.size
  obj := fun i H hi => by
    rw [List.getElem?_append] at hi
    split at hi
    · exact h.obj i H hi
    · have := hn H (List.mem_of_getElem? hi); subst this; trivial
  own := fun i b hb => by
    obtain ⟨h1, h2, h3, h4⟩ := h.own i b hb
    exact ⟨by simp; omega, h2, h3, h4⟩
  apart := h.apart
  old := h.old
/-- A guarded operation that makes objects. -/
theorem RunOps.cons_gn {i : Nat} {rest : List Nat} {o : Oper} {ζ : Type} [Inhabited ζ] (X : ζ → VP) (N : ζ → List HP) (p : Prop) [Decidable p] {j : Nat} {want : Bool} (ho : ops[i]? = some o) (hg : o.guard = some (j, want)) (hr : inRange C o = true)
    (hy : ∀ a ro w, SlotsOK s.slots a ro w → (p → yielded ops a.tmps j = some want) ∧ (¬ p → yielded ops a.tmps j ≠ some want))
    (hq : p → OpT C o s fun x objs => ∃ z, x = X z ∧ objs = s.objs ++ N z)
    (h : ∀ z, RunOps C ops rest ⟨s.slots.set o.dst (cnd p (X z)), s.objs ++ (N z).map fun H => when p H⟩ Q) : RunOps C ops (i :: rest) s Q := by
  rintro a w ⟨hd, hn, ro, S, hw, he, hs⟩
  obtain ⟨hy1, hy2⟩ := hy a ro w hs
  simp only [wpOps, ho, Region.wanted, hg]
  by_cases hc : p
  · simp only [hy1 hc, BEq.rfl, if_true]
    refine .inl (Oper.wp_mono ?_ (hq hc a w ro S Q hd hn hw hs))
    rintro a' w' ⟨v, ro', S', y, objs', rfl, e, hw', hx, z, rfl, rfl⟩
    have e1 : (N z).map (fun H => when p H) = N z := by
      rw [List.map_congr_left (g := id) (fun H _ => by simp [when, hc]), List.map_id]
    refine h z _ _ ?_
    rw [e1]
    exact sat_put hr hd hn hs he e hw' ⟨fun _ => hx, fun h => absurd hc h⟩
  · have : (yielded ops a.tmps j == some want) = false := by
      cases hb : (yielded ops a.tmps j == some want) with
      | false => rfl
      | true => exact absurd (by simpa using hb) (hy2 hc)
    rw [this]
    simp only [Bool.false_eq_true, if_false]
    refine h default _ _ (sat_put hr hd hn hs he (Evo.refl _ _ _) (hw.empS _ ?_) ⟨fun h => absurd h hc, fun _ => rfl⟩)
    intro H hH
    obtain ⟨H', _, rfl⟩ := List.mem_map.1 hH
    simp [when, hc]
theorem RunOps.cons_gnb {i : Nat} {rest : List Nat} {o : Oper} {ζ : Type} [Inhabited ζ] (X : ζ → VP) (N : ζ → List HP) (g : Bool) {j : Nat} {want : Bool} {t : Nat} (ho : ops[i]? = some o) (hg : o.guard = some (j, want)) (hr : inRange C o = true)
    (hj : (ops[j]?).bind (·.dst) = some t) (ht : s.slots t = some (bv g)) (hq : g = want → OpT C o s fun x objs => ∃ z, x = X z ∧ objs = s.objs ++ N z)
    (h : ∀ z, RunOps C ops rest ⟨s.slots.set o.dst (cnd (g = want) (X z)), s.objs ++ (N z).map fun H => when (g = want) H⟩ Q) : RunOps C ops (i :: rest) s Q :=
  .cons_gn X N (g = want) ho hg hr (fun _ _ _ hs => guard_b hj ht hs) hq h
theorem RunOps.cons_gnc {i : Nat} {rest : List Nat} {o : Oper} {ζ : Type} [Inhabited ζ] (X : ζ → VP) (N : ζ → List HP) (c : Prop) [Decidable c] (g : Bool) {j : Nat} {want : Bool} {t : Nat} (ho : ops[i]? = some o) (hg : o.guard = some (j, want)) (hr : inRange C o = true)
    (hj : (ops[j]?).bind (·.dst) = some t) (ht : s.slots t = some (cnd c (bv g))) (hq : c ∧ g = want → OpT C o s fun x objs => ∃ z, x = X z ∧ objs = s.objs ++ N z)
    (h : ∀ z, RunOps C ops rest ⟨s.slots.set o.dst (cnd (c ∧ g = want) (X z)), s.objs ++ (N z).map fun H => when (c ∧ g = want) H⟩ Q) : RunOps C ops (i :: rest) s Q :=
  .cons_gn X N (c ∧ g = want) ho hg hr (fun _ _ _ hs => guard_c hj ht hs) hq h
end freeze

section parts
variable {P : Program} {C : Cx P} {s : St} {dst : Option Tmp} {ty : TypeId} {pos : String} {after : Array Edge} {guard : Option (Nat × Bool)}
theorem Ev.val {x : Operand} {u : Value} (h : Ev s x (eqv u)) : ∀ a r w, SlotsOK s.slots a r w → a.eval x = u := fun a r w hs => h a r w hs
theorem opLoadN' {t : TypeId} {x : Operand} {cs : List VP} {n : Nat} (ht : tload P t = some (true, n)) (hn : cs.length = n) (h : Pt C s x cs) : OpQ C ⟨dst, .load t x, ty, pos, after, guard⟩ s (agg cs) := opLoadN (hn ▸ ht) h
theorem run_partN {t : TypeId} {n off : Nat} {vs : Array Value} (w : World) (h : tload P t = some (true, n)) : (part t vs off).run P w = .ok (.agg (vs.extract off (off + n))) w := by
  simp only [part, Sem.run_bind, run_isAgg w h, Result.andThen_ok, if_true, run_sizeOf' w h, Sem.run_pure]
theorem run_part1 {t : TypeId} {n off : Nat} {vs : Array Value} {u : Value} (w : World) (h : tload P t = some (false, n)) (hu : vs[off]? = some u) : (part t vs off).run P w = .ok u w := by
  simp only [part, Sem.run_bind, run_isAgg w h, Result.andThen_ok, Bool.false_eq_true, if_false, hu, Sem.run_pure]
theorem CellsH.extract {r : Nat → Prop} {w : World} {cs : List VP} {vs : Array Value} (h : CellsH r w cs vs.toList) (off n : Nat) : CellsH r w ((cs.drop off).take n) (vs.extract off (off + n)).toList := by
  have e : (vs.extract off (off + n)).toList = (vs.toList.drop off).take n := by
    simp [Array.toList_extract, List.take_drop, List.extract]
  rw [e]
  refine ⟨by simp [h.1], fun j A hj => ?_⟩
  rw [List.getElem?_take] at hj ⊢
  split at hj
  · rename_i c
    rw [if_pos c]
    rw [List.getElem?_drop] at hj ⊢
    exact h.2 _ A hj
  · cases hj
/-- The type and the length of an array. -/
def tarr (P : Program) (t : TypeId) : Option (Nat × TypeId) := match P.underlying t with
  | some (.array n e) => some (n, e)
  | _ => none
theorem tarr_parts {t E : TypeId} {N : Nat} (h : tarr P t = some (N, E)) : P.underlying t = some (.array N E) := by
  unfold tarr at h
  split at h
  · rename_i n e hu
    simp only [Option.some.injEq, Prod.mk.injEq] at h
    rw [hu, h.1, h.2]
  · cases h
/-- An element of an array that is a value: a struct. -/
theorem opIndexVN {α : Type} {t E : TypeId} {N sz : Nat} {x i : Operand} {k : IntKind} {m : Int} {e : α → List VP} {f : Nat → α} (ht : tarr P t = some (N, E)) (hE : tload P E = some (true, sz)) (h : Ev s x (agg (arr N e f))) (hi : Ev s i (iv k m))
    (he : ∀ x, (e x).length = sz) (h0 : 0 ≤ m) (h1 : m < N) : OpQ C ⟨dst, .index t x i, ty, pos, after, guard⟩ s (agg (e (f m.toNat))) :=
  .val fun a r w hs => by
    have h2 := hi a r w hs
    simp only [iv, eqv] at h2
    obtain ⟨vs, hx, hh⟩ := h a r w hs
    refine ⟨.agg (vs.extract (m.toNat * sz) (m.toNat * sz + sz)), by simp only [execOp, Instr.index, hx, h2, Sem.run_bind, asIntOf, Sem.run_pure, Result.andThen_ok, run_underlying (tarr_parts ht), if_pos (And.intro h0 h1), run_sizeOf' w hE, run_partN w hE], _, rfl, ?_⟩
    have := hh.extract (m.toNat * sz) sz
    rwa [arr_at he (by omega)] at this
/-- An element of an array that is a value: one cell. -/
theorem opIndexV1 {α : Type} {t E : TypeId} {N : Nat} {x i : Operand} {k : IntKind} {m : Int} {e : α → List VP} {f : Nat → α} {A : VP} (ht : tarr P t = some (N, E)) (hE : tload P E = some (false, 1)) (h : Ev s x (agg (arr N e f))) (hi : Ev s i (iv k m))
    (he : ∀ x, (e x).length = 1) (hA : e (f m.toNat) = [A]) (h0 : 0 ≤ m) (h1 : m < N) : OpQ C ⟨dst, .index t x i, ty, pos, after, guard⟩ s A :=
  .val fun a r w hs => by
    have h2 := hi a r w hs
    simp only [iv, eqv] at h2
    obtain ⟨vs, hx, hh⟩ := h a r w hs
    have hat := arr_at (e := e) (f := f) (N := N) (k := m.toNat) he (by omega)
    have hj : (arr N e f)[m.toNat * 1]? = some A := by
      have : (((arr N e f).drop (m.toNat * 1)).take 1)[0]? = some A := by rw [hat, hA]; rfl
      rw [List.getElem?_take, if_pos (by decide), List.getElem?_drop] at this
      simpa using this
    obtain ⟨u, hu, hAu, _⟩ := hh.2 _ A hj
    have hp := run_part1 (vs := vs) (off := m.toNat * 1) (u := u) w hE (by simpa using hu)
    exact ⟨u, by simp only [execOp, Instr.index, hx, h2, Sem.run_bind, asIntOf, Sem.run_pure, Result.andThen_ok, run_underlying (tarr_parts ht), if_pos (And.intro h0 h1), run_sizeOf' w hE, hp], hAu⟩
end parts

section equal
variable {P : Program}
/-- The offsets of the cells that are compared, if all are numbers, truth values or strings. -/
def teqF (P : Program) : List Field → Option (List Nat)
  | [] => some []
  | f :: fs => if f.name = "_" then none else match P.underlying f.type with
    | some (.int _) => (teqF P fs).map (f.offset :: ·)
    | some .bool => (teqF P fs).map (f.offset :: ·)
    | some .string => (teqF P fs).map (f.offset :: ·)
    | _ => none
def teq (P : Program) (t : TypeId) : Option (List Nat) := match P.underlying t with
  | some (.struct fs) => if P.stoodInHeld t then none else teqF P fs.toList
  | _ => none
def beqV : Value → Value → Bool
  | .int _ a, .int _ b => a == b
  | .bool a, .bool b => a == b
  | .string a, .string b => a == b
  | _, _ => false
/-- Both cells hold a value of one kind, as the type says. -/
def likeV (P : Program) (t : TypeId) : Option Value → Option Value → Bool
  | some (.int k _), some (.int k' _) => (match P.underlying t with | some (.int _) => true | _ => false) && k == k'
  | some (.bool _), some (.bool _) => match P.underlying t with | some .bool => true | _ => false
  | some (.string _), some (.string _) => match P.underlying t with | some .string => true | _ => false
  | _, _ => false
def likeF (P : Program) (xs ys : Array Value) (fs : List Field) : Bool := fs.all fun f => likeV P f.type xs[f.offset]? ys[f.offset]?
def isAggD : TypeDesc → Bool
  | .struct _ | .array _ _ => true
  | _ => false
theorem run_part1' {t : TypeId} {off : Nat} {vs : Array Value} {u : Value} {d : TypeDesc} (w : World) (hu : P.underlying t = some d) (hd : isAggD d = false) (h : vs[off]? = some u) : (part t vs off).run P w = .ok u w := by
  have : (isAgg t).run P w = .ok false w := by
    simp only [isAgg, Sem.run_bind, run_underlying hu, Result.andThen_ok]
    cases d <;> simp_all [isAggD]
  simp only [part, Sem.run_bind, this, Result.andThen_ok, Bool.false_eq_true, if_false, h, Sem.run_pure]
theorem run_eqFields_flat (w : World) (d : Nat) (xs ys : Array Value) : ∀ (fs : List Field) (ks : List Nat), teqF P fs = some ks → likeF P xs ys fs = true →
    (Op.eqFields (d + 1) xs ys fs).run P w = .ok (ks.foldr (fun o b => beqV (xs.getD o undef) (ys.getD o undef) && b) true) w
  | [], ks, h, _ => by
    simp only [teqF, Option.some.injEq] at h; subst h
    simp [Op.eqFields]
  | f :: fs, ks, h, hl => by
    simp only [teqF] at h
    split at h
    · cases h
    rename_i hn
    simp only [likeF, List.all_cons, Bool.and_eq_true] at hl
    obtain ⟨hl1, hl2⟩ := hl
    have key : ∀ ks', teqF P fs = some ks' → ks = f.offset :: ks' → ∀ (u v : Value), xs[f.offset]? = some u → ys[f.offset]? = some v → ∀ (dd : TypeDesc), P.underlying f.type = some dd → isAggD dd = false →
        (Op.equalIn (d + 1) f.type u v).run P w = .ok (beqV u v) w →
        (Op.eqFields (d + 1) xs ys (f :: fs)).run P w = .ok (ks.foldr (fun o b => beqV (xs.getD o undef) (ys.getD o undef) && b) true) w := by
      intro ks' hk hks u v hu hv dd hdd hda he
      have e1 : xs.getD f.offset undef = u := by simp [Array.getD_eq_getD_getElem?, hu]
      have e2 : ys.getD f.offset undef = v := by simp [Array.getD_eq_getD_getElem?, hv]
      simp only [Op.eqFields, ne_eq, hn, not_false_eq_true, if_true, Sem.run_bind, run_part1' w hdd hda hu, run_part1' w hdd hda hv, Result.andThen_ok, he]
      subst hks
      simp only [List.foldr_cons, e1, e2]
      cases hb : beqV u v with
      | false => simp
      | true => simpa using run_eqFields_flat w d xs ys fs ks' hk hl2
    split at h
    · rename_i k hu
      cases hk : teqF P fs with
      | none => rw [hk] at h; cases h
      | some ks' =>
        rw [hk] at h
        simp only [Option.map_some, Option.some.injEq] at h
        cases hx : xs[f.offset]? with
        | none => rw [hx] at hl1; simp [likeV] at hl1
        | some u =>
          cases hy : ys[f.offset]? with
          | none => rw [hx, hy] at hl1; cases u <;> simp [likeV] at hl1
          | some v =>
            rw [hx, hy] at hl1
            refine key ks' hk h.symm u v hx hy _ hu rfl ?_
            cases u <;> cases v <;> simp [likeV, hu] at hl1
            subst hl1
            exact run_equalIn_int w d f.type _ _ _ _ hu
    · rename_i hu
      cases hk : teqF P fs with
      | none => rw [hk] at h; cases h
      | some ks' =>
        rw [hk] at h
        simp only [Option.map_some, Option.some.injEq] at h
        cases hx : xs[f.offset]? with
        | none => rw [hx] at hl1; simp [likeV] at hl1
        | some u =>
          cases hy : ys[f.offset]? with
          | none => rw [hx, hy] at hl1; cases u <;> simp [likeV] at hl1
          | some v =>
            rw [hx, hy] at hl1
            refine key ks' hk h.symm u v hx hy _ hu rfl ?_
            cases u <;> cases v <;> simp [likeV, hu] at hl1
            exact run_equalIn_bool' w d f.type _ _ hu
    · rename_i hu
      cases hk : teqF P fs with
      | none => rw [hk] at h; cases h
      | some ks' =>
        rw [hk] at h
        simp only [Option.map_some, Option.some.injEq] at h
        cases hx : xs[f.offset]? with
        | none => rw [hx] at hl1; simp [likeV] at hl1
        | some u =>
          cases hy : ys[f.offset]? with
          | none => rw [hx, hy] at hl1; cases u <;> simp [likeV] at hl1
          | some v =>
            rw [hx, hy] at hl1
            refine key ks' hk h.symm u v hx hy _ hu rfl ?_
            cases u <;> cases v <;> simp [likeV, hu] at hl1
            rw [run_equalIn_string w d f.type _ _ hu, ← beq_toListBytes]; rfl
    · cases h
theorem run_equal_flat {t : TypeId} {ks : List Nat} {xs ys : Array Value} {g : Bool} (w : World) (h : teq P t = some ks) (hl : likeF P xs ys (P.fieldsOf t).toList = true)
    (hg : ks.foldr (fun o b => beqV (xs.getD o undef) (ys.getD o undef) && b) true = g) : (Op.equal t (.agg xs) (.agg ys)).run P w = .ok g w := by
  unfold teq at h
  split at h
  · rename_i fs hu
    split at h
    · cases h
    rename_i hs
    have hf : P.fieldsOf t = fs := by simp [Program.fieldsOf, hu]
    have e : (Op.equal t (.agg xs) (.agg ys)) = Op.equalIn (9998 + 1 + 1) t (.agg xs) (.agg ys) := rfl
    rw [e, run_equalIn_struct w (9998 + 1) t xs ys (by rw [hf, hu]) (by simpa using hs), run_eqFields_flat w 9998 xs ys _ ks (by rw [hf]; exact h) hl, hg]
  · cases h
end equal
end Px
