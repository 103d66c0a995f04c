/- Operations that change memory of the call's own: new variables, stores, append, make, slice literals. Conditions: none. -/
import Derived.Test.YtbfoamlmlbmmnaaPc
namespace Px
open Go Go.RowKit
set_option linter.unusedSimpArgs false
set_option linter.unusedVariables false

section winv
variable {w0 w w' : World} {base : Nat} {objs : List HP} {r : Nat → Prop} {S : Nat → Nat → Prop}
theorem WInv.push (h : WInv w0 base objs r S w) (H : HP) (o : Obj) (hH : H.h (fun b => b = w.heap.size) r (w.alloc o)) :
    WInv w0 base (objs ++ [H]) r (fun i b => (i = objs.length ∧ b = w.heap.size) ∨ S i b) (w.alloc o) where
  below := h.below.alloc h.size o
  size := by have := h.size; simp; omega
  obj := by
    intro i K hi
    rw [List.getElem?_append] at hi
    split at hi
    · rename_i hlt
      refine K.mono (S := fun b => (i = objs.length ∧ b = w.heap.size) ∨ S i b) (w := w) (fun _ h => h) (fun b hb => Below.heap_alloc _ _ _ (h.old b hb)) ?_ ?_
      · rintro b (⟨e, _⟩ | hb)
        · omega
        · exact Below.heap_alloc _ _ _ (h.own i b hb).2.2.1
      · have e : (fun b => (i = objs.length ∧ b = w.heap.size) ∨ S i b) = S i := by
          funext b
          have : ¬ i = objs.length := by omega
          simp [this]
        rw [e]
        exact h.obj i K hi
    · rename_i hge
      cases hk : i - objs.length with
      | succ k => rw [hk] at hi; simp at hi
      | zero =>
        rw [hk] at hi
        simp at hi
        subst hi
        have e1 : i = objs.length := by omega
        have e : (fun b => (i = objs.length ∧ b = w.heap.size) ∨ S i b) = fun b => b = w.heap.size := by
          funext b
          have : ¬ S i b := fun hb => by have := (h.own i b hb).1; omega
          exact propext ⟨fun h => h.elim (·.2) (fun hb => absurd hb this), fun h => .inl ⟨e1, h⟩⟩
        rw [e]
        exact hH
  own := by
    rintro i b (⟨rfl, rfl⟩ | hb)
    · have := h.size
      refine ⟨by simp, this, by simp, fun hr => ?_⟩
      have := h.old _ hr
      omega
    · obtain ⟨h1, h2, h3, h4⟩ := h.own i b hb
      exact ⟨by simp; omega, h2, by simp; omega, h4⟩
  apart := by
    rintro i j b (⟨rfl, rfl⟩ | hi) (⟨rfl, hj⟩ | hj)
    · rfl
    · have := (h.own _ _ hj).2.2.1; omega
    · subst hj; have := (h.own _ _ hi).2.2.1; omega
    · exact h.apart i j b hi hj
  old := fun b hb => by have := h.old b hb; simp; omega

/-- The object i is replaced: the other objects, and what is only read, stay. -/
theorem WInv.repl (h : WInv w0 base objs r S w) (i : Nat) (H : HP) (Sn : Nat → Prop) (hi : i < objs.length) (hos : w'.os = w.os) (htp : w'.tape = w.tape) (hout : w'.output = w.output) (hsz : w.heap.size ≤ w'.heap.size)
    (hblk : ∀ b, b < w.heap.size → ¬ S i b → w'.heap[b]? = w.heap[b]?) (hn : ∀ b, Sn b → base ≤ b ∧ b < w'.heap.size ∧ ¬ r b ∧ ∀ j, j ≠ i → ¬ S j b)
    (hH : H.h Sn r w') : WInv w0 base (objs.set i H) r (fun j b => (j = i ∧ Sn b) ∨ (j ≠ i ∧ S j b)) w' where
  below := h.below.trans ⟨hos, htp, hout, hsz, fun k hk => hblk k (by have := h.size; omega) (fun hs => by have := (h.own i k hs).2.1; omega)⟩
  size := Nat.le_trans h.size hsz
  obj := by
    intro j K hj
    by_cases e : j = i
    · subst e
      rw [List.getElem?_set_self (by simpa using hi)] at hj
      simp at hj
      subst hj
      have e' : (fun b => (j = j ∧ Sn b) ∨ (j ≠ j ∧ S j b)) = Sn := by funext b; simp
      rw [e']
      exact hH
    · rw [List.getElem?_set_ne (fun h => e h.symm)] at hj
      have e' : (fun b => (j = i ∧ Sn b) ∨ (j ≠ i ∧ S j b)) = S j := by funext b; simp [e]
      rw [e']
      refine K.mono (w := w) (fun _ h => h) (fun b hb => hblk b (h.old b hb) (fun hs => (h.own i b hs).2.2.2 hb)) (fun b hb => hblk b (h.own j b hb).2.2.1 (fun hs => e (h.apart j i b hb hs))) (h.obj j K hj)
  own := by
    rintro j b (⟨rfl, hb⟩ | ⟨_, hb⟩)
    · obtain ⟨h1, h2, h3, _⟩ := hn b hb
      exact ⟨by simpa using hi, h1, h2, h3⟩
    · obtain ⟨h1, h2, h3, h4⟩ := h.own j b hb
      exact ⟨by simpa using h1, h2, Nat.lt_of_lt_of_le h3 hsz, h4⟩
  apart := by
    rintro j k b (⟨rfl, hj⟩ | ⟨hj, hb⟩) (⟨rfl, hk⟩ | ⟨hk, hb'⟩)
    · rfl
    · exact absurd hb' ((hn b hj).2.2.2 k hk)
    · exact absurd hb ((hn b hk).2.2.2 j hj)
    · exact h.apart j k b hb hb'
  old := fun b hb => Nat.lt_of_lt_of_le (h.old b hb) hsz
theorem WInv.evo_repl (h : WInv w0 base objs r S w) (i : Nat) (hblk : ∀ b, b < w.heap.size → ¬ S i b → w'.heap[b]? = w.heap[b]?) : Evo base r w r w' :=
  ⟨fun _ h => h, fun b hb => hblk b (h.old b hb) (fun hs => (h.own i b hs).2.2.2 hb), fun _ h => .inl h⟩
theorem WInv.evo_alloc (h : WInv w0 base objs r S w) (o : Obj) : Evo base r w r (w.alloc o) :=
  ⟨fun _ h => h, fun b hb => Below.heap_alloc _ _ _ (h.old b hb), fun _ h => .inl h⟩
end winv

/-- What a value's cells hold. -/
def CellsV (r : Nat → Prop) (w : World) (cs : List VP) (v : Value) : Prop := CellsH r w cs v.cells.toList
def Ce (s : St) (x : Operand) (cs : List VP) : Prop := ∀ a r w, SlotsOK s.slots a r w → CellsV r w cs (a.eval x)
theorem Ce.agg {s : St} {x : Operand} {cs : List VP} (h : Ev s x (agg cs)) : Ce s x cs := fun a r w hs => by
  obtain ⟨vs, hv, hh⟩ := h a r w hs
  simpa [CellsV, hv, Value.cells] using hh
/-- What is known of the value makes sure that it fills one cell. -/
def One (A : VP) : Prop := ∀ r w v, A.h r w v → v.oneCell' = true
theorem One.eqv {u : Value} (h : u.oneCell' = true) : One (eqv u) := fun _ _ _ e => by simp only [Px.eqv] at e; subst e; exact h
theorem One.ro {α : Type} {e : α → List VP} {sz : Nat} {l : List α} : One (ro e sz l) := fun r w v h => by
  rcases h with ⟨⟨a', c', rfl⟩, _⟩ | ⟨b, o, cap, rfl, _⟩ <;> rfl
theorem One.rowp {sv : Value} {o : Nat} : One (rowp sv o) := fun r w v ⟨g, n, cap, _, h⟩ => by subst h; rfl
theorem One.rop {cs : List VP} : One (rop cs) := fun r w v ⟨b, o, h, _⟩ => by subst h; rfl
theorem Ce.one {s : St} {x : Operand} {A : VP} (h : Ev s x A) (ho : One A) : Ce s x [A] := fun a r w hs => by
  have hA := h a r w hs
  have h1 := ho _ _ _ hA
  have hc : (a.eval x).cells.toList = [a.eval x] := by
    revert h1
    generalize a.eval x = v
    cases v <;> simp [Value.oneCell', Value.cells]
  refine ⟨by rw [hc]; rfl, fun j B hj => ?_⟩
  cases j with
  | zero => simp at hj; subst hj; exact ⟨_, by rw [hc]; rfl, hA, h1⟩
  | succ j => simp at hj

section ops
variable {P : Program} {C : Cx P} {s : St} {dst : Option Tmp} {ty : TypeId} {pos : String} {after : Array Edge} {guard : Option (Nat × Bool)} {K : VP → List HP → Prop}

theorem OpT.push {o : Oper} (H : Nat → HP) (x : Nat → VP)
    (hr : ∀ a r S w, WInv C.w0 C.base s.objs r S w → SlotsOK s.slots a r w → ∃ ob v, (execOp a.eval o).run P w = .ok (.value v) (w.alloc ob) ∧ (x w.heap.size).h r (w.alloc ob) v ∧ (H w.heap.size).h (fun b => b = w.heap.size) r (w.alloc ob))
    (k : ∀ b, K (x b) (s.objs ++ [H b])) : OpT C o s K := by
  intro a w r S Q hd hn hw hs
  obtain ⟨ob, v, hrun, hx, hH⟩ := hr a r S w hw hs
  unfold Oper.wp
  rw [hrun, Oper.upon_value]
  exact ⟨v, r, _, _, _, rfl, hw.evo_alloc ob, hw.push _ ob hH, hx, k _⟩

/-- The zero value of a type, cell by cell. -/
def tzero (P : Program) (t : TypeId) : Option (List Value) := ((P.info? t).bind (·.zero)).map (·.cells.toList)
theorem tzero_run {P : Program} {t : TypeId} {zs : List Value} (h : tzero P t = some zs) (w : World) : ∃ z, (zeroValue t).run P w = .ok z w ∧ z.cells.toList = zs := by
  unfold tzero at h
  cases hi : P.info? t with
  | none => rw [hi] at h; simp at h
  | some i =>
    rw [hi] at h
    cases hz : i.zero with
    | none => simp [hz] at h
    | some z => simp [hz] at h; exact ⟨z, by simp [zeroValue, typeInfo, hi, hz], h⟩
theorem cellsH_vals {r : Nat → Prop} {w : World} {zs : List Value} (h : zs.all (·.oneCell') = true) : CellsH r w (zs.map eqv) zs := by
  refine ⟨by simp, fun j A hj => ?_⟩
  rw [List.getElem?_map, Option.map_eq_some_iff] at hj
  obtain ⟨u, hu, rfl⟩ := hj
  exact ⟨u, hu, rfl, by simpa using List.all_eq_true.1 h u (List.mem_of_getElem? hu)⟩
theorem box_alloc {r : Nat → Prop} {w : World} {T : TypeId} {cs : List VP} {cur : Array Value} (h : CellsH r w cs cur.toList) (ho : ∀ b, r b → b < w.heap.size) :
    (box w.heap.size T cs).h (fun b => b = w.heap.size) r (w.alloc (.cells cur T)) :=
  ⟨rfl, cur, heap_alloc_new w _, h.mono (fun _ h => h) (fun b hb => Below.heap_alloc _ _ _ (ho b hb))⟩

theorem opAlloc {t : TypeId} (zs : List Value) (hz : tzero P t = some zs) (h1 : zs.all (·.oneCell') = true) (k : ∀ b, K (eqv (.pointer (some ⟨b, 0, none⟩))) (s.objs ++ [box b t (zs.map eqv)])) :
    OpT C ⟨dst, .alloc t, ty, pos, after, guard⟩ s K :=
  .push (fun b => box b t (zs.map eqv)) (fun b => eqv (.pointer (some ⟨b, 0, none⟩))) (fun a r S w hw hs => by
    obtain ⟨z, hr, hc⟩ := tzero_run hz w
    refine ⟨.cells z.cells t, _, ?_, rfl, box_alloc (by rw [hc]; exact cellsH_vals h1) hw.old⟩
    simp [execOp, Instr.alloc, hr, newVar, newRow]) k
theorem opBox {t : TypeId} {x : Operand} {cs : List VP} (hx : Ce s x cs) (k : ∀ b, K (eqv (.pointer (some ⟨b, 0, none⟩))) (s.objs ++ [box b t cs])) :
    OpT C ⟨dst, .box t x, ty, pos, after, guard⟩ s K :=
  .push (fun b => box b t cs) (fun b => eqv (.pointer (some ⟨b, 0, none⟩))) (fun a r S w hw hs => by
    refine ⟨.cells (a.eval x).cells t, _, ?_, rfl, box_alloc (hx a r w hs) hw.old⟩
    simp [execOp, Instr.box, newVar, newRow]) k

theorem run_storeVar {P : Program} {t : TypeId} {g : Bool} {n : Nat} (ht : tload P t = some (g, n)) {w : World} {b o : Nat} {cur : Array Value} {T : TypeId} (hb : w.heap[b]? = some (.cells cur T (0, 0)))
    {v : Value} (hn : v.cells.size = n) (ho : o + n ≤ cur.size) (h1 : ∀ u ∈ v.cells.toList, u.oneCell' = true) :
    (Instr.storeAt t (.pointer (some ⟨b, o, none⟩)) v).run P w = .ok () (w.setRow b (cur.toList.take o ++ v.cells.toList ++ cur.toList.drop (o + v.cells.toList.length)).toArray) := by
  have := run_storeCells_at P b o T v.cells.toList 0 cur w hb (by simpa [hn] using ho) h1
  simp only [Nat.add_zero] at this
  simp [Instr.storeAt, Instr.sureAddr, storeVar, run_sizeOf' w ht, hn, this]
theorem CellsH.one {r : Nat → Prop} {w : World} {cs : List VP} {vs : List Value} (h : CellsH r w cs vs) : ∀ u ∈ vs, u.oneCell' = true := by
  intro u hu
  obtain ⟨j, hj⟩ := List.getElem?_of_mem hu
  have hlt := (List.getElem?_eq_some_iff.1 hj).1
  obtain ⟨u', hu', _, h1⟩ := h.2 j _ (List.getElem?_eq_getElem (by rw [h.1]; exact hlt))
  rw [hj] at hu'
  simp at hu'
  rw [hu']; exact h1
/-- Values stored over a part of what was there. -/
theorem CellsH.splice {r : Nat → Prop} {w : World} {cs ds : List VP} {vs us : List Value} (h : CellsH r w cs vs) (k : CellsH r w ds us) (o : Nat) (ho : o + ds.length ≤ cs.length) :
    CellsH r w (cs.take o ++ ds ++ cs.drop (o + ds.length)) (vs.take o ++ us ++ vs.drop (o + us.length)) := by
  have l1 := h.1
  have l2 := k.1
  refine ⟨by simp [l1, l2], fun j A hj => ?_⟩
  by_cases c1 : j < o
  · rw [List.append_assoc, List.getElem?_append_left (by simp; omega), List.getElem?_take, if_pos c1] at hj
    rw [List.append_assoc, List.getElem?_append_left (by simp; omega), List.getElem?_take, if_pos c1]
    exact h.2 j A hj
  · by_cases c2 : j < o + ds.length
    · rw [List.append_assoc, List.getElem?_append_right (by simp; omega), List.getElem?_append_left (by simp; omega)] at hj
      rw [List.append_assoc, List.getElem?_append_right (by simp; omega), List.getElem?_append_left (by simp; omega)]
      have e : (vs.take o).length = (cs.take o).length := by simp [l1]
      rw [e]
      exact k.2 _ A hj
    · rw [List.getElem?_append_right (by simp; omega), List.getElem?_drop] at hj
      rw [List.getElem?_append_right (by simp; omega), List.getElem?_drop]
      have e : o + ds.length + (j - (cs.take o ++ ds).length) = o + us.length + (j - (vs.take o ++ us).length) := by simp [l1, l2]
      rw [← e]
      exact h.2 _ A hj

theorem OpT.store {o : Oper} (hdst : o.dst = none) (i : Nat) (H : HP) (hi : i < s.objs.length)
    (hr : ∀ a r S w, WInv C.w0 C.base s.objs r S w → SlotsOK s.slots a r w → ∃ b cs, S i b ∧ (execOp a.eval o).run P w = .ok .skip (w.setRow b cs) ∧ H.h (S i) r (w.setRow b cs))
    (k : K topv (s.objs.set i H)) : OpT C o s K := by
  intro a w r S Q hd hn hw hs
  obtain ⟨b, cs, hS, hrun, hH⟩ := hr a r S w hw hs
  unfold Oper.wp
  rw [hrun, Oper.upon_skip]
  have hblk : ∀ b', b' < w.heap.size → ¬ S i b' → (w.setRow b cs).heap[b']? = w.heap[b']? := fun b' _ hb' => setRow_other w b b' cs (fun e => hb' (e ▸ hS))
  exact ⟨undef, r, _, topv, _, rfl, hw.evo_repl i hblk, hw.repl i H (S i) hi rfl rfl rfl (by simp) hblk (fun b' hb' => by
    obtain ⟨h1, h2, h3, h4⟩ := hw.own i b' hb'
    exact ⟨h2, by simpa using h3, h4, fun j hj hS' => hj (hw.apart j i b' hS' hb')⟩) hH, trivial, k⟩

theorem CellsH.setRow {w0 w : World} {base : Nat} {objs : List HP} {r : Nat → Prop} {S : Nat → Nat → Prop} (hw : WInv w0 base objs r S w) {i b : Nat} (hS : S i b) (cur : Array Value) {cs : List VP} {vs : List Value} (h : CellsH r w cs vs) :
    CellsH r (w.setRow b cur) cs vs :=
  h.mono (fun _ h => h) (fun b' hb' => setRow_other w b b' cur (fun e => (hw.own i b hS).2.2.2 (e ▸ hb')))
theorem opStore (i : Nat) {t T : TypeId} {g : Bool} {n b off : Nat} {x y : Operand} {cells cs out : List VP} (ht : tload P t = some (g, n)) (hx : Ev s x (eqv (.pointer (some ⟨b, off, none⟩)))) (hy : Ce s y cs) (ho : s.objs[i]? = some (box b T cells))
    (hl : cs.length = n) (hb : off + n ≤ cells.length) (hout : cells.take off ++ cs ++ cells.drop (off + n) = out)
    (k : K topv (s.objs.set i (box b T out))) : OpT C ⟨none, .store t x y, ty, pos, after, guard⟩ s K :=
  .store rfl i (box b T out) (List.getElem?_eq_some_iff.1 ho).1 (fun a r S w hw hs => by
    have hx' := hx a r w hs
    simp only [eqv] at hx'
    have hy' := hy a r w hs
    obtain ⟨hS, cur, hcur, hh⟩ := hw.obj i _ ho
    have hsz : (a.eval y).cells.size = n := by have := hy'.1; simp at this; omega
    have hbl : off + n ≤ cur.size := by have := hh.1; simp at this; omega
    refine ⟨b, (cur.toList.take off ++ (a.eval y).cells.toList ++ cur.toList.drop (off + (a.eval y).cells.toList.length)).toArray, hS, ?_, hS, _, setRow_heap w b cur _ T (0, 0) hcur, ?_⟩
    · simp only [execOp, hx', Sem.run_bind, run_storeVar ht hcur hsz hbl hy'.one]
      rfl
    · subst hl
      have := CellsH.splice hh hy' off hb
      rw [hout] at this
      have := CellsH.setRow hw hS (cur.toList.take off ++ (a.eval y).cells.toList ++ cur.toList.drop (off + (a.eval y).cells.toList.length)).toArray this
      simpa using this) k

theorem flatMap_set {α : Type} {e : α → List VP} {sz : Nat} (he : ∀ x, (e x).length = sz) : ∀ (l : List α) (k : Nat) (x y : α) (fo : Nat) (cs : List VP), l[k]? = some x → fo + cs.length ≤ sz →
    e y = (e x).take fo ++ cs ++ (e x).drop (fo + cs.length) → (l.set k y).flatMap e = (l.flatMap e).take (k * sz + fo) ++ cs ++ (l.flatMap e).drop (k * sz + fo + cs.length)
  | [], k, x, y, fo, cs, h, _, _ => by simp at h
  | z :: l, 0, x, y, fo, cs, h, hf, hy => by
    simp at h
    subst h
    have hz := he z
    simp only [List.set_cons_zero, List.flatMap_cons, Nat.zero_mul, Nat.zero_add, hy]
    rw [List.take_append_of_le_length (by omega), List.drop_append_of_le_length (by omega)]
    simp
  | z :: l, k + 1, x, y, fo, cs, h, hf, hy => by
    simp at h
    have ih := flatMap_set he l k x y fo cs h hf hy
    have hz := he z
    have e1 : (k + 1) * sz + fo = (e z).length + (k * sz + fo) := by rw [hz, Nat.add_mul]; omega
    simp only [List.set_cons_succ, List.flatMap_cons, ih, e1, List.take_length_add_append, List.append_assoc, Nat.add_assoc, List.drop_length_add_append]

/-- A store into an element of a slice of the call's own. -/
theorem opStoreO {α : Type} (i : Nat) {t E : TypeId} {g : Bool} {n off k fo : Nat} {e : α → List VP} {sz : Nat} {l : List α} {sv : Value} {z z' : α} {x y : Operand} {cs : List VP} (he : ∀ x, (e x).length = sz) (ht : tload P t = some (g, n))
    (hx : Ev s x (rowp sv off)) (hy : Ce s y cs) (ho : s.objs[i]? = some (row E e sz l sv)) (hl : cs.length = n) (hoff : off = k * sz + fo) (hz : l[k]? = some z) (hf : fo + n ≤ sz)
    (hz' : e z' = (e z).take fo ++ cs ++ (e z).drop (fo + n)) (kk : K topv (s.objs.set i (row E e sz (l.set k z') sv))) : OpT C ⟨none, .store t x y, ty, pos, after, guard⟩ s K :=
  .store rfl i _ (List.getElem?_eq_some_iff.1 ho).1 (fun a r S w hw hs => by
    obtain ⟨g', n', cap', hsv, hx'⟩ := hx a r w hs
    have hy' := hy a r w hs
    rcases hw.obj i _ ho with ⟨hn, _⟩ | ⟨g2, cap, cur, hv', hS, hcur, hll, hm, hsz, hh⟩
    · rw [hsv] at hn; cases hn
    · rw [hsv] at hv'
      simp only [Value.slice.injEq, Option.some.injEq, Addr.mk.injEq] at hv'
      obtain ⟨⟨rfl, _⟩, rfl, rfl⟩ := hv'
      have hvs : (a.eval y).cells.size = n := by have := hy'.1; simp at this; omega
      have hk := (List.getElem?_eq_some_iff.1 hz).1
      have hle : (k + 1) * sz ≤ l.length * sz := Nat.mul_le_mul_right _ hk
      have hle2 : l.length * sz ≤ cap' * sz := Nat.mul_le_mul_right _ hll
      rw [Nat.add_mul] at hle
      have hbl : off + n ≤ cur.size := by omega
      refine ⟨g', (cur.toList.take off ++ (a.eval y).cells.toList ++ cur.toList.drop (off + (a.eval y).cells.toList.length)).toArray, hS, ?_, ?_⟩
      · simp only [execOp, hx', Sem.run_bind, run_storeVar ht hcur hvs hbl hy'.one]
        rfl
      · refine .inr ⟨g', cap', _, ?_, hS, setRow_heap w g' cur _ E (0, 0) hcur, by simpa using hll, hm, ?_, ?_⟩
        · simpa using hsv
        · simp
          omega
        · have hfl := flatMap_len he l
          subst hl
          have := CellsH.splice hh hy' off (by rw [hfl]; omega)
          rw [hoff, ← flatMap_set he l k z z' fo cs hz hf hz'] at this
          have := CellsH.setRow hw hS (cur.toList.take off ++ (a.eval y).cells.toList ++ cur.toList.drop (off + (a.eval y).cells.toList.length)).toArray this
          have e1 : (a.eval y).cells.toList.length = cs.length := by simpa using hvs
          have hcs : cur.toList.length = cur.size := by simp
          refine cast ?_ this
          congr 1
          rw [e1, hoff, List.toList_toArray, List.length_set, List.take_append, List.take_append]
          have l1 : (List.take (k * sz + fo) cur.toList).length = k * sz + fo := by rw [List.length_take]; omega
          rw [List.length_append, l1, e1]
          rw [List.take_of_length_le (l := List.take (k * sz + fo) cur.toList) (by rw [l1]; omega), List.take_of_length_le (l := (a.eval y).cells.toList) (by rw [e1]; omega)]
          rw [List.take_take, Nat.min_eq_left (by omega), List.drop_take]) kk
end ops
end Px
