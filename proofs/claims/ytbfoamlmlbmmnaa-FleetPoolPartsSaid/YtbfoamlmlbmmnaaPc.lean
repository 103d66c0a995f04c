/- Memory: objects of the call's own (boxes, rows), memory that is only read; reading it; addresses. Conditions: none. -/
import Derived.Test.YtbfoamlmlbmmnaaPb
namespace Px
open Go Go.RowKit
set_option linter.unusedSimpArgs false
set_option linter.unusedVariables false

/-- The cells from b, o on hold what cs says. -/
def CellsRd (w : World) (ro : Nat → Prop) (b o : Nat) (cs : List VP) : Prop :=
  ∀ (j : Nat) (A : VP), cs[j]? = some A → ∃ u, w.cell? ⟨b, o + j, none⟩ = some u ∧ A.h ro w u ∧ u.oneCell' = true
/-- A list of values of which cs is known. -/
def CellsH (ro : Nat → Prop) (w : World) (cs : List VP) (vs : List Value) : Prop :=
  cs.length = vs.length ∧ ∀ (j : Nat) (A : VP), cs[j]? = some A → ∃ u, vs[j]? = some u ∧ A.h ro w u ∧ u.oneCell' = true

theorem cell_same {w w' : World} {b o : Nat} (h : w'.heap[b]? = w.heap[b]?) : w'.cell? ⟨b, o, none⟩ = w.cell? ⟨b, o, none⟩ := by simp [World.cell?, h]

theorem CellsRd.mono {w w' : World} {ro ro' : Nat → Prop} {b o : Nat} {cs : List VP} (h1 : ∀ b, ro b → ro' b) (h2 : ∀ b, ro b → w'.heap[b]? = w.heap[b]?)
    (hb : w'.heap[b]? = w.heap[b]?) (h : CellsRd w ro b o cs) : CellsRd w' ro' b o cs := fun j A hj => by
  obtain ⟨u, hc, hA, ho⟩ := h j A hj
  exact ⟨u, (cell_same hb).trans hc, A.mono h1 h2 hA, ho⟩
theorem CellsH.mono {w w' : World} {ro ro' : Nat → Prop} {cs : List VP} {vs : List Value} (h1 : ∀ b, ro b → ro' b) (h2 : ∀ b, ro b → w'.heap[b]? = w.heap[b]?)
    (h : CellsH ro w cs vs) : CellsH ro' w' cs vs := ⟨h.1, fun j A hj => by
  obtain ⟨u, hc, hA, ho⟩ := h.2 j A hj
  exact ⟨u, hc, A.mono h1 h2 hA, ho⟩⟩
theorem CellsRd.drop {w : World} {ro : Nat → Prop} {b o : Nat} {cs : List VP} (h : CellsRd w ro b o cs) (n : Nat) : CellsRd w ro b (o + n) (cs.drop n) := fun j A hj => by
  rw [List.getElem?_drop] at hj
  have := h (n + j) A hj
  rwa [← Nat.add_assoc] at this
theorem CellsRd.take {w : World} {ro : Nat → Prop} {b o : Nat} {cs : List VP} (h : CellsRd w ro b o cs) (n : Nat) : CellsRd w ro b o (cs.take n) := fun j A hj => by
  rw [List.getElem?_take] at hj
  split at hj
  · exact h j A hj
  · cases hj

/-- A struct or an array as a value. -/
def agg (cs : List VP) : VP := ⟨fun ro w v => ∃ vs : Array Value, v = .agg vs ∧ CellsH ro w cs vs.toList, fun h1 h2 ⟨vs, e, h⟩ => ⟨vs, e, h.mono h1 h2⟩⟩
/-- A slice of memory that is only read: its elements are l, each reads as e says, in sz cells. -/
def ro {α : Type} (e : α → List VP) (sz : Nat) (l : List α) : VP :=
  ⟨fun r w v => ((∃ a cap, v = .slice a 0 cap) ∧ l = []) ∨ ∃ b o cap, v = .slice (some ⟨b, o, none⟩) l.length cap ∧ ∀ (i : Nat) (x : α), l[i]? = some x → r b ∧ CellsRd w r b (o + i * sz) (e x),
   fun h1 h2 h => by
    rcases h with h | ⟨b, o, cap, hv, h⟩
    · exact .inl h
    · exact .inr ⟨b, o, cap, hv, fun i x hi => ⟨h1 _ (h i x hi).1, (h i x hi).2.mono h1 h2 (h2 _ (h i x hi).1)⟩⟩⟩
/-- A pointer to cells that are only read. -/
def rop (cs : List VP) : VP :=
  ⟨fun r w v => ∃ b o, v = .pointer (some ⟨b, o, none⟩) ∧ r b ∧ CellsRd w r b o cs, fun h1 h2 ⟨b, o, hv, hr, h⟩ => ⟨b, o, hv, h1 _ hr, h.mono h1 h2 (h2 _ hr)⟩⟩
/-- A pointer to the cell off of the array behind a slice of the call's own. -/
def rowp (sv : Value) (off : Nat) : VP := ⟨fun _ _ v => ∃ g n cap, sv = .slice (some ⟨g, 0, none⟩) n cap ∧ v = .pointer (some ⟨g, off, none⟩), fun _ _ h => h⟩

/-- A variable (or an array) of the call's own, in block b. -/
def box (b : Nat) (T : TypeId) (cs : List VP) : HP :=
  ⟨fun S r w => S b ∧ ∃ cur : Array Value, w.heap[b]? = some (.cells cur T (0, 0)) ∧ CellsH r w cs cur.toList,
   fun h1 h2 h3 ⟨hS, cur, hc, h⟩ => ⟨hS, cur, (h3 _ hS).trans hc, h.mono h1 h2⟩⟩
/-- A slice of the call's own: nil, or a whole array that nobody else knows. -/
def row {α : Type} (E : TypeId) (e : α → List VP) (sz : Nat) (l : List α) (sv : Value) : HP :=
  ⟨fun S r w => (sv = .slice none 0 0 ∧ l = []) ∨ ∃ g cap, ∃ cur : Array Value, sv = .slice (some ⟨g, 0, none⟩) l.length cap ∧ S g ∧ w.heap[g]? = some (.cells cur E (0, 0)) ∧
      l.length ≤ cap ∧ cap ≤ maxLen ∧ cur.size = cap * sz ∧ CellsH r w (l.flatMap e) (cur.toList.take (l.length * sz)),
   fun h1 h2 h3 h => by
    rcases h with h | ⟨g, cap, cur, hv, hS, hc, hl, hm, hs, h⟩
    · exact .inl h
    · exact .inr ⟨g, cap, cur, hv, hS, (h3 _ hS).trans hc, hl, hm, hs, h.mono h1 h2⟩⟩
/-- Nothing is known. -/
def emp : HP := ⟨fun _ _ _ => True, fun _ _ _ h => h⟩

/-- The type's form and size, for loads and stores. -/
def tload (P : Program) (t : TypeId) : Option (Bool × Nat) := match P.underlying t, P.info? t with
  | some d, some i => some (match d with | .struct _ | .array _ _ => true | _ => false, i.size)
  | _, _ => none
/-- The offset of a field. -/
def foff (P : Program) (t : TypeId) (f : Nat) : Option Nat := match P.underlying t with
  | some (.struct fs) => (fs[f]?).bind fun x => (P.info? x.type).bind fun i => if i.size = 0 then none else some x.offset
  | _ => none
/-- What an index goes into: (array or slice, its length, the size of an element). -/
def tidx (P : Program) (t : TypeId) : Option (Bool × Nat × Nat) := match P.underlying t with
  | some (.array n e) => (P.info? e).map fun i => (true, n, i.size)
  | some (.slice e) => (P.info? e).map fun i => (false, 0, i.size)
  | _ => none

section runs
variable {P : Program} {t : TypeId} {n : Nat} (w : World)
theorem tload_parts {b : Bool} (h : tload P t = some (b, n)) : ∃ d i, P.underlying t = some d ∧ P.info? t = some i ∧ i.size = n ∧ (match d with | .struct _ | .array _ _ => true | _ => false) = b := by
  unfold tload at h
  split at h
  · rename_i d i hd hi
    simp only [Option.some.injEq, Prod.mk.injEq] at h
    exact ⟨d, i, hd, hi, h.2, h.1⟩
  · cases h
theorem run_isAgg {b : Bool} (h : tload P t = some (b, n)) : (isAgg t).run P w = .ok b w := by
  obtain ⟨d, i, hd, hi, hs, hb⟩ := tload_parts h
  simp only [isAgg, Sem.run_bind, run_underlying hd, Result.andThen_ok]
  cases d <;> simp_all
theorem run_sizeOf' {b : Bool} (h : tload P t = some (b, n)) : (Go.sizeOf t).run P w = .ok n w := by
  obtain ⟨d, i, hd, hi, hs, hb⟩ := tload_parts h
  simp [Go.sizeOf, typeInfo, hi, hs]
theorem run_load1 {b o : Nat} {u : Value} (h : tload P t = some (false, n)) (hc : w.cell? ⟨b, o, none⟩ = some u) :
    (Instr.loadAt t (.pointer (some ⟨b, o, none⟩))).run P w = .ok u w := by
  simp [Instr.loadAt, Instr.sureAddr, loadVar, run_isAgg w h, hc]
theorem run_loadN {b o : Nat} {vs : List Value} (h : tload P t = some (true, vs.length)) (hc : ∀ j u, vs[j]? = some u → w.cell? ⟨b, o + j, none⟩ = some u) :
    (Instr.loadAt t (.pointer (some ⟨b, o, none⟩))).run P w = .ok (.agg vs.toArray) w := by
  have := run_loadCells_list (P := P) w ⟨b, o, none⟩ vs (fun j v hj => by rw [Addr.add_lit]; exact hc j v hj)
  simp [Instr.loadAt, Instr.sureAddr, loadVar, run_isAgg w h, run_sizeOf' w h, this]
theorem foff_parts {f off : Nat} (h : foff P t f = some off) : ∃ fs x i, P.underlying t = some (.struct fs) ∧ fs[f]? = some x ∧ P.info? x.type = some i ∧ i.size ≠ 0 ∧ x.offset = off := by
  unfold foff at h
  split at h
  · rename_i fs hfs
    cases hx : fs[f]? with
    | none => rw [hx] at h; simp at h
    | some x =>
      rw [hx] at h
      simp only [Option.bind_some] at h
      cases hi : P.info? x.type with
      | none => rw [hi] at h; simp at h
      | some i =>
        rw [hi] at h
        simp only [Option.bind_some] at h
        split at h
        · cases h
        · exact ⟨fs, x, i, hfs, hx, hi, by assumption, by simpa using h⟩
  · cases h
theorem run_fieldAt {f off b o : Nat} (h : foff P t f = some off) : (Instr.fieldAt t (.pointer (some ⟨b, o, none⟩)) f).run P w = .ok (.pointer (some ⟨b, o + off, none⟩)) w := by
  obtain ⟨fs, x, i, hfs, hx, hi, h0, ho⟩ := foff_parts h
  simp [Instr.fieldAt, run_underlying hfs, hx, Instr.sureAddr, fieldPlace, Go.sizeOf, typeInfo, hi, h0, Addr.add_lit, ho]
theorem tidx_arr {len esz : Nat} (h : tidx P t = some (true, len, esz)) : ∃ e i, P.underlying t = some (.array len e) ∧ P.info? e = some i ∧ i.size = esz := by
  unfold tidx at h
  split at h
  · rename_i n e hu
    cases hi : P.info? e with
    | none => rw [hi] at h; simp at h
    | some i => rw [hi] at h; simp at h; obtain ⟨rfl, rfl⟩ := h; exact ⟨e, i, hu, hi, rfl⟩
  · rename_i e hu
    cases hi : P.info? e with
    | none => rw [hi] at h; simp at h
    | some i => rw [hi] at h; simp at h
  · cases h
theorem tidx_sl {len esz : Nat} (h : tidx P t = some (false, len, esz)) : ∃ e i, P.underlying t = some (.slice e) ∧ P.info? e = some i ∧ i.size = esz := by
  unfold tidx at h
  split at h
  · rename_i n e hu
    cases hi : P.info? e with
    | none => rw [hi] at h; simp at h
    | some i => rw [hi] at h; simp at h
  · rename_i e hu
    cases hi : P.info? e with
    | none => rw [hi] at h; simp at h
    | some i => rw [hi] at h; simp at h; obtain ⟨rfl, rfl⟩ := h; exact ⟨e, i, hu, hi, rfl⟩
  · cases h
theorem run_indexArr {len esz b o : Nat} {k : IntKind} {m : Int} (h : tidx P t = some (true, len, esz)) (h0 : 0 ≤ m) (h1 : m < len) :
    (Instr.indexAt t (.pointer (some ⟨b, o, none⟩)) (.int k m)).run P w = .ok (.pointer (some ⟨b, o + m.toNat * esz, none⟩)) w := by
  obtain ⟨e, i, hu, hi, hs⟩ := tidx_arr h
  simp [Instr.indexAt, asIntOf, run_underlying hu, Instr.sureAddr, h0, h1, Go.sizeOf, typeInfo, hi, hs, Addr.add_lit]
theorem run_indexSl {esz b o n cap : Nat} {k : IntKind} {m : Int} (h : tidx P t = some (false, 0, esz)) (h0 : 0 ≤ m) (h1 : m < n) :
    (Instr.indexAt t (.slice (some ⟨b, o, none⟩) n cap) (.int k m)).run P w = .ok (.pointer (some ⟨b, o + m.toNat * esz, none⟩)) w := by
  obtain ⟨e, i, hu, hi, hs⟩ := tidx_sl h
  simp [Instr.indexAt, asIntOf, run_underlying hu, h0, h1, Go.sizeOf, typeInfo, hi, hs, Addr.add_lit]
end runs

/-- A pointer to cells that hold cs (whosever they are). -/
def Pt {P : Program} (C : Cx P) (s : St) (x : Operand) (cs : List VP) : Prop :=
  ∀ a r S w, WInv C.w0 C.base s.objs r S w → SlotsOK s.slots a r w → ∃ b o, a.eval x = .pointer (some ⟨b, o, none⟩) ∧ CellsRd w r b o cs

theorem CellsH.rd {w : World} {r : Nat → Prop} {cs : List VP} {cur : Array Value} {b : Nat} {T : TypeId} (hc : w.heap[b]? = some (.cells cur T (0, 0))) (h : CellsH r w cs cur.toList) : CellsRd w r b 0 cs := fun j A hj => by
  obtain ⟨u, hu, hA, ho⟩ := h.2 j A hj
  refine ⟨u, ?_, hA, ho⟩
  rw [Nat.zero_add, cell_of_row w b j cur T (0, 0) hc]
  simpa using hu

section pt
variable {P : Program} {C : Cx P} {s : St} {x : Operand}
theorem Pt.rop {cs : List VP} (h : Ev s x (rop cs)) : Pt C s x cs := fun a r S w hw hs => by
  obtain ⟨b, o, hv, _, hc⟩ := h a r w hs
  exact ⟨b, o, hv, hc⟩
theorem Pt.box (i : Nat) {b off : Nat} {T : TypeId} {cells cs : List VP} (h : Ev s x (eqv (.pointer (some ⟨b, off, none⟩)))) (ho : s.objs[i]? = some (box b T cells)) (hc : cells.drop off = cs) : Pt C s x cs := fun a r S w hw hs => by
  refine ⟨b, off, h a r w hs, ?_⟩
  obtain ⟨hS, cur, hcur, hh⟩ := hw.obj i _ ho
  have := (hh.rd hcur).drop off
  rw [Nat.zero_add, hc] at this
  exact this
end pt

theorem flatMap_slice {α : Type} {e : α → List VP} {sz : Nat} (he : ∀ x, (e x).length = sz) : ∀ (l : List α) (k : Nat) (x : α), l[k]? = some x → ∀ (j : Nat) (A : VP), (e x)[j]? = some A → (l.flatMap e)[k * sz + j]? = some A
  | [], k, x, h, _, _, _ => by simp at h
  | y :: l, 0, x, h, j, A, hj => by
    simp at h
    subst h
    rw [List.flatMap_cons, Nat.zero_mul, Nat.zero_add, List.getElem?_append_left (List.getElem?_eq_some_iff.1 hj).1]
    exact hj
  | y :: l, k + 1, x, h, j, A, hj => by
    simp at h
    have ih := flatMap_slice he l k x h j A hj
    have e1 : (k + 1) * sz + j = (e y).length + (k * sz + j) := by rw [he, Nat.add_mul]; omega
    rw [List.flatMap_cons, e1, List.getElem?_append_right (Nat.le_add_right _ _), Nat.add_sub_cancel_left]
    exact ih
theorem flatMap_len {α : Type} {e : α → List VP} {sz : Nat} (he : ∀ x, (e x).length = sz) : ∀ (l : List α), (l.flatMap e).length = l.length * sz
  | [] => by simp
  | y :: l => by simp [flatMap_len he l, he, Nat.add_mul, Nat.add_comm]

theorem Pt.row {P : Program} (C : Cx P) {s : St} {x : Operand} {α : Type} (i : Nat) {E : TypeId} {e : α → List VP} {sz : Nat} {l : List α} {sv : Value} {off k fo : Nat} {y : α} {cs : List VP} (he : ∀ x, (e x).length = sz)
    (h : Ev s x (rowp sv off)) (ho : s.objs[i]? = some (row E e sz l sv)) (hoff : off = k * sz + fo) (hy : l[k]? = some y) (hc : (e y).drop fo = cs) : Pt C s x cs := fun a r S w hw hs => by
  obtain ⟨g, n, cap, hv, hx⟩ := h a r w hs
  refine ⟨g, off, hx, ?_⟩
  rcases hw.obj i _ ho with ⟨hn, _⟩ | ⟨g', cap', cur, hv', hS, hcur, hl, hm, hsz, hh⟩
  · rw [hv] at hn; cases hn
  · rw [hv] at hv'
    simp only [Value.slice.injEq, Option.some.injEq, Addr.mk.injEq] at hv'
    obtain ⟨⟨rfl, _⟩, _, _⟩ := hv'
    intro j A hj
    rw [← hc, List.getElem?_drop] at hj
    have hfm := flatMap_slice he l k y hy (fo + j) A hj
    obtain ⟨u, hu, hA, h1⟩ := hh.2 _ _ hfm
    refine ⟨u, ?_, hA, h1⟩
    rw [List.getElem?_take] at hu
    split at hu
    · rw [cell_of_row w g _ cur E (0, 0) hcur, hoff, Nat.add_assoc]
      simpa using hu
    · cases hu

section ops
variable {P : Program} {C : Cx P} {s : St} {dst : Option Tmp} {ty : TypeId} {pos : String} {after : Array Edge} {guard : Option (Nat × Bool)}
theorem opLoad1 {t : TypeId} {x : Operand} {n : Nat} {A : VP} {cs : List VP} (ht : tload P t = some (false, n)) (h : Pt C s x (A :: cs)) : OpQ C ⟨dst, .load t x, ty, pos, after, guard⟩ s A :=
  .valO fun a r S w hw hs => by
    obtain ⟨b, o, hx, hc⟩ := h a r S w hw hs
    obtain ⟨u, hu, hA, _⟩ := hc 0 A rfl
    exact ⟨u, by simp [execOp, hx, run_load1 w ht (by simpa using hu)], hA⟩
theorem CellsRd.list {w : World} {r : Nat → Prop} {b o : Nat} {cs : List VP} (h : CellsRd w r b o cs) : ∃ vs : List Value, CellsH r w cs vs ∧ ∀ j u, vs[j]? = some u → w.cell? ⟨b, o + j, none⟩ = some u := by
  refine ⟨(List.range cs.length).map fun j => (w.cell? ⟨b, o + j, none⟩).getD undef, ⟨by simp, fun j A hj => ?_⟩, fun j u hj => ?_⟩
  · obtain ⟨u, hu, hA, h1⟩ := h j A hj
    have hlt := (List.getElem?_eq_some_iff.1 hj).1
    exact ⟨u, by simp [hlt, hu], hA, h1⟩
  · have hlt : j < cs.length := by have := (List.getElem?_eq_some_iff.1 hj).1; simpa using this
    obtain ⟨u', hu', _⟩ := h j _ (List.getElem?_eq_getElem hlt)
    simp [hlt, hu'] at hj
    rw [hu', hj]
theorem opLoadN {t : TypeId} {x : Operand} {cs : List VP} (ht : tload P t = some (true, cs.length)) (h : Pt C s x cs) : OpQ C ⟨dst, .load t x, ty, pos, after, guard⟩ s (agg cs) :=
  .valO fun a r S w hw hs => by
    obtain ⟨b, o, hx, hc⟩ := h a r S w hw hs
    obtain ⟨vs, hvs, hcell⟩ := hc.list
    refine ⟨_, by simp only [execOp, hx, Sem.run_bind, run_loadN w (hvs.1 ▸ ht) hcell]; rfl, _, rfl, by simpa using hvs⟩
theorem Pt.take {x : Operand} {cs : List VP} (n : Nat) {cs' : List VP} (h : Pt C s x cs) (hc : cs.take n = cs') : Pt C s x cs' := fun a r S w hw hs => by
  obtain ⟨b, o, hx, hh⟩ := h a r S w hw hs
  exact ⟨b, o, hx, hc ▸ hh.take n⟩

theorem opFieldP {t : TypeId} {f off b o : Nat} {x : Operand} (hf : foff P t f = some off) (h : Ev s x (eqv (.pointer (some ⟨b, o, none⟩)))) :
    OpQ C ⟨dst, .fieldAddr t x f, ty, pos, after, guard⟩ s (eqv (.pointer (some ⟨b, o + off, none⟩))) :=
  .val fun a r w hs => ⟨_, by have h1 := h a r w hs; simp only [eqv] at h1; simp [execOp, h1, run_fieldAt w hf], rfl⟩
theorem opFieldR {t : TypeId} {f off : Nat} {x : Operand} {cs cs' : List VP} (hf : foff P t f = some off) (h : Ev s x (rop cs)) (hc : cs.drop off = cs') :
    OpQ C ⟨dst, .fieldAddr t x f, ty, pos, after, guard⟩ s (rop cs') :=
  .val fun a r w hs => by
    obtain ⟨b, o, hx, hr, hh⟩ := h a r w hs
    exact ⟨_, by simp [execOp, hx, run_fieldAt w hf], b, o + off, rfl, hr, hc ▸ hh.drop off⟩
theorem opFieldO {t : TypeId} {f off o : Nat} {x : Operand} {sv : Value} (hf : foff P t f = some off) (h : Ev s x (rowp sv o)) :
    OpQ C ⟨dst, .fieldAddr t x f, ty, pos, after, guard⟩ s (rowp sv (o + off)) :=
  .val fun a r w hs => by
    obtain ⟨g, n, cap, hv, hx⟩ := h a r w hs
    exact ⟨_, by simp [execOp, hx, run_fieldAt w hf], g, n, cap, hv, rfl⟩

/-- An index into a slice that is only read. -/
theorem opIndexR {α : Type} {e : α → List VP} {sz : Nat} {l : List α} {t : TypeId} {x i : Operand} {k : IntKind} {m : Int} {y : α} (ht : tidx P t = some (false, 0, sz)) (h : Ev s x (ro e sz l)) (hi : Ev s i (iv k m))
    (h0 : 0 ≤ m) (hy : l[m.toNat]? = some y) : OpQ C ⟨dst, .indexAddr t x i, ty, pos, after, guard⟩ s (rop (e y)) :=
  .val fun a r w hs => by
    have h2 := hi a r w hs
    simp only [iv, eqv] at h2
    have hlt := (List.getElem?_eq_some_iff.1 hy).1
    rcases h a r w hs with ⟨_, rfl⟩ | ⟨b, o, cap, hv, hh⟩
    · simp at hlt
    · obtain ⟨hr, hc⟩ := hh _ _ hy
      exact ⟨_, by simp only [execOp, hv, h2, Sem.run_bind, run_indexSl w ht h0 (show m < (l.length : Int) by omega)]; rfl, b, _, rfl, hr, hc⟩
/-- An index into a slice of the call's own. -/
theorem opIndexO {α : Type} {E : TypeId} {e : α → List VP} {sz : Nat} {l : List α} {sv : Value} (j : Nat) {t : TypeId} {x i : Operand} {k : IntKind} {m : Int} (ht : tidx P t = some (false, 0, sz)) (h : Ev s x (eqv sv))
    (ho : s.objs[j]? = some (row E e sz l sv)) (hi : Ev s i (iv k m)) (h0 : 0 ≤ m) (h1 : m < l.length) : OpQ C ⟨dst, .indexAddr t x i, ty, pos, after, guard⟩ s (rowp sv (m.toNat * sz)) :=
  .valO fun a r S w hw hs => by
    have h2 := hi a r w hs
    have h3 := h a r w hs
    simp only [iv, eqv] at h2 h3
    rcases hw.obj j _ ho with ⟨_, rfl⟩ | ⟨g, cap, cur, hv, hS, hcur, hl, hm, hsz, hh⟩
    · simp at h1; omega
    · exact ⟨_, by simp only [execOp, h3, hv, h2, Sem.run_bind, run_indexSl w ht h0 h1, Nat.zero_add]; rfl, g, _, cap, hv, rfl⟩
/-- An index into an array of the call's own. -/
theorem opIndexA {t : TypeId} {len esz b o : Nat} {x i : Operand} {k : IntKind} {m : Int} (ht : tidx P t = some (true, len, esz)) (h : Ev s x (eqv (.pointer (some ⟨b, o, none⟩)))) (hi : Ev s i (iv k m))
    (h0 : 0 ≤ m) (h1 : m < len) : OpQ C ⟨dst, .indexAddr t x i, ty, pos, after, guard⟩ s (eqv (.pointer (some ⟨b, o + m.toNat * esz, none⟩))) :=
  .val fun a r w hs => ⟨_, by
    have h2 := hi a r w hs
    have h3 := h a r w hs
    simp only [iv, eqv] at h2 h3
    simp only [execOp, h3, h2, Sem.run_bind, run_indexArr w ht h0 h1]; rfl, rfl⟩
theorem opIndexAR {t : TypeId} {len esz : Nat} {x i : Operand} {k : IntKind} {m : Int} {cs cs' : List VP} (ht : tidx P t = some (true, len, esz)) (h : Ev s x (rop cs)) (hi : Ev s i (iv k m))
    (h0 : 0 ≤ m) (h1 : m < len) (hc : cs.drop (m.toNat * esz) = cs') : OpQ C ⟨dst, .indexAddr t x i, ty, pos, after, guard⟩ s (rop cs') :=
  .val fun a r w hs => by
    have h2 := hi a r w hs
    simp only [iv, eqv] at h2
    obtain ⟨b, o, hx, hr, hh⟩ := h a r w hs
    exact ⟨_, by simp only [execOp, hx, h2, Sem.run_bind, run_indexArr w ht h0 h1]; rfl, b, _, rfl, hr, hc ▸ hh.drop _⟩

def isSl (P : Program) (t : TypeId) : Bool := match P.underlying t with | some (.slice _) => true | _ => false
theorem run_lenSl {P : Program} (w : World) {t ty : TypeId} {a : Option Addr} {n cap : Nat} (h : isSl P t = true) : (Builtin.len_ #[t] ty #[.slice a n cap]).run P w = .ok (.int .i64 n) w := by
  unfold isSl at h
  split at h
  · rename_i e hu
    simp [Builtin.len_, run_underlying hu, goInt]
  · cases h
theorem exec_len {P : Program} {a : Act} {x : Operand} {t : TypeId} {w : World} {v : Value} (hr : (Builtin.len_ #[t] ty #[a.eval x]).run P w = .ok v w) :
    (execOp a.eval ⟨dst, .call { callee := .builtin .len, args := #[x], argTypes := #[t] }, ty, pos, after, guard⟩).run P w = .ok (.value v) w := by
  simp [execOp, resolve, invoke, builtin, hr]
theorem opLenR {α : Type} {e : α → List VP} {sz : Nat} {l : List α} {t : TypeId} {x : Operand} (ht : isSl P t = true) (h : Ev s x (ro e sz l)) :
    OpQ C ⟨dst, .call { callee := .builtin .len, args := #[x], argTypes := #[t] }, ty, pos, after, guard⟩ s (iv .i64 l.length) :=
  .val fun a r w hs => by
    rcases h a r w hs with ⟨⟨a', c', hv⟩, rfl⟩ | ⟨b, o, cap, hv, hh⟩
    · exact ⟨_, exec_len (by rw [hv]; exact run_lenSl w ht), rfl⟩
    · exact ⟨_, exec_len (by rw [hv]; exact run_lenSl w ht), rfl⟩
theorem opLenO {α : Type} {E : TypeId} {e : α → List VP} {sz : Nat} {l : List α} {sv : Value} (j : Nat) {t : TypeId} {x : Operand} (ht : isSl P t = true) (h : Ev s x (eqv sv)) (ho : s.objs[j]? = some (row E e sz l sv)) :
    OpQ C ⟨dst, .call { callee := .builtin .len, args := #[x], argTypes := #[t] }, ty, pos, after, guard⟩ s (iv .i64 l.length) :=
  .valO fun a r S w hw hs => by
    have h3 := h a r w hs
    simp only [eqv] at h3
    rcases hw.obj j _ ho with ⟨hv, rfl⟩ | ⟨g, cap, cur, hv, _⟩
    · exact ⟨_, exec_len (by rw [h3, hv]; exact run_lenSl w ht), rfl⟩
    · exact ⟨_, exec_len (by rw [h3, hv]; exact run_lenSl w ht), rfl⟩
theorem opLenA {n : Nat} {t : TypeId} {x : Operand} {e : TypeId} (ht : P.underlying t = some (.array n e)) :
    OpQ C ⟨dst, .call { callee := .builtin .len, args := #[x], argTypes := #[t] }, ty, pos, after, guard⟩ s (iv .i64 n) :=
  .val fun a r w hs => ⟨_, exec_len (by simp [Builtin.len_, run_underlying ht, goInt]), rfl⟩
end ops
end Px
