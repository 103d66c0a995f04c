/- Struct, array and slice literals; comparing structs. Conditions: none. -/
import Derived.Test.YtbfoamlmlbmmnaaPg
import Derived.Laws.StructEq
namespace Px
open Go Go.RowKit
set_option linter.unusedSimpArgs false
set_option linter.unusedVariables false

/-- Where a part of a literal lies: offset and size. -/
def tplace (P : Program) (t : TypeId) (i : Nat) : Option (Nat × Nat) := match P.underlying t with
  | some (.struct fs) => (fs[i]?).bind fun f => (P.info? f.type).map fun j => (f.offset, j.size)
  | some (.array _ e) => (P.info? e).map fun j => (i * j.size, j.size)
  | _ => none
def tbuild (P : Program) (t : TypeId) : Bool := match P.underlying t with
  | some (.struct fs) => fs.toList.all fun f => (P.info? f.type).isSome
  | some (.array _ e) => (P.info? e).isSome
  | _ => false

theorem foldl_splice : ∀ (vs : List Value) (k off : Nat) (cells : Array Value), off + k + vs.length ≤ cells.size →
    ((vs.zipIdx k).foldl (fun cs (p : Value × Nat) => cs.setIfInBounds (off + p.2) p.1) cells).toList = cells.toList.take (off + k) ++ vs ++ cells.toList.drop (off + k + vs.length)
  | [], k, off, cells, h => by simp
  | v :: vs, k, off, cells, h => by
    simp only [List.length_cons] at h
    rw [List.zipIdx_cons, List.foldl_cons, foldl_splice vs (k + 1) off (cells.setIfInBounds (off + k) v) (by simp; omega)]
    simp only [Array.toList_setIfInBounds]
    have hl : off + k < cells.toList.length := by simp; omega
    rw [show off + (k + 1) = off + k + 1 from rfl, List.take_set, List.drop_set]
    have e1 : (cells.toList.take (off + k + 1)).set (off + k) v = cells.toList.take (off + k) ++ [v] := by
      rw [List.take_succ_eq_append_getElem hl]
      rw [List.set_append_right _ _ (by rw [List.length_take]; omega)]
      have : off + k - (List.take (off + k) cells.toList).length = 0 := by rw [List.length_take]; omega
      rw [this]
      rfl
    have e2 : ¬ off + k + 1 + vs.length ≤ off + k := by omega
    rw [e1, if_pos (by omega)]
    simp only [List.append_assoc, List.singleton_append, List.length_cons]
    congr 3
    omega
theorem foldl_spliceA (v : Value) (off : Nat) (cells : Array Value) (h : off + v.cells.size ≤ cells.size) :
    (v.cells.zipIdx.foldl (fun cs (p : Value × Nat) => cs.setIfInBounds (off + p.2) p.1) cells) = (cells.toList.take off ++ v.cells.toList ++ cells.toList.drop (off + v.cells.toList.length)).toArray := by
  apply Array.ext'
  have := foldl_splice v.cells.toList 0 off cells (by simpa using h)
  rw [← Array.foldl_toList]
  simpa using this

/-- The parts of a literal laid over what was there. -/
def lay : List VP → List (Nat × List VP) → List VP
  | cs, [] => cs
  | cs, (off, ds) :: r => lay (cs.take off ++ ds ++ cs.drop (off + ds.length)) r
/-- The parts, their places and what their cells hold. -/
def Parts (s : St) (place : Nat → Option (Nat × Nat)) (n : Nat) : List (Nat × Operand) → List (Nat × List VP) → Prop
  | [], [] => True
  | (i, o) :: r, (off, ds) :: r' => place i = some (off, ds.length) ∧ off + ds.length ≤ n ∧ Ce s o ds ∧ Parts s place n r r'
  | _, _ => False
theorem lay_len : ∀ {cs : List VP} {ps : List (Nat × List VP)}, (∀ p ∈ ps, p.1 + p.2.length ≤ cs.length) → (lay cs ps).length = cs.length
  | cs, [], _ => rfl
  | cs, (off, ds) :: r, h => by
    have h0 := h _ (List.mem_cons_self ..)
    simp only at h0
    have hl : (cs.take off ++ ds ++ cs.drop (off + ds.length)).length = cs.length := by simp; omega
    rw [lay, lay_len (fun p hp => by rw [hl]; exact h p (List.mem_cons_of_mem _ hp)), hl]
theorem run_fill {s : St} {a : Act} {r : Nat → Prop} {w : World} (hs : SlotsOK s.slots a r w) {place place' : Nat → Option (Nat × Nat)} (hpl : ∀ i p, place i = some p → place' i = some p) {n : Nat} :
    ∀ (ps : List (Nat × Operand)) (qs : List (Nat × List VP)) (cs : List VP) (cells : Array Value), cells.size = n → Parts s place n ps qs → CellsH r w cs cells.toList →
      ∃ out : Array Value, Instr.fill place' cells (ps.map fun p => (p.1, a.eval p.2)) = some out ∧ CellsH r w (lay cs qs) out.toList
  | [], [], cs, cells, _, _, h => ⟨cells, rfl, h⟩
  | (i, o) :: ps, (off, ds) :: qs, cs, cells, hn, ⟨h1, h2, h3, h4⟩, h => by
    have hv := h3 a r w hs
    have hsz : (a.eval o).cells.size = ds.length := by have := hv.1; simp at this; omega
    have hcs : cs.length = n := by have := h.1; simp at this; omega
    have hb : off + (a.eval o).cells.size ≤ cells.size := by omega
    obtain ⟨out, ho, hh⟩ := run_fill hs hpl ps qs (cs.take off ++ ds ++ cs.drop (off + ds.length)) (cells.toList.take off ++ (a.eval o).cells.toList ++ cells.toList.drop (off + (a.eval o).cells.toList.length)).toArray
      (by simp; omega) h4 (CellsH.splice h hv off (by omega))
    refine ⟨out, ?_, hh⟩
    simp only [List.map_cons, Instr.fill, hpl i _ h1]
    rw [if_neg (by simp [hn, hsz]; omega), foldl_spliceA _ _ _ hb]
    exact ho
  | [], _ :: _, _, _, _, h, _ => h.elim
  | _ :: _, [], _, _, _, h, _ => h.elim

theorem run_places {P : Program} (w : World) : ∀ (fs : List Field), fs.all (fun f => (P.info? f.type).isSome) = true →
    (fs.mapM (m := Sem) fun f => do pure (f.offset, ← Go.sizeOf f.type)).run P w = .ok (fs.map fun f => (f.offset, P.cellsOf f.type)) w
  | [], _ => rfl
  | f :: fs, h => by
    simp only [List.all_cons, Bool.and_eq_true] at h
    obtain ⟨i, hi⟩ := Option.isSome_iff_exists.1 h.1
    have ih := run_places (P := P) w fs h.2
    have hsz : (Go.sizeOf f.type).run P w = .ok i.size w := by simp [Go.sizeOf, typeInfo, hi]
    rw [List.mapM_cons]
    simp only [Sem.run_bind, hsz, Result.andThen_ok, Sem.run_pure, ih, List.map_cons, Program.cellsOf, hi, Option.map_some, Option.getD_some]

section ops
variable {P : Program} {C : Cx P} {s : St} {dst : Option Tmp} {ty : TypeId} {pos : String} {after : Array Edge} {guard : Option (Nat × Bool)} {K : VP → List HP → Prop}
theorem opBuild {t : TypeId} {parts : Array (Nat × Operand)} (zs : List Value) (qs : List (Nat × List VP)) {out : List VP} (hz : tzero P t = some zs) (h1 : zs.all (·.oneCell') = true) (hb : tbuild P t = true)
    (hp : Parts s (tplace P t) zs.length parts.toList qs) (hout : lay (zs.map eqv) qs = out) : OpQ C ⟨dst, .build t parts, ty, pos, after, guard⟩ s (agg out) :=
  .val fun a r w hs => by
    obtain ⟨z, hzr, hzc⟩ := tzero_run hz w
    have hzs : z.cells.size = zs.length := by rw [← hzc]; simp
    have hz0 : CellsH r w (zs.map eqv) z.cells.toList := by rw [hzc]; exact cellsH_vals h1
    have hmap : (parts.map fun (p : Nat × Operand) => (p.1, a.eval p.2)).toList = parts.toList.map fun p => (p.1, a.eval p.2) := by simp
    unfold tbuild at hb
    split at hb
    · rename_i fs hu
      obtain ⟨o, ho, hh⟩ := run_fill hs (place := tplace P t) (place' := fun i => ((fs.toList.map fun f => (f.offset, P.cellsOf f.type)).toArray)[i]?) (by
        intro i p hpi
        simp only [tplace, hu] at hpi
        cases hf : fs[i]? with
        | none => rw [hf] at hpi; simp at hpi
        | some f =>
          rw [hf] at hpi
          simp only [Option.bind_some, Option.map_eq_some_iff] at hpi
          obtain ⟨j, hj, rfl⟩ := hpi
          simp [hf, Program.cellsOf, hj]) parts.toList qs _ z.cells hzs hp hz0
      refine ⟨.agg o, ?_, o, rfl, hout ▸ hh⟩
      have hpl := run_places w fs.toList hb
      have hpl' : (fs.mapM (m := Sem) fun f => do pure (f.offset, ← Go.sizeOf f.type)).run P w = .ok (fs.toList.map fun f => (f.offset, P.cellsOf f.type)).toArray w := by
        rw [Array.mapM_eq_mapM_toList]
        simp only [Sem.run_map, hpl, Result.andThen_ok]
      simp only [execOp, Instr.build, Sem.run_bind, hzr, Result.andThen_ok, run_underlying hu, hpl', hmap, ho, Sem.run_pure]
    · rename_i n e hu
      obtain ⟨j, hj⟩ := Option.isSome_iff_exists.1 hb
      obtain ⟨o, ho, hh⟩ := run_fill hs (place := tplace P t) (place' := fun i => some (i * j.size, j.size)) (by
        intro i p hpi
        simp only [tplace, hu, hj, Option.map_some] at hpi
        exact hpi) parts.toList qs _ z.cells hzs hp hz0
      refine ⟨.agg o, ?_, o, rfl, hout ▸ hh⟩
      simp only [execOp, Instr.build, Sem.run_bind, hzr, Result.andThen_ok, run_underlying hu, Go.sizeOf, typeInfo, run_program, hj, hmap, ho, Sem.run_pure]
    · cases hb

/-- The elements of a slice literal: all of them, in order. -/
def Elems {α : Type} (s : St) (e : α → List VP) : Nat → List (Nat × Operand) → List α → Prop
  | _, [], [] => True
  | k, (i, o) :: r, x :: l => i = k ∧ Ce s o (e x) ∧ Elems s e (k + 1) r l
  | _, _, _ => False
theorem run_fillE {α : Type} {s : St} {a : Act} {r : Nat → Prop} {w : World} (hs : SlotsOK s.slots a r w) {e : α → List VP} {sz : Nat} (he : ∀ x, (e x).length = sz) :
    ∀ (ps : List (Nat × Operand)) (l : List α) (k : Nat) (pre : List Value) (post : List Value), pre.length = k * sz → post.length = l.length * sz → Elems s e k ps l →
      ∃ us, Instr.fill (fun i => some (i * sz, sz)) (pre ++ post).toArray (ps.map fun p => (p.1, a.eval p.2)) = some (pre ++ us).toArray ∧ CellsH r w (l.flatMap e) us
  | [], [], k, pre, post, h1, h2, _ => ⟨[], by
      have : post = [] := List.eq_nil_of_length_eq_zero (by simpa using h2)
      subst this
      rfl, by simp [CellsH]⟩
  | (i, o) :: ps, x :: l, k, pre, post, h1, h2, ⟨hik, h3, h4⟩ => by
    subst hik
    have hv := h3 a r w hs
    have hsz : (a.eval o).cells.size = sz := by have := hv.1; simp at this; rw [he] at this; omega
    simp only [List.length_cons, Nat.add_mul, Nat.one_mul] at h2
    have hb : i * sz + (a.eval o).cells.size ≤ (pre ++ post).toArray.size := by simp; omega
    have hfold := foldl_spliceA (a.eval o) (i * sz) (pre ++ post).toArray hb
    have htl : (a.eval o).cells.toList.length = sz := by simpa using hsz
    have e1 : ((pre ++ post).toArray.toList.take (i * sz) ++ (a.eval o).cells.toList ++ (pre ++ post).toArray.toList.drop (i * sz + (a.eval o).cells.toList.length)) = (pre ++ (a.eval o).cells.toList) ++ post.drop sz := by
      simp only [List.toList_toArray, htl]
      rw [List.take_append_of_le_length (by omega), List.take_of_length_le (by omega), List.drop_append, List.drop_of_length_le (by omega)]
      simp only [List.nil_append]
      congr 2
      omega
    obtain ⟨us, hu, hh⟩ := run_fillE hs he ps l (i + 1) (pre ++ (a.eval o).cells.toList) (post.drop sz) (by rw [List.length_append, htl, h1, Nat.add_mul]; omega) (by rw [List.length_drop]; omega) h4
    refine ⟨(a.eval o).cells.toList ++ us, ?_, ?_⟩
    · simp only [List.map_cons, Instr.fill]
      rw [if_neg (by simp [hsz]; omega), hfold, e1, hu, List.append_assoc]
    · rw [List.flatMap_cons]
      exact CellsH.append hv hh
  | [], _ :: _, _, _, _, _, _, h => h.elim
  | _ :: _, [], _, _, _, _, _, h => h.elim
theorem opBuildSlice {α : Type} {t E : TypeId} {e : α → List VP} {sz by' n : Nat} {parts : Array (Nat × Operand)} (l : List α) (ht : tsl P t = some (E, sz, by')) (he : ∀ x, (e x).length = sz)
    (hl : l.length = n) (hbig : n * sz ≤ 16777216) (hp : Elems s e 0 parts.toList l) (k : ∀ v', K (eqv v') (s.objs ++ [row E e sz l v'])) : OpT C ⟨dst, .buildSlice t n parts, ty, pos, after, guard⟩ s K := by
  intro a w r S Q hd hn hw hs
  obtain ⟨i, zv, hu, hi, hzv, rfl, rfl, hzs, hpos⟩ := tsl_parts ht
  have hmap : (parts.map fun (p : Nat × Operand) => (p.1, a.eval p.2)).toList = parts.toList.map fun p => (p.1, a.eval p.2) := by simp
  obtain ⟨us, hfill, hus⟩ := run_fillE hs he parts.toList l 0 [] ((List.range (n * i.size)).map fun j => zv.cells[j % zv.cells.size]!) (by simp) (by simp [hl]) hp
  have hul : us.length = l.length * i.size := by rw [← hus.1, flatMap_len he]
  have hz : (zeroValue E).run P w = .ok zv w := by simp [zeroValue, typeInfo, hi, hzv]
  have harr : ∀ Z : Array Value, (n * i.size ≠ 0 → Z = zv.cells) → (Array.range (n * i.size)).map (fun j => Z[j % Z.size]!) = (([] : List Value) ++ (List.range (n * i.size)).map fun j => zv.cells[j % zv.cells.size]!).toArray := by
    intro Z hZ
    by_cases h0 : n * i.size = 0
    · rw [h0]
      apply Array.ext'
      simp
    · rw [hZ h0]
      apply Array.ext'
      simp [Array.toList_range]
  have hrun : (execOp a.eval ⟨dst, .buildSlice t n parts, ty, pos, after, guard⟩).run P w = .ok (.value (.slice (some ⟨w.heap.size, 0, none⟩) n n)) (w.alloc (.cells us.toArray E)) := by
    have hnb : ¬ n * i.size > 2 ^ 24 := by omega
    simp only [execOp, Instr.buildSlice, Sem.run_bind, run_underlying hu, Result.andThen_ok, Go.sizeOf, typeInfo, run_program, hi, Sem.run_pure, if_neg hnb]
    split
    · rename_i h0
      simp only [Sem.run_bind, Sem.run_pure, Result.andThen_ok]
      rw [harr _ (fun h => absurd h0 h), hmap, hfill]
      simp [newRow]
    · simp only [Sem.run_bind, hz, Sem.run_pure, Result.andThen_ok]
      rw [harr _ (fun _ => rfl), hmap, hfill]
      simp [newRow]
  unfold Oper.wp
  rw [hrun, Oper.upon_value]
  refine ⟨_, r, _, _, _, rfl, hw.evo_alloc _, hw.push _ _ ?_, rfl, k _⟩
  by_cases hlen : n ≤ maxLen
  · refine .inr ⟨w.heap.size, n, _, by rw [hl], rfl, heap_alloc_new w _, by omega, hlen, by simp [hul, hl], ?_⟩
    have : us.toArray.toList.take (l.length * i.size) = us := by rw [List.toList_toArray, ← hul]; exact List.take_length
    rw [this]
    exact hus.mono (fun _ h => h) (fun b hb => Below.heap_alloc _ _ _ (hw.old b hb))
  · have : n ≤ n * i.size := Nat.le_mul_of_pos_right _ hpos
    simp [maxLen] at hlen
    omega

theorem CellsH.vals {r : Nat → Prop} {w : World} : ∀ {vs us : List Value}, CellsH r w (vs.map eqv) us → us = vs := by
  intro vs us h
  apply List.ext_getElem?
  intro j
  by_cases hj : j < vs.length
  · obtain ⟨u, hu, hA, _⟩ := h.2 j (eqv vs[j]) (by simp [hj])
    simp only [eqv] at hA
    rw [hu, hA, List.getElem?_eq_getElem hj]
  · have := h.1
    simp at this
    rw [List.getElem?_eq_none (by omega), List.getElem?_eq_none (by omega)]
/-- Two structs (or arrays) compared. -/
theorem opEqS {t t' : TypeId} {x y : Operand} {cs ds : List VP} (vs us : List Value) {g : Bool} (hx : Ev s x (agg cs)) (hy : Ev s y (agg ds)) (hcs : cs = vs.map eqv) (hds : ds = us.map eqv)
    (hg : P.eqGuardType P.depth t = false) (hr : ∀ w, (Op.equal t (.agg vs.toArray) (.agg us.toArray)).run P w = .ok g w) : OpQ C ⟨dst, .binOp .eql t x y t', ty, pos, after, guard⟩ s (bv g) :=
  .val fun a r w hs => by
    obtain ⟨xs, hxv, hxc⟩ := hx a r w hs
    obtain ⟨ys, hyv, hyc⟩ := hy a r w hs
    subst hcs; subst hds
    have e1 : xs = vs.toArray := by rw [← hxc.vals]
    have e2 : ys = us.toArray := by rw [← hyc.vals]
    subst e1; subst e2
    exact ⟨_, by simp [execOp, hxv, hyv, eqGuard, hg, binOp, hr w], rfl⟩
theorem opNeS {t t' : TypeId} {x y : Operand} {cs ds : List VP} (vs us : List Value) {g : Bool} (hx : Ev s x (agg cs)) (hy : Ev s y (agg ds)) (hcs : cs = vs.map eqv) (hds : ds = us.map eqv)
    (hg : P.eqGuardType P.depth t = false) (hr : ∀ w, (Op.equal t (.agg vs.toArray) (.agg us.toArray)).run P w = .ok g w) : OpQ C ⟨dst, .binOp .neq t x y t', ty, pos, after, guard⟩ s (bv (!g)) :=
  .val fun a r w hs => by
    obtain ⟨xs, hxv, hxc⟩ := hx a r w hs
    obtain ⟨ys, hyv, hyc⟩ := hy a r w hs
    subst hcs; subst hds
    have e1 : xs = vs.toArray := by rw [← hxc.vals]
    have e2 : ys = us.toArray := by rw [← hyc.vals]
    subst e1; subst e2
    exact ⟨_, by simp [execOp, hxv, hyv, eqGuard, hg, binOp, hr w], rfl⟩
end ops
end Px
