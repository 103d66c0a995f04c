/- append, make, slice and struct literals. Conditions: none. -/
import Derived.Test.YtbfoamlmlbmmnaaPd
namespace Px
open Go Go.RowKit
set_option linter.unusedSimpArgs false
set_option linter.unusedVariables false

/-- A slice type's element type, the cells and the bytes of an element. -/
def tsl (P : Program) (t : TypeId) : Option (TypeId × Nat × Nat) := match P.underlying t with
  | some (.slice e) => (P.info? e).bind fun i => i.zero.bind fun z => if z.cells.size = i.size ∧ 0 < i.size then some (e, i.size, i.bytes) else none
  | _ => none
theorem tsl_parts {P : Program} {t E : TypeId} {sz by' : Nat} (h : tsl P t = some (E, sz, by')) :
    ∃ i z, P.underlying t = some (.slice E) ∧ P.info? E = some i ∧ i.zero = some z ∧ i.size = sz ∧ i.bytes = by' ∧ z.cells.size = sz ∧ 0 < sz := by
  unfold tsl at h
  split at h
  · rename_i e hu
    cases hi : P.info? e with
    | none => rw [hi] at h; simp at h
    | some i =>
      rw [hi] at h
      simp only [Option.bind_some] at h
      cases hz : i.zero with
      | none => rw [hz] at h; simp at h
      | some z =>
        rw [hz] at h
        simp only [Option.bind_some] at h
        split at h
        · rename_i hc
          simp only [Option.some.injEq, Prod.mk.injEq] at h
          obtain ⟨rfl, rfl, rfl⟩ := h
          exact ⟨i, z, hu, hi, hz, rfl, rfl, hc.1, hc.2⟩
        · cases h
  · cases h

/-- A slice whose elements can be read: what is appended. -/
def Src {P : Program} (C : Cx P) (s : St) (x : Operand) (m : Nat) (cs : List VP) : Prop :=
  ∀ a r S w, WInv C.w0 C.base s.objs r S w → SlotsOK s.slots a r w →
    ((∃ a' c', a.eval x = .slice a' 0 c') ∧ m = 0 ∧ cs = []) ∨ ∃ b o c vs, a.eval x = .slice (some ⟨b, o, none⟩) m c ∧ CellsH r w cs vs ∧ ∀ j u, vs[j]? = some u → w.cell? ⟨b, o + j, none⟩ = some u

theorem flatMap_at {α : Type} {e : α → List VP} {sz : Nat} (he : ∀ x, (e x).length = sz) (hsz : 0 < sz) : ∀ (l : List α) (j : Nat) (A : VP), (l.flatMap e)[j]? = some A →
    ∃ x, l[j / sz]? = some x ∧ (e x)[j % sz]? = some A
  | [], j, A, h => by simp at h
  | y :: l, j, A, h => by
    by_cases hj : j < sz
    · rw [List.flatMap_cons, List.getElem?_append_left (by rw [he]; exact hj)] at h
      exact ⟨y, by rw [Nat.div_eq_of_lt hj]; rfl, by rw [Nat.mod_eq_of_lt hj]; exact h⟩
    · rw [List.flatMap_cons, List.getElem?_append_right (by rw [he]; omega), he] at h
      obtain ⟨x, hx, hA⟩ := flatMap_at he hsz l _ A h
      have e1 : j / sz = (j - sz) / sz + 1 := by
        rw [Nat.div_eq_sub_div hsz (by omega)]
      have e2 : j % sz = (j - sz) % sz := by
        rw [Nat.mod_eq_sub_mod (by omega)]
      exact ⟨x, by rw [e1]; simpa using hx, by rw [e2]; exact hA⟩

theorem Src.ro {P : Program} {C : Cx P} {s : St} {x : Operand} {α : Type} {e : α → List VP} {sz : Nat} {l : List α} (he : ∀ x, (e x).length = sz) (hsz : 0 < sz) (h : Ev s x (ro e sz l)) : Src C s x l.length (l.flatMap e) := fun a r S w hw hs => by
  rcases h a r w hs with ⟨hv, rfl⟩ | ⟨b, o, cap, hv, hh⟩
  · exact .inl ⟨hv, rfl, rfl⟩
  · have hrd : CellsRd w r b o (l.flatMap e) := by
      intro j A hj
      obtain ⟨y, hy, hA⟩ := flatMap_at he hsz l j A hj
      obtain ⟨u, hu, hA', h1⟩ := (hh _ _ hy).2 _ A hA
      refine ⟨u, ?_, hA', h1⟩
      rw [← hu]
      congr 2
      have := Nat.div_add_mod j sz
      rw [Nat.mul_comm] at this
      omega
    obtain ⟨vs, hvs, hc⟩ := hrd.list
    exact .inr ⟨b, o, cap, vs, hv, hvs, hc⟩
theorem Src.row {P : Program} {C : Cx P} {s : St} {x : Operand} {α : Type} (i : Nat) {E : TypeId} {e : α → List VP} {sz : Nat} {l : List α} {sv : Value} (h : Ev s x (eqv sv)) (ho : s.objs[i]? = some (row E e sz l sv)) : Src C s x l.length (l.flatMap e) := fun a r S w hw hs => by
  have hx := h a r w hs
  simp only [eqv] at hx
  rcases hw.obj i _ ho with ⟨hn, rfl⟩ | ⟨g, cap, cur, hv, hS, hcur, hl, hm, hsz, hh⟩
  · exact .inl ⟨⟨none, 0, by rw [hx, hn]⟩, rfl, rfl⟩
  · refine .inr ⟨g, 0, cap, _, by rw [hx, hv], hh, fun j u hj => ?_⟩
    rw [Nat.zero_add, cell_of_row w g j cur E (0, 0) hcur]
    rw [List.getElem?_take] at hj
    split at hj
    · simpa using hj
    · cases hj
theorem Src.nil {P : Program} {C : Cx P} {s : St} {x : Operand} (h : Ev s x (eqv (.slice none 0 0))) : Src C s x 0 [] := fun a r S w hw hs => .inl ⟨⟨none, 0, h a r w hs⟩, rfl, rfl⟩

theorem CellsH.append {r : Nat → Prop} {w : World} {cs ds : List VP} {vs us : List Value} (h : CellsH r w cs vs) (k : CellsH r w ds us) : CellsH r w (cs ++ ds) (vs ++ us) := by
  refine ⟨by simp [h.1, k.1], fun j A hj => ?_⟩
  by_cases c : j < cs.length
  · rw [List.getElem?_append_left c] at hj
    rw [List.getElem?_append_left (h.1 ▸ c)]
    exact h.2 j A hj
  · rw [List.getElem?_append_right (by omega)] at hj
    rw [List.getElem?_append_right (by rw [← h.1]; omega), ← h.1]
    exact k.2 _ A hj

theorem exec_append {P : Program} {a : Act} {x y : Operand} {t : TypeId} {w w' : World} {v : Value} {dst : Option Tmp} {ty : TypeId} {pos : String} {after : Array Edge} {guard : Option (Nat × Bool)}
    (hr : (Builtin.append_ #[t, t] ty #[a.eval x, a.eval y]).run P w = .ok v w') :
    (execOp a.eval ⟨dst, .call { callee := .builtin .append, args := #[x, y], argTypes := #[t, t] }, ty, pos, after, guard⟩).run P w = .ok (.value v) w' := by
  simp [execOp, resolve, invoke, builtin, hr]

/-- What an append gives: the whole new row, where it lies, and that nothing else has changed. -/
theorem run_app {P : Program} {w : World} {r : Nat → Prop} {Si : Nat → Prop} {α : Type} {E t ty : TypeId} {e : α → List VP} {sz by' : Nat} {l m : List α} {sv xv : Value} (ht : tsl P t = some (E, sz, by'))
    (he : ∀ x, (e x).length = sz) (hrow : (row E e sz l sv).h Si r w) (hro : ∀ b, r b → b < w.heap.size ∧ ¬ Si b) (hby : (l.length + m.length) * by' ≤ 140737488355328) (hmax : l.length + m.length ≤ maxLen)
    (hsrc : ((∃ a' c', xv = .slice a' 0 c') ∧ m.length = 0 ∧ m.flatMap e = []) ∨ ∃ b o c vs, xv = .slice (some ⟨b, o, none⟩) m.length c ∧ CellsH r w (m.flatMap e) vs ∧ ∀ j u, vs[j]? = some u → w.cell? ⟨b, o + j, none⟩ = some u) :
    ∃ v' w' Sn, (Builtin.append_ #[t, t] ty #[sv, xv]).run P w = .ok v' w' ∧ w'.os = w.os ∧ w'.tape = w.tape ∧ w'.output = w.output ∧ w.heap.size ≤ w'.heap.size ∧
      (∀ b, b < w.heap.size → ¬ Si b → w'.heap[b]? = w.heap[b]?) ∧ (∀ b, Sn b → Si b ∨ (b = w.heap.size ∧ b < w'.heap.size)) ∧ (row E e sz (l ++ m) v').h Sn r w' := by
  obtain ⟨i, z, hu, hi, hz, rfl, rfl, hzs, hpos⟩ := tsl_parts ht
  have hsmall : l.length + m.length ≤ 9223372036854775807 := by simpa [maxLen] using hmax
  have hfl := flatMap_len he l
  have hfm := flatMap_len he m
  have idle : m.length = 0 → (row E e i.size (l ++ m) sv).h Si r w := fun h0 => by
    have : m = [] := List.eq_nil_of_length_eq_zero h0
    subst this
    simpa using hrow
  rcases hsrc with ⟨⟨a', c', rfl⟩, hm0, _⟩ | ⟨b, o, c, vs, rfl, hvs, hcell⟩
  · refine ⟨sv, w, Si, ?_, rfl, rfl, rfl, Nat.le_refl _, fun _ _ _ => rfl, fun b h => .inl h, idle hm0⟩
    rcases hrow with ⟨rfl, rfl⟩ | ⟨g, cap, cur, rfl, hS, hcur, hl, hm, hsz, hh⟩
    · cases a' <;> simp [Builtin.append_, run_underlying hu, Go.sizeOf, typeInfo, hi, Builtin.lenOf, Builtin.firstCells, loadCells, loadCellsFrom]
    · cases a' <;> simp [Builtin.append_, run_underlying hu, Go.sizeOf, typeInfo, hi, Builtin.lenOf, Builtin.firstCells, hl, storeCells, loadCells, loadCellsFrom]
  · have hvl : vs.length = m.length * i.size := by rw [← hvs.1, hfm]
    have hcell' : ∀ j u, vs[j]? = some u → w.cell? ((⟨b, o, none⟩ : Addr).add j) = some u := fun j u hj => by rw [Addr.add_lit]; exact hcell j u hj
    have fresh : ∀ (us : List Value) (cap : Nat), CellsH r w ((l ++ m).flatMap e) us → l.length + m.length ≤ cap → cap ≤ maxLen →
        (row E e i.size (l ++ m) (.slice (some ⟨w.heap.size, 0, none⟩) (l.length + m.length) cap)).h (fun k => k = w.heap.size) r (w.drew.alloc (.cells (us.toArray ++ Builtin.zeroCells z.cells (cap - (l.length + m.length))) E)) := by
      intro us cap hus hge hcm
      have hul : us.length = (l.length + m.length) * i.size := by rw [← hus.1, flatMap_len he, List.length_append]
      refine .inr ⟨w.heap.size, cap, _, by simp, rfl, heap_alloc_new w.drew _, by simpa using hge, hcm, ?_, ?_⟩
      · simp only [Array.size_append, List.size_toArray, size_zeroCells, hzs, hul, ← Nat.add_mul]
        congr 1
        omega
      · rw [List.length_append, ← hul]
        have e1 : (us.toArray ++ Builtin.zeroCells z.cells (cap - (l.length + m.length))).toList.take us.length = us := by simp
        rw [e1]
        exact CellsH.mono (w := w) (fun _ h => h) (fun b hb => Below.heap_alloc w.drew _ b (hro b hb).1) hus
    rcases hrow with ⟨rfl, rfl⟩ | ⟨g, cap, cur, rfl, hS, hcur, hl, hm, hsz, hh⟩
    · by_cases h0 : m.length = 0
      · refine ⟨.slice none 0 0, w, Si, ?_, rfl, rfl, rfl, Nat.le_refl _, fun _ _ _ => rfl, fun b h => .inl h, ?_⟩
        · simp [Builtin.append_, run_underlying hu, Go.sizeOf, typeInfo, hi, Builtin.lenOf, Builtin.firstCells, h0, loadCells, loadCellsFrom]
        · have : m = [] := List.eq_nil_of_length_eq_zero h0
          subst this
          exact .inl ⟨rfl, rfl⟩
      · simp only [List.length_nil, Nat.zero_add] at hby hmax hsmall fresh
        have hr := run_append_nil (P := P) w t ty E i z hu hi hz ⟨b, o, none⟩ m.length c vs hvl hcell' (by omega) (by omega) (by omega)
        have hge := grownCap_ge w m.length 0 E
        have hcm := grownCap_le_maxLen w m.length 0 E hmax
        refine ⟨_, _, fun k => k = w.heap.size, hr, rfl, rfl, rfl, by simp, fun k hk _ => Below.heap_alloc w.drew _ k hk, fun k hk => .inr ⟨hk, by subst hk; simp⟩, ?_⟩
        exact fresh vs _ (by simpa using hvs) hge hcm
    · by_cases hroom : l.length + m.length ≤ cap
      · have hle : (l.length + m.length) * i.size ≤ cap * i.size := Nat.mul_le_mul_right _ hroom
        have hr := run_append_room (P := P) w t ty E i hu hi g l.length cap cur hcur ⟨b, o, none⟩ m.length c vs hvl hcell' hvs.one hroom (by rw [hvl, hsz, ← Nat.add_mul]; exact hle)
        refine ⟨_, _, Si, hr, rfl, rfl, rfl, by simp, fun k hk hk' => setRow_other w g k _ (fun e => hk' (e ▸ hS)), fun k hk => .inl hk, ?_⟩
        rw [Nat.add_mul] at hle
        refine .inr ⟨g, cap, _, by simp, hS, setRow_heap w g cur _ E _ hcur, by simpa using hroom, hm, ?_, ?_⟩
        · simp
          omega
        · rw [List.length_append]
          have hus := CellsH.append hh hvs
          rw [← List.flatMap_append] at hus
          have hl1 : (cur.toList.take (l.length * i.size)).length = l.length * i.size := by rw [List.length_take]; simp; omega
          have e1 : (cur.toList.take (l.length * i.size) ++ vs ++ cur.toList.drop (l.length * i.size + vs.length)).toArray.toList.take ((l.length + m.length) * i.size) = cur.toList.take (l.length * i.size) ++ vs := by
            rw [List.toList_toArray]
            apply List.take_left'
            rw [List.length_append, hl1, hvl, Nat.add_mul]
          rw [e1]
          exact hus.mono (fun _ h => h) (fun k hk => setRow_other w g k _ (fun e => (hro k hk).2 (e ▸ hS)))
      · have holds : ∀ j u, (cur.toList.take (l.length * i.size))[j]? = some u → w.cell? ((⟨g, 0, none⟩ : Addr).add j) = some u := fun j u hj => by
          rw [Addr.add_lit, Nat.zero_add, cell_of_row w g j cur E (0, 0) hcur]
          rw [List.getElem?_take] at hj
          split at hj
          · simpa using hj
          · cases hj
        have hle : l.length * i.size ≤ cap * i.size := Nat.mul_le_mul_right _ hl
        have hr := run_append_grow (P := P) w t ty E i z hu hi hz ⟨g, 0, none⟩ l.length cap (cur.toList.take (l.length * i.size)) (by rw [List.length_take]; simp; omega) holds ⟨b, o, none⟩ m.length c vs hvl hcell' (by omega) (by omega) (growslice_fits (by omega) hby)
        have hge := grownCap_ge w (l.length + m.length) cap E
        have hcm := grownCap_le_maxLen w (l.length + m.length) cap E hmax
        refine ⟨_, _, fun k => k = w.heap.size, hr, rfl, rfl, rfl, by simp, fun k hk _ => Below.heap_alloc w.drew _ k hk, fun k hk => .inr ⟨hk, by subst hk; simp⟩, ?_⟩
        have hus := CellsH.append hh hvs
        rw [← List.flatMap_append] at hus
        have := fresh _ _ hus hge hcm
        simpa using this

section ops
variable {P : Program} {C : Cx P} {s : St} {dst : Option Tmp} {ty : TypeId} {pos : String} {after : Array Edge} {guard : Option (Nat × Bool)} {K : VP → List HP → Prop}
/-- append to a slice of the call's own. -/
theorem opAppend {α : Type} (i : Nat) {t E : TypeId} {e : α → List VP} {sz by' : Nat} {l m : List α} {sv : Value} {x y : Operand} (ht : tsl P t = some (E, sz, by')) (he : ∀ x, (e x).length = sz)
    (hx : Ev s x (eqv sv)) (ho : s.objs[i]? = some (row E e sz l sv)) (hy : Src C s y m.length (m.flatMap e)) (hby : (l.length + m.length) * by' ≤ 140737488355328) (hmax : l.length + m.length ≤ maxLen)
    (k : ∀ v', K (eqv v') (s.objs.set i (row E e sz (l ++ m) v'))) : OpT C ⟨dst, .call { callee := .builtin .append, args := #[x, y], argTypes := #[t, t] }, ty, pos, after, guard⟩ s K := by
  intro a w r S Q hd hn hw hs
  have hx' := hx a r w hs
  simp only [eqv] at hx'
  have hi := (List.getElem?_eq_some_iff.1 ho).1
  obtain ⟨v', w', Sn, hr, h1, h2, h3, h4, h5, h6, h7⟩ := run_app (w := w) (r := r) (Si := S i) (ty := ty) ht he (hw.obj i _ ho) (fun b hb => ⟨hw.old b hb, fun hS => (hw.own i b hS).2.2.2 hb⟩) hby hmax (hy a r S w hw hs)
  unfold Oper.wp
  rw [exec_append (hx' ▸ hr), Oper.upon_value]
  refine ⟨v', r, _, _, _, rfl, hw.evo_repl i h5, hw.repl i _ Sn hi h1 h2 h3 h4 h5 (fun b hb => ?_) h7, rfl, k v'⟩
  rcases h6 b hb with hS | ⟨rfl, hlt⟩
  · obtain ⟨q1, q2, q3, q4⟩ := hw.own i b hS
    exact ⟨q2, Nat.lt_of_lt_of_le q3 h4, q4, fun j hj hSj => hj (hw.apart j i b hSj hS)⟩
  · exact ⟨hw.size, hlt, fun hb' => Nat.lt_irrefl _ (hw.old _ hb'), fun j hj hSj => Nat.lt_irrefl _ (hw.own j _ hSj).2.2.1⟩

theorem WInv.addNil {w0 w : World} {base : Nat} {objs : List HP} {r : Nat → Prop} {S : Nat → Nat → Prop} (h : WInv w0 base objs r S w) (H : HP) (hH : H.h (fun _ => False) r w) : WInv w0 base (objs ++ [H]) r S w where
  below := h.below
  size := h.size
  obj := by
    intro i K hi
    rw [List.getElem?_append] at hi
    split at hi
    · exact h.obj i K hi
    · rename_i hge
      cases hk : i - objs.length with
      | succ k => rw [hk] at hi; simp at hi
      | zero =>
        rw [hk] at hi
        simp at hi
        subst hi
        have : S i = fun _ => False := by
          funext b
          exact propext ⟨fun hb => absurd (h.own i b hb).1 hge, fun hf => hf.elim⟩
        rw [this]
        exact hH
  own := fun i b hb => by
    obtain ⟨h1, h2, h3, h4⟩ := h.own i b hb
    exact ⟨by simp; omega, h2, h3, h4⟩
  apart := h.apart
  old := h.old
/-- A nil slice becomes a row of the call's own. -/
theorem RunOps.addNil {α : Type} {ops : Array Oper} {l : List Nat} {Q : Exit → Act → World → Prop} (E : TypeId) (e : α → List VP) (sz : Nat)
    (h : RunOps C ops l ⟨s.slots, s.objs ++ [row E e sz [] (.slice none 0 0)]⟩ Q) : RunOps C ops l s Q := by
  rintro a w ⟨hd, hn, r, S, hw, he, hs⟩
  exact h a w ⟨hd, hn, r, S, hw.addNil _ (.inl ⟨rfl, rfl⟩), he, hs⟩
theorem CodeT.addNil {α : Type} {c : Code} {Q : Exit → Act → World → Prop} (E : TypeId) (e : α → List VP) (sz : Nat)
    (h : CodeT C c ⟨s.slots, s.objs ++ [row E e sz [] (.slice none 0 0)]⟩ Q) : CodeT C c s Q := by
  rintro a w ⟨hd, hn, r, S, hw, he, hs⟩
  exact h a w ⟨hd, hn, r, S, hw.addNil _ (.inl ⟨rfl, rfl⟩), he, hs⟩

/-- make: n elements, each of them the zero value. -/
theorem opMake {α : Type} {t E : TypeId} {e : α → List VP} {sz by' : Nat} {x y : Operand} {k1 k2 : IntKind} {n : Int} (z : α) (zs : List Value) (ht : tsl P t = some (E, sz, by')) (he : ∀ x, (e x).length = sz)
    (hz : tzero P E = some zs) (hz1 : zs.all (·.oneCell') = true) (hze : e z = zs.map eqv) (hx : Ev s x (iv k1 n)) (hy : Ev s y (iv k2 n)) (h0 : 0 ≤ n) (hby : (by' : Int) * n ≤ 281474976710656) (hmax : n ≤ 9223372036854775807)
    (k : ∀ v', K (eqv v') (s.objs ++ [row E e sz (List.replicate n.toNat z) v'])) : OpT C ⟨dst, .makeSlice t x y, ty, pos, after, guard⟩ s K := by
  intro a w r S Q hd hn hw hs
  have hx' := hx a r w hs
  have hy' := hy a r w hs
  simp only [iv, eqv] at hx' hy'
  obtain ⟨i, zv, hu, hi, hzv, rfl, rfl, hzs, hpos⟩ := tsl_parts ht
  have hzv' : zv.cells.toList = zs := by
    unfold tzero at hz
    simp [hi, hzv] at hz
    exact hz
  have hr := run_make w t E i zv hu hi hzv k1 k2 n n h0 (Int.le_refl _) hby hmax
  unfold Oper.wp
  simp only [execOp, hx', hy', Sem.run_bind, hr, Result.andThen_ok, Sem.run_pure, Oper.upon_value]
  refine ⟨_, r, _, _, _, rfl, hw.evo_alloc _, hw.push _ _ ?_, rfl, k _⟩
  refine .inr ⟨w.heap.size, n.toNat, _, by simp, rfl, heap_alloc_new w _, by simp, by simp [maxLen]; omega, size_madeCells _ _, ?_⟩
  have hfl := flatMap_len he (List.replicate n.toNat z)
  have e1 : (madeCells zv.cells (n.toNat * i.size)).toList.take ((List.replicate n.toNat z).length * i.size) = (madeCells zv.cells (n.toNat * i.size)).toList := by
    apply List.take_of_length_le
    simp [size_madeCells]
  rw [e1]
  refine ⟨by rw [hfl]; simp [size_madeCells], fun j A hj => ?_⟩
  have hlt : j < n.toNat * i.size := by
    have := (List.getElem?_eq_some_iff.1 hj).1
    rw [hfl] at this
    simpa using this
  obtain ⟨y, hy2, hA⟩ := flatMap_at he hpos _ j A hj
  rw [List.getElem?_replicate] at hy2
  split at hy2
  · simp at hy2
    subst hy2
    rw [hze, List.getElem?_map, Option.map_eq_some_iff] at hA
    obtain ⟨u, hu', rfl⟩ := hA
    refine ⟨u, ?_, rfl, by simpa using List.all_eq_true.1 hz1 u (List.mem_of_getElem? hu')⟩
    have : (madeCells zv.cells (n.toNat * i.size)).toList[j]? = some (zv.cells[j % zv.cells.size]!) := by
      simp [madeCells, hlt]
    rw [this, hzs]
    have hml : j % i.size < zv.cells.size := by rw [hzs]; exact Nat.mod_lt _ hpos
    rw [← hzv'] at hu'
    simp [hml] at hu' ⊢
    exact hu'
  · cases hy2
end ops
end Px
