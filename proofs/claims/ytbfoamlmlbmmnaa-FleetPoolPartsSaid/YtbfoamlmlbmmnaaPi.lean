/- What the read-out functions are made of, and arrays of the call's own. Conditions: none. -/
import Derived.Test.YtbfoamlmlbmmnaaPh
namespace Px
open Go Go.RowKit
set_option linter.unusedSimpArgs false
set_option linter.unusedVariables false

/-- A check: where it fails there is no result. -/
def ck {ρ : Type} (p : Prop) [Decidable p] (x : Option ρ) : Option ρ := if p then x else none
theorem ck_some {ρ : Type} {p : Prop} [Decidable p] {x : Option ρ} {r : ρ} (h : ck p x = some r) : p ∧ x = some r := by
  unfold ck at h
  split at h
  · exact ⟨by assumption, h⟩
  · cases h
theorem ck_pos {ρ : Type} {p : Prop} [Decidable p] {x : Option ρ} (h : p) : ck p x = x := if_pos h
theorem bind_some {α ρ : Type} {x : Option α} {f : α → Option ρ} {r : ρ} (h : x.bind f = some r) : ∃ y, x = some y ∧ f y = some r := by
  cases x with
  | none => cases h
  | some y => exact ⟨y, rfl, h⟩
theorem ckE {ρ : Type} {p : Prop} [Decidable p] {x : Option ρ} {r : ρ} {G : Prop} (h : ck p x = some r) (k : p → x = some r → G) : G :=
  k (ck_some h).1 (ck_some h).2
theorem bindE {α ρ : Type} {x : Option α} {f : α → Option ρ} {r : ρ} {G : Prop} (h : x.bind f = some r) (k : ∀ y, x = some y → f y = some r → G) : G :=
  let ⟨y, e, h'⟩ := bind_some h
  k y e h'
/-- A call under a guard. -/
def gcall {α : Type} [Inhabited α] (p : Prop) [Decidable p] (x : Option α) : Option α := if p then x else some default
theorem gcall_pos {α : Type} [Inhabited α] {p : Prop} [Decidable p] {x : Option α} {y : α} (h : gcall p x = some y) (hg : p) : x = some y := by
  unfold gcall at h
  rwa [if_pos hg] at h
def gt {α : Type} [Inhabited α] (l : List α) (i : Int) : α := l.getD i.toNat default
theorem gt_some {α : Type} [Inhabited α] {l : List α} {i : Int} (h : 0 ≤ i ∧ i < (l.length : Int)) : l[i.toNat]? = some (gt l i) := by
  have hlt : i.toNat < l.length := by omega
  simp [gt, hlt]
def setAt {α : Type} (l : List α) (i : Int) (x : α) : List α := l.set i.toNat x
/-- The length of a slice that an append may make. -/
def fits (n b : Nat) : Prop := n * b ≤ 140737488355328
instance (n b : Nat) : Decidable (fits n b) := inferInstanceAs (Decidable (_ ≤ _))
theorem fits_max {n b : Nat} (hb : 0 < b) (h : fits n b) : n ≤ maxLen := by
  unfold fits at h
  have : n ≤ n * b := Nat.le_mul_of_pos_right _ hb
  simp [maxLen]
  omega
def makes (n : Int) (b : Nat) : Prop := 0 ≤ n ∧ (b : Int) * n ≤ 281474976710656 ∧ n ≤ 9223372036854775807
instance (n : Int) (b : Nat) : Decidable (makes n b) := inferInstanceAs (Decidable (_ ∧ _))
abbrev W (n : Int) : Int := IntKind.wrap .i64 n
abbrev U (n : Int) : Int := IntKind.wrap .u64 n

/-- The cells of an array: N elements. -/
def arr {α : Type} (N : Nat) (e : α → List VP) (f : Nat → α) : List VP := (List.range N).flatMap fun i => e (f i)
def upd {α : Type} (f : Nat → α) (k : Nat) (x : α) : Nat → α := fun j => if j = k then x else f j
theorem arr_eq {α : Type} (N : Nat) (e : α → List VP) (f : Nat → α) : arr N e f = ((List.range N).map f).flatMap e := by
  simp [arr, List.flatMap_map]
theorem arr_len {α : Type} {N sz : Nat} {e : α → List VP} {f : Nat → α} (he : ∀ x, (e x).length = sz) : (arr N e f).length = N * sz := by
  rw [arr_eq, flatMap_len he]
  simp
theorem arr_at {α : Type} {N sz k : Nat} {e : α → List VP} {f : Nat → α} (he : ∀ x, (e x).length = sz) (hk : k < N) : ((arr N e f).drop (k * sz)).take sz = e (f k) := by
  apply List.ext_getElem?
  intro j
  by_cases hj : j < sz
  · rw [List.getElem?_take, if_pos hj, List.getElem?_drop]
    have hlt : j < (e (f k)).length := by rw [he]; exact hj
    rw [List.getElem?_eq_getElem hlt, arr_eq]
    exact flatMap_slice he _ k (f k) (by simp [hk]) j _ (List.getElem?_eq_getElem hlt)
  · rw [List.getElem?_take, if_neg hj, List.getElem?_eq_none (by rw [he]; omega)]
theorem arr_upd {α : Type} {N sz k : Nat} {e : α → List VP} {f : Nat → α} {x : α} (he : ∀ x, (e x).length = sz) (hk : k < N) :
    (arr N e f).take (k * sz) ++ e x ++ (arr N e f).drop (k * sz + sz) = arr N e (upd f k x) := by
  have h1 : ((List.range N).map f).set k x = (List.range N).map (upd f k x) := by
    apply List.ext_getElem?
    intro j
    rw [List.getElem?_set]
    by_cases e : k = j
    · subst e
      simp [hk, upd]
    · have : ¬ j = k := fun h => e h.symm
      have e' : upd f k x j = f j := if_neg this
      rw [if_neg e, List.getElem?_map, List.getElem?_map]
      by_cases hj : j < N
      · simp [hj, e']
      · simp [hj]
  have := flatMap_set he ((List.range N).map f) k (f k) x 0 (e x) (by simp [hk]) (by rw [he]; omega) (by simp [he])
  rw [h1] at this
  rw [arr_eq, arr_eq, this]
  simp [he]
theorem arr_const {α : Type} (N : Nat) (e : α → List VP) (x : α) {z : List Value} (h : e x = z.map eqv) : arr N e (fun _ => x) = ((List.replicate N z).flatten).map eqv := by
  unfold arr
  simp only [h]
  rw [List.map_flatten, List.map_replicate]
  induction N with
  | zero => rfl
  | succ n ih =>
    rw [List.range_succ, List.flatMap_append, ih]
    simp [List.replicate_succ', List.flatten_append]

section
variable {P : Program} {C : Cx P} {s : St} {x : Operand} {α : Type}
theorem Pt.ofArr (i : Nat) {b off : Nat} {T : TypeId} {pre post : List VP} {N sz k : Nat} {e : α → List VP} {f : Nat → α} (h : Ev s x (eqv (.pointer (some ⟨b, off, none⟩)))) (ho : s.objs[i]? = some (Px.box b T (pre ++ Px.arr N e f ++ post)))
    (he : ∀ x, (e x).length = sz) (hoff : off = pre.length + k * sz) (hk : k < N) : Pt C s x (e (f k)) := by
  have hp := Pt.box (C := C) i h ho rfl
  refine hp.take sz ?_
  have hl := arr_len (N := N) (f := f) he
  have hle : (k + 1) * sz ≤ N * sz := Nat.mul_le_mul_right _ hk
  rw [Nat.add_mul] at hle
  rw [hoff, List.append_assoc, List.drop_length_add_append, List.drop_append_of_le_length (by omega), List.take_append_of_le_length (by rw [List.length_drop]; omega)]
  exact arr_at he hk
theorem arr_splice {pre post : List VP} {N sz k off n : Nat} {e : α → List VP} {f : Nat → α} {y : α} {cs : List VP} (he : ∀ x, (e x).length = sz) (hoff : off = pre.length + k * sz) (hk : k < N) (hn : n = sz) (hcs : cs = e y) :
    (pre ++ Px.arr N e f ++ post).take off ++ cs ++ (pre ++ Px.arr N e f ++ post).drop (off + n) = pre ++ Px.arr N e (upd f k y) ++ post := by
  have hl := arr_len (N := N) (f := f) he
  have hle : (k + 1) * sz ≤ N * sz := Nat.mul_le_mul_right _ hk
  rw [Nat.add_mul] at hle
  subst hn; subst hcs
  rw [hoff, List.append_assoc pre, Nat.add_assoc, List.take_length_add_append, List.drop_length_add_append, List.take_append_of_le_length (by omega), List.drop_append_of_le_length (by omega), ← arr_upd he hk]
  simp [List.append_assoc]
theorem arr_bound {pre post : List VP} {N sz k off n : Nat} {e : α → List VP} {f : Nat → α} (he : ∀ x, (e x).length = sz) (hoff : off = pre.length + k * sz) (hk : k < N) (hn : n = sz) : off + n ≤ (pre ++ Px.arr N e f ++ post).length := by
  have hl := arr_len (N := N) (f := f) he
  have hle : (k + 1) * sz ≤ N * sz := Nat.mul_le_mul_right _ hk
  rw [Nat.add_mul] at hle
  simp [hl]
  omega
end
section ops
variable {P : Program} {C : Cx P} {s : St} {dst : Option Tmp} {ty : TypeId} {pos : String} {after : Array Edge} {guard : Option (Nat × Bool)} {K : VP → List HP → Prop}
theorem opAllocA {α : Type} {t : TypeId} {N : Nat} {e : α → List VP} (z : α) (zs : List Value) (hz : tzero P t = some ((List.replicate N zs).flatten)) (h1 : zs.all (·.oneCell') = true) (he : e z = zs.map eqv)
    (k : ∀ b, K (eqv (.pointer (some ⟨b, 0, none⟩))) (s.objs ++ [box b t ([] ++ arr N e (fun _ => z) ++ [])])) : OpT C ⟨dst, .alloc t, ty, pos, after, guard⟩ s K :=
  opAlloc _ hz (by
    rw [List.all_eq_true]
    intro u hu
    obtain ⟨l, hl, hu⟩ := List.mem_flatten.1 hu
    rw [List.eq_of_mem_replicate hl] at hu
    exact List.all_eq_true.1 h1 u hu) (fun b => by
    have := k b
    rw [List.nil_append, List.append_nil, arr_const N e z he] at this
    exact this)
end ops

section joins
variable {P : Program} {C : Cx P} {s : St} {Q : Exit → Act → World → Prop} {x y : Code}
/-- The ways through x meet again ahead of y. -/
theorem CodeT.seq_join {σ ρ : Type} (J : σ → Option ρ) (r : ρ) (st : σ → St) (hj : ∀ z, J z = some r → CodeT C y (st z) Q)
    (hx : (∀ z, J z = some r → AtX C (st z) .normal (Exit.then (y.wp P Q) Q)) → CodeT C x s (Exit.then (y.wp P Q) Q)) : CodeT C (.seq x y) s Q :=
  .seq (hx hj)
theorem PureT.of_code' {P : Program} {f : FuncId} {fn : Func} {c : Code} {args : List VP} {K : VP → List HP → Prop} (n : Nat) (hf : P.funcs[f]? = some fn) (hb : fn.body = some c) (hn : fn.ntmps = n) (hl : args.length ≤ n)
    (h : ∀ w0 base r0 wI, CodeT (⟨w0, base, r0, wI, n⟩ : Cx P) c ⟨argSlots args, []⟩ (retQ (⟨w0, base, r0, wI, n⟩ : Cx P) fn K)) : PureT P f args K := by
  subst hn
  exact .of_code hf hb hl h
theorem CallT.of_code' {P : Program} {w0 : World} {base : Nat} {f : FuncId} {fn : Func} {c : Code} {args : List VP} {objs : List HP} {K : VP → List HP → Prop} (n : Nat) (hf : P.funcs[f]? = some fn) (hb : fn.body = some c) (hn : fn.ntmps = n)
    (hl : args.length ≤ n) (h : ∀ r0 wI, CodeT (⟨w0, base, r0, wI, n⟩ : Cx P) c ⟨argSlots args, objs⟩ (retQ (⟨w0, base, r0, wI, n⟩ : Cx P) fn K)) : CallT P w0 base f args objs K := by
  subst hn
  exact .of_code hf hb hl h
end joins
theorem evBool {s : St} {x : Operand} {g : Bool} (h : Ev s x (bv g)) : ∀ a w ro, SlotsOK s.slots a ro w → a.eval x = .bool g := fun a w ro hs => h a ro w hs
end Px
