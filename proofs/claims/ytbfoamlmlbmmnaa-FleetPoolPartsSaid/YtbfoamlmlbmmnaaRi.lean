/- Cheapest chains of swaps. Conditions: none. -/
import Derived.Test.YtbfoamlmlbmmnaaRd
namespace Px
open Go
set_option linter.unusedVariables false
set_option linter.unusedSimpArgs false
set_option maxRecDepth 100000
/-- A chain of swaps from a type on: the types passed (the last one first), where it leads, its cost. -/
inductive Walk (E : List Swap) (a : Nat) : List Nat → Nat → Int → Prop
  | nil : Walk E a [] a 0
  | step {vs : List Nat} {x : Int} {s : Swap} : Walk E a vs s.fWanted.toNat x → s ∈ E → Walk E a (s.fWanted.toNat :: vs) s.fGiven.toNat (x + s.fCost)
def EOk (n : Nat) (E : List Swap) : Prop := ∀ s ∈ E, 0 ≤ s.fWanted ∧ s.fWanted < n ∧ 0 ≤ s.fGiven ∧ s.fGiven < n ∧ 0 ≤ s.fCost ∧ s.fCost ≤ 1000000000
theorem Walk.lt {E : List Swap} {a n : Nat} (hE : EOk n E) (ha : a < n) {vs : List Nat} {v : Nat} {x : Int} (h : Walk E a vs v x) : v < n ∧ (∀ u ∈ vs, u < n) ∧ 0 ≤ x := by
  induction h with
  | nil => exact ⟨ha, by simp, by omega⟩
  | step h hs ih =>
    have := hE _ hs
    refine ⟨by omega, ?_, by omega⟩
    intro u hu
    rcases List.mem_cons.1 hu with h | h
    · omega
    · exact ih.2.1 u h
theorem Walk.cut {E : List Swap} {a n : Nat} (hE : EOk n E) {vs : List Nat} {u : Nat} {x : Int} (h : Walk E a vs u x) (hnd : (u :: vs).Nodup) :
    ∀ v ∈ u :: vs, ∃ vs' x', Walk E a vs' v x' ∧ x' ≤ x ∧ (v :: vs').Nodup := by
  induction h with
  | nil =>
    intro v hv
    have : v = a := by simpa using hv
    subst this
    exact ⟨[], 0, .nil, by omega, by simp⟩
  | @step vs x s h hs ih =>
    intro v hv
    have hc := hE _ hs
    rcases List.mem_cons.1 hv with e | e
    · subst e
      exact ⟨_, _, .step h hs, Int.le_refl _, hnd⟩
    · obtain ⟨vs', x', h1, h2, h3⟩ := ih (List.nodup_cons.1 hnd).2 v e
      exact ⟨vs', x', h1, by omega, h3⟩
theorem Walk.simple {E : List Swap} {a n : Nat} (hE : EOk n E) {vs : List Nat} {v : Nat} {x : Int} (h : Walk E a vs v x) : ∃ vs' x', Walk E a vs' v x' ∧ x' ≤ x ∧ (v :: vs').Nodup := by
  induction h with
  | nil => exact ⟨[], 0, .nil, by omega, by simp⟩
  | @step vs x s h hs ih =>
    obtain ⟨vs', x', h1, h2, h3⟩ := ih
    have hc := hE _ hs
    by_cases hm : s.fGiven.toNat ∈ s.fWanted.toNat :: vs'
    · obtain ⟨vs2, x2, k1, k2, k3⟩ := h1.cut hE h3 _ hm
      exact ⟨vs2, x2, k1, by omega, k3⟩
    · exact ⟨_, _, .step h1 hs, by omega, List.nodup_cons.2 ⟨hm, h3⟩⟩
theorem nodup_len : ∀ (n : Nat) (l : List Nat), l.Nodup → (∀ x ∈ l, x < n) → l.length ≤ n
  | 0, l, _, h => by
    cases l with
    | nil => simp
    | cons x l => have := h x (by simp); omega
  | n + 1, l, hd, h => by
    have h1 := nodup_len n (l.erase n) (hd.erase n) (fun x hx => by
      have := (List.Nodup.mem_erase_iff hd).1 hx
      have := h x this.2
      omega)
    have : l.length ≤ (l.erase n).length + 1 := by
      by_cases hm : n ∈ l
      · rw [List.length_erase_of_mem hm]; omega
      · rw [List.erase_of_not_mem hm]; omega
    omega
theorem Walk.short {E : List Swap} {a n : Nat} (hE : EOk n E) (ha : a < n) {vs : List Nat} {v : Nat} {x : Int} (h : Walk E a vs v x) : ∃ vs' x', Walk E a vs' v x' ∧ x' ≤ x ∧ vs'.length + 1 ≤ n := by
  obtain ⟨vs', x', h1, h2, h3⟩ := h.simple hE
  obtain ⟨g1, g2, _⟩ := h1.lt hE ha
  refine ⟨vs', x', h1, h2, ?_⟩
  have := nodup_len n (v :: vs') h3 (fun y hy => by
    rcases List.mem_cons.1 hy with e | e
    · omega
    · exact g2 y e)
  simpa using this
theorem Walk.append {E : List Swap} {a b : Nat} {vs : List Nat} {x : Int} (h : Walk E a vs b x) {ws : List Nat} {c : Nat} {y : Int} (g : Walk E b ws c y) : ∃ us, Walk E a us c (x + y) := by
  induction g with
  | nil => exact ⟨vs, by simpa using h⟩
  | step g hs ih =>
    obtain ⟨us, hu⟩ := ih
    exact ⟨_, by rw [← Int.add_assoc]; exact .step hu hs⟩
/-- One swap is used. -/
def better (c : Nat → Int) (s : Swap) : Bool := decide (0 ≤ c s.fWanted.toNat) && (decide (c s.fGiven.toNat < 0) || decide (c s.fWanted.toNat + s.fCost < c s.fGiven.toNat))
def relax (c : Nat → Int) (s : Swap) : Nat → Int := bif better c s then upd c s.fGiven.toNat (c s.fWanted.toNat + s.fCost) else c
def Down (c d : Nat → Int) : Prop := ∀ v, 0 ≤ c v → 0 ≤ d v ∧ d v ≤ c v
theorem Down.refl (c : Nat → Int) : Down c c := fun v h => ⟨h, Int.le_refl _⟩
theorem Down.trans {c d e : Nat → Int} (h : Down c d) (g : Down d e) : Down c e := fun v hv => ⟨(g v (h v hv).1).1, Int.le_trans (g v (h v hv).1).2 (h v hv).2⟩
theorem upd_at {α : Type} (f : Nat → α) (k : Nat) (x : α) (j : Nat) : upd f k x j = if j = k then x else f j := rfl
theorem relax_down {c : Nat → Int} {s : Swap} (hs : 0 ≤ s.fCost) : Down c (relax c s) := by
  intro v hv
  unfold relax
  cases hb : better c s with
  | false => exact ⟨hv, Int.le_refl _⟩
  | true =>
    simp only [better, Bool.and_eq_true, Bool.or_eq_true, decide_eq_true_eq] at hb
    simp only [cond_true, upd_at]
    split
    · rename_i e; subst e; omega
    · exact ⟨hv, Int.le_refl _⟩
theorem relax_le {c : Nat → Int} {s : Swap} (hs : 0 ≤ s.fCost) (hw : 0 ≤ c s.fWanted.toNat) : 0 ≤ relax c s s.fGiven.toNat ∧ relax c s s.fGiven.toNat ≤ c s.fWanted.toNat + s.fCost := by
  unfold relax
  cases hb : better c s with
  | false =>
    simp only [better, Bool.and_eq_false_iff, Bool.or_eq_false_iff, decide_eq_false_iff_not] at hb
    simp only [cond_false]; omega
  | true => simp only [cond_true, upd_at, if_true]; omega
theorem relax_fix {c : Nat → Int} {s : Swap} (h : better c s = false) : relax c s = c := by unfold relax; rw [h]; rfl
def roundE (E : List Swap) (c : Nat → Int) : Nat → Int := E.foldl relax c
theorem fold_down {n : Nat} : ∀ {E : List Swap}, EOk n E → ∀ c, Down c (E.foldl relax c)
  | [], _, c => Down.refl c
  | s :: E, h, c => (relax_down (h s (by simp)).2.2.2.2.1).trans (fold_down (fun t ht => h t (List.mem_cons_of_mem _ ht)) _)
theorem fold_le {n : Nat} : ∀ {E : List Swap}, EOk n E → ∀ c, ∀ s ∈ E, 0 ≤ c s.fWanted.toNat → 0 ≤ E.foldl relax c s.fGiven.toNat ∧ E.foldl relax c s.fGiven.toNat ≤ c s.fWanted.toNat + s.fCost
  | [], _, c, s, hs, _ => by simp at hs
  | t :: E, h, c, s, hs, hw => by
    have ht := (h t (by simp)).2.2.2.2.1
    have hE : EOk n E := fun t ht => h t (List.mem_cons_of_mem _ ht)
    rcases List.mem_cons.1 hs with e | e
    · subst e
      have h1 := relax_le ht hw
      have h2 := fold_down hE (relax c s) _ h1.1
      exact ⟨h2.1, by simp only [List.foldl_cons]; omega⟩
    · have h1 := relax_down ht (c := c) _ hw
      have h2 := fold_le hE (relax c t) s e h1.1
      exact ⟨h2.1, by simp only [List.foldl_cons]; omega⟩
/-- Every cost is that of a chain. -/
def Sound (E : List Swap) (a : Nat) (c : Nat → Int) : Prop := ∀ v, 0 ≤ c v → ∃ vs, Walk E a vs v (c v)
theorem relax_sound {E : List Swap} {a : Nat} {c : Nat → Int} {s : Swap} (hs : s ∈ E) (h : Sound E a c) : Sound E a (relax c s) := by
  intro v hv
  unfold relax at hv ⊢
  cases hb : better c s with
  | false => rw [hb] at hv; exact h v hv
  | true =>
    rw [hb] at hv
    simp only [better, Bool.and_eq_true, Bool.or_eq_true, decide_eq_true_eq] at hb
    simp only [cond_true, upd_at] at hv ⊢
    split
    · rename_i e
      subst e
      obtain ⟨vs, hw⟩ := h _ hb.1
      exact ⟨_, .step hw hs⟩
    · rename_i e
      rw [if_neg e] at hv
      exact h v hv
theorem fold_sound {E : List Swap} {a : Nat} : ∀ {F : List Swap}, (∀ s ∈ F, s ∈ E) → ∀ c, Sound E a c → Sound E a (F.foldl relax c)
  | [], _, c, h => h
  | s :: F, hF, c, h => fold_sound (fun t ht => hF t (List.mem_cons_of_mem _ ht)) _ (relax_sound (hF s (by simp)) h)
def c0 (a : Nat) : Nat → Int := upd (fun j => if j < 32 then -1 else 0) a 0
def cR (E : List Swap) (a : Nat) : Nat → Nat → Int
  | 0 => fun j => if j = a then 0 else -1
  | r + 1 => roundE E (cR E a r)
theorem cR_sound (E : List Swap) (a : Nat) : ∀ r, Sound E a (cR E a r)
  | 0 => by
    intro v hv
    simp only [cR] at hv ⊢
    split
    · rename_i e; subst e; exact ⟨[], .nil⟩
    · rename_i e; rw [if_neg e] at hv; omega
  | r + 1 => fold_sound (fun s h => h) _ (cR_sound E a r)
theorem cR_down {E : List Swap} {n : Nat} (hE : EOk n E) (a : Nat) (r : Nat) : Down (cR E a r) (cR E a (r + 1)) := fold_down hE _
theorem cR_complete {E : List Swap} {n : Nat} (hE : EOk n E) (a : Nat) : ∀ (r : Nat) {vs : List Nat} {v : Nat} {x : Int}, Walk E a vs v x → vs.length ≤ r → 0 ≤ cR E a r v ∧ cR E a r v ≤ x := by
  intro r
  induction r with
  | zero =>
    intro vs v x h hl
    cases h with
    | nil => simp [cR]
    | step => simp at hl
  | succ r ih =>
    intro vs v x h hl
    by_cases hr : vs.length ≤ r
    · have h1 := ih h hr
      have h2 := cR_down hE a r v h1.1
      exact ⟨h2.1, by omega⟩
    · cases h with
      | nil => simp at hr
      | step h hs =>
        have h1 := ih h (by simpa using hl)
        have h2 := fold_le hE (cR E a r) _ hs h1.1
        exact ⟨h2.1, by simp only [cR, roundE]; omega⟩
/-- The least costs. -/
def costs (E : List Swap) (n a : Nat) : Nat → Int := cR E a n
theorem costs_sound (E : List Swap) (n a : Nat) {v : Nat} (h : 0 ≤ costs E n a v) : ∃ vs, Walk E a vs v (costs E n a v) := cR_sound E a n v h
theorem costs_complete {E : List Swap} {n a : Nat} (hE : EOk n E) (ha : a < n) {vs : List Nat} {v : Nat} {x : Int} (h : Walk E a vs v x) : 0 ≤ costs E n a v ∧ costs E n a v ≤ x := by
  obtain ⟨vs', x', h1, h2, h3⟩ := h.short hE ha
  have := cR_complete hE a n h1 (by omega)
  exact ⟨this.1, Int.le_trans this.2 h2⟩
theorem costs_fix {E : List Swap} {n a : Nat} (hE : EOk n E) (ha : a < n) {s : Swap} (hs : s ∈ E) (h : 0 ≤ costs E n a s.fWanted.toNat) : 0 ≤ costs E n a s.fGiven.toNat ∧ costs E n a s.fGiven.toNat ≤ costs E n a s.fWanted.toNat + s.fCost := by
  obtain ⟨vs, hw⟩ := costs_sound E n a h
  exact costs_complete hE ha (.step hw hs)
theorem costs_still {E : List Swap} {n a : Nat} (hE : EOk n E) (ha : a < n) : ∀ s ∈ E, better (costs E n a) s = false := by
  intro s hs
  cases hb : better (costs E n a) s with
  | false => rfl
  | true =>
    simp only [better, Bool.and_eq_true, Bool.or_eq_true, decide_eq_true_eq] at hb
    have := costs_fix hE ha hs hb.1
    omega
theorem costs_last {E : List Swap} {n a : Nat} (hE : EOk n E) (ha : a < n) {v : Nat} (h : 0 ≤ costs E n a v) (hv : v ≠ a) :
    ∃ s ∈ E, s.fGiven.toNat = v ∧ 0 ≤ costs E n a s.fWanted.toNat ∧ costs E n a v = costs E n a s.fWanted.toNat + s.fCost := by
  obtain ⟨vs, hw⟩ := costs_sound E n a h
  generalize hx : costs E n a v = x at hw
  cases hw with
  | nil => exact absurd rfl hv
  | step h1 hs =>
    have h2 := costs_complete hE ha h1
    have h3 := costs_fix hE ha hs h2.1
    exact ⟨_, hs, rfl, h2.1, by omega⟩
theorem fold_still : ∀ {E : List Swap} {c : Nat → Int}, (∀ s ∈ E, better c s = false) → E.foldl relax c = c
  | [], c, _ => rfl
  | s :: E, c, h => by
    rw [List.foldl_cons, relax_fix (h s (by simp))]
    exact fold_still fun t ht => h t (List.mem_cons_of_mem _ ht)
theorem cR_still {E : List Swap} {a r : Nat} (h : ∀ s ∈ E, better (cR E a r) s = false) : ∀ k, cR E a (r + k) = cR E a r
  | 0 => rfl
  | k + 1 => by
    show roundE E (cR E a (r + k)) = _
    rw [cR_still h k]
    exact fold_still h
/-- A cost after some rounds stays below a bound. -/
def Bd (B : Int) (c : Nat → Int) : Prop := ∀ v, -1 ≤ c v ∧ c v ≤ B
theorem relax_bd {n : Nat} {E : List Swap} (hE : EOk n E) {s : Swap} (hs : s ∈ E) {B : Int} {c : Nat → Int} (h : Bd B c) : Bd (B + 1000000000) (relax c s) := by
  intro v
  have h1 := h v; have h2 := h s.fWanted.toNat; have h3 := hE s hs
  unfold relax
  cases hb : better c s with
  | false => simp only [cond_false]; omega
  | true =>
    simp only [better, Bool.and_eq_true, Bool.or_eq_true, decide_eq_true_eq] at hb
    simp only [cond_true, upd_at]
    split <;> omega
theorem fold_bd {n : Nat} {E : List Swap} (hE : EOk n E) : ∀ {F : List Swap}, (∀ s ∈ F, s ∈ E) → ∀ {B : Int} {c : Nat → Int}, Bd B c → Bd (B + 1000000000 * F.length) (F.foldl relax c)
  | [], _, B, c, h => by simpa using h
  | s :: F, hF, B, c, h => by
    have := fold_bd hE (F := F) (fun t ht => hF t (List.mem_cons_of_mem _ ht)) (relax_bd hE (hF s (by simp)) h)
    rw [List.foldl_cons]
    intro v
    have := this v
    simp only [List.length_cons]
    omega
theorem cR_bd {n : Nat} {E : List Swap} (hE : EOk n E) (hl : E.length ≤ 1024) (a : Nat) : ∀ r : Nat, Bd (1024000000000 * r) (cR E a r)
  | 0 => by intro v; simp only [cR]; split <;> omega
  | r + 1 => by
    have := fold_bd hE (F := E) (fun s h => h) (cR_bd hE hl a r)
    intro v
    have := this v
    simp only [cR, roundE]
    omega
end Px
