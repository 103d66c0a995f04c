/- Tools for the plain proofs. Conditions: none. -/
import Derived.Test.YtbfoamlmlbmmnaaPl
namespace Px
open Go
set_option linter.unusedVariables false
set_option linter.unusedSimpArgs false
/-- A loop that counts up. -/
theorem loop_up {σ ρ : Type} (L : Nat → Int → σ → Option ρ) (len : Nat) (Inv : Nat → σ → Prop) (G : Option ρ → Prop)
    (step : ∀ n i s, i < len → Inv i s → (∀ s', Inv (i + 1) s' → G (L n ((i : Int) + 1) s')) → G (L (n + 1) i s))
    (done : ∀ n s, Inv len s → G (L (n + 1) len s)) : ∀ n i s, i ≤ len → Inv i s → len - i < n → G (L n i s) := by
  intro n
  induction n with
  | zero => intro i s _ _ h; omega
  | succ n ih =>
    intro i s hi hI hn
    by_cases h : i = len
    · subst h; exact done n s hI
    · refine step n i s (by omega) hI fun s' hs' => ?_
      have := ih (i + 1) s' (by omega) hs' (by omega)
      simpa using this
/-- The same from the start. -/
theorem loop_up0 {σ ρ : Type} (L : Nat → Int → σ → Option ρ) (len : Nat) (Inv : Nat → σ → Prop) (G : Option ρ → Prop)
    (step : ∀ n i s, i < len → Inv i s → (∀ s', Inv (i + 1) s' → G (L n ((i : Int) + 1) s')) → G (L (n + 1) i s))
    (done : ∀ n s, Inv len s → G (L (n + 1) len s)) (n : Nat) (s : σ) (h : Inv 0 s) (hn : len < n) : G (L n 0 s) := by
  simpa using loop_up L len Inv G step done n 0 s (Nat.zero_le _) h (by omega)
theorem W_def (x : Int) : W x = if x % 18446744073709551616 ≥ 9223372036854775808 then x % 18446744073709551616 - 18446744073709551616 else x % 18446744073709551616 := by
  simp [W, IntKind.wrap, IntKind.bits, IntKind.signed]
theorem U_def (x : Int) : U x = x % 18446744073709551616 := by
  simp [U, IntKind.wrap, IntKind.bits, IntKind.signed]
theorem W_id {x : Int} (h : -9223372036854775808 ≤ x) (h' : x ≤ 9223372036854775807) : W x = x := by
  rw [W_def]; split <;> omega
theorem U_id {x : Int} (h : 0 ≤ x) (h' : x ≤ 18446744073709551615) : U x = x := by
  rw [U_def]; omega
theorem W_mod (x : Int) : ∃ k : Int, W x = x + 18446744073709551616 * k := by
  rw [W_def]; split
  · exact ⟨-(x / 18446744073709551616) - 1, by omega⟩
  · exact ⟨-(x / 18446744073709551616), by omega⟩
theorem W_len {n : Nat} (h : n ≤ maxLen) : W (n : Int) = n := W_id (by omega) (by simp [maxLen] at h; omega)
theorem W_pred {n : Nat} (h : n ≤ maxLen) : W ((n : Int) - 1) = (n : Int) - 1 := W_id (by omega) (by simp [maxLen] at h; omega)
theorem W_up {i n : Nat} (h : n ≤ maxLen) (hi : i < n) : W ((i : Int) + 1) = (i : Int) + 1 := W_id (by omega) (by simp [maxLen] at h; omega)
theorem all_take_succ {α : Type} [Inhabited α] (ok : α → Bool) (l : List α) (i : Nat) (h : i < l.length) : (l.take (i + 1)).all ok = ((l.take i).all ok && ok (gt l (i : Int))) := by
  rw [List.take_succ_eq_append_getElem h, List.all_append]
  simp [gt, h]
theorem any_take_succ {α : Type} [Inhabited α] (ok : α → Bool) (l : List α) (i : Nat) (h : i < l.length) : (l.take (i + 1)).any ok = ((l.take i).any ok || ok (gt l (i : Int))) := by
  rw [List.take_succ_eq_append_getElem h, List.any_append]
  simp [gt, h]
theorem take_succ_gt {α : Type} [Inhabited α] (l : List α) (i : Nat) (h : i < l.length) : l.take (i + 1) = l.take i ++ [gt l (i : Int)] := by
  rw [List.take_succ_eq_append_getElem h]
  simp [gt, h]
theorem gt_mem {α : Type} [Inhabited α] {l : List α} {i : Int} (h0 : 0 ≤ i) (h : i < (l.length : Int)) : gt l i ∈ l := by
  have hlt : i.toNat < l.length := by omega
  simp [gt, hlt]
theorem gt_nat {α : Type} [Inhabited α] {l : List α} {i : Nat} (h : i < l.length) : gt l (i : Int) = l[i] := by
  simp [gt, h]
theorem drop_gt {α : Type} [Inhabited α] (l : List α) (i : Nat) (h : i < l.length) : l.drop i = gt l (i : Int) :: l.drop (i + 1) := by
  rw [gt_nat h, List.getElem_cons_drop]
theorem mem_gt {α : Type} [Inhabited α] {l : List α} {x : α} (h : x ∈ l) : ∃ i : Nat, i < l.length ∧ gt l (i : Int) = x := by
  obtain ⟨i, hi, e⟩ := List.getElem_of_mem h
  exact ⟨i, hi, by rw [gt_nat hi, e]⟩
theorem setAt_len {α : Type} (l : List α) (i : Int) (x : α) : (setAt l i x).length = l.length := by simp [setAt]
theorem gt_setAt {α : Type} [Inhabited α] (l : List α) (i j : Int) (x : α) (hi : 0 ≤ i) (h : i < (l.length : Int)) (hj : 0 ≤ j) : gt (setAt l i x) j = if j = i then x else gt l j := by
  unfold gt setAt
  by_cases e : j = i
  · subst e
    have : j.toNat < l.length := by omega
    simp [List.getD, List.getElem?_set, this]
  · have : i.toNat ≠ j.toNat := by omega
    simp [List.getD, List.getElem?_set, this, e]
theorem gt_replicate {α : Type} [Inhabited α] (n : Nat) (x : α) (j : Int) (hj : 0 ≤ j) (h : j < n) : gt (List.replicate n x) j = x := by
  have : j.toNat < n := by omega
  simp [gt, List.getD, List.getElem?_replicate, this]
theorem gt_app_left {α : Type} [Inhabited α] (l m : List α) (j : Int) (h0 : 0 ≤ j) (h : j < (l.length : Int)) : gt (l ++ m) j = gt l j := by
  have : j.toNat < l.length := by omega
  simp [gt, List.getD, List.getElem?_append, this]
theorem gt_app_right {α : Type} [Inhabited α] (l m : List α) (j : Int) (h : (l.length : Int) ≤ j) : gt (l ++ m) j = gt m (j - l.length) := by
  have : ¬ j.toNat < l.length := by omega
  have e : (j - l.length).toNat = j.toNat - l.length := by omega
  simp [gt, List.getD, List.getElem?_append, this, e]
/-- A loop over a list that remembers whether all its elements were in order. -/
theorem loop_all {α ρ : Type} [Inhabited α] (L : Nat → Int → Int → Option ρ) (k : Int → Option ρ) (l : List α) (ok : α → Bool)
    (step : ∀ (n i : Nat) (s : Int), i < l.length → L (n + 1) i s = L n ((i : Int) + 1) (bif ok (gt l i) then s else 1)) (done : ∀ n s, L (n + 1) l.length s = k s) :
    ∀ n s, l.length < n → L n 0 s = k (bif l.all ok then s else 1) := by
  intro n s hn
  refine loop_up L l.length (fun i t => t = bif (l.take i).all ok then s else 1) (fun o => o = k (bif l.all ok then s else 1)) ?_ ?_ n 0 s (Nat.zero_le _) (by simp) (by omega)
  · intro n i t hi ht hs
    rw [step n i t hi]
    refine hs _ ?_
    rw [all_take_succ ok l i hi, ht]
    cases (l.take i).all ok <;> cases ok (gt l (i : Int)) <;> simp
  · intro n t ht
    rw [done, ht, List.take_length]
/-- A loop over a list that ends at the first element of a kind. -/
theorem loop_find {α ρ : Type} [Inhabited α] (L : Nat → Int → Option ρ) (k : Option ρ) (l : List α) (p : α → Bool) (g : α → Option ρ)
    (step : ∀ n i : Nat, i < l.length → L (n + 1) i = bif p (gt l i) then g (gt l i) else L n ((i : Int) + 1)) (done : ∀ n, L (n + 1) l.length = k) :
    ∀ n, l.length < n → L n 0 = match l.find? p with | some x => g x | none => k := by
  intro n hn
  refine loop_up0 (fun n i (_ : Unit) => L n i) l.length (fun i _ => ∀ x ∈ l.take i, p x = false) (fun o => o = match l.find? p with | some x => g x | none => k) ?_ ?_ n () (by simp) hn
  · intro n i _ hi hI hs
    simp only [step n i hi]
    cases e : p (gt l (i : Int)) with
    | false =>
      refine hs () ?_
      rw [take_succ_gt l i hi]
      intro x hx
      rcases List.mem_append.1 hx with h | h
      · exact hI x h
      · simp at h; rw [h]; exact e
    | true =>
      have : l.find? p = some (gt l (i : Int)) := by
        have h1 : l = l.take i ++ (gt l (i : Int) :: l.drop (i + 1)) := by
          rw [gt_nat hi, List.getElem_cons_drop, List.take_append_drop]
        generalize gt l (i : Int) = y at *
        rw [h1, List.find?_append, List.find?_eq_none.2 (fun x hx => by simp [hI x hx])]
        simp [List.find?_cons, e]
      rw [this]; rfl
  · intro n _ hI
    simp only [done]
    rw [List.take_length] at hI
    rw [List.find?_eq_none.2 (fun x hx => by simp [hI x hx])]
theorem find_any {α ρ : Type} (l : List α) (p : α → Bool) (r k : ρ) : (match l.find? p with | some _ => r | none => k) = bif l.any p then r else k := by
  induction l with
  | nil => rfl
  | cons x l ih =>
    rw [List.find?_cons, List.any_cons]
    cases p x
    · simpa using ih
    · rfl
theorem loop_any {α ρ : Type} [Inhabited α] (L : Nat → Int → Option ρ) (k r : Option ρ) (l : List α) (p : α → Bool)
    (step : ∀ n i : Nat, i < l.length → L (n + 1) i = bif p (gt l i) then r else L n ((i : Int) + 1)) (done : ∀ n, L (n + 1) l.length = k)
    (n : Nat) (hn : l.length < n) : L n 0 = bif l.any p then r else k := by
  rw [loop_find L k l p (fun _ => r) step done n hn, find_any]
/-- A loop over a list that carries a state. -/
theorem loop_fold {α σ ρ : Type} [Inhabited α] (L : Nat → Int → σ → Option ρ) (k : σ → Option ρ) (l : List α) (f : σ → α → σ) (Inv : Nat → σ → Prop)
    (step : ∀ (n i : Nat) (s : σ), i < l.length → Inv i s → L (n + 1) i s = L n ((i : Int) + 1) (f s (gt l i)) ∧ Inv (i + 1) (f s (gt l i))) (done : ∀ n s, Inv l.length s → L (n + 1) l.length s = k s)
    (n : Nat) (s : σ) (h0 : Inv 0 s) (hn : l.length < n) : L n 0 s = k (l.foldl f s) ∧ Inv l.length (l.foldl f s) := by
  refine loop_up0 L l.length (fun i t => t = (l.take i).foldl f s ∧ Inv i t) (fun o => o = k (l.foldl f s) ∧ Inv l.length (l.foldl f s)) ?_ ?_ n s ⟨by simp, h0⟩ hn
  · intro n i t hi ⟨ht, hI⟩ hs
    rw [(step n i t hi hI).1]
    refine hs _ ⟨?_, (step n i t hi hI).2⟩
    rw [take_succ_gt l i hi, List.foldl_append, ← ht]; rfl
  · intro n t ⟨ht, hI⟩
    rw [List.take_length] at ht
    subst ht
    exact ⟨done n _ hI, hI⟩
def bet (a b c : Int) : Bool := decide (b ≤ a) && decide (a ≤ c)
theorem bet_iff {a b c : Int} : bet a b c = true ↔ b ≤ a ∧ a ≤ c := by simp [bet]
theorem bet_t {a b c : Int} (h : bet a b c = true) : b ≤ a ∧ a ≤ c := bet_iff.1 h
theorem mk_t (n : Int) (b : Nat) (h0 : 0 ≤ n) (h : n ≤ 100000) (hb : b ≤ 1000000) : makes n b := by
  refine ⟨h0, ?_, by omega⟩
  have : (b : Int) * n ≤ 1000000 * 100000 := Int.mul_le_mul (by omega) h h0 (by omega)
  omega
theorem bool_or_false {a b : Bool} : (a || b) = false ↔ a = false ∧ b = false := by cases a <;> cases b <;> simp
end Px
