/- A part of the proof of handoverOrder_holds. Conditions: none. -/
import Derived.Test.YteljjchaealkoaaOre
section
namespace Px
open Go
set_option linter.unusedVariables false
set_option linter.unusedSimpArgs false
structure Swo {α : Type} (lt : α → α → Bool) : Prop where
  asym : ∀ a b, lt a b = true → lt b a = false
  ntr : ∀ a b c, lt a b = false → lt b c = false → lt a c = false
def Srt {α : Type} (lt : α → α → Bool) (l : List α) : Prop := l.Pairwise fun a b => lt b a = false
def eqv2 {α : Type} (lt : α → α → Bool) (a b : α) : Bool := !lt a b && !lt b a
def Stb {α : Type} (lt : α → α → Bool) (l r : List α) : Prop := r.Perm l ∧ ∀ a, r.filter (eqv2 lt a) = l.filter (eqv2 lt a)
section
variable {α : Type} {lt : α → α → Bool}
theorem Swo.irr (h : Swo lt) (a : α) : lt a a = false := by
  cases e : lt a a with
  | false => rfl
  | true => exact (h.asym a a e).symm.trans e |>.symm
theorem zev {a b : α} : eqv2 lt a b = true ↔ lt a b = false ∧ lt b a = false := by simp [eqv2]
theorem Stb.refl (l : List α) : Stb lt l l := ⟨.refl _, fun _ => rfl⟩
theorem Stb.trans {a b c : List α} (h : Stb lt a b) (h' : Stb lt b c) : Stb lt a c := ⟨h'.1.trans h.1, fun x => (h'.2 x).trans (h.2 x)⟩
theorem Stb.app {a b c d : List α} (h : Stb lt a b) (h' : Stb lt c d) : Stb lt (a ++ c) (b ++ d) := ⟨h.1.append h'.1, fun x => by simp only [List.filter_append, h.2 x, h'.2 x]⟩
theorem Stb.mem {l r : List α} (h : Stb lt l r) {x : α} : x ∈ r ↔ x ∈ l := h.1.mem_iff
theorem Stb.len {l r : List α} (h : Stb lt l r) : r.length = l.length := h.1.length_eq
theorem zip (a : α) {X : List α} (h : ∀ x ∈ X, eqv2 lt a x = false) : X.filter (eqv2 lt a) = [] := by
  rw [List.filter_eq_nil_iff]; intro x hx; simp [h x hx]
theorem Stb.swap (hs : Swo lt) {X Y : List α} (h : ∀ x ∈ X, ∀ y ∈ Y, lt y x = true) : Stb lt (X ++ Y) (Y ++ X) := by
  refine ⟨List.perm_append_comm, fun a => ?_⟩
  simp only [List.filter_append]
  by_cases hx : ∃ x ∈ X, eqv2 lt a x = true
  · obtain ⟨x, hx, ex⟩ := hx
    have : Y.filter (eqv2 lt a) = [] := zip a fun y hy => by
      cases e : eqv2 lt a y with
      | false => rfl
      | true =>
        have h1 := zev.1 e
        have h2 := zev.1 ex
        have := hs.ntr y a x h1.2 h2.1
        rw [h x hx y hy] at this; cases this
    rw [this]; simp
  · have : X.filter (eqv2 lt a) = [] := zip a fun x hx' => by
      cases e : eqv2 lt a x with
      | false => rfl
      | true => exact absurd ⟨x, hx', e⟩ hx
    rw [this]; simp
theorem Srt.app {a b : List α} (h : Srt lt a) (h' : Srt lt b) (hc : ∀ x ∈ a, ∀ y ∈ b, lt y x = false) : Srt lt (a ++ b) := List.pairwise_append.2 ⟨h, h', hc⟩
theorem Srt.parts {a b : List α} (h : Srt lt (a ++ b)) : Srt lt a ∧ Srt lt b ∧ ∀ x ∈ a, ∀ y ∈ b, lt y x = false := List.pairwise_append.1 h
theorem Srt.unique (hs : Swo lt) : ∀ {r r' : List α}, Srt lt r → Srt lt r' → Stb lt r r' → r = r'
  | [], r', _, _, h => by
    have := h.len; simp at this; exact this.symm
  | x :: r, r', hr, hr', h => by
    cases r' with
    | nil => have := h.len; simp at this
    | cons y r' =>
      have hr1 := List.pairwise_cons.1 hr
      have hr2 := List.pairwise_cons.1 hr'
      have h1 : lt y x = false := by
        rcases List.mem_cons.1 (h.mem.1 (List.mem_cons_self (a := y))) with e | e
        · rw [e]; exact hs.irr _
        · exact hr1.1 y e
      have h2 : lt x y = false := by
        rcases List.mem_cons.1 (h.mem.2 (List.mem_cons_self (a := x))) with e | e
        · rw [e]; exact hs.irr _
        · exact hr2.1 x e
      have e1 : eqv2 lt x x = true := zev.2 ⟨hs.irr _, hs.irr _⟩
      have e2 : eqv2 lt x y = true := zev.2 ⟨h2, h1⟩
      have hf := h.2 x
      rw [List.filter_cons_of_pos e1, List.filter_cons_of_pos e2] at hf
      have hxy : y = x := (List.cons.inj hf).1
      subst hxy
      congr 1
      refine Srt.unique hs hr1.2 hr2.2 ⟨(List.perm_cons _).1 h.1, fun a => ?_⟩
      have := h.2 a
      simp only [List.filter_cons] at this
      split at this
      · exact (List.cons.inj this).2
      · exact this
/-- Merging by parts. -/
theorem z78 (hs : Swo lt) {A B C E R1 R2 : List α} (h1 : Srt lt (A ++ B)) (h2 : Srt lt (C ++ E)) (hA : ∀ x ∈ B, ∀ y ∈ C, lt y x = true) (hB : ∀ x ∈ A, ∀ y ∈ E, lt y x = false)
    (s1 : Srt lt R1) (t1 : Stb lt (A ++ C) R1) (s2 : Srt lt R2) (t2 : Stb lt (B ++ E) R2) : Srt lt (R1 ++ R2) ∧ Stb lt ((A ++ B) ++ (C ++ E)) (R1 ++ R2) := by
  refine ⟨s1.app s2 fun u hu v hv => ?_, ?_⟩
  · have hu := List.mem_append.1 (t1.mem.1 hu)
    have hv := List.mem_append.1 (t2.mem.1 hv)
    rcases hu with hu | hu <;> rcases hv with hv | hv
    · exact h1.parts.2.2 u hu v hv
    · exact hB u hu v hv
    · exact hs.asym _ _ (hA v hv u hu)
    · exact h2.parts.2.2 u hu v hv
  · have : Stb lt ((A ++ B) ++ (C ++ E)) ((A ++ C) ++ (B ++ E)) := by
      have := ((Stb.refl (lt := lt) A).app (Stb.swap hs hA)).app (Stb.refl E)
      simpa [List.append_assoc] using this
    exact this.trans (t1.app t2)
theorem z80 (hs : Swo lt) {y c x b : α} (h1 : lt c y = false) (h2 : lt c b = true) (h3 : lt x b = false) : lt y x = true := by
  cases e : lt y x with
  | true => rfl
  | false =>
    have := hs.ntr _ _ _ (hs.ntr _ _ _ h1 e) h3
    rw [h2] at this; cases this
theorem zcd (hs : Swo lt) {y e x a : α} (h1 : lt y e = false) (h2 : lt e a = false) (h3 : lt a x = false) : lt y x = false := hs.ntr _ _ _ (hs.ntr _ _ _ h1 h2) h3
/-- Inserting after all that are not later. -/
theorem zbe (hs : Swo lt) {A B : List α} {x : α} (h : ∀ y ∈ B, lt x y = true) : Stb lt (A ++ B ++ [x]) (A ++ [x] ++ B) := by
  have := (Stb.refl (lt := lt) A).app (Stb.swap hs (X := B) (Y := [x]) fun z hz y hy => by simp at hy; subst hy; exact h z hz)
  simpa [List.append_assoc] using this
/-- A binary search. -/
theorem zas {ρ : Type} (L : Nat → Int → Int → Option ρ) (k : Int → Option ρ) (pred : Nat → Bool) (R : Nat) (s0 : Nat)
    (step : ∀ n s r : Nat, s0 ≤ s → s < r → r ≤ R → L (n + 1) s r = if pred ((s + r) / 2) = true then L n (((s + r) / 2 + 1 : Nat)) r else L n s ((s + r) / 2 : Nat)) (done : ∀ n s : Nat, L (n + 1) s s = k s) :
    ∀ n s r : Nat, s0 ≤ s → s ≤ r → r ≤ R → r - s < n → ∃ c : Nat, s ≤ c ∧ c ≤ r ∧ (c = s ∨ pred (c - 1) = true) ∧ (c = r ∨ pred c = false) ∧ L n s r = k c := by
  intro n
  induction n with
  | zero => intro s r _ _ _ h; omega
  | succ n ih =>
    intro s r h0 h hR hn
    by_cases e : s = r
    · subst e; exact ⟨s, Nat.le_refl _, Nat.le_refl _, .inl rfl, .inl rfl, done n s⟩
    · rw [step n s r h0 (by omega) hR]
      cases hp : pred ((s + r) / 2) with
      | true =>
        rw [if_pos rfl]
        obtain ⟨c, h1, h2, h3, h4, h5⟩ := ih ((s + r) / 2 + 1) r (by omega) (by omega) hR (by omega)
        refine ⟨c, by omega, h2, ?_, h4, h5⟩
        rcases h3 with h3 | h3
        · right; rw [h3]; simpa using hp
        · exact .inr h3
      | false =>
        rw [if_neg (by simp)]
        obtain ⟨c, h1, h2, h3, h4, h5⟩ := ih s ((s + r) / 2) h0 (by omega) (by omega) (by omega)
        refine ⟨c, h1, by omega, h3, ?_, h5⟩
        rcases h4 with h4 | h4
        · right; rw [h4]; exact hp
        · exact .inr h4
end
section arr
variable {α : Type} [Inhabited α]
theorem z5b {A B : List α} {x : α} {i : Int} (h : i = A.length) : gt (A ++ x :: B) i = x := by
  subst h; rw [z4w _ _ _ (Int.le_refl _)]; simp [gt]
omit [Inhabited α] in
theorem z7e {A B : List α} {x y : α} {i : Int} (h : i = A.length) : z1t (A ++ x :: B) i y = A ++ y :: B := by
  subst h; simp [z1t]
theorem zc0 {n : Int} (h0 : 0 ≤ n) (h : n ≤ 4611686018427387904) : W ((U (W n)).fdiv 2) = n / 2 := by
  rw [W_id (x := n) (by omega) (by omega), U_id h0 (by omega), Int.fdiv_eq_ediv_of_nonneg _ (by omega), W_id (by omega) (by omega)]
end arr
/-- A comparing function answers on D, and says lt. -/
def Cmp {α : Type} (D : α → Prop) (y : α → α → Option Int) (lt : α → α → Bool) : Prop := ∀ a b, D a → D b → ∃ z, y a b = some z ∧ decide (z < 0) = lt a b
theorem zdi {α : Type} [Inhabited α] {p : Prop} [Decidable p] {x : Option α} (h : p) : z57 p x = x := if_pos h
theorem zj7 {α : Type} [Inhabited α] {p : Prop} [Decidable p] {x : Option α} (h : ¬ p) : z57 p x = some default := if_neg h
theorem z4l {α : Type} (l : List α) : l = [] ∨ ∃ S w, l = S ++ [w] := by
  rcases List.eq_nil_or_concat l with h | ⟨S, w, h⟩
  · exact .inl h
  · exact .inr ⟨S, w, by rw [h, List.concat_eq_append]⟩
/-- Sorted blocks of bs elements, the last one perhaps shorter. -/
inductive Runs {α : Type} (lt : α → α → Bool) (bs : Nat) : List α → Prop
  | last {l : List α} (h : l.length ≤ bs) (hs : Srt lt l) : Runs lt bs l
  | cons {b r : List α} (h : b.length = bs) (hs : Srt lt b) (hr : Runs lt bs r) : Runs lt bs (b ++ r)
theorem Runs.small {α : Type} {lt : α → α → Bool} {bs : Nat} {l : List α} (h : Runs lt bs l) (hl : l.length ≤ bs) : Srt lt l := by
  cases h with
  | last _ hs => exact hs
  | cons h hs hr =>
    rename_i b r
    have : r = [] := List.eq_nil_of_length_eq_zero (by simp at hl; omega)
    rw [this, List.append_nil]; exact hs
theorem Runs.big {α : Type} {lt : α → α → Bool} {bs : Nat} {l : List α} (h : Runs lt bs l) (hl : bs < l.length) : ∃ b r, l = b ++ r ∧ b.length = bs ∧ Srt lt b ∧ Runs lt bs r ∧ r ≠ [] := by
  cases h with
  | last h _ => omega
  | cons h hs hr =>
    rename_i b r
    exact ⟨b, r, rfl, h, hs, hr, by intro e; subst e; simp at hl; omega⟩
end Px
end
section
namespace Px
open Go
set_option linter.unusedVariables false
set_option linter.unusedSimpArgs false
def cmpI (a b : Int) : Int := if a < b then -1 else if b < a then 1 else 0
def orI : List Int → Int
  | [] => 0
  | x :: l => if x = 0 then orI l else x
theorem zdg {a b : Int} : cmpI a b < 0 ↔ a < b := by unfold cmpI; split <;> (try split) <;> omega
theorem zb1 {a b : Int} : cmpI a b = 0 ↔ a = b := by unfold cmpI; split <;> (try split) <;> omega
theorem zfa {x : Int} {l : List Int} : orI (x :: l) < 0 ↔ x < 0 ∨ x = 0 ∧ orI l < 0 := by
  simp only [orI]; split <;> omega
theorem zpn {x : Int} {l : List Int} : orI (x :: l) = 0 ↔ x = 0 ∧ orI l = 0 := by
  simp only [orI]; split <;> omega
theorem zq0 {x : Int} {l : List Int} : orI (x :: l) ≤ 0 ↔ x < 0 ∨ x = 0 ∧ orI l ≤ 0 := by
  simp only [orI]; split <;> omega
theorem zdp : ¬ orI [] < 0 := by decide
theorem z91 (φ : Nat) (a b : Int) : z6c φ a b = some (cmpI a b) := by
  simp only [z6c, zb4, bne_self_eq_false, Option.bind_some, Bool.false_eq_true, if_false, cmpI, decide_eq_true_eq]
  split
  · rfl
  · split <;> rfl
theorem zjj (φ : Nat) (l : List Int) (hl : l.length ≤ 1000000) : ∀ (n i : Nat), i ≤ l.length → l.length - i < n → z9n φ l (z9o φ) n (i : Int) = some (orI (l.drop i)) := by
  intro n
  induction n with
  | zero => intro i _ h; omega
  | succ n ih =>
    intro i hi hn
    rw [z9n]
    by_cases h : i = l.length
    · rw [if_neg (by simp; omega), h, List.drop_length]; rfl
    · rw [if_pos (by simp; omega), zm ⟨by omega, by omega⟩, zlw l i (by omega)]
      have w : W ((i : Int) + 1) = ((i + 1 : Nat) : Int) := by rw [W_id (by omega) (by omega)]; simp
      rw [w, ih (i + 1) (by omega) (by omega)]
      simp only [orI]
      by_cases q : gt l (i : Int) = 0
      · rw [if_neg (by simp [q]), if_pos q]
      · rw [if_pos (by simp [q]), if_neg q]
theorem zd9 (φ : Nat) (l : List Int) (hl : l.length ≤ 1000000) (hφ : l.length < φ) : zco φ l = some (orI l) := by
  have := zjj φ l hl φ 0 (Nat.zero_le _) (by omega)
  simpa [zco] using this
def refC (a b : Ref) : Int := orI [cmpI a.fRailway b.fRailway, cmpI a.fNo b.fNo]
theorem zew (φ : Nat) (hφ : 3 < φ) (a b : Ref) : z3x φ a b = some (refC a b) := by
  simp only [z3x, z91, Option.bind_some]
  rw [zd9 φ _ (by simp) (by simp; omega)]
  rfl
def matC (a b : z3) : Int := orI [cmpI a.fAt b.fAt, cmpI a.fWagon b.fWagon, refC a.fDeliver b.fDeliver]
theorem zjr (φ : Nat) (hφ : 4 < φ) (a b : z3) : z4p φ a b = some (matC a b) := by
  simp only [z4p, z91, zew φ (by omega : 3 < φ), Option.bind_some]
  rw [zd9 φ _ (by simp) (by simp; omega)]
  rfl
def znf (l : List zb) (i k : Int) : Int := orI [cmpI (gt l i).fItem.fFrom (gt l k).fItem.fFrom, refC (gt l i).fRef (gt l k).fRef]
theorem zj2 (φ : Nat) (hφ : 3 < φ) (l : List zb) (i k : Int) (h1 : 0 ≤ i ∧ i < (l.length : Int)) (h2 : 0 ≤ k ∧ k < (l.length : Int)) : z4x φ i k l = some (znf l i k) := by
  unfold z4x
  rw [zm h1, zm h2]
  simp only [z91, zew φ hφ, Option.bind_some]
  rw [zd9 φ _ (by simp) (by simp; omega)]
  rfl
def zlj (a b : Ref) : Bool := decide (refC a b < 0)
def zl6 (a b : z3) : Bool := decide (matC a b < 0)
def zb8 (l : List zb) (i k : Int) : Bool := decide (znf l i k < 0)
theorem zaj {a b : Ref} : refC a b < 0 ↔ a.fRailway < b.fRailway ∨ a.fRailway = b.fRailway ∧ a.fNo < b.fNo := by
  unfold refC; rw [zfa, zfa, zdg, zb1, zdg, zb1]; simp [zdp]
theorem zqr {a b : Ref} : refC a b = 0 ↔ a.fRailway = b.fRailway ∧ a.fNo = b.fNo := by
  unfold refC; rw [zpn, zpn, zb1, zb1]; simp [orI]
theorem zls {a b : z3} : matC a b < 0 ↔ a.fAt < b.fAt ∨ a.fAt = b.fAt ∧ (a.fWagon < b.fWagon ∨ a.fWagon = b.fWagon ∧ refC a.fDeliver b.fDeliver < 0) := by
  unfold matC; rw [zfa, zfa, zfa, zdg, zb1, zdg, zb1]; simp [zdp]
theorem zhq {l : List zb} {i k : Int} : znf l i k < 0 ↔ (gt l i).fItem.fFrom < (gt l k).fItem.fFrom ∨ (gt l i).fItem.fFrom = (gt l k).fItem.fFrom ∧ refC (gt l i).fRef (gt l k).fRef < 0 := by
  unfold znf; rw [zfa, zfa, zdg, zb1]; simp [zdp]
theorem zh5 : Swo zlj := by
  constructor
  · intro a b h
    simp only [zlj, decide_eq_true_eq, decide_eq_false_iff_not, zaj] at h ⊢; omega
  · intro a b c h h'
    simp only [zlj, decide_eq_false_iff_not, zaj] at h h' ⊢; omega
theorem zj8 : Swo zl6 := by
  constructor
  · intro a b h
    simp only [zl6, decide_eq_true_eq, decide_eq_false_iff_not, zls, zaj] at h ⊢; omega
  · intro a b c h h'
    simp only [zl6, decide_eq_false_iff_not, zls, zaj] at h h' ⊢; omega
theorem zex (l : List zb) : Swo (zb8 l) := by
  constructor
  · intro a b h
    simp only [zb8, decide_eq_true_eq, decide_eq_false_iff_not, zhq, zaj] at h ⊢; omega
  · intro a b c h h'
    simp only [zb8, decide_eq_false_iff_not, zhq, zaj] at h h' ⊢; omega
theorem zrw (φ : Nat) (hφ : 3 < φ) : Cmp (fun _ => True) (fun a b => z3x φ a b) zlj := fun a b _ _ => ⟨_, zew φ hφ a b, rfl⟩
theorem zrq (φ : Nat) (hφ : 4 < φ) : Cmp (fun _ => True) (fun a b => z4p φ a b) zl6 := fun a b _ _ => ⟨_, zjr φ hφ a b, rfl⟩
theorem zod (φ : Nat) (hφ : 3 < φ) (l : List zb) : Cmp (fun i => 0 ≤ i ∧ i < (l.length : Int)) (fun a b => z4x φ a b l) (zb8 l) := fun a b h1 h2 => ⟨_, zj2 φ hφ l a b h1 h2, rfl⟩
end Px
end
section
namespace Px
open Go
set_option linter.unusedVariables false
set_option linter.unusedSimpArgs false
theorem Pool.eta' (p : Pool) : Pool.mk p.fNetwork p.fFleet p.fReaders p.fShippers p.fRailways = p := rfl
theorem Item.eta' (x : Item) : Item.mk x.fKind x.fRef x.fWagon x.fPlace x.fOther x.fNumber x.fFrom x.fTo x.fCode x.fDest x.fClass x.fWeight x.fAmount x.fText x.fParts = x := rfl
theorem zb.eta' (x : zb) : zb.mk x.fRef x.fBy x.fTime x.fItem = x := rfl
theorem z6z {n b : Nat} (h : n ≤ 1000000) (hb : b ≤ 1000000) : fits n b := by
  have : n * b ≤ 1000000 * 1000000 := Nat.mul_le_mul h hb
  unfold fits
  first | omega | (constructor <;> omega)
def idxF {α : Type} [Inhabited α] (p : α → Bool) (l : List α) : List Int := ((List.range l.length).filter fun (i : Nat) => p (gt l (i : Int))).map fun (i : Nat) => (i : Int)
theorem z5r {α : Type} [Inhabited α] {p : α → Bool} {l : List α} {i : Int} : i ∈ idxF p l ↔ 0 ≤ i ∧ i < (l.length : Int) ∧ p (gt l i) = true := by
  simp only [idxF, List.mem_map, List.mem_filter, List.mem_range]
  constructor
  · rintro ⟨a, ⟨h1, h2⟩, rfl⟩
    exact ⟨by omega, by omega, h2⟩
  · rintro ⟨h1, h2, h3⟩
    refine ⟨i.toNat, ⟨by omega, ?_⟩, by omega⟩
    rw [Int.toNat_of_nonneg h1]; exact h3
theorem zaq {α : Type} [Inhabited α] (p : α → Bool) (l : List α) : (idxF p l).length ≤ l.length := by
  simp only [idxF, List.length_map]
  exact Nat.le_trans (List.length_filter_le _ _) (by simp)
theorem zbb {α : Type} [Inhabited α] (p : α → Bool) (l : List α) : (idxF p l).Nodup := by
  unfold idxF
  refine List.Pairwise.map _ (fun a b h => ?_) ((List.nodup_range (n := l.length)).filter _)
  intro e; exact h (by omega)
theorem of_eq (φ : Nat) (p : Pool) (l : List zb) (kind : Int) (ok : Item → Bool) (hl : l.length ≤ 100000) (hφ : l.length < φ)
    (hok : ∀ r ∈ l, r.fItem.fKind = kind → ∃ e, z94 φ p r.fItem = some e ∧ (e == 0) = ok r.fItem) :
    z7n φ p l kind = some (idxF (fun r => r.fItem.fKind == kind && ok r.fItem) l) := by
  unfold z7n
  refine z51 (z3v φ p l kind (z5q φ)) l.length (fun i s => s = ((List.range i).filter fun (j : Nat) => (gt l (j : Int)).fItem.fKind == kind && ok (gt l (j : Int)).fItem).map fun (j : Nat) => (j : Int))
    (fun o => o = some (idxF (fun r => r.fItem.fKind == kind && ok r.fItem) l)) ?_ ?_ φ [] rfl hφ
  · intro n i s hi hs hk
    have hsl : s.length ≤ i := by rw [hs, List.length_map]; exact Nat.le_trans (List.length_filter_le _ _) (by simp)
    have hnext : ((List.range (i + 1)).filter fun (j : Nat) => (gt l (j : Int)).fItem.fKind == kind && ok (gt l (j : Int)).fItem).map (fun (j : Nat) => (j : Int)) = if ((gt l (i : Int)).fItem.fKind == kind && ok (gt l (i : Int)).fItem) = true then s ++ [(i : Int)] else s := by
      rw [List.range_succ, List.filter_append, List.map_append, ← hs]
      cases h : ((gt l (i : Int)).fItem.fKind == kind && ok (gt l (i : Int)).fItem) <;> simp [h]
    rw [z3v, if_pos (by simp; omega), zm ⟨by omega, by omega⟩]
    have w : W ((i : Int) + 1) = (i : Int) + 1 := W_id (by omega) (by omega)
    simp only [Pool.eta', Item.eta', z71, w]
    by_cases q : (gt l (i : Int)).fItem.fKind = kind
    · obtain ⟨e, h1, h2⟩ := hok (gt l (i : Int)) (z8e (by omega) (by omega)) q
      rw [zdi (by simp [q]), h1]
      simp only [Option.bind_some]
      rw [show (e == 0) = ok (gt l (i : Int)).fItem from h2]
      split
      · rename_i h
        rw [zm (z6z (by simp; omega) (by omega))]
        exact hk _ (by rw [hnext, if_pos h])
      · rename_i h
        exact hk _ (by rw [hnext, if_neg h])
    · rw [zj7 (by simp [q])]
      simp only [Option.bind_some]
      have hq : ((gt l (i : Int)).fItem.fKind == kind) = false := by simp [q]
      rw [hq, Bool.false_and, if_neg (by simp)]
      exact hk _ (by rw [hnext, hq]; simp)
  · intro n s hs
    rw [z3v, if_neg (by simp), hs]
    rfl
end Px
end
section
namespace Px
open Go
set_option linter.unusedVariables false
set_option linter.unusedSimpArgs false
def gapW (a b : zb) : Int := max2 (W (a.fItem.fFrom - b.fItem.fFrom)) (W (b.fItem.fFrom - a.fItem.fFrom))
theorem zsj (φ : Nat) (a b : zb) : z8d φ a b = some (gapW a b) := rfl
def unf5 (l : List zb) (used : List (Int × Bool)) (i k : Int) : Bool :=
  (((((mget used k).getD false) || ((gt l k).fRef.fRailway != (gt l i).fItem.fOther)) || ((gt l k).fItem.fOther != (gt l i).fRef.fRailway)) || ((gt l k).fItem.fWagon != (gt l i).fItem.fWagon)) || ((gt l k).fItem.fPlace != (gt l i).fItem.fPlace)
def unfit (l : List zb) (used : List (Int × Bool)) (i k : Int) : Bool := unf5 l used i k || decide (60 < gapW (gt l i) (gt l k))
def betC (l : List zb) (i b k : Int) : Int := orI [cmpI (gapW (gt l i) (gt l b)) (gapW (gt l i) (gt l k)), refC (gt l b).fRef (gt l k).fRef]
def z87 (l : List zb) (used : List (Int × Bool)) (i b k : Int) : Int :=
  if unfit l used i k = true then b else if (decide (0 ≤ b) && decide (betC l i b k ≤ 0)) = true then b else k
def z58 (l : List zb) (used : List (Int × Bool)) (i : Int) (rs : List Int) : Int := rs.foldl (z87 l used i) (-1)
theorem zmx (φ : Nat) (hφ : 4 < φ) (l : List zb) (rs ds : List Int) (d : Int) (used : List (Int × Bool)) (k : Int → Option (List (Nat → Int))) (hl : rs.length ≤ 100000) (hr : ∀ z ∈ rs, 0 ≤ z ∧ z < (l.length : Int)) (hφ2 : rs.length < φ) :
    z13 φ l rs ds d used k φ (-1) 0 = k (z58 l used (gt ds d) rs) := by
  refine z51 (fun n j s => z13 φ l rs ds d used k n s j) rs.length (fun j s => s = (rs.take j).foldl (z87 l used (gt ds d)) (-1) ∧ (0 ≤ s → s < (l.length : Int)))
    (fun o => o = k (z58 l used (gt ds d) rs)) ?_ ?_ φ (-1) ⟨by simp, by omega⟩ hφ2
  · intro n j s hj ⟨hs, hin⟩ hk
    have hz := hr _ (z8e (l := rs) (i := (j : Int)) (by omega) (by omega))
    have hnext : (rs.take (j + 1)).foldl (z87 l used (gt ds d)) (-1) = z87 l used (gt ds d) s (gt rs (j : Int)) := by
      rw [z7s rs j hj, List.foldl_append, ← hs]; rfl
    have w : W ((j : Int) + 1) = (j : Int) + 1 := W_id (by omega) (by omega)
    rw [z13, if_pos (by simp; omega), zm ⟨by omega, by omega⟩, zm hz]
    simp only [Item.eta', zb.eta', zsj, z52, w]
    have hu5 : (((((mget used (gt rs (j : Int))).getD false) || ((gt l (gt rs (j : Int))).fRef.fRailway != (gt l (gt ds d)).fItem.fOther)) || ((gt l (gt rs (j : Int))).fItem.fOther != (gt l (gt ds d)).fRef.fRailway)) || ((gt l (gt rs (j : Int))).fItem.fWagon != (gt l (gt ds d)).fItem.fWagon) || ((gt l (gt rs (j : Int))).fItem.fPlace != (gt l (gt ds d)).fItem.fPlace)) = unf5 l used (gt ds d) (gt rs (j : Int)) := rfl
    rw [hu5]
    have hun : unfit l used (gt ds d) (gt rs (j : Int)) = (unf5 l used (gt ds d) (gt rs (j : Int)) || decide (60 < gapW (gt l (gt ds d)) (gt l (gt rs (j : Int))))) := rfl
    have htail : ∀ (b : Bool), b = unfit l used (gt ds d) (gt rs (j : Int)) →
        (if b = true then z13 φ l rs ds d used k n s ((j : Int) + 1) else
          ck ((decide (0 ≤ s) = true) → ((0 : Int) ≤ s ∧ s < (l.length : Int))) ((z57 (decide (0 ≤ s) = true) (some (gapW (gt l (gt ds d)) (gt l s)))).bind fun y103 => ((z57 (decide (0 ≤ s) = true) (some (gapW (gt l (gt ds d)) (gt l (gt rs (j : Int)))))).bind fun y107 => ((z57 (decide (0 ≤ s) = true) (z6c φ y103 y107)).bind fun y109 => ((z57 (decide (0 ≤ s) = true) (z3x φ ((gt l s).fRef) ((gt l (gt rs (j : Int))).fRef))).bind fun y118 => ((z57 (decide (0 ≤ s) = true) (zco φ [y109, y118])).bind fun y125 =>
            (if (decide (0 ≤ s) && decide (y125 ≤ 0)) = true then z13 φ l rs ds d used k n s ((j : Int) + 1) else z13 φ l rs ds d used k n (gt rs (j : Int)) ((j : Int) + 1)))))))) = k (z58 l used (gt ds d) rs) := by
      intro b hb
      cases b with
      | true =>
        rw [if_pos rfl]
        have e : z87 l used (gt ds d) s (gt rs (j : Int)) = s := by unfold z87; rw [if_pos hb.symm]
        exact hk s ⟨by rw [hnext, e], hin⟩
      | false =>
        rw [if_neg (by simp)]
        by_cases q : 0 ≤ s
        · rw [zm (fun _ => ⟨q, hin q⟩)]
          simp only [zdi (show decide (0 ≤ s) = true by simp [q]), Option.bind_some, z91, zew φ (by omega : 3 < φ)]
          rw [zd9 φ _ (by simp) (by simp; omega)]
          simp only [Option.bind_some]
          have hb2 : orI [cmpI (gapW (gt l (gt ds d)) (gt l s)) (gapW (gt l (gt ds d)) (gt l (gt rs (j : Int)))), refC (gt l s).fRef (gt l (gt rs (j : Int))).fRef] = betC l (gt ds d) s (gt rs (j : Int)) := rfl
          rw [hb2]
          split
          · rename_i h
            have e : z87 l used (gt ds d) s (gt rs (j : Int)) = s := by unfold z87; rw [← hb, if_neg (by simp), if_pos h]
            exact hk s ⟨by rw [hnext, e], hin⟩
          · rename_i h
            have e : z87 l used (gt ds d) s (gt rs (j : Int)) = gt rs (j : Int) := by unfold z87; rw [← hb, if_neg (by simp), if_neg h]
            exact hk _ ⟨by rw [hnext, e], fun _ => hz.2⟩
        · rw [zm (fun h => absurd (by simpa using h) q)]
          simp only [zj7 (show ¬ decide (0 ≤ s) = true by simpa using q), Option.bind_some]
          have h : ¬ (decide (0 ≤ s) && decide (betC l (gt ds d) s (gt rs (j : Int)) ≤ 0)) = true := by simp [q]
          have e : z87 l used (gt ds d) s (gt rs (j : Int)) = gt rs (j : Int) := by unfold z87; rw [← hb, if_neg (by simp), if_neg h]
          rw [if_neg (by simp [q])]
          exact hk _ ⟨by rw [hnext, e], fun _ => hz.2⟩
    cases h5 : unf5 l used (gt ds d) (gt rs (j : Int)) with
    | true =>
      rw [zj7 (by simp)]
      simp only [Option.bind_some, Bool.true_or]
      exact htail true (by rw [hun, h5]; rfl)
    | false =>
      rw [zdi rfl]
      simp only [Option.bind_some, Bool.false_or]
      exact htail _ (by rw [hun, h5]; rfl)
  · intro n s ⟨hs, _⟩
    rw [List.take_length] at hs
    rw [z13, if_neg (by simp), hs]
    rfl
end Px
end
section
namespace Px
open Go
set_option linter.unusedVariables false
set_option linter.unusedSimpArgs false
set_option maxHeartbeats 1000000
section
theorem zlh (φ : Nat) (P Z Q : List Int) (c : Nat) : ∀ (n : Nat) (X1 X2 Y1 Y2 : List Int), X1.length = Y1.length → X2.length = Y2.length → c = X1.length + X2.length → P.length + c + Z.length + c + Q.length ≤ 1000000 → X2.length < n →
    z1a φ (P.length : Int) ((P.length : Int) + c + Z.length) (c : Int) n (X1.length : Int) (P ++ Y1 ++ X2 ++ Z ++ X1 ++ Y2 ++ Q) = some (P ++ Y1 ++ Y2 ++ Z ++ X1 ++ X2 ++ Q) := by
  intro n
  induction n with
  | zero => intro X1 X2 Y1 Y2 _ _ _ _ h; omega
  | succ n ih =>
    intro X1 X2 Y1 Y2 h1 h2 hc hl hn
    cases X2 with
    | nil =>
      have : Y2 = [] := List.eq_nil_of_length_eq_zero (by simpa using h2.symm)
      subst this
      simp only [List.length_nil, Nat.add_zero] at hc
      rw [z1a, if_neg (by simp; omega)]
    | cons x X2 =>
      cases Y2 with
      | nil => simp at h2
      | cons w Y2 =>
        simp only [List.length_cons, Nat.add_right_cancel_iff] at h2 hc hn
        have w1 : W ((P.length : Int) + c + Z.length + X1.length) = (P.length : Int) + c + Z.length + X1.length := W_id (by omega) (by omega)
        have w2 : W ((P.length : Int) + X1.length) = (P.length : Int) + X1.length := W_id (by omega) (by omega)
        have w3 : W ((X1.length : Int) + 1) = (X1.length : Int) + 1 := W_id (by omega) (by omega)
        have e1 : P ++ Y1 ++ x :: X2 ++ Z ++ X1 ++ w :: Y2 ++ Q = (P ++ Y1) ++ x :: (X2 ++ Z ++ X1 ++ w :: Y2 ++ Q) := by simp
        have e2 : P ++ Y1 ++ x :: X2 ++ Z ++ X1 ++ w :: Y2 ++ Q = (P ++ Y1 ++ x :: X2 ++ Z ++ X1) ++ w :: (Y2 ++ Q) := by simp
        have g1 : gt (P ++ Y1 ++ x :: X2 ++ Z ++ X1 ++ w :: Y2 ++ Q) ((P.length : Int) + X1.length) = x := by rw [e1]; exact z5b (by simp; omega)
        have g2 : gt (P ++ Y1 ++ x :: X2 ++ Z ++ X1 ++ w :: Y2 ++ Q) ((P.length : Int) + c + Z.length + X1.length) = w := by rw [e2]; exact z5b (by simp; omega)
        have s1 : z1t (P ++ Y1 ++ x :: X2 ++ Z ++ X1 ++ w :: Y2 ++ Q) ((P.length : Int) + X1.length) w = (P ++ Y1) ++ w :: (X2 ++ Z ++ X1 ++ w :: Y2 ++ Q) := by rw [e1]; exact z7e (by simp; omega)
        have e3 : (P ++ Y1) ++ w :: (X2 ++ Z ++ X1 ++ w :: Y2 ++ Q) = (P ++ Y1 ++ w :: X2 ++ Z ++ X1) ++ w :: (Y2 ++ Q) := by simp
        have s2 : z1t ((P ++ Y1 ++ w :: X2 ++ Z ++ X1) ++ w :: (Y2 ++ Q)) ((P.length : Int) + c + Z.length + X1.length) x = (P ++ Y1 ++ w :: X2 ++ Z ++ X1) ++ x :: (Y2 ++ Q) := z7e (by simp; omega)
        have e4 : (P ++ Y1 ++ w :: X2 ++ Z ++ X1) ++ x :: (Y2 ++ Q) = P ++ (Y1 ++ [w]) ++ X2 ++ Z ++ (X1 ++ [x]) ++ Y2 ++ Q := by simp
        have hlen : ((P ++ Y1 ++ x :: X2 ++ Z ++ X1 ++ w :: Y2 ++ Q).length : Int) = P.length + c + Z.length + c + Q.length := by simp; omega
        have hlen2 : (((P ++ Y1 ++ w :: X2 ++ Z ++ X1) ++ w :: (Y2 ++ Q)).length : Int) = P.length + c + Z.length + c + Q.length := by simp; omega
        rw [z1a, if_pos (by simp; omega), w1, w2, w3, g1, g2, s1, e3, s2, e4, hlen, hlen2]
        rw [zm ⟨by omega, by omega⟩, zm ⟨by omega, by omega⟩, zm ⟨by omega, by omega⟩]
        have := ih (X1 ++ [x]) X2 (Y1 ++ [w]) Y2 (by simp [h1]) h2 (by simp; omega) hl (by omega)
        have e5 : (((X1 ++ [x]).length : Nat) : Int) = (X1.length : Int) + 1 := by simp
        rw [e5] at this
        rw [this]
        simp
theorem zfw (φ : Nat) (P X Z Y Q : List Int) (y : Int → Int → Option Int) (h : X.length = Y.length) (hl : P.length + X.length + Z.length + X.length + Q.length ≤ 1000000) (hφ : X.length < φ) :
    z2h φ (P ++ X ++ Z ++ Y ++ Q) (P.length : Int) ((P.length : Int) + X.length + Z.length) (X.length : Int) y = some (P ++ Y ++ Z ++ X ++ Q) := by
  have := zlh φ P Z Q X.length φ [] X [] Y rfl h (by simp) hl hφ
  simpa [z2h] using this
theorem zn3 (φ : Nat) (y : Int → Int → Option Int) : ∀ (n : Nat) (P X Y Q : List Int), X ≠ [] → Y ≠ [] → P.length + X.length + Y.length + Q.length ≤ 1000000 → X.length + Y.length ≤ n → X.length + Y.length < φ →
    z1h φ ((P.length : Int) + X.length) y (z1v φ ((P.length : Int) + X.length) y) n (X.length : Int) (Y.length : Int) (P ++ X ++ Y ++ Q) = some (P ++ Y ++ X ++ Q) := by
  intro n
  induction n with
  | zero => intro P X Y Q hX hY _ h; have := List.length_pos_iff.2 hX; omega
  | succ n ih =>
    intro P X Y Q hX hY hl hn hφ
    have hX0 := List.length_pos_iff.2 hX
    have hY0 := List.length_pos_iff.2 hY
    have w1 : W ((P.length : Int) + X.length - X.length) = (P.length : Int) := by rw [W_id (by omega) (by omega)]; omega
    rw [z1h, w1]
    by_cases he : X.length = Y.length
    · rw [if_neg (by simp [he])]
      unfold z1v
      rw [w1]
      have := zfw φ P X [] Y Q y he (by simp; omega) (by omega)
      simp only [List.append_nil, List.length_nil, Int.ofNat_zero, Int.add_zero] at this
      rw [this]; rfl
    · rw [if_pos (by simp; omega)]
      by_cases hlt : Y.length < X.length
      · rw [if_pos (by simp; omega)]
        obtain ⟨X1, X2, rfl, h1⟩ : ∃ X1 X2, X = X1 ++ X2 ∧ X1.length = Y.length := ⟨X.take Y.length, X.drop Y.length, (List.take_append_drop _ _).symm, by simp; omega⟩
        simp only [List.length_append] at hl hn hφ hlt hX0 he
        have e1 : P ++ (X1 ++ X2) ++ Y ++ Q = P ++ X1 ++ X2 ++ Y ++ Q := by simp
        have e2 : (P.length : Int) + ((X1 ++ X2).length : Nat) = (P.length : Int) + X1.length + X2.length := by simp; omega
        rw [e1, e2, ← h1, zfw φ P X1 X2 Y Q y h1 (by omega) (by omega)]
        simp only [Option.bind_some]
        have w2 : W (((X1 ++ X2).length : Int) - X1.length) = (X2.length : Int) := by simp; rw [W_id (by omega) (by omega)]; omega
        rw [w2]
        have := ih (P ++ Y) X2 X1 Q (by intro e; subst e; simp at hlt; omega) (by intro e; subst e; simp at h1; omega) (by simp; omega) (by omega) (by omega)
        have e3 : (((P ++ Y).length : Nat) : Int) + X2.length = (P.length : Int) + X1.length + X2.length := by simp; omega
        rw [e3] at this
        rw [this]
        simp
      · rw [if_neg (by simp; omega)]
        obtain ⟨Y1, Y2, rfl, h1⟩ : ∃ Y1 Y2, Y = Y1 ++ Y2 ∧ Y2.length = X.length := ⟨Y.take (Y.length - X.length), Y.drop (Y.length - X.length), (List.take_append_drop _ _).symm, by simp; omega⟩
        simp only [List.length_append] at hl hn hφ hlt hY0 he
        have e1 : P ++ X ++ (Y1 ++ Y2) ++ Q = P ++ X ++ Y1 ++ Y2 ++ Q := by simp
        have w3 : W ((P.length : Int) + X.length + ((Y1 ++ Y2).length : Nat)) = (P.length : Int) + X.length + Y1.length + Y2.length := by simp; rw [W_id (by omega) (by omega)]; omega
        have w4 : W ((P.length : Int) + X.length + Y1.length + Y2.length - X.length) = (P.length : Int) + X.length + Y1.length := by rw [W_id (by omega) (by omega)]; omega
        have w5 : W (((Y1 ++ Y2).length : Int) - X.length) = (Y1.length : Int) := by simp; rw [W_id (by omega) (by omega)]; omega
        rw [e1, w3, w4, w5, zfw φ P X Y1 Y2 Q y h1.symm (by omega) (by omega)]
        simp only [Option.bind_some]
        have := ih P Y2 Y1 (X ++ Q) (by intro e; subst e; simp at h1; omega) (by intro e; subst e; simp at h1 hlt he; omega) (by simp; omega) (by omega) (by omega)
        rw [h1] at this
        have e2 : P ++ Y2 ++ Y1 ++ X ++ Q = P ++ Y2 ++ Y1 ++ (X ++ Q) := by simp
        rw [e2, this]
        simp
theorem zja (φ : Nat) (P X Y Q : List Int) (y : Int → Int → Option Int) (hX : X ≠ []) (hY : Y ≠ []) (hl : P.length + X.length + Y.length + Q.length ≤ 1000000) (hφ : X.length + Y.length < φ) :
    z4d φ (P ++ X ++ Y ++ Q) (P.length : Int) ((P.length : Int) + X.length) ((P.length : Int) + X.length + Y.length) y = some (P ++ Y ++ X ++ Q) := by
  have := zn3 φ y φ P X Y Q hX hY hl (by omega) hφ
  rw [← this]
  unfold z4d
  have w1 : W ((P.length : Int) + X.length - P.length) = (X.length : Int) := by rw [W_id (by omega) (by omega)]; omega
  have w2 : W ((P.length : Int) + X.length + Y.length - ((P.length : Int) + X.length)) = (Y.length : Int) := by rw [W_id (by omega) (by omega)]; omega
  rw [w1, w2]
end
end Px
end
section
namespace Px
open Go
set_option linter.unusedVariables false
set_option linter.unusedSimpArgs false
set_option maxHeartbeats 2000000
section
variable {D : Int → Prop} {lt : Int → Int → Bool} {y : Int → Int → Option Int}
theorem zig (φ : Nat) (k : List Int → Option (List Int)) (x : Int) : ∀ (n : Nat) (P C E : List Int), P.length + C.length + E.length ≤ 999999 → C.length < n →
    z22 φ ((P.length : Int) + C.length + 1) k n (P.length : Int) (P ++ x :: (C ++ E)) = k (P ++ C ++ x :: E) := by
  intro n
  induction n with
  | zero => intro P C E _ h; omega
  | succ n ih =>
    intro P C E hl hn
    have w0 : W ((P.length : Int) + C.length + 1 - 1) = (P.length : Int) + C.length := by rw [W_id (by omega) (by omega)]; omega
    rw [z22, w0]
    cases C with
    | nil => rw [if_neg (by simp)]; simp
    | cons w C =>
      simp only [List.length_cons] at hl hn
      have w1 : W ((P.length : Int) + 1) = (P.length : Int) + 1 := W_id (by omega) (by omega)
      have e1 : P ++ x :: (w :: C ++ E) = (P ++ [x]) ++ w :: (C ++ E) := by simp
      have g1 : gt (P ++ x :: (w :: C ++ E)) (P.length : Int) = x := z5b rfl
      have g2 : gt (P ++ x :: (w :: C ++ E)) ((P.length : Int) + 1) = w := by rw [e1]; exact z5b (by simp)
      have s1 : z1t (P ++ x :: (w :: C ++ E)) (P.length : Int) w = P ++ w :: (w :: C ++ E) := z7e rfl
      have e2 : P ++ w :: (w :: C ++ E) = (P ++ [w]) ++ w :: (C ++ E) := by simp
      have s2 : z1t ((P ++ [w]) ++ w :: (C ++ E)) ((P.length : Int) + 1) x = (P ++ [w]) ++ x :: (C ++ E) := z7e (by simp)
      have hlen : ((P ++ x :: (w :: C ++ E)).length : Int) = P.length + C.length + E.length + 2 := by simp; omega
      have hlen2 : (((P ++ [w]) ++ w :: (C ++ E)).length : Int) = P.length + C.length + E.length + 2 := by simp; omega
      rw [if_pos (by simp; omega), w1, g1, g2, s1, e2, s2, hlen, hlen2, zm ⟨by omega, by omega⟩, zm ⟨by omega, by omega⟩, zm ⟨by omega, by omega⟩]
      have := ih (P ++ [w]) C E (by simp; omega) (by omega)
      have e3 : (((P ++ [w]).length : Nat) : Int) = (P.length : Int) + 1 := by simp
      have e4 : (P.length : Int) + ((w :: C).length : Nat) + 1 = (P.length : Int) + 1 + C.length + 1 := by simp; omega
      rw [e3] at this
      rw [e4, this]
      simp
theorem zgc (φ : Nat) (k : List Int → Option (List Int)) (x : Int) (P : List Int) : ∀ (n : Nat) (C E : List Int), P.length + C.length + E.length ≤ 999999 → C.length < n →
    z21 φ (P.length : Int) k n ((P.length : Int) + C.length) (P ++ C ++ x :: E) = k (P ++ x :: (C ++ E)) := by
  intro n
  induction n with
  | zero => intro C E _ h; omega
  | succ n ih =>
    intro C E hl hn
    rw [z21]
    rcases z4l C with rfl | ⟨S, z, rfl⟩
    · rw [if_neg (by simp)]; simp
    · simp only [List.length_append, List.length_cons, List.length_nil] at hl hn
      have w1 : W ((P.length : Int) + ((S ++ [z]).length : Nat) - 1) = (P.length : Int) + S.length := by
        rw [W_id (by simp; omega) (by simp; omega)]; simp; omega
      have e1 : P ++ (S ++ [z]) ++ x :: E = (P ++ S ++ [z]) ++ x :: E := by simp
      have e2 : P ++ (S ++ [z]) ++ x :: E = (P ++ S) ++ z :: (x :: E) := by simp
      have g1 : gt (P ++ (S ++ [z]) ++ x :: E) ((P.length : Int) + ((S ++ [z]).length : Nat)) = x := by rw [e1]; exact z5b (by simp <;> omega)
      have g2 : gt (P ++ (S ++ [z]) ++ x :: E) ((P.length : Int) + S.length) = z := by rw [e2]; exact z5b (by simp)
      have s1 : z1t (P ++ (S ++ [z]) ++ x :: E) ((P.length : Int) + ((S ++ [z]).length : Nat)) z = (P ++ S) ++ z :: (z :: E) := by rw [e1, z7e (by simp <;> omega)]; simp
      have s2 : z1t ((P ++ S) ++ z :: (z :: E)) ((P.length : Int) + S.length) x = P ++ S ++ x :: (z :: E) := z7e (by simp)
      have hlen : ((P ++ (S ++ [z]) ++ x :: E).length : Int) = P.length + S.length + E.length + 2 := by simp; omega
      have hlen2 : (((P ++ S) ++ z :: (z :: E)).length : Int) = P.length + S.length + E.length + 2 := by simp; omega
      rw [if_pos (by simp; omega), w1, g1, g2, s1, s2, hlen, hlen2, zm ⟨by omega, by omega⟩, zm ⟨by omega, by simp; omega⟩, zm ⟨by omega, by omega⟩]
      rw [ih S (z :: E) (by simp; omega) (by omega)]
      simp
/-- One element before a sorted list. -/
theorem zfi (hs : Swo lt) (hy : Cmp D y lt) (φ : Nat) (P L Q : List Int) (x : Int) (hx : D x) (hD : ∀ z ∈ L, D z) (hS : Srt lt L) (hl : P.length + L.length + Q.length ≤ 999998) (hφ : P.length + L.length + 2 < φ) :
    ∃ R, Srt lt R ∧ Stb lt (x :: L) R ∧ z04 φ (P ++ x :: (L ++ Q)) (P.length : Int) y (z0b φ (P ++ x :: (L ++ Q)) (P.length : Int)) φ ((P.length : Int) + 1) ((P.length : Int) + 1 + L.length) = some (P ++ R ++ Q) := by
  have gx : gt (P ++ x :: (L ++ Q)) (P.length : Int) = x := z5b rfl
  have hlen : ((P ++ x :: (L ++ Q)).length : Int) = P.length + L.length + Q.length + 1 := by simp; omega
  have gL : ∀ i : Nat, P.length + 1 ≤ i → i < P.length + 1 + L.length → gt (P ++ x :: (L ++ Q)) (i : Int) = gt L ((i - (P.length + 1) : Nat) : Int) := by
    intro i h1 h2
    have e : P ++ x :: (L ++ Q) = (P ++ [x]) ++ (L ++ Q) := by simp
    rw [e, z4w _ _ _ (by simp; omega), z5y _ _ _ (by simp; omega) (by simp; omega)]
    congr 1; simp; omega
  obtain ⟨c, h1, h2, h3, h4, h5⟩ := zas (z04 φ (P ++ x :: (L ++ Q)) (P.length : Int) y (z0b φ (P ++ x :: (L ++ Q)) (P.length : Int)))
    (z0b φ (P ++ x :: (L ++ Q)) (P.length : Int)) (fun h => lt (gt (P ++ x :: (L ++ Q)) (h : Int)) x) (P.length + 1 + L.length) (P.length + 1)
    (by
      intro n s r h0 hlt hR
      have hm : (W ((U (W ((s : Int) + r))).fdiv 2)) = (((s + r) / 2 : Nat) : Int) := by rw [zc0 (by omega) (by omega)]; omega
      have hm1 : W ((((s + r) / 2 : Nat) : Int) + 1) = (((s + r) / 2 + 1 : Nat) : Int) := by rw [W_id (by omega) (by omega)]; simp
      obtain ⟨w, hw1, hw2⟩ := hy (gt (P ++ x :: (L ++ Q)) (((s + r) / 2 : Nat) : Int)) x (by
        rw [gL _ (by omega) (by omega)]; exact hD _ (z8e (by omega) (by omega))) hx
      rw [z04, if_pos (by simp; omega), hm, hm1, hlen, gx, zm ⟨by omega, by omega⟩, zm ⟨by omega, by omega⟩, hw1]
      simp only [Option.bind_some, hw2])
    (by
      intro n s
      rw [z04, if_neg (by simp)]) φ (P.length + 1) (P.length + 1 + L.length) (Nat.le_refl _) (by omega) (Nat.le_refl _) (by omega)
  obtain ⟨C, E, rfl, hC⟩ : ∃ C E, L = C ++ E ∧ C.length = c - (P.length + 1) := ⟨L.take (c - (P.length + 1)), L.drop (c - (P.length + 1)), (List.take_append_drop _ _).symm, by simp; omega⟩
  simp only [List.length_append] at hl hφ h2 gL
  have hCx : ∀ z ∈ C, lt z x = true := by
    intro z hz
    rcases z4l C with rfl | ⟨S, w, rfl⟩
    · cases hz
    · simp only [List.length_append, List.length_cons, List.length_nil] at hC hz hS gL h2
      have hp : lt w x = true := by
        rcases h3 with h3 | h3
        · omega
        · rw [gL _ (by omega) (by omega)] at h3
          have e : S ++ [w] ++ E = S ++ w :: E := by simp
          rw [e, z5b (by omega)] at h3
          exact h3
      rcases List.mem_append.1 hz with h | h
      · exact z80 hs (hS.parts.1.parts.2.2 z h w (by simp)) hp (hs.irr x)
      · simp at h; rw [h]; exact hp
  have hEx : ∀ z ∈ E, lt z x = false := by
    intro z hz
    cases E with
    | nil => cases hz
    | cons w E =>
      simp only [List.length_cons] at h2 gL h4
      have hp : lt w x = false := by
        rcases h4 with h4 | h4
        · simp at h4; omega
        · rw [gL _ (by omega) (by omega), z5b (by omega)] at h4
          exact h4
      rcases List.mem_cons.1 hz with h | h
      · rw [h]; exact hp
      · exact hs.ntr _ _ _ ((List.pairwise_cons.1 hS.parts.2.1).1 z h) hp
  have hm := z78 hs (A := []) (B := [x]) (C := C) (E := E) (R1 := C) (R2 := x :: E) (List.pairwise_singleton _ _) hS (by simpa using hCx) (by simp) hS.parts.1 (by simpa using Stb.refl C) (List.pairwise_cons.2 ⟨hEx, hS.parts.2.1⟩) (by simpa using Stb.refl (x :: E))
  refine ⟨C ++ x :: E, hm.1, by simpa using hm.2, ?_⟩
  have e5 : ((P.length : Int) + 1 + ((C ++ E).length : Nat)) = ((P.length + 1 + (C ++ E).length : Nat) : Int) := by simp
  have e6 : ((P.length : Int) + 1) = ((P.length + 1 : Nat) : Int) := by simp
  rw [e5, e6, h5]
  unfold z0b
  have e7 : (c : Int) = (P.length : Int) + C.length + 1 := by omega
  have e8 : P ++ x :: (C ++ E ++ Q) = P ++ x :: (C ++ (E ++ Q)) := by simp
  rw [e7, e8, zig φ _ x φ P C (E ++ Q) (by simp; omega) (by omega)]
  simp [z23]
/-- A sorted list before one element. -/
theorem zg4 (hs : Swo lt) (hy : Cmp D y lt) (φ : Nat) (P L Q : List Int) (x : Int) (hx : D x) (hD : ∀ z ∈ L, D z) (hS : Srt lt L) (hl : P.length + L.length + Q.length ≤ 999998) (hφ : P.length + L.length + 2 < φ) :
    ∃ R, Srt lt R ∧ Stb lt (L ++ [x]) R ∧ z03 φ (P ++ L ++ x :: Q) ((P.length : Int) + L.length) y (z05 φ (P ++ L ++ x :: Q) ((P.length : Int) + L.length)) φ (P.length : Int) ((P.length : Int) + L.length) = some (P ++ R ++ Q) := by
  have gx : gt (P ++ L ++ x :: Q) ((P.length : Int) + L.length) = x := z5b (by simp)
  have hlen : ((P ++ L ++ x :: Q).length : Int) = P.length + L.length + Q.length + 1 := by simp; omega
  have gL : ∀ i : Nat, P.length ≤ i → i < P.length + L.length → gt (P ++ L ++ x :: Q) (i : Int) = gt L ((i - P.length : Nat) : Int) := by
    intro i h1 h2
    rw [List.append_assoc, z4w _ _ _ (by omega), z5y _ _ _ (by omega) (by omega)]
    congr 1; omega
  obtain ⟨c, h1, h2, h3, h4, h5⟩ := zas (z03 φ (P ++ L ++ x :: Q) ((P.length : Int) + L.length) y (z05 φ (P ++ L ++ x :: Q) ((P.length : Int) + L.length)))
    (z05 φ (P ++ L ++ x :: Q) ((P.length : Int) + L.length)) (fun h => !lt x (gt (P ++ L ++ x :: Q) (h : Int))) (P.length + L.length) P.length
    (by
      intro n s r h0 hlt hR
      have hm : (W ((U (W ((s : Int) + r))).fdiv 2)) = (((s + r) / 2 : Nat) : Int) := by rw [zc0 (by omega) (by omega)]; omega
      have hm1 : W ((((s + r) / 2 : Nat) : Int) + 1) = (((s + r) / 2 + 1 : Nat) : Int) := by rw [W_id (by omega) (by omega)]; simp
      obtain ⟨w, hw1, hw2⟩ := hy x (gt (P ++ L ++ x :: Q) (((s + r) / 2 : Nat) : Int)) hx (by
        rw [gL _ (by omega) (by omega)]; exact hD _ (z8e (by omega) (by omega)))
      rw [z03, if_pos (by simp; omega), hm, hm1, hlen, gx, zm ⟨by omega, by omega⟩, zm ⟨by omega, by omega⟩, hw1]
      simp only [Option.bind_some, hw2])
    (by
      intro n s
      rw [z03, if_neg (by simp)]) φ P.length (P.length + L.length) (Nat.le_refl _) (by omega) (Nat.le_refl _) (by omega)
  obtain ⟨A, B, rfl, hC⟩ : ∃ A B, L = A ++ B ∧ A.length = c - P.length := ⟨L.take (c - P.length), L.drop (c - P.length), (List.take_append_drop _ _).symm, by simp; omega⟩
  simp only [List.length_append] at hl hφ h2 gL
  have hA : ∀ z ∈ A, lt x z = false := by
    intro z hz
    rcases z4l A with rfl | ⟨S, w, rfl⟩
    · cases hz
    · simp only [List.length_append, List.length_cons, List.length_nil] at hC hz hS gL h2
      have hp : lt x w = false := by
        rcases h3 with h3 | h3
        · omega
        · rw [gL _ (by omega) (by omega)] at h3
          have e : S ++ [w] ++ B = S ++ w :: B := by simp
          rw [e, z5b (by omega)] at h3
          simpa using h3
      rcases List.mem_append.1 hz with h | h
      · exact hs.ntr _ _ _ hp (hS.parts.1.parts.2.2 z h w (by simp))
      · simp at h; rw [h]; exact hp
  have hB : ∀ z ∈ B, lt x z = true := by
    intro z hz
    cases B with
    | nil => cases hz
    | cons w B =>
      simp only [List.length_cons] at h2 gL h4
      have hp : lt x w = true := by
        rcases h4 with h4 | h4
        · simp at h4; omega
        · rw [gL _ (by omega) (by omega), z5b (by omega)] at h4
          simpa using h4
      rcases List.mem_cons.1 hz with h | h
      · rw [h]; exact hp
      · exact z80 hs (hs.irr x) hp ((List.pairwise_cons.1 hS.parts.2.1).1 z h)
  have hm := z78 hs (A := A) (B := B) (C := [x]) (E := []) (R1 := A ++ [x]) (R2 := B) hS (by rw [List.append_nil]; exact List.pairwise_singleton _ x) (by simpa using hB) (by simp)
    (hS.parts.1.app (List.pairwise_singleton _ _) (by simpa using hA)) (Stb.refl _) hS.parts.2.1 (by simpa using Stb.refl B)
  refine ⟨A ++ [x] ++ B, hm.1, by simpa using hm.2, ?_⟩
  have e5 : ((P.length : Int) + ((A ++ B).length : Nat)) = ((P.length + (A ++ B).length : Nat) : Int) := by simp
  rw [e5] at h5 ⊢
  rw [h5]
  unfold z05
  have e7 : (c : Int) = (((P ++ A).length : Nat) : Int) := by simp; omega
  have e8 : P ++ (A ++ B) ++ x :: Q = (P ++ A) ++ B ++ x :: Q := by simp
  have e9 : ((P.length + (A ++ B).length : Nat) : Int) = (((P ++ A).length : Nat) : Int) + B.length := by simp; omega
  rw [e7, e8, e9, zgc φ _ x (P ++ A) φ B Q (by simp; omega) (by omega)]
  simp [z1x]
end
end Px
end
section
namespace Px
open Go
set_option linter.unusedVariables false
set_option linter.unusedSimpArgs false
set_option maxHeartbeats 4000000
section
variable {D : Int → Prop} {lt : Int → Int → Bool} {y : Int → Int → Option Int}
/-- Where the two lists are split. -/
theorem zjw (hs : Swo lt) (hy : Cmp D y lt) (φ : Nat) (P L1 L2 Q : List Int) (k : Int → Option (List Int)) (hD1 : ∀ z ∈ L1, D z) (hD2 : ∀ z ∈ L2, D z) (hS1 : Srt lt L1) (hS2 : Srt lt L2)
    (a m b mid s0 r0 : Nat) (ha : a = P.length) (hm : m = a + L1.length) (hb : b = m + L2.length) (hmid : mid = (a + b) / 2) (hl : b + Q.length ≤ 999998) (hφ : b < φ)
    (h1 : 1 ≤ L1.length) (h2 : 1 ≤ L2.length) (hs0 : (mid < m ∧ s0 = mid + m - b ∧ r0 = mid) ∨ (m ≤ mid ∧ s0 = a ∧ r0 = m)) :
    ∃ A B C E, L1 = A ++ B ∧ L2 = C ++ E ∧ mid + m - (a + A.length) = m + C.length ∧ (∀ x ∈ B, ∀ y ∈ C, lt y x = true) ∧ (∀ x ∈ A, ∀ y ∈ E, lt y x = false) ∧
      z09 φ (P ++ L1 ++ L2 ++ Q) (a : Int) (m : Int) (b : Int) y k φ (s0 : Int) (r0 : Int) = k ((a + A.length : Nat) : Int) := by
  have g1 : ∀ i : Nat, a ≤ i → i < m → gt (P ++ L1 ++ L2 ++ Q) (i : Int) = gt L1 ((i - a : Nat) : Int) := by
    intro i q1 q2
    have e : P ++ L1 ++ L2 ++ Q = P ++ (L1 ++ (L2 ++ Q)) := by simp
    rw [e, z4w _ _ _ (by omega), z5y _ _ _ (by omega) (by omega)]
    congr 1; omega
  have g2 : ∀ i : Nat, m ≤ i → i < b → gt (P ++ L1 ++ L2 ++ Q) (i : Int) = gt L2 ((i - m : Nat) : Int) := by
    intro i q1 q2
    have e : P ++ L1 ++ L2 ++ Q = (P ++ L1) ++ (L2 ++ Q) := by simp
    rw [e, z4w _ _ _ (by simp; omega), z5y _ _ _ (by simp; omega) (by simp; omega)]
    congr 1; simp; omega
  have hlen : ((P ++ L1 ++ L2 ++ Q).length : Int) = b + Q.length := by simp; omega
  have hW : W ((U (W ((a : Int) + b))).fdiv 2) = (mid : Int) := by rw [zc0 (by omega) (by omega)]; omega
  have hn : W ((mid : Int) + m) = ((mid + m : Nat) : Int) := by rw [W_id (by omega) (by omega)]; simp
  have hp : W (((mid + m : Nat) : Int) - 1) = ((mid + m - 1 : Nat) : Int) := by rw [W_id (by omega) (by omega)]; omega
  have hmb : mid ≤ b := by omega
  have ham : a ≤ mid := by omega
  obtain ⟨c, h3, h4, h5, h6, h7⟩ := zas (z09 φ (P ++ L1 ++ L2 ++ Q) (a : Int) (m : Int) (b : Int) y k) k
    (fun c => !lt (gt (P ++ L1 ++ L2 ++ Q) ((mid + m - 1 - c : Nat) : Int)) (gt (P ++ L1 ++ L2 ++ Q) (c : Int))) r0 s0
    (by
      intro n s r q0 hlt hR
      have hm' : (W ((U (W ((s : Int) + r))).fdiv 2)) = (((s + r) / 2 : Nat) : Int) := by rw [zc0 (by omega) (by omega)]; omega
      have hm1 : W ((((s + r) / 2 : Nat) : Int) + 1) = (((s + r) / 2 + 1 : Nat) : Int) := by rw [W_id (by omega) (by omega)]; simp
      have hpc : W (((mid + m - 1 : Nat) : Int) - (((s + r) / 2 : Nat) : Int)) = ((mid + m - 1 - (s + r) / 2 : Nat) : Int) := by rw [W_id (by omega) (by omega)]; omega
      obtain ⟨w, hw1, hw2⟩ := hy (gt (P ++ L1 ++ L2 ++ Q) ((mid + m - 1 - (s + r) / 2 : Nat) : Int)) (gt (P ++ L1 ++ L2 ++ Q) (((s + r) / 2 : Nat) : Int))
        (by rw [g2 _ (by omega) (by omega)]; exact hD2 _ (z8e (by omega) (by omega))) (by rw [g1 _ (by omega) (by omega)]; exact hD1 _ (z8e (by omega) (by omega)))
      rw [z09, if_pos (by simp; omega), hm', hm1, hW, hn, hp, hpc, hlen, zm ⟨by omega, by omega⟩, zm ⟨by omega, by omega⟩, hw1]
      simp only [Option.bind_some, hw2])
    (by
      intro n s
      rw [z09, if_neg (by simp)]) φ s0 r0 (Nat.le_refl _) (by omega) (Nat.le_refl _) (by omega)
  obtain ⟨A, B, rfl, hA⟩ : ∃ A B, L1 = A ++ B ∧ A.length = c - a := ⟨L1.take (c - a), L1.drop (c - a), (List.take_append_drop _ _).symm, by simp; omega⟩
  obtain ⟨C, E, rfl, hC⟩ : ∃ C E, L2 = C ++ E ∧ C.length = mid - c := ⟨L2.take (mid - c), L2.drop (mid - c), (List.take_append_drop _ _).symm, by simp; omega⟩
  simp only [List.length_append] at hm hb g1 g2
  refine ⟨A, B, C, E, rfl, rfl, by omega, ?_, ?_, ?_⟩
  · intro x hx z hz
    rcases z4l C with rfl | ⟨S, w, rfl⟩
    · cases hz
    · cases B with
      | nil => cases hx
      | cons x0 B =>
        simp only [List.length_append, List.length_cons, List.length_nil] at hC hm hb g1 g2 hA
        have hp : lt w x0 = true := by
          rcases h6 with h6 | h6
          · omega
          · rw [g1 c (by omega) (by omega), g2 (mid + m - 1 - c) (by omega) (by omega)] at h6
            have e : S ++ [w] ++ E = S ++ w :: E := by simp
            rw [e, z5b (by omega), z5b (by omega)] at h6
            simpa using h6
        have hz1 : lt w z = false := by
          rcases List.mem_append.1 hz with h | h
          · exact hS2.parts.1.parts.2.2 z h w (by simp)
          · simp at h; rw [h]; exact hs.irr _
        have hx1 : lt x x0 = false := by
          rcases List.mem_cons.1 hx with h | h
          · rw [h]; exact hs.irr _
          · exact (List.pairwise_cons.1 hS1.parts.2.1).1 x h
        exact z80 hs hz1 hp hx1
  · intro x hx z hz
    rcases z4l A with rfl | ⟨S, w, rfl⟩
    · cases hx
    · cases E with
      | nil => cases hz
      | cons e0 E =>
        simp only [List.length_append, List.length_cons, List.length_nil] at hC hm hb g1 g2 hA
        have hp : lt e0 w = false := by
          rcases h5 with h5 | h5
          · omega
          · have e1 : mid + m - 1 - (c - 1) = mid + m - c := by omega
            rw [e1, g1 (c - 1) (by omega) (by omega), g2 (mid + m - c) (by omega) (by omega)] at h5
            have e : S ++ [w] ++ B = S ++ w :: B := by simp
            rw [e, z5b (by omega), z5b (by omega)] at h5
            simpa using h5
        have hz1 : lt z e0 = false := by
          rcases List.mem_cons.1 hz with h | h
          · rw [h]; exact hs.irr _
          · exact (List.pairwise_cons.1 hS2.parts.2.1).1 z h
        have hx1 : lt w x = false := by
          rcases List.mem_append.1 hx with h | h
          · exact hS1.parts.1.parts.2.2 x h w (by simp)
          · simp at h; rw [h]; exact hs.irr _
        exact zcd hs hz1 hp hx1
  · rw [h7]
    congr 1
    omega
/-- Merging two sorted lists in place. -/
theorem zdc (hs : Swo lt) (hy : Cmp D y lt) : ∀ (φ : Nat) (P L1 L2 Q : List Int), (∀ z ∈ L1, D z) → (∀ z ∈ L2, D z) → Srt lt L1 → Srt lt L2 → L1 ≠ [] → L2 ≠ [] →
    P.length + L1.length + L2.length + Q.length ≤ 999998 → P.length + L1.length + L2.length + (L1.length + L2.length) + 3 < φ →
    ∃ R, Srt lt R ∧ Stb lt (L1 ++ L2) R ∧ z8 φ (P ++ L1 ++ L2 ++ Q) (P.length : Int) ((P.length : Int) + L1.length) ((P.length : Int) + L1.length + L2.length) y = some (P ++ R ++ Q) := by
  intro φ
  induction φ with
  | zero => intro P L1 L2 Q _ _ _ _ _ _ _ h; omega
  | succ φ ih =>
    intro P L1 L2 Q hD1 hD2 hS1 hS2 hn1 hn2 hl hφ
    have hp1 := List.length_pos_iff.2 hn1
    have hp2 := List.length_pos_iff.2 hn2
    rw [z8]
    have w1 : W ((P.length : Int) + L1.length - P.length) = (L1.length : Int) := by rw [W_id (by omega) (by omega)]; omega
    have w2 : W ((P.length : Int) + L1.length + L2.length - ((P.length : Int) + L1.length)) = (L2.length : Int) := by rw [W_id (by omega) (by omega)]; omega
    rw [w1, w2]
    by_cases q1 : L1.length = 1
    · rw [if_pos (by simp [q1])]
      match L1, q1 with
      | [x], _ =>
        obtain ⟨R, r1, r2, r3⟩ := zfi hs hy φ P L2 Q x (hD1 x (by simp)) hD2 hS2 (by simp at hl; omega) (by simp at hφ; omega)
        refine ⟨R, r1, r2, ?_⟩
        rw [← r3]
        simp
    · rw [if_neg (by simp; omega)]
      by_cases q2 : L2.length = 1
      · rw [if_pos (by simp [q2])]
        match L2, q2 with
        | [x], _ =>
          obtain ⟨R, r1, r2, r3⟩ := zg4 hs hy φ P L1 Q x (hD2 x (by simp)) hD1 hS1 (by simp at hl; omega) (by simp at hφ; omega)
          refine ⟨R, r1, r2, ?_⟩
          rw [← r3]
          simp
      · rw [if_neg (by simp; omega)]
        obtain ⟨a, ha⟩ : ∃ a, a = P.length := ⟨_, rfl⟩
        obtain ⟨m, hm⟩ : ∃ m, m = a + L1.length := ⟨_, rfl⟩
        obtain ⟨b, hb⟩ : ∃ b, b = m + L2.length := ⟨_, rfl⟩
        obtain ⟨mid, hmid⟩ : ∃ mid, mid = (a + b) / 2 := ⟨_, rfl⟩
        have ea : (P.length : Int) = (a : Int) := by omega
        have em : (P.length : Int) + L1.length = (m : Int) := by omega
        have eb : (P.length : Int) + L1.length + L2.length = (b : Int) := by omega
        rw [eb, em, ea]
        have hW : W ((U (W ((a : Int) + b))).fdiv 2) = (mid : Int) := by rw [zc0 (by omega) (by omega)]; omega
        have hn : W ((mid : Int) + m) = ((mid + m : Nat) : Int) := by rw [W_id (by omega) (by omega)]; simp
        rw [hW, hn]
        have key : ∃ s0 r0 : Nat, ((mid < m ∧ s0 = mid + m - b ∧ r0 = mid) ∨ (m ≤ mid ∧ s0 = a ∧ r0 = m)) ∧
            (if decide ((mid : Int) < m) = true then z0n φ (P ++ L1 ++ L2 ++ Q) (a : Int) (m : Int) (b : Int) y (z8 φ) (W (((mid + m : Nat) : Int) - b)) (mid : Int)
              else z0n φ (P ++ L1 ++ L2 ++ Q) (a : Int) (m : Int) (b : Int) y (z8 φ) (a : Int) (m : Int)) =
            z0n φ (P ++ L1 ++ L2 ++ Q) (a : Int) (m : Int) (b : Int) y (z8 φ) (s0 : Int) (r0 : Int) := by
          by_cases q : mid < m
          · refine ⟨mid + m - b, mid, .inl ⟨q, rfl, rfl⟩, ?_⟩
            have : W (((mid + m : Nat) : Int) - b) = ((mid + m - b : Nat) : Int) := by rw [W_id (by omega) (by omega)]; omega
            rw [if_pos (by simp; omega), this]
          · refine ⟨a, m, .inr ⟨by omega, rfl, rfl⟩, ?_⟩
            rw [if_neg (by simp; omega)]
        obtain ⟨s0, r0, hk, e⟩ := key
        rw [e]
        unfold z0n
        obtain ⟨A, B, C, E, rfl, rfl, hc, hA, hB, hL⟩ := zjw hs hy φ P L1 L2 Q (z0o φ (P ++ L1 ++ L2 ++ Q) (a : Int) (m : Int) (b : Int) y (z8 φ)) hD1 hD2 hS1 hS2 a m b mid s0 r0 ha hm hb hmid (by omega) (by omega) (by omega) (by omega) hk
        rw [hL]
        simp only [List.length_append] at hm hb hl hφ hp1 hp2 q1 q2
        have hcm : mid = a + A.length + C.length := by omega
        have hend : W (((mid + m : Nat) : Int) - ((a + A.length : Nat) : Int)) = ((m + C.length : Nat) : Int) := by rw [W_id (by omega) (by omega)]; omega
        have step1 : z0o φ (P ++ (A ++ B) ++ (C ++ E) ++ Q) (a : Int) (m : Int) (b : Int) y (z8 φ) ((a + A.length : Nat) : Int) =
            z18 φ (a : Int) (m : Int) (b : Int) y (z8 φ) ((a + A.length : Nat) : Int) (P ++ A ++ C ++ B ++ E ++ Q) := by
          unfold z0o
          rw [hW, hn, hend]
          by_cases hBC : B = [] ∨ C = []
          · rw [if_neg (by
              rcases hBC with rfl | rfl
              · simp at hm ⊢; omega
              · simp)]
            rcases hBC with rfl | rfl <;> simp
          · obtain ⟨hB0, hC0⟩ := not_or.1 hBC
            have b0 := List.length_pos_iff.2 hB0
            have c0 := List.length_pos_iff.2 hC0
            rw [if_pos (by simp; omega)]
            have := zja φ (P ++ A) B C (E ++ Q) y hB0 hC0 (by simp; omega) (by omega)
            have e1 : P ++ (A ++ B) ++ (C ++ E) ++ Q = P ++ A ++ B ++ C ++ (E ++ Q) := by simp
            have e2 : ((a + A.length : Nat) : Int) = ((P ++ A).length : Nat) := by simp; omega
            have e3 : (m : Int) = ((P ++ A).length : Nat) + (B.length : Int) := by simp; omega
            have e4 : ((m + C.length : Nat) : Int) = ((P ++ A).length : Nat) + (B.length : Int) + C.length := by simp; omega
            rw [e1]
            conv => lhs; rw [e4, e2]; arg 1; rw [e3]
            rw [this]
            simp [ha]
        rw [step1]
        have step2 : ∃ R1, Srt lt R1 ∧ Stb lt (A ++ C) R1 ∧ z18 φ (a : Int) (m : Int) (b : Int) y (z8 φ) ((a + A.length : Nat) : Int) (P ++ A ++ C ++ B ++ E ++ Q) =
            z16 φ (a : Int) (m : Int) (b : Int) y (z8 φ) ((a + A.length : Nat) : Int) (P ++ R1 ++ B ++ E ++ Q) := by
          unfold z18
          rw [hW]
          by_cases hAC : A = [] ∨ C = []
          · refine ⟨A ++ C, ?_, Stb.refl _, ?_⟩
            · rcases hAC with rfl | rfl
              · simpa using hS2.parts.1
              · simpa using hS1.parts.1
            · rw [if_neg (by
                rcases hAC with rfl | rfl
                · simp
                · simp at hcm ⊢; omega)]
              simp
          · obtain ⟨hA0, hC0⟩ := not_or.1 hAC
            have a0 := List.length_pos_iff.2 hA0
            have c0 := List.length_pos_iff.2 hC0
            obtain ⟨R1, r1, r2, r3⟩ := ih P A C (B ++ E ++ Q) (fun z hz => hD1 z (by simp [hz])) (fun z hz => hD2 z (by simp [hz])) hS1.parts.1 hS2.parts.1 hA0 hC0 (by simp; omega) (by omega)
            refine ⟨R1, r1, r2, ?_⟩
            rw [if_pos (by simp; omega)]
            have e1 : P ++ A ++ C ++ B ++ E ++ Q = P ++ A ++ C ++ (B ++ E ++ Q) := by simp
            have e2 : ((a + A.length : Nat) : Int) = (P.length : Int) + A.length := by simp; omega
            have e3 : (mid : Int) = (P.length : Int) + A.length + C.length := by omega
            rw [e1]
            conv => lhs; arg 1; rw [e3, e2, ← ea]
            rw [r3]
            simp
        obtain ⟨R1, r1, r2, e2⟩ := step2
        rw [e2]
        have hR1 : R1.length = A.length + C.length := by rw [r2.len]; simp
        have step3 : ∃ R2, Srt lt R2 ∧ Stb lt (B ++ E) R2 ∧ z16 φ (a : Int) (m : Int) (b : Int) y (z8 φ) ((a + A.length : Nat) : Int) (P ++ R1 ++ B ++ E ++ Q) = some (P ++ (R1 ++ R2) ++ Q) := by
          unfold z16
          rw [hW, hn, hend]
          by_cases hBE : B = [] ∨ E = []
          · refine ⟨B ++ E, ?_, Stb.refl _, ?_⟩
            · rcases hBE with rfl | rfl
              · simpa using hS2.parts.2.1
              · simpa using hS1.parts.2.1
            · rw [if_neg (by
                rcases hBE with rfl | rfl
                · simp at hm ⊢; omega
                · simp at hb ⊢; omega)]
              simp
          · obtain ⟨hB0, hE0⟩ := not_or.1 hBE
            have b0 := List.length_pos_iff.2 hB0
            have c0 := List.length_pos_iff.2 hE0
            obtain ⟨R2, p1, p2, p3⟩ := ih (P ++ R1) B E Q (fun z hz => hD1 z (by simp [hz])) (fun z hz => hD2 z (by simp [hz])) hS1.parts.2.1 hS2.parts.2.1 hB0 hE0 (by simp; omega) (by simp; omega)
            refine ⟨R2, p1, p2, ?_⟩
            rw [if_pos (by simp; omega)]
            have e1 : (mid : Int) = ((P ++ R1).length : Nat) := by simp; omega
            have e3 : ((m + C.length : Nat) : Int) = ((P ++ R1).length : Nat) + (B.length : Int) := by simp; omega
            have e4 : (b : Int) = ((P ++ R1).length : Nat) + (B.length : Int) + E.length := by simp; omega
            conv => lhs; arg 1; rw [e4, e3, e1]
            rw [p3]
            simp
        obtain ⟨R2, p1, p2, e3⟩ := step3
        rw [e3]
        have hm' := z78 hs hS1 hS2 hA hB r1 r2 p1 p2
        exact ⟨R1 ++ R2, hm'.1, hm'.2, rfl⟩
end
end Px
end
section
namespace Px
open Go
set_option linter.unusedVariables false
set_option linter.unusedSimpArgs false
set_option maxHeartbeats 1000000
section
variable {D : Int → Prop} {lt : Int → Int → Bool} {y : Int → Int → Option Int}
theorem zk3 (hy : Cmp D y lt) (φ : Nat) (k : List Int → Option (List Int)) (P : List Int) (x : Int) (hx : D x) : ∀ (n : Nat) (S1 S2 : List Int), (∀ z ∈ S1, D z) → P.length + S1.length + S2.length ≤ 1000000 → S1.length < n →
    ∃ A B, S1 = A ++ B ∧ (∀ z ∈ B, lt x z = true) ∧ (A = [] ∨ ∃ A' z, A = A' ++ [z] ∧ lt x z = false) ∧
      z0g φ (P.length : Int) y k n ((P.length : Int) + S1.length) (P ++ S1 ++ x :: S2) = k (P ++ A ++ x :: (B ++ S2)) := by
  intro n
  induction n with
  | zero => intro S1 S2 _ _ h; omega
  | succ n ih =>
    intro S1 S2 hD hl hn
    rcases List.eq_nil_or_concat S1 with rfl | ⟨S, z, rfl⟩
    · refine ⟨[], [], rfl, by simp, .inl rfl, ?_⟩
      have h0 : decide ((P.length : Int) < (P.length : Int) + (([] : List Int).length : Int)) = false := by simp
      rw [z0g, h0]
      simp [ck, z57]
    · simp only [List.concat_eq_append] at hD hl hn ⊢
      simp only [List.length_append, List.length_cons, List.length_nil] at hl hn
      have e1 : P ++ (S ++ [z]) ++ x :: S2 = (P ++ S ++ [z]) ++ x :: S2 := by simp
      have e2 : P ++ (S ++ [z]) ++ x :: S2 = (P ++ S) ++ z :: (x :: S2) := by simp
      have g1 : gt (P ++ (S ++ [z]) ++ x :: S2) ((P.length : Int) + ((S ++ [z]).length : Int)) = x := by
        rw [e1]; exact z5b (by simp <;> omega)
      have hw : W ((P.length : Int) + ((S ++ [z]).length : Int) - 1) = (P.length : Int) + S.length := by
        rw [W_id (by simp; omega) (by simp; omega)]; simp; omega
      have g2 : gt (P ++ (S ++ [z]) ++ x :: S2) ((P.length : Int) + (S.length : Int)) = z := by
        rw [e2]; exact z5b (by simp)
      have h0 : decide ((P.length : Int) < (P.length : Int) + ((S ++ [z]).length : Int)) = true := by simp; omega
      have hlen : ((P ++ (S ++ [z]) ++ x :: S2).length : Int) = P.length + S.length + 1 + 1 + S2.length := by simp; omega
      obtain ⟨w, hw1, hw2⟩ := hy x z hx (hD z (by simp))
      have s1 : z1t (P ++ (S ++ [z]) ++ x :: S2) ((P.length : Int) + ((S ++ [z]).length : Int)) z = (P ++ S) ++ z :: (z :: S2) := by
        rw [e1, z7e (by simp <;> omega)]; simp
      have s2 : z1t ((P ++ S) ++ z :: (z :: S2)) ((P.length : Int) + (S.length : Int)) x = P ++ S ++ x :: (z :: S2) := z7e (by simp)
      rw [z0g, hw, h0, g1, g2, hw1, hlen]
      rw [zm (fun _ => ⟨by omega, by simp; omega⟩), zm (fun _ => ⟨by omega, by omega⟩), zdi rfl]
      simp only [Option.bind_some, hw2, Bool.true_and]
      cases hlt : lt x z with
      | true =>
        rw [if_pos rfl, zm ⟨by omega, by omega⟩, zm ⟨by omega, by simp; omega⟩, s1]
        rw [zm ⟨by omega, by simp; omega⟩, s2]
        obtain ⟨A, B, q1, q2, q3, q4⟩ := ih S (z :: S2) (fun u hu => hD u (by simp [hu])) (by simp; omega) (by omega)
        refine ⟨A, B ++ [z], by rw [q1]; simp, ?_, q3, ?_⟩
        · intro u hu
          rcases List.mem_append.1 hu with h | h
          · exact q2 u h
          · simp at h; rw [h]; exact hlt
        · rw [q4]; simp
      | false =>
        rw [if_neg (by simp)]
        exact ⟨S ++ [z], [], by simp, by simp, .inr ⟨S, z, rfl, hlt⟩, by simp⟩
theorem zi1 (hs : Swo lt) (hy : Cmp D y lt) (φ : Nat) (P Q : List Int) : ∀ (n : Nat) (S R : List Int), S ≠ [] → Srt lt S → (∀ z ∈ S, D z) → (∀ z ∈ R, D z) → P.length + S.length + R.length + Q.length ≤ 1000000 → P.length + S.length + R.length < φ → R.length < n →
    ∃ S', Srt lt S' ∧ Stb lt (S ++ R) S' ∧ zh φ (P.length : Int) ((P.length : Int) + S.length + R.length) y n ((P.length : Int) + S.length) (P ++ S ++ R ++ Q) = some (P ++ S' ++ Q) := by
  intro n
  induction n with
  | zero => intro S R _ _ _ _ _ _ h; omega
  | succ n ih =>
    intro S R hne hS hD hD' hl hφ hn
    cases R with
    | nil =>
      refine ⟨S, hS, by simpa using Stb.refl S, ?_⟩
      rw [zh, if_neg (by simp)]
      simp
    | cons x R =>
      simp only [List.length_cons] at hl hφ hn
      rw [zh, if_pos (by simp; omega)]
      obtain ⟨A, B, q1, q2, q3, q4⟩ := zk3 hy φ (z0h φ ((P.length : Int) + S.length) (zh φ (P.length : Int) ((P.length : Int) + S.length + (x :: R).length) y n)) P x (hD' x (by simp)) φ S (R ++ Q) hD (by simp; omega) (by omega)
      rw [show P ++ S ++ x :: R ++ Q = P ++ S ++ x :: (R ++ Q) by simp, q4]
      have hA : ∀ u ∈ A, lt x u = false := by
        rcases q3 with rfl | ⟨A', z, rfl, hz⟩
        · simp
        · intro u hu
          rcases List.mem_append.1 hu with h | h
          · subst q1
            have := (hS.parts.1).parts.2.2 u h z (by simp)
            exact hs.ntr _ _ _ hz this
          · simp at h; rw [h]; exact hz
      have hS2 : Srt lt (A ++ x :: B) := by
        subst q1
        refine hS.parts.1.app (List.pairwise_cons.2 ⟨fun u hu => hs.asym _ _ (q2 u hu), hS.parts.2.1⟩) fun u hu v hv => ?_
        rcases List.mem_cons.1 hv with h | h
        · subst h; exact hA u hu
        · exact hS.parts.2.2 u hu v h
      obtain ⟨S', p1, p2, p3⟩ := ih (A ++ x :: B) R (by simp) hS2 (fun z hz => by
        subst q1
        simp only [List.mem_append, List.mem_cons] at hz
        rcases hz with h | h | h
        · exact hD z (by simp [h])
        · subst h; exact hD' _ (by simp)
        · exact hD z (by simp [h])) (fun z hz => hD' z (by simp [hz])) (by subst q1; simp at hl ⊢; omega) (by subst q1; simp at hφ ⊢; omega) (by omega)
      refine ⟨S', p1, ?_, ?_⟩
      · have h1 : Stb lt (S ++ [x]) (A ++ [x] ++ B) := by subst q1; exact zbe hs q2
        have := h1.app (Stb.refl R)
        refine Stb.trans ?_ (Stb.trans this ?_)
        · simpa using Stb.refl (lt := lt) (S ++ x :: R)
        · simpa using p2
      · rw [← p3]
        unfold z0h
        have e1 : W ((P.length : Int) + S.length + 1) = (P.length : Int) + S.length + 1 := W_id (by omega) (by omega)
        have hSl : S.length = A.length + B.length := by rw [q1]; simp
        have e2 : (P.length : Int) + S.length + 1 = P.length + (A ++ x :: B).length := by simp; omega
        have e3 : (P.length : Int) + S.length + (x :: R).length = P.length + (A ++ x :: B).length + R.length := by simp; omega
        have e4 : P ++ A ++ x :: (B ++ (R ++ Q)) = P ++ (A ++ x :: B) ++ R ++ Q := by simp
        rw [e1, e2, e3, e4]
theorem za0 (hs : Swo lt) (hy : Cmp D y lt) (φ : Nat) (P X Q : List Int) (hD : ∀ z ∈ X, D z) (hl : P.length + X.length + Q.length ≤ 1000000) (hφ : P.length + X.length < φ) :
    ∃ X', Srt lt X' ∧ Stb lt X X' ∧ z1p φ (P ++ X ++ Q) (P.length : Int) ((P.length : Int) + X.length) y = some (P ++ X' ++ Q) := by
  unfold z1p
  rw [W_id (x := (P.length : Int) + 1) (by omega) (by omega)]
  cases X with
  | nil =>
    refine ⟨[], List.Pairwise.nil, Stb.refl _, ?_⟩
    obtain ⟨n, rfl⟩ : ∃ n, φ = n + 1 := ⟨φ - 1, by omega⟩
    rw [zh, if_neg (by simp; omega)]
  | cons x R =>
    simp only [List.length_cons] at hl hφ
    obtain ⟨S', p1, p2, p3⟩ := zi1 hs hy φ P Q φ [x] R (by simp) (List.pairwise_singleton _ _) (fun z hz => hD z (by simp at hz; simp [hz])) (fun z hz => hD z (by simp [hz])) (by simp; omega) (by simp; omega) (by omega)
    refine ⟨S', p1, by simpa using p2, ?_⟩
    rw [← p3]
    simp only [List.append_assoc, List.cons_append, List.length_cons, List.length_nil, List.nil_append]
    congr 1
    simp; omega
end
end Px
end
section
namespace Px
open Go
set_option linter.unusedVariables false
set_option linter.unusedSimpArgs false
set_option maxHeartbeats 4000000
section
variable {D : Int → Prop} {lt : Int → Int → Bool} {y : Int → Int → Option Int}
theorem zg3 (hs : Swo lt) (hy : Cmp D y lt) (φ N : Nat) (k : Int → List Int → Option (List Int)) (hN : N ≤ 900000) (hφ : N < φ) :
    ∀ (n : Nat) (X Y : List Int), (∀ z ∈ Y, D z) → X.length + Y.length = N → Y.length < n →
    ∃ Y1 Y2 Y1', Y = Y1 ++ Y2 ∧ Runs lt 20 (Y1' ++ []) ∧ Y2.length < 20 ∧ Stb lt Y1 Y1' ∧ (∀ T, Runs lt 20 T → Runs lt 20 (Y1' ++ T)) ∧
      z1m φ (N : Int) y k n (X.length : Int) ((X.length : Int) + 20) (X ++ Y) = k ((X.length : Int) + Y1.length) (X ++ Y1' ++ Y2) := by
  intro n
  induction n with
  | zero => intro X Y _ _ h; omega
  | succ n ih =>
    intro X Y hD hl hn
    rw [z1m]
    by_cases h : Y.length < 20
    · refine ⟨[], Y, [], rfl, .last (by simp) List.Pairwise.nil, h, Stb.refl _, fun T hT => hT, ?_⟩
      rw [if_neg (by simp; omega)]
      simp
    · obtain ⟨B, Z, rfl, hB⟩ : ∃ B Z, Y = B ++ Z ∧ B.length = 20 := ⟨Y.take 20, Y.drop 20, (List.take_append_drop _ _).symm, by simp; omega⟩
      simp only [List.length_append] at hl hn h
      rw [if_pos (by simp; omega)]
      obtain ⟨B', b1, b2, b3⟩ := za0 hs hy φ X B Z (fun z hz => hD z (by simp [hz])) (by omega) (by omega)
      rw [hB] at b3
      have e1 : X ++ (B ++ Z) = X ++ B ++ Z := by simp
      have e2 : ((20 : Nat) : Int) = 20 := rfl
      rw [e2] at b3
      rw [e1, b3]
      simp only [Option.bind_some]
      have hB' : B'.length = 20 := by rw [b2.len, hB]
      have w1 : W ((X.length : Int) + 20 + 20) = (X.length : Int) + 20 + 20 := W_id (by omega) (by omega)
      have e3 : (X.length : Int) + 20 = ((X ++ B').length : Nat) := by simp [hB']
      rw [w1]
      obtain ⟨Y1, Y2, Y1', q1, q2, q3, q4, q5, q6⟩ := ih (X ++ B') Z (fun z hz => hD z (by simp [hz])) (by simp; omega) (by omega)
      rw [← e3] at q6
      refine ⟨B ++ Y1, Y2, B' ++ Y1', by rw [q1]; simp, ?_, q3, b2.app q4, fun T hT => ?_, ?_⟩
      · rw [List.append_assoc]; exact .cons hB' b1 q2
      · rw [List.append_assoc]; exact .cons hB' b1 (q5 T hT)
      · rw [q6]
        have e4 : (X.length : Int) + 20 + Y1.length = (X.length : Int) + ((B ++ Y1).length : Nat) := by simp; omega
        rw [e4]
        simp
theorem zmr (hs : Swo lt) (hy : Cmp D y lt) (φ N bs : Nat) (k : Int → List Int → Option (List Int)) (hN : N ≤ 900000) (hφ : 2 * N + 3 < φ) (hb0 : 0 < bs) (hb : bs ≤ 900000) :
    ∀ (n : Nat) (X Y : List Int), (∀ z ∈ Y, D z) → Runs lt bs Y → X.length + Y.length = N → Y.length < n →
    ∃ Y', Runs lt (bs * 2) Y' ∧ Stb lt Y Y' ∧ z2f φ (N : Int) y (bs : Int) (z1i φ (N : Int) y (bs : Int) k) n (X.length : Int) ((X.length : Int) + 2 * bs) (X ++ Y) = k ((bs * 2 : Nat) : Int) (X ++ Y') := by
  intro n
  induction n with
  | zero => intro X Y _ _ _ h; omega
  | succ n ih =>
    intro X Y hD hR hl hn
    have w1 : W ((X.length : Int) + bs) = (X.length : Int) + bs := W_id (by omega) (by omega)
    have w2 : W ((bs : Int) * 2) = ((bs * 2 : Nat) : Int) := by rw [W_id (by omega) (by omega)]; simp
    have w3 : W (2 * (bs : Int)) = 2 * (bs : Int) := W_id (by omega) (by omega)
    have w4 : W ((X.length : Int) + 2 * bs + 2 * bs) = (X.length : Int) + 2 * bs + 2 * bs := W_id (by omega) (by omega)
    rw [z2f, w1, w3, w4]
    by_cases h : 2 * bs ≤ Y.length
    · rw [if_pos (by simp; omega)]
      obtain ⟨B1, r, rfl, h1, s1, hr, hne⟩ := hR.big (by omega)
      simp only [List.length_append] at hl hn h
      obtain ⟨B2, Z, rfl, h2, s2, hZ⟩ : ∃ B2 Z, r = B2 ++ Z ∧ B2.length = bs ∧ Srt lt B2 ∧ Runs lt bs Z := by
        by_cases q : r.length = bs
        · exact ⟨r, [], by simp, q, hr.small (by omega), .last (by simp) List.Pairwise.nil⟩
        · obtain ⟨b, r', e, q1, q2, q3, _⟩ := hr.big (by omega)
          exact ⟨b, r', e, q1, q2, q3⟩
      simp only [List.length_append] at hl hn h
      obtain ⟨R, r1, r2, r3⟩ := zdc hs hy φ X B1 B2 Z (fun z hz => hD z (by simp [hz])) (fun z hz => hD z (by simp [hz])) s1 s2 (by intro e; subst e; simp at h1; omega) (by intro e; subst e; simp at h2; omega) (by omega) (by omega)
      have hRl : R.length = 2 * bs := by rw [r2.len]; simp; omega
      have e1 : X ++ (B1 ++ (B2 ++ Z)) = X ++ B1 ++ B2 ++ Z := by simp
      have e2 : (X.length : Int) + bs = (X.length : Int) + B1.length := by omega
      have e3 : (X.length : Int) + 2 * bs = (X.length : Int) + B1.length + B2.length := by omega
      have e4 : (X.length : Int) + 2 * bs = ((X ++ R).length : Nat) := by simp; omega
      obtain ⟨Y', p1, p2, p3⟩ := ih (X ++ R) Z (fun z hz => hD z (by simp [hz])) hZ (by simp; omega) (by omega)
      refine ⟨R ++ Y', .cons (by omega) r1 p1, ?_, ?_⟩
      · have := r2.app p2
        simpa using this
      · rw [e1]
        conv => lhs; arg 1; rw [e2, e3]
        rw [r3]
        simp only [Option.bind_some]
        rw [e4, p3]
        simp
    · rw [if_neg (by simp; omega)]
      unfold z1i z2u
      rw [w1, w2]
      by_cases q : bs < Y.length
      · rw [if_pos (by simp; omega)]
        obtain ⟨B1, B2, rfl, h1, s1, hr, hne⟩ := hR.big q
        simp only [List.length_append] at hl hn h
        obtain ⟨R, r1, r2, r3⟩ := zdc hs hy φ X B1 B2 [] (fun z hz => hD z (by simp [hz])) (fun z hz => hD z (by simp [hz])) s1 (hr.small (by omega)) (by intro e; subst e; simp at h1; omega) hne (by simp; omega) (by omega)
        have e1 : X ++ (B1 ++ B2) = X ++ B1 ++ B2 ++ [] := by simp
        have e2 : (X.length : Int) + bs = (X.length : Int) + B1.length := by omega
        have e3 : (N : Int) = (X.length : Int) + B1.length + B2.length := by omega
        refine ⟨R, .last (by rw [r2.len]; simp; omega) r1, r2, ?_⟩
        rw [e1, e2, e3, r3]
        simp
      · rw [if_neg (by simp; omega)]
        exact ⟨Y, .last (by omega) (hR.small (by omega)), Stb.refl _, rfl⟩
theorem zjf (hs : Swo lt) (hy : Cmp D y lt) (φ N : Nat) (hN : N ≤ 400000) (hφ : 2 * N + 3 < φ) :
    ∀ (n bs : Nat) (Y : List Int), (∀ z ∈ Y, D z) → Runs lt bs Y → Y.length = N → 0 < bs → bs ≤ 900000 → N - bs < n →
    ∃ Y', Srt lt Y' ∧ Stb lt Y Y' ∧ zn φ (N : Int) y n (bs : Int) Y = some Y' := by
  intro n
  induction n with
  | zero => intro bs Y _ _ _ _ _ h; omega
  | succ n ih =>
    intro bs Y hD hR hl hb0 hb hn
    rw [zn]
    by_cases h : bs < N
    · rw [if_pos (by simp; omega), W_id (x := 2 * (bs : Int)) (by omega) (by omega)]
      obtain ⟨Y', p1, p2, p3⟩ := zmr hs hy φ N bs (zn φ (N : Int) y n) (by omega) hφ hb0 hb φ [] Y hD hR (by simpa using hl) (by omega)
      obtain ⟨Y'', q1, q2, q3⟩ := ih (bs * 2) Y' (fun z hz => hD z (p2.mem.1 hz)) p1 (by rw [p2.len, hl]) (by omega) (by omega) (by omega)
      refine ⟨Y'', q1, p2.trans q2, ?_⟩
      rw [← q3]
      simpa using p3
    · rw [if_neg (by simp; omega)]
      exact ⟨Y, hR.small (by omega), Stb.refl _, rfl⟩
/-- The stable sort sorts, and keeps the order of equal elements. -/
theorem zf3 (hs : Swo lt) (hy : Cmp D y lt) (φ : Nat) (v : List Int) (hD : ∀ z ∈ v, D z) (hN : v.length ≤ 400000) (hφ : 2 * v.length + 3 < φ) :
    ∃ r, Srt lt r ∧ Stb lt v r ∧ z42 φ v y = some r := by
  unfold z42 z5p
  obtain ⟨Y1, Y2, Y1', q1, q2, q3, q4, q5, q6⟩ := zg3 hs hy φ v.length (z0u φ (v.length : Int) y) (by omega) (by omega) φ [] v hD (by simp) (by omega)
  have q6' : z1m φ (v.length : Int) y (z0u φ (v.length : Int) y) φ 0 20 v = z0u φ (v.length : Int) y (Y1.length : Int) (Y1' ++ Y2) := by simpa using q6
  rw [q6']
  unfold z0u
  have hl : v.length = Y1.length + Y2.length := by rw [q1]; simp
  have hl1 : Y1'.length = Y1.length := q4.len
  obtain ⟨Y2', p1, p2, p3⟩ := za0 hs hy φ Y1' Y2 [] (fun z hz => hD z (by rw [q1]; simp [hz])) (by simp; omega) (by omega)
  simp only [List.append_nil] at p3
  have e1 : (Y1.length : Int) = Y1'.length := by omega
  have e2 : (v.length : Int) = (Y1'.length : Int) + Y2.length := by omega
  have p3' : z1p φ (Y1' ++ Y2) (Y1.length : Int) (v.length : Int) y = some (Y1' ++ Y2') := by rw [e1, e2]; exact p3
  have hst : Stb lt v (Y1' ++ Y2') := by rw [q1]; exact q4.app p2
  obtain ⟨r, r1, r2, r3⟩ := zjf hs hy φ v.length hN hφ φ 20 (Y1' ++ Y2') (fun z hz => hD z (hst.mem.1 hz)) (q5 _ (.last (by rw [p2.len]; omega) p1)) hst.len (by omega) (by omega) (by omega)
  refine ⟨r, r1, hst.trans r2, ?_⟩
  rw [p3']
  simp only [Option.bind_some]
  have r3' : zn φ (v.length : Int) y φ 20 (Y1' ++ Y2') = some r := r3
  rw [r3']
  rfl
end
end Px
end
section
namespace Px
open Go
set_option linter.unusedVariables false
set_option linter.unusedSimpArgs false
def zb3 (p : Pool) (r : zb) : Bool :=
  (r.fRef.fRailway != r.fItem.fOther) && ((((gt p.fNetwork.fPlaces r.fItem.fPlace).fRailway == r.fRef.fRailway) && ((gt p.fNetwork.fPlaces r.fItem.fPlace).fOther == r.fItem.fOther)) || (((gt p.fNetwork.fPlaces r.fItem.fPlace).fRailway == r.fItem.fOther) && ((gt p.fNetwork.fPlaces r.fItem.fPlace).fOther == r.fRef.fRailway)))
theorem znp (φ : Nat) (p : Pool) (r : zb) (h : 0 ≤ r.fItem.fPlace ∧ r.fItem.fPlace < (p.fNetwork.fPlaces.length : Int)) : z7v φ p r = some (zb3 p r) := by
  unfold z7v; rw [zm h]; rfl
def zbo (p : Pool) (l : List zb) (rs : List Int) (st : List (Int × Bool) × List (Nat → Int)) (d : Int) : List (Int × Bool) × List (Nat → Int) :=
  if zb3 p (gt l d) = false then st else if 0 ≤ z58 l st.1 d rs then (mset st.1 (z58 l st.1 d rs) true, st.2 ++ [ofL [d, z58 l st.1 d rs]]) else st
def zc2 (p : Pool) (l : List zb) (rs ds : List Int) : List (Nat → Int) := (ds.foldl (zbo p l rs) ([], [])).2
theorem zlk (φ : Nat) (hφ : 4 < φ) (p : Pool) (l : List zb) (rs ds : List Int) (hl : ds.length ≤ 100000) (hrl : rs.length ≤ 100000) (hr : ∀ z ∈ rs, 0 ≤ z ∧ z < (l.length : Int)) (hφ2 : rs.length < φ) (hφ3 : ds.length < φ)
    (hd : ∀ z ∈ ds, (0 ≤ z ∧ z < (l.length : Int)) ∧ 0 ≤ (gt l z).fItem.fPlace ∧ (gt l z).fItem.fPlace < (p.fNetwork.fPlaces.length : Int)) :
    z0l φ p l rs ds (z12 φ) φ 0 [] [] = some (zc2 p l rs ds) := by
  refine z51 (fun n j (s : List (Int × Bool) × List (Nat → Int)) => z0l φ p l rs ds (z12 φ) n j s.1 s.2) ds.length (fun j s => s = (ds.take j).foldl (zbo p l rs) ([], []) ∧ s.2.length ≤ j)
    (fun o => o = some (zc2 p l rs ds)) ?_ ?_ φ ([], []) ⟨by simp, by simp⟩ hφ3
  · intro n j s hj ⟨hs, hsl⟩ hk
    obtain ⟨hz, hpl⟩ := hd _ (z8e (l := ds) (i := (j : Int)) (by omega) (by omega))
    have hnext : (ds.take (j + 1)).foldl (zbo p l rs) ([], []) = zbo p l rs s (gt ds (j : Int)) := by
      rw [z7s ds j hj, List.foldl_append, ← hs]; rfl
    have w : W ((j : Int) + 1) = (j : Int) + 1 := W_id (by omega) (by omega)
    rw [z0l, if_pos (by simp; omega), zm ⟨by omega, by omega⟩, zm hz]
    simp only [Pool.eta', Item.eta', zb.eta', znp φ p _ hpl, Option.bind_some]
    by_cases q : zb3 p (gt l (gt ds (j : Int))) = false
    · rw [q, if_pos (by simp)]
      unfold z1w
      rw [w]
      exact hk s ⟨by rw [hnext]; unfold zbo; rw [if_pos q], by omega⟩
    · have q' : zb3 p (gt l (gt ds (j : Int))) = true := by simpa using q
      rw [q', if_neg (by simp), zmx φ hφ l rs ds _ s.1 _ hrl hr hφ2]
      unfold z3k
      by_cases hb : 0 ≤ z58 l s.1 (gt ds (j : Int)) rs
      · rw [if_pos (by simpa using hb), zm (z6z (by simp; omega) (by omega))]
        unfold z1w
        rw [w]
        refine hk (mset s.1 (z58 l s.1 (gt ds (j : Int)) rs) true, s.2 ++ [ofL [gt ds (j : Int), z58 l s.1 (gt ds (j : Int)) rs]]) ⟨?_, by simp; omega⟩
        rw [hnext]; unfold zbo; rw [if_neg q, if_pos hb]
      · rw [if_neg (by simpa using hb)]
        unfold z1w
        rw [w]
        refine hk s ⟨?_, by omega⟩
        rw [hnext]; unfold zbo; rw [if_neg q, if_neg hb]
  · intro n s ⟨hs, _⟩
    rw [List.take_length] at hs
    rw [z0l, if_neg (by simp), hs]
    rfl
/-- What pairs answers. -/
theorem zoy (φ : Nat) (p : Pool) (l : List zb) (ok : Item → Bool) (hl : l.length ≤ 100000) (hφ : 2 * l.length + 10 < φ) (hc : z4c φ p = some 0)
    (hok : ∀ r ∈ l, r.fItem.fKind = 3 ∨ r.fItem.fKind = 4 → ∃ e, z94 φ p r.fItem = some e ∧ (e == 0) = ok r.fItem)
    (hpl : ∀ r ∈ l, r.fItem.fKind = 3 ∨ r.fItem.fKind = 4 → ok r.fItem = true → 0 ≤ r.fItem.fPlace ∧ r.fItem.fPlace < (p.fNetwork.fPlaces.length : Int)) :
    ∃ ds, Srt (zb8 l) ds ∧ Stb (zb8 l) (idxF (fun r => r.fItem.fKind == 3 && ok r.fItem) l) ds ∧
      z5l φ p l = some (zc2 p l (idxF (fun r => r.fItem.fKind == 4 && ok r.fItem) l) ds) := by
  have h3 := of_eq φ p l 3 ok hl (by omega) fun r hr hk => hok r hr (.inl hk)
  have h4 := of_eq φ p l 4 ok hl (by omega) fun r hr hk => hok r hr (.inr hk)
  have l3 := zaq (fun r : zb => r.fItem.fKind == 3 && ok r.fItem) l
  have l4 := zaq (fun r : zb => r.fItem.fKind == 4 && ok r.fItem) l
  obtain ⟨ds, s1, s2, s3⟩ := zf3 (zex l) (zod φ (by omega) l) φ (idxF (fun r => r.fItem.fKind == 3 && ok r.fItem) l)
    (fun z hz => ⟨(z5r.1 hz).1, (z5r.1 hz).2.1⟩) (by omega) (by omega)
  refine ⟨ds, s1, s2, ?_⟩
  have dl := s2.len
  unfold z5l
  simp only [Pool.eta', hc, h3, h4, Option.bind_some, s3]
  rw [if_neg (by decide)]
  refine zlk φ (by omega) p l _ ds (by omega) (by omega) (fun z hz => ⟨(z5r.1 hz).1, (z5r.1 hz).2.1⟩) (by omega) (by omega) fun z hz => ?_
  obtain ⟨q1, q2, q3⟩ := z5r.1 (s2.mem.1 hz)
  simp only [Bool.and_eq_true, beq_iff_eq] at q3
  exact ⟨⟨q1, q2⟩, hpl _ (z8e q1 q2) (.inl q3.1) q3.2⟩
end Px
end
section
namespace Px
open Go
set_option linter.unusedVariables false
set_option linter.unusedSimpArgs false
set_option maxHeartbeats 1000000
section
theorem zfk (φ : Nat) (P Z Q : List z3) (c : Nat) : ∀ (n : Nat) (X1 X2 Y1 Y2 : List z3), X1.length = Y1.length → X2.length = Y2.length → c = X1.length + X2.length → P.length + c + Z.length + c + Q.length ≤ 1000000 → X2.length < n →
    z0j φ (P.length : Int) ((P.length : Int) + c + Z.length) (c : Int) n (X1.length : Int) (P ++ Y1 ++ X2 ++ Z ++ X1 ++ Y2 ++ Q) = some (P ++ Y1 ++ Y2 ++ Z ++ X1 ++ X2 ++ Q) := by
  intro n
  induction n with
  | zero => intro X1 X2 Y1 Y2 _ _ _ _ h; omega
  | succ n ih =>
    intro X1 X2 Y1 Y2 h1 h2 hc hl hn
    cases X2 with
    | nil =>
      have : Y2 = [] := List.eq_nil_of_length_eq_zero (by simpa using h2.symm)
      subst this
      simp only [List.length_nil, Nat.add_zero] at hc
      rw [z0j, if_neg (by simp; omega)]
    | cons x X2 =>
      cases Y2 with
      | nil => simp at h2
      | cons w Y2 =>
        simp only [List.length_cons, Nat.add_right_cancel_iff] at h2 hc hn
        have w1 : W ((P.length : Int) + c + Z.length + X1.length) = (P.length : Int) + c + Z.length + X1.length := W_id (by omega) (by omega)
        have w2 : W ((P.length : Int) + X1.length) = (P.length : Int) + X1.length := W_id (by omega) (by omega)
        have w3 : W ((X1.length : Int) + 1) = (X1.length : Int) + 1 := W_id (by omega) (by omega)
        have e1 : P ++ Y1 ++ x :: X2 ++ Z ++ X1 ++ w :: Y2 ++ Q = (P ++ Y1) ++ x :: (X2 ++ Z ++ X1 ++ w :: Y2 ++ Q) := by simp
        have e2 : P ++ Y1 ++ x :: X2 ++ Z ++ X1 ++ w :: Y2 ++ Q = (P ++ Y1 ++ x :: X2 ++ Z ++ X1) ++ w :: (Y2 ++ Q) := by simp
        have g1 : gt (P ++ Y1 ++ x :: X2 ++ Z ++ X1 ++ w :: Y2 ++ Q) ((P.length : Int) + X1.length) = x := by rw [e1]; exact z5b (by simp; omega)
        have g2 : gt (P ++ Y1 ++ x :: X2 ++ Z ++ X1 ++ w :: Y2 ++ Q) ((P.length : Int) + c + Z.length + X1.length) = w := by rw [e2]; exact z5b (by simp; omega)
        have s1 : z1t (P ++ Y1 ++ x :: X2 ++ Z ++ X1 ++ w :: Y2 ++ Q) ((P.length : Int) + X1.length) w = (P ++ Y1) ++ w :: (X2 ++ Z ++ X1 ++ w :: Y2 ++ Q) := by rw [e1]; exact z7e (by simp; omega)
        have e3 : (P ++ Y1) ++ w :: (X2 ++ Z ++ X1 ++ w :: Y2 ++ Q) = (P ++ Y1 ++ w :: X2 ++ Z ++ X1) ++ w :: (Y2 ++ Q) := by simp
        have s2 : z1t ((P ++ Y1 ++ w :: X2 ++ Z ++ X1) ++ w :: (Y2 ++ Q)) ((P.length : Int) + c + Z.length + X1.length) x = (P ++ Y1 ++ w :: X2 ++ Z ++ X1) ++ x :: (Y2 ++ Q) := z7e (by simp; omega)
        have e4 : (P ++ Y1 ++ w :: X2 ++ Z ++ X1) ++ x :: (Y2 ++ Q) = P ++ (Y1 ++ [w]) ++ X2 ++ Z ++ (X1 ++ [x]) ++ Y2 ++ Q := by simp
        have hlen : ((P ++ Y1 ++ x :: X2 ++ Z ++ X1 ++ w :: Y2 ++ Q).length : Int) = P.length + c + Z.length + c + Q.length := by simp; omega
        have hlen2 : (((P ++ Y1 ++ w :: X2 ++ Z ++ X1) ++ w :: (Y2 ++ Q)).length : Int) = P.length + c + Z.length + c + Q.length := by simp; omega
        rw [z0j, if_pos (by simp; omega), w1, w2, w3, g1, g2, s1, e3, s2, e4, hlen, hlen2]
        rw [zm ⟨by omega, by omega⟩, zm ⟨by omega, by omega⟩, zm ⟨by omega, by omega⟩]
        have := ih (X1 ++ [x]) X2 (Y1 ++ [w]) Y2 (by simp [h1]) h2 (by simp; omega) hl (by omega)
        have e5 : (((X1 ++ [x]).length : Nat) : Int) = (X1.length : Int) + 1 := by simp
        rw [e5] at this
        rw [this]
        simp
theorem za2 (φ : Nat) (P X Z Y Q : List z3) (y : z3 → z3 → Option Int) (h : X.length = Y.length) (hl : P.length + X.length + Z.length + X.length + Q.length ≤ 1000000) (hφ : X.length < φ) :
    z1g φ (P ++ X ++ Z ++ Y ++ Q) (P.length : Int) ((P.length : Int) + X.length + Z.length) (X.length : Int) y = some (P ++ Y ++ Z ++ X ++ Q) := by
  have := zfk φ P Z Q X.length φ [] X [] Y rfl h (by simp) hl hφ
  simpa [z1g] using this
theorem zgd (φ : Nat) (y : z3 → z3 → Option Int) : ∀ (n : Nat) (P X Y Q : List z3), X ≠ [] → Y ≠ [] → P.length + X.length + Y.length + Q.length ≤ 1000000 → X.length + Y.length ≤ n → X.length + Y.length < φ →
    z0r φ ((P.length : Int) + X.length) y (z0x φ ((P.length : Int) + X.length) y) n (X.length : Int) (Y.length : Int) (P ++ X ++ Y ++ Q) = some (P ++ Y ++ X ++ Q) := by
  intro n
  induction n with
  | zero => intro P X Y Q hX hY _ h; have := List.length_pos_iff.2 hX; omega
  | succ n ih =>
    intro P X Y Q hX hY hl hn hφ
    have hX0 := List.length_pos_iff.2 hX
    have hY0 := List.length_pos_iff.2 hY
    have w1 : W ((P.length : Int) + X.length - X.length) = (P.length : Int) := by rw [W_id (by omega) (by omega)]; omega
    rw [z0r, w1]
    by_cases he : X.length = Y.length
    · rw [if_neg (by simp [he])]
      unfold z0x
      rw [w1]
      have := za2 φ P X [] Y Q y he (by simp; omega) (by omega)
      simp only [List.append_nil, List.length_nil, Int.ofNat_zero, Int.add_zero] at this
      rw [this]; rfl
    · rw [if_pos (by simp; omega)]
      by_cases hlt : Y.length < X.length
      · rw [if_pos (by simp; omega)]
        obtain ⟨X1, X2, rfl, h1⟩ : ∃ X1 X2, X = X1 ++ X2 ∧ X1.length = Y.length := ⟨X.take Y.length, X.drop Y.length, (List.take_append_drop _ _).symm, by simp; omega⟩
        simp only [List.length_append] at hl hn hφ hlt hX0 he
        have e1 : P ++ (X1 ++ X2) ++ Y ++ Q = P ++ X1 ++ X2 ++ Y ++ Q := by simp
        have e2 : (P.length : Int) + ((X1 ++ X2).length : Nat) = (P.length : Int) + X1.length + X2.length := by simp; omega
        rw [e1, e2, ← h1, za2 φ P X1 X2 Y Q y h1 (by omega) (by omega)]
        simp only [Option.bind_some]
        have w2 : W (((X1 ++ X2).length : Int) - X1.length) = (X2.length : Int) := by simp; rw [W_id (by omega) (by omega)]; omega
        rw [w2]
        have := ih (P ++ Y) X2 X1 Q (by intro e; subst e; simp at hlt; omega) (by intro e; subst e; simp at h1; omega) (by simp; omega) (by omega) (by omega)
        have e3 : (((P ++ Y).length : Nat) : Int) + X2.length = (P.length : Int) + X1.length + X2.length := by simp; omega
        rw [e3] at this
        rw [this]
        simp
      · rw [if_neg (by simp; omega)]
        obtain ⟨Y1, Y2, rfl, h1⟩ : ∃ Y1 Y2, Y = Y1 ++ Y2 ∧ Y2.length = X.length := ⟨Y.take (Y.length - X.length), Y.drop (Y.length - X.length), (List.take_append_drop _ _).symm, by simp; omega⟩
        simp only [List.length_append] at hl hn hφ hlt hY0 he
        have e1 : P ++ X ++ (Y1 ++ Y2) ++ Q = P ++ X ++ Y1 ++ Y2 ++ Q := by simp
        have w3 : W ((P.length : Int) + X.length + ((Y1 ++ Y2).length : Nat)) = (P.length : Int) + X.length + Y1.length + Y2.length := by simp; rw [W_id (by omega) (by omega)]; omega
        have w4 : W ((P.length : Int) + X.length + Y1.length + Y2.length - X.length) = (P.length : Int) + X.length + Y1.length := by rw [W_id (by omega) (by omega)]; omega
        have w5 : W (((Y1 ++ Y2).length : Int) - X.length) = (Y1.length : Int) := by simp; rw [W_id (by omega) (by omega)]; omega
        rw [e1, w3, w4, w5, za2 φ P X Y1 Y2 Q y h1.symm (by omega) (by omega)]
        simp only [Option.bind_some]
        have := ih P Y2 Y1 (X ++ Q) (by intro e; subst e; simp at h1; omega) (by intro e; subst e; simp at h1 hlt he; omega) (by simp; omega) (by omega) (by omega)
        rw [h1] at this
        have e2 : P ++ Y2 ++ Y1 ++ X ++ Q = P ++ Y2 ++ Y1 ++ (X ++ Q) := by simp
        rw [e2, this]
        simp
theorem zeh (φ : Nat) (P X Y Q : List z3) (y : z3 → z3 → Option Int) (hX : X ≠ []) (hY : Y ≠ []) (hl : P.length + X.length + Y.length + Q.length ≤ 1000000) (hφ : X.length + Y.length < φ) :
    z37 φ (P ++ X ++ Y ++ Q) (P.length : Int) ((P.length : Int) + X.length) ((P.length : Int) + X.length + Y.length) y = some (P ++ Y ++ X ++ Q) := by
  have := zgd φ y φ P X Y Q hX hY hl (by omega) hφ
  rw [← this]
  unfold z37
  have w1 : W ((P.length : Int) + X.length - P.length) = (X.length : Int) := by rw [W_id (by omega) (by omega)]; omega
  have w2 : W ((P.length : Int) + X.length + Y.length - ((P.length : Int) + X.length)) = (Y.length : Int) := by rw [W_id (by omega) (by omega)]; omega
  rw [w1, w2]
end
end Px
end
section
namespace Px
open Go
set_option linter.unusedVariables false
set_option linter.unusedSimpArgs false
set_option maxHeartbeats 2000000
section
variable {D : z3 → Prop} {lt : z3 → z3 → Bool} {y : z3 → z3 → Option Int}
theorem zdq (φ : Nat) (k : List z3 → Option (List z3)) (x : z3) : ∀ (n : Nat) (P C E : List z3), P.length + C.length + E.length ≤ 999999 → C.length < n →
    z0y φ ((P.length : Int) + C.length + 1) k n (P.length : Int) (P ++ x :: (C ++ E)) = k (P ++ C ++ x :: E) := by
  intro n
  induction n with
  | zero => intro P C E _ h; omega
  | succ n ih =>
    intro P C E hl hn
    have w0 : W ((P.length : Int) + C.length + 1 - 1) = (P.length : Int) + C.length := by rw [W_id (by omega) (by omega)]; omega
    rw [z0y, w0]
    cases C with
    | nil => rw [if_neg (by simp)]; simp
    | cons w C =>
      simp only [List.length_cons] at hl hn
      have w1 : W ((P.length : Int) + 1) = (P.length : Int) + 1 := W_id (by omega) (by omega)
      have e1 : P ++ x :: (w :: C ++ E) = (P ++ [x]) ++ w :: (C ++ E) := by simp
      have g1 : gt (P ++ x :: (w :: C ++ E)) (P.length : Int) = x := z5b rfl
      have g2 : gt (P ++ x :: (w :: C ++ E)) ((P.length : Int) + 1) = w := by rw [e1]; exact z5b (by simp)
      have s1 : z1t (P ++ x :: (w :: C ++ E)) (P.length : Int) w = P ++ w :: (w :: C ++ E) := z7e rfl
      have e2 : P ++ w :: (w :: C ++ E) = (P ++ [w]) ++ w :: (C ++ E) := by simp
      have s2 : z1t ((P ++ [w]) ++ w :: (C ++ E)) ((P.length : Int) + 1) x = (P ++ [w]) ++ x :: (C ++ E) := z7e (by simp)
      have hlen : ((P ++ x :: (w :: C ++ E)).length : Int) = P.length + C.length + E.length + 2 := by simp; omega
      have hlen2 : (((P ++ [w]) ++ w :: (C ++ E)).length : Int) = P.length + C.length + E.length + 2 := by simp; omega
      rw [if_pos (by simp; omega), w1, g1, g2, s1, e2, s2, hlen, hlen2, zm ⟨by omega, by omega⟩, zm ⟨by omega, by omega⟩, zm ⟨by omega, by omega⟩]
      have := ih (P ++ [w]) C E (by simp; omega) (by omega)
      have e3 : (((P ++ [w]).length : Nat) : Int) = (P.length : Int) + 1 := by simp
      have e4 : (P.length : Int) + ((w :: C).length : Nat) + 1 = (P.length : Int) + 1 + C.length + 1 := by simp; omega
      rw [e3] at this
      rw [e4, this]
      simp
theorem zc1 (φ : Nat) (k : List z3 → Option (List z3)) (x : z3) (P : List z3) : ∀ (n : Nat) (C E : List z3), P.length + C.length + E.length ≤ 999999 → C.length < n →
    z0z φ (P.length : Int) k n ((P.length : Int) + C.length) (P ++ C ++ x :: E) = k (P ++ x :: (C ++ E)) := by
  intro n
  induction n with
  | zero => intro C E _ h; omega
  | succ n ih =>
    intro C E hl hn
    rw [z0z]
    rcases z4l C with rfl | ⟨S, z, rfl⟩
    · rw [if_neg (by simp)]; simp
    · simp only [List.length_append, List.length_cons, List.length_nil] at hl hn
      have w1 : W ((P.length : Int) + ((S ++ [z]).length : Nat) - 1) = (P.length : Int) + S.length := by
        rw [W_id (by simp; omega) (by simp; omega)]; simp; omega
      have e1 : P ++ (S ++ [z]) ++ x :: E = (P ++ S ++ [z]) ++ x :: E := by simp
      have e2 : P ++ (S ++ [z]) ++ x :: E = (P ++ S) ++ z :: (x :: E) := by simp
      have g1 : gt (P ++ (S ++ [z]) ++ x :: E) ((P.length : Int) + ((S ++ [z]).length : Nat)) = x := by rw [e1]; exact z5b (by simp <;> omega)
      have g2 : gt (P ++ (S ++ [z]) ++ x :: E) ((P.length : Int) + S.length) = z := by rw [e2]; exact z5b (by simp)
      have s1 : z1t (P ++ (S ++ [z]) ++ x :: E) ((P.length : Int) + ((S ++ [z]).length : Nat)) z = (P ++ S) ++ z :: (z :: E) := by rw [e1, z7e (by simp <;> omega)]; simp
      have s2 : z1t ((P ++ S) ++ z :: (z :: E)) ((P.length : Int) + S.length) x = P ++ S ++ x :: (z :: E) := z7e (by simp)
      have hlen : ((P ++ (S ++ [z]) ++ x :: E).length : Int) = P.length + S.length + E.length + 2 := by simp; omega
      have hlen2 : (((P ++ S) ++ z :: (z :: E)).length : Int) = P.length + S.length + E.length + 2 := by simp; omega
      rw [if_pos (by simp; omega), w1, g1, g2, s1, s2, hlen, hlen2, zm ⟨by omega, by omega⟩, zm ⟨by omega, by simp; omega⟩, zm ⟨by omega, by omega⟩]
      rw [ih S (z :: E) (by simp; omega) (by omega)]
      simp
/-- One element before a sorted list. -/
theorem zbq (hs : Swo lt) (hy : Cmp D y lt) (φ : Nat) (P L Q : List z3) (x : z3) (hx : D x) (hD : ∀ z ∈ L, D z) (hS : Srt lt L) (hl : P.length + L.length + Q.length ≤ 999998) (hφ : P.length + L.length + 2 < φ) :
    ∃ R, Srt lt R ∧ Stb lt (x :: L) R ∧ zq φ (P ++ x :: (L ++ Q)) (P.length : Int) y (zt φ (P ++ x :: (L ++ Q)) (P.length : Int)) φ ((P.length : Int) + 1) ((P.length : Int) + 1 + L.length) = some (P ++ R ++ Q) := by
  have gx : gt (P ++ x :: (L ++ Q)) (P.length : Int) = x := z5b rfl
  have hlen : ((P ++ x :: (L ++ Q)).length : Int) = P.length + L.length + Q.length + 1 := by simp; omega
  have gL : ∀ i : Nat, P.length + 1 ≤ i → i < P.length + 1 + L.length → gt (P ++ x :: (L ++ Q)) (i : Int) = gt L ((i - (P.length + 1) : Nat) : Int) := by
    intro i h1 h2
    have e : P ++ x :: (L ++ Q) = (P ++ [x]) ++ (L ++ Q) := by simp
    rw [e, z4w _ _ _ (by simp; omega), z5y _ _ _ (by simp; omega) (by simp; omega)]
    congr 1; simp; omega
  obtain ⟨c, h1, h2, h3, h4, h5⟩ := zas (zq φ (P ++ x :: (L ++ Q)) (P.length : Int) y (zt φ (P ++ x :: (L ++ Q)) (P.length : Int)))
    (zt φ (P ++ x :: (L ++ Q)) (P.length : Int)) (fun h => lt (gt (P ++ x :: (L ++ Q)) (h : Int)) x) (P.length + 1 + L.length) (P.length + 1)
    (by
      intro n s r h0 hlt hR
      have hm : (W ((U (W ((s : Int) + r))).fdiv 2)) = (((s + r) / 2 : Nat) : Int) := by rw [zc0 (by omega) (by omega)]; omega
      have hm1 : W ((((s + r) / 2 : Nat) : Int) + 1) = (((s + r) / 2 + 1 : Nat) : Int) := by rw [W_id (by omega) (by omega)]; simp
      obtain ⟨w, hw1, hw2⟩ := hy (gt (P ++ x :: (L ++ Q)) (((s + r) / 2 : Nat) : Int)) x (by
        rw [gL _ (by omega) (by omega)]; exact hD _ (z8e (by omega) (by omega))) hx
      rw [zq, if_pos (by simp; omega), hm, hm1, hlen, gx, zm ⟨by omega, by omega⟩, zm ⟨by omega, by omega⟩, hw1]
      simp only [Option.bind_some, hw2])
    (by
      intro n s
      rw [zq, if_neg (by simp)]) φ (P.length + 1) (P.length + 1 + L.length) (Nat.le_refl _) (by omega) (Nat.le_refl _) (by omega)
  obtain ⟨C, E, rfl, hC⟩ : ∃ C E, L = C ++ E ∧ C.length = c - (P.length + 1) := ⟨L.take (c - (P.length + 1)), L.drop (c - (P.length + 1)), (List.take_append_drop _ _).symm, by simp; omega⟩
  simp only [List.length_append] at hl hφ h2 gL
  have hCx : ∀ z ∈ C, lt z x = true := by
    intro z hz
    rcases z4l C with rfl | ⟨S, w, rfl⟩
    · cases hz
    · simp only [List.length_append, List.length_cons, List.length_nil] at hC hz hS gL h2
      have hp : lt w x = true := by
        rcases h3 with h3 | h3
        · omega
        · rw [gL _ (by omega) (by omega)] at h3
          have e : S ++ [w] ++ E = S ++ w :: E := by simp
          rw [e, z5b (by omega)] at h3
          exact h3
      rcases List.mem_append.1 hz with h | h
      · exact z80 hs (hS.parts.1.parts.2.2 z h w (by simp)) hp (hs.irr x)
      · simp at h; rw [h]; exact hp
  have hEx : ∀ z ∈ E, lt z x = false := by
    intro z hz
    cases E with
    | nil => cases hz
    | cons w E =>
      simp only [List.length_cons] at h2 gL h4
      have hp : lt w x = false := by
        rcases h4 with h4 | h4
        · simp at h4; omega
        · rw [gL _ (by omega) (by omega), z5b (by omega)] at h4
          exact h4
      rcases List.mem_cons.1 hz with h | h
      · rw [h]; exact hp
      · exact hs.ntr _ _ _ ((List.pairwise_cons.1 hS.parts.2.1).1 z h) hp
  have hm := z78 hs (A := []) (B := [x]) (C := C) (E := E) (R1 := C) (R2 := x :: E) (List.pairwise_singleton _ _) hS (by simpa using hCx) (by simp) hS.parts.1 (by simpa using Stb.refl C) (List.pairwise_cons.2 ⟨hEx, hS.parts.2.1⟩) (by simpa using Stb.refl (x :: E))
  refine ⟨C ++ x :: E, hm.1, by simpa using hm.2, ?_⟩
  have e5 : ((P.length : Int) + 1 + ((C ++ E).length : Nat)) = ((P.length + 1 + (C ++ E).length : Nat) : Int) := by simp
  have e6 : ((P.length : Int) + 1) = ((P.length + 1 : Nat) : Int) := by simp
  rw [e5, e6, h5]
  unfold zt
  have e7 : (c : Int) = (P.length : Int) + C.length + 1 := by omega
  have e8 : P ++ x :: (C ++ E ++ Q) = P ++ x :: (C ++ (E ++ Q)) := by simp
  rw [e7, e8, zdq φ _ x φ P C (E ++ Q) (by simp; omega) (by omega)]
  simp [z10]
/-- A sorted list before one element. -/
theorem zbz (hs : Swo lt) (hy : Cmp D y lt) (φ : Nat) (P L Q : List z3) (x : z3) (hx : D x) (hD : ∀ z ∈ L, D z) (hS : Srt lt L) (hl : P.length + L.length + Q.length ≤ 999998) (hφ : P.length + L.length + 2 < φ) :
    ∃ R, Srt lt R ∧ Stb lt (L ++ [x]) R ∧ zu φ (P ++ L ++ x :: Q) ((P.length : Int) + L.length) y (zp φ (P ++ L ++ x :: Q) ((P.length : Int) + L.length)) φ (P.length : Int) ((P.length : Int) + L.length) = some (P ++ R ++ Q) := by
  have gx : gt (P ++ L ++ x :: Q) ((P.length : Int) + L.length) = x := z5b (by simp)
  have hlen : ((P ++ L ++ x :: Q).length : Int) = P.length + L.length + Q.length + 1 := by simp; omega
  have gL : ∀ i : Nat, P.length ≤ i → i < P.length + L.length → gt (P ++ L ++ x :: Q) (i : Int) = gt L ((i - P.length : Nat) : Int) := by
    intro i h1 h2
    rw [List.append_assoc, z4w _ _ _ (by omega), z5y _ _ _ (by omega) (by omega)]
    congr 1; omega
  obtain ⟨c, h1, h2, h3, h4, h5⟩ := zas (zu φ (P ++ L ++ x :: Q) ((P.length : Int) + L.length) y (zp φ (P ++ L ++ x :: Q) ((P.length : Int) + L.length)))
    (zp φ (P ++ L ++ x :: Q) ((P.length : Int) + L.length)) (fun h => !lt x (gt (P ++ L ++ x :: Q) (h : Int))) (P.length + L.length) P.length
    (by
      intro n s r h0 hlt hR
      have hm : (W ((U (W ((s : Int) + r))).fdiv 2)) = (((s + r) / 2 : Nat) : Int) := by rw [zc0 (by omega) (by omega)]; omega
      have hm1 : W ((((s + r) / 2 : Nat) : Int) + 1) = (((s + r) / 2 + 1 : Nat) : Int) := by rw [W_id (by omega) (by omega)]; simp
      obtain ⟨w, hw1, hw2⟩ := hy x (gt (P ++ L ++ x :: Q) (((s + r) / 2 : Nat) : Int)) hx (by
        rw [gL _ (by omega) (by omega)]; exact hD _ (z8e (by omega) (by omega)))
      rw [zu, if_pos (by simp; omega), hm, hm1, hlen, gx, zm ⟨by omega, by omega⟩, zm ⟨by omega, by omega⟩, hw1]
      simp only [Option.bind_some, hw2])
    (by
      intro n s
      rw [zu, if_neg (by simp)]) φ P.length (P.length + L.length) (Nat.le_refl _) (by omega) (Nat.le_refl _) (by omega)
  obtain ⟨A, B, rfl, hC⟩ : ∃ A B, L = A ++ B ∧ A.length = c - P.length := ⟨L.take (c - P.length), L.drop (c - P.length), (List.take_append_drop _ _).symm, by simp; omega⟩
  simp only [List.length_append] at hl hφ h2 gL
  have hA : ∀ z ∈ A, lt x z = false := by
    intro z hz
    rcases z4l A with rfl | ⟨S, w, rfl⟩
    · cases hz
    · simp only [List.length_append, List.length_cons, List.length_nil] at hC hz hS gL h2
      have hp : lt x w = false := by
        rcases h3 with h3 | h3
        · omega
        · rw [gL _ (by omega) (by omega)] at h3
          have e : S ++ [w] ++ B = S ++ w :: B := by simp
          rw [e, z5b (by omega)] at h3
          simpa using h3
      rcases List.mem_append.1 hz with h | h
      · exact hs.ntr _ _ _ hp (hS.parts.1.parts.2.2 z h w (by simp))
      · simp at h; rw [h]; exact hp
  have hB : ∀ z ∈ B, lt x z = true := by
    intro z hz
    cases B with
    | nil => cases hz
    | cons w B =>
      simp only [List.length_cons] at h2 gL h4
      have hp : lt x w = true := by
        rcases h4 with h4 | h4
        · simp at h4; omega
        · rw [gL _ (by omega) (by omega), z5b (by omega)] at h4
          simpa using h4
      rcases List.mem_cons.1 hz with h | h
      · rw [h]; exact hp
      · exact z80 hs (hs.irr x) hp ((List.pairwise_cons.1 hS.parts.2.1).1 z h)
  have hm := z78 hs (A := A) (B := B) (C := [x]) (E := []) (R1 := A ++ [x]) (R2 := B) hS (by rw [List.append_nil]; exact List.pairwise_singleton _ x) (by simpa using hB) (by simp)
    (hS.parts.1.app (List.pairwise_singleton _ _) (by simpa using hA)) (Stb.refl _) hS.parts.2.1 (by simpa using Stb.refl B)
  refine ⟨A ++ [x] ++ B, hm.1, by simpa using hm.2, ?_⟩
  have e5 : ((P.length : Int) + ((A ++ B).length : Nat)) = ((P.length + (A ++ B).length : Nat) : Int) := by simp
  rw [e5] at h5 ⊢
  rw [h5]
  unfold zp
  have e7 : (c : Int) = (((P ++ A).length : Nat) : Int) := by simp; omega
  have e8 : P ++ (A ++ B) ++ x :: Q = (P ++ A) ++ B ++ x :: Q := by simp
  have e9 : ((P.length + (A ++ B).length : Nat) : Int) = (((P ++ A).length : Nat) : Int) + B.length := by simp; omega
  rw [e7, e8, e9, zc1 φ _ x (P ++ A) φ B Q (by simp; omega) (by omega)]
  simp [z11]
end
end Px
end
section
namespace Px
open Go
set_option linter.unusedVariables false
set_option linter.unusedSimpArgs false
set_option maxHeartbeats 4000000
section
variable {D : z3 → Prop} {lt : z3 → z3 → Bool} {y : z3 → z3 → Option Int}
/-- Where the two lists are split. -/
theorem zer (hs : Swo lt) (hy : Cmp D y lt) (φ : Nat) (P L1 L2 Q : List z3) (k : Int → Option (List z3)) (hD1 : ∀ z ∈ L1, D z) (hD2 : ∀ z ∈ L2, D z) (hS1 : Srt lt L1) (hS2 : Srt lt L2)
    (a m b mid s0 r0 : Nat) (ha : a = P.length) (hm : m = a + L1.length) (hb : b = m + L2.length) (hmid : mid = (a + b) / 2) (hl : b + Q.length ≤ 999998) (hφ : b < φ)
    (h1 : 1 ≤ L1.length) (h2 : 1 ≤ L2.length) (hs0 : (mid < m ∧ s0 = mid + m - b ∧ r0 = mid) ∨ (m ≤ mid ∧ s0 = a ∧ r0 = m)) :
    ∃ A B C E, L1 = A ++ B ∧ L2 = C ++ E ∧ mid + m - (a + A.length) = m + C.length ∧ (∀ x ∈ B, ∀ y ∈ C, lt y x = true) ∧ (∀ x ∈ A, ∀ y ∈ E, lt y x = false) ∧
      zr φ (P ++ L1 ++ L2 ++ Q) (a : Int) (m : Int) (b : Int) y k φ (s0 : Int) (r0 : Int) = k ((a + A.length : Nat) : Int) := by
  have g1 : ∀ i : Nat, a ≤ i → i < m → gt (P ++ L1 ++ L2 ++ Q) (i : Int) = gt L1 ((i - a : Nat) : Int) := by
    intro i q1 q2
    have e : P ++ L1 ++ L2 ++ Q = P ++ (L1 ++ (L2 ++ Q)) := by simp
    rw [e, z4w _ _ _ (by omega), z5y _ _ _ (by omega) (by omega)]
    congr 1; omega
  have g2 : ∀ i : Nat, m ≤ i → i < b → gt (P ++ L1 ++ L2 ++ Q) (i : Int) = gt L2 ((i - m : Nat) : Int) := by
    intro i q1 q2
    have e : P ++ L1 ++ L2 ++ Q = (P ++ L1) ++ (L2 ++ Q) := by simp
    rw [e, z4w _ _ _ (by simp; omega), z5y _ _ _ (by simp; omega) (by simp; omega)]
    congr 1; simp; omega
  have hlen : ((P ++ L1 ++ L2 ++ Q).length : Int) = b + Q.length := by simp; omega
  have hW : W ((U (W ((a : Int) + b))).fdiv 2) = (mid : Int) := by rw [zc0 (by omega) (by omega)]; omega
  have hn : W ((mid : Int) + m) = ((mid + m : Nat) : Int) := by rw [W_id (by omega) (by omega)]; simp
  have hp : W (((mid + m : Nat) : Int) - 1) = ((mid + m - 1 : Nat) : Int) := by rw [W_id (by omega) (by omega)]; omega
  have hmb : mid ≤ b := by omega
  have ham : a ≤ mid := by omega
  obtain ⟨c, h3, h4, h5, h6, h7⟩ := zas (zr φ (P ++ L1 ++ L2 ++ Q) (a : Int) (m : Int) (b : Int) y k) k
    (fun c => !lt (gt (P ++ L1 ++ L2 ++ Q) ((mid + m - 1 - c : Nat) : Int)) (gt (P ++ L1 ++ L2 ++ Q) (c : Int))) r0 s0
    (by
      intro n s r q0 hlt hR
      have hm' : (W ((U (W ((s : Int) + r))).fdiv 2)) = (((s + r) / 2 : Nat) : Int) := by rw [zc0 (by omega) (by omega)]; omega
      have hm1 : W ((((s + r) / 2 : Nat) : Int) + 1) = (((s + r) / 2 + 1 : Nat) : Int) := by rw [W_id (by omega) (by omega)]; simp
      have hpc : W (((mid + m - 1 : Nat) : Int) - (((s + r) / 2 : Nat) : Int)) = ((mid + m - 1 - (s + r) / 2 : Nat) : Int) := by rw [W_id (by omega) (by omega)]; omega
      obtain ⟨w, hw1, hw2⟩ := hy (gt (P ++ L1 ++ L2 ++ Q) ((mid + m - 1 - (s + r) / 2 : Nat) : Int)) (gt (P ++ L1 ++ L2 ++ Q) (((s + r) / 2 : Nat) : Int))
        (by rw [g2 _ (by omega) (by omega)]; exact hD2 _ (z8e (by omega) (by omega))) (by rw [g1 _ (by omega) (by omega)]; exact hD1 _ (z8e (by omega) (by omega)))
      rw [zr, if_pos (by simp; omega), hm', hm1, hW, hn, hp, hpc, hlen, zm ⟨by omega, by omega⟩, zm ⟨by omega, by omega⟩, hw1]
      simp only [Option.bind_some, hw2])
    (by
      intro n s
      rw [zr, if_neg (by simp)]) φ s0 r0 (Nat.le_refl _) (by omega) (Nat.le_refl _) (by omega)
  obtain ⟨A, B, rfl, hA⟩ : ∃ A B, L1 = A ++ B ∧ A.length = c - a := ⟨L1.take (c - a), L1.drop (c - a), (List.take_append_drop _ _).symm, by simp; omega⟩
  obtain ⟨C, E, rfl, hC⟩ : ∃ C E, L2 = C ++ E ∧ C.length = mid - c := ⟨L2.take (mid - c), L2.drop (mid - c), (List.take_append_drop _ _).symm, by simp; omega⟩
  simp only [List.length_append] at hm hb g1 g2
  refine ⟨A, B, C, E, rfl, rfl, by omega, ?_, ?_, ?_⟩
  · intro x hx z hz
    rcases z4l C with rfl | ⟨S, w, rfl⟩
    · cases hz
    · cases B with
      | nil => cases hx
      | cons x0 B =>
        simp only [List.length_append, List.length_cons, List.length_nil] at hC hm hb g1 g2 hA
        have hp : lt w x0 = true := by
          rcases h6 with h6 | h6
          · omega
          · rw [g1 c (by omega) (by omega), g2 (mid + m - 1 - c) (by omega) (by omega)] at h6
            have e : S ++ [w] ++ E = S ++ w :: E := by simp
            rw [e, z5b (by omega), z5b (by omega)] at h6
            simpa using h6
        have hz1 : lt w z = false := by
          rcases List.mem_append.1 hz with h | h
          · exact hS2.parts.1.parts.2.2 z h w (by simp)
          · simp at h; rw [h]; exact hs.irr _
        have hx1 : lt x x0 = false := by
          rcases List.mem_cons.1 hx with h | h
          · rw [h]; exact hs.irr _
          · exact (List.pairwise_cons.1 hS1.parts.2.1).1 x h
        exact z80 hs hz1 hp hx1
  · intro x hx z hz
    rcases z4l A with rfl | ⟨S, w, rfl⟩
    · cases hx
    · cases E with
      | nil => cases hz
      | cons e0 E =>
        simp only [List.length_append, List.length_cons, List.length_nil] at hC hm hb g1 g2 hA
        have hp : lt e0 w = false := by
          rcases h5 with h5 | h5
          · omega
          · have e1 : mid + m - 1 - (c - 1) = mid + m - c := by omega
            rw [e1, g1 (c - 1) (by omega) (by omega), g2 (mid + m - c) (by omega) (by omega)] at h5
            have e : S ++ [w] ++ B = S ++ w :: B := by simp
            rw [e, z5b (by omega), z5b (by omega)] at h5
            simpa using h5
        have hz1 : lt z e0 = false := by
          rcases List.mem_cons.1 hz with h | h
          · rw [h]; exact hs.irr _
          · exact (List.pairwise_cons.1 hS2.parts.2.1).1 z h
        have hx1 : lt w x = false := by
          rcases List.mem_append.1 hx with h | h
          · exact hS1.parts.1.parts.2.2 x h w (by simp)
          · simp at h; rw [h]; exact hs.irr _
        exact zcd hs hz1 hp hx1
  · rw [h7]
    congr 1
    omega
/-- Merging two sorted lists in place. -/
theorem z9y (hs : Swo lt) (hy : Cmp D y lt) : ∀ (φ : Nat) (P L1 L2 Q : List z3), (∀ z ∈ L1, D z) → (∀ z ∈ L2, D z) → Srt lt L1 → Srt lt L2 → L1 ≠ [] → L2 ≠ [] →
    P.length + L1.length + L2.length + Q.length ≤ 999998 → P.length + L1.length + L2.length + (L1.length + L2.length) + 3 < φ →
    ∃ R, Srt lt R ∧ Stb lt (L1 ++ L2) R ∧ z7 φ (P ++ L1 ++ L2 ++ Q) (P.length : Int) ((P.length : Int) + L1.length) ((P.length : Int) + L1.length + L2.length) y = some (P ++ R ++ Q) := by
  intro φ
  induction φ with
  | zero => intro P L1 L2 Q _ _ _ _ _ _ _ h; omega
  | succ φ ih =>
    intro P L1 L2 Q hD1 hD2 hS1 hS2 hn1 hn2 hl hφ
    have hp1 := List.length_pos_iff.2 hn1
    have hp2 := List.length_pos_iff.2 hn2
    rw [z7]
    have w1 : W ((P.length : Int) + L1.length - P.length) = (L1.length : Int) := by rw [W_id (by omega) (by omega)]; omega
    have w2 : W ((P.length : Int) + L1.length + L2.length - ((P.length : Int) + L1.length)) = (L2.length : Int) := by rw [W_id (by omega) (by omega)]; omega
    rw [w1, w2]
    by_cases q1 : L1.length = 1
    · rw [if_pos (by simp [q1])]
      match L1, q1 with
      | [x], _ =>
        obtain ⟨R, r1, r2, r3⟩ := zbq hs hy φ P L2 Q x (hD1 x (by simp)) hD2 hS2 (by simp at hl; omega) (by simp at hφ; omega)
        refine ⟨R, r1, r2, ?_⟩
        rw [← r3]
        simp
    · rw [if_neg (by simp; omega)]
      by_cases q2 : L2.length = 1
      · rw [if_pos (by simp [q2])]
        match L2, q2 with
        | [x], _ =>
          obtain ⟨R, r1, r2, r3⟩ := zbz hs hy φ P L1 Q x (hD2 x (by simp)) hD1 hS1 (by simp at hl; omega) (by simp at hφ; omega)
          refine ⟨R, r1, r2, ?_⟩
          rw [← r3]
          simp
      · rw [if_neg (by simp; omega)]
        obtain ⟨a, ha⟩ : ∃ a, a = P.length := ⟨_, rfl⟩
        obtain ⟨m, hm⟩ : ∃ m, m = a + L1.length := ⟨_, rfl⟩
        obtain ⟨b, hb⟩ : ∃ b, b = m + L2.length := ⟨_, rfl⟩
        obtain ⟨mid, hmid⟩ : ∃ mid, mid = (a + b) / 2 := ⟨_, rfl⟩
        have ea : (P.length : Int) = (a : Int) := by omega
        have em : (P.length : Int) + L1.length = (m : Int) := by omega
        have eb : (P.length : Int) + L1.length + L2.length = (b : Int) := by omega
        rw [eb, em, ea]
        have hW : W ((U (W ((a : Int) + b))).fdiv 2) = (mid : Int) := by rw [zc0 (by omega) (by omega)]; omega
        have hn : W ((mid : Int) + m) = ((mid + m : Nat) : Int) := by rw [W_id (by omega) (by omega)]; simp
        rw [hW, hn]
        have key : ∃ s0 r0 : Nat, ((mid < m ∧ s0 = mid + m - b ∧ r0 = mid) ∨ (m ≤ mid ∧ s0 = a ∧ r0 = m)) ∧
            (if decide ((mid : Int) < m) = true then z01 φ (P ++ L1 ++ L2 ++ Q) (a : Int) (m : Int) (b : Int) y (z7 φ) (W (((mid + m : Nat) : Int) - b)) (mid : Int)
              else z01 φ (P ++ L1 ++ L2 ++ Q) (a : Int) (m : Int) (b : Int) y (z7 φ) (a : Int) (m : Int)) =
            z01 φ (P ++ L1 ++ L2 ++ Q) (a : Int) (m : Int) (b : Int) y (z7 φ) (s0 : Int) (r0 : Int) := by
          by_cases q : mid < m
          · refine ⟨mid + m - b, mid, .inl ⟨q, rfl, rfl⟩, ?_⟩
            have : W (((mid + m : Nat) : Int) - b) = ((mid + m - b : Nat) : Int) := by rw [W_id (by omega) (by omega)]; omega
            rw [if_pos (by simp; omega), this]
          · refine ⟨a, m, .inr ⟨by omega, rfl, rfl⟩, ?_⟩
            rw [if_neg (by simp; omega)]
        obtain ⟨s0, r0, hk, e⟩ := key
        rw [e]
        unfold z01
        obtain ⟨A, B, C, E, rfl, rfl, hc, hA, hB, hL⟩ := zer hs hy φ P L1 L2 Q (zz φ (P ++ L1 ++ L2 ++ Q) (a : Int) (m : Int) (b : Int) y (z7 φ)) hD1 hD2 hS1 hS2 a m b mid s0 r0 ha hm hb hmid (by omega) (by omega) (by omega) (by omega) hk
        rw [hL]
        simp only [List.length_append] at hm hb hl hφ hp1 hp2 q1 q2
        have hcm : mid = a + A.length + C.length := by omega
        have hend : W (((mid + m : Nat) : Int) - ((a + A.length : Nat) : Int)) = ((m + C.length : Nat) : Int) := by rw [W_id (by omega) (by omega)]; omega
        have step1 : zz φ (P ++ (A ++ B) ++ (C ++ E) ++ Q) (a : Int) (m : Int) (b : Int) y (z7 φ) ((a + A.length : Nat) : Int) =
            z0f φ (a : Int) (m : Int) (b : Int) y (z7 φ) ((a + A.length : Nat) : Int) (P ++ A ++ C ++ B ++ E ++ Q) := by
          unfold zz
          rw [hW, hn, hend]
          by_cases hBC : B = [] ∨ C = []
          · rw [if_neg (by
              rcases hBC with rfl | rfl
              · simp at hm ⊢; omega
              · simp)]
            rcases hBC with rfl | rfl <;> simp
          · obtain ⟨hB0, hC0⟩ := not_or.1 hBC
            have b0 := List.length_pos_iff.2 hB0
            have c0 := List.length_pos_iff.2 hC0
            rw [if_pos (by simp; omega)]
            have := zeh φ (P ++ A) B C (E ++ Q) y hB0 hC0 (by simp; omega) (by omega)
            have e1 : P ++ (A ++ B) ++ (C ++ E) ++ Q = P ++ A ++ B ++ C ++ (E ++ Q) := by simp
            have e2 : ((a + A.length : Nat) : Int) = ((P ++ A).length : Nat) := by simp; omega
            have e3 : (m : Int) = ((P ++ A).length : Nat) + (B.length : Int) := by simp; omega
            have e4 : ((m + C.length : Nat) : Int) = ((P ++ A).length : Nat) + (B.length : Int) + C.length := by simp; omega
            rw [e1]
            conv => lhs; rw [e4, e2]; arg 1; rw [e3]
            rw [this]
            simp [ha]
        rw [step1]
        have step2 : ∃ R1, Srt lt R1 ∧ Stb lt (A ++ C) R1 ∧ z0f φ (a : Int) (m : Int) (b : Int) y (z7 φ) ((a + A.length : Nat) : Int) (P ++ A ++ C ++ B ++ E ++ Q) =
            z0i φ (a : Int) (m : Int) (b : Int) y (z7 φ) ((a + A.length : Nat) : Int) (P ++ R1 ++ B ++ E ++ Q) := by
          unfold z0f
          rw [hW]
          by_cases hAC : A = [] ∨ C = []
          · refine ⟨A ++ C, ?_, Stb.refl _, ?_⟩
            · rcases hAC with rfl | rfl
              · simpa using hS2.parts.1
              · simpa using hS1.parts.1
            · rw [if_neg (by
                rcases hAC with rfl | rfl
                · simp
                · simp at hcm ⊢; omega)]
              simp
          · obtain ⟨hA0, hC0⟩ := not_or.1 hAC
            have a0 := List.length_pos_iff.2 hA0
            have c0 := List.length_pos_iff.2 hC0
            obtain ⟨R1, r1, r2, r3⟩ := ih P A C (B ++ E ++ Q) (fun z hz => hD1 z (by simp [hz])) (fun z hz => hD2 z (by simp [hz])) hS1.parts.1 hS2.parts.1 hA0 hC0 (by simp; omega) (by omega)
            refine ⟨R1, r1, r2, ?_⟩
            rw [if_pos (by simp; omega)]
            have e1 : P ++ A ++ C ++ B ++ E ++ Q = P ++ A ++ C ++ (B ++ E ++ Q) := by simp
            have e2 : ((a + A.length : Nat) : Int) = (P.length : Int) + A.length := by simp; omega
            have e3 : (mid : Int) = (P.length : Int) + A.length + C.length := by omega
            rw [e1]
            conv => lhs; arg 1; rw [e3, e2, ← ea]
            rw [r3]
            simp
        obtain ⟨R1, r1, r2, e2⟩ := step2
        rw [e2]
        have hR1 : R1.length = A.length + C.length := by rw [r2.len]; simp
        have step3 : ∃ R2, Srt lt R2 ∧ Stb lt (B ++ E) R2 ∧ z0i φ (a : Int) (m : Int) (b : Int) y (z7 φ) ((a + A.length : Nat) : Int) (P ++ R1 ++ B ++ E ++ Q) = some (P ++ (R1 ++ R2) ++ Q) := by
          unfold z0i
          rw [hW, hn, hend]
          by_cases hBE : B = [] ∨ E = []
          · refine ⟨B ++ E, ?_, Stb.refl _, ?_⟩
            · rcases hBE with rfl | rfl
              · simpa using hS2.parts.2.1
              · simpa using hS1.parts.2.1
            · rw [if_neg (by
                rcases hBE with rfl | rfl
                · simp at hm ⊢; omega
                · simp at hb ⊢; omega)]
              simp
          · obtain ⟨hB0, hE0⟩ := not_or.1 hBE
            have b0 := List.length_pos_iff.2 hB0
            have c0 := List.length_pos_iff.2 hE0
            obtain ⟨R2, p1, p2, p3⟩ := ih (P ++ R1) B E Q (fun z hz => hD1 z (by simp [hz])) (fun z hz => hD2 z (by simp [hz])) hS1.parts.2.1 hS2.parts.2.1 hB0 hE0 (by simp; omega) (by simp; omega)
            refine ⟨R2, p1, p2, ?_⟩
            rw [if_pos (by simp; omega)]
            have e1 : (mid : Int) = ((P ++ R1).length : Nat) := by simp; omega
            have e3 : ((m + C.length : Nat) : Int) = ((P ++ R1).length : Nat) + (B.length : Int) := by simp; omega
            have e4 : (b : Int) = ((P ++ R1).length : Nat) + (B.length : Int) + E.length := by simp; omega
            conv => lhs; arg 1; rw [e4, e3, e1]
            rw [p3]
            simp
        obtain ⟨R2, p1, p2, e3⟩ := step3
        rw [e3]
        have hm' := z78 hs hS1 hS2 hA hB r1 r2 p1 p2
        exact ⟨R1 ++ R2, hm'.1, hm'.2, rfl⟩
end
end Px
end
section
namespace Px
open Go
set_option linter.unusedVariables false
set_option linter.unusedSimpArgs false
set_option maxHeartbeats 1000000
section
variable {D : z3 → Prop} {lt : z3 → z3 → Bool} {y : z3 → z3 → Option Int}
theorem zed (hy : Cmp D y lt) (φ : Nat) (k : List z3 → Option (List z3)) (P : List z3) (x : z3) (hx : D x) : ∀ (n : Nat) (S1 S2 : List z3), (∀ z ∈ S1, D z) → P.length + S1.length + S2.length ≤ 1000000 → S1.length < n →
    ∃ A B, S1 = A ++ B ∧ (∀ z ∈ B, lt x z = true) ∧ (A = [] ∨ ∃ A' z, A = A' ++ [z] ∧ lt x z = false) ∧
      zw φ (P.length : Int) y k n ((P.length : Int) + S1.length) (P ++ S1 ++ x :: S2) = k (P ++ A ++ x :: (B ++ S2)) := by
  intro n
  induction n with
  | zero => intro S1 S2 _ _ h; omega
  | succ n ih =>
    intro S1 S2 hD hl hn
    rcases List.eq_nil_or_concat S1 with rfl | ⟨S, z, rfl⟩
    · refine ⟨[], [], rfl, by simp, .inl rfl, ?_⟩
      have h0 : decide ((P.length : Int) < (P.length : Int) + (([] : List z3).length : Int)) = false := by simp
      rw [zw, h0]
      simp [ck, z57]
    · simp only [List.concat_eq_append] at hD hl hn ⊢
      simp only [List.length_append, List.length_cons, List.length_nil] at hl hn
      have e1 : P ++ (S ++ [z]) ++ x :: S2 = (P ++ S ++ [z]) ++ x :: S2 := by simp
      have e2 : P ++ (S ++ [z]) ++ x :: S2 = (P ++ S) ++ z :: (x :: S2) := by simp
      have g1 : gt (P ++ (S ++ [z]) ++ x :: S2) ((P.length : Int) + ((S ++ [z]).length : Int)) = x := by
        rw [e1]; exact z5b (by simp <;> omega)
      have hw : W ((P.length : Int) + ((S ++ [z]).length : Int) - 1) = (P.length : Int) + S.length := by
        rw [W_id (by simp; omega) (by simp; omega)]; simp; omega
      have g2 : gt (P ++ (S ++ [z]) ++ x :: S2) ((P.length : Int) + (S.length : Int)) = z := by
        rw [e2]; exact z5b (by simp)
      have h0 : decide ((P.length : Int) < (P.length : Int) + ((S ++ [z]).length : Int)) = true := by simp; omega
      have hlen : ((P ++ (S ++ [z]) ++ x :: S2).length : Int) = P.length + S.length + 1 + 1 + S2.length := by simp; omega
      obtain ⟨w, hw1, hw2⟩ := hy x z hx (hD z (by simp))
      have s1 : z1t (P ++ (S ++ [z]) ++ x :: S2) ((P.length : Int) + ((S ++ [z]).length : Int)) z = (P ++ S) ++ z :: (z :: S2) := by
        rw [e1, z7e (by simp <;> omega)]; simp
      have s2 : z1t ((P ++ S) ++ z :: (z :: S2)) ((P.length : Int) + (S.length : Int)) x = P ++ S ++ x :: (z :: S2) := z7e (by simp)
      rw [zw, hw, h0, g1, g2, hw1, hlen]
      rw [zm (fun _ => ⟨by omega, by simp; omega⟩), zm (fun _ => ⟨by omega, by omega⟩), zdi rfl]
      simp only [Option.bind_some, hw2, Bool.true_and]
      cases hlt : lt x z with
      | true =>
        rw [if_pos rfl, zm ⟨by omega, by omega⟩, zm ⟨by omega, by simp; omega⟩, s1]
        rw [zm ⟨by omega, by simp; omega⟩, s2]
        obtain ⟨A, B, q1, q2, q3, q4⟩ := ih S (z :: S2) (fun u hu => hD u (by simp [hu])) (by simp; omega) (by omega)
        refine ⟨A, B ++ [z], by rw [q1]; simp, ?_, q3, ?_⟩
        · intro u hu
          rcases List.mem_append.1 hu with h | h
          · exact q2 u h
          · simp at h; rw [h]; exact hlt
        · rw [q4]; simp
      | false =>
        rw [if_neg (by simp)]
        exact ⟨S ++ [z], [], by simp, by simp, .inr ⟨S, z, rfl, hlt⟩, by simp⟩
theorem zdh (hs : Swo lt) (hy : Cmp D y lt) (φ : Nat) (P Q : List z3) : ∀ (n : Nat) (S R : List z3), S ≠ [] → Srt lt S → (∀ z ∈ S, D z) → (∀ z ∈ R, D z) → P.length + S.length + R.length + Q.length ≤ 1000000 → P.length + S.length + R.length < φ → R.length < n →
    ∃ S', Srt lt S' ∧ Stb lt (S ++ R) S' ∧ zc φ (P.length : Int) ((P.length : Int) + S.length + R.length) y n ((P.length : Int) + S.length) (P ++ S ++ R ++ Q) = some (P ++ S' ++ Q) := by
  intro n
  induction n with
  | zero => intro S R _ _ _ _ _ _ h; omega
  | succ n ih =>
    intro S R hne hS hD hD' hl hφ hn
    cases R with
    | nil =>
      refine ⟨S, hS, by simpa using Stb.refl S, ?_⟩
      rw [zc, if_neg (by simp)]
      simp
    | cons x R =>
      simp only [List.length_cons] at hl hφ hn
      rw [zc, if_pos (by simp; omega)]
      obtain ⟨A, B, q1, q2, q3, q4⟩ := zed hy φ (zx φ ((P.length : Int) + S.length) (zc φ (P.length : Int) ((P.length : Int) + S.length + (x :: R).length) y n)) P x (hD' x (by simp)) φ S (R ++ Q) hD (by simp; omega) (by omega)
      rw [show P ++ S ++ x :: R ++ Q = P ++ S ++ x :: (R ++ Q) by simp, q4]
      have hA : ∀ u ∈ A, lt x u = false := by
        rcases q3 with rfl | ⟨A', z, rfl, hz⟩
        · simp
        · intro u hu
          rcases List.mem_append.1 hu with h | h
          · subst q1
            have := (hS.parts.1).parts.2.2 u h z (by simp)
            exact hs.ntr _ _ _ hz this
          · simp at h; rw [h]; exact hz
      have hS2 : Srt lt (A ++ x :: B) := by
        subst q1
        refine hS.parts.1.app (List.pairwise_cons.2 ⟨fun u hu => hs.asym _ _ (q2 u hu), hS.parts.2.1⟩) fun u hu v hv => ?_
        rcases List.mem_cons.1 hv with h | h
        · subst h; exact hA u hu
        · exact hS.parts.2.2 u hu v h
      obtain ⟨S', p1, p2, p3⟩ := ih (A ++ x :: B) R (by simp) hS2 (fun z hz => by
        subst q1
        simp only [List.mem_append, List.mem_cons] at hz
        rcases hz with h | h | h
        · exact hD z (by simp [h])
        · subst h; exact hD' _ (by simp)
        · exact hD z (by simp [h])) (fun z hz => hD' z (by simp [hz])) (by subst q1; simp at hl ⊢; omega) (by subst q1; simp at hφ ⊢; omega) (by omega)
      refine ⟨S', p1, ?_, ?_⟩
      · have h1 : Stb lt (S ++ [x]) (A ++ [x] ++ B) := by subst q1; exact zbe hs q2
        have := h1.app (Stb.refl R)
        refine Stb.trans ?_ (Stb.trans this ?_)
        · simpa using Stb.refl (lt := lt) (S ++ x :: R)
        · simpa using p2
      · rw [← p3]
        unfold zx
        have e1 : W ((P.length : Int) + S.length + 1) = (P.length : Int) + S.length + 1 := W_id (by omega) (by omega)
        have hSl : S.length = A.length + B.length := by rw [q1]; simp
        have e2 : (P.length : Int) + S.length + 1 = P.length + (A ++ x :: B).length := by simp; omega
        have e3 : (P.length : Int) + S.length + (x :: R).length = P.length + (A ++ x :: B).length + R.length := by simp; omega
        have e4 : P ++ A ++ x :: (B ++ (R ++ Q)) = P ++ (A ++ x :: B) ++ R ++ Q := by simp
        rw [e1, e2, e3, e4]
theorem z8g (hs : Swo lt) (hy : Cmp D y lt) (φ : Nat) (P X Q : List z3) (hD : ∀ z ∈ X, D z) (hl : P.length + X.length + Q.length ≤ 1000000) (hφ : P.length + X.length < φ) :
    ∃ X', Srt lt X' ∧ Stb lt X X' ∧ z0w φ (P ++ X ++ Q) (P.length : Int) ((P.length : Int) + X.length) y = some (P ++ X' ++ Q) := by
  unfold z0w
  rw [W_id (x := (P.length : Int) + 1) (by omega) (by omega)]
  cases X with
  | nil =>
    refine ⟨[], List.Pairwise.nil, Stb.refl _, ?_⟩
    obtain ⟨n, rfl⟩ : ∃ n, φ = n + 1 := ⟨φ - 1, by omega⟩
    rw [zc, if_neg (by simp; omega)]
  | cons x R =>
    simp only [List.length_cons] at hl hφ
    obtain ⟨S', p1, p2, p3⟩ := zdh hs hy φ P Q φ [x] R (by simp) (List.pairwise_singleton _ _) (fun z hz => hD z (by simp at hz; simp [hz])) (fun z hz => hD z (by simp [hz])) (by simp; omega) (by simp; omega) (by omega)
    refine ⟨S', p1, by simpa using p2, ?_⟩
    rw [← p3]
    simp only [List.append_assoc, List.cons_append, List.length_cons, List.length_nil, List.nil_append]
    congr 1
    simp; omega
end
end Px
end
section
namespace Px
open Go
set_option linter.unusedVariables false
set_option linter.unusedSimpArgs false
set_option maxHeartbeats 4000000
section
variable {D : z3 → Prop} {lt : z3 → z3 → Bool} {y : z3 → z3 → Option Int}
theorem zcf (hs : Swo lt) (hy : Cmp D y lt) (φ N : Nat) (k : Int → List z3 → Option (List z3)) (hN : N ≤ 900000) (hφ : N < φ) :
    ∀ (n : Nat) (X Y : List z3), (∀ z ∈ Y, D z) → X.length + Y.length = N → Y.length < n →
    ∃ Y1 Y2 Y1', Y = Y1 ++ Y2 ∧ Runs lt 20 (Y1' ++ []) ∧ Y2.length < 20 ∧ Stb lt Y1 Y1' ∧ (∀ T, Runs lt 20 T → Runs lt 20 (Y1' ++ T)) ∧
      z0t φ (N : Int) y k n (X.length : Int) ((X.length : Int) + 20) (X ++ Y) = k ((X.length : Int) + Y1.length) (X ++ Y1' ++ Y2) := by
  intro n
  induction n with
  | zero => intro X Y _ _ h; omega
  | succ n ih =>
    intro X Y hD hl hn
    rw [z0t]
    by_cases h : Y.length < 20
    · refine ⟨[], Y, [], rfl, .last (by simp) List.Pairwise.nil, h, Stb.refl _, fun T hT => hT, ?_⟩
      rw [if_neg (by simp; omega)]
      simp
    · obtain ⟨B, Z, rfl, hB⟩ : ∃ B Z, Y = B ++ Z ∧ B.length = 20 := ⟨Y.take 20, Y.drop 20, (List.take_append_drop _ _).symm, by simp; omega⟩
      simp only [List.length_append] at hl hn h
      rw [if_pos (by simp; omega)]
      obtain ⟨B', b1, b2, b3⟩ := z8g hs hy φ X B Z (fun z hz => hD z (by simp [hz])) (by omega) (by omega)
      rw [hB] at b3
      have e1 : X ++ (B ++ Z) = X ++ B ++ Z := by simp
      have e2 : ((20 : Nat) : Int) = 20 := rfl
      rw [e2] at b3
      rw [e1, b3]
      simp only [Option.bind_some]
      have hB' : B'.length = 20 := by rw [b2.len, hB]
      have w1 : W ((X.length : Int) + 20 + 20) = (X.length : Int) + 20 + 20 := W_id (by omega) (by omega)
      have e3 : (X.length : Int) + 20 = ((X ++ B').length : Nat) := by simp [hB']
      rw [w1]
      obtain ⟨Y1, Y2, Y1', q1, q2, q3, q4, q5, q6⟩ := ih (X ++ B') Z (fun z hz => hD z (by simp [hz])) (by simp; omega) (by omega)
      rw [← e3] at q6
      refine ⟨B ++ Y1, Y2, B' ++ Y1', by rw [q1]; simp, ?_, q3, b2.app q4, fun T hT => ?_, ?_⟩
      · rw [List.append_assoc]; exact .cons hB' b1 q2
      · rw [List.append_assoc]; exact .cons hB' b1 (q5 T hT)
      · rw [q6]
        have e4 : (X.length : Int) + 20 + Y1.length = (X.length : Int) + ((B ++ Y1).length : Nat) := by simp; omega
        rw [e4]
        simp
theorem zg6 (hs : Swo lt) (hy : Cmp D y lt) (φ N bs : Nat) (k : Int → List z3 → Option (List z3)) (hN : N ≤ 900000) (hφ : 2 * N + 3 < φ) (hb0 : 0 < bs) (hb : bs ≤ 900000) :
    ∀ (n : Nat) (X Y : List z3), (∀ z ∈ Y, D z) → Runs lt bs Y → X.length + Y.length = N → Y.length < n →
    ∃ Y', Runs lt (bs * 2) Y' ∧ Stb lt Y Y' ∧ z1d φ (N : Int) y (bs : Int) (z0s φ (N : Int) y (bs : Int) k) n (X.length : Int) ((X.length : Int) + 2 * bs) (X ++ Y) = k ((bs * 2 : Nat) : Int) (X ++ Y') := by
  intro n
  induction n with
  | zero => intro X Y _ _ _ h; omega
  | succ n ih =>
    intro X Y hD hR hl hn
    have w1 : W ((X.length : Int) + bs) = (X.length : Int) + bs := W_id (by omega) (by omega)
    have w2 : W ((bs : Int) * 2) = ((bs * 2 : Nat) : Int) := by rw [W_id (by omega) (by omega)]; simp
    have w3 : W (2 * (bs : Int)) = 2 * (bs : Int) := W_id (by omega) (by omega)
    have w4 : W ((X.length : Int) + 2 * bs + 2 * bs) = (X.length : Int) + 2 * bs + 2 * bs := W_id (by omega) (by omega)
    rw [z1d, w1, w3, w4]
    by_cases h : 2 * bs ≤ Y.length
    · rw [if_pos (by simp; omega)]
      obtain ⟨B1, r, rfl, h1, s1, hr, hne⟩ := hR.big (by omega)
      simp only [List.length_append] at hl hn h
      obtain ⟨B2, Z, rfl, h2, s2, hZ⟩ : ∃ B2 Z, r = B2 ++ Z ∧ B2.length = bs ∧ Srt lt B2 ∧ Runs lt bs Z := by
        by_cases q : r.length = bs
        · exact ⟨r, [], by simp, q, hr.small (by omega), .last (by simp) List.Pairwise.nil⟩
        · obtain ⟨b, r', e, q1, q2, q3, _⟩ := hr.big (by omega)
          exact ⟨b, r', e, q1, q2, q3⟩
      simp only [List.length_append] at hl hn h
      obtain ⟨R, r1, r2, r3⟩ := z9y hs hy φ X B1 B2 Z (fun z hz => hD z (by simp [hz])) (fun z hz => hD z (by simp [hz])) s1 s2 (by intro e; subst e; simp at h1; omega) (by intro e; subst e; simp at h2; omega) (by omega) (by omega)
      have hRl : R.length = 2 * bs := by rw [r2.len]; simp; omega
      have e1 : X ++ (B1 ++ (B2 ++ Z)) = X ++ B1 ++ B2 ++ Z := by simp
      have e2 : (X.length : Int) + bs = (X.length : Int) + B1.length := by omega
      have e3 : (X.length : Int) + 2 * bs = (X.length : Int) + B1.length + B2.length := by omega
      have e4 : (X.length : Int) + 2 * bs = ((X ++ R).length : Nat) := by simp; omega
      obtain ⟨Y', p1, p2, p3⟩ := ih (X ++ R) Z (fun z hz => hD z (by simp [hz])) hZ (by simp; omega) (by omega)
      refine ⟨R ++ Y', .cons (by omega) r1 p1, ?_, ?_⟩
      · have := r2.app p2
        simpa using this
      · rw [e1]
        conv => lhs; arg 1; rw [e2, e3]
        rw [r3]
        simp only [Option.bind_some]
        rw [e4, p3]
        simp
    · rw [if_neg (by simp; omega)]
      unfold z0s z26
      rw [w1, w2]
      by_cases q : bs < Y.length
      · rw [if_pos (by simp; omega)]
        obtain ⟨B1, B2, rfl, h1, s1, hr, hne⟩ := hR.big q
        simp only [List.length_append] at hl hn h
        obtain ⟨R, r1, r2, r3⟩ := z9y hs hy φ X B1 B2 [] (fun z hz => hD z (by simp [hz])) (fun z hz => hD z (by simp [hz])) s1 (hr.small (by omega)) (by intro e; subst e; simp at h1; omega) hne (by simp; omega) (by omega)
        have e1 : X ++ (B1 ++ B2) = X ++ B1 ++ B2 ++ [] := by simp
        have e2 : (X.length : Int) + bs = (X.length : Int) + B1.length := by omega
        have e3 : (N : Int) = (X.length : Int) + B1.length + B2.length := by omega
        refine ⟨R, .last (by rw [r2.len]; simp; omega) r1, r2, ?_⟩
        rw [e1, e2, e3, r3]
        simp
      · rw [if_neg (by simp; omega)]
        exact ⟨Y, .last (by omega) (hR.small (by omega)), Stb.refl _, rfl⟩
theorem zef (hs : Swo lt) (hy : Cmp D y lt) (φ N : Nat) (hN : N ≤ 400000) (hφ : 2 * N + 3 < φ) :
    ∀ (n bs : Nat) (Y : List z3), (∀ z ∈ Y, D z) → Runs lt bs Y → Y.length = N → 0 < bs → bs ≤ 900000 → N - bs < n →
    ∃ Y', Srt lt Y' ∧ Stb lt Y Y' ∧ ze φ (N : Int) y n (bs : Int) Y = some Y' := by
  intro n
  induction n with
  | zero => intro bs Y _ _ _ _ _ h; omega
  | succ n ih =>
    intro bs Y hD hR hl hb0 hb hn
    rw [ze]
    by_cases h : bs < N
    · rw [if_pos (by simp; omega), W_id (x := 2 * (bs : Int)) (by omega) (by omega)]
      obtain ⟨Y', p1, p2, p3⟩ := zg6 hs hy φ N bs (ze φ (N : Int) y n) (by omega) hφ hb0 hb φ [] Y hD hR (by simpa using hl) (by omega)
      obtain ⟨Y'', q1, q2, q3⟩ := ih (bs * 2) Y' (fun z hz => hD z (p2.mem.1 hz)) p1 (by rw [p2.len, hl]) (by omega) (by omega) (by omega)
      refine ⟨Y'', q1, p2.trans q2, ?_⟩
      rw [← q3]
      simpa using p3
    · rw [if_neg (by simp; omega)]
      exact ⟨Y, hR.small (by omega), Stb.refl _, rfl⟩
/-- The stable sort sorts, and keeps the order of equal elements. -/
theorem zbn (hs : Swo lt) (hy : Cmp D y lt) (φ : Nat) (v : List z3) (hD : ∀ z ∈ v, D z) (hN : v.length ≤ 400000) (hφ : 2 * v.length + 3 < φ) :
    ∃ r, Srt lt r ∧ Stb lt v r ∧ z31 φ v y = some r := by
  unfold z31 z49
  obtain ⟨Y1, Y2, Y1', q1, q2, q3, q4, q5, q6⟩ := zcf hs hy φ v.length (z00 φ (v.length : Int) y) (by omega) (by omega) φ [] v hD (by simp) (by omega)
  have q6' : z0t φ (v.length : Int) y (z00 φ (v.length : Int) y) φ 0 20 v = z00 φ (v.length : Int) y (Y1.length : Int) (Y1' ++ Y2) := by simpa using q6
  rw [q6']
  unfold z00
  have hl : v.length = Y1.length + Y2.length := by rw [q1]; simp
  have hl1 : Y1'.length = Y1.length := q4.len
  obtain ⟨Y2', p1, p2, p3⟩ := z8g hs hy φ Y1' Y2 [] (fun z hz => hD z (by rw [q1]; simp [hz])) (by simp; omega) (by omega)
  simp only [List.append_nil] at p3
  have e1 : (Y1.length : Int) = Y1'.length := by omega
  have e2 : (v.length : Int) = (Y1'.length : Int) + Y2.length := by omega
  have p3' : z0w φ (Y1' ++ Y2) (Y1.length : Int) (v.length : Int) y = some (Y1' ++ Y2') := by rw [e1, e2]; exact p3
  have hst : Stb lt v (Y1' ++ Y2') := by rw [q1]; exact q4.app p2
  obtain ⟨r, r1, r2, r3⟩ := zef hs hy φ v.length hN hφ φ 20 (Y1' ++ Y2') (fun z hz => hD z (hst.mem.1 hz)) (q5 _ (.last (by rw [p2.len]; omega) p1)) hst.len (by omega) (by omega) (by omega)
  refine ⟨r, r1, hst.trans r2, ?_⟩
  rw [p3']
  simp only [Option.bind_some]
  have r3' : ze φ (v.length : Int) y φ 20 (Y1' ++ Y2') = some r := r3
  rw [r3']
  rfl
end
end Px
end
section
namespace Px
open Go
set_option linter.unusedVariables false
set_option linter.unusedSimpArgs false
/-- What is known of the pairs: each is a delivery and a receipt that fit; no receipt, no delivery twice; used tells the receipts. -/
structure PInv (p : Pool) (l : List zb) (rs done : List Int) (st : List (Int × Bool) × List (Nat → Int)) : Prop where
  pr : ∀ x ∈ st.2, ∃ d k, x = ofL [d, k] ∧ d ∈ done ∧ k ∈ rs ∧ zb3 p (gt l d) = true ∧ unfit l [] d k = false
  used : ∀ k, (mget st.1 k).getD false = true ↔ ∃ x ∈ st.2, x 1 = k
  nd : (st.2.map fun x => x 1).Nodup
  sub : (st.2.map fun x => x 0).Sublist done
theorem zde {κ ν : Type} [BEq κ] [LawfulBEq κ] (m : List (κ × ν)) (k j : κ) (v : ν) : mget (mset m k v) j = if j == k then some v else mget m j := by
  induction m with
  | nil => simp [mset, mget]
  | cons a m ih =>
    obtain ⟨a, b⟩ := a
    simp only [mset]
    cases h : (k == a) with
    | true =>
      have := eq_of_beq h; subst this
      simp only [cond_true, mget]
      cases j == k <;> simp
    | false =>
      simp only [cond_false, mget, ih]
      cases h2 : (j == a) with
      | false => simp
      | true =>
        have := eq_of_beq h2; subst this
        have : (j == k) = false := by
          cases e : (j == k) with
          | false => rfl
          | true => rw [eq_of_beq e] at h; simp at h
        simp [this]
theorem znb {l : List zb} {used : List (Int × Bool)} {i k : Int} (h : unfit l used i k = false) : unfit l [] i k = false ∧ (mget used k).getD false = false := by
  simp only [unfit, unf5, zcp] at h ⊢
  exact ⟨⟨⟨⟨⟨⟨rfl, h.1.1.1.1.2⟩, h.1.1.1.2⟩, h.1.1.2⟩, h.1.2⟩, h.2⟩, h.1.1.1.1.1⟩
theorem z9p (l : List zb) (used : List (Int × Bool)) (i : Int) : ∀ (rs : List Int) (b : Int), (0 ≤ rs.foldl (z87 l used i) b) → (rs.foldl (z87 l used i) b = b ∨ rs.foldl (z87 l used i) b ∈ rs ∧ unfit l used i (rs.foldl (z87 l used i) b) = false) := by
  intro rs
  induction rs with
  | nil => intro b _; exact .inl rfl
  | cons k rs ih =>
    intro b h
    simp only [List.foldl_cons] at h ⊢
    rcases ih _ h with e | ⟨e1, e2⟩
    · rw [e]
      unfold z87
      split
      · exact .inl rfl
      · rename_i hu
        split
        · exact .inl rfl
        · exact .inr ⟨List.mem_cons_self, by simpa using hu⟩
    · exact .inr ⟨List.mem_cons_of_mem _ e1, e2⟩
theorem znq {p : Pool} {l : List zb} {rs done : List Int} {st : List (Int × Bool) × List (Nat → Int)} (h : PInv p l rs done st) (d : Int) : PInv p l rs (done ++ [d]) (zbo p l rs st d) := by
  have keep : PInv p l rs (done ++ [d]) st := ⟨fun x hx => by
      obtain ⟨a, k, h1, h2, h3⟩ := h.pr x hx
      exact ⟨a, k, h1, by simp [h2], h3⟩, h.used, h.nd, h.sub.trans (List.sublist_append_left _ _)⟩
  unfold zbo
  split
  · exact keep
  · rename_i hp
    split
    · rename_i hb
      rcases z9p l st.1 d rs (-1) hb with e | ⟨e1, e2⟩
      · have : z58 l st.1 d rs = -1 := e
        omega
      · have hm : z58 l st.1 d rs ∈ rs := e1
        obtain ⟨u1, u2⟩ := znb (show unfit l st.1 d (z58 l st.1 d rs) = false from e2)
        generalize z58 l st.1 d rs = b at *
        refine ⟨fun x hx => ?_, fun k => ?_, ?_, ?_⟩
        · rcases List.mem_append.1 hx with hx | hx
          · exact keep.pr x hx
          · simp at hx; subst hx
            exact ⟨d, b, rfl, by simp, hm, by simpa using hp, u1⟩
        · simp only [zde]
          by_cases q : k = b
          · subst q; simp; right; rfl
          · rw [if_neg (by simp [q]), h.used k]
            constructor
            · rintro ⟨x, hx, e⟩; exact ⟨x, by simp [hx], e⟩
            · rintro ⟨x, hx, e⟩
              rcases List.mem_append.1 hx with hx | hx
              · exact ⟨x, hx, e⟩
              · simp at hx; subst hx; exact absurd e.symm q
        · simp only [List.map_append, List.map_cons, List.map_nil]
          rw [List.nodup_append]
          refine ⟨h.nd, by simp, fun a ha c hc => ?_⟩
          simp at hc
          obtain ⟨x, hx, e⟩ := List.mem_map.1 ha
          intro e'
          have : (mget st.1 b).getD false = true := (h.used b).2 ⟨x, hx, by rw [e, e', hc]; rfl⟩
          rw [u2] at this; cases this
        · simp only [List.map_append, List.map_cons, List.map_nil]
          exact h.sub.append (List.Sublist.refl _)
    · exact keep
theorem zio {p : Pool} {l : List zb} {rs : List Int} : ∀ (ds done : List Int) (st : List (Int × Bool) × List (Nat → Int)), PInv p l rs done st → PInv p l rs (done ++ ds) (ds.foldl (zbo p l rs) st)
  | [], done, st, h => by simpa using h
  | d :: ds, done, st, h => by
    have := zio ds (done ++ [d]) _ (znq h d)
    simpa using this
theorem pinv (p : Pool) (l : List zb) (rs ds : List Int) : PInv p l rs ds (ds.foldl (zbo p l rs) ([], [])) := by
  have := zio (p := p) (l := l) (rs := rs) ds [] ([], []) ⟨by simp, by simp [mget], by simp, by simp⟩
  simpa using this
end Px
end
section
namespace Px
open Go
set_option linter.unusedVariables false
set_option linter.unusedSimpArgs false
def mkH (l : List zb) (x : Nat → Int) : z3 :=
  z3.mk (gt l (x 0)).fItem.fWagon (gt l (x 0)).fItem.fPlace (gt l (x 0)).fRef.fRailway (gt l (x 1)).fRef.fRailway (W ((W (((gt l (x 0)).fItem.fFrom) + ((gt l (x 1)).fItem.fFrom))).tdiv 2)) (max2 ((gt l (x 0)).fItem.fCode) ((gt l (x 1)).fItem.fCode)) (gt l (x 0)).fRef (gt l (x 1)).fRef
theorem zlc (φ : Nat) (l : List zb) (ps : List (Nat → Int)) (hl : ps.length ≤ 100000) (hp : ∀ x ∈ ps, (0 ≤ x 0 ∧ x 0 < (l.length : Int)) ∧ 0 ≤ x 1 ∧ x 1 < (l.length : Int)) (hφ : ps.length < φ) (k : List z3 → Option (List z3)) :
    z2x φ l ps k φ 0 [] = k (ps.map (mkH l)) := by
  refine z51 (z2x φ l ps k) ps.length (fun j s => s = (ps.take j).map (mkH l)) (fun o => o = k (ps.map (mkH l))) ?_ ?_ φ [] (by simp) hφ
  · intro n j s hj hs hk
    obtain ⟨h0, h1⟩ := hp _ (z8e (l := ps) (i := (j : Int)) (by omega) (by omega))
    have hsl : s.length ≤ j := by rw [hs]; simp; omega
    have w : W ((j : Int) + 1) = (j : Int) + 1 := W_id (by omega) (by omega)
    rw [z2x, if_pos (by simp; omega), zm ⟨by omega, by omega⟩, zm h0, zm h1]
    unfold z6q
    rw [zm (z6z (by simp; omega) (by omega)), w]
    refine hk _ ?_
    rw [z7s ps j hj, List.map_append, ← hs]
    rfl
  · intro n s hs
    rw [List.take_length] at hs
    rw [z2x, if_neg (by simp), hs]
theorem ziz {p : Pool} {l : List zb} {rs ds : List Int} (hr : ∀ z ∈ rs, 0 ≤ z ∧ z < (l.length : Int)) (hd : ∀ z ∈ ds, 0 ≤ z ∧ z < (l.length : Int)) :
    ∀ x ∈ zc2 p l rs ds, (0 ≤ x 0 ∧ x 0 < (l.length : Int)) ∧ 0 ≤ x 1 ∧ x 1 < (l.length : Int) := by
  intro x hx
  obtain ⟨d, k, rfl, h1, h2, _⟩ := (pinv p l rs ds).pr x hx
  exact ⟨hd d h1, hr k h2⟩
theorem zlo (p : Pool) (l : List zb) (rs ds : List Int) : (zc2 p l rs ds).length ≤ ds.length := by
  have := (pinv p l rs ds).sub.length_le
  simpa [zc2] using this
end Px
end
section
namespace Px
open Go
set_option linter.unusedVariables false
set_option linter.unusedSimpArgs false
def zli (a : List zi) : zi := gt a ((a.length : Int) - 1)
def z5a (w : Int) (a : List zi) (h : z3) : List zi :=
  if (((h.fWagon == w) && (h.fFrom == (zli a).fRailway)) && decide ((zli a).fSpan.fFrom < h.fAt)) = true then a ++ [zi.mk h.fTo (Span.mk h.fAt 0) h.fReceive] else a
def zjd (p : Pool) (w : Int) : zi := zi.mk (gt p.fNetwork.fPlaces ((gt p.fFleet.fWagons w).fHome)).fRailway (Span.mk 0 0) (Ref.mk 0 0)
def zdo (c : zi) (w : Int) (ms : List z3) : List zi := ms.foldl (z5a w) [c]
theorem zd2 (w : Int) (a : List zi) (h : z3) : a.length ≤ (z5a w a h).length ∧ (z5a w a h).length ≤ a.length + 1 := by
  unfold z5a; split <;> simp
theorem zlf (φ : Nat) (w : Int) (ms : List z3) (c : zi) (hl : ms.length ≤ 100000) (hφ : ms.length < φ) :
    z2n φ w ms (z35 φ) φ 0 [c] = some (zdo c w ms) := by
  refine z51 (z2n φ w ms (z35 φ)) ms.length (fun j s => s = (ms.take j).foldl (z5a w) [c] ∧ 1 ≤ s.length ∧ s.length ≤ j + 1) (fun o => o = some (zdo c w ms)) ?_ ?_ φ [c] ⟨by simp, by simp, by simp⟩ hφ
  · intro n j s hj ⟨hs, h1, h2⟩ hk
    have w1 : W ((j : Int) + 1) = (j : Int) + 1 := W_id (by omega) (by omega)
    have w2 : W ((s.length : Int) - 1) = (s.length : Int) - 1 := W_id (by omega) (by omega)
    have hnext : (ms.take (j + 1)).foldl (z5a w) [c] = z5a w s (gt ms (j : Int)) := by
      rw [z7s ms j hj, List.foldl_append, ← hs]; rfl
    have hle := zd2 w s (gt ms (j : Int))
    rw [z2n, if_pos (by simp; omega), zm ⟨by omega, by omega⟩, w2, zm ⟨by omega, by omega⟩]
    have hlast : gt s ((s.length : Int) - 1) = zli s := rfl
    rw [hlast]
    unfold z5x
    rw [w1]
    split
    · rename_i h
      rw [zm (z6z (by simp; omega) (by omega))]
      refine hk _ ⟨?_, by simp, by simp; omega⟩
      rw [hnext]; unfold z5a; rw [if_pos h]
    · rename_i h
      refine hk _ ⟨?_, h1, by omega⟩
      rw [hnext]; unfold z5a; rw [if_neg h]
  · intro n s ⟨hs, _⟩
    rw [List.take_length] at hs
    rw [z2n, if_neg (by simp), hs]
    rfl
theorem zo8 (φ : Nat) (p : Pool) (l : List zb) (w : Int) (ms : List z3) (hm : z3f φ p l = some ms) (hl : ms.length ≤ 100000) (hφ : ms.length < φ)
    (hw : 0 ≤ w ∧ w < (p.fFleet.fWagons.length : Int)) (hh : 0 ≤ (gt p.fFleet.fWagons w).fHome ∧ (gt p.fFleet.fWagons w).fHome < (p.fNetwork.fPlaces.length : Int)) :
    z6s φ p l w = some (zdo (zjd p w) w ms) := by
  unfold z6s
  rw [zm hw, zm hh]
  simp only [Pool.eta', hm, Option.bind_some]
  exact zlf φ w ms _ hl hφ
/-- A chain: it begins with c, and goes on in time. -/
def Chn : List zi → Prop := List.Pairwise fun a b => a.fSpan.fFrom < b.fSpan.fFrom
theorem zir (a : List zi) (x : zi) : zli (a ++ [x]) = x := by
  unfold zli; exact z5b (by simp)
theorem zfl (w : Int) : ∀ (ms : List z3) (a : List zi) (c : zi), Chn (a ++ [c]) → Chn (ms.foldl (z5a w) (a ++ [c]))
  | [], a, c, h => h
  | m :: ms, a, c, h => by
    simp only [List.foldl_cons]
    unfold z5a
    rw [zir]
    split
    · rename_i hh
      simp only [Bool.and_eq_true, decide_eq_true_eq] at hh
      refine zfl w ms (a ++ [c]) _ ?_
      refine List.pairwise_append.2 ⟨h, List.pairwise_singleton _ _, fun x hx y hy => ?_⟩
      simp at hy; subst hy
      rcases List.mem_append.1 hx with hx | hx
      · exact Int.lt_trans ((List.pairwise_append.1 h).2.2 x hx c (by simp)) hh.2
      · simp at hx; subst hx; exact hh.2
    · exact zfl w ms a c h
theorem zl1 (φ : Nat) (p : Pool) (w m e : Int) (hc : z4c φ p = some e) :
    z7h φ p w m = some (if e ≠ 0 then e else if 0 ≤ w ∧ w < (p.fFleet.fWagons.length : Int) ∧ 0 ≤ m ∧ m ≤ 1073741824 then 0 else 1) := by
  unfold z7h
  simp only [Pool.eta', hc, Option.bind_some]
  by_cases q : e = 0
  · subst q
    simp only [bne_self_eq_false, Bool.false_eq_true, if_false, ne_eq, not_true_eq_false]
    by_cases h : 0 ≤ w ∧ w < (p.fFleet.fWagons.length : Int) ∧ 0 ≤ m ∧ m ≤ 1073741824
    · rw [if_pos h, if_neg (by simp only [Bool.or_eq_true, decide_eq_true_eq]; omega)]
    · rw [if_neg h, if_pos (by simp only [Bool.or_eq_true, decide_eq_true_eq]; omega)]
  · rw [if_pos (by simp [q]), if_pos q]
/-- At looks back from the end. -/
theorem zqb (φ : Nat) (m : Int) (c : List zi) (hc : c.length ≤ 100000) : ∀ (n : Nat) (k : Nat), k < c.length → (∃ i : Nat, i ≤ k ∧ (gt c (i : Int)).fSpan.fFrom ≤ m) → k < n →
    ∃ i : Nat, i ≤ k ∧ (gt c (i : Int)).fSpan.fFrom ≤ m ∧ (∀ j : Nat, i < j → j ≤ k → m < (gt c (j : Int)).fSpan.fFrom) ∧ z6b φ m c (z5t φ c) n (k : Int) = some ((gt c (i : Int)).fRailway, 0) := by
  intro n
  induction n with
  | zero => intro k _ _ h; omega
  | succ n ih =>
    intro k hk hex hn
    rw [z6b, zm ⟨by omega, by omega⟩]
    by_cases q : m < (gt c (k : Int)).fSpan.fFrom
    · rw [if_pos (by simpa using q)]
      obtain ⟨i, h1, h2⟩ := hex
      have hik : i ≠ k := by intro e; subst e; omega
      have w : W ((k : Int) - 1) = ((k - 1 : Nat) : Int) := by rw [W_id (by omega) (by omega)]; omega
      rw [w]
      obtain ⟨i', p1, p2, p3, p4⟩ := ih (k - 1) (by omega) ⟨i, by omega, h2⟩ (by omega)
      refine ⟨i', by omega, p2, fun j hj hj' => ?_, p4⟩
      by_cases e : j = k
      · subst e; exact q
      · exact p3 j hj (by omega)
    · rw [if_neg (by simpa using q)]
      refine ⟨k, Nat.le_refl _, by omega, fun j hj hj' => by omega, ?_⟩
      unfold z5t
      rw [zm ⟨by omega, by omega⟩]
end Px
end
section
namespace Px
open Go
set_option linter.unusedVariables false
set_option linter.unusedSimpArgs false
def zjn (c : zi) (t : Int) : zi := zi.mk c.fRailway (Span.mk c.fSpan.fFrom t) c.fRef
/-- The first i spans of a chain, the last one to until. -/
def zb7 (c : List zi) (u : Int) : Nat → List zi
  | 0 => []
  | i + 1 => ((List.range i).map fun (j : Nat) => zjn (gt c (j : Int)) (gt c ((j : Int) + 1)).fSpan.fFrom) ++ [zjn (gt c (i : Int)) u]
theorem zgo (c : List zi) (u : Int) (i : Nat) : (zb7 c u i).length = i := by cases i <;> simp [zb7]
theorem zjo (c : List zi) (u : Int) (i : Nat) : z1t (zb7 c u (i + 1)) (i : Int) (zjn (gt (zb7 c u (i + 1)) (i : Int)) (gt c ((i + 1 : Nat) : Int)).fSpan.fFrom) ++ [zjn (gt c ((i + 1 : Nat) : Int)) u] = zb7 c u (i + 2) := by
  have e : zb7 c u (i + 1) = ((List.range i).map fun (j : Nat) => zjn (gt c (j : Int)) (gt c ((j : Int) + 1)).fSpan.fFrom) ++ zjn (gt c (i : Int)) u :: [] := rfl
  rw [e, z5b (by simp), z7e (by simp)]
  simp [zb7, List.range_succ, zjn]
theorem zl4 (φ : Nat) (u : Int) (c : List zi) (hl : c.length ≤ 100000) (hφ : c.length < φ) :
    ∃ i : Nat, i ≤ c.length ∧ (∀ j : Nat, j < i → (gt c (j : Int)).fSpan.fFrom < u) ∧ (i < c.length → u ≤ (gt c (i : Int)).fSpan.fFrom) ∧
      z2p φ u c (z34 φ) φ 0 [] = some (zb7 c u i, 0) := by
  refine z51 (z2p φ u c (z34 φ)) c.length (fun j s => s = zb7 c u j ∧ ∀ i : Nat, i < j → (gt c (i : Int)).fSpan.fFrom < u)
    (fun o => ∃ i : Nat, i ≤ c.length ∧ (∀ j : Nat, j < i → (gt c (j : Int)).fSpan.fFrom < u) ∧ (i < c.length → u ≤ (gt c (i : Int)).fSpan.fFrom) ∧ o = some (zb7 c u i, 0)) ?_ ?_ φ [] ⟨rfl, by omega⟩ hφ
  · intro n j s hj ⟨hs, hlt⟩ hk
    have hsl : s.length = j := by rw [hs, zgo]
    have w1 : W ((j : Int) + 1) = (j : Int) + 1 := W_id (by omega) (by omega)
    have w2 : W ((s.length : Int) - 1) = (s.length : Int) - 1 := W_id (by omega) (by omega)
    rw [z2p, if_pos (by simp; omega), zm ⟨by omega, by omega⟩, w2]
    by_cases q : u ≤ (gt c (j : Int)).fSpan.fFrom
    · rw [if_pos (by simpa using q)]
      exact ⟨j, by omega, hlt, fun _ => q, by rw [hs]; rfl⟩
    · rw [if_neg (by simpa using q)]
      have hlt' : ∀ i : Nat, i < j + 1 → (gt c (i : Int)).fSpan.fFrom < u := fun i hi => by
        by_cases e : i = j
        · subst e; omega
        · exact hlt i (by omega)
      unfold z5w
      rw [w1]
      cases j with
      | zero =>
        rw [if_neg (by simp [hsl])]
        have hs0 : s = [] := hs
        subst hs0
        rw [zm (z6z (by simp) (by omega))]
        exact hk _ ⟨rfl, hlt'⟩
      | succ j =>
        rw [if_pos (by simp [hsl]), zm ⟨by omega, by omega⟩, zm (z6z (by simp [zaz]; omega) (by omega))]
        refine hk _ ⟨?_, hlt'⟩
        have e : (s.length : Int) - 1 = (j : Int) := by omega
        rw [e, hs]
        exact zjo c u j
  · intro n s ⟨hs, hlt⟩
    rw [z2p, if_neg (by simp)]
    exact ⟨c.length, Nat.le_refl _, hlt, fun h => absurd h (Nat.lt_irrefl _), by rw [hs]; rfl⟩
end Px
end
section
namespace Px
open Go
set_option linter.unusedVariables false
set_option linter.unusedSimpArgs false
def insS {α : Type} (lt : α → α → Bool) (x : α) : List α → List α
  | [] => [x]
  | y :: l => bif lt x y then x :: y :: l else y :: insS lt x l
def zbm {α : Type} (lt : α → α → Bool) (l : List α) : List α := l.foldl (fun a x => insS lt x a) []
section
variable {α : Type} {lt : α → α → Bool}
theorem zdy (hs : Swo lt) (x : α) : ∀ (l : List α), Srt lt l → ∃ A B, l = A ++ B ∧ insS lt x l = A ++ [x] ++ B ∧ (∀ y ∈ A, lt x y = false) ∧ ∀ y ∈ B, lt x y = true
  | [], _ => ⟨[], [], rfl, rfl, by simp, by simp⟩
  | y :: l, h => by
    have h' := List.pairwise_cons.1 h
    unfold insS
    cases e : lt x y with
    | true =>
      refine ⟨[], y :: l, rfl, rfl, by simp, fun z hz => ?_⟩
      rcases List.mem_cons.1 hz with rfl | hz
      · exact e
      · cases e2 : lt x z with
        | true => rfl
        | false =>
          have := hs.ntr _ _ _ e2 (h'.1 z hz)
          rw [e] at this; cases this
    | false =>
      obtain ⟨A, B, h1, h2, h3, h4⟩ := zdy hs x l h'.2
      refine ⟨y :: A, B, by rw [h1]; rfl, by simp [h2], fun z hz => ?_, h4⟩
      rcases List.mem_cons.1 hz with rfl | hz
      · exact e
      · exact h3 z hz
theorem zo6 (hs : Swo lt) (x : α) {l : List α} (h : Srt lt l) : Srt lt (insS lt x l) := by
  obtain ⟨A, B, h1, h2, h3, h4⟩ := zdy hs x l h
  rw [h2]; rw [h1] at h
  obtain ⟨a, b, c⟩ := h.parts
  refine Srt.app (Srt.app a (List.pairwise_singleton _ _) fun z hz y hy => ?_) b fun z hz y hy => ?_
  · simp at hy; subst hy; exact h3 z hz
  · rcases List.mem_append.1 hz with hz | hz
    · exact c z hz y hy
    · simp at hz; subst hz; exact hs.asym _ _ (h4 y hy)
theorem zom (hs : Swo lt) (x : α) {l : List α} (h : Srt lt l) : Stb lt (l ++ [x]) (insS lt x l) := by
  obtain ⟨A, B, h1, h2, h3, h4⟩ := zdy hs x l h
  rw [h2, h1]; exact zbe hs h4
theorem zbi (l : List α) (x : α) : zbm lt (l ++ [x]) = insS lt x (zbm lt l) := by
  simp [zbm, List.foldl_append]
theorem zha {P : List α → Prop} (h0 : P []) (h1 : ∀ l x, P l → P (l ++ [x])) (l : List α) : P l := by
  have : ∀ r : List α, P r.reverse := by
    intro r
    induction r with
    | nil => exact h0
    | cons x r ih => rw [List.reverse_cons]; exact h1 _ _ ih
  have h := this l.reverse
  rwa [List.reverse_reverse] at h
theorem z9j (hs : Swo lt) (l : List α) : Srt lt (zbm lt l) ∧ Stb lt l (zbm lt l) := by
  induction l using zha with
  | h0 => exact ⟨List.Pairwise.nil, Stb.refl _⟩
  | h1 l x ih =>
    rw [zbi]
    exact ⟨zo6 hs x ih.1, (ih.2.app (Stb.refl [x])).trans (zom hs x ih.1)⟩
theorem zhf (hs : Swo lt) {l r : List α} (h1 : Srt lt r) (h2 : Stb lt l r) : r = zbm lt l :=
  Srt.unique hs h1 (z9j hs l).1 ⟨(z9j hs l).2.1.trans h2.1.symm, fun a => ((z9j hs l).2.2 a).trans (h2.2 a).symm⟩
theorem zfb (hs : Swo lt) (l : List α) : (zbm lt l).length = l.length := (z9j hs l).2.len
/-- Where no two elements are of one rank, the order of the list does not matter. -/
theorem zgt (hs : Swo lt) {l l' : List α} (h : ∀ a ∈ l, ∀ b ∈ l, lt a b = false → lt b a = false → a = b) (hp : l.Perm l') : zbm lt l = zbm lt l' := by
  obtain ⟨h1, h2⟩ := z9j hs l
  obtain ⟨h1', h2'⟩ := z9j hs l'
  refine List.Perm.eq_of_pairwise (le := fun a b => lt b a = false) (fun a b ha hb e1 e2 => ?_) h1 h1' (h2.1.trans (hp.trans h2'.1.symm))
  exact h a (h2.mem.1 ha) b (hp.mem_iff.2 (h2'.mem.1 hb)) e2 e1
end
theorem zk6 {α β : Type} (lt : α → α → Bool) (lt' : β → β → Bool) (f : β → α) (x : β) : ∀ (l : List β), (∀ y ∈ l, lt (f x) (f y) = lt' x y) → insS lt (f x) (l.map f) = (insS lt' x l).map f
  | [], _ => rfl
  | y :: l, h => by
    simp only [List.map_cons, insS]
    rw [h y List.mem_cons_self, zk6 lt lt' f x l fun z hz => h z (List.mem_cons_of_mem _ hz)]
    cases lt' x y <;> rfl
theorem zkq {α : Type} {lt : α → α → Bool} {x y : α} : ∀ {l : List α}, y ∈ insS lt x l → y = x ∨ y ∈ l
  | [], h => by simp [insS] at h; exact .inl h
  | z :: l, h => by
    unfold insS at h
    cases e : lt x z with
    | true => rw [e] at h; simpa using h
    | false =>
      rw [e] at h
      rcases List.mem_cons.1 h with h | h
      · exact .inr (by simp [h])
      · rcases zkq h with h | h
        · exact .inl h
        · exact .inr (by simp [h])
theorem zi4 {α : Type} {lt : α → α → Bool} {y : α} (l : List α) : y ∈ zbm lt l → y ∈ l := by
  induction l using zha with
  | h0 => exact id
  | h1 l x ih =>
    rw [zbi]
    intro h
    rcases zkq h with h | h
    · simp [h]
    · simp [ih h]
theorem zmz {α β : Type} (lt : α → α → Bool) (lt' : β → β → Bool) (f : β → α) (D : β → Prop) (h : ∀ x y, D x → D y → lt (f x) (f y) = lt' x y) (l : List β) (hD : ∀ x ∈ l, D x) : zbm lt (l.map f) = (zbm lt' l).map f := by
  induction l using zha with
  | h0 => rfl
  | h1 l x ih =>
    rw [List.map_append, List.map_cons, List.map_nil, zbi, zbi, ih fun z hz => hD z (by simp [hz])]
    exact zk6 lt lt' f x _ fun y hy => h x y (hD x (by simp)) (hD y (by simp [zi4 l hy]))
end Px
end
section
namespace Px
open Go
set_option linter.unusedVariables false
set_option linter.unusedSimpArgs false
theorem z8y {c : Int} (h : 0 ≤ c) (h' : c < 18446744073709551616) : (BitVec.ofInt 64 c).toNat = c.toNat := by
  rw [BitVec.toNat_ofInt]; omega
theorem zro {n : Nat} (h : n < 18446744073709551616) : U (n : Int) = n := U_id (by omega) (by omega)
theorem zpk {a b : Nat} (h : a < 18446744073709551616) : a &&& b < 18446744073709551616 := Nat.lt_of_le_of_lt Nat.and_le_left h
theorem zo9 {k : Nat} (h : k ≤ 63) : (2 ^ k : Nat) < 18446744073709551616 := Nat.lt_of_lt_of_le (Nat.pow_lt_pow_right (by decide) (by omega : k < 64)) (by decide)
theorem ztt {c k : Int} (h : 0 ≤ c) (hk : 0 ≤ k) (hk' : k ≤ 63) : c.fdiv (2 ^ (min (k : Int).toNat (IntKind.bits .u64))) = ((c.toNat / 2 ^ k.toNat : Nat) : Int) := by
  have e : min (k : Int).toNat (IntKind.bits .u64) = k.toNat := by simp [IntKind.bits]; omega
  rw [e]
  have e2 : ((2 : Int) ^ k.toNat) = ((2 ^ k.toNat : Nat) : Int) := by simp
  rw [e2, Int.fdiv_eq_ediv_of_nonneg _ (Int.natCast_nonneg _)]
  have : c = (c.toNat : Int) := by omega
  rw [this]; simp
end Px
end
section
namespace Px
open Go
set_option linter.unusedVariables false
set_option linter.unusedSimpArgs false
set_option maxRecDepth 100000
theorem zl9 : ((List.range 256).all fun i => decide (0 ≤ za5 zbt i ∧ za5 zbt i ≤ 8 ∧ i < 2 ^ (za5 zbt i).toNat ∧ (0 < i → 0 < za5 zbt i ∧ 2 ^ ((za5 zbt i).toNat - 1) ≤ i))) = true := by decide +kernel
theorem zly {i : Int} (h : 0 ≤ i) (h' : i < 256) : ∃ n : Nat, za5 zbt i = n ∧ n ≤ 8 ∧ i.toNat < 2 ^ n ∧ (0 < i → 0 < n ∧ 2 ^ (n - 1) ≤ i.toNat) := by
  have := List.all_eq_true.1 zl9 i.toNat (by simp; omega)
  rw [decide_eq_true_eq, show ((i.toNat : Nat) : Int) = i by omega] at this
  obtain ⟨a, b, c, d⟩ := this
  exact ⟨(za5 zbt i).toNat, by omega, by omega, c, fun hi => ⟨by have := (d (by omega)).1; omega, (d (by omega)).2⟩⟩
/-- How many bits. -/
def zg8 (v : Nat) (n : Nat) : Prop := v < 2 ^ n ∧ (0 < v → 0 < n ∧ 2 ^ (n - 1) ≤ v)
theorem zg8.up {v : Nat} (k : Nat) {n : Nat} (h : zg8 (v / 2 ^ k) n) (hv : 2 ^ k ≤ v) : zg8 v (n + k) := by
  have hp := Nat.two_pow_pos k
  have hpos : 0 < v / 2 ^ k := Nat.div_pos hv hp
  obtain ⟨h1, h2⟩ := h
  obtain ⟨h3, h4⟩ := h2 hpos
  refine ⟨?_, fun _ => ⟨by omega, ?_⟩⟩
  · rw [Nat.pow_add]; exact (Nat.div_lt_iff_lt_mul hp).1 h1
  · have : n + k - 1 = (n - 1) + k := by omega
    rw [this, Nat.pow_add]; exact (Nat.le_div_iff_mul_le hp).1 h4
theorem znu (φ : Nat) (v w : Int) (h : 0 ≤ v) (h' : v < 256) (hw : 0 ≤ w) (hw' : w ≤ 64) : ∃ n : Nat, z6t φ v w = some (w + n) ∧ n ≤ 8 ∧ zg8 v.toNat n := by
  obtain ⟨n, e, hn, a, b⟩ := zly h h'
  have e8 : IntKind.wrap .u8 v = v := by simp [IntKind.wrap, IntKind.bits, IntKind.signed]; omega
  refine ⟨n, ?_, hn, a, fun hv => b (by omega)⟩
  unfold z6t
  rw [e8, zm ⟨h, h'⟩, e, W_id (x := (n : Int)) (by omega) (by omega), W_id (by omega) (by omega)]
theorem zp2 (φ : Nat) (v w : Int) (h : 0 ≤ v) (h' : v < 65536) (hw : 0 ≤ w) (hw' : w ≤ 48) : ∃ n : Nat, z7d φ v w = some (w + n) ∧ n ≤ 16 ∧ zg8 v.toNat n := by
  unfold z7d
  by_cases c : 256 ≤ v
  · rw [if_pos (by simpa using c), Int.fdiv_eq_ediv_of_nonneg _ (by omega), W_id (by omega) (by omega)]
    obtain ⟨n, e, hn, hl⟩ := znu φ (v / 256) (w + 8) (by omega) (by omega) (by omega) (by omega)
    refine ⟨n + 8, by rw [e]; congr 1; omega, by omega, ?_⟩
    refine zg8.up 8 ?_ (by omega)
    rwa [show v.toNat / 2 ^ 8 = (v / 256).toNat by omega]
  · rw [if_neg (by simpa using c)]
    obtain ⟨n, e, hn, hl⟩ := znu φ v w h (by omega) (by omega) (by omega)
    exact ⟨n, e, by omega, hl⟩
theorem zpj (φ : Nat) (v w : Int) (h : 0 ≤ v) (h' : v < 4294967296) (hw : 0 ≤ w) (hw' : w ≤ 32) : ∃ n : Nat, z7c φ v w = some (w + n) ∧ n ≤ 32 ∧ zg8 v.toNat n := by
  unfold z7c
  by_cases c : 65536 ≤ v
  · rw [if_pos (by simpa using c), Int.fdiv_eq_ediv_of_nonneg _ (by omega), W_id (by omega) (by omega)]
    obtain ⟨n, e, hn, hl⟩ := zp2 φ (v / 65536) (w + 16) (by omega) (by omega) (by omega) (by omega)
    refine ⟨n + 16, by rw [e]; congr 1; omega, by omega, ?_⟩
    refine zg8.up 16 ?_ (by omega)
    rwa [show v.toNat / 2 ^ 16 = (v / 65536).toNat by omega]
  · rw [if_neg (by simpa using c)]
    obtain ⟨n, e, hn, hl⟩ := zp2 φ v w h (by omega) (by omega) (by omega)
    exact ⟨n, e, by omega, hl⟩
theorem zki (φ : Nat) (v : Int) (h : 0 ≤ v) (h' : v < 18446744073709551616) : ∃ n : Nat, z8x φ v = some (n : Int) ∧ n ≤ 64 ∧ zg8 v.toNat n := by
  unfold z8x
  by_cases c : 4294967296 ≤ v
  · rw [if_pos (by simpa using c), Int.fdiv_eq_ediv_of_nonneg _ (by omega)]
    obtain ⟨n, e, hn, hl⟩ := zpj φ (v / 4294967296) 32 (by omega) (by omega) (by omega) (by omega)
    refine ⟨n + 32, by rw [e]; congr 1; omega, by omega, ?_⟩
    refine zg8.up 32 ?_ (by omega)
    rwa [show v.toNat / 2 ^ 32 = (v / 4294967296).toNat by omega]
  · rw [if_neg (by simpa using c)]
    obtain ⟨n, e, hn, hl⟩ := zpj φ v 0 h (by omega) (by omega) (by omega)
    exact ⟨n, by rw [e]; simp, by omega, hl⟩
theorem zf9 {v : Int} (h : 0 ≤ v) (h' : v < 18446744073709551616) : U ((BitVec.ofInt (IntKind.bits .u64) v &&& BitVec.ofInt (IntKind.bits .u64) 4294967295).toNat) = v % 4294967296 := by
  show U ((BitVec.ofInt 64 v &&& BitVec.ofInt 64 4294967295).toNat : Int) = _
  rw [BitVec.toNat_and, z8y h h', z8y (by omega) (by omega), zro (zpk (by omega))]
  have : (4294967295 : Int).toNat = 2 ^ 32 - 1 := by decide
  rw [this, Nat.and_two_pow_sub_one_eq_mod]
  omega
theorem ze1 {a b m n : Int} (ha : 0 ≤ a) (hb : 0 ≤ b) (h : a ≤ m) (h' : b ≤ n) : 0 ≤ a * b ∧ a * b ≤ m * n :=
  ⟨Int.mul_nonneg ha hb, Int.mul_le_mul h h' hb (by omega)⟩
theorem zkd (φ : Nat) (x y : Int) (hx : 0 ≤ x) (hx' : x < 18446744073709551616) (hy : 0 ≤ y) (hy' : y < 18446744073709551616) :
    z8z φ x y = some (x * y / 18446744073709551616, x * y % 18446744073709551616) := by
  unfold z8z
  rw [zf9 hx hx', zf9 hy hy', Int.fdiv_eq_ediv_of_nonneg _ (by omega), Int.fdiv_eq_ediv_of_nonneg _ (by omega)]
  have ex : x = x / 4294967296 * 4294967296 + x % 4294967296 := by omega
  have ey : y = y / 4294967296 * 4294967296 + y % 4294967296 := by omega
  have a1 : 0 ≤ x / 4294967296 ∧ x / 4294967296 ≤ 4294967295 := by omega
  have a0 : 0 ≤ x % 4294967296 ∧ x % 4294967296 ≤ 4294967295 := by omega
  have b1 : 0 ≤ y / 4294967296 ∧ y / 4294967296 ≤ 4294967295 := by omega
  have b0 : 0 ≤ y % 4294967296 ∧ y % 4294967296 ≤ 4294967295 := by omega
  have hxy : x * y = (x / 4294967296) * (y / 4294967296) * 18446744073709551616 + ((x / 4294967296) * (y % 4294967296) + (x % 4294967296) * (y / 4294967296)) * 4294967296 + (x % 4294967296) * (y % 4294967296) := by
    conv => lhs; rw [ex, ey]
    generalize x / 4294967296 = a; generalize x % 4294967296 = b; generalize y / 4294967296 = c; generalize y % 4294967296 = d
    rw [Int.add_mul, Int.mul_add, Int.mul_add, Int.add_mul]
    have e1 : a * 4294967296 * (c * 4294967296) = a * c * 18446744073709551616 := by
      rw [Int.mul_assoc, Int.mul_left_comm 4294967296 c, ← Int.mul_assoc]; rfl
    have e2 : a * 4294967296 * d = a * d * 4294967296 := by rw [Int.mul_right_comm]
    have e3 : b * (c * 4294967296) = b * c * 4294967296 := by rw [Int.mul_assoc]
    rw [e1, e2, e3]; omega
  have p11 := ze1 a1.1 b1.1 a1.2 b1.2
  have p10 := ze1 a1.1 b0.1 a1.2 b0.2
  have p01 := ze1 a0.1 b1.1 a0.2 b1.2
  have p00 := ze1 a0.1 b0.1 a0.2 b0.2
  rw [zj5 (x * y), hxy]
  generalize (x / 4294967296) * (y / 4294967296) = p at *; generalize (x / 4294967296) * (y % 4294967296) = q at *
  generalize (x % 4294967296) * (y / 4294967296) = r at *; generalize (x % 4294967296) * (y % 4294967296) = s at *
  clear hxy ex ey a1 a0 b1 b0
  rw [U_id (x := p) (by omega) (by omega), U_id (x := q) (by omega) (by omega), U_id (x := r) (by omega) (by omega), U_id (x := s) (by omega) (by omega)]
  rw [Int.fdiv_eq_ediv_of_nonneg s (by omega), U_id (x := q + s / 4294967296) (by omega) (by omega), zf9 (by omega) (by omega), Int.fdiv_eq_ediv_of_nonneg (q + s / 4294967296) (by omega),
    U_id (x := (q + s / 4294967296) % 4294967296 + r) (by omega) (by omega), Int.fdiv_eq_ediv_of_nonneg ((q + s / 4294967296) % 4294967296 + r) (by omega),
    U_id (x := p + (q + s / 4294967296) / 4294967296) (by omega) (by omega), U_id (by omega) (by omega)]
  congr 2
  omega
/-- One ztb of the quotient: what the two loops find. -/
theorem ztb {yn1 yn0 u d q r : Int} (h1 : 2147483648 ≤ yn1) (h1' : yn1 < 4294967296) (h0 : 0 ≤ yn0) (h0' : yn0 < 4294967296) (hd : 0 ≤ d) (hd' : d < 4294967296) (hu : 0 ≤ u)
    (hu' : u < yn1 * 4294967296 + yn0) (hqr : q * yn1 + r = u) (hr : 0 ≤ r) (hr' : r < 4294967296) (hq : (u * 4294967296 + d) / (yn1 * 4294967296 + yn0) ≤ q) :
    0 ≤ q ∧ q ≤ 4294967297 ∧ 0 ≤ (u * 4294967296 + d) / (yn1 * 4294967296 + yn0) ∧ (u * 4294967296 + d) / (yn1 * 4294967296 + yn0) < 4294967296 ∧
    (4294967296 ≤ q ∨ 4294967296 * r + d < q * yn0 → (u * 4294967296 + d) / (yn1 * 4294967296 + yn0) ≤ q - 1) ∧
    (¬ (4294967296 ≤ q ∨ 4294967296 * r + d < q * yn0) → q = (u * 4294967296 + d) / (yn1 * 4294967296 + yn0)) ∧
    (4294967296 ≤ q ∨ 4294967296 * r + d < q * yn0 → 4294967296 ≤ r + yn1 → q - 1 = (u * 4294967296 + d) / (yn1 * 4294967296 + yn0)) := by
  have hY : 0 < yn1 * 4294967296 + yn0 := by omega
  have hQ0 : 0 ≤ (u * 4294967296 + d) / (yn1 * 4294967296 + yn0) := Int.ediv_nonneg (by omega) (by omega)
  have hQ1 : (u * 4294967296 + d) / (yn1 * 4294967296 + yn0) < 4294967296 := Int.ediv_lt_of_lt_mul hY (by omega)
  have hq0 : 0 ≤ q := by omega
  have key : q * (yn1 * 4294967296 + yn0) = (u - r) * 4294967296 + q * yn0 := by
    rw [Int.mul_add, ← Int.mul_assoc, ← hqr]; omega
  have hq2 : q ≤ 4294967297 := by
    rcases Int.lt_or_le 4294967297 q with h | h
    · have : 4294967298 * yn1 ≤ q * yn1 := Int.mul_le_mul_of_nonneg_right (by omega) (by omega)
      omega
    · exact h
  have lt_of : ∀ {z : Int}, (u * 4294967296 + d) / (yn1 * 4294967296 + yn0) < z ↔ u * 4294967296 + d < z * (yn1 * 4294967296 + yn0) := fun {z} => Int.ediv_lt_iff_lt_mul hY
  refine ⟨hq0, hq2, hQ0, hQ1, fun h => ?_, fun h => ?_, fun h hr2 => ?_⟩
  · have : (u * 4294967296 + d) / (yn1 * 4294967296 + yn0) < q := by
      rcases h with h | h
      · omega
      · rw [lt_of, key]; omega
    omega
  · have : ¬ (u * 4294967296 + d) / (yn1 * 4294967296 + yn0) < q := by rw [lt_of, key]; omega
    omega
  · have hq1 : (u * 4294967296 + d) / (yn1 * 4294967296 + yn0) < q := by
      rcases h with h | h
      · omega
      · rw [lt_of, key]; omega
    have h2 : ¬ (u * 4294967296 + d) / (yn1 * 4294967296 + yn0) < q - 1 := by
      rw [lt_of]
      have e : (q - 1) * (yn1 * 4294967296 + yn0) = (u - (r + yn1)) * 4294967296 + (q - 1) * yn0 := by
        have : (q - 1) * yn1 + (r + yn1) = u := by rw [Int.sub_mul]; omega
        rw [Int.mul_add, ← Int.mul_assoc, ← this]; omega
      have b := (ze1 (by omega : 0 ≤ q - 1) h0 (by omega : q - 1 ≤ 4294967296) (by omega : yn0 ≤ 4294967295)).2
      rw [e]; omega
    omega
theorem mulB {a b : Int} (h : 0 ≤ a) (h' : a < 4294967296) (g : 0 ≤ b) (g' : b < 4294967296) : 0 ≤ a * b ∧ a * b ≤ 18446744065119617025 :=
  ze1 h g (by omega : a ≤ 4294967295) (by omega : b ≤ 4294967295)
theorem zgz {ρ : Type} (L : Nat → Int → Int → Option ρ) (k : Int → Option ρ) {yn1 yn0 u d : Int} (h1 : 2147483648 ≤ yn1) (h1' : yn1 < 4294967296) (h0 : 0 ≤ yn0) (h0' : yn0 < 4294967296) (hd : 0 ≤ d) (hd' : d < 4294967296) (hu : 0 ≤ u)
    (hu' : u < yn1 * 4294967296 + yn0)
    (step : ∀ n q r, L (n + 1) q r = if (decide (4294967296 ≤ q) || decide (U (U (4294967296 * r) + d) < U (q * yn0))) = true then (if decide (4294967296 ≤ U (r + yn1)) = true then k (U (q - 1)) else L n (U (q - 1)) (U (r + yn1))) else k q) :
    ∀ (n : Nat) q r, q * yn1 + r = u → 0 ≤ r → r < 4294967296 → (u * 4294967296 + d) / (yn1 * 4294967296 + yn0) ≤ q → 4294967296 - r ≤ 2147483648 * n → L (n + 1) q r = k ((u * 4294967296 + d) / (yn1 * 4294967296 + yn0)) := by
  intro n
  induction n with
  | zero => intro q r _ _ _ _ h; omega
  | succ n ih =>
    intro q r hqr hr hr' hq hn
    obtain ⟨g0, g1, g2, g3, g4, g5, g6⟩ := ztb h1 h1' h0 h0' hd hd' hu hu' hqr hr hr' hq
    have hc : (decide (4294967296 ≤ q) || decide (U (U (4294967296 * r) + d) < U (q * yn0))) = true ↔ (4294967296 ≤ q ∨ 4294967296 * r + d < q * yn0) := by
      rw [Bool.or_eq_true, decide_eq_true_eq, decide_eq_true_eq]
      by_cases hqB : 4294967296 ≤ q
      · simp [hqB]
      · have := mulB g0 (by omega : q < 4294967296) h0 h0'
        rw [U_id (x := 4294967296 * r) (by omega) (by omega), U_id (by omega) (by omega), U_id (by omega) (by omega)]
    rw [step]
    by_cases c : 4294967296 ≤ q ∨ 4294967296 * r + d < q * yn0
    · have a4 := g4 c
      rw [if_pos (hc.2 c), U_id (x := r + yn1) (by omega) (by omega), U_id (x := q - 1) (by omega) (by omega)]
      by_cases e : 4294967296 ≤ r + yn1
      · rw [if_pos (by simpa using e), g6 c e]
      · rw [if_neg (by simpa using e)]
        exact ih _ _ (by rw [Int.sub_mul]; omega) (by omega) (by omega) a4 (by omega)
    · rw [if_neg (fun h => c (hc.1 h)), ← g5 c]
/-- The first guess. -/
theorem zfu {yn1 yn0 u d : Int} (h1 : 2147483648 ≤ yn1) (h1' : yn1 < 4294967296) (h0 : 0 ≤ yn0) (h0' : yn0 < 4294967296) (hd : 0 ≤ d) (hd' : d < 4294967296) (hu : 0 ≤ u)
    (hu' : u < yn1 * 4294967296 + yn0) : U (u.tdiv yn1) = u / yn1 ∧ U (u - U (U (u.tdiv yn1) * yn1)) = u % yn1 ∧ u / yn1 * yn1 + u % yn1 = u ∧ 0 ≤ u % yn1 ∧ u % yn1 < 4294967296 ∧
    (u * 4294967296 + d) / (yn1 * 4294967296 + yn0) ≤ u / yn1 := by
  have e1 : u.tdiv yn1 = u / yn1 := Int.tdiv_eq_ediv_of_nonneg hu
  have hdm : u / yn1 * yn1 + u % yn1 = u := by have := Int.ediv_mul_add_emod u yn1; exact this
  have hm0 := Int.emod_nonneg u (by omega : yn1 ≠ 0)
  have hm1 := Int.emod_lt_of_pos u (by omega : 0 < yn1)
  have hq0 : 0 ≤ u / yn1 := Int.ediv_nonneg hu (by omega)
  have hq1 : u / yn1 ≤ u := Int.ediv_le_self _ hu
  have hqm : 0 ≤ u / yn1 * yn1 := Int.mul_nonneg hq0 (by omega)
  rw [e1, U_id hq0 (by omega), U_id (x := u / yn1 * yn1) (by omega) (by omega), U_id (by omega) (by omega)]
  refine ⟨rfl, by omega, hdm, hm0, by omega, ?_⟩
  have hY : 0 < yn1 * 4294967296 + yn0 := by omega
  have hQ0 : 0 ≤ (u * 4294967296 + d) / (yn1 * 4294967296 + yn0) := Int.ediv_nonneg (by omega) (by omega)
  have hQ := Int.ediv_mul_le (u * 4294967296 + d) (b := yn1 * 4294967296 + yn0) (by omega)
  generalize (u * 4294967296 + d) / (yn1 * 4294967296 + yn0) = z at *
  rw [Int.mul_add, ← Int.mul_assoc] at hQ
  have := Int.mul_nonneg hQ0 h0
  exact (Int.le_ediv_iff_mul_le (by omega)).2 (by omega)
theorem zpf (a b c : Int) : U (U (U a + b) - U c) = U (a + b - c) := by
  simp only [zj5]; omega
theorem zth {a b : Int} {s : Nat} (hs : s ≤ 63) (ha : 0 ≤ a) (h : a * 2 ^ s < 18446744073709551616) (hb : 0 ≤ b) (hb' : b < 2 ^ s) :
    U ((BitVec.ofInt (IntKind.bits .u64) (U (a * 2 ^ s)) ||| BitVec.ofInt (IntKind.bits .u64) b).toNat) = a * 2 ^ s + b := by
  have hp : (0 : Int) < 2 ^ s := Int.pow_pos (by decide)
  have hn := Int.mul_nonneg ha (Int.le_of_lt hp)
  have hp2 : (2 : Int) ^ s = ((2 ^ s : Nat) : Int) := by simp
  have hlt : (2 ^ s : Nat) < 18446744073709551616 := zo9 hs
  rw [U_id hn (by omega)]
  show U ((BitVec.ofInt 64 (a * 2 ^ s) ||| BitVec.ofInt 64 b).toNat : Int) = _
  have hlt2 := (BitVec.ofInt 64 (a * 2 ^ s) ||| BitVec.ofInt 64 b).isLt
  rw [zro (by omega), BitVec.toNat_or, z8y hn h, z8y hb (by omega)]
  obtain ⟨n, rfl⟩ := Int.eq_ofNat_of_zero_le ha
  obtain ⟨m, rfl⟩ := Int.eq_ofNat_of_zero_le hb
  have e : ((n : Int) * 2 ^ s).toNat = 2 ^ s * n := by rw [hp2, ← Int.natCast_mul, Int.toNat_natCast, Nat.mul_comm]
  rw [e, Int.toNat_natCast, ← Nat.two_pow_add_eq_or_of_lt (by rw [hp2] at hb'; omega)]
  simp [Int.mul_comm]
theorem zdj (φ : Nat) (v : Int) (h : 0 < v) (h' : v < 18446744073709551616) : ∃ s : Nat, z68 φ v = some (s : Int) ∧ s ≤ 63 ∧
    9223372036854775808 ≤ v * 2 ^ s ∧ v * 2 ^ s < 18446744073709551616 ∧ v ≤ 2 ^ (64 - s) := by
  obtain ⟨n, e, hn, h1, h2⟩ := zki φ v (by omega) h'
  obtain ⟨h3, h4⟩ := h2 (by omega)
  refine ⟨64 - n, ?_, by omega, ?_, ?_, ?_⟩
  · unfold z68
    rw [e, Option.bind_some, W_id (by omega) (by omega)]
    congr 1; omega
  · have : 2 ^ (n - 1) * 2 ^ (64 - n) ≤ v.toNat * 2 ^ (64 - n) := Nat.mul_le_mul_right _ h4
    rw [← Nat.pow_add, show n - 1 + (64 - n) = 63 by omega] at this
    have e2 : ((v.toNat * 2 ^ (64 - n) : Nat) : Int) = v * 2 ^ (64 - n) := by
      rw [Int.natCast_mul, Int.natCast_pow]; congr 1; omega
    omega
  · have : v.toNat * 2 ^ (64 - n) < 2 ^ n * 2 ^ (64 - n) := Nat.mul_lt_mul_of_pos_right h1 (Nat.two_pow_pos _)
    rw [← Nat.pow_add, show n + (64 - n) = 64 by omega] at this
    have e2 : ((v.toNat * 2 ^ (64 - n) : Nat) : Int) = v * 2 ^ (64 - n) := by
      rw [Int.natCast_mul, Int.natCast_pow]; congr 1; omega
    omega
  · rw [show 64 - (64 - n) = n by omega]
    have e2 : ((2 ^ n : Nat) : Int) = (2 : Int) ^ n := by simp
    omega
theorem zo5 (φ : Nat) (hφ : 5 < φ) (hi lo y : Int) (h0 : 0 ≤ hi) (hy : hi < y) (hy' : y < 18446744073709551616) (hl : 0 ≤ lo) (hl' : lo < 18446744073709551616) :
    z7w φ hi lo y = some ((hi * 18446744073709551616 + lo) / y, (hi * 18446744073709551616 + lo) % y) := by
  unfold z7w
  rw [if_neg (by simp; omega), if_neg (by simp; omega)]
  by_cases hz : hi = 0
  · subst hz
    rw [if_pos (by simp), zm (by omega), Int.tdiv_eq_ediv_of_nonneg hl, Int.tmod_eq_emod_of_nonneg hl, U_id (Int.ediv_nonneg hl (by omega)) (by have := Int.ediv_le_self y hl; omega)]
    simp
  rw [if_neg (by simpa using hz)]
  obtain ⟨s, es, hs, hY1, hY2, hyP⟩ := zdj φ y (by omega) hy'
  rw [es, Option.bind_some, U_id (x := (s : Int)) (by omega) (by omega), zm (by omega), U_id (x := 64 - (s : Int)) (by omega) (by omega), zm (by omega)]
  have em1 : min (s : Int).toNat (IntKind.bits .u64) = s := by simp [IntKind.bits]; omega
  have em2 : min (64 - (s : Int)).toNat (IntKind.bits .u64) = 64 - s := by simp [IntKind.bits]
  rw [em1, em2]
  have hp : (0 : Int) < 2 ^ s := Int.pow_pos (by decide)
  have hP : (0 : Int) < 2 ^ (64 - s) := Int.pow_pos (by decide)
  have hpP : (2 : Int) ^ s * 2 ^ (64 - s) = 18446744073709551616 := by rw [← Int.pow_add, show s + (64 - s) = 64 by omega]; rfl
  have hhp : hi * 2 ^ s < y * 2 ^ s := Int.mul_lt_mul_of_pos_right hy hp
  have hlP0 : 0 ≤ lo / 2 ^ (64 - s) := Int.ediv_nonneg hl (by omega)
  have hlP1 : lo / 2 ^ (64 - s) < 2 ^ s := Int.ediv_lt_of_lt_mul hP (by omega)
  have hh0 : 0 ≤ hi * 2 ^ s := Int.mul_nonneg h0 (by omega)
  -- the low word
  have hlo10 : U (lo * 2 ^ s) = lo % 2 ^ (64 - s) * 2 ^ s := by
    have e : lo = lo / 2 ^ (64 - s) * 2 ^ (64 - s) + lo % 2 ^ (64 - s) := (Int.ediv_mul_add_emod lo _).symm
    have e2 : lo * 2 ^ s = lo / 2 ^ (64 - s) * 18446744073709551616 + lo % 2 ^ (64 - s) * 2 ^ s := by
      conv => lhs; rw [e]
      rw [Int.add_mul, Int.mul_assoc, Int.mul_comm (2 ^ (64 - s)), hpP]
    have m0 := Int.emod_nonneg lo (by omega : (2 : Int) ^ (64 - s) ≠ 0)
    have m1 := Int.emod_lt_of_pos lo hP
    have m2 : lo % 2 ^ (64 - s) * 2 ^ s < 2 ^ (64 - s) * 2 ^ s := Int.mul_lt_mul_of_pos_right m1 hp
    have m3 := Int.mul_nonneg m0 (Int.le_of_lt hp)
    rw [Int.mul_comm (2 ^ (64 - s))] at m2
    rw [e2, zj5]; omega
  have hN : (hi * 2 ^ s + lo / 2 ^ (64 - s)) * 18446744073709551616 + lo % 2 ^ (64 - s) * 2 ^ s = (hi * 18446744073709551616 + lo) * 2 ^ s := by
    have e : lo = lo / 2 ^ (64 - s) * 2 ^ (64 - s) + lo % 2 ^ (64 - s) := (Int.ediv_mul_add_emod lo _).symm
    have e2 : lo * 2 ^ s = lo / 2 ^ (64 - s) * 18446744073709551616 + lo % 2 ^ (64 - s) * 2 ^ s := by
      conv => lhs; rw [e]
      rw [Int.add_mul, Int.mul_assoc, Int.mul_comm (2 ^ (64 - s)), hpP]
    have e3 : (hi * 18446744073709551616 + lo) * 2 ^ s = hi * 2 ^ s * 18446744073709551616 + lo * 2 ^ s := by rw [Int.add_mul, Int.mul_right_comm]
    rw [e3, e2]; omega
  have hun0 : 0 ≤ lo % 2 ^ (64 - s) * 2 ^ s := Int.mul_nonneg (Int.emod_nonneg lo (by omega)) (by omega)
  have hun1 : lo % 2 ^ (64 - s) * 2 ^ s < 18446744073709551616 := by
    rw [← hlo10, zj5]; omega
  have hu' : hi * 2 ^ s + lo / 2 ^ (64 - s) < y * 2 ^ s := by
    have : (hi + 1) * 2 ^ s ≤ y * 2 ^ s := Int.mul_le_mul_of_nonneg_right (by omega) (by omega)
    rw [Int.add_mul] at this; omega
  have hs1 : U (s : Int) = s := U_id (by omega) (by omega)
  have hs2 : U (64 - (s : Int)) = 64 - (s : Int) := U_id (by omega) (by omega)
  have ef : lo.fdiv (2 ^ (64 - s)) = lo / 2 ^ (64 - s) := Int.fdiv_eq_ediv_of_nonneg _ (by omega)
  have eor := zth hs h0 (by omega : hi * 2 ^ s < 18446744073709551616) hlP0 hlP1
  obtain ⟨Y, hYd⟩ : ∃ Y, Y = y * 2 ^ s := ⟨_, rfl⟩
  have eY : U (y * 2 ^ s) = Y := by rw [hYd]; exact U_id (by omega) (by omega)
  obtain ⟨u, hud⟩ : ∃ u, u = hi * 2 ^ s + lo / 2 ^ (64 - s) := ⟨_, rfl⟩
  obtain ⟨w, hwd⟩ : ∃ w, w = lo % 2 ^ (64 - s) * 2 ^ s := ⟨_, rfl⟩
  rw [← hwd] at hlo10 hN hun0 hun1
  rw [← hud] at hN hu' eor
  rw [← hYd] at hu' hY1 hY2 hhp
  have hu0 : 0 ≤ u := by omega
  have fY : Y.fdiv 4294967296 = Y / 4294967296 := Int.fdiv_eq_ediv_of_nonneg _ (by omega)
  have fw : w.fdiv 4294967296 = w / 4294967296 := Int.fdiv_eq_ediv_of_nonneg _ (by omega)
  have mY := zf9 (v := Y) (by omega) (by omega)
  have mw := zf9 (v := w) (by omega) (by omega)
  have b1 : 2147483648 ≤ Y / 4294967296 ∧ Y / 4294967296 < 4294967296 ∧ 0 ≤ Y % 4294967296 ∧ Y % 4294967296 < 4294967296 := by omega
  have b2 : 0 ≤ w / 4294967296 ∧ w / 4294967296 < 4294967296 ∧ 0 ≤ w % 4294967296 ∧ w % 4294967296 < 4294967296 := by omega
  have eYs : Y / 4294967296 * 4294967296 + Y % 4294967296 = Y := by omega
  have stepA : ∀ (K : Int → Option (Int × Int)) n q r, z5o φ lo y s K (n + 1) q r = if (decide (4294967296 ≤ q) || decide (U (U (4294967296 * r) + w / 4294967296) < U (q * (Y % 4294967296)))) = true then
      (if decide (4294967296 ≤ U (r + Y / 4294967296)) = true then K (U (q - 1)) else z5o φ lo y s K n (U (q - 1)) (U (r + Y / 4294967296))) else K q := by
    intro K n q r
    rw [z5o]
    simp only [hs1, hs2, em1, em2, eY, hlo10, fY, fw, mY, mw]
  have stepB : ∀ (K : Int → Option (Int × Int)) n q r, z5s φ lo y s K (n + 1) r q = if (decide (4294967296 ≤ q) || decide (U (U (4294967296 * r) + w % 4294967296) < U (q * (Y % 4294967296)))) = true then
      (if decide (4294967296 ≤ U (r + Y / 4294967296)) = true then K (U (q - 1)) else z5s φ lo y s K n (U (r + Y / 4294967296)) (U (q - 1))) else K q := by
    intro K n q r
    rw [z5s]
    simp only [hs1, hs2, em1, em2, eY, hlo10, fY, fw, mY, mw]
  obtain ⟨m, rfl⟩ : ∃ m, φ = m + 3 := ⟨φ - 3, by omega⟩
  rw [ef, eor, eY, fY, zm (by omega)]
  obtain ⟨i1, i2, i3, i4, i5, i6⟩ := zfu (u := u) (d := w / 4294967296) b1.1 b1.2.1 b1.2.2.1 b1.2.2.2 b2.1 b2.2.1 hu0 (by omega)
  rw [i1] at i2 ⊢
  rw [i2, zgz (z5o (m + 3) lo y s _) _ b1.1 b1.2.1 b1.2.2.1 b1.2.2.2 b2.1 b2.2.1 hu0 (by omega) (stepA _) (m + 2) _ _ i3 i4 i5 i6 (by omega)]
  rw [eYs]
  unfold z6u
  simp only [hs1, hs2, em1, em2, eY, hlo10, fY, fw, ef, eor]
  rw [zm (by omega)]
  have hQ1 : 0 ≤ (u * 4294967296 + w / 4294967296) / Y ∧ (u * 4294967296 + w / 4294967296) / Y < 4294967296 := ⟨Int.ediv_nonneg (by omega) (by omega), Int.ediv_lt_of_lt_mul (by omega) (by omega)⟩
  have hR1 := Int.ediv_mul_add_emod (u * 4294967296 + w / 4294967296) Y
  have hR1a := Int.emod_nonneg (u * 4294967296 + w / 4294967296) (by omega : Y ≠ 0)
  have hR1b := Int.emod_lt_of_pos (u * 4294967296 + w / 4294967296) (by omega : 0 < Y)
  generalize (u * 4294967296 + w / 4294967296) / Y = q1 at *
  generalize (u * 4294967296 + w / 4294967296) % Y = r1 at *
  have eu21 : U (U (U (u * 4294967296) + w / 4294967296) - U (q1 * Y)) = r1 := by
    rw [zpf, show u * 4294967296 + w / 4294967296 - q1 * Y = r1 by omega]; exact U_id hR1a (by omega)
  rw [eu21]
  obtain ⟨j1, j2, j3, j4, j5, j6⟩ := zfu (u := r1) (d := w % 4294967296) b1.1 b1.2.1 b1.2.2.1 b1.2.2.2 b2.2.2.1 b2.2.2.2 hR1a (by omega)
  rw [j1] at j2 ⊢
  rw [j2]
  refine (zgz (fun n q r => z5s (m + 3) lo y s _ n r q) _ b1.1 b1.2.1 b1.2.2.1 b1.2.2.2 b2.2.2.1 b2.2.2.2 hR1a (by omega) (fun n q r => stepB _ n q r) (m + 2) _ _ j3 j4 j5 j6 (by omega)).trans ?_
  rw [eYs]
  unfold z6v
  simp only [hs1, hs2, em1, em2, eY, hlo10, fY, fw, mw, ef, eor, eu21]
  rw [zm (by omega)]
  have hQ0 : 0 ≤ (r1 * 4294967296 + w % 4294967296) / Y ∧ (r1 * 4294967296 + w % 4294967296) / Y < 4294967296 := ⟨Int.ediv_nonneg (by omega) (by omega), Int.ediv_lt_of_lt_mul (by omega) (by omega)⟩
  have hR0 := Int.ediv_mul_add_emod (r1 * 4294967296 + w % 4294967296) Y
  have hR0a := Int.emod_nonneg (r1 * 4294967296 + w % 4294967296) (by omega : Y ≠ 0)
  have hR0b := Int.emod_lt_of_pos (r1 * 4294967296 + w % 4294967296) (by omega : 0 < Y)
  generalize (r1 * 4294967296 + w % 4294967296) / Y = q0 at *
  generalize (r1 * 4294967296 + w % 4294967296) % Y = r0 at *
  rw [zpf, show r1 * 4294967296 + w % 4294967296 - q0 * Y = r0 by omega, U_id (x := r0) hR0a (by omega), U_id (x := q1 * 4294967296) (by omega) (by omega), U_id (by omega) (by omega), Int.fdiv_eq_ediv_of_nonneg _ (by omega)]
  have hall : (hi * 18446744073709551616 + lo - (q1 * 4294967296 + q0) * y) * 2 ^ s = r0 := by
    rw [Int.sub_mul, ← hN, Int.mul_assoc, ← hYd, Int.add_mul, Int.mul_right_comm]; omega
  have hz0 : 0 ≤ hi * 18446744073709551616 + lo - (q1 * 4294967296 + q0) * y := by
    rcases Int.lt_or_le (hi * 18446744073709551616 + lo - (q1 * 4294967296 + q0) * y) 0 with h | h
    · have := Int.mul_neg_of_neg_of_pos h hp; omega
    · exact h
  have hz1 : hi * 18446744073709551616 + lo - (q1 * 4294967296 + q0) * y < y := by
    refine Int.lt_of_mul_lt_mul_right (a := 2 ^ s) ?_ (by omega)
    rw [hall, ← hYd]; exact hR0b
  have hr0 : r0 / 2 ^ s = hi * 18446744073709551616 + lo - (q1 * 4294967296 + q0) * y := by
    rw [← hall]; exact Int.mul_ediv_cancel _ (by omega)
  have hdm : (hi * 18446744073709551616 + lo) / y = q1 * 4294967296 + q0 ∧ (hi * 18446744073709551616 + lo) % y = hi * 18446744073709551616 + lo - (q1 * 4294967296 + q0) * y :=
    (Int.ediv_emod_unique (by omega)).2 ⟨by rw [Int.mul_comm y]; omega, hz0, hz1⟩
  rw [hr0, hdm.1, hdm.2]
end Px
end
section
namespace Px
open Go
set_option linter.unusedVariables false
set_option linter.unusedSimpArgs false
set_option maxRecDepth 100000
theorem z6o (φ : Nat) (a b c : Int) : z2b φ a b c = some (bet a b c) := rfl
def zgf (t : z6d) : Bool :=
  bet t.fLoad 0 1000000 && bet t.fTare 0 1000000 && bet t.fLength 0 1000000 && bet t.fBrake 0 1000000 && bet t.fGauge 0 7 && bet t.fLife 1 1073741824 && bet t.fFloor 0 100
def zce (n : Int) (w : zca) : Bool :=
  bet w.fType 0 (n - 1) && bet w.fOwner 0 63 && bet w.fHome 0 511 && bet w.fBuilt 0 1073741824 && bet w.fWorth 0 1099511627776
def zgr (n : Int) (s : Swap) : Bool := bet s.fWanted 0 (n - 1) && bet s.fGiven 0 (n - 1) && (s.fWanted != s.fGiven) && bet s.fCost 0 1000000000
def zn0 (w : Wash) : Bool := bet w.fFrom 0 63 && bet w.fTo 0 63 && (w.fFrom != w.fTo) && bet w.fMinutes 0 100000
def keyW (w : Wash) : Int := 64 * w.fFrom + w.fTo
def z8m (l : List Wash) (i : Nat) : Bool := zn0 (gt l (i : Int)) && !(l.take i).any fun v => keyW v == keyW (gt l (i : Int))
def z9z (l : List Wash) : Bool := (List.range l.length).all (z8m l)
/-- What Check answers. -/
def z8l (x : z8w) : Int :=
  bif decide (32 < x.fTypes.length) || decide (4096 < x.fWagons.length) || decide (1024 < x.fSwaps.length) || decide (4096 < x.fWashes.length) then 2 else
  bif x.fTypes.all zgf && x.fWagons.all (zce x.fTypes.length) && x.fSwaps.all (zgr x.fTypes.length) && z9z x.fWashes then 0 else 1
theorem zbw (p : Nat → Bool) (i : Nat) : (List.range (i + 1)).all p = ((List.range i).all p && p i) := by
  rw [List.range_succ, List.all_append]; simp
theorem zak {α : Type} [Inhabited α] {p : Prop} [Decidable p] {x : Option α} (h : p) : z57 p x = x := if_pos h
theorem zap {α : Type} [Inhabited α] {p : Prop} [Decidable p] {x : Option α} (h : ¬ p) : z57 p x = some default := if_neg h
theorem zdf (φ : Nat) (x : z8w) (k : Int → Option Int) (hl : x.fSwaps.length ≤ 1024) (ht : x.fTypes.length ≤ 32) :
    ∀ n s, x.fSwaps.length < n → z3o φ x k n 0 s = k (bif x.fSwaps.all (zgr (x.fTypes.length : Int)) then s else 1) := by
  have hp : W ((x.fTypes.length : Int) - 1) = (x.fTypes.length : Int) - 1 := W_id (by omega) (by omega)
  refine zeu _ k _ _ ?_ ?_
  · intro n i s hi
    rw [z3o, if_pos (by simp; omega), zm ⟨by omega, by omega⟩]
    have hW : W ((i : Int) + 1) = (i : Int) + 1 := W_id (by omega) (by omega)
    simp only [z6o, Option.bind_some, zgr, z57, z73, hW, hp]
    cases bet (gt x.fSwaps i).fWanted 0 ((x.fTypes.length : Int) - 1) <;> cases bet (gt x.fSwaps i).fGiven 0 ((x.fTypes.length : Int) - 1) <;> cases ((gt x.fSwaps i).fWanted != (gt x.fSwaps i).fGiven) <;>
      cases bet (gt x.fSwaps i).fCost 0 1000000000 <;> rfl
  · intro n s
    rw [z3o, if_neg (by simp)]
theorem zcz (φ : Nat) (x : z8w) (k : Int → Option Int) (hl : x.fWagons.length ≤ 4096) (ht : x.fTypes.length ≤ 32) :
    ∀ n s, x.fWagons.length < n → z32 φ x k n 0 s = k (bif x.fWagons.all (zce (x.fTypes.length : Int)) then s else 1) := by
  have hp : W ((x.fTypes.length : Int) - 1) = (x.fTypes.length : Int) - 1 := W_id (by omega) (by omega)
  refine zeu _ k _ _ ?_ ?_
  · intro n i s hi
    rw [z32, if_pos (by simp; omega), zm ⟨by omega, by omega⟩]
    have hW : W ((i : Int) + 1) = (i : Int) + 1 := W_id (by omega) (by omega)
    simp only [z6o, Option.bind_some, zce, z57, z6m, z6j, hW, hp]
    cases bet (gt x.fWagons i).fType 0 ((x.fTypes.length : Int) - 1) <;> cases bet (gt x.fWagons i).fOwner 0 63 <;> cases bet (gt x.fWagons i).fHome 0 511 <;>
      cases bet (gt x.fWagons i).fBuilt 0 1073741824 <;> cases bet (gt x.fWagons i).fWorth 0 1099511627776 <;> rfl
  · intro n s
    rw [z32, if_neg (by simp)]
theorem zes (φ : Nat) (x : z8w) (i : Int) (k : Int → Option Int) (n : Nat) (s : Int) (hn : 4 < n) :
    z30 φ x i k n 0 s = k (bif [(gt x.fTypes i).fLoad, (gt x.fTypes i).fTare, (gt x.fTypes i).fLength, (gt x.fTypes i).fBrake].all (fun a => bet a 0 1000000) then s else 1) := by
  refine zeu (z30 φ x i k) k _ _ ?_ ?_ n s hn
  · intro n j s hi
    rw [z30, if_pos (by simp at hi ⊢; omega), zm ⟨by omega, by omega⟩]
    simp at hi
    have hW : W ((j : Int) + 1) = (j : Int) + 1 := W_id (by omega) (by omega)
    simp only [z6o, Option.bind_some, z6k, hW]
    cases bet (gt [(gt x.fTypes i).fLoad, (gt x.fTypes i).fTare, (gt x.fTypes i).fLength, (gt x.fTypes i).fBrake] (j : Int)) 0 1000000 <;> rfl
  · intro n s
    rw [z30, if_neg (by simp)]
theorem zdt (φ : Nat) (hφ : 4 < φ) (x : z8w) (k : Int → Option Int) (hl : x.fTypes.length ≤ 32) :
    ∀ n s, x.fTypes.length < n → z1e φ x k n 0 s = k (bif x.fTypes.all zgf then s else 1) := by
  refine zeu _ k _ _ ?_ ?_
  · intro n i s hi
    rw [z1e, if_pos (by simp; omega), zm ⟨by omega, by omega⟩, zes _ _ _ _ _ _ hφ]
    have hW : W ((i : Int) + 1) = (i : Int) + 1 := W_id (by omega) (by omega)
    simp only [z6o, Option.bind_some, zgf, z57, z4k, z6n, z2t, hW, List.all_cons, List.all_nil]
    cases bet (gt x.fTypes i).fLoad 0 1000000 <;> cases bet (gt x.fTypes i).fTare 0 1000000 <;> cases bet (gt x.fTypes i).fLength 0 1000000 <;> cases bet (gt x.fTypes i).fBrake 0 1000000 <;>
      cases bet (gt x.fTypes i).fGauge 0 7 <;> cases bet (gt x.fTypes i).fLife 1 1073741824 <;> cases bet (gt x.fTypes i).fFloor 0 100 <;> rfl
  · intro n s
    rw [z1e, if_neg (by simp)]
theorem zda (φ : Nat) (x : z8w) (k : Int → Option Int) (hl : x.fWashes.length ≤ 4096) (n : Nat) (s : Int) (hn : x.fWashes.length < n) :
    z1s φ x k n 0 s (fun _ => false) = k (bif z9z x.fWashes then s else 1) := by
  refine z51 (fun n i (t : Int × (Nat → Bool)) => z1s φ x k n i t.1 t.2) x.fWashes.length
    (fun i t => t.1 = (bif (List.range i).all (z8m x.fWashes) then s else 1) ∧ ((List.range i).all (z8m x.fWashes) = true → ∀ j : Nat, t.2 j = (x.fWashes.take i).any fun v => keyW v == (j : Int)))
    (fun o => o = k (bif z9z x.fWashes then s else 1)) ?_ ?_ n (s, fun _ => false) ⟨by simp, by simp⟩ hn
  · intro n i t hi ⟨h1, h2⟩ hs
    have hW : W ((i : Int) + 1) = (i : Int) + 1 := W_id (by omega) (by omega)
    rw [z1s, if_pos (by simp; omega), zm ⟨by omega, by omega⟩]
    simp only [z6o, Option.bind_some, z57]
    have hok : zn0 (gt x.fWashes i) = (bet (gt x.fWashes i).fFrom 0 63 && bet (gt x.fWashes i).fTo 0 63 && ((gt x.fWashes i).fFrom != (gt x.fWashes i).fTo) && bet (gt x.fWashes i).fMinutes 0 100000) := rfl
    have hsucc := zbw (z8m x.fWashes) i
    cases hw : zn0 (gt x.fWashes i) with
    | false =>
      have hf : (List.range (i + 1)).all (z8m x.fWashes) = false := by rw [hsucc]; simp [z8m, hw]
      have h3 : z1s φ x k n ((i : Int) + 1) 1 t.2 = k (bif z9z x.fWashes then s else 1) := hs (1, t.2) ⟨by rw [hf]; rfl, by rw [hf]; intro h; cases h⟩
      rw [hw] at hok
      rw [← h3]
      simp only [z6f, z4b, hW]
      generalize bet (gt x.fWashes i).fFrom 0 63 = a at *; generalize bet (gt x.fWashes i).fTo 0 63 = b at *; generalize ((gt x.fWashes i).fFrom != (gt x.fWashes i).fTo) = c at *; generalize bet (gt x.fWashes i).fMinutes 0 100000 = d at *
      cases a <;> cases b <;> cases c <;> cases d <;> first | (simp only [Bool.and_self, Bool.and_true, Bool.and_false, Bool.false_and, Bool.true_and, Option.bind_some, if_true, Bool.not_false, Bool.not_true, Bool.false_eq_true, if_false, default]; done) | exact absurd hok (by decide)
    | true =>
      rw [hw] at hok
      have hb := hok.symm
      simp only [Bool.and_eq_true] at hb
      obtain ⟨⟨⟨b1, b2⟩, b3⟩, b4⟩ := hb
      have c1 := zr0 b1; have c2 := zr0 b2
      simp only [b1, b2, b3, b4, z6f, Bool.and_self, if_true, Option.bind_some, Bool.not_true, Bool.false_eq_true, if_false]
      rw [zm ⟨by omega, by omega⟩, zm ⟨by omega, by omega⟩]
      have hkey : ((gt x.fWashes i).fFrom.toNat * 64 + (gt x.fWashes i).fTo.toNat : Nat) = (keyW (gt x.fWashes i)).toNat := by unfold keyW; omega
      have hk0 : ((keyW (gt x.fWashes i)).toNat : Int) = keyW (gt x.fWashes i) := by unfold keyW; omega
      rw [hkey]
      have key : ∀ e, (e = bif (List.range (i + 1)).all (z8m x.fWashes) then s else 1) →
          z1s φ x k n ((i : Int) + 1) e (upd t.2 (keyW (gt x.fWashes i)).toNat true) = k (bif z9z x.fWashes then s else 1) := by
        intro e he
        refine hs (e, _) ⟨he, fun hall j => ?_⟩
        rw [hsucc, Bool.and_eq_true] at hall
        rw [zan _ _ _ hi, ← h2 hall.1 j]
        show (if j = (keyW (gt x.fWashes i)).toNat then true else t.2 j) = _
        by_cases hj : j = (keyW (gt x.fWashes i)).toNat
        · simp [hj, hk0]
        · have : (keyW (gt x.fWashes i) == (j : Int)) = false := by
            simp; intro h; exact hj (by omega)
          simp [hj, this]
      simp only [z70, z4b, hW, hkey]
      cases hall : (List.range i).all (z8m x.fWashes) with
      | true =>
        have hat : z8m x.fWashes i = !(t.2 (keyW (gt x.fWashes i)).toNat) := by
          rw [h2 hall]; simp only [z8m, hw, Bool.true_and, hk0]
        cases ht2 : t.2 (keyW (gt x.fWashes i)).toNat with
        | true =>
          simp only [Bool.not_true, Bool.not_false, if_true]
          refine key 1 ?_
          rw [hsucc, hat, ht2]; simp
        | false =>
          simp only [Bool.not_true, Bool.not_false, Bool.false_eq_true, if_false]
          refine key t.1 ?_
          rw [hsucc, hat, ht2, h1, hall]; simp
      | false =>
        have hf : (List.range (i + 1)).all (z8m x.fWashes) = false := by rw [hsucc, hall]; rfl
        have ht1 : t.1 = 1 := by rw [h1, hall]; rfl
        rw [ht1]
        split <;> exact key 1 (by rw [hf]; rfl)
  · intro n t ⟨h1, _⟩
    rw [z1s, if_neg (by simp), h1]; rfl
theorem zfz (φ : Nat) (hφ : 5000 < φ) (x : z8w) : z9s φ x = some (z8l x) := by
  have e : (((decide (32 < (x.fTypes.length : Int)) || decide (4096 < (x.fWagons.length : Int))) || decide (1024 < (x.fSwaps.length : Int))) || decide (4096 < (x.fWashes.length : Int))) =
      (decide (32 < x.fTypes.length) || decide (4096 < x.fWagons.length) || decide (1024 < x.fSwaps.length) || decide (4096 < x.fWashes.length)) := by
    congr 1
    · congr 1
      · congr 1 <;> (apply decide_eq_decide.2; omega)
      · apply decide_eq_decide.2; omega
    · apply decide_eq_decide.2; omega
  unfold z9s z8l
  rw [e]
  cases h : (decide (32 < x.fTypes.length) || decide (4096 < x.fWagons.length) || decide (1024 < x.fSwaps.length) || decide (4096 < x.fWashes.length)) with
  | true => rfl
  | false =>
    simp only [Bool.or_eq_false_iff, decide_eq_false_iff_not, Nat.not_lt] at h
    obtain ⟨⟨⟨h1, h2⟩, h3⟩, h4⟩ := h
    rw [if_neg (by simp), zdt φ (by omega) x _ h1 _ _ (by omega)]
    unfold z27
    rw [zcz _ _ _ h2 h1 _ _ (by omega)]
    unfold z3p
    rw [zdf _ _ _ h3 h1 _ _ (by omega)]
    unfold z55
    rw [zda _ _ _ h4 _ _ (by omega)]
    unfold z33
    cases x.fTypes.all zgf <;> cases x.fWagons.all (zce x.fTypes.length) <;> cases x.fSwaps.all (zgr x.fTypes.length) <;> cases z9z x.fWashes <;> rfl
/-- What a fleet that passes is. -/
theorem zc8 {x : z8w} (h : z8l x = 0) : x.fTypes.length ≤ 32 ∧ x.fWagons.length ≤ 4096 ∧ x.fSwaps.length ≤ 1024 ∧ x.fWashes.length ≤ 4096 ∧
    (∀ t ∈ x.fTypes, zgf t = true) ∧ (∀ t ∈ x.fWagons, zce x.fTypes.length t = true) ∧ (∀ t ∈ x.fSwaps, zgr x.fTypes.length t = true) ∧ z9z x.fWashes = true := by
  unfold z8l at h
  cases h1 : (decide (32 < x.fTypes.length) || decide (4096 < x.fWagons.length) || decide (1024 < x.fSwaps.length) || decide (4096 < x.fWashes.length)) with
  | true => rw [h1] at h; cases h
  | false =>
    rw [h1] at h
    simp only [Bool.or_eq_false_iff, decide_eq_false_iff_not, Nat.not_lt] at h1
    obtain ⟨⟨⟨a1, a2⟩, a3⟩, a4⟩ := h1
    cases h2 : (x.fTypes.all zgf && x.fWagons.all (zce x.fTypes.length) && x.fSwaps.all (zgr x.fTypes.length) && z9z x.fWashes) with
    | false => rw [h2] at h; cases h
    | true =>
      simp only [Bool.and_eq_true, List.all_eq_true] at h2
      obtain ⟨⟨⟨b1, b2⟩, b3⟩, b4⟩ := h2
      exact ⟨a1, a2, a3, a4, b1, b2, b3, b4⟩
end Px
end
section
namespace Px
open Go
set_option linter.unusedVariables false
set_option linter.unusedSimpArgs false
set_option maxRecDepth 100000
def PP : Nat := 2305843009213690799
def QQ : Nat := 1152921504606845399
/-- A power modulo the prime. -/
def pw (b n : Nat) : Nat := b ^ n % PP
theorem zhw (b n : Nat) : pw b n < PP := Nat.mod_lt _ (by decide)
theorem zs3 (b : Nat) : pw b 0 = 1 := by simp [pw, PP]
theorem zp6 (b m n : Nat) : pw b m * pw b n % PP = pw b (m + n) := by
  unfold pw; rw [Nat.pow_add, ← Nat.mul_mod]
theorem zu3 (b : Nat) : pw b 1 = b % PP := by simp [pw]
theorem zeb {a b : Nat} (ha : a < PP) (hb : b < PP) (φ : Nat) (hφ : 5 < φ) : ((z8z φ (a : Int) (b : Int)).bind fun y => (z7w φ y.1 y.2 2305843009213690799).bind fun z => some z.2) = some ((a * b % PP : Nat) : Int) := by
  have ha' : (a : Int) < 2305843009213690799 := by unfold PP at ha; omega
  have hb' : (b : Int) < 2305843009213690799 := by unfold PP at hb; omega
  have hp := ze1 (by omega : 0 ≤ (a : Int)) (by omega : 0 ≤ (b : Int)) (by omega : (a : Int) ≤ 2305843009213690798) (by omega : (b : Int) ≤ 2305843009213690798)
  rw [zkd φ _ _ (by omega) (by omega) (by omega) (by omega), Option.bind_some]
  generalize hz : (a : Int) * (b : Int) = z at *
  rw [zo5 φ hφ _ _ _ (by omega) (by omega) (by omega) (by omega) (by omega), Option.bind_some]
  congr 1
  have : z / 18446744073709551616 * 18446744073709551616 + z % 18446744073709551616 = z := by omega
  rw [this, ← hz, Int.natCast_emod, Int.natCast_mul]; rfl
theorem zsc {a : Nat} (h : a < PP) : ((a : Int)).tmod 2305843009213690799 = (a : Int) := by
  unfold PP at h
  rw [Int.tmod_eq_emod_of_nonneg (by omega)]; omega
theorem zk4 (φ : Nat) (hφ : 100 < φ) (b n : Nat) (hb : b < 18446744073709551616) (hn : n < 18446744073709551616) : zcs φ (b : Int) (n : Int) = some ((pw b n : Nat) : Int) := by
  unfold zcs
  obtain ⟨L, eL, hL, h1, h2⟩ := zki φ (n : Int) (by omega) (by omega)
  rw [eL, Option.bind_some]
  rw [Int.toNat_natCast] at h1 h2
  have hbm : ((b : Int)).tmod 2305843009213690799 = ((b % PP : Nat) : Int) := by
    rw [Int.tmod_eq_emod_of_nonneg (by omega)]; unfold PP; omega
  refine z51 (fun k i v => z5z φ (b : Int) (n : Int) (L : Int) (z6a φ) k v i) L (fun i v => v = ((pw b (n / 2 ^ (L - i)) : Nat) : Int)) (fun o => o = some ((pw b n : Nat) : Int)) ?_ ?_ φ 1 ?_ (by omega)
  · intro k i v hi hv hs
    rw [z5z, if_pos (by simp; omega)]
    subst hv
    rw [zsc (zhw _ _)]
    have hm := zeb (zhw b (n / 2 ^ (L - i))) (zhw b (n / 2 ^ (L - i))) φ (by omega)
    -- the square
    have hp := ze1 (m := 2305843009213690798) (n := 2305843009213690798) (a := ((pw b (n / 2 ^ (L - i)) : Nat) : Int)) (b := ((pw b (n / 2 ^ (L - i)) : Nat) : Int)) (by omega) (by omega) (by have := zhw b (n / 2 ^ (L - i)); unfold PP at this; omega) (by have := zhw b (n / 2 ^ (L - i)); unfold PP at this; omega)
    have e1 := zkd φ ((pw b (n / 2 ^ (L - i)) : Nat) : Int) ((pw b (n / 2 ^ (L - i)) : Nat) : Int) (by omega) (by have := zhw b (n / 2 ^ (L - i)); unfold PP at this; omega) (by omega) (by have := zhw b (n / 2 ^ (L - i)); unfold PP at this; omega)
    rw [e1, Option.bind_some] at hm
    rw [e1, Option.bind_some]
    have hw1 : W ((L : Int) - 1) = (L : Int) - 1 := W_id (by omega) (by omega)
    have hw2 : W ((L : Int) - 1 - (i : Int)) = ((L - 1 - i : Nat) : Int) := by rw [W_id (by omega) (by omega)]; omega
    cases hdv : z7w φ (((pw b (n / 2 ^ (L - i)) : Nat) : Int) * ((pw b (n / 2 ^ (L - i)) : Nat) : Int) / 18446744073709551616) (((pw b (n / 2 ^ (L - i)) : Nat) : Int) * ((pw b (n / 2 ^ (L - i)) : Nat) : Int) % 18446744073709551616) 2305843009213690799 with
    | none => rw [hdv] at hm; cases hm
    | some z =>
      rw [hdv, Option.bind_some] at hm
      have hz : z.2 = ((pw b (n / 2 ^ (L - i)) * pw b (n / 2 ^ (L - i)) % PP : Nat) : Int) := Option.some.inj hm
      rw [zp6] at hz
      rw [Option.bind_some, eL, Option.bind_some, hw1, hw2, zm (by omega), hz]
      have hsh := ztt (c := (n : Int)) (k := ((L - 1 - i : Nat) : Int)) (by omega) (by omega) (by omega)
      have hone : U ((BitVec.ofInt (IntKind.bits .u64) ((n : Int).fdiv (2 ^ (min (((L - 1 - i : Nat) : Int)).toNat (IntKind.bits .u64)))) &&& BitVec.ofInt (IntKind.bits .u64) 1).toNat) = ((n / 2 ^ (L - 1 - i) % 2 : Nat) : Int) := by
        rw [hsh, Int.toNat_natCast, Int.toNat_natCast]
        show U ((BitVec.ofInt 64 ((n / 2 ^ (L - 1 - i) : Nat) : Int) &&& BitVec.ofInt 64 1).toNat : Int) = _
        have hd : n / 2 ^ (L - 1 - i) ≤ n := Nat.div_le_self _ _
        rw [BitVec.toNat_and, z8y (Int.natCast_nonneg _) (by omega), z8y (by omega) (by omega), zro (zpk (by omega)), Int.toNat_natCast]
        show ((n / 2 ^ (L - 1 - i) &&& 1 : Nat) : Int) = _
        rw [Nat.and_one_is_mod]
      rw [hone]
      have hhalf : n / 2 ^ (L - i) = n / 2 ^ (L - 1 - i) / 2 := by
        rw [Nat.div_div_eq_div_mul, ← Nat.pow_succ]; congr 2; omega
      have hidx : L - (i + 1) = L - 1 - i := by omega
      have hW : W ((i : Int) + 1) = (i : Int) + 1 := W_id (by omega) (by omega)
      have hbit := Nat.mod_two_eq_zero_or_one (n / 2 ^ (L - 1 - i))
      rcases hbit with hbit | hbit
      · rw [hbit, if_neg (by simp)]
        unfold z7u
        rw [hW]
        refine hs _ ?_
        rw [hidx, hhalf]; congr 2; omega
      · rw [hbit, if_pos (by simp), zsc (zhw _ _), hbm]
        have hm2 := zeb (zhw b (n / 2 ^ (L - i) + n / 2 ^ (L - i))) (Nat.mod_lt b (by decide : 0 < PP)) φ (by omega)
        unfold z7u
        rw [hW]
        have key : ∀ (X : Option (Int × Int)) (G : Int × Int → Option (Int × Int)) (K : Int → Option Int) (r : Int), (X.bind fun y => (G y).bind fun z => some z.2) = some r → (X.bind fun y => (G y).bind fun z => K z.2) = K r := by
          intro X G K r h
          cases X with
          | none => cases h
          | some y =>
            rw [Option.bind_some] at h ⊢
            cases hG : G y with
            | none => rw [hG] at h; cases h
            | some z => rw [hG, Option.bind_some] at h; rw [Option.bind_some, Option.some.inj h]
        have := key _ (fun y => z7w φ y.1 y.2 2305843009213690799) (fun v => z5z φ (b : Int) (n : Int) (L : Int) (z6a φ) k v ((i : Int) + 1)) _ hm2
        refine Eq.trans this ?_
        refine hs _ ?_
        rw [← zu3 b, zp6, hidx, hhalf]; congr 2; omega
  · intro k v hv
    rw [z5z, if_neg (by simp), hv]
    unfold z6a
    rw [Nat.sub_self, Nat.pow_zero, Nat.div_one]
  · rw [Nat.sub_zero, Nat.div_eq_of_lt h1, zs3]; rfl
/-- What Valid answers. -/
def zs8 (x : Int) : Bool := decide (2 ≤ x) && decide (x < 2305843009213690799) && (pw x.toNat QQ == 1)
theorem zj6 (a : Nat) : (((a : Nat) : Int) == 1) = (a == 1) := by
  rw [Bool.eq_iff_iff, beq_iff_eq, beq_iff_eq]; omega
theorem zhs (φ : Nat) (hφ : 100 < φ) (x : Int) : za9 φ x = some (zs8 x) := by
  unfold za9 zs8
  cases h : decide (2 ≤ x) && decide (x < 2305843009213690799) with
  | false => rw [zap (by simp)]; simp
  | true =>
    simp only [Bool.and_eq_true, decide_eq_true_eq] at h
    have := zk4 φ hφ x.toNat QQ (by omega) (by decide)
    rw [show ((x.toNat : Nat) : Int) = x by omega, show ((QQ : Nat) : Int) = 1152921504606845399 by decide] at this
    rw [zak rfl, this, Option.bind_some, zj6]
end Px
end
section
namespace Px
open Go
set_option linter.unusedVariables false
set_option linter.unusedSimpArgs false
set_option maxRecDepth 100000
def zb6 (p : z7m) : Bool := bet p.fKind 1 5 && bet p.fRailway 0 15 && (bif p.fKind == 3 then bet p.fOther 0 15 && (p.fOther != p.fRailway) else p.fOther == (-1))
def zcw (n : Int) (e : Edge) : Bool := bet e.fA 0 (n - 1) && bet e.fB 0 (n - 1) && (e.fA != e.fB) && bet e.fRailway 0 15 && bet e.fMinutes 1 100000 && bet e.fKm 0 10000
def za7 (x : z8c) : Int := bif decide (512 < x.fPlaces.length) || decide (2048 < x.fEdges.length) then 2 else bif x.fPlaces.all zb6 && x.fEdges.all (zcw x.fPlaces.length) then 0 else 1
theorem zet (φ : Nat) (p : z7m) : z8j φ p = some (zb6 p) := by
  have hb : (((decide (p.fKind < 1) || decide (5 < p.fKind)) || decide (p.fRailway < 0)) || decide (16 ≤ p.fRailway)) = !(bet p.fKind 1 5 && bet p.fRailway 0 15) := by
    rw [Bool.eq_iff_iff]; simp [bet]; omega
  unfold z8j zb6
  rw [hb]
  cases bet p.fKind 1 5 && bet p.fRailway 0 15 with
  | false => rfl
  | true =>
    rw [if_neg (by simp)]
    by_cases h : p.fKind = 3
    · have : (decide (0 ≤ p.fOther) && decide (p.fOther < 16)) = bet p.fOther 0 15 := by rw [Bool.eq_iff_iff]; simp [bet]; omega
      rw [if_neg (by simp [h]), this]; simp [h]
    · have h2 : (p.fKind == 3) = false := by simpa using h
      rw [if_pos (by simp [h]), h2]; rfl
theorem zo0 (n : Int) (e : Edge) : ((((((decide ((min2 (min2 (min2 (e.fA) (e.fB)) (e.fRailway)) (e.fKm)) < 0) || decide (n ≤ (max2 (e.fA) (e.fB)))) || (e.fA == e.fB)) || decide (16 ≤ e.fRailway)) || decide (e.fMinutes < 1)) || decide (100000 < e.fMinutes)) || decide (10000 < e.fKm)) = !zcw n e := by
  have hm : ∀ x y z : Int, z ≤ max2 x y ↔ z ≤ x ∨ z ≤ y := by intro x y z; unfold max2; split <;> omega
  have hok : zcw n e = true ↔ ((((((0 ≤ e.fA ∧ e.fA ≤ n - 1) ∧ 0 ≤ e.fB ∧ e.fB ≤ n - 1) ∧ ¬ e.fA = e.fB) ∧ 0 ≤ e.fRailway ∧ e.fRailway ≤ 15) ∧ 1 ≤ e.fMinutes ∧ e.fMinutes ≤ 100000) ∧ 0 ≤ e.fKm ∧ e.fKm ≤ 10000) := by
    simp only [zcw, Bool.and_eq_true, zhi, bne_iff_ne, ne_eq]
  rw [Bool.eq_iff_iff, Bool.not_eq_true', ← Bool.not_eq_true, hok]
  simp only [Bool.or_eq_true, decide_eq_true_eq, zrr, hm, beq_iff_eq]
  omega
theorem zok (x : z8c) : (decide (512 < (x.fPlaces.length : Int)) || decide (2048 < (x.fEdges.length : Int))) = (decide (512 < x.fPlaces.length) || decide (2048 < x.fEdges.length)) := by
  congr 1 <;> (apply decide_eq_decide.2; omega)
theorem zek (φ : Nat) (hφ : 5000 < φ) (x : z8c) : z8n φ x = some (za7 x) := by
  unfold z8n za7
  rw [zok]
  cases h : decide (512 < x.fPlaces.length) || decide (2048 < x.fEdges.length) with
  | true => rfl
  | false =>
    simp only [Bool.or_eq_false_iff, decide_eq_false_iff_not, Nat.not_lt] at h
    rw [if_neg (by simp), zk9 (z4u φ x (z4j φ x)) (z4j φ x) (some 1) x.fPlaces (fun t => !zb6 t) ?_ ?_ φ (by omega)]
    · unfold z4j
      rw [zk9 (z4t φ x (z4z φ)) (z4z φ) (some 1) x.fEdges (fun t => !zcw x.fPlaces.length t) ?_ ?_ φ (by omega)]
      · simp only [List.any_eq_not_all_not, Bool.not_not]
        cases x.fPlaces.all zb6 <;> cases x.fEdges.all (zcw x.fPlaces.length) <;> rfl
      · intro n i hi
        rw [z4t, if_pos (by simp; omega), zm ⟨by omega, by omega⟩, zo0, W_id (by omega) (by omega)]
        cases zcw x.fPlaces.length (gt x.fEdges i) <;> rfl
      · intro n; rw [z4t, if_neg (by simp)]
    · intro n i hi
      rw [z4u, if_pos (by simp; omega), zm ⟨by omega, by omega⟩, zet, Option.bind_some, W_id (by omega) (by omega)]
      cases zb6 (gt x.fPlaces i) <;> rfl
    · intro n; rw [z4u, if_neg (by simp)]
theorem zn2 {x : z8c} (h : za7 x = 0) : x.fPlaces.length ≤ 512 ∧ x.fEdges.length ≤ 2048 ∧ (∀ p ∈ x.fPlaces, zb6 p = true) ∧ ∀ e ∈ x.fEdges, zcw x.fPlaces.length e = true := by
  unfold za7 at h
  cases h1 : decide (512 < x.fPlaces.length) || decide (2048 < x.fEdges.length) with
  | true => rw [h1] at h; cases h
  | false =>
    rw [h1] at h
    cases h2 : x.fPlaces.all zb6 && x.fEdges.all (zcw x.fPlaces.length) with
    | false => rw [h2] at h; cases h
    | true =>
      simp only [Bool.or_eq_false_iff, decide_eq_false_iff_not, Nat.not_lt] at h1
      simp only [Bool.and_eq_true, List.all_eq_true] at h2
      exact ⟨h1.1, h1.2, h2⟩
/-- What Check says of a calendar. -/
def zmj : Int → List Int → Bool
  | _, [] => true
  | p, h :: t => decide (p < h) && decide (h ≤ 745654) && zmj h t
def zgl (s : Span) : Bool := decide (0 ≤ s.fFrom) && decide (s.fFrom ≤ s.fTo) && decide (s.fTo ≤ 1440)
def zjy (c : z3e) : Bool := ((List.range 7).all fun i => zgl (c.fOpen i)) && zmj (-1) c.fHolidays
theorem zqp (φ : Nat) (c : z3e) : ∀ (n i : Nat) (p : Int), -1 ≤ p → (i : Int) ≤ p + 1 → p ≤ 745654 → i ≤ c.fHolidays.length → 745656 ≤ (n : Int) + p → z50 φ c (z5h φ) n p i = some (bif zmj p (c.fHolidays.drop i) then 0 else 1) := by
  intro n
  induction n with
  | zero => intro i p _ _ _ _ _; omega
  | succ n ih =>
    intro i p hp hip hp2 hi hn
    by_cases h : i = c.fHolidays.length
    · rw [h, z50, if_neg (by simp), List.drop_length]; rfl
    · rw [z50, if_pos (by simp; omega), zm ⟨by omega, by omega⟩, zlw _ _ (by omega)]
      by_cases hb : gt c.fHolidays i ≤ p ∨ 745654 < gt c.fHolidays i
      · have : (decide (p < gt c.fHolidays i) && decide (gt c.fHolidays i ≤ 745654)) = false := by simp; omega
        rw [if_pos (by simpa using hb)]
        simp [zmj, this]
      · have h2 : (decide (p < gt c.fHolidays i) && decide (gt c.fHolidays i ≤ 745654)) = true := by simp; omega
        rw [if_neg (by simpa using hb), W_id (by omega) (by omega)]
        have := ih (i + 1) (gt c.fHolidays i) (by omega) (by omega) (by omega) (by omega) (by omega)
        rw [show ((i + 1 : Nat) : Int) = (i : Int) + 1 by omega] at this
        rw [this]
        simp [zmj, h2]
theorem zh2 (s : Span) : ((decide (s.fFrom < 0) || decide (s.fTo < s.fFrom)) || decide (1440 < s.fTo)) = !zgl s := by
  rw [Bool.eq_iff_iff]; simp [zgl]
  try omega
theorem zdx (φ : Nat) (hφ : 800000 < φ) (c : z3e) : z88 φ c = some (bif zjy c then 0 else 1) := by
  unfold z88
  refine z51 (fun n i (_ : Unit) => z48 φ c (z4r φ c) n i) 7 (fun i _ => ((List.range i).all fun j => zgl (c.fOpen j)) = true) (fun o => o = some (bif zjy c then 0 else 1)) ?_ ?_ φ () (by simp) (by omega)
  · intro n i _ hi h hs
    rw [z48, if_pos (by simp; omega), zm ⟨by omega, by omega⟩, Int.toNat_natCast, zh2, W_id (by omega) (by omega)]
    cases ho : zgl (c.fOpen i) with
    | true =>
      rw [if_neg (by simp)]
      exact hs () (by rw [zbw, h, ho]; rfl)
    | false =>
      have : zjy c = false := by
        unfold zjy
        have : ((List.range 7).all fun j => zgl (c.fOpen j)) = false := by
          rw [List.all_eq_false]; exact ⟨i, by simp; omega, by simp [ho]⟩
        rw [this]; rfl
      rw [if_pos (by simp), this]; rfl
  · intro n _ h
    rw [z48, if_neg (by simp)]
    unfold z4r zjy
    rw [h, Bool.true_and]
    have := zqp φ c φ 0 (-1) (by omega) (by omega) (by omega) (by omega) (by omega)
    simpa using this
end Px
end
section
namespace Px
open Go
set_option linter.unusedVariables false
set_option linter.unusedSimpArgs false
set_option maxRecDepth 100000
/-- A loop that gathers a flag. -/
theorem zdn {α ρ : Type} [Inhabited α] (L : Nat → Bool → Int → Option ρ) (k : Bool → Option ρ) (l : List α) (p : α → Bool)
    (step : ∀ (n i : Nat) (s : Bool), i < l.length → L (n + 1) s i = L n (s || p (gt l i)) ((i : Int) + 1)) (done : ∀ n s, L (n + 1) s l.length = k s) (n : Nat) (s : Bool) (hn : l.length < n) : L n s 0 = k (s || l.any p) := by
  refine z51 (fun n i t => L n t i) l.length (fun i t => t = (s || (l.take i).any p)) (fun o => o = k (s || l.any p)) ?_ ?_ n s (by simp) hn
  · intro n i t hi ht hs
    rw [step n i t hi]
    exact hs _ (by rw [zan _ _ _ hi, ht, Bool.or_assoc])
  · intro n t ht
    rw [List.take_length] at ht
    rw [done, ht]
def zfq (n : Int) (r : zcu) : Bool := (((!bet r.fPlace 0 (n - 1)) || decide (r.fLow < (-1000))) || decide (r.fHigh < r.fLow)) || decide (1000 < r.fHigh)
def zdu (x : z8c) (s : zar) : Bool := (!bet s.fPlace 0 ((x.fPlaces.length : Int) - 1)) || ((gt x.fPlaces s.fPlace).fKind != 4)
def zjk (r : z2j) : Bool := !zjy r.fCalendar || !zs8 r.fKey
def zfc (x : Pool) : Bool :=
  ((((((x.fRailways.length : Int) == 0) || x.fReaders.any (zfq x.fNetwork.fPlaces.length)) || x.fShippers.any (zdu x.fNetwork)) || x.fFleet.fWagons.any (fun w => decide ((x.fNetwork.fPlaces.length : Int) ≤ w.fHome))) ||
  x.fNetwork.fPlaces.any (fun p => decide ((x.fRailways.length : Int) ≤ p.fRailway) || decide ((x.fRailways.length : Int) ≤ p.fOther))) || x.fNetwork.fEdges.any (fun e => decide ((x.fRailways.length : Int) ≤ e.fRailway)) || x.fRailways.any zjk
def zfm (x : Pool) : Bool := (decide (256 < (x.fReaders.length : Int)) || decide (256 < (x.fShippers.length : Int))) || decide (16 < (x.fRailways.length : Int))
/-- What CheckPool answers. -/
def z4e (x : Pool) : Int := if za7 x.fNetwork ≠ 0 then za7 x.fNetwork else if z8l x.fFleet ≠ 0 then z8l x.fFleet else bif zfm x then 2 else bif zfc x then 1 else 0
theorem z5v (φ : Nat) (hφ : 800000 < φ) (x : Pool) : z4c φ x = some (z4e x) := by
  unfold z4c z4e
  rw [zek _ (by omega), Option.bind_some]
  by_cases hn : za7 x.fNetwork = 0
  case neg => rw [if_pos (by simp [hn]), if_pos hn]
  rw [if_neg (by simp [hn]), if_neg (fun e : za7 x.fNetwork ≠ 0 => e hn), zfz _ (by omega), Option.bind_some]
  by_cases hf : z8l x.fFleet = 0
  case neg => rw [if_pos (by simp [hf]), if_pos hf]
  rw [if_neg (by simp [hf]), if_neg (fun e : z8l x.fFleet ≠ 0 => e hf)]
  cases hb : zfm x with
  | true =>
    have e : (((decide (256 < (x.fReaders.length : Int)) || decide (256 < (x.fShippers.length : Int))) || decide (16 < (x.fRailways.length : Int)))) = zfm x := rfl
    rw [e, hb]; rfl
  | false =>
    have hb' : ¬ (((decide (256 < (x.fReaders.length : Int)) || decide (256 < (x.fShippers.length : Int))) || decide (16 < (x.fRailways.length : Int))) = true) := by
      rw [show (((decide (256 < (x.fReaders.length : Int)) || decide (256 < (x.fShippers.length : Int))) || decide (16 < (x.fRailways.length : Int)))) = zfm x from rfl, hb]; simp
    rw [if_neg hb']
    simp only [Bool.or_eq_true, decide_eq_true_eq, not_or] at hb'
    obtain ⟨n1, n2, _, _⟩ := zn2 hn
    obtain ⟨f1, f2, _⟩ := zc8 hf
    have hp : W ((x.fNetwork.fPlaces.length : Int) - 1) = (x.fNetwork.fPlaces.length : Int) - 1 := W_id (by omega) (by omega)
    rw [zdn (z3g φ x (z38 φ x)) (z38 φ x) x.fReaders (zfq x.fNetwork.fPlaces.length) ?_ ?_ φ _ (by omega)]
    rotate_left
    · intro n i s hi
      rw [z3g, if_pos (by simp; omega), zm ⟨by omega, by omega⟩, hp, W_id (by omega) (by omega)]
      unfold zfq
      cases s with
      | true => rw [zap (by simp)]; rfl
      | false => rw [zak rfl]; rfl
    · intro n s; rw [z3g, if_neg (by simp)]
    unfold z38
    rw [zdn (z3t φ x (z3b φ x)) (z3b φ x) x.fShippers (zdu x.fNetwork) ?_ ?_ φ _ (by omega)]
    rotate_left
    · intro n i s hi
      rw [z3t, if_pos (by simp; omega), zm ⟨by omega, by omega⟩, hp, W_id (by omega) (by omega)]
      unfold zdu
      cases s with
      | true => rw [zap (by simp), Option.bind_some, zm (by simp)]; rfl
      | false =>
        rw [zak rfl, z6o, Option.bind_some]
        cases hbt : bet (gt x.fShippers i).fPlace 0 ((x.fNetwork.fPlaces.length : Int) - 1) with
        | true => rw [zm (fun _ => by have := zr0 hbt; omega)]; rfl
        | false => rw [zm (by simp)]; rfl
    · intro n s; rw [z3t, if_neg (by simp)]
    unfold z3b
    rw [zdn (z3n φ x (z3a φ x)) (z3a φ x) x.fFleet.fWagons (fun w => decide ((x.fNetwork.fPlaces.length : Int) ≤ w.fHome)) ?_ ?_ φ _ (by omega)]
    rotate_left
    · intro n i s hi
      rw [z3n, if_pos (by simp; omega), zm ⟨by omega, by omega⟩, W_id (by omega) (by omega)]
    · intro n s; rw [z3n, if_neg (by simp)]
    unfold z3a
    rw [zdn (z3q φ x (z3c φ x)) (z3c φ x) x.fNetwork.fPlaces (fun p => decide ((x.fRailways.length : Int) ≤ p.fRailway) || decide ((x.fRailways.length : Int) ≤ p.fOther)) ?_ ?_ φ _ (by omega)]
    rotate_left
    · intro n i s hi
      rw [z3q, if_pos (by simp; omega), zm ⟨by omega, by omega⟩, W_id (by omega) (by omega), Bool.or_assoc]
    · intro n s; rw [z3q, if_neg (by simp)]
    unfold z3c
    rw [zdn (z3u φ x (z39 φ x)) (z39 φ x) x.fNetwork.fEdges (fun e => decide ((x.fRailways.length : Int) ≤ e.fRailway)) ?_ ?_ φ _ (by omega)]
    rotate_left
    · intro n i s hi
      rw [z3u, if_pos (by simp; omega), zm ⟨by omega, by omega⟩, W_id (by omega) (by omega)]
    · intro n s; rw [z3u, if_neg (by simp)]
    unfold z39
    rw [zdn (z3w φ x (z2y φ)) (z2y φ) x.fRailways zjk ?_ ?_ φ _ (by omega)]
    rotate_left
    · intro n i s hi
      rw [z3w, if_pos (by simp; omega), zm ⟨by omega, by omega⟩, W_id (by omega) (by omega)]
      unfold zjk
      cases s with
      | true => rw [zap (by simp), Option.bind_some, zap (by simp)]; rfl
      | false =>
        rw [zak rfl, zdx _ hφ, Option.bind_some]
        cases zjy (gt x.fRailways i).fCalendar with
        | false => rw [zap (by simp)]; rfl
        | true => rw [zak (by simp), zhs _ (by omega)]; rfl
    · intro n s; rw [z3w, if_neg (by simp)]
    show z2y φ (zfc x) = _
    unfold z2y
    cases zfc x <;> rfl
end Px
end
section
namespace Px
open Go
set_option linter.unusedVariables false
set_option linter.unusedSimpArgs false
set_option maxRecDepth 100000
def zob (it : Item) : Bool := bif zd0 it.fRef (Ref.mk 0 0) then it.fKind != 14 else (((decide (0 ≤ it.fRef.fRailway) && decide (it.fRef.fRailway < 16)) && decide (1 ≤ it.fRef.fNo)) && decide (it.fRef.fNo ≤ 4096))
theorem zeo (φ : Nat) (it : Item) : z8k φ it = some (zob it) := by
  unfold z8k zob
  cases zd0 it.fRef (Ref.mk 0 0) <;> rfl
theorem zf7 (φ : Nat) (hφ : 11 < φ) (it : Item) (v : Bool) :
    z56 φ it (z5u φ it) φ 0 v = some (((v && [0, 0, 0, it.fNumber, 0, it.fTo, 0, it.fDest, it.fClass, it.fWeight, it.fAmount].all fun x => x == 0) && (it.fText == zfp)) && ((it.fParts.length : Int) == 0)) := by
  refine z51 (z56 φ it (z5u φ it)) 11 (fun n s => s = (v && ([0, 0, 0, it.fNumber, 0, it.fTo, 0, it.fDest, it.fClass, it.fWeight, it.fAmount].take n).all fun x => x == 0)) (fun o => o = some (((v && [0, 0, 0, it.fNumber, 0, it.fTo, 0, it.fDest, it.fClass, it.fWeight, it.fAmount].all fun x => x == 0) && (it.fText == zfp)) && ((it.fParts.length : Int) == 0))) ?_ ?_ φ v (by simp) hφ
  · intro n m s hm hs hk
    rw [z56, if_pos (by simp; omega), zm ⟨by omega, by omega⟩, W_id (by omega) (by omega)]
    refine hk _ ?_
    rw [zch _ _ _ hm, hs, Bool.and_assoc]
  · intro n s hs
    rw [z56, if_neg (by simp), hs]
    rfl
def plIn (p : Pool) (it : Item) : Bool := decide (0 ≤ it.fPlace) && decide (it.fPlace < (p.fNetwork.fPlaces.length : Int))
/-- The fields of a delivery or a receipt. -/
def zn9 (p : Pool) (it : Item) : Bool :=
  plIn p it && bet it.fWagon 0 ((p.fFleet.fWagons.length : Int) - 1) && ((gt p.fNetwork.fPlaces it.fPlace).fKind == 3) && ((it.fOther == (gt p.fNetwork.fPlaces it.fPlace).fRailway) || (it.fOther == (gt p.fNetwork.fPlaces it.fPlace).fOther)) &&
  bet it.fFrom 0 1073741824 && bet it.fCode 0 8 && (it.fNumber == 0) && (it.fTo == 0) && (it.fDest == 0) && (it.fClass == 0) && (it.fWeight == 0) && (it.fAmount == 0) && (it.fText == zfp) && ((it.fParts.length : Int) == 0)
theorem zf0 (φ : Nat) (hφ : 11 < φ) (p : Pool) (it : Item) (hk : it.fKind = 3 ∨ it.fKind = 4) (hw : p.fFleet.fWagons.length ≤ 4096) : z9k φ p it = some (zn9 p it) := by
  have h161 : z9k φ p it = z6w φ p it true := by
    unfold z9k
    rcases hk with h | h <;> simp only [h] <;> rfl
  have hW : W ((p.fFleet.fWagons.length : Int) - 1) = (p.fFleet.fWagons.length : Int) - 1 := W_id (by omega) (by omega)
  rw [h161]
  unfold z6w z7g zn9
  rw [if_pos rfl]
  have hpl : (decide (0 ≤ it.fPlace) && decide (it.fPlace < (p.fNetwork.fPlaces.length : Int))) = plIn p it := rfl
  rw [hpl, hW]
  cases hp : plIn p it with
  | true =>
    unfold plIn at hp
    rw [if_pos rfl, zm (by simpa using hp), zf7 φ hφ]
    congr 1
    unfold bet
    generalize (it.fText == zfp) = z
    rw [Bool.eq_iff_iff]
    simp only [List.all_cons, List.all_nil, Bool.and_eq_true, Bool.or_eq_true, decide_eq_true_eq, beq_iff_eq, bne_iff_ne, ne_eq, beq_self_eq_true, true_and, and_true]
    generalize (gt p.fNetwork.fPlaces it.fPlace).fKind = k
    constructor
    · intro h
      obtain ⟨⟨⟨h1, h2⟩, h3⟩, h4⟩ := h
      refine ⟨⟨⟨⟨⟨⟨⟨⟨⟨⟨⟨⟨?_, ?_⟩, ?_⟩, ?_⟩, ?_⟩, ?_⟩, ?_⟩, ?_⟩, ?_⟩, ?_⟩, ?_⟩, h3⟩, h4⟩ <;> first | omega | grind
    · intro h
      grind
  | false =>
    rw [if_neg (by simp), zf7 φ hφ]
    simp
/-- Whether an item that is a delivery or a receipt is valid. -/
def okDR (p : Pool) (it : Item) : Bool := zob it && zn9 p it
theorem zgb (φ : Nat) (hφ : 800000 < φ) (p : Pool) (it : Item) (hk : it.fKind = 3 ∨ it.fKind = 4) :
    z94 φ p it = some (if z4e p ≠ 0 then z4e p else if okDR p it = true then 0 else 110) := by
  unfold z94
  simp only [Pool.eta', Item.eta', z5v φ hφ, zeo, Option.bind_some]
  by_cases h : z4e p = 0
  · rw [if_neg (by simp [h]), if_neg (fun e : z4e p ≠ 0 => e h)]
    unfold okDR
    have hw : p.fFleet.fWagons.length ≤ 4096 := by
      unfold z4e at h
      by_cases hn : za7 p.fNetwork = 0
      · rw [if_neg (fun e : za7 p.fNetwork ≠ 0 => e hn)] at h
        by_cases hf : z8l p.fFleet = 0
        · exact (zc8 hf).2.1
        · rw [if_pos hf] at h; exact absurd h hf
      · rw [if_pos hn] at h; exact absurd h hn
    cases hr : zob it with
    | false => rw [zap (by simp)]; rfl
    | true =>
      rw [zak (by simp), zf0 φ (by omega) p it hk hw]
      cases zn9 p it <;> rfl
  · rw [if_pos (by simp [h]), if_pos h]
theorem zl5 {p : Pool} {it : Item} (h : okDR p it = true) : (0 ≤ it.fPlace ∧ it.fPlace < (p.fNetwork.fPlaces.length : Int)) ∧ (0 ≤ it.fFrom ∧ it.fFrom ≤ 1073741824) ∧ (0 ≤ it.fCode ∧ it.fCode ≤ 8) ∧ (0 ≤ it.fWagon ∧ it.fWagon < (p.fFleet.fWagons.length : Int)) := by
  simp only [okDR, zn9, plIn, Bool.and_eq_true, decide_eq_true_eq, zhi] at h
  obtain ⟨_, h⟩ := h
  have h1 := h.1.1.1.1.1.1.1.1
  obtain ⟨⟨⟨⟨⟨h2, h3⟩, _⟩, _⟩, h4⟩, h5⟩ := h1
  exact ⟨h2, h4, h5, h3.1, by omega⟩
end Px
end
section
namespace Px
open Go
set_option linter.unusedVariables false
set_option linter.unusedSimpArgs false
theorem zhy {x y : Ref} : zd0 x y = true ↔ x = y := by
  cases x; cases y; simp [zd0]
theorem zl7 (x : z3) : zai x x = true := by simp [zai]
theorem zlg (x : zi) : zbf x x = true := by simp [zbf]
theorem zd1 (φ : Nat) (l : List z3) (h : l.length < φ) (hl : l.length ≤ 100000) : z4n φ l l = some true := by
  unfold z4n
  rw [if_neg (by simp)]
  refine z51 (fun n i (_ : Unit) => z2z φ l l (z3i φ) n i) l.length (fun _ _ => True) (fun o => o = some true) ?_ ?_ φ () trivial h
  · intro n i _ hi _ hk
    rw [z2z, if_pos (by simp; omega), zm ⟨by omega, by omega⟩, zm ⟨by omega, by omega⟩, zl7, if_neg (by simp), W_id (by omega) (by omega)]
    exact hk () trivial
  · intro n _ _
    rw [z2z, if_neg (by simp)]; rfl
theorem zhu (φ : Nat) (l : List Ref) (h : l.length < φ) (hl : l.length ≤ 200000) : z7i φ l l = some true := by
  unfold z7i
  rw [if_neg (by simp)]
  refine z51 (fun n i (_ : Unit) => z4s φ l l (z5g φ) n i) l.length (fun _ _ => True) (fun o => o = some true) ?_ ?_ φ () trivial h
  · intro n i _ hi _ hk
    rw [z4s, if_pos (by simp; omega), zm ⟨by omega, by omega⟩, zm ⟨by omega, by omega⟩, zhy.2 rfl, if_neg (by simp), W_id (by omega) (by omega)]
    exact hk () trivial
  · intro n _ _
    rw [z4s, if_neg (by simp)]; rfl
theorem znn (φ : Nat) (l : List zi) (h : l.length < φ) (hl : l.length ≤ 200000) : z8s φ l l = some true := by
  unfold z8s
  rw [if_neg (by simp)]
  refine z51 (fun n i (_ : Unit) => z6p φ l l (z7a φ) n i) l.length (fun _ _ => True) (fun o => o = some true) ?_ ?_ φ () trivial h
  · intro n i _ hi _ hk
    rw [z6p, if_pos (by simp; omega), zm ⟨by omega, by omega⟩, zm ⟨by omega, by omega⟩, zlg, if_neg (by simp), W_id (by omega) (by omega)]
    exact hk () trivial
  · intro n _ _
    rw [z6p, if_neg (by simp)]; rfl
theorem zog (φ : Nat) (hφ : 100 < φ) (p : Pool) : ∃ b, z7p φ p = some b ∧ (b = true → p.fRailways.length ≤ 17) := by
  unfold z7p
  split
  · exact ⟨false, rfl, by simp⟩
  · rename_i h
    have hr : p.fRailways.length ≤ 17 := by
      simp only [Bool.or_eq_true, decide_eq_true_eq, not_or] at h; omega
    refine z51 (fun n i (_ : Unit) => z3s φ p (z4o φ) n i) p.fRailways.length (fun _ _ => True) (fun o => ∃ b, o = some b ∧ (b = true → p.fRailways.length ≤ 17)) ?_ ?_ φ () trivial (by omega)
    · intro n i _ hi _ hk
      rw [z3s, if_pos (by simp; omega), zm ⟨by omega, by omega⟩]
      split
      · exact ⟨false, rfl, by simp⟩
      · rw [W_id (by omega) (by omega)]; exact hk () trivial
    · intro n _ _
      rw [z3s, if_neg (by simp)]; exact ⟨true, rfl, fun _ => hr⟩
theorem zqk (φ : Nat) (m : Nat) (hm : m ≤ 100000) (hφ : m < φ) (l : List zb) : ∃ b, z6l φ l (m : Int) = some b ∧ (b = true → l.length ≤ m) := by
  unfold z6l
  split
  · exact ⟨false, rfl, by simp⟩
  · rename_i h
    have hr : l.length ≤ m := by
      simp only [decide_eq_true_eq] at h; omega
    refine z51 (fun n i (_ : Unit) => z3r φ l (z4m φ) n i) l.length (fun _ _ => True) (fun o => ∃ b, o = some b ∧ (b = true → l.length ≤ m)) ?_ ?_ φ () trivial (by omega)
    · intro n i _ hi _ hk
      rw [z3r, if_pos (by simp; omega), zm ⟨by omega, by omega⟩]
      split
      · exact ⟨false, rfl, by simp⟩
      · rw [W_id (by omega) (by omega)]; exact hk () trivial
    · intro n _ _
      rw [z3r, if_neg (by simp)]; exact ⟨true, rfl, fun _ => hr⟩
theorem zux (φ : Nat) (hφ : 100 < φ) (p : Pool) (l : List zb) : ∃ b, zb0 φ p l = some b ∧ (b = true → l.length ≤ 60 ∧ p.fRailways.length ≤ 17) := by
  unfold zb0
  obtain ⟨a, h1, h2⟩ := zog φ hφ p
  obtain ⟨c, h3, h4⟩ := zqk φ 60 (by omega) (by omega) l
  simp only [Pool.eta', h1, Option.bind_some]
  cases a with
  | false => rw [zap (by simp)]; exact ⟨false, rfl, by simp⟩
  | true =>
    rw [zak rfl]
    have h3' : z6l φ l 60 = some c := h3
    rw [h3', Option.bind_some]
    exact ⟨c, by simp, fun e => ⟨h4 e, h2 rfl⟩⟩
/-- All Refs are different. -/
def Diff (l : List zb) : Prop := ∀ i j : Nat, i < l.length → j < l.length → (gt l (i : Int)).fRef = (gt l (j : Int)).fRef → i = j
theorem zic (φ : Nat) (l : List zb) (hl : l.length ≤ 100000) (hφ : l.length < φ) : ∃ b, z7q φ l = some b ∧ (b = true → Diff l) := by
  unfold z7q
  refine z51 (fun n i (_ : Unit) => z2c φ l (z2o φ) n i) l.length (fun i _ => ∀ a b : Nat, a < i → b < i → (gt l (a : Int)).fRef = (gt l (b : Int)).fRef → a = b) (fun o => ∃ b, o = some b ∧ (b = true → Diff l)) ?_ ?_ φ () (by omega) hφ
  · intro n i _ hi hI hk
    rw [z2c, if_pos (by simp; omega)]
    refine z51 (fun m j (_ : Unit) => z46 φ l (i : Int) (z45 φ (i : Int) (z2c φ l (z2o φ) n)) m j) i (fun j _ => ∀ b : Nat, b < j → (gt l (i : Int)).fRef ≠ (gt l (b : Int)).fRef) (fun o => ∃ b, o = some b ∧ (b = true → Diff l)) ?_ ?_ φ () (by omega) (by omega)
    · intro m j _ hj hJ hk2
      rw [z46, if_pos (by simp; omega), zm ⟨by omega, by omega⟩, zm ⟨by omega, by omega⟩]
      cases he : zd0 (gt l (i : Int)).fRef (gt l (j : Int)).fRef with
      | true => exact ⟨false, rfl, by simp⟩
      | false =>
        rw [if_neg (by simp), W_id (by omega) (by omega)]
        refine hk2 () fun b hb => ?_
        by_cases e : b = j
        · subst e
          intro e2; rw [zhy.2 e2] at he; cases he
        · exact hJ b (by omega)
    · intro m _ hJ
      rw [z46, if_neg (by simp)]
      unfold z45
      rw [W_id (by omega) (by omega)]
      refine hk () fun a b ha hb e => ?_
      by_cases h1 : a = i
      · by_cases h2 : b = i
        · omega
        · subst h1; exact absurd e (hJ b (by omega))
      · by_cases h2 : b = i
        · subst h2; exact absurd e.symm (hJ a (by omega))
        · exact hI a b (by omega) (by omega) e
  · intro n _ hI
    rw [z2c, if_neg (by simp)]
    exact ⟨true, rfl, fun _ i j hi hj e => hI i j hi hj e⟩
theorem zkw {l : List zb} (hd : Diff l) {i j : Int} (hi : 0 ≤ i ∧ i < (l.length : Int)) (hj : 0 ≤ j ∧ j < (l.length : Int)) (e : (gt l i).fRef = (gt l j).fRef) : i = j := by
  have := hd i.toNat j.toNat (by omega) (by omega) (by rw [Int.toNat_of_nonneg hi.1, Int.toNat_of_nonneg hj.1]; exact e)
  omega
end Px
end
section
namespace Px
open Go
set_option linter.unusedVariables false
set_option linter.unusedSimpArgs false
set_option maxHeartbeats 1000000
section
theorem zla (φ : Nat) (P Z Q : List Ref) (c : Nat) : ∀ (n : Nat) (X1 X2 Y1 Y2 : List Ref), X1.length = Y1.length → X2.length = Y2.length → c = X1.length + X2.length → P.length + c + Z.length + c + Q.length ≤ 1000000 → X2.length < n →
    z19 φ (P.length : Int) ((P.length : Int) + c + Z.length) (c : Int) n (X1.length : Int) (P ++ Y1 ++ X2 ++ Z ++ X1 ++ Y2 ++ Q) = some (P ++ Y1 ++ Y2 ++ Z ++ X1 ++ X2 ++ Q) := by
  intro n
  induction n with
  | zero => intro X1 X2 Y1 Y2 _ _ _ _ h; omega
  | succ n ih =>
    intro X1 X2 Y1 Y2 h1 h2 hc hl hn
    cases X2 with
    | nil =>
      have : Y2 = [] := List.eq_nil_of_length_eq_zero (by simpa using h2.symm)
      subst this
      simp only [List.length_nil, Nat.add_zero] at hc
      rw [z19, if_neg (by simp; omega)]
    | cons x X2 =>
      cases Y2 with
      | nil => simp at h2
      | cons w Y2 =>
        simp only [List.length_cons, Nat.add_right_cancel_iff] at h2 hc hn
        have w1 : W ((P.length : Int) + c + Z.length + X1.length) = (P.length : Int) + c + Z.length + X1.length := W_id (by omega) (by omega)
        have w2 : W ((P.length : Int) + X1.length) = (P.length : Int) + X1.length := W_id (by omega) (by omega)
        have w3 : W ((X1.length : Int) + 1) = (X1.length : Int) + 1 := W_id (by omega) (by omega)
        have e1 : P ++ Y1 ++ x :: X2 ++ Z ++ X1 ++ w :: Y2 ++ Q = (P ++ Y1) ++ x :: (X2 ++ Z ++ X1 ++ w :: Y2 ++ Q) := by simp
        have e2 : P ++ Y1 ++ x :: X2 ++ Z ++ X1 ++ w :: Y2 ++ Q = (P ++ Y1 ++ x :: X2 ++ Z ++ X1) ++ w :: (Y2 ++ Q) := by simp
        have g1 : gt (P ++ Y1 ++ x :: X2 ++ Z ++ X1 ++ w :: Y2 ++ Q) ((P.length : Int) + X1.length) = x := by rw [e1]; exact z5b (by simp; omega)
        have g2 : gt (P ++ Y1 ++ x :: X2 ++ Z ++ X1 ++ w :: Y2 ++ Q) ((P.length : Int) + c + Z.length + X1.length) = w := by rw [e2]; exact z5b (by simp; omega)
        have s1 : z1t (P ++ Y1 ++ x :: X2 ++ Z ++ X1 ++ w :: Y2 ++ Q) ((P.length : Int) + X1.length) w = (P ++ Y1) ++ w :: (X2 ++ Z ++ X1 ++ w :: Y2 ++ Q) := by rw [e1]; exact z7e (by simp; omega)
        have e3 : (P ++ Y1) ++ w :: (X2 ++ Z ++ X1 ++ w :: Y2 ++ Q) = (P ++ Y1 ++ w :: X2 ++ Z ++ X1) ++ w :: (Y2 ++ Q) := by simp
        have s2 : z1t ((P ++ Y1 ++ w :: X2 ++ Z ++ X1) ++ w :: (Y2 ++ Q)) ((P.length : Int) + c + Z.length + X1.length) x = (P ++ Y1 ++ w :: X2 ++ Z ++ X1) ++ x :: (Y2 ++ Q) := z7e (by simp; omega)
        have e4 : (P ++ Y1 ++ w :: X2 ++ Z ++ X1) ++ x :: (Y2 ++ Q) = P ++ (Y1 ++ [w]) ++ X2 ++ Z ++ (X1 ++ [x]) ++ Y2 ++ Q := by simp
        have hlen : ((P ++ Y1 ++ x :: X2 ++ Z ++ X1 ++ w :: Y2 ++ Q).length : Int) = P.length + c + Z.length + c + Q.length := by simp; omega
        have hlen2 : (((P ++ Y1 ++ w :: X2 ++ Z ++ X1) ++ w :: (Y2 ++ Q)).length : Int) = P.length + c + Z.length + c + Q.length := by simp; omega
        rw [z19, if_pos (by simp; omega), w1, w2, w3, g1, g2, s1, e3, s2, e4, hlen, hlen2]
        rw [zm ⟨by omega, by omega⟩, zm ⟨by omega, by omega⟩, zm ⟨by omega, by omega⟩]
        have := ih (X1 ++ [x]) X2 (Y1 ++ [w]) Y2 (by simp [h1]) h2 (by simp; omega) hl (by omega)
        have e5 : (((X1 ++ [x]).length : Nat) : Int) = (X1.length : Int) + 1 := by simp
        rw [e5] at this
        rw [this]
        simp
theorem zf1 (φ : Nat) (P X Z Y Q : List Ref) (y : Ref → Ref → Option Int) (h : X.length = Y.length) (hl : P.length + X.length + Z.length + X.length + Q.length ≤ 1000000) (hφ : X.length < φ) :
    z2k φ (P ++ X ++ Z ++ Y ++ Q) (P.length : Int) ((P.length : Int) + X.length + Z.length) (X.length : Int) y = some (P ++ Y ++ Z ++ X ++ Q) := by
  have := zla φ P Z Q X.length φ [] X [] Y rfl h (by simp) hl hφ
  simpa [z2k] using this
theorem zm8 (φ : Nat) (y : Ref → Ref → Option Int) : ∀ (n : Nat) (P X Y Q : List Ref), X ≠ [] → Y ≠ [] → P.length + X.length + Y.length + Q.length ≤ 1000000 → X.length + Y.length ≤ n → X.length + Y.length < φ →
    z1o φ ((P.length : Int) + X.length) y (z1u φ ((P.length : Int) + X.length) y) n (X.length : Int) (Y.length : Int) (P ++ X ++ Y ++ Q) = some (P ++ Y ++ X ++ Q) := by
  intro n
  induction n with
  | zero => intro P X Y Q hX hY _ h; have := List.length_pos_iff.2 hX; omega
  | succ n ih =>
    intro P X Y Q hX hY hl hn hφ
    have hX0 := List.length_pos_iff.2 hX
    have hY0 := List.length_pos_iff.2 hY
    have w1 : W ((P.length : Int) + X.length - X.length) = (P.length : Int) := by rw [W_id (by omega) (by omega)]; omega
    rw [z1o, w1]
    by_cases he : X.length = Y.length
    · rw [if_neg (by simp [he])]
      unfold z1u
      rw [w1]
      have := zf1 φ P X [] Y Q y he (by simp; omega) (by omega)
      simp only [List.append_nil, List.length_nil, Int.ofNat_zero, Int.add_zero] at this
      rw [this]; rfl
    · rw [if_pos (by simp; omega)]
      by_cases hlt : Y.length < X.length
      · rw [if_pos (by simp; omega)]
        obtain ⟨X1, X2, rfl, h1⟩ : ∃ X1 X2, X = X1 ++ X2 ∧ X1.length = Y.length := ⟨X.take Y.length, X.drop Y.length, (List.take_append_drop _ _).symm, by simp; omega⟩
        simp only [List.length_append] at hl hn hφ hlt hX0 he
        have e1 : P ++ (X1 ++ X2) ++ Y ++ Q = P ++ X1 ++ X2 ++ Y ++ Q := by simp
        have e2 : (P.length : Int) + ((X1 ++ X2).length : Nat) = (P.length : Int) + X1.length + X2.length := by simp; omega
        rw [e1, e2, ← h1, zf1 φ P X1 X2 Y Q y h1 (by omega) (by omega)]
        simp only [Option.bind_some]
        have w2 : W (((X1 ++ X2).length : Int) - X1.length) = (X2.length : Int) := by simp; rw [W_id (by omega) (by omega)]; omega
        rw [w2]
        have := ih (P ++ Y) X2 X1 Q (by intro e; subst e; simp at hlt; omega) (by intro e; subst e; simp at h1; omega) (by simp; omega) (by omega) (by omega)
        have e3 : (((P ++ Y).length : Nat) : Int) + X2.length = (P.length : Int) + X1.length + X2.length := by simp; omega
        rw [e3] at this
        rw [this]
        simp
      · rw [if_neg (by simp; omega)]
        obtain ⟨Y1, Y2, rfl, h1⟩ : ∃ Y1 Y2, Y = Y1 ++ Y2 ∧ Y2.length = X.length := ⟨Y.take (Y.length - X.length), Y.drop (Y.length - X.length), (List.take_append_drop _ _).symm, by simp; omega⟩
        simp only [List.length_append] at hl hn hφ hlt hY0 he
        have e1 : P ++ X ++ (Y1 ++ Y2) ++ Q = P ++ X ++ Y1 ++ Y2 ++ Q := by simp
        have w3 : W ((P.length : Int) + X.length + ((Y1 ++ Y2).length : Nat)) = (P.length : Int) + X.length + Y1.length + Y2.length := by simp; rw [W_id (by omega) (by omega)]; omega
        have w4 : W ((P.length : Int) + X.length + Y1.length + Y2.length - X.length) = (P.length : Int) + X.length + Y1.length := by rw [W_id (by omega) (by omega)]; omega
        have w5 : W (((Y1 ++ Y2).length : Int) - X.length) = (Y1.length : Int) := by simp; rw [W_id (by omega) (by omega)]; omega
        rw [e1, w3, w4, w5, zf1 φ P X Y1 Y2 Q y h1.symm (by omega) (by omega)]
        simp only [Option.bind_some]
        have := ih P Y2 Y1 (X ++ Q) (by intro e; subst e; simp at h1; omega) (by intro e; subst e; simp at h1 hlt he; omega) (by simp; omega) (by omega) (by omega)
        rw [h1] at this
        have e2 : P ++ Y2 ++ Y1 ++ X ++ Q = P ++ Y2 ++ Y1 ++ (X ++ Q) := by simp
        rw [e2, this]
        simp
theorem zk0 (φ : Nat) (P X Y Q : List Ref) (y : Ref → Ref → Option Int) (hX : X ≠ []) (hY : Y ≠ []) (hl : P.length + X.length + Y.length + Q.length ≤ 1000000) (hφ : X.length + Y.length < φ) :
    z4g φ (P ++ X ++ Y ++ Q) (P.length : Int) ((P.length : Int) + X.length) ((P.length : Int) + X.length + Y.length) y = some (P ++ Y ++ X ++ Q) := by
  have := zm8 φ y φ P X Y Q hX hY hl (by omega) hφ
  rw [← this]
  unfold z4g
  have w1 : W ((P.length : Int) + X.length - P.length) = (X.length : Int) := by rw [W_id (by omega) (by omega)]; omega
  have w2 : W ((P.length : Int) + X.length + Y.length - ((P.length : Int) + X.length)) = (Y.length : Int) := by rw [W_id (by omega) (by omega)]; omega
  rw [w1, w2]
end
end Px
end
section
namespace Px
open Go
set_option linter.unusedVariables false
set_option linter.unusedSimpArgs false
set_option maxHeartbeats 2000000
section
variable {D : Ref → Prop} {lt : Ref → Ref → Bool} {y : Ref → Ref → Option Int}
theorem zhx (φ : Nat) (k : List Ref → Option (List Ref)) (x : Ref) : ∀ (n : Nat) (P C E : List Ref), P.length + C.length + E.length ≤ 999999 → C.length < n →
    z24 φ ((P.length : Int) + C.length + 1) k n (P.length : Int) (P ++ x :: (C ++ E)) = k (P ++ C ++ x :: E) := by
  intro n
  induction n with
  | zero => intro P C E _ h; omega
  | succ n ih =>
    intro P C E hl hn
    have w0 : W ((P.length : Int) + C.length + 1 - 1) = (P.length : Int) + C.length := by rw [W_id (by omega) (by omega)]; omega
    rw [z24, w0]
    cases C with
    | nil => rw [if_neg (by simp)]; simp
    | cons w C =>
      simp only [List.length_cons] at hl hn
      have w1 : W ((P.length : Int) + 1) = (P.length : Int) + 1 := W_id (by omega) (by omega)
      have e1 : P ++ x :: (w :: C ++ E) = (P ++ [x]) ++ w :: (C ++ E) := by simp
      have g1 : gt (P ++ x :: (w :: C ++ E)) (P.length : Int) = x := z5b rfl
      have g2 : gt (P ++ x :: (w :: C ++ E)) ((P.length : Int) + 1) = w := by rw [e1]; exact z5b (by simp)
      have s1 : z1t (P ++ x :: (w :: C ++ E)) (P.length : Int) w = P ++ w :: (w :: C ++ E) := z7e rfl
      have e2 : P ++ w :: (w :: C ++ E) = (P ++ [w]) ++ w :: (C ++ E) := by simp
      have s2 : z1t ((P ++ [w]) ++ w :: (C ++ E)) ((P.length : Int) + 1) x = (P ++ [w]) ++ x :: (C ++ E) := z7e (by simp)
      have hlen : ((P ++ x :: (w :: C ++ E)).length : Int) = P.length + C.length + E.length + 2 := by simp; omega
      have hlen2 : (((P ++ [w]) ++ w :: (C ++ E)).length : Int) = P.length + C.length + E.length + 2 := by simp; omega
      rw [if_pos (by simp; omega), w1, g1, g2, s1, e2, s2, hlen, hlen2, zm ⟨by omega, by omega⟩, zm ⟨by omega, by omega⟩, zm ⟨by omega, by omega⟩]
      have := ih (P ++ [w]) C E (by simp; omega) (by omega)
      have e3 : (((P ++ [w]).length : Nat) : Int) = (P.length : Int) + 1 := by simp
      have e4 : (P.length : Int) + ((w :: C).length : Nat) + 1 = (P.length : Int) + 1 + C.length + 1 := by simp; omega
      rw [e3] at this
      rw [e4, this]
      simp
theorem zg2 (φ : Nat) (k : List Ref → Option (List Ref)) (x : Ref) (P : List Ref) : ∀ (n : Nat) (C E : List Ref), P.length + C.length + E.length ≤ 999999 → C.length < n →
    z1z φ (P.length : Int) k n ((P.length : Int) + C.length) (P ++ C ++ x :: E) = k (P ++ x :: (C ++ E)) := by
  intro n
  induction n with
  | zero => intro C E _ h; omega
  | succ n ih =>
    intro C E hl hn
    rw [z1z]
    rcases z4l C with rfl | ⟨S, z, rfl⟩
    · rw [if_neg (by simp)]; simp
    · simp only [List.length_append, List.length_cons, List.length_nil] at hl hn
      have w1 : W ((P.length : Int) + ((S ++ [z]).length : Nat) - 1) = (P.length : Int) + S.length := by
        rw [W_id (by simp; omega) (by simp; omega)]; simp; omega
      have e1 : P ++ (S ++ [z]) ++ x :: E = (P ++ S ++ [z]) ++ x :: E := by simp
      have e2 : P ++ (S ++ [z]) ++ x :: E = (P ++ S) ++ z :: (x :: E) := by simp
      have g1 : gt (P ++ (S ++ [z]) ++ x :: E) ((P.length : Int) + ((S ++ [z]).length : Nat)) = x := by rw [e1]; exact z5b (by simp <;> omega)
      have g2 : gt (P ++ (S ++ [z]) ++ x :: E) ((P.length : Int) + S.length) = z := by rw [e2]; exact z5b (by simp)
      have s1 : z1t (P ++ (S ++ [z]) ++ x :: E) ((P.length : Int) + ((S ++ [z]).length : Nat)) z = (P ++ S) ++ z :: (z :: E) := by rw [e1, z7e (by simp <;> omega)]; simp
      have s2 : z1t ((P ++ S) ++ z :: (z :: E)) ((P.length : Int) + S.length) x = P ++ S ++ x :: (z :: E) := z7e (by simp)
      have hlen : ((P ++ (S ++ [z]) ++ x :: E).length : Int) = P.length + S.length + E.length + 2 := by simp; omega
      have hlen2 : (((P ++ S) ++ z :: (z :: E)).length : Int) = P.length + S.length + E.length + 2 := by simp; omega
      rw [if_pos (by simp; omega), w1, g1, g2, s1, s2, hlen, hlen2, zm ⟨by omega, by omega⟩, zm ⟨by omega, by simp; omega⟩, zm ⟨by omega, by omega⟩]
      rw [ih S (z :: E) (by simp; omega) (by omega)]
      simp
/-- One element before a sorted list. -/
theorem zfv (hs : Swo lt) (hy : Cmp D y lt) (φ : Nat) (P L Q : List Ref) (x : Ref) (hx : D x) (hD : ∀ z ∈ L, D z) (hS : Srt lt L) (hl : P.length + L.length + Q.length ≤ 999998) (hφ : P.length + L.length + 2 < φ) :
    ∃ R, Srt lt R ∧ Stb lt (x :: L) R ∧ z07 φ (P ++ x :: (L ++ Q)) (P.length : Int) y (z06 φ (P ++ x :: (L ++ Q)) (P.length : Int)) φ ((P.length : Int) + 1) ((P.length : Int) + 1 + L.length) = some (P ++ R ++ Q) := by
  have gx : gt (P ++ x :: (L ++ Q)) (P.length : Int) = x := z5b rfl
  have hlen : ((P ++ x :: (L ++ Q)).length : Int) = P.length + L.length + Q.length + 1 := by simp; omega
  have gL : ∀ i : Nat, P.length + 1 ≤ i → i < P.length + 1 + L.length → gt (P ++ x :: (L ++ Q)) (i : Int) = gt L ((i - (P.length + 1) : Nat) : Int) := by
    intro i h1 h2
    have e : P ++ x :: (L ++ Q) = (P ++ [x]) ++ (L ++ Q) := by simp
    rw [e, z4w _ _ _ (by simp; omega), z5y _ _ _ (by simp; omega) (by simp; omega)]
    congr 1; simp; omega
  obtain ⟨c, h1, h2, h3, h4, h5⟩ := zas (z07 φ (P ++ x :: (L ++ Q)) (P.length : Int) y (z06 φ (P ++ x :: (L ++ Q)) (P.length : Int)))
    (z06 φ (P ++ x :: (L ++ Q)) (P.length : Int)) (fun h => lt (gt (P ++ x :: (L ++ Q)) (h : Int)) x) (P.length + 1 + L.length) (P.length + 1)
    (by
      intro n s r h0 hlt hR
      have hm : (W ((U (W ((s : Int) + r))).fdiv 2)) = (((s + r) / 2 : Nat) : Int) := by rw [zc0 (by omega) (by omega)]; omega
      have hm1 : W ((((s + r) / 2 : Nat) : Int) + 1) = (((s + r) / 2 + 1 : Nat) : Int) := by rw [W_id (by omega) (by omega)]; simp
      obtain ⟨w, hw1, hw2⟩ := hy (gt (P ++ x :: (L ++ Q)) (((s + r) / 2 : Nat) : Int)) x (by
        rw [gL _ (by omega) (by omega)]; exact hD _ (z8e (by omega) (by omega))) hx
      rw [z07, if_pos (by simp; omega), hm, hm1, hlen, gx, zm ⟨by omega, by omega⟩, zm ⟨by omega, by omega⟩, hw1]
      simp only [Option.bind_some, hw2])
    (by
      intro n s
      rw [z07, if_neg (by simp)]) φ (P.length + 1) (P.length + 1 + L.length) (Nat.le_refl _) (by omega) (Nat.le_refl _) (by omega)
  obtain ⟨C, E, rfl, hC⟩ : ∃ C E, L = C ++ E ∧ C.length = c - (P.length + 1) := ⟨L.take (c - (P.length + 1)), L.drop (c - (P.length + 1)), (List.take_append_drop _ _).symm, by simp; omega⟩
  simp only [List.length_append] at hl hφ h2 gL
  have hCx : ∀ z ∈ C, lt z x = true := by
    intro z hz
    rcases z4l C with rfl | ⟨S, w, rfl⟩
    · cases hz
    · simp only [List.length_append, List.length_cons, List.length_nil] at hC hz hS gL h2
      have hp : lt w x = true := by
        rcases h3 with h3 | h3
        · omega
        · rw [gL _ (by omega) (by omega)] at h3
          have e : S ++ [w] ++ E = S ++ w :: E := by simp
          rw [e, z5b (by omega)] at h3
          exact h3
      rcases List.mem_append.1 hz with h | h
      · exact z80 hs (hS.parts.1.parts.2.2 z h w (by simp)) hp (hs.irr x)
      · simp at h; rw [h]; exact hp
  have hEx : ∀ z ∈ E, lt z x = false := by
    intro z hz
    cases E with
    | nil => cases hz
    | cons w E =>
      simp only [List.length_cons] at h2 gL h4
      have hp : lt w x = false := by
        rcases h4 with h4 | h4
        · simp at h4; omega
        · rw [gL _ (by omega) (by omega), z5b (by omega)] at h4
          exact h4
      rcases List.mem_cons.1 hz with h | h
      · rw [h]; exact hp
      · exact hs.ntr _ _ _ ((List.pairwise_cons.1 hS.parts.2.1).1 z h) hp
  have hm := z78 hs (A := []) (B := [x]) (C := C) (E := E) (R1 := C) (R2 := x :: E) (List.pairwise_singleton _ _) hS (by simpa using hCx) (by simp) hS.parts.1 (by simpa using Stb.refl C) (List.pairwise_cons.2 ⟨hEx, hS.parts.2.1⟩) (by simpa using Stb.refl (x :: E))
  refine ⟨C ++ x :: E, hm.1, by simpa using hm.2, ?_⟩
  have e5 : ((P.length : Int) + 1 + ((C ++ E).length : Nat)) = ((P.length + 1 + (C ++ E).length : Nat) : Int) := by simp
  have e6 : ((P.length : Int) + 1) = ((P.length + 1 : Nat) : Int) := by simp
  rw [e5, e6, h5]
  unfold z06
  have e7 : (c : Int) = (P.length : Int) + C.length + 1 := by omega
  have e8 : P ++ x :: (C ++ E ++ Q) = P ++ x :: (C ++ (E ++ Q)) := by simp
  rw [e7, e8, zhx φ _ x φ P C (E ++ Q) (by simp; omega) (by omega)]
  simp [z20]
/-- A sorted list before one element. -/
theorem zfx (hs : Swo lt) (hy : Cmp D y lt) (φ : Nat) (P L Q : List Ref) (x : Ref) (hx : D x) (hD : ∀ z ∈ L, D z) (hS : Srt lt L) (hl : P.length + L.length + Q.length ≤ 999998) (hφ : P.length + L.length + 2 < φ) :
    ∃ R, Srt lt R ∧ Stb lt (L ++ [x]) R ∧ z08 φ (P ++ L ++ x :: Q) ((P.length : Int) + L.length) y (z0c φ (P ++ L ++ x :: Q) ((P.length : Int) + L.length)) φ (P.length : Int) ((P.length : Int) + L.length) = some (P ++ R ++ Q) := by
  have gx : gt (P ++ L ++ x :: Q) ((P.length : Int) + L.length) = x := z5b (by simp)
  have hlen : ((P ++ L ++ x :: Q).length : Int) = P.length + L.length + Q.length + 1 := by simp; omega
  have gL : ∀ i : Nat, P.length ≤ i → i < P.length + L.length → gt (P ++ L ++ x :: Q) (i : Int) = gt L ((i - P.length : Nat) : Int) := by
    intro i h1 h2
    rw [List.append_assoc, z4w _ _ _ (by omega), z5y _ _ _ (by omega) (by omega)]
    congr 1; omega
  obtain ⟨c, h1, h2, h3, h4, h5⟩ := zas (z08 φ (P ++ L ++ x :: Q) ((P.length : Int) + L.length) y (z0c φ (P ++ L ++ x :: Q) ((P.length : Int) + L.length)))
    (z0c φ (P ++ L ++ x :: Q) ((P.length : Int) + L.length)) (fun h => !lt x (gt (P ++ L ++ x :: Q) (h : Int))) (P.length + L.length) P.length
    (by
      intro n s r h0 hlt hR
      have hm : (W ((U (W ((s : Int) + r))).fdiv 2)) = (((s + r) / 2 : Nat) : Int) := by rw [zc0 (by omega) (by omega)]; omega
      have hm1 : W ((((s + r) / 2 : Nat) : Int) + 1) = (((s + r) / 2 + 1 : Nat) : Int) := by rw [W_id (by omega) (by omega)]; simp
      obtain ⟨w, hw1, hw2⟩ := hy x (gt (P ++ L ++ x :: Q) (((s + r) / 2 : Nat) : Int)) hx (by
        rw [gL _ (by omega) (by omega)]; exact hD _ (z8e (by omega) (by omega)))
      rw [z08, if_pos (by simp; omega), hm, hm1, hlen, gx, zm ⟨by omega, by omega⟩, zm ⟨by omega, by omega⟩, hw1]
      simp only [Option.bind_some, hw2])
    (by
      intro n s
      rw [z08, if_neg (by simp)]) φ P.length (P.length + L.length) (Nat.le_refl _) (by omega) (Nat.le_refl _) (by omega)
  obtain ⟨A, B, rfl, hC⟩ : ∃ A B, L = A ++ B ∧ A.length = c - P.length := ⟨L.take (c - P.length), L.drop (c - P.length), (List.take_append_drop _ _).symm, by simp; omega⟩
  simp only [List.length_append] at hl hφ h2 gL
  have hA : ∀ z ∈ A, lt x z = false := by
    intro z hz
    rcases z4l A with rfl | ⟨S, w, rfl⟩
    · cases hz
    · simp only [List.length_append, List.length_cons, List.length_nil] at hC hz hS gL h2
      have hp : lt x w = false := by
        rcases h3 with h3 | h3
        · omega
        · rw [gL _ (by omega) (by omega)] at h3
          have e : S ++ [w] ++ B = S ++ w :: B := by simp
          rw [e, z5b (by omega)] at h3
          simpa using h3
      rcases List.mem_append.1 hz with h | h
      · exact hs.ntr _ _ _ hp (hS.parts.1.parts.2.2 z h w (by simp))
      · simp at h; rw [h]; exact hp
  have hB : ∀ z ∈ B, lt x z = true := by
    intro z hz
    cases B with
    | nil => cases hz
    | cons w B =>
      simp only [List.length_cons] at h2 gL h4
      have hp : lt x w = true := by
        rcases h4 with h4 | h4
        · simp at h4; omega
        · rw [gL _ (by omega) (by omega), z5b (by omega)] at h4
          simpa using h4
      rcases List.mem_cons.1 hz with h | h
      · rw [h]; exact hp
      · exact z80 hs (hs.irr x) hp ((List.pairwise_cons.1 hS.parts.2.1).1 z h)
  have hm := z78 hs (A := A) (B := B) (C := [x]) (E := []) (R1 := A ++ [x]) (R2 := B) hS (by rw [List.append_nil]; exact List.pairwise_singleton _ x) (by simpa using hB) (by simp)
    (hS.parts.1.app (List.pairwise_singleton _ _) (by simpa using hA)) (Stb.refl _) hS.parts.2.1 (by simpa using Stb.refl B)
  refine ⟨A ++ [x] ++ B, hm.1, by simpa using hm.2, ?_⟩
  have e5 : ((P.length : Int) + ((A ++ B).length : Nat)) = ((P.length + (A ++ B).length : Nat) : Int) := by simp
  rw [e5] at h5 ⊢
  rw [h5]
  unfold z0c
  have e7 : (c : Int) = (((P ++ A).length : Nat) : Int) := by simp; omega
  have e8 : P ++ (A ++ B) ++ x :: Q = (P ++ A) ++ B ++ x :: Q := by simp
  have e9 : ((P.length + (A ++ B).length : Nat) : Int) = (((P ++ A).length : Nat) : Int) + B.length := by simp; omega
  rw [e7, e8, e9, zg2 φ _ x (P ++ A) φ B Q (by simp; omega) (by omega)]
  simp [z1y]
end
end Px
end
section
namespace Px
open Go
set_option linter.unusedVariables false
set_option linter.unusedSimpArgs false
set_option maxHeartbeats 4000000
section
variable {D : Ref → Prop} {lt : Ref → Ref → Bool} {y : Ref → Ref → Option Int}
/-- Where the two lists are split. -/
theorem zjt (hs : Swo lt) (hy : Cmp D y lt) (φ : Nat) (P L1 L2 Q : List Ref) (k : Int → Option (List Ref)) (hD1 : ∀ z ∈ L1, D z) (hD2 : ∀ z ∈ L2, D z) (hS1 : Srt lt L1) (hS2 : Srt lt L2)
    (a m b mid s0 r0 : Nat) (ha : a = P.length) (hm : m = a + L1.length) (hb : b = m + L2.length) (hmid : mid = (a + b) / 2) (hl : b + Q.length ≤ 999998) (hφ : b < φ)
    (h1 : 1 ≤ L1.length) (h2 : 1 ≤ L2.length) (hs0 : (mid < m ∧ s0 = mid + m - b ∧ r0 = mid) ∨ (m ≤ mid ∧ s0 = a ∧ r0 = m)) :
    ∃ A B C E, L1 = A ++ B ∧ L2 = C ++ E ∧ mid + m - (a + A.length) = m + C.length ∧ (∀ x ∈ B, ∀ y ∈ C, lt y x = true) ∧ (∀ x ∈ A, ∀ y ∈ E, lt y x = false) ∧
      z0a φ (P ++ L1 ++ L2 ++ Q) (a : Int) (m : Int) (b : Int) y k φ (s0 : Int) (r0 : Int) = k ((a + A.length : Nat) : Int) := by
  have g1 : ∀ i : Nat, a ≤ i → i < m → gt (P ++ L1 ++ L2 ++ Q) (i : Int) = gt L1 ((i - a : Nat) : Int) := by
    intro i q1 q2
    have e : P ++ L1 ++ L2 ++ Q = P ++ (L1 ++ (L2 ++ Q)) := by simp
    rw [e, z4w _ _ _ (by omega), z5y _ _ _ (by omega) (by omega)]
    congr 1; omega
  have g2 : ∀ i : Nat, m ≤ i → i < b → gt (P ++ L1 ++ L2 ++ Q) (i : Int) = gt L2 ((i - m : Nat) : Int) := by
    intro i q1 q2
    have e : P ++ L1 ++ L2 ++ Q = (P ++ L1) ++ (L2 ++ Q) := by simp
    rw [e, z4w _ _ _ (by simp; omega), z5y _ _ _ (by simp; omega) (by simp; omega)]
    congr 1; simp; omega
  have hlen : ((P ++ L1 ++ L2 ++ Q).length : Int) = b + Q.length := by simp; omega
  have hW : W ((U (W ((a : Int) + b))).fdiv 2) = (mid : Int) := by rw [zc0 (by omega) (by omega)]; omega
  have hn : W ((mid : Int) + m) = ((mid + m : Nat) : Int) := by rw [W_id (by omega) (by omega)]; simp
  have hp : W (((mid + m : Nat) : Int) - 1) = ((mid + m - 1 : Nat) : Int) := by rw [W_id (by omega) (by omega)]; omega
  have hmb : mid ≤ b := by omega
  have ham : a ≤ mid := by omega
  obtain ⟨c, h3, h4, h5, h6, h7⟩ := zas (z0a φ (P ++ L1 ++ L2 ++ Q) (a : Int) (m : Int) (b : Int) y k) k
    (fun c => !lt (gt (P ++ L1 ++ L2 ++ Q) ((mid + m - 1 - c : Nat) : Int)) (gt (P ++ L1 ++ L2 ++ Q) (c : Int))) r0 s0
    (by
      intro n s r q0 hlt hR
      have hm' : (W ((U (W ((s : Int) + r))).fdiv 2)) = (((s + r) / 2 : Nat) : Int) := by rw [zc0 (by omega) (by omega)]; omega
      have hm1 : W ((((s + r) / 2 : Nat) : Int) + 1) = (((s + r) / 2 + 1 : Nat) : Int) := by rw [W_id (by omega) (by omega)]; simp
      have hpc : W (((mid + m - 1 : Nat) : Int) - (((s + r) / 2 : Nat) : Int)) = ((mid + m - 1 - (s + r) / 2 : Nat) : Int) := by rw [W_id (by omega) (by omega)]; omega
      obtain ⟨w, hw1, hw2⟩ := hy (gt (P ++ L1 ++ L2 ++ Q) ((mid + m - 1 - (s + r) / 2 : Nat) : Int)) (gt (P ++ L1 ++ L2 ++ Q) (((s + r) / 2 : Nat) : Int))
        (by rw [g2 _ (by omega) (by omega)]; exact hD2 _ (z8e (by omega) (by omega))) (by rw [g1 _ (by omega) (by omega)]; exact hD1 _ (z8e (by omega) (by omega)))
      rw [z0a, if_pos (by simp; omega), hm', hm1, hW, hn, hp, hpc, hlen, zm ⟨by omega, by omega⟩, zm ⟨by omega, by omega⟩, hw1]
      simp only [Option.bind_some, hw2])
    (by
      intro n s
      rw [z0a, if_neg (by simp)]) φ s0 r0 (Nat.le_refl _) (by omega) (Nat.le_refl _) (by omega)
  obtain ⟨A, B, rfl, hA⟩ : ∃ A B, L1 = A ++ B ∧ A.length = c - a := ⟨L1.take (c - a), L1.drop (c - a), (List.take_append_drop _ _).symm, by simp; omega⟩
  obtain ⟨C, E, rfl, hC⟩ : ∃ C E, L2 = C ++ E ∧ C.length = mid - c := ⟨L2.take (mid - c), L2.drop (mid - c), (List.take_append_drop _ _).symm, by simp; omega⟩
  simp only [List.length_append] at hm hb g1 g2
  refine ⟨A, B, C, E, rfl, rfl, by omega, ?_, ?_, ?_⟩
  · intro x hx z hz
    rcases z4l C with rfl | ⟨S, w, rfl⟩
    · cases hz
    · cases B with
      | nil => cases hx
      | cons x0 B =>
        simp only [List.length_append, List.length_cons, List.length_nil] at hC hm hb g1 g2 hA
        have hp : lt w x0 = true := by
          rcases h6 with h6 | h6
          · omega
          · rw [g1 c (by omega) (by omega), g2 (mid + m - 1 - c) (by omega) (by omega)] at h6
            have e : S ++ [w] ++ E = S ++ w :: E := by simp
            rw [e, z5b (by omega), z5b (by omega)] at h6
            simpa using h6
        have hz1 : lt w z = false := by
          rcases List.mem_append.1 hz with h | h
          · exact hS2.parts.1.parts.2.2 z h w (by simp)
          · simp at h; rw [h]; exact hs.irr _
        have hx1 : lt x x0 = false := by
          rcases List.mem_cons.1 hx with h | h
          · rw [h]; exact hs.irr _
          · exact (List.pairwise_cons.1 hS1.parts.2.1).1 x h
        exact z80 hs hz1 hp hx1
  · intro x hx z hz
    rcases z4l A with rfl | ⟨S, w, rfl⟩
    · cases hx
    · cases E with
      | nil => cases hz
      | cons e0 E =>
        simp only [List.length_append, List.length_cons, List.length_nil] at hC hm hb g1 g2 hA
        have hp : lt e0 w = false := by
          rcases h5 with h5 | h5
          · omega
          · have e1 : mid + m - 1 - (c - 1) = mid + m - c := by omega
            rw [e1, g1 (c - 1) (by omega) (by omega), g2 (mid + m - c) (by omega) (by omega)] at h5
            have e : S ++ [w] ++ B = S ++ w :: B := by simp
            rw [e, z5b (by omega), z5b (by omega)] at h5
            simpa using h5
        have hz1 : lt z e0 = false := by
          rcases List.mem_cons.1 hz with h | h
          · rw [h]; exact hs.irr _
          · exact (List.pairwise_cons.1 hS2.parts.2.1).1 z h
        have hx1 : lt w x = false := by
          rcases List.mem_append.1 hx with h | h
          · exact hS1.parts.1.parts.2.2 x h w (by simp)
          · simp at h; rw [h]; exact hs.irr _
        exact zcd hs hz1 hp hx1
  · rw [h7]
    congr 1
    omega
/-- Merging two sorted lists in place. -/
theorem zdb (hs : Swo lt) (hy : Cmp D y lt) : ∀ (φ : Nat) (P L1 L2 Q : List Ref), (∀ z ∈ L1, D z) → (∀ z ∈ L2, D z) → Srt lt L1 → Srt lt L2 → L1 ≠ [] → L2 ≠ [] →
    P.length + L1.length + L2.length + Q.length ≤ 999998 → P.length + L1.length + L2.length + (L1.length + L2.length) + 3 < φ →
    ∃ R, Srt lt R ∧ Stb lt (L1 ++ L2) R ∧ z9 φ (P ++ L1 ++ L2 ++ Q) (P.length : Int) ((P.length : Int) + L1.length) ((P.length : Int) + L1.length + L2.length) y = some (P ++ R ++ Q) := by
  intro φ
  induction φ with
  | zero => intro P L1 L2 Q _ _ _ _ _ _ _ h; omega
  | succ φ ih =>
    intro P L1 L2 Q hD1 hD2 hS1 hS2 hn1 hn2 hl hφ
    have hp1 := List.length_pos_iff.2 hn1
    have hp2 := List.length_pos_iff.2 hn2
    rw [z9]
    have w1 : W ((P.length : Int) + L1.length - P.length) = (L1.length : Int) := by rw [W_id (by omega) (by omega)]; omega
    have w2 : W ((P.length : Int) + L1.length + L2.length - ((P.length : Int) + L1.length)) = (L2.length : Int) := by rw [W_id (by omega) (by omega)]; omega
    rw [w1, w2]
    by_cases q1 : L1.length = 1
    · rw [if_pos (by simp [q1])]
      match L1, q1 with
      | [x], _ =>
        obtain ⟨R, r1, r2, r3⟩ := zfv hs hy φ P L2 Q x (hD1 x (by simp)) hD2 hS2 (by simp at hl; omega) (by simp at hφ; omega)
        refine ⟨R, r1, r2, ?_⟩
        rw [← r3]
        simp
    · rw [if_neg (by simp; omega)]
      by_cases q2 : L2.length = 1
      · rw [if_pos (by simp [q2])]
        match L2, q2 with
        | [x], _ =>
          obtain ⟨R, r1, r2, r3⟩ := zfx hs hy φ P L1 Q x (hD2 x (by simp)) hD1 hS1 (by simp at hl; omega) (by simp at hφ; omega)
          refine ⟨R, r1, r2, ?_⟩
          rw [← r3]
          simp
      · rw [if_neg (by simp; omega)]
        obtain ⟨a, ha⟩ : ∃ a, a = P.length := ⟨_, rfl⟩
        obtain ⟨m, hm⟩ : ∃ m, m = a + L1.length := ⟨_, rfl⟩
        obtain ⟨b, hb⟩ : ∃ b, b = m + L2.length := ⟨_, rfl⟩
        obtain ⟨mid, hmid⟩ : ∃ mid, mid = (a + b) / 2 := ⟨_, rfl⟩
        have ea : (P.length : Int) = (a : Int) := by omega
        have em : (P.length : Int) + L1.length = (m : Int) := by omega
        have eb : (P.length : Int) + L1.length + L2.length = (b : Int) := by omega
        rw [eb, em, ea]
        have hW : W ((U (W ((a : Int) + b))).fdiv 2) = (mid : Int) := by rw [zc0 (by omega) (by omega)]; omega
        have hn : W ((mid : Int) + m) = ((mid + m : Nat) : Int) := by rw [W_id (by omega) (by omega)]; simp
        rw [hW, hn]
        have key : ∃ s0 r0 : Nat, ((mid < m ∧ s0 = mid + m - b ∧ r0 = mid) ∨ (m ≤ mid ∧ s0 = a ∧ r0 = m)) ∧
            (if decide ((mid : Int) < m) = true then z0q φ (P ++ L1 ++ L2 ++ Q) (a : Int) (m : Int) (b : Int) y (z9 φ) (W (((mid + m : Nat) : Int) - b)) (mid : Int)
              else z0q φ (P ++ L1 ++ L2 ++ Q) (a : Int) (m : Int) (b : Int) y (z9 φ) (a : Int) (m : Int)) =
            z0q φ (P ++ L1 ++ L2 ++ Q) (a : Int) (m : Int) (b : Int) y (z9 φ) (s0 : Int) (r0 : Int) := by
          by_cases q : mid < m
          · refine ⟨mid + m - b, mid, .inl ⟨q, rfl, rfl⟩, ?_⟩
            have : W (((mid + m : Nat) : Int) - b) = ((mid + m - b : Nat) : Int) := by rw [W_id (by omega) (by omega)]; omega
            rw [if_pos (by simp; omega), this]
          · refine ⟨a, m, .inr ⟨by omega, rfl, rfl⟩, ?_⟩
            rw [if_neg (by simp; omega)]
        obtain ⟨s0, r0, hk, e⟩ := key
        rw [e]
        unfold z0q
        obtain ⟨A, B, C, E, rfl, rfl, hc, hA, hB, hL⟩ := zjt hs hy φ P L1 L2 Q (z0p φ (P ++ L1 ++ L2 ++ Q) (a : Int) (m : Int) (b : Int) y (z9 φ)) hD1 hD2 hS1 hS2 a m b mid s0 r0 ha hm hb hmid (by omega) (by omega) (by omega) (by omega) hk
        rw [hL]
        simp only [List.length_append] at hm hb hl hφ hp1 hp2 q1 q2
        have hcm : mid = a + A.length + C.length := by omega
        have hend : W (((mid + m : Nat) : Int) - ((a + A.length : Nat) : Int)) = ((m + C.length : Nat) : Int) := by rw [W_id (by omega) (by omega)]; omega
        have step1 : z0p φ (P ++ (A ++ B) ++ (C ++ E) ++ Q) (a : Int) (m : Int) (b : Int) y (z9 φ) ((a + A.length : Nat) : Int) =
            z15 φ (a : Int) (m : Int) (b : Int) y (z9 φ) ((a + A.length : Nat) : Int) (P ++ A ++ C ++ B ++ E ++ Q) := by
          unfold z0p
          rw [hW, hn, hend]
          by_cases hBC : B = [] ∨ C = []
          · rw [if_neg (by
              rcases hBC with rfl | rfl
              · simp at hm ⊢; omega
              · simp)]
            rcases hBC with rfl | rfl <;> simp
          · obtain ⟨hB0, hC0⟩ := not_or.1 hBC
            have b0 := List.length_pos_iff.2 hB0
            have c0 := List.length_pos_iff.2 hC0
            rw [if_pos (by simp; omega)]
            have := zk0 φ (P ++ A) B C (E ++ Q) y hB0 hC0 (by simp; omega) (by omega)
            have e1 : P ++ (A ++ B) ++ (C ++ E) ++ Q = P ++ A ++ B ++ C ++ (E ++ Q) := by simp
            have e2 : ((a + A.length : Nat) : Int) = ((P ++ A).length : Nat) := by simp; omega
            have e3 : (m : Int) = ((P ++ A).length : Nat) + (B.length : Int) := by simp; omega
            have e4 : ((m + C.length : Nat) : Int) = ((P ++ A).length : Nat) + (B.length : Int) + C.length := by simp; omega
            rw [e1]
            conv => lhs; rw [e4, e2]; arg 1; rw [e3]
            rw [this]
            simp [ha]
        rw [step1]
        have step2 : ∃ R1, Srt lt R1 ∧ Stb lt (A ++ C) R1 ∧ z15 φ (a : Int) (m : Int) (b : Int) y (z9 φ) ((a + A.length : Nat) : Int) (P ++ A ++ C ++ B ++ E ++ Q) =
            z1c φ (a : Int) (m : Int) (b : Int) y (z9 φ) ((a + A.length : Nat) : Int) (P ++ R1 ++ B ++ E ++ Q) := by
          unfold z15
          rw [hW]
          by_cases hAC : A = [] ∨ C = []
          · refine ⟨A ++ C, ?_, Stb.refl _, ?_⟩
            · rcases hAC with rfl | rfl
              · simpa using hS2.parts.1
              · simpa using hS1.parts.1
            · rw [if_neg (by
                rcases hAC with rfl | rfl
                · simp
                · simp at hcm ⊢; omega)]
              simp
          · obtain ⟨hA0, hC0⟩ := not_or.1 hAC
            have a0 := List.length_pos_iff.2 hA0
            have c0 := List.length_pos_iff.2 hC0
            obtain ⟨R1, r1, r2, r3⟩ := ih P A C (B ++ E ++ Q) (fun z hz => hD1 z (by simp [hz])) (fun z hz => hD2 z (by simp [hz])) hS1.parts.1 hS2.parts.1 hA0 hC0 (by simp; omega) (by omega)
            refine ⟨R1, r1, r2, ?_⟩
            rw [if_pos (by simp; omega)]
            have e1 : P ++ A ++ C ++ B ++ E ++ Q = P ++ A ++ C ++ (B ++ E ++ Q) := by simp
            have e2 : ((a + A.length : Nat) : Int) = (P.length : Int) + A.length := by simp; omega
            have e3 : (mid : Int) = (P.length : Int) + A.length + C.length := by omega
            rw [e1]
            conv => lhs; arg 1; rw [e3, e2, ← ea]
            rw [r3]
            simp
        obtain ⟨R1, r1, r2, e2⟩ := step2
        rw [e2]
        have hR1 : R1.length = A.length + C.length := by rw [r2.len]; simp
        have step3 : ∃ R2, Srt lt R2 ∧ Stb lt (B ++ E) R2 ∧ z1c φ (a : Int) (m : Int) (b : Int) y (z9 φ) ((a + A.length : Nat) : Int) (P ++ R1 ++ B ++ E ++ Q) = some (P ++ (R1 ++ R2) ++ Q) := by
          unfold z1c
          rw [hW, hn, hend]
          by_cases hBE : B = [] ∨ E = []
          · refine ⟨B ++ E, ?_, Stb.refl _, ?_⟩
            · rcases hBE with rfl | rfl
              · simpa using hS2.parts.2.1
              · simpa using hS1.parts.2.1
            · rw [if_neg (by
                rcases hBE with rfl | rfl
                · simp at hm ⊢; omega
                · simp at hb ⊢; omega)]
              simp
          · obtain ⟨hB0, hE0⟩ := not_or.1 hBE
            have b0 := List.length_pos_iff.2 hB0
            have c0 := List.length_pos_iff.2 hE0
            obtain ⟨R2, p1, p2, p3⟩ := ih (P ++ R1) B E Q (fun z hz => hD1 z (by simp [hz])) (fun z hz => hD2 z (by simp [hz])) hS1.parts.2.1 hS2.parts.2.1 hB0 hE0 (by simp; omega) (by simp; omega)
            refine ⟨R2, p1, p2, ?_⟩
            rw [if_pos (by simp; omega)]
            have e1 : (mid : Int) = ((P ++ R1).length : Nat) := by simp; omega
            have e3 : ((m + C.length : Nat) : Int) = ((P ++ R1).length : Nat) + (B.length : Int) := by simp; omega
            have e4 : (b : Int) = ((P ++ R1).length : Nat) + (B.length : Int) + E.length := by simp; omega
            conv => lhs; arg 1; rw [e4, e3, e1]
            rw [p3]
            simp
        obtain ⟨R2, p1, p2, e3⟩ := step3
        rw [e3]
        have hm' := z78 hs hS1 hS2 hA hB r1 r2 p1 p2
        exact ⟨R1 ++ R2, hm'.1, hm'.2, rfl⟩
end
end Px
end
