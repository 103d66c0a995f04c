/- A part of the proof of handoverMaximal_holds. Conditions: none. -/
import Derived.Test.YteljjchaealkoaaMxf
section
namespace Px
open Go
set_option linter.unusedVariables false
set_option linter.unusedSimpArgs false
set_option maxRecDepth 100000
theorem z73 (φ : Nat) (a b c : Int) : z26 φ a b c = some (bet a b c) := rfl
theorem z7s (φ : Nat) (a b c : Int) : z21 φ a b c = some (bet a b c) := rfl
def zeu (t : z64) : Bool :=
  bet t.fLoad 0 1000000 && bet t.fTare 0 1000000 && bet t.fLength 0 1000000 && bet t.fBrake 0 1000000 && bet t.fGauge 0 7 && bet t.fLife 1 1073741824 && bet t.fFloor 0 100
def zcn (n : Int) (w : zd1) : Bool :=
  bet w.fType 0 (n - 1) && bet w.fOwner 0 63 && bet w.fHome 0 511 && bet w.fBuilt 0 1073741824 && bet w.fWorth 0 1099511627776
def zev (n : Int) (s : Swap) : Bool := bet s.fWanted 0 (n - 1) && bet s.fGiven 0 (n - 1) && (s.fWanted != s.fGiven) && bet s.fCost 0 1000000000
def zk1 (w : Wash) : Bool := bet w.fFrom 0 63 && bet w.fTo 0 63 && (w.fFrom != w.fTo) && bet w.fMinutes 0 100000
def keyW (w : Wash) : Int := 64 * w.fFrom + w.fTo
def z7d (l : List Wash) (i : Nat) : Bool := zk1 (gt l (i : Int)) && !(l.take i).any fun v => keyW v == keyW (gt l (i : Int))
def z8f (l : List Wash) : Bool := (List.range l.length).all (z7d l)
/-- What Check answers. -/
def z93 (x : z8k) : Int :=
  bif decide (32 < x.fTypes.length) || decide (4096 < x.fWagons.length) || decide (1024 < x.fSwaps.length) || decide (4096 < x.fWashes.length) then 2 else
  bif x.fTypes.all zeu && x.fWagons.all (zcn x.fTypes.length) && x.fSwaps.all (zev x.fTypes.length) && z8f x.fWashes then 0 else 1
theorem zah (p : Nat → Bool) (i : Nat) : (List.range (i + 1)).all p = ((List.range i).all p && p i) := by
  rw [List.range_succ, List.all_append]; simp
theorem z98 {α : Type} [Inhabited α] {p : Prop} [Decidable p] {x : Option α} (h : p) : z39 p x = x := if_pos h
theorem z7u {α : Type} [Inhabited α] {p : Prop} [Decidable p] {x : Option α} (h : ¬ p) : z39 p x = some default := if_neg h
theorem zff (φ : Nat) (x : z8k) (k : Int → Option Int) (hl : x.fSwaps.length ≤ 1024) (ht : x.fTypes.length ≤ 32) :
    ∀ n s, x.fSwaps.length < n → z3o φ x k n 0 s = k (bif x.fSwaps.all (zev (x.fTypes.length : Int)) then s else 1) := by
  have hp : W ((x.fTypes.length : Int) - 1) = (x.fTypes.length : Int) - 1 := W_id (by omega) (by omega)
  refine zgc _ k _ _ ?_ ?_
  · intro n i s hi
    rw [z3o, if_pos (by simp; omega), zm ⟨by omega, by omega⟩]
    have hW : W ((i : Int) + 1) = (i : Int) + 1 := W_id (by omega) (by omega)
    simp only [z73, Option.bind_some, zev, z39, z7r, hW, hp]
    cases bet (gt x.fSwaps i).fWanted 0 ((x.fTypes.length : Int) - 1) <;> cases bet (gt x.fSwaps i).fGiven 0 ((x.fTypes.length : Int) - 1) <;> cases ((gt x.fSwaps i).fWanted != (gt x.fSwaps i).fGiven) <;>
      cases bet (gt x.fSwaps i).fCost 0 1000000000 <;> rfl
  · intro n s
    rw [z3o, if_neg (by simp)]
theorem zeq (φ : Nat) (x : z8k) (k : Int → Option Int) (hl : x.fWagons.length ≤ 4096) (ht : x.fTypes.length ≤ 32) :
    ∀ n s, x.fWagons.length < n → z35 φ x k n 0 s = k (bif x.fWagons.all (zcn (x.fTypes.length : Int)) then s else 1) := by
  have hp : W ((x.fTypes.length : Int) - 1) = (x.fTypes.length : Int) - 1 := W_id (by omega) (by omega)
  refine zgc _ k _ _ ?_ ?_
  · intro n i s hi
    rw [z35, if_pos (by simp; omega), zm ⟨by omega, by omega⟩]
    have hW : W ((i : Int) + 1) = (i : Int) + 1 := W_id (by omega) (by omega)
    simp only [z73, Option.bind_some, zcn, z39, z75, z77, hW, hp]
    cases bet (gt x.fWagons i).fType 0 ((x.fTypes.length : Int) - 1) <;> cases bet (gt x.fWagons i).fOwner 0 63 <;> cases bet (gt x.fWagons i).fHome 0 511 <;>
      cases bet (gt x.fWagons i).fBuilt 0 1073741824 <;> cases bet (gt x.fWagons i).fWorth 0 1099511627776 <;> rfl
  · intro n s
    rw [z35, if_neg (by simp)]
theorem zg5 (φ : Nat) (x : z8k) (i : Int) (k : Int → Option Int) (n : Nat) (s : Int) (hn : 4 < n) :
    z34 φ x i k n 0 s = k (bif [(gt x.fTypes i).fLoad, (gt x.fTypes i).fTare, (gt x.fTypes i).fLength, (gt x.fTypes i).fBrake].all (fun a => bet a 0 1000000) then s else 1) := by
  refine zgc (z34 φ x i k) k _ _ ?_ ?_ n s hn
  · intro n j s hi
    rw [z34, if_pos (by simp at hi ⊢; omega), zm ⟨by omega, by omega⟩]
    simp at hi
    have hW : W ((j : Int) + 1) = (j : Int) + 1 := W_id (by omega) (by omega)
    simp only [z73, Option.bind_some, z74, hW]
    cases bet (gt [(gt x.fTypes i).fLoad, (gt x.fTypes i).fTare, (gt x.fTypes i).fLength, (gt x.fTypes i).fBrake] (j : Int)) 0 1000000 <;> rfl
  · intro n s
    rw [z34, if_neg (by simp)]
theorem zfi (φ : Nat) (hφ : 4 < φ) (x : z8k) (k : Int → Option Int) (hl : x.fTypes.length ≤ 32) :
    ∀ n s, x.fTypes.length < n → z11 φ x k n 0 s = k (bif x.fTypes.all zeu then s else 1) := by
  refine zgc _ k _ _ ?_ ?_
  · intro n i s hi
    rw [z11, if_pos (by simp; omega), zm ⟨by omega, by omega⟩, zg5 _ _ _ _ _ _ hφ]
    have hW : W ((i : Int) + 1) = (i : Int) + 1 := W_id (by omega) (by omega)
    simp only [z73, Option.bind_some, zeu, z39, z4j, z76, z2y, hW, List.all_cons, List.all_nil]
    cases bet (gt x.fTypes i).fLoad 0 1000000 <;> cases bet (gt x.fTypes i).fTare 0 1000000 <;> cases bet (gt x.fTypes i).fLength 0 1000000 <;> cases bet (gt x.fTypes i).fBrake 0 1000000 <;>
      cases bet (gt x.fTypes i).fGauge 0 7 <;> cases bet (gt x.fTypes i).fLife 1 1073741824 <;> cases bet (gt x.fTypes i).fFloor 0 100 <;> rfl
  · intro n s
    rw [z11, if_neg (by simp)]
theorem zee (φ : Nat) (x : z8k) (k : Int → Option Int) (hl : x.fWashes.length ≤ 4096) (n : Nat) (s : Int) (hn : x.fWashes.length < n) :
    z1n φ x k n 0 s (fun _ => false) = k (bif z8f x.fWashes then s else 1) := by
  refine z5a (fun n i (t : Int × (Nat → Bool)) => z1n φ x k n i t.1 t.2) x.fWashes.length
    (fun i t => t.1 = (bif (List.range i).all (z7d x.fWashes) then s else 1) ∧ ((List.range i).all (z7d x.fWashes) = true → ∀ j : Nat, t.2 j = (x.fWashes.take i).any fun v => keyW v == (j : Int)))
    (fun o => o = k (bif z8f x.fWashes then s else 1)) ?_ ?_ n (s, fun _ => false) ⟨by simp, by simp⟩ hn
  · intro n i t hi ⟨h1, h2⟩ hs
    have hW : W ((i : Int) + 1) = (i : Int) + 1 := W_id (by omega) (by omega)
    rw [z1n, if_pos (by simp; omega), zm ⟨by omega, by omega⟩]
    simp only [z73, Option.bind_some, z39]
    have hok : zk1 (gt x.fWashes i) = (bet (gt x.fWashes i).fFrom 0 63 && bet (gt x.fWashes i).fTo 0 63 && ((gt x.fWashes i).fFrom != (gt x.fWashes i).fTo) && bet (gt x.fWashes i).fMinutes 0 100000) := rfl
    have hsucc := zah (z7d x.fWashes) i
    cases hw : zk1 (gt x.fWashes i) with
    | false =>
      have hf : (List.range (i + 1)).all (z7d x.fWashes) = false := by rw [hsucc]; simp [z7d, hw]
      have h3 : z1n φ x k n ((i : Int) + 1) 1 t.2 = k (bif z8f x.fWashes then s else 1) := hs (1, t.2) ⟨by rw [hf]; rfl, by rw [hf]; intro h; cases h⟩
      rw [hw] at hok
      rw [← h3]
      simp only [z6w, z4e, hW]
      generalize bet (gt x.fWashes i).fFrom 0 63 = a at *; generalize bet (gt x.fWashes i).fTo 0 63 = b at *; generalize ((gt x.fWashes i).fFrom != (gt x.fWashes i).fTo) = c at *; generalize bet (gt x.fWashes i).fMinutes 0 100000 = d at *
      cases a <;> cases b <;> cases c <;> cases d <;> first | (simp only [Bool.and_self, Bool.and_true, Bool.and_false, Bool.false_and, Bool.true_and, Option.bind_some, if_true, Bool.not_false, Bool.not_true, Bool.false_eq_true, if_false, default]; done) | exact absurd hok (by decide)
    | true =>
      rw [hw] at hok
      have hb := hok.symm
      simp only [Bool.and_eq_true] at hb
      obtain ⟨⟨⟨b1, b2⟩, b3⟩, b4⟩ := hb
      have c1 := zn9 b1; have c2 := zn9 b2
      simp only [b1, b2, b3, b4, z6w, Bool.and_self, if_true, Option.bind_some, Bool.not_true, Bool.false_eq_true, if_false]
      rw [zm ⟨by omega, by omega⟩, zm ⟨by omega, by omega⟩]
      have hkey : ((gt x.fWashes i).fFrom.toNat * 64 + (gt x.fWashes i).fTo.toNat : Nat) = (keyW (gt x.fWashes i)).toNat := by unfold keyW; omega
      have hk0 : ((keyW (gt x.fWashes i)).toNat : Int) = keyW (gt x.fWashes i) := by unfold keyW; omega
      rw [hkey]
      have key : ∀ e, (e = bif (List.range (i + 1)).all (z7d x.fWashes) then s else 1) →
          z1n φ x k n ((i : Int) + 1) e (upd t.2 (keyW (gt x.fWashes i)).toNat true) = k (bif z8f x.fWashes then s else 1) := by
        intro e he
        refine hs (e, _) ⟨he, fun hall j => ?_⟩
        rw [hsucc, Bool.and_eq_true] at hall
        rw [zat _ _ _ hi, ← h2 hall.1 j]
        show (if j = (keyW (gt x.fWashes i)).toNat then true else t.2 j) = _
        by_cases hj : j = (keyW (gt x.fWashes i)).toNat
        · simp [hj, hk0]
        · have : (keyW (gt x.fWashes i) == (j : Int)) = false := by
            simp; intro h; exact hj (by omega)
          simp [hj, this]
      simp only [z80, z4e, hW, hkey]
      cases hall : (List.range i).all (z7d x.fWashes) with
      | true =>
        have hat : z7d x.fWashes i = !(t.2 (keyW (gt x.fWashes i)).toNat) := by
          rw [h2 hall]; simp only [z7d, hw, Bool.true_and, hk0]
        cases ht2 : t.2 (keyW (gt x.fWashes i)).toNat with
        | true =>
          simp only [Bool.not_true, Bool.not_false, if_true]
          refine key 1 ?_
          rw [hsucc, hat, ht2]; simp
        | false =>
          simp only [Bool.not_true, Bool.not_false, Bool.false_eq_true, if_false]
          refine key t.1 ?_
          rw [hsucc, hat, ht2, h1, hall]; simp
      | false =>
        have hf : (List.range (i + 1)).all (z7d x.fWashes) = false := by rw [hsucc, hall]; rfl
        have ht1 : t.1 = 1 := by rw [h1, hall]; rfl
        rw [ht1]
        split <;> exact key 1 (by rw [hf]; rfl)
  · intro n t ⟨h1, _⟩
    rw [z1n, if_neg (by simp), h1]; rfl
theorem zi2 (φ : Nat) (hφ : 5000 < φ) (x : z8k) : zay φ x = some (z93 x) := by
  have e : (((decide (32 < (x.fTypes.length : Int)) || decide (4096 < (x.fWagons.length : Int))) || decide (1024 < (x.fSwaps.length : Int))) || decide (4096 < (x.fWashes.length : Int))) =
      (decide (32 < x.fTypes.length) || decide (4096 < x.fWagons.length) || decide (1024 < x.fSwaps.length) || decide (4096 < x.fWashes.length)) := by
    congr 1
    · congr 1
      · congr 1 <;> (apply decide_eq_decide.2; omega)
      · apply decide_eq_decide.2; omega
    · apply decide_eq_decide.2; omega
  unfold zay z93
  rw [e]
  cases h : (decide (32 < x.fTypes.length) || decide (4096 < x.fWagons.length) || decide (1024 < x.fSwaps.length) || decide (4096 < x.fWashes.length)) with
  | true => rfl
  | false =>
    simp only [Bool.or_eq_false_iff, decide_eq_false_iff_not, Nat.not_lt] at h
    obtain ⟨⟨⟨h1, h2⟩, h3⟩, h4⟩ := h
    rw [if_neg (by simp), zfi φ (by omega) x _ h1 _ _ (by omega)]
    unfold z22
    rw [zeq _ _ _ h2 h1 _ _ (by omega)]
    unfold z3q
    rw [zff _ _ _ h3 h1 _ _ (by omega)]
    unfold z51
    rw [zee _ _ _ h4 _ _ (by omega)]
    unfold z36
    cases x.fTypes.all zeu <;> cases x.fWagons.all (zcn x.fTypes.length) <;> cases x.fSwaps.all (zev x.fTypes.length) <;> cases z8f x.fWashes <;> rfl
theorem zgz (φ : Nat) (l : List Wash) (hl : l.length ≤ 4096) (hφ : 5000 < φ) : zal φ l = some (bif z8f l then 0 else 1) := by
  unfold zal
  rw [zm (mk_t _ _ (by omega) (by omega) (by omega))]
  refine z5a (fun n i t => z62 φ l (z6s φ) n i t) l.length
    (fun i t => (List.range i).all (z7d l) = true ∧ t.length = 4096 ∧ ∀ j : Int, 0 ≤ j → j < 4096 → gt t j = (l.take i).any fun v => keyW v == j)
    (fun o => o = some (bif z8f l then 0 else 1)) ?_ ?_ φ _ ⟨by simp, by simp, fun j h0 h1 => by rw [zjx _ _ _ h0 (by omega)]; simp⟩ (by omega)
  · intro n i t hi ⟨h1, h2, h3⟩ hs
    have hW : W ((i : Int) + 1) = (i : Int) + 1 := W_id (by omega) (by omega)
    have hsucc := zah (z7d l) i
    have hbad : z7d l i = false → z8f l = false := by
      intro h
      unfold z8f
      rw [List.all_eq_false]
      exact ⟨i, by simp; omega, by simp [h]⟩
    rw [z62, if_pos (by simp; omega), zm ⟨by omega, by omega⟩]
    simp only [z7s, Option.bind_some, z39]
    have hok : zk1 (gt l i) = (bet (gt l i).fFrom 0 63 && bet (gt l i).fTo 0 63 && ((gt l i).fFrom != (gt l i).fTo) && bet (gt l i).fMinutes 0 100000) := rfl
    have hne : ((gt l i).fFrom == (gt l i).fTo) = !((gt l i).fFrom != (gt l i).fTo) := by simp [bne]
    rw [hne]
    cases hw : zk1 (gt l i) with
    | false =>
      rw [hbad (by simp [z7d, hw])]
      rw [hw] at hok
      clear hne hs h3
      generalize bet (gt l i).fFrom 0 63 = a at *; generalize bet (gt l i).fTo 0 63 = b at *; generalize ((gt l i).fFrom != (gt l i).fTo) = c at *; generalize bet (gt l i).fMinutes 0 100000 = d at *
      cases a <;> cases b <;> cases c <;> cases d <;> first | rfl | exact absurd hok (by decide)
    | true =>
      rw [hw] at hok
      have hb := hok.symm
      simp only [Bool.and_eq_true] at hb
      obtain ⟨⟨⟨b1, b2⟩, b3⟩, b4⟩ := hb
      have c1 := zn9 b1; have c2 := zn9 b2
      have e1 : W (64 * (gt l i).fFrom) = 64 * (gt l i).fFrom := W_id (by omega) (by omega)
      have e2 : W (W (64 * (gt l i).fFrom) + (gt l i).fTo) = keyW (gt l i) := by rw [e1]; exact W_id (by omega) (by omega)
      have hk : 0 ≤ keyW (gt l i) ∧ keyW (gt l i) < 4096 := by unfold keyW; omega
      simp only [b1, b2, b3, b4, Bool.not_true, Bool.or_false, if_true, e2, Bool.or_self, Bool.false_eq_true, if_false]
      rw [zm ⟨hk.1, by omega⟩, h3 _ hk.1 hk.2]
      have hat : z7d l i = !(l.take i).any fun v => keyW v == keyW (gt l i) := by simp only [z7d, hw, Bool.true_and]
      cases ha : (l.take i).any fun v => keyW v == keyW (gt l i) with
      | true => rw [hbad (by rw [hat, ha]; rfl)]; rfl
      | false =>
        rw [if_neg (by simp), hW]
        refine hs _ ⟨by rw [hsucc, h1, hat, ha]; rfl, by rw [zop, h2], fun j j0 j1 => ?_⟩
        rw [zqe _ _ _ _ hk.1 (by omega) j0, zat _ _ _ hi, h3 j j0 j1]
        by_cases e : j = keyW (gt l i)
        · simp [e]
        · have : (keyW (gt l i) == j) = false := by simp; exact fun h => e h.symm
          simp [e, this]
  · intro n t ⟨h1, h2, h3⟩
    rw [z62, if_neg (by simp)]
    unfold z8f
    rw [h1]; rfl
theorem zhr (φ : Nat) (hφ : 5000 < φ) (x : z8k) : zb4 φ x = some (z93 x) := by
  have e : (((decide (32 < (x.fTypes.length : Int)) || decide (4096 < (x.fWagons.length : Int))) || decide (1024 < (x.fSwaps.length : Int))) || decide (4096 < (x.fWashes.length : Int))) =
      (decide (32 < x.fTypes.length) || decide (4096 < x.fWagons.length) || decide (1024 < x.fSwaps.length) || decide (4096 < x.fWashes.length)) := by
    congr 1
    · congr 1
      · congr 1 <;> (apply decide_eq_decide.2; omega)
      · apply decide_eq_decide.2; omega
    · apply decide_eq_decide.2; omega
  unfold zb4 z93
  rw [e]
  cases h : (decide (32 < x.fTypes.length) || decide (4096 < x.fWagons.length) || decide (1024 < x.fSwaps.length) || decide (4096 < x.fWashes.length)) with
  | true => rfl
  | false =>
    simp only [Bool.or_eq_false_iff, decide_eq_false_iff_not, Nat.not_lt] at h
    obtain ⟨⟨⟨h1, h2⟩, h3⟩, h4⟩ := h
    have hp : W ((x.fTypes.length : Int) - 1) = (x.fTypes.length : Int) - 1 := W_id (by omega) (by omega)
    rw [if_neg (by simp)]
    rw [z8z (z5y φ x (z4y φ x)) (z4y φ x) (some 1) x.fTypes (fun t => !zeu t) ?_ ?_ φ (by omega)]
    · unfold z4y
      rw [z8z (z61 φ x (z55 φ x)) (z55 φ x) (some 1) x.fWagons (fun t => !zcn x.fTypes.length t) ?_ ?_ φ (by omega)]
      · unfold z55
        rw [z8z (z5v φ x (z54 φ x)) (z54 φ x) (some 1) x.fSwaps (fun t => !zev x.fTypes.length t) ?_ ?_ φ (by omega)]
        · unfold z54
          rw [zgz _ _ h4 hφ]
          simp only [Option.bind_some]
          simp only [List.any_eq_not_all_not, Bool.not_not]
          cases x.fTypes.all zeu <;> cases x.fWagons.all (zcn x.fTypes.length) <;> cases x.fSwaps.all (zev x.fTypes.length) <;> cases z8f x.fWashes <;> rfl
        · intro n i hi
          have hW : W ((i : Int) + 1) = (i : Int) + 1 := W_id (by omega) (by omega)
          have hne : ((gt x.fSwaps i).fWanted == (gt x.fSwaps i).fGiven) = !((gt x.fSwaps i).fWanted != (gt x.fSwaps i).fGiven) := by simp [bne]
          rw [z5v, if_pos (by simp; omega), zm ⟨by omega, by omega⟩]
          simp only [z7s, Option.bind_some, zev, z39, hW, hp, hne]
          cases bet (gt x.fSwaps i).fWanted 0 ((x.fTypes.length : Int) - 1) <;> cases bet (gt x.fSwaps i).fGiven 0 ((x.fTypes.length : Int) - 1) <;> cases ((gt x.fSwaps i).fWanted != (gt x.fSwaps i).fGiven) <;>
            cases bet (gt x.fSwaps i).fCost 0 1000000000 <;> rfl
        · intro n; rw [z5v, if_neg (by simp)]
      · intro n i hi
        have hW : W ((i : Int) + 1) = (i : Int) + 1 := W_id (by omega) (by omega)
        rw [z61, if_pos (by simp; omega), zm ⟨by omega, by omega⟩]
        simp only [z9d, z7s, Option.bind_some, zcn, z39, hW, hp]
        cases bet (gt x.fWagons i).fType 0 ((x.fTypes.length : Int) - 1) <;> cases bet (gt x.fWagons i).fOwner 0 63 <;> cases bet (gt x.fWagons i).fHome 0 511 <;>
          cases bet (gt x.fWagons i).fBuilt 0 1073741824 <;> cases bet (gt x.fWagons i).fWorth 0 1099511627776 <;> rfl
      · intro n; rw [z61, if_neg (by simp)]
    · intro n i hi
      have hW : W ((i : Int) + 1) = (i : Int) + 1 := W_id (by omega) (by omega)
      rw [z5y, if_pos (by simp; omega), zm ⟨by omega, by omega⟩]
      simp only [z9u, z7s, Option.bind_some, zeu, z39, hW]
      cases bet (gt x.fTypes i).fLoad 0 1000000 <;> cases bet (gt x.fTypes i).fTare 0 1000000 <;> cases bet (gt x.fTypes i).fLength 0 1000000 <;> cases bet (gt x.fTypes i).fBrake 0 1000000 <;>
        cases bet (gt x.fTypes i).fGauge 0 7 <;> cases bet (gt x.fTypes i).fLife 1 1073741824 <;> cases bet (gt x.fTypes i).fFloor 0 100 <;> rfl
    · intro n; rw [z5y, if_neg (by simp)]
/-- What a fleet that passes is. -/
theorem zdw {x : z8k} (h : z93 x = 0) : x.fTypes.length ≤ 32 ∧ x.fWagons.length ≤ 4096 ∧ x.fSwaps.length ≤ 1024 ∧ x.fWashes.length ≤ 4096 ∧
    (∀ t ∈ x.fTypes, zeu t = true) ∧ (∀ t ∈ x.fWagons, zcn x.fTypes.length t = true) ∧ (∀ t ∈ x.fSwaps, zev x.fTypes.length t = true) ∧ z8f x.fWashes = true := by
  unfold z93 at h
  cases h1 : (decide (32 < x.fTypes.length) || decide (4096 < x.fWagons.length) || decide (1024 < x.fSwaps.length) || decide (4096 < x.fWashes.length)) with
  | true => rw [h1] at h; cases h
  | false =>
    rw [h1] at h
    simp only [Bool.or_eq_false_iff, decide_eq_false_iff_not, Nat.not_lt] at h1
    obtain ⟨⟨⟨a1, a2⟩, a3⟩, a4⟩ := h1
    cases h2 : (x.fTypes.all zeu && x.fWagons.all (zcn x.fTypes.length) && x.fSwaps.all (zev x.fTypes.length) && z8f x.fWashes) with
    | false => rw [h2] at h; cases h
    | true =>
      simp only [Bool.and_eq_true, List.all_eq_true] at h2
      obtain ⟨⟨⟨b1, b2⟩, b3⟩, b4⟩ := h2
      exact ⟨a1, a2, a3, a4, b1, b2, b3, b4⟩
end Px
end
section
namespace Px
open Go
set_option linter.unusedVariables false
set_option linter.unusedSimpArgs false
set_option maxRecDepth 100000
def PP : Nat := 2305843009213690799
def QQ : Nat := 1152921504606845399
/-- A power modulo the prime. -/
def pw (b n : Nat) : Nat := b ^ n % PP
theorem zh4 (b n : Nat) : pw b n < PP := Nat.mod_lt _ (by decide)
theorem zj2 (b : Nat) : pw b 0 = 1 := by simp [pw, PP]
theorem zp4 (b m n : Nat) : pw b m * pw b n % PP = pw b (m + n) := by
  unfold pw; rw [Nat.pow_add, ← Nat.mul_mod]
theorem zrw (b : Nat) : pw b 1 = b % PP := by simp [pw]
theorem zr0 (b n : Nat) : pw (b % PP) n = pw b n := by unfold pw; rw [← Nat.pow_mod]
theorem zu1 (b n : Nat) : pw (b * b % PP) n = pw b (2 * n) := by
  rw [zr0]; unfold pw; rw [Nat.pow_mul, Nat.pow_two]
theorem zfn {a b : Nat} (ha : a < PP) (hb : b < PP) (φ : Nat) (hφ : 5 < φ) : ((zaa φ (a : Int) (b : Int)).bind fun y => (z92 φ y.1 y.2 2305843009213690799).bind fun z => some z.2) = some ((a * b % PP : Nat) : Int) := by
  have ha' : (a : Int) < 2305843009213690799 := by unfold PP at ha; omega
  have hb' : (b : Int) < 2305843009213690799 := by unfold PP at hb; omega
  have hp := zft (by omega : 0 ≤ (a : Int)) (by omega : 0 ≤ (b : Int)) (by omega : (a : Int) ≤ 2305843009213690798) (by omega : (b : Int) ≤ 2305843009213690798)
  rw [zm3 φ _ _ (by omega) (by omega) (by omega) (by omega), Option.bind_some]
  generalize hz : (a : Int) * (b : Int) = z at *
  rw [zq5 φ hφ _ _ _ (by omega) (by omega) (by omega) (by omega) (by omega), Option.bind_some]
  congr 1
  have : z / 18446744073709551616 * 18446744073709551616 + z % 18446744073709551616 = z := by omega
  rw [this, ← hz, Int.natCast_emod, Int.natCast_mul]; rfl
theorem zu5 {a : Nat} (h : a < PP) : ((a : Int)).tmod 2305843009213690799 = (a : Int) := by
  unfold PP at h
  rw [Int.tmod_eq_emod_of_nonneg (by omega)]; omega
theorem zln (φ : Nat) (hφ : 100 < φ) (b n : Nat) (hb : b < 18446744073709551616) (hn : n < 18446744073709551616) : zf0 φ (b : Int) (n : Int) = some ((pw b n : Nat) : Int) := by
  unfold zf0
  obtain ⟨L, eL, hL, h1, h2⟩ := zmj φ (n : Int) (by omega) (by omega)
  rw [eL, Option.bind_some]
  rw [Int.toNat_natCast] at h1 h2
  have hbm : ((b : Int)).tmod 2305843009213690799 = ((b % PP : Nat) : Int) := by
    rw [Int.tmod_eq_emod_of_nonneg (by omega)]; unfold PP; omega
  refine z5a (fun k i v => z6a φ (b : Int) (n : Int) (L : Int) (z6u φ) k v i) L (fun i v => v = ((pw b (n / 2 ^ (L - i)) : Nat) : Int)) (fun o => o = some ((pw b n : Nat) : Int)) ?_ ?_ φ 1 ?_ (by omega)
  · intro k i v hi hv hs
    rw [z6a, if_pos (by simp; omega)]
    subst hv
    rw [zu5 (zh4 _ _)]
    have hm := zfn (zh4 b (n / 2 ^ (L - i))) (zh4 b (n / 2 ^ (L - i))) φ (by omega)
    -- the square
    have hp := zft (m := 2305843009213690798) (n := 2305843009213690798) (a := ((pw b (n / 2 ^ (L - i)) : Nat) : Int)) (b := ((pw b (n / 2 ^ (L - i)) : Nat) : Int)) (by omega) (by omega) (by have := zh4 b (n / 2 ^ (L - i)); unfold PP at this; omega) (by have := zh4 b (n / 2 ^ (L - i)); unfold PP at this; omega)
    have e1 := zm3 φ ((pw b (n / 2 ^ (L - i)) : Nat) : Int) ((pw b (n / 2 ^ (L - i)) : Nat) : Int) (by omega) (by have := zh4 b (n / 2 ^ (L - i)); unfold PP at this; omega) (by omega) (by have := zh4 b (n / 2 ^ (L - i)); unfold PP at this; omega)
    rw [e1, Option.bind_some] at hm
    rw [e1, Option.bind_some]
    have hw1 : W ((L : Int) - 1) = (L : Int) - 1 := W_id (by omega) (by omega)
    have hw2 : W ((L : Int) - 1 - (i : Int)) = ((L - 1 - i : Nat) : Int) := by rw [W_id (by omega) (by omega)]; omega
    cases hdv : z92 φ (((pw b (n / 2 ^ (L - i)) : Nat) : Int) * ((pw b (n / 2 ^ (L - i)) : Nat) : Int) / 18446744073709551616) (((pw b (n / 2 ^ (L - i)) : Nat) : Int) * ((pw b (n / 2 ^ (L - i)) : Nat) : Int) % 18446744073709551616) 2305843009213690799 with
    | none => rw [hdv] at hm; cases hm
    | some z =>
      rw [hdv, Option.bind_some] at hm
      have hz : z.2 = ((pw b (n / 2 ^ (L - i)) * pw b (n / 2 ^ (L - i)) % PP : Nat) : Int) := Option.some.inj hm
      rw [zp4] at hz
      rw [Option.bind_some, eL, Option.bind_some, hw1, hw2, zm (by omega), hz]
      have hsh := zuk (c := (n : Int)) (k := ((L - 1 - i : Nat) : Int)) (by omega) (by omega) (by omega)
      have hone : U ((BitVec.ofInt (IntKind.bits .u64) ((n : Int).fdiv (2 ^ (min (((L - 1 - i : Nat) : Int)).toNat (IntKind.bits .u64)))) &&& BitVec.ofInt (IntKind.bits .u64) 1).toNat) = ((n / 2 ^ (L - 1 - i) % 2 : Nat) : Int) := by
        rw [hsh, Int.toNat_natCast, Int.toNat_natCast]
        show U ((BitVec.ofInt 64 ((n / 2 ^ (L - 1 - i) : Nat) : Int) &&& BitVec.ofInt 64 1).toNat : Int) = _
        have hd : n / 2 ^ (L - 1 - i) ≤ n := Nat.div_le_self _ _
        rw [BitVec.toNat_and, za2 (Int.natCast_nonneg _) (by omega), za2 (by omega) (by omega), zsf (zr4 (by omega)), Int.toNat_natCast]
        show ((n / 2 ^ (L - 1 - i) &&& 1 : Nat) : Int) = _
        rw [Nat.and_one_is_mod]
      rw [hone]
      have hhalf : n / 2 ^ (L - i) = n / 2 ^ (L - 1 - i) / 2 := by
        rw [Nat.div_div_eq_div_mul, ← Nat.pow_succ]; congr 2; omega
      have hidx : L - (i + 1) = L - 1 - i := by omega
      have hW : W ((i : Int) + 1) = (i : Int) + 1 := W_id (by omega) (by omega)
      have hbit := Nat.mod_two_eq_zero_or_one (n / 2 ^ (L - 1 - i))
      rcases hbit with hbit | hbit
      · rw [hbit, if_neg (by simp)]
        unfold z8o
        rw [hW]
        refine hs _ ?_
        rw [hidx, hhalf]; congr 2; omega
      · rw [hbit, if_pos (by simp), zu5 (zh4 _ _), hbm]
        have hm2 := zfn (zh4 b (n / 2 ^ (L - i) + n / 2 ^ (L - i))) (Nat.mod_lt b (by decide : 0 < PP)) φ (by omega)
        unfold z8o
        rw [hW]
        have key : ∀ (X : Option (Int × Int)) (G : Int × Int → Option (Int × Int)) (K : Int → Option Int) (r : Int), (X.bind fun y => (G y).bind fun z => some z.2) = some r → (X.bind fun y => (G y).bind fun z => K z.2) = K r := by
          intro X G K r h
          cases X with
          | none => cases h
          | some y =>
            rw [Option.bind_some] at h ⊢
            cases hG : G y with
            | none => rw [hG] at h; cases h
            | some z => rw [hG, Option.bind_some] at h; rw [Option.bind_some, Option.some.inj h]
        have := key _ (fun y => z92 φ y.1 y.2 2305843009213690799) (fun v => z6a φ (b : Int) (n : Int) (L : Int) (z6u φ) k v ((i : Int) + 1)) _ hm2
        refine Eq.trans this ?_
        refine hs _ ?_
        rw [← zrw b, zp4, hidx, hhalf]; congr 2; omega
  · intro k v hv
    rw [z6a, if_neg (by simp), hv]
    unfold z6u
    rw [Nat.sub_self, Nat.pow_zero, Nat.div_one]
  · rw [Nat.sub_zero, Nat.div_eq_of_lt h1, zj2]; rfl
theorem zn4 (φ : Nat) (k : Int → Option Int) : ∀ (m : Nat) (a b c n : Nat), m ≤ 64 → b < 2 ^ m → m < n → a < PP → c < PP → z3y φ 2305843009213690799 k n (a : Int) (b : Int) (c : Int) = k (((c + a * b) % PP : Nat) : Int) := by
  intro m
  induction m with
  | zero =>
    intro a b c n hm64 hb hn ha hc
    obtain ⟨n, rfl⟩ : ∃ n', n = n' + 1 := ⟨n - 1, by omega⟩
    have : b = 0 := by simpa using hb
    subst this
    rw [z3y, if_neg (by simp), Nat.mul_zero, Nat.add_zero, Nat.mod_eq_of_lt hc]
  | succ m ih =>
    intro a b c n hm64 hb hn ha hc
    obtain ⟨n, rfl⟩ : ∃ n', n = n' + 1 := ⟨n - 1, by omega⟩
    by_cases h0 : b = 0
    · subst h0
      rw [z3y, if_neg (by simp), Nat.mul_zero, Nat.add_zero, Nat.mod_eq_of_lt hc]
    · rw [z3y, if_pos (by simp; omega)]
      have e1 : (b : Int).tdiv 2 = ((b / 2 : Nat) : Int) := by rw [Int.tdiv_eq_ediv_of_nonneg (by omega)]; omega
      have e2 : (b : Int).tmod 2 = ((b % 2 : Nat) : Int) := by rw [Int.tmod_eq_emod_of_nonneg (by omega)]; omega
      have hbl : (b / 2 : Nat) < 2 ^ m := by rw [Nat.pow_succ] at hb; omega
      have h64 : (2 : Nat) ^ m ≤ 2 ^ 63 := Nat.pow_le_pow_right (by decide) (by omega)
      have hb2 : U ((b / 2 : Nat) : Int) = ((b / 2 : Nat) : Int) := U_id (by omega) (by omega)
      have ha0 := ha; have hc0 := hc
      unfold PP at ha hc
      have e3 : (U ((a : Int) + (a : Int))).tmod 2305843009213690799 = (((a + a) % PP : Nat) : Int) := by
        rw [U_id (by omega) (by omega), Int.tmod_eq_emod_of_nonneg (by omega)]; unfold PP; omega
      have e4 : (U ((c : Int) + (a : Int))).tmod 2305843009213690799 = (((c + a) % PP : Nat) : Int) := by
        rw [U_id (by omega) (by omega), Int.tmod_eq_emod_of_nonneg (by omega)]; unfold PP; omega
      unfold z7v
      rw [e1, e2, e3, e4, hb2]
      have hab : a * b = (a + a) * (b / 2) + a * (b % 2) := by
        conv => lhs; rw [← Nat.div_add_mod b 2]
        rw [Nat.mul_add, ← Nat.mul_assoc]; congr 1; rw [Nat.mul_two]
      have hfin : ∀ c' : Nat, (c' + (a + a) % PP * (b / 2)) % PP = (c' + (a + a) * (b / 2)) % PP := fun c' => by
        rw [Nat.add_mod, Nat.mul_mod, Nat.mod_mod, ← Nat.mul_mod, ← Nat.add_mod]
      have hlt : ∀ z : Nat, z % PP < PP := fun z => Nat.mod_lt _ (by decide)
      rcases Nat.mod_two_eq_zero_or_one b with hbit | hbit
      · rw [hbit, if_neg (by simp), zm (by omega), ih ((a + a) % PP) (b / 2) c n (by omega) hbl (by omega) (hlt _) hc0, hfin, hab, hbit, Nat.mul_zero, Nat.add_zero]
      · rw [hbit, if_pos (by simp), zm (by omega), zm (by omega), ih ((a + a) % PP) (b / 2) ((c + a) % PP) n (by omega) hbl (by omega) (hlt _) (hlt _), hfin, hab, hbit, Nat.mul_one, Nat.mod_add_mod]
        congr 3; omega
theorem zdt (φ : Nat) (hφ : 70 < φ) (a b : Nat) (ha : a < PP) (hb : b < PP) : za7 φ (a : Int) (b : Int) 2305843009213690799 = some ((a * b % PP : Nat) : Int) := by
  unfold za7
  have h64 : b < 2 ^ 64 := Nat.lt_trans hb (by decide)
  have := zn4 φ (z5o φ) 64 a b 0 φ (by omega) h64 (by omega) ha (by decide)
  rw [Nat.zero_add] at this
  exact this
theorem zpu (φ : Nat) (hφ : 100 < φ) (k : Int → Option Int) : ∀ (m : Nat) (a e c n : Nat), m ≤ 64 → e < 2 ^ m → m < n → a < PP → c < PP → z59 φ k n (a : Int) (e : Int) (c : Int) = k ((c * pw a e % PP : Nat) : Int) := by
  intro m
  induction m with
  | zero =>
    intro a e c n _ he hn ha hc
    obtain ⟨n, rfl⟩ : ∃ n', n = n' + 1 := ⟨n - 1, by omega⟩
    have : e = 0 := by simpa using he
    subst this
    rw [z59, if_neg (by simp), zj2, Nat.mul_one, Nat.mod_eq_of_lt hc]
  | succ m ih =>
    intro a e c n hm64 he hn ha hc
    obtain ⟨n, rfl⟩ : ∃ n', n = n' + 1 := ⟨n - 1, by omega⟩
    by_cases h0 : e = 0
    · subst h0
      rw [z59, if_neg (by simp), zj2, Nat.mul_one, Nat.mod_eq_of_lt hc]
    · rw [z59, if_pos (by simp; omega)]
      have e1 : (e : Int).tdiv 2 = ((e / 2 : Nat) : Int) := by rw [Int.tdiv_eq_ediv_of_nonneg (by omega)]; omega
      have e2 : (e : Int).tmod 2 = ((e % 2 : Nat) : Int) := by rw [Int.tmod_eq_emod_of_nonneg (by omega)]; omega
      have hel : (e / 2 : Nat) < 2 ^ m := by rw [Nat.pow_succ] at he; omega
      have h64 : (2 : Nat) ^ m ≤ 2 ^ 63 := Nat.pow_le_pow_right (by decide) (by omega)
      have hU : U ((e / 2 : Nat) : Int) = ((e / 2 : Nat) : Int) := U_id (by omega) (by omega)
      have hlt : ∀ z : Nat, z % PP < PP := fun z => Nat.mod_lt _ (by decide)
      unfold z91
      rw [e1, e2, hU, zdt φ (by omega) a a ha ha]
      have hab : pw a e = pw (a * a % PP) (e / 2) * pw a (e % 2) % PP := by
        rw [zu1, zp4, Nat.div_add_mod]
      rcases Nat.mod_two_eq_zero_or_one e with hbit | hbit
      · rw [hbit, if_neg (by simp), Option.bind_some, ih _ _ _ n (by omega) hel (by omega) (hlt _) hc, hab, hbit, zj2, Nat.mul_one, Nat.mod_eq_of_lt (zh4 _ _)]
      · rw [hbit, if_pos (by simp), zdt φ (by omega) c a hc ha, Option.bind_some, Option.bind_some, ih _ _ _ n (by omega) hel (by omega) (hlt _) (hlt _), hab, hbit, zrw, Nat.mod_eq_of_lt ha]
        congr 2
        rw [Nat.mod_mul_mod, Nat.mul_mod_mod, Nat.mul_assoc, Nat.mul_comm a]
theorem zke (φ : Nat) (hφ : 100 < φ) (b n : Nat) (hn : n < 18446744073709551616) : zd8 φ (b : Int) (n : Int) = some ((pw b n : Nat) : Int) := by
  unfold zd8
  have hbm : ((b : Int)).tmod 2305843009213690799 = ((b % PP : Nat) : Int) := by
    rw [Int.tmod_eq_emod_of_nonneg (by omega)]; unfold PP; omega
  rw [hbm]
  have := zpu φ hφ (z79 φ) 64 (b % PP) n 1 φ (by omega) (by simpa using hn) (by omega) (Nat.mod_lt _ (by decide)) (by decide)
  rw [zr0, Nat.one_mul, Nat.mod_eq_of_lt (zh4 _ _)] at this
  exact this
/-- What Valid answers. -/
def zmz (x : Int) : Bool := decide (2 ≤ x) && decide (x < 2305843009213690799) && (pw x.toNat QQ == 1)
theorem zh7 (a : Nat) : (((a : Nat) : Int) == 1) = (a == 1) := by
  rw [Bool.eq_iff_iff, beq_iff_eq, beq_iff_eq]; omega
theorem zjq (φ : Nat) (hφ : 100 < φ) (x : Int) : zcd φ x = some (zmz x) := by
  unfold zcd zmz
  cases h : decide (2 ≤ x) && decide (x < 2305843009213690799) with
  | false => rw [z7u (by simp)]; simp
  | true =>
    simp only [Bool.and_eq_true, decide_eq_true_eq] at h
    have := zln φ hφ x.toNat QQ (by omega) (by decide)
    rw [show ((x.toNat : Nat) : Int) = x by omega, show ((QQ : Nat) : Int) = 1152921504606845399 by decide] at this
    rw [z98 rfl, this, Option.bind_some, zh7]
theorem zhu (φ : Nat) (hφ : 100 < φ) (x : Int) : zba φ x = some (zmz x) := by
  unfold zba zmz
  cases h : decide (2 ≤ x) && decide (x < 2305843009213690799) with
  | false => rw [z7u (by simp)]; simp
  | true =>
    simp only [Bool.and_eq_true, decide_eq_true_eq] at h
    have := zke φ hφ x.toNat QQ (by decide)
    rw [show ((x.toNat : Nat) : Int) = x by omega, show ((QQ : Nat) : Int) = 1152921504606845399 by decide] at this
    rw [z98 rfl, this, Option.bind_some, zh7]
end Px
end
section
namespace Px
open Go
set_option linter.unusedVariables false
set_option linter.unusedSimpArgs false
set_option maxRecDepth 100000
def za9 (p : z86) : Bool := bet p.fKind 1 5 && bet p.fRailway 0 15 && (bif p.fKind == 3 then bet p.fOther 0 15 && (p.fOther != p.fRailway) else p.fOther == (-1))
def zbo (n : Int) (e : Edge) : Bool := bet e.fA 0 (n - 1) && bet e.fB 0 (n - 1) && (e.fA != e.fB) && bet e.fRailway 0 15 && bet e.fMinutes 1 100000 && bet e.fKm 0 10000
def zbs (x : z7i) : Int := bif decide (512 < x.fPlaces.length) || decide (2048 < x.fEdges.length) then 2 else bif x.fPlaces.all za9 && x.fEdges.all (zbo x.fPlaces.length) then 0 else 1
theorem zcs (φ : Nat) (a b c : Int) : z4z φ a b c = some (bet a b c) := rfl
theorem zg1 (φ : Nat) (p : z86) : z9o φ p = some (za9 p) := by
  have hb : (((decide (p.fKind < 1) || decide (5 < p.fKind)) || decide (p.fRailway < 0)) || decide (16 ≤ p.fRailway)) = !(bet p.fKind 1 5 && bet p.fRailway 0 15) := by
    rw [Bool.eq_iff_iff]; simp [bet]; omega
  unfold z9o za9
  rw [hb]
  cases bet p.fKind 1 5 && bet p.fRailway 0 15 with
  | false => rfl
  | true =>
    rw [if_neg (by simp)]
    by_cases h : p.fKind = 3
    · have : (decide (0 ≤ p.fOther) && decide (p.fOther < 16)) = bet p.fOther 0 15 := by rw [Bool.eq_iff_iff]; simp [bet]; omega
      rw [if_neg (by simp [h]), this]; simp [h]
    · have h2 : (p.fKind == 3) = false := by simpa using h
      rw [if_pos (by simp [h]), h2]; rfl
theorem zhk (φ : Nat) (p : z86) : zb3 φ p = some (za9 p) := by
  unfold zb3 za9
  simp only [zcs, Option.bind_some]
  cases bet p.fKind 1 5 with
  | false => rfl
  | true =>
    rw [z98 (by simp), Option.bind_some]
    cases bet p.fRailway 0 15 with
    | false => rfl
    | true =>
      rw [if_neg (by simp)]
      cases h : p.fKind == 3 with
      | false => rfl
      | true => rfl
theorem zj5 (φ : Nat) (e : Edge) (n : Int) (h : W (n - 1) = n - 1) : zcc φ e n = some (zbo n e) := by
  unfold zcc zbo
  simp only [zcs, Option.bind_some, h, z39]
  cases bet e.fA 0 (n - 1) <;> cases bet e.fB 0 (n - 1) <;> cases (e.fA != e.fB) <;> cases bet e.fRailway 0 15 <;> cases bet e.fMinutes 1 100000 <;> cases bet e.fKm 0 10000 <;> rfl
theorem znz (n : Int) (e : Edge) : ((((((decide ((min2 (min2 (min2 (e.fA) (e.fB)) (e.fRailway)) (e.fKm)) < 0) || decide (n ≤ (max2 (e.fA) (e.fB)))) || (e.fA == e.fB)) || decide (16 ≤ e.fRailway)) || decide (e.fMinutes < 1)) || decide (100000 < e.fMinutes)) || decide (10000 < e.fKm)) = !zbo n e := by
  have hm : ∀ x y z : Int, z ≤ max2 x y ↔ z ≤ x ∨ z ≤ y := by intro x y z; unfold max2; split <;> omega
  have hok : zbo n e = true ↔ ((((((0 ≤ e.fA ∧ e.fA ≤ n - 1) ∧ 0 ≤ e.fB ∧ e.fB ≤ n - 1) ∧ ¬ e.fA = e.fB) ∧ 0 ≤ e.fRailway ∧ e.fRailway ≤ 15) ∧ 1 ≤ e.fMinutes ∧ e.fMinutes ≤ 100000) ∧ 0 ≤ e.fKm ∧ e.fKm ≤ 10000) := by
    simp only [zbo, Bool.and_eq_true, zll, bne_iff_ne, ne_eq]
  rw [Bool.eq_iff_iff, Bool.not_eq_true', ← Bool.not_eq_true, hok]
  simp only [Bool.or_eq_true, decide_eq_true_eq, zs6, hm, beq_iff_eq]
  omega
theorem zm9 (x : z7i) : (decide (512 < (x.fPlaces.length : Int)) || decide (2048 < (x.fEdges.length : Int))) = (decide (512 < x.fPlaces.length) || decide (2048 < x.fEdges.length)) := by
  congr 1 <;> (apply decide_eq_decide.2; omega)
theorem zg8 (φ : Nat) (hφ : 5000 < φ) (x : z7i) : z9w φ x = some (zbs x) := by
  unfold z9w zbs
  rw [zm9]
  cases h : decide (512 < x.fPlaces.length) || decide (2048 < x.fEdges.length) with
  | true => rfl
  | false =>
    simp only [Bool.or_eq_false_iff, decide_eq_false_iff_not, Nat.not_lt] at h
    rw [if_neg (by simp), z8z (z4u φ x (z4k φ x)) (z4k φ x) (some 1) x.fPlaces (fun t => !za9 t) ?_ ?_ φ (by omega)]
    · unfold z4k
      rw [z8z (z4v φ x (z4r φ)) (z4r φ) (some 1) x.fEdges (fun t => !zbo x.fPlaces.length t) ?_ ?_ φ (by omega)]
      · simp only [List.any_eq_not_all_not, Bool.not_not]
        cases x.fPlaces.all za9 <;> cases x.fEdges.all (zbo x.fPlaces.length) <;> rfl
      · intro n i hi
        rw [z4v, if_pos (by simp; omega), zm ⟨by omega, by omega⟩, znz, W_id (by omega) (by omega)]
        cases zbo x.fPlaces.length (gt x.fEdges i) <;> rfl
      · intro n; rw [z4v, if_neg (by simp)]
    · intro n i hi
      rw [z4u, if_pos (by simp; omega), zm ⟨by omega, by omega⟩, zg1, Option.bind_some, W_id (by omega) (by omega)]
      cases za9 (gt x.fPlaces i) <;> rfl
    · intro n; rw [z4u, if_neg (by simp)]
theorem zht (φ : Nat) (hφ : 5000 < φ) (x : z7i) : zb0 φ x = some (zbs x) := by
  unfold zb0 zbs
  rw [zm9]
  cases h : decide (512 < x.fPlaces.length) || decide (2048 < x.fEdges.length) with
  | true => rfl
  | false =>
    simp only [Bool.or_eq_false_iff, decide_eq_false_iff_not, Nat.not_lt] at h
    rw [if_neg (by simp), z8z (z5x φ x (z5u φ x)) (z5u φ x) (some 1) x.fPlaces (fun t => !za9 t) ?_ ?_ φ (by omega)]
    · unfold z5u
      rw [z8z (z5w φ x (z5z φ)) (z5z φ) (some 1) x.fEdges (fun t => !zbo x.fPlaces.length t) ?_ ?_ φ (by omega)]
      · simp only [List.any_eq_not_all_not, Bool.not_not]
        cases x.fPlaces.all za9 <;> cases x.fEdges.all (zbo x.fPlaces.length) <;> rfl
      · intro n i hi
        rw [z5w, if_pos (by simp; omega), zm ⟨by omega, by omega⟩, zj5 _ _ _ (W_id (by omega) (by omega)), Option.bind_some, W_id (by omega) (by omega)]
        cases zbo x.fPlaces.length (gt x.fEdges i) <;> rfl
      · intro n; rw [z5w, if_neg (by simp)]
    · intro n i hi
      rw [z5x, if_pos (by simp; omega), zm ⟨by omega, by omega⟩, zhk, Option.bind_some, W_id (by omega) (by omega)]
      cases za9 (gt x.fPlaces i) <;> rfl
    · intro n; rw [z5x, if_neg (by simp)]
theorem zjy {x : z7i} (h : zbs x = 0) : x.fPlaces.length ≤ 512 ∧ x.fEdges.length ≤ 2048 ∧ (∀ p ∈ x.fPlaces, za9 p = true) ∧ ∀ e ∈ x.fEdges, zbo x.fPlaces.length e = true := by
  unfold zbs at h
  cases h1 : decide (512 < x.fPlaces.length) || decide (2048 < x.fEdges.length) with
  | true => rw [h1] at h; cases h
  | false =>
    rw [h1] at h
    cases h2 : x.fPlaces.all za9 && x.fEdges.all (zbo x.fPlaces.length) with
    | false => rw [h2] at h; cases h
    | true =>
      simp only [Bool.or_eq_false_iff, decide_eq_false_iff_not, Nat.not_lt] at h1
      simp only [Bool.and_eq_true, List.all_eq_true] at h2
      exact ⟨h1.1, h1.2, h2⟩
/-- What Check says of a calendar. -/
def zk4 : Int → List Int → Bool
  | _, [] => true
  | p, h :: t => decide (p < h) && decide (h ≤ 745654) && zk4 h t
def zey (s : Span) : Bool := decide (0 ≤ s.fFrom) && decide (s.fFrom ≤ s.fTo) && decide (s.fTo ≤ 1440)
def zfa (c : z2q) : Bool := ((List.range 7).all fun i => zey (c.fOpen i)) && zk4 (-1) c.fHolidays
theorem zs2 (φ : Nat) (c : z2q) : ∀ (n i : Nat) (p : Int), -1 ≤ p → (i : Int) ≤ p + 1 → p ≤ 745654 → i ≤ c.fHolidays.length → 745656 ≤ (n : Int) + p → z4p φ c (z5i φ) n p i = some (bif zk4 p (c.fHolidays.drop i) then 0 else 1) := by
  intro n
  induction n with
  | zero => intro i p _ _ _ _ _; omega
  | succ n ih =>
    intro i p hp hip hp2 hi hn
    by_cases h : i = c.fHolidays.length
    · rw [h, z4p, if_neg (by simp), List.drop_length]; rfl
    · rw [z4p, if_pos (by simp; omega), zm ⟨by omega, by omega⟩, zlm _ _ (by omega)]
      by_cases hb : gt c.fHolidays i ≤ p ∨ 745654 < gt c.fHolidays i
      · have : (decide (p < gt c.fHolidays i) && decide (gt c.fHolidays i ≤ 745654)) = false := by simp; omega
        rw [if_pos (by simpa using hb)]
        simp [zk4, this]
      · have h2 : (decide (p < gt c.fHolidays i) && decide (gt c.fHolidays i ≤ 745654)) = true := by simp; omega
        rw [if_neg (by simpa using hb), W_id (by omega) (by omega)]
        have := ih (i + 1) (gt c.fHolidays i) (by omega) (by omega) (by omega) (by omega) (by omega)
        rw [show ((i + 1 : Nat) : Int) = (i : Int) + 1 by omega] at this
        rw [this]
        simp [zk4, h2]
theorem zef (s : Span) : ((decide (s.fFrom < 0) || decide (s.fTo < s.fFrom)) || decide (1440 < s.fTo)) = !zey s := by
  rw [Bool.eq_iff_iff]; simp [zey]
  try omega
theorem zf3 (φ : Nat) (hφ : 800000 < φ) (c : z2q) : z9c φ c = some (bif zfa c then 0 else 1) := by
  unfold z9c
  refine z5a (fun n i (_ : Unit) => z42 φ c (z4t φ c) n i) 7 (fun i _ => ((List.range i).all fun j => zey (c.fOpen j)) = true) (fun o => o = some (bif zfa c then 0 else 1)) ?_ ?_ φ () (by simp) (by omega)
  · intro n i _ hi h hs
    rw [z42, if_pos (by simp; omega), zm ⟨by omega, by omega⟩, Int.toNat_natCast, zef, W_id (by omega) (by omega)]
    cases ho : zey (c.fOpen i) with
    | true =>
      rw [if_neg (by simp)]
      exact hs () (by rw [zah, h, ho]; rfl)
    | false =>
      have : zfa c = false := by
        unfold zfa
        have : ((List.range 7).all fun j => zey (c.fOpen j)) = false := by
          rw [List.all_eq_false]; exact ⟨i, by simp; omega, by simp [ho]⟩
        rw [this]; rfl
      rw [if_pos (by simp), this]; rfl
  · intro n _ h
    rw [z42, if_neg (by simp)]
    unfold z4t zfa
    rw [h, Bool.true_and]
    have := zs2 φ c φ 0 (-1) (by omega) (by omega) (by omega) (by omega) (by omega)
    simpa using this
def zb9 (l : List Int) (i : Nat) : Int := if i = 0 then -1 else gt l ((i : Int) - 1)
theorem zq4 (φ : Nat) (c : z2q) : ∀ (n i : Nat), -1 ≤ zb9 c.fHolidays i → (i : Int) ≤ zb9 c.fHolidays i + 1 → zb9 c.fHolidays i ≤ 745654 → i ≤ c.fHolidays.length → 745656 ≤ (n : Int) + zb9 c.fHolidays i → z6i φ c (z7h φ) n i = some (bif zk4 (zb9 c.fHolidays i) (c.fHolidays.drop i) then 0 else 1) := by
  intro n
  induction n with
  | zero => intro i _ _ _ _ _; omega
  | succ n ih =>
    intro i hp hip hp2 hi hn
    by_cases h : i = c.fHolidays.length
    · rw [z6i, if_neg (by rw [h]; simp), h, List.drop_length]; rfl
    · have hW : W ((i : Int) - 1) = (i : Int) - 1 := W_id (by omega) (by omega)
      rw [z6i, if_pos (by simp; omega), zm ⟨by omega, by omega⟩, hW, zm (fun h => by have := h.2; simp at this; omega), zlm _ _ (by omega)]
      have hc : ((decide ((gt c.fHolidays i) < 0) || decide (745654 < (gt c.fHolidays i))) || (decide (0 < (i : Int)) && decide ((gt c.fHolidays i) ≤ (gt c.fHolidays ((i : Int) - 1))))) = !(decide (zb9 c.fHolidays i < gt c.fHolidays i) && decide (gt c.fHolidays i ≤ 745654)) := by
        unfold zb9 at *
        rw [Bool.eq_iff_iff]
        by_cases h0 : i = 0
        · subst h0; simp; omega
        · rw [if_neg h0] at *; simp; omega
      rw [hc]
      cases hb : decide (zb9 c.fHolidays i < gt c.fHolidays i) && decide (gt c.fHolidays i ≤ 745654) with
      | false => rw [if_pos (by simp)]; simp [zk4, hb]
      | true =>
        rw [if_neg (by simp), W_id (by omega) (by omega)]
        have hpe : zb9 c.fHolidays (i + 1) = gt c.fHolidays i := by
          unfold zb9
          rw [if_neg (by omega)]; congr 1; omega
        have hb' := hb
        simp only [Bool.and_eq_true, decide_eq_true_eq] at hb'
        have := ih (i + 1) (by rw [hpe]; omega) (by rw [hpe]; omega) (by rw [hpe]; omega) (by omega) (by rw [hpe]; omega)
        rw [hpe, show ((i + 1 : Nat) : Int) = (i : Int) + 1 by omega] at this
        rw [this]
        simp [zk4, hb]
theorem zi8 (φ : Nat) (hφ : 800000 < φ) (c : z2q) : zbc φ c = some (bif zfa c then 0 else 1) := by
  unfold zbc
  refine z5a (fun n i (_ : Unit) => z63 φ c (z6o φ c) n i) 7 (fun i _ => ((List.range i).all fun j => zey (c.fOpen j)) = true) (fun o => o = some (bif zfa c then 0 else 1)) ?_ ?_ φ () (by simp) (by omega)
  · intro n i _ hi h hs
    rw [z63, if_pos (by simp; omega), zm ⟨by omega, by omega⟩, Int.toNat_natCast, zef, W_id (by omega) (by omega)]
    cases ho : zey (c.fOpen i) with
    | true =>
      rw [if_neg (by simp)]
      exact hs () (by rw [zah, h, ho]; rfl)
    | false =>
      have : zfa c = false := by
        unfold zfa
        have : ((List.range 7).all fun j => zey (c.fOpen j)) = false := by
          rw [List.all_eq_false]; exact ⟨i, by simp; omega, by simp [ho]⟩
        rw [this]; rfl
      rw [if_pos (by simp), this]; rfl
  · intro n _ h
    rw [z63, if_neg (by simp)]
    unfold z6o zfa
    rw [h, Bool.true_and]
    have := zq4 φ c φ 0 (by simp [zb9]) (by simp [zb9]) (by simp [zb9]) (by omega) (by simp [zb9]; omega)
    simpa [zb9] using this
end Px
end
section
namespace Px
open Go
set_option linter.unusedVariables false
set_option linter.unusedSimpArgs false
set_option maxRecDepth 100000
/-- A loop that gathers a flag. -/
theorem zf9 {α ρ : Type} [Inhabited α] (L : Nat → Bool → Int → Option ρ) (k : Bool → Option ρ) (l : List α) (p : α → Bool)
    (step : ∀ (n i : Nat) (s : Bool), i < l.length → L (n + 1) s i = L n (s || p (gt l i)) ((i : Int) + 1)) (done : ∀ n s, L (n + 1) s l.length = k s) (n : Nat) (s : Bool) (hn : l.length < n) : L n s 0 = k (s || l.any p) := by
  refine z5a (fun n i t => L n t i) l.length (fun i t => t = (s || (l.take i).any p)) (fun o => o = k (s || l.any p)) ?_ ?_ n s (by simp) hn
  · intro n i t hi ht hs
    rw [step n i t hi]
    exact hs _ (by rw [zat _ _ _ hi, ht, Bool.or_assoc])
  · intro n t ht
    rw [List.take_length] at ht
    rw [done, ht]
def z9s (n : Int) (r : zeb) : Bool := (((!bet r.fPlace 0 (n - 1)) || decide (r.fLow < (-1000))) || decide (r.fHigh < r.fLow)) || decide (1000 < r.fHigh)
def z8x (x : z7i) (s : zcg) : Bool := (!bet s.fPlace 0 ((x.fPlaces.length : Int) - 1)) || ((gt x.fPlaces s.fPlace).fKind != 4)
def ze5 (r : z2f) : Bool := !zfa r.fCalendar || !zmz r.fKey
def zjm (x : Pool) : Bool :=
  ((((((x.fRailways.length : Int) == 0) || x.fReaders.any (z9s x.fNetwork.fPlaces.length)) || x.fShippers.any (z8x x.fNetwork)) || x.fFleet.fWagons.any (fun w => decide ((x.fNetwork.fPlaces.length : Int) ≤ w.fHome))) ||
  x.fNetwork.fPlaces.any (fun p => decide ((x.fRailways.length : Int) ≤ p.fRailway) || decide ((x.fRailways.length : Int) ≤ p.fOther))) || x.fNetwork.fEdges.any (fun e => decide ((x.fRailways.length : Int) ≤ e.fRailway)) || x.fRailways.any ze5
def ze0 (x : Pool) : Bool := (decide (256 < (x.fReaders.length : Int)) || decide (256 < (x.fShippers.length : Int))) || decide (16 < (x.fRailways.length : Int))
/-- What CheckPool answers. -/
def z8d (x : Pool) : Int := if zbs x.fNetwork ≠ 0 then zbs x.fNetwork else if z93 x.fFleet ≠ 0 then z93 x.fFleet else bif ze0 x then 2 else bif zjm x then 1 else 0
theorem z8i (φ : Nat) (hφ : 800000 < φ) (x : Pool) : z56 φ x = some (z8d x) := by
  unfold z56 z8d
  rw [zg8 _ (by omega), Option.bind_some]
  by_cases hn : zbs x.fNetwork = 0
  case neg => rw [if_pos (by simp [hn]), if_pos hn]
  rw [if_neg (by simp [hn]), if_neg (fun e : zbs x.fNetwork ≠ 0 => e hn), zi2 _ (by omega), Option.bind_some]
  by_cases hf : z93 x.fFleet = 0
  case neg => rw [if_pos (by simp [hf]), if_pos hf]
  rw [if_neg (by simp [hf]), if_neg (fun e : z93 x.fFleet ≠ 0 => e hf)]
  cases hb : ze0 x with
  | true =>
    have e : (((decide (256 < (x.fReaders.length : Int)) || decide (256 < (x.fShippers.length : Int))) || decide (16 < (x.fRailways.length : Int)))) = ze0 x := rfl
    rw [e, hb]; rfl
  | false =>
    have hb' : ¬ (((decide (256 < (x.fReaders.length : Int)) || decide (256 < (x.fShippers.length : Int))) || decide (16 < (x.fRailways.length : Int))) = true) := by
      rw [show (((decide (256 < (x.fReaders.length : Int)) || decide (256 < (x.fShippers.length : Int))) || decide (16 < (x.fRailways.length : Int)))) = ze0 x from rfl, hb]; simp
    rw [if_neg hb']
    simp only [Bool.or_eq_true, decide_eq_true_eq, not_or] at hb'
    obtain ⟨n1, n2, _, _⟩ := zjy hn
    obtain ⟨f1, f2, _⟩ := zdw hf
    have hp : W ((x.fNetwork.fPlaces.length : Int) - 1) = (x.fNetwork.fPlaces.length : Int) - 1 := W_id (by omega) (by omega)
    rw [zf9 (z3i φ x (z3f φ x)) (z3f φ x) x.fReaders (z9s x.fNetwork.fPlaces.length) ?_ ?_ φ _ (by omega)]
    rotate_left
    · intro n i s hi
      rw [z3i, if_pos (by simp; omega), zm ⟨by omega, by omega⟩, hp, W_id (by omega) (by omega)]
      unfold z9s
      cases s with
      | true => rw [z7u (by simp)]; rfl
      | false => rw [z98 rfl]; rfl
    · intro n s; rw [z3i, if_neg (by simp)]
    unfold z3f
    rw [zf9 (z3u φ x (z3c φ x)) (z3c φ x) x.fShippers (z8x x.fNetwork) ?_ ?_ φ _ (by omega)]
    rotate_left
    · intro n i s hi
      rw [z3u, if_pos (by simp; omega), zm ⟨by omega, by omega⟩, hp, W_id (by omega) (by omega)]
      unfold z8x
      cases s with
      | true => rw [z7u (by simp), Option.bind_some, zm (by simp)]; rfl
      | false =>
        rw [z98 rfl, z73, Option.bind_some]
        cases hbt : bet (gt x.fShippers i).fPlace 0 ((x.fNetwork.fPlaces.length : Int) - 1) with
        | true => rw [zm (fun _ => by have := zn9 hbt; omega)]; rfl
        | false => rw [zm (by simp)]; rfl
    · intro n s; rw [z3u, if_neg (by simp)]
    unfold z3c
    rw [zf9 (z3r φ x (z3e φ x)) (z3e φ x) x.fFleet.fWagons (fun w => decide ((x.fNetwork.fPlaces.length : Int) ≤ w.fHome)) ?_ ?_ φ _ (by omega)]
    rotate_left
    · intro n i s hi
      rw [z3r, if_pos (by simp; omega), zm ⟨by omega, by omega⟩, W_id (by omega) (by omega)]
    · intro n s; rw [z3r, if_neg (by simp)]
    unfold z3e
    rw [zf9 (z3n φ x (z3g φ x)) (z3g φ x) x.fNetwork.fPlaces (fun p => decide ((x.fRailways.length : Int) ≤ p.fRailway) || decide ((x.fRailways.length : Int) ≤ p.fOther)) ?_ ?_ φ _ (by omega)]
    rotate_left
    · intro n i s hi
      rw [z3n, if_pos (by simp; omega), zm ⟨by omega, by omega⟩, W_id (by omega) (by omega), Bool.or_assoc]
    · intro n s; rw [z3n, if_neg (by simp)]
    unfold z3g
    rw [zf9 (z3t φ x (z3d φ x)) (z3d φ x) x.fNetwork.fEdges (fun e => decide ((x.fRailways.length : Int) ≤ e.fRailway)) ?_ ?_ φ _ (by omega)]
    rotate_left
    · intro n i s hi
      rw [z3t, if_pos (by simp; omega), zm ⟨by omega, by omega⟩, W_id (by omega) (by omega)]
    · intro n s; rw [z3t, if_neg (by simp)]
    unfold z3d
    rw [zf9 (z3v φ x (z31 φ)) (z31 φ) x.fRailways ze5 ?_ ?_ φ _ (by omega)]
    rotate_left
    · intro n i s hi
      rw [z3v, if_pos (by simp; omega), zm ⟨by omega, by omega⟩, W_id (by omega) (by omega)]
      unfold ze5
      cases s with
      | true => rw [z7u (by simp), Option.bind_some, z7u (by simp)]; rfl
      | false =>
        rw [z98 rfl, zf3 _ hφ, Option.bind_some]
        cases zfa (gt x.fRailways i).fCalendar with
        | false => rw [z7u (by simp)]; rfl
        | true => rw [z98 (by simp), zjq _ (by omega)]; rfl
    · intro n s; rw [z3v, if_neg (by simp)]
    show z31 φ (zjm x) = _
    unfold z31
    cases zjm x <;> rfl
theorem zj3 (φ : Nat) (hφ : 800000 < φ) (x : Pool) (h1 : x.fNetwork.fPlaces.length ≤ 512) (h2 : x.fFleet.fWagons.length ≤ 4096) (h3 : x.fReaders.length ≤ 256) (h4 : x.fShippers.length ≤ 256) :
    zc5 φ x = some (!((x.fReaders.any (z9s x.fNetwork.fPlaces.length) || x.fShippers.any (z8x x.fNetwork)) || x.fFleet.fWagons.any (fun w => decide ((x.fNetwork.fPlaces.length : Int) ≤ w.fHome)))) := by
  have hp : W ((x.fNetwork.fPlaces.length : Int) - 1) = (x.fNetwork.fPlaces.length : Int) - 1 := W_id (by omega) (by omega)
  unfold zc5
  rw [z8z (z6j φ x (z6f φ x)) (z6f φ x) (some false) x.fReaders (z9s x.fNetwork.fPlaces.length) ?_ ?_ φ (by omega)]
  rotate_left
  · intro n i hi
    rw [z6j, if_pos (by simp; omega), zm ⟨by omega, by omega⟩, hp, W_id (by omega) (by omega), z7s, Option.bind_some]
    show (if z9s x.fNetwork.fPlaces.length (gt x.fReaders i) = true then some false else _) = _
    cases z9s x.fNetwork.fPlaces.length (gt x.fReaders i) <;> rfl
  · intro n; rw [z6j, if_neg (by simp)]
  unfold z6f
  rw [z8z (z6n φ x (z6g φ x)) (z6g φ x) (some false) x.fShippers (z8x x.fNetwork) ?_ ?_ φ (by omega)]
  rotate_left
  · intro n i hi
    rw [z6n, if_pos (by simp; omega), zm ⟨by omega, by omega⟩, hp, W_id (by omega) (by omega), z7s, Option.bind_some, zm (fun h => by
      simp only [Bool.not_eq_false'] at h
      have := zn9 h; omega)]
    show (if z8x x.fNetwork (gt x.fShippers i) = true then some false else _) = _
    cases z8x x.fNetwork (gt x.fShippers i) <;> rfl
  · intro n; rw [z6n, if_neg (by simp)]
  unfold z6g
  rw [z8z (z7e φ x (z7a φ)) (z7a φ) (some false) x.fFleet.fWagons (fun w => decide ((x.fNetwork.fPlaces.length : Int) ≤ w.fHome)) ?_ ?_ φ (by omega)]
  rotate_left
  · intro n i hi
    rw [z7e, if_pos (by simp; omega), zm ⟨by omega, by omega⟩, W_id (by omega) (by omega)]
    cases decide ((x.fNetwork.fPlaces.length : Int) ≤ (gt x.fFleet.fWagons i).fHome) <;> rfl
  · intro n; rw [z7e, if_neg (by simp)]
  cases x.fReaders.any (z9s x.fNetwork.fPlaces.length) <;> cases x.fShippers.any (z8x x.fNetwork) <;> cases x.fFleet.fWagons.any (fun w => decide ((x.fNetwork.fPlaces.length : Int) ≤ w.fHome)) <;> rfl
theorem zhn (φ : Nat) (hφ : 800000 < φ) (x : Pool) (h1 : x.fNetwork.fPlaces.length ≤ 512) (h2 : x.fNetwork.fEdges.length ≤ 2048) :
    zbf φ x = some (!(x.fNetwork.fPlaces.any (fun p => decide ((x.fRailways.length : Int) ≤ p.fRailway) || decide ((x.fRailways.length : Int) ≤ p.fOther)) || x.fNetwork.fEdges.any (fun e => decide ((x.fRailways.length : Int) ≤ e.fRailway)))) := by
  unfold zbf
  rw [z8z (z60 φ x (z5t φ x)) (z5t φ x) (some false) x.fNetwork.fPlaces (fun p => decide ((x.fRailways.length : Int) ≤ p.fRailway) || decide ((x.fRailways.length : Int) ≤ p.fOther)) ?_ ?_ φ (by omega)]
  rotate_left
  · intro n i hi
    rw [z60, if_pos (by simp; omega), zm ⟨by omega, by omega⟩, W_id (by omega) (by omega)]
    cases decide ((x.fRailways.length : Int) ≤ (gt x.fNetwork.fPlaces i).fRailway) || decide ((x.fRailways.length : Int) ≤ (gt x.fNetwork.fPlaces i).fOther) <;> rfl
  · intro n; rw [z60, if_neg (by simp)]
  unfold z5t
  rw [z8z (z6l φ x (z6k φ)) (z6k φ) (some false) x.fNetwork.fEdges (fun e => decide ((x.fRailways.length : Int) ≤ e.fRailway)) ?_ ?_ φ (by omega)]
  rotate_left
  · intro n i hi
    rw [z6l, if_pos (by simp; omega), zm ⟨by omega, by omega⟩, W_id (by omega) (by omega)]
    cases decide ((x.fRailways.length : Int) ≤ (gt x.fNetwork.fEdges i).fRailway) <;> rfl
  · intro n; rw [z6l, if_neg (by simp)]
  cases x.fNetwork.fPlaces.any (fun p => decide ((x.fRailways.length : Int) ≤ p.fRailway) || decide ((x.fRailways.length : Int) ≤ p.fOther)) <;> cases x.fNetwork.fEdges.any (fun e => decide ((x.fRailways.length : Int) ≤ e.fRailway)) <;> rfl
theorem ze7 (φ : Nat) (hφ : 800000 < φ) (x : Pool) : z8t φ x = some (z8d x) := by
  unfold z8t z8d
  rw [zht _ (by omega), Option.bind_some]
  by_cases hn : zbs x.fNetwork = 0
  case neg => rw [if_pos (by simp [hn]), if_pos hn]
  rw [if_neg (by simp [hn]), if_neg (fun e : zbs x.fNetwork ≠ 0 => e hn), zhr _ (by omega), Option.bind_some]
  by_cases hf : z93 x.fFleet = 0
  case neg => rw [if_pos (by simp [hf]), if_pos hf]
  rw [if_neg (by simp [hf]), if_neg (fun e : z93 x.fFleet ≠ 0 => e hf)]
  cases hb : ze0 x with
  | true =>
    have e : (((decide (256 < (x.fReaders.length : Int)) || decide (256 < (x.fShippers.length : Int))) || decide (16 < (x.fRailways.length : Int)))) = ze0 x := rfl
    rw [e, hb]; rfl
  | false =>
    have hb' : ¬ (((decide (256 < (x.fReaders.length : Int)) || decide (256 < (x.fShippers.length : Int))) || decide (16 < (x.fRailways.length : Int))) = true) := by
      rw [show (((decide (256 < (x.fReaders.length : Int)) || decide (256 < (x.fShippers.length : Int))) || decide (16 < (x.fRailways.length : Int)))) = ze0 x from rfl, hb]; simp
    rw [if_neg hb']
    simp only [Bool.or_eq_true, decide_eq_true_eq, not_or] at hb'
    obtain ⟨n1, n2, _, _⟩ := zjy hn
    obtain ⟨f1, f2, _⟩ := zdw hf
    rw [zj3 φ hφ _ n1 f2 (by omega) (by omega), Option.bind_some, zhn φ hφ _ n1 n2]
    have hL : z3a φ x (z2p φ x) φ 0 = bif x.fRailways.any ze5 then some 1 else z2p φ x := by
      refine z8z (z3a φ x (z2p φ x)) (z2p φ x) (some 1) x.fRailways ze5 ?_ ?_ φ (by omega)
      · intro n i hi
        rw [z3a, if_pos (by simp; omega), zm ⟨by omega, by omega⟩, W_id (by omega) (by omega), zi8 _ hφ, Option.bind_some]
        unfold ze5
        cases zfa (gt x.fRailways i).fCalendar with
        | false => rw [z7u (by simp)]; rfl
        | true =>
          rw [z98 (by simp), zhu _ (by omega), Option.bind_some]
          cases zmz (gt x.fRailways i).fKey <;> rfl
      · intro n; rw [z3a, if_neg (by simp)]
    rw [hL]
    unfold z2p zjm
    cases x.fReaders.any (z9s x.fNetwork.fPlaces.length) <;> cases x.fShippers.any (z8x x.fNetwork) <;> cases x.fFleet.fWagons.any (fun w => decide ((x.fNetwork.fPlaces.length : Int) ≤ w.fHome)) <;>
      cases x.fNetwork.fPlaces.any (fun p => decide ((x.fRailways.length : Int) ≤ p.fRailway) || decide ((x.fRailways.length : Int) ≤ p.fOther)) <;> cases x.fNetwork.fEdges.any (fun e => decide ((x.fRailways.length : Int) ≤ e.fRailway)) <;>
      cases x.fRailways.any ze5 <;> cases ((x.fRailways.length : Int) == 0) <;> rfl
end Px
end
section
namespace Px
open Go
set_option linter.unusedVariables false
set_option linter.unusedSimpArgs false
set_option maxRecDepth 100000
def zpy (it : Item) : Bool := bif zd3 it.fRef (Ref.mk 0 0) then it.fKind != 14 else (((decide (0 ≤ it.fRef.fRailway) && decide (it.fRef.fRailway < 16)) && decide (1 ≤ it.fRef.fNo)) && decide (it.fRef.fNo ≤ 4096))
theorem zfz (φ : Nat) (it : Item) : z9v φ it = some (zpy it) := by
  unfold z9v zpy
  cases zd3 it.fRef (Ref.mk 0 0) <;> rfl
theorem zh3 (φ : Nat) (hφ : 11 < φ) (it : Item) (v : Bool) :
    z53 φ it (z66 φ it) φ 0 v = some (((v && [0, 0, 0, it.fNumber, 0, it.fTo, 0, it.fDest, it.fClass, it.fWeight, it.fAmount].all fun x => x == 0) && (it.fText == zh8)) && ((it.fParts.length : Int) == 0)) := by
  refine z5a (z53 φ it (z66 φ it)) 11 (fun n s => s = (v && ([0, 0, 0, it.fNumber, 0, it.fTo, 0, it.fDest, it.fClass, it.fWeight, it.fAmount].take n).all fun x => x == 0)) (fun o => o = some (((v && [0, 0, 0, it.fNumber, 0, it.fTo, 0, it.fDest, it.fClass, it.fWeight, it.fAmount].all fun x => x == 0) && (it.fText == zh8)) && ((it.fParts.length : Int) == 0))) ?_ ?_ φ v (by simp) hφ
  · intro n m s hm hs hk
    rw [z53, if_pos (by simp; omega), zm ⟨by omega, by omega⟩, W_id (by omega) (by omega)]
    refine hk _ ?_
    rw [zea _ _ _ hm, hs, Bool.and_assoc]
  · intro n s hs
    rw [z53, if_neg (by simp), hs]
    rfl
def plIn (p : Pool) (it : Item) : Bool := decide (0 ≤ it.fPlace) && decide (it.fPlace < (p.fNetwork.fPlaces.length : Int))
/-- The fields of a delivery or a receipt. -/
def zoj (p : Pool) (it : Item) : Bool :=
  plIn p it && bet it.fWagon 0 ((p.fFleet.fWagons.length : Int) - 1) && ((gt p.fNetwork.fPlaces it.fPlace).fKind == 3) && ((it.fOther == (gt p.fNetwork.fPlaces it.fPlace).fRailway) || (it.fOther == (gt p.fNetwork.fPlaces it.fPlace).fOther)) &&
  bet it.fFrom 0 1073741824 && bet it.fCode 0 8 && (it.fNumber == 0) && (it.fTo == 0) && (it.fDest == 0) && (it.fClass == 0) && (it.fWeight == 0) && (it.fAmount == 0) && (it.fText == zh8) && ((it.fParts.length : Int) == 0)
theorem zgq (φ : Nat) (hφ : 11 < φ) (p : Pool) (it : Item) (hk : it.fKind = 3 ∨ it.fKind = 4) (hw : p.fFleet.fWagons.length ≤ 4096) : zax φ p it = some (zoj p it) := by
  have h161 : zax φ p it = z7m φ p it true := by
    unfold zax
    rcases hk with h | h <;> simp only [h] <;> rfl
  have hW : W ((p.fFleet.fWagons.length : Int) - 1) = (p.fFleet.fWagons.length : Int) - 1 := W_id (by omega) (by omega)
  rw [h161]
  unfold z7m z8c zoj
  rw [if_pos rfl]
  have hpl : (decide (0 ≤ it.fPlace) && decide (it.fPlace < (p.fNetwork.fPlaces.length : Int))) = plIn p it := rfl
  rw [hpl, hW]
  cases hp : plIn p it with
  | true =>
    unfold plIn at hp
    rw [if_pos rfl, zm (by simpa using hp), zh3 φ hφ]
    congr 1
    unfold bet
    generalize (it.fText == zh8) = z
    rw [Bool.eq_iff_iff]
    simp only [List.all_cons, List.all_nil, Bool.and_eq_true, Bool.or_eq_true, decide_eq_true_eq, beq_iff_eq, bne_iff_ne, ne_eq, beq_self_eq_true, true_and, and_true]
    generalize (gt p.fNetwork.fPlaces it.fPlace).fKind = k
    constructor
    · intro h
      obtain ⟨⟨⟨h1, h2⟩, h3⟩, h4⟩ := h
      refine ⟨⟨⟨⟨⟨⟨⟨⟨⟨⟨⟨⟨?_, ?_⟩, ?_⟩, ?_⟩, ?_⟩, ?_⟩, ?_⟩, ?_⟩, ?_⟩, ?_⟩, ?_⟩, h3⟩, h4⟩ <;> first | omega | grind
    · intro h
      grind
  | false =>
    rw [if_neg (by simp), zh3 φ hφ]
    simp
/-- Whether an item that is a delivery or a receipt is valid. -/
def okDR (p : Pool) (it : Item) : Bool := zpy it && zoj p it
theorem zbx (φ : Nat) (hφ : 800000 < φ) (p : Pool) (it : Item) (hk : it.fKind = 3 ∨ it.fKind = 4) :
    z9b φ p it = some (if z8d p ≠ 0 then z8d p else if okDR p it = true then 0 else 110) := by
  unfold z9b
  simp only [Pool.eta', Item.eta', z8i φ hφ, zfz, Option.bind_some]
  by_cases h : z8d p = 0
  · rw [if_neg (by simp [h]), if_neg (fun e : z8d p ≠ 0 => e h)]
    unfold okDR
    have hw : p.fFleet.fWagons.length ≤ 4096 := by
      unfold z8d at h
      by_cases hn : zbs p.fNetwork = 0
      · rw [if_neg (fun e : zbs p.fNetwork ≠ 0 => e hn)] at h
        by_cases hf : z93 p.fFleet = 0
        · exact (zdw hf).2.1
        · rw [if_pos hf] at h; exact absurd h hf
      · rw [if_pos hn] at h; exact absurd h hn
    cases hr : zpy it with
    | false => rw [z7u (by simp)]; rfl
    | true =>
      rw [z98 (by simp), zgq φ (by omega) p it hk hw]
      cases zoj p it <;> rfl
  · rw [if_pos (by simp [h]), if_pos h]
theorem zfj {p : Pool} {it : Item} (h : okDR p it = true) : (0 ≤ it.fPlace ∧ it.fPlace < (p.fNetwork.fPlaces.length : Int)) ∧ (0 ≤ it.fFrom ∧ it.fFrom ≤ 1073741824) ∧ (0 ≤ it.fCode ∧ it.fCode ≤ 8) ∧ (0 ≤ it.fWagon ∧ it.fWagon < (p.fFleet.fWagons.length : Int)) := by
  simp only [okDR, zoj, plIn, Bool.and_eq_true, decide_eq_true_eq, zll] at h
  obtain ⟨_, h⟩ := h
  have h1 := h.1.1.1.1.1.1.1.1
  obtain ⟨⟨⟨⟨⟨h2, h3⟩, _⟩, _⟩, h4⟩, h5⟩ := h1
  exact ⟨h2, h4, h5, h3.1, by omega⟩
end Px
end
section
namespace Px
open Go
set_option linter.unusedVariables false
set_option linter.unusedSimpArgs false
theorem zhh {x y : Ref} : zd3 x y = true ↔ x = y := by
  cases x; cases y; simp [zd3]
theorem zpl (φ : Nat) (hφ : 100 < φ) (p : Pool) : ∃ b, z8l φ p = some b ∧ (b = true → p.fRailways.length ≤ 17) := by
  unfold z8l
  split
  · exact ⟨false, rfl, by simp⟩
  · rename_i h
    have hr : p.fRailways.length ≤ 17 := by
      simp only [Bool.or_eq_true, decide_eq_true_eq, not_or] at h; omega
    refine z5a (fun n i (_ : Unit) => z3p φ p (z4o φ) n i) p.fRailways.length (fun _ _ => True) (fun o => ∃ b, o = some b ∧ (b = true → p.fRailways.length ≤ 17)) ?_ ?_ φ () trivial (by omega)
    · intro n i _ hi _ hk
      rw [z3p, if_pos (by simp; omega), zm ⟨by omega, by omega⟩]
      split
      · exact ⟨false, rfl, by simp⟩
      · rw [W_id (by omega) (by omega)]; exact hk () trivial
    · intro n _ _
      rw [z3p, if_neg (by simp)]; exact ⟨true, rfl, fun _ => hr⟩
theorem zt0 (φ : Nat) (m : Nat) (hm : m ≤ 100000) (hφ : m < φ) (l : List zl) : ∃ b, z72 φ l (m : Int) = some b ∧ (b = true → l.length ≤ m) := by
  unfold z72
  split
  · exact ⟨false, rfl, by simp⟩
  · rename_i h
    have hr : l.length ≤ m := by
      simp only [decide_eq_true_eq] at h; omega
    refine z5a (fun n i (_ : Unit) => z3w φ l (z4n φ) n i) l.length (fun _ _ => True) (fun o => ∃ b, o = some b ∧ (b = true → l.length ≤ m)) ?_ ?_ φ () trivial (by omega)
    · intro n i _ hi _ hk
      rw [z3w, if_pos (by simp; omega), zm ⟨by omega, by omega⟩]
      split
      · exact ⟨false, rfl, by simp⟩
      · rw [W_id (by omega) (by omega)]; exact hk () trivial
    · intro n _ _
      rw [z3w, if_neg (by simp)]; exact ⟨true, rfl, fun _ => hr⟩
theorem zus (φ : Nat) (hφ : 100 < φ) (p : Pool) (l : List zl) : ∃ b, zdc φ p l = some b ∧ (b = true → l.length ≤ 60 ∧ p.fRailways.length ≤ 17) := by
  unfold zdc
  obtain ⟨a, h1, h2⟩ := zpl φ hφ p
  obtain ⟨c, h3, h4⟩ := zt0 φ 60 (by omega) (by omega) l
  simp only [Pool.eta', h1, Option.bind_some]
  cases a with
  | false => rw [z7u (by simp)]; exact ⟨false, rfl, by simp⟩
  | true =>
    rw [z98 rfl]
    have h3' : z72 φ l 60 = some c := h3
    rw [h3', Option.bind_some]
    exact ⟨c, by simp, fun e => ⟨h4 e, h2 rfl⟩⟩
/-- All Refs are different. -/
def Diff (l : List zl) : Prop := ∀ i j : Nat, i < l.length → j < l.length → (gt l (i : Int)).fRef = (gt l (j : Int)).fRef → i = j
theorem zkf (φ : Nat) (l : List zl) (hl : l.length ≤ 100000) (hφ : l.length < φ) : ∃ b, z8s φ l = some b ∧ (b = true → Diff l) := by
  unfold z8s
  refine z5a (fun n i (_ : Unit) => z27 φ l (z2o φ) n i) l.length (fun i _ => ∀ a b : Nat, a < i → b < i → (gt l (a : Int)).fRef = (gt l (b : Int)).fRef → a = b) (fun o => ∃ b, o = some b ∧ (b = true → Diff l)) ?_ ?_ φ () (by omega) hφ
  · intro n i _ hi hI hk
    rw [z27, if_pos (by simp; omega)]
    refine z5a (fun m j (_ : Unit) => z45 φ l (i : Int) (z43 φ (i : Int) (z27 φ l (z2o φ) n)) m j) i (fun j _ => ∀ b : Nat, b < j → (gt l (i : Int)).fRef ≠ (gt l (b : Int)).fRef) (fun o => ∃ b, o = some b ∧ (b = true → Diff l)) ?_ ?_ φ () (by omega) (by omega)
    · intro m j _ hj hJ hk2
      rw [z45, if_pos (by simp; omega), zm ⟨by omega, by omega⟩, zm ⟨by omega, by omega⟩]
      cases he : zd3 (gt l (i : Int)).fRef (gt l (j : Int)).fRef with
      | true => exact ⟨false, rfl, by simp⟩
      | false =>
        rw [if_neg (by simp), W_id (by omega) (by omega)]
        refine hk2 () fun b hb => ?_
        by_cases e : b = j
        · subst e
          intro e2; rw [zhh.2 e2] at he; cases he
        · exact hJ b (by omega)
    · intro m _ hJ
      rw [z45, if_neg (by simp)]
      unfold z43
      rw [W_id (by omega) (by omega)]
      refine hk () fun a b ha hb e => ?_
      by_cases h1 : a = i
      · by_cases h2 : b = i
        · omega
        · subst h1; exact absurd e (hJ b (by omega))
      · by_cases h2 : b = i
        · subst h2; exact absurd e.symm (hJ a (by omega))
        · exact hI a b (by omega) (by omega) e
  · intro n _ hI
    rw [z27, if_neg (by simp)]
    exact ⟨true, rfl, fun _ i j hi hj e => hI i j hi hj e⟩
theorem zp9 (φ : Nat) (l : List zl) (hd : Diff l) (hl : l.length ≤ 100000) (hφ : l.length < φ) (k : Int) (r : Ref) (h0 : 0 ≤ k) (hk : k < (l.length : Int)) (hr : (gt l k).fRef = r) : za8 φ l r = some k := by
  unfold za8
  refine z5a (fun n i (_ : Unit) => z84 φ l r (z88 φ) n i) l.length (fun i _ => (i : Int) ≤ k) (fun o => o = some k) ?_ ?_ φ () (by omega) hφ
  · intro n i _ hi hI hs
    rw [z84, if_pos (by simp; omega), zm ⟨by omega, by omega⟩]
    cases he : zd3 (gt l (i : Int)).fRef r with
    | true =>
      have e := zhh.1 he
      have : i = k.toNat := hd i k.toNat hi (by omega) (by rw [e, Int.toNat_of_nonneg h0, hr])
      rw [if_pos rfl]
      congr 1; omega
    | false =>
      rw [if_neg (by simp), W_id (by omega) (by omega)]
      refine hs () ?_
      have : (i : Int) ≠ k := by
        intro e; rw [e, zhh.2 hr] at he; cases he
      omega
  · intro n _ hI; omega
end Px
end
section
namespace Px
open Go
set_option linter.unusedVariables false
set_option linter.unusedSimpArgs false
set_option maxHeartbeats 1000000
section
theorem zmx (φ : Nat) (P Z Q : List Ref) (c : Nat) : ∀ (n : Nat) (X1 X2 Y1 Y2 : List Ref), X1.length = Y1.length → X2.length = Y2.length → c = X1.length + X2.length → P.length + c + Z.length + c + Q.length ≤ 1000000 → X2.length < n →
    z0u φ (P.length : Int) ((P.length : Int) + c + Z.length) (c : Int) n (X1.length : Int) (P ++ Y1 ++ X2 ++ Z ++ X1 ++ Y2 ++ Q) = some (P ++ Y1 ++ Y2 ++ Z ++ X1 ++ X2 ++ Q) := by
  intro n
  induction n with
  | zero => intro X1 X2 Y1 Y2 _ _ _ _ h; omega
  | succ n ih =>
    intro X1 X2 Y1 Y2 h1 h2 hc hl hn
    cases X2 with
    | nil =>
      have : Y2 = [] := List.eq_nil_of_length_eq_zero (by simpa using h2.symm)
      subst this
      simp only [List.length_nil, Nat.add_zero] at hc
      rw [z0u, if_neg (by simp; omega)]
    | cons x X2 =>
      cases Y2 with
      | nil => simp at h2
      | cons w Y2 =>
        simp only [List.length_cons, Nat.add_right_cancel_iff] at h2 hc hn
        have w1 : W ((P.length : Int) + c + Z.length + X1.length) = (P.length : Int) + c + Z.length + X1.length := W_id (by omega) (by omega)
        have w2 : W ((P.length : Int) + X1.length) = (P.length : Int) + X1.length := W_id (by omega) (by omega)
        have w3 : W ((X1.length : Int) + 1) = (X1.length : Int) + 1 := W_id (by omega) (by omega)
        have e1 : P ++ Y1 ++ x :: X2 ++ Z ++ X1 ++ w :: Y2 ++ Q = (P ++ Y1) ++ x :: (X2 ++ Z ++ X1 ++ w :: Y2 ++ Q) := by simp
        have e2 : P ++ Y1 ++ x :: X2 ++ Z ++ X1 ++ w :: Y2 ++ Q = (P ++ Y1 ++ x :: X2 ++ Z ++ X1) ++ w :: (Y2 ++ Q) := by simp
        have g1 : gt (P ++ Y1 ++ x :: X2 ++ Z ++ X1 ++ w :: Y2 ++ Q) ((P.length : Int) + X1.length) = x := by rw [e1]; exact z8j (by simp; omega)
        have g2 : gt (P ++ Y1 ++ x :: X2 ++ Z ++ X1 ++ w :: Y2 ++ Q) ((P.length : Int) + c + Z.length + X1.length) = w := by rw [e2]; exact z8j (by simp; omega)
        have s1 : z32 (P ++ Y1 ++ x :: X2 ++ Z ++ X1 ++ w :: Y2 ++ Q) ((P.length : Int) + X1.length) w = (P ++ Y1) ++ w :: (X2 ++ Z ++ X1 ++ w :: Y2 ++ Q) := by rw [e1]; exact zaq (by simp; omega)
        have e3 : (P ++ Y1) ++ w :: (X2 ++ Z ++ X1 ++ w :: Y2 ++ Q) = (P ++ Y1 ++ w :: X2 ++ Z ++ X1) ++ w :: (Y2 ++ Q) := by simp
        have s2 : z32 ((P ++ Y1 ++ w :: X2 ++ Z ++ X1) ++ w :: (Y2 ++ Q)) ((P.length : Int) + c + Z.length + X1.length) x = (P ++ Y1 ++ w :: X2 ++ Z ++ X1) ++ x :: (Y2 ++ Q) := zaq (by simp; omega)
        have e4 : (P ++ Y1 ++ w :: X2 ++ Z ++ X1) ++ x :: (Y2 ++ Q) = P ++ (Y1 ++ [w]) ++ X2 ++ Z ++ (X1 ++ [x]) ++ Y2 ++ Q := by simp
        have hlen : ((P ++ Y1 ++ x :: X2 ++ Z ++ X1 ++ w :: Y2 ++ Q).length : Int) = P.length + c + Z.length + c + Q.length := by simp; omega
        have hlen2 : (((P ++ Y1 ++ w :: X2 ++ Z ++ X1) ++ w :: (Y2 ++ Q)).length : Int) = P.length + c + Z.length + c + Q.length := by simp; omega
        rw [z0u, if_pos (by simp; omega), w1, w2, w3, g1, g2, s1, e3, s2, e4, hlen, hlen2]
        rw [zm ⟨by omega, by omega⟩, zm ⟨by omega, by omega⟩, zm ⟨by omega, by omega⟩]
        have := ih (X1 ++ [x]) X2 (Y1 ++ [w]) Y2 (by simp [h1]) h2 (by simp; omega) hl (by omega)
        have e5 : (((X1 ++ [x]).length : Nat) : Int) = (X1.length : Int) + 1 := by simp
        rw [e5] at this
        rw [this]
        simp
theorem zgk (φ : Nat) (P X Z Y Q : List Ref) (y : Ref → Ref → Option Int) (h : X.length = Y.length) (hl : P.length + X.length + Z.length + X.length + Q.length ≤ 1000000) (hφ : X.length < φ) :
    z2e φ (P ++ X ++ Z ++ Y ++ Q) (P.length : Int) ((P.length : Int) + X.length + Z.length) (X.length : Int) y = some (P ++ Y ++ Z ++ X ++ Q) := by
  have := zmx φ P Z Q X.length φ [] X [] Y rfl h (by simp) hl hφ
  simpa [z2e] using this
theorem zpa (φ : Nat) (y : Ref → Ref → Option Int) : ∀ (n : Nat) (P X Y Q : List Ref), X ≠ [] → Y ≠ [] → P.length + X.length + Y.length + Q.length ≤ 1000000 → X.length + Y.length ≤ n → X.length + Y.length < φ →
    z14 φ ((P.length : Int) + X.length) y (z1q φ ((P.length : Int) + X.length) y) n (X.length : Int) (Y.length : Int) (P ++ X ++ Y ++ Q) = some (P ++ Y ++ X ++ Q) := by
  intro n
  induction n with
  | zero => intro P X Y Q hX hY _ h; have := List.length_pos_iff.2 hX; omega
  | succ n ih =>
    intro P X Y Q hX hY hl hn hφ
    have hX0 := List.length_pos_iff.2 hX
    have hY0 := List.length_pos_iff.2 hY
    have w1 : W ((P.length : Int) + X.length - X.length) = (P.length : Int) := by rw [W_id (by omega) (by omega)]; omega
    rw [z14, w1]
    by_cases he : X.length = Y.length
    · rw [if_neg (by simp [he])]
      unfold z1q
      rw [w1]
      have := zgk φ P X [] Y Q y he (by simp; omega) (by omega)
      simp only [List.append_nil, List.length_nil, Int.ofNat_zero, Int.add_zero] at this
      rw [this]; rfl
    · rw [if_pos (by simp; omega)]
      by_cases hlt : Y.length < X.length
      · rw [if_pos (by simp; omega)]
        obtain ⟨X1, X2, rfl, h1⟩ : ∃ X1 X2, X = X1 ++ X2 ∧ X1.length = Y.length := ⟨X.take Y.length, X.drop Y.length, (List.take_append_drop _ _).symm, by simp; omega⟩
        simp only [List.length_append] at hl hn hφ hlt hX0 he
        have e1 : P ++ (X1 ++ X2) ++ Y ++ Q = P ++ X1 ++ X2 ++ Y ++ Q := by simp
        have e2 : (P.length : Int) + ((X1 ++ X2).length : Nat) = (P.length : Int) + X1.length + X2.length := by simp; omega
        rw [e1, e2, ← h1, zgk φ P X1 X2 Y Q y h1 (by omega) (by omega)]
        simp only [Option.bind_some]
        have w2 : W (((X1 ++ X2).length : Int) - X1.length) = (X2.length : Int) := by simp; rw [W_id (by omega) (by omega)]; omega
        rw [w2]
        have := ih (P ++ Y) X2 X1 Q (by intro e; subst e; simp at hlt; omega) (by intro e; subst e; simp at h1; omega) (by simp; omega) (by omega) (by omega)
        have e3 : (((P ++ Y).length : Nat) : Int) + X2.length = (P.length : Int) + X1.length + X2.length := by simp; omega
        rw [e3] at this
        rw [this]
        simp
      · rw [if_neg (by simp; omega)]
        obtain ⟨Y1, Y2, rfl, h1⟩ : ∃ Y1 Y2, Y = Y1 ++ Y2 ∧ Y2.length = X.length := ⟨Y.take (Y.length - X.length), Y.drop (Y.length - X.length), (List.take_append_drop _ _).symm, by simp; omega⟩
        simp only [List.length_append] at hl hn hφ hlt hY0 he
        have e1 : P ++ X ++ (Y1 ++ Y2) ++ Q = P ++ X ++ Y1 ++ Y2 ++ Q := by simp
        have w3 : W ((P.length : Int) + X.length + ((Y1 ++ Y2).length : Nat)) = (P.length : Int) + X.length + Y1.length + Y2.length := by simp; rw [W_id (by omega) (by omega)]; omega
        have w4 : W ((P.length : Int) + X.length + Y1.length + Y2.length - X.length) = (P.length : Int) + X.length + Y1.length := by rw [W_id (by omega) (by omega)]; omega
        have w5 : W (((Y1 ++ Y2).length : Int) - X.length) = (Y1.length : Int) := by simp; rw [W_id (by omega) (by omega)]; omega
        rw [e1, w3, w4, w5, zgk φ P X Y1 Y2 Q y h1.symm (by omega) (by omega)]
        simp only [Option.bind_some]
        have := ih P Y2 Y1 (X ++ Q) (by intro e; subst e; simp at h1; omega) (by intro e; subst e; simp at h1 hlt he; omega) (by simp; omega) (by omega) (by omega)
        rw [h1] at this
        have e2 : P ++ Y2 ++ Y1 ++ X ++ Q = P ++ Y2 ++ Y1 ++ (X ++ Q) := by simp
        rw [e2, this]
        simp
theorem zlh (φ : Nat) (P X Y Q : List Ref) (y : Ref → Ref → Option Int) (hX : X ≠ []) (hY : Y ≠ []) (hl : P.length + X.length + Y.length + Q.length ≤ 1000000) (hφ : X.length + Y.length < φ) :
    z4h φ (P ++ X ++ Y ++ Q) (P.length : Int) ((P.length : Int) + X.length) ((P.length : Int) + X.length + Y.length) y = some (P ++ Y ++ X ++ Q) := by
  have := zpa φ y φ P X Y Q hX hY hl (by omega) hφ
  rw [← this]
  unfold z4h
  have w1 : W ((P.length : Int) + X.length - P.length) = (X.length : Int) := by rw [W_id (by omega) (by omega)]; omega
  have w2 : W ((P.length : Int) + X.length + Y.length - ((P.length : Int) + X.length)) = (Y.length : Int) := by rw [W_id (by omega) (by omega)]; omega
  rw [w1, w2]
end
end Px
end
section
namespace Px
open Go
set_option linter.unusedVariables false
set_option linter.unusedSimpArgs false
set_option maxHeartbeats 2000000
section
variable {D : Ref → Prop} {lt : Ref → Ref → Bool} {y : Ref → Ref → Option Int}
theorem zkn (φ : Nat) (k : List Ref → Option (List Ref)) (x : Ref) : ∀ (n : Nat) (P C E : List Ref), P.length + C.length + E.length ≤ 999999 → C.length < n →
    z1w φ ((P.length : Int) + C.length + 1) k n (P.length : Int) (P ++ x :: (C ++ E)) = k (P ++ C ++ x :: E) := by
  intro n
  induction n with
  | zero => intro P C E _ h; omega
  | succ n ih =>
    intro P C E hl hn
    have w0 : W ((P.length : Int) + C.length + 1 - 1) = (P.length : Int) + C.length := by rw [W_id (by omega) (by omega)]; omega
    rw [z1w, w0]
    cases C with
    | nil => rw [if_neg (by simp)]; simp
    | cons w C =>
      simp only [List.length_cons] at hl hn
      have w1 : W ((P.length : Int) + 1) = (P.length : Int) + 1 := W_id (by omega) (by omega)
      have e1 : P ++ x :: (w :: C ++ E) = (P ++ [x]) ++ w :: (C ++ E) := by simp
      have g1 : gt (P ++ x :: (w :: C ++ E)) (P.length : Int) = x := z8j rfl
      have g2 : gt (P ++ x :: (w :: C ++ E)) ((P.length : Int) + 1) = w := by rw [e1]; exact z8j (by simp)
      have s1 : z32 (P ++ x :: (w :: C ++ E)) (P.length : Int) w = P ++ w :: (w :: C ++ E) := zaq rfl
      have e2 : P ++ w :: (w :: C ++ E) = (P ++ [w]) ++ w :: (C ++ E) := by simp
      have s2 : z32 ((P ++ [w]) ++ w :: (C ++ E)) ((P.length : Int) + 1) x = (P ++ [w]) ++ x :: (C ++ E) := zaq (by simp)
      have hlen : ((P ++ x :: (w :: C ++ E)).length : Int) = P.length + C.length + E.length + 2 := by simp; omega
      have hlen2 : (((P ++ [w]) ++ w :: (C ++ E)).length : Int) = P.length + C.length + E.length + 2 := by simp; omega
      rw [if_pos (by simp; omega), w1, g1, g2, s1, e2, s2, hlen, hlen2, zm ⟨by omega, by omega⟩, zm ⟨by omega, by omega⟩, zm ⟨by omega, by omega⟩]
      have := ih (P ++ [w]) C E (by simp; omega) (by omega)
      have e3 : (((P ++ [w]).length : Nat) : Int) = (P.length : Int) + 1 := by simp
      have e4 : (P.length : Int) + ((w :: C).length : Nat) + 1 = (P.length : Int) + 1 + C.length + 1 := by simp; omega
      rw [e3] at this
      rw [e4, this]
      simp
theorem zhm (φ : Nat) (k : List Ref → Option (List Ref)) (x : Ref) (P : List Ref) : ∀ (n : Nat) (C E : List Ref), P.length + C.length + E.length ≤ 999999 → C.length < n →
    z1s φ (P.length : Int) k n ((P.length : Int) + C.length) (P ++ C ++ x :: E) = k (P ++ x :: (C ++ E)) := by
  intro n
  induction n with
  | zero => intro C E _ h; omega
  | succ n ih =>
    intro C E hl hn
    rw [z1s]
    rcases z7j C with rfl | ⟨S, z, rfl⟩
    · rw [if_neg (by simp)]; simp
    · simp only [List.length_append, List.length_cons, List.length_nil] at hl hn
      have w1 : W ((P.length : Int) + ((S ++ [z]).length : Nat) - 1) = (P.length : Int) + S.length := by
        rw [W_id (by simp; omega) (by simp; omega)]; simp; omega
      have e1 : P ++ (S ++ [z]) ++ x :: E = (P ++ S ++ [z]) ++ x :: E := by simp
      have e2 : P ++ (S ++ [z]) ++ x :: E = (P ++ S) ++ z :: (x :: E) := by simp
      have g1 : gt (P ++ (S ++ [z]) ++ x :: E) ((P.length : Int) + ((S ++ [z]).length : Nat)) = x := by rw [e1]; exact z8j (by simp <;> omega)
      have g2 : gt (P ++ (S ++ [z]) ++ x :: E) ((P.length : Int) + S.length) = z := by rw [e2]; exact z8j (by simp)
      have s1 : z32 (P ++ (S ++ [z]) ++ x :: E) ((P.length : Int) + ((S ++ [z]).length : Nat)) z = (P ++ S) ++ z :: (z :: E) := by rw [e1, zaq (by simp <;> omega)]; simp
      have s2 : z32 ((P ++ S) ++ z :: (z :: E)) ((P.length : Int) + S.length) x = P ++ S ++ x :: (z :: E) := zaq (by simp)
      have hlen : ((P ++ (S ++ [z]) ++ x :: E).length : Int) = P.length + S.length + E.length + 2 := by simp; omega
      have hlen2 : (((P ++ S) ++ z :: (z :: E)).length : Int) = P.length + S.length + E.length + 2 := by simp; omega
      rw [if_pos (by simp; omega), w1, g1, g2, s1, s2, hlen, hlen2, zm ⟨by omega, by omega⟩, zm ⟨by omega, by simp; omega⟩, zm ⟨by omega, by omega⟩]
      rw [ih S (z :: E) (by simp; omega) (by omega)]
      simp
/-- One element before a sorted list. -/
theorem zgm (hs : Swo lt) (hy : Cmp D y lt) (φ : Nat) (P L Q : List Ref) (x : Ref) (hx : D x) (hD : ∀ z ∈ L, D z) (hS : Srt lt L) (hl : P.length + L.length + Q.length ≤ 999998) (hφ : P.length + L.length + 2 < φ) :
    ∃ R, Srt lt R ∧ Stb lt (x :: L) R ∧ z02 φ (P ++ x :: (L ++ Q)) (P.length : Int) y (zz φ (P ++ x :: (L ++ Q)) (P.length : Int)) φ ((P.length : Int) + 1) ((P.length : Int) + 1 + L.length) = some (P ++ R ++ Q) := by
  have gx : gt (P ++ x :: (L ++ Q)) (P.length : Int) = x := z8j rfl
  have hlen : ((P ++ x :: (L ++ Q)).length : Int) = P.length + L.length + Q.length + 1 := by simp; omega
  have gL : ∀ i : Nat, P.length + 1 ≤ i → i < P.length + 1 + L.length → gt (P ++ x :: (L ++ Q)) (i : Int) = gt L ((i - (P.length + 1) : Nat) : Int) := by
    intro i h1 h2
    have e : P ++ x :: (L ++ Q) = (P ++ [x]) ++ (L ++ Q) := by simp
    rw [e, z7b _ _ _ (by simp; omega), z8m _ _ _ (by simp; omega) (by simp; omega)]
    congr 1; simp; omega
  obtain ⟨c, h1, h2, h3, h4, h5⟩ := zfb (z02 φ (P ++ x :: (L ++ Q)) (P.length : Int) y (zz φ (P ++ x :: (L ++ Q)) (P.length : Int)))
    (zz φ (P ++ x :: (L ++ Q)) (P.length : Int)) (fun h => lt (gt (P ++ x :: (L ++ Q)) (h : Int)) x) (P.length + 1 + L.length) (P.length + 1)
    (by
      intro n s r h0 hlt hR
      have hm : (W ((U (W ((s : Int) + r))).fdiv 2)) = (((s + r) / 2 : Nat) : Int) := by rw [zi7 (by omega) (by omega)]; omega
      have hm1 : W ((((s + r) / 2 : Nat) : Int) + 1) = (((s + r) / 2 + 1 : Nat) : Int) := by rw [W_id (by omega) (by omega)]; simp
      obtain ⟨w, hw1, hw2⟩ := hy (gt (P ++ x :: (L ++ Q)) (((s + r) / 2 : Nat) : Int)) x (by
        rw [gL _ (by omega) (by omega)]; exact hD _ (zbt (by omega) (by omega))) hx
      rw [z02, if_pos (by simp; omega), hm, hm1, hlen, gx, zm ⟨by omega, by omega⟩, zm ⟨by omega, by omega⟩, hw1]
      simp only [Option.bind_some, hw2])
    (by
      intro n s
      rw [z02, if_neg (by simp)]) φ (P.length + 1) (P.length + 1 + L.length) (Nat.le_refl _) (by omega) (Nat.le_refl _) (by omega)
  obtain ⟨C, E, rfl, hC⟩ : ∃ C E, L = C ++ E ∧ C.length = c - (P.length + 1) := ⟨L.take (c - (P.length + 1)), L.drop (c - (P.length + 1)), (List.take_append_drop _ _).symm, by simp; omega⟩
  simp only [List.length_append] at hl hφ h2 gL
  have hCx : ∀ z ∈ C, lt z x = true := by
    intro z hz
    rcases z7j C with rfl | ⟨S, w, rfl⟩
    · cases hz
    · simp only [List.length_append, List.length_cons, List.length_nil] at hC hz hS gL h2
      have hp : lt w x = true := by
        rcases h3 with h3 | h3
        · omega
        · rw [gL _ (by omega) (by omega)] at h3
          have e : S ++ [w] ++ E = S ++ w :: E := by simp
          rw [e, z8j (by omega)] at h3
          exact h3
      rcases List.mem_append.1 hz with h | h
      · exact zaw hs (hS.parts.1.parts.2.2 z h w (by simp)) hp (hs.irr x)
      · simp at h; rw [h]; exact hp
  have hEx : ∀ z ∈ E, lt z x = false := by
    intro z hz
    cases E with
    | nil => cases hz
    | cons w E =>
      simp only [List.length_cons] at h2 gL h4
      have hp : lt w x = false := by
        rcases h4 with h4 | h4
        · simp at h4; omega
        · rw [gL _ (by omega) (by omega), z8j (by omega)] at h4
          exact h4
      rcases List.mem_cons.1 hz with h | h
      · rw [h]; exact hp
      · exact hs.ntr _ _ _ ((List.pairwise_cons.1 hS.parts.2.1).1 z h) hp
  have hm := za4 hs (A := []) (B := [x]) (C := C) (E := E) (R1 := C) (R2 := x :: E) (List.pairwise_singleton _ _) hS (by simpa using hCx) (by simp) hS.parts.1 (by simpa using Stb.refl C) (List.pairwise_cons.2 ⟨hEx, hS.parts.2.1⟩) (by simpa using Stb.refl (x :: E))
  refine ⟨C ++ x :: E, hm.1, by simpa using hm.2, ?_⟩
  have e5 : ((P.length : Int) + 1 + ((C ++ E).length : Nat)) = ((P.length + 1 + (C ++ E).length : Nat) : Int) := by simp
  have e6 : ((P.length : Int) + 1) = ((P.length + 1 : Nat) : Int) := by simp
  rw [e5, e6, h5]
  unfold zz
  have e7 : (c : Int) = (P.length : Int) + C.length + 1 := by omega
  have e8 : P ++ x :: (C ++ E ++ Q) = P ++ x :: (C ++ (E ++ Q)) := by simp
  rw [e7, e8, zkn φ _ x φ P C (E ++ Q) (by simp; omega) (by omega)]
  simp [z1y]
/-- A sorted list before one element. -/
theorem zhl (hs : Swo lt) (hy : Cmp D y lt) (φ : Nat) (P L Q : List Ref) (x : Ref) (hx : D x) (hD : ∀ z ∈ L, D z) (hS : Srt lt L) (hl : P.length + L.length + Q.length ≤ 999998) (hφ : P.length + L.length + 2 < φ) :
    ∃ R, Srt lt R ∧ Stb lt (L ++ [x]) R ∧ z00 φ (P ++ L ++ x :: Q) ((P.length : Int) + L.length) y (z07 φ (P ++ L ++ x :: Q) ((P.length : Int) + L.length)) φ (P.length : Int) ((P.length : Int) + L.length) = some (P ++ R ++ Q) := by
  have gx : gt (P ++ L ++ x :: Q) ((P.length : Int) + L.length) = x := z8j (by simp)
  have hlen : ((P ++ L ++ x :: Q).length : Int) = P.length + L.length + Q.length + 1 := by simp; omega
  have gL : ∀ i : Nat, P.length ≤ i → i < P.length + L.length → gt (P ++ L ++ x :: Q) (i : Int) = gt L ((i - P.length : Nat) : Int) := by
    intro i h1 h2
    rw [List.append_assoc, z7b _ _ _ (by omega), z8m _ _ _ (by omega) (by omega)]
    congr 1; omega
  obtain ⟨c, h1, h2, h3, h4, h5⟩ := zfb (z00 φ (P ++ L ++ x :: Q) ((P.length : Int) + L.length) y (z07 φ (P ++ L ++ x :: Q) ((P.length : Int) + L.length)))
    (z07 φ (P ++ L ++ x :: Q) ((P.length : Int) + L.length)) (fun h => !lt x (gt (P ++ L ++ x :: Q) (h : Int))) (P.length + L.length) P.length
    (by
      intro n s r h0 hlt hR
      have hm : (W ((U (W ((s : Int) + r))).fdiv 2)) = (((s + r) / 2 : Nat) : Int) := by rw [zi7 (by omega) (by omega)]; omega
      have hm1 : W ((((s + r) / 2 : Nat) : Int) + 1) = (((s + r) / 2 + 1 : Nat) : Int) := by rw [W_id (by omega) (by omega)]; simp
      obtain ⟨w, hw1, hw2⟩ := hy x (gt (P ++ L ++ x :: Q) (((s + r) / 2 : Nat) : Int)) hx (by
        rw [gL _ (by omega) (by omega)]; exact hD _ (zbt (by omega) (by omega)))
      rw [z00, if_pos (by simp; omega), hm, hm1, hlen, gx, zm ⟨by omega, by omega⟩, zm ⟨by omega, by omega⟩, hw1]
      simp only [Option.bind_some, hw2])
    (by
      intro n s
      rw [z00, if_neg (by simp)]) φ P.length (P.length + L.length) (Nat.le_refl _) (by omega) (Nat.le_refl _) (by omega)
  obtain ⟨A, B, rfl, hC⟩ : ∃ A B, L = A ++ B ∧ A.length = c - P.length := ⟨L.take (c - P.length), L.drop (c - P.length), (List.take_append_drop _ _).symm, by simp; omega⟩
  simp only [List.length_append] at hl hφ h2 gL
  have hA : ∀ z ∈ A, lt x z = false := by
    intro z hz
    rcases z7j A with rfl | ⟨S, w, rfl⟩
    · cases hz
    · simp only [List.length_append, List.length_cons, List.length_nil] at hC hz hS gL h2
      have hp : lt x w = false := by
        rcases h3 with h3 | h3
        · omega
        · rw [gL _ (by omega) (by omega)] at h3
          have e : S ++ [w] ++ B = S ++ w :: B := by simp
          rw [e, z8j (by omega)] at h3
          simpa using h3
      rcases List.mem_append.1 hz with h | h
      · exact hs.ntr _ _ _ hp (hS.parts.1.parts.2.2 z h w (by simp))
      · simp at h; rw [h]; exact hp
  have hB : ∀ z ∈ B, lt x z = true := by
    intro z hz
    cases B with
    | nil => cases hz
    | cons w B =>
      simp only [List.length_cons] at h2 gL h4
      have hp : lt x w = true := by
        rcases h4 with h4 | h4
        · simp at h4; omega
        · rw [gL _ (by omega) (by omega), z8j (by omega)] at h4
          simpa using h4
      rcases List.mem_cons.1 hz with h | h
      · rw [h]; exact hp
      · exact zaw hs (hs.irr x) hp ((List.pairwise_cons.1 hS.parts.2.1).1 z h)
  have hm := za4 hs (A := A) (B := B) (C := [x]) (E := []) (R1 := A ++ [x]) (R2 := B) hS (by rw [List.append_nil]; exact List.pairwise_singleton _ x) (by simpa using hB) (by simp)
    (hS.parts.1.app (List.pairwise_singleton _ _) (by simpa using hA)) (Stb.refl _) hS.parts.2.1 (by simpa using Stb.refl B)
  refine ⟨A ++ [x] ++ B, hm.1, by simpa using hm.2, ?_⟩
  have e5 : ((P.length : Int) + ((A ++ B).length : Nat)) = ((P.length + (A ++ B).length : Nat) : Int) := by simp
  rw [e5] at h5 ⊢
  rw [h5]
  unfold z07
  have e7 : (c : Int) = (((P ++ A).length : Nat) : Int) := by simp; omega
  have e8 : P ++ (A ++ B) ++ x :: Q = (P ++ A) ++ B ++ x :: Q := by simp
  have e9 : ((P.length + (A ++ B).length : Nat) : Int) = (((P ++ A).length : Nat) : Int) + B.length := by simp; omega
  rw [e7, e8, e9, zhm φ _ x (P ++ A) φ B Q (by simp; omega) (by omega)]
  simp [z1u]
end
end Px
end
section
namespace Px
open Go
set_option linter.unusedVariables false
set_option linter.unusedSimpArgs false
set_option maxHeartbeats 4000000
section
variable {D : Ref → Prop} {lt : Ref → Ref → Bool} {y : Ref → Ref → Option Int}
/-- Where the two lists are split. -/
theorem zl0 (hs : Swo lt) (hy : Cmp D y lt) (φ : Nat) (P L1 L2 Q : List Ref) (k : Int → Option (List Ref)) (hD1 : ∀ z ∈ L1, D z) (hD2 : ∀ z ∈ L2, D z) (hS1 : Srt lt L1) (hS2 : Srt lt L2)
    (a m b mid s0 r0 : Nat) (ha : a = P.length) (hm : m = a + L1.length) (hb : b = m + L2.length) (hmid : mid = (a + b) / 2) (hl : b + Q.length ≤ 999998) (hφ : b < φ)
    (h1 : 1 ≤ L1.length) (h2 : 1 ≤ L2.length) (hs0 : (mid < m ∧ s0 = mid + m - b ∧ r0 = mid) ∨ (m ≤ mid ∧ s0 = a ∧ r0 = m)) :
    ∃ A B C E, L1 = A ++ B ∧ L2 = C ++ E ∧ mid + m - (a + A.length) = m + C.length ∧ (∀ x ∈ B, ∀ y ∈ C, lt y x = true) ∧ (∀ x ∈ A, ∀ y ∈ E, lt y x = false) ∧
      z05 φ (P ++ L1 ++ L2 ++ Q) (a : Int) (m : Int) (b : Int) y k φ (s0 : Int) (r0 : Int) = k ((a + A.length : Nat) : Int) := by
  have g1 : ∀ i : Nat, a ≤ i → i < m → gt (P ++ L1 ++ L2 ++ Q) (i : Int) = gt L1 ((i - a : Nat) : Int) := by
    intro i q1 q2
    have e : P ++ L1 ++ L2 ++ Q = P ++ (L1 ++ (L2 ++ Q)) := by simp
    rw [e, z7b _ _ _ (by omega), z8m _ _ _ (by omega) (by omega)]
    congr 1; omega
  have g2 : ∀ i : Nat, m ≤ i → i < b → gt (P ++ L1 ++ L2 ++ Q) (i : Int) = gt L2 ((i - m : Nat) : Int) := by
    intro i q1 q2
    have e : P ++ L1 ++ L2 ++ Q = (P ++ L1) ++ (L2 ++ Q) := by simp
    rw [e, z7b _ _ _ (by simp; omega), z8m _ _ _ (by simp; omega) (by simp; omega)]
    congr 1; simp; omega
  have hlen : ((P ++ L1 ++ L2 ++ Q).length : Int) = b + Q.length := by simp; omega
  have hW : W ((U (W ((a : Int) + b))).fdiv 2) = (mid : Int) := by rw [zi7 (by omega) (by omega)]; omega
  have hn : W ((mid : Int) + m) = ((mid + m : Nat) : Int) := by rw [W_id (by omega) (by omega)]; simp
  have hp : W (((mid + m : Nat) : Int) - 1) = ((mid + m - 1 : Nat) : Int) := by rw [W_id (by omega) (by omega)]; omega
  have hmb : mid ≤ b := by omega
  have ham : a ≤ mid := by omega
  obtain ⟨c, h3, h4, h5, h6, h7⟩ := zfb (z05 φ (P ++ L1 ++ L2 ++ Q) (a : Int) (m : Int) (b : Int) y k) k
    (fun c => !lt (gt (P ++ L1 ++ L2 ++ Q) ((mid + m - 1 - c : Nat) : Int)) (gt (P ++ L1 ++ L2 ++ Q) (c : Int))) r0 s0
    (by
      intro n s r q0 hlt hR
      have hm' : (W ((U (W ((s : Int) + r))).fdiv 2)) = (((s + r) / 2 : Nat) : Int) := by rw [zi7 (by omega) (by omega)]; omega
      have hm1 : W ((((s + r) / 2 : Nat) : Int) + 1) = (((s + r) / 2 + 1 : Nat) : Int) := by rw [W_id (by omega) (by omega)]; simp
      have hpc : W (((mid + m - 1 : Nat) : Int) - (((s + r) / 2 : Nat) : Int)) = ((mid + m - 1 - (s + r) / 2 : Nat) : Int) := by rw [W_id (by omega) (by omega)]; omega
      obtain ⟨w, hw1, hw2⟩ := hy (gt (P ++ L1 ++ L2 ++ Q) ((mid + m - 1 - (s + r) / 2 : Nat) : Int)) (gt (P ++ L1 ++ L2 ++ Q) (((s + r) / 2 : Nat) : Int))
        (by rw [g2 _ (by omega) (by omega)]; exact hD2 _ (zbt (by omega) (by omega))) (by rw [g1 _ (by omega) (by omega)]; exact hD1 _ (zbt (by omega) (by omega)))
      rw [z05, if_pos (by simp; omega), hm', hm1, hW, hn, hp, hpc, hlen, zm ⟨by omega, by omega⟩, zm ⟨by omega, by omega⟩, hw1]
      simp only [Option.bind_some, hw2])
    (by
      intro n s
      rw [z05, if_neg (by simp)]) φ s0 r0 (Nat.le_refl _) (by omega) (Nat.le_refl _) (by omega)
  obtain ⟨A, B, rfl, hA⟩ : ∃ A B, L1 = A ++ B ∧ A.length = c - a := ⟨L1.take (c - a), L1.drop (c - a), (List.take_append_drop _ _).symm, by simp; omega⟩
  obtain ⟨C, E, rfl, hC⟩ : ∃ C E, L2 = C ++ E ∧ C.length = mid - c := ⟨L2.take (mid - c), L2.drop (mid - c), (List.take_append_drop _ _).symm, by simp; omega⟩
  simp only [List.length_append] at hm hb g1 g2
  refine ⟨A, B, C, E, rfl, rfl, by omega, ?_, ?_, ?_⟩
  · intro x hx z hz
    rcases z7j C with rfl | ⟨S, w, rfl⟩
    · cases hz
    · cases B with
      | nil => cases hx
      | cons x0 B =>
        simp only [List.length_append, List.length_cons, List.length_nil] at hC hm hb g1 g2 hA
        have hp : lt w x0 = true := by
          rcases h6 with h6 | h6
          · omega
          · rw [g1 c (by omega) (by omega), g2 (mid + m - 1 - c) (by omega) (by omega)] at h6
            have e : S ++ [w] ++ E = S ++ w :: E := by simp
            rw [e, z8j (by omega), z8j (by omega)] at h6
            simpa using h6
        have hz1 : lt w z = false := by
          rcases List.mem_append.1 hz with h | h
          · exact hS2.parts.1.parts.2.2 z h w (by simp)
          · simp at h; rw [h]; exact hs.irr _
        have hx1 : lt x x0 = false := by
          rcases List.mem_cons.1 hx with h | h
          · rw [h]; exact hs.irr _
          · exact (List.pairwise_cons.1 hS1.parts.2.1).1 x h
        exact zaw hs hz1 hp hx1
  · intro x hx z hz
    rcases z7j A with rfl | ⟨S, w, rfl⟩
    · cases hx
    · cases E with
      | nil => cases hz
      | cons e0 E =>
        simp only [List.length_append, List.length_cons, List.length_nil] at hC hm hb g1 g2 hA
        have hp : lt e0 w = false := by
          rcases h5 with h5 | h5
          · omega
          · have e1 : mid + m - 1 - (c - 1) = mid + m - c := by omega
            rw [e1, g1 (c - 1) (by omega) (by omega), g2 (mid + m - c) (by omega) (by omega)] at h5
            have e : S ++ [w] ++ B = S ++ w :: B := by simp
            rw [e, z8j (by omega), z8j (by omega)] at h5
            simpa using h5
        have hz1 : lt z e0 = false := by
          rcases List.mem_cons.1 hz with h | h
          · rw [h]; exact hs.irr _
          · exact (List.pairwise_cons.1 hS2.parts.2.1).1 z h
        have hx1 : lt w x = false := by
          rcases List.mem_append.1 hx with h | h
          · exact hS1.parts.1.parts.2.2 x h w (by simp)
          · simp at h; rw [h]; exact hs.irr _
        exact zh2 hs hz1 hp hx1
  · rw [h7]
    congr 1
    omega
/-- Merging two sorted lists in place. -/
theorem zej (hs : Swo lt) (hy : Cmp D y lt) : ∀ (φ : Nat) (P L1 L2 Q : List Ref), (∀ z ∈ L1, D z) → (∀ z ∈ L2, D z) → Srt lt L1 → Srt lt L2 → L1 ≠ [] → L2 ≠ [] →
    P.length + L1.length + L2.length + Q.length ≤ 999998 → P.length + L1.length + L2.length + (L1.length + L2.length) + 3 < φ →
    ∃ R, Srt lt R ∧ Stb lt (L1 ++ L2) R ∧ z9 φ (P ++ L1 ++ L2 ++ Q) (P.length : Int) ((P.length : Int) + L1.length) ((P.length : Int) + L1.length + L2.length) y = some (P ++ R ++ Q) := by
  intro φ
  induction φ with
  | zero => intro P L1 L2 Q _ _ _ _ _ _ _ h; omega
  | succ φ ih =>
    intro P L1 L2 Q hD1 hD2 hS1 hS2 hn1 hn2 hl hφ
    have hp1 := List.length_pos_iff.2 hn1
    have hp2 := List.length_pos_iff.2 hn2
    rw [z9]
    have w1 : W ((P.length : Int) + L1.length - P.length) = (L1.length : Int) := by rw [W_id (by omega) (by omega)]; omega
    have w2 : W ((P.length : Int) + L1.length + L2.length - ((P.length : Int) + L1.length)) = (L2.length : Int) := by rw [W_id (by omega) (by omega)]; omega
    rw [w1, w2]
    by_cases q1 : L1.length = 1
    · rw [if_pos (by simp [q1])]
      match L1, q1 with
      | [x], _ =>
        obtain ⟨R, r1, r2, r3⟩ := zgm hs hy φ P L2 Q x (hD1 x (by simp)) hD2 hS2 (by simp at hl; omega) (by simp at hφ; omega)
        refine ⟨R, r1, r2, ?_⟩
        rw [← r3]
        simp
    · rw [if_neg (by simp; omega)]
      by_cases q2 : L2.length = 1
      · rw [if_pos (by simp [q2])]
        match L2, q2 with
        | [x], _ =>
          obtain ⟨R, r1, r2, r3⟩ := zhl hs hy φ P L1 Q x (hD2 x (by simp)) hD1 hS1 (by simp at hl; omega) (by simp at hφ; omega)
          refine ⟨R, r1, r2, ?_⟩
          rw [← r3]
          simp
      · rw [if_neg (by simp; omega)]
        obtain ⟨a, ha⟩ : ∃ a, a = P.length := ⟨_, rfl⟩
        obtain ⟨m, hm⟩ : ∃ m, m = a + L1.length := ⟨_, rfl⟩
        obtain ⟨b, hb⟩ : ∃ b, b = m + L2.length := ⟨_, rfl⟩
        obtain ⟨mid, hmid⟩ : ∃ mid, mid = (a + b) / 2 := ⟨_, rfl⟩
        have ea : (P.length : Int) = (a : Int) := by omega
        have em : (P.length : Int) + L1.length = (m : Int) := by omega
        have eb : (P.length : Int) + L1.length + L2.length = (b : Int) := by omega
        rw [eb, em, ea]
        have hW : W ((U (W ((a : Int) + b))).fdiv 2) = (mid : Int) := by rw [zi7 (by omega) (by omega)]; omega
        have hn : W ((mid : Int) + m) = ((mid + m : Nat) : Int) := by rw [W_id (by omega) (by omega)]; simp
        rw [hW, hn]
        have key : ∃ s0 r0 : Nat, ((mid < m ∧ s0 = mid + m - b ∧ r0 = mid) ∨ (m ≤ mid ∧ s0 = a ∧ r0 = m)) ∧
            (if decide ((mid : Int) < m) = true then z0g φ (P ++ L1 ++ L2 ++ Q) (a : Int) (m : Int) (b : Int) y (z9 φ) (W (((mid + m : Nat) : Int) - b)) (mid : Int)
              else z0g φ (P ++ L1 ++ L2 ++ Q) (a : Int) (m : Int) (b : Int) y (z9 φ) (a : Int) (m : Int)) =
            z0g φ (P ++ L1 ++ L2 ++ Q) (a : Int) (m : Int) (b : Int) y (z9 φ) (s0 : Int) (r0 : Int) := by
          by_cases q : mid < m
          · refine ⟨mid + m - b, mid, .inl ⟨q, rfl, rfl⟩, ?_⟩
            have : W (((mid + m : Nat) : Int) - b) = ((mid + m - b : Nat) : Int) := by rw [W_id (by omega) (by omega)]; omega
            rw [if_pos (by simp; omega), this]
          · refine ⟨a, m, .inr ⟨by omega, rfl, rfl⟩, ?_⟩
            rw [if_neg (by simp; omega)]
        obtain ⟨s0, r0, hk, e⟩ := key
        rw [e]
        unfold z0g
        obtain ⟨A, B, C, E, rfl, rfl, hc, hA, hB, hL⟩ := zl0 hs hy φ P L1 L2 Q (z0h φ (P ++ L1 ++ L2 ++ Q) (a : Int) (m : Int) (b : Int) y (z9 φ)) hD1 hD2 hS1 hS2 a m b mid s0 r0 ha hm hb hmid (by omega) (by omega) (by omega) (by omega) hk
        rw [hL]
        simp only [List.length_append] at hm hb hl hφ hp1 hp2 q1 q2
        have hcm : mid = a + A.length + C.length := by omega
        have hend : W (((mid + m : Nat) : Int) - ((a + A.length : Nat) : Int)) = ((m + C.length : Nat) : Int) := by rw [W_id (by omega) (by omega)]; omega
        have step1 : z0h φ (P ++ (A ++ B) ++ (C ++ E) ++ Q) (a : Int) (m : Int) (b : Int) y (z9 φ) ((a + A.length : Nat) : Int) =
            z0x φ (a : Int) (m : Int) (b : Int) y (z9 φ) ((a + A.length : Nat) : Int) (P ++ A ++ C ++ B ++ E ++ Q) := by
          unfold z0h
          rw [hW, hn, hend]
          by_cases hBC : B = [] ∨ C = []
          · rw [if_neg (by
              rcases hBC with rfl | rfl
              · simp at hm ⊢; omega
              · simp)]
            rcases hBC with rfl | rfl <;> simp
          · obtain ⟨hB0, hC0⟩ := not_or.1 hBC
            have b0 := List.length_pos_iff.2 hB0
            have c0 := List.length_pos_iff.2 hC0
            rw [if_pos (by simp; omega)]
            have := zlh φ (P ++ A) B C (E ++ Q) y hB0 hC0 (by simp; omega) (by omega)
            have e1 : P ++ (A ++ B) ++ (C ++ E) ++ Q = P ++ A ++ B ++ C ++ (E ++ Q) := by simp
            have e2 : ((a + A.length : Nat) : Int) = ((P ++ A).length : Nat) := by simp; omega
            have e3 : (m : Int) = ((P ++ A).length : Nat) + (B.length : Int) := by simp; omega
            have e4 : ((m + C.length : Nat) : Int) = ((P ++ A).length : Nat) + (B.length : Int) + C.length := by simp; omega
            rw [e1]
            conv => lhs; rw [e4, e2]; arg 1; rw [e3]
            rw [this]
            simp [ha]
        rw [step1]
        have step2 : ∃ R1, Srt lt R1 ∧ Stb lt (A ++ C) R1 ∧ z0x φ (a : Int) (m : Int) (b : Int) y (z9 φ) ((a + A.length : Nat) : Int) (P ++ A ++ C ++ B ++ E ++ Q) =
            z0w φ (a : Int) (m : Int) (b : Int) y (z9 φ) ((a + A.length : Nat) : Int) (P ++ R1 ++ B ++ E ++ Q) := by
          unfold z0x
          rw [hW]
          by_cases hAC : A = [] ∨ C = []
          · refine ⟨A ++ C, ?_, Stb.refl _, ?_⟩
            · rcases hAC with rfl | rfl
              · simpa using hS2.parts.1
              · simpa using hS1.parts.1
            · rw [if_neg (by
                rcases hAC with rfl | rfl
                · simp
                · simp at hcm ⊢; omega)]
              simp
          · obtain ⟨hA0, hC0⟩ := not_or.1 hAC
            have a0 := List.length_pos_iff.2 hA0
            have c0 := List.length_pos_iff.2 hC0
            obtain ⟨R1, r1, r2, r3⟩ := ih P A C (B ++ E ++ Q) (fun z hz => hD1 z (by simp [hz])) (fun z hz => hD2 z (by simp [hz])) hS1.parts.1 hS2.parts.1 hA0 hC0 (by simp; omega) (by omega)
            refine ⟨R1, r1, r2, ?_⟩
            rw [if_pos (by simp; omega)]
            have e1 : P ++ A ++ C ++ B ++ E ++ Q = P ++ A ++ C ++ (B ++ E ++ Q) := by simp
            have e2 : ((a + A.length : Nat) : Int) = (P.length : Int) + A.length := by simp; omega
            have e3 : (mid : Int) = (P.length : Int) + A.length + C.length := by omega
            rw [e1]
            conv => lhs; arg 1; rw [e3, e2, ← ea]
            rw [r3]
            simp
        obtain ⟨R1, r1, r2, e2⟩ := step2
        rw [e2]
        have hR1 : R1.length = A.length + C.length := by rw [r2.len]; simp
        have step3 : ∃ R2, Srt lt R2 ∧ Stb lt (B ++ E) R2 ∧ z0w φ (a : Int) (m : Int) (b : Int) y (z9 φ) ((a + A.length : Nat) : Int) (P ++ R1 ++ B ++ E ++ Q) = some (P ++ (R1 ++ R2) ++ Q) := by
          unfold z0w
          rw [hW, hn, hend]
          by_cases hBE : B = [] ∨ E = []
          · refine ⟨B ++ E, ?_, Stb.refl _, ?_⟩
            · rcases hBE with rfl | rfl
              · simpa using hS2.parts.2.1
              · simpa using hS1.parts.2.1
            · rw [if_neg (by
                rcases hBE with rfl | rfl
                · simp at hm ⊢; omega
                · simp at hb ⊢; omega)]
              simp
          · obtain ⟨hB0, hE0⟩ := not_or.1 hBE
            have b0 := List.length_pos_iff.2 hB0
            have c0 := List.length_pos_iff.2 hE0
            obtain ⟨R2, p1, p2, p3⟩ := ih (P ++ R1) B E Q (fun z hz => hD1 z (by simp [hz])) (fun z hz => hD2 z (by simp [hz])) hS1.parts.2.1 hS2.parts.2.1 hB0 hE0 (by simp; omega) (by simp; omega)
            refine ⟨R2, p1, p2, ?_⟩
            rw [if_pos (by simp; omega)]
            have e1 : (mid : Int) = ((P ++ R1).length : Nat) := by simp; omega
            have e3 : ((m + C.length : Nat) : Int) = ((P ++ R1).length : Nat) + (B.length : Int) := by simp; omega
            have e4 : (b : Int) = ((P ++ R1).length : Nat) + (B.length : Int) + E.length := by simp; omega
            conv => lhs; arg 1; rw [e4, e3, e1]
            rw [p3]
            simp
        obtain ⟨R2, p1, p2, e3⟩ := step3
        rw [e3]
        have hm' := za4 hs hS1 hS2 hA hB r1 r2 p1 p2
        exact ⟨R1 ++ R2, hm'.1, hm'.2, rfl⟩
end
end Px
end
section
namespace Px
open Go
set_option linter.unusedVariables false
set_option linter.unusedSimpArgs false
set_option maxHeartbeats 1000000
section
variable {D : Ref → Prop} {lt : Ref → Ref → Bool} {y : Ref → Ref → Option Int}
theorem zla (hy : Cmp D y lt) (φ : Nat) (k : List Ref → Option (List Ref)) (P : List Ref) (x : Ref) (hx : D x) : ∀ (n : Nat) (S1 S2 : List Ref), (∀ z ∈ S1, D z) → P.length + S1.length + S2.length ≤ 1000000 → S1.length < n →
    ∃ A B, S1 = A ++ B ∧ (∀ z ∈ B, lt x z = true) ∧ (A = [] ∨ ∃ A' z, A = A' ++ [z] ∧ lt x z = false) ∧
      z0a φ (P.length : Int) y k n ((P.length : Int) + S1.length) (P ++ S1 ++ x :: S2) = k (P ++ A ++ x :: (B ++ S2)) := by
  intro n
  induction n with
  | zero => intro S1 S2 _ _ h; omega
  | succ n ih =>
    intro S1 S2 hD hl hn
    rcases List.eq_nil_or_concat S1 with rfl | ⟨S, z, rfl⟩
    · refine ⟨[], [], rfl, by simp, .inl rfl, ?_⟩
      have h0 : decide ((P.length : Int) < (P.length : Int) + (([] : List Ref).length : Int)) = false := by simp
      rw [z0a, h0]
      simp [ck, z39]
    · simp only [List.concat_eq_append] at hD hl hn ⊢
      simp only [List.length_append, List.length_cons, List.length_nil] at hl hn
      have e1 : P ++ (S ++ [z]) ++ x :: S2 = (P ++ S ++ [z]) ++ x :: S2 := by simp
      have e2 : P ++ (S ++ [z]) ++ x :: S2 = (P ++ S) ++ z :: (x :: S2) := by simp
      have g1 : gt (P ++ (S ++ [z]) ++ x :: S2) ((P.length : Int) + ((S ++ [z]).length : Int)) = x := by
        rw [e1]; exact z8j (by simp <;> omega)
      have hw : W ((P.length : Int) + ((S ++ [z]).length : Int) - 1) = (P.length : Int) + S.length := by
        rw [W_id (by simp; omega) (by simp; omega)]; simp; omega
      have g2 : gt (P ++ (S ++ [z]) ++ x :: S2) ((P.length : Int) + (S.length : Int)) = z := by
        rw [e2]; exact z8j (by simp)
      have h0 : decide ((P.length : Int) < (P.length : Int) + ((S ++ [z]).length : Int)) = true := by simp; omega
      have hlen : ((P ++ (S ++ [z]) ++ x :: S2).length : Int) = P.length + S.length + 1 + 1 + S2.length := by simp; omega
      obtain ⟨w, hw1, hw2⟩ := hy x z hx (hD z (by simp))
      have s1 : z32 (P ++ (S ++ [z]) ++ x :: S2) ((P.length : Int) + ((S ++ [z]).length : Int)) z = (P ++ S) ++ z :: (z :: S2) := by
        rw [e1, zaq (by simp <;> omega)]; simp
      have s2 : z32 ((P ++ S) ++ z :: (z :: S2)) ((P.length : Int) + (S.length : Int)) x = P ++ S ++ x :: (z :: S2) := zaq (by simp)
      rw [z0a, hw, h0, g1, g2, hw1, hlen]
      rw [zm (fun _ => ⟨by omega, by simp; omega⟩), zm (fun _ => ⟨by omega, by omega⟩), zh0 rfl]
      simp only [Option.bind_some, hw2, Bool.true_and]
      cases hlt : lt x z with
      | true =>
        rw [if_pos rfl, zm ⟨by omega, by omega⟩, zm ⟨by omega, by simp; omega⟩, s1]
        rw [zm ⟨by omega, by simp; omega⟩, s2]
        obtain ⟨A, B, q1, q2, q3, q4⟩ := ih S (z :: S2) (fun u hu => hD u (by simp [hu])) (by simp; omega) (by omega)
        refine ⟨A, B ++ [z], by rw [q1]; simp, ?_, q3, ?_⟩
        · intro u hu
          rcases List.mem_append.1 hu with h | h
          · exact q2 u h
          · simp at h; rw [h]; exact hlt
        · rw [q4]; simp
      | false =>
        rw [if_neg (by simp)]
        exact ⟨S ++ [z], [], by simp, by simp, .inr ⟨S, z, rfl, hlt⟩, by simp⟩
theorem zkr (hs : Swo lt) (hy : Cmp D y lt) (φ : Nat) (P Q : List Ref) : ∀ (n : Nat) (S R : List Ref), S ≠ [] → Srt lt S → (∀ z ∈ S, D z) → (∀ z ∈ R, D z) → P.length + S.length + R.length + Q.length ≤ 1000000 → P.length + S.length + R.length < φ → R.length < n →
    ∃ S', Srt lt S' ∧ Stb lt (S ++ R) S' ∧ zg φ (P.length : Int) ((P.length : Int) + S.length + R.length) y n ((P.length : Int) + S.length) (P ++ S ++ R ++ Q) = some (P ++ S' ++ Q) := by
  intro n
  induction n with
  | zero => intro S R _ _ _ _ _ _ h; omega
  | succ n ih =>
    intro S R hne hS hD hD' hl hφ hn
    cases R with
    | nil =>
      refine ⟨S, hS, by simpa using Stb.refl S, ?_⟩
      rw [zg, if_neg (by simp)]
      simp
    | cons x R =>
      simp only [List.length_cons] at hl hφ hn
      rw [zg, if_pos (by simp; omega)]
      obtain ⟨A, B, q1, q2, q3, q4⟩ := zla hy φ (z0b φ ((P.length : Int) + S.length) (zg φ (P.length : Int) ((P.length : Int) + S.length + (x :: R).length) y n)) P x (hD' x (by simp)) φ S (R ++ Q) hD (by simp; omega) (by omega)
      rw [show P ++ S ++ x :: R ++ Q = P ++ S ++ x :: (R ++ Q) by simp, q4]
      have hA : ∀ u ∈ A, lt x u = false := by
        rcases q3 with rfl | ⟨A', z, rfl, hz⟩
        · simp
        · intro u hu
          rcases List.mem_append.1 hu with h | h
          · subst q1
            have := (hS.parts.1).parts.2.2 u h z (by simp)
            exact hs.ntr _ _ _ hz this
          · simp at h; rw [h]; exact hz
      have hS2 : Srt lt (A ++ x :: B) := by
        subst q1
        refine hS.parts.1.app (List.pairwise_cons.2 ⟨fun u hu => hs.asym _ _ (q2 u hu), hS.parts.2.1⟩) fun u hu v hv => ?_
        rcases List.mem_cons.1 hv with h | h
        · subst h; exact hA u hu
        · exact hS.parts.2.2 u hu v h
      obtain ⟨S', p1, p2, p3⟩ := ih (A ++ x :: B) R (by simp) hS2 (fun z hz => by
        subst q1
        simp only [List.mem_append, List.mem_cons] at hz
        rcases hz with h | h | h
        · exact hD z (by simp [h])
        · subst h; exact hD' _ (by simp)
        · exact hD z (by simp [h])) (fun z hz => hD' z (by simp [hz])) (by subst q1; simp at hl ⊢; omega) (by subst q1; simp at hφ ⊢; omega) (by omega)
      refine ⟨S', p1, ?_, ?_⟩
      · have h1 : Stb lt (S ++ [x]) (A ++ [x] ++ B) := by subst q1; exact zfe hs q2
        have := h1.app (Stb.refl R)
        refine Stb.trans ?_ (Stb.trans this ?_)
        · simpa using Stb.refl (lt := lt) (S ++ x :: R)
        · simpa using p2
      · rw [← p3]
        unfold z0b
        have e1 : W ((P.length : Int) + S.length + 1) = (P.length : Int) + S.length + 1 := W_id (by omega) (by omega)
        have hSl : S.length = A.length + B.length := by rw [q1]; simp
        have e2 : (P.length : Int) + S.length + 1 = P.length + (A ++ x :: B).length := by simp; omega
        have e3 : (P.length : Int) + S.length + (x :: R).length = P.length + (A ++ x :: B).length + R.length := by simp; omega
        have e4 : P ++ A ++ x :: (B ++ (R ++ Q)) = P ++ (A ++ x :: B) ++ R ++ Q := by simp
        rw [e1, e2, e3, e4]
theorem zbm (hs : Swo lt) (hy : Cmp D y lt) (φ : Nat) (P X Q : List Ref) (hD : ∀ z ∈ X, D z) (hl : P.length + X.length + Q.length ≤ 1000000) (hφ : P.length + X.length < φ) :
    ∃ X', Srt lt X' ∧ Stb lt X X' ∧ z1a φ (P ++ X ++ Q) (P.length : Int) ((P.length : Int) + X.length) y = some (P ++ X' ++ Q) := by
  unfold z1a
  rw [W_id (x := (P.length : Int) + 1) (by omega) (by omega)]
  cases X with
  | nil =>
    refine ⟨[], List.Pairwise.nil, Stb.refl _, ?_⟩
    obtain ⟨n, rfl⟩ : ∃ n, φ = n + 1 := ⟨φ - 1, by omega⟩
    rw [zg, if_neg (by simp; omega)]
  | cons x R =>
    simp only [List.length_cons] at hl hφ
    obtain ⟨S', p1, p2, p3⟩ := zkr hs hy φ P Q φ [x] R (by simp) (List.pairwise_singleton _ _) (fun z hz => hD z (by simp at hz; simp [hz])) (fun z hz => hD z (by simp [hz])) (by simp; omega) (by simp; omega) (by omega)
    refine ⟨S', p1, by simpa using p2, ?_⟩
    rw [← p3]
    simp only [List.append_assoc, List.cons_append, List.length_cons, List.length_nil, List.nil_append]
    congr 1
    simp; omega
end
end Px
end
section
namespace Px
open Go
set_option linter.unusedVariables false
set_option linter.unusedSimpArgs false
set_option maxHeartbeats 4000000
section
variable {D : Ref → Prop} {lt : Ref → Ref → Bool} {y : Ref → Ref → Option Int}
theorem zi9 (hs : Swo lt) (hy : Cmp D y lt) (φ N : Nat) (k : Int → List Ref → Option (List Ref)) (hN : N ≤ 900000) (hφ : N < φ) :
    ∀ (n : Nat) (X Y : List Ref), (∀ z ∈ Y, D z) → X.length + Y.length = N → Y.length < n →
    ∃ Y1 Y2 Y1', Y = Y1 ++ Y2 ∧ Runs lt 20 (Y1' ++ []) ∧ Y2.length < 20 ∧ Stb lt Y1 Y1' ∧ (∀ T, Runs lt 20 T → Runs lt 20 (Y1' ++ T)) ∧
      z19 φ (N : Int) y k n (X.length : Int) ((X.length : Int) + 20) (X ++ Y) = k ((X.length : Int) + Y1.length) (X ++ Y1' ++ Y2) := by
  intro n
  induction n with
  | zero => intro X Y _ _ h; omega
  | succ n ih =>
    intro X Y hD hl hn
    rw [z19]
    by_cases h : Y.length < 20
    · refine ⟨[], Y, [], rfl, .last (by simp) List.Pairwise.nil, h, Stb.refl _, fun T hT => hT, ?_⟩
      rw [if_neg (by simp; omega)]
      simp
    · obtain ⟨B, Z, rfl, hB⟩ : ∃ B Z, Y = B ++ Z ∧ B.length = 20 := ⟨Y.take 20, Y.drop 20, (List.take_append_drop _ _).symm, by simp; omega⟩
      simp only [List.length_append] at hl hn h
      rw [if_pos (by simp; omega)]
      obtain ⟨B', b1, b2, b3⟩ := zbm hs hy φ X B Z (fun z hz => hD z (by simp [hz])) (by omega) (by omega)
      rw [hB] at b3
      have e1 : X ++ (B ++ Z) = X ++ B ++ Z := by simp
      have e2 : ((20 : Nat) : Int) = 20 := rfl
      rw [e2] at b3
      rw [e1, b3]
      simp only [Option.bind_some]
      have hB' : B'.length = 20 := by rw [b2.len, hB]
      have w1 : W ((X.length : Int) + 20 + 20) = (X.length : Int) + 20 + 20 := W_id (by omega) (by omega)
      have e3 : (X.length : Int) + 20 = ((X ++ B').length : Nat) := by simp [hB']
      rw [w1]
      obtain ⟨Y1, Y2, Y1', q1, q2, q3, q4, q5, q6⟩ := ih (X ++ B') Z (fun z hz => hD z (by simp [hz])) (by simp; omega) (by omega)
      rw [← e3] at q6
      refine ⟨B ++ Y1, Y2, B' ++ Y1', by rw [q1]; simp, ?_, q3, b2.app q4, fun T hT => ?_, ?_⟩
      · rw [List.append_assoc]; exact .cons hB' b1 q2
      · rw [List.append_assoc]; exact .cons hB' b1 (q5 T hT)
      · rw [q6]
        have e4 : (X.length : Int) + 20 + Y1.length = (X.length : Int) + ((B ++ Y1).length : Nat) := by simp; omega
        rw [e4]
        simp
theorem znv (hs : Swo lt) (hy : Cmp D y lt) (φ N bs : Nat) (k : Int → List Ref → Option (List Ref)) (hN : N ≤ 900000) (hφ : 2 * N + 3 < φ) (hb0 : 0 < bs) (hb : bs ≤ 900000) :
    ∀ (n : Nat) (X Y : List Ref), (∀ z ∈ Y, D z) → Runs lt bs Y → X.length + Y.length = N → Y.length < n →
    ∃ Y', Runs lt (bs * 2) Y' ∧ Stb lt Y Y' ∧ z2b φ (N : Int) y (bs : Int) (z17 φ (N : Int) y (bs : Int) k) n (X.length : Int) ((X.length : Int) + 2 * bs) (X ++ Y) = k ((bs * 2 : Nat) : Int) (X ++ Y') := by
  intro n
  induction n with
  | zero => intro X Y _ _ _ h; omega
  | succ n ih =>
    intro X Y hD hR hl hn
    have w1 : W ((X.length : Int) + bs) = (X.length : Int) + bs := W_id (by omega) (by omega)
    have w2 : W ((bs : Int) * 2) = ((bs * 2 : Nat) : Int) := by rw [W_id (by omega) (by omega)]; simp
    have w3 : W (2 * (bs : Int)) = 2 * (bs : Int) := W_id (by omega) (by omega)
    have w4 : W ((X.length : Int) + 2 * bs + 2 * bs) = (X.length : Int) + 2 * bs + 2 * bs := W_id (by omega) (by omega)
    rw [z2b, w1, w3, w4]
    by_cases h : 2 * bs ≤ Y.length
    · rw [if_pos (by simp; omega)]
      obtain ⟨B1, r, rfl, h1, s1, hr, hne⟩ := hR.big (by omega)
      simp only [List.length_append] at hl hn h
      obtain ⟨B2, Z, rfl, h2, s2, hZ⟩ : ∃ B2 Z, r = B2 ++ Z ∧ B2.length = bs ∧ Srt lt B2 ∧ Runs lt bs Z := by
        by_cases q : r.length = bs
        · exact ⟨r, [], by simp, q, hr.small (by omega), .last (by simp) List.Pairwise.nil⟩
        · obtain ⟨b, r', e, q1, q2, q3, _⟩ := hr.big (by omega)
          exact ⟨b, r', e, q1, q2, q3⟩
      simp only [List.length_append] at hl hn h
      obtain ⟨R, r1, r2, r3⟩ := zej hs hy φ X B1 B2 Z (fun z hz => hD z (by simp [hz])) (fun z hz => hD z (by simp [hz])) s1 s2 (by intro e; subst e; simp at h1; omega) (by intro e; subst e; simp at h2; omega) (by omega) (by omega)
      have hRl : R.length = 2 * bs := by rw [r2.len]; simp; omega
      have e1 : X ++ (B1 ++ (B2 ++ Z)) = X ++ B1 ++ B2 ++ Z := by simp
      have e2 : (X.length : Int) + bs = (X.length : Int) + B1.length := by omega
      have e3 : (X.length : Int) + 2 * bs = (X.length : Int) + B1.length + B2.length := by omega
      have e4 : (X.length : Int) + 2 * bs = ((X ++ R).length : Nat) := by simp; omega
      obtain ⟨Y', p1, p2, p3⟩ := ih (X ++ R) Z (fun z hz => hD z (by simp [hz])) hZ (by simp; omega) (by omega)
      refine ⟨R ++ Y', .cons (by omega) r1 p1, ?_, ?_⟩
      · have := r2.app p2
        simpa using this
      · rw [e1]
        conv => lhs; arg 1; rw [e2, e3]
        rw [r3]
        simp only [Option.bind_some]
        rw [e4, p3]
        simp
    · rw [if_neg (by simp; omega)]
      unfold z17 z2x
      rw [w1, w2]
      by_cases q : bs < Y.length
      · rw [if_pos (by simp; omega)]
        obtain ⟨B1, B2, rfl, h1, s1, hr, hne⟩ := hR.big q
        simp only [List.length_append] at hl hn h
        obtain ⟨R, r1, r2, r3⟩ := zej hs hy φ X B1 B2 [] (fun z hz => hD z (by simp [hz])) (fun z hz => hD z (by simp [hz])) s1 (hr.small (by omega)) (by intro e; subst e; simp at h1; omega) hne (by simp; omega) (by omega)
        have e1 : X ++ (B1 ++ B2) = X ++ B1 ++ B2 ++ [] := by simp
        have e2 : (X.length : Int) + bs = (X.length : Int) + B1.length := by omega
        have e3 : (N : Int) = (X.length : Int) + B1.length + B2.length := by omega
        refine ⟨R, .last (by rw [r2.len]; simp; omega) r1, r2, ?_⟩
        rw [e1, e2, e3, r3]
        simp
      · rw [if_neg (by simp; omega)]
        exact ⟨Y, .last (by omega) (hR.small (by omega)), Stb.refl _, rfl⟩
theorem zlk (hs : Swo lt) (hy : Cmp D y lt) (φ N : Nat) (hN : N ≤ 400000) (hφ : 2 * N + 3 < φ) :
    ∀ (n bs : Nat) (Y : List Ref), (∀ z ∈ Y, D z) → Runs lt bs Y → Y.length = N → 0 < bs → bs ≤ 900000 → N - bs < n →
    ∃ Y', Srt lt Y' ∧ Stb lt Y Y' ∧ zi φ (N : Int) y n (bs : Int) Y = some Y' := by
  intro n
  induction n with
  | zero => intro bs Y _ _ _ _ _ h; omega
  | succ n ih =>
    intro bs Y hD hR hl hb0 hb hn
    rw [zi]
    by_cases h : bs < N
    · rw [if_pos (by simp; omega), W_id (x := 2 * (bs : Int)) (by omega) (by omega)]
      obtain ⟨Y', p1, p2, p3⟩ := znv hs hy φ N bs (zi φ (N : Int) y n) (by omega) hφ hb0 hb φ [] Y hD hR (by simpa using hl) (by omega)
      obtain ⟨Y'', q1, q2, q3⟩ := ih (bs * 2) Y' (fun z hz => hD z (p2.mem.1 hz)) p1 (by rw [p2.len, hl]) (by omega) (by omega) (by omega)
      refine ⟨Y'', q1, p2.trans q2, ?_⟩
      rw [← q3]
      simpa using p3
    · rw [if_neg (by simp; omega)]
      exact ⟨Y, hR.small (by omega), Stb.refl _, rfl⟩
/-- The stable sort sorts, and keeps the order of equal elements. -/
theorem zhd (hs : Swo lt) (hy : Cmp D y lt) (φ : Nat) (v : List Ref) (hD : ∀ z ∈ v, D z) (hN : v.length ≤ 400000) (hφ : 2 * v.length + 3 < φ) :
    ∃ r, Srt lt r ∧ Stb lt v r ∧ z40 φ v y = some r := by
  unfold z40 z5s
  obtain ⟨Y1, Y2, Y1', q1, q2, q3, q4, q5, q6⟩ := zi9 hs hy φ v.length (z0k φ (v.length : Int) y) (by omega) (by omega) φ [] v hD (by simp) (by omega)
  have q6' : z19 φ (v.length : Int) y (z0k φ (v.length : Int) y) φ 0 20 v = z0k φ (v.length : Int) y (Y1.length : Int) (Y1' ++ Y2) := by simpa using q6
  rw [q6']
  unfold z0k
  have hl : v.length = Y1.length + Y2.length := by rw [q1]; simp
  have hl1 : Y1'.length = Y1.length := q4.len
  obtain ⟨Y2', p1, p2, p3⟩ := zbm hs hy φ Y1' Y2 [] (fun z hz => hD z (by rw [q1]; simp [hz])) (by simp; omega) (by omega)
  simp only [List.append_nil] at p3
  have e1 : (Y1.length : Int) = Y1'.length := by omega
  have e2 : (v.length : Int) = (Y1'.length : Int) + Y2.length := by omega
  have p3' : z1a φ (Y1' ++ Y2) (Y1.length : Int) (v.length : Int) y = some (Y1' ++ Y2') := by rw [e1, e2]; exact p3
  have hst : Stb lt v (Y1' ++ Y2') := by rw [q1]; exact q4.app p2
  obtain ⟨r, r1, r2, r3⟩ := zlk hs hy φ v.length hN hφ φ 20 (Y1' ++ Y2') (fun z hz => hD z (hst.mem.1 hz)) (q5 _ (.last (by rw [p2.len]; omega) p1)) hst.len (by omega) (by omega) (by omega)
  refine ⟨r, r1, hst.trans r2, ?_⟩
  rw [p3']
  simp only [Option.bind_some]
  have r3' : zi φ (v.length : Int) y φ 20 (Y1' ++ Y2') = some r := r3
  rw [r3']
  rfl
end
end Px
end
section
namespace Px
open Go
set_option linter.unusedVariables false
set_option linter.unusedSimpArgs false
/-- The receipts; the deliveries in their order; the pairs; the handovers. -/
def isD (p : Pool) (r : zl) : Bool := r.fItem.fKind == 3 && okDR p r.fItem
def isR (p : Pool) (r : zl) : Bool := r.fItem.fKind == 4 && okDR p r.fItem
def rcpI (p : Pool) (l : List zl) : List Int := idxF (isR p) l
def dlvI (p : Pool) (l : List zl) : List Int := zgo (zhg l) (idxF (isD p) l)
def prs (p : Pool) (l : List zl) : List (Nat → Int) := zf4 p l (rcpI p l) (dlvI p l)
theorem zjs {p : Pool} {l : List zl} {i : Int} (h : i ∈ rcpI p l) : (0 ≤ i ∧ i < (l.length : Int)) ∧ (gt l i).fItem.fKind = 4 ∧ okDR p (gt l i).fItem = true := by
  obtain ⟨h1, h2, h3⟩ := zag.1 h
  simp only [isR, Bool.and_eq_true, beq_iff_eq] at h3
  exact ⟨⟨h1, h2⟩, h3⟩
theorem zpq (p : Pool) (l : List zl) : (dlvI p l).length ≤ l.length := by
  unfold dlvI; rw [zkm (zgd l)]; exact zcm _ _
theorem zsc (p : Pool) (l : List zl) : (prs p l).length ≤ l.length := Nat.le_trans (znt p l _ _) (zpq p l)
theorem ok34 (φ : Nat) (hφ : 800000 < φ) (p : Pool) (hc : z8d p = 0) (l : List zl) : ∀ r ∈ l, r.fItem.fKind = 3 ∨ r.fItem.fKind = 4 → ∃ e, z9b φ p r.fItem = some e ∧ (e == 0) = okDR p r.fItem := by
  intro r _ hk
  rw [zbx φ hφ p _ hk, if_neg (fun e : z8d p ≠ 0 => e hc)]
  refine ⟨_, rfl, ?_⟩
  cases okDR p r.fItem <;> rfl
theorem zo8 (φ : Nat) (hφ : 800000 < φ) (p : Pool) (l : List zl) (hl : l.length ≤ 100000) : z6h φ p l = some (if z8d p = 0 then prs p l else []) := by
  by_cases hc : z8d p = 0
  · obtain ⟨ds, s1, s2, s3⟩ := zqb φ p l (okDR p) hl (by omega) (by rw [z8i φ hφ, hc]) (ok34 φ hφ p hc l) (fun r _ _ h => (zfj h).1)
    rw [if_pos hc, s3]
    have : ds = dlvI p l := zm8 (zgd l) s1 s2
    rw [this]; rfl
  · rw [if_neg hc]
    unfold z6h
    simp only [Pool.eta', z8i φ hφ, Option.bind_some]
    rw [if_pos (by simpa using hc)]
theorem zsh (φ : Nat) (n : Nat) (h : n ≤ 1000000) : zbb φ (n : Int) = some [] := by
  have h0 : W (0 - (([] : List Int).length : Int)) = 0 := rfl
  have h1 : W ((n : Int) - 0) = n := by rw [Int.sub_zero]; exact W_id (by omega) (by omega)
  unfold zbb
  rw [if_neg (by simp), h0, h1]
  split
  · rename_i h2
    rw [zm (by simpa using h2), zm (zc8 (by omega) (by omega)), zm ⟨by omega, by simp⟩]
    rfl
  · rfl
theorem znk (φ : Nat) (hφ : 3 < φ) (a b : List Int) (ha : a.length ≤ 100000) (hb : b.length ≤ 100000) : z9r φ [a, b] = some (a ++ b) := by
  unfold z9r
  have hg : ∀ j : Nat, j < 2 → (gt [a, b] (j : Int)).length ≤ 100000 := by
    intro j hj
    match j, hj with
    | 0, _ => exact ha
    | 1, _ => exact hb
  refine z5a (fun n j s => z4x φ [a, b] (z57 φ [a, b]) n s j) 2 (fun j s => 0 ≤ s ∧ s ≤ 100000 * j) (fun o => o = some (a ++ b)) ?_ ?_ φ 0 (by simp) (by omega)
  · intro n j s hj hs hk
    have := hg j hj
    rw [z4x, if_pos (by simp; omega), zm ⟨by omega, by simp; omega⟩, W_id (by omega) (by omega), if_neg (by simp; omega), W_id (by omega) (by omega)]
    exact hk _ (by omega)
  · intro n s hs
    rw [z4x, if_neg (by simp)]
    unfold z57
    have e : s = (s.toNat : Int) := by omega
    rw [e, zsh φ _ (by omega), Option.bind_some]
    refine z5a (z4q φ [a, b] (z4s φ)) 2 (fun j s => s = ([a, b].take j).flatten) (fun o => o = some (a ++ b)) ?_ ?_ φ [] (by simp) (by omega)
    · intro n j s hj hs hk
      have hl := hg j hj
      have hsl : s.length ≤ 100000 := by
        match j, hj with
        | 0, _ => rw [hs]; simp
        | 1, _ => rw [hs]; simpa using ha
      rw [z4q, if_pos (by simp; omega), zm ⟨by omega, by simp; omega⟩, zm (zc8 (by omega) (by omega)), W_id (by omega) (by omega)]
      refine hk _ ?_
      match j, hj with
      | 0, _ => rw [hs]; simp [gt]
      | 1, _ => rw [hs]; simp [gt]
    · intro n s hs
      rw [z4q, if_neg (by simp), hs]
      simp [z4s]
/-- Whether a report belongs to a pair. -/
def zcv (ps : List (Nat → Int)) (i : Int) : Bool := ps.any fun x => x 0 == i || x 1 == i
def zjh (p : Pool) (l : List zl) : List Int := (idxF (isD p) l ++ rcpI p l).filter fun i => !zcv (prs p l) i
def unm (p : Pool) (l : List zl) : List Ref := if z8d p = 0 then zgo znh ((zjh p l).map fun i => (gt l i).fRef) else []
theorem znl (φ : Nat) (ps : List (Nat → Int)) (k : List (Int × Bool) → Option (List Ref)) (R : List Ref) (hl : ps.length ≤ 100000) (hφ : ps.length < φ)
    (hk : ∀ u, (∀ i, (mget u i).getD false = zcv ps i) → k u = some R) : z2r φ ps k φ 0 [] = some R := by
  refine z5a (z2r φ ps k) ps.length (fun j s => ∀ i, (mget s i).getD false = zcv (ps.take j) i) (fun o => o = some R) ?_ ?_ φ [] (fun i => by simp [mget, zcv]) hφ
  · intro n j s hj hs hk
    rw [z2r, if_pos (by simp; omega), zm ⟨by omega, by omega⟩, W_id (by omega) (by omega)]
    refine hk _ fun i => ?_
    rw [zer, zer]
    have := hs i
    unfold zcv at this ⊢
    rw [zat _ _ _ hj, ← this]
    by_cases h1 : i = gt ps (j : Int) 1
    · subst h1; simp
    · by_cases h0 : i = gt ps (j : Int) 0
      · subst h0; simp [h1]
      · rw [if_neg (by simpa using h1), if_neg (by simpa using h0)]
        have e1 : (gt ps (j : Int) 0 == i) = false := by simpa using fun e => h0 e.symm
        have e2 : (gt ps (j : Int) 1 == i) = false := by simpa using fun e => h1 e.symm
        rw [e1, e2]; simp
  · intro n s hs
    rw [List.take_length] at hs
    rw [z2r, if_neg (by simp)]
    exact hk s hs
theorem zs7 (φ : Nat) (hφ : 800000 < φ) (p : Pool) (l : List zl) (hl : l.length ≤ 100000) : z68 φ p l = some (unm p l) := by
  unfold z68 unm
  simp only [Pool.eta', z8i φ hφ, Option.bind_some]
  by_cases hc : z8d p = 0
  case neg => rw [if_pos (by simpa using hc), if_neg hc]
  rw [if_neg (by simpa using hc), zo8 φ hφ p l hl, if_pos hc, if_pos hc, Option.bind_some]
  have pl := zsc p l
  refine znl φ _ _ _ (by omega) (by omega) fun u hu => ?_
  have h3 := of_eq φ p l 3 (okDR p) hl (by omega) fun r hr hk => ok34 φ hφ p hc l r hr (.inl hk)
  have h4 := of_eq φ p l 4 (okDR p) hl (by omega) fun r hr hk => ok34 φ hφ p hc l r hr (.inr hk)
  unfold z3k
  simp only [Pool.eta', h3, h4, Option.bind_some]
  have l3 := zcm (isD p) l
  have l4 := zcm (isR p) l
  have e3 : idxF (fun r => r.fItem.fKind == 3 && okDR p r.fItem) l = idxF (isD p) l := rfl
  have e4 : idxF (fun r => r.fItem.fKind == 4 && okDR p r.fItem) l = rcpI p l := rfl
  have l4' : (rcpI p l).length ≤ l.length := l4
  rw [e3, e4, znk φ (by omega) _ _ (by omega) (by omega), Option.bind_some]
  generalize hA : idxF (isD p) l ++ rcpI p l = A
  have hAl : A.length ≤ 2 * l.length := by rw [← hA]; simp; omega
  have hAm : ∀ z ∈ A, 0 ≤ z ∧ z < (l.length : Int) := by
    intro z hz
    rw [← hA] at hz
    rcases List.mem_append.1 hz with hz | hz
    · have := zag.1 hz; exact ⟨this.1, this.2.1⟩
    · exact (zjs hz).1
  have hfree : zjh p l = A.filter fun i => !zcv (prs p l) i := by unfold zjh; rw [hA]
  rw [hfree]
  refine z5a (z1k φ l u A (z2a φ)) A.length (fun j s => s = ((A.take j).filter fun i => !zcv (prs p l) i).map (fun i => (gt l i).fRef) ∧ s.length ≤ j) (fun o => o = some _) ?_ ?_ φ [] ⟨by simp, by simp⟩ (by omega)
  · intro n j s hj ⟨hs, hsl⟩ hk
    have hz := hAm _ (zbt (l := A) (i := (j : Int)) (by omega) (by omega))
    rw [z1k, if_pos (by simp; omega), zm ⟨by omega, by omega⟩, hu]
    unfold z4b
    rw [W_id (by omega) (by omega)]
    have hnext : ((A.take (j + 1)).filter fun i => !zcv (prs p l) i).map (fun i => (gt l i).fRef) = if (!zcv (prs p l) (gt A (j : Int))) = true then s ++ [(gt l (gt A (j : Int))).fRef] else s := by
      rw [zbr A j hj, List.filter_append, List.map_append, ← hs]
      cases h : zcv (prs p l) (gt A (j : Int)) <;> simp [h]
    split
    · rename_i h
      rw [zm hz, zm (zc8 (by simp; omega) (by omega))]
      exact hk _ ⟨by rw [hnext, if_pos h], by simp; omega⟩
    · rename_i h
      exact hk _ ⟨by rw [hnext, if_neg h], by omega⟩
  · intro n s ⟨hs, hsl⟩
    rw [List.take_length] at hs
    rw [z1k, if_neg (by simp)]
    unfold z2a
    obtain ⟨rs, m1, m2, m3⟩ := zhd zlw (zt2 φ (by omega)) φ s (fun _ _ => trivial) (by omega) (by omega)
    rw [m3, Option.bind_some, zm8 zlw m1 m2, hs]
end Px
end
section
namespace Px
open Go
theorem zl3 : zdd 1000000 = some true := by kernel_rfl
end Px
end
section
namespace Px
open Go
set_option linter.unusedVariables false
set_option linter.unusedSimpArgs false
theorem zpr (l : List zl) (used : List (Int × Bool)) (i k : Int) : zd0 l used i k = ((mget used k).getD false || zd0 l [] i k) := by
  simp only [zd0, unf5, mget, Option.getD_none, Bool.false_or, Bool.or_assoc]
theorem zkq (l : List zl) (used : List (Int × Bool)) (i : Int) : ∀ (rs : List Int) (b : Int), (∀ z ∈ rs, 0 ≤ z) → 0 ≤ b → 0 ≤ rs.foldl (zbi l used i) b
  | [], b, _, h => h
  | k :: rs, b, hr, h => by
    simp only [List.foldl_cons]
    refine zkq l used i rs _ (fun z hz => hr z (by simp [hz])) ?_
    unfold zbi
    split
    · exact h
    · split
      · exact h
      · exact hr k (by simp)
theorem zmb (l : List zl) (used : List (Int × Bool)) (i : Int) : ∀ (rs : List Int) (b : Int), (∀ z ∈ rs, 0 ≤ z) → rs.foldl (zbi l used i) b < 0 → ∀ k ∈ rs, zd0 l used i k = true
  | [], b, _, _, k, hk => by cases hk
  | k :: rs, b, hr, h, j, hj => by
    simp only [List.foldl_cons] at h
    have hr' : ∀ z ∈ rs, 0 ≤ z := fun z hz => hr z (by simp [hz])
    rcases List.mem_cons.1 hj with rfl | hj
    · cases e : zd0 l used i j with
      | true => rfl
      | false =>
        have : 0 ≤ zbi l used i b j := by
          unfold zbi
          rw [if_neg (by simp [e])]
          split
          · rename_i h2; simp at h2; exact h2.1
          · exact hr j (by simp)
        have := zkq l used i rs _ hr' this
        omega
    · exact zmb l used i rs _ hr' h j hj
/-- A proper delivery has a partner, or fits no receipt that has none. -/
def MInv (p : Pool) (l : List zl) (rs done : List Int) (st : List (Int × Bool) × List (Nat → Int)) : Prop :=
  ∀ d ∈ done, za5 p (gt l d) = true → (∃ x ∈ st.2, x 0 = d) ∨ ∀ k ∈ rs, (mget st.1 k).getD false = true ∨ zd0 l [] d k = true
theorem znn {p : Pool} {l : List zl} {rs done : List Int} {st : List (Int × Bool) × List (Nat → Int)} (hr : ∀ z ∈ rs, 0 ≤ z) (h : MInv p l rs done st) (d : Int) : MInv p l rs (done ++ [d]) (zdk p l rs st d) := by
  have hmono : ∀ b : Int, ∀ k : Int, (mget st.1 k).getD false = true → (mget (mset st.1 b true) k).getD false = true := by
    intro b k hk
    rw [zer]
    by_cases q : k = b
    · subst q; simp
    · rw [if_neg (by simpa using q)]; exact hk
  intro e he hp
  rcases List.mem_append.1 he with he | he
  · rcases h e he hp with ⟨x, hx, hx0⟩ | h2
    · left
      unfold zdk
      split
      · exact ⟨x, hx, hx0⟩
      · split
        · exact ⟨x, by simp [hx], hx0⟩
        · exact ⟨x, hx, hx0⟩
    · right
      intro k hk
      rcases h2 k hk with h3 | h3
      · left
        unfold zdk
        split
        · exact h3
        · split
          · exact hmono _ _ h3
          · exact h3
      · exact .inr h3
  · simp at he; subst he
    unfold zdk
    rw [if_neg (by simp [hp])]
    by_cases hb : 0 ≤ zbe l st.1 e rs
    · rw [if_pos hb]
      exact .inl ⟨_, List.mem_append_right _ (List.mem_singleton_self _), rfl⟩
    · rw [if_neg hb]
      right
      intro k hk
      have := zmb l st.1 e rs (-1) hr (show zbe l st.1 e rs < 0 by omega) k hk
      rw [zpr, Bool.or_eq_true] at this
      exact this
theorem zk2 {p : Pool} {l : List zl} {rs : List Int} (hr : ∀ z ∈ rs, 0 ≤ z) : ∀ (ds done : List Int) (st : List (Int × Bool) × List (Nat → Int)), MInv p l rs done st → MInv p l rs (done ++ ds) (ds.foldl (zdk p l rs) st)
  | [], done, st, h => by simpa using h
  | d :: ds, done, st, h => by
    have := zk2 hr ds (done ++ [d]) _ (znn hr h d)
    simpa using this
theorem zsj {p : Pool} {l : List zl} {d k : Int} (hd : d ∈ dlvI p l) (hk : k ∈ rcpI p l) (ud : zcv (prs p l) d = false) (uk : zcv (prs p l) k = false) (hp : za5 p (gt l d) = true) : zd0 l [] d k = true := by
  have h := zk2 (p := p) (l := l) (rs := rcpI p l) (fun z hz => (zjs hz).1.1) (dlvI p l) [] ([], []) (fun d hd => by cases hd)
  have hi := pinv p l (rcpI p l) (dlvI p l)
  rw [List.nil_append] at h
  rcases h d hd hp with ⟨x, hx, hx0⟩ | h2
  · have : zcv (prs p l) d = true := by
      unfold zcv; rw [List.any_eq_true]; exact ⟨x, hx, by simp [hx0]⟩
    rw [ud] at this; cases this
  · rcases h2 k hk with h3 | h3
    · obtain ⟨x, hx, hx1⟩ := (hi.used k).1 h3
      have : zcv (prs p l) k = true := by
        unfold zcv; rw [List.any_eq_true]; exact ⟨x, hx, by simp [hx1]⟩
      rw [uk] at this; cases this
    · exact h3
def znu (p : Pool) (d r : zl) : Bool :=
  (((((za5 p d && za5 p r) && (d.fRef.fRailway == r.fItem.fOther)) && (r.fRef.fRailway == d.fItem.fOther)) && (d.fItem.fWagon == r.fItem.fWagon)) && (d.fItem.fPlace == r.fItem.fPlace)) && decide (gapW d r ≤ 60)
theorem zt8 (φ : Nat) (p : Pool) (d r : zl) (hd : 0 ≤ d.fItem.fPlace ∧ d.fItem.fPlace < (p.fNetwork.fPlaces.length : Int)) (hr : 0 ≤ r.fItem.fPlace ∧ r.fItem.fPlace < (p.fNetwork.fPlaces.length : Int)) : zc6 φ p d r = some (znu p d r) := by
  have h1 : z82 φ p d = some (za5 p d) := by unfold z82; rw [zm hd]; rfl
  have h2 : z82 φ p r = some (za5 p r) := by unfold z82; rw [zm hr]; rfl
  have h3 : ze9 φ d r = some (gapW d r) := rfl
  unfold zc6 znu
  simp only [Pool.eta', Item.eta', zl.eta', h1, h2, h3, Option.bind_some]
  cases za5 p d with
  | false => rw [z7u (by simp), Option.bind_some]; rfl
  | true =>
    rw [z98 rfl, Option.bind_some]
    generalize (((((true && za5 p r) && (d.fRef.fRailway == r.fItem.fOther)) && (r.fRef.fRailway == d.fItem.fOther)) && (d.fItem.fWagon == r.fItem.fWagon)) && (d.fItem.fPlace == r.fItem.fPlace)) = c
    cases c with
    | false => rw [z7u (by simp)]; rfl
    | true => rw [z98 rfl]; rfl
theorem zhe {p : Pool} {l : List zl} {i : Int} (h : i ∈ zjh p l) : (0 ≤ i ∧ i < (l.length : Int)) ∧ zcv (prs p l) i = false ∧ (i ∈ idxF (isD p) l ∨ i ∈ rcpI p l) := by
  unfold zjh at h
  simp only [List.mem_filter, List.mem_append, Bool.not_eq_true'] at h
  refine ⟨?_, h.2, h.1⟩
  rcases h.1 with h1 | h1
  · have := zag.1 h1; exact ⟨this.1, this.2.1⟩
  · exact (zjs h1).1
theorem zsg {p : Pool} {l : List zl} {r : Ref} (h : r ∈ unm p l) : ∃ i ∈ zjh p l, (gt l i).fRef = r := by
  unfold unm at h
  split at h
  · exact List.mem_map.1 (zpg _ h)
  · cases h
theorem zp7 (p : Pool) (l : List zl) : (zjh p l).length ≤ 2 * l.length := by
  unfold zjh
  have h1 := List.length_filter_le (fun i => !zcv (prs p l) i) (idxF (isD p) l ++ rcpI p l)
  have h2 := zcm (isD p) l
  have h3 : (rcpI p l).length ≤ l.length := zcm (isR p) l
  simp only [List.length_append] at h1
  omega
theorem zsp (p : Pool) (l : List zl) : (unm p l).length ≤ 2 * l.length := by
  unfold unm
  split
  · rw [zkm zlw, List.length_map]; exact zp7 p l
  · simp
theorem zdl (p : Pool) (l : List zl) {A B : Prop} (_ : A) (_ : B) : ∃ φ, z7c φ p l = some true := by
  refine ⟨1000000, ?_⟩
  have h8 : 800000 < 1000000 := by omega
  unfold z7c
  obtain ⟨b, hb, hb2⟩ := zus 1000000 (by omega) p l
  simp only [Pool.eta', zl3, hb, Option.bind_some]
  rw [if_neg (by simp)]
  cases b with
  | false => rw [z7u (by simp), Option.bind_some, z7u (by simp)]; rfl
  | true =>
  obtain ⟨hl, _⟩ := hb2 rfl
  rw [z98 (by simp)]
  obtain ⟨d, hd, hd2⟩ := zkf 1000000 l (by omega) (by omega)
  rw [hd, Option.bind_some]
  cases d with
  | false => rw [z7u (by simp)]; rfl
  | true =>
  have hdf := hd2 rfl
  rw [z98 (by simp), ze7 _ h8, Option.bind_some]
  by_cases hc : z8d p = 0
  case neg => rw [if_pos (by simpa using hc)]
  rw [if_neg (by simp [hc]), zs7 _ h8 p l (by omega), Option.bind_some]
  have hul := zsp p l
  have hf : ∀ i : Nat, i < (unm p l).length → ∃ a ∈ zjh p l, za8 1000000 l (gt (unm p l) (i : Int)) = some a := by
    intro i hi
    obtain ⟨a, ha, e⟩ := zsg (zbt (l := unm p l) (i := (i : Int)) (by omega) (by omega))
    obtain ⟨a1, _⟩ := zhe ha
    exact ⟨a, ha, zp9 _ l hdf (by omega) (by omega) a _ a1.1 a1.2 e⟩
  refine z5a (fun n i (_ : Unit) => zt 1000000 p l (unm p l) (zw 1000000) n i) (unm p l).length (fun _ _ => True) (fun o => o = some true) ?_ ?_ _ () trivial (by omega)
  · intro n i _ hi _ hk
    obtain ⟨a, ha, ea⟩ := hf i hi
    obtain ⟨a1, a2, a3⟩ := zhe ha
    rw [zt, if_pos (by simp; omega)]
    refine z5a (fun m j (_ : Unit) => z0p 1000000 p l (unm p l) (i : Int) (z12 1000000 (i : Int) (zt 1000000 p l (unm p l) (zw 1000000) n)) m j) (unm p l).length (fun _ _ => True) (fun o => o = some true) ?_ ?_ _ () trivial (by omega)
    · intro m j _ hj _ hk2
      obtain ⟨c, hcf, ec⟩ := hf j hj
      obtain ⟨c1, c2, c3⟩ := zhe hcf
      have wj : W ((j : Int) + 1) = (j : Int) + 1 := W_id (by omega) (by omega)
      rw [z0p, if_pos (by simp; omega), zm ⟨by omega, by omega⟩, ea, Option.bind_some, zm ⟨by omega, by omega⟩, ec, Option.bind_some, if_neg (by simp; omega), zm a1, zm (fun _ => c1)]
      unfold z3h
      rw [wj]
      by_cases k1 : (gt l a).fItem.fKind = 3
      case neg =>
        rw [z7u (by simp [k1]), Option.bind_some, zm (fun _ => c1), z7u (by simp [k1]), Option.bind_some, if_pos (by simp [k1])]
        exact hk2 () trivial
      by_cases k2 : (gt l c).fItem.fKind = 4
      case neg =>
        rw [z7u (by simp [k2]), Option.bind_some, zm (fun _ => c1), z7u (by simp [k2]), Option.bind_some, if_pos (by simp [k2])]
        exact hk2 () trivial
      rw [z98 (by simp [k1, k2]), zbx _ h8 p _ (.inl k1), if_neg (fun e : z8d p ≠ 0 => e hc), Option.bind_some, zm (fun _ => c1)]
      by_cases o1 : okDR p (gt l a).fItem = true
      case neg =>
        rw [if_neg o1, z7u (by simp), Option.bind_some, if_pos (by simp)]
        exact hk2 () trivial
      rw [if_pos o1, z98 (by simp [k1, k2]), zbx _ h8 p _ (.inr k2), if_neg (fun e : z8d p ≠ 0 => e hc), Option.bind_some]
      by_cases o2 : okDR p (gt l c).fItem = true
      case neg =>
        rw [if_neg o2, if_pos (by simp)]
        exact hk2 () trivial
      rw [if_pos o2, if_neg (by simp [k1, k2]), zm a1, zm c1, zt8 _ p _ _ (zfj o1).1 (zfj o2).1, Option.bind_some]
      have ma : a ∈ dlvI p l := by
        unfold dlvI
        rw [zor (zgd l), zag]
        exact ⟨a1.1, a1.2, by simp [isD, k1, o1]⟩
      have mc' : c ∈ rcpI p l := by
        unfold rcpI
        rw [zag]
        exact ⟨c1.1, c1.2, by simp [isR, k2, o2]⟩
      have hnf : znu p (gt l a) (gt l c) = false := by
        cases e : znu p (gt l a) (gt l c) with
        | false => rfl
        | true =>
          simp only [znu, Bool.and_eq_true, beq_iff_eq, decide_eq_true_eq] at e
          obtain ⟨⟨⟨⟨⟨⟨e1, e2⟩, e3⟩, e4⟩, e5⟩, e6⟩, e7⟩ := e
          have := zsj ma mc' a2 c2 e1
          simp only [zd0, unf5, mget, Option.getD_none, e3, e4, e5, e6, bne_self_eq_false, Bool.or_false, Bool.false_or, decide_eq_true_eq] at this
          omega
      rw [hnf, if_neg (by simp)]
      exact hk2 () trivial
    · intro m _ _
      rw [z0p, if_neg (by simp)]
      unfold z12
      rw [W_id (by omega) (by omega)]
      exact hk () trivial
  · intro n _ _
    rw [zt, if_neg (by simp)]; rfl
end Px
end
