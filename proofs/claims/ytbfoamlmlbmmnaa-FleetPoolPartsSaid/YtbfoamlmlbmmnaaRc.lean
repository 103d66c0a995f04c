/- What Check says of a fleet. Conditions: none. -/
import Derived.Test.YtbfoamlmlbmmnaaQb
import Derived.Test.YtbfoamlmlbmmnaaRb
namespace Px
open Go
set_option linter.unusedVariables false
set_option linter.unusedSimpArgs false
set_option maxRecDepth 100000
theorem fleet_between_eq (φ : Nat) (a b c : Int) : fleet_between φ a b c = some (bet a b c) := rfl
theorem ref09_within_eq (φ : Nat) (a b c : Int) : ref09_within φ a b c = some (bet a b c) := rfl
def okType (t : WagonType) : Bool :=
  bet t.fLoad 0 1000000 && bet t.fTare 0 1000000 && bet t.fLength 0 1000000 && bet t.fBrake 0 1000000 && bet t.fGauge 0 7 && bet t.fLife 1 1073741824 && bet t.fFloor 0 100
def okWagon (n : Int) (w : Wagon) : Bool :=
  bet w.fType 0 (n - 1) && bet w.fOwner 0 63 && bet w.fHome 0 511 && bet w.fBuilt 0 1073741824 && bet w.fWorth 0 1099511627776
def okSwap (n : Int) (s : Swap) : Bool := bet s.fWanted 0 (n - 1) && bet s.fGiven 0 (n - 1) && (s.fWanted != s.fGiven) && bet s.fCost 0 1000000000
def okWash (w : Wash) : Bool := bet w.fFrom 0 63 && bet w.fTo 0 63 && (w.fFrom != w.fTo) && bet w.fMinutes 0 100000
def keyW (w : Wash) : Int := 64 * w.fFrom + w.fTo
def okWashAt (l : List Wash) (i : Nat) : Bool := okWash (gt l (i : Int)) && !(l.take i).any fun v => keyW v == keyW (gt l (i : Int))
def okWashes (l : List Wash) : Bool := (List.range l.length).all (okWashAt l)
/-- What Check answers. -/
def chkFleet (x : Fleet) : Int :=
  bif decide (32 < x.fTypes.length) || decide (4096 < x.fWagons.length) || decide (1024 < x.fSwaps.length) || decide (4096 < x.fWashes.length) then 2 else
  bif x.fTypes.all okType && x.fWagons.all (okWagon x.fTypes.length) && x.fSwaps.all (okSwap x.fTypes.length) && okWashes x.fWashes then 0 else 1
theorem all_range_succ (p : Nat → Bool) (i : Nat) : (List.range (i + 1)).all p = ((List.range i).all p && p i) := by
  rw [List.range_succ, List.all_append]; simp
theorem gcall_t {α : Type} [Inhabited α] {p : Prop} [Decidable p] {x : Option α} (h : p) : gcall p x = x := if_pos h
theorem gcall_f {α : Type} [Inhabited α] {p : Prop} [Decidable p] {x : Option α} (h : ¬ p) : gcall p x = some default := if_neg h
theorem fleet_Check_swaps (φ : Nat) (x : Fleet) (k : Int → Option Int) (hl : x.fSwaps.length ≤ 1024) (ht : x.fTypes.length ≤ 32) :
    ∀ n s, x.fSwaps.length < n → fleet_Check_L69 φ x k n 0 s = k (bif x.fSwaps.all (okSwap (x.fTypes.length : Int)) then s else 1) := by
  have hp : W ((x.fTypes.length : Int) - 1) = (x.fTypes.length : Int) - 1 := W_id (by omega) (by omega)
  refine loop_all _ k _ _ ?_ ?_
  · intro n i s hi
    rw [fleet_Check_L69, if_pos (by simp; omega), ck_pos ⟨by omega, by omega⟩]
    have hW : W ((i : Int) + 1) = (i : Int) + 1 := W_id (by omega) (by omega)
    simp only [fleet_between_eq, Option.bind_some, okSwap, gcall, fleet_Check_j95, hW, hp]
    cases bet (gt x.fSwaps i).fWanted 0 ((x.fTypes.length : Int) - 1) <;> cases bet (gt x.fSwaps i).fGiven 0 ((x.fTypes.length : Int) - 1) <;> cases ((gt x.fSwaps i).fWanted != (gt x.fSwaps i).fGiven) <;>
      cases bet (gt x.fSwaps i).fCost 0 1000000000 <;> rfl
  · intro n s
    rw [fleet_Check_L69, if_neg (by simp)]
theorem fleet_Check_wagons (φ : Nat) (x : Fleet) (k : Int → Option Int) (hl : x.fWagons.length ≤ 4096) (ht : x.fTypes.length ≤ 32) :
    ∀ n s, x.fWagons.length < n → fleet_Check_L99 φ x k n 0 s = k (bif x.fWagons.all (okWagon (x.fTypes.length : Int)) then s else 1) := by
  have hp : W ((x.fTypes.length : Int) - 1) = (x.fTypes.length : Int) - 1 := W_id (by omega) (by omega)
  refine loop_all _ k _ _ ?_ ?_
  · intro n i s hi
    rw [fleet_Check_L99, if_pos (by simp; omega), ck_pos ⟨by omega, by omega⟩]
    have hW : W ((i : Int) + 1) = (i : Int) + 1 := W_id (by omega) (by omega)
    simp only [fleet_between_eq, Option.bind_some, okWagon, gcall, fleet_Check_j115, fleet_Check_j123, hW, hp]
    cases bet (gt x.fWagons i).fType 0 ((x.fTypes.length : Int) - 1) <;> cases bet (gt x.fWagons i).fOwner 0 63 <;> cases bet (gt x.fWagons i).fHome 0 511 <;>
      cases bet (gt x.fWagons i).fBuilt 0 1073741824 <;> cases bet (gt x.fWagons i).fWorth 0 1099511627776 <;> rfl
  · intro n s
    rw [fleet_Check_L99, if_neg (by simp)]
theorem fleet_Check_four (φ : Nat) (x : Fleet) (i : Int) (k : Int → Option Int) (n : Nat) (s : Int) (hn : 4 < n) :
    fleet_Check_L153 φ x i k n 0 s = k (bif [(gt x.fTypes i).fLoad, (gt x.fTypes i).fTare, (gt x.fTypes i).fLength, (gt x.fTypes i).fBrake].all (fun a => bet a 0 1000000) then s else 1) := by
  refine loop_all (fleet_Check_L153 φ x i k) k _ _ ?_ ?_ n s hn
  · intro n j s hi
    rw [fleet_Check_L153, if_pos (by simp at hi ⊢; omega), ck_pos ⟨by omega, by omega⟩]
    simp at hi
    have hW : W ((j : Int) + 1) = (j : Int) + 1 := W_id (by omega) (by omega)
    simp only [fleet_between_eq, Option.bind_some, fleet_Check_j158, hW]
    cases bet (gt [(gt x.fTypes i).fLoad, (gt x.fTypes i).fTare, (gt x.fTypes i).fLength, (gt x.fTypes i).fBrake] (j : Int)) 0 1000000 <;> rfl
  · intro n s
    rw [fleet_Check_L153, if_neg (by simp)]
theorem fleet_Check_types (φ : Nat) (hφ : 4 < φ) (x : Fleet) (k : Int → Option Int) (hl : x.fTypes.length ≤ 32) :
    ∀ n s, x.fTypes.length < n → fleet_Check_L128 φ x k n 0 s = k (bif x.fTypes.all okType then s else 1) := by
  refine loop_all _ k _ _ ?_ ?_
  · intro n i s hi
    rw [fleet_Check_L128, if_pos (by simp; omega), ck_pos ⟨by omega, by omega⟩, fleet_Check_four _ _ _ _ _ _ hφ]
    have hW : W ((i : Int) + 1) = (i : Int) + 1 := W_id (by omega) (by omega)
    simp only [fleet_between_eq, Option.bind_some, okType, gcall, fleet_Check_j136, fleet_Check_j149, fleet_Check_j131, hW, List.all_cons, List.all_nil]
    cases bet (gt x.fTypes i).fLoad 0 1000000 <;> cases bet (gt x.fTypes i).fTare 0 1000000 <;> cases bet (gt x.fTypes i).fLength 0 1000000 <;> cases bet (gt x.fTypes i).fBrake 0 1000000 <;>
      cases bet (gt x.fTypes i).fGauge 0 7 <;> cases bet (gt x.fTypes i).fLife 1 1073741824 <;> cases bet (gt x.fTypes i).fFloor 0 100 <;> rfl
  · intro n s
    rw [fleet_Check_L128, if_neg (by simp)]
theorem fleet_Check_washes (φ : Nat) (x : Fleet) (k : Int → Option Int) (hl : x.fWashes.length ≤ 4096) (n : Nat) (s : Int) (hn : x.fWashes.length < n) :
    fleet_Check_L32 φ x k n 0 s (fun _ => false) = k (bif okWashes x.fWashes then s else 1) := by
  refine loop_up0 (fun n i (t : Int × (Nat → Bool)) => fleet_Check_L32 φ x k n i t.1 t.2) x.fWashes.length
    (fun i t => t.1 = (bif (List.range i).all (okWashAt x.fWashes) then s else 1) ∧ ((List.range i).all (okWashAt x.fWashes) = true → ∀ j : Nat, t.2 j = (x.fWashes.take i).any fun v => keyW v == (j : Int)))
    (fun o => o = k (bif okWashes x.fWashes then s else 1)) ?_ ?_ n (s, fun _ => false) ⟨by simp, by simp⟩ hn
  · intro n i t hi ⟨h1, h2⟩ hs
    have hW : W ((i : Int) + 1) = (i : Int) + 1 := W_id (by omega) (by omega)
    rw [fleet_Check_L32, if_pos (by simp; omega), ck_pos ⟨by omega, by omega⟩]
    simp only [fleet_between_eq, Option.bind_some, gcall]
    have hok : okWash (gt x.fWashes i) = (bet (gt x.fWashes i).fFrom 0 63 && bet (gt x.fWashes i).fTo 0 63 && ((gt x.fWashes i).fFrom != (gt x.fWashes i).fTo) && bet (gt x.fWashes i).fMinutes 0 100000) := rfl
    have hsucc := all_range_succ (okWashAt x.fWashes) i
    cases hw : okWash (gt x.fWashes i) with
    | false =>
      have hf : (List.range (i + 1)).all (okWashAt x.fWashes) = false := by rw [hsucc]; simp [okWashAt, hw]
      have h3 : fleet_Check_L32 φ x k n ((i : Int) + 1) 1 t.2 = k (bif okWashes x.fWashes then s else 1) := hs (1, t.2) ⟨by rw [hf]; rfl, by rw [hf]; intro h; cases h⟩
      rw [hw] at hok
      rw [← h3]
      simp only [fleet_Check_j54, fleet_Check_j57, hW]
      generalize bet (gt x.fWashes i).fFrom 0 63 = a at *; generalize bet (gt x.fWashes i).fTo 0 63 = b at *; generalize ((gt x.fWashes i).fFrom != (gt x.fWashes i).fTo) = c at *; generalize bet (gt x.fWashes i).fMinutes 0 100000 = d at *
      cases a <;> cases b <;> cases c <;> cases d <;> first | (simp only [Bool.and_self, Bool.and_true, Bool.and_false, Bool.false_and, Bool.true_and, Option.bind_some, if_true, Bool.not_false, Bool.not_true, Bool.false_eq_true, if_false, default]; done) | exact absurd hok (by decide)
    | true =>
      rw [hw] at hok
      have hb := hok.symm
      simp only [Bool.and_eq_true] at hb
      obtain ⟨⟨⟨b1, b2⟩, b3⟩, b4⟩ := hb
      have c1 := bet_t b1; have c2 := bet_t b2
      simp only [b1, b2, b3, b4, fleet_Check_j54, Bool.and_self, if_true, Option.bind_some, Bool.not_true, Bool.false_eq_true, if_false]
      rw [ck_pos ⟨by omega, by omega⟩, ck_pos ⟨by omega, by omega⟩]
      have hkey : ((gt x.fWashes i).fFrom.toNat * 64 + (gt x.fWashes i).fTo.toNat : Nat) = (keyW (gt x.fWashes i)).toNat := by unfold keyW; omega
      have hk0 : ((keyW (gt x.fWashes i)).toNat : Int) = keyW (gt x.fWashes i) := by unfold keyW; omega
      rw [hkey]
      have key : ∀ e, (e = bif (List.range (i + 1)).all (okWashAt x.fWashes) then s else 1) →
          fleet_Check_L32 φ x k n ((i : Int) + 1) e (upd t.2 (keyW (gt x.fWashes i)).toNat true) = k (bif okWashes x.fWashes then s else 1) := by
        intro e he
        refine hs (e, _) ⟨he, fun hall j => ?_⟩
        rw [hsucc, Bool.and_eq_true] at hall
        rw [any_take_succ _ _ _ hi, ← h2 hall.1 j]
        show (if j = (keyW (gt x.fWashes i)).toNat then true else t.2 j) = _
        by_cases hj : j = (keyW (gt x.fWashes i)).toNat
        · simp [hj, hk0]
        · have : (keyW (gt x.fWashes i) == (j : Int)) = false := by
            simp; intro h; exact hj (by omega)
          simp [hj, this]
      simp only [fleet_Check_j63, fleet_Check_j57, hW, hkey]
      cases hall : (List.range i).all (okWashAt x.fWashes) with
      | true =>
        have hat : okWashAt x.fWashes i = !(t.2 (keyW (gt x.fWashes i)).toNat) := by
          rw [h2 hall]; simp only [okWashAt, hw, Bool.true_and, hk0]
        cases ht2 : t.2 (keyW (gt x.fWashes i)).toNat with
        | true =>
          simp only [Bool.not_true, Bool.not_false, if_true]
          refine key 1 ?_
          rw [hsucc, hat, ht2]; simp
        | false =>
          simp only [Bool.not_true, Bool.not_false, Bool.false_eq_true, if_false]
          refine key t.1 ?_
          rw [hsucc, hat, ht2, h1, hall]; simp
      | false =>
        have hf : (List.range (i + 1)).all (okWashAt x.fWashes) = false := by rw [hsucc, hall]; rfl
        have ht1 : t.1 = 1 := by rw [h1, hall]; rfl
        rw [ht1]
        split <;> exact key 1 (by rw [hf]; rfl)
  · intro n t ⟨h1, _⟩
    rw [fleet_Check_L32, if_neg (by simp), h1]; rfl
theorem fleet_Check_eq (φ : Nat) (hφ : 5000 < φ) (x : Fleet) : fleet_Check φ x = some (chkFleet x) := by
  have e : (((decide (32 < (x.fTypes.length : Int)) || decide (4096 < (x.fWagons.length : Int))) || decide (1024 < (x.fSwaps.length : Int))) || decide (4096 < (x.fWashes.length : Int))) =
      (decide (32 < x.fTypes.length) || decide (4096 < x.fWagons.length) || decide (1024 < x.fSwaps.length) || decide (4096 < x.fWashes.length)) := by
    congr 1
    · congr 1
      · congr 1 <;> (apply decide_eq_decide.2; omega)
      · apply decide_eq_decide.2; omega
    · apply decide_eq_decide.2; omega
  unfold fleet_Check chkFleet
  rw [e]
  cases h : (decide (32 < x.fTypes.length) || decide (4096 < x.fWagons.length) || decide (1024 < x.fSwaps.length) || decide (4096 < x.fWashes.length)) with
  | true => rfl
  | false =>
    simp only [Bool.or_eq_false_iff, decide_eq_false_iff_not, Nat.not_lt] at h
    obtain ⟨⟨⟨h1, h2⟩, h3⟩, h4⟩ := h
    rw [if_neg (by simp), fleet_Check_types φ (by omega) x _ h1 _ _ (by omega)]
    unfold fleet_Check_j21
    rw [fleet_Check_wagons _ _ _ h2 h1 _ _ (by omega)]
    unfold fleet_Check_j23
    rw [fleet_Check_swaps _ _ _ h3 h1 _ _ (by omega)]
    unfold fleet_Check_j25
    rw [fleet_Check_washes _ _ _ h4 _ _ (by omega)]
    unfold fleet_Check_j28
    cases x.fTypes.all okType <;> cases x.fWagons.all (okWagon x.fTypes.length) <;> cases x.fSwaps.all (okSwap x.fTypes.length) <;> cases okWashes x.fWashes <;> rfl
theorem ref09_washes_eq (φ : Nat) (l : List Wash) (hl : l.length ≤ 4096) (hφ : 5000 < φ) : ref09_washes φ l = some (bif okWashes l then 0 else 1) := by
  unfold ref09_washes
  rw [ck_pos (mk_t _ _ (by omega) (by omega) (by omega))]
  refine loop_up0 (fun n i t => ref09_washes_L7 φ l (ref09_washes_j4 φ) n i t) l.length
    (fun i t => (List.range i).all (okWashAt l) = true ∧ t.length = 4096 ∧ ∀ j : Int, 0 ≤ j → j < 4096 → gt t j = (l.take i).any fun v => keyW v == j)
    (fun o => o = some (bif okWashes l then 0 else 1)) ?_ ?_ φ _ ⟨by simp, by simp, fun j h0 h1 => by rw [gt_replicate _ _ _ h0 (by omega)]; simp⟩ (by omega)
  · intro n i t hi ⟨h1, h2, h3⟩ hs
    have hW : W ((i : Int) + 1) = (i : Int) + 1 := W_id (by omega) (by omega)
    have hsucc := all_range_succ (okWashAt l) i
    have hbad : okWashAt l i = false → okWashes l = false := by
      intro h
      unfold okWashes
      rw [List.all_eq_false]
      exact ⟨i, by simp; omega, by simp [h]⟩
    rw [ref09_washes_L7, if_pos (by simp; omega), ck_pos ⟨by omega, by omega⟩]
    simp only [ref09_within_eq, Option.bind_some, gcall]
    have hok : okWash (gt l i) = (bet (gt l i).fFrom 0 63 && bet (gt l i).fTo 0 63 && ((gt l i).fFrom != (gt l i).fTo) && bet (gt l i).fMinutes 0 100000) := rfl
    have hne : ((gt l i).fFrom == (gt l i).fTo) = !((gt l i).fFrom != (gt l i).fTo) := by simp [bne]
    rw [hne]
    cases hw : okWash (gt l i) with
    | false =>
      rw [hbad (by simp [okWashAt, hw])]
      rw [hw] at hok
      clear hne hs h3
      generalize bet (gt l i).fFrom 0 63 = a at *; generalize bet (gt l i).fTo 0 63 = b at *; generalize ((gt l i).fFrom != (gt l i).fTo) = c at *; generalize bet (gt l i).fMinutes 0 100000 = d at *
      cases a <;> cases b <;> cases c <;> cases d <;> first | rfl | exact absurd hok (by decide)
    | true =>
      rw [hw] at hok
      have hb := hok.symm
      simp only [Bool.and_eq_true] at hb
      obtain ⟨⟨⟨b1, b2⟩, b3⟩, b4⟩ := hb
      have c1 := bet_t b1; have c2 := bet_t b2
      have e1 : W (64 * (gt l i).fFrom) = 64 * (gt l i).fFrom := W_id (by omega) (by omega)
      have e2 : W (W (64 * (gt l i).fFrom) + (gt l i).fTo) = keyW (gt l i) := by rw [e1]; exact W_id (by omega) (by omega)
      have hk : 0 ≤ keyW (gt l i) ∧ keyW (gt l i) < 4096 := by unfold keyW; omega
      simp only [b1, b2, b3, b4, Bool.not_true, Bool.or_false, if_true, e2, Bool.or_self, Bool.false_eq_true, if_false]
      rw [ck_pos ⟨hk.1, by omega⟩, h3 _ hk.1 hk.2]
      have hat : okWashAt l i = !(l.take i).any fun v => keyW v == keyW (gt l i) := by simp only [okWashAt, hw, Bool.true_and]
      cases ha : (l.take i).any fun v => keyW v == keyW (gt l i) with
      | true => rw [hbad (by rw [hat, ha]; rfl)]; rfl
      | false =>
        rw [if_neg (by simp), hW]
        refine hs _ ⟨by rw [hsucc, h1, hat, ha]; rfl, by rw [setAt_len, h2], fun j j0 j1 => ?_⟩
        rw [gt_setAt _ _ _ _ hk.1 (by omega) j0, any_take_succ _ _ _ hi, h3 j j0 j1]
        by_cases e : j = keyW (gt l i)
        · simp [e]
        · have : (keyW (gt l i) == j) = false := by simp; exact fun h => e h.symm
          simp [e, this]
  · intro n t ⟨h1, h2, h3⟩
    rw [ref09_washes_L7, if_neg (by simp)]
    unfold okWashes
    rw [h1]; rfl
theorem ref09_Check_eq (φ : Nat) (hφ : 5000 < φ) (x : Fleet) : ref09_Check φ x = some (chkFleet x) := by
  have e : (((decide (32 < (x.fTypes.length : Int)) || decide (4096 < (x.fWagons.length : Int))) || decide (1024 < (x.fSwaps.length : Int))) || decide (4096 < (x.fWashes.length : Int))) =
      (decide (32 < x.fTypes.length) || decide (4096 < x.fWagons.length) || decide (1024 < x.fSwaps.length) || decide (4096 < x.fWashes.length)) := by
    congr 1
    · congr 1
      · congr 1 <;> (apply decide_eq_decide.2; omega)
      · apply decide_eq_decide.2; omega
    · apply decide_eq_decide.2; omega
  unfold ref09_Check chkFleet
  rw [e]
  cases h : (decide (32 < x.fTypes.length) || decide (4096 < x.fWagons.length) || decide (1024 < x.fSwaps.length) || decide (4096 < x.fWashes.length)) with
  | true => rfl
  | false =>
    simp only [Bool.or_eq_false_iff, decide_eq_false_iff_not, Nat.not_lt] at h
    obtain ⟨⟨⟨h1, h2⟩, h3⟩, h4⟩ := h
    have hp : W ((x.fTypes.length : Int) - 1) = (x.fTypes.length : Int) - 1 := W_id (by omega) (by omega)
    rw [if_neg (by simp)]
    rw [loop_any (ref09_Check_L59 φ x (ref09_Check_j19 φ x)) (ref09_Check_j19 φ x) (some 1) x.fTypes (fun t => !okType t) ?_ ?_ φ (by omega)]
    · unfold ref09_Check_j19
      rw [loop_any (ref09_Check_L53 φ x (ref09_Check_j20 φ x)) (ref09_Check_j20 φ x) (some 1) x.fWagons (fun t => !okWagon x.fTypes.length t) ?_ ?_ φ (by omega)]
      · unfold ref09_Check_j20
        rw [loop_any (ref09_Check_L24 φ x (ref09_Check_j21 φ x)) (ref09_Check_j21 φ x) (some 1) x.fSwaps (fun t => !okSwap x.fTypes.length t) ?_ ?_ φ (by omega)]
        · unfold ref09_Check_j21
          rw [ref09_washes_eq _ _ h4 hφ]
          simp only [Option.bind_some]
          simp only [List.any_eq_not_all_not, Bool.not_not]
          cases x.fTypes.all okType <;> cases x.fWagons.all (okWagon x.fTypes.length) <;> cases x.fSwaps.all (okSwap x.fTypes.length) <;> cases okWashes x.fWashes <;> rfl
        · intro n i hi
          have hW : W ((i : Int) + 1) = (i : Int) + 1 := W_id (by omega) (by omega)
          have hne : ((gt x.fSwaps i).fWanted == (gt x.fSwaps i).fGiven) = !((gt x.fSwaps i).fWanted != (gt x.fSwaps i).fGiven) := by simp [bne]
          rw [ref09_Check_L24, if_pos (by simp; omega), ck_pos ⟨by omega, by omega⟩]
          simp only [ref09_within_eq, Option.bind_some, okSwap, gcall, hW, hp, hne]
          cases bet (gt x.fSwaps i).fWanted 0 ((x.fTypes.length : Int) - 1) <;> cases bet (gt x.fSwaps i).fGiven 0 ((x.fTypes.length : Int) - 1) <;> cases ((gt x.fSwaps i).fWanted != (gt x.fSwaps i).fGiven) <;>
            cases bet (gt x.fSwaps i).fCost 0 1000000000 <;> rfl
        · intro n; rw [ref09_Check_L24, if_neg (by simp)]
      · intro n i hi
        have hW : W ((i : Int) + 1) = (i : Int) + 1 := W_id (by omega) (by omega)
        rw [ref09_Check_L53, if_pos (by simp; omega), ck_pos ⟨by omega, by omega⟩]
        simp only [ref09_validWagon, ref09_within_eq, Option.bind_some, okWagon, gcall, hW, hp]
        cases bet (gt x.fWagons i).fType 0 ((x.fTypes.length : Int) - 1) <;> cases bet (gt x.fWagons i).fOwner 0 63 <;> cases bet (gt x.fWagons i).fHome 0 511 <;>
          cases bet (gt x.fWagons i).fBuilt 0 1073741824 <;> cases bet (gt x.fWagons i).fWorth 0 1099511627776 <;> rfl
      · intro n; rw [ref09_Check_L53, if_neg (by simp)]
    · intro n i hi
      have hW : W ((i : Int) + 1) = (i : Int) + 1 := W_id (by omega) (by omega)
      rw [ref09_Check_L59, if_pos (by simp; omega), ck_pos ⟨by omega, by omega⟩]
      simp only [ref09_validType, ref09_within_eq, Option.bind_some, okType, gcall, hW]
      cases bet (gt x.fTypes i).fLoad 0 1000000 <;> cases bet (gt x.fTypes i).fTare 0 1000000 <;> cases bet (gt x.fTypes i).fLength 0 1000000 <;> cases bet (gt x.fTypes i).fBrake 0 1000000 <;>
        cases bet (gt x.fTypes i).fGauge 0 7 <;> cases bet (gt x.fTypes i).fLife 1 1073741824 <;> cases bet (gt x.fTypes i).fFloor 0 100 <;> rfl
    · intro n; rw [ref09_Check_L59, if_neg (by simp)]
/-- What a fleet that passes is. -/
theorem chkFleet_ok {x : Fleet} (h : chkFleet x = 0) : x.fTypes.length ≤ 32 ∧ x.fWagons.length ≤ 4096 ∧ x.fSwaps.length ≤ 1024 ∧ x.fWashes.length ≤ 4096 ∧
    (∀ t ∈ x.fTypes, okType t = true) ∧ (∀ t ∈ x.fWagons, okWagon x.fTypes.length t = true) ∧ (∀ t ∈ x.fSwaps, okSwap x.fTypes.length t = true) ∧ okWashes x.fWashes = true := by
  unfold chkFleet at h
  cases h1 : (decide (32 < x.fTypes.length) || decide (4096 < x.fWagons.length) || decide (1024 < x.fSwaps.length) || decide (4096 < x.fWashes.length)) with
  | true => rw [h1] at h; cases h
  | false =>
    rw [h1] at h
    simp only [Bool.or_eq_false_iff, decide_eq_false_iff_not, Nat.not_lt] at h1
    obtain ⟨⟨⟨a1, a2⟩, a3⟩, a4⟩ := h1
    cases h2 : (x.fTypes.all okType && x.fWagons.all (okWagon x.fTypes.length) && x.fSwaps.all (okSwap x.fTypes.length) && okWashes x.fWashes) with
    | false => rw [h2] at h; cases h
    | true =>
      simp only [Bool.and_eq_true, List.all_eq_true] at h2
      obtain ⟨⟨⟨b1, b2⟩, b3⟩, b4⟩ := h2
      exact ⟨a1, a2, a3, a4, b1, b2, b3, b4⟩
theorem wagonOf_eq (φ : Nat) (hφ : 5000 < φ) (x : Fleet) (i : Int) : fleet_wagonOf φ x i =
    if chkFleet x ≠ 0 then some (⟨0, 0, 0, 0, 0⟩, ⟨0, 0, 0, 0, 0, 0, 0, 0⟩, chkFleet x) else if 0 ≤ i ∧ i < x.fWagons.length then some (gt x.fWagons i, gt x.fTypes (gt x.fWagons i).fType, 0) else some (⟨0, 0, 0, 0, 0⟩, ⟨0, 0, 0, 0, 0, 0, 0, 0⟩, 90) := by
  unfold fleet_wagonOf
  rw [fleet_Check_eq φ hφ, Option.bind_some]
  by_cases h : chkFleet x = 0
  · obtain ⟨a1, a2, a3, a4, b1, b2, b3, b4⟩ := chkFleet_ok h
    rw [if_neg (by simp [h]), if_neg (by simp [h]), W_id (by omega) (by omega), fleet_between_eq, Option.bind_some]
    by_cases hi : 0 ≤ i ∧ i < x.fWagons.length
    · rw [if_neg (by simp [bet]; omega), if_pos hi, ck_pos hi]
      have := b2 _ (gt_mem hi.1 hi.2)
      simp only [okWagon, Bool.and_eq_true, bet_iff] at this
      rw [ck_pos ⟨by omega, by omega⟩]
    · rw [if_pos (by simp [bet]; omega), if_neg hi]
  · rw [if_pos (by simp [h]), if_pos h]
end Px
