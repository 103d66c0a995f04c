/- What the reference's Given and Clean say, and the statement that both agree. Conditions: none. -/
import Derived.Test.YtbfoamlmlbmmnaaRj
import Derived.Test.YtbfoamlmlbmmnaaRh
namespace Px
open Go
set_option linter.unusedVariables false
set_option linter.unusedSimpArgs false
set_option maxRecDepth 100000
def LAg (T : Nat) (l : List Int) (c : Nat → Int) : Prop := l.length = T ∧ ∀ j : Nat, j < T → gt l (j : Int) = c j
theorem LAg.at {T : Nat} {l : List Int} {c : Nat → Int} (h : LAg T l c) {i : Int} (h0 : 0 ≤ i) (h1 : i < T) : gt l i = c i.toNat := by
  have := h.2 i.toNat (by omega)
  rwa [show ((i.toNat : Nat) : Int) = i by omega] at this
theorem LAg.set {T : Nat} {l : List Int} {c : Nat → Int} (h : LAg T l c) {i : Int} (h0 : 0 ≤ i) (h1 : i < T) (x : Int) : LAg T (setAt l i x) (upd c i.toNat x) := by
  refine ⟨by rw [setAt_len, h.1], fun j hj => ?_⟩
  rw [gt_setAt _ _ _ _ h0 (by rw [h.1]; omega) (by omega), upd_at, h.2 j hj]
  by_cases e : (j : Int) = i
  · rw [if_pos e, if_pos (by omega)]
  · rw [if_neg e, if_neg (by omega)]
theorem ref_round (φ : Nat) (x : Fleet) (hE : EOk x.fTypes.length x.fSwaps) (hl : x.fSwaps.length ≤ 1024) (k : List Int → Option (List Swap × Int)) (r : Option (List Swap × Int)) {B : Int} (hB0 : 0 ≤ B) (hB : B ≤ 1000000000000000) (c : Nat → Int) (hc : Bd B c) (d : List Int) (hd : LAg x.fTypes.length d c)
    (hk : ∀ d', LAg x.fTypes.length d' (roundE x.fSwaps c) → k d' = r) (n : Nat) (hn : x.fSwaps.length < n) : ref09_Given_L39 φ x k n 0 d = r := by
  refine loop_up0 (fun n i t => ref09_Given_L39 φ x k n i t) x.fSwaps.length (fun i t => LAg x.fTypes.length t ((x.fSwaps.take i).foldl relax c)) (fun o => o = r) ?_ ?_ n d (by simpa using hd) hn
  · intro n i t hi h2 hs
    have hW : W ((i : Int) + 1) = (i : Int) + 1 := W_id (by omega) (by omega)
    have hm := gt_mem (l := x.fSwaps) (i := (i : Int)) (by omega) (by omega)
    have he := hE _ hm
    have hbd : Bd (B + 1000000000 * (x.fSwaps.take i).length) ((x.fSwaps.take i).foldl relax c) := fold_bd hE (fun s hs => List.mem_of_mem_take hs) hc
    have hlen : (x.fSwaps.take i).length ≤ 1024 := by rw [List.length_take]; omega
    have hstep := foldl_take_succ relax c x.fSwaps i hi
    rw [ref09_Given_L39, if_pos (by simp; omega), ck_pos ⟨by omega, by omega⟩, ck_pos ⟨by omega, by rw [h2.1]; omega⟩]
    generalize hp : (x.fSwaps.take i).foldl relax c = p at *
    have ew := h2.at he.1 he.2.1
    have eg := h2.at he.2.2.1 he.2.2.2.1
    have bw := hbd (gt x.fSwaps i).fWanted.toNat
    rw [ew, eg]
    unfold ref09_Given_j42
    rw [hW]
    by_cases h0 : p (gt x.fSwaps i).fWanted.toNat < 0
    · rw [if_pos (by simpa using h0)]
      refine hs _ ?_
      rw [hstep, relax_fix (by simp [better]; omega)]
      exact h2
    · rw [if_neg (by simpa using h0), ck_pos ⟨by omega, by rw [h2.1]; omega⟩, W_id (x := p (gt x.fSwaps i).fWanted.toNat + (gt x.fSwaps i).fCost) (by omega) (by omega)]
      have hbe : (decide (p (gt x.fSwaps i).fGiven.toNat < 0) || decide (p (gt x.fSwaps i).fWanted.toNat + (gt x.fSwaps i).fCost < p (gt x.fSwaps i).fGiven.toNat)) = better p (gt x.fSwaps i) := by
        unfold better
        rw [decide_eq_true (by omega : 0 ≤ p (gt x.fSwaps i).fWanted.toNat), Bool.true_and]
      rw [hbe]
      cases hb : better p (gt x.fSwaps i) with
      | true =>
        rw [if_pos rfl]
        refine hs _ ?_
        rw [hstep]
        unfold relax
        rw [hb]
        exact h2.set he.2.2.1 he.2.2.2.1 _
      | false =>
        rw [if_neg (by simp)]
        refine hs _ ?_
        rw [hstep, relax_fix hb]
        exact h2
  · intro n t h2
    rw [List.take_length] at h2
    rw [ref09_Given_L39, if_neg (by simp)]
    exact hk _ h2
theorem ref_out (φ : Nat) (T : Nat) (hT : T ≤ 32) (hφ : 5000 < φ) (a : Int) (c : Nat → Int) (d : List Int) (hd : LAg T d c) : ref09_Given_j14 φ a d = some (outOf a T c, 0) := by
  unfold ref09_Given_j14
  refine loop_up0 (fun n i t => ref09_Given_L21 φ a d (ref09_Given_j17 φ) n i t) T (fun i t => t = outOf a i c) (fun o => o = some (outOf a T c, 0)) ?_ ?_ φ _ rfl (by omega)
  · intro n i t hi ht hs
    have hW : W ((i : Int) + 1) = (i : Int) + 1 := W_id (by omega) (by omega)
    have hlen := outOf_len a i c
    rw [ref09_Given_L21, if_pos (by rw [hd.1]; simp; omega), ck_pos ⟨by omega, by rw [hd.1]; omega⟩, hd.2 i hi]
    by_cases h : 0 ≤ c i
    · rw [if_pos (by simpa using h), ck_pos (fits24 (by rw [ht]; simp; omega))]
      unfold ref09_Given_j26
      rw [hW]
      exact hs _ (by rw [outOf_succ, if_pos h, ht])
    · rw [if_neg (by simpa using h)]
      unfold ref09_Given_j26
      rw [hW]
      exact hs _ (by rw [outOf_succ, if_neg h, ht])
  · intro n t ht
    rw [ref09_Given_L21, if_neg (by rw [hd.1]; simp), ht]; rfl
theorem ref09_Given_eq (φ : Nat) (hφ : 5000 < φ) (x : Fleet) (a : Int) : ref09_Given φ x a = some (givenOf x a) := by
  unfold ref09_Given givenOf
  rw [ref09_Check_eq φ hφ, Option.bind_some]
  by_cases h : chkFleet x = 0
  · obtain ⟨a1, a2, a3, a4, b1, b2, b3, b4⟩ := chkFleet_ok h
    rw [if_neg (by simp [h]), if_neg (fun e : chkFleet x ≠ 0 => e h), W_id (by omega) (by omega), ref09_within_eq, Option.bind_some]
    by_cases hi : 0 ≤ a ∧ a < x.fTypes.length
    · rw [if_neg (by simp [bet]; omega), if_neg (fun e : ¬ (0 ≤ a ∧ a < (x.fTypes.length : Int)) => e hi), ck_pos (mk_t _ _ (by omega) (by omega) (by omega)), Int.toNat_natCast]
      refine loop_up0 (fun n i t => ref09_Given_L59 φ (ref09_Given_j11 φ x a) n i t) x.fTypes.length (fun i t => t.length = x.fTypes.length ∧ ∀ j : Nat, j < i → gt t (j : Int) = -1) (fun o => o = some (outOf a x.fTypes.length (costs x.fSwaps x.fTypes.length a.toNat), 0)) ?_ ?_ φ _ ⟨by simp, by intro j hj; omega⟩ (by omega)
      · intro n i t hi2 ⟨ht1, ht⟩ hs
        rw [ref09_Given_L59, if_pos (by rw [ht1]; simp; omega), ck_pos ⟨by omega, by rw [ht1]; omega⟩, W_id (by omega) (by omega)]
        refine hs _ ⟨by rw [setAt_len, ht1], fun j hj => ?_⟩
        rw [gt_setAt _ _ _ _ (by omega) (by rw [ht1]; omega) (by omega)]
        split
        · rfl
        · rename_i e; exact ht j (by omega)
      · intro n t ⟨ht1, ht⟩
        rw [ref09_Given_L59, if_neg (by rw [ht1]; simp)]
        unfold ref09_Given_j11
        rw [ck_pos ⟨by omega, by rw [ht1]; omega⟩]
        have hst : LAg x.fTypes.length (setAt t a 0) (cR x.fSwaps a.toNat 0) := by
          refine ⟨by rw [setAt_len, ht1], fun j hj => ?_⟩
          rw [gt_setAt _ _ _ _ (by omega) (by rw [ht1]; omega) (by omega), ht j hj]
          simp only [cR]
          by_cases e : (j : Int) = a
          · rw [if_pos e, if_pos (by omega)]
          · rw [if_neg e, if_neg (by omega)]
        refine loop_up0 (fun n i t => ref09_Given_L33 φ x (ref09_Given_j14 φ a) n i t) x.fTypes.length (fun i t => LAg x.fTypes.length t (cR x.fSwaps a.toNat i)) (fun o => o = some (outOf a x.fTypes.length (costs x.fSwaps x.fTypes.length a.toNat), 0)) ?_ ?_ φ _ hst (by omega)
        · intro n i t hi2 ht hs
          have hW : W ((i : Int) + 1) = (i : Int) + 1 := W_id (by omega) (by omega)
          have hb := cR_bd (EOk_of h) a3 a.toNat i
          rw [ref09_Given_L33, if_pos (by simp; omega)]
          refine ref_round φ x (EOk_of h) a3 _ _ (by omega) (by omega) _ hb t ht (fun d' hd' => ?_) φ (by omega)
          unfold ref09_Given_j36
          rw [hW]
          exact hs d' hd'
        · intro n t ht
          rw [ref09_Given_L33, if_neg (by simp)]
          exact ref_out φ _ a1 hφ a _ t ht
    · rw [if_pos (by simp [bet]; omega), if_pos (show ¬ (0 ≤ a ∧ a < (x.fTypes.length : Int)) from hi)]
  · rw [if_pos (by simp [h]), if_pos (show chkFleet x ≠ 0 from h)]
theorem eqSwapB_self (s : Swap) : eqSwapB s s = true := by simp [eqSwapB]
theorem SameSwaps_self (φ : Nat) (l : List Swap) (h : l.length < φ) (hm : l.length ≤ 100000) : ref09_SameSwaps φ l l = some true := by
  unfold ref09_SameSwaps
  rw [if_neg (by simp)]
  refine loop_up0 (fun n i (_ : Unit) => ref09_SameSwaps_L6 φ l l (ref09_SameSwaps_j4 φ) n i) l.length (fun _ _ => True) (fun o => o = some true) ?_ ?_ φ () trivial h
  · intro n i _ hi _ hs
    rw [ref09_SameSwaps_L6, if_pos (by simp; omega)]
    repeat rw [ck_pos ⟨by omega, by omega⟩]
    rw [eqSwapB_self, W_id (by omega) (by omega), if_neg (by simp)]
    exact hs () trivial
  · intro n _ _
    rw [ref09_SameSwaps_L6, if_neg (by simp)]; rfl
/-- What Clean answers. -/
def cleanOf (x : Fleet) (a b : Int) : Int × Int :=
  if chkFleet x ≠ 0 then (0, chkFleet x) else if ¬ ((0 ≤ a ∧ a ≤ 63) ∧ 0 ≤ b ∧ b ≤ 63) then (0, 1) else
  match x.fWashes.find? (fun w => (w.fFrom == a) && (w.fTo == b)) with | some w => (w.fMinutes, 0) | none => (0, 0)
theorem fleet_Clean_eq (φ : Nat) (hφ : 5000 < φ) (x : Fleet) (a b : Int) : fleet_Clean φ x a b = some (cleanOf x a b) := by
  unfold fleet_Clean cleanOf
  rw [fleet_Check_eq φ hφ, Option.bind_some]
  by_cases h : chkFleet x = 0
  · obtain ⟨a1, a2, a3, a4, b1, b2, b3, b4⟩ := chkFleet_ok h
    rw [if_neg (by simp [h]), if_neg (fun e : chkFleet x ≠ 0 => e h)]
    simp only [fleet_between_eq, Option.bind_some]
    by_cases ha : 0 ≤ a ∧ a ≤ 63
    · rw [bet_iff.2 ha, gcall_t (by simp), Option.bind_some]
      by_cases hb : 0 ≤ b ∧ b ≤ 63
      · rw [bet_iff.2 hb, if_neg (by simp), if_neg (fun e => e ⟨ha, hb⟩)]
        rw [loop_find (fleet_Clean_L20 φ x a b (fleet_Clean_j16 φ x)) (fleet_Clean_j16 φ x) x.fWashes (fun w => (w.fFrom == a) && (w.fTo == b)) (fun w => some (w.fMinutes, 0)) ?_ ?_ φ (by omega)]
        · cases x.fWashes.find? (fun w => (w.fFrom == a) && (w.fTo == b)) with
          | some w => rfl
          | none => rfl
        · intro n i hi
          rw [fleet_Clean_L20, if_pos (by simp; omega), ck_pos ⟨by omega, by omega⟩]
          cases ((gt x.fWashes i).fFrom == a) && ((gt x.fWashes i).fTo == b) with
          | true => rw [if_pos rfl, if_neg (by simp), ck_pos ⟨by omega, by omega⟩]; rfl
          | false => rw [if_neg (by simp), W_id (by omega) (by omega)]; rfl
        · intro n; rw [fleet_Clean_L20, if_neg (by simp)]
      · have e : bet b 0 63 = false := by rw [← Bool.not_eq_true, bet_iff]; exact hb
        rw [e, if_pos (by simp), if_pos (fun h => hb h.2)]
    · have e : bet a 0 63 = false := by rw [← Bool.not_eq_true, bet_iff]; exact ha
      rw [e, gcall_f (by simp), Option.bind_some, if_pos (by simp), if_pos (fun h => ha h.1)]
  · rw [if_pos (by simp [h]), if_pos (show chkFleet x ≠ 0 from h)]
theorem ref09_Clean_eq (φ : Nat) (hφ : 5000 < φ) (x : Fleet) (a b : Int) : ref09_Clean φ x a b = some (cleanOf x a b) := by
  unfold ref09_Clean cleanOf
  rw [ref09_Check_eq φ hφ, Option.bind_some]
  by_cases h : chkFleet x = 0
  · obtain ⟨a1, a2, a3, a4, b1, b2, b3, b4⟩ := chkFleet_ok h
    rw [if_neg (by simp [h]), if_neg (fun e : chkFleet x ≠ 0 => e h)]
    simp only [ref09_within_eq, Option.bind_some]
    by_cases ha : 0 ≤ a ∧ a ≤ 63
    · rw [bet_iff.2 ha, gcall_t (by simp), Option.bind_some]
      by_cases hb : 0 ≤ b ∧ b ≤ 63
      · rw [bet_iff.2 hb, if_neg (by simp), if_neg (fun e => e ⟨ha, hb⟩)]
        rw [loop_find (ref09_Clean_L16 φ x a b (ref09_Clean_j14 φ)) (ref09_Clean_j14 φ) x.fWashes (fun w => (w.fFrom == a) && (w.fTo == b)) (fun w => some (w.fMinutes, 0)) ?_ ?_ φ (by omega)]
        · cases x.fWashes.find? (fun w => (w.fFrom == a) && (w.fTo == b)) with
          | some w => rfl
          | none => rfl
        · intro n i hi
          rw [ref09_Clean_L16, if_pos (by simp; omega), ck_pos ⟨by omega, by omega⟩]
          cases ((gt x.fWashes i).fFrom == a) && ((gt x.fWashes i).fTo == b) with
          | true => rw [if_pos rfl]; rfl
          | false => rw [if_neg (by simp), W_id (by omega) (by omega)]; rfl
        · intro n; rw [ref09_Clean_L16, if_neg (by simp)]
      · have e : bet b 0 63 = false := by rw [← Bool.not_eq_true, bet_iff]; exact hb
        rw [e, if_pos (by simp), if_pos (fun h => hb h.2)]
    · have e : bet a 0 63 = false := by rw [← Bool.not_eq_true, bet_iff]; exact ha
      rw [e, gcall_f (by simp), Option.bind_some, if_pos (by simp), if_pos (fun h => ha h.1)]
  · rw [if_pos (by simp [h]), if_pos (show chkFleet x ≠ 0 from h)]
theorem givenOf_len (x : Fleet) (a : Int) : (givenOf x a).1.length ≤ 32 := by
  unfold givenOf
  split
  · simp
  · rename_i h
    split
    · simp
    · have := outOf_len a x.fTypes.length (costs x.fSwaps x.fTypes.length a.toNat)
      have := (chkFleet_ok (Decidable.not_not.1 h)).1
      simp only; omega
theorem fleetMatches_true (x : Fleet) (q : law09_Question) (hx : RFleet x) (hq : Rlaw09_Question q) : ∃ φ, law09_FleetMatches φ x q = some true := by
  refine ⟨100000, ?_⟩
  unfold law09_FleetMatches
  rw [sane_true, Option.bind_some, if_neg (by simp)]
  obtain ⟨b, hb, _⟩ := law09_few_eq 100000 x
  rw [hb, Option.bind_some]
  cases b with
  | false => rfl
  | true =>
    have h5 : 5000 < 100000 := by omega
    rw [if_neg (by simp)]
    simp only [fleet_Given_eq _ h5, ref09_Given_eq _ h5, fleet_Clean_eq _ h5, ref09_Clean_eq _ h5, fleet_Worth_eq _ h5, ref09_Worth_eq _ h5, fleet_Check_eq _ h5, ref09_Check_eq _ h5, fleet_Fits_eq _ h5 _ (cls_R hx), ref09_Fits_eq _ h5 _ (cls_R hx), Option.bind_some]
    have hl := givenOf_len x q.fWanted
    rw [gcall_t (by simp), Option.bind_some, Option.bind_some, gcall_t (by simp), SameSwaps_self _ _ (by omega) (by omega)]
    simp
end Px
