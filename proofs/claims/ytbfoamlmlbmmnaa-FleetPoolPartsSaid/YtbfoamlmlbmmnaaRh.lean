/- The statement on the worth of wagons: what was read out of it answers true. Conditions: none. -/
import Derived.Test.YtbfoamlmlbmmnaaRg
import Derived.Test.YtbfoamlmlbmmnaaRf
namespace Px
open Go
set_option linter.unusedVariables false
set_option linter.unusedSimpArgs false
set_option maxRecDepth 100000
theorem fworthOf_ok {x : Fleet} {i a : Int} (h1 : chkFleet x = 0) (h2 : 0 ≤ i ∧ i < x.fWagons.length) (h3 : 0 ≤ a ∧ a ≤ 1073741824) :
    fworthOf x i a = worthOf (gt x.fWagons i).fWorth (gt x.fWagons i).fBuilt a (gt x.fTypes (gt x.fWagons i).fType).fLife (gt x.fTypes (gt x.fWagons i).fType).fFloor := by
  unfold fworthOf
  rw [if_neg (fun e : chkFleet x ≠ 0 => e h1), if_neg (fun e : ¬ (0 ≤ i ∧ i < (x.fWagons.length : Int)) => e h2), if_neg (fun e : ¬ (0 ≤ a ∧ a ≤ 1073741824) => e h3)]
theorem fworthOf_err {x : Fleet} {i a : Int} (h : (fworthOf x i a).2 ≠ 0) : (fworthOf x i a).1 = 0 := by
  revert h
  unfold fworthOf worthOf
  split
  · intro _; rfl
  split
  · intro _; rfl
  split
  · intro _; rfl
  split
  · intro _; rfl
  split
  · intro h; exact absurd rfl h
  · split <;> intro h <;> exact absurd rfl h
theorem fworthOf_0 {x : Fleet} {i a : Int} (h : (fworthOf x i a).2 = 0) : chkFleet x = 0 ∧ 0 ≤ a ∧ a ≤ 1073741824 := by
  unfold fworthOf at h
  split at h
  · rename_i h1; exact absurd h h1
  split at h
  · cases h
  split at h
  · cases h
  · rename_i h1 h2 h3
    exact ⟨Decidable.not_not.1 h1, Decidable.not_not.1 h3⟩
theorem max2_def (x y : Int) : max2 x y = if x < y then y else x := rfl
theorem fleetWorth_true (x : Fleet) (i a b : Int) (hx : RFleet x) (hi : RI .i64 i) (ha : RI .i64 a) (hb : RI .i64 b) : ∃ φ, law09_FleetWorth φ x i a b = some true := by
  refine ⟨100000, ?_⟩
  unfold law09_FleetWorth
  rw [sane_true, Option.bind_some, if_neg (by simp)]
  obtain ⟨f, hf, _⟩ := law09_few_eq 100000 x
  rw [hf, Option.bind_some]
  split
  · rfl
  rename_i hc
  simp only [Bool.or_eq_true, decide_eq_true_eq, not_or] at hc
  obtain ⟨⟨⟨_, hab⟩, hi0⟩, hi1⟩ := hc
  rw [fleet_Worth_eq _ (by omega), fleet_Worth_eq _ (by omega), Option.bind_some, Option.bind_some]
  by_cases he : (fworthOf x i a).2 ≠ 0 ∨ (fworthOf x i b).2 ≠ 0
  · rw [if_pos (by simpa using he)]
    rcases he with he | he
    · simp [he, fworthOf_err he]
    · simp [he, fworthOf_err he]
  have h1 : (fworthOf x i a).2 = 0 := Decidable.not_not.1 fun h => he (Or.inl h)
  have h2 : (fworthOf x i b).2 = 0 := Decidable.not_not.1 fun h => he (Or.inr h)
  rw [if_neg (by simp [h1, h2]), ck_pos ⟨by omega, by omega⟩]
  obtain ⟨c0, a0, a1⟩ := fworthOf_0 h1
  obtain ⟨_, b0, b1⟩ := fworthOf_0 h2
  have hi2 : 0 ≤ i ∧ i < (x.fWagons.length : Int) := ⟨by omega, by omega⟩
  obtain ⟨t0, t1, tm, wm⟩ := type_mem c0 hi2
  obtain ⟨k1, k2, k3, k4, k5, k6, k7, k8⟩ := chkFleet_ok c0
  have hT := k5 _ tm
  have hW := k6 _ wm
  simp only [okType, okWagon, Bool.and_eq_true, bet_iff] at hT hW
  rw [if_neg (by simp; omega), ck_pos ⟨t0, t1⟩, fworthOf_ok c0 hi2 ⟨a0, a1⟩, fworthOf_ok c0 hi2 ⟨b0, b1⟩]
  generalize gt x.fWagons i = w at *
  generalize gt x.fTypes w.fType = t at *
  obtain ⟨el, l0, l1⟩ := least_eq (w := w.fWorth) (f := t.fFloor) (by omega) (by omega) (by omega) (by omega)
  rw [el, W_id (x := b - w.fBuilt) (by omega) (by omega)]
  have hbad : ∀ c, 0 ≤ c → c ≤ 1073741824 → ¬ badWorth w.fWorth w.fBuilt c t.fLife t.fFloor := fun c c0 c1 => by unfold badWorth; omega
  have hwc : ∀ c, 0 ≤ c → c ≤ 1073741824 → worthOf w.fWorth w.fBuilt c t.fLife t.fFloor = if c ≤ w.fBuilt then (w.fWorth, 0) else if t.fLife ≤ c - w.fBuilt then (leastOf w.fWorth t.fFloor, 0) else (max2 (leastOf w.fWorth t.fFloor) (w.fWorth - w.fWorth * (c - w.fBuilt) / t.fLife), 0) := by
    intro c c0 c1
    unfold worthOf
    rw [if_neg (hbad c c0 c1)]
  have hmono : w.fBuilt < a → a - w.fBuilt < t.fLife → b - w.fBuilt < t.fLife → w.fWorth * (a - w.fBuilt) / t.fLife ≤ w.fWorth * (b - w.fBuilt) / t.fLife := fun _ _ _ =>
    Int.ediv_le_ediv (by omega) (Int.mul_le_mul_of_nonneg_left (by omega) (by omega))
  have hda : w.fBuilt < a → a - w.fBuilt < t.fLife → 0 ≤ w.fWorth * (a - w.fBuilt) / t.fLife := fun _ _ => (mulDiv_bd (by omega) (by omega) (by omega) (by omega)).1
  have hdb : w.fBuilt < b → b - w.fBuilt < t.fLife → 0 ≤ w.fWorth * (b - w.fBuilt) / t.fLife := fun _ _ => (mulDiv_bd (by omega) (by omega) (by omega) (by omega)).1
  rw [hwc a a0 a1, hwc b b0 b1]
  clear hwc hbad hf el
  generalize leastOf w.fWorth t.fFloor = m at *
  generalize w.fWorth * (a - w.fBuilt) / t.fLife = qa at *
  generalize w.fWorth * (b - w.fBuilt) / t.fLife = qb at *
  have key : ∀ p q : Int, (p = if a ≤ w.fBuilt then w.fWorth else if t.fLife ≤ a - w.fBuilt then m else max2 m (w.fWorth - qa)) → (q = if b ≤ w.fBuilt then w.fWorth else if t.fLife ≤ b - w.fBuilt then m else max2 m (w.fWorth - qb)) →
      (if (((decide (p < q) || decide (q < m)) || decide (w.fWorth < p)) || (decide (a ≤ w.fBuilt) && (p != w.fWorth))) = true then some false else some (decide (b - w.fBuilt < t.fLife) || (q == m))) = some true := by
    intro p q hp hq
    rw [max2_def] at hp hq
    have h1 : ¬ (p < q) ∧ ¬ (q < m) ∧ ¬ (w.fWorth < p) ∧ (a ≤ w.fBuilt → p = w.fWorth) ∧ (b - w.fBuilt < t.fLife ∨ q = m) := by
      split at hp <;> split at hq <;> (try split at hp) <;> (try split at hq) <;> (try split at hp) <;> (try split at hq) <;> omega
    rw [if_neg ?_]
    · congr 1
      rcases h1.2.2.2.2 with h | h <;> simp [h]
    · simp only [Bool.or_eq_true, decide_eq_true_eq, Bool.and_eq_true, bne_iff_ne]
      intro h
      rcases h with ((h | h) | h) | ⟨h, h'⟩
      · exact h1.1 h
      · exact h1.2.1 h
      · exact h1.2.2.1 h
      · exact h' (h1.2.2.2.1 h)
  exact key _ _ (by split; · rfl
                    · split <;> rfl) (by split; · rfl
                                         · split <;> rfl)
end Px
