/- The statements on cheapest and chained swaps: what was read out of them answers true. Conditions: none. -/
import Derived.Test.YtbfoamlmlbmmnaaRk
namespace Px
open Go
set_option linter.unusedVariables false
set_option linter.unusedSimpArgs false
set_option maxRecDepth 100000
theorem outOf_mem {a : Int} {T : Nat} {c : Nat → Int} {s : Swap} : s ∈ outOf a T c ↔ ∃ i, i < T ∧ 0 ≤ c i ∧ s = ⟨a, i, c i⟩ := by
  unfold outOf
  rw [List.mem_filterMap]
  constructor
  · rintro ⟨i, hi, h⟩
    split at h
    · rename_i h0
      exact ⟨i, by simpa using hi, h0, (Option.some.inj h).symm⟩
    · cases h
  · rintro ⟨i, hi, h0, rfl⟩
    exact ⟨i, by simpa using hi, by rw [if_pos h0]⟩
theorem givenOf_0 {x : Fleet} {a : Int} (h : (givenOf x a).2 = 0) : chkFleet x = 0 ∧ (0 ≤ a ∧ a < x.fTypes.length) ∧ (givenOf x a).1 = outOf a x.fTypes.length (costs x.fSwaps x.fTypes.length a.toNat) := by
  unfold givenOf at *
  by_cases h1 : chkFleet x = 0
  · rw [if_neg (fun e : chkFleet x ≠ 0 => e h1)] at *
    by_cases h2 : 0 ≤ a ∧ a < (x.fTypes.length : Int)
    · rw [if_neg (fun e : ¬ (0 ≤ a ∧ a < (x.fTypes.length : Int)) => e h2)] at *
      exact ⟨h1, h2, rfl⟩
    · rw [if_pos (show ¬ (0 ≤ a ∧ a < (x.fTypes.length : Int)) from h2)] at h; cases h
  · rw [if_pos (show chkFleet x ≠ 0 from h1)] at h; exact absurd h h1
theorem givenOf_ok {x : Fleet} {a : Int} (h1 : chkFleet x = 0) (h2 : 0 ≤ a ∧ a < x.fTypes.length) : givenOf x a = (outOf a x.fTypes.length (costs x.fSwaps x.fTypes.length a.toNat), 0) := by
  unfold givenOf
  rw [if_neg (fun e : chkFleet x ≠ 0 => e h1), if_neg (fun e : ¬ (0 ≤ a ∧ a < (x.fTypes.length : Int)) => e h2)]
theorem givenOf_err {x : Fleet} {a : Int} (h : (givenOf x a).2 ≠ 0) : (givenOf x a).1 = [] := by
  revert h
  unfold givenOf
  split
  · intro _; rfl
  split
  · intro _; rfl
  · intro h; exact absurd rfl h
theorem costs_bd {x : Fleet} (h : chkFleet x = 0) (a : Nat) (v : Nat) : -1 ≤ costs x.fSwaps x.fTypes.length a v ∧ costs x.fSwaps x.fTypes.length a v ≤ 100000000000000 := by
  obtain ⟨a1, a2, a3, a4, b1, b2, b3, b4⟩ := chkFleet_ok h
  have := cR_bd (EOk_of h) a3 a x.fTypes.length v
  unfold costs
  omega
theorem given_mem {x : Fleet} {a : Int} (h : (givenOf x a).2 = 0) {s : Swap} : s ∈ (givenOf x a).1 ↔ ∃ i, i < x.fTypes.length ∧ 0 ≤ costs x.fSwaps x.fTypes.length a.toNat i ∧ s = ⟨a, i, costs x.fSwaps x.fTypes.length a.toNat i⟩ := by
  rw [(givenOf_0 h).2.2]; exact outOf_mem
theorem fleetTransitive_true (x : Fleet) (a : Int) (hx : RFleet x) (ha : RI .i64 a) : ∃ φ, law09_FleetTransitive φ x a = some true := by
  refine ⟨100000, ?_⟩
  unfold law09_FleetTransitive
  rw [sane_true, Option.bind_some, if_neg (by simp)]
  obtain ⟨b, hb, _⟩ := law09_few_eq 100000 x
  rw [hb, Option.bind_some]
  cases b with
  | false => rfl
  | true =>
    have h5 : 5000 < 100000 := by omega
    rw [if_neg (by simp), fleet_Given_eq _ h5, Option.bind_some]
    have hl := givenOf_len x a
    by_cases h : (givenOf x a).2 = 0
    · rw [if_neg (by simp [h]; omega)]
      obtain ⟨c0, h2, ho⟩ := givenOf_0 h
      have hE := EOk_of c0
      obtain ⟨a1, a2, a3, a4, _⟩ := chkFleet_ok c0
      refine loop_up0 (fun n i (_ : Unit) => law09_FleetTransitive_L20 100000 x (givenOf x a) (law09_FleetTransitive_j18 100000) n i) (givenOf x a).1.length (fun _ _ => True) (fun o => o = some true) ?_ ?_ 100000 () trivial (by omega)
      · intro n i _ hi _ hs
        have hm := gt_mem (l := (givenOf x a).1) (i := (i : Int)) (by omega) (by omega)
        obtain ⟨u, hu, hu0, eu⟩ := (given_mem h).1 hm
        rw [law09_FleetTransitive_L20, if_pos (by simp; omega), ck_pos ⟨by omega, by omega⟩, fleet_Given_eq _ h5, Option.bind_some]
        have eg : (gt (givenOf x a).1 (i : Int)).fGiven = u := by rw [eu]
        have ec : (gt (givenOf x a).1 (i : Int)).fCost = costs x.fSwaps x.fTypes.length a.toNat u := by rw [eu]
        have hgu := givenOf_ok c0 (a := (u : Int)) ⟨by omega, by omega⟩
        have hlu := givenOf_len x (u : Int)
        have hgu2 : (givenOf x (u : Int)).2 = 0 := by rw [hgu]
        rw [eg, if_neg (by simp [hgu2]; omega)]
        have hdone : law09_FleetTransitive_j22 100000 (i : Int) (law09_FleetTransitive_L20 100000 x (givenOf x a) (law09_FleetTransitive_j18 100000) n) = some true := by
          unfold law09_FleetTransitive_j22
          rw [W_id (by omega) (by omega)]; exact hs () trivial
        refine loop_up0 (fun n k (_ : Unit) => law09_FleetTransitive_L36 100000 (givenOf x a) (i : Int) (law09_FleetTransitive_j22 100000 (i : Int) (law09_FleetTransitive_L20 100000 x (givenOf x a) (law09_FleetTransitive_j18 100000) _)) (givenOf x (u : Int)) n k) (givenOf x (u : Int)).1.length (fun _ _ => True) (fun o => o = some true) ?_ ?_ 100000 () trivial (by omega)
        · intro n' k _ hk _ hs'
          have hm' := gt_mem (l := (givenOf x (u : Int)).1) (i := (k : Int)) (by omega) (by omega)
          rw [law09_FleetTransitive_L36, if_pos (by simp; omega)]
          obtain ⟨v, hv, hv0, ev⟩ := (given_mem hgu2).1 hm'
          rw [Int.toNat_natCast] at hv0 ev
          -- the chain over both
          obtain ⟨ws1, w1⟩ := costs_sound _ _ _ hu0
          obtain ⟨ws2, w2⟩ := costs_sound _ _ _ hv0
          obtain ⟨ws, w3⟩ := w1.append w2
          have hc := costs_complete hE (by omega : a.toNat < x.fTypes.length) w3
          have hin : (⟨a, v, costs x.fSwaps x.fTypes.length a.toNat v⟩ : Swap) ∈ (givenOf x a).1 := (given_mem h).2 ⟨v, hv, hc.1, rfl⟩
          have bu := costs_bd c0 a.toNat u
          have bv := costs_bd c0 u v
          have ev1 : (gt (givenOf x (u : Int)).1 (k : Int)).fGiven = v := by rw [ev]
          have ev2 : (gt (givenOf x (u : Int)).1 (k : Int)).fCost = costs x.fSwaps x.fTypes.length u v := by rw [ev]
          have hfound : (givenOf x a).1.any (fun s => (s.fGiven == (v : Int)) && decide (s.fCost ≤ costs x.fSwaps x.fTypes.length a.toNat u + costs x.fSwaps x.fTypes.length u v)) = true := by
            rw [List.any_eq_true]
            exact ⟨_, hin, by simp [hc.2]⟩
          refine loop_up0 (fun n j (t : Bool) => law09_FleetTransitive_L44 100000 (givenOf x a) (i : Int) (givenOf x (u : Int)) (k : Int) (law09_FleetTransitive_j40 100000 (law09_FleetTransitive_j38 100000 (k : Int) (law09_FleetTransitive_L36 100000 (givenOf x a) (i : Int) _ (givenOf x (u : Int)) n'))) n t j) (givenOf x a).1.length
            (fun j t => t = ((givenOf x a).1.take j).any (fun s => (s.fGiven == (v : Int)) && decide (s.fCost ≤ costs x.fSwaps x.fTypes.length a.toNat u + costs x.fSwaps x.fTypes.length u v))) (fun o => o = some true) ?_ ?_ 100000 false (by simp) (by omega)
          · intro m j t hj ht hs2
            rw [law09_FleetTransitive_L44, if_pos (by simp; omega)]
            rw [ck_pos (fun _ => ⟨by omega, by omega⟩), ck_pos (fun _ => ⟨by omega, by omega⟩), ck_pos (fun _ => ⟨by omega, by omega⟩), ck_pos (fun _ => ⟨by omega, by omega⟩), ck_pos (fun _ => ⟨by omega, by omega⟩)]
            rw [W_id (x := (j : Int) + 1) (by omega) (by omega), ec, ev1, ev2, W_id (x := costs x.fSwaps x.fTypes.length a.toNat u + costs x.fSwaps x.fTypes.length u v) (by omega) (by omega)]
            exact hs2 _ (by rw [any_take_succ _ _ _ hj, ht])
          · intro m t ht
            rw [law09_FleetTransitive_L44, if_neg (by simp)]
            rw [List.take_length, hfound] at ht
            subst ht
            unfold law09_FleetTransitive_j40 law09_FleetTransitive_j38
            rw [if_neg (by simp), W_id (by omega) (by omega)]
            exact hs' () trivial
        · intro n' _ _
          rw [law09_FleetTransitive_L36, if_neg (by simp)]
          exact hdone
      · intro n _ _
        rw [law09_FleetTransitive_L20, if_neg (by simp)]; rfl
    · rw [if_pos (by simp [h])]; simp [h]
theorem outOf_sorted (a : Int) (T : Nat) (c : Nat → Int) : (outOf a T c).Pairwise (fun s t => s.fGiven < t.fGiven) := by
  unfold outOf
  rw [List.pairwise_filterMap]
  refine List.pairwise_lt_range.imp ?_
  intro i j hij s hs t ht
  split at hs <;> split at ht
  · cases hs; cases ht; simp only; omega
  · cases ht
  · cases hs
  · cases hs
def lastOf (E : List Swap) (T a : Nat) (j : Nat) (s : Swap) : Bool := decide (0 ≤ costs E T a s.fWanted.toNat) && (s.fGiven == (j : Int)) && (costs E T a j == costs E T a s.fWanted.toNat + s.fCost)
theorem reached_eq {x : Fleet} (h : chkFleet x = 0) {a : Nat} (ha : a < x.fTypes.length) (j : Nat) : ((j == a) || x.fSwaps.any (lastOf x.fSwaps x.fTypes.length a j)) = decide (0 ≤ costs x.fSwaps x.fTypes.length a j) := by
  have hE := EOk_of h
  rw [Bool.eq_iff_iff, Bool.or_eq_true, List.any_eq_true, beq_iff_eq, decide_eq_true_eq]
  constructor
  · rintro (rfl | ⟨s, hs, hl⟩)
    · exact (costs_complete hE ha .nil).1
    · simp only [lastOf, Bool.and_eq_true, decide_eq_true_eq, beq_iff_eq] at hl
      have := hE s hs
      omega
  · intro h0
    by_cases e : j = a
    · exact Or.inl e
    · obtain ⟨s, hs, h1, h2, h3⟩ := costs_last hE ha h0 e
      have := hE s hs
      refine Or.inr ⟨s, hs, ?_⟩
      simp only [lastOf, Bool.and_eq_true, decide_eq_true_eq, beq_iff_eq]
      exact ⟨⟨h2, by omega⟩, h3⟩
theorem fleetCheapest_true (x : Fleet) (a : Int) (hx : RFleet x) (ha : RI .i64 a) : ∃ φ, law09_FleetCheapest φ x a = some true := by
  refine ⟨100000, ?_⟩
  unfold law09_FleetCheapest
  rw [sane_true, Option.bind_some, if_neg (by simp)]
  obtain ⟨b, hb, _⟩ := law09_few_eq 100000 x
  rw [hb, Option.bind_some]
  cases b with
  | false => rfl
  | true =>
    have h5 : 5000 < 100000 := by omega
    rw [if_neg (by simp), fleet_Given_eq _ h5, Option.bind_some]
    have hl := givenOf_len x a
    by_cases h : (givenOf x a).2 ≠ 0
    · rw [if_pos (by simpa using h), givenOf_err h]; rfl
    replace h : (givenOf x a).2 = 0 := Decidable.not_not.1 h
    rw [if_neg (by simp [h])]
    obtain ⟨c0, h2, ho⟩ := givenOf_0 h
    have hE := EOk_of c0
    obtain ⟨a1, a2, a3, a4, _⟩ := chkFleet_ok c0
    have hsort := outOf_sorted a x.fTypes.length (costs x.fSwaps x.fTypes.length a.toNat)
    rw [← ho] at hsort
    have hmem := fun s => given_mem h (s := s)
    rw [ck_pos (mk_t _ _ (by omega) (by omega) (by omega)), Int.toNat_natCast]
    have hbd := costs_bd c0 a.toNat
    have haT : a.toNat < x.fTypes.length := by omega
    refine loop_up0 (fun n i t => law09_FleetCheapest_L144 100000 (law09_FleetCheapest_j17 100000 x a (givenOf x a)) n i t) x.fTypes.length (fun i t => t.length = x.fTypes.length ∧ ∀ j : Nat, j < i → gt t (j : Int) = -1) (fun o => o = some true) ?_ ?_ 100000 _ ⟨by simp, by intro j hj; omega⟩ (by omega)
    · intro n i t hi2 ⟨ht1, ht⟩ hs
      rw [law09_FleetCheapest_L144, if_pos (by rw [ht1]; simp; omega), ck_pos ⟨by omega, by rw [ht1]; omega⟩, W_id (by omega) (by omega)]
      refine hs _ ⟨by rw [setAt_len, ht1], fun j hj => ?_⟩
      rw [gt_setAt _ _ _ _ (by omega) (by rw [ht1]; omega) (by omega)]
      split
      · rfl
      · rename_i e; exact ht j (by omega)
    · intro n t ⟨ht1, ht⟩
      rw [law09_FleetCheapest_L144, if_neg (by rw [ht1]; simp)]
      unfold law09_FleetCheapest_j17
      refine loop_up0 (fun n i (t : Int × List Int) => law09_FleetCheapest_L113 100000 a (givenOf x a) (law09_FleetCheapest_j19 100000 x a) n t.1 i t.2) (givenOf x a).1.length
        (fun i t => (∀ s ∈ (givenOf x a).1.drop i, t.1 < s.fGiven) ∧ t.2.length = x.fTypes.length ∧ ∀ j : Nat, j < x.fTypes.length → gt t.2 (j : Int) = if ((givenOf x a).1.take i).any (fun s => s.fGiven == (j : Int)) then costs x.fSwaps x.fTypes.length a.toNat j else -1)
        (fun o => o = some true) ?_ ?_ 100000 (-1, t) ⟨?_, ht1, ?_⟩ (by omega)
      · intro n i t hi ⟨h1, h3, h4⟩ hs
        have hW : W ((i : Int) + 1) = (i : Int) + 1 := W_id (by omega) (by omega)
        have hm := gt_mem (l := (givenOf x a).1) (i := (i : Int)) (by omega) (by omega)
        obtain ⟨u, hu, hu0, eu⟩ := (hmem _).1 hm
        have hdr := drop_gt (givenOf x a).1 i hi
        rw [hdr] at h1
        have hlt := h1 _ (List.mem_cons_self)
        have hso : ∀ s ∈ (givenOf x a).1.drop (i + 1), (gt (givenOf x a).1 (i : Int)).fGiven < s.fGiven := by
          have := hsort.drop (i := i)
          rw [hdr, List.pairwise_cons] at this
          exact this.1
        rw [law09_FleetCheapest_L113, if_pos (by simp; omega), ck_pos ⟨by omega, by omega⟩]
        have hany := any_take_succ (fun s : Swap => s.fGiven == (0 : Int)) (givenOf x a).1 i hi
        have hany : ∀ j : Nat, ((givenOf x a).1.take (i + 1)).any (fun s => s.fGiven == (j : Int)) = (((givenOf x a).1.take i).any (fun s => s.fGiven == (j : Int)) || ((u : Int) == (j : Int))) := by
          intro j; rw [any_take_succ _ _ _ hi, eu]
        rw [eu] at hlt hso ⊢
        simp only at hlt hso
        rw [if_neg (by simp; omega), ck_pos ⟨by simp only; omega, by simp only; omega⟩, hW]
        refine hs ((u : Int), setAt t.2 (u : Int) (costs x.fSwaps x.fTypes.length a.toNat u)) ⟨hso, by rw [setAt_len, h3], fun j hj => ?_⟩
        rw [gt_setAt _ _ _ _ (by omega) (by omega) (by omega), hany j, h4 j hj]
        by_cases e : j = u
        · subst e; simp
        · have e1 : ¬ (j : Int) = (u : Int) := by omega
          have e2 : ((u : Int) == (j : Int)) = false := by simp; omega
          rw [if_neg e1, e2, Bool.or_false]
      · intro n t ⟨h1, h3, h4⟩
        rw [List.take_length] at h4
        have hc : LAg x.fTypes.length t.2 (costs x.fSwaps x.fTypes.length a.toNat) := by
          refine ⟨h3, fun j hj => ?_⟩
          rw [h4 j hj]
          by_cases h0 : 0 ≤ costs x.fSwaps x.fTypes.length a.toNat j
          · rw [if_pos]
            rw [List.any_eq_true]
            exact ⟨_, (hmem _).2 ⟨j, hj, h0, rfl⟩, by simp⟩
          · rw [if_neg]
            · have := hbd j; omega
            · rw [List.any_eq_true]
              rintro ⟨s, hs, e⟩
              obtain ⟨u, hu, hu0, rfl⟩ := (hmem _).1 hs
              simp at e; exact h0 (by rw [← show u = j by omega]; exact hu0)
        rw [law09_FleetCheapest_L113, if_neg (by simp)]
        unfold law09_FleetCheapest_j19
        have hwa : costs x.fSwaps x.fTypes.length a.toNat a.toNat = 0 := by have := costs_complete hE haT .nil; omega
        rw [ck_pos (fun _ => ⟨by omega, by rw [h3]; omega⟩), hc.at h2.1 h2.2, hwa, if_neg (by rw [h3]; simp; omega), ck_pos (mk_t _ _ (by omega) (by omega) (by omega)), Int.toNat_natCast, h3, ck_pos ⟨by omega, by simp; omega⟩]
        refine loop_up0 (fun n i (s : Bool × List Bool) => law09_FleetCheapest_L60 100000 x t.2 (law09_FleetCheapest_j38 100000 t.2) n s.1 i s.2) x.fSwaps.length
          (fun i s => s.2.length = x.fTypes.length ∧ ∀ j : Nat, j < x.fTypes.length → gt s.2 (j : Int) = ((j == a.toNat) || (x.fSwaps.take i).any (lastOf x.fSwaps x.fTypes.length a.toNat j)))
          (fun o => o = some true) ?_ ?_ 100000 (true, setAt (List.replicate x.fTypes.length false) a true) ⟨by rw [setAt_len]; simp, ?_⟩ (by omega)
        · intro n i s hi ⟨s1, s2⟩ hs
          have hW : W ((i : Int) + 1) = (i : Int) + 1 := W_id (by omega) (by omega)
          have hm := gt_mem (l := x.fSwaps) (i := (i : Int)) (by omega) (by omega)
          have he := hE _ hm
          have bw := hbd (gt x.fSwaps i).fWanted.toNat
          have bg := hbd (gt x.fSwaps i).fGiven.toNat
          rw [law09_FleetCheapest_L60, if_pos (by simp; omega), ck_pos ⟨by omega, by omega⟩, if_neg (by rw [h3]; simp; omega), ck_pos ⟨by omega, by rw [h3]; omega⟩, hc.at he.1 he.2.1]
          unfold law09_FleetCheapest_j64
          rw [hW]
          by_cases h0 : costs x.fSwaps x.fTypes.length a.toNat (gt x.fSwaps i).fWanted.toNat < 0
          · rw [if_pos (by simpa using h0)]
            refine hs (s.1, s.2) ⟨s1, fun j hj => ?_⟩
            rw [s2 j hj, any_take_succ _ _ _ hi]
            have : lastOf x.fSwaps x.fTypes.length a.toNat j (gt x.fSwaps i) = false := by simp [lastOf]; omega
            rw [this, Bool.or_false]
          · have hfix := costs_fix hE haT hm (by omega)
            rw [if_neg (by simpa using h0), ck_pos ⟨by omega, by rw [h3]; omega⟩, hc.at he.2.2.1 he.2.2.2.1, W_id (x := costs x.fSwaps x.fTypes.length a.toNat (gt x.fSwaps i).fWanted.toNat + (gt x.fSwaps i).fCost) (by omega) (by omega), if_neg (by simp; omega), ck_pos ⟨by omega, by rw [s1]; omega⟩]
            refine hs (s.1 && decide (0 < (gt x.fSwaps i).fCost), setAt s.2 (gt x.fSwaps i).fGiven ((gt s.2 (gt x.fSwaps i).fGiven) || (costs x.fSwaps x.fTypes.length a.toNat (gt x.fSwaps i).fGiven.toNat == costs x.fSwaps x.fTypes.length a.toNat (gt x.fSwaps i).fWanted.toNat + (gt x.fSwaps i).fCost))) ⟨by rw [setAt_len, s1], fun j hj => ?_⟩
            rw [gt_setAt _ _ _ _ (by omega) (by rw [s1]; omega) (by omega), any_take_succ _ _ _ hi, s2 j hj]
            have hg : (((gt x.fSwaps i).fGiven.toNat : Nat) : Int) = (gt x.fSwaps i).fGiven := by omega
            have s2g := s2 (gt x.fSwaps i).fGiven.toNat (by omega)
            rw [hg] at s2g
            by_cases e : (j : Int) = (gt x.fSwaps i).fGiven
            · have ej : j = (gt x.fSwaps i).fGiven.toNat := by omega
              rw [if_pos e, s2g, ← ej]
              have : lastOf x.fSwaps x.fTypes.length a.toNat j (gt x.fSwaps i) = (costs x.fSwaps x.fTypes.length a.toNat j == costs x.fSwaps x.fTypes.length a.toNat (gt x.fSwaps i).fWanted.toNat + (gt x.fSwaps i).fCost) := by
                unfold lastOf
                rw [decide_eq_true (by omega), ← e]; simp
              rw [this, Bool.or_assoc]
            · have : lastOf x.fSwaps x.fTypes.length a.toNat j (gt x.fSwaps i) = false := by
                unfold lastOf
                have : ((gt x.fSwaps i).fGiven == (j : Int)) = false := by simp; omega
                rw [this]; simp
              rw [if_neg e, this, Bool.or_false]
        · intro n s ⟨s1, s2⟩
          rw [List.take_length] at s2
          rw [law09_FleetCheapest_L60, if_neg (by simp)]
          unfold law09_FleetCheapest_j38
          refine loop_up0 (fun n i (_ : Unit) => law09_FleetCheapest_L41 100000 t.2 s.1 s.2 (law09_FleetCheapest_j39 100000) n i) x.fTypes.length (fun _ _ => True) (fun o => o = some true) ?_ ?_ 100000 () trivial (by omega)
          · intro n i _ hi _ hs
            rw [law09_FleetCheapest_L41, if_pos (by rw [h3]; simp; omega), ck_pos (fun _ => ⟨by omega, by rw [s1]; omega⟩), ck_pos (fun _ => ⟨by omega, by rw [h3]; omega⟩), s2 i hi, hc.2 i hi, reached_eq c0 haT, W_id (by omega) (by omega), if_neg (by simp)]
            exact hs () trivial
          · intro n _ _
            rw [law09_FleetCheapest_L41, if_neg (by rw [h3]; simp)]; rfl
        · intro j hj
          rw [gt_setAt _ _ _ _ (by omega) (by simp; omega) (by omega), gt_replicate _ _ _ (by omega) (by omega)]
          by_cases e : (j : Int) = a
          · rw [if_pos e]; simp; omega
          · rw [if_neg e]; simp; omega
      · intro s hs
        rw [List.drop_zero] at hs
        obtain ⟨u, hu, hu0, rfl⟩ := (hmem _).1 hs
        simp only; omega
      · intro j hj
        rw [ht j hj]; simp
end Px
