/- What Given says. Conditions: none. -/
import Derived.Test.YtbfoamlmlbmmnaaRi
namespace Px
open Go
set_option linter.unusedVariables false
set_option linter.unusedSimpArgs false
set_option maxRecDepth 100000
def outOf (a : Int) (T : Nat) (c : Nat → Int) : List Swap := (List.range T).filterMap fun i => if 0 ≤ c i then some ⟨a, i, c i⟩ else none
theorem outOf_succ (a : Int) (i : Nat) (c : Nat → Int) : outOf a (i + 1) c = if 0 ≤ c i then outOf a i c ++ [⟨a, i, c i⟩] else outOf a i c := by
  unfold outOf
  rw [List.range_succ, List.filterMap_append]
  by_cases h : 0 ≤ c i
  · simp [h]
  · simp [h]
theorem outOf_len (a : Int) (T : Nat) (c : Nat → Int) : (outOf a T c).length ≤ T := by
  have := List.length_filterMap_le (fun i => if 0 ≤ c i then some (⟨a, i, c i⟩ : Swap) else none) (List.range T)
  simpa [outOf] using this
theorem fits24 {n : Nat} (h : n ≤ 100000) : fits n 24 := by unfold fits; omega
/-- What Given answers. -/
def givenOf (x : Fleet) (a : Int) : List Swap × Int :=
  if chkFleet x ≠ 0 then ([], chkFleet x) else if ¬ (0 ≤ a ∧ a < x.fTypes.length) then ([], 90) else
  (outOf a x.fTypes.length (costs x.fSwaps x.fTypes.length a.toNat), 0)
theorem EOk_of {x : Fleet} (h : chkFleet x = 0) : EOk x.fTypes.length x.fSwaps := by
  intro s hs
  obtain ⟨a1, a2, a3, a4, b1, b2, b3, b4⟩ := chkFleet_ok h
  have := b3 s hs
  simp only [okSwap, Bool.and_eq_true, bet_iff] at this
  omega
def pstep (p : Bool × (Nat → Int)) (s : Swap) : Bool × (Nat → Int) := (p.1 || better p.2 s, relax p.2 s)
theorem pfold_snd : ∀ (E : List Swap) (p : Bool × (Nat → Int)), (E.foldl pstep p).2 = E.foldl relax p.2
  | [], p => rfl
  | s :: E, p => by rw [List.foldl_cons, List.foldl_cons, pfold_snd E]; rfl
theorem pfold_false : ∀ (E : List Swap) (p : Bool × (Nat → Int)), (E.foldl pstep p).1 = false → p.1 = false ∧ ∀ s ∈ E, better p.2 s = false
  | [], p, h => ⟨h, by simp⟩
  | s :: E, p, h => by
    rw [List.foldl_cons] at h
    obtain ⟨h1, h2⟩ := pfold_false E _ h
    simp only [pstep, Bool.or_eq_false_iff] at h1
    rw [show (pstep p s).2 = p.2 from relax_fix h1.2] at h2
    refine ⟨h1.1, fun t ht => ?_⟩
    rcases List.mem_cons.1 ht with e | e
    · rw [e]; exact h1.2
    · exact h2 t e
theorem pfold_still : ∀ (E : List Swap) (p : Bool × (Nat → Int)), (∀ s ∈ E, better p.2 s = false) → (E.foldl pstep p).1 = p.1
  | [], p, h => rfl
  | s :: E, p, h => by
    rw [List.foldl_cons]
    have h1 := h s (by simp)
    have e : pstep p s = p := by
      obtain ⟨b, c⟩ := p
      simp only [pstep]
      rw [relax_fix h1, h1, Bool.or_false]
    rw [e]; exact pfold_still E p fun t ht => h t (List.mem_cons_of_mem _ ht)
theorem foldl_take_succ {α β : Type} [Inhabited α] (f : β → α → β) (b : β) (l : List α) (i : Nat) (h : i < l.length) : (l.take (i + 1)).foldl f b = f ((l.take i).foldl f b) (gt l (i : Int)) := by
  rw [take_succ_gt l i h, List.foldl_append]; rfl
/-- One round of the loop. -/
theorem given_round (φ : Nat) (x : Fleet) (hE : EOk x.fTypes.length x.fSwaps) (hT : x.fTypes.length ≤ 32) (hl : x.fSwaps.length ≤ 1024) (k : Bool → (Nat → Int) → Option (List Swap × Int)) (r : Option (List Swap × Int)) {B : Int} (hB0 : 0 ≤ B) (hB : B ≤ 1000000000000000) (c : Nat → Int) (hc : Bd B c) (d : Nat → Int) (hd : ∀ j < 32, d j = c j)
    (hk : ∀ d', (∀ j < 32, d' j = roundE x.fSwaps c j) → k (x.fSwaps.foldl pstep (false, c)).1 d' = r) (n : Nat) (hn : x.fSwaps.length < n) : fleet_Given_L37 φ x k n false 0 d = r := by
  refine loop_up0 (fun n i (t : Bool × (Nat → Int)) => fleet_Given_L37 φ x k n t.1 i t.2) x.fSwaps.length
    (fun i t => t.1 = ((x.fSwaps.take i).foldl pstep (false, c)).1 ∧ ∀ j < 32, t.2 j = ((x.fSwaps.take i).foldl pstep (false, c)).2 j) (fun o => o = r) ?_ ?_ n (false, d) ⟨by simp, by simpa using hd⟩ hn
  · intro n i t hi ⟨h1, h2⟩ hs
    have hW : W ((i : Int) + 1) = (i : Int) + 1 := W_id (by omega) (by omega)
    have hm := gt_mem (l := x.fSwaps) (i := (i : Int)) (by omega) (by omega)
    have he := hE _ hm
    have hbd : Bd (B + 1000000000 * (x.fSwaps.take i).length) ((x.fSwaps.take i).foldl pstep (false, c)).2 := by
      rw [pfold_snd]; exact fold_bd hE (fun s hs => List.mem_of_mem_take hs) hc
    have hlen : (x.fSwaps.take i).length ≤ 1024 := by rw [List.length_take]; omega
    rw [fleet_Given_L37, if_pos (by simp; omega), ck_pos ⟨by omega, by omega⟩, ck_pos ⟨by omega, by omega⟩, ck_pos ⟨by omega, by omega⟩, ck_pos (fun _ => ⟨by omega, by omega⟩), ck_pos (fun _ => ⟨by omega, by omega⟩)]
    have hstep := foldl_take_succ pstep (false, c) x.fSwaps i hi
    generalize hp : (x.fSwaps.take i).foldl pstep (false, c) = p at *
    have ew := h2 (gt x.fSwaps i).fWanted.toNat (by omega)
    have eg := h2 (gt x.fSwaps i).fGiven.toNat (by omega)
    have bw := hbd (gt x.fSwaps i).fWanted.toNat
    rw [ew, eg, W_id (x := p.2 (gt x.fSwaps i).fWanted.toNat + (gt x.fSwaps i).fCost) (by omega) (by omega)]
    have hbe : (decide (0 ≤ p.2 (gt x.fSwaps i).fWanted.toNat) && (decide (p.2 (gt x.fSwaps i).fGiven.toNat < 0) || decide (p.2 (gt x.fSwaps i).fWanted.toNat + (gt x.fSwaps i).fCost < p.2 (gt x.fSwaps i).fGiven.toNat))) = better p.2 (gt x.fSwaps i) := rfl
    rw [hbe]
    cases hb : better p.2 (gt x.fSwaps i) with
    | true =>
      rw [if_pos rfl, ck_pos ⟨by omega, by omega⟩]
      unfold fleet_Given_j62
      rw [hW]
      refine hs (true, upd t.2 (gt x.fSwaps i).fGiven.toNat (p.2 (gt x.fSwaps i).fWanted.toNat + (gt x.fSwaps i).fCost)) ⟨by rw [hstep]; simp [pstep, hb], fun j hj => ?_⟩
      rw [hstep]
      simp only [pstep, relax, hb, cond_true, upd_at]
      split
      · rfl
      · exact h2 j hj
    | false =>
      rw [if_neg (by simp)]
      unfold fleet_Given_j62
      rw [hW]
      refine hs (t.1, t.2) ⟨by rw [hstep]; simp [pstep, hb, h1], fun j hj => ?_⟩
      rw [hstep]
      simp only [pstep, relax, hb, cond_false]
      exact h2 j hj
  · intro n t ⟨h1, h2⟩
    rw [List.take_length] at h1 h2
    rw [fleet_Given_L37, if_neg (by simp), h1]
    refine hk _ fun j hj => ?_
    rw [h2 j hj, pfold_snd]; rfl
theorem given_loop (φ : Nat) (x : Fleet) (hE : EOk x.fTypes.length x.fSwaps) (hT : x.fTypes.length ≤ 32) (hl : x.fSwaps.length ≤ 1024) (a : Nat) (ha : a < x.fTypes.length) (hφ : 5000 < φ) (k : (Nat → Int) → Option (List Swap × Int)) (r : Option (List Swap × Int))
    (hk : ∀ d', (∀ j < 32, d' j = costs x.fSwaps x.fTypes.length a j) → k d' = r) :
    ∀ (m n i : Nat), x.fTypes.length - i = m → i ≤ x.fTypes.length → m + 2 ≤ n → ∀ d, (∀ j < 32, d j = cR x.fSwaps a i j) → fleet_Given_L32 φ x k n true d = r := by
  intro m
  induction m with
  | zero =>
    intro n i hm hi hn d hd
    obtain ⟨n, rfl⟩ : ∃ n', n = n' + 2 := ⟨n - 2, by omega⟩
    have hi : i = x.fTypes.length := by omega
    subst hi
    rw [fleet_Given_L32, if_pos rfl]
    have hst := costs_still hE ha
    have hb := cR_bd hE hl a x.fTypes.length
    refine given_round φ x hE hT hl _ r (by omega) (by omega) _ hb d hd (fun d' hd' => ?_) φ (by omega)
    rw [pfold_still _ _ hst, fleet_Given_L32, if_neg (by simp)]
    refine hk d' fun j hj => ?_
    rw [hd' j hj]
    show roundE x.fSwaps (costs x.fSwaps x.fTypes.length a) j = _
    unfold roundE
    rw [fold_still hst]
  | succ m ih =>
    intro n i hm hi hn d hd
    obtain ⟨n, rfl⟩ : ∃ n', n = n' + 2 := ⟨n - 2, by omega⟩
    rw [fleet_Given_L32, if_pos rfl]
    have hb := cR_bd hE hl a i
    refine given_round φ x hE hT hl _ r (by omega) (by omega) _ hb d hd (fun d' hd' => ?_) φ (by omega)
    cases hch : (x.fSwaps.foldl pstep (false, cR x.fSwaps a i)).1 with
    | true => exact ih (n + 1) (i + 1) (by omega) (by omega) (by omega) d' hd'
    | false =>
      rw [fleet_Given_L32, if_neg (by simp)]
      refine hk d' fun j hj => ?_
      have hst := (pfold_false _ _ hch).2
      have h1 := cR_still hst (x.fTypes.length - i)
      rw [show i + (x.fTypes.length - i) = x.fTypes.length by omega] at h1
      rw [hd' j hj]
      unfold roundE costs
      rw [fold_still hst, h1]
theorem given_out (φ : Nat) (x : Fleet) (hT : x.fTypes.length ≤ 32) (hφ : 5000 < φ) (a : Int) (c d : Nat → Int) (hd : ∀ j < 32, d j = c j) : fleet_Given_j13 φ x a d = some (outOf a x.fTypes.length c, 0) := by
  unfold fleet_Given_j13
  refine loop_up0 (fun n i t => fleet_Given_L20 φ x a d (fleet_Given_j16 φ) n i t) x.fTypes.length (fun i t => t = outOf a i c) (fun o => o = some (outOf a x.fTypes.length c, 0)) ?_ ?_ φ _ rfl (by omega)
  · intro n i t hi ht hs
    have hW : W ((i : Int) + 1) = (i : Int) + 1 := W_id (by omega) (by omega)
    have hlen := outOf_len a i c
    rw [fleet_Given_L20, if_pos (by simp; omega), ck_pos ⟨by omega, by omega⟩, Int.toNat_natCast, hd i (by omega)]
    by_cases h : 0 ≤ c i
    · rw [if_pos (by simpa using h), ck_pos (fits24 (by rw [ht]; simp; omega))]
      unfold fleet_Given_j25
      rw [hW]
      exact hs _ (by rw [outOf_succ, if_pos h, ht])
    · rw [if_neg (by simpa using h)]
      unfold fleet_Given_j25
      rw [hW]
      exact hs _ (by rw [outOf_succ, if_neg h, ht])
  · intro n t ht
    rw [fleet_Given_L20, if_neg (by simp), ht]; rfl
theorem fleet_Given_eq (φ : Nat) (hφ : 5000 < φ) (x : Fleet) (a : Int) : fleet_Given φ x a = some (givenOf x a) := by
  unfold fleet_Given givenOf
  rw [fleet_Check_eq φ hφ, Option.bind_some]
  by_cases h : chkFleet x = 0
  · obtain ⟨a1, a2, a3, a4, b1, b2, b3, b4⟩ := chkFleet_ok h
    rw [if_neg (by simp [h]), if_neg (fun e : chkFleet x ≠ 0 => e h), W_id (by omega) (by omega), fleet_between_eq, Option.bind_some]
    by_cases hi : 0 ≤ a ∧ a < x.fTypes.length
    · rw [if_neg (by simp [bet]; omega), if_neg (fun e : ¬ (0 ≤ a ∧ a < (x.fTypes.length : Int)) => e hi)]
      refine loop_up0 (fun n i t => fleet_Given_L67 φ (fleet_Given_j10 φ x a) n i t) 32 (fun i t => ∀ j < i, t j = -1) (fun o => o = some (outOf a x.fTypes.length (costs x.fSwaps x.fTypes.length a.toNat), 0)) ?_ ?_ φ _ (by intro j hj; omega) (by omega)
      · intro n i t hi2 ht hs
        rw [fleet_Given_L67, if_pos (by simp; omega), ck_pos ⟨by omega, by omega⟩, W_id (by omega) (by omega)]
        refine hs _ fun j hj => ?_
        rw [upd_at]
        split
        · rfl
        · rename_i e; rw [Int.toNat_natCast] at e; exact ht j (by omega)
      · intro n t ht
        rw [fleet_Given_L67, if_neg (by simp)]
        unfold fleet_Given_j10
        rw [ck_pos ⟨by omega, by omega⟩]
        refine given_loop φ x (EOk_of h) a1 a3 a.toNat (by omega) hφ _ _ (fun d' hd' => given_out φ x a1 hφ a _ d' hd') x.fTypes.length φ 0 (by omega) (by omega) (by omega) _ fun j hj => ?_
        rw [upd_at]
        simp only [cR]
        split
        · rfl
        · exact ht j hj
    · rw [if_pos (by simp [bet]; omega), if_pos (show ¬ (0 ≤ a ∧ a < (x.fTypes.length : Int)) from hi)]
  · rw [if_pos (by simp [h]), if_pos (show chkFleet x ≠ 0 from h)]
end Px
