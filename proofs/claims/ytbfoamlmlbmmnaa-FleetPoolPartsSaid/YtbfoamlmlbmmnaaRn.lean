/- What Check says of a network, a calendar and a pool. Conditions: none. -/
import Derived.Test.YtbfoamlmlbmmnaaRm
import Derived.Test.YtbfoamlmlbmmnaaRk
namespace Px
open Go
set_option linter.unusedVariables false
set_option linter.unusedSimpArgs false
set_option maxRecDepth 100000
def okPlace (p : Place) : Bool := bet p.fKind 1 5 && bet p.fRailway 0 15 && (bif p.fKind == 3 then bet p.fOther 0 15 && (p.fOther != p.fRailway) else p.fOther == (-1))
def okEdge (n : Int) (e : Edge) : Bool := bet e.fA 0 (n - 1) && bet e.fB 0 (n - 1) && (e.fA != e.fB) && bet e.fRailway 0 15 && bet e.fMinutes 1 100000 && bet e.fKm 0 10000
def chkNet (x : Network) : Int := bif decide (512 < x.fPlaces.length) || decide (2048 < x.fEdges.length) then 2 else bif x.fPlaces.all okPlace && x.fEdges.all (okEdge x.fPlaces.length) then 0 else 1
theorem ref08_between_eq (φ : Nat) (a b c : Int) : ref08_between φ a b c = some (bet a b c) := rfl
theorem network_place_eq (φ : Nat) (p : Place) : network_place φ p = some (okPlace p) := by
  have hb : (((decide (p.fKind < 1) || decide (5 < p.fKind)) || decide (p.fRailway < 0)) || decide (16 ≤ p.fRailway)) = !(bet p.fKind 1 5 && bet p.fRailway 0 15) := by
    rw [Bool.eq_iff_iff]; simp [bet]; omega
  unfold network_place okPlace
  rw [hb]
  cases bet p.fKind 1 5 && bet p.fRailway 0 15 with
  | false => rfl
  | true =>
    rw [if_neg (by simp)]
    by_cases h : p.fKind = 3
    · have : (decide (0 ≤ p.fOther) && decide (p.fOther < 16)) = bet p.fOther 0 15 := by rw [Bool.eq_iff_iff]; simp [bet]; omega
      rw [if_neg (by simp [h]), this]; simp [h]
    · have h2 : (p.fKind == 3) = false := by simpa using h
      rw [if_pos (by simp [h]), h2]; rfl
theorem ref08_place_eq (φ : Nat) (p : Place) : ref08_place φ p = some (okPlace p) := by
  unfold ref08_place okPlace
  simp only [ref08_between_eq, Option.bind_some]
  cases bet p.fKind 1 5 with
  | false => rfl
  | true =>
    rw [gcall_t (by simp), Option.bind_some]
    cases bet p.fRailway 0 15 with
    | false => rfl
    | true =>
      rw [if_neg (by simp)]
      cases h : p.fKind == 3 with
      | false => rfl
      | true => rfl
theorem ref08_line_eq (φ : Nat) (e : Edge) (n : Int) (h : W (n - 1) = n - 1) : ref08_line φ e n = some (okEdge n e) := by
  unfold ref08_line okEdge
  simp only [ref08_between_eq, Option.bind_some, h, gcall]
  cases bet e.fA 0 (n - 1) <;> cases bet e.fB 0 (n - 1) <;> cases (e.fA != e.fB) <;> cases bet e.fRailway 0 15 <;> cases bet e.fMinutes 1 100000 <;> cases bet e.fKm 0 10000 <;> rfl
theorem edge_cond (n : Int) (e : Edge) : ((((((decide ((min2 (min2 (min2 (e.fA) (e.fB)) (e.fRailway)) (e.fKm)) < 0) || decide (n ≤ (max2 (e.fA) (e.fB)))) || (e.fA == e.fB)) || decide (16 ≤ e.fRailway)) || decide (e.fMinutes < 1)) || decide (100000 < e.fMinutes)) || decide (10000 < e.fKm)) = !okEdge n e := by
  have hm : ∀ x y z : Int, z ≤ max2 x y ↔ z ≤ x ∨ z ≤ y := by intro x y z; unfold max2; split <;> omega
  have hok : okEdge n e = true ↔ ((((((0 ≤ e.fA ∧ e.fA ≤ n - 1) ∧ 0 ≤ e.fB ∧ e.fB ≤ n - 1) ∧ ¬ e.fA = e.fB) ∧ 0 ≤ e.fRailway ∧ e.fRailway ≤ 15) ∧ 1 ≤ e.fMinutes ∧ e.fMinutes ≤ 100000) ∧ 0 ≤ e.fKm ∧ e.fKm ≤ 10000) := by
    simp only [okEdge, Bool.and_eq_true, bet_iff, bne_iff_ne, ne_eq]
  rw [Bool.eq_iff_iff, Bool.not_eq_true', ← Bool.not_eq_true, hok]
  simp only [Bool.or_eq_true, decide_eq_true_eq, min2_lt, hm, beq_iff_eq]
  omega
theorem net_head (x : Network) : (decide (512 < (x.fPlaces.length : Int)) || decide (2048 < (x.fEdges.length : Int))) = (decide (512 < x.fPlaces.length) || decide (2048 < x.fEdges.length)) := by
  congr 1 <;> (apply decide_eq_decide.2; omega)
theorem network_Check_eq (φ : Nat) (hφ : 5000 < φ) (x : Network) : network_Check φ x = some (chkNet x) := by
  unfold network_Check chkNet
  rw [net_head]
  cases h : decide (512 < x.fPlaces.length) || decide (2048 < x.fEdges.length) with
  | true => rfl
  | false =>
    simp only [Bool.or_eq_false_iff, decide_eq_false_iff_not, Nat.not_lt] at h
    rw [if_neg (by simp), loop_any (network_Check_L48 φ x (network_Check_j9 φ x)) (network_Check_j9 φ x) (some 1) x.fPlaces (fun t => !okPlace t) ?_ ?_ φ (by omega)]
    · unfold network_Check_j9
      rw [loop_any (network_Check_L12 φ x (network_Check_j10 φ)) (network_Check_j10 φ) (some 1) x.fEdges (fun t => !okEdge x.fPlaces.length t) ?_ ?_ φ (by omega)]
      · simp only [List.any_eq_not_all_not, Bool.not_not]
        cases x.fPlaces.all okPlace <;> cases x.fEdges.all (okEdge x.fPlaces.length) <;> rfl
      · intro n i hi
        rw [network_Check_L12, if_pos (by simp; omega), ck_pos ⟨by omega, by omega⟩, edge_cond, W_id (by omega) (by omega)]
        cases okEdge x.fPlaces.length (gt x.fEdges i) <;> rfl
      · intro n; rw [network_Check_L12, if_neg (by simp)]
    · intro n i hi
      rw [network_Check_L48, if_pos (by simp; omega), ck_pos ⟨by omega, by omega⟩, network_place_eq, Option.bind_some, W_id (by omega) (by omega)]
      cases okPlace (gt x.fPlaces i) <;> rfl
    · intro n; rw [network_Check_L48, if_neg (by simp)]
theorem ref08_Check_eq (φ : Nat) (hφ : 5000 < φ) (x : Network) : ref08_Check φ x = some (chkNet x) := by
  unfold ref08_Check chkNet
  rw [net_head]
  cases h : decide (512 < x.fPlaces.length) || decide (2048 < x.fEdges.length) with
  | true => rfl
  | false =>
    simp only [Bool.or_eq_false_iff, decide_eq_false_iff_not, Nat.not_lt] at h
    rw [if_neg (by simp), loop_any (ref08_Check_L18 φ x (ref08_Check_j9 φ x)) (ref08_Check_j9 φ x) (some 1) x.fPlaces (fun t => !okPlace t) ?_ ?_ φ (by omega)]
    · unfold ref08_Check_j9
      rw [loop_any (ref08_Check_L12 φ x (ref08_Check_j10 φ)) (ref08_Check_j10 φ) (some 1) x.fEdges (fun t => !okEdge x.fPlaces.length t) ?_ ?_ φ (by omega)]
      · simp only [List.any_eq_not_all_not, Bool.not_not]
        cases x.fPlaces.all okPlace <;> cases x.fEdges.all (okEdge x.fPlaces.length) <;> rfl
      · intro n i hi
        rw [ref08_Check_L12, if_pos (by simp; omega), ck_pos ⟨by omega, by omega⟩, ref08_line_eq _ _ _ (W_id (by omega) (by omega)), Option.bind_some, W_id (by omega) (by omega)]
        cases okEdge x.fPlaces.length (gt x.fEdges i) <;> rfl
      · intro n; rw [ref08_Check_L12, if_neg (by simp)]
    · intro n i hi
      rw [ref08_Check_L18, if_pos (by simp; omega), ck_pos ⟨by omega, by omega⟩, ref08_place_eq, Option.bind_some, W_id (by omega) (by omega)]
      cases okPlace (gt x.fPlaces i) <;> rfl
    · intro n; rw [ref08_Check_L18, if_neg (by simp)]
theorem chkNet_ok {x : Network} (h : chkNet x = 0) : x.fPlaces.length ≤ 512 ∧ x.fEdges.length ≤ 2048 ∧ (∀ p ∈ x.fPlaces, okPlace p = true) ∧ ∀ e ∈ x.fEdges, okEdge x.fPlaces.length e = true := by
  unfold chkNet at h
  cases h1 : decide (512 < x.fPlaces.length) || decide (2048 < x.fEdges.length) with
  | true => rw [h1] at h; cases h
  | false =>
    rw [h1] at h
    cases h2 : x.fPlaces.all okPlace && x.fEdges.all (okEdge x.fPlaces.length) with
    | false => rw [h2] at h; cases h
    | true =>
      simp only [Bool.or_eq_false_iff, decide_eq_false_iff_not, Nat.not_lt] at h1
      simp only [Bool.and_eq_true, List.all_eq_true] at h2
      exact ⟨h1.1, h1.2, h2⟩
/-- What Check says of a calendar. -/
def okHol : Int → List Int → Bool
  | _, [] => true
  | p, h :: t => decide (p < h) && decide (h ≤ 745654) && okHol h t
def okSpan (s : Span) : Bool := decide (0 ≤ s.fFrom) && decide (s.fFrom ≤ s.fTo) && decide (s.fTo ≤ 1440)
def okCal (c : Calendar) : Bool := ((List.range 7).all fun i => okSpan (c.fOpen i)) && okHol (-1) c.fHolidays
theorem cal_hol (φ : Nat) (c : Calendar) : ∀ (n i : Nat) (p : Int), -1 ≤ p → (i : Int) ≤ p + 1 → p ≤ 745654 → i ≤ c.fHolidays.length → 745656 ≤ (n : Int) + p → calendar_Check_L7 φ c (calendar_Check_j4 φ) n p i = some (bif okHol p (c.fHolidays.drop i) then 0 else 1) := by
  intro n
  induction n with
  | zero => intro i p _ _ _ _ _; omega
  | succ n ih =>
    intro i p hp hip hp2 hi hn
    by_cases h : i = c.fHolidays.length
    · rw [h, calendar_Check_L7, if_neg (by simp), List.drop_length]; rfl
    · rw [calendar_Check_L7, if_pos (by simp; omega), ck_pos ⟨by omega, by omega⟩, drop_gt _ _ (by omega)]
      by_cases hb : gt c.fHolidays i ≤ p ∨ 745654 < gt c.fHolidays i
      · have : (decide (p < gt c.fHolidays i) && decide (gt c.fHolidays i ≤ 745654)) = false := by simp; omega
        rw [if_pos (by simpa using hb)]
        simp [okHol, this]
      · have h2 : (decide (p < gt c.fHolidays i) && decide (gt c.fHolidays i ≤ 745654)) = true := by simp; omega
        rw [if_neg (by simpa using hb), W_id (by omega) (by omega)]
        have := ih (i + 1) (gt c.fHolidays i) (by omega) (by omega) (by omega) (by omega) (by omega)
        rw [show ((i + 1 : Nat) : Int) = (i : Int) + 1 by omega] at this
        rw [this]
        simp [okHol, h2]
theorem cal_open_cond (s : Span) : ((decide (s.fFrom < 0) || decide (s.fTo < s.fFrom)) || decide (1440 < s.fTo)) = !okSpan s := by
  rw [Bool.eq_iff_iff]; simp [okSpan]
  try omega
theorem calendar_Check_eq (φ : Nat) (hφ : 800000 < φ) (c : Calendar) : calendar_Check φ c = some (bif okCal c then 0 else 1) := by
  unfold calendar_Check
  refine loop_up0 (fun n i (_ : Unit) => calendar_Check_L15 φ c (calendar_Check_j3 φ c) n i) 7 (fun i _ => ((List.range i).all fun j => okSpan (c.fOpen j)) = true) (fun o => o = some (bif okCal c then 0 else 1)) ?_ ?_ φ () (by simp) (by omega)
  · intro n i _ hi h hs
    rw [calendar_Check_L15, if_pos (by simp; omega), ck_pos ⟨by omega, by omega⟩, Int.toNat_natCast, cal_open_cond, W_id (by omega) (by omega)]
    cases ho : okSpan (c.fOpen i) with
    | true =>
      rw [if_neg (by simp)]
      exact hs () (by rw [all_range_succ, h, ho]; rfl)
    | false =>
      have : okCal c = false := by
        unfold okCal
        have : ((List.range 7).all fun j => okSpan (c.fOpen j)) = false := by
          rw [List.all_eq_false]; exact ⟨i, by simp; omega, by simp [ho]⟩
        rw [this]; rfl
      rw [if_pos (by simp), this]; rfl
  · intro n _ h
    rw [calendar_Check_L15, if_neg (by simp)]
    unfold calendar_Check_j3 okCal
    rw [h, Bool.true_and]
    have := cal_hol φ c φ 0 (-1) (by omega) (by omega) (by omega) (by omega) (by omega)
    simpa using this
def prevOf (l : List Int) (i : Nat) : Int := if i = 0 then -1 else gt l ((i : Int) - 1)
theorem cal_hol6 (φ : Nat) (c : Calendar) : ∀ (n i : Nat), -1 ≤ prevOf c.fHolidays i → (i : Int) ≤ prevOf c.fHolidays i + 1 → prevOf c.fHolidays i ≤ 745654 → i ≤ c.fHolidays.length → 745656 ≤ (n : Int) + prevOf c.fHolidays i → ref06_Check_L6 φ c (ref06_Check_j4 φ) n i = some (bif okHol (prevOf c.fHolidays i) (c.fHolidays.drop i) then 0 else 1) := by
  intro n
  induction n with
  | zero => intro i _ _ _ _ _; omega
  | succ n ih =>
    intro i hp hip hp2 hi hn
    by_cases h : i = c.fHolidays.length
    · rw [ref06_Check_L6, if_neg (by rw [h]; simp), h, List.drop_length]; rfl
    · have hW : W ((i : Int) - 1) = (i : Int) - 1 := W_id (by omega) (by omega)
      rw [ref06_Check_L6, if_pos (by simp; omega), ck_pos ⟨by omega, by omega⟩, hW, ck_pos (fun h => by have := h.2; simp at this; omega), drop_gt _ _ (by omega)]
      have hc : ((decide ((gt c.fHolidays i) < 0) || decide (745654 < (gt c.fHolidays i))) || (decide (0 < (i : Int)) && decide ((gt c.fHolidays i) ≤ (gt c.fHolidays ((i : Int) - 1))))) = !(decide (prevOf c.fHolidays i < gt c.fHolidays i) && decide (gt c.fHolidays i ≤ 745654)) := by
        unfold prevOf at *
        rw [Bool.eq_iff_iff]
        by_cases h0 : i = 0
        · subst h0; simp; omega
        · rw [if_neg h0] at *; simp; omega
      rw [hc]
      cases hb : decide (prevOf c.fHolidays i < gt c.fHolidays i) && decide (gt c.fHolidays i ≤ 745654) with
      | false => rw [if_pos (by simp)]; simp [okHol, hb]
      | true =>
        rw [if_neg (by simp), W_id (by omega) (by omega)]
        have hpe : prevOf c.fHolidays (i + 1) = gt c.fHolidays i := by
          unfold prevOf
          rw [if_neg (by omega)]; congr 1; omega
        have hb' := hb
        simp only [Bool.and_eq_true, decide_eq_true_eq] at hb'
        have := ih (i + 1) (by rw [hpe]; omega) (by rw [hpe]; omega) (by rw [hpe]; omega) (by omega) (by rw [hpe]; omega)
        rw [hpe, show ((i + 1 : Nat) : Int) = (i : Int) + 1 by omega] at this
        rw [this]
        simp [okHol, hb]
theorem ref06_Check_eq (φ : Nat) (hφ : 800000 < φ) (c : Calendar) : ref06_Check φ c = some (bif okCal c then 0 else 1) := by
  unfold ref06_Check
  refine loop_up0 (fun n i (_ : Unit) => ref06_Check_L29 φ c (ref06_Check_j3 φ c) n i) 7 (fun i _ => ((List.range i).all fun j => okSpan (c.fOpen j)) = true) (fun o => o = some (bif okCal c then 0 else 1)) ?_ ?_ φ () (by simp) (by omega)
  · intro n i _ hi h hs
    rw [ref06_Check_L29, if_pos (by simp; omega), ck_pos ⟨by omega, by omega⟩, Int.toNat_natCast, cal_open_cond, W_id (by omega) (by omega)]
    cases ho : okSpan (c.fOpen i) with
    | true =>
      rw [if_neg (by simp)]
      exact hs () (by rw [all_range_succ, h, ho]; rfl)
    | false =>
      have : okCal c = false := by
        unfold okCal
        have : ((List.range 7).all fun j => okSpan (c.fOpen j)) = false := by
          rw [List.all_eq_false]; exact ⟨i, by simp; omega, by simp [ho]⟩
        rw [this]; rfl
      rw [if_pos (by simp), this]; rfl
  · intro n _ h
    rw [ref06_Check_L29, if_neg (by simp)]
    unfold ref06_Check_j3 okCal
    rw [h, Bool.true_and]
    have := cal_hol6 φ c φ 0 (by simp [prevOf]) (by simp [prevOf]) (by simp [prevOf]) (by omega) (by simp [prevOf]; omega)
    simpa [prevOf] using this
end Px
