/- What Worth says. Conditions: none. -/
import Derived.Test.YtbfoamlmlbmmnaaRe
namespace Px
open Go
set_option linter.unusedVariables false
set_option linter.unusedSimpArgs false
set_option maxRecDepth 100000
def leastOf (w f : Int) : Int := (w * f + 99) / 100
def badWorth (w b a l f : Int) : Prop := w < 0 ∨ 9007199254740992 < w ∨ b < 0 ∨ 1073741824 < b ∨ a < 0 ∨ 1073741824 < a ∨ l < 1 ∨ 1073741824 < l ∨ f < 0 ∨ 100 < f
instance (w b a l f : Int) : Decidable (badWorth w b a l f) := by unfold badWorth; infer_instance
/-- What Worth answers. -/
def worthOf (w b a l f : Int) : Int × Int :=
  if badWorth w b a l f then (0, 1) else if a ≤ b then (w, 0) else if l ≤ a - b then (leastOf w f, 0) else (max2 (leastOf w f) (w - w * (a - b) / l), 0)
theorem least_eq {w f : Int} (h : 0 ≤ w) (h' : w ≤ 9007199254740992) (g : 0 ≤ f) (g' : f ≤ 100) : W ((W ((W (w * f)) + 99)).tdiv 100) = leastOf w f ∧ 0 ≤ leastOf w f ∧ leastOf w f ≤ w := by
  have b := mul_bd h g h' g'
  have e : W (W (w * f) + 99) = w * f + 99 := by rw [W_id (x := w * f) (by omega) (by omega), W_id (by omega) (by omega)]
  have h2 : w * f ≤ w * 100 := Int.mul_le_mul_of_nonneg_left g' h
  unfold leastOf
  rw [e, Int.tdiv_eq_ediv_of_nonneg (by omega), W_id (by omega) (by omega)]
  omega
theorem mulDiv_bd {w a l : Int} (hw : 0 ≤ w) (ha : 0 ≤ a) (hl : 0 < l) (hal : a ≤ l) : 0 ≤ w * a / l ∧ w * a / l ≤ w := by
  refine ⟨Int.ediv_nonneg (Int.mul_nonneg hw ha) (by omega), ?_⟩
  have h1 : w * a ≤ w * l := Int.mul_le_mul_of_nonneg_left hal hw
  have h2 := Int.ediv_le_ediv hl h1
  rwa [Int.mul_ediv_cancel _ (by omega)] at h2
theorem money_in_one (φ : Nat) (hφ : 2 < φ) (v : Int) : money_in φ [v] = some (decide (-9007199254740992 ≤ v ∧ v ≤ 9007199254740992)) := by
  obtain ⟨m, rfl⟩ : ∃ m, φ = m + 2 := ⟨φ - 2, by omega⟩
  unfold money_in
  rw [money_in_L4, if_pos (by simp), ck_pos (by simp)]
  have e : gt [v] 0 = v := rfl
  rw [e]
  by_cases h : -9007199254740992 ≤ v ∧ v ≤ 9007199254740992
  · rw [if_neg (by simp; omega), W_id (by omega) (by omega), money_in_L4, if_neg (by simp)]
    simp [money_in_j2, h]
  · rw [if_pos (by simp; omega), decide_eq_false h]
theorem min2_lt {x y z : Int} : min2 x y < z ↔ x < z ∨ y < z := by unfold min2; split <;> omega
theorem max2_lt {x y z : Int} : z < max2 x y ↔ z < x ∨ z < y := by unfold max2; split <;> omega
theorem money_Worth_eq (φ : Nat) (hφ : 5 < φ) (w b a l f : Int) : money_Worth φ w b a l f = some (worthOf w b a l f) := by
  unfold money_Worth worthOf
  by_cases hw : w < 0
  · rw [gcall_f (by simp; omega), Option.bind_some, if_pos (by simp [hw]), if_pos (show badWorth w b a l f from Or.inl hw)]
  rw [gcall_t (by simp; omega), money_in_one φ (by omega), Option.bind_some]
  have hc : ((((((decide (w < 0) || (!decide (-9007199254740992 ≤ w ∧ w ≤ 9007199254740992))) || decide ((min2 b a) < 0)) || decide (1073741824 < (max2 (max2 b a) l))) || decide (l < 1)) || decide (f < 0)) || decide (100 < f)) = true ↔ badWorth w b a l f := by
    simp only [Bool.or_eq_true, decide_eq_true_eq, Bool.not_eq_true', decide_eq_false_iff_not, min2_lt, max2_lt]
    unfold badWorth
    omega
  by_cases hb : badWorth w b a l f
  · rw [if_pos (hc.2 hb), if_pos hb]
  rw [if_neg (fun h => hb (hc.1 h)), if_neg hb]
  unfold badWorth at hb
  obtain ⟨e, l0, l1⟩ := least_eq (w := w) (f := f) (by omega) (by omega) (by omega) (by omega)
  rw [W_id (x := a - b) (by omega) (by omega)]
  by_cases h1 : a ≤ b
  · rw [if_pos (by simp; omega), if_pos h1]
  rw [if_neg (by simp; omega), if_neg h1]
  by_cases h2 : l ≤ a - b
  · rw [if_pos (by simp; omega), if_pos h2, e]
  rw [if_neg (by simp; omega), if_neg h2, U_id (x := w) (by omega) (by omega), U_id (x := a - b) (by omega) (by omega), U_id (x := l) (by omega) (by omega), Mul64_eq _ _ _ (by omega) (by omega) (by omega) (by omega), Option.bind_some]
  have hp := mul_bd (by omega : 0 ≤ w) (by omega : 0 ≤ a - b) (by omega : w ≤ 9007199254740992) (by omega : a - b ≤ 1073741824)
  have hlt : w * (a - b) / 18446744073709551616 < l := by
    have h3 : w * (a - b) ≤ 9007199254740992 * l := Int.mul_le_mul (by omega) (by omega) (by omega) (by omega)
    omega
  rw [Div64_eq φ hφ _ _ _ (by omega) hlt (by omega) (by omega) (by omega), Option.bind_some]
  have he : w * (a - b) / 18446744073709551616 * 18446744073709551616 + w * (a - b) % 18446744073709551616 = w * (a - b) := by omega
  have hq := mulDiv_bd (w := w) (a := a - b) (l := l) (by omega) (by omega) (by omega) (by omega)
  rw [he, e, W_id (x := w * (a - b) / l) (by omega) (by omega), W_id (by omega) (by omega)]
theorem MulDiv_loop (φ : Nat) {w a l : Int} (hw : 0 ≤ w) (hw' : w ≤ 9007199254740992) (ha : 0 ≤ a) (hal : a < l) (hl : l ≤ 1073741824) (k : Int → Int → Option (Int × Int)) :
    ∀ (i n : Nat) (q r : Int), i < n → i ≤ 54 → w / 2 ^ i * a = q * l + r → 0 ≤ r → r < l → ref07_MulDiv_L10 φ w a l k n q r ((i : Int) - 1) = k (w * a / l) (w * a % l) := by
  intro i
  induction i with
  | zero =>
    intro n q r hn _ hI h0 h1
    obtain ⟨m, rfl⟩ : ∃ m, n = m + 1 := ⟨n - 1, by omega⟩
    rw [ref07_MulDiv_L10, if_neg (by simp)]
    rw [show w / 2 ^ 0 = w by simp] at hI
    obtain ⟨e1, e2⟩ : w * a / l = q ∧ w * a % l = r := (Int.ediv_emod_unique (by omega)).2 ⟨by rw [hI, Int.mul_comm l]; omega, h0, h1⟩
    rw [e1, e2]
  | succ i ih =>
    intro n q r hn hi hI h0 h1
    obtain ⟨m, rfl⟩ : ∃ m, n = m + 1 := ⟨n - 1, by omega⟩
    have ei : ((i + 1 : Nat) : Int) - 1 = (i : Int) := by omega
    rw [ei, ref07_MulDiv_L10, if_pos (by simp), ck_pos (by omega)]
    have em : min ((i : Int)).toNat (IntKind.bits .i64) = i := by simp [IntKind.bits]; omega
    have hp : (0 : Int) < 2 ^ i := Int.pow_pos (by decide)
    rw [em, Int.fdiv_eq_ediv_of_nonneg _ (by omega)]
    have hm0 : 0 ≤ w / 2 ^ i := Int.ediv_nonneg hw (by omega)
    have hsplit : w / 2 ^ i / 2 = w / 2 ^ (i + 1) := by rw [Int.ediv_ediv_of_nonneg (by omega), Int.pow_succ]
    rw [← hsplit] at hI
    have hmw : w / 2 ^ i ≤ w := Int.ediv_le_self _ hw
    rw [Int.tmod_eq_emod_of_nonneg hm0]
    generalize w / 2 ^ i = z at *
    have hm' : 0 ≤ z / 2 ∧ z / 2 ≤ w := by omega
    have hq0 : 0 ≤ q := by
      rcases Int.lt_or_le q 0 with h | h
      · have h2 : q * l ≤ -1 * l := Int.mul_le_mul_of_nonneg_right (by omega) (by omega)
        have := Int.mul_nonneg hm'.1 ha
        omega
      · exact h
    have hq1 : q ≤ z / 2 := by
      refine Int.le_of_mul_le_mul_right (a := l) ?_ (by omega)
      have h2 : z / 2 * a ≤ z / 2 * l := Int.mul_le_mul_of_nonneg_left (by omega) hm'.1
      omega
    have step : ∀ c : Int, 0 ≤ c → c < 3 * l → z * a = 2 * q * l + c → ref07_MulDiv_j14 φ l q (i : Int) (ref07_MulDiv_L10 φ w a l k m) c = k (w * a / l) (w * a % l) := by
      intro c c0 c1 hc
      unfold ref07_MulDiv_j14
      have hd := Int.ediv_mul_add_emod c l
      have hd0 := Int.emod_nonneg c (by omega : l ≠ 0)
      have hd1 := Int.emod_lt_of_pos c (by omega : 0 < l)
      have hd2 : 0 ≤ c / l := Int.ediv_nonneg c0 (by omega)
      have hd3 : c / l < 3 := Int.ediv_lt_of_lt_mul (by omega) (by omega)
      rw [ck_pos (by omega), Int.tdiv_eq_ediv_of_nonneg c0, Int.tmod_eq_emod_of_nonneg c0, W_id (x := 2 * q) (by omega) (by omega), W_id (x := c / l) (by omega) (by omega), W_id (x := 2 * q + c / l) (by omega) (by omega), W_id (by omega) (by omega)]
      refine ih m _ _ (by omega) (by omega) ?_ hd0 hd1
      rw [hc, Int.add_mul]; omega
    have hza : z * a = 2 * (z / 2 * a) + (z % 2) * a := by
      conv => lhs; rw [show z = 2 * (z / 2) + z % 2 by omega]
      rw [Int.add_mul, Int.mul_assoc]
    rw [W_id (x := 2 * r) (by omega) (by omega), W_id (x := 2 * r + a) (by omega) (by omega)]
    have hq2 : 2 * (q * l) = 2 * q * l := by rw [Int.mul_assoc]
    by_cases hbit : z % 2 = 1
    · rw [if_pos (by simp [hbit])]
      exact step _ (by omega) (by omega) (by rw [hza, hI, hbit]; rw [Int.mul_add]; omega)
    · rw [if_neg (by simp [hbit])]
      have : z % 2 = 0 := by omega
      exact step _ (by omega) (by omega) (by rw [hza, hI, this]; rw [Int.mul_add]; omega)
theorem ref07_MulDiv_eq (φ : Nat) (hφ : 60 < φ) {w a l : Int} (hw : 0 ≤ w) (hw' : w ≤ 9007199254740992) (ha : 0 ≤ a) (hal : a < l) (hl : l ≤ 1073741824) : ref07_MulDiv φ w a l = some (w * a / l, w * a % l) := by
  unfold ref07_MulDiv
  have := MulDiv_loop φ hw hw' ha hal hl (ref07_MulDiv_j6 φ) 54 φ 0 0 (by omega) (by omega) (by rw [show w / 2 ^ 54 = 0 by omega]; simp) (by omega) (by omega)
  exact this
theorem ref07_Worth_eq (φ : Nat) (hφ : 60 < φ) (w b a l f : Int) : ref07_Worth φ w b a l f = some (worthOf w b a l f) := by
  unfold ref07_Worth worthOf
  have hc : (((((((((decide (w < 0) || decide (9007199254740992 < w)) || decide (b < 0)) || decide (1073741824 < b)) || decide (a < 0)) || decide (1073741824 < a)) || decide (l < 1)) || decide (1073741824 < l)) || decide (f < 0)) || decide (100 < f)) = true ↔ badWorth w b a l f := by
    simp only [Bool.or_eq_true, decide_eq_true_eq]
    unfold badWorth
    omega
  by_cases hb : badWorth w b a l f
  · rw [if_pos (hc.2 hb), if_pos hb]
  rw [if_neg (fun h => hb (hc.1 h)), if_neg hb]
  unfold badWorth at hb
  obtain ⟨e, l0, l1⟩ := least_eq (w := w) (f := f) (by omega) (by omega) (by omega) (by omega)
  have eL : ref07_Least φ w f = some (leastOf w f) := by unfold ref07_Least; rw [e]
  by_cases h1 : a ≤ b
  · rw [if_pos (by simp; omega), if_pos h1]
  rw [if_neg (by simp; omega), if_neg h1, W_id (x := a - b) (by omega) (by omega)]
  by_cases h2 : l ≤ a - b
  · rw [if_pos (by simp; omega), if_pos h2, eL, Option.bind_some]
  have hq := mulDiv_bd (w := w) (a := a - b) (l := l) (by omega) (by omega) (by omega) (by omega)
  rw [if_neg (by simp; omega), if_neg h2, eL, ref07_MulDiv_eq φ hφ (by omega) (by omega) (by omega) (by omega) (by omega), Option.bind_some, Option.bind_some, W_id (by omega) (by omega)]
/-- What Worth of a fleet answers. -/
def fworthOf (x : Fleet) (i a : Int) : Int × Int :=
  if chkFleet x ≠ 0 then (0, chkFleet x) else if ¬ (0 ≤ i ∧ i < x.fWagons.length) then (0, 90) else if ¬ (0 ≤ a ∧ a ≤ 1073741824) then (0, 1) else
  worthOf (gt x.fWagons i).fWorth (gt x.fWagons i).fBuilt a (gt x.fTypes (gt x.fWagons i).fType).fLife (gt x.fTypes (gt x.fWagons i).fType).fFloor
theorem fleet_Worth_eq (φ : Nat) (hφ : 5000 < φ) (x : Fleet) (i a : Int) : fleet_Worth φ x i a = some (fworthOf x i a) := by
  unfold fleet_Worth fworthOf
  rw [wagonOf_eq φ hφ]
  by_cases h : chkFleet x = 0
  · rw [if_neg (fun e : chkFleet x ≠ 0 => e h), if_neg (fun e : chkFleet x ≠ 0 => e h)]
    by_cases hi : 0 ≤ i ∧ i < x.fWagons.length
    · rw [if_pos hi, if_neg (fun e : ¬ (0 ≤ i ∧ i < (x.fWagons.length : Int)) => e hi), Option.bind_some, if_neg (by simp), fleet_between_eq, Option.bind_some]
      by_cases ha : 0 ≤ a ∧ a ≤ 1073741824
      · rw [if_neg (by simp [bet]; omega), if_neg (fun e : ¬ (0 ≤ a ∧ a ≤ 1073741824) => e ha), money_Worth_eq _ (by omega), Option.bind_some]
      · rw [if_pos (by simp [bet]; omega), if_pos ha]
    · rw [if_neg hi, if_pos (show ¬ (0 ≤ i ∧ i < (x.fWagons.length : Int)) from hi), Option.bind_some, if_pos (by simp)]
  · rw [if_pos (show chkFleet x ≠ 0 from h), if_pos (show chkFleet x ≠ 0 from h), Option.bind_some, if_pos (by simp [h])]
theorem ref09_Worth_eq (φ : Nat) (hφ : 5000 < φ) (x : Fleet) (i a : Int) : ref09_Worth φ x i a = some (fworthOf x i a) := by
  unfold ref09_Worth fworthOf
  rw [ref09_Check_eq φ hφ, Option.bind_some]
  by_cases h : chkFleet x = 0
  · obtain ⟨a1, a2, a3, a4, b1, b2, b3, b4⟩ := chkFleet_ok h
    rw [if_neg (by simp [h]), if_neg (fun e : chkFleet x ≠ 0 => e h), W_id (by omega) (by omega), ref09_within_eq, Option.bind_some]
    by_cases hi : 0 ≤ i ∧ i < x.fWagons.length
    · obtain ⟨t0, t1, _⟩ := type_mem h hi
      rw [if_neg (by simp [bet]; omega), if_neg (fun e : ¬ (0 ≤ i ∧ i < (x.fWagons.length : Int)) => e hi), ref09_within_eq, Option.bind_some]
      by_cases ha : 0 ≤ a ∧ a ≤ 1073741824
      · rw [if_neg (by simp [bet]; omega), if_neg (fun e : ¬ (0 ≤ a ∧ a ≤ 1073741824) => e ha), ck_pos hi, ck_pos ⟨t0, t1⟩, ref07_Worth_eq _ (by omega), Option.bind_some]
      · rw [if_pos (by simp [bet]; omega), if_pos ha]
    · rw [if_pos (by simp [bet]; omega), if_pos (show ¬ (0 ≤ i ∧ i < (x.fWagons.length : Int)) from hi)]
  · rw [if_pos (by simp [h]), if_pos (show chkFleet x ≠ 0 from h)]
end Px
