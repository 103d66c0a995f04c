/- What Fits says of a fleet. Conditions: none. -/
import Derived.Test.YtbfoamlmlbmmnaaRc
import Derived.Test.YtbfoamlmlbmmnaaQo
namespace Px
open Go
set_option linter.unusedVariables false
set_option linter.unusedSimpArgs false
set_option maxRecDepth 100000
def bitOf (c k : Int) : Bool := c.toNat.testBit k.toNat
theorem ofInt_toNat {c : Int} (h : 0 ≤ c) (h' : c < 18446744073709551616) : (BitVec.ofInt 64 c).toNat = c.toNat := by
  rw [BitVec.toNat_ofInt]; omega
theorem U_nat {n : Nat} (h : n < 18446744073709551616) : U (n : Int) = n := U_id (by omega) (by omega)
theorem shl_one {k : Int} (h : 0 ≤ k) (h' : k ≤ 63) : U (1 * 2 ^ (min (k : Int).toNat (IntKind.bits .u64))) = ((2 ^ k.toNat : Nat) : Int) := by
  have e : min (k : Int).toNat (IntKind.bits .u64) = k.toNat := by simp [IntKind.bits]; omega
  have : (2 ^ k.toNat : Nat) < 18446744073709551616 := Nat.lt_of_lt_of_le (Nat.pow_lt_pow_right (by decide) (by omega : k.toNat < 64)) (by decide)
  rw [e, Int.one_mul]
  have e2 : ((2 : Int) ^ k.toNat) = ((2 ^ k.toNat : Nat) : Int) := by simp
  rw [e2, U_nat this]
theorem and_lt {a b : Nat} (h : a < 18446744073709551616) : a &&& b < 18446744073709551616 := Nat.lt_of_le_of_lt Nat.and_le_left h
theorem pow_lt64 {k : Nat} (h : k ≤ 63) : (2 ^ k : Nat) < 18446744073709551616 := Nat.lt_of_lt_of_le (Nat.pow_lt_pow_right (by decide) (by omega : k < 64)) (by decide)
theorem and_pow (n k : Nat) : n &&& 2 ^ k = if n.testBit k then 2 ^ k else 0 := by
  apply Nat.eq_of_testBit_eq
  intro i
  rw [Nat.testBit_and, Nat.testBit_two_pow]
  by_cases e : k = i
  · subst e
    cases h : n.testBit k
    · simp
    · simp
  · cases h : n.testBit k
    · simp [e]
    · simp [Nat.testBit_two_pow, e]
theorem bit_and {c k : Int} (h : 0 ≤ c) (h' : c < 18446744073709551616) (hk : 0 ≤ k) (hk' : k ≤ 63) :
    (U ((BitVec.ofInt (IntKind.bits .u64) c &&& BitVec.ofInt (IntKind.bits .u64) (U (1 * 2 ^ (min (k : Int).toNat (IntKind.bits .u64))))).toNat) == 0) = !bitOf c k := by
  rw [shl_one hk hk']
  show (U ((BitVec.ofInt 64 c &&& BitVec.ofInt 64 ((2 ^ k.toNat : Nat) : Int)).toNat : Int) == 0) = _
  have hp := pow_lt64 (k := k.toNat) (by omega)
  rw [BitVec.toNat_and, ofInt_toNat h h', ofInt_toNat (Int.natCast_nonneg _) (by omega), U_nat (and_lt (by omega)), Int.toNat_natCast, and_pow]
  unfold bitOf
  have := Nat.two_pow_pos k.toNat
  cases c.toNat.testBit k.toNat
  · simp
  · have h2 : (((2 ^ k.toNat : Nat) : Int) == 0) = false := beq_false_of_ne (by omega)
    simpa using h2
theorem shr_eq {c k : Int} (h : 0 ≤ c) (hk : 0 ≤ k) (hk' : k ≤ 63) : c.fdiv (2 ^ (min (k : Int).toNat (IntKind.bits .u64))) = ((c.toNat / 2 ^ k.toNat : Nat) : Int) := by
  have e : min (k : Int).toNat (IntKind.bits .u64) = k.toNat := by simp [IntKind.bits]; omega
  rw [e]
  have e2 : ((2 : Int) ^ k.toNat) = ((2 ^ k.toNat : Nat) : Int) := by simp
  rw [e2, Int.fdiv_eq_ediv_of_nonneg _ (Int.natCast_nonneg _)]
  have : c = (c.toNat : Int) := by omega
  rw [this]; simp
theorem bit_shr {c k : Int} (h : 0 ≤ c) (h' : c < 18446744073709551616) (hk : 0 ≤ k) (hk' : k ≤ 63) :
    (U ((BitVec.ofInt (IntKind.bits .u64) (c.fdiv (2 ^ (min (k : Int).toNat (IntKind.bits .u64)))) &&& BitVec.ofInt (IntKind.bits .u64) 1).toNat) == 0) = !bitOf c k := by
  rw [shr_eq h hk hk']
  show (U ((BitVec.ofInt 64 ((c.toNat / 2 ^ k.toNat : Nat) : Int) &&& BitVec.ofInt 64 1).toNat : Int) == 0) = _
  have hd : c.toNat / 2 ^ k.toNat ≤ c.toNat := Nat.div_le_self _ _
  rw [BitVec.toNat_and, ofInt_toNat (Int.natCast_nonneg _) (by omega), ofInt_toNat (by omega) (by omega), U_nat (and_lt (by omega)), Int.toNat_natCast]
  unfold bitOf
  rw [Nat.testBit_eq_decide_div_mod_eq]
  show (((c.toNat / 2 ^ k.toNat &&& 1 : Nat) : Int) == 0) = _
  rw [Nat.and_one_is_mod]
  have := Nat.mod_two_eq_zero_or_one (c.toNat / 2 ^ k.toNat)
  rcases this with e | e <;> rw [e] <;> simp
theorem bit_xor {c k : Int} (h : 0 ≤ c) (h' : c < 18446744073709551616) (hk : 0 ≤ k) (hk' : k ≤ 63) (c' : Int)
    (hc' : c' = U ((BitVec.ofInt (IntKind.bits .u64) c ^^^ BitVec.ofInt (IntKind.bits .u64) (U (1 * 2 ^ (min (k : Int).toNat (IntKind.bits .u64))))).toNat)) :
    0 ≤ c' ∧ c' < 18446744073709551616 ∧ bitOf c' k = !bitOf c k := by
  rw [shl_one hk hk'] at hc'
  replace hc' : c' = U ((BitVec.ofInt 64 c ^^^ BitVec.ofInt 64 ((2 ^ k.toNat : Nat) : Int)).toNat : Int) := hc'
  have hp := pow_lt64 (k := k.toNat) (by omega)
  have hlt := (BitVec.ofInt 64 c ^^^ BitVec.ofInt 64 ((2 ^ k.toNat : Nat) : Int)).isLt
  rw [U_nat (by omega)] at hc'
  subst hc'
  refine ⟨by omega, by omega, ?_⟩
  rw [BitVec.toNat_xor, ofInt_toNat h h', ofInt_toNat (Int.natCast_nonneg _) (by omega), Int.toNat_natCast]
  unfold bitOf
  rw [Int.toNat_natCast, Nat.testBit_xor, Nat.testBit_two_pow_self]
  simp
/-- What Fits answers. -/
def fitsOf (x : Fleet) (i c w : Int) : Int :=
  if chkFleet x ≠ 0 then chkFleet x else if ¬ (0 ≤ i ∧ i < x.fWagons.length) then 90 else
  if (0 ≤ c ∧ c ≤ 63) ∧ bitOf (gt x.fTypes (gt x.fWagons i).fType).fClasses c = true ∧ 0 ≤ w ∧ w ≤ (gt x.fTypes (gt x.fWagons i).fType).fLoad then 0 else 91
theorem type_mem {x : Fleet} (h : chkFleet x = 0) {i : Int} (hi : 0 ≤ i ∧ i < x.fWagons.length) :
    0 ≤ (gt x.fWagons i).fType ∧ (gt x.fWagons i).fType < x.fTypes.length ∧ gt x.fTypes (gt x.fWagons i).fType ∈ x.fTypes ∧ gt x.fWagons i ∈ x.fWagons := by
  obtain ⟨a1, a2, a3, a4, b1, b2, b3, b4⟩ := chkFleet_ok h
  have := b2 _ (gt_mem hi.1 hi.2)
  simp only [okWagon, Bool.and_eq_true, bet_iff] at this
  exact ⟨by omega, by omega, gt_mem (by omega) (by omega), gt_mem hi.1 hi.2⟩
theorem cls_of {x : Fleet} (hR : ∀ t ∈ x.fTypes, 0 ≤ t.fClasses ∧ t.fClasses < 18446744073709551616) (h : chkFleet x = 0) {i : Int} (hi : 0 ≤ i ∧ i < x.fWagons.length) :
    0 ≤ (gt x.fTypes (gt x.fWagons i).fType).fClasses ∧ (gt x.fTypes (gt x.fWagons i).fType).fClasses < 18446744073709551616 := hR _ (type_mem h hi).2.2.1
theorem fleet_Fits_eq (φ : Nat) (hφ : 5000 < φ) (x : Fleet) (hR : ∀ t ∈ x.fTypes, 0 ≤ t.fClasses ∧ t.fClasses < 18446744073709551616) (i c w : Int) : fleet_Fits φ x i c w = some (fitsOf x i c w) := by
  unfold fleet_Fits fitsOf
  rw [wagonOf_eq φ hφ]
  by_cases h : chkFleet x = 0
  · rw [if_neg (fun e : chkFleet x ≠ 0 => e h), if_neg (fun e : chkFleet x ≠ 0 => e h)]
    by_cases hi : 0 ≤ i ∧ i < x.fWagons.length
    · obtain ⟨c0, c1⟩ := cls_of hR h hi
      rw [if_pos hi, if_neg (fun e : ¬ (0 ≤ i ∧ i < (x.fWagons.length : Int)) => e hi), Option.bind_some]
      simp only [fleet_between_eq, Option.bind_some]
      rw [if_neg (by simp)]
      by_cases hc : 0 ≤ c ∧ c ≤ 63
      · have hb : bet c 0 63 = true := bet_iff.2 hc
        rw [hb, ck_pos (fun _ => hc.1), bit_and c0 c1 hc.1 hc.2]
        cases hbit : bitOf (gt x.fTypes (gt x.fWagons i).fType).fClasses c with
        | false =>
          rw [gcall_f (by simp), if_neg (by simp [hbit])]; rfl
        | true =>
          rw [gcall_t (by simp), Option.bind_some]
          by_cases hw : 0 ≤ w ∧ w ≤ (gt x.fTypes (gt x.fWagons i).fType).fLoad
          · have hb2 : bet w 0 (gt x.fTypes (gt x.fWagons i).fType).fLoad = true := bet_iff.2 hw
            rw [hb2, if_neg (by simp), if_pos ⟨hc, rfl, hw⟩]
          · have hb2 : bet w 0 (gt x.fTypes (gt x.fWagons i).fType).fLoad = false := by rw [← Bool.not_eq_true, bet_iff]; exact hw
            rw [hb2, if_pos (by simp), if_neg (by simp; omega)]
      · have hb : bet c 0 63 = false := by rw [← Bool.not_eq_true, bet_iff]; exact hc
        rw [hb, ck_pos (by simp), gcall_f (by simp), if_neg (by intro h; exact hc h.1)]; rfl
    · rw [if_neg hi, if_pos (show ¬ (0 ≤ i ∧ i < (x.fWagons.length : Int)) from hi), Option.bind_some, if_pos (by simp)]
  · rw [if_pos (show chkFleet x ≠ 0 from h), if_pos (show chkFleet x ≠ 0 from h), Option.bind_some, if_pos (by simp [h])]
theorem ref09_Fits_eq (φ : Nat) (hφ : 5000 < φ) (x : Fleet) (hR : ∀ t ∈ x.fTypes, 0 ≤ t.fClasses ∧ t.fClasses < 18446744073709551616) (i c w : Int) : ref09_Fits φ x i c w = some (fitsOf x i c w) := by
  unfold ref09_Fits fitsOf
  rw [ref09_Check_eq φ hφ, Option.bind_some]
  by_cases h : chkFleet x = 0
  · obtain ⟨a1, a2, a3, a4, b1, b2, b3, b4⟩ := chkFleet_ok h
    rw [if_neg (by simp [h]), if_neg (fun e : chkFleet x ≠ 0 => e h), W_id (by omega) (by omega), ref09_within_eq, Option.bind_some]
    by_cases hi : 0 ≤ i ∧ i < x.fWagons.length
    · obtain ⟨c0, c1⟩ := cls_of hR h hi
      obtain ⟨t0, t1, _⟩ := type_mem h hi
      rw [if_neg (by simp [bet]; omega), if_neg (fun e : ¬ (0 ≤ i ∧ i < (x.fWagons.length : Int)) => e hi), ck_pos hi, ck_pos ⟨t0, t1⟩]
      simp only [ref09_within_eq, Option.bind_some]
      by_cases hc : 0 ≤ c ∧ c ≤ 63
      · have hb : bet c 0 63 = true := bet_iff.2 hc
        rw [hb, ck_pos (fun _ => hc.1), bit_shr c0 c1 hc.1 hc.2]
        cases hbit : bitOf (gt x.fTypes (gt x.fWagons i).fType).fClasses c with
        | false =>
          rw [gcall_f (by simp), if_neg (by simp [hbit])]; rfl
        | true =>
          rw [gcall_t (by simp), Option.bind_some]
          by_cases hw : 0 ≤ w ∧ w ≤ (gt x.fTypes (gt x.fWagons i).fType).fLoad
          · have hb2 : bet w 0 (gt x.fTypes (gt x.fWagons i).fType).fLoad = true := bet_iff.2 hw
            rw [hb2, if_neg (by simp), if_pos ⟨hc, rfl, hw⟩]
          · have hb2 : bet w 0 (gt x.fTypes (gt x.fWagons i).fType).fLoad = false := by rw [← Bool.not_eq_true, bet_iff]; exact hw
            rw [hb2, if_pos (by simp), if_neg (by simp; omega)]
      · have hb : bet c 0 63 = false := by rw [← Bool.not_eq_true, bet_iff]; exact hc
        rw [hb, ck_pos (by simp), gcall_f (by simp), if_neg (by intro h; exact hc h.1)]; rfl
    · rw [if_pos (by simp [bet]; omega), if_pos (show ¬ (0 ≤ i ∧ i < (x.fWagons.length : Int)) from hi)]
  · rw [if_pos (by simp [h]), if_pos h]
theorem law09_few_eq (φ : Nat) (x : Fleet) : ∃ b, law09_few φ x = some b ∧ (chkFleet x = 0 → b = true → x.fWagons.length ≤ 64 ∧ x.fSwaps.length ≤ 200 ∧ x.fWashes.length ≤ 200) := by
  unfold law09_few
  split
  · rename_i hc
    refine ⟨true, rfl, fun h => ?_⟩
    obtain ⟨a1, a2, a3, a4, _⟩ := chkFleet_ok h
    simp at hc; omega
  · refine ⟨_, rfl, fun _ hb => ?_⟩
    simp at hb; omega
theorem cls_R {x : Fleet} (h : RFleet x) : ∀ t ∈ x.fTypes, 0 ≤ t.fClasses ∧ t.fClasses < 18446744073709551616 := by
  intro t ht
  obtain ⟨_, _, _, _, _, hc, _⟩ := h.1.1 t ht
  simp [RI, IntKind.min, IntKind.max, IntKind.signed, IntKind.bits] at hc
  omega
end Px
