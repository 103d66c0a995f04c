/- The statement on loads: what was read out of it answers true. Conditions: none. -/
import Derived.Test.YtbfoamlmlbmmnaaRd
import Derived.Test.YtbfoamlmlbmmnaaRa
namespace Px
open Go
set_option linter.unusedVariables false
set_option linter.unusedSimpArgs false
set_option maxRecDepth 100000
theorem RI_i64 {n : Int} (h : RI .i64 n) : -9223372036854775808 ≤ n ∧ n ≤ 9223372036854775807 := by
  simp [RI, IntKind.min, IntKind.max, IntKind.signed, IntKind.bits] at h; omega
theorem fitsOf_0 {x : Fleet} {i c w : Int} (h : fitsOf x i c w = 0) : chkFleet x = 0 ∧ (0 ≤ i ∧ i < x.fWagons.length) ∧ (0 ≤ c ∧ c ≤ 63) ∧
    bitOf (gt x.fTypes (gt x.fWagons i).fType).fClasses c = true ∧ 0 ≤ w ∧ w ≤ (gt x.fTypes (gt x.fWagons i).fType).fLoad := by
  unfold fitsOf at h
  by_cases h1 : chkFleet x = 0
  · rw [if_neg (fun e : chkFleet x ≠ 0 => e h1)] at h
    by_cases h2 : 0 ≤ i ∧ i < (x.fWagons.length : Int)
    · rw [if_neg (fun e : ¬ (0 ≤ i ∧ i < (x.fWagons.length : Int)) => e h2)] at h
      split at h
      · rename_i h3; exact ⟨h1, h2, h3⟩
      · cases h
    · rw [if_pos (show ¬ (0 ≤ i ∧ i < (x.fWagons.length : Int)) from h2)] at h; cases h
  · rw [if_pos (show chkFleet x ≠ 0 from h1)] at h; exact absurd h h1
theorem fitsOf_ok {x : Fleet} {i c w : Int} (h1 : chkFleet x = 0) (h2 : 0 ≤ i ∧ i < x.fWagons.length) : fitsOf x i c w =
    if (0 ≤ c ∧ c ≤ 63) ∧ bitOf (gt x.fTypes (gt x.fWagons i).fType).fClasses c = true ∧ 0 ≤ w ∧ w ≤ (gt x.fTypes (gt x.fWagons i).fType).fLoad then 0 else 91 := by
  unfold fitsOf
  rw [if_neg (fun e : chkFleet x ≠ 0 => e h1), if_neg (fun e : ¬ (0 ≤ i ∧ i < (x.fWagons.length : Int)) => e h2)]
/-- Another set of classes leaves Check's answer. -/
theorem chk_set {x : Fleet} (h : chkFleet x = 0) (k : Int) (hk : 0 ≤ k ∧ k < x.fTypes.length) (t' : WagonType) (ht : okType t' = true) : chkFleet ⟨setAt x.fTypes k t', x.fWagons, x.fSwaps, x.fWashes⟩ = 0 := by
  obtain ⟨a1, a2, a3, a4, b1, b2, b3, b4⟩ := chkFleet_ok h
  unfold chkFleet
  have e1 : (setAt x.fTypes k t').length = x.fTypes.length := setAt_len _ _ _
  have e2 : (setAt x.fTypes k t').all okType = true := by
    rw [List.all_eq_true]
    intro t hm
    rcases List.mem_or_eq_of_mem_set hm with h | h
    · exact b1 t h
    · rw [h]; exact ht
  simp only [e1, e2, List.all_eq_true.2 b2, List.all_eq_true.2 b3, b4]
  have : (decide (32 < x.fTypes.length) || decide (4096 < x.fWagons.length) || decide (1024 < x.fSwaps.length) || decide (4096 < x.fWashes.length)) = false := by simp; omega
  rw [this]; rfl
theorem fleetLoads_true (x : Fleet) (i c w less : Int) (hx : RFleet x) (hi : RI .i64 i) (hc : RI .i64 c) (hw : RI .i64 w) (hl : RI .i64 less) : ∃ φ, law09_FleetLoads φ x i c w less = some true := by
  refine ⟨100000, ?_⟩
  unfold law09_FleetLoads
  rw [sane_true, Option.bind_some, if_neg (by simp)]
  obtain ⟨b, hb, _⟩ := law09_few_eq 100000 x
  rw [hb, Option.bind_some]
  cases b with
  | false => rw [gcall_f (by simp)]; rfl
  | true =>
    rw [gcall_t (by simp), fleet_Fits_eq _ (by omega) _ (cls_R hx), Option.bind_some]
    by_cases h : fitsOf x i c w ≠ 0
    · rw [if_pos (by simp [h])]
    replace h : fitsOf x i c w = 0 := Decidable.not_not.1 h
    obtain ⟨h1, h2, h3, h4, h5, h6⟩ := fitsOf_0 h
    obtain ⟨t0, t1, tm, _⟩ := type_mem h1 h2
    obtain ⟨a1, a2, a3, a4, b1, b2, b3, b4⟩ := chkFleet_ok h1
    have hok := b1 _ tm
    have hok' := hok
    simp only [okType, Bool.and_eq_true, bet_iff] at hok
    obtain ⟨c0, c1⟩ := cls_of (cls_R hx) h1 h2
    rw [if_neg (by simp [h]), if_neg (by simp; omega), ck_pos h2, ck_pos (fun _ => ⟨t0, t1⟩), ck_pos (fun _ => h3.1), ck_pos (fun _ => ⟨t0, t1⟩), bit_shr c0 c1 h3.1 h3.2, h4, if_neg (by simp; omega)]
    have eW : W (w + 1) = w + 1 := W_id (by omega) (by omega)
    have eU : U (w + 1) = w + 1 := U_id (by omega) (by omega)
    rw [ck_pos (by simp [fits]; omega), ck_pos (by simp; exact ⟨t0, t1⟩), ck_pos h3.1, eW, eU, ck_pos (by omega)]
    have hu : 0 ≤ U less := by rw [U_def]; omega
    have hm : (U less).tmod (w + 1) = U less % (w + 1) := Int.tmod_eq_emod_of_nonneg hu
    have hlt := Int.emod_lt_of_pos (U less) (by omega : 0 < w + 1)
    have hge := Int.emod_nonneg (U less) (by omega : w + 1 ≠ 0)
    rw [hm, W_id (by omega) (by omega), fleet_Fits_eq _ (by omega) _ (cls_R hx), Option.bind_some, fitsOf_ok h1 h2, if_pos ⟨h3, h4, by omega, by omega⟩, gcall_t (by decide),
      fleet_Fits_eq _ (by omega) _ (cls_R hx), Option.bind_some, fitsOf_ok h1 h2, if_neg (by omega), gcall_t (by decide)]
    simp only [List.nil_append]
    obtain ⟨x0, x1, x2⟩ := bit_xor c0 c1 h3.1 h3.2 _ rfl
    have hset := chk_set h1 (gt x.fWagons i).fType ⟨t0, t1⟩ (WagonType.mk (gt x.fTypes (gt x.fWagons i).fType).fLoad (gt x.fTypes (gt x.fWagons i).fType).fTare (gt x.fTypes (gt x.fWagons i).fType).fLength (gt x.fTypes (gt x.fWagons i).fType).fGauge
      (gt x.fTypes (gt x.fWagons i).fType).fBrake (U ((BitVec.ofInt (IntKind.bits .u64) (gt x.fTypes (gt x.fWagons i).fType).fClasses ^^^ BitVec.ofInt (IntKind.bits .u64) (U (1 * 2 ^ (min (c : Int).toNat (IntKind.bits .u64))))).toNat))
      (gt x.fTypes (gt x.fWagons i).fType).fLife (gt x.fTypes (gt x.fWagons i).fType).fFloor) (by simpa [okType] using hok')
    rw [fleet_Fits_eq _ (by omega) _ ?_, Option.bind_some, fitsOf_ok hset h2, if_neg ?_]
    · rfl
    · intro hh
      have h7 := hh.2.1
      rw [gt_setAt _ _ _ _ t0 t1 t0, if_pos rfl, x2, h4] at h7
      cases h7
    · intro t ht
      rcases List.mem_or_eq_of_mem_set ht with h | h
      · exact cls_R hx t h
      · rw [h]; exact ⟨x0, x1⟩
end Px
