/- A part of the proof of handoverPartition_holds. Conditions: none. -/
import Derived.Test.YteljjchaealkoaaPtf
section
namespace Px
open Go
set_option linter.unusedVariables false
set_option linter.unusedSimpArgs false
set_option maxRecDepth 100000
theorem lenTab_all : ((List.range 256).all fun i => decide (0 ≤ byteAt str_c0 i ∧ byteAt str_c0 i ≤ 8 ∧ i < 2 ^ (byteAt str_c0 i).toNat ∧ (0 < i → 0 < byteAt str_c0 i ∧ 2 ^ ((byteAt str_c0 i).toNat - 1) ≤ i))) = true := by decide +kernel
theorem lenTab_at {i : Int} (h : 0 ≤ i) (h' : i < 256) : ∃ n : Nat, byteAt str_c0 i = n ∧ n ≤ 8 ∧ i.toNat < 2 ^ n ∧ (0 < i → 0 < n ∧ 2 ^ (n - 1) ≤ i.toNat) := by
  have := List.all_eq_true.1 lenTab_all i.toNat (by simp; omega)
  rw [decide_eq_true_eq, show ((i.toNat : Nat) : Int) = i by omega] at this
  obtain ⟨a, b, c, d⟩ := this
  exact ⟨(byteAt str_c0 i).toNat, by omega, by omega, c, fun hi => ⟨by have := (d (by omega)).1; omega, (d (by omega)).2⟩⟩
/-- How many bits. -/
def IsLen (v : Nat) (n : Nat) : Prop := v < 2 ^ n ∧ (0 < v → 0 < n ∧ 2 ^ (n - 1) ≤ v)
theorem IsLen.up {v : Nat} (k : Nat) {n : Nat} (h : IsLen (v / 2 ^ k) n) (hv : 2 ^ k ≤ v) : IsLen v (n + k) := by
  have hp := Nat.two_pow_pos k
  have hpos : 0 < v / 2 ^ k := Nat.div_pos hv hp
  obtain ⟨h1, h2⟩ := h
  obtain ⟨h3, h4⟩ := h2 hpos
  refine ⟨?_, fun _ => ⟨by omega, ?_⟩⟩
  · rw [Nat.pow_add]; exact (Nat.div_lt_iff_lt_mul hp).1 h1
  · have : n + k - 1 = (n - 1) + k := by omega
    rw [this, Nat.pow_add]; exact (Nat.le_div_iff_mul_le hp).1 h4
theorem len_j10 (φ : Nat) (v w : Int) (h : 0 ≤ v) (h' : v < 256) (hw : 0 ≤ w) (hw' : w ≤ 64) : ∃ n : Nat, bits_Len64_j10 φ v w = some (w + n) ∧ n ≤ 8 ∧ IsLen v.toNat n := by
  obtain ⟨n, e, hn, a, b⟩ := lenTab_at h h'
  have e8 : IntKind.wrap .u8 v = v := by simp [IntKind.wrap, IntKind.bits, IntKind.signed]; omega
  refine ⟨n, ?_, hn, a, fun hv => b (by omega)⟩
  unfold bits_Len64_j10
  rw [e8, ck_pos ⟨h, h'⟩, e, W_id (x := (n : Int)) (by omega) (by omega), W_id (by omega) (by omega)]
theorem len_j7 (φ : Nat) (v w : Int) (h : 0 ≤ v) (h' : v < 65536) (hw : 0 ≤ w) (hw' : w ≤ 48) : ∃ n : Nat, bits_Len64_j7 φ v w = some (w + n) ∧ n ≤ 16 ∧ IsLen v.toNat n := by
  unfold bits_Len64_j7
  by_cases c : 256 ≤ v
  · rw [if_pos (by simpa using c), Int.fdiv_eq_ediv_of_nonneg _ (by omega), W_id (by omega) (by omega)]
    obtain ⟨n, e, hn, hl⟩ := len_j10 φ (v / 256) (w + 8) (by omega) (by omega) (by omega) (by omega)
    refine ⟨n + 8, by rw [e]; congr 1; omega, by omega, ?_⟩
    refine IsLen.up 8 ?_ (by omega)
    rwa [show v.toNat / 2 ^ 8 = (v / 256).toNat by omega]
  · rw [if_neg (by simpa using c)]
    obtain ⟨n, e, hn, hl⟩ := len_j10 φ v w h (by omega) (by omega) (by omega)
    exact ⟨n, e, by omega, hl⟩
theorem len_j4 (φ : Nat) (v w : Int) (h : 0 ≤ v) (h' : v < 4294967296) (hw : 0 ≤ w) (hw' : w ≤ 32) : ∃ n : Nat, bits_Len64_j4 φ v w = some (w + n) ∧ n ≤ 32 ∧ IsLen v.toNat n := by
  unfold bits_Len64_j4
  by_cases c : 65536 ≤ v
  · rw [if_pos (by simpa using c), Int.fdiv_eq_ediv_of_nonneg _ (by omega), W_id (by omega) (by omega)]
    obtain ⟨n, e, hn, hl⟩ := len_j7 φ (v / 65536) (w + 16) (by omega) (by omega) (by omega) (by omega)
    refine ⟨n + 16, by rw [e]; congr 1; omega, by omega, ?_⟩
    refine IsLen.up 16 ?_ (by omega)
    rwa [show v.toNat / 2 ^ 16 = (v / 65536).toNat by omega]
  · rw [if_neg (by simpa using c)]
    obtain ⟨n, e, hn, hl⟩ := len_j7 φ v w h (by omega) (by omega) (by omega)
    exact ⟨n, e, by omega, hl⟩
theorem Len64_eq (φ : Nat) (v : Int) (h : 0 ≤ v) (h' : v < 18446744073709551616) : ∃ n : Nat, bits_Len64 φ v = some (n : Int) ∧ n ≤ 64 ∧ IsLen v.toNat n := by
  unfold bits_Len64
  by_cases c : 4294967296 ≤ v
  · rw [if_pos (by simpa using c), Int.fdiv_eq_ediv_of_nonneg _ (by omega)]
    obtain ⟨n, e, hn, hl⟩ := len_j4 φ (v / 4294967296) 32 (by omega) (by omega) (by omega) (by omega)
    refine ⟨n + 32, by rw [e]; congr 1; omega, by omega, ?_⟩
    refine IsLen.up 32 ?_ (by omega)
    rwa [show v.toNat / 2 ^ 32 = (v / 4294967296).toNat by omega]
  · rw [if_neg (by simpa using c)]
    obtain ⟨n, e, hn, hl⟩ := len_j4 φ v 0 h (by omega) (by omega) (by omega)
    exact ⟨n, by rw [e]; simp, by omega, hl⟩
theorem mask_eq {v : Int} (h : 0 ≤ v) (h' : v < 18446744073709551616) : U ((BitVec.ofInt (IntKind.bits .u64) v &&& BitVec.ofInt (IntKind.bits .u64) 4294967295).toNat) = v % 4294967296 := by
  show U ((BitVec.ofInt 64 v &&& BitVec.ofInt 64 4294967295).toNat : Int) = _
  rw [BitVec.toNat_and, ofInt_toNat h h', ofInt_toNat (by omega) (by omega), U_nat (and_lt (by omega))]
  have : (4294967295 : Int).toNat = 2 ^ 32 - 1 := by decide
  rw [this, Nat.and_two_pow_sub_one_eq_mod]
  omega
theorem mul_bd {a b m n : Int} (ha : 0 ≤ a) (hb : 0 ≤ b) (h : a ≤ m) (h' : b ≤ n) : 0 ≤ a * b ∧ a * b ≤ m * n :=
  ⟨Int.mul_nonneg ha hb, Int.mul_le_mul h h' hb (by omega)⟩
theorem Mul64_eq (φ : Nat) (x y : Int) (hx : 0 ≤ x) (hx' : x < 18446744073709551616) (hy : 0 ≤ y) (hy' : y < 18446744073709551616) :
    bits_Mul64 φ x y = some (x * y / 18446744073709551616, x * y % 18446744073709551616) := by
  unfold bits_Mul64
  rw [mask_eq hx hx', mask_eq hy hy', Int.fdiv_eq_ediv_of_nonneg _ (by omega), Int.fdiv_eq_ediv_of_nonneg _ (by omega)]
  have ex : x = x / 4294967296 * 4294967296 + x % 4294967296 := by omega
  have ey : y = y / 4294967296 * 4294967296 + y % 4294967296 := by omega
  have a1 : 0 ≤ x / 4294967296 ∧ x / 4294967296 ≤ 4294967295 := by omega
  have a0 : 0 ≤ x % 4294967296 ∧ x % 4294967296 ≤ 4294967295 := by omega
  have b1 : 0 ≤ y / 4294967296 ∧ y / 4294967296 ≤ 4294967295 := by omega
  have b0 : 0 ≤ y % 4294967296 ∧ y % 4294967296 ≤ 4294967295 := by omega
  have hxy : x * y = (x / 4294967296) * (y / 4294967296) * 18446744073709551616 + ((x / 4294967296) * (y % 4294967296) + (x % 4294967296) * (y / 4294967296)) * 4294967296 + (x % 4294967296) * (y % 4294967296) := by
    conv => lhs; rw [ex, ey]
    generalize x / 4294967296 = a; generalize x % 4294967296 = b; generalize y / 4294967296 = c; generalize y % 4294967296 = d
    rw [Int.add_mul, Int.mul_add, Int.mul_add, Int.add_mul]
    have e1 : a * 4294967296 * (c * 4294967296) = a * c * 18446744073709551616 := by
      rw [Int.mul_assoc, Int.mul_left_comm 4294967296 c, ← Int.mul_assoc]; rfl
    have e2 : a * 4294967296 * d = a * d * 4294967296 := by rw [Int.mul_right_comm]
    have e3 : b * (c * 4294967296) = b * c * 4294967296 := by rw [Int.mul_assoc]
    rw [e1, e2, e3]; omega
  have p11 := mul_bd a1.1 b1.1 a1.2 b1.2
  have p10 := mul_bd a1.1 b0.1 a1.2 b0.2
  have p01 := mul_bd a0.1 b1.1 a0.2 b1.2
  have p00 := mul_bd a0.1 b0.1 a0.2 b0.2
  rw [U_def (x * y), hxy]
  generalize (x / 4294967296) * (y / 4294967296) = p at *; generalize (x / 4294967296) * (y % 4294967296) = q at *
  generalize (x % 4294967296) * (y / 4294967296) = r at *; generalize (x % 4294967296) * (y % 4294967296) = s at *
  clear hxy ex ey a1 a0 b1 b0
  rw [U_id (x := p) (by omega) (by omega), U_id (x := q) (by omega) (by omega), U_id (x := r) (by omega) (by omega), U_id (x := s) (by omega) (by omega)]
  rw [Int.fdiv_eq_ediv_of_nonneg s (by omega), U_id (x := q + s / 4294967296) (by omega) (by omega), mask_eq (by omega) (by omega), Int.fdiv_eq_ediv_of_nonneg (q + s / 4294967296) (by omega),
    U_id (x := (q + s / 4294967296) % 4294967296 + r) (by omega) (by omega), Int.fdiv_eq_ediv_of_nonneg ((q + s / 4294967296) % 4294967296 + r) (by omega),
    U_id (x := p + (q + s / 4294967296) / 4294967296) (by omega) (by omega), U_id (by omega) (by omega)]
  congr 2
  omega
/-- One digit of the quotient: what the two loops find. -/
theorem digit {yn1 yn0 u d q r : Int} (h1 : 2147483648 ≤ yn1) (h1' : yn1 < 4294967296) (h0 : 0 ≤ yn0) (h0' : yn0 < 4294967296) (hd : 0 ≤ d) (hd' : d < 4294967296) (hu : 0 ≤ u)
    (hu' : u < yn1 * 4294967296 + yn0) (hqr : q * yn1 + r = u) (hr : 0 ≤ r) (hr' : r < 4294967296) (hq : (u * 4294967296 + d) / (yn1 * 4294967296 + yn0) ≤ q) :
    0 ≤ q ∧ q ≤ 4294967297 ∧ 0 ≤ (u * 4294967296 + d) / (yn1 * 4294967296 + yn0) ∧ (u * 4294967296 + d) / (yn1 * 4294967296 + yn0) < 4294967296 ∧
    (4294967296 ≤ q ∨ 4294967296 * r + d < q * yn0 → (u * 4294967296 + d) / (yn1 * 4294967296 + yn0) ≤ q - 1) ∧
    (¬ (4294967296 ≤ q ∨ 4294967296 * r + d < q * yn0) → q = (u * 4294967296 + d) / (yn1 * 4294967296 + yn0)) ∧
    (4294967296 ≤ q ∨ 4294967296 * r + d < q * yn0 → 4294967296 ≤ r + yn1 → q - 1 = (u * 4294967296 + d) / (yn1 * 4294967296 + yn0)) := by
  have hY : 0 < yn1 * 4294967296 + yn0 := by omega
  have hQ0 : 0 ≤ (u * 4294967296 + d) / (yn1 * 4294967296 + yn0) := Int.ediv_nonneg (by omega) (by omega)
  have hQ1 : (u * 4294967296 + d) / (yn1 * 4294967296 + yn0) < 4294967296 := Int.ediv_lt_of_lt_mul hY (by omega)
  have hq0 : 0 ≤ q := by omega
  have key : q * (yn1 * 4294967296 + yn0) = (u - r) * 4294967296 + q * yn0 := by
    rw [Int.mul_add, ← Int.mul_assoc, ← hqr]; omega
  have hq2 : q ≤ 4294967297 := by
    rcases Int.lt_or_le 4294967297 q with h | h
    · have : 4294967298 * yn1 ≤ q * yn1 := Int.mul_le_mul_of_nonneg_right (by omega) (by omega)
      omega
    · exact h
  have lt_of : ∀ {z : Int}, (u * 4294967296 + d) / (yn1 * 4294967296 + yn0) < z ↔ u * 4294967296 + d < z * (yn1 * 4294967296 + yn0) := fun {z} => Int.ediv_lt_iff_lt_mul hY
  refine ⟨hq0, hq2, hQ0, hQ1, fun h => ?_, fun h => ?_, fun h hr2 => ?_⟩
  · have : (u * 4294967296 + d) / (yn1 * 4294967296 + yn0) < q := by
      rcases h with h | h
      · omega
      · rw [lt_of, key]; omega
    omega
  · have : ¬ (u * 4294967296 + d) / (yn1 * 4294967296 + yn0) < q := by rw [lt_of, key]; omega
    omega
  · have hq1 : (u * 4294967296 + d) / (yn1 * 4294967296 + yn0) < q := by
      rcases h with h | h
      · omega
      · rw [lt_of, key]; omega
    have h2 : ¬ (u * 4294967296 + d) / (yn1 * 4294967296 + yn0) < q - 1 := by
      rw [lt_of]
      have e : (q - 1) * (yn1 * 4294967296 + yn0) = (u - (r + yn1)) * 4294967296 + (q - 1) * yn0 := by
        have : (q - 1) * yn1 + (r + yn1) = u := by rw [Int.sub_mul]; omega
        rw [Int.mul_add, ← Int.mul_assoc, ← this]; omega
      have b := (mul_bd (by omega : 0 ≤ q - 1) h0 (by omega : q - 1 ≤ 4294967296) (by omega : yn0 ≤ 4294967295)).2
      rw [e]; omega
    omega
theorem mulB {a b : Int} (h : 0 ≤ a) (h' : a < 4294967296) (g : 0 ≤ b) (g' : b < 4294967296) : 0 ≤ a * b ∧ a * b ≤ 18446744065119617025 :=
  mul_bd h g (by omega : a ≤ 4294967295) (by omega : b ≤ 4294967295)
theorem digit_loop {ρ : Type} (L : Nat → Int → Int → Option ρ) (k : Int → Option ρ) {yn1 yn0 u d : Int} (h1 : 2147483648 ≤ yn1) (h1' : yn1 < 4294967296) (h0 : 0 ≤ yn0) (h0' : yn0 < 4294967296) (hd : 0 ≤ d) (hd' : d < 4294967296) (hu : 0 ≤ u)
    (hu' : u < yn1 * 4294967296 + yn0)
    (step : ∀ n q r, L (n + 1) q r = if (decide (4294967296 ≤ q) || decide (U (U (4294967296 * r) + d) < U (q * yn0))) = true then (if decide (4294967296 ≤ U (r + yn1)) = true then k (U (q - 1)) else L n (U (q - 1)) (U (r + yn1))) else k q) :
    ∀ (n : Nat) q r, q * yn1 + r = u → 0 ≤ r → r < 4294967296 → (u * 4294967296 + d) / (yn1 * 4294967296 + yn0) ≤ q → 4294967296 - r ≤ 2147483648 * n → L (n + 1) q r = k ((u * 4294967296 + d) / (yn1 * 4294967296 + yn0)) := by
  intro n
  induction n with
  | zero => intro q r _ _ _ _ h; omega
  | succ n ih =>
    intro q r hqr hr hr' hq hn
    obtain ⟨g0, g1, g2, g3, g4, g5, g6⟩ := digit h1 h1' h0 h0' hd hd' hu hu' hqr hr hr' hq
    have hc : (decide (4294967296 ≤ q) || decide (U (U (4294967296 * r) + d) < U (q * yn0))) = true ↔ (4294967296 ≤ q ∨ 4294967296 * r + d < q * yn0) := by
      rw [Bool.or_eq_true, decide_eq_true_eq, decide_eq_true_eq]
      by_cases hqB : 4294967296 ≤ q
      · simp [hqB]
      · have := mulB g0 (by omega : q < 4294967296) h0 h0'
        rw [U_id (x := 4294967296 * r) (by omega) (by omega), U_id (by omega) (by omega), U_id (by omega) (by omega)]
    rw [step]
    by_cases c : 4294967296 ≤ q ∨ 4294967296 * r + d < q * yn0
    · have a4 := g4 c
      rw [if_pos (hc.2 c), U_id (x := r + yn1) (by omega) (by omega), U_id (x := q - 1) (by omega) (by omega)]
      by_cases e : 4294967296 ≤ r + yn1
      · rw [if_pos (by simpa using e), g6 c e]
      · rw [if_neg (by simpa using e)]
        exact ih _ _ (by rw [Int.sub_mul]; omega) (by omega) (by omega) a4 (by omega)
    · rw [if_neg (fun h => c (hc.1 h)), ← g5 c]
/-- The first guess. -/
theorem digit_start {yn1 yn0 u d : Int} (h1 : 2147483648 ≤ yn1) (h1' : yn1 < 4294967296) (h0 : 0 ≤ yn0) (h0' : yn0 < 4294967296) (hd : 0 ≤ d) (hd' : d < 4294967296) (hu : 0 ≤ u)
    (hu' : u < yn1 * 4294967296 + yn0) : U (u.tdiv yn1) = u / yn1 ∧ U (u - U (U (u.tdiv yn1) * yn1)) = u % yn1 ∧ u / yn1 * yn1 + u % yn1 = u ∧ 0 ≤ u % yn1 ∧ u % yn1 < 4294967296 ∧
    (u * 4294967296 + d) / (yn1 * 4294967296 + yn0) ≤ u / yn1 := by
  have e1 : u.tdiv yn1 = u / yn1 := Int.tdiv_eq_ediv_of_nonneg hu
  have hdm : u / yn1 * yn1 + u % yn1 = u := by have := Int.ediv_mul_add_emod u yn1; exact this
  have hm0 := Int.emod_nonneg u (by omega : yn1 ≠ 0)
  have hm1 := Int.emod_lt_of_pos u (by omega : 0 < yn1)
  have hq0 : 0 ≤ u / yn1 := Int.ediv_nonneg hu (by omega)
  have hq1 : u / yn1 ≤ u := Int.ediv_le_self _ hu
  have hqm : 0 ≤ u / yn1 * yn1 := Int.mul_nonneg hq0 (by omega)
  rw [e1, U_id hq0 (by omega), U_id (x := u / yn1 * yn1) (by omega) (by omega), U_id (by omega) (by omega)]
  refine ⟨rfl, by omega, hdm, hm0, by omega, ?_⟩
  have hY : 0 < yn1 * 4294967296 + yn0 := by omega
  have hQ0 : 0 ≤ (u * 4294967296 + d) / (yn1 * 4294967296 + yn0) := Int.ediv_nonneg (by omega) (by omega)
  have hQ := Int.ediv_mul_le (u * 4294967296 + d) (b := yn1 * 4294967296 + yn0) (by omega)
  generalize (u * 4294967296 + d) / (yn1 * 4294967296 + yn0) = z at *
  rw [Int.mul_add, ← Int.mul_assoc] at hQ
  have := Int.mul_nonneg hQ0 h0
  exact (Int.le_ediv_iff_mul_le (by omega)).2 (by omega)
theorem sub_UU (a b c : Int) : U (U (U a + b) - U c) = U (a + b - c) := by
  simp only [U_def]; omega
theorem or_add {a b : Int} {s : Nat} (hs : s ≤ 63) (ha : 0 ≤ a) (h : a * 2 ^ s < 18446744073709551616) (hb : 0 ≤ b) (hb' : b < 2 ^ s) :
    U ((BitVec.ofInt (IntKind.bits .u64) (U (a * 2 ^ s)) ||| BitVec.ofInt (IntKind.bits .u64) b).toNat) = a * 2 ^ s + b := by
  have hp : (0 : Int) < 2 ^ s := Int.pow_pos (by decide)
  have hn := Int.mul_nonneg ha (Int.le_of_lt hp)
  have hp2 : (2 : Int) ^ s = ((2 ^ s : Nat) : Int) := by simp
  have hlt : (2 ^ s : Nat) < 18446744073709551616 := pow_lt64 hs
  rw [U_id hn (by omega)]
  show U ((BitVec.ofInt 64 (a * 2 ^ s) ||| BitVec.ofInt 64 b).toNat : Int) = _
  have hlt2 := (BitVec.ofInt 64 (a * 2 ^ s) ||| BitVec.ofInt 64 b).isLt
  rw [U_nat (by omega), BitVec.toNat_or, ofInt_toNat hn h, ofInt_toNat hb (by omega)]
  obtain ⟨n, rfl⟩ := Int.eq_ofNat_of_zero_le ha
  obtain ⟨m, rfl⟩ := Int.eq_ofNat_of_zero_le hb
  have e : ((n : Int) * 2 ^ s).toNat = 2 ^ s * n := by rw [hp2, ← Int.natCast_mul, Int.toNat_natCast, Nat.mul_comm]
  rw [e, Int.toNat_natCast, ← Nat.two_pow_add_eq_or_of_lt (by rw [hp2] at hb'; omega)]
  simp [Int.mul_comm]
theorem LeadingZeros64_eq (φ : Nat) (v : Int) (h : 0 < v) (h' : v < 18446744073709551616) : ∃ s : Nat, bits_LeadingZeros64 φ v = some (s : Int) ∧ s ≤ 63 ∧
    9223372036854775808 ≤ v * 2 ^ s ∧ v * 2 ^ s < 18446744073709551616 ∧ v ≤ 2 ^ (64 - s) := by
  obtain ⟨n, e, hn, h1, h2⟩ := Len64_eq φ v (by omega) h'
  obtain ⟨h3, h4⟩ := h2 (by omega)
  refine ⟨64 - n, ?_, by omega, ?_, ?_, ?_⟩
  · unfold bits_LeadingZeros64
    rw [e, Option.bind_some, W_id (by omega) (by omega)]
    congr 1; omega
  · have : 2 ^ (n - 1) * 2 ^ (64 - n) ≤ v.toNat * 2 ^ (64 - n) := Nat.mul_le_mul_right _ h4
    rw [← Nat.pow_add, show n - 1 + (64 - n) = 63 by omega] at this
    have e2 : ((v.toNat * 2 ^ (64 - n) : Nat) : Int) = v * 2 ^ (64 - n) := by
      rw [Int.natCast_mul, Int.natCast_pow]; congr 1; omega
    omega
  · have : v.toNat * 2 ^ (64 - n) < 2 ^ n * 2 ^ (64 - n) := Nat.mul_lt_mul_of_pos_right h1 (Nat.two_pow_pos _)
    rw [← Nat.pow_add, show n + (64 - n) = 64 by omega] at this
    have e2 : ((v.toNat * 2 ^ (64 - n) : Nat) : Int) = v * 2 ^ (64 - n) := by
      rw [Int.natCast_mul, Int.natCast_pow]; congr 1; omega
    omega
  · rw [show 64 - (64 - n) = n by omega]
    have e2 : ((2 ^ n : Nat) : Int) = (2 : Int) ^ n := by simp
    omega
theorem Div64_eq (φ : Nat) (hφ : 5 < φ) (hi lo y : Int) (h0 : 0 ≤ hi) (hy : hi < y) (hy' : y < 18446744073709551616) (hl : 0 ≤ lo) (hl' : lo < 18446744073709551616) :
    bits_Div64 φ hi lo y = some ((hi * 18446744073709551616 + lo) / y, (hi * 18446744073709551616 + lo) % y) := by
  unfold bits_Div64
  rw [if_neg (by simp; omega), if_neg (by simp; omega)]
  by_cases hz : hi = 0
  · subst hz
    rw [if_pos (by simp), ck_pos (by omega), Int.tdiv_eq_ediv_of_nonneg hl, Int.tmod_eq_emod_of_nonneg hl, U_id (Int.ediv_nonneg hl (by omega)) (by have := Int.ediv_le_self y hl; omega)]
    simp
  rw [if_neg (by simpa using hz)]
  obtain ⟨s, es, hs, hY1, hY2, hyP⟩ := LeadingZeros64_eq φ y (by omega) hy'
  rw [es, Option.bind_some, U_id (x := (s : Int)) (by omega) (by omega), ck_pos (by omega), U_id (x := 64 - (s : Int)) (by omega) (by omega), ck_pos (by omega)]
  have em1 : min (s : Int).toNat (IntKind.bits .u64) = s := by simp [IntKind.bits]; omega
  have em2 : min (64 - (s : Int)).toNat (IntKind.bits .u64) = 64 - s := by simp [IntKind.bits]
  rw [em1, em2]
  have hp : (0 : Int) < 2 ^ s := Int.pow_pos (by decide)
  have hP : (0 : Int) < 2 ^ (64 - s) := Int.pow_pos (by decide)
  have hpP : (2 : Int) ^ s * 2 ^ (64 - s) = 18446744073709551616 := by rw [← Int.pow_add, show s + (64 - s) = 64 by omega]; rfl
  have hhp : hi * 2 ^ s < y * 2 ^ s := Int.mul_lt_mul_of_pos_right hy hp
  have hlP0 : 0 ≤ lo / 2 ^ (64 - s) := Int.ediv_nonneg hl (by omega)
  have hlP1 : lo / 2 ^ (64 - s) < 2 ^ s := Int.ediv_lt_of_lt_mul hP (by omega)
  have hh0 : 0 ≤ hi * 2 ^ s := Int.mul_nonneg h0 (by omega)
  -- the low word
  have hlo10 : U (lo * 2 ^ s) = lo % 2 ^ (64 - s) * 2 ^ s := by
    have e : lo = lo / 2 ^ (64 - s) * 2 ^ (64 - s) + lo % 2 ^ (64 - s) := (Int.ediv_mul_add_emod lo _).symm
    have e2 : lo * 2 ^ s = lo / 2 ^ (64 - s) * 18446744073709551616 + lo % 2 ^ (64 - s) * 2 ^ s := by
      conv => lhs; rw [e]
      rw [Int.add_mul, Int.mul_assoc, Int.mul_comm (2 ^ (64 - s)), hpP]
    have m0 := Int.emod_nonneg lo (by omega : (2 : Int) ^ (64 - s) ≠ 0)
    have m1 := Int.emod_lt_of_pos lo hP
    have m2 : lo % 2 ^ (64 - s) * 2 ^ s < 2 ^ (64 - s) * 2 ^ s := Int.mul_lt_mul_of_pos_right m1 hp
    have m3 := Int.mul_nonneg m0 (Int.le_of_lt hp)
    rw [Int.mul_comm (2 ^ (64 - s))] at m2
    rw [e2, U_def]; omega
  have hN : (hi * 2 ^ s + lo / 2 ^ (64 - s)) * 18446744073709551616 + lo % 2 ^ (64 - s) * 2 ^ s = (hi * 18446744073709551616 + lo) * 2 ^ s := by
    have e : lo = lo / 2 ^ (64 - s) * 2 ^ (64 - s) + lo % 2 ^ (64 - s) := (Int.ediv_mul_add_emod lo _).symm
    have e2 : lo * 2 ^ s = lo / 2 ^ (64 - s) * 18446744073709551616 + lo % 2 ^ (64 - s) * 2 ^ s := by
      conv => lhs; rw [e]
      rw [Int.add_mul, Int.mul_assoc, Int.mul_comm (2 ^ (64 - s)), hpP]
    have e3 : (hi * 18446744073709551616 + lo) * 2 ^ s = hi * 2 ^ s * 18446744073709551616 + lo * 2 ^ s := by rw [Int.add_mul, Int.mul_right_comm]
    rw [e3, e2]; omega
  have hun0 : 0 ≤ lo % 2 ^ (64 - s) * 2 ^ s := Int.mul_nonneg (Int.emod_nonneg lo (by omega)) (by omega)
  have hun1 : lo % 2 ^ (64 - s) * 2 ^ s < 18446744073709551616 := by
    rw [← hlo10, U_def]; omega
  have hu' : hi * 2 ^ s + lo / 2 ^ (64 - s) < y * 2 ^ s := by
    have : (hi + 1) * 2 ^ s ≤ y * 2 ^ s := Int.mul_le_mul_of_nonneg_right (by omega) (by omega)
    rw [Int.add_mul] at this; omega
  have hs1 : U (s : Int) = s := U_id (by omega) (by omega)
  have hs2 : U (64 - (s : Int)) = 64 - (s : Int) := U_id (by omega) (by omega)
  have ef : lo.fdiv (2 ^ (64 - s)) = lo / 2 ^ (64 - s) := Int.fdiv_eq_ediv_of_nonneg _ (by omega)
  have eor := or_add hs h0 (by omega : hi * 2 ^ s < 18446744073709551616) hlP0 hlP1
  obtain ⟨Y, hYd⟩ : ∃ Y, Y = y * 2 ^ s := ⟨_, rfl⟩
  have eY : U (y * 2 ^ s) = Y := by rw [hYd]; exact U_id (by omega) (by omega)
  obtain ⟨u, hud⟩ : ∃ u, u = hi * 2 ^ s + lo / 2 ^ (64 - s) := ⟨_, rfl⟩
  obtain ⟨w, hwd⟩ : ∃ w, w = lo % 2 ^ (64 - s) * 2 ^ s := ⟨_, rfl⟩
  rw [← hwd] at hlo10 hN hun0 hun1
  rw [← hud] at hN hu' eor
  rw [← hYd] at hu' hY1 hY2 hhp
  have hu0 : 0 ≤ u := by omega
  have fY : Y.fdiv 4294967296 = Y / 4294967296 := Int.fdiv_eq_ediv_of_nonneg _ (by omega)
  have fw : w.fdiv 4294967296 = w / 4294967296 := Int.fdiv_eq_ediv_of_nonneg _ (by omega)
  have mY := mask_eq (v := Y) (by omega) (by omega)
  have mw := mask_eq (v := w) (by omega) (by omega)
  have b1 : 2147483648 ≤ Y / 4294967296 ∧ Y / 4294967296 < 4294967296 ∧ 0 ≤ Y % 4294967296 ∧ Y % 4294967296 < 4294967296 := by omega
  have b2 : 0 ≤ w / 4294967296 ∧ w / 4294967296 < 4294967296 ∧ 0 ≤ w % 4294967296 ∧ w % 4294967296 < 4294967296 := by omega
  have eYs : Y / 4294967296 * 4294967296 + Y % 4294967296 = Y := by omega
  have stepA : ∀ (K : Int → Option (Int × Int)) n q r, bits_Div64_L34 φ lo y s K (n + 1) q r = if (decide (4294967296 ≤ q) || decide (U (U (4294967296 * r) + w / 4294967296) < U (q * (Y % 4294967296)))) = true then
      (if decide (4294967296 ≤ U (r + Y / 4294967296)) = true then K (U (q - 1)) else bits_Div64_L34 φ lo y s K n (U (q - 1)) (U (r + Y / 4294967296))) else K q := by
    intro K n q r
    rw [bits_Div64_L34]
    simp only [hs1, hs2, em1, em2, eY, hlo10, fY, fw, mY, mw]
  have stepB : ∀ (K : Int → Option (Int × Int)) n q r, bits_Div64_L20 φ lo y s K (n + 1) r q = if (decide (4294967296 ≤ q) || decide (U (U (4294967296 * r) + w % 4294967296) < U (q * (Y % 4294967296)))) = true then
      (if decide (4294967296 ≤ U (r + Y / 4294967296)) = true then K (U (q - 1)) else bits_Div64_L20 φ lo y s K n (U (r + Y / 4294967296)) (U (q - 1))) else K q := by
    intro K n q r
    rw [bits_Div64_L20]
    simp only [hs1, hs2, em1, em2, eY, hlo10, fY, fw, mY, mw]
  obtain ⟨m, rfl⟩ : ∃ m, φ = m + 3 := ⟨φ - 3, by omega⟩
  rw [ef, eor, eY, fY, ck_pos (by omega)]
  obtain ⟨i1, i2, i3, i4, i5, i6⟩ := digit_start (u := u) (d := w / 4294967296) b1.1 b1.2.1 b1.2.2.1 b1.2.2.2 b2.1 b2.2.1 hu0 (by omega)
  rw [i1] at i2 ⊢
  rw [i2, digit_loop (bits_Div64_L34 (m + 3) lo y s _) _ b1.1 b1.2.1 b1.2.2.1 b1.2.2.2 b2.1 b2.2.1 hu0 (by omega) (stepA _) (m + 2) _ _ i3 i4 i5 i6 (by omega)]
  rw [eYs]
  unfold bits_Div64_j13
  simp only [hs1, hs2, em1, em2, eY, hlo10, fY, fw, ef, eor]
  rw [ck_pos (by omega)]
  have hQ1 : 0 ≤ (u * 4294967296 + w / 4294967296) / Y ∧ (u * 4294967296 + w / 4294967296) / Y < 4294967296 := ⟨Int.ediv_nonneg (by omega) (by omega), Int.ediv_lt_of_lt_mul (by omega) (by omega)⟩
  have hR1 := Int.ediv_mul_add_emod (u * 4294967296 + w / 4294967296) Y
  have hR1a := Int.emod_nonneg (u * 4294967296 + w / 4294967296) (by omega : Y ≠ 0)
  have hR1b := Int.emod_lt_of_pos (u * 4294967296 + w / 4294967296) (by omega : 0 < Y)
  generalize (u * 4294967296 + w / 4294967296) / Y = q1 at *
  generalize (u * 4294967296 + w / 4294967296) % Y = r1 at *
  have eu21 : U (U (U (u * 4294967296) + w / 4294967296) - U (q1 * Y)) = r1 := by
    rw [sub_UU, show u * 4294967296 + w / 4294967296 - q1 * Y = r1 by omega]; exact U_id hR1a (by omega)
  rw [eu21]
  obtain ⟨j1, j2, j3, j4, j5, j6⟩ := digit_start (u := r1) (d := w % 4294967296) b1.1 b1.2.1 b1.2.2.1 b1.2.2.2 b2.2.2.1 b2.2.2.2 hR1a (by omega)
  rw [j1] at j2 ⊢
  rw [j2]
  refine (digit_loop (fun n q r => bits_Div64_L20 (m + 3) lo y s _ n r q) _ b1.1 b1.2.1 b1.2.2.1 b1.2.2.2 b2.2.2.1 b2.2.2.2 hR1a (by omega) (fun n q r => stepB _ n q r) (m + 2) _ _ j3 j4 j5 j6 (by omega)).trans ?_
  rw [eYs]
  unfold bits_Div64_j16
  simp only [hs1, hs2, em1, em2, eY, hlo10, fY, fw, mw, ef, eor, eu21]
  rw [ck_pos (by omega)]
  have hQ0 : 0 ≤ (r1 * 4294967296 + w % 4294967296) / Y ∧ (r1 * 4294967296 + w % 4294967296) / Y < 4294967296 := ⟨Int.ediv_nonneg (by omega) (by omega), Int.ediv_lt_of_lt_mul (by omega) (by omega)⟩
  have hR0 := Int.ediv_mul_add_emod (r1 * 4294967296 + w % 4294967296) Y
  have hR0a := Int.emod_nonneg (r1 * 4294967296 + w % 4294967296) (by omega : Y ≠ 0)
  have hR0b := Int.emod_lt_of_pos (r1 * 4294967296 + w % 4294967296) (by omega : 0 < Y)
  generalize (r1 * 4294967296 + w % 4294967296) / Y = q0 at *
  generalize (r1 * 4294967296 + w % 4294967296) % Y = r0 at *
  rw [sub_UU, show r1 * 4294967296 + w % 4294967296 - q0 * Y = r0 by omega, U_id (x := r0) hR0a (by omega), U_id (x := q1 * 4294967296) (by omega) (by omega), U_id (by omega) (by omega), Int.fdiv_eq_ediv_of_nonneg _ (by omega)]
  have hall : (hi * 18446744073709551616 + lo - (q1 * 4294967296 + q0) * y) * 2 ^ s = r0 := by
    rw [Int.sub_mul, ← hN, Int.mul_assoc, ← hYd, Int.add_mul, Int.mul_right_comm]; omega
  have hz0 : 0 ≤ hi * 18446744073709551616 + lo - (q1 * 4294967296 + q0) * y := by
    rcases Int.lt_or_le (hi * 18446744073709551616 + lo - (q1 * 4294967296 + q0) * y) 0 with h | h
    · have := Int.mul_neg_of_neg_of_pos h hp; omega
    · exact h
  have hz1 : hi * 18446744073709551616 + lo - (q1 * 4294967296 + q0) * y < y := by
    refine Int.lt_of_mul_lt_mul_right (a := 2 ^ s) ?_ (by omega)
    rw [hall, ← hYd]; exact hR0b
  have hr0 : r0 / 2 ^ s = hi * 18446744073709551616 + lo - (q1 * 4294967296 + q0) * y := by
    rw [← hall]; exact Int.mul_ediv_cancel _ (by omega)
  have hdm : (hi * 18446744073709551616 + lo) / y = q1 * 4294967296 + q0 ∧ (hi * 18446744073709551616 + lo) % y = hi * 18446744073709551616 + lo - (q1 * 4294967296 + q0) * y :=
    (Int.ediv_emod_unique (by omega)).2 ⟨by rw [Int.mul_comm y]; omega, hz0, hz1⟩
  rw [hr0, hdm.1, hdm.2]
end Px
end
section
namespace Px
open Go
set_option linter.unusedVariables false
set_option linter.unusedSimpArgs false
set_option maxRecDepth 100000
theorem fleet_between_eq (φ : Nat) (a b c : Int) : fleet_between φ a b c = some (bet a b c) := rfl
def okType (t : WagonType) : Bool :=
  bet t.fLoad 0 1000000 && bet t.fTare 0 1000000 && bet t.fLength 0 1000000 && bet t.fBrake 0 1000000 && bet t.fGauge 0 7 && bet t.fLife 1 1073741824 && bet t.fFloor 0 100
def okWagon (n : Int) (w : Wagon) : Bool :=
  bet w.fType 0 (n - 1) && bet w.fOwner 0 63 && bet w.fHome 0 511 && bet w.fBuilt 0 1073741824 && bet w.fWorth 0 1099511627776
def okSwap (n : Int) (s : Swap) : Bool := bet s.fWanted 0 (n - 1) && bet s.fGiven 0 (n - 1) && (s.fWanted != s.fGiven) && bet s.fCost 0 1000000000
def okWash (w : Wash) : Bool := bet w.fFrom 0 63 && bet w.fTo 0 63 && (w.fFrom != w.fTo) && bet w.fMinutes 0 100000
def keyW (w : Wash) : Int := 64 * w.fFrom + w.fTo
def okWashAt (l : List Wash) (i : Nat) : Bool := okWash (gt l (i : Int)) && !(l.take i).any fun v => keyW v == keyW (gt l (i : Int))
def okWashes (l : List Wash) : Bool := (List.range l.length).all (okWashAt l)
/-- What Check answers. -/
def chkFleet (x : Fleet) : Int :=
  bif decide (32 < x.fTypes.length) || decide (4096 < x.fWagons.length) || decide (1024 < x.fSwaps.length) || decide (4096 < x.fWashes.length) then 2 else
  bif x.fTypes.all okType && x.fWagons.all (okWagon x.fTypes.length) && x.fSwaps.all (okSwap x.fTypes.length) && okWashes x.fWashes then 0 else 1
theorem all_range_succ (p : Nat → Bool) (i : Nat) : (List.range (i + 1)).all p = ((List.range i).all p && p i) := by
  rw [List.range_succ, List.all_append]; simp
theorem gcall_t {α : Type} [Inhabited α] {p : Prop} [Decidable p] {x : Option α} (h : p) : gcall p x = x := if_pos h
theorem gcall_f {α : Type} [Inhabited α] {p : Prop} [Decidable p] {x : Option α} (h : ¬ p) : gcall p x = some default := if_neg h
theorem fleet_Check_swaps (φ : Nat) (x : Fleet) (k : Int → Option Int) (hl : x.fSwaps.length ≤ 1024) (ht : x.fTypes.length ≤ 32) :
    ∀ n s, x.fSwaps.length < n → fleet_Check_L69 φ x k n 0 s = k (bif x.fSwaps.all (okSwap (x.fTypes.length : Int)) then s else 1) := by
  have hp : W ((x.fTypes.length : Int) - 1) = (x.fTypes.length : Int) - 1 := W_id (by omega) (by omega)
  refine loop_all _ k _ _ ?_ ?_
  · intro n i s hi
    rw [fleet_Check_L69, if_pos (by simp; omega), ck_pos ⟨by omega, by omega⟩]
    have hW : W ((i : Int) + 1) = (i : Int) + 1 := W_id (by omega) (by omega)
    simp only [fleet_between_eq, Option.bind_some, okSwap, gcall, fleet_Check_j95, hW, hp]
    cases bet (gt x.fSwaps i).fWanted 0 ((x.fTypes.length : Int) - 1) <;> cases bet (gt x.fSwaps i).fGiven 0 ((x.fTypes.length : Int) - 1) <;> cases ((gt x.fSwaps i).fWanted != (gt x.fSwaps i).fGiven) <;>
      cases bet (gt x.fSwaps i).fCost 0 1000000000 <;> rfl
  · intro n s
    rw [fleet_Check_L69, if_neg (by simp)]
theorem fleet_Check_wagons (φ : Nat) (x : Fleet) (k : Int → Option Int) (hl : x.fWagons.length ≤ 4096) (ht : x.fTypes.length ≤ 32) :
    ∀ n s, x.fWagons.length < n → fleet_Check_L99 φ x k n 0 s = k (bif x.fWagons.all (okWagon (x.fTypes.length : Int)) then s else 1) := by
  have hp : W ((x.fTypes.length : Int) - 1) = (x.fTypes.length : Int) - 1 := W_id (by omega) (by omega)
  refine loop_all _ k _ _ ?_ ?_
  · intro n i s hi
    rw [fleet_Check_L99, if_pos (by simp; omega), ck_pos ⟨by omega, by omega⟩]
    have hW : W ((i : Int) + 1) = (i : Int) + 1 := W_id (by omega) (by omega)
    simp only [fleet_between_eq, Option.bind_some, okWagon, gcall, fleet_Check_j115, fleet_Check_j123, hW, hp]
    cases bet (gt x.fWagons i).fType 0 ((x.fTypes.length : Int) - 1) <;> cases bet (gt x.fWagons i).fOwner 0 63 <;> cases bet (gt x.fWagons i).fHome 0 511 <;>
      cases bet (gt x.fWagons i).fBuilt 0 1073741824 <;> cases bet (gt x.fWagons i).fWorth 0 1099511627776 <;> rfl
  · intro n s
    rw [fleet_Check_L99, if_neg (by simp)]
theorem fleet_Check_four (φ : Nat) (x : Fleet) (i : Int) (k : Int → Option Int) (n : Nat) (s : Int) (hn : 4 < n) :
    fleet_Check_L153 φ x i k n 0 s = k (bif [(gt x.fTypes i).fLoad, (gt x.fTypes i).fTare, (gt x.fTypes i).fLength, (gt x.fTypes i).fBrake].all (fun a => bet a 0 1000000) then s else 1) := by
  refine loop_all (fleet_Check_L153 φ x i k) k _ _ ?_ ?_ n s hn
  · intro n j s hi
    rw [fleet_Check_L153, if_pos (by simp at hi ⊢; omega), ck_pos ⟨by omega, by omega⟩]
    simp at hi
    have hW : W ((j : Int) + 1) = (j : Int) + 1 := W_id (by omega) (by omega)
    simp only [fleet_between_eq, Option.bind_some, fleet_Check_j158, hW]
    cases bet (gt [(gt x.fTypes i).fLoad, (gt x.fTypes i).fTare, (gt x.fTypes i).fLength, (gt x.fTypes i).fBrake] (j : Int)) 0 1000000 <;> rfl
  · intro n s
    rw [fleet_Check_L153, if_neg (by simp)]
theorem fleet_Check_types (φ : Nat) (hφ : 4 < φ) (x : Fleet) (k : Int → Option Int) (hl : x.fTypes.length ≤ 32) :
    ∀ n s, x.fTypes.length < n → fleet_Check_L128 φ x k n 0 s = k (bif x.fTypes.all okType then s else 1) := by
  refine loop_all _ k _ _ ?_ ?_
  · intro n i s hi
    rw [fleet_Check_L128, if_pos (by simp; omega), ck_pos ⟨by omega, by omega⟩, fleet_Check_four _ _ _ _ _ _ hφ]
    have hW : W ((i : Int) + 1) = (i : Int) + 1 := W_id (by omega) (by omega)
    simp only [fleet_between_eq, Option.bind_some, okType, gcall, fleet_Check_j136, fleet_Check_j149, fleet_Check_j131, hW, List.all_cons, List.all_nil]
    cases bet (gt x.fTypes i).fLoad 0 1000000 <;> cases bet (gt x.fTypes i).fTare 0 1000000 <;> cases bet (gt x.fTypes i).fLength 0 1000000 <;> cases bet (gt x.fTypes i).fBrake 0 1000000 <;>
      cases bet (gt x.fTypes i).fGauge 0 7 <;> cases bet (gt x.fTypes i).fLife 1 1073741824 <;> cases bet (gt x.fTypes i).fFloor 0 100 <;> rfl
  · intro n s
    rw [fleet_Check_L128, if_neg (by simp)]
theorem fleet_Check_washes (φ : Nat) (x : Fleet) (k : Int → Option Int) (hl : x.fWashes.length ≤ 4096) (n : Nat) (s : Int) (hn : x.fWashes.length < n) :
    fleet_Check_L32 φ x k n 0 s (fun _ => false) = k (bif okWashes x.fWashes then s else 1) := by
  refine loop_up0 (fun n i (t : Int × (Nat → Bool)) => fleet_Check_L32 φ x k n i t.1 t.2) x.fWashes.length
    (fun i t => t.1 = (bif (List.range i).all (okWashAt x.fWashes) then s else 1) ∧ ((List.range i).all (okWashAt x.fWashes) = true → ∀ j : Nat, t.2 j = (x.fWashes.take i).any fun v => keyW v == (j : Int)))
    (fun o => o = k (bif okWashes x.fWashes then s else 1)) ?_ ?_ n (s, fun _ => false) ⟨by simp, by simp⟩ hn
  · intro n i t hi ⟨h1, h2⟩ hs
    have hW : W ((i : Int) + 1) = (i : Int) + 1 := W_id (by omega) (by omega)
    rw [fleet_Check_L32, if_pos (by simp; omega), ck_pos ⟨by omega, by omega⟩]
    simp only [fleet_between_eq, Option.bind_some, gcall]
    have hok : okWash (gt x.fWashes i) = (bet (gt x.fWashes i).fFrom 0 63 && bet (gt x.fWashes i).fTo 0 63 && ((gt x.fWashes i).fFrom != (gt x.fWashes i).fTo) && bet (gt x.fWashes i).fMinutes 0 100000) := rfl
    have hsucc := all_range_succ (okWashAt x.fWashes) i
    cases hw : okWash (gt x.fWashes i) with
    | false =>
      have hf : (List.range (i + 1)).all (okWashAt x.fWashes) = false := by rw [hsucc]; simp [okWashAt, hw]
      have h3 : fleet_Check_L32 φ x k n ((i : Int) + 1) 1 t.2 = k (bif okWashes x.fWashes then s else 1) := hs (1, t.2) ⟨by rw [hf]; rfl, by rw [hf]; intro h; cases h⟩
      rw [hw] at hok
      rw [← h3]
      simp only [fleet_Check_j54, fleet_Check_j57, hW]
      generalize bet (gt x.fWashes i).fFrom 0 63 = a at *; generalize bet (gt x.fWashes i).fTo 0 63 = b at *; generalize ((gt x.fWashes i).fFrom != (gt x.fWashes i).fTo) = c at *; generalize bet (gt x.fWashes i).fMinutes 0 100000 = d at *
      cases a <;> cases b <;> cases c <;> cases d <;> first | (simp only [Bool.and_self, Bool.and_true, Bool.and_false, Bool.false_and, Bool.true_and, Option.bind_some, if_true, Bool.not_false, Bool.not_true, Bool.false_eq_true, if_false, default]; done) | exact absurd hok (by decide)
    | true =>
      rw [hw] at hok
      have hb := hok.symm
      simp only [Bool.and_eq_true] at hb
      obtain ⟨⟨⟨b1, b2⟩, b3⟩, b4⟩ := hb
      have c1 := bet_t b1; have c2 := bet_t b2
      simp only [b1, b2, b3, b4, fleet_Check_j54, Bool.and_self, if_true, Option.bind_some, Bool.not_true, Bool.false_eq_true, if_false]
      rw [ck_pos ⟨by omega, by omega⟩, ck_pos ⟨by omega, by omega⟩]
      have hkey : ((gt x.fWashes i).fFrom.toNat * 64 + (gt x.fWashes i).fTo.toNat : Nat) = (keyW (gt x.fWashes i)).toNat := by unfold keyW; omega
      have hk0 : ((keyW (gt x.fWashes i)).toNat : Int) = keyW (gt x.fWashes i) := by unfold keyW; omega
      rw [hkey]
      have key : ∀ e, (e = bif (List.range (i + 1)).all (okWashAt x.fWashes) then s else 1) →
          fleet_Check_L32 φ x k n ((i : Int) + 1) e (upd t.2 (keyW (gt x.fWashes i)).toNat true) = k (bif okWashes x.fWashes then s else 1) := by
        intro e he
        refine hs (e, _) ⟨he, fun hall j => ?_⟩
        rw [hsucc, Bool.and_eq_true] at hall
        rw [any_take_succ _ _ _ hi, ← h2 hall.1 j]
        show (if j = (keyW (gt x.fWashes i)).toNat then true else t.2 j) = _
        by_cases hj : j = (keyW (gt x.fWashes i)).toNat
        · simp [hj, hk0]
        · have : (keyW (gt x.fWashes i) == (j : Int)) = false := by
            simp; intro h; exact hj (by omega)
          simp [hj, this]
      simp only [fleet_Check_j63, fleet_Check_j57, hW, hkey]
      cases hall : (List.range i).all (okWashAt x.fWashes) with
      | true =>
        have hat : okWashAt x.fWashes i = !(t.2 (keyW (gt x.fWashes i)).toNat) := by
          rw [h2 hall]; simp only [okWashAt, hw, Bool.true_and, hk0]
        cases ht2 : t.2 (keyW (gt x.fWashes i)).toNat with
        | true =>
          simp only [Bool.not_true, Bool.not_false, if_true]
          refine key 1 ?_
          rw [hsucc, hat, ht2]; simp
        | false =>
          simp only [Bool.not_true, Bool.not_false, Bool.false_eq_true, if_false]
          refine key t.1 ?_
          rw [hsucc, hat, ht2, h1, hall]; simp
      | false =>
        have hf : (List.range (i + 1)).all (okWashAt x.fWashes) = false := by rw [hsucc, hall]; rfl
        have ht1 : t.1 = 1 := by rw [h1, hall]; rfl
        rw [ht1]
        split <;> exact key 1 (by rw [hf]; rfl)
  · intro n t ⟨h1, _⟩
    rw [fleet_Check_L32, if_neg (by simp), h1]; rfl
theorem fleet_Check_eq (φ : Nat) (hφ : 5000 < φ) (x : Fleet) : fleet_Check φ x = some (chkFleet x) := by
  have e : (((decide (32 < (x.fTypes.length : Int)) || decide (4096 < (x.fWagons.length : Int))) || decide (1024 < (x.fSwaps.length : Int))) || decide (4096 < (x.fWashes.length : Int))) =
      (decide (32 < x.fTypes.length) || decide (4096 < x.fWagons.length) || decide (1024 < x.fSwaps.length) || decide (4096 < x.fWashes.length)) := by
    congr 1
    · congr 1
      · congr 1 <;> (apply decide_eq_decide.2; omega)
      · apply decide_eq_decide.2; omega
    · apply decide_eq_decide.2; omega
  unfold fleet_Check chkFleet
  rw [e]
  cases h : (decide (32 < x.fTypes.length) || decide (4096 < x.fWagons.length) || decide (1024 < x.fSwaps.length) || decide (4096 < x.fWashes.length)) with
  | true => rfl
  | false =>
    simp only [Bool.or_eq_false_iff, decide_eq_false_iff_not, Nat.not_lt] at h
    obtain ⟨⟨⟨h1, h2⟩, h3⟩, h4⟩ := h
    rw [if_neg (by simp), fleet_Check_types φ (by omega) x _ h1 _ _ (by omega)]
    unfold fleet_Check_j21
    rw [fleet_Check_wagons _ _ _ h2 h1 _ _ (by omega)]
    unfold fleet_Check_j23
    rw [fleet_Check_swaps _ _ _ h3 h1 _ _ (by omega)]
    unfold fleet_Check_j25
    rw [fleet_Check_washes _ _ _ h4 _ _ (by omega)]
    unfold fleet_Check_j28
    cases x.fTypes.all okType <;> cases x.fWagons.all (okWagon x.fTypes.length) <;> cases x.fSwaps.all (okSwap x.fTypes.length) <;> cases okWashes x.fWashes <;> rfl
/-- What a fleet that passes is. -/
theorem chkFleet_ok {x : Fleet} (h : chkFleet x = 0) : x.fTypes.length ≤ 32 ∧ x.fWagons.length ≤ 4096 ∧ x.fSwaps.length ≤ 1024 ∧ x.fWashes.length ≤ 4096 ∧
    (∀ t ∈ x.fTypes, okType t = true) ∧ (∀ t ∈ x.fWagons, okWagon x.fTypes.length t = true) ∧ (∀ t ∈ x.fSwaps, okSwap x.fTypes.length t = true) ∧ okWashes x.fWashes = true := by
  unfold chkFleet at h
  cases h1 : (decide (32 < x.fTypes.length) || decide (4096 < x.fWagons.length) || decide (1024 < x.fSwaps.length) || decide (4096 < x.fWashes.length)) with
  | true => rw [h1] at h; cases h
  | false =>
    rw [h1] at h
    simp only [Bool.or_eq_false_iff, decide_eq_false_iff_not, Nat.not_lt] at h1
    obtain ⟨⟨⟨a1, a2⟩, a3⟩, a4⟩ := h1
    cases h2 : (x.fTypes.all okType && x.fWagons.all (okWagon x.fTypes.length) && x.fSwaps.all (okSwap x.fTypes.length) && okWashes x.fWashes) with
    | false => rw [h2] at h; cases h
    | true =>
      simp only [Bool.and_eq_true, List.all_eq_true] at h2
      obtain ⟨⟨⟨b1, b2⟩, b3⟩, b4⟩ := h2
      exact ⟨a1, a2, a3, a4, b1, b2, b3, b4⟩
end Px
end
section
namespace Px
open Go
set_option linter.unusedVariables false
set_option linter.unusedSimpArgs false
set_option maxRecDepth 100000
def PP : Nat := 2305843009213690799
def QQ : Nat := 1152921504606845399
/-- A power modulo the prime. -/
def pw (b n : Nat) : Nat := b ^ n % PP
theorem pw_lt (b n : Nat) : pw b n < PP := Nat.mod_lt _ (by decide)
theorem pw_zero (b : Nat) : pw b 0 = 1 := by simp [pw, PP]
theorem pw_add (b m n : Nat) : pw b m * pw b n % PP = pw b (m + n) := by
  unfold pw; rw [Nat.pow_add, ← Nat.mul_mod]
theorem pw_one (b : Nat) : pw b 1 = b % PP := by simp [pw]
theorem mul_mod_word {a b : Nat} (ha : a < PP) (hb : b < PP) (φ : Nat) (hφ : 5 < φ) : ((bits_Mul64 φ (a : Int) (b : Int)).bind fun y => (bits_Div64 φ y.1 y.2 2305843009213690799).bind fun z => some z.2) = some ((a * b % PP : Nat) : Int) := by
  have ha' : (a : Int) < 2305843009213690799 := by unfold PP at ha; omega
  have hb' : (b : Int) < 2305843009213690799 := by unfold PP at hb; omega
  have hp := mul_bd (by omega : 0 ≤ (a : Int)) (by omega : 0 ≤ (b : Int)) (by omega : (a : Int) ≤ 2305843009213690798) (by omega : (b : Int) ≤ 2305843009213690798)
  rw [Mul64_eq φ _ _ (by omega) (by omega) (by omega) (by omega), Option.bind_some]
  generalize hz : (a : Int) * (b : Int) = z at *
  rw [Div64_eq φ hφ _ _ _ (by omega) (by omega) (by omega) (by omega) (by omega), Option.bind_some]
  congr 1
  have : z / 18446744073709551616 * 18446744073709551616 + z % 18446744073709551616 = z := by omega
  rw [this, ← hz, Int.natCast_emod, Int.natCast_mul]; rfl
theorem mod_P {a : Nat} (h : a < PP) : ((a : Int)).tmod 2305843009213690799 = (a : Int) := by
  unfold PP at h
  rw [Int.tmod_eq_emod_of_nonneg (by omega)]; omega
theorem sign_Pow_eq (φ : Nat) (hφ : 100 < φ) (b n : Nat) (hb : b < 18446744073709551616) (hn : n < 18446744073709551616) : sign_Pow φ (b : Int) (n : Int) = some ((pw b n : Nat) : Int) := by
  unfold sign_Pow
  obtain ⟨L, eL, hL, h1, h2⟩ := Len64_eq φ (n : Int) (by omega) (by omega)
  rw [eL, Option.bind_some]
  rw [Int.toNat_natCast] at h1 h2
  have hbm : ((b : Int)).tmod 2305843009213690799 = ((b % PP : Nat) : Int) := by
    rw [Int.tmod_eq_emod_of_nonneg (by omega)]; unfold PP; omega
  refine loop_up0 (fun k i v => sign_Pow_L9 φ (b : Int) (n : Int) (L : Int) (sign_Pow_j6 φ) k v i) L (fun i v => v = ((pw b (n / 2 ^ (L - i)) : Nat) : Int)) (fun o => o = some ((pw b n : Nat) : Int)) ?_ ?_ φ 1 ?_ (by omega)
  · intro k i v hi hv hs
    rw [sign_Pow_L9, if_pos (by simp; omega)]
    subst hv
    rw [mod_P (pw_lt _ _)]
    have hm := mul_mod_word (pw_lt b (n / 2 ^ (L - i))) (pw_lt b (n / 2 ^ (L - i))) φ (by omega)
    -- the square
    have hp := mul_bd (m := 2305843009213690798) (n := 2305843009213690798) (a := ((pw b (n / 2 ^ (L - i)) : Nat) : Int)) (b := ((pw b (n / 2 ^ (L - i)) : Nat) : Int)) (by omega) (by omega) (by have := pw_lt b (n / 2 ^ (L - i)); unfold PP at this; omega) (by have := pw_lt b (n / 2 ^ (L - i)); unfold PP at this; omega)
    have e1 := Mul64_eq φ ((pw b (n / 2 ^ (L - i)) : Nat) : Int) ((pw b (n / 2 ^ (L - i)) : Nat) : Int) (by omega) (by have := pw_lt b (n / 2 ^ (L - i)); unfold PP at this; omega) (by omega) (by have := pw_lt b (n / 2 ^ (L - i)); unfold PP at this; omega)
    rw [e1, Option.bind_some] at hm
    rw [e1, Option.bind_some]
    have hw1 : W ((L : Int) - 1) = (L : Int) - 1 := W_id (by omega) (by omega)
    have hw2 : W ((L : Int) - 1 - (i : Int)) = ((L - 1 - i : Nat) : Int) := by rw [W_id (by omega) (by omega)]; omega
    cases hdv : bits_Div64 φ (((pw b (n / 2 ^ (L - i)) : Nat) : Int) * ((pw b (n / 2 ^ (L - i)) : Nat) : Int) / 18446744073709551616) (((pw b (n / 2 ^ (L - i)) : Nat) : Int) * ((pw b (n / 2 ^ (L - i)) : Nat) : Int) % 18446744073709551616) 2305843009213690799 with
    | none => rw [hdv] at hm; cases hm
    | some z =>
      rw [hdv, Option.bind_some] at hm
      have hz : z.2 = ((pw b (n / 2 ^ (L - i)) * pw b (n / 2 ^ (L - i)) % PP : Nat) : Int) := Option.some.inj hm
      rw [pw_add] at hz
      rw [Option.bind_some, eL, Option.bind_some, hw1, hw2, ck_pos (by omega), hz]
      have hsh := shr_eq (c := (n : Int)) (k := ((L - 1 - i : Nat) : Int)) (by omega) (by omega) (by omega)
      have hone : U ((BitVec.ofInt (IntKind.bits .u64) ((n : Int).fdiv (2 ^ (min (((L - 1 - i : Nat) : Int)).toNat (IntKind.bits .u64)))) &&& BitVec.ofInt (IntKind.bits .u64) 1).toNat) = ((n / 2 ^ (L - 1 - i) % 2 : Nat) : Int) := by
        rw [hsh, Int.toNat_natCast, Int.toNat_natCast]
        show U ((BitVec.ofInt 64 ((n / 2 ^ (L - 1 - i) : Nat) : Int) &&& BitVec.ofInt 64 1).toNat : Int) = _
        have hd : n / 2 ^ (L - 1 - i) ≤ n := Nat.div_le_self _ _
        rw [BitVec.toNat_and, ofInt_toNat (Int.natCast_nonneg _) (by omega), ofInt_toNat (by omega) (by omega), U_nat (and_lt (by omega)), Int.toNat_natCast]
        show ((n / 2 ^ (L - 1 - i) &&& 1 : Nat) : Int) = _
        rw [Nat.and_one_is_mod]
      rw [hone]
      have hhalf : n / 2 ^ (L - i) = n / 2 ^ (L - 1 - i) / 2 := by
        rw [Nat.div_div_eq_div_mul, ← Nat.pow_succ]; congr 2; omega
      have hidx : L - (i + 1) = L - 1 - i := by omega
      have hW : W ((i : Int) + 1) = (i : Int) + 1 := W_id (by omega) (by omega)
      have hbit := Nat.mod_two_eq_zero_or_one (n / 2 ^ (L - 1 - i))
      rcases hbit with hbit | hbit
      · rw [hbit, if_neg (by simp)]
        unfold sign_Pow_j16
        rw [hW]
        refine hs _ ?_
        rw [hidx, hhalf]; congr 2; omega
      · rw [hbit, if_pos (by simp), mod_P (pw_lt _ _), hbm]
        have hm2 := mul_mod_word (pw_lt b (n / 2 ^ (L - i) + n / 2 ^ (L - i))) (Nat.mod_lt b (by decide : 0 < PP)) φ (by omega)
        unfold sign_Pow_j16
        rw [hW]
        have key : ∀ (X : Option (Int × Int)) (G : Int × Int → Option (Int × Int)) (K : Int → Option Int) (r : Int), (X.bind fun y => (G y).bind fun z => some z.2) = some r → (X.bind fun y => (G y).bind fun z => K z.2) = K r := by
          intro X G K r h
          cases X with
          | none => cases h
          | some y =>
            rw [Option.bind_some] at h ⊢
            cases hG : G y with
            | none => rw [hG] at h; cases h
            | some z => rw [hG, Option.bind_some] at h; rw [Option.bind_some, Option.some.inj h]
        have := key _ (fun y => bits_Div64 φ y.1 y.2 2305843009213690799) (fun v => sign_Pow_L9 φ (b : Int) (n : Int) (L : Int) (sign_Pow_j6 φ) k v ((i : Int) + 1)) _ hm2
        refine Eq.trans this ?_
        refine hs _ ?_
        rw [← pw_one b, pw_add, hidx, hhalf]; congr 2; omega
  · intro k v hv
    rw [sign_Pow_L9, if_neg (by simp), hv]
    unfold sign_Pow_j6
    rw [Nat.sub_self, Nat.pow_zero, Nat.div_one]
  · rw [Nat.sub_zero, Nat.div_eq_of_lt h1, pw_zero]; rfl
/-- What Valid answers. -/
def okKey (x : Int) : Bool := decide (2 ≤ x) && decide (x < 2305843009213690799) && (pw x.toNat QQ == 1)
theorem natcast_beq (a : Nat) : (((a : Nat) : Int) == 1) = (a == 1) := by
  rw [Bool.eq_iff_iff, beq_iff_eq, beq_iff_eq]; omega
theorem sign_Valid_eq (φ : Nat) (hφ : 100 < φ) (x : Int) : sign_Valid φ x = some (okKey x) := by
  unfold sign_Valid okKey
  cases h : decide (2 ≤ x) && decide (x < 2305843009213690799) with
  | false => rw [gcall_f (by simp)]; simp
  | true =>
    simp only [Bool.and_eq_true, decide_eq_true_eq] at h
    have := sign_Pow_eq φ hφ x.toNat QQ (by omega) (by decide)
    rw [show ((x.toNat : Nat) : Int) = x by omega, show ((QQ : Nat) : Int) = 1152921504606845399 by decide] at this
    rw [gcall_t rfl, this, Option.bind_some, natcast_beq]
end Px
end
section
namespace Px
open Go
set_option linter.unusedVariables false
set_option linter.unusedSimpArgs false
set_option maxRecDepth 100000
def okPlace (p : Place) : Bool := bet p.fKind 1 5 && bet p.fRailway 0 15 && (bif p.fKind == 3 then bet p.fOther 0 15 && (p.fOther != p.fRailway) else p.fOther == (-1))
def okEdge (n : Int) (e : Edge) : Bool := bet e.fA 0 (n - 1) && bet e.fB 0 (n - 1) && (e.fA != e.fB) && bet e.fRailway 0 15 && bet e.fMinutes 1 100000 && bet e.fKm 0 10000
def chkNet (x : Network) : Int := bif decide (512 < x.fPlaces.length) || decide (2048 < x.fEdges.length) then 2 else bif x.fPlaces.all okPlace && x.fEdges.all (okEdge x.fPlaces.length) then 0 else 1
theorem network_place_eq (φ : Nat) (p : Place) : network_place φ p = some (okPlace p) := by
  have hb : (((decide (p.fKind < 1) || decide (5 < p.fKind)) || decide (p.fRailway < 0)) || decide (16 ≤ p.fRailway)) = !(bet p.fKind 1 5 && bet p.fRailway 0 15) := by
    rw [Bool.eq_iff_iff]; simp [bet]; omega
  unfold network_place okPlace
  rw [hb]
  cases bet p.fKind 1 5 && bet p.fRailway 0 15 with
  | false => rfl
  | true =>
    rw [if_neg (by simp)]
    by_cases h : p.fKind = 3
    · have : (decide (0 ≤ p.fOther) && decide (p.fOther < 16)) = bet p.fOther 0 15 := by rw [Bool.eq_iff_iff]; simp [bet]; omega
      rw [if_neg (by simp [h]), this]; simp [h]
    · have h2 : (p.fKind == 3) = false := by simpa using h
      rw [if_pos (by simp [h]), h2]; rfl
theorem edge_cond (n : Int) (e : Edge) : ((((((decide ((min2 (min2 (min2 (e.fA) (e.fB)) (e.fRailway)) (e.fKm)) < 0) || decide (n ≤ (max2 (e.fA) (e.fB)))) || (e.fA == e.fB)) || decide (16 ≤ e.fRailway)) || decide (e.fMinutes < 1)) || decide (100000 < e.fMinutes)) || decide (10000 < e.fKm)) = !okEdge n e := by
  have hm : ∀ x y z : Int, z ≤ max2 x y ↔ z ≤ x ∨ z ≤ y := by intro x y z; unfold max2; split <;> omega
  have hok : okEdge n e = true ↔ ((((((0 ≤ e.fA ∧ e.fA ≤ n - 1) ∧ 0 ≤ e.fB ∧ e.fB ≤ n - 1) ∧ ¬ e.fA = e.fB) ∧ 0 ≤ e.fRailway ∧ e.fRailway ≤ 15) ∧ 1 ≤ e.fMinutes ∧ e.fMinutes ≤ 100000) ∧ 0 ≤ e.fKm ∧ e.fKm ≤ 10000) := by
    simp only [okEdge, Bool.and_eq_true, bet_iff, bne_iff_ne, ne_eq]
  rw [Bool.eq_iff_iff, Bool.not_eq_true', ← Bool.not_eq_true, hok]
  simp only [Bool.or_eq_true, decide_eq_true_eq, min2_lt, hm, beq_iff_eq]
  omega
theorem net_head (x : Network) : (decide (512 < (x.fPlaces.length : Int)) || decide (2048 < (x.fEdges.length : Int))) = (decide (512 < x.fPlaces.length) || decide (2048 < x.fEdges.length)) := by
  congr 1 <;> (apply decide_eq_decide.2; omega)
theorem network_Check_eq (φ : Nat) (hφ : 5000 < φ) (x : Network) : network_Check φ x = some (chkNet x) := by
  unfold network_Check chkNet
  rw [net_head]
  cases h : decide (512 < x.fPlaces.length) || decide (2048 < x.fEdges.length) with
  | true => rfl
  | false =>
    simp only [Bool.or_eq_false_iff, decide_eq_false_iff_not, Nat.not_lt] at h
    rw [if_neg (by simp), loop_any (network_Check_L48 φ x (network_Check_j9 φ x)) (network_Check_j9 φ x) (some 1) x.fPlaces (fun t => !okPlace t) ?_ ?_ φ (by omega)]
    · unfold network_Check_j9
      rw [loop_any (network_Check_L12 φ x (network_Check_j10 φ)) (network_Check_j10 φ) (some 1) x.fEdges (fun t => !okEdge x.fPlaces.length t) ?_ ?_ φ (by omega)]
      · simp only [List.any_eq_not_all_not, Bool.not_not]
        cases x.fPlaces.all okPlace <;> cases x.fEdges.all (okEdge x.fPlaces.length) <;> rfl
      · intro n i hi
        rw [network_Check_L12, if_pos (by simp; omega), ck_pos ⟨by omega, by omega⟩, edge_cond, W_id (by omega) (by omega)]
        cases okEdge x.fPlaces.length (gt x.fEdges i) <;> rfl
      · intro n; rw [network_Check_L12, if_neg (by simp)]
    · intro n i hi
      rw [network_Check_L48, if_pos (by simp; omega), ck_pos ⟨by omega, by omega⟩, network_place_eq, Option.bind_some, W_id (by omega) (by omega)]
      cases okPlace (gt x.fPlaces i) <;> rfl
    · intro n; rw [network_Check_L48, if_neg (by simp)]
theorem chkNet_ok {x : Network} (h : chkNet x = 0) : x.fPlaces.length ≤ 512 ∧ x.fEdges.length ≤ 2048 ∧ (∀ p ∈ x.fPlaces, okPlace p = true) ∧ ∀ e ∈ x.fEdges, okEdge x.fPlaces.length e = true := by
  unfold chkNet at h
  cases h1 : decide (512 < x.fPlaces.length) || decide (2048 < x.fEdges.length) with
  | true => rw [h1] at h; cases h
  | false =>
    rw [h1] at h
    cases h2 : x.fPlaces.all okPlace && x.fEdges.all (okEdge x.fPlaces.length) with
    | false => rw [h2] at h; cases h
    | true =>
      simp only [Bool.or_eq_false_iff, decide_eq_false_iff_not, Nat.not_lt] at h1
      simp only [Bool.and_eq_true, List.all_eq_true] at h2
      exact ⟨h1.1, h1.2, h2⟩
/-- What Check says of a calendar. -/
def okHol : Int → List Int → Bool
  | _, [] => true
  | p, h :: t => decide (p < h) && decide (h ≤ 745654) && okHol h t
def okSpan (s : Span) : Bool := decide (0 ≤ s.fFrom) && decide (s.fFrom ≤ s.fTo) && decide (s.fTo ≤ 1440)
def okCal (c : Calendar) : Bool := ((List.range 7).all fun i => okSpan (c.fOpen i)) && okHol (-1) c.fHolidays
theorem cal_hol (φ : Nat) (c : Calendar) : ∀ (n i : Nat) (p : Int), -1 ≤ p → (i : Int) ≤ p + 1 → p ≤ 745654 → i ≤ c.fHolidays.length → 745656 ≤ (n : Int) + p → calendar_Check_L7 φ c (calendar_Check_j4 φ) n p i = some (bif okHol p (c.fHolidays.drop i) then 0 else 1) := by
  intro n
  induction n with
  | zero => intro i p _ _ _ _ _; omega
  | succ n ih =>
    intro i p hp hip hp2 hi hn
    by_cases h : i = c.fHolidays.length
    · rw [h, calendar_Check_L7, if_neg (by simp), List.drop_length]; rfl
    · rw [calendar_Check_L7, if_pos (by simp; omega), ck_pos ⟨by omega, by omega⟩, drop_gt _ _ (by omega)]
      by_cases hb : gt c.fHolidays i ≤ p ∨ 745654 < gt c.fHolidays i
      · have : (decide (p < gt c.fHolidays i) && decide (gt c.fHolidays i ≤ 745654)) = false := by simp; omega
        rw [if_pos (by simpa using hb)]
        simp [okHol, this]
      · have h2 : (decide (p < gt c.fHolidays i) && decide (gt c.fHolidays i ≤ 745654)) = true := by simp; omega
        rw [if_neg (by simpa using hb), W_id (by omega) (by omega)]
        have := ih (i + 1) (gt c.fHolidays i) (by omega) (by omega) (by omega) (by omega) (by omega)
        rw [show ((i + 1 : Nat) : Int) = (i : Int) + 1 by omega] at this
        rw [this]
        simp [okHol, h2]
theorem cal_open_cond (s : Span) : ((decide (s.fFrom < 0) || decide (s.fTo < s.fFrom)) || decide (1440 < s.fTo)) = !okSpan s := by
  rw [Bool.eq_iff_iff]; simp [okSpan]
  try omega
theorem calendar_Check_eq (φ : Nat) (hφ : 800000 < φ) (c : Calendar) : calendar_Check φ c = some (bif okCal c then 0 else 1) := by
  unfold calendar_Check
  refine loop_up0 (fun n i (_ : Unit) => calendar_Check_L15 φ c (calendar_Check_j3 φ c) n i) 7 (fun i _ => ((List.range i).all fun j => okSpan (c.fOpen j)) = true) (fun o => o = some (bif okCal c then 0 else 1)) ?_ ?_ φ () (by simp) (by omega)
  · intro n i _ hi h hs
    rw [calendar_Check_L15, if_pos (by simp; omega), ck_pos ⟨by omega, by omega⟩, Int.toNat_natCast, cal_open_cond, W_id (by omega) (by omega)]
    cases ho : okSpan (c.fOpen i) with
    | true =>
      rw [if_neg (by simp)]
      exact hs () (by rw [all_range_succ, h, ho]; rfl)
    | false =>
      have : okCal c = false := by
        unfold okCal
        have : ((List.range 7).all fun j => okSpan (c.fOpen j)) = false := by
          rw [List.all_eq_false]; exact ⟨i, by simp; omega, by simp [ho]⟩
        rw [this]; rfl
      rw [if_pos (by simp), this]; rfl
  · intro n _ h
    rw [calendar_Check_L15, if_neg (by simp)]
    unfold calendar_Check_j3 okCal
    rw [h, Bool.true_and]
    have := cal_hol φ c φ 0 (-1) (by omega) (by omega) (by omega) (by omega) (by omega)
    simpa using this
end Px
end
section
namespace Px
open Go
set_option linter.unusedVariables false
set_option linter.unusedSimpArgs false
set_option maxRecDepth 100000
/-- A loop that gathers a flag. -/
theorem loop_or {α ρ : Type} [Inhabited α] (L : Nat → Bool → Int → Option ρ) (k : Bool → Option ρ) (l : List α) (p : α → Bool)
    (step : ∀ (n i : Nat) (s : Bool), i < l.length → L (n + 1) s i = L n (s || p (gt l i)) ((i : Int) + 1)) (done : ∀ n s, L (n + 1) s l.length = k s) (n : Nat) (s : Bool) (hn : l.length < n) : L n s 0 = k (s || l.any p) := by
  refine loop_up0 (fun n i t => L n t i) l.length (fun i t => t = (s || (l.take i).any p)) (fun o => o = k (s || l.any p)) ?_ ?_ n s (by simp) hn
  · intro n i t hi ht hs
    rw [step n i t hi]
    exact hs _ (by rw [any_take_succ _ _ _ hi, ht, Bool.or_assoc])
  · intro n t ht
    rw [List.take_length] at ht
    rw [done, ht]
def badReader (n : Int) (r : Reader) : Bool := (((!bet r.fPlace 0 (n - 1)) || decide (r.fLow < (-1000))) || decide (r.fHigh < r.fLow)) || decide (1000 < r.fHigh)
def badShipper (x : Network) (s : Shipper) : Bool := (!bet s.fPlace 0 ((x.fPlaces.length : Int) - 1)) || ((gt x.fPlaces s.fPlace).fKind != 4)
def badRail (r : RailwayInfo) : Bool := !okCal r.fCalendar || !okKey r.fKey
def badPool (x : Pool) : Bool :=
  ((((((x.fRailways.length : Int) == 0) || x.fReaders.any (badReader x.fNetwork.fPlaces.length)) || x.fShippers.any (badShipper x.fNetwork)) || x.fFleet.fWagons.any (fun w => decide ((x.fNetwork.fPlaces.length : Int) ≤ w.fHome))) ||
  x.fNetwork.fPlaces.any (fun p => decide ((x.fRailways.length : Int) ≤ p.fRailway) || decide ((x.fRailways.length : Int) ≤ p.fOther))) || x.fNetwork.fEdges.any (fun e => decide ((x.fRailways.length : Int) ≤ e.fRailway)) || x.fRailways.any badRail
def bigPool (x : Pool) : Bool := (decide (256 < (x.fReaders.length : Int)) || decide (256 < (x.fShippers.length : Int))) || decide (16 < (x.fRailways.length : Int))
/-- What CheckPool answers. -/
def chkPool (x : Pool) : Int := if chkNet x.fNetwork ≠ 0 then chkNet x.fNetwork else if chkFleet x.fFleet ≠ 0 then chkFleet x.fFleet else bif bigPool x then 2 else bif badPool x then 1 else 0
theorem fleet_CheckPool_eq (φ : Nat) (hφ : 800000 < φ) (x : Pool) : fleet_CheckPool φ x = some (chkPool x) := by
  unfold fleet_CheckPool chkPool
  rw [network_Check_eq _ (by omega), Option.bind_some]
  by_cases hn : chkNet x.fNetwork = 0
  case neg => rw [if_pos (by simp [hn]), if_pos hn]
  rw [if_neg (by simp [hn]), if_neg (fun e : chkNet x.fNetwork ≠ 0 => e hn), fleet_Check_eq _ (by omega), Option.bind_some]
  by_cases hf : chkFleet x.fFleet = 0
  case neg => rw [if_pos (by simp [hf]), if_pos hf]
  rw [if_neg (by simp [hf]), if_neg (fun e : chkFleet x.fFleet ≠ 0 => e hf)]
  cases hb : bigPool x with
  | true =>
    have e : (((decide (256 < (x.fReaders.length : Int)) || decide (256 < (x.fShippers.length : Int))) || decide (16 < (x.fRailways.length : Int)))) = bigPool x := rfl
    rw [e, hb]; rfl
  | false =>
    have hb' : ¬ (((decide (256 < (x.fReaders.length : Int)) || decide (256 < (x.fShippers.length : Int))) || decide (16 < (x.fRailways.length : Int))) = true) := by
      rw [show (((decide (256 < (x.fReaders.length : Int)) || decide (256 < (x.fShippers.length : Int))) || decide (16 < (x.fRailways.length : Int)))) = bigPool x from rfl, hb]; simp
    rw [if_neg hb']
    simp only [Bool.or_eq_true, decide_eq_true_eq, not_or] at hb'
    obtain ⟨n1, n2, _, _⟩ := chkNet_ok hn
    obtain ⟨f1, f2, _⟩ := chkFleet_ok hf
    have hp : W ((x.fNetwork.fPlaces.length : Int) - 1) = (x.fNetwork.fPlaces.length : Int) - 1 := W_id (by omega) (by omega)
    rw [loop_or (fleet_CheckPool_L114 φ x (fleet_CheckPool_j19 φ x)) (fleet_CheckPool_j19 φ x) x.fReaders (badReader x.fNetwork.fPlaces.length) ?_ ?_ φ _ (by omega)]
    rotate_left
    · intro n i s hi
      rw [fleet_CheckPool_L114, if_pos (by simp; omega), ck_pos ⟨by omega, by omega⟩, hp, W_id (by omega) (by omega)]
      unfold badReader
      cases s with
      | true => rw [gcall_f (by simp)]; rfl
      | false => rw [gcall_t rfl]; rfl
    · intro n s; rw [fleet_CheckPool_L114, if_neg (by simp)]
    unfold fleet_CheckPool_j19
    rw [loop_or (fleet_CheckPool_L90 φ x (fleet_CheckPool_j21 φ x)) (fleet_CheckPool_j21 φ x) x.fShippers (badShipper x.fNetwork) ?_ ?_ φ _ (by omega)]
    rotate_left
    · intro n i s hi
      rw [fleet_CheckPool_L90, if_pos (by simp; omega), ck_pos ⟨by omega, by omega⟩, hp, W_id (by omega) (by omega)]
      unfold badShipper
      cases s with
      | true => rw [gcall_f (by simp), Option.bind_some, ck_pos (by simp)]; rfl
      | false =>
        rw [gcall_t rfl, fleet_between_eq, Option.bind_some]
        cases hbt : bet (gt x.fShippers i).fPlace 0 ((x.fNetwork.fPlaces.length : Int) - 1) with
        | true => rw [ck_pos (fun _ => by have := bet_t hbt; omega)]; rfl
        | false => rw [ck_pos (by simp)]; rfl
    · intro n s; rw [fleet_CheckPool_L90, if_neg (by simp)]
    unfold fleet_CheckPool_j21
    rw [loop_or (fleet_CheckPool_L78 φ x (fleet_CheckPool_j23 φ x)) (fleet_CheckPool_j23 φ x) x.fFleet.fWagons (fun w => decide ((x.fNetwork.fPlaces.length : Int) ≤ w.fHome)) ?_ ?_ φ _ (by omega)]
    rotate_left
    · intro n i s hi
      rw [fleet_CheckPool_L78, if_pos (by simp; omega), ck_pos ⟨by omega, by omega⟩, W_id (by omega) (by omega)]
    · intro n s; rw [fleet_CheckPool_L78, if_neg (by simp)]
    unfold fleet_CheckPool_j23
    rw [loop_or (fleet_CheckPool_L62 φ x (fleet_CheckPool_j25 φ x)) (fleet_CheckPool_j25 φ x) x.fNetwork.fPlaces (fun p => decide ((x.fRailways.length : Int) ≤ p.fRailway) || decide ((x.fRailways.length : Int) ≤ p.fOther)) ?_ ?_ φ _ (by omega)]
    rotate_left
    · intro n i s hi
      rw [fleet_CheckPool_L62, if_pos (by simp; omega), ck_pos ⟨by omega, by omega⟩, W_id (by omega) (by omega), Bool.or_assoc]
    · intro n s; rw [fleet_CheckPool_L62, if_neg (by simp)]
    unfold fleet_CheckPool_j25
    rw [loop_or (fleet_CheckPool_L51 φ x (fleet_CheckPool_j27 φ x)) (fleet_CheckPool_j27 φ x) x.fNetwork.fEdges (fun e => decide ((x.fRailways.length : Int) ≤ e.fRailway)) ?_ ?_ φ _ (by omega)]
    rotate_left
    · intro n i s hi
      rw [fleet_CheckPool_L51, if_pos (by simp; omega), ck_pos ⟨by omega, by omega⟩, W_id (by omega) (by omega)]
    · intro n s; rw [fleet_CheckPool_L51, if_neg (by simp)]
    unfold fleet_CheckPool_j27
    rw [loop_or (fleet_CheckPool_L33 φ x (fleet_CheckPool_j29 φ)) (fleet_CheckPool_j29 φ) x.fRailways badRail ?_ ?_ φ _ (by omega)]
    rotate_left
    · intro n i s hi
      rw [fleet_CheckPool_L33, if_pos (by simp; omega), ck_pos ⟨by omega, by omega⟩, W_id (by omega) (by omega)]
      unfold badRail
      cases s with
      | true => rw [gcall_f (by simp), Option.bind_some, gcall_f (by simp)]; rfl
      | false =>
        rw [gcall_t rfl, calendar_Check_eq _ hφ, Option.bind_some]
        cases okCal (gt x.fRailways i).fCalendar with
        | false => rw [gcall_f (by simp)]; rfl
        | true => rw [gcall_t (by simp), sign_Valid_eq _ (by omega)]; rfl
    · intro n s; rw [fleet_CheckPool_L33, if_neg (by simp)]
    show fleet_CheckPool_j29 φ (badPool x) = _
    unfold fleet_CheckPool_j29
    cases badPool x <;> rfl
end Px
end
section
namespace Px
open Go
set_option linter.unusedVariables false
set_option linter.unusedSimpArgs false
set_option maxRecDepth 100000
def refOK (it : Item) : Bool := bif eqRefB it.fRef (Ref.mk 0 0) then it.fKind != 14 else (((decide (0 ≤ it.fRef.fRailway) && decide (it.fRef.fRailway < 16)) && decide (1 ≤ it.fRef.fNo)) && decide (it.fRef.fNo ≤ 4096))
theorem edi_reference_eq (φ : Nat) (it : Item) : edi_reference φ it = some (refOK it) := by
  unfold edi_reference refOK
  cases eqRefB it.fRef (Ref.mk 0 0) <;> rfl
theorem edi_j106_eq (φ : Nat) (hφ : 11 < φ) (it : Item) (v : Bool) :
    edi_fields_L120 φ it (edi_fields_j106 φ it) φ 0 v = some (((v && [0, 0, 0, it.fNumber, 0, it.fTo, 0, it.fDest, it.fClass, it.fWeight, it.fAmount].all fun x => x == 0) && (it.fText == str_c1)) && ((it.fParts.length : Int) == 0)) := by
  refine loop_up0 (edi_fields_L120 φ it (edi_fields_j106 φ it)) 11 (fun n s => s = (v && ([0, 0, 0, it.fNumber, 0, it.fTo, 0, it.fDest, it.fClass, it.fWeight, it.fAmount].take n).all fun x => x == 0)) (fun o => o = some (((v && [0, 0, 0, it.fNumber, 0, it.fTo, 0, it.fDest, it.fClass, it.fWeight, it.fAmount].all fun x => x == 0) && (it.fText == str_c1)) && ((it.fParts.length : Int) == 0))) ?_ ?_ φ v (by simp) hφ
  · intro n m s hm hs hk
    rw [edi_fields_L120, if_pos (by simp; omega), ck_pos ⟨by omega, by omega⟩, W_id (by omega) (by omega)]
    refine hk _ ?_
    rw [all_take_succ _ _ _ hm, hs, Bool.and_assoc]
  · intro n s hs
    rw [edi_fields_L120, if_neg (by simp), hs]
    rfl
def plIn (p : Pool) (it : Item) : Bool := decide (0 ≤ it.fPlace) && decide (it.fPlace < (p.fNetwork.fPlaces.length : Int))
/-- The fields of a delivery or a receipt. -/
def fldDR (p : Pool) (it : Item) : Bool :=
  plIn p it && bet it.fWagon 0 ((p.fFleet.fWagons.length : Int) - 1) && ((gt p.fNetwork.fPlaces it.fPlace).fKind == 3) && ((it.fOther == (gt p.fNetwork.fPlaces it.fPlace).fRailway) || (it.fOther == (gt p.fNetwork.fPlaces it.fPlace).fOther)) &&
  bet it.fFrom 0 1073741824 && bet it.fCode 0 8 && (it.fNumber == 0) && (it.fTo == 0) && (it.fDest == 0) && (it.fClass == 0) && (it.fWeight == 0) && (it.fAmount == 0) && (it.fText == str_c1) && ((it.fParts.length : Int) == 0)
theorem edi_fields_eq34 (φ : Nat) (hφ : 11 < φ) (p : Pool) (it : Item) (hk : it.fKind = 3 ∨ it.fKind = 4) (hw : p.fFleet.fWagons.length ≤ 4096) : edi_fields φ p it = some (fldDR p it) := by
  have h161 : edi_fields φ p it = edi_fields_j24 φ p it true := by
    unfold edi_fields
    rcases hk with h | h <;> simp only [h] <;> rfl
  have hW : W ((p.fFleet.fWagons.length : Int) - 1) = (p.fFleet.fWagons.length : Int) - 1 := W_id (by omega) (by omega)
  rw [h161]
  unfold edi_fields_j24 edi_fields_j44 fldDR
  rw [if_pos rfl]
  have hpl : (decide (0 ≤ it.fPlace) && decide (it.fPlace < (p.fNetwork.fPlaces.length : Int))) = plIn p it := rfl
  rw [hpl, hW]
  cases hp : plIn p it with
  | true =>
    unfold plIn at hp
    rw [if_pos rfl, ck_pos (by simpa using hp), edi_j106_eq φ hφ]
    congr 1
    unfold bet
    generalize (it.fText == str_c1) = z
    rw [Bool.eq_iff_iff]
    simp only [List.all_cons, List.all_nil, Bool.and_eq_true, Bool.or_eq_true, decide_eq_true_eq, beq_iff_eq, bne_iff_ne, ne_eq, beq_self_eq_true, true_and, and_true]
    generalize (gt p.fNetwork.fPlaces it.fPlace).fKind = k
    constructor
    · intro h
      obtain ⟨⟨⟨h1, h2⟩, h3⟩, h4⟩ := h
      refine ⟨⟨⟨⟨⟨⟨⟨⟨⟨⟨⟨⟨?_, ?_⟩, ?_⟩, ?_⟩, ?_⟩, ?_⟩, ?_⟩, ?_⟩, ?_⟩, ?_⟩, ?_⟩, h3⟩, h4⟩ <;> first | omega | grind
    · intro h
      grind
  | false =>
    rw [if_neg (by simp), edi_j106_eq φ hφ]
    simp
/-- Whether an item that is a delivery or a receipt is valid. -/
def okDR (p : Pool) (it : Item) : Bool := refOK it && fldDR p it
theorem edi_Check_eq34 (φ : Nat) (hφ : 800000 < φ) (p : Pool) (it : Item) (hk : it.fKind = 3 ∨ it.fKind = 4) :
    edi_Check φ p it = some (if chkPool p ≠ 0 then chkPool p else if okDR p it = true then 0 else 110) := by
  unfold edi_Check
  simp only [Pool.eta', Item.eta', fleet_CheckPool_eq φ hφ, edi_reference_eq, Option.bind_some]
  by_cases h : chkPool p = 0
  · rw [if_neg (by simp [h]), if_neg (fun e : chkPool p ≠ 0 => e h)]
    unfold okDR
    have hw : p.fFleet.fWagons.length ≤ 4096 := by
      unfold chkPool at h
      by_cases hn : chkNet p.fNetwork = 0
      · rw [if_neg (fun e : chkNet p.fNetwork ≠ 0 => e hn)] at h
        by_cases hf : chkFleet p.fFleet = 0
        · exact (chkFleet_ok hf).2.1
        · rw [if_pos hf] at h; exact absurd h hf
      · rw [if_pos hn] at h; exact absurd h hn
    cases hr : refOK it with
    | false => rw [gcall_f (by simp)]; rfl
    | true =>
      rw [gcall_t (by simp), edi_fields_eq34 φ (by omega) p it hk hw]
      cases fldDR p it <;> rfl
  · rw [if_pos (by simp [h]), if_pos h]
theorem okDR_place {p : Pool} {it : Item} (h : okDR p it = true) : (0 ≤ it.fPlace ∧ it.fPlace < (p.fNetwork.fPlaces.length : Int)) ∧ (0 ≤ it.fFrom ∧ it.fFrom ≤ 1073741824) ∧ (0 ≤ it.fCode ∧ it.fCode ≤ 8) ∧ (0 ≤ it.fWagon ∧ it.fWagon < (p.fFleet.fWagons.length : Int)) := by
  simp only [okDR, fldDR, plIn, Bool.and_eq_true, decide_eq_true_eq, bet_iff] at h
  obtain ⟨_, h⟩ := h
  have h1 := h.1.1.1.1.1.1.1.1
  obtain ⟨⟨⟨⟨⟨h2, h3⟩, _⟩, _⟩, h4⟩, h5⟩ := h1
  exact ⟨h2, h4, h5, h3.1, by omega⟩
end Px
end
section
namespace Px
open Go
set_option linter.unusedVariables false
set_option linter.unusedSimpArgs false
theorem eqRef_iff {x y : Ref} : eqRefB x y = true ↔ x = y := by
  cases x; cases y; simp [eqRefB]
theorem small_ex (φ : Nat) (hφ : 100 < φ) (p : Pool) : ∃ b, ref24_SmallPool φ p = some b ∧ (b = true → p.fRailways.length ≤ 17) := by
  unfold ref24_SmallPool
  split
  · exact ⟨false, rfl, by simp⟩
  · rename_i h
    have hr : p.fRailways.length ≤ 17 := by
      simp only [Bool.or_eq_true, decide_eq_true_eq, not_or] at h; omega
    refine loop_up0 (fun n i (_ : Unit) => ref24_SmallPool_L40 φ p (ref24_SmallPool_j38 φ) n i) p.fRailways.length (fun _ _ => True) (fun o => ∃ b, o = some b ∧ (b = true → p.fRailways.length ≤ 17)) ?_ ?_ φ () trivial (by omega)
    · intro n i _ hi _ hk
      rw [ref24_SmallPool_L40, if_pos (by simp; omega), ck_pos ⟨by omega, by omega⟩]
      split
      · exact ⟨false, rfl, by simp⟩
      · rw [W_id (by omega) (by omega)]; exact hk () trivial
    · intro n _ _
      rw [ref24_SmallPool_L40, if_neg (by simp)]; exact ⟨true, rfl, fun _ => hr⟩
theorem fewR_ex (φ : Nat) (m : Nat) (hm : m ≤ 100000) (hφ : m < φ) (l : List Report) : ∃ b, ref24_FewReports φ l (m : Int) = some b ∧ (b = true → l.length ≤ m) := by
  unfold ref24_FewReports
  split
  · exact ⟨false, rfl, by simp⟩
  · rename_i h
    have hr : l.length ≤ m := by
      simp only [decide_eq_true_eq] at h; omega
    refine loop_up0 (fun n i (_ : Unit) => ref24_FewReports_L6 φ l (ref24_FewReports_j4 φ) n i) l.length (fun _ _ => True) (fun o => ∃ b, o = some b ∧ (b = true → l.length ≤ m)) ?_ ?_ φ () trivial (by omega)
    · intro n i _ hi _ hk
      rw [ref24_FewReports_L6, if_pos (by simp; omega), ck_pos ⟨by omega, by omega⟩]
      split
      · exact ⟨false, rfl, by simp⟩
      · rw [W_id (by omega) (by omega)]; exact hk () trivial
    · intro n _ _
      rw [ref24_FewReports_L6, if_neg (by simp)]; exact ⟨true, rfl, fun _ => hr⟩
theorem few_ex (φ : Nat) (hφ : 100 < φ) (p : Pool) (l : List Report) : ∃ b, law27_few φ p l = some b ∧ (b = true → l.length ≤ 60 ∧ p.fRailways.length ≤ 17) := by
  unfold law27_few
  obtain ⟨a, h1, h2⟩ := small_ex φ hφ p
  obtain ⟨c, h3, h4⟩ := fewR_ex φ 60 (by omega) (by omega) l
  simp only [Pool.eta', h1, Option.bind_some]
  cases a with
  | false => rw [gcall_f (by simp)]; exact ⟨false, rfl, by simp⟩
  | true =>
    rw [gcall_t rfl]
    have h3' : ref24_FewReports φ l 60 = some c := h3
    rw [h3', Option.bind_some]
    exact ⟨c, by simp, fun e => ⟨h4 e, h2 rfl⟩⟩
end Px
end
section
namespace Px
open Go
set_option linter.unusedVariables false
set_option linter.unusedSimpArgs false
/-- The receipts; the deliveries in their order; the pairs; the handovers. -/
def isD (p : Pool) (r : Report) : Bool := r.fItem.fKind == 3 && okDR p r.fItem
def isR (p : Pool) (r : Report) : Bool := r.fItem.fKind == 4 && okDR p r.fItem
def rcpI (p : Pool) (l : List Report) : List Int := idxF (isR p) l
def dlvI (p : Pool) (l : List Report) : List Int := sortS (pairLt l) (idxF (isD p) l)
def prs (p : Pool) (l : List Report) : List (Nat → Int) := pairsOf p l (rcpI p l) (dlvI p l)
def mts (p : Pool) (l : List Report) : List Handover := if chkPool p = 0 then sortS matLt ((prs p l).map (mkH l)) else []
theorem rcpI_mem {p : Pool} {l : List Report} {i : Int} (h : i ∈ rcpI p l) : (0 ≤ i ∧ i < (l.length : Int)) ∧ (gt l i).fItem.fKind = 4 ∧ okDR p (gt l i).fItem = true := by
  obtain ⟨h1, h2, h3⟩ := idxF_mem.1 h
  simp only [isR, Bool.and_eq_true, beq_iff_eq] at h3
  exact ⟨⟨h1, h2⟩, h3⟩
theorem dlvI_mem {p : Pool} {l : List Report} {i : Int} (h : i ∈ dlvI p l) : (0 ≤ i ∧ i < (l.length : Int)) ∧ (gt l i).fItem.fKind = 3 ∧ okDR p (gt l i).fItem = true := by
  obtain ⟨h1, h2, h3⟩ := idxF_mem.1 (sortS_sub _ h)
  simp only [isD, Bool.and_eq_true, beq_iff_eq] at h3
  exact ⟨⟨h1, h2⟩, h3⟩
theorem dlvI_len (p : Pool) (l : List Report) : (dlvI p l).length ≤ l.length := by
  unfold dlvI; rw [sortS_len (swo_pair l)]; exact idxF_len _ _
theorem prs_len (p : Pool) (l : List Report) : (prs p l).length ≤ l.length := Nat.le_trans (pairs_len p l _ _) (dlvI_len p l)
theorem mts_len (p : Pool) (l : List Report) : (mts p l).length ≤ l.length := by
  unfold mts
  split
  · rw [sortS_len swo_mat]; simpa using prs_len p l
  · simp
theorem ok34 (φ : Nat) (hφ : 800000 < φ) (p : Pool) (hc : chkPool p = 0) (l : List Report) : ∀ r ∈ l, r.fItem.fKind = 3 ∨ r.fItem.fKind = 4 → ∃ e, edi_Check φ p r.fItem = some e ∧ (e == 0) = okDR p r.fItem := by
  intro r _ hk
  rw [edi_Check_eq34 φ hφ p _ hk, if_neg (fun e : chkPool p ≠ 0 => e hc)]
  refine ⟨_, rfl, ?_⟩
  cases okDR p r.fItem <;> rfl
theorem pairs_all (φ : Nat) (hφ : 800000 < φ) (p : Pool) (l : List Report) (hl : l.length ≤ 100000) : handover_pairs φ p l = some (if chkPool p = 0 then prs p l else []) := by
  by_cases hc : chkPool p = 0
  · obtain ⟨ds, s1, s2, s3⟩ := pairs_eq φ p l (okDR p) hl (by omega) (by rw [fleet_CheckPool_eq φ hφ, hc]) (ok34 φ hφ p hc l) (fun r _ _ h => (okDR_place h).1)
    rw [if_pos hc, s3]
    have : ds = dlvI p l := sortS_eq (swo_pair l) s1 s2
    rw [this]; rfl
  · rw [if_neg hc]
    unfold handover_pairs
    simp only [Pool.eta', fleet_CheckPool_eq φ hφ, Option.bind_some]
    rw [if_pos (by simpa using hc)]
theorem Match_all (φ : Nat) (hφ : 800000 < φ) (p : Pool) (l : List Report) (hl : l.length ≤ 100000) : handover_Match φ p l = some (mts p l) := by
  have hb : ∀ ps : List (Nat → Int), ps.length ≤ 100000 → (∀ x ∈ ps, (0 ≤ x 0 ∧ x 0 < (l.length : Int)) ∧ 0 ≤ x 1 ∧ x 1 < (l.length : Int)) → handover_pairs φ p l = some ps → handover_Match φ p l = some (sortS matLt (ps.map (mkH l))) := by
    intro ps hps hin he
    obtain ⟨ms, m1, m2, m3⟩ := sortStable_eHandover swo_mat (cmp_mat φ (by omega)) φ (ps.map (mkH l)) (fun _ _ => trivial) (by simp; omega) (by simp; omega)
    unfold handover_Match
    simp only [Pool.eta', he, Option.bind_some]
    rw [Match_loop φ l _ hps hin (by omega)]
    unfold handover_Match_j11
    rw [m3, Option.bind_some, sortS_eq swo_mat m1 m2]
  have hp := pairs_all φ hφ p l hl
  unfold mts
  by_cases hc : chkPool p = 0
  · rw [if_pos hc] at hp ⊢
    refine hb _ (Nat.le_trans (prs_len p l) hl) ?_ hp
    exact pairs_range (fun z hz => (rcpI_mem hz).1) (fun z hz => (dlvI_mem hz).1)
  · rw [if_neg hc] at hp ⊢
    exact hb [] (by simp) (by simp) hp
/-- What a valid pool says of a wagon's home. -/
theorem pool_home {p : Pool} (hc : chkPool p = 0) {w : Int} (hw : 0 ≤ w ∧ w < (p.fFleet.fWagons.length : Int)) :
    0 ≤ (gt p.fFleet.fWagons w).fHome ∧ (gt p.fFleet.fWagons w).fHome < (p.fNetwork.fPlaces.length : Int) := by
  have hm := gt_mem (l := p.fFleet.fWagons) hw.1 hw.2
  unfold chkPool at hc
  by_cases hn : chkNet p.fNetwork = 0
  case neg => rw [if_pos hn] at hc; exact absurd hc hn
  by_cases hf : chkFleet p.fFleet = 0
  case neg => rw [if_neg (fun e : chkNet p.fNetwork ≠ 0 => e hn), if_pos hf] at hc; exact absurd hc hf
  rw [if_neg (fun e : chkNet p.fNetwork ≠ 0 => e hn), if_neg (fun e : chkFleet p.fFleet ≠ 0 => e hf)] at hc
  obtain ⟨_, _, _, _, _, f6, _⟩ := chkFleet_ok hf
  have h2 := f6 _ hm
  simp only [okWagon, Bool.and_eq_true, bet_iff] at h2
  refine ⟨h2.1.1.2.1, ?_⟩
  cases hb : bigPool p with
  | true => rw [hb] at hc; cases hc
  | false =>
    cases hd : badPool p with
    | true => rw [hb, hd] at hc; cases hc
    | false =>
      unfold badPool at hd
      simp only [Bool.or_eq_false_iff, List.any_eq_false, beq_eq_false_iff_ne, decide_eq_true_eq, Bool.not_eq_true] at hd
      have := hd.1.1.1.2 _ hm
      omega
def chnC (p : Pool) (l : List Report) (w : Int) : List Custody := chainOf (homeC p w) w (mts p l)
theorem chn_all (φ : Nat) (hφ : 800000 < φ) (p : Pool) (l : List Report) (hl : l.length ≤ 100000) (hc : chkPool p = 0) (w : Int) (hw : 0 ≤ w ∧ w < (p.fFleet.fWagons.length : Int)) : handover_chain φ p l w = some (chnC p l w) := by
  have := mts_len p l
  exact chain_eq φ p l w _ (Match_all φ hφ p l hl) (by omega) (by omega) hw (pool_home hc hw)
theorem chnC_chn (p : Pool) (l : List Report) (w : Int) : Chn (chnC p l w) := by
  have := chain_inv w (mts p l) [] (homeC p w) (List.pairwise_singleton _ _)
  exact this
theorem chainFold_len (w : Int) : ∀ (ms : List Handover) (a : List Custody), a.length ≤ (ms.foldl (chainStep w) a).length ∧ (ms.foldl (chainStep w) a).length ≤ a.length + ms.length
  | [], a => ⟨Nat.le_refl _, Nat.le_refl _⟩
  | m :: ms, a => by
    have h1 := chainStep_len w a m
    have h2 := chainFold_len w ms (chainStep w a m)
    simp only [List.foldl_cons, List.length_cons]
    omega
theorem chnC_len (p : Pool) (l : List Report) (w : Int) : 1 ≤ (chnC p l w).length ∧ (chnC p l w).length ≤ l.length + 1 := by
  have h1 := chainFold_len w (mts p l) [homeC p w]
  have h2 := mts_len p l
  unfold chnC chainOf
  simp at h1 ⊢
  omega
theorem chainFold_pre (w : Int) : ∀ (ms : List Handover) (a : List Custody), ∃ b, ms.foldl (chainStep w) a = a ++ b
  | [], a => ⟨[], by simp⟩
  | m :: ms, a => by
    obtain ⟨b, hb⟩ := chainFold_pre w ms (chainStep w a m)
    have : ∃ b', chainStep w a m = a ++ b' := by
      unfold chainStep
      split
      · exact ⟨_, rfl⟩
      · exact ⟨[], by simp⟩
    obtain ⟨b', hb'⟩ := this
    exact ⟨b' ++ b, by rw [List.foldl_cons, hb, hb', List.append_assoc]⟩
theorem chnC_head (p : Pool) (l : List Report) (w : Int) : gt (chnC p l w) 0 = homeC p w := by
  obtain ⟨b, hb⟩ := chainFold_pre w (mts p l) [homeC p w]
  unfold chnC chainOf
  rw [hb]; rfl
/-- A chain is cut by a minute. -/
theorem chn_cut : ∀ (c : List Custody), Chn c → ∀ m : Int, ∃ i : Nat, i ≤ c.length ∧ c.filter (fun x => decide (x.fSpan.fFrom ≤ m)) = c.take i ∧ (∀ j : Nat, j < i → (gt c (j : Int)).fSpan.fFrom ≤ m) ∧ ∀ j : Nat, i ≤ j → j < c.length → m < (gt c (j : Int)).fSpan.fFrom
  | [], _, m => ⟨0, Nat.le_refl _, rfl, by omega, by simp⟩
  | x :: c, h, m => by
    have h' := List.pairwise_cons.1 h
    by_cases hx : x.fSpan.fFrom ≤ m
    · obtain ⟨i, h1, h2, h3, h4⟩ := chn_cut c h'.2 m
      have hg : ∀ j : Nat, gt (x :: c) ((j + 1 : Nat) : Int) = gt c (j : Int) := fun j => by simp [gt]
      refine ⟨i + 1, by simp; omega, ?_, fun j hj => ?_, fun j hj hj' => ?_⟩
      · rw [List.filter_cons_of_pos (by simpa using hx), h2]; rfl
      · cases j with
        | zero => exact hx
        | succ j => rw [hg]; exact h3 j (by omega)
      · cases j with
        | zero => omega
        | succ j => rw [hg]; exact h4 j (by omega) (by simp at hj'; omega)
    · have hall : ∀ y ∈ x :: c, m < y.fSpan.fFrom := fun y hy => by
        rcases List.mem_cons.1 hy with rfl | hy
        · omega
        · have := h'.1 y hy; omega
      refine ⟨0, Nat.zero_le _, ?_, by omega, fun j _ hj => hall _ (gt_mem (by omega) (by omega))⟩
      rw [List.take_zero, List.filter_eq_nil_iff]
      intro y hy
      have := hall y hy
      simp; omega
def cutC (c : List Custody) (m : Int) : List Custody := c.filter fun x => decide (x.fSpan.fFrom ≤ m)
def okWM (p : Pool) (w m : Int) : Prop := 0 ≤ w ∧ w < (p.fFleet.fWagons.length : Int) ∧ 0 ≤ m ∧ m ≤ 1073741824
instance (p : Pool) (w m : Int) : Decidable (okWM p w m) := by unfold okWM; infer_instance
theorem At_all (φ : Nat) (hφ : 800000 < φ) (p : Pool) (l : List Report) (hl : l.length ≤ 90000) (w m : Int) :
    handover_At φ p l w m = some (if chkPool p ≠ 0 then (0, chkPool p) else if okWM p w m then ((lastC (cutC (chnC p l w) m)).fRailway, 0) else (0, 1)) := by
  unfold handover_At
  rw [check_eq φ p w m _ (fleet_CheckPool_eq φ hφ p), Option.bind_some]
  by_cases hc : chkPool p = 0
  case neg => rw [if_pos hc, if_pos (by simpa using hc), if_pos hc]
  rw [if_neg (fun e : chkPool p ≠ 0 => e hc), if_neg (fun e : chkPool p ≠ 0 => e hc)]
  by_cases hv : okWM p w m
  case neg =>
    have hv' : ¬ (0 ≤ w ∧ w < (p.fFleet.fWagons.length : Int) ∧ 0 ≤ m ∧ m ≤ 1073741824) := hv
    rw [if_neg hv', if_pos (by decide), if_neg hv]
  have hv' : 0 ≤ w ∧ w < (p.fFleet.fWagons.length : Int) ∧ 0 ≤ m ∧ m ≤ 1073741824 := hv
  rw [if_pos hv', if_neg (by decide), if_pos hv]
  obtain ⟨w0, w1, m0, m1⟩ := hv
  rw [chn_all φ hφ p l (by omega) hc w ⟨w0, w1⟩, Option.bind_some]
  obtain ⟨c1, c2⟩ := chnC_len p l w
  have e : W (((chnC p l w).length : Int) - 1) = (((chnC p l w).length - 1 : Nat) : Int) := by rw [W_id (by omega) (by omega)]; omega
  obtain ⟨i, h1, h2, h3, h4⟩ := At_loop φ m (chnC p l w) (by omega) φ ((chnC p l w).length - 1) (by omega) ⟨0, by omega, by
    have : gt (chnC p l w) ((0 : Nat) : Int) = homeC p w := chnC_head p l w
    rw [this]; exact m0⟩ (by omega)
  rw [e, h4]
  obtain ⟨i0, k1, k2, k3, k4⟩ := chn_cut _ (chnC_chn p l w) m
  have : i0 = i + 1 := by
    by_cases q : i < i0
    · by_cases q2 : i + 1 < i0
      · have a := h3 (i + 1) (by omega) (by omega)
        have b := k3 (i + 1) q2
        omega
      · omega
    · have := k4 i (by omega) (by omega); omega
  unfold cutC
  rw [k2, this, take_succ_gt _ _ (by omega), lastC_app]
def spnC (c : List Custody) (u : Int) : List Custody := spansN c u (cutC c (u - 1)).length
theorem Spans_all (φ : Nat) (hφ : 800000 < φ) (p : Pool) (l : List Report) (hl : l.length ≤ 90000) (w u : Int) :
    handover_Spans φ p l w u = some (if chkPool p ≠ 0 then ([], chkPool p) else if okWM p w u then (spnC (chnC p l w) u, 0) else ([], 1)) := by
  unfold handover_Spans
  rw [check_eq φ p w u _ (fleet_CheckPool_eq φ hφ p), Option.bind_some]
  by_cases hc : chkPool p = 0
  case neg => rw [if_pos hc, if_pos (by simpa using hc), if_pos hc]
  rw [if_neg (fun e : chkPool p ≠ 0 => e hc), if_neg (fun e : chkPool p ≠ 0 => e hc)]
  by_cases hv : okWM p w u
  case neg =>
    have hv' : ¬ (0 ≤ w ∧ w < (p.fFleet.fWagons.length : Int) ∧ 0 ≤ u ∧ u ≤ 1073741824) := hv
    rw [if_neg hv', if_pos (by decide), if_neg hv]
  have hv' : 0 ≤ w ∧ w < (p.fFleet.fWagons.length : Int) ∧ 0 ≤ u ∧ u ≤ 1073741824 := hv
  rw [if_pos hv', if_neg (by decide), if_pos hv]
  obtain ⟨w0, w1, m0, m1⟩ := hv
  rw [chn_all φ hφ p l (by omega) hc w ⟨w0, w1⟩, Option.bind_some]
  obtain ⟨c1, c2⟩ := chnC_len p l w
  obtain ⟨i, h1, h2, h3, h4⟩ := Spans_loop φ u (chnC p l w) (by omega) (by omega)
  rw [h4]
  obtain ⟨i0, k1, k2, k3, k4⟩ := chn_cut _ (chnC_chn p l w) (u - 1)
  have : i0 = i := by
    by_cases q : i < i0
    · have a := k3 i q
      have b := h3 (by omega)
      omega
    · by_cases q2 : i0 < i
      · have a := k4 i0 (by omega) (by omega)
        have b := h2 i0 q2
        omega
      · omega
  unfold spnC cutC
  rw [k2, List.length_take, this, Nat.min_eq_left h1]
end Px
end
section
namespace Px
open Go
theorem sane27_true : law27_sane 1000000 = some true := by kernel_rfl
end Px
end
section
namespace Px
open Go
set_option linter.unusedVariables false
set_option linter.unusedSimpArgs false
theorem cut_spec {c : List Custody} (h : Chn c) (m : Int) : (cutC c m).length ≤ c.length ∧ cutC c m = c.take (cutC c m).length ∧ (∀ j : Nat, j < (cutC c m).length → (gt c (j : Int)).fSpan.fFrom ≤ m) ∧
    ∀ j : Nat, (cutC c m).length ≤ j → j < c.length → m < (gt c (j : Int)).fSpan.fFrom := by
  obtain ⟨i, h1, h2, h3, h4⟩ := chn_cut c h m
  have e : (cutC c m).length = i := by unfold cutC; rw [h2, List.length_take, Nat.min_eq_left h1]
  rw [e]
  exact ⟨h1, h2, h3, h4⟩
theorem spn_at (c : List Custody) (u : Int) (n i : Nat) (h : i < n) : gt (spansN c u n) (i : Int) = setTo (gt c (i : Int)) (if i + 1 < n then (gt c ((i + 1 : Nat) : Int)).fSpan.fFrom else u) := by
  cases n with
  | zero => omega
  | succ n =>
    unfold spansN
    by_cases q : i < n
    · rw [gt_app_left _ _ _ (by omega) (by simp; omega), if_pos (by omega), gt_nat (by simp; omega)]
      simp
    · have e : i = n := by omega
      subst e
      rw [gt_at (by simp), if_neg (by omega)]
theorem spnC_len (c : List Custody) (u : Int) : (spnC c u).length = (cutC c (u - 1)).length := spansN_len _ _ _
theorem chn_cut_pos {p : Pool} {l : List Report} {w : Int} {m : Int} (hm : 0 ≤ m) : 1 ≤ (cutC (chnC p l w) m).length := by
  obtain ⟨h1, _, _, h4⟩ := cut_spec (chnC_chn p l w) m
  obtain ⟨c1, _⟩ := chnC_len p l w
  by_cases q : 1 ≤ (cutC (chnC p l w) m).length
  · exact q
  · have := h4 0 (by omega) (by omega)
    have e : gt (chnC p l w) ((0 : Nat) : Int) = homeC p w := chnC_head p l w
    rw [e] at this
    have : (homeC p w).fSpan.fFrom = 0 := rfl
    omega
end Px
end
section
namespace Px
open Go
set_option linter.unusedVariables false
set_option linter.unusedSimpArgs false
/-- Each element of a chain but the first one comes from a handover. -/
def CI (w : Int) (M : List Handover) (a : List Custody) : Prop := ∀ i : Nat, i + 1 < a.length → ∃ h ∈ M, h.fWagon = w ∧ h.fAt = (gt a ((i + 1 : Nat) : Int)).fSpan.fFrom ∧ h.fFrom = (gt a (i : Int)).fRailway ∧ h.fTo = (gt a ((i + 1 : Nat) : Int)).fRailway ∧ h.fReceive = (gt a ((i + 1 : Nat) : Int)).fRef
theorem chain_ci (w : Int) (M : List Handover) : ∀ (ms : List Handover) (a : List Custody) (c : Custody), (∀ h ∈ ms, h ∈ M) → CI w M (a ++ [c]) → CI w M (ms.foldl (chainStep w) (a ++ [c]))
  | [], a, c, _, h => h
  | m :: ms, a, c, hM, h => by
    simp only [List.foldl_cons]
    unfold chainStep
    rw [lastC_app]
    split
    · rename_i hh
      simp only [Bool.and_eq_true, decide_eq_true_eq, beq_iff_eq] at hh
      refine chain_ci w M ms (a ++ [c]) _ (fun h hm => hM h (by simp [hm])) ?_
      intro i hi
      simp only [List.length_append, List.length_cons, List.length_nil] at hi
      have ga : ∀ (X : Custody) (j : Nat), j < (a ++ [c]).length → gt (a ++ [c] ++ [X]) (j : Int) = gt (a ++ [c]) (j : Int) := fun X j hj => gt_app_left _ _ _ (by omega) (by omega)
      by_cases q : i + 1 < (a ++ [c]).length
      · rw [ga _ _ q, ga _ _ (by omega)]
        exact h i q
      · have e : i = a.length := by simp at q; omega
        subst e
        refine ⟨m, hM m (by simp), hh.1.1, ?_⟩
        have g1 : ∀ X : Custody, gt (a ++ [c] ++ [X]) ((a.length + 1 : Nat) : Int) = X := fun X => gt_at (by simp)
        have g2 : gt (a ++ [c]) ((a.length : Nat) : Int) = c := gt_at rfl
        rw [g1, ga _ _ (by simp), g2]
        exact ⟨rfl, hh.1.2, rfl, rfl⟩
    · exact chain_ci w M ms a c (fun h hm => hM h (by simp [hm])) h
theorem chnC_ci (p : Pool) (l : List Report) (w : Int) : CI w (mts p l) (chnC p l w) := by
  have := chain_ci w (mts p l) (mts p l) [] (homeC p w) (fun _ h => h) (fun i hi => by simp at hi)
  exact this
/-- A handover is between two railways. -/
theorem mts_ft {p : Pool} {l : List Report} {h : Handover} (hh : h ∈ mts p l) : h.fFrom ≠ h.fTo := by
  unfold mts at hh
  split at hh
  · obtain ⟨x, hx, rfl⟩ := List.mem_map.1 (sortS_sub _ hh)
    obtain ⟨d, k, rfl, h1, h2, h3, h4⟩ := (pinv p l (rcpI p l) (dlvI p l)).pr x hx
    simp only [properB, Bool.and_eq_true, bne_iff_ne, ne_eq] at h3
    simp only [unfit, unf5, bool_or_false, bne_eq_false_iff_eq] at h4
    show (gt l d).fRef.fRailway ≠ (gt l k).fRef.fRailway
    rw [h4.1.1.1.1.2]
    exact h3.1
  · cases hh
def ptM (w : Int) (y : List Custody × Int) (i : Int) (h : Handover) : Bool :=
  ((((h.fWagon == w) && (h.fAt == (gt y.1 i).fSpan.fFrom)) && (h.fFrom == (gt y.1 (i - 1)).fRailway)) && (h.fTo == (gt y.1 i).fRailway)) && (eqRefB h.fReceive (gt y.1 i).fRef)
theorem part_find (φ : Nat) (w : Int) (y : List Custody × Int) (hs : List Handover) (i : Int) (hi : 1 ≤ i) (hi2 : i < (y.1.length : Int)) (hy : y.1.length ≤ 100000) (hl : hs.length ≤ 100000) (k : Bool → Option Bool) : ∀ (n j : Nat) (s : Bool), j ≤ hs.length → hs.length - j < n →
    (s = true ∨ ∃ q : Nat, j ≤ q ∧ q < hs.length ∧ ptM w y i (gt hs (q : Int)) = true) → law27_HandoverPartition_L136 φ w y hs i k n s (j : Int) = k true := by
  intro n
  induction n with
  | zero => intro j s _ h; omega
  | succ n ih =>
    intro j s hj hn hex
    rw [law27_HandoverPartition_L136]
    cases s with
    | true => rw [if_neg (by simp)]
    | false =>
      rcases hex with h | ⟨q, h1, h2, h3⟩
      · cases h
      · have w1 : W (i - 1) = i - 1 := W_id (by omega) (by omega)
        have w2 : W ((j : Int) + 1) = ((j + 1 : Nat) : Int) := by rw [W_id (by omega) (by omega)]; simp
        rw [if_pos (by simp; omega), ck_pos ⟨by omega, by omega⟩, ck_pos (fun _ => ⟨by omega, hi2⟩), w1, ck_pos (fun _ => ⟨by omega, by omega⟩), ck_pos (fun _ => ⟨by omega, hi2⟩), ck_pos (fun _ => ⟨by omega, hi2⟩), w2]
        refine ih (j + 1) _ (by omega) (by omega) ?_
        by_cases e : q = j
        · subst e; exact .inl h3
        · exact .inr ⟨q, by omega, h2, h3⟩
theorem handoverPartition_true (p : Pool) (l : List Report) (w u : Int) {A B C D : Prop} (_ : A) (_ : B) (_ : C) (_ : D) : ∃ φ, law27_HandoverPartition φ p l w u = some true := by
  refine ⟨1000000, ?_⟩
  have h8 : 800000 < 1000000 := by omega
  unfold law27_HandoverPartition
  obtain ⟨b, hb, hb2⟩ := few_ex 1000000 (by omega) p l
  simp only [Pool.eta', sane27_true, hb, Option.bind_some]
  rw [if_neg (by simp)]
  cases b with
  | false => rw [if_pos (by simp)]
  | true =>
  obtain ⟨hl, _⟩ := hb2 rfl
  rw [if_neg (by simp)]
  simp only [Spans_all _ h8 p l (by omega), Match_all _ h8 p l (by omega), Option.bind_some]
  by_cases hc : chkPool p = 0
  case neg =>
    simp only [if_pos hc]
    have : (chkPool p != 0) = true := by simpa using hc
    rw [this]; rfl
  simp only [if_neg (fun e : chkPool p ≠ 0 => e hc)]
  by_cases hu : okWM p w u
  case neg => simp only [if_neg hu]; rfl
  simp only [if_pos hu]
  have hch := chnC_chn p l w
  have hci := chnC_ci p l w
  obtain ⟨c1, c2⟩ := chnC_len p l w
  have hhd := chnC_head p l w
  have hml := mts_len p l
  have hft : ∀ h ∈ mts p l, h.fFrom ≠ h.fTo := fun h hh => mts_ft hh
  have hho := pool_home hc ⟨hu.1, hu.2.1⟩
  have e1 := spnC_len (chnC p l w) u
  by_cases h0 : u = 0
  · obtain ⟨b1, _, b3, _⟩ := cut_spec hch (u - 1)
    have : (cutC (chnC p l w) (u - 1)).length = 0 := by
      by_cases q : (cutC (chnC p l w) (u - 1)).length = 0
      · exact q
      · have := b3 0 (by omega)
        have e : gt (chnC p l w) ((0 : Nat) : Int) = homeC p w := hhd
        rw [e] at this
        have : (homeC p w).fSpan.fFrom = 0 := rfl
        omega
    rw [if_pos (by simp [h0]), e1, this]; rfl
  have pu := chn_cut_pos (p := p) (l := l) (w := w) (m := u - 1) (by have := hu.2.2; omega)
  rw [if_neg (by simpa using h0)]
  generalize mts p l = M at *
  generalize chnC p l w = c at *
  obtain ⟨b1, _, b3, b4⟩ := cut_spec hch (u - 1)
  have hu1 := hu.2.2
  obtain ⟨w0, w1, _⟩ := hu
  unfold spnC at *
  generalize hj : (cutC c (u - 1)).length = iu at *
  have g0 : gt (spansN c u iu) 0 = setTo (homeC p w) (if 0 + 1 < iu then (gt c ((0 + 1 : Nat) : Int)).fSpan.fFrom else u) := by
    have := spn_at c u iu 0 (by omega)
    rw [← hhd]; exact this
  have wl : W (((spansN c u iu).length : Int) - 1) = ((iu - 1 : Nat) : Int) := by rw [e1, W_id (by omega) (by omega)]; omega
  have gl := spn_at c u iu (iu - 1) (by omega)
  rw [if_neg (by omega)] at gl
  have hpos : (0 : Int) ≤ 0 ∧ (0 : Int) < ((spansN c u iu).length : Int) := ⟨by omega, by omega⟩
  have hlen0 : (((spansN c u iu).length : Int) == 0) = false := by rw [e1]; simp; omega
  rw [ck_pos (fun _ => hpos), ck_pos (fun _ => hpos)]
  simp only [wl]
  rw [ck_pos (fun _ => ⟨by omega, by omega⟩)]
  simp only [g0, gl, hlen0, setTo, homeC]
  have hr0 : eqRefB (Ref.mk 0 0) (Ref.mk 0 0) = true := rfl
  rw [if_neg (by simp [hr0]; omega), ck_pos ⟨w0, w1⟩, ck_pos (fun _ => hpos), ck_pos (fun _ => hho), if_neg (by simp; omega)]
  refine loop_up0 (fun n i (_ : Unit) => law27_HandoverPartition_L89 1000000 w (spansN c u iu, 0) M (law27_HandoverPartition_j87 1000000) n i) iu (fun _ _ => True) (fun o => o = some true) ?_ ?_ _ () trivial (by omega)
  · intro n i _ hi _ hk
    have wi : W ((i : Int) + 1) = (i : Int) + 1 := W_id (by omega) (by omega)
    have wp : W ((i : Int) - 1) = (i : Int) - 1 := W_id (by omega) (by omega)
    rw [law27_HandoverPartition_L89, if_pos (by simp only [decide_eq_true_eq, e1]; omega), ck_pos ⟨by omega, by simp only [e1]; omega⟩]
    simp only [wp]
    rw [ck_pos (fun h => ⟨by have := h.2; simp at this; omega, by simp only [e1]; omega⟩), ck_pos (fun h => ⟨by have := h.1.2; simp at this; omega, by simp only [e1]; omega⟩)]
    have hgi := spn_at c u iu i hi
    have hlt : (gt c (i : Int)).fSpan.fFrom < if i + 1 < iu then (gt c ((i + 1 : Nat) : Int)).fSpan.fFrom else u := by
      split
      · have := List.pairwise_iff_getElem.1 hch i (i + 1) (by omega) (by omega) (by omega)
        rw [gt_nat (by omega), gt_nat (by omega)]; exact this
      · have := b3 i hi; omega
    by_cases q : i = 0
    · subst q
      rw [if_neg (by rw [hgi]; simp [setTo] at hlt ⊢; omega)]
      show law27_HandoverPartition_L136 1000000 w (spansN c u iu, 0) M _ _ 1000000 (((0 : Nat) : Int) == 0) 0 = _
      have : (((0 : Nat) : Int) == 0) = true := rfl
      rw [this, law27_HandoverPartition_L136, if_neg (by simp)]
      unfold law27_HandoverPartition_j132 law27_HandoverPartition_j91
      rw [if_neg (by simp), wi]
      exact hk () trivial
    · obtain ⟨j, rfl⟩ : ∃ j, i = j + 1 := ⟨i - 1, by omega⟩
      have hgp := spn_at c u iu j (by omega)
      rw [if_pos (by omega)] at hgp
      obtain ⟨h, m0, m1, m2, m3, m4, m5⟩ := hci j (by omega)
      have hne := hft h m0
      have ej : ((j + 1 : Nat) : Int) - 1 = (j : Int) := by omega
      have hcond : ¬ ((decide ((gt (spansN c u iu) ((j + 1 : Nat) : Int)).fSpan.fTo ≤ (gt (spansN c u iu) ((j + 1 : Nat) : Int)).fSpan.fFrom) || (decide (0 < ((j + 1 : Nat) : Int)) && (((gt (spansN c u iu) ((j + 1 : Nat) : Int)).fSpan.fFrom != (gt (spansN c u iu) (((j + 1 : Nat) : Int) - 1)).fSpan.fTo) || ((gt (spansN c u iu) ((j + 1 : Nat) : Int)).fRailway == (gt (spansN c u iu) (((j + 1 : Nat) : Int) - 1)).fRailway)))) = true) := by
        rw [ej, hgi, hgp]
        simp only [setTo, Bool.or_eq_true, Bool.and_eq_true, decide_eq_true_eq, bne_iff_ne, ne_eq, beq_iff_eq]
        intro hx
        rcases hx with hx | ⟨_, hx | hx⟩
        · exact absurd (of_decide_eq_true hx) (Int.not_le.2 hlt)
        · exact absurd trivial hx
        · exact hne (by rw [m3, m4, hx])
      rw [if_neg hcond]
      have hq : (((j + 1 : Nat) : Int) == 0) = false := by simp; omega
      rw [hq]
      obtain ⟨k, hk1, hk2⟩ := mem_gt m0
      have hkk := part_find 1000000 w (spansN c u iu, 0) M ((j + 1 : Nat) : Int) (by omega) (by simp only [e1]; omega) (by simp only [e1]; omega) (by omega)
        (law27_HandoverPartition_j132 1000000 (law27_HandoverPartition_j91 1000000 ((j + 1 : Nat) : Int) (law27_HandoverPartition_L89 1000000 w (spansN c u iu, 0) M (law27_HandoverPartition_j87 1000000) n))) 1000000 0 false (by omega) (by omega)
        (.inr ⟨k, by omega, hk1, by
          rw [hk2]
          unfold ptM
          simp only [ej, hgi, hgp, setTo, Bool.and_eq_true, beq_iff_eq, eqRef_iff]
          exact ⟨⟨⟨⟨m1, m2⟩, m3⟩, m4⟩, m5⟩⟩)
      refine Eq.trans hkk ?_
      unfold law27_HandoverPartition_j132 law27_HandoverPartition_j91
      rw [if_neg (by simp), wi]
      exact hk () trivial
  · intro n _ _
    rw [law27_HandoverPartition_L89, if_neg (by simp [e1])]; rfl
end Px
end
