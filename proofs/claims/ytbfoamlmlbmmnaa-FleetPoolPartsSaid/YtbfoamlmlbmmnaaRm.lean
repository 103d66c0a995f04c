/- Powers modulo the prime of the keys, and what Valid says. Conditions: none. -/
import Derived.Test.YtbfoamlmlbmmnaaRe
namespace Px
open Go
set_option linter.unusedVariables false
set_option linter.unusedSimpArgs false
set_option maxRecDepth 100000
def PP : Nat := 2305843009213690799
def QQ : Nat := 1152921504606845399
/-- A power modulo the prime. -/
def pw (b n : Nat) : Nat := b ^ n % PP
theorem pw_lt (b n : Nat) : pw b n < PP := Nat.mod_lt _ (by decide)
theorem pw_zero (b : Nat) : pw b 0 = 1 := by simp [pw, PP]
theorem pw_add (b m n : Nat) : pw b m * pw b n % PP = pw b (m + n) := by
  unfold pw; rw [Nat.pow_add, ← Nat.mul_mod]
theorem pw_one (b : Nat) : pw b 1 = b % PP := by simp [pw]
theorem pw_mod (b n : Nat) : pw (b % PP) n = pw b n := by unfold pw; rw [← Nat.pow_mod]
theorem pw_two (b n : Nat) : pw (b * b % PP) n = pw b (2 * n) := by
  rw [pw_mod]; unfold pw; rw [Nat.pow_mul, Nat.pow_two]
theorem mul_mod_word {a b : Nat} (ha : a < PP) (hb : b < PP) (φ : Nat) (hφ : 5 < φ) : ((bits_Mul64 φ (a : Int) (b : Int)).bind fun y => (bits_Div64 φ y.1 y.2 2305843009213690799).bind fun z => some z.2) = some ((a * b % PP : Nat) : Int) := by
  have ha' : (a : Int) < 2305843009213690799 := by unfold PP at ha; omega
  have hb' : (b : Int) < 2305843009213690799 := by unfold PP at hb; omega
  have hp := mul_bd (by omega : 0 ≤ (a : Int)) (by omega : 0 ≤ (b : Int)) (by omega : (a : Int) ≤ 2305843009213690798) (by omega : (b : Int) ≤ 2305843009213690798)
  rw [Mul64_eq φ _ _ (by omega) (by omega) (by omega) (by omega), Option.bind_some]
  generalize hz : (a : Int) * (b : Int) = z at *
  rw [Div64_eq φ hφ _ _ _ (by omega) (by omega) (by omega) (by omega) (by omega), Option.bind_some]
  congr 1
  have : z / 18446744073709551616 * 18446744073709551616 + z % 18446744073709551616 = z := by omega
  rw [this, ← hz, Int.natCast_emod, Int.natCast_mul]; rfl
theorem mod_P {a : Nat} (h : a < PP) : ((a : Int)).tmod 2305843009213690799 = (a : Int) := by
  unfold PP at h
  rw [Int.tmod_eq_emod_of_nonneg (by omega)]; omega
theorem sign_Pow_eq (φ : Nat) (hφ : 100 < φ) (b n : Nat) (hb : b < 18446744073709551616) (hn : n < 18446744073709551616) : sign_Pow φ (b : Int) (n : Int) = some ((pw b n : Nat) : Int) := by
  unfold sign_Pow
  obtain ⟨L, eL, hL, h1, h2⟩ := Len64_eq φ (n : Int) (by omega) (by omega)
  rw [eL, Option.bind_some]
  rw [Int.toNat_natCast] at h1 h2
  have hbm : ((b : Int)).tmod 2305843009213690799 = ((b % PP : Nat) : Int) := by
    rw [Int.tmod_eq_emod_of_nonneg (by omega)]; unfold PP; omega
  refine loop_up0 (fun k i v => sign_Pow_L9 φ (b : Int) (n : Int) (L : Int) (sign_Pow_j6 φ) k v i) L (fun i v => v = ((pw b (n / 2 ^ (L - i)) : Nat) : Int)) (fun o => o = some ((pw b n : Nat) : Int)) ?_ ?_ φ 1 ?_ (by omega)
  · intro k i v hi hv hs
    rw [sign_Pow_L9, if_pos (by simp; omega)]
    subst hv
    rw [mod_P (pw_lt _ _)]
    have hm := mul_mod_word (pw_lt b (n / 2 ^ (L - i))) (pw_lt b (n / 2 ^ (L - i))) φ (by omega)
    -- the square
    have hp := mul_bd (m := 2305843009213690798) (n := 2305843009213690798) (a := ((pw b (n / 2 ^ (L - i)) : Nat) : Int)) (b := ((pw b (n / 2 ^ (L - i)) : Nat) : Int)) (by omega) (by omega) (by have := pw_lt b (n / 2 ^ (L - i)); unfold PP at this; omega) (by have := pw_lt b (n / 2 ^ (L - i)); unfold PP at this; omega)
    have e1 := Mul64_eq φ ((pw b (n / 2 ^ (L - i)) : Nat) : Int) ((pw b (n / 2 ^ (L - i)) : Nat) : Int) (by omega) (by have := pw_lt b (n / 2 ^ (L - i)); unfold PP at this; omega) (by omega) (by have := pw_lt b (n / 2 ^ (L - i)); unfold PP at this; omega)
    rw [e1, Option.bind_some] at hm
    rw [e1, Option.bind_some]
    have hw1 : W ((L : Int) - 1) = (L : Int) - 1 := W_id (by omega) (by omega)
    have hw2 : W ((L : Int) - 1 - (i : Int)) = ((L - 1 - i : Nat) : Int) := by rw [W_id (by omega) (by omega)]; omega
    cases hdv : bits_Div64 φ (((pw b (n / 2 ^ (L - i)) : Nat) : Int) * ((pw b (n / 2 ^ (L - i)) : Nat) : Int) / 18446744073709551616) (((pw b (n / 2 ^ (L - i)) : Nat) : Int) * ((pw b (n / 2 ^ (L - i)) : Nat) : Int) % 18446744073709551616) 2305843009213690799 with
    | none => rw [hdv] at hm; cases hm
    | some z =>
      rw [hdv, Option.bind_some] at hm
      have hz : z.2 = ((pw b (n / 2 ^ (L - i)) * pw b (n / 2 ^ (L - i)) % PP : Nat) : Int) := Option.some.inj hm
      rw [pw_add] at hz
      rw [Option.bind_some, eL, Option.bind_some, hw1, hw2, ck_pos (by omega), hz]
      have hsh := shr_eq (c := (n : Int)) (k := ((L - 1 - i : Nat) : Int)) (by omega) (by omega) (by omega)
      have hone : U ((BitVec.ofInt (IntKind.bits .u64) ((n : Int).fdiv (2 ^ (min (((L - 1 - i : Nat) : Int)).toNat (IntKind.bits .u64)))) &&& BitVec.ofInt (IntKind.bits .u64) 1).toNat) = ((n / 2 ^ (L - 1 - i) % 2 : Nat) : Int) := by
        rw [hsh, Int.toNat_natCast, Int.toNat_natCast]
        show U ((BitVec.ofInt 64 ((n / 2 ^ (L - 1 - i) : Nat) : Int) &&& BitVec.ofInt 64 1).toNat : Int) = _
        have hd : n / 2 ^ (L - 1 - i) ≤ n := Nat.div_le_self _ _
        rw [BitVec.toNat_and, ofInt_toNat (Int.natCast_nonneg _) (by omega), ofInt_toNat (by omega) (by omega), U_nat (and_lt (by omega)), Int.toNat_natCast]
        show ((n / 2 ^ (L - 1 - i) &&& 1 : Nat) : Int) = _
        rw [Nat.and_one_is_mod]
      rw [hone]
      have hhalf : n / 2 ^ (L - i) = n / 2 ^ (L - 1 - i) / 2 := by
        rw [Nat.div_div_eq_div_mul, ← Nat.pow_succ]; congr 2; omega
      have hidx : L - (i + 1) = L - 1 - i := by omega
      have hW : W ((i : Int) + 1) = (i : Int) + 1 := W_id (by omega) (by omega)
      have hbit := Nat.mod_two_eq_zero_or_one (n / 2 ^ (L - 1 - i))
      rcases hbit with hbit | hbit
      · rw [hbit, if_neg (by simp)]
        unfold sign_Pow_j16
        rw [hW]
        refine hs _ ?_
        rw [hidx, hhalf]; congr 2; omega
      · rw [hbit, if_pos (by simp), mod_P (pw_lt _ _), hbm]
        have hm2 := mul_mod_word (pw_lt b (n / 2 ^ (L - i) + n / 2 ^ (L - i))) (Nat.mod_lt b (by decide : 0 < PP)) φ (by omega)
        unfold sign_Pow_j16
        rw [hW]
        have key : ∀ (X : Option (Int × Int)) (G : Int × Int → Option (Int × Int)) (K : Int → Option Int) (r : Int), (X.bind fun y => (G y).bind fun z => some z.2) = some r → (X.bind fun y => (G y).bind fun z => K z.2) = K r := by
          intro X G K r h
          cases X with
          | none => cases h
          | some y =>
            rw [Option.bind_some] at h ⊢
            cases hG : G y with
            | none => rw [hG] at h; cases h
            | some z => rw [hG, Option.bind_some] at h; rw [Option.bind_some, Option.some.inj h]
        have := key _ (fun y => bits_Div64 φ y.1 y.2 2305843009213690799) (fun v => sign_Pow_L9 φ (b : Int) (n : Int) (L : Int) (sign_Pow_j6 φ) k v ((i : Int) + 1)) _ hm2
        refine Eq.trans this ?_
        refine hs _ ?_
        rw [← pw_one b, pw_add, hidx, hhalf]; congr 2; omega
  · intro k v hv
    rw [sign_Pow_L9, if_neg (by simp), hv]
    unfold sign_Pow_j6
    rw [Nat.sub_self, Nat.pow_zero, Nat.div_one]
  · rw [Nat.sub_zero, Nat.div_eq_of_lt h1, pw_zero]; rfl
theorem times_loop (φ : Nat) (k : Int → Option Int) : ∀ (m : Nat) (a b c n : Nat), m ≤ 64 → b < 2 ^ m → m < n → a < PP → c < PP → ref03_Times_L9 φ 2305843009213690799 k n (a : Int) (b : Int) (c : Int) = k (((c + a * b) % PP : Nat) : Int) := by
  intro m
  induction m with
  | zero =>
    intro a b c n hm64 hb hn ha hc
    obtain ⟨n, rfl⟩ : ∃ n', n = n' + 1 := ⟨n - 1, by omega⟩
    have : b = 0 := by simpa using hb
    subst this
    rw [ref03_Times_L9, if_neg (by simp), Nat.mul_zero, Nat.add_zero, Nat.mod_eq_of_lt hc]
  | succ m ih =>
    intro a b c n hm64 hb hn ha hc
    obtain ⟨n, rfl⟩ : ∃ n', n = n' + 1 := ⟨n - 1, by omega⟩
    by_cases h0 : b = 0
    · subst h0
      rw [ref03_Times_L9, if_neg (by simp), Nat.mul_zero, Nat.add_zero, Nat.mod_eq_of_lt hc]
    · rw [ref03_Times_L9, if_pos (by simp; omega)]
      have e1 : (b : Int).tdiv 2 = ((b / 2 : Nat) : Int) := by rw [Int.tdiv_eq_ediv_of_nonneg (by omega)]; omega
      have e2 : (b : Int).tmod 2 = ((b % 2 : Nat) : Int) := by rw [Int.tmod_eq_emod_of_nonneg (by omega)]; omega
      have hbl : (b / 2 : Nat) < 2 ^ m := by rw [Nat.pow_succ] at hb; omega
      have h64 : (2 : Nat) ^ m ≤ 2 ^ 63 := Nat.pow_le_pow_right (by decide) (by omega)
      have hb2 : U ((b / 2 : Nat) : Int) = ((b / 2 : Nat) : Int) := U_id (by omega) (by omega)
      have ha0 := ha; have hc0 := hc
      unfold PP at ha hc
      have e3 : (U ((a : Int) + (a : Int))).tmod 2305843009213690799 = (((a + a) % PP : Nat) : Int) := by
        rw [U_id (by omega) (by omega), Int.tmod_eq_emod_of_nonneg (by omega)]; unfold PP; omega
      have e4 : (U ((c : Int) + (a : Int))).tmod 2305843009213690799 = (((c + a) % PP : Nat) : Int) := by
        rw [U_id (by omega) (by omega), Int.tmod_eq_emod_of_nonneg (by omega)]; unfold PP; omega
      unfold ref03_Times_j12
      rw [e1, e2, e3, e4, hb2]
      have hab : a * b = (a + a) * (b / 2) + a * (b % 2) := by
        conv => lhs; rw [← Nat.div_add_mod b 2]
        rw [Nat.mul_add, ← Nat.mul_assoc]; congr 1; rw [Nat.mul_two]
      have hfin : ∀ c' : Nat, (c' + (a + a) % PP * (b / 2)) % PP = (c' + (a + a) * (b / 2)) % PP := fun c' => by
        rw [Nat.add_mod, Nat.mul_mod, Nat.mod_mod, ← Nat.mul_mod, ← Nat.add_mod]
      have hlt : ∀ z : Nat, z % PP < PP := fun z => Nat.mod_lt _ (by decide)
      rcases Nat.mod_two_eq_zero_or_one b with hbit | hbit
      · rw [hbit, if_neg (by simp), ck_pos (by omega), ih ((a + a) % PP) (b / 2) c n (by omega) hbl (by omega) (hlt _) hc0, hfin, hab, hbit, Nat.mul_zero, Nat.add_zero]
      · rw [hbit, if_pos (by simp), ck_pos (by omega), ck_pos (by omega), ih ((a + a) % PP) (b / 2) ((c + a) % PP) n (by omega) hbl (by omega) (hlt _) (hlt _), hfin, hab, hbit, Nat.mul_one, Nat.mod_add_mod]
        congr 3; omega
theorem ref03_Times_eq (φ : Nat) (hφ : 70 < φ) (a b : Nat) (ha : a < PP) (hb : b < PP) : ref03_Times φ (a : Int) (b : Int) 2305843009213690799 = some ((a * b % PP : Nat) : Int) := by
  unfold ref03_Times
  have h64 : b < 2 ^ 64 := Nat.lt_trans hb (by decide)
  have := times_loop φ (ref03_Times_j5 φ) 64 a b 0 φ (by omega) h64 (by omega) ha (by decide)
  rw [Nat.zero_add] at this
  exact this
theorem pow_loop (φ : Nat) (hφ : 100 < φ) (k : Int → Option Int) : ∀ (m : Nat) (a e c n : Nat), m ≤ 64 → e < 2 ^ m → m < n → a < PP → c < PP → ref03_Pow_L8 φ k n (a : Int) (e : Int) (c : Int) = k ((c * pw a e % PP : Nat) : Int) := by
  intro m
  induction m with
  | zero =>
    intro a e c n _ he hn ha hc
    obtain ⟨n, rfl⟩ : ∃ n', n = n' + 1 := ⟨n - 1, by omega⟩
    have : e = 0 := by simpa using he
    subst this
    rw [ref03_Pow_L8, if_neg (by simp), pw_zero, Nat.mul_one, Nat.mod_eq_of_lt hc]
  | succ m ih =>
    intro a e c n hm64 he hn ha hc
    obtain ⟨n, rfl⟩ : ∃ n', n = n' + 1 := ⟨n - 1, by omega⟩
    by_cases h0 : e = 0
    · subst h0
      rw [ref03_Pow_L8, if_neg (by simp), pw_zero, Nat.mul_one, Nat.mod_eq_of_lt hc]
    · rw [ref03_Pow_L8, if_pos (by simp; omega)]
      have e1 : (e : Int).tdiv 2 = ((e / 2 : Nat) : Int) := by rw [Int.tdiv_eq_ediv_of_nonneg (by omega)]; omega
      have e2 : (e : Int).tmod 2 = ((e % 2 : Nat) : Int) := by rw [Int.tmod_eq_emod_of_nonneg (by omega)]; omega
      have hel : (e / 2 : Nat) < 2 ^ m := by rw [Nat.pow_succ] at he; omega
      have h64 : (2 : Nat) ^ m ≤ 2 ^ 63 := Nat.pow_le_pow_right (by decide) (by omega)
      have hU : U ((e / 2 : Nat) : Int) = ((e / 2 : Nat) : Int) := U_id (by omega) (by omega)
      have hlt : ∀ z : Nat, z % PP < PP := fun z => Nat.mod_lt _ (by decide)
      unfold ref03_Pow_j11
      rw [e1, e2, hU, ref03_Times_eq φ (by omega) a a ha ha]
      have hab : pw a e = pw (a * a % PP) (e / 2) * pw a (e % 2) % PP := by
        rw [pw_two, pw_add, Nat.div_add_mod]
      rcases Nat.mod_two_eq_zero_or_one e with hbit | hbit
      · rw [hbit, if_neg (by simp), Option.bind_some, ih _ _ _ n (by omega) hel (by omega) (hlt _) hc, hab, hbit, pw_zero, Nat.mul_one, Nat.mod_eq_of_lt (pw_lt _ _)]
      · rw [hbit, if_pos (by simp), ref03_Times_eq φ (by omega) c a hc ha, Option.bind_some, Option.bind_some, ih _ _ _ n (by omega) hel (by omega) (hlt _) (hlt _), hab, hbit, pw_one, Nat.mod_eq_of_lt ha]
        congr 2
        rw [Nat.mod_mul_mod, Nat.mul_mod_mod, Nat.mul_assoc, Nat.mul_comm a]
theorem ref03_Pow_eq (φ : Nat) (hφ : 100 < φ) (b n : Nat) (hn : n < 18446744073709551616) : ref03_Pow φ (b : Int) (n : Int) = some ((pw b n : Nat) : Int) := by
  unfold ref03_Pow
  have hbm : ((b : Int)).tmod 2305843009213690799 = ((b % PP : Nat) : Int) := by
    rw [Int.tmod_eq_emod_of_nonneg (by omega)]; unfold PP; omega
  rw [hbm]
  have := pow_loop φ hφ (ref03_Pow_j4 φ) 64 (b % PP) n 1 φ (by omega) (by simpa using hn) (by omega) (Nat.mod_lt _ (by decide)) (by decide)
  rw [pw_mod, Nat.one_mul, Nat.mod_eq_of_lt (pw_lt _ _)] at this
  exact this
/-- What Valid answers. -/
def okKey (x : Int) : Bool := decide (2 ≤ x) && decide (x < 2305843009213690799) && (pw x.toNat QQ == 1)
theorem natcast_beq (a : Nat) : (((a : Nat) : Int) == 1) = (a == 1) := by
  rw [Bool.eq_iff_iff, beq_iff_eq, beq_iff_eq]; omega
theorem sign_Valid_eq (φ : Nat) (hφ : 100 < φ) (x : Int) : sign_Valid φ x = some (okKey x) := by
  unfold sign_Valid okKey
  cases h : decide (2 ≤ x) && decide (x < 2305843009213690799) with
  | false => rw [gcall_f (by simp)]; simp
  | true =>
    simp only [Bool.and_eq_true, decide_eq_true_eq] at h
    have := sign_Pow_eq φ hφ x.toNat QQ (by omega) (by decide)
    rw [show ((x.toNat : Nat) : Int) = x by omega, show ((QQ : Nat) : Int) = 1152921504606845399 by decide] at this
    rw [gcall_t rfl, this, Option.bind_some, natcast_beq]
theorem ref03_Valid_eq (φ : Nat) (hφ : 100 < φ) (x : Int) : ref03_Valid φ x = some (okKey x) := by
  unfold ref03_Valid okKey
  cases h : decide (2 ≤ x) && decide (x < 2305843009213690799) with
  | false => rw [gcall_f (by simp)]; simp
  | true =>
    simp only [Bool.and_eq_true, decide_eq_true_eq] at h
    have := ref03_Pow_eq φ hφ x.toNat QQ (by decide)
    rw [show ((x.toNat : Nat) : Int) = x by omega, show ((QQ : Nat) : Int) = 1152921504606845399 by decide] at this
    rw [gcall_t rfl, this, Option.bind_some, natcast_beq]
theorem sq_neg {x : Nat} (h : x < PP) : (PP - x) * (PP - x) % PP = x * x % PP := by
  have e : (PP - x) * (PP - x) + (x * PP + x * PP) = x * x + PP * PP := by
    have h2 : PP = (PP - x) + x := by omega
    generalize PP - x = y at h2
    simp only [h2, Nat.mul_add, Nat.add_mul, Nat.mul_comm x y]; omega
  have h1 : ((PP - x) * (PP - x) + (x * PP + x * PP)) % PP = (PP - x) * (PP - x) % PP := by
    rw [← Nat.add_mul, Nat.add_mul_mod_self_right]
  have h2 : (x * x + PP * PP) % PP = x * x % PP := Nat.add_mul_mod_self_right _ _ _
  rw [← h1, e, h2]
theorem pw_odd_neg {x k : Nat} (h : x < PP) : (pw (PP - x) (2 * k + 1) + pw x (2 * k + 1)) % PP = 0 := by
  have e1 : pw (PP - x) (2 * k) = pw x (2 * k) := by rw [← pw_two, ← pw_two, sq_neg h]
  rw [← pw_add, ← pw_add, e1, pw_one, pw_one, Nat.mod_add_mod, Nat.add_mod_mod, ← Nat.mul_add, Nat.mul_mod, ← Nat.add_mod, Nat.sub_add_cancel (Nat.le_of_lt h), Nat.mod_self, Nat.mul_zero, Nat.zero_mod]
theorem neg_no_key {x : Int} (h : okKey x = true) : okKey (2305843009213690799 - x) = false := by
  cases h2 : okKey (2305843009213690799 - x) with
  | false => rfl
  | true =>
    simp only [okKey, Bool.and_eq_true, decide_eq_true_eq, beq_iff_eq] at h h2
    have hx : x.toNat < PP := by unfold PP; omega
    have := pw_odd_neg (x := x.toNat) (k := 576460752303422699) hx
    rw [show 2 * 576460752303422699 + 1 = QQ by decide, h.2, show PP - x.toNat = (2305843009213690799 - x).toNat by unfold PP; omega, h2.2] at this
    exact absurd this (by decide)
end Px
