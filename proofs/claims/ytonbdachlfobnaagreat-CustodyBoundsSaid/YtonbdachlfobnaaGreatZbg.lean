/- A part of the proof of custodyBounds_holds. Conditions: none. -/
import Derived.Test.YtonbdachlfobnaaGreatZbf
section
namespace Px
open Go
set_option linter.unusedVariables false
set_option linter.unusedSimpArgs false
/-- A zbi forwards, or backwards. -/
def bdI (r : Bool) (b : z7) : Int := if r = true then b.j else b.i
def bdJ (r : Bool) (b : z7) : Int := if r = true then b.i else b.j
def nI (r : Bool) (b : z7) : Nat := (bdI r b).toNat
def nJ (r : Bool) (b : z7) : Nat := (bdJ r b).toNat
def SolD (r : Bool) (L : List z7) (p : Int → Int) : Prop := ∀ b ∈ L, p (bdJ r b) - p (bdI r b) ≤ b.w
theorem zh8 {n : Nat} {b : z7} (h : okBd n b) (r : Bool) : 0 ≤ bdI r b ∧ bdI r b < (n : Int) ∧ 0 ≤ bdJ r b ∧ bdJ r b < (n : Int) ∧ -1099511627776 ≤ b.w ∧ b.w ≤ 1099511627776 := by
  obtain ⟨a1, a2, a3, a4, a5, a6⟩ := h
  cases r
  · exact ⟨a1, a2, a3, a4, a5, a6⟩
  · exact ⟨a3, a4, a1, a2, a5, a6⟩
theorem zs5 {r : Bool} {L : List z7} {p : Int → Int} (h : SolD r L p) : SolD (!r) L fun v => - p v := fun b hb => by
  have := h b hb
  cases r
  · simp only [bdI, bdJ, Bool.not_false, if_true, Bool.false_eq_true, if_false] at this ⊢; omega
  · simp only [bdI, bdJ, Bool.not_true, if_true, Bool.false_eq_true, if_false] at this ⊢; omega
/-- The greatest differences to the variable u. -/
structure zpl (r : Bool) (L : List z7) (n : Nat) (u : Int) (e : Int → Int) : Prop where
  sat : SolD r L e
  top : ∀ p, SolD r L p → ∀ v, 0 ≤ v → v < (n : Int) → p v - p u ≤ e v
  zero : e u = 0
/-- At the start: one variable. -/
def xs1 (u : Nat) : BF.X := fun v => if v = u then some 0 else none
theorem y9m {r : Bool} {n : Nat} {L : List z7} (hL : ∀ b ∈ L, okBd n b) {p : Int → Int} (hp : SolD r L p) {u : Nat} (hu : u < n) : BF.Feas (nI r) (nJ r) bW (xs1 u) L n := by
  refine ⟨⟨fun v => p (v : Int), p (u : Int), fun b hb => ?_, fun v c h => ?_⟩, fun b hb => ?_, fun v c h => ?_⟩
  · obtain ⟨a1, a2, a3, a4, _, _⟩ := zh8 (hL b hb) r
    have := hp b hb
    show p ((nJ r b : Nat) : Int) ≤ p ((nI r b : Nat) : Int) + bW b
    unfold nI nJ bW
    rw [show (((bdJ r b).toNat : Nat) : Int) = bdJ r b by omega, show (((bdI r b).toNat : Nat) : Int) = bdI r b by omega]
    omega
  · unfold xs1 at h
    split at h
    · rename_i e; cases h; subst e; show p (v : Int) - 0 ≤ p (v : Int); omega
    · cases h
  · obtain ⟨a1, a2, a3, a4, _, _⟩ := zh8 (hL b hb) r
    unfold nJ; omega
  · unfold xs1 at h
    split at h
    · rename_i e; subst e; exact hu
    · cases h
/-- What stands at the end, where all are reached. -/
theorem zwz {r : Bool} {n : Nat} {L : List z7} (hL : ∀ b ∈ L, okBd n b) {p : Int → Int} (hp : SolD r L p) {u : Nat} (hu : u < n) {x : BF.X} (hf : BF.Fix (nI r) (nJ r) bW L x) (hi : BF.Inv (nI r) (nJ r) bW (xs1 u) L x) (h0 : BF.le (x u) 0)
    (hall : ∀ v, v < n → (x v).isSome = true) : zpl r L n (u : Int) fun v => (x v.toNat).getD 0 := by
  have low : ∀ q, SolD r L q → ∀ v a, x v = some a → q (v : Int) - q (u : Int) ≤ a := by
    intro q hq v a hv
    obtain ⟨m, hw⟩ := hi v a hv
    have := BF.Wk.low (p := fun v : Nat => q (v : Int)) (C := q (u : Int)) (fun b hb => by
      obtain ⟨a1, a2, a3, a4, _, _⟩ := zh8 (hL b hb) r
      have := hq b hb
      show q ((nJ r b : Nat) : Int) ≤ q ((nI r b : Nat) : Int) + bW b
      unfold nI nJ bW
      rw [show (((bdJ r b).toNat : Nat) : Int) = bdJ r b by omega, show (((bdI r b).toNat : Nat) : Int) = bdI r b by omega]
      omega) (fun v c h => by
      unfold xs1 at h
      split at h
      · rename_i e; cases h; subst e; show q (v : Int) - 0 ≤ q (v : Int); omega
      · cases h) hw
    omega
  have at_ : ∀ v : Int, 0 ≤ v → v < (n : Int) → x v.toNat = some ((x v.toNat).getD 0) := fun v h1 h2 => by
    have := hall v.toNat (by omega)
    cases hx : x v.toNat with
    | none => rw [hx] at this; cases this
    | some a => rfl
  refine ⟨fun b hb => ?_, fun q hq v h1 h2 => ?_, ?_⟩
  · obtain ⟨a1, a2, a3, a4, _, _⟩ := zh8 (hL b hb) r
    obtain ⟨d, hd, hle⟩ := hf.le hb (at_ _ a1 a2)
    have e := at_ _ a3 a4
    have hd' : x (bdJ r b).toNat = some d := hd
    rw [hd'] at e
    simp only [Option.some.injEq] at e
    rw [hd', Option.getD_some]
    unfold bW at hle
    omega
  · have := low q hq v.toNat _ (at_ v h1 h2)
    rw [show ((v.toNat : Nat) : Int) = v by omega] at this
    exact this
  · obtain ⟨a, ha, hle⟩ := h0
    have := low p hp u a ha
    simp only [Int.toNat_natCast, ha, Option.getD_some]
    omega
/-- All variables are bounded against the first one, on both sides. -/
def Conn (L : List z7) (n : Nat) : Prop := ∀ v : Int, 1 ≤ v → v < (n : Int) → (∃ b ∈ L, b.i = 0 ∧ b.j = v) ∧ ∃ b ∈ L, b.i = v ∧ b.j = 0
theorem Conn.d {L : List z7} {n : Nat} (h : Conn L n) (r : Bool) : ∀ v : Nat, 1 ≤ v → v < n → (∃ b ∈ L, nI r b = 0 ∧ nJ r b = v) ∧ ∃ b ∈ L, nI r b = v ∧ nJ r b = 0 := by
  intro v h1 h2
  obtain ⟨⟨b, hb, b1, b2⟩, c, hc, c1, c2⟩ := h (v : Int) (by omega) (by omega)
  cases r
  · exact ⟨⟨b, hb, by unfold nI bdI; rw [if_neg (by simp), b1]; rfl, by unfold nJ bdJ; rw [if_neg (by simp), b2]; simp⟩, c, hc, by unfold nI bdI; rw [if_neg (by simp), c1]; simp, by unfold nJ bdJ; rw [if_neg (by simp), c2]; rfl⟩
  · exact ⟨⟨c, hc, by unfold nI bdI; rw [if_pos rfl, c2]; rfl, by unfold nJ bdJ; rw [if_pos rfl, c1]; simp⟩, b, hb, by unfold nI bdI; rw [if_pos rfl, b2]; simp, by unfold nJ bdJ; rw [if_pos rfl, b1]; rfl⟩
theorem y8u {r : Bool} {n : Nat} {L : List z7} (hc : Conn L n) {u : Nat} (hu : u < n) {x : BF.X} (hf : BF.Fix (nI r) (nJ r) bW L x) (h0 : BF.le (x u) 0) : ∀ v, v < n → (x v).isSome = true := by
  have z0 : ∃ a, x 0 = some a := by
    by_cases h : u = 0
    · subst h; obtain ⟨a, ha, _⟩ := h0; exact ⟨a, ha⟩
    · obtain ⟨_, b, hb, b1, b2⟩ := hc.d r u (by omega) hu
      obtain ⟨a, ha, _⟩ := h0
      obtain ⟨d, hd, _⟩ := hf.le hb (by rw [b1]; exact ha)
      rw [b2] at hd
      exact ⟨d, hd⟩
  intro v hv
  obtain ⟨a, ha⟩ := z0
  by_cases h : v = 0
  · subst h; rw [ha]; rfl
  · obtain ⟨⟨b, hb, b1, b2⟩, _⟩ := hc.d r v (by omega) hv
    obtain ⟨d, hd, _⟩ := hf.le hb (by rw [b1]; exact ha)
    rw [b2] at hd
    rw [hd]; rfl
/-- The whole: any state reached by rounds in which nothing is lowered any more. -/
theorem zth {r : Bool} {n : Nat} {L : List z7} (hL : ∀ b ∈ L, okBd n b) (hc : Conn L n) {p : Int → Int} (hp : SolD r L p) {u : Nat} (hu : u < n) {x : BF.X} (hf : BF.Fix (nI r) (nJ r) bW L x) {k : Nat} (hk : x = BF.rnds (nI r) (nJ r) bW L (xs1 u) k) :
    zpl r L n (u : Int) (fun v => (x v.toNat).getD 0) ∧ ∀ v, v < n → (x v).isSome = true := by
  have h0 : BF.le (x u) 0 := by
    rw [hk]
    exact BF.rnds_mono L ⟨0, by unfold xs1; rw [if_pos rfl], Int.le_refl _⟩ k
  have hall := y8u hc hu hf h0
  exact ⟨zwz hL hp hu hf (by rw [hk]; exact BF.Inv.rnds k) h0 hall, hall⟩
/-- Values in a list, the great one for those that are not reached. -/
def farN : Int := 1125899906842624
structure DS where
  d : List Int
  c : Bool
def stpD (r : Bool) (b : z7) (s : DS) : DS := if gt s.d (bdI r b) < farN ∧ gt s.d (bdI r b) + b.w < gt s.d (bdJ r b) then ⟨zy s.d (bdJ r b) (gt s.d (bdI r b) + b.w), true⟩ else s
def rndD (r : Bool) (L : List z7) : Nat → DS → DS
  | 0, s => s
  | m + 1, s => stpD r (gt L (m : Int)) (rndD r L m s)
def runD (r : Bool) (L : List z7) : Nat → DS → DS
  | 0, s => s
  | k + 1, s => if s.c = true then runD r L k (rndD r L L.length ⟨s.d, false⟩) else s
def cntF (d : List Int) : Nat := d.countP fun a => decide (a < farN)
structure DB (n c : Nat) (s : DS) : Prop where
  len : s.d.length = n
  hi : ∀ i : Int, 0 ≤ i → i < (n : Int) → gt s.d i = farN ∨ gt s.d i + 1099511627776 ≤ 1099511627776 * (cntF s.d : Int)
  lo : ∀ i : Int, 0 ≤ i → i < (n : Int) → -(1099511627776 * (c : Int)) ≤ gt s.d i
theorem y4y (d : List Int) : cntF d ≤ d.length := List.countP_le_length
theorem DB.lt {n c : Nat} {s : DS} (h : DB n c s) (hn : n ≤ 512) {i : Int} (h0 : 0 ≤ i) (h1 : i < (n : Int)) : gt s.d i = farN ∨ gt s.d i ≤ 561850441793536 := by
  have := y4y s.d
  rw [h.len] at this
  rcases h.hi i h0 h1 with h | h
  · exact .inl h
  · exact .inr (by omega)
theorem zsx {d : List Int} {i : Int} (h0 : 0 ≤ i) (h1 : i < (d.length : Int)) {v : Int} (hv : v < farN) : cntF (zy d i v) = if gt d i < farN then cntF d else cntF d + 1 := by
  have hi : i.toNat < d.length := by omega
  have hg : d[i.toNat] = gt d i := by
    have := z5l hi
    rw [show ((i.toNat : Nat) : Int) = i by omega] at this
    exact this.symm
  unfold cntF zy
  rw [List.countP_set hi, hg]
  have hv' : decide (v < farN) = true := by simpa using hv
  rw [if_pos hv']
  by_cases hq : gt d i < farN
  · have : 0 < List.countP (fun a => decide (a < farN)) d := List.countP_pos_iff.2 ⟨gt d i, z3e h0 h1, by simpa using hq⟩
    rw [if_pos (by simpa using hq), if_pos hq]
    omega
  · rw [if_neg (by simpa using hq), if_neg hq]
    omega
theorem DB.up {n c e : Nat} {s : DS} (h : DB n c s) (he : c ≤ e) : DB n e s := ⟨h.len, h.hi, fun i h0 h1 => by have := h.lo i h0 h1; omega⟩
theorem DB.stp {n c : Nat} {s : DS} (h : DB n c s) (hn : n ≤ 512) {b : z7} (hb : okBd n b) (r : Bool) : DB n (c + 1) (stpD r b s) := by
  obtain ⟨a1, a2, a3, a4, a5, a6⟩ := zh8 hb r
  unfold stpD
  split
  · rename_i hlt
    obtain ⟨l1, l2⟩ := hlt
    have hx := h.len
    have q1 := h.hi _ a1 a2
    have q2 := h.lt hn a1 a2
    have q3 := h.hi _ a3 a4
    have ql := h.lo _ a1 a2
    have hnew : gt s.d (bdI r b) + b.w < farN := by unfold farN at *; omega
    have hc := zsx (d := s.d) a3 (by rw [hx]; exact a4) hnew
    refine ⟨by rw [z14]; exact hx, fun k h0 h1 => ?_, fun k h0 h1 => ?_⟩
    · simp only [hc]
      rw [z0f _ _ _ _ a3 (by rw [hx]; exact a4) h0]
      have q4 := h.hi k h0 h1
      by_cases hk : k = bdJ r b
      · rw [if_pos hk]
        right
        by_cases hq : gt s.d (bdJ r b) < farN
        · rw [if_pos hq]; omega
        · rw [if_neg hq]; unfold farN at *; omega
      · rw [if_neg hk]
        rcases q4 with q4 | q4
        · exact .inl q4
        · right
          split <;> omega
    · rw [z0f _ _ _ _ a3 (by rw [hx]; exact a4) h0]
      have q4 := h.lo k h0 h1
      split <;> omega
  · exact h.up (by omega)
theorem DB.rnd {n c : Nat} {s : DS} (h : DB n c s) (hn : n ≤ 512) {L : List z7} (hL : ∀ b ∈ L, okBd n b) (r : Bool) : ∀ m, m ≤ L.length → DB n (c + m) (rndD r L m s)
  | 0, _ => h
  | m + 1, hm => (DB.rnd h hn hL r m (by omega)).stp hn (hL _ (z3e (by omega) (by omega))) r
def xd (d : List Int) : BF.X := fun v => if v < d.length then (if gt d (v : Int) < farN then some (gt d (v : Int)) else none) else none
theorem y4k {d : List Int} {i : Int} (h0 : 0 ≤ i) (h : i < (d.length : Int)) : xd d i.toNat = if gt d i < farN then some (gt d i) else none := by
  unfold xd
  rw [if_pos (by omega), show ((i.toNat : Nat) : Int) = i by omega]
theorem zwk {n c : Nat} (hn : n ≤ 512) {s : DS} (hB : DB n c s) {b : z7} (hb : okBd n b) (r : Bool) :
    xd (stpD r b s).d = BF.rlx (nI r) (nJ r) bW (xd s.d) b ∧ (BF.imp (nI r) (nJ r) bW (xd s.d) b = true → (stpD r b s).c = true) ∧ (BF.imp (nI r) (nJ r) bW (xd s.d) b = false → stpD r b s = s) := by
  obtain ⟨a1, a2, a3, a4, a5, a6⟩ := zh8 hb r
  have hx := hB.len
  have e1 : xd s.d (nI r b) = _ := y4k a1 (by rw [hx]; exact a2)
  have e2 : xd s.d (nJ r b) = _ := y4k a3 (by rw [hx]; exact a4)
  have q1 := hB.lt hn a1 a2
  have q2 := hB.lt hn a3 a4
  have ei : BF.imp (nI r) (nJ r) bW (xd s.d) b = decide (gt s.d (bdI r b) < farN ∧ gt s.d (bdI r b) + b.w < gt s.d (bdJ r b)) := by
    unfold BF.imp
    rw [e1, e2]
    by_cases h1 : gt s.d (bdI r b) < farN
    · rw [if_pos h1]
      by_cases h2 : gt s.d (bdJ r b) < farN
      · rw [if_pos h2]
        exact decide_eq_decide.2 ⟨fun h => ⟨h1, h⟩, fun h => h.2⟩
      · rw [if_neg h2]
        have : gt s.d (bdI r b) + b.w < gt s.d (bdJ r b) := by unfold farN at *; omega
        simp [BF.ltO, h1, this]
    · rw [if_neg h1]; simp [h1]
  by_cases h : gt s.d (bdI r b) < farN ∧ gt s.d (bdI r b) + b.w < gt s.d (bdJ r b)
  · have er := ei
    rw [decide_eq_true h] at er
    obtain ⟨a, ha, hlt, hr⟩ := BF.rlx_imp er
    rw [e1, if_pos h.1, Option.some.injEq] at ha
    subst ha
    unfold stpD
    rw [if_pos h]
    refine ⟨?_, fun _ => rfl, fun q => (by rw [er] at q; cases q)⟩
    rw [hr]
    funext v
    unfold xd
    simp only [z14]
    by_cases hv : v < s.d.length
    · rw [if_pos hv, if_pos hv, z0f _ _ _ _ a3 (by rw [hx]; exact a4) (by omega)]
      by_cases e : v = nJ r b
      · have e' : (v : Int) = bdJ r b := by unfold nJ at e; omega
        have hnew : gt s.d (bdI r b) + b.w < farN := by unfold farN at *; omega
        rw [if_pos e, if_pos e', if_pos hnew]; rfl
      · have e' : ¬ (v : Int) = bdJ r b := by unfold nJ at e; omega
        rw [if_neg e, if_neg e']
    · rw [if_neg hv, if_neg hv, if_neg (fun e => hv (by rw [hx, e]; unfold nJ; omega))]
  · have er := ei
    rw [decide_eq_false h] at er
    unfold stpD
    rw [if_neg h]
    exact ⟨(BF.rlx_not er).symm, fun q => (by rw [er] at q; cases q), fun _ => rfl⟩
theorem zy6 {n c : Nat} (hn : n ≤ 512) {s : DS} (hB : DB n c s) {L : List z7} (hL : ∀ b ∈ L, okBd n b) (r : Bool) : ∀ m, m ≤ L.length → xd (rndD r L m s).d = (L.take m).foldl (BF.rlx (nI r) (nJ r) bW) (xd s.d)
  | 0, _ => rfl
  | m + 1, hm => by
    have ih := zy6 hn hB hL r m (by omega)
    rw [z0c L m (by omega), List.foldl_append, ← ih]
    exact (zwk hn (hB.rnd hn hL r m (by omega)) (hL _ (z3e (by omega) (by omega))) r).1
theorem y1z {n c : Nat} (hn : n ≤ 512) {s : DS} (hB : DB n c s) {L : List z7} (hL : ∀ b ∈ L, okBd n b) (r : Bool) (hc : s.c = false) : ∀ m, m ≤ L.length → (rndD r L m s).c = false → rndD r L m s = s ∧ ∀ k : Nat, k < m → BF.imp (nI r) (nJ r) bW (xd s.d) (gt L (k : Int)) = false
  | 0, _, _ => ⟨rfl, fun k hk => by omega⟩
  | m + 1, hm, h => by
    obtain ⟨q1, q2, q3⟩ := zwk hn (hB.rnd hn hL r m (by omega)) (hL _ (z3e (l := L) (i := (m : Int)) (by omega) (by omega))) r
    change (stpD r (gt L (m : Int)) (rndD r L m s)).c = false at h
    cases hi : BF.imp (nI r) (nJ r) bW (xd (rndD r L m s).d) (gt L (m : Int)) with
    | true => rw [q2 hi] at h; cases h
    | false =>
      have e := q3 hi
      rw [e] at h
      obtain ⟨e2, h4⟩ := y1z hn hB hL r hc m (by omega) h
      refine ⟨by change stpD r (gt L (m : Int)) (rndD r L m s) = s; rw [e, e2], fun k hk => ?_⟩
      by_cases hkm : k = m
      · subst hkm; rw [e2] at hi; exact hi
      · exact h4 k (by omega)
theorem zvz {r : Bool} {n : Nat} (hn : n ≤ 512) {L : List z7} (hL : ∀ b ∈ L, okBd n b) {x0 : BF.X} (F : BF.Feas (nI r) (nJ r) bW x0 L n) : ∀ (f k c : Nat) (s : DS), DB n c s → xd s.d = BF.rnds (nI r) (nJ r) bW L x0 k → (s.c = false → BF.Fix (nI r) (nJ r) bW L (xd s.d)) → n ≤ k + f →
    (runD r L f s).d.length = n ∧ BF.Fix (nI r) (nJ r) bW L (xd (runD r L f s).d) ∧ (∃ k', xd (runD r L f s).d = BF.rnds (nI r) (nJ r) bW L x0 k') ∧ DB n (c + f * L.length) (runD r L f s)
  | 0, k, c, s, hB, hx, hc, hk => by
    refine ⟨hB.len, fun b hb => ?_, ⟨k, hx⟩, hB.up (by omega)⟩
    have := BF.done F (k := k) (by omega) b hb
    rw [← hx] at this
    exact this
  | f + 1, k, c, s, hB, hx, hc, hk => by
    unfold runD
    split
    · have hB1 : DB n c ⟨s.d, false⟩ := ⟨hB.len, hB.hi, hB.lo⟩
      have hr := zy6 hn hB1 hL r L.length (Nat.le_refl _)
      rw [List.take_length] at hr
      have hr2 : xd (rndD r L L.length ⟨s.d, false⟩).d = BF.rnds (nI r) (nJ r) bW L x0 (k + 1) := by
        rw [hr, show xd (DS.mk s.d false).d = _ from hx]; rfl
      have := zvz hn hL F f (k + 1) (c + L.length) _ (hB1.rnd hn hL r L.length (Nat.le_refl _)) hr2 (fun h => by
        obtain ⟨e1, e2⟩ := y1z hn hB1 hL r rfl L.length (Nat.le_refl _) h
        intro b hb
        rw [e1]
        obtain ⟨i, hi, rfl⟩ := zri hb
        exact e2 i hi) (by omega)
      refine ⟨this.1, this.2.1, this.2.2.1, this.2.2.2.up ?_⟩
      rw [Nat.add_mul, Nat.one_mul]; omega
    · rename_i h
      exact ⟨hB.len, hc (by cases hq : s.c with | true => exact absurd hq h | false => rfl), ⟨k, hx⟩, hB.up (by omega)⟩
def d0 (n : Nat) (u : Int) : List Int := zy (List.replicate n farN) u 0
theorem zzu {n : Nat} {u i : Int} (hu : 0 ≤ u) (hu' : u < (n : Int)) (h0 : 0 ≤ i) (h1 : i < (n : Int)) : gt (d0 n u) i = if i = u then 0 else farN := by
  unfold d0
  rw [z0f _ _ _ _ hu (by simpa using hu') h0, z2k _ _ _ h0 h1]
theorem zwq (n : Nat) (u : Int) : (d0 n u).length = n := by simp [d0, z14]
theorem y8v {n : Nat} {u : Int} (hu : 0 ≤ u) (hu' : u < (n : Int)) : xd (d0 n u) = xs1 u.toNat := by
  funext v
  unfold xd xs1
  rw [zwq]
  by_cases hv : v < n
  · rw [if_pos hv, zzu hu hu' (by omega) (by omega)]
    by_cases e : (v : Int) = u
    · rw [if_pos e, if_pos (by omega : v = u.toNat), if_pos (by decide)]
    · rw [if_neg e, if_neg (by omega : ¬ v = u.toNat), if_neg (by decide)]
  · rw [if_neg hv, if_neg (by omega)]
theorem y5l {n : Nat} {u : Int} (hu : 0 ≤ u) (hu' : u < (n : Int)) : DB n 0 ⟨d0 n u, true⟩ := by
  have hc : cntF (d0 n u) = 1 := by
    unfold d0
    rw [zsx hu (by simpa using hu') (by decide), z2k _ _ _ hu hu', if_neg (by decide)]
    have : cntF (List.replicate n farN) = 0 := List.countP_eq_zero.2 fun a ha => by
      rw [List.mem_replicate] at ha
      rw [ha.2]; decide
    rw [this]
  refine ⟨zwq n u, fun i h0 h1 => ?_, fun i h0 h1 => ?_⟩
  · simp only [hc]
    rw [zzu hu hu' h0 h1]
    split
    · right; omega
    · left; rfl
  · simp only
    rw [zzu hu hu' h0 h1]
    split
    · omega
    · unfold farN; omega
/-- The greatest differences, as the program finds them. -/
theorem zkm {r : Bool} {n : Nat} (hn : n ≤ 512) {L : List z7} (hL : ∀ b ∈ L, okBd n b) (hc : Conn L n) {p : Int → Int} (hp : SolD r L p) {u : Int} (hu : 0 ≤ u) (hu' : u < (n : Int)) :
    (runD r L n ⟨d0 n u, true⟩).d.length = n ∧ zpl r L n u (gt (runD r L n ⟨d0 n u, true⟩).d) := by
  have F := y9m hL hp (u := u.toNat) (by omega)
  obtain ⟨h1, h2, ⟨k, h3⟩, h4⟩ := zvz hn hL F n 0 0 ⟨d0 n u, true⟩ (y5l hu hu') (y8v hu hu') (fun h => by cases h) (by omega)
  obtain ⟨g1, g2⟩ := zth hL hc hp (u := u.toNat) (by omega) h2 h3
  refine ⟨h1, ?_⟩
  have key : ∀ v : Int, 0 ≤ v → v < (n : Int) → ((xd (runD r L n ⟨d0 n u, true⟩).d) v.toNat).getD 0 = gt (runD r L n ⟨d0 n u, true⟩).d v := fun v q0 q1 => by
    have := g2 v.toNat (by omega)
    have e := y4k (d := (runD r L n ⟨d0 n u, true⟩).d) q0 (by rw [h1]; exact q1)
    rw [e] at this ⊢
    split
    · rfl
    · rename_i hq; rw [if_neg hq] at this; cases this
  rw [show ((u.toNat : Nat) : Int) = u by omega] at g1
  refine ⟨fun b hb => ?_, fun q hq v v0 v1 => ?_, ?_⟩
  · obtain ⟨a1, a2, a3, a4, _, _⟩ := zh8 (hL b hb) r
    have := g1.sat b hb
    rw [key _ a1 a2, key _ a3 a4] at this
    exact this
  · have := g1.top q hq v v0 v1
    rw [key _ v0 v1] at this
    exact this
  · have := g1.zero
    rw [key _ hu hu'] at this
    exact this
end Px
end
section
namespace Px
open Go
set_option linter.unusedVariables false
set_option linter.unusedSimpArgs false
structure TS where
  d : List Int
  kn : List Bool
  z : Int
def t0 (n : Nat) (u : Int) : TS := ⟨List.replicate n 0, zy (List.replicate n false) u true, -1⟩
end Px
end
section
namespace Px
open Go
set_option linter.unusedVariables false
set_option linter.unusedSimpArgs false
set_option maxHeartbeats 4000000
def zwx (fit : Bool) (x : Part) : Bool := !(((((decide ((x.kind : Int) < 1)) || (decide ((3 : Int) < x.kind))) || (decide ((x.serial : Int) < 0))) || (decide ((1073741824 : Int) < x.serial))) || (x.fitted && (!fit)))
theorem z9x (φ : Nat) (l : List Part) (fit : Bool) (h : l.length ≤ 1000) (hφ : 1000 < φ) : zbu φ l fit = some (l.all (zwx fit) && decide ((l.length : Int) ≤ 16), ()) := by
  unfold zbu
  rw [zic (fun n i => z5a φ n l fit l (l.length : Int) i) (some (decide ((l.length : Int) ≤ 16), ())) (some (false, ())) l (fun x => !zwx fit x) ?_ ?_ φ (by omega)]
  · simp only [List.any_eq_not_all_not, Bool.not_not]
    cases l.all (zwx fit) <;> rfl
  · intro n i hi
    rw [z5a, if_pos (by simp; omega), z2 ⟨by omega, by omega⟩, W_id (by omega) (by omega)]
    show _ = bif !!_ then _ else _
    rw [Bool.not_not]
    cases (((((decide (((gt l i).kind : Int) < 1)) || (decide ((3 : Int) < (gt l i).kind))) || (decide (((gt l i).serial : Int) < 0))) || (decide ((1073741824 : Int) < (gt l i).serial))) || ((gt l i).fitted && (!fit))) <;> rfl
  · intro n; rw [z5a, if_neg (by simp)]
/-- What is known of a valid item. -/
structure znn (p : Pool) (it : Item) : Prop where
  kind : 1 ≤ it.kind ∧ it.kind ≤ 15
  wagon : it.kind ≤ 9 → 0 ≤ it.wagon ∧ it.wagon < (p.fleet.wagons.length : Int)
  read : it.kind = 1 → 0 ≤ it.other ∧ it.other < (p.readers.length : Int)
  place : it.kind = 2 ∨ it.kind = 3 ∨ it.kind = 4 ∨ it.kind = 6 ∨ it.kind = 7 ∨ it.kind = 9 → 0 ≤ it.place ∧ it.place < (p.network.places.length : Int)
  from_ : it.kind ≤ 9 → 0 ≤ it.from_ ∧ it.from_ ≤ 1073741824
  to : it.kind = 2 ∨ it.kind = 9 → it.from_ ≤ it.to ∧ it.to ≤ 1073741824
theorem zs1 {ρ : Type} (c q : Bool) (K : Bool → Option ρ) : ((z0b (default, ()) (c = true) (some (q, ()))).bind fun y => K (c && y.1)) = K (c && q) := by
  unfold z0b
  cases c <;> rfl
theorem zw3 (p : Pool) (it : Item) (hparts : it.parts.length ≤ 1000) (hw : p.fleet.wagons.length ≤ 4096) (hr : p.readers.length ≤ 256) (hs : p.shippers.length ≤ 256) (hpl : p.network.places.length ≤ 512) (ht : p.fleet.types.length ≤ 32) :
    ∃ b, (∀ φ, 1000 < φ → z21 φ p it = some (b, ())) ∧ (b = true → znn p it) := by
  have w1 : W ((p.fleet.wagons.length : Int) - 1) = (p.fleet.wagons.length : Int) - 1 := W_id (by omega) (by omega)
  have w2 : W ((p.readers.length : Int) - 1) = (p.readers.length : Int) - 1 := W_id (by omega) (by omega)
  have w3 : W ((p.shippers.length : Int) - 1) = (p.shippers.length : Int) - 1 := W_id (by omega) (by omega)
  have w4 : W ((p.network.places.length : Int) - 1) = (p.network.places.length : Int) - 1 := W_id (by omega) (by omega)
  have w5 : W ((p.fleet.types.length : Int) - 1) = (p.fleet.types.length : Int) - 1 := W_id (by omega) (by omega)
  have hm : ∀ x z : Int, max2 x 0 ≤ z ↔ x ≤ z ∧ 0 ≤ z := by intro x z; unfold max2; split <;> omega
  by_cases hk0 : it.kind < 1
  · refine ⟨false, fun φ hφ => ?_, fun h => by cases h⟩
    unfold z21 zd
    rw [if_pos (by simp; omega), if_pos (by simpa using hk0)]
    simp
  by_cases hk16 : 15 < it.kind
  · refine ⟨false, fun φ hφ => ?_, fun h => by cases h⟩
    have e : ∀ k : Int, k ≤ 15 → (it.kind == k) = false := fun k hk => by simp; omega
    unfold z21
    rw [if_neg (by simp; omega)]
    simp [e, z2r, zd]
  have hcases : it.kind = 1 ∨ it.kind = 2 ∨ it.kind = 3 ∨ it.kind = 4 ∨ it.kind = 5 ∨ it.kind = 6 ∨ it.kind = 7 ∨ it.kind = 8 ∨ it.kind = 9 ∨ it.kind = 10 ∨ it.kind = 11 ∨ it.kind = 12 ∨ it.kind = 13 ∨ it.kind = 14 ∨ it.kind = 15 := by omega
  by_cases hin : 0 ≤ it.place ∧ it.place < (p.network.places.length : Int)
  · have e1 : (decide ((0 : Int) ≤ it.place) && decide ((it.place : Int) < (p.network.places.length : Int))) = true := by simp [hin]
    rcases hcases with hk | hk | hk | hk | hk | hk | hk | hk | hk | hk | hk | hk | hk | hk | hk
    case inr.inr.inr.inr.inr.inr.inr.inr.inl =>
      refine ⟨_, fun φ hφ => by
        unfold z21
        simp only [hk, e1, z4g, z2 hin, w1, w2, w3, w4, w5, z9x φ _ _ hparts hφ, Option.bind_some, Int.reduceLE, Int.reduceLT, Int.reduceBEq, decide_true, decide_false, if_true, Bool.false_eq_true, if_false]
        refine (zs1 _ _ (fun b => zd φ ⟨_, _, b⟩)).trans ?_
        unfold zd
        rfl, fun hb => ?_⟩
      simp only [Bool.and_eq_true, decide_eq_true_eq, hm, beq_iff_eq, bne_iff_ne, ne_eq, Bool.or_eq_true] at hb
      constructor <;> omega
    case inr.inr.inr.inr.inr.inr.inr.inr.inr.inl =>
      refine ⟨_, fun φ hφ => by
        unfold z21
        simp only [hk, e1, z2 hin, w1, w2, w3, w4, w5, z9x φ _ _ hparts hφ, Option.bind_some, Int.reduceLE, Int.reduceLT, Int.reduceBEq, decide_true, decide_false, if_true, Bool.false_eq_true, if_false]
        refine (zs1 _ _ (fun b => zd φ ⟨_, _, b⟩)).trans ?_
        unfold zd
        rfl, fun hb => ?_⟩
      constructor <;> omega
    all_goals
      refine ⟨_, fun φ hφ => by
        unfold z21
        simp only [hk, e1, z6b, z4k, z4b, z4e, z4q, z4j, z2r, z4l, zd, z2 hin, w1, w2, w3, w4, w5, Option.bind_some, Int.reduceLE, Int.reduceLT, Int.reduceBEq, Int.reduceBNe, Int.reduceNe, decide_true, decide_false, if_true, Bool.false_eq_true, if_false]
        rfl, fun hb => ?_⟩
      simp only [Bool.and_eq_true, decide_eq_true_eq, hm, beq_iff_eq, bne_iff_ne, ne_eq, Bool.or_eq_true] at hb
      constructor <;> omega
  · have e1 : (decide ((0 : Int) ≤ it.place) && decide ((it.place : Int) < (p.network.places.length : Int))) = false := by
      rw [← Bool.not_eq_true]; simpa using hin
    rcases hcases with hk | hk | hk | hk | hk | hk | hk | hk | hk | hk | hk | hk | hk | hk | hk
    case inr.inr.inr.inr.inr.inr.inr.inr.inl =>
      refine ⟨_, fun φ hφ => by
        unfold z21
        simp only [hk, e1, z4g, w1, w2, w3, w4, w5, z9x φ _ _ hparts hφ, Option.bind_some, Int.reduceLE, Int.reduceLT, Int.reduceBEq, decide_true, decide_false, if_true, Bool.false_eq_true, if_false]
        refine (zs1 _ _ (fun b => zd φ ⟨_, _, b⟩)).trans ?_
        unfold zd
        rfl, fun hb => ?_⟩
      simp at hb
    case inr.inr.inr.inr.inr.inr.inr.inr.inr.inl =>
      refine ⟨_, fun φ hφ => by
        unfold z21
        simp only [hk, e1, w1, w2, w3, w4, w5, z9x φ _ _ hparts hφ, Option.bind_some, Int.reduceLE, Int.reduceLT, Int.reduceBEq, decide_true, decide_false, if_true, Bool.false_eq_true, if_false]
        refine (zs1 _ _ (fun b => zd φ ⟨_, _, b⟩)).trans ?_
        unfold zd
        rfl, fun hb => ?_⟩
      constructor <;> omega
    all_goals
      refine ⟨_, fun φ hφ => by
        unfold z21
        simp only [hk, e1, z6b, z4k, z4b, z4e, z4q, z4j, z2r, z4l, zd, w1, w2, w3, w4, w5, Option.bind_some, Int.reduceLE, Int.reduceLT, Int.reduceBEq, Int.reduceBNe, Int.reduceNe, decide_true, decide_false, if_true, Bool.false_eq_true, if_false]
        rfl, fun hb => ?_⟩
      simp only [Bool.and_eq_true, decide_eq_true_eq, hm, beq_iff_eq, bne_iff_ne, ne_eq, Bool.or_eq_true] at hb
      first | (constructor <;> omega) | (simp at hb; done) | (simp at hb; constructor <;> omega)
def zd3 (p : Pool) (it : Item) : Bool := ((z21 2000 p it).getD (false, ())).1
def zzb (it : Item) : Bool := ((z5u 0 it).getD (false, ())).1
theorem znb (φ : Nat) (it : Item) : z5u φ it = some (zzb it, ()) := by
  unfold zzb z5u
  split <;> rfl
/-- Does an item count? -/
def zdo (p : Pool) (it : Item) : Bool := zzb it && zd3 p it
theorem zp0 {p : Pool} (hc : z09 p = 0) {it : Item} (hparts : it.parts.length ≤ 1000) : (∀ φ, 1000 < φ → z21 φ p it = some (zd3 p it, ())) ∧ (zd3 p it = true → znn p it) := by
  obtain ⟨hn, hf, h1, h2, h3, hb⟩ := zac hc
  obtain ⟨n1, n2, _, _⟩ := zir hn
  obtain ⟨f1, f2, _⟩ := z8w hf
  obtain ⟨b, hφ, hok⟩ := zw3 p it hparts f2 h1 h2 n1 f1
  have : zd3 p it = b := by unfold zd3; rw [hφ 2000 (by omega)]; rfl
  rw [this]
  exact ⟨hφ, hok⟩
theorem zp1 (φ : Nat) (hφ : 800000 < φ) {p : Pool} (hc : z09 p = 0) {it : Item} (hparts : it.parts.length ≤ 1000) : zem φ p it = some (bif zdo p it then 0 else 110, ()) := by
  unfold zem zdo
  rw [za0 φ hφ, Option.bind_some, if_neg (by simp [hc]), znb, Option.bind_some]
  cases zzb it with
  | false => rfl
  | true =>
    rw [gz_t (by simp), (zp0 hc hparts).1 φ (by omega), Option.bind_some]
    cases zd3 p it <;> rfl
theorem zev {p : Pool} (hc : z09 p = 0) {it : Item} (hparts : it.parts.length ≤ 1000) (h : zdo p it = true) : znn p it := by
  simp only [zdo, Bool.and_eq_true] at h
  exact (zp0 hc hparts).2 h.2
end Px
end
section
namespace Px
open Go
set_option linter.unusedVariables false
set_option linter.unusedSimpArgs false
theorem zh5 {n b : Nat} (h : n ≤ 100000) (hb : b ≤ 1000) : fits n b := by
  unfold fits
  have : n * b ≤ 100000 * 1000 := Nat.mul_le_mul h hb
  omega
def z6d (r : zf) (place time : Int) : zi := ⟨r.item.wagon, place, r.ref, false, time, time⟩
/-- The events of a report that counts. -/
def evs (p : Pool) (r : zf) (i : Int) : List z1 :=
  if r.item.kind = 1 then [⟨z6d r (gt p.readers r.item.other).place r.item.from_, i, false, false, r.item.other⟩]
  else if r.item.kind = 2 ∨ r.item.kind = 9 then [⟨z6d r r.item.place r.item.from_, i, false, true, -1⟩, ⟨z6d r r.item.place r.item.to, i, true, true, -1⟩]
  else if r.item.kind = 3 ∨ r.item.kind = 4 ∨ r.item.kind = 6 ∨ r.item.kind = 7 then [⟨z6d r r.item.place r.item.from_, i, false, false, -1⟩] else []
theorem zq0 (φ : Nat) (p : Pool) (r : zf) (i : Int) (h : r.item.kind = 1 → 0 ≤ r.item.other ∧ r.item.other < (p.readers.length : Int)) : z0p φ p r i = some (evs p r i, ()) := by
  by_cases h1 : r.item.kind = 1
  · have h' := h h1
    simp [z0p, evs, h1, z2 h', zu, z6d]
  by_cases h2 : r.item.kind = 2
  · simp [z0p, evs, h2, z00, z1r, z1q, zu, z6d]
  by_cases h9 : r.item.kind = 9
  · simp [z0p, evs, h9, z00, z1r, z1q, zu, z6d]
  by_cases h3 : r.item.kind = 3
  · simp [z0p, evs, h3, z00, z01, zu, z6d]
  by_cases h4 : r.item.kind = 4
  · simp [z0p, evs, h4, z00, z01, zu, z6d]
  by_cases h6 : r.item.kind = 6
  · simp [z0p, evs, h6, z00, z01, zu, z6d]
  by_cases h7 : r.item.kind = 7
  · simp [z0p, evs, h7, z00, z01, zu, z6d]
  · simp [z0p, evs, h1, h2, h9, h3, h4, h6, h7, z00, z01]
theorem zg4 {p : Pool} {r : zf} {i : Int} {x : z1} (h : x ∈ evs p r i) : x.report = i ∧ x.visit.wagon = r.item.wagon ∧ x.visit.ref = r.ref := by
  unfold evs at h
  split at h
  · simp only [List.mem_singleton] at h; subst h; exact ⟨rfl, rfl, rfl⟩
  · split at h
    · simp only [List.mem_cons, List.not_mem_nil, or_false] at h
      rcases h with rfl | rfl <;> exact ⟨rfl, rfl, rfl⟩
    · split at h
      · simp only [List.mem_singleton] at h; subst h; exact ⟨rfl, rfl, rfl⟩
      · cases h
theorem zr9 (p : Pool) (r : zf) (i : Int) : (evs p r i).length ≤ 2 := by
  unfold evs
  split
  · simp
  · split
    · simp
    · split <;> simp
theorem y8h (p : Pool) (r : zf) (i : Int) : (evs p r i).Pairwise fun a b => a.report ≠ b.report ∨ a.second ≠ b.second := by
  unfold evs
  split
  · simp
  · split
    · simp
    · split <;> simp
/-- The numbers of the reports that count. -/
def cntN (p : Pool) (l : List zf) (n : Nat) : List Int := ((List.range n).filter fun (i : Nat) => zdo p (gt l (i : Int)).item).map fun (i : Nat) => (i : Int)
def cnt (p : Pool) (l : List zf) : List Int := cntN p l l.length
theorem zva (p : Pool) (l : List zf) (n : Nat) : cntN p l (n + 1) = cntN p l n ++ (bif zdo p (gt l (n : Int)).item then [(n : Int)] else []) := by
  unfold cntN
  rw [List.range_succ, List.filter_append, List.map_append]
  congr 1
  cases h : zdo p (gt l (n : Int)).item <;> simp [h]
theorem zef (p : Pool) (l : List zf) (n : Nat) : (cntN p l n).length ≤ n := by
  unfold cntN
  rw [List.length_map]
  exact Nat.le_trans (List.length_filter_le _ _) (by simp)
theorem zvt {p : Pool} {l : List zf} {i : Int} (h : i ∈ cnt p l) : 0 ≤ i ∧ i < (l.length : Int) ∧ zdo p (gt l i).item = true := by
  simp only [cnt, cntN, List.mem_map, List.mem_filter, List.mem_range] at h
  obtain ⟨n, ⟨h1, h2⟩, rfl⟩ := h
  exact ⟨by omega, by omega, h2⟩
theorem y8m (p : Pool) (l : List zf) : (cnt p l).Pairwise (· < ·) := by
  unfold cnt cntN
  rw [List.pairwise_map]
  refine (List.pairwise_lt_range.filter _).imp ?_
  intro a b h
  omega
/-- A list of reports that the laws admit. -/
structure FewL (l : List zf) : Prop where
  len : l.length ≤ 1000
  parts : ∀ r ∈ l, r.item.parts.length ≤ 1000
theorem FewL.gt {l : List zf} (h : FewL l) {i : Int} (h0 : 0 ≤ i) (hi : i < (l.length : Int)) : (Px.gt l i).item.parts.length ≤ 1000 := h.parts _ (z3e h0 hi)
theorem zu1 (φ : Nat) (hφ : 800000 < φ) {p : Pool} (hc : z09 p = 0) {l : List zf} (hl : FewL l) : z8b φ p l = some (cnt p l, ()) := by
  have h1 := hl.len
  unfold z8b
  refine z05 (fun n i acc => z1w φ n l (l.length : Int) i p acc) l.length (fun i acc => acc = cntN p l i) (fun o => o = some (cnt p l, ())) ?_ ?_ φ [] rfl (by omega)
  · intro n i acc hi hacc hs
    rw [z1w, if_pos (by simp; omega), z2 ⟨by omega, by omega⟩, zp1 φ hφ hc (hl.gt (by omega) (by omega)), Option.bind_some, W_id (by omega) (by omega)]
    have hs' := hs (cntN p l (i + 1)) rfl
    rw [zva] at hs'
    cases h : zdo p (gt l (i : Int)).item with
    | true =>
      rw [h] at hs'
      rw [if_pos (by rfl), z2 (zh5 (by have := zef p l i; rw [hacc]; simp; omega) (by omega)), hacc]
      exact hs'
    | false =>
      rw [h] at hs'
      simp only [cond_false, List.append_nil] at hs'
      rw [if_neg (by decide), hacc]
      exact hs'
  · intro n acc hacc
    rw [z1w, if_neg (by simp), hacc]; rfl
/-- The events of a wagon, as they were collected. -/
def unsC (p : Pool) (l : List zf) (c : List Int) (w : Int) : List z1 := c.flatMap fun i => if (gt l i).item.wagon = w then evs p (gt l i) i else []
def uns (p : Pool) (l : List zf) (w : Int) : List z1 := unsC p l (cnt p l) w
theorem zeu (p : Pool) (l : List zf) (w : Int) : ∀ c : List Int, (unsC p l c w).length ≤ 2 * c.length
  | [] => by simp [unsC]
  | i :: c => by
    have := zeu p l w c
    have h2 := zr9 p (gt l i) i
    unfold unsC at *
    rw [List.flatMap_cons, List.length_append, List.length_cons]
    split
    · omega
    · simp only [List.length_nil]; omega
theorem y5n {a b : z1} (h : a.report ≠ b.report ∨ a.second ≠ b.second) : cfEv a b < 0 ∨ cfEv b a < 0 := by
  rw [zis, zis]
  have h2 : a.second ≠ b.second → ordB a.second ≠ ordB b.second := by
    cases a.second <;> cases b.second <;> simp [ordB]
  by_cases hs : a.second = b.second
  · have h3 := h.resolve_right (fun q => q hs)
    rw [hs]; omega
  · have := h2 hs
    omega
theorem y8g (p : Pool) (l : List zf) (w : Int) : (uns p l w).Pairwise fun a b => a.report ≠ b.report ∨ a.second ≠ b.second := by
  unfold uns unsC
  rw [List.pairwise_flatMap]
  refine ⟨fun i hi => ?_, (y8m p l).imp ?_⟩
  · split
    · exact y8h _ _ _
    · exact List.Pairwise.nil
  · intro i j hij x hx y hy
    split at hx
    · split at hy
      · rw [(zg4 hx).1, (zg4 hy).1]
        exact .inl (by omega)
      · cases hy
    · cases hx
theorem zpm {p : Pool} {l : List zf} (hl : l.length ≤ 1000) {w : Int} {x : z1} (h : x ∈ uns p l w) : 0 ≤ x.report ∧ x.report < (l.length : Int) ∧ x.visit.wagon = w ∧ zdo p (gt l x.report).item = true ∧ x ∈ evs p (gt l x.report) x.report := by
  simp only [uns, unsC, List.mem_flatMap] at h
  obtain ⟨i, hi, hx⟩ := h
  obtain ⟨h1, h2, h3⟩ := zvt hi
  split at hx
  · rename_i hw
    obtain ⟨r1, r2, r3⟩ := zg4 hx
    rw [r1]
    exact ⟨h1, h2, by rw [r2, hw], h3, hx⟩
  · cases hx
def ltEv (a b : z1) : Bool := decide (cfEv a b < 0)
def srt (p : Pool) (l : List zf) (w : Int) : List z1 := zch ltEv (uns p l w)
theorem zta {p : Pool} {l : List zf} (hl : l.length ≤ 1000) (w : Int) : sortEv (uns p l w) = some (srt p l w) := by
  refine y0l (fun y hy => ?_) ?_ ((y8g p l w).imp fun h => y5n h)
  · obtain ⟨h1, h2, _⟩ := zpm hl hy
    simp only [okEv, decide_eq_true_eq]; omega
  · have := zeu p l w (cnt p l)
    have h2 := zef p l l.length
    unfold uns cnt at *
    omega
/-- Stays cover the gaps of a zal. -/
def covM (e : z1) (m : List (Int × Bool)) : List (Int × Bool) := if (e.stay && e.second) = true then mdel m e.report else if e.stay = true then mset m e.report true else m
def zga (e : z1) (b : Bool) : z1 := ⟨⟨e.visit.wagon, e.visit.place, e.visit.ref, b, e.visit.early, e.visit.late⟩, e.report, e.second, e.stay, e.reader⟩
def zmb : List z1 → List (Int × Bool) → List z1
  | [], _ => []
  | e :: t, m => zga e (decide ((0 : Int) < ((covM e m).length : Int))) :: zmb t (covM e m)
theorem zij : ∀ (t : List z1) (m : List (Int × Bool)), (zmb t m).length = t.length
  | [], _ => rfl
  | e :: t, m => by simp [zmb, zij t]
def zal (p : Pool) (l : List zf) (w : Int) : List z1 := zmb (srt p l w) []
theorem zup {α : Type} (a : List α) (x y : α) (b : List α) : zy (a ++ x :: b) (a.length : Int) y = a ++ y :: b := by
  simp [zy]
theorem y2l {α : Type} [Inhabited α] (a : List α) (x : α) (b : List α) : gt (a ++ x :: b) (a.length : Int) = x := by
  simp [gt]
theorem ztw (φ : Nat) (k : Int → Int → List (List z1) → Option ((List (List z1)) × Unit)) (x19 x20 x24 : Int) (x23 : List (List z1)) :
    ∀ (n : Nat) (done todo : List z1) (m : List (Int × Bool)), todo.length < n → done.length + todo.length ≤ 100000 →
      z0r φ k n ((done.length + todo.length : Nat) : Int) (done.length : Int) x19 x20 (done ++ todo) m x23 x24 = k x19 (W (x20 + 1)) (zy x23 x24 (done ++ zmb todo m)) := by
  intro n
  induction n with
  | zero => intro d t m h _; omega
  | succ n ih =>
    intro d t m hn hl
    cases t with
    | nil =>
      rw [z0r, if_neg (by simp)]
      rfl
    | cons e t =>
      simp only [List.length_cons] at hn hl
      have hin : (0 : Int) ≤ (d.length : Int) ∧ (d.length : Int) < ((d ++ e :: t).length : Int) := ⟨by omega, by simp; omega⟩
      have key : ∀ m', z2i φ (z0r φ k n) (d.length : Int) ((d.length + (e :: t).length : Nat) : Int) (d.length : Int) x19 x20 (d ++ e :: t) m' x23 x24 =
          k x19 (W (x20 + 1)) (zy x23 x24 (d ++ zga e (decide ((0 : Int) < (m'.length : Int))) :: zmb t m')) := by
        intro m'
        unfold z2i
        rw [z2 hin, y2l, W_id (by omega) (by omega), zup]
        have := ih (d ++ [zga e (decide ((0 : Int) < (m'.length : Int)))]) t m' (by omega) (by simp; omega)
        simp only [List.length_append, List.length_cons, List.length_nil, List.append_assoc, List.cons_append, List.nil_append] at this
        rw [show ((d.length + (e :: t).length : Nat) : Int) = ((d.length + (0 + 1) + t.length : Nat) : Int) by simp; omega, show (d.length : Int) + 1 = ((d.length + (0 + 1) : Nat) : Int) by omega]
        exact this
      rw [z0r, if_pos (by simp; omega), z2 hin, z2 (fun _ => hin), y2l]
      have hg : ∀ m', covM e m = m' → zmb (e :: t) m = zga e (decide ((0 : Int) < (m'.length : Int))) :: zmb t m' := fun m' hm => by subst hm; rfl
      by_cases h1 : (e.stay && e.second) = true
      · rw [if_pos h1, z2 hin, key, hg _ (if_pos h1)]
      · rw [if_neg h1, z2 hin]
        by_cases h2 : e.stay = true
        · rw [if_pos h2, z2 hin, key, hg (mset m e.report true) (by unfold covM; rw [if_neg h1, if_pos h2])]
        · rw [if_neg h2, key, hg m (by unfold covM; rw [if_neg h1, if_neg h2])]
theorem zvm (φ : Nat) (hφ : 800000 < φ) {p : Pool} (hc : z09 p = 0) {l : List zf} (hl : FewL l) : z9v φ p l = some ((List.range p.fleet.wagons.length).map fun (w : Nat) => zal p l (w : Int), ()) := by
  have h1 := hl.len
  obtain ⟨_, hf, _⟩ := zac hc
  obtain ⟨_, f2, _⟩ := z8w hf
  have hcl := zef p l l.length
  unfold z9v
  rw [z2 (mk_t _ _ (by omega) (by omega) (by omega)), zu1 φ hφ hc hl, Option.bind_some]
  generalize hn0 : p.fleet.wagons.length = n0 at *
  have second : ∀ out : List (List z1), out.length = n0 → (∀ w : Nat, w < n0 → gt out (w : Int) = uns p l w) → z18 φ φ (out.length : Int) 0 out = some ((List.range n0).map fun (w : Nat) => zal p l (w : Int), ()) := by
    intro out ho hu
    rw [ho]
    refine z05 (fun n i o => z18 φ n (n0 : Int) i o) n0 (fun i o => o.length = n0 ∧ ∀ w : Nat, w < n0 → gt o (w : Int) = if w < i then zal p l w else uns p l w) (fun o => o = some ((List.range n0).map fun (w : Nat) => zal p l (w : Int), ())) ?_ ?_ φ out ⟨ho, fun w hw => by rw [hu w hw, if_neg (by omega)]⟩ (by omega)
    · intro n i o hi ⟨ho1, ho2⟩ hs
      rw [z18, if_pos (by simp; omega), z2 ⟨by omega, by omega⟩, z2 ⟨by omega, by omega⟩, z2 rfl, ho2 i hi, if_neg (by omega), zta h1, Option.bind_some]
      have hsl : (srt p l (i : Int)).length ≤ 2000 := by
        rw [srt, (z2g _ _).length_eq]
        have := zeu p l i (cnt p l)
        unfold uns cnt at *
        omega
      have := ztw φ (z18 φ n) (n0 : Int) (i : Int) (i : Int) o φ [] (srt p l (i : Int)) [] (by omega) (by simp; omega)
      simp only [List.length_nil, Nat.zero_add, List.nil_append] at this
      refine this.trans ?_
      rw [W_id (by omega) (by omega)]
      refine hs _ ⟨by rw [z14]; exact ho1, fun w hw => ?_⟩
      rw [z0f _ _ _ _ (by omega) (by omega) (by omega)]
      by_cases e : w = i
      · subst e; rw [if_pos rfl, if_pos (by omega)]; rfl
      · rw [if_neg (by omega), ho2 w hw]
        by_cases h2 : w < i
        · rw [if_pos h2, if_pos (by omega)]
        · rw [if_neg h2, if_neg (by omega)]
    · intro n o ⟨ho1, ho2⟩
      rw [z18, if_neg (by simp)]
      congr 2
      refine List.ext_getElem (by simp [ho1]) fun w hw hw2 => ?_
      have := ho2 w (by omega)
      rw [z5l hw, if_pos (by omega)] at this
      simpa using this
  refine z05 (fun n i o => z1v φ n l (cnt p l) ((cnt p l).length : Int) i p o) (cnt p l).length (fun i o => o.length = n0 ∧ ∀ w : Nat, w < n0 → gt o (w : Int) = unsC p l ((cnt p l).take i) w) (fun o => o = some ((List.range n0).map fun (w : Nat) => zal p l (w : Int), ())) ?_ ?_ φ _ ⟨by simp, fun w hw => ?_⟩ (by unfold cnt; omega)
  · intro n i o hi ⟨ho1, ho2⟩ hs
    have hmem : gt (cnt p l) (i : Int) ∈ cnt p l := z3e (by omega) (by omega)
    obtain ⟨c1, c2, c3⟩ := zvt hmem
    have hI := zev hc (hl.gt c1 c2) c3
    have hcn : (cnt p l).length ≤ 1000 := by unfold cnt; omega
    rw [z1v, if_pos (by simp; omega), z2 ⟨by omega, by omega⟩, z2 ⟨c1, c2⟩, zq0 φ p _ _ hI.read, Option.bind_some]
    have hW : W ((i : Int) + 1) = (i : Int) + 1 := W_id (by omega) (by omega)
    have htake : ∀ w, unsC p l ((cnt p l).take (i + 1)) w = unsC p l ((cnt p l).take i) w ++ (if (gt l (gt (cnt p l) (i : Int))).item.wagon = w then evs p (gt l (gt (cnt p l) (i : Int))) (gt (cnt p l) (i : Int)) else []) := by
      intro w
      rw [z0c _ _ hi]
      simp [unsC]
    generalize gt (cnt p l) (i : Int) = ci at *
    generalize hev : evs p (gt l ci) ci = E at *
    have hE : E.length ≤ 2 := by rw [← hev]; exact zr9 _ _ _
    simp only []
    by_cases h0 : 0 < E.length
    · have hkind : (gt l ci).item.kind ≤ 9 := by
        rcases Int.lt_or_le 9 (gt l ci).item.kind with h | h
        · exfalso
          have : E = [] := by
            rw [← hev]; unfold evs
            rw [if_neg (by omega), if_neg (by omega), if_neg (by omega)]
          rw [this] at h0; simp at h0
        · exact h
      have hwg := hI.wagon hkind
      rw [hn0] at hwg
      obtain ⟨w0, hw0⟩ : ∃ w0 : Nat, (gt l ci).item.wagon = (w0 : Int) := ⟨(gt l ci).item.wagon.toNat, by omega⟩
      rw [hw0] at hwg htake ⊢
      have hwg' : (0 : Int) ≤ (w0 : Int) ∧ (w0 : Int) < (o.length : Int) := ⟨by omega, by omega⟩
      have hul := zeu p l w0 ((cnt p l).take i)
      rw [if_pos (by simpa using h0), z2 ⟨c1, c2⟩, z2 hwg', z2 hwg', z2 trivial, ho2 w0 (by omega),
        z2 (zh5 (by rw [List.length_take] at hul; omega) (by omega)), z2 hwg', z2 trivial, hW]
      refine hs _ ⟨by rw [z14]; exact ho1, fun w hw => ?_⟩
      rw [z0f _ _ _ _ (by omega) (by omega) (by omega), htake]
      by_cases e : (w : Int) = (w0 : Int)
      · rw [if_pos e, e, if_pos rfl]
      · rw [if_neg e, if_neg (fun q => e q.symm), List.append_nil, ho2 w hw]
    · have hnil : E = [] := List.eq_nil_of_length_eq_zero (by omega)
      rw [if_neg (by simpa using h0), hW]
      refine hs _ ⟨ho1, fun w hw => ?_⟩
      rw [htake, hnil, ho2 w hw]
      split <;> simp
  · intro n o ⟨ho1, ho2⟩
    rw [z1v, if_neg (by simp)]
    refine second o ho1 fun w hw => ?_
    rw [ho2 w hw, List.take_length]; rfl
  · rw [z2k _ _ _ (by omega) (by simp; omega)]
    simp [unsC]
    rfl
end Px
end
section
namespace Px
open Go
set_option linter.unusedVariables false
set_option linter.unusedSimpArgs false
theorem zf6 (m : List (Int × Int)) (a v c : Int) : mget (mset m a v) c = if c = a then some v else mget m c := by
  induction m with
  | nil =>
    show (bif c == a then some v else none) = _
    by_cases h : c = a
    · rw [if_pos h]; simp [h]
    · rw [if_neg h]
      have : (c == a) = false := by simpa using h
      rw [this]; rfl
  | cons p m ih =>
    obtain ⟨k, w⟩ := p
    show mget (bif a == k then (a, v) :: m else (k, w) :: mset m a v) c = _
    have e1 : mget ((k, w) :: m) c = bif c == k then some w else mget m c := rfl
    by_cases h1 : a = k
    · subst h1
      simp only [beq_self_eq_true, cond_true]
      show (bif c == a then some v else mget m c) = _
      rw [e1]
      by_cases h : c = a
      · rw [if_pos h]; simp [h]
      · rw [if_neg h]
        have : (c == a) = false := by simpa using h
        rw [this]; rfl
    · have : (a == k) = false := by simpa using h1
      rw [this]
      show (bif c == k then some w else mget (mset m a v) c) = _
      rw [ih, e1]
      by_cases h2 : c = k
      · subst h2
        have h3 : ¬ c = a := fun e => h1 e.symm
        simp [h3]
      · have : (c == k) = false := by simpa using h2
        rw [this]; rfl
theorem zvv {p : Pool} {l : List zf} (hl : l.length ≤ 1000) (w : Int) : (zal p l w).length ≤ 2000 := by
  unfold zal
  rw [zij, srt, (z2g _ _).length_eq]
  have := zeu p l w (cnt p l)
  have := zef p l l.length
  unfold uns cnt at *
  omega
end Px
end
section
namespace Px
open Go
set_option linter.unusedVariables false
set_option linter.unusedSimpArgs false
theorem zya (φ : Nat) (hφ : 800000 < φ) (x : zh) (a b : zi) : ∃ t, z5e φ x a b = some (t, ()) ∧ 0 ≤ t ∧ t ≤ 1073741825 := by
  unfold z5e
  split
  · exact ⟨_, rfl, by omega, by omega⟩
  · obtain ⟨t, e, h, h1, h2⟩ := ztn φ hφ x a.place b.place
    rw [h, Option.bind_some]
    split
    · exact ⟨_, rfl, by omega, by omega⟩
    · exact ⟨_, rfl, h1, by omega⟩
/-- The least travel time as Build takes it. -/
def tvl (φ : Nat) (x : zh) (a b : zi) : Int := ((z5e φ x a b).getD default).1
theorem y2w (φ : Nat) (hφ : 800000 < φ) (x : zh) (a b : zi) : z5e φ x a b = some (tvl φ x a b, ()) ∧ 0 ≤ tvl φ x a b ∧ tvl φ x a b ≤ 1073741825 := by
  obtain ⟨t, h, h1, h2⟩ := zya φ hφ x a b
  unfold tvl
  rw [h]
  exact ⟨rfl, h1, h2⟩
def y0 : Nat → Ref := fun _ => (default : Ref)
def y1 (r : Ref) : Nat → Ref := upd (fun _ => (default : Ref)) 0 r
def y2 (r q : Ref) : Nat → Ref := upd (upd (fun _ => (default : Ref)) 0 r) 1 q
/-- Which readers are used. -/
def zu3 (m : List (Int × Int)) (e : z1) : List (Int × Int) := if 0 ≤ e.reader then mset m e.reader 0 else m
def zkd (m : List (Int × Int)) (t : List z1) : List (Int × Int) := t.foldl zu3 m
def used (ts : List (List z1)) : List (Int × Int) := ts.foldl zkd []
/-- What is built. -/
structure BS where
  v : Int
  b : List z7
  y : List (Nat → Ref)
  e : List z0q
structure RS where
  v : Int
  m : List (Int × Int)
  b : List z7
  y : List (Nat → Ref)
def zkz (rs : List z20) (i : Nat) (s : RS) : RS :=
  if (mget s.m (i : Int)).isSome = true then ⟨s.v + 1, mset s.m (i : Int) s.v, s.b ++ [⟨0, s.v, 0 - (gt rs (i : Int)).low⟩, ⟨s.v, 0, (gt rs (i : Int)).high⟩], s.y ++ [y0, y0]⟩ else s
def rdsN (rs : List z20) (m : List (Int × Int)) : Nat → RS
  | 0 => ⟨1, m, [], []⟩
  | n + 1 => zkz rs n (rdsN rs m n)
def rv (m : List (Int × Int)) (e : z1) : Int := (mget m e.reader).getD default
def evB (m : List (Int × Int)) (v : Int) (e : z1) : List z7 :=
  if e.reader < 0 then [⟨0, v, e.visit.early⟩, ⟨v, 0, 0 - e.visit.early⟩]
  else [⟨rv m e, v, e.visit.early⟩, ⟨v, rv m e, 0 - e.visit.early⟩, ⟨0, v, 1073741824⟩, ⟨v, 0, 0⟩]
def evY (e : z1) : List (Nat → Ref) := List.replicate (if e.reader < 0 then 2 else 4) (y1 e.visit.ref)
def trB (tv : zi → zi → Int) (v : Int) (pr : Option zi) (e : z1) : List z7 :=
  match pr with
  | none => []
  | some a => [⟨v, v - 1, 0 - tv a e.visit⟩]
def trY (pr : Option zi) (e : z1) : List (Nat → Ref) :=
  match pr with
  | none => []
  | some a => [y2 a.ref e.visit.ref]
def zjv (tv : zi → zi → Int) (m : List (Int × Int)) (pr : Option zi) (e : z1) (s : BS) : BS :=
  ⟨s.v + 1, s.b ++ evB m s.v e ++ trB tv s.v pr e, s.y ++ evY e ++ trY pr e, s.e ++ [⟨e.visit.wagon, e.visit.place, s.v, e.visit.ref, e.visit.stay⟩]⟩
def bEv (tv : zi → zi → Int) (m : List (Int × Int)) : Option zi → List z1 → BS → BS
  | _, [], s => s
  | pr, e :: t, s => bEv tv m (some e.visit) t (zjv tv m pr e s)
def bAll (tv : zi → zi → Int) (rs : List z20) (ts : List (List z1)) : BS :=
  ts.foldl (fun s t => bEv tv (rdsN rs (used ts) rs.length).m none t s) ⟨(rdsN rs (used ts) rs.length).v, (rdsN rs (used ts) rs.length).b, (rdsN rs (used ts) rs.length).y, []⟩
def bEnd (s : BS) : zk × Int × Unit := if 512 < s.v ∨ 4096 < s.b.length then (⟨0, [], [], []⟩, 2, ()) else (⟨s.v, s.b, s.y, s.e⟩, 0, ())
def z2f (p : Pool) (l : List zf) : List (List z1) := (List.range p.fleet.wagons.length).map fun (w : Nat) => zal p l (w : Int)
theorem za6 (rs : List z20) (m : List (Int × Int)) : ∀ n, 1 ≤ (rdsN rs m n).v ∧ (rdsN rs m n).v ≤ 1 + n ∧ (rdsN rs m n).b.length ≤ 2 * n ∧ (rdsN rs m n).y.length ≤ 2 * n
  | 0 => ⟨by simp [rdsN], by simp [rdsN], by simp [rdsN], by simp [rdsN]⟩
  | n + 1 => by
    obtain ⟨h1, h2, h3, h4⟩ := za6 rs m n
    simp only [rdsN, zkz]
    split
    · refine ⟨?_, ?_, ?_, ?_⟩ <;> simp <;> omega
    · refine ⟨?_, ?_, ?_, ?_⟩ <;> omega
theorem y5d (m : List (Int × Int)) (v : Int) (e : z1) : (evB m v e).length ≤ 4 := by
  unfold evB; split <;> simp
theorem y5z (e : z1) : (evY e).length ≤ 4 := by
  unfold evY; split <;> simp
theorem y5a (tv : zi → zi → Int) (v : Int) (pr : Option zi) (e : z1) : (trB tv v pr e).length ≤ 1 := by
  cases pr <;> simp [trB]
theorem y3z (pr : Option zi) (e : z1) : (trY pr e).length ≤ 1 := by
  cases pr <;> simp [trY]
/-- How much there is. -/
structure BB (n : Nat) (s : BS) : Prop where
  v0 : 1 ≤ s.v
  v1 : s.v ≤ 257 + n
  b : s.b.length ≤ 512 + 5 * n
  y : s.y.length ≤ 512 + 5 * n
  e : s.e.length ≤ n
theorem BB.step {n : Nat} {s : BS} (h : BB n s) (tv m pr e) : BB (n + 1) (zjv tv m pr e s) := by
  have h1 := y5d m s.v e
  have h2 := y5z e
  have h3 := y5a tv s.v pr e
  have h4 := y3z pr e
  obtain ⟨a, b, c, d, f⟩ := h
  unfold zjv
  constructor
  · show 1 ≤ s.v + 1; omega
  · show s.v + 1 ≤ 257 + ((n + 1 : Nat) : Int); omega
  · show (s.b ++ evB m s.v e ++ trB tv s.v pr e).length ≤ _
    rw [List.length_append, List.length_append]; omega
  · show (s.y ++ evY e ++ trY pr e).length ≤ _
    rw [List.length_append, List.length_append]; omega
  · show (s.e ++ [_]).length ≤ _
    rw [List.length_append]; simp; omega
theorem BB.ev (tv m) : ∀ (t : List z1) (n : Nat) (pr : Option zi) (s : BS), BB n s → BB (n + t.length) (bEv tv m pr t s)
  | [], n, pr, s, h => h
  | e :: t, n, pr, s, h => by
    have := BB.ev tv m t (n + 1) (some e.visit) (zjv tv m pr e s) (h.step tv m pr e)
    rw [show n + (e :: t).length = n + 1 + t.length by simp; omega]
    exact this
section
variable (φ : Nat)
/-- The two bounds of a reader. -/
theorem y9h (hφ : 10 < φ) (k) (x55 x56 x57 x58 x59 x60 x61 x62 x63 x64 x65 x66 x67 x68) (B : List z7) (x70 x71 x72 x73) (b : List z7) (y : List (Nat → Ref)) (x76 x77 x78 x79) (hB : B.length ≤ 4) (hb : b.length ≤ 50000000) (hy : y.length ≤ 50000000) :
    z26 φ k φ (B.length : Int) 0 x55 x56 x57 x58 x59 x60 x61 x62 x63 x64 x65 x66 x67 x68 B x70 x71 x72 x73 b y x76 x77 x78 x79 = k x55 x56 x57 (W (x58 + 1)) x70 x71 (W (x67 + 1)) x72 x77 x78 x79 (b ++ B) (y ++ List.replicate B.length x68) x76 := by
  refine z05 (fun n i (s : List z7 × List (Nat → Ref)) => z26 φ k n (B.length : Int) i x55 x56 x57 x58 x59 x60 x61 x62 x63 x64 x65 x66 x67 x68 B x70 x71 x72 x73 s.1 s.2 x76 x77 x78 x79) B.length (fun i s => s.1 = b ++ B.take i ∧ s.2 = y ++ List.replicate i x68) (fun o => o = k x55 x56 x57 (W (x58 + 1)) x70 x71 (W (x67 + 1)) x72 x77 x78 x79 (b ++ B) (y ++ List.replicate B.length x68) x76) ?_ ?_ φ (b, y) ⟨by simp, by simp⟩ (by omega)
  · intro n i s hi ⟨h1, h2⟩ hs
    rw [z26, if_pos (by simp; omega), z2 ⟨by omega, by omega⟩, z2 (zez (by rw [h1]; simp; omega) (by omega)), z2 (zez (by rw [h2]; simp; omega) (by omega)), W_id (by omega) (by omega)]
    exact hs (_, _) ⟨by rw [h1, z0c B i hi, List.append_assoc], by rw [h2, List.replicate_succ', List.append_assoc]⟩
  · intro n s ⟨h1, h2⟩
    rw [z26, if_neg (by simp), h1, h2, List.take_length]
theorem y8l (hφ : 10 < φ) (k) (x137 x138 x139 x140 x141 x142 x143 x144 x145 x146 x147 x148 x149 x150 x151 x152 x153 x154 x155 x156 x157) (B : List z7) (x159 x160 x161 x162 x163) (b : List z7) (y : List (Nat → Ref)) (x166 x167 x168 x169) (hB : B.length ≤ 4) (hb : b.length ≤ 50000000) (hy : y.length ≤ 50000000) :
    z1x φ k φ (B.length : Int) 0 x137 x138 x139 x140 x141 x142 x143 x144 x145 x146 x147 x148 x149 x150 x151 x152 x153 x154 x155 x156 x157 B x159 x160 x161 x162 x163 b y x166 x167 x168 x169 = k x137 x138 x139 x140 x141 x142 (W (x143 + 1)) x159 x160 x156 x161 x167 x168 x169 (b ++ B) (y ++ List.replicate B.length x157) x166 := by
  refine z05 (fun n i (s : List z7 × List (Nat → Ref)) => z1x φ k n (B.length : Int) i x137 x138 x139 x140 x141 x142 x143 x144 x145 x146 x147 x148 x149 x150 x151 x152 x153 x154 x155 x156 x157 B x159 x160 x161 x162 x163 s.1 s.2 x166 x167 x168 x169) B.length (fun i s => s.1 = b ++ B.take i ∧ s.2 = y ++ List.replicate i x157) (fun o => o = k x137 x138 x139 x140 x141 x142 (W (x143 + 1)) x159 x160 x156 x161 x167 x168 x169 (b ++ B) (y ++ List.replicate B.length x157) x166) ?_ ?_ φ (b, y) ⟨by simp, by simp⟩ (by omega)
  · intro n i s hi ⟨h1, h2⟩ hs
    rw [z1x, if_pos (by simp; omega), z2 ⟨by omega, by omega⟩, z2 (zez (by rw [h1]; simp; omega) (by omega)), z2 (zez (by rw [h2]; simp; omega) (by omega)), W_id (by omega) (by omega)]
    exact hs (_, _) ⟨by rw [h1, z0c B i hi, List.append_assoc], by rw [h2, List.replicate_succ', List.append_assoc]⟩
  · intro n s ⟨h1, h2⟩
    rw [z1x, if_neg (by simp), h1, h2, List.take_length]
theorem y6y (hφ : 10 < φ) (k) (x173 x174 x175 x176 x177 x178 x179 x180 x181 x182 x183) (B : List z7) (x185 x186 x187 x188) (b : List z7) (y : List (Nat → Ref)) (x191 x192 x193 x194) (hB : B.length ≤ 4) (hb : b.length ≤ 50000000) (hy : y.length ≤ 50000000) :
    z1y φ k φ (B.length : Int) 0 x173 x174 x175 x176 x177 x178 x179 x180 x181 x182 x183 B x185 x186 x187 x188 b y x191 x192 x193 x194 = z0s φ k x173 x174 x175 x176 x177 x178 x179 x180 x181 x185 x186 x182 x187 x188 x192 x193 x194 (b ++ B) (y ++ List.replicate B.length x183) x191 := by
  refine z05 (fun n i (s : List z7 × List (Nat → Ref)) => z1y φ k n (B.length : Int) i x173 x174 x175 x176 x177 x178 x179 x180 x181 x182 x183 B x185 x186 x187 x188 s.1 s.2 x191 x192 x193 x194) B.length (fun i s => s.1 = b ++ B.take i ∧ s.2 = y ++ List.replicate i x183) (fun o => o = z0s φ k x173 x174 x175 x176 x177 x178 x179 x180 x181 x185 x186 x182 x187 x188 x192 x193 x194 (b ++ B) (y ++ List.replicate B.length x183) x191) ?_ ?_ φ (b, y) ⟨by simp, by simp⟩ (by omega)
  · intro n i s hi ⟨h1, h2⟩ hs
    rw [z1y, if_pos (by simp; omega), z2 ⟨by omega, by omega⟩, z2 (zez (by rw [h1]; simp; omega) (by omega)), z2 (zez (by rw [h2]; simp; omega) (by omega)), W_id (by omega) (by omega)]
    exact hs (_, _) ⟨by rw [h1, z0c B i hi, List.append_assoc], by rw [h2, List.replicate_succ', List.append_assoc]⟩
  · intro n s ⟨h1, h2⟩
    rw [z1y, if_neg (by simp), h1, h2, List.take_length]
theorem y7g (hφ : 10 < φ) (k) (x173 x174 x175 x176 x177 x178 x179 x180 x181 x182 x183) (B : List z7) (x185 x186 x187 x188) (b : List z7) (y : List (Nat → Ref)) (x191 x192 x193 x194) (hB : B.length ≤ 4) (hb : b.length ≤ 50000000) (hy : y.length ≤ 50000000) :
    z1u φ k φ (B.length : Int) 0 x173 x174 x175 x176 x177 x178 x179 x180 x181 x182 x183 B x185 x186 x187 x188 b y x191 x192 x193 x194 = z0s φ k x173 x174 x175 x176 x177 x178 x179 x180 x181 x185 x186 x182 x187 x188 x192 x193 x194 (b ++ B) (y ++ List.replicate B.length x183) x191 := by
  refine z05 (fun n i (s : List z7 × List (Nat → Ref)) => z1u φ k n (B.length : Int) i x173 x174 x175 x176 x177 x178 x179 x180 x181 x182 x183 B x185 x186 x187 x188 s.1 s.2 x191 x192 x193 x194) B.length (fun i s => s.1 = b ++ B.take i ∧ s.2 = y ++ List.replicate i x183) (fun o => o = z0s φ k x173 x174 x175 x176 x177 x178 x179 x180 x181 x185 x186 x182 x187 x188 x192 x193 x194 (b ++ B) (y ++ List.replicate B.length x183) x191) ?_ ?_ φ (b, y) ⟨by simp, by simp⟩ (by omega)
  · intro n i s hi ⟨h1, h2⟩ hs
    rw [z1u, if_pos (by simp; omega), z2 ⟨by omega, by omega⟩, z2 (zez (by rw [h1]; simp; omega) (by omega)), z2 (zez (by rw [h2]; simp; omega) (by omega)), W_id (by omega) (by omega)]
    exact hs (_, _) ⟨by rw [h1, z0c B i hi, List.append_assoc], by rw [h2, List.replicate_succ', List.append_assoc]⟩
  · intro n s ⟨h1, h2⟩
    rw [z1u, if_neg (by simp), h1, h2, List.take_length]
/-- The travel zbi and what follows it. -/
theorem zy3 (hφ : 800000 < φ) (k) (T : List z1) (n : Nat) (hn : n < T.length) (x115 x116 x117 x118 x119 x120) (x122 : Pool) (x123 : Int) (x125 : List (Int × Int)) (e : z1) (pr : Option zi) (hpr : pr = if 0 < n then some (gt T ((n : Int) - 1)).visit else none) (x127 x128 x129) (b : List z7) (y : List (Nat → Ref)) (x132) (hb : b.length ≤ 50000000) (hy : y.length ≤ 50000000) (h15 : 0 ≤ x115 ∧ x115 ≤ 100000000) (hT : n ≤ 100000000) :
    z0s φ k T (n : Int) x115 x116 x117 x118 x119 x120 (n : Int) x122 x123 (x115 + 1) x125 e x127 x128 x129 b y x132 =
      k T x116 x117 x118 x119 x120 ((n + 1 : Nat) : Int) x122 x123 (x115 + 1) x125 x127 x128 x129 (b ++ trB (tvl φ x122.network) x115 pr e) (y ++ trY pr e) x132 := by
  have hW : W ((n : Int) + 1) = ((n + 1 : Nat) : Int) := by rw [W_id (by omega) (by omega)]; omega
  unfold z0s
  by_cases h : 0 < n
  · obtain ⟨ht, t1, t2⟩ := y2w φ hφ x122.network (gt T ((n : Int) - 1)).visit e.visit
    rw [if_pos (by simp; omega), W_id (x := (n : Int) - 1) (by omega) (by omega), z2 ⟨by omega, by omega⟩, ht, Option.bind_some, W_id (x := x115 - 1) (by omega) (by omega)]
    rw [hpr, if_pos h]
    simp only [trB, trY]
    generalize tvl φ x122.network (gt T ((n : Int) - 1)).visit e.visit = tt at *
    rw [W_id (x := 0 - tt) (by omega) (by omega)]
    refine (y8l φ (by omega) k T x116 x117 x118 x119 x120 (n : Int) _ _ _ _ _ _ _ _ _ _ _ _ _ _ ([⟨x115, x115 - 1, 0 - tt⟩] : List z7) x122 x123 x125 _ _ b y x132 x127 x128 x129 (by simp) hb hy).trans ?_
    rw [hW]
    rfl
  · rw [if_neg (by simp; omega), hW, hpr, if_neg h]
    simp only [trB, trY, List.append_nil]
/-- One zal. -/
theorem ztq (hφ : 800000 < φ) (k) (x96 x97 x98) (T : List z1) (hE : ∀ e ∈ T, 0 ≤ e.visit.early ∧ e.visit.early ≤ 1073741824) (x102 : Pool) (x103 : Int) (m : List (Int × Int)) (g1 g2 g3) (hT : T.length ≤ 2000) :
    ∀ (n i N : Nat) (s : BS), T.length < n + i → i ≤ T.length → BB N s → N ≤ 8300000 + i →
      z07 φ k n T x96 x97 x98 T (T.length : Int) (i : Int) x102 x103 s.v m g1 g2 g3 s.b s.y s.e =
        (fun s' : BS => k x96 x97 (W (x98 + 1)) x102 x103 s'.v m g1 g2 g3 s'.b s'.y s'.e) (bEv (tvl φ x102.network) m (if 0 < i then some (gt T ((i : Int) - 1)).visit else none) (T.drop i) s) := by
  intro n
  induction n with
  | zero => intro i N s h1 h2; exfalso; omega
  | succ n ih =>
    intro i N s h1 h2 hB hN
    obtain ⟨v0, v1, b1, b2, b3⟩ := hB
    by_cases hi : i < T.length
    · obtain ⟨e0, e1⟩ := hE _ (z3e (l := T) (i := (i : Int)) (by omega) (by omega))
      have hWv : W (s.v + 1) = s.v + 1 := W_id (by omega) (by omega)
      have hWe : W (0 - (gt T (i : Int)).visit.early) = 0 - (gt T (i : Int)).visit.early := W_id (by omega) (by omega)
      have hnext := ih (i + 1) (N + 1) (zjv (tvl φ x102.network) m (if 0 < i then some (gt T ((i : Int) - 1)).visit else none) (gt T (i : Int)) s) (by omega) (by omega) (BB.step ⟨v0, v1, b1, b2, b3⟩ _ _ _ _) (by omega)
      rw [if_pos (show 0 < i + 1 by omega), show ((i + 1 : Nat) : Int) - 1 = (i : Int) by omega] at hnext
      rw [zug T i hi]
      refine Eq.trans ?_ hnext
      rw [z07, if_pos (by simp; omega), z2 ⟨by omega, by omega⟩, z2 (zez (by simp; omega) (by omega)), hWv, hWe]
      by_cases hr : (gt T (i : Int)).reader < 0
      · rw [if_pos (by simpa using hr)]
        refine (y6y φ (by omega) (z07 φ k n) T (i : Int) s.v x96 x97 x98 T (T.length : Int) (i : Int) (s.v + 1) (y1 (gt T (i : Int)).visit.ref) ([⟨0, s.v, (gt T (i : Int)).visit.early⟩, ⟨s.v, 0, 0 - (gt T (i : Int)).visit.early⟩] : List z7) x102 x103 m (gt T (i : Int)) s.b s.y _ g1 g2 g3 (by simp) (by omega) (by omega)).trans ?_
        refine (zy3 φ hφ (z07 φ k n) T i hi s.v x96 x97 x98 T (T.length : Int) x102 x103 m (gt T (i : Int)) _ rfl g1 g2 g3 _ _ _ (by simp; omega) (by simp; omega) ⟨by omega, by omega⟩ (by omega)).trans ?_
        simp only [zjv, evB, evY, if_pos hr]
        rfl
      · rw [if_neg (by simpa using hr)]
        refine (y7g φ (by omega) (z07 φ k n) T (i : Int) s.v x96 x97 x98 T (T.length : Int) (i : Int) (s.v + 1) (y1 (gt T (i : Int)).visit.ref) ([⟨rv m (gt T (i : Int)), s.v, (gt T (i : Int)).visit.early⟩, ⟨s.v, rv m (gt T (i : Int)), 0 - (gt T (i : Int)).visit.early⟩, ⟨0, s.v, 1073741824⟩, ⟨s.v, 0, 0⟩] : List z7) x102 x103 m (gt T (i : Int)) s.b s.y _ g1 g2 g3 (by simp) (by omega) (by omega)).trans ?_
        refine (zy3 φ hφ (z07 φ k n) T i hi s.v x96 x97 x98 T (T.length : Int) x102 x103 m (gt T (i : Int)) _ rfl g1 g2 g3 _ _ _ (by simp; omega) (by simp; omega) ⟨by omega, by omega⟩ (by omega)).trans ?_
        simp only [zjv, evB, evY, if_neg hr]
        rfl
    · have : i = T.length := by omega
      subst this
      rw [z07, if_neg (by simp), List.drop_length]
      rfl
/-- All tracks. -/
theorem zq4 (hφ : 800000 < φ) (ts : List (List z1)) (hE : ∀ T ∈ ts, T.length ≤ 2000 ∧ ∀ e ∈ T, 0 ≤ e.visit.early ∧ e.visit.early ≤ 1073741824) (hts : ts.length ≤ 4096) (x84 : Pool) (x85 : Int) (m : List (Int × Int)) (g1 g2 g3) (s : BS) (hs : BB 0 s) :
    z1n φ φ ts (ts.length : Int) 0 x84 x85 s.v m g1 g2 g3 s.b s.y s.e = some (bEnd (ts.foldl (fun s t => bEv (tvl φ x84.network) m none t s) s)) := by
  refine z05 (fun n i (s : BS) => z1n φ n ts (ts.length : Int) i x84 x85 s.v m g1 g2 g3 s.b s.y s.e) ts.length (fun i s' => BB (2000 * i) s' ∧ s' = (ts.take i).foldl (fun s t => bEv (tvl φ x84.network) m none t s) s) (fun o => o = some (bEnd (ts.foldl (fun s t => bEv (tvl φ x84.network) m none t s) s))) ?_ ?_ φ s ⟨hs, rfl⟩ (by omega)
  · intro n i s' hi ⟨h1, h2⟩ hk
    obtain ⟨q1, q2⟩ := hE _ (z3e (l := ts) (i := (i : Int)) (by omega) (by omega))
    rw [z1n, if_pos (by simp; omega), z2 ⟨by omega, by omega⟩]
    have := ztq φ hφ (z1n φ n) ts (ts.length : Int) (i : Int) (gt ts (i : Int)) q2 x84 x85 m g1 g2 g3 q1 φ 0 (2000 * i) s' (by omega) (by omega) h1 (by omega)
    refine this.trans ?_
    simp only [W_id (x := (i : Int) + 1) (by omega) (by omega), List.drop_zero]
    rw [if_neg (by omega)]
    refine hk _ ⟨?_, ?_⟩
    · have := BB.ev (tvl φ x84.network) m (gt ts (i : Int)) (2000 * i) none s' h1
      obtain ⟨a, b, c, d, f⟩ := this
      exact ⟨a, by omega, by omega, by omega, by omega⟩
    · rw [z0c ts i hi, List.foldl_append, ← h2]; rfl
  · intro n s' ⟨h1, h2⟩
    rw [List.take_length] at h2
    rw [z1n, if_neg (by simp), ← h2]
    unfold bEnd
    by_cases h : 512 < s'.v ∨ 4096 < s'.b.length
    · rw [if_pos (by simp; omega), if_pos h]
    · rw [if_neg (by simp; omega), if_neg h]
/-- The readers. -/
theorem zp9 (hφ : 800000 < φ) (ts : List (List z1)) (hE : ∀ T ∈ ts, T.length ≤ 2000 ∧ ∀ e ∈ T, 0 ≤ e.visit.early ∧ e.visit.early ≤ 1073741824) (hts : ts.length ≤ 4096) (p : Pool) (hp : p.readers.length ≤ 256) (hr : ∀ r ∈ p.readers, -1000 ≤ r.low ∧ r.low ≤ 1000) (x43 : Int) (m : List (Int × Int)) (g1 g2) :
    z16 φ φ ts p.readers (p.readers.length : Int) 0 p x43 1 m g1 g2 [] [] [] [] = some (bEnd (ts.foldl (fun s t => bEv (tvl φ p.network) (rdsN p.readers m p.readers.length).m none t s) ⟨(rdsN p.readers m p.readers.length).v, (rdsN p.readers m p.readers.length).b, (rdsN p.readers m p.readers.length).y, []⟩)) := by
  refine z05 (fun n i (s : RS) => z16 φ n ts p.readers (p.readers.length : Int) i p x43 s.v s.m g1 g2 [] s.b s.y []) p.readers.length (fun i s => s = rdsN p.readers m i) (fun o => o = _) ?_ ?_ φ ⟨1, m, [], []⟩ rfl (by omega)
  · intro n i s hi hs hk
    obtain ⟨a1, a2, a3, a4⟩ := za6 p.readers m i
    rw [← hs] at a1 a2 a3 a4
    obtain ⟨r1, r2⟩ := hr _ (z3e (l := p.readers) (i := (i : Int)) (by omega) (by omega))
    have hk' := hk (rdsN p.readers m (i + 1)) rfl
    simp only [rdsN, zkz] at hk'
    rw [← hs] at hk'
    have hW : W ((i : Int) + 1) = (i : Int) + 1 := W_id (by omega) (by omega)
    rw [z16, if_pos (by simp; omega), z2 ⟨by omega, by omega⟩]
    by_cases h : (mget s.m (i : Int)).isSome = true
    · rw [if_pos h] at hk' ⊢
      have hWl : W (0 - (gt p.readers (i : Int)).low) = 0 - (gt p.readers (i : Int)).low := W_id (by omega) (by omega)
      rw [hWl]
      refine (y9h φ (by omega) (z16 φ n) ts p.readers (p.readers.length : Int) (i : Int) _ _ _ _ _ _ _ _ _ _ ([⟨0, s.v, 0 - (gt p.readers (i : Int)).low⟩, ⟨s.v, 0, (gt p.readers (i : Int)).high⟩] : List z7) p x43 (mset s.m (i : Int) s.v) _ s.b s.y [] g1 g2 [] (by simp) (by omega) (by omega)).trans ?_
      rw [hW, W_id (x := s.v + 1) (by omega) (by omega)]
      exact hk'
    · rw [if_neg h] at hk' ⊢
      rw [hW]
      exact hk'
  · intro n s hs
    rw [z16, if_neg (by simp), ← hs]
    obtain ⟨a1, a2, a3, a4⟩ := za6 p.readers m p.readers.length
    rw [← hs] at a1 a2 a3 a4
    exact zq4 φ hφ ts hE hts p x43 s.m g1 g2 [] ⟨s.v, s.b, s.y, []⟩ ⟨a1, by show s.v ≤ _; omega, by show s.b.length ≤ _; omega, by show s.y.length ≤ _; omega, by simp⟩
/-- One track's readers. -/
theorem zv6 (k) (x20 x21 x22 x23) (T : List z1) (hT : T.length ≤ 2000) (hφ : 800000 < φ) (x27 x28 x29 x30 x31 x32 x33 x34 x35 x36) :
    z1j φ k φ x20 x21 x22 x23 T (T.length : Int) 0 x27 x28 x29 x30 x31 x32 x33 x34 x35 x36 = k x20 x21 x22 (W (x23 + 1)) x27 x28 x29 (zkd x30 T) x31 x32 x33 x34 x35 x36 := by
  refine z05 (fun n i (m : List (Int × Int)) => z1j φ k n x20 x21 x22 x23 T (T.length : Int) i x27 x28 x29 m x31 x32 x33 x34 x35 x36) T.length (fun i m => m = zkd x30 (T.take i)) (fun o => o = _) ?_ ?_ φ x30 rfl (by omega)
  · intro n i m hi hm hk
    have hk' := hk (zkd x30 (T.take (i + 1))) rfl
    rw [z0c T i hi] at hk'
    simp only [zkd, List.foldl_append, List.foldl_cons, List.foldl_nil] at hk' hm
    rw [← hm] at hk'
    rw [z1j, if_pos (by simp; omega), z2 ⟨by omega, by omega⟩, W_id (by omega) (by omega)]
    unfold zu3 at hk'
    by_cases h : 0 ≤ (gt T (i : Int)).reader
    · rw [if_pos h] at hk'
      rw [if_pos (by simpa using h)]
      exact hk'
    · rw [if_neg h] at hk'
      rw [if_neg (by simpa using h)]
      exact hk'
  · intro n m hm
    rw [List.take_length] at hm
    rw [z1j, if_neg (by simp), hm]
theorem zvu {p : Pool} {r : zf} (h : znn p r.item) {i : Int} {x : z1} (hx : x ∈ evs p r i) : 0 ≤ x.visit.early ∧ x.visit.early ≤ 1073741824 := by
  have hf := h.from_
  have ht := h.to
  unfold evs at hx
  split at hx
  · simp only [List.mem_singleton] at hx; subst hx
    simp only [z6d]; omega
  · split at hx
    · simp only [List.mem_cons, List.not_mem_nil, or_false] at hx
      rcases hx with rfl | rfl <;> simp only [z6d] <;> omega
    · split at hx
      · simp only [List.mem_singleton] at hx; subst hx
        simp only [z6d]; omega
      · cases hx
theorem zoq : ∀ {t : List z1} {m : List (Int × Bool)} {x : z1}, x ∈ zmb t m → ∃ y ∈ t, ∃ b, x = zga y b
  | [], m, x, h => by cases h
  | e :: t, m, x, h => by
    rcases List.mem_cons.1 h with rfl | h
    · exact ⟨e, List.mem_cons_self, _, rfl⟩
    · obtain ⟨y, hy, b, hb⟩ := zoq h
      exact ⟨y, List.mem_cons_of_mem _ hy, b, hb⟩
theorem zff {p : Pool} {l : List zf} {w : Int} {x : z1} (h : x ∈ zal p l w) : ∃ y ∈ uns p l w, ∃ b, x = zga y b := by
  obtain ⟨y, hy, b, hb⟩ := zoq h
  exact ⟨y, (z2g _ _).mem_iff.1 hy, b, hb⟩
theorem znd {p : Pool} (hc : z09 p = 0) {l : List zf} (hl : FewL l) {w : Int} {x : z1} (h : x ∈ zal p l w) : 0 ≤ x.visit.early ∧ x.visit.early ≤ 1073741824 := by
  obtain ⟨y, hy, b, rfl⟩ := zff h
  obtain ⟨h1, h2, _, h3, h4⟩ := zpm hl.len hy
  show 0 ≤ y.visit.early ∧ y.visit.early ≤ 1073741824
  exact zvu (zev hc (hl.gt h1 h2) h3) h4
/-- What Build answers. -/
theorem zi7 (hφ : 800000 < φ) (p : Pool) {l : List zf} (hl : FewL l) :
    z58 φ p l = some (if z09 p = 0 then bEnd (bAll (tvl φ p.network) p.readers (z2f p l)) else (⟨0, [], [], []⟩, z09 p, ())) := by
  unfold z58
  rw [za0 φ hφ, Option.bind_some]
  by_cases hc : z09 p = 0
  case neg => rw [if_pos (by simpa using hc), if_neg hc]
  rw [if_neg (by simp [hc]), if_pos hc, zvm φ hφ hc hl, Option.bind_some]
  obtain ⟨_, hf, hr1, _⟩ := zac hc
  obtain ⟨_, f2, _⟩ := z8w hf
  have hrd := (zg5 hc).1
  show z1m φ φ (z2f p l) (z2f p l) ((z2f p l).length : Int) 0 p 0 1 [] [] [] [] [] [] [] = _
  have hlen : (z2f p l).length ≤ 4096 := by unfold z2f; simp; omega
  have hE : ∀ T ∈ z2f p l, T.length ≤ 2000 ∧ ∀ e ∈ T, 0 ≤ e.visit.early ∧ e.visit.early ≤ 1073741824 := by
    intro T hT
    unfold z2f at hT
    obtain ⟨w, _, rfl⟩ := List.mem_map.1 hT
    exact ⟨zvv hl.len _, fun e he => znd hc hl he⟩
  generalize z2f p l = ts at *
  refine z05 (fun n i (m : List (Int × Int)) => z1m φ n ts ts (ts.length : Int) i p 0 1 m [] [] [] [] [] []) ts.length (fun i m => m = (ts.take i).foldl zkd []) (fun o => o = some (bEnd (bAll (tvl φ p.network) p.readers ts))) ?_ ?_ φ [] rfl (by omega)
  · intro n i m hi hm hk
    rw [z1m, if_pos (by simp; omega), z2 ⟨by omega, by omega⟩]
    rw [zv6 φ (z1m φ n) ts ts (ts.length : Int) (i : Int) (gt ts (i : Int)) (hE _ (z3e (by omega) (by omega))).1 hφ, W_id (by omega) (by omega)]
    exact hk _ (by rw [z0c ts i hi, List.foldl_append, ← hm]; rfl)
  · intro n m hm
    rw [List.take_length] at hm
    rw [z1m, if_neg (by simp)]
    refine (zp9 φ hφ ts hE hlen p hr1 (fun r hr => ?_) 0 m [] []).trans ?_
    · have := hrd r hr; omega
    · rw [hm]; rfl
end
end Px
end
section
namespace Px
open Go
set_option linter.unusedVariables false
set_option linter.unusedSimpArgs false
/-- The first report with a Ref. -/
def idx : List zf → Ref → Int
  | [], _ => 0
  | r :: l, q => if r.ref.railway = q.railway ∧ r.ref.no = q.no then 0 else idx l q + 1
end Px
end
section
namespace Px
open Go
set_option linter.unusedVariables false
set_option linter.unusedSimpArgs false
def evE (v : Int) (e : z1) : z0q := ⟨e.visit.wagon, e.visit.place, v, e.visit.ref, e.visit.stay⟩
def evsE : Int → List z1 → List z0q
  | _, [] => []
  | v, e :: t => evE v e :: evsE (v + 1) t
def bnds (tv : zi → zi → Int) (m : List (Int × Int)) : Option zi → Int → List z1 → List z7
  | _, _, [] => []
  | pr, v, e :: t => evB m v e ++ trB tv v pr e ++ bnds tv m (some e.visit) (v + 1) t
theorem y0s (tv m) : ∀ (t : List z1) (pr) (s : BS), (bEv tv m pr t s).v = s.v + t.length
  | [], pr, s => by simp [bEv]
  | e :: t, pr, s => by
    rw [bEv, y0s tv m t]
    simp only [zjv, List.length_cons]; omega
theorem zzo (tv m) : ∀ (t : List z1) (pr) (s : BS), (bEv tv m pr t s).b = s.b ++ bnds tv m pr s.v t
  | [], pr, s => by simp [bEv, bnds]
  | e :: t, pr, s => by
    rw [bEv, zzo tv m t]
    simp only [zjv, bnds, List.append_assoc]
theorem zur (tv m) : ∀ (t : List z1) (pr) (s : BS), (bEv tv m pr t s).e = s.e ++ evsE s.v t
  | [], pr, s => by simp [bEv, evsE]
  | e :: t, pr, s => by
    rw [bEv, zur tv m t]
    simp only [zjv, evsE, evE, List.append_assoc, List.cons_append, List.nil_append]
theorem zrg : ∀ (t : List z1) (v : Int), (evsE v t).length = t.length
  | [], v => rfl
  | e :: t, v => by simp [evsE, zrg t]
theorem zvf : ∀ (t : List z1) (v : Int) (i : Nat), (evsE v t)[i]? = (t[i]?).map (evE (v + i))
  | [], v, i => by simp [evsE]
  | e :: t, v, 0 => by simp [evsE]
  | e :: t, v, i + 1 => by
    simp only [evsE, List.getElem?_cons_succ]
    rw [zvf t (v + 1) i]
    congr 2; omega
/-- The bounds of the event i of a zal, and the one that leads to it. -/
theorem zvi (tv m) : ∀ (t : List z1) (pr) (v : Int) (i : Nat) (e : z1), t[i]? = some e → ∀ b ∈ evB m (v + i) e, b ∈ bnds tv m pr v t
  | [], pr, v, i, e, h, b, hb => by simp at h
  | x :: t, pr, v, 0, e, h, b, hb => by
    simp at h; subst h
    rw [show v + ((0 : Nat) : Int) = v by omega] at hb
    simp only [bnds]
    exact List.mem_append_left _ (List.mem_append_left _ hb)
  | x :: t, pr, v, i + 1, e, h, b, hb => by
    simp only [bnds]
    refine List.mem_append_right _ (zvi tv m t _ (v + 1) i e (by simpa using h) b ?_)
    rw [show v + 1 + (i : Int) = v + ((i + 1 : Nat) : Int) by omega]; exact hb
theorem y4s (tv m) : ∀ (t : List z1) (pr) (v : Int) (i : Nat) (a e : z1), t[i]? = some a → t[i + 1]? = some e → (⟨v + i + 1, v + i, 0 - tv a.visit e.visit⟩ : z7) ∈ bnds tv m pr v t
  | [], pr, v, i, a, e, h, _ => by simp at h
  | [x], pr, v, 0, a, e, h, h2 => by simp at h2
  | x :: y :: t, pr, v, 0, a, e, h, h2 => by
    simp at h h2; subst h; subst h2
    simp only [bnds, trB]
    refine List.mem_append_right _ (List.mem_append_left _ (List.mem_append_right _ (List.mem_singleton.2 ?_)))
    simp
  | x :: t, pr, v, i + 1, a, e, h, h2 => by
    have := y4s tv m t (some x.visit) (v + 1) i a e (by simpa using h) (by simpa using h2)
    simp only [bnds]
    refine List.mem_append_right _ ?_
    rw [show v + ((i + 1 : Nat) : Int) + 1 = v + 1 + (i : Int) + 1 by omega, show v + ((i + 1 : Nat) : Int) = v + 1 + (i : Int) by omega]
    exact this
theorem zl0 (tv m) : ∀ (t : List z1) (pr) (v : Int) (b : z7), b ∈ bnds tv m pr v t → ∃ i : Nat, ∃ e : z1, t[i]? = some e ∧ (b ∈ evB m (v + i) e ∨ ∃ a : zi, (0 < i ∨ pr.isSome = true) ∧ b = ⟨v + i, v + i - 1, 0 - tv a e.visit⟩)
  | [], pr, v, b, h => by simp [bnds] at h
  | x :: t, pr, v, b, h => by
    simp only [bnds, List.mem_append] at h
    rcases h with (h | h) | h
    · exact ⟨0, x, rfl, .inl (by rw [show v + ((0 : Nat) : Int) = v by omega]; exact h)⟩
    · cases pr with
      | none => simp [trB] at h
      | some a =>
        simp only [trB, List.mem_singleton] at h
        exact ⟨0, x, rfl, .inr ⟨a, .inr rfl, by rw [h]; simp⟩⟩
    · obtain ⟨i, e, hi, hb⟩ := zl0 tv m t _ _ b h
      refine ⟨i + 1, e, by simpa using hi, ?_⟩
      rw [show v + ((i + 1 : Nat) : Int) = v + 1 + (i : Int) by omega]
      rcases hb with hb | ⟨a, _, hb⟩
      · exact .inl hb
      · exact .inr ⟨a, .inl (by omega), hb⟩
def fB (tv : zi → zi → Int) (m : List (Int × Int)) (ts : List (List z1)) (s : BS) : BS := ts.foldl (fun s t => bEv tv m none t s) s
theorem y7f (tv m) (A B : List (List z1)) (s : BS) : fB tv m (A ++ B) s = fB tv m B (fB tv m A s) := List.foldl_append ..
theorem zgv (tv m) : ∀ (ts : List (List z1)) (s : BS), s.v ≤ (fB tv m ts s).v ∧ (∃ b, (fB tv m ts s).b = s.b ++ b) ∧ ∃ e, (fB tv m ts s).e = s.e ++ e
  | [], s => ⟨Int.le_refl _, ⟨[], by simp [fB]⟩, [], by simp [fB]⟩
  | t :: ts, s => by
    obtain ⟨h1, ⟨b, h2⟩, e, h3⟩ := zgv tv m ts (bEv tv m none t s)
    have e1 : fB tv m (t :: ts) s = fB tv m ts (bEv tv m none t s) := rfl
    rw [e1]
    rw [y0s] at h1
    rw [zzo] at h2
    rw [zur] at h3
    exact ⟨by omega, ⟨_, by rw [h2, List.append_assoc]⟩, _, by rw [h3, List.append_assoc]⟩
/-- A zal within the whole: its first variable, its bounds, its events. -/
theorem zs3 (tv m) (A B : List (List z1)) (t : List z1) (s : BS) : s.v ≤ (fB tv m A s).v ∧ (fB tv m A s).v + t.length ≤ (fB tv m (A ++ t :: B) s).v ∧
    (∀ b ∈ bnds tv m none (fB tv m A s).v t, b ∈ (fB tv m (A ++ t :: B) s).b) ∧ ∃ e, (fB tv m (A ++ t :: B) s).e = (fB tv m A s).e ++ (evsE (fB tv m A s).v t ++ e) := by
  have e1 : fB tv m (A ++ t :: B) s = fB tv m B (bEv tv m none t (fB tv m A s)) := by rw [y7f]; rfl
  obtain ⟨h1, ⟨b, h2⟩, e, h3⟩ := zgv tv m B (bEv tv m none t (fB tv m A s))
  rw [e1]
  rw [y0s] at h1
  rw [zzo] at h2
  rw [zur] at h3
  refine ⟨(zgv tv m A s).1, h1, fun x hx => ?_, e, by rw [h3, List.append_assoc]⟩
  rw [h2]
  exact List.mem_append_left _ (List.mem_append_right _ hx)
theorem zvc (tv m) : ∀ (ts : List (List z1)) (s : BS) (b : z7), b ∈ (fB tv m ts s).b → b ∈ s.b ∨ ∃ A t B, ts = A ++ t :: B ∧ b ∈ bnds tv m none (fB tv m A s).v t
  | [], s, b, h => .inl h
  | t :: ts, s, b, h => by
    have e1 : fB tv m (t :: ts) s = fB tv m ts (bEv tv m none t s) := rfl
    rw [e1] at h
    rcases zvc tv m ts _ b h with h2 | ⟨A, t', B, e2, h2⟩
    · rw [zzo] at h2
      rcases List.mem_append.1 h2 with h2 | h2
      · exact .inl h2
      · exact .inr ⟨[], t, ts, rfl, h2⟩
    · exact .inr ⟨t :: A, t', B, by rw [e2]; rfl, h2⟩
theorem zw6 (tv m) : ∀ (ts : List (List z1)) (s : BS) (x : z0q), x ∈ (fB tv m ts s).e → x ∈ s.e ∨ ∃ A t B, ts = A ++ t :: B ∧ x ∈ evsE (fB tv m A s).v t
  | [], s, b, h => .inl h
  | t :: ts, s, b, h => by
    have e1 : fB tv m (t :: ts) s = fB tv m ts (bEv tv m none t s) := rfl
    rw [e1] at h
    rcases zw6 tv m ts _ b h with h2 | ⟨A, t', B, e2, h2⟩
    · rw [zur] at h2
      rcases List.mem_append.1 h2 with h2 | h2
      · exact .inl h2
      · exact .inr ⟨[], t, ts, rfl, h2⟩
    · exact .inr ⟨t :: A, t', B, by rw [e2]; rfl, h2⟩
/-- The variables of the readers. -/
theorem zs9 (rs : List z20) (m : List (Int × Int)) : ∀ n : Nat, (∀ i : Nat, i < n → (mget m (i : Int)).isSome = true → ∃ v, mget (rdsN rs m n).m (i : Int) = some v ∧ 1 ≤ v ∧ v < (rdsN rs m n).v) ∧ ∀ k : Int, (n : Int) ≤ k → mget (rdsN rs m n).m k = mget m k
  | 0 => ⟨fun i h => by omega, fun k _ => rfl⟩
  | n + 1 => by
    obtain ⟨h1, h2⟩ := zs9 rs m n
    have hv := (za6 rs m n).1
    have h3 := h2 (n : Int) (Int.le_refl _)
    simp only [rdsN, zkz]
    split
    · rename_i hs
      refine ⟨fun i hi hm => ?_, fun k hk => ?_⟩
      · simp only [zf6]
        by_cases e : i = n
        · subst e; exact ⟨_, if_pos rfl, hv, by omega⟩
        · obtain ⟨v, q1, q2, q3⟩ := h1 i (by omega) hm
          exact ⟨v, by rw [if_neg (by omega)]; exact q1, q2, by omega⟩
      · simp only [zf6]
        rw [if_neg (by omega)]; exact h2 k (by omega)
    · rename_i hs
      refine ⟨fun i hi hm => ?_, fun k hk => h2 k (by omega)⟩
      by_cases e : i = n
      · subst e; rw [h3] at hs; exact absurd hm hs
      · exact h1 i (by omega) hm
theorem zt8 {m : List (Int × Int)} {e : z1} {k : Int} (h : (mget m k).isSome = true) : (mget (zu3 m e) k).isSome = true := by
  unfold zu3
  split
  · rw [zf6]; split
    · rfl
    · exact h
  · exact h
theorem zgb : ∀ (t : List z1) {m : List (Int × Int)} {k : Int}, (mget m k).isSome = true → (mget (zkd m t) k).isSome = true
  | [], m, k, h => h
  | e :: t, m, k, h => zgb t (zt8 h)
theorem zoc : ∀ (t : List z1) (m : List (Int × Int)) (e : z1), e ∈ t → 0 ≤ e.reader → (mget (zkd m t) e.reader).isSome = true
  | x :: t, m, e, he, h => by
    rcases List.mem_cons.1 he with rfl | he
    · refine zgb t (m := zu3 m e) ?_
      unfold zu3
      rw [if_pos h, zf6, if_pos rfl]; rfl
    · exact zoc t _ e he h
theorem zx0 (ts : List (List z1)) {k : Int} : ∀ {m : List (Int × Int)}, (mget m k).isSome = true → (mget (ts.foldl zkd m) k).isSome = true := by
  induction ts with
  | nil => intro m h; exact h
  | cons t ts ih => intro m h; rw [List.foldl_cons]; exact ih (zgb t h)
theorem zz3 (ts : List (List z1)) : ∀ (m : List (Int × Int)) (t : List z1) (e : z1), t ∈ ts → e ∈ t → 0 ≤ e.reader → (mget (ts.foldl zkd m) e.reader).isSome = true := by
  induction ts with
  | nil => intro m t e ht; cases ht
  | cons x ts ih =>
    intro m t e ht he h
    rw [List.foldl_cons]
    rcases List.mem_cons.1 ht with e1 | ht
    · subst e1
      exact zx0 ts (zoc t m e he h)
    · exact ih _ t e ht he h
/-- What is known of the events of all tracks. -/
structure TsOK (rs : List z20) (ts : List (List z1)) : Prop where
  early : ∀ t ∈ ts, ∀ e ∈ t, 0 ≤ e.visit.early ∧ e.visit.early ≤ 1073741824
  reader : ∀ t ∈ ts, ∀ e ∈ t, e.reader < (rs.length : Int)
  rs : ∀ r ∈ rs, -1000 ≤ r.low ∧ r.low ≤ r.high ∧ r.high ≤ 1000
abbrev rdM (rs : List z20) (ts : List (List z1)) : List (Int × Int) := (rdsN rs (used ts) rs.length).m
abbrev rd0 (rs : List z20) (ts : List (List z1)) : BS := ⟨(rdsN rs (used ts) rs.length).v, (rdsN rs (used ts) rs.length).b, (rdsN rs (used ts) rs.length).y, []⟩
theorem zm2 (tv) (rs : List z20) (ts : List (List z1)) : bAll tv rs ts = fB tv (rdM rs ts) ts (rd0 rs ts) := rfl
theorem y9k {rs : List z20} {ts : List (List z1)} (h : TsOK rs ts) {t : List z1} (ht : t ∈ ts) {e : z1} (he : e ∈ t) (hr : 0 ≤ e.reader) : mget (rdM rs ts) e.reader = some (rv (rdM rs ts) e) ∧ 1 ≤ rv (rdM rs ts) e ∧ rv (rdM rs ts) e < (rd0 rs ts).v := by
  have h2 := h.reader t ht e he
  have := zz3 ts [] t e ht he hr
  obtain ⟨v, q1, q2, q3⟩ := (zs9 rs (used ts) rs.length).1 e.reader.toNat (by omega) (by rw [show ((e.reader.toNat : Nat) : Int) = e.reader by omega]; exact this)
  rw [show ((e.reader.toNat : Nat) : Int) = e.reader by omega] at q1
  have e1 : rv (rdM rs ts) e = v := by unfold rv; rw [show mget (rdM rs ts) e.reader = some v from q1]; rfl
  rw [e1]
  exact ⟨q1, q2, q3⟩
/-- The readers' bounds. -/
theorem y2t (rs : List z20) (m : List (Int × Int)) : ∀ n : Nat, n ≤ rs.length → ∀ b ∈ (rdsN rs m n).b, ∃ r ∈ rs, ∃ v, 1 ≤ v ∧ v < (rdsN rs m n).v ∧ (b = ⟨0, v, 0 - r.low⟩ ∨ b = ⟨v, 0, r.high⟩)
  | 0, _, b, hb => by simp [rdsN] at hb
  | n + 1, hn, b, hb => by
    have hv := (za6 rs m n).1
    have ih := y2t rs m n (by omega)
    simp only [rdsN, zkz] at hb ⊢
    split at hb
    · rename_i hs
      rw [if_pos hs]
      simp only [List.mem_append, List.mem_cons, List.not_mem_nil, or_false] at hb
      rcases hb with hb | rfl | rfl
      · obtain ⟨r, hr, v, q1, q2, q3⟩ := ih b hb
        exact ⟨r, hr, v, q1, by simp only; omega, q3⟩
      · exact ⟨_, z3e (l := rs) (i := (n : Int)) (by omega) (by omega), _, hv, by simp only; omega, .inl rfl⟩
      · exact ⟨_, z3e (l := rs) (i := (n : Int)) (by omega) (by omega), _, hv, by simp only; omega, .inr rfl⟩
    · rename_i hs
      rw [if_neg hs]
      exact ih b hb
theorem y7m {rs : List z20} {ts : List (List z1)} (h : TsOK rs ts) {t : List z1} (ht : t ∈ ts) {e : z1} (he : e ∈ t) {v : Int} (hv : (rd0 rs ts).v ≤ v) {n : Nat} (hn : v < (n : Int)) {b : z7} (hb : b ∈ evB (rdM rs ts) v e) : okBd n b := by
  have h1 := h.early t ht e he
  have h0 := (za6 rs (used ts) rs.length).1
  change 1 ≤ (rd0 rs ts).v at h0
  unfold evB at hb
  split at hb
  · simp only [List.mem_cons, List.not_mem_nil, or_false] at hb
    rcases hb with rfl | rfl <;> exact ⟨by simp only; omega, by simp only; omega, by simp only; omega, by simp only; omega, by simp only; omega, by simp only; omega⟩
  · rename_i hr
    obtain ⟨_, q1, q2⟩ := y9k h ht he (by omega)
    simp only [List.mem_cons, List.not_mem_nil, or_false] at hb
    rcases hb with rfl | rfl | rfl | rfl <;> exact ⟨by simp only; omega, by simp only; omega, by simp only; omega, by simp only; omega, by simp only; omega, by simp only; omega⟩
/-- All bounds are in range. -/
theorem y6a {tv : zi → zi → Int} (htv : ∀ a b, 0 ≤ tv a b ∧ tv a b ≤ 1073741825) {rs : List z20} {ts : List (List z1)} (h : TsOK rs ts) : 1 ≤ (bAll tv rs ts).v ∧ ∀ b ∈ (bAll tv rs ts).b, okBd (bAll tv rs ts).v.toNat b := by
  have h0 := (za6 rs (used ts) rs.length).1
  change 1 ≤ (rd0 rs ts).v at h0
  rw [zm2]
  obtain ⟨m1, m2, m3⟩ := zgv tv (rdM rs ts) ts (rd0 rs ts)
  refine ⟨by omega, fun b hb => ?_⟩
  rcases zvc tv (rdM rs ts) ts _ b hb with hb | ⟨A, t, B, rfl, hb⟩
  · obtain ⟨r, hr, v, q1, q2, q3⟩ := y2t rs (used ts) rs.length (Nat.le_refl _) b hb
    change v < (rd0 rs ts).v at q2
    have := h.rs r hr
    rcases q3 with rfl | rfl <;> exact ⟨by simp only; omega, by simp only; omega, by simp only; omega, by simp only; omega, by simp only; omega, by simp only; omega⟩
  · obtain ⟨k1, k2, k3, k4⟩ := zs3 tv (rdM rs (A ++ t :: B)) A B t (rd0 rs (A ++ t :: B))
    obtain ⟨i, e, hi, hb⟩ := zl0 tv _ t none _ b hb
    have hlt := (List.getElem?_eq_some_iff.1 hi).1
    have hte : t ∈ A ++ t :: B := by simp
    have hee : e ∈ t := List.mem_of_getElem? hi
    rcases hb with hb | ⟨a, ha, rfl⟩
    · exact y7m h hte hee (by omega) (by omega) hb
    · have := htv a e.visit
      have hi0 : 0 < i := ha.resolve_right (by simp)
      exact ⟨by simp only; omega, by simp only; omega, by simp only; omega, by simp only; omega, by simp only; omega, by simp only; omega⟩
section
variable {X : Int → Int} {m : List (Int × Int)} {v : Int} {e : z1}
theorem y3f (hX : ∀ b ∈ evB m v e, X b.j - X b.i ≤ b.w) (he : 0 ≤ e.visit.early ∧ e.visit.early ≤ 1073741824) : 0 ≤ X v - X 0 ∧ X v - X 0 ≤ 1073741824 := by
  unfold evB at hX
  split at hX
  · have h1 := hX ⟨0, v, e.visit.early⟩ (by simp)
    have h2 := hX ⟨v, 0, 0 - e.visit.early⟩ (by simp)
    simp only at h1 h2; omega
  · have h1 := hX ⟨0, v, 1073741824⟩ (by simp)
    have h2 := hX ⟨v, 0, 0⟩ (by simp)
    simp only at h1 h2; omega
end
theorem zoz {p : Pool} (hc : z09 p = 0) {l : List zf} (hl : FewL l) {w : Int} {x : z1} (h : x ∈ zal p l w) : x.reader < (p.readers.length : Int) := by
  obtain ⟨y, hy, b, rfl⟩ := zff h
  obtain ⟨h1, h2, _, h3, h4⟩ := zpm hl.len hy
  show y.reader < _
  have ho := zev hc (hl.gt h1 h2) h3
  unfold evs at h4
  split at h4
  · rename_i hk
    simp only [List.mem_singleton] at h4
    rw [h4]; exact (ho.read hk).2
  · split at h4
    · simp only [List.mem_cons, List.not_mem_nil, or_false] at h4
      rcases h4 with q | q <;> rw [q] <;> simp only <;> omega
    · split at h4
      · simp only [List.mem_singleton] at h4
        rw [h4]; simp only; omega
      · cases h4
theorem tsOK {p : Pool} (hc : z09 p = 0) {l : List zf} (hl : FewL l) : TsOK p.readers (z2f p l) := by
  refine ⟨fun t ht e he => ?_, fun t ht e he => ?_, fun r hr => ?_⟩
  · obtain ⟨w, _, rfl⟩ := List.mem_map.1 ht; exact znd hc hl he
  · obtain ⟨w, _, rfl⟩ := List.mem_map.1 ht; exact zoz hc hl he
  · have := (zg5 hc).1 r hr; omega
end Px
end
section
namespace Px
open Go
set_option linter.unusedVariables false
set_option linter.unusedSimpArgs false
theorem zqe {p : Pool} {l : List zf} (hl : FewL l) {w : Int} {x : z1} (h : x ∈ zal p l w) : x.visit.wagon = w := by
  obtain ⟨y, hy, b, rfl⟩ := zff h
  exact (zpm hl.len hy).2.2.1
/-- An event's variable and bounds. -/
theorem y7a {tv : zi → zi → Int} {rs : List z20} {ts : List (List z1)} {ev : z0q} (h : ev ∈ (bAll tv rs ts).e) : ∃ t ∈ ts, ∃ x ∈ t, ∃ v, ev = evE v x ∧ 1 ≤ v ∧ v < (bAll tv rs ts).v ∧ ∀ b ∈ evB (rdM rs ts) v x, b ∈ (bAll tv rs ts).b := by
  rw [zm2] at h ⊢
  have h0 := (za6 rs (used ts) rs.length).1
  change 1 ≤ (rd0 rs ts).v at h0
  rcases zw6 tv (rdM rs ts) ts _ ev h with h | ⟨A, t, B, rfl, h⟩
  · cases h
  · obtain ⟨k1, k2, k3, k4⟩ := zs3 tv (rdM rs (A ++ t :: B)) A B t (rd0 rs (A ++ t :: B))
    obtain ⟨i, hi⟩ := List.getElem?_of_mem h
    rw [zvf] at hi
    obtain ⟨x, hx, rfl⟩ := Option.map_eq_some_iff.1 hi
    have hlt := (List.getElem?_eq_some_iff.1 hx).1
    exact ⟨t, by simp, x, List.mem_of_getElem? hx, _, rfl, by omega, by omega, fun b hb => k3 b (zvi tv _ t none _ i x hx b hb)⟩
theorem y8k {tv : zi → zi → Int} {rs : List z20} {ts : List (List z1)} {ev : z0q} (h : ev ∈ (bAll tv rs ts).e) : 1 ≤ ev.var ∧ ev.var < (bAll tv rs ts).v := by
  obtain ⟨t, ht, y, hy, v, rfl, v1, v2, hv⟩ := y7a h
  exact ⟨v1, v2⟩
theorem zvr (tv m) : ∀ (ts : List (List z1)) (s : BS), (fB tv m ts s).e.length ≤ s.e.length + ((fB tv m ts s).v - s.v).toNat
  | [], s => by simp [fB]
  | t :: ts, s => by
    have ih := zvr tv m ts (bEv tv m none t s)
    have hm := (zgv tv m ts (bEv tv m none t s)).1
    have e1 : fB tv m (t :: ts) s = fB tv m ts (bEv tv m none t s) := rfl
    rw [e1]
    rw [y0s] at ih hm
    rw [zur, List.length_append, zrg] at ih
    omega
theorem zve (tv) (rs : List z20) (ts : List (List z1)) : ((bAll tv rs ts).e.length : Int) ≤ (bAll tv rs ts).v := by
  have h0 := (za6 rs (used ts) rs.length).1
  change 1 ≤ (rd0 rs ts).v at h0
  have := zvr tv (rdM rs ts) ts (rd0 rs ts)
  have hm := (zgv tv (rdM rs ts) ts (rd0 rs ts)).1
  rw [zm2]
  simp only [rd0, List.length_nil] at this
  simp only [rd0] at hm h0 ⊢
  omega
end Px
end
section
namespace Px
open Go
set_option linter.unusedVariables false
set_option linter.unusedSimpArgs false
def zna (n : Int) (L : List z7) : Prop := ∀ v : Int, 1 ≤ v → v < n → (∃ b ∈ L, b.i = 0 ∧ b.j = v) ∧ ∃ b ∈ L, b.i = v ∧ b.j = 0
theorem zna.app {n : Int} {L M : List z7} (h : zna n L) : zna n (L ++ M) := fun v h1 h2 => by
  obtain ⟨⟨b, q1, q2⟩, c, q3, q4⟩ := h v h1 h2
  exact ⟨⟨b, List.mem_append_left _ q1, q2⟩, c, List.mem_append_left _ q3, q4⟩
theorem zo8 (rs : List z20) (m : List (Int × Int)) : ∀ n : Nat, zna (rdsN rs m n).v (rdsN rs m n).b
  | 0 => fun v h1 h2 => by simp only [rdsN] at h2; omega
  | n + 1 => by
    have ih := zo8 rs m n
    simp only [rdsN, zkz]
    split
    · intro v h1 h2
      simp only at h2 ⊢
      by_cases e : v = (rdsN rs m n).v
      · subst e
        exact ⟨⟨_, List.mem_append_right _ (List.mem_cons_self ..), rfl, rfl⟩, _, List.mem_append_right _ (List.mem_cons_of_mem _ (List.mem_cons_self ..)), rfl, rfl⟩
      · exact ih.app v h1 (by omega)
    · exact ih
theorem zzf (m : List (Int × Int)) (v : Int) (e : z1) : (∃ b ∈ evB m v e, b.i = 0 ∧ b.j = v) ∧ ∃ b ∈ evB m v e, b.i = v ∧ b.j = 0 := by
  unfold evB
  split
  · exact ⟨⟨⟨0, v, e.visit.early⟩, by simp, rfl, rfl⟩, ⟨v, 0, 0 - e.visit.early⟩, by simp, rfl, rfl⟩
  · exact ⟨⟨⟨0, v, 1073741824⟩, by simp, rfl, rfl⟩, ⟨v, 0, 0⟩, by simp, rfl, rfl⟩
theorem zst (tv m) : ∀ (t : List z1) (pr) (s : BS), zna s.v s.b → zna (bEv tv m pr t s).v (bEv tv m pr t s).b
  | [], pr, s, h => h
  | e :: t, pr, s, h => zst tv m t _ _ (by
    intro v h1 h2
    simp only [zjv] at h2 ⊢
    by_cases q : v = s.v
    · subst q
      obtain ⟨⟨b, b1, b2⟩, c, c1, c2⟩ := zzf m s.v e
      exact ⟨⟨b, List.mem_append_left _ (List.mem_append_right _ b1), b2⟩, c, List.mem_append_left _ (List.mem_append_right _ c1), c2⟩
    · exact (h.app.app) v h1 (by omega))
theorem zx1 (tv m) : ∀ (ts : List (List z1)) (s : BS), zna s.v s.b → zna (fB tv m ts s).v (fB tv m ts s).b
  | [], s, h => h
  | t :: ts, s, h => zx1 tv m ts _ (zst tv m t none s h)
theorem zxl (tv) (rs : List z20) (ts : List (List z1)) : Conn (bAll tv rs ts).b (bAll tv rs ts).v.toNat := by
  have h := zx1 tv (rdM rs ts) ts (rd0 rs ts) (zo8 rs (used ts) rs.length)
  rw [← zm2] at h
  exact fun v h1 h2 => h v h1 (by omega)
/-- A solution. -/
def SolF (s : BS) (X : Int → Int) : Prop := ∀ b ∈ s.b, X b.j - X b.i ≤ b.w
theorem zo3 {s : BS} {X : Int → Int} : SolF s X ↔ SolD false s.b X := by
  unfold SolF SolD bdJ bdI
  simp
theorem y7e {L : List z7} {d : Int → Int} (h : SolD true L d) : ∀ b ∈ L, (- d b.j) - (- d b.i) ≤ b.w := fun b hb => by
  have := h b hb
  simp only [bdJ, bdI, if_true] at this
  omega
/-- The earliest and the latest solution. -/
structure ETs (s : BS) (E T : Int → Int) : Prop where
  eS : SolF s E
  tS : SolF s T
  e0 : E 0 = 0
  t0 : T 0 = 0
  e : ∀ X, SolF s X → ∀ v, 0 ≤ v → v < s.v → E v ≤ X v - X 0
  t : ∀ X, SolF s X → ∀ v, 0 ≤ v → v < s.v → X v - X 0 ≤ T v
theorem y7k {s : BS} (h1 : 1 ≤ s.v) {d t : Int → Int} (hd : zpl true s.b s.v.toNat 0 d) (ht : zpl false s.b s.v.toNat 0 t) : ETs s (fun v => - d v) t := by
  refine ⟨y7e hd.sat, zo3.2 ht.sat, by have := hd.zero; omega, ht.zero, fun X hX v v0 v1 => ?_, fun X hX v v0 v1 => ht.top X (zo3.1 hX) v v0 (by omega)⟩
  have := hd.top (fun v => - X v) (zs5 (zo3.1 hX)) v v0 (by omega)
  omega
section
variable {φ : Nat} (hφ : 800000 < φ) {p : Pool} (hc : z09 p = 0) {l : List zf} (hl : FewL l)
theorem zv9 {p : Pool} (hc : z09 p = 0) {r : zf} (h : znn p r.item) {i : Int} {x : z1} (hx : x ∈ evs p r i) : okPl p.network x.visit.place := by
  unfold evs at hx
  split at hx
  · rename_i hk
    simp only [List.mem_singleton] at hx; subst hx
    obtain ⟨h0, h1⟩ := h.read hk
    have := (zg5 hc).1 _ (z3e (l := p.readers) h0 h1)
    exact ⟨this.1, this.2.1⟩
  · split at hx
    · rename_i hk
      have := h.place (by omega)
      simp only [List.mem_cons, List.not_mem_nil, or_false] at hx
      rcases hx with rfl | rfl <;> exact this
    · split at hx
      · rename_i hk
        have := h.place (by omega)
        simp only [List.mem_singleton] at hx; subst hx
        exact this
      · cases hx
include hc hl
theorem zps {w : Int} {x : z1} (h : x ∈ zal p l w) : okPl p.network x.visit.place := by
  obtain ⟨y, hy, b, rfl⟩ := zff h
  obtain ⟨h1, h2, _, h3, h4⟩ := zpm hl.len hy
  exact zv9 (x := y) hc (zev hc (hl.gt h1 h2) h3) h4
/-- An event. -/
theorem y9c {tv : zi → zi → Int} {ev : z0q} (h : ev ∈ (bAll tv p.readers (z2f p l)).e) : okPl p.network ev.place ∧ 1 ≤ ev.var ∧ ev.var < (bAll tv p.readers (z2f p l)).v ∧
    (∀ X, SolF (bAll tv p.readers (z2f p l)) X → 0 ≤ X ev.var - X 0 ∧ X ev.var - X 0 ≤ 1073741824) ∧ 0 ≤ ev.wagon ∧ ev.wagon < (p.fleet.wagons.length : Int) := by
  obtain ⟨t, ht, x, hx, v, rfl, v1, v2, hv⟩ := y7a h
  have hT := tsOK hc hl
  have ht2 := ht
  obtain ⟨w, hw, rfl⟩ := List.mem_map.1 ht2
  refine ⟨zps hc hl hx, v1, v2, fun X hX => y3f (X := X) (fun b hb => hX b (hv b hb)) (hT.early _ ht x hx), ?_⟩
  have := zqe hl hx
  show 0 ≤ x.visit.wagon ∧ x.visit.wagon < _
  rw [List.mem_range] at hw
  omega
include hφ
end
end Px
end
section
namespace Px
open Go
set_option linter.unusedVariables false
set_option linter.unusedSimpArgs false
theorem y1x {α : Type} [Inhabited α] {a b : List α} (h : a.length = b.length) (hg : ∀ i : Int, 0 ≤ i → i < (a.length : Int) → gt a i = gt b i) : a = b := by
  refine List.ext_getElem h fun i h1 h2 => ?_
  have := hg (i : Int) (by omega) (by omega)
  rw [z5l h1, z5l h2] at this
  exact this
/-- One round. -/
theorem ztk (φ : Nat) (k : Int → Int → zk → Bool → Bool → List Int → Option (List Int × Unit)) (x : zk) (r : Bool) (n : Nat) (q : Int) (c : Nat) (s : DS) (hn : n ≤ 512) (hs : DB n c s) (hL : ∀ b ∈ x.bounds, okBd n b) (hl : x.bounds.length ≤ 4096) (hc : c + x.bounds.length ≤ 2100000) (hφ : 5001 < φ) :
    zr φ k φ n q x.bounds (x.bounds.length : Int) 0 x s.c r s.d = k n (W (q + 1)) x (rndD r x.bounds x.bounds.length s).c r (rndD r x.bounds x.bounds.length s).d := by
  refine z05 (fun f i (t : DS) => zr φ k f n q x.bounds (x.bounds.length : Int) i x t.c r t.d) x.bounds.length (fun i t => t = rndD r x.bounds i s) (fun o => o = _) ?_ ?_ φ s rfl (by omega)
  · intro f i t hi ht hk
    have hB := hs.rnd hn hL r i (by omega)
    rw [← ht] at hB
    have hb := hL _ (z3e (l := x.bounds) (i := (i : Int)) (by omega) (by omega))
    have hk' := hk (stpD r (gt x.bounds (i : Int)) t) (by rw [ht]; rfl)
    have e : zr φ k (f + 1) n q x.bounds (x.bounds.length : Int) i x t.c r t.d = z1l φ (zr φ k f) (bdI r (gt x.bounds (i : Int))) (bdJ r (gt x.bounds (i : Int))) n q x.bounds (x.bounds.length : Int) i t.c (gt x.bounds (i : Int)) x r t.d := by
      rw [zr, if_pos (by simp; omega), z2 ⟨by omega, by omega⟩]
      cases r
      · rw [if_neg (by simp)]; rfl
      · rw [if_pos rfl]; rfl
    rw [e]
    generalize gt x.bounds (i : Int) = b at *
    obtain ⟨a1, a2, a3, a4, a5, a6⟩ := zh8 hb r
    have hx := hB.len
    have q1 := hB.lt hn a1 a2
    have q3 := hB.lo _ a1 a2
    unfold farN at q1
    have hW : W (gt t.d (bdI r b) + b.w) = gt t.d (bdI r b) + b.w := W_id (by omega) (by omega)
    have hWi : W ((i : Int) + 1) = (i : Int) + 1 := W_id (by omega) (by omega)
    unfold z1l
    rw [z2 ⟨a1, by rw [hx]; exact a2⟩, z2 (fun _ => ⟨a1, by rw [hx]; exact a2⟩), z2 (fun _ => ⟨a3, by rw [hx]; exact a4⟩), hW, hWi]
    unfold stpD farN at hk'
    by_cases h : gt t.d (bdI r b) < 1125899906842624 ∧ gt t.d (bdI r b) + b.w < gt t.d (bdJ r b)
    · rw [if_pos h] at hk'
      rw [if_pos (by simpa using h), z2 ⟨a1, by rw [hx]; exact a2⟩, z2 ⟨a3, by rw [hx]; exact a4⟩]
      exact hk'
    · rw [if_neg h] at hk'
      rw [if_neg (by simpa using h)]
      exact hk'
  · intro f t ht
    subst ht
    rw [zr, if_neg (by simp)]
theorem zii (φ : Nat) (x : zk) (r : Bool) (n : Nat) (hn : n ≤ 512) (hL : ∀ b ∈ x.bounds, okBd n b) (hl : x.bounds.length ≤ 4096) (hφ : 5001 < φ) :
    ∀ (f k : Nat) (s : DS), DB n (k * x.bounds.length) s → k ≤ n → n < f + k → z11 φ f n (k : Int) x s.c r s.d = some ((runD r x.bounds (n - k) s).d, ())
  | 0, k, s, _, h1, h2 => by omega
  | f + 1, k, s, hs, h1, h2 => by
    rw [z11]
    by_cases h : k < n
    · rw [if_pos (by simp; omega), show n - k = (n - (k + 1)) + 1 by omega, runD]
      cases hc : s.c with
      | false => rw [if_pos (show (!false) = true from rfl), if_neg (by simp)]
      | true =>
        rw [if_neg (by simp), if_pos rfl]
        have hs1 : DB n (k * x.bounds.length) ⟨s.d, false⟩ := ⟨hs.len, hs.hi, hs.lo⟩
        have hb := Nat.mul_le_mul (show k + 1 ≤ 512 by omega) hl
        rw [Nat.add_mul, Nat.one_mul] at hb
        have := ztk φ (z11 φ f) x r n (k : Int) _ ⟨s.d, false⟩ hn hs1 hL hl (by omega) hφ
        refine this.trans ?_
        have hs2 := hs1.rnd hn hL r x.bounds.length (Nat.le_refl _)
        rw [W_id (x := (k : Int) + 1) (by omega) (by omega)]
        exact zii φ x r n hn hL hl hφ f (k + 1) _ (hs2.up (by rw [Nat.add_mul, Nat.one_mul]; omega)) (by omega) (by omega)
    · rw [if_neg (by simp; omega), show n - k = 0 by omega]; rfl
/-- distances. -/
theorem y3l (φ : Nat) (hφ : 5001 < φ) (x : zk) (r : Bool) (n : Nat) (hv : x.vars = (n : Int)) (h1 : 1 ≤ n) (hn : n ≤ 512) (hL : ∀ b ∈ x.bounds, okBd n b) (hl : x.bounds.length ≤ 4096) :
    z10 φ x r = some ((runD r x.bounds n ⟨d0 n 0, true⟩).d, ()) := by
  unfold z10
  rw [hv, z2 (mk_t _ _ (by omega) (by omega) (by omega)), Int.toNat_natCast, List.length_replicate]
  refine z05 (fun f i (d : List Int) => z0i φ f (n : Int) i x r d) n (fun i d => d.length = n ∧ ∀ j : Int, 0 ≤ j → j < (n : Int) → gt d j = if 0 < j ∧ j < (i : Int) then farN else 0) (fun o => o = _) ?_ ?_ φ _
    ⟨by simp, fun j h0 h1 => by rw [z2k _ _ _ h0 h1, if_neg (by omega)]; rfl⟩ (by omega)
  · intro f i d hi ⟨hd, hg⟩ hk
    rw [z0i, if_pos (by simp; omega), W_id (x := (i : Int) + 1) (by omega) (by omega)]
    by_cases h : 0 < i
    · rw [if_pos (by simp; omega), z2 ⟨by omega, by omega⟩]
      refine hk _ ⟨by rw [z14]; exact hd, fun j j0 j1 => ?_⟩
      rw [z0f _ _ _ _ (by omega) (by omega) j0, hg j j0 j1]
      by_cases e : j = (i : Int)
      · rw [if_pos e, if_pos (by omega)]; rfl
      · rw [if_neg e]
        by_cases e2 : 0 < j ∧ j < (i : Int)
        · rw [if_pos e2, if_pos (by omega)]
        · rw [if_neg e2, if_neg (by omega)]
    · rw [if_neg (by simp; omega)]
      refine hk _ ⟨hd, fun j j0 j1 => ?_⟩
      rw [hg j j0 j1, if_neg (by omega), if_neg (by omega)]
  · intro f d ⟨hd, hg⟩
    have e : d = d0 n 0 := y1x (by rw [hd, zwq]) fun j j0 j1 => by
      rw [hd] at j1
      rw [hg j j0 j1, zzu (by omega) (by omega) j0 j1]
      by_cases q : j = 0
      · rw [if_pos q, if_neg (by omega)]
      · rw [if_neg q, if_pos (by omega)]
    rw [z0i, if_neg (by simp), hv, e]
    have := zii φ x r n hn hL hl hφ φ 0 ⟨d0 n 0, true⟩ ((y5l (by omega) (by omega)).up (by omega)) (by omega) (by omega)
    exact this
/-- How far the values may go. -/
theorem zxh {r : Bool} {n : Nat} (hn : n ≤ 512) {L : List z7} (hL : ∀ b ∈ L, okBd n b) (hl : L.length ≤ 4096) : ∀ (f k : Nat) (s : DS), DB n (k * L.length) s → f + k ≤ n → DB n 2097152 (runD r L f s)
  | 0, k, s, h, hk => h.up (by
    have := Nat.mul_le_mul (show k ≤ 512 by omega) hl
    omega)
  | f + 1, k, s, h, hk => by
    have hu : k * L.length ≤ 2097152 := by
      have := Nat.mul_le_mul (show k ≤ 512 by omega) hl
      omega
    unfold runD
    split
    · have h1 : DB n (k * L.length) ⟨s.d, false⟩ := ⟨h.len, h.hi, h.lo⟩
      exact zxh hn hL hl f (k + 1) _ ((h1.rnd hn hL r L.length (Nat.le_refl _)).up (by rw [Nat.add_mul, Nat.one_mul]; omega)) (by omega)
    · exact h.up hu
end Px
end
section
namespace Px
open Go
set_option linter.unusedVariables false
set_option linter.unusedSimpArgs false
/-- What sight.Build builds. -/
abbrev bsB (φ : Nat) (p : Pool) (l : List zf) : BS := bAll (tvl φ p.network) p.readers (z2f p l)
structure Good (s : BS) : Prop where
  v1 : 1 ≤ s.v
  v2 : s.v ≤ 512
  bl : s.b.length ≤ 4096
  ok : ∀ b ∈ s.b, okBd s.v.toNat b
  conn : Conn s.b s.v.toNat
  ev : ∀ y ∈ s.e, 1 ≤ y.var ∧ y.var < s.v
  el : (s.e.length : Int) ≤ s.v
theorem zle {φ : Nat} (hφ : 800000 < φ) {p : Pool} (hc : z09 p = 0) {l : List zf} (hl : FewL l) (hb : ¬ (512 < (bsB φ p l).v ∨ 4096 < (bsB φ p l).b.length)) : Good (bsB φ p l) := by
  obtain ⟨h1, h2⟩ := y6a (tv := tvl φ p.network) (fun a b => (y2w φ hφ p.network a b).2) (tsOK hc hl)
  exact ⟨h1, by omega, by omega, h2, zxl _ _ _, fun y hy => y8k hy, zve _ _ _⟩
def zp4 (s : BS) : List Int := (runD false s.b s.v.toNat ⟨d0 s.v.toNat 0, true⟩).d
def zhw (s : BS) : List Int := (runD true s.b s.v.toNat ⟨d0 s.v.toNat 0, true⟩).d
def zcp (s : BS) (v : Int) : Int := gt (zp4 s) v
def z5f (s : BS) (v : Int) : Int := - gt (zhw s) v
theorem Good.ets {s : BS} (h : Good s) {X : Int → Int} (hX : SolF s X) : ETs s (z5f s) (zcp s) := by
  have hv := h.v1
  have hv2 := h.v2
  have e := zkm (r := true) (n := s.v.toNat) (by omega) h.ok h.conn (p := fun v => - X v) (zs5 (zo3.1 hX)) (u := 0) (by omega) (by omega)
  have t := zkm (r := false) (n := s.v.toNat) (by omega) h.ok h.conn (zo3.1 hX) (u := 0) (by omega) (by omega)
  exact y7k hv e.2 t.2
theorem Good.db {s : BS} (h : Good s) (r : Bool) : DB s.v.toNat 2097152 (runD r s.b s.v.toNat ⟨d0 s.v.toNat 0, true⟩) := by
  have hv := h.v1
  have hv2 := h.v2
  exact zxh (by omega) h.ok h.bl s.v.toNat 0 _ ((y5l (by omega) (by omega)).up (by omega)) (by omega)
theorem Good.bd {s : BS} (h : Good s) (r : Bool) {v : Int} (h0 : 0 ≤ v) (h1 : v < s.v) : v < ((runD r s.b s.v.toNat ⟨d0 s.v.toNat 0, true⟩).d.length : Int) ∧ -2305843009213693952 ≤ gt (runD r s.b s.v.toNat ⟨d0 s.v.toNat 0, true⟩).d v ∧ gt (runD r s.b s.v.toNat ⟨d0 s.v.toNat 0, true⟩).d v ≤ 1125899906842624 := by
  have hv := h.v1
  have hv2 := h.v2
  have hd := h.db r
  have hl := hd.len
  have q1 := hd.lo v h0 (by omega)
  have q2 := hd.lt (by omega) h0 (by omega)
  unfold farN at q2
  exact ⟨by omega, by omega, by omega⟩
/-- The events with the bounds of their times. -/
def visE (E T : Int → Int) (y : z0q) : zi := ⟨y.wagon, y.place, y.ref, y.stay, E y.var, T y.var⟩
def visL (s : BS) : List zi := s.e.map (visE (z5f s) (zcp s))
def hisL (s : BS) : List zi := s.e.map (visE (z5f s) (z5f s))
theorem zs7 {s : BS} (h : Good s) {y : z0q} (hy : y ∈ s.e) : 0 ≤ y.var ∧ y.var < ((zhw s).length : Int) ∧ y.var < ((zp4 s).length : Int) ∧ (⟨y.wagon, y.place, y.ref, y.stay, W (0 - gt (zhw s) y.var), gt (zp4 s) y.var⟩ : zi) = visE (z5f s) (zcp s) y := by
  obtain ⟨h1, h2⟩ := h.ev y hy
  have b1 := h.bd true (v := y.var) (by omega) h2
  have b2 := h.bd false (v := y.var) (by omega) h2
  change y.var < ((zhw s).length : Int) ∧ _ ≤ gt (zhw s) y.var ∧ gt (zhw s) y.var ≤ _ at b1
  change y.var < ((zp4 s).length : Int) ∧ _ at b2
  refine ⟨by omega, b1.1, b2.1, ?_⟩
  rw [W_id (by omega) (by omega)]
  unfold visE z5f zcp
  rw [show (0 : Int) - gt (zhw s) y.var = - gt (zhw s) y.var by omega]
theorem ztp (φ : Nat) (hφ : 800000 < φ) {s : BS} (h : Good s) (x : zk) : z1h φ φ (zp4 s) (zhw s) s.e (s.e.length : Int) 0 x [] = some (x, visL s, 0, ()) := by
  have hel := h.el
  have hv2 := h.v2
  refine z05 (fun f i (v : List zi) => z1h φ f (zp4 s) (zhw s) s.e (s.e.length : Int) i x v) s.e.length (fun i v => v = (s.e.take i).map (visE (z5f s) (zcp s))) (fun o => o = _) ?_ ?_ φ _ (by simp) (by omega)
  · intro f i v hi hv hk
    obtain ⟨s1, s2, s3, s4⟩ := zs7 h (z3e (l := s.e) (i := (i : Int)) (by omega) (by omega))
    have hlen : v.length ≤ 1000 := by rw [hv]; simp; omega
    rw [z1h, if_pos (by simp; omega), z2 ⟨by omega, by omega⟩, z2 ⟨s1, s2⟩, z2 ⟨s1, s3⟩, z2 (zh5 (by simp; omega) (by omega)), s4, W_id (x := (i : Int) + 1) (by omega) (by omega)]
    refine hk _ ?_
    rw [hv, z0c s.e i hi, List.map_append]; rfl
  · intro f v hv
    rw [z1h, if_neg (by simp), hv, List.take_length]; rfl
/-- What solve answers. -/
def slv (φ : Nat) (p : Pool) (l : List zf) : zk × List zi × Int × Unit :=
  if z09 p ≠ 0 then (⟨0, [], [], []⟩, [], z09 p, ())
  else if 512 < (bsB φ p l).v ∨ 4096 < (bsB φ p l).b.length then (⟨0, [], [], []⟩, [], 2, ())
  else if 0 ≤ (low (bsB φ p l).v.toNat (bsB φ p l).b).z then (⟨0, [], [], []⟩, [], 230, ())
  else (⟨(bsB φ p l).v, (bsB φ p l).b, (bsB φ p l).y, (bsB φ p l).e⟩, visL (bsB φ p l), 0, ())
theorem Good.chk {s : BS} (h : Good s) : chkD s.v s.b = 0 := by
  have hv := h.v1
  have hv2 := h.v2
  have := zvq (n := s.v.toNat) (by omega) (by omega) h.bl h.ok
  rwa [show ((s.v.toNat : Nat) : Int) = s.v by omega] at this
theorem Good.solve {s : BS} (h : Good s) (φ : Nat) (hφ : 5001 < φ) : z23 φ s.v s.b = some (if 0 ≤ (low s.v.toNat s.b).z then ([], 230, ()) else ((low s.v.toNat s.b).x, 0, ())) := by
  rw [zrc φ hφ, h.chk, if_neg (by simp)]
theorem Good.dist {s : BS} (h : Good s) (φ : Nat) (hφ : 5001 < φ) (r : Bool) (y : List (Nat → Ref)) (e : List z0q) : z10 φ ⟨s.v, s.b, y, e⟩ r = some ((runD r s.b s.v.toNat ⟨d0 s.v.toNat 0, true⟩).d, ()) := by
  have hv := h.v1
  have hv2 := h.v2
  exact y3l φ hφ ⟨s.v, s.b, y, e⟩ r s.v.toNat (by simp only; omega) (by omega) (by omega) h.ok h.bl
theorem y09 (φ : Nat) (hφ : 800000 < φ) (p : Pool) {l : List zf} (hl : FewL l) : z5z φ p l = some (slv φ p l) := by
  unfold z5z slv
  rw [zi7 φ hφ p hl, Option.bind_some, show bAll (tvl φ p.network) p.readers (z2f p l) = bsB φ p l from rfl]
  by_cases hc : z09 p = 0
  case neg => rw [if_neg hc, if_pos hc]; simp only; rw [if_pos (by simpa using hc)]
  rw [if_pos hc, if_neg (show ¬ z09 p ≠ 0 from fun h => h hc)]
  unfold bEnd
  by_cases hb : 512 < (bsB φ p l).v ∨ 4096 < (bsB φ p l).b.length
  · rw [if_pos hb, if_pos hb]; simp only; rw [if_pos (by simp)]
  rw [if_neg hb, if_neg hb]
  have hG := zle hφ hc hl hb
  simp only
  generalize bsB φ p l = s at *
  rw [if_neg (by simp), hG.solve φ (by omega), Option.bind_some]
  by_cases hz : 0 ≤ (low s.v.toNat s.b).z
  · rw [if_pos hz, if_pos hz]; simp only; rw [if_pos (by simp)]
  rw [if_neg hz, if_neg hz]
  simp only
  rw [if_neg (by simp), hG.dist φ (by omega), Option.bind_some, hG.dist φ (by omega), Option.bind_some]
  exact ztp φ hφ hG _
theorem zxt (φ : Nat) (hφ : 800000 < φ) (p : Pool) {l : List zf} (hl : FewL l) : zl φ p l = some ((slv φ p l).2.1, (slv φ p l).2.2.1, ()) := by
  unfold zl
  rw [y09 φ hφ p hl, Option.bind_some]
/-- What History answers. -/
def hst (φ : Nat) (p : Pool) (l : List zf) : List zi × Int × Unit :=
  if z09 p ≠ 0 then ([], z09 p, ())
  else if 512 < (bsB φ p l).v ∨ 4096 < (bsB φ p l).b.length then ([], 2, ())
  else if 0 ≤ (low (bsB φ p l).v.toNat (bsB φ p l).b).z then ([], 230, ())
  else (hisL (bsB φ p l), 0, ())
theorem zzg (φ : Nat) (hφ : 800000 < φ) {s : BS} (h : Good s) (x : zk) : z0u φ φ (zp4 s) (zhw s) s.e (s.e.length : Int) 0 x [] = some (hisL s, 0, ()) := by
  have hel := h.el
  have hv2 := h.v2
  refine z05 (fun f i (v : List zi) => z0u φ f (zp4 s) (zhw s) s.e (s.e.length : Int) i x v) s.e.length (fun i v => v = (s.e.take i).map (visE (z5f s) (zcp s))) (fun o => o = _) ?_ ?_ φ _ (by simp) (by omega)
  · intro f i v hi hv hk
    obtain ⟨s1, s2, s3, s4⟩ := zs7 h (z3e (l := s.e) (i := (i : Int)) (by omega) (by omega))
    have hlen : v.length ≤ 1000 := by rw [hv]; simp; omega
    rw [z0u, if_pos (by simp; omega), z2 ⟨by omega, by omega⟩, z2 ⟨s1, s2⟩, z2 ⟨s1, s3⟩, z2 (zh5 (by simp; omega) (by omega)), s4, W_id (x := (i : Int) + 1) (by omega) (by omega)]
    refine hk _ ?_
    rw [hv, z0c s.e i hi, List.map_append]; rfl
  · intro f v hv
    rw [z0u, if_neg (by simp)]
    rw [List.take_length] at hv
    have hlen : v.length = s.e.length := by rw [hv]; simp
    have hat : ∀ i : Nat, i < s.e.length → gt v (i : Int) = visE (z5f s) (zcp s) (gt s.e (i : Int)) := fun i hi => by
      rw [z5l (by omega), z5l hi]; simp [hv]
    refine z05 (fun f i (u : List zi) => z1c φ f 0 (v.length : Int) i u) v.length (fun i u => u.length = v.length ∧ ∀ j : Nat, j < v.length → gt u (j : Int) = if j < i then visE (z5f s) (z5f s) (gt s.e (j : Int)) else gt v (j : Int)) (fun o => o = _) ?_ ?_ φ v ⟨rfl, fun j hj => by rw [if_neg (by omega)]⟩ (by omega)
    · intro f i u hi ⟨hu, hg⟩ hk
      rw [z1c, if_pos (by simp; omega), z2 ⟨by omega, by omega⟩, z2 ⟨by omega, by omega⟩, W_id (x := (i : Int) + 1) (by omega) (by omega)]
      refine hk _ ⟨by rw [z14]; exact hu, fun j hj => ?_⟩
      rw [z0f _ _ _ _ (by omega) (by omega) (by omega), hg j hj, hg i hi, if_neg (by omega : ¬ i < i)]
      by_cases e : j = i
      · subst e
        rw [if_pos rfl, if_pos (by omega), hat j (by omega)]; rfl
      · rw [if_neg (by omega)]
        by_cases e2 : j < i
        · rw [if_pos e2, if_pos (by omega)]
        · rw [if_neg e2, if_neg (by omega)]
    · intro f u ⟨hu, hg⟩
      rw [z1c, if_neg (by simp)]
      have : u = hisL s := y1x (by rw [hu, hlen]; simp [hisL]) fun i h0 h1 => by
        have := hg i.toNat (by omega)
        rw [if_pos (by omega), show ((i.toNat : Nat) : Int) = i by omega] at this
        rw [this]
        have hi : i.toNat < s.e.length := by omega
        have e := z5l (l := hisL s) (i := i.toNat) (by simp [hisL]; omega)
        rw [show ((i.toNat : Nat) : Int) = i by omega] at e
        have e2 := z5l (l := s.e) (i := i.toNat) hi
        rw [show ((i.toNat : Nat) : Int) = i by omega] at e2
        rw [e, e2]; simp [hisL]
      rw [this]
theorem zu2 (φ : Nat) (hφ : 800000 < φ) (p : Pool) {l : List zf} (hl : FewL l) : z3u φ p l = some (hst φ p l) := by
  unfold z3u hst
  rw [zi7 φ hφ p hl, Option.bind_some, show bAll (tvl φ p.network) p.readers (z2f p l) = bsB φ p l from rfl]
  by_cases hc : z09 p = 0
  case neg =>
    rw [if_neg hc, if_pos hc]; simp only; rw [if_pos (by simpa using hc)]
    obtain ⟨f, rfl⟩ : ∃ f, φ = f + 1 := ⟨φ - 1, by omega⟩
    rw [z3m, if_neg (by simp)]
  rw [if_pos hc, if_neg (show ¬ z09 p ≠ 0 from fun h => h hc)]
  unfold bEnd
  by_cases hb : 512 < (bsB φ p l).v ∨ 4096 < (bsB φ p l).b.length
  · rw [if_pos hb, if_pos hb]; simp only; rw [if_pos (by simp)]
    obtain ⟨f, rfl⟩ : ∃ f, φ = f + 1 := ⟨φ - 1, by omega⟩
    rw [z3m, if_neg (by simp)]
  rw [if_neg hb, if_neg hb]
  have hG := zle hφ hc hl hb
  simp only
  generalize bsB φ p l = s at *
  rw [if_neg (by simp), hG.solve φ (by omega), Option.bind_some]
  by_cases hz : 0 ≤ (low s.v.toNat s.b).z
  · rw [if_pos hz, if_pos hz]; simp only; rw [if_pos (by simp)]
    obtain ⟨f, rfl⟩ : ∃ f, φ = f + 1 := ⟨φ - 1, by omega⟩
    rw [z4z, if_neg (by simp)]
  rw [if_neg hz, if_neg hz]
  simp only
  rw [if_neg (by simp), hG.dist φ (by omega), Option.bind_some, hG.dist φ (by omega), Option.bind_some]
  exact zzg φ hφ hG _
/-- Whether there is a solution. -/
theorem Good.sol {s : BS} (h : Good s) : (low s.v.toNat s.b).z < 0 ↔ ∃ X, SolF s X := by
  have hv := h.v1
  constructor
  · exact fun hz => ⟨gt (low s.v.toNat s.b).x, fun b hb => zqi (by omega) h.ok hz hb⟩
  · rintro ⟨X, hX⟩
    exact zry (by omega) h.ok X hX
end Px
end
section
namespace Px
open Go
set_option linter.unusedVariables false
set_option linter.unusedSimpArgs false
def plE (s : BS) (k : Nat) : Int := (gt s.e (k : Int)).place
def vrE (s : BS) (k : Nat) : Int := (gt s.e (k : Int)).var
def stE (s : BS) (k : Nat) : Bool := (gt s.e (k : Int)).stay
def wgE (s : BS) (k : Nat) : Int := (gt s.e (k : Int)).wagon
theorem zul {s : BS} {E T : Int → Int} {k : Nat} (h : k < s.e.length) : gt (s.e.map (visE E T)) (k : Int) = ⟨wgE s k, plE s k, (gt s.e (k : Int)).ref, stE s k, E (vrE s k), T (vrE s k)⟩ := by
  rw [z5l (by simpa using h)]
  simp only [List.getElem_map, visE, wgE, plE, stE, vrE, z5l h]
section
variable {φ : Nat} (hφ : 800000 < φ) {p : Pool} (hc : z09 p = 0) {l : List zf} (hl : FewL l)
include hφ hc hl
end
end Px
end
section
namespace Px
open Go
set_option linter.unusedVariables false
set_option linter.unusedSimpArgs false
theorem zzj (φ : Nat) (hφ : 1000 < φ) (p : Pool) : ∃ b, z5g φ p = some (b, ()) ∧ (b = true → p.network.places.length ≤ 16 ∧ p.network.edges.length ≤ 40 ∧ p.fleet.wagons.length ≤ 8 ∧ p.readers.length ≤ 8) := by
  unfold z5g
  split
  · exact ⟨false, rfl, fun h => by cases h⟩
  · rename_i hc
    simp only [Bool.or_eq_true, decide_eq_true_eq, not_or] at hc
    obtain ⟨⟨⟨⟨⟨⟨c1, c2⟩, c3⟩, c4⟩, c5⟩, c6⟩, c7⟩ := hc
    have : ∃ b, z13 φ φ 0 p = some (b, ()) := by
      refine z05 (fun n i (_ : Unit) => z13 φ n i p) p.railways.length (fun _ _ => True) (fun o => ∃ b, o = some (b, ())) ?_ ?_ φ () trivial (by omega)
      · intro n i _ hi _ hs
        rw [z13, if_pos (by simp; omega), z2 ⟨by omega, by omega⟩, W_id (by omega) (by omega)]
        split
        · exact ⟨false, rfl⟩
        · exact hs () trivial
      · intro n _ _
        rw [z13, if_neg (by simp)]
        exact ⟨true, rfl⟩
    obtain ⟨b, hb⟩ := this
    exact ⟨b, hb, fun _ => by omega⟩
theorem y6f (φ : Nat) (hφ : 1000 < φ) (l : List zf) (N : Nat) (hN : N ≤ 500) : ∃ b, z3d φ l N = some (b, ()) ∧ (b = true → FewL l ∧ l.length ≤ N) ∧ (b = true ↔ l.length ≤ N ∧ ∀ r ∈ l, r.item.parts.length ≤ 40 ∧ r.item.text.size ≤ 2000) := by
  unfold z3d
  by_cases h60 : N < l.length
  · rw [if_pos (by simp; omega)]
    exact ⟨false, rfl, (fun h => by cases h), (fun h => by cases h), fun h => by omega⟩
  · rw [if_neg (by simp; omega)]
    refine z05 (fun n i (_ : Unit) => z1i φ n l i) l.length (fun i _ => ∀ j : Nat, j < i → (gt l (j : Int)).item.parts.length ≤ 40 ∧ (gt l (j : Int)).item.text.size ≤ 2000)
      (fun o => ∃ b, o = some (b, ()) ∧ (b = true → FewL l ∧ l.length ≤ N) ∧ (b = true ↔ l.length ≤ N ∧ ∀ r ∈ l, r.item.parts.length ≤ 40 ∧ r.item.text.size ≤ 2000)) ?_ ?_ φ () (fun j hj => by omega) (by omega)
    · intro n i _ hi hI hs
      rw [z1i, if_pos (by simp; omega), z2 ⟨by omega, by omega⟩, z2 (fun _ => ⟨by omega, by omega⟩), W_id (by omega) (by omega)]
      split
      · rename_i hc
        simp only [Bool.or_eq_true, decide_eq_true_eq] at hc
        refine ⟨false, rfl, (fun h => by cases h), (fun h => by cases h), fun h => ?_⟩
        have := h.2 _ (z3e (l := l) (i := (i : Int)) (by omega) (by omega))
        omega
      · rename_i hc
        simp only [Bool.or_eq_true, decide_eq_true_eq, not_or] at hc
        refine hs () fun j hj => ?_
        by_cases e : j = i
        · subst e; omega
        · exact hI j (by omega)
    · intro n _ hI
      rw [z1i, if_neg (by simp)]
      have all : ∀ r ∈ l, r.item.parts.length ≤ 40 ∧ r.item.text.size ≤ 2000 := fun r hr => by
        obtain ⟨j, hj, rfl⟩ := zri hr
        exact hI j hj
      exact ⟨true, rfl, fun _ => ⟨⟨by omega, fun r hr => by have := all r hr; omega⟩, by omega⟩, fun _ => ⟨by omega, all⟩, fun _ => rfl⟩
/-- All events are fewer than twice the reports. -/
theorem zvk (k : Nat) (x : Int) : ∀ n : Nat, ((List.range n).map fun (w : Nat) => if x = (w : Int) then k else 0).sum ≤ if x < (n : Int) then k else 0
  | 0 => by simp
  | n + 1 => by
    have ih := zvk k x n
    rw [List.range_succ, List.map_append, List.sum_append]
    simp only [List.map_cons, List.map_nil, List.sum_cons, List.sum_nil, Nat.add_zero]
    by_cases h : x = (n : Int)
    · rw [if_pos h, if_pos (by omega)]
      rw [if_neg (by omega)] at ih
      omega
    · rw [if_neg h]
      by_cases h2 : x < (n : Int)
      · rw [if_pos h2] at ih; rw [if_pos (by omega)]; omega
      · rw [if_neg h2] at ih; omega
theorem zwf (f g : Nat → Nat) : ∀ l : List Nat, (l.map fun w => f w + g w).sum = (l.map f).sum + (l.map g).sum
  | [] => rfl
  | a :: l => by
    have := zwf f g l
    simp only [List.map_cons, List.sum_cons]
    omega
theorem zwi (p : Pool) (l : List zf) (n : Nat) : ∀ c : List Int, ((List.range n).map fun (w : Nat) => (unsC p l c (w : Int)).length).sum ≤ 2 * c.length
  | [] => by
    have : ∀ l : List Nat, (l.map fun _ => 0).sum = 0 := fun l => by
      induction l with
      | nil => rfl
      | cons a l ih => rw [List.map_cons, List.sum_cons, ih]
    have h := this (List.range n)
    show ((List.range n).map fun (w : Nat) => ([] : List z1).length).sum ≤ 0
    exact Nat.le_of_eq h
  | i :: c => by
    have ih := zwi p l n c
    have e : ∀ w : Int, (unsC p l (i :: c) w).length = (if (gt l i).item.wagon = w then (evs p (gt l i) i).length else 0) + (unsC p l c w).length := fun w => by
      unfold unsC
      rw [List.flatMap_cons, List.length_append]
      split <;> rfl
    simp only [e]
    rw [zwf]
    have h1 := zvk (evs p (gt l i) i).length (gt l i).item.wagon n
    have h2 := zr9 p (gt l i) i
    rw [List.length_cons]
    split at h1 <;> omega
theorem zzr (p : Pool) (l : List zf) : (z2f p l).flatten.length ≤ 2 * l.length := by
  rw [List.length_flatten]
  unfold z2f
  rw [List.map_map]
  have h := zwi p l p.fleet.wagons.length (cnt p l)
  have h2 := zef p l l.length
  have e : (List.length ∘ fun (w : Nat) => zal p l (w : Int)) = fun (w : Nat) => (unsC p l (cnt p l) (w : Int)).length := by
    funext w
    simp only [Function.comp]
    unfold zal srt
    rw [zij, (z2g _ _).length_eq]
    rfl
  rw [e]
  unfold cnt at h ⊢
  omega
theorem BB.fold (tv m) : ∀ (ts : List (List z1)) (n : Nat) (s : BS), BB n s → BB (n + ts.flatten.length) (fB tv m ts s)
  | [], n, s, h => h
  | t :: ts, n, s, h => by
    have := BB.fold tv m ts _ _ (BB.ev tv m t n none s h)
    rw [Nat.add_assoc] at this
    rw [List.flatten_cons, List.length_append]
    exact this
theorem y3b (tv) {rs : List z20} (hr : rs.length ≤ 256) (ts : List (List z1)) : BB ts.flatten.length (bAll tv rs ts) := by
  obtain ⟨h1, h2, h3, h4⟩ := za6 rs (used ts) rs.length
  have h0 : BB 0 (rd0 rs ts) := ⟨h1, by show (rdsN rs (used ts) rs.length).v ≤ _; omega, by show (rdsN rs (used ts) rs.length).b.length ≤ _; omega, by show (rdsN rs (used ts) rs.length).y.length ≤ _; omega, by simp⟩
  have := BB.fold tv (rdM rs ts) ts 0 _ h0
  rw [Nat.zero_add] at this
  exact this
theorem zy2 {φ : Nat} {p : Pool} (hc : z09 p = 0) {l : List zf} (hl : l.length ≤ 100) : (bsB φ p l).v ≤ 257 + 2 * l.length ∧ (bsB φ p l).b.length ≤ 512 + 10 * l.length ∧ (bsB φ p l).e.length ≤ 2 * l.length ∧ ¬ (512 < (bsB φ p l).v ∨ 4096 < (bsB φ p l).b.length) := by
  have h : BB (z2f p l).flatten.length (bsB φ p l) := y3b (tvl φ p.network) (zac hc).2.2.1 (z2f p l)
  have h2 := zzr p l
  have q1 := h.v1
  have q2 := h.b
  have q3 := h.e
  refine ⟨by omega, by omega, ?_, by omega⟩
  omega
section
variable (φ : Nat) {p : Pool} {l : List zf} (hl : FewL l) {w : Int} (w0 : 0 ≤ w) (w1 : w < (p.fleet.wagons.length : Int))
include hl w0 w1
end
end Px
end
section
namespace Px
open Go
theorem y2e : z8i 100000000 = some (true, ()) := by kernel_rfl
end Px
end
section
namespace Px
open Go
set_option linter.unusedVariables false
set_option linter.unusedSimpArgs false
theorem zsw (φ : Nat) (hφ : 1000 < φ) (p : Pool) (l : List zf) : ∃ b, zce φ p l = some (b, ()) ∧ (b = true → FewL l ∧ l.length ≤ 8 ∧ p.network.places.length ≤ 16 ∧ p.network.edges.length ≤ 40 ∧ p.fleet.wagons.length ≤ 8 ∧ p.readers.length ≤ 8) ∧
    (b = true → ∀ r ∈ l, r.item.parts.length ≤ 40 ∧ r.item.text.size ≤ 2000) := by
  obtain ⟨b1, h1, h2⟩ := zzj φ hφ p
  obtain ⟨b2, h3, h4, h5⟩ := y6f φ hφ l 8 (by omega)
  unfold zce
  rw [h1, Option.bind_some]
  cases b1 with
  | false =>
    rw [gz_f (by simp), Option.bind_some]
    exact ⟨_, rfl, (fun h => by cases h), fun h => by cases h⟩
  | true =>
    have h3' : z3d φ l 8 = some (b2, ()) := h3
    rw [gz_t rfl, h3', Option.bind_some]
    refine ⟨_, rfl, fun h => ?_, fun h => (h5.1 h).2⟩
    obtain ⟨q1, q2⟩ := h4 h
    obtain ⟨a1, a2, a3, a4⟩ := h2 rfl
    exact ⟨q1, q2, a1, a2, a3, a4⟩
/-- The solver with further bounds. -/
theorem zo2 {s : BS} (hG : Good s) (φ : Nat) (hφ : 5001 < φ) (M : List z7) (hM : ∀ b ∈ M, okBd s.v.toNat b) (hl : s.b.length + M.length ≤ 4096) :
    ∃ x e, z23 φ s.v (s.b ++ M) = some (x, e, ()) ∧ (e = 0 ↔ ∃ X, SolF s X ∧ ∀ b ∈ M, X b.j - X b.i ≤ b.w) := by
  have hv := hG.v1
  have hv2 := hG.v2
  have hok : ∀ b ∈ s.b ++ M, okBd s.v.toNat b := fun b hb => (List.mem_append.1 hb).elim (hG.ok b) (hM b)
  have hchk := zvq (n := s.v.toNat) (L := s.b ++ M) (by omega) (by omega) (by rw [List.length_append]; omega) hok
  rw [show ((s.v.toNat : Nat) : Int) = s.v by omega] at hchk
  rw [zrc φ hφ, hchk, if_neg (by simp)]
  by_cases hz : 0 ≤ (low s.v.toNat (s.b ++ M)).z
  · rw [if_pos hz]
    refine ⟨_, _, rfl, (fun h => by cases h), ?_⟩
    rintro ⟨X, h1, h2⟩
    have := zry (n := s.v.toNat) (by omega) hok X fun b hb => (List.mem_append.1 hb).elim (h1 b) (h2 b)
    omega
  · rw [if_neg hz]
    refine ⟨_, _, rfl, fun _ => ⟨gt (low s.v.toNat (s.b ++ M)).x, fun b hb => zqi (by omega) hok (by omega) (List.mem_append_left _ hb), fun b hb => zqi (by omega) hok (by omega) (List.mem_append_right _ hb)⟩, fun _ => rfl⟩
/-- The times of the events. -/
theorem zmz {φ : Nat} {p : Pool} (hc : z09 p = 0) {l : List zf} (hl : FewL l) (hG : Good (bsB φ p l)) {X : Int → Int} (hX : SolF (bsB φ p l) X) {k : Nat} (hk : k < (bsB φ p l).e.length) :
    1 ≤ vrE (bsB φ p l) k ∧ vrE (bsB φ p l) k < (bsB φ p l).v ∧ 0 ≤ z5f (bsB φ p l) (vrE (bsB φ p l) k) ∧ z5f (bsB φ p l) (vrE (bsB φ p l) k) ≤ zcp (bsB φ p l) (vrE (bsB φ p l) k) ∧ zcp (bsB φ p l) (vrE (bsB φ p l) k) ≤ 1073741824 := by
  have h := y9c hc hl (tv := tvl φ p.network) (ev := gt (bsB φ p l).e (k : Int)) (z3e (l := (bsB φ p l).e) (by omega) (by omega))
  have hE := hG.ets hX
  have a := h.2.2.2.1 _ hE.eS
  have b := h.2.2.2.1 _ hE.tS
  have c := hE.e _ hE.tS (vrE (bsB φ p l) k) (by unfold vrE; omega) h.2.2.1
  have e0 := hE.e0
  have t0 := hE.t0
  change 0 ≤ z5f (bsB φ p l) (vrE (bsB φ p l) k) - _ ∧ _ at a
  change _ ∧ zcp (bsB φ p l) (vrE (bsB φ p l) k) - _ ≤ _ at b
  exact ⟨h.2.1, h.2.2.1, by omega, by omega, by omega⟩
/-- Bounds that give the events their times. -/
def fixB (s : BS) (l : List z0q) : List z7 := l.flatMap fun y => [⟨0, y.var, z5f s y.var⟩, ⟨y.var, 0, 0 - z5f s y.var⟩]
theorem zmd (s : BS) : ∀ l : List z0q, (fixB s l).length = 2 * l.length
  | [] => rfl
  | y :: l => by
    have := zmd s l
    unfold fixB at this ⊢
    rw [List.flatMap_cons, List.length_append, this]
    simp; omega
theorem y00 (φ : Nat) (hφ : 800000 < φ) {p : Pool} (hc : z09 p = 0) {l : List zf} (hl : FewL l) (hG : Good (bsB φ p l)) {X : Int → Int} (hX : SolF (bsB φ p l) X) (y : List (Nat → Ref)) :
    ze9 φ ⟨(bsB φ p l).v, (bsB φ p l).b, y, (bsB φ p l).e⟩ (hisL (bsB φ p l)) = some ((bsB φ p l).b ++ fixB (bsB φ p l) (bsB φ p l).e, ()) := by
  have ht := fun k => zmz hc hl hG hX (k := k)
  generalize bsB φ p l = s at *
  have hel := hG.el
  have hv2 := hG.v2
  have hbl := hG.bl
  have hvl : (hisL s).length = s.e.length := by simp [hisL]
  unfold ze9
  rw [z2 (zh5 (by simp; omega) (by omega))]
  refine z05 (fun n i (b : List z7) => z4o φ n (hisL s) i ⟨s.v, s.b, y, s.e⟩ b) s.e.length (fun i b => b = s.b ++ fixB s (s.e.take i)) (fun o => o = _) ?_ ?_ φ _ (by simp [fixB]) (by omega)
  · intro n i b hi hb hk
    have hv : gt (hisL s) (i : Int) = _ := zul (E := z5f s) (T := z5f s) (k := i) hi
    obtain ⟨t1, t2, t3, t4, t5⟩ := ht i hi
    have hbl2 : b.length ≤ 10000 := by
      have := zmd s (s.e.take i)
      rw [hb, List.length_append, this, List.length_take]; omega
    rw [z4o, if_pos (by rw [hvl]; simp; omega), z2 ⟨by omega, by simp only; omega⟩, z2 ⟨by omega, by omega⟩, z2 ⟨by omega, by simp only; omega⟩, z2 ⟨by omega, by omega⟩, z2 (zh5 (by simp; omega) (by omega)), hv, W_id (x := (i : Int) + 1) (by omega) (by omega)]
    simp only
    rw [W_id (x := 0 - z5f s (vrE s i)) (by omega) (by omega)]
    refine hk _ ?_
    rw [hb, z0c s.e i hi]
    unfold fixB
    rw [List.flatMap_append, List.append_assoc]
    rfl
  · intro n b hb
    rw [z4o, if_neg (by rw [hvl]; simp), hb, List.take_length]
theorem zuw (φ : Nat) (p : Pool) (l : List zf) : (z6o φ).F (p, l, ()) = z1z φ p l := rfl
theorem custodyHistory_true (x : Tup TT [35, 38]) (h : y0w TV 30 [35, 38] x) : ∃ φ, (z6o φ).F x = some (true, ()) := by
  obtain ⟨p, l, _⟩ := x
  change List zf at l
  change Pool at p
  suffices key : ∃ φ, z1z φ p l = some (true, ()) by
    obtain ⟨φ, h⟩ := key
    exact ⟨φ, (zuw φ p l).trans h⟩
  suffices key : ∀ φ : Nat, 60000000 < φ → z8i φ = some (true, ()) → z1z φ p l = some (true, ()) from ⟨100000000, key _ (by omega) y2e⟩
  intro φ hφ hsane
  unfold z1z
  obtain ⟨bf, hbf, hfew, _⟩ := zsw φ (by omega) p l
  rw [hsane, Option.bind_some, if_neg (by simp), hbf, Option.bind_some]
  cases bf with
  | false => rw [if_pos (by simp)]
  | true =>
  obtain ⟨hl, hlen, _⟩ := hfew rfl
  rw [if_neg (by simp), zi7 φ (by omega) p hl, Option.bind_some, zu2 φ (by omega) p hl, Option.bind_some]
  by_cases hc : z09 p = 0
  case neg =>
    unfold hst
    rw [if_neg hc, if_pos (show z09 p ≠ 0 from hc)]
    simp only
    rw [if_pos (by simpa using hc)]
    simp
  have hnb := zy2 (φ := φ) hc (l := l) (by omega)
  unfold hst
  rw [if_pos hc, if_neg (show ¬ z09 p ≠ 0 from fun h => h hc), show bAll (tvl φ p.network) p.readers (z2f p l) = bsB φ p l from rfl]
  unfold bEnd
  rw [if_neg hnb.2.2.2, if_neg hnb.2.2.2]
  have hG := zle (φ := φ) (by omega) hc hl hnb.2.2.2
  simp only
  rw [if_neg (by simp), hG.solve φ (by omega), Option.bind_some]
  by_cases hz : 0 ≤ (low (bsB φ p l).v.toNat (bsB φ p l).b).z
  · rw [if_pos hz, if_pos hz]
    simp
  rw [if_neg hz, if_neg hz]
  obtain ⟨X, hX⟩ := hG.sol.1 (by omega)
  have hE := hG.ets hX
  have ht := fun k => zmz hc hl hG hX (k := k)
  have hfix := y00 φ (by omega) hc hl hG hX (bsB φ p l).y
  have e0 := hE.e0
  generalize bsB φ p l = s at *
  have hvl : (hisL s).length = s.e.length := by simp [hisL]
  simp only
  rw [if_neg (by simp), if_neg (by rw [hvl]; simp)]
  refine z05 (fun n i (_ : Unit) => z12 φ n (hisL s) i ⟨s.v, s.b, s.y, s.e⟩) s.e.length (fun _ _ => True) (fun o => o = some (true, ())) ?_ ?_ φ () trivial (by omega)
  · intro n i _ hi _ hk
    have hv : gt (hisL s) (i : Int) = _ := zul (E := z5f s) (T := z5f s) (k := i) hi
    obtain ⟨t1, t2, t3, t4, t5⟩ := ht i hi
    have c1 : (0 : Int) ≤ (i : Int) ∧ (i : Int) < ((hisL s).length : Int) := ⟨by omega, by omega⟩
    rw [z12, if_pos (by simp; omega), z2 ⟨by omega, by simp only; omega⟩, z2 c1, z2 c1, z2 (fun _ => c1), z2 (fun _ => c1), z2 (fun _ => c1), z2 (fun _ => c1), z2 (fun _ => c1), z2 (fun _ => c1), W_id (x := (i : Int) + 1) (by omega) (by omega), hv]
    rw [if_neg]
    · exact hk () trivial
    · simp only [wgE, plE, stE, bne_self_eq_false, beq_self_eq_true, Bool.and_self, Bool.not_true, Bool.or_false, Bool.false_or, Bool.or_eq_true, decide_eq_true_eq, Bool.and_true]
      omega
  · intro n _ _
    rw [z12, if_neg (by rw [hvl]; simp), hfix, Option.bind_some]
    have hM : ∀ b ∈ fixB s s.e, okBd s.v.toNat b ∧ z5f s b.j - z5f s b.i ≤ b.w := fun b hb => by
      obtain ⟨y, hy, hb⟩ := List.mem_flatMap.1 hb
      obtain ⟨k, hk, rfl⟩ := zri hy
      obtain ⟨t1, t2, t3, t4, t5⟩ := ht k hk
      change 1 ≤ (gt s.e (k : Int)).var at t1
      change (gt s.e (k : Int)).var < s.v at t2
      change 0 ≤ z5f s (gt s.e (k : Int)).var at t3
      change z5f s (gt s.e (k : Int)).var ≤ zcp s (gt s.e (k : Int)).var at t4
      change zcp s (gt s.e (k : Int)).var ≤ _ at t5
      simp only [List.mem_cons, List.not_mem_nil, or_false] at hb
      rcases hb with rfl | rfl
      · exact ⟨⟨by simp only; omega, by simp only; omega, by simp only; omega, by simp only; omega, by simp only; omega, by simp only; omega⟩, by simp only; omega⟩
      · exact ⟨⟨by simp only; omega, by simp only; omega, by simp only; omega, by simp only; omega, by simp only; omega, by simp only; omega⟩, by simp only; omega⟩
    have hfl := zmd s s.e
    obtain ⟨x, e, h1, h2⟩ := zo2 hG φ (by omega) (fixB s s.e) (fun b hb => (hM b hb).1) (by omega)
    rw [h1, Option.bind_some]
    simp only
    rw [h2.2 ⟨z5f s, hE.eS, fun b hb => (hM b hb).2⟩]
    rfl
theorem zax {s : BS} (hG : Good s) (φ : Nat) (hφ : 5001 < φ) (y : List (Nat → Ref)) (b : z7) (hb : okBd s.v.toNat b) (hl : s.b.length + 1 ≤ 4096) : ∃ r, z2q φ ⟨s.v, s.b, y, s.e⟩ b = some (r, ()) ∧ (r = true ↔ ∃ X, SolF s X ∧ X b.j - X b.i ≤ b.w) := by
  unfold z2q z30
  obtain ⟨x, e, h1, h2⟩ := zo2 hG φ hφ [b] (fun c hc => by rw [List.mem_singleton] at hc; rw [hc]; exact hb) (by simpa using hl)
  rw [z2 (zh5 (by simp; omega) (by omega)), z2 (zh5 (by simp; omega) (by omega))]
  simp only [List.nil_append]
  rw [h1, Option.bind_some]
  refine ⟨_, rfl, ?_⟩
  simp only [beq_iff_eq]
  rw [h2]
  constructor
  · rintro ⟨X, q1, q2⟩; exact ⟨X, q1, q2 b (List.mem_singleton.2 rfl)⟩
  · rintro ⟨X, q1, q2⟩; exact ⟨X, q1, fun c hc => by rw [List.mem_singleton] at hc; rw [hc]; exact q2⟩
theorem y0t (φ : Nat) (p : Pool) (l : List zf) (i : Int) : (z2p φ).F (p, l, i, ()) = z2c φ p l i := rfl
theorem zfe (x : Tup TT [35, 38, 0]) (h : y0w TV 30 [35, 38, 0] x) : ∃ φ, (z2p φ).F x = some (true, ()) := by
  obtain ⟨p, l, i, _⟩ := x
  change List zf at l
  change Pool at p
  change Int at i
  suffices key : ∃ φ, z2c φ p l i = some (true, ()) by
    obtain ⟨φ, h⟩ := key
    exact ⟨φ, (y0t φ p l i).trans h⟩
  suffices key : ∀ φ : Nat, 60000000 < φ → z8i φ = some (true, ()) → z2c φ p l i = some (true, ()) from ⟨100000000, key _ (by omega) y2e⟩
  intro φ hφ hsane
  unfold z2c
  obtain ⟨bf, hbf, hfew, _⟩ := zsw φ (by omega) p l
  rw [hsane, Option.bind_some, if_neg (by simp), hbf, Option.bind_some]
  cases bf with
  | false => rw [if_pos (by simp)]
  | true =>
  obtain ⟨hl, hlen, _⟩ := hfew rfl
  rw [if_neg (by simp), zi7 φ (by omega) p hl, Option.bind_some, zxt φ (by omega) p hl, Option.bind_some]
  by_cases hc : z09 p = 0
  case neg =>
    unfold slv
    rw [if_neg hc, if_pos (show z09 p ≠ 0 from hc)]
    simp only
    rw [if_pos (by simp [hc])]
    simp
  have hnb := zy2 (φ := φ) hc (l := l) (by omega)
  unfold slv
  rw [if_pos hc, if_neg (show ¬ z09 p ≠ 0 from fun h => h hc), show bAll (tvl φ p.network) p.readers (z2f p l) = bsB φ p l from rfl]
  unfold bEnd
  rw [if_neg hnb.2.2.2, if_neg hnb.2.2.2]
  have hG := zle (φ := φ) (by omega) hc hl hnb.2.2.2
  by_cases hz : 0 ≤ (low (bsB φ p l).v.toNat (bsB φ p l).b).z
  · rw [if_pos hz]
    simp
  rw [if_neg hz]
  obtain ⟨X, hX⟩ := hG.sol.1 (by omega)
  have hE := hG.ets hX
  have ht := fun k => zmz hc hl hG hX (k := k)
  have e0 := hE.e0
  have t0 := hE.t0
  generalize bsB φ p l = s at *
  have hvl : (visL s).length = s.e.length := by simp [visL]
  have hv2 := hG.v2
  have hel := hG.el
  simp only
  rw [if_neg (by simp), if_neg (by rw [hvl]; simp), hvl]
  by_cases hi : i < 0 ∨ (s.e.length : Int) ≤ i
  · rw [if_pos (by simpa using hi)]
  have hi2 : i.toNat < s.e.length := by omega
  have hv : gt (visL s) ((i.toNat : Nat) : Int) = _ := zul (E := z5f s) (T := zcp s) (k := i.toNat) hi2
  obtain ⟨t1, t2, t3, t4, t5⟩ := ht i.toNat hi2
  have hvar : (gt s.e i).var = vrE s i.toNat := by unfold vrE; rw [show ((i.toNat : Nat) : Int) = i by omega]
  rw [show ((i.toNat : Nat) : Int) = i by omega] at hv
  have c1 : (0 : Int) ≤ i ∧ i < (s.e.length : Int) := by omega
  rw [if_neg (by simpa using hi), z2 c1, z2 c1, z2 (fun _ => c1), z2 (fun _ => c1), z2 (fun _ => c1), hv, hvar]
  generalize vrE s i.toNat = v at *
  simp only
  rw [if_neg (by simp; omega), z2 c1, W_id (x := 0 - zcp s v) (by omega) (by omega), W_id (x := z5f s v - 1) (by omega) (by omega), W_id (x := 0 - zcp s v - 1) (by omega) (by omega)]
  have hb1 := hG.bl
  obtain ⟨r1, s1, q1⟩ := zax hG φ (by omega) s.y ⟨0, v, z5f s v⟩ ⟨by simp only; omega, by simp only; omega, by simp only; omega, by simp only; omega, by simp only; omega, by simp only; omega⟩ (by omega)
  obtain ⟨r2, s2, q2⟩ := zax hG φ (by omega) s.y ⟨v, 0, 0 - zcp s v⟩ ⟨by simp only; omega, by simp only; omega, by simp only; omega, by simp only; omega, by simp only; omega, by simp only; omega⟩ (by omega)
  obtain ⟨r3, s3, q3⟩ := zax hG φ (by omega) s.y ⟨0, v, z5f s v - 1⟩ ⟨by simp only; omega, by simp only; omega, by simp only; omega, by simp only; omega, by simp only; omega, by simp only; omega⟩ (by omega)
  obtain ⟨r4, s4, q4⟩ := zax hG φ (by omega) s.y ⟨v, 0, 0 - zcp s v - 1⟩ ⟨by simp only; omega, by simp only; omega, by simp only; omega, by simp only; omega, by simp only; omega, by simp only; omega⟩ (by omega)
  have k1 : r1 = true := q1.2 ⟨_, hE.eS, by simp only; omega⟩
  have k2 : r2 = true := q2.2 ⟨_, hE.tS, by simp only; omega⟩
  have k3 : r3 = false := by
    cases hr : r3 with
    | false => rfl
    | true =>
      obtain ⟨Y, y1, y2⟩ := q3.1 hr
      have := hE.e Y y1 v (by omega) t2
      simp only at y2; omega
  have k4 : r4 = false := by
    cases hr : r4 with
    | false => rfl
    | true =>
      obtain ⟨Y, y1, y2⟩ := q4.1 hr
      have := hE.t Y y1 v (by omega) t2
      simp only at y2; omega
  subst k1; subst k2; subst k3; subst k4
  rw [s1, Option.bind_some, z2 (fun _ => c1), gz_t (by simp), s2, Option.bind_some, if_neg (by simp), z2 c1, s3, Option.bind_some, z2 (fun _ => c1), gz_t (by simp), s4, Option.bind_some]
  rfl
end Px
end
