/- A part of the proof of custodyOrder_holds. Conditions: none. -/
import Derived.Test.YtonbdachlfobnaaGreatZof
section
namespace Px
open Go
set_option linter.unusedVariables false
set_option linter.unusedSimpArgs false
def bI (b : zb) : Nat := b.i.toNat
def bJ (b : zb) : Nat := b.j.toNat
def bW (b : zb) : Int := b.w
def xf (x : List Int) : BF.X := fun v => if v < x.length then some (gt x (v : Int)) else none
theorem zzt {x : List Int} {i : Int} (h0 : 0 ≤ i) (h : i < (x.length : Int)) : xf x i.toNat = some (gt x i) := by
  unfold xf
  rw [if_pos (by omega), show ((i.toNat : Nat) : Int) = i by omega]
theorem zvc {n : Nat} {s : LS} (hx : s.x.length = n) {b : zb} (hb : okBd n b) (i : Int) :
    xf (stp b i s).x = BF.rlx bI bJ bW (xf s.x) b ∧ (BF.imp bI bJ bW (xf s.x) b = true → (stp b i s).z = i) ∧ (BF.imp bI bJ bW (xf s.x) b = false → stp b i s = s) := by
  obtain ⟨a1, a2, a3, a4, _, _⟩ := hb
  have e1 : xf s.x (bI b) = some (gt s.x b.i) := zzt a1 (by rw [hx]; exact a2)
  have e2 : xf s.x (bJ b) = some (gt s.x b.j) := zzt a3 (by rw [hx]; exact a4)
  have ei : BF.imp bI bJ bW (xf s.x) b = decide (gt s.x b.i + b.w < gt s.x b.j) := by
    unfold BF.imp; rw [e1, e2]; rfl
  have er : BF.rlx bI bJ bW (xf s.x) b = if gt s.x b.i + b.w < gt s.x b.j then fun v => if v = bJ b then some (gt s.x b.i + b.w) else xf s.x v else xf s.x := by
    unfold BF.rlx; rw [e1, e2]; simp only [BF.ltO, bW]
    by_cases h : gt s.x b.i + b.w < gt s.x b.j <;> simp [h]
  rw [ei, er]
  unfold stp
  by_cases h : gt s.x b.i + b.w < gt s.x b.j
  · rw [if_pos h, if_pos h]
    refine ⟨?_, fun _ => rfl, fun q => by simp [h] at q⟩
    funext v
    unfold xf
    rw [z0n]
    simp only
    by_cases hv : v < s.x.length
    · rw [if_pos hv, if_pos hv, z0d _ _ _ _ a3 (by rw [hx]; exact a4) (by omega)]
      by_cases e : v = bJ b
      · rw [if_pos e, if_pos (by unfold bJ at e; omega)]
      · rw [if_neg e, if_neg (by unfold bJ at e; omega)]
    · rw [if_neg hv, if_neg hv, if_neg (fun e => hv (by rw [hx, e]; unfold bJ; omega))]
  · rw [if_neg h, if_neg h]
    exact ⟨rfl, fun q => by simp [h] at q, fun _ => rfl⟩
theorem zd8 {n : Nat} {s : LS} (hs : s.x.length = n) {L : List zb} : ∀ m, (rndL L m s).x.length = n
  | 0 => hs
  | m + 1 => by
    have := zd8 hs (L := L) m
    unfold rndL stp
    split
    · simp only [z0n]; exact this
    · exact this
theorem zxt {n : Nat} {s : LS} (hs : s.x.length = n) {L : List zb} (hL : ∀ b ∈ L, okBd n b) : ∀ m, m ≤ L.length → xf (rndL L m s).x = (L.take m).foldl (BF.rlx bI bJ bW) (xf s.x)
  | 0, _ => rfl
  | m + 1, hm => by
    have ih := zxt hs hL m (by omega)
    rw [z0g L m (by omega), List.foldl_append, ← ih]
    exact (zvc (zd8 hs m) (hL _ (z1z (by omega) (by omega))) m).1
theorem y3h {n : Nat} {s : LS} (hs : s.x.length = n) {L : List zb} (hL : ∀ b ∈ L, okBd n b) (hz : s.z = -1) : ∀ m, m ≤ L.length →
    ((rndL L m s).z < 0 → rndL L m s = s ∧ ∀ k : Nat, k < m → BF.imp bI bJ bW (xf s.x) (gt L (k : Int)) = false) ∧ -1 ≤ (rndL L m s).z ∧ (rndL L m s).z < m
  | 0, _ => ⟨fun _ => ⟨rfl, fun k hk => by omega⟩, by rw [show (rndL L 0 s).z = s.z from rfl]; omega, by rw [show (rndL L 0 s).z = s.z from rfl]; omega⟩
  | m + 1, hm => by
    obtain ⟨h1, h2, h3⟩ := y3h hs hL hz m (by omega)
    obtain ⟨q1, q2, q3⟩ := zvc (zd8 hs m) (hL _ (z1z (l := L) (i := (m : Int)) (by omega) (by omega))) m
    change _ ∧ -1 ≤ (stp (gt L (m : Int)) m (rndL L m s)).z ∧ (stp (gt L (m : Int)) m (rndL L m s)).z < _
    cases hi : BF.imp bI bJ bW (xf (rndL L m s).x) (gt L (m : Int)) with
    | true =>
      have := q2 hi
      refine ⟨fun h => ?_, by omega, by omega⟩
      change (stp (gt L (m : Int)) m (rndL L m s)).z < 0 at h
      omega
    | false =>
      have e := q3 hi
      rw [e]
      refine ⟨fun h => ?_, h2, by omega⟩
      change (stp (gt L (m : Int)) m (rndL L m s)).z < 0 at h
      rw [e] at h
      obtain ⟨e2, h4⟩ := h1 h
      refine ⟨by change stp (gt L (m : Int)) m (rndL L m s) = s; rw [e, e2], fun k hk => ?_⟩
      by_cases hkm : k = m
      · subst hkm; rw [e2] at hi; exact hi
      · exact h4 k (by omega)
theorem zpi {n : Nat} {s : LS} (hs : s.x.length = n) {L : List zb} (hL : ∀ b ∈ L, okBd n b) (hz : s.z = -1) (hf : ∀ b ∈ L, BF.imp bI bJ bW (xf s.x) b = false) : ∀ m, m ≤ L.length → rndL L m s = s
  | 0, _ => rfl
  | m + 1, hm => by
    have ih := zpi hs hL hz hf m (by omega)
    have hb := z1z (l := L) (i := (m : Int)) (by omega) (by omega)
    change stp (gt L (m : Int)) m (rndL L m s) = s
    rw [ih]
    exact (zvc hs (hL _ hb) m).2.2 (hf _ hb)
/-- At the start. -/
def xz (n : Nat) : BF.X := fun v => if v < n then some 0 else none
theorem yai (n : Nat) : xf (List.replicate n 0) = xz n := by
  funext v
  unfold xf xz
  rw [List.length_replicate]
  split
  · rw [z1e _ _ _ (by omega) (by omega)]
  · rfl
theorem zxu {n : Nat} {L : List zb} (hL : ∀ b ∈ L, okBd n b) : ∀ (f k : Nat) (s : LS), s.x.length = n → xf s.x = BF.rnds bI bJ bW L (xz n) k → (lowR L f s).x.length = n ∧
    (((lowR L f s).z < 0 → f ≠ 0 ∨ s.z < 0) → ((lowR L f s).z < 0 → f ≠ 0) → ((lowR L f s).z < 0 → BF.Fix bI bJ bW L (xf (lowR L f s).x) ∧ ∃ k', xf (lowR L f s).x = BF.rnds bI bJ bW L (xz n) k')) ∧
    (0 ≤ (lowR L f s).z → f ≠ 0 → ¬ BF.Feas bI bJ bW (xz n) L n ∨ k + f < n) ∧ (f ≠ 0 → -1 ≤ (lowR L f s).z ∧ (lowR L f s).z < L.length)
  | 0, k, s, hs, hx => ⟨hs, fun _ h2 h => absurd rfl (h2 h), fun _ h => absurd rfl h, fun h => absurd rfl h⟩
  | f + 1, k, s, hs, hx => by
    have hs1 : (LS.mk s.x s.y (-1)).x.length = n := hs
    obtain ⟨h1, h2, h3⟩ := y3h hs1 hL rfl L.length (Nat.le_refl _)
    have hr := zxt hs1 hL L.length (Nat.le_refl _)
    rw [List.take_length] at hr
    have hr2 : xf (rndL L L.length ⟨s.x, s.y, -1⟩).x = BF.rnds bI bJ bW L (xz n) (k + 1) := by
      rw [hr, show xf (LS.mk s.x s.y (-1)).x = _ from hx]; rfl
    have hq : ¬ (rndL L L.length ⟨s.x, s.y, -1⟩).z < 0 → n ≤ k + 1 → ¬ BF.Feas bI bJ bW (xz n) L n := fun hz hk F => by
      have := zpi hs1 hL rfl (fun b hb => by
        have := BF.done F hk b hb
        rw [← hx] at this; exact this) L.length (Nat.le_refl _)
      rw [this] at hz
      exact hz (by show (-1 : Int) < 0; omega)
    unfold lowR
    split
    · rename_i hz
      obtain ⟨e1, e2⟩ := h1 hz
      refine ⟨zd8 hs1 _, fun _ _ _ => ⟨fun b hb => ?_, k + 1, hr2⟩, fun h => by omega, fun _ => ⟨h2, h3⟩⟩
      rw [e1]
      obtain ⟨i, hi, rfl⟩ := zoi hb
      exact e2 i hi
    · rename_i hz
      by_cases hf : f = 0
      · subst hf
        refine ⟨zd8 hs1 _, fun _ _ h => absurd h hz, fun _ _ => ?_, fun _ => ⟨h2, h3⟩⟩
        by_cases hk : n ≤ k + 1
        · exact .inl (hq hz hk)
        · exact .inr (by omega)
      · obtain ⟨i1, i2, i3, i4⟩ := zxu hL f (k + 1) _ (zd8 hs1 L.length) hr2
        refine ⟨i1, fun _ _ h => i2 (fun _ => .inl hf) (fun _ => hf) h, fun h _ => ?_, fun _ => i4 hf⟩
        rcases i3 h hf with h | h
        · exact .inl h
        · exact .inr (by omega)
/-- What the solver leaves. -/
structure ybh (n : Nat) (L : List zb) : Prop where
  len : (low n L).x.length = n
  fix : (low n L).z < 0 → BF.Fix bI bJ bW L (xf (low n L).x)
  rnd : (low n L).z < 0 → ∃ k, xf (low n L).x = BF.rnds bI bJ bW L (xz n) k
  cyc : 0 ≤ (low n L).z → ¬ BF.Feas bI bJ bW (xz n) L n
  lo : -1 ≤ (low n L).z
  hi : (low n L).z < L.length
theorem y3z {n : Nat} {L : List zb} (h1 : 1 ≤ n) (hL : ∀ b ∈ L, okBd n b) : ybh n L := by
  obtain ⟨i1, i2, i3, i4⟩ := zxu hL n 0 ⟨List.replicate n 0, List.replicate n (-1), -1⟩ (by simp) (yai n)
  have hn : n ≠ 0 := by omega
  refine ⟨i1, fun h => (i2 (fun _ => .inl hn) (fun _ => hn) h).1, fun h => (i2 (fun _ => .inl hn) (fun _ => hn) h).2, fun h => ?_, (i4 hn).1, (i4 hn).2⟩
  rcases i3 h hn with h | h
  · exact h
  · omega
/-- The solution breaks no zbr. -/
theorem y5p {n : Nat} {L : List zb} (h1 : 1 ≤ n) (hL : ∀ b ∈ L, okBd n b) (hz : (low n L).z < 0) {b : zb} (hb : b ∈ L) : gt (low n L).x b.j - gt (low n L).x b.i ≤ b.w := by
  have h := y3z h1 hL
  obtain ⟨a1, a2, a3, a4, _, _⟩ := hL b hb
  obtain ⟨d, hd, hl⟩ := (h.fix hz).le hb (zzt a1 (by rw [h.len]; exact a2))
  have e : xf (low n L).x (bJ b) = some (gt (low n L).x b.j) := zzt a3 (by rw [h.len]; exact a4)
  rw [e] at hd
  cases hd
  unfold bW at hl
  omega
theorem y6h {n : Nat} {L : List zb} (hL : ∀ b ∈ L, okBd n b) (p : Int → Int) (hp : ∀ b ∈ L, p b.j - p b.i ≤ b.w) : BF.Feas bI bJ bW (xz n) L n := by
  refine ⟨⟨fun v => p (v : Int), ((List.range n).map fun (v : Nat) => p (v : Int)).foldl max 0, fun b hb => ?_, fun v c h => ?_⟩, fun b hb => ?_, fun v c h => ?_⟩
  · obtain ⟨a1, a2, a3, a4, _, _⟩ := hL b hb
    have := hp b hb
    show p ((bJ b : Nat) : Int) ≤ p ((bI b : Nat) : Int) + bW b
    unfold bI bJ bW
    rw [show ((b.j.toNat : Nat) : Int) = b.j by omega, show ((b.i.toNat : Nat) : Int) = b.i by omega]
    omega
  · unfold xz at h
    split at h
    · rename_i hv
      cases h
      have key : ∀ (l : List Int) (m x : Int), (x ∈ l → x ≤ l.foldl max m) ∧ m ≤ l.foldl max m := by
        intro l
        induction l with
        | nil => intro m x; exact ⟨fun h => by simp at h, Int.le_refl _⟩
        | cons y l ih =>
          intro m x
          have h1 := ih (max m y) x
          have h2 := ih (max m y) y
          refine ⟨fun h => ?_, ?_⟩
          · rcases List.mem_cons.1 h with rfl | h
            · simp only [List.foldl_cons]; omega
            · exact h1.1 h
          · simp only [List.foldl_cons]; omega
      have := (key ((List.range n).map fun (v : Nat) => p (v : Int)) 0 (p (v : Int))).1 (List.mem_map.2 ⟨v, List.mem_range.2 hv, rfl⟩)
      show p (v : Int) - 0 ≤ _
      omega
    · cases h
  · obtain ⟨a1, a2, a3, a4, _, _⟩ := hL b hb
    unfold bJ; omega
  · unfold xz at h
    split at h
    · assumption
    · cases h
/-- Where there is a solution the solver ends. -/
theorem y2h {n : Nat} {L : List zb} (h1 : 1 ≤ n) (hL : ∀ b ∈ L, okBd n b) (p : Int → Int) (hp : ∀ b ∈ L, p b.j - p b.i ≤ b.w) : (low n L).z < 0 := by
  by_cases hz : (low n L).z < 0
  · exact hz
  · exact absurd (y6h hL p hp) ((y3z h1 hL).cyc (by omega))
end Px
end
section
namespace Px
open Go
set_option linter.unusedVariables false
set_option linter.unusedSimpArgs false
/-- A zbr forwards, or backwards. -/
def bdI (r : Bool) (b : zb) : Int := if r = true then b.j else b.i
def bdJ (r : Bool) (b : zb) : Int := if r = true then b.i else b.j
def nI (r : Bool) (b : zb) : Nat := (bdI r b).toNat
def nJ (r : Bool) (b : zb) : Nat := (bdJ r b).toNat
def SolD (r : Bool) (L : List zb) (p : Int → Int) : Prop := ∀ b ∈ L, p (bdJ r b) - p (bdI r b) ≤ b.w
theorem zfd {n : Nat} {b : zb} (h : okBd n b) (r : Bool) : 0 ≤ bdI r b ∧ bdI r b < (n : Int) ∧ 0 ≤ bdJ r b ∧ bdJ r b < (n : Int) ∧ -1099511627776 ≤ b.w ∧ b.w ≤ 1099511627776 := by
  obtain ⟨a1, a2, a3, a4, a5, a6⟩ := h
  cases r
  · exact ⟨a1, a2, a3, a4, a5, a6⟩
  · exact ⟨a3, a4, a1, a2, a5, a6⟩
theorem zsc {r : Bool} {L : List zb} {p : Int → Int} (h : SolD r L p) : SolD (!r) L fun v => - p v := fun b hb => by
  have := h b hb
  cases r
  · simp only [bdI, bdJ, Bool.not_false, if_true, Bool.false_eq_true, if_false] at this ⊢; omega
  · simp only [bdI, bdJ, Bool.not_true, if_true, Bool.false_eq_true, if_false] at this ⊢; omega
/-- The greatest differences to the variable u. -/
structure zl5 (r : Bool) (L : List zb) (n : Nat) (u : Int) (e : Int → Int) : Prop where
  sat : SolD r L e
  top : ∀ p, SolD r L p → ∀ v, 0 ≤ v → v < (n : Int) → p v - p u ≤ e v
  zero : e u = 0
/-- At the start: one variable. -/
def xs1 (u : Nat) : BF.X := fun v => if v = u then some 0 else none
theorem y8f {r : Bool} {n : Nat} {L : List zb} (hL : ∀ b ∈ L, okBd n b) {p : Int → Int} (hp : SolD r L p) {u : Nat} (hu : u < n) : BF.Feas (nI r) (nJ r) bW (xs1 u) L n := by
  refine ⟨⟨fun v => p (v : Int), p (u : Int), fun b hb => ?_, fun v c h => ?_⟩, fun b hb => ?_, fun v c h => ?_⟩
  · obtain ⟨a1, a2, a3, a4, _, _⟩ := zfd (hL b hb) r
    have := hp b hb
    show p ((nJ r b : Nat) : Int) ≤ p ((nI r b : Nat) : Int) + bW b
    unfold nI nJ bW
    rw [show (((bdJ r b).toNat : Nat) : Int) = bdJ r b by omega, show (((bdI r b).toNat : Nat) : Int) = bdI r b by omega]
    omega
  · unfold xs1 at h
    split at h
    · rename_i e; cases h; subst e; show p (v : Int) - 0 ≤ p (v : Int); omega
    · cases h
  · obtain ⟨a1, a2, a3, a4, _, _⟩ := zfd (hL b hb) r
    unfold nJ; omega
  · unfold xs1 at h
    split at h
    · rename_i e; subst e; exact hu
    · cases h
/-- What stands at the end, where all are reached. -/
theorem zyf {r : Bool} {n : Nat} {L : List zb} (hL : ∀ b ∈ L, okBd n b) {p : Int → Int} (hp : SolD r L p) {u : Nat} (hu : u < n) {x : BF.X} (hf : BF.Fix (nI r) (nJ r) bW L x) (hi : BF.Inv (nI r) (nJ r) bW (xs1 u) L x) (h0 : BF.le (x u) 0)
    (hall : ∀ v, v < n → (x v).isSome = true) : zl5 r L n (u : Int) fun v => (x v.toNat).getD 0 := by
  have low : ∀ q, SolD r L q → ∀ v a, x v = some a → q (v : Int) - q (u : Int) ≤ a := by
    intro q hq v a hv
    obtain ⟨m, hw⟩ := hi v a hv
    have := BF.Wk.low (p := fun v : Nat => q (v : Int)) (C := q (u : Int)) (fun b hb => by
      obtain ⟨a1, a2, a3, a4, _, _⟩ := zfd (hL b hb) r
      have := hq b hb
      show q ((nJ r b : Nat) : Int) ≤ q ((nI r b : Nat) : Int) + bW b
      unfold nI nJ bW
      rw [show (((bdJ r b).toNat : Nat) : Int) = bdJ r b by omega, show (((bdI r b).toNat : Nat) : Int) = bdI r b by omega]
      omega) (fun v c h => by
      unfold xs1 at h
      split at h
      · rename_i e; cases h; subst e; show q (v : Int) - 0 ≤ q (v : Int); omega
      · cases h) hw
    omega
  have at_ : ∀ v : Int, 0 ≤ v → v < (n : Int) → x v.toNat = some ((x v.toNat).getD 0) := fun v h1 h2 => by
    have := hall v.toNat (by omega)
    cases hx : x v.toNat with
    | none => rw [hx] at this; cases this
    | some a => rfl
  refine ⟨fun b hb => ?_, fun q hq v h1 h2 => ?_, ?_⟩
  · obtain ⟨a1, a2, a3, a4, _, _⟩ := zfd (hL b hb) r
    obtain ⟨d, hd, hle⟩ := hf.le hb (at_ _ a1 a2)
    have e := at_ _ a3 a4
    have hd' : x (bdJ r b).toNat = some d := hd
    rw [hd'] at e
    simp only [Option.some.injEq] at e
    rw [hd', Option.getD_some]
    unfold bW at hle
    omega
  · have := low q hq v.toNat _ (at_ v h1 h2)
    rw [show ((v.toNat : Nat) : Int) = v by omega] at this
    exact this
  · obtain ⟨a, ha, hle⟩ := h0
    have := low p hp u a ha
    simp only [Int.toNat_natCast, ha, Option.getD_some]
    omega
/-- All variables are bounded against the first one, on both sides. -/
def Conn (L : List zb) (n : Nat) : Prop := ∀ v : Int, 1 ≤ v → v < (n : Int) → (∃ b ∈ L, b.i = 0 ∧ b.j = v) ∧ ∃ b ∈ L, b.i = v ∧ b.j = 0
theorem Conn.d {L : List zb} {n : Nat} (h : Conn L n) (r : Bool) : ∀ v : Nat, 1 ≤ v → v < n → (∃ b ∈ L, nI r b = 0 ∧ nJ r b = v) ∧ ∃ b ∈ L, nI r b = v ∧ nJ r b = 0 := by
  intro v h1 h2
  obtain ⟨⟨b, hb, b1, b2⟩, c, hc, c1, c2⟩ := h (v : Int) (by omega) (by omega)
  cases r
  · exact ⟨⟨b, hb, by unfold nI bdI; rw [if_neg (by simp), b1]; rfl, by unfold nJ bdJ; rw [if_neg (by simp), b2]; simp⟩, c, hc, by unfold nI bdI; rw [if_neg (by simp), c1]; simp, by unfold nJ bdJ; rw [if_neg (by simp), c2]; rfl⟩
  · exact ⟨⟨c, hc, by unfold nI bdI; rw [if_pos rfl, c2]; rfl, by unfold nJ bdJ; rw [if_pos rfl, c1]; simp⟩, b, hb, by unfold nI bdI; rw [if_pos rfl, b2]; simp, by unfold nJ bdJ; rw [if_pos rfl, b1]; rfl⟩
theorem ybc {r : Bool} {n : Nat} {L : List zb} (hc : Conn L n) {u : Nat} (hu : u < n) {x : BF.X} (hf : BF.Fix (nI r) (nJ r) bW L x) (h0 : BF.le (x u) 0) : ∀ v, v < n → (x v).isSome = true := by
  have z0 : ∃ a, x 0 = some a := by
    by_cases h : u = 0
    · subst h; obtain ⟨a, ha, _⟩ := h0; exact ⟨a, ha⟩
    · obtain ⟨_, b, hb, b1, b2⟩ := hc.d r u (by omega) hu
      obtain ⟨a, ha, _⟩ := h0
      obtain ⟨d, hd, _⟩ := hf.le hb (by rw [b1]; exact ha)
      rw [b2] at hd
      exact ⟨d, hd⟩
  intro v hv
  obtain ⟨a, ha⟩ := z0
  by_cases h : v = 0
  · subst h; rw [ha]; rfl
  · obtain ⟨⟨b, hb, b1, b2⟩, _⟩ := hc.d r v (by omega) hv
    obtain ⟨d, hd, _⟩ := hf.le hb (by rw [b1]; exact ha)
    rw [b2] at hd
    rw [hd]; rfl
/-- The whole: any state reached by rounds in which nothing is lowered any more. -/
theorem zl9 {r : Bool} {n : Nat} {L : List zb} (hL : ∀ b ∈ L, okBd n b) (hc : Conn L n) {p : Int → Int} (hp : SolD r L p) {u : Nat} (hu : u < n) {x : BF.X} (hf : BF.Fix (nI r) (nJ r) bW L x) {k : Nat} (hk : x = BF.rnds (nI r) (nJ r) bW L (xs1 u) k) :
    zl5 r L n (u : Int) (fun v => (x v.toNat).getD 0) ∧ ∀ v, v < n → (x v).isSome = true := by
  have h0 : BF.le (x u) 0 := by
    rw [hk]
    exact BF.rnds_mono L ⟨0, by unfold xs1; rw [if_pos rfl], Int.le_refl _⟩ k
  have hall := ybc hc hu hf h0
  exact ⟨zyf hL hp hu hf (by rw [hk]; exact BF.Inv.rnds k) h0 hall, hall⟩
/-- Values in a list, the great one for those that are not reached. -/
def farN : Int := 1125899906842624
structure DS where
  d : List Int
  c : Bool
def stpD (r : Bool) (b : zb) (s : DS) : DS := if gt s.d (bdI r b) < farN ∧ gt s.d (bdI r b) + b.w < gt s.d (bdJ r b) then ⟨z01 s.d (bdJ r b) (gt s.d (bdI r b) + b.w), true⟩ else s
def rndD (r : Bool) (L : List zb) : Nat → DS → DS
  | 0, s => s
  | m + 1, s => stpD r (gt L (m : Int)) (rndD r L m s)
def runD (r : Bool) (L : List zb) : Nat → DS → DS
  | 0, s => s
  | k + 1, s => if s.c = true then runD r L k (rndD r L L.length ⟨s.d, false⟩) else s
def cntF (d : List Int) : Nat := d.countP fun a => decide (a < farN)
structure DB (n c : Nat) (s : DS) : Prop where
  len : s.d.length = n
  hi : ∀ i : Int, 0 ≤ i → i < (n : Int) → gt s.d i = farN ∨ gt s.d i + 1099511627776 ≤ 1099511627776 * (cntF s.d : Int)
  lo : ∀ i : Int, 0 ≤ i → i < (n : Int) → -(1099511627776 * (c : Int)) ≤ gt s.d i
theorem y7h (d : List Int) : cntF d ≤ d.length := List.countP_le_length
theorem DB.lt {n c : Nat} {s : DS} (h : DB n c s) (hn : n ≤ 512) {i : Int} (h0 : 0 ≤ i) (h1 : i < (n : Int)) : gt s.d i = farN ∨ gt s.d i ≤ 561850441793536 := by
  have := y7h s.d
  rw [h.len] at this
  rcases h.hi i h0 h1 with h | h
  · exact .inl h
  · exact .inr (by omega)
theorem zsn {d : List Int} {i : Int} (h0 : 0 ≤ i) (h1 : i < (d.length : Int)) {v : Int} (hv : v < farN) : cntF (z01 d i v) = if gt d i < farN then cntF d else cntF d + 1 := by
  have hi : i.toNat < d.length := by omega
  have hg : d[i.toNat] = gt d i := by
    have := z5n hi
    rw [show ((i.toNat : Nat) : Int) = i by omega] at this
    exact this.symm
  unfold cntF z01
  rw [List.countP_set hi, hg]
  have hv' : decide (v < farN) = true := by simpa using hv
  rw [if_pos hv']
  by_cases hq : gt d i < farN
  · have : 0 < List.countP (fun a => decide (a < farN)) d := List.countP_pos_iff.2 ⟨gt d i, z1z h0 h1, by simpa using hq⟩
    rw [if_pos (by simpa using hq), if_pos hq]
    omega
  · rw [if_neg (by simpa using hq), if_neg hq]
    omega
theorem DB.up {n c e : Nat} {s : DS} (h : DB n c s) (he : c ≤ e) : DB n e s := ⟨h.len, h.hi, fun i h0 h1 => by have := h.lo i h0 h1; omega⟩
theorem DB.stp {n c : Nat} {s : DS} (h : DB n c s) (hn : n ≤ 512) {b : zb} (hb : okBd n b) (r : Bool) : DB n (c + 1) (stpD r b s) := by
  obtain ⟨a1, a2, a3, a4, a5, a6⟩ := zfd hb r
  unfold stpD
  split
  · rename_i hlt
    obtain ⟨l1, l2⟩ := hlt
    have hx := h.len
    have q1 := h.hi _ a1 a2
    have q2 := h.lt hn a1 a2
    have q3 := h.hi _ a3 a4
    have ql := h.lo _ a1 a2
    have hnew : gt s.d (bdI r b) + b.w < farN := by unfold farN at *; omega
    have hc := zsn (d := s.d) a3 (by rw [hx]; exact a4) hnew
    refine ⟨by rw [z0n]; exact hx, fun k h0 h1 => ?_, fun k h0 h1 => ?_⟩
    · simp only [hc]
      rw [z0d _ _ _ _ a3 (by rw [hx]; exact a4) h0]
      have q4 := h.hi k h0 h1
      by_cases hk : k = bdJ r b
      · rw [if_pos hk]
        right
        by_cases hq : gt s.d (bdJ r b) < farN
        · rw [if_pos hq]; omega
        · rw [if_neg hq]; unfold farN at *; omega
      · rw [if_neg hk]
        rcases q4 with q4 | q4
        · exact .inl q4
        · right
          split <;> omega
    · rw [z0d _ _ _ _ a3 (by rw [hx]; exact a4) h0]
      have q4 := h.lo k h0 h1
      split <;> omega
  · exact h.up (by omega)
theorem DB.rnd {n c : Nat} {s : DS} (h : DB n c s) (hn : n ≤ 512) {L : List zb} (hL : ∀ b ∈ L, okBd n b) (r : Bool) : ∀ m, m ≤ L.length → DB n (c + m) (rndD r L m s)
  | 0, _ => h
  | m + 1, hm => (DB.rnd h hn hL r m (by omega)).stp hn (hL _ (z1z (by omega) (by omega))) r
def xd (d : List Int) : BF.X := fun v => if v < d.length then (if gt d (v : Int) < farN then some (gt d (v : Int)) else none) else none
theorem y5z {d : List Int} {i : Int} (h0 : 0 ≤ i) (h : i < (d.length : Int)) : xd d i.toNat = if gt d i < farN then some (gt d i) else none := by
  unfold xd
  rw [if_pos (by omega), show ((i.toNat : Nat) : Int) = i by omega]
theorem zz0 {n c : Nat} (hn : n ≤ 512) {s : DS} (hB : DB n c s) {b : zb} (hb : okBd n b) (r : Bool) :
    xd (stpD r b s).d = BF.rlx (nI r) (nJ r) bW (xd s.d) b ∧ (BF.imp (nI r) (nJ r) bW (xd s.d) b = true → (stpD r b s).c = true) ∧ (BF.imp (nI r) (nJ r) bW (xd s.d) b = false → stpD r b s = s) := by
  obtain ⟨a1, a2, a3, a4, a5, a6⟩ := zfd hb r
  have hx := hB.len
  have e1 : xd s.d (nI r b) = _ := y5z a1 (by rw [hx]; exact a2)
  have e2 : xd s.d (nJ r b) = _ := y5z a3 (by rw [hx]; exact a4)
  have q1 := hB.lt hn a1 a2
  have q2 := hB.lt hn a3 a4
  have ei : BF.imp (nI r) (nJ r) bW (xd s.d) b = decide (gt s.d (bdI r b) < farN ∧ gt s.d (bdI r b) + b.w < gt s.d (bdJ r b)) := by
    unfold BF.imp
    rw [e1, e2]
    by_cases h1 : gt s.d (bdI r b) < farN
    · rw [if_pos h1]
      by_cases h2 : gt s.d (bdJ r b) < farN
      · rw [if_pos h2]
        exact decide_eq_decide.2 ⟨fun h => ⟨h1, h⟩, fun h => h.2⟩
      · rw [if_neg h2]
        have : gt s.d (bdI r b) + b.w < gt s.d (bdJ r b) := by unfold farN at *; omega
        simp [BF.ltO, h1, this]
    · rw [if_neg h1]; simp [h1]
  by_cases h : gt s.d (bdI r b) < farN ∧ gt s.d (bdI r b) + b.w < gt s.d (bdJ r b)
  · have er := ei
    rw [decide_eq_true h] at er
    obtain ⟨a, ha, hlt, hr⟩ := BF.rlx_imp er
    rw [e1, if_pos h.1, Option.some.injEq] at ha
    subst ha
    unfold stpD
    rw [if_pos h]
    refine ⟨?_, fun _ => rfl, fun q => (by rw [er] at q; cases q)⟩
    rw [hr]
    funext v
    unfold xd
    simp only [z0n]
    by_cases hv : v < s.d.length
    · rw [if_pos hv, if_pos hv, z0d _ _ _ _ a3 (by rw [hx]; exact a4) (by omega)]
      by_cases e : v = nJ r b
      · have e' : (v : Int) = bdJ r b := by unfold nJ at e; omega
        have hnew : gt s.d (bdI r b) + b.w < farN := by unfold farN at *; omega
        rw [if_pos e, if_pos e', if_pos hnew]; rfl
      · have e' : ¬ (v : Int) = bdJ r b := by unfold nJ at e; omega
        rw [if_neg e, if_neg e']
    · rw [if_neg hv, if_neg hv, if_neg (fun e => hv (by rw [hx, e]; unfold nJ; omega))]
  · have er := ei
    rw [decide_eq_false h] at er
    unfold stpD
    rw [if_neg h]
    exact ⟨(BF.rlx_not er).symm, fun q => (by rw [er] at q; cases q), fun _ => rfl⟩
theorem zxe {n c : Nat} (hn : n ≤ 512) {s : DS} (hB : DB n c s) {L : List zb} (hL : ∀ b ∈ L, okBd n b) (r : Bool) : ∀ m, m ≤ L.length → xd (rndD r L m s).d = (L.take m).foldl (BF.rlx (nI r) (nJ r) bW) (xd s.d)
  | 0, _ => rfl
  | m + 1, hm => by
    have ih := zxe hn hB hL r m (by omega)
    rw [z0g L m (by omega), List.foldl_append, ← ih]
    exact (zz0 hn (hB.rnd hn hL r m (by omega)) (hL _ (z1z (by omega) (by omega))) r).1
theorem y4d {n c : Nat} (hn : n ≤ 512) {s : DS} (hB : DB n c s) {L : List zb} (hL : ∀ b ∈ L, okBd n b) (r : Bool) (hc : s.c = false) : ∀ m, m ≤ L.length → (rndD r L m s).c = false → rndD r L m s = s ∧ ∀ k : Nat, k < m → BF.imp (nI r) (nJ r) bW (xd s.d) (gt L (k : Int)) = false
  | 0, _, _ => ⟨rfl, fun k hk => by omega⟩
  | m + 1, hm, h => by
    obtain ⟨q1, q2, q3⟩ := zz0 hn (hB.rnd hn hL r m (by omega)) (hL _ (z1z (l := L) (i := (m : Int)) (by omega) (by omega))) r
    change (stpD r (gt L (m : Int)) (rndD r L m s)).c = false at h
    cases hi : BF.imp (nI r) (nJ r) bW (xd (rndD r L m s).d) (gt L (m : Int)) with
    | true => rw [q2 hi] at h; cases h
    | false =>
      have e := q3 hi
      rw [e] at h
      obtain ⟨e2, h4⟩ := y4d hn hB hL r hc m (by omega) h
      refine ⟨by change stpD r (gt L (m : Int)) (rndD r L m s) = s; rw [e, e2], fun k hk => ?_⟩
      by_cases hkm : k = m
      · subst hkm; rw [e2] at hi; exact hi
      · exact h4 k (by omega)
theorem zxw {r : Bool} {n : Nat} (hn : n ≤ 512) {L : List zb} (hL : ∀ b ∈ L, okBd n b) {x0 : BF.X} (F : BF.Feas (nI r) (nJ r) bW x0 L n) : ∀ (f k c : Nat) (s : DS), DB n c s → xd s.d = BF.rnds (nI r) (nJ r) bW L x0 k → (s.c = false → BF.Fix (nI r) (nJ r) bW L (xd s.d)) → n ≤ k + f →
    (runD r L f s).d.length = n ∧ BF.Fix (nI r) (nJ r) bW L (xd (runD r L f s).d) ∧ (∃ k', xd (runD r L f s).d = BF.rnds (nI r) (nJ r) bW L x0 k') ∧ DB n (c + f * L.length) (runD r L f s)
  | 0, k, c, s, hB, hx, hc, hk => by
    refine ⟨hB.len, fun b hb => ?_, ⟨k, hx⟩, hB.up (by omega)⟩
    have := BF.done F (k := k) (by omega) b hb
    rw [← hx] at this
    exact this
  | f + 1, k, c, s, hB, hx, hc, hk => by
    unfold runD
    split
    · have hB1 : DB n c ⟨s.d, false⟩ := ⟨hB.len, hB.hi, hB.lo⟩
      have hr := zxe hn hB1 hL r L.length (Nat.le_refl _)
      rw [List.take_length] at hr
      have hr2 : xd (rndD r L L.length ⟨s.d, false⟩).d = BF.rnds (nI r) (nJ r) bW L x0 (k + 1) := by
        rw [hr, show xd (DS.mk s.d false).d = _ from hx]; rfl
      have := zxw hn hL F f (k + 1) (c + L.length) _ (hB1.rnd hn hL r L.length (Nat.le_refl _)) hr2 (fun h => by
        obtain ⟨e1, e2⟩ := y4d hn hB1 hL r rfl L.length (Nat.le_refl _) h
        intro b hb
        rw [e1]
        obtain ⟨i, hi, rfl⟩ := zoi hb
        exact e2 i hi) (by omega)
      refine ⟨this.1, this.2.1, this.2.2.1, this.2.2.2.up ?_⟩
      rw [Nat.add_mul, Nat.one_mul]; omega
    · rename_i h
      exact ⟨hB.len, hc (by cases hq : s.c with | true => exact absurd hq h | false => rfl), ⟨k, hx⟩, hB.up (by omega)⟩
def d0 (n : Nat) (u : Int) : List Int := z01 (List.replicate n farN) u 0
theorem y0a {n : Nat} {u i : Int} (hu : 0 ≤ u) (hu' : u < (n : Int)) (h0 : 0 ≤ i) (h1 : i < (n : Int)) : gt (d0 n u) i = if i = u then 0 else farN := by
  unfold d0
  rw [z0d _ _ _ _ hu (by simpa using hu') h0, z1e _ _ _ h0 h1]
theorem zwy (n : Nat) (u : Int) : (d0 n u).length = n := by simp [d0, z0n]
theorem yay {n : Nat} {u : Int} (hu : 0 ≤ u) (hu' : u < (n : Int)) : xd (d0 n u) = xs1 u.toNat := by
  funext v
  unfold xd xs1
  rw [zwy]
  by_cases hv : v < n
  · rw [if_pos hv, y0a hu hu' (by omega) (by omega)]
    by_cases e : (v : Int) = u
    · rw [if_pos e, if_pos (by omega : v = u.toNat), if_pos (by decide)]
    · rw [if_neg e, if_neg (by omega : ¬ v = u.toNat), if_neg (by decide)]
  · rw [if_neg hv, if_neg (by omega)]
theorem y5f {n : Nat} {u : Int} (hu : 0 ≤ u) (hu' : u < (n : Int)) : DB n 0 ⟨d0 n u, true⟩ := by
  have hc : cntF (d0 n u) = 1 := by
    unfold d0
    rw [zsn hu (by simpa using hu') (by decide), z1e _ _ _ hu hu', if_neg (by decide)]
    have : cntF (List.replicate n farN) = 0 := List.countP_eq_zero.2 fun a ha => by
      rw [List.mem_replicate] at ha
      rw [ha.2]; decide
    rw [this]
  refine ⟨zwy n u, fun i h0 h1 => ?_, fun i h0 h1 => ?_⟩
  · simp only [hc]
    rw [y0a hu hu' h0 h1]
    split
    · right; omega
    · left; rfl
  · simp only
    rw [y0a hu hu' h0 h1]
    split
    · omega
    · unfold farN; omega
/-- The greatest differences, as the program finds them. -/
theorem zln {r : Bool} {n : Nat} (hn : n ≤ 512) {L : List zb} (hL : ∀ b ∈ L, okBd n b) (hc : Conn L n) {p : Int → Int} (hp : SolD r L p) {u : Int} (hu : 0 ≤ u) (hu' : u < (n : Int)) :
    (runD r L n ⟨d0 n u, true⟩).d.length = n ∧ zl5 r L n u (gt (runD r L n ⟨d0 n u, true⟩).d) := by
  have F := y8f hL hp (u := u.toNat) (by omega)
  obtain ⟨h1, h2, ⟨k, h3⟩, h4⟩ := zxw hn hL F n 0 0 ⟨d0 n u, true⟩ (y5f hu hu') (yay hu hu') (fun h => by cases h) (by omega)
  obtain ⟨g1, g2⟩ := zl9 hL hc hp (u := u.toNat) (by omega) h2 h3
  refine ⟨h1, ?_⟩
  have key : ∀ v : Int, 0 ≤ v → v < (n : Int) → ((xd (runD r L n ⟨d0 n u, true⟩).d) v.toNat).getD 0 = gt (runD r L n ⟨d0 n u, true⟩).d v := fun v q0 q1 => by
    have := g2 v.toNat (by omega)
    have e := y5z (d := (runD r L n ⟨d0 n u, true⟩).d) q0 (by rw [h1]; exact q1)
    rw [e] at this ⊢
    split
    · rfl
    · rename_i hq; rw [if_neg hq] at this; cases this
  rw [show ((u.toNat : Nat) : Int) = u by omega] at g1
  refine ⟨fun b hb => ?_, fun q hq v v0 v1 => ?_, ?_⟩
  · obtain ⟨a1, a2, a3, a4, _, _⟩ := zfd (hL b hb) r
    have := g1.sat b hb
    rw [key _ a1 a2, key _ a3 a4] at this
    exact this
  · have := g1.top q hq v v0 v1
    rw [key _ v0 v1] at this
    exact this
  · have := g1.zero
    rw [key _ hu hu'] at this
    exact this
end Px
end
section
namespace Px
open Go
set_option linter.unusedVariables false
set_option linter.unusedSimpArgs false
structure TS where
  d : List Int
  kn : List Bool
  z : Int
def stpT (b : zb) (i : Int) (s : TS) : TS := if (!(gt s.kn b.i) || ((gt s.kn b.j) && decide (gt s.d b.j ≤ gt s.d b.i + b.w))) = true then s else ⟨z01 s.d b.j (gt s.d b.i + b.w), z01 s.kn b.j true, i⟩
def rndT (L : List zb) : Nat → TS → TS
  | 0, s => s
  | m + 1, s => stpT (gt L (m : Int)) m (rndT L m s)
def runT (L : List zb) : Nat → TS → TS
  | 0, s => s
  | k + 1, s => if (rndT L L.length ⟨s.d, s.kn, -1⟩).z < 0 then rndT L L.length ⟨s.d, s.kn, -1⟩ else runT L k (rndT L L.length ⟨s.d, s.kn, -1⟩)
structure TiB (n c : Nat) (s : TS) : Prop where
  ld : s.d.length = n
  lk : s.kn.length = n
  bd : ∀ i : Int, 0 ≤ i → i < (n : Int) → -(1099511627776 * (c : Int)) ≤ gt s.d i ∧ gt s.d i ≤ 1099511627776 * (c : Int)
theorem TiB.up {n c e : Nat} {s : TS} (h : TiB n c s) (he : c ≤ e) : TiB n e s := ⟨h.ld, h.lk, fun i h0 h1 => by have := h.bd i h0 h1; omega⟩
theorem TiB.stp {n c : Nat} {s : TS} (h : TiB n c s) {b : zb} (hb : okBd n b) (i : Int) : TiB n (c + 1) (stpT b i s) := by
  obtain ⟨a1, a2, a3, a4, a5, a6⟩ := hb
  unfold stpT
  split
  · exact h.up (by omega)
  · refine ⟨by rw [z0n]; exact h.ld, by rw [z0n]; exact h.lk, fun k h0 h1 => ?_⟩
    have q1 := h.bd b.i a1 a2
    have q2 := h.bd k h0 h1
    rw [z0d _ _ _ _ a3 (by rw [h.ld]; exact a4) h0]
    split <;> omega
theorem TiB.rnd {n c : Nat} {s : TS} (h : TiB n c s) {L : List zb} (hL : ∀ b ∈ L, okBd n b) : ∀ m, m ≤ L.length → TiB n (c + m) (rndT L m s)
  | 0, _ => h
  | m + 1, hm => (TiB.rnd h hL m (by omega)).stp (hL _ (z1z (by omega) (by omega))) m
def xk (s : TS) : BF.X := fun v => if v < s.d.length then (if gt s.kn (v : Int) = true then some (gt s.d (v : Int)) else none) else none
theorem y0e {s : TS} {i : Int} (h0 : 0 ≤ i) (h : i < (s.d.length : Int)) : xk s i.toNat = if gt s.kn i = true then some (gt s.d i) else none := by
  unfold xk
  rw [if_pos (by omega), show ((i.toNat : Nat) : Int) = i by omega]
theorem zx8 {n c : Nat} {s : TS} (hB : TiB n c s) {b : zb} (hb : okBd n b) (i : Int) :
    xk (stpT b i s) = BF.rlx (nI false) (nJ false) bW (xk s) b ∧ (BF.imp (nI false) (nJ false) bW (xk s) b = true → (stpT b i s).z = i) ∧ (BF.imp (nI false) (nJ false) bW (xk s) b = false → stpT b i s = s) := by
  have hb2 := hb
  obtain ⟨a1, a2, a3, a4, a5, a6⟩ := hb
  have hx := hB.ld
  have e1 : xk s (nI false b) = _ := y0e (i := b.i) a1 (by rw [hx]; exact a2)
  have e2 : xk s (nJ false b) = _ := y0e (i := b.j) a3 (by rw [hx]; exact a4)
  have ei : BF.imp (nI false) (nJ false) bW (xk s) b = !(!(gt s.kn b.i) || ((gt s.kn b.j) && decide (gt s.d b.j ≤ gt s.d b.i + b.w))) := by
    unfold BF.imp
    rw [e1, e2]
    cases h1 : gt s.kn b.i with
    | false => rfl
    | true =>
      cases h2 : gt s.kn b.j with
      | false => simp [BF.ltO]
      | true =>
        simp only [if_true]
        show decide (gt s.d b.i + b.w < gt s.d b.j) = !(decide (gt s.d b.j ≤ gt s.d b.i + b.w))
        rw [← decide_not]
        exact decide_eq_decide.2 (by omega)
  cases h : (!(gt s.kn b.i) || ((gt s.kn b.j) && decide (gt s.d b.j ≤ gt s.d b.i + b.w))) with
  | true =>
    rw [h] at ei
    unfold stpT
    rw [if_pos h]
    exact ⟨(BF.rlx_not ei).symm, fun q => (by rw [ei] at q; cases q), fun _ => rfl⟩
  | false =>
    rw [h] at ei
    obtain ⟨a, ha, hlt, hr⟩ := BF.rlx_imp ei
    have hki : gt s.kn b.i = true := by
      cases hk : gt s.kn b.i with
      | true => rfl
      | false => rw [hk] at h; cases h
    rw [e1, if_pos hki, Option.some.injEq] at ha
    subst ha
    unfold stpT
    rw [if_neg (by rw [h]; simp)]
    refine ⟨?_, fun _ => rfl, fun q => (by rw [ei] at q; cases q)⟩
    rw [hr]
    funext v
    unfold xk
    simp only [z0n]
    by_cases hv : v < s.d.length
    · rw [if_pos hv, if_pos hv, z0d s.kn _ _ _ a3 (by rw [hB.lk]; exact a4) (by omega), z0d s.d _ _ _ a3 (by rw [hx]; exact a4) (by omega)]
      by_cases e : v = nJ false b
      · have e' : (v : Int) = b.j := by unfold nJ bdJ at e; simp at e; omega
        rw [if_pos e, if_pos e', if_pos e', if_pos rfl]; rfl
      · have e' : ¬ (v : Int) = b.j := by unfold nJ bdJ at e; simp at e; omega
        rw [if_neg e, if_neg e', if_neg e']
    · rw [if_neg hv, if_neg hv, if_neg (fun e => hv (by rw [hx, e]; unfold nJ bdJ; simp; omega))]
theorem zwf {n c : Nat} {s : TS} (hB : TiB n c s) {L : List zb} (hL : ∀ b ∈ L, okBd n b) : ∀ m, m ≤ L.length → xk (rndT L m s) = (L.take m).foldl (BF.rlx (nI false) (nJ false) bW) (xk s)
  | 0, _ => rfl
  | m + 1, hm => by
    have ih := zwf hB hL m (by omega)
    rw [z0g L m (by omega), List.foldl_append, ← ih]
    exact (zx8 (hB.rnd hL m (by omega)) (hL _ (z1z (by omega) (by omega))) m).1
theorem y4h {n c : Nat} {s : TS} (hB : TiB n c s) {L : List zb} (hL : ∀ b ∈ L, okBd n b) : ∀ m, m ≤ L.length → (rndT L m s).z < 0 → rndT L m s = s ∧ ∀ k : Nat, k < m → BF.imp (nI false) (nJ false) bW (xk s) (gt L (k : Int)) = false
  | 0, _, _ => ⟨rfl, fun k hk => by omega⟩
  | m + 1, hm, h => by
    obtain ⟨q1, q2, q3⟩ := zx8 (hB.rnd hL m (by omega)) (hL _ (z1z (l := L) (i := (m : Int)) (by omega) (by omega))) m
    change (stpT (gt L (m : Int)) m (rndT L m s)).z < 0 at h
    cases hi : BF.imp (nI false) (nJ false) bW (xk (rndT L m s)) (gt L (m : Int)) with
    | true => rw [q2 hi] at h; omega
    | false =>
      have e := q3 hi
      rw [e] at h
      obtain ⟨e2, h4⟩ := y4h hB hL m (by omega) h
      refine ⟨by change stpT (gt L (m : Int)) m (rndT L m s) = s; rw [e, e2], fun k hk => ?_⟩
      by_cases hkm : k = m
      · subst hkm; rw [e2] at hi; exact hi
      · exact h4 k (by omega)
theorem zqo {n : Nat} {L : List zb} (hL : ∀ b ∈ L, okBd n b) {x0 : BF.X} (F : BF.Feas (nI false) (nJ false) bW x0 L n) : ∀ (f k c : Nat) (s : TS), TiB n c s → xk s = BF.rnds (nI false) (nJ false) bW L x0 k → n ≤ k + f →
    TiB n (c + f * L.length) (runT L f s) ∧ BF.Fix (nI false) (nJ false) bW L (xk (runT L f s)) ∧ ∃ k', xk (runT L f s) = BF.rnds (nI false) (nJ false) bW L x0 k'
  | 0, k, c, s, hB, hx, hk => by
    refine ⟨hB.up (by omega), fun b hb => ?_, k, hx⟩
    have := BF.done F (k := k) (by omega) b hb
    rw [← hx] at this
    exact this
  | f + 1, k, c, s, hB, hx, hk => by
    have hB1 : TiB n c ⟨s.d, s.kn, -1⟩ := ⟨hB.ld, hB.lk, hB.bd⟩
    have hr := zwf hB1 hL L.length (Nat.le_refl _)
    rw [List.take_length] at hr
    have hr2 : xk (rndT L L.length ⟨s.d, s.kn, -1⟩) = BF.rnds (nI false) (nJ false) bW L x0 (k + 1) := by
      rw [hr, show xk (TS.mk s.d s.kn (-1)) = _ from hx]; rfl
    have hB2 := hB1.rnd hL L.length (Nat.le_refl _)
    unfold runT
    split
    · rename_i hz
      obtain ⟨e1, e2⟩ := y4h hB1 hL L.length (Nat.le_refl _) hz
      refine ⟨hB2.up (by rw [Nat.add_mul, Nat.one_mul]; omega), fun b hb => ?_, k + 1, hr2⟩
      rw [e1]
      obtain ⟨i, hi, rfl⟩ := zoi hb
      exact e2 i hi
    · have := zqo hL F f (k + 1) (c + L.length) _ hB2 hr2 (by omega)
      exact ⟨this.1.up (by rw [Nat.add_mul, Nat.one_mul]; omega), this.2⟩
def t0 (n : Nat) (u : Int) : TS := ⟨List.replicate n 0, z01 (List.replicate n false) u true, -1⟩
theorem y7x {n : Nat} {u : Int} : TiB n 0 (t0 n u) := ⟨by simp [t0], by simp [t0, z0n], fun i h0 h1 => by rw [show gt (t0 n u).d i = 0 from z1e n 0 i h0 h1]; omega⟩
theorem ya9 {n : Nat} {u : Int} (hu : 0 ≤ u) (hu' : u < (n : Int)) : xk (t0 n u) = xs1 u.toNat := by
  funext v
  unfold xk xs1 t0
  simp only [List.length_replicate]
  by_cases hv : v < n
  · rw [if_pos hv, z0d _ _ _ _ hu (by simpa using hu') (by omega), z1e _ _ _ (by omega) (by omega), z1e _ _ _ (by omega) (by omega)]
    by_cases e : (v : Int) = u
    · rw [if_pos e, if_pos (by omega : v = u.toNat), if_pos rfl]
    · rw [if_neg e, if_neg (by omega : ¬ v = u.toNat), if_neg (by simp)]
  · rw [if_neg hv, if_neg (by omega)]
/-- What Tight finds, where all variables are bounded against the first one. -/
theorem zum {n : Nat} {L : List zb} (hL : ∀ b ∈ L, okBd n b) (hc : Conn L n) {p : Int → Int} (hp : SolD false L p) {u : Int} (hu : 0 ≤ u) (hu' : u < (n : Int)) :
    (runT L n (t0 n u)).d.length = n ∧ (runT L n (t0 n u)).kn.length = n ∧ zl5 false L n u (gt (runT L n (t0 n u)).d) ∧ ∀ v : Int, 0 ≤ v → v < (n : Int) → gt (runT L n (t0 n u)).kn v = true := by
  have F := y8f hL hp (u := u.toNat) (by omega)
  obtain ⟨h1, h2, k, h3⟩ := zqo hL F n 0 0 (t0 n u) y7x (ya9 hu hu') (by omega)
  obtain ⟨g1, g2⟩ := zl9 hL hc hp (u := u.toNat) (by omega) h2 h3
  have kn : ∀ v : Int, 0 ≤ v → v < (n : Int) → gt (runT L n (t0 n u)).kn v = true := fun v q0 q1 => by
    have := g2 v.toNat (by omega)
    rw [y0e q0 (by rw [h1.ld]; exact q1)] at this
    split at this
    · assumption
    · cases this
  have key : ∀ v : Int, 0 ≤ v → v < (n : Int) → (xk (runT L n (t0 n u)) v.toNat).getD 0 = gt (runT L n (t0 n u)).d v := fun v q0 q1 => by
    rw [y0e q0 (by rw [h1.ld]; exact q1), if_pos (kn v q0 q1)]; rfl
  rw [show ((u.toNat : Nat) : Int) = u by omega] at g1
  refine ⟨h1.ld, h1.lk, ⟨fun b hb => ?_, fun q hq v v0 v1 => ?_, ?_⟩, kn⟩
  · obtain ⟨a1, a2, a3, a4, _, _⟩ := zfd (hL b hb) false
    have := g1.sat b hb
    rw [key _ a1 a2, key _ a3 a4] at this
    exact this
  · have := g1.top q hq v v0 v1
    rw [key _ v0 v1] at this
    exact this
  · have := g1.zero
    rw [key _ hu hu'] at this
    exact this
end Px
end
section
namespace Px
open Go
set_option linter.unusedVariables false
set_option linter.unusedSimpArgs false
set_option maxHeartbeats 4000000
def zyo (fit : Bool) (x : Part) : Bool := !(((((decide ((x.kind : Int) < 1)) || (decide ((3 : Int) < x.kind))) || (decide ((x.serial : Int) < 0))) || (decide ((1073741824 : Int) < x.serial))) || (x.fitted && (!fit)))
theorem zae (φ : Nat) (l : List Part) (fit : Bool) (h : l.length ≤ 1000) (hφ : 1000 < φ) : zc5 φ l fit = some (l.all (zyo fit) && decide ((l.length : Int) ≤ 16), ()) := by
  unfold zc5
  rw [zih (fun n i => z5o φ n l fit l (l.length : Int) i) (some (decide ((l.length : Int) ≤ 16), ())) (some (false, ())) l (fun x => !zyo fit x) ?_ ?_ φ (by omega)]
  · simp only [List.any_eq_not_all_not, Bool.not_not]
    cases l.all (zyo fit) <;> rfl
  · intro n i hi
    rw [z5o, if_pos (by simp; omega), z7 ⟨by omega, by omega⟩, W_id (by omega) (by omega)]
    show _ = bif !!_ then _ else _
    rw [Bool.not_not]
    cases (((((decide (((gt l i).kind : Int) < 1)) || (decide ((3 : Int) < (gt l i).kind))) || (decide (((gt l i).serial : Int) < 0))) || (decide ((1073741824 : Int) < (gt l i).serial))) || ((gt l i).fitted && (!fit))) <;> rfl
  · intro n; rw [z5o, if_neg (by simp)]
/-- What is known of a valid item. -/
structure zph (p : Pool) (it : Item) : Prop where
  kind : 1 ≤ it.kind ∧ it.kind ≤ 15
  wagon : it.kind ≤ 9 → 0 ≤ it.wagon ∧ it.wagon < (p.fleet.wagons.length : Int)
  read : it.kind = 1 → 0 ≤ it.other ∧ it.other < (p.readers.length : Int)
  place : it.kind = 2 ∨ it.kind = 3 ∨ it.kind = 4 ∨ it.kind = 6 ∨ it.kind = 7 ∨ it.kind = 9 → 0 ≤ it.place ∧ it.place < (p.network.places.length : Int)
  from_ : it.kind ≤ 9 → 0 ≤ it.from_ ∧ it.from_ ≤ 1073741824
  to : it.kind = 2 ∨ it.kind = 9 → it.from_ ≤ it.to ∧ it.to ≤ 1073741824
theorem zsa {ρ : Type} (c q : Bool) (K : Bool → Option ρ) : ((z0i (default, ()) (c = true) (some (q, ()))).bind fun y => K (c && y.1)) = K (c && q) := by
  unfold z0i
  cases c <;> rfl
theorem zvj (p : Pool) (it : Item) (hparts : it.parts.length ≤ 1000) (hw : p.fleet.wagons.length ≤ 4096) (hr : p.readers.length ≤ 256) (hs : p.shippers.length ≤ 256) (hpl : p.network.places.length ≤ 512) (ht : p.fleet.types.length ≤ 32) :
    ∃ b, (∀ φ, 1000 < φ → z2e φ p it = some (b, ())) ∧ (b = true → zph p it) := by
  have w1 : W ((p.fleet.wagons.length : Int) - 1) = (p.fleet.wagons.length : Int) - 1 := W_id (by omega) (by omega)
  have w2 : W ((p.readers.length : Int) - 1) = (p.readers.length : Int) - 1 := W_id (by omega) (by omega)
  have w3 : W ((p.shippers.length : Int) - 1) = (p.shippers.length : Int) - 1 := W_id (by omega) (by omega)
  have w4 : W ((p.network.places.length : Int) - 1) = (p.network.places.length : Int) - 1 := W_id (by omega) (by omega)
  have w5 : W ((p.fleet.types.length : Int) - 1) = (p.fleet.types.length : Int) - 1 := W_id (by omega) (by omega)
  have hm : ∀ x z : Int, max2 x 0 ≤ z ↔ x ≤ z ∧ 0 ≤ z := by intro x z; unfold max2; split <;> omega
  by_cases hk0 : it.kind < 1
  · refine ⟨false, fun φ hφ => ?_, fun h => by cases h⟩
    unfold z2e zg
    rw [if_pos (by simp; omega), if_pos (by simpa using hk0)]
    simp
  by_cases hk16 : 15 < it.kind
  · refine ⟨false, fun φ hφ => ?_, fun h => by cases h⟩
    have e : ∀ k : Int, k ≤ 15 → (it.kind == k) = false := fun k hk => by simp; omega
    unfold z2e
    rw [if_neg (by simp; omega)]
    simp [e, z31, zg]
  have hcases : it.kind = 1 ∨ it.kind = 2 ∨ it.kind = 3 ∨ it.kind = 4 ∨ it.kind = 5 ∨ it.kind = 6 ∨ it.kind = 7 ∨ it.kind = 8 ∨ it.kind = 9 ∨ it.kind = 10 ∨ it.kind = 11 ∨ it.kind = 12 ∨ it.kind = 13 ∨ it.kind = 14 ∨ it.kind = 15 := by omega
  by_cases hin : 0 ≤ it.place ∧ it.place < (p.network.places.length : Int)
  · have e1 : (decide ((0 : Int) ≤ it.place) && decide ((it.place : Int) < (p.network.places.length : Int))) = true := by simp [hin]
    rcases hcases with hk | hk | hk | hk | hk | hk | hk | hk | hk | hk | hk | hk | hk | hk | hk
    case inr.inr.inr.inr.inr.inr.inr.inr.inl =>
      refine ⟨_, fun φ hφ => by
        unfold z2e
        simp only [hk, e1, z4x, z7 hin, w1, w2, w3, w4, w5, zae φ _ _ hparts hφ, Option.bind_some, Int.reduceLE, Int.reduceLT, Int.reduceBEq, decide_true, decide_false, if_true, Bool.false_eq_true, if_false]
        refine (zsa _ _ (fun b => zg φ ⟨_, _, b⟩)).trans ?_
        unfold zg
        rfl, fun hb => ?_⟩
      simp only [Bool.and_eq_true, decide_eq_true_eq, hm, beq_iff_eq, bne_iff_ne, ne_eq, Bool.or_eq_true] at hb
      constructor <;> omega
    case inr.inr.inr.inr.inr.inr.inr.inr.inr.inl =>
      refine ⟨_, fun φ hφ => by
        unfold z2e
        simp only [hk, e1, z7 hin, w1, w2, w3, w4, w5, zae φ _ _ hparts hφ, Option.bind_some, Int.reduceLE, Int.reduceLT, Int.reduceBEq, decide_true, decide_false, if_true, Bool.false_eq_true, if_false]
        refine (zsa _ _ (fun b => zg φ ⟨_, _, b⟩)).trans ?_
        unfold zg
        rfl, fun hb => ?_⟩
      constructor <;> omega
    all_goals
      refine ⟨_, fun φ hφ => by
        unfold z2e
        simp only [hk, e1, z6h, z4p, z4l, z52, z4t, z4v, z31, z4o, zg, z7 hin, w1, w2, w3, w4, w5, Option.bind_some, Int.reduceLE, Int.reduceLT, Int.reduceBEq, Int.reduceBNe, Int.reduceNe, decide_true, decide_false, if_true, Bool.false_eq_true, if_false]
        rfl, fun hb => ?_⟩
      simp only [Bool.and_eq_true, decide_eq_true_eq, hm, beq_iff_eq, bne_iff_ne, ne_eq, Bool.or_eq_true] at hb
      constructor <;> omega
  · have e1 : (decide ((0 : Int) ≤ it.place) && decide ((it.place : Int) < (p.network.places.length : Int))) = false := by
      rw [← Bool.not_eq_true]; simpa using hin
    rcases hcases with hk | hk | hk | hk | hk | hk | hk | hk | hk | hk | hk | hk | hk | hk | hk
    case inr.inr.inr.inr.inr.inr.inr.inr.inl =>
      refine ⟨_, fun φ hφ => by
        unfold z2e
        simp only [hk, e1, z4x, w1, w2, w3, w4, w5, zae φ _ _ hparts hφ, Option.bind_some, Int.reduceLE, Int.reduceLT, Int.reduceBEq, decide_true, decide_false, if_true, Bool.false_eq_true, if_false]
        refine (zsa _ _ (fun b => zg φ ⟨_, _, b⟩)).trans ?_
        unfold zg
        rfl, fun hb => ?_⟩
      simp at hb
    case inr.inr.inr.inr.inr.inr.inr.inr.inr.inl =>
      refine ⟨_, fun φ hφ => by
        unfold z2e
        simp only [hk, e1, w1, w2, w3, w4, w5, zae φ _ _ hparts hφ, Option.bind_some, Int.reduceLE, Int.reduceLT, Int.reduceBEq, decide_true, decide_false, if_true, Bool.false_eq_true, if_false]
        refine (zsa _ _ (fun b => zg φ ⟨_, _, b⟩)).trans ?_
        unfold zg
        rfl, fun hb => ?_⟩
      constructor <;> omega
    all_goals
      refine ⟨_, fun φ hφ => by
        unfold z2e
        simp only [hk, e1, z6h, z4p, z4l, z52, z4t, z4v, z31, z4o, zg, w1, w2, w3, w4, w5, Option.bind_some, Int.reduceLE, Int.reduceLT, Int.reduceBEq, Int.reduceBNe, Int.reduceNe, decide_true, decide_false, if_true, Bool.false_eq_true, if_false]
        rfl, fun hb => ?_⟩
      simp only [Bool.and_eq_true, decide_eq_true_eq, hm, beq_iff_eq, bne_iff_ne, ne_eq, Bool.or_eq_true] at hb
      first | (constructor <;> omega) | (simp at hb; done) | (simp at hb; constructor <;> omega)
def zd7 (p : Pool) (it : Item) : Bool := ((z2e 2000 p it).getD (false, ())).1
def y2f (it : Item) : Bool := ((z5t 0 it).getD (false, ())).1
theorem zow (φ : Nat) (it : Item) : z5t φ it = some (y2f it, ()) := by
  unfold y2f z5t
  split <;> rfl
/-- Does an item count? -/
def zbn (p : Pool) (it : Item) : Bool := y2f it && zd7 p it
theorem zno {p : Pool} (hc : z0b p = 0) {it : Item} (hparts : it.parts.length ≤ 1000) : (∀ φ, 1000 < φ → z2e φ p it = some (zd7 p it, ())) ∧ (zd7 p it = true → zph p it) := by
  obtain ⟨hn, hf, h1, h2, h3, hb⟩ := z6z hc
  obtain ⟨n1, n2, _, _⟩ := zes hn
  obtain ⟨f1, f2, _⟩ := z94 hf
  obtain ⟨b, hφ, hok⟩ := zvj p it hparts f2 h1 h2 n1 f1
  have : zd7 p it = b := by unfold zd7; rw [hφ 2000 (by omega)]; rfl
  rw [this]
  exact ⟨hφ, hok⟩
theorem zoa (φ : Nat) (hφ : 800000 < φ) {p : Pool} (hc : z0b p = 0) {it : Item} (hparts : it.parts.length ≤ 1000) : zee φ p it = some (bif zbn p it then 0 else 110, ()) := by
  unfold zee zbn
  rw [z68 φ hφ, Option.bind_some, if_neg (by simp [hc]), zow, Option.bind_some]
  cases y2f it with
  | false => rfl
  | true =>
    rw [gz_t (by simp), (zno hc hparts).1 φ (by omega), Option.bind_some]
    cases zd7 p it <;> rfl
theorem zev {p : Pool} (hc : z0b p = 0) {it : Item} (hparts : it.parts.length ≤ 1000) (h : zbn p it = true) : zph p it := by
  simp only [zbn, Bool.and_eq_true] at h
  exact (zno hc hparts).2 h.2
end Px
end
section
namespace Px
open Go
set_option linter.unusedVariables false
set_option linter.unusedSimpArgs false
theorem zl1 {n b : Nat} (h : n ≤ 100000) (hb : b ≤ 1000) : fits n b := by
  unfold fits
  have : n * b ≤ 100000 * 1000 := Nat.mul_le_mul h hb
  omega
def z64 (r : ze) (place time : Int) : zj := ⟨r.item.wagon, place, r.ref, false, time, time⟩
/-- The events of a report that counts. -/
def evs (p : Pool) (r : ze) (i : Int) : List z6 :=
  if r.item.kind = 1 then [⟨z64 r (gt p.readers r.item.other).place r.item.from_, i, false, false, r.item.other⟩]
  else if r.item.kind = 2 ∨ r.item.kind = 9 then [⟨z64 r r.item.place r.item.from_, i, false, true, -1⟩, ⟨z64 r r.item.place r.item.to, i, true, true, -1⟩]
  else if r.item.kind = 3 ∨ r.item.kind = 4 ∨ r.item.kind = 6 ∨ r.item.kind = 7 then [⟨z64 r r.item.place r.item.from_, i, false, false, -1⟩] else []
theorem zr1 (φ : Nat) (p : Pool) (r : ze) (i : Int) (h : r.item.kind = 1 → 0 ≤ r.item.other ∧ r.item.other < (p.readers.length : Int)) : z0w φ p r i = some (evs p r i, ()) := by
  by_cases h1 : r.item.kind = 1
  · have h' := h h1
    simp [z0w, evs, h1, z7 h', zy, z64]
  by_cases h2 : r.item.kind = 2
  · simp [z0w, evs, h2, z06, z20, z21, zy, z64]
  by_cases h9 : r.item.kind = 9
  · simp [z0w, evs, h9, z06, z20, z21, zy, z64]
  by_cases h3 : r.item.kind = 3
  · simp [z0w, evs, h3, z06, z05, zy, z64]
  by_cases h4 : r.item.kind = 4
  · simp [z0w, evs, h4, z06, z05, zy, z64]
  by_cases h6 : r.item.kind = 6
  · simp [z0w, evs, h6, z06, z05, zy, z64]
  by_cases h7 : r.item.kind = 7
  · simp [z0w, evs, h7, z06, z05, zy, z64]
  · simp [z0w, evs, h1, h2, h9, h3, h4, h6, h7, z06, z05]
theorem zat {p : Pool} {r : ze} {i : Int} {x : z6} (h : x ∈ evs p r i) : x.report = i ∧ x.visit.wagon = r.item.wagon ∧ x.visit.ref = r.ref := by
  unfold evs at h
  split at h
  · simp only [List.mem_singleton] at h; subst h; exact ⟨rfl, rfl, rfl⟩
  · split at h
    · simp only [List.mem_cons, List.not_mem_nil, or_false] at h
      rcases h with rfl | rfl <;> exact ⟨rfl, rfl, rfl⟩
    · split at h
      · simp only [List.mem_singleton] at h; subst h; exact ⟨rfl, rfl, rfl⟩
      · cases h
theorem zrv (p : Pool) (r : ze) (i : Int) : (evs p r i).length ≤ 2 := by
  unfold evs
  split
  · simp
  · split
    · simp
    · split <;> simp
theorem ya7 (p : Pool) (r : ze) (i : Int) : (evs p r i).Pairwise fun a b => a.report ≠ b.report ∨ a.second ≠ b.second := by
  unfold evs
  split
  · simp
  · split
    · simp
    · split <;> simp
/-- The numbers of the reports that count. -/
def cntN (p : Pool) (l : List ze) (n : Nat) : List Int := ((List.range n).filter fun (i : Nat) => zbn p (gt l (i : Int)).item).map fun (i : Nat) => (i : Int)
def cnt (p : Pool) (l : List ze) : List Int := cntN p l l.length
theorem zom (p : Pool) (l : List ze) (n : Nat) : cntN p l (n + 1) = cntN p l n ++ (bif zbn p (gt l (n : Int)).item then [(n : Int)] else []) := by
  unfold cntN
  rw [List.range_succ, List.filter_append, List.map_append]
  congr 1
  cases h : zbn p (gt l (n : Int)).item <;> simp [h]
theorem zff (p : Pool) (l : List ze) (n : Nat) : (cntN p l n).length ≤ n := by
  unfold cntN
  rw [List.length_map]
  exact Nat.le_trans (List.length_filter_le _ _) (by simp)
theorem zzk {p : Pool} {l : List ze} {i : Int} (h : i ∈ cnt p l) : 0 ≤ i ∧ i < (l.length : Int) ∧ zbn p (gt l i).item = true := by
  simp only [cnt, cntN, List.mem_map, List.mem_filter, List.mem_range] at h
  obtain ⟨n, ⟨h1, h2⟩, rfl⟩ := h
  exact ⟨by omega, by omega, h2⟩
theorem y9k (p : Pool) (l : List ze) : (cnt p l).Pairwise (· < ·) := by
  unfold cnt cntN
  rw [List.pairwise_map]
  refine (List.pairwise_lt_range.filter _).imp ?_
  intro a b h
  omega
/-- A list of reports that the laws admit. -/
structure FewL (l : List ze) : Prop where
  len : l.length ≤ 1000
  parts : ∀ r ∈ l, r.item.parts.length ≤ 1000
theorem FewL.gt {l : List ze} (h : FewL l) {i : Int} (h0 : 0 ≤ i) (hi : i < (l.length : Int)) : (Px.gt l i).item.parts.length ≤ 1000 := h.parts _ (z1z h0 hi)
theorem zu6 (φ : Nat) (hφ : 800000 < φ) {p : Pool} (hc : z0b p = 0) {l : List ze} (hl : FewL l) : z8h φ p l = some (cnt p l, ()) := by
  have h1 := hl.len
  unfold z8h
  refine z03 (fun n i acc => z26 φ n l (l.length : Int) i p acc) l.length (fun i acc => acc = cntN p l i) (fun o => o = some (cnt p l, ())) ?_ ?_ φ [] rfl (by omega)
  · intro n i acc hi hacc hs
    rw [z26, if_pos (by simp; omega), z7 ⟨by omega, by omega⟩, zoa φ hφ hc (hl.gt (by omega) (by omega)), Option.bind_some, W_id (by omega) (by omega)]
    have hs' := hs (cntN p l (i + 1)) rfl
    rw [zom] at hs'
    cases h : zbn p (gt l (i : Int)).item with
    | true =>
      rw [h] at hs'
      rw [if_pos (by rfl), z7 (zl1 (by have := zff p l i; rw [hacc]; simp; omega) (by omega)), hacc]
      exact hs'
    | false =>
      rw [h] at hs'
      simp only [cond_false, List.append_nil] at hs'
      rw [if_neg (by decide), hacc]
      exact hs'
  · intro n acc hacc
    rw [z26, if_neg (by simp), hacc]; rfl
/-- The events of a wagon, as they were collected. -/
def unsC (p : Pool) (l : List ze) (c : List Int) (w : Int) : List z6 := c.flatMap fun i => if (gt l i).item.wagon = w then evs p (gt l i) i else []
def uns (p : Pool) (l : List ze) (w : Int) : List z6 := unsC p l (cnt p l) w
theorem zfk (p : Pool) (l : List ze) (w : Int) : ∀ c : List Int, (unsC p l c w).length ≤ 2 * c.length
  | [] => by simp [unsC]
  | i :: c => by
    have := zfk p l w c
    have h2 := zrv p (gt l i) i
    unfold unsC at *
    rw [List.flatMap_cons, List.length_append, List.length_cons]
    split
    · omega
    · simp only [List.length_nil]; omega
theorem zzf {a b : z6} (h : a.report ≠ b.report ∨ a.second ≠ b.second) : cfEv a b < 0 ∨ cfEv b a < 0 := by
  rw [zai, zai]
  have h2 : a.second ≠ b.second → ordB a.second ≠ ordB b.second := by
    cases a.second <;> cases b.second <;> simp [ordB]
  by_cases hs : a.second = b.second
  · have h3 := h.resolve_right (fun q => q hs)
    rw [hs]; omega
  · have := h2 hs
    omega
theorem y4c (p : Pool) (l : List ze) (w : Int) : (uns p l w).Pairwise fun a b => a.report ≠ b.report ∨ a.second ≠ b.second := by
  unfold uns unsC
  rw [List.pairwise_flatMap]
  refine ⟨fun i hi => ?_, (y9k p l).imp ?_⟩
  · split
    · exact ya7 _ _ _
    · exact List.Pairwise.nil
  · intro i j hij x hx y hy
    split at hx
    · split at hy
      · rw [(zat hx).1, (zat hy).1]
        exact .inl (by omega)
      · cases hy
    · cases hx
theorem zj7 {p : Pool} {l : List ze} (hl : l.length ≤ 1000) {w : Int} {x : z6} (h : x ∈ uns p l w) : 0 ≤ x.report ∧ x.report < (l.length : Int) ∧ x.visit.wagon = w ∧ zbn p (gt l x.report).item = true ∧ x ∈ evs p (gt l x.report) x.report := by
  simp only [uns, unsC, List.mem_flatMap] at h
  obtain ⟨i, hi, hx⟩ := h
  obtain ⟨h1, h2, h3⟩ := zzk hi
  split at hx
  · rename_i hw
    obtain ⟨r1, r2, r3⟩ := zat hx
    rw [r1]
    exact ⟨h1, h2, by rw [r2, hw], h3, hx⟩
  · cases hx
def ltEv (a b : z6) : Bool := decide (cfEv a b < 0)
def srt (p : Pool) (l : List ze) (w : Int) : List z6 := zao ltEv (uns p l w)
theorem zuh {p : Pool} {l : List ze} (hl : l.length ≤ 1000) (w : Int) : sortEv (uns p l w) = some (srt p l w) := by
  refine y0s (fun y hy => ?_) ?_ ((y4c p l w).imp fun h => zzf h)
  · obtain ⟨h1, h2, _⟩ := zj7 hl hy
    simp only [okEv, decide_eq_true_eq]; omega
  · have := zfk p l w (cnt p l)
    have h2 := zff p l l.length
    unfold uns cnt at *
    omega
/-- Stays cover the gaps of a z9d. -/
def covM (e : z6) (m : List (Int × Bool)) : List (Int × Bool) := if (e.stay && e.second) = true then mdel m e.report else if e.stay = true then mset m e.report true else m
def ze1 (e : z6) (b : Bool) : z6 := ⟨⟨e.visit.wagon, e.visit.place, e.visit.ref, b, e.visit.early, e.visit.late⟩, e.report, e.second, e.stay, e.reader⟩
def zhp : List z6 → List (Int × Bool) → List z6
  | [], _ => []
  | e :: t, m => ze1 e (decide ((0 : Int) < ((covM e m).length : Int))) :: zhp t (covM e m)
theorem zjg : ∀ (t : List z6) (m : List (Int × Bool)), (zhp t m).length = t.length
  | [], _ => rfl
  | e :: t, m => by simp [zhp, zjg t]
def z9d (p : Pool) (l : List ze) (w : Int) : List z6 := zhp (srt p l w) []
theorem zvr {α : Type} (a : List α) (x y : α) (b : List α) : z01 (a ++ x :: b) (a.length : Int) y = a ++ y :: b := by
  simp [z01]
theorem y4l {α : Type} [Inhabited α] (a : List α) (x : α) (b : List α) : gt (a ++ x :: b) (a.length : Int) = x := by
  simp [gt]
theorem zu1 (φ : Nat) (k : Int → Int → List (List z6) → Option ((List (List z6)) × Unit)) (x19 x20 x24 : Int) (x23 : List (List z6)) :
    ∀ (n : Nat) (done todo : List z6) (m : List (Int × Bool)), todo.length < n → done.length + todo.length ≤ 100000 →
      z0z φ k n ((done.length + todo.length : Nat) : Int) (done.length : Int) x19 x20 (done ++ todo) m x23 x24 = k x19 (W (x20 + 1)) (z01 x23 x24 (done ++ zhp todo m)) := by
  intro n
  induction n with
  | zero => intro d t m h _; omega
  | succ n ih =>
    intro d t m hn hl
    cases t with
    | nil =>
      rw [z0z, if_neg (by simp)]
      rfl
    | cons e t =>
      simp only [List.length_cons] at hn hl
      have hin : (0 : Int) ≤ (d.length : Int) ∧ (d.length : Int) < ((d ++ e :: t).length : Int) := ⟨by omega, by simp; omega⟩
      have key : ∀ m', z2q φ (z0z φ k n) (d.length : Int) ((d.length + (e :: t).length : Nat) : Int) (d.length : Int) x19 x20 (d ++ e :: t) m' x23 x24 =
          k x19 (W (x20 + 1)) (z01 x23 x24 (d ++ ze1 e (decide ((0 : Int) < (m'.length : Int))) :: zhp t m')) := by
        intro m'
        unfold z2q
        rw [z7 hin, y4l, W_id (by omega) (by omega), zvr]
        have := ih (d ++ [ze1 e (decide ((0 : Int) < (m'.length : Int)))]) t m' (by omega) (by simp; omega)
        simp only [List.length_append, List.length_cons, List.length_nil, List.append_assoc, List.cons_append, List.nil_append] at this
        rw [show ((d.length + (e :: t).length : Nat) : Int) = ((d.length + (0 + 1) + t.length : Nat) : Int) by simp; omega, show (d.length : Int) + 1 = ((d.length + (0 + 1) : Nat) : Int) by omega]
        exact this
      rw [z0z, if_pos (by simp; omega), z7 hin, z7 (fun _ => hin), y4l]
      have hg : ∀ m', covM e m = m' → zhp (e :: t) m = ze1 e (decide ((0 : Int) < (m'.length : Int))) :: zhp t m' := fun m' hm => by subst hm; rfl
      by_cases h1 : (e.stay && e.second) = true
      · rw [if_pos h1, z7 hin, key, hg _ (if_pos h1)]
      · rw [if_neg h1, z7 hin]
        by_cases h2 : e.stay = true
        · rw [if_pos h2, z7 hin, key, hg (mset m e.report true) (by unfold covM; rw [if_neg h1, if_pos h2])]
        · rw [if_neg h2, key, hg m (by unfold covM; rw [if_neg h1, if_neg h2])]
theorem zxl (φ : Nat) (hφ : 800000 < φ) {p : Pool} (hc : z0b p = 0) {l : List ze} (hl : FewL l) : za8 φ p l = some ((List.range p.fleet.wagons.length).map fun (w : Nat) => z9d p l (w : Int), ()) := by
  have h1 := hl.len
  obtain ⟨_, hf, _⟩ := z6z hc
  obtain ⟨_, f2, _⟩ := z94 hf
  have hcl := zff p l l.length
  unfold za8
  rw [z7 (mk_t _ _ (by omega) (by omega) (by omega)), zu6 φ hφ hc hl, Option.bind_some]
  generalize hn0 : p.fleet.wagons.length = n0 at *
  have second : ∀ out : List (List z6), out.length = n0 → (∀ w : Nat, w < n0 → gt out (w : Int) = uns p l w) → z1d φ φ (out.length : Int) 0 out = some ((List.range n0).map fun (w : Nat) => z9d p l (w : Int), ()) := by
    intro out ho hu
    rw [ho]
    refine z03 (fun n i o => z1d φ n (n0 : Int) i o) n0 (fun i o => o.length = n0 ∧ ∀ w : Nat, w < n0 → gt o (w : Int) = if w < i then z9d p l w else uns p l w) (fun o => o = some ((List.range n0).map fun (w : Nat) => z9d p l (w : Int), ())) ?_ ?_ φ out ⟨ho, fun w hw => by rw [hu w hw, if_neg (by omega)]⟩ (by omega)
    · intro n i o hi ⟨ho1, ho2⟩ hs
      rw [z1d, if_pos (by simp; omega), z7 ⟨by omega, by omega⟩, z7 ⟨by omega, by omega⟩, z7 rfl, ho2 i hi, if_neg (by omega), zuh h1, Option.bind_some]
      have hsl : (srt p l (i : Int)).length ≤ 2000 := by
        rw [srt, (z1c _ _).length_eq]
        have := zfk p l i (cnt p l)
        unfold uns cnt at *
        omega
      have := zu1 φ (z1d φ n) (n0 : Int) (i : Int) (i : Int) o φ [] (srt p l (i : Int)) [] (by omega) (by simp; omega)
      simp only [List.length_nil, Nat.zero_add, List.nil_append] at this
      refine this.trans ?_
      rw [W_id (by omega) (by omega)]
      refine hs _ ⟨by rw [z0n]; exact ho1, fun w hw => ?_⟩
      rw [z0d _ _ _ _ (by omega) (by omega) (by omega)]
      by_cases e : w = i
      · subst e; rw [if_pos rfl, if_pos (by omega)]; rfl
      · rw [if_neg (by omega), ho2 w hw]
        by_cases h2 : w < i
        · rw [if_pos h2, if_pos (by omega)]
        · rw [if_neg h2, if_neg (by omega)]
    · intro n o ⟨ho1, ho2⟩
      rw [z1d, if_neg (by simp)]
      congr 2
      refine List.ext_getElem (by simp [ho1]) fun w hw hw2 => ?_
      have := ho2 w (by omega)
      rw [z5n hw, if_pos (by omega)] at this
      simpa using this
  refine z03 (fun n i o => z29 φ n l (cnt p l) ((cnt p l).length : Int) i p o) (cnt p l).length (fun i o => o.length = n0 ∧ ∀ w : Nat, w < n0 → gt o (w : Int) = unsC p l ((cnt p l).take i) w) (fun o => o = some ((List.range n0).map fun (w : Nat) => z9d p l (w : Int), ())) ?_ ?_ φ _ ⟨by simp, fun w hw => ?_⟩ (by unfold cnt; omega)
  · intro n i o hi ⟨ho1, ho2⟩ hs
    have hmem : gt (cnt p l) (i : Int) ∈ cnt p l := z1z (by omega) (by omega)
    obtain ⟨c1, c2, c3⟩ := zzk hmem
    have hI := zev hc (hl.gt c1 c2) c3
    have hcn : (cnt p l).length ≤ 1000 := by unfold cnt; omega
    rw [z29, if_pos (by simp; omega), z7 ⟨by omega, by omega⟩, z7 ⟨c1, c2⟩, zr1 φ p _ _ hI.read, Option.bind_some]
    have hW : W ((i : Int) + 1) = (i : Int) + 1 := W_id (by omega) (by omega)
    have htake : ∀ w, unsC p l ((cnt p l).take (i + 1)) w = unsC p l ((cnt p l).take i) w ++ (if (gt l (gt (cnt p l) (i : Int))).item.wagon = w then evs p (gt l (gt (cnt p l) (i : Int))) (gt (cnt p l) (i : Int)) else []) := by
      intro w
      rw [z0g _ _ hi]
      simp [unsC]
    generalize gt (cnt p l) (i : Int) = ci at *
    generalize hev : evs p (gt l ci) ci = E at *
    have hE : E.length ≤ 2 := by rw [← hev]; exact zrv _ _ _
    simp only []
    by_cases h0 : 0 < E.length
    · have hkind : (gt l ci).item.kind ≤ 9 := by
        rcases Int.lt_or_le 9 (gt l ci).item.kind with h | h
        · exfalso
          have : E = [] := by
            rw [← hev]; unfold evs
            rw [if_neg (by omega), if_neg (by omega), if_neg (by omega)]
          rw [this] at h0; simp at h0
        · exact h
      have hwg := hI.wagon hkind
      rw [hn0] at hwg
      obtain ⟨w0, hw0⟩ : ∃ w0 : Nat, (gt l ci).item.wagon = (w0 : Int) := ⟨(gt l ci).item.wagon.toNat, by omega⟩
      rw [hw0] at hwg htake ⊢
      have hwg' : (0 : Int) ≤ (w0 : Int) ∧ (w0 : Int) < (o.length : Int) := ⟨by omega, by omega⟩
      have hul := zfk p l w0 ((cnt p l).take i)
      rw [if_pos (by simpa using h0), z7 ⟨c1, c2⟩, z7 hwg', z7 hwg', z7 trivial, ho2 w0 (by omega),
        z7 (zl1 (by rw [List.length_take] at hul; omega) (by omega)), z7 hwg', z7 trivial, hW]
      refine hs _ ⟨by rw [z0n]; exact ho1, fun w hw => ?_⟩
      rw [z0d _ _ _ _ (by omega) (by omega) (by omega), htake]
      by_cases e : (w : Int) = (w0 : Int)
      · rw [if_pos e, e, if_pos rfl]
      · rw [if_neg e, if_neg (fun q => e q.symm), List.append_nil, ho2 w hw]
    · have hnil : E = [] := List.eq_nil_of_length_eq_zero (by omega)
      rw [if_neg (by simpa using h0), hW]
      refine hs _ ⟨ho1, fun w hw => ?_⟩
      rw [htake, hnil, ho2 w hw]
      split <;> simp
  · intro n o ⟨ho1, ho2⟩
    rw [z29, if_neg (by simp)]
    refine second o ho1 fun w hw => ?_
    rw [ho2 w hw, List.take_length]; rfl
  · rw [z1e _ _ _ (by omega) (by simp; omega)]
    simp [unsC]
    rfl
end Px
end
section
namespace Px
open Go
set_option linter.unusedVariables false
set_option linter.unusedSimpArgs false
theorem zer (m : List (Int × Int)) (a v c : Int) : mget (mset m a v) c = if c = a then some v else mget m c := by
  induction m with
  | nil =>
    show (bif c == a then some v else none) = _
    by_cases h : c = a
    · rw [if_pos h]; simp [h]
    · rw [if_neg h]
      have : (c == a) = false := by simpa using h
      rw [this]; rfl
  | cons p m ih =>
    obtain ⟨k, w⟩ := p
    show mget (bif a == k then (a, v) :: m else (k, w) :: mset m a v) c = _
    have e1 : mget ((k, w) :: m) c = bif c == k then some w else mget m c := rfl
    by_cases h1 : a = k
    · subst h1
      simp only [beq_self_eq_true, cond_true]
      show (bif c == a then some v else mget m c) = _
      rw [e1]
      by_cases h : c = a
      · rw [if_pos h]; simp [h]
      · rw [if_neg h]
        have : (c == a) = false := by simpa using h
        rw [this]; rfl
    · have : (a == k) = false := by simpa using h1
      rw [this]
      show (bif c == k then some w else mget (mset m a v) c) = _
      rw [ih, e1]
      by_cases h2 : c = k
      · subst h2
        have h3 : ¬ c = a := fun e => h1 e.symm
        simp [h3]
      · have : (c == k) = false := by simpa using h2
        rw [this]; rfl
theorem zwu {p : Pool} {l : List ze} (hl : l.length ≤ 1000) (w : Int) : (z9d p l w).length ≤ 2000 := by
  unfold z9d
  rw [zjg, srt, (z1c _ _).length_eq]
  have := zfk p l w (cnt p l)
  have := zff p l l.length
  unfold uns cnt at *
  omega
end Px
end
section
namespace Px
open Go
set_option linter.unusedVariables false
set_option linter.unusedSimpArgs false
theorem zx3 (φ : Nat) (hφ : 800000 < φ) (x : zh) (a b : zj) : ∃ t, z3e φ x a b = some (t, ()) ∧ 0 ≤ t ∧ t ≤ 1073741825 := by
  unfold z3e
  split
  · exact ⟨_, rfl, by omega, by omega⟩
  · obtain ⟨t, e, h, h1, h2⟩ := zll φ hφ x a.place b.place
    rw [h, Option.bind_some]
    split
    · exact ⟨_, rfl, by omega, by omega⟩
    · exact ⟨_, rfl, h1, by omega⟩
/-- The least travel time as Build takes it. -/
def tvl (φ : Nat) (x : zh) (a b : zj) : Int := ((z3e φ x a b).getD default).1
theorem y3p (φ : Nat) (hφ : 800000 < φ) (x : zh) (a b : zj) : z3e φ x a b = some (tvl φ x a b, ()) ∧ 0 ≤ tvl φ x a b ∧ tvl φ x a b ≤ 1073741825 := by
  obtain ⟨t, h, h1, h2⟩ := zx3 φ hφ x a b
  unfold tvl
  rw [h]
  exact ⟨rfl, h1, h2⟩
def y0 : Nat → Ref := fun _ => (default : Ref)
def y1 (r : Ref) : Nat → Ref := upd (fun _ => (default : Ref)) 0 r
def y2 (r q : Ref) : Nat → Ref := upd (upd (fun _ => (default : Ref)) 0 r) 1 q
/-- Which readers are used. -/
def zqj (m : List (Int × Int)) (e : z6) : List (Int × Int) := if 0 ≤ e.reader then mset m e.reader 0 else m
def zez (m : List (Int × Int)) (t : List z6) : List (Int × Int) := t.foldl zqj m
def used (ts : List (List z6)) : List (Int × Int) := ts.foldl zez []
/-- What is built. -/
structure BS where
  v : Int
  b : List zb
  y : List (Nat → Ref)
  e : List z0v
structure RS where
  v : Int
  m : List (Int × Int)
  b : List zb
  y : List (Nat → Ref)
def zkz (rs : List z2c) (i : Nat) (s : RS) : RS :=
  if (mget s.m (i : Int)).isSome = true then ⟨s.v + 1, mset s.m (i : Int) s.v, s.b ++ [⟨0, s.v, 0 - (gt rs (i : Int)).low⟩, ⟨s.v, 0, (gt rs (i : Int)).high⟩], s.y ++ [y0, y0]⟩ else s
def rdsN (rs : List z2c) (m : List (Int × Int)) : Nat → RS
  | 0 => ⟨1, m, [], []⟩
  | n + 1 => zkz rs n (rdsN rs m n)
def rv (m : List (Int × Int)) (e : z6) : Int := (mget m e.reader).getD default
def evB (m : List (Int × Int)) (v : Int) (e : z6) : List zb :=
  if e.reader < 0 then [⟨0, v, e.visit.early⟩, ⟨v, 0, 0 - e.visit.early⟩]
  else [⟨rv m e, v, e.visit.early⟩, ⟨v, rv m e, 0 - e.visit.early⟩, ⟨0, v, 1073741824⟩, ⟨v, 0, 0⟩]
def evY (e : z6) : List (Nat → Ref) := List.replicate (if e.reader < 0 then 2 else 4) (y1 e.visit.ref)
def trB (tv : zj → zj → Int) (v : Int) (pr : Option zj) (e : z6) : List zb :=
  match pr with
  | none => []
  | some a => [⟨v, v - 1, 0 - tv a e.visit⟩]
def trY (pr : Option zj) (e : z6) : List (Nat → Ref) :=
  match pr with
  | none => []
  | some a => [y2 a.ref e.visit.ref]
def zi3 (tv : zj → zj → Int) (m : List (Int × Int)) (pr : Option zj) (e : z6) (s : BS) : BS :=
  ⟨s.v + 1, s.b ++ evB m s.v e ++ trB tv s.v pr e, s.y ++ evY e ++ trY pr e, s.e ++ [⟨e.visit.wagon, e.visit.place, s.v, e.visit.ref, e.visit.stay⟩]⟩
def bEv (tv : zj → zj → Int) (m : List (Int × Int)) : Option zj → List z6 → BS → BS
  | _, [], s => s
  | pr, e :: t, s => bEv tv m (some e.visit) t (zi3 tv m pr e s)
def bAll (tv : zj → zj → Int) (rs : List z2c) (ts : List (List z6)) : BS :=
  ts.foldl (fun s t => bEv tv (rdsN rs (used ts) rs.length).m none t s) ⟨(rdsN rs (used ts) rs.length).v, (rdsN rs (used ts) rs.length).b, (rdsN rs (used ts) rs.length).y, []⟩
def bEnd (s : BS) : zo × Int × Unit := if 512 < s.v ∨ 4096 < s.b.length then (⟨0, [], [], []⟩, 2, ()) else (⟨s.v, s.b, s.y, s.e⟩, 0, ())
def z0k (p : Pool) (l : List ze) : List (List z6) := (List.range p.fleet.wagons.length).map fun (w : Nat) => z9d p l (w : Int)
theorem zak (rs : List z2c) (m : List (Int × Int)) : ∀ n, 1 ≤ (rdsN rs m n).v ∧ (rdsN rs m n).v ≤ 1 + n ∧ (rdsN rs m n).b.length ≤ 2 * n ∧ (rdsN rs m n).y.length ≤ 2 * n
  | 0 => ⟨by simp [rdsN], by simp [rdsN], by simp [rdsN], by simp [rdsN]⟩
  | n + 1 => by
    obtain ⟨h1, h2, h3, h4⟩ := zak rs m n
    simp only [rdsN, zkz]
    split
    · refine ⟨?_, ?_, ?_, ?_⟩ <;> simp <;> omega
    · refine ⟨?_, ?_, ?_, ?_⟩ <;> omega
theorem y6i (m : List (Int × Int)) (v : Int) (e : z6) : (evB m v e).length ≤ 4 := by
  unfold evB; split <;> simp
theorem y7r (e : z6) : (evY e).length ≤ 4 := by
  unfold evY; split <;> simp
theorem y6a (tv : zj → zj → Int) (v : Int) (pr : Option zj) (e : z6) : (trB tv v pr e).length ≤ 1 := by
  cases pr <;> simp [trB]
theorem y7s (pr : Option zj) (e : z6) : (trY pr e).length ≤ 1 := by
  cases pr <;> simp [trY]
/-- How much there is. -/
structure BB (n : Nat) (s : BS) : Prop where
  v0 : 1 ≤ s.v
  v1 : s.v ≤ 257 + n
  b : s.b.length ≤ 512 + 5 * n
  y : s.y.length ≤ 512 + 5 * n
  e : s.e.length ≤ n
theorem BB.step {n : Nat} {s : BS} (h : BB n s) (tv m pr e) : BB (n + 1) (zi3 tv m pr e s) := by
  have h1 := y6i m s.v e
  have h2 := y7r e
  have h3 := y6a tv s.v pr e
  have h4 := y7s pr e
  obtain ⟨a, b, c, d, f⟩ := h
  unfold zi3
  constructor
  · show 1 ≤ s.v + 1; omega
  · show s.v + 1 ≤ 257 + ((n + 1 : Nat) : Int); omega
  · show (s.b ++ evB m s.v e ++ trB tv s.v pr e).length ≤ _
    rw [List.length_append, List.length_append]; omega
  · show (s.y ++ evY e ++ trY pr e).length ≤ _
    rw [List.length_append, List.length_append]; omega
  · show (s.e ++ [_]).length ≤ _
    rw [List.length_append]; simp; omega
theorem BB.ev (tv m) : ∀ (t : List z6) (n : Nat) (pr : Option zj) (s : BS), BB n s → BB (n + t.length) (bEv tv m pr t s)
  | [], n, pr, s, h => h
  | e :: t, n, pr, s, h => by
    have := BB.ev tv m t (n + 1) (some e.visit) (zi3 tv m pr e s) (h.step tv m pr e)
    rw [show n + (e :: t).length = n + 1 + t.length by simp; omega]
    exact this
section
variable (φ : Nat)
/-- The two bounds of a reader. -/
theorem yaz (hφ : 10 < φ) (k) (x55 x56 x57 x58 x59 x60 x61 x62 x63 x64 x65 x66 x67 x68) (B : List zb) (x70 x71 x72 x73) (b : List zb) (y : List (Nat → Ref)) (x76 x77 x78 x79) (hB : B.length ≤ 4) (hb : b.length ≤ 50000000) (hy : y.length ≤ 50000000) :
    z2n φ k φ (B.length : Int) 0 x55 x56 x57 x58 x59 x60 x61 x62 x63 x64 x65 x66 x67 x68 B x70 x71 x72 x73 b y x76 x77 x78 x79 = k x55 x56 x57 (W (x58 + 1)) x70 x71 (W (x67 + 1)) x72 x77 x78 x79 (b ++ B) (y ++ List.replicate B.length x68) x76 := by
  refine z03 (fun n i (s : List zb × List (Nat → Ref)) => z2n φ k n (B.length : Int) i x55 x56 x57 x58 x59 x60 x61 x62 x63 x64 x65 x66 x67 x68 B x70 x71 x72 x73 s.1 s.2 x76 x77 x78 x79) B.length (fun i s => s.1 = b ++ B.take i ∧ s.2 = y ++ List.replicate i x68) (fun o => o = k x55 x56 x57 (W (x58 + 1)) x70 x71 (W (x67 + 1)) x72 x77 x78 x79 (b ++ B) (y ++ List.replicate B.length x68) x76) ?_ ?_ φ (b, y) ⟨by simp, by simp⟩ (by omega)
  · intro n i s hi ⟨h1, h2⟩ hs
    rw [z2n, if_pos (by simp; omega), z7 ⟨by omega, by omega⟩, z7 (zem (by rw [h1]; simp; omega) (by omega)), z7 (zem (by rw [h2]; simp; omega) (by omega)), W_id (by omega) (by omega)]
    exact hs (_, _) ⟨by rw [h1, z0g B i hi, List.append_assoc], by rw [h2, List.replicate_succ', List.append_assoc]⟩
  · intro n s ⟨h1, h2⟩
    rw [z2n, if_neg (by simp), h1, h2, List.take_length]
theorem yan (hφ : 10 < φ) (k) (x137 x138 x139 x140 x141 x142 x143 x144 x145 x146 x147 x148 x149 x150 x151 x152 x153 x154 x155 x156 x157) (B : List zb) (x159 x160 x161 x162 x163) (b : List zb) (y : List (Nat → Ref)) (x166 x167 x168 x169) (hB : B.length ≤ 4) (hb : b.length ≤ 50000000) (hy : y.length ≤ 50000000) :
    z2a φ k φ (B.length : Int) 0 x137 x138 x139 x140 x141 x142 x143 x144 x145 x146 x147 x148 x149 x150 x151 x152 x153 x154 x155 x156 x157 B x159 x160 x161 x162 x163 b y x166 x167 x168 x169 = k x137 x138 x139 x140 x141 x142 (W (x143 + 1)) x159 x160 x156 x161 x167 x168 x169 (b ++ B) (y ++ List.replicate B.length x157) x166 := by
  refine z03 (fun n i (s : List zb × List (Nat → Ref)) => z2a φ k n (B.length : Int) i x137 x138 x139 x140 x141 x142 x143 x144 x145 x146 x147 x148 x149 x150 x151 x152 x153 x154 x155 x156 x157 B x159 x160 x161 x162 x163 s.1 s.2 x166 x167 x168 x169) B.length (fun i s => s.1 = b ++ B.take i ∧ s.2 = y ++ List.replicate i x157) (fun o => o = k x137 x138 x139 x140 x141 x142 (W (x143 + 1)) x159 x160 x156 x161 x167 x168 x169 (b ++ B) (y ++ List.replicate B.length x157) x166) ?_ ?_ φ (b, y) ⟨by simp, by simp⟩ (by omega)
  · intro n i s hi ⟨h1, h2⟩ hs
    rw [z2a, if_pos (by simp; omega), z7 ⟨by omega, by omega⟩, z7 (zem (by rw [h1]; simp; omega) (by omega)), z7 (zem (by rw [h2]; simp; omega) (by omega)), W_id (by omega) (by omega)]
    exact hs (_, _) ⟨by rw [h1, z0g B i hi, List.append_assoc], by rw [h2, List.replicate_succ', List.append_assoc]⟩
  · intro n s ⟨h1, h2⟩
    rw [z2a, if_neg (by simp), h1, h2, List.take_length]
theorem yab (hφ : 10 < φ) (k) (x173 x174 x175 x176 x177 x178 x179 x180 x181 x182 x183) (B : List zb) (x185 x186 x187 x188) (b : List zb) (y : List (Nat → Ref)) (x191 x192 x193 x194) (hB : B.length ≤ 4) (hb : b.length ≤ 50000000) (hy : y.length ≤ 50000000) :
    z27 φ k φ (B.length : Int) 0 x173 x174 x175 x176 x177 x178 x179 x180 x181 x182 x183 B x185 x186 x187 x188 b y x191 x192 x193 x194 = z0x φ k x173 x174 x175 x176 x177 x178 x179 x180 x181 x185 x186 x182 x187 x188 x192 x193 x194 (b ++ B) (y ++ List.replicate B.length x183) x191 := by
  refine z03 (fun n i (s : List zb × List (Nat → Ref)) => z27 φ k n (B.length : Int) i x173 x174 x175 x176 x177 x178 x179 x180 x181 x182 x183 B x185 x186 x187 x188 s.1 s.2 x191 x192 x193 x194) B.length (fun i s => s.1 = b ++ B.take i ∧ s.2 = y ++ List.replicate i x183) (fun o => o = z0x φ k x173 x174 x175 x176 x177 x178 x179 x180 x181 x185 x186 x182 x187 x188 x192 x193 x194 (b ++ B) (y ++ List.replicate B.length x183) x191) ?_ ?_ φ (b, y) ⟨by simp, by simp⟩ (by omega)
  · intro n i s hi ⟨h1, h2⟩ hs
    rw [z27, if_pos (by simp; omega), z7 ⟨by omega, by omega⟩, z7 (zem (by rw [h1]; simp; omega) (by omega)), z7 (zem (by rw [h2]; simp; omega) (by omega)), W_id (by omega) (by omega)]
    exact hs (_, _) ⟨by rw [h1, z0g B i hi, List.append_assoc], by rw [h2, List.replicate_succ', List.append_assoc]⟩
  · intro n s ⟨h1, h2⟩
    rw [z27, if_neg (by simp), h1, h2, List.take_length]
theorem yaf (hφ : 10 < φ) (k) (x173 x174 x175 x176 x177 x178 x179 x180 x181 x182 x183) (B : List zb) (x185 x186 x187 x188) (b : List zb) (y : List (Nat → Ref)) (x191 x192 x193 x194) (hB : B.length ≤ 4) (hb : b.length ≤ 50000000) (hy : y.length ≤ 50000000) :
    z24 φ k φ (B.length : Int) 0 x173 x174 x175 x176 x177 x178 x179 x180 x181 x182 x183 B x185 x186 x187 x188 b y x191 x192 x193 x194 = z0x φ k x173 x174 x175 x176 x177 x178 x179 x180 x181 x185 x186 x182 x187 x188 x192 x193 x194 (b ++ B) (y ++ List.replicate B.length x183) x191 := by
  refine z03 (fun n i (s : List zb × List (Nat → Ref)) => z24 φ k n (B.length : Int) i x173 x174 x175 x176 x177 x178 x179 x180 x181 x182 x183 B x185 x186 x187 x188 s.1 s.2 x191 x192 x193 x194) B.length (fun i s => s.1 = b ++ B.take i ∧ s.2 = y ++ List.replicate i x183) (fun o => o = z0x φ k x173 x174 x175 x176 x177 x178 x179 x180 x181 x185 x186 x182 x187 x188 x192 x193 x194 (b ++ B) (y ++ List.replicate B.length x183) x191) ?_ ?_ φ (b, y) ⟨by simp, by simp⟩ (by omega)
  · intro n i s hi ⟨h1, h2⟩ hs
    rw [z24, if_pos (by simp; omega), z7 ⟨by omega, by omega⟩, z7 (zem (by rw [h1]; simp; omega) (by omega)), z7 (zem (by rw [h2]; simp; omega) (by omega)), W_id (by omega) (by omega)]
    exact hs (_, _) ⟨by rw [h1, z0g B i hi, List.append_assoc], by rw [h2, List.replicate_succ', List.append_assoc]⟩
  · intro n s ⟨h1, h2⟩
    rw [z24, if_neg (by simp), h1, h2, List.take_length]
/-- The travel zbr and what follows it. -/
theorem zye (hφ : 800000 < φ) (k) (T : List z6) (n : Nat) (hn : n < T.length) (x115 x116 x117 x118 x119 x120) (x122 : Pool) (x123 : Int) (x125 : List (Int × Int)) (e : z6) (pr : Option zj) (hpr : pr = if 0 < n then some (gt T ((n : Int) - 1)).visit else none) (x127 x128 x129) (b : List zb) (y : List (Nat → Ref)) (x132) (hb : b.length ≤ 50000000) (hy : y.length ≤ 50000000) (h15 : 0 ≤ x115 ∧ x115 ≤ 100000000) (hT : n ≤ 100000000) :
    z0x φ k T (n : Int) x115 x116 x117 x118 x119 x120 (n : Int) x122 x123 (x115 + 1) x125 e x127 x128 x129 b y x132 =
      k T x116 x117 x118 x119 x120 ((n + 1 : Nat) : Int) x122 x123 (x115 + 1) x125 x127 x128 x129 (b ++ trB (tvl φ x122.network) x115 pr e) (y ++ trY pr e) x132 := by
  have hW : W ((n : Int) + 1) = ((n + 1 : Nat) : Int) := by rw [W_id (by omega) (by omega)]; omega
  unfold z0x
  by_cases h : 0 < n
  · obtain ⟨ht, t1, t2⟩ := y3p φ hφ x122.network (gt T ((n : Int) - 1)).visit e.visit
    rw [if_pos (by simp; omega), W_id (x := (n : Int) - 1) (by omega) (by omega), z7 ⟨by omega, by omega⟩, ht, Option.bind_some, W_id (x := x115 - 1) (by omega) (by omega)]
    rw [hpr, if_pos h]
    simp only [trB, trY]
    generalize tvl φ x122.network (gt T ((n : Int) - 1)).visit e.visit = tt at *
    rw [W_id (x := 0 - tt) (by omega) (by omega)]
    refine (yan φ (by omega) k T x116 x117 x118 x119 x120 (n : Int) _ _ _ _ _ _ _ _ _ _ _ _ _ _ ([⟨x115, x115 - 1, 0 - tt⟩] : List zb) x122 x123 x125 _ _ b y x132 x127 x128 x129 (by simp) hb hy).trans ?_
    rw [hW]
    rfl
  · rw [if_neg (by simp; omega), hW, hpr, if_neg h]
    simp only [trB, trY, List.append_nil]
/-- One z9d. -/
theorem zuv (hφ : 800000 < φ) (k) (x96 x97 x98) (T : List z6) (hE : ∀ e ∈ T, 0 ≤ e.visit.early ∧ e.visit.early ≤ 1073741824) (x102 : Pool) (x103 : Int) (m : List (Int × Int)) (g1 g2 g3) (hT : T.length ≤ 2000) :
    ∀ (n i N : Nat) (s : BS), T.length < n + i → i ≤ T.length → BB N s → N ≤ 8300000 + i →
      z0a φ k n T x96 x97 x98 T (T.length : Int) (i : Int) x102 x103 s.v m g1 g2 g3 s.b s.y s.e =
        (fun s' : BS => k x96 x97 (W (x98 + 1)) x102 x103 s'.v m g1 g2 g3 s'.b s'.y s'.e) (bEv (tvl φ x102.network) m (if 0 < i then some (gt T ((i : Int) - 1)).visit else none) (T.drop i) s) := by
  intro n
  induction n with
  | zero => intro i N s h1 h2; exfalso; omega
  | succ n ih =>
    intro i N s h1 h2 hB hN
    obtain ⟨v0, v1, b1, b2, b3⟩ := hB
    by_cases hi : i < T.length
    · obtain ⟨e0, e1⟩ := hE _ (z1z (l := T) (i := (i : Int)) (by omega) (by omega))
      have hWv : W (s.v + 1) = s.v + 1 := W_id (by omega) (by omega)
      have hWe : W (0 - (gt T (i : Int)).visit.early) = 0 - (gt T (i : Int)).visit.early := W_id (by omega) (by omega)
      have hnext := ih (i + 1) (N + 1) (zi3 (tvl φ x102.network) m (if 0 < i then some (gt T ((i : Int) - 1)).visit else none) (gt T (i : Int)) s) (by omega) (by omega) (BB.step ⟨v0, v1, b1, b2, b3⟩ _ _ _ _) (by omega)
      rw [if_pos (show 0 < i + 1 by omega), show ((i + 1 : Nat) : Int) - 1 = (i : Int) by omega] at hnext
      rw [zql T i hi]
      refine Eq.trans ?_ hnext
      rw [z0a, if_pos (by simp; omega), z7 ⟨by omega, by omega⟩, z7 (zem (by simp; omega) (by omega)), hWv, hWe]
      by_cases hr : (gt T (i : Int)).reader < 0
      · rw [if_pos (by simpa using hr)]
        refine (yab φ (by omega) (z0a φ k n) T (i : Int) s.v x96 x97 x98 T (T.length : Int) (i : Int) (s.v + 1) (y1 (gt T (i : Int)).visit.ref) ([⟨0, s.v, (gt T (i : Int)).visit.early⟩, ⟨s.v, 0, 0 - (gt T (i : Int)).visit.early⟩] : List zb) x102 x103 m (gt T (i : Int)) s.b s.y _ g1 g2 g3 (by simp) (by omega) (by omega)).trans ?_
        refine (zye φ hφ (z0a φ k n) T i hi s.v x96 x97 x98 T (T.length : Int) x102 x103 m (gt T (i : Int)) _ rfl g1 g2 g3 _ _ _ (by simp; omega) (by simp; omega) ⟨by omega, by omega⟩ (by omega)).trans ?_
        simp only [zi3, evB, evY, if_pos hr]
        rfl
      · rw [if_neg (by simpa using hr)]
        refine (yaf φ (by omega) (z0a φ k n) T (i : Int) s.v x96 x97 x98 T (T.length : Int) (i : Int) (s.v + 1) (y1 (gt T (i : Int)).visit.ref) ([⟨rv m (gt T (i : Int)), s.v, (gt T (i : Int)).visit.early⟩, ⟨s.v, rv m (gt T (i : Int)), 0 - (gt T (i : Int)).visit.early⟩, ⟨0, s.v, 1073741824⟩, ⟨s.v, 0, 0⟩] : List zb) x102 x103 m (gt T (i : Int)) s.b s.y _ g1 g2 g3 (by simp) (by omega) (by omega)).trans ?_
        refine (zye φ hφ (z0a φ k n) T i hi s.v x96 x97 x98 T (T.length : Int) x102 x103 m (gt T (i : Int)) _ rfl g1 g2 g3 _ _ _ (by simp; omega) (by simp; omega) ⟨by omega, by omega⟩ (by omega)).trans ?_
        simp only [zi3, evB, evY, if_neg hr]
        rfl
    · have : i = T.length := by omega
      subst this
      rw [z0a, if_neg (by simp), List.drop_length]
      rfl
/-- All tracks. -/
theorem zqf (hφ : 800000 < φ) (ts : List (List z6)) (hE : ∀ T ∈ ts, T.length ≤ 2000 ∧ ∀ e ∈ T, 0 ≤ e.visit.early ∧ e.visit.early ≤ 1073741824) (hts : ts.length ≤ 4096) (x84 : Pool) (x85 : Int) (m : List (Int × Int)) (g1 g2 g3) (s : BS) (hs : BB 0 s) :
    z1v φ φ ts (ts.length : Int) 0 x84 x85 s.v m g1 g2 g3 s.b s.y s.e = some (bEnd (ts.foldl (fun s t => bEv (tvl φ x84.network) m none t s) s)) := by
  refine z03 (fun n i (s : BS) => z1v φ n ts (ts.length : Int) i x84 x85 s.v m g1 g2 g3 s.b s.y s.e) ts.length (fun i s' => BB (2000 * i) s' ∧ s' = (ts.take i).foldl (fun s t => bEv (tvl φ x84.network) m none t s) s) (fun o => o = some (bEnd (ts.foldl (fun s t => bEv (tvl φ x84.network) m none t s) s))) ?_ ?_ φ s ⟨hs, rfl⟩ (by omega)
  · intro n i s' hi ⟨h1, h2⟩ hk
    obtain ⟨q1, q2⟩ := hE _ (z1z (l := ts) (i := (i : Int)) (by omega) (by omega))
    rw [z1v, if_pos (by simp; omega), z7 ⟨by omega, by omega⟩]
    have := zuv φ hφ (z1v φ n) ts (ts.length : Int) (i : Int) (gt ts (i : Int)) q2 x84 x85 m g1 g2 g3 q1 φ 0 (2000 * i) s' (by omega) (by omega) h1 (by omega)
    refine this.trans ?_
    simp only [W_id (x := (i : Int) + 1) (by omega) (by omega), List.drop_zero]
    rw [if_neg (by omega)]
    refine hk _ ⟨?_, ?_⟩
    · have := BB.ev (tvl φ x84.network) m (gt ts (i : Int)) (2000 * i) none s' h1
      obtain ⟨a, b, c, d, f⟩ := this
      exact ⟨a, by omega, by omega, by omega, by omega⟩
    · rw [z0g ts i hi, List.foldl_append, ← h2]; rfl
  · intro n s' ⟨h1, h2⟩
    rw [List.take_length] at h2
    rw [z1v, if_neg (by simp), ← h2]
    unfold bEnd
    by_cases h : 512 < s'.v ∨ 4096 < s'.b.length
    · rw [if_pos (by simp; omega), if_pos h]
    · rw [if_neg (by simp; omega), if_neg h]
/-- The readers. -/
theorem zp5 (hφ : 800000 < φ) (ts : List (List z6)) (hE : ∀ T ∈ ts, T.length ≤ 2000 ∧ ∀ e ∈ T, 0 ≤ e.visit.early ∧ e.visit.early ≤ 1073741824) (hts : ts.length ≤ 4096) (p : Pool) (hp : p.readers.length ≤ 256) (hr : ∀ r ∈ p.readers, -1000 ≤ r.low ∧ r.low ≤ 1000) (x43 : Int) (m : List (Int × Int)) (g1 g2) :
    z19 φ φ ts p.readers (p.readers.length : Int) 0 p x43 1 m g1 g2 [] [] [] [] = some (bEnd (ts.foldl (fun s t => bEv (tvl φ p.network) (rdsN p.readers m p.readers.length).m none t s) ⟨(rdsN p.readers m p.readers.length).v, (rdsN p.readers m p.readers.length).b, (rdsN p.readers m p.readers.length).y, []⟩)) := by
  refine z03 (fun n i (s : RS) => z19 φ n ts p.readers (p.readers.length : Int) i p x43 s.v s.m g1 g2 [] s.b s.y []) p.readers.length (fun i s => s = rdsN p.readers m i) (fun o => o = _) ?_ ?_ φ ⟨1, m, [], []⟩ rfl (by omega)
  · intro n i s hi hs hk
    obtain ⟨a1, a2, a3, a4⟩ := zak p.readers m i
    rw [← hs] at a1 a2 a3 a4
    obtain ⟨r1, r2⟩ := hr _ (z1z (l := p.readers) (i := (i : Int)) (by omega) (by omega))
    have hk' := hk (rdsN p.readers m (i + 1)) rfl
    simp only [rdsN, zkz] at hk'
    rw [← hs] at hk'
    have hW : W ((i : Int) + 1) = (i : Int) + 1 := W_id (by omega) (by omega)
    rw [z19, if_pos (by simp; omega), z7 ⟨by omega, by omega⟩]
    by_cases h : (mget s.m (i : Int)).isSome = true
    · rw [if_pos h] at hk' ⊢
      have hWl : W (0 - (gt p.readers (i : Int)).low) = 0 - (gt p.readers (i : Int)).low := W_id (by omega) (by omega)
      rw [hWl]
      refine (yaz φ (by omega) (z19 φ n) ts p.readers (p.readers.length : Int) (i : Int) _ _ _ _ _ _ _ _ _ _ ([⟨0, s.v, 0 - (gt p.readers (i : Int)).low⟩, ⟨s.v, 0, (gt p.readers (i : Int)).high⟩] : List zb) p x43 (mset s.m (i : Int) s.v) _ s.b s.y [] g1 g2 [] (by simp) (by omega) (by omega)).trans ?_
      rw [hW, W_id (x := s.v + 1) (by omega) (by omega)]
      exact hk'
    · rw [if_neg h] at hk' ⊢
      rw [hW]
      exact hk'
  · intro n s hs
    rw [z19, if_neg (by simp), ← hs]
    obtain ⟨a1, a2, a3, a4⟩ := zak p.readers m p.readers.length
    rw [← hs] at a1 a2 a3 a4
    exact zqf φ hφ ts hE hts p x43 s.m g1 g2 [] ⟨s.v, s.b, s.y, []⟩ ⟨a1, by show s.v ≤ _; omega, by show s.b.length ≤ _; omega, by show s.y.length ≤ _; omega, by simp⟩
/-- One track's readers. -/
theorem zwb (k) (x20 x21 x22 x23) (T : List z6) (hT : T.length ≤ 2000) (hφ : 800000 < φ) (x27 x28 x29 x30 x31 x32 x33 x34 x35 x36) :
    z1s φ k φ x20 x21 x22 x23 T (T.length : Int) 0 x27 x28 x29 x30 x31 x32 x33 x34 x35 x36 = k x20 x21 x22 (W (x23 + 1)) x27 x28 x29 (zez x30 T) x31 x32 x33 x34 x35 x36 := by
  refine z03 (fun n i (m : List (Int × Int)) => z1s φ k n x20 x21 x22 x23 T (T.length : Int) i x27 x28 x29 m x31 x32 x33 x34 x35 x36) T.length (fun i m => m = zez x30 (T.take i)) (fun o => o = _) ?_ ?_ φ x30 rfl (by omega)
  · intro n i m hi hm hk
    have hk' := hk (zez x30 (T.take (i + 1))) rfl
    rw [z0g T i hi] at hk'
    simp only [zez, List.foldl_append, List.foldl_cons, List.foldl_nil] at hk' hm
    rw [← hm] at hk'
    rw [z1s, if_pos (by simp; omega), z7 ⟨by omega, by omega⟩, W_id (by omega) (by omega)]
    unfold zqj at hk'
    by_cases h : 0 ≤ (gt T (i : Int)).reader
    · rw [if_pos h] at hk'
      rw [if_pos (by simpa using h)]
      exact hk'
    · rw [if_neg h] at hk'
      rw [if_neg (by simpa using h)]
      exact hk'
  · intro n m hm
    rw [List.take_length] at hm
    rw [z1s, if_neg (by simp), hm]
theorem zxm {p : Pool} {r : ze} (h : zph p r.item) {i : Int} {x : z6} (hx : x ∈ evs p r i) : 0 ≤ x.visit.early ∧ x.visit.early ≤ 1073741824 := by
  have hf := h.from_
  have ht := h.to
  unfold evs at hx
  split at hx
  · simp only [List.mem_singleton] at hx; subst hx
    simp only [z64]; omega
  · split at hx
    · simp only [List.mem_cons, List.not_mem_nil, or_false] at hx
      rcases hx with rfl | rfl <;> simp only [z64] <;> omega
    · split at hx
      · simp only [List.mem_singleton] at hx; subst hx
        simp only [z64]; omega
      · cases hx
theorem zpv : ∀ {t : List z6} {m : List (Int × Bool)} {x : z6}, x ∈ zhp t m → ∃ y ∈ t, ∃ b, x = ze1 y b
  | [], m, x, h => by cases h
  | e :: t, m, x, h => by
    rcases List.mem_cons.1 h with rfl | h
    · exact ⟨e, List.mem_cons_self, _, rfl⟩
    · obtain ⟨y, hy, b, hb⟩ := zpv h
      exact ⟨y, List.mem_cons_of_mem _ hy, b, hb⟩
theorem zfl {p : Pool} {l : List ze} {w : Int} {x : z6} (h : x ∈ z9d p l w) : ∃ y ∈ uns p l w, ∃ b, x = ze1 y b := by
  obtain ⟨y, hy, b, hb⟩ := zpv h
  exact ⟨y, (z1c _ _).mem_iff.1 hy, b, hb⟩
theorem zq1 {p : Pool} (hc : z0b p = 0) {l : List ze} (hl : FewL l) {w : Int} {x : z6} (h : x ∈ z9d p l w) : 0 ≤ x.visit.early ∧ x.visit.early ≤ 1073741824 := by
  obtain ⟨y, hy, b, rfl⟩ := zfl h
  obtain ⟨h1, h2, _, h3, h4⟩ := zj7 hl.len hy
  show 0 ≤ y.visit.early ∧ y.visit.early ≤ 1073741824
  exact zxm (zev hc (hl.gt h1 h2) h3) h4
/-- What Build answers. -/
theorem y0f (hφ : 800000 < φ) (p : Pool) {l : List ze} (hl : FewL l) :
    z9i φ p l = some (if z0b p = 0 then bEnd (bAll (tvl φ p.network) p.readers (z0k p l)) else (⟨0, [], [], []⟩, z0b p, ())) := by
  unfold z9i
  rw [z68 φ hφ, Option.bind_some]
  by_cases hc : z0b p = 0
  case neg => rw [if_pos (by simpa using hc), if_neg hc]
  rw [if_neg (by simp [hc]), if_pos hc, zxl φ hφ hc hl, Option.bind_some]
  obtain ⟨_, hf, hr1, _⟩ := z6z hc
  obtain ⟨_, f2, _⟩ := z94 hf
  have hrd := (zgh hc).1
  show z1r φ φ (z0k p l) (z0k p l) ((z0k p l).length : Int) 0 p 0 1 [] [] [] [] [] [] [] = _
  have hlen : (z0k p l).length ≤ 4096 := by unfold z0k; simp; omega
  have hE : ∀ T ∈ z0k p l, T.length ≤ 2000 ∧ ∀ e ∈ T, 0 ≤ e.visit.early ∧ e.visit.early ≤ 1073741824 := by
    intro T hT
    unfold z0k at hT
    obtain ⟨w, _, rfl⟩ := List.mem_map.1 hT
    exact ⟨zwu hl.len _, fun e he => zq1 hc hl he⟩
  generalize z0k p l = ts at *
  refine z03 (fun n i (m : List (Int × Int)) => z1r φ n ts ts (ts.length : Int) i p 0 1 m [] [] [] [] [] []) ts.length (fun i m => m = (ts.take i).foldl zez []) (fun o => o = some (bEnd (bAll (tvl φ p.network) p.readers ts))) ?_ ?_ φ [] rfl (by omega)
  · intro n i m hi hm hk
    rw [z1r, if_pos (by simp; omega), z7 ⟨by omega, by omega⟩]
    rw [zwb φ (z1r φ n) ts ts (ts.length : Int) (i : Int) (gt ts (i : Int)) (hE _ (z1z (by omega) (by omega))).1 hφ, W_id (by omega) (by omega)]
    exact hk _ (by rw [z0g ts i hi, List.foldl_append, ← hm]; rfl)
  · intro n m hm
    rw [List.take_length] at hm
    rw [z1r, if_neg (by simp)]
    refine (zp5 φ hφ ts hE hlen p hr1 (fun r hr => ?_) 0 m [] []).trans ?_
    · have := hrd r hr; omega
    · rw [hm]; rfl
end
end Px
end
section
namespace Px
open Go
set_option linter.unusedVariables false
set_option linter.unusedSimpArgs false
/-- All Refs are different. -/
def zbp (l : List ze) : Prop := l.Pairwise fun a b => a.ref ≠ b.ref
theorem zbp.perm {l l' : List ze} (h : zbp l) (hp : l'.Perm l) : zbp l' := (hp.pairwise_iff (R := fun a b : ze => a.ref ≠ b.ref) (fun h => h.symm)).2 h
/-- The first report with a Ref. -/
def idx : List ze → Ref → Int
  | [], _ => 0
  | r :: l, q => if r.ref.railway = q.railway ∧ r.ref.no = q.no then 0 else idx l q + 1
theorem y3w {a b : Ref} : a = b ↔ a.railway = b.railway ∧ a.no = b.no := by
  cases a; cases b; simp
theorem zl3 : ∀ {l : List ze}, zbp l → ∀ i : Nat, i < l.length → idx l (gt l (i : Int)).ref = (i : Int)
  | [], h, i, hi => by simp at hi
  | r :: l, h, 0, hi => by
    show idx (r :: l) r.ref = 0
    simp [idx]
  | r :: l, h, i + 1, hi => by
    have hi' : i < l.length := by simpa using hi
    have e : gt (r :: l) ((i + 1 : Nat) : Int) = gt l (i : Int) := by
      rw [z5n hi, z5n hi']; rfl
    have h' := List.pairwise_cons.1 h
    rw [e]
    unfold idx
    rw [if_neg (fun q => h'.1 (gt l (i : Int)) (z1z (by omega) (by omega)) (y3w.2 q)), zl3 h'.2 i hi']
    omega
def ziy (x : z6) (i : Int) : z6 := ⟨x.visit, i, x.second, x.stay, x.reader⟩
def ren (κ : Int → Int) (x : z6) : z6 := ziy x (κ x.report)
def tag (l : List ze) (x : z6) : z6 := ziy x (idx l x.visit.ref)
theorem zuz (p : Pool) (r : ze) (i : Int) : evs p r i = (evs p r 0).map fun x => ziy x i := by
  unfold evs
  split
  · rfl
  · split
    · rfl
    · split <;> rfl
/-- The events of a wagon, without the numbers of the reports. -/
def evU (p : Pool) (l : List ze) (w : Int) : List z6 := l.flatMap fun r => if zbn p r.item = true ∧ r.item.wagon = w then evs p r 0 else []
theorem zle (p : Pool) (l : List ze) (w : Int) (hd : zbp l) : ∀ n, n ≤ l.length → unsC p l (cntN p l n) w = (evU p (l.take n) w).map (tag l)
  | 0, _ => by simp [cntN, unsC, evU]
  | n + 1, hn => by
    have ih := zle p l w hd n (by omega)
    rw [zom, z0g l n hn]
    unfold unsC evU at *
    rw [List.flatMap_append, List.flatMap_append, List.map_append, ih]
    congr 1
    have hi := zl3 hd n hn
    have key : evs p (gt l (n : Int)) (n : Int) = (evs p (gt l (n : Int)) 0).map (tag l) := by
      rw [zuz p _ (n : Int)]
      refine List.map_congr_left fun x hx => ?_
      unfold tag
      rw [(zat hx).2.2, hi]
    cases h : zbn p (gt l (n : Int)).item with
    | true =>
      simp only [cond_true, List.flatMap_cons, List.flatMap_nil, List.append_nil, h, true_and]
      split
      · exact key
      · rfl
    | false => simp [h]
theorem zqm (p : Pool) (l : List ze) (w : Int) (hd : zbp l) : uns p l w = (evU p l w).map (tag l) := by
  have := zle p l w hd l.length (Nat.le_refl _)
  rw [List.take_length] at this
  exact this
/-- The order of events, without the numbers of the reports. -/
def lt0 (a b : z6) : Bool := ltEv (ziy a 0) (ziy b 0)
theorem zzc (l : List ze) (a b : z6) : ltEv (tag l a) (tag l b) = lt0 a b := by
  unfold lt0 ltEv
  refine decide_eq_decide.2 ?_
  rw [zai, zai]
  simp only [tag, ziy]
  have : a.visit.ref.railway = b.visit.ref.railway → a.visit.ref.no = b.visit.ref.no → idx l a.visit.ref = idx l b.visit.ref := fun h1 h2 => by rw [y3w.2 ⟨h1, h2⟩]
  omega
theorem znd : Sort.SWO ltEv where
  irrefl := fun x => by
    unfold ltEv
    simp only [decide_eq_false_iff_not]
    rw [zai]; omega
  trans := fun x y z h1 h2 => by
    unfold ltEv at *
    simp only [decide_eq_true_eq] at *
    rw [zai] at *
    omega
  ntrans := fun x y z h1 h2 => by
    unfold ltEv at *
    simp only [decide_eq_false_iff_not] at *
    rw [zai] at *
    omega
theorem zxd : Sort.SWO lt0 where
  irrefl := fun x => znd.irrefl _
  trans := fun x y z h1 h2 => znd.trans _ _ _ h1 h2
  ntrans := fun x y z h1 h2 => znd.ntrans _ _ _ h1 h2
theorem zy1 (p : Pool) (l : List ze) (w : Int) (hd : zbp l) : srt p l w = (zao lt0 (evU p l w)).map (tag l) := by
  unfold srt
  rw [zqm p l w hd, ← zk3]
  congr 2
  funext a b
  exact zzc l a b
theorem y1x (p : Pool) (l : List ze) (w : Int) (hd : zbp l) : (evU p l w).Pairwise fun a b => (lt0 a b || lt0 b a) = true := by
  have := y4c p l w
  rw [zqm p l w hd, List.pairwise_map] at this
  refine this.imp fun {a b} h => ?_
  have := zzf h
  rw [← zzc l a b, ← zzc l b a]
  unfold ltEv
  simpa using this
theorem y0b (p : Pool) {l l' : List ze} (w : Int) (hp : l'.Perm l) : (evU p l' w).Perm (evU p l w) := hp.flatMap_right _
theorem y2p (p : Pool) {l l' : List ze} (w : Int) (hd : zbp l) (hp : l'.Perm l) : zao lt0 (evU p l' w) = zao lt0 (evU p l w) :=
  zlc (y1x p l w hd) ((z1c _ _).trans (y0b p w hp)) (z1c _ _) (z7m zxd _) (z7m zxd _)
/-- Maps whose keys are renamed. -/
def renK (κ : Int → Int) (m : List (Int × Bool)) : List (Int × Bool) := m.map fun q => (κ q.1, q.2)
def InjD (D : Int → Prop) (κ : Int → Int) : Prop := ∀ a b, D a → D b → κ a = κ b → a = b
theorem zwp {D : Int → Prop} {κ : Int → Int} (h : InjD D κ) {a b : Int} (ha : D a) (hb : D b) : (κ a == κ b) = (a == b) := by
  by_cases e : a = b
  · subst e; simp
  · have : κ a ≠ κ b := fun q => e (h a b ha hb q)
    rw [(beq_eq_false_iff_ne).2 e, (beq_eq_false_iff_ne).2 this]
theorem ztr {D : Int → Prop} {κ : Int → Int} (h : InjD D κ) (v : Bool) {k : Int} (hk : D k) : ∀ {m : List (Int × Bool)}, (∀ q ∈ m, D q.1) → mset (renK κ m) (κ k) v = renK κ (mset m k v)
  | [], _ => rfl
  | (a, b) :: m, hm => by
    have h1 := zwp h hk (hm (a, b) List.mem_cons_self)
    have ih := ztr h v hk (m := m) fun q hq => hm q (List.mem_cons_of_mem _ hq)
    show (bif κ k == κ a then (κ k, v) :: renK κ m else (κ a, b) :: mset (renK κ m) (κ k) v) = renK κ (bif k == a then (k, v) :: m else (a, b) :: mset m k v)
    rw [h1, ih]
    cases k == a <;> rfl
theorem zs3 {D : Int → Prop} {κ : Int → Int} (h : InjD D κ) {k : Int} (hk : D k) : ∀ {m : List (Int × Bool)}, (∀ q ∈ m, D q.1) → mdel (renK κ m) (κ k) = renK κ (mdel m k)
  | [], _ => rfl
  | (a, b) :: m, hm => by
    have h1 := zwp h hk (hm (a, b) List.mem_cons_self)
    have ih := zs3 h hk (m := m) fun q hq => hm q (List.mem_cons_of_mem _ hq)
    show (bif κ k == κ a then renK κ m else (κ a, b) :: mdel (renK κ m) (κ k)) = renK κ (bif k == a then m else (a, b) :: mdel m k)
    rw [h1, ih]
    cases k == a <;> rfl
theorem zsb {D : Int → Prop} {k : Int} {v : Bool} (hk : D k) : ∀ {m : List (Int × Bool)}, (∀ q ∈ m, D q.1) → ∀ q ∈ mset m k v, D q.1
  | [], _, q, hq => by
    have := List.mem_singleton.1 hq
    subst this; exact hk
  | (a, b) :: m, hm, q, hq => by
    have hq : q ∈ (bif k == a then (k, v) :: m else (a, b) :: mset m k v) := hq
    cases e : k == a <;> rw [e] at hq
    · rcases List.mem_cons.1 hq with rfl | hq
      · exact hm _ List.mem_cons_self
      · exact zsb hk (fun q hq => hm q (List.mem_cons_of_mem _ hq)) q hq
    · rcases List.mem_cons.1 hq with rfl | hq
      · exact hk
      · exact hm _ (List.mem_cons_of_mem _ hq)
theorem zsq {D : Int → Prop} {k : Int} : ∀ {m : List (Int × Bool)}, (∀ q ∈ m, D q.1) → ∀ q ∈ mdel m k, D q.1
  | [], _, q, hq => by cases hq
  | (a, b) :: m, hm, q, hq => by
    have hq : q ∈ (bif k == a then m else (a, b) :: mdel m k) := hq
    cases e : k == a <;> rw [e] at hq
    · rcases List.mem_cons.1 hq with rfl | hq
      · exact hm _ List.mem_cons_self
      · exact zsq (fun q hq => hm q (List.mem_cons_of_mem _ hq)) q hq
    · exact hm _ (List.mem_cons_of_mem _ hq)
theorem zzu {D : Int → Prop} {κ : Int → Int} (h : InjD D κ) {e : z6} (he : D e.report) {m : List (Int × Bool)} (hm : ∀ q ∈ m, D q.1) : covM (ren κ e) (renK κ m) = renK κ (covM e m) ∧ ∀ q ∈ covM e m, D q.1 := by
  unfold covM
  show (if (e.stay && e.second) = true then mdel (renK κ m) (κ e.report) else if e.stay = true then mset (renK κ m) (κ e.report) true else renK κ m) = _ ∧ _
  split
  · exact ⟨zs3 h he hm, zsq hm⟩
  · split
    · exact ⟨ztr h true he hm, zsb he hm⟩
    · exact ⟨rfl, hm⟩
theorem zon {D : Int → Prop} {κ : Int → Int} (h : InjD D κ) : ∀ {t : List z6} {m : List (Int × Bool)}, (∀ e ∈ t, D e.report) → (∀ q ∈ m, D q.1) → zhp (t.map (ren κ)) (renK κ m) = (zhp t m).map (ren κ)
  | [], _, _, _ => rfl
  | e :: t, m, ht, hm => by
    obtain ⟨h1, h2⟩ := zzu h (ht e List.mem_cons_self) hm
    have ih := zon h (t := t) (m := covM e m) (fun x hx => ht x (List.mem_cons_of_mem _ hx)) h2
    show ze1 (ren κ e) (decide ((0 : Int) < ((covM (ren κ e) (renK κ m)).length : Int))) :: zhp (t.map (ren κ)) (covM (ren κ e) (renK κ m)) = _
    rw [h1, ih]
    have : (renK κ (covM e m)).length = (covM e m).length := by simp [renK]
    rw [this]
    rfl
/-- Tracks of reports in another order. -/
theorem zty {p : Pool} {l l' : List ze} (hl : l.length ≤ 1000) (hd : zbp l) (hp : l'.Perm l) (w : Int) : ∃ κ, z9d p l' w = (z9d p l w).map (ren κ) := by
  have hd' := hd.perm hp
  have hlen := hp.length_eq
  refine ⟨fun i => idx l' (gt l i).ref, ?_⟩
  have hS : srt p l' w = (srt p l w).map (ren fun i => idx l' (gt l i).ref) := by
    rw [zy1 p l w hd, zy1 p l' w hd', y2p p w hd hp, List.map_map]
    refine List.map_congr_left fun x hx => ?_
    have hx := (z1c _ _).mem_iff.1 hx
    have hm : tag l x ∈ uns p l w := by rw [zqm p l w hd]; exact List.mem_map_of_mem hx
    obtain ⟨h1, h2, _, _, h3⟩ := zj7 hl hm
    have h4 := (zat h3).2.2
    simp only [Function.comp, tag, ren, ziy] at *
    rw [← h4]
  unfold z9d
  rw [hS]
  refine zon (D := fun i => 0 ≤ i ∧ i < (l.length : Int)) (m := []) (fun a b ha hb h => ?_) (fun e he => ?_) (fun q hq => by cases hq)
  · have hm : ∀ i, 0 ≤ i → i < (l.length : Int) → ∃ j : Nat, j < l'.length ∧ gt l' (j : Int) = gt l i := fun i h0 h1 => zoi (hp.mem_iff.2 (z1z h0 h1))
    obtain ⟨j1, g1, e1⟩ := hm a ha.1 ha.2
    obtain ⟨j2, g2, e2⟩ := hm b hb.1 hb.2
    have h : idx l' (gt l a).ref = idx l' (gt l b).ref := h
    rw [← e1, ← e2, zl3 hd' j1 g1, zl3 hd' j2 g2] at h
    have hj : j1 = j2 := by omega
    subst hj
    rw [e1] at e2
    have i1 := zl3 hd a.toNat (by omega)
    have i2 := zl3 hd b.toNat (by omega)
    rw [show ((a.toNat : Nat) : Int) = a by omega] at i1
    rw [show ((b.toNat : Nat) : Int) = b by omega] at i2
    rw [← i1, ← i2, e2]
  · obtain ⟨h1, h2, _⟩ := zj7 hl ((z1c _ _).mem_iff.1 he)
    exact ⟨h1, h2⟩
theorem zob (κ : Int → Int) : ∀ (t : List z6) (m : List (Int × Int)), zez m (t.map (ren κ)) = zez m t
  | [], _ => rfl
  | e :: t, m => zob κ t (zqj m e)
theorem zvq (tv : zj → zj → Int) (m : List (Int × Int)) (κ : Int → Int) : ∀ (t : List z6) (pr : Option zj) (s : BS), bEv tv m pr (t.map (ren κ)) s = bEv tv m pr t s
  | [], _, _ => rfl
  | e :: t, pr, s => zvq tv m κ t (some e.visit) (zi3 tv m pr e s)
/-- Tracks that differ in the numbers of reports alone. -/
inductive RenL : List (List z6) → List (List z6) → Prop where
  | nil : RenL [] []
  | cons (κ : Int → Int) (t : List z6) {a b : List (List z6)} (h : RenL a b) : RenL (t.map (ren κ) :: a) (t :: b)
theorem y2o {a b : List (List z6)} (h : RenL a b) : ∀ m, a.foldl zez m = b.foldl zez m := by
  induction h with
  | nil => intro m; rfl
  | cons κ t h ih => intro m; rw [List.foldl_cons, List.foldl_cons, zob, ih]
theorem y1m {a b : List (List z6)} (h : RenL a b) (tv m) : ∀ s, a.foldl (fun s t => bEv tv m none t s) s = b.foldl (fun s t => bEv tv m none t s) s := by
  induction h with
  | nil => intro s; rfl
  | cons κ t h ih => intro s; rw [List.foldl_cons, List.foldl_cons, zvq, ih]
theorem y2m {a b : List (List z6)} (h : RenL a b) (tv rs) : bAll tv rs a = bAll tv rs b := by
  have hu : used a = used b := y2o h []
  unfold bAll
  rw [hu, y1m h]
theorem zs2 {p : Pool} {l l' : List ze} (hl : l.length ≤ 1000) (hd : zbp l) (hp : l'.Perm l) : RenL (z0k p l') (z0k p l) := by
  unfold z0k
  induction List.range p.fleet.wagons.length with
  | nil => exact .nil
  | cons w ws ih =>
    obtain ⟨κ, h⟩ := zty (p := p) hl hd hp (w : Int)
    rw [List.map_cons, List.map_cons, h]
    exact .cons κ _ ih
theorem FewL.perm {l l' : List ze} (h : FewL l) (hp : l'.Perm l) : FewL l' := ⟨by rw [hp.length_eq]; exact h.len, fun r hr => h.parts r (hp.mem_iff.1 hr)⟩
theorem zj4 (φ : Nat) (x : List zj) (hb : x.length < φ) (h : x.length ≤ 100000000) : z2s φ x x = some (true, ()) := by
  unfold z2s
  rw [if_neg (by simp)]
  refine z03 (fun n i (_ : Unit) => z1n φ n x x i) x.length (fun _ _ => True) (fun o => o = some (true, ())) ?_ ?_ φ () trivial hb
  · intro n i _ hi _ hs
    rw [z1n, if_pos (by simp; omega), z7 ⟨by omega, by omega⟩, z7 ⟨by omega, by omega⟩, if_neg (by simp), W_id (by omega) (by omega)]
    exact hs () trivial
  intro n _ _
  rw [z1n, if_neg (by simp)]
end Px
end
section
namespace Px
open Go
set_option linter.unusedVariables false
set_option linter.unusedSimpArgs false
def evE (v : Int) (e : z6) : z0v := ⟨e.visit.wagon, e.visit.place, v, e.visit.ref, e.visit.stay⟩
def evsE : Int → List z6 → List z0v
  | _, [] => []
  | v, e :: t => evE v e :: evsE (v + 1) t
def bnds (tv : zj → zj → Int) (m : List (Int × Int)) : Option zj → Int → List z6 → List zb
  | _, _, [] => []
  | pr, v, e :: t => evB m v e ++ trB tv v pr e ++ bnds tv m (some e.visit) (v + 1) t
theorem y2l (tv m) : ∀ (t : List z6) (pr) (s : BS), (bEv tv m pr t s).v = s.v + t.length
  | [], pr, s => by simp [bEv]
  | e :: t, pr, s => by
    rw [bEv, y2l tv m t]
    simp only [zi3, List.length_cons]; omega
theorem y1c (tv m) : ∀ (t : List z6) (pr) (s : BS), (bEv tv m pr t s).b = s.b ++ bnds tv m pr s.v t
  | [], pr, s => by simp [bEv, bnds]
  | e :: t, pr, s => by
    rw [bEv, y1c tv m t]
    simp only [zi3, bnds, List.append_assoc]
theorem zuo (tv m) : ∀ (t : List z6) (pr) (s : BS), (bEv tv m pr t s).e = s.e ++ evsE s.v t
  | [], pr, s => by simp [bEv, evsE]
  | e :: t, pr, s => by
    rw [bEv, zuo tv m t]
    simp only [zi3, evsE, evE, List.append_assoc, List.cons_append, List.nil_append]
theorem zsl : ∀ (t : List z6) (v : Int), (evsE v t).length = t.length
  | [], v => rfl
  | e :: t, v => by simp [evsE, zsl t]
theorem zj3 : ∀ (t : List z6) (v : Int) (i : Nat), (evsE v t)[i]? = (t[i]?).map (evE (v + i))
  | [], v, i => by simp [evsE]
  | e :: t, v, 0 => by simp [evsE]
  | e :: t, v, i + 1 => by
    simp only [evsE, List.getElem?_cons_succ]
    rw [zj3 t (v + 1) i]
    congr 2; omega
/-- The bounds of the event i of a z9d, and the one that leads to it. -/
theorem zm6 (tv m) : ∀ (t : List z6) (pr) (v : Int) (i : Nat) (e : z6), t[i]? = some e → ∀ b ∈ evB m (v + i) e, b ∈ bnds tv m pr v t
  | [], pr, v, i, e, h, b, hb => by simp at h
  | x :: t, pr, v, 0, e, h, b, hb => by
    simp at h; subst h
    rw [show v + ((0 : Nat) : Int) = v by omega] at hb
    simp only [bnds]
    exact List.mem_append_left _ (List.mem_append_left _ hb)
  | x :: t, pr, v, i + 1, e, h, b, hb => by
    simp only [bnds]
    refine List.mem_append_right _ (zm6 tv m t _ (v + 1) i e (by simpa using h) b ?_)
    rw [show v + 1 + (i : Int) = v + ((i + 1 : Nat) : Int) by omega]; exact hb
theorem zyd (tv m) : ∀ (t : List z6) (pr) (v : Int) (i : Nat) (a e : z6), t[i]? = some a → t[i + 1]? = some e → (⟨v + i + 1, v + i, 0 - tv a.visit e.visit⟩ : zb) ∈ bnds tv m pr v t
  | [], pr, v, i, a, e, h, _ => by simp at h
  | [x], pr, v, 0, a, e, h, h2 => by simp at h2
  | x :: y :: t, pr, v, 0, a, e, h, h2 => by
    simp at h h2; subst h; subst h2
    simp only [bnds, trB]
    refine List.mem_append_right _ (List.mem_append_left _ (List.mem_append_right _ (List.mem_singleton.2 ?_)))
    simp
  | x :: t, pr, v, i + 1, a, e, h, h2 => by
    have := zyd tv m t (some x.visit) (v + 1) i a e (by simpa using h) (by simpa using h2)
    simp only [bnds]
    refine List.mem_append_right _ ?_
    rw [show v + ((i + 1 : Nat) : Int) + 1 = v + 1 + (i : Int) + 1 by omega, show v + ((i + 1 : Nat) : Int) = v + 1 + (i : Int) by omega]
    exact this
theorem zky (tv m) : ∀ (t : List z6) (pr) (v : Int) (b : zb), b ∈ bnds tv m pr v t → ∃ i : Nat, ∃ e : z6, t[i]? = some e ∧ (b ∈ evB m (v + i) e ∨ ∃ a : zj, (0 < i ∨ pr.isSome = true) ∧ b = ⟨v + i, v + i - 1, 0 - tv a e.visit⟩)
  | [], pr, v, b, h => by simp [bnds] at h
  | x :: t, pr, v, b, h => by
    simp only [bnds, List.mem_append] at h
    rcases h with (h | h) | h
    · exact ⟨0, x, rfl, .inl (by rw [show v + ((0 : Nat) : Int) = v by omega]; exact h)⟩
    · cases pr with
      | none => simp [trB] at h
      | some a =>
        simp only [trB, List.mem_singleton] at h
        exact ⟨0, x, rfl, .inr ⟨a, .inr rfl, by rw [h]; simp⟩⟩
    · obtain ⟨i, e, hi, hb⟩ := zky tv m t _ _ b h
      refine ⟨i + 1, e, by simpa using hi, ?_⟩
      rw [show v + ((i + 1 : Nat) : Int) = v + 1 + (i : Int) by omega]
      rcases hb with hb | ⟨a, _, hb⟩
      · exact .inl hb
      · exact .inr ⟨a, .inl (by omega), hb⟩
def fB (tv : zj → zj → Int) (m : List (Int × Int)) (ts : List (List z6)) (s : BS) : BS := ts.foldl (fun s t => bEv tv m none t s) s
theorem y3o (tv m) (A B : List (List z6)) (s : BS) : fB tv m (A ++ B) s = fB tv m B (fB tv m A s) := List.foldl_append ..
theorem zfv (tv m) : ∀ (ts : List (List z6)) (s : BS), s.v ≤ (fB tv m ts s).v ∧ (∃ b, (fB tv m ts s).b = s.b ++ b) ∧ ∃ e, (fB tv m ts s).e = s.e ++ e
  | [], s => ⟨Int.le_refl _, ⟨[], by simp [fB]⟩, [], by simp [fB]⟩
  | t :: ts, s => by
    obtain ⟨h1, ⟨b, h2⟩, e, h3⟩ := zfv tv m ts (bEv tv m none t s)
    have e1 : fB tv m (t :: ts) s = fB tv m ts (bEv tv m none t s) := rfl
    rw [e1]
    rw [y2l] at h1
    rw [y1c] at h2
    rw [zuo] at h3
    exact ⟨by omega, ⟨_, by rw [h2, List.append_assoc]⟩, _, by rw [h3, List.append_assoc]⟩
/-- A z9d within the whole: its first variable, its bounds, its events. -/
theorem znf (tv m) (A B : List (List z6)) (t : List z6) (s : BS) : s.v ≤ (fB tv m A s).v ∧ (fB tv m A s).v + t.length ≤ (fB tv m (A ++ t :: B) s).v ∧
    (∀ b ∈ bnds tv m none (fB tv m A s).v t, b ∈ (fB tv m (A ++ t :: B) s).b) ∧ ∃ e, (fB tv m (A ++ t :: B) s).e = (fB tv m A s).e ++ (evsE (fB tv m A s).v t ++ e) := by
  have e1 : fB tv m (A ++ t :: B) s = fB tv m B (bEv tv m none t (fB tv m A s)) := by rw [y3o]; rfl
  obtain ⟨h1, ⟨b, h2⟩, e, h3⟩ := zfv tv m B (bEv tv m none t (fB tv m A s))
  rw [e1]
  rw [y2l] at h1
  rw [y1c] at h2
  rw [zuo] at h3
  refine ⟨(zfv tv m A s).1, h1, fun x hx => ?_, e, by rw [h3, List.append_assoc]⟩
  rw [h2]
  exact List.mem_append_left _ (List.mem_append_right _ hx)
theorem zxh (tv m) : ∀ (ts : List (List z6)) (s : BS) (b : zb), b ∈ (fB tv m ts s).b → b ∈ s.b ∨ ∃ A t B, ts = A ++ t :: B ∧ b ∈ bnds tv m none (fB tv m A s).v t
  | [], s, b, h => .inl h
  | t :: ts, s, b, h => by
    have e1 : fB tv m (t :: ts) s = fB tv m ts (bEv tv m none t s) := rfl
    rw [e1] at h
    rcases zxh tv m ts _ b h with h2 | ⟨A, t', B, e2, h2⟩
    · rw [y1c] at h2
      rcases List.mem_append.1 h2 with h2 | h2
      · exact .inl h2
      · exact .inr ⟨[], t, ts, rfl, h2⟩
    · exact .inr ⟨t :: A, t', B, by rw [e2]; rfl, h2⟩
theorem zru (tv m) : ∀ (ts : List (List z6)) (s : BS) (x : z0v), x ∈ (fB tv m ts s).e → x ∈ s.e ∨ ∃ A t B, ts = A ++ t :: B ∧ x ∈ evsE (fB tv m A s).v t
  | [], s, b, h => .inl h
  | t :: ts, s, b, h => by
    have e1 : fB tv m (t :: ts) s = fB tv m ts (bEv tv m none t s) := rfl
    rw [e1] at h
    rcases zru tv m ts _ b h with h2 | ⟨A, t', B, e2, h2⟩
    · rw [zuo] at h2
      rcases List.mem_append.1 h2 with h2 | h2
      · exact .inl h2
      · exact .inr ⟨[], t, ts, rfl, h2⟩
    · exact .inr ⟨t :: A, t', B, by rw [e2]; rfl, h2⟩
/-- The variables of the readers. -/
theorem zsr (rs : List z2c) (m : List (Int × Int)) : ∀ n : Nat, (∀ i : Nat, i < n → (mget m (i : Int)).isSome = true → ∃ v, mget (rdsN rs m n).m (i : Int) = some v ∧ 1 ≤ v ∧ v < (rdsN rs m n).v) ∧ ∀ k : Int, (n : Int) ≤ k → mget (rdsN rs m n).m k = mget m k
  | 0 => ⟨fun i h => by omega, fun k _ => rfl⟩
  | n + 1 => by
    obtain ⟨h1, h2⟩ := zsr rs m n
    have hv := (zak rs m n).1
    have h3 := h2 (n : Int) (Int.le_refl _)
    simp only [rdsN, zkz]
    split
    · rename_i hs
      refine ⟨fun i hi hm => ?_, fun k hk => ?_⟩
      · simp only [zer]
        by_cases e : i = n
        · subst e; exact ⟨_, if_pos rfl, hv, by omega⟩
        · obtain ⟨v, q1, q2, q3⟩ := h1 i (by omega) hm
          exact ⟨v, by rw [if_neg (by omega)]; exact q1, q2, by omega⟩
      · simp only [zer]
        rw [if_neg (by omega)]; exact h2 k (by omega)
    · rename_i hs
      refine ⟨fun i hi hm => ?_, fun k hk => h2 k (by omega)⟩
      by_cases e : i = n
      · subst e; rw [h3] at hs; exact absurd hm hs
      · exact h1 i (by omega) hm
theorem ztx {m : List (Int × Int)} {e : z6} {k : Int} (h : (mget m k).isSome = true) : (mget (zqj m e) k).isSome = true := by
  unfold zqj
  split
  · rw [zer]; split
    · rfl
    · exact h
  · exact h
theorem zfy : ∀ (t : List z6) {m : List (Int × Int)} {k : Int}, (mget m k).isSome = true → (mget (zez m t) k).isSome = true
  | [], m, k, h => h
  | e :: t, m, k, h => zfy t (ztx h)
theorem znn : ∀ (t : List z6) (m : List (Int × Int)) (e : z6), e ∈ t → 0 ≤ e.reader → (mget (zez m t) e.reader).isSome = true
  | x :: t, m, e, he, h => by
    rcases List.mem_cons.1 he with rfl | he
    · refine zfy t (m := zqj m e) ?_
      unfold zqj
      rw [if_pos h, zer, if_pos rfl]; rfl
    · exact znn t _ e he h
theorem zx7 (ts : List (List z6)) {k : Int} : ∀ {m : List (Int × Int)}, (mget m k).isSome = true → (mget (ts.foldl zez m) k).isSome = true := by
  induction ts with
  | nil => intro m h; exact h
  | cons t ts ih => intro m h; rw [List.foldl_cons]; exact ih (zfy t h)
theorem y3e (ts : List (List z6)) : ∀ (m : List (Int × Int)) (t : List z6) (e : z6), t ∈ ts → e ∈ t → 0 ≤ e.reader → (mget (ts.foldl zez m) e.reader).isSome = true := by
  induction ts with
  | nil => intro m t e ht; cases ht
  | cons x ts ih =>
    intro m t e ht he h
    rw [List.foldl_cons]
    rcases List.mem_cons.1 ht with e1 | ht
    · subst e1
      exact zx7 ts (znn t m e he h)
    · exact ih _ t e ht he h
/-- What is known of the events of all tracks. -/
structure TsOK (rs : List z2c) (ts : List (List z6)) : Prop where
  early : ∀ t ∈ ts, ∀ e ∈ t, 0 ≤ e.visit.early ∧ e.visit.early ≤ 1073741824
  reader : ∀ t ∈ ts, ∀ e ∈ t, e.reader < (rs.length : Int)
  rs : ∀ r ∈ rs, -1000 ≤ r.low ∧ r.low ≤ r.high ∧ r.high ≤ 1000
abbrev rdM (rs : List z2c) (ts : List (List z6)) : List (Int × Int) := (rdsN rs (used ts) rs.length).m
abbrev rd0 (rs : List z2c) (ts : List (List z6)) : BS := ⟨(rdsN rs (used ts) rs.length).v, (rdsN rs (used ts) rs.length).b, (rdsN rs (used ts) rs.length).y, []⟩
theorem zgw (tv) (rs : List z2c) (ts : List (List z6)) : bAll tv rs ts = fB tv (rdM rs ts) ts (rd0 rs ts) := rfl
theorem yb3 {rs : List z2c} {ts : List (List z6)} (h : TsOK rs ts) {t : List z6} (ht : t ∈ ts) {e : z6} (he : e ∈ t) (hr : 0 ≤ e.reader) : mget (rdM rs ts) e.reader = some (rv (rdM rs ts) e) ∧ 1 ≤ rv (rdM rs ts) e ∧ rv (rdM rs ts) e < (rd0 rs ts).v := by
  have h2 := h.reader t ht e he
  have := y3e ts [] t e ht he hr
  obtain ⟨v, q1, q2, q3⟩ := (zsr rs (used ts) rs.length).1 e.reader.toNat (by omega) (by rw [show ((e.reader.toNat : Nat) : Int) = e.reader by omega]; exact this)
  rw [show ((e.reader.toNat : Nat) : Int) = e.reader by omega] at q1
  have e1 : rv (rdM rs ts) e = v := by unfold rv; rw [show mget (rdM rs ts) e.reader = some v from q1]; rfl
  rw [e1]
  exact ⟨q1, q2, q3⟩
/-- The readers' bounds. -/
theorem y3i (rs : List z2c) (m : List (Int × Int)) : ∀ n : Nat, n ≤ rs.length → ∀ b ∈ (rdsN rs m n).b, ∃ r ∈ rs, ∃ v, 1 ≤ v ∧ v < (rdsN rs m n).v ∧ (b = ⟨0, v, 0 - r.low⟩ ∨ b = ⟨v, 0, r.high⟩)
  | 0, _, b, hb => by simp [rdsN] at hb
  | n + 1, hn, b, hb => by
    have hv := (zak rs m n).1
    have ih := y3i rs m n (by omega)
    simp only [rdsN, zkz] at hb ⊢
    split at hb
    · rename_i hs
      rw [if_pos hs]
      simp only [List.mem_append, List.mem_cons, List.not_mem_nil, or_false] at hb
      rcases hb with hb | rfl | rfl
      · obtain ⟨r, hr, v, q1, q2, q3⟩ := ih b hb
        exact ⟨r, hr, v, q1, by simp only; omega, q3⟩
      · exact ⟨_, z1z (l := rs) (i := (n : Int)) (by omega) (by omega), _, hv, by simp only; omega, .inl rfl⟩
      · exact ⟨_, z1z (l := rs) (i := (n : Int)) (by omega) (by omega), _, hv, by simp only; omega, .inr rfl⟩
    · rename_i hs
      rw [if_neg hs]
      exact ih b hb
theorem y8v {rs : List z2c} {ts : List (List z6)} (h : TsOK rs ts) {t : List z6} (ht : t ∈ ts) {e : z6} (he : e ∈ t) {v : Int} (hv : (rd0 rs ts).v ≤ v) {n : Nat} (hn : v < (n : Int)) {b : zb} (hb : b ∈ evB (rdM rs ts) v e) : okBd n b := by
  have h1 := h.early t ht e he
  have h0 := (zak rs (used ts) rs.length).1
  change 1 ≤ (rd0 rs ts).v at h0
  unfold evB at hb
  split at hb
  · simp only [List.mem_cons, List.not_mem_nil, or_false] at hb
    rcases hb with rfl | rfl <;> exact ⟨by simp only; omega, by simp only; omega, by simp only; omega, by simp only; omega, by simp only; omega, by simp only; omega⟩
  · rename_i hr
    obtain ⟨_, q1, q2⟩ := yb3 h ht he (by omega)
    simp only [List.mem_cons, List.not_mem_nil, or_false] at hb
    rcases hb with rfl | rfl | rfl | rfl <;> exact ⟨by simp only; omega, by simp only; omega, by simp only; omega, by simp only; omega, by simp only; omega, by simp only; omega⟩
/-- All bounds are in range. -/
theorem y5b {tv : zj → zj → Int} (htv : ∀ a b, 0 ≤ tv a b ∧ tv a b ≤ 1073741825) {rs : List z2c} {ts : List (List z6)} (h : TsOK rs ts) : 1 ≤ (bAll tv rs ts).v ∧ ∀ b ∈ (bAll tv rs ts).b, okBd (bAll tv rs ts).v.toNat b := by
  have h0 := (zak rs (used ts) rs.length).1
  change 1 ≤ (rd0 rs ts).v at h0
  rw [zgw]
  obtain ⟨m1, m2, m3⟩ := zfv tv (rdM rs ts) ts (rd0 rs ts)
  refine ⟨by omega, fun b hb => ?_⟩
  rcases zxh tv (rdM rs ts) ts _ b hb with hb | ⟨A, t, B, rfl, hb⟩
  · obtain ⟨r, hr, v, q1, q2, q3⟩ := y3i rs (used ts) rs.length (Nat.le_refl _) b hb
    change v < (rd0 rs ts).v at q2
    have := h.rs r hr
    rcases q3 with rfl | rfl <;> exact ⟨by simp only; omega, by simp only; omega, by simp only; omega, by simp only; omega, by simp only; omega, by simp only; omega⟩
  · obtain ⟨k1, k2, k3, k4⟩ := znf tv (rdM rs (A ++ t :: B)) A B t (rd0 rs (A ++ t :: B))
    obtain ⟨i, e, hi, hb⟩ := zky tv _ t none _ b hb
    have hlt := (List.getElem?_eq_some_iff.1 hi).1
    have hte : t ∈ A ++ t :: B := by simp
    have hee : e ∈ t := List.mem_of_getElem? hi
    rcases hb with hb | ⟨a, ha, rfl⟩
    · exact y8v h hte hee (by omega) (by omega) hb
    · have := htv a e.visit
      have hi0 : 0 < i := ha.resolve_right (by simp)
      exact ⟨by simp only; omega, by simp only; omega, by simp only; omega, by simp only; omega, by simp only; omega, by simp only; omega⟩
section
variable {X : Int → Int} {m : List (Int × Int)} {v : Int} {e : z6}
theorem zr9 (hX : ∀ b ∈ evB m v e, X b.j - X b.i ≤ b.w) (he : 0 ≤ e.visit.early ∧ e.visit.early ≤ 1073741824) : 0 ≤ X v - X 0 ∧ X v - X 0 ≤ 1073741824 := by
  unfold evB at hX
  split at hX
  · have h1 := hX ⟨0, v, e.visit.early⟩ (by simp)
    have h2 := hX ⟨v, 0, 0 - e.visit.early⟩ (by simp)
    simp only at h1 h2; omega
  · have h1 := hX ⟨0, v, 1073741824⟩ (by simp)
    have h2 := hX ⟨v, 0, 0⟩ (by simp)
    simp only at h1 h2; omega
end
theorem zp0 {p : Pool} (hc : z0b p = 0) {l : List ze} (hl : FewL l) {w : Int} {x : z6} (h : x ∈ z9d p l w) : x.reader < (p.readers.length : Int) := by
  obtain ⟨y, hy, b, rfl⟩ := zfl h
  obtain ⟨h1, h2, _, h3, h4⟩ := zj7 hl.len hy
  show y.reader < _
  have ho := zev hc (hl.gt h1 h2) h3
  unfold evs at h4
  split at h4
  · rename_i hk
    simp only [List.mem_singleton] at h4
    rw [h4]; exact (ho.read hk).2
  · split at h4
    · simp only [List.mem_cons, List.not_mem_nil, or_false] at h4
      rcases h4 with q | q <;> rw [q] <;> simp only <;> omega
    · split at h4
      · simp only [List.mem_singleton] at h4
        rw [h4]; simp only; omega
      · cases h4
theorem tsOK {p : Pool} (hc : z0b p = 0) {l : List ze} (hl : FewL l) : TsOK p.readers (z0k p l) := by
  refine ⟨fun t ht e he => ?_, fun t ht e he => ?_, fun r hr => ?_⟩
  · obtain ⟨w, _, rfl⟩ := List.mem_map.1 ht; exact zq1 hc hl he
  · obtain ⟨w, _, rfl⟩ := List.mem_map.1 ht; exact zp0 hc hl he
  · have := (zgh hc).1 r hr; omega
end Px
end
section
namespace Px
open Go
set_option linter.unusedVariables false
set_option linter.unusedSimpArgs false
theorem y5r {φ : Nat} {x : zh} {a b : zj} (h : a.stay = true) (h2 : a.place ≠ b.place) : tvl φ x a b = 1073741825 := by
  unfold tvl z3e
  rw [if_pos (by simp [h, h2])]; rfl
theorem y8w {α : Type} [Inhabited α] {l : List α} {i : Nat} (h : i < l.length) : l[i]? = some (gt l (i : Int)) := by rw [z5n h]; exact List.getElem?_eq_getElem h
end Px
end
section
namespace Px
open Go
set_option linter.unusedVariables false
set_option linter.unusedSimpArgs false
theorem yac {φ : Nat} (hφ : 800000 < φ) {x : zh} {a b : zj} (h : tvl φ x a b < 1073741825) : ∃ t, zr φ x a.place b.place = some (t, 0, ()) ∧ tvl φ x a b = t := by
  unfold tvl z3e at h ⊢
  split at h
  · simp at h
  · rename_i hc
    rw [if_neg hc]
    obtain ⟨t, e, hb, _, _⟩ := zll φ hφ x a.place b.place
    rw [hb, Option.bind_some] at h
    rw [hb, Option.bind_some]
    split at h
    · simp at h
    · rename_i he
      rw [if_neg he]
      simp only [bne_iff_ne, ne_eq, Decidable.not_not] at he
      subst he
      exact ⟨t, rfl, rfl⟩
theorem zr8 {α : Type} {A B : List α} {i : Nat} {a b : α} (h1 : (A ++ B)[i]? = some a) (h2 : (A ++ B)[i + 1]? = some b) : (A[i]? = some a ∧ A[i + 1]? = some b) ∨ (a ∈ A ∧ B[0]? = some b) ∨ ∃ k, B[k]? = some a ∧ B[k + 1]? = some b := by
  by_cases q : i + 1 < A.length
  · rw [List.getElem?_append_left q] at h2
    rw [List.getElem?_append_left (by omega)] at h1
    exact .inl ⟨h1, h2⟩
  · rw [List.getElem?_append_right (by omega)] at h2
    by_cases q2 : i < A.length
    · rw [List.getElem?_append_left q2] at h1
      refine .inr (.inl ⟨List.mem_of_getElem? h1, ?_⟩)
      rwa [show i + 1 - A.length = 0 by omega] at h2
    · rw [List.getElem?_append_right (by omega)] at h1
      refine .inr (.inr ⟨i - A.length, h1, ?_⟩)
      rwa [show i + 1 - A.length = i - A.length + 1 by omega] at h2
def y6z (ts : List (List z6)) : Prop := ts.Pairwise fun t t' => ∀ x ∈ t, ∀ y ∈ t', x.visit.wagon ≠ y.visit.wagon
/-- Events that follow each other, of one wagon, are of one z9d. -/
theorem zyu (tv m) (s : BS) (hs : s.e = []) : ∀ (n : Nat) (ts : List (List z6)), ts.length = n → y6z ts → ∀ (i : Nat) (a b : z0v), (fB tv m ts s).e[i]? = some a → (fB tv m ts s).e[i + 1]? = some b → a.wagon = b.wagon →
    ∃ A t B, ∃ k : Nat, ∃ x y, ts = A ++ t :: B ∧ t[k]? = some x ∧ t[k + 1]? = some y ∧ a = evE ((fB tv m A s).v + (k : Int)) x ∧ b = evE ((fB tv m A s).v + ((k + 1 : Nat) : Int)) y
  | 0, ts, hn, _, i, a, b, h1, h2, _ => by
    have : ts = [] := List.eq_nil_of_length_eq_zero hn
    subst this
    simp [fB, hs] at h1
  | n + 1, ts, hn, hA, i, a, b, h1, h2, hw => by
    rcases List.eq_nil_or_concat ts with rfl | ⟨us, t, rfl⟩
    · simp at hn
    · rw [List.concat_eq_append] at *
      have e1 : fB tv m (us ++ [t]) s = bEv tv m none t (fB tv m us s) := by rw [y3o]; rfl
      rw [e1, zuo] at h1 h2
      have hA2 := List.pairwise_append.1 hA
      rcases zr8 h1 h2 with ⟨q1, q2⟩ | ⟨q1, q2⟩ | ⟨k, q1, q2⟩
      · obtain ⟨A, t', B, k, x, y, r1, r2⟩ := zyu tv m s hs n us (by simpa using hn) hA2.1 i a b q1 q2 hw
        exact ⟨A, t', B ++ [t], k, x, y, by rw [r1]; simp, r2⟩
      · exfalso
        rw [zj3] at q2
        obtain ⟨y, hy, rfl⟩ := Option.map_eq_some_iff.1 q2
        rcases zru tv m us s a q1 with h | ⟨A, t', B, r1, r2⟩
        · rw [hs] at h; cases h
        · obtain ⟨j, hj⟩ := List.getElem?_of_mem r2
          rw [zj3] at hj
          obtain ⟨x, hx, rfl⟩ := Option.map_eq_some_iff.1 hj
          exact hA2.2.2 t' (by rw [r1]; simp) t (by simp) x (List.mem_of_getElem? hx) y (List.mem_of_getElem? hy) hw
      · rw [zj3] at q1 q2
        obtain ⟨x, hx, rfl⟩ := Option.map_eq_some_iff.1 q1
        obtain ⟨y, hy, rfl⟩ := Option.map_eq_some_iff.1 q2
        exact ⟨us, t, [], k, x, y, rfl, hx, hy, rfl, rfl⟩
theorem zdz {p : Pool} {l : List ze} (hl : FewL l) {w : Int} {x : z6} (h : x ∈ z9d p l w) : x.visit.wagon = w := by
  obtain ⟨y, hy, b, rfl⟩ := zfl h
  exact (zj7 hl.len hy).2.2.1
theorem znt (p : Pool) {l : List ze} (hl : FewL l) : y6z (z0k p l) := by
  unfold y6z z0k
  rw [List.pairwise_map]
  refine List.pairwise_lt_range.imp fun {a b} hab x hx y hy => ?_
  rw [zdz hl hx, zdz hl hy]
  omega
/-- An event's variable and bounds. -/
theorem yae {tv : zj → zj → Int} {rs : List z2c} {ts : List (List z6)} {ev : z0v} (h : ev ∈ (bAll tv rs ts).e) : ∃ t ∈ ts, ∃ x ∈ t, ∃ v, ev = evE v x ∧ 1 ≤ v ∧ v < (bAll tv rs ts).v ∧ ∀ b ∈ evB (rdM rs ts) v x, b ∈ (bAll tv rs ts).b := by
  rw [zgw] at h ⊢
  have h0 := (zak rs (used ts) rs.length).1
  change 1 ≤ (rd0 rs ts).v at h0
  rcases zru tv (rdM rs ts) ts _ ev h with h | ⟨A, t, B, rfl, h⟩
  · cases h
  · obtain ⟨k1, k2, k3, k4⟩ := znf tv (rdM rs (A ++ t :: B)) A B t (rd0 rs (A ++ t :: B))
    obtain ⟨i, hi⟩ := List.getElem?_of_mem h
    rw [zj3] at hi
    obtain ⟨x, hx, rfl⟩ := Option.map_eq_some_iff.1 hi
    have hlt := (List.getElem?_eq_some_iff.1 hx).1
    exact ⟨t, by simp, x, List.mem_of_getElem? hx, _, rfl, by omega, by omega, fun b hb => k3 b (zm6 tv _ t none _ i x hx b hb)⟩
theorem ya0 {tv : zj → zj → Int} {rs : List z2c} {ts : List (List z6)} {ev : z0v} (h : ev ∈ (bAll tv rs ts).e) : 1 ≤ ev.var ∧ ev.var < (bAll tv rs ts).v := by
  obtain ⟨t, ht, y, hy, v, rfl, v1, v2, hv⟩ := yae h
  exact ⟨v1, v2⟩
theorem zvt (tv m) : ∀ (ts : List (List z6)) (s : BS), (fB tv m ts s).e.length ≤ s.e.length + ((fB tv m ts s).v - s.v).toNat
  | [], s => by simp [fB]
  | t :: ts, s => by
    have ih := zvt tv m ts (bEv tv m none t s)
    have hm := (zfv tv m ts (bEv tv m none t s)).1
    have e1 : fB tv m (t :: ts) s = fB tv m ts (bEv tv m none t s) := rfl
    rw [e1]
    rw [y2l] at ih hm
    rw [zuo, List.length_append, zsl] at ih
    omega
theorem zw5 (tv) (rs : List z2c) (ts : List (List z6)) : ((bAll tv rs ts).e.length : Int) ≤ (bAll tv rs ts).v := by
  have h0 := (zak rs (used ts) rs.length).1
  change 1 ≤ (rd0 rs ts).v at h0
  have := zvt tv (rdM rs ts) ts (rd0 rs ts)
  have hm := (zfv tv (rdM rs ts) ts (rd0 rs ts)).1
  rw [zgw]
  simp only [rd0, List.length_nil] at this
  simp only [rd0] at hm h0 ⊢
  omega
end Px
end
section
namespace Px
open Go
set_option linter.unusedVariables false
set_option linter.unusedSimpArgs false
def znw (n : Int) (L : List zb) : Prop := ∀ v : Int, 1 ≤ v → v < n → (∃ b ∈ L, b.i = 0 ∧ b.j = v) ∧ ∃ b ∈ L, b.i = v ∧ b.j = 0
theorem znw.app {n : Int} {L M : List zb} (h : znw n L) : znw n (L ++ M) := fun v h1 h2 => by
  obtain ⟨⟨b, q1, q2⟩, c, q3, q4⟩ := h v h1 h2
  exact ⟨⟨b, List.mem_append_left _ q1, q2⟩, c, List.mem_append_left _ q3, q4⟩
theorem znr (rs : List z2c) (m : List (Int × Int)) : ∀ n : Nat, znw (rdsN rs m n).v (rdsN rs m n).b
  | 0 => fun v h1 h2 => by simp only [rdsN] at h2; omega
  | n + 1 => by
    have ih := znr rs m n
    simp only [rdsN, zkz]
    split
    · intro v h1 h2
      simp only at h2 ⊢
      by_cases e : v = (rdsN rs m n).v
      · subst e
        exact ⟨⟨_, List.mem_append_right _ (List.mem_cons_self ..), rfl, rfl⟩, _, List.mem_append_right _ (List.mem_cons_of_mem _ (List.mem_cons_self ..)), rfl, rfl⟩
      · exact ih.app v h1 (by omega)
    · exact ih
theorem y02 (m : List (Int × Int)) (v : Int) (e : z6) : (∃ b ∈ evB m v e, b.i = 0 ∧ b.j = v) ∧ ∃ b ∈ evB m v e, b.i = v ∧ b.j = 0 := by
  unfold evB
  split
  · exact ⟨⟨⟨0, v, e.visit.early⟩, by simp, rfl, rfl⟩, ⟨v, 0, 0 - e.visit.early⟩, by simp, rfl, rfl⟩
  · exact ⟨⟨⟨0, v, 1073741824⟩, by simp, rfl, rfl⟩, ⟨v, 0, 0⟩, by simp, rfl, rfl⟩
theorem zts (tv m) : ∀ (t : List z6) (pr) (s : BS), znw s.v s.b → znw (bEv tv m pr t s).v (bEv tv m pr t s).b
  | [], pr, s, h => h
  | e :: t, pr, s, h => zts tv m t _ _ (by
    intro v h1 h2
    simp only [zi3] at h2 ⊢
    by_cases q : v = s.v
    · subst q
      obtain ⟨⟨b, b1, b2⟩, c, c1, c2⟩ := y02 m s.v e
      exact ⟨⟨b, List.mem_append_left _ (List.mem_append_right _ b1), b2⟩, c, List.mem_append_left _ (List.mem_append_right _ c1), c2⟩
    · exact (h.app.app) v h1 (by omega))
theorem zyh (tv m) : ∀ (ts : List (List z6)) (s : BS), znw s.v s.b → znw (fB tv m ts s).v (fB tv m ts s).b
  | [], s, h => h
  | t :: ts, s, h => zyh tv m ts _ (zts tv m t none s h)
theorem zxp (tv) (rs : List z2c) (ts : List (List z6)) : Conn (bAll tv rs ts).b (bAll tv rs ts).v.toNat := by
  have h := zyh tv (rdM rs ts) ts (rd0 rs ts) (znr rs (used ts) rs.length)
  rw [← zgw] at h
  exact fun v h1 h2 => h v h1 (by omega)
/-- A solution. -/
def SolF (s : BS) (X : Int → Int) : Prop := ∀ b ∈ s.b, X b.j - X b.i ≤ b.w
theorem zf1 {s : BS} {X : Int → Int} : SolF s X ↔ SolD false s.b X := by
  unfold SolF SolD bdJ bdI
  simp
theorem ya2 {L : List zb} {d : Int → Int} (h : SolD true L d) : ∀ b ∈ L, (- d b.j) - (- d b.i) ≤ b.w := fun b hb => by
  have := h b hb
  simp only [bdJ, bdI, if_true] at this
  omega
/-- The earliest and the latest solution. -/
structure ETs (s : BS) (E T : Int → Int) : Prop where
  eS : SolF s E
  tS : SolF s T
  e0 : E 0 = 0
  t0 : T 0 = 0
  e : ∀ X, SolF s X → ∀ v, 0 ≤ v → v < s.v → E v ≤ X v - X 0
  t : ∀ X, SolF s X → ∀ v, 0 ≤ v → v < s.v → X v - X 0 ≤ T v
theorem y9z {s : BS} (h1 : 1 ≤ s.v) {d t : Int → Int} (hd : zl5 true s.b s.v.toNat 0 d) (ht : zl5 false s.b s.v.toNat 0 t) : ETs s (fun v => - d v) t := by
  refine ⟨ya2 hd.sat, zf1.2 ht.sat, by have := hd.zero; omega, ht.zero, fun X hX v v0 v1 => ?_, fun X hX v v0 v1 => ht.top X (zf1.1 hX) v v0 (by omega)⟩
  have := hd.top (fun v => - X v) (zsc (zf1.1 hX)) v v0 (by omega)
  omega
section
variable {φ : Nat} (hφ : 800000 < φ) {p : Pool} (hc : z0b p = 0) {l : List ze} (hl : FewL l)
theorem zx4 {p : Pool} (hc : z0b p = 0) {r : ze} (h : zph p r.item) {i : Int} {x : z6} (hx : x ∈ evs p r i) : okPl p.network x.visit.place := by
  unfold evs at hx
  split at hx
  · rename_i hk
    simp only [List.mem_singleton] at hx; subst hx
    obtain ⟨h0, h1⟩ := h.read hk
    have := (zgh hc).1 _ (z1z (l := p.readers) h0 h1)
    exact ⟨this.1, this.2.1⟩
  · split at hx
    · rename_i hk
      have := h.place (by omega)
      simp only [List.mem_cons, List.not_mem_nil, or_false] at hx
      rcases hx with rfl | rfl <;> exact this
    · split at hx
      · rename_i hk
        have := h.place (by omega)
        simp only [List.mem_singleton] at hx; subst hx
        exact this
      · cases hx
include hc hl
theorem zr6 {w : Int} {x : z6} (h : x ∈ z9d p l w) : okPl p.network x.visit.place := by
  obtain ⟨y, hy, b, rfl⟩ := zfl h
  obtain ⟨h1, h2, _, h3, h4⟩ := zj7 hl.len hy
  exact zx4 (x := y) hc (zev hc (hl.gt h1 h2) h3) h4
/-- An event. -/
theorem y7e {tv : zj → zj → Int} {ev : z0v} (h : ev ∈ (bAll tv p.readers (z0k p l)).e) : okPl p.network ev.place ∧ 1 ≤ ev.var ∧ ev.var < (bAll tv p.readers (z0k p l)).v ∧
    (∀ X, SolF (bAll tv p.readers (z0k p l)) X → 0 ≤ X ev.var - X 0 ∧ X ev.var - X 0 ≤ 1073741824) ∧ 0 ≤ ev.wagon ∧ ev.wagon < (p.fleet.wagons.length : Int) := by
  obtain ⟨t, ht, x, hx, v, rfl, v1, v2, hv⟩ := yae h
  have hT := tsOK hc hl
  have ht2 := ht
  obtain ⟨w, hw, rfl⟩ := List.mem_map.1 ht2
  refine ⟨zr6 hc hl hx, v1, v2, fun X hX => zr9 (X := X) (fun b hb => hX b (hv b hb)) (hT.early _ ht x hx), ?_⟩
  have := zdz hl hx
  show 0 ≤ x.visit.wagon ∧ x.visit.wagon < _
  rw [List.mem_range] at hw
  omega
include hφ
/-- Two events of a wagon that follow each other. -/
theorem y9d {s : BS} (hs : s = bAll (tvl φ p.network) p.readers (z0k p l)) {X : Int → Int} (hX : SolF s X) {i : Nat} {a b : z0v} (ha : s.e[i]? = some a) (hb : s.e[i + 1]? = some b) (hw : a.wagon = b.wagon) :
    ∃ t, Dst φ p.network a.place b.place = some t ∧ t ≤ X b.var - X a.var ∧ (a.stay = true → a.place = b.place) := by
  have hT := tsOK hc hl
  subst hs
  rw [zgw] at ha hb
  obtain ⟨A, t, B, k, y, z, e1, hy, hz, rfl, rfl⟩ := zyu (tvl φ p.network) (rdM p.readers (z0k p l)) (rd0 p.readers (z0k p l)) rfl _ (z0k p l) rfl (znt p hl) i a b ha hb hw
  have hsat := hX
  rw [zgw] at hsat
  have ht : t ∈ z0k p l := by rw [e1]; simp
  obtain ⟨k1, k2, k3, k4⟩ := znf (tvl φ p.network) (rdM p.readers (z0k p l)) A B t (rd0 p.readers (z0k p l))
  rw [← e1] at k3
  have q1 := zr9 (X := X) (fun c hc => hsat c (k3 c (zm6 _ _ t none _ k y hy c hc))) (hT.early t ht y (List.mem_of_getElem? hy))
  have q2 := zr9 (X := X) (fun c hc => hsat c (k3 c (zm6 _ _ t none _ (k + 1) z hz c hc))) (hT.early t ht z (List.mem_of_getElem? hz))
  have q3 := hsat _ (k3 _ (zyd (tvl φ p.network) (rdM p.readers (z0k p l)) t none _ k y z hy hz))
  generalize (fB (tvl φ p.network) (rdM p.readers (z0k p l)) A (rd0 p.readers (z0k p l))).v = v at *
  simp only at q3
  rw [show v + ((k + 1 : Nat) : Int) = v + k + 1 by omega] at q2 ⊢
  obtain ⟨n, hn, hn2⟩ := yac (a := y.visit) (b := z.visit) (x := p.network) hφ (by omega)
  refine ⟨n, by show Dst φ p.network y.visit.place z.visit.place = _; unfold Dst; rw [hn]; rfl, by show n ≤ X (v + k + 1) - X (v + k); omega, fun hst => ?_⟩
  show y.visit.place = z.visit.place
  by_cases e : y.visit.place = z.visit.place
  · exact e
  · have := y5r (φ := φ) (x := p.network) (a := y.visit) (b := z.visit) hst e
    omega
end
end Px
end
section
namespace Px
open Go
set_option linter.unusedVariables false
set_option linter.unusedSimpArgs false
theorem yaa {α : Type} [Inhabited α] {a b : List α} (h : a.length = b.length) (hg : ∀ i : Int, 0 ≤ i → i < (a.length : Int) → gt a i = gt b i) : a = b := by
  refine List.ext_getElem h fun i h1 h2 => ?_
  have := hg (i : Int) (by omega) (by omega)
  rw [z5n h1, z5n h2] at this
  exact this
/-- One round. -/
theorem zui (φ : Nat) (k : Int → Int → zo → Bool → Bool → List Int → Option (List Int × Unit)) (x : zo) (r : Bool) (n : Nat) (q : Int) (c : Nat) (s : DS) (hn : n ≤ 512) (hs : DB n c s) (hL : ∀ b ∈ x.bounds, okBd n b) (hl : x.bounds.length ≤ 4096) (hc : c + x.bounds.length ≤ 2100000) (hφ : 5001 < φ) :
    zx φ k φ n q x.bounds (x.bounds.length : Int) 0 x s.c r s.d = k n (W (q + 1)) x (rndD r x.bounds x.bounds.length s).c r (rndD r x.bounds x.bounds.length s).d := by
  refine z03 (fun f i (t : DS) => zx φ k f n q x.bounds (x.bounds.length : Int) i x t.c r t.d) x.bounds.length (fun i t => t = rndD r x.bounds i s) (fun o => o = _) ?_ ?_ φ s rfl (by omega)
  · intro f i t hi ht hk
    have hB := hs.rnd hn hL r i (by omega)
    rw [← ht] at hB
    have hb := hL _ (z1z (l := x.bounds) (i := (i : Int)) (by omega) (by omega))
    have hk' := hk (stpD r (gt x.bounds (i : Int)) t) (by rw [ht]; rfl)
    have e : zx φ k (f + 1) n q x.bounds (x.bounds.length : Int) i x t.c r t.d = z1u φ (zx φ k f) (bdI r (gt x.bounds (i : Int))) (bdJ r (gt x.bounds (i : Int))) n q x.bounds (x.bounds.length : Int) i t.c (gt x.bounds (i : Int)) x r t.d := by
      rw [zx, if_pos (by simp; omega), z7 ⟨by omega, by omega⟩]
      cases r
      · rw [if_neg (by simp)]; rfl
      · rw [if_pos rfl]; rfl
    rw [e]
    generalize gt x.bounds (i : Int) = b at *
    obtain ⟨a1, a2, a3, a4, a5, a6⟩ := zfd hb r
    have hx := hB.len
    have q1 := hB.lt hn a1 a2
    have q3 := hB.lo _ a1 a2
    unfold farN at q1
    have hW : W (gt t.d (bdI r b) + b.w) = gt t.d (bdI r b) + b.w := W_id (by omega) (by omega)
    have hWi : W ((i : Int) + 1) = (i : Int) + 1 := W_id (by omega) (by omega)
    unfold z1u
    rw [z7 ⟨a1, by rw [hx]; exact a2⟩, z7 (fun _ => ⟨a1, by rw [hx]; exact a2⟩), z7 (fun _ => ⟨a3, by rw [hx]; exact a4⟩), hW, hWi]
    unfold stpD farN at hk'
    by_cases h : gt t.d (bdI r b) < 1125899906842624 ∧ gt t.d (bdI r b) + b.w < gt t.d (bdJ r b)
    · rw [if_pos h] at hk'
      rw [if_pos (by simpa using h), z7 ⟨a1, by rw [hx]; exact a2⟩, z7 ⟨a3, by rw [hx]; exact a4⟩]
      exact hk'
    · rw [if_neg h] at hk'
      rw [if_neg (by simpa using h)]
      exact hk'
  · intro f t ht
    subst ht
    rw [zx, if_neg (by simp)]
theorem ziz (φ : Nat) (x : zo) (r : Bool) (n : Nat) (hn : n ≤ 512) (hL : ∀ b ∈ x.bounds, okBd n b) (hl : x.bounds.length ≤ 4096) (hφ : 5001 < φ) :
    ∀ (f k : Nat) (s : DS), DB n (k * x.bounds.length) s → k ≤ n → n < f + k → z16 φ f n (k : Int) x s.c r s.d = some ((runD r x.bounds (n - k) s).d, ())
  | 0, k, s, _, h1, h2 => by omega
  | f + 1, k, s, hs, h1, h2 => by
    rw [z16]
    by_cases h : k < n
    · rw [if_pos (by simp; omega), show n - k = (n - (k + 1)) + 1 by omega, runD]
      cases hc : s.c with
      | false => rw [if_pos (show (!false) = true from rfl), if_neg (by simp)]
      | true =>
        rw [if_neg (by simp), if_pos rfl]
        have hs1 : DB n (k * x.bounds.length) ⟨s.d, false⟩ := ⟨hs.len, hs.hi, hs.lo⟩
        have hb := Nat.mul_le_mul (show k + 1 ≤ 512 by omega) hl
        rw [Nat.add_mul, Nat.one_mul] at hb
        have := zui φ (z16 φ f) x r n (k : Int) _ ⟨s.d, false⟩ hn hs1 hL hl (by omega) hφ
        refine this.trans ?_
        have hs2 := hs1.rnd hn hL r x.bounds.length (Nat.le_refl _)
        rw [W_id (x := (k : Int) + 1) (by omega) (by omega)]
        exact ziz φ x r n hn hL hl hφ f (k + 1) _ (hs2.up (by rw [Nat.add_mul, Nat.one_mul]; omega)) (by omega) (by omega)
    · rw [if_neg (by simp; omega), show n - k = 0 by omega]; rfl
/-- distances. -/
theorem y6u (φ : Nat) (hφ : 5001 < φ) (x : zo) (r : Bool) (n : Nat) (hv : x.vars = (n : Int)) (h1 : 1 ≤ n) (hn : n ≤ 512) (hL : ∀ b ∈ x.bounds, okBd n b) (hl : x.bounds.length ≤ 4096) :
    z17 φ x r = some ((runD r x.bounds n ⟨d0 n 0, true⟩).d, ()) := by
  unfold z17
  rw [hv, z7 (mk_t _ _ (by omega) (by omega) (by omega)), Int.toNat_natCast, List.length_replicate]
  refine z03 (fun f i (d : List Int) => z0p φ f (n : Int) i x r d) n (fun i d => d.length = n ∧ ∀ j : Int, 0 ≤ j → j < (n : Int) → gt d j = if 0 < j ∧ j < (i : Int) then farN else 0) (fun o => o = _) ?_ ?_ φ _
    ⟨by simp, fun j h0 h1 => by rw [z1e _ _ _ h0 h1, if_neg (by omega)]; rfl⟩ (by omega)
  · intro f i d hi ⟨hd, hg⟩ hk
    rw [z0p, if_pos (by simp; omega), W_id (x := (i : Int) + 1) (by omega) (by omega)]
    by_cases h : 0 < i
    · rw [if_pos (by simp; omega), z7 ⟨by omega, by omega⟩]
      refine hk _ ⟨by rw [z0n]; exact hd, fun j j0 j1 => ?_⟩
      rw [z0d _ _ _ _ (by omega) (by omega) j0, hg j j0 j1]
      by_cases e : j = (i : Int)
      · rw [if_pos e, if_pos (by omega)]; rfl
      · rw [if_neg e]
        by_cases e2 : 0 < j ∧ j < (i : Int)
        · rw [if_pos e2, if_pos (by omega)]
        · rw [if_neg e2, if_neg (by omega)]
    · rw [if_neg (by simp; omega)]
      refine hk _ ⟨hd, fun j j0 j1 => ?_⟩
      rw [hg j j0 j1, if_neg (by omega), if_neg (by omega)]
  · intro f d ⟨hd, hg⟩
    have e : d = d0 n 0 := yaa (by rw [hd, zwy]) fun j j0 j1 => by
      rw [hd] at j1
      rw [hg j j0 j1, y0a (by omega) (by omega) j0 j1]
      by_cases q : j = 0
      · rw [if_pos q, if_neg (by omega)]
      · rw [if_neg q, if_pos (by omega)]
    rw [z0p, if_neg (by simp), hv, e]
    have := ziz φ x r n hn hL hl hφ φ 0 ⟨d0 n 0, true⟩ ((y5f (by omega) (by omega)).up (by omega)) (by omega) (by omega)
    exact this
/-- How far the values may go. -/
theorem zx6 {r : Bool} {n : Nat} (hn : n ≤ 512) {L : List zb} (hL : ∀ b ∈ L, okBd n b) (hl : L.length ≤ 4096) : ∀ (f k : Nat) (s : DS), DB n (k * L.length) s → f + k ≤ n → DB n 2097152 (runD r L f s)
  | 0, k, s, h, hk => h.up (by
    have := Nat.mul_le_mul (show k ≤ 512 by omega) hl
    omega)
  | f + 1, k, s, h, hk => by
    have hu : k * L.length ≤ 2097152 := by
      have := Nat.mul_le_mul (show k ≤ 512 by omega) hl
      omega
    unfold runD
    split
    · have h1 : DB n (k * L.length) ⟨s.d, false⟩ := ⟨h.len, h.hi, h.lo⟩
      exact zx6 hn hL hl f (k + 1) _ ((h1.rnd hn hL r L.length (Nat.le_refl _)).up (by rw [Nat.add_mul, Nat.one_mul]; omega)) (by omega)
    · exact h.up hu
/-- One round of Tight. -/
theorem zqs (φ : Nat) (k : List zb → Int → Int → Int → Int → List Bool → List Int → Option (Int × Bool × Int × Unit)) (L : List zb) (n : Nat) (q j : Int) (c : Nat) (s : TS) (hj : 0 ≤ j ∧ j < (n : Int)) (hs : TiB n c s) (hL : ∀ b ∈ L, okBd n b) (hl : L.length ≤ 4096) (hc : c + L.length ≤ 2100000) (hφ : 5001 < φ) :
    z2b φ k φ L s.z n q L (L.length : Int) 0 j s.kn s.d = if (rndT L L.length s).z < 0 then (if gt (rndT L L.length s).kn j = true then some (gt (rndT L L.length s).d j, true, 0, ()) else some (0, false, 0, ())) else k L (rndT L L.length s).z n (W (q + 1)) j (rndT L L.length s).kn (rndT L L.length s).d := by
  refine z03 (fun f i (t : TS) => z2b φ k f L t.z n q L (L.length : Int) i j t.kn t.d) L.length (fun i t => t = rndT L i s) (fun o => o = _) ?_ ?_ φ s rfl (by omega)
  · intro f i t hi ht hk
    have hB := hs.rnd hL i (by omega)
    rw [← ht] at hB
    have hb := hL _ (z1z (l := L) (i := (i : Int)) (by omega) (by omega))
    have hk' := hk (stpT (gt L (i : Int)) i t) (by rw [ht]; rfl)
    rw [z2b, if_pos (by simp; omega), z7 ⟨by omega, by omega⟩]
    generalize gt L (i : Int) = b at *
    obtain ⟨a1, a2, a3, a4, a5, a6⟩ := hb
    have hx := hB.ld
    have hy := hB.lk
    have q1 := hB.bd _ a1 a2
    have hW : W (gt t.d b.i + b.w) = gt t.d b.i + b.w := W_id (by omega) (by omega)
    have hWi : W ((i : Int) + 1) = (i : Int) + 1 := W_id (by omega) (by omega)
    rw [z7 ⟨a1, by rw [hy]; exact a2⟩, z7 (fun _ => ⟨a3, by rw [hy]; exact a4⟩), z7 (fun _ => ⟨a3, by rw [hx]; exact a4⟩), z7 (fun _ => ⟨a1, by rw [hx]; exact a2⟩), hW, hWi]
    unfold stpT at hk'
    cases h : (!(gt t.kn b.i) || ((gt t.kn b.j) && decide (gt t.d b.j ≤ gt t.d b.i + b.w))) with
    | true =>
      rw [h, if_pos rfl] at hk'
      rw [if_pos rfl]
      exact hk'
    | false =>
      rw [h, if_neg (by simp)] at hk'
      rw [if_neg (by simp), z4w, z7 ⟨a1, by rw [hx]; exact a2⟩, z7 ⟨a3, by rw [hx]; exact a4⟩, z7 ⟨a3, by rw [hy]; exact a4⟩, hW, hWi]
      exact hk'
  · intro f t ht
    have hB := hs.rnd hL L.length (Nat.le_refl _)
    subst ht
    rw [z2b, if_neg (by simp)]
    by_cases h : (rndT L L.length s).z < 0
    · rw [if_pos (by simpa using h), if_pos h, z7 ⟨hj.1, by rw [hB.lk]; exact hj.2⟩]
      cases hk : gt (rndT L L.length s).kn j with
      | false => rw [if_pos (show (!false) = true from rfl), if_neg (by simp)]
      | true => rw [if_neg (by simp), if_pos rfl, z7 ⟨hj.1, by rw [hB.ld]; exact hj.2⟩]
    · rw [if_neg (by simpa using h), if_neg h]
theorem zhg (φ : Nat) (L : List zb) (n : Nat) (j : Int) (hj : 0 ≤ j ∧ j < (n : Int)) (hn : n ≤ 512) (hL : ∀ b ∈ L, okBd n b) (hl : L.length ≤ 4096) (hφ : 5001 < φ) :
    ∀ (f k : Nat) (s : TS), TiB n (k * L.length) s → k ≤ n → n < f + k → z3r φ f L s.z n (k : Int) j s.kn s.d = if gt (runT L (n - k) s).kn j = true then some (gt (runT L (n - k) s).d j, true, 0, ()) else some (0, false, 0, ())
  | 0, k, s, _, h1, h2 => by omega
  | f + 1, k, s, hs, h1, h2 => by
    rw [z3r]
    by_cases h : k < n
    · have hs1 : TiB n (k * L.length) ⟨s.d, s.kn, -1⟩ := ⟨hs.ld, hs.lk, hs.bd⟩
      have hb := Nat.mul_le_mul (show k + 1 ≤ 512 by omega) hl
      rw [Nat.add_mul, Nat.one_mul] at hb
      rw [if_pos (by simp; omega)]
      have := zqs φ (z3r φ f) L n (k : Int) j _ ⟨s.d, s.kn, -1⟩ hj hs1 hL hl (by omega) hφ
      refine this.trans ?_
      rw [show n - k = (n - (k + 1)) + 1 by omega, runT, W_id (x := (k : Int) + 1) (by omega) (by omega)]
      have hs2 := hs1.rnd hL L.length (Nat.le_refl _)
      by_cases hz : (rndT L L.length ⟨s.d, s.kn, -1⟩).z < 0
      · rw [if_pos hz, if_pos hz]
      · rw [if_neg hz, if_neg hz]
        exact zhg φ L n j hj hn hL hl hφ f (k + 1) _ (hs2.up (by rw [Nat.add_mul, Nat.one_mul]; omega)) (by omega) (by omega)
    · rw [if_neg (by simp; omega), show n - k = 0 by omega, z7 ⟨hj.1, by rw [hs.lk]; exact hj.2⟩]
      show _ = if gt s.kn j = true then some (gt s.d j, true, 0, ()) else some (0, false, 0, ())
      cases hk : gt s.kn j with
      | false => rw [if_pos (show (!false) = true from rfl), if_neg (by simp)]
      | true => rw [if_neg (by simp), if_pos rfl, z7 ⟨hj.1, by rw [hs.ld]; exact hj.2⟩]
/-- Tight, where the bounds are in order and have a solution. -/
theorem y3d (φ : Nat) (hφ : 5001 < φ) (L : List zb) (n : Nat) (h1 : 1 ≤ n) (hn : n ≤ 512) (hL : ∀ b ∈ L, okBd n b) (hl : L.length ≤ 4096) (hz : (low n L).z < 0) {i j : Int} (hi : 0 ≤ i ∧ i < (n : Int)) (hj : 0 ≤ j ∧ j < (n : Int)) :
    z8q φ (n : Int) L i j = if gt (runT L n (t0 n i)).kn j = true then some (gt (runT L n (t0 n i)).d j, true, 0, ()) else some (0, false, 0, ()) := by
  unfold z8q
  rw [zfa φ hφ, Option.bind_some, zvy h1 hn hl hL, if_neg (by simp), if_neg (by
    simp only [Bool.or_eq_true, decide_eq_true_eq, zqx]
    unfold max2; split <;> omega), zoy φ hφ L n hn hL hl, Option.bind_some, if_neg (by simp; omega)]
  unfold z4y zd
  rw [z7 (mk_t _ _ (by omega) (by omega) (by omega)), z7 (mk_t _ _ (by omega) (by omega) (by omega)), Int.toNat_natCast, z7 ⟨hi.1, by rw [List.length_replicate]; exact hi.2⟩]
  exact zhg φ L n j hj hn hL hl hφ φ 0 (t0 n i) (y7x.up (by omega)) (by omega) (by omega)
end Px
end
section
namespace Px
open Go
set_option linter.unusedVariables false
set_option linter.unusedSimpArgs false
/-- What is known of the events f .. e - 1, those of one wagon. -/
structure EvC (φ : Nat) (x : zh) (s : BS) (E T : Int → Int) (pl vr : Nat → Int) (st : Nat → Bool) (f e : Nat) : Prop where
  ok : ∀ k, f ≤ k → k < e → okPl x (pl k) ∧ 0 ≤ vr k ∧ vr k < s.v
  ets : ETs s E T
  pr : ∀ k, f ≤ k → k + 1 < e → ∃ t, Dst φ x (pl k) (pl (k + 1)) = some t ∧ 0 ≤ t ∧ (∀ X, SolF s X → t ≤ X (vr (k + 1)) - X (vr k)) ∧ (st k = true → pl k = pl (k + 1)) ∧ (pl k ≠ pl (k + 1) → 1 ≤ t)
/-- The wagon stands certainly at the place of the event r: from r to i the gaps are covered. -/
structure zzb (E T : Int → Int) (vr : Nat → Int) (st : Nat → Bool) (m : Int) (f e r i : Nat) : Prop where
  cf : f ≤ r
  ci : r ≤ i
  ce : i < e
  cst : ∀ k, r ≤ k → k < i → st k = true
  cns : st i = false
  cl : T (vr r) ≤ m
  ch : m ≤ E (vr i)
def zth (φ : Nat) (x : zh) (T : Int → Int) (pl vr : Nat → Int) (m q : Int) (k : Nat) : Prop := ∃ w, Dst φ x q (pl k) = some w ∧ m + w ≤ T (vr k)
def zsv (φ : Nat) (x : zh) (E : Int → Int) (pl vr : Nat → Int) (m q : Int) (k : Nat) : Prop := ∃ w, Dst φ x (pl k) q = some w ∧ E (vr k) + w ≤ m
def gapW (φ : Nat) (x : zh) (E T : Int → Int) (D : Nat → Int) (pl vr : Nat → Int) (st : Nat → Bool) (m q : Int) (k : Nat) : Prop :=
  ∃ a b, Dst φ x (pl k) q = some a ∧ E (vr k) + a ≤ m ∧ Dst φ x q (pl (k + 1)) = some b ∧ m + b ≤ T (vr (k + 1)) ∧ (st k = true → q = pl k) ∧ a + b ≤ D k
def PosW (φ : Nat) (x : zh) (E T : Int → Int) (D : Nat → Int) (pl vr : Nat → Int) (st : Nat → Bool) (f e : Nat) (m q : Int) : Prop :=
  f = e ∨ zth φ x T pl vr m q f ∨ zsv φ x E pl vr m q (e - 1) ∨ ∃ k, f ≤ k ∧ k + 1 < e ∧ gapW φ x E T D pl vr st m q k
section
variable {φ : Nat} (hφ : 800000 < φ) {x : zh} (hn : z8d x = 0) {s : BS} {E T : Int → Int} {pl vr : Nat → Int} {st : Nat → Bool} {f e : Nat}
theorem EvC.mono (H : EvC φ x s E T pl vr st f e) {X : Int → Int} (hX : SolF s X) {i : Nat} (hi : f ≤ i) : ∀ {j : Nat}, i ≤ j → j < e → X (vr i) ≤ X (vr j) ∧ (X (vr j) ≤ X (vr i) → pl i = pl j) := by
  intro j
  induction j with
  | zero => intro h1 h2; have : i = 0 := by omega
            subst this; exact ⟨Int.le_refl _, fun _ => rfl⟩
  | succ j ih =>
    intro h1 h2
    by_cases q : i = j + 1
    · subst q; exact ⟨Int.le_refl _, fun _ => rfl⟩
    · obtain ⟨a1, a2⟩ := ih (by omega) (by omega)
      obtain ⟨t, _, b0, b1, _, b2⟩ := H.pr j (by omega) h2
      have b1 := b1 X hX
      refine ⟨by omega, fun h => ?_⟩
      rw [a2 (by omega)]
      by_cases z : pl j = pl (j + 1)
      · exact z
      · have := b2 z; omega
include hφ hn
omit hφ hn in
end
end Px
end
section
namespace Px
open Go
set_option linter.unusedVariables false
set_option linter.unusedSimpArgs false
/-- What sight.Build builds. -/
abbrev bsB (φ : Nat) (p : Pool) (l : List ze) : BS := bAll (tvl φ p.network) p.readers (z0k p l)
structure Good (s : BS) : Prop where
  v1 : 1 ≤ s.v
  v2 : s.v ≤ 512
  bl : s.b.length ≤ 4096
  ok : ∀ b ∈ s.b, okBd s.v.toNat b
  conn : Conn s.b s.v.toNat
  ev : ∀ y ∈ s.e, 1 ≤ y.var ∧ y.var < s.v
  el : (s.e.length : Int) ≤ s.v
theorem zy3 {φ : Nat} (hφ : 800000 < φ) {p : Pool} (hc : z0b p = 0) {l : List ze} (hl : FewL l) (hb : ¬ (512 < (bsB φ p l).v ∨ 4096 < (bsB φ p l).b.length)) : Good (bsB φ p l) := by
  obtain ⟨h1, h2⟩ := y5b (tv := tvl φ p.network) (fun a b => (y3p φ hφ p.network a b).2) (tsOK hc hl)
  exact ⟨h1, by omega, by omega, h2, zxp _ _ _, fun y hy => ya0 hy, zw5 _ _ _⟩
def zu3 (s : BS) : List Int := (runD false s.b s.v.toNat ⟨d0 s.v.toNat 0, true⟩).d
def zkm (s : BS) : List Int := (runD true s.b s.v.toNat ⟨d0 s.v.toNat 0, true⟩).d
def z6o (s : BS) (v : Int) : Int := gt (zu3 s) v
def z5r (s : BS) (v : Int) : Int := - gt (zkm s) v
theorem Good.ets {s : BS} (h : Good s) {X : Int → Int} (hX : SolF s X) : ETs s (z5r s) (z6o s) := by
  have hv := h.v1
  have hv2 := h.v2
  have e := zln (r := true) (n := s.v.toNat) (by omega) h.ok h.conn (p := fun v => - X v) (zsc (zf1.1 hX)) (u := 0) (by omega) (by omega)
  have t := zln (r := false) (n := s.v.toNat) (by omega) h.ok h.conn (zf1.1 hX) (u := 0) (by omega) (by omega)
  exact y9z hv e.2 t.2
theorem Good.db {s : BS} (h : Good s) (r : Bool) : DB s.v.toNat 2097152 (runD r s.b s.v.toNat ⟨d0 s.v.toNat 0, true⟩) := by
  have hv := h.v1
  have hv2 := h.v2
  exact zx6 (by omega) h.ok h.bl s.v.toNat 0 _ ((y5f (by omega) (by omega)).up (by omega)) (by omega)
theorem Good.bd {s : BS} (h : Good s) (r : Bool) {v : Int} (h0 : 0 ≤ v) (h1 : v < s.v) : v < ((runD r s.b s.v.toNat ⟨d0 s.v.toNat 0, true⟩).d.length : Int) ∧ -2305843009213693952 ≤ gt (runD r s.b s.v.toNat ⟨d0 s.v.toNat 0, true⟩).d v ∧ gt (runD r s.b s.v.toNat ⟨d0 s.v.toNat 0, true⟩).d v ≤ 1125899906842624 := by
  have hv := h.v1
  have hv2 := h.v2
  have hd := h.db r
  have hl := hd.len
  have q1 := hd.lo v h0 (by omega)
  have q2 := hd.lt (by omega) h0 (by omega)
  unfold farN at q2
  exact ⟨by omega, by omega, by omega⟩
/-- The events with the bounds of their times. -/
def visE (E T : Int → Int) (y : z0v) : zj := ⟨y.wagon, y.place, y.ref, y.stay, E y.var, T y.var⟩
def visL (s : BS) : List zj := s.e.map (visE (z5r s) (z6o s))
def hisL (s : BS) : List zj := s.e.map (visE (z5r s) (z5r s))
theorem zzp {s : BS} (h : Good s) {y : z0v} (hy : y ∈ s.e) : 0 ≤ y.var ∧ y.var < ((zkm s).length : Int) ∧ y.var < ((zu3 s).length : Int) ∧ (⟨y.wagon, y.place, y.ref, y.stay, W (0 - gt (zkm s) y.var), gt (zu3 s) y.var⟩ : zj) = visE (z5r s) (z6o s) y := by
  obtain ⟨h1, h2⟩ := h.ev y hy
  have b1 := h.bd true (v := y.var) (by omega) h2
  have b2 := h.bd false (v := y.var) (by omega) h2
  change y.var < ((zkm s).length : Int) ∧ _ ≤ gt (zkm s) y.var ∧ gt (zkm s) y.var ≤ _ at b1
  change y.var < ((zu3 s).length : Int) ∧ _ at b2
  refine ⟨by omega, b1.1, b2.1, ?_⟩
  rw [W_id (by omega) (by omega)]
  unfold visE z5r z6o
  rw [show (0 : Int) - gt (zkm s) y.var = - gt (zkm s) y.var by omega]
theorem zu0 (φ : Nat) (hφ : 800000 < φ) {s : BS} (h : Good s) (x : zo) : z1l φ φ (zu3 s) (zkm s) s.e (s.e.length : Int) 0 x [] = some (x, visL s, 0, ()) := by
  have hel := h.el
  have hv2 := h.v2
  refine z03 (fun f i (v : List zj) => z1l φ f (zu3 s) (zkm s) s.e (s.e.length : Int) i x v) s.e.length (fun i v => v = (s.e.take i).map (visE (z5r s) (z6o s))) (fun o => o = _) ?_ ?_ φ _ (by simp) (by omega)
  · intro f i v hi hv hk
    obtain ⟨s1, s2, s3, s4⟩ := zzp h (z1z (l := s.e) (i := (i : Int)) (by omega) (by omega))
    have hlen : v.length ≤ 1000 := by rw [hv]; simp; omega
    rw [z1l, if_pos (by simp; omega), z7 ⟨by omega, by omega⟩, z7 ⟨s1, s2⟩, z7 ⟨s1, s3⟩, z7 (zl1 (by simp; omega) (by omega)), s4, W_id (x := (i : Int) + 1) (by omega) (by omega)]
    refine hk _ ?_
    rw [hv, z0g s.e i hi, List.map_append]; rfl
  · intro f v hv
    rw [z1l, if_neg (by simp), hv, List.take_length]; rfl
/-- What solve answers. -/
def slv (φ : Nat) (p : Pool) (l : List ze) : zo × List zj × Int × Unit :=
  if z0b p ≠ 0 then (⟨0, [], [], []⟩, [], z0b p, ())
  else if 512 < (bsB φ p l).v ∨ 4096 < (bsB φ p l).b.length then (⟨0, [], [], []⟩, [], 2, ())
  else if 0 ≤ (low (bsB φ p l).v.toNat (bsB φ p l).b).z then (⟨0, [], [], []⟩, [], 230, ())
  else (⟨(bsB φ p l).v, (bsB φ p l).b, (bsB φ p l).y, (bsB φ p l).e⟩, visL (bsB φ p l), 0, ())
theorem Good.chk {s : BS} (h : Good s) : chkD s.v s.b = 0 := by
  have hv := h.v1
  have hv2 := h.v2
  have := zvy (n := s.v.toNat) (by omega) (by omega) h.bl h.ok
  rwa [show ((s.v.toNat : Nat) : Int) = s.v by omega] at this
theorem Good.solve {s : BS} (h : Good s) (φ : Nat) (hφ : 5001 < φ) : z8r φ s.v s.b = some (if 0 ≤ (low s.v.toNat s.b).z then ([], 230, ()) else ((low s.v.toNat s.b).x, 0, ())) := by
  rw [y2e φ hφ, h.chk, if_neg (by simp)]
theorem Good.dist {s : BS} (h : Good s) (φ : Nat) (hφ : 5001 < φ) (r : Bool) (y : List (Nat → Ref)) (e : List z0v) : z17 φ ⟨s.v, s.b, y, e⟩ r = some ((runD r s.b s.v.toNat ⟨d0 s.v.toNat 0, true⟩).d, ()) := by
  have hv := h.v1
  have hv2 := h.v2
  exact y6u φ hφ ⟨s.v, s.b, y, e⟩ r s.v.toNat (by simp only; omega) (by omega) (by omega) h.ok h.bl
theorem zil (φ : Nat) (hφ : 800000 < φ) (p : Pool) {l : List ze} (hl : FewL l) : z5v φ p l = some (slv φ p l) := by
  unfold z5v slv
  rw [y0f φ hφ p hl, Option.bind_some, show bAll (tvl φ p.network) p.readers (z0k p l) = bsB φ p l from rfl]
  by_cases hc : z0b p = 0
  case neg => rw [if_neg hc, if_pos hc]; simp only; rw [if_pos (by simpa using hc)]
  rw [if_pos hc, if_neg (show ¬ z0b p ≠ 0 from fun h => h hc)]
  unfold bEnd
  by_cases hb : 512 < (bsB φ p l).v ∨ 4096 < (bsB φ p l).b.length
  · rw [if_pos hb, if_pos hb]; simp only; rw [if_pos (by simp)]
  rw [if_neg hb, if_neg hb]
  have hG := zy3 hφ hc hl hb
  simp only
  generalize bsB φ p l = s at *
  rw [if_neg (by simp), hG.solve φ (by omega), Option.bind_some]
  by_cases hz : 0 ≤ (low s.v.toNat s.b).z
  · rw [if_pos hz, if_pos hz]; simp only; rw [if_pos (by simp)]
  rw [if_neg hz, if_neg hz]
  simp only
  rw [if_neg (by simp), hG.dist φ (by omega), Option.bind_some, hG.dist φ (by omega), Option.bind_some]
  exact zu0 φ hφ hG _
theorem zpw (φ : Nat) (hφ : 800000 < φ) (p : Pool) {l : List ze} (hl : FewL l) : zm φ p l = some ((slv φ p l).2.1, (slv φ p l).2.2.1, ()) := by
  unfold zm
  rw [zil φ hφ p hl, Option.bind_some]
/-- What History answers. -/
def hst (φ : Nat) (p : Pool) (l : List ze) : List zj × Int × Unit :=
  if z0b p ≠ 0 then ([], z0b p, ())
  else if 512 < (bsB φ p l).v ∨ 4096 < (bsB φ p l).b.length then ([], 2, ())
  else if 0 ≤ (low (bsB φ p l).v.toNat (bsB φ p l).b).z then ([], 230, ())
  else (hisL (bsB φ p l), 0, ())
/-- Whether there is a solution. -/
theorem Good.sol {s : BS} (h : Good s) : (low s.v.toNat s.b).z < 0 ↔ ∃ X, SolF s X := by
  have hv := h.v1
  constructor
  · exact fun hz => ⟨gt (low s.v.toNat s.b).x, fun b hb => y5p (by omega) h.ok hz hb⟩
  · rintro ⟨X, hX⟩
    exact y2h (by omega) h.ok X hX
end Px
end
section
namespace Px
open Go
set_option linter.unusedVariables false
set_option linter.unusedSimpArgs false
def plE (s : BS) (k : Nat) : Int := (gt s.e (k : Int)).place
def vrE (s : BS) (k : Nat) : Int := (gt s.e (k : Int)).var
def stE (s : BS) (k : Nat) : Bool := (gt s.e (k : Int)).stay
def wgE (s : BS) (k : Nat) : Int := (gt s.e (k : Int)).wagon
/-- The events of a wagon are those from f to e - 1. -/
structure RunW (s : BS) (w : Int) (f e : Nat) : Prop where
  fe : f ≤ e
  el : e ≤ s.e.length
  own : ∀ k, f ≤ k → k < e → wgE s k = w
  lo : ∀ k, k < f → wgE s k < w
  nf : f < s.e.length → w ≤ wgE s f
  ne : e < s.e.length → wgE s e ≠ w
theorem zlp {s : BS} {E T : Int → Int} {k : Nat} (h : k < s.e.length) : gt (s.e.map (visE E T)) (k : Int) = ⟨wgE s k, plE s k, (gt s.e (k : Int)).ref, stE s k, E (vrE s k), T (vrE s k)⟩ := by
  rw [z5n (by simpa using h)]
  simp only [List.getElem_map, visE, wgE, plE, stE, vrE, z5n h]
section
variable {φ : Nat} (hφ : 800000 < φ) {p : Pool} (hc : z0b p = 0) {l : List ze} (hl : FewL l)
include hφ hc hl
theorem y3u (hG : Good (bsB φ p l)) {X : Int → Int} (hX : SolF (bsB φ p l) X) {w : Int} {f e : Nat} (hR : RunW (bsB φ p l) w f e) :
    EvC φ p.network (bsB φ p l) (z5r (bsB φ p l)) (z6o (bsB φ p l)) (plE (bsB φ p l)) (vrE (bsB φ p l)) (stE (bsB φ p l)) f e := by
  have hel := hR.el
  refine ⟨fun k k1 k2 => ?_, hG.ets hX, fun k k1 k2 => ?_⟩
  · have := y7e hc hl (tv := tvl φ p.network) (ev := gt (bsB φ p l).e (k : Int)) (z1z (l := (bsB φ p l).e) (by omega) (by omega))
    exact ⟨this.1, by unfold vrE; omega, this.2.2.1⟩
  · have ha := y8w (l := (bsB φ p l).e) (i := k) (by omega)
    have hb := y8w (l := (bsB φ p l).e) (i := k + 1) (by omega)
    have o1 := (y7e hc hl (tv := tvl φ p.network) (ev := gt (bsB φ p l).e (k : Int)) (z1z (l := (bsB φ p l).e) (by omega) (by omega))).1
    have o2 := (y7e hc hl (tv := tvl φ p.network) (ev := gt (bsB φ p l).e ((k + 1 : Nat) : Int)) (z1z (l := (bsB φ p l).e) (by omega) (by omega))).1
    have hw : wgE (bsB φ p l) k = wgE (bsB φ p l) (k + 1) := by rw [hR.own k k1 (by omega), hR.own (k + 1) (by omega) k2]
    obtain ⟨t, t1, t2, t3⟩ := y9d hφ hc hl rfl hX ha hb hw
    have hn := (z6z hc).1
    refine ⟨t, t1, (zxz hφ hn o1 o2 t1).1, fun Y hY => ?_, t3, fun hne => y7d hφ hn o1 o2 hne t1⟩
    obtain ⟨t', u1, u2, _⟩ := y9d hφ hc hl rfl hY ha hb hw
    rw [t1] at u1; cases u1
    exact u2
end
/-- The error of a question. -/
def zc2 (φ : Nat) (p : Pool) (l : List ze) (w m : Int) : Int :=
  if z0b p ≠ 0 then z0b p else if w < 0 ∨ (p.fleet.wagons.length : Int) ≤ w ∨ m < 0 ∨ 1073741824 < m then 1 else (slv φ p l).2.2.1
theorem zzh {φ : Nat} (hφ : 800000 < φ) {p : Pool} (hc : z0b p = 0) {l : List ze} (hl : FewL l) :
    (slv φ p l = (⟨0, [], [], []⟩, [], (slv φ p l).2.2.1, ()) ∧ (slv φ p l).2.2.1 ≠ 0) ∨
    (slv φ p l = (⟨(bsB φ p l).v, (bsB φ p l).b, (bsB φ p l).y, (bsB φ p l).e⟩, visL (bsB φ p l), 0, ()) ∧ Good (bsB φ p l) ∧ ∃ X, SolF (bsB φ p l) X) := by
  unfold slv
  rw [if_neg (by simpa using hc)]
  by_cases hb : 512 < (bsB φ p l).v ∨ 4096 < (bsB φ p l).b.length
  · rw [if_pos hb]; exact .inl ⟨rfl, by simp⟩
  rw [if_neg hb]
  have hG := zy3 hφ hc hl hb
  by_cases hz : 0 ≤ (low (bsB φ p l).v.toNat (bsB φ p l).b).z
  · rw [if_pos hz]; exact .inl ⟨rfl, by simp⟩
  rw [if_neg hz]
  exact .inr ⟨rfl, hG, hG.sol.1 (by omega)⟩
/-- What a question finds. -/
structure y7n (φ : Nat) (p : Pool) (l : List ze) (w m : Int) : Prop where
  hc : z0b p = 0
  w0 : 0 ≤ w
  w1 : w < (p.fleet.wagons.length : Int)
  m0 : 0 ≤ m
  m1 : m ≤ 1073741824
  good : Good (bsB φ p l)
  sol : ∃ X, SolF (bsB φ p l) X
theorem y3m (φ : Nat) (hφ : 800000 < φ) (p : Pool) {l : List ze} (hl : FewL l) (w m : Int) :
    (zc2 φ p l w m ≠ 0 ∧ ∃ x v f e, z3h φ p l w m = some (x, v, f, e, zc2 φ p l w m, ())) ∨
    (zc2 φ p l w m = 0 ∧ y7n φ p l w m ∧ ∃ f e : Nat, RunW (bsB φ p l) w f e ∧ z3h φ p l w m = some (⟨(bsB φ p l).v, (bsB φ p l).b, (bsB φ p l).y, (bsB φ p l).e⟩, visL (bsB φ p l), (f : Int), (e : Int), 0, ())) := by
  unfold z3h zc2
  rw [z68 φ hφ, Option.bind_some]
  by_cases hc : z0b p = 0
  case neg =>
    simp only [if_pos (show z0b p ≠ 0 from hc)]
    rw [if_pos (show (z0b p != 0) = true by simpa using hc)]
    exact .inl ⟨hc, _, _, _, _, rfl⟩
  simp only [if_neg (show ¬ z0b p ≠ 0 from fun h => h hc)]
  rw [if_neg (show ¬ (z0b p != 0) = true by simpa using hc)]
  by_cases ha : w < 0 ∨ (p.fleet.wagons.length : Int) ≤ w ∨ m < 0 ∨ 1073741824 < m
  · simp only [if_pos ha]
    rw [if_pos (by simp only [Bool.or_eq_true, decide_eq_true_eq]; omega)]
    exact .inl ⟨by omega, _, _, _, _, rfl⟩
  simp only [if_neg ha]
  rw [if_neg (by simp only [Bool.or_eq_true, decide_eq_true_eq]; omega), zil φ hφ p hl, Option.bind_some]
  obtain ⟨f0, rfl⟩ : ∃ f, φ = f + 1 := ⟨φ - 1, by omega⟩
  rcases zzh hφ hc hl with ⟨h1, h2⟩ | ⟨h1, h2, h3⟩
  · refine .inl ⟨h2, ?_⟩
    generalize hq : (slv (f0 + 1) p l).2.2.1 = q at *
    rw [h1]
    simp only
    rw [z2m, z7 (by simp), if_neg (by simp), z2l, z7 (by simp), if_neg (by simp)]
    exact ⟨_, _, _, _, rfl⟩
  · refine .inr ⟨by rw [h1], ⟨hc, by omega, by omega, by omega, by omega, h2, h3⟩, ?_⟩
    rw [h1]
    simp only
    generalize hs : bsB (f0 + 1) p l = s at *
    have hel := h2.el
    have hv2 := h2.v2
    have hvl : (visL s).length = s.e.length := by simp [visL]
    have hat : ∀ k : Nat, k < s.e.length → (gt (visL s) (k : Int)).wagon = wgE s k := fun k hk => by unfold visL; rw [zlp hk]
    -- the first event
    have key : ∀ (n i : Nat), s.e.length - i < n → i ≤ s.e.length → (∀ k, k < i → wgE s k < w) → ∃ f : Nat, f ≤ s.e.length ∧ (∀ k, k < f → wgE s k < w) ∧ (f < s.e.length → w ≤ wgE s f) ∧
        z2m (f0 + 1) n w (visL s) (i : Int) 0 ⟨s.v, s.b, s.y, s.e⟩ = z2l (f0 + 1) (f0 + 1) w (visL s) (f : Int) (f : Int) 0 ⟨s.v, s.b, s.y, s.e⟩ := by
      intro n
      induction n with
      | zero => intro i h; omega
      | succ n ih =>
        intro i hn hi hlo
        rw [z2m, hvl]
        by_cases q : i < s.e.length
        · rw [z7 (fun _ => ⟨by omega, by omega⟩), hat i q]
          by_cases q2 : wgE s i < w
          · rw [if_pos (by simp only [Bool.and_eq_true, decide_eq_true_eq]; omega), W_id (x := (i : Int) + 1) (by omega) (by omega)]
            exact ih (i + 1) (by omega) (by omega) fun k hk => by
              by_cases e : k = i
              · subst e; exact q2
              · exact hlo k (by omega)
          · rw [if_neg (by simp only [Bool.and_eq_true, decide_eq_true_eq]; omega)]
            exact ⟨i, hi, hlo, fun _ => by omega, rfl⟩
        · rw [z7 (fun h => absurd h (by simp; omega)), if_neg (by simp only [Bool.and_eq_true, decide_eq_true_eq]; omega)]
          exact ⟨i, hi, hlo, fun h => absurd h q, rfl⟩
    obtain ⟨f, g1, g2, g3, g4⟩ := key (f0 + 1) 0 (by omega) (by omega) (fun k hk => by omega)
    have key2 : ∀ (n i : Nat), s.e.length - i < n → f ≤ i → i ≤ s.e.length → (∀ k, f ≤ k → k < i → wgE s k = w) → ∃ e : Nat, f ≤ e ∧ e ≤ s.e.length ∧ (∀ k, f ≤ k → k < e → wgE s k = w) ∧ (e < s.e.length → wgE s e ≠ w) ∧
        z2l (f0 + 1) n w (visL s) (f : Int) (i : Int) 0 ⟨s.v, s.b, s.y, s.e⟩ = some (⟨s.v, s.b, s.y, s.e⟩, visL s, (f : Int), (e : Int), 0, ()) := by
      intro n
      induction n with
      | zero => intro i h; omega
      | succ n ih =>
        intro i hn hf hi hlo
        rw [z2l, hvl]
        by_cases q : i < s.e.length
        · rw [z7 (fun _ => ⟨by omega, by omega⟩), hat i q]
          by_cases q2 : wgE s i = w
          · rw [if_pos (by simp only [Bool.and_eq_true, decide_eq_true_eq, beq_iff_eq]; omega), W_id (x := (i : Int) + 1) (by omega) (by omega)]
            exact ih (i + 1) (by omega) (by omega) (by omega) fun k hk1 hk => by
              by_cases e : k = i
              · subst e; exact q2
              · exact hlo k hk1 (by omega)
          · rw [if_neg (by simp only [Bool.and_eq_true, decide_eq_true_eq, beq_iff_eq]; omega)]
            exact ⟨i, hf, hi, hlo, fun _ => q2, rfl⟩
        · rw [z7 (fun h => absurd h (by simp; omega)), if_neg (by simp only [Bool.and_eq_true, decide_eq_true_eq, beq_iff_eq]; omega)]
          exact ⟨i, hf, hi, hlo, fun h => absurd h q, rfl⟩
    obtain ⟨e, k1, k2, k3, k4, k5⟩ := key2 (f0 + 1) f (by omega) (Nat.le_refl _) g1 (fun k h1 h2 => by omega)
    refine ⟨f, e, ⟨k1, k2, k3, g2, g3, k4⟩, ?_⟩
    have g4' : z2m (f0 + 1) (f0 + 1) w (visL s) 0 0 ⟨s.v, s.b, s.y, s.e⟩ = _ := g4
    rw [g4', k5]
/-- What Certain answers. -/
theorem zuk (φ : Nat) (hφ : 800000 < φ) (p : Pool) {l : List ze} (hl : FewL l) (w m : Int) :
    ∃ a ok, za φ p l w m = some (a, ok, zc2 φ p l w m, ()) ∧ (zc2 φ p l w m ≠ 0 → a = 0 ∧ ok = false) ∧
      (zc2 φ p l w m = 0 → y7n φ p l w m ∧ ∃ f e : Nat, RunW (bsB φ p l) w f e ∧
        ((ok = true ∧ ∃ r i, zzb (z5r (bsB φ p l)) (z6o (bsB φ p l)) (vrE (bsB φ p l)) (stE (bsB φ p l)) m f e r i ∧ a = plE (bsB φ p l) r) ∨
         (ok = false ∧ a = 0 ∧ ∀ r i, ¬ zzb (z5r (bsB φ p l)) (z6o (bsB φ p l)) (vrE (bsB φ p l)) (stE (bsB φ p l)) m f e r i))) := by
  unfold za
  rcases y3m φ hφ p hl w m with ⟨h1, x, v, f, e, h2⟩ | ⟨h1, hA, f, e, hR, h2⟩
  · rw [h2, Option.bind_some]
    simp only
    rw [if_pos (by simpa using h1)]
    exact ⟨_, _, rfl, fun _ => ⟨rfl, rfl⟩, fun h => absurd h h1⟩
  · rw [h2, Option.bind_some, h1]
    simp only
    rw [if_neg (by simp)]
    obtain ⟨X, hX⟩ := hA.sol
    have hG := hA.good
    have hE := y3u hφ hA.hc hl hG hX hR
    generalize bsB φ p l = s at *
    have hel := hG.el
    have hv2 := hG.v2
    have r1 := hR.fe
    have r2 := hR.el
    have hvl : (visL s).length = s.e.length := by simp [visL]
    suffices key : ∀ (n i run : Nat), e - i < n → f ≤ run → run ≤ i → i ≤ e → (∀ k, run ≤ k → k < i → stE s k = true) → (run = f ∨ stE s (run - 1) = false) → (∀ r j, zzb (z5r s) (z6o s) (vrE s) (stE s) m f e r j → i ≤ j) →
        ∃ a ok, z1o φ n m (visL s) (run : Int) (e : Int) (i : Int) = some (a, ok, 0, ()) ∧ ((ok = true ∧ ∃ r i, zzb (z5r s) (z6o s) (vrE s) (stE s) m f e r i ∧ a = plE s r) ∨ (ok = false ∧ a = 0 ∧ ∀ r i, ¬ zzb (z5r s) (z6o s) (vrE s) (stE s) m f e r i)) by
      obtain ⟨a, ok, k1, k2⟩ := key φ f f (by omega) (Nat.le_refl _) (Nat.le_refl _) r1 (fun k h1 h2 => by omega) (.inl rfl) (fun r j hC => by have := hC.cf; have := hC.ci; omega)
      exact ⟨a, ok, k1, fun h => absurd rfl h, fun _ => ⟨hA, f, e, hR, k2⟩⟩
    intro n
    induction n with
    | zero => intro i run h; omega
    | succ n ih =>
      intro i run hn hf hr hi hst hpre hno
      rw [z1o]
      by_cases q : i < e
      · have hvi : gt (visL s) (i : Int) = _ := zlp (E := z5r s) (T := z6o s) (k := i) (by omega)
        rw [if_pos (by simp; omega), hvl, z7 ⟨by omega, by omega⟩, hvi]
        cases hs : stE s i with
        | true =>
          rw [if_pos rfl, W_id (x := (i : Int) + 1) (by omega) (by omega)]
          refine ih (i + 1) run (by omega) hf (by omega) (by omega) (fun k k1 k2 => ?_) hpre fun r j hC => ?_
          · by_cases e : k = i
            · subst e; exact hs
            · exact hst k k1 (by omega)
          · have := hno r j hC
            by_cases e : j = i
            · subst e; have := hC.cns; rw [hs] at this; cases this
            · omega
        | false =>
          have hvr : gt (visL s) (run : Int) = _ := zlp (E := z5r s) (T := z6o s) (k := run) (by omega)
          rw [if_neg (by simp), z7 ⟨by omega, by omega⟩, z7 (fun _ => ⟨by omega, by omega⟩), hvr]
          by_cases h : z6o s (vrE s run) ≤ m ∧ m ≤ z5r s (vrE s i)
          · rw [if_pos (by simpa using h), z7 ⟨by omega, by omega⟩]
            exact ⟨_, _, rfl, .inl ⟨rfl, run, i, ⟨hf, hr, q, hst, hs, h.1, h.2⟩, rfl⟩⟩
          · rw [if_neg (by simpa using h), W_id (x := (i : Int) + 1) (by omega) (by omega)]
            refine ih (i + 1) (i + 1) (by omega) (by omega) (Nat.le_refl _) (by omega) (fun k k1 k2 => by omega) (.inr (by simpa using hs)) fun r j hC => ?_
            have := hno r j hC
            by_cases e : j = i
            · exfalso
              subst e
              have hrr : run ≤ r := by
                by_cases z : run ≤ r
                · exact z
                · rcases hpre with z2 | z2
                  · have := hC.cf; omega
                  · have := hC.cst (run - 1) (by omega) (by omega)
                    rw [z2] at this; cases this
              have := (hE.mono hE.ets.tS hf hrr (by have := hC.ci; omega)).1
              have := hC.cl
              exact h ⟨by omega, hC.ch⟩
            · omega
      · rw [if_neg (by simp; omega)]
        exact ⟨_, _, rfl, .inr ⟨rfl, rfl, fun r j hC => by have := hno r j hC; have := hC.ce; omega⟩⟩
/-- The greatest time of a gap. -/
def gapT (s : BS) (k : Nat) : Int := gt (runT s.b s.v.toNat (t0 s.v.toNat (vrE s k))).d (vrE s (k + 1))
theorem zxo {s : BS} (h : Good s) {X : Int → Int} (hX : SolF s X) (φ : Nat) (hφ : 5001 < φ) {k : Nat} (hk : k + 1 < s.e.length) :
    z8q φ s.v s.b (vrE s k) (vrE s (k + 1)) = some (gapT s k, true, 0, ()) ∧ -2305843009213693952 ≤ gapT s k ∧ gapT s k ≤ 2305843009213693952 ∧ ∃ Y, SolF s Y ∧ Y (vrE s k) = 0 ∧ Y (vrE s (k + 1)) = gapT s k ∧ ∀ X, SolF s X → ∀ v, 0 ≤ v → v < s.v → X v - X (vrE s k) ≤ Y v := by
  have hv := h.v1
  have hv2 := h.v2
  obtain ⟨i1, i2⟩ := h.ev (gt s.e (k : Int)) (z1z (by omega) (by omega))
  obtain ⟨j1, j2⟩ := h.ev (gt s.e ((k + 1 : Nat) : Int)) (z1z (by omega) (by omega))
  change 1 ≤ vrE s k at i1
  change vrE s k < s.v at i2
  change 1 ≤ vrE s (k + 1) at j1
  change vrE s (k + 1) < s.v at j2
  obtain ⟨g1, g2, g3, g4⟩ := zum (n := s.v.toNat) h.ok h.conn (zf1.1 hX) (u := vrE s k) (by omega) (by omega)
  have e := y3d φ hφ s.b s.v.toNat (by omega) (by omega) h.ok h.bl (h.sol.2 ⟨X, hX⟩) (i := vrE s k) (j := vrE s (k + 1)) (by omega) (by omega)
  rw [show ((s.v.toNat : Nat) : Int) = s.v by omega] at e
  have hb := (zqo h.ok (y8f h.ok (zf1.1 hX) (u := (vrE s k).toNat) (by omega)) s.v.toNat 0 0 (t0 s.v.toNat (vrE s k)) y7x (ya9 (by omega) (by omega)) (by omega)).1
  have hm := Nat.mul_le_mul (show s.v.toNat ≤ 512 by omega) h.bl
  have hb2 := (hb.up (e := 2097152) (by omega)).bd (vrE s (k + 1)) (by omega) (by omega)
  refine ⟨?_, ?_, ?_, _, zf1.2 g3.sat, g3.zero, rfl, fun Z hZ v v0 v1 => g3.top Z (zf1.1 hZ) v v0 (by omega)⟩
  · rw [e, g4 _ (by omega) (by omega), if_pos rfl]; rfl
  · unfold gapT; omega
  · unfold gapT; omega
/-- What Possible answers. -/
structure PosL (φ : Nat) (p : Pool) (s : BS) (f e : Nat) (m : Int) (L : List Int) : Prop where
  inc : L.Pairwise (· < ·)
  mem : ∀ q, q ∈ L ↔ okPl p.network q ∧ PosW φ p.network (z5r s) (z6o s) (gapT s) (plE s) (vrE s) (stE s) f e m q
theorem zrn (φ : Nat) (hφ : 800000 < φ) (p : Pool) {l : List ze} (hl : FewL l) (w m : Int) :
    ∃ L, z0y φ p l w m = some (L, zc2 φ p l w m, ()) ∧ (zc2 φ p l w m ≠ 0 → L = []) ∧
      (zc2 φ p l w m = 0 → y7n φ p l w m ∧ ∃ f e : Nat, RunW (bsB φ p l) w f e ∧ PosL φ p (bsB φ p l) f e m L ∧ L.length ≤ p.network.places.length) := by
  unfold z0y
  rcases y3m φ hφ p hl w m with ⟨h1, x, v, f, e, h2⟩ | ⟨h1, hA, f, e, hR, h2⟩
  · rw [h2, Option.bind_some]
    simp only
    rw [if_pos (by simpa using h1)]
    exact ⟨_, rfl, fun _ => rfl, fun h => absurd h h1⟩
  · rw [h2, Option.bind_some, h1]
    simp only
    rw [if_neg (by simp)]
    obtain ⟨X, hX⟩ := hA.sol
    have hG := hA.good
    have hE := y3u hφ hA.hc hl hG hX hR
    have hn := (z6z hA.hc).1
    have hP := (zes hn).1
    generalize bsB φ p l = s at *
    have hel := hG.el
    have hv2 := hG.v2
    have r1 := hR.fe
    have r2 := hR.el
    have m0 := hA.m0
    have m1 := hA.m1
    have hvl : (visL s).length = s.e.length := by simp [visL]
    -- the two questions of a place
    have p1 : ∀ (k : Nat) (q : Int), f ≤ k → k < e → okPl p.network q → ∃ w b, z2x φ (k : Int) q p (visL s) m = some (w, b, ()) ∧ (b = true ↔ zsv φ p.network (z5r s) (plE s) (vrE s) m q k) ∧ (b = true → Dst φ p.network (plE s k) q = some w) ∧ 0 ≤ w ∧ w ≤ 51200000 := by
      intro k q k1 k2 hq
      have hv : gt (visL s) (k : Int) = _ := zlp (E := z5r s) (T := z6o s) (k := k) (by omega)
      unfold z2x
      rw [hvl, z7 ⟨by omega, by omega⟩, hv]
      simp only
      rw [zjt hφ hn (hE.ok k k1 k2).1 hq, Option.bind_some, z7 (fun _ => ⟨by omega, by omega⟩)]
      cases hd : Dst φ p.network (plE s k) q with
      | none => exact ⟨_, _, rfl, by simp [zsv, hd], by simp, by simp, by simp⟩
      | some t =>
        have ht := zxz hφ hn (hE.ok k k1 k2).1 hq hd
        simp only
        rw [W_id (x := m - t) (by omega) (by omega)]
        refine ⟨_, _, rfl, ?_, fun _ => rfl, ht.1, ht.2⟩
        simp only [zsv, hd, Option.some.injEq, exists_eq_left', beq_self_eq_true, Bool.true_and, decide_eq_true_eq]
        omega
    have p2 : ∀ (k : Nat) (q : Int), f ≤ k → k < e → okPl p.network q → ∃ w b, z2y φ (k : Int) q p (visL s) m = some (w, b, ()) ∧ (b = true ↔ zth φ p.network (z6o s) (plE s) (vrE s) m q k) ∧ (b = true → Dst φ p.network q (plE s k) = some w) ∧ 0 ≤ w ∧ w ≤ 51200000 := by
      intro k q k1 k2 hq
      have hv : gt (visL s) (k : Int) = _ := zlp (E := z5r s) (T := z6o s) (k := k) (by omega)
      unfold z2y
      rw [hvl, z7 ⟨by omega, by omega⟩, hv]
      simp only
      rw [zjt hφ hn hq (hE.ok k k1 k2).1, Option.bind_some, z7 (fun _ => ⟨by omega, by omega⟩)]
      cases hd : Dst φ p.network q (plE s k) with
      | none => exact ⟨_, _, rfl, by simp [zth, hd], by simp, by simp, by simp⟩
      | some t =>
        have ht := zxz hφ hn hq (hE.ok k k1 k2).1 hd
        simp only
        rw [W_id (x := m + t) (by omega) (by omega)]
        refine ⟨_, _, rfl, ?_, fun _ => rfl, ht.1, ht.2⟩
        simp only [zth, hd, Option.some.injEq, exists_eq_left', beq_self_eq_true, Bool.true_and, decide_eq_true_eq]
    have gaps : ∀ (K : Int → Int → Int → Int → List Int → zo → List zj → Pool → Int → Option (List Int × Int × Unit)) (q x23 : Int) (acc : List Int), okPl p.network q → acc.length ≤ 1000 → ∀ (n i : Nat), e - i < n → f ≤ i → i ≤ e → (∀ k, f ≤ k → k + 1 < e → k < i → ¬ gapW φ p.network (z5r s) (z6o s) (gapT s) (plE s) (vrE s) (stE s) m q k) →
        ∃ b : Bool, (b = true ↔ ∃ k, f ≤ k ∧ k + 1 < e ∧ gapW φ p.network (z5r s) (z6o s) (gapT s) (plE s) (vrE s) (stE s) m q k) ∧
          z1b φ K n (f : Int) (e : Int) q (i : Int) (p.network.places.length : Int) x23 acc ⟨s.v, s.b, s.y, s.e⟩ (visL s) p m = K (f : Int) (e : Int) (p.network.places.length : Int) (W (x23 + 1)) (if b = true then acc ++ [q] else acc) ⟨s.v, s.b, s.y, s.e⟩ (visL s) p m := by
      intro K q x23 acc hq hacc n
      induction n with
      | zero => intro i h; omega
      | succ n ih =>
        intro i hn' hf hi hno
        have hWi : W ((i : Int) + 1) = ((i + 1 : Nat) : Int) := by rw [W_id (by omega) (by omega)]; omega
        rw [z1b, hWi]
        by_cases qe : i + 1 < e
        · obtain ⟨w1, b1, e1, c1, d1, _, _⟩ := p1 i q hf (by omega) hq
          obtain ⟨w2, b2, e2, c2, d2, _, _⟩ := p2 (i + 1) q (by omega) qe hq
          have hv : gt (visL s) (i : Int) = _ := zlp (E := z5r s) (T := z6o s) (k := i) (by omega)
          rw [if_pos (by simp; omega), e1, Option.bind_some, e2, Option.bind_some, hvl, z7 (fun _ => ⟨by omega, by omega⟩), z7 (fun _ => ⟨by omega, by omega⟩), hv]
          simp only
          have next : ¬ gapW φ p.network (z5r s) (z6o s) (gapT s) (plE s) (vrE s) (stE s) m q i → ∀ k, f ≤ k → k + 1 < e → k < i + 1 → ¬ gapW φ p.network (z5r s) (z6o s) (gapT s) (plE s) (vrE s) (stE s) m q k := fun hg k k1 k2 k3 => by
            by_cases e : k = i
            · subst e; exact hg
            · exact hno k k1 k2 (by omega)
          by_cases hcond : (((!b1) || (!b2)) || (stE s i && (q != plE s i))) = true
          · rw [if_pos hcond]
            refine ih (i + 1) (by omega) (by omega) (by omega) (next ?_)
            rintro ⟨a, b, g1, g2, g3, g4, g5, g6⟩
            have t1 : b1 = true := c1.2 ⟨a, g1, g2⟩
            have t2 : b2 = true := c2.2 ⟨b, g3, g4⟩
            rw [t1, t2] at hcond
            simp only [Bool.not_true, Bool.false_or, Bool.and_eq_true, bne_iff_ne, ne_eq] at hcond
            exact hcond.2 (g5 hcond.1)
          · rw [if_neg hcond]
            simp only [Bool.or_eq_true, Bool.not_eq_true', Bool.and_eq_true, bne_iff_ne, ne_eq, not_or, not_and, Decidable.not_not, Bool.not_eq_false] at hcond
            obtain ⟨⟨t1, t2⟩, t3⟩ := hcond
            obtain ⟨tg, tl, th, _⟩ := zxo hG hX φ (by omega) (k := i) (by omega)
            rw [z7 ⟨by omega, by omega⟩, z7 ⟨by omega, by omega⟩]
            change ∃ b : Bool, _ ∧ (z8q φ s.v s.b (vrE s i) (vrE s (i + 1))).bind _ = _
            rw [tg, Option.bind_some, W_id (x := w1 + w2) (by omega) (by omega)]
            simp only
            have hl1 := d1 t1
            have hl2 := d2 t2
            obtain ⟨y1, z1, z2⟩ := c1.1 t1
            obtain ⟨y2, z3, z4⟩ := c2.1 t2
            rw [hl1] at z1; cases z1
            rw [hl2] at z3; cases z3
            by_cases hle : w1 + w2 ≤ gapT s i
            · rw [if_pos (by simpa using hle), z7 (zl1 (by simp; omega) (by omega))]
              refine ⟨true, ⟨fun _ => ⟨i, hf, qe, w1, w2, hl1, z2, hl2, z4, t3, hle⟩, fun _ => rfl⟩, ?_⟩
              rw [if_pos rfl]
            · rw [if_neg (by simpa using hle)]
              refine ih (i + 1) (by omega) (by omega) (by omega) (next ?_)
              rintro ⟨a, b, g1, g2, g3, g4, g5, g6⟩
              rw [hl1] at g1; cases g1
              rw [hl2] at g3; cases g3
              exact hle g6
        · rw [if_neg (by simp; omega)]
          refine ⟨false, ⟨fun h => (by cases h), ?_⟩, by rw [if_neg (by simp)]⟩
          rintro ⟨k, k1, k2, k3⟩
          exact absurd k3 (hno k k1 k2 (by omega))
    suffices key : ∃ L, zu φ φ (f : Int) (e : Int) (p.network.places.length : Int) 0 [] ⟨s.v, s.b, s.y, s.e⟩ (visL s) p m = some (L, 0, ()) ∧ PosL φ p s f e m L ∧ L.length ≤ p.network.places.length by
      obtain ⟨L, k1, k2, k3⟩ := key
      exact ⟨L, k1, fun h => absurd rfl h, fun _ => ⟨hA, f, e, hR, k2, k3⟩⟩
    refine z03 (fun n i (L : List Int) => zu φ n (f : Int) (e : Int) (p.network.places.length : Int) i L ⟨s.v, s.b, s.y, s.e⟩ (visL s) p m) p.network.places.length
      (fun i L => L.length ≤ i ∧ L.Pairwise (· < ·) ∧ ∀ q, q ∈ L ↔ 0 ≤ q ∧ q < (i : Int) ∧ PosW φ p.network (z5r s) (z6o s) (gapT s) (plE s) (vrE s) (stE s) f e m q) (fun o => ∃ L, o = some (L, 0, ()) ∧ PosL φ p s f e m L ∧ L.length ≤ p.network.places.length) ?_ ?_ φ [] ⟨by simp, by simp, fun q => ⟨fun h => (by cases h), fun h => by omega⟩⟩ (by omega)
    · intro n i L hi ⟨hlen, hpw, hmem⟩ hk
      have hq : okPl p.network (i : Int) := ⟨by omega, by omega⟩
      have yes : PosW φ p.network (z5r s) (z6o s) (gapT s) (plE s) (vrE s) (stE s) f e m i → (L ++ [(i : Int)]).length ≤ i + 1 ∧ (L ++ [(i : Int)]).Pairwise (· < ·) ∧ ∀ q, q ∈ L ++ [(i : Int)] ↔ 0 ≤ q ∧ q < ((i + 1 : Nat) : Int) ∧ PosW φ p.network (z5r s) (z6o s) (gapT s) (plE s) (vrE s) (stE s) f e m q := fun hp => by
        refine ⟨by simp; omega, List.pairwise_append.2 ⟨hpw, by simp, fun a ha b hb => ?_⟩, fun q => ?_⟩
        · rw [List.mem_singleton] at hb
          have := (hmem a).1 ha
          omega
        · rw [List.mem_append, List.mem_singleton, hmem q]
          constructor
          · rintro (⟨h1, h2, h3⟩ | rfl)
            · exact ⟨h1, by omega, h3⟩
            · exact ⟨by omega, by omega, hp⟩
          · rintro ⟨h1, h2, h3⟩
            by_cases z : q = (i : Int)
            · exact .inr z
            · exact .inl ⟨h1, by omega, h3⟩
      have no : ¬ PosW φ p.network (z5r s) (z6o s) (gapT s) (plE s) (vrE s) (stE s) f e m i → L.length ≤ i + 1 ∧ L.Pairwise (· < ·) ∧ ∀ q, q ∈ L ↔ 0 ≤ q ∧ q < ((i + 1 : Nat) : Int) ∧ PosW φ p.network (z5r s) (z6o s) (gapT s) (plE s) (vrE s) (stE s) f e m q := fun hp => by
        refine ⟨by omega, hpw, fun q => ?_⟩
        rw [hmem q]
        constructor
        · rintro ⟨h1, h2, h3⟩
          exact ⟨h1, by omega, h3⟩
        · rintro ⟨h1, h2, h3⟩
          by_cases z : q = (i : Int)
          · subst z; exact absurd h3 hp
          · exact ⟨h1, by omega, h3⟩
      have hWi : W ((i : Int) + 1) = (i : Int) + 1 := W_id (by omega) (by omega)
      have hfit : fits (L.length + ([(i : Int)] : List Int).length) 8 := zl1 (by simp; omega) (by omega)
      rw [zu, if_pos (by simp; omega), hWi]
      by_cases hfe : f = e
      · rw [if_pos (by simp [hfe]), z7 hfit]
        exact hk _ (yes (.inl hfe))
      · rw [if_neg (by simp; omega)]
        obtain ⟨w2, b2, e2, c2, _, _, _⟩ := p2 f i (Nat.le_refl _) (by omega) hq
        rw [e2, Option.bind_some]
        cases b2 with
        | true =>
          rw [if_pos rfl, z7 hfit]
          exact hk _ (yes (.inr (.inl (c2.1 rfl))))
        | false =>
          rw [if_neg (by simp)]
          obtain ⟨w1, b1, e1, c1, _, _, _⟩ := p1 (e - 1) i (by omega) (by omega) hq
          rw [show W ((e : Int) - 1) = ((e - 1 : Nat) : Int) by rw [W_id (by omega) (by omega)]; omega, e1, Option.bind_some]
          cases b1 with
          | true =>
            rw [if_pos rfl, z7 hfit]
            exact hk _ (yes (.inr (.inr (.inl (c1.1 rfl)))))
          | false =>
            rw [if_neg (by simp)]
            obtain ⟨b, hb1, hb2⟩ := gaps (zu φ n) i i L hq (by omega) φ f (by omega) (Nat.le_refl _) r1 (fun k k1 k2 k3 => by omega)
            rw [hb2, hWi]
            refine hk _ ?_
            cases b with
            | true => rw [if_pos rfl]; exact yes (.inr (.inr (.inr (hb1.1 rfl))))
            | false =>
              rw [if_neg (by simp)]
              refine no ?_
              rintro (h | h | h | h)
              · exact hfe h
              · exact absurd (c2.2 h) (by simp)
              · exact absurd (c1.2 h) (by simp)
              · exact absurd (hb1.2 h) (by simp)
    · intro n L ⟨hlen, hpw, hmem⟩
      rw [zu, if_neg (by simp)]
      exact ⟨L, rfl, ⟨hpw, fun q => by rw [hmem q]; unfold okPl; rw [and_assoc]⟩, hlen⟩
end Px
end
section
namespace Px
open Go
set_option linter.unusedVariables false
set_option linter.unusedSimpArgs false
theorem zzw (φ : Nat) (hφ : 1000 < φ) (p : Pool) : ∃ b, z60 φ p = some (b, ()) ∧ (b = true → p.network.places.length ≤ 16 ∧ p.network.edges.length ≤ 40 ∧ p.fleet.wagons.length ≤ 8 ∧ p.readers.length ≤ 8) := by
  unfold z60
  split
  · exact ⟨false, rfl, fun h => by cases h⟩
  · rename_i hc
    simp only [Bool.or_eq_true, decide_eq_true_eq, not_or] at hc
    obtain ⟨⟨⟨⟨⟨⟨c1, c2⟩, c3⟩, c4⟩, c5⟩, c6⟩, c7⟩ := hc
    have : ∃ b, z18 φ φ 0 p = some (b, ()) := by
      refine z03 (fun n i (_ : Unit) => z18 φ n i p) p.railways.length (fun _ _ => True) (fun o => ∃ b, o = some (b, ())) ?_ ?_ φ () trivial (by omega)
      · intro n i _ hi _ hs
        rw [z18, if_pos (by simp; omega), z7 ⟨by omega, by omega⟩, W_id (by omega) (by omega)]
        split
        · exact ⟨false, rfl⟩
        · exact hs () trivial
      · intro n _ _
        rw [z18, if_neg (by simp)]
        exact ⟨true, rfl⟩
    obtain ⟨b, hb⟩ := this
    exact ⟨b, hb, fun _ => by omega⟩
theorem y6r (φ : Nat) (hφ : 1000 < φ) (l : List ze) (N : Nat) (hN : N ≤ 500) : ∃ b, z3q φ l N = some (b, ()) ∧ (b = true → FewL l ∧ l.length ≤ N) ∧ (b = true ↔ l.length ≤ N ∧ ∀ r ∈ l, r.item.parts.length ≤ 40 ∧ r.item.text.size ≤ 2000) := by
  unfold z3q
  by_cases h60 : N < l.length
  · rw [if_pos (by simp; omega)]
    exact ⟨false, rfl, (fun h => by cases h), (fun h => by cases h), fun h => by omega⟩
  · rw [if_neg (by simp; omega)]
    refine z03 (fun n i (_ : Unit) => z1m φ n l i) l.length (fun i _ => ∀ j : Nat, j < i → (gt l (j : Int)).item.parts.length ≤ 40 ∧ (gt l (j : Int)).item.text.size ≤ 2000)
      (fun o => ∃ b, o = some (b, ()) ∧ (b = true → FewL l ∧ l.length ≤ N) ∧ (b = true ↔ l.length ≤ N ∧ ∀ r ∈ l, r.item.parts.length ≤ 40 ∧ r.item.text.size ≤ 2000)) ?_ ?_ φ () (fun j hj => by omega) (by omega)
    · intro n i _ hi hI hs
      rw [z1m, if_pos (by simp; omega), z7 ⟨by omega, by omega⟩, z7 (fun _ => ⟨by omega, by omega⟩), W_id (by omega) (by omega)]
      split
      · rename_i hc
        simp only [Bool.or_eq_true, decide_eq_true_eq] at hc
        refine ⟨false, rfl, (fun h => by cases h), (fun h => by cases h), fun h => ?_⟩
        have := h.2 _ (z1z (l := l) (i := (i : Int)) (by omega) (by omega))
        omega
      · rename_i hc
        simp only [Bool.or_eq_true, decide_eq_true_eq, not_or] at hc
        refine hs () fun j hj => ?_
        by_cases e : j = i
        · subst e; omega
        · exact hI j (by omega)
    · intro n _ hI
      rw [z1m, if_neg (by simp)]
      have all : ∀ r ∈ l, r.item.parts.length ≤ 40 ∧ r.item.text.size ≤ 2000 := fun r hr => by
        obtain ⟨j, hj, rfl⟩ := zoi hr
        exact hI j hj
      exact ⟨true, rfl, fun _ => ⟨⟨by omega, fun r hr => by have := all r hr; omega⟩, by omega⟩, fun _ => ⟨by omega, all⟩, fun _ => rfl⟩
/-- All events are fewer than twice the reports. -/
theorem zxr (k : Nat) (x : Int) : ∀ n : Nat, ((List.range n).map fun (w : Nat) => if x = (w : Int) then k else 0).sum ≤ if x < (n : Int) then k else 0
  | 0 => by simp
  | n + 1 => by
    have ih := zxr k x n
    rw [List.range_succ, List.map_append, List.sum_append]
    simp only [List.map_cons, List.map_nil, List.sum_cons, List.sum_nil, Nat.add_zero]
    by_cases h : x = (n : Int)
    · rw [if_pos h, if_pos (by omega)]
      rw [if_neg (by omega)] at ih
      omega
    · rw [if_neg h]
      by_cases h2 : x < (n : Int)
      · rw [if_pos h2] at ih; rw [if_pos (by omega)]; omega
      · rw [if_neg h2] at ih; omega
theorem zwh (f g : Nat → Nat) : ∀ l : List Nat, (l.map fun w => f w + g w).sum = (l.map f).sum + (l.map g).sum
  | [] => rfl
  | a :: l => by
    have := zwh f g l
    simp only [List.map_cons, List.sum_cons]
    omega
theorem zya (p : Pool) (l : List ze) (n : Nat) : ∀ c : List Int, ((List.range n).map fun (w : Nat) => (unsC p l c (w : Int)).length).sum ≤ 2 * c.length
  | [] => by
    have : ∀ l : List Nat, (l.map fun _ => 0).sum = 0 := fun l => by
      induction l with
      | nil => rfl
      | cons a l ih => rw [List.map_cons, List.sum_cons, ih]
    have h := this (List.range n)
    show ((List.range n).map fun (w : Nat) => ([] : List z6).length).sum ≤ 0
    exact Nat.le_of_eq h
  | i :: c => by
    have ih := zya p l n c
    have e : ∀ w : Int, (unsC p l (i :: c) w).length = (if (gt l i).item.wagon = w then (evs p (gt l i) i).length else 0) + (unsC p l c w).length := fun w => by
      unfold unsC
      rw [List.flatMap_cons, List.length_append]
      split <;> rfl
    simp only [e]
    rw [zwh]
    have h1 := zxr (evs p (gt l i) i).length (gt l i).item.wagon n
    have h2 := zrv p (gt l i) i
    rw [List.length_cons]
    split at h1 <;> omega
theorem y3f (p : Pool) (l : List ze) : (z0k p l).flatten.length ≤ 2 * l.length := by
  rw [List.length_flatten]
  unfold z0k
  rw [List.map_map]
  have h := zya p l p.fleet.wagons.length (cnt p l)
  have h2 := zff p l l.length
  have e : (List.length ∘ fun (w : Nat) => z9d p l (w : Int)) = fun (w : Nat) => (unsC p l (cnt p l) (w : Int)).length := by
    funext w
    simp only [Function.comp]
    unfold z9d srt
    rw [zjg, (z1c _ _).length_eq]
    rfl
  rw [e]
  unfold cnt at h ⊢
  omega
theorem BB.fold (tv m) : ∀ (ts : List (List z6)) (n : Nat) (s : BS), BB n s → BB (n + ts.flatten.length) (fB tv m ts s)
  | [], n, s, h => h
  | t :: ts, n, s, h => by
    have := BB.fold tv m ts _ _ (BB.ev tv m t n none s h)
    rw [Nat.add_assoc] at this
    rw [List.flatten_cons, List.length_append]
    exact this
theorem y5h (tv) {rs : List z2c} (hr : rs.length ≤ 256) (ts : List (List z6)) : BB ts.flatten.length (bAll tv rs ts) := by
  obtain ⟨h1, h2, h3, h4⟩ := zak rs (used ts) rs.length
  have h0 : BB 0 (rd0 rs ts) := ⟨h1, by show (rdsN rs (used ts) rs.length).v ≤ _; omega, by show (rdsN rs (used ts) rs.length).b.length ≤ _; omega, by show (rdsN rs (used ts) rs.length).y.length ≤ _; omega, by simp⟩
  have := BB.fold tv (rdM rs ts) ts 0 _ h0
  rw [Nat.zero_add] at this
  exact this
theorem y5a {φ : Nat} {p : Pool} (hc : z0b p = 0) {l : List ze} (hl : l.length ≤ 100) : (bsB φ p l).v ≤ 257 + 2 * l.length ∧ (bsB φ p l).b.length ≤ 512 + 10 * l.length ∧ (bsB φ p l).e.length ≤ 2 * l.length ∧ ¬ (512 < (bsB φ p l).v ∨ 4096 < (bsB φ p l).b.length) := by
  have h : BB (z0k p l).flatten.length (bsB φ p l) := y5h (tvl φ p.network) (z6z hc).2.2.1 (z0k p l)
  have h2 := y3f p l
  have q1 := h.v1
  have q2 := h.b
  have q3 := h.e
  refine ⟨by omega, by omega, ?_, by omega⟩
  omega
section
variable (φ : Nat) {p : Pool} {l : List ze} (hl : FewL l) {w : Int} (w0 : 0 ≤ w) (w1 : w < (p.fleet.wagons.length : Int))
include hl w0 w1
end
end Px
end
section
namespace Px
open Go
theorem y8z : zd0 100000000 = some (true, ()) := by kernel_rfl
end Px
end
section
namespace Px
open Go
set_option linter.unusedVariables false
set_option linter.unusedSimpArgs false
theorem y1q (φ : Nat) (hφ : 1000 < φ) (p : Pool) (l : List ze) : ∃ b, zfj φ p l = some (b, ()) ∧ (b = true → FewL l ∧ l.length ≤ 8 ∧ p.network.places.length ≤ 16 ∧ p.network.edges.length ≤ 40 ∧ p.fleet.wagons.length ≤ 8 ∧ p.readers.length ≤ 8) ∧
    (b = true → ∀ r ∈ l, r.item.parts.length ≤ 40 ∧ r.item.text.size ≤ 2000) := by
  obtain ⟨b1, h1, h2⟩ := zzw φ hφ p
  obtain ⟨b2, h3, h4, h5⟩ := y6r φ hφ l 8 (by omega)
  unfold zfj
  rw [h1, Option.bind_some]
  cases b1 with
  | false =>
    rw [gz_f (by simp), Option.bind_some]
    exact ⟨_, rfl, (fun h => by cases h), fun h => by cases h⟩
  | true =>
    have h3' : z3q φ l 8 = some (b2, ()) := h3
    rw [gz_t rfl, h3', Option.bind_some]
    refine ⟨_, rfl, fun h => ?_, fun h => (h5.1 h).2⟩
    obtain ⟨q1, q2⟩ := h4 h
    obtain ⟨a1, a2, a3, a4⟩ := h2 rfl
    exact ⟨q1, q2, a1, a2, a3, a4⟩
end Px
end
section
namespace Px
open Go
set_option linter.unusedVariables false
set_option linter.unusedSimpArgs false
theorem zrw (φ : Nat) (hφ : 2000 < φ) (l : List ze) (hl : l.length ≤ 1000) : ∃ b, z7g φ l = some (b, ()) ∧ (b = true → zbp l) := by
  have key : (∀ i j : Nat, j < i → i < l.length → (gt l (i : Int)).ref ≠ (gt l (j : Int)).ref) → zbp l := by
    intro h
    unfold zbp
    rw [List.pairwise_iff_getElem]
    intro i j hi hj hij e
    refine h j i hij hj ?_
    rw [z5n hi, z5n hj, e]
  unfold z7g
  refine z03 (fun n i (_ : Unit) => z1k φ n l i) l.length (fun n _ => ∀ i j : Nat, j < i → i < n → (gt l (i : Int)).ref ≠ (gt l (j : Int)).ref) (fun o => ∃ b, o = some (b, ()) ∧ (b = true → zbp l)) ?_ ?_ φ () (fun i j h1 h2 => by omega) (by omega)
  · intro n i _ hi hI hk
    rw [z1k, if_pos (by simp; omega)]
    refine z03 (fun m j (_ : Unit) => z2g φ (z1k φ n) m l (i : Int) j) i (fun j _ => ∀ j' : Nat, j' < j → (gt l (i : Int)).ref ≠ (gt l (j' : Int)).ref) (fun o => ∃ b, o = some (b, ()) ∧ (b = true → zbp l)) ?_ ?_ φ () (fun j h1 => by omega) (by omega)
    · intro m j _ hj hJ hs
      rw [z2g, if_pos (by simp; omega), z7 ⟨by omega, by omega⟩, z7 ⟨by omega, by omega⟩, W_id (by omega) (by omega)]
      split
      · exact ⟨false, rfl, fun h => by cases h⟩
      · rename_i hne
        refine hs () fun j' hj' => ?_
        by_cases e : j' = j
        · subst e
          intro q
          exact hne (by rw [q]; simp)
        · exact hJ j' (by omega)
    · intro m _ hJ
      rw [z2g, if_neg (by simp), W_id (by omega) (by omega)]
      refine hk () fun i' j' h1 h2 => ?_
      by_cases e : i' = i
      · subst e; exact hJ j' h1
      · exact hI i' j' h1 (by omega)
  · intro n _ hI
    rw [z1k, if_neg (by simp)]
    exact ⟨true, rfl, fun _ => key fun i j h1 h2 => hI i j h1 h2⟩
theorem zma (φ : Nat) (x : List Int) (hb : x.length < φ) (h : x.length ≤ 100000000) : z56 φ x x = some (true, ()) := by
  unfold z56
  rw [if_neg (by simp)]
  refine z03 (fun n i (_ : Unit) => z2d φ n x x i) x.length (fun _ _ => True) (fun o => o = some (true, ())) ?_ ?_ φ () trivial hb
  · intro n i _ hi _ hs
    rw [z2d, if_pos (by simp; omega), z7 ⟨by omega, by omega⟩, z7 ⟨by omega, by omega⟩, if_neg (by simp), W_id (by omega) (by omega)]
    exact hs () trivial
  · intro n _ _
    rw [z2d, if_neg (by simp)]
theorem ztt (φ : Nat) (p : Pool) {l l' : List ze} (hl : FewL l) (hd : zbp l) (hp : l'.Perm l) : slv φ p l' = slv φ p l := by
  have : bsB φ p l' = bsB φ p l := y2m (zs2 hl.len hd hp) _ _
  unfold slv
  rw [this]
theorem y5i (φ : Nat) (p : Pool) {l : List ze} (hl : l.length ≤ 100) : (slv φ p l).2.1.length ≤ 200 := by
  unfold slv
  by_cases hc : z0b p = 0
  · rw [if_neg (show ¬ z0b p ≠ 0 from fun h => h hc)]
    have := (y5a (φ := φ) hc hl).2.2.1
    split
    · simp
    · split
      · simp
      · simp only [visL, List.length_map]; omega
  · rw [if_pos hc]; simp
theorem zt4 (φ : Nat) (hφ : 800000 < φ) (p : Pool) {l l' : List ze} (hl : FewL l) (hd : zbp l) (hp : l'.Perm l) (w m : Int) : z3h φ p l' w m = z3h φ p l w m := by
  unfold z3h
  rw [zil φ hφ p hl, zil φ hφ p (hl.perm hp), ztt φ p hl hd hp]
theorem y7w (φ : Nat) (p : Pool) (l : List ze) (w m : Int) : (z34 φ).F (p, l, w, m, ()) = z2v φ p l w m := rfl
theorem zfx (x : Tup TT [35, 38, 0, 0]) (h : y5g TV 30 [35, 38, 0, 0] x) : ∃ φ, (z34 φ).F x = some (true, ()) := by
  obtain ⟨p, l, w, m, _⟩ := x
  change List ze at l
  change Pool at p
  change Int at w m
  suffices key : ∃ φ, z2v φ p l w m = some (true, ()) by
    obtain ⟨φ, h⟩ := key
    exact ⟨φ, (y7w φ p l w m).trans h⟩
  suffices key : ∀ φ : Nat, 60000000 < φ → zd0 φ = some (true, ()) → z2v φ p l w m = some (true, ()) from ⟨100000000, key _ (by omega) y8z⟩
  intro φ hφ hsane
  unfold z2v
  obtain ⟨bf, hbf, hfew, _⟩ := y1q φ (by omega) p l
  rw [hsane, Option.bind_some, if_neg (by simp), hbf, Option.bind_some]
  cases bf with
  | false => rw [gz_f (by simp), Option.bind_some, if_pos (by simp)]
  | true =>
  obtain ⟨hl, hlen, hpl, _⟩ := hfew rfl
  obtain ⟨bd, hbd1, hbd2⟩ := zrw φ (by omega) l (by omega)
  rw [gz_t (by simp), hbd1, Option.bind_some]
  cases bd with
  | false => rw [if_pos (by simp)]
  | true =>
  have hd := hbd2 rfl
  rw [if_neg (by simp), W_id (by omega) (by omega)]
  have key : ∀ (n i : Nat), i ≤ l.length → i < n → z1h φ n l w m ((i : Int) - 1) p (l.drop i).reverse = some (true, ()) := by
    intro n
    induction n with
    | zero => intro i _ h; omega
    | succ n ih =>
      intro i hi hn
      rw [z1h]
      by_cases h : 0 < i
      · rw [if_pos (by simp; omega), z7 ⟨by omega, by omega⟩, z7 (zl1 (by simp; omega) (by omega)), W_id (x := (i : Int) - 1 - 1) (by omega) (by omega)]
        have := ih (i - 1) (by omega) (by omega)
        rw [zql l (i - 1) (by omega), List.reverse_cons, show i - 1 + 1 = i by omega, show ((i - 1 : Nat) : Int) = (i : Int) - 1 by omega] at this
        exact this
      · have : i = 0 := by omega
        subst this
        have hp : l.reverse.Perm l := List.reverse_perm l
        obtain ⟨a, ok, e1, _, _⟩ := zuk φ (by omega) p hl w m
        obtain ⟨L, p1, p2, p3⟩ := zrn φ (by omega) p hl w m
        have c2 : za φ p l.reverse w m = za φ p l w m := by
          unfold za; rw [zt4 φ (by omega) p hl hd hp]
        have p2' : z0y φ p l.reverse w m = z0y φ p l w m := by
          unfold z0y; rw [zt4 φ (by omega) p hl hd hp]
        have hLl : L.length ≤ 512 := by
          by_cases he : zc2 φ p l w m = 0
          · obtain ⟨_, f, e, _, _, h⟩ := p3 he
            omega
          · rw [p2 he]; simp
        have hsl := y5i φ p (l := l) (by omega)
        rw [if_neg (by simp), List.drop_zero, zpw φ (by omega) p hl, Option.bind_some, zpw φ (by omega) p (hl.perm hp), Option.bind_some, c2, p2', e1, Option.bind_some, Option.bind_some, p1, Option.bind_some, Option.bind_some, ztt φ p hl hd hp]
        simp only
        rw [zj4 φ _ (by omega) (by omega), Option.bind_some, if_neg (by simp), zma φ L (by omega) (by omega), Option.bind_some]
        simp
  have := key φ l.length (Nat.le_refl _) (by omega)
  rw [List.drop_length] at this
  exact this
end Px
end
