/- A part of the proof of custodyCertain_holds. Conditions: none. -/
import Derived.Test.YtonbdachlfobnaaGreatZff
section
namespace Px
open Go
set_option linter.unusedVariables false
set_option linter.unusedSimpArgs false
def bI (b : za) : Nat := b.i.toNat
def bJ (b : za) : Nat := b.j.toNat
def bW (b : za) : Int := b.w
def xf (x : List Int) : BF.X := fun v => if v < x.length then some (gt x (v : Int)) else none
theorem y2d {x : List Int} {i : Int} (h0 : 0 ≤ i) (h : i < (x.length : Int)) : xf x i.toNat = some (gt x i) := by
  unfold xf
  rw [if_pos (by omega), show ((i.toNat : Nat) : Int) = i by omega]
theorem zvq {n : Nat} {s : LS} (hx : s.x.length = n) {b : za} (hb : okBd n b) (i : Int) :
    xf (stp b i s).x = BF.rlx bI bJ bW (xf s.x) b ∧ (BF.imp bI bJ bW (xf s.x) b = true → (stp b i s).z = i) ∧ (BF.imp bI bJ bW (xf s.x) b = false → stp b i s = s) := by
  obtain ⟨a1, a2, a3, a4, _, _⟩ := hb
  have e1 : xf s.x (bI b) = some (gt s.x b.i) := y2d a1 (by rw [hx]; exact a2)
  have e2 : xf s.x (bJ b) = some (gt s.x b.j) := y2d a3 (by rw [hx]; exact a4)
  have ei : BF.imp bI bJ bW (xf s.x) b = decide (gt s.x b.i + b.w < gt s.x b.j) := by
    unfold BF.imp; rw [e1, e2]; rfl
  have er : BF.rlx bI bJ bW (xf s.x) b = if gt s.x b.i + b.w < gt s.x b.j then fun v => if v = bJ b then some (gt s.x b.i + b.w) else xf s.x v else xf s.x := by
    unfold BF.rlx; rw [e1, e2]; simp only [BF.ltO, bW]
    by_cases h : gt s.x b.i + b.w < gt s.x b.j <;> simp [h]
  rw [ei, er]
  unfold stp
  by_cases h : gt s.x b.i + b.w < gt s.x b.j
  · rw [if_pos h, if_pos h]
    refine ⟨?_, fun _ => rfl, fun q => by simp [h] at q⟩
    funext v
    unfold xf
    rw [z0i]
    simp only
    by_cases hv : v < s.x.length
    · rw [if_pos hv, if_pos hv, z0c _ _ _ _ a3 (by rw [hx]; exact a4) (by omega)]
      by_cases e : v = bJ b
      · rw [if_pos e, if_pos (by unfold bJ at e; omega)]
      · rw [if_neg e, if_neg (by unfold bJ at e; omega)]
    · rw [if_neg hv, if_neg hv, if_neg (fun e => hv (by rw [hx, e]; unfold bJ; omega))]
  · rw [if_neg h, if_neg h]
    exact ⟨rfl, fun q => by simp [h] at q, fun _ => rfl⟩
theorem zd6 {n : Nat} {s : LS} (hs : s.x.length = n) {L : List za} : ∀ m, (rndL L m s).x.length = n
  | 0 => hs
  | m + 1 => by
    have := zd6 hs (L := L) m
    unfold rndL stp
    split
    · simp only [z0i]; exact this
    · exact this
theorem zyn {n : Nat} {s : LS} (hs : s.x.length = n) {L : List za} (hL : ∀ b ∈ L, okBd n b) : ∀ m, m ≤ L.length → xf (rndL L m s).x = (L.take m).foldl (BF.rlx bI bJ bW) (xf s.x)
  | 0, _ => rfl
  | m + 1, hm => by
    have ih := zyn hs hL m (by omega)
    rw [z0l L m (by omega), List.foldl_append, ← ih]
    exact (zvq (zd6 hs m) (hL _ (z1g (by omega) (by omega))) m).1
theorem y4g {n : Nat} {s : LS} (hs : s.x.length = n) {L : List za} (hL : ∀ b ∈ L, okBd n b) (hz : s.z = -1) : ∀ m, m ≤ L.length →
    ((rndL L m s).z < 0 → rndL L m s = s ∧ ∀ k : Nat, k < m → BF.imp bI bJ bW (xf s.x) (gt L (k : Int)) = false) ∧ -1 ≤ (rndL L m s).z ∧ (rndL L m s).z < m
  | 0, _ => ⟨fun _ => ⟨rfl, fun k hk => by omega⟩, by rw [show (rndL L 0 s).z = s.z from rfl]; omega, by rw [show (rndL L 0 s).z = s.z from rfl]; omega⟩
  | m + 1, hm => by
    obtain ⟨h1, h2, h3⟩ := y4g hs hL hz m (by omega)
    obtain ⟨q1, q2, q3⟩ := zvq (zd6 hs m) (hL _ (z1g (l := L) (i := (m : Int)) (by omega) (by omega))) m
    change _ ∧ -1 ≤ (stp (gt L (m : Int)) m (rndL L m s)).z ∧ (stp (gt L (m : Int)) m (rndL L m s)).z < _
    cases hi : BF.imp bI bJ bW (xf (rndL L m s).x) (gt L (m : Int)) with
    | true =>
      have := q2 hi
      refine ⟨fun h => ?_, by omega, by omega⟩
      change (stp (gt L (m : Int)) m (rndL L m s)).z < 0 at h
      omega
    | false =>
      have e := q3 hi
      rw [e]
      refine ⟨fun h => ?_, h2, by omega⟩
      change (stp (gt L (m : Int)) m (rndL L m s)).z < 0 at h
      rw [e] at h
      obtain ⟨e2, h4⟩ := h1 h
      refine ⟨by change stp (gt L (m : Int)) m (rndL L m s) = s; rw [e, e2], fun k hk => ?_⟩
      by_cases hkm : k = m
      · subst hkm; rw [e2] at hi; exact hi
      · exact h4 k (by omega)
theorem zp0 {n : Nat} {s : LS} (hs : s.x.length = n) {L : List za} (hL : ∀ b ∈ L, okBd n b) (hz : s.z = -1) (hf : ∀ b ∈ L, BF.imp bI bJ bW (xf s.x) b = false) : ∀ m, m ≤ L.length → rndL L m s = s
  | 0, _ => rfl
  | m + 1, hm => by
    have ih := zp0 hs hL hz hf m (by omega)
    have hb := z1g (l := L) (i := (m : Int)) (by omega) (by omega)
    change stp (gt L (m : Int)) m (rndL L m s) = s
    rw [ih]
    exact (zvq hs (hL _ hb) m).2.2 (hf _ hb)
/-- At the start. -/
def xz (n : Nat) : BF.X := fun v => if v < n then some 0 else none
theorem y8m (n : Nat) : xf (List.replicate n 0) = xz n := by
  funext v
  unfold xf xz
  rw [List.length_replicate]
  split
  · rw [z1f _ _ _ (by omega) (by omega)]
  · rfl
theorem zxh {n : Nat} {L : List za} (hL : ∀ b ∈ L, okBd n b) : ∀ (f k : Nat) (s : LS), s.x.length = n → xf s.x = BF.rnds bI bJ bW L (xz n) k → (lowR L f s).x.length = n ∧
    (((lowR L f s).z < 0 → f ≠ 0 ∨ s.z < 0) → ((lowR L f s).z < 0 → f ≠ 0) → ((lowR L f s).z < 0 → BF.Fix bI bJ bW L (xf (lowR L f s).x) ∧ ∃ k', xf (lowR L f s).x = BF.rnds bI bJ bW L (xz n) k')) ∧
    (0 ≤ (lowR L f s).z → f ≠ 0 → ¬ BF.Feas bI bJ bW (xz n) L n ∨ k + f < n) ∧ (f ≠ 0 → -1 ≤ (lowR L f s).z ∧ (lowR L f s).z < L.length)
  | 0, k, s, hs, hx => ⟨hs, fun _ h2 h => absurd rfl (h2 h), fun _ h => absurd rfl h, fun h => absurd rfl h⟩
  | f + 1, k, s, hs, hx => by
    have hs1 : (LS.mk s.x s.y (-1)).x.length = n := hs
    obtain ⟨h1, h2, h3⟩ := y4g hs1 hL rfl L.length (Nat.le_refl _)
    have hr := zyn hs1 hL L.length (Nat.le_refl _)
    rw [List.take_length] at hr
    have hr2 : xf (rndL L L.length ⟨s.x, s.y, -1⟩).x = BF.rnds bI bJ bW L (xz n) (k + 1) := by
      rw [hr, show xf (LS.mk s.x s.y (-1)).x = _ from hx]; rfl
    have hq : ¬ (rndL L L.length ⟨s.x, s.y, -1⟩).z < 0 → n ≤ k + 1 → ¬ BF.Feas bI bJ bW (xz n) L n := fun hz hk F => by
      have := zp0 hs1 hL rfl (fun b hb => by
        have := BF.done F hk b hb
        rw [← hx] at this; exact this) L.length (Nat.le_refl _)
      rw [this] at hz
      exact hz (by show (-1 : Int) < 0; omega)
    unfold lowR
    split
    · rename_i hz
      obtain ⟨e1, e2⟩ := h1 hz
      refine ⟨zd6 hs1 _, fun _ _ _ => ⟨fun b hb => ?_, k + 1, hr2⟩, fun h => by omega, fun _ => ⟨h2, h3⟩⟩
      rw [e1]
      obtain ⟨i, hi, rfl⟩ := ztf hb
      exact e2 i hi
    · rename_i hz
      by_cases hf : f = 0
      · subst hf
        refine ⟨zd6 hs1 _, fun _ _ h => absurd h hz, fun _ _ => ?_, fun _ => ⟨h2, h3⟩⟩
        by_cases hk : n ≤ k + 1
        · exact .inl (hq hz hk)
        · exact .inr (by omega)
      · obtain ⟨i1, i2, i3, i4⟩ := zxh hL f (k + 1) _ (zd6 hs1 L.length) hr2
        refine ⟨i1, fun _ _ h => i2 (fun _ => .inl hf) (fun _ => hf) h, fun h _ => ?_, fun _ => i4 hf⟩
        rcases i3 h hf with h | h
        · exact .inl h
        · exact .inr (by omega)
/-- What the solver leaves. -/
structure yah (n : Nat) (L : List za) : Prop where
  len : (low n L).x.length = n
  fix : (low n L).z < 0 → BF.Fix bI bJ bW L (xf (low n L).x)
  rnd : (low n L).z < 0 → ∃ k, xf (low n L).x = BF.rnds bI bJ bW L (xz n) k
  cyc : 0 ≤ (low n L).z → ¬ BF.Feas bI bJ bW (xz n) L n
  lo : -1 ≤ (low n L).z
  hi : (low n L).z < L.length
theorem y4d {n : Nat} {L : List za} (h1 : 1 ≤ n) (hL : ∀ b ∈ L, okBd n b) : yah n L := by
  obtain ⟨i1, i2, i3, i4⟩ := zxh hL n 0 ⟨List.replicate n 0, List.replicate n (-1), -1⟩ (by simp) (y8m n)
  have hn : n ≠ 0 := by omega
  refine ⟨i1, fun h => (i2 (fun _ => .inl hn) (fun _ => hn) h).1, fun h => (i2 (fun _ => .inl hn) (fun _ => hn) h).2, fun h => ?_, (i4 hn).1, (i4 hn).2⟩
  rcases i3 h hn with h | h
  · exact h
  · omega
/-- The solution breaks no zbl. -/
theorem y6i {n : Nat} {L : List za} (h1 : 1 ≤ n) (hL : ∀ b ∈ L, okBd n b) (hz : (low n L).z < 0) {b : za} (hb : b ∈ L) : gt (low n L).x b.j - gt (low n L).x b.i ≤ b.w := by
  have h := y4d h1 hL
  obtain ⟨a1, a2, a3, a4, _, _⟩ := hL b hb
  obtain ⟨d, hd, hl⟩ := (h.fix hz).le hb (y2d a1 (by rw [h.len]; exact a2))
  have e : xf (low n L).x (bJ b) = some (gt (low n L).x b.j) := y2d a3 (by rw [h.len]; exact a4)
  rw [e] at hd
  cases hd
  unfold bW at hl
  omega
theorem y6p {n : Nat} {L : List za} (hL : ∀ b ∈ L, okBd n b) (p : Int → Int) (hp : ∀ b ∈ L, p b.j - p b.i ≤ b.w) : BF.Feas bI bJ bW (xz n) L n := by
  refine ⟨⟨fun v => p (v : Int), ((List.range n).map fun (v : Nat) => p (v : Int)).foldl max 0, fun b hb => ?_, fun v c h => ?_⟩, fun b hb => ?_, fun v c h => ?_⟩
  · obtain ⟨a1, a2, a3, a4, _, _⟩ := hL b hb
    have := hp b hb
    show p ((bJ b : Nat) : Int) ≤ p ((bI b : Nat) : Int) + bW b
    unfold bI bJ bW
    rw [show ((b.j.toNat : Nat) : Int) = b.j by omega, show ((b.i.toNat : Nat) : Int) = b.i by omega]
    omega
  · unfold xz at h
    split at h
    · rename_i hv
      cases h
      have key : ∀ (l : List Int) (m x : Int), (x ∈ l → x ≤ l.foldl max m) ∧ m ≤ l.foldl max m := by
        intro l
        induction l with
        | nil => intro m x; exact ⟨fun h => by simp at h, Int.le_refl _⟩
        | cons y l ih =>
          intro m x
          have h1 := ih (max m y) x
          have h2 := ih (max m y) y
          refine ⟨fun h => ?_, ?_⟩
          · rcases List.mem_cons.1 h with rfl | h
            · simp only [List.foldl_cons]; omega
            · exact h1.1 h
          · simp only [List.foldl_cons]; omega
      have := (key ((List.range n).map fun (v : Nat) => p (v : Int)) 0 (p (v : Int))).1 (List.mem_map.2 ⟨v, List.mem_range.2 hv, rfl⟩)
      show p (v : Int) - 0 ≤ _
      omega
    · cases h
  · obtain ⟨a1, a2, a3, a4, _, _⟩ := hL b hb
    unfold bJ; omega
  · unfold xz at h
    split at h
    · assumption
    · cases h
/-- Where there is a solution the solver ends. -/
theorem y0z {n : Nat} {L : List za} (h1 : 1 ≤ n) (hL : ∀ b ∈ L, okBd n b) (p : Int → Int) (hp : ∀ b ∈ L, p b.j - p b.i ≤ b.w) : (low n L).z < 0 := by
  by_cases hz : (low n L).z < 0
  · exact hz
  · exact absurd (y6p hL p hp) ((y4d h1 hL).cyc (by omega))
end Px
end
section
namespace Px
open Go
set_option linter.unusedVariables false
set_option linter.unusedSimpArgs false
/-- A zbl forwards, or backwards. -/
def bdI (r : Bool) (b : za) : Int := if r = true then b.j else b.i
def bdJ (r : Bool) (b : za) : Int := if r = true then b.i else b.j
def nI (r : Bool) (b : za) : Nat := (bdI r b).toNat
def nJ (r : Bool) (b : za) : Nat := (bdJ r b).toNat
def SolD (r : Bool) (L : List za) (p : Int → Int) : Prop := ∀ b ∈ L, p (bdJ r b) - p (bdI r b) ≤ b.w
theorem zef {n : Nat} {b : za} (h : okBd n b) (r : Bool) : 0 ≤ bdI r b ∧ bdI r b < (n : Int) ∧ 0 ≤ bdJ r b ∧ bdJ r b < (n : Int) ∧ -1099511627776 ≤ b.w ∧ b.w ≤ 1099511627776 := by
  obtain ⟨a1, a2, a3, a4, a5, a6⟩ := h
  cases r
  · exact ⟨a1, a2, a3, a4, a5, a6⟩
  · exact ⟨a3, a4, a1, a2, a5, a6⟩
theorem zs5 {r : Bool} {L : List za} {p : Int → Int} (h : SolD r L p) : SolD (!r) L fun v => - p v := fun b hb => by
  have := h b hb
  cases r
  · simp only [bdI, bdJ, Bool.not_false, if_true, Bool.false_eq_true, if_false] at this ⊢; omega
  · simp only [bdI, bdJ, Bool.not_true, if_true, Bool.false_eq_true, if_false] at this ⊢; omega
/-- The greatest differences to the variable u. -/
structure zks (r : Bool) (L : List za) (n : Nat) (u : Int) (e : Int → Int) : Prop where
  sat : SolD r L e
  top : ∀ p, SolD r L p → ∀ v, 0 ≤ v → v < (n : Int) → p v - p u ≤ e v
  zero : e u = 0
/-- At the start: one variable. -/
def xs1 (u : Nat) : BF.X := fun v => if v = u then some 0 else none
theorem y6l {r : Bool} {n : Nat} {L : List za} (hL : ∀ b ∈ L, okBd n b) {p : Int → Int} (hp : SolD r L p) {u : Nat} (hu : u < n) : BF.Feas (nI r) (nJ r) bW (xs1 u) L n := by
  refine ⟨⟨fun v => p (v : Int), p (u : Int), fun b hb => ?_, fun v c h => ?_⟩, fun b hb => ?_, fun v c h => ?_⟩
  · obtain ⟨a1, a2, a3, a4, _, _⟩ := zef (hL b hb) r
    have := hp b hb
    show p ((nJ r b : Nat) : Int) ≤ p ((nI r b : Nat) : Int) + bW b
    unfold nI nJ bW
    rw [show (((bdJ r b).toNat : Nat) : Int) = bdJ r b by omega, show (((bdI r b).toNat : Nat) : Int) = bdI r b by omega]
    omega
  · unfold xs1 at h
    split at h
    · rename_i e; cases h; subst e; show p (v : Int) - 0 ≤ p (v : Int); omega
    · cases h
  · obtain ⟨a1, a2, a3, a4, _, _⟩ := zef (hL b hb) r
    unfold nJ; omega
  · unfold xs1 at h
    split at h
    · rename_i e; subst e; exact hu
    · cases h
/-- What stands at the end, where all are reached. -/
theorem zy0 {r : Bool} {n : Nat} {L : List za} (hL : ∀ b ∈ L, okBd n b) {p : Int → Int} (hp : SolD r L p) {u : Nat} (hu : u < n) {x : BF.X} (hf : BF.Fix (nI r) (nJ r) bW L x) (hi : BF.Inv (nI r) (nJ r) bW (xs1 u) L x) (h0 : BF.le (x u) 0)
    (hall : ∀ v, v < n → (x v).isSome = true) : zks r L n (u : Int) fun v => (x v.toNat).getD 0 := by
  have low : ∀ q, SolD r L q → ∀ v a, x v = some a → q (v : Int) - q (u : Int) ≤ a := by
    intro q hq v a hv
    obtain ⟨m, hw⟩ := hi v a hv
    have := BF.Wk.low (p := fun v : Nat => q (v : Int)) (C := q (u : Int)) (fun b hb => by
      obtain ⟨a1, a2, a3, a4, _, _⟩ := zef (hL b hb) r
      have := hq b hb
      show q ((nJ r b : Nat) : Int) ≤ q ((nI r b : Nat) : Int) + bW b
      unfold nI nJ bW
      rw [show (((bdJ r b).toNat : Nat) : Int) = bdJ r b by omega, show (((bdI r b).toNat : Nat) : Int) = bdI r b by omega]
      omega) (fun v c h => by
      unfold xs1 at h
      split at h
      · rename_i e; cases h; subst e; show q (v : Int) - 0 ≤ q (v : Int); omega
      · cases h) hw
    omega
  have at_ : ∀ v : Int, 0 ≤ v → v < (n : Int) → x v.toNat = some ((x v.toNat).getD 0) := fun v h1 h2 => by
    have := hall v.toNat (by omega)
    cases hx : x v.toNat with
    | none => rw [hx] at this; cases this
    | some a => rfl
  refine ⟨fun b hb => ?_, fun q hq v h1 h2 => ?_, ?_⟩
  · obtain ⟨a1, a2, a3, a4, _, _⟩ := zef (hL b hb) r
    obtain ⟨d, hd, hle⟩ := hf.le hb (at_ _ a1 a2)
    have e := at_ _ a3 a4
    have hd' : x (bdJ r b).toNat = some d := hd
    rw [hd'] at e
    simp only [Option.some.injEq] at e
    rw [hd', Option.getD_some]
    unfold bW at hle
    omega
  · have := low q hq v.toNat _ (at_ v h1 h2)
    rw [show ((v.toNat : Nat) : Int) = v by omega] at this
    exact this
  · obtain ⟨a, ha, hle⟩ := h0
    have := low p hp u a ha
    simp only [Int.toNat_natCast, ha, Option.getD_some]
    omega
/-- All variables are bounded against the first one, on both sides. -/
def Conn (L : List za) (n : Nat) : Prop := ∀ v : Int, 1 ≤ v → v < (n : Int) → (∃ b ∈ L, b.i = 0 ∧ b.j = v) ∧ ∃ b ∈ L, b.i = v ∧ b.j = 0
theorem Conn.d {L : List za} {n : Nat} (h : Conn L n) (r : Bool) : ∀ v : Nat, 1 ≤ v → v < n → (∃ b ∈ L, nI r b = 0 ∧ nJ r b = v) ∧ ∃ b ∈ L, nI r b = v ∧ nJ r b = 0 := by
  intro v h1 h2
  obtain ⟨⟨b, hb, b1, b2⟩, c, hc, c1, c2⟩ := h (v : Int) (by omega) (by omega)
  cases r
  · exact ⟨⟨b, hb, by unfold nI bdI; rw [if_neg (by simp), b1]; rfl, by unfold nJ bdJ; rw [if_neg (by simp), b2]; simp⟩, c, hc, by unfold nI bdI; rw [if_neg (by simp), c1]; simp, by unfold nJ bdJ; rw [if_neg (by simp), c2]; rfl⟩
  · exact ⟨⟨c, hc, by unfold nI bdI; rw [if_pos rfl, c2]; rfl, by unfold nJ bdJ; rw [if_pos rfl, c1]; simp⟩, b, hb, by unfold nI bdI; rw [if_pos rfl, b2]; simp, by unfold nJ bdJ; rw [if_pos rfl, b1]; rfl⟩
theorem yb1 {r : Bool} {n : Nat} {L : List za} (hc : Conn L n) {u : Nat} (hu : u < n) {x : BF.X} (hf : BF.Fix (nI r) (nJ r) bW L x) (h0 : BF.le (x u) 0) : ∀ v, v < n → (x v).isSome = true := by
  have z0 : ∃ a, x 0 = some a := by
    by_cases h : u = 0
    · subst h; obtain ⟨a, ha, _⟩ := h0; exact ⟨a, ha⟩
    · obtain ⟨_, b, hb, b1, b2⟩ := hc.d r u (by omega) hu
      obtain ⟨a, ha, _⟩ := h0
      obtain ⟨d, hd, _⟩ := hf.le hb (by rw [b1]; exact ha)
      rw [b2] at hd
      exact ⟨d, hd⟩
  intro v hv
  obtain ⟨a, ha⟩ := z0
  by_cases h : v = 0
  · subst h; rw [ha]; rfl
  · obtain ⟨⟨b, hb, b1, b2⟩, _⟩ := hc.d r v (by omega) hv
    obtain ⟨d, hd, _⟩ := hf.le hb (by rw [b1]; exact ha)
    rw [b2] at hd
    rw [hd]; rfl
/-- The whole: any state reached by rounds in which nothing is lowered any more. -/
theorem zkq {r : Bool} {n : Nat} {L : List za} (hL : ∀ b ∈ L, okBd n b) (hc : Conn L n) {p : Int → Int} (hp : SolD r L p) {u : Nat} (hu : u < n) {x : BF.X} (hf : BF.Fix (nI r) (nJ r) bW L x) {k : Nat} (hk : x = BF.rnds (nI r) (nJ r) bW L (xs1 u) k) :
    zks r L n (u : Int) (fun v => (x v.toNat).getD 0) ∧ ∀ v, v < n → (x v).isSome = true := by
  have h0 : BF.le (x u) 0 := by
    rw [hk]
    exact BF.rnds_mono L ⟨0, by unfold xs1; rw [if_pos rfl], Int.le_refl _⟩ k
  have hall := yb1 hc hu hf h0
  exact ⟨zy0 hL hp hu hf (by rw [hk]; exact BF.Inv.rnds k) h0 hall, hall⟩
/-- Values in a list, the great one for those that are not reached. -/
def farN : Int := 1125899906842624
structure DS where
  d : List Int
  c : Bool
def stpD (r : Bool) (b : za) (s : DS) : DS := if gt s.d (bdI r b) < farN ∧ gt s.d (bdI r b) + b.w < gt s.d (bdJ r b) then ⟨z02 s.d (bdJ r b) (gt s.d (bdI r b) + b.w), true⟩ else s
def rndD (r : Bool) (L : List za) : Nat → DS → DS
  | 0, s => s
  | m + 1, s => stpD r (gt L (m : Int)) (rndD r L m s)
def runD (r : Bool) (L : List za) : Nat → DS → DS
  | 0, s => s
  | k + 1, s => if s.c = true then runD r L k (rndD r L L.length ⟨s.d, false⟩) else s
def cntF (d : List Int) : Nat := d.countP fun a => decide (a < farN)
structure DB (n c : Nat) (s : DS) : Prop where
  len : s.d.length = n
  hi : ∀ i : Int, 0 ≤ i → i < (n : Int) → gt s.d i = farN ∨ gt s.d i + 1099511627776 ≤ 1099511627776 * (cntF s.d : Int)
  lo : ∀ i : Int, 0 ≤ i → i < (n : Int) → -(1099511627776 * (c : Int)) ≤ gt s.d i
theorem y5t (d : List Int) : cntF d ≤ d.length := List.countP_le_length
theorem DB.lt {n c : Nat} {s : DS} (h : DB n c s) (hn : n ≤ 512) {i : Int} (h0 : 0 ≤ i) (h1 : i < (n : Int)) : gt s.d i = farN ∨ gt s.d i ≤ 561850441793536 := by
  have := y5t s.d
  rw [h.len] at this
  rcases h.hi i h0 h1 with h | h
  · exact .inl h
  · exact .inr (by omega)
theorem zsv {d : List Int} {i : Int} (h0 : 0 ≤ i) (h1 : i < (d.length : Int)) {v : Int} (hv : v < farN) : cntF (z02 d i v) = if gt d i < farN then cntF d else cntF d + 1 := by
  have hi : i.toNat < d.length := by omega
  have hg : d[i.toNat] = gt d i := by
    have := z3w hi
    rw [show ((i.toNat : Nat) : Int) = i by omega] at this
    exact this.symm
  unfold cntF z02
  rw [List.countP_set hi, hg]
  have hv' : decide (v < farN) = true := by simpa using hv
  rw [if_pos hv']
  by_cases hq : gt d i < farN
  · have : 0 < List.countP (fun a => decide (a < farN)) d := List.countP_pos_iff.2 ⟨gt d i, z1g h0 h1, by simpa using hq⟩
    rw [if_pos (by simpa using hq), if_pos hq]
    omega
  · rw [if_neg (by simpa using hq), if_neg hq]
    omega
theorem DB.up {n c e : Nat} {s : DS} (h : DB n c s) (he : c ≤ e) : DB n e s := ⟨h.len, h.hi, fun i h0 h1 => by have := h.lo i h0 h1; omega⟩
theorem DB.stp {n c : Nat} {s : DS} (h : DB n c s) (hn : n ≤ 512) {b : za} (hb : okBd n b) (r : Bool) : DB n (c + 1) (stpD r b s) := by
  obtain ⟨a1, a2, a3, a4, a5, a6⟩ := zef hb r
  unfold stpD
  split
  · rename_i hlt
    obtain ⟨l1, l2⟩ := hlt
    have hx := h.len
    have q1 := h.hi _ a1 a2
    have q2 := h.lt hn a1 a2
    have q3 := h.hi _ a3 a4
    have ql := h.lo _ a1 a2
    have hnew : gt s.d (bdI r b) + b.w < farN := by unfold farN at *; omega
    have hc := zsv (d := s.d) a3 (by rw [hx]; exact a4) hnew
    refine ⟨by rw [z0i]; exact hx, fun k h0 h1 => ?_, fun k h0 h1 => ?_⟩
    · simp only [hc]
      rw [z0c _ _ _ _ a3 (by rw [hx]; exact a4) h0]
      have q4 := h.hi k h0 h1
      by_cases hk : k = bdJ r b
      · rw [if_pos hk]
        right
        by_cases hq : gt s.d (bdJ r b) < farN
        · rw [if_pos hq]; omega
        · rw [if_neg hq]; unfold farN at *; omega
      · rw [if_neg hk]
        rcases q4 with q4 | q4
        · exact .inl q4
        · right
          split <;> omega
    · rw [z0c _ _ _ _ a3 (by rw [hx]; exact a4) h0]
      have q4 := h.lo k h0 h1
      split <;> omega
  · exact h.up (by omega)
theorem DB.rnd {n c : Nat} {s : DS} (h : DB n c s) (hn : n ≤ 512) {L : List za} (hL : ∀ b ∈ L, okBd n b) (r : Bool) : ∀ m, m ≤ L.length → DB n (c + m) (rndD r L m s)
  | 0, _ => h
  | m + 1, hm => (DB.rnd h hn hL r m (by omega)).stp hn (hL _ (z1g (by omega) (by omega))) r
def xd (d : List Int) : BF.X := fun v => if v < d.length then (if gt d (v : Int) < farN then some (gt d (v : Int)) else none) else none
theorem y7u {d : List Int} {i : Int} (h0 : 0 ≤ i) (h : i < (d.length : Int)) : xd d i.toNat = if gt d i < farN then some (gt d i) else none := by
  unfold xd
  rw [if_pos (by omega), show ((i.toNat : Nat) : Int) = i by omega]
theorem zvc {n c : Nat} (hn : n ≤ 512) {s : DS} (hB : DB n c s) {b : za} (hb : okBd n b) (r : Bool) :
    xd (stpD r b s).d = BF.rlx (nI r) (nJ r) bW (xd s.d) b ∧ (BF.imp (nI r) (nJ r) bW (xd s.d) b = true → (stpD r b s).c = true) ∧ (BF.imp (nI r) (nJ r) bW (xd s.d) b = false → stpD r b s = s) := by
  obtain ⟨a1, a2, a3, a4, a5, a6⟩ := zef hb r
  have hx := hB.len
  have e1 : xd s.d (nI r b) = _ := y7u a1 (by rw [hx]; exact a2)
  have e2 : xd s.d (nJ r b) = _ := y7u a3 (by rw [hx]; exact a4)
  have q1 := hB.lt hn a1 a2
  have q2 := hB.lt hn a3 a4
  have ei : BF.imp (nI r) (nJ r) bW (xd s.d) b = decide (gt s.d (bdI r b) < farN ∧ gt s.d (bdI r b) + b.w < gt s.d (bdJ r b)) := by
    unfold BF.imp
    rw [e1, e2]
    by_cases h1 : gt s.d (bdI r b) < farN
    · rw [if_pos h1]
      by_cases h2 : gt s.d (bdJ r b) < farN
      · rw [if_pos h2]
        exact decide_eq_decide.2 ⟨fun h => ⟨h1, h⟩, fun h => h.2⟩
      · rw [if_neg h2]
        have : gt s.d (bdI r b) + b.w < gt s.d (bdJ r b) := by unfold farN at *; omega
        simp [BF.ltO, h1, this]
    · rw [if_neg h1]; simp [h1]
  by_cases h : gt s.d (bdI r b) < farN ∧ gt s.d (bdI r b) + b.w < gt s.d (bdJ r b)
  · have er := ei
    rw [decide_eq_true h] at er
    obtain ⟨a, ha, hlt, hr⟩ := BF.rlx_imp er
    rw [e1, if_pos h.1, Option.some.injEq] at ha
    subst ha
    unfold stpD
    rw [if_pos h]
    refine ⟨?_, fun _ => rfl, fun q => (by rw [er] at q; cases q)⟩
    rw [hr]
    funext v
    unfold xd
    simp only [z0i]
    by_cases hv : v < s.d.length
    · rw [if_pos hv, if_pos hv, z0c _ _ _ _ a3 (by rw [hx]; exact a4) (by omega)]
      by_cases e : v = nJ r b
      · have e' : (v : Int) = bdJ r b := by unfold nJ at e; omega
        have hnew : gt s.d (bdI r b) + b.w < farN := by unfold farN at *; omega
        rw [if_pos e, if_pos e', if_pos hnew]; rfl
      · have e' : ¬ (v : Int) = bdJ r b := by unfold nJ at e; omega
        rw [if_neg e, if_neg e']
    · rw [if_neg hv, if_neg hv, if_neg (fun e => hv (by rw [hx, e]; unfold nJ; omega))]
  · have er := ei
    rw [decide_eq_false h] at er
    unfold stpD
    rw [if_neg h]
    exact ⟨(BF.rlx_not er).symm, fun q => (by rw [er] at q; cases q), fun _ => rfl⟩
theorem zxm {n c : Nat} (hn : n ≤ 512) {s : DS} (hB : DB n c s) {L : List za} (hL : ∀ b ∈ L, okBd n b) (r : Bool) : ∀ m, m ≤ L.length → xd (rndD r L m s).d = (L.take m).foldl (BF.rlx (nI r) (nJ r) bW) (xd s.d)
  | 0, _ => rfl
  | m + 1, hm => by
    have ih := zxm hn hB hL r m (by omega)
    rw [z0l L m (by omega), List.foldl_append, ← ih]
    exact (zvc hn (hB.rnd hn hL r m (by omega)) (hL _ (z1g (by omega) (by omega))) r).1
theorem y3z {n c : Nat} (hn : n ≤ 512) {s : DS} (hB : DB n c s) {L : List za} (hL : ∀ b ∈ L, okBd n b) (r : Bool) (hc : s.c = false) : ∀ m, m ≤ L.length → (rndD r L m s).c = false → rndD r L m s = s ∧ ∀ k : Nat, k < m → BF.imp (nI r) (nJ r) bW (xd s.d) (gt L (k : Int)) = false
  | 0, _, _ => ⟨rfl, fun k hk => by omega⟩
  | m + 1, hm, h => by
    obtain ⟨q1, q2, q3⟩ := zvc hn (hB.rnd hn hL r m (by omega)) (hL _ (z1g (l := L) (i := (m : Int)) (by omega) (by omega))) r
    change (stpD r (gt L (m : Int)) (rndD r L m s)).c = false at h
    cases hi : BF.imp (nI r) (nJ r) bW (xd (rndD r L m s).d) (gt L (m : Int)) with
    | true => rw [q2 hi] at h; cases h
    | false =>
      have e := q3 hi
      rw [e] at h
      obtain ⟨e2, h4⟩ := y3z hn hB hL r hc m (by omega) h
      refine ⟨by change stpD r (gt L (m : Int)) (rndD r L m s) = s; rw [e, e2], fun k hk => ?_⟩
      by_cases hkm : k = m
      · subst hkm; rw [e2] at hi; exact hi
      · exact h4 k (by omega)
theorem zz3 {r : Bool} {n : Nat} (hn : n ≤ 512) {L : List za} (hL : ∀ b ∈ L, okBd n b) {x0 : BF.X} (F : BF.Feas (nI r) (nJ r) bW x0 L n) : ∀ (f k c : Nat) (s : DS), DB n c s → xd s.d = BF.rnds (nI r) (nJ r) bW L x0 k → (s.c = false → BF.Fix (nI r) (nJ r) bW L (xd s.d)) → n ≤ k + f →
    (runD r L f s).d.length = n ∧ BF.Fix (nI r) (nJ r) bW L (xd (runD r L f s).d) ∧ (∃ k', xd (runD r L f s).d = BF.rnds (nI r) (nJ r) bW L x0 k') ∧ DB n (c + f * L.length) (runD r L f s)
  | 0, k, c, s, hB, hx, hc, hk => by
    refine ⟨hB.len, fun b hb => ?_, ⟨k, hx⟩, hB.up (by omega)⟩
    have := BF.done F (k := k) (by omega) b hb
    rw [← hx] at this
    exact this
  | f + 1, k, c, s, hB, hx, hc, hk => by
    unfold runD
    split
    · have hB1 : DB n c ⟨s.d, false⟩ := ⟨hB.len, hB.hi, hB.lo⟩
      have hr := zxm hn hB1 hL r L.length (Nat.le_refl _)
      rw [List.take_length] at hr
      have hr2 : xd (rndD r L L.length ⟨s.d, false⟩).d = BF.rnds (nI r) (nJ r) bW L x0 (k + 1) := by
        rw [hr, show xd (DS.mk s.d false).d = _ from hx]; rfl
      have := zz3 hn hL F f (k + 1) (c + L.length) _ (hB1.rnd hn hL r L.length (Nat.le_refl _)) hr2 (fun h => by
        obtain ⟨e1, e2⟩ := y3z hn hB1 hL r rfl L.length (Nat.le_refl _) h
        intro b hb
        rw [e1]
        obtain ⟨i, hi, rfl⟩ := ztf hb
        exact e2 i hi) (by omega)
      refine ⟨this.1, this.2.1, this.2.2.1, this.2.2.2.up ?_⟩
      rw [Nat.add_mul, Nat.one_mul]; omega
    · rename_i h
      exact ⟨hB.len, hc (by cases hq : s.c with | true => exact absurd hq h | false => rfl), ⟨k, hx⟩, hB.up (by omega)⟩
def d0 (n : Nat) (u : Int) : List Int := z02 (List.replicate n farN) u 0
theorem y0f {n : Nat} {u i : Int} (hu : 0 ≤ u) (hu' : u < (n : Int)) (h0 : 0 ≤ i) (h1 : i < (n : Int)) : gt (d0 n u) i = if i = u then 0 else farN := by
  unfold d0
  rw [z0c _ _ _ _ hu (by simpa using hu') h0, z1f _ _ _ h0 h1]
theorem zxs (n : Nat) (u : Int) : (d0 n u).length = n := by simp [d0, z0i]
theorem yav {n : Nat} {u : Int} (hu : 0 ≤ u) (hu' : u < (n : Int)) : xd (d0 n u) = xs1 u.toNat := by
  funext v
  unfold xd xs1
  rw [zxs]
  by_cases hv : v < n
  · rw [if_pos hv, y0f hu hu' (by omega) (by omega)]
    by_cases e : (v : Int) = u
    · rw [if_pos e, if_pos (by omega : v = u.toNat), if_pos (by decide)]
    · rw [if_neg e, if_neg (by omega : ¬ v = u.toNat), if_neg (by decide)]
  · rw [if_neg hv, if_neg (by omega)]
theorem y7m {n : Nat} {u : Int} (hu : 0 ≤ u) (hu' : u < (n : Int)) : DB n 0 ⟨d0 n u, true⟩ := by
  have hc : cntF (d0 n u) = 1 := by
    unfold d0
    rw [zsv hu (by simpa using hu') (by decide), z1f _ _ _ hu hu', if_neg (by decide)]
    have : cntF (List.replicate n farN) = 0 := List.countP_eq_zero.2 fun a ha => by
      rw [List.mem_replicate] at ha
      rw [ha.2]; decide
    rw [this]
  refine ⟨zxs n u, fun i h0 h1 => ?_, fun i h0 h1 => ?_⟩
  · simp only [hc]
    rw [y0f hu hu' h0 h1]
    split
    · right; omega
    · left; rfl
  · simp only
    rw [y0f hu hu' h0 h1]
    split
    · omega
    · unfold farN; omega
/-- The greatest differences, as the program finds them. -/
theorem zl8 {r : Bool} {n : Nat} (hn : n ≤ 512) {L : List za} (hL : ∀ b ∈ L, okBd n b) (hc : Conn L n) {p : Int → Int} (hp : SolD r L p) {u : Int} (hu : 0 ≤ u) (hu' : u < (n : Int)) :
    (runD r L n ⟨d0 n u, true⟩).d.length = n ∧ zks r L n u (gt (runD r L n ⟨d0 n u, true⟩).d) := by
  have F := y6l hL hp (u := u.toNat) (by omega)
  obtain ⟨h1, h2, ⟨k, h3⟩, h4⟩ := zz3 hn hL F n 0 0 ⟨d0 n u, true⟩ (y7m hu hu') (yav hu hu') (fun h => by cases h) (by omega)
  obtain ⟨g1, g2⟩ := zkq hL hc hp (u := u.toNat) (by omega) h2 h3
  refine ⟨h1, ?_⟩
  have key : ∀ v : Int, 0 ≤ v → v < (n : Int) → ((xd (runD r L n ⟨d0 n u, true⟩).d) v.toNat).getD 0 = gt (runD r L n ⟨d0 n u, true⟩).d v := fun v q0 q1 => by
    have := g2 v.toNat (by omega)
    have e := y7u (d := (runD r L n ⟨d0 n u, true⟩).d) q0 (by rw [h1]; exact q1)
    rw [e] at this ⊢
    split
    · rfl
    · rename_i hq; rw [if_neg hq] at this; cases this
  rw [show ((u.toNat : Nat) : Int) = u by omega] at g1
  refine ⟨fun b hb => ?_, fun q hq v v0 v1 => ?_, ?_⟩
  · obtain ⟨a1, a2, a3, a4, _, _⟩ := zef (hL b hb) r
    have := g1.sat b hb
    rw [key _ a1 a2, key _ a3 a4] at this
    exact this
  · have := g1.top q hq v v0 v1
    rw [key _ v0 v1] at this
    exact this
  · have := g1.zero
    rw [key _ hu hu'] at this
    exact this
end Px
end
section
namespace Px
open Go
set_option linter.unusedVariables false
set_option linter.unusedSimpArgs false
structure TS where
  d : List Int
  kn : List Bool
  z : Int
def stpT (b : za) (i : Int) (s : TS) : TS := if (!(gt s.kn b.i) || ((gt s.kn b.j) && decide (gt s.d b.j ≤ gt s.d b.i + b.w))) = true then s else ⟨z02 s.d b.j (gt s.d b.i + b.w), z02 s.kn b.j true, i⟩
def rndT (L : List za) : Nat → TS → TS
  | 0, s => s
  | m + 1, s => stpT (gt L (m : Int)) m (rndT L m s)
def runT (L : List za) : Nat → TS → TS
  | 0, s => s
  | k + 1, s => if (rndT L L.length ⟨s.d, s.kn, -1⟩).z < 0 then rndT L L.length ⟨s.d, s.kn, -1⟩ else runT L k (rndT L L.length ⟨s.d, s.kn, -1⟩)
structure TiB (n c : Nat) (s : TS) : Prop where
  ld : s.d.length = n
  lk : s.kn.length = n
  bd : ∀ i : Int, 0 ≤ i → i < (n : Int) → -(1099511627776 * (c : Int)) ≤ gt s.d i ∧ gt s.d i ≤ 1099511627776 * (c : Int)
theorem TiB.up {n c e : Nat} {s : TS} (h : TiB n c s) (he : c ≤ e) : TiB n e s := ⟨h.ld, h.lk, fun i h0 h1 => by have := h.bd i h0 h1; omega⟩
theorem TiB.stp {n c : Nat} {s : TS} (h : TiB n c s) {b : za} (hb : okBd n b) (i : Int) : TiB n (c + 1) (stpT b i s) := by
  obtain ⟨a1, a2, a3, a4, a5, a6⟩ := hb
  unfold stpT
  split
  · exact h.up (by omega)
  · refine ⟨by rw [z0i]; exact h.ld, by rw [z0i]; exact h.lk, fun k h0 h1 => ?_⟩
    have q1 := h.bd b.i a1 a2
    have q2 := h.bd k h0 h1
    rw [z0c _ _ _ _ a3 (by rw [h.ld]; exact a4) h0]
    split <;> omega
theorem TiB.rnd {n c : Nat} {s : TS} (h : TiB n c s) {L : List za} (hL : ∀ b ∈ L, okBd n b) : ∀ m, m ≤ L.length → TiB n (c + m) (rndT L m s)
  | 0, _ => h
  | m + 1, hm => (TiB.rnd h hL m (by omega)).stp (hL _ (z1g (by omega) (by omega))) m
def xk (s : TS) : BF.X := fun v => if v < s.d.length then (if gt s.kn (v : Int) = true then some (gt s.d (v : Int)) else none) else none
theorem y0a {s : TS} {i : Int} (h0 : 0 ≤ i) (h : i < (s.d.length : Int)) : xk s i.toNat = if gt s.kn i = true then some (gt s.d i) else none := by
  unfold xk
  rw [if_pos (by omega), show ((i.toNat : Nat) : Int) = i by omega]
theorem zv9 {n c : Nat} {s : TS} (hB : TiB n c s) {b : za} (hb : okBd n b) (i : Int) :
    xk (stpT b i s) = BF.rlx (nI false) (nJ false) bW (xk s) b ∧ (BF.imp (nI false) (nJ false) bW (xk s) b = true → (stpT b i s).z = i) ∧ (BF.imp (nI false) (nJ false) bW (xk s) b = false → stpT b i s = s) := by
  have hb2 := hb
  obtain ⟨a1, a2, a3, a4, a5, a6⟩ := hb
  have hx := hB.ld
  have e1 : xk s (nI false b) = _ := y0a (i := b.i) a1 (by rw [hx]; exact a2)
  have e2 : xk s (nJ false b) = _ := y0a (i := b.j) a3 (by rw [hx]; exact a4)
  have ei : BF.imp (nI false) (nJ false) bW (xk s) b = !(!(gt s.kn b.i) || ((gt s.kn b.j) && decide (gt s.d b.j ≤ gt s.d b.i + b.w))) := by
    unfold BF.imp
    rw [e1, e2]
    cases h1 : gt s.kn b.i with
    | false => rfl
    | true =>
      cases h2 : gt s.kn b.j with
      | false => simp [BF.ltO]
      | true =>
        simp only [if_true]
        show decide (gt s.d b.i + b.w < gt s.d b.j) = !(decide (gt s.d b.j ≤ gt s.d b.i + b.w))
        rw [← decide_not]
        exact decide_eq_decide.2 (by omega)
  cases h : (!(gt s.kn b.i) || ((gt s.kn b.j) && decide (gt s.d b.j ≤ gt s.d b.i + b.w))) with
  | true =>
    rw [h] at ei
    unfold stpT
    rw [if_pos h]
    exact ⟨(BF.rlx_not ei).symm, fun q => (by rw [ei] at q; cases q), fun _ => rfl⟩
  | false =>
    rw [h] at ei
    obtain ⟨a, ha, hlt, hr⟩ := BF.rlx_imp ei
    have hki : gt s.kn b.i = true := by
      cases hk : gt s.kn b.i with
      | true => rfl
      | false => rw [hk] at h; cases h
    rw [e1, if_pos hki, Option.some.injEq] at ha
    subst ha
    unfold stpT
    rw [if_neg (by rw [h]; simp)]
    refine ⟨?_, fun _ => rfl, fun q => (by rw [ei] at q; cases q)⟩
    rw [hr]
    funext v
    unfold xk
    simp only [z0i]
    by_cases hv : v < s.d.length
    · rw [if_pos hv, if_pos hv, z0c s.kn _ _ _ a3 (by rw [hB.lk]; exact a4) (by omega), z0c s.d _ _ _ a3 (by rw [hx]; exact a4) (by omega)]
      by_cases e : v = nJ false b
      · have e' : (v : Int) = b.j := by unfold nJ bdJ at e; simp at e; omega
        rw [if_pos e, if_pos e', if_pos e', if_pos rfl]; rfl
      · have e' : ¬ (v : Int) = b.j := by unfold nJ bdJ at e; simp at e; omega
        rw [if_neg e, if_neg e', if_neg e']
    · rw [if_neg hv, if_neg hv, if_neg (fun e => hv (by rw [hx, e]; unfold nJ bdJ; simp; omega))]
theorem zvt {n c : Nat} {s : TS} (hB : TiB n c s) {L : List za} (hL : ∀ b ∈ L, okBd n b) : ∀ m, m ≤ L.length → xk (rndT L m s) = (L.take m).foldl (BF.rlx (nI false) (nJ false) bW) (xk s)
  | 0, _ => rfl
  | m + 1, hm => by
    have ih := zvt hB hL m (by omega)
    rw [z0l L m (by omega), List.foldl_append, ← ih]
    exact (zv9 (hB.rnd hL m (by omega)) (hL _ (z1g (by omega) (by omega))) m).1
theorem y4c {n c : Nat} {s : TS} (hB : TiB n c s) {L : List za} (hL : ∀ b ∈ L, okBd n b) : ∀ m, m ≤ L.length → (rndT L m s).z < 0 → rndT L m s = s ∧ ∀ k : Nat, k < m → BF.imp (nI false) (nJ false) bW (xk s) (gt L (k : Int)) = false
  | 0, _, _ => ⟨rfl, fun k hk => by omega⟩
  | m + 1, hm, h => by
    obtain ⟨q1, q2, q3⟩ := zv9 (hB.rnd hL m (by omega)) (hL _ (z1g (l := L) (i := (m : Int)) (by omega) (by omega))) m
    change (stpT (gt L (m : Int)) m (rndT L m s)).z < 0 at h
    cases hi : BF.imp (nI false) (nJ false) bW (xk (rndT L m s)) (gt L (m : Int)) with
    | true => rw [q2 hi] at h; omega
    | false =>
      have e := q3 hi
      rw [e] at h
      obtain ⟨e2, h4⟩ := y4c hB hL m (by omega) h
      refine ⟨by change stpT (gt L (m : Int)) m (rndT L m s) = s; rw [e, e2], fun k hk => ?_⟩
      by_cases hkm : k = m
      · subst hkm; rw [e2] at hi; exact hi
      · exact h4 k (by omega)
theorem zs0 {n : Nat} {L : List za} (hL : ∀ b ∈ L, okBd n b) {x0 : BF.X} (F : BF.Feas (nI false) (nJ false) bW x0 L n) : ∀ (f k c : Nat) (s : TS), TiB n c s → xk s = BF.rnds (nI false) (nJ false) bW L x0 k → n ≤ k + f →
    TiB n (c + f * L.length) (runT L f s) ∧ BF.Fix (nI false) (nJ false) bW L (xk (runT L f s)) ∧ ∃ k', xk (runT L f s) = BF.rnds (nI false) (nJ false) bW L x0 k'
  | 0, k, c, s, hB, hx, hk => by
    refine ⟨hB.up (by omega), fun b hb => ?_, k, hx⟩
    have := BF.done F (k := k) (by omega) b hb
    rw [← hx] at this
    exact this
  | f + 1, k, c, s, hB, hx, hk => by
    have hB1 : TiB n c ⟨s.d, s.kn, -1⟩ := ⟨hB.ld, hB.lk, hB.bd⟩
    have hr := zvt hB1 hL L.length (Nat.le_refl _)
    rw [List.take_length] at hr
    have hr2 : xk (rndT L L.length ⟨s.d, s.kn, -1⟩) = BF.rnds (nI false) (nJ false) bW L x0 (k + 1) := by
      rw [hr, show xk (TS.mk s.d s.kn (-1)) = _ from hx]; rfl
    have hB2 := hB1.rnd hL L.length (Nat.le_refl _)
    unfold runT
    split
    · rename_i hz
      obtain ⟨e1, e2⟩ := y4c hB1 hL L.length (Nat.le_refl _) hz
      refine ⟨hB2.up (by rw [Nat.add_mul, Nat.one_mul]; omega), fun b hb => ?_, k + 1, hr2⟩
      rw [e1]
      obtain ⟨i, hi, rfl⟩ := ztf hb
      exact e2 i hi
    · have := zs0 hL F f (k + 1) (c + L.length) _ hB2 hr2 (by omega)
      exact ⟨this.1.up (by rw [Nat.add_mul, Nat.one_mul]; omega), this.2⟩
def t0 (n : Nat) (u : Int) : TS := ⟨List.replicate n 0, z02 (List.replicate n false) u true, -1⟩
theorem y6z {n : Nat} {u : Int} : TiB n 0 (t0 n u) := ⟨by simp [t0], by simp [t0, z0i], fun i h0 h1 => by rw [show gt (t0 n u).d i = 0 from z1f n 0 i h0 h1]; omega⟩
theorem y9s {n : Nat} {u : Int} (hu : 0 ≤ u) (hu' : u < (n : Int)) : xk (t0 n u) = xs1 u.toNat := by
  funext v
  unfold xk xs1 t0
  simp only [List.length_replicate]
  by_cases hv : v < n
  · rw [if_pos hv, z0c _ _ _ _ hu (by simpa using hu') (by omega), z1f _ _ _ (by omega) (by omega), z1f _ _ _ (by omega) (by omega)]
    by_cases e : (v : Int) = u
    · rw [if_pos e, if_pos (by omega : v = u.toNat), if_pos rfl]
    · rw [if_neg e, if_neg (by omega : ¬ v = u.toNat), if_neg (by simp)]
  · rw [if_neg hv, if_neg (by omega)]
/-- What Tight finds, where all variables are bounded against the first one. -/
theorem zuz {n : Nat} {L : List za} (hL : ∀ b ∈ L, okBd n b) (hc : Conn L n) {p : Int → Int} (hp : SolD false L p) {u : Int} (hu : 0 ≤ u) (hu' : u < (n : Int)) :
    (runT L n (t0 n u)).d.length = n ∧ (runT L n (t0 n u)).kn.length = n ∧ zks false L n u (gt (runT L n (t0 n u)).d) ∧ ∀ v : Int, 0 ≤ v → v < (n : Int) → gt (runT L n (t0 n u)).kn v = true := by
  have F := y6l hL hp (u := u.toNat) (by omega)
  obtain ⟨h1, h2, k, h3⟩ := zs0 hL F n 0 0 (t0 n u) y6z (y9s hu hu') (by omega)
  obtain ⟨g1, g2⟩ := zkq hL hc hp (u := u.toNat) (by omega) h2 h3
  have kn : ∀ v : Int, 0 ≤ v → v < (n : Int) → gt (runT L n (t0 n u)).kn v = true := fun v q0 q1 => by
    have := g2 v.toNat (by omega)
    rw [y0a q0 (by rw [h1.ld]; exact q1)] at this
    split at this
    · assumption
    · cases this
  have key : ∀ v : Int, 0 ≤ v → v < (n : Int) → (xk (runT L n (t0 n u)) v.toNat).getD 0 = gt (runT L n (t0 n u)).d v := fun v q0 q1 => by
    rw [y0a q0 (by rw [h1.ld]; exact q1), if_pos (kn v q0 q1)]; rfl
  rw [show ((u.toNat : Nat) : Int) = u by omega] at g1
  refine ⟨h1.ld, h1.lk, ⟨fun b hb => ?_, fun q hq v v0 v1 => ?_, ?_⟩, kn⟩
  · obtain ⟨a1, a2, a3, a4, _, _⟩ := zef (hL b hb) false
    have := g1.sat b hb
    rw [key _ a1 a2, key _ a3 a4] at this
    exact this
  · have := g1.top q hq v v0 v1
    rw [key _ v0 v1] at this
    exact this
  · have := g1.zero
    rw [key _ hu hu'] at this
    exact this
end Px
end
section
namespace Px
open Go
set_option linter.unusedVariables false
set_option linter.unusedSimpArgs false
set_option maxHeartbeats 4000000
def zvn (fit : Bool) (x : Part) : Bool := !(((((decide ((x.kind : Int) < 1)) || (decide ((3 : Int) < x.kind))) || (decide ((x.serial : Int) < 0))) || (decide ((1073741824 : Int) < x.serial))) || (x.fitted && (!fit)))
theorem za5 (φ : Nat) (l : List Part) (fit : Bool) (h : l.length ≤ 1000) (hφ : 1000 < φ) : zce φ l fit = some (l.all (zvn fit) && decide ((l.length : Int) ≤ 16), ()) := by
  unfold zce
  rw [zfj (fun n i => z5n φ n l fit l (l.length : Int) i) (some (decide ((l.length : Int) ≤ 16), ())) (some (false, ())) l (fun x => !zvn fit x) ?_ ?_ φ (by omega)]
  · simp only [List.any_eq_not_all_not, Bool.not_not]
    cases l.all (zvn fit) <;> rfl
  · intro n i hi
    rw [z5n, if_pos (by simp; omega), z7 ⟨by omega, by omega⟩, W_id (by omega) (by omega)]
    show _ = bif !!_ then _ else _
    rw [Bool.not_not]
    cases (((((decide (((gt l i).kind : Int) < 1)) || (decide ((3 : Int) < (gt l i).kind))) || (decide (((gt l i).serial : Int) < 0))) || (decide ((1073741824 : Int) < (gt l i).serial))) || ((gt l i).fitted && (!fit))) <;> rfl
  · intro n; rw [z5n, if_neg (by simp)]
/-- What is known of a valid item. -/
structure znk (p : Pool) (it : Item) : Prop where
  kind : 1 ≤ it.kind ∧ it.kind ≤ 15
  wagon : it.kind ≤ 9 → 0 ≤ it.wagon ∧ it.wagon < (p.fleet.wagons.length : Int)
  read : it.kind = 1 → 0 ≤ it.other ∧ it.other < (p.readers.length : Int)
  place : it.kind = 2 ∨ it.kind = 3 ∨ it.kind = 4 ∨ it.kind = 6 ∨ it.kind = 7 ∨ it.kind = 9 → 0 ≤ it.place ∧ it.place < (p.network.places.length : Int)
  from_ : it.kind ≤ 9 → 0 ≤ it.from_ ∧ it.from_ ≤ 1073741824
  to : it.kind = 2 ∨ it.kind = 9 → it.from_ ≤ it.to ∧ it.to ≤ 1073741824
theorem zsj {ρ : Type} (c q : Bool) (K : Bool → Option ρ) : ((z0m (default, ()) (c = true) (some (q, ()))).bind fun y => K (c && y.1)) = K (c && q) := by
  unfold z0m
  cases c <;> rfl
theorem zzc (p : Pool) (it : Item) (hparts : it.parts.length ≤ 1000) (hw : p.fleet.wagons.length ≤ 4096) (hr : p.readers.length ≤ 256) (hs : p.shippers.length ≤ 256) (hpl : p.network.places.length ≤ 512) (ht : p.fleet.types.length ≤ 32) :
    ∃ b, (∀ φ, 1000 < φ → z2d φ p it = some (b, ())) ∧ (b = true → znk p it) := by
  have w1 : W ((p.fleet.wagons.length : Int) - 1) = (p.fleet.wagons.length : Int) - 1 := W_id (by omega) (by omega)
  have w2 : W ((p.readers.length : Int) - 1) = (p.readers.length : Int) - 1 := W_id (by omega) (by omega)
  have w3 : W ((p.shippers.length : Int) - 1) = (p.shippers.length : Int) - 1 := W_id (by omega) (by omega)
  have w4 : W ((p.network.places.length : Int) - 1) = (p.network.places.length : Int) - 1 := W_id (by omega) (by omega)
  have w5 : W ((p.fleet.types.length : Int) - 1) = (p.fleet.types.length : Int) - 1 := W_id (by omega) (by omega)
  have hm : ∀ x z : Int, max2 x 0 ≤ z ↔ x ≤ z ∧ 0 ≤ z := by intro x z; unfold max2; split <;> omega
  by_cases hk0 : it.kind < 1
  · refine ⟨false, fun φ hφ => ?_, fun h => by cases h⟩
    unfold z2d zh
    rw [if_pos (by simp; omega), if_pos (by simpa using hk0)]
    simp
  by_cases hk16 : 15 < it.kind
  · refine ⟨false, fun φ hφ => ?_, fun h => by cases h⟩
    have e : ∀ k : Int, k ≤ 15 → (it.kind == k) = false := fun k hk => by simp; omega
    unfold z2d
    rw [if_neg (by simp; omega)]
    simp [e, z2z, zh]
  have hcases : it.kind = 1 ∨ it.kind = 2 ∨ it.kind = 3 ∨ it.kind = 4 ∨ it.kind = 5 ∨ it.kind = 6 ∨ it.kind = 7 ∨ it.kind = 8 ∨ it.kind = 9 ∨ it.kind = 10 ∨ it.kind = 11 ∨ it.kind = 12 ∨ it.kind = 13 ∨ it.kind = 14 ∨ it.kind = 15 := by omega
  by_cases hin : 0 ≤ it.place ∧ it.place < (p.network.places.length : Int)
  · have e1 : (decide ((0 : Int) ≤ it.place) && decide ((it.place : Int) < (p.network.places.length : Int))) = true := by simp [hin]
    rcases hcases with hk | hk | hk | hk | hk | hk | hk | hk | hk | hk | hk | hk | hk | hk | hk
    case inr.inr.inr.inr.inr.inr.inr.inr.inl =>
      refine ⟨_, fun φ hφ => by
        unfold z2d
        simp only [hk, e1, z4p, z7 hin, w1, w2, w3, w4, w5, za5 φ _ _ hparts hφ, Option.bind_some, Int.reduceLE, Int.reduceLT, Int.reduceBEq, decide_true, decide_false, if_true, Bool.false_eq_true, if_false]
        refine (zsj _ _ (fun b => zh φ ⟨_, _, b⟩)).trans ?_
        unfold zh
        rfl, fun hb => ?_⟩
      simp only [Bool.and_eq_true, decide_eq_true_eq, hm, beq_iff_eq, bne_iff_ne, ne_eq, Bool.or_eq_true] at hb
      constructor <;> omega
    case inr.inr.inr.inr.inr.inr.inr.inr.inr.inl =>
      refine ⟨_, fun φ hφ => by
        unfold z2d
        simp only [hk, e1, z7 hin, w1, w2, w3, w4, w5, za5 φ _ _ hparts hφ, Option.bind_some, Int.reduceLE, Int.reduceLT, Int.reduceBEq, decide_true, decide_false, if_true, Bool.false_eq_true, if_false]
        refine (zsj _ _ (fun b => zh φ ⟨_, _, b⟩)).trans ?_
        unfold zh
        rfl, fun hb => ?_⟩
      constructor <;> omega
    all_goals
      refine ⟨_, fun φ hφ => by
        unfold z2d
        simp only [hk, e1, z6n, z4v, z57, z4q, z4s, z4x, z2z, z58, zh, z7 hin, w1, w2, w3, w4, w5, Option.bind_some, Int.reduceLE, Int.reduceLT, Int.reduceBEq, Int.reduceBNe, Int.reduceNe, decide_true, decide_false, if_true, Bool.false_eq_true, if_false]
        rfl, fun hb => ?_⟩
      simp only [Bool.and_eq_true, decide_eq_true_eq, hm, beq_iff_eq, bne_iff_ne, ne_eq, Bool.or_eq_true] at hb
      constructor <;> omega
  · have e1 : (decide ((0 : Int) ≤ it.place) && decide ((it.place : Int) < (p.network.places.length : Int))) = false := by
      rw [← Bool.not_eq_true]; simpa using hin
    rcases hcases with hk | hk | hk | hk | hk | hk | hk | hk | hk | hk | hk | hk | hk | hk | hk
    case inr.inr.inr.inr.inr.inr.inr.inr.inl =>
      refine ⟨_, fun φ hφ => by
        unfold z2d
        simp only [hk, e1, z4p, w1, w2, w3, w4, w5, za5 φ _ _ hparts hφ, Option.bind_some, Int.reduceLE, Int.reduceLT, Int.reduceBEq, decide_true, decide_false, if_true, Bool.false_eq_true, if_false]
        refine (zsj _ _ (fun b => zh φ ⟨_, _, b⟩)).trans ?_
        unfold zh
        rfl, fun hb => ?_⟩
      simp at hb
    case inr.inr.inr.inr.inr.inr.inr.inr.inr.inl =>
      refine ⟨_, fun φ hφ => by
        unfold z2d
        simp only [hk, e1, w1, w2, w3, w4, w5, za5 φ _ _ hparts hφ, Option.bind_some, Int.reduceLE, Int.reduceLT, Int.reduceBEq, decide_true, decide_false, if_true, Bool.false_eq_true, if_false]
        refine (zsj _ _ (fun b => zh φ ⟨_, _, b⟩)).trans ?_
        unfold zh
        rfl, fun hb => ?_⟩
      constructor <;> omega
    all_goals
      refine ⟨_, fun φ hφ => by
        unfold z2d
        simp only [hk, e1, z6n, z4v, z57, z4q, z4s, z4x, z2z, z58, zh, w1, w2, w3, w4, w5, Option.bind_some, Int.reduceLE, Int.reduceLT, Int.reduceBEq, Int.reduceBNe, Int.reduceNe, decide_true, decide_false, if_true, Bool.false_eq_true, if_false]
        rfl, fun hb => ?_⟩
      simp only [Bool.and_eq_true, decide_eq_true_eq, hm, beq_iff_eq, bne_iff_ne, ne_eq, Bool.or_eq_true] at hb
      first | (constructor <;> omega) | (simp at hb; done) | (simp at hb; constructor <;> omega)
def zcv (p : Pool) (it : Item) : Bool := ((z2d 2000 p it).getD (false, ())).1
def y2c (it : Item) : Bool := ((z6c 0 it).getD (false, ())).1
theorem zq0 (φ : Nat) (it : Item) : z6c φ it = some (y2c it, ()) := by
  unfold y2c z6c
  split <;> rfl
/-- Does an item count? -/
def zdk (p : Pool) (it : Item) : Bool := y2c it && zcv p it
theorem znm {p : Pool} (hc : z0b p = 0) {it : Item} (hparts : it.parts.length ≤ 1000) : (∀ φ, 1000 < φ → z2d φ p it = some (zcv p it, ())) ∧ (zcv p it = true → znk p it) := by
  obtain ⟨hn, hf, h1, h2, h3, hb⟩ := z7b hc
  obtain ⟨n1, n2, _, _⟩ := zes hn
  obtain ⟨f1, f2, _⟩ := z9g hf
  obtain ⟨b, hφ, hok⟩ := zzc p it hparts f2 h1 h2 n1 f1
  have : zcv p it = b := by unfold zcv; rw [hφ 2000 (by omega)]; rfl
  rw [this]
  exact ⟨hφ, hok⟩
theorem zns (φ : Nat) (hφ : 800000 < φ) {p : Pool} (hc : z0b p = 0) {it : Item} (hparts : it.parts.length ≤ 1000) : zfq φ p it = some (bif zdk p it then 0 else 110, ()) := by
  unfold zfq zdk
  rw [z6i φ hφ, Option.bind_some, if_neg (by simp [hc]), zq0, Option.bind_some]
  cases y2c it with
  | false => rfl
  | true =>
    rw [gz_t (by simp), (znm hc hparts).1 φ (by omega), Option.bind_some]
    cases zcv p it <;> rfl
theorem zf2 {p : Pool} (hc : z0b p = 0) {it : Item} (hparts : it.parts.length ≤ 1000) (h : zdk p it = true) : znk p it := by
  simp only [zdk, Bool.and_eq_true] at h
  exact (znm hc hparts).2 h.2
end Px
end
section
namespace Px
open Go
set_option linter.unusedVariables false
set_option linter.unusedSimpArgs false
theorem zl3 {n b : Nat} (h : n ≤ 100000) (hb : b ≤ 1000) : fits n b := by
  unfold fits
  have : n * b ≤ 100000 * 1000 := Nat.mul_le_mul h hb
  omega
def z6l (r : zf) (place time : Int) : zl := ⟨r.item.wagon, place, r.ref, false, time, time⟩
/-- The events of a report that counts. -/
def evs (p : Pool) (r : zf) (i : Int) : List z6 :=
  if r.item.kind = 1 then [⟨z6l r (gt p.readers r.item.other).place r.item.from_, i, false, false, r.item.other⟩]
  else if r.item.kind = 2 ∨ r.item.kind = 9 then [⟨z6l r r.item.place r.item.from_, i, false, true, -1⟩, ⟨z6l r r.item.place r.item.to, i, true, true, -1⟩]
  else if r.item.kind = 3 ∨ r.item.kind = 4 ∨ r.item.kind = 6 ∨ r.item.kind = 7 then [⟨z6l r r.item.place r.item.from_, i, false, false, -1⟩] else []
theorem zrk (φ : Nat) (p : Pool) (r : zf) (i : Int) (h : r.item.kind = 1 → 0 ≤ r.item.other ∧ r.item.other < (p.readers.length : Int)) : z0x φ p r i = some (evs p r i, ()) := by
  by_cases h1 : r.item.kind = 1
  · have h' := h h1
    simp [z0x, evs, h1, z7 h', z00, z6l]
  by_cases h2 : r.item.kind = 2
  · simp [z0x, evs, h2, z07, z1y, z20, z00, z6l]
  by_cases h9 : r.item.kind = 9
  · simp [z0x, evs, h9, z07, z1y, z20, z00, z6l]
  by_cases h3 : r.item.kind = 3
  · simp [z0x, evs, h3, z07, z06, z00, z6l]
  by_cases h4 : r.item.kind = 4
  · simp [z0x, evs, h4, z07, z06, z00, z6l]
  by_cases h6 : r.item.kind = 6
  · simp [z0x, evs, h6, z07, z06, z00, z6l]
  by_cases h7 : r.item.kind = 7
  · simp [z0x, evs, h7, z07, z06, z00, z6l]
  · simp [z0x, evs, h1, h2, h9, h3, h4, h6, h7, z07, z06]
theorem zgq {p : Pool} {r : zf} {i : Int} {x : z6} (h : x ∈ evs p r i) : x.report = i ∧ x.visit.wagon = r.item.wagon ∧ x.visit.ref = r.ref := by
  unfold evs at h
  split at h
  · simp only [List.mem_singleton] at h; subst h; exact ⟨rfl, rfl, rfl⟩
  · split at h
    · simp only [List.mem_cons, List.not_mem_nil, or_false] at h
      rcases h with rfl | rfl <;> exact ⟨rfl, rfl, rfl⟩
    · split at h
      · simp only [List.mem_singleton] at h; subst h; exact ⟨rfl, rfl, rfl⟩
      · cases h
theorem zy2 (p : Pool) (r : zf) (i : Int) : (evs p r i).length ≤ 2 := by
  unfold evs
  split
  · simp
  · split
    · simp
    · split <;> simp
theorem ya7 (p : Pool) (r : zf) (i : Int) : (evs p r i).Pairwise fun a b => a.report ≠ b.report ∨ a.second ≠ b.second := by
  unfold evs
  split
  · simp
  · split
    · simp
    · split <;> simp
/-- The numbers of the reports that count. -/
def cntN (p : Pool) (l : List zf) (n : Nat) : List Int := ((List.range n).filter fun (i : Nat) => zdk p (gt l (i : Int)).item).map fun (i : Nat) => (i : Int)
def cnt (p : Pool) (l : List zf) : List Int := cntN p l l.length
theorem zx5 (p : Pool) (l : List zf) (n : Nat) : cntN p l (n + 1) = cntN p l n ++ (bif zdk p (gt l (n : Int)).item then [(n : Int)] else []) := by
  unfold cntN
  rw [List.range_succ, List.filter_append, List.map_append]
  congr 1
  cases h : zdk p (gt l (n : Int)).item <;> simp [h]
theorem zif (p : Pool) (l : List zf) (n : Nat) : (cntN p l n).length ≤ n := by
  unfold cntN
  rw [List.length_map]
  exact Nat.le_trans (List.length_filter_le _ _) (by simp)
theorem zxr {p : Pool} {l : List zf} {i : Int} (h : i ∈ cnt p l) : 0 ≤ i ∧ i < (l.length : Int) ∧ zdk p (gt l i).item = true := by
  simp only [cnt, cntN, List.mem_map, List.mem_filter, List.mem_range] at h
  obtain ⟨n, ⟨h1, h2⟩, rfl⟩ := h
  exact ⟨by omega, by omega, h2⟩
theorem y9b (p : Pool) (l : List zf) : (cnt p l).Pairwise (· < ·) := by
  unfold cnt cntN
  rw [List.pairwise_map]
  refine (List.pairwise_lt_range.filter _).imp ?_
  intro a b h
  omega
/-- A list of reports that the laws admit. -/
structure FewL (l : List zf) : Prop where
  len : l.length ≤ 1000
  parts : ∀ r ∈ l, r.item.parts.length ≤ 1000
theorem FewL.gt {l : List zf} (h : FewL l) {i : Int} (h0 : 0 ≤ i) (hi : i < (l.length : Int)) : (Px.gt l i).item.parts.length ≤ 1000 := h.parts _ (z1g h0 hi)
theorem zty (φ : Nat) (hφ : 800000 < φ) {p : Pool} (hc : z0b p = 0) {l : List zf} (hl : FewL l) : z8g φ p l = some (cnt p l, ()) := by
  have h1 := hl.len
  unfold z8g
  refine z04 (fun n i acc => z27 φ n l (l.length : Int) i p acc) l.length (fun i acc => acc = cntN p l i) (fun o => o = some (cnt p l, ())) ?_ ?_ φ [] rfl (by omega)
  · intro n i acc hi hacc hs
    rw [z27, if_pos (by simp; omega), z7 ⟨by omega, by omega⟩, zns φ hφ hc (hl.gt (by omega) (by omega)), Option.bind_some, W_id (by omega) (by omega)]
    have hs' := hs (cntN p l (i + 1)) rfl
    rw [zx5] at hs'
    cases h : zdk p (gt l (i : Int)).item with
    | true =>
      rw [h] at hs'
      rw [if_pos (by rfl), z7 (zl3 (by have := zif p l i; rw [hacc]; simp; omega) (by omega)), hacc]
      exact hs'
    | false =>
      rw [h] at hs'
      simp only [cond_false, List.append_nil] at hs'
      rw [if_neg (by decide), hacc]
      exact hs'
  · intro n acc hacc
    rw [z27, if_neg (by simp), hacc]; rfl
/-- The events of a wagon, as they were collected. -/
def unsC (p : Pool) (l : List zf) (c : List Int) (w : Int) : List z6 := c.flatMap fun i => if (gt l i).item.wagon = w then evs p (gt l i) i else []
def uns (p : Pool) (l : List zf) (w : Int) : List z6 := unsC p l (cnt p l) w
theorem zey (p : Pool) (l : List zf) (w : Int) : ∀ c : List Int, (unsC p l c w).length ≤ 2 * c.length
  | [] => by simp [unsC]
  | i :: c => by
    have := zey p l w c
    have h2 := zy2 p (gt l i) i
    unfold unsC at *
    rw [List.flatMap_cons, List.length_append, List.length_cons]
    split
    · omega
    · simp only [List.length_nil]; omega
theorem y5l {a b : z6} (h : a.report ≠ b.report ∨ a.second ≠ b.second) : cfEv a b < 0 ∨ cfEv b a < 0 := by
  rw [zj4, zj4]
  have h2 : a.second ≠ b.second → ordB a.second ≠ ordB b.second := by
    cases a.second <;> cases b.second <;> simp [ordB]
  by_cases hs : a.second = b.second
  · have h3 := h.resolve_right (fun q => q hs)
    rw [hs]; omega
  · have := h2 hs
    omega
theorem y9t (p : Pool) (l : List zf) (w : Int) : (uns p l w).Pairwise fun a b => a.report ≠ b.report ∨ a.second ≠ b.second := by
  unfold uns unsC
  rw [List.pairwise_flatMap]
  refine ⟨fun i hi => ?_, (y9b p l).imp ?_⟩
  · split
    · exact ya7 _ _ _
    · exact List.Pairwise.nil
  · intro i j hij x hx y hy
    split at hx
    · split at hy
      · rw [(zgq hx).1, (zgq hy).1]
        exact .inl (by omega)
      · cases hy
    · cases hx
theorem znw {p : Pool} {l : List zf} (hl : l.length ≤ 1000) {w : Int} {x : z6} (h : x ∈ uns p l w) : 0 ≤ x.report ∧ x.report < (l.length : Int) ∧ x.visit.wagon = w ∧ zdk p (gt l x.report).item = true ∧ x ∈ evs p (gt l x.report) x.report := by
  simp only [uns, unsC, List.mem_flatMap] at h
  obtain ⟨i, hi, hx⟩ := h
  obtain ⟨h1, h2, h3⟩ := zxr hi
  split at hx
  · rename_i hw
    obtain ⟨r1, r2, r3⟩ := zgq hx
    rw [r1]
    exact ⟨h1, h2, by rw [r2, hw], h3, hx⟩
  · cases hx
def ltEv (a b : z6) : Bool := decide (cfEv a b < 0)
def srt (p : Pool) (l : List zf) (w : Int) : List z6 := zbr ltEv (uns p l w)
theorem zuj {p : Pool} {l : List zf} (hl : l.length ≤ 1000) (w : Int) : sortEv (uns p l w) = some (srt p l w) := by
  refine y0h (fun y hy => ?_) ?_ ((y9t p l w).imp fun h => y5l h)
  · obtain ⟨h1, h2, _⟩ := znw hl hy
    simp only [okEv, decide_eq_true_eq]; omega
  · have := zey p l w (cnt p l)
    have h2 := zif p l l.length
    unfold uns cnt at *
    omega
/-- Stays cover the gaps of a z4n. -/
def covM (e : z6) (m : List (Int × Bool)) : List (Int × Bool) := if (e.stay && e.second) = true then mdel m e.report else if e.stay = true then mset m e.report true else m
def zgb (e : z6) (b : Bool) : z6 := ⟨⟨e.visit.wagon, e.visit.place, e.visit.ref, b, e.visit.early, e.visit.late⟩, e.report, e.second, e.stay, e.reader⟩
def zmp : List z6 → List (Int × Bool) → List z6
  | [], _ => []
  | e :: t, m => zgb e (decide ((0 : Int) < ((covM e m).length : Int))) :: zmp t (covM e m)
theorem znn : ∀ (t : List z6) (m : List (Int × Bool)), (zmp t m).length = t.length
  | [], _ => rfl
  | e :: t, m => by simp [zmp, znn t]
def z4n (p : Pool) (l : List zf) (w : Int) : List z6 := zmp (srt p l w) []
theorem zy1 {α : Type} (a : List α) (x y : α) (b : List α) : z02 (a ++ x :: b) (a.length : Int) y = a ++ y :: b := by
  simp [z02]
theorem y3y {α : Type} [Inhabited α] (a : List α) (x : α) (b : List α) : gt (a ++ x :: b) (a.length : Int) = x := by
  simp [gt]
theorem zu4 (φ : Nat) (k : Int → Int → List (List z6) → Option ((List (List z6)) × Unit)) (x19 x20 x24 : Int) (x23 : List (List z6)) :
    ∀ (n : Nat) (done todo : List z6) (m : List (Int × Bool)), todo.length < n → done.length + todo.length ≤ 100000 →
      z10 φ k n ((done.length + todo.length : Nat) : Int) (done.length : Int) x19 x20 (done ++ todo) m x23 x24 = k x19 (W (x20 + 1)) (z02 x23 x24 (done ++ zmp todo m)) := by
  intro n
  induction n with
  | zero => intro d t m h _; omega
  | succ n ih =>
    intro d t m hn hl
    cases t with
    | nil =>
      rw [z10, if_neg (by simp)]
      rfl
    | cons e t =>
      simp only [List.length_cons] at hn hl
      have hin : (0 : Int) ≤ (d.length : Int) ∧ (d.length : Int) < ((d ++ e :: t).length : Int) := ⟨by omega, by simp; omega⟩
      have key : ∀ m', z2r φ (z10 φ k n) (d.length : Int) ((d.length + (e :: t).length : Nat) : Int) (d.length : Int) x19 x20 (d ++ e :: t) m' x23 x24 =
          k x19 (W (x20 + 1)) (z02 x23 x24 (d ++ zgb e (decide ((0 : Int) < (m'.length : Int))) :: zmp t m')) := by
        intro m'
        unfold z2r
        rw [z7 hin, y3y, W_id (by omega) (by omega), zy1]
        have := ih (d ++ [zgb e (decide ((0 : Int) < (m'.length : Int)))]) t m' (by omega) (by simp; omega)
        simp only [List.length_append, List.length_cons, List.length_nil, List.append_assoc, List.cons_append, List.nil_append] at this
        rw [show ((d.length + (e :: t).length : Nat) : Int) = ((d.length + (0 + 1) + t.length : Nat) : Int) by simp; omega, show (d.length : Int) + 1 = ((d.length + (0 + 1) : Nat) : Int) by omega]
        exact this
      rw [z10, if_pos (by simp; omega), z7 hin, z7 (fun _ => hin), y3y]
      have hg : ∀ m', covM e m = m' → zmp (e :: t) m = zgb e (decide ((0 : Int) < (m'.length : Int))) :: zmp t m' := fun m' hm => by subst hm; rfl
      by_cases h1 : (e.stay && e.second) = true
      · rw [if_pos h1, z7 hin, key, hg _ (if_pos h1)]
      · rw [if_neg h1, z7 hin]
        by_cases h2 : e.stay = true
        · rw [if_pos h2, z7 hin, key, hg (mset m e.report true) (by unfold covM; rw [if_neg h1, if_pos h2])]
        · rw [if_neg h2, key, hg m (by unfold covM; rw [if_neg h1, if_neg h2])]
theorem zw2 (φ : Nat) (hφ : 800000 < φ) {p : Pool} (hc : z0b p = 0) {l : List zf} (hl : FewL l) : z9x φ p l = some ((List.range p.fleet.wagons.length).map fun (w : Nat) => z4n p l (w : Int), ()) := by
  have h1 := hl.len
  obtain ⟨_, hf, _⟩ := z7b hc
  obtain ⟨_, f2, _⟩ := z9g hf
  have hcl := zif p l l.length
  unfold z9x
  rw [z7 (mk_t _ _ (by omega) (by omega) (by omega)), zty φ hφ hc hl, Option.bind_some]
  generalize hn0 : p.fleet.wagons.length = n0 at *
  have second : ∀ out : List (List z6), out.length = n0 → (∀ w : Nat, w < n0 → gt out (w : Int) = uns p l w) → z1e φ φ (out.length : Int) 0 out = some ((List.range n0).map fun (w : Nat) => z4n p l (w : Int), ()) := by
    intro out ho hu
    rw [ho]
    refine z04 (fun n i o => z1e φ n (n0 : Int) i o) n0 (fun i o => o.length = n0 ∧ ∀ w : Nat, w < n0 → gt o (w : Int) = if w < i then z4n p l w else uns p l w) (fun o => o = some ((List.range n0).map fun (w : Nat) => z4n p l (w : Int), ())) ?_ ?_ φ out ⟨ho, fun w hw => by rw [hu w hw, if_neg (by omega)]⟩ (by omega)
    · intro n i o hi ⟨ho1, ho2⟩ hs
      rw [z1e, if_pos (by simp; omega), z7 ⟨by omega, by omega⟩, z7 ⟨by omega, by omega⟩, z7 rfl, ho2 i hi, if_neg (by omega), zuj h1, Option.bind_some]
      have hsl : (srt p l (i : Int)).length ≤ 2000 := by
        rw [srt, (z37 _ _).length_eq]
        have := zey p l i (cnt p l)
        unfold uns cnt at *
        omega
      have := zu4 φ (z1e φ n) (n0 : Int) (i : Int) (i : Int) o φ [] (srt p l (i : Int)) [] (by omega) (by simp; omega)
      simp only [List.length_nil, Nat.zero_add, List.nil_append] at this
      refine this.trans ?_
      rw [W_id (by omega) (by omega)]
      refine hs _ ⟨by rw [z0i]; exact ho1, fun w hw => ?_⟩
      rw [z0c _ _ _ _ (by omega) (by omega) (by omega)]
      by_cases e : w = i
      · subst e; rw [if_pos rfl, if_pos (by omega)]; rfl
      · rw [if_neg (by omega), ho2 w hw]
        by_cases h2 : w < i
        · rw [if_pos h2, if_pos (by omega)]
        · rw [if_neg h2, if_neg (by omega)]
    · intro n o ⟨ho1, ho2⟩
      rw [z1e, if_neg (by simp)]
      congr 2
      refine List.ext_getElem (by simp [ho1]) fun w hw hw2 => ?_
      have := ho2 w (by omega)
      rw [z3w hw, if_pos (by omega)] at this
      simpa using this
  refine z04 (fun n i o => z23 φ n l (cnt p l) ((cnt p l).length : Int) i p o) (cnt p l).length (fun i o => o.length = n0 ∧ ∀ w : Nat, w < n0 → gt o (w : Int) = unsC p l ((cnt p l).take i) w) (fun o => o = some ((List.range n0).map fun (w : Nat) => z4n p l (w : Int), ())) ?_ ?_ φ _ ⟨by simp, fun w hw => ?_⟩ (by unfold cnt; omega)
  · intro n i o hi ⟨ho1, ho2⟩ hs
    have hmem : gt (cnt p l) (i : Int) ∈ cnt p l := z1g (by omega) (by omega)
    obtain ⟨c1, c2, c3⟩ := zxr hmem
    have hI := zf2 hc (hl.gt c1 c2) c3
    have hcn : (cnt p l).length ≤ 1000 := by unfold cnt; omega
    rw [z23, if_pos (by simp; omega), z7 ⟨by omega, by omega⟩, z7 ⟨c1, c2⟩, zrk φ p _ _ hI.read, Option.bind_some]
    have hW : W ((i : Int) + 1) = (i : Int) + 1 := W_id (by omega) (by omega)
    have htake : ∀ w, unsC p l ((cnt p l).take (i + 1)) w = unsC p l ((cnt p l).take i) w ++ (if (gt l (gt (cnt p l) (i : Int))).item.wagon = w then evs p (gt l (gt (cnt p l) (i : Int))) (gt (cnt p l) (i : Int)) else []) := by
      intro w
      rw [z0l _ _ hi]
      simp [unsC]
    generalize gt (cnt p l) (i : Int) = ci at *
    generalize hev : evs p (gt l ci) ci = E at *
    have hE : E.length ≤ 2 := by rw [← hev]; exact zy2 _ _ _
    simp only []
    by_cases h0 : 0 < E.length
    · have hkind : (gt l ci).item.kind ≤ 9 := by
        rcases Int.lt_or_le 9 (gt l ci).item.kind with h | h
        · exfalso
          have : E = [] := by
            rw [← hev]; unfold evs
            rw [if_neg (by omega), if_neg (by omega), if_neg (by omega)]
          rw [this] at h0; simp at h0
        · exact h
      have hwg := hI.wagon hkind
      rw [hn0] at hwg
      obtain ⟨w0, hw0⟩ : ∃ w0 : Nat, (gt l ci).item.wagon = (w0 : Int) := ⟨(gt l ci).item.wagon.toNat, by omega⟩
      rw [hw0] at hwg htake ⊢
      have hwg' : (0 : Int) ≤ (w0 : Int) ∧ (w0 : Int) < (o.length : Int) := ⟨by omega, by omega⟩
      have hul := zey p l w0 ((cnt p l).take i)
      rw [if_pos (by simpa using h0), z7 ⟨c1, c2⟩, z7 hwg', z7 hwg', z7 trivial, ho2 w0 (by omega),
        z7 (zl3 (by rw [List.length_take] at hul; omega) (by omega)), z7 hwg', z7 trivial, hW]
      refine hs _ ⟨by rw [z0i]; exact ho1, fun w hw => ?_⟩
      rw [z0c _ _ _ _ (by omega) (by omega) (by omega), htake]
      by_cases e : (w : Int) = (w0 : Int)
      · rw [if_pos e, e, if_pos rfl]
      · rw [if_neg e, if_neg (fun q => e q.symm), List.append_nil, ho2 w hw]
    · have hnil : E = [] := List.eq_nil_of_length_eq_zero (by omega)
      rw [if_neg (by simpa using h0), hW]
      refine hs _ ⟨ho1, fun w hw => ?_⟩
      rw [htake, hnil, ho2 w hw]
      split <;> simp
  · intro n o ⟨ho1, ho2⟩
    rw [z23, if_neg (by simp)]
    refine second o ho1 fun w hw => ?_
    rw [ho2 w hw, List.take_length]; rfl
  · rw [z1f _ _ _ (by omega) (by simp; omega)]
    simp [unsC]
    rfl
end Px
end
section
namespace Px
open Go
set_option linter.unusedVariables false
set_option linter.unusedSimpArgs false
theorem zeq (m : List (Int × Int)) (a v c : Int) : mget (mset m a v) c = if c = a then some v else mget m c := by
  induction m with
  | nil =>
    show (bif c == a then some v else none) = _
    by_cases h : c = a
    · rw [if_pos h]; simp [h]
    · rw [if_neg h]
      have : (c == a) = false := by simpa using h
      rw [this]; rfl
  | cons p m ih =>
    obtain ⟨k, w⟩ := p
    show mget (bif a == k then (a, v) :: m else (k, w) :: mset m a v) c = _
    have e1 : mget ((k, w) :: m) c = bif c == k then some w else mget m c := rfl
    by_cases h1 : a = k
    · subst h1
      simp only [beq_self_eq_true, cond_true]
      show (bif c == a then some v else mget m c) = _
      rw [e1]
      by_cases h : c = a
      · rw [if_pos h]; simp [h]
      · rw [if_neg h]
        have : (c == a) = false := by simpa using h
        rw [this]; rfl
    · have : (a == k) = false := by simpa using h1
      rw [this]
      show (bif c == k then some w else mget (mset m a v) c) = _
      rw [ih, e1]
      by_cases h2 : c = k
      · subst h2
        have h3 : ¬ c = a := fun e => h1 e.symm
        simp [h3]
      · have : (c == k) = false := by simpa using h2
        rw [this]; rfl
theorem zyh {p : Pool} {l : List zf} (hl : l.length ≤ 1000) (w : Int) : (z4n p l w).length ≤ 2000 := by
  unfold z4n
  rw [znn, srt, (z37 _ _).length_eq]
  have := zey p l w (cnt p l)
  have := zif p l l.length
  unfold uns cnt at *
  omega
end Px
end
section
namespace Px
open Go
set_option linter.unusedVariables false
set_option linter.unusedSimpArgs false
theorem zyg (φ : Nat) (hφ : 800000 < φ) (x : zg) (a b : zl) : ∃ t, z3c φ x a b = some (t, ()) ∧ 0 ≤ t ∧ t ≤ 1073741825 := by
  unfold z3c
  split
  · exact ⟨_, rfl, by omega, by omega⟩
  · obtain ⟨t, e, h, h1, h2⟩ := zl7 φ hφ x a.place b.place
    rw [h, Option.bind_some]
    split
    · exact ⟨_, rfl, by omega, by omega⟩
    · exact ⟨_, rfl, h1, by omega⟩
/-- The least travel time as Build takes it. -/
def tvl (φ : Nat) (x : zg) (a b : zl) : Int := ((z3c φ x a b).getD default).1
theorem y3s (φ : Nat) (hφ : 800000 < φ) (x : zg) (a b : zl) : z3c φ x a b = some (tvl φ x a b, ()) ∧ 0 ≤ tvl φ x a b ∧ tvl φ x a b ≤ 1073741825 := by
  obtain ⟨t, h, h1, h2⟩ := zyg φ hφ x a b
  unfold tvl
  rw [h]
  exact ⟨rfl, h1, h2⟩
def y0 : Nat → Ref := fun _ => (default : Ref)
def y1 (r : Ref) : Nat → Ref := upd (fun _ => (default : Ref)) 0 r
def y2 (r q : Ref) : Nat → Ref := upd (upd (fun _ => (default : Ref)) 0 r) 1 q
/-- Which readers are used. -/
def zus (m : List (Int × Int)) (e : z6) : List (Int × Int) := if 0 ≤ e.reader then mset m e.reader 0 else m
def zkn (m : List (Int × Int)) (t : List z6) : List (Int × Int) := t.foldl zus m
def used (ts : List (List z6)) : List (Int × Int) := ts.foldl zkn []
/-- What is built. -/
structure BS where
  v : Int
  b : List za
  y : List (Nat → Ref)
  e : List z0y
structure RS where
  v : Int
  m : List (Int × Int)
  b : List za
  y : List (Nat → Ref)
def zlf (rs : List z2l) (i : Nat) (s : RS) : RS :=
  if (mget s.m (i : Int)).isSome = true then ⟨s.v + 1, mset s.m (i : Int) s.v, s.b ++ [⟨0, s.v, 0 - (gt rs (i : Int)).low⟩, ⟨s.v, 0, (gt rs (i : Int)).high⟩], s.y ++ [y0, y0]⟩ else s
def rdsN (rs : List z2l) (m : List (Int × Int)) : Nat → RS
  | 0 => ⟨1, m, [], []⟩
  | n + 1 => zlf rs n (rdsN rs m n)
def rv (m : List (Int × Int)) (e : z6) : Int := (mget m e.reader).getD default
def evB (m : List (Int × Int)) (v : Int) (e : z6) : List za :=
  if e.reader < 0 then [⟨0, v, e.visit.early⟩, ⟨v, 0, 0 - e.visit.early⟩]
  else [⟨rv m e, v, e.visit.early⟩, ⟨v, rv m e, 0 - e.visit.early⟩, ⟨0, v, 1073741824⟩, ⟨v, 0, 0⟩]
def evY (e : z6) : List (Nat → Ref) := List.replicate (if e.reader < 0 then 2 else 4) (y1 e.visit.ref)
def trB (tv : zl → zl → Int) (v : Int) (pr : Option zl) (e : z6) : List za :=
  match pr with
  | none => []
  | some a => [⟨v, v - 1, 0 - tv a e.visit⟩]
def trY (pr : Option zl) (e : z6) : List (Nat → Ref) :=
  match pr with
  | none => []
  | some a => [y2 a.ref e.visit.ref]
def zk3 (tv : zl → zl → Int) (m : List (Int × Int)) (pr : Option zl) (e : z6) (s : BS) : BS :=
  ⟨s.v + 1, s.b ++ evB m s.v e ++ trB tv s.v pr e, s.y ++ evY e ++ trY pr e, s.e ++ [⟨e.visit.wagon, e.visit.place, s.v, e.visit.ref, e.visit.stay⟩]⟩
def bEv (tv : zl → zl → Int) (m : List (Int × Int)) : Option zl → List z6 → BS → BS
  | _, [], s => s
  | pr, e :: t, s => bEv tv m (some e.visit) t (zk3 tv m pr e s)
def bAll (tv : zl → zl → Int) (rs : List z2l) (ts : List (List z6)) : BS :=
  ts.foldl (fun s t => bEv tv (rdsN rs (used ts) rs.length).m none t s) ⟨(rdsN rs (used ts) rs.length).v, (rdsN rs (used ts) rs.length).b, (rdsN rs (used ts) rs.length).y, []⟩
def bEnd (s : BS) : zo × Int × Unit := if 512 < s.v ∨ 4096 < s.b.length then (⟨0, [], [], []⟩, 2, ()) else (⟨s.v, s.b, s.y, s.e⟩, 0, ())
def zj (p : Pool) (l : List zf) : List (List z6) := (List.range p.fleet.wagons.length).map fun (w : Nat) => z4n p l (w : Int)
theorem zaq (rs : List z2l) (m : List (Int × Int)) : ∀ n, 1 ≤ (rdsN rs m n).v ∧ (rdsN rs m n).v ≤ 1 + n ∧ (rdsN rs m n).b.length ≤ 2 * n ∧ (rdsN rs m n).y.length ≤ 2 * n
  | 0 => ⟨by simp [rdsN], by simp [rdsN], by simp [rdsN], by simp [rdsN]⟩
  | n + 1 => by
    obtain ⟨h1, h2, h3, h4⟩ := zaq rs m n
    simp only [rdsN, zlf]
    split
    · refine ⟨?_, ?_, ?_, ?_⟩ <;> simp <;> omega
    · refine ⟨?_, ?_, ?_, ?_⟩ <;> omega
theorem y7j (m : List (Int × Int)) (v : Int) (e : z6) : (evB m v e).length ≤ 4 := by
  unfold evB; split <;> simp
theorem y5m (e : z6) : (evY e).length ≤ 4 := by
  unfold evY; split <;> simp
theorem y7b (tv : zl → zl → Int) (v : Int) (pr : Option zl) (e : z6) : (trB tv v pr e).length ≤ 1 := by
  cases pr <;> simp [trB]
theorem y4o (pr : Option zl) (e : z6) : (trY pr e).length ≤ 1 := by
  cases pr <;> simp [trY]
/-- How much there is. -/
structure BB (n : Nat) (s : BS) : Prop where
  v0 : 1 ≤ s.v
  v1 : s.v ≤ 257 + n
  b : s.b.length ≤ 512 + 5 * n
  y : s.y.length ≤ 512 + 5 * n
  e : s.e.length ≤ n
theorem BB.step {n : Nat} {s : BS} (h : BB n s) (tv m pr e) : BB (n + 1) (zk3 tv m pr e s) := by
  have h1 := y7j m s.v e
  have h2 := y5m e
  have h3 := y7b tv s.v pr e
  have h4 := y4o pr e
  obtain ⟨a, b, c, d, f⟩ := h
  unfold zk3
  constructor
  · show 1 ≤ s.v + 1; omega
  · show s.v + 1 ≤ 257 + ((n + 1 : Nat) : Int); omega
  · show (s.b ++ evB m s.v e ++ trB tv s.v pr e).length ≤ _
    rw [List.length_append, List.length_append]; omega
  · show (s.y ++ evY e ++ trY pr e).length ≤ _
    rw [List.length_append, List.length_append]; omega
  · show (s.e ++ [_]).length ≤ _
    rw [List.length_append]; simp; omega
theorem BB.ev (tv m) : ∀ (t : List z6) (n : Nat) (pr : Option zl) (s : BS), BB n s → BB (n + t.length) (bEv tv m pr t s)
  | [], n, pr, s, h => h
  | e :: t, n, pr, s, h => by
    have := BB.ev tv m t (n + 1) (some e.visit) (zk3 tv m pr e s) (h.step tv m pr e)
    rw [show n + (e :: t).length = n + 1 + t.length by simp; omega]
    exact this
section
variable (φ : Nat)
/-- The two bounds of a reader. -/
theorem yb2 (hφ : 10 < φ) (k) (x55 x56 x57 x58 x59 x60 x61 x62 x63 x64 x65 x66 x67 x68) (B : List za) (x70 x71 x72 x73) (b : List za) (y : List (Nat → Ref)) (x76 x77 x78 x79) (hB : B.length ≤ 4) (hb : b.length ≤ 50000000) (hy : y.length ≤ 50000000) :
    z2n φ k φ (B.length : Int) 0 x55 x56 x57 x58 x59 x60 x61 x62 x63 x64 x65 x66 x67 x68 B x70 x71 x72 x73 b y x76 x77 x78 x79 = k x55 x56 x57 (W (x58 + 1)) x70 x71 (W (x67 + 1)) x72 x77 x78 x79 (b ++ B) (y ++ List.replicate B.length x68) x76 := by
  refine z04 (fun n i (s : List za × List (Nat → Ref)) => z2n φ k n (B.length : Int) i x55 x56 x57 x58 x59 x60 x61 x62 x63 x64 x65 x66 x67 x68 B x70 x71 x72 x73 s.1 s.2 x76 x77 x78 x79) B.length (fun i s => s.1 = b ++ B.take i ∧ s.2 = y ++ List.replicate i x68) (fun o => o = k x55 x56 x57 (W (x58 + 1)) x70 x71 (W (x67 + 1)) x72 x77 x78 x79 (b ++ B) (y ++ List.replicate B.length x68) x76) ?_ ?_ φ (b, y) ⟨by simp, by simp⟩ (by omega)
  · intro n i s hi ⟨h1, h2⟩ hs
    rw [z2n, if_pos (by simp; omega), z7 ⟨by omega, by omega⟩, z7 (zf4 (by rw [h1]; simp; omega) (by omega)), z7 (zf4 (by rw [h2]; simp; omega) (by omega)), W_id (by omega) (by omega)]
    exact hs (_, _) ⟨by rw [h1, z0l B i hi, List.append_assoc], by rw [h2, List.replicate_succ', List.append_assoc]⟩
  · intro n s ⟨h1, h2⟩
    rw [z2n, if_neg (by simp), h1, h2, List.take_length]
theorem y8q (hφ : 10 < φ) (k) (x137 x138 x139 x140 x141 x142 x143 x144 x145 x146 x147 x148 x149 x150 x151 x152 x153 x154 x155 x156 x157) (B : List za) (x159 x160 x161 x162 x163) (b : List za) (y : List (Nat → Ref)) (x166 x167 x168 x169) (hB : B.length ≤ 4) (hb : b.length ≤ 50000000) (hy : y.length ≤ 50000000) :
    z26 φ k φ (B.length : Int) 0 x137 x138 x139 x140 x141 x142 x143 x144 x145 x146 x147 x148 x149 x150 x151 x152 x153 x154 x155 x156 x157 B x159 x160 x161 x162 x163 b y x166 x167 x168 x169 = k x137 x138 x139 x140 x141 x142 (W (x143 + 1)) x159 x160 x156 x161 x167 x168 x169 (b ++ B) (y ++ List.replicate B.length x157) x166 := by
  refine z04 (fun n i (s : List za × List (Nat → Ref)) => z26 φ k n (B.length : Int) i x137 x138 x139 x140 x141 x142 x143 x144 x145 x146 x147 x148 x149 x150 x151 x152 x153 x154 x155 x156 x157 B x159 x160 x161 x162 x163 s.1 s.2 x166 x167 x168 x169) B.length (fun i s => s.1 = b ++ B.take i ∧ s.2 = y ++ List.replicate i x157) (fun o => o = k x137 x138 x139 x140 x141 x142 (W (x143 + 1)) x159 x160 x156 x161 x167 x168 x169 (b ++ B) (y ++ List.replicate B.length x157) x166) ?_ ?_ φ (b, y) ⟨by simp, by simp⟩ (by omega)
  · intro n i s hi ⟨h1, h2⟩ hs
    rw [z26, if_pos (by simp; omega), z7 ⟨by omega, by omega⟩, z7 (zf4 (by rw [h1]; simp; omega) (by omega)), z7 (zf4 (by rw [h2]; simp; omega) (by omega)), W_id (by omega) (by omega)]
    exact hs (_, _) ⟨by rw [h1, z0l B i hi, List.append_assoc], by rw [h2, List.replicate_succ', List.append_assoc]⟩
  · intro n s ⟨h1, h2⟩
    rw [z26, if_neg (by simp), h1, h2, List.take_length]
theorem y8y (hφ : 10 < φ) (k) (x173 x174 x175 x176 x177 x178 x179 x180 x181 x182 x183) (B : List za) (x185 x186 x187 x188) (b : List za) (y : List (Nat → Ref)) (x191 x192 x193 x194) (hB : B.length ≤ 4) (hb : b.length ≤ 50000000) (hy : y.length ≤ 50000000) :
    z24 φ k φ (B.length : Int) 0 x173 x174 x175 x176 x177 x178 x179 x180 x181 x182 x183 B x185 x186 x187 x188 b y x191 x192 x193 x194 = z0z φ k x173 x174 x175 x176 x177 x178 x179 x180 x181 x185 x186 x182 x187 x188 x192 x193 x194 (b ++ B) (y ++ List.replicate B.length x183) x191 := by
  refine z04 (fun n i (s : List za × List (Nat → Ref)) => z24 φ k n (B.length : Int) i x173 x174 x175 x176 x177 x178 x179 x180 x181 x182 x183 B x185 x186 x187 x188 s.1 s.2 x191 x192 x193 x194) B.length (fun i s => s.1 = b ++ B.take i ∧ s.2 = y ++ List.replicate i x183) (fun o => o = z0z φ k x173 x174 x175 x176 x177 x178 x179 x180 x181 x185 x186 x182 x187 x188 x192 x193 x194 (b ++ B) (y ++ List.replicate B.length x183) x191) ?_ ?_ φ (b, y) ⟨by simp, by simp⟩ (by omega)
  · intro n i s hi ⟨h1, h2⟩ hs
    rw [z24, if_pos (by simp; omega), z7 ⟨by omega, by omega⟩, z7 (zf4 (by rw [h1]; simp; omega) (by omega)), z7 (zf4 (by rw [h2]; simp; omega) (by omega)), W_id (by omega) (by omega)]
    exact hs (_, _) ⟨by rw [h1, z0l B i hi, List.append_assoc], by rw [h2, List.replicate_succ', List.append_assoc]⟩
  · intro n s ⟨h1, h2⟩
    rw [z24, if_neg (by simp), h1, h2, List.take_length]
theorem y9f (hφ : 10 < φ) (k) (x173 x174 x175 x176 x177 x178 x179 x180 x181 x182 x183) (B : List za) (x185 x186 x187 x188) (b : List za) (y : List (Nat → Ref)) (x191 x192 x193 x194) (hB : B.length ≤ 4) (hb : b.length ≤ 50000000) (hy : y.length ≤ 50000000) :
    z29 φ k φ (B.length : Int) 0 x173 x174 x175 x176 x177 x178 x179 x180 x181 x182 x183 B x185 x186 x187 x188 b y x191 x192 x193 x194 = z0z φ k x173 x174 x175 x176 x177 x178 x179 x180 x181 x185 x186 x182 x187 x188 x192 x193 x194 (b ++ B) (y ++ List.replicate B.length x183) x191 := by
  refine z04 (fun n i (s : List za × List (Nat → Ref)) => z29 φ k n (B.length : Int) i x173 x174 x175 x176 x177 x178 x179 x180 x181 x182 x183 B x185 x186 x187 x188 s.1 s.2 x191 x192 x193 x194) B.length (fun i s => s.1 = b ++ B.take i ∧ s.2 = y ++ List.replicate i x183) (fun o => o = z0z φ k x173 x174 x175 x176 x177 x178 x179 x180 x181 x185 x186 x182 x187 x188 x192 x193 x194 (b ++ B) (y ++ List.replicate B.length x183) x191) ?_ ?_ φ (b, y) ⟨by simp, by simp⟩ (by omega)
  · intro n i s hi ⟨h1, h2⟩ hs
    rw [z29, if_pos (by simp; omega), z7 ⟨by omega, by omega⟩, z7 (zf4 (by rw [h1]; simp; omega) (by omega)), z7 (zf4 (by rw [h2]; simp; omega) (by omega)), W_id (by omega) (by omega)]
    exact hs (_, _) ⟨by rw [h1, z0l B i hi, List.append_assoc], by rw [h2, List.replicate_succ', List.append_assoc]⟩
  · intro n s ⟨h1, h2⟩
    rw [z29, if_neg (by simp), h1, h2, List.take_length]
/-- The travel zbl and what follows it. -/
theorem zya (hφ : 800000 < φ) (k) (T : List z6) (n : Nat) (hn : n < T.length) (x115 x116 x117 x118 x119 x120) (x122 : Pool) (x123 : Int) (x125 : List (Int × Int)) (e : z6) (pr : Option zl) (hpr : pr = if 0 < n then some (gt T ((n : Int) - 1)).visit else none) (x127 x128 x129) (b : List za) (y : List (Nat → Ref)) (x132) (hb : b.length ≤ 50000000) (hy : y.length ≤ 50000000) (h15 : 0 ≤ x115 ∧ x115 ≤ 100000000) (hT : n ≤ 100000000) :
    z0z φ k T (n : Int) x115 x116 x117 x118 x119 x120 (n : Int) x122 x123 (x115 + 1) x125 e x127 x128 x129 b y x132 =
      k T x116 x117 x118 x119 x120 ((n + 1 : Nat) : Int) x122 x123 (x115 + 1) x125 x127 x128 x129 (b ++ trB (tvl φ x122.network) x115 pr e) (y ++ trY pr e) x132 := by
  have hW : W ((n : Int) + 1) = ((n + 1 : Nat) : Int) := by rw [W_id (by omega) (by omega)]; omega
  unfold z0z
  by_cases h : 0 < n
  · obtain ⟨ht, t1, t2⟩ := y3s φ hφ x122.network (gt T ((n : Int) - 1)).visit e.visit
    rw [if_pos (by simp; omega), W_id (x := (n : Int) - 1) (by omega) (by omega), z7 ⟨by omega, by omega⟩, ht, Option.bind_some, W_id (x := x115 - 1) (by omega) (by omega)]
    rw [hpr, if_pos h]
    simp only [trB, trY]
    generalize tvl φ x122.network (gt T ((n : Int) - 1)).visit e.visit = tt at *
    rw [W_id (x := 0 - tt) (by omega) (by omega)]
    refine (y8q φ (by omega) k T x116 x117 x118 x119 x120 (n : Int) _ _ _ _ _ _ _ _ _ _ _ _ _ _ ([⟨x115, x115 - 1, 0 - tt⟩] : List za) x122 x123 x125 _ _ b y x132 x127 x128 x129 (by simp) hb hy).trans ?_
    rw [hW]
    rfl
  · rw [if_neg (by simp; omega), hW, hpr, if_neg h]
    simp only [trB, trY, List.append_nil]
/-- One z4n. -/
theorem zuv (hφ : 800000 < φ) (k) (x96 x97 x98) (T : List z6) (hE : ∀ e ∈ T, 0 ≤ e.visit.early ∧ e.visit.early ≤ 1073741824) (x102 : Pool) (x103 : Int) (m : List (Int × Int)) (g1 g2 g3) (hT : T.length ≤ 2000) :
    ∀ (n i N : Nat) (s : BS), T.length < n + i → i ≤ T.length → BB N s → N ≤ 8300000 + i →
      z0d φ k n T x96 x97 x98 T (T.length : Int) (i : Int) x102 x103 s.v m g1 g2 g3 s.b s.y s.e =
        (fun s' : BS => k x96 x97 (W (x98 + 1)) x102 x103 s'.v m g1 g2 g3 s'.b s'.y s'.e) (bEv (tvl φ x102.network) m (if 0 < i then some (gt T ((i : Int) - 1)).visit else none) (T.drop i) s) := by
  intro n
  induction n with
  | zero => intro i N s h1 h2; exfalso; omega
  | succ n ih =>
    intro i N s h1 h2 hB hN
    obtain ⟨v0, v1, b1, b2, b3⟩ := hB
    by_cases hi : i < T.length
    · obtain ⟨e0, e1⟩ := hE _ (z1g (l := T) (i := (i : Int)) (by omega) (by omega))
      have hWv : W (s.v + 1) = s.v + 1 := W_id (by omega) (by omega)
      have hWe : W (0 - (gt T (i : Int)).visit.early) = 0 - (gt T (i : Int)).visit.early := W_id (by omega) (by omega)
      have hnext := ih (i + 1) (N + 1) (zk3 (tvl φ x102.network) m (if 0 < i then some (gt T ((i : Int) - 1)).visit else none) (gt T (i : Int)) s) (by omega) (by omega) (BB.step ⟨v0, v1, b1, b2, b3⟩ _ _ _ _) (by omega)
      rw [if_pos (show 0 < i + 1 by omega), show ((i + 1 : Nat) : Int) - 1 = (i : Int) by omega] at hnext
      rw [zz2 T i hi]
      refine Eq.trans ?_ hnext
      rw [z0d, if_pos (by simp; omega), z7 ⟨by omega, by omega⟩, z7 (zf4 (by simp; omega) (by omega)), hWv, hWe]
      by_cases hr : (gt T (i : Int)).reader < 0
      · rw [if_pos (by simpa using hr)]
        refine (y8y φ (by omega) (z0d φ k n) T (i : Int) s.v x96 x97 x98 T (T.length : Int) (i : Int) (s.v + 1) (y1 (gt T (i : Int)).visit.ref) ([⟨0, s.v, (gt T (i : Int)).visit.early⟩, ⟨s.v, 0, 0 - (gt T (i : Int)).visit.early⟩] : List za) x102 x103 m (gt T (i : Int)) s.b s.y _ g1 g2 g3 (by simp) (by omega) (by omega)).trans ?_
        refine (zya φ hφ (z0d φ k n) T i hi s.v x96 x97 x98 T (T.length : Int) x102 x103 m (gt T (i : Int)) _ rfl g1 g2 g3 _ _ _ (by simp; omega) (by simp; omega) ⟨by omega, by omega⟩ (by omega)).trans ?_
        simp only [zk3, evB, evY, if_pos hr]
        rfl
      · rw [if_neg (by simpa using hr)]
        refine (y9f φ (by omega) (z0d φ k n) T (i : Int) s.v x96 x97 x98 T (T.length : Int) (i : Int) (s.v + 1) (y1 (gt T (i : Int)).visit.ref) ([⟨rv m (gt T (i : Int)), s.v, (gt T (i : Int)).visit.early⟩, ⟨s.v, rv m (gt T (i : Int)), 0 - (gt T (i : Int)).visit.early⟩, ⟨0, s.v, 1073741824⟩, ⟨s.v, 0, 0⟩] : List za) x102 x103 m (gt T (i : Int)) s.b s.y _ g1 g2 g3 (by simp) (by omega) (by omega)).trans ?_
        refine (zya φ hφ (z0d φ k n) T i hi s.v x96 x97 x98 T (T.length : Int) x102 x103 m (gt T (i : Int)) _ rfl g1 g2 g3 _ _ _ (by simp; omega) (by simp; omega) ⟨by omega, by omega⟩ (by omega)).trans ?_
        simp only [zk3, evB, evY, if_neg hr]
        rfl
    · have : i = T.length := by omega
      subst this
      rw [z0d, if_neg (by simp), List.drop_length]
      rfl
/-- All tracks. -/
theorem zrs (hφ : 800000 < φ) (ts : List (List z6)) (hE : ∀ T ∈ ts, T.length ≤ 2000 ∧ ∀ e ∈ T, 0 ≤ e.visit.early ∧ e.visit.early ≤ 1073741824) (hts : ts.length ≤ 4096) (x84 : Pool) (x85 : Int) (m : List (Int × Int)) (g1 g2 g3) (s : BS) (hs : BB 0 s) :
    z1s φ φ ts (ts.length : Int) 0 x84 x85 s.v m g1 g2 g3 s.b s.y s.e = some (bEnd (ts.foldl (fun s t => bEv (tvl φ x84.network) m none t s) s)) := by
  refine z04 (fun n i (s : BS) => z1s φ n ts (ts.length : Int) i x84 x85 s.v m g1 g2 g3 s.b s.y s.e) ts.length (fun i s' => BB (2000 * i) s' ∧ s' = (ts.take i).foldl (fun s t => bEv (tvl φ x84.network) m none t s) s) (fun o => o = some (bEnd (ts.foldl (fun s t => bEv (tvl φ x84.network) m none t s) s))) ?_ ?_ φ s ⟨hs, rfl⟩ (by omega)
  · intro n i s' hi ⟨h1, h2⟩ hk
    obtain ⟨q1, q2⟩ := hE _ (z1g (l := ts) (i := (i : Int)) (by omega) (by omega))
    rw [z1s, if_pos (by simp; omega), z7 ⟨by omega, by omega⟩]
    have := zuv φ hφ (z1s φ n) ts (ts.length : Int) (i : Int) (gt ts (i : Int)) q2 x84 x85 m g1 g2 g3 q1 φ 0 (2000 * i) s' (by omega) (by omega) h1 (by omega)
    refine this.trans ?_
    simp only [W_id (x := (i : Int) + 1) (by omega) (by omega), List.drop_zero]
    rw [if_neg (by omega)]
    refine hk _ ⟨?_, ?_⟩
    · have := BB.ev (tvl φ x84.network) m (gt ts (i : Int)) (2000 * i) none s' h1
      obtain ⟨a, b, c, d, f⟩ := this
      exact ⟨a, by omega, by omega, by omega, by omega⟩
    · rw [z0l ts i hi, List.foldl_append, ← h2]; rfl
  · intro n s' ⟨h1, h2⟩
    rw [List.take_length] at h2
    rw [z1s, if_neg (by simp), ← h2]
    unfold bEnd
    by_cases h : 512 < s'.v ∨ 4096 < s'.b.length
    · rw [if_pos (by simp; omega), if_pos h]
    · rw [if_neg (by simp; omega), if_neg h]
/-- The readers. -/
theorem zpn (hφ : 800000 < φ) (ts : List (List z6)) (hE : ∀ T ∈ ts, T.length ≤ 2000 ∧ ∀ e ∈ T, 0 ≤ e.visit.early ∧ e.visit.early ≤ 1073741824) (hts : ts.length ≤ 4096) (p : Pool) (hp : p.readers.length ≤ 256) (hr : ∀ r ∈ p.readers, -1000 ≤ r.low ∧ r.low ≤ 1000) (x43 : Int) (m : List (Int × Int)) (g1 g2) :
    z1c φ φ ts p.readers (p.readers.length : Int) 0 p x43 1 m g1 g2 [] [] [] [] = some (bEnd (ts.foldl (fun s t => bEv (tvl φ p.network) (rdsN p.readers m p.readers.length).m none t s) ⟨(rdsN p.readers m p.readers.length).v, (rdsN p.readers m p.readers.length).b, (rdsN p.readers m p.readers.length).y, []⟩)) := by
  refine z04 (fun n i (s : RS) => z1c φ n ts p.readers (p.readers.length : Int) i p x43 s.v s.m g1 g2 [] s.b s.y []) p.readers.length (fun i s => s = rdsN p.readers m i) (fun o => o = _) ?_ ?_ φ ⟨1, m, [], []⟩ rfl (by omega)
  · intro n i s hi hs hk
    obtain ⟨a1, a2, a3, a4⟩ := zaq p.readers m i
    rw [← hs] at a1 a2 a3 a4
    obtain ⟨r1, r2⟩ := hr _ (z1g (l := p.readers) (i := (i : Int)) (by omega) (by omega))
    have hk' := hk (rdsN p.readers m (i + 1)) rfl
    simp only [rdsN, zlf] at hk'
    rw [← hs] at hk'
    have hW : W ((i : Int) + 1) = (i : Int) + 1 := W_id (by omega) (by omega)
    rw [z1c, if_pos (by simp; omega), z7 ⟨by omega, by omega⟩]
    by_cases h : (mget s.m (i : Int)).isSome = true
    · rw [if_pos h] at hk' ⊢
      have hWl : W (0 - (gt p.readers (i : Int)).low) = 0 - (gt p.readers (i : Int)).low := W_id (by omega) (by omega)
      rw [hWl]
      refine (yb2 φ (by omega) (z1c φ n) ts p.readers (p.readers.length : Int) (i : Int) _ _ _ _ _ _ _ _ _ _ ([⟨0, s.v, 0 - (gt p.readers (i : Int)).low⟩, ⟨s.v, 0, (gt p.readers (i : Int)).high⟩] : List za) p x43 (mset s.m (i : Int) s.v) _ s.b s.y [] g1 g2 [] (by simp) (by omega) (by omega)).trans ?_
      rw [hW, W_id (x := s.v + 1) (by omega) (by omega)]
      exact hk'
    · rw [if_neg h] at hk' ⊢
      rw [hW]
      exact hk'
  · intro n s hs
    rw [z1c, if_neg (by simp), ← hs]
    obtain ⟨a1, a2, a3, a4⟩ := zaq p.readers m p.readers.length
    rw [← hs] at a1 a2 a3 a4
    exact zrs φ hφ ts hE hts p x43 s.m g1 g2 [] ⟨s.v, s.b, s.y, []⟩ ⟨a1, by show s.v ≤ _; omega, by show s.b.length ≤ _; omega, by show s.y.length ≤ _; omega, by simp⟩
/-- One track's readers. -/
theorem zx7 (k) (x20 x21 x22 x23) (T : List z6) (hT : T.length ≤ 2000) (hφ : 800000 < φ) (x27 x28 x29 x30 x31 x32 x33 x34 x35 x36) :
    z1u φ k φ x20 x21 x22 x23 T (T.length : Int) 0 x27 x28 x29 x30 x31 x32 x33 x34 x35 x36 = k x20 x21 x22 (W (x23 + 1)) x27 x28 x29 (zkn x30 T) x31 x32 x33 x34 x35 x36 := by
  refine z04 (fun n i (m : List (Int × Int)) => z1u φ k n x20 x21 x22 x23 T (T.length : Int) i x27 x28 x29 m x31 x32 x33 x34 x35 x36) T.length (fun i m => m = zkn x30 (T.take i)) (fun o => o = _) ?_ ?_ φ x30 rfl (by omega)
  · intro n i m hi hm hk
    have hk' := hk (zkn x30 (T.take (i + 1))) rfl
    rw [z0l T i hi] at hk'
    simp only [zkn, List.foldl_append, List.foldl_cons, List.foldl_nil] at hk' hm
    rw [← hm] at hk'
    rw [z1u, if_pos (by simp; omega), z7 ⟨by omega, by omega⟩, W_id (by omega) (by omega)]
    unfold zus at hk'
    by_cases h : 0 ≤ (gt T (i : Int)).reader
    · rw [if_pos h] at hk'
      rw [if_pos (by simpa using h)]
      exact hk'
    · rw [if_neg h] at hk'
      rw [if_neg (by simpa using h)]
      exact hk'
  · intro n m hm
    rw [List.take_length] at hm
    rw [z1u, if_neg (by simp), hm]
theorem zwm {p : Pool} {r : zf} (h : znk p r.item) {i : Int} {x : z6} (hx : x ∈ evs p r i) : 0 ≤ x.visit.early ∧ x.visit.early ≤ 1073741824 := by
  have hf := h.from_
  have ht := h.to
  unfold evs at hx
  split at hx
  · simp only [List.mem_singleton] at hx; subst hx
    simp only [z6l]; omega
  · split at hx
    · simp only [List.mem_cons, List.not_mem_nil, or_false] at hx
      rcases hx with rfl | rfl <;> simp only [z6l] <;> omega
    · split at hx
      · simp only [List.mem_singleton] at hx; subst hx
        simp only [z6l]; omega
      · cases hx
theorem zo5 : ∀ {t : List z6} {m : List (Int × Bool)} {x : z6}, x ∈ zmp t m → ∃ y ∈ t, ∃ b, x = zgb y b
  | [], m, x, h => by cases h
  | e :: t, m, x, h => by
    rcases List.mem_cons.1 h with rfl | h
    · exact ⟨e, List.mem_cons_self, _, rfl⟩
    · obtain ⟨y, hy, b, hb⟩ := zo5 h
      exact ⟨y, List.mem_cons_of_mem _ hy, b, hb⟩
theorem zfp {p : Pool} {l : List zf} {w : Int} {x : z6} (h : x ∈ z4n p l w) : ∃ y ∈ uns p l w, ∃ b, x = zgb y b := by
  obtain ⟨y, hy, b, hb⟩ := zo5 h
  exact ⟨y, (z37 _ _).mem_iff.1 hy, b, hb⟩
theorem znr {p : Pool} (hc : z0b p = 0) {l : List zf} (hl : FewL l) {w : Int} {x : z6} (h : x ∈ z4n p l w) : 0 ≤ x.visit.early ∧ x.visit.early ≤ 1073741824 := by
  obtain ⟨y, hy, b, rfl⟩ := zfp h
  obtain ⟨h1, h2, _, h3, h4⟩ := znw hl.len hy
  show 0 ≤ y.visit.early ∧ y.visit.early ≤ 1073741824
  exact zwm (zf2 hc (hl.gt h1 h2) h3) h4
/-- What Build answers. -/
theorem zt1 (hφ : 800000 < φ) (p : Pool) {l : List zf} (hl : FewL l) :
    z99 φ p l = some (if z0b p = 0 then bEnd (bAll (tvl φ p.network) p.readers (zj p l)) else (⟨0, [], [], []⟩, z0b p, ())) := by
  unfold z99
  rw [z6i φ hφ, Option.bind_some]
  by_cases hc : z0b p = 0
  case neg => rw [if_pos (by simpa using hc), if_neg hc]
  rw [if_neg (by simp [hc]), if_pos hc, zw2 φ hφ hc hl, Option.bind_some]
  obtain ⟨_, hf, hr1, _⟩ := z7b hc
  obtain ⟨_, f2, _⟩ := z9g hf
  have hrd := (zgk hc).1
  show z1t φ φ (zj p l) (zj p l) ((zj p l).length : Int) 0 p 0 1 [] [] [] [] [] [] [] = _
  have hlen : (zj p l).length ≤ 4096 := by unfold zj; simp; omega
  have hE : ∀ T ∈ zj p l, T.length ≤ 2000 ∧ ∀ e ∈ T, 0 ≤ e.visit.early ∧ e.visit.early ≤ 1073741824 := by
    intro T hT
    unfold zj at hT
    obtain ⟨w, _, rfl⟩ := List.mem_map.1 hT
    exact ⟨zyh hl.len _, fun e he => znr hc hl he⟩
  generalize zj p l = ts at *
  refine z04 (fun n i (m : List (Int × Int)) => z1t φ n ts ts (ts.length : Int) i p 0 1 m [] [] [] [] [] []) ts.length (fun i m => m = (ts.take i).foldl zkn []) (fun o => o = some (bEnd (bAll (tvl φ p.network) p.readers ts))) ?_ ?_ φ [] rfl (by omega)
  · intro n i m hi hm hk
    rw [z1t, if_pos (by simp; omega), z7 ⟨by omega, by omega⟩]
    rw [zx7 φ (z1t φ n) ts ts (ts.length : Int) (i : Int) (gt ts (i : Int)) (hE _ (z1g (by omega) (by omega))).1 hφ, W_id (by omega) (by omega)]
    exact hk _ (by rw [z0l ts i hi, List.foldl_append, ← hm]; rfl)
  · intro n m hm
    rw [List.take_length] at hm
    rw [z1t, if_neg (by simp)]
    refine (zpn φ hφ ts hE hlen p hr1 (fun r hr => ?_) 0 m [] []).trans ?_
    · have := hrd r hr; omega
    · rw [hm]; rfl
end
end Px
end
section
namespace Px
open Go
set_option linter.unusedVariables false
set_option linter.unusedSimpArgs false
/-- The first report with a Ref. -/
def idx : List zf → Ref → Int
  | [], _ => 0
  | r :: l, q => if r.ref.railway = q.railway ∧ r.ref.no = q.no then 0 else idx l q + 1
end Px
end
section
namespace Px
open Go
set_option linter.unusedVariables false
set_option linter.unusedSimpArgs false
def evE (v : Int) (e : z6) : z0y := ⟨e.visit.wagon, e.visit.place, v, e.visit.ref, e.visit.stay⟩
def evsE : Int → List z6 → List z0y
  | _, [] => []
  | v, e :: t => evE v e :: evsE (v + 1) t
def bnds (tv : zl → zl → Int) (m : List (Int × Int)) : Option zl → Int → List z6 → List za
  | _, _, [] => []
  | pr, v, e :: t => evB m v e ++ trB tv v pr e ++ bnds tv m (some e.visit) (v + 1) t
theorem zwc (tv m) : ∀ (t : List z6) (pr) (s : BS), (bEv tv m pr t s).v = s.v + t.length
  | [], pr, s => by simp [bEv]
  | e :: t, pr, s => by
    rw [bEv, zwc tv m t]
    simp only [zk3, List.length_cons]; omega
theorem y2n (tv m) : ∀ (t : List z6) (pr) (s : BS), (bEv tv m pr t s).b = s.b ++ bnds tv m pr s.v t
  | [], pr, s => by simp [bEv, bnds]
  | e :: t, pr, s => by
    rw [bEv, y2n tv m t]
    simp only [zk3, bnds, List.append_assoc]
theorem zq6 (tv m) : ∀ (t : List z6) (pr) (s : BS), (bEv tv m pr t s).e = s.e ++ evsE s.v t
  | [], pr, s => by simp [bEv, evsE]
  | e :: t, pr, s => by
    rw [bEv, zq6 tv m t]
    simp only [zk3, evsE, evE, List.append_assoc, List.cons_append, List.nil_append]
theorem zlj : ∀ (t : List z6) (v : Int), (evsE v t).length = t.length
  | [], v => rfl
  | e :: t, v => by simp [evsE, zlj t]
theorem zh1 : ∀ (t : List z6) (v : Int) (i : Nat), (evsE v t)[i]? = (t[i]?).map (evE (v + i))
  | [], v, i => by simp [evsE]
  | e :: t, v, 0 => by simp [evsE]
  | e :: t, v, i + 1 => by
    simp only [evsE, List.getElem?_cons_succ]
    rw [zh1 t (v + 1) i]
    congr 2; omega
/-- The bounds of the event i of a z4n, and the one that leads to it. -/
theorem zmj (tv m) : ∀ (t : List z6) (pr) (v : Int) (i : Nat) (e : z6), t[i]? = some e → ∀ b ∈ evB m (v + i) e, b ∈ bnds tv m pr v t
  | [], pr, v, i, e, h, b, hb => by simp at h
  | x :: t, pr, v, 0, e, h, b, hb => by
    simp at h; subst h
    rw [show v + ((0 : Nat) : Int) = v by omega] at hb
    simp only [bnds]
    exact List.mem_append_left _ (List.mem_append_left _ hb)
  | x :: t, pr, v, i + 1, e, h, b, hb => by
    simp only [bnds]
    refine List.mem_append_right _ (zmj tv m t _ (v + 1) i e (by simpa using h) b ?_)
    rw [show v + 1 + (i : Int) = v + ((i + 1 : Nat) : Int) by omega]; exact hb
theorem zz8 (tv m) : ∀ (t : List z6) (pr) (v : Int) (i : Nat) (a e : z6), t[i]? = some a → t[i + 1]? = some e → (⟨v + i + 1, v + i, 0 - tv a.visit e.visit⟩ : za) ∈ bnds tv m pr v t
  | [], pr, v, i, a, e, h, _ => by simp at h
  | [x], pr, v, 0, a, e, h, h2 => by simp at h2
  | x :: y :: t, pr, v, 0, a, e, h, h2 => by
    simp at h h2; subst h; subst h2
    simp only [bnds, trB]
    refine List.mem_append_right _ (List.mem_append_left _ (List.mem_append_right _ (List.mem_singleton.2 ?_)))
    simp
  | x :: t, pr, v, i + 1, a, e, h, h2 => by
    have := zz8 tv m t (some x.visit) (v + 1) i a e (by simpa using h) (by simpa using h2)
    simp only [bnds]
    refine List.mem_append_right _ ?_
    rw [show v + ((i + 1 : Nat) : Int) + 1 = v + 1 + (i : Int) + 1 by omega, show v + ((i + 1 : Nat) : Int) = v + 1 + (i : Int) by omega]
    exact this
theorem zkx (tv m) : ∀ (t : List z6) (pr) (v : Int) (b : za), b ∈ bnds tv m pr v t → ∃ i : Nat, ∃ e : z6, t[i]? = some e ∧ (b ∈ evB m (v + i) e ∨ ∃ a : zl, (0 < i ∨ pr.isSome = true) ∧ b = ⟨v + i, v + i - 1, 0 - tv a e.visit⟩)
  | [], pr, v, b, h => by simp [bnds] at h
  | x :: t, pr, v, b, h => by
    simp only [bnds, List.mem_append] at h
    rcases h with (h | h) | h
    · exact ⟨0, x, rfl, .inl (by rw [show v + ((0 : Nat) : Int) = v by omega]; exact h)⟩
    · cases pr with
      | none => simp [trB] at h
      | some a =>
        simp only [trB, List.mem_singleton] at h
        exact ⟨0, x, rfl, .inr ⟨a, .inr rfl, by rw [h]; simp⟩⟩
    · obtain ⟨i, e, hi, hb⟩ := zkx tv m t _ _ b h
      refine ⟨i + 1, e, by simpa using hi, ?_⟩
      rw [show v + ((i + 1 : Nat) : Int) = v + 1 + (i : Int) by omega]
      rcases hb with hb | ⟨a, _, hb⟩
      · exact .inl hb
      · exact .inr ⟨a, .inl (by omega), hb⟩
def fB (tv : zl → zl → Int) (m : List (Int × Int)) (ts : List (List z6)) (s : BS) : BS := ts.foldl (fun s t => bEv tv m none t s) s
theorem y3e (tv m) (A B : List (List z6)) (s : BS) : fB tv m (A ++ B) s = fB tv m B (fB tv m A s) := List.foldl_append ..
theorem zga (tv m) : ∀ (ts : List (List z6)) (s : BS), s.v ≤ (fB tv m ts s).v ∧ (∃ b, (fB tv m ts s).b = s.b ++ b) ∧ ∃ e, (fB tv m ts s).e = s.e ++ e
  | [], s => ⟨Int.le_refl _, ⟨[], by simp [fB]⟩, [], by simp [fB]⟩
  | t :: ts, s => by
    obtain ⟨h1, ⟨b, h2⟩, e, h3⟩ := zga tv m ts (bEv tv m none t s)
    have e1 : fB tv m (t :: ts) s = fB tv m ts (bEv tv m none t s) := rfl
    rw [e1]
    rw [zwc] at h1
    rw [y2n] at h2
    rw [zq6] at h3
    exact ⟨by omega, ⟨_, by rw [h2, List.append_assoc]⟩, _, by rw [h3, List.append_assoc]⟩
/-- A z4n within the whole: its first variable, its bounds, its events. -/
theorem zmm (tv m) (A B : List (List z6)) (t : List z6) (s : BS) : s.v ≤ (fB tv m A s).v ∧ (fB tv m A s).v + t.length ≤ (fB tv m (A ++ t :: B) s).v ∧
    (∀ b ∈ bnds tv m none (fB tv m A s).v t, b ∈ (fB tv m (A ++ t :: B) s).b) ∧ ∃ e, (fB tv m (A ++ t :: B) s).e = (fB tv m A s).e ++ (evsE (fB tv m A s).v t ++ e) := by
  have e1 : fB tv m (A ++ t :: B) s = fB tv m B (bEv tv m none t (fB tv m A s)) := by rw [y3e]; rfl
  obtain ⟨h1, ⟨b, h2⟩, e, h3⟩ := zga tv m B (bEv tv m none t (fB tv m A s))
  rw [e1]
  rw [zwc] at h1
  rw [y2n] at h2
  rw [zq6] at h3
  refine ⟨(zga tv m A s).1, h1, fun x hx => ?_, e, by rw [h3, List.append_assoc]⟩
  rw [h2]
  exact List.mem_append_left _ (List.mem_append_right _ hx)
theorem zy5 (tv m) : ∀ (ts : List (List z6)) (s : BS) (b : za), b ∈ (fB tv m ts s).b → b ∈ s.b ∨ ∃ A t B, ts = A ++ t :: B ∧ b ∈ bnds tv m none (fB tv m A s).v t
  | [], s, b, h => .inl h
  | t :: ts, s, b, h => by
    have e1 : fB tv m (t :: ts) s = fB tv m ts (bEv tv m none t s) := rfl
    rw [e1] at h
    rcases zy5 tv m ts _ b h with h2 | ⟨A, t', B, e2, h2⟩
    · rw [y2n] at h2
      rcases List.mem_append.1 h2 with h2 | h2
      · exact .inl h2
      · exact .inr ⟨[], t, ts, rfl, h2⟩
    · exact .inr ⟨t :: A, t', B, by rw [e2]; rfl, h2⟩
theorem zqm (tv m) : ∀ (ts : List (List z6)) (s : BS) (x : z0y), x ∈ (fB tv m ts s).e → x ∈ s.e ∨ ∃ A t B, ts = A ++ t :: B ∧ x ∈ evsE (fB tv m A s).v t
  | [], s, b, h => .inl h
  | t :: ts, s, b, h => by
    have e1 : fB tv m (t :: ts) s = fB tv m ts (bEv tv m none t s) := rfl
    rw [e1] at h
    rcases zqm tv m ts _ b h with h2 | ⟨A, t', B, e2, h2⟩
    · rw [zq6] at h2
      rcases List.mem_append.1 h2 with h2 | h2
      · exact .inl h2
      · exact .inr ⟨[], t, ts, rfl, h2⟩
    · exact .inr ⟨t :: A, t', B, by rw [e2]; rfl, h2⟩
/-- The variables of the readers. -/
theorem zti (rs : List z2l) (m : List (Int × Int)) : ∀ n : Nat, (∀ i : Nat, i < n → (mget m (i : Int)).isSome = true → ∃ v, mget (rdsN rs m n).m (i : Int) = some v ∧ 1 ≤ v ∧ v < (rdsN rs m n).v) ∧ ∀ k : Int, (n : Int) ≤ k → mget (rdsN rs m n).m k = mget m k
  | 0 => ⟨fun i h => by omega, fun k _ => rfl⟩
  | n + 1 => by
    obtain ⟨h1, h2⟩ := zti rs m n
    have hv := (zaq rs m n).1
    have h3 := h2 (n : Int) (Int.le_refl _)
    simp only [rdsN, zlf]
    split
    · rename_i hs
      refine ⟨fun i hi hm => ?_, fun k hk => ?_⟩
      · simp only [zeq]
        by_cases e : i = n
        · subst e; exact ⟨_, if_pos rfl, hv, by omega⟩
        · obtain ⟨v, q1, q2, q3⟩ := h1 i (by omega) hm
          exact ⟨v, by rw [if_neg (by omega)]; exact q1, q2, by omega⟩
      · simp only [zeq]
        rw [if_neg (by omega)]; exact h2 k (by omega)
    · rename_i hs
      refine ⟨fun i hi hm => ?_, fun k hk => h2 k (by omega)⟩
      by_cases e : i = n
      · subst e; rw [h3] at hs; exact absurd hm hs
      · exact h1 i (by omega) hm
theorem zuw {m : List (Int × Int)} {e : z6} {k : Int} (h : (mget m k).isSome = true) : (mget (zus m e) k).isSome = true := by
  unfold zus
  split
  · rw [zeq]; split
    · rfl
    · exact h
  · exact h
theorem zfw : ∀ (t : List z6) {m : List (Int × Int)} {k : Int}, (mget m k).isSome = true → (mget (zkn m t) k).isSome = true
  | [], m, k, h => h
  | e :: t, m, k, h => zfw t (zuw h)
theorem zp9 : ∀ (t : List z6) (m : List (Int × Int)) (e : z6), e ∈ t → 0 ≤ e.reader → (mget (zkn m t) e.reader).isSome = true
  | x :: t, m, e, he, h => by
    rcases List.mem_cons.1 he with rfl | he
    · refine zfw t (m := zus m e) ?_
      unfold zus
      rw [if_pos h, zeq, if_pos rfl]; rfl
    · exact zp9 t _ e he h
theorem zv8 (ts : List (List z6)) {k : Int} : ∀ {m : List (Int × Int)}, (mget m k).isSome = true → (mget (ts.foldl zkn m) k).isSome = true := by
  induction ts with
  | nil => intro m h; exact h
  | cons t ts ih => intro m h; rw [List.foldl_cons]; exact ih (zfw t h)
theorem y2e (ts : List (List z6)) : ∀ (m : List (Int × Int)) (t : List z6) (e : z6), t ∈ ts → e ∈ t → 0 ≤ e.reader → (mget (ts.foldl zkn m) e.reader).isSome = true := by
  induction ts with
  | nil => intro m t e ht; cases ht
  | cons x ts ih =>
    intro m t e ht he h
    rw [List.foldl_cons]
    rcases List.mem_cons.1 ht with e1 | ht
    · subst e1
      exact zv8 ts (zp9 t m e he h)
    · exact ih _ t e ht he h
/-- What is known of the events of all tracks. -/
structure TsOK (rs : List z2l) (ts : List (List z6)) : Prop where
  early : ∀ t ∈ ts, ∀ e ∈ t, 0 ≤ e.visit.early ∧ e.visit.early ≤ 1073741824
  reader : ∀ t ∈ ts, ∀ e ∈ t, e.reader < (rs.length : Int)
  rs : ∀ r ∈ rs, -1000 ≤ r.low ∧ r.low ≤ r.high ∧ r.high ≤ 1000
abbrev rdM (rs : List z2l) (ts : List (List z6)) : List (Int × Int) := (rdsN rs (used ts) rs.length).m
abbrev rd0 (rs : List z2l) (ts : List (List z6)) : BS := ⟨(rdsN rs (used ts) rs.length).v, (rdsN rs (used ts) rs.length).b, (rdsN rs (used ts) rs.length).y, []⟩
theorem zdx (tv) (rs : List z2l) (ts : List (List z6)) : bAll tv rs ts = fB tv (rdM rs ts) ts (rd0 rs ts) := rfl
theorem yay {rs : List z2l} {ts : List (List z6)} (h : TsOK rs ts) {t : List z6} (ht : t ∈ ts) {e : z6} (he : e ∈ t) (hr : 0 ≤ e.reader) : mget (rdM rs ts) e.reader = some (rv (rdM rs ts) e) ∧ 1 ≤ rv (rdM rs ts) e ∧ rv (rdM rs ts) e < (rd0 rs ts).v := by
  have h2 := h.reader t ht e he
  have := y2e ts [] t e ht he hr
  obtain ⟨v, q1, q2, q3⟩ := (zti rs (used ts) rs.length).1 e.reader.toNat (by omega) (by rw [show ((e.reader.toNat : Nat) : Int) = e.reader by omega]; exact this)
  rw [show ((e.reader.toNat : Nat) : Int) = e.reader by omega] at q1
  have e1 : rv (rdM rs ts) e = v := by unfold rv; rw [show mget (rdM rs ts) e.reader = some v from q1]; rfl
  rw [e1]
  exact ⟨q1, q2, q3⟩
/-- The readers' bounds. -/
theorem y4b (rs : List z2l) (m : List (Int × Int)) : ∀ n : Nat, n ≤ rs.length → ∀ b ∈ (rdsN rs m n).b, ∃ r ∈ rs, ∃ v, 1 ≤ v ∧ v < (rdsN rs m n).v ∧ (b = ⟨0, v, 0 - r.low⟩ ∨ b = ⟨v, 0, r.high⟩)
  | 0, _, b, hb => by simp [rdsN] at hb
  | n + 1, hn, b, hb => by
    have hv := (zaq rs m n).1
    have ih := y4b rs m n (by omega)
    simp only [rdsN, zlf] at hb ⊢
    split at hb
    · rename_i hs
      rw [if_pos hs]
      simp only [List.mem_append, List.mem_cons, List.not_mem_nil, or_false] at hb
      rcases hb with hb | rfl | rfl
      · obtain ⟨r, hr, v, q1, q2, q3⟩ := ih b hb
        exact ⟨r, hr, v, q1, by simp only; omega, q3⟩
      · exact ⟨_, z1g (l := rs) (i := (n : Int)) (by omega) (by omega), _, hv, by simp only; omega, .inl rfl⟩
      · exact ⟨_, z1g (l := rs) (i := (n : Int)) (by omega) (by omega), _, hv, by simp only; omega, .inr rfl⟩
    · rename_i hs
      rw [if_neg hs]
      exact ih b hb
theorem ya6 {rs : List z2l} {ts : List (List z6)} (h : TsOK rs ts) {t : List z6} (ht : t ∈ ts) {e : z6} (he : e ∈ t) {v : Int} (hv : (rd0 rs ts).v ≤ v) {n : Nat} (hn : v < (n : Int)) {b : za} (hb : b ∈ evB (rdM rs ts) v e) : okBd n b := by
  have h1 := h.early t ht e he
  have h0 := (zaq rs (used ts) rs.length).1
  change 1 ≤ (rd0 rs ts).v at h0
  unfold evB at hb
  split at hb
  · simp only [List.mem_cons, List.not_mem_nil, or_false] at hb
    rcases hb with rfl | rfl <;> exact ⟨by simp only; omega, by simp only; omega, by simp only; omega, by simp only; omega, by simp only; omega, by simp only; omega⟩
  · rename_i hr
    obtain ⟨_, q1, q2⟩ := yay h ht he (by omega)
    simp only [List.mem_cons, List.not_mem_nil, or_false] at hb
    rcases hb with rfl | rfl | rfl | rfl <;> exact ⟨by simp only; omega, by simp only; omega, by simp only; omega, by simp only; omega, by simp only; omega, by simp only; omega⟩
/-- All bounds are in range. -/
theorem y5p {tv : zl → zl → Int} (htv : ∀ a b, 0 ≤ tv a b ∧ tv a b ≤ 1073741825) {rs : List z2l} {ts : List (List z6)} (h : TsOK rs ts) : 1 ≤ (bAll tv rs ts).v ∧ ∀ b ∈ (bAll tv rs ts).b, okBd (bAll tv rs ts).v.toNat b := by
  have h0 := (zaq rs (used ts) rs.length).1
  change 1 ≤ (rd0 rs ts).v at h0
  rw [zdx]
  obtain ⟨m1, m2, m3⟩ := zga tv (rdM rs ts) ts (rd0 rs ts)
  refine ⟨by omega, fun b hb => ?_⟩
  rcases zy5 tv (rdM rs ts) ts _ b hb with hb | ⟨A, t, B, rfl, hb⟩
  · obtain ⟨r, hr, v, q1, q2, q3⟩ := y4b rs (used ts) rs.length (Nat.le_refl _) b hb
    change v < (rd0 rs ts).v at q2
    have := h.rs r hr
    rcases q3 with rfl | rfl <;> exact ⟨by simp only; omega, by simp only; omega, by simp only; omega, by simp only; omega, by simp only; omega, by simp only; omega⟩
  · obtain ⟨k1, k2, k3, k4⟩ := zmm tv (rdM rs (A ++ t :: B)) A B t (rd0 rs (A ++ t :: B))
    obtain ⟨i, e, hi, hb⟩ := zkx tv _ t none _ b hb
    have hlt := (List.getElem?_eq_some_iff.1 hi).1
    have hte : t ∈ A ++ t :: B := by simp
    have hee : e ∈ t := List.mem_of_getElem? hi
    rcases hb with hb | ⟨a, ha, rfl⟩
    · exact ya6 h hte hee (by omega) (by omega) hb
    · have := htv a e.visit
      have hi0 : 0 < i := ha.resolve_right (by simp)
      exact ⟨by simp only; omega, by simp only; omega, by simp only; omega, by simp only; omega, by simp only; omega, by simp only; omega⟩
section
variable {X : Int → Int} {m : List (Int × Int)} {v : Int} {e : z6}
theorem zry (hX : ∀ b ∈ evB m v e, X b.j - X b.i ≤ b.w) (he : 0 ≤ e.visit.early ∧ e.visit.early ≤ 1073741824) : 0 ≤ X v - X 0 ∧ X v - X 0 ≤ 1073741824 := by
  unfold evB at hX
  split at hX
  · have h1 := hX ⟨0, v, e.visit.early⟩ (by simp)
    have h2 := hX ⟨v, 0, 0 - e.visit.early⟩ (by simp)
    simp only at h1 h2; omega
  · have h1 := hX ⟨0, v, 1073741824⟩ (by simp)
    have h2 := hX ⟨v, 0, 0⟩ (by simp)
    simp only at h1 h2; omega
end
theorem zph {p : Pool} (hc : z0b p = 0) {l : List zf} (hl : FewL l) {w : Int} {x : z6} (h : x ∈ z4n p l w) : x.reader < (p.readers.length : Int) := by
  obtain ⟨y, hy, b, rfl⟩ := zfp h
  obtain ⟨h1, h2, _, h3, h4⟩ := znw hl.len hy
  show y.reader < _
  have ho := zf2 hc (hl.gt h1 h2) h3
  unfold evs at h4
  split at h4
  · rename_i hk
    simp only [List.mem_singleton] at h4
    rw [h4]; exact (ho.read hk).2
  · split at h4
    · simp only [List.mem_cons, List.not_mem_nil, or_false] at h4
      rcases h4 with q | q <;> rw [q] <;> simp only <;> omega
    · split at h4
      · simp only [List.mem_singleton] at h4
        rw [h4]; simp only; omega
      · cases h4
theorem tsOK {p : Pool} (hc : z0b p = 0) {l : List zf} (hl : FewL l) : TsOK p.readers (zj p l) := by
  refine ⟨fun t ht e he => ?_, fun t ht e he => ?_, fun r hr => ?_⟩
  · obtain ⟨w, _, rfl⟩ := List.mem_map.1 ht; exact znr hc hl he
  · obtain ⟨w, _, rfl⟩ := List.mem_map.1 ht; exact zph hc hl he
  · have := (zgk hc).1 r hr; omega
end Px
end
section
namespace Px
open Go
set_option linter.unusedVariables false
set_option linter.unusedSimpArgs false
theorem y5k {φ : Nat} {x : zg} {a b : zl} (h : a.stay = true) (h2 : a.place ≠ b.place) : tvl φ x a b = 1073741825 := by
  unfold tvl z3c
  rw [if_pos (by simp [h, h2])]; rfl
theorem zw6 {α : Type} [Inhabited α] {l : List α} {i : Nat} (h : i < l.length) : l[i]? = some (gt l (i : Int)) := by rw [z3w h]; exact List.getElem?_eq_getElem h
end Px
end
section
namespace Px
open Go
set_option linter.unusedVariables false
set_option linter.unusedSimpArgs false
theorem y8d {φ : Nat} (hφ : 800000 < φ) {x : zg} {a b : zl} (h : tvl φ x a b < 1073741825) : ∃ t, zr φ x a.place b.place = some (t, 0, ()) ∧ tvl φ x a b = t := by
  unfold tvl z3c at h ⊢
  split at h
  · simp at h
  · rename_i hc
    rw [if_neg hc]
    obtain ⟨t, e, hb, _, _⟩ := zl7 φ hφ x a.place b.place
    rw [hb, Option.bind_some] at h
    rw [hb, Option.bind_some]
    split at h
    · simp at h
    · rename_i he
      rw [if_neg he]
      simp only [bne_iff_ne, ne_eq, Decidable.not_not] at he
      subst he
      exact ⟨t, rfl, rfl⟩
theorem zrj {α : Type} {A B : List α} {i : Nat} {a b : α} (h1 : (A ++ B)[i]? = some a) (h2 : (A ++ B)[i + 1]? = some b) : (A[i]? = some a ∧ A[i + 1]? = some b) ∨ (a ∈ A ∧ B[0]? = some b) ∨ ∃ k, B[k]? = some a ∧ B[k + 1]? = some b := by
  by_cases q : i + 1 < A.length
  · rw [List.getElem?_append_left q] at h2
    rw [List.getElem?_append_left (by omega)] at h1
    exact .inl ⟨h1, h2⟩
  · rw [List.getElem?_append_right (by omega)] at h2
    by_cases q2 : i < A.length
    · rw [List.getElem?_append_left q2] at h1
      refine .inr (.inl ⟨List.mem_of_getElem? h1, ?_⟩)
      rwa [show i + 1 - A.length = 0 by omega] at h2
    · rw [List.getElem?_append_right (by omega)] at h1
      refine .inr (.inr ⟨i - A.length, h1, ?_⟩)
      rwa [show i + 1 - A.length = i - A.length + 1 by omega] at h2
def y4x (ts : List (List z6)) : Prop := ts.Pairwise fun t t' => ∀ x ∈ t, ∀ y ∈ t', x.visit.wagon ≠ y.visit.wagon
/-- Events that follow each other, of one wagon, are of one z4n. -/
theorem zve (tv m) (s : BS) (hs : s.e = []) : ∀ (n : Nat) (ts : List (List z6)), ts.length = n → y4x ts → ∀ (i : Nat) (a b : z0y), (fB tv m ts s).e[i]? = some a → (fB tv m ts s).e[i + 1]? = some b → a.wagon = b.wagon →
    ∃ A t B, ∃ k : Nat, ∃ x y, ts = A ++ t :: B ∧ t[k]? = some x ∧ t[k + 1]? = some y ∧ a = evE ((fB tv m A s).v + (k : Int)) x ∧ b = evE ((fB tv m A s).v + ((k + 1 : Nat) : Int)) y
  | 0, ts, hn, _, i, a, b, h1, h2, _ => by
    have : ts = [] := List.eq_nil_of_length_eq_zero hn
    subst this
    simp [fB, hs] at h1
  | n + 1, ts, hn, hA, i, a, b, h1, h2, hw => by
    rcases List.eq_nil_or_concat ts with rfl | ⟨us, t, rfl⟩
    · simp at hn
    · rw [List.concat_eq_append] at *
      have e1 : fB tv m (us ++ [t]) s = bEv tv m none t (fB tv m us s) := by rw [y3e]; rfl
      rw [e1, zq6] at h1 h2
      have hA2 := List.pairwise_append.1 hA
      rcases zrj h1 h2 with ⟨q1, q2⟩ | ⟨q1, q2⟩ | ⟨k, q1, q2⟩
      · obtain ⟨A, t', B, k, x, y, r1, r2⟩ := zve tv m s hs n us (by simpa using hn) hA2.1 i a b q1 q2 hw
        exact ⟨A, t', B ++ [t], k, x, y, by rw [r1]; simp, r2⟩
      · exfalso
        rw [zh1] at q2
        obtain ⟨y, hy, rfl⟩ := Option.map_eq_some_iff.1 q2
        rcases zqm tv m us s a q1 with h | ⟨A, t', B, r1, r2⟩
        · rw [hs] at h; cases h
        · obtain ⟨j, hj⟩ := List.getElem?_of_mem r2
          rw [zh1] at hj
          obtain ⟨x, hx, rfl⟩ := Option.map_eq_some_iff.1 hj
          exact hA2.2.2 t' (by rw [r1]; simp) t (by simp) x (List.mem_of_getElem? hx) y (List.mem_of_getElem? hy) hw
      · rw [zh1] at q1 q2
        obtain ⟨x, hx, rfl⟩ := Option.map_eq_some_iff.1 q1
        obtain ⟨y, hy, rfl⟩ := Option.map_eq_some_iff.1 q2
        exact ⟨us, t, [], k, x, y, rfl, hx, hy, rfl, rfl⟩
theorem z5f {p : Pool} {l : List zf} (hl : FewL l) {w : Int} {x : z6} (h : x ∈ z4n p l w) : x.visit.wagon = w := by
  obtain ⟨y, hy, b, rfl⟩ := zfp h
  exact (znw hl.len hy).2.2.1
theorem zon (p : Pool) {l : List zf} (hl : FewL l) : y4x (zj p l) := by
  unfold y4x zj
  rw [List.pairwise_map]
  refine List.pairwise_lt_range.imp fun {a b} hab x hx y hy => ?_
  rw [z5f hl hx, z5f hl hy]
  omega
/-- An event's variable and bounds. -/
theorem y8p {tv : zl → zl → Int} {rs : List z2l} {ts : List (List z6)} {ev : z0y} (h : ev ∈ (bAll tv rs ts).e) : ∃ t ∈ ts, ∃ x ∈ t, ∃ v, ev = evE v x ∧ 1 ≤ v ∧ v < (bAll tv rs ts).v ∧ ∀ b ∈ evB (rdM rs ts) v x, b ∈ (bAll tv rs ts).b := by
  rw [zdx] at h ⊢
  have h0 := (zaq rs (used ts) rs.length).1
  change 1 ≤ (rd0 rs ts).v at h0
  rcases zqm tv (rdM rs ts) ts _ ev h with h | ⟨A, t, B, rfl, h⟩
  · cases h
  · obtain ⟨k1, k2, k3, k4⟩ := zmm tv (rdM rs (A ++ t :: B)) A B t (rd0 rs (A ++ t :: B))
    obtain ⟨i, hi⟩ := List.getElem?_of_mem h
    rw [zh1] at hi
    obtain ⟨x, hx, rfl⟩ := Option.map_eq_some_iff.1 hi
    have hlt := (List.getElem?_eq_some_iff.1 hx).1
    exact ⟨t, by simp, x, List.mem_of_getElem? hx, _, rfl, by omega, by omega, fun b hb => k3 b (zmj tv _ t none _ i x hx b hb)⟩
theorem y9q {tv : zl → zl → Int} {rs : List z2l} {ts : List (List z6)} {ev : z0y} (h : ev ∈ (bAll tv rs ts).e) : 1 ≤ ev.var ∧ ev.var < (bAll tv rs ts).v := by
  obtain ⟨t, ht, y, hy, v, rfl, v1, v2, hv⟩ := y8p h
  exact ⟨v1, v2⟩
theorem zwr (tv m) : ∀ (ts : List (List z6)) (s : BS), (fB tv m ts s).e.length ≤ s.e.length + ((fB tv m ts s).v - s.v).toNat
  | [], s => by simp [fB]
  | t :: ts, s => by
    have ih := zwr tv m ts (bEv tv m none t s)
    have hm := (zga tv m ts (bEv tv m none t s)).1
    have e1 : fB tv m (t :: ts) s = fB tv m ts (bEv tv m none t s) := rfl
    rw [e1]
    rw [zwc] at ih hm
    rw [zq6, List.length_append, zlj] at ih
    omega
theorem zwj (tv) (rs : List z2l) (ts : List (List z6)) : ((bAll tv rs ts).e.length : Int) ≤ (bAll tv rs ts).v := by
  have h0 := (zaq rs (used ts) rs.length).1
  change 1 ≤ (rd0 rs ts).v at h0
  have := zwr tv (rdM rs ts) ts (rd0 rs ts)
  have hm := (zga tv (rdM rs ts) ts (rd0 rs ts)).1
  rw [zdx]
  simp only [rd0, List.length_nil] at this
  simp only [rd0] at hm h0 ⊢
  omega
end Px
end
section
namespace Px
open Go
set_option linter.unusedVariables false
set_option linter.unusedSimpArgs false
def znv (n : Int) (L : List za) : Prop := ∀ v : Int, 1 ≤ v → v < n → (∃ b ∈ L, b.i = 0 ∧ b.j = v) ∧ ∃ b ∈ L, b.i = v ∧ b.j = 0
theorem znv.app {n : Int} {L M : List za} (h : znv n L) : znv n (L ++ M) := fun v h1 h2 => by
  obtain ⟨⟨b, q1, q2⟩, c, q3, q4⟩ := h v h1 h2
  exact ⟨⟨b, List.mem_append_left _ q1, q2⟩, c, List.mem_append_left _ q3, q4⟩
theorem znh (rs : List z2l) (m : List (Int × Int)) : ∀ n : Nat, znv (rdsN rs m n).v (rdsN rs m n).b
  | 0 => fun v h1 h2 => by simp only [rdsN] at h2; omega
  | n + 1 => by
    have ih := znh rs m n
    simp only [rdsN, zlf]
    split
    · intro v h1 h2
      simp only at h2 ⊢
      by_cases e : v = (rdsN rs m n).v
      · subst e
        exact ⟨⟨_, List.mem_append_right _ (List.mem_cons_self ..), rfl, rfl⟩, _, List.mem_append_right _ (List.mem_cons_of_mem _ (List.mem_cons_self ..)), rfl, rfl⟩
      · exact ih.app v h1 (by omega)
    · exact ih
theorem y2g (m : List (Int × Int)) (v : Int) (e : z6) : (∃ b ∈ evB m v e, b.i = 0 ∧ b.j = v) ∧ ∃ b ∈ evB m v e, b.i = v ∧ b.j = 0 := by
  unfold evB
  split
  · exact ⟨⟨⟨0, v, e.visit.early⟩, by simp, rfl, rfl⟩, ⟨v, 0, 0 - e.visit.early⟩, by simp, rfl, rfl⟩
  · exact ⟨⟨⟨0, v, 1073741824⟩, by simp, rfl, rfl⟩, ⟨v, 0, 0⟩, by simp, rfl, rfl⟩
theorem zso (tv m) : ∀ (t : List z6) (pr) (s : BS), znv s.v s.b → znv (bEv tv m pr t s).v (bEv tv m pr t s).b
  | [], pr, s, h => h
  | e :: t, pr, s, h => zso tv m t _ _ (by
    intro v h1 h2
    simp only [zk3] at h2 ⊢
    by_cases q : v = s.v
    · subst q
      obtain ⟨⟨b, b1, b2⟩, c, c1, c2⟩ := y2g m s.v e
      exact ⟨⟨b, List.mem_append_left _ (List.mem_append_right _ b1), b2⟩, c, List.mem_append_left _ (List.mem_append_right _ c1), c2⟩
    · exact (h.app.app) v h1 (by omega))
theorem zvg (tv m) : ∀ (ts : List (List z6)) (s : BS), znv s.v s.b → znv (fB tv m ts s).v (fB tv m ts s).b
  | [], s, h => h
  | t :: ts, s, h => zvg tv m ts _ (zso tv m t none s h)
theorem zyc (tv) (rs : List z2l) (ts : List (List z6)) : Conn (bAll tv rs ts).b (bAll tv rs ts).v.toNat := by
  have h := zvg tv (rdM rs ts) ts (rd0 rs ts) (znh rs (used ts) rs.length)
  rw [← zdx] at h
  exact fun v h1 h2 => h v h1 (by omega)
/-- A solution. -/
def SolF (s : BS) (X : Int → Int) : Prop := ∀ b ∈ s.b, X b.j - X b.i ≤ b.w
theorem zfm {s : BS} {X : Int → Int} : SolF s X ↔ SolD false s.b X := by
  unfold SolF SolD bdJ bdI
  simp
theorem y9n {L : List za} {d : Int → Int} (h : SolD true L d) : ∀ b ∈ L, (- d b.j) - (- d b.i) ≤ b.w := fun b hb => by
  have := h b hb
  simp only [bdJ, bdI, if_true] at this
  omega
/-- The earliest and the latest solution. -/
structure ETs (s : BS) (E T : Int → Int) : Prop where
  eS : SolF s E
  tS : SolF s T
  e0 : E 0 = 0
  t0 : T 0 = 0
  e : ∀ X, SolF s X → ∀ v, 0 ≤ v → v < s.v → E v ≤ X v - X 0
  t : ∀ X, SolF s X → ∀ v, 0 ≤ v → v < s.v → X v - X 0 ≤ T v
theorem y8h {s : BS} (h1 : 1 ≤ s.v) {d t : Int → Int} (hd : zks true s.b s.v.toNat 0 d) (ht : zks false s.b s.v.toNat 0 t) : ETs s (fun v => - d v) t := by
  refine ⟨y9n hd.sat, zfm.2 ht.sat, by have := hd.zero; omega, ht.zero, fun X hX v v0 v1 => ?_, fun X hX v v0 v1 => ht.top X (zfm.1 hX) v v0 (by omega)⟩
  have := hd.top (fun v => - X v) (zs5 (zfm.1 hX)) v v0 (by omega)
  omega
section
variable {φ : Nat} (hφ : 800000 < φ) {p : Pool} (hc : z0b p = 0) {l : List zf} (hl : FewL l)
theorem zyk {p : Pool} (hc : z0b p = 0) {r : zf} (h : znk p r.item) {i : Int} {x : z6} (hx : x ∈ evs p r i) : okPl p.network x.visit.place := by
  unfold evs at hx
  split at hx
  · rename_i hk
    simp only [List.mem_singleton] at hx; subst hx
    obtain ⟨h0, h1⟩ := h.read hk
    have := (zgk hc).1 _ (z1g (l := p.readers) h0 h1)
    exact ⟨this.1, this.2.1⟩
  · split at hx
    · rename_i hk
      have := h.place (by omega)
      simp only [List.mem_cons, List.not_mem_nil, or_false] at hx
      rcases hx with rfl | rfl <;> exact this
    · split at hx
      · rename_i hk
        have := h.place (by omega)
        simp only [List.mem_singleton] at hx; subst hx
        exact this
      · cases hx
include hc hl
theorem zrh {w : Int} {x : z6} (h : x ∈ z4n p l w) : okPl p.network x.visit.place := by
  obtain ⟨y, hy, b, rfl⟩ := zfp h
  obtain ⟨h1, h2, _, h3, h4⟩ := znw hl.len hy
  exact zyk (x := y) hc (zf2 hc (hl.gt h1 h2) h3) h4
/-- An event. -/
theorem y2q {tv : zl → zl → Int} {ev : z0y} (h : ev ∈ (bAll tv p.readers (zj p l)).e) : okPl p.network ev.place ∧ 1 ≤ ev.var ∧ ev.var < (bAll tv p.readers (zj p l)).v ∧
    (∀ X, SolF (bAll tv p.readers (zj p l)) X → 0 ≤ X ev.var - X 0 ∧ X ev.var - X 0 ≤ 1073741824) ∧ 0 ≤ ev.wagon ∧ ev.wagon < (p.fleet.wagons.length : Int) := by
  obtain ⟨t, ht, x, hx, v, rfl, v1, v2, hv⟩ := y8p h
  have hT := tsOK hc hl
  have ht2 := ht
  obtain ⟨w, hw, rfl⟩ := List.mem_map.1 ht2
  refine ⟨zrh hc hl hx, v1, v2, fun X hX => zry (X := X) (fun b hb => hX b (hv b hb)) (hT.early _ ht x hx), ?_⟩
  have := z5f hl hx
  show 0 ≤ x.visit.wagon ∧ x.visit.wagon < _
  rw [List.mem_range] at hw
  omega
include hφ
/-- Two events of a wagon that follow each other. -/
theorem y9h {s : BS} (hs : s = bAll (tvl φ p.network) p.readers (zj p l)) {X : Int → Int} (hX : SolF s X) {i : Nat} {a b : z0y} (ha : s.e[i]? = some a) (hb : s.e[i + 1]? = some b) (hw : a.wagon = b.wagon) :
    ∃ t, Dst φ p.network a.place b.place = some t ∧ t ≤ X b.var - X a.var ∧ (a.stay = true → a.place = b.place) := by
  have hT := tsOK hc hl
  subst hs
  rw [zdx] at ha hb
  obtain ⟨A, t, B, k, y, z, e1, hy, hz, rfl, rfl⟩ := zve (tvl φ p.network) (rdM p.readers (zj p l)) (rd0 p.readers (zj p l)) rfl _ (zj p l) rfl (zon p hl) i a b ha hb hw
  have hsat := hX
  rw [zdx] at hsat
  have ht : t ∈ zj p l := by rw [e1]; simp
  obtain ⟨k1, k2, k3, k4⟩ := zmm (tvl φ p.network) (rdM p.readers (zj p l)) A B t (rd0 p.readers (zj p l))
  rw [← e1] at k3
  have q1 := zry (X := X) (fun c hc => hsat c (k3 c (zmj _ _ t none _ k y hy c hc))) (hT.early t ht y (List.mem_of_getElem? hy))
  have q2 := zry (X := X) (fun c hc => hsat c (k3 c (zmj _ _ t none _ (k + 1) z hz c hc))) (hT.early t ht z (List.mem_of_getElem? hz))
  have q3 := hsat _ (k3 _ (zz8 (tvl φ p.network) (rdM p.readers (zj p l)) t none _ k y z hy hz))
  generalize (fB (tvl φ p.network) (rdM p.readers (zj p l)) A (rd0 p.readers (zj p l))).v = v at *
  simp only at q3
  rw [show v + ((k + 1 : Nat) : Int) = v + k + 1 by omega] at q2 ⊢
  obtain ⟨n, hn, hn2⟩ := y8d (a := y.visit) (b := z.visit) (x := p.network) hφ (by omega)
  refine ⟨n, by show Dst φ p.network y.visit.place z.visit.place = _; unfold Dst; rw [hn]; rfl, by show n ≤ X (v + k + 1) - X (v + k); omega, fun hst => ?_⟩
  show y.visit.place = z.visit.place
  by_cases e : y.visit.place = z.visit.place
  · exact e
  · have := y5k (φ := φ) (x := p.network) (a := y.visit) (b := z.visit) hst e
    omega
end
end Px
end
section
namespace Px
open Go
set_option linter.unusedVariables false
set_option linter.unusedSimpArgs false
theorem y3g {α : Type} [Inhabited α] {a b : List α} (h : a.length = b.length) (hg : ∀ i : Int, 0 ≤ i → i < (a.length : Int) → gt a i = gt b i) : a = b := by
  refine List.ext_getElem h fun i h1 h2 => ?_
  have := hg (i : Int) (by omega) (by omega)
  rw [z3w h1, z3w h2] at this
  exact this
/-- One round. -/
theorem zuc (φ : Nat) (k : Int → Int → zo → Bool → Bool → List Int → Option (List Int × Unit)) (x : zo) (r : Bool) (n : Nat) (q : Int) (c : Nat) (s : DS) (hn : n ≤ 512) (hs : DB n c s) (hL : ∀ b ∈ x.bounds, okBd n b) (hl : x.bounds.length ≤ 4096) (hc : c + x.bounds.length ≤ 2100000) (hφ : 5001 < φ) :
    zy φ k φ n q x.bounds (x.bounds.length : Int) 0 x s.c r s.d = k n (W (q + 1)) x (rndD r x.bounds x.bounds.length s).c r (rndD r x.bounds x.bounds.length s).d := by
  refine z04 (fun f i (t : DS) => zy φ k f n q x.bounds (x.bounds.length : Int) i x t.c r t.d) x.bounds.length (fun i t => t = rndD r x.bounds i s) (fun o => o = _) ?_ ?_ φ s rfl (by omega)
  · intro f i t hi ht hk
    have hB := hs.rnd hn hL r i (by omega)
    rw [← ht] at hB
    have hb := hL _ (z1g (l := x.bounds) (i := (i : Int)) (by omega) (by omega))
    have hk' := hk (stpD r (gt x.bounds (i : Int)) t) (by rw [ht]; rfl)
    have e : zy φ k (f + 1) n q x.bounds (x.bounds.length : Int) i x t.c r t.d = z1w φ (zy φ k f) (bdI r (gt x.bounds (i : Int))) (bdJ r (gt x.bounds (i : Int))) n q x.bounds (x.bounds.length : Int) i t.c (gt x.bounds (i : Int)) x r t.d := by
      rw [zy, if_pos (by simp; omega), z7 ⟨by omega, by omega⟩]
      cases r
      · rw [if_neg (by simp)]; rfl
      · rw [if_pos rfl]; rfl
    rw [e]
    generalize gt x.bounds (i : Int) = b at *
    obtain ⟨a1, a2, a3, a4, a5, a6⟩ := zef hb r
    have hx := hB.len
    have q1 := hB.lt hn a1 a2
    have q3 := hB.lo _ a1 a2
    unfold farN at q1
    have hW : W (gt t.d (bdI r b) + b.w) = gt t.d (bdI r b) + b.w := W_id (by omega) (by omega)
    have hWi : W ((i : Int) + 1) = (i : Int) + 1 := W_id (by omega) (by omega)
    unfold z1w
    rw [z7 ⟨a1, by rw [hx]; exact a2⟩, z7 (fun _ => ⟨a1, by rw [hx]; exact a2⟩), z7 (fun _ => ⟨a3, by rw [hx]; exact a4⟩), hW, hWi]
    unfold stpD farN at hk'
    by_cases h : gt t.d (bdI r b) < 1125899906842624 ∧ gt t.d (bdI r b) + b.w < gt t.d (bdJ r b)
    · rw [if_pos h] at hk'
      rw [if_pos (by simpa using h), z7 ⟨a1, by rw [hx]; exact a2⟩, z7 ⟨a3, by rw [hx]; exact a4⟩]
      exact hk'
    · rw [if_neg h] at hk'
      rw [if_neg (by simpa using h)]
      exact hk'
  · intro f t ht
    subst ht
    rw [zy, if_neg (by simp)]
theorem zjy (φ : Nat) (x : zo) (r : Bool) (n : Nat) (hn : n ≤ 512) (hL : ∀ b ∈ x.bounds, okBd n b) (hl : x.bounds.length ≤ 4096) (hφ : 5001 < φ) :
    ∀ (f k : Nat) (s : DS), DB n (k * x.bounds.length) s → k ≤ n → n < f + k → z19 φ f n (k : Int) x s.c r s.d = some ((runD r x.bounds (n - k) s).d, ())
  | 0, k, s, _, h1, h2 => by omega
  | f + 1, k, s, hs, h1, h2 => by
    rw [z19]
    by_cases h : k < n
    · rw [if_pos (by simp; omega), show n - k = (n - (k + 1)) + 1 by omega, runD]
      cases hc : s.c with
      | false => rw [if_pos (show (!false) = true from rfl), if_neg (by simp)]
      | true =>
        rw [if_neg (by simp), if_pos rfl]
        have hs1 : DB n (k * x.bounds.length) ⟨s.d, false⟩ := ⟨hs.len, hs.hi, hs.lo⟩
        have hb := Nat.mul_le_mul (show k + 1 ≤ 512 by omega) hl
        rw [Nat.add_mul, Nat.one_mul] at hb
        have := zuc φ (z19 φ f) x r n (k : Int) _ ⟨s.d, false⟩ hn hs1 hL hl (by omega) hφ
        refine this.trans ?_
        have hs2 := hs1.rnd hn hL r x.bounds.length (Nat.le_refl _)
        rw [W_id (x := (k : Int) + 1) (by omega) (by omega)]
        exact zjy φ x r n hn hL hl hφ f (k + 1) _ (hs2.up (by rw [Nat.add_mul, Nat.one_mul]; omega)) (by omega) (by omega)
    · rw [if_neg (by simp; omega), show n - k = 0 by omega]; rfl
/-- distances. -/
theorem y5s (φ : Nat) (hφ : 5001 < φ) (x : zo) (r : Bool) (n : Nat) (hv : x.vars = (n : Int)) (h1 : 1 ≤ n) (hn : n ≤ 512) (hL : ∀ b ∈ x.bounds, okBd n b) (hl : x.bounds.length ≤ 4096) :
    z18 φ x r = some ((runD r x.bounds n ⟨d0 n 0, true⟩).d, ()) := by
  unfold z18
  rw [hv, z7 (mk_t _ _ (by omega) (by omega) (by omega)), Int.toNat_natCast, List.length_replicate]
  refine z04 (fun f i (d : List Int) => z0r φ f (n : Int) i x r d) n (fun i d => d.length = n ∧ ∀ j : Int, 0 ≤ j → j < (n : Int) → gt d j = if 0 < j ∧ j < (i : Int) then farN else 0) (fun o => o = _) ?_ ?_ φ _
    ⟨by simp, fun j h0 h1 => by rw [z1f _ _ _ h0 h1, if_neg (by omega)]; rfl⟩ (by omega)
  · intro f i d hi ⟨hd, hg⟩ hk
    rw [z0r, if_pos (by simp; omega), W_id (x := (i : Int) + 1) (by omega) (by omega)]
    by_cases h : 0 < i
    · rw [if_pos (by simp; omega), z7 ⟨by omega, by omega⟩]
      refine hk _ ⟨by rw [z0i]; exact hd, fun j j0 j1 => ?_⟩
      rw [z0c _ _ _ _ (by omega) (by omega) j0, hg j j0 j1]
      by_cases e : j = (i : Int)
      · rw [if_pos e, if_pos (by omega)]; rfl
      · rw [if_neg e]
        by_cases e2 : 0 < j ∧ j < (i : Int)
        · rw [if_pos e2, if_pos (by omega)]
        · rw [if_neg e2, if_neg (by omega)]
    · rw [if_neg (by simp; omega)]
      refine hk _ ⟨hd, fun j j0 j1 => ?_⟩
      rw [hg j j0 j1, if_neg (by omega), if_neg (by omega)]
  · intro f d ⟨hd, hg⟩
    have e : d = d0 n 0 := y3g (by rw [hd, zxs]) fun j j0 j1 => by
      rw [hd] at j1
      rw [hg j j0 j1, y0f (by omega) (by omega) j0 j1]
      by_cases q : j = 0
      · rw [if_pos q, if_neg (by omega)]
      · rw [if_neg q, if_pos (by omega)]
    rw [z0r, if_neg (by simp), hv, e]
    have := zjy φ x r n hn hL hl hφ φ 0 ⟨d0 n 0, true⟩ ((y7m (by omega) (by omega)).up (by omega)) (by omega) (by omega)
    exact this
/-- How far the values may go. -/
theorem zy8 {r : Bool} {n : Nat} (hn : n ≤ 512) {L : List za} (hL : ∀ b ∈ L, okBd n b) (hl : L.length ≤ 4096) : ∀ (f k : Nat) (s : DS), DB n (k * L.length) s → f + k ≤ n → DB n 2097152 (runD r L f s)
  | 0, k, s, h, hk => h.up (by
    have := Nat.mul_le_mul (show k ≤ 512 by omega) hl
    omega)
  | f + 1, k, s, h, hk => by
    have hu : k * L.length ≤ 2097152 := by
      have := Nat.mul_le_mul (show k ≤ 512 by omega) hl
      omega
    unfold runD
    split
    · have h1 : DB n (k * L.length) ⟨s.d, false⟩ := ⟨h.len, h.hi, h.lo⟩
      exact zy8 hn hL hl f (k + 1) _ ((h1.rnd hn hL r L.length (Nat.le_refl _)).up (by rw [Nat.add_mul, Nat.one_mul]; omega)) (by omega)
    · exact h.up hu
/-- One round of Tight. -/
theorem zri (φ : Nat) (k : List za → Int → Int → Int → Int → List Bool → List Int → Option (Int × Bool × Int × Unit)) (L : List za) (n : Nat) (q j : Int) (c : Nat) (s : TS) (hj : 0 ≤ j ∧ j < (n : Int)) (hs : TiB n c s) (hL : ∀ b ∈ L, okBd n b) (hl : L.length ≤ 4096) (hc : c + L.length ≤ 2100000) (hφ : 5001 < φ) :
    z2b φ k φ L s.z n q L (L.length : Int) 0 j s.kn s.d = if (rndT L L.length s).z < 0 then (if gt (rndT L L.length s).kn j = true then some (gt (rndT L L.length s).d j, true, 0, ()) else some (0, false, 0, ())) else k L (rndT L L.length s).z n (W (q + 1)) j (rndT L L.length s).kn (rndT L L.length s).d := by
  refine z04 (fun f i (t : TS) => z2b φ k f L t.z n q L (L.length : Int) i j t.kn t.d) L.length (fun i t => t = rndT L i s) (fun o => o = _) ?_ ?_ φ s rfl (by omega)
  · intro f i t hi ht hk
    have hB := hs.rnd hL i (by omega)
    rw [← ht] at hB
    have hb := hL _ (z1g (l := L) (i := (i : Int)) (by omega) (by omega))
    have hk' := hk (stpT (gt L (i : Int)) i t) (by rw [ht]; rfl)
    rw [z2b, if_pos (by simp; omega), z7 ⟨by omega, by omega⟩]
    generalize gt L (i : Int) = b at *
    obtain ⟨a1, a2, a3, a4, a5, a6⟩ := hb
    have hx := hB.ld
    have hy := hB.lk
    have q1 := hB.bd _ a1 a2
    have hW : W (gt t.d b.i + b.w) = gt t.d b.i + b.w := W_id (by omega) (by omega)
    have hWi : W ((i : Int) + 1) = (i : Int) + 1 := W_id (by omega) (by omega)
    rw [z7 ⟨a1, by rw [hy]; exact a2⟩, z7 (fun _ => ⟨a3, by rw [hy]; exact a4⟩), z7 (fun _ => ⟨a3, by rw [hx]; exact a4⟩), z7 (fun _ => ⟨a1, by rw [hx]; exact a2⟩), hW, hWi]
    unfold stpT at hk'
    cases h : (!(gt t.kn b.i) || ((gt t.kn b.j) && decide (gt t.d b.j ≤ gt t.d b.i + b.w))) with
    | true =>
      rw [h, if_pos rfl] at hk'
      rw [if_pos rfl]
      exact hk'
    | false =>
      rw [h, if_neg (by simp)] at hk'
      rw [if_neg (by simp), z4w, z7 ⟨a1, by rw [hx]; exact a2⟩, z7 ⟨a3, by rw [hx]; exact a4⟩, z7 ⟨a3, by rw [hy]; exact a4⟩, hW, hWi]
      exact hk'
  · intro f t ht
    have hB := hs.rnd hL L.length (Nat.le_refl _)
    subst ht
    rw [z2b, if_neg (by simp)]
    by_cases h : (rndT L L.length s).z < 0
    · rw [if_pos (by simpa using h), if_pos h, z7 ⟨hj.1, by rw [hB.lk]; exact hj.2⟩]
      cases hk : gt (rndT L L.length s).kn j with
      | false => rw [if_pos (show (!false) = true from rfl), if_neg (by simp)]
      | true => rw [if_neg (by simp), if_pos rfl, z7 ⟨hj.1, by rw [hB.ld]; exact hj.2⟩]
    · rw [if_neg (by simpa using h), if_neg h]
theorem zh5 (φ : Nat) (L : List za) (n : Nat) (j : Int) (hj : 0 ≤ j ∧ j < (n : Int)) (hn : n ≤ 512) (hL : ∀ b ∈ L, okBd n b) (hl : L.length ≤ 4096) (hφ : 5001 < φ) :
    ∀ (f k : Nat) (s : TS), TiB n (k * L.length) s → k ≤ n → n < f + k → z3p φ f L s.z n (k : Int) j s.kn s.d = if gt (runT L (n - k) s).kn j = true then some (gt (runT L (n - k) s).d j, true, 0, ()) else some (0, false, 0, ())
  | 0, k, s, _, h1, h2 => by omega
  | f + 1, k, s, hs, h1, h2 => by
    rw [z3p]
    by_cases h : k < n
    · have hs1 : TiB n (k * L.length) ⟨s.d, s.kn, -1⟩ := ⟨hs.ld, hs.lk, hs.bd⟩
      have hb := Nat.mul_le_mul (show k + 1 ≤ 512 by omega) hl
      rw [Nat.add_mul, Nat.one_mul] at hb
      rw [if_pos (by simp; omega)]
      have := zri φ (z3p φ f) L n (k : Int) j _ ⟨s.d, s.kn, -1⟩ hj hs1 hL hl (by omega) hφ
      refine this.trans ?_
      rw [show n - k = (n - (k + 1)) + 1 by omega, runT, W_id (x := (k : Int) + 1) (by omega) (by omega)]
      have hs2 := hs1.rnd hL L.length (Nat.le_refl _)
      by_cases hz : (rndT L L.length ⟨s.d, s.kn, -1⟩).z < 0
      · rw [if_pos hz, if_pos hz]
      · rw [if_neg hz, if_neg hz]
        exact zh5 φ L n j hj hn hL hl hφ f (k + 1) _ (hs2.up (by rw [Nat.add_mul, Nat.one_mul]; omega)) (by omega) (by omega)
    · rw [if_neg (by simp; omega), show n - k = 0 by omega, z7 ⟨hj.1, by rw [hs.lk]; exact hj.2⟩]
      show _ = if gt s.kn j = true then some (gt s.d j, true, 0, ()) else some (0, false, 0, ())
      cases hk : gt s.kn j with
      | false => rw [if_pos (show (!false) = true from rfl), if_neg (by simp)]
      | true => rw [if_neg (by simp), if_pos rfl, z7 ⟨hj.1, by rw [hs.ld]; exact hj.2⟩]
/-- Tight, where the bounds are in order and have a solution. -/
theorem zzx (φ : Nat) (hφ : 5001 < φ) (L : List za) (n : Nat) (h1 : 1 ≤ n) (hn : n ≤ 512) (hL : ∀ b ∈ L, okBd n b) (hl : L.length ≤ 4096) (hz : (low n L).z < 0) {i j : Int} (hi : 0 ≤ i ∧ i < (n : Int)) (hj : 0 ≤ j ∧ j < (n : Int)) :
    z8p φ (n : Int) L i j = if gt (runT L n (t0 n i)).kn j = true then some (gt (runT L n (t0 n i)).d j, true, 0, ()) else some (0, false, 0, ()) := by
  unfold z8p
  rw [zfr φ hφ, Option.bind_some, zxe h1 hn hl hL, if_neg (by simp), if_neg (by
    simp only [Bool.or_eq_true, decide_eq_true_eq, zqp]
    unfold max2; split <;> omega), zom φ hφ L n hn hL hl, Option.bind_some, if_neg (by simp; omega)]
  unfold z4u zd
  rw [z7 (mk_t _ _ (by omega) (by omega) (by omega)), z7 (mk_t _ _ (by omega) (by omega) (by omega)), Int.toNat_natCast, z7 ⟨hi.1, by rw [List.length_replicate]; exact hi.2⟩]
  exact zh5 φ L n j hj hn hL hl hφ φ 0 (t0 n i) (y6z.up (by omega)) (by omega) (by omega)
end Px
end
section
namespace Px
open Go
set_option linter.unusedVariables false
set_option linter.unusedSimpArgs false
/-- What is known of the events f .. e - 1, those of one wagon. -/
structure EvC (φ : Nat) (x : zg) (s : BS) (E T : Int → Int) (pl vr : Nat → Int) (st : Nat → Bool) (f e : Nat) : Prop where
  ok : ∀ k, f ≤ k → k < e → okPl x (pl k) ∧ 0 ≤ vr k ∧ vr k < s.v
  ets : ETs s E T
  pr : ∀ k, f ≤ k → k + 1 < e → ∃ t, Dst φ x (pl k) (pl (k + 1)) = some t ∧ 0 ≤ t ∧ (∀ X, SolF s X → t ≤ X (vr (k + 1)) - X (vr k)) ∧ (st k = true → pl k = pl (k + 1)) ∧ (pl k ≠ pl (k + 1) → 1 ≤ t)
/-- The wagon stands certainly at the place of the event r: from r to i the gaps are covered. -/
structure zqy (E T : Int → Int) (vr : Nat → Int) (st : Nat → Bool) (m : Int) (f e r i : Nat) : Prop where
  cf : f ≤ r
  ci : r ≤ i
  ce : i < e
  cst : ∀ k, r ≤ k → k < i → st k = true
  cns : st i = false
  cl : T (vr r) ≤ m
  ch : m ≤ E (vr i)
def znt (φ : Nat) (x : zg) (T : Int → Int) (pl vr : Nat → Int) (m q : Int) (k : Nat) : Prop := ∃ w, Dst φ x q (pl k) = some w ∧ m + w ≤ T (vr k)
def znf (φ : Nat) (x : zg) (E : Int → Int) (pl vr : Nat → Int) (m q : Int) (k : Nat) : Prop := ∃ w, Dst φ x (pl k) q = some w ∧ E (vr k) + w ≤ m
def gapW (φ : Nat) (x : zg) (E T : Int → Int) (D : Nat → Int) (pl vr : Nat → Int) (st : Nat → Bool) (m q : Int) (k : Nat) : Prop :=
  ∃ a b, Dst φ x (pl k) q = some a ∧ E (vr k) + a ≤ m ∧ Dst φ x q (pl (k + 1)) = some b ∧ m + b ≤ T (vr (k + 1)) ∧ (st k = true → q = pl k) ∧ a + b ≤ D k
def PosW (φ : Nat) (x : zg) (E T : Int → Int) (D : Nat → Int) (pl vr : Nat → Int) (st : Nat → Bool) (f e : Nat) (m q : Int) : Prop :=
  f = e ∨ znt φ x T pl vr m q f ∨ znf φ x E pl vr m q (e - 1) ∨ ∃ k, f ≤ k ∧ k + 1 < e ∧ gapW φ x E T D pl vr st m q k
section
variable {φ : Nat} (hφ : 800000 < φ) {x : zg} (hn : z8c x = 0) {s : BS} {E T : Int → Int} {pl vr : Nat → Int} {st : Nat → Bool} {f e : Nat}
theorem EvC.mono (H : EvC φ x s E T pl vr st f e) {X : Int → Int} (hX : SolF s X) {i : Nat} (hi : f ≤ i) : ∀ {j : Nat}, i ≤ j → j < e → X (vr i) ≤ X (vr j) ∧ (X (vr j) ≤ X (vr i) → pl i = pl j) := by
  intro j
  induction j with
  | zero => intro h1 h2; have : i = 0 := by omega
            subst this; exact ⟨Int.le_refl _, fun _ => rfl⟩
  | succ j ih =>
    intro h1 h2
    by_cases q : i = j + 1
    · subst q; exact ⟨Int.le_refl _, fun _ => rfl⟩
    · obtain ⟨a1, a2⟩ := ih (by omega) (by omega)
      obtain ⟨t, _, b0, b1, _, b2⟩ := H.pr j (by omega) h2
      have b1 := b1 X hX
      refine ⟨by omega, fun h => ?_⟩
      rw [a2 (by omega)]
      by_cases z : pl j = pl (j + 1)
      · exact z
      · have := b2 z; omega
theorem EvC.same (H : EvC φ x s E T pl vr st f e) {r i : Nat} (hf : f ≤ r) (hi : i < e) (hs : ∀ k, r ≤ k → k < i → st k = true) : ∀ k, r ≤ k → k ≤ i → pl k = pl r := by
  intro k
  induction k with
  | zero => intro h1 _; rw [show r = 0 by omega]
  | succ k ih =>
    intro h1 h2
    by_cases q : r = k + 1
    · rw [q]
    · obtain ⟨t, _, _, _, b, _⟩ := H.pr k (by omega) (by omega)
      rw [← b (hs k (by omega) (by omega))]
      exact ih (by omega) (by omega)
theorem EvC.et (H : EvC φ x s E T pl vr st f e) {k : Nat} (h1 : f ≤ k) (h2 : k < e) : E (vr k) ≤ T (vr k) := by
  obtain ⟨_, v0, v1⟩ := H.ok k h1 h2
  have := H.ets.e T H.ets.tS (vr k) v0 v1
  have z := H.ets.t0
  omega
include hφ hn
theorem zsy {a b w : Int} (ha : okPl x a) (hb : okPl x b) (h : Dst φ x a b = some w) (hw : w ≤ 0) : a = b := by
  by_cases q : a = b
  · exact q
  · have := zzb hφ hn ha hb q h; omega
/-- Where it certainly was is its only possible place. -/
theorem zws (H : EvC φ x s E T pl vr st f e) {D : Nat → Int} {m : Int} {r i : Nat} (C : zqy E T vr st m f e r i) {q : Int} (hq : okPl x q) (hP : PosW φ x E T D pl vr st f e m q) : q = pl r := by
  obtain ⟨c1, c2, c3, c4, c5, c6, c7⟩ := C
  have hsame := H.same c1 c3 c4
  have left : ∀ k, f ≤ k → k ≤ r → znt φ x T pl vr m q k → q = pl r := fun k k1 k2 ⟨w, w1, w2⟩ => by
    obtain ⟨m1, m2⟩ := H.mono H.ets.tS k1 k2 (by omega)
    have hw := (zps hφ hn hq (H.ok k k1 (by omega)).1 w1).1
    rw [← m2 (by omega)]
    exact zsy hφ hn hq (H.ok k k1 (by omega)).1 w1 (by omega)
  have right : ∀ k, i ≤ k → k < e → znf φ x E pl vr m q k → q = pl r := fun k k1 k2 ⟨w, w1, w2⟩ => by
    obtain ⟨m1, m2⟩ := H.mono H.ets.eS (i := i) (by omega) k1 k2
    have hw := (zps hφ hn (H.ok k (by omega) k2).1 hq w1).1
    rw [← hsame i c2 (Nat.le_refl _), m2 (by omega)]
    exact (zsy hφ hn (H.ok k (by omega) k2).1 hq w1 (by omega)).symm
  rcases hP with h | h | h | ⟨k, k1, k2, a, b, h1, h2, h3, h4, h5, h6⟩
  · omega
  · exact left f (Nat.le_refl _) c1 h
  · exact right (e - 1) (by omega) (by omega) h
  · by_cases q1 : k + 1 ≤ r
    · exact left (k + 1) (by omega) q1 ⟨b, h3, h4⟩
    · by_cases q2 : i ≤ k
      · exact right k q2 (by omega) ⟨a, h1, h2⟩
      · rw [h5 (c4 k (by omega) (by omega))]
        exact hsame k (by omega) (by omega)
/-- The place of an event, at its own time. -/
theorem zp7 (H : EvC φ x s E T pl vr st f e) {D : Nat → Int} (hD : ∀ k, f ≤ k → k + 1 < e → ∀ X, SolF s X → X (vr (k + 1)) - X (vr k) ≤ D k) {m : Int} {j : Nat} (j1 : f ≤ j) (j2 : j < e) (l : E (vr j) ≤ m) (h : m ≤ T (vr j)) : PosW φ x E T D pl vr st f e m (pl j) := by
  have self := zn4 hφ hn (H.ok j j1 j2).1
  by_cases q1 : j = f
  · subst q1
    exact .inr (.inl ⟨0, self, by omega⟩)
  by_cases q2 : j = e - 1
  · subst q2
    exact .inr (.inr (.inl ⟨0, self, by omega⟩))
  obtain ⟨t, t1, t2, t3, t4, _⟩ := H.pr j j1 (by omega)
  by_cases hz : m + t ≤ T (vr (j + 1))
  · refine .inr (.inr (.inr ⟨j, j1, by omega, 0, t, self, by omega, t1, hz, fun _ => rfl, ?_⟩))
    have := hD j j1 (by omega) T H.ets.tS
    have := t3 T H.ets.tS
    omega
  · have := t3 T H.ets.tS
    omega
theorem y05 (H : EvC φ x s E T pl vr st f e) {D : Nat → Int} (hD : ∀ k, f ≤ k → k + 1 < e → ∀ X, SolF s X → X (vr (k + 1)) - X (vr k) ≤ D k) {m : Int} {r i : Nat} (C : zqy E T vr st m f e r i) : PosW φ x E T D pl vr st f e m (pl r) := by
  obtain ⟨c1, c2, c3, c4, c5, c6, c7⟩ := C
  have hsame := H.same c1 c3 c4
  have key : ∀ n k, k + n = i → r ≤ k → E (vr k) ≤ m → PosW φ x E T D pl vr st f e m (pl r) := by
    intro n
    induction n with
    | zero =>
      intro k h1 h2 h3
      have : k = i := by omega
      subst this
      rw [← hsame k h2 (Nat.le_refl _)]
      have := H.et (k := k) (by omega) (by omega)
      exact zp7 hφ hn H hD (by omega) c3 h3 (by omega)
    | succ n ih =>
      intro k h1 h2 h3
      by_cases q : E (vr (k + 1)) ≤ m
      · exact ih (k + 1) (by omega) (by omega) q
      · refine .inr (.inr (.inr ⟨k, by omega, by omega, 0, 0, ?_, by omega, ?_, ?_, fun _ => (hsame k h2 (by omega)).symm, ?_⟩))
        · rw [hsame k h2 (by omega)]
          exact zn4 hφ hn (H.ok r c1 (by omega)).1
        · rw [hsame (k + 1) (by omega) (by omega)]
          exact zn4 hφ hn (H.ok r c1 (by omega)).1
        · have := H.et (k := k + 1) (by omega) (by omega); omega
        · obtain ⟨t, _, t2, t3, _⟩ := H.pr k (by omega) (by omega)
          have := hD k (by omega) (by omega) E H.ets.eS
          have := t3 E H.ets.eS
          omega
  have := H.et (k := r) c1 (by omega)
  exact key (i - r) r (by omega) (Nat.le_refl _) (by omega)
omit hφ hn in
end
end Px
end
section
namespace Px
open Go
set_option linter.unusedVariables false
set_option linter.unusedSimpArgs false
/-- What sight.Build builds. -/
abbrev bsB (φ : Nat) (p : Pool) (l : List zf) : BS := bAll (tvl φ p.network) p.readers (zj p l)
structure Good (s : BS) : Prop where
  v1 : 1 ≤ s.v
  v2 : s.v ≤ 512
  bl : s.b.length ≤ 4096
  ok : ∀ b ∈ s.b, okBd s.v.toNat b
  conn : Conn s.b s.v.toNat
  ev : ∀ y ∈ s.e, 1 ≤ y.var ∧ y.var < s.v
  el : (s.e.length : Int) ≤ s.v
theorem zrw {φ : Nat} (hφ : 800000 < φ) {p : Pool} (hc : z0b p = 0) {l : List zf} (hl : FewL l) (hb : ¬ (512 < (bsB φ p l).v ∨ 4096 < (bsB φ p l).b.length)) : Good (bsB φ p l) := by
  obtain ⟨h1, h2⟩ := y5p (tv := tvl φ p.network) (fun a b => (y3s φ hφ p.network a b).2) (tsOK hc hl)
  exact ⟨h1, by omega, by omega, h2, zyc _ _ _, fun y hy => y9q hy, zwj _ _ _⟩
def zoa (s : BS) : List Int := (runD false s.b s.v.toNat ⟨d0 s.v.toNat 0, true⟩).d
def zhl (s : BS) : List Int := (runD true s.b s.v.toNat ⟨d0 s.v.toNat 0, true⟩).d
def z4k (s : BS) (v : Int) : Int := gt (zoa s) v
def z3b (s : BS) (v : Int) : Int := - gt (zhl s) v
theorem Good.ets {s : BS} (h : Good s) {X : Int → Int} (hX : SolF s X) : ETs s (z3b s) (z4k s) := by
  have hv := h.v1
  have hv2 := h.v2
  have e := zl8 (r := true) (n := s.v.toNat) (by omega) h.ok h.conn (p := fun v => - X v) (zs5 (zfm.1 hX)) (u := 0) (by omega) (by omega)
  have t := zl8 (r := false) (n := s.v.toNat) (by omega) h.ok h.conn (zfm.1 hX) (u := 0) (by omega) (by omega)
  exact y8h hv e.2 t.2
theorem Good.db {s : BS} (h : Good s) (r : Bool) : DB s.v.toNat 2097152 (runD r s.b s.v.toNat ⟨d0 s.v.toNat 0, true⟩) := by
  have hv := h.v1
  have hv2 := h.v2
  exact zy8 (by omega) h.ok h.bl s.v.toNat 0 _ ((y7m (by omega) (by omega)).up (by omega)) (by omega)
theorem Good.bd {s : BS} (h : Good s) (r : Bool) {v : Int} (h0 : 0 ≤ v) (h1 : v < s.v) : v < ((runD r s.b s.v.toNat ⟨d0 s.v.toNat 0, true⟩).d.length : Int) ∧ -2305843009213693952 ≤ gt (runD r s.b s.v.toNat ⟨d0 s.v.toNat 0, true⟩).d v ∧ gt (runD r s.b s.v.toNat ⟨d0 s.v.toNat 0, true⟩).d v ≤ 1125899906842624 := by
  have hv := h.v1
  have hv2 := h.v2
  have hd := h.db r
  have hl := hd.len
  have q1 := hd.lo v h0 (by omega)
  have q2 := hd.lt (by omega) h0 (by omega)
  unfold farN at q2
  exact ⟨by omega, by omega, by omega⟩
/-- The events with the bounds of their times. -/
def visE (E T : Int → Int) (y : z0y) : zl := ⟨y.wagon, y.place, y.ref, y.stay, E y.var, T y.var⟩
def visL (s : BS) : List zl := s.e.map (visE (z3b s) (z4k s))
def hisL (s : BS) : List zl := s.e.map (visE (z3b s) (z3b s))
theorem zss {s : BS} (h : Good s) {y : z0y} (hy : y ∈ s.e) : 0 ≤ y.var ∧ y.var < ((zhl s).length : Int) ∧ y.var < ((zoa s).length : Int) ∧ (⟨y.wagon, y.place, y.ref, y.stay, W (0 - gt (zhl s) y.var), gt (zoa s) y.var⟩ : zl) = visE (z3b s) (z4k s) y := by
  obtain ⟨h1, h2⟩ := h.ev y hy
  have b1 := h.bd true (v := y.var) (by omega) h2
  have b2 := h.bd false (v := y.var) (by omega) h2
  change y.var < ((zhl s).length : Int) ∧ _ ≤ gt (zhl s) y.var ∧ gt (zhl s) y.var ≤ _ at b1
  change y.var < ((zoa s).length : Int) ∧ _ at b2
  refine ⟨by omega, b1.1, b2.1, ?_⟩
  rw [W_id (by omega) (by omega)]
  unfold visE z3b z4k
  rw [show (0 : Int) - gt (zhl s) y.var = - gt (zhl s) y.var by omega]
theorem zui (φ : Nat) (hφ : 800000 < φ) {s : BS} (h : Good s) (x : zo) : z1n φ φ (zoa s) (zhl s) s.e (s.e.length : Int) 0 x [] = some (x, visL s, 0, ()) := by
  have hel := h.el
  have hv2 := h.v2
  refine z04 (fun f i (v : List zl) => z1n φ f (zoa s) (zhl s) s.e (s.e.length : Int) i x v) s.e.length (fun i v => v = (s.e.take i).map (visE (z3b s) (z4k s))) (fun o => o = _) ?_ ?_ φ _ (by simp) (by omega)
  · intro f i v hi hv hk
    obtain ⟨s1, s2, s3, s4⟩ := zss h (z1g (l := s.e) (i := (i : Int)) (by omega) (by omega))
    have hlen : v.length ≤ 1000 := by rw [hv]; simp; omega
    rw [z1n, if_pos (by simp; omega), z7 ⟨by omega, by omega⟩, z7 ⟨s1, s2⟩, z7 ⟨s1, s3⟩, z7 (zl3 (by simp; omega) (by omega)), s4, W_id (x := (i : Int) + 1) (by omega) (by omega)]
    refine hk _ ?_
    rw [hv, z0l s.e i hi, List.map_append]; rfl
  · intro f v hv
    rw [z1n, if_neg (by simp), hv, List.take_length]; rfl
/-- What solve answers. -/
def slv (φ : Nat) (p : Pool) (l : List zf) : zo × List zl × Int × Unit :=
  if z0b p ≠ 0 then (⟨0, [], [], []⟩, [], z0b p, ())
  else if 512 < (bsB φ p l).v ∨ 4096 < (bsB φ p l).b.length then (⟨0, [], [], []⟩, [], 2, ())
  else if 0 ≤ (low (bsB φ p l).v.toNat (bsB φ p l).b).z then (⟨0, [], [], []⟩, [], 230, ())
  else (⟨(bsB φ p l).v, (bsB φ p l).b, (bsB φ p l).y, (bsB φ p l).e⟩, visL (bsB φ p l), 0, ())
theorem Good.chk {s : BS} (h : Good s) : chkD s.v s.b = 0 := by
  have hv := h.v1
  have hv2 := h.v2
  have := zxe (n := s.v.toNat) (by omega) (by omega) h.bl h.ok
  rwa [show ((s.v.toNat : Nat) : Int) = s.v by omega] at this
theorem Good.solve {s : BS} (h : Good s) (φ : Nat) (hφ : 5001 < φ) : z8q φ s.v s.b = some (if 0 ≤ (low s.v.toNat s.b).z then ([], 230, ()) else ((low s.v.toNat s.b).x, 0, ())) := by
  rw [y2l φ hφ, h.chk, if_neg (by simp)]
theorem Good.dist {s : BS} (h : Good s) (φ : Nat) (hφ : 5001 < φ) (r : Bool) (y : List (Nat → Ref)) (e : List z0y) : z18 φ ⟨s.v, s.b, y, e⟩ r = some ((runD r s.b s.v.toNat ⟨d0 s.v.toNat 0, true⟩).d, ()) := by
  have hv := h.v1
  have hv2 := h.v2
  exact y5s φ hφ ⟨s.v, s.b, y, e⟩ r s.v.toNat (by simp only; omega) (by omega) (by omega) h.ok h.bl
theorem y0v (φ : Nat) (hφ : 800000 < φ) (p : Pool) {l : List zf} (hl : FewL l) : z5u φ p l = some (slv φ p l) := by
  unfold z5u slv
  rw [zt1 φ hφ p hl, Option.bind_some, show bAll (tvl φ p.network) p.readers (zj p l) = bsB φ p l from rfl]
  by_cases hc : z0b p = 0
  case neg => rw [if_neg hc, if_pos hc]; simp only; rw [if_pos (by simpa using hc)]
  rw [if_pos hc, if_neg (show ¬ z0b p ≠ 0 from fun h => h hc)]
  unfold bEnd
  by_cases hb : 512 < (bsB φ p l).v ∨ 4096 < (bsB φ p l).b.length
  · rw [if_pos hb, if_pos hb]; simp only; rw [if_pos (by simp)]
  rw [if_neg hb, if_neg hb]
  have hG := zrw hφ hc hl hb
  simp only
  generalize bsB φ p l = s at *
  rw [if_neg (by simp), hG.solve φ (by omega), Option.bind_some]
  by_cases hz : 0 ≤ (low s.v.toNat s.b).z
  · rw [if_pos hz, if_pos hz]; simp only; rw [if_pos (by simp)]
  rw [if_neg hz, if_neg hz]
  simp only
  rw [if_neg (by simp), hG.dist φ (by omega), Option.bind_some, hG.dist φ (by omega), Option.bind_some]
  exact zui φ hφ hG _
/-- What History answers. -/
def hst (φ : Nat) (p : Pool) (l : List zf) : List zl × Int × Unit :=
  if z0b p ≠ 0 then ([], z0b p, ())
  else if 512 < (bsB φ p l).v ∨ 4096 < (bsB φ p l).b.length then ([], 2, ())
  else if 0 ≤ (low (bsB φ p l).v.toNat (bsB φ p l).b).z then ([], 230, ())
  else (hisL (bsB φ p l), 0, ())
theorem y1r (φ : Nat) (hφ : 800000 < φ) {s : BS} (h : Good s) (x : zo) : z14 φ φ (zoa s) (zhl s) s.e (s.e.length : Int) 0 x [] = some (hisL s, 0, ()) := by
  have hel := h.el
  have hv2 := h.v2
  refine z04 (fun f i (v : List zl) => z14 φ f (zoa s) (zhl s) s.e (s.e.length : Int) i x v) s.e.length (fun i v => v = (s.e.take i).map (visE (z3b s) (z4k s))) (fun o => o = _) ?_ ?_ φ _ (by simp) (by omega)
  · intro f i v hi hv hk
    obtain ⟨s1, s2, s3, s4⟩ := zss h (z1g (l := s.e) (i := (i : Int)) (by omega) (by omega))
    have hlen : v.length ≤ 1000 := by rw [hv]; simp; omega
    rw [z14, if_pos (by simp; omega), z7 ⟨by omega, by omega⟩, z7 ⟨s1, s2⟩, z7 ⟨s1, s3⟩, z7 (zl3 (by simp; omega) (by omega)), s4, W_id (x := (i : Int) + 1) (by omega) (by omega)]
    refine hk _ ?_
    rw [hv, z0l s.e i hi, List.map_append]; rfl
  · intro f v hv
    rw [z14, if_neg (by simp)]
    rw [List.take_length] at hv
    have hlen : v.length = s.e.length := by rw [hv]; simp
    have hat : ∀ i : Nat, i < s.e.length → gt v (i : Int) = visE (z3b s) (z4k s) (gt s.e (i : Int)) := fun i hi => by
      rw [z3w (by omega), z3w hi]; simp [hv]
    refine z04 (fun f i (u : List zl) => z1o φ f 0 (v.length : Int) i u) v.length (fun i u => u.length = v.length ∧ ∀ j : Nat, j < v.length → gt u (j : Int) = if j < i then visE (z3b s) (z3b s) (gt s.e (j : Int)) else gt v (j : Int)) (fun o => o = _) ?_ ?_ φ v ⟨rfl, fun j hj => by rw [if_neg (by omega)]⟩ (by omega)
    · intro f i u hi ⟨hu, hg⟩ hk
      rw [z1o, if_pos (by simp; omega), z7 ⟨by omega, by omega⟩, z7 ⟨by omega, by omega⟩, W_id (x := (i : Int) + 1) (by omega) (by omega)]
      refine hk _ ⟨by rw [z0i]; exact hu, fun j hj => ?_⟩
      rw [z0c _ _ _ _ (by omega) (by omega) (by omega), hg j hj, hg i hi, if_neg (by omega : ¬ i < i)]
      by_cases e : j = i
      · subst e
        rw [if_pos rfl, if_pos (by omega), hat j (by omega)]; rfl
      · rw [if_neg (by omega)]
        by_cases e2 : j < i
        · rw [if_pos e2, if_pos (by omega)]
        · rw [if_neg e2, if_neg (by omega)]
    · intro f u ⟨hu, hg⟩
      rw [z1o, if_neg (by simp)]
      have : u = hisL s := y3g (by rw [hu, hlen]; simp [hisL]) fun i h0 h1 => by
        have := hg i.toNat (by omega)
        rw [if_pos (by omega), show ((i.toNat : Nat) : Int) = i by omega] at this
        rw [this]
        have hi : i.toNat < s.e.length := by omega
        have e := z3w (l := hisL s) (i := i.toNat) (by simp [hisL]; omega)
        rw [show ((i.toNat : Nat) : Int) = i by omega] at e
        have e2 := z3w (l := s.e) (i := i.toNat) hi
        rw [show ((i.toNat : Nat) : Int) = i by omega] at e2
        rw [e, e2]; simp [hisL]
      rw [this]
theorem zup (φ : Nat) (hφ : 800000 < φ) (p : Pool) {l : List zf} (hl : FewL l) : z43 φ p l = some (hst φ p l) := by
  unfold z43 hst
  rw [zt1 φ hφ p hl, Option.bind_some, show bAll (tvl φ p.network) p.readers (zj p l) = bsB φ p l from rfl]
  by_cases hc : z0b p = 0
  case neg =>
    rw [if_neg hc, if_pos hc]; simp only; rw [if_pos (by simpa using hc)]
    obtain ⟨f, rfl⟩ : ∃ f, φ = f + 1 := ⟨φ - 1, by omega⟩
    rw [z3u, if_neg (by simp)]
  rw [if_pos hc, if_neg (show ¬ z0b p ≠ 0 from fun h => h hc)]
  unfold bEnd
  by_cases hb : 512 < (bsB φ p l).v ∨ 4096 < (bsB φ p l).b.length
  · rw [if_pos hb, if_pos hb]; simp only; rw [if_pos (by simp)]
    obtain ⟨f, rfl⟩ : ∃ f, φ = f + 1 := ⟨φ - 1, by omega⟩
    rw [z3u, if_neg (by simp)]
  rw [if_neg hb, if_neg hb]
  have hG := zrw hφ hc hl hb
  simp only
  generalize bsB φ p l = s at *
  rw [if_neg (by simp), hG.solve φ (by omega), Option.bind_some]
  by_cases hz : 0 ≤ (low s.v.toNat s.b).z
  · rw [if_pos hz, if_pos hz]; simp only; rw [if_pos (by simp)]
    obtain ⟨f, rfl⟩ : ∃ f, φ = f + 1 := ⟨φ - 1, by omega⟩
    rw [z5k, if_neg (by simp)]
  rw [if_neg hz, if_neg hz]
  simp only
  rw [if_neg (by simp), hG.dist φ (by omega), Option.bind_some, hG.dist φ (by omega), Option.bind_some]
  exact y1r φ hφ hG _
/-- Whether there is a solution. -/
theorem Good.sol {s : BS} (h : Good s) : (low s.v.toNat s.b).z < 0 ↔ ∃ X, SolF s X := by
  have hv := h.v1
  constructor
  · exact fun hz => ⟨gt (low s.v.toNat s.b).x, fun b hb => y6i (by omega) h.ok hz hb⟩
  · rintro ⟨X, hX⟩
    exact y0z (by omega) h.ok X hX
end Px
end
section
namespace Px
open Go
set_option linter.unusedVariables false
set_option linter.unusedSimpArgs false
def plE (s : BS) (k : Nat) : Int := (gt s.e (k : Int)).place
def vrE (s : BS) (k : Nat) : Int := (gt s.e (k : Int)).var
def stE (s : BS) (k : Nat) : Bool := (gt s.e (k : Int)).stay
def wgE (s : BS) (k : Nat) : Int := (gt s.e (k : Int)).wagon
/-- The events of a wagon are those from f to e - 1. -/
structure RunW (s : BS) (w : Int) (f e : Nat) : Prop where
  fe : f ≤ e
  el : e ≤ s.e.length
  own : ∀ k, f ≤ k → k < e → wgE s k = w
  lo : ∀ k, k < f → wgE s k < w
  nf : f < s.e.length → w ≤ wgE s f
  ne : e < s.e.length → wgE s e ≠ w
theorem RunW.uniq {s : BS} {w : Int} {f e f' e' : Nat} (h : RunW s w f e) (h' : RunW s w f' e') : f = f' ∧ e = e' := by
  have a1 := h.fe
  have a2 := h.el
  have b1 := h'.fe
  have b2 := h'.el
  have hf : f = f' := by
    by_cases q : f < f'
    · have := h.nf (by omega)
      have := h'.lo f q
      omega
    · by_cases q' : f' < f
      · have := h'.nf (by omega)
        have := h.lo f' q'
        omega
      · omega
  subst hf
  refine ⟨rfl, ?_⟩
  by_cases q : e < e'
  · exact absurd (h'.own e a1 q) (h.ne (by omega))
  · by_cases q' : e' < e
    · exact absurd (h.own e' b1 q') (h'.ne (by omega))
    · omega
theorem zja {s : BS} {E T : Int → Int} {k : Nat} (h : k < s.e.length) : gt (s.e.map (visE E T)) (k : Int) = ⟨wgE s k, plE s k, (gt s.e (k : Int)).ref, stE s k, E (vrE s k), T (vrE s k)⟩ := by
  rw [z3w (by simpa using h)]
  simp only [List.getElem_map, visE, wgE, plE, stE, vrE, z3w h]
section
variable {φ : Nat} (hφ : 800000 < φ) {p : Pool} (hc : z0b p = 0) {l : List zf} (hl : FewL l)
include hφ hc hl
theorem zw8 (hG : Good (bsB φ p l)) {X : Int → Int} (hX : SolF (bsB φ p l) X) {w : Int} {f e : Nat} (hR : RunW (bsB φ p l) w f e) :
    EvC φ p.network (bsB φ p l) (z3b (bsB φ p l)) (z4k (bsB φ p l)) (plE (bsB φ p l)) (vrE (bsB φ p l)) (stE (bsB φ p l)) f e := by
  have hel := hR.el
  refine ⟨fun k k1 k2 => ?_, hG.ets hX, fun k k1 k2 => ?_⟩
  · have := y2q hc hl (tv := tvl φ p.network) (ev := gt (bsB φ p l).e (k : Int)) (z1g (l := (bsB φ p l).e) (by omega) (by omega))
    exact ⟨this.1, by unfold vrE; omega, this.2.2.1⟩
  · have ha := zw6 (l := (bsB φ p l).e) (i := k) (by omega)
    have hb := zw6 (l := (bsB φ p l).e) (i := k + 1) (by omega)
    have o1 := (y2q hc hl (tv := tvl φ p.network) (ev := gt (bsB φ p l).e (k : Int)) (z1g (l := (bsB φ p l).e) (by omega) (by omega))).1
    have o2 := (y2q hc hl (tv := tvl φ p.network) (ev := gt (bsB φ p l).e ((k + 1 : Nat) : Int)) (z1g (l := (bsB φ p l).e) (by omega) (by omega))).1
    have hw : wgE (bsB φ p l) k = wgE (bsB φ p l) (k + 1) := by rw [hR.own k k1 (by omega), hR.own (k + 1) (by omega) k2]
    obtain ⟨t, t1, t2, t3⟩ := y9h hφ hc hl rfl hX ha hb hw
    have hn := (z7b hc).1
    refine ⟨t, t1, (zps hφ hn o1 o2 t1).1, fun Y hY => ?_, t3, fun hne => zzb hφ hn o1 o2 hne t1⟩
    obtain ⟨t', u1, u2, _⟩ := y9h hφ hc hl rfl hY ha hb hw
    rw [t1] at u1; cases u1
    exact u2
end
/-- The error of a question. -/
def zbv (φ : Nat) (p : Pool) (l : List zf) (w m : Int) : Int :=
  if z0b p ≠ 0 then z0b p else if w < 0 ∨ (p.fleet.wagons.length : Int) ≤ w ∨ m < 0 ∨ 1073741824 < m then 1 else (slv φ p l).2.2.1
theorem zx0 {φ : Nat} (hφ : 800000 < φ) {p : Pool} (hc : z0b p = 0) {l : List zf} (hl : FewL l) :
    (slv φ p l = (⟨0, [], [], []⟩, [], (slv φ p l).2.2.1, ()) ∧ (slv φ p l).2.2.1 ≠ 0) ∨
    (slv φ p l = (⟨(bsB φ p l).v, (bsB φ p l).b, (bsB φ p l).y, (bsB φ p l).e⟩, visL (bsB φ p l), 0, ()) ∧ Good (bsB φ p l) ∧ ∃ X, SolF (bsB φ p l) X) := by
  unfold slv
  rw [if_neg (by simpa using hc)]
  by_cases hb : 512 < (bsB φ p l).v ∨ 4096 < (bsB φ p l).b.length
  · rw [if_pos hb]; exact .inl ⟨rfl, by simp⟩
  rw [if_neg hb]
  have hG := zrw hφ hc hl hb
  by_cases hz : 0 ≤ (low (bsB φ p l).v.toNat (bsB φ p l).b).z
  · rw [if_pos hz]; exact .inl ⟨rfl, by simp⟩
  rw [if_neg hz]
  exact .inr ⟨rfl, hG, hG.sol.1 (by omega)⟩
/-- What a question finds. -/
structure zvw (φ : Nat) (p : Pool) (l : List zf) (w m : Int) : Prop where
  hc : z0b p = 0
  w0 : 0 ≤ w
  w1 : w < (p.fleet.wagons.length : Int)
  m0 : 0 ≤ m
  m1 : m ≤ 1073741824
  good : Good (bsB φ p l)
  sol : ∃ X, SolF (bsB φ p l) X
theorem y3x (φ : Nat) (hφ : 800000 < φ) (p : Pool) {l : List zf} (hl : FewL l) (w m : Int) :
    (zbv φ p l w m ≠ 0 ∧ ∃ x v f e, z7d φ p l w m = some (x, v, f, e, zbv φ p l w m, ())) ∨
    (zbv φ p l w m = 0 ∧ zvw φ p l w m ∧ ∃ f e : Nat, RunW (bsB φ p l) w f e ∧ z7d φ p l w m = some (⟨(bsB φ p l).v, (bsB φ p l).b, (bsB φ p l).y, (bsB φ p l).e⟩, visL (bsB φ p l), (f : Int), (e : Int), 0, ())) := by
  unfold z7d zbv
  rw [z6i φ hφ, Option.bind_some]
  by_cases hc : z0b p = 0
  case neg =>
    simp only [if_pos (show z0b p ≠ 0 from hc)]
    rw [if_pos (show (z0b p != 0) = true by simpa using hc)]
    exact .inl ⟨hc, _, _, _, _, rfl⟩
  simp only [if_neg (show ¬ z0b p ≠ 0 from fun h => h hc)]
  rw [if_neg (show ¬ (z0b p != 0) = true by simpa using hc)]
  by_cases ha : w < 0 ∨ (p.fleet.wagons.length : Int) ≤ w ∨ m < 0 ∨ 1073741824 < m
  · simp only [if_pos ha]
    rw [if_pos (by simp only [Bool.or_eq_true, decide_eq_true_eq]; omega)]
    exact .inl ⟨by omega, _, _, _, _, rfl⟩
  simp only [if_neg ha]
  rw [if_neg (by simp only [Bool.or_eq_true, decide_eq_true_eq]; omega), y0v φ hφ p hl, Option.bind_some]
  obtain ⟨f0, rfl⟩ : ∃ f, φ = f + 1 := ⟨φ - 1, by omega⟩
  rcases zx0 hφ hc hl with ⟨h1, h2⟩ | ⟨h1, h2, h3⟩
  · refine .inl ⟨h2, ?_⟩
    generalize hq : (slv (f0 + 1) p l).2.2.1 = q at *
    rw [h1]
    simp only
    rw [z2i, z7 (by simp), if_neg (by simp), z2f, z7 (by simp), if_neg (by simp)]
    exact ⟨_, _, _, _, rfl⟩
  · refine .inr ⟨by rw [h1], ⟨hc, by omega, by omega, by omega, by omega, h2, h3⟩, ?_⟩
    rw [h1]
    simp only
    generalize hs : bsB (f0 + 1) p l = s at *
    have hel := h2.el
    have hv2 := h2.v2
    have hvl : (visL s).length = s.e.length := by simp [visL]
    have hat : ∀ k : Nat, k < s.e.length → (gt (visL s) (k : Int)).wagon = wgE s k := fun k hk => by unfold visL; rw [zja hk]
    -- the first event
    have key : ∀ (n i : Nat), s.e.length - i < n → i ≤ s.e.length → (∀ k, k < i → wgE s k < w) → ∃ f : Nat, f ≤ s.e.length ∧ (∀ k, k < f → wgE s k < w) ∧ (f < s.e.length → w ≤ wgE s f) ∧
        z2i (f0 + 1) n w (visL s) (i : Int) 0 ⟨s.v, s.b, s.y, s.e⟩ = z2f (f0 + 1) (f0 + 1) w (visL s) (f : Int) (f : Int) 0 ⟨s.v, s.b, s.y, s.e⟩ := by
      intro n
      induction n with
      | zero => intro i h; omega
      | succ n ih =>
        intro i hn hi hlo
        rw [z2i, hvl]
        by_cases q : i < s.e.length
        · rw [z7 (fun _ => ⟨by omega, by omega⟩), hat i q]
          by_cases q2 : wgE s i < w
          · rw [if_pos (by simp only [Bool.and_eq_true, decide_eq_true_eq]; omega), W_id (x := (i : Int) + 1) (by omega) (by omega)]
            exact ih (i + 1) (by omega) (by omega) fun k hk => by
              by_cases e : k = i
              · subst e; exact q2
              · exact hlo k (by omega)
          · rw [if_neg (by simp only [Bool.and_eq_true, decide_eq_true_eq]; omega)]
            exact ⟨i, hi, hlo, fun _ => by omega, rfl⟩
        · rw [z7 (fun h => absurd h (by simp; omega)), if_neg (by simp only [Bool.and_eq_true, decide_eq_true_eq]; omega)]
          exact ⟨i, hi, hlo, fun h => absurd h q, rfl⟩
    obtain ⟨f, g1, g2, g3, g4⟩ := key (f0 + 1) 0 (by omega) (by omega) (fun k hk => by omega)
    have key2 : ∀ (n i : Nat), s.e.length - i < n → f ≤ i → i ≤ s.e.length → (∀ k, f ≤ k → k < i → wgE s k = w) → ∃ e : Nat, f ≤ e ∧ e ≤ s.e.length ∧ (∀ k, f ≤ k → k < e → wgE s k = w) ∧ (e < s.e.length → wgE s e ≠ w) ∧
        z2f (f0 + 1) n w (visL s) (f : Int) (i : Int) 0 ⟨s.v, s.b, s.y, s.e⟩ = some (⟨s.v, s.b, s.y, s.e⟩, visL s, (f : Int), (e : Int), 0, ()) := by
      intro n
      induction n with
      | zero => intro i h; omega
      | succ n ih =>
        intro i hn hf hi hlo
        rw [z2f, hvl]
        by_cases q : i < s.e.length
        · rw [z7 (fun _ => ⟨by omega, by omega⟩), hat i q]
          by_cases q2 : wgE s i = w
          · rw [if_pos (by simp only [Bool.and_eq_true, decide_eq_true_eq, beq_iff_eq]; omega), W_id (x := (i : Int) + 1) (by omega) (by omega)]
            exact ih (i + 1) (by omega) (by omega) (by omega) fun k hk1 hk => by
              by_cases e : k = i
              · subst e; exact q2
              · exact hlo k hk1 (by omega)
          · rw [if_neg (by simp only [Bool.and_eq_true, decide_eq_true_eq, beq_iff_eq]; omega)]
            exact ⟨i, hf, hi, hlo, fun _ => q2, rfl⟩
        · rw [z7 (fun h => absurd h (by simp; omega)), if_neg (by simp only [Bool.and_eq_true, decide_eq_true_eq, beq_iff_eq]; omega)]
          exact ⟨i, hf, hi, hlo, fun h => absurd h q, rfl⟩
    obtain ⟨e, k1, k2, k3, k4, k5⟩ := key2 (f0 + 1) f (by omega) (Nat.le_refl _) g1 (fun k h1 h2 => by omega)
    refine ⟨f, e, ⟨k1, k2, k3, g2, g3, k4⟩, ?_⟩
    have g4' : z2i (f0 + 1) (f0 + 1) w (visL s) 0 0 ⟨s.v, s.b, s.y, s.e⟩ = _ := g4
    rw [g4', k5]
/-- What Certain answers. -/
theorem ztw (φ : Nat) (hφ : 800000 < φ) (p : Pool) {l : List zf} (hl : FewL l) (w m : Int) :
    ∃ a ok, zb φ p l w m = some (a, ok, zbv φ p l w m, ()) ∧ (zbv φ p l w m ≠ 0 → a = 0 ∧ ok = false) ∧
      (zbv φ p l w m = 0 → zvw φ p l w m ∧ ∃ f e : Nat, RunW (bsB φ p l) w f e ∧
        ((ok = true ∧ ∃ r i, zqy (z3b (bsB φ p l)) (z4k (bsB φ p l)) (vrE (bsB φ p l)) (stE (bsB φ p l)) m f e r i ∧ a = plE (bsB φ p l) r) ∨
         (ok = false ∧ a = 0 ∧ ∀ r i, ¬ zqy (z3b (bsB φ p l)) (z4k (bsB φ p l)) (vrE (bsB φ p l)) (stE (bsB φ p l)) m f e r i))) := by
  unfold zb
  rcases y3x φ hφ p hl w m with ⟨h1, x, v, f, e, h2⟩ | ⟨h1, hA, f, e, hR, h2⟩
  · rw [h2, Option.bind_some]
    simp only
    rw [if_pos (by simpa using h1)]
    exact ⟨_, _, rfl, fun _ => ⟨rfl, rfl⟩, fun h => absurd h h1⟩
  · rw [h2, Option.bind_some, h1]
    simp only
    rw [if_neg (by simp)]
    obtain ⟨X, hX⟩ := hA.sol
    have hG := hA.good
    have hE := zw8 hφ hA.hc hl hG hX hR
    generalize bsB φ p l = s at *
    have hel := hG.el
    have hv2 := hG.v2
    have r1 := hR.fe
    have r2 := hR.el
    have hvl : (visL s).length = s.e.length := by simp [visL]
    suffices key : ∀ (n i run : Nat), e - i < n → f ≤ run → run ≤ i → i ≤ e → (∀ k, run ≤ k → k < i → stE s k = true) → (run = f ∨ stE s (run - 1) = false) → (∀ r j, zqy (z3b s) (z4k s) (vrE s) (stE s) m f e r j → i ≤ j) →
        ∃ a ok, z1p φ n m (visL s) (run : Int) (e : Int) (i : Int) = some (a, ok, 0, ()) ∧ ((ok = true ∧ ∃ r i, zqy (z3b s) (z4k s) (vrE s) (stE s) m f e r i ∧ a = plE s r) ∨ (ok = false ∧ a = 0 ∧ ∀ r i, ¬ zqy (z3b s) (z4k s) (vrE s) (stE s) m f e r i)) by
      obtain ⟨a, ok, k1, k2⟩ := key φ f f (by omega) (Nat.le_refl _) (Nat.le_refl _) r1 (fun k h1 h2 => by omega) (.inl rfl) (fun r j hC => by have := hC.cf; have := hC.ci; omega)
      exact ⟨a, ok, k1, fun h => absurd rfl h, fun _ => ⟨hA, f, e, hR, k2⟩⟩
    intro n
    induction n with
    | zero => intro i run h; omega
    | succ n ih =>
      intro i run hn hf hr hi hst hpre hno
      rw [z1p]
      by_cases q : i < e
      · have hvi : gt (visL s) (i : Int) = _ := zja (E := z3b s) (T := z4k s) (k := i) (by omega)
        rw [if_pos (by simp; omega), hvl, z7 ⟨by omega, by omega⟩, hvi]
        cases hs : stE s i with
        | true =>
          rw [if_pos rfl, W_id (x := (i : Int) + 1) (by omega) (by omega)]
          refine ih (i + 1) run (by omega) hf (by omega) (by omega) (fun k k1 k2 => ?_) hpre fun r j hC => ?_
          · by_cases e : k = i
            · subst e; exact hs
            · exact hst k k1 (by omega)
          · have := hno r j hC
            by_cases e : j = i
            · subst e; have := hC.cns; rw [hs] at this; cases this
            · omega
        | false =>
          have hvr : gt (visL s) (run : Int) = _ := zja (E := z3b s) (T := z4k s) (k := run) (by omega)
          rw [if_neg (by simp), z7 ⟨by omega, by omega⟩, z7 (fun _ => ⟨by omega, by omega⟩), hvr]
          by_cases h : z4k s (vrE s run) ≤ m ∧ m ≤ z3b s (vrE s i)
          · rw [if_pos (by simpa using h), z7 ⟨by omega, by omega⟩]
            exact ⟨_, _, rfl, .inl ⟨rfl, run, i, ⟨hf, hr, q, hst, hs, h.1, h.2⟩, rfl⟩⟩
          · rw [if_neg (by simpa using h), W_id (x := (i : Int) + 1) (by omega) (by omega)]
            refine ih (i + 1) (i + 1) (by omega) (by omega) (Nat.le_refl _) (by omega) (fun k k1 k2 => by omega) (.inr (by simpa using hs)) fun r j hC => ?_
            have := hno r j hC
            by_cases e : j = i
            · exfalso
              subst e
              have hrr : run ≤ r := by
                by_cases z : run ≤ r
                · exact z
                · rcases hpre with z2 | z2
                  · have := hC.cf; omega
                  · have := hC.cst (run - 1) (by omega) (by omega)
                    rw [z2] at this; cases this
              have := (hE.mono hE.ets.tS hf hrr (by have := hC.ci; omega)).1
              have := hC.cl
              exact h ⟨by omega, hC.ch⟩
            · omega
      · rw [if_neg (by simp; omega)]
        exact ⟨_, _, rfl, .inr ⟨rfl, rfl, fun r j hC => by have := hno r j hC; have := hC.ce; omega⟩⟩
/-- The greatest time of a gap. -/
def gapT (s : BS) (k : Nat) : Int := gt (runT s.b s.v.toNat (t0 s.v.toNat (vrE s k))).d (vrE s (k + 1))
theorem zow {s : BS} (h : Good s) {X : Int → Int} (hX : SolF s X) (φ : Nat) (hφ : 5001 < φ) {k : Nat} (hk : k + 1 < s.e.length) :
    z8p φ s.v s.b (vrE s k) (vrE s (k + 1)) = some (gapT s k, true, 0, ()) ∧ -2305843009213693952 ≤ gapT s k ∧ gapT s k ≤ 2305843009213693952 ∧ ∃ Y, SolF s Y ∧ Y (vrE s k) = 0 ∧ Y (vrE s (k + 1)) = gapT s k ∧ ∀ X, SolF s X → ∀ v, 0 ≤ v → v < s.v → X v - X (vrE s k) ≤ Y v := by
  have hv := h.v1
  have hv2 := h.v2
  obtain ⟨i1, i2⟩ := h.ev (gt s.e (k : Int)) (z1g (by omega) (by omega))
  obtain ⟨j1, j2⟩ := h.ev (gt s.e ((k + 1 : Nat) : Int)) (z1g (by omega) (by omega))
  change 1 ≤ vrE s k at i1
  change vrE s k < s.v at i2
  change 1 ≤ vrE s (k + 1) at j1
  change vrE s (k + 1) < s.v at j2
  obtain ⟨g1, g2, g3, g4⟩ := zuz (n := s.v.toNat) h.ok h.conn (zfm.1 hX) (u := vrE s k) (by omega) (by omega)
  have e := zzx φ hφ s.b s.v.toNat (by omega) (by omega) h.ok h.bl (h.sol.2 ⟨X, hX⟩) (i := vrE s k) (j := vrE s (k + 1)) (by omega) (by omega)
  rw [show ((s.v.toNat : Nat) : Int) = s.v by omega] at e
  have hb := (zs0 h.ok (y6l h.ok (zfm.1 hX) (u := (vrE s k).toNat) (by omega)) s.v.toNat 0 0 (t0 s.v.toNat (vrE s k)) y6z (y9s (by omega) (by omega)) (by omega)).1
  have hm := Nat.mul_le_mul (show s.v.toNat ≤ 512 by omega) h.bl
  have hb2 := (hb.up (e := 2097152) (by omega)).bd (vrE s (k + 1)) (by omega) (by omega)
  refine ⟨?_, ?_, ?_, _, zfm.2 g3.sat, g3.zero, rfl, fun Z hZ v v0 v1 => g3.top Z (zfm.1 hZ) v v0 (by omega)⟩
  · rw [e, g4 _ (by omega) (by omega), if_pos rfl]; rfl
  · unfold gapT; omega
  · unfold gapT; omega
/-- What Possible answers. -/
structure PosL (φ : Nat) (p : Pool) (s : BS) (f e : Nat) (m : Int) (L : List Int) : Prop where
  inc : L.Pairwise (· < ·)
  mem : ∀ q, q ∈ L ↔ okPl p.network q ∧ PosW φ p.network (z3b s) (z4k s) (gapT s) (plE s) (vrE s) (stE s) f e m q
theorem zrt (φ : Nat) (hφ : 800000 < φ) (p : Pool) {l : List zf} (hl : FewL l) (w m : Int) :
    ∃ L, z3l φ p l w m = some (L, zbv φ p l w m, ()) ∧ (zbv φ p l w m ≠ 0 → L = []) ∧
      (zbv φ p l w m = 0 → zvw φ p l w m ∧ ∃ f e : Nat, RunW (bsB φ p l) w f e ∧ PosL φ p (bsB φ p l) f e m L ∧ L.length ≤ p.network.places.length) := by
  unfold z3l
  rcases y3x φ hφ p hl w m with ⟨h1, x, v, f, e, h2⟩ | ⟨h1, hA, f, e, hR, h2⟩
  · rw [h2, Option.bind_some]
    simp only
    rw [if_pos (by simpa using h1)]
    exact ⟨_, rfl, fun _ => rfl, fun h => absurd h h1⟩
  · rw [h2, Option.bind_some, h1]
    simp only
    rw [if_neg (by simp)]
    obtain ⟨X, hX⟩ := hA.sol
    have hG := hA.good
    have hE := zw8 hφ hA.hc hl hG hX hR
    have hn := (z7b hA.hc).1
    have hP := (zes hn).1
    generalize bsB φ p l = s at *
    have hel := hG.el
    have hv2 := hG.v2
    have r1 := hR.fe
    have r2 := hR.el
    have m0 := hA.m0
    have m1 := hA.m1
    have hvl : (visL s).length = s.e.length := by simp [visL]
    -- the two questions of a place
    have p1 : ∀ (k : Nat) (q : Int), f ≤ k → k < e → okPl p.network q → ∃ w b, z2w φ (k : Int) q p (visL s) m = some (w, b, ()) ∧ (b = true ↔ znf φ p.network (z3b s) (plE s) (vrE s) m q k) ∧ (b = true → Dst φ p.network (plE s k) q = some w) ∧ 0 ≤ w ∧ w ≤ 51200000 := by
      intro k q k1 k2 hq
      have hv : gt (visL s) (k : Int) = _ := zja (E := z3b s) (T := z4k s) (k := k) (by omega)
      unfold z2w
      rw [hvl, z7 ⟨by omega, by omega⟩, hv]
      simp only
      rw [zjf hφ hn (hE.ok k k1 k2).1 hq, Option.bind_some, z7 (fun _ => ⟨by omega, by omega⟩)]
      cases hd : Dst φ p.network (plE s k) q with
      | none => exact ⟨_, _, rfl, by simp [znf, hd], by simp, by simp, by simp⟩
      | some t =>
        have ht := zps hφ hn (hE.ok k k1 k2).1 hq hd
        simp only
        rw [W_id (x := m - t) (by omega) (by omega)]
        refine ⟨_, _, rfl, ?_, fun _ => rfl, ht.1, ht.2⟩
        simp only [znf, hd, Option.some.injEq, exists_eq_left', beq_self_eq_true, Bool.true_and, decide_eq_true_eq]
        omega
    have p2 : ∀ (k : Nat) (q : Int), f ≤ k → k < e → okPl p.network q → ∃ w b, z2u φ (k : Int) q p (visL s) m = some (w, b, ()) ∧ (b = true ↔ znt φ p.network (z4k s) (plE s) (vrE s) m q k) ∧ (b = true → Dst φ p.network q (plE s k) = some w) ∧ 0 ≤ w ∧ w ≤ 51200000 := by
      intro k q k1 k2 hq
      have hv : gt (visL s) (k : Int) = _ := zja (E := z3b s) (T := z4k s) (k := k) (by omega)
      unfold z2u
      rw [hvl, z7 ⟨by omega, by omega⟩, hv]
      simp only
      rw [zjf hφ hn hq (hE.ok k k1 k2).1, Option.bind_some, z7 (fun _ => ⟨by omega, by omega⟩)]
      cases hd : Dst φ p.network q (plE s k) with
      | none => exact ⟨_, _, rfl, by simp [znt, hd], by simp, by simp, by simp⟩
      | some t =>
        have ht := zps hφ hn hq (hE.ok k k1 k2).1 hd
        simp only
        rw [W_id (x := m + t) (by omega) (by omega)]
        refine ⟨_, _, rfl, ?_, fun _ => rfl, ht.1, ht.2⟩
        simp only [znt, hd, Option.some.injEq, exists_eq_left', beq_self_eq_true, Bool.true_and, decide_eq_true_eq]
    have gaps : ∀ (K : Int → Int → Int → Int → List Int → zo → List zl → Pool → Int → Option (List Int × Int × Unit)) (q x23 : Int) (acc : List Int), okPl p.network q → acc.length ≤ 1000 → ∀ (n i : Nat), e - i < n → f ≤ i → i ≤ e → (∀ k, f ≤ k → k + 1 < e → k < i → ¬ gapW φ p.network (z3b s) (z4k s) (gapT s) (plE s) (vrE s) (stE s) m q k) →
        ∃ b : Bool, (b = true ↔ ∃ k, f ≤ k ∧ k + 1 < e ∧ gapW φ p.network (z3b s) (z4k s) (gapT s) (plE s) (vrE s) (stE s) m q k) ∧
          z1d φ K n (f : Int) (e : Int) q (i : Int) (p.network.places.length : Int) x23 acc ⟨s.v, s.b, s.y, s.e⟩ (visL s) p m = K (f : Int) (e : Int) (p.network.places.length : Int) (W (x23 + 1)) (if b = true then acc ++ [q] else acc) ⟨s.v, s.b, s.y, s.e⟩ (visL s) p m := by
      intro K q x23 acc hq hacc n
      induction n with
      | zero => intro i h; omega
      | succ n ih =>
        intro i hn' hf hi hno
        have hWi : W ((i : Int) + 1) = ((i + 1 : Nat) : Int) := by rw [W_id (by omega) (by omega)]; omega
        rw [z1d, hWi]
        by_cases qe : i + 1 < e
        · obtain ⟨w1, b1, e1, c1, d1, _, _⟩ := p1 i q hf (by omega) hq
          obtain ⟨w2, b2, e2, c2, d2, _, _⟩ := p2 (i + 1) q (by omega) qe hq
          have hv : gt (visL s) (i : Int) = _ := zja (E := z3b s) (T := z4k s) (k := i) (by omega)
          rw [if_pos (by simp; omega), e1, Option.bind_some, e2, Option.bind_some, hvl, z7 (fun _ => ⟨by omega, by omega⟩), z7 (fun _ => ⟨by omega, by omega⟩), hv]
          simp only
          have next : ¬ gapW φ p.network (z3b s) (z4k s) (gapT s) (plE s) (vrE s) (stE s) m q i → ∀ k, f ≤ k → k + 1 < e → k < i + 1 → ¬ gapW φ p.network (z3b s) (z4k s) (gapT s) (plE s) (vrE s) (stE s) m q k := fun hg k k1 k2 k3 => by
            by_cases e : k = i
            · subst e; exact hg
            · exact hno k k1 k2 (by omega)
          by_cases hcond : (((!b1) || (!b2)) || (stE s i && (q != plE s i))) = true
          · rw [if_pos hcond]
            refine ih (i + 1) (by omega) (by omega) (by omega) (next ?_)
            rintro ⟨a, b, g1, g2, g3, g4, g5, g6⟩
            have t1 : b1 = true := c1.2 ⟨a, g1, g2⟩
            have t2 : b2 = true := c2.2 ⟨b, g3, g4⟩
            rw [t1, t2] at hcond
            simp only [Bool.not_true, Bool.false_or, Bool.and_eq_true, bne_iff_ne, ne_eq] at hcond
            exact hcond.2 (g5 hcond.1)
          · rw [if_neg hcond]
            simp only [Bool.or_eq_true, Bool.not_eq_true', Bool.and_eq_true, bne_iff_ne, ne_eq, not_or, not_and, Decidable.not_not, Bool.not_eq_false] at hcond
            obtain ⟨⟨t1, t2⟩, t3⟩ := hcond
            obtain ⟨tg, tl, th, _⟩ := zow hG hX φ (by omega) (k := i) (by omega)
            rw [z7 ⟨by omega, by omega⟩, z7 ⟨by omega, by omega⟩]
            change ∃ b : Bool, _ ∧ (z8p φ s.v s.b (vrE s i) (vrE s (i + 1))).bind _ = _
            rw [tg, Option.bind_some, W_id (x := w1 + w2) (by omega) (by omega)]
            simp only
            have hl1 := d1 t1
            have hl2 := d2 t2
            obtain ⟨y1, z1, z2⟩ := c1.1 t1
            obtain ⟨y2, z3, z4⟩ := c2.1 t2
            rw [hl1] at z1; cases z1
            rw [hl2] at z3; cases z3
            by_cases hle : w1 + w2 ≤ gapT s i
            · rw [if_pos (by simpa using hle), z7 (zl3 (by simp; omega) (by omega))]
              refine ⟨true, ⟨fun _ => ⟨i, hf, qe, w1, w2, hl1, z2, hl2, z4, t3, hle⟩, fun _ => rfl⟩, ?_⟩
              rw [if_pos rfl]
            · rw [if_neg (by simpa using hle)]
              refine ih (i + 1) (by omega) (by omega) (by omega) (next ?_)
              rintro ⟨a, b, g1, g2, g3, g4, g5, g6⟩
              rw [hl1] at g1; cases g1
              rw [hl2] at g3; cases g3
              exact hle g6
        · rw [if_neg (by simp; omega)]
          refine ⟨false, ⟨fun h => (by cases h), ?_⟩, by rw [if_neg (by simp)]⟩
          rintro ⟨k, k1, k2, k3⟩
          exact absurd k3 (hno k k1 k2 (by omega))
    suffices key : ∃ L, zx φ φ (f : Int) (e : Int) (p.network.places.length : Int) 0 [] ⟨s.v, s.b, s.y, s.e⟩ (visL s) p m = some (L, 0, ()) ∧ PosL φ p s f e m L ∧ L.length ≤ p.network.places.length by
      obtain ⟨L, k1, k2, k3⟩ := key
      exact ⟨L, k1, fun h => absurd rfl h, fun _ => ⟨hA, f, e, hR, k2, k3⟩⟩
    refine z04 (fun n i (L : List Int) => zx φ n (f : Int) (e : Int) (p.network.places.length : Int) i L ⟨s.v, s.b, s.y, s.e⟩ (visL s) p m) p.network.places.length
      (fun i L => L.length ≤ i ∧ L.Pairwise (· < ·) ∧ ∀ q, q ∈ L ↔ 0 ≤ q ∧ q < (i : Int) ∧ PosW φ p.network (z3b s) (z4k s) (gapT s) (plE s) (vrE s) (stE s) f e m q) (fun o => ∃ L, o = some (L, 0, ()) ∧ PosL φ p s f e m L ∧ L.length ≤ p.network.places.length) ?_ ?_ φ [] ⟨by simp, by simp, fun q => ⟨fun h => (by cases h), fun h => by omega⟩⟩ (by omega)
    · intro n i L hi ⟨hlen, hpw, hmem⟩ hk
      have hq : okPl p.network (i : Int) := ⟨by omega, by omega⟩
      have yes : PosW φ p.network (z3b s) (z4k s) (gapT s) (plE s) (vrE s) (stE s) f e m i → (L ++ [(i : Int)]).length ≤ i + 1 ∧ (L ++ [(i : Int)]).Pairwise (· < ·) ∧ ∀ q, q ∈ L ++ [(i : Int)] ↔ 0 ≤ q ∧ q < ((i + 1 : Nat) : Int) ∧ PosW φ p.network (z3b s) (z4k s) (gapT s) (plE s) (vrE s) (stE s) f e m q := fun hp => by
        refine ⟨by simp; omega, List.pairwise_append.2 ⟨hpw, by simp, fun a ha b hb => ?_⟩, fun q => ?_⟩
        · rw [List.mem_singleton] at hb
          have := (hmem a).1 ha
          omega
        · rw [List.mem_append, List.mem_singleton, hmem q]
          constructor
          · rintro (⟨h1, h2, h3⟩ | rfl)
            · exact ⟨h1, by omega, h3⟩
            · exact ⟨by omega, by omega, hp⟩
          · rintro ⟨h1, h2, h3⟩
            by_cases z : q = (i : Int)
            · exact .inr z
            · exact .inl ⟨h1, by omega, h3⟩
      have no : ¬ PosW φ p.network (z3b s) (z4k s) (gapT s) (plE s) (vrE s) (stE s) f e m i → L.length ≤ i + 1 ∧ L.Pairwise (· < ·) ∧ ∀ q, q ∈ L ↔ 0 ≤ q ∧ q < ((i + 1 : Nat) : Int) ∧ PosW φ p.network (z3b s) (z4k s) (gapT s) (plE s) (vrE s) (stE s) f e m q := fun hp => by
        refine ⟨by omega, hpw, fun q => ?_⟩
        rw [hmem q]
        constructor
        · rintro ⟨h1, h2, h3⟩
          exact ⟨h1, by omega, h3⟩
        · rintro ⟨h1, h2, h3⟩
          by_cases z : q = (i : Int)
          · subst z; exact absurd h3 hp
          · exact ⟨h1, by omega, h3⟩
      have hWi : W ((i : Int) + 1) = (i : Int) + 1 := W_id (by omega) (by omega)
      have hfit : fits (L.length + ([(i : Int)] : List Int).length) 8 := zl3 (by simp; omega) (by omega)
      rw [zx, if_pos (by simp; omega), hWi]
      by_cases hfe : f = e
      · rw [if_pos (by simp [hfe]), z7 hfit]
        exact hk _ (yes (.inl hfe))
      · rw [if_neg (by simp; omega)]
        obtain ⟨w2, b2, e2, c2, _, _, _⟩ := p2 f i (Nat.le_refl _) (by omega) hq
        rw [e2, Option.bind_some]
        cases b2 with
        | true =>
          rw [if_pos rfl, z7 hfit]
          exact hk _ (yes (.inr (.inl (c2.1 rfl))))
        | false =>
          rw [if_neg (by simp)]
          obtain ⟨w1, b1, e1, c1, _, _, _⟩ := p1 (e - 1) i (by omega) (by omega) hq
          rw [show W ((e : Int) - 1) = ((e - 1 : Nat) : Int) by rw [W_id (by omega) (by omega)]; omega, e1, Option.bind_some]
          cases b1 with
          | true =>
            rw [if_pos rfl, z7 hfit]
            exact hk _ (yes (.inr (.inr (.inl (c1.1 rfl)))))
          | false =>
            rw [if_neg (by simp)]
            obtain ⟨b, hb1, hb2⟩ := gaps (zx φ n) i i L hq (by omega) φ f (by omega) (Nat.le_refl _) r1 (fun k k1 k2 k3 => by omega)
            rw [hb2, hWi]
            refine hk _ ?_
            cases b with
            | true => rw [if_pos rfl]; exact yes (.inr (.inr (.inr (hb1.1 rfl))))
            | false =>
              rw [if_neg (by simp)]
              refine no ?_
              rintro (h | h | h | h)
              · exact hfe h
              · exact absurd (c2.2 h) (by simp)
              · exact absurd (c1.2 h) (by simp)
              · exact absurd (hb1.2 h) (by simp)
    · intro n L ⟨hlen, hpw, hmem⟩
      rw [zx, if_neg (by simp)]
      exact ⟨L, rfl, ⟨hpw, fun q => by rw [hmem q]; unfold okPl; rw [and_assoc]⟩, hlen⟩
end Px
end
section
namespace Px
open Go
set_option linter.unusedVariables false
set_option linter.unusedSimpArgs false
theorem y09 (φ : Nat) (hφ : 1000 < φ) (p : Pool) : ∃ b, z62 φ p = some (b, ()) ∧ (b = true → p.network.places.length ≤ 16 ∧ p.network.edges.length ≤ 40 ∧ p.fleet.wagons.length ≤ 8 ∧ p.readers.length ≤ 8) := by
  unfold z62
  split
  · exact ⟨false, rfl, fun h => by cases h⟩
  · rename_i hc
    simp only [Bool.or_eq_true, decide_eq_true_eq, not_or] at hc
    obtain ⟨⟨⟨⟨⟨⟨c1, c2⟩, c3⟩, c4⟩, c5⟩, c6⟩, c7⟩ := hc
    have : ∃ b, z1b φ φ 0 p = some (b, ()) := by
      refine z04 (fun n i (_ : Unit) => z1b φ n i p) p.railways.length (fun _ _ => True) (fun o => ∃ b, o = some (b, ())) ?_ ?_ φ () trivial (by omega)
      · intro n i _ hi _ hs
        rw [z1b, if_pos (by simp; omega), z7 ⟨by omega, by omega⟩, W_id (by omega) (by omega)]
        split
        · exact ⟨false, rfl⟩
        · exact hs () trivial
      · intro n _ _
        rw [z1b, if_neg (by simp)]
        exact ⟨true, rfl⟩
    obtain ⟨b, hb⟩ := this
    exact ⟨b, hb, fun _ => by omega⟩
theorem y5d (φ : Nat) (hφ : 1000 < φ) (l : List zf) (N : Nat) (hN : N ≤ 500) : ∃ b, z3j φ l N = some (b, ()) ∧ (b = true → FewL l ∧ l.length ≤ N) ∧ (b = true ↔ l.length ≤ N ∧ ∀ r ∈ l, r.item.parts.length ≤ 40 ∧ r.item.text.size ≤ 2000) := by
  unfold z3j
  by_cases h60 : N < l.length
  · rw [if_pos (by simp; omega)]
    exact ⟨false, rfl, (fun h => by cases h), (fun h => by cases h), fun h => by omega⟩
  · rw [if_neg (by simp; omega)]
    refine z04 (fun n i (_ : Unit) => z1q φ n l i) l.length (fun i _ => ∀ j : Nat, j < i → (gt l (j : Int)).item.parts.length ≤ 40 ∧ (gt l (j : Int)).item.text.size ≤ 2000)
      (fun o => ∃ b, o = some (b, ()) ∧ (b = true → FewL l ∧ l.length ≤ N) ∧ (b = true ↔ l.length ≤ N ∧ ∀ r ∈ l, r.item.parts.length ≤ 40 ∧ r.item.text.size ≤ 2000)) ?_ ?_ φ () (fun j hj => by omega) (by omega)
    · intro n i _ hi hI hs
      rw [z1q, if_pos (by simp; omega), z7 ⟨by omega, by omega⟩, z7 (fun _ => ⟨by omega, by omega⟩), W_id (by omega) (by omega)]
      split
      · rename_i hc
        simp only [Bool.or_eq_true, decide_eq_true_eq] at hc
        refine ⟨false, rfl, (fun h => by cases h), (fun h => by cases h), fun h => ?_⟩
        have := h.2 _ (z1g (l := l) (i := (i : Int)) (by omega) (by omega))
        omega
      · rename_i hc
        simp only [Bool.or_eq_true, decide_eq_true_eq, not_or] at hc
        refine hs () fun j hj => ?_
        by_cases e : j = i
        · subst e; omega
        · exact hI j (by omega)
    · intro n _ hI
      rw [z1q, if_neg (by simp)]
      have all : ∀ r ∈ l, r.item.parts.length ≤ 40 ∧ r.item.text.size ≤ 2000 := fun r hr => by
        obtain ⟨j, hj, rfl⟩ := ztf hr
        exact hI j hj
      exact ⟨true, rfl, fun _ => ⟨⟨by omega, fun r hr => by have := all r hr; omega⟩, by omega⟩, fun _ => ⟨by omega, all⟩, fun _ => rfl⟩
/-- The events stand as the tracks do, one wagon after the other. -/
theorem zte : ∀ (a b : List z6) (v : Int), evsE v (a ++ b) = evsE v a ++ evsE (v + a.length) b
  | [], b, v => by simp [evsE]
  | x :: a, b, v => by
    simp only [List.cons_append, evsE, zte a b (v + 1), List.length_cons]
    rw [show v + 1 + (a.length : Int) = v + ((a.length + 1 : Nat) : Int) by omega]
theorem zxf (tv m) : ∀ (ts : List (List z6)) (s : BS), (fB tv m ts s).e = s.e ++ evsE s.v ts.flatten ∧ (fB tv m ts s).v = s.v + ts.flatten.length
  | [], s => by simp [fB, evsE]
  | t :: ts, s => by
    obtain ⟨h1, h2⟩ := zxf tv m ts (bEv tv m none t s)
    have e : fB tv m (t :: ts) s = fB tv m ts (bEv tv m none t s) := rfl
    rw [e, h1, h2, zq6, zwc, List.flatten_cons, zte, List.length_append, List.append_assoc]
    exact ⟨rfl, by omega⟩
/-- The first variable of an event. -/
def v0E (p : Pool) (l : List zf) : Int := (rd0 p.readers (zj p l)).v
theorem zm5 (φ : Nat) (p : Pool) (l : List zf) : (bsB φ p l).e = evsE (v0E p l) (zj p l).flatten ∧ (bsB φ p l).v = v0E p l + (zj p l).flatten.length := by
  rw [bsB, zdx]
  obtain ⟨h1, h2⟩ := zxf (tvl φ p.network) (rdM p.readers (zj p l)) (zj p l) (rd0 p.readers (zj p l))
  rw [h1, h2]
  exact ⟨List.nil_append _, rfl⟩
theorem zqt (φ : Nat) (p : Pool) (l : List zf) : (bsB φ p l).e.length = (zj p l).flatten.length := by rw [(zm5 φ p l).1, zlj]
theorem y3n (φ : Nat) (p : Pool) (l : List zf) {k : Nat} (h : k < (zj p l).flatten.length) : gt (bsB φ p l).e (k : Int) = evE (v0E p l + k) (gt (zj p l).flatten (k : Int)) := by
  have h2 := zqt φ p l
  have := zw6 (l := (bsB φ p l).e) (i := k) (by omega)
  rw [(zm5 φ p l).1, zh1, zw6 h, Option.map_some, Option.some.injEq] at this
  rw [(zm5 φ p l).1]; exact this.symm
/-- Where the events of a wagon begin. -/
def offW (p : Pool) (l : List zf) (w : Nat) : Nat := ((zj p l).take w).flatten.length
theorem zuf (p : Pool) (l : List zf) {w : Nat} (h : w < p.fleet.wagons.length) : (zj p l)[w]? = some (z4n p l (w : Int)) := by
  unfold zj
  simp [h]
theorem zme (p : Pool) (l : List zf) {w : Nat} (h : w < p.fleet.wagons.length) : zj p l = (zj p l).take w ++ z4n p l (w : Int) :: (zj p l).drop (w + 1) := by
  have hl : (zj p l).length = p.fleet.wagons.length := by simp [zj]
  have h2 := zuf p l h
  rw [List.getElem?_eq_getElem (by omega), Option.some.injEq] at h2
  rw [← h2]
  simp
theorem zct (p : Pool) (l : List zf) {w : Nat} (h : w < p.fleet.wagons.length) : (zj p l).flatten = ((zj p l).take w).flatten ++ (z4n p l (w : Int) ++ ((zj p l).drop (w + 1)).flatten) := by
  conv => lhs; rw [zme p l h]
  rw [List.flatten_append, List.flatten_cons]
theorem y2v (p : Pool) (l : List zf) {w : Nat} (h : w < p.fleet.wagons.length) : offW p l w + (z4n p l (w : Int)).length ≤ (zj p l).flatten.length := by
  rw [zct p l h, List.length_append, List.length_append]
  unfold offW; omega
theorem zy9 (p : Pool) (l : List zf) {w : Nat} (h : w < p.fleet.wagons.length) {i : Nat} (hi : i < (z4n p l (w : Int)).length) : gt (zj p l).flatten ((offW p l w + i : Nat) : Int) = gt (z4n p l (w : Int)) (i : Int) := by
  have := y2v p l h
  rw [z3w (by omega), z3w hi]
  have e : ∀ (k : Nat) (hk : k < (zj p l).flatten.length), (zj p l).flatten[k] = (((zj p l).take w).flatten ++ (z4n p l (w : Int) ++ ((zj p l).drop (w + 1)).flatten))[k]'(by rw [← zct p l h]; exact hk) := fun k hk => by
    congr 1; exact zct p l h
  rw [e, List.getElem_append_right (by unfold offW; omega)]
  unfold offW
  rw [List.getElem_append_left (by omega)]
  congr 1; omega
theorem zir {p : Pool} {l : List zf} {w : Nat} {t : List z6} (h : t ∈ (zj p l).take w) : ∃ u : Nat, u < w ∧ u < p.fleet.wagons.length ∧ t = z4n p l (u : Int) := by
  obtain ⟨u, hu, e⟩ := List.getElem_of_mem h
  rw [List.length_take] at hu
  have hl : (zj p l).length = p.fleet.wagons.length := by simp [zj]
  refine ⟨u, by omega, by omega, ?_⟩
  rw [List.getElem_take] at e
  rw [← e]; simp [zj]
theorem zkc {p : Pool} {l : List zf} {w : Nat} {t : List z6} (h : t ∈ (zj p l).drop w) : ∃ u : Nat, w ≤ u ∧ u < p.fleet.wagons.length ∧ t = z4n p l (u : Int) := by
  obtain ⟨u, hu, e⟩ := List.getElem_of_mem h
  rw [List.length_drop] at hu
  have hl : (zj p l).length = p.fleet.wagons.length := by simp [zj]
  refine ⟨w + u, by omega, by omega, ?_⟩
  rw [List.getElem_drop] at e
  rw [← e]; simp [zj]
theorem zd7 {p : Pool} {l : List zf} (hl : FewL l) {w : Nat} (h : w < p.fleet.wagons.length) {k : Nat} (hk : k < (zj p l).flatten.length) :
    (k < offW p l w → (gt (zj p l).flatten (k : Int)).visit.wagon < (w : Int)) ∧ (offW p l w + (z4n p l (w : Int)).length ≤ k → (w : Int) < (gt (zj p l).flatten (k : Int)).visit.wagon) := by
  have e := zw6 hk
  generalize gt (zj p l).flatten (k : Int) = x at *
  rw [zct p l h] at e
  constructor
  · intro hlt
    rw [List.getElem?_append_left (by unfold offW at hlt; exact hlt)] at e
    obtain ⟨t, ht, hx⟩ := List.mem_flatten.1 (List.mem_of_getElem? e)
    obtain ⟨u, u1, _, rfl⟩ := zir ht
    rw [z5f hl hx]; omega
  · intro hge
    unfold offW at hge
    rw [List.getElem?_append_right (by omega), List.getElem?_append_right (by omega)] at e
    obtain ⟨t, ht, hx⟩ := List.mem_flatten.1 (List.mem_of_getElem? e)
    obtain ⟨u, u1, _, rfl⟩ := zkc ht
    rw [z5f hl hx]; omega
section
variable (φ : Nat) {p : Pool} {l : List zf} (hl : FewL l) {w : Int} (w0 : 0 ≤ w) (w1 : w < (p.fleet.wagons.length : Int))
include hl w0 w1
theorem y5j : RunW (bsB φ p l) w (offW p l w.toNat) (offW p l w.toNat + (z4n p l w).length) := by
  have hw : ((w.toNat : Nat) : Int) = w := by omega
  have hlt : w.toNat < p.fleet.wagons.length := by omega
  have hle := y2v p l hlt
  rw [hw] at hle
  have hlen := zqt φ p l
  have wg : ∀ k, k < (zj p l).flatten.length → wgE (bsB φ p l) k = (gt (zj p l).flatten (k : Int)).visit.wagon := fun k hk => by
    unfold wgE; rw [y3n φ p l hk]; rfl
  refine ⟨by omega, by omega, fun k k1 k2 => ?_, fun k hk => ?_, fun h => ?_, fun h => ?_⟩
  · rw [wg k (by omega)]
    have := zy9 p l hlt (i := k - offW p l w.toNat) (by rw [hw]; omega)
    rw [show offW p l w.toNat + (k - offW p l w.toNat) = k by omega, hw] at this
    rw [this]
    exact z5f hl (z1g (by omega) (by omega))
  · rw [wg k (by omega)]
    have := (zd7 hl hlt (k := k) (by omega)).1 hk
    omega
  · rw [wg _ (by omega)]
    by_cases hz : (z4n p l w).length = 0
    · have := (zd7 hl hlt (k := offW p l w.toNat) (by omega)).2 (by rw [hw]; omega)
      omega
    · have := zy9 p l hlt (i := 0) (by rw [hw]; omega)
      rw [Nat.add_zero, hw] at this
      rw [this, z5f hl (z1g (by omega) (by omega))]
      omega
  · rw [wg _ (by omega)]
    have := (zd7 hl hlt (k := offW p l w.toNat + (z4n p l w).length) (by omega)).2 (by rw [hw]; omega)
    omega
theorem y5y {f e : Nat} (hR : RunW (bsB φ p l) w f e) {k : Nat} (hk : k < (bsB φ p l).e.length) (h : wgE (bsB φ p l) k = w) : f ≤ k ∧ k < e := by
  have hw : ((w.toNat : Nat) : Int) = w := by omega
  have hlt : w.toNat < p.fleet.wagons.length := by omega
  obtain ⟨rfl, rfl⟩ := hR.uniq (y5j φ hl w0 w1)
  rw [zqt] at hk
  unfold wgE at h
  rw [y3n φ p l hk] at h
  change (gt (zj p l).flatten (k : Int)).visit.wagon = w at h
  have h2 := zd7 hl hlt hk
  rw [hw] at h2
  constructor
  · by_cases q : k < offW p l w.toNat
    · have := h2.1 q; omega
    · omega
  · by_cases q : offW p l w.toNat + (z4n p l w).length ≤ k
    · have := h2.2 q; omega
    · omega
end
end Px
end
section
namespace Px
open Go
theorem y9u : zd2 100000000 = some (true, ()) := by kernel_rfl
end Px
end
section
namespace Px
open Go
set_option linter.unusedVariables false
set_option linter.unusedSimpArgs false
theorem y2f (φ : Nat) (hφ : 1000 < φ) (p : Pool) (l : List zf) : ∃ b, zf9 φ p l = some (b, ()) ∧ (b = true → FewL l ∧ l.length ≤ 8 ∧ p.network.places.length ≤ 16 ∧ p.network.edges.length ≤ 40 ∧ p.fleet.wagons.length ≤ 8 ∧ p.readers.length ≤ 8) ∧
    (b = true → ∀ r ∈ l, r.item.parts.length ≤ 40 ∧ r.item.text.size ≤ 2000) := by
  obtain ⟨b1, h1, h2⟩ := y09 φ hφ p
  obtain ⟨b2, h3, h4, h5⟩ := y5d φ hφ l 8 (by omega)
  unfold zf9
  rw [h1, Option.bind_some]
  cases b1 with
  | false =>
    rw [gz_f (by simp), Option.bind_some]
    exact ⟨_, rfl, (fun h => by cases h), fun h => by cases h⟩
  | true =>
    have h3' : z3j φ l 8 = some (b2, ()) := h3
    rw [gz_t rfl, h3', Option.bind_some]
    refine ⟨_, rfl, fun h => ?_, fun h => (h5.1 h).2⟩
    obtain ⟨q1, q2⟩ := h4 h
    obtain ⟨a1, a2, a3, a4⟩ := h2 rfl
    exact ⟨q1, q2, a1, a2, a3, a4⟩
/-- The times of the events. -/
theorem y0l {φ : Nat} {p : Pool} (hc : z0b p = 0) {l : List zf} (hl : FewL l) (hG : Good (bsB φ p l)) {X : Int → Int} (hX : SolF (bsB φ p l) X) {k : Nat} (hk : k < (bsB φ p l).e.length) :
    1 ≤ vrE (bsB φ p l) k ∧ vrE (bsB φ p l) k < (bsB φ p l).v ∧ 0 ≤ z3b (bsB φ p l) (vrE (bsB φ p l) k) ∧ z3b (bsB φ p l) (vrE (bsB φ p l) k) ≤ z4k (bsB φ p l) (vrE (bsB φ p l) k) ∧ z4k (bsB φ p l) (vrE (bsB φ p l) k) ≤ 1073741824 := by
  have h := y2q hc hl (tv := tvl φ p.network) (ev := gt (bsB φ p l).e (k : Int)) (z1g (l := (bsB φ p l).e) (by omega) (by omega))
  have hE := hG.ets hX
  have a := h.2.2.2.1 _ hE.eS
  have b := h.2.2.2.1 _ hE.tS
  have c := hE.e _ hE.tS (vrE (bsB φ p l) k) (by unfold vrE; omega) h.2.2.1
  have e0 := hE.e0
  have t0 := hE.t0
  change 0 ≤ z3b (bsB φ p l) (vrE (bsB φ p l) k) - _ ∧ _ at a
  change _ ∧ z4k (bsB φ p l) (vrE (bsB φ p l) k) - _ ≤ _ at b
  exact ⟨h.2.1, h.2.2.1, by omega, by omega, by omega⟩
end Px
end
section
namespace Px
open Go
set_option linter.unusedVariables false
set_option linter.unusedSimpArgs false
theorem y9k (φ : Nat) (hφ : 100000 < φ) (L : List Int) (hL : L.length ≤ 10000) (x : Int) : zf3 φ L x = some (decide (x ∈ L), ()) := by
  unfold zf3
  have := zfj (fun f i => z5l φ f L x i) (some (false, ())) (some (true, ())) L (fun y => y == x) (fun f i hi => by
    rw [z5l, if_pos (by simp; omega), z7 ⟨by omega, by omega⟩, W_id (by omega) (by omega)]
    cases (gt L (i : Int) == x) <;> rfl) (fun f => by rw [z5l, if_neg (by simp)]) φ (by omega)
  rw [this]
  by_cases h : x ∈ L
  · rw [decide_eq_true h, List.any_eq_true.2 ⟨x, h, by simp⟩]; rfl
  · rw [decide_eq_false h]
    have : L.any (fun y => y == x) = false := by
      rw [List.any_eq_false]
      intro y hy e
      rw [beq_iff_eq] at e
      exact h (e ▸ hy)
    rw [this]; rfl
theorem y1p {L : List Int} (hp : L.Pairwise (· < ·)) {a : Int} (ha : a ∈ L) (hall : ∀ q ∈ L, q = a) : L = [a] := by
  match L, hp, ha, hall with
  | [], _, ha, _ => cases ha
  | [b], _, _, hall => rw [hall b (by simp)]
  | b :: c :: L, hp, _, hall =>
    have h1 := hall b (by simp)
    have h2 := hall c (by simp)
    rw [List.pairwise_cons] at hp
    have := hp.1 c (by simp)
    omega
theorem zvw.hst {φ : Nat} {p : Pool} {l : List zf} {w m : Int} (h : zvw φ p l w m) : hst φ p l = (hisL (bsB φ p l), 0, ()) := by
  have hv := h.good.v2
  have hb := h.good.bl
  have hz := h.good.sol.2 h.sol
  unfold Px.hst
  rw [if_neg (show ¬ z0b p ≠ 0 from fun q => q h.hc), if_neg (by omega), if_neg (by omega)]
theorem zvv (φ : Nat) (p : Pool) (l : List zf) (w m : Int) : (z2o φ).F (p, l, w, m, ()) = z2a φ p l w m := rfl
theorem ze5 (x : Tup TT [35, 38, 0, 0]) (h : y4k TV 30 [35, 38, 0, 0] x) : ∃ φ, (z2o φ).F x = some (true, ()) := by
  obtain ⟨p, l, w, m, _⟩ := x
  change List zf at l
  change Pool at p
  change Int at w m
  suffices key : ∃ φ, z2a φ p l w m = some (true, ()) by
    obtain ⟨φ, h⟩ := key
    exact ⟨φ, (zvv φ p l w m).trans h⟩
  suffices key : ∀ φ : Nat, 60000000 < φ → zd2 φ = some (true, ()) → z2a φ p l w m = some (true, ()) from ⟨100000000, key _ (by omega) y9u⟩
  intro φ hφ hsane
  unfold z2a
  obtain ⟨bf, hbf, hfew, _⟩ := y2f φ (by omega) p l
  rw [hsane, Option.bind_some, if_neg (by simp), hbf, Option.bind_some]
  cases bf with
  | false => rw [if_pos (by simp)]
  | true =>
  obtain ⟨hl, hlen, hpl, _⟩ := hfew rfl
  obtain ⟨a, ok, e1, e2, e3⟩ := ztw φ (by omega) p hl w m
  obtain ⟨L, p1, p2, p3⟩ := zrt φ (by omega) p hl w m
  rw [if_neg (by simp), e1, Option.bind_some, p1, Option.bind_some]
  by_cases he : zbv φ p l w m = 0
  case neg =>
    obtain ⟨_, rfl⟩ := e2 he
    rw [p2 he]
    simp only
    rw [if_pos (by simpa using he)]
    simp
  obtain ⟨hA, f, e, hR, hP, hLl⟩ := p3 he
  obtain ⟨_, f', e', hR', hC⟩ := e3 he
  obtain ⟨rfl, rfl⟩ := hR.uniq hR'
  obtain ⟨X, hX⟩ := hA.sol
  have hG := hA.good
  have hE := zw8 (by omega) hA.hc hl hG hX hR
  have hn := (z7b hA.hc).1
  have hD : ∀ k, f ≤ k → k + 1 < e → ∀ Y, SolF (bsB φ p l) Y → Y (vrE (bsB φ p l) (k + 1)) - Y (vrE (bsB φ p l) k) ≤ gapT (bsB φ p l) k := fun k k1 k2 Y hY => by
    have hk : k + 1 < (bsB φ p l).e.length := by have := hR.el; omega
    obtain ⟨_, _, _, Z, z1, z2, z3, z4⟩ := zow hG hX φ (by omega) hk
    have := hG.ev (gt (bsB φ p l).e ((k + 1 : Nat) : Int)) (z1g (by omega) (by omega))
    rw [← z3]
    exact z4 Y hY _ (by unfold vrE; omega) this.2
  have hcert : ok = true → L = [a] := fun hok => by
    rcases hC with ⟨_, r, i, hcw, rfl⟩ | ⟨h, _⟩
    · have hin : plE (bsB φ p l) r ∈ L := (hP.mem _).2 ⟨(hE.ok r hcw.cf (by have := hcw.ci; have := hcw.ce; omega)).1, y05 (by omega) hn hE hD hcw⟩
      exact y1p hP.inc hin fun q hq => by
        obtain ⟨q1, q2⟩ := (hP.mem q).1 hq
        exact zws (by omega) hn hE hcw q1 q2
    · rw [hok] at h; cases h
  rw [he]
  simp only
  rw [if_neg (by simp), z7 (fun h => by
    obtain ⟨⟨_, h1⟩, h2⟩ := h
    rw [hcert h1]; simp), if_neg (by
    cases ok with
    | false => simp
    | true => rw [hcert rfl]; simp [gt])]
  -- the places
  refine z04 (fun n i (_ : Unit) => z0g φ n l w m L i p) L.length (fun _ _ => True) (fun o => o = some (true, ())) ?_ ?_ φ () trivial (by omega)
  · intro n i _ hi _ hk
    have c1 : (0 : Int) ≤ (i : Int) ∧ (i : Int) < (L.length : Int) := ⟨by omega, by omega⟩
    have hin : gt L (i : Int) ∈ L := z1g c1.1 c1.2
    obtain ⟨q1, q2⟩ := (hP.mem _).1 hin
    have hWi : W ((i : Int) + 1) = (i : Int) + 1 := W_id (by omega) (by omega)
    have hWp : W ((i : Int) - 1) = (i : Int) - 1 := W_id (by omega) (by omega)
    rw [z0g, if_pos (by simp; omega), z7 c1, z7 (fun _ => c1), hWp, z7 (fun h => by have := h.2; simp at this; omega), z7 (fun _ => c1), hWi, if_neg]
    · exact hk () trivial
    · simp only [Bool.or_eq_true, Bool.and_eq_true, decide_eq_true_eq, not_or]
      refine ⟨⟨by have := q1.1; omega, by have := q1.2; omega⟩, fun ⟨h1, h2⟩ => ?_⟩
      have := (List.pairwise_iff_getElem.1 hP.inc) (i - 1) i (by omega) (by omega) (by omega)
      rw [← z3w (by omega), ← z3w (by omega), show ((i - 1 : Nat) : Int) = (i : Int) - 1 by omega] at this
      omega
  · intro n _ _
    rw [z0g, if_neg (by simp), zup φ (by omega) p hl, Option.bind_some, hA.hst]
    simp only
    rw [if_neg (by simp)]
    have hLn : L.length ≤ 10000 := by omega
    have ht := fun k => y0l hA.hc hl hG hX (k := k)
    have hall := fun k hk hw => y5y φ hl hA.w0 hA.w1 hR (k := k) hk hw
    generalize bsB φ p l = s at *
    have hvl : (hisL s).length = s.e.length := by simp [hisL]
    have hel := hG.el
    have hv2 := hG.v2
    refine z04 (fun n i (_ : Unit) => z0h φ n w m L (hisL s) i) s.e.length (fun _ _ => True) (fun o => o = some (true, ())) ?_ ?_ φ () trivial (by omega)
    · intro n i _ hi _ hk
      have hv : gt (hisL s) (i : Int) = _ := zja (E := z3b s) (T := z3b s) (k := i) hi
      have c1 : (0 : Int) ≤ (i : Int) ∧ (i : Int) < ((hisL s).length : Int) := ⟨by omega, by omega⟩
      rw [z0h, if_pos (by simp; omega), z7 c1, z7 (fun _ => c1), z7 (fun _ => c1), W_id (x := (i : Int) + 1) (by omega) (by omega), hv]
      simp only
      by_cases hq : wgE s i = w ∧ z3b s (vrE s i) = m
      · rw [gz_t (by simpa using hq), y9k φ (by omega) L hLn, Option.bind_some, if_neg]
        · exact hk () trivial
        · obtain ⟨j1, j2⟩ := hall i hi hq.1
          obtain ⟨t1, t2, t3, t4, t5⟩ := ht i hi
          have : plE s i ∈ L := (hP.mem _).2 ⟨(hE.ok i j1 j2).1, zp7 (by omega) hn hE hD j1 j2 (by omega) (by omega)⟩
          simp [this]
      · rw [gz_f (by simpa using hq), Option.bind_some, if_neg]
        · exact hk () trivial
        · simp only [Bool.and_eq_true, beq_iff_eq, not_and]
          intro h; exact absurd h hq
    · intro n _ _
      rw [z0h, if_neg (by rw [hvl]; simp)]
end Px
end
