/- A part of the proof of conflictSublists_holds. Conditions: none. -/
import Derived.Test.YtghkddgggfodgaaGreatZuaf
section
namespace Px
open Go
set_option linter.unusedVariables false
set_option linter.unusedSimpArgs false
def bI (b : za) : Nat := b.i.toNat
def bJ (b : za) : Nat := b.j.toNat
def bW (b : za) : Int := b.w
def xf (x : List Int) : BF.X := fun v => if v < x.length then some (gt x (v : Int)) else none
theorem y35 {x : List Int} {i : Int} (h0 : 0 <= i) (h : i < (x.length : Int)) : xf x i.toNat = some (gt x i) := by
 unfold xf
 rw [if_pos (by omega), show ((i.toNat : Nat) : Int) = i by omega]
theorem zxg {n : Nat} {s : LS} (hx : s.x.length = n) {b : za} (hb : okBd n b) (i : Int) :
  xf (stp b i s).x = BF.rlx bI bJ bW (xf s.x) b /\ (BF.imp bI bJ bW (xf s.x) b = true -> (stp b i s).z = i) /\ (BF.imp bI bJ bW (xf s.x) b = false -> stp b i s = s) := by
 obtain ⟨a1, a2, a3, a4, _, _⟩ := hb
 have e1 : xf s.x (bI b) = some (gt s.x b.i) := y35 a1 (by rw [hx]; exact a2)
 have e2 : xf s.x (bJ b) = some (gt s.x b.j) := y35 a3 (by rw [hx]; exact a4)
 have ei : BF.imp bI bJ bW (xf s.x) b = decide (gt s.x b.i + b.w < gt s.x b.j) := by
  unfold BF.imp; rw [e1, e2]; rfl
 have er : BF.rlx bI bJ bW (xf s.x) b = if gt s.x b.i + b.w < gt s.x b.j then fun v => if v = bJ b then some (gt s.x b.i + b.w) else xf s.x v else xf s.x := by
  unfold BF.rlx; rw [e1, e2]; simp only [BF.ltO, bW]
  by_cases h : gt s.x b.i + b.w < gt s.x b.j <;> simp [h]
 rw [ei, er]
 unfold stp
 by_cases h : gt s.x b.i + b.w < gt s.x b.j
 ·rw [if_pos h, if_pos h]
  refine ⟨?_, fun _ => rfl, fun q => by simp [h] at q⟩
  funext v
  unfold xf
  rw [z1f]
  simp only
  by_cases hv : v < s.x.length
  ·rw [if_pos hv, if_pos hv, z0j _ _ _ _ a3 (by rw [hx]; exact a4) (by omega)]
   by_cases e : v = bJ b
   ·rw [if_pos e, if_pos (by unfold bJ at e; omega)]
   ·rw [if_neg e, if_neg (by unfold bJ at e; omega)]
  ·rw [if_neg hv, if_neg hv, if_neg (fun e => hv (by rw [hx, e]; unfold bJ; omega))]
 ·rw [if_neg h, if_neg h]
  exact ⟨rfl, fun q => by simp [h] at q, fun _ => rfl⟩
theorem ze0 {n : Nat} {s : LS} (hs : s.x.length = n) {L : List za} : ∀ m, (rndL L m s).x.length = n
 | 0 => hs
 | m + 1 => by
  have := ze0 hs (L := L) m
  unfold rndL stp
  split
  ·simp only [z1f]; exact this
  ·exact this
theorem zvy {n : Nat} {s : LS} (hs : s.x.length = n) {L : List za} (hL : ∀ b ∈ L, okBd n b) : ∀ m, m <= L.length -> xf (rndL L m s).x = (L.take m).foldl (BF.rlx bI bJ bW) (xf s.x)
 | 0, _ => rfl
 | m + 1, hm => by
  have ih := zvy hs hL m (by omega)
  rw [z0w L m (by omega), List.foldl_append, <- ih]
  exact (zxg (ze0 hs m) (hL _ (z21 (by omega) (by omega))) m).1
theorem y4o {n : Nat} {s : LS} (hs : s.x.length = n) {L : List za} (hL : ∀ b ∈ L, okBd n b) (hz : s.z = -1) : ∀ m, m <= L.length ->
  ((rndL L m s).z < 0 -> rndL L m s = s /\ ∀ k : Nat, k < m -> BF.imp bI bJ bW (xf s.x) (gt L (k : Int)) = false) /\ -1 <= (rndL L m s).z /\ (rndL L m s).z < m
 | 0, _ => ⟨fun _ => ⟨rfl, fun k hk => by omega⟩, by rw [show (rndL L 0 s).z = s.z from rfl]; omega, by rw [show (rndL L 0 s).z = s.z from rfl]; omega⟩
 | m + 1, hm => by
  obtain ⟨h1, h2, h3⟩ := y4o hs hL hz m (by omega)
  obtain ⟨q1, q2, q3⟩ := zxg (ze0 hs m) (hL _ (z21 (l := L) (i := (m : Int)) (by omega) (by omega))) m
  change _ /\ -1 <= (stp (gt L (m : Int)) m (rndL L m s)).z /\ (stp (gt L (m : Int)) m (rndL L m s)).z < _
  cases hi : BF.imp bI bJ bW (xf (rndL L m s).x) (gt L (m : Int)) with
  | true =>
   have := q2 hi
   refine ⟨fun h => ?_, by omega, by omega⟩
   change (stp (gt L (m : Int)) m (rndL L m s)).z < 0 at h
   omega
  | false =>
   have e := q3 hi
   rw [e]
   refine ⟨fun h => ?_, h2, by omega⟩
   change (stp (gt L (m : Int)) m (rndL L m s)).z < 0 at h
   rw [e] at h
   obtain ⟨e2, h4⟩ := h1 h
   refine ⟨by change stp (gt L (m : Int)) m (rndL L m s) = s; rw [e, e2], fun k hk => ?_⟩
   by_cases hkm : k = m
   ·subst hkm; rw [e2] at hi; exact hi
   ·exact h4 k (by omega)
theorem zq5 {n : Nat} {s : LS} (hs : s.x.length = n) {L : List za} (hL : ∀ b ∈ L, okBd n b) (hz : s.z = -1) (hf : ∀ b ∈ L, BF.imp bI bJ bW (xf s.x) b = false) : ∀ m, m <= L.length -> rndL L m s = s
 | 0, _ => rfl
 | m + 1, hm => by
  have ih := zq5 hs hL hz hf m (by omega)
  have hb := z21 (l := L) (i := (m : Int)) (by omega) (by omega)
  change stp (gt L (m : Int)) m (rndL L m s) = s
  rw [ih]
  exact (zxg hs (hL _ hb) m).2.2 (hf _ hb)
def xz (n : Nat) : BF.X := fun v => if v < n then some 0 else none
theorem y92 (n : Nat) : xf (List.replicate n 0) = xz n := by
 funext v
 unfold xf xz
 rw [List.length_replicate]
 split
 ·rw [z2w _ _ _ (by omega) (by omega)]
 ·rfl
theorem zxo {n : Nat} {L : List za} (hL : ∀ b ∈ L, okBd n b) : ∀ (f k : Nat) (s : LS), s.x.length = n -> xf s.x = BF.rnds bI bJ bW L (xz n) k -> (lowR L f s).x.length = n /\
  (((lowR L f s).z < 0 -> f ≠ 0 \/ s.z < 0) -> ((lowR L f s).z < 0 -> f ≠ 0) -> ((lowR L f s).z < 0 -> BF.Fix bI bJ bW L (xf (lowR L f s).x) /\ ∃ k', xf (lowR L f s).x = BF.rnds bI bJ bW L (xz n) k')) /\
  (0 <= (lowR L f s).z -> f ≠ 0 -> ¬ BF.Feas bI bJ bW (xz n) L n \/ k + f < n) /\ (f ≠ 0 -> -1 <= (lowR L f s).z /\ (lowR L f s).z < L.length)
 | 0, k, s, hs, hx => ⟨hs, fun _ h2 h => absurd rfl (h2 h), fun _ h => absurd rfl h, fun h => absurd rfl h⟩
 | f + 1, k, s, hs, hx => by
  have hs1 : (LS.mk s.x s.y (-1)).x.length = n := hs
  obtain ⟨h1, h2, h3⟩ := y4o hs1 hL rfl L.length (Nat.le_refl _)
  have hr := zvy hs1 hL L.length (Nat.le_refl _)
  rw [List.take_length] at hr
  have hr2 : xf (rndL L L.length ⟨s.x, s.y, -1⟩).x = BF.rnds bI bJ bW L (xz n) (k + 1) := by
   rw [hr, show xf (LS.mk s.x s.y (-1)).x = _ from hx]; rfl
  have hq : ¬ (rndL L L.length ⟨s.x, s.y, -1⟩).z < 0 -> n <= k + 1 -> ¬ BF.Feas bI bJ bW (xz n) L n := fun hz hk F => by
   have := zq5 hs1 hL rfl (fun b hb => by
    have := BF.done F hk b hb
    rw [<- hx] at this; exact this) L.length (Nat.le_refl _)
   rw [this] at hz
   exact hz (by show (-1 : Int) < 0; omega)
  unfold lowR
  split
  ·rename_i hz
   obtain ⟨e1, e2⟩ := h1 hz
   refine ⟨ze0 hs1 _, fun _ _ _ => ⟨fun b hb => ?_, k + 1, hr2⟩, fun h => by omega, fun _ => ⟨h2, h3⟩⟩
   rw [e1]
   obtain ⟨i, hi, rfl⟩ := zf9 hb
   exact e2 i hi
  ·rename_i hz
   by_cases hf : f = 0
   ·subst hf
    refine ⟨ze0 hs1 _, fun _ _ h => absurd h hz, fun _ _ => ?_, fun _ => ⟨h2, h3⟩⟩
    by_cases hk : n <= k + 1
    ·exact .inl (hq hz hk)
    ·exact .inr (by omega)
   ·obtain ⟨i1, i2, i3, i4⟩ := zxo hL f (k + 1) _ (ze0 hs1 L.length) hr2
    refine ⟨i1, fun _ _ h => i2 (fun _ => .inl hf) (fun _ => hf) h, fun h _ => ?_, fun _ => i4 hf⟩
    rcases i3 h hf with h | h
    ·exact .inl h
    ·exact .inr (by omega)
structure yb3 (n : Nat) (L : List za) : Prop where
 len : (low n L).x.length = n
 fix : (low n L).z < 0 -> BF.Fix bI bJ bW L (xf (low n L).x)
 rnd : (low n L).z < 0 -> ∃ k, xf (low n L).x = BF.rnds bI bJ bW L (xz n) k
 cyc : 0 <= (low n L).z -> ¬ BF.Feas bI bJ bW (xz n) L n
 lo : -1 <= (low n L).z
 hi : (low n L).z < L.length
theorem y4u {n : Nat} {L : List za} (h1 : 1 <= n) (hL : ∀ b ∈ L, okBd n b) : yb3 n L := by
 obtain ⟨i1, i2, i3, i4⟩ := zxo hL n 0 ⟨List.replicate n 0, List.replicate n (-1), -1⟩ (by simp) (y92 n)
 have hn : n ≠ 0 := by omega
 refine ⟨i1, fun h => (i2 (fun _ => .inl hn) (fun _ => hn) h).1, fun h => (i2 (fun _ => .inl hn) (fun _ => hn) h).2, fun h => ?_, (i4 hn).1, (i4 hn).2⟩
 rcases i3 h hn with h | h
 ·exact h
 ·omega
theorem y7x {n : Nat} {L : List za} (h1 : 1 <= n) (hL : ∀ b ∈ L, okBd n b) (hz : (low n L).z < 0) {b : za} (hb : b ∈ L) : gt (low n L).x b.j - gt (low n L).x b.i <= b.w := by
 have h := y4u h1 hL
 obtain ⟨a1, a2, a3, a4, _, _⟩ := hL b hb
 obtain ⟨d, hd, hl⟩ := (h.fix hz).le hb (y35 a1 (by rw [h.len]; exact a2))
 have e : xf (low n L).x (bJ b) = some (gt (low n L).x b.j) := y35 a3 (by rw [h.len]; exact a4)
 rw [e] at hd
 cases hd
 unfold bW at hl
 omega
theorem y89 {n : Nat} {L : List za} (hL : ∀ b ∈ L, okBd n b) (p : Int -> Int) (hp : ∀ b ∈ L, p b.j - p b.i <= b.w) : BF.Feas bI bJ bW (xz n) L n := by
 refine ⟨⟨fun v => p (v : Int), ((List.range n).map fun (v : Nat) => p (v : Int)).foldl max 0, fun b hb => ?_, fun v c h => ?_⟩, fun b hb => ?_, fun v c h => ?_⟩
 ·obtain ⟨a1, a2, a3, a4, _, _⟩ := hL b hb
  have := hp b hb
  show p ((bJ b : Nat) : Int) <= p ((bI b : Nat) : Int) + bW b
  unfold bI bJ bW
  rw [show ((b.j.toNat : Nat) : Int) = b.j by omega, show ((b.i.toNat : Nat) : Int) = b.i by omega]
  omega
 ·unfold xz at h
  split at h
  ·rename_i hv
   cases h
   have key : ∀ (l : List Int) (m x : Int), (x ∈ l -> x <= l.foldl max m) /\ m <= l.foldl max m := by
    intro l
    induction l with
    | nil => intro m x; exact ⟨fun h => by simp at h, Int.le_refl _⟩
    | cons y l ih =>
     intro m x
     have h1 := ih (max m y) x
     have h2 := ih (max m y) y
     refine ⟨fun h => ?_, ?_⟩
     ·rcases List.mem_cons.1 h with rfl | h
      ·simp only [List.foldl_cons]; omega
      ·exact h1.1 h
     ·simp only [List.foldl_cons]; omega
   have := (key ((List.range n).map fun (v : Nat) => p (v : Int)) 0 (p (v : Int))).1 (List.mem_map.2 ⟨v, List.mem_range.2 hv, rfl⟩)
   show p (v : Int) - 0 <= _
   omega
  ·cases h
 ·obtain ⟨a1, a2, a3, a4, _, _⟩ := hL b hb
  unfold bJ; omega
 ·unfold xz at h
  split at h
  ·assumption
  ·cases h
theorem y2d {n : Nat} {L : List za} (h1 : 1 <= n) (hL : ∀ b ∈ L, okBd n b) (p : Int -> Int) (hp : ∀ b ∈ L, p b.j - p b.i <= b.w) : (low n L).z < 0 := by
 by_cases hz : (low n L).z < 0
 ·exact hz
 ·exact absurd (y89 hL p hp) ((y4u h1 hL).cyc (by omega))
end Px
end
section
namespace Px
open Go
set_option linter.unusedVariables false
set_option linter.unusedSimpArgs false
def bdI (r : Bool) (b : za) : Int := if r = true then b.j else b.i
def bdJ (r : Bool) (b : za) : Int := if r = true then b.i else b.j
def nI (r : Bool) (b : za) : Nat := (bdI r b).toNat
def nJ (r : Bool) (b : za) : Nat := (bdJ r b).toNat
def SolD (r : Bool) (L : List za) (p : Int -> Int) : Prop := ∀ b ∈ L, p (bdJ r b) - p (bdI r b) <= b.w
theorem zkl {n : Nat} {b : za} (h : okBd n b) (r : Bool) : 0 <= bdI r b /\ bdI r b < (n : Int) /\ 0 <= bdJ r b /\ bdJ r b < (n : Int) /\ -1099511627776 <= b.w /\ b.w <= 1099511627776 := by
 obtain ⟨a1, a2, a3, a4, a5, a6⟩ := h
 cases r
 ·exact ⟨a1, a2, a3, a4, a5, a6⟩
 ·exact ⟨a3, a4, a1, a2, a5, a6⟩
theorem zt6 {r : Bool} {L : List za} {p : Int -> Int} (h : SolD r L p) : SolD (!r) L fun v => - p v := fun b hb => by
 have := h b hb
 cases r
 ·simp only [bdI, bdJ, Bool.not_false, if_true, Bool.false_eq_true, if_false] at this ⊢; omega
 ·simp only [bdI, bdJ, Bool.not_true, if_true, Bool.false_eq_true, if_false] at this ⊢; omega
structure zql (r : Bool) (L : List za) (n : Nat) (u : Int) (e : Int -> Int) : Prop where
 sat : SolD r L e
 top : ∀ p, SolD r L p -> ∀ v, 0 <= v -> v < (n : Int) -> p v - p u <= e v
 zero : e u = 0
def xs1 (u : Nat) : BF.X := fun v => if v = u then some 0 else none
theorem yav {r : Bool} {n : Nat} {L : List za} (hL : ∀ b ∈ L, okBd n b) {p : Int -> Int} (hp : SolD r L p) {u : Nat} (hu : u < n) : BF.Feas (nI r) (nJ r) bW (xs1 u) L n := by
 refine ⟨⟨fun v => p (v : Int), p (u : Int), fun b hb => ?_, fun v c h => ?_⟩, fun b hb => ?_, fun v c h => ?_⟩
 ·obtain ⟨a1, a2, a3, a4, _, _⟩ := zkl (hL b hb) r
  have := hp b hb
  show p ((nJ r b : Nat) : Int) <= p ((nI r b : Nat) : Int) + bW b
  unfold nI nJ bW
  rw [show (((bdJ r b).toNat : Nat) : Int) = bdJ r b by omega, show (((bdI r b).toNat : Nat) : Int) = bdI r b by omega]
  omega
 ·unfold xs1 at h
  split at h
  ·rename_i e; cases h; subst e; show p (v : Int) - 0 <= p (v : Int); omega
  ·cases h
 ·obtain ⟨a1, a2, a3, a4, _, _⟩ := zkl (hL b hb) r
  unfold nJ; omega
 ·unfold xs1 at h
  split at h
  ·rename_i e; subst e; exact hu
  ·cases h
theorem zyh {r : Bool} {n : Nat} {L : List za} (hL : ∀ b ∈ L, okBd n b) {p : Int -> Int} (hp : SolD r L p) {u : Nat} (hu : u < n) {x : BF.X} (hf : BF.Fix (nI r) (nJ r) bW L x) (hi : BF.Inv (nI r) (nJ r) bW (xs1 u) L x) (h0 : BF.le (x u) 0)
  (hall : ∀ v, v < n -> (x v).isSome = true) : zql r L n (u : Int) fun v => (x v.toNat).getD 0 := by
 have low : ∀ q, SolD r L q -> ∀ v a, x v = some a -> q (v : Int) - q (u : Int) <= a := by
  intro q hq v a hv
  obtain ⟨m, hw⟩ := hi v a hv
  have := BF.Wk.low (p := fun v : Nat => q (v : Int)) (C := q (u : Int)) (fun b hb => by
   obtain ⟨a1, a2, a3, a4, _, _⟩ := zkl (hL b hb) r
   have := hq b hb
   show q ((nJ r b : Nat) : Int) <= q ((nI r b : Nat) : Int) + bW b
   unfold nI nJ bW
   rw [show (((bdJ r b).toNat : Nat) : Int) = bdJ r b by omega, show (((bdI r b).toNat : Nat) : Int) = bdI r b by omega]
   omega) (fun v c h => by
   unfold xs1 at h
   split at h
   ·rename_i e; cases h; subst e; show q (v : Int) - 0 <= q (v : Int); omega
   ·cases h) hw
  omega
 have at_ : ∀ v : Int, 0 <= v -> v < (n : Int) -> x v.toNat = some ((x v.toNat).getD 0) := fun v h1 h2 => by
  have := hall v.toNat (by omega)
  cases hx : x v.toNat with
  | none => rw [hx] at this; cases this
  | some a => rfl
 refine ⟨fun b hb => ?_, fun q hq v h1 h2 => ?_, ?_⟩
 ·obtain ⟨a1, a2, a3, a4, _, _⟩ := zkl (hL b hb) r
  obtain ⟨d, hd, hle⟩ := hf.le hb (at_ _ a1 a2)
  have e := at_ _ a3 a4
  have hd' : x (bdJ r b).toNat = some d := hd
  rw [hd'] at e
  simp only [Option.some.injEq] at e
  rw [hd', Option.getD_some]
  unfold bW at hle
  omega
 ·have := low q hq v.toNat _ (at_ v h1 h2)
  rw [show ((v.toNat : Nat) : Int) = v by omega] at this
  exact this
 ·obtain ⟨a, ha, hle⟩ := h0
  have := low p hp u a ha
  simp only [Int.toNat_natCast, ha, Option.getD_some]
  omega
def Conn (L : List za) (n : Nat) : Prop := ∀ v : Int, 1 <= v -> v < (n : Int) -> (∃ b ∈ L, b.i = 0 /\ b.j = v) /\ ∃ b ∈ L, b.i = v /\ b.j = 0
theorem Conn.d {L : List za} {n : Nat} (h : Conn L n) (r : Bool) : ∀ v : Nat, 1 <= v -> v < n -> (∃ b ∈ L, nI r b = 0 /\ nJ r b = v) /\ ∃ b ∈ L, nI r b = v /\ nJ r b = 0 := by
 intro v h1 h2
 obtain ⟨⟨b, hb, b1, b2⟩, c, hc, c1, c2⟩ := h (v : Int) (by omega) (by omega)
 cases r
 ·exact ⟨⟨b, hb, by unfold nI bdI; rw [if_neg (by simp), b1]; rfl, by unfold nJ bdJ; rw [if_neg (by simp), b2]; simp⟩, c, hc, by unfold nI bdI; rw [if_neg (by simp), c1]; simp, by unfold nJ bdJ; rw [if_neg (by simp), c2]; rfl⟩
 ·exact ⟨⟨c, hc, by unfold nI bdI; rw [if_pos rfl, c2]; rfl, by unfold nJ bdJ; rw [if_pos rfl, c1]; simp⟩, b, hb, by unfold nI bdI; rw [if_pos rfl, b2]; simp, by unfold nJ bdJ; rw [if_pos rfl, b1]; rfl⟩
theorem ybj {r : Bool} {n : Nat} {L : List za} (hc : Conn L n) {u : Nat} (hu : u < n) {x : BF.X} (hf : BF.Fix (nI r) (nJ r) bW L x) (h0 : BF.le (x u) 0) : ∀ v, v < n -> (x v).isSome = true := by
 have z0 : ∃ a, x 0 = some a := by
  by_cases h : u = 0
  ·subst h; obtain ⟨a, ha, _⟩ := h0; exact ⟨a, ha⟩
  ·obtain ⟨_, b, hb, b1, b2⟩ := hc.d r u (by omega) hu
   obtain ⟨a, ha, _⟩ := h0
   obtain ⟨d, hd, _⟩ := hf.le hb (by rw [b1]; exact ha)
   rw [b2] at hd
   exact ⟨d, hd⟩
 intro v hv
 obtain ⟨a, ha⟩ := z0
 by_cases h : v = 0
 ·subst h; rw [ha]; rfl
 ·obtain ⟨⟨b, hb, b1, b2⟩, _⟩ := hc.d r v (by omega) hv
  obtain ⟨d, hd, _⟩ := hf.le hb (by rw [b1]; exact ha)
  rw [b2] at hd
  rw [hd]; rfl
theorem zvn {r : Bool} {n : Nat} {L : List za} (hL : ∀ b ∈ L, okBd n b) (hc : Conn L n) {p : Int -> Int} (hp : SolD r L p) {u : Nat} (hu : u < n) {x : BF.X} (hf : BF.Fix (nI r) (nJ r) bW L x) {k : Nat} (hk : x = BF.rnds (nI r) (nJ r) bW L (xs1 u) k) :
  zql r L n (u : Int) (fun v => (x v.toNat).getD 0) /\ ∀ v, v < n -> (x v).isSome = true := by
 have h0 : BF.le (x u) 0 := by
  rw [hk]
  exact BF.rnds_mono L ⟨0, by unfold xs1; rw [if_pos rfl], Int.le_refl _⟩ k
 have hall := ybj hc hu hf h0
 exact ⟨zyh hL hp hu hf (by rw [hk]; exact BF.Inv.rnds k) h0 hall, hall⟩
def farN : Int := 1125899906842624
structure DS where
 d : List Int
 c : Bool
def stpD (r : Bool) (b : za) (s : DS) : DS := if gt s.d (bdI r b) < farN /\ gt s.d (bdI r b) + b.w < gt s.d (bdJ r b) then ⟨z05 s.d (bdJ r b) (gt s.d (bdI r b) + b.w), true⟩ else s
def rndD (r : Bool) (L : List za) : Nat -> DS -> DS
 | 0, s => s
 | m + 1, s => stpD r (gt L (m : Int)) (rndD r L m s)
def runD (r : Bool) (L : List za) : Nat -> DS -> DS
 | 0, s => s
 | k + 1, s => if s.c = true then runD r L k (rndD r L L.length ⟨s.d, false⟩) else s
def cntF (d : List Int) : Nat := d.countP fun a => decide (a < farN)
structure DB (n c : Nat) (s : DS) : Prop where
 len : s.d.length = n
 hi : ∀ i : Int, 0 <= i -> i < (n : Int) -> gt s.d i = farN \/ gt s.d i + 1099511627776 <= 1099511627776 * (cntF s.d : Int)
 lo : ∀ i : Int, 0 <= i -> i < (n : Int) -> -(1099511627776 * (c : Int)) <= gt s.d i
theorem y5t (d : List Int) : cntF d <= d.length := List.countP_le_length
theorem DB.lt {n c : Nat} {s : DS} (h : DB n c s) (hn : n <= 512) {i : Int} (h0 : 0 <= i) (h1 : i < (n : Int)) : gt s.d i = farN \/ gt s.d i <= 561850441793536 := by
 have := y5t s.d
 rw [h.len] at this
 rcases h.hi i h0 h1 with h | h
 ·exact .inl h
 ·exact .inr (by omega)
theorem zts {d : List Int} {i : Int} (h0 : 0 <= i) (h1 : i < (d.length : Int)) {v : Int} (hv : v < farN) : cntF (z05 d i v) = if gt d i < farN then cntF d else cntF d + 1 := by
 have hi : i.toNat < d.length := by omega
 have hg : d[i.toNat] = gt d i := by
  have := z1m hi
  rw [show ((i.toNat : Nat) : Int) = i by omega] at this
  exact this.symm
 unfold cntF z05
 rw [List.countP_set hi, hg]
 have hv' : decide (v < farN) = true := by simpa using hv
 rw [if_pos hv']
 by_cases hq : gt d i < farN
 ·have : 0 < List.countP (fun a => decide (a < farN)) d := List.countP_pos_iff.2 ⟨gt d i, z21 h0 h1, by simpa using hq⟩
  rw [if_pos (by simpa using hq), if_pos hq]
  omega
 ·rw [if_neg (by simpa using hq), if_neg hq]
  omega
theorem DB.up {n c e : Nat} {s : DS} (h : DB n c s) (he : c <= e) : DB n e s := ⟨h.len, h.hi, fun i h0 h1 => by have := h.lo i h0 h1; omega⟩
theorem DB.stp {n c : Nat} {s : DS} (h : DB n c s) (hn : n <= 512) {b : za} (hb : okBd n b) (r : Bool) : DB n (c + 1) (stpD r b s) := by
 obtain ⟨a1, a2, a3, a4, a5, a6⟩ := zkl hb r
 unfold stpD
 split
 ·rename_i hlt
  obtain ⟨l1, l2⟩ := hlt
  have hx := h.len
  have q1 := h.hi _ a1 a2
  have q2 := h.lt hn a1 a2
  have q3 := h.hi _ a3 a4
  have ql := h.lo _ a1 a2
  have hnew : gt s.d (bdI r b) + b.w < farN := by unfold farN at *; omega
  have hc := zts (d := s.d) a3 (by rw [hx]; exact a4) hnew
  refine ⟨by rw [z1f]; exact hx, fun k h0 h1 => ?_, fun k h0 h1 => ?_⟩
  ·simp only [hc]
   rw [z0j _ _ _ _ a3 (by rw [hx]; exact a4) h0]
   have q4 := h.hi k h0 h1
   by_cases hk : k = bdJ r b
   ·rw [if_pos hk]
    right
    by_cases hq : gt s.d (bdJ r b) < farN
    ·rw [if_pos hq]; omega
    ·rw [if_neg hq]; unfold farN at *; omega
   ·rw [if_neg hk]
    rcases q4 with q4 | q4
    ·exact .inl q4
    ·right
     split <;> omega
  ·rw [z0j _ _ _ _ a3 (by rw [hx]; exact a4) h0]
   have q4 := h.lo k h0 h1
   split <;> omega
 ·exact h.up (by omega)
theorem DB.rnd {n c : Nat} {s : DS} (h : DB n c s) (hn : n <= 512) {L : List za} (hL : ∀ b ∈ L, okBd n b) (r : Bool) : ∀ m, m <= L.length -> DB n (c + m) (rndD r L m s)
 | 0, _ => h
 | m + 1, hm => (DB.rnd h hn hL r m (by omega)).stp hn (hL _ (z21 (by omega) (by omega))) r
def xd (d : List Int) : BF.X := fun v => if v < d.length then (if gt d (v : Int) < farN then some (gt d (v : Int)) else none) else none
theorem y8g {d : List Int} {i : Int} (h0 : 0 <= i) (h : i < (d.length : Int)) : xd d i.toNat = if gt d i < farN then some (gt d i) else none := by
 unfold xd
 rw [if_pos (by omega), show ((i.toNat : Nat) : Int) = i by omega]
theorem zxq {n c : Nat} (hn : n <= 512) {s : DS} (hB : DB n c s) {b : za} (hb : okBd n b) (r : Bool) :
  xd (stpD r b s).d = BF.rlx (nI r) (nJ r) bW (xd s.d) b /\ (BF.imp (nI r) (nJ r) bW (xd s.d) b = true -> (stpD r b s).c = true) /\ (BF.imp (nI r) (nJ r) bW (xd s.d) b = false -> stpD r b s = s) := by
 obtain ⟨a1, a2, a3, a4, a5, a6⟩ := zkl hb r
 have hx := hB.len
 have e1 : xd s.d (nI r b) = _ := y8g a1 (by rw [hx]; exact a2)
 have e2 : xd s.d (nJ r b) = _ := y8g a3 (by rw [hx]; exact a4)
 have q1 := hB.lt hn a1 a2
 have q2 := hB.lt hn a3 a4
 have ei : BF.imp (nI r) (nJ r) bW (xd s.d) b = decide (gt s.d (bdI r b) < farN /\ gt s.d (bdI r b) + b.w < gt s.d (bdJ r b)) := by
  unfold BF.imp
  rw [e1, e2]
  by_cases h1 : gt s.d (bdI r b) < farN
  ·rw [if_pos h1]
   by_cases h2 : gt s.d (bdJ r b) < farN
   ·rw [if_pos h2]
    exact decide_eq_decide.2 ⟨fun h => ⟨h1, h⟩, fun h => h.2⟩
   ·rw [if_neg h2]
    have : gt s.d (bdI r b) + b.w < gt s.d (bdJ r b) := by unfold farN at *; omega
    simp [BF.ltO, h1, this]
  ·rw [if_neg h1]; simp [h1]
 by_cases h : gt s.d (bdI r b) < farN /\ gt s.d (bdI r b) + b.w < gt s.d (bdJ r b)
 ·have er := ei
  rw [decide_eq_true h] at er
  obtain ⟨a, ha, hlt, hr⟩ := BF.rlx_imp er
  rw [e1, if_pos h.1, Option.some.injEq] at ha
  subst ha
  unfold stpD
  rw [if_pos h]
  refine ⟨?_, fun _ => rfl, fun q => (by rw [er] at q; cases q)⟩
  rw [hr]
  funext v
  unfold xd
  simp only [z1f]
  by_cases hv : v < s.d.length
  ·rw [if_pos hv, if_pos hv, z0j _ _ _ _ a3 (by rw [hx]; exact a4) (by omega)]
   by_cases e : v = nJ r b
   ·have e' : (v : Int) = bdJ r b := by unfold nJ at e; omega
    have hnew : gt s.d (bdI r b) + b.w < farN := by unfold farN at *; omega
    rw [if_pos e, if_pos e', if_pos hnew]; rfl
   ·have e' : ¬ (v : Int) = bdJ r b := by unfold nJ at e; omega
    rw [if_neg e, if_neg e']
  ·rw [if_neg hv, if_neg hv, if_neg (fun e => hv (by rw [hx, e]; unfold nJ; omega))]
 ·have er := ei
  rw [decide_eq_false h] at er
  unfold stpD
  rw [if_neg h]
  exact ⟨(BF.rlx_not er).symm, fun q => (by rw [er] at q; cases q), fun _ => rfl⟩
theorem zyn {n c : Nat} (hn : n <= 512) {s : DS} (hB : DB n c s) {L : List za} (hL : ∀ b ∈ L, okBd n b) (r : Bool) : ∀ m, m <= L.length -> xd (rndD r L m s).d = (L.take m).foldl (BF.rlx (nI r) (nJ r) bW) (xd s.d)
 | 0, _ => rfl
 | m + 1, hm => by
  have ih := zyn hn hB hL r m (by omega)
  rw [z0w L m (by omega), List.foldl_append, <- ih]
  exact (zxq hn (hB.rnd hn hL r m (by omega)) (hL _ (z21 (by omega) (by omega))) r).1
theorem y5c {n c : Nat} (hn : n <= 512) {s : DS} (hB : DB n c s) {L : List za} (hL : ∀ b ∈ L, okBd n b) (r : Bool) (hc : s.c = false) : ∀ m, m <= L.length -> (rndD r L m s).c = false -> rndD r L m s = s /\ ∀ k : Nat, k < m -> BF.imp (nI r) (nJ r) bW (xd s.d) (gt L (k : Int)) = false
 | 0, _, _ => ⟨rfl, fun k hk => by omega⟩
 | m + 1, hm, h => by
  obtain ⟨q1, q2, q3⟩ := zxq hn (hB.rnd hn hL r m (by omega)) (hL _ (z21 (l := L) (i := (m : Int)) (by omega) (by omega))) r
  change (stpD r (gt L (m : Int)) (rndD r L m s)).c = false at h
  cases hi : BF.imp (nI r) (nJ r) bW (xd (rndD r L m s).d) (gt L (m : Int)) with
  | true => rw [q2 hi] at h; cases h
  | false =>
   have e := q3 hi
   rw [e] at h
   obtain ⟨e2, h4⟩ := y5c hn hB hL r hc m (by omega) h
   refine ⟨by change stpD r (gt L (m : Int)) (rndD r L m s) = s; rw [e, e2], fun k hk => ?_⟩
   by_cases hkm : k = m
   ·subst hkm; rw [e2] at hi; exact hi
   ·exact h4 k (by omega)
theorem zy1 {r : Bool} {n : Nat} (hn : n <= 512) {L : List za} (hL : ∀ b ∈ L, okBd n b) {x0 : BF.X} (F : BF.Feas (nI r) (nJ r) bW x0 L n) : ∀ (f k c : Nat) (s : DS), DB n c s -> xd s.d = BF.rnds (nI r) (nJ r) bW L x0 k -> (s.c = false -> BF.Fix (nI r) (nJ r) bW L (xd s.d)) -> n <= k + f ->
  (runD r L f s).d.length = n /\ BF.Fix (nI r) (nJ r) bW L (xd (runD r L f s).d) /\ (∃ k', xd (runD r L f s).d = BF.rnds (nI r) (nJ r) bW L x0 k') /\ DB n (c + f * L.length) (runD r L f s)
 | 0, k, c, s, hB, hx, hc, hk => by
  refine ⟨hB.len, fun b hb => ?_, ⟨k, hx⟩, hB.up (by omega)⟩
  have := BF.done F (k := k) (by omega) b hb
  rw [<- hx] at this
  exact this
 | f + 1, k, c, s, hB, hx, hc, hk => by
  unfold runD
  split
  ·have hB1 : DB n c ⟨s.d, false⟩ := ⟨hB.len, hB.hi, hB.lo⟩
   have hr := zyn hn hB1 hL r L.length (Nat.le_refl _)
   rw [List.take_length] at hr
   have hr2 : xd (rndD r L L.length ⟨s.d, false⟩).d = BF.rnds (nI r) (nJ r) bW L x0 (k + 1) := by
    rw [hr, show xd (DS.mk s.d false).d = _ from hx]; rfl
   have := zy1 hn hL F f (k + 1) (c + L.length) _ (hB1.rnd hn hL r L.length (Nat.le_refl _)) hr2 (fun h => by
    obtain ⟨e1, e2⟩ := y5c hn hB1 hL r rfl L.length (Nat.le_refl _) h
    intro b hb
    rw [e1]
    obtain ⟨i, hi, rfl⟩ := zf9 hb
    exact e2 i hi) (by omega)
   refine ⟨this.1, this.2.1, this.2.2.1, this.2.2.2.up ?_⟩
   rw [Nat.add_mul, Nat.one_mul]; omega
  ·rename_i h
   exact ⟨hB.len, hc (by cases hq : s.c with | true => exact absurd hq h | false => rfl), ⟨k, hx⟩, hB.up (by omega)⟩
def d0 (n : Nat) (u : Int) : List Int := z05 (List.replicate n farN) u 0
theorem y7l {n : Nat} {u i : Int} (hu : 0 <= u) (hu' : u < (n : Int)) (h0 : 0 <= i) (h1 : i < (n : Int)) : gt (d0 n u) i = if i = u then 0 else farN := by
 unfold d0
 rw [z0j _ _ _ _ hu (by simpa using hu') h0, z2w _ _ _ h0 h1]
theorem y4p (n : Nat) (u : Int) : (d0 n u).length = n := by simp [d0, z1f]
theorem ybq {n : Nat} {u : Int} (hu : 0 <= u) (hu' : u < (n : Int)) : xd (d0 n u) = xs1 u.toNat := by
 funext v
 unfold xd xs1
 rw [y4p]
 by_cases hv : v < n
 ·rw [if_pos hv, y7l hu hu' (by omega) (by omega)]
  by_cases e : (v : Int) = u
  ·rw [if_pos e, if_pos (by omega : v = u.toNat), if_pos (by decide)]
  ·rw [if_neg e, if_neg (by omega : ¬ v = u.toNat), if_neg (by decide)]
 ·rw [if_neg hv, if_neg (by omega)]
theorem yat {n : Nat} {u : Int} (hu : 0 <= u) (hu' : u < (n : Int)) : DB n 0 ⟨d0 n u, true⟩ := by
 have hc : cntF (d0 n u) = 1 := by
  unfold d0
  rw [zts hu (by simpa using hu') (by decide), z2w _ _ _ hu hu', if_neg (by decide)]
  have : cntF (List.replicate n farN) = 0 := List.countP_eq_zero.2 fun a ha => by
   rw [List.mem_replicate] at ha
   rw [ha.2]; decide
  rw [this]
 refine ⟨y4p n u, fun i h0 h1 => ?_, fun i h0 h1 => ?_⟩
 ·simp only [hc]
  rw [y7l hu hu' h0 h1]
  split
  ·right; omega
  ·left; rfl
 ·simp only
  rw [y7l hu hu' h0 h1]
  split
  ·omega
  ·unfold farN; omega
theorem zlf {r : Bool} {n : Nat} (hn : n <= 512) {L : List za} (hL : ∀ b ∈ L, okBd n b) (hc : Conn L n) {p : Int -> Int} (hp : SolD r L p) {u : Int} (hu : 0 <= u) (hu' : u < (n : Int)) :
  (runD r L n ⟨d0 n u, true⟩).d.length = n /\ zql r L n u (gt (runD r L n ⟨d0 n u, true⟩).d) := by
 have F := yav hL hp (u := u.toNat) (by omega)
 obtain ⟨h1, h2, ⟨k, h3⟩, h4⟩ := zy1 hn hL F n 0 0 ⟨d0 n u, true⟩ (yat hu hu') (ybq hu hu') (fun h => by cases h) (by omega)
 obtain ⟨g1, g2⟩ := zvn hL hc hp (u := u.toNat) (by omega) h2 h3
 refine ⟨h1, ?_⟩
 have key : ∀ v : Int, 0 <= v -> v < (n : Int) -> ((xd (runD r L n ⟨d0 n u, true⟩).d) v.toNat).getD 0 = gt (runD r L n ⟨d0 n u, true⟩).d v := fun v q0 q1 => by
  have := g2 v.toNat (by omega)
  have e := y8g (d := (runD r L n ⟨d0 n u, true⟩).d) q0 (by rw [h1]; exact q1)
  rw [e] at this ⊢
  split
  ·rfl
  ·rename_i hq; rw [if_neg hq] at this; cases this
 rw [show ((u.toNat : Nat) : Int) = u by omega] at g1
 refine ⟨fun b hb => ?_, fun q hq v v0 v1 => ?_, ?_⟩
 ·obtain ⟨a1, a2, a3, a4, _, _⟩ := zkl (hL b hb) r
  have := g1.sat b hb
  rw [key _ a1 a2, key _ a3 a4] at this
  exact this
 ·have := g1.top q hq v v0 v1
  rw [key _ v0 v1] at this
  exact this
 ·have := g1.zero
  rw [key _ hu hu'] at this
  exact this
end Px
end
section
namespace Px
open Go
set_option linter.unusedVariables false
set_option linter.unusedSimpArgs false
structure TS where
 d : List Int
 kn : List Bool
 z : Int
def t0 (n : Nat) (u : Int) : TS := ⟨List.replicate n 0, z05 (List.replicate n false) u true, -1⟩
end Px
end
section
namespace Px
open Go
set_option linter.unusedVariables false
set_option linter.unusedSimpArgs false
set_option maxHeartbeats 4000000
def zxw (fit : Bool) (x : Part) : Bool := !(((((decide ((x.kind : Int) < 1)) || (decide ((3 : Int) < x.kind))) || (decide ((x.serial : Int) < 0))) || (decide ((1073741824 : Int) < x.serial))) || (x.fitted && (!fit)))
theorem z9q (φ : Nat) (l : List Part) (fit : Bool) (h : l.length <= 1000) (hφ : 1000 < φ) : zc9 φ l fit = some (l.all (zxw fit) && decide ((l.length : Int) <= 16), ()) := by
 unfold zc9
 rw [zij (fun n i => z5b φ n l fit l (l.length : Int) i) (some (decide ((l.length : Int) <= 16), ())) (some (false, ())) l (fun x => !zxw fit x) ?_ ?_ φ (by omega)]
 ·simp only [List.any_eq_not_all_not, Bool.not_not]
  cases l.all (zxw fit) <;> rfl
 ·intro n i hi
  rw [z5b, if_pos (by simp; omega), z8 ⟨by omega, by omega⟩, W_id (by omega) (by omega)]
  show _ = bif !!_ then _ else _
  rw [Bool.not_not]
  cases (((((decide (((gt l i).kind : Int) < 1)) || (decide ((3 : Int) < (gt l i).kind))) || (decide (((gt l i).serial : Int) < 0))) || (decide ((1073741824 : Int) < (gt l i).serial))) || ((gt l i).fitted && (!fit))) <;> rfl
 ·intro n; rw [z5b, if_neg (by simp)]
structure zph (p : Pool) (it : Item) : Prop where
 kind : 1 <= it.kind /\ it.kind <= 15
 wagon : it.kind <= 9 -> 0 <= it.wagon /\ it.wagon < (p.fleet.wagons.length : Int)
 read : it.kind = 1 -> 0 <= it.other /\ it.other < (p.readers.length : Int)
 place : it.kind = 2 \/ it.kind = 3 \/ it.kind = 4 \/ it.kind = 6 \/ it.kind = 7 \/ it.kind = 9 -> 0 <= it.place /\ it.place < (p.network.places.length : Int)
 from_ : it.kind <= 9 -> 0 <= it.from_ /\ it.from_ <= 1073741824
 to : it.kind = 2 \/ it.kind = 9 -> it.from_ <= it.to /\ it.to <= 1073741824
theorem ztt {ρ : Type} (c q : Bool) (K : Bool -> Option ρ) : ((z1q (default, ()) (c = true) (some (q, ()))).bind fun y => K (c && y.1)) = K (c && q) := by
 unfold z1q
 cases c <;> rfl
theorem zzf (p : Pool) (it : Item) (hparts : it.parts.length <= 1000) (hw : p.fleet.wagons.length <= 4096) (hr : p.readers.length <= 256) (hs : p.shippers.length <= 256) (hpl : p.network.places.length <= 512) (ht : p.fleet.types.length <= 32) :
  ∃ b, (∀ φ, 1000 < φ -> z24 φ p it = some (b, ())) /\ (b = true -> zph p it) := by
 have w1 : W ((p.fleet.wagons.length : Int) - 1) = (p.fleet.wagons.length : Int) - 1 := W_id (by omega) (by omega)
 have w2 : W ((p.readers.length : Int) - 1) = (p.readers.length : Int) - 1 := W_id (by omega) (by omega)
 have w3 : W ((p.shippers.length : Int) - 1) = (p.shippers.length : Int) - 1 := W_id (by omega) (by omega)
 have w4 : W ((p.network.places.length : Int) - 1) = (p.network.places.length : Int) - 1 := W_id (by omega) (by omega)
 have w5 : W ((p.fleet.types.length : Int) - 1) = (p.fleet.types.length : Int) - 1 := W_id (by omega) (by omega)
 have hm : ∀ x z : Int, max2 x 0 <= z ↔ x <= z /\ 0 <= z := by intro x z; unfold max2; split <;> omega
 by_cases hk0 : it.kind < 1
 ·refine ⟨false, fun φ hφ => ?_, fun h => by cases h⟩
  unfold z24 zc
  rw [if_pos (by simp; omega), if_pos (by simpa using hk0)]
  simp
 by_cases hk16 : 15 < it.kind
 ·refine ⟨false, fun φ hφ => ?_, fun h => by cases h⟩
  have e : ∀ k : Int, k <= 15 -> (it.kind == k) = false := fun k hk => by simp; omega
  unfold z24
  rw [if_neg (by simp; omega)]
  simp [e, z2p, zc]
 have hcases : it.kind = 1 \/ it.kind = 2 \/ it.kind = 3 \/ it.kind = 4 \/ it.kind = 5 \/ it.kind = 6 \/ it.kind = 7 \/ it.kind = 8 \/ it.kind = 9 \/ it.kind = 10 \/ it.kind = 11 \/ it.kind = 12 \/ it.kind = 13 \/ it.kind = 14 \/ it.kind = 15 := by omega
 by_cases hin : 0 <= it.place /\ it.place < (p.network.places.length : Int)
 ·have e1 : (decide ((0 : Int) <= it.place) && decide ((it.place : Int) < (p.network.places.length : Int))) = true := by simp [hin]
  rcases hcases with hk | hk | hk | hk | hk | hk | hk | hk | hk | hk | hk | hk | hk | hk | hk
  case inr.inr.inr.inr.inr.inr.inr.inr.inl =>
   refine ⟨_, fun φ hφ => by
    unfold z24
    simp only [hk, e1, z4l, z8 hin, w1, w2, w3, w4, w5, z9q φ _ _ hparts hφ, Option.bind_some, Int.reduceLE, Int.reduceLT, Int.reduceBEq, decide_true, decide_false, if_true, Bool.false_eq_true, if_false]
    refine (ztt _ _ (fun b => zc φ ⟨_, _, b⟩)).trans ?_
    unfold zc
    rfl, fun hb => ?_⟩
   simp only [Bool.and_eq_true, decide_eq_true_eq, hm, beq_iff_eq, bne_iff_ne, ne_eq, Bool.or_eq_true] at hb
   constructor <;> omega
  case inr.inr.inr.inr.inr.inr.inr.inr.inr.inl =>
   refine ⟨_, fun φ hφ => by
    unfold z24
    simp only [hk, e1, z8 hin, w1, w2, w3, w4, w5, z9q φ _ _ hparts hφ, Option.bind_some, Int.reduceLE, Int.reduceLT, Int.reduceBEq, decide_true, decide_false, if_true, Bool.false_eq_true, if_false]
    refine (ztt _ _ (fun b => zc φ ⟨_, _, b⟩)).trans ?_
    unfold zc
    rfl, fun hb => ?_⟩
   constructor <;> omega
  all_goals
   refine ⟨_, fun φ hφ => by
    unfold z24
    simp only [hk, e1, z5i, z4k, z4q, z4o, z4e, z4m, z2p, z4n, zc, z8 hin, w1, w2, w3, w4, w5, Option.bind_some, Int.reduceLE, Int.reduceLT, Int.reduceBEq, Int.reduceBNe, Int.reduceNe, decide_true, decide_false, if_true, Bool.false_eq_true, if_false]
    rfl, fun hb => ?_⟩
   simp only [Bool.and_eq_true, decide_eq_true_eq, hm, beq_iff_eq, bne_iff_ne, ne_eq, Bool.or_eq_true] at hb
   constructor <;> omega
 ·have e1 : (decide ((0 : Int) <= it.place) && decide ((it.place : Int) < (p.network.places.length : Int))) = false := by
   rw [<- Bool.not_eq_true]; simpa using hin
  rcases hcases with hk | hk | hk | hk | hk | hk | hk | hk | hk | hk | hk | hk | hk | hk | hk
  case inr.inr.inr.inr.inr.inr.inr.inr.inl =>
   refine ⟨_, fun φ hφ => by
    unfold z24
    simp only [hk, e1, z4l, w1, w2, w3, w4, w5, z9q φ _ _ hparts hφ, Option.bind_some, Int.reduceLE, Int.reduceLT, Int.reduceBEq, decide_true, decide_false, if_true, Bool.false_eq_true, if_false]
    refine (ztt _ _ (fun b => zc φ ⟨_, _, b⟩)).trans ?_
    unfold zc
    rfl, fun hb => ?_⟩
   simp at hb
  case inr.inr.inr.inr.inr.inr.inr.inr.inr.inl =>
   refine ⟨_, fun φ hφ => by
    unfold z24
    simp only [hk, e1, w1, w2, w3, w4, w5, z9q φ _ _ hparts hφ, Option.bind_some, Int.reduceLE, Int.reduceLT, Int.reduceBEq, decide_true, decide_false, if_true, Bool.false_eq_true, if_false]
    refine (ztt _ _ (fun b => zc φ ⟨_, _, b⟩)).trans ?_
    unfold zc
    rfl, fun hb => ?_⟩
   constructor <;> omega
  all_goals
   refine ⟨_, fun φ hφ => by
    unfold z24
    simp only [hk, e1, z5i, z4k, z4q, z4o, z4e, z4m, z2p, z4n, zc, w1, w2, w3, w4, w5, Option.bind_some, Int.reduceLE, Int.reduceLT, Int.reduceBEq, Int.reduceBNe, Int.reduceNe, decide_true, decide_false, if_true, Bool.false_eq_true, if_false]
    rfl, fun hb => ?_⟩
   simp only [Bool.and_eq_true, decide_eq_true_eq, hm, beq_iff_eq, bne_iff_ne, ne_eq, Bool.or_eq_true] at hb
   first | (constructor <;> omega) | (simp at hb; done) | (simp at hb; constructor <;> omega)
def zds (p : Pool) (it : Item) : Bool := ((z24 2000 p it).getD (false, ())).1
def y1f (it : Item) : Bool := ((z62 0 it).getD (false, ())).1
theorem zqg (φ : Nat) (it : Item) : z62 φ it = some (y1f it, ()) := by
 unfold y1f z62
 split <;> rfl
def zby (p : Pool) (it : Item) : Bool := y1f it && zds p it
theorem zoi {p : Pool} (hc : z0e p = 0) {it : Item} (hparts : it.parts.length <= 1000) : (∀ φ, 1000 < φ -> z24 φ p it = some (zds p it, ())) /\ (zds p it = true -> zph p it) := by
 obtain ⟨hn, hf, h1, h2, h3, hb⟩ := z8l hc
 obtain ⟨n1, n2, _, _⟩ := zj7 hn
 obtain ⟨f1, f2, _⟩ := z9g hf
 obtain ⟨b, hφ, hok⟩ := zzf p it hparts f2 h1 h2 n1 f1
 have : zds p it = b := by unfold zds; rw [hφ 2000 (by omega)]; rfl
 rw [this]
 exact ⟨hφ, hok⟩
theorem zpi (φ : Nat) (hφ : 800000 < φ) {p : Pool} (hc : z0e p = 0) {it : Item} (hparts : it.parts.length <= 1000) : zg9 φ p it = some (bif zby p it then 0 else 110, ()) := by
 unfold zg9 zby
 rw [za3 φ hφ, Option.bind_some, if_neg (by simp [hc]), zqg, Option.bind_some]
 cases y1f it with
 | false => rfl
 | true =>
  rw [gz_t (by simp), (zoi hc hparts).1 φ (by omega), Option.bind_some]
  cases zds p it <;> rfl
theorem zd6 {p : Pool} (hc : z0e p = 0) {it : Item} (hparts : it.parts.length <= 1000) (h : zby p it = true) : zph p it := by
 simp only [zby, Bool.and_eq_true] at h
 exact (zoi hc hparts).2 h.2
end Px
end
section
namespace Px
open Go
set_option linter.unusedVariables false
set_option linter.unusedSimpArgs false
theorem zwn {n b : Nat} (h : n <= 100000) (hb : b <= 1000) : fits n b := by
 unfold fits
 have : n * b <= 100000 * 1000 := Nat.mul_le_mul h hb
 omega
def z49 (r : z7) (place time : Int) : z0i := ⟨r.item.wagon, place, r.ref, false, time, time⟩
def evs (p : Pool) (r : z7) (i : Int) : List z6 :=
 if r.item.kind = 1 then [⟨z49 r (gt p.readers r.item.other).place r.item.from_, i, false, false, r.item.other⟩]
 else if r.item.kind = 2 \/ r.item.kind = 9 then [⟨z49 r r.item.place r.item.from_, i, false, true, -1⟩, ⟨z49 r r.item.place r.item.to, i, true, true, -1⟩]
 else if r.item.kind = 3 \/ r.item.kind = 4 \/ r.item.kind = 6 \/ r.item.kind = 7 then [⟨z49 r r.item.place r.item.from_, i, false, false, -1⟩] else []
theorem zrs (φ : Nat) (p : Pool) (r : z7) (i : Int) (h : r.item.kind = 1 -> 0 <= r.item.other /\ r.item.other < (p.readers.length : Int)) : z0d φ p r i = some (evs p r i, ()) := by
 by_cases h1 : r.item.kind = 1
 ·have h' := h h1
  simp [z0d, evs, h1, z8 h', zn, z49]
 by_cases h2 : r.item.kind = 2
 ·simp [z0d, evs, h2, zz, z1r, z1l, zn, z49]
 by_cases h9 : r.item.kind = 9
 ·simp [z0d, evs, h9, zz, z1r, z1l, zn, z49]
 by_cases h3 : r.item.kind = 3
 ·simp [z0d, evs, h3, zz, zy, zn, z49]
 by_cases h4 : r.item.kind = 4
 ·simp [z0d, evs, h4, zz, zy, zn, z49]
 by_cases h6 : r.item.kind = 6
 ·simp [z0d, evs, h6, zz, zy, zn, z49]
 by_cases h7 : r.item.kind = 7
 ·simp [z0d, evs, h7, zz, zy, zn, z49]
 ·simp [z0d, evs, h1, h2, h9, h3, h4, h6, h7, zz, zy]
theorem z6z {p : Pool} {r : z7} {i : Int} {x : z6} (h : x ∈ evs p r i) : x.report = i /\ x.visit.wagon = r.item.wagon /\ x.visit.ref = r.ref := by
 unfold evs at h
 split at h
 ·simp only [List.mem_singleton] at h; subst h; exact ⟨rfl, rfl, rfl⟩
 ·split at h
  ·simp only [List.mem_cons, List.not_mem_nil, or_false] at h
   rcases h with rfl | rfl <;> exact ⟨rfl, rfl, rfl⟩
  ·split at h
   ·simp only [List.mem_singleton] at h; subst h; exact ⟨rfl, rfl, rfl⟩
   ·cases h
theorem zrn (p : Pool) (r : z7) (i : Int) : (evs p r i).length <= 2 := by
 unfold evs
 split
 ·simp
 ·split
  ·simp
  ·split <;> simp
theorem yac (p : Pool) (r : z7) (i : Int) : (evs p r i).Pairwise fun a b => a.report ≠ b.report \/ a.second ≠ b.second := by
 unfold evs
 split
 ·simp
 ·split
  ·simp
  ·split <;> simp
def cntN (p : Pool) (l : List z7) (n : Nat) : List Int := ((List.range n).filter fun (i : Nat) => zby p (gt l (i : Int)).item).map fun (i : Nat) => (i : Int)
def cnt (p : Pool) (l : List z7) : List Int := cntN p l l.length
theorem zqq (p : Pool) (l : List z7) (n : Nat) : cntN p l (n + 1) = cntN p l n ++ (bif zby p (gt l (n : Int)).item then [(n : Int)] else []) := by
 unfold cntN
 rw [List.range_succ, List.filter_append, List.map_append]
 congr 1
 cases h : zby p (gt l (n : Int)).item <;> simp [h]
theorem zfm (p : Pool) (l : List z7) (n : Nat) : (cntN p l n).length <= n := by
 unfold cntN
 rw [List.length_map]
 exact Nat.le_trans (List.length_filter_le _ _) (by simp)
theorem zwb {p : Pool} {l : List z7} {i : Int} (h : i ∈ cnt p l) : 0 <= i /\ i < (l.length : Int) /\ zby p (gt l i).item = true := by
 simp only [cnt, cntN, List.mem_map, List.mem_filter, List.mem_range] at h
 obtain ⟨n, ⟨h1, h2⟩, rfl⟩ := h
 exact ⟨by omega, by omega, h2⟩
theorem y8r (p : Pool) (l : List z7) : (cnt p l).Pairwise (· < ·) := by
 unfold cnt cntN
 rw [List.pairwise_map]
 refine (List.pairwise_lt_range.filter _).imp ?_
 intro a b h
 omega
structure FewL (l : List z7) : Prop where
 len : l.length <= 1000
 parts : ∀ r ∈ l, r.item.parts.length <= 1000
theorem FewL.gt {l : List z7} (h : FewL l) {i : Int} (h0 : 0 <= i) (hi : i < (l.length : Int)) : (Px.gt l i).item.parts.length <= 1000 := h.parts _ (z21 h0 hi)
theorem zvo (φ : Nat) (hφ : 800000 < φ) {p : Pool} (hc : z0e p = 0) {l : List z7} (hl : FewL l) : z87 φ p l = some (cnt p l, ()) := by
 have h1 := hl.len
 unfold z87
 refine z0k (fun n i acc => z1x φ n l (l.length : Int) i p acc) l.length (fun i acc => acc = cntN p l i) (fun o => o = some (cnt p l, ())) ?_ ?_ φ [] rfl (by omega)
 ·intro n i acc hi hacc hs
  rw [z1x, if_pos (by simp; omega), z8 ⟨by omega, by omega⟩, zpi φ hφ hc (hl.gt (by omega) (by omega)), Option.bind_some, W_id (by omega) (by omega)]
  have hs' := hs (cntN p l (i + 1)) rfl
  rw [zqq] at hs'
  cases h : zby p (gt l (i : Int)).item with
  | true =>
   rw [h] at hs'
   rw [if_pos (by rfl), z8 (zwn (by have := zfm p l i; rw [hacc]; simp; omega) (by omega)), hacc]
   exact hs'
  | false =>
   rw [h] at hs'
   simp only [cond_false, List.append_nil] at hs'
   rw [if_neg (by decide), hacc]
   exact hs'
 ·intro n acc hacc
  rw [z1x, if_neg (by simp), hacc]; rfl
def unsC (p : Pool) (l : List z7) (c : List Int) (w : Int) : List z6 := c.flatMap fun i => if (gt l i).item.wagon = w then evs p (gt l i) i else []
def uns (p : Pool) (l : List z7) (w : Int) : List z6 := unsC p l (cnt p l) w
theorem zfg (p : Pool) (l : List z7) (w : Int) : ∀ c : List Int, (unsC p l c w).length <= 2 * c.length
 | [] => by simp [unsC]
 | i :: c => by
  have := zfg p l w c
  have h2 := zrn p (gt l i) i
  unfold unsC at *
  rw [List.flatMap_cons, List.length_append, List.length_cons]
  split
  ·omega
  ·simp only [List.length_nil]; omega
theorem zwc {a b : z6} (h : a.report ≠ b.report \/ a.second ≠ b.second) : cfEv a b < 0 \/ cfEv b a < 0 := by
 rw [zae, zae]
 have h2 : a.second ≠ b.second -> ordB a.second ≠ ordB b.second := by
  cases a.second <;> cases b.second <;> simp [ordB]
 by_cases hs : a.second = b.second
 ·have h3 := h.resolve_right (fun q => q hs)
  rw [hs]; omega
 ·have := h2 hs
  omega
theorem y4q (p : Pool) (l : List z7) (w : Int) : (uns p l w).Pairwise fun a b => a.report ≠ b.report \/ a.second ≠ b.second := by
 unfold uns unsC
 rw [List.pairwise_flatMap]
 refine ⟨fun i hi => ?_, (y8r p l).imp ?_⟩
 ·split
  ·exact yac _ _ _
  ·exact List.Pairwise.nil
 ·intro i j hij x hx y hy
  split at hx
  ·split at hy
   ·rw [(z6z hx).1, (z6z hy).1]
    exact .inl (by omega)
   ·cases hy
  ·cases hx
theorem zed {p : Pool} {l : List z7} (hl : l.length <= 1000) {w : Int} {x : z6} (h : x ∈ uns p l w) : 0 <= x.report /\ x.report < (l.length : Int) /\ x.visit.wagon = w /\ zby p (gt l x.report).item = true /\ x ∈ evs p (gt l x.report) x.report := by
 simp only [uns, unsC, List.mem_flatMap] at h
 obtain ⟨i, hi, hx⟩ := h
 obtain ⟨h1, h2, h3⟩ := zwb hi
 split at hx
 ·rename_i hw
  obtain ⟨r1, r2, r3⟩ := z6z hx
  rw [r1]
  exact ⟨h1, h2, by rw [r2, hw], h3, hx⟩
 ·cases hx
def ltEv (a b : z6) : Bool := decide (cfEv a b < 0)
def srt (p : Pool) (l : List z7) (w : Int) : List z6 := zd8 ltEv (uns p l w)
theorem zvg {p : Pool} {l : List z7} (hl : l.length <= 1000) (w : Int) : sortEv (uns p l w) = some (srt p l w) := by
 refine y45 (fun y hy => ?_) ?_ ((y4q p l w).imp fun h => zwc h)
 ·obtain ⟨h1, h2, _⟩ := zed hl hy
  simp only [okEv, decide_eq_true_eq]; omega
 ·have := zfg p l w (cnt p l)
  have h2 := zfm p l l.length
  unfold uns cnt at *
  omega
def covM (e : z6) (m : List (Int × Bool)) : List (Int × Bool) := if (e.stay && e.second) = true then mdel m e.report else if e.stay = true then mset m e.report true else m
def za6 (e : z6) (b : Bool) : z6 := ⟨⟨e.visit.wagon, e.visit.place, e.visit.ref, b, e.visit.early, e.visit.late⟩, e.report, e.second, e.stay, e.reader⟩
def ze2 : List z6 -> List (Int × Bool) -> List z6
 | [], _ => []
 | e :: t, m => za6 e (decide ((0 : Int) < ((covM e m).length : Int))) :: ze2 t (covM e m)
theorem zat : ∀ (t : List z6) (m : List (Int × Bool)), (ze2 t m).length = t.length
 | [], _ => rfl
 | e :: t, m => by simp [ze2, zat t]
def z19 (p : Pool) (l : List z7) (w : Int) : List z6 := ze2 (srt p l w) []
theorem zzw {α : Type} (a : List α) (x y : α) (b : List α) : z05 (a ++ x :: b) (a.length : Int) y = a ++ y :: b := by
 simp [z05]
theorem y4d {α : Type} [Inhabited α] (a : List α) (x : α) (b : List α) : gt (a ++ x :: b) (a.length : Int) = x := by
 simp [gt]
theorem zvf (φ : Nat) (k : Int -> Int -> List (List z6) -> Option ((List (List z6)) × Unit)) (x19 x20 x24 : Int) (x23 : List (List z6)) :
  ∀ (n : Nat) (done todo : List z6) (m : List (Int × Bool)), todo.length < n -> done.length + todo.length <= 100000 ->
   z0g φ k n ((done.length + todo.length : Nat) : Int) (done.length : Int) x19 x20 (done ++ todo) m x23 x24 = k x19 (W (x20 + 1)) (z05 x23 x24 (done ++ ze2 todo m)) := by
 intro n
 induction n with
 | zero => intro d t m h _; omega
 | succ n ih =>
  intro d t m hn hl
  cases t with
  | nil =>
   rw [z0g, if_neg (by simp)]
   rfl
  | cons e t =>
   simp only [List.length_cons] at hn hl
   have hin : (0 : Int) <= (d.length : Int) /\ (d.length : Int) < ((d ++ e :: t).length : Int) := ⟨by omega, by simp; omega⟩
   have key : ∀ m', z2g φ (z0g φ k n) (d.length : Int) ((d.length + (e :: t).length : Nat) : Int) (d.length : Int) x19 x20 (d ++ e :: t) m' x23 x24 =
     k x19 (W (x20 + 1)) (z05 x23 x24 (d ++ za6 e (decide ((0 : Int) < (m'.length : Int))) :: ze2 t m')) := by
    intro m'
    unfold z2g
    rw [z8 hin, y4d, W_id (by omega) (by omega), zzw]
    have := ih (d ++ [za6 e (decide ((0 : Int) < (m'.length : Int)))]) t m' (by omega) (by simp; omega)
    simp only [List.length_append, List.length_cons, List.length_nil, List.append_assoc, List.cons_append, List.nil_append] at this
    rw [show ((d.length + (e :: t).length : Nat) : Int) = ((d.length + (0 + 1) + t.length : Nat) : Int) by simp; omega, show (d.length : Int) + 1 = ((d.length + (0 + 1) : Nat) : Int) by omega]
    exact this
   rw [z0g, if_pos (by simp; omega), z8 hin, z8 (fun _ => hin), y4d]
   have hg : ∀ m', covM e m = m' -> ze2 (e :: t) m = za6 e (decide ((0 : Int) < (m'.length : Int))) :: ze2 t m' := fun m' hm => by subst hm; rfl
   by_cases h1 : (e.stay && e.second) = true
   ·rw [if_pos h1, z8 hin, key, hg _ (if_pos h1)]
   ·rw [if_neg h1, z8 hin]
    by_cases h2 : e.stay = true
    ·rw [if_pos h2, z8 hin, key, hg (mset m e.report true) (by unfold covM; rw [if_neg h1, if_pos h2])]
    ·rw [if_neg h2, key, hg m (by unfold covM; rw [if_neg h1, if_neg h2])]
theorem zws (φ : Nat) (hφ : 800000 < φ) {p : Pool} (hc : z0e p = 0) {l : List z7} (hl : FewL l) : za0 φ p l = some ((List.range p.fleet.wagons.length).map fun (w : Nat) => z19 p l (w : Int), ()) := by
 have h1 := hl.len
 obtain ⟨_, hf, _⟩ := z8l hc
 obtain ⟨_, f2, _⟩ := z9g hf
 have hcl := zfm p l l.length
 unfold za0
 rw [z8 (mk_t _ _ (by omega) (by omega) (by omega)), zvo φ hφ hc hl, Option.bind_some]
 generalize hn0 : p.fleet.wagons.length = n0 at *
 have second : ∀ out : List (List z6), out.length = n0 -> (∀ w : Nat, w < n0 -> gt out (w : Int) = uns p l w) -> z0x φ φ (out.length : Int) 0 out = some ((List.range n0).map fun (w : Nat) => z19 p l (w : Int), ()) := by
  intro out ho hu
  rw [ho]
  refine z0k (fun n i o => z0x φ n (n0 : Int) i o) n0 (fun i o => o.length = n0 /\ ∀ w : Nat, w < n0 -> gt o (w : Int) = if w < i then z19 p l w else uns p l w) (fun o => o = some ((List.range n0).map fun (w : Nat) => z19 p l (w : Int), ())) ?_ ?_ φ out ⟨ho, fun w hw => by rw [hu w hw, if_neg (by omega)]⟩ (by omega)
  ·intro n i o hi ⟨ho1, ho2⟩ hs
   rw [z0x, if_pos (by simp; omega), z8 ⟨by omega, by omega⟩, z8 ⟨by omega, by omega⟩, z8 rfl, ho2 i hi, if_neg (by omega), zvg h1, Option.bind_some]
   have hsl : (srt p l (i : Int)).length <= 2000 := by
    rw [srt, (z15 _ _).length_eq]
    have := zfg p l i (cnt p l)
    unfold uns cnt at *
    omega
   have := zvf φ (z0x φ n) (n0 : Int) (i : Int) (i : Int) o φ [] (srt p l (i : Int)) [] (by omega) (by simp; omega)
   simp only [List.length_nil, Nat.zero_add, List.nil_append] at this
   refine this.trans ?_
   rw [W_id (by omega) (by omega)]
   refine hs _ ⟨by rw [z1f]; exact ho1, fun w hw => ?_⟩
   rw [z0j _ _ _ _ (by omega) (by omega) (by omega)]
   by_cases e : w = i
   ·subst e; rw [if_pos rfl, if_pos (by omega)]; rfl
   ·rw [if_neg (by omega), ho2 w hw]
    by_cases h2 : w < i
    ·rw [if_pos h2, if_pos (by omega)]
    ·rw [if_neg h2, if_neg (by omega)]
  ·intro n o ⟨ho1, ho2⟩
   rw [z0x, if_neg (by simp)]
   congr 2
   refine List.ext_getElem (by simp [ho1]) fun w hw hw2 => ?_
   have := ho2 w (by omega)
   rw [z1m hw, if_pos (by omega)] at this
   simpa using this
 refine z0k (fun n i o => z1y φ n l (cnt p l) ((cnt p l).length : Int) i p o) (cnt p l).length (fun i o => o.length = n0 /\ ∀ w : Nat, w < n0 -> gt o (w : Int) = unsC p l ((cnt p l).take i) w) (fun o => o = some ((List.range n0).map fun (w : Nat) => z19 p l (w : Int), ())) ?_ ?_ φ _ ⟨by simp, fun w hw => ?_⟩ (by unfold cnt; omega)
 ·intro n i o hi ⟨ho1, ho2⟩ hs
  have hmem : gt (cnt p l) (i : Int) ∈ cnt p l := z21 (by omega) (by omega)
  obtain ⟨c1, c2, c3⟩ := zwb hmem
  have hI := zd6 hc (hl.gt c1 c2) c3
  have hcn : (cnt p l).length <= 1000 := by unfold cnt; omega
  rw [z1y, if_pos (by simp; omega), z8 ⟨by omega, by omega⟩, z8 ⟨c1, c2⟩, zrs φ p _ _ hI.read, Option.bind_some]
  have hW : W ((i : Int) + 1) = (i : Int) + 1 := W_id (by omega) (by omega)
  have htake : ∀ w, unsC p l ((cnt p l).take (i + 1)) w = unsC p l ((cnt p l).take i) w ++ (if (gt l (gt (cnt p l) (i : Int))).item.wagon = w then evs p (gt l (gt (cnt p l) (i : Int))) (gt (cnt p l) (i : Int)) else []) := by
   intro w
   rw [z0w _ _ hi]
   simp [unsC]
  generalize gt (cnt p l) (i : Int) = ci at *
  generalize hev : evs p (gt l ci) ci = E at *
  have hE : E.length <= 2 := by rw [<- hev]; exact zrn _ _ _
  simp only []
  by_cases h0 : 0 < E.length
  ·have hkind : (gt l ci).item.kind <= 9 := by
    rcases Int.lt_or_le 9 (gt l ci).item.kind with h | h
    ·exfalso
     have : E = [] := by
      rw [<- hev]; unfold evs
      rw [if_neg (by omega), if_neg (by omega), if_neg (by omega)]
     rw [this] at h0; simp at h0
    ·exact h
   have hwg := hI.wagon hkind
   rw [hn0] at hwg
   obtain ⟨w0, hw0⟩ : ∃ w0 : Nat, (gt l ci).item.wagon = (w0 : Int) := ⟨(gt l ci).item.wagon.toNat, by omega⟩
   rw [hw0] at hwg htake ⊢
   have hwg' : (0 : Int) <= (w0 : Int) /\ (w0 : Int) < (o.length : Int) := ⟨by omega, by omega⟩
   have hul := zfg p l w0 ((cnt p l).take i)
   rw [if_pos (by simpa using h0), z8 ⟨c1, c2⟩, z8 hwg', z8 hwg', z8 trivial, ho2 w0 (by omega),
    z8 (zwn (by rw [List.length_take] at hul; omega) (by omega)), z8 hwg', z8 trivial, hW]
   refine hs _ ⟨by rw [z1f]; exact ho1, fun w hw => ?_⟩
   rw [z0j _ _ _ _ (by omega) (by omega) (by omega), htake]
   by_cases e : (w : Int) = (w0 : Int)
   ·rw [if_pos e, e, if_pos rfl]
   ·rw [if_neg e, if_neg (fun q => e q.symm), List.append_nil, ho2 w hw]
  ·have hnil : E = [] := List.eq_nil_of_length_eq_zero (by omega)
   rw [if_neg (by simpa using h0), hW]
   refine hs _ ⟨ho1, fun w hw => ?_⟩
   rw [htake, hnil, ho2 w hw]
   split <;> simp
 ·intro n o ⟨ho1, ho2⟩
  rw [z1y, if_neg (by simp)]
  refine second o ho1 fun w hw => ?_
  rw [ho2 w hw, List.take_length]; rfl
 ·rw [z2w _ _ _ (by omega) (by simp; omega)]
  simp [unsC]
  rfl
end Px
end
section
namespace Px
open Go
set_option linter.unusedVariables false
set_option linter.unusedSimpArgs false
theorem zao (m : List (Int × Int)) (a v c : Int) : mget (mset m a v) c = if c = a then some v else mget m c := by
 induction m with
 | nil =>
  show (bif c == a then some v else none) = _
  by_cases h : c = a
  ·rw [if_pos h]; simp [h]
  ·rw [if_neg h]
   have : (c == a) = false := by simpa using h
   rw [this]; rfl
 | cons p m ih =>
  obtain ⟨k, w⟩ := p
  show mget (bif a == k then (a, v) :: m else (k, w) :: mset m a v) c = _
  have e1 : mget ((k, w) :: m) c = bif c == k then some w else mget m c := rfl
  by_cases h1 : a = k
  ·subst h1
   simp only [beq_self_eq_true, cond_true]
   show (bif c == a then some v else mget m c) = _
   rw [e1]
   by_cases h : c = a
   ·rw [if_pos h]; simp [h]
   ·rw [if_neg h]
    have : (c == a) = false := by simpa using h
    rw [this]; rfl
  ·have : (a == k) = false := by simpa using h1
   rw [this]
   show (bif c == k then some w else mget (mset m a v) c) = _
   rw [ih, e1]
   by_cases h2 : c = k
   ·subst h2
    have h3 : ¬ c = a := fun e => h1 e.symm
    simp [h3]
   ·have : (c == k) = false := by simpa using h2
    rw [this]; rfl
theorem zy6 {p : Pool} {l : List z7} (hl : l.length <= 1000) (w : Int) : (z19 p l w).length <= 2000 := by
 unfold z19
 rw [zat, srt, (z15 _ _).length_eq]
 have := zfg p l w (cnt p l)
 have := zfm p l l.length
 unfold uns cnt at *
 omega
end Px
end
section
namespace Px
open Go
set_option linter.unusedVariables false
set_option linter.unusedSimpArgs false
theorem zyx (φ : Nat) (hφ : 800000 < φ) (x : zg) (a b : z0i) : ∃ t, z2k φ x a b = some (t, ()) /\ 0 <= t /\ t <= 1073741825 := by
 unfold z2k
 split
 ·exact ⟨_, rfl, by omega, by omega⟩
 ·obtain ⟨t, e, h, h1, h2⟩ := zll φ hφ x a.place b.place
  rw [h, Option.bind_some]
  split
  ·exact ⟨_, rfl, by omega, by omega⟩
  ·exact ⟨_, rfl, h1, by omega⟩
def tvl (φ : Nat) (x : zg) (a b : z0i) : Int := ((z2k φ x a b).getD default).1
theorem y4x (φ : Nat) (hφ : 800000 < φ) (x : zg) (a b : z0i) : z2k φ x a b = some (tvl φ x a b, ()) /\ 0 <= tvl φ x a b /\ tvl φ x a b <= 1073741825 := by
 obtain ⟨t, h, h1, h2⟩ := zyx φ hφ x a b
 unfold tvl
 rw [h]
 exact ⟨rfl, h1, h2⟩
def y0 : Nat -> Ref := fun _ => (default : Ref)
def y1 (r : Ref) : Nat -> Ref := upd (fun _ => (default : Ref)) 0 r
def y2 (r q : Ref) : Nat -> Ref := upd (upd (fun _ => (default : Ref)) 0 r) 1 q
def zuq (m : List (Int × Int)) (e : z6) : List (Int × Int) := if 0 <= e.reader then mset m e.reader 0 else m
def zl7 (m : List (Int × Int)) (t : List z6) : List (Int × Int) := t.foldl zuq m
def used (ts : List (List z6)) : List (Int × Int) := ts.foldl zl7 []
structure BS where
 v : Int
 b : List za
 y : List (Nat -> Ref)
 e : List z1b
structure RS where
 v : Int
 m : List (Int × Int)
 b : List za
 y : List (Nat -> Ref)
def zhs (rs : List z0y) (i : Nat) (s : RS) : RS :=
 if (mget s.m (i : Int)).isSome = true then ⟨s.v + 1, mset s.m (i : Int) s.v, s.b ++ [⟨0, s.v, 0 - (gt rs (i : Int)).low⟩, ⟨s.v, 0, (gt rs (i : Int)).high⟩], s.y ++ [y0, y0]⟩ else s
def rdsN (rs : List z0y) (m : List (Int × Int)) : Nat -> RS
 | 0 => ⟨1, m, [], []⟩
 | n + 1 => zhs rs n (rdsN rs m n)
def rv (m : List (Int × Int)) (e : z6) : Int := (mget m e.reader).getD default
def evB (m : List (Int × Int)) (v : Int) (e : z6) : List za :=
 if e.reader < 0 then [⟨0, v, e.visit.early⟩, ⟨v, 0, 0 - e.visit.early⟩]
 else [⟨rv m e, v, e.visit.early⟩, ⟨v, rv m e, 0 - e.visit.early⟩, ⟨0, v, 1073741824⟩, ⟨v, 0, 0⟩]
def evY (e : z6) : List (Nat -> Ref) := List.replicate (if e.reader < 0 then 2 else 4) (y1 e.visit.ref)
def trB (tv : z0i -> z0i -> Int) (v : Int) (pr : Option z0i) (e : z6) : List za :=
 match pr with
 | none => []
 | some a => [⟨v, v - 1, 0 - tv a e.visit⟩]
def trY (pr : Option z0i) (e : z6) : List (Nat -> Ref) :=
 match pr with
 | none => []
 | some a => [y2 a.ref e.visit.ref]
def zab (tv : z0i -> z0i -> Int) (m : List (Int × Int)) (pr : Option z0i) (e : z6) (s : BS) : BS :=
 ⟨s.v + 1, s.b ++ evB m s.v e ++ trB tv s.v pr e, s.y ++ evY e ++ trY pr e, s.e ++ [⟨e.visit.wagon, e.visit.place, s.v, e.visit.ref, e.visit.stay⟩]⟩
def bEv (tv : z0i -> z0i -> Int) (m : List (Int × Int)) : Option z0i -> List z6 -> BS -> BS
 | _, [], s => s
 | pr, e :: t, s => bEv tv m (some e.visit) t (zab tv m pr e s)
def bAll (tv : z0i -> z0i -> Int) (rs : List z0y) (ts : List (List z6)) : BS :=
 ts.foldl (fun s t => bEv tv (rdsN rs (used ts) rs.length).m none t s) ⟨(rdsN rs (used ts) rs.length).v, (rdsN rs (used ts) rs.length).b, (rdsN rs (used ts) rs.length).y, []⟩
def bEnd (s : BS) : z1c × Int × Unit := if 512 < s.v \/ 4096 < s.b.length then (⟨0, [], [], []⟩, 2, ()) else (⟨s.v, s.b, s.y, s.e⟩, 0, ())
def ze (p : Pool) (l : List z7) : List (List z6) := (List.range p.fleet.wagons.length).map fun (w : Nat) => z19 p l (w : Int)
theorem z7t (rs : List z0y) (m : List (Int × Int)) : ∀ n, 1 <= (rdsN rs m n).v /\ (rdsN rs m n).v <= 1 + n /\ (rdsN rs m n).b.length <= 2 * n /\ (rdsN rs m n).y.length <= 2 * n
 | 0 => ⟨by simp [rdsN], by simp [rdsN], by simp [rdsN], by simp [rdsN]⟩
 | n + 1 => by
  obtain ⟨h1, h2, h3, h4⟩ := z7t rs m n
  simp only [rdsN, zhs]
  split
  ·refine ⟨?_, ?_, ?_, ?_⟩ <;> simp <;> omega
  ·refine ⟨?_, ?_, ?_, ?_⟩ <;> omega
theorem y6e (m : List (Int × Int)) (v : Int) (e : z6) : (evB m v e).length <= 4 := by
 unfold evB; split <;> simp
theorem y83 (e : z6) : (evY e).length <= 4 := by
 unfold evY; split <;> simp
theorem y6x (tv : z0i -> z0i -> Int) (v : Int) (pr : Option z0i) (e : z6) : (trB tv v pr e).length <= 1 := by
 cases pr <;> simp [trB]
theorem y6q (pr : Option z0i) (e : z6) : (trY pr e).length <= 1 := by
 cases pr <;> simp [trY]
structure BB (n : Nat) (s : BS) : Prop where
 v0 : 1 <= s.v
 v1 : s.v <= 257 + n
 b : s.b.length <= 512 + 5 * n
 y : s.y.length <= 512 + 5 * n
 e : s.e.length <= n
theorem BB.step {n : Nat} {s : BS} (h : BB n s) (tv m pr e) : BB (n + 1) (zab tv m pr e s) := by
 have h1 := y6e m s.v e
 have h2 := y83 e
 have h3 := y6x tv s.v pr e
 have h4 := y6q pr e
 obtain ⟨a, b, c, d, f⟩ := h
 unfold zab
 constructor
 ·show 1 <= s.v + 1; omega
 ·show s.v + 1 <= 257 + ((n + 1 : Nat) : Int); omega
 ·show (s.b ++ evB m s.v e ++ trB tv s.v pr e).length <= _
  rw [List.length_append, List.length_append]; omega
 ·show (s.y ++ evY e ++ trY pr e).length <= _
  rw [List.length_append, List.length_append]; omega
 ·show (s.e ++ [_]).length <= _
  rw [List.length_append]; simp; omega
theorem BB.ev (tv m) : ∀ (t : List z6) (n : Nat) (pr : Option z0i) (s : BS), BB n s -> BB (n + t.length) (bEv tv m pr t s)
 | [], n, pr, s, h => h
 | e :: t, n, pr, s, h => by
  have := BB.ev tv m t (n + 1) (some e.visit) (zab tv m pr e s) (h.step tv m pr e)
  rw [show n + (e :: t).length = n + 1 + t.length by simp; omega]
  exact this
section
variable (φ : Nat)
theorem ybg (hφ : 10 < φ) (k) (x55 x56 x57 x58 x59 x60 x61 x62 x63 x64 x65 x66 x67 x68) (B : List za) (x70 x71 x72 x73) (b : List za) (y : List (Nat -> Ref)) (x76 x77 x78 x79) (hB : B.length <= 4) (hb : b.length <= 50000000) (hy : y.length <= 50000000) :
  z2a φ k φ (B.length : Int) 0 x55 x56 x57 x58 x59 x60 x61 x62 x63 x64 x65 x66 x67 x68 B x70 x71 x72 x73 b y x76 x77 x78 x79 = k x55 x56 x57 (W (x58 + 1)) x70 x71 (W (x67 + 1)) x72 x77 x78 x79 (b ++ B) (y ++ List.replicate B.length x68) x76 := by
 refine z0k (fun n i (s : List za × List (Nat -> Ref)) => z2a φ k n (B.length : Int) i x55 x56 x57 x58 x59 x60 x61 x62 x63 x64 x65 x66 x67 x68 B x70 x71 x72 x73 s.1 s.2 x76 x77 x78 x79) B.length (fun i s => s.1 = b ++ B.take i /\ s.2 = y ++ List.replicate i x68) (fun o => o = k x55 x56 x57 (W (x58 + 1)) x70 x71 (W (x67 + 1)) x72 x77 x78 x79 (b ++ B) (y ++ List.replicate B.length x68) x76) ?_ ?_ φ (b, y) ⟨by simp, by simp⟩ (by omega)
 ·intro n i s hi ⟨h1, h2⟩ hs
  rw [z2a, if_pos (by simp; omega), z8 ⟨by omega, by omega⟩, z8 (zfa (by rw [h1]; simp; omega) (by omega)), z8 (zfa (by rw [h2]; simp; omega) (by omega)), W_id (by omega) (by omega)]
  exact hs (_, _) ⟨by rw [h1, z0w B i hi, List.append_assoc], by rw [h2, List.replicate_succ', List.append_assoc]⟩
 ·intro n s ⟨h1, h2⟩
  rw [z2a, if_neg (by simp), h1, h2, List.take_length]
theorem yak (hφ : 10 < φ) (k) (x137 x138 x139 x140 x141 x142 x143 x144 x145 x146 x147 x148 x149 x150 x151 x152 x153 x154 x155 x156 x157) (B : List za) (x159 x160 x161 x162 x163) (b : List za) (y : List (Nat -> Ref)) (x166 x167 x168 x169) (hB : B.length <= 4) (hb : b.length <= 50000000) (hy : y.length <= 50000000) :
  z1w φ k φ (B.length : Int) 0 x137 x138 x139 x140 x141 x142 x143 x144 x145 x146 x147 x148 x149 x150 x151 x152 x153 x154 x155 x156 x157 B x159 x160 x161 x162 x163 b y x166 x167 x168 x169 = k x137 x138 x139 x140 x141 x142 (W (x143 + 1)) x159 x160 x156 x161 x167 x168 x169 (b ++ B) (y ++ List.replicate B.length x157) x166 := by
 refine z0k (fun n i (s : List za × List (Nat -> Ref)) => z1w φ k n (B.length : Int) i x137 x138 x139 x140 x141 x142 x143 x144 x145 x146 x147 x148 x149 x150 x151 x152 x153 x154 x155 x156 x157 B x159 x160 x161 x162 x163 s.1 s.2 x166 x167 x168 x169) B.length (fun i s => s.1 = b ++ B.take i /\ s.2 = y ++ List.replicate i x157) (fun o => o = k x137 x138 x139 x140 x141 x142 (W (x143 + 1)) x159 x160 x156 x161 x167 x168 x169 (b ++ B) (y ++ List.replicate B.length x157) x166) ?_ ?_ φ (b, y) ⟨by simp, by simp⟩ (by omega)
 ·intro n i s hi ⟨h1, h2⟩ hs
  rw [z1w, if_pos (by simp; omega), z8 ⟨by omega, by omega⟩, z8 (zfa (by rw [h1]; simp; omega) (by omega)), z8 (zfa (by rw [h2]; simp; omega) (by omega)), W_id (by omega) (by omega)]
  exact hs (_, _) ⟨by rw [h1, z0w B i hi, List.append_assoc], by rw [h2, List.replicate_succ', List.append_assoc]⟩
 ·intro n s ⟨h1, h2⟩
  rw [z1w, if_neg (by simp), h1, h2, List.take_length]
theorem yai (hφ : 10 < φ) (k) (x173 x174 x175 x176 x177 x178 x179 x180 x181 x182 x183) (B : List za) (x185 x186 x187 x188) (b : List za) (y : List (Nat -> Ref)) (x191 x192 x193 x194) (hB : B.length <= 4) (hb : b.length <= 50000000) (hy : y.length <= 50000000) :
  z1s φ k φ (B.length : Int) 0 x173 x174 x175 x176 x177 x178 x179 x180 x181 x182 x183 B x185 x186 x187 x188 b y x191 x192 x193 x194 = z0h φ k x173 x174 x175 x176 x177 x178 x179 x180 x181 x185 x186 x182 x187 x188 x192 x193 x194 (b ++ B) (y ++ List.replicate B.length x183) x191 := by
 refine z0k (fun n i (s : List za × List (Nat -> Ref)) => z1s φ k n (B.length : Int) i x173 x174 x175 x176 x177 x178 x179 x180 x181 x182 x183 B x185 x186 x187 x188 s.1 s.2 x191 x192 x193 x194) B.length (fun i s => s.1 = b ++ B.take i /\ s.2 = y ++ List.replicate i x183) (fun o => o = z0h φ k x173 x174 x175 x176 x177 x178 x179 x180 x181 x185 x186 x182 x187 x188 x192 x193 x194 (b ++ B) (y ++ List.replicate B.length x183) x191) ?_ ?_ φ (b, y) ⟨by simp, by simp⟩ (by omega)
 ·intro n i s hi ⟨h1, h2⟩ hs
  rw [z1s, if_pos (by simp; omega), z8 ⟨by omega, by omega⟩, z8 (zfa (by rw [h1]; simp; omega) (by omega)), z8 (zfa (by rw [h2]; simp; omega) (by omega)), W_id (by omega) (by omega)]
  exact hs (_, _) ⟨by rw [h1, z0w B i hi, List.append_assoc], by rw [h2, List.replicate_succ', List.append_assoc]⟩
 ·intro n s ⟨h1, h2⟩
  rw [z1s, if_neg (by simp), h1, h2, List.take_length]
theorem y9h (hφ : 10 < φ) (k) (x173 x174 x175 x176 x177 x178 x179 x180 x181 x182 x183) (B : List za) (x185 x186 x187 x188) (b : List za) (y : List (Nat -> Ref)) (x191 x192 x193 x194) (hB : B.length <= 4) (hb : b.length <= 50000000) (hy : y.length <= 50000000) :
  z1v φ k φ (B.length : Int) 0 x173 x174 x175 x176 x177 x178 x179 x180 x181 x182 x183 B x185 x186 x187 x188 b y x191 x192 x193 x194 = z0h φ k x173 x174 x175 x176 x177 x178 x179 x180 x181 x185 x186 x182 x187 x188 x192 x193 x194 (b ++ B) (y ++ List.replicate B.length x183) x191 := by
 refine z0k (fun n i (s : List za × List (Nat -> Ref)) => z1v φ k n (B.length : Int) i x173 x174 x175 x176 x177 x178 x179 x180 x181 x182 x183 B x185 x186 x187 x188 s.1 s.2 x191 x192 x193 x194) B.length (fun i s => s.1 = b ++ B.take i /\ s.2 = y ++ List.replicate i x183) (fun o => o = z0h φ k x173 x174 x175 x176 x177 x178 x179 x180 x181 x185 x186 x182 x187 x188 x192 x193 x194 (b ++ B) (y ++ List.replicate B.length x183) x191) ?_ ?_ φ (b, y) ⟨by simp, by simp⟩ (by omega)
 ·intro n i s hi ⟨h1, h2⟩ hs
  rw [z1v, if_pos (by simp; omega), z8 ⟨by omega, by omega⟩, z8 (zfa (by rw [h1]; simp; omega) (by omega)), z8 (zfa (by rw [h2]; simp; omega) (by omega)), W_id (by omega) (by omega)]
  exact hs (_, _) ⟨by rw [h1, z0w B i hi, List.append_assoc], by rw [h2, List.replicate_succ', List.append_assoc]⟩
 ·intro n s ⟨h1, h2⟩
  rw [z1v, if_neg (by simp), h1, h2, List.take_length]
theorem zwr (hφ : 800000 < φ) (k) (T : List z6) (n : Nat) (hn : n < T.length) (x115 x116 x117 x118 x119 x120) (x122 : Pool) (x123 : Int) (x125 : List (Int × Int)) (e : z6) (pr : Option z0i) (hpr : pr = if 0 < n then some (gt T ((n : Int) - 1)).visit else none) (x127 x128 x129) (b : List za) (y : List (Nat -> Ref)) (x132) (hb : b.length <= 50000000) (hy : y.length <= 50000000) (h15 : 0 <= x115 /\ x115 <= 100000000) (hT : n <= 100000000) :
  z0h φ k T (n : Int) x115 x116 x117 x118 x119 x120 (n : Int) x122 x123 (x115 + 1) x125 e x127 x128 x129 b y x132 =
   k T x116 x117 x118 x119 x120 ((n + 1 : Nat) : Int) x122 x123 (x115 + 1) x125 x127 x128 x129 (b ++ trB (tvl φ x122.network) x115 pr e) (y ++ trY pr e) x132 := by
 have hW : W ((n : Int) + 1) = ((n + 1 : Nat) : Int) := by rw [W_id (by omega) (by omega)]; omega
 unfold z0h
 by_cases h : 0 < n
 ·obtain ⟨ht, t1, t2⟩ := y4x φ hφ x122.network (gt T ((n : Int) - 1)).visit e.visit
  rw [if_pos (by simp; omega), W_id (x := (n : Int) - 1) (by omega) (by omega), z8 ⟨by omega, by omega⟩, ht, Option.bind_some, W_id (x := x115 - 1) (by omega) (by omega)]
  rw [hpr, if_pos h]
  simp only [trB, trY]
  generalize tvl φ x122.network (gt T ((n : Int) - 1)).visit e.visit = tt at *
  rw [W_id (x := 0 - tt) (by omega) (by omega)]
  refine (yak φ (by omega) k T x116 x117 x118 x119 x120 (n : Int) _ _ _ _ _ _ _ _ _ _ _ _ _ _ ([⟨x115, x115 - 1, 0 - tt⟩] : List za) x122 x123 x125 _ _ b y x132 x127 x128 x129 (by simp) hb hy).trans ?_
  rw [hW]
  rfl
 ·rw [if_neg (by simp; omega), hW, hpr, if_neg h]
  simp only [trB, trY, List.append_nil]
theorem zvq (hφ : 800000 < φ) (k) (x96 x97 x98) (T : List z6) (hE : ∀ e ∈ T, 0 <= e.visit.early /\ e.visit.early <= 1073741824) (x102 : Pool) (x103 : Int) (m : List (Int × Int)) (g1 g2 g3) (hT : T.length <= 2000) :
  ∀ (n i N : Nat) (s : BS), T.length < n + i -> i <= T.length -> BB N s -> N <= 8300000 + i ->
   z03 φ k n T x96 x97 x98 T (T.length : Int) (i : Int) x102 x103 s.v m g1 g2 g3 s.b s.y s.e =
    (fun s' : BS => k x96 x97 (W (x98 + 1)) x102 x103 s'.v m g1 g2 g3 s'.b s'.y s'.e) (bEv (tvl φ x102.network) m (if 0 < i then some (gt T ((i : Int) - 1)).visit else none) (T.drop i) s) := by
 intro n
 induction n with
 | zero => intro i N s h1 h2; exfalso; omega
 | succ n ih =>
  intro i N s h1 h2 hB hN
  obtain ⟨v0, v1, b1, b2, b3⟩ := hB
  by_cases hi : i < T.length
  ·obtain ⟨e0, e1⟩ := hE _ (z21 (l := T) (i := (i : Int)) (by omega) (by omega))
   have hWv : W (s.v + 1) = s.v + 1 := W_id (by omega) (by omega)
   have hWe : W (0 - (gt T (i : Int)).visit.early) = 0 - (gt T (i : Int)).visit.early := W_id (by omega) (by omega)
   have hnext := ih (i + 1) (N + 1) (zab (tvl φ x102.network) m (if 0 < i then some (gt T ((i : Int) - 1)).visit else none) (gt T (i : Int)) s) (by omega) (by omega) (BB.step ⟨v0, v1, b1, b2, b3⟩ _ _ _ _) (by omega)
   rw [if_pos (show 0 < i + 1 by omega), show ((i + 1 : Nat) : Int) - 1 = (i : Int) by omega] at hnext
   rw [zyb T i hi]
   refine Eq.trans ?_ hnext
   rw [z03, if_pos (by simp; omega), z8 ⟨by omega, by omega⟩, z8 (zfa (by simp; omega) (by omega)), hWv, hWe]
   by_cases hr : (gt T (i : Int)).reader < 0
   ·rw [if_pos (by simpa using hr)]
    refine (yai φ (by omega) (z03 φ k n) T (i : Int) s.v x96 x97 x98 T (T.length : Int) (i : Int) (s.v + 1) (y1 (gt T (i : Int)).visit.ref) ([⟨0, s.v, (gt T (i : Int)).visit.early⟩, ⟨s.v, 0, 0 - (gt T (i : Int)).visit.early⟩] : List za) x102 x103 m (gt T (i : Int)) s.b s.y _ g1 g2 g3 (by simp) (by omega) (by omega)).trans ?_
    refine (zwr φ hφ (z03 φ k n) T i hi s.v x96 x97 x98 T (T.length : Int) x102 x103 m (gt T (i : Int)) _ rfl g1 g2 g3 _ _ _ (by simp; omega) (by simp; omega) ⟨by omega, by omega⟩ (by omega)).trans ?_
    simp only [zab, evB, evY, if_pos hr]
    rfl
   ·rw [if_neg (by simpa using hr)]
    refine (y9h φ (by omega) (z03 φ k n) T (i : Int) s.v x96 x97 x98 T (T.length : Int) (i : Int) (s.v + 1) (y1 (gt T (i : Int)).visit.ref) ([⟨rv m (gt T (i : Int)), s.v, (gt T (i : Int)).visit.early⟩, ⟨s.v, rv m (gt T (i : Int)), 0 - (gt T (i : Int)).visit.early⟩, ⟨0, s.v, 1073741824⟩, ⟨s.v, 0, 0⟩] : List za) x102 x103 m (gt T (i : Int)) s.b s.y _ g1 g2 g3 (by simp) (by omega) (by omega)).trans ?_
    refine (zwr φ hφ (z03 φ k n) T i hi s.v x96 x97 x98 T (T.length : Int) x102 x103 m (gt T (i : Int)) _ rfl g1 g2 g3 _ _ _ (by simp; omega) (by simp; omega) ⟨by omega, by omega⟩ (by omega)).trans ?_
    simp only [zab, evB, evY, if_neg hr]
    rfl
  ·have : i = T.length := by omega
   subst this
   rw [z03, if_neg (by simp), List.drop_length]
   rfl
theorem zsb (hφ : 800000 < φ) (ts : List (List z6)) (hE : ∀ T ∈ ts, T.length <= 2000 /\ ∀ e ∈ T, 0 <= e.visit.early /\ e.visit.early <= 1073741824) (hts : ts.length <= 4096) (x84 : Pool) (x85 : Int) (m : List (Int × Int)) (g1 g2 g3) (s : BS) (hs : BB 0 s) :
  z1h φ φ ts (ts.length : Int) 0 x84 x85 s.v m g1 g2 g3 s.b s.y s.e = some (bEnd (ts.foldl (fun s t => bEv (tvl φ x84.network) m none t s) s)) := by
 refine z0k (fun n i (s : BS) => z1h φ n ts (ts.length : Int) i x84 x85 s.v m g1 g2 g3 s.b s.y s.e) ts.length (fun i s' => BB (2000 * i) s' /\ s' = (ts.take i).foldl (fun s t => bEv (tvl φ x84.network) m none t s) s) (fun o => o = some (bEnd (ts.foldl (fun s t => bEv (tvl φ x84.network) m none t s) s))) ?_ ?_ φ s ⟨hs, rfl⟩ (by omega)
 ·intro n i s' hi ⟨h1, h2⟩ hk
  obtain ⟨q1, q2⟩ := hE _ (z21 (l := ts) (i := (i : Int)) (by omega) (by omega))
  rw [z1h, if_pos (by simp; omega), z8 ⟨by omega, by omega⟩]
  have := zvq φ hφ (z1h φ n) ts (ts.length : Int) (i : Int) (gt ts (i : Int)) q2 x84 x85 m g1 g2 g3 q1 φ 0 (2000 * i) s' (by omega) (by omega) h1 (by omega)
  refine this.trans ?_
  simp only [W_id (x := (i : Int) + 1) (by omega) (by omega), List.drop_zero]
  rw [if_neg (by omega)]
  refine hk _ ⟨?_, ?_⟩
  ·have := BB.ev (tvl φ x84.network) m (gt ts (i : Int)) (2000 * i) none s' h1
   obtain ⟨a, b, c, d, f⟩ := this
   exact ⟨a, by omega, by omega, by omega, by omega⟩
  ·rw [z0w ts i hi, List.foldl_append, <- h2]; rfl
 ·intro n s' ⟨h1, h2⟩
  rw [List.take_length] at h2
  rw [z1h, if_neg (by simp), <- h2]
  unfold bEnd
  by_cases h : 512 < s'.v \/ 4096 < s'.b.length
  ·rw [if_pos (by simp; omega), if_pos h]
  ·rw [if_neg (by simp; omega), if_neg h]
theorem zp1 (hφ : 800000 < φ) (ts : List (List z6)) (hE : ∀ T ∈ ts, T.length <= 2000 /\ ∀ e ∈ T, 0 <= e.visit.early /\ e.visit.early <= 1073741824) (hts : ts.length <= 4096) (p : Pool) (hp : p.readers.length <= 256) (hr : ∀ r ∈ p.readers, -1000 <= r.low /\ r.low <= 1000) (x43 : Int) (m : List (Int × Int)) (g1 g2) :
  z0v φ φ ts p.readers (p.readers.length : Int) 0 p x43 1 m g1 g2 [] [] [] [] = some (bEnd (ts.foldl (fun s t => bEv (tvl φ p.network) (rdsN p.readers m p.readers.length).m none t s) ⟨(rdsN p.readers m p.readers.length).v, (rdsN p.readers m p.readers.length).b, (rdsN p.readers m p.readers.length).y, []⟩)) := by
 refine z0k (fun n i (s : RS) => z0v φ n ts p.readers (p.readers.length : Int) i p x43 s.v s.m g1 g2 [] s.b s.y []) p.readers.length (fun i s => s = rdsN p.readers m i) (fun o => o = _) ?_ ?_ φ ⟨1, m, [], []⟩ rfl (by omega)
 ·intro n i s hi hs hk
  obtain ⟨a1, a2, a3, a4⟩ := z7t p.readers m i
  rw [<- hs] at a1 a2 a3 a4
  obtain ⟨r1, r2⟩ := hr _ (z21 (l := p.readers) (i := (i : Int)) (by omega) (by omega))
  have hk' := hk (rdsN p.readers m (i + 1)) rfl
  simp only [rdsN, zhs] at hk'
  rw [<- hs] at hk'
  have hW : W ((i : Int) + 1) = (i : Int) + 1 := W_id (by omega) (by omega)
  rw [z0v, if_pos (by simp; omega), z8 ⟨by omega, by omega⟩]
  by_cases h : (mget s.m (i : Int)).isSome = true
  ·rw [if_pos h] at hk' ⊢
   have hWl : W (0 - (gt p.readers (i : Int)).low) = 0 - (gt p.readers (i : Int)).low := W_id (by omega) (by omega)
   rw [hWl]
   refine (ybg φ (by omega) (z0v φ n) ts p.readers (p.readers.length : Int) (i : Int) _ _ _ _ _ _ _ _ _ _ ([⟨0, s.v, 0 - (gt p.readers (i : Int)).low⟩, ⟨s.v, 0, (gt p.readers (i : Int)).high⟩] : List za) p x43 (mset s.m (i : Int) s.v) _ s.b s.y [] g1 g2 [] (by simp) (by omega) (by omega)).trans ?_
   rw [hW, W_id (x := s.v + 1) (by omega) (by omega)]
   exact hk'
  ·rw [if_neg h] at hk' ⊢
   rw [hW]
   exact hk'
 ·intro n s hs
  rw [z0v, if_neg (by simp), <- hs]
  obtain ⟨a1, a2, a3, a4⟩ := z7t p.readers m p.readers.length
  rw [<- hs] at a1 a2 a3 a4
  exact zsb φ hφ ts hE hts p x43 s.m g1 g2 [] ⟨s.v, s.b, s.y, []⟩ ⟨a1, by show s.v <= _; omega, by show s.b.length <= _; omega, by show s.y.length <= _; omega, by simp⟩
theorem zzp (k) (x20 x21 x22 x23) (T : List z6) (hT : T.length <= 2000) (hφ : 800000 < φ) (x27 x28 x29 x30 x31 x32 x33 x34 x35 x36) :
  z1g φ k φ x20 x21 x22 x23 T (T.length : Int) 0 x27 x28 x29 x30 x31 x32 x33 x34 x35 x36 = k x20 x21 x22 (W (x23 + 1)) x27 x28 x29 (zl7 x30 T) x31 x32 x33 x34 x35 x36 := by
 refine z0k (fun n i (m : List (Int × Int)) => z1g φ k n x20 x21 x22 x23 T (T.length : Int) i x27 x28 x29 m x31 x32 x33 x34 x35 x36) T.length (fun i m => m = zl7 x30 (T.take i)) (fun o => o = _) ?_ ?_ φ x30 rfl (by omega)
 ·intro n i m hi hm hk
  have hk' := hk (zl7 x30 (T.take (i + 1))) rfl
  rw [z0w T i hi] at hk'
  simp only [zl7, List.foldl_append, List.foldl_cons, List.foldl_nil] at hk' hm
  rw [<- hm] at hk'
  rw [z1g, if_pos (by simp; omega), z8 ⟨by omega, by omega⟩, W_id (by omega) (by omega)]
  unfold zuq at hk'
  by_cases h : 0 <= (gt T (i : Int)).reader
  ·rw [if_pos h] at hk'
   rw [if_pos (by simpa using h)]
   exact hk'
  ·rw [if_neg h] at hk'
   rw [if_neg (by simpa using h)]
   exact hk'
 ·intro n m hm
  rw [List.take_length] at hm
  rw [z1g, if_neg (by simp), hm]
theorem zx6 {p : Pool} {r : z7} (h : zph p r.item) {i : Int} {x : z6} (hx : x ∈ evs p r i) : 0 <= x.visit.early /\ x.visit.early <= 1073741824 := by
 have hf := h.from_
 have ht := h.to
 unfold evs at hx
 split at hx
 ·simp only [List.mem_singleton] at hx; subst hx
  simp only [z49]; omega
 ·split at hx
  ·simp only [List.mem_cons, List.not_mem_nil, or_false] at hx
   rcases hx with rfl | rfl <;> simp only [z49] <;> omega
  ·split at hx
   ·simp only [List.mem_singleton] at hx; subst hx
    simp only [z49]; omega
   ·cases hx
theorem zob : ∀ {t : List z6} {m : List (Int × Bool)} {x : z6}, x ∈ ze2 t m -> ∃ y ∈ t, ∃ b, x = za6 y b
 | [], m, x, h => by cases h
 | e :: t, m, x, h => by
  rcases List.mem_cons.1 h with rfl | h
  ·exact ⟨e, List.mem_cons_self, _, rfl⟩
  ·obtain ⟨y, hy, b, hb⟩ := zob h
   exact ⟨y, List.mem_cons_of_mem _ hy, b, hb⟩
theorem zak {p : Pool} {l : List z7} {w : Int} {x : z6} (h : x ∈ z19 p l w) : ∃ y ∈ uns p l w, ∃ b, x = za6 y b := by
 obtain ⟨y, hy, b, hb⟩ := zob h
 exact ⟨y, (z15 _ _).mem_iff.1 hy, b, hb⟩
theorem zo5 {p : Pool} (hc : z0e p = 0) {l : List z7} (hl : FewL l) {w : Int} {x : z6} (h : x ∈ z19 p l w) : 0 <= x.visit.early /\ x.visit.early <= 1073741824 := by
 obtain ⟨y, hy, b, rfl⟩ := zak h
 obtain ⟨h1, h2, _, h3, h4⟩ := zed hl.len hy
 show 0 <= y.visit.early /\ y.visit.early <= 1073741824
 exact zx6 (zd6 hc (hl.gt h1 h2) h3) h4
theorem y0e (hφ : 800000 < φ) (p : Pool) {l : List z7} (hl : FewL l) :
  zbs φ p l = some (if z0e p = 0 then bEnd (bAll (tvl φ p.network) p.readers (ze p l)) else (⟨0, [], [], []⟩, z0e p, ())) := by
 unfold zbs
 rw [za3 φ hφ, Option.bind_some]
 by_cases hc : z0e p = 0
 case neg => rw [if_pos (by simpa using hc), if_neg hc]
 rw [if_neg (by simp [hc]), if_pos hc, zws φ hφ hc hl, Option.bind_some]
 obtain ⟨_, hf, hr1, _⟩ := z8l hc
 obtain ⟨_, f2, _⟩ := z9g hf
 have hrd := (zgl hc).1
 show z1e φ φ (ze p l) (ze p l) ((ze p l).length : Int) 0 p 0 1 [] [] [] [] [] [] [] = _
 have hlen : (ze p l).length <= 4096 := by unfold ze; simp; omega
 have hE : ∀ T ∈ ze p l, T.length <= 2000 /\ ∀ e ∈ T, 0 <= e.visit.early /\ e.visit.early <= 1073741824 := by
  intro T hT
  unfold ze at hT
  obtain ⟨w, _, rfl⟩ := List.mem_map.1 hT
  exact ⟨zy6 hl.len _, fun e he => zo5 hc hl he⟩
 generalize ze p l = ts at *
 refine z0k (fun n i (m : List (Int × Int)) => z1e φ n ts ts (ts.length : Int) i p 0 1 m [] [] [] [] [] []) ts.length (fun i m => m = (ts.take i).foldl zl7 []) (fun o => o = some (bEnd (bAll (tvl φ p.network) p.readers ts))) ?_ ?_ φ [] rfl (by omega)
 ·intro n i m hi hm hk
  rw [z1e, if_pos (by simp; omega), z8 ⟨by omega, by omega⟩]
  rw [zzp φ (z1e φ n) ts ts (ts.length : Int) (i : Int) (gt ts (i : Int)) (hE _ (z21 (by omega) (by omega))).1 hφ, W_id (by omega) (by omega)]
  exact hk _ (by rw [z0w ts i hi, List.foldl_append, <- hm]; rfl)
 ·intro n m hm
  rw [List.take_length] at hm
  rw [z1e, if_neg (by simp)]
  refine (zp1 φ hφ ts hE hlen p hr1 (fun r hr => ?_) 0 m [] []).trans ?_
  ·have := hrd r hr; omega
  ·rw [hm]; rfl
end
end Px
end
section
namespace Px
open Go
set_option linter.unusedVariables false
set_option linter.unusedSimpArgs false
def idx : List z7 -> Ref -> Int
 | [], _ => 0
 | r :: l, q => if r.ref.railway = q.railway /\ r.ref.no = q.no then 0 else idx l q + 1
def zwo (x : z6) (i : Int) : z6 := ⟨x.visit, i, x.second, x.stay, x.reader⟩
def ren (κ : Int -> Int) (x : z6) : z6 := zwo x (κ x.report)
theorem zlm (p : Pool) (r : z7) (i : Int) : evs p r i = (evs p r 0).map fun x => zwo x i := by
 unfold evs
 split
 ·rfl
 ·split
  ·rfl
  ·split <;> rfl
theorem zne : Sort.SWO ltEv where
 irrefl := fun x => by
  unfold ltEv
  simp only [decide_eq_false_iff_not]
  rw [zae]; omega
 trans := fun x y z h1 h2 => by
  unfold ltEv at *
  simp only [decide_eq_true_eq] at *
  rw [zae] at *
  omega
 ntrans := fun x y z h1 h2 => by
  unfold ltEv at *
  simp only [decide_eq_false_iff_not] at *
  rw [zae] at *
  omega
end Px
end
section
namespace Px
open Go
set_option linter.unusedVariables false
set_option linter.unusedSimpArgs false
def evE (v : Int) (e : z6) : z1b := ⟨e.visit.wagon, e.visit.place, v, e.visit.ref, e.visit.stay⟩
def evsE : Int -> List z6 -> List z1b
 | _, [] => []
 | v, e :: t => evE v e :: evsE (v + 1) t
def bnds (tv : z0i -> z0i -> Int) (m : List (Int × Int)) : Option z0i -> Int -> List z6 -> List za
 | _, _, [] => []
 | pr, v, e :: t => evB m v e ++ trB tv v pr e ++ bnds tv m (some e.visit) (v + 1) t
theorem zup (tv m) : ∀ (t : List z6) (pr) (s : BS), (bEv tv m pr t s).v = s.v + t.length
 | [], pr, s => by simp [bEv]
 | e :: t, pr, s => by
  rw [bEv, zup tv m t]
  simp only [zab, List.length_cons]; omega
theorem y2x (tv m) : ∀ (t : List z6) (pr) (s : BS), (bEv tv m pr t s).b = s.b ++ bnds tv m pr s.v t
 | [], pr, s => by simp [bEv, bnds]
 | e :: t, pr, s => by
  rw [bEv, y2x tv m t]
  simp only [zab, bnds, List.append_assoc]
theorem zvl (tv m) : ∀ (t : List z6) (pr) (s : BS), (bEv tv m pr t s).e = s.e ++ evsE s.v t
 | [], pr, s => by simp [bEv, evsE]
 | e :: t, pr, s => by
  rw [bEv, zvl tv m t]
  simp only [zab, evsE, evE, List.append_assoc, List.cons_append, List.nil_append]
theorem zuk : ∀ (t : List z6) (v : Int), (evsE v t).length = t.length
 | [], v => rfl
 | e :: t, v => by simp [evsE, zuk t]
theorem zzi : ∀ (t : List z6) (v : Int) (i : Nat), (evsE v t)[i]? = (t[i]?).map (evE (v + i))
 | [], v, i => by simp [evsE]
 | e :: t, v, 0 => by simp [evsE]
 | e :: t, v, i + 1 => by
  simp only [evsE, List.getElem?_cons_succ]
  rw [zzi t (v + 1) i]
  congr 2; omega
theorem zsh (tv m) : ∀ (t : List z6) (pr) (v : Int) (i : Nat) (e : z6), t[i]? = some e -> ∀ b ∈ evB m (v + i) e, b ∈ bnds tv m pr v t
 | [], pr, v, i, e, h, b, hb => by simp at h
 | x :: t, pr, v, 0, e, h, b, hb => by
  simp at h; subst h
  rw [show v + ((0 : Nat) : Int) = v by omega] at hb
  simp only [bnds]
  exact List.mem_append_left _ (List.mem_append_left _ hb)
 | x :: t, pr, v, i + 1, e, h, b, hb => by
  simp only [bnds]
  refine List.mem_append_right _ (zsh tv m t _ (v + 1) i e (by simpa using h) b ?_)
  rw [show v + 1 + (i : Int) = v + ((i + 1 : Nat) : Int) by omega]; exact hb
theorem zyz (tv m) : ∀ (t : List z6) (pr) (v : Int) (i : Nat) (a e : z6), t[i]? = some a -> t[i + 1]? = some e -> (⟨v + i + 1, v + i, 0 - tv a.visit e.visit⟩ : za) ∈ bnds tv m pr v t
 | [], pr, v, i, a, e, h, _ => by simp at h
 | [x], pr, v, 0, a, e, h, h2 => by simp at h2
 | x :: y :: t, pr, v, 0, a, e, h, h2 => by
  simp at h h2; subst h; subst h2
  simp only [bnds, trB]
  refine List.mem_append_right _ (List.mem_append_left _ (List.mem_append_right _ (List.mem_singleton.2 ?_)))
  simp
 | x :: t, pr, v, i + 1, a, e, h, h2 => by
  have := zyz tv m t (some x.visit) (v + 1) i a e (by simpa using h) (by simpa using h2)
  simp only [bnds]
  refine List.mem_append_right _ ?_
  rw [show v + ((i + 1 : Nat) : Int) + 1 = v + 1 + (i : Int) + 1 by omega, show v + ((i + 1 : Nat) : Int) = v + 1 + (i : Int) by omega]
  exact this
theorem zlp (tv m) : ∀ (t : List z6) (pr) (v : Int) (b : za), b ∈ bnds tv m pr v t -> ∃ i : Nat, ∃ e : z6, t[i]? = some e /\ (b ∈ evB m (v + i) e \/ ∃ a : z0i, (0 < i \/ pr.isSome = true) /\ b = ⟨v + i, v + i - 1, 0 - tv a e.visit⟩)
 | [], pr, v, b, h => by simp [bnds] at h
 | x :: t, pr, v, b, h => by
  simp only [bnds, List.mem_append] at h
  rcases h with (h | h) | h
  ·exact ⟨0, x, rfl, .inl (by rw [show v + ((0 : Nat) : Int) = v by omega]; exact h)⟩
  ·cases pr with
   | none => simp [trB] at h
   | some a =>
    simp only [trB, List.mem_singleton] at h
    exact ⟨0, x, rfl, .inr ⟨a, .inr rfl, by rw [h]; simp⟩⟩
  ·obtain ⟨i, e, hi, hb⟩ := zlp tv m t _ _ b h
   refine ⟨i + 1, e, by simpa using hi, ?_⟩
   rw [show v + ((i + 1 : Nat) : Int) = v + 1 + (i : Int) by omega]
   rcases hb with hb | ⟨a, _, hb⟩
   ·exact .inl hb
   ·exact .inr ⟨a, .inl (by omega), hb⟩
def fB (tv : z0i -> z0i -> Int) (m : List (Int × Int)) (ts : List (List z6)) (s : BS) : BS := ts.foldl (fun s t => bEv tv m none t s) s
theorem ya7 (tv m) (A B : List (List z6)) (s : BS) : fB tv m (A ++ B) s = fB tv m B (fB tv m A s) := List.foldl_append ..
theorem zew (tv m) : ∀ (ts : List (List z6)) (s : BS), s.v <= (fB tv m ts s).v /\ (∃ b, (fB tv m ts s).b = s.b ++ b) /\ ∃ e, (fB tv m ts s).e = s.e ++ e
 | [], s => ⟨Int.le_refl _, ⟨[], by simp [fB]⟩, [], by simp [fB]⟩
 | t :: ts, s => by
  obtain ⟨h1, ⟨b, h2⟩, e, h3⟩ := zew tv m ts (bEv tv m none t s)
  have e1 : fB tv m (t :: ts) s = fB tv m ts (bEv tv m none t s) := rfl
  rw [e1]
  rw [zup] at h1
  rw [y2x] at h2
  rw [zvl] at h3
  exact ⟨by omega, ⟨_, by rw [h2, List.append_assoc]⟩, _, by rw [h3, List.append_assoc]⟩
theorem znh (tv m) (A B : List (List z6)) (t : List z6) (s : BS) : s.v <= (fB tv m A s).v /\ (fB tv m A s).v + t.length <= (fB tv m (A ++ t :: B) s).v /\
  (∀ b ∈ bnds tv m none (fB tv m A s).v t, b ∈ (fB tv m (A ++ t :: B) s).b) /\ ∃ e, (fB tv m (A ++ t :: B) s).e = (fB tv m A s).e ++ (evsE (fB tv m A s).v t ++ e) := by
 have e1 : fB tv m (A ++ t :: B) s = fB tv m B (bEv tv m none t (fB tv m A s)) := by rw [ya7]; rfl
 obtain ⟨h1, ⟨b, h2⟩, e, h3⟩ := zew tv m B (bEv tv m none t (fB tv m A s))
 rw [e1]
 rw [zup] at h1
 rw [y2x] at h2
 rw [zvl] at h3
 refine ⟨(zew tv m A s).1, h1, fun x hx => ?_, e, by rw [h3, List.append_assoc]⟩
 rw [h2]
 exact List.mem_append_left _ (List.mem_append_right _ hx)
theorem zvx (tv m) : ∀ (ts : List (List z6)) (s : BS) (b : za), b ∈ (fB tv m ts s).b -> b ∈ s.b \/ ∃ A t B, ts = A ++ t :: B /\ b ∈ bnds tv m none (fB tv m A s).v t
 | [], s, b, h => .inl h
 | t :: ts, s, b, h => by
  have e1 : fB tv m (t :: ts) s = fB tv m ts (bEv tv m none t s) := rfl
  rw [e1] at h
  rcases zvx tv m ts _ b h with h2 | ⟨A, t', B, e2, h2⟩
  ·rw [y2x] at h2
   rcases List.mem_append.1 h2 with h2 | h2
   ·exact .inl h2
   ·exact .inr ⟨[], t, ts, rfl, h2⟩
  ·exact .inr ⟨t :: A, t', B, by rw [e2]; rfl, h2⟩
theorem zz4 (tv m) : ∀ (ts : List (List z6)) (s : BS) (x : z1b), x ∈ (fB tv m ts s).e -> x ∈ s.e \/ ∃ A t B, ts = A ++ t :: B /\ x ∈ evsE (fB tv m A s).v t
 | [], s, b, h => .inl h
 | t :: ts, s, b, h => by
  have e1 : fB tv m (t :: ts) s = fB tv m ts (bEv tv m none t s) := rfl
  rw [e1] at h
  rcases zz4 tv m ts _ b h with h2 | ⟨A, t', B, e2, h2⟩
  ·rw [zvl] at h2
   rcases List.mem_append.1 h2 with h2 | h2
   ·exact .inl h2
   ·exact .inr ⟨[], t, ts, rfl, h2⟩
  ·exact .inr ⟨t :: A, t', B, by rw [e2]; rfl, h2⟩
theorem znl (rs : List z0y) (m : List (Int × Int)) : ∀ n : Nat, (∀ i : Nat, i < n -> (mget m (i : Int)).isSome = true -> ∃ v, mget (rdsN rs m n).m (i : Int) = some v /\ 1 <= v /\ v < (rdsN rs m n).v) /\ ∀ k : Int, (n : Int) <= k -> mget (rdsN rs m n).m k = mget m k
 | 0 => ⟨fun i h => by omega, fun k _ => rfl⟩
 | n + 1 => by
  obtain ⟨h1, h2⟩ := znl rs m n
  have hv := (z7t rs m n).1
  have h3 := h2 (n : Int) (Int.le_refl _)
  simp only [rdsN, zhs]
  split
  ·rename_i hs
   refine ⟨fun i hi hm => ?_, fun k hk => ?_⟩
   ·simp only [zao]
    by_cases e : i = n
    ·subst e; exact ⟨_, if_pos rfl, hv, by omega⟩
    ·obtain ⟨v, q1, q2, q3⟩ := h1 i (by omega) hm
     exact ⟨v, by rw [if_neg (by omega)]; exact q1, q2, by omega⟩
   ·simp only [zao]
    rw [if_neg (by omega)]; exact h2 k (by omega)
  ·rename_i hs
   refine ⟨fun i hi hm => ?_, fun k hk => h2 k (by omega)⟩
   by_cases e : i = n
   ·subst e; rw [h3] at hs; exact absurd hm hs
   ·exact h1 i (by omega) hm
theorem zvc {m : List (Int × Int)} {e : z6} {k : Int} (h : (mget m k).isSome = true) : (mget (zuq m e) k).isSome = true := by
 unfold zuq
 split
 ·rw [zao]; split
  ·rfl
  ·exact h
 ·exact h
theorem zgh : ∀ (t : List z6) {m : List (Int × Int)} {k : Int}, (mget m k).isSome = true -> (mget (zl7 m t) k).isSome = true
 | [], m, k, h => h
 | e :: t, m, k, h => zgh t (zvc h)
theorem zpv : ∀ (t : List z6) (m : List (Int × Int)) (e : z6), e ∈ t -> 0 <= e.reader -> (mget (zl7 m t) e.reader).isSome = true
 | x :: t, m, e, he, h => by
  rcases List.mem_cons.1 he with rfl | he
  ·refine zgh t (m := zuq m e) ?_
   unfold zuq
   rw [if_pos h, zao, if_pos rfl]; rfl
  ·exact zpv t _ e he h
theorem zyl (ts : List (List z6)) {k : Int} : ∀ {m : List (Int × Int)}, (mget m k).isSome = true -> (mget (ts.foldl zl7 m) k).isSome = true := by
 induction ts with
 | nil => intro m h; exact h
 | cons t ts ih => intro m h; rw [List.foldl_cons]; exact ih (zgh t h)
theorem zub (ts : List (List z6)) : ∀ (m : List (Int × Int)) (t : List z6) (e : z6), t ∈ ts -> e ∈ t -> 0 <= e.reader -> (mget (ts.foldl zl7 m) e.reader).isSome = true := by
 induction ts with
 | nil => intro m t e ht; cases ht
 | cons x ts ih =>
  intro m t e ht he h
  rw [List.foldl_cons]
  rcases List.mem_cons.1 ht with e1 | ht
  ·subst e1
   exact zyl ts (zpv t m e he h)
  ·exact ih _ t e ht he h
structure TsOK (rs : List z0y) (ts : List (List z6)) : Prop where
 early : ∀ t ∈ ts, ∀ e ∈ t, 0 <= e.visit.early /\ e.visit.early <= 1073741824
 reader : ∀ t ∈ ts, ∀ e ∈ t, e.reader < (rs.length : Int)
 rs : ∀ r ∈ rs, -1000 <= r.low /\ r.low <= r.high /\ r.high <= 1000
abbrev rdM (rs : List z0y) (ts : List (List z6)) : List (Int × Int) := (rdsN rs (used ts) rs.length).m
abbrev rd0 (rs : List z0y) (ts : List (List z6)) : BS := ⟨(rdsN rs (used ts) rs.length).v, (rdsN rs (used ts) rs.length).b, (rdsN rs (used ts) rs.length).y, []⟩
theorem zgu (tv) (rs : List z0y) (ts : List (List z6)) : bAll tv rs ts = fB tv (rdM rs ts) ts (rd0 rs ts) := rfl
theorem y73 {rs : List z0y} {ts : List (List z6)} (h : TsOK rs ts) {t : List z6} (ht : t ∈ ts) {e : z6} (he : e ∈ t) (hr : 0 <= e.reader) : mget (rdM rs ts) e.reader = some (rv (rdM rs ts) e) /\ 1 <= rv (rdM rs ts) e /\ rv (rdM rs ts) e < (rd0 rs ts).v := by
 have h2 := h.reader t ht e he
 have := zub ts [] t e ht he hr
 obtain ⟨v, q1, q2, q3⟩ := (znl rs (used ts) rs.length).1 e.reader.toNat (by omega) (by rw [show ((e.reader.toNat : Nat) : Int) = e.reader by omega]; exact this)
 rw [show ((e.reader.toNat : Nat) : Int) = e.reader by omega] at q1
 have e1 : rv (rdM rs ts) e = v := by unfold rv; rw [show mget (rdM rs ts) e.reader = some v from q1]; rfl
 rw [e1]
 exact ⟨q1, q2, q3⟩
theorem ztr (rs : List z0y) (m : List (Int × Int)) : ∀ n : Nat, n <= rs.length -> ∀ b ∈ (rdsN rs m n).b, ∃ r ∈ rs, ∃ v, 1 <= v /\ v < (rdsN rs m n).v /\ (b = ⟨0, v, 0 - r.low⟩ \/ b = ⟨v, 0, r.high⟩)
 | 0, _, b, hb => by simp [rdsN] at hb
 | n + 1, hn, b, hb => by
  have hv := (z7t rs m n).1
  have ih := ztr rs m n (by omega)
  simp only [rdsN, zhs] at hb ⊢
  split at hb
  ·rename_i hs
   rw [if_pos hs]
   simp only [List.mem_append, List.mem_cons, List.not_mem_nil, or_false] at hb
   rcases hb with hb | rfl | rfl
   ·obtain ⟨r, hr, v, q1, q2, q3⟩ := ih b hb
    exact ⟨r, hr, v, q1, by simp only; omega, q3⟩
   ·exact ⟨_, z21 (l := rs) (i := (n : Int)) (by omega) (by omega), _, hv, by simp only; omega, .inl rfl⟩
   ·exact ⟨_, z21 (l := rs) (i := (n : Int)) (by omega) (by omega), _, hv, by simp only; omega, .inr rfl⟩
  ·rename_i hs
   rw [if_neg hs]
   exact ih b hb
theorem y9c {rs : List z0y} {ts : List (List z6)} (h : TsOK rs ts) {t : List z6} (ht : t ∈ ts) {e : z6} (he : e ∈ t) {v : Int} (hv : (rd0 rs ts).v <= v) {n : Nat} (hn : v < (n : Int)) {b : za} (hb : b ∈ evB (rdM rs ts) v e) : okBd n b := by
 have h1 := h.early t ht e he
 have h0 := (z7t rs (used ts) rs.length).1
 change 1 <= (rd0 rs ts).v at h0
 unfold evB at hb
 split at hb
 ·simp only [List.mem_cons, List.not_mem_nil, or_false] at hb
  rcases hb with rfl | rfl <;> exact ⟨by simp only; omega, by simp only; omega, by simp only; omega, by simp only; omega, by simp only; omega, by simp only; omega⟩
 ·rename_i hr
  obtain ⟨_, q1, q2⟩ := y73 h ht he (by omega)
  simp only [List.mem_cons, List.not_mem_nil, or_false] at hb
  rcases hb with rfl | rfl | rfl | rfl <;> exact ⟨by simp only; omega, by simp only; omega, by simp only; omega, by simp only; omega, by simp only; omega, by simp only; omega⟩
theorem y5n {tv : z0i -> z0i -> Int} (htv : ∀ a b, 0 <= tv a b /\ tv a b <= 1073741825) {rs : List z0y} {ts : List (List z6)} (h : TsOK rs ts) : 1 <= (bAll tv rs ts).v /\ ∀ b ∈ (bAll tv rs ts).b, okBd (bAll tv rs ts).v.toNat b := by
 have h0 := (z7t rs (used ts) rs.length).1
 change 1 <= (rd0 rs ts).v at h0
 rw [zgu]
 obtain ⟨m1, m2, m3⟩ := zew tv (rdM rs ts) ts (rd0 rs ts)
 refine ⟨by omega, fun b hb => ?_⟩
 rcases zvx tv (rdM rs ts) ts _ b hb with hb | ⟨A, t, B, rfl, hb⟩
 ·obtain ⟨r, hr, v, q1, q2, q3⟩ := ztr rs (used ts) rs.length (Nat.le_refl _) b hb
  change v < (rd0 rs ts).v at q2
  have := h.rs r hr
  rcases q3 with rfl | rfl <;> exact ⟨by simp only; omega, by simp only; omega, by simp only; omega, by simp only; omega, by simp only; omega, by simp only; omega⟩
 ·obtain ⟨k1, k2, k3, k4⟩ := znh tv (rdM rs (A ++ t :: B)) A B t (rd0 rs (A ++ t :: B))
  obtain ⟨i, e, hi, hb⟩ := zlp tv _ t none _ b hb
  have hlt := (List.getElem?_eq_some_iff.1 hi).1
  have hte : t ∈ A ++ t :: B := by simp
  have hee : e ∈ t := List.mem_of_getElem? hi
  rcases hb with hb | ⟨a, ha, rfl⟩
  ·exact y9c h hte hee (by omega) (by omega) hb
  ·have := htv a e.visit
   have hi0 : 0 < i := ha.resolve_right (by simp)
   exact ⟨by simp only; omega, by simp only; omega, by simp only; omega, by simp only; omega, by simp only; omega, by simp only; omega⟩
section
variable {X : Int -> Int} {m : List (Int × Int)} {v : Int} {e : z6}
theorem zrf (hX : ∀ b ∈ evB m v e, X b.j - X b.i <= b.w) (he : 0 <= e.visit.early /\ e.visit.early <= 1073741824) : 0 <= X v - X 0 /\ X v - X 0 <= 1073741824 := by
 unfold evB at hX
 split at hX
 ·have h1 := hX ⟨0, v, e.visit.early⟩ (by simp)
  have h2 := hX ⟨v, 0, 0 - e.visit.early⟩ (by simp)
  simp only at h1 h2; omega
 ·have h1 := hX ⟨0, v, 1073741824⟩ (by simp)
  have h2 := hX ⟨v, 0, 0⟩ (by simp)
  simp only at h1 h2; omega
theorem y1z (hX : ∀ b ∈ evB m v e, X b.j - X b.i <= b.w) (he : 0 <= e.reader) : X v - X (rv m e) = e.visit.early := by
 unfold evB at hX
 rw [if_neg (by omega)] at hX
 have h1 := hX ⟨rv m e, v, e.visit.early⟩ (by simp)
 have h2 := hX ⟨v, rv m e, 0 - e.visit.early⟩ (by simp)
 simp only at h1 h2; omega
end
theorem zqp {p : Pool} (hc : z0e p = 0) {l : List z7} (hl : FewL l) {w : Int} {x : z6} (h : x ∈ z19 p l w) : x.reader < (p.readers.length : Int) := by
 obtain ⟨y, hy, b, rfl⟩ := zak h
 obtain ⟨h1, h2, _, h3, h4⟩ := zed hl.len hy
 show y.reader < _
 have ho := zd6 hc (hl.gt h1 h2) h3
 unfold evs at h4
 split at h4
 ·rename_i hk
  simp only [List.mem_singleton] at h4
  rw [h4]; exact (ho.read hk).2
 ·split at h4
  ·simp only [List.mem_cons, List.not_mem_nil, or_false] at h4
   rcases h4 with q | q <;> rw [q] <;> simp only <;> omega
  ·split at h4
   ·simp only [List.mem_singleton] at h4
    rw [h4]; simp only; omega
   ·cases h4
theorem tsOK {p : Pool} (hc : z0e p = 0) {l : List z7} (hl : FewL l) : TsOK p.readers (ze p l) := by
 refine ⟨fun t ht e he => ?_, fun t ht e he => ?_, fun r hr => ?_⟩
 ·obtain ⟨w, _, rfl⟩ := List.mem_map.1 ht; exact zo5 hc hl he
 ·obtain ⟨w, _, rfl⟩ := List.mem_map.1 ht; exact zqp hc hl he
 ·have := (zgl hc).1 r hr; omega
end Px
end
section
namespace Px
open Go
set_option linter.unusedVariables false
set_option linter.unusedSimpArgs false
def KU (m : List (Int × Bool)) : Prop := (m.map (·.1)).Nodup
theorem zta {k : Int} {v : Bool} : ∀ {m : List (Int × Bool)} {q : Int × Bool}, q ∈ mset m k v -> q ∈ m \/ q.1 = k
 | [], q, h => by simp [mset] at h; exact .inr (by rw [h])
 | (a, b) :: m, q, h => by
  simp only [mset] at h
  cases hk : (k == a) with
  | true =>
   rw [hk] at h
   rcases List.mem_cons.1 h with rfl | h
   ·exact .inr rfl
   ·exact .inl (List.mem_cons_of_mem _ h)
  | false =>
   rw [hk] at h
   rcases List.mem_cons.1 h with rfl | h
   ·exact .inl (List.mem_cons_self ..)
   ·exact (zta h).imp (List.mem_cons_of_mem _) id
theorem KU.mset {k : Int} {v : Bool} : ∀ {m : List (Int × Bool)}, KU m -> KU (Px.mset m k v)
 | [], _ => by simp [Px.mset, KU]
 | (a, b) :: m, h => by
  simp only [KU, List.map_cons, List.nodup_cons] at h
  simp only [Px.mset]
  cases hk : (k == a) with
  | true =>
   have : k = a := by simpa using hk
   subst this
   simp only [cond_true, KU, List.map_cons, List.nodup_cons]
   exact h
  | false =>
   simp only [cond_false, KU, List.map_cons, List.nodup_cons]
   refine ⟨fun hm => ?_, KU.mset h.2⟩
   obtain ⟨q, hq, he⟩ := List.mem_map.1 hm
   rcases zta hq with hq | hq
   ·exact h.1 (List.mem_map.2 ⟨q, hq, he⟩)
   ·rw [hq] at he; rw [he] at hk; simp at hk
theorem KU.mdel {k : Int} : ∀ {m : List (Int × Bool)}, KU m -> KU (Px.mdel m k) /\ ∀ q ∈ Px.mdel m k, q ∈ m /\ q.1 ≠ k
 | [], h => ⟨h, fun q hq => by cases hq⟩
 | (a, b) :: m, h => by
  have h0 := h
  simp only [KU, List.map_cons, List.nodup_cons] at h
  simp only [Px.mdel]
  cases hk : (k == a) with
  | true =>
   have : k = a := by simpa using hk
   subst this
   refine ⟨h.2, fun q hq => ⟨List.mem_cons_of_mem _ hq, fun e => h.1 (List.mem_map.2 ⟨q, hq, e⟩)⟩⟩
  | false =>
   obtain ⟨i1, i2⟩ := KU.mdel (k := k) (m := m) h.2
   refine ⟨?_, fun q hq => ?_⟩
   ·simp only [cond_false, KU, List.map_cons, List.nodup_cons]
    refine ⟨fun hm => ?_, i1⟩
    obtain ⟨q, hq, he⟩ := List.mem_map.1 hm
    exact h.1 (List.mem_map.2 ⟨q, (i2 q hq).1, he⟩)
   ·rcases List.mem_cons.1 hq with rfl | hq
    ·exact ⟨List.mem_cons_self .., fun e => by simp at hk; exact hk e.symm⟩
    ·exact ⟨List.mem_cons_of_mem _ (i2 q hq).1, (i2 q hq).2⟩
def Ends (t : List z6) : Prop := ∀ A e B, t = A ++ e :: B -> e.stay = true -> e.second = false -> ∃ y ∈ B, y.stay = true /\ y.second = true /\ y.report = e.report
theorem zq6 : ∀ (A B : List z6) (m : List (Int × Bool)), ze2 (A ++ B) m = ze2 A m ++ ze2 B (A.foldl (fun m e => covM e m) m)
 | [], B, m => rfl
 | e :: A, B, m => by simp only [List.cons_append, ze2, List.foldl_cons, zq6 A B]
theorem y6i {p : Pool} (hc : z0e p = 0) {l : List z7} (hl : FewL l) {w : Int} {x : z6} (h : x ∈ uns p l w) (h1 : x.stay = true) (h2 : x.second = false) : ∃ y ∈ uns p l w, y.stay = true /\ y.second = true /\ y.report = x.report /\ ltEv x y = true := by
 obtain ⟨a1, a2, a3, a4, a5⟩ := zed hl.len h
 have ho := zd6 hc (hl.gt a1 a2) a4
 simp only [uns, unsC, List.mem_flatMap] at h
 obtain ⟨i, hi, hx⟩ := h
 split at hx
 case isFalse => cases hx
 rename_i hw
 obtain ⟨r1, r2, r3⟩ := z6z hx
 rw [r1] at ho a5
 unfold evs at a5
 split at a5
 ·simp only [List.mem_singleton] at a5; rw [a5] at h1; cases h1
 ·rename_i hk1
  split at a5
  ·rename_i hk
   simp only [List.mem_cons, List.not_mem_nil, or_false] at a5
   rcases a5 with a5 | a5
   ·refine ⟨⟨z49 (gt l i) (gt l i).item.place (gt l i).item.to, i, true, true, -1⟩, ?_, rfl, rfl, by rw [a5], ?_⟩
    ·simp only [uns, unsC, List.mem_flatMap]
     refine ⟨i, hi, ?_⟩
     rw [if_pos hw, evs, if_neg hk1, if_pos hk]
     simp
    ·have := (ho.to hk).1
     rw [a5]
     simp only [ltEv, decide_eq_true_eq, zae, z49, ordB]
     simp
     omega
   ·rw [a5] at h2; cases h2
  ·split at a5
   ·simp only [List.mem_singleton] at a5; rw [a5] at h1; cases h1
   ·cases a5
theorem y0g {p : Pool} (hc : z0e p = 0) {l : List z7} (hl : FewL l) (w : Int) : Ends (srt p l w) := by
 intro A e B hs h1 h2
 have hmem : ∀ x, x ∈ srt p l w ↔ x ∈ uns p l w := fun x => (z15 _ _).mem_iff
 obtain ⟨y, hy, y1, y2, y3, y4⟩ := y6i hc hl ((hmem e).1 (by rw [hs]; simp)) h1 h2
 have hy2 := (hmem y).2 hy
 rw [hs] at hy2
 have hpw := z7k zne (uns p l w)
 change (srt p l w).Pairwise _ at hpw
 rw [hs, List.pairwise_append] at hpw
 rcases List.mem_append.1 hy2 with hy2 | hy2
 ·have := hpw.2.2 y hy2 e (List.mem_cons_self ..)
  rw [this] at y4; cases y4
 ·rcases List.mem_cons.1 hy2 with rfl | hy2
  ·rw [y2] at h2; cases h2
  ·exact ⟨y, hy2, y1, y2, y3⟩
theorem y6g {φ : Nat} {x : zg} {a b : z0i} (h : a.stay = true) (h2 : a.place ≠ b.place) : tvl φ x a b = 1073741825 := by
 unfold tvl z2k
 rw [if_pos (by simp [h, h2])]; rfl
theorem zxu {α : Type} [Inhabited α] {l : List α} {i : Nat} (h : i < l.length) : l[i]? = some (gt l (i : Int)) := by rw [z1m h]; exact List.getElem?_eq_getElem h
end Px
end
section
namespace Px
open Go
set_option linter.unusedVariables false
set_option linter.unusedSimpArgs false
theorem y9d {φ : Nat} (hφ : 800000 < φ) {x : zg} {a b : z0i} (h : tvl φ x a b < 1073741825) : ∃ t, zq φ x a.place b.place = some (t, 0, ()) /\ tvl φ x a b = t := by
 unfold tvl z2k at h ⊢
 split at h
 ·simp at h
 ·rename_i hc
  rw [if_neg hc]
  obtain ⟨t, e, hb, _, _⟩ := zll φ hφ x a.place b.place
  rw [hb, Option.bind_some] at h
  rw [hb, Option.bind_some]
  split at h
  ·simp at h
  ·rename_i he
   rw [if_neg he]
   simp only [bne_iff_ne, ne_eq, Decidable.not_not] at he
   subst he
   exact ⟨t, rfl, rfl⟩
theorem yb5 {tv : z0i -> z0i -> Int} {rs : List z0y} {ts : List (List z6)} {ev : z1b} (h : ev ∈ (bAll tv rs ts).e) : ∃ t ∈ ts, ∃ x ∈ t, ∃ v, ev = evE v x /\ 1 <= v /\ v < (bAll tv rs ts).v /\ ∀ b ∈ evB (rdM rs ts) v x, b ∈ (bAll tv rs ts).b := by
 rw [zgu] at h ⊢
 have h0 := (z7t rs (used ts) rs.length).1
 change 1 <= (rd0 rs ts).v at h0
 rcases zz4 tv (rdM rs ts) ts _ ev h with h | ⟨A, t, B, rfl, h⟩
 ·cases h
 ·obtain ⟨k1, k2, k3, k4⟩ := znh tv (rdM rs (A ++ t :: B)) A B t (rd0 rs (A ++ t :: B))
  obtain ⟨i, hi⟩ := List.getElem?_of_mem h
  rw [zzi] at hi
  obtain ⟨x, hx, rfl⟩ := Option.map_eq_some_iff.1 hi
  have hlt := (List.getElem?_eq_some_iff.1 hx).1
  exact ⟨t, by simp, x, List.mem_of_getElem? hx, _, rfl, by omega, by omega, fun b hb => k3 b (zsh tv _ t none _ i x hx b hb)⟩
theorem yab {tv : z0i -> z0i -> Int} {rs : List z0y} {ts : List (List z6)} {ev : z1b} (h : ev ∈ (bAll tv rs ts).e) : 1 <= ev.var /\ ev.var < (bAll tv rs ts).v := by
 obtain ⟨t, ht, y, hy, v, rfl, v1, v2, hv⟩ := yb5 h
 exact ⟨v1, v2⟩
theorem y02 (tv m) : ∀ (ts : List (List z6)) (s : BS), (fB tv m ts s).e.length <= s.e.length + ((fB tv m ts s).v - s.v).toNat
 | [], s => by simp [fB]
 | t :: ts, s => by
  have ih := y02 tv m ts (bEv tv m none t s)
  have hm := (zew tv m ts (bEv tv m none t s)).1
  have e1 : fB tv m (t :: ts) s = fB tv m ts (bEv tv m none t s) := rfl
  rw [e1]
  rw [zup] at ih hm
  rw [zvl, List.length_append, zuk] at ih
  omega
theorem zya (tv) (rs : List z0y) (ts : List (List z6)) : ((bAll tv rs ts).e.length : Int) <= (bAll tv rs ts).v := by
 have h0 := (z7t rs (used ts) rs.length).1
 change 1 <= (rd0 rs ts).v at h0
 have := y02 tv (rdM rs ts) ts (rd0 rs ts)
 have hm := (zew tv (rdM rs ts) ts (rd0 rs ts)).1
 rw [zgu]
 simp only [rd0, List.length_nil] at this
 simp only [rd0] at hm h0 ⊢
 omega
end Px
end
section
namespace Px
open Go
set_option linter.unusedVariables false
set_option linter.unusedSimpArgs false
def zpu (n : Int) (L : List za) : Prop := ∀ v : Int, 1 <= v -> v < n -> (∃ b ∈ L, b.i = 0 /\ b.j = v) /\ ∃ b ∈ L, b.i = v /\ b.j = 0
theorem zpu.app {n : Int} {L M : List za} (h : zpu n L) : zpu n (L ++ M) := fun v h1 h2 => by
 obtain ⟨⟨b, q1, q2⟩, c, q3, q4⟩ := h v h1 h2
 exact ⟨⟨b, List.mem_append_left _ q1, q2⟩, c, List.mem_append_left _ q3, q4⟩
theorem zq7 (rs : List z0y) (m : List (Int × Int)) : ∀ n : Nat, zpu (rdsN rs m n).v (rdsN rs m n).b
 | 0 => fun v h1 h2 => by simp only [rdsN] at h2; omega
 | n + 1 => by
  have ih := zq7 rs m n
  simp only [rdsN, zhs]
  split
  ·intro v h1 h2
   simp only at h2 ⊢
   by_cases e : v = (rdsN rs m n).v
   ·subst e
    exact ⟨⟨_, List.mem_append_right _ (List.mem_cons_self ..), rfl, rfl⟩, _, List.mem_append_right _ (List.mem_cons_of_mem _ (List.mem_cons_self ..)), rfl, rfl⟩
   ·exact ih.app v h1 (by omega)
  ·exact ih
theorem y1o (m : List (Int × Int)) (v : Int) (e : z6) : (∃ b ∈ evB m v e, b.i = 0 /\ b.j = v) /\ ∃ b ∈ evB m v e, b.i = v /\ b.j = 0 := by
 unfold evB
 split
 ·exact ⟨⟨⟨0, v, e.visit.early⟩, by simp, rfl, rfl⟩, ⟨v, 0, 0 - e.visit.early⟩, by simp, rfl, rfl⟩
 ·exact ⟨⟨⟨0, v, 1073741824⟩, by simp, rfl, rfl⟩, ⟨v, 0, 0⟩, by simp, rfl, rfl⟩
theorem zu1 (tv m) : ∀ (t : List z6) (pr) (s : BS), zpu s.v s.b -> zpu (bEv tv m pr t s).v (bEv tv m pr t s).b
 | [], pr, s, h => h
 | e :: t, pr, s, h => zu1 tv m t _ _ (by
  intro v h1 h2
  simp only [zab] at h2 ⊢
  by_cases q : v = s.v
  ·subst q
   obtain ⟨⟨b, b1, b2⟩, c, c1, c2⟩ := y1o m s.v e
   exact ⟨⟨b, List.mem_append_left _ (List.mem_append_right _ b1), b2⟩, c, List.mem_append_left _ (List.mem_append_right _ c1), c2⟩
  ·exact (h.app.app) v h1 (by omega))
theorem zy7 (tv m) : ∀ (ts : List (List z6)) (s : BS), zpu s.v s.b -> zpu (fB tv m ts s).v (fB tv m ts s).b
 | [], s, h => h
 | t :: ts, s, h => zy7 tv m ts _ (zu1 tv m t none s h)
theorem zzc (tv) (rs : List z0y) (ts : List (List z6)) : Conn (bAll tv rs ts).b (bAll tv rs ts).v.toNat := by
 have h := zy7 tv (rdM rs ts) ts (rd0 rs ts) (zq7 rs (used ts) rs.length)
 rw [<- zgu] at h
 exact fun v h1 h2 => h v h1 (by omega)
def SolF (s : BS) (X : Int -> Int) : Prop := ∀ b ∈ s.b, X b.j - X b.i <= b.w
theorem zoe {s : BS} {X : Int -> Int} : SolF s X ↔ SolD false s.b X := by
 unfold SolF SolD bdJ bdI
 simp
theorem ya9 {L : List za} {d : Int -> Int} (h : SolD true L d) : ∀ b ∈ L, (- d b.j) - (- d b.i) <= b.w := fun b hb => by
 have := h b hb
 simp only [bdJ, bdI, if_true] at this
 omega
structure ETs (s : BS) (E T : Int -> Int) : Prop where
 eS : SolF s E
 tS : SolF s T
 e0 : E 0 = 0
 t0 : T 0 = 0
 e : ∀ X, SolF s X -> ∀ v, 0 <= v -> v < s.v -> E v <= X v - X 0
 t : ∀ X, SolF s X -> ∀ v, 0 <= v -> v < s.v -> X v - X 0 <= T v
theorem y9k {s : BS} (h1 : 1 <= s.v) {d t : Int -> Int} (hd : zql true s.b s.v.toNat 0 d) (ht : zql false s.b s.v.toNat 0 t) : ETs s (fun v => - d v) t := by
 refine ⟨ya9 hd.sat, zoe.2 ht.sat, by have := hd.zero; omega, ht.zero, fun X hX v v0 v1 => ?_, fun X hX v v0 v1 => ht.top X (zoe.1 hX) v v0 (by omega)⟩
 have := hd.top (fun v => - X v) (zt6 (zoe.1 hX)) v v0 (by omega)
 omega
section
variable {φ : Nat} (hφ : 800000 < φ) {p : Pool} (hc : z0e p = 0) {l : List z7} (hl : FewL l)
theorem zw9 {p : Pool} (hc : z0e p = 0) {r : z7} (h : zph p r.item) {i : Int} {x : z6} (hx : x ∈ evs p r i) : okPl p.network x.visit.place := by
 unfold evs at hx
 split at hx
 ·rename_i hk
  simp only [List.mem_singleton] at hx; subst hx
  obtain ⟨h0, h1⟩ := h.read hk
  have := (zgl hc).1 _ (z21 (l := p.readers) h0 h1)
  exact ⟨this.1, this.2.1⟩
 ·split at hx
  ·rename_i hk
   have := h.place (by omega)
   simp only [List.mem_cons, List.not_mem_nil, or_false] at hx
   rcases hx with rfl | rfl <;> exact this
  ·split at hx
   ·rename_i hk
    have := h.place (by omega)
    simp only [List.mem_singleton] at hx; subst hx
    exact this
   ·cases hx
include hc hl
theorem zqs {w : Int} {x : z6} (h : x ∈ z19 p l w) : okPl p.network x.visit.place := by
 obtain ⟨y, hy, b, rfl⟩ := zak h
 obtain ⟨h1, h2, _, h3, h4⟩ := zed hl.len hy
 exact zw9 (x := y) hc (zd6 hc (hl.gt h1 h2) h3) h4
include hφ
end
end Px
end
section
namespace Px
open Go
set_option linter.unusedVariables false
set_option linter.unusedSimpArgs false
abbrev bsB (φ : Nat) (p : Pool) (l : List z7) : BS := bAll (tvl φ p.network) p.readers (ze p l)
structure Good (s : BS) : Prop where
 v1 : 1 <= s.v
 v2 : s.v <= 512
 bl : s.b.length <= 4096
 ok : ∀ b ∈ s.b, okBd s.v.toNat b
 conn : Conn s.b s.v.toNat
 ev : ∀ y ∈ s.e, 1 <= y.var /\ y.var < s.v
 el : (s.e.length : Int) <= s.v
theorem y71 {φ : Nat} (hφ : 800000 < φ) {p : Pool} (hc : z0e p = 0) {l : List z7} (hl : FewL l) (hb : ¬ (512 < (bsB φ p l).v \/ 4096 < (bsB φ p l).b.length)) : Good (bsB φ p l) := by
 obtain ⟨h1, h2⟩ := y5n (tv := tvl φ p.network) (fun a b => (y4x φ hφ p.network a b).2) (tsOK hc hl)
 exact ⟨h1, by omega, by omega, h2, zzc _ _ _, fun y hy => yab hy, zya _ _ _⟩
def yar (s : BS) : List Int := (runD false s.b s.v.toNat ⟨d0 s.v.toNat 0, true⟩).d
def yao (s : BS) : List Int := (runD true s.b s.v.toNat ⟨d0 s.v.toNat 0, true⟩).d
def ybc (s : BS) (v : Int) : Int := gt (yar s) v
def y5w (s : BS) (v : Int) : Int := - gt (yao s) v
theorem Good.ets {s : BS} (h : Good s) {X : Int -> Int} (hX : SolF s X) : ETs s (y5w s) (ybc s) := by
 have hv := h.v1
 have hv2 := h.v2
 have e := zlf (r := true) (n := s.v.toNat) (by omega) h.ok h.conn (p := fun v => - X v) (zt6 (zoe.1 hX)) (u := 0) (by omega) (by omega)
 have t := zlf (r := false) (n := s.v.toNat) (by omega) h.ok h.conn (zoe.1 hX) (u := 0) (by omega) (by omega)
 exact y9k hv e.2 t.2
def visE (E T : Int -> Int) (y : z1b) : z0i := ⟨y.wagon, y.place, y.ref, y.stay, E y.var, T y.var⟩
def hisL (s : BS) : List z0i := s.e.map (visE (y5w s) (y5w s))
theorem Good.chk {s : BS} (h : Good s) : chkD s.v s.b = 0 := by
 have hv := h.v1
 have hv2 := h.v2
 have := y7s (n := s.v.toNat) (by omega) (by omega) h.bl h.ok
 rwa [show ((s.v.toNat : Nat) : Int) = s.v by omega] at this
theorem Good.solve {s : BS} (h : Good s) (φ : Nat) (hφ : 5001 < φ) : zaq φ s.v s.b = some (if 0 <= (low s.v.toNat s.b).z then ([], 230, ()) else ((low s.v.toNat s.b).x, 0, ())) := by
 rw [y2t φ hφ, h.chk, if_neg (by simp)]
def hst (φ : Nat) (p : Pool) (l : List z7) : List z0i × Int × Unit :=
 if z0e p ≠ 0 then ([], z0e p, ())
 else if 512 < (bsB φ p l).v \/ 4096 < (bsB φ p l).b.length then ([], 2, ())
 else if 0 <= (low (bsB φ p l).v.toNat (bsB φ p l).b).z then ([], 230, ())
 else (hisL (bsB φ p l), 0, ())
theorem Good.sol {s : BS} (h : Good s) : (low s.v.toNat s.b).z < 0 ↔ ∃ X, SolF s X := by
 have hv := h.v1
 constructor
 ·exact fun hz => ⟨gt (low s.v.toNat s.b).x, fun b hb => y7x (by omega) h.ok hz hb⟩
 ·rintro ⟨X, hX⟩
  exact y2d (by omega) h.ok X hX
end Px
end
section
namespace Px
open Go
set_option linter.unusedVariables false
set_option linter.unusedSimpArgs false
theorem y0q (φ : Nat) (hφ : 1000 < φ) (p : Pool) : ∃ b, z61 φ p = some (b, ()) /\ (b = true -> p.network.places.length <= 16 /\ p.network.edges.length <= 40 /\ p.fleet.wagons.length <= 8 /\ p.readers.length <= 8) := by
 unfold z61
 split
 ·exact ⟨false, rfl, fun h => by cases h⟩
 ·rename_i hc
  simp only [Bool.or_eq_true, decide_eq_true_eq, not_or] at hc
  obtain ⟨⟨⟨⟨⟨⟨c1, c2⟩, c3⟩, c4⟩, c5⟩, c6⟩, c7⟩ := hc
  have : ∃ b, z0s φ φ 0 p = some (b, ()) := by
   refine z0k (fun n i (_ : Unit) => z0s φ n i p) p.railways.length (fun _ _ => True) (fun o => ∃ b, o = some (b, ())) ?_ ?_ φ () trivial (by omega)
   ·intro n i _ hi _ hs
    rw [z0s, if_pos (by simp; omega), z8 ⟨by omega, by omega⟩, W_id (by omega) (by omega)]
    split
    ·exact ⟨false, rfl⟩
    ·exact hs () trivial
   ·intro n _ _
    rw [z0s, if_neg (by simp)]
    exact ⟨true, rfl⟩
  obtain ⟨b, hb⟩ := this
  exact ⟨b, hb, fun _ => by omega⟩
theorem y8j (φ : Nat) (hφ : 1000 < φ) (l : List z7) (N : Nat) (hN : N <= 500) : ∃ b, z33 φ l N = some (b, ()) /\ (b = true -> FewL l /\ l.length <= N) /\ (b = true ↔ l.length <= N /\ ∀ r ∈ l, r.item.parts.length <= 40 /\ r.item.text.size <= 2000) := by
 unfold z33
 by_cases h60 : N < l.length
 ·rw [if_pos (by simp; omega)]
  exact ⟨false, rfl, (fun h => by cases h), (fun h => by cases h), fun h => by omega⟩
 ·rw [if_neg (by simp; omega)]
  refine z0k (fun n i (_ : Unit) => z16 φ n l i) l.length (fun i _ => ∀ j : Nat, j < i -> (gt l (j : Int)).item.parts.length <= 40 /\ (gt l (j : Int)).item.text.size <= 2000)
   (fun o => ∃ b, o = some (b, ()) /\ (b = true -> FewL l /\ l.length <= N) /\ (b = true ↔ l.length <= N /\ ∀ r ∈ l, r.item.parts.length <= 40 /\ r.item.text.size <= 2000)) ?_ ?_ φ () (fun j hj => by omega) (by omega)
  ·intro n i _ hi hI hs
   rw [z16, if_pos (by simp; omega), z8 ⟨by omega, by omega⟩, z8 (fun _ => ⟨by omega, by omega⟩), W_id (by omega) (by omega)]
   split
   ·rename_i hc
    simp only [Bool.or_eq_true, decide_eq_true_eq] at hc
    refine ⟨false, rfl, (fun h => by cases h), (fun h => by cases h), fun h => ?_⟩
    have := h.2 _ (z21 (l := l) (i := (i : Int)) (by omega) (by omega))
    omega
   ·rename_i hc
    simp only [Bool.or_eq_true, decide_eq_true_eq, not_or] at hc
    refine hs () fun j hj => ?_
    by_cases e : j = i
    ·subst e; omega
    ·exact hI j (by omega)
  ·intro n _ hI
   rw [z16, if_neg (by simp)]
   have all : ∀ r ∈ l, r.item.parts.length <= 40 /\ r.item.text.size <= 2000 := fun r hr => by
    obtain ⟨j, hj, rfl⟩ := zf9 hr
    exact hI j hj
   exact ⟨true, rfl, fun _ => ⟨⟨by omega, fun r hr => by have := all r hr; omega⟩, by omega⟩, fun _ => ⟨by omega, all⟩, fun _ => rfl⟩
theorem zyf (k : Nat) (x : Int) : ∀ n : Nat, ((List.range n).map fun (w : Nat) => if x = (w : Int) then k else 0).sum <= if x < (n : Int) then k else 0
 | 0 => by simp
 | n + 1 => by
  have ih := zyf k x n
  rw [List.range_succ, List.map_append, List.sum_append]
  simp only [List.map_cons, List.map_nil, List.sum_cons, List.sum_nil, Nat.add_zero]
  by_cases h : x = (n : Int)
  ·rw [if_pos h, if_pos (by omega)]
   rw [if_neg (by omega)] at ih
   omega
  ·rw [if_neg h]
   by_cases h2 : x < (n : Int)
   ·rw [if_pos h2] at ih; rw [if_pos (by omega)]; omega
   ·rw [if_neg h2] at ih; omega
theorem zvz (f g : Nat -> Nat) : ∀ l : List Nat, (l.map fun w => f w + g w).sum = (l.map f).sum + (l.map g).sum
 | [] => rfl
 | a :: l => by
  have := zvz f g l
  simp only [List.map_cons, List.sum_cons]
  omega
theorem zwt (p : Pool) (l : List z7) (n : Nat) : ∀ c : List Int, ((List.range n).map fun (w : Nat) => (unsC p l c (w : Int)).length).sum <= 2 * c.length
 | [] => by
  have : ∀ l : List Nat, (l.map fun _ => 0).sum = 0 := fun l => by
   induction l with
   | nil => rfl
   | cons a l ih => rw [List.map_cons, List.sum_cons, ih]
  have h := this (List.range n)
  show ((List.range n).map fun (w : Nat) => ([] : List z6).length).sum <= 0
  exact Nat.le_of_eq h
 | i :: c => by
  have ih := zwt p l n c
  have e : ∀ w : Int, (unsC p l (i :: c) w).length = (if (gt l i).item.wagon = w then (evs p (gt l i) i).length else 0) + (unsC p l c w).length := fun w => by
   unfold unsC
   rw [List.flatMap_cons, List.length_append]
   split <;> rfl
  simp only [e]
  rw [zvz]
  have h1 := zyf (evs p (gt l i) i).length (gt l i).item.wagon n
  have h2 := zrn p (gt l i) i
  rw [List.length_cons]
  split at h1 <;> omega
theorem y3y (p : Pool) (l : List z7) : (ze p l).flatten.length <= 2 * l.length := by
 rw [List.length_flatten]
 unfold ze
 rw [List.map_map]
 have h := zwt p l p.fleet.wagons.length (cnt p l)
 have h2 := zfm p l l.length
 have e : (List.length ∘ fun (w : Nat) => z19 p l (w : Int)) = fun (w : Nat) => (unsC p l (cnt p l) (w : Int)).length := by
  funext w
  simp only [Function.comp]
  unfold z19 srt
  rw [zat, (z15 _ _).length_eq]
  rfl
 rw [e]
 unfold cnt at h ⊢
 omega
theorem BB.fold (tv m) : ∀ (ts : List (List z6)) (n : Nat) (s : BS), BB n s -> BB (n + ts.flatten.length) (fB tv m ts s)
 | [], n, s, h => h
 | t :: ts, n, s, h => by
  have := BB.fold tv m ts _ _ (BB.ev tv m t n none s h)
  rw [Nat.add_assoc] at this
  rw [List.flatten_cons, List.length_append]
  exact this
theorem y7r (tv) {rs : List z0y} (hr : rs.length <= 256) (ts : List (List z6)) : BB ts.flatten.length (bAll tv rs ts) := by
 obtain ⟨h1, h2, h3, h4⟩ := z7t rs (used ts) rs.length
 have h0 : BB 0 (rd0 rs ts) := ⟨h1, by show (rdsN rs (used ts) rs.length).v <= _; omega, by show (rdsN rs (used ts) rs.length).b.length <= _; omega, by show (rdsN rs (used ts) rs.length).y.length <= _; omega, by simp⟩
 have := BB.fold tv (rdM rs ts) ts 0 _ h0
 rw [Nat.zero_add] at this
 exact this
theorem y85 {φ : Nat} {p : Pool} (hc : z0e p = 0) {l : List z7} (hl : l.length <= 100) : (bsB φ p l).v <= 257 + 2 * l.length /\ (bsB φ p l).b.length <= 512 + 10 * l.length /\ (bsB φ p l).e.length <= 2 * l.length /\ ¬ (512 < (bsB φ p l).v \/ 4096 < (bsB φ p l).b.length) := by
 have h : BB (ze p l).flatten.length (bsB φ p l) := y7r (tvl φ p.network) (z8l hc).2.2.1 (ze p l)
 have h2 := y3y p l
 have q1 := h.v1
 have q2 := h.b
 have q3 := h.e
 refine ⟨by omega, by omega, ?_, by omega⟩
 omega
theorem zuf : ∀ (a b : List z6) (v : Int), evsE v (a ++ b) = evsE v a ++ evsE (v + a.length) b
 | [], b, v => by simp [evsE]
 | x :: a, b, v => by
  simp only [List.cons_append, evsE, zuf a b (v + 1), List.length_cons]
  rw [show v + 1 + (a.length : Int) = v + ((a.length + 1 : Nat) : Int) by omega]
theorem zrr (tv m) : ∀ (ts : List (List z6)) (s : BS), (fB tv m ts s).e = s.e ++ evsE s.v ts.flatten /\ (fB tv m ts s).v = s.v + ts.flatten.length
 | [], s => by simp [fB, evsE]
 | t :: ts, s => by
  obtain ⟨h1, h2⟩ := zrr tv m ts (bEv tv m none t s)
  have e : fB tv m (t :: ts) s = fB tv m ts (bEv tv m none t s) := rfl
  rw [e, h1, h2, zvl, zup, List.flatten_cons, zuf, List.length_append, List.append_assoc]
  exact ⟨rfl, by omega⟩
def v0E (p : Pool) (l : List z7) : Int := (rd0 p.readers (ze p l)).v
def offW (p : Pool) (l : List z7) (w : Nat) : Nat := ((ze p l).take w).flatten.length
theorem zdn (p : Pool) (l : List z7) {w : Nat} (h : w < p.fleet.wagons.length) : (ze p l)[w]? = some (z19 p l (w : Int)) := by
 unfold ze
 simp [h]
theorem zbc (p : Pool) (l : List z7) {w : Nat} (h : w < p.fleet.wagons.length) : ze p l = (ze p l).take w ++ z19 p l (w : Int) :: (ze p l).drop (w + 1) := by
 have hl : (ze p l).length = p.fleet.wagons.length := by simp [ze]
 have h2 := zdn p l h
 rw [List.getElem?_eq_getElem (by omega), Option.some.injEq] at h2
 rw [<- h2]
 simp
theorem zh7 (p : Pool) (l : List z7) {w : Nat} (h : w < p.fleet.wagons.length) : (ze p l).flatten = ((ze p l).take w).flatten ++ (z19 p l (w : Int) ++ ((ze p l).drop (w + 1)).flatten) := by
 conv => lhs; rw [zbc p l h]
 rw [List.flatten_append, List.flatten_cons]
theorem y5d (p : Pool) (l : List z7) {w : Nat} (h : w < p.fleet.wagons.length) : offW p l w + (z19 p l (w : Int)).length <= (ze p l).flatten.length := by
 rw [zh7 p l h, List.length_append, List.length_append]
 unfold offW; omega
theorem y5l (p : Pool) (l : List z7) {w : Nat} (h : w < p.fleet.wagons.length) {i : Nat} (hi : i < (z19 p l (w : Int)).length) : gt (ze p l).flatten ((offW p l w + i : Nat) : Int) = gt (z19 p l (w : Int)) (i : Int) := by
 have := y5d p l h
 rw [z1m (by omega), z1m hi]
 have e : ∀ (k : Nat) (hk : k < (ze p l).flatten.length), (ze p l).flatten[k] = (((ze p l).take w).flatten ++ (z19 p l (w : Int) ++ ((ze p l).drop (w + 1)).flatten))[k]'(by rw [<- zh7 p l h]; exact hk) := fun k hk => by
  congr 1; exact zh7 p l h
 rw [e, List.getElem_append_right (by unfold offW; omega)]
 unfold offW
 rw [List.getElem_append_left (by omega)]
 congr 1; omega
section
variable (φ : Nat) {p : Pool} {l : List z7} (hl : FewL l) {w : Int} (w0 : 0 <= w) (w1 : w < (p.fleet.wagons.length : Int))
include hl w0 w1
end
end Px
end
section
namespace Px
open Go
set_option linter.unusedVariables false
set_option linter.unusedSimpArgs false
theorem zu8 (rs : List z0y) (m : List (Int × Int)) (ρ : Int -> Int) (hr : ∀ i : Nat, i < rs.length -> 0 - (gt rs (i : Int)).high <= ρ i /\ ρ i <= 0 - (gt rs (i : Int)).low) : ∀ n : Nat, n <= rs.length ->
  ∃ X : Int -> Int, X 0 = 0 /\ (∀ b ∈ (rdsN rs m n).b, X b.j - X b.i <= b.w) /\ ∀ i : Nat, i < n -> (mget m (i : Int)).isSome = true -> ∀ v, mget (rdsN rs m n).m (i : Int) = some v -> X v = ρ i
 | 0, _ => ⟨fun _ => 0, rfl, fun b hb => by simp [rdsN] at hb, fun i hi => by omega⟩
 | n + 1, hn => by
  obtain ⟨X, x0, x1, x2⟩ := zu8 rs m ρ hr n (by omega)
  obtain ⟨g1, g2⟩ := znl rs m n
  have hb := ztr rs m n (by omega)
  have hv := (z7t rs m n).1
  have h3 := g2 (n : Int) (Int.le_refl _)
  have hrn := hr n (by omega)
  simp only [rdsN, zhs]
  split
  ·rename_i hs
   generalize hvv : (rdsN rs m n).v = vv at *
   refine ⟨fun v => if v = vv then ρ n else X v, by simp only; rw [if_neg (by omega), x0], fun b q => ?_, fun i hi hm v q => ?_⟩
   ·simp only [List.mem_append, List.mem_cons, List.not_mem_nil, or_false] at q
    rcases q with q | rfl | rfl
    ·obtain ⟨r, _, v, v1, v2, v3⟩ := hb b q
     have := x1 b q
     rcases v3 with rfl | rfl
     ·simp only at this ⊢; rw [if_neg (by omega), if_neg (by omega)]; exact this
     ·simp only at this ⊢; rw [if_neg (by omega), if_neg (by omega)]; exact this
    ·simp only; rw [if_pos trivial, if_neg (by omega), x0]; omega
    ·simp only; rw [if_pos trivial, if_neg (by omega), x0]; omega
   ·simp only [zao] at q
    by_cases e : i = n
    ·subst e
     rw [if_pos rfl] at q
     cases q
     simp only; rw [if_pos trivial]
    ·rw [if_neg (by omega)] at q
     obtain ⟨u, q1, q2, q3⟩ := g1 i (by omega) hm
     rw [q1] at q; cases q
     simp only; rw [if_neg (by omega)]
     exact x2 i (by omega) hm _ q1
  ·rename_i hs
   refine ⟨X, x0, x1, fun i hi hm v q => ?_⟩
   by_cases e : i = n
   ·subst e; rw [h3] at hs; exact absurd hm hs
   ·exact x2 i (by omega) hm v q
def ChT (tv : z0i -> z0i -> Int) (f : z6 -> Int) : Option (z0i × Int) -> List z6 -> Prop
 | _, [] => True
 | pr, e :: t => (∀ a, pr = some a -> tv a.1 e.visit <= f e - a.2) /\ ChT tv f (some (e.visit, f e)) t
def EvT (f : z6 -> Int) (ρ : Int -> Int) (e : z6) : Prop := (e.reader < 0 -> f e = e.visit.early) /\ (0 <= e.reader -> f e = e.visit.early + ρ e.reader /\ 0 <= f e /\ f e <= 1073741824)
structure PS (m : List (Int × Int)) (ρ : Int -> Int) (c : Int) (s : BS) (X : Int -> Int) : Prop where
 x0 : X 0 = 0
 sol : SolF s X
 bd : ∀ b ∈ s.b, b.i < s.v /\ b.j < s.v
 v : 1 <= s.v
 cv : c <= s.v
theorem zza (tv : z0i -> z0i -> Int) (m : List (Int × Int)) (ρ : Int -> Int) (f : z6 -> Int) (c : Int) : ∀ (t : List z6) (pr : Option (z0i × Int)) (s : BS) (X : Int -> Int), PS m ρ c s X ->
  (∀ e ∈ t, 0 <= e.reader -> 1 <= rv m e /\ rv m e < c /\ X (rv m e) = ρ e.reader) -> (∀ e ∈ t, EvT f ρ e) -> ChT tv f pr t -> (∀ a, pr = some a -> X (s.v - 1) = a.2 /\ 2 <= s.v) ->
  ∃ X', PS m ρ c (bEv tv m (pr.map (·.1)) t s) X' /\ (∀ v, v < s.v -> X' v = X v) /\ ∀ (i : Nat) e, t[i]? = some e -> X' (s.v + i) = f e
 | [], pr, s, X, H, _, _, _, _ => ⟨X, H, fun _ _ => rfl, fun i e h => by simp at h⟩
 | e :: t, pr, s, X, H, hr, hf, hch, hp => by
  have he := hf e (List.mem_cons_self ..)
  have hre := hr e (List.mem_cons_self ..)
  have hv := H.v
  have hcv := H.cv
  have h0 := H.x0
  let X1 : Int -> Int := fun v => if v = s.v then f e else X v
  have hX1 : ∀ v, v < s.v -> X1 v = X v := fun v hv => by show (if v = s.v then f e else X v) = _; rw [if_neg (by omega)]
  have hXv : X1 s.v = f e := by show (if s.v = s.v then f e else X s.v) = _; rw [if_pos rfl]
  have hX0 : X1 0 = 0 := by rw [hX1 0 (by omega)]; exact h0
  have P1 : PS m ρ c (zab tv m (pr.map (·.1)) e s) X1 := by
   have key : ∀ b ∈ evB m s.v e ++ trB tv s.v (pr.map (·.1)) e, X1 b.j - X1 b.i <= b.w /\ b.i < s.v + 1 /\ b.j < s.v + 1 := by
    intro b hb
    rcases List.mem_append.1 hb with hb | hb
    ·unfold evB at hb
     split at hb
     ·rename_i q
      have := he.1 q
      simp only [List.mem_cons, List.not_mem_nil, or_false] at hb
      rcases hb with rfl | rfl
      ·simp only [hXv, hX0]; omega
      ·simp only [hXv, hX0]; omega
     ·rename_i q
      obtain ⟨r1, r2, r3⟩ := hre (by omega)
      obtain ⟨f1, f2, f3⟩ := he.2 (by omega)
      have hXr : X1 (rv m e) = ρ e.reader := by rw [hX1 _ (by omega)]; exact r3
      simp only [List.mem_cons, List.not_mem_nil, or_false] at hb
      rcases hb with rfl | rfl | rfl | rfl
      ·simp only [hXv, hXr]; omega
      ·simp only [hXv, hXr]; omega
      ·simp only [hXv, hX0]; omega
      ·simp only [hXv, hX0]; omega
    ·cases pr with
     | none => simp [trB] at hb
     | some a =>
      simp only [Option.map_some, trB, List.mem_singleton] at hb
      obtain ⟨p1, p2⟩ := hp a rfl
      have := hch.1 a rfl
      subst hb
      simp only [hXv, hX1 (s.v - 1) (by omega), p1]
      omega
   refine ⟨hX0, fun b hb => ?_, fun b hb => ?_, by simp only [zab]; omega, by simp only [zab]; omega⟩
   ·simp only [zab, List.append_assoc] at hb
    rcases List.mem_append.1 hb with hb | hb
    ·have := H.bd b hb
     rw [hX1 _ this.1, hX1 _ this.2]
     exact H.sol b hb
    ·exact (key b hb).1
   ·simp only [zab, List.append_assoc] at hb ⊢
    rcases List.mem_append.1 hb with hb | hb
    ·have := H.bd b hb; omega
    ·exact (key b hb).2
  obtain ⟨X2, g1, g2, g3⟩ := zza tv m ρ f c t (some (e.visit, f e)) (zab tv m (pr.map (·.1)) e s) X1 P1 (fun y hy q => by
   obtain ⟨r1, r2, r3⟩ := hr y (List.mem_cons_of_mem _ hy) q
   exact ⟨r1, r2, by rw [hX1 _ (by omega)]; exact r3⟩) (fun y hy => hf y (List.mem_cons_of_mem _ hy)) hch.2 (fun a ha => by
   cases ha
   simp only [zab]
   exact ⟨by rw [show s.v + 1 - 1 = s.v by omega]; exact hXv, by omega⟩)
  refine ⟨X2, g1, fun v hv => ?_, fun i y hy => ?_⟩
  ·rw [g2 v (by simp only [zab]; omega)]; exact hX1 v hv
  ·cases i with
   | zero =>
    simp at hy; subst hy
    rw [show s.v + ((0 : Nat) : Int) = s.v by omega, g2 s.v (by simp only [zab]; omega)]
    exact hXv
   | succ i =>
    have := g3 i y (by simpa using hy)
    simp only [zab] at this
    rw [show s.v + ((i + 1 : Nat) : Int) = s.v + 1 + (i : Int) by omega]
    exact this
theorem y4i (tv : z0i -> z0i -> Int) (m : List (Int × Int)) (ρ : Int -> Int) (f : z6 -> Int) (c : Int) : ∀ (ts : List (List z6)) (s : BS) (X : Int -> Int), PS m ρ c s X ->
  (∀ t ∈ ts, ∀ e ∈ t, 0 <= e.reader -> 1 <= rv m e /\ rv m e < c /\ X (rv m e) = ρ e.reader) -> (∀ t ∈ ts, ∀ e ∈ t, EvT f ρ e) -> (∀ t ∈ ts, ChT tv f none t) ->
  ∃ X', PS m ρ c (fB tv m ts s) X' /\ (∀ v, v < s.v -> X' v = X v) /\ ∀ A t B, ts = A ++ t :: B -> ∀ (i : Nat) e, t[i]? = some e -> X' ((fB tv m A s).v + i) = f e
 | [], s, X, H, _, _, _ => ⟨X, H, fun _ _ => rfl, fun A t B h => by cases A <;> cases h⟩
 | t :: ts, s, X, H, hr, hf, hch => by
  obtain ⟨X1, g1, g2, g3⟩ := zza tv m ρ f c t none s X H (hr t (List.mem_cons_self ..)) (hf t (List.mem_cons_self ..)) (hch t (List.mem_cons_self ..)) (fun a ha => by cases ha)
  have hcv := H.cv
  obtain ⟨X2, k1, k2, k3⟩ := y4i tv m ρ f c ts (bEv tv m none t s) X1 g1 (fun u hu e he q => by
   obtain ⟨r1, r2, r3⟩ := hr u (List.mem_cons_of_mem _ hu) e he q
   exact ⟨r1, r2, by rw [g2 _ (by omega)]; exact r3⟩) (fun u hu => hf u (List.mem_cons_of_mem _ hu)) (fun u hu => hch u (List.mem_cons_of_mem _ hu))
  have hbv : (bEv tv m none t s).v = s.v + t.length := zup tv m t none s
  refine ⟨X2, k1, fun v hv => ?_, fun A u B hAB i e he => ?_⟩
  ·rw [k2 v (by rw [hbv]; omega)]; exact g2 v hv
  ·cases A with
   | nil =>
    simp only [List.nil_append, List.cons.injEq] at hAB
    obtain ⟨rfl, rfl⟩ := hAB
    have hlt := (List.getElem?_eq_some_iff.1 he).1
    show X2 (s.v + i) = f e
    rw [k2 _ (by rw [hbv]; omega)]
    exact g3 i e he
   | cons a A =>
    simp only [List.cons_append, List.cons.injEq] at hAB
    obtain ⟨rfl, rfl⟩ := hAB
    exact k3 A u B rfl i e he
theorem y3p {tv : z0i -> z0i -> Int} {rs : List z0y} {ts : List (List z6)} (hT : TsOK rs ts) {ρ : Int -> Int} {f : z6 -> Int} (hr : ∀ i : Nat, i < rs.length -> 0 - (gt rs (i : Int)).high <= ρ i /\ ρ i <= 0 - (gt rs (i : Int)).low)
  (hf : ∀ t ∈ ts, ∀ e ∈ t, EvT f ρ e) (hch : ∀ t ∈ ts, ChT tv f none t) : ∃ X, X 0 = 0 /\ SolF (bAll tv rs ts) X /\ ∀ A t B, ts = A ++ t :: B -> ∀ (i : Nat) e, t[i]? = some e -> X ((fB tv (rdM rs ts) A (rd0 rs ts)).v + i) = f e := by
 obtain ⟨X, x0, x1, x2⟩ := zu8 rs (used ts) ρ hr rs.length (Nat.le_refl _)
 have h0 := (z7t rs (used ts) rs.length).1
 have hb := ztr rs (used ts) rs.length (Nat.le_refl _)
 have P0 : PS (rdM rs ts) ρ (rd0 rs ts).v (rd0 rs ts) X := ⟨x0, x1, fun b q => by
  obtain ⟨r, _, v, v1, v2, v3⟩ := hb b q
  change v < (rd0 rs ts).v at v2
  rcases v3 with rfl | rfl
  ·exact ⟨by show (0 : Int) < _; omega, v2⟩
  ·exact ⟨v2, by show (0 : Int) < _; omega⟩, h0, Int.le_refl _⟩
 obtain ⟨X', g1, g2, g3⟩ := y4i tv (rdM rs ts) ρ f _ ts (rd0 rs ts) X P0 (fun t ht e he q => by
  obtain ⟨r1, r2, r3⟩ := y73 hT ht he q
  have hlt := hT.reader t ht e he
  refine ⟨r2, r3, ?_⟩
  have hu := zub ts [] t e ht he q
  have e1 : ((e.reader.toNat : Nat) : Int) = e.reader := by omega
  have := x2 e.reader.toNat (by omega) (by rw [e1]; exact hu) _ (by rw [e1]; exact r1)
  rw [e1] at this
  exact this) hf hch
 exact ⟨X', g1.x0, g1.sol, g3⟩
end Px
end
section
namespace Px
open Go
set_option linter.unusedVariables false
set_option linter.unusedSimpArgs false
def zi6 (m : List (Int × Bool)) : List Int := m.map (·.1)
theorem zxf {k : Int} {v : Bool} {c : Int} : ∀ m : List (Int × Bool), c ∈ zi6 (mset m k v) ↔ c = k \/ c ∈ zi6 m := by
 intro m
 induction m with
 | nil => simp [mset, zi6]
 | cons q m ih =>
  obtain ⟨a, b⟩ := q
  simp only [mset]
  cases hk : (k == a) with
  | true =>
   have : k = a := by simpa using hk
   subst this
   simp [zi6]
  | false =>
   simp only [cond_false, zi6, List.map_cons, List.mem_cons] at ih ⊢
   rw [ih]
   constructor
   ·rintro (h | h | h)
    ·exact .inr (.inl h)
    ·exact .inl h
    ·exact .inr (.inr h)
   ·rintro (h | h | h)
    ·exact .inr (.inl h)
    ·exact .inl h
    ·exact .inr (.inr h)
theorem zyr {k : Int} {c : Int} : ∀ m : List (Int × Bool), KU m -> (c ∈ zi6 (mdel m k) ↔ c ≠ k /\ c ∈ zi6 m) := by
 intro m
 induction m with
 | nil => intro _; simp [mdel, zi6]
 | cons q m ih =>
  obtain ⟨a, b⟩ := q
  intro h
  simp only [KU, List.map_cons, List.nodup_cons] at h
  have ih := ih h.2
  simp only [mdel]
  cases hk : (k == a) with
  | true =>
   have : k = a := by simpa using hk
   subst this
   simp only [cond_true, zi6, List.map_cons, List.mem_cons]
   constructor
   ·intro hc
    exact ⟨fun e => h.1 (e ▸ hc), .inr hc⟩
   ·rintro ⟨h1, h2 | h2⟩
    ·exact absurd h2 h1
    ·exact h2
  | false =>
   have hne : ¬ k = a := by simpa using hk
   simp only [cond_false, zi6, List.map_cons, List.mem_cons] at ih ⊢
   rw [ih]
   constructor
   ·rintro (h | h)
    ·exact ⟨fun e => hne (by rw [<- e, h]), .inl h⟩
    ·exact ⟨h.1, .inr h.2⟩
   ·rintro ⟨h1, h2 | h2⟩
    ·exact .inl h2
    ·exact .inr ⟨h1, h2⟩
def mAt (t : List z6) (n : Nat) : List (Int × Bool) := (t.take n).foldl (fun m e => covM e m) []
theorem zmw {t : List z6} {n : Nat} (h : n < t.length) : mAt t (n + 1) = covM (gt t (n : Int)) (mAt t n) := by
 unfold mAt
 rw [List.take_succ_eq_append_getElem h, List.foldl_append, z1m h]
 rfl
theorem y5f (t : List z6) : ∀ n, n <= t.length -> KU (mAt t n)
 | 0, _ => by simp [mAt, KU]
 | n + 1, h => by
  rw [zmw (by omega)]
  have := y5f t n (by omega)
  unfold covM
  split
  ·exact (KU.mdel this).1
  ·split
   ·exact KU.mset this
   ·exact this
def Mt (t : List z6) (q : Int) (j : Nat) : Prop := (gt t (j : Int)).second = true /\ (gt t (j : Int)).report = q
def Beg (t : List z6) (i : Nat) : Prop := (gt t (i : Int)).stay = true /\ (gt t (i : Int)).second = false
theorem zs9 {t : List z6} (hs : ∀ e ∈ t, e.second = true -> e.stay = true) (q : Int) : ∀ n, n <= t.length ->
  (q ∈ zi6 (mAt t n) ↔ ∃ i, i < n /\ Beg t i /\ (gt t (i : Int)).report = q /\ ∀ j, i <= j -> j < n -> ¬ Mt t q j)
 | 0, _ => by simp [mAt, zi6]
 | n + 1, h => by
  have ih := zs9 hs q n (by omega)
  rw [zmw (by omega)]
  have hmem : gt t (n : Int) ∈ t := z21 (by omega) (by omega)
  have hse := hs _ hmem
  unfold covM
  by_cases h2 : (gt t (n : Int)).second = true
  ·rw [if_pos (by rw [h2, hse h2]; rfl), zyr _ (y5f t n (by omega)), ih]
   constructor
   ·rintro ⟨h1, i, hi, hst, hr, hall⟩
    refine ⟨i, by omega, hst, hr, fun j hj hj' => ?_⟩
    by_cases hjn : j = n
    ·subst hjn; exact fun hm => h1 hm.2.symm
    ·exact hall j hj (by omega)
   ·rintro ⟨i, hi, hst, hr, hall⟩
    have hin : i ≠ n := by intro e; subst e; rw [hst.2] at h2; cases h2
    exact ⟨fun e => hall n (by omega) (by omega) ⟨h2, e.symm⟩, i, by omega, hst, hr, fun j hj hj' => hall j hj (by omega)⟩
  ·have h2' : (gt t (n : Int)).second = false := by simpa using h2
   have nm : ∀ q, ¬ Mt t q n := fun q hm => h2 hm.1
   have hext : ∀ i, i < n -> ((∀ j, i <= j -> j < n -> ¬ Mt t q j) ↔ ∀ j, i <= j -> j < n + 1 -> ¬ Mt t q j) := by
    intro i hi
    constructor
    ·intro h j hj hj'
     by_cases hjn : j = n
     ·subst hjn; exact nm q
     ·exact h j hj (by omega)
    ·intro h j hj hj'; exact h j hj (by omega)
   rw [if_neg (by rw [h2']; simp)]
   by_cases h1 : (gt t (n : Int)).stay = true
   ·rw [if_pos h1, zxf, ih]
    constructor
    ·rintro (h | ⟨i, hi, hst, hr, hall⟩)
     ·exact ⟨n, by omega, ⟨h1, h2'⟩, h.symm, fun j hj hj' => by rw [show j = n by omega]; exact nm q⟩
     ·exact ⟨i, by omega, hst, hr, (hext i hi).1 hall⟩
    ·rintro ⟨i, hi, hst, hr, hall⟩
     by_cases hin : i = n
     ·subst hin; exact .inl hr.symm
     ·exact .inr ⟨i, by omega, hst, hr, (hext i (by omega)).2 hall⟩
   ·rw [if_neg h1, ih]
    constructor
    ·rintro ⟨i, hi, hst, hr, hall⟩
     exact ⟨i, by omega, hst, hr, (hext i hi).1 hall⟩
    ·rintro ⟨i, hi, hst, hr, hall⟩
     have hin : i ≠ n := by intro e; subst e; exact h1 hst.1
     exact ⟨i, by omega, hst, hr, (hext i (by omega)).2 hall⟩
def Cov (t : List z6) (n k : Nat) : Prop := ∃ i, i < n /\ i <= k /\ Beg t i /\ ∀ j, i <= j -> j <= k -> ¬ Mt t (gt t (i : Int)).report j
theorem y7v {t : List z6} (hs : ∀ e ∈ t, e.second = true -> e.stay = true) {k : Nat} (hk : k < t.length) : 0 < (mAt t (k + 1)).length ↔ Cov t t.length k := by
 constructor
 ·intro h
  obtain ⟨q, hq⟩ := List.exists_mem_of_length_pos h
  obtain ⟨i, hi, hst, hr, hall⟩ := (zs9 hs q.1 (k + 1) (by omega)).1 (List.mem_map.2 ⟨q, hq, rfl⟩)
  exact ⟨i, by omega, by omega, hst, fun j hj hj' => by rw [hr]; exact hall j hj (by omega)⟩
 ·rintro ⟨i, hi, hik, hst, hall⟩
  have := (zs9 hs _ (k + 1) (by omega)).2 ⟨i, by omega, hst, rfl, fun j hj hj' => hall j hj (by omega)⟩
  obtain ⟨q, hq, _⟩ := List.mem_map.1 this
  exact List.length_pos_of_mem hq
theorem y6k {t : List z6} (hE : Ends t) {i : Nat} (hi : i < t.length) (hst : Beg t i) : ∃ j, i <= j /\ j < t.length /\ Mt t (gt t (i : Int)).report j := by
 have hsp : t = t.take i ++ gt t (i : Int) :: t.drop (i + 1) := by
  rw [z1m hi]
  simp
 obtain ⟨y, hy, y1, y2, y3⟩ := hE _ _ _ hsp hst.1 hst.2
 obtain ⟨m, hm, he⟩ := List.getElem_of_mem hy
 rw [List.length_drop] at hm
 refine ⟨i + 1 + m, by omega, by omega, ?_⟩
 have : gt t ((i + 1 + m : Nat) : Int) = y := by
  rw [z1m (by omega), <- he, List.getElem_drop]
 unfold Mt
 rw [this]
 exact ⟨y2, y3⟩
theorem zss {t : List z6} {j : Nat} (h1 : j < t.length) : gt (ze2 t []) (j : Int) = za6 (gt t (j : Int)) (decide ((0 : Int) < ((mAt t (j + 1)).length : Int))) := by
 have hsp : t = t.take j ++ gt t (j : Int) :: t.drop (j + 1) := by
  rw [z1m h1]
  simp
 have hg : (ze2 t [])[j]? = some (za6 (gt t (j : Int)) (decide ((0 : Int) < ((mAt t (j + 1)).length : Int)))) := by
  rw [zmw h1]
  conv => lhs; rw [hsp]
  rw [zq6]
  have hl : (ze2 (t.take j) []).length = j := by rw [zat, List.length_take]; omega
  rw [List.getElem?_append_right (by omega), hl, Nat.sub_self]
  rfl
 rw [zxu (by rw [zat]; exact h1), Option.some.injEq] at hg
 exact hg
end Px
end
section
namespace Px
open Go
set_option linter.unusedVariables false
set_option linter.unusedSimpArgs false
def StP (a c : z6) : Prop := a.stay = true /\ a.second = false /\ c.second = true /\ c.report = a.report
def tmF (f : Int -> Bool -> Int) (e : z6) : Int := f e.report e.second
structure Hist (φ : Nat) (p : Pool) (l : List z7) (f : Int -> Bool -> Int) (ρ : Int -> Int) : Prop where
 rd : ∀ i : Nat, i < p.readers.length -> 0 - (gt p.readers (i : Int)).high <= ρ i /\ ρ i <= 0 - (gt p.readers (i : Int)).low
 ev : ∀ w : Nat, w < p.fleet.wagons.length -> ∀ e ∈ uns p l (w : Int), EvT (tmF f) ρ e
 far : ∀ w : Nat, w < p.fleet.wagons.length -> ∀ a ∈ uns p l (w : Int), ∀ b ∈ uns p l (w : Int), ltEv a b = true -> ∃ t, Dst φ p.network a.visit.place b.visit.place = some t /\ t <= tmF f b - tmF f a
 cov : ∀ w : Nat, w < p.fleet.wagons.length -> ∀ a ∈ uns p l (w : Int), ∀ b ∈ uns p l (w : Int), ∀ c ∈ uns p l (w : Int), StP a c -> ltEv a b = true -> ltEv b c = true -> b.visit.place = a.visit.place
section
variable (p : Pool) (l : List z7) (w : Int)
theorem z7z {x : z6} : x ∈ srt p l w ↔ x ∈ uns p l w := (z15 _ _).mem_iff
theorem zud : (srt p l w).Pairwise fun a b => a.report ≠ b.report \/ a.second ≠ b.second :=
 ((z15 _ _).pairwise_iff (R := fun a b : z6 => a.report ≠ b.report \/ a.second ≠ b.second) fun h => h.imp Ne.symm Ne.symm).2 (y4q p l w)
theorem zt9 {i j : Nat} (hij : i < j) (hj : j < (srt p l w).length) : ltEv (gt (srt p l w) (i : Int)) (gt (srt p l w) (j : Int)) = true /\ ltEv (gt (srt p l w) (j : Int)) (gt (srt p l w) (i : Int)) = false := by
 have h1 := (List.pairwise_iff_getElem.1 (z7k zne (uns p l w))) i j (by show i < (srt p l w).length; omega) hj hij
 have h2 := (List.pairwise_iff_getElem.1 (zud p l w)) i j (by omega) hj hij
 change ltEv ((srt p l w)[j]) ((srt p l w)[i]) = false at h1
 rw [z1m (by omega), z1m hj]
 refine ⟨?_, h1⟩
 rcases zwc h2 with h | h
 ·unfold ltEv; simpa using h
 ·unfold ltEv at h1
  simp only [decide_eq_false_iff_not] at h1
  exact absurd h h1
theorem zsa {i j : Nat} (hi : i < (srt p l w).length) (hj : j < (srt p l w).length) (h : ltEv (gt (srt p l w) (i : Int)) (gt (srt p l w) (j : Int)) = true) : i < j := by
 by_cases q : i < j
 ·exact q
 ·by_cases q2 : i = j
  ·subst q2
   rw [zne.irrefl] at h; cases h
  ·rw [(zt9 p l w (i := j) (j := i) (by omega) hi).2] at h; cases h
theorem z20 : (z19 p l w).length = (srt p l w).length := zat _ _
theorem z9l {k : Nat} (h : k < (srt p l w).length) : ∃ b, gt (z19 p l w) (k : Int) = za6 (gt (srt p l w) (k : Int)) b := ⟨_, zss h⟩
theorem z2r {k : Nat} (h : k < (srt p l w).length) : (gt (z19 p l w) (k : Int)).visit.place = (gt (srt p l w) (k : Int)).visit.place := by
 obtain ⟨b, e⟩ := z9l p l w h
 rw [e]; rfl
end
theorem y3a (p : Pool) (l : List z7) (w : Int) {i j : Nat} (hi : i < (srt p l w).length) (hj : j < (srt p l w).length) (h1 : (gt (srt p l w) (i : Int)).report = (gt (srt p l w) (j : Int)).report) (h2 : (gt (srt p l w) (i : Int)).second = (gt (srt p l w) (j : Int)).second) : i = j := by
 by_cases q : i < j
 ·have := (List.pairwise_iff_getElem.1 (zud p l w)) i j hi hj q
  rw [<- z1m hi, <- z1m hj] at this
  exact (this.elim (fun h => h h1) fun h => h h2).elim
 ·by_cases q2 : j < i
  ·have := (List.pairwise_iff_getElem.1 (zud p l w)) j i hj hi q2
   rw [<- z1m hi, <- z1m hj] at this
   exact (this.elim (fun h => h h1.symm) fun h => h h2.symm).elim
  ·omega
theorem zz8 {p : Pool} (hc : z0e p = 0) {l : List z7} (hl : FewL l) (w : Int) {k : Nat} (hk : k < (srt p l w).length) :
  (gt (z19 p l w) (k : Int)).visit.stay = true ↔ ∃ i j : Nat, i <= k /\ k < j /\ j < (srt p l w).length /\ StP (gt (srt p l w) (i : Int)) (gt (srt p l w) (j : Int)) := by
 have hs : ∀ e ∈ srt p l w, e.second = true -> e.stay = true := fun e he h => by
  obtain ⟨_, _, _, _, a5⟩ := zed hl.len ((z7z p l w).1 he)
  unfold evs at a5
  split at a5
  ·simp only [List.mem_singleton] at a5; rw [a5] at h; cases h
  ·split at a5
   ·simp only [List.mem_cons, List.not_mem_nil, or_false] at a5
    rcases a5 with a5 | a5 <;> rw [a5]
   ·split at a5
    ·simp only [List.mem_singleton] at a5; rw [a5] at h; cases h
    ·cases a5
 have e : gt (z19 p l w) (k : Int) = _ := zss hk
 rw [e]
 have h2 := y7v hs hk
 show decide ((0 : Int) < _) = true ↔ _
 rw [decide_eq_true_eq, show ((0 : Int) < ((mAt (srt p l w) (k + 1)).length : Int) ↔ 0 < (mAt (srt p l w) (k + 1)).length) by omega, h2]
 constructor
 ·rintro ⟨i, hi, hik, hb, hn⟩
  obtain ⟨j, j1, j2, j3⟩ := y6k (y0g hc hl w) hi hb
  refine ⟨i, j, hik, ?_, j2, hb.1, hb.2, j3.1, j3.2⟩
  by_cases q : k < j
  ·exact q
  ·exact absurd j3 (hn j j1 (by omega))
 ·rintro ⟨i, j, hik, hkj, hj, s1, s2, s3, s4⟩
  refine ⟨i, by omega, hik, ⟨s1, s2⟩, fun j' h1 h2 hm => ?_⟩
  have := y3a p l w (i := j') (j := j) (by omega) hj (by rw [hm.2, s4]) (by rw [hm.1, s3])
  omega
theorem zyq {p : Pool} {l : List z7} (hl : FewL l) {w : Int} {a c : z6} (ha : a ∈ uns p l w) (hcm : c ∈ uns p l w) (h : StP a c) : a.visit.place = c.visit.place := by
 obtain ⟨_, _, _, _, a5⟩ := zed hl.len ha
 obtain ⟨_, _, _, _, c5⟩ := zed hl.len hcm
 rw [h.2.2.2] at c5
 unfold evs at a5 c5
 split at a5
 ·simp only [List.mem_singleton] at a5; have := h.1; rw [a5] at this; cases this
 ·rename_i k1
  rw [if_neg k1] at c5
  split at a5
  ·rename_i k2
   rw [if_pos k2] at c5
   simp only [List.mem_cons, List.not_mem_nil, or_false] at a5 c5
   rcases a5 with a5 | a5 <;> rcases c5 with c5 | c5 <;> rw [a5, c5] <;> rfl
  ·split at a5
   ·simp only [List.mem_singleton] at a5; have := h.1; rw [a5] at this; cases this
   ·cases a5
theorem ya5 {φ : Nat} {x : zg} {a b : z0i} {t : Int} (h : Dst φ x a.place b.place = some t) (hs : a.stay = true -> a.place = b.place) : tvl φ x a b = t := by
 unfold Dst at h
 unfold tvl z2k
 rw [if_neg (by
  simp only [Bool.and_eq_true, bne_iff_ne, ne_eq, not_and]
  intro h1 h2; exact h1 (hs h2))]
 cases hb : zq φ x a.place b.place with
 | none => rw [hb] at h; cases h
 | some v =>
  obtain ⟨t', e, u⟩ := v
  rw [hb] at h
  simp only at h
  split at h
  ·rename_i he
   cases h; subst he
   rfl
  ·cases h
theorem zqx {α : Type} [Inhabited α] (e : α) (t : List α) (i : Nat) : gt (e :: t) ((i + 1 : Nat) : Int) = gt t (i : Int) := by
 unfold gt
 rw [Int.toNat_natCast, Int.toNat_natCast]; rfl
theorem y4n (tv : z0i -> z0i -> Int) (f : z6 -> Int) : ∀ (t : List z6) (pr : Option (z0i × Int)), (∀ i : Nat, i + 1 < t.length -> tv (gt t (i : Int)).visit (gt t ((i + 1 : Nat) : Int)).visit <= f (gt t ((i + 1 : Nat) : Int)) - f (gt t (i : Int))) ->
  (∀ a, pr = some a -> 0 < t.length -> tv a.1 (gt t 0).visit <= f (gt t 0) - a.2) -> ChT tv f pr t
 | [], _, _, _ => trivial
 | e :: t, pr, h, hp => by
  refine ⟨fun a ha => by simpa [gt] using hp a ha (by simp), y4n tv f t _ (fun i hi => ?_) fun a ha ht => ?_⟩
  ·have := h (i + 1) (by simp; omega)
   rw [zqx, zqx] at this
   exact this
  ·cases ha
   have := h 0 (by simp; omega)
   rw [zqx] at this
   exact this
section
variable {φ : Nat} (hφ : 800000 < φ) {p : Pool} (hc : z0e p = 0) {l : List z7} (hl : FewL l)
include hφ hc hl
omit hφ in
theorem zsd {f : Int -> Bool -> Int} {ρ : Int -> Int} (H : Hist φ p l f ρ) :
  ∃ X, X 0 = 0 /\ SolF (bsB φ p l) X /\ ∀ w : Nat, w < p.fleet.wagons.length -> ∀ i : Nat, i < (srt p l (w : Int)).length -> X (v0E p l + offW p l w + i) = tmF f (gt (srt p l (w : Int)) (i : Int)) := by
 have hmem : ∀ t ∈ ze p l, ∃ w : Nat, w < p.fleet.wagons.length /\ t = z19 p l (w : Int) := fun t ht => by
  obtain ⟨w, hw, rfl⟩ := List.mem_map.1 ht
  exact ⟨w, List.mem_range.1 hw, rfl⟩
 obtain ⟨X, x0, x1, x2⟩ := y3p (tv := tvl φ p.network) (tsOK hc hl) (ρ := ρ) (f := tmF f) H.rd (fun t ht e he => by
  obtain ⟨w, hw, rfl⟩ := hmem t ht
  obtain ⟨y, hy, b, rfl⟩ := zak he
  exact H.ev w hw y hy) (fun t ht => by
  obtain ⟨w, hw, rfl⟩ := hmem t ht
  refine y4n _ _ _ _ (fun i hi => ?_) (fun a ha => by cases ha)
  rw [z20] at hi
  obtain ⟨b1, e1⟩ := z9l p l (w : Int) (k := i) (by omega)
  obtain ⟨b2, e2⟩ := z9l p l (w : Int) (k := i + 1) hi
  have m1 := (z7z p l (w : Int)).1 (z21 (l := srt p l (w : Int)) (i := (i : Int)) (by omega) (by omega))
  have m2 := (z7z p l (w : Int)).1 (z21 (l := srt p l (w : Int)) (i := ((i + 1 : Nat) : Int)) (by omega) (by omega))
  have hlt := (zt9 p l (w : Int) (i := i) (j := i + 1) (by omega) hi).1
  obtain ⟨t, t1, t2⟩ := H.far w hw _ m1 _ m2 hlt
  have hci := zz8 hc hl (w : Int) (k := i) (by omega)
  rw [e1] at hci
  rw [ya5 (t := t) (by rw [e1, e2]; exact t1) (fun hst => ?_)]
  ·rw [e1, e2]; exact t2
  ·rw [e1] at hst
   obtain ⟨i0, j0, q1, q2, q3, q4⟩ := hci.1 hst
   have ma := (z7z p l (w : Int)).1 (z21 (l := srt p l (w : Int)) (i := (i0 : Int)) (by omega) (by omega))
   have mc := (z7z p l (w : Int)).1 (z21 (l := srt p l (w : Int)) (i := (j0 : Int)) (by omega) (by omega))
   have pl : ∀ k, i0 <= k -> k <= j0 -> (gt (srt p l (w : Int)) (k : Int)).visit.place = (gt (srt p l (w : Int)) (i0 : Int)).visit.place := fun k k1 k2 => by
    by_cases z1 : k = i0
    ·rw [z1]
    ·by_cases z2 : k = j0
     ·rw [z2]; exact (zyq hl ma mc q4).symm
     ·exact H.cov w hw _ ma _ ((z7z p l (w : Int)).1 (z21 (l := srt p l (w : Int)) (i := (k : Int)) (by omega) (by omega))) _ mc q4 (zt9 p l (w : Int) (by omega) (by omega)).1 (zt9 p l (w : Int) (by omega) (by omega)).1
   rw [z2r p l (w : Int) (by omega), z2r p l (w : Int) hi, pl i q1 (by omega), pl (i + 1) (by omega) (by omega)])
 refine ⟨X, x0, x1, fun w hw i hi => ?_⟩
 obtain ⟨b1, e1⟩ := z9l p l (w : Int) hi
 have := x2 _ _ _ (zbc p l hw) i (gt (z19 p l (w : Int)) (i : Int)) (zxu (by rw [z20]; exact hi))
 rw [(zrr (tvl φ p.network) (rdM p.readers (ze p l)) ((ze p l).take w) (rd0 p.readers (ze p l))).2, e1] at this
 exact this
omit hφ hc hl in
theorem solT {X : Int -> Int} (hX : SolF (bsB φ p l) X) {w : Nat} (hw : w < p.fleet.wagons.length) {i : Nat} (hi : i < (z19 p l (w : Int)).length) :
  (∀ b ∈ evB (rdM p.readers (ze p l)) (v0E p l + offW p l w + i) (gt (z19 p l (w : Int)) (i : Int)), X b.j - X b.i <= b.w) /\
  (i + 1 < (z19 p l (w : Int)).length -> tvl φ p.network (gt (z19 p l (w : Int)) (i : Int)).visit (gt (z19 p l (w : Int)) ((i + 1 : Nat) : Int)).visit <= X (v0E p l + offW p l w + i + 1) - X (v0E p l + offW p l w + i)) := by
 have hsat := hX
 unfold SolF bsB at hsat
 rw [zgu] at hsat
 have e1 := zbc p l hw
 obtain ⟨k1, k2, k3, k4⟩ := znh (tvl φ p.network) (rdM p.readers (ze p l)) ((ze p l).take w) ((ze p l).drop (w + 1)) (z19 p l (w : Int)) (rd0 p.readers (ze p l))
 rw [<- e1] at k3
 have ev := (zrr (tvl φ p.network) (rdM p.readers (ze p l)) ((ze p l).take w) (rd0 p.readers (ze p l))).2
 rw [ev] at k3
 change ∀ b ∈ bnds (tvl φ p.network) (rdM p.readers (ze p l)) none (v0E p l + (offW p l w : Int)) (z19 p l (w : Int)), b ∈ _ at k3
 refine ⟨fun b hb => hsat b (k3 b (zsh _ _ _ none _ i _ (zxu hi) b hb)), fun hi2 => ?_⟩
 have := hsat _ (k3 _ (zyz (tvl φ p.network) (rdM p.readers (ze p l)) (z19 p l (w : Int)) none _ i _ _ (zxu hi) (zxu hi2)))
 simp only at this
 omega
theorem y72 {X : Int -> Int} (hX : SolF (bsB φ p l) X) {w : Nat} (hw : w < p.fleet.wagons.length) {i : Nat} : ∀ {j : Nat}, i < j -> j < (srt p l (w : Int)).length ->
  ∃ t, Dst φ p.network (gt (srt p l (w : Int)) (i : Int)).visit.place (gt (srt p l (w : Int)) (j : Int)).visit.place = some t /\ t <= X (v0E p l + offW p l w + j) - X (v0E p l + offW p l w + i) := by
 have hn := (z8l hc).1
 have hT := tsOK hc hl
 have ht : z19 p l (w : Int) ∈ ze p l := List.mem_of_getElem? (zdn p l hw)
 have hlen := z20 p l (w : Int)
 have okp : ∀ k : Nat, k < (srt p l (w : Int)).length -> okPl p.network (gt (srt p l (w : Int)) (k : Int)).visit.place := fun k hk => by
  rw [<- z2r p l (w : Int) hk]
  exact zqs hc hl (z21 (by omega) (by omega))
 have rng : ∀ k : Nat, k < (srt p l (w : Int)).length -> 0 <= X (v0E p l + offW p l w + k) - X 0 /\ X (v0E p l + offW p l w + k) - X 0 <= 1073741824 := fun k hk =>
  zrf (solT hX hw (by omega)).1 (hT.early _ ht _ (z21 (by omega) (by omega)))
 have one : ∀ k : Nat, k + 1 < (srt p l (w : Int)).length -> ∃ t, Dst φ p.network (gt (srt p l (w : Int)) (k : Int)).visit.place (gt (srt p l (w : Int)) ((k + 1 : Nat) : Int)).visit.place = some t /\ t <= X (v0E p l + offW p l w + ((k + 1 : Nat) : Int)) - X (v0E p l + offW p l w + k) := fun k hk => by
  have h1 := (solT hX hw (i := k) (by omega)).2 (by omega)
  have r1 := rng k (by omega)
  have r2 := rng (k + 1) hk
  rw [show v0E p l + (offW p l w : Int) + ((k + 1 : Nat) : Int) = v0E p l + offW p l w + k + 1 by omega] at r2 ⊢
  obtain ⟨t, t1, t2⟩ := y9d (x := p.network) hφ (show tvl φ p.network (gt (z19 p l (w : Int)) (k : Int)).visit (gt (z19 p l (w : Int)) ((k + 1 : Nat) : Int)).visit < 1073741825 by omega)
  rw [z2r p l (w : Int) (by omega), z2r p l (w : Int) hk] at t1
  exact ⟨t, by unfold Dst; rw [t1]; rfl, by omega⟩
 intro j
 induction j with
 | zero => intro h; omega
 | succ j ih =>
  intro h1 h2
  obtain ⟨t, t1, t2⟩ := one j h2
  by_cases q : i = j
  ·subst q; exact ⟨t, t1, t2⟩
  ·obtain ⟨u, u1, u2⟩ := ih (by omega) (by omega)
   obtain ⟨r, r1, r2⟩ := y69 hφ hn (okp i (by omega)) (okp j (by omega)) (okp (j + 1) h2) u1 t1
   exact ⟨r, r1, by omega⟩
omit hφ in
theorem y77 {X : Int -> Int} (hX : SolF (bsB φ p l) X) {w : Nat} (hw : w < p.fleet.wagons.length) {i j : Nat} (hj : j < (srt p l (w : Int)).length) (hs : StP (gt (srt p l (w : Int)) (i : Int)) (gt (srt p l (w : Int)) (j : Int))) :
  ∀ k, i <= k -> k <= j -> (gt (srt p l (w : Int)) (k : Int)).visit.place = (gt (srt p l (w : Int)) (i : Int)).visit.place := by
 have hT := tsOK hc hl
 have ht : z19 p l (w : Int) ∈ ze p l := List.mem_of_getElem? (zdn p l hw)
 have hlen := z20 p l (w : Int)
 have rng : ∀ k : Nat, k < (srt p l (w : Int)).length -> 0 <= X (v0E p l + offW p l w + k) - X 0 /\ X (v0E p l + offW p l w + k) - X 0 <= 1073741824 := fun k hk =>
  zrf (solT hX hw (by omega)).1 (hT.early _ ht _ (z21 (by omega) (by omega)))
 intro k
 induction k with
 | zero => intro h1 _; rw [show i = 0 by omega]
 | succ k ih =>
  intro h1 h2
  by_cases q : i = k + 1
  ·rw [q]
  ·rw [<- ih (by omega) (by omega), <- z2r p l (w : Int) (k := k) (by omega), <- z2r p l (w : Int) (k := k + 1) (by omega)]
   have hst := (zz8 hc hl (w : Int) (k := k) (by omega)).2 ⟨i, j, by omega, by omega, hj, hs⟩
   have h1 := (solT hX hw (i := k) (by omega)).2 (by omega)
   have r1 := rng k (by omega)
   have r2 := rng (k + 1) (by omega)
   rw [show v0E p l + (offW p l w : Int) + ((k + 1 : Nat) : Int) = v0E p l + offW p l w + k + 1 by omega] at r2
   by_cases e : (gt (z19 p l (w : Int)) ((k + 1 : Nat) : Int)).visit.place = (gt (z19 p l (w : Int)) (k : Int)).visit.place
   ·exact e
   ·have := y6g (φ := φ) (x := p.network) hst (fun q => e q.symm)
    omega
omit hφ hc in
theorem y62 : (ze p l).flatten.Pairwise fun a b => a.report ≠ b.report \/ a.second ≠ b.second := by
 rw [List.pairwise_flatten]
 constructor
 ·intro t ht
  obtain ⟨w, _, rfl⟩ := List.mem_map.1 ht
  rw [List.pairwise_iff_getElem]
  intro i j hi hj hij
  rw [z20] at hi hj
  have := (List.pairwise_iff_getElem.1 (zud p l (w : Int))) i j hi hj hij
  obtain ⟨b1, e1⟩ := z9l p l (w : Int) hi
  obtain ⟨b2, e2⟩ := z9l p l (w : Int) hj
  rw [z1m (by rw [z20]; exact hi), z1m hi] at e1
  rw [z1m (by rw [z20]; exact hj), z1m hj] at e2
  rw [e1, e2]; exact this
 ·unfold ze
  rw [List.pairwise_map]
  refine List.pairwise_lt_range.imp fun {a b} hab x hx y hy => .inl fun e => ?_
  obtain ⟨x', hx', _, rfl⟩ := zak hx
  obtain ⟨y', hy', _, rfl⟩ := zak hy
  obtain ⟨_, _, x3, _, x5⟩ := zed hl.len hx'
  obtain ⟨_, _, y3, _, y5⟩ := zed hl.len hy'
  have hxw := (z6z x5).2.1
  have hyw := (z6z y5).2.1
  change x'.report = y'.report at e
  rw [e] at hxw
  omega
theorem zr3 {X : Int -> Int} (hX : SolF (bsB φ p l) X) :
  ∃ f ρ, Hist φ p l f ρ /\ ∀ w : Nat, w < p.fleet.wagons.length -> ∀ i : Nat, i < (srt p l (w : Int)).length -> tmF f (gt (srt p l (w : Int)) (i : Int)) = X (v0E p l + offW p l w + i) - X 0 := by
 have hT := tsOK hc hl
 have hf : ∀ k (hk : k < (ze p l).flatten.length), ((ze p l).flatten.findIdx fun e => e.report == (gt (ze p l).flatten (k : Int)).report && e.second == (gt (ze p l).flatten (k : Int)).second) = k := fun k hk => by
  refine (List.findIdx_eq hk).2 ⟨by rw [z1m hk]; simp, fun j hj => ?_⟩
  have := (List.pairwise_iff_getElem.1 (y62 hl)) j k (by omega) hk hj
  rw [z1m hk]
  rcases this with h | h
  ·simp [h]
  ·simp [h]
 let f : Int -> Bool -> Int := fun i b => X (v0E p l + (((ze p l).flatten.findIdx fun e => e.report == i && e.second == b : Nat) : Int)) - X 0
 let ρ : Int -> Int := fun i => match mget (rdM p.readers (ze p l)) i with
  | some v => X v - X 0
  | none => 0 - (gt p.readers i).low
 have hval : ∀ w : Nat, w < p.fleet.wagons.length -> ∀ i : Nat, i < (srt p l (w : Int)).length -> tmF f (gt (srt p l (w : Int)) (i : Int)) = X (v0E p l + offW p l w + i) - X 0 := fun w hw i hi => by
  have hle := y5d p l hw
  have hi' : i < (z19 p l (w : Int)).length := by rw [z20]; exact hi
  have h1 := hf (offW p l w + i) (by omega)
  rw [y5l p l hw hi'] at h1
  obtain ⟨b, e⟩ := z9l p l (w : Int) hi
  rw [e] at h1
  change ((ze p l).flatten.findIdx fun e => e.report == (gt (srt p l (w : Int)) (i : Int)).report && e.second == (gt (srt p l (w : Int)) (i : Int)).second) = offW p l w + i at h1
  show X (v0E p l + (((ze p l).flatten.findIdx fun e => e.report == (gt (srt p l (w : Int)) (i : Int)).report && e.second == (gt (srt p l (w : Int)) (i : Int)).second : Nat) : Int)) - X 0 = _
  rw [h1]
  rw [show v0E p l + ((offW p l w + i : Nat) : Int) = v0E p l + offW p l w + i by omega]
 refine ⟨f, ρ, ⟨fun i hi => ?_, fun w hw e he => ?_, fun w hw a ha b hb hab => ?_, fun w hw a ha b hb c hcc hs hab hbc => ?_⟩, hval⟩
 ·show 0 - _ <= (match mget (rdM p.readers (ze p l)) (i : Int) with | some v => X v - X 0 | none => 0 - (gt p.readers (i : Int)).low) /\ (match mget (rdM p.readers (ze p l)) (i : Int) with | some v => X v - X 0 | none => 0 - (gt p.readers (i : Int)).low) <= _
  cases hm : mget (rdM p.readers (ze p l)) (i : Int) with
  | none =>
   simp only
   have := hT.rs _ (z21 (l := p.readers) (i := (i : Int)) (by omega) (by omega))
   omega
  | some v =>
   simp only
   have has : ∀ n : Nat, i < n -> ∀ v, mget (rdsN p.readers (used (ze p l)) n).m (i : Int) = some v -> (⟨0, v, 0 - (gt p.readers (i : Int)).low⟩ : za) ∈ (rdsN p.readers (used (ze p l)) n).b /\ (⟨v, 0, (gt p.readers (i : Int)).high⟩ : za) ∈ (rdsN p.readers (used (ze p l)) n).b := by
    intro n
    induction n with
    | zero => intro h; omega
    | succ n ih =>
     intro hn v hv
     simp only [rdsN, zhs] at hv ⊢
     split at hv
     ·rename_i hs
      rw [if_pos hs]
      simp only [zao] at hv
      by_cases e : (i : Int) = (n : Int)
      ·rw [if_pos e] at hv; cases hv
       rw [e]
       exact ⟨List.mem_append_right _ (by simp), List.mem_append_right _ (by simp)⟩
      ·rw [if_neg e] at hv
       obtain ⟨q1, q2⟩ := ih (by omega) v hv
       exact ⟨List.mem_append_left _ q1, List.mem_append_left _ q2⟩
     ·rename_i hs
      rw [if_neg hs]
      by_cases e : i = n
      ·subst e; rw [hv] at hs; exact absurd rfl hs
      ·exact ih (by omega) v hv
   obtain ⟨q1, q2⟩ := has p.readers.length hi v hm
   obtain ⟨b, hb⟩ := (zew (tvl φ p.network) (rdM p.readers (ze p l)) (ze p l) (rd0 p.readers (ze p l))).2.1
   have hsub : ∀ c ∈ (rdsN p.readers (used (ze p l)) p.readers.length).b, X c.j - X c.i <= c.w := fun c hcm => hX c (by
    rw [bsB, zgu, hb]
    exact List.mem_append_left _ hcm)
   have h1 := hsub _ q1
   have h2 := hsub _ q2
   simp only at h1 h2
   omega
 ·obtain ⟨i, hi, rfl⟩ := zf9 ((z7z p l (w : Int)).2 he)
  have hi' : i < (z19 p l (w : Int)).length := by rw [z20]; exact hi
  obtain ⟨b, e⟩ := z9l p l (w : Int) hi
  have hB := (solT hX hw hi').1
  have ht : z19 p l (w : Int) ∈ ze p l := List.mem_of_getElem? (zdn p l hw)
  have hin := z21 (l := z19 p l (w : Int)) (i := (i : Int)) (by omega) (by omega)
  have hr := zrf hB (hT.early _ ht _ hin)
  refine ⟨fun hneg => ?_, fun hpos => ?_⟩
  ·rw [hval w hw i hi]
   have hev : evB (rdM p.readers (ze p l)) (v0E p l + offW p l w + i) (gt (z19 p l (w : Int)) (i : Int)) = [⟨0, v0E p l + offW p l w + i, (gt (srt p l (w : Int)) (i : Int)).visit.early⟩, ⟨v0E p l + offW p l w + i, 0, 0 - (gt (srt p l (w : Int)) (i : Int)).visit.early⟩] := by
    rw [e]; unfold evB; rw [if_pos (show (za6 (gt (srt p l (w : Int)) (i : Int)) b).reader < 0 from hneg)]; rfl
   rw [hev] at hB
   have h1 := hB _ (List.mem_cons_self ..)
   have h2 := hB _ (List.mem_cons_of_mem _ (List.mem_cons_self ..))
   simp only at h1 h2
   omega
  ·rw [hval w hw i hi]
   have hpos' : 0 <= (gt (z19 p l (w : Int)) (i : Int)).reader := by rw [e]; exact hpos
   have h1 := y1z hB hpos'
   have h2 := (y73 hT ht hin hpos').1
   rw [e] at h1 h2
   change mget _ (gt (srt p l (w : Int)) (i : Int)).reader = _ at h2
   change _ = (gt (srt p l (w : Int)) (i : Int)).visit.early at h1
   refine ⟨?_, hr.1, hr.2⟩
   show _ = _ + (match mget (rdM p.readers (ze p l)) (gt (srt p l (w : Int)) (i : Int)).reader with | some v => X v - X 0 | none => 0 - (gt p.readers (gt (srt p l (w : Int)) (i : Int)).reader).low)
   rw [h2]
   simp only
   omega
 ·obtain ⟨i, hi, rfl⟩ := zf9 ((z7z p l (w : Int)).2 ha)
  obtain ⟨j, hj, rfl⟩ := zf9 ((z7z p l (w : Int)).2 hb)
  obtain ⟨t, t1, t2⟩ := y72 hφ hc hl hX hw (zsa p l (w : Int) hi hj hab) hj
  exact ⟨t, t1, by rw [hval w hw i hi, hval w hw j hj]; omega⟩
 ·obtain ⟨i, hi, rfl⟩ := zf9 ((z7z p l (w : Int)).2 ha)
  obtain ⟨k, hk, rfl⟩ := zf9 ((z7z p l (w : Int)).2 hb)
  obtain ⟨j, hj, rfl⟩ := zf9 ((z7z p l (w : Int)).2 hcc)
  have h1 := zsa p l (w : Int) hi hk hab
  have h2 := zsa p l (w : Int) hk hj hbc
  exact y77 hc hl hX hw hj hs k (by omega) (by omega)
end
end Px
end
section
namespace Px
open Go
set_option linter.unusedVariables false
set_option linter.unusedSimpArgs false
def evR (p : Pool) (w : Int) (r : z7) (i : Int) : List z6 := if zby p r.item = true /\ r.item.wagon = w then evs p r i else []
theorem zp9 (p : Pool) (l : List z7) (w : Int) : ∀ n, unsC p l (cntN p l n) w = (List.range n).flatMap fun (j : Nat) => evR p w (gt l (j : Int)) (j : Int)
 | 0 => by simp [cntN, unsC]
 | n + 1 => by
  have ih := zp9 p l w n
  rw [zqq, List.range_succ, List.flatMap_append, <- ih]
  unfold unsC
  rw [List.flatMap_append]
  congr 1
  unfold evR
  cases h : zby p (gt l (n : Int)).item <;> simp [h]
theorem y3z (p : Pool) (l : List z7) (w : Int) : uns p l w = (List.range l.length).flatMap fun (j : Nat) => evR p w (gt l (j : Int)) (j : Int) := zp9 p l w l.length
def up (i : Nat) (j : Int) : Int := if j < (i : Int) then j else j + 1
theorem y9m (p : Pool) (w : Int) (r : z7) (κ : Int -> Int) (j : Int) : evR p w r (κ j) = (evR p w r j).map (ren κ) := by
 unfold evR
 split
 ·rw [zlm p r (κ j), zlm p r j, List.map_map]
  rfl
 ·rfl
end Px
end
section
namespace Px
open Go
set_option linter.unusedVariables false
set_option linter.unusedSimpArgs false
theorem y07 {p : Pool} {l : List z7} {w : Int} {e : z6} : e ∈ uns p l w ↔ ∃ j : Nat, j < l.length /\ e ∈ evR p w (gt l (j : Int)) (j : Int) := by
 rw [y3z]
 simp only [List.mem_flatMap, List.mem_range]
theorem zxi {p : Pool} {w : Int} {r : z7} {j : Int} {e : z6} (h : e ∈ evR p w r j) : e.report = j := by
 unfold evR at h
 split at h
 ·exact (z6z h).1
 ·cases h
theorem y3t {κ : Int -> Int} {a b : z6} (hk : a.report < b.report -> κ a.report < κ b.report) (h : ltEv a b = true) : ltEv (ren κ a) (ren κ b) = true := by
 unfold ltEv at *
 simp only [decide_eq_true_eq] at *
 rw [zae] at *
 simp only [ren, zwo] at *
 rcases h with h | ⟨h1, h | ⟨h2, h | ⟨h3, h | ⟨h4, h⟩⟩⟩⟩
 ·exact .inl h
 ·exact .inr ⟨h1, .inl h⟩
 ·exact .inr ⟨h1, .inr ⟨h2, .inl h⟩⟩
 ·exact .inr ⟨h1, .inr ⟨h2, .inr ⟨h3, .inl h⟩⟩⟩
 ·exact .inr ⟨h1, .inr ⟨h2, .inr ⟨h3, .inr ⟨h4, hk h⟩⟩⟩⟩
structure Pk (l l' : List z7) (σ : Int -> Int) : Prop where
 mono : ∀ i j : Int, 0 <= i -> i < j -> j < (l'.length : Int) -> σ i < σ j
 at_ : ∀ i : Nat, i < l'.length -> ∃ k : Nat, σ (i : Int) = (k : Int) /\ k < l.length /\ gt l' (i : Int) = gt l (k : Int)
theorem Pk.mem {l l' : List z7} {σ : Int -> Int} (h : Pk l l' σ) {p : Pool} {w : Int} {e : z6} (he : e ∈ uns p l' w) : 0 <= e.report /\ e.report < (l'.length : Int) /\ ren σ e ∈ uns p l w := by
 obtain ⟨j, hj, hm⟩ := y07.1 he
 obtain ⟨k, e1, hk, e2⟩ := h.at_ j hj
 refine ⟨by rw [zxi hm]; omega, by rw [zxi hm]; omega, y07.2 ⟨k, hk, ?_⟩⟩
 rw [<- e2, <- e1, y9m]
 exact List.mem_map.2 ⟨e, hm, rfl⟩
theorem Pk.lt {l l' : List z7} {σ : Int -> Int} (h : Pk l l' σ) {p : Pool} {w w' : Int} {a b : z6} (ha : a ∈ uns p l' w) (hb : b ∈ uns p l' w') (hlt : ltEv a b = true) : ltEv (ren σ a) (ren σ b) = true :=
 y3t (fun q => h.mono _ _ (h.mem ha).1 q (h.mem hb).2.1) hlt
theorem Hist.sub {φ : Nat} {p : Pool} {l l' : List z7} {f : Int -> Bool -> Int} {ρ σ : Int -> Int} (h : Pk l l' σ) (H : Hist φ p l f ρ) : Hist φ p l' (fun i s => f (σ i) s) ρ := by
 refine ⟨H.rd, fun w hw e he => H.ev w hw _ (h.mem he).2.2, fun w hw a ha b hb hab => H.far w hw _ (h.mem ha).2.2 _ (h.mem hb).2.2 (h.lt ha hb hab), fun w hw a ha b hb c hc hs hab hbc => ?_⟩
 exact H.cov w hw (ren σ a) (h.mem ha).2.2 (ren σ b) (h.mem hb).2.2 (ren σ c) (h.mem hc).2.2 ⟨hs.1, hs.2.1, hs.2.2.1, congrArg σ hs.2.2.2⟩ (h.lt ha hb hab) (h.lt hb hc hbc)
theorem Pk.of_sub {l l' : List z7} (h : l'.Sublist l) : ∃ σ, Pk l l' σ := by
 obtain ⟨is, e, hp⟩ := List.sublist_eq_map_getElem h
 have hl : l'.length = is.length := by rw [e, List.length_map]
 refine ⟨fun i => if h : i.toNat < is.length then ((is[i.toNat]'h : Fin l.length) : Nat) else 0, fun i j h0 hij hj => ?_, fun i hi => ?_⟩
 ·have hi' : i.toNat < is.length := by omega
  have hj' : j.toNat < is.length := by omega
  simp only [hi', hj', dif_pos]
  have := (List.pairwise_iff_getElem.1 hp) i.toNat j.toNat hi' hj' (by omega)
  exact Int.ofNat_lt.2 this
 ·have hi' : i < is.length := by omega
  refine ⟨is[i], ?_, (is[i]).2, ?_⟩
  ·simp only [Int.toNat_natCast, hi', dif_pos]
  ·rw [z1m hi, z1m (is[i]).2]
   have := congrArg (fun q : List z7 => q[i]?) e
   simp only [List.getElem?_eq_getElem hi, List.getElem?_map, List.getElem?_eq_getElem hi', Option.map_some, Option.some.injEq] at this
   exact this
def Con (φ : Nat) (p : Pool) (l : List z7) : Prop := ∃ f ρ, Hist φ p l f ρ
theorem Con.sub {φ : Nat} {p : Pool} {l l' : List z7} (h : l'.Sublist l) : Con φ p l -> Con φ p l' := by
 rintro ⟨f, ρ, H⟩
 obtain ⟨σ, hσ⟩ := Pk.of_sub h
 exact ⟨_, ρ, H.sub hσ⟩
theorem zwj {φ : Nat} (hφ : 800000 < φ) {p : Pool} (hc : z0e p = 0) {l : List z7} (hl : FewL l) : Con φ p l ↔ ∃ X, SolF (bsB φ p l) X := by
 constructor
 ·rintro ⟨f, ρ, H⟩
  obtain ⟨Y, _, hY, _⟩ := zsd hc hl H
  exact ⟨Y, hY⟩
 ·rintro ⟨X, hX⟩
  obtain ⟨f, ρ, H, _⟩ := zr3 hφ hc hl hX
  exact ⟨f, ρ, H⟩
open Classical in
noncomputable def cnB (φ : Nat) (p : Pool) (l : List z7) : Bool := decide (Con φ p l)
theorem zmu {φ : Nat} {p : Pool} {l : List z7} : cnB φ p l = true ↔ Con φ p l := by unfold cnB; simp
theorem y5v {φ : Nat} {p : Pool} {l l' : List z7} (h : l'.Sublist l) (hc : cnB φ p l = true) : cnB φ p l' = true := zmu.2 ((zmu.1 hc).sub h)
theorem zg2 (φ : Nat) (hφ : 800000 < φ) (p : Pool) {l : List z7} (hl : FewL l) (hs : l.length <= 100) :
  zt φ p l = some (if z0e p = 0 then (cnB φ p l, 0, ()) else (false, z0e p, ())) := by
 unfold zt
 rw [y0e φ hφ p hl, Option.bind_some, show bAll (tvl φ p.network) p.readers (ze p l) = bsB φ p l from rfl]
 by_cases hc : z0e p = 0
 case neg => rw [if_neg hc, if_neg hc]; simp only; rw [if_pos (by simpa using hc)]
 rw [if_pos hc, if_pos hc]
 unfold bEnd
 have hb := (y85 (φ := φ) hc hs).2.2.2
 rw [if_neg hb]
 have hG := y71 hφ hc hl hb
 simp only
 rw [if_neg (by simp), hG.solve φ (by omega), Option.bind_some]
 by_cases hz : 0 <= (low (bsB φ p l).v.toNat (bsB φ p l).b).z
 ·have : cnB φ p l = false := by
   rw [Bool.eq_false_iff]
   intro h
   have := hG.sol.2 ((zwj hφ hc hl).1 (zmu.1 h))
   omega
  rw [if_pos hz, this]; rfl
 ·have : cnB φ p l = true := zmu.2 ((zwj hφ hc hl).2 (hG.sol.1 (by omega)))
  rw [if_neg hz, this]; rfl
def selQ (l : List z7) (q : Nat -> Bool) : List z7 := ((List.range l.length).filter q).map fun (i : Nat) => gt l (i : Int)
theorem y1l (l : List z7) : selQ l (fun _ => true) = l := by
 unfold selQ
 rw [List.filter_eq_self.2 (by simp)]
 refine List.ext_getElem (by simp) fun i h1 h2 => ?_
 rw [List.getElem_map, List.getElem_range, z1m h2]
theorem y3o {l : List z7} {q q' : Nat -> Bool} (h : ∀ i, i < l.length -> q i = true -> q' i = true) : (selQ l q).Sublist (selQ l q') := by
 unfold selQ
 refine List.Sublist.map _ ?_
 have e : (List.range l.length).filter q = ((List.range l.length).filter q').filter q := by
  rw [List.filter_filter]
  refine List.filter_congr fun i hi => ?_
  cases hq : q i with
  | false => rfl
  | true => rw [h i (List.mem_range.1 hi) hq]; rfl
 rw [e]
 exact List.filter_sublist
theorem y6b (l : List z7) (q : Nat -> Bool) : (selQ l q).Sublist l := by
 have := y3o (l := l) (q := q) (q' := fun _ => true) fun _ _ _ => rfl
 rwa [y1l] at this
theorem FewL.sub {l l' : List z7} (h : FewL l) (hs : l'.Sublist l) : FewL l' := ⟨Nat.le_trans hs.length_le h.len, fun r hr => h.parts r (hs.subset hr)⟩
end Px
end
section
namespace Px
open Go
set_option linter.unusedVariables false
set_option linter.unusedSimpArgs false
def selN (l : List z7) (q : Nat -> Bool) (n : Nat) : List z7 := ((List.range n).filter q).map fun (i : Nat) => gt l (i : Int)
theorem zqn (l : List z7) (q : Nat -> Bool) (n : Nat) : selN l q (n + 1) = if q n = true then selN l q n ++ [gt l (n : Int)] else selN l q n := by
 unfold selN
 rw [List.range_succ, List.filter_append, List.map_append]
 cases h : q n <;> simp [List.filter_cons, h]
theorem y1g (l : List z7) (q : Nat -> Bool) (n : Nat) : (selN l q n).length <= n := by
 unfold selN
 rw [List.length_map]
 exact Nat.le_trans (List.length_filter_le ..) (by simp)
section
variable (φ : Nat) (hφ : 60000000 < φ) (p : Pool) {l : List z7} (hl : FewL l) (hs : l.length <= 10)
include hφ hl hs
omit hl in
end
section
variable (φ : Nat) (hφ : 60000000 < φ) (p : Pool) {l : List z7} (hl : FewL l) (hs : l.length <= 10)
include hφ hs
end
end Px
end
section
namespace Px
open Go
theorem y9z : zdr 100000000 = some (true, ()) := by kernel_rfl
end Px
end
section
namespace Px
open Go
set_option linter.unusedVariables false
set_option linter.unusedSimpArgs false
theorem y1u (φ : Nat) (hφ : 1000 < φ) (p : Pool) (l : List z7) : ∃ b, zft φ p l = some (b, ()) /\ (b = true -> FewL l /\ l.length <= 10) /\
  (b = true -> ∀ r ∈ l, r.item.parts.length <= 40 /\ r.item.text.size <= 2000) := by
 obtain ⟨b1, h1, h2⟩ := y0q φ hφ p
 obtain ⟨b2, h3, h4, h5⟩ := y8j φ hφ l 10 (by omega)
 unfold zft
 rw [h1, Option.bind_some]
 cases b1 with
 | false =>
  rw [gz_f (by simp), Option.bind_some]
  exact ⟨_, rfl, (fun h => by cases h), fun h => by cases h⟩
 | true =>
  have h3' : z33 φ l 10 = some (b2, ()) := h3
  rw [gz_t rfl, h3', Option.bind_some]
  exact ⟨_, rfl, fun h => h4 h, fun h => (h5.1 h).2⟩
def mkQ (m : List Bool) (i : Nat) : Bool := m.getD i false
theorem zp3 {l : List z7} {q : Nat -> Bool} {n : Nat} (h : ∀ i, n <= i -> q i = false) : ∀ d, selN l q (n + d) = selN l q n
 | 0 => rfl
 | d + 1 => by rw [<- Nat.add_assoc, zqn, if_neg (by rw [h _ (by omega)]; simp), zp3 h d]
theorem zva (φ : Nat) (hφ : 10000 < φ) (l : List z7) (m : List Bool) (hl : l.length <= 1000) : z8f φ l m = some (selQ l (mkQ m), ()) := by
 unfold z8f
 have hend : selN l (mkQ m) (min l.length m.length) = selQ l (mkQ m) := by
  show _ = selN l (mkQ m) l.length
  rcases Nat.le_total l.length m.length with h | h
  ·rw [Nat.min_eq_left h]
  ·rw [Nat.min_eq_right h]
   have := zp3 (l := l) (q := mkQ m) (n := m.length) (fun i hi => by unfold mkQ; rw [List.getD_eq_getElem?_getD, List.getElem?_eq_none hi]; rfl) (l.length - m.length)
   rw [show m.length + (l.length - m.length) = l.length by omega] at this
   exact this.symm
 refine z0k (fun n i acc => z1u φ n l m i acc) (min l.length m.length) (fun i acc => acc = selN l (mkQ m) i) (fun o => o = some (selQ l (mkQ m), ())) ?_ ?_ φ [] rfl (by omega)
 ·intro n i acc hi ha hk
  have hn := zqn l (mkQ m) i
  have hlen := y1g l (mkQ m) i
  have hq : gt m (i : Int) = mkQ m i := by
   rw [z1m (by omega)]; unfold mkQ; rw [List.getD_eq_getElem?_getD, List.getElem?_eq_getElem (by omega)]; rfl
  rw [z1u, if_pos (by simp; omega), z8 ⟨by omega, by omega⟩, W_id (x := (i : Int) + 1) (by omega) (by omega), hq]
  by_cases h : mkQ m i = true
  ·rw [if_pos h] at hn ⊢
   rw [z8 ⟨by omega, by omega⟩, z8 (zwn (by rw [ha]; simp; omega) (by omega))]
   exact hk _ (by rw [ha, hn])
  ·rw [if_neg h] at hn ⊢
   exact hk _ (by rw [ha, hn])
 ·intro n acc ha
  rw [z1u, if_neg (by simp only [Bool.and_eq_true, decide_eq_true_eq]; omega), ha, hend]
theorem zv7 (φ : Nat) (p : Pool) (l : List z7) (m : List Bool) : (z1n φ).F (p, l, m, ()) = z11 φ p l m := rfl
theorem zcl (x : Tup TT [30, 38, 55]) (h : y5j TV 30 [30, 38, 55] x) : ∃ φ, (z1n φ).F x = some (true, ()) := by
 obtain ⟨p, l, mk, _⟩ := x
 change List z7 at l
 change Pool at p
 change List Bool at mk
 suffices key : ∃ φ, z11 φ p l mk = some (true, ()) by
  obtain ⟨φ, h⟩ := key
  exact ⟨φ, (zv7 φ p l mk).trans h⟩
 suffices key : ∀ φ : Nat, 60000000 < φ -> zdr φ = some (true, ()) -> z11 φ p l mk = some (true, ()) from ⟨100000000, key _ (by omega) y9z⟩
 intro φ hφ hsane
 unfold z11
 obtain ⟨bf, hbf, hfew, _⟩ := y1u φ (by omega) p l
 rw [hsane, Option.bind_some, if_neg (by simp), hbf, Option.bind_some]
 cases bf with
 | false => rw [if_pos (by simp)]
 | true =>
 obtain ⟨hl, hlen⟩ := hfew rfl
 rw [if_neg (by simp), zg2 φ (by omega) p hl (by omega), Option.bind_some]
 have hs := y6b l (mkQ mk)
 rw [zva φ (by omega) l mk (by omega), Option.bind_some]
 simp only
 rw [zg2 φ (by omega) p (hl.sub hs) (by have := hs.length_le; omega), Option.bind_some]
 by_cases hc : z0e p = 0
 ·rw [if_pos hc, if_pos hc]
  cases hb : cnB φ p l with
  | false => simp
  | true => rw [y5v hs hb]; simp
 ·rw [if_neg hc, if_neg hc]
  have : ((z0e p : Int) != 0) = true := by simpa using hc
  simp [this]
section
variable {φ : Nat} {p : Pool} {l : List z7}
end
end Px
end
