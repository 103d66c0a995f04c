/- A part of the proof of custodyTruth_holds. Conditions: none. -/
import Derived.Test.YtonbdachlfobnaaGreatZge
section
namespace Px
open Go
set_option linter.unusedVariables false
set_option linter.unusedSimpArgs false
def bI (b : za) : Nat := b.i.toNat
def bJ (b : za) : Nat := b.j.toNat
def bW (b : za) : Int := b.w
def xf (x : List Int) : BF.X := fun v => if v < x.length then some (gt x (v : Int)) else none
theorem y1z {x : List Int} {i : Int} (h0 : 0 <= i) (h : i < (x.length : Int)) : xf x i.toNat = some (gt x i) := by
 unfold xf
 rw [if_pos (by omega), show ((i.toNat : Nat) : Int) = i by omega]
theorem zzt {n : Nat} {s : LS} (hx : s.x.length = n) {b : za} (hb : okBd n b) (i : Int) :
  xf (stp b i s).x = BF.rlx bI bJ bW (xf s.x) b /\ (BF.imp bI bJ bW (xf s.x) b = true -> (stp b i s).z = i) /\ (BF.imp bI bJ bW (xf s.x) b = false -> stp b i s = s) := by
 obtain ⟨a1, a2, a3, a4, _, _⟩ := hb
 have e1 : xf s.x (bI b) = some (gt s.x b.i) := y1z a1 (by rw [hx]; exact a2)
 have e2 : xf s.x (bJ b) = some (gt s.x b.j) := y1z a3 (by rw [hx]; exact a4)
 have ei : BF.imp bI bJ bW (xf s.x) b = decide (gt s.x b.i + b.w < gt s.x b.j) := by
  unfold BF.imp; rw [e1, e2]; rfl
 have er : BF.rlx bI bJ bW (xf s.x) b = if gt s.x b.i + b.w < gt s.x b.j then fun v => if v = bJ b then some (gt s.x b.i + b.w) else xf s.x v else xf s.x := by
  unfold BF.rlx; rw [e1, e2]; simp only [BF.ltO, bW]
  by_cases h : gt s.x b.i + b.w < gt s.x b.j <;> simp [h]
 rw [ei, er]
 unfold stp
 by_cases h : gt s.x b.i + b.w < gt s.x b.j
 ·rw [if_pos h, if_pos h]
  refine ⟨?_, fun _ => rfl, fun q => by simp [h] at q⟩
  funext v
  unfold xf
  rw [z0s]
  simp only
  by_cases hv : v < s.x.length
  ·rw [if_pos hv, if_pos hv, z0g _ _ _ _ a3 (by rw [hx]; exact a4) (by omega)]
   by_cases e : v = bJ b
   ·rw [if_pos e, if_pos (by unfold bJ at e; omega)]
   ·rw [if_neg e, if_neg (by unfold bJ at e; omega)]
  ·rw [if_neg hv, if_neg hv, if_neg (fun e => hv (by rw [hx, e]; unfold bJ; omega))]
 ·rw [if_neg h, if_neg h]
  exact ⟨rfl, fun q => by simp [h] at q, fun _ => rfl⟩
theorem zdk {n : Nat} {s : LS} (hs : s.x.length = n) {L : List za} : ∀ m, (rndL L m s).x.length = n
 | 0 => hs
 | m + 1 => by
  have := zdk hs (L := L) m
  unfold rndL stp
  split
  ·simp only [z0s]; exact this
  ·exact this
theorem zzx {n : Nat} {s : LS} (hs : s.x.length = n) {L : List za} (hL : ∀ b ∈ L, okBd n b) : ∀ m, m <= L.length -> xf (rndL L m s).x = (L.take m).foldl (BF.rlx bI bJ bW) (xf s.x)
 | 0, _ => rfl
 | m + 1, hm => by
  have ih := zzx hs hL m (by omega)
  rw [z0x L m (by omega), List.foldl_append, <- ih]
  exact (zzt (zdk hs m) (hL _ (z0h (by omega) (by omega))) m).1
theorem y5m {n : Nat} {s : LS} (hs : s.x.length = n) {L : List za} (hL : ∀ b ∈ L, okBd n b) (hz : s.z = -1) : ∀ m, m <= L.length ->
  ((rndL L m s).z < 0 -> rndL L m s = s /\ ∀ k : Nat, k < m -> BF.imp bI bJ bW (xf s.x) (gt L (k : Int)) = false) /\ -1 <= (rndL L m s).z /\ (rndL L m s).z < m
 | 0, _ => ⟨fun _ => ⟨rfl, fun k hk => by omega⟩, by rw [show (rndL L 0 s).z = s.z from rfl]; omega, by rw [show (rndL L 0 s).z = s.z from rfl]; omega⟩
 | m + 1, hm => by
  obtain ⟨h1, h2, h3⟩ := y5m hs hL hz m (by omega)
  obtain ⟨q1, q2, q3⟩ := zzt (zdk hs m) (hL _ (z0h (l := L) (i := (m : Int)) (by omega) (by omega))) m
  change _ /\ -1 <= (stp (gt L (m : Int)) m (rndL L m s)).z /\ (stp (gt L (m : Int)) m (rndL L m s)).z < _
  cases hi : BF.imp bI bJ bW (xf (rndL L m s).x) (gt L (m : Int)) with
  | true =>
   have := q2 hi
   refine ⟨fun h => ?_, by omega, by omega⟩
   change (stp (gt L (m : Int)) m (rndL L m s)).z < 0 at h
   omega
  | false =>
   have e := q3 hi
   rw [e]
   refine ⟨fun h => ?_, h2, by omega⟩
   change (stp (gt L (m : Int)) m (rndL L m s)).z < 0 at h
   rw [e] at h
   obtain ⟨e2, h4⟩ := h1 h
   refine ⟨by change stp (gt L (m : Int)) m (rndL L m s) = s; rw [e, e2], fun k hk => ?_⟩
   by_cases hkm : k = m
   ·subst hkm; rw [e2] at hi; exact hi
   ·exact h4 k (by omega)
theorem zp0 {n : Nat} {s : LS} (hs : s.x.length = n) {L : List za} (hL : ∀ b ∈ L, okBd n b) (hz : s.z = -1) (hf : ∀ b ∈ L, BF.imp bI bJ bW (xf s.x) b = false) : ∀ m, m <= L.length -> rndL L m s = s
 | 0, _ => rfl
 | m + 1, hm => by
  have ih := zp0 hs hL hz hf m (by omega)
  have hb := z0h (l := L) (i := (m : Int)) (by omega) (by omega)
  change stp (gt L (m : Int)) m (rndL L m s) = s
  rw [ih]
  exact (zzt hs (hL _ hb) m).2.2 (hf _ hb)
def xz (n : Nat) : BF.X := fun v => if v < n then some 0 else none
theorem ycf (n : Nat) : xf (List.replicate n 0) = xz n := by
 funext v
 unfold xf xz
 rw [List.length_replicate]
 split
 ·rw [z1i _ _ _ (by omega) (by omega)]
 ·rfl
theorem zx1 {n : Nat} {L : List za} (hL : ∀ b ∈ L, okBd n b) : ∀ (f k : Nat) (s : LS), s.x.length = n -> xf s.x = BF.rnds bI bJ bW L (xz n) k -> (lowR L f s).x.length = n /\
  (((lowR L f s).z < 0 -> f ≠ 0 \/ s.z < 0) -> ((lowR L f s).z < 0 -> f ≠ 0) -> ((lowR L f s).z < 0 -> BF.Fix bI bJ bW L (xf (lowR L f s).x) /\ ∃ k', xf (lowR L f s).x = BF.rnds bI bJ bW L (xz n) k')) /\
  (0 <= (lowR L f s).z -> f ≠ 0 -> ¬ BF.Feas bI bJ bW (xz n) L n \/ k + f < n) /\ (f ≠ 0 -> -1 <= (lowR L f s).z /\ (lowR L f s).z < L.length)
 | 0, k, s, hs, hx => ⟨hs, fun _ h2 h => absurd rfl (h2 h), fun _ h => absurd rfl h, fun h => absurd rfl h⟩
 | f + 1, k, s, hs, hx => by
  have hs1 : (LS.mk s.x s.y (-1)).x.length = n := hs
  obtain ⟨h1, h2, h3⟩ := y5m hs1 hL rfl L.length (Nat.le_refl _)
  have hr := zzx hs1 hL L.length (Nat.le_refl _)
  rw [List.take_length] at hr
  have hr2 : xf (rndL L L.length ⟨s.x, s.y, -1⟩).x = BF.rnds bI bJ bW L (xz n) (k + 1) := by
   rw [hr, show xf (LS.mk s.x s.y (-1)).x = _ from hx]; rfl
  have hq : ¬ (rndL L L.length ⟨s.x, s.y, -1⟩).z < 0 -> n <= k + 1 -> ¬ BF.Feas bI bJ bW (xz n) L n := fun hz hk F => by
   have := zp0 hs1 hL rfl (fun b hb => by
    have := BF.done F hk b hb
    rw [<- hx] at this; exact this) L.length (Nat.le_refl _)
   rw [this] at hz
   exact hz (by show (-1 : Int) < 0; omega)
  unfold lowR
  split
  ·rename_i hz
   obtain ⟨e1, e2⟩ := h1 hz
   refine ⟨zdk hs1 _, fun _ _ _ => ⟨fun b hb => ?_, k + 1, hr2⟩, fun h => by omega, fun _ => ⟨h2, h3⟩⟩
   rw [e1]
   obtain ⟨i, hi, rfl⟩ := zc9 hb
   exact e2 i hi
  ·rename_i hz
   by_cases hf : f = 0
   ·subst hf
    refine ⟨zdk hs1 _, fun _ _ h => absurd h hz, fun _ _ => ?_, fun _ => ⟨h2, h3⟩⟩
    by_cases hk : n <= k + 1
    ·exact .inl (hq hz hk)
    ·exact .inr (by omega)
   ·obtain ⟨i1, i2, i3, i4⟩ := zx1 hL f (k + 1) _ (zdk hs1 L.length) hr2
    refine ⟨i1, fun _ _ h => i2 (fun _ => .inl hf) (fun _ => hf) h, fun h _ => ?_, fun _ => i4 hf⟩
    rcases i3 h hf with h | h
    ·exact .inl h
    ·exact .inr (by omega)
structure yck (n : Nat) (L : List za) : Prop where
 len : (low n L).x.length = n
 fix : (low n L).z < 0 -> BF.Fix bI bJ bW L (xf (low n L).x)
 rnd : (low n L).z < 0 -> ∃ k, xf (low n L).x = BF.rnds bI bJ bW L (xz n) k
 cyc : 0 <= (low n L).z -> ¬ BF.Feas bI bJ bW (xz n) L n
 lo : -1 <= (low n L).z
 hi : (low n L).z < L.length
theorem y6m {n : Nat} {L : List za} (h1 : 1 <= n) (hL : ∀ b ∈ L, okBd n b) : yck n L := by
 obtain ⟨i1, i2, i3, i4⟩ := zx1 hL n 0 ⟨List.replicate n 0, List.replicate n (-1), -1⟩ (by simp) (ycf n)
 have hn : n ≠ 0 := by omega
 refine ⟨i1, fun h => (i2 (fun _ => .inl hn) (fun _ => hn) h).1, fun h => (i2 (fun _ => .inl hn) (fun _ => hn) h).2, fun h => ?_, (i4 hn).1, (i4 hn).2⟩
 rcases i3 h hn with h | h
 ·exact h
 ·omega
theorem ya8 {n : Nat} {L : List za} (h1 : 1 <= n) (hL : ∀ b ∈ L, okBd n b) (hz : (low n L).z < 0) {b : za} (hb : b ∈ L) : gt (low n L).x b.j - gt (low n L).x b.i <= b.w := by
 have h := y6m h1 hL
 obtain ⟨a1, a2, a3, a4, _, _⟩ := hL b hb
 obtain ⟨d, hd, hl⟩ := (h.fix hz).le hb (y1z a1 (by rw [h.len]; exact a2))
 have e : xf (low n L).x (bJ b) = some (gt (low n L).x b.j) := y1z a3 (by rw [h.len]; exact a4)
 rw [e] at hd
 cases hd
 unfold bW at hl
 omega
theorem ya7 {n : Nat} {L : List za} (hL : ∀ b ∈ L, okBd n b) (p : Int -> Int) (hp : ∀ b ∈ L, p b.j - p b.i <= b.w) : BF.Feas bI bJ bW (xz n) L n := by
 refine ⟨⟨fun v => p (v : Int), ((List.range n).map fun (v : Nat) => p (v : Int)).foldl max 0, fun b hb => ?_, fun v c h => ?_⟩, fun b hb => ?_, fun v c h => ?_⟩
 ·obtain ⟨a1, a2, a3, a4, _, _⟩ := hL b hb
  have := hp b hb
  show p ((bJ b : Nat) : Int) <= p ((bI b : Nat) : Int) + bW b
  unfold bI bJ bW
  rw [show ((b.j.toNat : Nat) : Int) = b.j by omega, show ((b.i.toNat : Nat) : Int) = b.i by omega]
  omega
 ·unfold xz at h
  split at h
  ·rename_i hv
   cases h
   have key : ∀ (l : List Int) (m x : Int), (x ∈ l -> x <= l.foldl max m) /\ m <= l.foldl max m := by
    intro l
    induction l with
    | nil => intro m x; exact ⟨fun h => by simp at h, Int.le_refl _⟩
    | cons y l ih =>
     intro m x
     have h1 := ih (max m y) x
     have h2 := ih (max m y) y
     refine ⟨fun h => ?_, ?_⟩
     ·rcases List.mem_cons.1 h with rfl | h
      ·simp only [List.foldl_cons]; omega
      ·exact h1.1 h
     ·simp only [List.foldl_cons]; omega
   have := (key ((List.range n).map fun (v : Nat) => p (v : Int)) 0 (p (v : Int))).1 (List.mem_map.2 ⟨v, List.mem_range.2 hv, rfl⟩)
   show p (v : Int) - 0 <= _
   omega
  ·cases h
 ·obtain ⟨a1, a2, a3, a4, _, _⟩ := hL b hb
  unfold bJ; omega
 ·unfold xz at h
  split at h
  ·assumption
  ·cases h
theorem y3w {n : Nat} {L : List za} (h1 : 1 <= n) (hL : ∀ b ∈ L, okBd n b) (p : Int -> Int) (hp : ∀ b ∈ L, p b.j - p b.i <= b.w) : (low n L).z < 0 := by
 by_cases hz : (low n L).z < 0
 ·exact hz
 ·exact absurd (ya7 hL p hp) ((y6m h1 hL).cyc (by omega))
end Px
end
section
namespace Px
open Go
set_option linter.unusedVariables false
set_option linter.unusedSimpArgs false
def bdI (r : Bool) (b : za) : Int := if r = true then b.j else b.i
def bdJ (r : Bool) (b : za) : Int := if r = true then b.i else b.j
def nI (r : Bool) (b : za) : Nat := (bdI r b).toNat
def nJ (r : Bool) (b : za) : Nat := (bdJ r b).toNat
def SolD (r : Bool) (L : List za) (p : Int -> Int) : Prop := ∀ b ∈ L, p (bdJ r b) - p (bdI r b) <= b.w
theorem zfr {n : Nat} {b : za} (h : okBd n b) (r : Bool) : 0 <= bdI r b /\ bdI r b < (n : Int) /\ 0 <= bdJ r b /\ bdJ r b < (n : Int) /\ -1099511627776 <= b.w /\ b.w <= 1099511627776 := by
 obtain ⟨a1, a2, a3, a4, a5, a6⟩ := h
 cases r
 ·exact ⟨a1, a2, a3, a4, a5, a6⟩
 ·exact ⟨a3, a4, a1, a2, a5, a6⟩
theorem zun {r : Bool} {L : List za} {p : Int -> Int} (h : SolD r L p) : SolD (!r) L fun v => - p v := fun b hb => by
 have := h b hb
 cases r
 ·simp only [bdI, bdJ, Bool.not_false, if_true, Bool.false_eq_true, if_false] at this ⊢; omega
 ·simp only [bdI, bdJ, Bool.not_true, if_true, Bool.false_eq_true, if_false] at this ⊢; omega
structure zmi (r : Bool) (L : List za) (n : Nat) (u : Int) (e : Int -> Int) : Prop where
 sat : SolD r L e
 top : ∀ p, SolD r L p -> ∀ v, 0 <= v -> v < (n : Int) -> p v - p u <= e v
 zero : e u = 0
def xs1 (u : Nat) : BF.X := fun v => if v = u then some 0 else none
theorem y9z {r : Bool} {n : Nat} {L : List za} (hL : ∀ b ∈ L, okBd n b) {p : Int -> Int} (hp : SolD r L p) {u : Nat} (hu : u < n) : BF.Feas (nI r) (nJ r) bW (xs1 u) L n := by
 refine ⟨⟨fun v => p (v : Int), p (u : Int), fun b hb => ?_, fun v c h => ?_⟩, fun b hb => ?_, fun v c h => ?_⟩
 ·obtain ⟨a1, a2, a3, a4, _, _⟩ := zfr (hL b hb) r
  have := hp b hb
  show p ((nJ r b : Nat) : Int) <= p ((nI r b : Nat) : Int) + bW b
  unfold nI nJ bW
  rw [show (((bdJ r b).toNat : Nat) : Int) = bdJ r b by omega, show (((bdI r b).toNat : Nat) : Int) = bdI r b by omega]
  omega
 ·unfold xs1 at h
  split at h
  ·rename_i e; cases h; subst e; show p (v : Int) - 0 <= p (v : Int); omega
  ·cases h
 ·obtain ⟨a1, a2, a3, a4, _, _⟩ := zfr (hL b hb) r
  unfold nJ; omega
 ·unfold xs1 at h
  split at h
  ·rename_i e; subst e; exact hu
  ·cases h
theorem zyi {r : Bool} {n : Nat} {L : List za} (hL : ∀ b ∈ L, okBd n b) {p : Int -> Int} (hp : SolD r L p) {u : Nat} (hu : u < n) {x : BF.X} (hf : BF.Fix (nI r) (nJ r) bW L x) (hi : BF.Inv (nI r) (nJ r) bW (xs1 u) L x) (h0 : BF.le (x u) 0)
  (hall : ∀ v, v < n -> (x v).isSome = true) : zmi r L n (u : Int) fun v => (x v.toNat).getD 0 := by
 have low : ∀ q, SolD r L q -> ∀ v a, x v = some a -> q (v : Int) - q (u : Int) <= a := by
  intro q hq v a hv
  obtain ⟨m, hw⟩ := hi v a hv
  have := BF.Wk.low (p := fun v : Nat => q (v : Int)) (C := q (u : Int)) (fun b hb => by
   obtain ⟨a1, a2, a3, a4, _, _⟩ := zfr (hL b hb) r
   have := hq b hb
   show q ((nJ r b : Nat) : Int) <= q ((nI r b : Nat) : Int) + bW b
   unfold nI nJ bW
   rw [show (((bdJ r b).toNat : Nat) : Int) = bdJ r b by omega, show (((bdI r b).toNat : Nat) : Int) = bdI r b by omega]
   omega) (fun v c h => by
   unfold xs1 at h
   split at h
   ·rename_i e; cases h; subst e; show q (v : Int) - 0 <= q (v : Int); omega
   ·cases h) hw
  omega
 have at_ : ∀ v : Int, 0 <= v -> v < (n : Int) -> x v.toNat = some ((x v.toNat).getD 0) := fun v h1 h2 => by
  have := hall v.toNat (by omega)
  cases hx : x v.toNat with
  | none => rw [hx] at this; cases this
  | some a => rfl
 refine ⟨fun b hb => ?_, fun q hq v h1 h2 => ?_, ?_⟩
 ·obtain ⟨a1, a2, a3, a4, _, _⟩ := zfr (hL b hb) r
  obtain ⟨d, hd, hle⟩ := hf.le hb (at_ _ a1 a2)
  have e := at_ _ a3 a4
  have hd' : x (bdJ r b).toNat = some d := hd
  rw [hd'] at e
  simp only [Option.some.injEq] at e
  rw [hd', Option.getD_some]
  unfold bW at hle
  omega
 ·have := low q hq v.toNat _ (at_ v h1 h2)
  rw [show ((v.toNat : Nat) : Int) = v by omega] at this
  exact this
 ·obtain ⟨a, ha, hle⟩ := h0
  have := low p hp u a ha
  simp only [Int.toNat_natCast, ha, Option.getD_some]
  omega
def Conn (L : List za) (n : Nat) : Prop := ∀ v : Int, 1 <= v -> v < (n : Int) -> (∃ b ∈ L, b.i = 0 /\ b.j = v) /\ ∃ b ∈ L, b.i = v /\ b.j = 0
theorem Conn.d {L : List za} {n : Nat} (h : Conn L n) (r : Bool) : ∀ v : Nat, 1 <= v -> v < n -> (∃ b ∈ L, nI r b = 0 /\ nJ r b = v) /\ ∃ b ∈ L, nI r b = v /\ nJ r b = 0 := by
 intro v h1 h2
 obtain ⟨⟨b, hb, b1, b2⟩, c, hc, c1, c2⟩ := h (v : Int) (by omega) (by omega)
 cases r
 ·exact ⟨⟨b, hb, by unfold nI bdI; rw [if_neg (by simp), b1]; rfl, by unfold nJ bdJ; rw [if_neg (by simp), b2]; simp⟩, c, hc, by unfold nI bdI; rw [if_neg (by simp), c1]; simp, by unfold nJ bdJ; rw [if_neg (by simp), c2]; rfl⟩
 ·exact ⟨⟨c, hc, by unfold nI bdI; rw [if_pos rfl, c2]; rfl, by unfold nJ bdJ; rw [if_pos rfl, c1]; simp⟩, b, hb, by unfold nI bdI; rw [if_pos rfl, b2]; simp, by unfold nJ bdJ; rw [if_pos rfl, b1]; rfl⟩
theorem ycs {r : Bool} {n : Nat} {L : List za} (hc : Conn L n) {u : Nat} (hu : u < n) {x : BF.X} (hf : BF.Fix (nI r) (nJ r) bW L x) (h0 : BF.le (x u) 0) : ∀ v, v < n -> (x v).isSome = true := by
 have z0 : ∃ a, x 0 = some a := by
  by_cases h : u = 0
  ·subst h; obtain ⟨a, ha, _⟩ := h0; exact ⟨a, ha⟩
  ·obtain ⟨_, b, hb, b1, b2⟩ := hc.d r u (by omega) hu
   obtain ⟨a, ha, _⟩ := h0
   obtain ⟨d, hd, _⟩ := hf.le hb (by rw [b1]; exact ha)
   rw [b2] at hd
   exact ⟨d, hd⟩
 intro v hv
 obtain ⟨a, ha⟩ := z0
 by_cases h : v = 0
 ·subst h; rw [ha]; rfl
 ·obtain ⟨⟨b, hb, b1, b2⟩, _⟩ := hc.d r v (by omega) hv
  obtain ⟨d, hd, _⟩ := hf.le hb (by rw [b1]; exact ha)
  rw [b2] at hd
  rw [hd]; rfl
theorem zm1 {r : Bool} {n : Nat} {L : List za} (hL : ∀ b ∈ L, okBd n b) (hc : Conn L n) {p : Int -> Int} (hp : SolD r L p) {u : Nat} (hu : u < n) {x : BF.X} (hf : BF.Fix (nI r) (nJ r) bW L x) {k : Nat} (hk : x = BF.rnds (nI r) (nJ r) bW L (xs1 u) k) :
  zmi r L n (u : Int) (fun v => (x v.toNat).getD 0) /\ ∀ v, v < n -> (x v).isSome = true := by
 have h0 : BF.le (x u) 0 := by
  rw [hk]
  exact BF.rnds_mono L ⟨0, by unfold xs1; rw [if_pos rfl], Int.le_refl _⟩ k
 have hall := ycs hc hu hf h0
 exact ⟨zyi hL hp hu hf (by rw [hk]; exact BF.Inv.rnds k) h0 hall, hall⟩
def farN : Int := 1125899906842624
structure DS where
 d : List Int
 c : Bool
def stpD (r : Bool) (b : za) (s : DS) : DS := if gt s.d (bdI r b) < farN /\ gt s.d (bdI r b) + b.w < gt s.d (bdJ r b) then ⟨z05 s.d (bdJ r b) (gt s.d (bdI r b) + b.w), true⟩ else s
def rndD (r : Bool) (L : List za) : Nat -> DS -> DS
 | 0, s => s
 | m + 1, s => stpD r (gt L (m : Int)) (rndD r L m s)
def runD (r : Bool) (L : List za) : Nat -> DS -> DS
 | 0, s => s
 | k + 1, s => if s.c = true then runD r L k (rndD r L L.length ⟨s.d, false⟩) else s
def cntF (d : List Int) : Nat := d.countP fun a => decide (a < farN)
structure DB (n c : Nat) (s : DS) : Prop where
 len : s.d.length = n
 hi : ∀ i : Int, 0 <= i -> i < (n : Int) -> gt s.d i = farN \/ gt s.d i + 1099511627776 <= 1099511627776 * (cntF s.d : Int)
 lo : ∀ i : Int, 0 <= i -> i < (n : Int) -> -(1099511627776 * (c : Int)) <= gt s.d i
theorem y9v (d : List Int) : cntF d <= d.length := List.countP_le_length
theorem DB.lt {n c : Nat} {s : DS} (h : DB n c s) (hn : n <= 512) {i : Int} (h0 : 0 <= i) (h1 : i < (n : Int)) : gt s.d i = farN \/ gt s.d i <= 561850441793536 := by
 have := y9v s.d
 rw [h.len] at this
 rcases h.hi i h0 h1 with h | h
 ·exact .inl h
 ·exact .inr (by omega)
theorem zuh {d : List Int} {i : Int} (h0 : 0 <= i) (h1 : i < (d.length : Int)) {v : Int} (hv : v < farN) : cntF (z05 d i v) = if gt d i < farN then cntF d else cntF d + 1 := by
 have hi : i.toNat < d.length := by omega
 have hg : d[i.toNat] = gt d i := by
  have := z2a hi
  rw [show ((i.toNat : Nat) : Int) = i by omega] at this
  exact this.symm
 unfold cntF z05
 rw [List.countP_set hi, hg]
 have hv' : decide (v < farN) = true := by simpa using hv
 rw [if_pos hv']
 by_cases hq : gt d i < farN
 ·have : 0 < List.countP (fun a => decide (a < farN)) d := List.countP_pos_iff.2 ⟨gt d i, z0h h0 h1, by simpa using hq⟩
  rw [if_pos (by simpa using hq), if_pos hq]
  omega
 ·rw [if_neg (by simpa using hq), if_neg hq]
  omega
theorem DB.up {n c e : Nat} {s : DS} (h : DB n c s) (he : c <= e) : DB n e s := ⟨h.len, h.hi, fun i h0 h1 => by have := h.lo i h0 h1; omega⟩
theorem DB.stp {n c : Nat} {s : DS} (h : DB n c s) (hn : n <= 512) {b : za} (hb : okBd n b) (r : Bool) : DB n (c + 1) (stpD r b s) := by
 obtain ⟨a1, a2, a3, a4, a5, a6⟩ := zfr hb r
 unfold stpD
 split
 ·rename_i hlt
  obtain ⟨l1, l2⟩ := hlt
  have hx := h.len
  have q1 := h.hi _ a1 a2
  have q2 := h.lt hn a1 a2
  have q3 := h.hi _ a3 a4
  have ql := h.lo _ a1 a2
  have hnew : gt s.d (bdI r b) + b.w < farN := by unfold farN at *; omega
  have hc := zuh (d := s.d) a3 (by rw [hx]; exact a4) hnew
  refine ⟨by rw [z0s]; exact hx, fun k h0 h1 => ?_, fun k h0 h1 => ?_⟩
  ·simp only [hc]
   rw [z0g _ _ _ _ a3 (by rw [hx]; exact a4) h0]
   have q4 := h.hi k h0 h1
   by_cases hk : k = bdJ r b
   ·rw [if_pos hk]
    right
    by_cases hq : gt s.d (bdJ r b) < farN
    ·rw [if_pos hq]; omega
    ·rw [if_neg hq]; unfold farN at *; omega
   ·rw [if_neg hk]
    rcases q4 with q4 | q4
    ·exact .inl q4
    ·right
     split <;> omega
  ·rw [z0g _ _ _ _ a3 (by rw [hx]; exact a4) h0]
   have q4 := h.lo k h0 h1
   split <;> omega
 ·exact h.up (by omega)
theorem DB.rnd {n c : Nat} {s : DS} (h : DB n c s) (hn : n <= 512) {L : List za} (hL : ∀ b ∈ L, okBd n b) (r : Bool) : ∀ m, m <= L.length -> DB n (c + m) (rndD r L m s)
 | 0, _ => h
 | m + 1, hm => (DB.rnd h hn hL r m (by omega)).stp hn (hL _ (z0h (by omega) (by omega))) r
def xd (d : List Int) : BF.X := fun v => if v < d.length then (if gt d (v : Int) < farN then some (gt d (v : Int)) else none) else none
theorem y9s {d : List Int} {i : Int} (h0 : 0 <= i) (h : i < (d.length : Int)) : xd d i.toNat = if gt d i < farN then some (gt d i) else none := by
 unfold xd
 rw [if_pos (by omega), show ((i.toNat : Nat) : Int) = i by omega]
theorem zwy {n c : Nat} (hn : n <= 512) {s : DS} (hB : DB n c s) {b : za} (hb : okBd n b) (r : Bool) :
  xd (stpD r b s).d = BF.rlx (nI r) (nJ r) bW (xd s.d) b /\ (BF.imp (nI r) (nJ r) bW (xd s.d) b = true -> (stpD r b s).c = true) /\ (BF.imp (nI r) (nJ r) bW (xd s.d) b = false -> stpD r b s = s) := by
 obtain ⟨a1, a2, a3, a4, a5, a6⟩ := zfr hb r
 have hx := hB.len
 have e1 : xd s.d (nI r b) = _ := y9s a1 (by rw [hx]; exact a2)
 have e2 : xd s.d (nJ r b) = _ := y9s a3 (by rw [hx]; exact a4)
 have q1 := hB.lt hn a1 a2
 have q2 := hB.lt hn a3 a4
 have ei : BF.imp (nI r) (nJ r) bW (xd s.d) b = decide (gt s.d (bdI r b) < farN /\ gt s.d (bdI r b) + b.w < gt s.d (bdJ r b)) := by
  unfold BF.imp
  rw [e1, e2]
  by_cases h1 : gt s.d (bdI r b) < farN
  ·rw [if_pos h1]
   by_cases h2 : gt s.d (bdJ r b) < farN
   ·rw [if_pos h2]
    exact decide_eq_decide.2 ⟨fun h => ⟨h1, h⟩, fun h => h.2⟩
   ·rw [if_neg h2]
    have : gt s.d (bdI r b) + b.w < gt s.d (bdJ r b) := by unfold farN at *; omega
    simp [BF.ltO, h1, this]
  ·rw [if_neg h1]; simp [h1]
 by_cases h : gt s.d (bdI r b) < farN /\ gt s.d (bdI r b) + b.w < gt s.d (bdJ r b)
 ·have er := ei
  rw [decide_eq_true h] at er
  obtain ⟨a, ha, hlt, hr⟩ := BF.rlx_imp er
  rw [e1, if_pos h.1, Option.some.injEq] at ha
  subst ha
  unfold stpD
  rw [if_pos h]
  refine ⟨?_, fun _ => rfl, fun q => (by rw [er] at q; cases q)⟩
  rw [hr]
  funext v
  unfold xd
  simp only [z0s]
  by_cases hv : v < s.d.length
  ·rw [if_pos hv, if_pos hv, z0g _ _ _ _ a3 (by rw [hx]; exact a4) (by omega)]
   by_cases e : v = nJ r b
   ·have e' : (v : Int) = bdJ r b := by unfold nJ at e; omega
    have hnew : gt s.d (bdI r b) + b.w < farN := by unfold farN at *; omega
    rw [if_pos e, if_pos e', if_pos hnew]; rfl
   ·have e' : ¬ (v : Int) = bdJ r b := by unfold nJ at e; omega
    rw [if_neg e, if_neg e']
  ·rw [if_neg hv, if_neg hv, if_neg (fun e => hv (by rw [hx, e]; unfold nJ; omega))]
 ·have er := ei
  rw [decide_eq_false h] at er
  unfold stpD
  rw [if_neg h]
  exact ⟨(BF.rlx_not er).symm, fun q => (by rw [er] at q; cases q), fun _ => rfl⟩
theorem zwi {n c : Nat} (hn : n <= 512) {s : DS} (hB : DB n c s) {L : List za} (hL : ∀ b ∈ L, okBd n b) (r : Bool) : ∀ m, m <= L.length -> xd (rndD r L m s).d = (L.take m).foldl (BF.rlx (nI r) (nJ r) bW) (xd s.d)
 | 0, _ => rfl
 | m + 1, hm => by
  have ih := zwi hn hB hL r m (by omega)
  rw [z0x L m (by omega), List.foldl_append, <- ih]
  exact (zwy hn (hB.rnd hn hL r m (by omega)) (hL _ (z0h (by omega) (by omega))) r).1
theorem y6r {n c : Nat} (hn : n <= 512) {s : DS} (hB : DB n c s) {L : List za} (hL : ∀ b ∈ L, okBd n b) (r : Bool) (hc : s.c = false) : ∀ m, m <= L.length -> (rndD r L m s).c = false -> rndD r L m s = s /\ ∀ k : Nat, k < m -> BF.imp (nI r) (nJ r) bW (xd s.d) (gt L (k : Int)) = false
 | 0, _, _ => ⟨rfl, fun k hk => by omega⟩
 | m + 1, hm, h => by
  obtain ⟨q1, q2, q3⟩ := zwy hn (hB.rnd hn hL r m (by omega)) (hL _ (z0h (l := L) (i := (m : Int)) (by omega) (by omega))) r
  change (stpD r (gt L (m : Int)) (rndD r L m s)).c = false at h
  cases hi : BF.imp (nI r) (nJ r) bW (xd (rndD r L m s).d) (gt L (m : Int)) with
  | true => rw [q2 hi] at h; cases h
  | false =>
   have e := q3 hi
   rw [e] at h
   obtain ⟨e2, h4⟩ := y6r hn hB hL r hc m (by omega) h
   refine ⟨by change stpD r (gt L (m : Int)) (rndD r L m s) = s; rw [e, e2], fun k hk => ?_⟩
   by_cases hkm : k = m
   ·subst hkm; rw [e2] at hi; exact hi
   ·exact h4 k (by omega)
theorem y0k {r : Bool} {n : Nat} (hn : n <= 512) {L : List za} (hL : ∀ b ∈ L, okBd n b) {x0 : BF.X} (F : BF.Feas (nI r) (nJ r) bW x0 L n) : ∀ (f k c : Nat) (s : DS), DB n c s -> xd s.d = BF.rnds (nI r) (nJ r) bW L x0 k -> (s.c = false -> BF.Fix (nI r) (nJ r) bW L (xd s.d)) -> n <= k + f ->
  (runD r L f s).d.length = n /\ BF.Fix (nI r) (nJ r) bW L (xd (runD r L f s).d) /\ (∃ k', xd (runD r L f s).d = BF.rnds (nI r) (nJ r) bW L x0 k') /\ DB n (c + f * L.length) (runD r L f s)
 | 0, k, c, s, hB, hx, hc, hk => by
  refine ⟨hB.len, fun b hb => ?_, ⟨k, hx⟩, hB.up (by omega)⟩
  have := BF.done F (k := k) (by omega) b hb
  rw [<- hx] at this
  exact this
 | f + 1, k, c, s, hB, hx, hc, hk => by
  unfold runD
  split
  ·have hB1 : DB n c ⟨s.d, false⟩ := ⟨hB.len, hB.hi, hB.lo⟩
   have hr := zwi hn hB1 hL r L.length (Nat.le_refl _)
   rw [List.take_length] at hr
   have hr2 : xd (rndD r L L.length ⟨s.d, false⟩).d = BF.rnds (nI r) (nJ r) bW L x0 (k + 1) := by
    rw [hr, show xd (DS.mk s.d false).d = _ from hx]; rfl
   have := y0k hn hL F f (k + 1) (c + L.length) _ (hB1.rnd hn hL r L.length (Nat.le_refl _)) hr2 (fun h => by
    obtain ⟨e1, e2⟩ := y6r hn hB1 hL r rfl L.length (Nat.le_refl _) h
    intro b hb
    rw [e1]
    obtain ⟨i, hi, rfl⟩ := zc9 hb
    exact e2 i hi) (by omega)
   refine ⟨this.1, this.2.1, this.2.2.1, this.2.2.2.up ?_⟩
   rw [Nat.add_mul, Nat.one_mul]; omega
  ·rename_i h
   exact ⟨hB.len, hc (by cases hq : s.c with | true => exact absurd hq h | false => rfl), ⟨k, hx⟩, hB.up (by omega)⟩
def d0 (n : Nat) (u : Int) : List Int := z05 (List.replicate n farN) u 0
theorem y3n {n : Nat} {u i : Int} (hu : 0 <= u) (hu' : u < (n : Int)) (h0 : 0 <= i) (h1 : i < (n : Int)) : gt (d0 n u) i = if i = u then 0 else farN := by
 unfold d0
 rw [z0g _ _ _ _ hu (by simpa using hu') h0, z1i _ _ _ h0 h1]
theorem y0j (n : Nat) (u : Int) : (d0 n u).length = n := by simp [d0, z0s]
theorem yd7 {n : Nat} {u : Int} (hu : 0 <= u) (hu' : u < (n : Int)) : xd (d0 n u) = xs1 u.toNat := by
 funext v
 unfold xd xs1
 rw [y0j]
 by_cases hv : v < n
 ·rw [if_pos hv, y3n hu hu' (by omega) (by omega)]
  by_cases e : (v : Int) = u
  ·rw [if_pos e, if_pos (by omega : v = u.toNat), if_pos (by decide)]
  ·rw [if_neg e, if_neg (by omega : ¬ v = u.toNat), if_neg (by decide)]
 ·rw [if_neg hv, if_neg (by omega)]
theorem y9p {n : Nat} {u : Int} (hu : 0 <= u) (hu' : u < (n : Int)) : DB n 0 ⟨d0 n u, true⟩ := by
 have hc : cntF (d0 n u) = 1 := by
  unfold d0
  rw [zuh hu (by simpa using hu') (by decide), z1i _ _ _ hu hu', if_neg (by decide)]
  have : cntF (List.replicate n farN) = 0 := List.countP_eq_zero.2 fun a ha => by
   rw [List.mem_replicate] at ha
   rw [ha.2]; decide
  rw [this]
 refine ⟨y0j n u, fun i h0 h1 => ?_, fun i h0 h1 => ?_⟩
 ·simp only [hc]
  rw [y3n hu hu' h0 h1]
  split
  ·right; omega
  ·left; rfl
 ·simp only
  rw [y3n hu hu' h0 h1]
  split
  ·omega
  ·unfold farN; omega
theorem zm9 {r : Bool} {n : Nat} (hn : n <= 512) {L : List za} (hL : ∀ b ∈ L, okBd n b) (hc : Conn L n) {p : Int -> Int} (hp : SolD r L p) {u : Int} (hu : 0 <= u) (hu' : u < (n : Int)) :
  (runD r L n ⟨d0 n u, true⟩).d.length = n /\ zmi r L n u (gt (runD r L n ⟨d0 n u, true⟩).d) := by
 have F := y9z hL hp (u := u.toNat) (by omega)
 obtain ⟨h1, h2, ⟨k, h3⟩, h4⟩ := y0k hn hL F n 0 0 ⟨d0 n u, true⟩ (y9p hu hu') (yd7 hu hu') (fun h => by cases h) (by omega)
 obtain ⟨g1, g2⟩ := zm1 hL hc hp (u := u.toNat) (by omega) h2 h3
 refine ⟨h1, ?_⟩
 have key : ∀ v : Int, 0 <= v -> v < (n : Int) -> ((xd (runD r L n ⟨d0 n u, true⟩).d) v.toNat).getD 0 = gt (runD r L n ⟨d0 n u, true⟩).d v := fun v q0 q1 => by
  have := g2 v.toNat (by omega)
  have e := y9s (d := (runD r L n ⟨d0 n u, true⟩).d) q0 (by rw [h1]; exact q1)
  rw [e] at this ⊢
  split
  ·rfl
  ·rename_i hq; rw [if_neg hq] at this; cases this
 rw [show ((u.toNat : Nat) : Int) = u by omega] at g1
 refine ⟨fun b hb => ?_, fun q hq v v0 v1 => ?_, ?_⟩
 ·obtain ⟨a1, a2, a3, a4, _, _⟩ := zfr (hL b hb) r
  have := g1.sat b hb
  rw [key _ a1 a2, key _ a3 a4] at this
  exact this
 ·have := g1.top q hq v v0 v1
  rw [key _ v0 v1] at this
  exact this
 ·have := g1.zero
  rw [key _ hu hu'] at this
  exact this
end Px
end
section
namespace Px
open Go
set_option linter.unusedVariables false
set_option linter.unusedSimpArgs false
structure TS where
 d : List Int
 kn : List Bool
 z : Int
def stpT (b : za) (i : Int) (s : TS) : TS := if (!(gt s.kn b.i) || ((gt s.kn b.j) && decide (gt s.d b.j <= gt s.d b.i + b.w))) = true then s else ⟨z05 s.d b.j (gt s.d b.i + b.w), z05 s.kn b.j true, i⟩
def rndT (L : List za) : Nat -> TS -> TS
 | 0, s => s
 | m + 1, s => stpT (gt L (m : Int)) m (rndT L m s)
def runT (L : List za) : Nat -> TS -> TS
 | 0, s => s
 | k + 1, s => if (rndT L L.length ⟨s.d, s.kn, -1⟩).z < 0 then rndT L L.length ⟨s.d, s.kn, -1⟩ else runT L k (rndT L L.length ⟨s.d, s.kn, -1⟩)
structure TiB (n c : Nat) (s : TS) : Prop where
 ld : s.d.length = n
 lk : s.kn.length = n
 bd : ∀ i : Int, 0 <= i -> i < (n : Int) -> -(1099511627776 * (c : Int)) <= gt s.d i /\ gt s.d i <= 1099511627776 * (c : Int)
theorem TiB.up {n c e : Nat} {s : TS} (h : TiB n c s) (he : c <= e) : TiB n e s := ⟨h.ld, h.lk, fun i h0 h1 => by have := h.bd i h0 h1; omega⟩
theorem TiB.stp {n c : Nat} {s : TS} (h : TiB n c s) {b : za} (hb : okBd n b) (i : Int) : TiB n (c + 1) (stpT b i s) := by
 obtain ⟨a1, a2, a3, a4, a5, a6⟩ := hb
 unfold stpT
 split
 ·exact h.up (by omega)
 ·refine ⟨by rw [z0s]; exact h.ld, by rw [z0s]; exact h.lk, fun k h0 h1 => ?_⟩
  have q1 := h.bd b.i a1 a2
  have q2 := h.bd k h0 h1
  rw [z0g _ _ _ _ a3 (by rw [h.ld]; exact a4) h0]
  split <;> omega
theorem TiB.rnd {n c : Nat} {s : TS} (h : TiB n c s) {L : List za} (hL : ∀ b ∈ L, okBd n b) : ∀ m, m <= L.length -> TiB n (c + m) (rndT L m s)
 | 0, _ => h
 | m + 1, hm => (TiB.rnd h hL m (by omega)).stp (hL _ (z0h (by omega) (by omega))) m
def xk (s : TS) : BF.X := fun v => if v < s.d.length then (if gt s.kn (v : Int) = true then some (gt s.d (v : Int)) else none) else none
theorem y4o {s : TS} {i : Int} (h0 : 0 <= i) (h : i < (s.d.length : Int)) : xk s i.toNat = if gt s.kn i = true then some (gt s.d i) else none := by
 unfold xk
 rw [if_pos (by omega), show ((i.toNat : Nat) : Int) = i by omega]
theorem y0f {n c : Nat} {s : TS} (hB : TiB n c s) {b : za} (hb : okBd n b) (i : Int) :
  xk (stpT b i s) = BF.rlx (nI false) (nJ false) bW (xk s) b /\ (BF.imp (nI false) (nJ false) bW (xk s) b = true -> (stpT b i s).z = i) /\ (BF.imp (nI false) (nJ false) bW (xk s) b = false -> stpT b i s = s) := by
 have hb2 := hb
 obtain ⟨a1, a2, a3, a4, a5, a6⟩ := hb
 have hx := hB.ld
 have e1 : xk s (nI false b) = _ := y4o (i := b.i) a1 (by rw [hx]; exact a2)
 have e2 : xk s (nJ false b) = _ := y4o (i := b.j) a3 (by rw [hx]; exact a4)
 have ei : BF.imp (nI false) (nJ false) bW (xk s) b = !(!(gt s.kn b.i) || ((gt s.kn b.j) && decide (gt s.d b.j <= gt s.d b.i + b.w))) := by
  unfold BF.imp
  rw [e1, e2]
  cases h1 : gt s.kn b.i with
  | false => rfl
  | true =>
   cases h2 : gt s.kn b.j with
   | false => simp [BF.ltO]
   | true =>
    simp only [if_true]
    show decide (gt s.d b.i + b.w < gt s.d b.j) = !(decide (gt s.d b.j <= gt s.d b.i + b.w))
    rw [<- decide_not]
    exact decide_eq_decide.2 (by omega)
 cases h : (!(gt s.kn b.i) || ((gt s.kn b.j) && decide (gt s.d b.j <= gt s.d b.i + b.w))) with
 | true =>
  rw [h] at ei
  unfold stpT
  rw [if_pos h]
  exact ⟨(BF.rlx_not ei).symm, fun q => (by rw [ei] at q; cases q), fun _ => rfl⟩
 | false =>
  rw [h] at ei
  obtain ⟨a, ha, hlt, hr⟩ := BF.rlx_imp ei
  have hki : gt s.kn b.i = true := by
   cases hk : gt s.kn b.i with
   | true => rfl
   | false => rw [hk] at h; cases h
  rw [e1, if_pos hki, Option.some.injEq] at ha
  subst ha
  unfold stpT
  rw [if_neg (by rw [h]; simp)]
  refine ⟨?_, fun _ => rfl, fun q => (by rw [ei] at q; cases q)⟩
  rw [hr]
  funext v
  unfold xk
  simp only [z0s]
  by_cases hv : v < s.d.length
  ·rw [if_pos hv, if_pos hv, z0g s.kn _ _ _ a3 (by rw [hB.lk]; exact a4) (by omega), z0g s.d _ _ _ a3 (by rw [hx]; exact a4) (by omega)]
   by_cases e : v = nJ false b
   ·have e' : (v : Int) = b.j := by unfold nJ bdJ at e; simp at e; omega
    rw [if_pos e, if_pos e', if_pos e', if_pos rfl]; rfl
   ·have e' : ¬ (v : Int) = b.j := by unfold nJ bdJ at e; simp at e; omega
    rw [if_neg e, if_neg e', if_neg e']
  ·rw [if_neg hv, if_neg hv, if_neg (fun e => hv (by rw [hx, e]; unfold nJ bdJ; simp; omega))]
theorem y0m {n c : Nat} {s : TS} (hB : TiB n c s) {L : List za} (hL : ∀ b ∈ L, okBd n b) : ∀ m, m <= L.length -> xk (rndT L m s) = (L.take m).foldl (BF.rlx (nI false) (nJ false) bW) (xk s)
 | 0, _ => rfl
 | m + 1, hm => by
  have ih := y0m hB hL m (by omega)
  rw [z0x L m (by omega), List.foldl_append, <- ih]
  exact (y0f (hB.rnd hL m (by omega)) (hL _ (z0h (by omega) (by omega))) m).1
theorem y5y {n c : Nat} {s : TS} (hB : TiB n c s) {L : List za} (hL : ∀ b ∈ L, okBd n b) : ∀ m, m <= L.length -> (rndT L m s).z < 0 -> rndT L m s = s /\ ∀ k : Nat, k < m -> BF.imp (nI false) (nJ false) bW (xk s) (gt L (k : Int)) = false
 | 0, _, _ => ⟨rfl, fun k hk => by omega⟩
 | m + 1, hm, h => by
  obtain ⟨q1, q2, q3⟩ := y0f (hB.rnd hL m (by omega)) (hL _ (z0h (l := L) (i := (m : Int)) (by omega) (by omega))) m
  change (stpT (gt L (m : Int)) m (rndT L m s)).z < 0 at h
  cases hi : BF.imp (nI false) (nJ false) bW (xk (rndT L m s)) (gt L (m : Int)) with
  | true => rw [q2 hi] at h; omega
  | false =>
   have e := q3 hi
   rw [e] at h
   obtain ⟨e2, h4⟩ := y5y hB hL m (by omega) h
   refine ⟨by change stpT (gt L (m : Int)) m (rndT L m s) = s; rw [e, e2], fun k hk => ?_⟩
   by_cases hkm : k = m
   ·subst hkm; rw [e2] at hi; exact hi
   ·exact h4 k (by omega)
theorem zsp {n : Nat} {L : List za} (hL : ∀ b ∈ L, okBd n b) {x0 : BF.X} (F : BF.Feas (nI false) (nJ false) bW x0 L n) : ∀ (f k c : Nat) (s : TS), TiB n c s -> xk s = BF.rnds (nI false) (nJ false) bW L x0 k -> n <= k + f ->
  TiB n (c + f * L.length) (runT L f s) /\ BF.Fix (nI false) (nJ false) bW L (xk (runT L f s)) /\ ∃ k', xk (runT L f s) = BF.rnds (nI false) (nJ false) bW L x0 k'
 | 0, k, c, s, hB, hx, hk => by
  refine ⟨hB.up (by omega), fun b hb => ?_, k, hx⟩
  have := BF.done F (k := k) (by omega) b hb
  rw [<- hx] at this
  exact this
 | f + 1, k, c, s, hB, hx, hk => by
  have hB1 : TiB n c ⟨s.d, s.kn, -1⟩ := ⟨hB.ld, hB.lk, hB.bd⟩
  have hr := y0m hB1 hL L.length (Nat.le_refl _)
  rw [List.take_length] at hr
  have hr2 : xk (rndT L L.length ⟨s.d, s.kn, -1⟩) = BF.rnds (nI false) (nJ false) bW L x0 (k + 1) := by
   rw [hr, show xk (TS.mk s.d s.kn (-1)) = _ from hx]; rfl
  have hB2 := hB1.rnd hL L.length (Nat.le_refl _)
  unfold runT
  split
  ·rename_i hz
   obtain ⟨e1, e2⟩ := y5y hB1 hL L.length (Nat.le_refl _) hz
   refine ⟨hB2.up (by rw [Nat.add_mul, Nat.one_mul]; omega), fun b hb => ?_, k + 1, hr2⟩
   rw [e1]
   obtain ⟨i, hi, rfl⟩ := zc9 hb
   exact e2 i hi
  ·have := zsp hL F f (k + 1) (c + L.length) _ hB2 hr2 (by omega)
   exact ⟨this.1.up (by rw [Nat.add_mul, Nat.one_mul]; omega), this.2⟩
def t0 (n : Nat) (u : Int) : TS := ⟨List.replicate n 0, z05 (List.replicate n false) u true, -1⟩
theorem y7j {n : Nat} {u : Int} : TiB n 0 (t0 n u) := ⟨by simp [t0], by simp [t0, z0s], fun i h0 h1 => by rw [show gt (t0 n u).d i = 0 from z1i n 0 i h0 h1]; omega⟩
theorem ycd {n : Nat} {u : Int} (hu : 0 <= u) (hu' : u < (n : Int)) : xk (t0 n u) = xs1 u.toNat := by
 funext v
 unfold xk xs1 t0
 simp only [List.length_replicate]
 by_cases hv : v < n
 ·rw [if_pos hv, z0g _ _ _ _ hu (by simpa using hu') (by omega), z1i _ _ _ (by omega) (by omega), z1i _ _ _ (by omega) (by omega)]
  by_cases e : (v : Int) = u
  ·rw [if_pos e, if_pos (by omega : v = u.toNat), if_pos rfl]
  ·rw [if_neg e, if_neg (by omega : ¬ v = u.toNat), if_neg (by simp)]
 ·rw [if_neg hv, if_neg (by omega)]
theorem zvo {n : Nat} {L : List za} (hL : ∀ b ∈ L, okBd n b) (hc : Conn L n) {p : Int -> Int} (hp : SolD false L p) {u : Int} (hu : 0 <= u) (hu' : u < (n : Int)) :
  (runT L n (t0 n u)).d.length = n /\ (runT L n (t0 n u)).kn.length = n /\ zmi false L n u (gt (runT L n (t0 n u)).d) /\ ∀ v : Int, 0 <= v -> v < (n : Int) -> gt (runT L n (t0 n u)).kn v = true := by
 have F := y9z hL hp (u := u.toNat) (by omega)
 obtain ⟨h1, h2, k, h3⟩ := zsp hL F n 0 0 (t0 n u) y7j (ycd hu hu') (by omega)
 obtain ⟨g1, g2⟩ := zm1 hL hc hp (u := u.toNat) (by omega) h2 h3
 have kn : ∀ v : Int, 0 <= v -> v < (n : Int) -> gt (runT L n (t0 n u)).kn v = true := fun v q0 q1 => by
  have := g2 v.toNat (by omega)
  rw [y4o q0 (by rw [h1.ld]; exact q1)] at this
  split at this
  ·assumption
  ·cases this
 have key : ∀ v : Int, 0 <= v -> v < (n : Int) -> (xk (runT L n (t0 n u)) v.toNat).getD 0 = gt (runT L n (t0 n u)).d v := fun v q0 q1 => by
  rw [y4o q0 (by rw [h1.ld]; exact q1), if_pos (kn v q0 q1)]; rfl
 rw [show ((u.toNat : Nat) : Int) = u by omega] at g1
 refine ⟨h1.ld, h1.lk, ⟨fun b hb => ?_, fun q hq v v0 v1 => ?_, ?_⟩, kn⟩
 ·obtain ⟨a1, a2, a3, a4, _, _⟩ := zfr (hL b hb) false
  have := g1.sat b hb
  rw [key _ a1 a2, key _ a3 a4] at this
  exact this
 ·have := g1.top q hq v v0 v1
  rw [key _ v0 v1] at this
  exact this
 ·have := g1.zero
  rw [key _ hu hu'] at this
  exact this
end Px
end
section
namespace Px
open Go
set_option linter.unusedVariables false
set_option linter.unusedSimpArgs false
set_option maxHeartbeats 4000000
def zxa (fit : Bool) (x : Part) : Bool := !(((((decide ((x.kind : Int) < 1)) || (decide ((3 : Int) < x.kind))) || (decide ((x.serial : Int) < 0))) || (decide ((1073741824 : Int) < x.serial))) || (x.fitted && (!fit)))
theorem zaj (φ : Nat) (l : List Part) (fit : Bool) (h : l.length <= 1000) (hφ : 1000 < φ) : zdi φ l fit = some (l.all (zxa fit) && decide ((l.length : Int) <= 16), ()) := by
 unfold zdi
 rw [zfm (fun n i => z5v φ n l fit l (l.length : Int) i) (some (decide ((l.length : Int) <= 16), ())) (some (false, ())) l (fun x => !zxa fit x) ?_ ?_ φ (by omega)]
 ·simp only [List.any_eq_not_all_not, Bool.not_not]
  cases l.all (zxa fit) <;> rfl
 ·intro n i hi
  rw [z5v, if_pos (by simp; omega), z7 ⟨by omega, by omega⟩, W_id (by omega) (by omega)]
  show _ = bif !!_ then _ else _
  rw [Bool.not_not]
  cases (((((decide (((gt l i).kind : Int) < 1)) || (decide ((3 : Int) < (gt l i).kind))) || (decide (((gt l i).serial : Int) < 0))) || (decide ((1073741824 : Int) < (gt l i).serial))) || ((gt l i).fitted && (!fit))) <;> rfl
 ·intro n; rw [z5v, if_neg (by simp)]
structure zp2 (p : Pool) (it : Item) : Prop where
 kind : 1 <= it.kind /\ it.kind <= 15
 wagon : it.kind <= 9 -> 0 <= it.wagon /\ it.wagon < (p.fleet.wagons.length : Int)
 read : it.kind = 1 -> 0 <= it.other /\ it.other < (p.readers.length : Int)
 place : it.kind = 2 \/ it.kind = 3 \/ it.kind = 4 \/ it.kind = 6 \/ it.kind = 7 \/ it.kind = 9 -> 0 <= it.place /\ it.place < (p.network.places.length : Int)
 from_ : it.kind <= 9 -> 0 <= it.from_ /\ it.from_ <= 1073741824
 to : it.kind = 2 \/ it.kind = 9 -> it.from_ <= it.to /\ it.to <= 1073741824
theorem zv5 {ρ : Type} (c q : Bool) (K : Bool -> Option ρ) : ((z0l (default, ()) (c = true) (some (q, ()))).bind fun y => K (c && y.1)) = K (c && q) := by
 unfold z0l
 cases c <;> rfl
theorem zb {x : Int} : (x == 0) = true ↔ x = 0 := by simp
theorem zz4 (p : Pool) (it : Item) (hparts : it.parts.length <= 1000) (hw : p.fleet.wagons.length <= 4096) (hr : p.readers.length <= 256) (hs : p.shippers.length <= 256) (hpl : p.network.places.length <= 512) (ht : p.fleet.types.length <= 32) :
  ∃ b, (∀ φ, 1000 < φ -> z2l φ p it = some (b, ())) /\ (b = true -> zp2 p it) := by
 have w1 : W ((p.fleet.wagons.length : Int) - 1) = (p.fleet.wagons.length : Int) - 1 := W_id (by omega) (by omega)
 have w2 : W ((p.readers.length : Int) - 1) = (p.readers.length : Int) - 1 := W_id (by omega) (by omega)
 have w3 : W ((p.shippers.length : Int) - 1) = (p.shippers.length : Int) - 1 := W_id (by omega) (by omega)
 have w4 : W ((p.network.places.length : Int) - 1) = (p.network.places.length : Int) - 1 := W_id (by omega) (by omega)
 have w5 : W ((p.fleet.types.length : Int) - 1) = (p.fleet.types.length : Int) - 1 := W_id (by omega) (by omega)
 have hm : ∀ x z : Int, max2 x 0 <= z ↔ x <= z /\ 0 <= z := by intro x z; unfold max2; split <;> omega
 by_cases hk0 : it.kind < 1
 ·refine ⟨false, fun φ hφ => ?_, fun h => by cases h⟩
  unfold z2l zj
  rw [if_pos (by simp; omega), if_pos (by simpa using hk0)]
  simp
 by_cases hk16 : 15 < it.kind
 ·refine ⟨false, fun φ hφ => ?_, fun h => by cases h⟩
  have e : ∀ k : Int, k <= 15 -> (it.kind == k) = false := fun k hk => by simp; omega
  unfold z2l
  rw [if_neg (by simp; omega)]
  simp [e, z38, zj]
 have hcases : it.kind = 1 \/ it.kind = 2 \/ it.kind = 3 \/ it.kind = 4 \/ it.kind = 5 \/ it.kind = 6 \/ it.kind = 7 \/ it.kind = 8 \/ it.kind = 9 \/ it.kind = 10 \/ it.kind = 11 \/ it.kind = 12 \/ it.kind = 13 \/ it.kind = 14 \/ it.kind = 15 := by omega
 by_cases hin : 0 <= it.place /\ it.place < (p.network.places.length : Int)
 ·have e1 : (decide ((0 : Int) <= it.place) && decide ((it.place : Int) < (p.network.places.length : Int))) = true := by simp [hin]
  rcases hcases with hk | hk | hk | hk | hk | hk | hk | hk | hk | hk | hk | hk | hk | hk | hk
  case inr.inr.inr.inr.inr.inr.inr.inr.inl =>
   refine ⟨_, fun φ hφ => by
    unfold z2l
    simp only [hk, e1, z5a, z7 hin, w1, w2, w3, w4, w5, zaj φ _ _ hparts hφ, Option.bind_some, Int.reduceLE, Int.reduceLT, Int.reduceBEq, decide_true, decide_false, if_true, Bool.false_eq_true, if_false]
    refine (zv5 _ _ (fun b => zj φ ⟨_, _, b⟩)).trans ?_
    unfold zj
    rfl, fun hb => ?_⟩
   simp only [Bool.and_eq_true, decide_eq_true_eq, hm, beq_iff_eq, bne_iff_ne, ne_eq, Bool.or_eq_true] at hb
   constructor <;> omega
  case inr.inr.inr.inr.inr.inr.inr.inr.inr.inl =>
   refine ⟨_, fun φ hφ => by
    unfold z2l
    simp only [hk, e1, z7 hin, w1, w2, w3, w4, w5, zaj φ _ _ hparts hφ, Option.bind_some, Int.reduceLE, Int.reduceLT, Int.reduceBEq, decide_true, decide_false, if_true, Bool.false_eq_true, if_false]
    refine (zv5 _ _ (fun b => zj φ ⟨_, _, b⟩)).trans ?_
    unfold zj
    rfl, fun hb => ?_⟩
   constructor <;> omega
  all_goals
   refine ⟨_, fun φ hφ => by
    unfold z2l
    simp only [hk, e1, z6q, z5d, z4x, z57, z4z, z4u, z38, z52, zj, z7 hin, w1, w2, w3, w4, w5, Option.bind_some, Int.reduceLE, Int.reduceLT, Int.reduceBEq, Int.reduceBNe, Int.reduceNe, decide_true, decide_false, if_true, Bool.false_eq_true, if_false]
    rfl, fun hb => ?_⟩
   simp only [Bool.and_eq_true, decide_eq_true_eq, hm, beq_iff_eq, bne_iff_ne, ne_eq, Bool.or_eq_true] at hb
   constructor <;> omega
 ·have e1 : (decide ((0 : Int) <= it.place) && decide ((it.place : Int) < (p.network.places.length : Int))) = false := by
   rw [<- Bool.not_eq_true]; simpa using hin
  rcases hcases with hk | hk | hk | hk | hk | hk | hk | hk | hk | hk | hk | hk | hk | hk | hk
  case inr.inr.inr.inr.inr.inr.inr.inr.inl =>
   refine ⟨_, fun φ hφ => by
    unfold z2l
    simp only [hk, e1, z5a, w1, w2, w3, w4, w5, zaj φ _ _ hparts hφ, Option.bind_some, Int.reduceLE, Int.reduceLT, Int.reduceBEq, decide_true, decide_false, if_true, Bool.false_eq_true, if_false]
    refine (zv5 _ _ (fun b => zj φ ⟨_, _, b⟩)).trans ?_
    unfold zj
    rfl, fun hb => ?_⟩
   simp at hb
  case inr.inr.inr.inr.inr.inr.inr.inr.inr.inl =>
   refine ⟨_, fun φ hφ => by
    unfold z2l
    simp only [hk, e1, w1, w2, w3, w4, w5, zaj φ _ _ hparts hφ, Option.bind_some, Int.reduceLE, Int.reduceLT, Int.reduceBEq, decide_true, decide_false, if_true, Bool.false_eq_true, if_false]
    refine (zv5 _ _ (fun b => zj φ ⟨_, _, b⟩)).trans ?_
    unfold zj
    rfl, fun hb => ?_⟩
   constructor <;> omega
  all_goals
   refine ⟨_, fun φ hφ => by
    unfold z2l
    simp only [hk, e1, z6q, z5d, z4x, z57, z4z, z4u, z38, z52, zj, w1, w2, w3, w4, w5, Option.bind_some, Int.reduceLE, Int.reduceLT, Int.reduceBEq, Int.reduceBNe, Int.reduceNe, decide_true, decide_false, if_true, Bool.false_eq_true, if_false]
    rfl, fun hb => ?_⟩
   simp only [Bool.and_eq_true, decide_eq_true_eq, hm, beq_iff_eq, bne_iff_ne, ne_eq, Bool.or_eq_true] at hb
   first | (constructor <;> omega) | (simp at hb; done) | (simp at hb; constructor <;> omega)
def zdu (p : Pool) (it : Item) : Bool := ((z2l 2000 p it).getD (false, ())).1
def y1x (it : Item) : Bool := ((z69 0 it).getD (false, ())).1
theorem zqc (φ : Nat) (it : Item) : z69 φ it = some (y1x it, ()) := by
 unfold y1x z69
 split <;> rfl
def zej (p : Pool) (it : Item) : Bool := y1x it && zdu p it
theorem zqt {p : Pool} (hc : z01 p = 0) {it : Item} (hparts : it.parts.length <= 1000) : (∀ φ, 1000 < φ -> z2l φ p it = some (zdu p it, ())) /\ (zdu p it = true -> zp2 p it) := by
 obtain ⟨hn, hf, h1, h2, h3, hb⟩ := z2k hc
 obtain ⟨n1, n2, _, _⟩ := zba hn
 obtain ⟨f1, f2, _⟩ := z91 hf
 obtain ⟨b, hφ, hok⟩ := zz4 p it hparts f2 h1 h2 n1 f1
 have : zdu p it = b := by unfold zdu; rw [hφ 2000 (by omega)]; rfl
 rw [this]
 exact ⟨hφ, hok⟩
theorem zqu (φ : Nat) (hφ : 800000 < φ) {p : Pool} (hc : z01 p = 0) {it : Item} (hparts : it.parts.length <= 1000) : zfk φ p it = some (bif zej p it then 0 else 110, ()) := by
 unfold zfk zej
 rw [z42 φ hφ, Option.bind_some, if_neg (by simp [hc]), zqc, Option.bind_some]
 cases y1x it with
 | false => rfl
 | true =>
  rw [gz_t (by simp), (zqt hc hparts).1 φ (by omega), Option.bind_some]
  cases zdu p it <;> rfl
theorem zcm {p : Pool} (hc : z01 p = 0) {it : Item} (hparts : it.parts.length <= 1000) (h : zej p it = true) : zp2 p it := by
 simp only [zej, Bool.and_eq_true] at h
 exact (zqt hc hparts).2 h.2
end Px
end
section
namespace Px
open Go
set_option linter.unusedVariables false
set_option linter.unusedSimpArgs false
theorem zm7 {n b : Nat} (h : n <= 100000) (hb : b <= 1000) : fits n b := by
 unfold fits
 have : n * b <= 100000 * 1000 := Nat.mul_le_mul h hb
 omega
def z3x (r : ze) (place time : Int) : zl := ⟨r.item.wagon, place, r.ref, false, time, time⟩
def evs (p : Pool) (r : ze) (i : Int) : List z6 :=
 if r.item.kind = 1 then [⟨z3x r (gt p.readers r.item.other).place r.item.from_, i, false, false, r.item.other⟩]
 else if r.item.kind = 2 \/ r.item.kind = 9 then [⟨z3x r r.item.place r.item.from_, i, false, true, -1⟩, ⟨z3x r r.item.place r.item.to, i, true, true, -1⟩]
 else if r.item.kind = 3 \/ r.item.kind = 4 \/ r.item.kind = 6 \/ r.item.kind = 7 then [⟨z3x r r.item.place r.item.from_, i, false, false, -1⟩] else []
theorem zt1 (φ : Nat) (p : Pool) (r : ze) (i : Int) (h : r.item.kind = 1 -> 0 <= r.item.other /\ r.item.other < (p.readers.length : Int)) : z10 φ p r i = some (evs p r i, ()) := by
 by_cases h1 : r.item.kind = 1
 ·have h' := h h1
  simp [z10, evs, h1, z7 h', z03, z3x]
 by_cases h2 : r.item.kind = 2
 ·simp [z10, evs, h2, z09, z24, z26, z03, z3x]
 by_cases h9 : r.item.kind = 9
 ·simp [z10, evs, h9, z09, z24, z26, z03, z3x]
 by_cases h3 : r.item.kind = 3
 ·simp [z10, evs, h3, z09, z08, z03, z3x]
 by_cases h4 : r.item.kind = 4
 ·simp [z10, evs, h4, z09, z08, z03, z3x]
 by_cases h6 : r.item.kind = 6
 ·simp [z10, evs, h6, z09, z08, z03, z3x]
 by_cases h7 : r.item.kind = 7
 ·simp [z10, evs, h7, z09, z08, z03, z3x]
 ·simp [z10, evs, h1, h2, h9, h3, h4, h6, h7, z09, z08]
theorem z8x {p : Pool} {r : ze} {i : Int} {x : z6} (h : x ∈ evs p r i) : x.report = i /\ x.visit.wagon = r.item.wagon /\ x.visit.ref = r.ref := by
 unfold evs at h
 split at h
 ·simp only [List.mem_singleton] at h; subst h; exact ⟨rfl, rfl, rfl⟩
 ·split at h
  ·simp only [List.mem_cons, List.not_mem_nil, or_false] at h
   rcases h with rfl | rfl <;> exact ⟨rfl, rfl, rfl⟩
  ·split at h
   ·simp only [List.mem_singleton] at h; subst h; exact ⟨rfl, rfl, rfl⟩
   ·cases h
theorem zsg (p : Pool) (r : ze) (i : Int) : (evs p r i).length <= 2 := by
 unfold evs
 split
 ·simp
 ·split
  ·simp
  ·split <;> simp
theorem yc0 (p : Pool) (r : ze) (i : Int) : (evs p r i).Pairwise fun a b => a.report ≠ b.report \/ a.second ≠ b.second := by
 unfold evs
 split
 ·simp
 ·split
  ·simp
  ·split <;> simp
def cntN (p : Pool) (l : List ze) (n : Nat) : List Int := ((List.range n).filter fun (i : Nat) => zej p (gt l (i : Int)).item).map fun (i : Nat) => (i : Int)
def cnt (p : Pool) (l : List ze) : List Int := cntN p l l.length
theorem zy8 (p : Pool) (l : List ze) (n : Nat) : cntN p l (n + 1) = cntN p l n ++ (bif zej p (gt l (n : Int)).item then [(n : Int)] else []) := by
 unfold cntN
 rw [List.range_succ, List.filter_append, List.map_append]
 congr 1
 cases h : zej p (gt l (n : Int)).item <;> simp [h]
theorem zgk (p : Pool) (l : List ze) (n : Nat) : (cntN p l n).length <= n := by
 unfold cntN
 rw [List.length_map]
 exact Nat.le_trans (List.length_filter_le _ _) (by simp)
theorem y0l {p : Pool} {l : List ze} {i : Int} (h : i ∈ cnt p l) : 0 <= i /\ i < (l.length : Int) /\ zej p (gt l i).item = true := by
 simp only [cnt, cntN, List.mem_map, List.mem_filter, List.mem_range] at h
 obtain ⟨n, ⟨h1, h2⟩, rfl⟩ := h
 exact ⟨by omega, by omega, h2⟩
theorem yat (p : Pool) (l : List ze) : (cnt p l).Pairwise (· < ·) := by
 unfold cnt cntN
 rw [List.pairwise_map]
 refine (List.pairwise_lt_range.filter _).imp ?_
 intro a b h
 omega
structure FewL (l : List ze) : Prop where
 len : l.length <= 1000
 parts : ∀ r ∈ l, r.item.parts.length <= 1000
theorem FewL.gt {l : List ze} (h : FewL l) {i : Int} (h0 : 0 <= i) (hi : i < (l.length : Int)) : (Px.gt l i).item.parts.length <= 1000 := h.parts _ (z0h h0 hi)
theorem zwg (φ : Nat) (hφ : 800000 < φ) {p : Pool} (hc : z01 p = 0) {l : List ze} (hl : FewL l) : z8n φ p l = some (cnt p l, ()) := by
 have h1 := hl.len
 unfold z8n
 refine z0j (fun n i acc => z2b φ n l (l.length : Int) i p acc) l.length (fun i acc => acc = cntN p l i) (fun o => o = some (cnt p l, ())) ?_ ?_ φ [] rfl (by omega)
 ·intro n i acc hi hacc hs
  rw [z2b, if_pos (by simp; omega), z7 ⟨by omega, by omega⟩, zqu φ hφ hc (hl.gt (by omega) (by omega)), Option.bind_some, W_id (by omega) (by omega)]
  have hs' := hs (cntN p l (i + 1)) rfl
  rw [zy8] at hs'
  cases h : zej p (gt l (i : Int)).item with
  | true =>
   rw [h] at hs'
   rw [if_pos (by rfl), z7 (zm7 (by have := zgk p l i; rw [hacc]; simp; omega) (by omega)), hacc]
   exact hs'
  | false =>
   rw [h] at hs'
   simp only [cond_false, List.append_nil] at hs'
   rw [if_neg (by decide), hacc]
   exact hs'
 ·intro n acc hacc
  rw [z2b, if_neg (by simp), hacc]; rfl
def unsC (p : Pool) (l : List ze) (c : List Int) (w : Int) : List z6 := c.flatMap fun i => if (gt l i).item.wagon = w then evs p (gt l i) i else []
def uns (p : Pool) (l : List ze) (w : Int) : List z6 := unsC p l (cnt p l) w
theorem zff (p : Pool) (l : List ze) (w : Int) : ∀ c : List Int, (unsC p l c w).length <= 2 * c.length
 | [] => by simp [unsC]
 | i :: c => by
  have := zff p l w c
  have h2 := zsg p (gt l i) i
  unfold unsC at *
  rw [List.flatMap_cons, List.length_append, List.length_cons]
  split
  ·omega
  ·simp only [List.length_nil]; omega
theorem zyd {a b : z6} (h : a.report ≠ b.report \/ a.second ≠ b.second) : cfEv a b < 0 \/ cfEv b a < 0 := by
 rw [zau, zau]
 have h2 : a.second ≠ b.second -> ordB a.second ≠ ordB b.second := by
  cases a.second <;> cases b.second <;> simp [ordB]
 by_cases hs : a.second = b.second
 ·have h3 := h.resolve_right (fun q => q hs)
  rw [hs]; omega
 ·have := h2 hs
  omega
theorem y07 (p : Pool) (l : List ze) (w : Int) : (uns p l w).Pairwise fun a b => a.report ≠ b.report \/ a.second ≠ b.second := by
 unfold uns unsC
 rw [List.pairwise_flatMap]
 refine ⟨fun i hi => ?_, (yat p l).imp ?_⟩
 ·split
  ·exact yc0 _ _ _
  ·exact List.Pairwise.nil
 ·intro i j hij x hx y hy
  split at hx
  ·split at hy
   ·rw [(z8x hx).1, (z8x hy).1]
    exact .inl (by omega)
   ·cases hy
  ·cases hx
theorem zah {p : Pool} {l : List ze} (hl : l.length <= 1000) {w : Int} {x : z6} (h : x ∈ uns p l w) : 0 <= x.report /\ x.report < (l.length : Int) /\ x.visit.wagon = w /\ zej p (gt l x.report).item = true /\ x ∈ evs p (gt l x.report) x.report := by
 simp only [uns, unsC, List.mem_flatMap] at h
 obtain ⟨i, hi, hx⟩ := h
 obtain ⟨h1, h2, h3⟩ := y0l hi
 split at hx
 ·rename_i hw
  obtain ⟨r1, r2, r3⟩ := z8x hx
  rw [r1]
  exact ⟨h1, h2, by rw [r2, hw], h3, hx⟩
 ·cases hx
def ltEv (a b : z6) : Bool := decide (cfEv a b < 0)
def srt (p : Pool) (l : List ze) (w : Int) : List z6 := zcn ltEv (uns p l w)
theorem zv6 {p : Pool} {l : List ze} (hl : l.length <= 1000) (w : Int) : sortEv (uns p l w) = some (srt p l w) := by
 refine y4u (fun y hy => ?_) ?_ ((y07 p l w).imp fun h => zyd h)
 ·obtain ⟨h1, h2, _⟩ := zah hl hy
  simp only [okEv, decide_eq_true_eq]; omega
 ·have := zff p l w (cnt p l)
  have h2 := zgk p l l.length
  unfold uns cnt at *
  omega
def covM (e : z6) (m : List (Int × Bool)) : List (Int × Bool) := if (e.stay && e.second) = true then mdel m e.report else if e.stay = true then mset m e.report true else m
def zb1 (e : z6) (b : Bool) : z6 := ⟨⟨e.visit.wagon, e.visit.place, e.visit.ref, b, e.visit.early, e.visit.late⟩, e.report, e.second, e.stay, e.reader⟩
def zeb : List z6 -> List (Int × Bool) -> List z6
 | [], _ => []
 | e :: t, m => zb1 e (decide ((0 : Int) < ((covM e m).length : Int))) :: zeb t (covM e m)
theorem zb8 : ∀ (t : List z6) (m : List (Int × Bool)), (zeb t m).length = t.length
 | [], _ => rfl
 | e :: t, m => by simp [zeb, zb8 t]
def z0y (p : Pool) (l : List ze) (w : Int) : List z6 := zeb (srt p l w) []
theorem zy2 {α : Type} (a : List α) (x y : α) (b : List α) : z05 (a ++ x :: b) (a.length : Int) y = a ++ y :: b := by
 simp [z05]
theorem y5o {α : Type} [Inhabited α] (a : List α) (x : α) (b : List α) : gt (a ++ x :: b) (a.length : Int) = x := by
 simp [gt]
theorem zv7 (φ : Nat) (k : Int -> Int -> List (List z6) -> Option ((List (List z6)) × Unit)) (x19 x20 x24 : Int) (x23 : List (List z6)) :
  ∀ (n : Nat) (done todo : List z6) (m : List (Int × Bool)), todo.length < n -> done.length + todo.length <= 100000 ->
   z12 φ k n ((done.length + todo.length : Nat) : Int) (done.length : Int) x19 x20 (done ++ todo) m x23 x24 = k x19 (W (x20 + 1)) (z05 x23 x24 (done ++ zeb todo m)) := by
 intro n
 induction n with
 | zero => intro d t m h _; omega
 | succ n ih =>
  intro d t m hn hl
  cases t with
  | nil =>
   rw [z12, if_neg (by simp)]
   rfl
  | cons e t =>
   simp only [List.length_cons] at hn hl
   have hin : (0 : Int) <= (d.length : Int) /\ (d.length : Int) < ((d ++ e :: t).length : Int) := ⟨by omega, by simp; omega⟩
   have key : ∀ m', z2z φ (z12 φ k n) (d.length : Int) ((d.length + (e :: t).length : Nat) : Int) (d.length : Int) x19 x20 (d ++ e :: t) m' x23 x24 =
     k x19 (W (x20 + 1)) (z05 x23 x24 (d ++ zb1 e (decide ((0 : Int) < (m'.length : Int))) :: zeb t m')) := by
    intro m'
    unfold z2z
    rw [z7 hin, y5o, W_id (by omega) (by omega), zy2]
    have := ih (d ++ [zb1 e (decide ((0 : Int) < (m'.length : Int)))]) t m' (by omega) (by simp; omega)
    simp only [List.length_append, List.length_cons, List.length_nil, List.append_assoc, List.cons_append, List.nil_append] at this
    rw [show ((d.length + (e :: t).length : Nat) : Int) = ((d.length + (0 + 1) + t.length : Nat) : Int) by simp; omega, show (d.length : Int) + 1 = ((d.length + (0 + 1) : Nat) : Int) by omega]
    exact this
   rw [z12, if_pos (by simp; omega), z7 hin, z7 (fun _ => hin), y5o]
   have hg : ∀ m', covM e m = m' -> zeb (e :: t) m = zb1 e (decide ((0 : Int) < (m'.length : Int))) :: zeb t m' := fun m' hm => by subst hm; rfl
   by_cases h1 : (e.stay && e.second) = true
   ·rw [if_pos h1, z7 hin, key, hg _ (if_pos h1)]
   ·rw [if_neg h1, z7 hin]
    by_cases h2 : e.stay = true
    ·rw [if_pos h2, z7 hin, key, hg (mset m e.report true) (by unfold covM; rw [if_neg h1, if_pos h2])]
    ·rw [if_neg h2, key, hg m (by unfold covM; rw [if_neg h1, if_neg h2])]
theorem y0g (φ : Nat) (hφ : 800000 < φ) {p : Pool} (hc : z01 p = 0) {l : List ze} (hl : FewL l) : za1 φ p l = some ((List.range p.fleet.wagons.length).map fun (w : Nat) => z0y p l (w : Int), ()) := by
 have h1 := hl.len
 obtain ⟨_, hf, _⟩ := z2k hc
 obtain ⟨_, f2, _⟩ := z91 hf
 have hcl := zgk p l l.length
 unfold za1
 rw [z7 (mk_t _ _ (by omega) (by omega) (by omega)), zwg φ hφ hc hl, Option.bind_some]
 generalize hn0 : p.fleet.wagons.length = n0 at *
 have second : ∀ out : List (List z6), out.length = n0 -> (∀ w : Nat, w < n0 -> gt out (w : Int) = uns p l w) -> z1j φ φ (out.length : Int) 0 out = some ((List.range n0).map fun (w : Nat) => z0y p l (w : Int), ()) := by
  intro out ho hu
  rw [ho]
  refine z0j (fun n i o => z1j φ n (n0 : Int) i o) n0 (fun i o => o.length = n0 /\ ∀ w : Nat, w < n0 -> gt o (w : Int) = if w < i then z0y p l w else uns p l w) (fun o => o = some ((List.range n0).map fun (w : Nat) => z0y p l (w : Int), ())) ?_ ?_ φ out ⟨ho, fun w hw => by rw [hu w hw, if_neg (by omega)]⟩ (by omega)
  ·intro n i o hi ⟨ho1, ho2⟩ hs
   rw [z1j, if_pos (by simp; omega), z7 ⟨by omega, by omega⟩, z7 ⟨by omega, by omega⟩, z7 rfl, ho2 i hi, if_neg (by omega), zv6 h1, Option.bind_some]
   have hsl : (srt p l (i : Int)).length <= 2000 := by
    rw [srt, (z1u _ _).length_eq]
    have := zff p l i (cnt p l)
    unfold uns cnt at *
    omega
   have := zv7 φ (z1j φ n) (n0 : Int) (i : Int) (i : Int) o φ [] (srt p l (i : Int)) [] (by omega) (by simp; omega)
   simp only [List.length_nil, Nat.zero_add, List.nil_append] at this
   refine this.trans ?_
   rw [W_id (by omega) (by omega)]
   refine hs _ ⟨by rw [z0s]; exact ho1, fun w hw => ?_⟩
   rw [z0g _ _ _ _ (by omega) (by omega) (by omega)]
   by_cases e : w = i
   ·subst e; rw [if_pos rfl, if_pos (by omega)]; rfl
   ·rw [if_neg (by omega), ho2 w hw]
    by_cases h2 : w < i
    ·rw [if_pos h2, if_pos (by omega)]
    ·rw [if_neg h2, if_neg (by omega)]
  ·intro n o ⟨ho1, ho2⟩
   rw [z1j, if_neg (by simp)]
   congr 2
   refine List.ext_getElem (by simp [ho1]) fun w hw hw2 => ?_
   have := ho2 w (by omega)
   rw [z2a hw, if_pos (by omega)] at this
   simpa using this
 refine z0j (fun n i o => z2e φ n l (cnt p l) ((cnt p l).length : Int) i p o) (cnt p l).length (fun i o => o.length = n0 /\ ∀ w : Nat, w < n0 -> gt o (w : Int) = unsC p l ((cnt p l).take i) w) (fun o => o = some ((List.range n0).map fun (w : Nat) => z0y p l (w : Int), ())) ?_ ?_ φ _ ⟨by simp, fun w hw => ?_⟩ (by unfold cnt; omega)
 ·intro n i o hi ⟨ho1, ho2⟩ hs
  have hmem : gt (cnt p l) (i : Int) ∈ cnt p l := z0h (by omega) (by omega)
  obtain ⟨c1, c2, c3⟩ := y0l hmem
  have hI := zcm hc (hl.gt c1 c2) c3
  have hcn : (cnt p l).length <= 1000 := by unfold cnt; omega
  rw [z2e, if_pos (by simp; omega), z7 ⟨by omega, by omega⟩, z7 ⟨c1, c2⟩, zt1 φ p _ _ hI.read, Option.bind_some]
  have hW : W ((i : Int) + 1) = (i : Int) + 1 := W_id (by omega) (by omega)
  have htake : ∀ w, unsC p l ((cnt p l).take (i + 1)) w = unsC p l ((cnt p l).take i) w ++ (if (gt l (gt (cnt p l) (i : Int))).item.wagon = w then evs p (gt l (gt (cnt p l) (i : Int))) (gt (cnt p l) (i : Int)) else []) := by
   intro w
   rw [z0x _ _ hi]
   simp [unsC]
  generalize gt (cnt p l) (i : Int) = ci at *
  generalize hev : evs p (gt l ci) ci = E at *
  have hE : E.length <= 2 := by rw [<- hev]; exact zsg _ _ _
  simp only []
  by_cases h0 : 0 < E.length
  ·have hkind : (gt l ci).item.kind <= 9 := by
    rcases Int.lt_or_le 9 (gt l ci).item.kind with h | h
    ·exfalso
     have : E = [] := by
      rw [<- hev]; unfold evs
      rw [if_neg (by omega), if_neg (by omega), if_neg (by omega)]
     rw [this] at h0; simp at h0
    ·exact h
   have hwg := hI.wagon hkind
   rw [hn0] at hwg
   obtain ⟨w0, hw0⟩ : ∃ w0 : Nat, (gt l ci).item.wagon = (w0 : Int) := ⟨(gt l ci).item.wagon.toNat, by omega⟩
   rw [hw0] at hwg htake ⊢
   have hwg' : (0 : Int) <= (w0 : Int) /\ (w0 : Int) < (o.length : Int) := ⟨by omega, by omega⟩
   have hul := zff p l w0 ((cnt p l).take i)
   rw [if_pos (by simpa using h0), z7 ⟨c1, c2⟩, z7 hwg', z7 hwg', z7 trivial, ho2 w0 (by omega),
    z7 (zm7 (by rw [List.length_take] at hul; omega) (by omega)), z7 hwg', z7 trivial, hW]
   refine hs _ ⟨by rw [z0s]; exact ho1, fun w hw => ?_⟩
   rw [z0g _ _ _ _ (by omega) (by omega) (by omega), htake]
   by_cases e : (w : Int) = (w0 : Int)
   ·rw [if_pos e, e, if_pos rfl]
   ·rw [if_neg e, if_neg (fun q => e q.symm), List.append_nil, ho2 w hw]
  ·have hnil : E = [] := List.eq_nil_of_length_eq_zero (by omega)
   rw [if_neg (by simpa using h0), hW]
   refine hs _ ⟨ho1, fun w hw => ?_⟩
   rw [htake, hnil, ho2 w hw]
   split <;> simp
 ·intro n o ⟨ho1, ho2⟩
  rw [z2e, if_neg (by simp)]
  refine second o ho1 fun w hw => ?_
  rw [ho2 w hw, List.take_length]; rfl
 ·rw [z1i _ _ _ (by omega) (by simp; omega)]
  simp [unsC]
  rfl
end Px
end
section
namespace Px
open Go
set_option linter.unusedVariables false
set_option linter.unusedSimpArgs false
theorem zb9 (m : List (Int × Int)) (a v c : Int) : mget (mset m a v) c = if c = a then some v else mget m c := by
 induction m with
 | nil =>
  show (bif c == a then some v else none) = _
  by_cases h : c = a
  ·rw [if_pos h]; simp [h]
  ·rw [if_neg h]
   have : (c == a) = false := by simpa using h
   rw [this]; rfl
 | cons p m ih =>
  obtain ⟨k, w⟩ := p
  show mget (bif a == k then (a, v) :: m else (k, w) :: mset m a v) c = _
  have e1 : mget ((k, w) :: m) c = bif c == k then some w else mget m c := rfl
  by_cases h1 : a = k
  ·subst h1
   simp only [beq_self_eq_true, cond_true]
   show (bif c == a then some v else mget m c) = _
   rw [e1]
   by_cases h : c = a
   ·rw [if_pos h]; simp [h]
   ·rw [if_neg h]
    have : (c == a) = false := by simpa using h
    rw [this]; rfl
  ·have : (a == k) = false := by simpa using h1
   rw [this]
   show (bif c == k then some w else mget (mset m a v) c) = _
   rw [ih, e1]
   by_cases h2 : c = k
   ·subst h2
    have h3 : ¬ c = a := fun e => h1 e.symm
    simp [h3]
   ·have : (c == k) = false := by simpa using h2
    rw [this]; rfl
theorem y1a {p : Pool} {l : List ze} (hl : l.length <= 1000) (w : Int) : (z0y p l w).length <= 2000 := by
 unfold z0y
 rw [zb8, srt, (z1u _ _).length_eq]
 have := zff p l w (cnt p l)
 have := zgk p l l.length
 unfold uns cnt at *
 omega
end Px
end
section
namespace Px
open Go
set_option linter.unusedVariables false
set_option linter.unusedSimpArgs false
theorem zxf (φ : Nat) (hφ : 800000 < φ) (x : zi) (a b : zl) : ∃ t, z35 φ x a b = some (t, ()) /\ 0 <= t /\ t <= 1073741825 := by
 unfold z35
 split
 ·exact ⟨_, rfl, by omega, by omega⟩
 ·obtain ⟨t, e, h, h1, h2⟩ := zh0 φ hφ x a.place b.place
  rw [h, Option.bind_some]
  split
  ·exact ⟨_, rfl, by omega, by omega⟩
  ·exact ⟨_, rfl, h1, by omega⟩
def tvl (φ : Nat) (x : zi) (a b : zl) : Int := ((z35 φ x a b).getD default).1
theorem y6n (φ : Nat) (hφ : 800000 < φ) (x : zi) (a b : zl) : z35 φ x a b = some (tvl φ x a b, ()) /\ 0 <= tvl φ x a b /\ tvl φ x a b <= 1073741825 := by
 obtain ⟨t, h, h1, h2⟩ := zxf φ hφ x a b
 unfold tvl
 rw [h]
 exact ⟨rfl, h1, h2⟩
def y0 : Nat -> Ref := fun _ => (default : Ref)
def y1 (r : Ref) : Nat -> Ref := upd (fun _ => (default : Ref)) 0 r
def y2 (r q : Ref) : Nat -> Ref := upd (upd (fun _ => (default : Ref)) 0 r) 1 q
def zvg (m : List (Int × Int)) (e : z6) : List (Int × Int) := if 0 <= e.reader then mset m e.reader 0 else m
def zlg (m : List (Int × Int)) (t : List z6) : List (Int × Int) := t.foldl zvg m
def used (ts : List (List z6)) : List (Int × Int) := ts.foldl zlg []
structure BS where
 v : Int
 b : List za
 y : List (Nat -> Ref)
 e : List z11
structure RS where
 v : Int
 m : List (Int × Int)
 b : List za
 y : List (Nat -> Ref)
def zi8 (rs : List z1o) (i : Nat) (s : RS) : RS :=
 if (mget s.m (i : Int)).isSome = true then ⟨s.v + 1, mset s.m (i : Int) s.v, s.b ++ [⟨0, s.v, 0 - (gt rs (i : Int)).low⟩, ⟨s.v, 0, (gt rs (i : Int)).high⟩], s.y ++ [y0, y0]⟩ else s
def rdsN (rs : List z1o) (m : List (Int × Int)) : Nat -> RS
 | 0 => ⟨1, m, [], []⟩
 | n + 1 => zi8 rs n (rdsN rs m n)
def rv (m : List (Int × Int)) (e : z6) : Int := (mget m e.reader).getD default
def evB (m : List (Int × Int)) (v : Int) (e : z6) : List za :=
 if e.reader < 0 then [⟨0, v, e.visit.early⟩, ⟨v, 0, 0 - e.visit.early⟩]
 else [⟨rv m e, v, e.visit.early⟩, ⟨v, rv m e, 0 - e.visit.early⟩, ⟨0, v, 1073741824⟩, ⟨v, 0, 0⟩]
def evY (e : z6) : List (Nat -> Ref) := List.replicate (if e.reader < 0 then 2 else 4) (y1 e.visit.ref)
def trB (tv : zl -> zl -> Int) (v : Int) (pr : Option zl) (e : z6) : List za :=
 match pr with
 | none => []
 | some a => [⟨v, v - 1, 0 - tv a e.visit⟩]
def trY (pr : Option zl) (e : z6) : List (Nat -> Ref) :=
 match pr with
 | none => []
 | some a => [y2 a.ref e.visit.ref]
def zay (tv : zl -> zl -> Int) (m : List (Int × Int)) (pr : Option zl) (e : z6) (s : BS) : BS :=
 ⟨s.v + 1, s.b ++ evB m s.v e ++ trB tv s.v pr e, s.y ++ evY e ++ trY pr e, s.e ++ [⟨e.visit.wagon, e.visit.place, s.v, e.visit.ref, e.visit.stay⟩]⟩
def bEv (tv : zl -> zl -> Int) (m : List (Int × Int)) : Option zl -> List z6 -> BS -> BS
 | _, [], s => s
 | pr, e :: t, s => bEv tv m (some e.visit) t (zay tv m pr e s)
def bAll (tv : zl -> zl -> Int) (rs : List z1o) (ts : List (List z6)) : BS :=
 ts.foldl (fun s t => bEv tv (rdsN rs (used ts) rs.length).m none t s) ⟨(rdsN rs (used ts) rs.length).v, (rdsN rs (used ts) rs.length).b, (rdsN rs (used ts) rs.length).y, []⟩
def bEnd (s : BS) : zt × Int × Unit := if 512 < s.v \/ 4096 < s.b.length then (⟨0, [], [], []⟩, 2, ()) else (⟨s.v, s.b, s.y, s.e⟩, 0, ())
def zd (p : Pool) (l : List ze) : List (List z6) := (List.range p.fleet.wagons.length).map fun (w : Nat) => z0y p l (w : Int)
theorem z8h (rs : List z1o) (m : List (Int × Int)) : ∀ n, 1 <= (rdsN rs m n).v /\ (rdsN rs m n).v <= 1 + n /\ (rdsN rs m n).b.length <= 2 * n /\ (rdsN rs m n).y.length <= 2 * n
 | 0 => ⟨by simp [rdsN], by simp [rdsN], by simp [rdsN], by simp [rdsN]⟩
 | n + 1 => by
  obtain ⟨h1, h2, h3, h4⟩ := z8h rs m n
  simp only [rdsN, zi8]
  split
  ·refine ⟨?_, ?_, ?_, ?_⟩ <;> simp <;> omega
  ·refine ⟨?_, ?_, ?_, ?_⟩ <;> omega
theorem y9k (m : List (Int × Int)) (v : Int) (e : z6) : (evB m v e).length <= 4 := by
 unfold evB; split <;> simp
theorem yag (e : z6) : (evY e).length <= 4 := by
 unfold evY; split <;> simp
theorem y8s (tv : zl -> zl -> Int) (v : Int) (pr : Option zl) (e : z6) : (trB tv v pr e).length <= 1 := by
 cases pr <;> simp [trB]
theorem y9h (pr : Option zl) (e : z6) : (trY pr e).length <= 1 := by
 cases pr <;> simp [trY]
structure BB (n : Nat) (s : BS) : Prop where
 v0 : 1 <= s.v
 v1 : s.v <= 257 + n
 b : s.b.length <= 512 + 5 * n
 y : s.y.length <= 512 + 5 * n
 e : s.e.length <= n
theorem BB.step {n : Nat} {s : BS} (h : BB n s) (tv m pr e) : BB (n + 1) (zay tv m pr e s) := by
 have h1 := y9k m s.v e
 have h2 := yag e
 have h3 := y8s tv s.v pr e
 have h4 := y9h pr e
 obtain ⟨a, b, c, d, f⟩ := h
 unfold zay
 constructor
 ·show 1 <= s.v + 1; omega
 ·show s.v + 1 <= 257 + ((n + 1 : Nat) : Int); omega
 ·show (s.b ++ evB m s.v e ++ trB tv s.v pr e).length <= _
  rw [List.length_append, List.length_append]; omega
 ·show (s.y ++ evY e ++ trY pr e).length <= _
  rw [List.length_append, List.length_append]; omega
 ·show (s.e ++ [_]).length <= _
  rw [List.length_append]; simp; omega
theorem BB.ev (tv m) : ∀ (t : List z6) (n : Nat) (pr : Option zl) (s : BS), BB n s -> BB (n + t.length) (bEv tv m pr t s)
 | [], n, pr, s, h => h
 | e :: t, n, pr, s, h => by
  have := BB.ev tv m t (n + 1) (some e.visit) (zay tv m pr e s) (h.step tv m pr e)
  rw [show n + (e :: t).length = n + 1 + t.length by simp; omega]
  exact this
section
variable (φ : Nat)
theorem yd5 (hφ : 10 < φ) (k) (x55 x56 x57 x58 x59 x60 x61 x62 x63 x64 x65 x66 x67 x68) (B : List za) (x70 x71 x72 x73) (b : List za) (y : List (Nat -> Ref)) (x76 x77 x78 x79) (hB : B.length <= 4) (hb : b.length <= 50000000) (hy : y.length <= 50000000) :
  z2t φ k φ (B.length : Int) 0 x55 x56 x57 x58 x59 x60 x61 x62 x63 x64 x65 x66 x67 x68 B x70 x71 x72 x73 b y x76 x77 x78 x79 = k x55 x56 x57 (W (x58 + 1)) x70 x71 (W (x67 + 1)) x72 x77 x78 x79 (b ++ B) (y ++ List.replicate B.length x68) x76 := by
 refine z0j (fun n i (s : List za × List (Nat -> Ref)) => z2t φ k n (B.length : Int) i x55 x56 x57 x58 x59 x60 x61 x62 x63 x64 x65 x66 x67 x68 B x70 x71 x72 x73 s.1 s.2 x76 x77 x78 x79) B.length (fun i s => s.1 = b ++ B.take i /\ s.2 = y ++ List.replicate i x68) (fun o => o = k x55 x56 x57 (W (x58 + 1)) x70 x71 (W (x67 + 1)) x72 x77 x78 x79 (b ++ B) (y ++ List.replicate B.length x68) x76) ?_ ?_ φ (b, y) ⟨by simp, by simp⟩ (by omega)
 ·intro n i s hi ⟨h1, h2⟩ hs
  rw [z2t, if_pos (by simp; omega), z7 ⟨by omega, by omega⟩, z7 (zfn (by rw [h1]; simp; omega) (by omega)), z7 (zfn (by rw [h2]; simp; omega) (by omega)), W_id (by omega) (by omega)]
  exact hs (_, _) ⟨by rw [h1, z0x B i hi, List.append_assoc], by rw [h2, List.replicate_succ', List.append_assoc]⟩
 ·intro n s ⟨h1, h2⟩
  rw [z2t, if_neg (by simp), h1, h2, List.take_length]
theorem ybb (hφ : 10 < φ) (k) (x137 x138 x139 x140 x141 x142 x143 x144 x145 x146 x147 x148 x149 x150 x151 x152 x153 x154 x155 x156 x157) (B : List za) (x159 x160 x161 x162 x163) (b : List za) (y : List (Nat -> Ref)) (x166 x167 x168 x169) (hB : B.length <= 4) (hb : b.length <= 50000000) (hy : y.length <= 50000000) :
  z2c φ k φ (B.length : Int) 0 x137 x138 x139 x140 x141 x142 x143 x144 x145 x146 x147 x148 x149 x150 x151 x152 x153 x154 x155 x156 x157 B x159 x160 x161 x162 x163 b y x166 x167 x168 x169 = k x137 x138 x139 x140 x141 x142 (W (x143 + 1)) x159 x160 x156 x161 x167 x168 x169 (b ++ B) (y ++ List.replicate B.length x157) x166 := by
 refine z0j (fun n i (s : List za × List (Nat -> Ref)) => z2c φ k n (B.length : Int) i x137 x138 x139 x140 x141 x142 x143 x144 x145 x146 x147 x148 x149 x150 x151 x152 x153 x154 x155 x156 x157 B x159 x160 x161 x162 x163 s.1 s.2 x166 x167 x168 x169) B.length (fun i s => s.1 = b ++ B.take i /\ s.2 = y ++ List.replicate i x157) (fun o => o = k x137 x138 x139 x140 x141 x142 (W (x143 + 1)) x159 x160 x156 x161 x167 x168 x169 (b ++ B) (y ++ List.replicate B.length x157) x166) ?_ ?_ φ (b, y) ⟨by simp, by simp⟩ (by omega)
 ·intro n i s hi ⟨h1, h2⟩ hs
  rw [z2c, if_pos (by simp; omega), z7 ⟨by omega, by omega⟩, z7 (zfn (by rw [h1]; simp; omega) (by omega)), z7 (zfn (by rw [h2]; simp; omega) (by omega)), W_id (by omega) (by omega)]
  exact hs (_, _) ⟨by rw [h1, z0x B i hi, List.append_assoc], by rw [h2, List.replicate_succ', List.append_assoc]⟩
 ·intro n s ⟨h1, h2⟩
  rw [z2c, if_neg (by simp), h1, h2, List.take_length]
theorem ybi (hφ : 10 < φ) (k) (x173 x174 x175 x176 x177 x178 x179 x180 x181 x182 x183) (B : List za) (x185 x186 x187 x188) (b : List za) (y : List (Nat -> Ref)) (x191 x192 x193 x194) (hB : B.length <= 4) (hb : b.length <= 50000000) (hy : y.length <= 50000000) :
  z2f φ k φ (B.length : Int) 0 x173 x174 x175 x176 x177 x178 x179 x180 x181 x182 x183 B x185 x186 x187 x188 b y x191 x192 x193 x194 = z13 φ k x173 x174 x175 x176 x177 x178 x179 x180 x181 x185 x186 x182 x187 x188 x192 x193 x194 (b ++ B) (y ++ List.replicate B.length x183) x191 := by
 refine z0j (fun n i (s : List za × List (Nat -> Ref)) => z2f φ k n (B.length : Int) i x173 x174 x175 x176 x177 x178 x179 x180 x181 x182 x183 B x185 x186 x187 x188 s.1 s.2 x191 x192 x193 x194) B.length (fun i s => s.1 = b ++ B.take i /\ s.2 = y ++ List.replicate i x183) (fun o => o = z13 φ k x173 x174 x175 x176 x177 x178 x179 x180 x181 x185 x186 x182 x187 x188 x192 x193 x194 (b ++ B) (y ++ List.replicate B.length x183) x191) ?_ ?_ φ (b, y) ⟨by simp, by simp⟩ (by omega)
 ·intro n i s hi ⟨h1, h2⟩ hs
  rw [z2f, if_pos (by simp; omega), z7 ⟨by omega, by omega⟩, z7 (zfn (by rw [h1]; simp; omega) (by omega)), z7 (zfn (by rw [h2]; simp; omega) (by omega)), W_id (by omega) (by omega)]
  exact hs (_, _) ⟨by rw [h1, z0x B i hi, List.append_assoc], by rw [h2, List.replicate_succ', List.append_assoc]⟩
 ·intro n s ⟨h1, h2⟩
  rw [z2f, if_neg (by simp), h1, h2, List.take_length]
theorem ybk (hφ : 10 < φ) (k) (x173 x174 x175 x176 x177 x178 x179 x180 x181 x182 x183) (B : List za) (x185 x186 x187 x188) (b : List za) (y : List (Nat -> Ref)) (x191 x192 x193 x194) (hB : B.length <= 4) (hb : b.length <= 50000000) (hy : y.length <= 50000000) :
  z2d φ k φ (B.length : Int) 0 x173 x174 x175 x176 x177 x178 x179 x180 x181 x182 x183 B x185 x186 x187 x188 b y x191 x192 x193 x194 = z13 φ k x173 x174 x175 x176 x177 x178 x179 x180 x181 x185 x186 x182 x187 x188 x192 x193 x194 (b ++ B) (y ++ List.replicate B.length x183) x191 := by
 refine z0j (fun n i (s : List za × List (Nat -> Ref)) => z2d φ k n (B.length : Int) i x173 x174 x175 x176 x177 x178 x179 x180 x181 x182 x183 B x185 x186 x187 x188 s.1 s.2 x191 x192 x193 x194) B.length (fun i s => s.1 = b ++ B.take i /\ s.2 = y ++ List.replicate i x183) (fun o => o = z13 φ k x173 x174 x175 x176 x177 x178 x179 x180 x181 x185 x186 x182 x187 x188 x192 x193 x194 (b ++ B) (y ++ List.replicate B.length x183) x191) ?_ ?_ φ (b, y) ⟨by simp, by simp⟩ (by omega)
 ·intro n i s hi ⟨h1, h2⟩ hs
  rw [z2d, if_pos (by simp; omega), z7 ⟨by omega, by omega⟩, z7 (zfn (by rw [h1]; simp; omega) (by omega)), z7 (zfn (by rw [h2]; simp; omega) (by omega)), W_id (by omega) (by omega)]
  exact hs (_, _) ⟨by rw [h1, z0x B i hi, List.append_assoc], by rw [h2, List.replicate_succ', List.append_assoc]⟩
 ·intro n s ⟨h1, h2⟩
  rw [z2d, if_neg (by simp), h1, h2, List.take_length]
theorem zz7 (hφ : 800000 < φ) (k) (T : List z6) (n : Nat) (hn : n < T.length) (x115 x116 x117 x118 x119 x120) (x122 : Pool) (x123 : Int) (x125 : List (Int × Int)) (e : z6) (pr : Option zl) (hpr : pr = if 0 < n then some (gt T ((n : Int) - 1)).visit else none) (x127 x128 x129) (b : List za) (y : List (Nat -> Ref)) (x132) (hb : b.length <= 50000000) (hy : y.length <= 50000000) (h15 : 0 <= x115 /\ x115 <= 100000000) (hT : n <= 100000000) :
  z13 φ k T (n : Int) x115 x116 x117 x118 x119 x120 (n : Int) x122 x123 (x115 + 1) x125 e x127 x128 x129 b y x132 =
   k T x116 x117 x118 x119 x120 ((n + 1 : Nat) : Int) x122 x123 (x115 + 1) x125 x127 x128 x129 (b ++ trB (tvl φ x122.network) x115 pr e) (y ++ trY pr e) x132 := by
 have hW : W ((n : Int) + 1) = ((n + 1 : Nat) : Int) := by rw [W_id (by omega) (by omega)]; omega
 unfold z13
 by_cases h : 0 < n
 ·obtain ⟨ht, t1, t2⟩ := y6n φ hφ x122.network (gt T ((n : Int) - 1)).visit e.visit
  rw [if_pos (by simp; omega), W_id (x := (n : Int) - 1) (by omega) (by omega), z7 ⟨by omega, by omega⟩, ht, Option.bind_some, W_id (x := x115 - 1) (by omega) (by omega)]
  rw [hpr, if_pos h]
  simp only [trB, trY]
  generalize tvl φ x122.network (gt T ((n : Int) - 1)).visit e.visit = tt at *
  rw [W_id (x := 0 - tt) (by omega) (by omega)]
  refine (ybb φ (by omega) k T x116 x117 x118 x119 x120 (n : Int) _ _ _ _ _ _ _ _ _ _ _ _ _ _ ([⟨x115, x115 - 1, 0 - tt⟩] : List za) x122 x123 x125 _ _ b y x132 x127 x128 x129 (by simp) hb hy).trans ?_
  rw [hW]
  rfl
 ·rw [if_neg (by simp; omega), hW, hpr, if_neg h]
  simp only [trB, trY, List.append_nil]
theorem zvp (hφ : 800000 < φ) (k) (x96 x97 x98) (T : List z6) (hE : ∀ e ∈ T, 0 <= e.visit.early /\ e.visit.early <= 1073741824) (x102 : Pool) (x103 : Int) (m : List (Int × Int)) (g1 g2 g3) (hT : T.length <= 2000) :
  ∀ (n i N : Nat) (s : BS), T.length < n + i -> i <= T.length -> BB N s -> N <= 8300000 + i ->
   z0e φ k n T x96 x97 x98 T (T.length : Int) (i : Int) x102 x103 s.v m g1 g2 g3 s.b s.y s.e =
    (fun s' : BS => k x96 x97 (W (x98 + 1)) x102 x103 s'.v m g1 g2 g3 s'.b s'.y s'.e) (bEv (tvl φ x102.network) m (if 0 < i then some (gt T ((i : Int) - 1)).visit else none) (T.drop i) s) := by
 intro n
 induction n with
 | zero => intro i N s h1 h2; exfalso; omega
 | succ n ih =>
  intro i N s h1 h2 hB hN
  obtain ⟨v0, v1, b1, b2, b3⟩ := hB
  by_cases hi : i < T.length
  ·obtain ⟨e0, e1⟩ := hE _ (z0h (l := T) (i := (i : Int)) (by omega) (by omega))
   have hWv : W (s.v + 1) = s.v + 1 := W_id (by omega) (by omega)
   have hWe : W (0 - (gt T (i : Int)).visit.early) = 0 - (gt T (i : Int)).visit.early := W_id (by omega) (by omega)
   have hnext := ih (i + 1) (N + 1) (zay (tvl φ x102.network) m (if 0 < i then some (gt T ((i : Int) - 1)).visit else none) (gt T (i : Int)) s) (by omega) (by omega) (BB.step ⟨v0, v1, b1, b2, b3⟩ _ _ _ _) (by omega)
   rw [if_pos (show 0 < i + 1 by omega), show ((i + 1 : Nat) : Int) - 1 = (i : Int) by omega] at hnext
   rw [zxk T i hi]
   refine Eq.trans ?_ hnext
   rw [z0e, if_pos (by simp; omega), z7 ⟨by omega, by omega⟩, z7 (zfn (by simp; omega) (by omega)), hWv, hWe]
   by_cases hr : (gt T (i : Int)).reader < 0
   ·rw [if_pos (by simpa using hr)]
    refine (ybi φ (by omega) (z0e φ k n) T (i : Int) s.v x96 x97 x98 T (T.length : Int) (i : Int) (s.v + 1) (y1 (gt T (i : Int)).visit.ref) ([⟨0, s.v, (gt T (i : Int)).visit.early⟩, ⟨s.v, 0, 0 - (gt T (i : Int)).visit.early⟩] : List za) x102 x103 m (gt T (i : Int)) s.b s.y _ g1 g2 g3 (by simp) (by omega) (by omega)).trans ?_
    refine (zz7 φ hφ (z0e φ k n) T i hi s.v x96 x97 x98 T (T.length : Int) x102 x103 m (gt T (i : Int)) _ rfl g1 g2 g3 _ _ _ (by simp; omega) (by simp; omega) ⟨by omega, by omega⟩ (by omega)).trans ?_
    simp only [zay, evB, evY, if_pos hr]
    rfl
   ·rw [if_neg (by simpa using hr)]
    refine (ybk φ (by omega) (z0e φ k n) T (i : Int) s.v x96 x97 x98 T (T.length : Int) (i : Int) (s.v + 1) (y1 (gt T (i : Int)).visit.ref) ([⟨rv m (gt T (i : Int)), s.v, (gt T (i : Int)).visit.early⟩, ⟨s.v, rv m (gt T (i : Int)), 0 - (gt T (i : Int)).visit.early⟩, ⟨0, s.v, 1073741824⟩, ⟨s.v, 0, 0⟩] : List za) x102 x103 m (gt T (i : Int)) s.b s.y _ g1 g2 g3 (by simp) (by omega) (by omega)).trans ?_
    refine (zz7 φ hφ (z0e φ k n) T i hi s.v x96 x97 x98 T (T.length : Int) x102 x103 m (gt T (i : Int)) _ rfl g1 g2 g3 _ _ _ (by simp; omega) (by simp; omega) ⟨by omega, by omega⟩ (by omega)).trans ?_
    simp only [zay, evB, evY, if_neg hr]
    rfl
  ·have : i = T.length := by omega
   subst this
   rw [z0e, if_neg (by simp), List.drop_length]
   rfl
theorem zt0 (hφ : 800000 < φ) (ts : List (List z6)) (hE : ∀ T ∈ ts, T.length <= 2000 /\ ∀ e ∈ T, 0 <= e.visit.early /\ e.visit.early <= 1073741824) (hts : ts.length <= 4096) (x84 : Pool) (x85 : Int) (m : List (Int × Int)) (g1 g2 g3) (s : BS) (hs : BB 0 s) :
  z20 φ φ ts (ts.length : Int) 0 x84 x85 s.v m g1 g2 g3 s.b s.y s.e = some (bEnd (ts.foldl (fun s t => bEv (tvl φ x84.network) m none t s) s)) := by
 refine z0j (fun n i (s : BS) => z20 φ n ts (ts.length : Int) i x84 x85 s.v m g1 g2 g3 s.b s.y s.e) ts.length (fun i s' => BB (2000 * i) s' /\ s' = (ts.take i).foldl (fun s t => bEv (tvl φ x84.network) m none t s) s) (fun o => o = some (bEnd (ts.foldl (fun s t => bEv (tvl φ x84.network) m none t s) s))) ?_ ?_ φ s ⟨hs, rfl⟩ (by omega)
 ·intro n i s' hi ⟨h1, h2⟩ hk
  obtain ⟨q1, q2⟩ := hE _ (z0h (l := ts) (i := (i : Int)) (by omega) (by omega))
  rw [z20, if_pos (by simp; omega), z7 ⟨by omega, by omega⟩]
  have := zvp φ hφ (z20 φ n) ts (ts.length : Int) (i : Int) (gt ts (i : Int)) q2 x84 x85 m g1 g2 g3 q1 φ 0 (2000 * i) s' (by omega) (by omega) h1 (by omega)
  refine this.trans ?_
  simp only [W_id (x := (i : Int) + 1) (by omega) (by omega), List.drop_zero]
  rw [if_neg (by omega)]
  refine hk _ ⟨?_, ?_⟩
  ·have := BB.ev (tvl φ x84.network) m (gt ts (i : Int)) (2000 * i) none s' h1
   obtain ⟨a, b, c, d, f⟩ := this
   exact ⟨a, by omega, by omega, by omega, by omega⟩
  ·rw [z0x ts i hi, List.foldl_append, <- h2]; rfl
 ·intro n s' ⟨h1, h2⟩
  rw [List.take_length] at h2
  rw [z20, if_neg (by simp), <- h2]
  unfold bEnd
  by_cases h : 512 < s'.v \/ 4096 < s'.b.length
  ·rw [if_pos (by simp; omega), if_pos h]
  ·rw [if_neg (by simp; omega), if_neg h]
theorem zpk (hφ : 800000 < φ) (ts : List (List z6)) (hE : ∀ T ∈ ts, T.length <= 2000 /\ ∀ e ∈ T, 0 <= e.visit.early /\ e.visit.early <= 1073741824) (hts : ts.length <= 4096) (p : Pool) (hp : p.readers.length <= 256) (hr : ∀ r ∈ p.readers, -1000 <= r.low /\ r.low <= 1000) (x43 : Int) (m : List (Int × Int)) (g1 g2) :
  z1c φ φ ts p.readers (p.readers.length : Int) 0 p x43 1 m g1 g2 [] [] [] [] = some (bEnd (ts.foldl (fun s t => bEv (tvl φ p.network) (rdsN p.readers m p.readers.length).m none t s) ⟨(rdsN p.readers m p.readers.length).v, (rdsN p.readers m p.readers.length).b, (rdsN p.readers m p.readers.length).y, []⟩)) := by
 refine z0j (fun n i (s : RS) => z1c φ n ts p.readers (p.readers.length : Int) i p x43 s.v s.m g1 g2 [] s.b s.y []) p.readers.length (fun i s => s = rdsN p.readers m i) (fun o => o = _) ?_ ?_ φ ⟨1, m, [], []⟩ rfl (by omega)
 ·intro n i s hi hs hk
  obtain ⟨a1, a2, a3, a4⟩ := z8h p.readers m i
  rw [<- hs] at a1 a2 a3 a4
  obtain ⟨r1, r2⟩ := hr _ (z0h (l := p.readers) (i := (i : Int)) (by omega) (by omega))
  have hk' := hk (rdsN p.readers m (i + 1)) rfl
  simp only [rdsN, zi8] at hk'
  rw [<- hs] at hk'
  have hW : W ((i : Int) + 1) = (i : Int) + 1 := W_id (by omega) (by omega)
  rw [z1c, if_pos (by simp; omega), z7 ⟨by omega, by omega⟩]
  by_cases h : (mget s.m (i : Int)).isSome = true
  ·rw [if_pos h] at hk' ⊢
   have hWl : W (0 - (gt p.readers (i : Int)).low) = 0 - (gt p.readers (i : Int)).low := W_id (by omega) (by omega)
   rw [hWl]
   refine (yd5 φ (by omega) (z1c φ n) ts p.readers (p.readers.length : Int) (i : Int) _ _ _ _ _ _ _ _ _ _ ([⟨0, s.v, 0 - (gt p.readers (i : Int)).low⟩, ⟨s.v, 0, (gt p.readers (i : Int)).high⟩] : List za) p x43 (mset s.m (i : Int) s.v) _ s.b s.y [] g1 g2 [] (by simp) (by omega) (by omega)).trans ?_
   rw [hW, W_id (x := s.v + 1) (by omega) (by omega)]
   exact hk'
  ·rw [if_neg h] at hk' ⊢
   rw [hW]
   exact hk'
 ·intro n s hs
  rw [z1c, if_neg (by simp), <- hs]
  obtain ⟨a1, a2, a3, a4⟩ := z8h p.readers m p.readers.length
  rw [<- hs] at a1 a2 a3 a4
  exact zt0 φ hφ ts hE hts p x43 s.m g1 g2 [] ⟨s.v, s.b, s.y, []⟩ ⟨a1, by show s.v <= _; omega, by show s.b.length <= _; omega, by show s.y.length <= _; omega, by simp⟩
theorem zww (k) (x20 x21 x22 x23) (T : List z6) (hT : T.length <= 2000) (hφ : 800000 < φ) (x27 x28 x29 x30 x31 x32 x33 x34 x35 x36) :
  z1y φ k φ x20 x21 x22 x23 T (T.length : Int) 0 x27 x28 x29 x30 x31 x32 x33 x34 x35 x36 = k x20 x21 x22 (W (x23 + 1)) x27 x28 x29 (zlg x30 T) x31 x32 x33 x34 x35 x36 := by
 refine z0j (fun n i (m : List (Int × Int)) => z1y φ k n x20 x21 x22 x23 T (T.length : Int) i x27 x28 x29 m x31 x32 x33 x34 x35 x36) T.length (fun i m => m = zlg x30 (T.take i)) (fun o => o = _) ?_ ?_ φ x30 rfl (by omega)
 ·intro n i m hi hm hk
  have hk' := hk (zlg x30 (T.take (i + 1))) rfl
  rw [z0x T i hi] at hk'
  simp only [zlg, List.foldl_append, List.foldl_cons, List.foldl_nil] at hk' hm
  rw [<- hm] at hk'
  rw [z1y, if_pos (by simp; omega), z7 ⟨by omega, by omega⟩, W_id (by omega) (by omega)]
  unfold zvg at hk'
  by_cases h : 0 <= (gt T (i : Int)).reader
  ·rw [if_pos h] at hk'
   rw [if_pos (by simpa using h)]
   exact hk'
  ·rw [if_neg h] at hk'
   rw [if_neg (by simpa using h)]
   exact hk'
 ·intro n m hm
  rw [List.take_length] at hm
  rw [z1y, if_neg (by simp), hm]
theorem zxr {p : Pool} {r : ze} (h : zp2 p r.item) {i : Int} {x : z6} (hx : x ∈ evs p r i) : 0 <= x.visit.early /\ x.visit.early <= 1073741824 := by
 have hf := h.from_
 have ht := h.to
 unfold evs at hx
 split at hx
 ·simp only [List.mem_singleton] at hx; subst hx
  simp only [z3x]; omega
 ·split at hx
  ·simp only [List.mem_cons, List.not_mem_nil, or_false] at hx
   rcases hx with rfl | rfl <;> simp only [z3x] <;> omega
  ·split at hx
   ·simp only [List.mem_singleton] at hx; subst hx
    simp only [z3x]; omega
   ·cases hx
theorem zr9 : ∀ {t : List z6} {m : List (Int × Bool)} {x : z6}, x ∈ zeb t m -> ∃ y ∈ t, ∃ b, x = zb1 y b
 | [], m, x, h => by cases h
 | e :: t, m, x, h => by
  rcases List.mem_cons.1 h with rfl | h
  ·exact ⟨e, List.mem_cons_self, _, rfl⟩
  ·obtain ⟨y, hy, b, hb⟩ := zr9 h
   exact ⟨y, List.mem_cons_of_mem _ hy, b, hb⟩
theorem z9n {p : Pool} {l : List ze} {w : Int} {x : z6} (h : x ∈ z0y p l w) : ∃ y ∈ uns p l w, ∃ b, x = zb1 y b := by
 obtain ⟨y, hy, b, hb⟩ := zr9 h
 exact ⟨y, (z1u _ _).mem_iff.1 hy, b, hb⟩
theorem zpj {p : Pool} (hc : z01 p = 0) {l : List ze} (hl : FewL l) {w : Int} {x : z6} (h : x ∈ z0y p l w) : 0 <= x.visit.early /\ x.visit.early <= 1073741824 := by
 obtain ⟨y, hy, b, rfl⟩ := z9n h
 obtain ⟨h1, h2, _, h3, h4⟩ := zah hl.len hy
 show 0 <= y.visit.early /\ y.visit.early <= 1073741824
 exact zxr (zcm hc (hl.gt h1 h2) h3) h4
theorem y4m (hφ : 800000 < φ) (p : Pool) {l : List ze} (hl : FewL l) :
  z9s φ p l = some (if z01 p = 0 then bEnd (bAll (tvl φ p.network) p.readers (zd p l)) else (⟨0, [], [], []⟩, z01 p, ())) := by
 unfold z9s
 rw [z42 φ hφ, Option.bind_some]
 by_cases hc : z01 p = 0
 case neg => rw [if_pos (by simpa using hc), if_neg hc]
 rw [if_neg (by simp [hc]), if_pos hc, y0g φ hφ hc hl, Option.bind_some]
 obtain ⟨_, hf, hr1, _⟩ := z2k hc
 obtain ⟨_, f2, _⟩ := z91 hf
 have hrd := (z90 hc).1
 show z1z φ φ (zd p l) (zd p l) ((zd p l).length : Int) 0 p 0 1 [] [] [] [] [] [] [] = _
 have hlen : (zd p l).length <= 4096 := by unfold zd; simp; omega
 have hE : ∀ T ∈ zd p l, T.length <= 2000 /\ ∀ e ∈ T, 0 <= e.visit.early /\ e.visit.early <= 1073741824 := by
  intro T hT
  unfold zd at hT
  obtain ⟨w, _, rfl⟩ := List.mem_map.1 hT
  exact ⟨y1a hl.len _, fun e he => zpj hc hl he⟩
 generalize zd p l = ts at *
 refine z0j (fun n i (m : List (Int × Int)) => z1z φ n ts ts (ts.length : Int) i p 0 1 m [] [] [] [] [] []) ts.length (fun i m => m = (ts.take i).foldl zlg []) (fun o => o = some (bEnd (bAll (tvl φ p.network) p.readers ts))) ?_ ?_ φ [] rfl (by omega)
 ·intro n i m hi hm hk
  rw [z1z, if_pos (by simp; omega), z7 ⟨by omega, by omega⟩]
  rw [zww φ (z1z φ n) ts ts (ts.length : Int) (i : Int) (gt ts (i : Int)) (hE _ (z0h (by omega) (by omega))).1 hφ, W_id (by omega) (by omega)]
  exact hk _ (by rw [z0x ts i hi, List.foldl_append, <- hm]; rfl)
 ·intro n m hm
  rw [List.take_length] at hm
  rw [z1z, if_neg (by simp)]
  refine (zpk φ hφ ts hE hlen p hr1 (fun r hr => ?_) 0 m [] []).trans ?_
  ·have := hrd r hr; omega
  ·rw [hm]; rfl
end
end Px
end
section
namespace Px
open Go
set_option linter.unusedVariables false
set_option linter.unusedSimpArgs false
def idx : List ze -> Ref -> Int
 | [], _ => 0
 | r :: l, q => if r.ref.railway = q.railway /\ r.ref.no = q.no then 0 else idx l q + 1
theorem znn : Sort.SWO ltEv where
 irrefl := fun x => by
  unfold ltEv
  simp only [decide_eq_false_iff_not]
  rw [zau]; omega
 trans := fun x y z h1 h2 => by
  unfold ltEv at *
  simp only [decide_eq_true_eq] at *
  rw [zau] at *
  omega
 ntrans := fun x y z h1 h2 => by
  unfold ltEv at *
  simp only [decide_eq_false_iff_not] at *
  rw [zau] at *
  omega
end Px
end
section
namespace Px
open Go
set_option linter.unusedVariables false
set_option linter.unusedSimpArgs false
def evE (v : Int) (e : z6) : z11 := ⟨e.visit.wagon, e.visit.place, v, e.visit.ref, e.visit.stay⟩
def evsE : Int -> List z6 -> List z11
 | _, [] => []
 | v, e :: t => evE v e :: evsE (v + 1) t
def bnds (tv : zl -> zl -> Int) (m : List (Int × Int)) : Option zl -> Int -> List z6 -> List za
 | _, _, [] => []
 | pr, v, e :: t => evB m v e ++ trB tv v pr e ++ bnds tv m (some e.visit) (v + 1) t
theorem zvr (tv m) : ∀ (t : List z6) (pr) (s : BS), (bEv tv m pr t s).v = s.v + t.length
 | [], pr, s => by simp [bEv]
 | e :: t, pr, s => by
  rw [bEv, zvr tv m t]
  simp only [zay, List.length_cons]; omega
theorem y4k (tv m) : ∀ (t : List z6) (pr) (s : BS), (bEv tv m pr t s).b = s.b ++ bnds tv m pr s.v t
 | [], pr, s => by simp [bEv, bnds]
 | e :: t, pr, s => by
  rw [bEv, y4k tv m t]
  simp only [zay, bnds, List.append_assoc]
theorem zt7 (tv m) : ∀ (t : List z6) (pr) (s : BS), (bEv tv m pr t s).e = s.e ++ evsE s.v t
 | [], pr, s => by simp [bEv, evsE]
 | e :: t, pr, s => by
  rw [bEv, zt7 tv m t]
  simp only [zay, evsE, evE, List.append_assoc, List.cons_append, List.nil_append]
theorem zog : ∀ (t : List z6) (v : Int), (evsE v t).length = t.length
 | [], v => rfl
 | e :: t, v => by simp [evsE, zog t]
theorem zhx : ∀ (t : List z6) (v : Int) (i : Nat), (evsE v t)[i]? = (t[i]?).map (evE (v + i))
 | [], v, i => by simp [evsE]
 | e :: t, v, 0 => by simp [evsE]
 | e :: t, v, i + 1 => by
  simp only [evsE, List.getElem?_cons_succ]
  rw [zhx t (v + 1) i]
  congr 2; omega
theorem zkb (tv m) : ∀ (t : List z6) (pr) (v : Int) (i : Nat) (e : z6), t[i]? = some e -> ∀ b ∈ evB m (v + i) e, b ∈ bnds tv m pr v t
 | [], pr, v, i, e, h, b, hb => by simp at h
 | x :: t, pr, v, 0, e, h, b, hb => by
  simp at h; subst h
  rw [show v + ((0 : Nat) : Int) = v by omega] at hb
  simp only [bnds]
  exact List.mem_append_left _ (List.mem_append_left _ hb)
 | x :: t, pr, v, i + 1, e, h, b, hb => by
  simp only [bnds]
  refine List.mem_append_right _ (zkb tv m t _ (v + 1) i e (by simpa using h) b ?_)
  rw [show v + 1 + (i : Int) = v + ((i + 1 : Nat) : Int) by omega]; exact hb
theorem zrc (tv m) : ∀ (t : List z6) (pr) (v : Int) (i : Nat) (a e : z6), t[i]? = some a -> t[i + 1]? = some e -> (⟨v + i + 1, v + i, 0 - tv a.visit e.visit⟩ : za) ∈ bnds tv m pr v t
 | [], pr, v, i, a, e, h, _ => by simp at h
 | [x], pr, v, 0, a, e, h, h2 => by simp at h2
 | x :: y :: t, pr, v, 0, a, e, h, h2 => by
  simp at h h2; subst h; subst h2
  simp only [bnds, trB]
  refine List.mem_append_right _ (List.mem_append_left _ (List.mem_append_right _ (List.mem_singleton.2 ?_)))
  simp
 | x :: t, pr, v, i + 1, a, e, h, h2 => by
  have := zrc tv m t (some x.visit) (v + 1) i a e (by simpa using h) (by simpa using h2)
  simp only [bnds]
  refine List.mem_append_right _ ?_
  rw [show v + ((i + 1 : Nat) : Int) + 1 = v + 1 + (i : Int) + 1 by omega, show v + ((i + 1 : Nat) : Int) = v + 1 + (i : Int) by omega]
  exact this
theorem zm5 (tv m) : ∀ (t : List z6) (pr) (v : Int) (b : za), b ∈ bnds tv m pr v t -> ∃ i : Nat, ∃ e : z6, t[i]? = some e /\ (b ∈ evB m (v + i) e \/ ∃ a : zl, (0 < i \/ pr.isSome = true) /\ b = ⟨v + i, v + i - 1, 0 - tv a e.visit⟩)
 | [], pr, v, b, h => by simp [bnds] at h
 | x :: t, pr, v, b, h => by
  simp only [bnds, List.mem_append] at h
  rcases h with (h | h) | h
  ·exact ⟨0, x, rfl, .inl (by rw [show v + ((0 : Nat) : Int) = v by omega]; exact h)⟩
  ·cases pr with
   | none => simp [trB] at h
   | some a =>
    simp only [trB, List.mem_singleton] at h
    exact ⟨0, x, rfl, .inr ⟨a, .inr rfl, by rw [h]; simp⟩⟩
  ·obtain ⟨i, e, hi, hb⟩ := zm5 tv m t _ _ b h
   refine ⟨i + 1, e, by simpa using hi, ?_⟩
   rw [show v + ((i + 1 : Nat) : Int) = v + 1 + (i : Int) by omega]
   rcases hb with hb | ⟨a, _, hb⟩
   ·exact .inl hb
   ·exact .inr ⟨a, .inl (by omega), hb⟩
def fB (tv : zl -> zl -> Int) (m : List (Int × Int)) (ts : List (List z6)) (s : BS) : BS := ts.foldl (fun s t => bEv tv m none t s) s
theorem y6q (tv m) (A B : List (List z6)) (s : BS) : fB tv m (A ++ B) s = fB tv m B (fB tv m A s) := List.foldl_append ..
theorem zem (tv m) : ∀ (ts : List (List z6)) (s : BS), s.v <= (fB tv m ts s).v /\ (∃ b, (fB tv m ts s).b = s.b ++ b) /\ ∃ e, (fB tv m ts s).e = s.e ++ e
 | [], s => ⟨Int.le_refl _, ⟨[], by simp [fB]⟩, [], by simp [fB]⟩
 | t :: ts, s => by
  obtain ⟨h1, ⟨b, h2⟩, e, h3⟩ := zem tv m ts (bEv tv m none t s)
  have e1 : fB tv m (t :: ts) s = fB tv m ts (bEv tv m none t s) := rfl
  rw [e1]
  rw [zvr] at h1
  rw [y4k] at h2
  rw [zt7] at h3
  exact ⟨by omega, ⟨_, by rw [h2, List.append_assoc]⟩, _, by rw [h3, List.append_assoc]⟩
theorem zj5 (tv m) (A B : List (List z6)) (t : List z6) (s : BS) : s.v <= (fB tv m A s).v /\ (fB tv m A s).v + t.length <= (fB tv m (A ++ t :: B) s).v /\
  (∀ b ∈ bnds tv m none (fB tv m A s).v t, b ∈ (fB tv m (A ++ t :: B) s).b) /\ ∃ e, (fB tv m (A ++ t :: B) s).e = (fB tv m A s).e ++ (evsE (fB tv m A s).v t ++ e) := by
 have e1 : fB tv m (A ++ t :: B) s = fB tv m B (bEv tv m none t (fB tv m A s)) := by rw [y6q]; rfl
 obtain ⟨h1, ⟨b, h2⟩, e, h3⟩ := zem tv m B (bEv tv m none t (fB tv m A s))
 rw [e1]
 rw [zvr] at h1
 rw [y4k] at h2
 rw [zt7] at h3
 refine ⟨(zem tv m A s).1, h1, fun x hx => ?_, e, by rw [h3, List.append_assoc]⟩
 rw [h2]
 exact List.mem_append_left _ (List.mem_append_right _ hx)
theorem y0s (tv m) : ∀ (ts : List (List z6)) (s : BS) (b : za), b ∈ (fB tv m ts s).b -> b ∈ s.b \/ ∃ A t B, ts = A ++ t :: B /\ b ∈ bnds tv m none (fB tv m A s).v t
 | [], s, b, h => .inl h
 | t :: ts, s, b, h => by
  have e1 : fB tv m (t :: ts) s = fB tv m ts (bEv tv m none t s) := rfl
  rw [e1] at h
  rcases y0s tv m ts _ b h with h2 | ⟨A, t', B, e2, h2⟩
  ·rw [y4k] at h2
   rcases List.mem_append.1 h2 with h2 | h2
   ·exact .inl h2
   ·exact .inr ⟨[], t, ts, rfl, h2⟩
  ·exact .inr ⟨t :: A, t', B, by rw [e2]; rfl, h2⟩
theorem zs5 (tv m) : ∀ (ts : List (List z6)) (s : BS) (x : z11), x ∈ (fB tv m ts s).e -> x ∈ s.e \/ ∃ A t B, ts = A ++ t :: B /\ x ∈ evsE (fB tv m A s).v t
 | [], s, b, h => .inl h
 | t :: ts, s, b, h => by
  have e1 : fB tv m (t :: ts) s = fB tv m ts (bEv tv m none t s) := rfl
  rw [e1] at h
  rcases zs5 tv m ts _ b h with h2 | ⟨A, t', B, e2, h2⟩
  ·rw [zt7] at h2
   rcases List.mem_append.1 h2 with h2 | h2
   ·exact .inl h2
   ·exact .inr ⟨[], t, ts, rfl, h2⟩
  ·exact .inr ⟨t :: A, t', B, by rw [e2]; rfl, h2⟩
theorem znu (rs : List z1o) (m : List (Int × Int)) : ∀ n : Nat, (∀ i : Nat, i < n -> (mget m (i : Int)).isSome = true -> ∃ v, mget (rdsN rs m n).m (i : Int) = some v /\ 1 <= v /\ v < (rdsN rs m n).v) /\ ∀ k : Int, (n : Int) <= k -> mget (rdsN rs m n).m k = mget m k
 | 0 => ⟨fun i h => by omega, fun k _ => rfl⟩
 | n + 1 => by
  obtain ⟨h1, h2⟩ := znu rs m n
  have hv := (z8h rs m n).1
  have h3 := h2 (n : Int) (Int.le_refl _)
  simp only [rdsN, zi8]
  split
  ·rename_i hs
   refine ⟨fun i hi hm => ?_, fun k hk => ?_⟩
   ·simp only [zb9]
    by_cases e : i = n
    ·subst e; exact ⟨_, if_pos rfl, hv, by omega⟩
    ·obtain ⟨v, q1, q2, q3⟩ := h1 i (by omega) hm
     exact ⟨v, by rw [if_neg (by omega)]; exact q1, q2, by omega⟩
   ·simp only [zb9]
    rw [if_neg (by omega)]; exact h2 k (by omega)
  ·rename_i hs
   refine ⟨fun i hi hm => ?_, fun k hk => h2 k (by omega)⟩
   by_cases e : i = n
   ·subst e; rw [h3] at hs; exact absurd hm hs
   ·exact h1 i (by omega) hm
theorem zvw {m : List (Int × Int)} {e : z6} {k : Int} (h : (mget m k).isSome = true) : (mget (zvg m e) k).isSome = true := by
 unfold zvg
 split
 ·rw [zb9]; split
  ·rfl
  ·exact h
 ·exact h
theorem zgz : ∀ (t : List z6) {m : List (Int × Int)} {k : Int}, (mget m k).isSome = true -> (mget (zlg m t) k).isSome = true
 | [], m, k, h => h
 | e :: t, m, k, h => zgz t (zvw h)
theorem zp5 : ∀ (t : List z6) (m : List (Int × Int)) (e : z6), e ∈ t -> 0 <= e.reader -> (mget (zlg m t) e.reader).isSome = true
 | x :: t, m, e, he, h => by
  rcases List.mem_cons.1 he with rfl | he
  ·refine zgz t (m := zvg m e) ?_
   unfold zvg
   rw [if_pos h, zb9, if_pos rfl]; rfl
  ·exact zp5 t _ e he h
theorem zxn (ts : List (List z6)) {k : Int} : ∀ {m : List (Int × Int)}, (mget m k).isSome = true -> (mget (ts.foldl zlg m) k).isSome = true := by
 induction ts with
 | nil => intro m h; exact h
 | cons t ts ih => intro m h; rw [List.foldl_cons]; exact ih (zgz t h)
theorem zuc (ts : List (List z6)) : ∀ (m : List (Int × Int)) (t : List z6) (e : z6), t ∈ ts -> e ∈ t -> 0 <= e.reader -> (mget (ts.foldl zlg m) e.reader).isSome = true := by
 induction ts with
 | nil => intro m t e ht; cases ht
 | cons x ts ih =>
  intro m t e ht he h
  rw [List.foldl_cons]
  rcases List.mem_cons.1 ht with e1 | ht
  ·subst e1
   exact zxn ts (zp5 t m e he h)
  ·exact ih _ t e ht he h
structure TsOK (rs : List z1o) (ts : List (List z6)) : Prop where
 early : ∀ t ∈ ts, ∀ e ∈ t, 0 <= e.visit.early /\ e.visit.early <= 1073741824
 reader : ∀ t ∈ ts, ∀ e ∈ t, e.reader < (rs.length : Int)
 rs : ∀ r ∈ rs, -1000 <= r.low /\ r.low <= r.high /\ r.high <= 1000
abbrev rdM (rs : List z1o) (ts : List (List z6)) : List (Int × Int) := (rdsN rs (used ts) rs.length).m
abbrev rd0 (rs : List z1o) (ts : List (List z6)) : BS := ⟨(rdsN rs (used ts) rs.length).v, (rdsN rs (used ts) rs.length).b, (rdsN rs (used ts) rs.length).y, []⟩
theorem zbe (tv) (rs : List z1o) (ts : List (List z6)) : bAll tv rs ts = fB tv (rdM rs ts) ts (rd0 rs ts) := rfl
theorem y9n {rs : List z1o} {ts : List (List z6)} (h : TsOK rs ts) {t : List z6} (ht : t ∈ ts) {e : z6} (he : e ∈ t) (hr : 0 <= e.reader) : mget (rdM rs ts) e.reader = some (rv (rdM rs ts) e) /\ 1 <= rv (rdM rs ts) e /\ rv (rdM rs ts) e < (rd0 rs ts).v := by
 have h2 := h.reader t ht e he
 have := zuc ts [] t e ht he hr
 obtain ⟨v, q1, q2, q3⟩ := (znu rs (used ts) rs.length).1 e.reader.toNat (by omega) (by rw [show ((e.reader.toNat : Nat) : Int) = e.reader by omega]; exact this)
 rw [show ((e.reader.toNat : Nat) : Int) = e.reader by omega] at q1
 have e1 : rv (rdM rs ts) e = v := by unfold rv; rw [show mget (rdM rs ts) e.reader = some v from q1]; rfl
 rw [e1]
 exact ⟨q1, q2, q3⟩
theorem zv4 (rs : List z1o) (m : List (Int × Int)) : ∀ n : Nat, n <= rs.length -> ∀ b ∈ (rdsN rs m n).b, ∃ r ∈ rs, ∃ v, 1 <= v /\ v < (rdsN rs m n).v /\ (b = ⟨0, v, 0 - r.low⟩ \/ b = ⟨v, 0, r.high⟩)
 | 0, _, b, hb => by simp [rdsN] at hb
 | n + 1, hn, b, hb => by
  have hv := (z8h rs m n).1
  have ih := zv4 rs m n (by omega)
  simp only [rdsN, zi8] at hb ⊢
  split at hb
  ·rename_i hs
   rw [if_pos hs]
   simp only [List.mem_append, List.mem_cons, List.not_mem_nil, or_false] at hb
   rcases hb with hb | rfl | rfl
   ·obtain ⟨r, hr, v, q1, q2, q3⟩ := ih b hb
    exact ⟨r, hr, v, q1, by simp only; omega, q3⟩
   ·exact ⟨_, z0h (l := rs) (i := (n : Int)) (by omega) (by omega), _, hv, by simp only; omega, .inl rfl⟩
   ·exact ⟨_, z0h (l := rs) (i := (n : Int)) (by omega) (by omega), _, hv, by simp only; omega, .inr rfl⟩
  ·rename_i hs
   rw [if_neg hs]
   exact ih b hb
theorem yca {rs : List z1o} {ts : List (List z6)} (h : TsOK rs ts) {t : List z6} (ht : t ∈ ts) {e : z6} (he : e ∈ t) {v : Int} (hv : (rd0 rs ts).v <= v) {n : Nat} (hn : v < (n : Int)) {b : za} (hb : b ∈ evB (rdM rs ts) v e) : okBd n b := by
 have h1 := h.early t ht e he
 have h0 := (z8h rs (used ts) rs.length).1
 change 1 <= (rd0 rs ts).v at h0
 unfold evB at hb
 split at hb
 ·simp only [List.mem_cons, List.not_mem_nil, or_false] at hb
  rcases hb with rfl | rfl <;> exact ⟨by simp only; omega, by simp only; omega, by simp only; omega, by simp only; omega, by simp only; omega, by simp only; omega⟩
 ·rename_i hr
  obtain ⟨_, q1, q2⟩ := y9n h ht he (by omega)
  simp only [List.mem_cons, List.not_mem_nil, or_false] at hb
  rcases hb with rfl | rfl | rfl | rfl <;> exact ⟨by simp only; omega, by simp only; omega, by simp only; omega, by simp only; omega, by simp only; omega, by simp only; omega⟩
theorem y9c {tv : zl -> zl -> Int} (htv : ∀ a b, 0 <= tv a b /\ tv a b <= 1073741825) {rs : List z1o} {ts : List (List z6)} (h : TsOK rs ts) : 1 <= (bAll tv rs ts).v /\ ∀ b ∈ (bAll tv rs ts).b, okBd (bAll tv rs ts).v.toNat b := by
 have h0 := (z8h rs (used ts) rs.length).1
 change 1 <= (rd0 rs ts).v at h0
 rw [zbe]
 obtain ⟨m1, m2, m3⟩ := zem tv (rdM rs ts) ts (rd0 rs ts)
 refine ⟨by omega, fun b hb => ?_⟩
 rcases y0s tv (rdM rs ts) ts _ b hb with hb | ⟨A, t, B, rfl, hb⟩
 ·obtain ⟨r, hr, v, q1, q2, q3⟩ := zv4 rs (used ts) rs.length (Nat.le_refl _) b hb
  change v < (rd0 rs ts).v at q2
  have := h.rs r hr
  rcases q3 with rfl | rfl <;> exact ⟨by simp only; omega, by simp only; omega, by simp only; omega, by simp only; omega, by simp only; omega, by simp only; omega⟩
 ·obtain ⟨k1, k2, k3, k4⟩ := zj5 tv (rdM rs (A ++ t :: B)) A B t (rd0 rs (A ++ t :: B))
  obtain ⟨i, e, hi, hb⟩ := zm5 tv _ t none _ b hb
  have hlt := (List.getElem?_eq_some_iff.1 hi).1
  have hte : t ∈ A ++ t :: B := by simp
  have hee : e ∈ t := List.mem_of_getElem? hi
  rcases hb with hb | ⟨a, ha, rfl⟩
  ·exact yca h hte hee (by omega) (by omega) hb
  ·have := htv a e.visit
   have hi0 : 0 < i := ha.resolve_right (by simp)
   exact ⟨by simp only; omega, by simp only; omega, by simp only; omega, by simp only; omega, by simp only; omega, by simp only; omega⟩
section
variable {X : Int -> Int} {m : List (Int × Int)} {v : Int} {e : z6}
theorem zhl (hX : ∀ b ∈ evB m v e, X b.j - X b.i <= b.w) (he : 0 <= e.visit.early /\ e.visit.early <= 1073741824) : 0 <= X v - X 0 /\ X v - X 0 <= 1073741824 := by
 unfold evB at hX
 split at hX
 ·have h1 := hX ⟨0, v, e.visit.early⟩ (by simp)
  have h2 := hX ⟨v, 0, 0 - e.visit.early⟩ (by simp)
  simp only at h1 h2; omega
 ·have h1 := hX ⟨0, v, 1073741824⟩ (by simp)
  have h2 := hX ⟨v, 0, 0⟩ (by simp)
  simp only at h1 h2; omega
theorem y1y (hX : ∀ b ∈ evB m v e, X b.j - X b.i <= b.w) (he : 0 <= e.reader) : X v - X (rv m e) = e.visit.early := by
 unfold evB at hX
 rw [if_neg (by omega)] at hX
 have h1 := hX ⟨rv m e, v, e.visit.early⟩ (by simp)
 have h2 := hX ⟨v, rv m e, 0 - e.visit.early⟩ (by simp)
 simp only at h1 h2; omega
end
theorem zp9 {p : Pool} (hc : z01 p = 0) {l : List ze} (hl : FewL l) {w : Int} {x : z6} (h : x ∈ z0y p l w) : x.reader < (p.readers.length : Int) := by
 obtain ⟨y, hy, b, rfl⟩ := z9n h
 obtain ⟨h1, h2, _, h3, h4⟩ := zah hl.len hy
 show y.reader < _
 have ho := zcm hc (hl.gt h1 h2) h3
 unfold evs at h4
 split at h4
 ·rename_i hk
  simp only [List.mem_singleton] at h4
  rw [h4]; exact (ho.read hk).2
 ·split at h4
  ·simp only [List.mem_cons, List.not_mem_nil, or_false] at h4
   rcases h4 with q | q <;> rw [q] <;> simp only <;> omega
  ·split at h4
   ·simp only [List.mem_singleton] at h4
    rw [h4]; simp only; omega
   ·cases h4
theorem tsOK {p : Pool} (hc : z01 p = 0) {l : List ze} (hl : FewL l) : TsOK p.readers (zd p l) := by
 refine ⟨fun t ht e he => ?_, fun t ht e he => ?_, fun r hr => ?_⟩
 ·obtain ⟨w, _, rfl⟩ := List.mem_map.1 ht; exact zpj hc hl he
 ·obtain ⟨w, _, rfl⟩ := List.mem_map.1 ht; exact zp9 hc hl he
 ·have := (z90 hc).1 r hr; omega
end Px
end
section
namespace Px
open Go
set_option linter.unusedVariables false
set_option linter.unusedSimpArgs false
def KU (m : List (Int × Bool)) : Prop := (m.map (·.1)).Nodup
theorem zuf {k : Int} {v : Bool} : ∀ {m : List (Int × Bool)} {q : Int × Bool}, q ∈ mset m k v -> q ∈ m \/ q.1 = k
 | [], q, h => by simp [mset] at h; exact .inr (by rw [h])
 | (a, b) :: m, q, h => by
  simp only [mset] at h
  cases hk : (k == a) with
  | true =>
   rw [hk] at h
   rcases List.mem_cons.1 h with rfl | h
   ·exact .inr rfl
   ·exact .inl (List.mem_cons_of_mem _ h)
  | false =>
   rw [hk] at h
   rcases List.mem_cons.1 h with rfl | h
   ·exact .inl (List.mem_cons_self ..)
   ·exact (zuf h).imp (List.mem_cons_of_mem _) id
theorem KU.mset {k : Int} {v : Bool} : ∀ {m : List (Int × Bool)}, KU m -> KU (Px.mset m k v)
 | [], _ => by simp [Px.mset, KU]
 | (a, b) :: m, h => by
  simp only [KU, List.map_cons, List.nodup_cons] at h
  simp only [Px.mset]
  cases hk : (k == a) with
  | true =>
   have : k = a := by simpa using hk
   subst this
   simp only [cond_true, KU, List.map_cons, List.nodup_cons]
   exact h
  | false =>
   simp only [cond_false, KU, List.map_cons, List.nodup_cons]
   refine ⟨fun hm => ?_, KU.mset h.2⟩
   obtain ⟨q, hq, he⟩ := List.mem_map.1 hm
   rcases zuf hq with hq | hq
   ·exact h.1 (List.mem_map.2 ⟨q, hq, he⟩)
   ·rw [hq] at he; rw [he] at hk; simp at hk
theorem KU.mdel {k : Int} : ∀ {m : List (Int × Bool)}, KU m -> KU (Px.mdel m k) /\ ∀ q ∈ Px.mdel m k, q ∈ m /\ q.1 ≠ k
 | [], h => ⟨h, fun q hq => by cases hq⟩
 | (a, b) :: m, h => by
  have h0 := h
  simp only [KU, List.map_cons, List.nodup_cons] at h
  simp only [Px.mdel]
  cases hk : (k == a) with
  | true =>
   have : k = a := by simpa using hk
   subst this
   refine ⟨h.2, fun q hq => ⟨List.mem_cons_of_mem _ hq, fun e => h.1 (List.mem_map.2 ⟨q, hq, e⟩)⟩⟩
  | false =>
   obtain ⟨i1, i2⟩ := KU.mdel (k := k) (m := m) h.2
   refine ⟨?_, fun q hq => ?_⟩
   ·simp only [cond_false, KU, List.map_cons, List.nodup_cons]
    refine ⟨fun hm => ?_, i1⟩
    obtain ⟨q, hq, he⟩ := List.mem_map.1 hm
    exact h.1 (List.mem_map.2 ⟨q, (i2 q hq).1, he⟩)
   ·rcases List.mem_cons.1 hq with rfl | hq
    ·exact ⟨List.mem_cons_self .., fun e => by simp at hk; exact hk e.symm⟩
    ·exact ⟨List.mem_cons_of_mem _ (i2 q hq).1, (i2 q hq).2⟩
def Ends (t : List z6) : Prop := ∀ A e B, t = A ++ e :: B -> e.stay = true -> e.second = false -> ∃ y ∈ B, y.stay = true /\ y.second = true /\ y.report = e.report
theorem zpy : ∀ (A B : List z6) (m : List (Int × Bool)), zeb (A ++ B) m = zeb A m ++ zeb B (A.foldl (fun m e => covM e m) m)
 | [], B, m => rfl
 | e :: A, B, m => by simp only [List.cons_append, zeb, List.foldl_cons, zpy A B]
theorem y7r {p : Pool} (hc : z01 p = 0) {l : List ze} (hl : FewL l) {w : Int} {x : z6} (h : x ∈ uns p l w) (h1 : x.stay = true) (h2 : x.second = false) : ∃ y ∈ uns p l w, y.stay = true /\ y.second = true /\ y.report = x.report /\ ltEv x y = true := by
 obtain ⟨a1, a2, a3, a4, a5⟩ := zah hl.len h
 have ho := zcm hc (hl.gt a1 a2) a4
 simp only [uns, unsC, List.mem_flatMap] at h
 obtain ⟨i, hi, hx⟩ := h
 split at hx
 case isFalse => cases hx
 rename_i hw
 obtain ⟨r1, r2, r3⟩ := z8x hx
 rw [r1] at ho a5
 unfold evs at a5
 split at a5
 ·simp only [List.mem_singleton] at a5; rw [a5] at h1; cases h1
 ·rename_i hk1
  split at a5
  ·rename_i hk
   simp only [List.mem_cons, List.not_mem_nil, or_false] at a5
   rcases a5 with a5 | a5
   ·refine ⟨⟨z3x (gt l i) (gt l i).item.place (gt l i).item.to, i, true, true, -1⟩, ?_, rfl, rfl, by rw [a5], ?_⟩
    ·simp only [uns, unsC, List.mem_flatMap]
     refine ⟨i, hi, ?_⟩
     rw [if_pos hw, evs, if_neg hk1, if_pos hk]
     simp
    ·have := (ho.to hk).1
     rw [a5]
     simp only [ltEv, decide_eq_true_eq, zau, z3x, ordB]
     simp
     omega
   ·rw [a5] at h2; cases h2
  ·split at a5
   ·simp only [List.mem_singleton] at a5; rw [a5] at h1; cases h1
   ·cases a5
theorem y4d {p : Pool} (hc : z01 p = 0) {l : List ze} (hl : FewL l) (w : Int) : Ends (srt p l w) := by
 intro A e B hs h1 h2
 have hmem : ∀ x, x ∈ srt p l w ↔ x ∈ uns p l w := fun x => (z1u _ _).mem_iff
 obtain ⟨y, hy, y1, y2, y3, y4⟩ := y7r hc hl ((hmem e).1 (by rw [hs]; simp)) h1 h2
 have hy2 := (hmem y).2 hy
 rw [hs] at hy2
 have hpw := z7t znn (uns p l w)
 change (srt p l w).Pairwise _ at hpw
 rw [hs, List.pairwise_append] at hpw
 rcases List.mem_append.1 hy2 with hy2 | hy2
 ·have := hpw.2.2 y hy2 e (List.mem_cons_self ..)
  rw [this] at y4; cases y4
 ·rcases List.mem_cons.1 hy2 with rfl | hy2
  ·rw [y2] at h2; cases h2
  ·exact ⟨y, hy2, y1, y2, y3⟩
theorem zwj {φ : Nat} {x : zi} {a b : zl} (h : a.stay = true) (h2 : a.place ≠ b.place) : tvl φ x a b = 1073741825 := by
 unfold tvl z35
 rw [if_pos (by simp [h, h2])]; rfl
theorem zlq {α : Type} [Inhabited α] {l : List α} {i : Nat} (h : i < l.length) : l[i]? = some (gt l (i : Int)) := by rw [z2a h]; exact List.getElem?_eq_getElem h
end Px
end
section
namespace Px
open Go
set_option linter.unusedVariables false
set_option linter.unusedSimpArgs false
theorem y6o {φ : Nat} (hφ : 800000 < φ) {x : zi} {a b : zl} (h : tvl φ x a b < 1073741825) : ∃ t, zp φ x a.place b.place = some (t, 0, ()) /\ tvl φ x a b = t := by
 unfold tvl z35 at h ⊢
 split at h
 ·simp at h
 ·rename_i hc
  rw [if_neg hc]
  obtain ⟨t, e, hb, _, _⟩ := zh0 φ hφ x a.place b.place
  rw [hb, Option.bind_some] at h
  rw [hb, Option.bind_some]
  split at h
  ·simp at h
  ·rename_i he
   rw [if_neg he]
   simp only [bne_iff_ne, ne_eq, Decidable.not_not] at he
   subst he
   exact ⟨t, rfl, rfl⟩
theorem zrj {α : Type} {A B : List α} {i : Nat} {a b : α} (h1 : (A ++ B)[i]? = some a) (h2 : (A ++ B)[i + 1]? = some b) : (A[i]? = some a /\ A[i + 1]? = some b) \/ (a ∈ A /\ B[0]? = some b) \/ ∃ k, B[k]? = some a /\ B[k + 1]? = some b := by
 by_cases q : i + 1 < A.length
 ·rw [List.getElem?_append_left q] at h2
  rw [List.getElem?_append_left (by omega)] at h1
  exact .inl ⟨h1, h2⟩
 ·rw [List.getElem?_append_right (by omega)] at h2
  by_cases q2 : i < A.length
  ·rw [List.getElem?_append_left q2] at h1
   refine .inr (.inl ⟨List.mem_of_getElem? h1, ?_⟩)
   rwa [show i + 1 - A.length = 0 by omega] at h2
  ·rw [List.getElem?_append_right (by omega)] at h1
   refine .inr (.inr ⟨i - A.length, h1, ?_⟩)
   rwa [show i + 1 - A.length = i - A.length + 1 by omega] at h2
def y7y (ts : List (List z6)) : Prop := ts.Pairwise fun t t' => ∀ x ∈ t, ∀ y ∈ t', x.visit.wagon ≠ y.visit.wagon
theorem zyf (tv m) (s : BS) (hs : s.e = []) : ∀ (n : Nat) (ts : List (List z6)), ts.length = n -> y7y ts -> ∀ (i : Nat) (a b : z11), (fB tv m ts s).e[i]? = some a -> (fB tv m ts s).e[i + 1]? = some b -> a.wagon = b.wagon ->
  ∃ A t B, ∃ k : Nat, ∃ x y, ts = A ++ t :: B /\ t[k]? = some x /\ t[k + 1]? = some y /\ a = evE ((fB tv m A s).v + (k : Int)) x /\ b = evE ((fB tv m A s).v + ((k + 1 : Nat) : Int)) y
 | 0, ts, hn, _, i, a, b, h1, h2, _ => by
  have : ts = [] := List.eq_nil_of_length_eq_zero hn
  subst this
  simp [fB, hs] at h1
 | n + 1, ts, hn, hA, i, a, b, h1, h2, hw => by
  rcases List.eq_nil_or_concat ts with rfl | ⟨us, t, rfl⟩
  ·simp at hn
  ·rw [List.concat_eq_append] at *
   have e1 : fB tv m (us ++ [t]) s = bEv tv m none t (fB tv m us s) := by rw [y6q]; rfl
   rw [e1, zt7] at h1 h2
   have hA2 := List.pairwise_append.1 hA
   rcases zrj h1 h2 with ⟨q1, q2⟩ | ⟨q1, q2⟩ | ⟨k, q1, q2⟩
   ·obtain ⟨A, t', B, k, x, y, r1, r2⟩ := zyf tv m s hs n us (by simpa using hn) hA2.1 i a b q1 q2 hw
    exact ⟨A, t', B ++ [t], k, x, y, by rw [r1]; simp, r2⟩
   ·exfalso
    rw [zhx] at q2
    obtain ⟨y, hy, rfl⟩ := Option.map_eq_some_iff.1 q2
    rcases zs5 tv m us s a q1 with h | ⟨A, t', B, r1, r2⟩
    ·rw [hs] at h; cases h
    ·obtain ⟨j, hj⟩ := List.getElem?_of_mem r2
     rw [zhx] at hj
     obtain ⟨x, hx, rfl⟩ := Option.map_eq_some_iff.1 hj
     exact hA2.2.2 t' (by rw [r1]; simp) t (by simp) x (List.mem_of_getElem? hx) y (List.mem_of_getElem? hy) hw
   ·rw [zhx] at q1 q2
    obtain ⟨x, hx, rfl⟩ := Option.map_eq_some_iff.1 q1
    obtain ⟨y, hy, rfl⟩ := Option.map_eq_some_iff.1 q2
    exact ⟨us, t, [], k, x, y, rfl, hx, hy, rfl, rfl⟩
theorem z5m {p : Pool} {l : List ze} (hl : FewL l) {w : Int} {x : z6} (h : x ∈ z0y p l w) : x.visit.wagon = w := by
 obtain ⟨y, hy, b, rfl⟩ := z9n h
 exact (zah hl.len hy).2.2.1
theorem zpz (p : Pool) {l : List ze} (hl : FewL l) : y7y (zd p l) := by
 unfold y7y zd
 rw [List.pairwise_map]
 refine List.pairwise_lt_range.imp fun {a b} hab x hx y hy => ?_
 rw [z5m hl hx, z5m hl hy]
 omega
theorem yau {tv : zl -> zl -> Int} {rs : List z1o} {ts : List (List z6)} {ev : z11} (h : ev ∈ (bAll tv rs ts).e) : ∃ t ∈ ts, ∃ x ∈ t, ∃ v, ev = evE v x /\ 1 <= v /\ v < (bAll tv rs ts).v /\ ∀ b ∈ evB (rdM rs ts) v x, b ∈ (bAll tv rs ts).b := by
 rw [zbe] at h ⊢
 have h0 := (z8h rs (used ts) rs.length).1
 change 1 <= (rd0 rs ts).v at h0
 rcases zs5 tv (rdM rs ts) ts _ ev h with h | ⟨A, t, B, rfl, h⟩
 ·cases h
 ·obtain ⟨k1, k2, k3, k4⟩ := zj5 tv (rdM rs (A ++ t :: B)) A B t (rd0 rs (A ++ t :: B))
  obtain ⟨i, hi⟩ := List.getElem?_of_mem h
  rw [zhx] at hi
  obtain ⟨x, hx, rfl⟩ := Option.map_eq_some_iff.1 hi
  have hlt := (List.getElem?_eq_some_iff.1 hx).1
  exact ⟨t, by simp, x, List.mem_of_getElem? hx, _, rfl, by omega, by omega, fun b hb => k3 b (zkb tv _ t none _ i x hx b hb)⟩
theorem yb2 {tv : zl -> zl -> Int} {rs : List z1o} {ts : List (List z6)} {ev : z11} (h : ev ∈ (bAll tv rs ts).e) : 1 <= ev.var /\ ev.var < (bAll tv rs ts).v := by
 obtain ⟨t, ht, y, hy, v, rfl, v1, v2, hv⟩ := yau h
 exact ⟨v1, v2⟩
theorem zy7 (tv m) : ∀ (ts : List (List z6)) (s : BS), (fB tv m ts s).e.length <= s.e.length + ((fB tv m ts s).v - s.v).toNat
 | [], s => by simp [fB]
 | t :: ts, s => by
  have ih := zy7 tv m ts (bEv tv m none t s)
  have hm := (zem tv m ts (bEv tv m none t s)).1
  have e1 : fB tv m (t :: ts) s = fB tv m ts (bEv tv m none t s) := rfl
  rw [e1]
  rw [zvr] at ih hm
  rw [zt7, List.length_append, zog] at ih
  omega
theorem zyk (tv) (rs : List z1o) (ts : List (List z6)) : ((bAll tv rs ts).e.length : Int) <= (bAll tv rs ts).v := by
 have h0 := (z8h rs (used ts) rs.length).1
 change 1 <= (rd0 rs ts).v at h0
 have := zy7 tv (rdM rs ts) ts (rd0 rs ts)
 have hm := (zem tv (rdM rs ts) ts (rd0 rs ts)).1
 rw [zbe]
 simp only [rd0, List.length_nil] at this
 simp only [rd0] at hm h0 ⊢
 omega
end Px
end
section
namespace Px
open Go
set_option linter.unusedVariables false
set_option linter.unusedSimpArgs false
def zpw (n : Int) (L : List za) : Prop := ∀ v : Int, 1 <= v -> v < n -> (∃ b ∈ L, b.i = 0 /\ b.j = v) /\ ∃ b ∈ L, b.i = v /\ b.j = 0
theorem zpw.app {n : Int} {L M : List za} (h : zpw n L) : zpw n (L ++ M) := fun v h1 h2 => by
 obtain ⟨⟨b, q1, q2⟩, c, q3, q4⟩ := h v h1 h2
 exact ⟨⟨b, List.mem_append_left _ q1, q2⟩, c, List.mem_append_left _ q3, q4⟩
theorem zp4 (rs : List z1o) (m : List (Int × Int)) : ∀ n : Nat, zpw (rdsN rs m n).v (rdsN rs m n).b
 | 0 => fun v h1 h2 => by simp only [rdsN] at h2; omega
 | n + 1 => by
  have ih := zp4 rs m n
  simp only [rdsN, zi8]
  split
  ·intro v h1 h2
   simp only at h2 ⊢
   by_cases e : v = (rdsN rs m n).v
   ·subst e
    exact ⟨⟨_, List.mem_append_right _ (List.mem_cons_self ..), rfl, rfl⟩, _, List.mem_append_right _ (List.mem_cons_of_mem _ (List.mem_cons_self ..)), rfl, rfl⟩
   ·exact ih.app v h1 (by omega)
  ·exact ih
theorem y1o (m : List (Int × Int)) (v : Int) (e : z6) : (∃ b ∈ evB m v e, b.i = 0 /\ b.j = v) /\ ∃ b ∈ evB m v e, b.i = v /\ b.j = 0 := by
 unfold evB
 split
 ·exact ⟨⟨⟨0, v, e.visit.early⟩, by simp, rfl, rfl⟩, ⟨v, 0, 0 - e.visit.early⟩, by simp, rfl, rfl⟩
 ·exact ⟨⟨⟨0, v, 1073741824⟩, by simp, rfl, rfl⟩, ⟨v, 0, 0⟩, by simp, rfl, rfl⟩
theorem zuu (tv m) : ∀ (t : List z6) (pr) (s : BS), zpw s.v s.b -> zpw (bEv tv m pr t s).v (bEv tv m pr t s).b
 | [], pr, s, h => h
 | e :: t, pr, s, h => zuu tv m t _ _ (by
  intro v h1 h2
  simp only [zay] at h2 ⊢
  by_cases q : v = s.v
  ·subst q
   obtain ⟨⟨b, b1, b2⟩, c, c1, c2⟩ := y1o m s.v e
   exact ⟨⟨b, List.mem_append_left _ (List.mem_append_right _ b1), b2⟩, c, List.mem_append_left _ (List.mem_append_right _ c1), c2⟩
  ·exact (h.app.app) v h1 (by omega))
theorem y06 (tv m) : ∀ (ts : List (List z6)) (s : BS), zpw s.v s.b -> zpw (fB tv m ts s).v (fB tv m ts s).b
 | [], s, h => h
 | t :: ts, s, h => y06 tv m ts _ (zuu tv m t none s h)
theorem zxd (tv) (rs : List z1o) (ts : List (List z6)) : Conn (bAll tv rs ts).b (bAll tv rs ts).v.toNat := by
 have h := y06 tv (rdM rs ts) ts (rd0 rs ts) (zp4 rs (used ts) rs.length)
 rw [<- zbe] at h
 exact fun v h1 h2 => h v h1 (by omega)
def SolF (s : BS) (X : Int -> Int) : Prop := ∀ b ∈ s.b, X b.j - X b.i <= b.w
theorem zge {s : BS} {X : Int -> Int} : SolF s X ↔ SolD false s.b X := by
 unfold SolF SolD bdJ bdI
 simp
theorem yc3 {L : List za} {d : Int -> Int} (h : SolD true L d) : ∀ b ∈ L, (- d b.j) - (- d b.i) <= b.w := fun b hb => by
 have := h b hb
 simp only [bdJ, bdI, if_true] at this
 omega
structure ETs (s : BS) (E T : Int -> Int) : Prop where
 eS : SolF s E
 tS : SolF s T
 e0 : E 0 = 0
 t0 : T 0 = 0
 e : ∀ X, SolF s X -> ∀ v, 0 <= v -> v < s.v -> E v <= X v - X 0
 t : ∀ X, SolF s X -> ∀ v, 0 <= v -> v < s.v -> X v - X 0 <= T v
theorem yc5 {s : BS} (h1 : 1 <= s.v) {d t : Int -> Int} (hd : zmi true s.b s.v.toNat 0 d) (ht : zmi false s.b s.v.toNat 0 t) : ETs s (fun v => - d v) t := by
 refine ⟨yc3 hd.sat, zge.2 ht.sat, by have := hd.zero; omega, ht.zero, fun X hX v v0 v1 => ?_, fun X hX v v0 v1 => ht.top X (zge.1 hX) v v0 (by omega)⟩
 have := hd.top (fun v => - X v) (zun (zge.1 hX)) v v0 (by omega)
 omega
section
variable {φ : Nat} (hφ : 800000 < φ) {p : Pool} (hc : z01 p = 0) {l : List ze} (hl : FewL l)
theorem zwo {p : Pool} (hc : z01 p = 0) {r : ze} (h : zp2 p r.item) {i : Int} {x : z6} (hx : x ∈ evs p r i) : okPl p.network x.visit.place := by
 unfold evs at hx
 split at hx
 ·rename_i hk
  simp only [List.mem_singleton] at hx; subst hx
  obtain ⟨h0, h1⟩ := h.read hk
  have := (z90 hc).1 _ (z0h (l := p.readers) h0 h1)
  exact ⟨this.1, this.2.1⟩
 ·split at hx
  ·rename_i hk
   have := h.place (by omega)
   simp only [List.mem_cons, List.not_mem_nil, or_false] at hx
   rcases hx with rfl | rfl <;> exact this
  ·split at hx
   ·rename_i hk
    have := h.place (by omega)
    simp only [List.mem_singleton] at hx; subst hx
    exact this
   ·cases hx
include hc hl
theorem zkw {w : Int} {x : z6} (h : x ∈ z0y p l w) : okPl p.network x.visit.place := by
 obtain ⟨y, hy, b, rfl⟩ := z9n h
 obtain ⟨h1, h2, _, h3, h4⟩ := zah hl.len hy
 exact zwo (x := y) hc (zcm hc (hl.gt h1 h2) h3) h4
theorem y7z {tv : zl -> zl -> Int} {ev : z11} (h : ev ∈ (bAll tv p.readers (zd p l)).e) : okPl p.network ev.place /\ 1 <= ev.var /\ ev.var < (bAll tv p.readers (zd p l)).v /\
  (∀ X, SolF (bAll tv p.readers (zd p l)) X -> 0 <= X ev.var - X 0 /\ X ev.var - X 0 <= 1073741824) /\ 0 <= ev.wagon /\ ev.wagon < (p.fleet.wagons.length : Int) := by
 obtain ⟨t, ht, x, hx, v, rfl, v1, v2, hv⟩ := yau h
 have hT := tsOK hc hl
 have ht2 := ht
 obtain ⟨w, hw, rfl⟩ := List.mem_map.1 ht2
 refine ⟨zkw hc hl hx, v1, v2, fun X hX => zhl (X := X) (fun b hb => hX b (hv b hb)) (hT.early _ ht x hx), ?_⟩
 have := z5m hl hx
 show 0 <= x.visit.wagon /\ x.visit.wagon < _
 rw [List.mem_range] at hw
 omega
include hφ
theorem ybs {s : BS} (hs : s = bAll (tvl φ p.network) p.readers (zd p l)) {X : Int -> Int} (hX : SolF s X) {i : Nat} {a b : z11} (ha : s.e[i]? = some a) (hb : s.e[i + 1]? = some b) (hw : a.wagon = b.wagon) :
  ∃ t, Dst φ p.network a.place b.place = some t /\ t <= X b.var - X a.var /\ (a.stay = true -> a.place = b.place) := by
 have hT := tsOK hc hl
 subst hs
 rw [zbe] at ha hb
 obtain ⟨A, t, B, k, y, z, e1, hy, hz, rfl, rfl⟩ := zyf (tvl φ p.network) (rdM p.readers (zd p l)) (rd0 p.readers (zd p l)) rfl _ (zd p l) rfl (zpz p hl) i a b ha hb hw
 have hsat := hX
 rw [zbe] at hsat
 have ht : t ∈ zd p l := by rw [e1]; simp
 obtain ⟨k1, k2, k3, k4⟩ := zj5 (tvl φ p.network) (rdM p.readers (zd p l)) A B t (rd0 p.readers (zd p l))
 rw [<- e1] at k3
 have q1 := zhl (X := X) (fun c hc => hsat c (k3 c (zkb _ _ t none _ k y hy c hc))) (hT.early t ht y (List.mem_of_getElem? hy))
 have q2 := zhl (X := X) (fun c hc => hsat c (k3 c (zkb _ _ t none _ (k + 1) z hz c hc))) (hT.early t ht z (List.mem_of_getElem? hz))
 have q3 := hsat _ (k3 _ (zrc (tvl φ p.network) (rdM p.readers (zd p l)) t none _ k y z hy hz))
 generalize (fB (tvl φ p.network) (rdM p.readers (zd p l)) A (rd0 p.readers (zd p l))).v = v at *
 simp only at q3
 rw [show v + ((k + 1 : Nat) : Int) = v + k + 1 by omega] at q2 ⊢
 obtain ⟨n, hn, hn2⟩ := y6o (a := y.visit) (b := z.visit) (x := p.network) hφ (by omega)
 refine ⟨n, by show Dst φ p.network y.visit.place z.visit.place = _; unfold Dst; rw [hn]; rfl, by show n <= X (v + k + 1) - X (v + k); omega, fun hst => ?_⟩
 show y.visit.place = z.visit.place
 by_cases e : y.visit.place = z.visit.place
 ·exact e
 ·have := zwj (φ := φ) (x := p.network) (a := y.visit) (b := z.visit) hst e
  omega
end
end Px
end
section
namespace Px
open Go
set_option linter.unusedVariables false
set_option linter.unusedSimpArgs false
theorem yay {α : Type} [Inhabited α] {a b : List α} (h : a.length = b.length) (hg : ∀ i : Int, 0 <= i -> i < (a.length : Int) -> gt a i = gt b i) : a = b := by
 refine List.ext_getElem h fun i h1 h2 => ?_
 have := hg (i : Int) (by omega) (by omega)
 rw [z2a h1, z2a h2] at this
 exact this
theorem zvs (φ : Nat) (k : Int -> Int -> zt -> Bool -> Bool -> List Int -> Option (List Int × Unit)) (x : zt) (r : Bool) (n : Nat) (q : Int) (c : Nat) (s : DS) (hn : n <= 512) (hs : DB n c s) (hL : ∀ b ∈ x.bounds, okBd n b) (hl : x.bounds.length <= 4096) (hc : c + x.bounds.length <= 2100000) (hφ : 5001 < φ) :
  z00 φ k φ n q x.bounds (x.bounds.length : Int) 0 x s.c r s.d = k n (W (q + 1)) x (rndD r x.bounds x.bounds.length s).c r (rndD r x.bounds x.bounds.length s).d := by
 refine z0j (fun f i (t : DS) => z00 φ k f n q x.bounds (x.bounds.length : Int) i x t.c r t.d) x.bounds.length (fun i t => t = rndD r x.bounds i s) (fun o => o = _) ?_ ?_ φ s rfl (by omega)
 ·intro f i t hi ht hk
  have hB := hs.rnd hn hL r i (by omega)
  rw [<- ht] at hB
  have hb := hL _ (z0h (l := x.bounds) (i := (i : Int)) (by omega) (by omega))
  have hk' := hk (stpD r (gt x.bounds (i : Int)) t) (by rw [ht]; rfl)
  have e : z00 φ k (f + 1) n q x.bounds (x.bounds.length : Int) i x t.c r t.d = z1x φ (z00 φ k f) (bdI r (gt x.bounds (i : Int))) (bdJ r (gt x.bounds (i : Int))) n q x.bounds (x.bounds.length : Int) i t.c (gt x.bounds (i : Int)) x r t.d := by
   rw [z00, if_pos (by simp; omega), z7 ⟨by omega, by omega⟩]
   cases r
   ·rw [if_neg (by simp)]; rfl
   ·rw [if_pos rfl]; rfl
  rw [e]
  generalize gt x.bounds (i : Int) = b at *
  obtain ⟨a1, a2, a3, a4, a5, a6⟩ := zfr hb r
  have hx := hB.len
  have q1 := hB.lt hn a1 a2
  have q3 := hB.lo _ a1 a2
  unfold farN at q1
  have hW : W (gt t.d (bdI r b) + b.w) = gt t.d (bdI r b) + b.w := W_id (by omega) (by omega)
  have hWi : W ((i : Int) + 1) = (i : Int) + 1 := W_id (by omega) (by omega)
  unfold z1x
  rw [z7 ⟨a1, by rw [hx]; exact a2⟩, z7 (fun _ => ⟨a1, by rw [hx]; exact a2⟩), z7 (fun _ => ⟨a3, by rw [hx]; exact a4⟩), hW, hWi]
  unfold stpD farN at hk'
  by_cases h : gt t.d (bdI r b) < 1125899906842624 /\ gt t.d (bdI r b) + b.w < gt t.d (bdJ r b)
  ·rw [if_pos h] at hk'
   rw [if_pos (by simpa using h), z7 ⟨a1, by rw [hx]; exact a2⟩, z7 ⟨a3, by rw [hx]; exact a4⟩]
   exact hk'
  ·rw [if_neg h] at hk'
   rw [if_neg (by simpa using h)]
   exact hk'
 ·intro f t ht
  subst ht
  rw [z00, if_neg (by simp)]
theorem zki (φ : Nat) (x : zt) (r : Bool) (n : Nat) (hn : n <= 512) (hL : ∀ b ∈ x.bounds, okBd n b) (hl : x.bounds.length <= 4096) (hφ : 5001 < φ) :
  ∀ (f k : Nat) (s : DS), DB n (k * x.bounds.length) s -> k <= n -> n < f + k -> z1b φ f n (k : Int) x s.c r s.d = some ((runD r x.bounds (n - k) s).d, ())
 | 0, k, s, _, h1, h2 => by omega
 | f + 1, k, s, hs, h1, h2 => by
  rw [z1b]
  by_cases h : k < n
  ·rw [if_pos (by simp; omega), show n - k = (n - (k + 1)) + 1 by omega, runD]
   cases hc : s.c with
   | false => rw [if_pos (show (!false) = true from rfl), if_neg (by simp)]
   | true =>
    rw [if_neg (by simp), if_pos rfl]
    have hs1 : DB n (k * x.bounds.length) ⟨s.d, false⟩ := ⟨hs.len, hs.hi, hs.lo⟩
    have hb := Nat.mul_le_mul (show k + 1 <= 512 by omega) hl
    rw [Nat.add_mul, Nat.one_mul] at hb
    have := zvs φ (z1b φ f) x r n (k : Int) _ ⟨s.d, false⟩ hn hs1 hL hl (by omega) hφ
    refine this.trans ?_
    have hs2 := hs1.rnd hn hL r x.bounds.length (Nat.le_refl _)
    rw [W_id (x := (k : Int) + 1) (by omega) (by omega)]
    exact zki φ x r n hn hL hl hφ f (k + 1) _ (hs2.up (by rw [Nat.add_mul, Nat.one_mul]; omega)) (by omega) (by omega)
  ·rw [if_neg (by simp; omega), show n - k = 0 by omega]; rfl
theorem y7k (φ : Nat) (hφ : 5001 < φ) (x : zt) (r : Bool) (n : Nat) (hv : x.vars = (n : Int)) (h1 : 1 <= n) (hn : n <= 512) (hL : ∀ b ∈ x.bounds, okBd n b) (hl : x.bounds.length <= 4096) :
  z1a φ x r = some ((runD r x.bounds n ⟨d0 n 0, true⟩).d, ()) := by
 unfold z1a
 rw [hv, z7 (mk_t _ _ (by omega) (by omega) (by omega)), Int.toNat_natCast, List.length_replicate]
 refine z0j (fun f i (d : List Int) => z0u φ f (n : Int) i x r d) n (fun i d => d.length = n /\ ∀ j : Int, 0 <= j -> j < (n : Int) -> gt d j = if 0 < j /\ j < (i : Int) then farN else 0) (fun o => o = _) ?_ ?_ φ _
  ⟨by simp, fun j h0 h1 => by rw [z1i _ _ _ h0 h1, if_neg (by omega)]; rfl⟩ (by omega)
 ·intro f i d hi ⟨hd, hg⟩ hk
  rw [z0u, if_pos (by simp; omega), W_id (x := (i : Int) + 1) (by omega) (by omega)]
  by_cases h : 0 < i
  ·rw [if_pos (by simp; omega), z7 ⟨by omega, by omega⟩]
   refine hk _ ⟨by rw [z0s]; exact hd, fun j j0 j1 => ?_⟩
   rw [z0g _ _ _ _ (by omega) (by omega) j0, hg j j0 j1]
   by_cases e : j = (i : Int)
   ·rw [if_pos e, if_pos (by omega)]; rfl
   ·rw [if_neg e]
    by_cases e2 : 0 < j /\ j < (i : Int)
    ·rw [if_pos e2, if_pos (by omega)]
    ·rw [if_neg e2, if_neg (by omega)]
  ·rw [if_neg (by simp; omega)]
   refine hk _ ⟨hd, fun j j0 j1 => ?_⟩
   rw [hg j j0 j1, if_neg (by omega), if_neg (by omega)]
 ·intro f d ⟨hd, hg⟩
  have e : d = d0 n 0 := yay (by rw [hd, y0j]) fun j j0 j1 => by
   rw [hd] at j1
   rw [hg j j0 j1, y3n (by omega) (by omega) j0 j1]
   by_cases q : j = 0
   ·rw [if_pos q, if_neg (by omega)]
   ·rw [if_neg q, if_pos (by omega)]
  rw [z0u, if_neg (by simp), hv, e]
  have := zki φ x r n hn hL hl hφ φ 0 ⟨d0 n 0, true⟩ ((y9p (by omega) (by omega)).up (by omega)) (by omega) (by omega)
  exact this
theorem zxv {r : Bool} {n : Nat} (hn : n <= 512) {L : List za} (hL : ∀ b ∈ L, okBd n b) (hl : L.length <= 4096) : ∀ (f k : Nat) (s : DS), DB n (k * L.length) s -> f + k <= n -> DB n 2097152 (runD r L f s)
 | 0, k, s, h, hk => h.up (by
  have := Nat.mul_le_mul (show k <= 512 by omega) hl
  omega)
 | f + 1, k, s, h, hk => by
  have hu : k * L.length <= 2097152 := by
   have := Nat.mul_le_mul (show k <= 512 by omega) hl
   omega
  unfold runD
  split
  ·have h1 : DB n (k * L.length) ⟨s.d, false⟩ := ⟨h.len, h.hi, h.lo⟩
   exact zxv hn hL hl f (k + 1) _ ((h1.rnd hn hL r L.length (Nat.le_refl _)).up (by rw [Nat.add_mul, Nat.one_mul]; omega)) (by omega)
  ·exact h.up hu
theorem zrl (φ : Nat) (k : List za -> Int -> Int -> Int -> Int -> List Bool -> List Int -> Option (Int × Bool × Int × Unit)) (L : List za) (n : Nat) (q j : Int) (c : Nat) (s : TS) (hj : 0 <= j /\ j < (n : Int)) (hs : TiB n c s) (hL : ∀ b ∈ L, okBd n b) (hl : L.length <= 4096) (hc : c + L.length <= 2100000) (hφ : 5001 < φ) :
  z2g φ k φ L s.z n q L (L.length : Int) 0 j s.kn s.d = if (rndT L L.length s).z < 0 then (if gt (rndT L L.length s).kn j = true then some (gt (rndT L L.length s).d j, true, 0, ()) else some (0, false, 0, ())) else k L (rndT L L.length s).z n (W (q + 1)) j (rndT L L.length s).kn (rndT L L.length s).d := by
 refine z0j (fun f i (t : TS) => z2g φ k f L t.z n q L (L.length : Int) i j t.kn t.d) L.length (fun i t => t = rndT L i s) (fun o => o = _) ?_ ?_ φ s rfl (by omega)
 ·intro f i t hi ht hk
  have hB := hs.rnd hL i (by omega)
  rw [<- ht] at hB
  have hb := hL _ (z0h (l := L) (i := (i : Int)) (by omega) (by omega))
  have hk' := hk (stpT (gt L (i : Int)) i t) (by rw [ht]; rfl)
  rw [z2g, if_pos (by simp; omega), z7 ⟨by omega, by omega⟩]
  generalize gt L (i : Int) = b at *
  obtain ⟨a1, a2, a3, a4, a5, a6⟩ := hb
  have hx := hB.ld
  have hy := hB.lk
  have q1 := hB.bd _ a1 a2
  have hW : W (gt t.d b.i + b.w) = gt t.d b.i + b.w := W_id (by omega) (by omega)
  have hWi : W ((i : Int) + 1) = (i : Int) + 1 := W_id (by omega) (by omega)
  rw [z7 ⟨a1, by rw [hy]; exact a2⟩, z7 (fun _ => ⟨a3, by rw [hy]; exact a4⟩), z7 (fun _ => ⟨a3, by rw [hx]; exact a4⟩), z7 (fun _ => ⟨a1, by rw [hx]; exact a2⟩), hW, hWi]
  unfold stpT at hk'
  cases h : (!(gt t.kn b.i) || ((gt t.kn b.j) && decide (gt t.d b.j <= gt t.d b.i + b.w))) with
  | true =>
   rw [h, if_pos rfl] at hk'
   rw [if_pos rfl]
   exact hk'
  | false =>
   rw [h, if_neg (by simp)] at hk'
   rw [if_neg (by simp), z4s, z7 ⟨a1, by rw [hx]; exact a2⟩, z7 ⟨a3, by rw [hx]; exact a4⟩, z7 ⟨a3, by rw [hy]; exact a4⟩, hW, hWi]
   exact hk'
 ·intro f t ht
  have hB := hs.rnd hL L.length (Nat.le_refl _)
  subst ht
  rw [z2g, if_neg (by simp)]
  by_cases h : (rndT L L.length s).z < 0
  ·rw [if_pos (by simpa using h), if_pos h, z7 ⟨hj.1, by rw [hB.lk]; exact hj.2⟩]
   cases hk : gt (rndT L L.length s).kn j with
   | false => rw [if_pos (show (!false) = true from rfl), if_neg (by simp)]
   | true => rw [if_neg (by simp), if_pos rfl, z7 ⟨hj.1, by rw [hB.ld]; exact hj.2⟩]
  ·rw [if_neg (by simpa using h), if_neg h]
theorem zic (φ : Nat) (L : List za) (n : Nat) (j : Int) (hj : 0 <= j /\ j < (n : Int)) (hn : n <= 512) (hL : ∀ b ∈ L, okBd n b) (hl : L.length <= 4096) (hφ : 5001 < φ) :
  ∀ (f k : Nat) (s : TS), TiB n (k * L.length) s -> k <= n -> n < f + k -> z3w φ f L s.z n (k : Int) j s.kn s.d = if gt (runT L (n - k) s).kn j = true then some (gt (runT L (n - k) s).d j, true, 0, ()) else some (0, false, 0, ())
 | 0, k, s, _, h1, h2 => by omega
 | f + 1, k, s, hs, h1, h2 => by
  rw [z3w]
  by_cases h : k < n
  ·have hs1 : TiB n (k * L.length) ⟨s.d, s.kn, -1⟩ := ⟨hs.ld, hs.lk, hs.bd⟩
   have hb := Nat.mul_le_mul (show k + 1 <= 512 by omega) hl
   rw [Nat.add_mul, Nat.one_mul] at hb
   rw [if_pos (by simp; omega)]
   have := zrl φ (z3w φ f) L n (k : Int) j _ ⟨s.d, s.kn, -1⟩ hj hs1 hL hl (by omega) hφ
   refine this.trans ?_
   rw [show n - k = (n - (k + 1)) + 1 by omega, runT, W_id (x := (k : Int) + 1) (by omega) (by omega)]
   have hs2 := hs1.rnd hL L.length (Nat.le_refl _)
   by_cases hz : (rndT L L.length ⟨s.d, s.kn, -1⟩).z < 0
   ·rw [if_pos hz, if_pos hz]
   ·rw [if_neg hz, if_neg hz]
    exact zic φ L n j hj hn hL hl hφ f (k + 1) _ (hs2.up (by rw [Nat.add_mul, Nat.one_mul]; omega)) (by omega) (by omega)
  ·rw [if_neg (by simp; omega), show n - k = 0 by omega, z7 ⟨hj.1, by rw [hs.lk]; exact hj.2⟩]
   show _ = if gt s.kn j = true then some (gt s.d j, true, 0, ()) else some (0, false, 0, ())
   cases hk : gt s.kn j with
   | false => rw [if_pos (show (!false) = true from rfl), if_neg (by simp)]
   | true => rw [if_neg (by simp), if_pos rfl, z7 ⟨hj.1, by rw [hs.ld]; exact hj.2⟩]
theorem y4e (φ : Nat) (hφ : 5001 < φ) (L : List za) (n : Nat) (h1 : 1 <= n) (hn : n <= 512) (hL : ∀ b ∈ L, okBd n b) (hl : L.length <= 4096) (hz : (low n L).z < 0) {i j : Int} (hi : 0 <= i /\ i < (n : Int)) (hj : 0 <= j /\ j < (n : Int)) :
  z8z φ (n : Int) L i j = if gt (runT L n (t0 n i)).kn j = true then some (gt (runT L n (t0 n i)).d j, true, 0, ()) else some (0, false, 0, ()) := by
 unfold z8z
 rw [zg0 φ hφ, Option.bind_some, zwx h1 hn hl hL, if_neg (by simp), if_neg (by
  simp only [Bool.or_eq_true, decide_eq_true_eq, zs0]
  unfold max2; split <;> omega), zqz φ hφ L n hn hL hl, Option.bind_some, if_neg (by simp; omega)]
 unfold z5c zg
 rw [z7 (mk_t _ _ (by omega) (by omega) (by omega)), z7 (mk_t _ _ (by omega) (by omega) (by omega)), Int.toNat_natCast, z7 ⟨hi.1, by rw [List.length_replicate]; exact hi.2⟩]
 exact zic φ L n j hj hn hL hl hφ φ 0 (t0 n i) (y7j.up (by omega)) (by omega) (by omega)
end Px
end
section
namespace Px
open Go
set_option linter.unusedVariables false
set_option linter.unusedSimpArgs false
structure EvC (φ : Nat) (x : zi) (s : BS) (E T : Int -> Int) (pl vr : Nat -> Int) (st : Nat -> Bool) (f e : Nat) : Prop where
 ok : ∀ k, f <= k -> k < e -> okPl x (pl k) /\ 0 <= vr k /\ vr k < s.v
 ets : ETs s E T
 pr : ∀ k, f <= k -> k + 1 < e -> ∃ t, Dst φ x (pl k) (pl (k + 1)) = some t /\ 0 <= t /\ (∀ X, SolF s X -> t <= X (vr (k + 1)) - X (vr k)) /\ (st k = true -> pl k = pl (k + 1)) /\ (pl k ≠ pl (k + 1) -> 1 <= t)
structure zw3 (E T : Int -> Int) (vr : Nat -> Int) (st : Nat -> Bool) (m : Int) (f e r i : Nat) : Prop where
 cf : f <= r
 ci : r <= i
 ce : i < e
 cst : ∀ k, r <= k -> k < i -> st k = true
 cns : st i = false
 cl : T (vr r) <= m
 ch : m <= E (vr i)
def zot (φ : Nat) (x : zi) (T : Int -> Int) (pl vr : Nat -> Int) (m q : Int) (k : Nat) : Prop := ∃ w, Dst φ x q (pl k) = some w /\ m + w <= T (vr k)
def zol (φ : Nat) (x : zi) (E : Int -> Int) (pl vr : Nat -> Int) (m q : Int) (k : Nat) : Prop := ∃ w, Dst φ x (pl k) q = some w /\ E (vr k) + w <= m
def gapW (φ : Nat) (x : zi) (E T : Int -> Int) (D : Nat -> Int) (pl vr : Nat -> Int) (st : Nat -> Bool) (m q : Int) (k : Nat) : Prop :=
 ∃ a b, Dst φ x (pl k) q = some a /\ E (vr k) + a <= m /\ Dst φ x q (pl (k + 1)) = some b /\ m + b <= T (vr (k + 1)) /\ (st k = true -> q = pl k) /\ a + b <= D k
def PosW (φ : Nat) (x : zi) (E T : Int -> Int) (D : Nat -> Int) (pl vr : Nat -> Int) (st : Nat -> Bool) (f e : Nat) (m q : Int) : Prop :=
 f = e \/ zot φ x T pl vr m q f \/ zol φ x E pl vr m q (e - 1) \/ ∃ k, f <= k /\ k + 1 < e /\ gapW φ x E T D pl vr st m q k
section
variable {φ : Nat} (hφ : 800000 < φ) {x : zi} (hn : z7q x = 0) {s : BS} {E T : Int -> Int} {pl vr : Nat -> Int} {st : Nat -> Bool} {f e : Nat}
theorem EvC.mono (H : EvC φ x s E T pl vr st f e) {X : Int -> Int} (hX : SolF s X) {i : Nat} (hi : f <= i) : ∀ {j : Nat}, i <= j -> j < e -> X (vr i) <= X (vr j) /\ (X (vr j) <= X (vr i) -> pl i = pl j) := by
 intro j
 induction j with
 | zero =>
  intro h1 h2
  have : i = 0 := by omega
  subst this
  exact ⟨Int.le_refl _, fun _ => rfl⟩
 | succ j ih =>
  intro h1 h2
  by_cases q : i = j + 1
  ·subst q; exact ⟨Int.le_refl _, fun _ => rfl⟩
  ·obtain ⟨a1, a2⟩ := ih (by omega) (by omega)
   obtain ⟨t, _, b0, b1, _, b2⟩ := H.pr j (by omega) h2
   have b1 := b1 X hX
   refine ⟨by omega, fun h => ?_⟩
   rw [a2 (by omega)]
   by_cases z : pl j = pl (j + 1)
   ·exact z
   ·have := b2 z; omega
theorem EvC.same (H : EvC φ x s E T pl vr st f e) {r i : Nat} (hf : f <= r) (hi : i < e) (hs : ∀ k, r <= k -> k < i -> st k = true) : ∀ k, r <= k -> k <= i -> pl k = pl r := by
 intro k
 induction k with
 | zero => intro h1 _; rw [show r = 0 by omega]
 | succ k ih =>
  intro h1 h2
  by_cases q : r = k + 1
  ·rw [q]
  ·obtain ⟨t, _, _, _, b, _⟩ := H.pr k (by omega) (by omega)
   rw [<- b (hs k (by omega) (by omega))]
   exact ih (by omega) (by omega)
theorem EvC.et (H : EvC φ x s E T pl vr st f e) {k : Nat} (h1 : f <= k) (h2 : k < e) : E (vr k) <= T (vr k) := by
 obtain ⟨_, v0, v1⟩ := H.ok k h1 h2
 have := H.ets.e T H.ets.tS (vr k) v0 v1
 have z := H.ets.t0
 omega
include hφ hn
theorem zur {a b w : Int} (ha : okPl x a) (hb : okPl x b) (h : Dst φ x a b = some w) (hw : w <= 0) : a = b := by
 by_cases q : a = b
 ·exact q
 ·have := zzy hφ hn ha hb q h; omega
theorem zyg (H : EvC φ x s E T pl vr st f e) {D : Nat -> Int} {m : Int} {r i : Nat} (C : zw3 E T vr st m f e r i) {q : Int} (hq : okPl x q) (hP : PosW φ x E T D pl vr st f e m q) : q = pl r := by
 obtain ⟨c1, c2, c3, c4, c5, c6, c7⟩ := C
 have hsame := H.same c1 c3 c4
 have left : ∀ k, f <= k -> k <= r -> zot φ x T pl vr m q k -> q = pl r := fun k k1 k2 ⟨w, w1, w2⟩ => by
  obtain ⟨m1, m2⟩ := H.mono H.ets.tS k1 k2 (by omega)
  have hw := (zgc hφ hn hq (H.ok k k1 (by omega)).1 w1).1
  rw [<- m2 (by omega)]
  exact zur hφ hn hq (H.ok k k1 (by omega)).1 w1 (by omega)
 have right : ∀ k, i <= k -> k < e -> zol φ x E pl vr m q k -> q = pl r := fun k k1 k2 ⟨w, w1, w2⟩ => by
  obtain ⟨m1, m2⟩ := H.mono H.ets.eS (i := i) (by omega) k1 k2
  have hw := (zgc hφ hn (H.ok k (by omega) k2).1 hq w1).1
  rw [<- hsame i c2 (Nat.le_refl _), m2 (by omega)]
  exact (zur hφ hn (H.ok k (by omega) k2).1 hq w1 (by omega)).symm
 rcases hP with h | h | h | ⟨k, k1, k2, a, b, h1, h2, h3, h4, h5, h6⟩
 ·omega
 ·exact left f (Nat.le_refl _) c1 h
 ·exact right (e - 1) (by omega) (by omega) h
 ·by_cases q1 : k + 1 <= r
  ·exact left (k + 1) (by omega) q1 ⟨b, h3, h4⟩
  ·by_cases q2 : i <= k
   ·exact right k q2 (by omega) ⟨a, h1, h2⟩
   ·rw [h5 (c4 k (by omega) (by omega))]
    exact hsame k (by omega) (by omega)
omit hφ hn in
theorem y4x (H : EvC φ x s E T pl vr st f e) {D : Nat -> Int} (hD : ∀ k, f <= k -> k + 1 < e -> ∀ X, SolF s X -> X (vr (k + 1)) - X (vr k) <= D k) {m q : Int} (hq : okPl x q) {X : Int -> Int} (hX : SolF s X)
  (h : f = e \/ (∃ w, Dst φ x q (pl f) = some w /\ m + w <= X (vr f) - X 0) \/ (∃ w, Dst φ x (pl (e - 1)) q = some w /\ X (vr (e - 1)) - X 0 + w <= m) \/
   ∃ k, f <= k /\ k + 1 < e /\ ∃ a b, Dst φ x (pl k) q = some a /\ X (vr k) - X 0 + a <= m /\ Dst φ x q (pl (k + 1)) = some b /\ m + b <= X (vr (k + 1)) - X 0 /\ (st k = true -> q = pl k)) (hfe : f <= e) : PosW φ x E T D pl vr st f e m q := by
 by_cases hz : f = e
 ·exact .inl hz
 have lo : ∀ k, f <= k -> k < e -> E (vr k) <= X (vr k) - X 0 /\ X (vr k) - X 0 <= T (vr k) := fun k k1 k2 => by
  obtain ⟨_, v0, v1⟩ := H.ok k k1 k2
  exact ⟨H.ets.e X hX _ v0 v1, H.ets.t X hX _ v0 v1⟩
 rcases h with h | ⟨w, w1, w2⟩ | ⟨w, w1, w2⟩ | ⟨k, k1, k2, a, b, h1, h2, h3, h4, h5⟩
 ·exact .inl h
 ·exact .inr (.inl ⟨w, w1, by have := lo f (Nat.le_refl _) (by omega); omega⟩)
 ·exact .inr (.inr (.inl ⟨w, w1, by have := lo (e - 1) (by omega) (by omega); omega⟩))
 ·refine .inr (.inr (.inr ⟨k, k1, k2, a, b, h1, ?_, h3, ?_, h5, ?_⟩))
  ·have := lo k k1 (by omega); omega
  ·have := lo (k + 1) (by omega) k2; omega
  ·have := hD k k1 k2 X hX; omega
end
theorem SolF.min {s : BS} {X Y : Int -> Int} (hX : SolF s X) (hY : SolF s Y) : SolF s fun v => if X v <= Y v then X v else Y v := fun b hb => by
 have h1 := hX b hb
 have h2 := hY b hb
 simp only
 split <;> split <;> omega
theorem SolF.add {s : BS} {X : Int -> Int} (hX : SolF s X) (c : Int) : SolF s fun v => X v + c := fun b hb => by
 have h1 := hX b hb
 simp only
 omega
theorem y4f {φ : Nat} {x : zi} {s : BS} {E T : Int -> Int} {pl vr : Nat -> Int} {st : Nat -> Bool} {f e : Nat} (H : EvC φ x s E T pl vr st f e) {D : Nat -> Int} (hD : ∀ k, f <= k -> k + 1 < e -> ∃ Y, SolF s Y /\ Y (vr k) = 0 /\ Y (vr (k + 1)) = D k /\ ∀ X, SolF s X -> ∀ v, 0 <= v -> v < s.v -> X v - X (vr k) <= Y v) (hv : 0 < s.v) {m q : Int} (hP : PosW φ x E T D pl vr st f e m q) :
  ∃ X, SolF s X /\ X 0 = 0 /\ (f = e \/ (∃ w, Dst φ x q (pl f) = some w /\ m + w <= X (vr f)) \/ (∃ w, Dst φ x (pl (e - 1)) q = some w /\ X (vr (e - 1)) + w <= m) \/
   ∃ k, f <= k /\ k + 1 < e /\ ∃ a b, Dst φ x (pl k) q = some a /\ X (vr k) + a <= m /\ Dst φ x q (pl (k + 1)) = some b /\ m + b <= X (vr (k + 1)) /\ (st k = true -> q = pl k)) := by
 rcases hP with h | ⟨w, w1, w2⟩ | ⟨w, w1, w2⟩ | ⟨k, k1, k2, a, b, h1, h2, h3, h4, h5, h6⟩
 ·exact ⟨E, H.ets.eS, H.ets.e0, .inl h⟩
 ·exact ⟨T, H.ets.tS, H.ets.t0, .inr (.inl ⟨w, w1, w2⟩)⟩
 ·exact ⟨E, H.ets.eS, H.ets.e0, .inr (.inr (.inl ⟨w, w1, w2⟩))⟩
 ·obtain ⟨Y, y1, y2, y3, y4⟩ := hD k k1 k2
  have ye := y4 E H.ets.eS 0 (by omega) hv
  have e0 := H.ets.e0
  have t0 := H.ets.t0
  obtain ⟨_, v0, v1⟩ := H.ok k k1 (by omega)
  have et := H.et k1 (k := k) (by omega)
  refine ⟨_, H.ets.tS.min (y1.add (m - a)), ?_, .inr (.inr (.inr ⟨k, k1, k2, a, b, h1, ?_, h3, ?_, h5⟩))⟩
  ·split <;> omega
  ·split <;> omega
  ·split <;> omega
end Px
end
section
namespace Px
open Go
set_option linter.unusedVariables false
set_option linter.unusedSimpArgs false
abbrev bsB (φ : Nat) (p : Pool) (l : List ze) : BS := bAll (tvl φ p.network) p.readers (zd p l)
structure Good (s : BS) : Prop where
 v1 : 1 <= s.v
 v2 : s.v <= 512
 bl : s.b.length <= 4096
 ok : ∀ b ∈ s.b, okBd s.v.toNat b
 conn : Conn s.b s.v.toNat
 ev : ∀ y ∈ s.e, 1 <= y.var /\ y.var < s.v
 el : (s.e.length : Int) <= s.v
theorem zsm {φ : Nat} (hφ : 800000 < φ) {p : Pool} (hc : z01 p = 0) {l : List ze} (hl : FewL l) (hb : ¬ (512 < (bsB φ p l).v \/ 4096 < (bsB φ p l).b.length)) : Good (bsB φ p l) := by
 obtain ⟨h1, h2⟩ := y9c (tv := tvl φ p.network) (fun a b => (y6n φ hφ p.network a b).2) (tsOK hc hl)
 exact ⟨h1, by omega, by omega, h2, zxd _ _ _, fun y hy => yb2 hy, zyk _ _ _⟩
def zvf (s : BS) : List Int := (runD false s.b s.v.toNat ⟨d0 s.v.toNat 0, true⟩).d
def zls (s : BS) : List Int := (runD true s.b s.v.toNat ⟨d0 s.v.toNat 0, true⟩).d
def z5y (s : BS) (v : Int) : Int := gt (zvf s) v
def z4y (s : BS) (v : Int) : Int := - gt (zls s) v
theorem Good.ets {s : BS} (h : Good s) {X : Int -> Int} (hX : SolF s X) : ETs s (z4y s) (z5y s) := by
 have hv := h.v1
 have hv2 := h.v2
 have e := zm9 (r := true) (n := s.v.toNat) (by omega) h.ok h.conn (p := fun v => - X v) (zun (zge.1 hX)) (u := 0) (by omega) (by omega)
 have t := zm9 (r := false) (n := s.v.toNat) (by omega) h.ok h.conn (zge.1 hX) (u := 0) (by omega) (by omega)
 exact yc5 hv e.2 t.2
theorem Good.db {s : BS} (h : Good s) (r : Bool) : DB s.v.toNat 2097152 (runD r s.b s.v.toNat ⟨d0 s.v.toNat 0, true⟩) := by
 have hv := h.v1
 have hv2 := h.v2
 exact zxv (by omega) h.ok h.bl s.v.toNat 0 _ ((y9p (by omega) (by omega)).up (by omega)) (by omega)
theorem Good.bd {s : BS} (h : Good s) (r : Bool) {v : Int} (h0 : 0 <= v) (h1 : v < s.v) : v < ((runD r s.b s.v.toNat ⟨d0 s.v.toNat 0, true⟩).d.length : Int) /\ -2305843009213693952 <= gt (runD r s.b s.v.toNat ⟨d0 s.v.toNat 0, true⟩).d v /\ gt (runD r s.b s.v.toNat ⟨d0 s.v.toNat 0, true⟩).d v <= 1125899906842624 := by
 have hv := h.v1
 have hv2 := h.v2
 have hd := h.db r
 have hl := hd.len
 have q1 := hd.lo v h0 (by omega)
 have q2 := hd.lt (by omega) h0 (by omega)
 unfold farN at q2
 exact ⟨by omega, by omega, by omega⟩
def visE (E T : Int -> Int) (y : z11) : zl := ⟨y.wagon, y.place, y.ref, y.stay, E y.var, T y.var⟩
def visL (s : BS) : List zl := s.e.map (visE (z4y s) (z5y s))
def hisL (s : BS) : List zl := s.e.map (visE (z4y s) (z4y s))
theorem y2v {s : BS} (h : Good s) {y : z11} (hy : y ∈ s.e) : 0 <= y.var /\ y.var < ((zls s).length : Int) /\ y.var < ((zvf s).length : Int) /\ (⟨y.wagon, y.place, y.ref, y.stay, W (0 - gt (zls s) y.var), gt (zvf s) y.var⟩ : zl) = visE (z4y s) (z5y s) y := by
 obtain ⟨h1, h2⟩ := h.ev y hy
 have b1 := h.bd true (v := y.var) (by omega) h2
 have b2 := h.bd false (v := y.var) (by omega) h2
 change y.var < ((zls s).length : Int) /\ _ <= gt (zls s) y.var /\ gt (zls s) y.var <= _ at b1
 change y.var < ((zvf s).length : Int) /\ _ at b2
 refine ⟨by omega, b1.1, b2.1, ?_⟩
 rw [W_id (by omega) (by omega)]
 unfold visE z4y z5y
 rw [show (0 : Int) - gt (zls s) y.var = - gt (zls s) y.var by omega]
theorem zvq (φ : Nat) (hφ : 800000 < φ) {s : BS} (h : Good s) (x : zt) : z1p φ φ (zvf s) (zls s) s.e (s.e.length : Int) 0 x [] = some (x, visL s, 0, ()) := by
 have hel := h.el
 have hv2 := h.v2
 refine z0j (fun f i (v : List zl) => z1p φ f (zvf s) (zls s) s.e (s.e.length : Int) i x v) s.e.length (fun i v => v = (s.e.take i).map (visE (z4y s) (z5y s))) (fun o => o = _) ?_ ?_ φ _ (by simp) (by omega)
 ·intro f i v hi hv hk
  obtain ⟨s1, s2, s3, s4⟩ := y2v h (z0h (l := s.e) (i := (i : Int)) (by omega) (by omega))
  have hlen : v.length <= 1000 := by rw [hv]; simp; omega
  rw [z1p, if_pos (by simp; omega), z7 ⟨by omega, by omega⟩, z7 ⟨s1, s2⟩, z7 ⟨s1, s3⟩, z7 (zm7 (by simp; omega) (by omega)), s4, W_id (x := (i : Int) + 1) (by omega) (by omega)]
  refine hk _ ?_
  rw [hv, z0x s.e i hi, List.map_append]; rfl
 ·intro f v hv
  rw [z1p, if_neg (by simp), hv, List.take_length]; rfl
def slv (φ : Nat) (p : Pool) (l : List ze) : zt × List zl × Int × Unit :=
 if z01 p ≠ 0 then (⟨0, [], [], []⟩, [], z01 p, ())
 else if 512 < (bsB φ p l).v \/ 4096 < (bsB φ p l).b.length then (⟨0, [], [], []⟩, [], 2, ())
 else if 0 <= (low (bsB φ p l).v.toNat (bsB φ p l).b).z then (⟨0, [], [], []⟩, [], 230, ())
 else (⟨(bsB φ p l).v, (bsB φ p l).b, (bsB φ p l).y, (bsB φ p l).e⟩, visL (bsB φ p l), 0, ())
theorem Good.chk {s : BS} (h : Good s) : chkD s.v s.b = 0 := by
 have hv := h.v1
 have hv2 := h.v2
 have := zwx (n := s.v.toNat) (by omega) (by omega) h.bl h.ok
 rwa [show ((s.v.toNat : Nat) : Int) = s.v by omega] at this
theorem Good.solve {s : BS} (h : Good s) (φ : Nat) (hφ : 5001 < φ) : z8y φ s.v s.b = some (if 0 <= (low s.v.toNat s.b).z then ([], 230, ()) else ((low s.v.toNat s.b).x, 0, ())) := by
 rw [y2w φ hφ, h.chk, if_neg (by simp)]
theorem Good.dist {s : BS} (h : Good s) (φ : Nat) (hφ : 5001 < φ) (r : Bool) (y : List (Nat -> Ref)) (e : List z11) : z1a φ ⟨s.v, s.b, y, e⟩ r = some ((runD r s.b s.v.toNat ⟨d0 s.v.toNat 0, true⟩).d, ()) := by
 have hv := h.v1
 have hv2 := h.v2
 exact y7k φ hφ ⟨s.v, s.b, y, e⟩ r s.v.toNat (by simp only; omega) (by omega) (by omega) h.ok h.bl
theorem zu5 (φ : Nat) (hφ : 800000 < φ) (p : Pool) {l : List ze} (hl : FewL l) : z6f φ p l = some (slv φ p l) := by
 unfold z6f slv
 rw [y4m φ hφ p hl, Option.bind_some, show bAll (tvl φ p.network) p.readers (zd p l) = bsB φ p l from rfl]
 by_cases hc : z01 p = 0
 case neg => rw [if_neg hc, if_pos hc]; simp only; rw [if_pos (by simpa using hc)]
 rw [if_pos hc, if_neg (show ¬ z01 p ≠ 0 from fun h => h hc)]
 unfold bEnd
 by_cases hb : 512 < (bsB φ p l).v \/ 4096 < (bsB φ p l).b.length
 ·rw [if_pos hb, if_pos hb]; simp only; rw [if_pos (by simp)]
 rw [if_neg hb, if_neg hb]
 have hG := zsm hφ hc hl hb
 simp only
 generalize bsB φ p l = s at *
 rw [if_neg (by simp), hG.solve φ (by omega), Option.bind_some]
 by_cases hz : 0 <= (low s.v.toNat s.b).z
 ·rw [if_pos hz, if_pos hz]; simp only; rw [if_pos (by simp)]
 rw [if_neg hz, if_neg hz]
 simp only
 rw [if_neg (by simp), hG.dist φ (by omega), Option.bind_some, hG.dist φ (by omega), Option.bind_some]
 exact zvq φ hφ hG _
theorem zy4 (φ : Nat) (hφ : 800000 < φ) (p : Pool) {l : List ze} (hl : FewL l) : zo φ p l = some ((slv φ p l).2.1, (slv φ p l).2.2.1, ()) := by
 unfold zo
 rw [zu5 φ hφ p hl, Option.bind_some]
def hst (φ : Nat) (p : Pool) (l : List ze) : List zl × Int × Unit :=
 if z01 p ≠ 0 then ([], z01 p, ())
 else if 512 < (bsB φ p l).v \/ 4096 < (bsB φ p l).b.length then ([], 2, ())
 else if 0 <= (low (bsB φ p l).v.toNat (bsB φ p l).b).z then ([], 230, ())
 else (hisL (bsB φ p l), 0, ())
theorem Good.sol {s : BS} (h : Good s) : (low s.v.toNat s.b).z < 0 ↔ ∃ X, SolF s X := by
 have hv := h.v1
 constructor
 ·exact fun hz => ⟨gt (low s.v.toNat s.b).x, fun b hb => ya8 (by omega) h.ok hz hb⟩
 ·rintro ⟨X, hX⟩
  exact y3w (by omega) h.ok X hX
end Px
end
section
namespace Px
open Go
set_option linter.unusedVariables false
set_option linter.unusedSimpArgs false
def plE (s : BS) (k : Nat) : Int := (gt s.e (k : Int)).place
def vrE (s : BS) (k : Nat) : Int := (gt s.e (k : Int)).var
def stE (s : BS) (k : Nat) : Bool := (gt s.e (k : Int)).stay
def wgE (s : BS) (k : Nat) : Int := (gt s.e (k : Int)).wagon
structure RunW (s : BS) (w : Int) (f e : Nat) : Prop where
 fe : f <= e
 el : e <= s.e.length
 own : ∀ k, f <= k -> k < e -> wgE s k = w
 lo : ∀ k, k < f -> wgE s k < w
 nf : f < s.e.length -> w <= wgE s f
 ne : e < s.e.length -> wgE s e ≠ w
theorem RunW.uniq {s : BS} {w : Int} {f e f' e' : Nat} (h : RunW s w f e) (h' : RunW s w f' e') : f = f' /\ e = e' := by
 have a1 := h.fe
 have a2 := h.el
 have b1 := h'.fe
 have b2 := h'.el
 have hf : f = f' := by
  by_cases q : f < f'
  ·have := h.nf (by omega)
   have := h'.lo f q
   omega
  ·by_cases q' : f' < f
   ·have := h'.nf (by omega)
    have := h.lo f' q'
    omega
   ·omega
 subst hf
 refine ⟨rfl, ?_⟩
 by_cases q : e < e'
 ·exact absurd (h'.own e a1 q) (h.ne (by omega))
 ·by_cases q' : e' < e
  ·exact absurd (h.own e' b1 q') (h'.ne (by omega))
  ·omega
theorem zmj {s : BS} {E T : Int -> Int} {k : Nat} (h : k < s.e.length) : gt (s.e.map (visE E T)) (k : Int) = ⟨wgE s k, plE s k, (gt s.e (k : Int)).ref, stE s k, E (vrE s k), T (vrE s k)⟩ := by
 rw [z2a (by simpa using h)]
 simp only [List.getElem_map, visE, wgE, plE, stE, vrE, z2a h]
section
variable {φ : Nat} (hφ : 800000 < φ) {p : Pool} (hc : z01 p = 0) {l : List ze} (hl : FewL l)
include hφ hc hl
theorem ztz (hG : Good (bsB φ p l)) {X : Int -> Int} (hX : SolF (bsB φ p l) X) {w : Int} {f e : Nat} (hR : RunW (bsB φ p l) w f e) :
  EvC φ p.network (bsB φ p l) (z4y (bsB φ p l)) (z5y (bsB φ p l)) (plE (bsB φ p l)) (vrE (bsB φ p l)) (stE (bsB φ p l)) f e := by
 have hel := hR.el
 refine ⟨fun k k1 k2 => ?_, hG.ets hX, fun k k1 k2 => ?_⟩
 ·have := y7z hc hl (tv := tvl φ p.network) (ev := gt (bsB φ p l).e (k : Int)) (z0h (l := (bsB φ p l).e) (by omega) (by omega))
  exact ⟨this.1, by unfold vrE; omega, this.2.2.1⟩
 ·have ha := zlq (l := (bsB φ p l).e) (i := k) (by omega)
  have hb := zlq (l := (bsB φ p l).e) (i := k + 1) (by omega)
  have o1 := (y7z hc hl (tv := tvl φ p.network) (ev := gt (bsB φ p l).e (k : Int)) (z0h (l := (bsB φ p l).e) (by omega) (by omega))).1
  have o2 := (y7z hc hl (tv := tvl φ p.network) (ev := gt (bsB φ p l).e ((k + 1 : Nat) : Int)) (z0h (l := (bsB φ p l).e) (by omega) (by omega))).1
  have hw : wgE (bsB φ p l) k = wgE (bsB φ p l) (k + 1) := by rw [hR.own k k1 (by omega), hR.own (k + 1) (by omega) k2]
  obtain ⟨t, t1, t2, t3⟩ := ybs hφ hc hl rfl hX ha hb hw
  have hn := (z2k hc).1
  refine ⟨t, t1, (zgc hφ hn o1 o2 t1).1, fun Y hY => ?_, t3, fun hne => zzy hφ hn o1 o2 hne t1⟩
  obtain ⟨t', u1, u2, _⟩ := ybs hφ hc hl rfl hY ha hb hw
  rw [t1] at u1; cases u1
  exact u2
end
def zcb (φ : Nat) (p : Pool) (l : List ze) (w m : Int) : Int :=
 if z01 p ≠ 0 then z01 p else if w < 0 \/ (p.fleet.wagons.length : Int) <= w \/ m < 0 \/ 1073741824 < m then 1 else (slv φ p l).2.2.1
theorem zx3 {φ : Nat} (hφ : 800000 < φ) {p : Pool} (hc : z01 p = 0) {l : List ze} (hl : FewL l) :
  (slv φ p l = (⟨0, [], [], []⟩, [], (slv φ p l).2.2.1, ()) /\ (slv φ p l).2.2.1 ≠ 0) \/
  (slv φ p l = (⟨(bsB φ p l).v, (bsB φ p l).b, (bsB φ p l).y, (bsB φ p l).e⟩, visL (bsB φ p l), 0, ()) /\ Good (bsB φ p l) /\ ∃ X, SolF (bsB φ p l) X) := by
 unfold slv
 rw [if_neg (by simpa using hc)]
 by_cases hb : 512 < (bsB φ p l).v \/ 4096 < (bsB φ p l).b.length
 ·rw [if_pos hb]; exact .inl ⟨rfl, by simp⟩
 rw [if_neg hb]
 have hG := zsm hφ hc hl hb
 by_cases hz : 0 <= (low (bsB φ p l).v.toNat (bsB φ p l).b).z
 ·rw [if_pos hz]; exact .inl ⟨rfl, by simp⟩
 rw [if_neg hz]
 exact .inr ⟨rfl, hG, hG.sol.1 (by omega)⟩
structure yaa (φ : Nat) (p : Pool) (l : List ze) (w m : Int) : Prop where
 hc : z01 p = 0
 w0 : 0 <= w
 w1 : w < (p.fleet.wagons.length : Int)
 m0 : 0 <= m
 m1 : m <= 1073741824
 good : Good (bsB φ p l)
 sol : ∃ X, SolF (bsB φ p l) X
theorem y5r (φ : Nat) (hφ : 800000 < φ) (p : Pool) {l : List ze} (hl : FewL l) (w m : Int) :
  (zcb φ p l w m ≠ 0 /\ ∃ x v f e, z7c φ p l w m = some (x, v, f, e, zcb φ p l w m, ())) \/
  (zcb φ p l w m = 0 /\ yaa φ p l w m /\ ∃ f e : Nat, RunW (bsB φ p l) w f e /\ z7c φ p l w m = some (⟨(bsB φ p l).v, (bsB φ p l).b, (bsB φ p l).y, (bsB φ p l).e⟩, visL (bsB φ p l), (f : Int), (e : Int), 0, ())) := by
 unfold z7c zcb
 rw [z42 φ hφ, Option.bind_some]
 by_cases hc : z01 p = 0
 case neg =>
  simp only [if_pos (show z01 p ≠ 0 from hc)]
  rw [if_pos (show (z01 p != 0) = true by simpa using hc)]
  exact .inl ⟨hc, _, _, _, _, rfl⟩
 simp only [if_neg (show ¬ z01 p ≠ 0 from fun h => h hc)]
 rw [if_neg (show ¬ (z01 p != 0) = true by simpa using hc)]
 by_cases ha : w < 0 \/ (p.fleet.wagons.length : Int) <= w \/ m < 0 \/ 1073741824 < m
 ·simp only [if_pos ha]
  rw [if_pos (by simp only [Bool.or_eq_true, decide_eq_true_eq]; omega)]
  exact .inl ⟨by omega, _, _, _, _, rfl⟩
 simp only [if_neg ha]
 rw [if_neg (by simp only [Bool.or_eq_true, decide_eq_true_eq]; omega), zu5 φ hφ p hl, Option.bind_some]
 obtain ⟨f0, rfl⟩ : ∃ f, φ = f + 1 := ⟨φ - 1, by omega⟩
 rcases zx3 hφ hc hl with ⟨h1, h2⟩ | ⟨h1, h2, h3⟩
 ·refine .inl ⟨h2, ?_⟩
  generalize hq : (slv (f0 + 1) p l).2.2.1 = q at *
  rw [h1]
  simp only
  rw [z2r, z7 (by simp), if_neg (by simp), z2n, z7 (by simp), if_neg (by simp)]
  exact ⟨_, _, _, _, rfl⟩
 ·refine .inr ⟨by rw [h1], ⟨hc, by omega, by omega, by omega, by omega, h2, h3⟩, ?_⟩
  rw [h1]
  simp only
  generalize hs : bsB (f0 + 1) p l = s at *
  have hel := h2.el
  have hv2 := h2.v2
  have hvl : (visL s).length = s.e.length := by simp [visL]
  have hat : ∀ k : Nat, k < s.e.length -> (gt (visL s) (k : Int)).wagon = wgE s k := fun k hk => by unfold visL; rw [zmj hk]
  -- the first event
  have key : ∀ (n i : Nat), s.e.length - i < n -> i <= s.e.length -> (∀ k, k < i -> wgE s k < w) -> ∃ f : Nat, f <= s.e.length /\ (∀ k, k < f -> wgE s k < w) /\ (f < s.e.length -> w <= wgE s f) /\
    z2r (f0 + 1) n w (visL s) (i : Int) 0 ⟨s.v, s.b, s.y, s.e⟩ = z2n (f0 + 1) (f0 + 1) w (visL s) (f : Int) (f : Int) 0 ⟨s.v, s.b, s.y, s.e⟩ := by
   intro n
   induction n with
   | zero => intro i h; omega
   | succ n ih =>
    intro i hn hi hlo
    rw [z2r, hvl]
    by_cases q : i < s.e.length
    ·rw [z7 (fun _ => ⟨by omega, by omega⟩), hat i q]
     by_cases q2 : wgE s i < w
     ·rw [if_pos (by simp only [Bool.and_eq_true, decide_eq_true_eq]; omega), W_id (x := (i : Int) + 1) (by omega) (by omega)]
      exact ih (i + 1) (by omega) (by omega) fun k hk => by
       by_cases e : k = i
       ·subst e; exact q2
       ·exact hlo k (by omega)
     ·rw [if_neg (by simp only [Bool.and_eq_true, decide_eq_true_eq]; omega)]
      exact ⟨i, hi, hlo, fun _ => by omega, rfl⟩
    ·rw [z7 (fun h => absurd h (by simp; omega)), if_neg (by simp only [Bool.and_eq_true, decide_eq_true_eq]; omega)]
     exact ⟨i, hi, hlo, fun h => absurd h q, rfl⟩
  obtain ⟨f, g1, g2, g3, g4⟩ := key (f0 + 1) 0 (by omega) (by omega) (fun k hk => by omega)
  have key2 : ∀ (n i : Nat), s.e.length - i < n -> f <= i -> i <= s.e.length -> (∀ k, f <= k -> k < i -> wgE s k = w) -> ∃ e : Nat, f <= e /\ e <= s.e.length /\ (∀ k, f <= k -> k < e -> wgE s k = w) /\ (e < s.e.length -> wgE s e ≠ w) /\
    z2n (f0 + 1) n w (visL s) (f : Int) (i : Int) 0 ⟨s.v, s.b, s.y, s.e⟩ = some (⟨s.v, s.b, s.y, s.e⟩, visL s, (f : Int), (e : Int), 0, ()) := by
   intro n
   induction n with
   | zero => intro i h; omega
   | succ n ih =>
    intro i hn hf hi hlo
    rw [z2n, hvl]
    by_cases q : i < s.e.length
    ·rw [z7 (fun _ => ⟨by omega, by omega⟩), hat i q]
     by_cases q2 : wgE s i = w
     ·rw [if_pos (by simp only [Bool.and_eq_true, decide_eq_true_eq, beq_iff_eq]; omega), W_id (x := (i : Int) + 1) (by omega) (by omega)]
      exact ih (i + 1) (by omega) (by omega) (by omega) fun k hk1 hk => by
       by_cases e : k = i
       ·subst e; exact q2
       ·exact hlo k hk1 (by omega)
     ·rw [if_neg (by simp only [Bool.and_eq_true, decide_eq_true_eq, beq_iff_eq]; omega)]
      exact ⟨i, hf, hi, hlo, fun _ => q2, rfl⟩
    ·rw [z7 (fun h => absurd h (by simp; omega)), if_neg (by simp only [Bool.and_eq_true, decide_eq_true_eq, beq_iff_eq]; omega)]
     exact ⟨i, hf, hi, hlo, fun h => absurd h q, rfl⟩
  obtain ⟨e, k1, k2, k3, k4, k5⟩ := key2 (f0 + 1) f (by omega) (Nat.le_refl _) g1 (fun k h1 h2 => by omega)
  refine ⟨f, e, ⟨k1, k2, k3, g2, g3, k4⟩, ?_⟩
  have g4' : z2r (f0 + 1) (f0 + 1) w (visL s) 0 0 ⟨s.v, s.b, s.y, s.e⟩ = _ := g4
  rw [g4', k5]
theorem zvh (φ : Nat) (hφ : 800000 < φ) (p : Pool) {l : List ze} (hl : FewL l) (w m : Int) :
  ∃ a ok, zc φ p l w m = some (a, ok, zcb φ p l w m, ()) /\ (zcb φ p l w m ≠ 0 -> a = 0 /\ ok = false) /\
   (zcb φ p l w m = 0 -> yaa φ p l w m /\ ∃ f e : Nat, RunW (bsB φ p l) w f e /\
    ((ok = true /\ ∃ r i, zw3 (z4y (bsB φ p l)) (z5y (bsB φ p l)) (vrE (bsB φ p l)) (stE (bsB φ p l)) m f e r i /\ a = plE (bsB φ p l) r) \/
     (ok = false /\ a = 0 /\ ∀ r i, ¬ zw3 (z4y (bsB φ p l)) (z5y (bsB φ p l)) (vrE (bsB φ p l)) (stE (bsB φ p l)) m f e r i))) := by
 unfold zc
 rcases y5r φ hφ p hl w m with ⟨h1, x, v, f, e, h2⟩ | ⟨h1, hA, f, e, hR, h2⟩
 ·rw [h2, Option.bind_some]
  simp only
  rw [if_pos (by simpa using h1)]
  exact ⟨_, _, rfl, fun _ => ⟨rfl, rfl⟩, fun h => absurd h h1⟩
 ·rw [h2, Option.bind_some, h1]
  simp only
  rw [if_neg (by simp)]
  obtain ⟨X, hX⟩ := hA.sol
  have hG := hA.good
  have hE := ztz hφ hA.hc hl hG hX hR
  generalize bsB φ p l = s at *
  have hel := hG.el
  have hv2 := hG.v2
  have r1 := hR.fe
  have r2 := hR.el
  have hvl : (visL s).length = s.e.length := by simp [visL]
  suffices key : ∀ (n i run : Nat), e - i < n -> f <= run -> run <= i -> i <= e -> (∀ k, run <= k -> k < i -> stE s k = true) -> (run = f \/ stE s (run - 1) = false) -> (∀ r j, zw3 (z4y s) (z5y s) (vrE s) (stE s) m f e r j -> i <= j) ->
    ∃ a ok, z1r φ n m (visL s) (run : Int) (e : Int) (i : Int) = some (a, ok, 0, ()) /\ ((ok = true /\ ∃ r i, zw3 (z4y s) (z5y s) (vrE s) (stE s) m f e r i /\ a = plE s r) \/ (ok = false /\ a = 0 /\ ∀ r i, ¬ zw3 (z4y s) (z5y s) (vrE s) (stE s) m f e r i)) by
   obtain ⟨a, ok, k1, k2⟩ := key φ f f (by omega) (Nat.le_refl _) (Nat.le_refl _) r1 (fun k h1 h2 => by omega) (.inl rfl) (fun r j hC => by have := hC.cf; have := hC.ci; omega)
   exact ⟨a, ok, k1, fun h => absurd rfl h, fun _ => ⟨hA, f, e, hR, k2⟩⟩
  intro n
  induction n with
  | zero => intro i run h; omega
  | succ n ih =>
   intro i run hn hf hr hi hst hpre hno
   rw [z1r]
   by_cases q : i < e
   ·have hvi : gt (visL s) (i : Int) = _ := zmj (E := z4y s) (T := z5y s) (k := i) (by omega)
    rw [if_pos (by simp; omega), hvl, z7 ⟨by omega, by omega⟩, hvi]
    cases hs : stE s i with
    | true =>
     rw [if_pos rfl, W_id (x := (i : Int) + 1) (by omega) (by omega)]
     refine ih (i + 1) run (by omega) hf (by omega) (by omega) (fun k k1 k2 => ?_) hpre fun r j hC => ?_
     ·by_cases e : k = i
      ·subst e; exact hs
      ·exact hst k k1 (by omega)
     ·have := hno r j hC
      by_cases e : j = i
      ·subst e; have := hC.cns; rw [hs] at this; cases this
      ·omega
    | false =>
     have hvr : gt (visL s) (run : Int) = _ := zmj (E := z4y s) (T := z5y s) (k := run) (by omega)
     rw [if_neg (by simp), z7 ⟨by omega, by omega⟩, z7 (fun _ => ⟨by omega, by omega⟩), hvr]
     by_cases h : z5y s (vrE s run) <= m /\ m <= z4y s (vrE s i)
     ·rw [if_pos (by simpa using h), z7 ⟨by omega, by omega⟩]
      exact ⟨_, _, rfl, .inl ⟨rfl, run, i, ⟨hf, hr, q, hst, hs, h.1, h.2⟩, rfl⟩⟩
     ·rw [if_neg (by simpa using h), W_id (x := (i : Int) + 1) (by omega) (by omega)]
      refine ih (i + 1) (i + 1) (by omega) (by omega) (Nat.le_refl _) (by omega) (fun k k1 k2 => by omega) (.inr (by simpa using hs)) fun r j hC => ?_
      have := hno r j hC
      by_cases e : j = i
      ·exfalso
       subst e
       have hrr : run <= r := by
        by_cases z : run <= r
        ·exact z
        ·rcases hpre with z2 | z2
         ·have := hC.cf; omega
         ·have := hC.cst (run - 1) (by omega) (by omega)
          rw [z2] at this; cases this
       have := (hE.mono hE.ets.tS hf hrr (by have := hC.ci; omega)).1
       have := hC.cl
       exact h ⟨by omega, hC.ch⟩
      ·omega
   ·rw [if_neg (by simp; omega)]
    exact ⟨_, _, rfl, .inr ⟨rfl, rfl, fun r j hC => by have := hno r j hC; have := hC.ce; omega⟩⟩
def gapT (s : BS) (k : Nat) : Int := gt (runT s.b s.v.toNat (t0 s.v.toNat (vrE s k))).d (vrE s (k + 1))
theorem zku {s : BS} (h : Good s) {X : Int -> Int} (hX : SolF s X) (φ : Nat) (hφ : 5001 < φ) {k : Nat} (hk : k + 1 < s.e.length) :
  z8z φ s.v s.b (vrE s k) (vrE s (k + 1)) = some (gapT s k, true, 0, ()) /\ -2305843009213693952 <= gapT s k /\ gapT s k <= 2305843009213693952 /\ ∃ Y, SolF s Y /\ Y (vrE s k) = 0 /\ Y (vrE s (k + 1)) = gapT s k /\ ∀ X, SolF s X -> ∀ v, 0 <= v -> v < s.v -> X v - X (vrE s k) <= Y v := by
 have hv := h.v1
 have hv2 := h.v2
 obtain ⟨i1, i2⟩ := h.ev (gt s.e (k : Int)) (z0h (by omega) (by omega))
 obtain ⟨j1, j2⟩ := h.ev (gt s.e ((k + 1 : Nat) : Int)) (z0h (by omega) (by omega))
 change 1 <= vrE s k at i1
 change vrE s k < s.v at i2
 change 1 <= vrE s (k + 1) at j1
 change vrE s (k + 1) < s.v at j2
 obtain ⟨g1, g2, g3, g4⟩ := zvo (n := s.v.toNat) h.ok h.conn (zge.1 hX) (u := vrE s k) (by omega) (by omega)
 have e := y4e φ hφ s.b s.v.toNat (by omega) (by omega) h.ok h.bl (h.sol.2 ⟨X, hX⟩) (i := vrE s k) (j := vrE s (k + 1)) (by omega) (by omega)
 rw [show ((s.v.toNat : Nat) : Int) = s.v by omega] at e
 have hb := (zsp h.ok (y9z h.ok (zge.1 hX) (u := (vrE s k).toNat) (by omega)) s.v.toNat 0 0 (t0 s.v.toNat (vrE s k)) y7j (ycd (by omega) (by omega)) (by omega)).1
 have hm := Nat.mul_le_mul (show s.v.toNat <= 512 by omega) h.bl
 have hb2 := (hb.up (e := 2097152) (by omega)).bd (vrE s (k + 1)) (by omega) (by omega)
 refine ⟨?_, ?_, ?_, _, zge.2 g3.sat, g3.zero, rfl, fun Z hZ v v0 v1 => g3.top Z (zge.1 hZ) v v0 (by omega)⟩
 ·rw [e, g4 _ (by omega) (by omega), if_pos rfl]; rfl
 ·unfold gapT; omega
 ·unfold gapT; omega
structure PosL (φ : Nat) (p : Pool) (s : BS) (f e : Nat) (m : Int) (L : List Int) : Prop where
 inc : L.Pairwise (· < ·)
 mem : ∀ q, q ∈ L ↔ okPl p.network q /\ PosW φ p.network (z4y s) (z5y s) (gapT s) (plE s) (vrE s) (stE s) f e m q
theorem zrm (φ : Nat) (hφ : 800000 < φ) (p : Pool) {l : List ze} (hl : FewL l) (w m : Int) :
  ∃ L, z3u φ p l w m = some (L, zcb φ p l w m, ()) /\ (zcb φ p l w m ≠ 0 -> L = []) /\
   (zcb φ p l w m = 0 -> yaa φ p l w m /\ ∃ f e : Nat, RunW (bsB φ p l) w f e /\ PosL φ p (bsB φ p l) f e m L /\ L.length <= p.network.places.length) := by
 unfold z3u
 rcases y5r φ hφ p hl w m with ⟨h1, x, v, f, e, h2⟩ | ⟨h1, hA, f, e, hR, h2⟩
 ·rw [h2, Option.bind_some]
  simp only
  rw [if_pos (by simpa using h1)]
  exact ⟨_, rfl, fun _ => rfl, fun h => absurd h h1⟩
 ·rw [h2, Option.bind_some, h1]
  simp only
  rw [if_neg (by simp)]
  obtain ⟨X, hX⟩ := hA.sol
  have hG := hA.good
  have hE := ztz hφ hA.hc hl hG hX hR
  have hn := (z2k hA.hc).1
  have hP := (zba hn).1
  generalize bsB φ p l = s at *
  have hel := hG.el
  have hv2 := hG.v2
  have r1 := hR.fe
  have r2 := hR.el
  have m0 := hA.m0
  have m1 := hA.m1
  have hvl : (visL s).length = s.e.length := by simp [visL]
  -- the two questions of a place
  have p1 : ∀ (k : Nat) (q : Int), f <= k -> k < e -> okPl p.network q -> ∃ w b, z33 φ (k : Int) q p (visL s) m = some (w, b, ()) /\ (b = true ↔ zol φ p.network (z4y s) (plE s) (vrE s) m q k) /\ (b = true -> Dst φ p.network (plE s k) q = some w) /\ 0 <= w /\ w <= 51200000 := by
   intro k q k1 k2 hq
   have hv : gt (visL s) (k : Int) = _ := zmj (E := z4y s) (T := z5y s) (k := k) (by omega)
   unfold z33
   rw [hvl, z7 ⟨by omega, by omega⟩, hv]
   simp only
   rw [zez hφ hn (hE.ok k k1 k2).1 hq, Option.bind_some, z7 (fun _ => ⟨by omega, by omega⟩)]
   cases hd : Dst φ p.network (plE s k) q with
   | none => exact ⟨_, _, rfl, by simp [zol, hd], by simp, by simp, by simp⟩
   | some t =>
    have ht := zgc hφ hn (hE.ok k k1 k2).1 hq hd
    simp only
    rw [W_id (x := m - t) (by omega) (by omega)]
    refine ⟨_, _, rfl, ?_, fun _ => rfl, ht.1, ht.2⟩
    simp only [zol, hd, Option.some.injEq, exists_eq_left', beq_self_eq_true, Bool.true_and, decide_eq_true_eq]
    omega
  have p2 : ∀ (k : Nat) (q : Int), f <= k -> k < e -> okPl p.network q -> ∃ w b, z34 φ (k : Int) q p (visL s) m = some (w, b, ()) /\ (b = true ↔ zot φ p.network (z5y s) (plE s) (vrE s) m q k) /\ (b = true -> Dst φ p.network q (plE s k) = some w) /\ 0 <= w /\ w <= 51200000 := by
   intro k q k1 k2 hq
   have hv : gt (visL s) (k : Int) = _ := zmj (E := z4y s) (T := z5y s) (k := k) (by omega)
   unfold z34
   rw [hvl, z7 ⟨by omega, by omega⟩, hv]
   simp only
   rw [zez hφ hn hq (hE.ok k k1 k2).1, Option.bind_some, z7 (fun _ => ⟨by omega, by omega⟩)]
   cases hd : Dst φ p.network q (plE s k) with
   | none => exact ⟨_, _, rfl, by simp [zot, hd], by simp, by simp, by simp⟩
   | some t =>
    have ht := zgc hφ hn hq (hE.ok k k1 k2).1 hd
    simp only
    rw [W_id (x := m + t) (by omega) (by omega)]
    refine ⟨_, _, rfl, ?_, fun _ => rfl, ht.1, ht.2⟩
    simp only [zot, hd, Option.some.injEq, exists_eq_left', beq_self_eq_true, Bool.true_and, decide_eq_true_eq]
  have gaps : ∀ (K : Int -> Int -> Int -> Int -> List Int -> zt -> List zl -> Pool -> Int -> Option (List Int × Int × Unit)) (q x23 : Int) (acc : List Int), okPl p.network q -> acc.length <= 1000 -> ∀ (n i : Nat), e - i < n -> f <= i -> i <= e -> (∀ k, f <= k -> k + 1 < e -> k < i -> ¬ gapW φ p.network (z4y s) (z5y s) (gapT s) (plE s) (vrE s) (stE s) m q k) ->
    ∃ b : Bool, (b = true ↔ ∃ k, f <= k /\ k + 1 < e /\ gapW φ p.network (z4y s) (z5y s) (gapT s) (plE s) (vrE s) (stE s) m q k) /\
     z1g φ K n (f : Int) (e : Int) q (i : Int) (p.network.places.length : Int) x23 acc ⟨s.v, s.b, s.y, s.e⟩ (visL s) p m = K (f : Int) (e : Int) (p.network.places.length : Int) (W (x23 + 1)) (if b = true then acc ++ [q] else acc) ⟨s.v, s.b, s.y, s.e⟩ (visL s) p m := by
   intro K q x23 acc hq hacc n
   induction n with
   | zero => intro i h; omega
   | succ n ih =>
    intro i hn' hf hi hno
    have hWi : W ((i : Int) + 1) = ((i + 1 : Nat) : Int) := by rw [W_id (by omega) (by omega)]; omega
    rw [z1g, hWi]
    by_cases qe : i + 1 < e
    ·obtain ⟨w1, b1, e1, c1, d1, _, _⟩ := p1 i q hf (by omega) hq
     obtain ⟨w2, b2, e2, c2, d2, _, _⟩ := p2 (i + 1) q (by omega) qe hq
     have hv : gt (visL s) (i : Int) = _ := zmj (E := z4y s) (T := z5y s) (k := i) (by omega)
     rw [if_pos (by simp; omega), e1, Option.bind_some, e2, Option.bind_some, hvl, z7 (fun _ => ⟨by omega, by omega⟩), z7 (fun _ => ⟨by omega, by omega⟩), hv]
     simp only
     have next : ¬ gapW φ p.network (z4y s) (z5y s) (gapT s) (plE s) (vrE s) (stE s) m q i -> ∀ k, f <= k -> k + 1 < e -> k < i + 1 -> ¬ gapW φ p.network (z4y s) (z5y s) (gapT s) (plE s) (vrE s) (stE s) m q k := fun hg k k1 k2 k3 => by
      by_cases e : k = i
      ·subst e; exact hg
      ·exact hno k k1 k2 (by omega)
     by_cases hcond : (((!b1) || (!b2)) || (stE s i && (q != plE s i))) = true
     ·rw [if_pos hcond]
      refine ih (i + 1) (by omega) (by omega) (by omega) (next ?_)
      rintro ⟨a, b, g1, g2, g3, g4, g5, g6⟩
      have t1 : b1 = true := c1.2 ⟨a, g1, g2⟩
      have t2 : b2 = true := c2.2 ⟨b, g3, g4⟩
      rw [t1, t2] at hcond
      simp only [Bool.not_true, Bool.false_or, Bool.and_eq_true, bne_iff_ne, ne_eq] at hcond
      exact hcond.2 (g5 hcond.1)
     ·rw [if_neg hcond]
      simp only [Bool.or_eq_true, Bool.not_eq_true', Bool.and_eq_true, bne_iff_ne, ne_eq, not_or, not_and, Decidable.not_not, Bool.not_eq_false] at hcond
      obtain ⟨⟨t1, t2⟩, t3⟩ := hcond
      obtain ⟨tg, tl, th, _⟩ := zku hG hX φ (by omega) (k := i) (by omega)
      rw [z7 ⟨by omega, by omega⟩, z7 ⟨by omega, by omega⟩]
      change ∃ b : Bool, _ /\ (z8z φ s.v s.b (vrE s i) (vrE s (i + 1))).bind _ = _
      rw [tg, Option.bind_some, W_id (x := w1 + w2) (by omega) (by omega)]
      simp only
      have hl1 := d1 t1
      have hl2 := d2 t2
      obtain ⟨y1, z1, z2⟩ := c1.1 t1
      obtain ⟨y2, z3, z4⟩ := c2.1 t2
      rw [hl1] at z1; cases z1
      rw [hl2] at z3; cases z3
      by_cases hle : w1 + w2 <= gapT s i
      ·rw [if_pos (by simpa using hle), z7 (zm7 (by simp; omega) (by omega))]
       refine ⟨true, ⟨fun _ => ⟨i, hf, qe, w1, w2, hl1, z2, hl2, z4, t3, hle⟩, fun _ => rfl⟩, ?_⟩
       rw [if_pos rfl]
      ·rw [if_neg (by simpa using hle)]
       refine ih (i + 1) (by omega) (by omega) (by omega) (next ?_)
       rintro ⟨a, b, g1, g2, g3, g4, g5, g6⟩
       rw [hl1] at g1; cases g1
       rw [hl2] at g3; cases g3
       exact hle g6
    ·rw [if_neg (by simp; omega)]
     refine ⟨false, ⟨fun h => (by cases h), ?_⟩, by rw [if_neg (by simp)]⟩
     rintro ⟨k, k1, k2, k3⟩
     exact absurd k3 (hno k k1 k2 (by omega))
  suffices key : ∃ L, zz φ φ (f : Int) (e : Int) (p.network.places.length : Int) 0 [] ⟨s.v, s.b, s.y, s.e⟩ (visL s) p m = some (L, 0, ()) /\ PosL φ p s f e m L /\ L.length <= p.network.places.length by
   obtain ⟨L, k1, k2, k3⟩ := key
   exact ⟨L, k1, fun h => absurd rfl h, fun _ => ⟨hA, f, e, hR, k2, k3⟩⟩
  refine z0j (fun n i (L : List Int) => zz φ n (f : Int) (e : Int) (p.network.places.length : Int) i L ⟨s.v, s.b, s.y, s.e⟩ (visL s) p m) p.network.places.length
   (fun i L => L.length <= i /\ L.Pairwise (· < ·) /\ ∀ q, q ∈ L ↔ 0 <= q /\ q < (i : Int) /\ PosW φ p.network (z4y s) (z5y s) (gapT s) (plE s) (vrE s) (stE s) f e m q) (fun o => ∃ L, o = some (L, 0, ()) /\ PosL φ p s f e m L /\ L.length <= p.network.places.length) ?_ ?_ φ [] ⟨by simp, by simp, fun q => ⟨fun h => (by cases h), fun h => by omega⟩⟩ (by omega)
  ·intro n i L hi ⟨hlen, hpw, hmem⟩ hk
   have hq : okPl p.network (i : Int) := ⟨by omega, by omega⟩
   have yes : PosW φ p.network (z4y s) (z5y s) (gapT s) (plE s) (vrE s) (stE s) f e m i -> (L ++ [(i : Int)]).length <= i + 1 /\ (L ++ [(i : Int)]).Pairwise (· < ·) /\ ∀ q, q ∈ L ++ [(i : Int)] ↔ 0 <= q /\ q < ((i + 1 : Nat) : Int) /\ PosW φ p.network (z4y s) (z5y s) (gapT s) (plE s) (vrE s) (stE s) f e m q := fun hp => by
    refine ⟨by simp; omega, List.pairwise_append.2 ⟨hpw, by simp, fun a ha b hb => ?_⟩, fun q => ?_⟩
    ·rw [List.mem_singleton] at hb
     have := (hmem a).1 ha
     omega
    ·rw [List.mem_append, List.mem_singleton, hmem q]
     constructor
     ·rintro (⟨h1, h2, h3⟩ | rfl)
      ·exact ⟨h1, by omega, h3⟩
      ·exact ⟨by omega, by omega, hp⟩
     ·rintro ⟨h1, h2, h3⟩
      by_cases z : q = (i : Int)
      ·exact .inr z
      ·exact .inl ⟨h1, by omega, h3⟩
   have no : ¬ PosW φ p.network (z4y s) (z5y s) (gapT s) (plE s) (vrE s) (stE s) f e m i -> L.length <= i + 1 /\ L.Pairwise (· < ·) /\ ∀ q, q ∈ L ↔ 0 <= q /\ q < ((i + 1 : Nat) : Int) /\ PosW φ p.network (z4y s) (z5y s) (gapT s) (plE s) (vrE s) (stE s) f e m q := fun hp => by
    refine ⟨by omega, hpw, fun q => ?_⟩
    rw [hmem q]
    constructor
    ·rintro ⟨h1, h2, h3⟩
     exact ⟨h1, by omega, h3⟩
    ·rintro ⟨h1, h2, h3⟩
     by_cases z : q = (i : Int)
     ·subst z; exact absurd h3 hp
     ·exact ⟨h1, by omega, h3⟩
   have hWi : W ((i : Int) + 1) = (i : Int) + 1 := W_id (by omega) (by omega)
   have hfit : fits (L.length + ([(i : Int)] : List Int).length) 8 := zm7 (by simp; omega) (by omega)
   rw [zz, if_pos (by simp; omega), hWi]
   by_cases hfe : f = e
   ·rw [if_pos (by simp [hfe]), z7 hfit]
    exact hk _ (yes (.inl hfe))
   ·rw [if_neg (by simp; omega)]
    obtain ⟨w2, b2, e2, c2, _, _, _⟩ := p2 f i (Nat.le_refl _) (by omega) hq
    rw [e2, Option.bind_some]
    cases b2 with
    | true =>
     rw [if_pos rfl, z7 hfit]
     exact hk _ (yes (.inr (.inl (c2.1 rfl))))
    | false =>
     rw [if_neg (by simp)]
     obtain ⟨w1, b1, e1, c1, _, _, _⟩ := p1 (e - 1) i (by omega) (by omega) hq
     rw [show W ((e : Int) - 1) = ((e - 1 : Nat) : Int) by rw [W_id (by omega) (by omega)]; omega, e1, Option.bind_some]
     cases b1 with
     | true =>
      rw [if_pos rfl, z7 hfit]
      exact hk _ (yes (.inr (.inr (.inl (c1.1 rfl)))))
     | false =>
      rw [if_neg (by simp)]
      obtain ⟨b, hb1, hb2⟩ := gaps (zz φ n) i i L hq (by omega) φ f (by omega) (Nat.le_refl _) r1 (fun k k1 k2 k3 => by omega)
      rw [hb2, hWi]
      refine hk _ ?_
      cases b with
      | true => rw [if_pos rfl]; exact yes (.inr (.inr (.inr (hb1.1 rfl))))
      | false =>
       rw [if_neg (by simp)]
       refine no ?_
       rintro (h | h | h | h)
       ·exact hfe h
       ·exact absurd (c2.2 h) (by simp)
       ·exact absurd (c1.2 h) (by simp)
       ·exact absurd (hb1.2 h) (by simp)
  ·intro n L ⟨hlen, hpw, hmem⟩
   rw [zz, if_neg (by simp)]
   exact ⟨L, rfl, ⟨hpw, fun q => by rw [hmem q]; unfold okPl; rw [and_assoc]⟩, hlen⟩
end Px
end
section
namespace Px
open Go
set_option linter.unusedVariables false
set_option linter.unusedSimpArgs false
theorem y4t (φ : Nat) (hφ : 1000 < φ) (p : Pool) : ∃ b, z5z φ p = some (b, ()) /\ (b = true -> p.network.places.length <= 16 /\ p.network.edges.length <= 40 /\ p.fleet.wagons.length <= 8 /\ p.readers.length <= 8) := by
 unfold z5z
 split
 ·exact ⟨false, rfl, fun h => by cases h⟩
 ·rename_i hc
  simp only [Bool.or_eq_true, decide_eq_true_eq, not_or] at hc
  obtain ⟨⟨⟨⟨⟨⟨c1, c2⟩, c3⟩, c4⟩, c5⟩, c6⟩, c7⟩ := hc
  have : ∃ b, z1d φ φ 0 p = some (b, ()) := by
   refine z0j (fun n i (_ : Unit) => z1d φ n i p) p.railways.length (fun _ _ => True) (fun o => ∃ b, o = some (b, ())) ?_ ?_ φ () trivial (by omega)
   ·intro n i _ hi _ hs
    rw [z1d, if_pos (by simp; omega), z7 ⟨by omega, by omega⟩, W_id (by omega) (by omega)]
    split
    ·exact ⟨false, rfl⟩
    ·exact hs () trivial
   ·intro n _ _
    rw [z1d, if_neg (by simp)]
    exact ⟨true, rfl⟩
  obtain ⟨b, hb⟩ := this
  exact ⟨b, hb, fun _ => by omega⟩
theorem y7u (φ : Nat) (hφ : 1000 < φ) (l : List ze) (N : Nat) (hN : N <= 500) : ∃ b, z3r φ l N = some (b, ()) /\ (b = true -> FewL l /\ l.length <= N) /\ (b = true ↔ l.length <= N /\ ∀ r ∈ l, r.item.parts.length <= 40 /\ r.item.text.size <= 2000) := by
 unfold z3r
 by_cases h60 : N < l.length
 ·rw [if_pos (by simp; omega)]
  exact ⟨false, rfl, (fun h => by cases h), (fun h => by cases h), fun h => by omega⟩
 ·rw [if_neg (by simp; omega)]
  refine z0j (fun n i (_ : Unit) => z1q φ n l i) l.length (fun i _ => ∀ j : Nat, j < i -> (gt l (j : Int)).item.parts.length <= 40 /\ (gt l (j : Int)).item.text.size <= 2000)
   (fun o => ∃ b, o = some (b, ()) /\ (b = true -> FewL l /\ l.length <= N) /\ (b = true ↔ l.length <= N /\ ∀ r ∈ l, r.item.parts.length <= 40 /\ r.item.text.size <= 2000)) ?_ ?_ φ () (fun j hj => by omega) (by omega)
  ·intro n i _ hi hI hs
   rw [z1q, if_pos (by simp; omega), z7 ⟨by omega, by omega⟩, z7 (fun _ => ⟨by omega, by omega⟩), W_id (by omega) (by omega)]
   split
   ·rename_i hc
    simp only [Bool.or_eq_true, decide_eq_true_eq] at hc
    refine ⟨false, rfl, (fun h => by cases h), (fun h => by cases h), fun h => ?_⟩
    have := h.2 _ (z0h (l := l) (i := (i : Int)) (by omega) (by omega))
    omega
   ·rename_i hc
    simp only [Bool.or_eq_true, decide_eq_true_eq, not_or] at hc
    refine hs () fun j hj => ?_
    by_cases e : j = i
    ·subst e; omega
    ·exact hI j (by omega)
  ·intro n _ hI
   rw [z1q, if_neg (by simp)]
   have all : ∀ r ∈ l, r.item.parts.length <= 40 /\ r.item.text.size <= 2000 := fun r hr => by
    obtain ⟨j, hj, rfl⟩ := zc9 hr
    exact hI j hj
   exact ⟨true, rfl, fun _ => ⟨⟨by omega, fun r hr => by have := all r hr; omega⟩, by omega⟩, fun _ => ⟨by omega, all⟩, fun _ => rfl⟩
theorem zz2 (k : Nat) (x : Int) : ∀ n : Nat, ((List.range n).map fun (w : Nat) => if x = (w : Int) then k else 0).sum <= if x < (n : Int) then k else 0
 | 0 => by simp
 | n + 1 => by
  have ih := zz2 k x n
  rw [List.range_succ, List.map_append, List.sum_append]
  simp only [List.map_cons, List.map_nil, List.sum_cons, List.sum_nil, Nat.add_zero]
  by_cases h : x = (n : Int)
  ·rw [if_pos h, if_pos (by omega)]
   rw [if_neg (by omega)] at ih
   omega
  ·rw [if_neg h]
   by_cases h2 : x < (n : Int)
   ·rw [if_pos h2] at ih; rw [if_pos (by omega)]; omega
   ·rw [if_neg h2] at ih; omega
theorem y0e (f g : Nat -> Nat) : ∀ l : List Nat, (l.map fun w => f w + g w).sum = (l.map f).sum + (l.map g).sum
 | [] => rfl
 | a :: l => by
  have := y0e f g l
  simp only [List.map_cons, List.sum_cons]
  omega
theorem zya (p : Pool) (l : List ze) (n : Nat) : ∀ c : List Int, ((List.range n).map fun (w : Nat) => (unsC p l c (w : Int)).length).sum <= 2 * c.length
 | [] => by
  have : ∀ l : List Nat, (l.map fun _ => 0).sum = 0 := fun l => by
   induction l with
   | nil => rfl
   | cons a l ih => rw [List.map_cons, List.sum_cons, ih]
  have h := this (List.range n)
  show ((List.range n).map fun (w : Nat) => ([] : List z6).length).sum <= 0
  exact Nat.le_of_eq h
 | i :: c => by
  have ih := zya p l n c
  have e : ∀ w : Int, (unsC p l (i :: c) w).length = (if (gt l i).item.wagon = w then (evs p (gt l i) i).length else 0) + (unsC p l c w).length := fun w => by
   unfold unsC
   rw [List.flatMap_cons, List.length_append]
   split <;> rfl
  simp only [e]
  rw [y0e]
  have h1 := zz2 (evs p (gt l i) i).length (gt l i).item.wagon n
  have h2 := zsg p (gt l i) i
  rw [List.length_cons]
  split at h1 <;> omega
theorem y3s (p : Pool) (l : List ze) : (zd p l).flatten.length <= 2 * l.length := by
 rw [List.length_flatten]
 unfold zd
 rw [List.map_map]
 have h := zya p l p.fleet.wagons.length (cnt p l)
 have h2 := zgk p l l.length
 have e : (List.length ∘ fun (w : Nat) => z0y p l (w : Int)) = fun (w : Nat) => (unsC p l (cnt p l) (w : Int)).length := by
  funext w
  simp only [Function.comp]
  unfold z0y srt
  rw [zb8, (z1u _ _).length_eq]
  rfl
 rw [e]
 unfold cnt at h ⊢
 omega
theorem BB.fold (tv m) : ∀ (ts : List (List z6)) (n : Nat) (s : BS), BB n s -> BB (n + ts.flatten.length) (fB tv m ts s)
 | [], n, s, h => h
 | t :: ts, n, s, h => by
  have := BB.fold tv m ts _ _ (BB.ev tv m t n none s h)
  rw [Nat.add_assoc] at this
  rw [List.flatten_cons, List.length_append]
  exact this
theorem y9r (tv) {rs : List z1o} (hr : rs.length <= 256) (ts : List (List z6)) : BB ts.flatten.length (bAll tv rs ts) := by
 obtain ⟨h1, h2, h3, h4⟩ := z8h rs (used ts) rs.length
 have h0 : BB 0 (rd0 rs ts) := ⟨h1, by show (rdsN rs (used ts) rs.length).v <= _; omega, by show (rdsN rs (used ts) rs.length).b.length <= _; omega, by show (rdsN rs (used ts) rs.length).y.length <= _; omega, by simp⟩
 have := BB.fold tv (rdM rs ts) ts 0 _ h0
 rw [Nat.zero_add] at this
 exact this
theorem y7d {φ : Nat} {p : Pool} (hc : z01 p = 0) {l : List ze} (hl : l.length <= 100) : (bsB φ p l).v <= 257 + 2 * l.length /\ (bsB φ p l).b.length <= 512 + 10 * l.length /\ (bsB φ p l).e.length <= 2 * l.length /\ ¬ (512 < (bsB φ p l).v \/ 4096 < (bsB φ p l).b.length) := by
 have h : BB (zd p l).flatten.length (bsB φ p l) := y9r (tvl φ p.network) (z2k hc).2.2.1 (zd p l)
 have h2 := y3s p l
 have q1 := h.v1
 have q2 := h.b
 have q3 := h.e
 refine ⟨by omega, by omega, ?_, by omega⟩
 omega
theorem ztb : ∀ (a b : List z6) (v : Int), evsE v (a ++ b) = evsE v a ++ evsE (v + a.length) b
 | [], b, v => by simp [evsE]
 | x :: a, b, v => by
  simp only [List.cons_append, evsE, ztb a b (v + 1), List.length_cons]
  rw [show v + 1 + (a.length : Int) = v + ((a.length + 1 : Nat) : Int) by omega]
theorem znj (tv m) : ∀ (ts : List (List z6)) (s : BS), (fB tv m ts s).e = s.e ++ evsE s.v ts.flatten /\ (fB tv m ts s).v = s.v + ts.flatten.length
 | [], s => by simp [fB, evsE]
 | t :: ts, s => by
  obtain ⟨h1, h2⟩ := znj tv m ts (bEv tv m none t s)
  have e : fB tv m (t :: ts) s = fB tv m ts (bEv tv m none t s) := rfl
  rw [e, h1, h2, zt7, zvr, List.flatten_cons, ztb, List.length_append, List.append_assoc]
  exact ⟨rfl, by omega⟩
def v0E (p : Pool) (l : List ze) : Int := (rd0 p.readers (zd p l)).v
theorem znm (φ : Nat) (p : Pool) (l : List ze) : (bsB φ p l).e = evsE (v0E p l) (zd p l).flatten /\ (bsB φ p l).v = v0E p l + (zd p l).flatten.length := by
 rw [bsB, zbe]
 obtain ⟨h1, h2⟩ := znj (tvl φ p.network) (rdM p.readers (zd p l)) (zd p l) (rd0 p.readers (zd p l))
 rw [h1, h2]
 exact ⟨List.nil_append _, rfl⟩
theorem y0z (φ : Nat) (p : Pool) (l : List ze) : (bsB φ p l).e.length = (zd p l).flatten.length := by rw [(znm φ p l).1, zog]
theorem y5q (φ : Nat) (p : Pool) (l : List ze) {k : Nat} (h : k < (zd p l).flatten.length) : gt (bsB φ p l).e (k : Int) = evE (v0E p l + k) (gt (zd p l).flatten (k : Int)) := by
 have h2 := y0z φ p l
 have := zlq (l := (bsB φ p l).e) (i := k) (by omega)
 rw [(znm φ p l).1, zhx, zlq h, Option.map_some, Option.some.injEq] at this
 rw [(znm φ p l).1]; exact this.symm
def offW (p : Pool) (l : List ze) (w : Nat) : Nat := ((zd p l).take w).flatten.length
theorem zdz (p : Pool) (l : List ze) {w : Nat} (h : w < p.fleet.wagons.length) : (zd p l)[w]? = some (z0y p l (w : Int)) := by
 unfold zd
 simp [h]
theorem zbt (p : Pool) (l : List ze) {w : Nat} (h : w < p.fleet.wagons.length) : zd p l = (zd p l).take w ++ z0y p l (w : Int) :: (zd p l).drop (w + 1) := by
 have hl : (zd p l).length = p.fleet.wagons.length := by simp [zd]
 have h2 := zdz p l h
 rw [List.getElem?_eq_getElem (by omega), Option.some.injEq] at h2
 rw [<- h2]
 simp
theorem zdv (p : Pool) (l : List ze) {w : Nat} (h : w < p.fleet.wagons.length) : (zd p l).flatten = ((zd p l).take w).flatten ++ (z0y p l (w : Int) ++ ((zd p l).drop (w + 1)).flatten) := by
 conv => lhs; rw [zbt p l h]
 rw [List.flatten_append, List.flatten_cons]
theorem zou (p : Pool) (l : List ze) {w : Nat} (h : w < p.fleet.wagons.length) : offW p l w + (z0y p l (w : Int)).length <= (zd p l).flatten.length := by
 rw [zdv p l h, List.length_append, List.length_append]
 unfold offW; omega
theorem zni (p : Pool) (l : List ze) {w : Nat} (h : w < p.fleet.wagons.length) {i : Nat} (hi : i < (z0y p l (w : Int)).length) : gt (zd p l).flatten ((offW p l w + i : Nat) : Int) = gt (z0y p l (w : Int)) (i : Int) := by
 have := zou p l h
 rw [z2a (by omega), z2a hi]
 have e : ∀ (k : Nat) (hk : k < (zd p l).flatten.length), (zd p l).flatten[k] = (((zd p l).take w).flatten ++ (z0y p l (w : Int) ++ ((zd p l).drop (w + 1)).flatten))[k]'(by rw [<- zdv p l h]; exact hk) := fun k hk => by
  congr 1; exact zdv p l h
 rw [e, List.getElem_append_right (by unfold offW; omega)]
 unfold offW
 rw [List.getElem_append_left (by omega)]
 congr 1; omega
theorem zjj {p : Pool} {l : List ze} {w : Nat} {t : List z6} (h : t ∈ (zd p l).take w) : ∃ u : Nat, u < w /\ u < p.fleet.wagons.length /\ t = z0y p l (u : Int) := by
 obtain ⟨u, hu, e⟩ := List.getElem_of_mem h
 rw [List.length_take] at hu
 have hl : (zd p l).length = p.fleet.wagons.length := by simp [zd]
 refine ⟨u, by omega, by omega, ?_⟩
 rw [List.getElem_take] at e
 rw [<- e]; simp [zd]
theorem zjr {p : Pool} {l : List ze} {w : Nat} {t : List z6} (h : t ∈ (zd p l).drop w) : ∃ u : Nat, w <= u /\ u < p.fleet.wagons.length /\ t = z0y p l (u : Int) := by
 obtain ⟨u, hu, e⟩ := List.getElem_of_mem h
 rw [List.length_drop] at hu
 have hl : (zd p l).length = p.fleet.wagons.length := by simp [zd]
 refine ⟨w + u, by omega, by omega, ?_⟩
 rw [List.getElem_drop] at e
 rw [<- e]; simp [zd]
theorem zgt {p : Pool} {l : List ze} (hl : FewL l) {w : Nat} (h : w < p.fleet.wagons.length) {k : Nat} (hk : k < (zd p l).flatten.length) :
  (k < offW p l w -> (gt (zd p l).flatten (k : Int)).visit.wagon < (w : Int)) /\ (offW p l w + (z0y p l (w : Int)).length <= k -> (w : Int) < (gt (zd p l).flatten (k : Int)).visit.wagon) := by
 have e := zlq hk
 generalize gt (zd p l).flatten (k : Int) = x at *
 rw [zdv p l h] at e
 constructor
 ·intro hlt
  rw [List.getElem?_append_left (by unfold offW at hlt; exact hlt)] at e
  obtain ⟨t, ht, hx⟩ := List.mem_flatten.1 (List.mem_of_getElem? e)
  obtain ⟨u, u1, _, rfl⟩ := zjj ht
  rw [z5m hl hx]; omega
 ·intro hge
  unfold offW at hge
  rw [List.getElem?_append_right (by omega), List.getElem?_append_right (by omega)] at e
  obtain ⟨t, ht, hx⟩ := List.mem_flatten.1 (List.mem_of_getElem? e)
  obtain ⟨u, u1, _, rfl⟩ := zjr ht
  rw [z5m hl hx]; omega
section
variable (φ : Nat) {p : Pool} {l : List ze} (hl : FewL l) {w : Int} (w0 : 0 <= w) (w1 : w < (p.fleet.wagons.length : Int))
include hl w0 w1
theorem zyu : RunW (bsB φ p l) w (offW p l w.toNat) (offW p l w.toNat + (z0y p l w).length) := by
 have hw : ((w.toNat : Nat) : Int) = w := by omega
 have hlt : w.toNat < p.fleet.wagons.length := by omega
 have hle := zou p l hlt
 rw [hw] at hle
 have hlen := y0z φ p l
 have wg : ∀ k, k < (zd p l).flatten.length -> wgE (bsB φ p l) k = (gt (zd p l).flatten (k : Int)).visit.wagon := fun k hk => by
  unfold wgE; rw [y5q φ p l hk]; rfl
 refine ⟨by omega, by omega, fun k k1 k2 => ?_, fun k hk => ?_, fun h => ?_, fun h => ?_⟩
 ·rw [wg k (by omega)]
  have := zni p l hlt (i := k - offW p l w.toNat) (by rw [hw]; omega)
  rw [show offW p l w.toNat + (k - offW p l w.toNat) = k by omega, hw] at this
  rw [this]
  exact z5m hl (z0h (by omega) (by omega))
 ·rw [wg k (by omega)]
  have := (zgt hl hlt (k := k) (by omega)).1 hk
  omega
 ·rw [wg _ (by omega)]
  by_cases hz : (z0y p l w).length = 0
  ·have := (zgt hl hlt (k := offW p l w.toNat) (by omega)).2 (by rw [hw]; omega)
   omega
  ·have := zni p l hlt (i := 0) (by rw [hw]; omega)
   rw [Nat.add_zero, hw] at this
   rw [this, z5m hl (z0h (by omega) (by omega))]
   omega
 ·rw [wg _ (by omega)]
  have := (zgt hl hlt (k := offW p l w.toNat + (z0y p l w).length) (by omega)).2 (by rw [hw]; omega)
  omega
end
end Px
end
section
namespace Px
open Go
set_option linter.unusedVariables false
set_option linter.unusedSimpArgs false
theorem zta (rs : List z1o) (m : List (Int × Int)) (ρ : Int -> Int) (hr : ∀ i : Nat, i < rs.length -> 0 - (gt rs (i : Int)).high <= ρ i /\ ρ i <= 0 - (gt rs (i : Int)).low) : ∀ n : Nat, n <= rs.length ->
  ∃ X : Int -> Int, X 0 = 0 /\ (∀ b ∈ (rdsN rs m n).b, X b.j - X b.i <= b.w) /\ ∀ i : Nat, i < n -> (mget m (i : Int)).isSome = true -> ∀ v, mget (rdsN rs m n).m (i : Int) = some v -> X v = ρ i
 | 0, _ => ⟨fun _ => 0, rfl, fun b hb => by simp [rdsN] at hb, fun i hi => by omega⟩
 | n + 1, hn => by
  obtain ⟨X, x0, x1, x2⟩ := zta rs m ρ hr n (by omega)
  obtain ⟨g1, g2⟩ := znu rs m n
  have hb := zv4 rs m n (by omega)
  have hv := (z8h rs m n).1
  have h3 := g2 (n : Int) (Int.le_refl _)
  have hrn := hr n (by omega)
  simp only [rdsN, zi8]
  split
  ·rename_i hs
   generalize hvv : (rdsN rs m n).v = vv at *
   refine ⟨fun v => if v = vv then ρ n else X v, by simp only; rw [if_neg (by omega), x0], fun b q => ?_, fun i hi hm v q => ?_⟩
   ·simp only [List.mem_append, List.mem_cons, List.not_mem_nil, or_false] at q
    rcases q with q | rfl | rfl
    ·obtain ⟨r, _, v, v1, v2, v3⟩ := hb b q
     have := x1 b q
     rcases v3 with rfl | rfl
     ·simp only at this ⊢; rw [if_neg (by omega), if_neg (by omega)]; exact this
     ·simp only at this ⊢; rw [if_neg (by omega), if_neg (by omega)]; exact this
    ·simp only; rw [if_pos trivial, if_neg (by omega), x0]; omega
    ·simp only; rw [if_pos trivial, if_neg (by omega), x0]; omega
   ·simp only [zb9] at q
    by_cases e : i = n
    ·subst e
     rw [if_pos rfl] at q
     cases q
     simp only; rw [if_pos trivial]
    ·rw [if_neg (by omega)] at q
     obtain ⟨u, q1, q2, q3⟩ := g1 i (by omega) hm
     rw [q1] at q; cases q
     simp only; rw [if_neg (by omega)]
     exact x2 i (by omega) hm _ q1
  ·rename_i hs
   refine ⟨X, x0, x1, fun i hi hm v q => ?_⟩
   by_cases e : i = n
   ·subst e; rw [h3] at hs; exact absurd hm hs
   ·exact x2 i (by omega) hm v q
def ChT (tv : zl -> zl -> Int) (f : z6 -> Int) : Option (zl × Int) -> List z6 -> Prop
 | _, [] => True
 | pr, e :: t => (∀ a, pr = some a -> tv a.1 e.visit <= f e - a.2) /\ ChT tv f (some (e.visit, f e)) t
def EvT (f : z6 -> Int) (ρ : Int -> Int) (e : z6) : Prop := (e.reader < 0 -> f e = e.visit.early) /\ (0 <= e.reader -> f e = e.visit.early + ρ e.reader /\ 0 <= f e /\ f e <= 1073741824)
structure PS (m : List (Int × Int)) (ρ : Int -> Int) (c : Int) (s : BS) (X : Int -> Int) : Prop where
 x0 : X 0 = 0
 sol : SolF s X
 bd : ∀ b ∈ s.b, b.i < s.v /\ b.j < s.v
 v : 1 <= s.v
 cv : c <= s.v
theorem zyo (tv : zl -> zl -> Int) (m : List (Int × Int)) (ρ : Int -> Int) (f : z6 -> Int) (c : Int) : ∀ (t : List z6) (pr : Option (zl × Int)) (s : BS) (X : Int -> Int), PS m ρ c s X ->
  (∀ e ∈ t, 0 <= e.reader -> 1 <= rv m e /\ rv m e < c /\ X (rv m e) = ρ e.reader) -> (∀ e ∈ t, EvT f ρ e) -> ChT tv f pr t -> (∀ a, pr = some a -> X (s.v - 1) = a.2 /\ 2 <= s.v) ->
  ∃ X', PS m ρ c (bEv tv m (pr.map (·.1)) t s) X' /\ (∀ v, v < s.v -> X' v = X v) /\ ∀ (i : Nat) e, t[i]? = some e -> X' (s.v + i) = f e
 | [], pr, s, X, H, _, _, _, _ => ⟨X, H, fun _ _ => rfl, fun i e h => by simp at h⟩
 | e :: t, pr, s, X, H, hr, hf, hch, hp => by
  have he := hf e (List.mem_cons_self ..)
  have hre := hr e (List.mem_cons_self ..)
  have hv := H.v
  have hcv := H.cv
  have h0 := H.x0
  let X1 : Int -> Int := fun v => if v = s.v then f e else X v
  have hX1 : ∀ v, v < s.v -> X1 v = X v := fun v hv => by show (if v = s.v then f e else X v) = _; rw [if_neg (by omega)]
  have hXv : X1 s.v = f e := by show (if s.v = s.v then f e else X s.v) = _; rw [if_pos rfl]
  have hX0 : X1 0 = 0 := by rw [hX1 0 (by omega)]; exact h0
  have P1 : PS m ρ c (zay tv m (pr.map (·.1)) e s) X1 := by
   have key : ∀ b ∈ evB m s.v e ++ trB tv s.v (pr.map (·.1)) e, X1 b.j - X1 b.i <= b.w /\ b.i < s.v + 1 /\ b.j < s.v + 1 := by
    intro b hb
    rcases List.mem_append.1 hb with hb | hb
    ·unfold evB at hb
     split at hb
     ·rename_i q
      have := he.1 q
      simp only [List.mem_cons, List.not_mem_nil, or_false] at hb
      rcases hb with rfl | rfl
      ·simp only [hXv, hX0]; omega
      ·simp only [hXv, hX0]; omega
     ·rename_i q
      obtain ⟨r1, r2, r3⟩ := hre (by omega)
      obtain ⟨f1, f2, f3⟩ := he.2 (by omega)
      have hXr : X1 (rv m e) = ρ e.reader := by rw [hX1 _ (by omega)]; exact r3
      simp only [List.mem_cons, List.not_mem_nil, or_false] at hb
      rcases hb with rfl | rfl | rfl | rfl
      ·simp only [hXv, hXr]; omega
      ·simp only [hXv, hXr]; omega
      ·simp only [hXv, hX0]; omega
      ·simp only [hXv, hX0]; omega
    ·cases pr with
     | none => simp [trB] at hb
     | some a =>
      simp only [Option.map_some, trB, List.mem_singleton] at hb
      obtain ⟨p1, p2⟩ := hp a rfl
      have := hch.1 a rfl
      subst hb
      simp only [hXv, hX1 (s.v - 1) (by omega), p1]
      omega
   refine ⟨hX0, fun b hb => ?_, fun b hb => ?_, by simp only [zay]; omega, by simp only [zay]; omega⟩
   ·simp only [zay, List.append_assoc] at hb
    rcases List.mem_append.1 hb with hb | hb
    ·have := H.bd b hb
     rw [hX1 _ this.1, hX1 _ this.2]
     exact H.sol b hb
    ·exact (key b hb).1
   ·simp only [zay, List.append_assoc] at hb ⊢
    rcases List.mem_append.1 hb with hb | hb
    ·have := H.bd b hb; omega
    ·exact (key b hb).2
  obtain ⟨X2, g1, g2, g3⟩ := zyo tv m ρ f c t (some (e.visit, f e)) (zay tv m (pr.map (·.1)) e s) X1 P1 (fun y hy q => by
   obtain ⟨r1, r2, r3⟩ := hr y (List.mem_cons_of_mem _ hy) q
   exact ⟨r1, r2, by rw [hX1 _ (by omega)]; exact r3⟩) (fun y hy => hf y (List.mem_cons_of_mem _ hy)) hch.2 (fun a ha => by
   cases ha
   simp only [zay]
   exact ⟨by rw [show s.v + 1 - 1 = s.v by omega]; exact hXv, by omega⟩)
  refine ⟨X2, g1, fun v hv => ?_, fun i y hy => ?_⟩
  ·rw [g2 v (by simp only [zay]; omega)]; exact hX1 v hv
  ·cases i with
   | zero =>
    simp at hy; subst hy
    rw [show s.v + ((0 : Nat) : Int) = s.v by omega, g2 s.v (by simp only [zay]; omega)]
    exact hXv
   | succ i =>
    have := g3 i y (by simpa using hy)
    simp only [zay] at this
    rw [show s.v + ((i + 1 : Nat) : Int) = s.v + 1 + (i : Int) by omega]
    exact this
theorem y5s (tv : zl -> zl -> Int) (m : List (Int × Int)) (ρ : Int -> Int) (f : z6 -> Int) (c : Int) : ∀ (ts : List (List z6)) (s : BS) (X : Int -> Int), PS m ρ c s X ->
  (∀ t ∈ ts, ∀ e ∈ t, 0 <= e.reader -> 1 <= rv m e /\ rv m e < c /\ X (rv m e) = ρ e.reader) -> (∀ t ∈ ts, ∀ e ∈ t, EvT f ρ e) -> (∀ t ∈ ts, ChT tv f none t) ->
  ∃ X', PS m ρ c (fB tv m ts s) X' /\ (∀ v, v < s.v -> X' v = X v) /\ ∀ A t B, ts = A ++ t :: B -> ∀ (i : Nat) e, t[i]? = some e -> X' ((fB tv m A s).v + i) = f e
 | [], s, X, H, _, _, _ => ⟨X, H, fun _ _ => rfl, fun A t B h => by cases A <;> cases h⟩
 | t :: ts, s, X, H, hr, hf, hch => by
  obtain ⟨X1, g1, g2, g3⟩ := zyo tv m ρ f c t none s X H (hr t (List.mem_cons_self ..)) (hf t (List.mem_cons_self ..)) (hch t (List.mem_cons_self ..)) (fun a ha => by cases ha)
  have hcv := H.cv
  obtain ⟨X2, k1, k2, k3⟩ := y5s tv m ρ f c ts (bEv tv m none t s) X1 g1 (fun u hu e he q => by
   obtain ⟨r1, r2, r3⟩ := hr u (List.mem_cons_of_mem _ hu) e he q
   exact ⟨r1, r2, by rw [g2 _ (by omega)]; exact r3⟩) (fun u hu => hf u (List.mem_cons_of_mem _ hu)) (fun u hu => hch u (List.mem_cons_of_mem _ hu))
  have hbv : (bEv tv m none t s).v = s.v + t.length := zvr tv m t none s
  refine ⟨X2, k1, fun v hv => ?_, fun A u B hAB i e he => ?_⟩
  ·rw [k2 v (by rw [hbv]; omega)]; exact g2 v hv
  ·cases A with
   | nil =>
    simp only [List.nil_append, List.cons.injEq] at hAB
    obtain ⟨rfl, rfl⟩ := hAB
    have hlt := (List.getElem?_eq_some_iff.1 he).1
    show X2 (s.v + i) = f e
    rw [k2 _ (by rw [hbv]; omega)]
    exact g3 i e he
   | cons a A =>
    simp only [List.cons_append, List.cons.injEq] at hAB
    obtain ⟨rfl, rfl⟩ := hAB
    exact k3 A u B rfl i e he
theorem y4y {tv : zl -> zl -> Int} {rs : List z1o} {ts : List (List z6)} (hT : TsOK rs ts) {ρ : Int -> Int} {f : z6 -> Int} (hr : ∀ i : Nat, i < rs.length -> 0 - (gt rs (i : Int)).high <= ρ i /\ ρ i <= 0 - (gt rs (i : Int)).low)
  (hf : ∀ t ∈ ts, ∀ e ∈ t, EvT f ρ e) (hch : ∀ t ∈ ts, ChT tv f none t) : ∃ X, X 0 = 0 /\ SolF (bAll tv rs ts) X /\ ∀ A t B, ts = A ++ t :: B -> ∀ (i : Nat) e, t[i]? = some e -> X ((fB tv (rdM rs ts) A (rd0 rs ts)).v + i) = f e := by
 obtain ⟨X, x0, x1, x2⟩ := zta rs (used ts) ρ hr rs.length (Nat.le_refl _)
 have h0 := (z8h rs (used ts) rs.length).1
 have hb := zv4 rs (used ts) rs.length (Nat.le_refl _)
 have P0 : PS (rdM rs ts) ρ (rd0 rs ts).v (rd0 rs ts) X := ⟨x0, x1, fun b q => by
  obtain ⟨r, _, v, v1, v2, v3⟩ := hb b q
  change v < (rd0 rs ts).v at v2
  rcases v3 with rfl | rfl
  ·exact ⟨by show (0 : Int) < _; omega, v2⟩
  ·exact ⟨v2, by show (0 : Int) < _; omega⟩, h0, Int.le_refl _⟩
 obtain ⟨X', g1, g2, g3⟩ := y5s tv (rdM rs ts) ρ f _ ts (rd0 rs ts) X P0 (fun t ht e he q => by
  obtain ⟨r1, r2, r3⟩ := y9n hT ht he q
  have hlt := hT.reader t ht e he
  refine ⟨r2, r3, ?_⟩
  have hu := zuc ts [] t e ht he q
  have e1 : ((e.reader.toNat : Nat) : Int) = e.reader := by omega
  have := x2 e.reader.toNat (by omega) (by rw [e1]; exact hu) _ (by rw [e1]; exact r1)
  rw [e1] at this
  exact this) hf hch
 exact ⟨X', g1.x0, g1.sol, g3⟩
end Px
end
section
namespace Px
open Go
set_option linter.unusedVariables false
set_option linter.unusedSimpArgs false
def zik (m : List (Int × Bool)) : List Int := m.map (·.1)
theorem zwv {k : Int} {v : Bool} {c : Int} : ∀ m : List (Int × Bool), c ∈ zik (mset m k v) ↔ c = k \/ c ∈ zik m := by
 intro m
 induction m with
 | nil => simp [mset, zik]
 | cons q m ih =>
  obtain ⟨a, b⟩ := q
  simp only [mset]
  cases hk : (k == a) with
  | true =>
   have : k = a := by simpa using hk
   subst this
   simp [zik]
  | false =>
   simp only [cond_false, zik, List.map_cons, List.mem_cons] at ih ⊢
   rw [ih]
   constructor
   ·rintro (h | h | h)
    ·exact .inr (.inl h)
    ·exact .inl h
    ·exact .inr (.inr h)
   ·rintro (h | h | h)
    ·exact .inr (.inl h)
    ·exact .inl h
    ·exact .inr (.inr h)
theorem zyc {k : Int} {c : Int} : ∀ m : List (Int × Bool), KU m -> (c ∈ zik (mdel m k) ↔ c ≠ k /\ c ∈ zik m) := by
 intro m
 induction m with
 | nil => intro _; simp [mdel, zik]
 | cons q m ih =>
  obtain ⟨a, b⟩ := q
  intro h
  simp only [KU, List.map_cons, List.nodup_cons] at h
  have ih := ih h.2
  simp only [mdel]
  cases hk : (k == a) with
  | true =>
   have : k = a := by simpa using hk
   subst this
   simp only [cond_true, zik, List.map_cons, List.mem_cons]
   constructor
   ·intro hc
    exact ⟨fun e => h.1 (e ▸ hc), .inr hc⟩
   ·rintro ⟨h1, h2 | h2⟩
    ·exact absurd h2 h1
    ·exact h2
  | false =>
   have hne : ¬ k = a := by simpa using hk
   simp only [cond_false, zik, List.map_cons, List.mem_cons] at ih ⊢
   rw [ih]
   constructor
   ·rintro (h | h)
    ·exact ⟨fun e => hne (by rw [<- e, h]), .inl h⟩
    ·exact ⟨h.1, .inr h.2⟩
   ·rintro ⟨h1, h2 | h2⟩
    ·exact .inl h2
    ·exact .inr ⟨h1, h2⟩
def mAt (t : List z6) (n : Nat) : List (Int × Bool) := (t.take n).foldl (fun m e => covM e m) []
theorem zoj {t : List z6} {n : Nat} (h : n < t.length) : mAt t (n + 1) = covM (gt t (n : Int)) (mAt t n) := by
 unfold mAt
 rw [List.take_succ_eq_append_getElem h, List.foldl_append, z2a h]
 rfl
theorem y6j (t : List z6) : ∀ n, n <= t.length -> KU (mAt t n)
 | 0, _ => by simp [mAt, KU]
 | n + 1, h => by
  rw [zoj (by omega)]
  have := y6j t n (by omega)
  unfold covM
  split
  ·exact (KU.mdel this).1
  ·split
   ·exact KU.mset this
   ·exact this
def Mt (t : List z6) (q : Int) (j : Nat) : Prop := (gt t (j : Int)).second = true /\ (gt t (j : Int)).report = q
def Beg (t : List z6) (i : Nat) : Prop := (gt t (i : Int)).stay = true /\ (gt t (i : Int)).second = false
theorem zsz {t : List z6} (hs : ∀ e ∈ t, e.second = true -> e.stay = true) (q : Int) : ∀ n, n <= t.length ->
  (q ∈ zik (mAt t n) ↔ ∃ i, i < n /\ Beg t i /\ (gt t (i : Int)).report = q /\ ∀ j, i <= j -> j < n -> ¬ Mt t q j)
 | 0, _ => by simp [mAt, zik]
 | n + 1, h => by
  have ih := zsz hs q n (by omega)
  rw [zoj (by omega)]
  have hmem : gt t (n : Int) ∈ t := z0h (by omega) (by omega)
  have hse := hs _ hmem
  unfold covM
  by_cases h2 : (gt t (n : Int)).second = true
  ·rw [if_pos (by rw [h2, hse h2]; rfl), zyc _ (y6j t n (by omega)), ih]
   constructor
   ·rintro ⟨h1, i, hi, hst, hr, hall⟩
    refine ⟨i, by omega, hst, hr, fun j hj hj' => ?_⟩
    by_cases hjn : j = n
    ·subst hjn; exact fun hm => h1 hm.2.symm
    ·exact hall j hj (by omega)
   ·rintro ⟨i, hi, hst, hr, hall⟩
    have hin : i ≠ n := by intro e; subst e; rw [hst.2] at h2; cases h2
    exact ⟨fun e => hall n (by omega) (by omega) ⟨h2, e.symm⟩, i, by omega, hst, hr, fun j hj hj' => hall j hj (by omega)⟩
  ·have h2' : (gt t (n : Int)).second = false := by simpa using h2
   have nm : ∀ q, ¬ Mt t q n := fun q hm => h2 hm.1
   have hext : ∀ i, i < n -> ((∀ j, i <= j -> j < n -> ¬ Mt t q j) ↔ ∀ j, i <= j -> j < n + 1 -> ¬ Mt t q j) := by
    intro i hi
    constructor
    ·intro h j hj hj'
     by_cases hjn : j = n
     ·subst hjn; exact nm q
     ·exact h j hj (by omega)
    ·intro h j hj hj'; exact h j hj (by omega)
   rw [if_neg (by rw [h2']; simp)]
   by_cases h1 : (gt t (n : Int)).stay = true
   ·rw [if_pos h1, zwv, ih]
    constructor
    ·rintro (h | ⟨i, hi, hst, hr, hall⟩)
     ·exact ⟨n, by omega, ⟨h1, h2'⟩, h.symm, fun j hj hj' => by rw [show j = n by omega]; exact nm q⟩
     ·exact ⟨i, by omega, hst, hr, (hext i hi).1 hall⟩
    ·rintro ⟨i, hi, hst, hr, hall⟩
     by_cases hin : i = n
     ·subst hin; exact .inl hr.symm
     ·exact .inr ⟨i, by omega, hst, hr, (hext i (by omega)).2 hall⟩
   ·rw [if_neg h1, ih]
    constructor
    ·rintro ⟨i, hi, hst, hr, hall⟩
     exact ⟨i, by omega, hst, hr, (hext i hi).1 hall⟩
    ·rintro ⟨i, hi, hst, hr, hall⟩
     have hin : i ≠ n := by intro e; subst e; exact h1 hst.1
     exact ⟨i, by omega, hst, hr, (hext i (by omega)).2 hall⟩
def Cov (t : List z6) (n k : Nat) : Prop := ∃ i, i < n /\ i <= k /\ Beg t i /\ ∀ j, i <= j -> j <= k -> ¬ Mt t (gt t (i : Int)).report j
theorem y7s {t : List z6} (hs : ∀ e ∈ t, e.second = true -> e.stay = true) {k : Nat} (hk : k < t.length) : 0 < (mAt t (k + 1)).length ↔ Cov t t.length k := by
 constructor
 ·intro h
  obtain ⟨q, hq⟩ := List.exists_mem_of_length_pos h
  obtain ⟨i, hi, hst, hr, hall⟩ := (zsz hs q.1 (k + 1) (by omega)).1 (List.mem_map.2 ⟨q, hq, rfl⟩)
  exact ⟨i, by omega, by omega, hst, fun j hj hj' => by rw [hr]; exact hall j hj (by omega)⟩
 ·rintro ⟨i, hi, hik, hst, hall⟩
  have := (zsz hs _ (k + 1) (by omega)).2 ⟨i, by omega, hst, rfl, fun j hj hj' => hall j hj (by omega)⟩
  obtain ⟨q, hq, _⟩ := List.mem_map.1 this
  exact List.length_pos_of_mem hq
theorem y9y {t : List z6} (hE : Ends t) {i : Nat} (hi : i < t.length) (hst : Beg t i) : ∃ j, i <= j /\ j < t.length /\ Mt t (gt t (i : Int)).report j := by
 have hsp : t = t.take i ++ gt t (i : Int) :: t.drop (i + 1) := by
  rw [z2a hi]
  simp
 obtain ⟨y, hy, y1, y2, y3⟩ := hE _ _ _ hsp hst.1 hst.2
 obtain ⟨m, hm, he⟩ := List.getElem_of_mem hy
 rw [List.length_drop] at hm
 refine ⟨i + 1 + m, by omega, by omega, ?_⟩
 have : gt t ((i + 1 + m : Nat) : Int) = y := by
  rw [z2a (by omega), <- he, List.getElem_drop]
 unfold Mt
 rw [this]
 exact ⟨y2, y3⟩
theorem zuq {t : List z6} {j : Nat} (h1 : j < t.length) : gt (zeb t []) (j : Int) = zb1 (gt t (j : Int)) (decide ((0 : Int) < ((mAt t (j + 1)).length : Int))) := by
 have hsp : t = t.take j ++ gt t (j : Int) :: t.drop (j + 1) := by
  rw [z2a h1]
  simp
 have hg : (zeb t [])[j]? = some (zb1 (gt t (j : Int)) (decide ((0 : Int) < ((mAt t (j + 1)).length : Int)))) := by
  rw [zoj h1]
  conv => lhs; rw [hsp]
  rw [zpy]
  have hl : (zeb (t.take j) []).length = j := by rw [zb8, List.length_take]; omega
  rw [List.getElem?_append_right (by omega), hl, Nat.sub_self]
  rfl
 rw [zlq (by rw [zb8]; exact h1), Option.some.injEq] at hg
 exact hg
end Px
end
section
namespace Px
open Go
set_option linter.unusedVariables false
set_option linter.unusedSimpArgs false
def StP (a c : z6) : Prop := a.stay = true /\ a.second = false /\ c.second = true /\ c.report = a.report
def tmF (f : Int -> Bool -> Int) (e : z6) : Int := f e.report e.second
structure Hist (φ : Nat) (p : Pool) (l : List ze) (f : Int -> Bool -> Int) (ρ : Int -> Int) : Prop where
 rd : ∀ i : Nat, i < p.readers.length -> 0 - (gt p.readers (i : Int)).high <= ρ i /\ ρ i <= 0 - (gt p.readers (i : Int)).low
 ev : ∀ w : Nat, w < p.fleet.wagons.length -> ∀ e ∈ uns p l (w : Int), EvT (tmF f) ρ e
 far : ∀ w : Nat, w < p.fleet.wagons.length -> ∀ a ∈ uns p l (w : Int), ∀ b ∈ uns p l (w : Int), ltEv a b = true -> ∃ t, Dst φ p.network a.visit.place b.visit.place = some t /\ t <= tmF f b - tmF f a
 cov : ∀ w : Nat, w < p.fleet.wagons.length -> ∀ a ∈ uns p l (w : Int), ∀ b ∈ uns p l (w : Int), ∀ c ∈ uns p l (w : Int), StP a c -> ltEv a b = true -> ltEv b c = true -> b.visit.place = a.visit.place
section
variable (p : Pool) (l : List ze) (w : Int)
theorem z6h {x : z6} : x ∈ srt p l w ↔ x ∈ uns p l w := (z1u _ _).mem_iff
theorem zu3 : (srt p l w).Pairwise fun a b => a.report ≠ b.report \/ a.second ≠ b.second :=
 ((z1u _ _).pairwise_iff (R := fun a b : z6 => a.report ≠ b.report \/ a.second ≠ b.second) fun h => h.imp Ne.symm Ne.symm).2 (y07 p l w)
theorem zc8 {i j : Nat} (hij : i < j) (hj : j < (srt p l w).length) : ltEv (gt (srt p l w) (i : Int)) (gt (srt p l w) (j : Int)) = true /\ ltEv (gt (srt p l w) (j : Int)) (gt (srt p l w) (i : Int)) = false := by
 have h1 := (List.pairwise_iff_getElem.1 (z7t znn (uns p l w))) i j (by show i < (srt p l w).length; omega) hj hij
 have h2 := (List.pairwise_iff_getElem.1 (zu3 p l w)) i j (by omega) hj hij
 change ltEv ((srt p l w)[j]) ((srt p l w)[i]) = false at h1
 rw [z2a (by omega), z2a hj]
 refine ⟨?_, h1⟩
 rcases zyd h2 with h | h
 ·unfold ltEv; simpa using h
 ·unfold ltEv at h1
  simp only [decide_eq_false_iff_not] at h1
  exact absurd h h1
theorem zns {i j : Nat} (hi : i < (srt p l w).length) (hj : j < (srt p l w).length) (h : ltEv (gt (srt p l w) (i : Int)) (gt (srt p l w) (j : Int)) = true) : i < j := by
 by_cases q : i < j
 ·exact q
 ·by_cases q2 : i = j
  ·subst q2
   rw [znn.irrefl] at h; cases h
  ·rw [(zc8 p l w (i := j) (j := i) (by omega) hi).2] at h; cases h
theorem z1e : (z0y p l w).length = (srt p l w).length := zb8 _ _
theorem za6 {k : Nat} (h : k < (srt p l w).length) : ∃ b, gt (z0y p l w) (k : Int) = zb1 (gt (srt p l w) (k : Int)) b := ⟨_, zuq h⟩
theorem z2h {k : Nat} (h : k < (srt p l w).length) : (gt (z0y p l w) (k : Int)).visit.place = (gt (srt p l w) (k : Int)).visit.place := by
 obtain ⟨b, e⟩ := za6 p l w h
 rw [e]; rfl
end
theorem zu9 (p : Pool) (l : List ze) (w : Int) {i j : Nat} (hi : i < (srt p l w).length) (hj : j < (srt p l w).length) (h1 : (gt (srt p l w) (i : Int)).report = (gt (srt p l w) (j : Int)).report) (h2 : (gt (srt p l w) (i : Int)).second = (gt (srt p l w) (j : Int)).second) : i = j := by
 by_cases q : i < j
 ·have := (List.pairwise_iff_getElem.1 (zu3 p l w)) i j hi hj q
  rw [<- z2a hi, <- z2a hj] at this
  exact (this.elim (fun h => h h1) fun h => h h2).elim
 ·by_cases q2 : j < i
  ·have := (List.pairwise_iff_getElem.1 (zu3 p l w)) j i hj hi q2
   rw [<- z2a hi, <- z2a hj] at this
   exact (this.elim (fun h => h h1.symm) fun h => h h2.symm).elim
  ·omega
theorem zn1 {p : Pool} (hc : z01 p = 0) {l : List ze} (hl : FewL l) (w : Int) {k : Nat} (hk : k < (srt p l w).length) :
  (gt (z0y p l w) (k : Int)).visit.stay = true ↔ ∃ i j : Nat, i <= k /\ k < j /\ j < (srt p l w).length /\ StP (gt (srt p l w) (i : Int)) (gt (srt p l w) (j : Int)) := by
 have hs : ∀ e ∈ srt p l w, e.second = true -> e.stay = true := fun e he h => by
  obtain ⟨_, _, _, _, a5⟩ := zah hl.len ((z6h p l w).1 he)
  unfold evs at a5
  split at a5
  ·simp only [List.mem_singleton] at a5; rw [a5] at h; cases h
  ·split at a5
   ·simp only [List.mem_cons, List.not_mem_nil, or_false] at a5
    rcases a5 with a5 | a5 <;> rw [a5]
   ·split at a5
    ·simp only [List.mem_singleton] at a5; rw [a5] at h; cases h
    ·cases a5
 have e : gt (z0y p l w) (k : Int) = _ := zuq hk
 rw [e]
 have h2 := y7s hs hk
 show decide ((0 : Int) < _) = true ↔ _
 rw [decide_eq_true_eq, show ((0 : Int) < ((mAt (srt p l w) (k + 1)).length : Int) ↔ 0 < (mAt (srt p l w) (k + 1)).length) by omega, h2]
 constructor
 ·rintro ⟨i, hi, hik, hb, hn⟩
  obtain ⟨j, j1, j2, j3⟩ := y9y (y4d hc hl w) hi hb
  refine ⟨i, j, hik, ?_, j2, hb.1, hb.2, j3.1, j3.2⟩
  by_cases q : k < j
  ·exact q
  ·exact absurd j3 (hn j j1 (by omega))
 ·rintro ⟨i, j, hik, hkj, hj, s1, s2, s3, s4⟩
  refine ⟨i, by omega, hik, ⟨s1, s2⟩, fun j' h1 h2 hm => ?_⟩
  have := zu9 p l w (i := j') (j := j) (by omega) hj (by rw [hm.2, s4]) (by rw [hm.1, s3])
  omega
theorem zyp {p : Pool} {l : List ze} (hl : FewL l) {w : Int} {a c : z6} (ha : a ∈ uns p l w) (hcm : c ∈ uns p l w) (h : StP a c) : a.visit.place = c.visit.place := by
 obtain ⟨_, _, _, _, a5⟩ := zah hl.len ha
 obtain ⟨_, _, _, _, c5⟩ := zah hl.len hcm
 rw [h.2.2.2] at c5
 unfold evs at a5 c5
 split at a5
 ·simp only [List.mem_singleton] at a5; have := h.1; rw [a5] at this; cases this
 ·rename_i k1
  rw [if_neg k1] at c5
  split at a5
  ·rename_i k2
   rw [if_pos k2] at c5
   simp only [List.mem_cons, List.not_mem_nil, or_false] at a5 c5
   rcases a5 with a5 | a5 <;> rcases c5 with c5 | c5 <;> rw [a5, c5] <;> rfl
  ·split at a5
   ·simp only [List.mem_singleton] at a5; have := h.1; rw [a5] at this; cases this
   ·cases a5
theorem yc8 {φ : Nat} {x : zi} {a b : zl} {t : Int} (h : Dst φ x a.place b.place = some t) (hs : a.stay = true -> a.place = b.place) : tvl φ x a b = t := by
 unfold Dst at h
 unfold tvl z35
 rw [if_neg (by
  simp only [Bool.and_eq_true, bne_iff_ne, ne_eq, not_and]
  intro h1 h2; exact h1 (hs h2))]
 cases hb : zp φ x a.place b.place with
 | none => rw [hb] at h; cases h
 | some v =>
  obtain ⟨t', e, u⟩ := v
  rw [hb] at h
  simp only at h
  split at h
  ·rename_i he
   cases h; subst he
   rfl
  ·cases h
theorem zs1 {α : Type} [Inhabited α] (e : α) (t : List α) (i : Nat) : gt (e :: t) ((i + 1 : Nat) : Int) = gt t (i : Int) := by
 unfold gt
 rw [Int.toNat_natCast, Int.toNat_natCast]; rfl
theorem y5p (tv : zl -> zl -> Int) (f : z6 -> Int) : ∀ (t : List z6) (pr : Option (zl × Int)), (∀ i : Nat, i + 1 < t.length -> tv (gt t (i : Int)).visit (gt t ((i + 1 : Nat) : Int)).visit <= f (gt t ((i + 1 : Nat) : Int)) - f (gt t (i : Int))) ->
  (∀ a, pr = some a -> 0 < t.length -> tv a.1 (gt t 0).visit <= f (gt t 0) - a.2) -> ChT tv f pr t
 | [], _, _, _ => trivial
 | e :: t, pr, h, hp => by
  refine ⟨fun a ha => by simpa [gt] using hp a ha (by simp), y5p tv f t _ (fun i hi => ?_) fun a ha ht => ?_⟩
  ·have := h (i + 1) (by simp; omega)
   rw [zs1, zs1] at this
   exact this
  ·cases ha
   have := h 0 (by simp; omega)
   rw [zs1] at this
   exact this
section
variable {φ : Nat} (hφ : 800000 < φ) {p : Pool} (hc : z01 p = 0) {l : List ze} (hl : FewL l)
include hφ hc hl
omit hφ in
theorem zjo {f : Int -> Bool -> Int} {ρ : Int -> Int} (H : Hist φ p l f ρ) :
  ∃ X, X 0 = 0 /\ SolF (bsB φ p l) X /\ ∀ w : Nat, w < p.fleet.wagons.length -> ∀ i : Nat, i < (srt p l (w : Int)).length -> X (v0E p l + offW p l w + i) = tmF f (gt (srt p l (w : Int)) (i : Int)) := by
 have hmem : ∀ t ∈ zd p l, ∃ w : Nat, w < p.fleet.wagons.length /\ t = z0y p l (w : Int) := fun t ht => by
  obtain ⟨w, hw, rfl⟩ := List.mem_map.1 ht
  exact ⟨w, List.mem_range.1 hw, rfl⟩
 obtain ⟨X, x0, x1, x2⟩ := y4y (tv := tvl φ p.network) (tsOK hc hl) (ρ := ρ) (f := tmF f) H.rd (fun t ht e he => by
  obtain ⟨w, hw, rfl⟩ := hmem t ht
  obtain ⟨y, hy, b, rfl⟩ := z9n he
  exact H.ev w hw y hy) (fun t ht => by
  obtain ⟨w, hw, rfl⟩ := hmem t ht
  refine y5p _ _ _ _ (fun i hi => ?_) (fun a ha => by cases ha)
  rw [z1e] at hi
  obtain ⟨b1, e1⟩ := za6 p l (w : Int) (k := i) (by omega)
  obtain ⟨b2, e2⟩ := za6 p l (w : Int) (k := i + 1) hi
  have m1 := (z6h p l (w : Int)).1 (z0h (l := srt p l (w : Int)) (i := (i : Int)) (by omega) (by omega))
  have m2 := (z6h p l (w : Int)).1 (z0h (l := srt p l (w : Int)) (i := ((i + 1 : Nat) : Int)) (by omega) (by omega))
  have hlt := (zc8 p l (w : Int) (i := i) (j := i + 1) (by omega) hi).1
  obtain ⟨t, t1, t2⟩ := H.far w hw _ m1 _ m2 hlt
  have hci := zn1 hc hl (w : Int) (k := i) (by omega)
  rw [e1] at hci
  rw [yc8 (t := t) (by rw [e1, e2]; exact t1) (fun hst => ?_)]
  ·rw [e1, e2]; exact t2
  ·rw [e1] at hst
   obtain ⟨i0, j0, q1, q2, q3, q4⟩ := hci.1 hst
   have ma := (z6h p l (w : Int)).1 (z0h (l := srt p l (w : Int)) (i := (i0 : Int)) (by omega) (by omega))
   have mc := (z6h p l (w : Int)).1 (z0h (l := srt p l (w : Int)) (i := (j0 : Int)) (by omega) (by omega))
   have pl : ∀ k, i0 <= k -> k <= j0 -> (gt (srt p l (w : Int)) (k : Int)).visit.place = (gt (srt p l (w : Int)) (i0 : Int)).visit.place := fun k k1 k2 => by
    by_cases z1 : k = i0
    ·rw [z1]
    ·by_cases z2 : k = j0
     ·rw [z2]; exact (zyp hl ma mc q4).symm
     ·exact H.cov w hw _ ma _ ((z6h p l (w : Int)).1 (z0h (l := srt p l (w : Int)) (i := (k : Int)) (by omega) (by omega))) _ mc q4 (zc8 p l (w : Int) (by omega) (by omega)).1 (zc8 p l (w : Int) (by omega) (by omega)).1
   rw [z2h p l (w : Int) (by omega), z2h p l (w : Int) hi, pl i q1 (by omega), pl (i + 1) (by omega) (by omega)])
 refine ⟨X, x0, x1, fun w hw i hi => ?_⟩
 obtain ⟨b1, e1⟩ := za6 p l (w : Int) hi
 have := x2 _ _ _ (zbt p l hw) i (gt (z0y p l (w : Int)) (i : Int)) (zlq (by rw [z1e]; exact hi))
 rw [(znj (tvl φ p.network) (rdM p.readers (zd p l)) ((zd p l).take w) (rd0 p.readers (zd p l))).2, e1] at this
 exact this
omit hφ hc hl in
theorem solT {X : Int -> Int} (hX : SolF (bsB φ p l) X) {w : Nat} (hw : w < p.fleet.wagons.length) {i : Nat} (hi : i < (z0y p l (w : Int)).length) :
  (∀ b ∈ evB (rdM p.readers (zd p l)) (v0E p l + offW p l w + i) (gt (z0y p l (w : Int)) (i : Int)), X b.j - X b.i <= b.w) /\
  (i + 1 < (z0y p l (w : Int)).length -> tvl φ p.network (gt (z0y p l (w : Int)) (i : Int)).visit (gt (z0y p l (w : Int)) ((i + 1 : Nat) : Int)).visit <= X (v0E p l + offW p l w + i + 1) - X (v0E p l + offW p l w + i)) := by
 have hsat := hX
 unfold SolF bsB at hsat
 rw [zbe] at hsat
 have e1 := zbt p l hw
 obtain ⟨k1, k2, k3, k4⟩ := zj5 (tvl φ p.network) (rdM p.readers (zd p l)) ((zd p l).take w) ((zd p l).drop (w + 1)) (z0y p l (w : Int)) (rd0 p.readers (zd p l))
 rw [<- e1] at k3
 have ev := (znj (tvl φ p.network) (rdM p.readers (zd p l)) ((zd p l).take w) (rd0 p.readers (zd p l))).2
 rw [ev] at k3
 change ∀ b ∈ bnds (tvl φ p.network) (rdM p.readers (zd p l)) none (v0E p l + (offW p l w : Int)) (z0y p l (w : Int)), b ∈ _ at k3
 refine ⟨fun b hb => hsat b (k3 b (zkb _ _ _ none _ i _ (zlq hi) b hb)), fun hi2 => ?_⟩
 have := hsat _ (k3 _ (zrc (tvl φ p.network) (rdM p.readers (zd p l)) (z0y p l (w : Int)) none _ i _ _ (zlq hi) (zlq hi2)))
 simp only at this
 omega
theorem yae {X : Int -> Int} (hX : SolF (bsB φ p l) X) {w : Nat} (hw : w < p.fleet.wagons.length) {i : Nat} : ∀ {j : Nat}, i < j -> j < (srt p l (w : Int)).length ->
  ∃ t, Dst φ p.network (gt (srt p l (w : Int)) (i : Int)).visit.place (gt (srt p l (w : Int)) (j : Int)).visit.place = some t /\ t <= X (v0E p l + offW p l w + j) - X (v0E p l + offW p l w + i) := by
 have hn := (z2k hc).1
 have hT := tsOK hc hl
 have ht : z0y p l (w : Int) ∈ zd p l := List.mem_of_getElem? (zdz p l hw)
 have hlen := z1e p l (w : Int)
 have okp : ∀ k : Nat, k < (srt p l (w : Int)).length -> okPl p.network (gt (srt p l (w : Int)) (k : Int)).visit.place := fun k hk => by
  rw [<- z2h p l (w : Int) hk]
  exact zkw hc hl (z0h (by omega) (by omega))
 have rng : ∀ k : Nat, k < (srt p l (w : Int)).length -> 0 <= X (v0E p l + offW p l w + k) - X 0 /\ X (v0E p l + offW p l w + k) - X 0 <= 1073741824 := fun k hk =>
  zhl (solT hX hw (by omega)).1 (hT.early _ ht _ (z0h (by omega) (by omega)))
 have one : ∀ k : Nat, k + 1 < (srt p l (w : Int)).length -> ∃ t, Dst φ p.network (gt (srt p l (w : Int)) (k : Int)).visit.place (gt (srt p l (w : Int)) ((k + 1 : Nat) : Int)).visit.place = some t /\ t <= X (v0E p l + offW p l w + ((k + 1 : Nat) : Int)) - X (v0E p l + offW p l w + k) := fun k hk => by
  have h1 := (solT hX hw (i := k) (by omega)).2 (by omega)
  have r1 := rng k (by omega)
  have r2 := rng (k + 1) hk
  rw [show v0E p l + (offW p l w : Int) + ((k + 1 : Nat) : Int) = v0E p l + offW p l w + k + 1 by omega] at r2 ⊢
  obtain ⟨t, t1, t2⟩ := y6o (x := p.network) hφ (show tvl φ p.network (gt (z0y p l (w : Int)) (k : Int)).visit (gt (z0y p l (w : Int)) ((k + 1 : Nat) : Int)).visit < 1073741825 by omega)
  rw [z2h p l (w : Int) (by omega), z2h p l (w : Int) hk] at t1
  exact ⟨t, by unfold Dst; rw [t1]; rfl, by omega⟩
 intro j
 induction j with
 | zero => intro h; omega
 | succ j ih =>
  intro h1 h2
  obtain ⟨t, t1, t2⟩ := one j h2
  by_cases q : i = j
  ·subst q; exact ⟨t, t1, t2⟩
  ·obtain ⟨u, u1, u2⟩ := ih (by omega) (by omega)
   obtain ⟨r, r1, r2⟩ := zev hφ hn (okp i (by omega)) (okp j (by omega)) (okp (j + 1) h2) u1 t1
   exact ⟨r, r1, by omega⟩
omit hφ in
theorem zxq {X : Int -> Int} (hX : SolF (bsB φ p l) X) {w : Nat} (hw : w < p.fleet.wagons.length) {i j : Nat} (hj : j < (srt p l (w : Int)).length) (hs : StP (gt (srt p l (w : Int)) (i : Int)) (gt (srt p l (w : Int)) (j : Int))) :
  ∀ k, i <= k -> k <= j -> (gt (srt p l (w : Int)) (k : Int)).visit.place = (gt (srt p l (w : Int)) (i : Int)).visit.place := by
 have hT := tsOK hc hl
 have ht : z0y p l (w : Int) ∈ zd p l := List.mem_of_getElem? (zdz p l hw)
 have hlen := z1e p l (w : Int)
 have rng : ∀ k : Nat, k < (srt p l (w : Int)).length -> 0 <= X (v0E p l + offW p l w + k) - X 0 /\ X (v0E p l + offW p l w + k) - X 0 <= 1073741824 := fun k hk =>
  zhl (solT hX hw (by omega)).1 (hT.early _ ht _ (z0h (by omega) (by omega)))
 intro k
 induction k with
 | zero => intro h1 _; rw [show i = 0 by omega]
 | succ k ih =>
  intro h1 h2
  by_cases q : i = k + 1
  ·rw [q]
  ·rw [<- ih (by omega) (by omega), <- z2h p l (w : Int) (k := k) (by omega), <- z2h p l (w : Int) (k := k + 1) (by omega)]
   have hst := (zn1 hc hl (w : Int) (k := k) (by omega)).2 ⟨i, j, by omega, by omega, hj, hs⟩
   have h1 := (solT hX hw (i := k) (by omega)).2 (by omega)
   have r1 := rng k (by omega)
   have r2 := rng (k + 1) (by omega)
   rw [show v0E p l + (offW p l w : Int) + ((k + 1 : Nat) : Int) = v0E p l + offW p l w + k + 1 by omega] at r2
   by_cases e : (gt (z0y p l (w : Int)) ((k + 1 : Nat) : Int)).visit.place = (gt (z0y p l (w : Int)) (k : Int)).visit.place
   ·exact e
   ·have := zwj (φ := φ) (x := p.network) hst (fun q => e q.symm)
    omega
omit hφ hc in
theorem y8r : (zd p l).flatten.Pairwise fun a b => a.report ≠ b.report \/ a.second ≠ b.second := by
 rw [List.pairwise_flatten]
 constructor
 ·intro t ht
  obtain ⟨w, _, rfl⟩ := List.mem_map.1 ht
  rw [List.pairwise_iff_getElem]
  intro i j hi hj hij
  rw [z1e] at hi hj
  have := (List.pairwise_iff_getElem.1 (zu3 p l (w : Int))) i j hi hj hij
  obtain ⟨b1, e1⟩ := za6 p l (w : Int) hi
  obtain ⟨b2, e2⟩ := za6 p l (w : Int) hj
  rw [z2a (by rw [z1e]; exact hi), z2a hi] at e1
  rw [z2a (by rw [z1e]; exact hj), z2a hj] at e2
  rw [e1, e2]; exact this
 ·unfold zd
  rw [List.pairwise_map]
  refine List.pairwise_lt_range.imp fun {a b} hab x hx y hy => .inl fun e => ?_
  obtain ⟨x', hx', _, rfl⟩ := z9n hx
  obtain ⟨y', hy', _, rfl⟩ := z9n hy
  obtain ⟨_, _, x3, _, x5⟩ := zah hl.len hx'
  obtain ⟨_, _, y3, _, y5⟩ := zah hl.len hy'
  have hxw := (z8x x5).2.1
  have hyw := (z8x y5).2.1
  change x'.report = y'.report at e
  rw [e] at hxw
  omega
theorem zru {X : Int -> Int} (hX : SolF (bsB φ p l) X) :
  ∃ f ρ, Hist φ p l f ρ /\ ∀ w : Nat, w < p.fleet.wagons.length -> ∀ i : Nat, i < (srt p l (w : Int)).length -> tmF f (gt (srt p l (w : Int)) (i : Int)) = X (v0E p l + offW p l w + i) - X 0 := by
 have hT := tsOK hc hl
 have hf : ∀ k (hk : k < (zd p l).flatten.length), ((zd p l).flatten.findIdx fun e => e.report == (gt (zd p l).flatten (k : Int)).report && e.second == (gt (zd p l).flatten (k : Int)).second) = k := fun k hk => by
  refine (List.findIdx_eq hk).2 ⟨by rw [z2a hk]; simp, fun j hj => ?_⟩
  have := (List.pairwise_iff_getElem.1 (y8r hl)) j k (by omega) hk hj
  rw [z2a hk]
  rcases this with h | h
  ·simp [h]
  ·simp [h]
 let f : Int -> Bool -> Int := fun i b => X (v0E p l + (((zd p l).flatten.findIdx fun e => e.report == i && e.second == b : Nat) : Int)) - X 0
 let ρ : Int -> Int := fun i => match mget (rdM p.readers (zd p l)) i with
  | some v => X v - X 0
  | none => 0 - (gt p.readers i).low
 have hval : ∀ w : Nat, w < p.fleet.wagons.length -> ∀ i : Nat, i < (srt p l (w : Int)).length -> tmF f (gt (srt p l (w : Int)) (i : Int)) = X (v0E p l + offW p l w + i) - X 0 := fun w hw i hi => by
  have hle := zou p l hw
  have hi' : i < (z0y p l (w : Int)).length := by rw [z1e]; exact hi
  have h1 := hf (offW p l w + i) (by omega)
  rw [zni p l hw hi'] at h1
  obtain ⟨b, e⟩ := za6 p l (w : Int) hi
  rw [e] at h1
  change ((zd p l).flatten.findIdx fun e => e.report == (gt (srt p l (w : Int)) (i : Int)).report && e.second == (gt (srt p l (w : Int)) (i : Int)).second) = offW p l w + i at h1
  show X (v0E p l + (((zd p l).flatten.findIdx fun e => e.report == (gt (srt p l (w : Int)) (i : Int)).report && e.second == (gt (srt p l (w : Int)) (i : Int)).second : Nat) : Int)) - X 0 = _
  rw [h1]
  rw [show v0E p l + ((offW p l w + i : Nat) : Int) = v0E p l + offW p l w + i by omega]
 refine ⟨f, ρ, ⟨fun i hi => ?_, fun w hw e he => ?_, fun w hw a ha b hb hab => ?_, fun w hw a ha b hb c hcc hs hab hbc => ?_⟩, hval⟩
 ·show 0 - _ <= (match mget (rdM p.readers (zd p l)) (i : Int) with | some v => X v - X 0 | none => 0 - (gt p.readers (i : Int)).low) /\ (match mget (rdM p.readers (zd p l)) (i : Int) with | some v => X v - X 0 | none => 0 - (gt p.readers (i : Int)).low) <= _
  cases hm : mget (rdM p.readers (zd p l)) (i : Int) with
  | none =>
   simp only
   have := hT.rs _ (z0h (l := p.readers) (i := (i : Int)) (by omega) (by omega))
   omega
  | some v =>
   simp only
   have has : ∀ n : Nat, i < n -> ∀ v, mget (rdsN p.readers (used (zd p l)) n).m (i : Int) = some v -> (⟨0, v, 0 - (gt p.readers (i : Int)).low⟩ : za) ∈ (rdsN p.readers (used (zd p l)) n).b /\ (⟨v, 0, (gt p.readers (i : Int)).high⟩ : za) ∈ (rdsN p.readers (used (zd p l)) n).b := by
    intro n
    induction n with
    | zero => intro h; omega
    | succ n ih =>
     intro hn v hv
     simp only [rdsN, zi8] at hv ⊢
     split at hv
     ·rename_i hs
      rw [if_pos hs]
      simp only [zb9] at hv
      by_cases e : (i : Int) = (n : Int)
      ·rw [if_pos e] at hv; cases hv
       rw [e]
       exact ⟨List.mem_append_right _ (by simp), List.mem_append_right _ (by simp)⟩
      ·rw [if_neg e] at hv
       obtain ⟨q1, q2⟩ := ih (by omega) v hv
       exact ⟨List.mem_append_left _ q1, List.mem_append_left _ q2⟩
     ·rename_i hs
      rw [if_neg hs]
      by_cases e : i = n
      ·subst e; rw [hv] at hs; exact absurd rfl hs
      ·exact ih (by omega) v hv
   obtain ⟨q1, q2⟩ := has p.readers.length hi v hm
   obtain ⟨b, hb⟩ := (zem (tvl φ p.network) (rdM p.readers (zd p l)) (zd p l) (rd0 p.readers (zd p l))).2.1
   have hsub : ∀ c ∈ (rdsN p.readers (used (zd p l)) p.readers.length).b, X c.j - X c.i <= c.w := fun c hcm => hX c (by
    rw [bsB, zbe, hb]
    exact List.mem_append_left _ hcm)
   have h1 := hsub _ q1
   have h2 := hsub _ q2
   simp only at h1 h2
   omega
 ·obtain ⟨i, hi, rfl⟩ := zc9 ((z6h p l (w : Int)).2 he)
  have hi' : i < (z0y p l (w : Int)).length := by rw [z1e]; exact hi
  obtain ⟨b, e⟩ := za6 p l (w : Int) hi
  have hB := (solT hX hw hi').1
  have ht : z0y p l (w : Int) ∈ zd p l := List.mem_of_getElem? (zdz p l hw)
  have hin := z0h (l := z0y p l (w : Int)) (i := (i : Int)) (by omega) (by omega)
  have hr := zhl hB (hT.early _ ht _ hin)
  refine ⟨fun hneg => ?_, fun hpos => ?_⟩
  ·rw [hval w hw i hi]
   have hev : evB (rdM p.readers (zd p l)) (v0E p l + offW p l w + i) (gt (z0y p l (w : Int)) (i : Int)) = [⟨0, v0E p l + offW p l w + i, (gt (srt p l (w : Int)) (i : Int)).visit.early⟩, ⟨v0E p l + offW p l w + i, 0, 0 - (gt (srt p l (w : Int)) (i : Int)).visit.early⟩] := by
    rw [e]; unfold evB; rw [if_pos (show (zb1 (gt (srt p l (w : Int)) (i : Int)) b).reader < 0 from hneg)]; rfl
   rw [hev] at hB
   have h1 := hB _ (List.mem_cons_self ..)
   have h2 := hB _ (List.mem_cons_of_mem _ (List.mem_cons_self ..))
   simp only at h1 h2
   omega
  ·rw [hval w hw i hi]
   have hpos' : 0 <= (gt (z0y p l (w : Int)) (i : Int)).reader := by rw [e]; exact hpos
   have h1 := y1y hB hpos'
   have h2 := (y9n hT ht hin hpos').1
   rw [e] at h1 h2
   change mget _ (gt (srt p l (w : Int)) (i : Int)).reader = _ at h2
   change _ = (gt (srt p l (w : Int)) (i : Int)).visit.early at h1
   refine ⟨?_, hr.1, hr.2⟩
   show _ = _ + (match mget (rdM p.readers (zd p l)) (gt (srt p l (w : Int)) (i : Int)).reader with | some v => X v - X 0 | none => 0 - (gt p.readers (gt (srt p l (w : Int)) (i : Int)).reader).low)
   rw [h2]
   simp only
   omega
 ·obtain ⟨i, hi, rfl⟩ := zc9 ((z6h p l (w : Int)).2 ha)
  obtain ⟨j, hj, rfl⟩ := zc9 ((z6h p l (w : Int)).2 hb)
  obtain ⟨t, t1, t2⟩ := yae hφ hc hl hX hw (zns p l (w : Int) hi hj hab) hj
  exact ⟨t, t1, by rw [hval w hw i hi, hval w hw j hj]; omega⟩
 ·obtain ⟨i, hi, rfl⟩ := zc9 ((z6h p l (w : Int)).2 ha)
  obtain ⟨k, hk, rfl⟩ := zc9 ((z6h p l (w : Int)).2 hb)
  obtain ⟨j, hj, rfl⟩ := zc9 ((z6h p l (w : Int)).2 hcc)
  have h1 := zns p l (w : Int) hi hk hab
  have h2 := zns p l (w : Int) hk hj hbc
  exact zxq hc hl hX hw hj hs k (by omega) (by omega)
end
end Px
end
section
namespace Px
open Go
set_option linter.unusedVariables false
set_option linter.unusedSimpArgs false
def AtH (φ : Nat) (p : Pool) (l : List ze) (f : Int -> Bool -> Int) (w m q : Int) : Prop := ∃ C : z6 -> Prop,
 (∀ a ∈ uns p l w, ∀ b ∈ uns p l w, ltEv a b = true -> C b -> C a) /\
 (∀ a ∈ uns p l w, C a -> ∃ d, Dst φ p.network a.visit.place q = some d /\ tmF f a + d <= m) /\
 (∀ b ∈ uns p l w, ¬ C b -> ∃ d, Dst φ p.network q b.visit.place = some d /\ m + d <= tmF f b) /\
 (∀ a ∈ uns p l w, ∀ c ∈ uns p l w, StP a c -> C a -> ¬ C c -> q = a.visit.place)
section
variable {φ : Nat} {p : Pool} {l : List ze}
theorem ydc {w : Nat} (hw : w < p.fleet.wagons.length) {i : Nat} (hi : i < (srt p l (w : Int)).length) :
  plE (bsB φ p l) (offW p l w + i) = (gt (srt p l (w : Int)) (i : Int)).visit.place /\ vrE (bsB φ p l) (offW p l w + i) = v0E p l + offW p l w + i /\ stE (bsB φ p l) (offW p l w + i) = (gt (z0y p l (w : Int)) (i : Int)).visit.stay := by
 have hle := zou p l hw
 have hi' : i < (z0y p l (w : Int)).length := by rw [z1e]; exact hi
 have h1 := y5q φ p l (k := offW p l w + i) (by omega)
 rw [zni p l hw hi'] at h1
 unfold plE vrE stE
 rw [h1]
 refine ⟨z2h p l (w : Int) hi, ?_, rfl⟩
 show v0E p l + ((offW p l w + i : Nat) : Int) = _
 omega
variable (hφ : 800000 < φ) (hc : z01 p = 0) (hl : FewL l) (hG : Good (bsB φ p l)) {X0 : Int -> Int} (hX0 : SolF (bsB φ p l) X0) {w : Nat} (hw : w < p.fleet.wagons.length)
include hφ hc hl hG hX0 hw
theorem ya9 {m q : Int} (hq : okPl p.network q) :
  PosW φ p.network (z4y (bsB φ p l)) (z5y (bsB φ p l)) (gapT (bsB φ p l)) (plE (bsB φ p l)) (vrE (bsB φ p l)) (stE (bsB φ p l)) (offW p l w) (offW p l w + (z0y p l (w : Int)).length) m q ↔ ∃ f ρ, Hist φ p l f ρ /\ AtH φ p l f (w : Int) m q := by
 have hn := (z2k hc).1
 have hR := zyu (p := p) φ hl (w := (w : Int)) (by omega) (by omega)
 rw [Int.toNat_natCast] at hR
 have hE := ztz hφ hc hl hG hX0 hR
 have hle := zou p l hw
 have hlen := z1e p l (w : Int)
 have hel := hR.el
 have hv1 := hG.v1
 rw [hlen] at hE hle hel ⊢
 have hev := fun i hi => ydc (φ := φ) (l := l) hw (i := i) hi
 have hplc : ∀ i, i < (srt p l (w : Int)).length -> okPl p.network (gt (srt p l (w : Int)) (i : Int)).visit.place := fun i hi => by
  rw [<- (hev i hi).1]; exact (hE.ok _ (by omega) (by omega)).1
 have hidx : ∀ a, a ∈ uns p l (w : Int) -> ∃ i : Nat, i < (srt p l (w : Int)).length /\ gt (srt p l (w : Int)) (i : Int) = a := fun a ha => zc9 ((z6h p l (w : Int)).2 ha)
 have hin : ∀ i : Nat, i < (srt p l (w : Int)).length -> gt (srt p l (w : Int)) (i : Int) ∈ uns p l (w : Int) := fun i hi => (z6h p l (w : Int)).1 (z0h (by omega) (by omega))
 constructor
 ·intro hP
  obtain ⟨X, hX, x0, hcase⟩ := y4f hE (D := gapT (bsB φ p l)) (fun k k1 k2 => by
   obtain ⟨_, _, _, Y, y1, y2, y3, y4⟩ := zku hG hX0 φ (by omega) (k := k) (by omega)
   exact ⟨Y, y1, y2, y3, y4⟩) (by omega) hP
  obtain ⟨f, ρ, H, hval⟩ := zru hφ hc hl hX
  have hv : ∀ i, i < (srt p l (w : Int)).length -> tmF f (gt (srt p l (w : Int)) (i : Int)) = X (vrE (bsB φ p l) (offW p l w + i)) := fun i hi => by
   rw [hval w hw i hi, (hev i hi).2.1, x0]; omega
  refine ⟨f, ρ, H, ?_⟩
  by_cases hz : (srt p l (w : Int)).length = 0
  ·refine ⟨fun _ => False, fun _ _ _ _ _ h => h.elim, fun _ _ h => h.elim, fun b hb _ => ?_, fun _ _ _ _ _ h => h.elim⟩
   obtain ⟨i, hi, _⟩ := hidx b hb
   omega
  rcases hcase with h | ⟨u, u1, u2⟩ | ⟨u, u1, u2⟩ | ⟨k, k1, k2, a, b, h1, h2, h3, h4, h5⟩
  ·omega
  ·have e0 := hev 0 (by omega)
   have v0 := hv 0 (by omega)
   rw [Nat.add_zero] at e0 v0
   rw [e0.1] at u1
   rw [<- v0] at u2
   refine ⟨fun _ => False, fun _ _ _ _ _ h => h.elim, fun _ _ h => h.elim, fun b hb _ => ?_, fun _ _ _ _ _ h => h.elim⟩
   obtain ⟨i, hi, rfl⟩ := hidx b hb
   by_cases e : i = 0
   ·subst e; exact ⟨u, u1, u2⟩
   ·obtain ⟨t, t1, t2⟩ := H.far w hw _ (hin 0 (by omega)) _ hb (zc8 p l (w : Int) (by omega) hi).1
    obtain ⟨r, r1, r2⟩ := zev hφ hn hq (hplc 0 (by omega)) (hplc i hi) u1 t1
    exact ⟨r, r1, by omega⟩
  ·have hlast : (srt p l (w : Int)).length - 1 < (srt p l (w : Int)).length := by omega
   have e0 := hev _ hlast
   have v0 := hv _ hlast
   rw [show offW p l w + (srt p l (w : Int)).length - 1 = offW p l w + ((srt p l (w : Int)).length - 1) by omega, e0.1] at u1
   rw [show offW p l w + (srt p l (w : Int)).length - 1 = offW p l w + ((srt p l (w : Int)).length - 1) by omega, <- v0] at u2
   refine ⟨fun _ => True, fun _ _ _ _ _ h => h, fun a ha _ => ?_, fun _ _ h => (h trivial).elim, fun _ _ _ _ _ _ h => (h trivial).elim⟩
   obtain ⟨i, hi, rfl⟩ := hidx a ha
   by_cases e : i = (srt p l (w : Int)).length - 1
   ·subst e; exact ⟨u, u1, u2⟩
   ·obtain ⟨t, t1, t2⟩ := H.far w hw _ ha _ (hin _ hlast) (zc8 p l (w : Int) (by omega) hlast).1
    obtain ⟨r, r1, r2⟩ := zev hφ hn (hplc i hi) (hplc _ hlast) hq t1 u1
    exact ⟨r, r1, by omega⟩
  ·obtain ⟨i, rfl⟩ : ∃ i, k = offW p l w + i := ⟨k - offW p l w, by omega⟩
   have hi : i < (srt p l (w : Int)).length := by omega
   have hi1 : i + 1 < (srt p l (w : Int)).length := by omega
   have e0 := hev i hi
   have e1 := hev (i + 1) hi1
   have v0 := hv i hi
   have v1 := hv (i + 1) hi1
   rw [e0.1] at h1
   rw [<- v0] at h2
   rw [show offW p l w + i + 1 = offW p l w + (i + 1) by omega, e1.1] at h3
   rw [show offW p l w + i + 1 = offW p l w + (i + 1) by omega, <- v1] at h4
   have inj : ∀ {j j' : Nat}, j < (srt p l (w : Int)).length -> j' < (srt p l (w : Int)).length -> gt (srt p l (w : Int)) (j : Int) = gt (srt p l (w : Int)) (j' : Int) -> j = j' := fun hj hj' e => zu9 p l (w : Int) hj hj' (by rw [e]) (by rw [e])
   have hC : ∀ {j : Nat}, j < (srt p l (w : Int)).length -> ((∃ j', j' <= i /\ gt (srt p l (w : Int)) (j' : Int) = gt (srt p l (w : Int)) (j : Int)) ↔ j <= i) := fun {j} hj =>
    ⟨fun ⟨j', q1, q2⟩ => by have := inj (by omega) hj q2; omega, fun h => ⟨j, h, rfl⟩⟩
   refine ⟨fun x => ∃ j : Nat, j <= i /\ gt (srt p l (w : Int)) (j : Int) = x, fun a ha b hb hab hCb => ?_, fun a ha hCa => ?_, fun b hb hCb => ?_, fun a ha c hcm hs hCa hCc => ?_⟩
   ·obtain ⟨ja, hja, rfl⟩ := hidx a ha
    obtain ⟨jb, hjb, rfl⟩ := hidx b hb
    have := zns p l (w : Int) hja hjb hab
    have := (hC hjb).1 hCb
    exact (hC hja).2 (by omega)
   ·obtain ⟨ja, hja, rfl⟩ := hidx a ha
    have := (hC hja).1 hCa
    by_cases e : ja = i
    ·subst e; exact ⟨_, h1, h2⟩
    ·obtain ⟨t, t1, t2⟩ := H.far w hw _ ha _ (hin i hi) (zc8 p l (w : Int) (by omega) hi).1
     obtain ⟨r, r1, r2⟩ := zev hφ hn (hplc ja hja) (hplc i hi) hq t1 h1
     exact ⟨r, r1, by omega⟩
   ·obtain ⟨jb, hjb, rfl⟩ := hidx b hb
    have : ¬ jb <= i := fun h => hCb ((hC hjb).2 h)
    by_cases e : jb = i + 1
    ·subst e; exact ⟨_, h3, h4⟩
    ·obtain ⟨t, t1, t2⟩ := H.far w hw _ (hin (i + 1) hi1) _ hb (zc8 p l (w : Int) (by omega) hjb).1
     obtain ⟨r, r1, r2⟩ := zev hφ hn hq (hplc (i + 1) hi1) (hplc jb hjb) h3 t1
     exact ⟨r, r1, by omega⟩
   ·obtain ⟨ja, hja, rfl⟩ := hidx a ha
    obtain ⟨jc, hjc, rfl⟩ := hidx c hcm
    have q1 := (hC hja).1 hCa
    have q2 : ¬ jc <= i := fun h => hCc ((hC hjc).2 h)
    have hst := (zn1 hc hl (w : Int) (k := i) hi).2 ⟨ja, jc, q1, by omega, hjc, hs⟩
    rw [h5 (by rw [e0.2.2]; exact hst), e0.1]
    exact zxq hc hl hX hw hjc hs i q1 (by omega)
 ·rintro ⟨f, ρ, H, C, c1, c2, c3, c4⟩
  obtain ⟨X, x0, hX, hval⟩ := zjo hc hl H
  have hv : ∀ i, i < (srt p l (w : Int)).length -> X (vrE (bsB φ p l) (offW p l w + i)) = tmF f (gt (srt p l (w : Int)) (i : Int)) := fun i hi => by
   rw [(hev i hi).2.1, hval w hw i hi]
  refine y4x hE (fun k k1 k2 Y hY => ?_) hq hX ?_ (by omega)
  ·obtain ⟨_, _, _, Z, z1, z2, z3, z4⟩ := zku hG hX0 φ (by omega) (k := k) (by omega)
   rw [<- z3]
   have := hG.ev (gt (bsB φ p l).e ((k + 1 : Nat) : Int)) (z0h (by omega) (by omega))
   exact z4 Y hY _ (by unfold vrE; omega) this.2
  ·by_cases hz : (srt p l (w : Int)).length = 0
   ·exact .inl (by omega)
   by_cases h0 : C (gt (srt p l (w : Int)) ((0 : Nat) : Int))
   ·have key : ∀ (n i : Nat), (srt p l (w : Int)).length - i = n -> i < (srt p l (w : Int)).length -> C (gt (srt p l (w : Int)) (i : Int)) -> ∃ i : Nat, i < (srt p l (w : Int)).length /\ C (gt (srt p l (w : Int)) (i : Int)) /\ (i + 1 = (srt p l (w : Int)).length \/ (i + 1 < (srt p l (w : Int)).length /\ ¬ C (gt (srt p l (w : Int)) ((i + 1 : Nat) : Int)))) := by
     intro n
     induction n with
     | zero => intro i h1 h2; omega
     | succ n ih =>
      intro i h1 h2 h3
      by_cases e : i + 1 = (srt p l (w : Int)).length
      ·exact ⟨i, h2, h3, .inl e⟩
      ·by_cases h : C (gt (srt p l (w : Int)) ((i + 1 : Nat) : Int))
       ·exact ih (i + 1) (by omega) (by omega) h
       ·exact ⟨i, h2, h3, .inr ⟨by omega, h⟩⟩
    obtain ⟨i, hi, hCi, hnx⟩ := key _ 0 rfl (by omega) h0
    obtain ⟨a, a1, a2⟩ := c2 _ (hin i hi) hCi
    rw [<- (hev i hi).1] at a1
    rw [<- hv i hi] at a2
    rcases hnx with e | ⟨hi1, hCn⟩
    ·refine .inr (.inr (.inl ⟨a, ?_, ?_⟩))
     ·rw [show offW p l w + (srt p l (w : Int)).length - 1 = offW p l w + i by omega]; exact a1
     ·rw [show offW p l w + (srt p l (w : Int)).length - 1 = offW p l w + i by omega]; omega
    ·obtain ⟨b, b1, b2⟩ := c3 _ (hin (i + 1) hi1) hCn
     rw [<- (hev (i + 1) hi1).1] at b1
     rw [<- hv (i + 1) hi1] at b2
     refine .inr (.inr (.inr ⟨offW p l w + i, by omega, by omega, a, b, a1, by omega, b1, ?_, fun hst => ?_⟩))
     ·rw [show offW p l w + i + 1 = offW p l w + (i + 1) by omega]; omega
     ·rw [(hev i hi).2.2] at hst
      obtain ⟨i0, j0, q1, q2, q3, q4⟩ := (zn1 hc hl (w : Int) (k := i) hi).1 hst
      have hCi0 : C (gt (srt p l (w : Int)) (i0 : Int)) := by
       by_cases e : i0 = i
       ·rw [e]; exact hCi
       ·exact c1 _ (hin i0 (by omega)) _ (hin i hi) (zc8 p l (w : Int) (by omega) hi).1 hCi
      have hCj0 : ¬ C (gt (srt p l (w : Int)) (j0 : Int)) := fun h => by
       by_cases e : j0 = i + 1
       ·rw [e] at h; exact hCn h
       ·exact hCn (c1 _ (hin (i + 1) hi1) _ (hin j0 q3) (zc8 p l (w : Int) (by omega) q3).1 h)
      rw [(hev i hi).1, c4 _ (hin i0 (by omega)) _ (hin j0 q3) q4 hCi0 hCj0]
      by_cases e : i0 = i
      ·rw [e]
      ·exact (H.cov w hw _ (hin i0 (by omega)) _ (hin i hi) _ (hin j0 q3) q4 (zc8 p l (w : Int) (by omega) hi).1 (zc8 p l (w : Int) q2 q3).1).symm
   ·obtain ⟨d, d1, d2⟩ := c3 _ (hin 0 (by omega)) h0
    have e0 := hev 0 (by omega)
    have v0 := hv 0 (by omega)
    rw [Nat.add_zero] at e0 v0
    exact .inr (.inl ⟨d, by rw [e0.1]; exact d1, by rw [v0]; omega⟩)
end
end Px
end
section
namespace Px
open Go
set_option linter.unusedVariables false
set_option linter.unusedSimpArgs false
theorem zua (x : Int) (k : Nat) (hk : k < 4294967296) : 0 <= W ((BitVec.ofInt 64 x &&& BitVec.ofInt 64 (k : Int)).toNat : Int) /\ W ((BitVec.ofInt 64 x &&& BitVec.ofInt 64 (k : Int)).toNat : Int) <= k := by
 have h1 : (BitVec.ofInt 64 x &&& BitVec.ofInt 64 (k : Int)).toNat <= k := by
  rw [BitVec.toNat_and]
  have e : (BitVec.ofInt 64 (k : Int)).toNat = k := by
   rw [BitVec.toNat_ofInt]
   omega
  rw [e]
  exact Nat.and_le_right
 rw [W_id (by omega) (by omega)]
 omega
def y7p (no q t u : Int) : ze := ⟨⟨0, no⟩, ⟨0, 0⟩, 0, ⟨2, ⟨0, 0⟩, 0, q, 0, 0, t, u, 0, 0, 0, 0, 0, ⟨#[]⟩, []⟩⟩
def y9q (no i t : Int) : ze := ⟨⟨0, no⟩, ⟨0, 0⟩, 0, ⟨1, ⟨0, 0⟩, 0, 0, i, 0, t, 0, 0, 0, 0, 0, 0, ⟨#[]⟩, []⟩⟩
def Rp (p : Pool) (ah : Nat -> Int) (r : ze) (t u q : Int) : Prop := (∃ no, r = y7p no q t u) \/ ∃ no, ∃ i : Nat, i < p.readers.length /\ i < 4 /\ (gt p.readers (i : Int)).place = q /\ r = y9q no (i : Int) (t + ah i)
def mxR (r : ze) : Int := max2 r.item.from_ r.item.to
abbrev TQ := Int × Int × Int
structure ycx (φ : Nat) (p : Pool) (l : List ze) (H : List TQ) (m : Int) (place time truth : Int) (N : Nat) (B : Bool) : Prop where
 ok : okPl p.network truth
 n : N <= l.length
 m0 : 5000 <= m
 bef : ∀ j : Nat, j < N -> ∃ d, Dst φ p.network (gt H (j : Int)).2.2 truth = some d /\ (gt H (j : Int)).2.1 + d <= m
 at_ : B = true -> N < l.length /\ (gt H (N : Int)).2.2 = truth /\ (gt H (N : Int)).1 <= m /\ m <= (gt H (N : Int)).2.1
 aft : ∀ j : Nat, j < l.length -> N <= j -> (B = true -> j ≠ N) -> ∃ d, Dst φ p.network truth (gt H (j : Int)).2.2 = some d /\ m + d <= (gt H (j : Int)).1
 now : ∃ d, Dst φ p.network truth place = some d /\ m + d <= time
structure TI (φ : Nat) (p : Pool) (ah : Nat -> Int) (m : Int) (place time truth last : Int) (l : List ze) (H : List TQ) : Prop where
 len : H.length = l.length
 tm : 5000 <= time
 pl : (place = -1 /\ l = [] /\ truth = -1) \/ okPl p.network place
 rep : ∀ j : Nat, j < l.length -> Rp p ah (gt l (j : Int)) (gt H (j : Int)).1 (gt H (j : Int)).2.1 (gt H (j : Int)).2.2 /\ okPl p.network (gt H (j : Int)).2.2 /\ 5000 <= (gt H (j : Int)).1 /\ (gt H (j : Int)).1 <= (gt H (j : Int)).2.1
 now : ∀ j : Nat, j < l.length -> ∃ d, Dst φ p.network (gt H (j : Int)).2.2 place = some d /\ (gt H (j : Int)).2.1 + d <= time
 far : ∀ j k : Nat, j < k -> k < l.length -> ∃ d, Dst φ p.network (gt H (j : Int)).2.2 (gt H (k : Int)).2.2 = some d /\ (gt H (j : Int)).2.1 + d <= (gt H (k : Int)).1
 ord : ∀ j k : Nat, j < k -> k < l.length -> mxR (gt l (j : Int)) < (gt l (k : Int)).item.from_
 las : ∀ j : Nat, j < l.length -> mxR (gt l (j : Int)) <= last
 tru : truth = -1 \/ ∃ N B, ycx φ p l H m place time truth N B
theorem zoi {α : Type} [Inhabited α] (l : List α) (x : α) (j : Nat) (h : j < l.length + 1) : gt (l ++ [x]) (j : Int) = if j < l.length then gt l (j : Int) else x := by
 by_cases q : j < l.length
 ·rw [if_pos q, zsb _ _ _ (by omega) (by omega)]
 ·rw [if_neg q, zqx _ _ _ (by omega), show (j : Int) - (l.length : Int) = 0 by omega]; rfl
section
variable {φ : Nat} (hφ : 800000 < φ) {p : Pool} (hn : z7q p.network = 0) {ah : Nat -> Int} {m : Int}
include hφ hn
theorem TI.move {place time truth last : Int} {l : List ze} {H : List TQ} (T : TI φ p ah m place time truth last l H) {q t : Int} (hq : okPl p.network q) (h : (place = -1 /\ time <= t) \/ ∃ d, Dst φ p.network place q = some d /\ time + d <= t) : TI φ p ah m q t truth last l H := by
 have hz : place = -1 -> ¬ okPl p.network place := fun e h => by rw [e] at h; have := h.1; omega
 rcases h with ⟨h1, h2⟩ | ⟨d, d1, d2⟩
 ·rcases T.pl with ⟨_, rfl, rfl⟩ | h
  ·refine ⟨T.len, by have := T.tm; omega, .inr hq, T.rep, fun j hj => by simp at hj, T.far, T.ord, T.las, .inl rfl⟩
  ·exact absurd h (hz h1)
 ·rcases T.pl with ⟨h1, h2, h3⟩ | hpl
  ·subst h1
   have : d = d := rfl
   refine ⟨T.len, ?_, .inr hq, T.rep, fun j hj => by rw [h2] at hj; simp at hj, T.far, T.ord, T.las, .inl h3⟩
   have hT := T.tm
   by_cases hd : 0 <= d
   ·omega
   ·exfalso
    unfold Dst at d1
    obtain ⟨t', e', hb, b1, _⟩ := zh0 φ hφ p.network (-1) q
    rw [hb] at d1
    simp only at d1
    split at d1
    ·cases d1; omega
    ·cases d1
  ·have hd := (zgc hφ hn hpl hq d1).1
   refine ⟨T.len, by have := T.tm; omega, .inr hq, T.rep, fun j hj => ?_, T.far, T.ord, T.las, ?_⟩
   ·obtain ⟨e, e1, e2⟩ := T.now j hj
    obtain ⟨r, r1, r2⟩ := zev hφ hn (T.rep j hj).2.1 hpl hq e1 d1
    exact ⟨r, r1, by omega⟩
   ·rcases T.tru with h | ⟨N, B, t⟩
    ·exact .inl h
    ·obtain ⟨e, e1, e2⟩ := t.now
     obtain ⟨r, r1, r2⟩ := zev hφ hn t.ok hpl hq e1 d1
     exact .inr ⟨N, B, t.ok, t.n, t.m0, t.bef, t.at_, t.aft, r, r1, by omega⟩
theorem TI.wait {q t truth last : Int} {l : List ze} {H : List TQ} (T : TI φ p ah m q t truth last l H) (hq : okPl p.network q) {u : Int} (hu : t <= u) : TI φ p ah m q u (if t <= m /\ m <= u then q else truth) last l H := by
 have self := zfv hφ hn hq
 have T' := T.move hφ hn hq (t := u) (.inr ⟨0, self, by omega⟩)
 by_cases h : t <= m /\ m <= u
 ·rw [if_pos h]
  refine ⟨T'.len, T'.tm, .inr hq, T'.rep, T'.now, T'.far, T'.ord, T'.las, .inr ⟨l.length, false, hq, Nat.le_refl _, by have := T.tm; omega, fun j hj => ?_, (fun h => by cases h), fun j h1 h2 => by omega, 0, self, by omega⟩⟩
  obtain ⟨d, d1, d2⟩ := T.now j hj
  exact ⟨d, d1, by omega⟩
 ·rw [if_neg h]; exact T'
theorem TI.tell {q t truth last : Int} {l : List ze} {H : List TQ} (T : TI φ p ah m q t truth last l H) (hq : okPl p.network q) {u : Int} (hu : t <= u) {r : ze} (hr : Rp p ah r t u q) (hlast : last < r.item.from_) :
  TI φ p ah m q u (if t <= m /\ m <= u then q else truth) (mxR r) (l ++ [r]) (H ++ [(t, u, q)]) := by
 have self := zfv hφ hn hq
 have hl := T.len
 have hH : ∀ j : Nat, j < l.length -> gt (H ++ [(t, u, q)]) (j : Int) = gt H (j : Int) := fun j hj => by rw [zoi _ _ _ (by omega), if_pos (by omega)]
 have hHl : gt (H ++ [(t, u, q)]) (l.length : Int) = (t, u, q) := by rw [zoi _ _ _ (by omega), if_neg (by omega)]
 have hL : ∀ j : Nat, j < l.length -> gt (l ++ [r]) (j : Int) = gt l (j : Int) := fun j hj => by rw [zoi _ _ _ (by omega), if_pos hj]
 have hLl : gt (l ++ [r]) (l.length : Int) = r := by rw [zoi _ _ _ (by omega), if_neg (by omega)]
 have hlen : (l ++ [r]).length = l.length + 1 := by simp
 have hmx : r.item.from_ <= mxR r := by unfold mxR max2; split <;> omega
 have htm := T.tm
 refine ⟨by simp [hl], by omega, .inr hq, fun j hj => ?_, fun j hj => ?_, fun j k hjk hk => ?_, fun j k hjk hk => ?_, fun j hj => ?_, ?_⟩
 ·by_cases e : j < l.length
  ·rw [hH j e, hL j e]; exact T.rep j e
  ·rw [show j = l.length by omega, hHl, hLl]; exact ⟨hr, hq, htm, hu⟩
 ·by_cases e : j < l.length
  ·rw [hH j e]
   obtain ⟨d, d1, d2⟩ := T.now j e
   exact ⟨d, d1, by omega⟩
  ·rw [show j = l.length by omega, hHl]; exact ⟨0, self, by simp⟩
 ·by_cases e : k < l.length
  ·rw [hH j (by omega), hH k e]; exact T.far j k hjk e
  ·rw [show k = l.length by omega, hHl, hH j (by omega)]; exact T.now j (by omega)
 ·by_cases e : k < l.length
  ·rw [hL j (by omega), hL k e]; exact T.ord j k hjk e
  ·rw [show k = l.length by omega, hLl, hL j (by omega)]
   have := T.las j (by omega)
   omega
 ·by_cases e : j < l.length
  ·rw [hL j e]
   have := T.las j e
   omega
  ·rw [show j = l.length by omega, hLl]; exact Int.le_refl _
 ·by_cases h : t <= m /\ m <= u
  ·rw [if_pos h]
   refine .inr ⟨l.length, true, hq, by omega, by omega, fun j hj => ?_, fun _ => ⟨by omega, by rw [hHl], by rw [hHl]; exact h.1, by rw [hHl]; exact h.2⟩, fun j h1 h2 h3 => absurd (h3 rfl) (by omega), 0, self, by omega⟩
   rw [hH j hj]
   obtain ⟨d, d1, d2⟩ := T.now j hj
   exact ⟨d, d1, by omega⟩
  ·rw [if_neg h]
   rcases T.tru with h | ⟨N, B, t'⟩
   ·exact .inl h
   ·have hN := t'.n
    refine .inr ⟨N, B, t'.ok, by omega, t'.m0, fun j hj => ?_, fun hB => ?_, fun j h1 h2 h3 => ?_, ?_⟩
    ·rw [hH j (by omega)]; exact t'.bef j hj
    ·have := (t'.at_ hB).1
     rw [hH N this]
     exact ⟨by omega, (t'.at_ hB).2⟩
    ·by_cases e : j < l.length
     ·rw [hH j e]; exact t'.aft j e h2 h3
     ·rw [show j = l.length by omega, hHl]; exact t'.now
    ·obtain ⟨d, d1, d2⟩ := t'.now
     exact ⟨d, d1, by omega⟩
end
def fH (H : List TQ) : Int -> Bool -> Int := fun i b => if b = true then (gt H i).2.1 else (gt H i).1
theorem zo7 {p : Pool} {ah : Nat -> Int} {l : List ze} {H : List TQ} (hl : FewL l) (hrep : ∀ j : Nat, j < l.length -> Rp p ah (gt l (j : Int)) (gt H (j : Int)).1 (gt H (j : Int)).2.1 (gt H (j : Int)).2.2 /\ okPl p.network (gt H (j : Int)).2.2 /\ 5000 <= (gt H (j : Int)).1 /\ (gt H (j : Int)).1 <= (gt H (j : Int)).2.1) {w : Int} {e : z6} (he : e ∈ uns p l w) :
  ∃ j : Nat, j < l.length /\ e.report = (j : Int) /\ e.visit.place = (gt H (j : Int)).2.2 /\ e.visit.ref = (gt l (j : Int)).ref /\ (gt l (j : Int)).item.from_ <= e.visit.early /\ e.visit.early <= mxR (gt l (j : Int)) /\
   ((e.reader = -1 /\ e.stay = true /\ e.visit.early = fH H (j : Int) e.second) \/ (e.second = false /\ e.stay = false /\ ∃ i : Nat, i < p.readers.length /\ i < 4 /\ e.reader = (i : Int) /\ e.visit.early = (gt H (j : Int)).1 + ah i)) := by
 obtain ⟨h1, h2, h3, h4, h5⟩ := zah hl.len he
 refine ⟨e.report.toNat, by omega, by omega, ?_⟩
 rw [show ((e.report.toNat : Nat) : Int) = e.report by omega]
 obtain ⟨hr, hq, h6, h7⟩ := hrep e.report.toNat (by omega)
 rw [show ((e.report.toNat : Nat) : Int) = e.report by omega] at hr hq h6 h7
 have hm : ∀ a b : Int, a <= max2 a b /\ b <= max2 a b := fun a b => by unfold max2; split <;> omega
 rcases hr with ⟨no, hr⟩ | ⟨no, i, i1, i2, i3, hr⟩
 ·generalize gt l e.report = r at *
  subst hr
  simp only [evs, y7p, z3x] at h5
  simp only [show ¬ ((2 : Int) = 1) by omega, if_false, true_or, if_true, List.mem_cons, List.not_mem_nil, or_false] at h5
  rcases h5 with h5 | h5
  ·have e1 : e.second = false := by rw [h5]
   have e2 : e.visit.early = (gt H e.report).1 := by rw [h5]
   refine ⟨by rw [h5], by rw [h5]; rfl, by rw [e2]; exact Int.le_refl _, by rw [e2]; exact (hm _ _).1, .inl ⟨by rw [h5], by rw [h5], ?_⟩⟩
   rw [e1, e2]; rfl
  ·have e1 : e.second = true := by rw [h5]
   have e2 : e.visit.early = (gt H e.report).2.1 := by rw [h5]
   refine ⟨by rw [h5], by rw [h5]; rfl, by rw [e2]; exact h7, by rw [e2]; exact (hm _ _).2, .inl ⟨by rw [h5], by rw [h5], ?_⟩⟩
   rw [e1, e2]; rfl
 ·generalize gt l e.report = r at *
  subst hr
  simp only [evs, y9q, z3x] at h5
  simp only [if_true, List.mem_singleton] at h5
  have e2 : e.visit.early = (gt H e.report).1 + ah i := by rw [h5]
  refine ⟨by rw [h5]; exact i3, by rw [h5]; rfl, by rw [e2]; exact Int.le_refl _, by rw [e2]; exact (hm _ _).1, .inr ⟨by rw [h5], by rw [h5], i, i1, i2, by rw [h5], e2⟩⟩
section
variable {φ : Nat} (hφ : 800000 < φ) {p : Pool} (hc : z01 p = 0) {ah : Nat -> Int} {m : Int} {l : List ze} (hl : FewL l) {H : List TQ} {place time truth last : Int} (T : TI φ p ah m place time truth last l H)
include hl T
theorem zqs {w : Int} {a b : z6} (ha : a ∈ uns p l w) (hb : b ∈ uns p l w) (hab : ltEv a b = true) : a.report < b.report \/ (a.report = b.report /\ a.second = false /\ b.second = true) := by
 obtain ⟨j, j1, j2, j3, jr, j4, j5, j6⟩ := zo7 hl T.rep ha
 obtain ⟨k, k1, k2, k3, kr, k4, k5, k6⟩ := zo7 hl T.rep hb
 unfold ltEv at hab
 simp only [decide_eq_true_eq, zau] at hab
 by_cases q : j < k
 ·left; omega
 ·by_cases q2 : k < j
  ·have := T.ord k j q2 j1
   omega
  ·have e : j = k := by omega
   subst e
   right
   refine ⟨by omega, ?_⟩
   rw [jr, kr] at hab
   have hS := (T.rep j j1).2.2.2
   cases hsa : a.second with
   | false =>
    cases hsb : b.second with
    | true => exact ⟨rfl, rfl⟩
    | false =>
     exfalso
     have : a = b := by
      have hp := y07 p l w
      by_cases z : a = b
      ·exact z
      ·exfalso
       rcases List.mem_iff_getElem.1 ha with ⟨x, hx, rfl⟩
       rcases List.mem_iff_getElem.1 hb with ⟨y, hy, rfl⟩
       have hne : x ≠ y := fun e => z (by subst e; rfl)
       rcases Nat.lt_or_gt_of_ne hne with h | h
       ·have := (List.pairwise_iff_getElem.1 hp) x y hx hy h
        rcases this with h | h
        ·exact h (by rw [j2, k2])
        ·exact h (by rw [hsa, hsb])
       ·have := (List.pairwise_iff_getElem.1 hp) y x hy hx h
        rcases this with h | h
        ·exact h (by rw [j2, k2])
        ·exact h (by rw [hsa, hsb])
     subst this
     omega
   | true =>
    exfalso
    rcases j6 with ⟨_, sa, ja⟩ | ⟨z, _⟩
    ·rw [hsa] at ja
     have ja' : a.visit.early = (gt H (j : Int)).2.1 := ja
     rcases k6 with ⟨_, sb, kb⟩ | ⟨zb, sb, i, i1, i2, i3, i4⟩
     ·cases hsb : b.second with
      | true =>
       rw [hsb] at kb
       have kb' : b.visit.early = (gt H (j : Int)).2.1 := kb
       rw [hsa, hsb] at hab
       omega
      | false =>
       rw [hsb] at kb
       have kb' : b.visit.early = (gt H (j : Int)).1 := kb
       rw [hsa, hsb] at hab
       simp only [ordB] at hab
       simp at hab
       omega
     ·-- one report has not both a stay and a read
      obtain ⟨_, _, _, _, ea⟩ := zah hl.len ha
      obtain ⟨_, _, _, _, eb⟩ := zah hl.len hb
      rw [j2] at ea
      rw [k2] at eb
      unfold evs at ea eb
      split at ea
      ·simp only [List.mem_singleton] at ea; rw [ea] at hsa; cases hsa
      ·rename_i k0
       rw [if_neg k0] at eb
       split at ea
       ·rename_i k2'
        rw [if_pos k2'] at eb
        simp only [List.mem_cons, List.not_mem_nil, or_false] at eb
        rcases eb with eb | eb <;> rw [eb] at sb <;> cases sb
       ·split at ea
        ·simp only [List.mem_singleton] at ea; rw [ea] at hsa; cases hsa
        ·cases ea
    ·rw [hsa] at z; cases z
include hφ hc
theorem zwq (hah : ∀ i : Nat, i < p.readers.length -> (gt p.readers (i : Int)).low <= ah i /\ ah i <= (gt p.readers (i : Int)).high) (htime : time <= 1073741824) :
  ∃ ρ, Hist φ p l (fH H) ρ /\ (truth ≠ -1 -> AtH φ p l (fH H) 0 m truth /\ okPl p.network truth /\ 0 <= m /\ m <= 1073741824) := by
 have hn := (z2k hc).1
 have rng : ∀ j : Nat, j < l.length -> 5000 <= (gt H (j : Int)).1 /\ (gt H (j : Int)).1 <= (gt H (j : Int)).2.1 /\ (gt H (j : Int)).2.1 <= 1073741824 := fun j hj => by
  obtain ⟨_, hq, h1, h2⟩ := T.rep j hj
  obtain ⟨d, d1, d2⟩ := T.now j hj
  rcases T.pl with ⟨_, h, _⟩ | h
  ·rw [h] at hj; simp at hj
  ·have := (zgc hφ hn hq h d1).1
   omega
 have val : ∀ {w : Int} {e : z6}, e ∈ uns p l w -> ∃ j : Nat, j < l.length /\ e.report = (j : Int) /\ e.visit.place = (gt H (j : Int)).2.2 /\ tmF (fH H) e = (if e.second = true then (gt H (j : Int)).2.1 else (gt H (j : Int)).1) := fun {w e} he => by
  obtain ⟨j, j1, j2, j3, _⟩ := zo7 hl T.rep he
  exact ⟨j, j1, j2, j3, by unfold tmF fH; rw [j2]⟩
 refine ⟨fun i => if i < 4 then - ah i.toNat else 0 - (gt p.readers i).low, ⟨fun i hi => ?_, fun w hw e he => ?_, fun w hw a ha b hb hab => ?_, fun w hw a ha b hb c hcm hs hab hbc => ?_⟩, fun ht => ?_⟩
 ·have h1 := hah i hi
  have h2 := (z90 hc).1 _ (z0h (l := p.readers) (i := (i : Int)) (by omega) (by omega))
  split
  ·rw [Int.toNat_natCast]; omega
  ·omega
 ·obtain ⟨j, j1, j2, j3, jr, j4, j5, j6⟩ := zo7 hl T.rep he
  have hv : tmF (fH H) e = fH H (j : Int) e.second := by unfold tmF; rw [j2]
  obtain ⟨r1, r2, r3⟩ := rng j j1
  refine ⟨fun hneg => ?_, fun hpos => ?_⟩
  ·rcases j6 with ⟨_, _, h⟩ | ⟨_, _, i, _, _, h, _⟩
   ·rw [hv, h]
   ·omega
  ·rcases j6 with ⟨h, _, _⟩ | ⟨hs, _, i, i1, i2, h, h2⟩
   ·omega
   ·have hv2 : tmF (fH H) e = (gt H (j : Int)).1 := by rw [hv, hs]; rfl
    rw [hv2, h]
    show _ = e.visit.early + (if (i : Int) < 4 then - ah (i : Int).toNat else 0 - (gt p.readers (i : Int)).low) /\ _
    rw [if_pos (by omega), Int.toNat_natCast]
    omega
 ·obtain ⟨j, j1, j2, j3, j4⟩ := val ha
  obtain ⟨k, k1, k2, k3, k4⟩ := val hb
  rw [j3, k3, j4, k4]
  rcases zqs hl T ha hb hab with h | ⟨h, s1, s2⟩
  ·obtain ⟨d, d1, d2⟩ := T.far j k (by omega) k1
   have r1 := rng j j1
   have r2 := rng k k1
   exact ⟨d, d1, by split <;> split <;> omega⟩
  ·have e : j = k := by omega
   subst e
   rw [s1, s2]
   exact ⟨0, zfv hφ hn (T.rep j j1).2.1, by have := rng j j1; simp; omega⟩
 ·rcases zqs hl T ha hb hab with h | ⟨h, s1, s2⟩
  ·rcases zqs hl T hb hcm hbc with h' | ⟨h', s1', s2'⟩
   ·have := hs.2.2.2; omega
   ·have := hs.2.2.2; omega
  ·rcases zqs hl T hb hcm hbc with h' | ⟨h', s1', s2'⟩
   ·have := hs.2.2.2; omega
   ·rw [s2] at s1'; cases s1'
 ·rcases T.tru with h | ⟨N, B, t⟩
  ·exact absurd h ht
  have hmt : m <= time := by
   obtain ⟨d, d1, d2⟩ := t.now
   rcases T.pl with ⟨_, _, h⟩ | h
   ·exact absurd h ht
   ·have := (zgc hφ hn t.ok h d1).1
    omega
  refine ⟨⟨fun e => e.report < (N : Int) \/ (B = true /\ e.report = (N : Int) /\ e.second = false), fun a ha b hb hab hC => ?_, fun a ha hC => ?_, fun b hb hC => ?_, fun a ha c hcm hs hCa hCc => ?_⟩, t.ok, by have := t.m0; omega, by omega⟩
  ·rcases zqs hl T ha hb hab with h | ⟨h, s1, s2⟩
   ·rcases hC with hC | ⟨_, hC, _⟩
    ·exact .inl (by omega)
    ·exact .inl (by omega)
   ·rcases hC with hC | ⟨_, _, hC⟩
    ·exact .inl (by omega)
    ·rw [s2] at hC; cases hC
  ·obtain ⟨j, j1, j2, j3, j4⟩ := val ha
   have r := rng j j1
   rw [j3, j4]
   rcases hC with hC | ⟨hB, hC, hs⟩
   ·obtain ⟨d, d1, d2⟩ := t.bef j (by omega)
    exact ⟨d, d1, by split <;> omega⟩
   ·obtain ⟨_, q1, q2, q3⟩ := t.at_ hB
    have e : j = N := by omega
    subst e
    rw [q1, hs]
    exact ⟨0, zfv hφ hn t.ok, by simp; exact q2⟩
  ·obtain ⟨j, j1, j2, j3, j4⟩ := val hb
   have r := rng j j1
   rw [j3, j4]
   simp only [not_or, not_and, Bool.not_eq_false] at hC
   by_cases hB : B = true /\ j = N
   ·obtain ⟨_, q1, q2, q3⟩ := t.at_ hB.1
    have hs := hC.2 hB.1 (by omega)
    rw [hB.2, q1, hs]
    exact ⟨0, zfv hφ hn t.ok, by simp; exact q3⟩
   ·obtain ⟨d, d1, d2⟩ := t.aft j j1 (by omega) (fun h e => hB ⟨h, e⟩)
    exact ⟨d, d1, by split <;> omega⟩
  ·obtain ⟨j, j1, j2, j3, j4⟩ := val ha
   have hr := hs.2.2.2
   rcases hCa with hCa | ⟨hB, hCa, _⟩
   ·exact absurd (.inl (by omega)) hCc
   ·obtain ⟨_, q1, q2, q3⟩ := t.at_ hB
    have e : j = N := by omega
    subst e
    rw [j3, q1]
end
end Px
end
section
namespace Px
open Go
theorem yb4 : zds 100000000 = some (true, ()) := by kernel_rfl
end Px
end
section
namespace Px
open Go
set_option linter.unusedVariables false
set_option linter.unusedSimpArgs false
theorem y2k (φ : Nat) (hφ : 1000 < φ) (p : Pool) (l : List ze) : ∃ b, zfa φ p l = some (b, ()) /\ (b = true -> FewL l /\ l.length <= 8 /\ p.network.places.length <= 16 /\ p.network.edges.length <= 40 /\ p.fleet.wagons.length <= 8 /\ p.readers.length <= 8) /\
  (b = true -> ∀ r ∈ l, r.item.parts.length <= 40 /\ r.item.text.size <= 2000) := by
 obtain ⟨b1, h1, h2⟩ := y4t φ hφ p
 obtain ⟨b2, h3, h4, h5⟩ := y7u φ hφ l 8 (by omega)
 unfold zfa
 rw [h1, Option.bind_some]
 cases b1 with
 | false =>
  rw [gz_f (by simp), Option.bind_some]
  exact ⟨_, rfl, (fun h => by cases h), fun h => by cases h⟩
 | true =>
  have h3' : z3r φ l 8 = some (b2, ()) := h3
  rw [gz_t rfl, h3', Option.bind_some]
  refine ⟨_, rfl, fun h => ?_, fun h => (h5.1 h).2⟩
  obtain ⟨q1, q2⟩ := h4 h
  obtain ⟨a1, a2, a3, a4⟩ := h2 rfl
  exact ⟨q1, q2, a1, a2, a3, a4⟩
end Px
end
section
namespace Px
open Go
set_option linter.unusedVariables false
set_option linter.unusedSimpArgs false
theorem yap (φ : Nat) (hφ : 100000 < φ) (L : List Int) (hL : L.length <= 10000) (x : Int) : zfx φ L x = some (decide (x ∈ L), ()) := by
 unfold zfx
 have := zfm (fun f i => z5w φ f L x i) (some (false, ())) (some (true, ())) L (fun y => y == x) (fun f i hi => by
  rw [z5w, if_pos (by simp; omega), z7 ⟨by omega, by omega⟩, W_id (by omega) (by omega)]
  cases (gt L (i : Int) == x) <;> rfl) (fun f => by rw [z5w, if_neg (by simp)]) φ (by omega)
 rw [this]
 by_cases h : x ∈ L
 ·rw [decide_eq_true h, List.any_eq_true.2 ⟨x, h, by simp⟩]; rfl
 ·rw [decide_eq_false h]
  have : L.any (fun y => y == x) = false := by
   rw [List.any_eq_false]
   intro y hy e
   rw [beq_iff_eq] at e
   exact h (e ▸ hy)
  rw [this]; rfl
end Px
end
section
namespace Px
open Go
set_option linter.unusedVariables false
set_option linter.unusedSimpArgs false
def ahV (r : z1o) (n : Int) : Int := W (r.low + (W ((BitVec.ofInt 64 n &&& BitVec.ofInt 64 4095).toNat : Int)).tmod (W (W (r.high - r.low) + 1)))
theorem ztp (φ : Nat) (r : z1o) (n : Int) (h : -1000 <= r.low /\ r.low <= r.high /\ r.high <= 1000) : zbd φ r n = some (ahV r n, ()) /\ r.low <= ahV r n /\ ahV r n <= r.high := by
 have hx := zua n 4095 (by omega)
 unfold zbd ahV
 change 0 <= W ((BitVec.ofInt 64 n &&& BitVec.ofInt 64 4095).toNat : Int) /\ _ at hx
 generalize W ((BitVec.ofInt 64 n &&& BitVec.ofInt 64 4095).toNat : Int) = x at *
 have e1 : W (W (r.high - r.low) + 1) = r.high - r.low + 1 := by rw [W_id (x := r.high - r.low) (by omega) (by omega), W_id (by omega) (by omega)]
 rw [e1, z7 (by omega)]
 have h1 := Int.tmod_nonneg (r.high - r.low + 1) hx.1
 have h2 := Int.tmod_lt_of_pos x (show 0 < r.high - r.low + 1 by omega)
 rw [W_id (by omega) (by omega)]
 exact ⟨rfl, by omega, by omega⟩
theorem zye (φ : Nat) (hφ : 1000 < φ) {p : Pool} (hc : z01 p = 0) (s : z0c) (no t u : Int) (cl : Nat -> Int) (ht : 0 <= t /\ t <= 1000000000) :
  ∃ r b, zas φ p s no t u cl = some (r, b, ()) /\ (b = true -> Rp p (fun i => ahV (gt p.readers (i : Int)) (cl i)) r t u s.place) := by
 have hr := (z2k hc).2.2.1
 have hrd := (z90 hc).1
 unfold zas
 by_cases h1 : s.kind = 1
 ·rw [if_pos (by simpa using h1)]
  exact ⟨_, _, rfl, fun _ => .inl ⟨no, rfl⟩⟩
 ·rw [if_neg (by simpa using h1)]
  have key : ∀ (n i : Nat), 300 - i < n -> i <= 256 -> ∃ r b, z3q φ n no t (i : Int) p s cl 0 0 0 0 0 0 0 0 0 0 0 0 0 0 0 0 0 0 0 ⟨#[]⟩ [] = some (r, b, ()) /\ (b = true -> Rp p (fun i => ahV (gt p.readers (i : Int)) (cl i)) r t u s.place) := by
   intro n
   induction n with
   | zero => intro i h; omega
   | succ n ih =>
    intro i hn hi
    rw [z3q]
    by_cases hk : s.kind = 2 /\ i < p.readers.length /\ i < 4
    ·rw [if_pos (by simp only [Bool.and_eq_true, beq_iff_eq, decide_eq_true_eq]; omega), z7 ⟨by omega, by omega⟩]
     by_cases hp : (gt p.readers (i : Int)).place = s.place
     ·have hq := hrd _ (z0h (l := p.readers) (i := (i : Int)) (by omega) (by omega))
      obtain ⟨a1, a2, a3⟩ := ztp φ (gt p.readers (i : Int)) (cl i) (by omega)
      rw [if_pos (by simpa using hp), z7 ⟨by omega, by omega⟩, z7 ⟨by omega, by omega⟩, Int.toNat_natCast, a1, Option.bind_some, W_id (x := t + ahV (gt p.readers (i : Int)) (cl i)) (by omega) (by omega)]
      exact ⟨_, _, rfl, fun _ => .inr ⟨no, i, hk.2.1, hk.2.2, hp, rfl⟩⟩
     ·rw [if_neg (by simpa using hp), W_id (x := (i : Int) + 1) (by omega) (by omega)]
      exact ih (i + 1) (by omega) (by omega)
    ·rw [if_neg (by simp only [Bool.and_eq_true, beq_iff_eq, decide_eq_true_eq]; omega)]
     exact ⟨_, _, rfl, fun h => by cases h⟩
  exact key φ 0 (by omega) (by omega)
theorem yb7 {p : Pool} {ah : Nat -> Int} {φ : Nat} {m place time truth last : Int} {l : List ze} {H : List TQ} (T : TI φ p ah m place time truth last l H) (hl : l.length <= 100) : FewL l := by
 refine ⟨by omega, fun r hr => ?_⟩
 obtain ⟨j, hj, rfl⟩ := zc9 hr
 rcases (T.rep j hj).1 with ⟨no, h⟩ | ⟨no, i, _, _, _, h⟩ <;> rw [h] <;> simp [y7p, y9q]
theorem zwm (φ : Nat) (hφ : 60000000 < φ) {p : Pool} (hc : z01 p = 0) (hw : 0 < p.fleet.wagons.length) {cl : Nat -> Int} {m place time truth last : Int} {l : List ze} {H : List TQ} (T : TI φ p (fun i => ahV (gt p.readers (i : Int)) (cl i)) m place time truth last l H) (hl : l.length <= 100) (ht : time <= 1073741824) (stops : List z0c) (n : Nat) :
  zr φ (n + 1) stops m time place truth last (stops.length : Int) p cl l = some (true, ()) := by
 have hfew := yb7 T hl
 have hrd := (z90 hc).1
 obtain ⟨ρ, hH, hA⟩ := zwq (by omega) hc hfew T (fun i hi => by
  have hq := hrd _ (z0h (l := p.readers) (i := (i : Int)) (by omega) (by omega))
  exact (ztp φ (gt p.readers (i : Int)) (cl i) (by omega)).2) ht
 obtain ⟨X, x0, hX, _⟩ := zjo hc hfew hH
 have hnb := y7d (φ := φ) hc hl
 have hG := zsm (φ := φ) (by omega) hc hfew hnb.2.2.2
 have hz := hG.sol.2 ⟨X, hX⟩
 have hslv : (slv φ p l).2.2.1 = 0 := by
  unfold slv
  rw [if_neg (show ¬ z01 p ≠ 0 from fun h => h hc), if_neg hnb.2.2.2, if_neg (by omega)]
 rw [zr, if_neg (by simp), zy4 φ (by omega) p hfew, Option.bind_some]
 simp only
 rw [if_neg (by rw [hslv]; simp)]
 by_cases htr : truth < 0
 ·rw [if_pos (by simpa using htr)]
 obtain ⟨hAt, hok, m0, m1⟩ := hA (by omega)
 rw [if_neg (by simpa using htr)]
 have he : zcb φ p l 0 m = 0 := by
  unfold zcb
  rw [if_neg (show ¬ z01 p ≠ 0 from fun h => h hc), if_neg (by omega), hslv]
 obtain ⟨a, ok, e1, e2, e3⟩ := zvh φ (by omega) p hfew 0 m
 obtain ⟨L, p1, p2, p3⟩ := zrm φ (by omega) p hfew 0 m
 obtain ⟨_, f, e, hR, hP, hLl⟩ := p3 he
 obtain ⟨_, f', e', hR', hC⟩ := e3 he
 obtain ⟨rfl, rfl⟩ := hR.uniq hR'
 have hn := (z2k hc).1
 have hE := ztz (by omega) hc hfew hG hX hR
 have hpos : PosW φ p.network (z4y (bsB φ p l)) (z5y (bsB φ p l)) (gapT (bsB φ p l)) (plE (bsB φ p l)) (vrE (bsB φ p l)) (stE (bsB φ p l)) f e m truth := by
  have h1 := zyu (p := p) φ hfew (w := ((0 : Nat) : Int)) (by omega) (by omega)
  rw [Int.toNat_natCast] at h1
  obtain ⟨rfl, rfl⟩ := hR.uniq h1
  exact (ya9 (by omega) hc hfew hG hX hw hok).2 ⟨_, ρ, hH, hAt⟩
 have hin : truth ∈ L := (hP.mem truth).2 ⟨hok, hpos⟩
 have hpl := (zba hn).1
 rw [p1, Option.bind_some, e1, Option.bind_some, he]
 simp only
 rw [gz_t (by simp), yap φ (by omega) L (by omega), Option.bind_some, decide_eq_true hin]
 rcases hC with ⟨rfl, r, i, hcw, rfl⟩ | ⟨rfl, _, _⟩
 ·have := zyg (by omega) hn hE hcw hok hpos
  simp [this]
 ·simp
theorem zwe (φ : Nat) (hφ : 60000000 < φ) {p : Pool} (hc : z01 p = 0) (hw : 0 < p.fleet.wagons.length) (hp : 0 < p.network.places.length) (cl : Nat -> Int) (m : Int) (stops : List z0c) (hs : stops.length <= 6) :
  ∀ (n i : Nat) (time place truth last : Int) (l : List ze) (H : List TQ), TI φ p (fun i => ahV (gt p.readers (i : Int)) (cl i)) m place time truth last l H -> time <= 5000 + 51300000 * (i : Int) -> l.length <= i -> i <= stops.length -> stops.length - i < n ->
   zr φ n stops m time place truth last (i : Int) p cl l = some (true, ()) := by
 have hn := (z2k hc).1
 have hpl := (zba hn).1
 intro n
 induction n with
 | zero => intro i _ _ _ _ _ _ _ _ _ _ h; omega
 | succ n ih =>
  intro i time place truth last l H T htm hli hi hfu
  by_cases h : i < stops.length
  case neg =>
   have : i = stops.length := by omega
   subst this
   exact zwm φ hφ hc hw T (by omega) (by omega) stops n
  have hWi : W ((i : Int) + 1) = ((i + 1 : Nat) : Int) := by rw [W_id (by omega) (by omega)]; omega
  have hT := T.tm
  rw [zr, if_pos (by simp; omega), z7 ⟨by omega, by omega⟩, z7 (by omega)]
  have hx := zua (gt stops (i : Int)).place 1023 (by omega)
  change 0 <= W ((BitVec.ofInt 64 (gt stops (i : Int)).place &&& BitVec.ofInt 64 1023).toNat : Int) /\ _ at hx
  have hq : okPl p.network ((W ((BitVec.ofInt 64 (gt stops (i : Int)).place &&& BitVec.ofInt 64 1023).toNat : Int)).tmod (p.network.places.length : Int)) :=
   ⟨Int.tmod_nonneg _ hx.1, Int.tmod_lt_of_pos _ (by omega)⟩
  generalize (W ((BitVec.ofInt 64 (gt stops (i : Int)).place &&& BitVec.ofInt 64 1023).toNat : Int)).tmod (p.network.places.length : Int) = q at *
  -- what follows the travel
  have step : ∀ (t1 : Int), TI φ p (fun i => ahV (gt p.readers (i : Int)) (cl i)) m q t1 truth last l H -> t1 <= 5000 + 51300000 * (i : Int) + 51200000 -> (∀ dl : Int, 0 <= dl -> dl <= 127 -> TI φ p (fun i => ahV (gt p.readers (i : Int)) (cl i)) m q (t1 + dl) truth last l H) ->
    z1l φ (zr φ n) stops m t1 truth last (i : Int) p cl l ⟨q, (gt stops (i : Int)).delay, (gt stops (i : Int)).wait, (gt stops (i : Int)).kind⟩ = some (true, ()) := by
   intro t1 T1 h1 T2
   have hd := zua (gt stops (i : Int)).delay 127 (by omega)
   have hwt := zua (gt stops (i : Int)).wait 255 (by omega)
   change 0 <= W ((BitVec.ofInt 64 (gt stops (i : Int)).delay &&& BitVec.ofInt 64 127).toNat : Int) /\ _ at hd
   change 0 <= W ((BitVec.ofInt 64 (gt stops (i : Int)).wait &&& BitVec.ofInt 64 255).toNat : Int) /\ _ at hwt
   have hT1 := T1.tm
   unfold z1l
   simp only
   generalize W ((BitVec.ofInt 64 (gt stops (i : Int)).delay &&& BitVec.ofInt 64 127).toNat : Int) = dl at *
   generalize W ((BitVec.ofInt 64 (gt stops (i : Int)).wait &&& BitVec.ofInt 64 255).toNat : Int) = wt at *
   have e1 : W (t1 + dl) = t1 + dl := W_id (by omega) (by omega)
   have e2 : W (t1 + dl + wt) = t1 + dl + wt := W_id (by omega) (by omega)
   rw [e1, e2]
   have T3 := T2 dl hd.1 hd.2
   -- one report or none
   have tell : ∀ tr : Int, tr = (if t1 + dl <= m /\ m <= t1 + dl + wt then q else truth) -> z1k φ (zr φ n) stops m (t1 + dl) q tr last (i : Int) (t1 + dl + wt) p cl l ⟨q, (gt stops (i : Int)).delay, (gt stops (i : Int)).wait, (gt stops (i : Int)).kind⟩ = some (true, ()) := by
    intro tr htr
    unfold z1k
    obtain ⟨r, b, hr1, hr2⟩ := zye φ (by omega) hc ⟨q, (gt stops (i : Int)).delay, (gt stops (i : Int)).wait, (gt stops (i : Int)).kind⟩ (W ((i : Int) + 1)) (t1 + dl) (t1 + dl + wt) cl (by omega)
    rw [hr1, Option.bind_some]
    simp only
    cases b with
    | true =>
     rw [if_pos rfl]
     by_cases hlast : r.item.from_ <= last
     ·rw [if_pos (by simpa using hlast)]
     ·rw [if_neg (by simpa using hlast), z7 (zm7 (by simp; omega) (by omega)), hWi, htr]
      exact ih (i + 1) _ _ _ _ _ _ (T3.tell (by omega) hn hq (by omega) (hr2 rfl) (by omega)) (by omega) (by simp; omega) (by omega) (by omega)
    | false =>
     rw [if_neg (by simp), hWi, htr]
     exact ih (i + 1) _ _ _ _ _ _ (T3.wait (by omega) hn hq (by omega)) (by omega) (by omega) (by omega) (by omega)
   by_cases hm : t1 + dl <= m /\ m <= t1 + dl + wt
   ·rw [if_pos (by simpa using hm)]
    exact tell q (by rw [if_pos hm])
   ·rw [if_neg (by simpa using hm)]
    exact tell truth (by rw [if_neg hm])
  by_cases h0 : 0 <= place
  ·have hplc : okPl p.network place := by
    rcases T.pl with ⟨h, _⟩ | h
    ·omega
    ·exact h
   rw [if_pos (by simpa using h0), zez (by omega) hn hplc hq, Option.bind_some]
   cases hd : Dst φ p.network place q with
   | none =>
    simp only
    rw [if_pos (by simp), hWi]
    exact ih (i + 1) _ _ _ _ _ _ T (by omega) (by omega) (by omega) (by omega)
   | some d =>
    have hdb := zgc (by omega) hn hplc hq hd
    simp only
    rw [if_neg (by simp), if_neg (by simp; omega), W_id (x := time + d) (by omega) (by omega)]
    exact step _ (T.move (by omega) hn hq (.inr ⟨d, hd, by omega⟩)) (by omega) fun dl h1 h2 => T.move (by omega) hn hq (.inr ⟨d, hd, by omega⟩)
  ·rw [if_neg (by simpa using h0)]
   have hm1 : place = -1 := by
    rcases T.pl with ⟨h, _⟩ | h
    ·exact h
    ·exact absurd h.1 h0
   exact step _ (T.move (by omega) hn hq (.inl ⟨hm1, by omega⟩)) (by omega) fun dl h1 h2 => T.move (by omega) hn hq (.inl ⟨hm1, by omega⟩)
theorem y9g (φ : Nat) (p : Pool) (l : List z0c) (c : Nat -> Int) (m : Int) : (z3e φ).F (p, l, c, m, ()) = z30 φ p l c m := rfl
theorem zh3 (x : Tup TT [35, 58, 57, 0]) (h : y7t TV 30 [35, 58, 57, 0] x) : ∃ φ, (z3e φ).F x = some (true, ()) := by
 obtain ⟨p, l, c, m, _⟩ := x
 change List z0c at l
 change Pool at p
 change Nat -> Int at c
 change Int at m
 suffices key : ∃ φ, z30 φ p l c m = some (true, ()) by
  obtain ⟨φ, h⟩ := key
  exact ⟨φ, (y9g φ p l c m).trans h⟩
 suffices key : ∀ φ : Nat, 60000000 < φ -> zds φ = some (true, ()) -> z30 φ p l c m = some (true, ()) from ⟨100000000, key _ (by omega) yb4⟩
 intro φ hφ hsane
 unfold z30
 obtain ⟨bf, hbf, hfew, _⟩ := y2k φ (by omega) p []
 rw [hsane, Option.bind_some, if_neg (by simp), hbf, Option.bind_some]
 simp only
 by_cases hcond : ((((!bf) || (decide ((6 : Int) < (l.length : Int)))) || (((p.fleet.wagons.length : Int) : Int) == 0)) || (((p.network.places.length : Int) : Int) == 0)) = true
 ·rw [gz_f (by rw [hcond]; simp), Option.bind_some, if_pos (by simp only [hcond, Bool.true_or])]
 ·have hf := Bool.eq_false_iff.2 hcond
  rw [gz_t hf, z42 φ (by omega), Option.bind_some]
  simp only [hf, Bool.false_or]
  by_cases hc : z01 p = 0
  ·rw [if_neg (by simpa using hc)]
   simp only [Bool.or_eq_true, Bool.not_eq_true', decide_eq_true_eq, beq_iff_eq, not_or] at hcond
   exact zwe φ hφ hc (by omega) (by omega) c m l (by omega) φ 0 5000 (-1) (-1) (-1) [] [] ⟨rfl, by omega, .inl ⟨rfl, rfl, rfl⟩, fun j hj => by simp at hj, fun j hj => by simp at hj, fun j k h1 h2 => by simp at h2, fun j k h1 h2 => by simp at h2, fun j hj => by simp at hj, .inl rfl⟩ (by omega) (by simp) (by omega) (by omega)
  ·rw [if_pos (by simpa using hc)]
end Px
end
