/- A part of the proof of conflictKeepIsConsistent_holds. Conditions: none. -/
import Derived.Test.YtghkddgggfodgaaGreatZvaf
section
namespace Px
open Go
set_option linter.unusedVariables false
set_option linter.unusedSimpArgs false
theorem zlm (φ : Nat) : ∀ (n m N : Nat), m <= N -> N < n + m -> 1 <= m \/ N = 0 -> N <= 5000 -> z3v φ n (m : Int) (List.replicate m (-1) ++ List.replicate (N - m) (default : Int)) = some (List.replicate N (-1), ())
 | 0, m, N, h1, h2, _, _ => by omega
 | n + 1, m, N, h1, h2, h3, h4 => by
  have hlen : (List.replicate m (-1 : Int) ++ List.replicate (N - m) (default : Int)).length = N := by simp; omega
  rw [z3v, hlen]
  by_cases h : m < N
  ·rw [if_pos (by simp; omega), z8 ⟨by omega, by omega, by omega⟩, z8 ⟨by omega, by omega, by omega⟩]
   have e1 : z1o (List.replicate m (-1 : Int) ++ List.replicate (N - m) (default : Int)) ((0 : Int).toNat) ((m : Int).toNat) = List.replicate m (-1) := by
    simp [z1o, List.take_append]
   rw [e1, List.length_replicate]
   have e2 : ((N : Int).toNat - (m : Int).toNat) = N - m := by omega
   have e3 : W ((m : Int) + ((min m (N - m) : Nat) : Int)) = ((m + min m (N - m) : Nat) : Int) := by rw [W_id (by omega) (by omega)]; omega
   rw [e2, e3]
   have e4 : cpy (List.replicate m (-1 : Int) ++ List.replicate (N - m) (default : Int)) ((m : Int).toNat) (N - m) (List.replicate m (-1)) = List.replicate (m + min m (N - m)) (-1) ++ List.replicate (N - (m + min m (N - m))) (default : Int) := by
    unfold cpy
    rw [Int.toNat_natCast, List.length_replicate, List.take_append_of_le_length (by simp), List.take_of_length_le (by simp), List.take_replicate, List.drop_append, List.drop_of_length_le (by simp), List.drop_replicate, List.length_replicate, List.nil_append]
    rw [show min (min m (N - m)) m = min m (N - m) by omega, List.replicate_append_replicate]
    congr 2
    omega
   rw [e4]
   exact zlm φ n (m + min m (N - m)) N (by omega) (by omega) (by omega) h4
  ·rw [if_neg (by simp; omega)]
   have : m = N := by omega
   subst this
   simp
theorem zyo (φ : Nat) (n : Nat) (hn : n <= 5000) (hφ : 5001 < φ) : z3q φ [-1] (n : Int) = some (List.replicate n (-1), ()) := by
 unfold z3q zof
 rw [if_neg (by simp), show (([-1] : List Int).length : Int) = 1 from rfl, U_id (x := 1) (by omega) (by omega), U_id (x := (n : Int)) (by omega) (by omega), zv1 φ 1 n (by omega) (by omega) (by omega) (by omega)]
 simp only [Option.bind_some, Int.one_mul]
 have e1 : (n : Int) / 18446744073709551616 = 0 := by omega
 have e2 : (n : Int) % 18446744073709551616 = n := by omega
 rw [e1, e2, if_neg (by simp; omega), W_id (by omega) (by omega), z8 (mk_t _ _ (by omega) (by omega) (by omega))]
 rw [Int.toNat_natCast]
 have e3 : cpy (List.replicate n (default : Int)) 0 ((List.replicate n (default : Int)).length - 0) [-1] = List.replicate (min 1 n) (-1) ++ List.replicate (n - min 1 n) (default : Int) := by
  cases n with
  | zero => rfl
  | succ n => simp [cpy, show min 1 (n + 1) = 1 by omega]
 rw [e3, List.length_replicate]
 exact zlm φ φ (min 1 n) n (by omega) (by omega) (by omega) hn
structure LS where
 x : List Int
 y : List Int
 z : Int
def stp (b : za) (i : Int) (s : LS) : LS := if gt s.x b.i + b.w < gt s.x b.j then ⟨zz s.x b.j (gt s.x b.i + b.w), zz s.y b.j i, i⟩ else s
def rndL (L : List za) : Nat -> LS -> LS
 | 0, s => s
 | m + 1, s => stp (gt L (m : Int)) m (rndL L m s)
def lowR (L : List za) : Nat -> LS -> LS
 | 0, s => s
 | k + 1, s => if (rndL L L.length ⟨s.x, s.y, -1⟩).z < 0 then rndL L L.length ⟨s.x, s.y, -1⟩ else lowR L k (rndL L L.length ⟨s.x, s.y, -1⟩)
def low (n : Nat) (L : List za) : LS := lowR L n ⟨List.replicate n 0, List.replicate n (-1), -1⟩
def okBd (n : Nat) (b : za) : Prop := 0 <= b.i /\ b.i < (n : Int) /\ 0 <= b.j /\ b.j < (n : Int) /\ -1099511627776 <= b.w /\ b.w <= 1099511627776
structure LB (n c : Nat) (s : LS) : Prop where
 lx : s.x.length = n
 ly : s.y.length = n
 bd : ∀ i : Int, 0 <= i -> i < (n : Int) -> -(1099511627776 * (c : Int)) <= gt s.x i /\ gt s.x i <= 0
theorem LB.up {n c d : Nat} {s : LS} (h : LB n c s) (hd : c <= d) : LB n d s := ⟨h.lx, h.ly, fun i h0 h1 => by have := h.bd i h0 h1; omega⟩
theorem LB.stp {n c : Nat} {s : LS} (h : LB n c s) {b : za} (hb : okBd n b) (i : Int) : LB n (c + 1) (stp b i s) := by
 unfold Px.stp
 obtain ⟨a1, a2, a3, a4, a5, a6⟩ := hb
 have hx := h.lx
 have hy := h.ly
 split
 ·rename_i hlt
  refine ⟨by rw [z1z]; exact hx, by rw [z1z]; exact hy, fun k h0 h1 => ?_⟩
  have q1 := h.bd b.i a1 a2
  have q2 := h.bd k h0 h1
  have q3 := h.bd b.j a3 a4
  rw [z0q _ _ _ _ a3 (by rw [hx]; exact a4) h0]
  split <;> omega
 ·exact h.up (by omega)
theorem LB.rnd {n c : Nat} {s : LS} (h : LB n c s) {L : List za} (hL : ∀ b ∈ L, okBd n b) : ∀ m, m <= L.length -> LB n (c + m) (rndL L m s)
 | 0, _ => h
 | m + 1, hm => (LB.rnd h hL m (by omega)).stp (hL _ (z1d (by omega) (by omega))) m
theorem y4o (φ : Nat) (k : List za -> Int -> Int -> Int -> List Int -> List Int -> Option (List Int × List Int × Int × Unit)) (L : List za) (n : Nat) (r : Int) (c : Nat) (s : LS) (hs : LB n c s) (hL : ∀ b ∈ L, okBd n b) (hl : L.length <= 5000) (hc : c + L.length <= 2100000) (hφ : 5001 < φ) :
  z1u φ k φ L s.z n r L (L.length : Int) 0 s.x s.y = if (rndL L L.length s).z < 0 then some ((rndL L L.length s).x, (rndL L L.length s).y, (rndL L L.length s).z, ()) else k L (rndL L L.length s).z n (W (r + 1)) (rndL L L.length s).x (rndL L L.length s).y := by
 refine zp (fun f i (t : LS) => z1u φ k f L t.z n r L (L.length : Int) i t.x t.y) L.length (fun i t => t = rndL L i s) (fun o => o = _) ?_ ?_ φ s rfl (by omega)
 ·intro f i t hi ht hk
  have hB := hs.rnd hL i (by omega)
  rw [<- ht] at hB
  obtain ⟨a1, a2, a3, a4, a5, a6⟩ := hL _ (z1d (l := L) (i := (i : Int)) (by omega) (by omega))
  have q1 := hB.bd _ a1 a2
  have q2 := hB.bd _ a3 a4
  have hx := hB.lx
  have hy := hB.ly
  have hk' := hk (stp (gt L (i : Int)) i t) (by rw [ht]; rfl)
  rw [z1u, if_pos (by simp; omega), z8 ⟨by omega, by omega⟩, z8 ⟨a1, by rw [hx]; exact a2⟩, z8 ⟨a3, by rw [hx]; exact a4⟩, W_id (x := gt t.x (gt L (i : Int)).i + (gt L (i : Int)).w) (by omega) (by omega)]
  unfold stp at hk'
  by_cases h : gt t.x (gt L (i : Int)).i + (gt L (i : Int)).w < gt t.x (gt L (i : Int)).j
  ·rw [if_pos h] at hk'
   rw [if_pos (by simpa using h), z4e, z8 ⟨a3, by rw [hx]; exact a4⟩, z8 ⟨a3, by rw [hy]; exact a4⟩, W_id (x := (i : Int) + 1) (by omega) (by omega)]
   exact hk'
  ·rw [if_neg h] at hk'
   rw [if_neg (by simpa using h), W_id (x := (i : Int) + 1) (by omega) (by omega)]
   exact hk'
 ·intro f t ht
  subst ht
  rw [z1u, if_neg (by simp)]
  by_cases h : (rndL L L.length s).z < 0
  ·rw [if_pos (by simpa using h), if_pos h]; rfl
  ·rw [if_neg (by simpa using h), if_neg h]
theorem zr9 (φ : Nat) (L : List za) (n : Nat) (hn : n <= 512) (hL : ∀ b ∈ L, okBd n b) (hl : L.length <= 4096) (hφ : 5001 < φ) :
  ∀ (f k : Nat) (s : LS), LB n (k * L.length) s -> k <= n -> n < f + k -> z3j φ f L s.z n (k : Int) s.x s.y = some ((lowR L (n - k) s).x, (lowR L (n - k) s).y, (lowR L (n - k) s).z, ())
 | 0, k, s, _, h1, h2 => by omega
 | f + 1, k, s, hs, h1, h2 => by
  rw [z3j]
  by_cases h : k < n
  ·have hs1 : LB n (k * L.length) ⟨s.x, s.y, -1⟩ := ⟨hs.lx, hs.ly, hs.bd⟩
   have hb := Nat.mul_le_mul (show k + 1 <= 512 by omega) hl
   rw [Nat.add_mul, Nat.one_mul] at hb
   rw [if_pos (by simp; omega)]
   have := y4o φ (z3j φ f) L n (k : Int) _ ⟨s.x, s.y, -1⟩ hs1 hL (by omega) (by omega) hφ
   refine this.trans ?_
   rw [show n - k = (n - (k + 1)) + 1 by omega, lowR, W_id (x := (k : Int) + 1) (by omega) (by omega)]
   have hs2 := hs1.rnd hL L.length (Nat.le_refl _)
   split
   ·rfl
   ·exact zr9 φ L n hn hL hl hφ f (k + 1) _ (hs2.up (by rw [Nat.add_mul, Nat.one_mul]; omega)) (by omega) (by omega)
  ·rw [if_neg (by simp; omega), show n - k = 0 by omega]; rfl
theorem lb0 (n : Nat) : LB n 0 ⟨List.replicate n 0, List.replicate n (-1), -1⟩ := ⟨by simp, by simp, fun i h0 h1 => by rw [show gt (LS.x ⟨List.replicate n 0, List.replicate n (-1), -1⟩) i = 0 from z3l n 0 i h0 h1]; omega⟩
theorem zz3 (φ : Nat) (hφ : 5001 < φ) (L : List za) (n : Nat) (hn : n <= 512) (hL : ∀ b ∈ L, okBd n b) (hl : L.length <= 4096) : zbv φ (n : Int) L = some ((low n L).x, (low n L).y, (low n L).z, ()) := by
 unfold zbv z4b z3z
 rw [z8 (mk_t _ _ (by omega) (by omega) (by omega)), zyo φ n (by omega) hφ, Option.bind_some, Int.toNat_natCast]
 have := zr9 φ L n hn hL hl hφ φ 0 ⟨List.replicate n 0, List.replicate n (-1), -1⟩ ((lb0 n).up (by omega)) (by omega) (by omega)
 exact this
def zmj (n : Int) (b : za) : Bool := (((decide ((min2 b.i b.j) < 0) || decide (n <= max2 b.i b.j)) || decide (b.w < (-1099511627776))) || decide (1099511627776 < b.w))
def chkD (n : Int) (L : List za) : Int := if n < 1 then 1 else if 512 < n \/ 4096 < L.length then 2 else bif L.any (zmj n) then 1 else 0
theorem zsb {n : Nat} {b : za} : zmj n b = false ↔ okBd n b := by
 unfold zmj okBd
 simp only [Bool.or_eq_false_iff, decide_eq_false_iff_not, y1g, ybf]
 have : ¬ ((n : Int) <= max2 b.i b.j) ↔ b.i < n /\ b.j < n := by unfold max2; split <;> omega
 rw [this]
 omega
theorem zo5 (φ : Nat) (hφ : 5001 < φ) (n : Int) (L : List za) : zf2 φ n L = some (chkD n L, ()) := by
 unfold zf2 chkD
 by_cases h1 : n < 1
 ·rw [if_pos (by simpa using h1), if_pos h1]
 ·rw [if_neg (by simpa using h1), if_neg h1]
  by_cases h2 : 512 < n \/ 4096 < L.length
  ·rw [if_pos (by simp; omega), if_pos h2]
  ·rw [if_neg (by simp; omega), if_neg h2]
   have := zjs (fun f i => z4k φ f n L (L.length : Int) i) (some (0, ())) (some (1, ())) L (zmj n) (fun f i hi => by
     rw [z4k, if_pos (by simp; omega), z8 ⟨by omega, by omega⟩, W_id (by omega) (by omega)]
     show (if zmj n (gt L (i : Int)) = true then _ else _) = _
     cases zmj n (gt L (i : Int)) <;> rfl) (fun f => by
     rw [z4k, if_neg (by simp)]) φ (by omega)
   rw [this]; cases L.any (zmj n) <;> rfl
theorem y8y {n : Int} {L : List za} (h : chkD n L = 0) : ∃ m : Nat, n = m /\ 1 <= m /\ m <= 512 /\ L.length <= 4096 /\ ∀ b ∈ L, okBd m b := by
 unfold chkD at h
 split at h
 ·cases h
 ·split at h
  ·cases h
  ·refine ⟨n.toNat, by omega, by omega, by omega, by omega, fun b hb => ?_⟩
   cases ha : L.any (zmj n) with
   | true => rw [ha] at h; cases h
   | false =>
    rw [<- zsb, show ((n.toNat : Nat) : Int) = n by omega]
    cases hbb : zmj n b with
    | false => rfl
    | true => rw [List.any_eq_false] at ha; exact absurd hbb (ha b hb)
theorem yb6 {n : Nat} {L : List za} (h1 : 1 <= n) (h2 : n <= 512) (h3 : L.length <= 4096) (h4 : ∀ b ∈ L, okBd n b) : chkD n L = 0 := by
 unfold chkD
 rw [if_neg (by omega), if_neg (by omega)]
 have : L.any (zmj n) = false := by
  rw [List.any_eq_false]
  intro b hb h
  rw [zsb.2 (h4 b hb)] at h; cases h
 rw [this]; rfl
theorem y6m (φ : Nat) (hφ : 5001 < φ) (n : Int) (L : List za) : zbn φ n L = some (if chkD n L ≠ 0 then ([], chkD n L, ()) else if 0 <= (low n.toNat L).z then ([], 230, ()) else ((low n.toNat L).x, 0, ())) := by
 unfold zbn
 rw [zo5 φ hφ, Option.bind_some]
 by_cases h : chkD n L = 0
 ·rw [if_neg (by simpa using h), if_neg (by simpa using h)]
  obtain ⟨m, rfl, h1, h2, h3, h4⟩ := y8y h
  rw [zz3 φ hφ L m h2 h4 h3, Option.bind_some, Int.toNat_natCast]
  by_cases hz : 0 <= (low m L).z
  ·rw [if_pos (by simpa using hz), if_pos hz]
  ·rw [if_neg (by simpa using hz), if_neg hz]
 ·rw [if_pos (by simpa using h), if_pos (by simpa using h)]
end Px
end
section
namespace Px
open Go
set_option linter.unusedVariables false
set_option linter.unusedSimpArgs false
def bI (b : za) : Nat := b.i.toNat
def bJ (b : za) : Nat := b.j.toNat
def bW (b : za) : Int := b.w
def xf (x : List Int) : BF.X := fun v => if v < x.length then some (gt x (v : Int)) else none
theorem y6s {x : List Int} {i : Int} (h0 : 0 <= i) (h : i < (x.length : Int)) : xf x i.toNat = some (gt x i) := by
 unfold xf
 rw [if_pos (by omega), show ((i.toNat : Nat) : Int) = i by omega]
theorem zzf {n : Nat} {s : LS} (hx : s.x.length = n) {b : za} (hb : okBd n b) (i : Int) :
  xf (stp b i s).x = BF.rlx bI bJ bW (xf s.x) b /\ (BF.imp bI bJ bW (xf s.x) b = true -> (stp b i s).z = i) /\ (BF.imp bI bJ bW (xf s.x) b = false -> stp b i s = s) := by
 obtain ⟨a1, a2, a3, a4, _, _⟩ := hb
 have e1 : xf s.x (bI b) = some (gt s.x b.i) := y6s a1 (by rw [hx]; exact a2)
 have e2 : xf s.x (bJ b) = some (gt s.x b.j) := y6s a3 (by rw [hx]; exact a4)
 have ei : BF.imp bI bJ bW (xf s.x) b = decide (gt s.x b.i + b.w < gt s.x b.j) := by
  unfold BF.imp; rw [e1, e2]; rfl
 have er : BF.rlx bI bJ bW (xf s.x) b = if gt s.x b.i + b.w < gt s.x b.j then fun v => if v = bJ b then some (gt s.x b.i + b.w) else xf s.x v else xf s.x := by
  unfold BF.rlx; rw [e1, e2]; simp only [BF.ltO, bW]
  by_cases h : gt s.x b.i + b.w < gt s.x b.j <;> simp [h]
 rw [ei, er]
 unfold stp
 by_cases h : gt s.x b.i + b.w < gt s.x b.j
 ·rw [if_pos h, if_pos h]
  refine ⟨?_, fun _ => rfl, fun q => by simp [h] at q⟩
  funext v
  unfold xf
  rw [z1z]
  simp only
  by_cases hv : v < s.x.length
  ·rw [if_pos hv, if_pos hv, z0q _ _ _ _ a3 (by rw [hx]; exact a4) (by omega)]
   by_cases e : v = bJ b
   ·rw [if_pos e, if_pos (by unfold bJ at e; omega)]
   ·rw [if_neg e, if_neg (by unfold bJ at e; omega)]
  ·rw [if_neg hv, if_neg hv, if_neg (fun e => hv (by rw [hx, e]; unfold bJ; omega))]
 ·rw [if_neg h, if_neg h]
  exact ⟨rfl, fun q => by simp [h] at q, fun _ => rfl⟩
theorem zeq {n : Nat} {s : LS} (hs : s.x.length = n) {L : List za} : ∀ m, (rndL L m s).x.length = n
 | 0 => hs
 | m + 1 => by
  have := zeq hs (L := L) m
  unfold rndL stp
  split
  ·simp only [z1z]; exact this
  ·exact this
theorem zzi {n : Nat} {s : LS} (hs : s.x.length = n) {L : List za} (hL : ∀ b ∈ L, okBd n b) : ∀ m, m <= L.length -> xf (rndL L m s).x = (L.take m).foldl (BF.rlx bI bJ bW) (xf s.x)
 | 0, _ => rfl
 | m + 1, hm => by
  have ih := zzi hs hL m (by omega)
  rw [z07 L m (by omega), List.foldl_append, <- ih]
  exact (zzf (zeq hs m) (hL _ (z1d (by omega) (by omega))) m).1
theorem y7h {n : Nat} {s : LS} (hs : s.x.length = n) {L : List za} (hL : ∀ b ∈ L, okBd n b) (hz : s.z = -1) : ∀ m, m <= L.length ->
  ((rndL L m s).z < 0 -> rndL L m s = s /\ ∀ k : Nat, k < m -> BF.imp bI bJ bW (xf s.x) (gt L (k : Int)) = false) /\ -1 <= (rndL L m s).z /\ (rndL L m s).z < m
 | 0, _ => ⟨fun _ => ⟨rfl, fun k hk => by omega⟩, by rw [show (rndL L 0 s).z = s.z from rfl]; omega, by rw [show (rndL L 0 s).z = s.z from rfl]; omega⟩
 | m + 1, hm => by
  obtain ⟨h1, h2, h3⟩ := y7h hs hL hz m (by omega)
  obtain ⟨q1, q2, q3⟩ := zzf (zeq hs m) (hL _ (z1d (l := L) (i := (m : Int)) (by omega) (by omega))) m
  change _ /\ -1 <= (stp (gt L (m : Int)) m (rndL L m s)).z /\ (stp (gt L (m : Int)) m (rndL L m s)).z < _
  cases hi : BF.imp bI bJ bW (xf (rndL L m s).x) (gt L (m : Int)) with
  | true =>
   have := q2 hi
   refine ⟨fun h => ?_, by omega, by omega⟩
   change (stp (gt L (m : Int)) m (rndL L m s)).z < 0 at h
   omega
  | false =>
   have e := q3 hi
   rw [e]
   refine ⟨fun h => ?_, h2, by omega⟩
   change (stp (gt L (m : Int)) m (rndL L m s)).z < 0 at h
   rw [e] at h
   obtain ⟨e2, h4⟩ := h1 h
   refine ⟨by change stp (gt L (m : Int)) m (rndL L m s) = s; rw [e, e2], fun k hk => ?_⟩
   by_cases hkm : k = m
   ·subst hkm; rw [e2] at hi; exact hi
   ·exact h4 k (by omega)
theorem zso {n : Nat} {s : LS} (hs : s.x.length = n) {L : List za} (hL : ∀ b ∈ L, okBd n b) (hz : s.z = -1) (hf : ∀ b ∈ L, BF.imp bI bJ bW (xf s.x) b = false) : ∀ m, m <= L.length -> rndL L m s = s
 | 0, _ => rfl
 | m + 1, hm => by
  have ih := zso hs hL hz hf m (by omega)
  have hb := z1d (l := L) (i := (m : Int)) (by omega) (by omega)
  change stp (gt L (m : Int)) m (rndL L m s) = s
  rw [ih]
  exact (zzf hs (hL _ hb) m).2.2 (hf _ hb)
def xz (n : Nat) : BF.X := fun v => if v < n then some 0 else none
theorem ycu (n : Nat) : xf (List.replicate n 0) = xz n := by
 funext v
 unfold xf xz
 rw [List.length_replicate]
 split
 ·rw [z3l _ _ _ (by omega) (by omega)]
 ·rfl
theorem y3c {n : Nat} {L : List za} (hL : ∀ b ∈ L, okBd n b) : ∀ (f k : Nat) (s : LS), s.x.length = n -> xf s.x = BF.rnds bI bJ bW L (xz n) k -> (lowR L f s).x.length = n /\
  (((lowR L f s).z < 0 -> f ≠ 0 \/ s.z < 0) -> ((lowR L f s).z < 0 -> f ≠ 0) -> ((lowR L f s).z < 0 -> BF.Fix bI bJ bW L (xf (lowR L f s).x) /\ ∃ k', xf (lowR L f s).x = BF.rnds bI bJ bW L (xz n) k')) /\
  (0 <= (lowR L f s).z -> f ≠ 0 -> ¬ BF.Feas bI bJ bW (xz n) L n \/ k + f < n) /\ (f ≠ 0 -> -1 <= (lowR L f s).z /\ (lowR L f s).z < L.length)
 | 0, k, s, hs, hx => ⟨hs, fun _ h2 h => absurd rfl (h2 h), fun _ h => absurd rfl h, fun h => absurd rfl h⟩
 | f + 1, k, s, hs, hx => by
  have hs1 : (LS.mk s.x s.y (-1)).x.length = n := hs
  obtain ⟨h1, h2, h3⟩ := y7h hs1 hL rfl L.length (Nat.le_refl _)
  have hr := zzi hs1 hL L.length (Nat.le_refl _)
  rw [List.take_length] at hr
  have hr2 : xf (rndL L L.length ⟨s.x, s.y, -1⟩).x = BF.rnds bI bJ bW L (xz n) (k + 1) := by
   rw [hr, show xf (LS.mk s.x s.y (-1)).x = _ from hx]; rfl
  have hq : ¬ (rndL L L.length ⟨s.x, s.y, -1⟩).z < 0 -> n <= k + 1 -> ¬ BF.Feas bI bJ bW (xz n) L n := fun hz hk F => by
   have := zso hs1 hL rfl (fun b hb => by
    have := BF.done F hk b hb
    rw [<- hx] at this; exact this) L.length (Nat.le_refl _)
   rw [this] at hz
   exact hz (by show (-1 : Int) < 0; omega)
  unfold lowR
  split
  ·rename_i hz
   obtain ⟨e1, e2⟩ := h1 hz
   refine ⟨zeq hs1 _, fun _ _ _ => ⟨fun b hb => ?_, k + 1, hr2⟩, fun h => by omega, fun _ => ⟨h2, h3⟩⟩
   rw [e1]
   obtain ⟨i, hi, rfl⟩ := zgw hb
   exact e2 i hi
  ·rename_i hz
   by_cases hf : f = 0
   ·subst hf
    refine ⟨zeq hs1 _, fun _ _ h => absurd h hz, fun _ _ => ?_, fun _ => ⟨h2, h3⟩⟩
    by_cases hk : n <= k + 1
    ·exact .inl (hq hz hk)
    ·exact .inr (by omega)
   ·obtain ⟨i1, i2, i3, i4⟩ := y3c hL f (k + 1) _ (zeq hs1 L.length) hr2
    refine ⟨i1, fun _ _ h => i2 (fun _ => .inl hf) (fun _ => hf) h, fun h _ => ?_, fun _ => i4 hf⟩
    rcases i3 h hf with h | h
    ·exact .inl h
    ·exact .inr (by omega)
structure ye5 (n : Nat) (L : List za) : Prop where
 len : (low n L).x.length = n
 fix : (low n L).z < 0 -> BF.Fix bI bJ bW L (xf (low n L).x)
 rnd : (low n L).z < 0 -> ∃ k, xf (low n L).x = BF.rnds bI bJ bW L (xz n) k
 cyc : 0 <= (low n L).z -> ¬ BF.Feas bI bJ bW (xz n) L n
 lo : -1 <= (low n L).z
 hi : (low n L).z < L.length
theorem y78 {n : Nat} {L : List za} (h1 : 1 <= n) (hL : ∀ b ∈ L, okBd n b) : ye5 n L := by
 obtain ⟨i1, i2, i3, i4⟩ := y3c hL n 0 ⟨List.replicate n 0, List.replicate n (-1), -1⟩ (by simp) (ycu n)
 have hn : n ≠ 0 := by omega
 refine ⟨i1, fun h => (i2 (fun _ => .inl hn) (fun _ => hn) h).1, fun h => (i2 (fun _ => .inl hn) (fun _ => hn) h).2, fun h => ?_, (i4 hn).1, (i4 hn).2⟩
 rcases i3 h hn with h | h
 ·exact h
 ·omega
theorem y96 {n : Nat} {L : List za} (h1 : 1 <= n) (hL : ∀ b ∈ L, okBd n b) (hz : (low n L).z < 0) {b : za} (hb : b ∈ L) : gt (low n L).x b.j - gt (low n L).x b.i <= b.w := by
 have h := y78 h1 hL
 obtain ⟨a1, a2, a3, a4, _, _⟩ := hL b hb
 obtain ⟨d, hd, hl⟩ := (h.fix hz).le hb (y6s a1 (by rw [h.len]; exact a2))
 have e : xf (low n L).x (bJ b) = some (gt (low n L).x b.j) := y6s a3 (by rw [h.len]; exact a4)
 rw [e] at hd
 cases hd
 unfold bW at hl
 omega
theorem yap {n : Nat} {L : List za} (hL : ∀ b ∈ L, okBd n b) (p : Int -> Int) (hp : ∀ b ∈ L, p b.j - p b.i <= b.w) : BF.Feas bI bJ bW (xz n) L n := by
 refine ⟨⟨fun v => p (v : Int), ((List.range n).map fun (v : Nat) => p (v : Int)).foldl max 0, fun b hb => ?_, fun v c h => ?_⟩, fun b hb => ?_, fun v c h => ?_⟩
 ·obtain ⟨a1, a2, a3, a4, _, _⟩ := hL b hb
  have := hp b hb
  show p ((bJ b : Nat) : Int) <= p ((bI b : Nat) : Int) + bW b
  unfold bI bJ bW
  rw [show ((b.j.toNat : Nat) : Int) = b.j by omega, show ((b.i.toNat : Nat) : Int) = b.i by omega]
  omega
 ·unfold xz at h
  split at h
  ·rename_i hv
   cases h
   have key : ∀ (l : List Int) (m x : Int), (x ∈ l -> x <= l.foldl max m) /\ m <= l.foldl max m := by
    intro l
    induction l with
    | nil => intro m x; exact ⟨fun h => by simp at h, Int.le_refl _⟩
    | cons y l ih =>
     intro m x
     have h1 := ih (max m y) x
     have h2 := ih (max m y) y
     refine ⟨fun h => ?_, ?_⟩
     ·rcases List.mem_cons.1 h with rfl | h
      ·simp only [List.foldl_cons]; omega
      ·exact h1.1 h
     ·simp only [List.foldl_cons]; omega
   have := (key ((List.range n).map fun (v : Nat) => p (v : Int)) 0 (p (v : Int))).1 (List.mem_map.2 ⟨v, List.mem_range.2 hv, rfl⟩)
   show p (v : Int) - 0 <= _
   omega
  ·cases h
 ·obtain ⟨a1, a2, a3, a4, _, _⟩ := hL b hb
  unfold bJ; omega
 ·unfold xz at h
  split at h
  ·assumption
  ·cases h
theorem y5h {n : Nat} {L : List za} (h1 : 1 <= n) (hL : ∀ b ∈ L, okBd n b) (p : Int -> Int) (hp : ∀ b ∈ L, p b.j - p b.i <= b.w) : (low n L).z < 0 := by
 by_cases hz : (low n L).z < 0
 ·exact hz
 ·exact absurd (yap hL p hp) ((y78 h1 hL).cyc (by omega))
end Px
end
section
namespace Px
open Go
set_option linter.unusedVariables false
set_option linter.unusedSimpArgs false
def bdI (r : Bool) (b : za) : Int := if r = true then b.j else b.i
def bdJ (r : Bool) (b : za) : Int := if r = true then b.i else b.j
def nI (r : Bool) (b : za) : Nat := (bdI r b).toNat
def nJ (r : Bool) (b : za) : Nat := (bdJ r b).toNat
def SolD (r : Bool) (L : List za) (p : Int -> Int) : Prop := ∀ b ∈ L, p (bdJ r b) - p (bdI r b) <= b.w
theorem zks {n : Nat} {b : za} (h : okBd n b) (r : Bool) : 0 <= bdI r b /\ bdI r b < (n : Int) /\ 0 <= bdJ r b /\ bdJ r b < (n : Int) /\ -1099511627776 <= b.w /\ b.w <= 1099511627776 := by
 obtain ⟨a1, a2, a3, a4, a5, a6⟩ := h
 cases r
 ·exact ⟨a1, a2, a3, a4, a5, a6⟩
 ·exact ⟨a3, a4, a1, a2, a5, a6⟩
theorem zvh {r : Bool} {L : List za} {p : Int -> Int} (h : SolD r L p) : SolD (!r) L fun v => - p v := fun b hb => by
 have := h b hb
 cases r
 ·simp only [bdI, bdJ, Bool.not_false, if_true, Bool.false_eq_true, if_false] at this ⊢; omega
 ·simp only [bdI, bdJ, Bool.not_true, if_true, Bool.false_eq_true, if_false] at this ⊢; omega
structure zr1 (r : Bool) (L : List za) (n : Nat) (u : Int) (e : Int -> Int) : Prop where
 sat : SolD r L e
 top : ∀ p, SolD r L p -> ∀ v, 0 <= v -> v < (n : Int) -> p v - p u <= e v
 zero : e u = 0
def xs1 (u : Nat) : BF.X := fun v => if v = u then some 0 else none
theorem ydr {r : Bool} {n : Nat} {L : List za} (hL : ∀ b ∈ L, okBd n b) {p : Int -> Int} (hp : SolD r L p) {u : Nat} (hu : u < n) : BF.Feas (nI r) (nJ r) bW (xs1 u) L n := by
 refine ⟨⟨fun v => p (v : Int), p (u : Int), fun b hb => ?_, fun v c h => ?_⟩, fun b hb => ?_, fun v c h => ?_⟩
 ·obtain ⟨a1, a2, a3, a4, _, _⟩ := zks (hL b hb) r
  have := hp b hb
  show p ((nJ r b : Nat) : Int) <= p ((nI r b : Nat) : Int) + bW b
  unfold nI nJ bW
  rw [show (((bdJ r b).toNat : Nat) : Int) = bdJ r b by omega, show (((bdI r b).toNat : Nat) : Int) = bdI r b by omega]
  omega
 ·unfold xs1 at h
  split at h
  ·rename_i e; cases h; subst e; show p (v : Int) - 0 <= p (v : Int); omega
  ·cases h
 ·obtain ⟨a1, a2, a3, a4, _, _⟩ := zks (hL b hb) r
  unfold nJ; omega
 ·unfold xs1 at h
  split at h
  ·rename_i e; subst e; exact hu
  ·cases h
theorem y04 {r : Bool} {n : Nat} {L : List za} (hL : ∀ b ∈ L, okBd n b) {p : Int -> Int} (hp : SolD r L p) {u : Nat} (hu : u < n) {x : BF.X} (hf : BF.Fix (nI r) (nJ r) bW L x) (hi : BF.Inv (nI r) (nJ r) bW (xs1 u) L x) (h0 : BF.le (x u) 0)
  (hall : ∀ v, v < n -> (x v).isSome = true) : zr1 r L n (u : Int) fun v => (x v.toNat).getD 0 := by
 have low : ∀ q, SolD r L q -> ∀ v a, x v = some a -> q (v : Int) - q (u : Int) <= a := by
  intro q hq v a hv
  obtain ⟨m, hw⟩ := hi v a hv
  have := BF.Wk.low (p := fun v : Nat => q (v : Int)) (C := q (u : Int)) (fun b hb => by
   obtain ⟨a1, a2, a3, a4, _, _⟩ := zks (hL b hb) r
   have := hq b hb
   show q ((nJ r b : Nat) : Int) <= q ((nI r b : Nat) : Int) + bW b
   unfold nI nJ bW
   rw [show (((bdJ r b).toNat : Nat) : Int) = bdJ r b by omega, show (((bdI r b).toNat : Nat) : Int) = bdI r b by omega]
   omega) (fun v c h => by
   unfold xs1 at h
   split at h
   ·rename_i e; cases h; subst e; show q (v : Int) - 0 <= q (v : Int); omega
   ·cases h) hw
  omega
 have at_ : ∀ v : Int, 0 <= v -> v < (n : Int) -> x v.toNat = some ((x v.toNat).getD 0) := fun v h1 h2 => by
  have := hall v.toNat (by omega)
  cases hx : x v.toNat with
  | none => rw [hx] at this; cases this
  | some a => rfl
 refine ⟨fun b hb => ?_, fun q hq v h1 h2 => ?_, ?_⟩
 ·obtain ⟨a1, a2, a3, a4, _, _⟩ := zks (hL b hb) r
  obtain ⟨d, hd, hle⟩ := hf.le hb (at_ _ a1 a2)
  have e := at_ _ a3 a4
  have hd' : x (bdJ r b).toNat = some d := hd
  rw [hd'] at e
  simp only [Option.some.injEq] at e
  rw [hd', Option.getD_some]
  unfold bW at hle
  omega
 ·have := low q hq v.toNat _ (at_ v h1 h2)
  rw [show ((v.toNat : Nat) : Int) = v by omega] at this
  exact this
 ·obtain ⟨a, ha, hle⟩ := h0
  have := low p hp u a ha
  simp only [Int.toNat_natCast, ha, Option.getD_some]
  omega
def Conn (L : List za) (n : Nat) : Prop := ∀ v : Int, 1 <= v -> v < (n : Int) -> (∃ b ∈ L, b.i = 0 /\ b.j = v) /\ ∃ b ∈ L, b.i = v /\ b.j = 0
theorem Conn.d {L : List za} {n : Nat} (h : Conn L n) (r : Bool) : ∀ v : Nat, 1 <= v -> v < n -> (∃ b ∈ L, nI r b = 0 /\ nJ r b = v) /\ ∃ b ∈ L, nI r b = v /\ nJ r b = 0 := by
 intro v h1 h2
 obtain ⟨⟨b, hb, b1, b2⟩, c, hc, c1, c2⟩ := h (v : Int) (by omega) (by omega)
 cases r
 ·exact ⟨⟨b, hb, by unfold nI bdI; rw [if_neg (by simp), b1]; rfl, by unfold nJ bdJ; rw [if_neg (by simp), b2]; simp⟩, c, hc, by unfold nI bdI; rw [if_neg (by simp), c1]; simp, by unfold nJ bdJ; rw [if_neg (by simp), c2]; rfl⟩
 ·exact ⟨⟨c, hc, by unfold nI bdI; rw [if_pos rfl, c2]; rfl, by unfold nJ bdJ; rw [if_pos rfl, c1]; simp⟩, b, hb, by unfold nI bdI; rw [if_pos rfl, b2]; simp, by unfold nJ bdJ; rw [if_pos rfl, b1]; rfl⟩
theorem yep {r : Bool} {n : Nat} {L : List za} (hc : Conn L n) {u : Nat} (hu : u < n) {x : BF.X} (hf : BF.Fix (nI r) (nJ r) bW L x) (h0 : BF.le (x u) 0) : ∀ v, v < n -> (x v).isSome = true := by
 have z0 : ∃ a, x 0 = some a := by
  by_cases h : u = 0
  ·subst h; obtain ⟨a, ha, _⟩ := h0; exact ⟨a, ha⟩
  ·obtain ⟨_, b, hb, b1, b2⟩ := hc.d r u (by omega) hu
   obtain ⟨a, ha, _⟩ := h0
   obtain ⟨d, hd, _⟩ := hf.le hb (by rw [b1]; exact ha)
   rw [b2] at hd
   exact ⟨d, hd⟩
 intro v hv
 obtain ⟨a, ha⟩ := z0
 by_cases h : v = 0
 ·subst h; rw [ha]; rfl
 ·obtain ⟨⟨b, hb, b1, b2⟩, _⟩ := hc.d r v (by omega) hv
  obtain ⟨d, hd, _⟩ := hf.le hb (by rw [b1]; exact ha)
  rw [b2] at hd
  rw [hd]; rfl
theorem zwz {r : Bool} {n : Nat} {L : List za} (hL : ∀ b ∈ L, okBd n b) (hc : Conn L n) {p : Int -> Int} (hp : SolD r L p) {u : Nat} (hu : u < n) {x : BF.X} (hf : BF.Fix (nI r) (nJ r) bW L x) {k : Nat} (hk : x = BF.rnds (nI r) (nJ r) bW L (xs1 u) k) :
  zr1 r L n (u : Int) (fun v => (x v.toNat).getD 0) /\ ∀ v, v < n -> (x v).isSome = true := by
 have h0 : BF.le (x u) 0 := by
  rw [hk]
  exact BF.rnds_mono L ⟨0, by unfold xs1; rw [if_pos rfl], Int.le_refl _⟩ k
 have hall := yep hc hu hf h0
 exact ⟨y04 hL hp hu hf (by rw [hk]; exact BF.Inv.rnds k) h0 hall, hall⟩
def farN : Int := 1125899906842624
structure DS where
 d : List Int
 c : Bool
def stpD (r : Bool) (b : za) (s : DS) : DS := if gt s.d (bdI r b) < farN /\ gt s.d (bdI r b) + b.w < gt s.d (bdJ r b) then ⟨zz s.d (bdJ r b) (gt s.d (bdI r b) + b.w), true⟩ else s
def rndD (r : Bool) (L : List za) : Nat -> DS -> DS
 | 0, s => s
 | m + 1, s => stpD r (gt L (m : Int)) (rndD r L m s)
def runD (r : Bool) (L : List za) : Nat -> DS -> DS
 | 0, s => s
 | k + 1, s => if s.c = true then runD r L k (rndD r L L.length ⟨s.d, false⟩) else s
def cntF (d : List Int) : Nat := d.countP fun a => decide (a < farN)
structure DB (n c : Nat) (s : DS) : Prop where
 len : s.d.length = n
 hi : ∀ i : Int, 0 <= i -> i < (n : Int) -> gt s.d i = farN \/ gt s.d i + 1099511627776 <= 1099511627776 * (cntF s.d : Int)
 lo : ∀ i : Int, 0 <= i -> i < (n : Int) -> -(1099511627776 * (c : Int)) <= gt s.d i
theorem yah (d : List Int) : cntF d <= d.length := List.countP_le_length
theorem DB.lt {n c : Nat} {s : DS} (h : DB n c s) (hn : n <= 512) {i : Int} (h0 : 0 <= i) (h1 : i < (n : Int)) : gt s.d i = farN \/ gt s.d i <= 561850441793536 := by
 have := yah s.d
 rw [h.len] at this
 rcases h.hi i h0 h1 with h | h
 ·exact .inl h
 ·exact .inr (by omega)
theorem zwf {d : List Int} {i : Int} (h0 : 0 <= i) (h1 : i < (d.length : Int)) {v : Int} (hv : v < farN) : cntF (zz d i v) = if gt d i < farN then cntF d else cntF d + 1 := by
 have hi : i.toNat < d.length := by omega
 have hg : d[i.toNat] = gt d i := by
  have := z1g hi
  rw [show ((i.toNat : Nat) : Int) = i by omega] at this
  exact this.symm
 unfold cntF zz
 rw [List.countP_set hi, hg]
 have hv' : decide (v < farN) = true := by simpa using hv
 rw [if_pos hv']
 by_cases hq : gt d i < farN
 ·have : 0 < List.countP (fun a => decide (a < farN)) d := List.countP_pos_iff.2 ⟨gt d i, z1d h0 h1, by simpa using hq⟩
  rw [if_pos (by simpa using hq), if_pos hq]
  omega
 ·rw [if_neg (by simpa using hq), if_neg hq]
  omega
theorem DB.up {n c e : Nat} {s : DS} (h : DB n c s) (he : c <= e) : DB n e s := ⟨h.len, h.hi, fun i h0 h1 => by have := h.lo i h0 h1; omega⟩
theorem DB.stp {n c : Nat} {s : DS} (h : DB n c s) (hn : n <= 512) {b : za} (hb : okBd n b) (r : Bool) : DB n (c + 1) (stpD r b s) := by
 obtain ⟨a1, a2, a3, a4, a5, a6⟩ := zks hb r
 unfold stpD
 split
 ·rename_i hlt
  obtain ⟨l1, l2⟩ := hlt
  have hx := h.len
  have q1 := h.hi _ a1 a2
  have q2 := h.lt hn a1 a2
  have q3 := h.hi _ a3 a4
  have ql := h.lo _ a1 a2
  have hnew : gt s.d (bdI r b) + b.w < farN := by unfold farN at *; omega
  have hc := zwf (d := s.d) a3 (by rw [hx]; exact a4) hnew
  refine ⟨by rw [z1z]; exact hx, fun k h0 h1 => ?_, fun k h0 h1 => ?_⟩
  ·simp only [hc]
   rw [z0q _ _ _ _ a3 (by rw [hx]; exact a4) h0]
   have q4 := h.hi k h0 h1
   by_cases hk : k = bdJ r b
   ·rw [if_pos hk]
    right
    by_cases hq : gt s.d (bdJ r b) < farN
    ·rw [if_pos hq]; omega
    ·rw [if_neg hq]; unfold farN at *; omega
   ·rw [if_neg hk]
    rcases q4 with q4 | q4
    ·exact .inl q4
    ·right
     split <;> omega
  ·rw [z0q _ _ _ _ a3 (by rw [hx]; exact a4) h0]
   have q4 := h.lo k h0 h1
   split <;> omega
 ·exact h.up (by omega)
theorem DB.rnd {n c : Nat} {s : DS} (h : DB n c s) (hn : n <= 512) {L : List za} (hL : ∀ b ∈ L, okBd n b) (r : Bool) : ∀ m, m <= L.length -> DB n (c + m) (rndD r L m s)
 | 0, _ => h
 | m + 1, hm => (DB.rnd h hn hL r m (by omega)).stp hn (hL _ (z1d (by omega) (by omega))) r
def xd (d : List Int) : BF.X := fun v => if v < d.length then (if gt d (v : Int) < farN then some (gt d (v : Int)) else none) else none
theorem ya0 {d : List Int} {i : Int} (h0 : 0 <= i) (h : i < (d.length : Int)) : xd d i.toNat = if gt d i < farN then some (gt d i) else none := by
 unfold xd
 rw [if_pos (by omega), show ((i.toNat : Nat) : Int) = i by omega]
theorem zz4 {n c : Nat} (hn : n <= 512) {s : DS} (hB : DB n c s) {b : za} (hb : okBd n b) (r : Bool) :
  xd (stpD r b s).d = BF.rlx (nI r) (nJ r) bW (xd s.d) b /\ (BF.imp (nI r) (nJ r) bW (xd s.d) b = true -> (stpD r b s).c = true) /\ (BF.imp (nI r) (nJ r) bW (xd s.d) b = false -> stpD r b s = s) := by
 obtain ⟨a1, a2, a3, a4, a5, a6⟩ := zks hb r
 have hx := hB.len
 have e1 : xd s.d (nI r b) = _ := ya0 a1 (by rw [hx]; exact a2)
 have e2 : xd s.d (nJ r b) = _ := ya0 a3 (by rw [hx]; exact a4)
 have q1 := hB.lt hn a1 a2
 have q2 := hB.lt hn a3 a4
 have ei : BF.imp (nI r) (nJ r) bW (xd s.d) b = decide (gt s.d (bdI r b) < farN /\ gt s.d (bdI r b) + b.w < gt s.d (bdJ r b)) := by
  unfold BF.imp
  rw [e1, e2]
  by_cases h1 : gt s.d (bdI r b) < farN
  ·rw [if_pos h1]
   by_cases h2 : gt s.d (bdJ r b) < farN
   ·rw [if_pos h2]
    exact decide_eq_decide.2 ⟨fun h => ⟨h1, h⟩, fun h => h.2⟩
   ·rw [if_neg h2]
    have : gt s.d (bdI r b) + b.w < gt s.d (bdJ r b) := by unfold farN at *; omega
    simp [BF.ltO, h1, this]
  ·rw [if_neg h1]; simp [h1]
 by_cases h : gt s.d (bdI r b) < farN /\ gt s.d (bdI r b) + b.w < gt s.d (bdJ r b)
 ·have er := ei
  rw [decide_eq_true h] at er
  obtain ⟨a, ha, hlt, hr⟩ := BF.rlx_imp er
  rw [e1, if_pos h.1, Option.some.injEq] at ha
  subst ha
  unfold stpD
  rw [if_pos h]
  refine ⟨?_, fun _ => rfl, fun q => (by rw [er] at q; cases q)⟩
  rw [hr]
  funext v
  unfold xd
  simp only [z1z]
  by_cases hv : v < s.d.length
  ·rw [if_pos hv, if_pos hv, z0q _ _ _ _ a3 (by rw [hx]; exact a4) (by omega)]
   by_cases e : v = nJ r b
   ·have e' : (v : Int) = bdJ r b := by unfold nJ at e; omega
    have hnew : gt s.d (bdI r b) + b.w < farN := by unfold farN at *; omega
    rw [if_pos e, if_pos e', if_pos hnew]; rfl
   ·have e' : ¬ (v : Int) = bdJ r b := by unfold nJ at e; omega
    rw [if_neg e, if_neg e']
  ·rw [if_neg hv, if_neg hv, if_neg (fun e => hv (by rw [hx, e]; unfold nJ; omega))]
 ·have er := ei
  rw [decide_eq_false h] at er
  unfold stpD
  rw [if_neg h]
  exact ⟨(BF.rlx_not er).symm, fun q => (by rw [er] at q; cases q), fun _ => rfl⟩
theorem zzj {n c : Nat} (hn : n <= 512) {s : DS} (hB : DB n c s) {L : List za} (hL : ∀ b ∈ L, okBd n b) (r : Bool) : ∀ m, m <= L.length -> xd (rndD r L m s).d = (L.take m).foldl (BF.rlx (nI r) (nJ r) bW) (xd s.d)
 | 0, _ => rfl
 | m + 1, hm => by
  have ih := zzj hn hB hL r m (by omega)
  rw [z07 L m (by omega), List.foldl_append, <- ih]
  exact (zz4 hn (hB.rnd hn hL r m (by omega)) (hL _ (z1d (by omega) (by omega))) r).1
theorem y7c {n c : Nat} (hn : n <= 512) {s : DS} (hB : DB n c s) {L : List za} (hL : ∀ b ∈ L, okBd n b) (r : Bool) (hc : s.c = false) : ∀ m, m <= L.length -> (rndD r L m s).c = false -> rndD r L m s = s /\ ∀ k : Nat, k < m -> BF.imp (nI r) (nJ r) bW (xd s.d) (gt L (k : Int)) = false
 | 0, _, _ => ⟨rfl, fun k hk => by omega⟩
 | m + 1, hm, h => by
  obtain ⟨q1, q2, q3⟩ := zz4 hn (hB.rnd hn hL r m (by omega)) (hL _ (z1d (l := L) (i := (m : Int)) (by omega) (by omega))) r
  change (stpD r (gt L (m : Int)) (rndD r L m s)).c = false at h
  cases hi : BF.imp (nI r) (nJ r) bW (xd (rndD r L m s).d) (gt L (m : Int)) with
  | true => rw [q2 hi] at h; cases h
  | false =>
   have e := q3 hi
   rw [e] at h
   obtain ⟨e2, h4⟩ := y7c hn hB hL r hc m (by omega) h
   refine ⟨by change stpD r (gt L (m : Int)) (rndD r L m s) = s; rw [e, e2], fun k hk => ?_⟩
   by_cases hkm : k = m
   ·subst hkm; rw [e2] at hi; exact hi
   ·exact h4 k (by omega)
theorem zyn {r : Bool} {n : Nat} (hn : n <= 512) {L : List za} (hL : ∀ b ∈ L, okBd n b) {x0 : BF.X} (F : BF.Feas (nI r) (nJ r) bW x0 L n) : ∀ (f k c : Nat) (s : DS), DB n c s -> xd s.d = BF.rnds (nI r) (nJ r) bW L x0 k -> (s.c = false -> BF.Fix (nI r) (nJ r) bW L (xd s.d)) -> n <= k + f ->
  (runD r L f s).d.length = n /\ BF.Fix (nI r) (nJ r) bW L (xd (runD r L f s).d) /\ (∃ k', xd (runD r L f s).d = BF.rnds (nI r) (nJ r) bW L x0 k') /\ DB n (c + f * L.length) (runD r L f s)
 | 0, k, c, s, hB, hx, hc, hk => by
  refine ⟨hB.len, fun b hb => ?_, ⟨k, hx⟩, hB.up (by omega)⟩
  have := BF.done F (k := k) (by omega) b hb
  rw [<- hx] at this
  exact this
 | f + 1, k, c, s, hB, hx, hc, hk => by
  unfold runD
  split
  ·have hB1 : DB n c ⟨s.d, false⟩ := ⟨hB.len, hB.hi, hB.lo⟩
   have hr := zzj hn hB1 hL r L.length (Nat.le_refl _)
   rw [List.take_length] at hr
   have hr2 : xd (rndD r L L.length ⟨s.d, false⟩).d = BF.rnds (nI r) (nJ r) bW L x0 (k + 1) := by
    rw [hr, show xd (DS.mk s.d false).d = _ from hx]; rfl
   have := zyn hn hL F f (k + 1) (c + L.length) _ (hB1.rnd hn hL r L.length (Nat.le_refl _)) hr2 (fun h => by
    obtain ⟨e1, e2⟩ := y7c hn hB1 hL r rfl L.length (Nat.le_refl _) h
    intro b hb
    rw [e1]
    obtain ⟨i, hi, rfl⟩ := zgw hb
    exact e2 i hi) (by omega)
   refine ⟨this.1, this.2.1, this.2.2.1, this.2.2.2.up ?_⟩
   rw [Nat.add_mul, Nat.one_mul]; omega
  ·rename_i h
   exact ⟨hB.len, hc (by cases hq : s.c with | true => exact absurd hq h | false => rfl), ⟨k, hx⟩, hB.up (by omega)⟩
def d0 (n : Nat) (u : Int) : List Int := zz (List.replicate n farN) u 0
theorem yac {n : Nat} {u i : Int} (hu : 0 <= u) (hu' : u < (n : Int)) (h0 : 0 <= i) (h1 : i < (n : Int)) : gt (d0 n u) i = if i = u then 0 else farN := by
 unfold d0
 rw [z0q _ _ _ _ hu (by simpa using hu') h0, z3l _ _ _ h0 h1]
theorem y7t (n : Nat) (u : Int) : (d0 n u).length = n := by simp [d0, z1z]
theorem ydm {n : Nat} {u : Int} (hu : 0 <= u) (hu' : u < (n : Int)) : xd (d0 n u) = xs1 u.toNat := by
 funext v
 unfold xd xs1
 rw [y7t]
 by_cases hv : v < n
 ·rw [if_pos hv, yac hu hu' (by omega) (by omega)]
  by_cases e : (v : Int) = u
  ·rw [if_pos e, if_pos (by omega : v = u.toNat), if_pos (by decide)]
  ·rw [if_neg e, if_neg (by omega : ¬ v = u.toNat), if_neg (by decide)]
 ·rw [if_neg hv, if_neg (by omega)]
theorem yen {n : Nat} {u : Int} (hu : 0 <= u) (hu' : u < (n : Int)) : DB n 0 ⟨d0 n u, true⟩ := by
 have hc : cntF (d0 n u) = 1 := by
  unfold d0
  rw [zwf hu (by simpa using hu') (by decide), z3l _ _ _ hu hu', if_neg (by decide)]
  have : cntF (List.replicate n farN) = 0 := List.countP_eq_zero.2 fun a ha => by
   rw [List.mem_replicate] at ha
   rw [ha.2]; decide
  rw [this]
 refine ⟨y7t n u, fun i h0 h1 => ?_, fun i h0 h1 => ?_⟩
 ·simp only [hc]
  rw [yac hu hu' h0 h1]
  split
  ·right; omega
  ·left; rfl
 ·simp only
  rw [yac hu hu' h0 h1]
  split
  ·omega
  ·unfold farN; omega
theorem zmw {r : Bool} {n : Nat} (hn : n <= 512) {L : List za} (hL : ∀ b ∈ L, okBd n b) (hc : Conn L n) {p : Int -> Int} (hp : SolD r L p) {u : Int} (hu : 0 <= u) (hu' : u < (n : Int)) :
  (runD r L n ⟨d0 n u, true⟩).d.length = n /\ zr1 r L n u (gt (runD r L n ⟨d0 n u, true⟩).d) := by
 have F := ydr hL hp (u := u.toNat) (by omega)
 obtain ⟨h1, h2, ⟨k, h3⟩, h4⟩ := zyn hn hL F n 0 0 ⟨d0 n u, true⟩ (yen hu hu') (ydm hu hu') (fun h => by cases h) (by omega)
 obtain ⟨g1, g2⟩ := zwz hL hc hp (u := u.toNat) (by omega) h2 h3
 refine ⟨h1, ?_⟩
 have key : ∀ v : Int, 0 <= v -> v < (n : Int) -> ((xd (runD r L n ⟨d0 n u, true⟩).d) v.toNat).getD 0 = gt (runD r L n ⟨d0 n u, true⟩).d v := fun v q0 q1 => by
  have := g2 v.toNat (by omega)
  have e := ya0 (d := (runD r L n ⟨d0 n u, true⟩).d) q0 (by rw [h1]; exact q1)
  rw [e] at this ⊢
  split
  ·rfl
  ·rename_i hq; rw [if_neg hq] at this; cases this
 rw [show ((u.toNat : Nat) : Int) = u by omega] at g1
 refine ⟨fun b hb => ?_, fun q hq v v0 v1 => ?_, ?_⟩
 ·obtain ⟨a1, a2, a3, a4, _, _⟩ := zks (hL b hb) r
  have := g1.sat b hb
  rw [key _ a1 a2, key _ a3 a4] at this
  exact this
 ·have := g1.top q hq v v0 v1
  rw [key _ v0 v1] at this
  exact this
 ·have := g1.zero
  rw [key _ hu hu'] at this
  exact this
end Px
end
section
namespace Px
open Go
set_option linter.unusedVariables false
set_option linter.unusedSimpArgs false
structure TS where
 d : List Int
 kn : List Bool
 z : Int
def t0 (n : Nat) (u : Int) : TS := ⟨List.replicate n 0, zz (List.replicate n false) u true, -1⟩
end Px
end
section
namespace Px
open Go
set_option linter.unusedVariables false
set_option linter.unusedSimpArgs false
set_option maxHeartbeats 4000000
def y1o (fit : Bool) (x : Part) : Bool := !(((((decide ((x.kind : Int) < 1)) || (decide ((3 : Int) < x.kind))) || (decide ((x.serial : Int) < 0))) || (decide ((1073741824 : Int) < x.serial))) || (x.fitted && (!fit)))
theorem zax (φ : Nat) (l : List Part) (fit : Bool) (h : l.length <= 1000) (hφ : 1000 < φ) : zdr φ l fit = some (l.all (y1o fit) && decide ((l.length : Int) <= 16), ()) := by
 unfold zdr
 rw [zjs (fun n i => z5v φ n l fit l (l.length : Int) i) (some (decide ((l.length : Int) <= 16), ())) (some (false, ())) l (fun x => !y1o fit x) ?_ ?_ φ (by omega)]
 ·simp only [List.any_eq_not_all_not, Bool.not_not]
  cases l.all (y1o fit) <;> rfl
 ·intro n i hi
  rw [z5v, if_pos (by simp; omega), z8 ⟨by omega, by omega⟩, W_id (by omega) (by omega)]
  show _ = bif !!_ then _ else _
  rw [Bool.not_not]
  cases (((((decide (((gt l i).kind : Int) < 1)) || (decide ((3 : Int) < (gt l i).kind))) || (decide (((gt l i).serial : Int) < 0))) || (decide ((1073741824 : Int) < (gt l i).serial))) || ((gt l i).fitted && (!fit))) <;> rfl
 ·intro n; rw [z5v, if_neg (by simp)]
structure zqu (p : Pool) (it : Item) : Prop where
 kind : 1 <= it.kind /\ it.kind <= 15
 wagon : it.kind <= 9 -> 0 <= it.wagon /\ it.wagon < (p.fleet.wagons.length : Int)
 read : it.kind = 1 -> 0 <= it.other /\ it.other < (p.readers.length : Int)
 place : it.kind = 2 \/ it.kind = 3 \/ it.kind = 4 \/ it.kind = 6 \/ it.kind = 7 \/ it.kind = 9 -> 0 <= it.place /\ it.place < (p.network.places.length : Int)
 from_ : it.kind <= 9 -> 0 <= it.from_ /\ it.from_ <= 1073741824
 to : it.kind = 2 \/ it.kind = 9 -> it.from_ <= it.to /\ it.to <= 1073741824
theorem zup {ρ : Type} (c q : Bool) (K : Bool -> Option ρ) : ((z1n (default, ()) (c = true) (some (q, ()))).bind fun y => K (c && y.1)) = K (c && q) := by
 unfold z1n
 cases c <;> rfl
theorem zzy (p : Pool) (it : Item) (hparts : it.parts.length <= 1000) (hw : p.fleet.wagons.length <= 4096) (hr : p.readers.length <= 256) (hs : p.shippers.length <= 256) (hpl : p.network.places.length <= 512) (ht : p.fleet.types.length <= 32) :
  ∃ b, (∀ φ, 1000 < φ -> z2j φ p it = some (b, ())) /\ (b = true -> zqu p it) := by
 have w1 : W ((p.fleet.wagons.length : Int) - 1) = (p.fleet.wagons.length : Int) - 1 := W_id (by omega) (by omega)
 have w2 : W ((p.readers.length : Int) - 1) = (p.readers.length : Int) - 1 := W_id (by omega) (by omega)
 have w3 : W ((p.shippers.length : Int) - 1) = (p.shippers.length : Int) - 1 := W_id (by omega) (by omega)
 have w4 : W ((p.network.places.length : Int) - 1) = (p.network.places.length : Int) - 1 := W_id (by omega) (by omega)
 have w5 : W ((p.fleet.types.length : Int) - 1) = (p.fleet.types.length : Int) - 1 := W_id (by omega) (by omega)
 have hm : ∀ x z : Int, max2 x 0 <= z ↔ x <= z /\ 0 <= z := by intro x z; unfold max2; split <;> omega
 by_cases hk0 : it.kind < 1
 ·refine ⟨false, fun φ hφ => ?_, fun h => by cases h⟩
  unfold z2j zc
  rw [if_pos (by simp; omega), if_pos (by simpa using hk0)]
  simp
 by_cases hk16 : 15 < it.kind
 ·refine ⟨false, fun φ hφ => ?_, fun h => by cases h⟩
  have e : ∀ k : Int, k <= 15 -> (it.kind == k) = false := fun k hk => by simp; omega
  unfold z2j
  rw [if_neg (by simp; omega)]
  simp [e, z38, zc]
 have hcases : it.kind = 1 \/ it.kind = 2 \/ it.kind = 3 \/ it.kind = 4 \/ it.kind = 5 \/ it.kind = 6 \/ it.kind = 7 \/ it.kind = 8 \/ it.kind = 9 \/ it.kind = 10 \/ it.kind = 11 \/ it.kind = 12 \/ it.kind = 13 \/ it.kind = 14 \/ it.kind = 15 := by omega
 by_cases hin : 0 <= it.place /\ it.place < (p.network.places.length : Int)
 ·have e1 : (decide ((0 : Int) <= it.place) && decide ((it.place : Int) < (p.network.places.length : Int))) = true := by simp [hin]
  rcases hcases with hk | hk | hk | hk | hk | hk | hk | hk | hk | hk | hk | hk | hk | hk | hk
  case inr.inr.inr.inr.inr.inr.inr.inr.inl =>
   refine ⟨_, fun φ hφ => by
    unfold z2j
    simp only [hk, e1, z5d, z8 hin, w1, w2, w3, w4, w5, zax φ _ _ hparts hφ, Option.bind_some, Int.reduceLE, Int.reduceLT, Int.reduceBEq, decide_true, decide_false, if_true, Bool.false_eq_true, if_false]
    refine (zup _ _ (fun b => zc φ ⟨_, _, b⟩)).trans ?_
    unfold zc
    rfl, fun hb => ?_⟩
   simp only [Bool.and_eq_true, decide_eq_true_eq, hm, beq_iff_eq, bne_iff_ne, ne_eq, Bool.or_eq_true] at hb
   constructor <;> omega
  case inr.inr.inr.inr.inr.inr.inr.inr.inr.inl =>
   refine ⟨_, fun φ hφ => by
    unfold z2j
    simp only [hk, e1, z8 hin, w1, w2, w3, w4, w5, zax φ _ _ hparts hφ, Option.bind_some, Int.reduceLE, Int.reduceLT, Int.reduceBEq, decide_true, decide_false, if_true, Bool.false_eq_true, if_false]
    refine (zup _ _ (fun b => zc φ ⟨_, _, b⟩)).trans ?_
    unfold zc
    rfl, fun hb => ?_⟩
   constructor <;> omega
  all_goals
   refine ⟨_, fun φ hφ => by
    unfold z2j
    simp only [hk, e1, z6c, z54, z5h, z5c, z5g, z59, z38, z5f, zc, z8 hin, w1, w2, w3, w4, w5, Option.bind_some, Int.reduceLE, Int.reduceLT, Int.reduceBEq, Int.reduceBNe, Int.reduceNe, decide_true, decide_false, if_true, Bool.false_eq_true, if_false]
    rfl, fun hb => ?_⟩
   simp only [Bool.and_eq_true, decide_eq_true_eq, hm, beq_iff_eq, bne_iff_ne, ne_eq, Bool.or_eq_true] at hb
   constructor <;> omega
 ·have e1 : (decide ((0 : Int) <= it.place) && decide ((it.place : Int) < (p.network.places.length : Int))) = false := by
   rw [<- Bool.not_eq_true]; simpa using hin
  rcases hcases with hk | hk | hk | hk | hk | hk | hk | hk | hk | hk | hk | hk | hk | hk | hk
  case inr.inr.inr.inr.inr.inr.inr.inr.inl =>
   refine ⟨_, fun φ hφ => by
    unfold z2j
    simp only [hk, e1, z5d, w1, w2, w3, w4, w5, zax φ _ _ hparts hφ, Option.bind_some, Int.reduceLE, Int.reduceLT, Int.reduceBEq, decide_true, decide_false, if_true, Bool.false_eq_true, if_false]
    refine (zup _ _ (fun b => zc φ ⟨_, _, b⟩)).trans ?_
    unfold zc
    rfl, fun hb => ?_⟩
   simp at hb
  case inr.inr.inr.inr.inr.inr.inr.inr.inr.inl =>
   refine ⟨_, fun φ hφ => by
    unfold z2j
    simp only [hk, e1, w1, w2, w3, w4, w5, zax φ _ _ hparts hφ, Option.bind_some, Int.reduceLE, Int.reduceLT, Int.reduceBEq, decide_true, decide_false, if_true, Bool.false_eq_true, if_false]
    refine (zup _ _ (fun b => zc φ ⟨_, _, b⟩)).trans ?_
    unfold zc
    rfl, fun hb => ?_⟩
   constructor <;> omega
  all_goals
   refine ⟨_, fun φ hφ => by
    unfold z2j
    simp only [hk, e1, z6c, z54, z5h, z5c, z5g, z59, z38, z5f, zc, w1, w2, w3, w4, w5, Option.bind_some, Int.reduceLE, Int.reduceLT, Int.reduceBEq, Int.reduceBNe, Int.reduceNe, decide_true, decide_false, if_true, Bool.false_eq_true, if_false]
    rfl, fun hb => ?_⟩
   simp only [Bool.and_eq_true, decide_eq_true_eq, hm, beq_iff_eq, bne_iff_ne, ne_eq, Bool.or_eq_true] at hb
   first | (constructor <;> omega) | (simp at hb; done) | (simp at hb; constructor <;> omega)
def zet (p : Pool) (it : Item) : Bool := ((z2j 2000 p it).getD (false, ())).1
def y6u (it : Item) : Bool := ((z6d 0 it).getD (false, ())).1
theorem zrh (φ : Nat) (it : Item) : z6d φ it = some (y6u it, ()) := by
 unfold y6u z6d
 split <;> rfl
def zcy (p : Pool) (it : Item) : Bool := y6u it && zet p it
theorem zre {p : Pool} (hc : z01 p = 0) {it : Item} (hparts : it.parts.length <= 1000) : (∀ φ, 1000 < φ -> z2j φ p it = some (zet p it, ())) /\ (zet p it = true -> zqu p it) := by
 obtain ⟨hn, hf, h1, h2, h3, hb⟩ := z9c hc
 obtain ⟨n1, n2, _, _⟩ := zkv hn
 obtain ⟨f1, f2, _⟩ := zab hf
 obtain ⟨b, hφ, hok⟩ := zzy p it hparts f2 h1 h2 n1 f1
 have : zet p it = b := by unfold zet; rw [hφ 2000 (by omega)]; rfl
 rw [this]
 exact ⟨hφ, hok⟩
theorem zsg (φ : Nat) (hφ : 800000 < φ) {p : Pool} (hc : z01 p = 0) {it : Item} (hparts : it.parts.length <= 1000) : zg6 φ p it = some (bif zcy p it then 0 else 110, ()) := by
 unfold zg6 zcy
 rw [zav φ hφ, Option.bind_some, if_neg (by simp [hc]), zrh, Option.bind_some]
 cases y6u it with
 | false => rfl
 | true =>
  rw [gz_t (by simp), (zre hc hparts).1 φ (by omega), Option.bind_some]
  cases zet p it <;> rfl
theorem zea {p : Pool} (hc : z01 p = 0) {it : Item} (hparts : it.parts.length <= 1000) (h : zcy p it = true) : zqu p it := by
 simp only [zcy, Bool.and_eq_true] at h
 exact (zre hc hparts).2 h.2
end Px
end
section
namespace Px
open Go
set_option linter.unusedVariables false
set_option linter.unusedSimpArgs false
theorem zfj {n b : Nat} (h : n <= 100000) (hb : b <= 1000) : fits n b := by
 unfold fits
 have : n * b <= 100000 * 1000 := Nat.mul_le_mul h hb
 omega
def z4y (r : z7) (place time : Int) : z0r := ⟨r.item.wagon, place, r.ref, false, time, time⟩
def evs (p : Pool) (r : z7) (i : Int) : List z6 :=
 if r.item.kind = 1 then [⟨z4y r (gt p.readers r.item.other).place r.item.from_, i, false, false, r.item.other⟩]
 else if r.item.kind = 2 \/ r.item.kind = 9 then [⟨z4y r r.item.place r.item.from_, i, false, true, -1⟩, ⟨z4y r r.item.place r.item.to, i, true, true, -1⟩]
 else if r.item.kind = 3 \/ r.item.kind = 4 \/ r.item.kind = 6 \/ r.item.kind = 7 then [⟨z4y r r.item.place r.item.from_, i, false, false, -1⟩] else []
theorem zul (φ : Nat) (p : Pool) (r : z7) (i : Int) (h : r.item.kind = 1 -> 0 <= r.item.other /\ r.item.other < (p.readers.length : Int)) : z0m φ p r i = some (evs p r i, ()) := by
 by_cases h1 : r.item.kind = 1
 ·have h' := h h1
  simp [z0m, evs, h1, z8 h', zr, z4y]
 by_cases h2 : r.item.kind = 2
 ·simp [z0m, evs, h2, z03, z23, z20, zr, z4y]
 by_cases h9 : r.item.kind = 9
 ·simp [z0m, evs, h9, z03, z23, z20, zr, z4y]
 by_cases h3 : r.item.kind = 3
 ·simp [z0m, evs, h3, z03, z04, zr, z4y]
 by_cases h4 : r.item.kind = 4
 ·simp [z0m, evs, h4, z03, z04, zr, z4y]
 by_cases h6 : r.item.kind = 6
 ·simp [z0m, evs, h6, z03, z04, zr, z4y]
 by_cases h7 : r.item.kind = 7
 ·simp [z0m, evs, h7, z03, z04, zr, z4y]
 ·simp [z0m, evs, h1, h2, h9, h3, h4, h6, h7, z03, z04]
theorem z7l {p : Pool} {r : z7} {i : Int} {x : z6} (h : x ∈ evs p r i) : x.report = i /\ x.visit.wagon = r.item.wagon /\ x.visit.ref = r.ref := by
 unfold evs at h
 split at h
 ·simp only [List.mem_singleton] at h; subst h; exact ⟨rfl, rfl, rfl⟩
 ·split at h
  ·simp only [List.mem_cons, List.not_mem_nil, or_false] at h
   rcases h with rfl | rfl <;> exact ⟨rfl, rfl, rfl⟩
  ·split at h
   ·simp only [List.mem_singleton] at h; subst h; exact ⟨rfl, rfl, rfl⟩
   ·cases h
theorem zto (p : Pool) (r : z7) (i : Int) : (evs p r i).length <= 2 := by
 unfold evs
 split
 ·simp
 ·split
  ·simp
  ·split <;> simp
theorem ycy (p : Pool) (r : z7) (i : Int) : (evs p r i).Pairwise fun a b => a.report ≠ b.report \/ a.second ≠ b.second := by
 unfold evs
 split
 ·simp
 ·split
  ·simp
  ·split <;> simp
def cntN (p : Pool) (l : List z7) (n : Nat) : List Int := ((List.range n).filter fun (i : Nat) => zcy p (gt l (i : Int)).item).map fun (i : Nat) => (i : Int)
def cnt (p : Pool) (l : List z7) : List Int := cntN p l l.length
theorem zqw (p : Pool) (l : List z7) (n : Nat) : cntN p l (n + 1) = cntN p l n ++ (bif zcy p (gt l (n : Int)).item then [(n : Int)] else []) := by
 unfold cntN
 rw [List.range_succ, List.filter_append, List.map_append]
 congr 1
 cases h : zcy p (gt l (n : Int)).item <;> simp [h]
theorem zgb (p : Pool) (l : List z7) (n : Nat) : (cntN p l n).length <= n := by
 unfold cntN
 rw [List.length_map]
 exact Nat.le_trans (List.length_filter_le _ _) (by simp)
theorem y1q {p : Pool} {l : List z7} {i : Int} (h : i ∈ cnt p l) : 0 <= i /\ i < (l.length : Int) /\ zcy p (gt l i).item = true := by
 simp only [cnt, cntN, List.mem_map, List.mem_filter, List.mem_range] at h
 obtain ⟨n, ⟨h1, h2⟩, rfl⟩ := h
 exact ⟨by omega, by omega, h2⟩
theorem ybm (p : Pool) (l : List z7) : (cnt p l).Pairwise (· < ·) := by
 unfold cnt cntN
 rw [List.pairwise_map]
 refine (List.pairwise_lt_range.filter _).imp ?_
 intro a b h
 omega
structure FewL (l : List z7) : Prop where
 len : l.length <= 1000
 parts : ∀ r ∈ l, r.item.parts.length <= 1000
theorem FewL.gt {l : List z7} (h : FewL l) {i : Int} (h0 : 0 <= i) (hi : i < (l.length : Int)) : (Px.gt l i).item.parts.length <= 1000 := h.parts _ (z1d h0 hi)
theorem zxr (φ : Nat) (hφ : 800000 < φ) {p : Pool} (hc : z01 p = 0) {l : List z7} (hl : FewL l) : z8x φ p l = some (cnt p l, ()) := by
 have h1 := hl.len
 unfold z8x
 refine zp (fun n i acc => z2a φ n l (l.length : Int) i p acc) l.length (fun i acc => acc = cntN p l i) (fun o => o = some (cnt p l, ())) ?_ ?_ φ [] rfl (by omega)
 ·intro n i acc hi hacc hs
  rw [z2a, if_pos (by simp; omega), z8 ⟨by omega, by omega⟩, zsg φ hφ hc (hl.gt (by omega) (by omega)), Option.bind_some, W_id (by omega) (by omega)]
  have hs' := hs (cntN p l (i + 1)) rfl
  rw [zqw] at hs'
  cases h : zcy p (gt l (i : Int)).item with
  | true =>
   rw [h] at hs'
   rw [if_pos (by rfl), z8 (zfj (by have := zgb p l i; rw [hacc]; simp; omega) (by omega)), hacc]
   exact hs'
  | false =>
   rw [h] at hs'
   simp only [cond_false, List.append_nil] at hs'
   rw [if_neg (by decide), hacc]
   exact hs'
 ·intro n acc hacc
  rw [z2a, if_neg (by simp), hacc]; rfl
def unsC (p : Pool) (l : List z7) (c : List Int) (w : Int) : List z6 := c.flatMap fun i => if (gt l i).item.wagon = w then evs p (gt l i) i else []
def uns (p : Pool) (l : List z7) (w : Int) : List z6 := unsC p l (cnt p l) w
theorem zgf (p : Pool) (l : List z7) (w : Int) : ∀ c : List Int, (unsC p l c w).length <= 2 * c.length
 | [] => by simp [unsC]
 | i :: c => by
  have := zgf p l w c
  have h2 := zto p (gt l i) i
  unfold unsC at *
  rw [List.flatMap_cons, List.length_append, List.length_cons]
  split
  ·omega
  ·simp only [List.length_nil]; omega
theorem zzc {a b : z6} (h : a.report ≠ b.report \/ a.second ≠ b.second) : cfEv a b < 0 \/ cfEv b a < 0 := by
 rw [zb5, zb5]
 have h2 : a.second ≠ b.second -> ordB a.second ≠ ordB b.second := by
  cases a.second <;> cases b.second <;> simp [ordB]
 by_cases hs : a.second = b.second
 ·have h3 := h.resolve_right (fun q => q hs)
  rw [hs]; omega
 ·have := h2 hs
  omega
theorem y7e (p : Pool) (l : List z7) (w : Int) : (uns p l w).Pairwise fun a b => a.report ≠ b.report \/ a.second ≠ b.second := by
 unfold uns unsC
 rw [List.pairwise_flatMap]
 refine ⟨fun i hi => ?_, (ybm p l).imp ?_⟩
 ·split
  ·exact ycy _ _ _
  ·exact List.Pairwise.nil
 ·intro i j hij x hx y hy
  split at hx
  ·split at hy
   ·rw [(z7l hx).1, (z7l hy).1]
    exact .inl (by omega)
   ·cases hy
  ·cases hx
theorem zfe {p : Pool} {l : List z7} (hl : l.length <= 1000) {w : Int} {x : z6} (h : x ∈ uns p l w) : 0 <= x.report /\ x.report < (l.length : Int) /\ x.visit.wagon = w /\ zcy p (gt l x.report).item = true /\ x ∈ evs p (gt l x.report) x.report := by
 simp only [uns, unsC, List.mem_flatMap] at h
 obtain ⟨i, hi, hx⟩ := h
 obtain ⟨h1, h2, h3⟩ := y1q hi
 split at hx
 ·rename_i hw
  obtain ⟨r1, r2, r3⟩ := z7l hx
  rw [r1]
  exact ⟨h1, h2, by rw [r2, hw], h3, hx⟩
 ·cases hx
def ltEv (a b : z6) : Bool := decide (cfEv a b < 0)
def srt (p : Pool) (l : List z7) (w : Int) : List z6 := ze7 ltEv (uns p l w)
theorem zxz {p : Pool} {l : List z7} (hl : l.length <= 1000) (w : Int) : sortEv (uns p l w) = some (srt p l w) := by
 refine y6t (fun y hy => ?_) ?_ ((y7e p l w).imp fun h => zzc h)
 ·obtain ⟨h1, h2, _⟩ := zfe hl hy
  simp only [okEv, decide_eq_true_eq]; omega
 ·have := zgf p l w (cnt p l)
  have h2 := zgb p l l.length
  unfold uns cnt at *
  omega
def covM (e : z6) (m : List (Int × Bool)) : List (Int × Bool) := if (e.stay && e.second) = true then mdel m e.report else if e.stay = true then mset m e.report true else m
def zb2 (e : z6) (b : Bool) : z6 := ⟨⟨e.visit.wagon, e.visit.place, e.visit.ref, b, e.visit.early, e.visit.late⟩, e.report, e.second, e.stay, e.reader⟩
def zfd : List z6 -> List (Int × Bool) -> List z6
 | [], _ => []
 | e :: t, m => zb2 e (decide ((0 : Int) < ((covM e m).length : Int))) :: zfd t (covM e m)
theorem zbj : ∀ (t : List z6) (m : List (Int × Bool)), (zfd t m).length = t.length
 | [], _ => rfl
 | e :: t, m => by simp [zfd, zbj t]
def z1l (p : Pool) (l : List z7) (w : Int) : List z6 := zfd (srt p l w) []
theorem y1s {α : Type} (a : List α) (x y : α) (b : List α) : zz (a ++ x :: b) (a.length : Int) y = a ++ y :: b := by
 simp [zz]
theorem y7g {α : Type} [Inhabited α] (a : List α) (x : α) (b : List α) : gt (a ++ x :: b) (a.length : Int) = x := by
 simp [gt]
theorem zy2 (φ : Nat) (k : Int -> Int -> List (List z6) -> Option ((List (List z6)) × Unit)) (x19 x20 x24 : Int) (x23 : List (List z6)) :
  ∀ (n : Nat) (done todo : List z6) (m : List (Int × Bool)), todo.length < n -> done.length + todo.length <= 100000 ->
   z0o φ k n ((done.length + todo.length : Nat) : Int) (done.length : Int) x19 x20 (done ++ todo) m x23 x24 = k x19 (W (x20 + 1)) (zz x23 x24 (done ++ zfd todo m)) := by
 intro n
 induction n with
 | zero => intro d t m h _; omega
 | succ n ih =>
  intro d t m hn hl
  cases t with
  | nil =>
   rw [z0o, if_neg (by simp)]
   rfl
  | cons e t =>
   simp only [List.length_cons] at hn hl
   have hin : (0 : Int) <= (d.length : Int) /\ (d.length : Int) < ((d ++ e :: t).length : Int) := ⟨by omega, by simp; omega⟩
   have key : ∀ m', z2y φ (z0o φ k n) (d.length : Int) ((d.length + (e :: t).length : Nat) : Int) (d.length : Int) x19 x20 (d ++ e :: t) m' x23 x24 =
     k x19 (W (x20 + 1)) (zz x23 x24 (d ++ zb2 e (decide ((0 : Int) < (m'.length : Int))) :: zfd t m')) := by
    intro m'
    unfold z2y
    rw [z8 hin, y7g, W_id (by omega) (by omega), y1s]
    have := ih (d ++ [zb2 e (decide ((0 : Int) < (m'.length : Int)))]) t m' (by omega) (by simp; omega)
    simp only [List.length_append, List.length_cons, List.length_nil, List.append_assoc, List.cons_append, List.nil_append] at this
    rw [show ((d.length + (e :: t).length : Nat) : Int) = ((d.length + (0 + 1) + t.length : Nat) : Int) by simp; omega, show (d.length : Int) + 1 = ((d.length + (0 + 1) : Nat) : Int) by omega]
    exact this
   rw [z0o, if_pos (by simp; omega), z8 hin, z8 (fun _ => hin), y7g]
   have hg : ∀ m', covM e m = m' -> zfd (e :: t) m = zb2 e (decide ((0 : Int) < (m'.length : Int))) :: zfd t m' := fun m' hm => by subst hm; rfl
   by_cases h1 : (e.stay && e.second) = true
   ·rw [if_pos h1, z8 hin, key, hg _ (if_pos h1)]
   ·rw [if_neg h1, z8 hin]
    by_cases h2 : e.stay = true
    ·rw [if_pos h2, z8 hin, key, hg (mset m e.report true) (by unfold covM; rw [if_neg h1, if_pos h2])]
    ·rw [if_neg h2, key, hg m (by unfold covM; rw [if_neg h1, if_neg h2])]
theorem zzd (φ : Nat) (hφ : 800000 < φ) {p : Pool} (hc : z01 p = 0) {l : List z7} (hl : FewL l) : zaw φ p l = some ((List.range p.fleet.wagons.length).map fun (w : Nat) => z1l p l (w : Int), ()) := by
 have h1 := hl.len
 obtain ⟨_, hf, _⟩ := z9c hc
 obtain ⟨_, f2, _⟩ := zab hf
 have hcl := zgb p l l.length
 unfold zaw
 rw [z8 (mk_t _ _ (by omega) (by omega) (by omega)), zxr φ hφ hc hl, Option.bind_some]
 generalize hn0 : p.fleet.wagons.length = n0 at *
 have second : ∀ out : List (List z6), out.length = n0 -> (∀ w : Nat, w < n0 -> gt out (w : Int) = uns p l w) -> z19 φ φ (out.length : Int) 0 out = some ((List.range n0).map fun (w : Nat) => z1l p l (w : Int), ()) := by
  intro out ho hu
  rw [ho]
  refine zp (fun n i o => z19 φ n (n0 : Int) i o) n0 (fun i o => o.length = n0 /\ ∀ w : Nat, w < n0 -> gt o (w : Int) = if w < i then z1l p l w else uns p l w) (fun o => o = some ((List.range n0).map fun (w : Nat) => z1l p l (w : Int), ())) ?_ ?_ φ out ⟨ho, fun w hw => by rw [hu w hw, if_neg (by omega)]⟩ (by omega)
  ·intro n i o hi ⟨ho1, ho2⟩ hs
   rw [z19, if_pos (by simp; omega), z8 ⟨by omega, by omega⟩, z8 ⟨by omega, by omega⟩, z8 rfl, ho2 i hi, if_neg (by omega), zxz h1, Option.bind_some]
   have hsl : (srt p l (i : Int)).length <= 2000 := by
    rw [srt, (z1h _ _).length_eq]
    have := zgf p l i (cnt p l)
    unfold uns cnt at *
    omega
   have := zy2 φ (z19 φ n) (n0 : Int) (i : Int) (i : Int) o φ [] (srt p l (i : Int)) [] (by omega) (by simp; omega)
   simp only [List.length_nil, Nat.zero_add, List.nil_append] at this
   refine this.trans ?_
   rw [W_id (by omega) (by omega)]
   refine hs _ ⟨by rw [z1z]; exact ho1, fun w hw => ?_⟩
   rw [z0q _ _ _ _ (by omega) (by omega) (by omega)]
   by_cases e : w = i
   ·subst e; rw [if_pos rfl, if_pos (by omega)]; rfl
   ·rw [if_neg (by omega), ho2 w hw]
    by_cases h2 : w < i
    ·rw [if_pos h2, if_pos (by omega)]
    ·rw [if_neg h2, if_neg (by omega)]
  ·intro n o ⟨ho1, ho2⟩
   rw [z19, if_neg (by simp)]
   congr 2
   refine List.ext_getElem (by simp [ho1]) fun w hw hw2 => ?_
   have := ho2 w (by omega)
   rw [z1g hw, if_pos (by omega)] at this
   simpa using this
 refine zp (fun n i o => z29 φ n l (cnt p l) ((cnt p l).length : Int) i p o) (cnt p l).length (fun i o => o.length = n0 /\ ∀ w : Nat, w < n0 -> gt o (w : Int) = unsC p l ((cnt p l).take i) w) (fun o => o = some ((List.range n0).map fun (w : Nat) => z1l p l (w : Int), ())) ?_ ?_ φ _ ⟨by simp, fun w hw => ?_⟩ (by unfold cnt; omega)
 ·intro n i o hi ⟨ho1, ho2⟩ hs
  have hmem : gt (cnt p l) (i : Int) ∈ cnt p l := z1d (by omega) (by omega)
  obtain ⟨c1, c2, c3⟩ := y1q hmem
  have hI := zea hc (hl.gt c1 c2) c3
  have hcn : (cnt p l).length <= 1000 := by unfold cnt; omega
  rw [z29, if_pos (by simp; omega), z8 ⟨by omega, by omega⟩, z8 ⟨c1, c2⟩, zul φ p _ _ hI.read, Option.bind_some]
  have hW : W ((i : Int) + 1) = (i : Int) + 1 := W_id (by omega) (by omega)
  have htake : ∀ w, unsC p l ((cnt p l).take (i + 1)) w = unsC p l ((cnt p l).take i) w ++ (if (gt l (gt (cnt p l) (i : Int))).item.wagon = w then evs p (gt l (gt (cnt p l) (i : Int))) (gt (cnt p l) (i : Int)) else []) := by
   intro w
   rw [z07 _ _ hi]
   simp [unsC]
  generalize gt (cnt p l) (i : Int) = ci at *
  generalize hev : evs p (gt l ci) ci = E at *
  have hE : E.length <= 2 := by rw [<- hev]; exact zto _ _ _
  simp only []
  by_cases h0 : 0 < E.length
  ·have hkind : (gt l ci).item.kind <= 9 := by
    rcases Int.lt_or_le 9 (gt l ci).item.kind with h | h
    ·exfalso
     have : E = [] := by
      rw [<- hev]; unfold evs
      rw [if_neg (by omega), if_neg (by omega), if_neg (by omega)]
     rw [this] at h0; simp at h0
    ·exact h
   have hwg := hI.wagon hkind
   rw [hn0] at hwg
   obtain ⟨w0, hw0⟩ : ∃ w0 : Nat, (gt l ci).item.wagon = (w0 : Int) := ⟨(gt l ci).item.wagon.toNat, by omega⟩
   rw [hw0] at hwg htake ⊢
   have hwg' : (0 : Int) <= (w0 : Int) /\ (w0 : Int) < (o.length : Int) := ⟨by omega, by omega⟩
   have hul := zgf p l w0 ((cnt p l).take i)
   rw [if_pos (by simpa using h0), z8 ⟨c1, c2⟩, z8 hwg', z8 hwg', z8 trivial, ho2 w0 (by omega),
    z8 (zfj (by rw [List.length_take] at hul; omega) (by omega)), z8 hwg', z8 trivial, hW]
   refine hs _ ⟨by rw [z1z]; exact ho1, fun w hw => ?_⟩
   rw [z0q _ _ _ _ (by omega) (by omega) (by omega), htake]
   by_cases e : (w : Int) = (w0 : Int)
   ·rw [if_pos e, e, if_pos rfl]
   ·rw [if_neg e, if_neg (fun q => e q.symm), List.append_nil, ho2 w hw]
  ·have hnil : E = [] := List.eq_nil_of_length_eq_zero (by omega)
   rw [if_neg (by simpa using h0), hW]
   refine hs _ ⟨ho1, fun w hw => ?_⟩
   rw [htake, hnil, ho2 w hw]
   split <;> simp
 ·intro n o ⟨ho1, ho2⟩
  rw [z29, if_neg (by simp)]
  refine second o ho1 fun w hw => ?_
  rw [ho2 w hw, List.take_length]; rfl
 ·rw [z3l _ _ _ (by omega) (by simp; omega)]
  simp [unsC]
  rfl
end Px
end
section
namespace Px
open Go
set_option linter.unusedVariables false
set_option linter.unusedSimpArgs false
theorem zbi (m : List (Int × Int)) (a v c : Int) : mget (mset m a v) c = if c = a then some v else mget m c := by
 induction m with
 | nil =>
  show (bif c == a then some v else none) = _
  by_cases h : c = a
  ·rw [if_pos h]; simp [h]
  ·rw [if_neg h]
   have : (c == a) = false := by simpa using h
   rw [this]; rfl
 | cons p m ih =>
  obtain ⟨k, w⟩ := p
  show mget (bif a == k then (a, v) :: m else (k, w) :: mset m a v) c = _
  have e1 : mget ((k, w) :: m) c = bif c == k then some w else mget m c := rfl
  by_cases h1 : a = k
  ·subst h1
   simp only [beq_self_eq_true, cond_true]
   show (bif c == a then some v else mget m c) = _
   rw [e1]
   by_cases h : c = a
   ·rw [if_pos h]; simp [h]
   ·rw [if_neg h]
    have : (c == a) = false := by simpa using h
    rw [this]; rfl
  ·have : (a == k) = false := by simpa using h1
   rw [this]
   show (bif c == k then some w else mget (mset m a v) c) = _
   rw [ih, e1]
   by_cases h2 : c = k
   ·subst h2
    have h3 : ¬ c = a := fun e => h1 e.symm
    simp [h3]
   ·have : (c == k) = false := by simpa using h2
    rw [this]; rfl
theorem zyk {p : Pool} {l : List z7} (hl : l.length <= 1000) (w : Int) : (z1l p l w).length <= 2000 := by
 unfold z1l
 rw [zbj, srt, (z1h _ _).length_eq]
 have := zgf p l w (cnt p l)
 have := zgb p l l.length
 unfold uns cnt at *
 omega
end Px
end
section
namespace Px
open Go
set_option linter.unusedVariables false
set_option linter.unusedSimpArgs false
theorem y0c (φ : Nat) (hφ : 800000 < φ) (x : zg) (a b : z0r) : ∃ t, z2z φ x a b = some (t, ()) /\ 0 <= t /\ t <= 1073741825 := by
 unfold z2z
 split
 ·exact ⟨_, rfl, by omega, by omega⟩
 ·obtain ⟨t, e, h, h1, h2⟩ := zn3 φ hφ x a.place b.place
  rw [h, Option.bind_some]
  split
  ·exact ⟨_, rfl, by omega, by omega⟩
  ·exact ⟨_, rfl, h1, by omega⟩
def tvl (φ : Nat) (x : zg) (a b : z0r) : Int := ((z2z φ x a b).getD default).1
theorem y7a (φ : Nat) (hφ : 800000 < φ) (x : zg) (a b : z0r) : z2z φ x a b = some (tvl φ x a b, ()) /\ 0 <= tvl φ x a b /\ tvl φ x a b <= 1073741825 := by
 obtain ⟨t, h, h1, h2⟩ := y0c φ hφ x a b
 unfold tvl
 rw [h]
 exact ⟨rfl, h1, h2⟩
def y0 : Nat -> Ref := fun _ => (default : Ref)
def y1 (r : Ref) : Nat -> Ref := upd (fun _ => (default : Ref)) 0 r
def y2 (r q : Ref) : Nat -> Ref := upd (upd (fun _ => (default : Ref)) 0 r) 1 q
def zww (m : List (Int × Int)) (e : z6) : List (Int × Int) := if 0 <= e.reader then mset m e.reader 0 else m
def zmq (m : List (Int × Int)) (t : List z6) : List (Int × Int) := t.foldl zww m
def used (ts : List (List z6)) : List (Int × Int) := ts.foldl zmq []
structure BS where
 v : Int
 b : List za
 y : List (Nat -> Ref)
 e : List z1r
structure RS where
 v : Int
 m : List (Int × Int)
 b : List za
 y : List (Nat -> Ref)
def ziv (rs : List z18) (i : Nat) (s : RS) : RS :=
 if (mget s.m (i : Int)).isSome = true then ⟨s.v + 1, mset s.m (i : Int) s.v, s.b ++ [⟨0, s.v, 0 - (gt rs (i : Int)).low⟩, ⟨s.v, 0, (gt rs (i : Int)).high⟩], s.y ++ [y0, y0]⟩ else s
def rdsN (rs : List z18) (m : List (Int × Int)) : Nat -> RS
 | 0 => ⟨1, m, [], []⟩
 | n + 1 => ziv rs n (rdsN rs m n)
def rv (m : List (Int × Int)) (e : z6) : Int := (mget m e.reader).getD default
def evB (m : List (Int × Int)) (v : Int) (e : z6) : List za :=
 if e.reader < 0 then [⟨0, v, e.visit.early⟩, ⟨v, 0, 0 - e.visit.early⟩]
 else [⟨rv m e, v, e.visit.early⟩, ⟨v, rv m e, 0 - e.visit.early⟩, ⟨0, v, 1073741824⟩, ⟨v, 0, 0⟩]
def evY (e : z6) : List (Nat -> Ref) := List.replicate (if e.reader < 0 then 2 else 4) (y1 e.visit.ref)
def trB (tv : z0r -> z0r -> Int) (v : Int) (pr : Option z0r) (e : z6) : List za :=
 match pr with
 | none => []
 | some a => [⟨v, v - 1, 0 - tv a e.visit⟩]
def trY (pr : Option z0r) (e : z6) : List (Nat -> Ref) :=
 match pr with
 | none => []
 | some a => [y2 a.ref e.visit.ref]
def zbd (tv : z0r -> z0r -> Int) (m : List (Int × Int)) (pr : Option z0r) (e : z6) (s : BS) : BS :=
 ⟨s.v + 1, s.b ++ evB m s.v e ++ trB tv s.v pr e, s.y ++ evY e ++ trY pr e, s.e ++ [⟨e.visit.wagon, e.visit.place, s.v, e.visit.ref, e.visit.stay⟩]⟩
def bEv (tv : z0r -> z0r -> Int) (m : List (Int × Int)) : Option z0r -> List z6 -> BS -> BS
 | _, [], s => s
 | pr, e :: t, s => bEv tv m (some e.visit) t (zbd tv m pr e s)
def bAll (tv : z0r -> z0r -> Int) (rs : List z18) (ts : List (List z6)) : BS :=
 ts.foldl (fun s t => bEv tv (rdsN rs (used ts) rs.length).m none t s) ⟨(rdsN rs (used ts) rs.length).v, (rdsN rs (used ts) rs.length).b, (rdsN rs (used ts) rs.length).y, []⟩
def bEnd (s : BS) : z1x × Int × Unit := if 512 < s.v \/ 4096 < s.b.length then (⟨0, [], [], []⟩, 2, ()) else (⟨s.v, s.b, s.y, s.e⟩, 0, ())
def ze (p : Pool) (l : List z7) : List (List z6) := (List.range p.fleet.wagons.length).map fun (w : Nat) => z1l p l (w : Int)
theorem z8i (rs : List z18) (m : List (Int × Int)) : ∀ n, 1 <= (rdsN rs m n).v /\ (rdsN rs m n).v <= 1 + n /\ (rdsN rs m n).b.length <= 2 * n /\ (rdsN rs m n).y.length <= 2 * n
 | 0 => ⟨by simp [rdsN], by simp [rdsN], by simp [rdsN], by simp [rdsN]⟩
 | n + 1 => by
  obtain ⟨h1, h2, h3, h4⟩ := z8i rs m n
  simp only [rdsN, ziv]
  split
  ·refine ⟨?_, ?_, ?_, ?_⟩ <;> simp <;> omega
  ·refine ⟨?_, ?_, ?_, ?_⟩ <;> omega
theorem y8z (m : List (Int × Int)) (v : Int) (e : z6) : (evB m v e).length <= 4 := by
 unfold evB; split <;> simp
theorem yba (e : z6) : (evY e).length <= 4 := by
 unfold evY; split <;> simp
theorem y93 (tv : z0r -> z0r -> Int) (v : Int) (pr : Option z0r) (e : z6) : (trB tv v pr e).length <= 1 := by
 cases pr <;> simp [trB]
theorem y8p (pr : Option z0r) (e : z6) : (trY pr e).length <= 1 := by
 cases pr <;> simp [trY]
structure BB (n : Nat) (s : BS) : Prop where
 v0 : 1 <= s.v
 v1 : s.v <= 257 + n
 b : s.b.length <= 512 + 5 * n
 y : s.y.length <= 512 + 5 * n
 e : s.e.length <= n
theorem BB.step {n : Nat} {s : BS} (h : BB n s) (tv m pr e) : BB (n + 1) (zbd tv m pr e s) := by
 have h1 := y8z m s.v e
 have h2 := yba e
 have h3 := y93 tv s.v pr e
 have h4 := y8p pr e
 obtain ⟨a, b, c, d, f⟩ := h
 unfold zbd
 constructor
 ·show 1 <= s.v + 1; omega
 ·show s.v + 1 <= 257 + ((n + 1 : Nat) : Int); omega
 ·show (s.b ++ evB m s.v e ++ trB tv s.v pr e).length <= _
  rw [List.length_append, List.length_append]; omega
 ·show (s.y ++ evY e ++ trY pr e).length <= _
  rw [List.length_append, List.length_append]; omega
 ·show (s.e ++ [_]).length <= _
  rw [List.length_append]; simp; omega
theorem BB.ev (tv m) : ∀ (t : List z6) (n : Nat) (pr : Option z0r) (s : BS), BB n s -> BB (n + t.length) (bEv tv m pr t s)
 | [], n, pr, s, h => h
 | e :: t, n, pr, s, h => by
  have := BB.ev tv m t (n + 1) (some e.visit) (zbd tv m pr e s) (h.step tv m pr e)
  rw [show n + (e :: t).length = n + 1 + t.length by simp; omega]
  exact this
section
variable (φ : Nat)
theorem yef (hφ : 10 < φ) (k) (x55 x56 x57 x58 x59 x60 x61 x62 x63 x64 x65 x66 x67 x68) (B : List za) (x70 x71 x72 x73) (b : List za) (y : List (Nat -> Ref)) (x76 x77 x78 x79) (hB : B.length <= 4) (hb : b.length <= 50000000) (hy : y.length <= 50000000) :
  z2r φ k φ (B.length : Int) 0 x55 x56 x57 x58 x59 x60 x61 x62 x63 x64 x65 x66 x67 x68 B x70 x71 x72 x73 b y x76 x77 x78 x79 = k x55 x56 x57 (W (x58 + 1)) x70 x71 (W (x67 + 1)) x72 x77 x78 x79 (b ++ B) (y ++ List.replicate B.length x68) x76 := by
 refine zp (fun n i (s : List za × List (Nat -> Ref)) => z2r φ k n (B.length : Int) i x55 x56 x57 x58 x59 x60 x61 x62 x63 x64 x65 x66 x67 x68 B x70 x71 x72 x73 s.1 s.2 x76 x77 x78 x79) B.length (fun i s => s.1 = b ++ B.take i /\ s.2 = y ++ List.replicate i x68) (fun o => o = k x55 x56 x57 (W (x58 + 1)) x70 x71 (W (x67 + 1)) x72 x77 x78 x79 (b ++ B) (y ++ List.replicate B.length x68) x76) ?_ ?_ φ (b, y) ⟨by simp, by simp⟩ (by omega)
 ·intro n i s hi ⟨h1, h2⟩ hs
  rw [z2r, if_pos (by simp; omega), z8 ⟨by omega, by omega⟩, z8 (zgj (by rw [h1]; simp; omega) (by omega)), z8 (zgj (by rw [h2]; simp; omega) (by omega)), W_id (by omega) (by omega)]
  exact hs (_, _) ⟨by rw [h1, z07 B i hi, List.append_assoc], by rw [h2, List.replicate_succ', List.append_assoc]⟩
 ·intro n s ⟨h1, h2⟩
  rw [z2r, if_neg (by simp), h1, h2, List.take_length]
theorem yc7 (hφ : 10 < φ) (k) (x137 x138 x139 x140 x141 x142 x143 x144 x145 x146 x147 x148 x149 x150 x151 x152 x153 x154 x155 x156 x157) (B : List za) (x159 x160 x161 x162 x163) (b : List za) (y : List (Nat -> Ref)) (x166 x167 x168 x169) (hB : B.length <= 4) (hb : b.length <= 50000000) (hy : y.length <= 50000000) :
  z2d φ k φ (B.length : Int) 0 x137 x138 x139 x140 x141 x142 x143 x144 x145 x146 x147 x148 x149 x150 x151 x152 x153 x154 x155 x156 x157 B x159 x160 x161 x162 x163 b y x166 x167 x168 x169 = k x137 x138 x139 x140 x141 x142 (W (x143 + 1)) x159 x160 x156 x161 x167 x168 x169 (b ++ B) (y ++ List.replicate B.length x157) x166 := by
 refine zp (fun n i (s : List za × List (Nat -> Ref)) => z2d φ k n (B.length : Int) i x137 x138 x139 x140 x141 x142 x143 x144 x145 x146 x147 x148 x149 x150 x151 x152 x153 x154 x155 x156 x157 B x159 x160 x161 x162 x163 s.1 s.2 x166 x167 x168 x169) B.length (fun i s => s.1 = b ++ B.take i /\ s.2 = y ++ List.replicate i x157) (fun o => o = k x137 x138 x139 x140 x141 x142 (W (x143 + 1)) x159 x160 x156 x161 x167 x168 x169 (b ++ B) (y ++ List.replicate B.length x157) x166) ?_ ?_ φ (b, y) ⟨by simp, by simp⟩ (by omega)
 ·intro n i s hi ⟨h1, h2⟩ hs
  rw [z2d, if_pos (by simp; omega), z8 ⟨by omega, by omega⟩, z8 (zgj (by rw [h1]; simp; omega) (by omega)), z8 (zgj (by rw [h2]; simp; omega) (by omega)), W_id (by omega) (by omega)]
  exact hs (_, _) ⟨by rw [h1, z07 B i hi, List.append_assoc], by rw [h2, List.replicate_succ', List.append_assoc]⟩
 ·intro n s ⟨h1, h2⟩
  rw [z2d, if_neg (by simp), h1, h2, List.take_length]
theorem ybj (hφ : 10 < φ) (k) (x173 x174 x175 x176 x177 x178 x179 x180 x181 x182 x183) (B : List za) (x185 x186 x187 x188) (b : List za) (y : List (Nat -> Ref)) (x191 x192 x193 x194) (hB : B.length <= 4) (hb : b.length <= 50000000) (hy : y.length <= 50000000) :
  z2b φ k φ (B.length : Int) 0 x173 x174 x175 x176 x177 x178 x179 x180 x181 x182 x183 B x185 x186 x187 x188 b y x191 x192 x193 x194 = z0p φ k x173 x174 x175 x176 x177 x178 x179 x180 x181 x185 x186 x182 x187 x188 x192 x193 x194 (b ++ B) (y ++ List.replicate B.length x183) x191 := by
 refine zp (fun n i (s : List za × List (Nat -> Ref)) => z2b φ k n (B.length : Int) i x173 x174 x175 x176 x177 x178 x179 x180 x181 x182 x183 B x185 x186 x187 x188 s.1 s.2 x191 x192 x193 x194) B.length (fun i s => s.1 = b ++ B.take i /\ s.2 = y ++ List.replicate i x183) (fun o => o = z0p φ k x173 x174 x175 x176 x177 x178 x179 x180 x181 x185 x186 x182 x187 x188 x192 x193 x194 (b ++ B) (y ++ List.replicate B.length x183) x191) ?_ ?_ φ (b, y) ⟨by simp, by simp⟩ (by omega)
 ·intro n i s hi ⟨h1, h2⟩ hs
  rw [z2b, if_pos (by simp; omega), z8 ⟨by omega, by omega⟩, z8 (zgj (by rw [h1]; simp; omega) (by omega)), z8 (zgj (by rw [h2]; simp; omega) (by omega)), W_id (by omega) (by omega)]
  exact hs (_, _) ⟨by rw [h1, z07 B i hi, List.append_assoc], by rw [h2, List.replicate_succ', List.append_assoc]⟩
 ·intro n s ⟨h1, h2⟩
  rw [z2b, if_neg (by simp), h1, h2, List.take_length]
theorem yc6 (hφ : 10 < φ) (k) (x173 x174 x175 x176 x177 x178 x179 x180 x181 x182 x183) (B : List za) (x185 x186 x187 x188) (b : List za) (y : List (Nat -> Ref)) (x191 x192 x193 x194) (hB : B.length <= 4) (hb : b.length <= 50000000) (hy : y.length <= 50000000) :
  z2f φ k φ (B.length : Int) 0 x173 x174 x175 x176 x177 x178 x179 x180 x181 x182 x183 B x185 x186 x187 x188 b y x191 x192 x193 x194 = z0p φ k x173 x174 x175 x176 x177 x178 x179 x180 x181 x185 x186 x182 x187 x188 x192 x193 x194 (b ++ B) (y ++ List.replicate B.length x183) x191 := by
 refine zp (fun n i (s : List za × List (Nat -> Ref)) => z2f φ k n (B.length : Int) i x173 x174 x175 x176 x177 x178 x179 x180 x181 x182 x183 B x185 x186 x187 x188 s.1 s.2 x191 x192 x193 x194) B.length (fun i s => s.1 = b ++ B.take i /\ s.2 = y ++ List.replicate i x183) (fun o => o = z0p φ k x173 x174 x175 x176 x177 x178 x179 x180 x181 x185 x186 x182 x187 x188 x192 x193 x194 (b ++ B) (y ++ List.replicate B.length x183) x191) ?_ ?_ φ (b, y) ⟨by simp, by simp⟩ (by omega)
 ·intro n i s hi ⟨h1, h2⟩ hs
  rw [z2f, if_pos (by simp; omega), z8 ⟨by omega, by omega⟩, z8 (zgj (by rw [h1]; simp; omega) (by omega)), z8 (zgj (by rw [h2]; simp; omega) (by omega)), W_id (by omega) (by omega)]
  exact hs (_, _) ⟨by rw [h1, z07 B i hi, List.append_assoc], by rw [h2, List.replicate_succ', List.append_assoc]⟩
 ·intro n s ⟨h1, h2⟩
  rw [z2f, if_neg (by simp), h1, h2, List.take_length]
theorem zys (hφ : 800000 < φ) (k) (T : List z6) (n : Nat) (hn : n < T.length) (x115 x116 x117 x118 x119 x120) (x122 : Pool) (x123 : Int) (x125 : List (Int × Int)) (e : z6) (pr : Option z0r) (hpr : pr = if 0 < n then some (gt T ((n : Int) - 1)).visit else none) (x127 x128 x129) (b : List za) (y : List (Nat -> Ref)) (x132) (hb : b.length <= 50000000) (hy : y.length <= 50000000) (h15 : 0 <= x115 /\ x115 <= 100000000) (hT : n <= 100000000) :
  z0p φ k T (n : Int) x115 x116 x117 x118 x119 x120 (n : Int) x122 x123 (x115 + 1) x125 e x127 x128 x129 b y x132 =
   k T x116 x117 x118 x119 x120 ((n + 1 : Nat) : Int) x122 x123 (x115 + 1) x125 x127 x128 x129 (b ++ trB (tvl φ x122.network) x115 pr e) (y ++ trY pr e) x132 := by
 have hW : W ((n : Int) + 1) = ((n + 1 : Nat) : Int) := by rw [W_id (by omega) (by omega)]; omega
 unfold z0p
 by_cases h : 0 < n
 ·obtain ⟨ht, t1, t2⟩ := y7a φ hφ x122.network (gt T ((n : Int) - 1)).visit e.visit
  rw [if_pos (by simp; omega), W_id (x := (n : Int) - 1) (by omega) (by omega), z8 ⟨by omega, by omega⟩, ht, Option.bind_some, W_id (x := x115 - 1) (by omega) (by omega)]
  rw [hpr, if_pos h]
  simp only [trB, trY]
  generalize tvl φ x122.network (gt T ((n : Int) - 1)).visit e.visit = tt at *
  rw [W_id (x := 0 - tt) (by omega) (by omega)]
  refine (yc7 φ (by omega) k T x116 x117 x118 x119 x120 (n : Int) _ _ _ _ _ _ _ _ _ _ _ _ _ _ ([⟨x115, x115 - 1, 0 - tt⟩] : List za) x122 x123 x125 _ _ b y x132 x127 x128 x129 (by simp) hb hy).trans ?_
  rw [hW]
  rfl
 ·rw [if_neg (by simp; omega), hW, hpr, if_neg h]
  simp only [trB, trY, List.append_nil]
theorem zxl (hφ : 800000 < φ) (k) (x96 x97 x98) (T : List z6) (hE : ∀ e ∈ T, 0 <= e.visit.early /\ e.visit.early <= 1073741824) (x102 : Pool) (x103 : Int) (m : List (Int × Int)) (g1 g2 g3) (hT : T.length <= 2000) :
  ∀ (n i N : Nat) (s : BS), T.length < n + i -> i <= T.length -> BB N s -> N <= 8300000 + i ->
   z0c φ k n T x96 x97 x98 T (T.length : Int) (i : Int) x102 x103 s.v m g1 g2 g3 s.b s.y s.e =
    (fun s' : BS => k x96 x97 (W (x98 + 1)) x102 x103 s'.v m g1 g2 g3 s'.b s'.y s'.e) (bEv (tvl φ x102.network) m (if 0 < i then some (gt T ((i : Int) - 1)).visit else none) (T.drop i) s) := by
 intro n
 induction n with
 | zero => intro i N s h1 h2; exfalso; omega
 | succ n ih =>
  intro i N s h1 h2 hB hN
  obtain ⟨v0, v1, b1, b2, b3⟩ := hB
  by_cases hi : i < T.length
  ·obtain ⟨e0, e1⟩ := hE _ (z1d (l := T) (i := (i : Int)) (by omega) (by omega))
   have hWv : W (s.v + 1) = s.v + 1 := W_id (by omega) (by omega)
   have hWe : W (0 - (gt T (i : Int)).visit.early) = 0 - (gt T (i : Int)).visit.early := W_id (by omega) (by omega)
   have hnext := ih (i + 1) (N + 1) (zbd (tvl φ x102.network) m (if 0 < i then some (gt T ((i : Int) - 1)).visit else none) (gt T (i : Int)) s) (by omega) (by omega) (BB.step ⟨v0, v1, b1, b2, b3⟩ _ _ _ _) (by omega)
   rw [if_pos (show 0 < i + 1 by omega), show ((i + 1 : Nat) : Int) - 1 = (i : Int) by omega] at hnext
   rw [y2l T i hi]
   refine Eq.trans ?_ hnext
   rw [z0c, if_pos (by simp; omega), z8 ⟨by omega, by omega⟩, z8 (zgj (by simp; omega) (by omega)), hWv, hWe]
   by_cases hr : (gt T (i : Int)).reader < 0
   ·rw [if_pos (by simpa using hr)]
    refine (ybj φ (by omega) (z0c φ k n) T (i : Int) s.v x96 x97 x98 T (T.length : Int) (i : Int) (s.v + 1) (y1 (gt T (i : Int)).visit.ref) ([⟨0, s.v, (gt T (i : Int)).visit.early⟩, ⟨s.v, 0, 0 - (gt T (i : Int)).visit.early⟩] : List za) x102 x103 m (gt T (i : Int)) s.b s.y _ g1 g2 g3 (by simp) (by omega) (by omega)).trans ?_
    refine (zys φ hφ (z0c φ k n) T i hi s.v x96 x97 x98 T (T.length : Int) x102 x103 m (gt T (i : Int)) _ rfl g1 g2 g3 _ _ _ (by simp; omega) (by simp; omega) ⟨by omega, by omega⟩ (by omega)).trans ?_
    simp only [zbd, evB, evY, if_pos hr]
    rfl
   ·rw [if_neg (by simpa using hr)]
    refine (yc6 φ (by omega) (z0c φ k n) T (i : Int) s.v x96 x97 x98 T (T.length : Int) (i : Int) (s.v + 1) (y1 (gt T (i : Int)).visit.ref) ([⟨rv m (gt T (i : Int)), s.v, (gt T (i : Int)).visit.early⟩, ⟨s.v, rv m (gt T (i : Int)), 0 - (gt T (i : Int)).visit.early⟩, ⟨0, s.v, 1073741824⟩, ⟨s.v, 0, 0⟩] : List za) x102 x103 m (gt T (i : Int)) s.b s.y _ g1 g2 g3 (by simp) (by omega) (by omega)).trans ?_
    refine (zys φ hφ (z0c φ k n) T i hi s.v x96 x97 x98 T (T.length : Int) x102 x103 m (gt T (i : Int)) _ rfl g1 g2 g3 _ _ _ (by simp; omega) (by simp; omega) ⟨by omega, by omega⟩ (by omega)).trans ?_
    simp only [zbd, evB, evY, if_neg hr]
    rfl
  ·have : i = T.length := by omega
   subst this
   rw [z0c, if_neg (by simp), List.drop_length]
   rfl
theorem zta (hφ : 800000 < φ) (ts : List (List z6)) (hE : ∀ T ∈ ts, T.length <= 2000 /\ ∀ e ∈ T, 0 <= e.visit.early /\ e.visit.early <= 1073741824) (hts : ts.length <= 4096) (x84 : Pool) (x85 : Int) (m : List (Int × Int)) (g1 g2 g3) (s : BS) (hs : BB 0 s) :
  z1v φ φ ts (ts.length : Int) 0 x84 x85 s.v m g1 g2 g3 s.b s.y s.e = some (bEnd (ts.foldl (fun s t => bEv (tvl φ x84.network) m none t s) s)) := by
 refine zp (fun n i (s : BS) => z1v φ n ts (ts.length : Int) i x84 x85 s.v m g1 g2 g3 s.b s.y s.e) ts.length (fun i s' => BB (2000 * i) s' /\ s' = (ts.take i).foldl (fun s t => bEv (tvl φ x84.network) m none t s) s) (fun o => o = some (bEnd (ts.foldl (fun s t => bEv (tvl φ x84.network) m none t s) s))) ?_ ?_ φ s ⟨hs, rfl⟩ (by omega)
 ·intro n i s' hi ⟨h1, h2⟩ hk
  obtain ⟨q1, q2⟩ := hE _ (z1d (l := ts) (i := (i : Int)) (by omega) (by omega))
  rw [z1v, if_pos (by simp; omega), z8 ⟨by omega, by omega⟩]
  have := zxl φ hφ (z1v φ n) ts (ts.length : Int) (i : Int) (gt ts (i : Int)) q2 x84 x85 m g1 g2 g3 q1 φ 0 (2000 * i) s' (by omega) (by omega) h1 (by omega)
  refine this.trans ?_
  simp only [W_id (x := (i : Int) + 1) (by omega) (by omega), List.drop_zero]
  rw [if_neg (by omega)]
  refine hk _ ⟨?_, ?_⟩
  ·have := BB.ev (tvl φ x84.network) m (gt ts (i : Int)) (2000 * i) none s' h1
   obtain ⟨a, b, c, d, f⟩ := this
   exact ⟨a, by omega, by omega, by omega, by omega⟩
  ·rw [z07 ts i hi, List.foldl_append, <- h2]; rfl
 ·intro n s' ⟨h1, h2⟩
  rw [List.take_length] at h2
  rw [z1v, if_neg (by simp), <- h2]
  unfold bEnd
  by_cases h : 512 < s'.v \/ 4096 < s'.b.length
  ·rw [if_pos (by simp; omega), if_pos h]
  ·rw [if_neg (by simp; omega), if_neg h]
theorem zrg (hφ : 800000 < φ) (ts : List (List z6)) (hE : ∀ T ∈ ts, T.length <= 2000 /\ ∀ e ∈ T, 0 <= e.visit.early /\ e.visit.early <= 1073741824) (hts : ts.length <= 4096) (p : Pool) (hp : p.readers.length <= 256) (hr : ∀ r ∈ p.readers, -1000 <= r.low /\ r.low <= 1000) (x43 : Int) (m : List (Int × Int)) (g1 g2) :
  z14 φ φ ts p.readers (p.readers.length : Int) 0 p x43 1 m g1 g2 [] [] [] [] = some (bEnd (ts.foldl (fun s t => bEv (tvl φ p.network) (rdsN p.readers m p.readers.length).m none t s) ⟨(rdsN p.readers m p.readers.length).v, (rdsN p.readers m p.readers.length).b, (rdsN p.readers m p.readers.length).y, []⟩)) := by
 refine zp (fun n i (s : RS) => z14 φ n ts p.readers (p.readers.length : Int) i p x43 s.v s.m g1 g2 [] s.b s.y []) p.readers.length (fun i s => s = rdsN p.readers m i) (fun o => o = _) ?_ ?_ φ ⟨1, m, [], []⟩ rfl (by omega)
 ·intro n i s hi hs hk
  obtain ⟨a1, a2, a3, a4⟩ := z8i p.readers m i
  rw [<- hs] at a1 a2 a3 a4
  obtain ⟨r1, r2⟩ := hr _ (z1d (l := p.readers) (i := (i : Int)) (by omega) (by omega))
  have hk' := hk (rdsN p.readers m (i + 1)) rfl
  simp only [rdsN, ziv] at hk'
  rw [<- hs] at hk'
  have hW : W ((i : Int) + 1) = (i : Int) + 1 := W_id (by omega) (by omega)
  rw [z14, if_pos (by simp; omega), z8 ⟨by omega, by omega⟩]
  by_cases h : (mget s.m (i : Int)).isSome = true
  ·rw [if_pos h] at hk' ⊢
   have hWl : W (0 - (gt p.readers (i : Int)).low) = 0 - (gt p.readers (i : Int)).low := W_id (by omega) (by omega)
   rw [hWl]
   refine (yef φ (by omega) (z14 φ n) ts p.readers (p.readers.length : Int) (i : Int) _ _ _ _ _ _ _ _ _ _ ([⟨0, s.v, 0 - (gt p.readers (i : Int)).low⟩, ⟨s.v, 0, (gt p.readers (i : Int)).high⟩] : List za) p x43 (mset s.m (i : Int) s.v) _ s.b s.y [] g1 g2 [] (by simp) (by omega) (by omega)).trans ?_
   rw [hW, W_id (x := s.v + 1) (by omega) (by omega)]
   exact hk'
  ·rw [if_neg h] at hk' ⊢
   rw [hW]
   exact hk'
 ·intro n s hs
  rw [z14, if_neg (by simp), <- hs]
  obtain ⟨a1, a2, a3, a4⟩ := z8i p.readers m p.readers.length
  rw [<- hs] at a1 a2 a3 a4
  exact zta φ hφ ts hE hts p x43 s.m g1 g2 [] ⟨s.v, s.b, s.y, []⟩ ⟨a1, by show s.v <= _; omega, by show s.b.length <= _; omega, by show s.y.length <= _; omega, by simp⟩
theorem zz7 (k) (x20 x21 x22 x23) (T : List z6) (hT : T.length <= 2000) (hφ : 800000 < φ) (x27 x28 x29 x30 x31 x32 x33 x34 x35 x36) :
  z1w φ k φ x20 x21 x22 x23 T (T.length : Int) 0 x27 x28 x29 x30 x31 x32 x33 x34 x35 x36 = k x20 x21 x22 (W (x23 + 1)) x27 x28 x29 (zmq x30 T) x31 x32 x33 x34 x35 x36 := by
 refine zp (fun n i (m : List (Int × Int)) => z1w φ k n x20 x21 x22 x23 T (T.length : Int) i x27 x28 x29 m x31 x32 x33 x34 x35 x36) T.length (fun i m => m = zmq x30 (T.take i)) (fun o => o = _) ?_ ?_ φ x30 rfl (by omega)
 ·intro n i m hi hm hk
  have hk' := hk (zmq x30 (T.take (i + 1))) rfl
  rw [z07 T i hi] at hk'
  simp only [zmq, List.foldl_append, List.foldl_cons, List.foldl_nil] at hk' hm
  rw [<- hm] at hk'
  rw [z1w, if_pos (by simp; omega), z8 ⟨by omega, by omega⟩, W_id (by omega) (by omega)]
  unfold zww at hk'
  by_cases h : 0 <= (gt T (i : Int)).reader
  ·rw [if_pos h] at hk'
   rw [if_pos (by simpa using h)]
   exact hk'
  ·rw [if_neg h] at hk'
   rw [if_neg (by simpa using h)]
   exact hk'
 ·intro n m hm
  rw [List.take_length] at hm
  rw [z1w, if_neg (by simp), hm]
theorem zzh {p : Pool} {r : z7} (h : zqu p r.item) {i : Int} {x : z6} (hx : x ∈ evs p r i) : 0 <= x.visit.early /\ x.visit.early <= 1073741824 := by
 have hf := h.from_
 have ht := h.to
 unfold evs at hx
 split at hx
 ·simp only [List.mem_singleton] at hx; subst hx
  simp only [z4y]; omega
 ·split at hx
  ·simp only [List.mem_cons, List.not_mem_nil, or_false] at hx
   rcases hx with rfl | rfl <;> simp only [z4y] <;> omega
  ·split at hx
   ·simp only [List.mem_singleton] at hx; subst hx
    simp only [z4y]; omega
   ·cases hx
theorem zra : ∀ {t : List z6} {m : List (Int × Bool)} {x : z6}, x ∈ zfd t m -> ∃ y ∈ t, ∃ b, x = zb2 y b
 | [], m, x, h => by cases h
 | e :: t, m, x, h => by
  rcases List.mem_cons.1 h with rfl | h
  ·exact ⟨e, List.mem_cons_self, _, rfl⟩
  ·obtain ⟨y, hy, b, hb⟩ := zra h
   exact ⟨y, List.mem_cons_of_mem _ hy, b, hb⟩
theorem zbk {p : Pool} {l : List z7} {w : Int} {x : z6} (h : x ∈ z1l p l w) : ∃ y ∈ uns p l w, ∃ b, x = zb2 y b := by
 obtain ⟨y, hy, b, hb⟩ := zra h
 exact ⟨y, (z1h _ _).mem_iff.1 hy, b, hb⟩
theorem zsj {p : Pool} (hc : z01 p = 0) {l : List z7} (hl : FewL l) {w : Int} {x : z6} (h : x ∈ z1l p l w) : 0 <= x.visit.early /\ x.visit.early <= 1073741824 := by
 obtain ⟨y, hy, b, rfl⟩ := zbk h
 obtain ⟨h1, h2, _, h3, h4⟩ := zfe hl.len hy
 show 0 <= y.visit.early /\ y.visit.early <= 1073741824
 exact zzh (zea hc (hl.gt h1 h2) h3) h4
theorem y58 (hφ : 800000 < φ) (p : Pool) {l : List z7} (hl : FewL l) :
  zc2 φ p l = some (if z01 p = 0 then bEnd (bAll (tvl φ p.network) p.readers (ze p l)) else (⟨0, [], [], []⟩, z01 p, ())) := by
 unfold zc2
 rw [zav φ hφ, Option.bind_some]
 by_cases hc : z01 p = 0
 case neg => rw [if_pos (by simpa using hc), if_neg hc]
 rw [if_neg (by simp [hc]), if_pos hc, zzd φ hφ hc hl, Option.bind_some]
 obtain ⟨_, hf, hr1, _⟩ := z9c hc
 obtain ⟨_, f2, _⟩ := zab hf
 have hrd := (zen hc).1
 show z1s φ φ (ze p l) (ze p l) ((ze p l).length : Int) 0 p 0 1 [] [] [] [] [] [] [] = _
 have hlen : (ze p l).length <= 4096 := by unfold ze; simp; omega
 have hE : ∀ T ∈ ze p l, T.length <= 2000 /\ ∀ e ∈ T, 0 <= e.visit.early /\ e.visit.early <= 1073741824 := by
  intro T hT
  unfold ze at hT
  obtain ⟨w, _, rfl⟩ := List.mem_map.1 hT
  exact ⟨zyk hl.len _, fun e he => zsj hc hl he⟩
 generalize ze p l = ts at *
 refine zp (fun n i (m : List (Int × Int)) => z1s φ n ts ts (ts.length : Int) i p 0 1 m [] [] [] [] [] []) ts.length (fun i m => m = (ts.take i).foldl zmq []) (fun o => o = some (bEnd (bAll (tvl φ p.network) p.readers ts))) ?_ ?_ φ [] rfl (by omega)
 ·intro n i m hi hm hk
  rw [z1s, if_pos (by simp; omega), z8 ⟨by omega, by omega⟩]
  rw [zz7 φ (z1s φ n) ts ts (ts.length : Int) (i : Int) (gt ts (i : Int)) (hE _ (z1d (by omega) (by omega))).1 hφ, W_id (by omega) (by omega)]
  exact hk _ (by rw [z07 ts i hi, List.foldl_append, <- hm]; rfl)
 ·intro n m hm
  rw [List.take_length] at hm
  rw [z1s, if_neg (by simp)]
  refine (zrg φ hφ ts hE hlen p hr1 (fun r hr => ?_) 0 m [] []).trans ?_
  ·have := hrd r hr; omega
  ·rw [hm]; rfl
end
end Px
end
section
namespace Px
open Go
set_option linter.unusedVariables false
set_option linter.unusedSimpArgs false
def idx : List z7 -> Ref -> Int
 | [], _ => 0
 | r :: l, q => if r.ref.railway = q.railway /\ r.ref.no = q.no then 0 else idx l q + 1
theorem y83 {a b : Ref} : a = b ↔ a.railway = b.railway /\ a.no = b.no := by
 cases a; cases b; simp
def zyi (x : z6) (i : Int) : z6 := ⟨x.visit, i, x.second, x.stay, x.reader⟩
def ren (κ : Int -> Int) (x : z6) : z6 := zyi x (κ x.report)
theorem zn6 (p : Pool) (r : z7) (i : Int) : evs p r i = (evs p r 0).map fun x => zyi x i := by
 unfold evs
 split
 ·rfl
 ·split
  ·rfl
  ·split <;> rfl
theorem zoz : Sort.SWO ltEv where
 irrefl := fun x => by
  unfold ltEv
  simp only [decide_eq_false_iff_not]
  rw [zb5]; omega
 trans := fun x y z h1 h2 => by
  unfold ltEv at *
  simp only [decide_eq_true_eq] at *
  rw [zb5] at *
  omega
 ntrans := fun x y z h1 h2 => by
  unfold ltEv at *
  simp only [decide_eq_false_iff_not] at *
  rw [zb5] at *
  omega
end Px
end
section
namespace Px
open Go
set_option linter.unusedVariables false
set_option linter.unusedSimpArgs false
def evE (v : Int) (e : z6) : z1r := ⟨e.visit.wagon, e.visit.place, v, e.visit.ref, e.visit.stay⟩
def evsE : Int -> List z6 -> List z1r
 | _, [] => []
 | v, e :: t => evE v e :: evsE (v + 1) t
def bnds (tv : z0r -> z0r -> Int) (m : List (Int × Int)) : Option z0r -> Int -> List z6 -> List za
 | _, _, [] => []
 | pr, v, e :: t => evB m v e ++ trB tv v pr e ++ bnds tv m (some e.visit) (v + 1) t
theorem zx2 (tv m) : ∀ (t : List z6) (pr) (s : BS), (bEv tv m pr t s).v = s.v + t.length
 | [], pr, s => by simp [bEv]
 | e :: t, pr, s => by
  rw [bEv, zx2 tv m t]
  simp only [zbd, List.length_cons]; omega
theorem y64 (tv m) : ∀ (t : List z6) (pr) (s : BS), (bEv tv m pr t s).b = s.b ++ bnds tv m pr s.v t
 | [], pr, s => by simp [bEv, bnds]
 | e :: t, pr, s => by
  rw [bEv, y64 tv m t]
  simp only [zbd, bnds, List.append_assoc]
theorem zwt (tv m) : ∀ (t : List z6) (pr) (s : BS), (bEv tv m pr t s).e = s.e ++ evsE s.v t
 | [], pr, s => by simp [bEv, evsE]
 | e :: t, pr, s => by
  rw [bEv, zwt tv m t]
  simp only [zbd, evsE, evE, List.append_assoc, List.cons_append, List.nil_append]
theorem zuo : ∀ (t : List z6) (v : Int), (evsE v t).length = t.length
 | [], v => rfl
 | e :: t, v => by simp [evsE, zuo t]
theorem y1x : ∀ (t : List z6) (v : Int) (i : Nat), (evsE v t)[i]? = (t[i]?).map (evE (v + i))
 | [], v, i => by simp [evsE]
 | e :: t, v, 0 => by simp [evsE]
 | e :: t, v, i + 1 => by
  simp only [evsE, List.getElem?_cons_succ]
  rw [y1x t (v + 1) i]
  congr 2; omega
theorem zsw (tv m) : ∀ (t : List z6) (pr) (v : Int) (i : Nat) (e : z6), t[i]? = some e -> ∀ b ∈ evB m (v + i) e, b ∈ bnds tv m pr v t
 | [], pr, v, i, e, h, b, hb => by simp at h
 | x :: t, pr, v, 0, e, h, b, hb => by
  simp at h; subst h
  rw [show v + ((0 : Nat) : Int) = v by omega] at hb
  simp only [bnds]
  exact List.mem_append_left _ (List.mem_append_left _ hb)
 | x :: t, pr, v, i + 1, e, h, b, hb => by
  simp only [bnds]
  refine List.mem_append_right _ (zsw tv m t _ (v + 1) i e (by simpa using h) b ?_)
  rw [show v + 1 + (i : Int) = v + ((i + 1 : Nat) : Int) by omega]; exact hb
theorem zyg (tv m) : ∀ (t : List z6) (pr) (v : Int) (i : Nat) (a e : z6), t[i]? = some a -> t[i + 1]? = some e -> (⟨v + i + 1, v + i, 0 - tv a.visit e.visit⟩ : za) ∈ bnds tv m pr v t
 | [], pr, v, i, a, e, h, _ => by simp at h
 | [x], pr, v, 0, a, e, h, h2 => by simp at h2
 | x :: y :: t, pr, v, 0, a, e, h, h2 => by
  simp at h h2; subst h; subst h2
  simp only [bnds, trB]
  refine List.mem_append_right _ (List.mem_append_left _ (List.mem_append_right _ (List.mem_singleton.2 ?_)))
  simp
 | x :: t, pr, v, i + 1, a, e, h, h2 => by
  have := zyg tv m t (some x.visit) (v + 1) i a e (by simpa using h) (by simpa using h2)
  simp only [bnds]
  refine List.mem_append_right _ ?_
  rw [show v + ((i + 1 : Nat) : Int) + 1 = v + 1 + (i : Int) + 1 by omega, show v + ((i + 1 : Nat) : Int) = v + 1 + (i : Int) by omega]
  exact this
theorem zna (tv m) : ∀ (t : List z6) (pr) (v : Int) (b : za), b ∈ bnds tv m pr v t -> ∃ i : Nat, ∃ e : z6, t[i]? = some e /\ (b ∈ evB m (v + i) e \/ ∃ a : z0r, (0 < i \/ pr.isSome = true) /\ b = ⟨v + i, v + i - 1, 0 - tv a e.visit⟩)
 | [], pr, v, b, h => by simp [bnds] at h
 | x :: t, pr, v, b, h => by
  simp only [bnds, List.mem_append] at h
  rcases h with (h | h) | h
  ·exact ⟨0, x, rfl, .inl (by rw [show v + ((0 : Nat) : Int) = v by omega]; exact h)⟩
  ·cases pr with
   | none => simp [trB] at h
   | some a =>
    simp only [trB, List.mem_singleton] at h
    exact ⟨0, x, rfl, .inr ⟨a, .inr rfl, by rw [h]; simp⟩⟩
  ·obtain ⟨i, e, hi, hb⟩ := zna tv m t _ _ b h
   refine ⟨i + 1, e, by simpa using hi, ?_⟩
   rw [show v + ((i + 1 : Nat) : Int) = v + 1 + (i : Int) by omega]
   rcases hb with hb | ⟨a, _, hb⟩
   ·exact .inl hb
   ·exact .inr ⟨a, .inl (by omega), hb⟩
def fB (tv : z0r -> z0r -> Int) (m : List (Int × Int)) (ts : List (List z6)) (s : BS) : BS := ts.foldl (fun s t => bEv tv m none t s) s
theorem yde (tv m) (A B : List (List z6)) (s : BS) : fB tv m (A ++ B) s = fB tv m B (fB tv m A s) := List.foldl_append ..
theorem zfq (tv m) : ∀ (ts : List (List z6)) (s : BS), s.v <= (fB tv m ts s).v /\ (∃ b, (fB tv m ts s).b = s.b ++ b) /\ ∃ e, (fB tv m ts s).e = s.e ++ e
 | [], s => ⟨Int.le_refl _, ⟨[], by simp [fB]⟩, [], by simp [fB]⟩
 | t :: ts, s => by
  obtain ⟨h1, ⟨b, h2⟩, e, h3⟩ := zfq tv m ts (bEv tv m none t s)
  have e1 : fB tv m (t :: ts) s = fB tv m ts (bEv tv m none t s) := rfl
  rw [e1]
  rw [zx2] at h1
  rw [y64] at h2
  rw [zwt] at h3
  exact ⟨by omega, ⟨_, by rw [h2, List.append_assoc]⟩, _, by rw [h3, List.append_assoc]⟩
theorem zpu (tv m) (A B : List (List z6)) (t : List z6) (s : BS) : s.v <= (fB tv m A s).v /\ (fB tv m A s).v + t.length <= (fB tv m (A ++ t :: B) s).v /\
  (∀ b ∈ bnds tv m none (fB tv m A s).v t, b ∈ (fB tv m (A ++ t :: B) s).b) /\ ∃ e, (fB tv m (A ++ t :: B) s).e = (fB tv m A s).e ++ (evsE (fB tv m A s).v t ++ e) := by
 have e1 : fB tv m (A ++ t :: B) s = fB tv m B (bEv tv m none t (fB tv m A s)) := by rw [yde]; rfl
 obtain ⟨h1, ⟨b, h2⟩, e, h3⟩ := zfq tv m B (bEv tv m none t (fB tv m A s))
 rw [e1]
 rw [zx2] at h1
 rw [y64] at h2
 rw [zwt] at h3
 refine ⟨(zfq tv m A s).1, h1, fun x hx => ?_, e, by rw [h3, List.append_assoc]⟩
 rw [h2]
 exact List.mem_append_left _ (List.mem_append_right _ hx)
theorem y2k (tv m) : ∀ (ts : List (List z6)) (s : BS) (b : za), b ∈ (fB tv m ts s).b -> b ∈ s.b \/ ∃ A t B, ts = A ++ t :: B /\ b ∈ bnds tv m none (fB tv m A s).v t
 | [], s, b, h => .inl h
 | t :: ts, s, b, h => by
  have e1 : fB tv m (t :: ts) s = fB tv m ts (bEv tv m none t s) := rfl
  rw [e1] at h
  rcases y2k tv m ts _ b h with h2 | ⟨A, t', B, e2, h2⟩
  ·rw [y64] at h2
   rcases List.mem_append.1 h2 with h2 | h2
   ·exact .inl h2
   ·exact .inr ⟨[], t, ts, rfl, h2⟩
  ·exact .inr ⟨t :: A, t', B, by rw [e2]; rfl, h2⟩
theorem zzb (tv m) : ∀ (ts : List (List z6)) (s : BS) (x : z1r), x ∈ (fB tv m ts s).e -> x ∈ s.e \/ ∃ A t B, ts = A ++ t :: B /\ x ∈ evsE (fB tv m A s).v t
 | [], s, b, h => .inl h
 | t :: ts, s, b, h => by
  have e1 : fB tv m (t :: ts) s = fB tv m ts (bEv tv m none t s) := rfl
  rw [e1] at h
  rcases zzb tv m ts _ b h with h2 | ⟨A, t', B, e2, h2⟩
  ·rw [zwt] at h2
   rcases List.mem_append.1 h2 with h2 | h2
   ·exact .inl h2
   ·exact .inr ⟨[], t, ts, rfl, h2⟩
  ·exact .inr ⟨t :: A, t', B, by rw [e2]; rfl, h2⟩
theorem zor (rs : List z18) (m : List (Int × Int)) : ∀ n : Nat, (∀ i : Nat, i < n -> (mget m (i : Int)).isSome = true -> ∃ v, mget (rdsN rs m n).m (i : Int) = some v /\ 1 <= v /\ v < (rdsN rs m n).v) /\ ∀ k : Int, (n : Int) <= k -> mget (rdsN rs m n).m k = mget m k
 | 0 => ⟨fun i h => by omega, fun k _ => rfl⟩
 | n + 1 => by
  obtain ⟨h1, h2⟩ := zor rs m n
  have hv := (z8i rs m n).1
  have h3 := h2 (n : Int) (Int.le_refl _)
  simp only [rdsN, ziv]
  split
  ·rename_i hs
   refine ⟨fun i hi hm => ?_, fun k hk => ?_⟩
   ·simp only [zbi]
    by_cases e : i = n
    ·subst e; exact ⟨_, if_pos rfl, hv, by omega⟩
    ·obtain ⟨v, q1, q2, q3⟩ := h1 i (by omega) hm
     exact ⟨v, by rw [if_neg (by omega)]; exact q1, q2, by omega⟩
   ·simp only [zbi]
    rw [if_neg (by omega)]; exact h2 k (by omega)
  ·rename_i hs
   refine ⟨fun i hi hm => ?_, fun k hk => h2 k (by omega)⟩
   by_cases e : i = n
   ·subst e; rw [h3] at hs; exact absurd hm hs
   ·exact h1 i (by omega) hm
theorem zx3 {m : List (Int × Int)} {e : z6} {k : Int} (h : (mget m k).isSome = true) : (mget (zww m e) k).isSome = true := by
 unfold zww
 split
 ·rw [zbi]; split
  ·rfl
  ·exact h
 ·exact h
theorem zio : ∀ (t : List z6) {m : List (Int × Int)} {k : Int}, (mget m k).isSome = true -> (mget (zmq m t) k).isSome = true
 | [], m, k, h => h
 | e :: t, m, k, h => zio t (zx3 h)
theorem zq1 : ∀ (t : List z6) (m : List (Int × Int)) (e : z6), e ∈ t -> 0 <= e.reader -> (mget (zmq m t) e.reader).isSome = true
 | x :: t, m, e, he, h => by
  rcases List.mem_cons.1 he with rfl | he
  ·refine zio t (m := zww m e) ?_
   unfold zww
   rw [if_pos h, zbi, if_pos rfl]; rfl
  ·exact zq1 t _ e he h
theorem y1u (ts : List (List z6)) {k : Int} : ∀ {m : List (Int × Int)}, (mget m k).isSome = true -> (mget (ts.foldl zmq m) k).isSome = true := by
 induction ts with
 | nil => intro m h; exact h
 | cons t ts ih => intro m h; rw [List.foldl_cons]; exact ih (zio t h)
theorem zwb (ts : List (List z6)) : ∀ (m : List (Int × Int)) (t : List z6) (e : z6), t ∈ ts -> e ∈ t -> 0 <= e.reader -> (mget (ts.foldl zmq m) e.reader).isSome = true := by
 induction ts with
 | nil => intro m t e ht; cases ht
 | cons x ts ih =>
  intro m t e ht he h
  rw [List.foldl_cons]
  rcases List.mem_cons.1 ht with e1 | ht
  ·subst e1
   exact y1u ts (zq1 t m e he h)
  ·exact ih _ t e ht he h
structure TsOK (rs : List z18) (ts : List (List z6)) : Prop where
 early : ∀ t ∈ ts, ∀ e ∈ t, 0 <= e.visit.early /\ e.visit.early <= 1073741824
 reader : ∀ t ∈ ts, ∀ e ∈ t, e.reader < (rs.length : Int)
 rs : ∀ r ∈ rs, -1000 <= r.low /\ r.low <= r.high /\ r.high <= 1000
abbrev rdM (rs : List z18) (ts : List (List z6)) : List (Int × Int) := (rdsN rs (used ts) rs.length).m
abbrev rd0 (rs : List z18) (ts : List (List z6)) : BS := ⟨(rdsN rs (used ts) rs.length).v, (rdsN rs (used ts) rs.length).b, (rdsN rs (used ts) rs.length).y, []⟩
theorem zi9 (tv) (rs : List z18) (ts : List (List z6)) : bAll tv rs ts = fB tv (rdM rs ts) ts (rd0 rs ts) := rfl
theorem y9a {rs : List z18} {ts : List (List z6)} (h : TsOK rs ts) {t : List z6} (ht : t ∈ ts) {e : z6} (he : e ∈ t) (hr : 0 <= e.reader) : mget (rdM rs ts) e.reader = some (rv (rdM rs ts) e) /\ 1 <= rv (rdM rs ts) e /\ rv (rdM rs ts) e < (rd0 rs ts).v := by
 have h2 := h.reader t ht e he
 have := zwb ts [] t e ht he hr
 obtain ⟨v, q1, q2, q3⟩ := (zor rs (used ts) rs.length).1 e.reader.toNat (by omega) (by rw [show ((e.reader.toNat : Nat) : Int) = e.reader by omega]; exact this)
 rw [show ((e.reader.toNat : Nat) : Int) = e.reader by omega] at q1
 have e1 : rv (rdM rs ts) e = v := by unfold rv; rw [show mget (rdM rs ts) e.reader = some v from q1]; rfl
 rw [e1]
 exact ⟨q1, q2, q3⟩
theorem zv6 (rs : List z18) (m : List (Int × Int)) : ∀ n : Nat, n <= rs.length -> ∀ b ∈ (rdsN rs m n).b, ∃ r ∈ rs, ∃ v, 1 <= v /\ v < (rdsN rs m n).v /\ (b = ⟨0, v, 0 - r.low⟩ \/ b = ⟨v, 0, r.high⟩)
 | 0, _, b, hb => by simp [rdsN] at hb
 | n + 1, hn, b, hb => by
  have hv := (z8i rs m n).1
  have ih := zv6 rs m n (by omega)
  simp only [rdsN, ziv] at hb ⊢
  split at hb
  ·rename_i hs
   rw [if_pos hs]
   simp only [List.mem_append, List.mem_cons, List.not_mem_nil, or_false] at hb
   rcases hb with hb | rfl | rfl
   ·obtain ⟨r, hr, v, q1, q2, q3⟩ := ih b hb
    exact ⟨r, hr, v, q1, by simp only; omega, q3⟩
   ·exact ⟨_, z1d (l := rs) (i := (n : Int)) (by omega) (by omega), _, hv, by simp only; omega, .inl rfl⟩
   ·exact ⟨_, z1d (l := rs) (i := (n : Int)) (by omega) (by omega), _, hv, by simp only; omega, .inr rfl⟩
  ·rename_i hs
   rw [if_neg hs]
   exact ih b hb
theorem yd8 {rs : List z18} {ts : List (List z6)} (h : TsOK rs ts) {t : List z6} (ht : t ∈ ts) {e : z6} (he : e ∈ t) {v : Int} (hv : (rd0 rs ts).v <= v) {n : Nat} (hn : v < (n : Int)) {b : za} (hb : b ∈ evB (rdM rs ts) v e) : okBd n b := by
 have h1 := h.early t ht e he
 have h0 := (z8i rs (used ts) rs.length).1
 change 1 <= (rd0 rs ts).v at h0
 unfold evB at hb
 split at hb
 ·simp only [List.mem_cons, List.not_mem_nil, or_false] at hb
  rcases hb with rfl | rfl <;> exact ⟨by simp only; omega, by simp only; omega, by simp only; omega, by simp only; omega, by simp only; omega, by simp only; omega⟩
 ·rename_i hr
  obtain ⟨_, q1, q2⟩ := y9a h ht he (by omega)
  simp only [List.mem_cons, List.not_mem_nil, or_false] at hb
  rcases hb with rfl | rfl | rfl | rfl <;> exact ⟨by simp only; omega, by simp only; omega, by simp only; omega, by simp only; omega, by simp only; omega, by simp only; omega⟩
theorem yaa {tv : z0r -> z0r -> Int} (htv : ∀ a b, 0 <= tv a b /\ tv a b <= 1073741825) {rs : List z18} {ts : List (List z6)} (h : TsOK rs ts) : 1 <= (bAll tv rs ts).v /\ ∀ b ∈ (bAll tv rs ts).b, okBd (bAll tv rs ts).v.toNat b := by
 have h0 := (z8i rs (used ts) rs.length).1
 change 1 <= (rd0 rs ts).v at h0
 rw [zi9]
 obtain ⟨m1, m2, m3⟩ := zfq tv (rdM rs ts) ts (rd0 rs ts)
 refine ⟨by omega, fun b hb => ?_⟩
 rcases y2k tv (rdM rs ts) ts _ b hb with hb | ⟨A, t, B, rfl, hb⟩
 ·obtain ⟨r, hr, v, q1, q2, q3⟩ := zv6 rs (used ts) rs.length (Nat.le_refl _) b hb
  change v < (rd0 rs ts).v at q2
  have := h.rs r hr
  rcases q3 with rfl | rfl <;> exact ⟨by simp only; omega, by simp only; omega, by simp only; omega, by simp only; omega, by simp only; omega, by simp only; omega⟩
 ·obtain ⟨k1, k2, k3, k4⟩ := zpu tv (rdM rs (A ++ t :: B)) A B t (rd0 rs (A ++ t :: B))
  obtain ⟨i, e, hi, hb⟩ := zna tv _ t none _ b hb
  have hlt := (List.getElem?_eq_some_iff.1 hi).1
  have hte : t ∈ A ++ t :: B := by simp
  have hee : e ∈ t := List.mem_of_getElem? hi
  rcases hb with hb | ⟨a, ha, rfl⟩
  ·exact yd8 h hte hee (by omega) (by omega) hb
  ·have := htv a e.visit
   have hi0 : 0 < i := ha.resolve_right (by simp)
   exact ⟨by simp only; omega, by simp only; omega, by simp only; omega, by simp only; omega, by simp only; omega, by simp only; omega⟩
section
variable {X : Int -> Int} {m : List (Int × Int)} {v : Int} {e : z6}
theorem zt4 (hX : ∀ b ∈ evB m v e, X b.j - X b.i <= b.w) (he : 0 <= e.visit.early /\ e.visit.early <= 1073741824) : 0 <= X v - X 0 /\ X v - X 0 <= 1073741824 := by
 unfold evB at hX
 split at hX
 ·have h1 := hX ⟨0, v, e.visit.early⟩ (by simp)
  have h2 := hX ⟨v, 0, 0 - e.visit.early⟩ (by simp)
  simp only at h1 h2; omega
 ·have h1 := hX ⟨0, v, 1073741824⟩ (by simp)
  have h2 := hX ⟨v, 0, 0⟩ (by simp)
  simp only at h1 h2; omega
theorem y60 (hX : ∀ b ∈ evB m v e, X b.j - X b.i <= b.w) (he : 0 <= e.reader) : X v - X (rv m e) = e.visit.early := by
 unfold evB at hX
 rw [if_neg (by omega)] at hX
 have h1 := hX ⟨rv m e, v, e.visit.early⟩ (by simp)
 have h2 := hX ⟨v, rv m e, 0 - e.visit.early⟩ (by simp)
 simp only at h1 h2; omega
end
theorem zry {p : Pool} (hc : z01 p = 0) {l : List z7} (hl : FewL l) {w : Int} {x : z6} (h : x ∈ z1l p l w) : x.reader < (p.readers.length : Int) := by
 obtain ⟨y, hy, b, rfl⟩ := zbk h
 obtain ⟨h1, h2, _, h3, h4⟩ := zfe hl.len hy
 show y.reader < _
 have ho := zea hc (hl.gt h1 h2) h3
 unfold evs at h4
 split at h4
 ·rename_i hk
  simp only [List.mem_singleton] at h4
  rw [h4]; exact (ho.read hk).2
 ·split at h4
  ·simp only [List.mem_cons, List.not_mem_nil, or_false] at h4
   rcases h4 with q | q <;> rw [q] <;> simp only <;> omega
  ·split at h4
   ·simp only [List.mem_singleton] at h4
    rw [h4]; simp only; omega
   ·cases h4
theorem tsOK {p : Pool} (hc : z01 p = 0) {l : List z7} (hl : FewL l) : TsOK p.readers (ze p l) := by
 refine ⟨fun t ht e he => ?_, fun t ht e he => ?_, fun r hr => ?_⟩
 ·obtain ⟨w, _, rfl⟩ := List.mem_map.1 ht; exact zsj hc hl he
 ·obtain ⟨w, _, rfl⟩ := List.mem_map.1 ht; exact zry hc hl he
 ·have := (zen hc).1 r hr; omega
end Px
end
section
namespace Px
open Go
set_option linter.unusedVariables false
set_option linter.unusedSimpArgs false
def KU (m : List (Int × Bool)) : Prop := (m.map (·.1)).Nodup
theorem zv9 {k : Int} {v : Bool} : ∀ {m : List (Int × Bool)} {q : Int × Bool}, q ∈ mset m k v -> q ∈ m \/ q.1 = k
 | [], q, h => by simp [mset] at h; exact .inr (by rw [h])
 | (a, b) :: m, q, h => by
  simp only [mset] at h
  cases hk : (k == a) with
  | true =>
   rw [hk] at h
   rcases List.mem_cons.1 h with rfl | h
   ·exact .inr rfl
   ·exact .inl (List.mem_cons_of_mem _ h)
  | false =>
   rw [hk] at h
   rcases List.mem_cons.1 h with rfl | h
   ·exact .inl (List.mem_cons_self ..)
   ·exact (zv9 h).imp (List.mem_cons_of_mem _) id
theorem KU.mset {k : Int} {v : Bool} : ∀ {m : List (Int × Bool)}, KU m -> KU (Px.mset m k v)
 | [], _ => by simp [Px.mset, KU]
 | (a, b) :: m, h => by
  simp only [KU, List.map_cons, List.nodup_cons] at h
  simp only [Px.mset]
  cases hk : (k == a) with
  | true =>
   have : k = a := by simpa using hk
   subst this
   simp only [cond_true, KU, List.map_cons, List.nodup_cons]
   exact h
  | false =>
   simp only [cond_false, KU, List.map_cons, List.nodup_cons]
   refine ⟨fun hm => ?_, KU.mset h.2⟩
   obtain ⟨q, hq, he⟩ := List.mem_map.1 hm
   rcases zv9 hq with hq | hq
   ·exact h.1 (List.mem_map.2 ⟨q, hq, he⟩)
   ·rw [hq] at he; rw [he] at hk; simp at hk
theorem KU.mdel {k : Int} : ∀ {m : List (Int × Bool)}, KU m -> KU (Px.mdel m k) /\ ∀ q ∈ Px.mdel m k, q ∈ m /\ q.1 ≠ k
 | [], h => ⟨h, fun q hq => by cases hq⟩
 | (a, b) :: m, h => by
  have h0 := h
  simp only [KU, List.map_cons, List.nodup_cons] at h
  simp only [Px.mdel]
  cases hk : (k == a) with
  | true =>
   have : k = a := by simpa using hk
   subst this
   refine ⟨h.2, fun q hq => ⟨List.mem_cons_of_mem _ hq, fun e => h.1 (List.mem_map.2 ⟨q, hq, e⟩)⟩⟩
  | false =>
   obtain ⟨i1, i2⟩ := KU.mdel (k := k) (m := m) h.2
   refine ⟨?_, fun q hq => ?_⟩
   ·simp only [cond_false, KU, List.map_cons, List.nodup_cons]
    refine ⟨fun hm => ?_, i1⟩
    obtain ⟨q, hq, he⟩ := List.mem_map.1 hm
    exact h.1 (List.mem_map.2 ⟨q, (i2 q hq).1, he⟩)
   ·rcases List.mem_cons.1 hq with rfl | hq
    ·exact ⟨List.mem_cons_self .., fun e => by simp at hk; exact hk e.symm⟩
    ·exact ⟨List.mem_cons_of_mem _ (i2 q hq).1, (i2 q hq).2⟩
def Ends (t : List z6) : Prop := ∀ A e B, t = A ++ e :: B -> e.stay = true -> e.second = false -> ∃ y ∈ B, y.stay = true /\ y.second = true /\ y.report = e.report
theorem zr4 : ∀ (A B : List z6) (m : List (Int × Bool)), zfd (A ++ B) m = zfd A m ++ zfd B (A.foldl (fun m e => covM e m) m)
 | [], B, m => rfl
 | e :: A, B, m => by simp only [List.cons_append, zfd, List.foldl_cons, zr4 A B]
theorem y9s {p : Pool} (hc : z01 p = 0) {l : List z7} (hl : FewL l) {w : Int} {x : z6} (h : x ∈ uns p l w) (h1 : x.stay = true) (h2 : x.second = false) : ∃ y ∈ uns p l w, y.stay = true /\ y.second = true /\ y.report = x.report /\ ltEv x y = true := by
 obtain ⟨a1, a2, a3, a4, a5⟩ := zfe hl.len h
 have ho := zea hc (hl.gt a1 a2) a4
 simp only [uns, unsC, List.mem_flatMap] at h
 obtain ⟨i, hi, hx⟩ := h
 split at hx
 case isFalse => cases hx
 rename_i hw
 obtain ⟨r1, r2, r3⟩ := z7l hx
 rw [r1] at ho a5
 unfold evs at a5
 split at a5
 ·simp only [List.mem_singleton] at a5; rw [a5] at h1; cases h1
 ·rename_i hk1
  split at a5
  ·rename_i hk
   simp only [List.mem_cons, List.not_mem_nil, or_false] at a5
   rcases a5 with a5 | a5
   ·refine ⟨⟨z4y (gt l i) (gt l i).item.place (gt l i).item.to, i, true, true, -1⟩, ?_, rfl, rfl, by rw [a5], ?_⟩
    ·simp only [uns, unsC, List.mem_flatMap]
     refine ⟨i, hi, ?_⟩
     rw [if_pos hw, evs, if_neg hk1, if_pos hk]
     simp
    ·have := (ho.to hk).1
     rw [a5]
     simp only [ltEv, decide_eq_true_eq, zb5, z4y, ordB]
     simp
     omega
   ·rw [a5] at h2; cases h2
  ·split at a5
   ·simp only [List.mem_singleton] at a5; rw [a5] at h1; cases h1
   ·cases a5
theorem y5s {p : Pool} (hc : z01 p = 0) {l : List z7} (hl : FewL l) (w : Int) : Ends (srt p l w) := by
 intro A e B hs h1 h2
 have hmem : ∀ x, x ∈ srt p l w ↔ x ∈ uns p l w := fun x => (z1h _ _).mem_iff
 obtain ⟨y, hy, y1, y2, y3, y4⟩ := y9s hc hl ((hmem e).1 (by rw [hs]; simp)) h1 h2
 have hy2 := (hmem y).2 hy
 rw [hs] at hy2
 have hpw := z86 zoz (uns p l w)
 change (srt p l w).Pairwise _ at hpw
 rw [hs, List.pairwise_append] at hpw
 rcases List.mem_append.1 hy2 with hy2 | hy2
 ·have := hpw.2.2 y hy2 e (List.mem_cons_self ..)
  rw [this] at y4; cases y4
 ·rcases List.mem_cons.1 hy2 with rfl | hy2
  ·rw [y2] at h2; cases h2
  ·exact ⟨y, hy2, y1, y2, y3⟩
theorem y8v {φ : Nat} {x : zg} {a b : z0r} (h : a.stay = true) (h2 : a.place ≠ b.place) : tvl φ x a b = 1073741825 := by
 unfold tvl z2z
 rw [if_pos (by simp [h, h2])]; rfl
theorem zzu {α : Type} [Inhabited α] {l : List α} {i : Nat} (h : i < l.length) : l[i]? = some (gt l (i : Int)) := by rw [z1g h]; exact List.getElem?_eq_getElem h
end Px
end
section
namespace Px
open Go
set_option linter.unusedVariables false
set_option linter.unusedSimpArgs false
theorem ydf {φ : Nat} (hφ : 800000 < φ) {x : zg} {a b : z0r} (h : tvl φ x a b < 1073741825) : ∃ t, zu φ x a.place b.place = some (t, 0, ()) /\ tvl φ x a b = t := by
 unfold tvl z2z at h ⊢
 split at h
 ·simp at h
 ·rename_i hc
  rw [if_neg hc]
  obtain ⟨t, e, hb, _, _⟩ := zn3 φ hφ x a.place b.place
  rw [hb, Option.bind_some] at h
  rw [hb, Option.bind_some]
  split at h
  ·simp at h
  ·rename_i he
   rw [if_neg he]
   simp only [bne_iff_ne, ne_eq, Decidable.not_not] at he
   subst he
   exact ⟨t, rfl, rfl⟩
theorem yds {tv : z0r -> z0r -> Int} {rs : List z18} {ts : List (List z6)} {ev : z1r} (h : ev ∈ (bAll tv rs ts).e) : ∃ t ∈ ts, ∃ x ∈ t, ∃ v, ev = evE v x /\ 1 <= v /\ v < (bAll tv rs ts).v /\ ∀ b ∈ evB (rdM rs ts) v x, b ∈ (bAll tv rs ts).b := by
 rw [zi9] at h ⊢
 have h0 := (z8i rs (used ts) rs.length).1
 change 1 <= (rd0 rs ts).v at h0
 rcases zzb tv (rdM rs ts) ts _ ev h with h | ⟨A, t, B, rfl, h⟩
 ·cases h
 ·obtain ⟨k1, k2, k3, k4⟩ := zpu tv (rdM rs (A ++ t :: B)) A B t (rd0 rs (A ++ t :: B))
  obtain ⟨i, hi⟩ := List.getElem?_of_mem h
  rw [y1x] at hi
  obtain ⟨x, hx, rfl⟩ := Option.map_eq_some_iff.1 hi
  have hlt := (List.getElem?_eq_some_iff.1 hx).1
  exact ⟨t, by simp, x, List.mem_of_getElem? hx, _, rfl, by omega, by omega, fun b hb => k3 b (zsw tv _ t none _ i x hx b hb)⟩
theorem ybu {tv : z0r -> z0r -> Int} {rs : List z18} {ts : List (List z6)} {ev : z1r} (h : ev ∈ (bAll tv rs ts).e) : 1 <= ev.var /\ ev.var < (bAll tv rs ts).v := by
 obtain ⟨t, ht, y, hy, v, rfl, v1, v2, hv⟩ := yds h
 exact ⟨v1, v2⟩
theorem y0g (tv m) : ∀ (ts : List (List z6)) (s : BS), (fB tv m ts s).e.length <= s.e.length + ((fB tv m ts s).v - s.v).toNat
 | [], s => by simp [fB]
 | t :: ts, s => by
  have ih := y0g tv m ts (bEv tv m none t s)
  have hm := (zfq tv m ts (bEv tv m none t s)).1
  have e1 : fB tv m (t :: ts) s = fB tv m ts (bEv tv m none t s) := rfl
  rw [e1]
  rw [zx2] at ih hm
  rw [zwt, List.length_append, zuo] at ih
  omega
theorem zym (tv) (rs : List z18) (ts : List (List z6)) : ((bAll tv rs ts).e.length : Int) <= (bAll tv rs ts).v := by
 have h0 := (z8i rs (used ts) rs.length).1
 change 1 <= (rd0 rs ts).v at h0
 have := y0g tv (rdM rs ts) ts (rd0 rs ts)
 have hm := (zfq tv (rdM rs ts) ts (rd0 rs ts)).1
 rw [zi9]
 simp only [rd0, List.length_nil] at this
 simp only [rd0] at hm h0 ⊢
 omega
end Px
end
section
namespace Px
open Go
set_option linter.unusedVariables false
set_option linter.unusedSimpArgs false
def zrs (n : Int) (L : List za) : Prop := ∀ v : Int, 1 <= v -> v < n -> (∃ b ∈ L, b.i = 0 /\ b.j = v) /\ ∃ b ∈ L, b.i = v /\ b.j = 0
theorem zrs.app {n : Int} {L M : List za} (h : zrs n L) : zrs n (L ++ M) := fun v h1 h2 => by
 obtain ⟨⟨b, q1, q2⟩, c, q3, q4⟩ := h v h1 h2
 exact ⟨⟨b, List.mem_append_left _ q1, q2⟩, c, List.mem_append_left _ q3, q4⟩
theorem zq4 (rs : List z18) (m : List (Int × Int)) : ∀ n : Nat, zrs (rdsN rs m n).v (rdsN rs m n).b
 | 0 => fun v h1 h2 => by simp only [rdsN] at h2; omega
 | n + 1 => by
  have ih := zq4 rs m n
  simp only [rdsN, ziv]
  split
  ·intro v h1 h2
   simp only at h2 ⊢
   by_cases e : v = (rdsN rs m n).v
   ·subst e
    exact ⟨⟨_, List.mem_append_right _ (List.mem_cons_self ..), rfl, rfl⟩, _, List.mem_append_right _ (List.mem_cons_of_mem _ (List.mem_cons_self ..)), rfl, rfl⟩
   ·exact ih.app v h1 (by omega)
  ·exact ih
theorem y65 (m : List (Int × Int)) (v : Int) (e : z6) : (∃ b ∈ evB m v e, b.i = 0 /\ b.j = v) /\ ∃ b ∈ evB m v e, b.i = v /\ b.j = 0 := by
 unfold evB
 split
 ·exact ⟨⟨⟨0, v, e.visit.early⟩, by simp, rfl, rfl⟩, ⟨v, 0, 0 - e.visit.early⟩, by simp, rfl, rfl⟩
 ·exact ⟨⟨⟨0, v, 1073741824⟩, by simp, rfl, rfl⟩, ⟨v, 0, 0⟩, by simp, rfl, rfl⟩
theorem zws (tv m) : ∀ (t : List z6) (pr) (s : BS), zrs s.v s.b -> zrs (bEv tv m pr t s).v (bEv tv m pr t s).b
 | [], pr, s, h => h
 | e :: t, pr, s, h => zws tv m t _ _ (by
  intro v h1 h2
  simp only [zbd] at h2 ⊢
  by_cases q : v = s.v
  ·subst q
   obtain ⟨⟨b, b1, b2⟩, c, c1, c2⟩ := y65 m s.v e
   exact ⟨⟨b, List.mem_append_left _ (List.mem_append_right _ b1), b2⟩, c, List.mem_append_left _ (List.mem_append_right _ c1), c2⟩
  ·exact (h.app.app) v h1 (by omega))
theorem y3g (tv m) : ∀ (ts : List (List z6)) (s : BS), zrs s.v s.b -> zrs (fB tv m ts s).v (fB tv m ts s).b
 | [], s, h => h
 | t :: ts, s, h => y3g tv m ts _ (zws tv m t none s h)
theorem zze (tv) (rs : List z18) (ts : List (List z6)) : Conn (bAll tv rs ts).b (bAll tv rs ts).v.toNat := by
 have h := y3g tv (rdM rs ts) ts (rd0 rs ts) (zq4 rs (used ts) rs.length)
 rw [<- zi9] at h
 exact fun v h1 h2 => h v h1 (by omega)
def SolF (s : BS) (X : Int -> Int) : Prop := ∀ b ∈ s.b, X b.j - X b.i <= b.w
theorem zr5 {s : BS} {X : Int -> Int} : SolF s X ↔ SolD false s.b X := by
 unfold SolF SolD bdJ bdI
 simp
theorem ybz {L : List za} {d : Int -> Int} (h : SolD true L d) : ∀ b ∈ L, (- d b.j) - (- d b.i) <= b.w := fun b hb => by
 have := h b hb
 simp only [bdJ, bdI, if_true] at this
 omega
structure ETs (s : BS) (E T : Int -> Int) : Prop where
 eS : SolF s E
 tS : SolF s T
 e0 : E 0 = 0
 t0 : T 0 = 0
 e : ∀ X, SolF s X -> ∀ v, 0 <= v -> v < s.v -> E v <= X v - X 0
 t : ∀ X, SolF s X -> ∀ v, 0 <= v -> v < s.v -> X v - X 0 <= T v
theorem ycb {s : BS} (h1 : 1 <= s.v) {d t : Int -> Int} (hd : zr1 true s.b s.v.toNat 0 d) (ht : zr1 false s.b s.v.toNat 0 t) : ETs s (fun v => - d v) t := by
 refine ⟨ybz hd.sat, zr5.2 ht.sat, by have := hd.zero; omega, ht.zero, fun X hX v v0 v1 => ?_, fun X hX v v0 v1 => ht.top X (zr5.1 hX) v v0 (by omega)⟩
 have := hd.top (fun v => - X v) (zvh (zr5.1 hX)) v v0 (by omega)
 omega
section
variable {φ : Nat} (hφ : 800000 < φ) {p : Pool} (hc : z01 p = 0) {l : List z7} (hl : FewL l)
theorem zzg {p : Pool} (hc : z01 p = 0) {r : z7} (h : zqu p r.item) {i : Int} {x : z6} (hx : x ∈ evs p r i) : okPl p.network x.visit.place := by
 unfold evs at hx
 split at hx
 ·rename_i hk
  simp only [List.mem_singleton] at hx; subst hx
  obtain ⟨h0, h1⟩ := h.read hk
  have := (zen hc).1 _ (z1d (l := p.readers) h0 h1)
  exact ⟨this.1, this.2.1⟩
 ·split at hx
  ·rename_i hk
   have := h.place (by omega)
   simp only [List.mem_cons, List.not_mem_nil, or_false] at hx
   rcases hx with rfl | rfl <;> exact this
  ·split at hx
   ·rename_i hk
    have := h.place (by omega)
    simp only [List.mem_singleton] at hx; subst hx
    exact this
   ·cases hx
include hc hl
theorem ztk {w : Int} {x : z6} (h : x ∈ z1l p l w) : okPl p.network x.visit.place := by
 obtain ⟨y, hy, b, rfl⟩ := zbk h
 obtain ⟨h1, h2, _, h3, h4⟩ := zfe hl.len hy
 exact zzg (x := y) hc (zea hc (hl.gt h1 h2) h3) h4
include hφ
end
end Px
end
section
namespace Px
open Go
set_option linter.unusedVariables false
set_option linter.unusedSimpArgs false
abbrev bsB (φ : Nat) (p : Pool) (l : List z7) : BS := bAll (tvl φ p.network) p.readers (ze p l)
structure Good (s : BS) : Prop where
 v1 : 1 <= s.v
 v2 : s.v <= 512
 bl : s.b.length <= 4096
 ok : ∀ b ∈ s.b, okBd s.v.toNat b
 conn : Conn s.b s.v.toNat
 ev : ∀ y ∈ s.e, 1 <= y.var /\ y.var < s.v
 el : (s.e.length : Int) <= s.v
theorem y91 {φ : Nat} (hφ : 800000 < φ) {p : Pool} (hc : z01 p = 0) {l : List z7} (hl : FewL l) (hb : ¬ (512 < (bsB φ p l).v \/ 4096 < (bsB φ p l).b.length)) : Good (bsB φ p l) := by
 obtain ⟨h1, h2⟩ := yaa (tv := tvl φ p.network) (fun a b => (y7a φ hφ p.network a b).2) (tsOK hc hl)
 exact ⟨h1, by omega, by omega, h2, zze _ _ _, fun y hy => ybu hy, zym _ _ _⟩
def ydp (s : BS) : List Int := (runD false s.b s.v.toNat ⟨d0 s.v.toNat 0, true⟩).d
def ye2 (s : BS) : List Int := (runD true s.b s.v.toNat ⟨d0 s.v.toNat 0, true⟩).d
def ye7 (s : BS) (v : Int) : Int := gt (ydp s) v
def y9b (s : BS) (v : Int) : Int := - gt (ye2 s) v
theorem Good.ets {s : BS} (h : Good s) {X : Int -> Int} (hX : SolF s X) : ETs s (y9b s) (ye7 s) := by
 have hv := h.v1
 have hv2 := h.v2
 have e := zmw (r := true) (n := s.v.toNat) (by omega) h.ok h.conn (p := fun v => - X v) (zvh (zr5.1 hX)) (u := 0) (by omega) (by omega)
 have t := zmw (r := false) (n := s.v.toNat) (by omega) h.ok h.conn (zr5.1 hX) (u := 0) (by omega) (by omega)
 exact ycb hv e.2 t.2
def visE (E T : Int -> Int) (y : z1r) : z0r := ⟨y.wagon, y.place, y.ref, y.stay, E y.var, T y.var⟩
def hisL (s : BS) : List z0r := s.e.map (visE (y9b s) (y9b s))
theorem Good.chk {s : BS} (h : Good s) : chkD s.v s.b = 0 := by
 have hv := h.v1
 have hv2 := h.v2
 have := yb6 (n := s.v.toNat) (by omega) (by omega) h.bl h.ok
 rwa [show ((s.v.toNat : Nat) : Int) = s.v by omega] at this
theorem Good.solve {s : BS} (h : Good s) (φ : Nat) (hφ : 5001 < φ) : zbn φ s.v s.b = some (if 0 <= (low s.v.toNat s.b).z then ([], 230, ()) else ((low s.v.toNat s.b).x, 0, ())) := by
 rw [y6m φ hφ, h.chk, if_neg (by simp)]
def hst (φ : Nat) (p : Pool) (l : List z7) : List z0r × Int × Unit :=
 if z01 p ≠ 0 then ([], z01 p, ())
 else if 512 < (bsB φ p l).v \/ 4096 < (bsB φ p l).b.length then ([], 2, ())
 else if 0 <= (low (bsB φ p l).v.toNat (bsB φ p l).b).z then ([], 230, ())
 else (hisL (bsB φ p l), 0, ())
theorem Good.sol {s : BS} (h : Good s) : (low s.v.toNat s.b).z < 0 ↔ ∃ X, SolF s X := by
 have hv := h.v1
 constructor
 ·exact fun hz => ⟨gt (low s.v.toNat s.b).x, fun b hb => y96 (by omega) h.ok hz hb⟩
 ·rintro ⟨X, hX⟩
  exact y5h (by omega) h.ok X hX
end Px
end
section
namespace Px
open Go
set_option linter.unusedVariables false
set_option linter.unusedSimpArgs false
theorem y3r (φ : Nat) (hφ : 1000 < φ) (p : Pool) : ∃ b, z5x φ p = some (b, ()) /\ (b = true -> p.network.places.length <= 16 /\ p.network.edges.length <= 40 /\ p.fleet.wagons.length <= 8 /\ p.readers.length <= 8) := by
 unfold z5x
 split
 ·exact ⟨false, rfl, fun h => by cases h⟩
 ·rename_i hc
  simp only [Bool.or_eq_true, decide_eq_true_eq, not_or] at hc
  obtain ⟨⟨⟨⟨⟨⟨c1, c2⟩, c3⟩, c4⟩, c5⟩, c6⟩, c7⟩ := hc
  have : ∃ b, z15 φ φ 0 p = some (b, ()) := by
   refine zp (fun n i (_ : Unit) => z15 φ n i p) p.railways.length (fun _ _ => True) (fun o => ∃ b, o = some (b, ())) ?_ ?_ φ () trivial (by omega)
   ·intro n i _ hi _ hs
    rw [z15, if_pos (by simp; omega), z8 ⟨by omega, by omega⟩, W_id (by omega) (by omega)]
    split
    ·exact ⟨false, rfl⟩
    ·exact hs () trivial
   ·intro n _ _
    rw [z15, if_neg (by simp)]
    exact ⟨true, rfl⟩
  obtain ⟨b, hb⟩ := this
  exact ⟨b, hb, fun _ => by omega⟩
theorem y9r (φ : Nat) (hφ : 1000 < φ) (l : List z7) (N : Nat) (hN : N <= 500) : ∃ b, z3t φ l N = some (b, ()) /\ (b = true -> FewL l /\ l.length <= N) /\ (b = true ↔ l.length <= N /\ ∀ r ∈ l, r.item.parts.length <= 40 /\ r.item.text.size <= 2000) := by
 unfold z3t
 by_cases h60 : N < l.length
 ·rw [if_pos (by simp; omega)]
  exact ⟨false, rfl, (fun h => by cases h), (fun h => by cases h), fun h => by omega⟩
 ·rw [if_neg (by simp; omega)]
  refine zp (fun n i (_ : Unit) => z1i φ n l i) l.length (fun i _ => ∀ j : Nat, j < i -> (gt l (j : Int)).item.parts.length <= 40 /\ (gt l (j : Int)).item.text.size <= 2000)
   (fun o => ∃ b, o = some (b, ()) /\ (b = true -> FewL l /\ l.length <= N) /\ (b = true ↔ l.length <= N /\ ∀ r ∈ l, r.item.parts.length <= 40 /\ r.item.text.size <= 2000)) ?_ ?_ φ () (fun j hj => by omega) (by omega)
  ·intro n i _ hi hI hs
   rw [z1i, if_pos (by simp; omega), z8 ⟨by omega, by omega⟩, z8 (fun _ => ⟨by omega, by omega⟩), W_id (by omega) (by omega)]
   split
   ·rename_i hc
    simp only [Bool.or_eq_true, decide_eq_true_eq] at hc
    refine ⟨false, rfl, (fun h => by cases h), (fun h => by cases h), fun h => ?_⟩
    have := h.2 _ (z1d (l := l) (i := (i : Int)) (by omega) (by omega))
    omega
   ·rename_i hc
    simp only [Bool.or_eq_true, decide_eq_true_eq, not_or] at hc
    refine hs () fun j hj => ?_
    by_cases e : j = i
    ·subst e; omega
    ·exact hI j (by omega)
  ·intro n _ hI
   rw [z1i, if_neg (by simp)]
   have all : ∀ r ∈ l, r.item.parts.length <= 40 /\ r.item.text.size <= 2000 := fun r hr => by
    obtain ⟨j, hj, rfl⟩ := zgw hr
    exact hI j hj
   exact ⟨true, rfl, fun _ => ⟨⟨by omega, fun r hr => by have := all r hr; omega⟩, by omega⟩, fun _ => ⟨by omega, all⟩, fun _ => rfl⟩
theorem y0j (k : Nat) (x : Int) : ∀ n : Nat, ((List.range n).map fun (w : Nat) => if x = (w : Int) then k else 0).sum <= if x < (n : Int) then k else 0
 | 0 => by simp
 | n + 1 => by
  have ih := y0j k x n
  rw [List.range_succ, List.map_append, List.sum_append]
  simp only [List.map_cons, List.map_nil, List.sum_cons, List.sum_nil, Nat.add_zero]
  by_cases h : x = (n : Int)
  ·rw [if_pos h, if_pos (by omega)]
   rw [if_neg (by omega)] at ih
   omega
  ·rw [if_neg h]
   by_cases h2 : x < (n : Int)
   ·rw [if_pos h2] at ih; rw [if_pos (by omega)]; omega
   ·rw [if_neg h2] at ih; omega
theorem y3a (f g : Nat -> Nat) : ∀ l : List Nat, (l.map fun w => f w + g w).sum = (l.map f).sum + (l.map g).sum
 | [] => rfl
 | a :: l => by
  have := y3a f g l
  simp only [List.map_cons, List.sum_cons]
  omega
theorem zz6 (p : Pool) (l : List z7) (n : Nat) : ∀ c : List Int, ((List.range n).map fun (w : Nat) => (unsC p l c (w : Int)).length).sum <= 2 * c.length
 | [] => by
  have : ∀ l : List Nat, (l.map fun _ => 0).sum = 0 := fun l => by
   induction l with
   | nil => rfl
   | cons a l ih => rw [List.map_cons, List.sum_cons, ih]
  have h := this (List.range n)
  show ((List.range n).map fun (w : Nat) => ([] : List z6).length).sum <= 0
  exact Nat.le_of_eq h
 | i :: c => by
  have ih := zz6 p l n c
  have e : ∀ w : Int, (unsC p l (i :: c) w).length = (if (gt l i).item.wagon = w then (evs p (gt l i) i).length else 0) + (unsC p l c w).length := fun w => by
   unfold unsC
   rw [List.flatMap_cons, List.length_append]
   split <;> rfl
  simp only [e]
  rw [y3a]
  have h1 := y0j (evs p (gt l i) i).length (gt l i).item.wagon n
  have h2 := zto p (gt l i) i
  rw [List.length_cons]
  split at h1 <;> omega
theorem y6h (p : Pool) (l : List z7) : (ze p l).flatten.length <= 2 * l.length := by
 rw [List.length_flatten]
 unfold ze
 rw [List.map_map]
 have h := zz6 p l p.fleet.wagons.length (cnt p l)
 have h2 := zgb p l l.length
 have e : (List.length ∘ fun (w : Nat) => z1l p l (w : Int)) = fun (w : Nat) => (unsC p l (cnt p l) (w : Int)).length := by
  funext w
  simp only [Function.comp]
  unfold z1l srt
  rw [zbj, (z1h _ _).length_eq]
  rfl
 rw [e]
 unfold cnt at h ⊢
 omega
theorem BB.fold (tv m) : ∀ (ts : List (List z6)) (n : Nat) (s : BS), BB n s -> BB (n + ts.flatten.length) (fB tv m ts s)
 | [], n, s, h => h
 | t :: ts, n, s, h => by
  have := BB.fold tv m ts _ _ (BB.ev tv m t n none s h)
  rw [Nat.add_assoc] at this
  rw [List.flatten_cons, List.length_append]
  exact this
theorem y8n (tv) {rs : List z18} (hr : rs.length <= 256) (ts : List (List z6)) : BB ts.flatten.length (bAll tv rs ts) := by
 obtain ⟨h1, h2, h3, h4⟩ := z8i rs (used ts) rs.length
 have h0 : BB 0 (rd0 rs ts) := ⟨h1, by show (rdsN rs (used ts) rs.length).v <= _; omega, by show (rdsN rs (used ts) rs.length).b.length <= _; omega, by show (rdsN rs (used ts) rs.length).y.length <= _; omega, by simp⟩
 have := BB.fold tv (rdM rs ts) ts 0 _ h0
 rw [Nat.zero_add] at this
 exact this
theorem y97 {φ : Nat} {p : Pool} (hc : z01 p = 0) {l : List z7} (hl : l.length <= 100) : (bsB φ p l).v <= 257 + 2 * l.length /\ (bsB φ p l).b.length <= 512 + 10 * l.length /\ (bsB φ p l).e.length <= 2 * l.length /\ ¬ (512 < (bsB φ p l).v \/ 4096 < (bsB φ p l).b.length) := by
 have h : BB (ze p l).flatten.length (bsB φ p l) := y8n (tvl φ p.network) (z9c hc).2.2.1 (ze p l)
 have h2 := y6h p l
 have q1 := h.v1
 have q2 := h.b
 have q3 := h.e
 refine ⟨by omega, by omega, ?_, by omega⟩
 omega
theorem zuz : ∀ (a b : List z6) (v : Int), evsE v (a ++ b) = evsE v a ++ evsE (v + a.length) b
 | [], b, v => by simp [evsE]
 | x :: a, b, v => by
  simp only [List.cons_append, evsE, zuz a b (v + 1), List.length_cons]
  rw [show v + 1 + (a.length : Int) = v + ((a.length + 1 : Nat) : Int) by omega]
theorem zui (tv m) : ∀ (ts : List (List z6)) (s : BS), (fB tv m ts s).e = s.e ++ evsE s.v ts.flatten /\ (fB tv m ts s).v = s.v + ts.flatten.length
 | [], s => by simp [fB, evsE]
 | t :: ts, s => by
  obtain ⟨h1, h2⟩ := zui tv m ts (bEv tv m none t s)
  have e : fB tv m (t :: ts) s = fB tv m ts (bEv tv m none t s) := rfl
  rw [e, h1, h2, zwt, zx2, List.flatten_cons, zuz, List.length_append, List.append_assoc]
  exact ⟨rfl, by omega⟩
def v0E (p : Pool) (l : List z7) : Int := (rd0 p.readers (ze p l)).v
def offW (p : Pool) (l : List z7) (w : Nat) : Nat := ((ze p l).take w).flatten.length
theorem zf5 (p : Pool) (l : List z7) {w : Nat} (h : w < p.fleet.wagons.length) : (ze p l)[w]? = some (z1l p l (w : Int)) := by
 unfold ze
 simp [h]
theorem zbz (p : Pool) (l : List z7) {w : Nat} (h : w < p.fleet.wagons.length) : ze p l = (ze p l).take w ++ z1l p l (w : Int) :: (ze p l).drop (w + 1) := by
 have hl : (ze p l).length = p.fleet.wagons.length := by simp [ze]
 have h2 := zf5 p l h
 rw [List.getElem?_eq_getElem (by omega), Option.some.injEq] at h2
 rw [<- h2]
 simp
theorem zib (p : Pool) (l : List z7) {w : Nat} (h : w < p.fleet.wagons.length) : (ze p l).flatten = ((ze p l).take w).flatten ++ (z1l p l (w : Int) ++ ((ze p l).drop (w + 1)).flatten) := by
 conv => lhs; rw [zbz p l h]
 rw [List.flatten_append, List.flatten_cons]
theorem y8a (p : Pool) (l : List z7) {w : Nat} (h : w < p.fleet.wagons.length) : offW p l w + (z1l p l (w : Int)).length <= (ze p l).flatten.length := by
 rw [zib p l h, List.length_append, List.length_append]
 unfold offW; omega
theorem y8t (p : Pool) (l : List z7) {w : Nat} (h : w < p.fleet.wagons.length) {i : Nat} (hi : i < (z1l p l (w : Int)).length) : gt (ze p l).flatten ((offW p l w + i : Nat) : Int) = gt (z1l p l (w : Int)) (i : Int) := by
 have := y8a p l h
 rw [z1g (by omega), z1g hi]
 have e : ∀ (k : Nat) (hk : k < (ze p l).flatten.length), (ze p l).flatten[k] = (((ze p l).take w).flatten ++ (z1l p l (w : Int) ++ ((ze p l).drop (w + 1)).flatten))[k]'(by rw [<- zib p l h]; exact hk) := fun k hk => by
  congr 1; exact zib p l h
 rw [e, List.getElem_append_right (by unfold offW; omega)]
 unfold offW
 rw [List.getElem_append_left (by omega)]
 congr 1; omega
section
variable (φ : Nat) {p : Pool} {l : List z7} (hl : FewL l) {w : Int} (w0 : 0 <= w) (w1 : w < (p.fleet.wagons.length : Int))
include hl w0 w1
end
end Px
end
section
namespace Px
open Go
set_option linter.unusedVariables false
set_option linter.unusedSimpArgs false
theorem zwk (rs : List z18) (m : List (Int × Int)) (ρ : Int -> Int) (hr : ∀ i : Nat, i < rs.length -> 0 - (gt rs (i : Int)).high <= ρ i /\ ρ i <= 0 - (gt rs (i : Int)).low) : ∀ n : Nat, n <= rs.length ->
  ∃ X : Int -> Int, X 0 = 0 /\ (∀ b ∈ (rdsN rs m n).b, X b.j - X b.i <= b.w) /\ ∀ i : Nat, i < n -> (mget m (i : Int)).isSome = true -> ∀ v, mget (rdsN rs m n).m (i : Int) = some v -> X v = ρ i
 | 0, _ => ⟨fun _ => 0, rfl, fun b hb => by simp [rdsN] at hb, fun i hi => by omega⟩
 | n + 1, hn => by
  obtain ⟨X, x0, x1, x2⟩ := zwk rs m ρ hr n (by omega)
  obtain ⟨g1, g2⟩ := zor rs m n
  have hb := zv6 rs m n (by omega)
  have hv := (z8i rs m n).1
  have h3 := g2 (n : Int) (Int.le_refl _)
  have hrn := hr n (by omega)
  simp only [rdsN, ziv]
  split
  ·rename_i hs
   generalize hvv : (rdsN rs m n).v = vv at *
   refine ⟨fun v => if v = vv then ρ n else X v, by simp only; rw [if_neg (by omega), x0], fun b q => ?_, fun i hi hm v q => ?_⟩
   ·simp only [List.mem_append, List.mem_cons, List.not_mem_nil, or_false] at q
    rcases q with q | rfl | rfl
    ·obtain ⟨r, _, v, v1, v2, v3⟩ := hb b q
     have := x1 b q
     rcases v3 with rfl | rfl
     ·simp only at this ⊢; rw [if_neg (by omega), if_neg (by omega)]; exact this
     ·simp only at this ⊢; rw [if_neg (by omega), if_neg (by omega)]; exact this
    ·simp only; rw [if_pos trivial, if_neg (by omega), x0]; omega
    ·simp only; rw [if_pos trivial, if_neg (by omega), x0]; omega
   ·simp only [zbi] at q
    by_cases e : i = n
    ·subst e
     rw [if_pos rfl] at q
     cases q
     simp only; rw [if_pos trivial]
    ·rw [if_neg (by omega)] at q
     obtain ⟨u, q1, q2, q3⟩ := g1 i (by omega) hm
     rw [q1] at q; cases q
     simp only; rw [if_neg (by omega)]
     exact x2 i (by omega) hm _ q1
  ·rename_i hs
   refine ⟨X, x0, x1, fun i hi hm v q => ?_⟩
   by_cases e : i = n
   ·subst e; rw [h3] at hs; exact absurd hm hs
   ·exact x2 i (by omega) hm v q
def ChT (tv : z0r -> z0r -> Int) (f : z6 -> Int) : Option (z0r × Int) -> List z6 -> Prop
 | _, [] => True
 | pr, e :: t => (∀ a, pr = some a -> tv a.1 e.visit <= f e - a.2) /\ ChT tv f (some (e.visit, f e)) t
def EvT (f : z6 -> Int) (ρ : Int -> Int) (e : z6) : Prop := (e.reader < 0 -> f e = e.visit.early) /\ (0 <= e.reader -> f e = e.visit.early + ρ e.reader /\ 0 <= f e /\ f e <= 1073741824)
structure PS (m : List (Int × Int)) (ρ : Int -> Int) (c : Int) (s : BS) (X : Int -> Int) : Prop where
 x0 : X 0 = 0
 sol : SolF s X
 bd : ∀ b ∈ s.b, b.i < s.v /\ b.j < s.v
 v : 1 <= s.v
 cv : c <= s.v
theorem zz8 (tv : z0r -> z0r -> Int) (m : List (Int × Int)) (ρ : Int -> Int) (f : z6 -> Int) (c : Int) : ∀ (t : List z6) (pr : Option (z0r × Int)) (s : BS) (X : Int -> Int), PS m ρ c s X ->
  (∀ e ∈ t, 0 <= e.reader -> 1 <= rv m e /\ rv m e < c /\ X (rv m e) = ρ e.reader) -> (∀ e ∈ t, EvT f ρ e) -> ChT tv f pr t -> (∀ a, pr = some a -> X (s.v - 1) = a.2 /\ 2 <= s.v) ->
  ∃ X', PS m ρ c (bEv tv m (pr.map (·.1)) t s) X' /\ (∀ v, v < s.v -> X' v = X v) /\ ∀ (i : Nat) e, t[i]? = some e -> X' (s.v + i) = f e
 | [], pr, s, X, H, _, _, _, _ => ⟨X, H, fun _ _ => rfl, fun i e h => by simp at h⟩
 | e :: t, pr, s, X, H, hr, hf, hch, hp => by
  have he := hf e (List.mem_cons_self ..)
  have hre := hr e (List.mem_cons_self ..)
  have hv := H.v
  have hcv := H.cv
  have h0 := H.x0
  let X1 : Int -> Int := fun v => if v = s.v then f e else X v
  have hX1 : ∀ v, v < s.v -> X1 v = X v := fun v hv => by show (if v = s.v then f e else X v) = _; rw [if_neg (by omega)]
  have hXv : X1 s.v = f e := by show (if s.v = s.v then f e else X s.v) = _; rw [if_pos rfl]
  have hX0 : X1 0 = 0 := by rw [hX1 0 (by omega)]; exact h0
  have P1 : PS m ρ c (zbd tv m (pr.map (·.1)) e s) X1 := by
   have key : ∀ b ∈ evB m s.v e ++ trB tv s.v (pr.map (·.1)) e, X1 b.j - X1 b.i <= b.w /\ b.i < s.v + 1 /\ b.j < s.v + 1 := by
    intro b hb
    rcases List.mem_append.1 hb with hb | hb
    ·unfold evB at hb
     split at hb
     ·rename_i q
      have := he.1 q
      simp only [List.mem_cons, List.not_mem_nil, or_false] at hb
      rcases hb with rfl | rfl
      ·simp only [hXv, hX0]; omega
      ·simp only [hXv, hX0]; omega
     ·rename_i q
      obtain ⟨r1, r2, r3⟩ := hre (by omega)
      obtain ⟨f1, f2, f3⟩ := he.2 (by omega)
      have hXr : X1 (rv m e) = ρ e.reader := by rw [hX1 _ (by omega)]; exact r3
      simp only [List.mem_cons, List.not_mem_nil, or_false] at hb
      rcases hb with rfl | rfl | rfl | rfl
      ·simp only [hXv, hXr]; omega
      ·simp only [hXv, hXr]; omega
      ·simp only [hXv, hX0]; omega
      ·simp only [hXv, hX0]; omega
    ·cases pr with
     | none => simp [trB] at hb
     | some a =>
      simp only [Option.map_some, trB, List.mem_singleton] at hb
      obtain ⟨p1, p2⟩ := hp a rfl
      have := hch.1 a rfl
      subst hb
      simp only [hXv, hX1 (s.v - 1) (by omega), p1]
      omega
   refine ⟨hX0, fun b hb => ?_, fun b hb => ?_, by simp only [zbd]; omega, by simp only [zbd]; omega⟩
   ·simp only [zbd, List.append_assoc] at hb
    rcases List.mem_append.1 hb with hb | hb
    ·have := H.bd b hb
     rw [hX1 _ this.1, hX1 _ this.2]
     exact H.sol b hb
    ·exact (key b hb).1
   ·simp only [zbd, List.append_assoc] at hb ⊢
    rcases List.mem_append.1 hb with hb | hb
    ·have := H.bd b hb; omega
    ·exact (key b hb).2
  obtain ⟨X2, g1, g2, g3⟩ := zz8 tv m ρ f c t (some (e.visit, f e)) (zbd tv m (pr.map (·.1)) e s) X1 P1 (fun y hy q => by
   obtain ⟨r1, r2, r3⟩ := hr y (List.mem_cons_of_mem _ hy) q
   exact ⟨r1, r2, by rw [hX1 _ (by omega)]; exact r3⟩) (fun y hy => hf y (List.mem_cons_of_mem _ hy)) hch.2 (fun a ha => by
   cases ha
   simp only [zbd]
   exact ⟨by rw [show s.v + 1 - 1 = s.v by omega]; exact hXv, by omega⟩)
  refine ⟨X2, g1, fun v hv => ?_, fun i y hy => ?_⟩
  ·rw [g2 v (by simp only [zbd]; omega)]; exact hX1 v hv
  ·cases i with
   | zero =>
    simp at hy; subst hy
    rw [show s.v + ((0 : Nat) : Int) = s.v by omega, g2 s.v (by simp only [zbd]; omega)]
    exact hXv
   | succ i =>
    have := g3 i y (by simpa using hy)
    simp only [zbd] at this
    rw [show s.v + ((i + 1 : Nat) : Int) = s.v + 1 + (i : Int) by omega]
    exact this
theorem y7n (tv : z0r -> z0r -> Int) (m : List (Int × Int)) (ρ : Int -> Int) (f : z6 -> Int) (c : Int) : ∀ (ts : List (List z6)) (s : BS) (X : Int -> Int), PS m ρ c s X ->
  (∀ t ∈ ts, ∀ e ∈ t, 0 <= e.reader -> 1 <= rv m e /\ rv m e < c /\ X (rv m e) = ρ e.reader) -> (∀ t ∈ ts, ∀ e ∈ t, EvT f ρ e) -> (∀ t ∈ ts, ChT tv f none t) ->
  ∃ X', PS m ρ c (fB tv m ts s) X' /\ (∀ v, v < s.v -> X' v = X v) /\ ∀ A t B, ts = A ++ t :: B -> ∀ (i : Nat) e, t[i]? = some e -> X' ((fB tv m A s).v + i) = f e
 | [], s, X, H, _, _, _ => ⟨X, H, fun _ _ => rfl, fun A t B h => by cases A <;> cases h⟩
 | t :: ts, s, X, H, hr, hf, hch => by
  obtain ⟨X1, g1, g2, g3⟩ := zz8 tv m ρ f c t none s X H (hr t (List.mem_cons_self ..)) (hf t (List.mem_cons_self ..)) (hch t (List.mem_cons_self ..)) (fun a ha => by cases ha)
  have hcv := H.cv
  obtain ⟨X2, k1, k2, k3⟩ := y7n tv m ρ f c ts (bEv tv m none t s) X1 g1 (fun u hu e he q => by
   obtain ⟨r1, r2, r3⟩ := hr u (List.mem_cons_of_mem _ hu) e he q
   exact ⟨r1, r2, by rw [g2 _ (by omega)]; exact r3⟩) (fun u hu => hf u (List.mem_cons_of_mem _ hu)) (fun u hu => hch u (List.mem_cons_of_mem _ hu))
  have hbv : (bEv tv m none t s).v = s.v + t.length := zx2 tv m t none s
  refine ⟨X2, k1, fun v hv => ?_, fun A u B hAB i e he => ?_⟩
  ·rw [k2 v (by rw [hbv]; omega)]; exact g2 v hv
  ·cases A with
   | nil =>
    simp only [List.nil_append, List.cons.injEq] at hAB
    obtain ⟨rfl, rfl⟩ := hAB
    have hlt := (List.getElem?_eq_some_iff.1 he).1
    show X2 (s.v + i) = f e
    rw [k2 _ (by rw [hbv]; omega)]
    exact g3 i e he
   | cons a A =>
    simp only [List.cons_append, List.cons.injEq] at hAB
    obtain ⟨rfl, rfl⟩ := hAB
    exact k3 A u B rfl i e he
theorem y4l {tv : z0r -> z0r -> Int} {rs : List z18} {ts : List (List z6)} (hT : TsOK rs ts) {ρ : Int -> Int} {f : z6 -> Int} (hr : ∀ i : Nat, i < rs.length -> 0 - (gt rs (i : Int)).high <= ρ i /\ ρ i <= 0 - (gt rs (i : Int)).low)
  (hf : ∀ t ∈ ts, ∀ e ∈ t, EvT f ρ e) (hch : ∀ t ∈ ts, ChT tv f none t) : ∃ X, X 0 = 0 /\ SolF (bAll tv rs ts) X /\ ∀ A t B, ts = A ++ t :: B -> ∀ (i : Nat) e, t[i]? = some e -> X ((fB tv (rdM rs ts) A (rd0 rs ts)).v + i) = f e := by
 obtain ⟨X, x0, x1, x2⟩ := zwk rs (used ts) ρ hr rs.length (Nat.le_refl _)
 have h0 := (z8i rs (used ts) rs.length).1
 have hb := zv6 rs (used ts) rs.length (Nat.le_refl _)
 have P0 : PS (rdM rs ts) ρ (rd0 rs ts).v (rd0 rs ts) X := ⟨x0, x1, fun b q => by
  obtain ⟨r, _, v, v1, v2, v3⟩ := hb b q
  change v < (rd0 rs ts).v at v2
  rcases v3 with rfl | rfl
  ·exact ⟨by show (0 : Int) < _; omega, v2⟩
  ·exact ⟨v2, by show (0 : Int) < _; omega⟩, h0, Int.le_refl _⟩
 obtain ⟨X', g1, g2, g3⟩ := y7n tv (rdM rs ts) ρ f _ ts (rd0 rs ts) X P0 (fun t ht e he q => by
  obtain ⟨r1, r2, r3⟩ := y9a hT ht he q
  have hlt := hT.reader t ht e he
  refine ⟨r2, r3, ?_⟩
  have hu := zwb ts [] t e ht he q
  have e1 : ((e.reader.toNat : Nat) : Int) = e.reader := by omega
  have := x2 e.reader.toNat (by omega) (by rw [e1]; exact hu) _ (by rw [e1]; exact r1)
  rw [e1] at this
  exact this) hf hch
 exact ⟨X', g1.x0, g1.sol, g3⟩
end Px
end
section
namespace Px
open Go
set_option linter.unusedVariables false
set_option linter.unusedSimpArgs false
def zjh (m : List (Int × Bool)) : List Int := m.map (·.1)
theorem y2b {k : Int} {v : Bool} {c : Int} : ∀ m : List (Int × Bool), c ∈ zjh (mset m k v) ↔ c = k \/ c ∈ zjh m := by
 intro m
 induction m with
 | nil => simp [mset, zjh]
 | cons q m ih =>
  obtain ⟨a, b⟩ := q
  simp only [mset]
  cases hk : (k == a) with
  | true =>
   have : k = a := by simpa using hk
   subst this
   simp [zjh]
  | false =>
   simp only [cond_false, zjh, List.map_cons, List.mem_cons] at ih ⊢
   rw [ih]
   constructor
   ·rintro (h | h | h)
    ·exact .inr (.inl h)
    ·exact .inl h
    ·exact .inr (.inr h)
   ·rintro (h | h | h)
    ·exact .inr (.inl h)
    ·exact .inl h
    ·exact .inr (.inr h)
theorem y3i {k : Int} {c : Int} : ∀ m : List (Int × Bool), KU m -> (c ∈ zjh (mdel m k) ↔ c ≠ k /\ c ∈ zjh m) := by
 intro m
 induction m with
 | nil => intro _; simp [mdel, zjh]
 | cons q m ih =>
  obtain ⟨a, b⟩ := q
  intro h
  simp only [KU, List.map_cons, List.nodup_cons] at h
  have ih := ih h.2
  simp only [mdel]
  cases hk : (k == a) with
  | true =>
   have : k = a := by simpa using hk
   subst this
   simp only [cond_true, zjh, List.map_cons, List.mem_cons]
   constructor
   ·intro hc
    exact ⟨fun e => h.1 (e ▸ hc), .inr hc⟩
   ·rintro ⟨h1, h2 | h2⟩
    ·exact absurd h2 h1
    ·exact h2
  | false =>
   have hne : ¬ k = a := by simpa using hk
   simp only [cond_false, zjh, List.map_cons, List.mem_cons] at ih ⊢
   rw [ih]
   constructor
   ·rintro (h | h)
    ·exact ⟨fun e => hne (by rw [<- e, h]), .inl h⟩
    ·exact ⟨h.1, .inr h.2⟩
   ·rintro ⟨h1, h2 | h2⟩
    ·exact .inl h2
    ·exact .inr ⟨h1, h2⟩
def mAt (t : List z6) (n : Nat) : List (Int × Bool) := (t.take n).foldl (fun m e => covM e m) []
theorem znx {t : List z6} {n : Nat} (h : n < t.length) : mAt t (n + 1) = covM (gt t (n : Int)) (mAt t n) := by
 unfold mAt
 rw [List.take_succ_eq_append_getElem h, List.foldl_append, z1g h]
 rfl
theorem y82 (t : List z6) : ∀ n, n <= t.length -> KU (mAt t n)
 | 0, _ => by simp [mAt, KU]
 | n + 1, h => by
  rw [znx (by omega)]
  have := y82 t n (by omega)
  unfold covM
  split
  ·exact (KU.mdel this).1
  ·split
   ·exact KU.mset this
   ·exact this
def Mt (t : List z6) (q : Int) (j : Nat) : Prop := (gt t (j : Int)).second = true /\ (gt t (j : Int)).report = q
def Beg (t : List z6) (i : Nat) : Prop := (gt t (i : Int)).stay = true /\ (gt t (i : Int)).second = false
theorem zum {t : List z6} (hs : ∀ e ∈ t, e.second = true -> e.stay = true) (q : Int) : ∀ n, n <= t.length ->
  (q ∈ zjh (mAt t n) ↔ ∃ i, i < n /\ Beg t i /\ (gt t (i : Int)).report = q /\ ∀ j, i <= j -> j < n -> ¬ Mt t q j)
 | 0, _ => by simp [mAt, zjh]
 | n + 1, h => by
  have ih := zum hs q n (by omega)
  rw [znx (by omega)]
  have hmem : gt t (n : Int) ∈ t := z1d (by omega) (by omega)
  have hse := hs _ hmem
  unfold covM
  by_cases h2 : (gt t (n : Int)).second = true
  ·rw [if_pos (by rw [h2, hse h2]; rfl), y3i _ (y82 t n (by omega)), ih]
   constructor
   ·rintro ⟨h1, i, hi, hst, hr, hall⟩
    refine ⟨i, by omega, hst, hr, fun j hj hj' => ?_⟩
    by_cases hjn : j = n
    ·subst hjn; exact fun hm => h1 hm.2.symm
    ·exact hall j hj (by omega)
   ·rintro ⟨i, hi, hst, hr, hall⟩
    have hin : i ≠ n := by intro e; subst e; rw [hst.2] at h2; cases h2
    exact ⟨fun e => hall n (by omega) (by omega) ⟨h2, e.symm⟩, i, by omega, hst, hr, fun j hj hj' => hall j hj (by omega)⟩
  ·have h2' : (gt t (n : Int)).second = false := by simpa using h2
   have nm : ∀ q, ¬ Mt t q n := fun q hm => h2 hm.1
   have hext : ∀ i, i < n -> ((∀ j, i <= j -> j < n -> ¬ Mt t q j) ↔ ∀ j, i <= j -> j < n + 1 -> ¬ Mt t q j) := by
    intro i hi
    constructor
    ·intro h j hj hj'
     by_cases hjn : j = n
     ·subst hjn; exact nm q
     ·exact h j hj (by omega)
    ·intro h j hj hj'; exact h j hj (by omega)
   rw [if_neg (by rw [h2']; simp)]
   by_cases h1 : (gt t (n : Int)).stay = true
   ·rw [if_pos h1, y2b, ih]
    constructor
    ·rintro (h | ⟨i, hi, hst, hr, hall⟩)
     ·exact ⟨n, by omega, ⟨h1, h2'⟩, h.symm, fun j hj hj' => by rw [show j = n by omega]; exact nm q⟩
     ·exact ⟨i, by omega, hst, hr, (hext i hi).1 hall⟩
    ·rintro ⟨i, hi, hst, hr, hall⟩
     by_cases hin : i = n
     ·subst hin; exact .inl hr.symm
     ·exact .inr ⟨i, by omega, hst, hr, (hext i (by omega)).2 hall⟩
   ·rw [if_neg h1, ih]
    constructor
    ·rintro ⟨i, hi, hst, hr, hall⟩
     exact ⟨i, by omega, hst, hr, (hext i hi).1 hall⟩
    ·rintro ⟨i, hi, hst, hr, hall⟩
     have hin : i ≠ n := by intro e; subst e; exact h1 hst.1
     exact ⟨i, by omega, hst, hr, (hext i (by omega)).2 hall⟩
def Cov (t : List z6) (n k : Nat) : Prop := ∃ i, i < n /\ i <= k /\ Beg t i /\ ∀ j, i <= j -> j <= k -> ¬ Mt t (gt t (i : Int)).report j
theorem yb5 {t : List z6} (hs : ∀ e ∈ t, e.second = true -> e.stay = true) {k : Nat} (hk : k < t.length) : 0 < (mAt t (k + 1)).length ↔ Cov t t.length k := by
 constructor
 ·intro h
  obtain ⟨q, hq⟩ := List.exists_mem_of_length_pos h
  obtain ⟨i, hi, hst, hr, hall⟩ := (zum hs q.1 (k + 1) (by omega)).1 (List.mem_map.2 ⟨q, hq, rfl⟩)
  exact ⟨i, by omega, by omega, hst, fun j hj hj' => by rw [hr]; exact hall j hj (by omega)⟩
 ·rintro ⟨i, hi, hik, hst, hall⟩
  have := (zum hs _ (k + 1) (by omega)).2 ⟨i, by omega, hst, rfl, fun j hj hj' => hall j hj (by omega)⟩
  obtain ⟨q, hq, _⟩ := List.mem_map.1 this
  exact List.length_pos_of_mem hq
theorem ya2 {t : List z6} (hE : Ends t) {i : Nat} (hi : i < t.length) (hst : Beg t i) : ∃ j, i <= j /\ j < t.length /\ Mt t (gt t (i : Int)).report j := by
 have hsp : t = t.take i ++ gt t (i : Int) :: t.drop (i + 1) := by
  rw [z1g hi]
  simp
 obtain ⟨y, hy, y1, y2, y3⟩ := hE _ _ _ hsp hst.1 hst.2
 obtain ⟨m, hm, he⟩ := List.getElem_of_mem hy
 rw [List.length_drop] at hm
 refine ⟨i + 1 + m, by omega, by omega, ?_⟩
 have : gt t ((i + 1 + m : Nat) : Int) = y := by
  rw [z1g (by omega), <- he, List.getElem_drop]
 unfold Mt
 rw [this]
 exact ⟨y2, y3⟩
theorem zus {t : List z6} {j : Nat} (h1 : j < t.length) : gt (zfd t []) (j : Int) = zb2 (gt t (j : Int)) (decide ((0 : Int) < ((mAt t (j + 1)).length : Int))) := by
 have hsp : t = t.take j ++ gt t (j : Int) :: t.drop (j + 1) := by
  rw [z1g h1]
  simp
 have hg : (zfd t [])[j]? = some (zb2 (gt t (j : Int)) (decide ((0 : Int) < ((mAt t (j + 1)).length : Int)))) := by
  rw [znx h1]
  conv => lhs; rw [hsp]
  rw [zr4]
  have hl : (zfd (t.take j) []).length = j := by rw [zbj, List.length_take]; omega
  rw [List.getElem?_append_right (by omega), hl, Nat.sub_self]
  rfl
 rw [zzu (by rw [zbj]; exact h1), Option.some.injEq] at hg
 exact hg
end Px
end
section
namespace Px
open Go
set_option linter.unusedVariables false
set_option linter.unusedSimpArgs false
def StP (a c : z6) : Prop := a.stay = true /\ a.second = false /\ c.second = true /\ c.report = a.report
def tmF (f : Int -> Bool -> Int) (e : z6) : Int := f e.report e.second
structure Hist (φ : Nat) (p : Pool) (l : List z7) (f : Int -> Bool -> Int) (ρ : Int -> Int) : Prop where
 rd : ∀ i : Nat, i < p.readers.length -> 0 - (gt p.readers (i : Int)).high <= ρ i /\ ρ i <= 0 - (gt p.readers (i : Int)).low
 ev : ∀ w : Nat, w < p.fleet.wagons.length -> ∀ e ∈ uns p l (w : Int), EvT (tmF f) ρ e
 far : ∀ w : Nat, w < p.fleet.wagons.length -> ∀ a ∈ uns p l (w : Int), ∀ b ∈ uns p l (w : Int), ltEv a b = true -> ∃ t, Dst φ p.network a.visit.place b.visit.place = some t /\ t <= tmF f b - tmF f a
 cov : ∀ w : Nat, w < p.fleet.wagons.length -> ∀ a ∈ uns p l (w : Int), ∀ b ∈ uns p l (w : Int), ∀ c ∈ uns p l (w : Int), StP a c -> ltEv a b = true -> ltEv b c = true -> b.visit.place = a.visit.place
section
variable (p : Pool) (l : List z7) (w : Int)
theorem z8o {x : z6} : x ∈ srt p l w ↔ x ∈ uns p l w := (z1h _ _).mem_iff
theorem zv8 : (srt p l w).Pairwise fun a b => a.report ≠ b.report \/ a.second ≠ b.second :=
 ((z1h _ _).pairwise_iff (R := fun a b : z6 => a.report ≠ b.report \/ a.second ≠ b.second) fun h => h.imp Ne.symm Ne.symm).2 (y7e p l w)
theorem zw6 {i j : Nat} (hij : i < j) (hj : j < (srt p l w).length) : ltEv (gt (srt p l w) (i : Int)) (gt (srt p l w) (j : Int)) = true /\ ltEv (gt (srt p l w) (j : Int)) (gt (srt p l w) (i : Int)) = false := by
 have h1 := (List.pairwise_iff_getElem.1 (z86 zoz (uns p l w))) i j (by show i < (srt p l w).length; omega) hj hij
 have h2 := (List.pairwise_iff_getElem.1 (zv8 p l w)) i j (by omega) hj hij
 change ltEv ((srt p l w)[j]) ((srt p l w)[i]) = false at h1
 rw [z1g (by omega), z1g hj]
 refine ⟨?_, h1⟩
 rcases zzc h2 with h | h
 ·unfold ltEv; simpa using h
 ·unfold ltEv at h1
  simp only [decide_eq_false_iff_not] at h1
  exact absurd h h1
theorem zsv {i j : Nat} (hi : i < (srt p l w).length) (hj : j < (srt p l w).length) (h : ltEv (gt (srt p l w) (i : Int)) (gt (srt p l w) (j : Int)) = true) : i < j := by
 by_cases q : i < j
 ·exact q
 ·by_cases q2 : i = j
  ·subst q2
   rw [zoz.irrefl] at h; cases h
  ·rw [(zw6 p l w (i := j) (j := i) (by omega) hi).2] at h; cases h
theorem z2h : (z1l p l w).length = (srt p l w).length := zbj _ _
theorem zat {k : Nat} (h : k < (srt p l w).length) : ∃ b, gt (z1l p l w) (k : Int) = zb2 (gt (srt p l w) (k : Int)) b := ⟨_, zus h⟩
theorem z3b {k : Nat} (h : k < (srt p l w).length) : (gt (z1l p l w) (k : Int)).visit.place = (gt (srt p l w) (k : Int)).visit.place := by
 obtain ⟨b, e⟩ := zat p l w h
 rw [e]; rfl
end
theorem y4k (p : Pool) (l : List z7) (w : Int) {i j : Nat} (hi : i < (srt p l w).length) (hj : j < (srt p l w).length) (h1 : (gt (srt p l w) (i : Int)).report = (gt (srt p l w) (j : Int)).report) (h2 : (gt (srt p l w) (i : Int)).second = (gt (srt p l w) (j : Int)).second) : i = j := by
 by_cases q : i < j
 ·have := (List.pairwise_iff_getElem.1 (zv8 p l w)) i j hi hj q
  rw [<- z1g hi, <- z1g hj] at this
  exact (this.elim (fun h => h h1) fun h => h h2).elim
 ·by_cases q2 : j < i
  ·have := (List.pairwise_iff_getElem.1 (zv8 p l w)) j i hj hi q2
   rw [<- z1g hi, <- z1g hj] at this
   exact (this.elim (fun h => h h1.symm) fun h => h h2.symm).elim
  ·omega
theorem y1a {p : Pool} (hc : z01 p = 0) {l : List z7} (hl : FewL l) (w : Int) {k : Nat} (hk : k < (srt p l w).length) :
  (gt (z1l p l w) (k : Int)).visit.stay = true ↔ ∃ i j : Nat, i <= k /\ k < j /\ j < (srt p l w).length /\ StP (gt (srt p l w) (i : Int)) (gt (srt p l w) (j : Int)) := by
 have hs : ∀ e ∈ srt p l w, e.second = true -> e.stay = true := fun e he h => by
  obtain ⟨_, _, _, _, a5⟩ := zfe hl.len ((z8o p l w).1 he)
  unfold evs at a5
  split at a5
  ·simp only [List.mem_singleton] at a5; rw [a5] at h; cases h
  ·split at a5
   ·simp only [List.mem_cons, List.not_mem_nil, or_false] at a5
    rcases a5 with a5 | a5 <;> rw [a5]
   ·split at a5
    ·simp only [List.mem_singleton] at a5; rw [a5] at h; cases h
    ·cases a5
 have e : gt (z1l p l w) (k : Int) = _ := zus hk
 rw [e]
 have h2 := yb5 hs hk
 show decide ((0 : Int) < _) = true ↔ _
 rw [decide_eq_true_eq, show ((0 : Int) < ((mAt (srt p l w) (k + 1)).length : Int) ↔ 0 < (mAt (srt p l w) (k + 1)).length) by omega, h2]
 constructor
 ·rintro ⟨i, hi, hik, hb, hn⟩
  obtain ⟨j, j1, j2, j3⟩ := ya2 (y5s hc hl w) hi hb
  refine ⟨i, j, hik, ?_, j2, hb.1, hb.2, j3.1, j3.2⟩
  by_cases q : k < j
  ·exact q
  ·exact absurd j3 (hn j j1 (by omega))
 ·rintro ⟨i, j, hik, hkj, hj, s1, s2, s3, s4⟩
  refine ⟨i, by omega, hik, ⟨s1, s2⟩, fun j' h1 h2 hm => ?_⟩
  have := y4k p l w (i := j') (j := j) (by omega) hj (by rw [hm.2, s4]) (by rw [hm.1, s3])
  omega
theorem zy4 {p : Pool} {l : List z7} (hl : FewL l) {w : Int} {a c : z6} (ha : a ∈ uns p l w) (hcm : c ∈ uns p l w) (h : StP a c) : a.visit.place = c.visit.place := by
 obtain ⟨_, _, _, _, a5⟩ := zfe hl.len ha
 obtain ⟨_, _, _, _, c5⟩ := zfe hl.len hcm
 rw [h.2.2.2] at c5
 unfold evs at a5 c5
 split at a5
 ·simp only [List.mem_singleton] at a5; have := h.1; rw [a5] at this; cases this
 ·rename_i k1
  rw [if_neg k1] at c5
  split at a5
  ·rename_i k2
   rw [if_pos k2] at c5
   simp only [List.mem_cons, List.not_mem_nil, or_false] at a5 c5
   rcases a5 with a5 | a5 <;> rcases c5 with c5 | c5 <;> rw [a5, c5] <;> rfl
  ·split at a5
   ·simp only [List.mem_singleton] at a5; have := h.1; rw [a5] at this; cases this
   ·cases a5
theorem ycc {φ : Nat} {x : zg} {a b : z0r} {t : Int} (h : Dst φ x a.place b.place = some t) (hs : a.stay = true -> a.place = b.place) : tvl φ x a b = t := by
 unfold Dst at h
 unfold tvl z2z
 rw [if_neg (by
  simp only [Bool.and_eq_true, bne_iff_ne, ne_eq, not_and]
  intro h1 h2; exact h1 (hs h2))]
 cases hb : zu φ x a.place b.place with
 | none => rw [hb] at h; cases h
 | some v =>
  obtain ⟨t', e, u⟩ := v
  rw [hb] at h
  simp only at h
  split at h
  ·rename_i he
   cases h; subst he
   rfl
  ·cases h
theorem zu3 {α : Type} [Inhabited α] (e : α) (t : List α) (i : Nat) : gt (e :: t) ((i + 1 : Nat) : Int) = gt t (i : Int) := by
 unfold gt
 rw [Int.toNat_natCast, Int.toNat_natCast]; rfl
theorem y7k (tv : z0r -> z0r -> Int) (f : z6 -> Int) : ∀ (t : List z6) (pr : Option (z0r × Int)), (∀ i : Nat, i + 1 < t.length -> tv (gt t (i : Int)).visit (gt t ((i + 1 : Nat) : Int)).visit <= f (gt t ((i + 1 : Nat) : Int)) - f (gt t (i : Int))) ->
  (∀ a, pr = some a -> 0 < t.length -> tv a.1 (gt t 0).visit <= f (gt t 0) - a.2) -> ChT tv f pr t
 | [], _, _, _ => trivial
 | e :: t, pr, h, hp => by
  refine ⟨fun a ha => by simpa [gt] using hp a ha (by simp), y7k tv f t _ (fun i hi => ?_) fun a ha ht => ?_⟩
  ·have := h (i + 1) (by simp; omega)
   rw [zu3, zu3] at this
   exact this
  ·cases ha
   have := h 0 (by simp; omega)
   rw [zu3] at this
   exact this
section
variable {φ : Nat} (hφ : 800000 < φ) {p : Pool} (hc : z01 p = 0) {l : List z7} (hl : FewL l)
include hφ hc hl
omit hφ in
theorem zub {f : Int -> Bool -> Int} {ρ : Int -> Int} (H : Hist φ p l f ρ) :
  ∃ X, X 0 = 0 /\ SolF (bsB φ p l) X /\ ∀ w : Nat, w < p.fleet.wagons.length -> ∀ i : Nat, i < (srt p l (w : Int)).length -> X (v0E p l + offW p l w + i) = tmF f (gt (srt p l (w : Int)) (i : Int)) := by
 have hmem : ∀ t ∈ ze p l, ∃ w : Nat, w < p.fleet.wagons.length /\ t = z1l p l (w : Int) := fun t ht => by
  obtain ⟨w, hw, rfl⟩ := List.mem_map.1 ht
  exact ⟨w, List.mem_range.1 hw, rfl⟩
 obtain ⟨X, x0, x1, x2⟩ := y4l (tv := tvl φ p.network) (tsOK hc hl) (ρ := ρ) (f := tmF f) H.rd (fun t ht e he => by
  obtain ⟨w, hw, rfl⟩ := hmem t ht
  obtain ⟨y, hy, b, rfl⟩ := zbk he
  exact H.ev w hw y hy) (fun t ht => by
  obtain ⟨w, hw, rfl⟩ := hmem t ht
  refine y7k _ _ _ _ (fun i hi => ?_) (fun a ha => by cases ha)
  rw [z2h] at hi
  obtain ⟨b1, e1⟩ := zat p l (w : Int) (k := i) (by omega)
  obtain ⟨b2, e2⟩ := zat p l (w : Int) (k := i + 1) hi
  have m1 := (z8o p l (w : Int)).1 (z1d (l := srt p l (w : Int)) (i := (i : Int)) (by omega) (by omega))
  have m2 := (z8o p l (w : Int)).1 (z1d (l := srt p l (w : Int)) (i := ((i + 1 : Nat) : Int)) (by omega) (by omega))
  have hlt := (zw6 p l (w : Int) (i := i) (j := i + 1) (by omega) hi).1
  obtain ⟨t, t1, t2⟩ := H.far w hw _ m1 _ m2 hlt
  have hci := y1a hc hl (w : Int) (k := i) (by omega)
  rw [e1] at hci
  rw [ycc (t := t) (by rw [e1, e2]; exact t1) (fun hst => ?_)]
  ·rw [e1, e2]; exact t2
  ·rw [e1] at hst
   obtain ⟨i0, j0, q1, q2, q3, q4⟩ := hci.1 hst
   have ma := (z8o p l (w : Int)).1 (z1d (l := srt p l (w : Int)) (i := (i0 : Int)) (by omega) (by omega))
   have mc := (z8o p l (w : Int)).1 (z1d (l := srt p l (w : Int)) (i := (j0 : Int)) (by omega) (by omega))
   have pl : ∀ k, i0 <= k -> k <= j0 -> (gt (srt p l (w : Int)) (k : Int)).visit.place = (gt (srt p l (w : Int)) (i0 : Int)).visit.place := fun k k1 k2 => by
    by_cases z1 : k = i0
    ·rw [z1]
    ·by_cases z2 : k = j0
     ·rw [z2]; exact (zy4 hl ma mc q4).symm
     ·exact H.cov w hw _ ma _ ((z8o p l (w : Int)).1 (z1d (l := srt p l (w : Int)) (i := (k : Int)) (by omega) (by omega))) _ mc q4 (zw6 p l (w : Int) (by omega) (by omega)).1 (zw6 p l (w : Int) (by omega) (by omega)).1
   rw [z3b p l (w : Int) (by omega), z3b p l (w : Int) hi, pl i q1 (by omega), pl (i + 1) (by omega) (by omega)])
 refine ⟨X, x0, x1, fun w hw i hi => ?_⟩
 obtain ⟨b1, e1⟩ := zat p l (w : Int) hi
 have := x2 _ _ _ (zbz p l hw) i (gt (z1l p l (w : Int)) (i : Int)) (zzu (by rw [z2h]; exact hi))
 rw [(zui (tvl φ p.network) (rdM p.readers (ze p l)) ((ze p l).take w) (rd0 p.readers (ze p l))).2, e1] at this
 exact this
omit hφ hc hl in
theorem solT {X : Int -> Int} (hX : SolF (bsB φ p l) X) {w : Nat} (hw : w < p.fleet.wagons.length) {i : Nat} (hi : i < (z1l p l (w : Int)).length) :
  (∀ b ∈ evB (rdM p.readers (ze p l)) (v0E p l + offW p l w + i) (gt (z1l p l (w : Int)) (i : Int)), X b.j - X b.i <= b.w) /\
  (i + 1 < (z1l p l (w : Int)).length -> tvl φ p.network (gt (z1l p l (w : Int)) (i : Int)).visit (gt (z1l p l (w : Int)) ((i + 1 : Nat) : Int)).visit <= X (v0E p l + offW p l w + i + 1) - X (v0E p l + offW p l w + i)) := by
 have hsat := hX
 unfold SolF bsB at hsat
 rw [zi9] at hsat
 have e1 := zbz p l hw
 obtain ⟨k1, k2, k3, k4⟩ := zpu (tvl φ p.network) (rdM p.readers (ze p l)) ((ze p l).take w) ((ze p l).drop (w + 1)) (z1l p l (w : Int)) (rd0 p.readers (ze p l))
 rw [<- e1] at k3
 have ev := (zui (tvl φ p.network) (rdM p.readers (ze p l)) ((ze p l).take w) (rd0 p.readers (ze p l))).2
 rw [ev] at k3
 change ∀ b ∈ bnds (tvl φ p.network) (rdM p.readers (ze p l)) none (v0E p l + (offW p l w : Int)) (z1l p l (w : Int)), b ∈ _ at k3
 refine ⟨fun b hb => hsat b (k3 b (zsw _ _ _ none _ i _ (zzu hi) b hb)), fun hi2 => ?_⟩
 have := hsat _ (k3 _ (zyg (tvl φ p.network) (rdM p.readers (ze p l)) (z1l p l (w : Int)) none _ i _ _ (zzu hi) (zzu hi2)))
 simp only at this
 omega
theorem y99 {X : Int -> Int} (hX : SolF (bsB φ p l) X) {w : Nat} (hw : w < p.fleet.wagons.length) {i : Nat} : ∀ {j : Nat}, i < j -> j < (srt p l (w : Int)).length ->
  ∃ t, Dst φ p.network (gt (srt p l (w : Int)) (i : Int)).visit.place (gt (srt p l (w : Int)) (j : Int)).visit.place = some t /\ t <= X (v0E p l + offW p l w + j) - X (v0E p l + offW p l w + i) := by
 have hn := (z9c hc).1
 have hT := tsOK hc hl
 have ht : z1l p l (w : Int) ∈ ze p l := List.mem_of_getElem? (zf5 p l hw)
 have hlen := z2h p l (w : Int)
 have okp : ∀ k : Nat, k < (srt p l (w : Int)).length -> okPl p.network (gt (srt p l (w : Int)) (k : Int)).visit.place := fun k hk => by
  rw [<- z3b p l (w : Int) hk]
  exact ztk hc hl (z1d (by omega) (by omega))
 have rng : ∀ k : Nat, k < (srt p l (w : Int)).length -> 0 <= X (v0E p l + offW p l w + k) - X 0 /\ X (v0E p l + offW p l w + k) - X 0 <= 1073741824 := fun k hk =>
  zt4 (solT hX hw (by omega)).1 (hT.early _ ht _ (z1d (by omega) (by omega)))
 have one : ∀ k : Nat, k + 1 < (srt p l (w : Int)).length -> ∃ t, Dst φ p.network (gt (srt p l (w : Int)) (k : Int)).visit.place (gt (srt p l (w : Int)) ((k + 1 : Nat) : Int)).visit.place = some t /\ t <= X (v0E p l + offW p l w + ((k + 1 : Nat) : Int)) - X (v0E p l + offW p l w + k) := fun k hk => by
  have h1 := (solT hX hw (i := k) (by omega)).2 (by omega)
  have r1 := rng k (by omega)
  have r2 := rng (k + 1) hk
  rw [show v0E p l + (offW p l w : Int) + ((k + 1 : Nat) : Int) = v0E p l + offW p l w + k + 1 by omega] at r2 ⊢
  obtain ⟨t, t1, t2⟩ := ydf (x := p.network) hφ (show tvl φ p.network (gt (z1l p l (w : Int)) (k : Int)).visit (gt (z1l p l (w : Int)) ((k + 1 : Nat) : Int)).visit < 1073741825 by omega)
  rw [z3b p l (w : Int) (by omega), z3b p l (w : Int) hk] at t1
  exact ⟨t, by unfold Dst; rw [t1]; rfl, by omega⟩
 intro j
 induction j with
 | zero => intro h; omega
 | succ j ih =>
  intro h1 h2
  obtain ⟨t, t1, t2⟩ := one j h2
  by_cases q : i = j
  ·subst q; exact ⟨t, t1, t2⟩
  ·obtain ⟨u, u1, u2⟩ := ih (by omega) (by omega)
   obtain ⟨r, r1, r2⟩ := y9j hφ hn (okp i (by omega)) (okp j (by omega)) (okp (j + 1) h2) u1 t1
   exact ⟨r, r1, by omega⟩
omit hφ in
theorem ybe {X : Int -> Int} (hX : SolF (bsB φ p l) X) {w : Nat} (hw : w < p.fleet.wagons.length) {i j : Nat} (hj : j < (srt p l (w : Int)).length) (hs : StP (gt (srt p l (w : Int)) (i : Int)) (gt (srt p l (w : Int)) (j : Int))) :
  ∀ k, i <= k -> k <= j -> (gt (srt p l (w : Int)) (k : Int)).visit.place = (gt (srt p l (w : Int)) (i : Int)).visit.place := by
 have hT := tsOK hc hl
 have ht : z1l p l (w : Int) ∈ ze p l := List.mem_of_getElem? (zf5 p l hw)
 have hlen := z2h p l (w : Int)
 have rng : ∀ k : Nat, k < (srt p l (w : Int)).length -> 0 <= X (v0E p l + offW p l w + k) - X 0 /\ X (v0E p l + offW p l w + k) - X 0 <= 1073741824 := fun k hk =>
  zt4 (solT hX hw (by omega)).1 (hT.early _ ht _ (z1d (by omega) (by omega)))
 intro k
 induction k with
 | zero => intro h1 _; rw [show i = 0 by omega]
 | succ k ih =>
  intro h1 h2
  by_cases q : i = k + 1
  ·rw [q]
  ·rw [<- ih (by omega) (by omega), <- z3b p l (w : Int) (k := k) (by omega), <- z3b p l (w : Int) (k := k + 1) (by omega)]
   have hst := (y1a hc hl (w : Int) (k := k) (by omega)).2 ⟨i, j, by omega, by omega, hj, hs⟩
   have h1 := (solT hX hw (i := k) (by omega)).2 (by omega)
   have r1 := rng k (by omega)
   have r2 := rng (k + 1) (by omega)
   rw [show v0E p l + (offW p l w : Int) + ((k + 1 : Nat) : Int) = v0E p l + offW p l w + k + 1 by omega] at r2
   by_cases e : (gt (z1l p l (w : Int)) ((k + 1 : Nat) : Int)).visit.place = (gt (z1l p l (w : Int)) (k : Int)).visit.place
   ·exact e
   ·have := y8v (φ := φ) (x := p.network) hst (fun q => e q.symm)
    omega
omit hφ hc in
theorem yao : (ze p l).flatten.Pairwise fun a b => a.report ≠ b.report \/ a.second ≠ b.second := by
 rw [List.pairwise_flatten]
 constructor
 ·intro t ht
  obtain ⟨w, _, rfl⟩ := List.mem_map.1 ht
  rw [List.pairwise_iff_getElem]
  intro i j hi hj hij
  rw [z2h] at hi hj
  have := (List.pairwise_iff_getElem.1 (zv8 p l (w : Int))) i j hi hj hij
  obtain ⟨b1, e1⟩ := zat p l (w : Int) hi
  obtain ⟨b2, e2⟩ := zat p l (w : Int) hj
  rw [z1g (by rw [z2h]; exact hi), z1g hi] at e1
  rw [z1g (by rw [z2h]; exact hj), z1g hj] at e2
  rw [e1, e2]; exact this
 ·unfold ze
  rw [List.pairwise_map]
  refine List.pairwise_lt_range.imp fun {a b} hab x hx y hy => .inl fun e => ?_
  obtain ⟨x', hx', _, rfl⟩ := zbk hx
  obtain ⟨y', hy', _, rfl⟩ := zbk hy
  obtain ⟨_, _, x3, _, x5⟩ := zfe hl.len hx'
  obtain ⟨_, _, y3, _, y5⟩ := zfe hl.len hy'
  have hxw := (z7l x5).2.1
  have hyw := (z7l y5).2.1
  change x'.report = y'.report at e
  rw [e] at hxw
  omega
theorem zte {X : Int -> Int} (hX : SolF (bsB φ p l) X) :
  ∃ f ρ, Hist φ p l f ρ /\ ∀ w : Nat, w < p.fleet.wagons.length -> ∀ i : Nat, i < (srt p l (w : Int)).length -> tmF f (gt (srt p l (w : Int)) (i : Int)) = X (v0E p l + offW p l w + i) - X 0 := by
 have hT := tsOK hc hl
 have hf : ∀ k (hk : k < (ze p l).flatten.length), ((ze p l).flatten.findIdx fun e => e.report == (gt (ze p l).flatten (k : Int)).report && e.second == (gt (ze p l).flatten (k : Int)).second) = k := fun k hk => by
  refine (List.findIdx_eq hk).2 ⟨by rw [z1g hk]; simp, fun j hj => ?_⟩
  have := (List.pairwise_iff_getElem.1 (yao hl)) j k (by omega) hk hj
  rw [z1g hk]
  rcases this with h | h
  ·simp [h]
  ·simp [h]
 let f : Int -> Bool -> Int := fun i b => X (v0E p l + (((ze p l).flatten.findIdx fun e => e.report == i && e.second == b : Nat) : Int)) - X 0
 let ρ : Int -> Int := fun i => match mget (rdM p.readers (ze p l)) i with
  | some v => X v - X 0
  | none => 0 - (gt p.readers i).low
 have hval : ∀ w : Nat, w < p.fleet.wagons.length -> ∀ i : Nat, i < (srt p l (w : Int)).length -> tmF f (gt (srt p l (w : Int)) (i : Int)) = X (v0E p l + offW p l w + i) - X 0 := fun w hw i hi => by
  have hle := y8a p l hw
  have hi' : i < (z1l p l (w : Int)).length := by rw [z2h]; exact hi
  have h1 := hf (offW p l w + i) (by omega)
  rw [y8t p l hw hi'] at h1
  obtain ⟨b, e⟩ := zat p l (w : Int) hi
  rw [e] at h1
  change ((ze p l).flatten.findIdx fun e => e.report == (gt (srt p l (w : Int)) (i : Int)).report && e.second == (gt (srt p l (w : Int)) (i : Int)).second) = offW p l w + i at h1
  show X (v0E p l + (((ze p l).flatten.findIdx fun e => e.report == (gt (srt p l (w : Int)) (i : Int)).report && e.second == (gt (srt p l (w : Int)) (i : Int)).second : Nat) : Int)) - X 0 = _
  rw [h1]
  rw [show v0E p l + ((offW p l w + i : Nat) : Int) = v0E p l + offW p l w + i by omega]
 refine ⟨f, ρ, ⟨fun i hi => ?_, fun w hw e he => ?_, fun w hw a ha b hb hab => ?_, fun w hw a ha b hb c hcc hs hab hbc => ?_⟩, hval⟩
 ·show 0 - _ <= (match mget (rdM p.readers (ze p l)) (i : Int) with | some v => X v - X 0 | none => 0 - (gt p.readers (i : Int)).low) /\ (match mget (rdM p.readers (ze p l)) (i : Int) with | some v => X v - X 0 | none => 0 - (gt p.readers (i : Int)).low) <= _
  cases hm : mget (rdM p.readers (ze p l)) (i : Int) with
  | none =>
   simp only
   have := hT.rs _ (z1d (l := p.readers) (i := (i : Int)) (by omega) (by omega))
   omega
  | some v =>
   simp only
   have has : ∀ n : Nat, i < n -> ∀ v, mget (rdsN p.readers (used (ze p l)) n).m (i : Int) = some v -> (⟨0, v, 0 - (gt p.readers (i : Int)).low⟩ : za) ∈ (rdsN p.readers (used (ze p l)) n).b /\ (⟨v, 0, (gt p.readers (i : Int)).high⟩ : za) ∈ (rdsN p.readers (used (ze p l)) n).b := by
    intro n
    induction n with
    | zero => intro h; omega
    | succ n ih =>
     intro hn v hv
     simp only [rdsN, ziv] at hv ⊢
     split at hv
     ·rename_i hs
      rw [if_pos hs]
      simp only [zbi] at hv
      by_cases e : (i : Int) = (n : Int)
      ·rw [if_pos e] at hv; cases hv
       rw [e]
       exact ⟨List.mem_append_right _ (by simp), List.mem_append_right _ (by simp)⟩
      ·rw [if_neg e] at hv
       obtain ⟨q1, q2⟩ := ih (by omega) v hv
       exact ⟨List.mem_append_left _ q1, List.mem_append_left _ q2⟩
     ·rename_i hs
      rw [if_neg hs]
      by_cases e : i = n
      ·subst e; rw [hv] at hs; exact absurd rfl hs
      ·exact ih (by omega) v hv
   obtain ⟨q1, q2⟩ := has p.readers.length hi v hm
   obtain ⟨b, hb⟩ := (zfq (tvl φ p.network) (rdM p.readers (ze p l)) (ze p l) (rd0 p.readers (ze p l))).2.1
   have hsub : ∀ c ∈ (rdsN p.readers (used (ze p l)) p.readers.length).b, X c.j - X c.i <= c.w := fun c hcm => hX c (by
    rw [bsB, zi9, hb]
    exact List.mem_append_left _ hcm)
   have h1 := hsub _ q1
   have h2 := hsub _ q2
   simp only at h1 h2
   omega
 ·obtain ⟨i, hi, rfl⟩ := zgw ((z8o p l (w : Int)).2 he)
  have hi' : i < (z1l p l (w : Int)).length := by rw [z2h]; exact hi
  obtain ⟨b, e⟩ := zat p l (w : Int) hi
  have hB := (solT hX hw hi').1
  have ht : z1l p l (w : Int) ∈ ze p l := List.mem_of_getElem? (zf5 p l hw)
  have hin := z1d (l := z1l p l (w : Int)) (i := (i : Int)) (by omega) (by omega)
  have hr := zt4 hB (hT.early _ ht _ hin)
  refine ⟨fun hneg => ?_, fun hpos => ?_⟩
  ·rw [hval w hw i hi]
   have hev : evB (rdM p.readers (ze p l)) (v0E p l + offW p l w + i) (gt (z1l p l (w : Int)) (i : Int)) = [⟨0, v0E p l + offW p l w + i, (gt (srt p l (w : Int)) (i : Int)).visit.early⟩, ⟨v0E p l + offW p l w + i, 0, 0 - (gt (srt p l (w : Int)) (i : Int)).visit.early⟩] := by
    rw [e]; unfold evB; rw [if_pos (show (zb2 (gt (srt p l (w : Int)) (i : Int)) b).reader < 0 from hneg)]; rfl
   rw [hev] at hB
   have h1 := hB _ (List.mem_cons_self ..)
   have h2 := hB _ (List.mem_cons_of_mem _ (List.mem_cons_self ..))
   simp only at h1 h2
   omega
  ·rw [hval w hw i hi]
   have hpos' : 0 <= (gt (z1l p l (w : Int)) (i : Int)).reader := by rw [e]; exact hpos
   have h1 := y60 hB hpos'
   have h2 := (y9a hT ht hin hpos').1
   rw [e] at h1 h2
   change mget _ (gt (srt p l (w : Int)) (i : Int)).reader = _ at h2
   change _ = (gt (srt p l (w : Int)) (i : Int)).visit.early at h1
   refine ⟨?_, hr.1, hr.2⟩
   show _ = _ + (match mget (rdM p.readers (ze p l)) (gt (srt p l (w : Int)) (i : Int)).reader with | some v => X v - X 0 | none => 0 - (gt p.readers (gt (srt p l (w : Int)) (i : Int)).reader).low)
   rw [h2]
   simp only
   omega
 ·obtain ⟨i, hi, rfl⟩ := zgw ((z8o p l (w : Int)).2 ha)
  obtain ⟨j, hj, rfl⟩ := zgw ((z8o p l (w : Int)).2 hb)
  obtain ⟨t, t1, t2⟩ := y99 hφ hc hl hX hw (zsv p l (w : Int) hi hj hab) hj
  exact ⟨t, t1, by rw [hval w hw i hi, hval w hw j hj]; omega⟩
 ·obtain ⟨i, hi, rfl⟩ := zgw ((z8o p l (w : Int)).2 ha)
  obtain ⟨k, hk, rfl⟩ := zgw ((z8o p l (w : Int)).2 hb)
  obtain ⟨j, hj, rfl⟩ := zgw ((z8o p l (w : Int)).2 hcc)
  have h1 := zsv p l (w : Int) hi hk hab
  have h2 := zsv p l (w : Int) hk hj hbc
  exact ybe hc hl hX hw hj hs k (by omega) (by omega)
end
end Px
end
section
namespace Px
open Go
set_option linter.unusedVariables false
set_option linter.unusedSimpArgs false
def evR (p : Pool) (w : Int) (r : z7) (i : Int) : List z6 := if zcy p r.item = true /\ r.item.wagon = w then evs p r i else []
theorem zq6 (p : Pool) (l : List z7) (w : Int) : ∀ n, unsC p l (cntN p l n) w = (List.range n).flatMap fun (j : Nat) => evR p w (gt l (j : Int)) (j : Int)
 | 0 => by simp [cntN, unsC]
 | n + 1 => by
  have ih := zq6 p l w n
  rw [zqw, List.range_succ, List.flatMap_append, <- ih]
  unfold unsC
  rw [List.flatMap_append]
  congr 1
  unfold evR
  cases h : zcy p (gt l (n : Int)).item <;> simp [h]
theorem y47 (p : Pool) (l : List z7) (w : Int) : uns p l w = (List.range l.length).flatMap fun (j : Nat) => evR p w (gt l (j : Int)) (j : Int) := zq6 p l w l.length
def up (i : Nat) (j : Int) : Int := if j < (i : Int) then j else j + 1
theorem yd6 (p : Pool) (w : Int) (r : z7) (κ : Int -> Int) (j : Int) : evR p w r (κ j) = (evR p w r j).map (ren κ) := by
 unfold evR
 split
 ·rw [zn6 p r (κ j), zn6 p r j, List.map_map]
  rfl
 ·rfl
end Px
end
section
namespace Px
open Go
set_option linter.unusedVariables false
set_option linter.unusedSimpArgs false
theorem zkg {p : Pool} {l : List z7} {w : Int} {e : z6} : e ∈ uns p l w ↔ ∃ j : Nat, j < l.length /\ e ∈ evR p w (gt l (j : Int)) (j : Int) := by
 rw [y47]
 simp only [List.mem_flatMap, List.mem_range]
theorem y2r {p : Pool} {w : Int} {r : z7} {j : Int} {e : z6} (h : e ∈ evR p w r j) : e.report = j := by
 unfold evR at h
 split at h
 ·exact (z7l h).1
 ·cases h
theorem y5k {κ : Int -> Int} {a b : z6} (hk : a.report < b.report -> κ a.report < κ b.report) (h : ltEv a b = true) : ltEv (ren κ a) (ren κ b) = true := by
 unfold ltEv at *
 simp only [decide_eq_true_eq] at *
 rw [zb5] at *
 simp only [ren, zyi] at *
 rcases h with h | ⟨h1, h | ⟨h2, h | ⟨h3, h | ⟨h4, h⟩⟩⟩⟩
 ·exact .inl h
 ·exact .inr ⟨h1, .inl h⟩
 ·exact .inr ⟨h1, .inr ⟨h2, .inl h⟩⟩
 ·exact .inr ⟨h1, .inr ⟨h2, .inr ⟨h3, .inl h⟩⟩⟩
 ·exact .inr ⟨h1, .inr ⟨h2, .inr ⟨h3, .inr ⟨h4, hk h⟩⟩⟩⟩
structure Pk (l l' : List z7) (σ : Int -> Int) : Prop where
 mono : ∀ i j : Int, 0 <= i -> i < j -> j < (l'.length : Int) -> σ i < σ j
 at_ : ∀ i : Nat, i < l'.length -> ∃ k : Nat, σ (i : Int) = (k : Int) /\ k < l.length /\ gt l' (i : Int) = gt l (k : Int)
theorem Pk.mem {l l' : List z7} {σ : Int -> Int} (h : Pk l l' σ) {p : Pool} {w : Int} {e : z6} (he : e ∈ uns p l' w) : 0 <= e.report /\ e.report < (l'.length : Int) /\ ren σ e ∈ uns p l w := by
 obtain ⟨j, hj, hm⟩ := zkg.1 he
 obtain ⟨k, e1, hk, e2⟩ := h.at_ j hj
 refine ⟨by rw [y2r hm]; omega, by rw [y2r hm]; omega, zkg.2 ⟨k, hk, ?_⟩⟩
 rw [<- e2, <- e1, yd6]
 exact List.mem_map.2 ⟨e, hm, rfl⟩
theorem Pk.lt {l l' : List z7} {σ : Int -> Int} (h : Pk l l' σ) {p : Pool} {w w' : Int} {a b : z6} (ha : a ∈ uns p l' w) (hb : b ∈ uns p l' w') (hlt : ltEv a b = true) : ltEv (ren σ a) (ren σ b) = true :=
 y5k (fun q => h.mono _ _ (h.mem ha).1 q (h.mem hb).2.1) hlt
theorem Hist.sub {φ : Nat} {p : Pool} {l l' : List z7} {f : Int -> Bool -> Int} {ρ σ : Int -> Int} (h : Pk l l' σ) (H : Hist φ p l f ρ) : Hist φ p l' (fun i s => f (σ i) s) ρ := by
 refine ⟨H.rd, fun w hw e he => H.ev w hw _ (h.mem he).2.2, fun w hw a ha b hb hab => H.far w hw _ (h.mem ha).2.2 _ (h.mem hb).2.2 (h.lt ha hb hab), fun w hw a ha b hb c hc hs hab hbc => ?_⟩
 exact H.cov w hw (ren σ a) (h.mem ha).2.2 (ren σ b) (h.mem hb).2.2 (ren σ c) (h.mem hc).2.2 ⟨hs.1, hs.2.1, hs.2.2.1, congrArg σ hs.2.2.2⟩ (h.lt ha hb hab) (h.lt hb hc hbc)
theorem Pk.of_sub {l l' : List z7} (h : l'.Sublist l) : ∃ σ, Pk l l' σ := by
 obtain ⟨is, e, hp⟩ := List.sublist_eq_map_getElem h
 have hl : l'.length = is.length := by rw [e, List.length_map]
 refine ⟨fun i => if h : i.toNat < is.length then ((is[i.toNat]'h : Fin l.length) : Nat) else 0, fun i j h0 hij hj => ?_, fun i hi => ?_⟩
 ·have hi' : i.toNat < is.length := by omega
  have hj' : j.toNat < is.length := by omega
  simp only [hi', hj', dif_pos]
  have := (List.pairwise_iff_getElem.1 hp) i.toNat j.toNat hi' hj' (by omega)
  exact Int.ofNat_lt.2 this
 ·have hi' : i < is.length := by omega
  refine ⟨is[i], ?_, (is[i]).2, ?_⟩
  ·simp only [Int.toNat_natCast, hi', dif_pos]
  ·rw [z1g hi, z1g (is[i]).2]
   have := congrArg (fun q : List z7 => q[i]?) e
   simp only [List.getElem?_eq_getElem hi, List.getElem?_map, List.getElem?_eq_getElem hi', Option.map_some, Option.some.injEq] at this
   exact this
def Con (φ : Nat) (p : Pool) (l : List z7) : Prop := ∃ f ρ, Hist φ p l f ρ
theorem Con.sub {φ : Nat} {p : Pool} {l l' : List z7} (h : l'.Sublist l) : Con φ p l -> Con φ p l' := by
 rintro ⟨f, ρ, H⟩
 obtain ⟨σ, hσ⟩ := Pk.of_sub h
 exact ⟨_, ρ, H.sub hσ⟩
theorem y1l {φ : Nat} (hφ : 800000 < φ) {p : Pool} (hc : z01 p = 0) {l : List z7} (hl : FewL l) : Con φ p l ↔ ∃ X, SolF (bsB φ p l) X := by
 constructor
 ·rintro ⟨f, ρ, H⟩
  obtain ⟨Y, _, hY, _⟩ := zub hc hl H
  exact ⟨Y, hY⟩
 ·rintro ⟨X, hX⟩
  obtain ⟨f, ρ, H, _⟩ := zte hφ hc hl hX
  exact ⟨f, ρ, H⟩
open Classical in
noncomputable def cnB (φ : Nat) (p : Pool) (l : List z7) : Bool := decide (Con φ p l)
theorem zm2 {φ : Nat} {p : Pool} {l : List z7} : cnB φ p l = true ↔ Con φ p l := by unfold cnB; simp
theorem zzt {φ : Nat} {p : Pool} {l l' : List z7} (h : l'.Sublist l) (hc : cnB φ p l = true) : cnB φ p l' = true := zm2.2 ((zm2.1 hc).sub h)
theorem z62 (φ : Nat) (hφ : 800000 < φ) (p : Pool) {l : List z7} (hl : FewL l) (hs : l.length <= 100) :
  zn φ p l = some (if z01 p = 0 then (cnB φ p l, 0, ()) else (false, z01 p, ())) := by
 unfold zn
 rw [y58 φ hφ p hl, Option.bind_some, show bAll (tvl φ p.network) p.readers (ze p l) = bsB φ p l from rfl]
 by_cases hc : z01 p = 0
 case neg => rw [if_neg hc, if_neg hc]; simp only; rw [if_pos (by simpa using hc)]
 rw [if_pos hc, if_pos hc]
 unfold bEnd
 have hb := (y97 (φ := φ) hc hs).2.2.2
 rw [if_neg hb]
 have hG := y91 hφ hc hl hb
 simp only
 rw [if_neg (by simp), hG.solve φ (by omega), Option.bind_some]
 by_cases hz : 0 <= (low (bsB φ p l).v.toNat (bsB φ p l).b).z
 ·have : cnB φ p l = false := by
   rw [Bool.eq_false_iff]
   intro h
   have := hG.sol.2 ((y1l hφ hc hl).1 (zm2.1 h))
   omega
  rw [if_pos hz, this]; rfl
 ·have : cnB φ p l = true := zm2.2 ((y1l hφ hc hl).2 (hG.sol.1 (by omega)))
  rw [if_neg hz, this]; rfl
def selQ (l : List z7) (q : Nat -> Bool) : List z7 := ((List.range l.length).filter q).map fun (i : Nat) => gt l (i : Int)
theorem zwr (l : List z7) : selQ l (fun _ => true) = l := by
 unfold selQ
 rw [List.filter_eq_self.2 (by simp)]
 refine List.ext_getElem (by simp) fun i h1 h2 => ?_
 rw [List.getElem_map, List.getElem_range, z1g h2]
theorem zvk {l : List z7} {q q' : Nat -> Bool} (h : ∀ i, i < l.length -> q i = true -> q' i = true) : (selQ l q).Sublist (selQ l q') := by
 unfold selQ
 refine List.Sublist.map _ ?_
 have e : (List.range l.length).filter q = ((List.range l.length).filter q').filter q := by
  rw [List.filter_filter]
  refine List.filter_congr fun i hi => ?_
  cases hq : q i with
  | false => rfl
  | true => rw [h i (List.mem_range.1 hi) hq]; rfl
 rw [e]
 exact List.filter_sublist
theorem zia {l : List z7} {q q' : Nat -> Bool} (h : ∀ i, i < l.length -> q i = q' i) : selQ l q = selQ l q' := by
 unfold selQ
 rw [List.filter_congr fun i hi => h i (List.mem_range.1 hi)]
theorem zo0 (l : List z7) (q : Nat -> Bool) : (selQ l q).Sublist l := by
 have := zvk (l := l) (q := q) (q' := fun _ => true) fun _ _ _ => rfl
 rwa [zwr] at this
theorem FewL.sub {l l' : List z7} (h : FewL l) (hs : l'.Sublist l) : FewL l' := ⟨Nat.le_trans hs.length_le h.len, fun r hr => h.parts r (hs.subset hr)⟩
end Px
end
section
namespace Px
open Go
set_option linter.unusedVariables false
set_option linter.unusedSimpArgs false
def selN (l : List z7) (q : Nat -> Bool) (n : Nat) : List z7 := ((List.range n).filter q).map fun (i : Nat) => gt l (i : Int)
theorem zee (l : List z7) (q : Nat -> Bool) (n : Nat) : selN l q (n + 1) = if q n = true then selN l q n ++ [gt l (n : Int)] else selN l q n := by
 unfold selN
 rw [List.range_succ, List.filter_append, List.map_append]
 cases h : q n <;> simp [List.filter_cons, h]
theorem zjt (l : List z7) (q : Nat -> Bool) (n : Nat) : (selN l q n).length <= n := by
 unfold selN
 rw [List.length_map]
 exact Nat.le_trans (List.length_filter_le ..) (by simp)
def onQ (q : Nat -> Bool) (k i : Nat) : Bool := if i = k then true else q i
def offQ (q : Nat -> Bool) (k i : Nat) : Bool := if i = k then false else q i
structure Mp (n : Nat) (m : List (Int × Bool)) (q : Nat -> Bool) : Prop where
 uq : (m.map (·.1)).Nodup
 at_ : ∀ i : Nat, i < n -> (mget m (i : Int)).getD false = q i
theorem y3p {m : List (Int × Bool)} {k : Int} : (mget m k).isSome = true -> k ∈ m.map (·.1) := by
 induction m with
 | nil => intro h; simp [mget] at h
 | cons a m ih =>
  obtain ⟨a, b⟩ := a
  intro h
  unfold mget at h
  cases hk : k == a with
  | true => simp at hk; simp [hk]
  | false => rw [hk] at h; exact List.mem_cons_of_mem _ (ih h)
theorem zxh (m : List (Int × Bool)) (k j : Int) (v : Bool) : mget (mset m k v) j = if j = k then some v else mget m j := by
 induction m with
 | nil =>
  show (bif j == k then some v else none) = _
  by_cases e : j = k
  ·simp [e]
  ·have : (j == k) = false := by simpa using e
   rw [this, if_neg e]; rfl
 | cons a m ih =>
  obtain ⟨a, b⟩ := a
  unfold mset
  by_cases e : k = a
  ·have h1 : (k == a) = true := by simpa using e
   rw [h1, cond_true]
   subst e
   show (bif j == k then some v else mget m j) = _
   by_cases e2 : j = k
   ·simp [e2]
   ·have : (j == k) = false := by simpa using e2
    rw [if_neg e2, this]
    show mget m j = mget ((k, b) :: m) j
    show _ = (bif j == k then some b else mget m j)
    rw [this]; rfl
  ·have h1 : (k == a) = false := by simpa using e
   rw [h1, cond_false]
   show (bif j == a then some b else mget (mset m k v) j) = if j = k then some v else (bif j == a then some b else mget m j)
   by_cases e2 : j = a
   ·have h2 : (j == a) = true := by simpa using e2
    rw [h2, cond_true, cond_true, if_neg (by rw [e2]; exact fun q => e q.symm)]
   ·have h2 : (j == a) = false := by simpa using e2
    rw [h2, cond_false, cond_false, ih]
theorem y0i (m : List (Int × Bool)) (k : Int) (v : Bool) : (mset m k v).map (·.1) = if k ∈ m.map (·.1) then m.map (·.1) else m.map (·.1) ++ [k] := by
 induction m with
 | nil => simp [mset]
 | cons a m ih =>
  obtain ⟨a, b⟩ := a
  unfold mset
  by_cases e : k = a
  ·have h1 : (k == a) = true := by simpa using e
   rw [h1, cond_true, if_pos (by simp [e])]
   simp [e]
  ·have h1 : (k == a) = false := by simpa using e
   rw [h1, cond_false, List.map_cons, ih]
   by_cases h2 : k ∈ m.map (·.1)
   ·rw [if_pos h2, if_pos (by simp only [List.map_cons]; exact List.mem_cons_of_mem _ h2)]; rfl
   ·rw [if_neg h2, if_neg (by simp only [List.map_cons, List.mem_cons, not_or]; exact ⟨e, h2⟩)]; rfl
theorem y5d (m : List (Int × Bool)) (k : Int) : (mdel m k).Sublist m := by
 induction m with
 | nil => exact List.Sublist.refl _
 | cons a m ih =>
  obtain ⟨a, b⟩ := a
  unfold mdel
  cases k == a with
  | true => exact List.sublist_cons_self ..
  | false => exact ih.cons_cons _
theorem y1f {m : List (Int × Bool)} (h : (m.map (·.1)).Nodup) (k j : Int) : mget (mdel m k) j = if j = k then none else mget m j := by
 induction m with
 | nil => simp [mdel, mget]
 | cons a m ih =>
  obtain ⟨a, b⟩ := a
  rw [List.map_cons, List.nodup_cons] at h
  unfold mdel
  by_cases e : k = a
  ·have h1 : (k == a) = true := by simpa using e
   rw [h1, cond_true]
   subst e
   by_cases e2 : j = k
   ·rw [if_pos e2]
    cases hg : mget m j with
    | none => rfl
    | some v => exact absurd (y3p (by rw [hg]; rfl)) (by rw [e2]; exact h.1)
   ·have : (j == k) = false := by simpa using e2
    rw [if_neg e2]
    show mget m j = (bif j == k then some b else mget m j)
    rw [this]; rfl
  ·have h1 : (k == a) = false := by simpa using e
   rw [h1, cond_false]
   show (bif j == a then some b else mget (mdel m k) j) = if j = k then none else (bif j == a then some b else mget m j)
   by_cases e2 : j = a
   ·have h2 : (j == a) = true := by simpa using e2
    rw [h2, cond_true, cond_true, if_neg (by rw [e2]; exact fun q => e q.symm)]
   ·have h2 : (j == a) = false := by simpa using e2
    rw [h2, cond_false, cond_false, ih h.2]
theorem Mp.on {n : Nat} {m : List (Int × Bool)} {q : Nat -> Bool} (h : Mp n m q) (k : Nat) : Mp n (mset m (k : Int) true) (onQ q k) := by
 refine ⟨?_, fun i hi => ?_⟩
 ·rw [y0i]
  split
  ·exact h.uq
  ·rename_i hk
   exact List.nodup_append.2 ⟨h.uq, by simp, fun a ha b hb => by simp only [List.mem_singleton] at hb; rintro rfl; rw [hb] at ha; exact hk ha⟩
 ·rw [zxh]
  unfold onQ
  by_cases e : i = k
  ·rw [if_pos (by omega), if_pos e]; rfl
  ·rw [if_neg (by omega), if_neg e, h.at_ i hi]
theorem Mp.off {n : Nat} {m : List (Int × Bool)} {q : Nat -> Bool} (h : Mp n m q) (k : Nat) : Mp n (mdel m (k : Int)) (offQ q k) := by
 refine ⟨h.uq.sublist ((y5d m _).map _), fun i hi => ?_⟩
 rw [y1f h.uq]
 unfold offQ
 by_cases e : i = k
 ·rw [if_pos (by omega), if_pos e]; rfl
 ·rw [if_neg (by omega), if_neg e, h.at_ i hi]
theorem Mp.nil (n : Nat) : Mp n [] fun _ => false := ⟨by simp, fun i hi => rfl⟩
section
variable (φ : Nat) (hφ : 60000000 < φ) (p : Pool) {l : List z7} (hl : FewL l) (hs : l.length <= 10)
include hφ hl hs
omit hl in
theorem zzz {m : List (Int × Bool)} {q : Nat -> Bool} (hm : Mp l.length m q) : z3c φ l m = some (selQ l q, ()) := by
 unfold z3c
 refine zp (fun n i acc => z0a φ n m l (l.length : Int) i acc) l.length (fun i acc => acc = selN l q i) (fun o => o = some (selQ l q, ())) ?_ ?_ φ [] rfl (by omega)
 ·intro n i acc hi ha hk
  have hn := zee l q i
  have hlen := zjt l q i
  have hq := hm.at_ i hi
  rw [z0a, if_pos (by simpa using hi), z8 ⟨by omega, by omega⟩, W_id (x := (i : Int) + 1) (by omega) (by omega)]
  change (mget m (i : Int)).getD default = q i at hq
  rw [hq]
  by_cases h : q i = true
  ·rw [if_pos h] at hn ⊢
   rw [z8 (zfj (by rw [ha]; simp; omega) (by omega))]
   exact hk _ (by rw [ha, hn])
  ·rw [if_neg h] at hn ⊢
   exact hk _ (by rw [ha, hn])
 ·intro n acc ha
  rw [z0a, if_neg (by simp), ha]; rfl
theorem zoo (hc : z01 p = 0) {m : List (Int × Bool)} {q : Nat -> Bool} (hm : Mp l.length m q) : z2g φ p l m = some (cnB φ p (selQ l q), ()) := by
 have hsub := zo0 l q
 unfold z2g
 rw [zzz φ hφ hs hm, Option.bind_some, z62 φ (by omega) p (hl.sub hsub) (by have := hsub.length_le; omega), if_pos hc]
 rfl
end
def zfl (l : List z7) : List Ref := l.map (·.ref)
section
variable (φ : Nat) (hφ : 60000000 < φ) (p : Pool) {l : List z7} (hl : FewL l) (hs : l.length <= 10)
include hφ hs
end
end Px
end
section
namespace Px
open Go
theorem ydk : zf4 100000000 = some (true, ()) := by kernel_rfl
end Px
end
section
namespace Px
open Go
set_option linter.unusedVariables false
set_option linter.unusedSimpArgs false
theorem y5u (φ : Nat) (hφ : 1000 < φ) (p : Pool) (l : List z7) : ∃ b, zgv φ p l = some (b, ()) /\ (b = true -> FewL l /\ l.length <= 10) /\
  (b = true -> ∀ r ∈ l, r.item.parts.length <= 40 /\ r.item.text.size <= 2000) := by
 obtain ⟨b1, h1, h2⟩ := y3r φ hφ p
 obtain ⟨b2, h3, h4, h5⟩ := y9r φ hφ l 10 (by omega)
 unfold zgv
 rw [h1, Option.bind_some]
 cases b1 with
 | false =>
  rw [gz_f (by simp), Option.bind_some]
  exact ⟨_, rfl, (fun h => by cases h), fun h => by cases h⟩
 | true =>
  have h3' : z3t φ l 10 = some (b2, ()) := h3
  rw [gz_t rfl, h3', Option.bind_some]
  exact ⟨_, rfl, fun h => h4 h, fun h => (h5.1 h).2⟩
def mkQ (m : List Bool) (i : Nat) : Bool := m.getD i false
theorem zri {l : List z7} {q : Nat -> Bool} {n : Nat} (h : ∀ i, n <= i -> q i = false) : ∀ d, selN l q (n + d) = selN l q n
 | 0 => rfl
 | d + 1 => by rw [<- Nat.add_assoc, zee, if_neg (by rw [h _ (by omega)]; simp), zri h d]
theorem zx8 (φ : Nat) (hφ : 10000 < φ) (l : List z7) (m : List Bool) (hl : l.length <= 1000) : z94 φ l m = some (selQ l (mkQ m), ()) := by
 unfold z94
 have hend : selN l (mkQ m) (min l.length m.length) = selQ l (mkQ m) := by
  show _ = selN l (mkQ m) l.length
  rcases Nat.le_total l.length m.length with h | h
  ·rw [Nat.min_eq_left h]
  ·rw [Nat.min_eq_right h]
   have := zri (l := l) (q := mkQ m) (n := m.length) (fun i hi => by unfold mkQ; rw [List.getD_eq_getElem?_getD, List.getElem?_eq_none hi]; rfl) (l.length - m.length)
   rw [show m.length + (l.length - m.length) = l.length by omega] at this
   exact this.symm
 refine zp (fun n i acc => z2c φ n l m i acc) (min l.length m.length) (fun i acc => acc = selN l (mkQ m) i) (fun o => o = some (selQ l (mkQ m), ())) ?_ ?_ φ [] rfl (by omega)
 ·intro n i acc hi ha hk
  have hn := zee l (mkQ m) i
  have hlen := zjt l (mkQ m) i
  have hq : gt m (i : Int) = mkQ m i := by
   rw [z1g (by omega)]; unfold mkQ; rw [List.getD_eq_getElem?_getD, List.getElem?_eq_getElem (by omega)]; rfl
  rw [z2c, if_pos (by simp; omega), z8 ⟨by omega, by omega⟩, W_id (x := (i : Int) + 1) (by omega) (by omega), hq]
  by_cases h : mkQ m i = true
  ·rw [if_pos h] at hn ⊢
   rw [z8 ⟨by omega, by omega⟩, z8 (zfj (by rw [ha]; simp; omega) (by omega))]
   exact hk _ (by rw [ha, hn])
  ·rw [if_neg h] at hn ⊢
   exact hk _ (by rw [ha, hn])
 ·intro n acc ha
  rw [z2c, if_neg (by simp only [Bool.and_eq_true, decide_eq_true_eq]; omega), ha, hend]
section
variable {φ : Nat} {p : Pool} {l : List z7}
end
def inR (r : List Ref) (x : Ref) : Bool := r.any fun y => (x.railway == y.railway) && (x.no == y.no)
theorem y3f {r : List Ref} {x : Ref} : inR r x = true ↔ x ∈ r := by
 unfold inR
 rw [List.any_eq_true]
 constructor
 ·rintro ⟨y, hy, h⟩
  simp only [Bool.and_eq_true, beq_iff_eq] at h
  rw [y83.2 h]; exact hy
 ·intro h
  exact ⟨x, h, by simp⟩
def nmQ (l : List z7) (r : List Ref) (i : Nat) : Bool := inR r (gt l (i : Int)).ref
theorem zw0 (φ : Nat) (hφ : 10000 < φ) (l : List z7) (r : List Ref) (hl : l.length <= 1000) (hr : r.length <= 10000 - 1) : z9x φ l r = some (selQ l (nmQ l r), ()) := by
 unfold z9x
 refine zp (fun n i acc => z36 φ n l r i acc) l.length (fun i acc => acc = selN l (nmQ l r) i) (fun o => o = some (selQ l (nmQ l r), ())) ?_ ?_ φ [] rfl (by omega)
 ·intro n i acc hi ha hk
  have hn := zee l (nmQ l r) i
  have hlen := zjt l (nmQ l r) i
  rw [z36, if_pos (by simpa using hi)]
  refine zp (fun m k b => z3i φ (z36 φ n) m l r (i : Int) b k acc) r.length (fun k b => b = inR (r.take k) (gt l (i : Int)).ref) (fun o => o = some (selQ l (nmQ l r), ())) ?_ ?_ φ false rfl (by omega)
  ·intro m k b hk2 hb hh
   rw [z3i, if_pos (by simpa using hk2), z8 (fun _ => ⟨by omega, by omega⟩), z8 (fun _ => ⟨by omega, by omega⟩), W_id (x := (k : Int) + 1) (by omega) (by omega)]
   refine hh _ ?_
   rw [hb, z07 r k hk2]
   unfold inR
   rw [List.any_append]
   simp
  ·intro m b hb
   rw [List.take_length] at hb
   rw [z3i, if_neg (by simp), W_id (x := (i : Int) + 1) (by omega) (by omega)]
   have hb' : b = nmQ l r i := hb
   rw [hb']
   by_cases h : nmQ l r i = true
   ·rw [if_pos h] at hn ⊢
    rw [z8 ⟨by omega, by omega⟩, z8 (zfj (by rw [ha]; simp; omega) (by omega))]
    exact hk _ (by rw [ha, hn])
   ·rw [if_neg h] at hn ⊢
    exact hk _ (by rw [ha, hn])
 ·intro n acc ha
  rw [z36, if_neg (by simp), ha]; rfl
def Apt (l : List z7) : Prop := ∀ i j : Nat, i < l.length -> j < l.length -> (gt l (i : Int)).ref = (gt l (j : Int)).ref -> i = j
theorem y6a (φ : Nat) (hφ : 10000 < φ) (l : List z7) (hl : l.length <= 1000) : ∃ b, zc1 φ l = some (b, ()) /\ (b = true ↔ Apt l) := by
 have hm : ∀ i : Nat, (∀ a b : Nat, a < i -> b < a -> (gt l (a : Int)).ref ≠ (gt l (b : Int)).ref) -> i = l.length -> Apt l := by
  intro i h e a b ha hb hab
  by_cases q : a = b
  ·exact q
  ·by_cases q2 : b < a
   ·exact absurd hab (h a b (by omega) q2)
   ·exact absurd hab.symm (h b a (by omega) (by omega))
 unfold zc1
 refine zp (fun n i (_ : Unit) => z3a φ n l i) l.length (fun i _ => ∀ a b : Nat, a < i -> b < a -> (gt l (a : Int)).ref ≠ (gt l (b : Int)).ref) (fun o => ∃ b, o = some (b, ()) /\ (b = true ↔ Apt l)) ?_ ?_ φ () (fun a b h => by omega) (by omega)
 ·intro n i _ hi ha hk
  rw [z3a, if_pos (by simpa using hi)]
  refine zp (fun m k (_ : Unit) => z3y φ (z3a φ n) m l (i : Int) k) i (fun k _ => ∀ b : Nat, b < k -> (gt l (i : Int)).ref ≠ (gt l (b : Int)).ref) (fun o => ∃ b, o = some (b, ()) /\ (b = true ↔ Apt l)) ?_ ?_ φ () (fun b h => by omega) (by omega)
  ·intro m k _ hk2 hb hh
   rw [z3y, if_pos (by simpa using hk2), z8 ⟨by omega, by omega⟩, z8 ⟨by omega, by omega⟩, W_id (x := (k : Int) + 1) (by omega) (by omega)]
   by_cases e : (gt l (i : Int)).ref = (gt l (k : Int)).ref
   ·rw [if_pos (by rw [e]; simp)]
    refine ⟨false, rfl, (fun h => by cases h), fun h => ?_⟩
    have := h i k hi (by omega) e
    omega
   ·rw [if_neg (by
     rw [y83] at e
     simpa using e)]
    refine hh () fun b hb2 => ?_
    by_cases q : b = k
    ·rw [q]; exact e
    ·exact hb b (by omega)
  ·intro m _ hb
   rw [z3y, if_neg (by simp), W_id (x := (i : Int) + 1) (by omega) (by omega)]
   refine hk () fun a b hai hba => ?_
   by_cases q : a = i
   ·rw [q]; exact hb b (by omega)
   ·exact ha a b (by omega) hba
 ·intro n _ ha
  rw [z3a, if_neg (by simp)]
  exact ⟨true, rfl, fun _ => hm _ ha rfl, fun _ => rfl⟩
theorem zx7 {l : List z7} (ha : Apt l) (q : Nat -> Bool) : selQ l (nmQ l (zfl (selQ l q))) = selQ l q := by
 refine zia fun i hi => ?_
 rw [Bool.eq_iff_iff]
 unfold nmQ
 rw [y3f]
 unfold zfl selQ
 simp only [List.map_map, List.mem_map, List.mem_filter, List.mem_range, Function.comp]
 constructor
 ·rintro ⟨j, ⟨hj, hq⟩, e⟩
  rw [<- ha j i hj hi e]; exact hq
 ·intro hq
  exact ⟨i, ⟨hi, hq⟩, rfl⟩
end Px
end
section
namespace Px
open Go
set_option linter.unusedVariables false
set_option linter.unusedSimpArgs false
def ltR (a b : z7) : Bool := decide (a.time < b.time \/ a.time = b.time /\ (a.ref.railway < b.ref.railway \/ a.ref.railway = b.ref.railway /\ a.ref.no < b.ref.no))
theorem zg0 {a b : z7} : ltR a b = true ↔ a.time < b.time \/ a.time = b.time /\ (a.ref.railway < b.ref.railway \/ a.ref.railway = b.ref.railway /\ a.ref.no < b.ref.no) := by
 unfold ltR; rw [decide_eq_true_eq]
theorem zrf {x y z : z7} (h : ltR x z = true) : ltR x y = true \/ ltR y z = true := by
 rw [zg0] at *
 rw [zg0]
 omega
theorem zho (a b : Int) : (cmpI a b < 0 ↔ a < b) /\ (cmpI a b = 0 ↔ a = b) := by
 unfold cmpI
 split
 ·omega
 ·split <;> omega
theorem ydl (φ : Nat) (h : 6 <= φ) (a b c : Int) : zlw φ [a, b, c] = some (if a ≠ 0 then a else if b ≠ 0 then b else c, ()) := by
 obtain ⟨n, rfl⟩ : ∃ n, φ = n + 6 := ⟨φ - 6, by omega⟩
 unfold zlw
 rw [z88, if_pos (by simp), z8 ⟨by omega, by simp⟩]
 show (if (a != 0) = true then _ else _) = _
 by_cases h1 : a = 0
 ·rw [if_neg (by simp [h1]), if_neg (by simp [h1]), z88, if_pos (by simp [zsi]), z8 ⟨by simp [zsi], by simp [zsi]⟩]
  show (if (b != 0) = true then _ else _) = _
  by_cases h2 : b = 0
  ·rw [if_neg (by simp [h2]), if_neg (by simp [h2]), z88, if_pos (by simp [zsi]), z8 ⟨by simp [zsi], by simp [zsi]⟩]
   show (if (c != 0) = true then _ else _) = _
   by_cases h3 : c = 0
   ·rw [if_neg (by simp [h3]), z88, if_neg (by simp [zsi]), h3]
   ·rw [if_pos (by simp [h3])]; rfl
  ·rw [if_pos (by simp [h2]), if_pos (by simp [h2])]; rfl
 ·rw [if_pos (by simp [h1]), if_pos (by simp [h1])]; rfl
theorem zxe (φ : Nat) (h : 6 <= φ) (l : List z7) {i k : Int} (hi : 0 <= i /\ i < (l.length : Int)) (hk : 0 <= k /\ k < (l.length : Int)) :
  ∃ c, z4c φ i k l = some (c, ()) /\ (decide (c < 0) = ltR (gt l i) (gt l k)) := by
 unfold z4c z2p
 rw [z8 hi, z8 hk]
 unfold z31
 rw [zeu, Option.bind_some, zeu, Option.bind_some, zeu, Option.bind_some, ydl φ h, Option.bind_some]
 refine ⟨_, rfl, ?_⟩
 obtain ⟨a1, a2⟩ := zho (gt l i).time (gt l k).time
 obtain ⟨b1, b2⟩ := zho (gt l i).ref.railway (gt l k).ref.railway
 obtain ⟨c1, c2⟩ := zho (gt l i).ref.no (gt l k).ref.no
 rw [Bool.eq_iff_iff, decide_eq_true_eq, zg0]
 simp only
 split
 ·omega
 ·split <;> omega
def rI (l : List z7) (i : Int) : List Int -> List Int -> List Int
 | [], S => i :: S
 | a :: R, S => if ltR (gt l i) (gt l a) = true then rI l i R (a :: S) else (a :: R).reverse ++ i :: S
def early (l : List z7) (i a : Int) : Bool := !ltR (gt l i) (gt l a)
def ordI (l : List z7) : Nat -> List Int
 | 0 => []
 | n + 1 => (ordI l n).takeWhile (early l (n : Int)) ++ (n : Int) :: (ordI l n).dropWhile (early l (n : Int))
def SrtR (l : List z7) (A : List Int) : Prop := A.Pairwise fun a b => ltR (gt l b) (gt l a) = false
theorem zyy {α : Type} (p : α -> Bool) {a : α} (ha : p a = false) : ∀ (R : List α), (R ++ [a]).takeWhile p = R.takeWhile p /\ (R ++ [a]).dropWhile p = R.dropWhile p ++ [a]
 | [] => by simp [List.takeWhile, List.dropWhile, ha]
 | b :: R => by
  obtain ⟨h1, h2⟩ := zyy p ha R
  cases hb : p b <;> simp [List.takeWhile, List.dropWhile, hb, h1, h2]
theorem y7o {α : Type} (p : α -> Bool) : ∀ (A : List α), (∀ a ∈ A, p a = true) -> A.takeWhile p = A /\ A.dropWhile p = []
 | [], _ => ⟨rfl, rfl⟩
 | b :: R, h => by
  obtain ⟨h1, h2⟩ := y7o p R fun a ha => h a (List.mem_cons_of_mem _ ha)
  have hb := h b List.mem_cons_self
  simp [List.takeWhile, List.dropWhile, hb, h1, h2]
theorem y8e {α : Type} (p : α -> Bool) : ∀ (R : List α) (a : α), a ∈ R.takeWhile p -> p a = true
 | [], a, h => by cases h
 | b :: R, a, h => by
  cases hb : p b with
  | false => simp [List.takeWhile, hb] at h
  | true =>
   simp only [List.takeWhile, hb, List.mem_cons] at h
   rcases h with rfl | h
   ·exact hb
   ·exact y8e p R a h
theorem ybs (l : List z7) (i : Int) : ∀ (R S : List Int), SrtR l R.reverse -> rI l i R S = R.reverse.takeWhile (early l i) ++ i :: (R.reverse.dropWhile (early l i) ++ S)
 | [], S, _ => by simp [rI]
 | a :: R, S, h => by
  rw [rI]
  rw [List.reverse_cons] at h ⊢
  obtain ⟨h1, h2, h3⟩ := List.pairwise_append.1 h
  by_cases hq : ltR (gt l i) (gt l a) = true
  ·obtain ⟨k1, k2⟩ := zyy (early l i) (a := a) (by unfold early; rw [hq]; rfl) R.reverse
   rw [if_pos hq, ybs l i R (a :: S) h1, k1, k2, List.append_assoc]; rfl
  ·obtain ⟨k1, k2⟩ := y7o (early l i) (R.reverse ++ [a]) fun b hb => by
    unfold early
    rw [Bool.not_eq_true']
    rcases List.mem_append.1 hb with hb | hb
    ·have := h3 b hb a (by simp)
     rw [Bool.eq_false_iff]
     intro q
     rcases zrf (y := gt l a) q with q | q
     ·exact hq q
     ·rw [this] at q; cases q
    ·simp only [List.mem_singleton] at hb; rw [hb]; exact Bool.eq_false_iff.2 hq
   rw [if_neg hq, k1, k2]
   simp
theorem zai (l : List z7) : ∀ (n : Nat) (a : Int), a ∈ ordI l n ↔ 0 <= a /\ a < (n : Int)
 | 0, a => by
  constructor
  ·intro h; cases h
  ·intro h; omega
 | n + 1, a => by
  have ih := zai l n a
  have : a ∈ ordI l n ↔ a ∈ (ordI l n).takeWhile (early l (n : Int)) \/ a ∈ (ordI l n).dropWhile (early l (n : Int)) := by
   rw [<- List.mem_append, List.takeWhile_append_dropWhile]
  rw [ordI, List.mem_append, List.mem_cons]
  rw [this] at ih
  constructor
  ·rintro (h | h | h)
   ·have := ih.1 (.inl h); omega
   ·omega
   ·have := ih.1 (.inr h); omega
  ·intro h
   by_cases e : a = (n : Int)
   ·exact .inr (.inl e)
   ·exact (ih.2 (by omega)).imp id .inr
theorem zhc (l : List z7) : ∀ n : Nat, (ordI l n).length = n
 | 0 => rfl
 | n + 1 => by
  have ih := zhc l n
  have := congrArg List.length (List.takeWhile_append_dropWhile (p := early l (n : Int)) (l := ordI l n))
  rw [List.length_append] at this
  rw [ordI, List.length_append, List.length_cons]
  omega
theorem zn9 (l : List z7) : ∀ n : Nat, (ordI l n).Nodup
 | 0 => List.nodup_nil
 | n + 1 => by
  have ih := zn9 l n
  have hm := zai l n
  have e := List.takeWhile_append_dropWhile (p := early l (n : Int)) (l := ordI l n)
  have hp : (ordI l (n + 1)).Perm ((n : Int) :: ordI l n) := by
   rw [ordI]
   refine List.perm_middle.trans ?_
   rw [e]
  rw [hp.nodup_iff, List.nodup_cons]
  exact ⟨fun h => by have := (hm _).1 h; omega, ih⟩
theorem zwg (l : List z7) : ∀ n : Nat, SrtR l (ordI l n)
 | 0 => List.Pairwise.nil
 | n + 1 => by
  have ih := zwg l n
  have e := List.takeWhile_append_dropWhile (p := early l (n : Int)) (l := ordI l n)
  rw [ordI]
  have ih2 : SrtR l ((ordI l n).takeWhile (early l (n : Int)) ++ (ordI l n).dropWhile (early l (n : Int))) := by rw [e]; exact ih
  obtain ⟨h1, h2, h3⟩ := List.pairwise_append.1 ih2
  have hlt : ∀ b ∈ (ordI l n).dropWhile (early l (n : Int)), ltR (gt l (n : Int)) (gt l b) = true := by
   cases hd : (ordI l n).dropWhile (early l (n : Int)) with
   | nil => intro b hb; cases hb
   | cons x D =>
    have hx : early l (n : Int) x = false := by
     have := List.head?_dropWhile_not (early l (n : Int)) (ordI l n)
     rw [hd] at this
     simpa using this
    have hx : ltR (gt l (n : Int)) (gt l x) = true := by unfold early at hx; simpa using hx
    intro b hb
    rcases List.mem_cons.1 hb with rfl | hb
    ·exact hx
    ·rw [hd] at h2
     have := List.rel_of_pairwise_cons h2 hb
     rcases zrf (y := gt l b) hx with q | q
     ·exact q
     ·rw [this] at q; cases q
  refine List.pairwise_append.2 ⟨h1, List.pairwise_cons.2 ⟨fun b hb => ?_, h2⟩, fun a ha b hb => ?_⟩
  ·rw [Bool.eq_false_iff]
   intro q
   have h4 := hlt b hb
   rw [zg0] at q h4
   omega
  ·rcases List.mem_cons.1 hb with rfl | hb
   ·have := y8e (early l (n : Int)) _ _ ha
    unfold early at this
    simpa using this
   ·exact h3 a ha b hb
end Px
end
section
namespace Px
open Go
set_option linter.unusedVariables false
set_option linter.unusedSimpArgs false
theorem y0h (A S : List Int) (a : Int) : gt (A ++ a :: S) (A.length : Int) = a := by
 rw [z1g (by simp)]
 simp
theorem zhk (A S : List Int) (a b : Int) : zz (A ++ a :: S) (A.length : Int) b = A ++ b :: S := by
 unfold zz
 rw [Int.toNat_natCast, List.set_append_right _ _ (Nat.le_refl _), Nat.sub_self, List.set_cons_zero]
section
variable (φ : Nat) (hφ : 60000000 < φ) (p : Pool) {l : List z7}
include hφ
theorem zvl (k : Int -> Int -> Int -> Int -> Int -> List Int -> List z7 -> Pool -> Option (List z7 × Int × Unit)) (x50 x51 x53 x54 : Int) {i : Int} (hi : 0 <= i /\ i < (l.length : Int)) : ∀ (R S : List Int) (m : Nat), R.length < m -> R.length <= 1000 -> (∀ a ∈ R, 0 <= a /\ a < (l.length : Int)) ->
  z2k φ k m 0 x50 x51 (R.length : Int) x53 x54 (R.reverse ++ i :: S) l p = k 0 x50 (W (x51 + 1)) x53 x54 (rI l i R S) l p
 | [], S, m, hm, hR, _ => by
  obtain ⟨m, rfl⟩ : ∃ q, m = q + 1 := ⟨m - 1, by omega⟩
  rw [z2k, z8 (fun h => by simp at h), z8 (fun h => by simp at h), gz_f (by simp), Option.bind_some, if_neg (by simp)]
  rfl
 | a :: R, S, m, hm, hR, hv => by
  obtain ⟨m, rfl⟩ : ∃ q, m = q + 1 := ⟨m - 1, by omega⟩
  rw [List.length_cons] at hm hR
  have ha := hv a List.mem_cons_self
  have e1 : (a :: R).reverse ++ i :: S = R.reverse ++ a :: i :: S := by simp
  have e2 : R.reverse ++ a :: i :: S = (R.reverse ++ [a]) ++ i :: S := by simp
  have hl1 : (R.reverse ++ [a]).length = R.length + 1 := by simp
  have hl2 : R.reverse.length = R.length := by simp
  have eW : W (((a :: R).length : Int) - 1) = (R.length : Int) := by rw [List.length_cons, W_id (by omega) (by omega)]; omega
  have g1 : gt (R.reverse ++ a :: i :: S) ((a :: R).length : Int) = i := by
   have := y0h (R.reverse ++ [a]) S i
   rw [<- e2, hl1] at this
   rw [List.length_cons]; exact this
  have g2 : gt (R.reverse ++ a :: i :: S) (R.length : Int) = a := by
   have := y0h R.reverse (i :: S) a
   rwa [hl2] at this
  have s1 : zz (R.reverse ++ a :: i :: S) ((a :: R).length : Int) a = R.reverse ++ a :: a :: S := by
   have := zhk (R.reverse ++ [a]) S i a
   rw [<- e2, hl1] at this
   rw [List.length_cons, this]; simp
  have s2 : zz (R.reverse ++ a :: a :: S) (R.length : Int) i = R.reverse ++ i :: a :: S := by
   have := zhk R.reverse (a :: S) a i
   rwa [hl2] at this
  have hlen : (R.reverse ++ a :: i :: S).length = R.length + (S.length + 2) := by simp
  have hlen2 : (R.reverse ++ a :: a :: S).length = R.length + (S.length + 2) := by simp
  obtain ⟨c, hc, hlt⟩ := zxe φ (by omega) l hi ha
  rw [e1, z2k, eW, z8 (fun _ => ⟨by omega, by rw [List.length_cons, hlen]; omega⟩), z8 (fun _ => ⟨by omega, by rw [hlen]; omega⟩), gz_t (by rw [List.length_cons]; simp), g1, g2, hc, Option.bind_some]
  simp only
  rw [hlt, s1, s2]
  rw [rI]
  by_cases hq : ltR (gt l i) (gt l a) = true
  ·rw [if_pos (by rw [hq, List.length_cons]; simp), if_pos hq, z8 ⟨by omega, by rw [hlen]; omega⟩, z8 ⟨by omega, by rw [List.length_cons, hlen]; omega⟩, z8 ⟨by omega, by rw [List.length_cons, hlen]; omega⟩, z8 ⟨by omega, by rw [hlen2]; omega⟩]
   exact zvl k x50 x51 x53 x54 hi R (a :: S) m (by omega) (by omega) fun b hb => hv b (List.mem_cons_of_mem _ hb)
  ·rw [if_neg (by simp [hq]), if_neg hq, e1]
end
def zbt (n i : Nat) : List Int := ((List.range n).drop i).map fun (j : Nat) => (j : Int)
theorem zn4 {n i : Nat} (h : i < n) : zbt n i = (i : Int) :: zbt n (i + 1) := by
 unfold zbt
 rw [List.drop_eq_getElem_cons (by simpa using h), List.map_cons, List.getElem_range]
noncomputable def zjn (φ : Nat) (p : Pool) (l : List z7) (q : Nat -> Bool) (i : Int) : Nat -> Bool :=
 if cnB φ p (selQ l (onQ q i.toNat)) = true then onQ q i.toNat else offQ (onQ q i.toNat) i.toNat
noncomputable def z8r (φ : Nat) (p : Pool) (l : List z7) (o : List Int) : Nat -> Bool := o.foldl (zjn φ p l) fun _ => false
noncomputable def zdq (φ : Nat) (p : Pool) (l : List z7) : List z7 := selQ l (z8r φ p l (ordI l l.length))
section
variable (φ : Nat) (hφ : 60000000 < φ) (p : Pool) {l : List z7} (hl : FewL l) (hs : l.length <= 10)
include hφ hs
theorem y0s {m : List (Int × Bool)} {q : Nat -> Bool} (hm : Mp l.length m q) : z10 φ φ l (l.length : Int) 0 [] m = some (selQ l q, 0, ()) := by
 refine zp (fun n i acc => z10 φ n l (l.length : Int) i acc m) l.length (fun i acc => acc = selN l q i) (fun o => o = some (selQ l q, 0, ())) ?_ ?_ φ [] rfl (by omega)
 ·intro n i acc hi ha hk
  have hn := zee l q i
  have hlen := zjt l q i
  have hq := hm.at_ i hi
  rw [z10, if_pos (by simpa using hi), z8 ⟨by omega, by omega⟩, W_id (x := (i : Int) + 1) (by omega) (by omega)]
  change (mget m (i : Int)).getD default = q i at hq
  rw [hq]
  by_cases h : q i = true
  ·rw [if_pos h] at hn ⊢
   rw [z8 (zfj (by rw [ha]; simp; omega) (by omega))]
   exact hk _ (by rw [ha, hn])
  ·rw [if_neg h] at hn ⊢
   exact hk _ (by rw [ha, hn])
 ·intro n acc ha
  rw [z10, if_neg (by simp), ha]; rfl
include hl
theorem y5i (hc : z01 p = 0) {o : List Int} (ho : ∀ a ∈ o, 0 <= a /\ a < (l.length : Int)) (hol : o.length <= 10) : z0z φ φ (o.length : Int) 0 [] p l o = some (selQ l (z8r φ p l o), 0, ()) := by
 refine zp (fun n i m => z0z φ n (o.length : Int) i m p l o) o.length (fun i m => Mp l.length m (z8r φ p l (o.take i))) (fun r => r = some (selQ l (z8r φ p l o), 0, ())) ?_ ?_ φ [] (Mp.nil _) (by omega)
 ·intro n i m hi hm hk
  have hv := ho _ (z1d (l := o) (i := (i : Int)) (by omega) (by omega))
  obtain ⟨k, hk2⟩ : ∃ k : Nat, gt o (i : Int) = (k : Int) := ⟨(gt o (i : Int)).toNat, by omega⟩
  have e : z8r φ p l (o.take (i + 1)) = zjn φ p l (z8r φ p l (o.take i)) (k : Int) := by
   unfold z8r
   rw [z07 o i hi, List.foldl_append, hk2]; rfl
  rw [z0z, if_pos (by simpa using hi), z8 ⟨by omega, by omega⟩, hk2, zoo φ hφ p hl hs hc (hm.on k), Option.bind_some, W_id (x := (i : Int) + 1) (by omega) (by omega)]
  simp only
  unfold zjn at e
  rw [Int.toNat_natCast] at e
  by_cases h : cnB φ p (selQ l (onQ (z8r φ p l (o.take i)) k)) = true
  ·rw [if_pos h] at e
   rw [if_neg (by simp [h])]
   exact hk _ (by rw [e]; exact hm.on k)
  ·rw [if_neg h] at e
   rw [if_pos (by simp [h])]
   exact hk _ (by rw [e]; exact (hm.on k).off k)
 ·intro n m hm
  rw [List.take_length] at hm
  rw [z0z, if_neg (by simp)]
  exact y0s φ hφ hs hm
theorem y06 (hc : z01 p = 0) : z3f φ φ (l.length : Int) 20 0 20 (zbt l.length 0) l p = some (zdq φ p l, 0, ()) := by
 have fin : ∀ n, z3k φ (n + 1) (l.length : Int) 20 (ordI l l.length) l p = some (zdq φ p l, 0, ()) := by
  intro n
  rw [z3k, if_neg (by simp; omega)]
  unfold z3h z3e
  exact y5i φ hφ p hl hs hc (fun a ha => (zai l _ a).1 ha) (by rw [zhc]; exact hs)
 obtain ⟨n, rfl⟩ : ∃ q, φ = q + 1 := ⟨φ - 1, by omega⟩
 rw [z3f, if_neg (by simp; omega), show W ((0 : Int) + 1) = 1 from rfl]
 have main : ∀ (d i m : Nat), d < m -> i + d = l.length -> 1 <= i -> z11 (n + 1) m 0 (l.length : Int) (i : Int) (l.length : Int) 20 (ordI l i ++ zbt l.length i) l p = some (zdq (n + 1) p l, 0, ()) := by
  intro d
  induction d with
  | zero =>
   intro i m hm hi h1
   obtain ⟨m, rfl⟩ : ∃ q, m = q + 1 := ⟨m - 1, by omega⟩
   have : zbt l.length i = [] := by unfold zbt; rw [List.drop_of_length_le (by simp; omega)]; rfl
   rw [z11, if_neg (by simp; omega), this, List.append_nil, show i = l.length by omega]
   exact fin n
  | succ d ih =>
   intro i m hm hi h1
   obtain ⟨m, rfl⟩ : ∃ q, m = q + 1 := ⟨m - 1, by omega⟩
   have hlen := zhc l i
   rw [z11, if_pos (by simp; omega), zn4 (by omega)]
   have := zvl (n + 1) hφ p (l := l) (z11 (n + 1) m) (l.length : Int) (i : Int) (l.length : Int) 20 (i := (i : Int)) ⟨by omega, by omega⟩ (ordI l i).reverse (zbt l.length (i + 1)) (n + 1) (by rw [List.length_reverse, hlen]; omega) (by rw [List.length_reverse, hlen]; omega)
    (fun a ha => by have := (zai l i a).1 (List.mem_reverse.1 ha); omega)
   rw [List.reverse_reverse, List.length_reverse, hlen] at this
   rw [this, ybs l (i : Int) _ _ (by rw [List.reverse_reverse]; exact zwg l i), List.reverse_reverse, W_id (x := (i : Int) + 1) (by omega) (by omega)]
   have h2 := ih (i + 1) m (by omega) (by omega) (by omega)
   rw [ordI, List.append_assoc, List.cons_append] at h2
   exact h2
 cases hn : l.length with
 | zero =>
  rw [z11, if_neg (by simp)]
  have := fin n
  rw [hn] at this
  exact this
 | succ k =>
  have h0 : zbt (k + 1) 0 = ordI l 1 ++ zbt (k + 1) 1 := by rw [zn4 (by omega)]; rfl
  have := main k 1 (n + 1) (by omega) (by omega) (Nat.le_refl _)
  rw [hn] at this
  rw [h0]
  exact this
theorem yau : z3o φ p l = some (if z01 p = 0 then (if cnB φ p l = true then (l, 0, ()) else (zdq φ p l, 0, ())) else ([], z01 p, ())) := by
 unfold z3o
 rw [z62 φ (by omega) p hl (by omega), Option.bind_some]
 by_cases hc : z01 p = 0
 case neg => rw [if_neg hc, if_neg hc]; simp only; rw [if_pos (by simpa using hc)]
 rw [if_pos hc, if_pos hc]
 simp only
 rw [if_neg (by simp)]
 by_cases h : cnB φ p l = true
 ·rw [if_pos h, if_pos h]
 rw [if_neg h, if_neg h, z8 (by unfold z4o; omega)]
 have hlen : ∀ i, i <= l.length -> (zbt i 0 ++ (List.replicate l.length (0 : Int)).drop i).length = l.length := fun i hi => by unfold zbt; simp; omega
 show z27 φ φ ((List.replicate l.length (default : Int)).length : Int) 0 p l (List.replicate l.length (default : Int)) = _
 rw [List.length_replicate]
 refine zp (fun n i x => z27 φ n (l.length : Int) i p l x) l.length (fun i x => x = zbt i 0 ++ (List.replicate l.length (0 : Int)).drop i) (fun r => r = some (zdq φ p l, 0, ())) ?_ ?_ φ _ rfl (by omega)
 ·intro n i x hi hx hk
  have := hlen i (by omega)
  rw [z27, if_pos (by simpa using hi), z8 ⟨by omega, by rw [hx, this]; omega⟩, W_id (x := (i : Int) + 1) (by omega) (by omega)]
  refine hk _ ?_
  have h1 : (zbt i 0).length = i := by unfold zbt; simp
  have h2 : (List.replicate l.length (0 : Int)).drop i = 0 :: (List.replicate l.length (0 : Int)).drop (i + 1) := by
   rw [List.drop_eq_getElem_cons (by simpa using hi), List.getElem_replicate]
  have h3 := zhk (zbt i 0) ((List.replicate l.length (0 : Int)).drop (i + 1)) 0 (i : Int)
  rw [h1] at h3
  rw [hx, h2, h3]
  unfold zbt
  rw [List.drop_zero, List.drop_zero, List.range_succ, List.map_append, List.append_assoc]; rfl
 ·intro n x hx
  rw [List.drop_of_length_le (by simp), List.append_nil] at hx
  have h1 : (zbt l.length 0).length = l.length := by unfold zbt; simp
  rw [z27, if_neg (by simp), hx, h1]
  exact y06 φ hφ p hl hs hc
end
end Px
end
section
namespace Px
open Go
set_option linter.unusedVariables false
set_option linter.unusedSimpArgs false
theorem yaf {φ : Nat} {p : Pool} (hc : z01 p = 0) : Con φ p [] := by
 refine ⟨fun _ _ => 0, fun i => 0 - (gt p.readers i).low, ⟨fun i hi => ?_, fun w _ e he => ?_, fun w _ a ha => ?_, fun w _ a ha => ?_⟩⟩
 ·have := (zen hc).1 (gt p.readers (i : Int)) (z1d (by omega) (by omega))
  exact ⟨by omega, Int.le_refl _⟩
 ·obtain ⟨j, hj, _⟩ := zkg.1 he; simp at hj
 ·obtain ⟨j, hj, _⟩ := zkg.1 ha; simp at hj
 ·obtain ⟨j, hj, _⟩ := zkg.1 ha; simp at hj
theorem ya7 {φ : Nat} {p : Pool} (hc : z01 p = 0) : cnB φ p [] = true := zm2.2 (yaf hc)
theorem y57 {l : List z7} {i : Nat} (h : i < l.length) : gt (zfl l) (i : Int) = (gt l (i : Int)).ref := by
 unfold zfl
 rw [z1g (by simpa using h), z1g h, List.getElem_map]
end Px
end
section
namespace Px
open Go
set_option linter.unusedVariables false
set_option linter.unusedSimpArgs false
theorem y6k (φ : Nat) (x : Item) (k : Int) : ∃ v, z9g φ x k = some (v, ()) := by
 unfold z9g
 iterate 10 (split; · exact ⟨_, rfl⟩)
 exact ⟨_, rfl⟩
theorem zmu (φ : Nat) (hφ : 10000 < φ) (x : List Part) (hx : x.length <= 1000) : z6m φ x x = some (true, ()) := by
 unfold z6m
 rw [if_neg (by simp)]
 refine zp (fun n i (_ : Unit) => z24 φ n x x i) x.length (fun _ _ => True) (fun o => o = some (true, ())) ?_ ?_ φ () trivial (by omega)
 ·intro n i _ hi _ hk
  rw [z24, if_pos (by simpa using hi), z8 ⟨by omega, by omega⟩, z8 ⟨by omega, by omega⟩, if_neg (by simp), W_id (x := (i : Int) + 1) (by omega) (by omega)]
  exact hk () trivial
 ·intro n _ _
  rw [z24, if_neg (by simp)]
theorem znb (b : ByteArray) : (b == b) = true := by
 cases b with | mk d =>
 show (d == d) = true
 exact beq_self_eq_true d
theorem zov (φ : Nat) (hφ : 10000 < φ) (x : Item) (hx : x.parts.length <= 1000) : zer φ x x = some (true, ()) := by
 unfold zer
 have hs : (z3d.size : Int) = 11 := rfl
 refine zp (fun n i (_ : Unit) => z4v φ n i x x) 11 (fun _ _ => True) (fun o => o = some (true, ())) ?_ ?_ φ () trivial (by omega)
 ·intro n i _ hi _ hk
  obtain ⟨v, hv⟩ := y6k φ x (z73 z3d (i : Int))
  rw [z4v, if_pos (by simp; omega), z8 ⟨by omega, by omega⟩, hv, Option.bind_some, z8 ⟨by omega, by omega⟩, Option.bind_some, if_neg (by simp), W_id (x := (i : Int) + 1) (by omega) (by omega)]
  exact hk () trivial
 ·intro n _ _
  rw [z4v, if_neg (by simp), gz_t (by simp [znb]), zmu φ hφ _ hx, Option.bind_some]
  simp [znb]
theorem zz5 (φ : Nat) (hφ : 10000 < φ) {x : List z7} (hx : FewL x) : z26 φ x x = some (true, ()) := by
 have hlen := hx.len
 have key : z4j φ x x = some (true, ()) := by
  unfold z4j
  rw [if_neg (by simp)]
  refine zp (fun n i (_ : Unit) => z17 φ n x x i) x.length (fun _ _ => True) (fun o => o = some (true, ())) ?_ ?_ φ () trivial (by omega)
  ·intro n i _ hi _ hk
   have c : (0 : Int) <= (i : Int) /\ (i : Int) < (x.length : Int) := ⟨by omega, by omega⟩
   rw [z17, if_pos (by simpa using hi), z8 c, z8 c, z8 (fun _ => c), z8 (fun _ => c), z8 (fun _ => c), z8 (fun _ => c), z8 (fun _ => c), z8 (fun _ => c), gz_t (by simp), zov φ hφ _ (hx.gt c.1 c.2), Option.bind_some, if_neg (by simp), W_id (x := (i : Int) + 1) (by omega) (by omega)]
   exact hk () trivial
  ·intro n _ _
   rw [z17, if_neg (by simp)]
 unfold z26
 rw [key]; rfl
theorem y2p {φ : Nat} {p : Pool} (hc : z01 p = 0) (l : List z7) (o : List Int) : cnB φ p (selQ l (z8r φ p l o)) = true := by
 have key : ∀ (o : List Int) (q : Nat -> Bool), cnB φ p (selQ l q) = true -> cnB φ p (selQ l (o.foldl (zjn φ p l) q)) = true := by
  intro o
  induction o with
  | nil => intro q h; exact h
  | cons a o ih =>
   intro q h
   refine ih _ ?_
   unfold zjn
   split
   ·assumption
   ·refine zzt (zvk fun i hi hq => ?_) h
    unfold offQ onQ at hq
    split at hq
    ·cases hq
    ·exact hq
 refine key o _ ?_
 have : selQ l (fun _ => false) = [] := by unfold selQ; simp
 rw [this]
 exact ya7 hc
theorem zzl (φ : Nat) (p : Pool) (l : List z7) : (zdq φ p l).Sublist l := zo0 l _
end Px
end
section
namespace Px
open Go
set_option linter.unusedVariables false
set_option linter.unusedSimpArgs false
theorem zt7 {m : List Bool} {k : Nat} (hk : k < m.length) (v : Bool) (i : Nat) : mkQ (zz m (k : Int) v) i = if i = k then v else mkQ m i := by
 unfold mkQ zz
 rw [Int.toNat_natCast, List.getD_eq_getElem?_getD, List.getD_eq_getElem?_getD]
 by_cases e : i = k
 ·rw [if_pos e, e, List.getElem?_set_self hk]; rfl
 ·rw [if_neg e, List.getElem?_set_ne (fun q => e q.symm)]
theorem zvr (m : List Bool) (i : Int) (v : Bool) : (zz m i v).length = m.length := by unfold zz; rw [List.length_set]
theorem ya3 (n i : Nat) : mkQ (List.replicate n (default : Bool)) i = false := by
 unfold mkQ
 rw [List.getD_eq_getElem?_getD, List.getElem?_replicate]
 split <;> rfl
section
variable (φ : Nat) (hφ : 60000000 < φ) (p : Pool) {l : List z7} (hl : FewL l) (hs : l.length <= 10)
include hφ hs
include hl
end
theorem zha (φ : Nat) (l : List z7) {a i : Int} (ha : 0 <= a /\ a < i) (hi : i < (l.length : Int)) : z9b φ l a i = some (early l i a, ()) := by
 have c1 : (0 : Int) <= a /\ a < (l.length : Int) := ⟨ha.1, by omega⟩
 have c2 : (0 : Int) <= i /\ i < (l.length : Int) := ⟨by omega, hi⟩
 unfold z9b
 simp only [z8 c1, z8 c2]
 have key : ∀ b : Bool, (b = true ↔ ¬ ltR (gt l i) (gt l a) = true) -> b = early l i a := by
  intro b hb
  unfold early
  rw [Bool.eq_iff_iff, hb]
  simp
 by_cases h1 : (gt l a).time = (gt l i).time
 ·rw [if_neg (by simpa using h1)]
  by_cases h2 : (gt l a).ref.railway = (gt l i).ref.railway /\ (gt l a).ref.no = (gt l i).ref.no
  ·rw [if_neg (by simp [h2.1, h2.2]), decide_eq_true (by omega)]
   congr 1
   congr 1
   refine key true ⟨fun _ => ?_, fun _ => rfl⟩
   rw [zg0]
   omega
  ·rw [if_pos (by simp only [Bool.not_eq_true', Bool.and_eq_false_iff, beq_eq_false_iff_ne]; omega)]
   unfold zdv
   rw [Option.bind_some]
   congr 1
   congr 1
   refine key _ ?_
   rw [zg0]
   simp only [Bool.or_eq_true, Bool.and_eq_true, decide_eq_true_eq, beq_iff_eq]
   omega
 ·rw [if_pos (by simpa using h1)]
  congr 1
  congr 1
  refine key _ ?_
  rw [zg0, decide_eq_true_eq]
  omega
theorem yd5 {α : Type} [Inhabited α] (f : α -> Bool) : ∀ (l : List α), l.takeWhile f = l.take (l.takeWhile f).length /\ l.dropWhile f = l.drop (l.takeWhile f).length /\ (∀ k : Nat, k < (l.takeWhile f).length -> f (gt l (k : Int)) = true) /\
  ((l.takeWhile f).length < l.length -> f (gt l ((l.takeWhile f).length : Int)) = false)
 | [] => by simp
 | a :: l => by
  obtain ⟨h1, h2, h3, h4⟩ := yd5 f l
  cases ha : f a with
  | false =>
   refine ⟨by simp [List.takeWhile, ha], by simp [List.takeWhile, List.dropWhile, ha], fun k hk => by simp [List.takeWhile, ha] at hk, fun _ => ?_⟩
   simp only [List.takeWhile, ha, List.length_nil]
   exact ha
  | true =>
   have e : (a :: l).takeWhile f = a :: l.takeWhile f := by simp [List.takeWhile, ha]
   have e2 : (a :: l).dropWhile f = l.dropWhile f := by simp [List.dropWhile, ha]
   have g : ∀ k : Nat, gt (a :: l) ((k + 1 : Nat) : Int) = gt l (k : Int) := fun k => rfl
   rw [e, e2]
   refine ⟨by simpa using h1, by simpa using h2, fun k hk => ?_, fun hlt => ?_⟩
   ·cases k with
    | zero => exact ha
    | succ k => rw [g]; exact h3 k (by simpa using hk)
   ·rw [List.length_cons, g]; exact h4 (by simpa using hlt)
theorem zsy (φ : Nat) (hφ : 10000 < φ) (l : List z7) (hl : l.length <= 1000) : zcj φ l = some (ordI l l.length, ()) := by
 unfold zcj
 refine zp (fun n i out => z1p φ n l i out) l.length (fun i out => out = ordI l i) (fun o => o = some (ordI l l.length, ())) ?_ ?_ φ [] rfl (by omega)
 ·intro n i out hi hout hk
  subst hout
  have hlen := zhc l i
  have hmem := zai l i
  obtain ⟨t1, t2, t3, t4⟩ := yd5 (early l (i : Int)) (ordI l i)
  have tl : ((ordI l i).takeWhile (early l (i : Int))).length <= (ordI l i).length := by
   have := congrArg List.length (List.takeWhile_append_dropWhile (p := early l (i : Int)) (l := ordI l i))
   rw [List.length_append] at this; omega
  rw [z1p, if_pos (by simpa using hi)]
  have hstep : ordI l (i + 1) = (ordI l i).takeWhile (early l (i : Int)) ++ (i : Int) :: (ordI l i).dropWhile (early l (i : Int)) := rfl
  generalize ordI l i = O at *
  generalize hA : O.takeWhile (early l (i : Int)) = A at *
  refine zp (fun m (k : Int) (_ : Unit) => z2q φ (z1p φ n) m l (i : Int) k O) A.length (fun _ _ => True) (fun o => o = some (ordI l l.length, ())) ?_ ?_ φ () trivial (by omega)
  ·intro m k _ hk2 _ hh
   have hkO : k < O.length := by omega
   have hv := (hmem _).1 (z1d (l := O) (i := (k : Int)) (by omega) (by omega))
   rw [z2q, z8 (fun _ => ⟨by omega, by omega⟩), gz_t (by simpa using hkO), zha φ l hv (by omega), Option.bind_some, if_pos (by rw [t3 k hk2]; simpa using hkO), W_id (x := (k : Int) + 1) (by omega) (by omega)]
   exact hh () trivial
  ·intro m _ _
   have e1 : z1o O (0 : Int).toNat ((A.length : Nat) : Int).toNat = A := by unfold z1o; simp [<- t1]
   have e2 : z1o O ((A.length : Nat) : Int).toNat ((O.length : Nat) : Int).toNat = O.dropWhile (early l (i : Int)) := by unfold z1o; simp [<- t2]
   have hd : (O.dropWhile (early l (i : Int))).length <= O.length := by rw [t2]; simp
   rw [z2q, z8 (fun h => ⟨by omega, by simpa using h⟩)]
   have hcont : ∀ y : Bool × Unit, (decide (((A.length : Nat) : Int) < (O.length : Int)) && y.1) = false ->
     (if ((decide (((A.length : Nat) : Int) < (O.length : Int))) && y.1) = true then ((z2q φ (z1p φ n) m) l (i : Int) (W (((A.length : Nat) : Int) + 1)) O) else (ck ((0 : Int) <= 0 /\ 0 <= ((A.length : Nat) : Int) /\ ((A.length : Nat) : Int) <= (O.length : Int)) (ck (fits (([] : List Int).length + (z1o O (0 : Int).toNat ((A.length : Nat) : Int).toNat).length) 8) (ck (fits ((([] : List Int) ++ (z1o O (0 : Int).toNat ((A.length : Nat) : Int).toNat)).length + ([(i : Int)]).length) 8) (ck ((0 : Int) <= ((A.length : Nat) : Int) /\ ((A.length : Nat) : Int) <= (O.length : Int) /\ (O.length : Int) <= (O.length : Int)) (ck (fits ((((([] : List Int) ++ (z1o O (0 : Int).toNat ((A.length : Nat) : Int).toNat)) ++ [(i : Int)])).length + (z1o O ((A.length : Nat) : Int).toNat ((O.length : Int) : Int).toNat).length) 8) ((z1p φ n) l (W ((i : Int) + 1)) ((((([] : List Int) ++ (z1o O (0 : Int).toNat ((A.length : Nat) : Int).toNat)) ++ [(i : Int)]) ++ (z1o O ((A.length : Nat) : Int).toNat ((O.length : Int) : Int).toNat)))))))))) = some (ordI l l.length, ()) := by
    intro y hy
    rw [if_neg (by rw [hy]; simp), e1, e2, z8 ⟨by omega, by omega, by omega⟩, z8 (zfj (by simp; omega) (by omega)), z8 (zfj (by simp; omega) (by omega)), z8 ⟨by omega, by omega, by omega⟩, z8 (zfj (by simp; omega) (by omega)), W_id (x := (i : Int) + 1) (by omega) (by omega)]
    refine hk _ ?_
    rw [hstep]
    simp
   by_cases hlt : A.length < O.length
   ·have hv := (hmem _).1 (z1d (l := O) (i := ((A.length : Nat) : Int)) (by omega) (by omega))
    rw [gz_t (by simpa using hlt), zha φ l hv (by omega), Option.bind_some]
    exact hcont _ (by rw [t4 hlt]; simp)
   ·rw [gz_f (by simpa using hlt), Option.bind_some]
    exact hcont _ (by simp)
 ·intro n out hout
  rw [z1p, if_neg (by simp), hout]
end Px
end
section
namespace Px
open Go
set_option linter.unusedVariables false
set_option linter.unusedSimpArgs false
theorem zjq (φ : Nat) (p : Pool) (l : List z7) (q : Nat -> Bool) (k i : Nat) : zjn φ p l q (k : Int) i = if i = k then cnB φ p (selQ l (onQ q k)) else q i := by
 unfold zjn
 rw [Int.toNat_natCast]
 cases h : cnB φ p (selQ l (onQ q k)) with
 | true =>
  rw [if_pos rfl]
  rfl
 | false =>
  rw [if_neg (by simp)]
  unfold offQ onQ
  by_cases e : i = k <;> simp [e]
theorem zv2 (φ : Nat) (p : Pool) (l : List z7) (k : Nat) : ∀ (r : List Int) (q : Nat -> Bool), (∀ a ∈ r, 0 <= a /\ a ≠ (k : Int)) -> (r.foldl (zjn φ p l) q) k = q k
 | [], _, _ => rfl
 | a :: r, q, h => by
  have ha := h a List.mem_cons_self
  obtain ⟨n, rfl⟩ : ∃ n : Nat, a = (n : Int) := ⟨a.toNat, by omega⟩
  rw [List.foldl_cons, zv2 φ p l k r _ fun b hb => h b (List.mem_cons_of_mem _ hb), zjq, if_neg (by omega)]
theorem zzs (φ : Nat) (p : Pool) (l : List z7) {o : List Int} (ho : ∀ a ∈ o, 0 <= a) (hn : o.Nodup) {i k : Nat} (hi : i < o.length) (hk : gt o (i : Int) = (k : Int)) : z8r φ p l o k = cnB φ p (selQ l (onQ (z8r φ p l (o.take i)) k)) := by
 have e : o = o.take i ++ (gt o (i : Int)) :: o.drop (i + 1) := by
  have h1 := List.take_append_drop (i + 1) o
  rw [z07 o i hi, List.append_assoc] at h1
  exact h1.symm
 have hd : ∀ a ∈ o.drop (i + 1), 0 <= a /\ a ≠ (k : Int) := by
  intro a ha
  refine ⟨ho a (List.mem_of_mem_drop ha), fun q => ?_⟩
  rw [e, List.nodup_append] at hn
  have := (List.nodup_cons.1 hn.2.1).1
  rw [hk, <- q] at this
  exact this ha
 have : z8r φ p l o = (o.drop (i + 1)).foldl (zjn φ p l) (zjn φ p l (z8r φ p l (o.take i)) (gt o (i : Int))) := by
  unfold z8r
  conv => lhs; rw [e]
  rw [List.foldl_append, List.foldl_cons]
 rw [this, zv2 φ p l k _ _ hd, hk, zjq, if_pos rfl]
theorem zwu (φ : Nat) (p : Pool) (l : List z7) {o : List Int} {i k : Nat} (hi : i < o.length) (hk : gt o (i : Int) = (k : Int)) (j : Nat) : z8r φ p l (o.take (i + 1)) j = if j = k then cnB φ p (selQ l (onQ (z8r φ p l (o.take i)) k)) else z8r φ p l (o.take i) j := by
 have : z8r φ p l (o.take (i + 1)) = zjn φ p l (z8r φ p l (o.take i)) (k : Int) := by
  unfold z8r
  rw [z07 o i hi, List.foldl_append, hk]; rfl
 rw [this, zjq]
theorem zzx {φ : Nat} {p : Pool} {l : List z7} (h : cnB φ p l = true) : zdq φ p l = l := by
 have key : ∀ (o : List Int) (q : Nat -> Bool) (j : Nat), (∀ a ∈ o, 0 <= a) -> (q j = true \/ (j : Int) ∈ o) -> (o.foldl (zjn φ p l) q) j = true := by
  intro o
  induction o with
  | nil =>
   intro q j _ hq
   rcases hq with hq | hq
   ·exact hq
   ·cases hq
  | cons a o ih =>
   intro q j ho hq
   have ha := ho a List.mem_cons_self
   obtain ⟨n, rfl⟩ : ∃ n : Nat, a = (n : Int) := ⟨a.toNat, by omega⟩
   refine ih _ j (fun b hb => ho b (List.mem_cons_of_mem _ hb)) ?_
   rw [zjq]
   by_cases e : j = n
   ·left; rw [if_pos e]; exact zzt (zo0 l _) h
   ·rw [if_neg e]
    rcases hq with hq | hq
    ·exact .inl hq
    ·rcases List.mem_cons.1 hq with hq | hq
     ·omega
     ·exact .inr hq
 unfold zdq
 have : selQ l (z8r φ p l (ordI l l.length)) = selQ l (fun _ => true) := zia fun i hi =>
  key _ _ i (fun a ha => ((zai l _ a).1 ha).1) (.inr ((zai l _ _).2 (by omega)))
 rw [this, zwr]
section
variable (φ : Nat) (hφ : 60000000 < φ) (p : Pool) {l : List z7} (hl : FewL l) (hs : l.length <= 10)
include hφ hs hl
theorem y5x : z3o φ p l = some (if z01 p = 0 then (zdq φ p l, 0, ()) else ([], z01 p, ())) := by
 rw [yau φ hφ p hl hs]
 by_cases hc : z01 p = 0
 ·rw [if_pos hc, if_pos hc]
  by_cases h : cnB φ p l = true
  ·rw [if_pos h, zzx h]
  ·rw [if_neg h]
 ·rw [if_neg hc, if_neg hc]
end
theorem ycn {l : List z7} (ha : Apt l) (q : Nat -> Bool) {i : Nat} (hi : i < l.length) : inR (zfl (selQ l q)) (gt l (i : Int)).ref = q i := by
 rw [Bool.eq_iff_iff, y3f]
 unfold zfl selQ
 simp only [List.map_map, List.mem_map, List.mem_filter, List.mem_range, Function.comp]
 constructor
 ·rintro ⟨j, ⟨hj, hq⟩, e⟩
  rw [<- ha j i hj hi e]; exact hq
 ·intro hq
  exact ⟨i, ⟨hi, hq⟩, rfl⟩
theorem yd2 (x : z7) (r : List Ref) : (((selQ [x] (nmQ [x] r)).length : Int) == 1) = inR r x.ref := by
 have e : selQ [x] (nmQ [x] r) = if inR r x.ref = true then [x] else [] := by
  unfold selQ
  show List.map _ (List.filter (nmQ [x] r) [0]) = _
  have h0 : nmQ [x] r 0 = inR r x.ref := rfl
  by_cases h : inR r x.ref = true
  ·rw [if_pos h, List.filter_cons, if_pos (by rw [h0]; exact h)]; rfl
  ·rw [if_neg h, List.filter_cons, if_neg (by rw [h0]; exact h)]; rfl
 rw [e]
 cases inR r x.ref <;> rfl
theorem zgx (φ : Nat) (p : Pool) (l : List z7) : (z0d φ).F (p, l, ()) = z06 φ p l := rfl
theorem z8q (x : Tup TT [30, 38]) (h : ya9 TV 30 [30, 38] x) : ∃ φ, (z0d φ).F x = some (true, ()) := by
 obtain ⟨p, l, _⟩ := x
 change List z7 at l
 change Pool at p
 suffices key : ∃ φ, z06 φ p l = some (true, ()) by
  obtain ⟨φ, h⟩ := key
  exact ⟨φ, (zgx φ p l).trans h⟩
 suffices key : ∀ φ : Nat, 60000000 < φ -> zf4 φ = some (true, ()) -> z06 φ p l = some (true, ()) from ⟨100000000, key _ (by omega) ydk⟩
 intro φ hφ hsane
 unfold z06
 obtain ⟨bf, hbf, hfew, _⟩ := y5u φ (by omega) p l
 rw [hsane, Option.bind_some, if_neg (by simp), hbf, Option.bind_some]
 cases bf with
 | false => rw [gz_f (by simp), Option.bind_some, if_pos (by simp)]
 | true =>
 obtain ⟨hl, hlen⟩ := hfew rfl
 obtain ⟨ba, hba, hap⟩ := y6a φ (by omega) l (by omega)
 rw [gz_t (by simp), hba, Option.bind_some]
 cases ba with
 | false => rw [if_pos (by simp)]
 | true =>
 have hap := hap.1 rfl
 rw [if_neg (by simp), y5x φ hφ p hl hlen, Option.bind_some]
 by_cases hc : z01 p = 0
 case neg =>
  rw [if_neg hc]
  simp only
  rw [if_pos (by simp [hc]), z62 φ (by omega) p hl (by omega), Option.bind_some, if_neg hc]
  simp
 rw [if_pos hc]
 simp only
 rw [if_neg (by simp)]
 have hkc : cnB φ p (zdq φ p l) = true := y2p hc l _
 have hsub := zzl φ p l
 have hkl : FewL (zdq φ p l) := hl.sub hsub
 have hKl := hsub.length_le
 have hrl : (zfl (zdq φ p l)).length = (zdq φ p l).length := by unfold zfl; rw [List.length_map]
 have hnm : selQ l (nmQ l (zfl (zdq φ p l))) = zdq φ p l := zx7 hap _
 have hin : ∀ k : Nat, k < l.length -> inR (zfl (zdq φ p l)) (gt l (k : Int)).ref = z8r φ p l (ordI l l.length) k := fun k hk => ycn hap _ hk
 generalize zdq φ p l = K at *
 have ho : ∀ a ∈ ordI l l.length, 0 <= a /\ a < (l.length : Int) := fun a ha => (zai l _ a).1 ha
 have hol := zhc l l.length
 have hnd := zn9 l l.length
 refine zp (fun n i acc => zm φ n l K i p acc) K.length (fun i acc => acc = (zfl K).take i) (fun r => r = some (true, ())) ?_ ?_ φ [] rfl (by omega)
 ·intro n i acc hi ha hk
  have hal : acc.length <= 10 := by rw [ha, List.length_take]; omega
  rw [zm, if_pos (by simpa using hi), z8 ⟨by omega, by omega⟩, z8 (zfj (by simp; omega) (by omega)), W_id (x := (i : Int) + 1) (by omega) (by omega)]
  exact hk _ (by rw [z07 _ i (by omega), y57 hi, ha])
 ·intro n acc ha
  rw [<- hrl, List.take_length] at ha
  subst ha
  rw [zm, if_neg (by simp), z62 φ (by omega) p hkl (by omega), Option.bind_some, if_pos hc, if_pos (by simp [hkc]), zw0 φ (by omega) l _ (by omega) (by omega), Option.bind_some, hnm, zz5 φ (by omega) hkl, Option.bind_some, if_neg (by simp),
   zsy φ (by omega) l (by omega), Option.bind_some, z8 (by unfold z4o; omega)]
  simp only
  show zi φ φ l (zfl K) (ordI l l.length) 0 p (List.replicate l.length (default : Bool)) = _
  generalize ordI l l.length = o at *
  refine zp (fun n i m => zi φ n l (zfl K) o i p m) o.length (fun i m => m.length = l.length /\ ∀ j, j < l.length -> mkQ m j = z8r φ p l (o.take i) j) (fun r => r = some (true, ())) ?_ ?_ φ _ ⟨List.length_replicate, fun j hj => by rw [ya3]; rfl⟩ (by omega)
  ·intro n i m hi hm hk
   obtain ⟨h1, h2⟩ := hm
   have hv := ho _ (z1d (l := o) (i := (i : Int)) (by omega) (by omega))
   obtain ⟨k, hk2⟩ : ∃ k : Nat, gt o (i : Int) = (k : Int) := ⟨(gt o (i : Int)).toNat, by omega⟩
   rw [hk2] at hv
   have hsub2 := zo0 l (mkQ (zz m (k : Int) true))
   have e2 : selQ l (mkQ (zz m (k : Int) true)) = selQ l (onQ (z8r φ p l (o.take i)) k) := zia fun j hj => by
    rw [zt7 (by omega), h2 j hj]; rfl
   have hfix := zzs φ p l (o := o) (fun a ha => (ho a ha).1) hnd hi hk2
   have hkept : (((selQ [gt l (k : Int)] (nmQ [gt l (k : Int)] (zfl K))).length : Int) == 1) = cnB φ p (selQ l (onQ (z8r φ p l (o.take i)) k)) := by
    rw [yd2, hin k (by omega), hfix]
   rw [zi, if_pos (by simpa using hi), z8 ⟨by omega, by omega⟩, hk2, z8 ⟨by omega, by omega⟩, zw0 φ (by omega) [gt l (k : Int)] (zfl K) (by simp) (by omega), Option.bind_some, z8 ⟨by omega, by omega⟩, zx8 φ (by omega) l _ (by omega), Option.bind_some,
    z62 φ (by omega) p (hl.sub hsub2) (by have := hsub2.length_le; omega), Option.bind_some, if_pos hc]
   simp only
   rw [hkept, e2, if_neg (by simp), z8 ⟨by omega, by rw [zvr]; omega⟩, W_id (x := (i : Int) + 1) (by omega) (by omega)]
   refine hk _ ⟨by rw [zvr, zvr]; exact h1, fun j hj => ?_⟩
   rw [zt7 (by rw [zvr]; omega), zt7 (by omega), h2 j hj, zwu φ p l hi hk2]
   by_cases q : j = k
   ·rw [if_pos q, if_pos q]
   ·rw [if_neg q, if_neg q, if_neg q]
  ·intro n m _
   rw [zi, if_neg (by simp)]
end Px
end
