/- A part of the proof of repairPays_holds. Conditions: none. -/
import Derived.Test.YtakhlidbhepogaaGreatPkag
section
namespace Px
open Go
set_option linter.unusedVariables false
set_option linter.unusedSimpArgs false
theorem gz_t {α : Type} {z : α} {p : Prop} [Decidable p] {x : Option α} (h : p) : zx z p x = x := if_pos h
theorem gz_f {α : Type} {z : α} {p : Prop} [Decidable p] {x : Option α} (h : ¬ p) : zx z p x = some z := if_neg h
def zg3 (p : z7b) : Bool := bet p.kind 1 5 && bet p.railway 0 15 && (bif p.kind == 3 then bet p.other 0 15 && (p.other != p.railway) else p.other == (-1))
def zje (n : Int) (e : Edge) : Bool := bet e.a 0 (n - 1) && bet e.b 0 (n - 1) && (e.a != e.b) && bet e.railway 0 15 && bet e.minutes 1 100000 && bet e.km 0 10000
def zg7 (x : zbd) : Int := bif decide (512 < x.places.length) || decide (2048 < x.edges.length) then 2 else bif x.places.all zg3 && x.edges.all (zje x.places.length) then 0 else 1
theorem zmd (φ : Nat) (p : z7b) : zbv φ p = some (zg3 p, ()) := by
 have hb : (((decide (p.kind < 1) || decide (5 < p.kind)) || decide (p.railway < 0)) || decide (16 <= p.railway)) = !(bet p.kind 1 5 && bet p.railway 0 15) := by
  rw [Bool.eq_iff_iff]; simp [bet]; omega
 unfold zbv zg3
 rw [hb]
 cases bet p.kind 1 5 && bet p.railway 0 15 with
 | false => rfl
 | true =>
  rw [if_neg (by simp)]
  by_cases h : p.kind = 3
  ·have : (decide (0 <= p.other) && decide (p.other < 16)) = bet p.other 0 15 := by rw [Bool.eq_iff_iff]; simp [bet]; omega
   rw [if_neg (by simp [h]), this]; simp [h]
  ·have h2 : (p.kind == 3) = false := by simpa using h
   rw [if_pos (by simp [h]), h2]; rfl
theorem y3k (n : Int) (e : Edge) : ((((((decide ((min2 (min2 (min2 (e.a) (e.b)) (e.railway)) (e.km)) < 0) || decide (n <= (max2 (e.a) (e.b)))) || (e.a == e.b)) || decide (16 <= e.railway)) || decide (e.minutes < 1)) || decide (100000 < e.minutes)) || decide (10000 < e.km)) = !zje n e := by
 have hm : ∀ x y z : Int, z <= max2 x y ↔ z <= x \/ z <= y := by intro x y z; unfold max2; split <;> omega
 have hok : zje n e = true ↔ ((((((0 <= e.a /\ e.a <= n - 1) /\ 0 <= e.b /\ e.b <= n - 1) /\ ¬ e.a = e.b) /\ 0 <= e.railway /\ e.railway <= 15) /\ 1 <= e.minutes /\ e.minutes <= 100000) /\ 0 <= e.km /\ e.km <= 10000) := by
  simp only [zje, Bool.and_eq_true, y3x, bne_iff_ne, ne_eq]
 rw [Bool.eq_iff_iff, Bool.not_eq_true', <- Bool.not_eq_true, hok]
 simp only [Bool.or_eq_true, decide_eq_true_eq, yba, hm, beq_iff_eq]
 omega
theorem y5s (x : zbd) : (decide (512 < (x.places.length : Int)) || decide (2048 < (x.edges.length : Int))) = (decide (512 < x.places.length) || decide (2048 < x.edges.length)) := by
 congr 1 <;> (apply decide_eq_decide.2; omega)
theorem zn0 (φ : Nat) (hφ : 5000 < φ) (x : zbd) : zby φ x = some (zg7 x, ()) := by
 unfold zby zg7
 rw [y5s]
 cases h : decide (512 < x.places.length) || decide (2048 < x.edges.length) with
 | true => rfl
 | false =>
  simp only [Bool.or_eq_false_iff, decide_eq_false_iff_not, Nat.not_lt] at h
  rw [if_neg (by simp), zsg (fun n i => z4u φ n (x.places.length : Int) x.places (x.places.length : Int) i x) (z20 φ φ (x.places.length : Int) x.edges (x.edges.length : Int) 0) (some (1, ())) x.places (fun t => !zg3 t) ?_ ?_ φ (by omega)]
  ·rw [zsg (fun n i => z20 φ n (x.places.length : Int) x.edges (x.edges.length : Int) i) (some (0, ())) (some (1, ())) x.edges (fun t => !zje x.places.length t) ?_ ?_ φ (by omega)]
   ·simp only [List.any_eq_not_all_not, Bool.not_not]
    cases x.places.all zg3 <;> cases x.edges.all (zje x.places.length) <;> rfl
   ·intro n i hi
    rw [z20, if_pos (by simp; omega), z8 ⟨by omega, by omega⟩, y3k, W_id (by omega) (by omega)]
    cases zje x.places.length (gt x.edges i) <;> rfl
   ·intro n; rw [z20, if_neg (by simp)]
  ·intro n i hi
   rw [z4u, if_pos (by simp; omega), z8 ⟨by omega, by omega⟩, zmd, Option.bind_some, W_id (by omega) (by omega)]
   cases zg3 (gt x.places i) <;> rfl
  ·intro n; rw [z4u, if_neg (by simp)]
theorem ztc {x : zbd} (h : zg7 x = 0) : x.places.length <= 512 /\ x.edges.length <= 2048 /\ (∀ p ∈ x.places, zg3 p = true) /\ ∀ e ∈ x.edges, zje x.places.length e = true := by
 unfold zg7 at h
 cases h1 : decide (512 < x.places.length) || decide (2048 < x.edges.length) with
 | true => rw [h1] at h; cases h
 | false =>
  rw [h1] at h
  cases h2 : x.places.all zg3 && x.edges.all (zje x.places.length) with
  | false => rw [h2] at h; cases h
  | true =>
   simp only [Bool.or_eq_false_iff, decide_eq_false_iff_not, Nat.not_lt] at h1
   simp only [Bool.and_eq_true, List.all_eq_true] at h2
   exact ⟨h1.1, h1.2, h2⟩
def zzn : Int -> List Int -> Bool
 | _, [] => true
 | p, h :: t => decide (p < h) && decide (h <= 745654) && zzn h t
def zq4 (s : Span) : Bool := decide (0 <= s.from_) && decide (s.from_ <= s.to) && decide (s.to <= 1440)
def zvm (c : z93) : Bool := ((List.range 7).all fun i => zq4 (c.open_ i)) && zzn (-1) c.holidays
theorem ybt (φ : Nat) (c : z93) : ∀ (n i : Nat) (p : Int), -1 <= p -> (i : Int) <= p + 1 -> p <= 745654 -> i <= c.holidays.length -> 745656 <= (n : Int) + p -> z32 φ n p c.holidays (c.holidays.length : Int) i = some (bif zzn p (c.holidays.drop i) then 0 else 1, ()) := by
 intro n
 induction n with
 | zero => intro i p _ _ _ _ _; omega
 | succ n ih =>
  intro i p hp hip hp2 hi hn
  by_cases h : i = c.holidays.length
  ·rw [h, z32, if_neg (by simp), List.drop_length]; rfl
  ·rw [z32, if_pos (by simp; omega), z8 ⟨by omega, by omega⟩, yaq _ _ (by omega)]
   by_cases hb : gt c.holidays i <= p \/ 745654 < gt c.holidays i
   ·have : (decide (p < gt c.holidays i) && decide (gt c.holidays i <= 745654)) = false := by simp; omega
    rw [if_pos (by simpa using hb)]
    simp [zzn, this]
   ·have h2 : (decide (p < gt c.holidays i) && decide (gt c.holidays i <= 745654)) = true := by simp; omega
    rw [if_neg (by simpa using hb), W_id (by omega) (by omega)]
    have := ih (i + 1) (gt c.holidays i) (by omega) (by omega) (by omega) (by omega) (by omega)
    rw [show ((i + 1 : Nat) : Int) = (i : Int) + 1 by omega] at this
    rw [this]
    simp [zzn, h2]
theorem zqu (s : Span) : ((decide (s.from_ < 0) || decide (s.to < s.from_)) || decide (1440 < s.to)) = !zq4 s := by
 rw [Bool.eq_iff_iff]; simp [zq4]
 try omega
theorem zk0 (φ : Nat) (hφ : 800000 < φ) (c : z93) : zaa φ c = some (bif zvm c then 0 else 1, ()) := by
 unfold zaa
 refine z6y (fun n i (_ : Unit) => z3z φ n c.open_ i c) 7 (fun i _ => ((List.range i).all fun j => zq4 (c.open_ j)) = true) (fun o => o = some (bif zvm c then 0 else 1, ())) ?_ ?_ φ () (by simp) (by omega)
 ·intro n i _ hi h hs
  rw [z3z, if_pos (by simp; omega), z8 ⟨by omega, by omega⟩, Int.toNat_natCast, zqu, W_id (by omega) (by omega)]
  cases ho : zq4 (c.open_ i) with
  | true =>
   rw [if_neg (by simp)]
   exact hs () (by rw [zhw, h, ho]; rfl)
  | false =>
   have : zvm c = false := by
    unfold zvm
    have : ((List.range 7).all fun j => zq4 (c.open_ j)) = false := by
     rw [List.all_eq_false]; exact ⟨i, by simp; omega, by simp [ho]⟩
    rw [this]; rfl
   rw [if_pos (by simp), this]; rfl
 ·intro n _ h
  rw [z3z, if_neg (by simp)]
  unfold zvm
  rw [h, Bool.true_and]
  have := ybt φ c φ 0 (-1) (by omega) (by omega) (by omega) (by omega) (by omega)
  simpa using this
theorem zlk {α ρ : Type} [Inhabited α] (L : Nat -> Bool -> Int -> Option ρ) (k : Bool -> Option ρ) (l : List α) (p : α -> Bool)
  (step : ∀ (n i : Nat) (s : Bool), i < l.length -> L (n + 1) s i = L n (s || p (gt l i)) ((i : Int) + 1)) (done : ∀ n s, L (n + 1) s l.length = k s) (n : Nat) (s : Bool) (hn : l.length < n) : L n s 0 = k (s || l.any p) := by
 refine z6y (fun n i t => L n t i) l.length (fun i t => t = (s || (l.take i).any p)) (fun o => o = k (s || l.any p)) ?_ ?_ n s (by simp) hn
 ·intro n i t hi ht hs
  rw [step n i t hi]
  exact hs _ (by rw [zji _ _ _ hi, ht, Bool.or_assoc])
 ·intro n t ht
  rw [List.take_length] at ht
  rw [done, ht]
def ziy (n : Int) (r : zfq) : Bool := (((!bet r.place 0 (n - 1)) || decide (r.low < (-1000))) || decide (r.high < r.low)) || decide (1000 < r.high)
def zkj (x : zbd) (s : zba) : Bool := (!bet s.place 0 ((x.places.length : Int) - 1)) || ((gt x.places s.place).kind != 4)
def zw7 (r : z15) : Bool := !zvm r.calendar || !yc3 r.key
def zl9 (x : Pool) : Bool :=
 ((((((x.railways.length : Int) == 0) || x.readers.any (ziy x.network.places.length)) || x.shippers.any (zkj x.network)) || x.fleet.wagons.any (fun w => decide ((x.network.places.length : Int) <= w.home))) ||
 x.network.places.any (fun p => decide ((x.railways.length : Int) <= p.railway) || decide ((x.railways.length : Int) <= p.other))) || x.network.edges.any (fun e => decide ((x.railways.length : Int) <= e.railway)) || x.railways.any zw7
def zkv (x : Pool) : Bool := (decide (256 < (x.readers.length : Int)) || decide (256 < (x.shippers.length : Int))) || decide (16 < (x.railways.length : Int))
def z84 (x : Pool) : Int := if zg7 x.network ≠ 0 then zg7 x.network else if z9b x.fleet ≠ 0 then z9b x.fleet else bif zkv x then 2 else bif zl9 x then 1 else 0
theorem z31 (φ : Nat) (hφ : 800000 < φ) (x : Pool) : z49 φ x = some (z84 x, ()) := by
 unfold z49 z84
 rw [zn0 _ (by omega), Option.bind_some]
 by_cases hn : zg7 x.network = 0
 case neg => rw [if_pos (by simp [hn]), if_pos hn]
 rw [if_neg (by simp [hn]), if_neg (fun e : zg7 x.network ≠ 0 => e hn), zpm _ (by omega), Option.bind_some]
 by_cases hf : z9b x.fleet = 0
 case neg => rw [if_pos (by simp [hf]), if_pos hf]
 rw [if_neg (by simp [hf]), if_neg (fun e : z9b x.fleet ≠ 0 => e hf)]
 cases hb : zkv x with
 | true =>
  have e : (((decide (256 < (x.readers.length : Int)) || decide (256 < (x.shippers.length : Int))) || decide (16 < (x.railways.length : Int)))) = zkv x := rfl
  rw [e, hb]; rfl
 | false =>
  have hb' : ¬ (((decide (256 < (x.readers.length : Int)) || decide (256 < (x.shippers.length : Int))) || decide (16 < (x.railways.length : Int))) = true) := by
   rw [show (((decide (256 < (x.readers.length : Int)) || decide (256 < (x.shippers.length : Int))) || decide (16 < (x.railways.length : Int)))) = zkv x from rfl, hb]; simp
  rw [if_neg hb']
  simp only [Bool.or_eq_true, decide_eq_true_eq, not_or] at hb'
  obtain ⟨n1, n2, _, _⟩ := ztc hn
  obtain ⟨f1, f2, _⟩ := zic hf
  have hp : W ((x.network.places.length : Int) - 1) = (x.network.places.length : Int) - 1 := W_id (by omega) (by omega)
  have a1 := zlk (fun n s i => z2e φ n x.network.places (x.railways.length : Int) s x.readers (x.readers.length : Int) i x) (fun s => z0w φ φ x.network.places (x.railways.length : Int) s x.shippers (x.shippers.length : Int) 0 x) x.readers (ziy x.network.places.length) (fun n i s hi => by
   rw [z2e, if_pos (by simp; omega), z8 ⟨by omega, by omega⟩, hp, W_id (by omega) (by omega)]
   unfold ziy
   cases s with
   | true => rw [gz_f (by simp)]; rfl
   | false => rw [gz_t rfl]; rfl) (fun n s => by rw [z2e, if_neg (by simp)]) φ ((x.railways.length : Int) == 0) (by omega)
  refine a1.trans ?_
  have a2 := fun s0 => zlk (fun n s i => z0w φ n x.network.places (x.railways.length : Int) s x.shippers (x.shippers.length : Int) i x) (fun s => z0s φ φ x.network.places (x.railways.length : Int) s x.fleet.wagons (x.fleet.wagons.length : Int) 0 x) x.shippers (zkj x.network) (fun n i s hi => by
   rw [z0w, if_pos (by simp; omega), z8 ⟨by omega, by omega⟩, hp, W_id (by omega) (by omega)]
   unfold zkj
   cases s with
   | true => rw [gz_f (by simp), Option.bind_some, z8 (by simp)]; rfl
   | false =>
    rw [gz_t rfl, z4t, Option.bind_some]
    cases hbt : bet (gt x.shippers i).place 0 ((x.network.places.length : Int) - 1) with
    | true => rw [z8 (fun _ => by have := y3u hbt; omega)]; rfl
    | false => rw [z8 (by simp)]; rfl) (fun n s => by rw [z0w, if_neg (by simp)]) φ s0 (by omega)
  refine (a2 _).trans ?_
  have a3 := fun s0 => zlk (fun n s i => z0s φ n x.network.places (x.railways.length : Int) s x.fleet.wagons (x.fleet.wagons.length : Int) i x) (fun s => z0p φ φ (x.railways.length : Int) s x.network.places (x.network.places.length : Int) 0 x) x.fleet.wagons (fun w => decide ((x.network.places.length : Int) <= w.home)) (fun n i s hi => by
   rw [z0s, if_pos (by simp; omega), z8 ⟨by omega, by omega⟩, W_id (by omega) (by omega)]) (fun n s => by rw [z0s, if_neg (by simp)]) φ s0 (by omega)
  refine (a3 _).trans ?_
  have a4 := fun s0 => zlk (fun n s i => z0p φ n (x.railways.length : Int) s x.network.places (x.network.places.length : Int) i x) (fun s => z0q φ φ (x.railways.length : Int) s x.network.edges (x.network.edges.length : Int) 0 x) x.network.places (fun p => decide ((x.railways.length : Int) <= p.railway) || decide ((x.railways.length : Int) <= p.other)) (fun n i s hi => by
   rw [z0p, if_pos (by simp; omega), z8 ⟨by omega, by omega⟩, W_id (by omega) (by omega), Bool.or_assoc]) (fun n s => by rw [z0p, if_neg (by simp)]) φ s0 (by omega)
  refine (a4 _).trans ?_
  have a5 := fun s0 => zlk (fun n s i => z0q φ n (x.railways.length : Int) s x.network.edges (x.network.edges.length : Int) i x) (fun s => z0x φ φ s x.railways (x.railways.length : Int) 0) x.network.edges (fun e => decide ((x.railways.length : Int) <= e.railway)) (fun n i s hi => by
   rw [z0q, if_pos (by simp; omega), z8 ⟨by omega, by omega⟩, W_id (by omega) (by omega)]) (fun n s => by rw [z0q, if_neg (by simp)]) φ s0 (by omega)
  refine (a5 _).trans ?_
  have a6 := fun s0 => zlk (fun n s i => z0x φ n s x.railways (x.railways.length : Int) i) (fun s => if s = true then some (1, ()) else some (0, ())) x.railways zw7 (fun n i s hi => by
   rw [z0x, if_pos (by simp; omega), z8 ⟨by omega, by omega⟩, W_id (by omega) (by omega)]
   unfold zw7
   cases s with
   | true => rw [gz_f (by simp), Option.bind_some, gz_f (by simp)]; rfl
   | false =>
    rw [gz_t rfl, zk0 _ hφ, Option.bind_some]
    cases zvm (gt x.railways i).calendar with
    | false => rw [gz_f (by simp)]; rfl
    | true => rw [gz_t (by simp), zs6 _ (by omega)]; rfl) (fun n s => by rw [z0x, if_neg (by simp)]) φ s0 (by omega)
  refine (a6 _).trans ?_
  show (if zl9 x = true then some ((1 : Int), ()) else some (0, ())) = _
  cases zl9 x <;> rfl
theorem zpv {p : Pool} (h : z84 p = 0) : zg7 p.network = 0 /\ z9b p.fleet = 0 /\ p.readers.length <= 256 /\ p.shippers.length <= 256 /\ p.railways.length <= 16 /\ zl9 p = false := by
 unfold z84 at h
 by_cases hn : zg7 p.network = 0
 case neg => rw [if_pos hn] at h; exact absurd h hn
 rw [if_neg (fun e : zg7 p.network ≠ 0 => e hn)] at h
 by_cases hf : z9b p.fleet = 0
 case neg => rw [if_pos hf] at h; exact absurd h hf
 rw [if_neg (fun e : z9b p.fleet ≠ 0 => e hf)] at h
 cases hb : zkv p with
 | true => rw [hb] at h; cases h
 | false =>
  rw [hb] at h
  cases hd : zl9 p with
  | true => rw [hd] at h; cases h
  | false =>
   simp only [zkv, Bool.or_eq_false_iff, decide_eq_false_iff_not] at hb
   exact ⟨hn, hf, by omega, by omega, by omega, rfl⟩
theorem zzi {p : Pool} (h : z84 p = 0) : (∀ r ∈ p.readers, 0 <= r.place /\ r.place < (p.network.places.length : Int) /\ -1000 <= r.low /\ r.low <= r.high /\ r.high <= 1000) /\
  (∀ w ∈ p.fleet.wagons, 0 <= w.home /\ w.home < (p.network.places.length : Int)) /\ (∀ e ∈ p.network.edges, e.railway < (p.railways.length : Int)) /\ 0 < p.railways.length := by
 obtain ⟨hn, hf, h1, h2, h3, hb⟩ := zpv h
 simp only [zl9, Bool.or_eq_false_iff] at hb
 obtain ⟨⟨⟨⟨⟨⟨b0, b1⟩, b2⟩, b3⟩, b4⟩, b5⟩, b6⟩ := hb
 obtain ⟨_, _, _, _, _, hw, _, _⟩ := zic hf
 refine ⟨fun r hr => ?_, fun w hw' => ?_, fun e he => ?_, ?_⟩
 ·have := List.any_eq_false.1 b1 r hr
  simp only [ziy, Bool.not_eq_true, Bool.or_eq_false_iff, Bool.not_eq_false', decide_eq_false_iff_not] at this
  obtain ⟨⟨⟨c1, c2⟩, c3⟩, c4⟩ := this
  have := y3u c1
  omega
 ·have := List.any_eq_false.1 b3 w hw'
  have h3 := hw w hw'
  simp only [zig, Bool.and_eq_true] at h3
  have := y3u h3.1.1.2
  simp at *
  omega
 ·have := List.any_eq_false.1 b5 e he
  simp at this; omega
 ·simp at b0
  exact List.length_pos_iff.2 b0
end Px
end
section
namespace Px
open Go
set_option linter.unusedVariables false
set_option linter.unusedSimpArgs false
set_option maxHeartbeats 4000000
def y1e (fit : Bool) (x : Part) : Bool := !(((((decide ((x.kind : Int) < 1)) || (decide ((3 : Int) < x.kind))) || (decide ((x.serial : Int) < 0))) || (decide ((1073741824 : Int) < x.serial))) || (x.fitted && (!fit)))
theorem zdy (φ : Nat) (l : List Part) (fit : Bool) (h : l.length <= 1000) (hφ : 1000 < φ) : zg6 φ l fit = some (l.all (y1e fit) && decide ((l.length : Int) <= 16), ()) := by
 unfold zg6
 rw [zsg (fun n i => z8f φ n l fit l (l.length : Int) i) (some (decide ((l.length : Int) <= 16), ())) (some (false, ())) l (fun x => !y1e fit x) ?_ ?_ φ (by omega)]
 ·simp only [List.any_eq_not_all_not, Bool.not_not]
  cases l.all (y1e fit) <;> rfl
 ·intro n i hi
  rw [z8f, if_pos (by simp; omega), z8 ⟨by omega, by omega⟩, W_id (by omega) (by omega)]
  show _ = bif !!_ then _ else _
  rw [Bool.not_not]
  cases (((((decide (((gt l i).kind : Int) < 1)) || (decide ((3 : Int) < (gt l i).kind))) || (decide (((gt l i).serial : Int) < 0))) || (decide ((1073741824 : Int) < (gt l i).serial))) || ((gt l i).fitted && (!fit))) <;> rfl
 ·intro n; rw [z8f, if_neg (by simp)]
structure zqb (p : Pool) (it : Item) : Prop where
 kind : 1 <= it.kind /\ it.kind <= 15
 wagon : it.kind <= 9 -> 0 <= it.wagon /\ it.wagon < (p.fleet.wagons.length : Int)
 read : it.kind = 1 -> 0 <= it.other /\ it.other < (p.readers.length : Int)
 place : it.kind = 2 \/ it.kind = 3 \/ it.kind = 4 \/ it.kind = 6 \/ it.kind = 7 \/ it.kind = 9 -> 0 <= it.place /\ it.place < (p.network.places.length : Int)
 from_ : it.kind <= 9 -> 0 <= it.from_ /\ it.from_ <= 1073741824
 to : it.kind = 2 \/ it.kind = 9 -> it.from_ <= it.to /\ it.to <= 1073741824
theorem zwy {ρ : Type} (c q : Bool) (K : Bool -> Option ρ) : ((zx (default, ()) (c = true) (some (q, ()))).bind fun y => K (c && y.1)) = K (c && q) := by
 unfold zx
 cases c <;> rfl
theorem zzt (p : Pool) (it : Item) (hparts : it.parts.length <= 1000) (hw : p.fleet.wagons.length <= 4096) (hr : p.readers.length <= 256) (hs : p.shippers.length <= 256) (hpl : p.network.places.length <= 512) (ht : p.fleet.types.length <= 32) :
  ∃ b, (∀ φ, 1000 < φ -> z40 φ p it = some (b, ())) /\ (b = true -> zqb p it) := by
 have w1 : W ((p.fleet.wagons.length : Int) - 1) = (p.fleet.wagons.length : Int) - 1 := W_id (by omega) (by omega)
 have w2 : W ((p.readers.length : Int) - 1) = (p.readers.length : Int) - 1 := W_id (by omega) (by omega)
 have w3 : W ((p.shippers.length : Int) - 1) = (p.shippers.length : Int) - 1 := W_id (by omega) (by omega)
 have w4 : W ((p.network.places.length : Int) - 1) = (p.network.places.length : Int) - 1 := W_id (by omega) (by omega)
 have w5 : W ((p.fleet.types.length : Int) - 1) = (p.fleet.types.length : Int) - 1 := W_id (by omega) (by omega)
 have hm : ∀ x z : Int, max2 x 0 <= z ↔ x <= z /\ 0 <= z := by intro x z; unfold max2; split <;> omega
 by_cases hk0 : it.kind < 1
 ·refine ⟨false, fun φ hφ => ?_, fun h => by cases h⟩
  unfold z40 ze
  rw [if_pos (by simp; omega), if_pos (by simpa using hk0)]
  simp
 by_cases hk16 : 15 < it.kind
 ·refine ⟨false, fun φ hφ => ?_, fun h => by cases h⟩
  have e : ∀ k : Int, k <= 15 -> (it.kind == k) = false := fun k hk => by simp; omega
  unfold z40
  rw [if_neg (by simp; omega)]
  simp [e, z5g, ze]
 have hcases : it.kind = 1 \/ it.kind = 2 \/ it.kind = 3 \/ it.kind = 4 \/ it.kind = 5 \/ it.kind = 6 \/ it.kind = 7 \/ it.kind = 8 \/ it.kind = 9 \/ it.kind = 10 \/ it.kind = 11 \/ it.kind = 12 \/ it.kind = 13 \/ it.kind = 14 \/ it.kind = 15 := by omega
 by_cases hin : 0 <= it.place /\ it.place < (p.network.places.length : Int)
 ·have e1 : (decide ((0 : Int) <= it.place) && decide ((it.place : Int) < (p.network.places.length : Int))) = true := by simp [hin]
  rcases hcases with hk | hk | hk | hk | hk | hk | hk | hk | hk | hk | hk | hk | hk | hk | hk
  case inr.inr.inr.inr.inr.inr.inr.inr.inl =>
   refine ⟨_, fun φ hφ => by
    unfold z40
    simp only [hk, e1, z7n, z8 hin, w1, w2, w3, w4, w5, zdy φ _ _ hparts hφ, Option.bind_some, Int.reduceLE, Int.reduceLT, Int.reduceBEq, decide_true, decide_false, if_true, Bool.false_eq_true, if_false]
    refine (zwy _ _ (fun b => ze φ ⟨_, _, b⟩)).trans ?_
    unfold ze
    rfl, fun hb => ?_⟩
   simp only [Bool.and_eq_true, decide_eq_true_eq, hm, beq_iff_eq, bne_iff_ne, ne_eq, Bool.or_eq_true] at hb
   constructor <;> omega
  case inr.inr.inr.inr.inr.inr.inr.inr.inr.inl =>
   refine ⟨_, fun φ hφ => by
    unfold z40
    simp only [hk, e1, z8 hin, w1, w2, w3, w4, w5, zdy φ _ _ hparts hφ, Option.bind_some, Int.reduceLE, Int.reduceLT, Int.reduceBEq, decide_true, decide_false, if_true, Bool.false_eq_true, if_false]
    refine (zwy _ _ (fun b => ze φ ⟨_, _, b⟩)).trans ?_
    unfold ze
    rfl, fun hb => ?_⟩
   constructor <;> omega
  all_goals
   refine ⟨_, fun φ hφ => by
    unfold z40
    simp only [hk, e1, z8w, z7i, z7d, z7l, z7j, z7o, z5g, z7c, ze, z8 hin, w1, w2, w3, w4, w5, Option.bind_some, Int.reduceLE, Int.reduceLT, Int.reduceBEq, Int.reduceBNe, Int.reduceNe, decide_true, decide_false, if_true, Bool.false_eq_true, if_false]
    rfl, fun hb => ?_⟩
   simp only [Bool.and_eq_true, decide_eq_true_eq, hm, beq_iff_eq, bne_iff_ne, ne_eq, Bool.or_eq_true] at hb
   constructor <;> omega
 ·have e1 : (decide ((0 : Int) <= it.place) && decide ((it.place : Int) < (p.network.places.length : Int))) = false := by
   rw [<- Bool.not_eq_true]; simpa using hin
  rcases hcases with hk | hk | hk | hk | hk | hk | hk | hk | hk | hk | hk | hk | hk | hk | hk
  case inr.inr.inr.inr.inr.inr.inr.inr.inl =>
   refine ⟨_, fun φ hφ => by
    unfold z40
    simp only [hk, e1, z7n, w1, w2, w3, w4, w5, zdy φ _ _ hparts hφ, Option.bind_some, Int.reduceLE, Int.reduceLT, Int.reduceBEq, decide_true, decide_false, if_true, Bool.false_eq_true, if_false]
    refine (zwy _ _ (fun b => ze φ ⟨_, _, b⟩)).trans ?_
    unfold ze
    rfl, fun hb => ?_⟩
   simp at hb
  case inr.inr.inr.inr.inr.inr.inr.inr.inr.inl =>
   refine ⟨_, fun φ hφ => by
    unfold z40
    simp only [hk, e1, w1, w2, w3, w4, w5, zdy φ _ _ hparts hφ, Option.bind_some, Int.reduceLE, Int.reduceLT, Int.reduceBEq, decide_true, decide_false, if_true, Bool.false_eq_true, if_false]
    refine (zwy _ _ (fun b => ze φ ⟨_, _, b⟩)).trans ?_
    unfold ze
    rfl, fun hb => ?_⟩
   constructor <;> omega
  all_goals
   refine ⟨_, fun φ hφ => by
    unfold z40
    simp only [hk, e1, z8w, z7i, z7d, z7l, z7j, z7o, z5g, z7c, ze, w1, w2, w3, w4, w5, Option.bind_some, Int.reduceLE, Int.reduceLT, Int.reduceBEq, Int.reduceBNe, Int.reduceNe, decide_true, decide_false, if_true, Bool.false_eq_true, if_false]
    rfl, fun hb => ?_⟩
   simp only [Bool.and_eq_true, decide_eq_true_eq, hm, beq_iff_eq, bne_iff_ne, ne_eq, Bool.or_eq_true] at hb
   first | (constructor <;> omega) | (simp at hb; done) | (simp at hb; constructor <;> omega)
def zhi (p : Pool) (it : Item) : Bool := ((z40 2000 p it).getD (false, ())).1
def y6x (it : Item) : Bool := ((z91 0 it).getD (false, ())).1
theorem zup (φ : Nat) (it : Item) : z91 φ it = some (y6x it, ()) := by
 unfold y6x z91
 split <;> rfl
def zds (p : Pool) (it : Item) : Bool := y6x it && zhi p it
theorem zu3 {p : Pool} (hc : z84 p = 0) {it : Item} (hparts : it.parts.length <= 1000) : (∀ φ, 1000 < φ -> z40 φ p it = some (zhi p it, ())) /\ (zhi p it = true -> zqb p it) := by
 obtain ⟨hn, hf, h1, h2, h3, hb⟩ := zpv hc
 obtain ⟨n1, n2, _, _⟩ := ztc hn
 obtain ⟨f1, f2, _⟩ := zic hf
 obtain ⟨b, hφ, hok⟩ := zzt p it hparts f2 h1 h2 n1 f1
 have : zhi p it = b := by unfold zhi; rw [hφ 2000 (by omega)]; rfl
 rw [this]
 exact ⟨hφ, hok⟩
theorem z8b (φ : Nat) (hφ : 800000 < φ) {p : Pool} (hc : z84 p = 0) {it : Item} (hparts : it.parts.length <= 1000) : z5y φ p it = some (bif zds p it then 0 else 110, ()) := by
 unfold z5y zds
 rw [z31 φ hφ, Option.bind_some, if_neg (by simp [hc]), zup, Option.bind_some]
 cases y6x it with
 | false => rfl
 | true =>
  rw [gz_t (by simp), (zu3 hc hparts).1 φ (by omega), Option.bind_some]
  cases zhi p it <;> rfl
theorem znl {p : Pool} (hc : z84 p = 0) {it : Item} (hparts : it.parts.length <= 1000) (h : zds p it = true) : zqb p it := by
 simp only [zds, Bool.and_eq_true] at h
 exact (zu3 hc hparts).2 h.2
end Px
end
section
namespace Px
open Go
set_option linter.unusedVariables false
set_option linter.unusedSimpArgs false
set_option maxRecDepth 100000
theorem y7o (φ : Nat) (v : List Int) (y : Int -> Int -> Option Int) : z2h φ v y = zz9 φ v y := by kernel_rfl
theorem yan (φ : Nat) (v : List z7) (y : z7 -> z7 -> Option Int) : z2l φ v y = zz9 φ v y := by kernel_rfl
structure PH (p : Pool) (l : List z1) : Prop where
 pool : z84 p = 0
 len : l.length <= 100
 parts : ∀ r ∈ l, r.item.parts.length <= 1000
def okR (p : Pool) (k : Int) (r : z1) : Bool := ((r.item.kind : Int) == k) && zds p r.item
def hofL (p : Pool) (l : List z1) (k : Int) : List Int := ((List.range l.length).filter fun i : Nat => okR p k (gt l (i : Int))).map fun i : Nat => (i : Int)
theorem zjt {p : Pool} {l : List z1} {k x : Int} : x ∈ hofL p l k ↔ 0 <= x /\ x < (l.length : Int) /\ okR p k (gt l x) = true := by
 unfold hofL
 simp only [List.mem_map, List.mem_filter, List.mem_range]
 constructor
 ·rintro ⟨i, ⟨h1, h2⟩, rfl⟩; exact ⟨by omega, by omega, h2⟩
 ·rintro ⟨h0, h1, h2⟩
  refine ⟨x.toNat, ⟨by omega, ?_⟩, by omega⟩
  rw [show ((x.toNat : Nat) : Int) = x by omega]; exact h2
theorem zqx (p : Pool) (l : List z1) (k : Int) : (hofL p l k).length <= l.length := by
 unfold hofL
 rw [List.length_map]
 exact Nat.le_trans (List.length_filter_le _ _) (by simp)
theorem zle (i : Nat) : List.range (i + 1) = List.range i ++ [i] := List.range_succ
theorem of_eq (φ : Nat) (hφ : 800000 < φ) {p : Pool} {l : List z1} (h : PH p l) (k : Int) : zcz φ p l k = some (hofL p l k, ()) := by
 have hl := h.len
 unfold zcz
 refine z6y (fun n i acc => z4c φ n k l (l.length : Int) i p acc) l.length (fun i acc => acc = ((List.range i).filter fun i : Nat => okR p k (gt l (i : Int))).map fun i : Nat => (i : Int)) (fun o => o = some (hofL p l k, ())) ?_ ?_ φ [] rfl (by omega)
 ·intro n i acc hi ha hk
  have hg := h.parts _ (zbn (l := l) (i := (i : Int)) (by omega) (by omega))
  have hal : acc.length <= 100 := by
   rw [ha, List.length_map]
   exact Nat.le_trans (List.length_filter_le _ _) (by simp; omega)
  rw [z4c, if_pos (by simp; omega), z8 ⟨by omega, by omega⟩, W_id (x := (i : Int) + 1) (by omega) (by omega)]
  have hnext : okR p k (gt l (i : Int)) = false -> acc = ((List.range (i + 1)).filter fun i : Nat => okR p k (gt l (i : Int))).map fun i : Nat => (i : Int) := fun q => by
   rw [zle, List.filter_append, List.map_append, <- ha]; simp [q]
  cases hkk : (((gt l (i : Int)).item.kind : Int) == k) with
  | false =>
   unfold zx
   rw [if_neg (by simp), Option.bind_some, if_neg (by simp)]
   exact hk acc (hnext (by unfold okR; rw [hkk]; rfl))
  | true =>
   rw [zik rfl, z8b φ hφ h.pool hg, Option.bind_some]
   cases ho : zds p (gt l (i : Int)).item with
   | false =>
    rw [if_neg (by simp)]
    exact hk acc (hnext (by unfold okR; rw [hkk, ho]; rfl))
   | true =>
    rw [if_pos (by simp), z8 (znh (by simp; omega) (by omega))]
    refine hk _ ?_
    rw [zle, List.filter_append, List.map_append, <- ha]
    have : okR p k (gt l (i : Int)) = true := by unfold okR; rw [hkk, ho]; rfl
    simp [this]
 ·intro n acc ha
  rw [z4c, if_neg (by simp), ha]
  rfl
theorem zou (φ : Nat) (h : 3 <= φ) (a b : Ref) : z62 φ a b = some (or2 (cmpI a.railway b.railway) (cmpI a.no b.no), ()) := by
 unfold z62
 simp only [zc4, Option.bind_some]
 rw [zzw φ h]; rfl
def ltD (l : List z1) (i k : Int) : Bool := decide ((gt l i).item.from_ < (gt l k).item.from_) || (decide ((gt l i).item.from_ = (gt l k).item.from_) && yc7 (gt l i).ref (gt l k).ref)
theorem zw8 {l : List z1} {i k : Int} : ltD l i k = true ↔ (gt l i).item.from_ < (gt l k).item.from_ \/ ((gt l i).item.from_ = (gt l k).item.from_ /\ ((gt l i).ref.railway < (gt l k).ref.railway \/ ((gt l i).ref.railway = (gt l k).ref.railway /\ (gt l i).ref.no < (gt l k).ref.no))) := by
 simp [ltD, y1l]
theorem ya6 {l : List z1} {i k : Int} : ltD l i k = false ↔ ¬ ((gt l i).item.from_ < (gt l k).item.from_ \/ ((gt l i).item.from_ = (gt l k).item.from_ /\ ((gt l i).ref.railway < (gt l k).ref.railway \/ ((gt l i).ref.railway = (gt l k).ref.railway /\ (gt l i).ref.no < (gt l k).ref.no)))) := by
 rw [<- zw8]; simp
theorem y3y (l : List z1) : Swo (ltD l) where
 asym := fun a b h => by rw [ya6]; rw [zw8] at h; omega
 ntr := fun a b c h1 h2 => by rw [ya6] at *; omega
theorem y2h (φ : Nat) (h : 3 <= φ) (l : List z1) : Cmp (fun i : Int => 0 <= i /\ i < (l.length : Int)) (fun a b => (z4v φ a b l).bind fun r => (some r.1)) (ltD l) := by
 intro a b ha hb
 refine ⟨or2 (cmpI (gt l a).item.from_ (gt l b).item.from_) (or2 (cmpI (gt l a).ref.railway (gt l b).ref.railway) (cmpI (gt l a).ref.no (gt l b).ref.no)), ?_, ?_⟩
 ·show ((z4v φ a b l).bind fun r => (some r.1)) = _
  unfold z4v
  rw [z8 ha, z8 hb]
  simp only [zc4, zou φ h, Option.bind_some]
  rw [z8 ha, z8 hb, zzw φ h]; rfl
 ·rw [Bool.eq_iff_iff, decide_eq_true_eq, zot, zot, zc9, zc9, zc9, zin, zin, zw8]
def delL (p : Pool) (l : List z1) : List Int := z9r (ltD l) (hofL p l 3)
theorem znd {p : Pool} {l : List z1} {x : Int} : x ∈ delL p l ↔ x ∈ hofL p l 3 := (z5o _ _).mem_iff
theorem zxc (p : Pool) (l : List z1) : (delL p l).length <= l.length := by
 unfold delL; rw [(z5o _ _).length_eq]; exact zqx p l 3
theorem y6e (φ : Nat) (hφ : 10000 < φ) {p : Pool} {l : List z1} (h : PH p l) : z2h φ (hofL p l 3) (fun a b => (z4v φ a b l).bind fun r => (some r.1)) = some (delL p l) := by
 rw [y7o]
 have hl := zqx p l 3
 have := h.len
 obtain ⟨r, h1, h2, h3⟩ := zr8 (y3y l) (y2h φ (by omega) l) φ (hofL p l 3) (fun z hz => by have := zjt.1 hz; exact ⟨this.1, this.2.1⟩) (by omega) (by omega)
 rw [h3, zoe (y3y l) h1 h2]
 rfl
def proB (p : Pool) (r : z1) : Bool := ((r.ref.railway : Int) != r.item.other) && (((((gt p.network.places r.item.place).railway : Int) == r.ref.railway) && (((gt p.network.places r.item.place).other : Int) == r.item.other)) || ((((gt p.network.places r.item.place).railway : Int) == r.item.other) && (((gt p.network.places r.item.place).other : Int) == r.ref.railway)))
def gapI (a b : z1) : Int := max2 (W (a.item.from_ - b.item.from_)) (W (b.item.from_ - a.item.from_))
theorem y9y (φ : Nat) (a b : z1) : zah φ a b = some (gapI a b, ()) := rfl
def fitR (l : List z1) (U : Int -> Bool) (d : z1) (k : Int) : Bool := !(((((U k || (((gt l k).ref.railway : Int) != d.item.other)) || (((gt l k).item.other : Int) != d.ref.railway)) || (((gt l k).item.wagon : Int) != d.item.wagon)) || (((gt l k).item.place : Int) != d.item.place))) && !decide ((60 : Int) < gapI d (gt l k))
def notW (l : List z1) (d : z1) (best k : Int) : Bool := decide ((0 : Int) <= best) && decide (or2 (cmpI (gapI d (gt l best)) (gapI d (gt l k))) (or2 (cmpI (gt l best).ref.railway (gt l k).ref.railway) (cmpI (gt l best).ref.no (gt l k).ref.no)) <= 0)
def zj7 (l : List z1) (U : Int -> Bool) (d : z1) (best k : Int) : Int := if fitR l U d k = true then (if notW l d best k = true then best else k) else best
def zm9 (l : List z1) (U : Int -> Bool) (d : z1) (R : List Int) : Int := R.foldl (zj7 l U d) (-1)
theorem zs2 (l : List z1) (U : Int -> Bool) (d : z1) : ∀ (R : List Int) (b : Int), R.foldl (zj7 l U d) b = b \/ R.foldl (zj7 l U d) b ∈ R
 | [], b => .inl rfl
 | k :: R, b => by
  rcases zs2 l U d R (zj7 l U d b k) with h | h
  ·rw [List.foldl_cons, h]
   unfold zj7
   split
   ·split
    ·exact .inl rfl
    ·exact .inr (by simp)
   ·exact .inl rfl
  ·exact .inr (by simp [h])
def prA (i k : Int) : Nat -> Int := upd (upd (fun _ => (default : Int)) 0 i) 1 k
theorem zti (φ : Nat) (hφ : 10000 < φ) (k15) (p : Pool) {l : List z1} (hl : l.length <= 100) (i : Int) (n0 j : Int) (R : List Int) (hR : ∀ k ∈ R, 0 <= k /\ k < (l.length : Int)) (hRl : R.length <= 100) (used : List (Int × Bool)) (out : List (Nat -> Int)) (ho : out.length <= 1000) (d : z1) (D : List Int) :
  z07 φ k15 φ i (-1) n0 j (R.length : Int) 0 p l R used out d D =
   (if 0 <= zm9 l (fun k => (cget kl_0 used k).getD (default : Bool)) d R then k15 n0 (W (j + 1)) p l R (cset kl_0 used (zm9 l (fun k => (cget kl_0 used k).getD (default : Bool)) d R) true) (out ++ [prA i (zm9 l (fun k => (cget kl_0 used k).getD (default : Bool)) d R)]) D
    else k15 n0 (W (j + 1)) p l R used out D) := by
 refine (zeh (fun n q best => z07 φ k15 n i best n0 j (R.length : Int) q p l R used out d D) (fun best => if 0 <= best then k15 n0 (W (j + 1)) p l R (cset kl_0 used best true) (out ++ [prA i best]) D else k15 n0 (W (j + 1)) p l R used out D) R (zj7 l (fun k => (cget kl_0 used k).getD (default : Bool)) d) (fun _ best => best = -1 \/ best ∈ R) ?_ ?_ φ (-1) (.inl rfl) (by omega)).1
 ·intro n q best hq hb
  have hkR := zbn (l := R) (i := (q : Int)) (by omega) (by omega)
  have hk := hR _ hkR
  refine ⟨?_, ?_⟩
  ·rw [z07, if_pos (by simp; omega), z8 ⟨by omega, by omega⟩, z8 hk, W_id (x := (q : Int) + 1) (by omega) (by omega)]
   generalize gt R (q : Int) = k at *
   unfold zj7 fitR
   cases hc : ((((((cget kl_0 used k).getD (default : Bool)) || (((gt l k).ref.railway : Int) != d.item.other)) || (((gt l k).item.other : Int) != d.ref.railway)) || (((gt l k).item.wagon : Int) != d.item.wagon)) || (((gt l k).item.place : Int) != d.item.place)) with
   | true =>
    unfold zx
    rw [if_neg (by simp), Option.bind_some, if_pos (by simp), if_neg (by simp)]
   | false =>
    rw [zik rfl, y9y, Option.bind_some]
    simp only [Bool.false_or]
    by_cases hg : (60 : Int) < gapI d (gt l k)
    ·rw [if_pos (by simpa using hg), if_neg (by simp [hg])]
    ·rw [if_neg (by simpa using hg), if_pos (by simp [hg])]
     have hbr : (decide ((0 : Int) <= best) = true) -> (0 : Int) <= best /\ best < (l.length : Int) := fun h => by
      rcases hb with rfl | hb
      ·simp at h
      ·exact hR _ hb
     rw [z8 hbr]
     unfold notW
     by_cases h0 : (0 : Int) <= best
     ·have hd : decide ((0 : Int) <= best) = true := decide_eq_true h0
      rw [hd, zik rfl, y9y, Option.bind_some]
      rw [zik rfl]
      rw [Option.bind_some, zik rfl, zc4, Option.bind_some, z8 (fun _ => hbr hd), zik rfl, zou φ (by omega), Option.bind_some, zik rfl, zzw φ (by omega), Option.bind_some]
      simp only [Bool.true_and]
      split <;> rfl
     ·have hd : decide ((0 : Int) <= best) = false := decide_eq_false h0
      rw [hd]
      unfold zx
      simp only [Bool.false_eq_true, if_false, Option.bind_some, Bool.false_and]
      rw [z8 (fun h => by cases h)]
  ·unfold zj7
   split
   ·split
    ·exact hb
    ·exact .inr hkR
   ·exact hb
 ·intro n best _
  rw [z07, if_neg (by simp)]
  by_cases h0 : (0 : Int) <= best
  ·rw [if_pos (by simpa using h0), if_pos h0, z8 (znh (by simp; omega) (by omega))]
   rfl
  ·rw [if_neg (by simpa using h0), if_neg h0]
end Px
end
section
namespace Px
open Go
set_option linter.unusedVariables false
set_option linter.unusedSimpArgs false
set_option maxRecDepth 100000
theorem PH.item {p : Pool} {l : List z1} (h : PH p l) {k x : Int} (hx : x ∈ hofL p l k) : (0 <= x /\ x < (l.length : Int)) /\ (gt l x).item.kind = k /\ zqb p (gt l x).item := by
 obtain ⟨h1, h2, h3⟩ := zjt.1 hx
 unfold okR at h3
 simp only [Bool.and_eq_true, beq_iff_eq] at h3
 exact ⟨⟨h1, h2⟩, h3.1, znl h.pool (h.parts _ (zbn h1 h2)) h3.2⟩
def zmq (o : List (Int × Int)) (k : Int) : Bool := o.any fun x => x.2 == k
def zjl (p : Pool) (l : List z1) (R : List Int) (o : List (Int × Int)) (i : Int) : List (Int × Int) :=
 if proB p (gt l i) = true then (if 0 <= zm9 l (zmq o) (gt l i) R then o ++ [(i, zm9 l (zmq o) (gt l i) R)] else o) else o
def y9b (p : Pool) (l : List z1) (R : List Int) (s : List (Int × Bool) × List (Int × Int)) (i : Int) : List (Int × Bool) × List (Int × Int) :=
 if proB p (gt l i) = true then (if 0 <= zm9 l (zmq s.2) (gt l i) R then (cset kl_0 s.1 (zm9 l (zmq s.2) (gt l i) R) true, s.2 ++ [(i, zm9 l (zmq s.2) (gt l i) R)]) else s) else s
theorem y3n (p : Pool) (l : List z1) (R : List Int) : ∀ (D : List Int) (s : List (Int × Bool) × List (Int × Int)), (D.foldl (y9b p l R) s).2 = D.foldl (zjl p l R) s.2
 | [], s => rfl
 | i :: D, s => by
  rw [List.foldl_cons, List.foldl_cons, y3n p l R D]
  congr 1
  unfold y9b zjl
  split
  ·split <;> rfl
  ·rfl
def zgt (p : Pool) (l : List z1) : List (Int × Int) := (delL p l).foldl (zjl p l (hofL p l 4)) []
def prM (o : List (Int × Int)) : List (Nat -> Int) := o.map fun x => prA x.1 x.2
theorem y5t (φ : Nat) (hφ : 800000 < φ) {p : Pool} {l : List z1} (h : PH p l) : zac φ p l = some (prM (zgt p l), ()) := by
 unfold zac
 rw [z31 φ hφ, Option.bind_some, h.pool, if_neg (by simp), of_eq φ hφ h, of_eq φ hφ h, Option.bind_some, Option.bind_some, y6e φ (by omega) h, Option.bind_some]
 have hlen := h.len
 have hD := zxc p l
 have hRl := zqx p l 4
 have hR : ∀ k ∈ hofL p l 4, 0 <= k /\ k < (l.length : Int) := fun k hk => (h.item hk).1
 have key := (zeh (fun n q s => z17 φ n ((delL p l).length : Int) q p l (hofL p l 4) s.1 (prM s.2) (delL p l)) (fun s => some (prM s.2, ())) (delL p l) (y9b p l (hofL p l 4))
  (fun i s => OkS s.1 /\ (∀ k, (s.1.map (·.1)).contains k = zmq s.2 k) /\ s.2.length <= i) ?_ ?_ φ ([], []) ⟨OkS.nil, fun k => rfl, by simp⟩ (by omega)).1
 ·refine key.trans ?_
  rw [y3n]; rfl
 ·intro n q s hq ⟨hs1, hs2, hs3⟩
  have hm := zbn (l := delL p l) (i := (q : Int)) (by omega) (by omega)
  obtain ⟨hi, hk, hI⟩ := h.item (znd.1 hm)
  have hpl := hI.place (by omega)
  have hU : (fun k => (cget kl_0 s.1 k).getD (default : Bool)) = zmq s.2 := funext fun k => by rw [hs1.get, hs2]
  rw [z17, if_pos (by simp; omega), z8 ⟨by omega, by omega⟩, z8 hi, W_id (x := (q : Int) + 1) (by omega) (by omega)]
  generalize gt (delL p l) (q : Int) = i at *
  unfold zc8
  rw [z8 hpl, Option.bind_some]
  unfold y9b
  by_cases hp : proB p (gt l i) = true
  ·have hp' := hp
   unfold proB at hp'
   rw [if_pos hp, hp', if_neg (by simp), zti φ (by omega) _ p hlen i _ (q : Int) _ hR (by omega) s.1 _ (by simp [prM]; omega), hU, W_id (x := (q : Int) + 1) (by omega) (by omega)]
   have hin := zs2 l (zmq s.2) (gt l i) (hofL p l 4) (-1)
   by_cases h0 : 0 <= zm9 l (zmq s.2) (gt l i) (hofL p l 4)
   ·rw [if_pos h0, if_pos h0]
    refine ⟨by simp [prM], hs1.set _, ?_, by simp; omega⟩
    intro k
    rw [Bool.eq_iff_iff, List.contains_iff_mem]
    have := hs2 k
    rw [Bool.eq_iff_iff, List.contains_iff_mem] at this
    generalize zm9 l (zmq s.2) (gt l i) (hofL p l 4) = b at *
    unfold zmq at this ⊢
    rw [List.any_append, Bool.or_eq_true, <- this]
    simp only [List.mem_map, List.any_cons, List.any_nil, Bool.or_false, beq_iff_eq]
    constructor
    ·rintro ⟨x, hx, rfl⟩
     rcases (z35 hs1.1).1 hx with rfl | ⟨hx, _⟩
     ·exact .inr rfl
     ·exact .inl ⟨x, hx, rfl⟩
    ·rintro (⟨x, hx, rfl⟩ | rfl)
     ·by_cases e : x.1 = b
      ·exact ⟨(b, true), (z35 hs1.1).2 (.inl rfl), e.symm⟩
      ·exact ⟨x, (z35 hs1.1).2 (.inr ⟨hx, fun g => e (zzr g).symm⟩), rfl⟩
     ·exact ⟨(b, true), (z35 hs1.1).2 (.inl rfl), rfl⟩
   ·rw [if_neg h0, if_neg h0]
    exact ⟨rfl, hs1, hs2, by omega⟩
  ·have hp' : proB p (gt l i) = false := by simpa using hp
   rw [if_neg hp]
   unfold proB at hp'
   rw [hp', if_pos (by simp)]
   exact ⟨rfl, hs1, hs2, by omega⟩
 ·intro n s _
  rw [z17, if_neg (by simp)]
end Px
end
section
namespace Px
open Go
set_option linter.unusedVariables false
set_option linter.unusedSimpArgs false
set_option maxRecDepth 100000
theorem ybb (φ : Nat) (h : 6 <= φ) (a b c : Int) : zfs φ [a, b, c] = some (or2 a (or2 b c), ()) := by
 obtain ⟨n, rfl⟩ : ∃ n, φ = n + 6 := ⟨φ - 6, by omega⟩
 show _ = some (if a ≠ 0 then a else if b ≠ 0 then b else c, ())
 unfold zfs
 rw [zae, if_pos (by simp), z8 ⟨by omega, by simp⟩]
 show (if (a != 0) = true then _ else _) = _
 by_cases h1 : a = 0
 ·rw [if_neg (by simp [h1]), if_neg (by simp [h1]), zae, if_pos (by simp [zuv]), z8 ⟨by simp [zuv], by simp [zuv]⟩]
  show (if (b != 0) = true then _ else _) = _
  by_cases h2 : b = 0
  ·rw [if_neg (by simp [h2]), if_neg (by simp [h2]), zae, if_pos (by simp [zuv]), z8 ⟨by simp [zuv], by simp [zuv]⟩]
   show (if (c != 0) = true then _ else _) = _
   by_cases h3 : c = 0
   ·rw [if_neg (by simp [h3]), zae, if_neg (by simp [zuv]), h3]
   ·rw [if_pos (by simp [h3])]; rfl
  ·rw [if_pos (by simp [h2]), if_pos (by simp [h2])]; rfl
 ·rw [if_pos (by simp [h1]), if_pos (by simp [h1])]; rfl
def ltH (a b : z7) : Bool := decide (or2 (cmpI a.at_ b.at_) (or2 (cmpI a.wagon b.wagon) (or2 (cmpI a.deliver.railway b.deliver.railway) (cmpI a.deliver.no b.deliver.no))) < 0)
theorem y02 {a b : z7} : ltH a b = true ↔ a.at_ < b.at_ \/ (a.at_ = b.at_ /\ (a.wagon < b.wagon \/ (a.wagon = b.wagon /\ (a.deliver.railway < b.deliver.railway \/ (a.deliver.railway = b.deliver.railway /\ a.deliver.no < b.deliver.no))))) := by
 unfold ltH
 rw [decide_eq_true_eq, zot, zot, zot, zc9, zc9, zc9, zc9, zin, zin, zin]
theorem y9f {a b : z7} : ltH a b = false ↔ ¬ (a.at_ < b.at_ \/ (a.at_ = b.at_ /\ (a.wagon < b.wagon \/ (a.wagon = b.wagon /\ (a.deliver.railway < b.deliver.railway \/ (a.deliver.railway = b.deliver.railway /\ a.deliver.no < b.deliver.no)))))) := by
 rw [<- y02]; simp
theorem y4h : Swo ltH where
 asym := fun a b h => by rw [y9f]; rw [y02] at h; omega
 ntr := fun a b c h1 h2 => by rw [y9f] at *; omega
theorem y4a (φ : Nat) (h : 6 <= φ) : Cmp (fun _ : z7 => True) (fun a b => (z4w φ a b).bind fun r => (some r.1)) ltH := by
 intro a b _ _
 refine ⟨or2 (cmpI a.at_ b.at_) (or2 (cmpI a.wagon b.wagon) (or2 (cmpI a.deliver.railway b.deliver.railway) (cmpI a.deliver.no b.deliver.no))), ?_, rfl⟩
 show ((z4w φ a b).bind fun r => (some r.1)) = _
 unfold z4w
 simp only [zc4, zou φ (by omega), Option.bind_some]
 rw [ybb φ h]; rfl
def y8j (d r : z1) : z7 := ⟨d.item.wagon, d.item.place, d.ref.railway, r.ref.railway, W (((W (d.item.from_ + r.item.from_)) : Int).tdiv 2), max2 d.item.code r.item.code, d.ref, r.ref⟩
def rawL (p : Pool) (l : List z1) : List z7 := (zgt p l).map fun x => y8j (gt l x.1) (gt l x.2)
def zhy (p : Pool) (l : List z1) : List z7 := z9r ltH (rawL p l)
theorem zug {p : Pool} {l : List z1} {x : Int × Int} (hx : x ∈ zgt p l) : x.1 ∈ delL p l /\ x.2 ∈ hofL p l 4 /\ proB p (gt l x.1) = true := by
 have key : ∀ (D : List Int) (o : List (Int × Int)), x ∈ D.foldl (zjl p l (hofL p l 4)) o -> x ∈ o \/ (x.1 ∈ D /\ x.2 ∈ hofL p l 4 /\ proB p (gt l x.1) = true) := by
  intro D
  induction D with
  | nil => exact fun o h => .inl h
  | cons i D ih =>
   intro o h
   rw [List.foldl_cons] at h
   rcases ih _ h with h | ⟨h1, h2⟩
   ·unfold zjl at h
    split at h
    ·rename_i hp
     split at h
     ·rename_i h0
      rcases List.mem_append.1 h with h | h
      ·exact .inl h
      ·simp only [List.mem_singleton] at h
       have hin := zs2 l (zmq o) (gt l i) (hofL p l 4) (-1)
       refine .inr ?_
       rw [h]
       refine ⟨by simp, ?_, hp⟩
       rcases hin with hin | hin
       ·unfold zm9 at h0; omega
       ·exact hin
     ·exact .inl h
    ·exact .inl h
   ·exact .inr ⟨List.mem_cons_of_mem _ h1, h2⟩
 rcases key _ _ hx with h | h
 ·cases h
 ·exact h
theorem zu1 (p : Pool) (l : List z1) : (zgt p l).length <= l.length := by
 have key : ∀ (D : List Int) (o : List (Int × Int)), (D.foldl (zjl p l (hofL p l 4)) o).length <= o.length + D.length := by
  intro D
  induction D with
  | nil => intro o; simp
  | cons i D ih =>
   intro o
   rw [List.foldl_cons]
   have h1 := ih (zjl p l (hofL p l 4) o i)
   have h2 : (zjl p l (hofL p l 4) o i).length <= o.length + 1 := by
    unfold zjl
    split
    ·split <;> simp
    ·omega
   rw [List.length_cons]
   omega
 have := key (delL p l) []
 have := zxc p l
 unfold zgt
 simp at *
 omega
theorem prA0 (i k : Int) : prA i k ((0 : Int).toNat) = i := rfl
theorem prA1 (i k : Int) : prA i k ((1 : Int).toNat) = k := rfl
theorem y4y (φ : Nat) (hφ : 800000 < φ) {p : Pool} {l : List z1} (h : PH p l) : zab φ p l = some (zhy p l, ()) := by
 unfold zab
 rw [y5t φ hφ h, Option.bind_some]
 have hlen := h.len
 have hP := zu1 p l
 have hPM : (prM (zgt p l)).length = (zgt p l).length := by simp [prM]
 have key := (zeh (fun n q s => z3y φ n l (prM (zgt p l)) ((prM (zgt p l)).length : Int) q s) (fun s => (z2l φ s (fun a b => (z4w φ a b).bind fun r => (some r.1))).bind fun y25 => (some (y25, ()))) (zgt p l) (fun s x => s ++ [y8j (gt l x.1) (gt l x.2)])
  (fun i s => s.length = i) ?_ ?_ φ [] rfl (by omega)).1
 ·refine key.trans ?_
  have hf : ∀ (X : List (Int × Int)) (s : List z7), X.foldl (fun s x => s ++ [y8j (gt l x.1) (gt l x.2)]) s = s ++ X.map fun x => y8j (gt l x.1) (gt l x.2) := by
   intro X
   induction X with
   | nil => simp
   | cons x X ih => intro s; rw [List.foldl_cons, ih]; simp
  rw [hf, List.nil_append, yan]
  show ((zz9 φ (rawL p l) _).bind _) = _
  have hr : (rawL p l).length <= 100 := by unfold rawL; simp; omega
  obtain ⟨r, h1, h2, h3⟩ := zr8 y4h (y4a φ (by omega)) φ (rawL p l) (fun _ _ => trivial) (by omega) (by omega)
  rw [h3, zoe y4h h1 h2]
  rfl
 ·intro n q s hq hs
  have hm := zbn (l := zgt p l) (i := (q : Int)) (by omega) (by omega)
  obtain ⟨m1, m2, _⟩ := zug hm
  have i1 := (h.item (znd.1 m1)).1
  have i2 := (h.item m2).1
  have hg : gt (prM (zgt p l)) (q : Int) = prA (gt (zgt p l) (q : Int)).1 (gt (zgt p l) (q : Int)).2 := by
   rw [zon (by omega), zon hq]; simp [prM]
  refine ⟨?_, by simp [hs]⟩
  rw [z3y, if_pos (by simp; omega), z8 ⟨by omega, by omega⟩, hg]
  unfold z54
  rw [prA0, prA1, z8 i1, z8 i2]
  unfold z59
  rw [if_pos (by omega), z8 (znh (by simp; omega) (by omega)), W_id (x := (q : Int) + 1) (by omega) (by omega)]
  rfl
 ·intro n s _
  rw [z3y, if_neg (by simp [hPM])]
def ybq (c : List z5a) : z5a := gt c ((c.length : Int) - 1)
def y4f (w : Int) (c : List z5a) (h : z7) : List z5a :=
 if (((h.wagon : Int) == w) && ((h.from_ : Int) == (ybq c).railway) && (decide ((ybq c).span.from_ < h.at_))) = true then c ++ [(⟨h.to, (⟨h.at_, 0⟩ : Span), h.receive⟩ : z5a)] else c
def y8f (p : Pool) (w : Int) : z5a := ⟨(gt p.network.places ((gt p.fleet.wagons w).home)).railway, (⟨0, 0⟩ : Span), (⟨0, 0⟩ : Ref)⟩
def zhv (p : Pool) (l : List z1) (w : Int) : List z5a := (zhy p l).foldl (y4f w) [y8f p w]
theorem zyk (p : Pool) (l : List z1) : (zhy p l).length <= l.length := by
 unfold zhy
 rw [(z5o _ _).length_eq]
 unfold rawL
 rw [List.length_map]
 exact zu1 p l
theorem y7h (φ : Nat) (hφ : 800000 < φ) {p : Pool} {l : List z1} (h : PH p l) {w : Int} (hw : 0 <= w /\ w < (p.fleet.wagons.length : Int)) (hh : 0 <= (gt p.fleet.wagons w).home /\ (gt p.fleet.wagons w).home < (p.network.places.length : Int)) :
  zad φ p l w = some (zhv p l w, ()) /\ 1 <= (zhv p l w).length /\ (zhv p l w).length <= l.length + 1 /\ gt (zhv p l w) 0 = y8f p w := by
 have hlen := h.len
 have hM := zyk p l
 have key := zeh (fun n q s => z1c φ n w (zhy p l) ((zhy p l).length : Int) q s) (fun s => some (s, ())) (zhy p l) (y4f w)
  (fun i c => 1 <= c.length /\ c.length <= i + 1 /\ gt c 0 = y8f p w) ?_ ?_ φ [y8f p w] ⟨by simp, by simp, rfl⟩ (by omega)
 ·unfold zad
  rw [z8 hw, z8 hh, y4y φ hφ h, Option.bind_some]
  exact ⟨key.1, key.2.1, by have := key.2.2.1; unfold zhv; omega, key.2.2.2⟩
 ·intro n q c hq ⟨c1, c2, c3⟩
  have w1 : W ((c.length : Int) - 1) = (c.length : Int) - 1 := W_id (by omega) (by omega)
  rw [z1c, if_pos (by simp; omega), z8 ⟨by omega, by omega⟩, w1, z8 ⟨by omega, by omega⟩, W_id (x := (q : Int) + 1) (by omega) (by omega)]
  unfold y4f ybq
  refine ⟨?_, ?_⟩
  ·split
   ·rw [z8 (znh (by simp; omega) (by omega))]
   ·rfl
  ·split
   ·refine ⟨by simp, by simp; omega, ?_⟩
    rw [<- c3]
    cases c with
    | nil => simp at c1
    | cons a c => rfl
   ·exact ⟨c1, by omega, c3⟩
 ·intro n c _
  rw [z1c, if_neg (by simp)]
def atI (c : List z5a) (t : Int) : Nat -> Int
 | 0 => (gt c 0).railway
 | i + 1 => if t < (gt c ((i : Int) + 1)).span.from_ then atI c t i else (gt c ((i : Int) + 1)).railway
theorem zt0 (φ : Nat) (t : Int) (c : List z5a) (hc : (gt c 0).span.from_ <= t) : ∀ (i n : Nat), i < c.length -> i < 1000 -> i < n -> z5r φ n t c (i : Int) = some (atI c t i, 0, ())
 | 0, n + 1, h1, h2, _ => by
  rw [z5r, z8 ⟨by omega, by omega⟩]
  show (if decide (t < (gt c 0).span.from_) = true then _ else _) = _
  rw [if_neg (by simp; omega), z8 ⟨by omega, by omega⟩]
  rfl
 | i + 1, n + 1, h1, h2, h3 => by
  rw [z5r, z8 ⟨by omega, by omega⟩, W_id (by omega) (by omega)]
  show (if decide (t < (gt c ((i : Int) + 1)).span.from_) = true then _ else _) = _
  unfold atI
  by_cases hd : t < (gt c ((i : Int) + 1)).span.from_
  ·rw [if_pos (by simpa using hd), if_pos hd, show (((i + 1 : Nat) : Int) - 1) = (i : Int) by omega]
   exact zt0 φ t c hc i n (by omega) (by omega) (by omega)
  ·rw [if_neg (by simpa using hd), if_neg hd, z8 ⟨by omega, by omega⟩]
   rfl
def y7t (p : Pool) (w t : Int) : Bool := (((decide (w < 0)) || (decide ((p.fleet.wagons.length : Int) <= w))) || (decide (t < 0))) || (decide ((1073741824 : Int) < t))
def atB (p : Pool) (l : List z1) (w t : Int) : Int × Int × Unit := if y7t p w t = true then (0, 1, ()) else (atI (zhv p l w) t ((zhv p l w).length - 1), 0, ())
theorem ydg (φ : Nat) (hφ : 800000 < φ) {p : Pool} {l : List z1} (h : PH p l) (w t : Int) : zcd φ p l w t = some (atB p l w t) := by
 have hlen := h.len
 unfold zcd zed
 rw [z31 φ hφ, Option.bind_some, h.pool, if_neg (by simp)]
 unfold atB
 by_cases hb : y7t p w t = true
 ·rw [if_pos hb]
  unfold y7t at hb
  rw [if_pos hb, Option.bind_some, if_pos (by simp)]
 ·rw [if_neg hb]
  have hb' := hb
  unfold y7t at hb
  rw [if_neg hb, Option.bind_some, if_neg (by simp)]
  simp at hb
  have hw : 0 <= w /\ w < (p.fleet.wagons.length : Int) := by omega
  have hh : 0 <= (gt p.fleet.wagons w).home /\ (gt p.fleet.wagons w).home < (p.network.places.length : Int) := (zzi h.pool).2.1 _ (zbn hw.1 hw.2)
  obtain ⟨e1, e2, e3, e4⟩ := y7h φ hφ h hw hh
  rw [e1, Option.bind_some]
  dsimp only
  rw [W_id (by omega) (by omega), show (((zhv p l w).length : Int) - 1) = (((zhv p l w).length - 1 : Nat) : Int) by omega]
  exact zt0 φ t _ (by rw [e4]; show (0 : Int) <= t; omega) _ φ (by omega) (by omega) (by omega)
end Px
end
section
namespace Px
open Go
set_option linter.unusedVariables false
set_option linter.unusedSimpArgs false
set_option maxRecDepth 100000
def minF {α : Type} (lt : α -> α -> Bool) (b : α) (L : List α) : α := L.foldl (fun b x => bif lt x b then x else b) b
theorem Swo.tr {α : Type} {lt : α -> α -> Bool} (h : Swo lt) {a b c : α} (h1 : lt a b = true) (h2 : lt b c = true) : lt a c = true := by
 cases hc : lt a c with
 | true => rfl
 | false => have := h.ntr _ _ _ hc (h.asym _ _ h2); rw [h1] at this; cases this
def hdI {α : Type} (lt : α -> α -> Bool) (x : α) : List α -> α
 | [] => x
 | y :: _ => bif lt y x then y else x
theorem zp8 {α : Type} (lt : α -> α -> Bool) (x : α) (r : List α) : ∃ t, insL lt x r = hdI lt x r :: t := by
 cases r with
 | nil => exact ⟨[], rfl⟩
 | cons y l =>
  cases h : lt y x with
  | true => exact ⟨insL lt x l, by simp only [insL, hdI, h, cond_true]⟩
  | false => exact ⟨y :: l, by simp only [insL, hdI, h, cond_false]⟩
theorem zqj {α : Type} {lt : α -> α -> Bool} (hs : Swo lt) : ∀ (L : List α) (b : α), ∃ t, z9r lt (b :: L) = minF lt b L :: t
 | [], b => ⟨[], rfl⟩
 | x :: L, b => by
  obtain ⟨t', ht'⟩ := zqj hs L (bif lt x b then x else b)
  show ∃ t, z9r lt (b :: x :: L) = minF lt (bif lt x b then x else b) L :: t
  obtain ⟨h1, e1⟩ := zp8 lt (bif lt x b then x else b) (z9r lt L)
  have e1' : z9r lt ((bif lt x b then x else b) :: L) = _ := e1
  rw [ht', List.cons.injEq] at e1'
  obtain ⟨h2, e2⟩ := zp8 lt x (z9r lt L)
  obtain ⟨h3, e3⟩ := zp8 lt b (insL lt x (z9r lt L))
  refine ⟨h3, ?_⟩
  show insL lt b (insL lt x (z9r lt L)) = _
  rw [e3, e1'.1, e2]
  congr 1
  unfold hdI
  cases z9r lt L with
  | nil => rfl
  | cons h r =>
   simp only []
   cases c1 : lt x b <;> cases c2 : lt h x <;> simp only [cond_true, cond_false, c1, c2]
   ·rw [hs.ntr _ _ _ c2 c1]; rfl
   ·rw [hs.tr c2 c1]; rfl
def zjk (a b : z1) : Bool := decide (or2 (cmpI a.ref.railway b.ref.railway) (cmpI a.ref.no b.ref.no) < 0)
theorem zk2 {a b : z1} : zjk a b = true ↔ a.ref.railway < b.ref.railway \/ (a.ref.railway = b.ref.railway /\ a.ref.no < b.ref.no) := by
 unfold zjk; rw [decide_eq_true_eq, zot, zc9, zc9, zin]
theorem zsl {a b : z1} : zjk a b = false ↔ ¬ (a.ref.railway < b.ref.railway \/ (a.ref.railway = b.ref.railway /\ a.ref.no < b.ref.no)) := by
 rw [<- zk2]; simp
theorem zkh : Swo zjk where
 asym := fun a b h => by rw [zsl]; rw [zk2] at h; omega
 ntr := fun a b c h1 h2 => by rw [zsl] at *; omega
def zhu (a it : Item) : Bool := a.parts.any fun q => it.parts.any fun x => !x.fitted && (x.kind == q.kind && x.serial == q.serial)
def recB (p : Pool) (it : Item) (r : z1) : Bool := ((r.item.kind == 10) && zhu r.item it) && zds p r.item
def payE (p : Pool) (l : List z1) (x : z1) : Int × Int × Unit :=
 if ((x.item.code : Int) == 2) = true then (W (16 + (gt p.fleet.wagons x.item.wagon).owner), 0, ()) else atB p l x.item.wagon x.item.from_
def payV (p : Pool) (l : List z1) (x : z1) : Int × Int × Unit :=
 match l.filter (recB p x.item) with
 | [] => payE p l x
 | b :: L => (W (16 + (minF zjk b L).item.other), 0, ())
structure OkPc (M : List (z6 × Bool)) (ps : List Part) : Prop where
 srt : Srt' kl_9 M
 vals : ∀ q ∈ M, q.2 = true
 mem : ∀ k s : Int, (∃ q ∈ M, q.1 = (⟨k, s⟩ : z6)) ↔ ∃ x ∈ ps, x.fitted = false /\ x.kind = k /\ x.serial = s
theorem OkPc.nil : OkPc [] [] := ⟨List.Pairwise.nil, fun q hq => (by cases hq), fun k s => by simp⟩
theorem OkPc.skip {M ps} (h : OkPc M ps) {x : Part} (hx : x.fitted = true) : OkPc M (ps ++ [x]) := ⟨h.srt, h.vals, fun k s => by
 rw [h.mem]
 constructor
 ·rintro ⟨y, hy, e⟩; exact ⟨y, by simp [hy], e⟩
 ·rintro ⟨y, hy, e⟩
  rcases List.mem_append.1 hy with hy | hy
  ·exact ⟨y, hy, e⟩
  ·simp only [List.mem_singleton] at hy; subst hy; rw [hx] at e; cases e.1⟩
theorem OkPc.add {M ps} (h : OkPc M ps) {x : Part} (hx : x.fitted = false) : OkPc (cset kl_9 M (⟨x.kind, x.serial⟩ : z6) true) (ps ++ [x]) := ⟨h.srt.set _ _, fun q hq => by
  rcases (z35 h.srt).1 hq with rfl | ⟨hq, _⟩
  ·rfl
  ·exact h.vals q hq, fun k s => by
 constructor
 ·rintro ⟨q, hq, e⟩
  rcases (z35 h.srt).1 hq with rfl | ⟨hq, _⟩
  ·injection e with e1 e2
   exact ⟨x, by simp, hx, e1, e2⟩
  ·obtain ⟨y, hy, e⟩ := (h.mem k s).1 ⟨q, hq, e⟩
   exact ⟨y, by simp [hy], e⟩
 ·rintro ⟨y, hy, e1, e2, e3⟩
  by_cases hc : (⟨k, s⟩ : z6) = ⟨x.kind, x.serial⟩
  ·exact ⟨(⟨x.kind, x.serial⟩, true), (z35 h.srt).2 (.inl rfl), hc.symm⟩
  rcases List.mem_append.1 hy with hy | hy
  ·obtain ⟨q, hq, e⟩ := (h.mem k s).2 ⟨y, hy, e1, e2, e3⟩
   exact ⟨q, (z35 h.srt).2 (.inr ⟨hq, fun g => hc (by rw [<- e]; exact (y0g g).symm)⟩), e⟩
  ·simp only [List.mem_singleton] at hy
   subst hy
   exact absurd (by rw [<- e2, <- e3]) hc⟩
theorem OkPc.get {M ps} (h : OkPc M ps) (k s : Int) : (cget kl_9 M (⟨k, s⟩ : z6)).getD (default : Bool) = ps.any fun x => !x.fitted && (x.kind == k && x.serial == s) := by
 have hm := h.mem k s
 cases hc : cget kl_9 M (⟨k, s⟩ : z6) with
 | none =>
  have hn := zj4.1 hc
  have : (ps.any fun x => !x.fitted && (x.kind == k && x.serial == s)) = false := by
   rw [List.any_eq_false]
   intro x hx g
   simp only [Bool.and_eq_true, Bool.not_eq_true', beq_iff_eq] at g
   obtain ⟨q, hq, e⟩ := hm.2 ⟨x, hx, g.1, g.2.1, g.2.2⟩
   exact hn q hq (by rw [e])
  rw [this]; rfl
 | some b =>
  obtain ⟨a, ha, e⟩ := zdx hc
  have hb : b = true := h.vals _ ha
  have : (ps.any fun x => !x.fitted && (x.kind == k && x.serial == s)) = true := by
   rw [List.any_eq_true]
   obtain ⟨x, hx, g1, g2, g3⟩ := hm.1 ⟨_, ha, (y0g e).symm⟩
   exact ⟨x, hx, by simp [g1, g2, g3]⟩
  rw [this, hb]; rfl
theorem zea {α : Type} [Inhabited α] (f : α -> Bool) (l : List α) (i : Nat) (hi : i < l.length) : (l.take (i + 1)).any f = ((l.take i).any f || f (gt l (i : Int))) := by
 rw [z8c l i hi]; simp
theorem zx3 {ρ : Type} (φ : Nat) (hφ : 800000 < φ) {p : Pool} (hc : z84 p = 0) {it : Item} (hparts : it.parts.length <= 1000) (c : Bool) (A B : Option ρ) :
  ((zx (default, ()) (c = true) (z5y φ p it)).bind fun y => if (c && ((y.1 : Int) == 0)) = true then A else B) = if (c && zds p it) = true then A else B := by
 cases c with
 | false =>
  unfold zx
  rw [if_neg (by simp), Option.bind_some]
  simp
 | true =>
  rw [zik rfl, z8b φ hφ hc hparts, Option.bind_some]
  cases zds p it <;> simp
theorem zsy (φ : Nat) (hφ : 800000 < φ) (k23) {p : Pool} {l : List z1} (h : PH p l) {r : z1} (hr : r.item.parts.length <= 1000) (l2 : List z1) (nn i : Int) (x : z1) (acc : List z1) (ha : acc.length <= 1000) {M : List (z6 × Bool)} (hM : OkPc M x.item.parts) :
  z3b φ k23 φ r.item.parts (r.item.parts.length : Int) 0 l l2 nn i p x acc r M = k23 l l2 nn (W (i + 1)) p x (if recB p x.item r = true then acc ++ [r] else acc) M := by
 have fin : (if ((((r.item.kind : Int) == 10) && zhu r.item x.item) && zds p r.item) = true then (ck (fits (acc.length + ([r]).length) 192) (k23 l l2 nn (W (i + 1)) p x (acc ++ [r]) M)) else (k23 l l2 nn (W (i + 1)) p x acc M)) = k23 l l2 nn (W (i + 1)) p x (if recB p x.item r = true then acc ++ [r] else acc) M := by
  unfold recB
  split
  ·rw [z8 (znh (by simp; omega) (by omega))]
  ·rfl
 refine z6y (fun n q (_ : Unit) => z3b φ k23 n r.item.parts (r.item.parts.length : Int) q l l2 nn i p x acc r M) r.item.parts.length (fun q _ => ((r.item.parts.take q).any fun q => x.item.parts.any fun x => !x.fitted && (x.kind == q.kind && x.serial == q.serial)) = false) (fun o => o = k23 l l2 nn (W (i + 1)) p x (if recB p x.item r = true then acc ++ [r] else acc) M) ?_ ?_ φ () (by simp) (by omega)
 ·intro n q _ hq hs hk
  rw [z3b, if_pos (by simp; omega), z8 ⟨by omega, by omega⟩, W_id (x := (q : Int) + 1) (by omega) (by omega)]
  unfold zef
  simp only [zcj, Option.bind_some]
  rw [hM.get]
  cases hc : (x.item.parts.any fun y => !y.fitted && (y.kind == (gt r.item.parts (q : Int)).kind && y.serial == (gt r.item.parts (q : Int)).serial)) with
  | true =>
   rw [if_pos rfl]
   have hd : decide ((0 : Int) <= (q : Int)) = true := by simp
   have hn : zhu r.item x.item = true := by
    unfold zhu
    rw [List.any_eq_true]
    exact ⟨_, zbn (by omega) (by omega), hc⟩
   rw [hd, zx3 φ hφ h.pool hr]
   rw [hn] at fin
   exact fin
  | false =>
   rw [if_neg (by simp)]
   exact hk () (by rw [zea _ _ _ hq, hs, hc]; rfl)
 ·intro n _ hs
  rw [z3b, if_neg (by simp), zx3 φ hφ h.pool hr]
  rw [List.take_length] at hs
  unfold zhu at fin
  rw [hs] at fin
  exact fin
theorem y8e (φ : Nat) (h : 3 <= φ) : Cmp (fun _ : z1 => True) (fun a b => (z6i φ a b).bind fun r => (some r.1)) zjk := by
 intro a b _ _
 refine ⟨or2 (cmpI a.ref.railway b.ref.railway) (cmpI a.ref.no b.ref.no), ?_, rfl⟩
 show ((z6i φ a b).bind fun r => (some r.1)) = _
 rw [y8d φ h]; rfl
theorem zuq (φ : Nat) (hφ : 800000 < φ) {p : Pool} {l : List z1} (h : PH p l) (x : z1) (hx : zqb p x.item) (hk : x.item.kind = 9) {M : List (z6 × Bool)} (hM : OkPc M x.item.parts) :
  z3e φ φ l l (l.length : Int) 0 p x [] M = some (payV p l x) := by
 have hlen := h.len
 refine (zeh (fun n q acc => z3e φ n l l (l.length : Int) q p x acc M) (fun acc => some (payV p l x)) l (fun acc r => if recB p x.item r = true then acc ++ [r] else acc)
  (fun i acc => acc = (l.take i).filter (recB p x.item)) ?_ ?_ φ [] (by simp) (by omega)).1
 ·intro n q acc hq ha
  have hr := h.parts _ (zbn (l := l) (i := (q : Int)) (by omega) (by omega))
  have hal : acc.length <= 1000 := by rw [ha]; have := List.length_filter_le (recB p x.item) (l.take q); rw [List.length_take] at this; omega
  refine ⟨?_, ?_⟩
  ·rw [z3e, if_pos (by simp; omega), z8 ⟨by omega, by omega⟩, zsy φ hφ _ h hr _ _ _ _ _ hal hM, W_id (x := (q : Int) + 1) (by omega) (by omega)]
  ·rw [z8c l q hq, List.filter_append, <- ha]
   by_cases hb : recB p x.item (gt l (q : Int)) = true
   ·rw [if_pos hb]; simp [hb]
   ·rw [if_neg hb]; simp [hb]
 ·intro n acc ha
  rw [List.take_length] at ha
  have hal : acc.length <= 100 := by rw [ha]; have := List.length_filter_le (recB p x.item) l; omega
  rw [z3e, if_neg (by simp), y7r]
  obtain ⟨r, h1, h2, h3⟩ := zr8 zkh (y8e φ (by omega)) φ acc (fun _ _ => trivial) (by omega) (by omega)
  rw [h3, zoe zkh h1 h2, Option.bind_some]
  unfold payV
  rw [<- ha]
  cases acc with
  | nil =>
   show (if decide ((0 : Int) < 0) = true then _ else _) = _
   rw [if_neg (by simp)]
   unfold payE
   have hw := hx.wagon (by omega)
   by_cases hc : ((x.item.code : Int) == 2) = true
   ·rw [if_pos hc, if_pos hc, z8 hw]
   ·rw [if_neg hc, if_neg hc, ydg φ hφ h, Option.bind_some]
  | cons b L =>
   obtain ⟨t, ht⟩ := zqj zkh L b
   rw [ht, if_pos (by simp), z8 ⟨by omega, by simp⟩]
   rfl
def payA (p : Pool) (l : List z1) (x : z1) : Int × Int × Unit :=
 if (((x.item.kind : Int) != 9) || !zds p x.item) = true then (0, 1, ()) else payV p l x
theorem zx2 (φ : Nat) (hφ : 800000 < φ) {p : Pool} {l : List z1} (h : PH p l) (x : z1) (hxp : x.item.parts.length <= 1000) : zc φ p l x = some (payA p l x) := by
 unfold zc payA
 rw [z31 φ hφ, Option.bind_some, h.pool, if_neg (by simp)]
 by_cases hk : x.item.kind = 9
 case neg =>
  have hk' : ((x.item.kind : Int) != 9) = true := by simpa using hk
  rw [hk']
  unfold zx
  rw [if_neg (by simp), Option.bind_some, if_pos (by simp), if_pos (by simp)]
 have hk' : ((x.item.kind : Int) != 9) = false := by simpa using hk
 rw [hk', zik rfl, z8b φ hφ h.pool hxp, Option.bind_some]
 cases ho : zds p x.item with
 | false => rw [if_pos (by simp), if_pos (by simp)]
 | true =>
  rw [if_neg (by simp), if_neg (by simp)]
  have hI := znl h.pool hxp ho
  refine (zeh (fun n q M => z3a φ n l x.item.parts (x.item.parts.length : Int) q p x M) (fun M => some (payV p l x)) x.item.parts (fun M y => if y.fitted = false then cset kl_9 M (⟨y.kind, y.serial⟩ : z6) true else M)
   (fun i M => OkPc M (x.item.parts.take i)) ?_ ?_ φ [] OkPc.nil (by omega)).1
  ·intro n q M hq hM
   rw [z8c _ q hq]
   refine ⟨?_, ?_⟩
   ·rw [z3a, if_pos (by simp; omega), z8 ⟨by omega, by omega⟩, W_id (x := (q : Int) + 1) (by omega) (by omega)]
    cases hf : (gt x.item.parts (q : Int)).fitted with
    | true => rw [if_neg (by simp), if_neg (by simp)]
    | false =>
     rw [if_pos (by simp), if_pos rfl]
     simp only [zcj, Option.bind_some]
   ·cases hf : (gt x.item.parts (q : Int)).fitted with
    | true => rw [if_neg (by simp)]; exact hM.skip hf
    | false => rw [if_pos rfl]; exact hM.add hf
  ·intro n M hM
   rw [List.take_length] at hM
   rw [z3a, if_neg (by simp)]
   exact zuq φ hφ h x hI hk hM
end Px
end
section
namespace Px
open Go
set_option linter.unusedVariables false
set_option linter.unusedSimpArgs false
set_option maxRecDepth 100000
theorem zq0 {α : Type} {lt lt' : α -> α -> Bool} (x : α) : ∀ r : List α, (∀ y ∈ r, lt y x = lt' y x) -> insL lt x r = insL lt' x r
 | [], _ => rfl
 | y :: r, h => by
  unfold insL
  rw [h y (by simp), zq0 x r (fun z hz => h z (by simp [hz]))]
theorem znj {α : Type} {lt lt' : α -> α -> Bool} : ∀ L : List α, (∀ a ∈ L, ∀ b ∈ L, lt a b = lt' a b) -> z9r lt L = z9r lt' L
 | [], _ => rfl
 | x :: L, h => by
  unfold z9r
  rw [znj L (fun a ha b hb => h a (by simp [ha]) b (by simp [hb])), zq0]
  intro y hy
  exact h y (by simp [(z5o _ _).mem_iff.1 hy]) x (by simp)
theorem zw1 {l l' : List z1} (U : Int -> Bool) (d : z1) {b k : Int} (hk : gt l' k = gt l k) (hb : b = -1 \/ gt l' b = gt l b) : zj7 l' U d b k = zj7 l U d b k := by
 unfold zj7 fitR notW
 rw [hk]
 rcases hb with rfl | hb
 ·rfl
 ·rw [hb]
theorem zo2 {l l' : List z1} (U : Int -> Bool) (d : z1) : ∀ (R : List Int) (b : Int), (∀ k ∈ R, gt l' k = gt l k) -> (b = -1 \/ gt l' b = gt l b) -> R.foldl (zj7 l' U d) b = R.foldl (zj7 l U d) b
 | [], b, _, _ => rfl
 | k :: R, b, h, hb => by
  rw [List.foldl_cons, List.foldl_cons, zw1 U d (h k (by simp)) hb]
  refine zo2 U d R _ (fun z hz => h z (by simp [hz])) ?_
  unfold zj7
  split
  ·split
   ·exact hb
   ·exact .inr (h k (by simp))
  ·exact hb
theorem zoc {p : Pool} {l l' : List z1} {R : List Int} (hR : ∀ k ∈ R, gt l' k = gt l k) : ∀ (D : List Int) (o : List (Int × Int)), (∀ k ∈ D, gt l' k = gt l k) -> D.foldl (zjl p l' R) o = D.foldl (zjl p l R) o
 | [], o, _ => rfl
 | i :: D, o, h => by
  rw [List.foldl_cons, List.foldl_cons]
  have e : zjl p l' R o i = zjl p l R o i := by
   unfold zjl zm9
   rw [h i (by simp), zo2 _ _ R (-1) hR (.inl rfl)]
  rw [e]
  exact zoc hR D _ (fun z hz => h z (by simp [hz]))
theorem zro {l : List z1} {x : z1} {i : Int} (h1 : 0 <= i) (h2 : i < (l.length : Int)) : gt (l ++ [x]) i = gt l i := by
 obtain ⟨n, rfl⟩ : ∃ n : Nat, i = (n : Int) := ⟨i.toNat, by omega⟩
 rw [zon (by simp; omega), zon (by omega), List.getElem_append_left]
theorem zuw {p : Pool} {l : List z1} {x : z1} {k : Int} (hx : x.item.kind ≠ k) : hofL p (l ++ [x]) k = hofL p l k := by
 unfold hofL
 rw [List.length_append, List.length_singleton, zle, List.filter_append, List.map_append]
 have e1 : ([l.length].filter fun i : Nat => okR p k (gt (l ++ [x]) (i : Int))) = [] := by
  have e : gt (l ++ [x]) ((l.length : Nat) : Int) = x := by rw [zon (by simp)]; simp
  have : okR p k x = false := by
   unfold okR
   have : ((x.item.kind : Int) == k) = false := by simpa using hx
   rw [this]; rfl
  rw [List.filter_cons, e, this]; rfl
 rw [e1, List.map_nil, List.append_nil]
 congr 1
 refine List.filter_congr fun i hi => ?_
 rw [zro (by omega) (by have := List.mem_range.1 hi; omega)]
theorem zyq {p : Pool} {l : List z1} {x : z1} (h3 : x.item.kind ≠ 3) (h4 : x.item.kind ≠ 4) : zgt p (l ++ [x]) = zgt p l := by
 have g : ∀ k' k : Int, k ∈ hofL p l k' -> gt (l ++ [x]) k = gt l k := fun k' k hk => by
  have := zjt.1 hk
  exact zro this.1 this.2.1
 have hd : delL p (l ++ [x]) = delL p l := by
  unfold delL
  rw [zuw h3]
  refine znj _ fun a ha b hb => ?_
  unfold ltD
  rw [g _ _ ha, g _ _ hb]
 unfold zgt
 rw [hd, zuw h4]
 exact zoc (fun k hk => g _ _ hk) _ _ (fun k hk => g _ _ (znd.1 hk))
theorem zwl {p : Pool} {l : List z1} {x : z1} (h3 : x.item.kind ≠ 3) (h4 : x.item.kind ≠ 4) : zhy p (l ++ [x]) = zhy p l := by
 unfold zhy rawL
 rw [zyq h3 h4]
 congr 1
 refine List.map_congr_left fun y hy => ?_
 obtain ⟨m1, m2, _⟩ := zug hy
 have q1 := zjt.1 (znd.1 m1)
 have q2 := zjt.1 m2
 rw [zro q1.1 q1.2.1, zro q2.1 q2.2.1]
theorem y7n {p : Pool} {l : List z1} {x : z1} (h3 : x.item.kind ≠ 3) (h4 : x.item.kind ≠ 4) (w t : Int) : atB p (l ++ [x]) w t = atB p l w t := by
 unfold atB zhv
 rw [zwl h3 h4]
theorem y3m {p : Pool} {l : List z1} {x z : z1} (h3 : x.item.kind ≠ 3) (h4 : x.item.kind ≠ 4) (hr : recB p z.item x = false) : payA p (l ++ [x]) z = payA p l z := by
 unfold payA payV payE
 rw [List.filter_append, y7n h3 h4, List.filter_cons, hr]
 simp
end Px
end
section
namespace Px
open Go
set_option linter.unusedVariables false
set_option linter.unusedSimpArgs false
set_option maxRecDepth 100000
theorem zte (φ : Nat) (k8) (a it : Item) (hi : it.parts.length <= 1000) (hφ : 2000 < φ) (i : Nat) (h : i < a.parts.length) (ha : a.parts.length <= 1000) :
  z4b φ k8 φ (i : Int) 0 a it = if (it.parts.any fun x => !x.fitted && (x.kind == (gt a.parts (i : Int)).kind && x.serial == (gt a.parts (i : Int)).serial)) = true then some (true, ()) else k8 ((i : Int) + 1) a it := by
 refine z6y (fun n q (_ : Unit) => z4b φ k8 n (i : Int) q a it) it.parts.length (fun q _ => ((it.parts.take q).any fun x => !x.fitted && (x.kind == (gt a.parts (i : Int)).kind && x.serial == (gt a.parts (i : Int)).serial)) = false)
  (fun o => o = if (it.parts.any fun x => !x.fitted && (x.kind == (gt a.parts (i : Int)).kind && x.serial == (gt a.parts (i : Int)).serial)) = true then some (true, ()) else k8 ((i : Int) + 1) a it) ?_ ?_ φ () (by simp) (by omega)
 ·intro n q _ hq hs hk
  rw [z4b, if_pos (by simp; omega), z8 ⟨by omega, by omega⟩, z8 ⟨by omega, by omega⟩, z8 (fun _ => ⟨by omega, by omega⟩), z8 (fun _ => ⟨by omega, by omega⟩), z8 (fun _ => ⟨by omega, by omega⟩), W_id (x := (q : Int) + 1) (by omega) (by omega)]
  have hcm : (((((gt a.parts (i : Int)).kind : Int) == (gt it.parts (q : Int)).kind) && (((gt a.parts (i : Int)).serial : Int) == (gt it.parts (q : Int)).serial)) && (!(gt it.parts (q : Int)).fitted)) = (!(gt it.parts (q : Int)).fitted && ((gt it.parts (q : Int)).kind == (gt a.parts (i : Int)).kind && (gt it.parts (q : Int)).serial == (gt a.parts (i : Int)).serial)) := by
   rw [Bool.and_comm, Bool.beq_comm, Bool.beq_comm (a := (gt a.parts (i : Int)).serial)]
  rw [hcm]
  by_cases hc : (!(gt it.parts (q : Int)).fitted && ((gt it.parts (q : Int)).kind == (gt a.parts (i : Int)).kind && (gt it.parts (q : Int)).serial == (gt a.parts (i : Int)).serial)) = true
  ·rw [if_pos hc, if_pos]
   rw [List.any_eq_true]
   exact ⟨_, zbn (by omega) (by omega), hc⟩
  ·rw [if_neg hc]
   exact hk () (by rw [zea _ _ _ hq, hs]; simpa using hc)
 ·intro n _ hs
  rw [List.take_length] at hs
  rw [z4b, if_neg (by simp), hs, if_neg (by simp), W_id (x := (i : Int) + 1) (by omega) (by omega)]
theorem zwb (φ : Nat) (hφ : 2000 < φ) (a it : Item) (hi : it.parts.length <= 1000) (ha : a.parts.length <= 1000) : z5e φ φ 0 a it = some (zhu a it, ()) := by
 refine z6y (fun n q (_ : Unit) => z5e φ n q a it) a.parts.length (fun q _ => ((a.parts.take q).any fun q => it.parts.any fun x => !x.fitted && (x.kind == q.kind && x.serial == q.serial)) = false)
  (fun o => o = some (zhu a it, ())) ?_ ?_ φ () (by simp) (by omega)
 ·intro n q _ hq hs hk
  rw [z5e, if_pos (by simp; omega), zte φ _ a it hi hφ q hq ha]
  split
  ·rename_i hc
   have hn : zhu a it = true := by
    unfold zhu
    rw [List.any_eq_true]
    exact ⟨_, zbn (by omega) (by omega), hc⟩
   rw [hn]
  ·rename_i hc
   exact hk () (by rw [zea _ _ _ hq, hs]; simpa using hc)
 ·intro n _ hs
  rw [List.take_length] at hs
  rw [z5e, if_neg (by simp)]
  unfold zhu
  rw [hs]
theorem zy4 (φ : Nat) (hφ : 800000 < φ) {p : Pool} (hc : z84 p = 0) (r : z1) (it : Item) (hi : it.parts.length <= 1000) (ha : r.item.parts.length <= 1000) : zce φ p r.item it = some (recB p it r, ()) := by
 unfold zce recB
 by_cases hk : r.item.kind = 10
 case neg =>
  have hk' : ((r.item.kind : Int) != 10) = true := by simpa using hk
  have hk2 : ((r.item.kind : Int) == 10) = false := by simpa using hk
  rw [hk', hk2]
  unfold zx
  rw [if_neg (by simp), Option.bind_some, if_pos (by simp)]
  rfl
 have hk' : ((r.item.kind : Int) != 10) = false := by simpa using hk
 have hk2 : ((r.item.kind : Int) == 10) = true := by simpa using hk
 rw [hk', hk2, zik rfl, z8b φ hφ hc ha, Option.bind_some]
 cases ho : zds p r.item with
 | false => rw [if_pos (by simp)]; simp
 | true => rw [if_neg (by simp), zwb φ (by omega) _ _ hi ha]; simp
end Px
end
section
namespace Px
open Go
set_option linter.unusedVariables false
set_option linter.unusedSimpArgs false
set_option maxRecDepth 100000
theorem zyy (φ : Nat) (hφ : 1000 < φ) (p : Pool) : ∃ b, z8v φ p = some (b, ()) /\ (b = true -> p.network.places.length <= 16 /\ p.network.edges.length <= 40 /\ p.fleet.wagons.length <= 8 /\ p.readers.length <= 8) := by
 unfold z8v
 split
 ·exact ⟨false, rfl, fun h => by cases h⟩
 ·rename_i hc
  simp only [Bool.or_eq_true, decide_eq_true_eq, not_or] at hc
  obtain ⟨⟨⟨⟨⟨⟨c1, c2⟩, c3⟩, c4⟩, c5⟩, c6⟩, c7⟩ := hc
  have : ∃ b, z16 φ φ 0 p = some (b, ()) := by
   refine z6y (fun n i (_ : Unit) => z16 φ n i p) p.railways.length (fun _ _ => True) (fun o => ∃ b, o = some (b, ())) ?_ ?_ φ () trivial (by omega)
   ·intro n i _ hi _ hs
    rw [z16, if_pos (by simp; omega), z8 ⟨by omega, by omega⟩, W_id (by omega) (by omega)]
    split
    ·exact ⟨false, rfl⟩
    ·exact hs () trivial
   ·intro n _ _
    rw [z16, if_neg (by simp)]
    exact ⟨true, rfl⟩
  obtain ⟨b, hb⟩ := this
  exact ⟨b, hb, fun _ => by omega⟩
theorem zta {α : Type} (lt : α -> α -> Bool) (b : α) (L : List α) (x : α) : minF lt b (L ++ [x]) = bif lt x (minF lt b L) then x else minF lt b L := by
 unfold minF; rw [List.foldl_append]; rfl
def Best (p : Pool) (l : List z1) (it : Item) (i : Nat) (best : Int) : Prop :=
 ((l.take i).filter (recB p it) = [] /\ best = -1) \/ ∃ b L, (l.take i).filter (recB p it) = b :: L /\ (0 <= best /\ best < (l.length : Int)) /\ gt l best = minF zjk b L
theorem zw9 (φ : Nat) (hφ : 800000 < φ) {p : Pool} {l : List z1} (h : PH p l) (x z : z1) (hx : zqb p x.item) (hk9 : x.item.kind = 9) (hxp : x.item.parts.length <= 1000) (c e : Int) :
  z03 φ φ l c e (-1) 0 p x z = z0c φ l c e (payV p l x).1 (payV p l x).2.1 p x z := by
 have hlen := h.len
 refine z6y (fun n i (best : Int) => z03 φ n l c e best i p x z) l.length (Best p l x.item) (fun o => o = z0c φ l c e (payV p l x).1 (payV p l x).2.1 p x z) ?_ ?_ φ (-1) (.inl ⟨by simp, rfl⟩) (by omega)
 ·intro n i best hi hB hk
  have hr := h.parts _ (zbn (l := l) (i := (i : Int)) (by omega) (by omega))
  have htk : (l.take (i + 1)).filter (recB p x.item) = (l.take i).filter (recB p x.item) ++ [gt l (i : Int)].filter (recB p x.item) := by rw [z8c l i hi, List.filter_append]
  have hbr : decide (best < 0) = false -> (0 : Int) <= best /\ best < (l.length : Int) := fun hd => by
   simp at hd
   rcases hB with ⟨_, rfl⟩ | ⟨_, _, _, hb, _⟩
   ·omega
   ·exact hb
  have hor : ∀ q : Bool, (decide (best < 0) || q) = false -> decide (best < 0) = false := fun q hq => by
   cases hd : decide (best < 0) with
   | false => rfl
   | true => rw [hd] at hq; cases hq
  rw [z03, if_pos (by simp; omega), z8 ⟨by omega, by omega⟩, z8 ⟨by omega, by omega⟩, zy4 φ hφ h.pool _ _ hxp hr, Option.bind_some, W_id (x := (i : Int) + 1) (by omega) (by omega),
   z8 (fun hc => hbr hc.2), z8 (fun hc => hbr (hor _ hc.2)), z8 (fun hc => hbr (hor _ hc.1.2))]
  cases hrec : recB p x.item (gt l (i : Int)) with
  | false =>
   rw [if_neg (by simp)]
   refine hk best ?_
   unfold Best
   rw [htk, List.filter_cons, hrec, if_neg (by simp), List.filter_nil, List.append_nil]
   exact hB
  | true =>
   rcases hB with ⟨h1, rfl⟩ | ⟨b, L, h1, h2, h3⟩
   ·rw [if_pos (by simp)]
    refine hk _ (.inr ⟨gt l (i : Int), [], ?_, ⟨by omega, by omega⟩, rfl⟩)
    rw [htk, h1, List.filter_cons, hrec]; rfl
   ·have hd : decide (best < 0) = false := by simp; omega
    have hlt : (((decide (best < 0)) || (decide ((((gt l (i : Int)).ref).railway : Int) < ((gt l best).ref).railway))) || (((((gt l (i : Int)).ref).railway : Int) == ((gt l best).ref).railway) && (decide ((((gt l (i : Int)).ref).no : Int) < ((gt l best).ref).no)))) = zjk (gt l (i : Int)) (gt l best) := by
     rw [hd, Bool.eq_iff_iff, zk2]; simp
    have hf : (l.take (i + 1)).filter (recB p x.item) = b :: (L ++ [gt l (i : Int)]) := by
     rw [htk, h1, List.filter_cons, hrec]; rfl
    rw [Bool.true_and, hlt]
    cases hl : zjk (gt l (i : Int)) (gt l best) with
    | true =>
     rw [if_pos rfl]
     refine hk _ (.inr ⟨b, _, hf, ⟨by omega, by omega⟩, ?_⟩)
     rw [zta, <- h3, hl]; rfl
    | false =>
     rw [if_neg (by simp)]
     refine hk _ (.inr ⟨b, _, hf, h2, ?_⟩)
     rw [zta, <- h3, hl]; rfl
 ·intro n best hB
  unfold Best at hB
  rw [List.take_length] at hB
  rw [z03, if_neg (by simp)]
  unfold payV
  rcases hB with ⟨h1, rfl⟩ | ⟨b, L, h1, h2, h3⟩
  ·rw [if_neg (by simp), h1]
   unfold payE
   by_cases hc : ((x.item.code : Int) == 2) = true
   ·rw [if_pos hc, z8 (hx.wagon (by omega)), if_pos hc]
   ·rw [if_neg hc, ydg φ hφ h, Option.bind_some, if_neg hc]
  ·rw [if_pos (by simpa using h2.1), z8 h2, h1, h3]
theorem yef (φ : Nat) (p : Pool) (l : List z1) (x z : z1) : (z6b φ).F (p, l, x, z, ()) = z5z φ p l x z := rfl
theorem zp5 (y : Tup TT [39, 10, 7, 7]) (h : ybe TV 30 [39, 10, 7, 7] y) : ∃ φ, (z6b φ).F y = some (true, ()) := by
 obtain ⟨p, l, x, z, u⟩ := y
 cases u
 change Pool at p
 change List z1 at l
 change z1 at x
 change z1 at z
 suffices key : ∃ φ, z5z φ p l x z = some (true, ()) by
  obtain ⟨φ, h⟩ := key
  exact ⟨φ, (yef φ p l x z).trans h⟩
 suffices key : ∀ φ : Nat, 60000000 < φ -> zhk φ = some (true, ()) -> z5z φ p l x z = some (true, ()) from ⟨100000000, key _ (by omega) ye9⟩
 intro φ hφ hsane
 unfold z5z
 obtain ⟨bf, hbf, hfew⟩ := y7g φ (by omega) l
 obtain ⟨bs, hbs, _⟩ := zyy φ (by omega) p
 rw [hsane, Option.bind_some, if_neg (by simp), hbs, Option.bind_some]
 cases bs with
 | false =>
  unfold zx
  rw [if_neg (by simp), Option.bind_some, if_pos (by simp)]
 | true =>
 rw [zik (by rfl), hbf, Option.bind_some]
 cases bf with
 | false => rw [if_pos (by simp)]
 | true =>
 obtain ⟨hl1, hl2⟩ := hfew rfl
 by_cases hp1 : x.item.parts.length <= 20
 case neg => rw [if_pos (by simp; omega)]
 by_cases hp2 : z.item.parts.length <= 20
 case neg => rw [if_pos (by simp; omega)]
 rw [if_neg (by simp; omega)]
 by_cases hc : z84 p = 0
 case neg =>
  have e1 : zc φ p l x = some (0, z84 p, ()) := by
   unfold zc
   rw [z31 φ (by omega), Option.bind_some, if_pos (by simpa using hc)]
  have hne : ((z84 p : Int) != 0) = true := by simpa using hc
  have e2 : z5y φ p x.item = some (z84 p, ()) := by
   unfold z5y
   rw [z31 φ (by omega), Option.bind_some, if_pos hne]
  rw [e1, Option.bind_some, e2]
  by_cases hk : x.item.kind = 9
  ·have hk' : ((x.item.kind : Int) != 9) = false := by simpa using hk
   rw [hk', zik rfl, Option.bind_some, if_pos (by simpa using hc)]
   simp [hc]
  ·have hk' : ((x.item.kind : Int) != 9) = true := by simpa using hk
   rw [hk']
   unfold zx
   rw [if_neg (by simp), Option.bind_some, if_pos (by simp)]
   simp [hc]
 have hPH : PH p l := ⟨hc, by omega, fun r hr => by have := hl2 r hr; omega⟩
 rw [zx2 φ (by omega) hPH x (by omega), Option.bind_some]
 by_cases hk : x.item.kind = 9
 case neg =>
  have hk' : ((x.item.kind : Int) != 9) = true := by simpa using hk
  unfold payA
  rw [hk']
  unfold zx
  rw [if_neg (by simp), Option.bind_some, if_pos (by simp), if_pos (by simp)]
  rfl
 have hk' : ((x.item.kind : Int) != 9) = false := by simpa using hk
 cases ho : zds p x.item with
 | false =>
  unfold payA
  rw [hk', zik rfl, z8b φ (by omega) hc (by omega), Option.bind_some, ho, if_pos (by simp), if_pos (by simp)]
  rfl
 | true =>
  have hpa : ∀ l', payA p l' x = payV p l' x := fun l' => by unfold payA; rw [hk', ho, if_neg (by simp)]
  rw [hk', zik rfl, z8b φ (by omega) hc (by omega), Option.bind_some, ho, if_neg (by simp), hpa,
   zw9 φ (by omega) hPH x z (znl hc (by omega) ho) hk (by omega)]
  unfold z0c
  rw [if_neg (by simp), zy4 φ (by omega) hc z x.item (by omega) (by omega), Option.bind_some]
  by_cases hn : ((recB p x.item z || ((z.item.kind : Int) == 3)) || ((z.item.kind : Int) == 4)) = true
  ·rw [if_pos hn]
  ·rw [if_neg hn]
   simp only [Bool.or_eq_true, beq_iff_eq, not_or] at hn
   have hPH' : PH p (l ++ [z]) := ⟨hc, by simp; omega, fun r hr => by
    rcases List.mem_append.1 hr with hr | hr
    ·have := hl2 r hr; omega
    ·simp only [List.mem_singleton] at hr; subst hr; omega⟩
   unfold z3h
   rw [z8 (znh (by simp; omega) (by omega)), z8 (znh (by simp; omega) (by omega)), List.nil_append, zx2 φ (by omega) hPH' x (by omega), Option.bind_some, y3m hn.1.2 hn.2 (by simpa using hn.1.1), hpa]
   unfold z1o
   simp
end Px
end
