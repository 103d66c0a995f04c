/- A part of the proof of sightMatches_holds. Conditions: none. -/
import Derived.Test.YtlejlmkoalncgaaGreatZme
section
namespace Px
open Go
set_option linter.unusedVariables false
set_option linter.unusedSimpArgs false
theorem ztd {n b : Nat} (h : n <= 100000) (hb : b <= 1000) : fits n b := by
 unfold fits
 have : n * b <= 100000 * 1000 := Nat.mul_le_mul h hb
 omega
abbrev Ln := List ((Nat -> Int) × Int)
abbrev keyP (a b : Int) : Nat -> Int := upd (upd (fun _ => (default : Int)) 0 a) 1 b
abbrev lget (m : Ln) (a b : Int) : Option Int := @mget _ _ ⟨beqA 2⟩ m (keyP a b)
abbrev lset (m : Ln) (a b i : Int) : Ln := @mset _ _ ⟨beqA 2⟩ m (keyP a b) i
theorem ya9 (f g : Nat -> Int) : beqA 2 f g = (f 0 == g 0 && f 1 == g 1) := by
 simp [beqA, List.range_succ]
theorem yda (a b : Int) : keyP a b 0 = a := rfl
theorem ydr (a b : Int) : keyP a b 1 = b := rfl
theorem zf3 (m : Ln) (a b i c d : Int) : lget (lset m a b i) c d = if c = a /\ d = b then some i else lget m c d := by
 induction m with
 | nil =>
  show (bif beqA 2 (keyP c d) (keyP a b) then some i else none) = _
  rw [ya9]
  simp only [yda, ydr]
  by_cases h : c = a /\ d = b
  ·rw [if_pos h]; simp [h]
  ·rw [if_neg h]
   have : (c == a && d == b) = false := by rw [<- Bool.not_eq_true]; simpa using h
   rw [this]; rfl
 | cons p m ih =>
  obtain ⟨k, v⟩ := p
  show lget (bif beqA 2 (keyP a b) k then (keyP a b, i) :: m else (k, v) :: lset m a b i) c d = _
  have e1 : lget ((k, v) :: m) c d = bif beqA 2 (keyP c d) k then some v else lget m c d := rfl
  cases h1 : beqA 2 (keyP a b) k with
  | true =>
   rw [ya9] at h1
   simp only [yda, ydr, Bool.and_eq_true, beq_iff_eq] at h1
   show (bif beqA 2 (keyP c d) (keyP a b) then some i else lget m c d) = _
   rw [e1, ya9, ya9]
   simp only [yda, ydr]
   by_cases h : c = a /\ d = b
   ·rw [if_pos h]; simp [h]
   ·rw [if_neg h]
    have h2 : (c == a && d == b) = false := by rw [<- Bool.not_eq_true]; simpa using h
    have h3 : (c == k 0 && d == k 1) = false := by rw [<- h1.1, <- h1.2]; exact h2
    rw [h2, h3]; rfl
  | false =>
   show (bif beqA 2 (keyP c d) k then some v else lget (lset m a b i) c d) = _
   rw [ih, e1]
   cases h2 : beqA 2 (keyP c d) k with
   | false => rfl
   | true =>
    by_cases h : c = a /\ d = b
    ·obtain ⟨rfl, rfl⟩ := h
     rw [h1] at h2; cases h2
    ·show some v = _
     rw [if_neg h]; rfl
theorem ybd {b : Bool} (h : ¬ (!b) = true) : b = true := by cases b <;> simp_all
def ent1 (es : List Edge) (i a b : Int) (s : List (List Int) × Ln) : List (List Int) × Ln :=
 (if (!(lget s.2 a b).isSome) = true then zu s.1 a (gt s.1 a ++ [b]) else s.1,
  if (!(lget s.2 a b).isSome || decide ((gt es i).minutes < (gt es ((lget s.2 a b).getD default)).minutes)) = true then lset s.2 a b i else s.2)
def entE (es : List Edge) (i : Int) (s : List (List Int) × Ln) : List (List Int) × Ln := ent1 es i (gt es i).b (gt es i).a (ent1 es i (gt es i).a (gt es i).b s)
structure GI (es : List Edge) (P k : Nat) (s : List (List Int) × Ln) : Prop where
 len : s.1.length = P
 near : ∀ a b : Int, 0 <= a -> a < (P : Int) -> (b ∈ gt s.1 a ↔ (lget s.2 a b).isSome = true)
 line : ∀ a b i : Int, lget s.2 a b = some i -> 0 <= i /\ i < (k : Int) /\ (((gt es i).a = a /\ (gt es i).b = b) \/ ((gt es i).a = b /\ (gt es i).b = a))
 size : ∀ a : Int, 0 <= a -> a < (P : Int) -> (gt s.1 a).length <= 2 * k
structure HI (es : List Edge) (P k : Nat) (s : List (List Int) × Ln) : Prop extends GI es P k s where
 sym : ∀ a b : Int, lget s.2 a b = lget s.2 b a
theorem yay (es : List Edge) (P : Nat) : HI es P 0 (List.replicate P (default : List Int), []) where
 len := by simp
 near := fun a b h0 h1 => by
  rw [z6g _ _ _ h0 (by omega)]
  show b ∈ ([] : List Int) ↔ _
  simp [lget, mget]
 line := fun a b i h => by simp [lget, mget] at h
 size := fun a h0 h1 => by rw [z6g _ _ _ h0 (by omega)]; simp; rfl
 sym := fun a b => rfl
theorem ydf {es : List Edge} {P k : Nat} {s : List (List Int) × Ln} (h : GI es P k s) {a b : Int} (ha : 0 <= a) (ha' : a < (P : Int)) (he : ((gt es (k : Int)).a = a /\ (gt es (k : Int)).b = b) \/ ((gt es (k : Int)).a = b /\ (gt es (k : Int)).b = a)) :
  (ent1 es k a b s).1.length = P /\ (∀ c d : Int, 0 <= c -> c < (P : Int) -> (d ∈ gt (ent1 es k a b s).1 c ↔ (lget (ent1 es k a b s).2 c d).isSome = true)) /\
  (∀ c d i : Int, lget (ent1 es k a b s).2 c d = some i -> 0 <= i /\ i < ((k + 1 : Nat) : Int) /\ (((gt es i).a = c /\ (gt es i).b = d) \/ ((gt es i).a = d /\ (gt es i).b = c))) /\
  (∀ c : Int, 0 <= c -> c < (P : Int) -> (gt (ent1 es k a b s).1 c).length <= (gt s.1 c).length + 1) /\
  (∀ c d : Int, ¬ (c = a /\ d = b) -> lget (ent1 es k a b s).2 c d = lget s.2 c d) /\
  lget (ent1 es k a b s).2 a b = (if (!(lget s.2 a b).isSome || decide ((gt es (k : Int)).minutes < (gt es ((lget s.2 a b).getD default)).minutes)) = true then some (k : Int) else lget s.2 a b) := by
 have hl2 : ∀ c d : Int, lget (ent1 es k a b s).2 c d = if (c = a /\ d = b) then (if (!(lget s.2 a b).isSome || decide ((gt es (k : Int)).minutes < (gt es ((lget s.2 a b).getD default)).minutes)) = true then some (k : Int) else lget s.2 a b) else lget s.2 c d := by
  intro c d
  unfold ent1
  simp only []
  split
  ·rw [zf3]
  ·split
   ·rename_i q; rw [q.1, q.2]
   ·rfl
 have hsm : (lget (ent1 es k a b s).2 a b).isSome = true := by
  rw [hl2, if_pos ⟨rfl, rfl⟩]
  split
  ·rfl
  ·rename_i q
   simp only [Bool.or_eq_true, not_or] at q
   exact ybd q.1
 refine ⟨?_, ?_, ?_, ?_, fun c d hcd => by rw [hl2, if_neg hcd], by rw [hl2, if_pos ⟨rfl, rfl⟩]⟩
 ·unfold ent1
  simp only []
  split
  ·rw [z0e]; exact h.len
  ·exact h.len
 ·intro c d hc hc'
  by_cases hcd : c = a /\ d = b
  ·obtain ⟨rfl, rfl⟩ := hcd
   rw [hsm]
   refine ⟨fun _ => rfl, fun _ => ?_⟩
   unfold ent1
   simp only []
   split
   ·rw [zt _ _ _ _ hc (by rw [h.len]; exact hc') hc, if_pos rfl]; simp
   ·rename_i q
    exact (h.near c d hc hc').2 (ybd q)
  ·rw [hl2, if_neg hcd, <- h.near c d hc hc']
   unfold ent1
   simp only []
   split
   ·rw [zt _ _ _ _ ha (by rw [h.len]; exact ha') hc]
    by_cases e : c = a
    ·subst e
     rw [if_pos rfl]
     simp only [List.mem_append, List.mem_singleton]
     exact ⟨fun q => q.resolve_right (fun e => hcd ⟨rfl, e⟩), .inl⟩
    ·rw [if_neg e]
   ·exact Iff.rfl
 ·intro c d i hi
  rw [hl2] at hi
  split at hi
  ·rename_i q
   obtain ⟨rfl, rfl⟩ := q
   split at hi
   ·have := Option.some.inj hi
    subst this
    exact ⟨by omega, by omega, he⟩
   ·obtain ⟨h1, h2, h3⟩ := h.line _ _ _ hi
    exact ⟨h1, by omega, h3⟩
  ·obtain ⟨h1, h2, h3⟩ := h.line _ _ _ hi
   exact ⟨h1, by omega, h3⟩
 ·intro c hc hc'
  unfold ent1
  simp only []
  split
  ·rw [zt _ _ _ _ ha (by rw [h.len]; exact ha') hc]
   split
   ·rename_i e; subst e; simp
   ·omega
  ·omega
theorem ye4 {es : List Edge} {P k : Nat} {s : List (List Int) × Ln} (h : HI es P k s) (ha : 0 <= (gt es (k : Int)).a) (ha' : (gt es (k : Int)).a < (P : Int)) (hb : 0 <= (gt es (k : Int)).b) (hb' : (gt es (k : Int)).b < (P : Int)) (hne : (gt es (k : Int)).a ≠ (gt es (k : Int)).b) :
  HI es P (k + 1) (entE es k s) := by
 obtain ⟨a1, a2, a3, a4, a5, a6⟩ := ydf h.toGI ha ha' (.inl ⟨rfl, rfl⟩)
 unfold entE
 generalize hs1 : ent1 es k (gt es (k : Int)).a (gt es (k : Int)).b s = s1 at *
 generalize (gt es (k : Int)).a = a at *
 generalize (gt es (k : Int)).b = b at *
 -- the second end, by the same law: only the zjp on the numbers has moved
 have hl2 : ∀ c d : Int, lget (ent1 es k b a s1).2 c d = if (c = b /\ d = a) then (if (!(lget s1.2 b a).isSome || decide ((gt es (k : Int)).minutes < (gt es ((lget s1.2 b a).getD default)).minutes)) = true then some (k : Int) else lget s1.2 b a) else lget s1.2 c d := by
  intro c d
  unfold ent1
  simp only []
  split
  ·rw [zf3]
  ·split
   ·rename_i q; rw [q.1, q.2]
   ·rfl
 have hba : lget s1.2 b a = lget s.2 a b := by rw [a5 b a (fun q => hne q.2), h.sym]
 have hsm : (lget (ent1 es k b a s1).2 b a).isSome = true := by
  rw [hl2, if_pos ⟨rfl, rfl⟩]
  split
  ·rfl
  ·rename_i q
   simp only [Bool.or_eq_true, not_or] at q
   exact ybd q.1
 have hlab : lget (ent1 es k b a s1).2 a b = lget s1.2 a b := by rw [hl2, if_neg (fun q => hne q.1)]
 have hlba : lget (ent1 es k b a s1).2 b a = lget s1.2 a b := by
  rw [hl2, if_pos ⟨rfl, rfl⟩, hba, a6]
 have hab : ((gt es (k : Int)).a = a /\ (gt es (k : Int)).b = b) \/ ((gt es (k : Int)).a = b /\ (gt es (k : Int)).b = a) -> True := fun _ => trivial
 refine ⟨⟨?_, ?_, ?_, ?_⟩, ?_⟩
 ·unfold ent1
  simp only []
  split
  ·rw [z0e]; exact a1
  ·exact a1
 ·intro c d hc hc'
  by_cases hcd : c = b /\ d = a
  ·obtain ⟨rfl, rfl⟩ := hcd
   rw [hsm]
   refine ⟨fun _ => rfl, fun _ => ?_⟩
   unfold ent1
   simp only []
   split
   ·rw [zt _ _ _ _ hc (by rw [a1]; exact hc') hc, if_pos rfl]; simp
   ·rename_i q
    exact (a2 c d hc hc').2 (ybd q)
  ·rw [hl2, if_neg hcd, <- a2 c d hc hc']
   unfold ent1
   simp only []
   split
   ·rw [zt _ _ _ _ hb (by rw [a1]; exact hb') hc]
    by_cases e : c = b
    ·subst e
     rw [if_pos rfl]
     simp only [List.mem_append, List.mem_singleton]
     exact ⟨fun q => q.resolve_right (fun e => hcd ⟨rfl, e⟩), .inl⟩
    ·rw [if_neg e]
   ·exact Iff.rfl
 ·intro c d i hi
  by_cases hcd : c = b /\ d = a
  ·obtain ⟨rfl, rfl⟩ := hcd
   rw [hlba] at hi
   obtain ⟨h1, h2, h3⟩ := a3 _ _ _ hi
   exact ⟨h1, h2, h3.elim .inr .inl⟩
  ·rw [hl2, if_neg hcd] at hi
   exact a3 _ _ _ hi
 ·intro c hc hc'
  have h1 := a4 c hc hc'
  have h0 := h.size c hc hc'
  have h2 : (gt (ent1 es k b a s1).1 c).length <= (gt s1.1 c).length + 1 := by
   unfold ent1
   simp only []
   split
   ·rw [zt _ _ _ _ hb (by rw [a1]; exact hb') hc]
    split
    ·rename_i e; subst e; simp
    ·omega
   ·omega
  omega
 ·intro c d
  by_cases h1 : c = b /\ d = a
  ·obtain ⟨rfl, rfl⟩ := h1
   rw [hlba, hlab]
  ·by_cases h2 : c = a /\ d = b
   ·obtain ⟨rfl, rfl⟩ := h2
    rw [hlab, hlba]
   ·rw [hl2, if_neg h1, hl2, if_neg (fun q => h2 ⟨q.2, q.1⟩), a5 c d h2, a5 d c (fun q => h1 ⟨q.2, q.1⟩), h.sym]
def z7f (es : List Edge) (P : Nat) : Nat -> List (List Int) × Ln
 | 0 => (List.replicate P default, [])
 | k + 1 => entE es k (z7f es P k)
structure z4n (x : z6) : Prop where
 places : x.places.length <= 512
 edges : x.edges.length <= 2048
 edge : ∀ i : Int, 0 <= i -> i < (x.edges.length : Int) -> zb1 x.places.length (gt x.edges i) = true
theorem zx2 {x : z6} (h : z49 x = 0) : z4n x := by
 obtain ⟨h1, h2, _, h4⟩ := zhw h
 exact ⟨h1, h2, fun i h0 hi => h4 _ (z4a h0 hi)⟩
theorem z4n.ends {x : z6} (h : z4n x) {i : Int} (h0 : 0 <= i) (hi : i < (x.edges.length : Int)) : 0 <= (gt x.edges i).a /\ (gt x.edges i).a < (x.places.length : Int) /\ 0 <= (gt x.edges i).b /\ (gt x.edges i).b < (x.places.length : Int) /\
  (gt x.edges i).a ≠ (gt x.edges i).b /\ 0 <= (gt x.edges i).railway /\ (gt x.edges i).railway <= 15 /\ 1 <= (gt x.edges i).minutes /\ (gt x.edges i).minutes <= 100000 /\ 0 <= (gt x.edges i).km /\ (gt x.edges i).km <= 10000 := by
 have := h.edge i h0 hi
 simp only [zb1, Bool.and_eq_true, zc4, bne_iff_ne, ne_eq] at this
 obtain ⟨⟨⟨⟨⟨q1, q2⟩, q3⟩, q4⟩, q5⟩, q6⟩ := this
 exact ⟨q1.1, by omega, q2.1, by omega, q3, q4.1, q4.2, q5.1, q5.2, q6.1, q6.2⟩
theorem z5z {x : z6} (h : z4n x) : ∀ k, k <= x.edges.length -> HI x.edges x.places.length k (z7f x.edges x.places.length k)
 | 0, _ => yay _ _
 | k + 1, hk => by
  obtain ⟨a1, a2, a3, a4, a5, _⟩ := h.ends (i := (k : Int)) (by omega) (by omega)
  exact ye4 (z5z h k (by omega)) a1 a2 a3 a4 a5
structure Gr (P : Nat) (near : List (List Int)) (wt : Int -> Int -> Int) : Prop where
 len : near.length = P
 small : P <= 512
 size : ∀ a : Int, 0 <= a -> a < (P : Int) -> (gt near a).length <= 5000
 rng : ∀ a b : Int, 0 <= a -> a < (P : Int) -> b ∈ gt near a -> 0 <= b /\ b < (P : Int)
 sym : ∀ a b : Int, 0 <= a -> a < (P : Int) -> b ∈ gt near a -> a ∈ gt near b /\ wt b a = wt a b
 wt : ∀ a b : Int, 0 <= a -> a < (P : Int) -> b ∈ gt near a -> 1 <= wt a b /\ wt a b <= 100000
def z1f (x : z6) : Ln := (z7f x.edges x.places.length x.edges.length).2
def wtN (x : z6) (a b : Int) : Int := (gt x.edges ((lget (z1f x) a b).getD default)).minutes
def z5f (x : z6) : List (List Int) := (z7f x.edges x.places.length x.edges.length).1
def zg (x : z6) : List (List Int) := (z5f x).map fun l => zb8 (fun a b => decide (a < b)) l
theorem zh9 {α β : Type} [Inhabited α] [Inhabited β] (f : α -> β) (l : List α) {i : Int} (h0 : 0 <= i) (h : i < (l.length : Int)) : gt (l.map f) i = f (gt l i) := by
 obtain ⟨n, rfl⟩ : ∃ n : Nat, i = (n : Int) := ⟨i.toNat, by omega⟩
 rw [z4x (by simp; omega), z4x (by omega)]
 simp
theorem zfj {x : z6} (h : z4n x) {a b : Int} (ha : 0 <= a) (ha' : a < (x.places.length : Int)) (hb : b ∈ gt (zg x) a) : ∃ i, lget (z1f x) a b = some i /\ 0 <= i /\ i < (x.edges.length : Int) /\ (((gt x.edges i).a = a /\ (gt x.edges i).b = b) \/ ((gt x.edges i).a = b /\ (gt x.edges i).b = a)) := by
 have H := z5z h x.edges.length (Nat.le_refl _)
 unfold zg at hb
 rw [zh9 _ _ ha (by show a < ((z5f x).length : Int); rw [show (z5f x).length = _ from H.len]; exact ha')] at hb
 have hb := (z1r _ _).mem_iff.1 hb
 have := (H.near a b ha ha').1 hb
 obtain ⟨i, hi⟩ := Option.isSome_iff_exists.1 this
 obtain ⟨h1, h2, h3⟩ := H.line _ _ _ hi
 exact ⟨i, hi, h1, h2, h3⟩
theorem grN {x : z6} (h : z4n x) : Gr x.places.length (zg x) (wtN x) := by
 have H := z5z h x.edges.length (Nat.le_refl _)
 have hlen : (zg x).length = x.places.length := by unfold zg; rw [List.length_map]; exact H.len
 have hl0 : (z5f x).length = x.places.length := H.len
 have hmem : ∀ a b : Int, 0 <= a -> a < (x.places.length : Int) -> (b ∈ gt (zg x) a ↔ (lget (z1f x) a b).isSome = true) := by
  intro a b ha ha'
  unfold zg
  rw [zh9 _ _ ha (by rw [hl0]; exact ha')]
  exact ((z1r _ _).mem_iff).trans (H.near a b ha ha')
 refine ⟨hlen, h.places, ?_, ?_, ?_, ?_⟩
 ·intro a ha ha'
  unfold zg
  rw [zh9 _ _ ha (by rw [hl0]; exact ha'), (z1r _ _).length_eq]
  have := H.size a ha ha'
  have := h.edges
  show (gt (z7f x.edges x.places.length x.edges.length).1 a).length <= _
  omega
 ·intro a b ha ha' hb
  obtain ⟨i, _, h1, h2, h3⟩ := zfj h ha ha' hb
  obtain ⟨e1, e2, e3, e4, _⟩ := h.ends h1 h2
  rcases h3 with ⟨rfl, rfl⟩ | ⟨rfl, rfl⟩
  ·exact ⟨e3, e4⟩
  ·exact ⟨e1, e2⟩
 ·intro a b ha ha' hb
  obtain ⟨i, hi, h1, h2, h3⟩ := zfj h ha ha' hb
  obtain ⟨e1, e2, e3, e4, _⟩ := h.ends h1 h2
  have hbr : 0 <= b /\ b < (x.places.length : Int) := by
   rcases h3 with ⟨rfl, rfl⟩ | ⟨rfl, rfl⟩
   ·exact ⟨e3, e4⟩
   ·exact ⟨e1, e2⟩
  have hs : lget (z1f x) b a = lget (z1f x) a b := H.sym b a
  refine ⟨(hmem b a hbr.1 hbr.2).2 (by rw [hs, hi]; rfl), ?_⟩
  unfold wtN
  rw [hs]
 ·intro a b ha ha' hb
  obtain ⟨i, hi, h1, h2, _⟩ := zfj h ha ha' hb
  obtain ⟨_, _, _, _, _, _, _, e1, e2, _⟩ := h.ends h1 h2
  unfold wtN
  rw [hi]
  exact ⟨e1, e2⟩
structure DI (P : Nat) (near : List (List Int)) (wt : Int -> Int -> Int) (s : Int) (k : Nat) (t : List Int) (d : List Bool) : Prop where
 lt : t.length = P
 ld : d.length = P
 src : gt t s = 0
 bd : ∀ i : Int, 0 <= i -> i < (P : Int) -> gt t i = -1 \/ (0 <= gt t i /\ gt t i <= 100000 * k)
 don : ∀ i : Int, 0 <= i -> i < (P : Int) -> gt d i = true -> 0 <= gt t i
 pre : ∀ a : Int, 0 <= a -> a < (P : Int) -> a ≠ s -> 0 <= gt t a -> ∃ q, 0 <= q /\ q < (P : Int) /\ gt d q = true /\ q ∈ gt near a /\ gt t a = gt t q + wt q a
 mon : ∀ q i : Int, 0 <= q -> q < (P : Int) -> 0 <= i -> i < (P : Int) -> gt d q = true -> gt d i = false -> 0 <= gt t i -> gt t q <= gt t i
 nbr : ∀ q i : Int, 0 <= q -> q < (P : Int) -> gt d q = true -> i ∈ gt near q -> 0 <= gt t i /\ gt t i <= gt t q + wt q i
 cnt : d.count true = k
structure RndI (P : Nat) (near : List (List Int)) (wt : Int -> Int -> Int) (s p : Int) (k : Nat) (t0 : List Int) (d : List Bool) (seen : List Int) (t : List Int) : Prop where
 lt : t.length = P
 own : gt t p = gt t0 p
 val : ∀ i : Int, 0 <= i -> i < (P : Int) -> gt t i = gt t0 i \/ (i ∈ seen /\ gt t i = gt t0 p + wt p i /\ (gt t0 i < 0 \/ gt t0 p + wt p i < gt t0 i))
 got : ∀ i ∈ seen, 0 <= i -> 0 <= gt t i /\ gt t i <= gt t p + wt p i
end Px
end
section
namespace Px
open Go
set_option linter.unusedVariables false
set_option linter.unusedSimpArgs false
section
variable {P : Nat} {near : List (List Int)} {wt : Int -> Int -> Int} {s : Int}
theorem zf7 {α : Type} [Inhabited α] (l : List α) {i : Int} (h0 : 0 <= i) (h : i < (l.length : Int)) : zu l i (gt l i) = l := by
 obtain ⟨n, rfl⟩ : ∃ n : Nat, i = (n : Int) := ⟨i.toNat, by omega⟩
 rw [z4x (by omega)]
 simp [zu]
theorem y6p {p : Int} {k : Nat} {t0 : List Int} {d : List Bool} (h : DI P near wt s k t0 d) : RndI P near wt s p k t0 d [] t0 :=
 ⟨h.lt, rfl, fun i _ _ => .inl rfl, fun i hi => by cases hi⟩
theorem yat (hG : Gr P near wt) {p : Int} (hp : 0 <= p) (hp' : p < (P : Int)) {k : Nat} {t0 : List Int} {d : List Bool} (hp0 : 0 <= gt t0 p) {seen t : List Int} (h : RndI P near wt s p k t0 d seen t) {q : Int} (hq : q ∈ gt near p) :
  RndI P near wt s p k t0 d (seen ++ [q]) (if (decide (gt t q < 0) || decide (gt t p + wt p q < gt t q)) = true then zu t q (gt t p + wt p q) else t) := by
 obtain ⟨q0, q1⟩ := hG.rng p q hp hp' hq
 obtain ⟨w0, w1⟩ := hG.wt p q hp hp' hq
 have hown := h.own
 by_cases c : gt t q < 0 \/ gt t p + wt p q < gt t q
 ·rw [if_pos (by simpa using c)]
  have hqp : q ≠ p := fun e => by subst e; omega
  refine ⟨by rw [z0e]; exact h.lt, ?_, fun i h0 h1 => ?_, fun i hi hneg => ?_⟩
  ·rw [zt _ _ _ _ q0 (by rw [h.lt]; exact q1) hp, if_neg (fun e => hqp e.symm)]; exact hown
  ·rw [zt _ _ _ _ q0 (by rw [h.lt]; exact q1) h0]
   by_cases e : i = q
   ·subst e
    rw [if_pos rfl]
    refine .inr ⟨by simp, by rw [hown], ?_⟩
    rcases h.val i h0 h1 with h2 | ⟨_, h2, _⟩
    ·rw [h2, hown] at c; exact c
    ·rw [h2, hown] at c; exfalso; omega
   ·rw [if_neg e]
    rcases h.val i h0 h1 with h2 | ⟨h2, h3, h4⟩
    ·exact .inl h2
    ·exact .inr ⟨List.mem_append_left _ h2, h3, h4⟩
  ·by_cases e : i = q
   ·subst e
    rw [zt _ _ _ _ q0 (by rw [h.lt]; exact q1) q0, if_pos rfl, zt _ _ _ _ q0 (by rw [h.lt]; exact q1) hp, if_neg (fun e => hqp e.symm)]
    omega
   ·have hi : i ∈ seen := by
     rcases List.mem_append.1 hi with hi | hi
     ·exact hi
     ·exact absurd (List.mem_singleton.1 hi) e
    rw [zt _ _ _ _ q0 (by rw [h.lt]; exact q1) hneg, if_neg e, zt _ _ _ _ q0 (by rw [h.lt]; exact q1) hp, if_neg (fun e => hqp e.symm)]
    exact h.got i hi hneg
 ·rw [if_neg (by simpa using c)]
  refine ⟨h.lt, hown, fun i h0 h1 => ?_, fun i hi hneg => ?_⟩
  ·rcases h.val i h0 h1 with h2 | ⟨h2, h3, h4⟩
   ·exact .inl h2
   ·exact .inr ⟨List.mem_append_left _ h2, h3, h4⟩
  ·rcases List.mem_append.1 hi with hi | hi
   ·exact h.got i hi hneg
   ·rw [List.mem_singleton.1 hi]; omega
theorem y0y {d : List Bool} {p : Int} (hp : 0 <= p) (hp' : p < (d.length : Int)) (h : gt d p = false) : (zu d p true).count true = d.count true + 1 := by
 obtain ⟨n, rfl⟩ : ∃ n : Nat, p = (n : Int) := ⟨p.toNat, by omega⟩
 have hn : n < d.length := by omega
 rw [z4x hn] at h
 unfold zu
 rw [Int.toNat_natCast, List.count_set hn, h]
 simp
theorem y2d (hG : Gr P near wt) {p : Int} (hp : 0 <= p) (hp' : p < (P : Int)) {k : Nat} {t0 : List Int} {d : List Bool} (h : DI P near wt s k t0 d) (hs : 0 <= s) (hs' : s < (P : Int)) (hp0 : 0 <= gt t0 p) (hd : gt d p = false)
  (hmin : ∀ i : Int, 0 <= i -> i < (P : Int) -> 0 <= gt t0 i -> gt d i = false -> gt t0 p <= gt t0 i) {t : List Int} (hr : RndI P near wt s p k t0 d (gt near p) t) : DI P near wt s (k + 1) t (zu d p true) := by
 have hds : ∀ i : Int, 0 <= i -> gt (zu d p true) i = if i = p then true else gt d i := fun i hi => zt _ _ _ _ hp (by rw [h.ld]; exact hp') hi
 have hw : ∀ i, i ∈ gt near p -> 1 <= wt p i /\ wt p i <= 100000 := fun i hi => hG.wt p i hp hp' hi
 -- what is done stays
 have hdone : ∀ i : Int, 0 <= i -> i < (P : Int) -> gt d i = true -> gt t i = gt t0 i := by
  intro i h0 h1 hdi
  rcases hr.val i h0 h1 with h2 | ⟨h2, h3, h4⟩
  ·exact h2
  ·have := hw i h2
   have := h.don i h0 h1 hdi
   have := h.mon i p h0 h1 hp hp' hdi hd hp0
   omega
 have hbdp := (h.bd p hp hp').resolve_left (by omega)
 refine ⟨hr.lt, by rw [z0e]; exact h.ld, ?_, fun i h0 h1 => ?_, fun i h0 h1 hdi => ?_, fun a h0 h1 has hta => ?_, fun q i q0 q1 h0 h1 hdq hdi hti => ?_, fun q i q0 q1 hdq hin => ?_, ?_⟩
 ·rcases hr.val s hs hs' with h2 | ⟨h2, h3, h4⟩
  ·rw [h2, h.src]
  ·have := hw s h2
   have := h.src
   omega
 ·rcases hr.val i h0 h1 with h2 | ⟨h2, h3, h4⟩
  ·rw [h2]
   rcases h.bd i h0 h1 with h5 | h5
   ·exact .inl h5
   ·right; omega
  ·have := hw i h2
   right; omega
 ·rw [hds i h0] at hdi
  by_cases e : i = p
  ·subst e; rw [hr.own]; exact hp0
  ·rw [if_neg e] at hdi
   rw [hdone i h0 h1 hdi]; exact h.don i h0 h1 hdi
 ·rcases hr.val a h0 h1 with h2 | ⟨h2, h3, h4⟩
  ·rw [h2] at hta ⊢
   obtain ⟨q, q0, q1, hdq, hqn, he⟩ := h.pre a h0 h1 has hta
   refine ⟨q, q0, q1, ?_, hqn, by rw [hdone q q0 q1 hdq]; exact he⟩
   rw [hds q q0]; split
   ·rfl
   ·exact hdq
  ·obtain ⟨hsy, hwt⟩ := hG.sym p a hp hp' h2
   exact ⟨p, hp, hp', by rw [hds p hp, if_pos rfl], hsy, by rw [hr.own, h3]⟩
 ·rw [hds q q0] at hdq
  rw [hds i h0] at hdi
  have hip : i ≠ p := fun e => by rw [if_pos e] at hdi; cases hdi
  rw [if_neg hip] at hdi
  have hge : gt t0 p <= gt t i := by
   rcases hr.val i h0 h1 with h2 | ⟨h2, h3, h4⟩
   ·rw [h2] at hti ⊢; exact hmin i h0 h1 hti hdi
   ·have := hw i h2; omega
  by_cases e : q = p
  ·subst e; rw [hr.own]; exact hge
  ·rw [if_neg e] at hdq
   have := h.mon q p q0 q1 hp hp' hdq hd hp0
   rw [hdone q q0 q1 hdq]; omega
 ·rw [hds q q0] at hdq
  by_cases e : q = p
  ·subst e; exact hr.got i hin (hG.rng q i hp hp' hin).1
  ·rw [if_neg e] at hdq
   obtain ⟨i0, i1⟩ := hG.rng q i q0 q1 hin
   have := h.nbr q i q0 q1 hdq hin
   rw [hdone q q0 q1 hdq]
   rcases hr.val i i0 i1 with h2 | ⟨h2, h3, h4⟩
   ·rw [h2]; exact this
   ·have := hw i h2; omega
 ·rw [y0y hp (by rw [h.ld]; exact hp') hd, h.cnt]
structure DF (P : Nat) (near : List (List Int)) (wt : Int -> Int -> Int) (s : Int) (t : List Int) : Prop where
 lt : t.length = P
 src : gt t s = 0
 bd : ∀ i : Int, 0 <= i -> i < (P : Int) -> gt t i = -1 \/ (0 <= gt t i /\ gt t i <= 51200000)
 pre : ∀ a : Int, 0 <= a -> a < (P : Int) -> a ≠ s -> 0 <= gt t a -> ∃ q, 0 <= q /\ q < (P : Int) /\ q ∈ gt near a /\ 0 <= gt t q /\ gt t a = gt t q + wt q a
 nbr : ∀ q i : Int, 0 <= q -> q < (P : Int) -> 0 <= gt t q -> i ∈ gt near q -> 0 <= gt t i /\ gt t i <= gt t q + wt q i
theorem yg6 (hG : Gr P near wt) {k : Nat} {t : List Int} {d : List Bool} (h : DI P near wt s k t d) (hall : ∀ i : Int, 0 <= i -> i < (P : Int) -> 0 <= gt t i -> gt d i = true) : DF P near wt s t := by
 have hk : k <= P := by rw [<- h.cnt, <- h.ld]; exact List.count_le_length
 have := hG.small
 refine ⟨h.lt, h.src, fun i h0 h1 => ?_, fun a h0 h1 ha hta => ?_, fun q i q0 q1 hq hi => h.nbr q i q0 q1 (hall q q0 q1 hq) hi⟩
 ·rcases h.bd i h0 h1 with h2 | h2
  ·exact .inl h2
  ·right; omega
 ·obtain ⟨q, q0, q1, hdq, hqn, he⟩ := h.pre a h0 h1 ha hta
  exact ⟨q, q0, q1, hqn, h.don q q0 q1 hdq, he⟩
theorem y2t (hs : 0 <= s) (hs' : s < (P : Int)) (t : List Int) (ht : t.length = P) (hall : ∀ i : Int, 0 <= i -> i < (P : Int) -> gt t i = if i = s then 0 else -1) : DI P near wt s 0 t (List.replicate P (default : Bool)) := by
 have hd : ∀ i : Int, 0 <= i -> i < (P : Int) -> gt (List.replicate P (default : Bool)) i = false := fun i h0 h1 => by rw [z6g _ _ _ h0 (by omega)]; rfl
 refine ⟨ht, by simp, by rw [hall s hs hs', if_pos rfl], fun i h0 h1 => ?_, fun i h0 h1 h => ?_, fun a h0 h1 ha hta => ?_, fun q i q0 q1 h0 h1 hdq => ?_, fun q i q0 q1 hdq => ?_, ?_⟩
 ·rw [hall i h0 h1]; split <;> omega
 ·rw [hd i h0 h1] at h; cases h
 ·rw [hall a h0 h1, if_neg ha] at hta; omega
 ·rw [hd q q0 q1] at hdq; cases hdq
 ·rw [hd q q0 q1] at hdq; cases hdq
 ·simp [List.count_replicate]
end
section walk
variable {ρ : Type} {P : Nat} {near : List (List Int)} {wt : Int -> Int -> Int} {s : Int}
theorem yc8 (hP : P <= 512) (A : Nat -> Int -> Int -> Option ρ) (fin : Int -> Option ρ) (t : List Int) (d : List Bool) (ht : t.length = P) (hd : d.length = P)
  (stp : ∀ n p i, A (n + 1) p i = (if (decide ((i : Int) < (P : Int))) = true then (ck ((0 : Int) <= i /\ i < (t.length : Int)) (ck (((decide ((0 : Int) <= (gt t i))) = true) -> (0 : Int) <= i /\ i < (d.length : Int)) (ck ((((decide ((0 : Int) <= (gt t i))) && (!(gt d i))) = true /\ (decide ((p : Int) < 0)) = false) -> (0 : Int) <= i /\ i < (t.length : Int)) (ck ((((decide ((0 : Int) <= (gt t i))) && (!(gt d i))) = true /\ (decide ((p : Int) < 0)) = false) -> (0 : Int) <= p /\ p < (t.length : Int)) (if (((decide ((0 : Int) <= (gt t i))) && (!(gt d i))) && ((decide ((p : Int) < 0)) || (decide (((gt t i) : Int) < (gt t p))))) = true then (A n i (W (i + 1))) else (A n p (W (i + 1)))))))) else fin p)) (n : Nat) (hn : P < n) :
  ∃ p, A n (-1) 0 = fin p /\ ((p = -1 /\ ∀ i : Int, 0 <= i -> i < (P : Int) -> 0 <= gt t i -> gt d i = true) \/ (0 <= p /\ p < (P : Int) /\ 0 <= gt t p /\ gt d p = false /\ ∀ i : Int, 0 <= i -> i < (P : Int) -> 0 <= gt t i -> gt d i = false -> gt t p <= gt t i)) := by
 refine zh (fun n i (p : Int) => A n p i) P (fun i p => (p = -1 /\ ∀ j : Int, 0 <= j -> j < (i : Int) -> 0 <= gt t j -> gt d j = true) \/ (0 <= p /\ p < (i : Int) /\ 0 <= gt t p /\ gt d p = false /\ ∀ j : Int, 0 <= j -> j < (i : Int) -> 0 <= gt t j -> gt d j = false -> gt t p <= gt t j))
  (fun o => ∃ p, o = fin p /\ ((p = -1 /\ ∀ i : Int, 0 <= i -> i < (P : Int) -> 0 <= gt t i -> gt d i = true) \/ (0 <= p /\ p < (P : Int) /\ 0 <= gt t p /\ gt d p = false /\ ∀ i : Int, 0 <= i -> i < (P : Int) -> 0 <= gt t i -> gt d i = false -> gt t p <= gt t i))) ?_ ?_ n (-1) (.inl ⟨rfl, fun j h0 h1 => by omega⟩) hn
 ·intro n i p hi hI hs
  rw [stp, if_pos (by simp; omega), z2 ⟨by omega, by omega⟩, z2 (fun _ => ⟨by omega, by omega⟩), z2 (fun _ => ⟨by omega, by omega⟩), W_id (by omega) (by omega)]
  have hpr : (decide ((p : Int) < 0)) = false -> (0 : Int) <= p /\ p < (t.length : Int) := by
   intro h
   simp only [decide_eq_false_iff_not] at h
   rcases hI with ⟨rfl, _⟩ | ⟨h1, h2, _⟩
   ·omega
   ·exact ⟨h1, by omega⟩
  rw [z2 (fun h => hpr h.2)]
  have split_j : ∀ j : Int, j < ((i + 1 : Nat) : Int) -> j < (i : Int) \/ j = (i : Int) := fun j h => by omega
  by_cases c : (0 <= gt t (i : Int) /\ gt d (i : Int) = false) /\ (p < 0 \/ gt t (i : Int) < gt t p)
  ·rw [if_pos (by simpa using c)]
   refine hs _ (.inr ⟨by omega, by omega, c.1.1, c.1.2, fun j h0 h1 htj hdj => ?_⟩)
   rcases split_j j h1 with h2 | rfl
   ·rcases hI with ⟨_, h3⟩ | ⟨q0, _, _, _, h3⟩
    ·have := h3 j h0 h2 htj; rw [hdj] at this; cases this
    ·have := h3 j h0 h2 htj hdj
     have := c.2.resolve_left (by omega)
     omega
   ·exact Int.le_refl _
  ·rw [if_neg (by simpa using c)]
   refine hs p ?_
   rcases hI with ⟨rfl, h3⟩ | ⟨q0, q1, q2, q3, h3⟩
   ·refine .inl ⟨rfl, fun j h0 h1 htj => ?_⟩
    rcases split_j j h1 with h2 | rfl
    ·exact h3 j h0 h2 htj
    ·cases hdi : gt d (i : Int) with
     | true => rfl
     | false => exact absurd ⟨⟨htj, hdi⟩, .inl (by omega)⟩ c
   ·refine .inr ⟨q0, by omega, q2, q3, fun j h0 h1 htj hdj => ?_⟩
    rcases split_j j h1 with h2 | rfl
    ·exact h3 j h0 h2 htj hdj
    ·rcases Int.lt_or_le (gt t (i : Int)) (gt t p) with h4 | h4
     ·exact absurd ⟨⟨htj, hdj⟩, .inr h4⟩ c
     ·exact h4
 ·intro n p hI
  rw [stp, if_neg (by simp)]
  exact ⟨p, rfl, hI⟩
theorem yc9 (hG : Gr P near wt) {p : Int} (hp : 0 <= p) (hp' : p < (P : Int)) {k : Nat} (hk : k <= 512) {t0 : List Int} {d : List Bool} (hD : DI P near wt s k t0 d) (hp0 : 0 <= gt t0 p) (B : Nat -> Int -> List Int -> Option ρ) (K : List Int -> Option ρ) (nb : List Int) (hnb : nb = gt near p) (E : Nat) (lg : Int -> Int) (mins : Int -> Int)
  (hlg : ∀ q ∈ nb, 0 <= lg q /\ lg q < (E : Int) /\ mins (lg q) = wt p q)
  (stp : ∀ n i t, B (n + 1) i t = (if (decide ((i : Int) < (nb.length : Int))) = true then (ck ((0 : Int) <= i /\ i < (nb.length : Int)) (ck ((0 : Int) <= p /\ p < (t.length : Int)) (ck ((0 : Int) <= lg (gt nb i) /\ lg (gt nb i) < (E : Int)) (ck ((0 : Int) <= (gt nb i) /\ (gt nb i) < (t.length : Int)) (ck (((decide (((gt t (gt nb i)) : Int) < 0)) = false) -> (0 : Int) <= (gt nb i) /\ (gt nb i) < (t.length : Int)) (if ((decide (((gt t (gt nb i)) : Int) < 0)) || (decide (((W ((gt t p) + mins (lg (gt nb i)))) : Int) < (gt t (gt nb i))))) = true then (ck ((0 : Int) <= (gt nb i) /\ (gt nb i) < (t.length : Int)) (B n (W (i + 1)) (zu t (gt nb i) (W ((gt t p) + mins (lg (gt nb i))))))) else (B n (W (i + 1)) t))))))) else K t)) (n : Nat) (hn : nb.length < n) :
  ∃ t, B n 0 t0 = K t /\ RndI P near wt s p k t0 d nb t := by
 have hsz : nb.length <= 5000 := by rw [hnb]; exact hG.size p hp hp'
 have hbp := (hD.bd p hp hp').resolve_left (by omega)
 refine zh (fun n i t => B n i t) nb.length (fun i t => RndI P near wt s p k t0 d (nb.take i) t) (fun o => ∃ t, o = K t /\ RndI P near wt s p k t0 d nb t) ?_ ?_ n t0 (y6p hD) hn
 ·intro n i t hi hI hs
  have hm : gt nb (i : Int) ∈ gt near p := by rw [<- hnb]; exact z4a (by omega) (by omega)
  obtain ⟨q0, q1⟩ := hG.rng p _ hp hp' hm
  obtain ⟨w0, w1⟩ := hG.wt p _ hp hp' hm
  obtain ⟨l0, l1, l2⟩ := hlg (gt nb (i : Int)) (by rw [hnb]; rw [hnb] at hm; exact hm)
  have hlt := hI.lt
  have hst := yat hG hp hp' hp0 hI hm
  rw [<- z0s nb i hi] at hst
  have hr := hs _ hst
  have hown := hI.own
  rw [stp, if_pos (by simp; omega), z2 ⟨by omega, by omega⟩, z2 ⟨by omega, by omega⟩, z2 ⟨l0, l1⟩, z2 ⟨by omega, by omega⟩, z2 (fun _ => ⟨by omega, by omega⟩), l2, W_id (x := gt t p + _) (by omega) (by omega), W_id (by omega) (by omega)]
  generalize gt nb (i : Int) = q at *
  by_cases c : (decide (gt t q < 0) || decide (gt t p + wt p q < gt t q)) = true
  ·rw [if_pos c] at hr ⊢
   rw [z2 ⟨by omega, by omega⟩]
   exact hr
  ·rw [if_neg c] at hr ⊢
   exact hr
 ·intro n t hI
  rw [stp, if_neg (by simp)]
  rw [List.take_length] at hI
  exact ⟨t, rfl, hI⟩
theorem y3j (hG : Gr P near wt) (hs : 0 <= s) (hs' : s < (P : Int)) (M : Nat -> List Int -> List Bool -> Option ρ) (fin : List Int -> Option ρ) (φ : Nat)
  (rnd : ∀ n k t d, k <= 512 -> DI P near wt s k t d -> (∃ t', DF P near wt s t' /\ M (n + 1) t d = fin t') \/ (∃ t' p, 0 <= p /\ p < (P : Int) /\ DI P near wt s (k + 1) t' (zu d p true) /\ M (n + 1) t d = M n t' (zu d p true))) :
  ∀ n k t d, DI P near wt s k t d -> P < n + k -> ∃ t', DF P near wt s t' /\ M n t d = fin t' := by
 intro n
 induction n with
 | zero =>
  intro k t d h hn
  have hk : k <= P := by rw [<- h.cnt, <- h.ld]; exact List.count_le_length
  omega
 | succ n ih =>
  intro k t d h hn
  have hk : k <= P := by rw [<- h.cnt, <- h.ld]; exact List.count_le_length
  have := hG.small
  rcases rnd n k t d (by omega) h with h1 | ⟨t', p, _, _, h2, h3⟩
  ·exact h1
  ·rw [h3]
   exact ih (k + 1) t' _ h2 (by omega)
end walk
end Px
end
section
namespace Px
open Go
set_option linter.unusedVariables false
set_option linter.unusedSimpArgs false
section zf
variable (φ : Nat) (K : List Edge -> Int -> Int -> Int -> Int -> z6 -> z6 -> List (List Int) -> Ln -> Option (Int × Int × Unit)) (x : z6) (a0 b0 : Int)
theorem z8u {i : Nat} (hi : i < x.edges.length) {P : Nat} {near : List (List Int)} {line : Ln} {a b : Int} (hl : near.length = P) (ha : 0 <= a) (ha' : a < (P : Int)) (hsz : (gt near a).length <= 10000) (hx : x.edges.length <= 2048) (hold : ∀ o, lget line a b = some o -> 0 <= o /\ o < (x.edges.length : Int)) :
  (if (!(lget line a b).isSome) = true then (ck ((0 : Int) <= a /\ a < (near.length : Int)) (ck ((0 : Int) <= a /\ a < (near.length : Int)) (ck ((a : Int) = a) (ck (fits ((gt near a).length + ([b]).length) 8) (ck ((0 : Int) <= a /\ a < (near.length : Int)) (ck ((a : Int) = a) (z31 φ K i ((lget line a b).getD default) ((lget line a b).isSome) x.edges (x.edges.length : Int) i a0 b0 x (keyP a b) x (zu near a (gt near a ++ [b])) line))))))) else (z31 φ K i ((lget line a b).getD default) ((lget line a b).isSome) x.edges (x.edges.length : Int) i a0 b0 x (keyP a b) x near line)) =
  K x.edges (x.edges.length : Int) ((i : Int) + 1) a0 b0 x x (ent1 x.edges i a b (near, line)).1 (ent1 x.edges i a b (near, line)).2 := by
 have hW : W ((i : Int) + 1) = (i : Int) + 1 := W_id (by omega) (by omega)
 unfold z31 ent1
 simp only []
 cases h : lget line a b with
 | none =>
  simp only [Option.isSome_none, Bool.not_false, if_true, Option.getD_none, Bool.true_or]
  rw [z2 ⟨ha, by omega⟩, z2 ⟨ha, by omega⟩, z2 trivial, z2 (ztd (by simp; omega) (by omega)), z2 ⟨ha, by omega⟩, z2 trivial, z2 (by simp), z2 (by simp), hW]
 | some o =>
  have ho := hold o h
  simp only [Option.isSome_some, Bool.not_true, Bool.false_eq_true, if_false, Option.getD_some, Bool.false_or]
  rw [z2 (fun _ => ⟨by omega, by omega⟩), z2 (fun _ => ho), hW]
  by_cases c : decide ((gt x.edges (i : Int)).minutes < (gt x.edges o).minutes) = true
  ·rw [if_pos c, if_pos c]
  ·rw [if_neg c, if_neg c]
theorem zhe {i : Nat} (hi : i < x.edges.length) {P : Nat} {near : List (List Int)} {line : Ln} {a b : Int} (hl : near.length = P) (ha : 0 <= a) (ha' : a < (P : Int)) (hsz : (gt near a).length <= 10000) (hx : x.edges.length <= 2048) (hold : ∀ o, lget line a b = some o -> 0 <= o /\ o < (x.edges.length : Int)) :
  (if (!(lget line a b).isSome) = true then (ck ((0 : Int) <= a /\ a < (near.length : Int)) (ck ((0 : Int) <= a /\ a < (near.length : Int)) (ck ((a : Int) = a) (ck (fits ((gt near a).length + ([b]).length) 8) (ck ((0 : Int) <= a /\ a < (near.length : Int)) (ck ((a : Int) = a) (z36 φ K i ((lget line a b).getD default) ((lget line a b).isSome) x.edges (x.edges.length : Int) i a0 b0 x (keyP a b) x (zu near a (gt near a ++ [b])) line))))))) else (z36 φ K i ((lget line a b).getD default) ((lget line a b).isSome) x.edges (x.edges.length : Int) i a0 b0 x (keyP a b) x near line)) =
  K x.edges (x.edges.length : Int) ((i : Int) + 1) a0 b0 x x (ent1 x.edges i a b (near, line)).1 (ent1 x.edges i a b (near, line)).2 := z8u φ K x a0 b0 hi hl ha ha' hsz hx hold
theorem z8s (hx : z4n x) {i : Nat} (hi : i < x.edges.length) {near near1 : List (List Int)} {line : Ln} (old : Int) (sm : Bool) (hl : near1.length = x.places.length) (ho : sm = true -> 0 <= old /\ old < (x.edges.length : Int))
  (hsz : (gt near1 (gt x.edges (i : Int)).b).length <= 10000) (hline : ∀ a b o, lget line a b = some o -> 0 <= o /\ o < (x.edges.length : Int)) (line1 : Ln) (h1 : line1 = if (!sm || decide ((gt x.edges (i : Int)).minutes < (gt x.edges old).minutes)) = true then lset line (gt x.edges (i : Int)).a (gt x.edges (i : Int)).b i else line) :
  z33 φ K i old sm i x.edges (x.edges.length : Int) i a0 b0 x (keyP (gt x.edges (i : Int)).a (gt x.edges (i : Int)).b) (gt x.edges (i : Int)) x near1 line =
  K x.edges (x.edges.length : Int) ((i : Int) + 1) a0 b0 x x (ent1 x.edges i (gt x.edges (i : Int)).b (gt x.edges (i : Int)).a (near1, line1)).1 (ent1 x.edges i (gt x.edges (i : Int)).b (gt x.edges (i : Int)).a (near1, line1)).2 := by
 obtain ⟨e1, e2, e3, e4, e5, _⟩ := hx.ends (i := (i : Int)) (by omega) (by omega)
 unfold z33
 rw [z2 (fun _ => ⟨by omega, by omega⟩), z2 (fun h => ho (by simpa using h))]
 by_cases c : (!sm || decide ((gt x.edges (i : Int)).minutes < (gt x.edges old).minutes)) = true
 ·rw [if_pos c] at h1 ⊢
  subst h1
  refine z8u φ K x a0 b0 hi hl e3 e4 hsz hx.edges fun o h => ?_
  rw [zf3, if_neg (fun q => e5 q.1.symm)] at h
  exact hline _ _ o h
 ·rw [if_neg c] at h1 ⊢
  subst h1
  exact zhe φ K x a0 b0 hi hl e3 e4 hsz hx.edges fun o h => hline _ _ o h
end zf
section zf
variable (φ : Nat) (x : z6) (a0 b0 : Int)
theorem zjj (hx : z4n x) (n : Nat) {i : Nat} (hi : i < x.edges.length) {s : List (List Int) × Ln} (h : HI x.edges x.places.length i s) :
  zq φ (n + 1) x.edges (x.edges.length : Int) i a0 b0 x x s.1 s.2 = zq φ n x.edges (x.edges.length : Int) ((i : Int) + 1) a0 b0 x x (entE x.edges i s).1 (entE x.edges i s).2 := by
 obtain ⟨e1, e2, e3, e4, e5, _⟩ := hx.ends (i := (i : Int)) (by omega) (by omega)
 have hE := hx.edges
 have hline : ∀ a b o, lget s.2 a b = some o -> 0 <= o /\ o < (x.edges.length : Int) := fun a b o ho => by
  obtain ⟨h1, h2, _⟩ := h.line _ _ _ ho
  exact ⟨h1, by omega⟩
 have hsa := h.size _ e1 e2
 have hsb := h.size _ e3 e4
 have hlen := h.len
 rw [zq, if_pos (by simp; omega), z2 ⟨by omega, by omega⟩]
 unfold entE
 generalize hs1 : ent1 x.edges i (gt x.edges (i : Int)).a (gt x.edges (i : Int)).b s = s1
 have hs1' := hs1
 unfold ent1 at hs1'
 cases hg : lget s.2 (gt x.edges (i : Int)).a (gt x.edges (i : Int)).b with
 | none =>
  have hg' : @mget (Nat -> Int) Int ⟨beqA 2⟩ s.2 (upd (upd (fun _ => (default : Int)) 0 (gt x.edges (i : Int)).a) 1 (gt x.edges (i : Int)).b) = none := hg
  rw [hg] at hs1'
  simp only [Option.isSome_none, Bool.not_false, if_true, Option.getD_none, Bool.true_or] at hs1'
  rw [hg']
  simp only [Option.isSome_none, Bool.not_false, if_true, Option.getD_none]
  rw [z2 ⟨e1, by omega⟩, z2 ⟨e1, by omega⟩, z2 trivial, z2 (ztd (by simp; omega) (by omega)), z2 ⟨e1, by omega⟩, z2 trivial, <- hs1']
  refine z8s φ (zq φ n) x a0 b0 hx hi (near := s.1) _ _ (by rw [z0e]; exact hlen) (fun h => by cases h) ?_ hline _ (by simp)
  rw [zt _ _ _ _ e1 (by omega) e3, if_neg (fun q => e5 q.symm)]
  omega
 | some o =>
  have hg' : @mget (Nat -> Int) Int ⟨beqA 2⟩ s.2 (upd (upd (fun _ => (default : Int)) 0 (gt x.edges (i : Int)).a) 1 (gt x.edges (i : Int)).b) = some o := hg
  rw [hg] at hs1'
  simp only [Option.isSome_some, Bool.not_true, Bool.false_eq_true, if_false, Option.getD_some, Bool.false_or] at hs1'
  rw [hg']
  simp only [Option.isSome_some, Bool.not_true, Bool.false_eq_true, if_false, Option.getD_some]
  rw [<- hs1']
  exact z8s φ (zq φ n) x a0 b0 hx hi (near := s.1) _ _ hlen (fun _ => hline _ _ _ hg) (by omega) hline _ (by simp)
theorem zji (hx : z4n x) (hφ : 5000 < φ) (line : Ln) : z19 φ φ ((z5f x).length : Int) 0 a0 b0 (z5f x) x line = (ck (z3d (x.places.length : Int) 8) (ck (z3d (((List.replicate ((x.places.length : Int) : Int).toNat (default : Int)).length : Int)) 1) (z05 φ φ a0 (((List.replicate ((x.places.length : Int) : Int).toNat (default : Int)).length : Int)) 0 b0 x (List.replicate ((x.places.length : Int) : Int).toNat (default : Int)) ((List.replicate (((List.replicate ((x.places.length : Int) : Int).toNat (default : Int)).length : Int) : Int).toNat (default : Bool))) (zg x) line))) := by
 have hl0 : (z5f x).length = x.places.length := (z5z hx x.edges.length (Nat.le_refl _)).len
 have hP := hx.places
 have hE := hx.edges
 obtain ⟨n0, hn0⟩ : ∃ n0, n0 = x.places.length := ⟨_, rfl⟩
 rw [<- hn0] at hl0 hP
 rw [hl0]
 have hfin : ∀ o : List (List Int), o.length = n0 -> (∀ w : Nat, w < n0 -> gt o (w : Int) = zb8 (fun a b => decide (a < b)) (gt (z5f x) (w : Int))) -> o = zg x := by
  intro o ho hw
  unfold zg
  refine List.ext_getElem (by simp [ho, hl0]) fun i h1 h2 => ?_
  have := hw i (by omega)
  rw [z4x h1, z4x (by omega)] at this
  simpa using this
 refine zh (fun n i o => z19 φ n (n0 : Int) i a0 b0 o x line) n0 (fun i o => o.length = n0 /\ ∀ w : Nat, w < n0 -> gt o (w : Int) = if w < i then zb8 (fun a b => decide (a < b)) (gt (z5f x) (w : Int)) else gt (z5f x) (w : Int)) (fun o => o = (ck (z3d (x.places.length : Int) 8) (ck (z3d (((List.replicate ((x.places.length : Int) : Int).toNat (default : Int)).length : Int)) 1) (z05 φ φ a0 (((List.replicate ((x.places.length : Int) : Int).toNat (default : Int)).length : Int)) 0 b0 x (List.replicate ((x.places.length : Int) : Int).toNat (default : Int)) ((List.replicate (((List.replicate ((x.places.length : Int) : Int).toNat (default : Int)).length : Int) : Int).toNat (default : Bool))) (zg x) line)))) ?_ ?_ φ (z5f x) ⟨hl0, fun w hw => by rw [if_neg (by omega)]⟩ (by omega)
 ·intro n i o hi ⟨ho1, ho2⟩ hs
  have hsz := (z5z hx x.edges.length (Nat.le_refl _)).size (i : Int) (by omega) (by omega)
  have hsz : (gt (z5f x) (i : Int)).length <= 2 * x.edges.length := hsz
  have hso : zeo (gt (z5f x) (i : Int)) = some (zb8 (fun a b => decide (a < b)) (gt (z5f x) (i : Int))) := by
   unfold zeo zj2; rw [if_pos (by omega)]
  rw [z19, if_pos (by simp; omega), z2 ⟨by omega, by omega⟩, z2 ⟨by omega, by omega⟩, z2 rfl, ho2 i hi, if_neg (by omega), hso, Option.bind_some, W_id (by omega) (by omega)]
  refine hs _ ⟨by rw [z0e]; exact ho1, fun w hw => ?_⟩
  rw [zt _ _ _ _ (by omega) (by omega) (by omega)]
  by_cases e : w = i
  ·subst e; rw [if_pos rfl, if_pos (by omega)]
  ·rw [if_neg (by omega), ho2 w hw]
   by_cases h2 : w < i
   ·rw [if_pos h2, if_pos (by omega)]
   ·rw [if_neg h2, if_neg (by omega)]
 ·intro n o ⟨ho1, ho2⟩
  have := hfin o ho1 fun w hw => by rw [ho2 w hw, if_pos hw]
  subst this
  rw [z19, if_neg (by simp)]
theorem za8 (hx : z4n x) (hφ : 5000 < φ) : zq φ φ x.edges (x.edges.length : Int) 0 a0 b0 x x (List.replicate ((x.places.length : Int)).toNat (default : List Int)) [] = (ck (z3d (x.places.length : Int) 8) (ck (z3d (((List.replicate ((x.places.length : Int) : Int).toNat (default : Int)).length : Int)) 1) (z05 φ φ a0 (((List.replicate ((x.places.length : Int) : Int).toNat (default : Int)).length : Int)) 0 b0 x (List.replicate ((x.places.length : Int) : Int).toNat (default : Int)) ((List.replicate (((List.replicate ((x.places.length : Int) : Int).toNat (default : Int)).length : Int) : Int).toNat (default : Bool))) (zg x) (z1f x)))) := by
 have hE := hx.edges
 have h0 : (List.replicate ((x.places.length : Int)).toNat (default : List Int), ([] : Ln)) = z7f x.edges x.places.length 0 := by simp [z7f]
 refine zh (fun n i (s : List (List Int) × Ln) => zq φ n x.edges (x.edges.length : Int) i a0 b0 x x s.1 s.2) x.edges.length (fun i s => s = z7f x.edges x.places.length i) (fun o => o = (ck (z3d (x.places.length : Int) 8) (ck (z3d (((List.replicate ((x.places.length : Int) : Int).toNat (default : Int)).length : Int)) 1) (z05 φ φ a0 (((List.replicate ((x.places.length : Int) : Int).toNat (default : Int)).length : Int)) 0 b0 x (List.replicate ((x.places.length : Int) : Int).toNat (default : Int)) ((List.replicate (((List.replicate ((x.places.length : Int) : Int).toNat (default : Int)).length : Int) : Int).toNat (default : Bool))) (zg x) (z1f x))))) ?_ ?_ φ (List.replicate ((x.places.length : Int)).toNat (default : List Int), []) h0 (by omega)
 ·intro n i s hi hs hk
  subst hs
  rw [zjj φ x a0 b0 hx n hi (z5z hx i (by omega))]
  exact hk _ rfl
 ·intro n s hs
  subst hs
  rw [zq, if_neg (by simp)]
  exact zji φ x a0 b0 hx hφ (z1f x)
end zf
section z0a
variable (φ : Nat) (K : List Edge -> Int -> Int -> Int -> Int -> z6 -> z6 -> List (List Int) -> Ln -> Option ((List Int) × Int × Unit)) (x : z6) (a0 b0 : Int)
theorem zb3 {i : Nat} (hi : i < x.edges.length) {P : Nat} {near : List (List Int)} {line : Ln} {a b : Int} (hl : near.length = P) (ha : 0 <= a) (ha' : a < (P : Int)) (hsz : (gt near a).length <= 10000) (hx : x.edges.length <= 2048) (hold : ∀ o, lget line a b = some o -> 0 <= o /\ o < (x.edges.length : Int)) :
  (if (!(lget line a b).isSome) = true then (ck ((0 : Int) <= a /\ a < (near.length : Int)) (ck ((0 : Int) <= a /\ a < (near.length : Int)) (ck ((a : Int) = a) (ck (fits ((gt near a).length + ([b]).length) 8) (ck ((0 : Int) <= a /\ a < (near.length : Int)) (ck ((a : Int) = a) (z4i φ K i ((lget line a b).getD default) ((lget line a b).isSome) x.edges (x.edges.length : Int) i a0 b0 x (keyP a b) x (zu near a (gt near a ++ [b])) line))))))) else (z4i φ K i ((lget line a b).getD default) ((lget line a b).isSome) x.edges (x.edges.length : Int) i a0 b0 x (keyP a b) x near line)) =
  K x.edges (x.edges.length : Int) ((i : Int) + 1) a0 b0 x x (ent1 x.edges i a b (near, line)).1 (ent1 x.edges i a b (near, line)).2 := by
 have hW : W ((i : Int) + 1) = (i : Int) + 1 := W_id (by omega) (by omega)
 unfold z4i ent1
 simp only []
 cases h : lget line a b with
 | none =>
  simp only [Option.isSome_none, Bool.not_false, if_true, Option.getD_none, Bool.true_or]
  rw [z2 ⟨ha, by omega⟩, z2 ⟨ha, by omega⟩, z2 trivial, z2 (ztd (by simp; omega) (by omega)), z2 ⟨ha, by omega⟩, z2 trivial, z2 (by simp), z2 (by simp), hW]
 | some o =>
  have ho := hold o h
  simp only [Option.isSome_some, Bool.not_true, Bool.false_eq_true, if_false, Option.getD_some, Bool.false_or]
  rw [z2 (fun _ => ⟨by omega, by omega⟩), z2 (fun _ => ho), hW]
  by_cases c : decide ((gt x.edges (i : Int)).minutes < (gt x.edges o).minutes) = true
  ·rw [if_pos c, if_pos c]
  ·rw [if_neg c, if_neg c]
theorem zjk {i : Nat} (hi : i < x.edges.length) {P : Nat} {near : List (List Int)} {line : Ln} {a b : Int} (hl : near.length = P) (ha : 0 <= a) (ha' : a < (P : Int)) (hsz : (gt near a).length <= 10000) (hx : x.edges.length <= 2048) (hold : ∀ o, lget line a b = some o -> 0 <= o /\ o < (x.edges.length : Int)) :
  (if (!(lget line a b).isSome) = true then (ck ((0 : Int) <= a /\ a < (near.length : Int)) (ck ((0 : Int) <= a /\ a < (near.length : Int)) (ck ((a : Int) = a) (ck (fits ((gt near a).length + ([b]).length) 8) (ck ((0 : Int) <= a /\ a < (near.length : Int)) (ck ((a : Int) = a) (z4e φ K i ((lget line a b).getD default) ((lget line a b).isSome) x.edges (x.edges.length : Int) i a0 b0 x (keyP a b) x (zu near a (gt near a ++ [b])) line))))))) else (z4e φ K i ((lget line a b).getD default) ((lget line a b).isSome) x.edges (x.edges.length : Int) i a0 b0 x (keyP a b) x near line)) =
  K x.edges (x.edges.length : Int) ((i : Int) + 1) a0 b0 x x (ent1 x.edges i a b (near, line)).1 (ent1 x.edges i a b (near, line)).2 := zb3 φ K x a0 b0 hi hl ha ha' hsz hx hold
theorem zb0 (hx : z4n x) {i : Nat} (hi : i < x.edges.length) {near near1 : List (List Int)} {line : Ln} (old : Int) (sm : Bool) (hl : near1.length = x.places.length) (ho : sm = true -> 0 <= old /\ old < (x.edges.length : Int))
  (hsz : (gt near1 (gt x.edges (i : Int)).b).length <= 10000) (hline : ∀ a b o, lget line a b = some o -> 0 <= o /\ o < (x.edges.length : Int)) (line1 : Ln) (h1 : line1 = if (!sm || decide ((gt x.edges (i : Int)).minutes < (gt x.edges old).minutes)) = true then lset line (gt x.edges (i : Int)).a (gt x.edges (i : Int)).b i else line) :
  z4m φ K i old sm i x.edges (x.edges.length : Int) i a0 b0 x (keyP (gt x.edges (i : Int)).a (gt x.edges (i : Int)).b) (gt x.edges (i : Int)) x near1 line =
  K x.edges (x.edges.length : Int) ((i : Int) + 1) a0 b0 x x (ent1 x.edges i (gt x.edges (i : Int)).b (gt x.edges (i : Int)).a (near1, line1)).1 (ent1 x.edges i (gt x.edges (i : Int)).b (gt x.edges (i : Int)).a (near1, line1)).2 := by
 obtain ⟨e1, e2, e3, e4, e5, _⟩ := hx.ends (i := (i : Int)) (by omega) (by omega)
 unfold z4m
 rw [z2 (fun _ => ⟨by omega, by omega⟩), z2 (fun h => ho (by simpa using h))]
 by_cases c : (!sm || decide ((gt x.edges (i : Int)).minutes < (gt x.edges old).minutes)) = true
 ·rw [if_pos c] at h1 ⊢
  subst h1
  refine zb3 φ K x a0 b0 hi hl e3 e4 hsz hx.edges fun o h => ?_
  rw [zf3, if_neg (fun q => e5 q.1.symm)] at h
  exact hline _ _ o h
 ·rw [if_neg c] at h1 ⊢
  subst h1
  exact zjk φ K x a0 b0 hi hl e3 e4 hsz hx.edges fun o h => hline _ _ o h
end z0a
section z0a
variable (φ : Nat) (x : z6) (a0 b0 : Int)
theorem zlh (hx : z4n x) (n : Nat) {i : Nat} (hi : i < x.edges.length) {s : List (List Int) × Ln} (h : HI x.edges x.places.length i s) :
  zw φ (n + 1) x.edges (x.edges.length : Int) i a0 b0 x x s.1 s.2 = zw φ n x.edges (x.edges.length : Int) ((i : Int) + 1) a0 b0 x x (entE x.edges i s).1 (entE x.edges i s).2 := by
 obtain ⟨e1, e2, e3, e4, e5, _⟩ := hx.ends (i := (i : Int)) (by omega) (by omega)
 have hE := hx.edges
 have hline : ∀ a b o, lget s.2 a b = some o -> 0 <= o /\ o < (x.edges.length : Int) := fun a b o ho => by
  obtain ⟨h1, h2, _⟩ := h.line _ _ _ ho
  exact ⟨h1, by omega⟩
 have hsa := h.size _ e1 e2
 have hsb := h.size _ e3 e4
 have hlen := h.len
 rw [zw, if_pos (by simp; omega), z2 ⟨by omega, by omega⟩]
 unfold entE
 generalize hs1 : ent1 x.edges i (gt x.edges (i : Int)).a (gt x.edges (i : Int)).b s = s1
 have hs1' := hs1
 unfold ent1 at hs1'
 cases hg : lget s.2 (gt x.edges (i : Int)).a (gt x.edges (i : Int)).b with
 | none =>
  have hg' : @mget (Nat -> Int) Int ⟨beqA 2⟩ s.2 (upd (upd (fun _ => (default : Int)) 0 (gt x.edges (i : Int)).a) 1 (gt x.edges (i : Int)).b) = none := hg
  rw [hg] at hs1'
  simp only [Option.isSome_none, Bool.not_false, if_true, Option.getD_none, Bool.true_or] at hs1'
  rw [hg']
  simp only [Option.isSome_none, Bool.not_false, if_true, Option.getD_none]
  rw [z2 ⟨e1, by omega⟩, z2 ⟨e1, by omega⟩, z2 trivial, z2 (ztd (by simp; omega) (by omega)), z2 ⟨e1, by omega⟩, z2 trivial, <- hs1']
  refine zb0 φ (zw φ n) x a0 b0 hx hi (near := s.1) _ _ (by rw [z0e]; exact hlen) (fun h => by cases h) ?_ hline _ (by simp)
  rw [zt _ _ _ _ e1 (by omega) e3, if_neg (fun q => e5 q.symm)]
  omega
 | some o =>
  have hg' : @mget (Nat -> Int) Int ⟨beqA 2⟩ s.2 (upd (upd (fun _ => (default : Int)) 0 (gt x.edges (i : Int)).a) 1 (gt x.edges (i : Int)).b) = some o := hg
  rw [hg] at hs1'
  simp only [Option.isSome_some, Bool.not_true, Bool.false_eq_true, if_false, Option.getD_some, Bool.false_or] at hs1'
  rw [hg']
  simp only [Option.isSome_some, Bool.not_true, Bool.false_eq_true, if_false, Option.getD_some]
  rw [<- hs1']
  exact zb0 φ (zw φ n) x a0 b0 hx hi (near := s.1) _ _ hlen (fun _ => hline _ _ _ hg) (by omega) hline _ (by simp)
theorem zla (hx : z4n x) (hφ : 5000 < φ) (line : Ln) : z1z φ φ ((z5f x).length : Int) 0 a0 b0 (z5f x) x line = (ck (z3d (x.places.length : Int) 8) (ck (z3d (((List.replicate ((x.places.length : Int) : Int).toNat (default : Int)).length : Int)) 1) (z0g φ φ b0 (((List.replicate ((x.places.length : Int) : Int).toNat (default : Int)).length : Int)) 0 a0 b0 x (List.replicate ((x.places.length : Int) : Int).toNat (default : Int)) ((List.replicate (((List.replicate ((x.places.length : Int) : Int).toNat (default : Int)).length : Int) : Int).toNat (default : Bool))) x (zg x) line))) := by
 have hl0 : (z5f x).length = x.places.length := (z5z hx x.edges.length (Nat.le_refl _)).len
 have hP := hx.places
 have hE := hx.edges
 obtain ⟨n0, hn0⟩ : ∃ n0, n0 = x.places.length := ⟨_, rfl⟩
 rw [<- hn0] at hl0 hP
 rw [hl0]
 have hfin : ∀ o : List (List Int), o.length = n0 -> (∀ w : Nat, w < n0 -> gt o (w : Int) = zb8 (fun a b => decide (a < b)) (gt (z5f x) (w : Int))) -> o = zg x := by
  intro o ho hw
  unfold zg
  refine List.ext_getElem (by simp [ho, hl0]) fun i h1 h2 => ?_
  have := hw i (by omega)
  rw [z4x h1, z4x (by omega)] at this
  simpa using this
 refine zh (fun n i o => z1z φ n (n0 : Int) i a0 b0 o x line) n0 (fun i o => o.length = n0 /\ ∀ w : Nat, w < n0 -> gt o (w : Int) = if w < i then zb8 (fun a b => decide (a < b)) (gt (z5f x) (w : Int)) else gt (z5f x) (w : Int)) (fun o => o = (ck (z3d (x.places.length : Int) 8) (ck (z3d (((List.replicate ((x.places.length : Int) : Int).toNat (default : Int)).length : Int)) 1) (z0g φ φ b0 (((List.replicate ((x.places.length : Int) : Int).toNat (default : Int)).length : Int)) 0 a0 b0 x (List.replicate ((x.places.length : Int) : Int).toNat (default : Int)) ((List.replicate (((List.replicate ((x.places.length : Int) : Int).toNat (default : Int)).length : Int) : Int).toNat (default : Bool))) x (zg x) line)))) ?_ ?_ φ (z5f x) ⟨hl0, fun w hw => by rw [if_neg (by omega)]⟩ (by omega)
 ·intro n i o hi ⟨ho1, ho2⟩ hs
  have hsz := (z5z hx x.edges.length (Nat.le_refl _)).size (i : Int) (by omega) (by omega)
  have hsz : (gt (z5f x) (i : Int)).length <= 2 * x.edges.length := hsz
  have hso : zeo (gt (z5f x) (i : Int)) = some (zb8 (fun a b => decide (a < b)) (gt (z5f x) (i : Int))) := by
   unfold zeo zj2; rw [if_pos (by omega)]
  rw [z1z, if_pos (by simp; omega), z2 ⟨by omega, by omega⟩, z2 ⟨by omega, by omega⟩, z2 rfl, ho2 i hi, if_neg (by omega), hso, Option.bind_some, W_id (by omega) (by omega)]
  refine hs _ ⟨by rw [z0e]; exact ho1, fun w hw => ?_⟩
  rw [zt _ _ _ _ (by omega) (by omega) (by omega)]
  by_cases e : w = i
  ·subst e; rw [if_pos rfl, if_pos (by omega)]
  ·rw [if_neg (by omega), ho2 w hw]
   by_cases h2 : w < i
   ·rw [if_pos h2, if_pos (by omega)]
   ·rw [if_neg h2, if_neg (by omega)]
 ·intro n o ⟨ho1, ho2⟩
  have := hfin o ho1 fun w hw => by rw [ho2 w hw, if_pos hw]
  subst this
  rw [z1z, if_neg (by simp)]
theorem zcx (hx : z4n x) (hφ : 5000 < φ) : zw φ φ x.edges (x.edges.length : Int) 0 a0 b0 x x (List.replicate ((x.places.length : Int)).toNat (default : List Int)) [] = (ck (z3d (x.places.length : Int) 8) (ck (z3d (((List.replicate ((x.places.length : Int) : Int).toNat (default : Int)).length : Int)) 1) (z0g φ φ b0 (((List.replicate ((x.places.length : Int) : Int).toNat (default : Int)).length : Int)) 0 a0 b0 x (List.replicate ((x.places.length : Int) : Int).toNat (default : Int)) ((List.replicate (((List.replicate ((x.places.length : Int) : Int).toNat (default : Int)).length : Int) : Int).toNat (default : Bool))) x (zg x) (z1f x)))) := by
 have hE := hx.edges
 have h0 : (List.replicate ((x.places.length : Int)).toNat (default : List Int), ([] : Ln)) = z7f x.edges x.places.length 0 := by simp [z7f]
 refine zh (fun n i (s : List (List Int) × Ln) => zw φ n x.edges (x.edges.length : Int) i a0 b0 x x s.1 s.2) x.edges.length (fun i s => s = z7f x.edges x.places.length i) (fun o => o = (ck (z3d (x.places.length : Int) 8) (ck (z3d (((List.replicate ((x.places.length : Int) : Int).toNat (default : Int)).length : Int)) 1) (z0g φ φ b0 (((List.replicate ((x.places.length : Int) : Int).toNat (default : Int)).length : Int)) 0 a0 b0 x (List.replicate ((x.places.length : Int) : Int).toNat (default : Int)) ((List.replicate (((List.replicate ((x.places.length : Int) : Int).toNat (default : Int)).length : Int) : Int).toNat (default : Bool))) x (zg x) (z1f x))))) ?_ ?_ φ (List.replicate ((x.places.length : Int)).toNat (default : List Int), []) h0 (by omega)
 ·intro n i s hi hs hk
  subst hs
  rw [zlh φ x a0 b0 hx n hi (z5z hx i (by omega))]
  exact hk _ rfl
 ·intro n s hs
  subst hs
  rw [zw, if_neg (by simp)]
  exact zla φ x a0 b0 hx hφ (z1f x)
end z0a
section z10
variable (φ : Nat) (K : List Edge -> Int -> Int -> List Int -> z6 -> z6 -> List z2d -> List (List Int) -> Ln -> Option ((List z2d) × Int × Unit)) (x : z6) (rt : List Int) (sh : List z2d)
theorem zae {i : Nat} (hi : i < x.edges.length) {P : Nat} {near : List (List Int)} {line : Ln} {a b : Int} (hl : near.length = P) (ha : 0 <= a) (ha' : a < (P : Int)) (hsz : (gt near a).length <= 10000) (hx : x.edges.length <= 2048) (hold : ∀ o, lget line a b = some o -> 0 <= o /\ o < (x.edges.length : Int)) :
  (if (!(lget line a b).isSome) = true then (ck ((0 : Int) <= a /\ a < (near.length : Int)) (ck ((0 : Int) <= a /\ a < (near.length : Int)) (ck ((a : Int) = a) (ck (fits ((gt near a).length + ([b]).length) 8) (ck ((0 : Int) <= a /\ a < (near.length : Int)) (ck ((a : Int) = a) (z3l φ K i ((lget line a b).getD default) ((lget line a b).isSome) x.edges (x.edges.length : Int) i rt x (keyP a b) x sh (zu near a (gt near a ++ [b])) line))))))) else (z3l φ K i ((lget line a b).getD default) ((lget line a b).isSome) x.edges (x.edges.length : Int) i rt x (keyP a b) x sh near line)) =
  K x.edges (x.edges.length : Int) ((i : Int) + 1) rt x x sh (ent1 x.edges i a b (near, line)).1 (ent1 x.edges i a b (near, line)).2 := by
 have hW : W ((i : Int) + 1) = (i : Int) + 1 := W_id (by omega) (by omega)
 unfold z3l ent1
 simp only []
 cases h : lget line a b with
 | none =>
  simp only [Option.isSome_none, Bool.not_false, if_true, Option.getD_none, Bool.true_or]
  rw [z2 ⟨ha, by omega⟩, z2 ⟨ha, by omega⟩, z2 trivial, z2 (ztd (by simp; omega) (by omega)), z2 ⟨ha, by omega⟩, z2 trivial, z2 (by simp), z2 (by simp), hW]
 | some o =>
  have ho := hold o h
  simp only [Option.isSome_some, Bool.not_true, Bool.false_eq_true, if_false, Option.getD_some, Bool.false_or]
  rw [z2 (fun _ => ⟨by omega, by omega⟩), z2 (fun _ => ho), hW]
  by_cases c : decide ((gt x.edges (i : Int)).minutes < (gt x.edges o).minutes) = true
  ·rw [if_pos c, if_pos c]
  ·rw [if_neg c, if_neg c]
theorem zin {i : Nat} (hi : i < x.edges.length) {P : Nat} {near : List (List Int)} {line : Ln} {a b : Int} (hl : near.length = P) (ha : 0 <= a) (ha' : a < (P : Int)) (hsz : (gt near a).length <= 10000) (hx : x.edges.length <= 2048) (hold : ∀ o, lget line a b = some o -> 0 <= o /\ o < (x.edges.length : Int)) :
  (if (!(lget line a b).isSome) = true then (ck ((0 : Int) <= a /\ a < (near.length : Int)) (ck ((0 : Int) <= a /\ a < (near.length : Int)) (ck ((a : Int) = a) (ck (fits ((gt near a).length + ([b]).length) 8) (ck ((0 : Int) <= a /\ a < (near.length : Int)) (ck ((a : Int) = a) (z3r φ K i ((lget line a b).getD default) ((lget line a b).isSome) x.edges (x.edges.length : Int) i rt x (keyP a b) x sh (zu near a (gt near a ++ [b])) line))))))) else (z3r φ K i ((lget line a b).getD default) ((lget line a b).isSome) x.edges (x.edges.length : Int) i rt x (keyP a b) x sh near line)) =
  K x.edges (x.edges.length : Int) ((i : Int) + 1) rt x x sh (ent1 x.edges i a b (near, line)).1 (ent1 x.edges i a b (near, line)).2 := zae φ K x rt sh hi hl ha ha' hsz hx hold
theorem zai (hx : z4n x) {i : Nat} (hi : i < x.edges.length) {near near1 : List (List Int)} {line : Ln} (old : Int) (sm : Bool) (hl : near1.length = x.places.length) (ho : sm = true -> 0 <= old /\ old < (x.edges.length : Int))
  (hsz : (gt near1 (gt x.edges (i : Int)).b).length <= 10000) (hline : ∀ a b o, lget line a b = some o -> 0 <= o /\ o < (x.edges.length : Int)) (line1 : Ln) (h1 : line1 = if (!sm || decide ((gt x.edges (i : Int)).minutes < (gt x.edges old).minutes)) = true then lset line (gt x.edges (i : Int)).a (gt x.edges (i : Int)).b i else line) :
  z3p φ K i old sm i x.edges (x.edges.length : Int) i rt x (keyP (gt x.edges (i : Int)).a (gt x.edges (i : Int)).b) (gt x.edges (i : Int)) x sh near1 line =
  K x.edges (x.edges.length : Int) ((i : Int) + 1) rt x x sh (ent1 x.edges i (gt x.edges (i : Int)).b (gt x.edges (i : Int)).a (near1, line1)).1 (ent1 x.edges i (gt x.edges (i : Int)).b (gt x.edges (i : Int)).a (near1, line1)).2 := by
 obtain ⟨e1, e2, e3, e4, e5, _⟩ := hx.ends (i := (i : Int)) (by omega) (by omega)
 unfold z3p
 rw [z2 (fun _ => ⟨by omega, by omega⟩), z2 (fun h => ho (by simpa using h))]
 by_cases c : (!sm || decide ((gt x.edges (i : Int)).minutes < (gt x.edges old).minutes)) = true
 ·rw [if_pos c] at h1 ⊢
  subst h1
  refine zae φ K x rt sh hi hl e3 e4 hsz hx.edges fun o h => ?_
  rw [zf3, if_neg (fun q => e5 q.1.symm)] at h
  exact hline _ _ o h
 ·rw [if_neg c] at h1 ⊢
  subst h1
  exact zin φ K x rt sh hi hl e3 e4 hsz hx.edges fun o h => hline _ _ o h
end z10
section z10
variable (φ : Nat) (x : z6) (rt : List Int) (sh : List z2d)
theorem zkj (hx : z4n x) (n : Nat) {i : Nat} (hi : i < x.edges.length) {s : List (List Int) × Ln} (h : HI x.edges x.places.length i s) :
  z02 φ (n + 1) x.edges (x.edges.length : Int) i rt x x sh s.1 s.2 = z02 φ n x.edges (x.edges.length : Int) ((i : Int) + 1) rt x x sh (entE x.edges i s).1 (entE x.edges i s).2 := by
 obtain ⟨e1, e2, e3, e4, e5, _⟩ := hx.ends (i := (i : Int)) (by omega) (by omega)
 have hE := hx.edges
 have hline : ∀ a b o, lget s.2 a b = some o -> 0 <= o /\ o < (x.edges.length : Int) := fun a b o ho => by
  obtain ⟨h1, h2, _⟩ := h.line _ _ _ ho
  exact ⟨h1, by omega⟩
 have hsa := h.size _ e1 e2
 have hsb := h.size _ e3 e4
 have hlen := h.len
 rw [z02, if_pos (by simp; omega), z2 ⟨by omega, by omega⟩]
 unfold entE
 generalize hs1 : ent1 x.edges i (gt x.edges (i : Int)).a (gt x.edges (i : Int)).b s = s1
 have hs1' := hs1
 unfold ent1 at hs1'
 cases hg : lget s.2 (gt x.edges (i : Int)).a (gt x.edges (i : Int)).b with
 | none =>
  have hg' : @mget (Nat -> Int) Int ⟨beqA 2⟩ s.2 (upd (upd (fun _ => (default : Int)) 0 (gt x.edges (i : Int)).a) 1 (gt x.edges (i : Int)).b) = none := hg
  rw [hg] at hs1'
  simp only [Option.isSome_none, Bool.not_false, if_true, Option.getD_none, Bool.true_or] at hs1'
  rw [hg']
  simp only [Option.isSome_none, Bool.not_false, if_true, Option.getD_none]
  rw [z2 ⟨e1, by omega⟩, z2 ⟨e1, by omega⟩, z2 trivial, z2 (ztd (by simp; omega) (by omega)), z2 ⟨e1, by omega⟩, z2 trivial, <- hs1']
  refine zai φ (z02 φ n) x rt sh hx hi (near := s.1) _ _ (by rw [z0e]; exact hlen) (fun h => by cases h) ?_ hline _ (by simp)
  rw [zt _ _ _ _ e1 (by omega) e3, if_neg (fun q => e5 q.symm)]
  omega
 | some o =>
  have hg' : @mget (Nat -> Int) Int ⟨beqA 2⟩ s.2 (upd (upd (fun _ => (default : Int)) 0 (gt x.edges (i : Int)).a) 1 (gt x.edges (i : Int)).b) = some o := hg
  rw [hg] at hs1'
  simp only [Option.isSome_some, Bool.not_true, Bool.false_eq_true, if_false, Option.getD_some, Bool.false_or] at hs1'
  rw [hg']
  simp only [Option.isSome_some, Bool.not_true, Bool.false_eq_true, if_false, Option.getD_some]
  rw [<- hs1']
  exact zai φ (z02 φ n) x rt sh hx hi (near := s.1) _ _ hlen (fun _ => hline _ _ _ hg) (by omega) hline _ (by simp)
theorem zkn (hx : z4n x) (hφ : 5000 < φ) (line : Ln) : z1o φ φ ((z5f x).length : Int) 0 rt (z5f x) x sh line = (zo φ φ rt 1 x sh ([] : List (Int × Int)) (zg x) line) := by
 have hl0 : (z5f x).length = x.places.length := (z5z hx x.edges.length (Nat.le_refl _)).len
 have hP := hx.places
 have hE := hx.edges
 obtain ⟨n0, hn0⟩ : ∃ n0, n0 = x.places.length := ⟨_, rfl⟩
 rw [<- hn0] at hl0 hP
 rw [hl0]
 have hfin : ∀ o : List (List Int), o.length = n0 -> (∀ w : Nat, w < n0 -> gt o (w : Int) = zb8 (fun a b => decide (a < b)) (gt (z5f x) (w : Int))) -> o = zg x := by
  intro o ho hw
  unfold zg
  refine List.ext_getElem (by simp [ho, hl0]) fun i h1 h2 => ?_
  have := hw i (by omega)
  rw [z4x h1, z4x (by omega)] at this
  simpa using this
 refine zh (fun n i o => z1o φ n (n0 : Int) i rt o x sh line) n0 (fun i o => o.length = n0 /\ ∀ w : Nat, w < n0 -> gt o (w : Int) = if w < i then zb8 (fun a b => decide (a < b)) (gt (z5f x) (w : Int)) else gt (z5f x) (w : Int)) (fun o => o = (zo φ φ rt 1 x sh ([] : List (Int × Int)) (zg x) line)) ?_ ?_ φ (z5f x) ⟨hl0, fun w hw => by rw [if_neg (by omega)]⟩ (by omega)
 ·intro n i o hi ⟨ho1, ho2⟩ hs
  have hsz := (z5z hx x.edges.length (Nat.le_refl _)).size (i : Int) (by omega) (by omega)
  have hsz : (gt (z5f x) (i : Int)).length <= 2 * x.edges.length := hsz
  have hso : zeo (gt (z5f x) (i : Int)) = some (zb8 (fun a b => decide (a < b)) (gt (z5f x) (i : Int))) := by
   unfold zeo zj2; rw [if_pos (by omega)]
  rw [z1o, if_pos (by simp; omega), z2 ⟨by omega, by omega⟩, z2 ⟨by omega, by omega⟩, z2 rfl, ho2 i hi, if_neg (by omega), hso, Option.bind_some, W_id (by omega) (by omega)]
  refine hs _ ⟨by rw [z0e]; exact ho1, fun w hw => ?_⟩
  rw [zt _ _ _ _ (by omega) (by omega) (by omega)]
  by_cases e : w = i
  ·subst e; rw [if_pos rfl, if_pos (by omega)]
  ·rw [if_neg (by omega), ho2 w hw]
   by_cases h2 : w < i
   ·rw [if_pos h2, if_pos (by omega)]
   ·rw [if_neg h2, if_neg (by omega)]
 ·intro n o ⟨ho1, ho2⟩
  have := hfin o ho1 fun w hw => by rw [ho2 w hw, if_pos hw]
  subst this
  rw [z1o, if_neg (by simp)]
theorem zaz (hx : z4n x) (hφ : 5000 < φ) : z02 φ φ x.edges (x.edges.length : Int) 0 rt x x sh (List.replicate ((x.places.length : Int)).toNat (default : List Int)) [] = (zo φ φ rt 1 x sh ([] : List (Int × Int)) (zg x) (z1f x)) := by
 have hE := hx.edges
 have h0 : (List.replicate ((x.places.length : Int)).toNat (default : List Int), ([] : Ln)) = z7f x.edges x.places.length 0 := by simp [z7f]
 refine zh (fun n i (s : List (List Int) × Ln) => z02 φ n x.edges (x.edges.length : Int) i rt x x sh s.1 s.2) x.edges.length (fun i s => s = z7f x.edges x.places.length i) (fun o => o = (zo φ φ rt 1 x sh ([] : List (Int × Int)) (zg x) (z1f x))) ?_ ?_ φ (List.replicate ((x.places.length : Int)).toNat (default : List Int), []) h0 (by omega)
 ·intro n i s hi hs hk
  subst hs
  rw [zkj φ x rt sh hx n hi (z5z hx i (by omega))]
  exact hk _ rfl
 ·intro n s hs
  subst hs
  rw [z02, if_neg (by simp)]
  exact zkn φ x rt sh hx hφ (z1f x)
end z10
end Px
end
section
namespace Px
open Go
set_option linter.unusedVariables false
set_option linter.unusedSimpArgs false
section zf
variable (φ : Nat) (x : z6) (a0 b0 : Int)
theorem za6 (hx : z4n x) (hφ : 800000 < φ) (hs : 0 <= a0) (hs' : a0 < (x.places.length : Int)) : ∃ t, DF x.places.length (zg x) (wtN x) a0 t /\
  z05 φ φ a0 (((List.replicate ((x.places.length : Int) : Int).toNat (default : Int)).length : Int)) 0 b0 x (List.replicate ((x.places.length : Int) : Int).toNat (default : Int)) ((List.replicate (((List.replicate ((x.places.length : Int) : Int).toNat (default : Int)).length : Int) : Int).toNat (default : Bool)))  (zg x) (z1f x) = (ck ((0 : Int) <= b0 /\ b0 < (t.length : Int)) (if (decide (((gt t b0) : Int) < 0)) = true then (some (0, 80, ())) else (some ((gt t b0), 0, ())))) := by
 have hG := grN hx
 have hP := hx.places
 have hrep : (List.replicate ((x.places.length : Int) : Int).toNat (default : Int)).length = x.places.length := by simp
 rw [hrep]
 have e1 : ((x.places.length : Int)).toNat = x.places.length := by simp
 rw [e1]
 -- the search
 have search : ∀ t : List Int, t.length = x.places.length -> (∀ i : Int, 0 <= i -> i < (x.places.length : Int) -> gt t i = if i = a0 then 0 else -1) ->
   ∃ t', DF x.places.length (zg x) (wtN x) a0 t' /\ zx φ φ b0 x t (List.replicate x.places.length (default : Bool))  (zg x) (z1f x) = (ck ((0 : Int) <= b0 /\ b0 < (t'.length : Int)) (if (decide (((gt t' b0) : Int) < 0)) = true then (some (0, 80, ())) else (some ((gt t' b0), 0, ())))) := by
  intro t ht hall
  refine y3j hG hs hs' (fun n t d => zx φ n b0 x t d  (zg x) (z1f x)) (fun t' => (ck ((0 : Int) <= b0 /\ b0 < (t'.length : Int)) (if (decide (((gt t' b0) : Int) < 0)) = true then (some (0, 80, ())) else (some ((gt t' b0), 0, ()))))) φ ?_ φ 0 t _ (y2t hs hs' t ht hall) (by omega)
  intro n k t d hk hD
  obtain ⟨p, hp1, hp2⟩ := yc8 hP (fun m p i => z0x φ (zx φ n) m p (x.places.length : Int) i b0 x t d  (zg x) (z1f x))
   (fun p => (if (decide ((p : Int) < 0)) = true then (ck ((0 : Int) <= b0 /\ b0 < (t.length : Int)) (if (decide (((gt t b0) : Int) < 0)) = true then (some (0, 80, ())) else (some ((gt t b0), 0, ())))) else (ck ((0 : Int) <= p /\ p < (d.length : Int)) (ck ((0 : Int) <= p /\ p < ((zg x).length : Int)) (ck ((0 : Int) <= p /\ p < ((zg x).length : Int)) (ck ((p : Int) = p) (z0z φ (zx φ n) φ p ((gt (zg x) p).length : Int) 0 b0 x t (zu d p true) (gt (zg x) p)  (zg x) p (z1f x))))))))
   t d hD.lt hD.ld (fun m p i => by rw [z0x]) φ (by omega)
  have hM : zx φ (n + 1) b0 x t d  (zg x) (z1f x) = z0x φ (zx φ n) φ (-1) (x.places.length : Int) 0 b0 x t d  (zg x) (z1f x) := by
   rw [zx, hD.lt]
  simp only [] at hp1
  simp only [hM]
  rw [hp1]
  rcases hp2 with ⟨rfl, hall⟩ | ⟨p0, p1, p2, p3, p4⟩
  ·left
   refine ⟨t, yg6 hG hD hall, ?_⟩
   rw [if_pos (by decide)]
  ·right
   rw [if_neg (by simp; omega), z2 ⟨p0, by rw [hD.ld]; exact p1⟩, z2 ⟨p0, by rw [hG.len]; exact p1⟩, z2 ⟨p0, by rw [hG.len]; exact p1⟩, z2 trivial]
   obtain ⟨t', h1, h2⟩ := yc9 hG p0 p1 hk hD p2 (fun m i t => z0z φ (zx φ n) m p ((gt (zg x) p).length : Int) i b0 x t (zu d p true) (gt (zg x) p)  (zg x) p (z1f x))
    (fun t => zx φ n b0 x t (zu d p true)  (zu (zg x) p (gt (zg x) p)) (z1f x)) (gt (zg x) p) rfl x.edges.length (fun q => (lget (z1f x) p q).getD default) (fun i => (gt x.edges i).minutes)
    (fun q hq => by
     obtain ⟨i, hi, i0, i1, _⟩ := zfj hx p0 p1 hq
     rw [hi]
     exact ⟨i0, i1, by unfold wtN; rw [hi]⟩) (fun m i t => by rw [z0z]) φ (by have := hG.size p p0 p1; omega)
   refine ⟨t', p, p0, p1, y2d hG p0 p1 hD hs hs' p2 p3 p4 h2, ?_⟩
   rw [zf7 _ p0 (by rw [hG.len]; exact p1)] at h1
   exact h1
 -- all times are unknown at first
 refine zh (fun n i t => z05 φ n a0 (x.places.length : Int) i b0 x t (List.replicate x.places.length (default : Bool))  (zg x) (z1f x)) x.places.length (fun i t => t.length = x.places.length /\ ∀ j : Int, 0 <= j -> j < (i : Int) -> gt t j = -1) (fun o => ∃ t, DF x.places.length (zg x) (wtN x) a0 t /\ o = (ck ((0 : Int) <= b0 /\ b0 < (t.length : Int)) (if (decide (((gt t b0) : Int) < 0)) = true then (some (0, 80, ())) else (some ((gt t b0), 0, ()))))) ?_ ?_ φ (List.replicate x.places.length (default : Int)) ⟨by simp, fun j h0 h1 => by omega⟩ (by omega)
 ·intro n i t hi ⟨h1, h2⟩ hs
  rw [z05, if_pos (by simp; omega), z2 ⟨by omega, by omega⟩, W_id (by omega) (by omega)]
  refine hs _ ⟨by rw [z0e]; exact h1, fun j j0 j1 => ?_⟩
  rw [zt _ _ _ _ (by omega) (by omega) j0]
  by_cases e : j = (i : Int)
  ·rw [if_pos e]
  ·rw [if_neg e]; exact h2 j j0 (by omega)
 ·intro n t ⟨h1, h2⟩
  rw [z05, if_neg (by simp), z2 ⟨hs, by omega⟩]
  obtain ⟨t', h3, h4⟩ := search (zu t a0 0) (by rw [z0e]; exact h1) (fun i i0 i1 => by
   rw [zt _ _ _ _ hs (by omega) i0]
   split
   ·rfl
   ·exact h2 i i0 i1)
  exact ⟨t', h3, h4⟩
end zf
section z0a
variable (φ : Nat) (x : z6) (a0 b0 : Int)
theorem zcm (hx : z4n x) (hφ : 800000 < φ) (hs : 0 <= b0) (hs' : b0 < (x.places.length : Int)) : ∃ t, DF x.places.length (zg x) (wtN x) b0 t /\
  z0g φ φ b0 (((List.replicate ((x.places.length : Int) : Int).toNat (default : Int)).length : Int)) 0 a0 b0 x (List.replicate ((x.places.length : Int) : Int).toNat (default : Int)) ((List.replicate (((List.replicate ((x.places.length : Int) : Int).toNat (default : Int)).length : Int) : Int).toNat (default : Bool))) x (zg x) (z1f x) = (ck ((0 : Int) <= a0 /\ a0 < (t.length : Int)) (if (decide (((gt t a0) : Int) < 0)) = true then (some (([] : List Int), 80, ())) else (zp φ φ a0 b0 x ([a0]) t (zg x) (z1f x)))) := by
 have hG := grN hx
 have hP := hx.places
 have hrep : (List.replicate ((x.places.length : Int) : Int).toNat (default : Int)).length = x.places.length := by simp
 rw [hrep]
 have e1 : ((x.places.length : Int)).toNat = x.places.length := by simp
 rw [e1]
 -- the search
 have search : ∀ t : List Int, t.length = x.places.length -> (∀ i : Int, 0 <= i -> i < (x.places.length : Int) -> gt t i = if i = b0 then 0 else -1) ->
   ∃ t', DF x.places.length (zg x) (wtN x) b0 t' /\ z08 φ φ a0 b0 x t (List.replicate x.places.length (default : Bool)) x (zg x) (z1f x) = (ck ((0 : Int) <= a0 /\ a0 < (t'.length : Int)) (if (decide (((gt t' a0) : Int) < 0)) = true then (some (([] : List Int), 80, ())) else (zp φ φ a0 b0 x ([a0]) t' (zg x) (z1f x)))) := by
  intro t ht hall
  refine y3j hG hs hs' (fun n t d => z08 φ n a0 b0 x t d x (zg x) (z1f x)) (fun t' => (ck ((0 : Int) <= a0 /\ a0 < (t'.length : Int)) (if (decide (((gt t' a0) : Int) < 0)) = true then (some (([] : List Int), 80, ())) else (zp φ φ a0 b0 x ([a0]) t' (zg x) (z1f x))))) φ ?_ φ 0 t _ (y2t hs hs' t ht hall) (by omega)
  intro n k t d hk hD
  obtain ⟨p, hp1, hp2⟩ := yc8 hP (fun m p i => z1l φ (z08 φ n) m p (x.places.length : Int) i a0 b0 x t d x (zg x) (z1f x))
   (fun p => (if (decide ((p : Int) < 0)) = true then (ck ((0 : Int) <= a0 /\ a0 < (t.length : Int)) (if (decide (((gt t a0) : Int) < 0)) = true then (some (([] : List Int), 80, ())) else (zp φ φ a0 b0 x ([a0]) t (zg x) (z1f x)))) else (ck ((0 : Int) <= p /\ p < (d.length : Int)) (ck ((0 : Int) <= p /\ p < ((zg x).length : Int)) (ck ((0 : Int) <= p /\ p < ((zg x).length : Int)) (ck ((p : Int) = p) (z1i φ (z08 φ n) φ p ((gt (zg x) p).length : Int) 0 a0 b0 x t (zu d p true) (gt (zg x) p) x (zg x) p (z1f x))))))))
   t d hD.lt hD.ld (fun m p i => by rw [z1l]) φ (by omega)
  have hM : z08 φ (n + 1) a0 b0 x t d x (zg x) (z1f x) = z1l φ (z08 φ n) φ (-1) (x.places.length : Int) 0 a0 b0 x t d x (zg x) (z1f x) := by
   rw [z08, hD.lt]
  simp only [] at hp1
  simp only [hM]
  rw [hp1]
  rcases hp2 with ⟨rfl, hall⟩ | ⟨p0, p1, p2, p3, p4⟩
  ·left
   refine ⟨t, yg6 hG hD hall, ?_⟩
   rw [if_pos (by decide)]
  ·right
   rw [if_neg (by simp; omega), z2 ⟨p0, by rw [hD.ld]; exact p1⟩, z2 ⟨p0, by rw [hG.len]; exact p1⟩, z2 ⟨p0, by rw [hG.len]; exact p1⟩, z2 trivial]
   obtain ⟨t', h1, h2⟩ := yc9 hG p0 p1 hk hD p2 (fun m i t => z1i φ (z08 φ n) m p ((gt (zg x) p).length : Int) i a0 b0 x t (zu d p true) (gt (zg x) p) x (zg x) p (z1f x))
    (fun t => z08 φ n a0 b0 x t (zu d p true) x (zu (zg x) p (gt (zg x) p)) (z1f x)) (gt (zg x) p) rfl x.edges.length (fun q => (lget (z1f x) p q).getD default) (fun i => (gt x.edges i).minutes)
    (fun q hq => by
     obtain ⟨i, hi, i0, i1, _⟩ := zfj hx p0 p1 hq
     rw [hi]
     exact ⟨i0, i1, by unfold wtN; rw [hi]⟩) (fun m i t => by rw [z1i]) φ (by have := hG.size p p0 p1; omega)
   refine ⟨t', p, p0, p1, y2d hG p0 p1 hD hs hs' p2 p3 p4 h2, ?_⟩
   rw [zf7 _ p0 (by rw [hG.len]; exact p1)] at h1
   exact h1
 -- all times are unknown at first
 refine zh (fun n i t => z0g φ n b0 (x.places.length : Int) i a0 b0 x t (List.replicate x.places.length (default : Bool)) x (zg x) (z1f x)) x.places.length (fun i t => t.length = x.places.length /\ ∀ j : Int, 0 <= j -> j < (i : Int) -> gt t j = -1) (fun o => ∃ t, DF x.places.length (zg x) (wtN x) b0 t /\ o = (ck ((0 : Int) <= a0 /\ a0 < (t.length : Int)) (if (decide (((gt t a0) : Int) < 0)) = true then (some (([] : List Int), 80, ())) else (zp φ φ a0 b0 x ([a0]) t (zg x) (z1f x))))) ?_ ?_ φ (List.replicate x.places.length (default : Int)) ⟨by simp, fun j h0 h1 => by omega⟩ (by omega)
 ·intro n i t hi ⟨h1, h2⟩ hs
  rw [z0g, if_pos (by simp; omega), z2 ⟨by omega, by omega⟩, W_id (by omega) (by omega)]
  refine hs _ ⟨by rw [z0e]; exact h1, fun j j0 j1 => ?_⟩
  rw [zt _ _ _ _ (by omega) (by omega) j0]
  by_cases e : j = (i : Int)
  ·rw [if_pos e]
  ·rw [if_neg e]; exact h2 j j0 (by omega)
 ·intro n t ⟨h1, h2⟩
  rw [z0g, if_neg (by simp), z2 ⟨hs, by omega⟩]
  obtain ⟨t', h3, h4⟩ := search (zu t b0 0) (by rw [z0e]; exact h1) (fun i i0 i1 => by
   rw [zt _ _ _ _ hs (by omega) i0]
   split
   ·rfl
   ·exact h2 i i0 i1)
  exact ⟨t', h3, h4⟩
end z0a
theorem z35 {n b : Nat} (h : n <= 100000000) (hb : b <= 1000) : fits n b := by
 unfold fits
 have : n * b <= 100000000 * 1000 := Nat.mul_le_mul h hb
 omega
theorem zsx (φ : Nat) (hφ : 800000 < φ) (x : z6) (a b : Int) : ∃ t e, zf φ x a b = some (t, e, ()) /\ 0 <= t /\ t <= 51200000 := by
 unfold zf
 rw [z03 _ (by omega), Option.bind_some]
 by_cases hn : z49 x = 0
 case neg =>
  rw [if_pos (by simpa using hn), if_pos (by simpa using hn)]
  exact ⟨0, _, rfl, by omega, by omega⟩
 have hx := zx2 hn
 have hP := hx.places
 rw [if_neg (by simp [hn])]
 obtain ⟨m, rfl⟩ : ∃ m, φ = m + 3 := ⟨φ - 3, by omega⟩
 have g0 : gt [a, b] 0 = a := rfl
 have g1 : gt [a, b] 1 = b := rfl
 have L : ((([a, b] : List Int).length : Nat) : Int) = 2 := rfl
 have step : ∀ n i, zm (m + 3) (n + 1) 2 i a b x [a, b] x [] = (if (decide ((i : Int) < 2)) = true then (ck ((0 : Int) <= i /\ i < (2 : Int)) (if ((decide (((gt [a, b] i) : Int) < 0)) || (decide (((x.places.length : Int) : Int) <= (gt [a, b] i)))) = true then (some (0, 1, ())) else (zm (m + 3) n 2 (W (i + 1)) a b x [a, b] x []))) else (ck (z3d (x.places.length : Int) 24) (zq (m + 3) (m + 3) x.edges (x.edges.length : Int) 0 a b x x (List.replicate ((x.places.length : Int) : Int).toNat (default : (List Int))) ([] : List ((Nat -> Int) × Int))))) := fun n i => by rw [zm]; rfl
 rw [L, show m + 3 = (m + 2) + 1 from rfl, step, if_pos (by decide), z2 (by decide), g0]
 by_cases ha : 0 <= a /\ a < (x.places.length : Int)
 case neg =>
  rw [if_pos (by simp; omega)]
  exact ⟨0, 1, rfl, by omega, by omega⟩
 rw [if_neg (by simp; omega), show W (0 + 1) = 1 by rfl, show m + 2 = (m + 1) + 1 from rfl, step, if_pos (by decide), z2 (by decide), g1]
 by_cases hb : 0 <= b /\ b < (x.places.length : Int)
 case neg =>
  rw [if_pos (by simp; omega)]
  exact ⟨0, 1, rfl, by omega, by omega⟩
 rw [if_neg (by simp; omega), show W (1 + 1) = 2 by rfl, step, if_neg (by decide), z2 (mk_t _ _ (by omega) (by omega) (by omega)), za8 (m + 3) x a b hx (by omega), z2 (mk_t _ _ (by omega) (by omega) (by omega)), z2 (mk_t _ _ (by omega) (by simp; omega) (by omega))]
 obtain ⟨t, h1, h2⟩ := za6 (m + 3) x a b hx (by omega) ha.1 ha.2
 rw [h2, z2 ⟨hb.1, by rw [h1.lt]; exact hb.2⟩]
 rcases h1.bd b hb.1 hb.2 with h3 | ⟨h3, h4⟩
 ·rw [if_pos (by simp; omega)]
  exact ⟨0, 80, rfl, by omega, by omega⟩
 ·rw [if_neg (by simp; omega)]
  exact ⟨_, 0, rfl, h3, h4⟩
def Way (x : z6) : List Int -> Prop
 | [] => True
 | [a] => 0 <= a /\ a < (x.places.length : Int)
 | a :: b :: l => (0 <= a /\ a < (x.places.length : Int)) /\ b ∈ gt (zg x) a /\ Way x (b :: l)
theorem Way.snoc {x : z6} (hG : Gr x.places.length (zg x) (wtN x)) : ∀ {l : List Int} {a b : Int}, Way x (l ++ [a]) -> b ∈ gt (zg x) a -> Way x (l ++ [a] ++ [b])
 | [], a, b, h, hb => ⟨h, hb, hG.rng a b h.1 h.2 hb⟩
 | [c], a, b, h, hb => ⟨h.1, h.2.1, h.2.2, hb, hG.rng a b h.2.2.1 h.2.2.2 hb⟩
 | c :: d :: l, a, b, h, hb => ⟨h.1, h.2.1, Way.snoc hG (l := d :: l) h.2.2 hb⟩
theorem Way.rng {x : z6} : ∀ {l : List Int}, Way x l -> ∀ a ∈ l, 0 <= a /\ a < (x.places.length : Int)
 | [], _, a, ha => by cases ha
 | [b], h, a, ha => by rw [List.mem_singleton.1 ha]; exact h
 | b :: c :: l, h, a, ha => by
  rcases List.mem_cons.1 ha with rfl | ha
  ·exact h.1
  ·exact Way.rng h.2.2 a ha
theorem Way.step {x : z6} : ∀ {l : List Int}, Way x l -> ∀ i : Nat, i + 1 < l.length -> gt l ((i + 1 : Nat) : Int) ∈ gt (zg x) (gt l (i : Int))
 | [], _, i, hi => by simp at hi
 | [b], h, i, hi => by simp at hi
 | b :: c :: l, h, 0, hi => h.2.1
 | b :: c :: l, h, i + 1, hi => by
  have := Way.step (l := c :: l) h.2.2 i (by simpa using hi)
  have e : ∀ j : Nat, gt (b :: c :: l) ((j + 1 : Nat) : Int) = gt (c :: l) (j : Int) := fun j => by simp [gt]
  rw [e, e]; exact this
theorem y4o (φ : Nat) (hφ : 800000 < φ) {x : z6} (hx : z4n x) {b0 : Int} {t : List Int} (hD : DF x.places.length (zg x) (wtN x) b0 t) :
  ∀ (n : Nat) (a : Int) (l : List Int), 0 <= a -> a < (x.places.length : Int) -> 0 <= gt t a -> gt t a < (n : Int) -> Way x (l ++ [a]) -> (l.length : Int) + gt t a <= 51200000 ->
   ∃ r, zp φ n a b0 x (l ++ [a]) t (zg x) (z1f x) = some (r, 0, ()) /\ Way x r /\ r.length <= 51200001 := by
 have hG := grN hx
 have hP := hx.places
 intro n
 induction n with
 | zero => intro a l _ _ h1 h2; omega
 | succ n ih =>
  intro a l a0 a1 ta tn hw hln
  rw [zp]
  by_cases he : a = b0
  ·rw [if_neg (by simp [he])]
   exact ⟨_, rfl, hw, by simp; omega⟩
  ·rw [if_pos (by simpa using he), z2 ⟨a0, by rw [hG.len]; exact a1⟩, z2 ⟨a0, by rw [hG.len]; exact a1⟩, z2 rfl]
   have hsz := hG.size a a0 a1
   obtain ⟨q0, q00, q01, hq, tq, hte⟩ := hD.pre a a0 a1 he ta
   -- the neighbours, one by one
   have key : ∀ (m i : Nat), i <= (gt (zg x) a).length -> (gt (zg x) a).length - i < m -> (∃ j : Nat, i <= j /\ j < (gt (zg x) a).length /\ gt (gt (zg x) a) (j : Int) = q0) ->
     ∃ r, z1n φ (zp φ n) m a b0 ((gt (zg x) a).length : Int) (i : Int) x (l ++ [a]) t (gt (zg x) a) (zg x) a (z1f x) = some (r, 0, ()) /\ Way x r /\ r.length <= 51200001 := by
    intro m
    induction m with
    | zero => intro i h1 h2; omega
    | succ m ihm =>
     intro i h1 h2 ⟨j, hj1, hj2, hj3⟩
     have hm : gt (gt (zg x) a) (i : Int) ∈ gt (zg x) a := z4a (by omega) (by omega)
     obtain ⟨r0, r1⟩ := hG.rng a _ a0 a1 hm
     obtain ⟨w0, w1⟩ := hG.wt a _ a0 a1 hm
     obtain ⟨li, hli, l0, l1, _⟩ := zfj hx a0 a1 hm
     have hlt := hD.lt
     have hwt : (gt x.edges ((lget (z1f x) a (gt (gt (zg x) a) (i : Int))).getD default)).minutes = wtN x a (gt (gt (zg x) a) (i : Int)) := rfl
     have htn := (hD.nbr a _ a0 a1 ta hm).1
     have hbd := (hD.bd _ r0 r1).resolve_left (by omega)
     rw [z1n, if_pos (by simp; omega), z2 ⟨by omega, by omega⟩, z2 ⟨r0, by omega⟩, z2 (by
      have : @mget (Nat -> Int) Int ⟨beqA 2⟩ (z1f x) (upd (upd (fun _ => (default : Int)) 0 a) 1 (gt (gt (zg x) a) (i : Int))) = some li := hli
      rw [this]; exact ⟨l0, l1⟩), z2 ⟨a0, by omega⟩]
     have hwt' : (gt x.edges ((@mget (Nat -> Int) Int ⟨beqA 2⟩ (z1f x) (upd (upd (fun _ => (default : Int)) 0 a) 1 (gt (gt (zg x) a) (i : Int)))).getD default)).minutes = wtN x a (gt (gt (zg x) a) (i : Int)) := rfl
     rw [hwt', W_id (x := gt t _ + _) (by omega) (by omega)]
     by_cases hc : gt t (gt (gt (zg x) a) (i : Int)) + wtN x a (gt (gt (zg x) a) (i : Int)) = gt t a
     ·rw [if_pos (by simpa using hc)]
      unfold z3q
      rw [z2 (z35 (by simp; omega) (by omega)), zf7 _ a0 (by rw [hG.len]; exact a1)]
      have hle := ih (gt (gt (zg x) a) (i : Int)) (l ++ [a]) r0 r1 htn (by omega) (Way.snoc hG hw hm) (by simp; omega)
      exact hle
     ·rw [if_neg (by simpa using hc), W_id (by omega) (by omega)]
      have hne : j ≠ i := by
       intro e
       subst e
       apply hc
       rw [hj3]
       have := (hG.sym a q0 a0 a1 hq).2
       rw [this] at hte
       omega
      exact ihm (i + 1) (by omega) (by omega) ⟨j, by omega, hj2, hj3⟩
   obtain ⟨j, hj1, hj2⟩ := zo0 hq
   exact key φ 0 (Nat.zero_le _) (by omega) ⟨j, Nat.zero_le _, hj1, hj2⟩
theorem y2o (φ : Nat) (hφ : 60000000 < φ) (x : z6) (a b : Int) : ∃ r e, z0a φ x a b = some (r, e, ()) /\ (e = 0 -> z49 x = 0 /\ Way x r /\ r.length <= 51200001) := by
 unfold z0a
 rw [z03 _ (by omega), Option.bind_some]
 by_cases hn : z49 x = 0
 case neg =>
  rw [if_pos (by simpa using hn), if_pos (by simpa using hn)]
  exact ⟨[], _, rfl, fun e => absurd e hn⟩
 have hx := zx2 hn
 have hP := hx.places
 rw [if_neg (by simp [hn])]
 obtain ⟨m, rfl⟩ : ∃ m, φ = m + 3 := ⟨φ - 3, by omega⟩
 have g0 : gt [a, b] 0 = a := rfl
 have g1 : gt [a, b] 1 = b := rfl
 have L : ((([a, b] : List Int).length : Nat) : Int) = 2 := rfl
 have step : ∀ n i, z0f (m + 3) (n + 1) 2 i a b x [a, b] x [] = (if (decide ((i : Int) < 2)) = true then (ck ((0 : Int) <= i /\ i < (2 : Int)) (if ((decide (((gt [a, b] i) : Int) < 0)) || (decide (((x.places.length : Int) : Int) <= (gt [a, b] i)))) = true then (some (([] : List Int), 1, ())) else (z0f (m + 3) n 2 (W (i + 1)) a b x [a, b] x []))) else (ck (z3d (x.places.length : Int) 24) (zw (m + 3) (m + 3) x.edges (x.edges.length : Int) 0 a b x x (List.replicate ((x.places.length : Int) : Int).toNat (default : (List Int))) ([] : List ((Nat -> Int) × Int))))) := fun n i => by rw [z0f]; rfl
 rw [L, show m + 3 = (m + 2) + 1 from rfl, step, if_pos (by decide), z2 (by decide), g0]
 by_cases ha : 0 <= a /\ a < (x.places.length : Int)
 case neg =>
  rw [if_pos (by simp; omega)]
  exact ⟨[], 1, rfl, fun e => by cases e⟩
 rw [if_neg (by simp; omega), show W (0 + 1) = 1 by rfl, show m + 2 = (m + 1) + 1 from rfl, step, if_pos (by decide), z2 (by decide), g1]
 by_cases hb : 0 <= b /\ b < (x.places.length : Int)
 case neg =>
  rw [if_pos (by simp; omega)]
  exact ⟨[], 1, rfl, fun e => by cases e⟩
 rw [if_neg (by simp; omega), show W (1 + 1) = 2 by rfl, step, if_neg (by decide), z2 (mk_t _ _ (by omega) (by omega) (by omega)), zcx (m + 3) x a b hx (by omega), z2 (mk_t _ _ (by omega) (by omega) (by omega)), z2 (mk_t _ _ (by omega) (by simp; omega) (by omega))]
 obtain ⟨t, h1, h2⟩ := zcm (m + 3) x a b hx (by omega) hb.1 hb.2
 rw [h2, z2 ⟨ha.1, by rw [h1.lt]; exact ha.2⟩]
 rcases h1.bd a ha.1 ha.2 with h3 | ⟨h3, h4⟩
 ·rw [if_pos (by simp; omega)]
  exact ⟨[], 80, rfl, fun e => by cases e⟩
 ·rw [if_neg (by simp; omega)]
  obtain ⟨r, hr, hw, hl⟩ := y4o (m + 3) (by omega) hx h1 (m + 3) a [] ha.1 ha.2 h3 (by omega) ha (by simp; omega)
  exact ⟨r, 0, hr, fun _ => ⟨hn, hw, hl⟩⟩
end Px
end
section
namespace Px
open Go
set_option linter.unusedVariables false
set_option linter.unusedSimpArgs false
theorem zm7 {n b : Nat} (h : n <= 100000) (hb : b <= 1000) : fits n b := by
 unfold fits
 have : n * b <= 100000 * 1000 := Nat.mul_le_mul h hb
 omega
def z2u (r : zb) (place time : Int) : z1d := ⟨r.item.wagon, place, r.ref, false, time, time⟩
def evs (p : Pool) (r : zb) (i : Int) : List z1 :=
 if r.item.kind = 1 then [⟨z2u r (gt p.readers r.item.other).place r.item.from_, i, false, false, r.item.other⟩]
 else if r.item.kind = 2 \/ r.item.kind = 9 then [⟨z2u r r.item.place r.item.from_, i, false, true, -1⟩, ⟨z2u r r.item.place r.item.to, i, true, true, -1⟩]
 else if r.item.kind = 3 \/ r.item.kind = 4 \/ r.item.kind = 6 \/ r.item.kind = 7 then [⟨z2u r r.item.place r.item.from_, i, false, false, -1⟩] else []
theorem zz8 (φ : Nat) (p : Pool) (r : zb) (i : Int) (h : r.item.kind = 1 -> 0 <= r.item.other /\ r.item.other < (p.readers.length : Int)) : z13 φ p r i = some (evs p r i, ()) := by
 by_cases h1 : r.item.kind = 1
 ·have h' := h h1
  simp [z13, evs, h1, z2 h', z04, z2u]
 by_cases h2 : r.item.kind = 2
 ·simp [z13, evs, h2, z0j, z2f, z2g, z04, z2u]
 by_cases h9 : r.item.kind = 9
 ·simp [z13, evs, h9, z0j, z2f, z2g, z04, z2u]
 by_cases h3 : r.item.kind = 3
 ·simp [z13, evs, h3, z0j, z0i, z04, z2u]
 by_cases h4 : r.item.kind = 4
 ·simp [z13, evs, h4, z0j, z0i, z04, z2u]
 by_cases h6 : r.item.kind = 6
 ·simp [z13, evs, h6, z0j, z0i, z04, z2u]
 by_cases h7 : r.item.kind = 7
 ·simp [z13, evs, h7, z0j, z0i, z04, z2u]
 ·simp [z13, evs, h1, h2, h9, h3, h4, h6, h7, z0j, z0i]
theorem zj7 {p : Pool} {r : zb} {i : Int} {x : z1} (h : x ∈ evs p r i) : x.report = i /\ x.visit.wagon = r.item.wagon /\ x.visit.ref = r.ref := by
 unfold evs at h
 split at h
 ·simp only [List.mem_singleton] at h; subst h; exact ⟨rfl, rfl, rfl⟩
 ·split at h
  ·simp only [List.mem_cons, List.not_mem_nil, or_false] at h
   rcases h with rfl | rfl <;> exact ⟨rfl, rfl, rfl⟩
  ·split at h
   ·simp only [List.mem_singleton] at h; subst h; exact ⟨rfl, rfl, rfl⟩
   ·cases h
theorem zz6 (p : Pool) (r : zb) (i : Int) : (evs p r i).length <= 2 := by
 unfold evs
 split
 ·simp
 ·split
  ·simp
  ·split <;> simp
theorem yfy (p : Pool) (r : zb) (i : Int) : (evs p r i).Pairwise fun a b => a.report ≠ b.report \/ a.second ≠ b.second := by
 unfold evs
 split
 ·simp
 ·split
  ·simp
  ·split <;> simp
def cntN (p : Pool) (l : List zb) (n : Nat) : List Int := ((List.range n).filter fun (i : Nat) => zf0 p (gt l (i : Int)).item).map fun (i : Nat) => (i : Int)
def cnt (p : Pool) (l : List zb) : List Int := cntN p l l.length
theorem zxp (p : Pool) (l : List zb) (n : Nat) : cntN p l (n + 1) = cntN p l n ++ (bif zf0 p (gt l (n : Int)).item then [(n : Int)] else []) := by
 unfold cntN
 rw [List.range_succ, List.filter_append, List.map_append]
 congr 1
 cases h : zf0 p (gt l (n : Int)).item <;> simp [h]
theorem zgr (p : Pool) (l : List zb) (n : Nat) : (cntN p l n).length <= n := by
 unfold cntN
 rw [List.length_map]
 exact Nat.le_trans (List.length_filter_le _ _) (by simp)
theorem zqw {p : Pool} {l : List zb} {i : Int} (h : i ∈ cnt p l) : 0 <= i /\ i < (l.length : Int) /\ zf0 p (gt l i).item = true := by
 simp only [cnt, cntN, List.mem_map, List.mem_filter, List.mem_range] at h
 obtain ⟨n, ⟨h1, h2⟩, rfl⟩ := h
 exact ⟨by omega, by omega, h2⟩
theorem yh6 (p : Pool) (l : List zb) : (cnt p l).Pairwise (· < ·) := by
 unfold cnt cntN
 rw [List.pairwise_map]
 refine (List.pairwise_lt_range.filter _).imp ?_
 intro a b h
 omega
structure FewL (l : List zb) : Prop where
 len : l.length <= 1000
 parts : ∀ r ∈ l, r.item.parts.length <= 1000
theorem FewL.gt {l : List zb} (h : FewL l) {i : Int} (h0 : 0 <= i) (hi : i < (l.length : Int)) : (Px.gt l i).item.parts.length <= 1000 := h.parts _ (z4a h0 hi)
theorem y3t (φ : Nat) (hφ : 800000 < φ) {p : Pool} (hc : z06 p = 0) {l : List zb} (hl : FewL l) : zbx φ p l = some (cnt p l, ()) := by
 have h1 := hl.len
 unfold zbx
 refine zh (fun n i acc => z2k φ n l (l.length : Int) i p acc) l.length (fun i acc => acc = cntN p l i) (fun o => o = some (cnt p l, ())) ?_ ?_ φ [] rfl (by omega)
 ·intro n i acc hi hacc hs
  rw [z2k, if_pos (by simp; omega), z2 ⟨by omega, by omega⟩, zyz φ hφ hc (hl.gt (by omega) (by omega)), Option.bind_some, W_id (by omega) (by omega)]
  have hs' := hs (cntN p l (i + 1)) rfl
  rw [zxp] at hs'
  cases h : zf0 p (gt l (i : Int)).item with
  | true =>
   rw [h] at hs'
   rw [if_pos (by rfl), z2 (zm7 (by have := zgr p l i; rw [hacc]; simp; omega) (by omega)), hacc]
   exact hs'
  | false =>
   rw [h] at hs'
   simp only [cond_false, List.append_nil] at hs'
   rw [if_neg (by decide), hacc]
   exact hs'
 ·intro n acc hacc
  rw [z2k, if_neg (by simp), hacc]; rfl
def unsC (p : Pool) (l : List zb) (c : List Int) (w : Int) : List z1 := c.flatMap fun i => if (gt l i).item.wagon = w then evs p (gt l i) i else []
def uns (p : Pool) (l : List zb) (w : Int) : List z1 := unsC p l (cnt p l) w
theorem ziz (p : Pool) (l : List zb) (w : Int) : ∀ c : List Int, (unsC p l c w).length <= 2 * c.length
 | [] => by simp [unsC]
 | i :: c => by
  have := ziz p l w c
  have h2 := zz6 p (gt l i) i
  unfold unsC at *
  rw [List.flatMap_cons, List.length_append, List.length_cons]
  split
  ·omega
  ·simp only [List.length_nil]; omega
theorem y7r {a b : z1} (h : a.report ≠ b.report \/ a.second ≠ b.second) : cfEv a b < 0 \/ cfEv b a < 0 := by
 rw [zdy, zdy]
 have h2 : a.second ≠ b.second -> ordB a.second ≠ ordB b.second := by
  cases a.second <;> cases b.second <;> simp [ordB]
 by_cases hs : a.second = b.second
 ·have h3 := h.resolve_right (fun q => q hs)
  rw [hs]; omega
 ·have := h2 hs
  omega
theorem ycd (p : Pool) (l : List zb) (w : Int) : (uns p l w).Pairwise fun a b => a.report ≠ b.report \/ a.second ≠ b.second := by
 unfold uns unsC
 rw [List.pairwise_flatMap]
 refine ⟨fun i hi => ?_, (yh6 p l).imp ?_⟩
 ·split
  ·exact yfy _ _ _
  ·exact List.Pairwise.nil
 ·intro i j hij x hx y hy
  split at hx
  ·split at hy
   ·rw [(zj7 hx).1, (zj7 hy).1]
    exact .inl (by omega)
   ·cases hy
  ·cases hx
theorem zqm {p : Pool} {l : List zb} (hl : l.length <= 1000) {w : Int} {x : z1} (h : x ∈ uns p l w) : 0 <= x.report /\ x.report < (l.length : Int) /\ x.visit.wagon = w /\ zf0 p (gt l x.report).item = true /\ x ∈ evs p (gt l x.report) x.report := by
 simp only [uns, unsC, List.mem_flatMap] at h
 obtain ⟨i, hi, hx⟩ := h
 obtain ⟨h1, h2, h3⟩ := zqw hi
 split at hx
 ·rename_i hw
  obtain ⟨r1, r2, r3⟩ := zj7 hx
  rw [r1]
  exact ⟨h1, h2, by rw [r2, hw], h3, hx⟩
 ·cases hx
def ltEv (a b : z1) : Bool := decide (cfEv a b < 0)
def srt (p : Pool) (l : List zb) (w : Int) : List z1 := zb8 ltEv (uns p l w)
theorem y3s {p : Pool} {l : List zb} (hl : l.length <= 1000) (w : Int) : sortEv (uns p l w) = some (srt p l w) := by
 refine yan (fun y hy => ?_) ?_ ((ycd p l w).imp fun h => y7r h)
 ·obtain ⟨h1, h2, _⟩ := zqm hl hy
  simp only [okEv, decide_eq_true_eq]; omega
 ·have := ziz p l w (cnt p l)
  have h2 := zgr p l l.length
  unfold uns cnt at *
  omega
def covM (e : z1) (m : List (Int × Bool)) : List (Int × Bool) := if (e.stay && e.second) = true then mdel m e.report else if e.stay = true then mset m e.report true else m
def zf8 (e : z1) (b : Bool) : z1 := ⟨⟨e.visit.wagon, e.visit.place, e.visit.ref, b, e.visit.early, e.visit.late⟩, e.report, e.second, e.stay, e.reader⟩
def zid : List z1 -> List (Int × Bool) -> List z1
 | [], _ => []
 | e :: t, m => zf8 e (decide ((0 : Int) < ((covM e m).length : Int))) :: zid t (covM e m)
theorem zc2 : ∀ (t : List z1) (m : List (Int × Bool)), (zid t m).length = t.length
 | [], _ => rfl
 | e :: t, m => by simp [zid, zc2 t]
def z5t (p : Pool) (l : List zb) (w : Int) : List z1 := zid (srt p l w) []
theorem y6i {α : Type} (a : List α) (x y : α) (b : List α) : zu (a ++ x :: b) (a.length : Int) y = a ++ y :: b := by
 simp [zu]
theorem y7t {α : Type} [Inhabited α] (a : List α) (x : α) (b : List α) : gt (a ++ x :: b) (a.length : Int) = x := by
 simp [gt]
theorem y4g (φ : Nat) (k : Int -> Int -> List (List z1) -> Option ((List (List z1)) × Unit)) (x19 x20 x24 : Int) (x23 : List (List z1)) :
  ∀ (n : Nat) (done todo : List z1) (m : List (Int × Bool)), todo.length < n -> done.length + todo.length <= 100000 ->
   z16 φ k n ((done.length + todo.length : Nat) : Int) (done.length : Int) x19 x20 (done ++ todo) m x23 x24 = k x19 (W (x20 + 1)) (zu x23 x24 (done ++ zid todo m)) := by
 intro n
 induction n with
 | zero => intro d t m h _; omega
 | succ n ih =>
  intro d t m hn hl
  cases t with
  | nil =>
   rw [z16, if_neg (by simp)]
   rfl
  | cons e t =>
   simp only [List.length_cons] at hn hl
   have hin : (0 : Int) <= (d.length : Int) /\ (d.length : Int) < ((d ++ e :: t).length : Int) := ⟨by omega, by simp; omega⟩
   have key : ∀ m', z3i φ (z16 φ k n) (d.length : Int) ((d.length + (e :: t).length : Nat) : Int) (d.length : Int) x19 x20 (d ++ e :: t) m' x23 x24 =
     k x19 (W (x20 + 1)) (zu x23 x24 (d ++ zf8 e (decide ((0 : Int) < (m'.length : Int))) :: zid t m')) := by
    intro m'
    unfold z3i
    rw [z2 hin, y7t, W_id (by omega) (by omega), y6i]
    have := ih (d ++ [zf8 e (decide ((0 : Int) < (m'.length : Int)))]) t m' (by omega) (by simp; omega)
    simp only [List.length_append, List.length_cons, List.length_nil, List.append_assoc, List.cons_append, List.nil_append] at this
    rw [show ((d.length + (e :: t).length : Nat) : Int) = ((d.length + (0 + 1) + t.length : Nat) : Int) by simp; omega, show (d.length : Int) + 1 = ((d.length + (0 + 1) : Nat) : Int) by omega]
    exact this
   rw [z16, if_pos (by simp; omega), z2 hin, z2 (fun _ => hin), y7t]
   have hg : ∀ m', covM e m = m' -> zid (e :: t) m = zf8 e (decide ((0 : Int) < (m'.length : Int))) :: zid t m' := fun m' hm => by subst hm; rfl
   by_cases h1 : (e.stay && e.second) = true
   ·rw [if_pos h1, z2 hin, key, hg _ (if_pos h1)]
   ·rw [if_neg h1, z2 hin]
    by_cases h2 : e.stay = true
    ·rw [if_pos h2, z2 hin, key, hg (mset m e.report true) (by unfold covM; rw [if_neg h1, if_pos h2])]
    ·rw [if_neg h2, key, hg m (by unfold covM; rw [if_neg h1, if_neg h2])]
theorem zqa (φ : Nat) (hφ : 800000 < φ) {p : Pool} (hc : z06 p = 0) {l : List zb} (hl : FewL l) : z7q φ p l = some ((List.range p.fleet.wagons.length).map fun (w : Nat) => z5t p l (w : Int), ()) := by
 have h1 := hl.len
 obtain ⟨_, hf, _⟩ := z6n hc
 obtain ⟨_, f2, _⟩ := z56 hf
 have hcl := zgr p l l.length
 unfold z7q
 rw [z2 (mk_t _ _ (by omega) (by omega) (by omega)), y3t φ hφ hc hl, Option.bind_some]
 generalize hn0 : p.fleet.wagons.length = n0 at *
 have second : ∀ out : List (List z1), out.length = n0 -> (∀ w : Nat, w < n0 -> gt out (w : Int) = uns p l w) -> z1s φ φ (out.length : Int) 0 out = some ((List.range n0).map fun (w : Nat) => z5t p l (w : Int), ()) := by
  intro out ho hu
  rw [ho]
  refine zh (fun n i o => z1s φ n (n0 : Int) i o) n0 (fun i o => o.length = n0 /\ ∀ w : Nat, w < n0 -> gt o (w : Int) = if w < i then z5t p l w else uns p l w) (fun o => o = some ((List.range n0).map fun (w : Nat) => z5t p l (w : Int), ())) ?_ ?_ φ out ⟨ho, fun w hw => by rw [hu w hw, if_neg (by omega)]⟩ (by omega)
  ·intro n i o hi ⟨ho1, ho2⟩ hs
   rw [z1s, if_pos (by simp; omega), z2 ⟨by omega, by omega⟩, z2 ⟨by omega, by omega⟩, z2 rfl, ho2 i hi, if_neg (by omega), y3s h1, Option.bind_some]
   have hsl : (srt p l (i : Int)).length <= 2000 := by
    rw [srt, (z1r _ _).length_eq]
    have := ziz p l i (cnt p l)
    unfold uns cnt at *
    omega
   have := y4g φ (z1s φ n) (n0 : Int) (i : Int) (i : Int) o φ [] (srt p l (i : Int)) [] (by omega) (by simp; omega)
   simp only [List.length_nil, Nat.zero_add, List.nil_append] at this
   refine this.trans ?_
   rw [W_id (by omega) (by omega)]
   refine hs _ ⟨by rw [z0e]; exact ho1, fun w hw => ?_⟩
   rw [zt _ _ _ _ (by omega) (by omega) (by omega)]
   by_cases e : w = i
   ·subst e; rw [if_pos rfl, if_pos (by omega)]; rfl
   ·rw [if_neg (by omega), ho2 w hw]
    by_cases h2 : w < i
    ·rw [if_pos h2, if_pos (by omega)]
    ·rw [if_neg h2, if_neg (by omega)]
  ·intro n o ⟨ho1, ho2⟩
   rw [z1s, if_neg (by simp)]
   congr 2
   refine List.ext_getElem (by simp [ho1]) fun w hw hw2 => ?_
   have := ho2 w (by omega)
   rw [z4x hw, if_pos (by omega)] at this
   simpa using this
 refine zh (fun n i o => z2j φ n l (cnt p l) ((cnt p l).length : Int) i p o) (cnt p l).length (fun i o => o.length = n0 /\ ∀ w : Nat, w < n0 -> gt o (w : Int) = unsC p l ((cnt p l).take i) w) (fun o => o = some ((List.range n0).map fun (w : Nat) => z5t p l (w : Int), ())) ?_ ?_ φ _ ⟨by simp, fun w hw => ?_⟩ (by unfold cnt; omega)
 ·intro n i o hi ⟨ho1, ho2⟩ hs
  have hmem : gt (cnt p l) (i : Int) ∈ cnt p l := z4a (by omega) (by omega)
  obtain ⟨c1, c2, c3⟩ := zqw hmem
  have hI := zca hc (hl.gt c1 c2) c3
  have hcn : (cnt p l).length <= 1000 := by unfold cnt; omega
  rw [z2j, if_pos (by simp; omega), z2 ⟨by omega, by omega⟩, z2 ⟨c1, c2⟩, zz8 φ p _ _ hI.read, Option.bind_some]
  have hW : W ((i : Int) + 1) = (i : Int) + 1 := W_id (by omega) (by omega)
  have htake : ∀ w, unsC p l ((cnt p l).take (i + 1)) w = unsC p l ((cnt p l).take i) w ++ (if (gt l (gt (cnt p l) (i : Int))).item.wagon = w then evs p (gt l (gt (cnt p l) (i : Int))) (gt (cnt p l) (i : Int)) else []) := by
   intro w
   rw [z0s _ _ hi]
   simp [unsC]
  generalize gt (cnt p l) (i : Int) = ci at *
  generalize hev : evs p (gt l ci) ci = E at *
  have hE : E.length <= 2 := by rw [<- hev]; exact zz6 _ _ _
  simp only []
  by_cases h0 : 0 < E.length
  ·have hkind : (gt l ci).item.kind <= 9 := by
    rcases Int.lt_or_le 9 (gt l ci).item.kind with h | h
    ·exfalso
     have : E = [] := by
      rw [<- hev]; unfold evs
      rw [if_neg (by omega), if_neg (by omega), if_neg (by omega)]
     rw [this] at h0; simp at h0
    ·exact h
   have hwg := hI.wagon hkind
   rw [hn0] at hwg
   obtain ⟨w0, hw0⟩ : ∃ w0 : Nat, (gt l ci).item.wagon = (w0 : Int) := ⟨(gt l ci).item.wagon.toNat, by omega⟩
   rw [hw0] at hwg htake ⊢
   have hwg' : (0 : Int) <= (w0 : Int) /\ (w0 : Int) < (o.length : Int) := ⟨by omega, by omega⟩
   have hul := ziz p l w0 ((cnt p l).take i)
   rw [if_pos (by simpa using h0), z2 ⟨c1, c2⟩, z2 hwg', z2 hwg', z2 trivial, ho2 w0 (by omega),
    z2 (zm7 (by rw [List.length_take] at hul; omega) (by omega)), z2 hwg', z2 trivial, hW]
   refine hs _ ⟨by rw [z0e]; exact ho1, fun w hw => ?_⟩
   rw [zt _ _ _ _ (by omega) (by omega) (by omega), htake]
   by_cases e : (w : Int) = (w0 : Int)
   ·rw [if_pos e, e, if_pos rfl]
   ·rw [if_neg e, if_neg (fun q => e q.symm), List.append_nil, ho2 w hw]
  ·have hnil : E = [] := List.eq_nil_of_length_eq_zero (by omega)
   rw [if_neg (by simpa using h0), hW]
   refine hs _ ⟨ho1, fun w hw => ?_⟩
   rw [htake, hnil, ho2 w hw]
   split <;> simp
 ·intro n o ⟨ho1, ho2⟩
  rw [z2j, if_neg (by simp)]
  refine second o ho1 fun w hw => ?_
  rw [ho2 w hw, List.take_length]; rfl
 ·rw [z6g _ _ _ (by omega) (by simp; omega)]
  simp [unsC]
  rfl
theorem zp0 {p : Pool} {l : List zb} {w : Int} (h0 : 0 <= w) (h : w < (p.fleet.wagons.length : Int)) : gt ((List.range p.fleet.wagons.length).map fun (w : Nat) => z5t p l (w : Int)) w = z5t p l w := by
 obtain ⟨n, rfl⟩ : ∃ n : Nat, w = (n : Int) := ⟨w.toNat, by omega⟩
 rw [z4x (by simp; omega)]
 simp
end Px
end
section
namespace Px
open Go
set_option linter.unusedVariables false
set_option linter.unusedSimpArgs false
theorem z6h (m : List (Int × Int)) (a v c : Int) : mget (mset m a v) c = if c = a then some v else mget m c := by
 induction m with
 | nil =>
  show (bif c == a then some v else none) = _
  by_cases h : c = a
  ·rw [if_pos h]; simp [h]
  ·rw [if_neg h]
   have : (c == a) = false := by simpa using h
   rw [this]; rfl
 | cons p m ih =>
  obtain ⟨k, w⟩ := p
  show mget (bif a == k then (a, v) :: m else (k, w) :: mset m a v) c = _
  have e1 : mget ((k, w) :: m) c = bif c == k then some w else mget m c := rfl
  by_cases h1 : a = k
  ·subst h1
   simp only [beq_self_eq_true, cond_true]
   show (bif c == a then some v else mget m c) = _
   rw [e1]
   by_cases h : c = a
   ·rw [if_pos h]; simp [h]
   ·rw [if_neg h]
    have : (c == a) = false := by simpa using h
    rw [this]; rfl
  ·have : (a == k) = false := by simpa using h1
   rw [this]
   show (bif c == k then some w else mget (mset m a v) c) = _
   rw [ih, e1]
   by_cases h2 : c = k
   ·subst h2
    have h3 : ¬ c = a := fun e => h1 e.symm
    simp [h3]
   ·have : (c == k) = false := by simpa using h2
    rw [this]; rfl
theorem y59 (φ : Nat) (M : Int) (hM : 0 <= M) (km : List (Int × Int)) (hkm : ∀ r v, mget km r = some v -> 0 <= v /\ v <= M) (hφ : 16 < φ) : ∃ s, z0k φ φ 0 [] km = some (s, 0, ()) /\ s.length <= 16 /\ ∀ y ∈ s, 0 <= y.km /\ y.km <= M := by
 refine zh (fun n i sh => z0k φ n i sh km) 16 (fun i sh => sh.length <= i /\ ∀ y ∈ sh, 0 <= y.km /\ y.km <= M) (fun o => ∃ s, o = some (s, 0, ()) /\ s.length <= 16 /\ ∀ y ∈ s, 0 <= y.km /\ y.km <= M) ?_ ?_ φ [] ⟨by simp, fun y hy => by cases hy⟩ (by omega)
 ·intro n i sh hi ⟨h1, h2⟩ hs
  rw [z0k, if_pos (by simp; omega), W_id (by omega) (by omega)]
  cases hg : mget km (i : Int) with
  | none =>
   rw [if_neg (by simp)]
   exact hs _ ⟨by omega, h2⟩
  | some v =>
   rw [if_pos (by rfl), z2 (zm7 (by simp; omega) (by omega))]
   refine hs _ ⟨by simp; omega, fun y hy => ?_⟩
   rcases List.mem_append.1 hy with hy | hy
   ·exact h2 y hy
   ·rw [List.mem_singleton.1 hy]; exact hkm _ _ hg
 ·intro n sh ⟨h1, h2⟩
  rw [z0k, if_neg (by simp)]
  exact ⟨sh, rfl, h1, h2⟩
theorem y7b (φ : Nat) (hφ : 60000000 < φ) {x : z6} (hn : z49 x = 0) {rt : List Int} (hw : Way x rt) (hl : rt.length <= 51200001) : ∃ s, z10 φ x rt = some (s, 0, ()) /\ s.length <= 16 /\ ∀ y ∈ s, 0 <= y.km /\ y.km <= 512000020000 := by
 have hx := zx2 hn
 have hP := hx.places
 unfold z10
 rw [z03 _ (by omega), Option.bind_some, if_neg (by simp [hn])]
 have hr := hw.rng
 refine zh (fun n i (_ : Unit) => z0q φ n rt (rt.length : Int) i rt x x [] []) rt.length (fun _ _ => True) (fun o => ∃ s, o = some (s, 0, ()) /\ s.length <= 16 /\ ∀ y ∈ s, 0 <= y.km /\ y.km <= 512000020000) ?_ ?_ φ () trivial (by omega)
 ·intro n i _ hi _ hs
  obtain ⟨h1, h2⟩ := hr _ (z4a (l := rt) (i := (i : Int)) (by omega) (by omega))
  rw [z0q, if_pos (by simp; omega), z2 ⟨by omega, by omega⟩, if_neg (by simp; omega), W_id (by omega) (by omega)]
  exact hs () trivial
 ·intro n _ _
  rw [z0q, if_neg (by simp), z2 (mk_t _ _ (by omega) (by omega) (by omega)), zaz φ x rt [] hx (by omega)]
  clear n
  have walk : ∀ (n i : Nat) (km : List (Int × Int)), 1 <= i -> rt.length + 1 < n + i -> (∀ r v, mget km r = some v -> 0 <= v /\ v <= 10000 * (i : Int)) -> i <= rt.length + 1 ->
    ∃ s, zo φ n rt i x [] km (zg x) (z1f x) = some (s, 0, ()) /\ s.length <= 16 /\ ∀ y ∈ s, 0 <= y.km /\ y.km <= 512000020000 := by
   intro n
   induction n with
   | zero => intro i km h1 h2 hkm h3; exfalso; omega
   | succ n ih =>
    intro i km h1 h2 hkm h3
    by_cases hi : i < rt.length
    ·obtain ⟨j, rfl⟩ : ∃ j, i = j + 1 := ⟨i - 1, by omega⟩
     have hst := hw.step j hi
     obtain ⟨r0, r1⟩ := hr _ (z4a (l := rt) (i := (j : Int)) (by omega) (by omega))
     obtain ⟨li, hli, l0, l1, _⟩ := zfj hx r0 r1 hst
     obtain ⟨_, _, _, _, _, _, _, _, _, k0, k1⟩ := hx.ends l0 l1
     have hWm : W (((j + 1 : Nat) : Int) - 1) = (j : Int) := by rw [W_id (by omega) (by omega)]; omega
     have hli' : @mget (Nat -> Int) Int ⟨beqA 2⟩ (z1f x) (upd (upd (fun _ => (default : Int)) 0 (gt rt (j : Int))) 1 (gt rt ((j + 1 : Nat) : Int))) = some li := hli
     rw [zo, if_pos (by simp; omega), hWm, z2 ⟨by omega, by omega⟩, z2 ⟨by omega, by omega⟩, hli', if_neg (by simp)]
     simp only [Option.getD_some]
     have hold : 0 <= (mget km (gt x.edges li).railway).getD default /\ (mget km (gt x.edges li).railway).getD default <= 10000 * ((j + 1 : Nat) : Int) := by
      cases hg : mget km (gt x.edges li).railway with
      | none => exact ⟨Int.le_refl _, by show (0 : Int) <= _; omega⟩
      | some v => exact hkm _ _ hg
     rw [z2 ⟨l0, l1⟩, z2 ⟨l0, l1⟩, W_id (x := _ + (gt x.edges li).km) (by omega) (by omega), W_id (by omega) (by omega)]
     have := ih (j + 1 + 1) (mset km (gt x.edges li).railway ((mget km (gt x.edges li).railway).getD default + (gt x.edges li).km)) (by omega) (by omega) (fun r v hv => by
      rw [z6h] at hv
      split at hv
      ·have := Option.some.inj hv
       omega
      ·have := hkm r v hv
       omega) (by omega)
     exact this
    ·rw [zo, if_neg (by simp; omega)]
     obtain ⟨s, h4, h5, h6⟩ := y59 φ (10000 * (i : Int)) (by omega) km hkm (by omega)
     exact ⟨s, h4, h5, fun y hy => by have := h6 y hy; omega⟩
  exact walk φ 1 [] (by omega) (by omega) (fun r v hv => by simp [mget] at hv) (by omega)
theorem zpa (φ : Nat) (hφ : 60000000 < φ) (x : z6) (a b : Int) : ∃ k, z27 φ x a b = some (k, ()) /\ 0 <= k /\ k <= 10000000000000 := by
 obtain ⟨r, e, hr, he⟩ := y2o φ hφ x a b
 unfold z27
 rw [hr, Option.bind_some]
 by_cases h0 : e = 0
 case neg => rw [if_pos (by simpa using h0)]; exact ⟨0, rfl, by omega, by omega⟩
 obtain ⟨hn, hw, hl⟩ := he h0
 rw [if_neg (by simp [h0])]
 obtain ⟨s, hs, hs1, hs2⟩ := y7b φ hφ hn hw hl
 rw [hs, Option.bind_some]
 refine zh (fun n i k => z1t φ n k s (s.length : Int) i) s.length (fun i k => 0 <= k /\ k <= 512000020000 * (i : Int)) (fun o => ∃ k, o = some (k, ()) /\ 0 <= k /\ k <= 10000000000000) ?_ ?_ φ 0 ⟨by omega, by omega⟩ (by omega)
 ·intro n i k hi ⟨h1, h2⟩ hk
  obtain ⟨h3, h4⟩ := hs2 _ (z4a (l := s) (i := (i : Int)) (by omega) (by omega))
  rw [z1t, if_pos (by simp; omega), z2 ⟨by omega, by omega⟩, W_id (x := k + _) (by omega) (by omega), W_id (by omega) (by omega)]
  exact hk _ ⟨by omega, by omega⟩
 ·intro n k ⟨h1, h2⟩
  rw [z1t, if_neg (by simp)]
  exact ⟨k, rfl, h1, by omega⟩
def zhd (f : Int -> Int -> Int) (s : Span) : List z1 -> Int
 | a :: b :: l => (if s.from_ <= a.visit.early /\ b.visit.early <= s.to then f a.visit.place b.visit.place else 0) + zhd f s (b :: l)
 | _ => 0
theorem y1x {f : Int -> Int -> Int} {M : Int} (hM : 0 <= M) (hf : ∀ a b, 0 <= f a b /\ f a b <= M) (s : Span) : ∀ t : List z1, 0 <= zhd f s t /\ zhd f s t <= M * t.length
 | [] => ⟨by simp [zhd], by simp [zhd]⟩
 | [a] => ⟨by simp [zhd], by simp [zhd]; omega⟩
 | a :: b :: l => by
  obtain ⟨h1, h2⟩ := y1x hM hf s (b :: l)
  have := hf a.visit.place b.visit.place
  have e : M * ((a :: b :: l).length : Int) = M * ((b :: l).length : Int) + M := by simp only [List.length_cons]; rw [Int.natCast_succ (n := l.length + 1), Int.mul_add, Int.mul_one]
  rw [e]
  simp only [zhd]
  split <;> omega
def zgq (p : Pool) (w : Int) (s : Span) : Prop := 0 <= w /\ w < (p.fleet.wagons.length : Int) /\ 0 <= s.from_ /\ s.from_ <= s.to /\ s.to <= 1073741824
instance (p : Pool) (w : Int) (s : Span) : Decidable (zgq p w s) := inferInstanceAs (Decidable (_ /\ _))
theorem z6e {p : Pool} {l : List zb} (hl : l.length <= 1000) (w : Int) : (z5t p l w).length <= 2000 := by
 unfold z5t
 rw [zc2, srt, (z1r _ _).length_eq]
 have := ziz p l w (cnt p l)
 have := zgr p l l.length
 unfold uns cnt at *
 omega
theorem zim {α : Type} [Inhabited α] (l : List α) (i : Nat) (h : i + 1 < l.length) : l.drop i = gt l (i : Int) :: gt l ((i + 1 : Nat) : Int) :: l.drop (i + 2) := by
 rw [zhs l i (by omega), zhs l (i + 1) h]
theorem yg4 (φ : Nat) (hφ : 60000000 < φ) (p : Pool) {l : List zb} (hl : FewL l) {f : Int -> Int -> Int} (hf : ∀ a b, z27 φ p.network a b = some (f a b, ()) /\ 0 <= f a b /\ f a b <= 10000000000000) (w : Int) (s : Span) :
  zgm φ p l w s = some (if z06 p ≠ 0 then (0, z06 p, ()) else if zgq p w s then (zhd f s (z5t p l w), 0, ()) else (0, 1, ())) := by
 unfold zgm
 rw [z61 φ (by omega), Option.bind_some]
 by_cases hc : z06 p = 0
 case neg => rw [if_pos (by simpa using hc), if_pos hc]
 rw [if_neg (by simp [hc]), if_neg (fun h : z06 p ≠ 0 => h hc)]
 by_cases hs : zgq p w s
 case neg =>
  rw [if_pos (by unfold zgq at hs; simp; omega), if_neg hs]
 rw [if_neg (by unfold zgq at hs; simp; omega), if_pos hs, zqa φ (by omega) hc hl, Option.bind_some, z2 ⟨hs.1, by simp; exact hs.2.1⟩, zp0 hs.1 hs.2.1]
 have htl := z6e (p := p) hl.len w
 generalize z5t p l w = t at *
 have hb := fun n : Nat => y1x (f := f) (M := 10000000000000) (by omega) (fun a b => (hf a b).2) s (t.drop n)
 have key : ∀ (n i : Nat) (acc : Int), t.length < n + i -> i <= t.length -> 0 <= acc -> acc <= 10000000000000 * (i : Int) -> z7p φ n acc t ((i + 1 : Nat) : Int) p s = some (acc + zhd f s (t.drop i), 0, ()) := by
  intro n
  induction n with
  | zero =>
   intro i acc h1 h2 h3 h4
   exfalso; omega
  | succ n ih =>
   intro i acc h1 h2 h3 h4
   by_cases hi : i + 1 < t.length
   ·have hWm : W (((i + 1 : Nat) : Int) - 1) = (i : Int) := by rw [W_id (by omega) (by omega)]; omega
    have hWp : W (((i + 1 : Nat) : Int) + 1) = ((i + 1 + 1 : Nat) : Int) := by rw [W_id (by omega) (by omega)]; omega
    obtain ⟨hf1, hf2, hf3⟩ := hf (gt t (i : Int)).visit.place (gt t ((i + 1 : Nat) : Int)).visit.place
    have hd : t.drop (i + 1) = gt t ((i + 1 : Nat) : Int) :: t.drop (i + 2) := zhs t (i + 1) hi
    have e := zim t i hi
    rw [<- hd] at e
    have ek : zhd f s (t.drop i) = (if s.from_ <= (gt t (i : Int)).visit.early /\ (gt t ((i + 1 : Nat) : Int)).visit.early <= s.to then f (gt t (i : Int)).visit.place (gt t ((i + 1 : Nat) : Int)).visit.place else 0) + zhd f s (t.drop (i + 1)) := by
     rw [zim t i hi, hd]; rfl
    rw [z7p, if_pos (by simp; omega)]
    unfold zac zaf
    rw [hWm, z2 ⟨by omega, by omega⟩, z2 ⟨by omega, by omega⟩, hWp, ek]
    by_cases hcond : s.from_ <= (gt t (i : Int)).visit.early /\ (gt t ((i + 1 : Nat) : Int)).visit.early <= s.to
    ·rw [if_pos (by simpa using hcond), if_pos hcond, hf1, Option.bind_some, W_id (x := acc + _) (by omega) (by omega), ih (i + 1) _ (by omega) (by omega) (by omega) (by omega)]
     congr 2
     omega
    ·rw [if_neg (by simpa using hcond), if_neg hcond, ih (i + 1) acc (by omega) (by omega) h3 (by omega)]
     congr 2
     omega
   ·rw [z7p, if_neg (by simp; omega)]
    have : zhd f s (t.drop i) = 0 := by
     have hdl : (t.drop i).length <= 1 := by rw [List.length_drop]; omega
     match hq : t.drop i, hdl with
     | [], _ => rfl
     | [a], _ => rfl
     | a :: b :: q, h => simp at h
    rw [this, Int.add_zero]
 have := key φ 0 0 (by omega) (by omega) (by omega) (by omega)
 rw [List.drop_zero, Int.zero_add] at this
 exact this
theorem y2q (φ : Nat) (hφ : 800000 < φ) (p : Pool) {l : List zb} (hl : FewL l) (w : Int) :
  z91 φ p l w = some (if z06 p = 0 /\ 0 <= w /\ w < (p.fleet.wagons.length : Int) then (z5t p l w).map (·.visit) else [], ()) := by
 unfold z91
 rw [z61 φ hφ, Option.bind_some]
 by_cases hc : z06 p = 0 /\ 0 <= w /\ w < (p.fleet.wagons.length : Int)
 case neg =>
  rw [if_neg hc, if_pos (by
   simp only [Bool.or_eq_true, bne_iff_ne, ne_eq, decide_eq_true_eq]
   by_cases h : z06 p = 0
   ·omega
   ·exact .inl (.inl h))]
 rw [if_pos hc, if_neg (by simp [hc]), zqa φ hφ hc.1 hl, Option.bind_some, z2 ⟨hc.2.1, by simp; exact hc.2.2⟩, zp0 hc.2.1 hc.2.2]
 have htl := z6e (p := p) hl.len w
 generalize z5t p l w = t at *
 refine zh (fun n i acc => z4j φ n t (t.length : Int) i acc) t.length (fun i acc => acc = (t.take i).map (·.visit)) (fun o => o = some (t.map (·.visit), ())) ?_ ?_ φ [] (by simp) (by omega)
 ·intro n i acc hi hacc hs
  rw [z4j, if_pos (by simp; omega), z2 ⟨by omega, by omega⟩, z2 (zm7 (by rw [hacc]; simp; omega) (by omega)), W_id (by omega) (by omega)]
  refine hs _ ?_
  rw [hacc, z0s t i hi, List.map_append]; rfl
 ·intro n acc hacc
  rw [z4j, if_neg (by simp), hacc, List.take_length]
theorem yfk (φ : Nat) (hφ : 1000 < φ) (p : Pool) (l : List zb) : ∃ b, zlg φ p l = some (b, ()) /\ (b = true -> FewL l /\ l.length <= 60 /\ p.network.places.length <= 16 /\ p.network.edges.length <= 40 /\ p.fleet.wagons.length <= 8 /\ p.readers.length <= 8) := by
 have hsmall : ∃ b, z8o φ p = some (b, ()) /\ (b = true -> p.network.places.length <= 16 /\ p.network.edges.length <= 40 /\ p.fleet.wagons.length <= 8 /\ p.readers.length <= 8) := by
  unfold z8o
  split
  ·exact ⟨false, rfl, fun h => by cases h⟩
  ·rename_i hc
   simp only [Bool.or_eq_true, decide_eq_true_eq, not_or] at hc
   obtain ⟨⟨⟨⟨⟨⟨c1, c2⟩, c3⟩, c4⟩, c5⟩, c6⟩, c7⟩ := hc
   have : ∃ b, z1q φ φ 0 p = some (b, ()) := by
    refine zh (fun n i (_ : Unit) => z1q φ n i p) p.railways.length (fun _ _ => True) (fun o => ∃ b, o = some (b, ())) ?_ ?_ φ () trivial (by omega)
    ·intro n i _ hi _ hs
     rw [z1q, if_pos (by simp; omega), z2 ⟨by omega, by omega⟩, W_id (by omega) (by omega)]
     split
     ·exact ⟨false, rfl⟩
     ·exact hs () trivial
    ·intro n _ _
     rw [z1q, if_neg (by simp)]
     exact ⟨true, rfl⟩
   obtain ⟨b, hb⟩ := this
   exact ⟨b, hb, fun _ => by omega⟩
 have hfew : ∃ b, z7k φ l 60 = some (b, ()) /\ (b = true -> FewL l /\ l.length <= 60) := by
  unfold z7k
  by_cases h60 : 60 < l.length
  ·rw [if_pos (by simp; omega)]
   exact ⟨false, rfl, fun h => by cases h⟩
  ·rw [if_neg (by simp; omega)]
   refine zh (fun n i (_ : Unit) => z21 φ n l i) l.length (fun i _ => ∀ j : Nat, j < i -> (gt l (j : Int)).item.parts.length <= 40) (fun o => ∃ b, o = some (b, ()) /\ (b = true -> FewL l /\ l.length <= 60)) ?_ ?_ φ () (fun j hj => by omega) (by omega)
   ·intro n i _ hi hI hs
    rw [z21, if_pos (by simp; omega), z2 ⟨by omega, by omega⟩, z2 (fun _ => ⟨by omega, by omega⟩), W_id (by omega) (by omega)]
    split
    ·exact ⟨false, rfl, fun h => by cases h⟩
    ·rename_i hc
     simp only [Bool.or_eq_true, decide_eq_true_eq, not_or] at hc
     refine hs () fun j hj => ?_
     by_cases e : j = i
     ·subst e; omega
     ·exact hI j (by omega)
   ·intro n _ hI
    rw [z21, if_neg (by simp)]
    refine ⟨true, rfl, fun _ => ⟨⟨by omega, fun r hr => ?_⟩, by omega⟩⟩
    obtain ⟨j, hj, rfl⟩ := zo0 hr
    have := hI j hj
    omega
 obtain ⟨b1, h1, h2⟩ := hsmall
 obtain ⟨b2, h3, h4⟩ := hfew
 unfold zlg
 rw [h1, Option.bind_some]
 cases b1 with
 | false =>
  rw [gz_f (by simp), Option.bind_some]
  exact ⟨_, rfl, fun h => by cases h⟩
 | true =>
  rw [gz_t rfl, h3, Option.bind_some]
  refine ⟨_, rfl, fun h => ?_⟩
  obtain ⟨q1, q2⟩ := h4 h
  obtain ⟨a1, a2, a3, a4⟩ := h2 rfl
  exact ⟨q1, q2, a1, a2, a3, a4⟩
end Px
end
section
namespace Px
open Go
set_option linter.unusedVariables false
set_option linter.unusedSimpArgs false
theorem y5v (φ : Nat) (hφ : 800000 < φ) (x : z6) (a b : z1d) : ∃ t, z4v φ x a b = some (t, ()) /\ 0 <= t /\ t <= 1073741825 := by
 unfold z4v
 split
 ·exact ⟨_, rfl, by omega, by omega⟩
 ·obtain ⟨t, e, h, h1, h2⟩ := zsx φ hφ x a.place b.place
  rw [h, Option.bind_some]
  split
  ·exact ⟨_, rfl, by omega, by omega⟩
  ·exact ⟨_, rfl, h1, by omega⟩
def tvl (φ : Nat) (x : z6) (a b : z1d) : Int := ((z4v φ x a b).getD default).1
theorem ycl (φ : Nat) (hφ : 800000 < φ) (x : z6) (a b : z1d) : z4v φ x a b = some (tvl φ x a b, ()) /\ 0 <= tvl φ x a b /\ tvl φ x a b <= 1073741825 := by
 obtain ⟨t, h, h1, h2⟩ := y5v φ hφ x a b
 unfold tvl
 rw [h]
 exact ⟨rfl, h1, h2⟩
def y0 : Nat -> Ref := fun _ => (default : Ref)
def y1 (r : Ref) : Nat -> Ref := upd (fun _ => (default : Ref)) 0 r
def y2 (r q : Ref) : Nat -> Ref := upd (upd (fun _ => (default : Ref)) 0 r) 1 q
def zvo (m : List (Int × Int)) (e : z1) : List (Int × Int) := if 0 <= e.reader then mset m e.reader 0 else m
def znh (m : List (Int × Int)) (t : List z1) : List (Int × Int) := t.foldl zvo m
def used (ts : List (List z1)) : List (Int × Int) := ts.foldl znh []
structure BS where
 v : Int
 b : List ze
 y : List (Nat -> Ref)
 e : List z0v
structure RS where
 v : Int
 m : List (Int × Int)
 b : List ze
 y : List (Nat -> Ref)
def zjx (rs : List z63) (i : Nat) (s : RS) : RS :=
 if (mget s.m (i : Int)).isSome = true then ⟨s.v + 1, mset s.m (i : Int) s.v, s.b ++ [⟨0, s.v, 0 - (gt rs (i : Int)).low⟩, ⟨s.v, 0, (gt rs (i : Int)).high⟩], s.y ++ [y0, y0]⟩ else s
def rdsN (rs : List z63) (m : List (Int × Int)) : Nat -> RS
 | 0 => ⟨1, m, [], []⟩
 | n + 1 => zjx rs n (rdsN rs m n)
def rv (m : List (Int × Int)) (e : z1) : Int := (mget m e.reader).getD default
def evB (m : List (Int × Int)) (v : Int) (e : z1) : List ze :=
 if e.reader < 0 then [⟨0, v, e.visit.early⟩, ⟨v, 0, 0 - e.visit.early⟩]
 else [⟨rv m e, v, e.visit.early⟩, ⟨v, rv m e, 0 - e.visit.early⟩, ⟨0, v, 1073741824⟩, ⟨v, 0, 0⟩]
def evY (e : z1) : List (Nat -> Ref) := List.replicate (if e.reader < 0 then 2 else 4) (y1 e.visit.ref)
def trB (tv : z1d -> z1d -> Int) (v : Int) (pr : Option z1d) (e : z1) : List ze :=
 match pr with
 | none => []
 | some a => [⟨v, v - 1, 0 - tv a e.visit⟩]
def trY (pr : Option z1d) (e : z1) : List (Nat -> Ref) :=
 match pr with
 | none => []
 | some a => [y2 a.ref e.visit.ref]
def zsl (tv : z1d -> z1d -> Int) (m : List (Int × Int)) (pr : Option z1d) (e : z1) (s : BS) : BS :=
 ⟨s.v + 1, s.b ++ evB m s.v e ++ trB tv s.v pr e, s.y ++ evY e ++ trY pr e, s.e ++ [⟨e.visit.wagon, e.visit.place, s.v, e.visit.ref, e.visit.stay⟩]⟩
def bEv (tv : z1d -> z1d -> Int) (m : List (Int × Int)) : Option z1d -> List z1 -> BS -> BS
 | _, [], s => s
 | pr, e :: t, s => bEv tv m (some e.visit) t (zsl tv m pr e s)
def bAll (tv : z1d -> z1d -> Int) (rs : List z63) (ts : List (List z1)) : BS :=
 ts.foldl (fun s t => bEv tv (rdsN rs (used ts) rs.length).m none t s) ⟨(rdsN rs (used ts) rs.length).v, (rdsN rs (used ts) rs.length).b, (rdsN rs (used ts) rs.length).y, []⟩
def bEnd (s : BS) : z07 × Int × Unit := if 512 < s.v \/ 4096 < s.b.length then (⟨0, [], [], []⟩, 2, ()) else (⟨s.v, s.b, s.y, s.e⟩, 0, ())
def z00 (p : Pool) (l : List zb) : List (List z1) := (List.range p.fleet.wagons.length).map fun (w : Nat) => z5t p l (w : Int)
theorem zeb (rs : List z63) (m : List (Int × Int)) : ∀ n, 1 <= (rdsN rs m n).v /\ (rdsN rs m n).v <= 1 + n /\ (rdsN rs m n).b.length <= 2 * n /\ (rdsN rs m n).y.length <= 2 * n
 | 0 => ⟨by simp [rdsN], by simp [rdsN], by simp [rdsN], by simp [rdsN]⟩
 | n + 1 => by
  obtain ⟨h1, h2, h3, h4⟩ := zeb rs m n
  simp only [rdsN, zjx]
  split
  ·refine ⟨?_, ?_, ?_, ?_⟩ <;> simp <;> omega
  ·refine ⟨?_, ?_, ?_, ?_⟩ <;> omega
theorem yek (m : List (Int × Int)) (v : Int) (e : z1) : (evB m v e).length <= 4 := by
 unfold evB; split <;> simp
theorem yde (e : z1) : (evY e).length <= 4 := by
 unfold evY; split <;> simp
theorem yej (tv : z1d -> z1d -> Int) (v : Int) (pr : Option z1d) (e : z1) : (trB tv v pr e).length <= 1 := by
 cases pr <;> simp [trB]
theorem yd0 (pr : Option z1d) (e : z1) : (trY pr e).length <= 1 := by
 cases pr <;> simp [trY]
structure BB (n : Nat) (s : BS) : Prop where
 v0 : 1 <= s.v
 v1 : s.v <= 257 + n
 b : s.b.length <= 512 + 5 * n
 y : s.y.length <= 512 + 5 * n
 e : s.e.length <= n
theorem BB.step {n : Nat} {s : BS} (h : BB n s) (tv m pr e) : BB (n + 1) (zsl tv m pr e s) := by
 have h1 := yek m s.v e
 have h2 := yde e
 have h3 := yej tv s.v pr e
 have h4 := yd0 pr e
 obtain ⟨a, b, c, d, f⟩ := h
 unfold zsl
 constructor
 ·show 1 <= s.v + 1; omega
 ·show s.v + 1 <= 257 + ((n + 1 : Nat) : Int); omega
 ·show (s.b ++ evB m s.v e ++ trB tv s.v pr e).length <= _
  rw [List.length_append, List.length_append]; omega
 ·show (s.y ++ evY e ++ trY pr e).length <= _
  rw [List.length_append, List.length_append]; omega
 ·show (s.e ++ [_]).length <= _
  rw [List.length_append]; simp; omega
theorem BB.ev (tv m) : ∀ (t : List z1) (n : Nat) (pr : Option z1d) (s : BS), BB n s -> BB (n + t.length) (bEv tv m pr t s)
 | [], n, pr, s, h => h
 | e :: t, n, pr, s, h => by
  have := BB.ev tv m t (n + 1) (some e.visit) (zsl tv m pr e s) (h.step tv m pr e)
  rw [show n + (e :: t).length = n + 1 + t.length by simp; omega]
  exact this
section
variable (φ : Nat)
theorem yhx (hφ : 10 < φ) (k) (x55 x56 x57 x58 x59 x60 x61 x62 x63 x64 x65 x66 x67 x68) (B : List ze) (x70 x71 x72 x73) (b : List ze) (y : List (Nat -> Ref)) (x76 x77 x78 x79) (hB : B.length <= 4) (hb : b.length <= 50000000) (hy : y.length <= 50000000) :
  z2z φ k φ (B.length : Int) 0 x55 x56 x57 x58 x59 x60 x61 x62 x63 x64 x65 x66 x67 x68 B x70 x71 x72 x73 b y x76 x77 x78 x79 = k x55 x56 x57 (W (x58 + 1)) x70 x71 (W (x67 + 1)) x72 x77 x78 x79 (b ++ B) (y ++ List.replicate B.length x68) x76 := by
 refine zh (fun n i (s : List ze × List (Nat -> Ref)) => z2z φ k n (B.length : Int) i x55 x56 x57 x58 x59 x60 x61 x62 x63 x64 x65 x66 x67 x68 B x70 x71 x72 x73 s.1 s.2 x76 x77 x78 x79) B.length (fun i s => s.1 = b ++ B.take i /\ s.2 = y ++ List.replicate i x68) (fun o => o = k x55 x56 x57 (W (x58 + 1)) x70 x71 (W (x67 + 1)) x72 x77 x78 x79 (b ++ B) (y ++ List.replicate B.length x68) x76) ?_ ?_ φ (b, y) ⟨by simp, by simp⟩ (by omega)
 ·intro n i s hi ⟨h1, h2⟩ hs
  rw [z2z, if_pos (by simp; omega), z2 ⟨by omega, by omega⟩, z2 (z35 (by rw [h1]; simp; omega) (by omega)), z2 (z35 (by rw [h2]; simp; omega) (by omega)), W_id (by omega) (by omega)]
  exact hs (_, _) ⟨by rw [h1, z0s B i hi, List.append_assoc], by rw [h2, List.replicate_succ', List.append_assoc]⟩
 ·intro n s ⟨h1, h2⟩
  rw [z2z, if_neg (by simp), h1, h2, List.take_length]
theorem yg3 (hφ : 10 < φ) (k) (x137 x138 x139 x140 x141 x142 x143 x144 x145 x146 x147 x148 x149 x150 x151 x152 x153 x154 x155 x156 x157) (B : List ze) (x159 x160 x161 x162 x163) (b : List ze) (y : List (Nat -> Ref)) (x166 x167 x168 x169) (hB : B.length <= 4) (hb : b.length <= 50000000) (hy : y.length <= 50000000) :
  z2o φ k φ (B.length : Int) 0 x137 x138 x139 x140 x141 x142 x143 x144 x145 x146 x147 x148 x149 x150 x151 x152 x153 x154 x155 x156 x157 B x159 x160 x161 x162 x163 b y x166 x167 x168 x169 = k x137 x138 x139 x140 x141 x142 (W (x143 + 1)) x159 x160 x156 x161 x167 x168 x169 (b ++ B) (y ++ List.replicate B.length x157) x166 := by
 refine zh (fun n i (s : List ze × List (Nat -> Ref)) => z2o φ k n (B.length : Int) i x137 x138 x139 x140 x141 x142 x143 x144 x145 x146 x147 x148 x149 x150 x151 x152 x153 x154 x155 x156 x157 B x159 x160 x161 x162 x163 s.1 s.2 x166 x167 x168 x169) B.length (fun i s => s.1 = b ++ B.take i /\ s.2 = y ++ List.replicate i x157) (fun o => o = k x137 x138 x139 x140 x141 x142 (W (x143 + 1)) x159 x160 x156 x161 x167 x168 x169 (b ++ B) (y ++ List.replicate B.length x157) x166) ?_ ?_ φ (b, y) ⟨by simp, by simp⟩ (by omega)
 ·intro n i s hi ⟨h1, h2⟩ hs
  rw [z2o, if_pos (by simp; omega), z2 ⟨by omega, by omega⟩, z2 (z35 (by rw [h1]; simp; omega) (by omega)), z2 (z35 (by rw [h2]; simp; omega) (by omega)), W_id (by omega) (by omega)]
  exact hs (_, _) ⟨by rw [h1, z0s B i hi, List.append_assoc], by rw [h2, List.replicate_succ', List.append_assoc]⟩
 ·intro n s ⟨h1, h2⟩
  rw [z2o, if_neg (by simp), h1, h2, List.take_length]
theorem ygh (hφ : 10 < φ) (k) (x173 x174 x175 x176 x177 x178 x179 x180 x181 x182 x183) (B : List ze) (x185 x186 x187 x188) (b : List ze) (y : List (Nat -> Ref)) (x191 x192 x193 x194) (hB : B.length <= 4) (hb : b.length <= 50000000) (hy : y.length <= 50000000) :
  z2q φ k φ (B.length : Int) 0 x173 x174 x175 x176 x177 x178 x179 x180 x181 x182 x183 B x185 x186 x187 x188 b y x191 x192 x193 x194 = z15 φ k x173 x174 x175 x176 x177 x178 x179 x180 x181 x185 x186 x182 x187 x188 x192 x193 x194 (b ++ B) (y ++ List.replicate B.length x183) x191 := by
 refine zh (fun n i (s : List ze × List (Nat -> Ref)) => z2q φ k n (B.length : Int) i x173 x174 x175 x176 x177 x178 x179 x180 x181 x182 x183 B x185 x186 x187 x188 s.1 s.2 x191 x192 x193 x194) B.length (fun i s => s.1 = b ++ B.take i /\ s.2 = y ++ List.replicate i x183) (fun o => o = z15 φ k x173 x174 x175 x176 x177 x178 x179 x180 x181 x185 x186 x182 x187 x188 x192 x193 x194 (b ++ B) (y ++ List.replicate B.length x183) x191) ?_ ?_ φ (b, y) ⟨by simp, by simp⟩ (by omega)
 ·intro n i s hi ⟨h1, h2⟩ hs
  rw [z2q, if_pos (by simp; omega), z2 ⟨by omega, by omega⟩, z2 (z35 (by rw [h1]; simp; omega) (by omega)), z2 (z35 (by rw [h2]; simp; omega) (by omega)), W_id (by omega) (by omega)]
  exact hs (_, _) ⟨by rw [h1, z0s B i hi, List.append_assoc], by rw [h2, List.replicate_succ', List.append_assoc]⟩
 ·intro n s ⟨h1, h2⟩
  rw [z2q, if_neg (by simp), h1, h2, List.take_length]
theorem ygo (hφ : 10 < φ) (k) (x173 x174 x175 x176 x177 x178 x179 x180 x181 x182 x183) (B : List ze) (x185 x186 x187 x188) (b : List ze) (y : List (Nat -> Ref)) (x191 x192 x193 x194) (hB : B.length <= 4) (hb : b.length <= 50000000) (hy : y.length <= 50000000) :
  z2p φ k φ (B.length : Int) 0 x173 x174 x175 x176 x177 x178 x179 x180 x181 x182 x183 B x185 x186 x187 x188 b y x191 x192 x193 x194 = z15 φ k x173 x174 x175 x176 x177 x178 x179 x180 x181 x185 x186 x182 x187 x188 x192 x193 x194 (b ++ B) (y ++ List.replicate B.length x183) x191 := by
 refine zh (fun n i (s : List ze × List (Nat -> Ref)) => z2p φ k n (B.length : Int) i x173 x174 x175 x176 x177 x178 x179 x180 x181 x182 x183 B x185 x186 x187 x188 s.1 s.2 x191 x192 x193 x194) B.length (fun i s => s.1 = b ++ B.take i /\ s.2 = y ++ List.replicate i x183) (fun o => o = z15 φ k x173 x174 x175 x176 x177 x178 x179 x180 x181 x185 x186 x182 x187 x188 x192 x193 x194 (b ++ B) (y ++ List.replicate B.length x183) x191) ?_ ?_ φ (b, y) ⟨by simp, by simp⟩ (by omega)
 ·intro n i s hi ⟨h1, h2⟩ hs
  rw [z2p, if_pos (by simp; omega), z2 ⟨by omega, by omega⟩, z2 (z35 (by rw [h1]; simp; omega) (by omega)), z2 (z35 (by rw [h2]; simp; omega) (by omega)), W_id (by omega) (by omega)]
  exact hs (_, _) ⟨by rw [h1, z0s B i hi, List.append_assoc], by rw [h2, List.replicate_succ', List.append_assoc]⟩
 ·intro n s ⟨h1, h2⟩
  rw [z2p, if_neg (by simp), h1, h2, List.take_length]
theorem y5n (hφ : 800000 < φ) (k) (T : List z1) (n : Nat) (hn : n < T.length) (x115 x116 x117 x118 x119 x120) (x122 : Pool) (x123 : Int) (x125 : List (Int × Int)) (e : z1) (pr : Option z1d) (hpr : pr = if 0 < n then some (gt T ((n : Int) - 1)).visit else none) (x127 x128 x129) (b : List ze) (y : List (Nat -> Ref)) (x132) (hb : b.length <= 50000000) (hy : y.length <= 50000000) (h15 : 0 <= x115 /\ x115 <= 100000000) (hT : n <= 100000000) :
  z15 φ k T (n : Int) x115 x116 x117 x118 x119 x120 (n : Int) x122 x123 (x115 + 1) x125 e x127 x128 x129 b y x132 =
   k T x116 x117 x118 x119 x120 ((n + 1 : Nat) : Int) x122 x123 (x115 + 1) x125 x127 x128 x129 (b ++ trB (tvl φ x122.network) x115 pr e) (y ++ trY pr e) x132 := by
 have hW : W ((n : Int) + 1) = ((n + 1 : Nat) : Int) := by rw [W_id (by omega) (by omega)]; omega
 unfold z15
 by_cases h : 0 < n
 ·obtain ⟨ht, t1, t2⟩ := ycl φ hφ x122.network (gt T ((n : Int) - 1)).visit e.visit
  rw [if_pos (by simp; omega), W_id (x := (n : Int) - 1) (by omega) (by omega), z2 ⟨by omega, by omega⟩, ht, Option.bind_some, W_id (x := x115 - 1) (by omega) (by omega)]
  rw [hpr, if_pos h]
  simp only [trB, trY]
  generalize tvl φ x122.network (gt T ((n : Int) - 1)).visit e.visit = tt at *
  rw [W_id (x := 0 - tt) (by omega) (by omega)]
  refine (yg3 φ (by omega) k T x116 x117 x118 x119 x120 (n : Int) _ _ _ _ _ _ _ _ _ _ _ _ _ _ ([⟨x115, x115 - 1, 0 - tt⟩] : List ze) x122 x123 x125 _ _ b y x132 x127 x128 x129 (by simp) hb hy).trans ?_
  rw [hW]
  rfl
 ·rw [if_neg (by simp; omega), hW, hpr, if_neg h]
  simp only [trB, trY, List.append_nil]
theorem y3q (hφ : 800000 < φ) (k) (x96 x97 x98) (T : List z1) (hE : ∀ e ∈ T, 0 <= e.visit.early /\ e.visit.early <= 1073741824) (x102 : Pool) (x103 : Int) (m : List (Int × Int)) (g1 g2 g3) (hT : T.length <= 2000) :
  ∀ (n i N : Nat) (s : BS), T.length < n + i -> i <= T.length -> BB N s -> N <= 8300000 + i ->
   z0o φ k n T x96 x97 x98 T (T.length : Int) (i : Int) x102 x103 s.v m g1 g2 g3 s.b s.y s.e =
    (fun s' : BS => k x96 x97 (W (x98 + 1)) x102 x103 s'.v m g1 g2 g3 s'.b s'.y s'.e) (bEv (tvl φ x102.network) m (if 0 < i then some (gt T ((i : Int) - 1)).visit else none) (T.drop i) s) := by
 intro n
 induction n with
 | zero => intro i N s h1 h2; exfalso; omega
 | succ n ih =>
  intro i N s h1 h2 hB hN
  obtain ⟨v0, v1, b1, b2, b3⟩ := hB
  by_cases hi : i < T.length
  ·obtain ⟨e0, e1⟩ := hE _ (z4a (l := T) (i := (i : Int)) (by omega) (by omega))
   have hWv : W (s.v + 1) = s.v + 1 := W_id (by omega) (by omega)
   have hWe : W (0 - (gt T (i : Int)).visit.early) = 0 - (gt T (i : Int)).visit.early := W_id (by omega) (by omega)
   have hnext := ih (i + 1) (N + 1) (zsl (tvl φ x102.network) m (if 0 < i then some (gt T ((i : Int) - 1)).visit else none) (gt T (i : Int)) s) (by omega) (by omega) (BB.step ⟨v0, v1, b1, b2, b3⟩ _ _ _ _) (by omega)
   rw [if_pos (show 0 < i + 1 by omega), show ((i + 1 : Nat) : Int) - 1 = (i : Int) by omega] at hnext
   rw [zhs T i hi]
   refine Eq.trans ?_ hnext
   rw [z0o, if_pos (by simp; omega), z2 ⟨by omega, by omega⟩, z2 (z35 (by simp; omega) (by omega)), hWv, hWe]
   by_cases hr : (gt T (i : Int)).reader < 0
   ·rw [if_pos (by simpa using hr)]
    refine (ygh φ (by omega) (z0o φ k n) T (i : Int) s.v x96 x97 x98 T (T.length : Int) (i : Int) (s.v + 1) (y1 (gt T (i : Int)).visit.ref) ([⟨0, s.v, (gt T (i : Int)).visit.early⟩, ⟨s.v, 0, 0 - (gt T (i : Int)).visit.early⟩] : List ze) x102 x103 m (gt T (i : Int)) s.b s.y _ g1 g2 g3 (by simp) (by omega) (by omega)).trans ?_
    refine (y5n φ hφ (z0o φ k n) T i hi s.v x96 x97 x98 T (T.length : Int) x102 x103 m (gt T (i : Int)) _ rfl g1 g2 g3 _ _ _ (by simp; omega) (by simp; omega) ⟨by omega, by omega⟩ (by omega)).trans ?_
    simp only [zsl, evB, evY, if_pos hr]
    rfl
   ·rw [if_neg (by simpa using hr)]
    refine (ygo φ (by omega) (z0o φ k n) T (i : Int) s.v x96 x97 x98 T (T.length : Int) (i : Int) (s.v + 1) (y1 (gt T (i : Int)).visit.ref) ([⟨rv m (gt T (i : Int)), s.v, (gt T (i : Int)).visit.early⟩, ⟨s.v, rv m (gt T (i : Int)), 0 - (gt T (i : Int)).visit.early⟩, ⟨0, s.v, 1073741824⟩, ⟨s.v, 0, 0⟩] : List ze) x102 x103 m (gt T (i : Int)) s.b s.y _ g1 g2 g3 (by simp) (by omega) (by omega)).trans ?_
    refine (y5n φ hφ (z0o φ k n) T i hi s.v x96 x97 x98 T (T.length : Int) x102 x103 m (gt T (i : Int)) _ rfl g1 g2 g3 _ _ _ (by simp; omega) (by simp; omega) ⟨by omega, by omega⟩ (by omega)).trans ?_
    simp only [zsl, evB, evY, if_neg hr]
    rfl
  ·have : i = T.length := by omega
   subst this
   rw [z0o, if_neg (by simp), List.drop_length]
   rfl
theorem y09 (hφ : 800000 < φ) (ts : List (List z1)) (hE : ∀ T ∈ ts, T.length <= 2000 /\ ∀ e ∈ T, 0 <= e.visit.early /\ e.visit.early <= 1073741824) (hts : ts.length <= 4096) (x84 : Pool) (x85 : Int) (m : List (Int × Int)) (g1 g2 g3) (s : BS) (hs : BB 0 s) :
  z29 φ φ ts (ts.length : Int) 0 x84 x85 s.v m g1 g2 g3 s.b s.y s.e = some (bEnd (ts.foldl (fun s t => bEv (tvl φ x84.network) m none t s) s)) := by
 refine zh (fun n i (s : BS) => z29 φ n ts (ts.length : Int) i x84 x85 s.v m g1 g2 g3 s.b s.y s.e) ts.length (fun i s' => BB (2000 * i) s' /\ s' = (ts.take i).foldl (fun s t => bEv (tvl φ x84.network) m none t s) s) (fun o => o = some (bEnd (ts.foldl (fun s t => bEv (tvl φ x84.network) m none t s) s))) ?_ ?_ φ s ⟨hs, rfl⟩ (by omega)
 ·intro n i s' hi ⟨h1, h2⟩ hk
  obtain ⟨q1, q2⟩ := hE _ (z4a (l := ts) (i := (i : Int)) (by omega) (by omega))
  rw [z29, if_pos (by simp; omega), z2 ⟨by omega, by omega⟩]
  have := y3q φ hφ (z29 φ n) ts (ts.length : Int) (i : Int) (gt ts (i : Int)) q2 x84 x85 m g1 g2 g3 q1 φ 0 (2000 * i) s' (by omega) (by omega) h1 (by omega)
  refine this.trans ?_
  simp only [W_id (x := (i : Int) + 1) (by omega) (by omega), List.drop_zero]
  rw [if_neg (by omega)]
  refine hk _ ⟨?_, ?_⟩
  ·have := BB.ev (tvl φ x84.network) m (gt ts (i : Int)) (2000 * i) none s' h1
   obtain ⟨a, b, c, d, f⟩ := this
   exact ⟨a, by omega, by omega, by omega, by omega⟩
  ·rw [z0s ts i hi, List.foldl_append, <- h2]; rfl
 ·intro n s' ⟨h1, h2⟩
  rw [List.take_length] at h2
  rw [z29, if_neg (by simp), <- h2]
  unfold bEnd
  by_cases h : 512 < s'.v \/ 4096 < s'.b.length
  ·rw [if_pos (by simp; omega), if_pos h]
  ·rw [if_neg (by simp; omega), if_neg h]
theorem zx3 (hφ : 800000 < φ) (ts : List (List z1)) (hE : ∀ T ∈ ts, T.length <= 2000 /\ ∀ e ∈ T, 0 <= e.visit.early /\ e.visit.early <= 1073741824) (hts : ts.length <= 4096) (p : Pool) (hp : p.readers.length <= 256) (hr : ∀ r ∈ p.readers, -1000 <= r.low /\ r.low <= 1000) (x43 : Int) (m : List (Int × Int)) (g1 g2) :
  z1p φ φ ts p.readers (p.readers.length : Int) 0 p x43 1 m g1 g2 [] [] [] [] = some (bEnd (ts.foldl (fun s t => bEv (tvl φ p.network) (rdsN p.readers m p.readers.length).m none t s) ⟨(rdsN p.readers m p.readers.length).v, (rdsN p.readers m p.readers.length).b, (rdsN p.readers m p.readers.length).y, []⟩)) := by
 refine zh (fun n i (s : RS) => z1p φ n ts p.readers (p.readers.length : Int) i p x43 s.v s.m g1 g2 [] s.b s.y []) p.readers.length (fun i s => s = rdsN p.readers m i) (fun o => o = _) ?_ ?_ φ ⟨1, m, [], []⟩ rfl (by omega)
 ·intro n i s hi hs hk
  obtain ⟨a1, a2, a3, a4⟩ := zeb p.readers m i
  rw [<- hs] at a1 a2 a3 a4
  obtain ⟨r1, r2⟩ := hr _ (z4a (l := p.readers) (i := (i : Int)) (by omega) (by omega))
  have hk' := hk (rdsN p.readers m (i + 1)) rfl
  simp only [rdsN, zjx] at hk'
  rw [<- hs] at hk'
  have hW : W ((i : Int) + 1) = (i : Int) + 1 := W_id (by omega) (by omega)
  rw [z1p, if_pos (by simp; omega), z2 ⟨by omega, by omega⟩]
  by_cases h : (mget s.m (i : Int)).isSome = true
  ·rw [if_pos h] at hk' ⊢
   have hWl : W (0 - (gt p.readers (i : Int)).low) = 0 - (gt p.readers (i : Int)).low := W_id (by omega) (by omega)
   rw [hWl]
   refine (yhx φ (by omega) (z1p φ n) ts p.readers (p.readers.length : Int) (i : Int) _ _ _ _ _ _ _ _ _ _ ([⟨0, s.v, 0 - (gt p.readers (i : Int)).low⟩, ⟨s.v, 0, (gt p.readers (i : Int)).high⟩] : List ze) p x43 (mset s.m (i : Int) s.v) _ s.b s.y [] g1 g2 [] (by simp) (by omega) (by omega)).trans ?_
   rw [hW, W_id (x := s.v + 1) (by omega) (by omega)]
   exact hk'
  ·rw [if_neg h] at hk' ⊢
   rw [hW]
   exact hk'
 ·intro n s hs
  rw [z1p, if_neg (by simp), <- hs]
  obtain ⟨a1, a2, a3, a4⟩ := zeb p.readers m p.readers.length
  rw [<- hs] at a1 a2 a3 a4
  exact y09 φ hφ ts hE hts p x43 s.m g1 g2 [] ⟨s.v, s.b, s.y, []⟩ ⟨a1, by show s.v <= _; omega, by show s.b.length <= _; omega, by show s.y.length <= _; omega, by simp⟩
theorem y5k (k) (x20 x21 x22 x23) (T : List z1) (hT : T.length <= 2000) (hφ : 800000 < φ) (x27 x28 x29 x30 x31 x32 x33 x34 x35 x36) :
  z2e φ k φ x20 x21 x22 x23 T (T.length : Int) 0 x27 x28 x29 x30 x31 x32 x33 x34 x35 x36 = k x20 x21 x22 (W (x23 + 1)) x27 x28 x29 (znh x30 T) x31 x32 x33 x34 x35 x36 := by
 refine zh (fun n i (m : List (Int × Int)) => z2e φ k n x20 x21 x22 x23 T (T.length : Int) i x27 x28 x29 m x31 x32 x33 x34 x35 x36) T.length (fun i m => m = znh x30 (T.take i)) (fun o => o = _) ?_ ?_ φ x30 rfl (by omega)
 ·intro n i m hi hm hk
  have hk' := hk (znh x30 (T.take (i + 1))) rfl
  rw [z0s T i hi] at hk'
  simp only [znh, List.foldl_append, List.foldl_cons, List.foldl_nil] at hk' hm
  rw [<- hm] at hk'
  rw [z2e, if_pos (by simp; omega), z2 ⟨by omega, by omega⟩, W_id (by omega) (by omega)]
  unfold zvo at hk'
  by_cases h : 0 <= (gt T (i : Int)).reader
  ·rw [if_pos h] at hk'
   rw [if_pos (by simpa using h)]
   exact hk'
  ·rw [if_neg h] at hk'
   rw [if_neg (by simpa using h)]
   exact hk'
 ·intro n m hm
  rw [List.take_length] at hm
  rw [z2e, if_neg (by simp), hm]
theorem y5m {p : Pool} {r : zb} (h : y2m p r.item) {i : Int} {x : z1} (hx : x ∈ evs p r i) : 0 <= x.visit.early /\ x.visit.early <= 1073741824 := by
 have hf := h.from_
 have ht := h.to
 unfold evs at hx
 split at hx
 ·simp only [List.mem_singleton] at hx; subst hx
  simp only [z2u]; omega
 ·split at hx
  ·simp only [List.mem_cons, List.not_mem_nil, or_false] at hx
   rcases hx with rfl | rfl <;> simp only [z2u] <;> omega
  ·split at hx
   ·simp only [List.mem_singleton] at hx; subst hx
    simp only [z2u]; omega
   ·cases hx
theorem zx6 : ∀ {t : List z1} {m : List (Int × Bool)} {x : z1}, x ∈ zid t m -> ∃ y ∈ t, ∃ b, x = zf8 y b
 | [], m, x, h => by cases h
 | e :: t, m, x, h => by
  rcases List.mem_cons.1 h with rfl | h
  ·exact ⟨e, List.mem_cons_self, _, rfl⟩
  ·obtain ⟨y, hy, b, hb⟩ := zx6 h
   exact ⟨y, List.mem_cons_of_mem _ hy, b, hb⟩
theorem zi6 {p : Pool} {l : List zb} {w : Int} {x : z1} (h : x ∈ z5t p l w) : ∃ y ∈ uns p l w, ∃ b, x = zf8 y b := by
 obtain ⟨y, hy, b, hb⟩ := zx6 h
 exact ⟨y, (z1r _ _).mem_iff.1 hy, b, hb⟩
theorem zwy {p : Pool} (hc : z06 p = 0) {l : List zb} (hl : FewL l) {w : Int} {x : z1} (h : x ∈ z5t p l w) : 0 <= x.visit.early /\ x.visit.early <= 1073741824 := by
 obtain ⟨y, hy, b, rfl⟩ := zi6 h
 obtain ⟨h1, h2, _, h3, h4⟩ := zqm hl.len hy
 show 0 <= y.visit.early /\ y.visit.early <= 1073741824
 exact y5m (zca hc (hl.gt h1 h2) h3) h4
theorem y38 (hφ : 800000 < φ) (p : Pool) {l : List zb} (hl : FewL l) :
  z68 φ p l = some (if z06 p = 0 then bEnd (bAll (tvl φ p.network) p.readers (z00 p l)) else (⟨0, [], [], []⟩, z06 p, ())) := by
 unfold z68
 rw [z61 φ hφ, Option.bind_some]
 by_cases hc : z06 p = 0
 case neg => rw [if_pos (by simpa using hc), if_neg hc]
 rw [if_neg (by simp [hc]), if_pos hc, zqa φ hφ hc hl, Option.bind_some]
 obtain ⟨_, hf, hr1, _⟩ := z6n hc
 obtain ⟨_, f2, _⟩ := z56 hf
 have hrd := (zta hc).1
 show z2b φ φ (z00 p l) (z00 p l) ((z00 p l).length : Int) 0 p 0 1 [] [] [] [] [] [] [] = _
 have hlen : (z00 p l).length <= 4096 := by unfold z00; simp; omega
 have hE : ∀ T ∈ z00 p l, T.length <= 2000 /\ ∀ e ∈ T, 0 <= e.visit.early /\ e.visit.early <= 1073741824 := by
  intro T hT
  unfold z00 at hT
  obtain ⟨w, _, rfl⟩ := List.mem_map.1 hT
  exact ⟨z6e hl.len _, fun e he => zwy hc hl he⟩
 generalize z00 p l = ts at *
 refine zh (fun n i (m : List (Int × Int)) => z2b φ n ts ts (ts.length : Int) i p 0 1 m [] [] [] [] [] []) ts.length (fun i m => m = (ts.take i).foldl znh []) (fun o => o = some (bEnd (bAll (tvl φ p.network) p.readers ts))) ?_ ?_ φ [] rfl (by omega)
 ·intro n i m hi hm hk
  rw [z2b, if_pos (by simp; omega), z2 ⟨by omega, by omega⟩]
  rw [y5k φ (z2b φ n) ts ts (ts.length : Int) (i : Int) (gt ts (i : Int)) (hE _ (z4a (by omega) (by omega))).1 hφ, W_id (by omega) (by omega)]
  exact hk _ (by rw [z0s ts i hi, List.foldl_append, <- hm]; rfl)
 ·intro n m hm
  rw [List.take_length] at hm
  rw [z2b, if_neg (by simp)]
  refine (zx3 φ hφ ts hE hlen p hr1 (fun r hr => ?_) 0 m [] []).trans ?_
  ·have := hrd r hr; omega
  ·rw [hm]; rfl
end
end Px
end
section
namespace Px
open Go
set_option linter.unusedVariables false
set_option linter.unusedSimpArgs false
def idx : List zb -> Ref -> Int
 | [], _ => 0
 | r :: l, q => if r.ref.railway = q.railway /\ r.ref.no = q.no then 0 else idx l q + 1
theorem zwj : Sort.SWO ltEv where
 irrefl := fun x => by
  unfold ltEv
  simp only [decide_eq_false_iff_not]
  rw [zdy]; omega
 trans := fun x y z h1 h2 => by
  unfold ltEv at *
  simp only [decide_eq_true_eq] at *
  rw [zdy] at *
  omega
 ntrans := fun x y z h1 h2 => by
  unfold ltEv at *
  simp only [decide_eq_false_iff_not] at *
  rw [zdy] at *
  omega
theorem y8o (φ : Nat) (x : z07) (hb : x.bounds.length < φ) (hy : x.why.length < φ) (he : x.events.length < φ) (h3 : x.bounds.length <= 100000000 /\ x.why.length <= 100000000 /\ x.events.length <= 100000000) : ziy φ x x = some (true, ()) := by
 unfold ziy
 rw [if_neg (by simp)]
 refine zh (fun n i (_ : Unit) => z6w φ n i x x) x.bounds.length (fun _ _ => True) (fun o => o = some (true, ())) ?_ ?_ φ () trivial hb
 ·intro n i _ hi _ hs
  rw [z6w, if_pos (by simp; omega), z2 ⟨by omega, by omega⟩, z2 ⟨by omega, by omega⟩, if_neg (by simp), W_id (by omega) (by omega)]
  exact hs () trivial
 intro n _ _
 rw [z6w, if_neg (by simp)]
 clear n
 refine zh (fun n i (_ : Unit) => z5k φ n i x x) x.why.length (fun _ _ => True) (fun o => o = some (true, ())) ?_ ?_ φ () trivial hy
 ·intro n i _ hi _ hs
  rw [z5k, if_pos (by simp; omega), z2 ⟨by omega, by omega⟩, z2 ⟨by omega, by omega⟩, if_neg (by simp), W_id (by omega) (by omega)]
  exact hs () trivial
 intro n _ _
 rw [z5k, if_neg (by simp)]
 clear n
 refine zh (fun n i (_ : Unit) => z5n φ n i x x) x.events.length (fun _ _ => True) (fun o => o = some (true, ())) ?_ ?_ φ () trivial he
 ·intro n i _ hi _ hs
  rw [z5n, if_pos (by simp; omega), z2 ⟨by omega, by omega⟩, z2 ⟨by omega, by omega⟩, if_neg (by simp), W_id (by omega) (by omega)]
  exact hs () trivial
 intro n _ _
 rw [z5n, if_neg (by simp)]
theorem zr4 (φ : Nat) (x : List z1d) (hb : x.length < φ) (h : x.length <= 100000000) : z5c φ x x = some (true, ()) := by
 unfold z5c
 rw [if_neg (by simp)]
 refine zh (fun n i (_ : Unit) => z1w φ n x x i) x.length (fun _ _ => True) (fun o => o = some (true, ())) ?_ ?_ φ () trivial hb
 ·intro n i _ hi _ hs
  rw [z1w, if_pos (by simp; omega), z2 ⟨by omega, by omega⟩, z2 ⟨by omega, by omega⟩, if_neg (by simp), W_id (by omega) (by omega)]
  exact hs () trivial
 intro n _ _
 rw [z1w, if_neg (by simp)]
theorem ybf (φ : Nat) (hφ : 800000 < φ) (p : Pool) {l : List zb} (hl : FewL l) : ∃ x e, z68 φ p l = some (x, e, ()) /\ x.bounds.length <= 42000000 /\ x.why.length <= 42000000 /\ x.events.length <= 42000000 := by
 rw [y38 φ hφ p hl]
 by_cases hc : z06 p = 0
 case neg => rw [if_neg hc]; exact ⟨_, _, rfl, by simp, by simp, by simp⟩
 rw [if_pos hc]
 obtain ⟨_, hf, hr1, _⟩ := z6n hc
 obtain ⟨_, f2, _⟩ := z56 hf
 have hB : BB (2000 * 4096) (bAll (tvl φ p.network) p.readers (z00 p l)) := by
  unfold bAll
  obtain ⟨a1, a2, a3, a4⟩ := zeb p.readers (used (z00 p l)) p.readers.length
  generalize rdsN p.readers (used (z00 p l)) p.readers.length = R at *
  have : ∀ (ts : List (List z1)) (n : Nat) (s : BS), (∀ T ∈ ts, T.length <= 2000) -> BB n s -> BB (n + 2000 * ts.length) (ts.foldl (fun s t => bEv (tvl φ p.network) R.m none t s) s) := by
   intro ts
   induction ts with
   | nil => intro n s _ h; exact h
   | cons T ts ih =>
    intro n s hT h
    have h1 := BB.ev (tvl φ p.network) R.m T n none s h
    have h2 := hT T List.mem_cons_self
    have h3 := ih (n + 2000) _ (fun T hq => hT T (List.mem_cons_of_mem _ hq)) (show BB (n + 2000) (bEv (tvl φ p.network) R.m none T s) by
     obtain ⟨a, b, c, d, f⟩ := h1
     exact ⟨a, by omega, by omega, by omega, by omega⟩)
    rw [List.foldl_cons, show n + 2000 * (T :: ts).length = n + 2000 + 2000 * ts.length by simp; omega]
    exact h3
  have h := this (z00 p l) 0 ⟨R.v, R.b, R.y, []⟩ (fun T hT => by
   unfold z00 at hT
   obtain ⟨w, _, rfl⟩ := List.mem_map.1 hT
   exact z6e hl.len _) ⟨a1, by show R.v <= _; omega, by show R.b.length <= _; omega, by show R.y.length <= _; omega, by simp⟩
  have hn : (z00 p l).length <= 4096 := by unfold z00; simp; omega
  obtain ⟨a, b, c, d, f⟩ := h
  exact ⟨a, by omega, by omega, by omega, by omega⟩
 obtain ⟨a, b, c, d, f⟩ := hB
 unfold bEnd
 split
 ·exact ⟨_, _, rfl, by simp, by simp, by simp⟩
 ·exact ⟨_, _, rfl, by show (bAll _ _ _).b.length <= _; omega, by show (bAll _ _ _).y.length <= _; omega, by show (bAll _ _ _).e.length <= _; omega⟩
end Px
end
section
namespace Px
open Go
set_option linter.unusedVariables false
set_option linter.unusedSimpArgs false
theorem z4o (φ : Nat) (a b c : Int) : zy φ a b c = some (bet a b c, ()) := rfl
theorem zq9 (φ : Nat) (l : List Wash) (hl : l.length <= 4096) (hφ : 5000 < φ) : zag φ l = some (bif z62 l then 0 else 1, ()) := by
 unfold zag
 rw [z2 (mk_t _ _ (by omega) (by omega) (by omega))]
 refine zh (fun n i t => z4p φ n l i t) l.length
  (fun i t => (List.range i).all (z3n l) = true /\ t.length = 4096 /\ ∀ j : Int, 0 <= j -> j < 4096 -> gt t j = (l.take i).any fun v => keyW v == j)
  (fun o => o = some (bif z62 l then 0 else 1, ())) ?_ ?_ φ _ ⟨by simp, by rw [List.length_replicate]; rfl, fun j h0 h1 => by rw [z6g _ _ _ h0 (by rw [show (4096 : Int).toNat = 4096 from rfl]; omega)]; simp⟩ (by omega)
 ·intro n i t hi ⟨h1, h2, h3⟩ hs
  have hW : W ((i : Int) + 1) = (i : Int) + 1 := W_id (by omega) (by omega)
  have hsucc := z9l (z3n l) i
  have hbad : z3n l i = false -> z62 l = false := by
   intro h
   unfold z62
   rw [List.all_eq_false]
   exact ⟨i, by simp; omega, by simp [h]⟩
  rw [z4p, if_pos (by simp; omega), z2 ⟨by omega, by omega⟩]
  simp only [z4o, Option.bind_some, zk]
  have hok : zxz (gt l i) = (bet (gt l i).from_ 0 63 && bet (gt l i).to 0 63 && ((gt l i).from_ != (gt l i).to) && bet (gt l i).minutes 0 100000) := rfl
  have hne : ((gt l i).from_ == (gt l i).to) = !((gt l i).from_ != (gt l i).to) := by simp [bne]
  rw [hne]
  cases hw : zxz (gt l i) with
  | false =>
   rw [hbad (by simp [z3n, hw])]
   rw [hw] at hok
   clear hne hs h3
   generalize bet (gt l i).from_ 0 63 = a at *; generalize bet (gt l i).to 0 63 = b at *; generalize ((gt l i).from_ != (gt l i).to) = c at *; generalize bet (gt l i).minutes 0 100000 = d at *
   cases a <;> cases b <;> cases c <;> cases d <;> first | rfl | exact absurd hok (by decide)
  | true =>
   rw [hw] at hok
   have hb := hok.symm
   simp only [Bool.and_eq_true] at hb
   obtain ⟨⟨⟨b1, b2⟩, b3⟩, b4⟩ := hb
   have c1 := zpy b1; have c2 := zpy b2
   have e1 : W (64 * (gt l i).from_) = 64 * (gt l i).from_ := W_id (by omega) (by omega)
   have e2 : W (W (64 * (gt l i).from_) + (gt l i).to) = keyW (gt l i) := by rw [e1]; exact W_id (by omega) (by omega)
   have hk : 0 <= keyW (gt l i) /\ keyW (gt l i) < 4096 := by unfold keyW; omega
   simp only [b1, b2, b3, b4, Bool.not_true, Bool.or_false, if_true, e2, Bool.or_self, Bool.false_eq_true, if_false]
   rw [z2 ⟨hk.1, by omega⟩, h3 _ hk.1 hk.2]
   have hat : z3n l i = !(l.take i).any fun v => keyW v == keyW (gt l i) := by simp only [z3n, hw, Bool.true_and]
   cases ha : (l.take i).any fun v => keyW v == keyW (gt l i) with
   | true => rw [hbad (by rw [hat, ha]; rfl)]; rfl
   | false =>
    rw [if_neg (by simp), z2 ⟨hk.1, by omega⟩, hW]
    refine hs _ ⟨by rw [hsucc, h1, hat, ha]; rfl, by rw [z0e, h2], fun j j0 j1 => ?_⟩
    rw [zt _ _ _ _ hk.1 (by omega) j0, zfp _ _ _ hi, h3 j j0 j1]
    by_cases e : j = keyW (gt l i)
    ·simp [e]
    ·have : (keyW (gt l i) == j) = false := by simp; exact fun h => e h.symm
     simp [e, this]
 ·intro n t ⟨h1, h2, h3⟩
  rw [z4p, if_neg (by simp)]
  unfold z62
  rw [h1]; rfl
theorem zs6 (φ : Nat) (hφ : 5000 < φ) (x : zay) : zgl φ x = some (z5a x, ()) := by
 have e : (((decide (32 < (x.types.length : Int)) || decide (4096 < (x.wagons.length : Int))) || decide (1024 < (x.swaps.length : Int))) || decide (4096 < (x.washes.length : Int))) =
   (decide (32 < x.types.length) || decide (4096 < x.wagons.length) || decide (1024 < x.swaps.length) || decide (4096 < x.washes.length)) := by
  congr 1
  ·congr 1
   ·congr 1 <;> (apply decide_eq_decide.2; omega)
   ·apply decide_eq_decide.2; omega
  ·apply decide_eq_decide.2; omega
 unfold zgl z5a
 rw [e]
 cases h : (decide (32 < x.types.length) || decide (4096 < x.wagons.length) || decide (1024 < x.swaps.length) || decide (4096 < x.washes.length)) with
 | true => rfl
 | false =>
  simp only [Bool.or_eq_false_iff, decide_eq_false_iff_not, Nat.not_lt] at h
  obtain ⟨⟨⟨h1, h2⟩, h3⟩, h4⟩ := h
  have hp : W ((x.types.length : Int) - 1) = (x.types.length : Int) - 1 := W_id (by omega) (by omega)
  rw [if_neg (by simp)]
  rw [z5y (fun n i => z5o φ n i x) (z3z φ φ 0 x) (some (1, ())) x.types (fun t => !zjw t) ?_ ?_ φ (by omega)]
  ·rw [z5y (fun n i => z3z φ n i x) (z34 φ φ 0 x) (some (1, ())) x.wagons (fun t => !ze8 x.types.length t) ?_ ?_ φ (by omega)]
   ·rw [z5y (fun n i => z34 φ n i x) ((zag φ x.washes).bind fun y => some (y.1, ())) (some (1, ())) x.swaps (fun t => !zm3 x.types.length t) ?_ ?_ φ (by omega)]
    ·rw [zq9 _ _ h4 hφ]
     simp only [Option.bind_some]
     simp only [List.any_eq_not_all_not, Bool.not_not]
     cases x.types.all zjw <;> cases x.wagons.all (ze8 x.types.length) <;> cases x.swaps.all (zm3 x.types.length) <;> cases z62 x.washes <;> rfl
    ·intro n i hi
     have hW : W ((i : Int) + 1) = (i : Int) + 1 := W_id (by omega) (by omega)
     have hne : ((gt x.swaps i).wanted == (gt x.swaps i).given) = !((gt x.swaps i).wanted != (gt x.swaps i).given) := by simp [bne]
     rw [z34, if_pos (by simp; omega), z2 ⟨by omega, by omega⟩]
     simp only [z4o, Option.bind_some, zm3, zk, hW, hp, hne]
     cases bet (gt x.swaps i).wanted 0 ((x.types.length : Int) - 1) <;> cases bet (gt x.swaps i).given 0 ((x.types.length : Int) - 1) <;> cases ((gt x.swaps i).wanted != (gt x.swaps i).given) <;>
      cases bet (gt x.swaps i).cost 0 1000000000 <;> rfl
    ·intro n; rw [z34, if_neg (by simp)]
   ·intro n i hi
    have hW : W ((i : Int) + 1) = (i : Int) + 1 := W_id (by omega) (by omega)
    rw [z3z, if_pos (by simp; omega), z2 ⟨by omega, by omega⟩]
    simp only [zan, z4o, Option.bind_some, ze8, zk, hW, hp]
    cases bet (gt x.wagons i).type_ 0 ((x.types.length : Int) - 1) <;> cases bet (gt x.wagons i).owner 0 63 <;> cases bet (gt x.wagons i).home 0 511 <;>
     cases bet (gt x.wagons i).built 0 1073741824 <;> cases bet (gt x.wagons i).worth 0 1099511627776 <;> rfl
   ·intro n; rw [z3z, if_neg (by simp)]
  ·intro n i hi
   have hW : W ((i : Int) + 1) = (i : Int) + 1 := W_id (by omega) (by omega)
   rw [z5o, if_pos (by simp; omega), z2 ⟨by omega, by omega⟩]
   simp only [zdb, z4o, Option.bind_some, zjw, zk, hW]
   cases bet (gt x.types i).load 0 1000000 <;> cases bet (gt x.types i).tare 0 1000000 <;> cases bet (gt x.types i).length 0 1000000 <;> cases bet (gt x.types i).brake 0 1000000 <;>
    cases bet (gt x.types i).gauge 0 7 <;> cases bet (gt x.types i).life 1 1073741824 <;> cases bet (gt x.types i).floor 0 100 <;> rfl
  ·intro n; rw [z5o, if_neg (by simp)]
theorem ybw (b n : Nat) : pw (b % PP) n = pw b n := by unfold pw; rw [<- Nat.pow_mod]
theorem yg1 (b n : Nat) : pw (b * b % PP) n = pw b (2 * n) := by
 rw [ybw]; unfold pw; rw [Nat.pow_mul, Nat.pow_two]
theorem y4t (φ : Nat) : ∀ (m : Nat) (a b c n : Nat), m <= 64 -> b < 2 ^ m -> m < n -> a < PP -> c < PP -> z2w φ n (a : Int) (b : Int) 2305843009213690799 (c : Int) = some ((((c + a * b) % PP : Nat) : Int), ()) := by
 intro m
 induction m with
 | zero =>
  intro a b c n hm64 hb hn ha hc
  obtain ⟨n, rfl⟩ : ∃ n', n = n' + 1 := ⟨n - 1, by omega⟩
  have : b = 0 := by simpa using hb
  subst this
  rw [z2w, if_neg (by simp), Nat.mul_zero, Nat.add_zero, Nat.mod_eq_of_lt hc]
 | succ m ih =>
  intro a b c n hm64 hb hn ha hc
  obtain ⟨n, rfl⟩ : ∃ n', n = n' + 1 := ⟨n - 1, by omega⟩
  by_cases h0 : b = 0
  ·subst h0
   rw [z2w, if_neg (by simp), Nat.mul_zero, Nat.add_zero, Nat.mod_eq_of_lt hc]
  ·rw [z2w, if_pos (by simp; omega), if_pos (by decide : (2 : Int) ≠ 0)]
   have e1 : (b : Int).tdiv 2 = ((b / 2 : Nat) : Int) := by rw [Int.tdiv_eq_ediv_of_nonneg (by omega)]; omega
   have e2 : (b : Int).tmod 2 = ((b % 2 : Nat) : Int) := by rw [Int.tmod_eq_emod_of_nonneg (by omega)]; omega
   have hbl : (b / 2 : Nat) < 2 ^ m := by rw [Nat.pow_succ] at hb; omega
   have h64 : (2 : Nat) ^ m <= 2 ^ 63 := Nat.pow_le_pow_right (by decide) (by omega)
   have hb2 : U ((b / 2 : Nat) : Int) = ((b / 2 : Nat) : Int) := U_id (by omega) (by omega)
   have ha0 := ha; have hc0 := hc
   unfold PP at ha hc
   have e3 : (U ((a : Int) + (a : Int))).tmod 2305843009213690799 = (((a + a) % PP : Nat) : Int) := by
    rw [U_id (by omega) (by omega), Int.tmod_eq_emod_of_nonneg (by omega)]; unfold PP; omega
   have e4 : (U ((c : Int) + (a : Int))).tmod 2305843009213690799 = (((c + a) % PP : Nat) : Int) := by
    rw [U_id (by omega) (by omega), Int.tmod_eq_emod_of_nonneg (by omega)]; unfold PP; omega
   unfold z8c
   rw [e1, e2, e3, e4, hb2]
   have hab : a * b = (a + a) * (b / 2) + a * (b % 2) := by
    conv => lhs; rw [<- Nat.div_add_mod b 2]
    rw [Nat.mul_add, <- Nat.mul_assoc]; congr 1; rw [Nat.mul_two]
   have hfin : ∀ c' : Nat, (c' + (a + a) % PP * (b / 2)) % PP = (c' + (a + a) * (b / 2)) % PP := fun c' => by
    rw [Nat.add_mod, Nat.mul_mod, Nat.mod_mod, <- Nat.mul_mod, <- Nat.add_mod]
   have hlt : ∀ z : Nat, z % PP < PP := fun z => Nat.mod_lt _ (by decide)
   rcases Nat.mod_two_eq_zero_or_one b with hbit | hbit
   ·rw [hbit, if_neg (by simp), z2 (by omega), if_pos (by decide : (2 : Int) ≠ 0), ih ((a + a) % PP) (b / 2) c n (by omega) hbl (by omega) (hlt _) hc0, hfin, hab, hbit, Nat.mul_zero, Nat.add_zero]
   ·rw [hbit, if_pos (by simp), z2 (by omega), z2 (by omega), if_pos (by decide : (2 : Int) ≠ 0), ih ((a + a) % PP) (b / 2) ((c + a) % PP) n (by omega) hbl (by omega) (hlt _) (hlt _), hfin, hab, hbit, Nat.mul_one, Nat.mod_add_mod, show c + a + (a + a) * (b / 2) = c + ((a + a) * (b / 2) + a) by omega]
theorem zju (φ : Nat) (hφ : 70 < φ) (a b : Nat) (ha : a < PP) (hb : b < PP) : zd7 φ (a : Int) (b : Int) 2305843009213690799 = some (((a * b % PP : Nat) : Int), ()) := by
 unfold zd7
 have h64 : b < 2 ^ 64 := Nat.lt_trans hb (by decide)
 have := y4t φ 64 a b 0 φ (by omega) h64 (by omega) ha (by decide)
 rw [Nat.zero_add] at this
 exact this
theorem ybk (φ : Nat) (hφ : 100 < φ) : ∀ (m : Nat) (a e c n : Nat), m <= 64 -> e < 2 ^ m -> m < n -> a < PP -> c < PP -> z4u φ n (a : Int) (e : Int) (c : Int) = some (((c * pw a e % PP : Nat) : Int), ()) := by
 intro m
 induction m with
 | zero =>
  intro a e c n _ he hn ha hc
  obtain ⟨n, rfl⟩ : ∃ n', n = n' + 1 := ⟨n - 1, by omega⟩
  have : e = 0 := by simpa using he
  subst this
  rw [z4u, if_neg (by simp), zvf, Nat.mul_one, Nat.mod_eq_of_lt hc]
 | succ m ih =>
  intro a e c n hm64 he hn ha hc
  obtain ⟨n, rfl⟩ : ∃ n', n = n' + 1 := ⟨n - 1, by omega⟩
  by_cases h0 : e = 0
  ·subst h0
   rw [z4u, if_neg (by simp), zvf, Nat.mul_one, Nat.mod_eq_of_lt hc]
  ·rw [z4u, if_pos (by simp; omega), if_pos (by decide : (2 : Int) ≠ 0)]
   have e1 : (e : Int).tdiv 2 = ((e / 2 : Nat) : Int) := by rw [Int.tdiv_eq_ediv_of_nonneg (by omega)]; omega
   have e2 : (e : Int).tmod 2 = ((e % 2 : Nat) : Int) := by rw [Int.tmod_eq_emod_of_nonneg (by omega)]; omega
   have hel : (e / 2 : Nat) < 2 ^ m := by rw [Nat.pow_succ] at he; omega
   have h64 : (2 : Nat) ^ m <= 2 ^ 63 := Nat.pow_le_pow_right (by decide) (by omega)
   have hU : U ((e / 2 : Nat) : Int) = ((e / 2 : Nat) : Int) := U_id (by omega) (by omega)
   have hlt : ∀ z : Nat, z % PP < PP := fun z => Nat.mod_lt _ (by decide)
   unfold zbw
   rw [e1, e2, hU, zju φ (by omega) a a ha ha]
   have hab : pw a e = pw (a * a % PP) (e / 2) * pw a (e % 2) % PP := by
    rw [yg1, y80, Nat.div_add_mod]
   rcases Nat.mod_two_eq_zero_or_one e with hbit | hbit
   ·rw [hbit, if_neg (by simp), Option.bind_some, if_pos (by decide : (2 : Int) ≠ 0), ih _ _ _ n (by omega) hel (by omega) (hlt _) hc, hab, hbit, zvf, Nat.mul_one, Nat.mod_eq_of_lt (y0h _ _)]
   ·rw [hbit, if_pos (by simp), zju φ (by omega) c a hc ha, Option.bind_some, Option.bind_some, if_pos (by decide : (2 : Int) ≠ 0), ih _ _ _ n (by omega) hel (by omega) (hlt _) (hlt _), hab, hbit, ycg, Nat.mod_eq_of_lt ha]
    congr 2
    rw [Nat.mod_mul_mod, Nat.mul_mod_mod, Nat.mul_assoc, Nat.mul_comm a]
theorem zy2 (φ : Nat) (hφ : 100 < φ) (b n : Nat) (hn : n < 18446744073709551616) : zl3 φ (b : Int) (n : Int) = some (((pw b n : Nat) : Int), ()) := by
 unfold zl3
 rw [if_pos (by decide : (2305843009213690799 : Int) ≠ 0)]
 have hbm : ((b : Int)).tmod 2305843009213690799 = ((b % PP : Nat) : Int) := by
  rw [Int.tmod_eq_emod_of_nonneg (by omega)]; unfold PP; omega
 rw [hbm]
 have := ybk φ hφ 64 (b % PP) n 1 φ (by omega) (by simpa using hn) (by omega) (Nat.mod_lt _ (by decide)) (by decide)
 rw [ybw, Nat.one_mul, Nat.mod_eq_of_lt (y0h _ _)] at this
 exact this
theorem zrl (φ : Nat) (hφ : 100 < φ) (x : Int) : zh8 φ x = some (y3z x, ()) := by
 unfold zh8 y3z
 cases h : decide (2 <= x) && decide (x < 2305843009213690799) with
 | false => rw [gz_f (by simp)]; simp
 | true =>
  simp only [Bool.and_eq_true, decide_eq_true_eq] at h
  have := zy2 φ hφ x.toNat QQ (by decide)
  rw [show ((x.toNat : Nat) : Int) = x by omega, show ((QQ : Nat) : Int) = 1152921504606845399 by decide] at this
  rw [gz_t rfl, this, Option.bind_some, zpg]
theorem z3g (φ : Nat) (a b c : Int) : z1m φ a b c = some (bet a b c, ()) := rfl
theorem zrf (φ : Nat) (p : z7v) : zfl φ p = some (z8g p, ()) := by
 unfold zfl z8g
 simp only [z3g, Option.bind_some]
 cases bet p.kind 1 5 with
 | false => rfl
 | true =>
  rw [gz_t (by simp), Option.bind_some]
  cases bet p.railway 0 15 with
  | false => rfl
  | true =>
   rw [if_neg (by simp)]
   cases h : p.kind == 3 with
   | false => rfl
   | true => rfl
theorem zvc (φ : Nat) (e : Edge) (n : Int) (h : W (n - 1) = n - 1) : zjf φ e n = some (zb1 n e, ()) := by
 unfold zjf zb1
 simp only [z3g, Option.bind_some, h, zk]
 cases bet e.a 0 (n - 1) <;> cases bet e.b 0 (n - 1) <;> cases (e.a != e.b) <;> cases bet e.railway 0 15 <;> cases bet e.minutes 1 100000 <;> cases bet e.km 0 10000 <;> rfl
theorem z7g (φ : Nat) (hφ : 5000 < φ) (x : z6) : z99 φ x = some (z49 x, ()) := by
 unfold z99 z49
 rw [y2i]
 cases h : decide (512 < x.places.length) || decide (2048 < x.edges.length) with
 | true => rfl
 | false =>
  simp only [Bool.or_eq_false_iff, decide_eq_false_iff_not, Nat.not_lt] at h
  rw [if_neg (by simp), z5y (fun n i => z5l φ n i x) (z40 φ φ 0 x) (some (1, ())) x.places (fun t => !z8g t) ?_ ?_ φ (by omega)]
  ·rw [z5y (fun n i => z40 φ n i x) (some (0, ())) (some (1, ())) x.edges (fun t => !zb1 x.places.length t) ?_ ?_ φ (by omega)]
   ·simp only [List.any_eq_not_all_not, Bool.not_not]
    cases x.places.all z8g <;> cases x.edges.all (zb1 x.places.length) <;> rfl
   ·intro n i hi
    rw [z40, if_pos (by simp; omega), z2 ⟨by omega, by omega⟩, zvc _ _ _ (W_id (by omega) (by omega)), Option.bind_some, W_id (by omega) (by omega)]
    cases zb1 x.places.length (gt x.edges i) <;> rfl
   ·intro n; rw [z40, if_neg (by simp)]
  ·intro n i hi
   rw [z5l, if_pos (by simp; omega), z2 ⟨by omega, by omega⟩, zrf, Option.bind_some, W_id (by omega) (by omega)]
   cases z8g (gt x.places i) <;> rfl
  ·intro n; rw [z5l, if_neg (by simp)]
def zc7 (l : List Int) (i : Nat) : Int := if i = 0 then -1 else gt l ((i : Int) - 1)
theorem ya7 (φ : Nat) (c : z4y) : ∀ (n i : Nat), -1 <= zc7 c.holidays i -> (i : Int) <= zc7 c.holidays i + 1 -> zc7 c.holidays i <= 745654 -> i <= c.holidays.length -> 745656 <= (n : Int) + zc7 c.holidays i -> z5m φ n i c = some (bif zyt (zc7 c.holidays i) (c.holidays.drop i) then 0 else 1, ()) := by
 intro n
 induction n with
 | zero => intro i _ _ _ _ _; omega
 | succ n ih =>
  intro i hp hip hp2 hi hn
  by_cases h : i = c.holidays.length
  ·rw [z5m, if_neg (by rw [h]; simp), h, List.drop_length]; rfl
  ·have hW : W ((i : Int) - 1) = (i : Int) - 1 := W_id (by omega) (by omega)
   rw [z5m, if_pos (by simp; omega), z2 ⟨by omega, by omega⟩, hW, z2 (fun h => by have := h.2; simp at this; omega), zhs _ _ (by omega)]
   have hc : ((decide ((gt c.holidays i) < 0) || decide (745654 < (gt c.holidays i))) || (decide (0 < (i : Int)) && decide ((gt c.holidays i) <= (gt c.holidays ((i : Int) - 1))))) = !(decide (zc7 c.holidays i < gt c.holidays i) && decide (gt c.holidays i <= 745654)) := by
    unfold zc7 at *
    rw [Bool.eq_iff_iff]
    by_cases h0 : i = 0
    ·subst h0; simp; omega
    ·rw [if_neg h0] at *; simp; omega
   rw [hc]
   cases hb : decide (zc7 c.holidays i < gt c.holidays i) && decide (gt c.holidays i <= 745654) with
   | false => rw [if_pos (by simp)]; simp [zyt, hb]
   | true =>
    rw [if_neg (by simp), W_id (by omega) (by omega)]
    have hpe : zc7 c.holidays (i + 1) = gt c.holidays i := by
     unfold zc7
     rw [if_neg (by omega)]; congr 1; omega
    have hb' := hb
    simp only [Bool.and_eq_true, decide_eq_true_eq] at hb'
    have := ih (i + 1) (by rw [hpe]; omega) (by rw [hpe]; omega) (by rw [hpe]; omega) (by omega) (by rw [hpe]; omega)
    rw [hpe, show ((i + 1 : Nat) : Int) = (i : Int) + 1 by omega] at this
    rw [this]
    simp [zyt, hb]
theorem zsk (φ : Nat) (hφ : 800000 < φ) (c : z4y) : zgi φ c = some (bif zna c then 0 else 1, ()) := by
 unfold zgi
 refine zh (fun n i (_ : Unit) => z5p φ n i c) 7 (fun i _ => ((List.range i).all fun j => zlf (c.open_ j)) = true) (fun o => o = some (bif zna c then 0 else 1, ())) ?_ ?_ φ () (by simp) (by omega)
 ·intro n i _ hi h hs
  rw [z5p, if_pos (by simp; omega), z2 ⟨by omega, by omega⟩, Int.toNat_natCast, zll, W_id (by omega) (by omega)]
  cases ho : zlf (c.open_ i) with
  | true =>
   rw [if_neg (by simp)]
   exact hs () (by rw [z9l, h, ho]; rfl)
  | false =>
   have : zna c = false := by
    unfold zna
    have : ((List.range 7).all fun j => zlf (c.open_ j)) = false := by
     rw [List.all_eq_false]; exact ⟨i, by simp; omega, by simp [ho]⟩
    rw [this]; rfl
   rw [if_pos (by simp), this]; rfl
 ·intro n _ h
  rw [z5p, if_neg (by simp)]
  unfold zna
  rw [h, Bool.true_and]
  have := ya7 φ c φ 0 (by simp [zc7]) (by simp [zc7]) (by simp [zc7]) (by omega) (by simp [zc7]; omega)
  simpa [zc7] using this
theorem zvw (φ : Nat) (hφ : 800000 < φ) (x : Pool) (h1 : x.network.places.length <= 512) (h2 : x.fleet.wagons.length <= 4096) (h3 : x.readers.length <= 256) (h4 : x.shippers.length <= 256) :
  zjc φ x = some (!((x.readers.any (z7b x.network.places.length) || x.shippers.any (z6v x.network)) || x.fleet.wagons.any (fun w => decide ((x.network.places.length : Int) <= w.home))), ()) := by
 have hp : W ((x.network.places.length : Int) - 1) = (x.network.places.length : Int) - 1 := W_id (by omega) (by omega)
 unfold zjc
 rw [z5y (fun n i => z6q φ n (x.network.places.length : Int) i x) (z44 φ φ (x.network.places.length : Int) 0 x) (some (false, ())) x.readers (z7b x.network.places.length) ?_ ?_ φ (by omega)]
 rotate_left
 ·intro n i hi
  rw [z6q, if_pos (by simp; omega), z2 ⟨by omega, by omega⟩, hp, W_id (by omega) (by omega), z4o, Option.bind_some]
  show (if z7b x.network.places.length (gt x.readers i) = true then some (false, ()) else _) = _
  cases z7b x.network.places.length (gt x.readers i) <;> rfl
 ·intro n; rw [z6q, if_neg (by simp)]
 rw [z5y (fun n i => z44 φ n (x.network.places.length : Int) i x) (z47 φ φ (x.network.places.length : Int) 0 x) (some (false, ())) x.shippers (z6v x.network) ?_ ?_ φ (by omega)]
 rotate_left
 ·intro n i hi
  rw [z44, if_pos (by simp; omega), z2 ⟨by omega, by omega⟩, hp, W_id (by omega) (by omega), z4o, Option.bind_some, z2 (fun _ => ⟨by omega, by omega⟩), z2 (fun h => by
   simp only [Bool.not_eq_false'] at h
   have := zpy h; omega)]
  show (if z6v x.network (gt x.shippers i) = true then some (false, ()) else _) = _
  cases z6v x.network (gt x.shippers i) <;> rfl
 ·intro n; rw [z44, if_neg (by simp)]
 rw [z5y (fun n i => z47 φ n (x.network.places.length : Int) i x) (some (true, ())) (some (false, ())) x.fleet.wagons (fun w => decide ((x.network.places.length : Int) <= w.home)) ?_ ?_ φ (by omega)]
 rotate_left
 ·intro n i hi
  rw [z47, if_pos (by simp; omega), z2 ⟨by omega, by omega⟩, W_id (by omega) (by omega)]
  cases decide ((x.network.places.length : Int) <= (gt x.fleet.wagons i).home) <;> rfl
 ·intro n; rw [z47, if_neg (by simp)]
 cases x.readers.any (z7b x.network.places.length) <;> cases x.shippers.any (z6v x.network) <;> cases x.fleet.wagons.any (fun w => decide ((x.network.places.length : Int) <= w.home)) <;> rfl
theorem zs5 (φ : Nat) (hφ : 800000 < φ) (x : Pool) (h1 : x.network.places.length <= 512) (h2 : x.network.edges.length <= 2048) :
  zfh φ x = some (!(x.network.places.any (fun p => decide ((x.railways.length : Int) <= p.railway) || decide ((x.railways.length : Int) <= p.other)) || x.network.edges.any (fun e => decide ((x.railways.length : Int) <= e.railway))), ()) := by
 unfold zfh
 rw [z5y (fun n i => z5i φ n (x.railways.length : Int) i x) (z3v φ φ (x.railways.length : Int) 0 x) (some (false, ())) x.network.places (fun p => decide ((x.railways.length : Int) <= p.railway) || decide ((x.railways.length : Int) <= p.other)) ?_ ?_ φ (by omega)]
 rotate_left
 ·intro n i hi
  rw [z5i, if_pos (by simp; omega), z2 ⟨by omega, by omega⟩, W_id (by omega) (by omega)]
  cases decide ((x.railways.length : Int) <= (gt x.network.places i).railway) || decide ((x.railways.length : Int) <= (gt x.network.places i).other) <;> rfl
 ·intro n; rw [z5i, if_neg (by simp)]
 rw [z5y (fun n i => z3v φ n (x.railways.length : Int) i x) (some (true, ())) (some (false, ())) x.network.edges (fun e => decide ((x.railways.length : Int) <= e.railway)) ?_ ?_ φ (by omega)]
 rotate_left
 ·intro n i hi
  rw [z3v, if_pos (by simp; omega), z2 ⟨by omega, by omega⟩, W_id (by omega) (by omega)]
  cases decide ((x.railways.length : Int) <= (gt x.network.edges i).railway) <;> rfl
 ·intro n; rw [z3v, if_neg (by simp)]
 cases x.network.places.any (fun p => decide ((x.railways.length : Int) <= p.railway) || decide ((x.railways.length : Int) <= p.other)) <;> cases x.network.edges.any (fun e => decide ((x.railways.length : Int) <= e.railway)) <;> rfl
theorem zdl (φ : Nat) (hφ : 800000 < φ) (x : Pool) : z8b φ x = some (z06 x, ()) := by
 unfold z8b z06
 rw [z7g _ (by omega), Option.bind_some]
 by_cases hn : z49 x.network = 0
 case neg => rw [if_pos (by simp [hn]), if_pos hn]
 rw [if_neg (by simp [hn]), if_neg (fun e : z49 x.network ≠ 0 => e hn), zs6 _ (by omega), Option.bind_some]
 by_cases hf : z5a x.fleet = 0
 case neg => rw [if_pos (by simp [hf]), if_pos hf]
 rw [if_neg (by simp [hf]), if_neg (fun e : z5a x.fleet ≠ 0 => e hf)]
 cases hb : zgz x with
 | true =>
  have e : (((decide (256 < (x.readers.length : Int)) || decide (256 < (x.shippers.length : Int))) || decide (16 < (x.railways.length : Int)))) = zgz x := rfl
  rw [e, hb]; rfl
 | false =>
  have hb' : ¬ (((decide (256 < (x.readers.length : Int)) || decide (256 < (x.shippers.length : Int))) || decide (16 < (x.railways.length : Int))) = true) := by
   rw [show (((decide (256 < (x.readers.length : Int)) || decide (256 < (x.shippers.length : Int))) || decide (16 < (x.railways.length : Int)))) = zgz x from rfl, hb]; simp
  rw [if_neg hb']
  simp only [Bool.or_eq_true, decide_eq_true_eq, not_or] at hb'
  obtain ⟨n1, n2, _, _⟩ := zhw hn
  obtain ⟨f1, f2, _⟩ := z56 hf
  rw [zvw φ hφ _ n1 f2 (by omega) (by omega), Option.bind_some, zs5 φ hφ _ n1 n2]
  have hL : z1h φ φ 0 x = bif x.railways.any zkb then some (1, ()) else (if (((x.railways.length : Int) : Int) == 0) = true then (some (1, ())) else (some (0, ()))) := by
   refine z5y (fun n i => z1h φ n i x) (if (((x.railways.length : Int) : Int) == 0) = true then (some (1, ())) else (some (0, ()))) (some (1, ())) x.railways zkb ?_ ?_ φ (by omega)
   ·intro n i hi
    rw [z1h, if_pos (by simp; omega), z2 ⟨by omega, by omega⟩, W_id (by omega) (by omega), zsk _ hφ, Option.bind_some, z2 (fun _ => ⟨by omega, by omega⟩)]
    unfold zkb
    cases zna (gt x.railways i).calendar with
    | false => rw [gz_f (by simp)]; rfl
    | true =>
     rw [gz_t (by simp), zrl _ (by omega), Option.bind_some]
     cases y3z (gt x.railways i).key <;> rfl
   ·intro n; rw [z1h, if_neg (by simp)]
  rw [hL]
  unfold zk3
  cases x.readers.any (z7b x.network.places.length) <;> cases x.shippers.any (z6v x.network) <;> cases x.fleet.wagons.any (fun w => decide ((x.network.places.length : Int) <= w.home)) <;>
   cases x.network.places.any (fun p => decide ((x.railways.length : Int) <= p.railway) || decide ((x.railways.length : Int) <= p.other)) <;> cases x.network.edges.any (fun e => decide ((x.railways.length : Int) <= e.railway)) <;>
   cases x.railways.any zkb <;> cases ((x.railways.length : Int) == 0) <;> rfl
end Px
end
section
namespace Px
open Go
set_option linter.unusedVariables false
set_option linter.unusedSimpArgs false
theorem zr0 (φ : Nat) (hφ : 800000 < φ) {p : Pool} (hc : z06 p = 0) {l : List zb} (hl : FewL l) : z3k φ p l = some (cnt p l, 0, ()) := by
 have h1 := hl.len
 unfold z3k
 rw [zdl _ hφ, Option.bind_some, if_neg (by simp [hc])]
 refine zh (fun n i acc => z2m φ n l i p acc) l.length (fun i acc => acc = cntN p l i) (fun o => o = some (cnt p l, 0, ())) ?_ ?_ φ [] rfl (by omega)
 ·intro n i acc hi hacc hs
  rw [z2m, if_pos (by simp; omega), z2 ⟨by omega, by omega⟩, yar φ (by omega) hc (hl.gt (by omega) (by omega)), Option.bind_some, W_id (by omega) (by omega)]
  have hs' := hs (cntN p l (i + 1)) rfl
  rw [zxp] at hs'
  cases h : zf0 p (gt l (i : Int)).item with
  | true =>
   rw [h] at hs'
   rw [if_pos (by rfl), z2 (zm7 (by have := zgr p l i; rw [hacc]; simp; omega) (by omega)), hacc]
   exact hs'
  | false =>
   rw [h] at hs'
   simp only [cond_false, List.append_nil] at hs'
   rw [if_neg (by decide), hacc]
   exact hs'
 ·intro n acc hacc
  rw [z2m, if_neg (by simp), hacc]; rfl
theorem zkg (φ : Nat) (hφ : 800000 < φ) {p : Pool} (hc : z06 p ≠ 0) (l : List zb) : z3k φ p l = some ([], z06 p, ()) := by
 unfold z3k
 rw [zdl _ hφ, Option.bind_some, if_pos (by simpa using hc)]
def rE (e : z1) : z7 := ⟨e.visit.place, e.visit.early, e.visit.ref, e.second, e.report, e.stay, e.reader, e.visit.stay⟩
theorem yb0 (φ : Nat) (p : Pool) (r : zb) (i : Int) (h : r.item.kind = 1 -> 0 <= r.item.other /\ r.item.other < (p.readers.length : Int)) : z2c φ p r i = some ((evs p r i).map rE, ()) := by
 by_cases h1 : r.item.kind = 1
 ·have h' := h h1
  simp [z2c, evs, h1, z2 h', z2u, rE]
 by_cases h2 : r.item.kind = 2
 ·simp [z2c, evs, h2, z14, z2u, rE]
 by_cases h9 : r.item.kind = 9
 ·simp [z2c, evs, h9, z14, z2u, rE]
 by_cases h3 : r.item.kind = 3
 ·simp [z2c, evs, h3, z14, z2u, rE]
 by_cases h4 : r.item.kind = 4
 ·simp [z2c, evs, h4, z14, z2u, rE]
 by_cases h6 : r.item.kind = 6
 ·simp [z2c, evs, h6, z14, z2u, rE]
 by_cases h7 : r.item.kind = 7
 ·simp [z2c, evs, h7, z14, z2u, rE]
 ·simp [z2c, evs, h1, h2, h9, h3, h4, h6, h7, z14]
theorem yb8 (φ : Nat) (a b : z1) : zdg φ (rE a) (rE b) = some (ltEv a b, ()) := by
 unfold zdg zhi ltEv rE
 have hd : decide (cfEv a b < 0) = decide (a.visit.early < b.visit.early \/ (a.visit.early = b.visit.early /\ (a.visit.ref.railway < b.visit.ref.railway \/ (a.visit.ref.railway = b.visit.ref.railway /\ (a.visit.ref.no < b.visit.ref.no \/ (a.visit.ref.no = b.visit.ref.no /\
  (ordB a.second < ordB b.second \/ (ordB a.second = ordB b.second /\ a.report < b.report)))))))) := decide_eq_decide.2 zdy
 rw [hd]
 by_cases h1 : a.visit.early = b.visit.early
 ·rw [if_neg (by simp [h1])]
  by_cases h2 : a.visit.ref.railway = b.visit.ref.railway
  ·by_cases h3 : a.visit.ref.no = b.visit.ref.no
   ·rw [if_neg (by simp [h2, h3])]
    cases ha : a.second <;> cases hb : b.second <;> simp [h1, h2, h3, ordB]
   ·rw [if_pos (by simp [h3]), Option.bind_some]
    simp [h1, h2, h3]
  ·rw [if_pos (by simp [h2]), Option.bind_some]
   simp [h1, h2]
 ·rw [if_pos (by simpa using h1)]
  simp [h1]
theorem yd4 {α β : Type} [Inhabited β] (f : α -> β) (a : List α) (x : α) (b : List α) : gt ((a ++ x :: b).map f) (a.length : Int) = f x := by
 rw [List.map_append, List.map_cons]
 have := y7t (a.map f) (f x) (b.map f)
 rwa [List.length_map] at this
theorem y0d (φ : Nat) (x : z1) (N : Nat) (hN : N <= 10000) : ∀ (n : Nat) (b a : List z1), b.length < n -> a.length + b.length = N ->
  z4g φ n ((a ++ b).map rE) (a.length : Int) (rE x) = some ((a ++ insL ltEv x b).map rE, ()) := by
 intro n
 induction n with
 | zero => intro b a h; omega
 | succ n ih =>
  intro b a hn hl
  have fin : ∀ g : z7 -> z7, (ck ((0 : Int) <= 0 /\ 0 <= (a.length : Int) /\ (a.length : Int) <= (((a ++ b).map rE).length : Int)) (ck (fits (([] : List z7).length + (z2v ((a ++ b).map rE) (0 : Int).toNat (a.length : Int).toNat).length) 72) (ck (fits ((([] : List z7) ++ (z2v ((a ++ b).map rE) (0 : Int).toNat (a.length : Int).toNat)).length + ([rE x]).length) 72) (ck ((0 : Int) <= (a.length : Int) /\ (a.length : Int) <= (((a ++ b).map rE).length : Int) /\ (((a ++ b).map rE).length : Int) <= (((a ++ b).map rE).length : Int)) (ck (fits ((((([] : List z7) ++ (z2v ((a ++ b).map rE) (0 : Int).toNat (a.length : Int).toNat)) ++ [rE x])).length + (z2v ((a ++ b).map rE) (a.length : Int).toNat ((((a ++ b).map rE).length : Int) : Int).toNat).length) 72) (some ((((([] : List z7) ++ (z2v ((a ++ b).map rE) (0 : Int).toNat (a.length : Int).toNat)) ++ [rE x]) ++ (z2v ((a ++ b).map rE) (a.length : Int).toNat ((((a ++ b).map rE).length : Int) : Int).toNat)), ())))))))
    = some ((a ++ x :: b).map rE, ()) := by
   intro _
   have e1 : z2v ((a ++ b).map rE) (0 : Int).toNat (a.length : Int).toNat = a.map rE := by
    unfold z2v
    simp
   have e2 : z2v ((a ++ b).map rE) (a.length : Int).toNat ((((a ++ b).map rE).length : Int) : Int).toNat = b.map rE := by
    unfold z2v
    rw [Int.toNat_natCast, Int.toNat_natCast, List.take_length, List.map_append, List.drop_append_of_le_length (by simp)]
    simp
   rw [e1, e2, z2 ⟨by omega, by omega, by simp; omega⟩, z2 (zm7 (by simp; omega) (by omega)), z2 (zm7 (by simp; omega) (by omega)), z2 ⟨by omega, by simp; omega, by omega⟩, z2 (zm7 (by simp; omega) (by omega))]
   simp
  cases b with
  | nil =>
   rw [z4g, z2 (fun h => by simp at h), gz_f (by simp), Option.bind_some, if_neg (by simp)]
   exact fin id
  | cons y b =>
   simp only [List.length_cons] at hn hl
   have hin : (0 : Int) <= (a.length : Int) /\ (a.length : Int) < (((a ++ y :: b).map rE).length : Int) := ⟨by omega, by simp; omega⟩
   rw [z4g, z2 (fun _ => hin), gz_t (by simp; omega), yd4, yb8, Option.bind_some]
   cases h : ltEv y x with
   | true =>
    rw [if_pos (by simp; omega), W_id (by omega) (by omega)]
    have := ih b (a ++ [y]) (by omega) (by simp; omega)
    simp only [List.length_append, List.length_cons, List.length_nil, List.append_assoc, List.cons_append, List.nil_append] at this
    rw [show (a.length : Int) + 1 = ((a.length + (0 + 1) : Nat) : Int) by omega, this]
    simp [insL, h]
   | false =>
    rw [if_neg (by simp)]
    have := fin id
    rw [show insL ltEv x (y :: b) = x :: y :: b by simp [insL, h]]
    exact this
theorem y9p (φ : Nat) (hφ : 20000 < φ) (x : z1) (t : List z1) (ht : t.length <= 10000) : zds φ (t.map rE) (rE x) = some ((insL ltEv x t).map rE, ()) := by
 have := y0d φ x t.length ht φ t [] (by omega) (by simp)
 simpa [zds] using this
def insF (t : List z1) (l : List z1) : List z1 := l.foldl (fun t x => insL ltEv x t) t
theorem zxe (l : List z1) : ∀ t, (insF t l).Perm (l ++ t) := by
 induction l with
 | nil => intro t; exact List.Perm.refl _
 | cons x l ih =>
  intro t
  refine (ih (insL ltEv x t)).trans ?_
  refine ((zkz ltEv x t).append_left l).trans ?_
  exact List.perm_middle
theorem zzu (l : List z1) : ∀ t, (t.Pairwise fun a b => ltEv b a = false) -> (insF t l).Pairwise fun a b => ltEv b a = false := by
 induction l with
 | nil => intro t h; exact h
 | cons x l ih => intro t h; exact ih _ (zkm zwj x t h)
theorem y1h (l t : List z1) : (insF t l).length = l.length + t.length := by rw [(zxe l t).length_eq, List.length_append]
theorem yb7 (p : Pool) (l : List zb) (w : Int) : insF [] (uns p l w) = srt p l w := by
 refine zt9 (lt := ltEv) (l := uns p l w) ?_ ((zxe _ _).trans (by rw [List.append_nil])) (z1r _ _) (zzu _ _ List.Pairwise.nil) (z7u zwj _)
 refine (ycd p l w).imp fun {a b} h => ?_
 have := y7r h
 unfold ltEv
 simpa using this
theorem y9k (φ : Nat) (hφ : 20000 < φ) (k) (x13 : List zb) (x14 : List Int) (x15 x16 : Int) (x19 : Pool) (L : List z1) (hL : L.length <= 2) (t : List z1) (ht : t.length <= 5000) :
  z2n φ k φ x13 x14 x15 x16 (L.map rE) 0 x19 (t.map rE) = k x13 x14 x15 (W (x16 + 1)) x19 ((insF t L).map rE) := by
 refine zh (fun n i acc => z2n φ k n x13 x14 x15 x16 (L.map rE) i x19 acc) L.length (fun i acc => acc = (insF t (L.take i)).map rE) (fun o => o = k x13 x14 x15 (W (x16 + 1)) x19 ((insF t L).map rE)) ?_ ?_ φ (t.map rE) rfl (by omega)
 ·intro n i acc hi hacc hs
  have hl := y1h (L.take i) t
  rw [z2n, if_pos (by simp; omega), z2 ⟨by omega, by simp; omega⟩, zh9 rE L (by omega) (by omega), hacc, y9p φ hφ _ _ (by rw [hl, List.length_take]; omega), Option.bind_some, W_id (by omega) (by omega)]
  refine hs _ ?_
  rw [List.take_succ_eq_append_getElem hi]
  unfold insF
  rw [List.foldl_append]
  show _ = (insL ltEv L[i] _).map rE
  rw [z4x hi]
 ·intro n acc hacc
  rw [z2n, if_neg (by simp), hacc, List.take_length]
theorem y5u (p : Pool) (l : List zb) (c : List Int) (i : Int) (w : Int) : unsC p l (c ++ [i]) w = unsC p l c w ++ (if (gt l i).item.wagon = w then evs p (gt l i) i else []) := by
 unfold unsC
 rw [List.flatMap_append]
 simp
theorem y9t (φ : Nat) (hφ : 800000 < φ) {p : Pool} (hc : z06 p = 0) {l : List zb} (hl : FewL l) (w : Int) :
  z6i φ p l (cnt p l) w = z0d φ φ 0 ((srt p l w).map rE) := by
 have h1 := hl.len
 have hcl : (cnt p l).length <= l.length := zgr p l _
 unfold z6i
 refine zh (fun n i acc => z2r φ n l (cnt p l) w i p acc) (cnt p l).length (fun i acc => acc = (insF [] (unsC p l ((cnt p l).take i) w)).map rE) (fun o => o = z0d φ φ 0 ((srt p l w).map rE)) ?_ ?_ φ [] rfl (by omega)
 ·intro n i acc hi hacc hs
  have hm := zqw (z4a (l := cnt p l) (i := (i : Int)) (by omega) (by omega))
  have hok := zca hc (hl.gt hm.1 hm.2.1) hm.2.2
  have htk : (cnt p l).take (i + 1) = (cnt p l).take i ++ [gt (cnt p l) (i : Int)] := by
   rw [List.take_succ_eq_append_getElem hi, z4x hi]
  have hs' := hs _ rfl
  rw [htk, y5u] at hs'
  rw [z2r, if_pos (by simp; omega), z2 ⟨by omega, by omega⟩, z2 ⟨hm.1, hm.2.1⟩]
  by_cases hw : (gt l (gt (cnt p l) (i : Int))).item.wagon = w
  ·rw [if_neg (by simp [hw]), z2 ⟨by omega, by omega⟩, yb0 φ p _ _ (fun h => hok.read h), Option.bind_some, hacc, y9k φ (by omega) _ _ _ _ _ _ _ (zz6 _ _ _) _ (by
    have h2 := ziz p l w ((cnt p l).take i)
    rw [y1h, List.length_nil]
    rw [List.length_take] at h2
    omega)]
   rw [if_pos hw] at hs'
   rw [W_id (by omega) (by omega)]
   have e : insF (insF [] (unsC p l ((cnt p l).take i) w)) (evs p (gt l (gt (cnt p l) (i : Int))) (gt (cnt p l) (i : Int))) = insF [] (unsC p l ((cnt p l).take i) w ++ evs p (gt l (gt (cnt p l) (i : Int))) (gt (cnt p l) (i : Int))) := by
    unfold insF; rw [List.foldl_append]
   rw [e]
   exact hs'
  ·rw [if_neg hw, List.append_nil] at hs'
   rw [if_pos (by simpa using hw), W_id (by omega) (by omega), hacc]
   exact hs'
 ·intro n acc hacc
  rw [z2r, if_neg (by simp), hacc, List.take_length]
  show z0d φ φ 0 ((insF [] (uns p l w)).map rE) = _
  rw [yb7]
end Px
end
section
namespace Px
set_option linter.unusedVariables false
namespace BF
section
variable {β : Type} (si sj : β -> Nat) (sw : β -> Int)
abbrev X := Nat -> Option Int
def ltO (a : Int) : Option Int -> Bool
 | none => true
 | some b => decide (a < b)
def imp (x : X) (b : β) : Bool := match x (si b) with
 | none => false
 | some a => ltO (a + sw b) (x (sj b))
def rlx (x : X) (b : β) : X := match x (si b) with
 | none => x
 | some a => if ltO (a + sw b) (x (sj b)) = true then fun v => if v = sj b then some (a + sw b) else x v else x
def rnd (L : List β) (x : X) : X := L.foldl (rlx si sj sw) x
def rnds (L : List β) (x : X) : Nat -> X
 | 0 => x
 | n + 1 => rnd si sj sw L (rnds L x n)
inductive Wk (x0 : X) (L : List β) : Nat -> Nat -> Int -> Prop where
 | nil {v : Nat} {c : Int} : x0 v = some c -> Wk x0 L 0 v c
 | step {m : Nat} {c : Int} {b : β} : Wk x0 L m (si b) c -> b ∈ L -> Wk x0 L (m + 1) (sj b) (c + sw b)
def le (o : Option Int) (c : Int) : Prop := ∃ a, o = some a /\ a <= c
variable {si sj sw}
theorem rlx_not {x : X} {b : β} (h : imp si sj sw x b = false) : rlx si sj sw x b = x := by
 unfold imp at h; unfold rlx
 cases hx : x (si b) with
 | none => rfl
 | some a => rw [hx] at h; simp only at h ⊢; rw [if_neg (by rw [h]; simp)]
theorem rlx_imp {x : X} {b : β} (h : imp si sj sw x b = true) : ∃ a, x (si b) = some a /\ ltO (a + sw b) (x (sj b)) = true /\ rlx si sj sw x b = fun v => if v = sj b then some (a + sw b) else x v := by
 unfold imp at h; unfold rlx
 cases hx : x (si b) with
 | none => rw [hx] at h; cases h
 | some a => rw [hx] at h; simp only at h ⊢; exact ⟨a, rfl, h, by rw [if_pos h]⟩
theorem rlx_mono {x : X} {b : β} {v : Nat} {c : Int} (h : le (x v) c) : le (rlx si sj sw x b v) c := by
 cases hi : imp si sj sw x b with
 | false => rw [rlx_not hi]; exact h
 | true =>
  obtain ⟨a, ha, hl, e⟩ := rlx_imp hi
  rw [e]
  simp only
  split
  ·rename_i hv; subst hv
   obtain ⟨d, hd, hc⟩ := h
   rw [hd] at hl
   simp only [ltO, decide_eq_true_eq] at hl
   exact ⟨_, rfl, by omega⟩
  ·exact h
theorem rlx_new {x : X} {b : β} {c : Int} (h : le (x (si b)) c) : le (rlx si sj sw x b (sj b)) (c + sw b) := by
 obtain ⟨a, ha, hc⟩ := h
 cases hi : imp si sj sw x b with
 | false =>
  rw [rlx_not hi]
  unfold imp at hi
  rw [ha] at hi
  simp only at hi
  cases hx : x (sj b) with
  | none => rw [hx] at hi; cases hi
  | some d => rw [hx] at hi; simp only [ltO, decide_eq_false_iff_not] at hi; exact ⟨d, rfl, by omega⟩
 | true =>
  obtain ⟨a', ha', hl, e⟩ := rlx_imp hi
  rw [ha] at ha'; cases ha'
  rw [e]
  exact ⟨_, if_pos rfl, by omega⟩
theorem rnd_mono {v : Nat} {c : Int} : ∀ (L : List β) (x : X), le (x v) c -> le (rnd si sj sw L x v) c
 | [], x, h => h
 | b :: L, x, h => rnd_mono L _ (rlx_mono h)
theorem rnd_new {c : Int} : ∀ (L : List β) (x : X) (b : β), b ∈ L -> le (x (si b)) c -> le (rnd si sj sw L x (sj b)) (c + sw b)
 | b' :: L, x, b, hb, h => by
  rcases List.mem_cons.1 hb with rfl | hb
  ·exact rnd_mono L _ (rlx_new h)
  ·exact rnd_new L _ b hb (rlx_mono h)
theorem rnds_mono (L : List β) {x : X} {v : Nat} {c : Int} (h : le (x v) c) : ∀ n, le (rnds si sj sw L x n v) c
 | 0 => h
 | n + 1 => rnd_mono L _ (rnds_mono L h n)
theorem rnds_low {L : List β} {x0 : X} : ∀ (k m v : Nat) (c : Int), Wk si sj sw x0 L m v c -> m <= k -> le (rnds si sj sw L x0 k v) c
 | k, 0, v, c, h, hm => by cases h with | nil h => exact rnds_mono L ⟨c, h, Int.le_refl _⟩ k
 | k + 1, m + 1, v, c, h, hm => by
  cases h with
  | step h hb => exact rnd_new L _ _ hb (rnds_low k m _ _ h (by omega))
def Inv (si sj : β -> Nat) (sw : β -> Int) (x0 : X) (L : List β) (x : X) : Prop := ∀ v a, x v = some a -> ∃ m, Wk si sj sw x0 L m v a
theorem Inv.rlx {x0 x : X} {L : List β} {b : β} (h : Inv si sj sw x0 L x) (hb : b ∈ L) : Inv si sj sw x0 L (rlx si sj sw x b) := by
 cases hi : imp si sj sw x b with
 | false => rw [rlx_not hi]; exact h
 | true =>
  obtain ⟨a, ha, hl, e⟩ := rlx_imp hi
  intro v d hv
  rw [e] at hv
  simp only at hv
  split at hv
  ·rename_i hj; subst hj
   cases hv
   obtain ⟨m, hm⟩ := h _ _ ha
   exact ⟨_, .step hm hb⟩
  ·exact h v d hv
theorem Inv.rnd {x0 : X} {L : List β} : ∀ (M : List β) (x : X), (∀ b ∈ M, b ∈ L) -> Inv si sj sw x0 L x -> Inv si sj sw x0 L (rnd si sj sw M x)
 | [], x, _, h => h
 | b :: M, x, hM, h => Inv.rnd M _ (fun b hb => hM b (List.mem_cons_of_mem _ hb)) (h.rlx (hM b (List.mem_cons_self ..)))
theorem Inv.rnds {x0 : X} {L : List β} : ∀ n, Inv si sj sw x0 L (rnds si sj sw L x0 n)
 | 0 => fun v a h => ⟨0, .nil h⟩
 | n + 1 => Inv.rnd L _ (fun _ h => h) (Inv.rnds n)
theorem least {Q : Nat -> Prop} : ∀ n, Q n -> ∃ m, Q m /\ ∀ k, Q k -> m <= k := by
 intro n
 induction n using Nat.strongRecOn with
 | _ n ih =>
  intro h
  by_cases hk : ∃ k, k < n /\ Q k
  ·obtain ⟨k, hk, hq⟩ := hk; exact ih k hk hq
  ·exact ⟨n, h, fun k hq => Nat.le_of_not_lt fun hl => hk ⟨k, hl, hq⟩⟩
structure Feas (si sj : β -> Nat) (sw : β -> Int) (x0 : X) (L : List β) (n : Nat) : Prop where
 ex : ∃ (p : Nat -> Int) (C : Int), (∀ b ∈ L, p (sj b) <= p (si b) + sw b) /\ ∀ v c, x0 v = some c -> p v - c <= C
 j : ∀ b ∈ L, sj b < n
 z : ∀ v c, x0 v = some c -> v < n
theorem Wk.lt {x0 : X} {L : List β} {n : Nat} (F : Feas si sj sw x0 L n) {m v : Nat} {c : Int} (h : Wk si sj sw x0 L m v c) : v < n := by
 cases h with
 | nil h => exact F.z _ _ h
 | step h hb => exact F.j _ hb
theorem Wk.low {x0 : X} {L : List β} {p : Nat -> Int} {C : Int} (h1 : ∀ b ∈ L, p (sj b) <= p (si b) + sw b) (h2 : ∀ v c, x0 v = some c -> p v - c <= C) : ∀ {m v : Nat} {c : Int}, Wk si sj sw x0 L m v c -> p v - c <= C
 | 0, _, _, .nil h => h2 _ _ h
 | _ + 1, _, _, .step h hb => by have := Wk.low h1 h2 h; have := h1 _ hb; omega
structure Mn (si sj : β -> Nat) (sw : β -> Int) (x0 : X) (L : List β) (v m : Nat) (c : Int) : Prop where
 w : Wk si sj sw x0 L m v c
 lo : ∀ m' c', Wk si sj sw x0 L m' v c' -> c <= c'
 sh : ∀ m', Wk si sj sw x0 L m' v c -> m <= m'
theorem Mn.ex {x0 : X} {L : List β} {n : Nat} (F : Feas si sj sw x0 L n) {m v : Nat} {c : Int} (h : Wk si sj sw x0 L m v c) : ∃ m c, Mn si sj sw x0 L v m c := by
 obtain ⟨p, C, h1, h2⟩ := F.ex
 obtain ⟨k, ⟨m1, c1, hk, hw⟩, hl⟩ := least (Q := fun k => ∃ m c, (C - (p v - c)).toNat = k /\ Wk si sj sw x0 L m v c) _ ⟨m, c, rfl, h⟩
 obtain ⟨m2, hm, hm2⟩ := least (Q := fun m => Wk si sj sw x0 L m v c1) m1 hw
 refine ⟨m2, c1, hm, fun m' c' h' => ?_, hm2⟩
 have := hl _ ⟨m', c', rfl, h'⟩
 have := Wk.low h1 h2 hw
 have := Wk.low h1 h2 h'
 omega
theorem Mn.pred {x0 : X} {L : List β} {v m : Nat} {c : Int} (h : Mn si sj sw x0 L v (m + 1) c) : ∃ u d, Mn si sj sw x0 L u m d := by
 obtain ⟨w, hc, hm⟩ := h
 cases w with
 | @step _ d b hw hb =>
  refine ⟨si b, d, hw, fun m' c' h' => ?_, fun m' h' => ?_⟩
  ·have := hc _ _ (.step h' hb); omega
  ·have := hm _ (.step h' hb); omega
theorem Mn.all {x0 : X} {L : List β} : ∀ {m v : Nat} {c : Int}, Mn si sj sw x0 L v m c -> ∀ k, k <= m -> ∃ u d, Mn si sj sw x0 L u k d
 | 0, v, c, h, k, hk => by
  have : k = 0 := by omega
  subst this
  exact ⟨v, c, h⟩
 | m + 1, v, c, h, k, hk => by
  by_cases e : k = m + 1
  ·subst e; exact ⟨v, c, h⟩
  ·obtain ⟨u, d, h'⟩ := h.pred; exact Mn.all h' k (by omega)
theorem Mn.uniq {x0 : X} {L : List β} {v m m' : Nat} {c c' : Int} (h : Mn si sj sw x0 L v m c) (h' : Mn si sj sw x0 L v m' c') : c = c' /\ m = m' := by
 have e : c = c' := Int.le_antisymm (h.lo _ _ h'.w) (h'.lo _ _ h.w)
 subst e
 exact ⟨rfl, Nat.le_antisymm (h.sh _ h'.w) (h'.sh _ h.w)⟩
theorem holes : ∀ (n M : Nat) (R : Nat -> Nat -> Prop), (∀ k k' u, R k u -> R k' u -> k = k') -> (∀ k, k < M -> ∃ u, u < n /\ R k u) -> M <= n
 | 0, M, R, _, h => by
  cases M with
  | zero => exact Nat.le_refl _
  | succ M => obtain ⟨u, hu, _⟩ := h 0 (by omega); omega
 | n + 1, M, R, hR, h => by
  by_cases hk : ∃ k, k < M /\ R k n
  ·obtain ⟨k0, hk0, hr⟩ := hk
   have := holes n (M - 1) (fun k u => R (if k < k0 then k else k + 1) u) (fun k k' u h1 h2 => by
    have := hR _ _ _ h1 h2
    split at this <;> split at this <;> omega) fun k hk => by
    obtain ⟨u, hu, hru⟩ := h (if k < k0 then k else k + 1) (by split <;> omega)
    refine ⟨u, ?_, hru⟩
    by_cases e : u = n
    ·subst e
     have := hR _ _ _ hru hr
     split at this <;> omega
    ·omega
   omega
  ·have := holes n M R hR fun k hk' => by
    obtain ⟨u, hu, hru⟩ := h k hk'
    exact ⟨u, by
     by_cases e : u = n
     ·subst e; exact (hk ⟨k, hk', hru⟩).elim
     ·omega, hru⟩
   omega
theorem Mn.short {x0 : X} {L : List β} {n : Nat} (F : Feas si sj sw x0 L n) {m v : Nat} {c : Int} (h : Mn si sj sw x0 L v m c) : m < n :=
 holes n (m + 1) (fun k u => ∃ d, Mn si sj sw x0 L u k d) (fun k k' u ⟨_, a⟩ ⟨_, b⟩ => (a.uniq b).2) fun k hk => by
  obtain ⟨u, d, hu⟩ := h.all k (by omega)
  exact ⟨u, hu.w.lt F, d, hu⟩
theorem done {x0 : X} {L : List β} {n : Nat} (F : Feas si sj sw x0 L n) {k : Nat} (hk : n <= k + 1) : ∀ b ∈ L, imp si sj sw (rnds si sj sw L x0 k) b = false := by
 intro b hb
 unfold imp
 cases hx : rnds si sj sw L x0 k (si b) with
 | none => rfl
 | some a =>
  obtain ⟨m, hm⟩ := Inv.rnds k _ _ hx
  obtain ⟨m', d, hd⟩ := Mn.ex F (.step hm hb)
  obtain ⟨e, he, hed⟩ := rnds_low k m' _ _ hd.w (by have := hd.short F; omega)
  have := hd.lo _ _ (.step hm hb)
  rw [he]
  simp only [ltO, decide_eq_false_iff_not]
  omega
def Fix (si sj : β -> Nat) (sw : β -> Int) (L : List β) (x : X) : Prop := ∀ b ∈ L, imp si sj sw x b = false
theorem Fix.le {L : List β} {x : X} (h : Fix si sj sw L x) {b : β} (hb : b ∈ L) {a : Int} (ha : x (si b) = some a) : ∃ d, x (sj b) = some d /\ d <= a + sw b := by
 have := h b hb
 unfold imp at this
 rw [ha] at this
 simp only at this
 cases hx : x (sj b) with
 | none => rw [hx] at this; cases this
 | some d => rw [hx] at this; simp only [ltO, decide_eq_false_iff_not] at this; exact ⟨d, rfl, by omega⟩
theorem Fix.wk {x0 : X} {L : List β} {x : X} (h : Fix si sj sw L x) (h0 : ∀ v c, x0 v = some c -> BF.le (x v) c) : ∀ {m v : Nat} {c : Int}, Wk si sj sw x0 L m v c -> BF.le (x v) c
 | 0, _, _, .nil h' => h0 _ _ h'
 | _ + 1, _, _, .step (c := c) h' hb => by
  obtain ⟨a, ha, hc⟩ := Fix.wk h h0 h'
  obtain ⟨d, hd, hl⟩ := h.le hb ha
  exact ⟨d, hd, by omega⟩
theorem Fix.uniq {x0 : X} {L : List β} {x y : X} (hx : Fix si sj sw L x) (hy : Fix si sj sw L y) (ix : Inv si sj sw x0 L x) (iy : Inv si sj sw x0 L y) (x1 : ∀ v c, x0 v = some c -> BF.le (x v) c) (y1 : ∀ v c, x0 v = some c -> BF.le (y v) c) : x = y := by
 funext v
 have go : ∀ (x y : X), Fix si sj sw L y -> Inv si sj sw x0 L x -> (∀ v c, x0 v = some c -> BF.le (y v) c) -> ∀ a, x v = some a -> BF.le (y v) a := fun x y hy ix y1 a ha => by
  obtain ⟨m, hm⟩ := ix v a ha
  exact hy.wk y1 hm
 cases h1 : x v with
 | none =>
  cases h2 : y v with
  | none => rfl
  | some b => obtain ⟨a, ha, _⟩ := go y x hx iy x1 b h2; rw [h1] at ha; cases ha
 | some a =>
  obtain ⟨b, hb, hab⟩ := go x y hy ix y1 a h1
  obtain ⟨a', ha', hba⟩ := go y x hx iy x1 b hb
  rw [h1] at ha'; cases ha'
  rw [hb, Int.le_antisymm hab hba]
end
end BF
end Px
end
section
namespace Px
open Go
set_option linter.unusedVariables false
set_option linter.unusedSimpArgs false
structure LS where
 x : List Int
 y : List Int
 z : Int
def stp (b : ze) (i : Int) (s : LS) : LS := if gt s.x b.i + b.w < gt s.x b.j then ⟨zu s.x b.j (gt s.x b.i + b.w), zu s.y b.j i, i⟩ else s
def rndL (L : List ze) : Nat -> LS -> LS
 | 0, s => s
 | m + 1, s => stp (gt L (m : Int)) m (rndL L m s)
def lowR (L : List ze) : Nat -> LS -> LS
 | 0, s => s
 | k + 1, s => if (rndL L L.length ⟨s.x, s.y, -1⟩).z < 0 then rndL L L.length ⟨s.x, s.y, -1⟩ else lowR L k (rndL L L.length ⟨s.x, s.y, -1⟩)
def low (n : Nat) (L : List ze) : LS := lowR L n ⟨List.replicate n 0, List.replicate n (-1), -1⟩
end Px
end
section
namespace Px
open Go
set_option linter.unusedVariables false
set_option linter.unusedSimpArgs false
def evE (v : Int) (e : z1) : z0v := ⟨e.visit.wagon, e.visit.place, v, e.visit.ref, e.visit.stay⟩
def evsE : Int -> List z1 -> List z0v
 | _, [] => []
 | v, e :: t => evE v e :: evsE (v + 1) t
def bnds (tv : z1d -> z1d -> Int) (m : List (Int × Int)) : Option z1d -> Int -> List z1 -> List ze
 | _, _, [] => []
 | pr, v, e :: t => evB m v e ++ trB tv v pr e ++ bnds tv m (some e.visit) (v + 1) t
theorem ydd : ∀ (t : List z1) (v : Int) (i : Nat), (evsE v t)[i]? = (t[i]?).map (evE (v + i))
 | [], v, i => by simp [evsE]
 | e :: t, v, 0 => by simp [evsE]
 | e :: t, v, i + 1 => by
  simp only [evsE, List.getElem?_cons_succ]
  rw [ydd t (v + 1) i]
  congr 2; omega
theorem ye3 (tv m) : ∀ (t : List z1) (pr) (v : Int) (i : Nat) (e : z1), t[i]? = some e -> ∀ b ∈ evB m (v + i) e, b ∈ bnds tv m pr v t
 | [], pr, v, i, e, h, b, hb => by simp at h
 | x :: t, pr, v, 0, e, h, b, hb => by
  simp at h; subst h
  rw [show v + ((0 : Nat) : Int) = v by omega] at hb
  simp only [bnds]
  exact List.mem_append_left _ (List.mem_append_left _ hb)
 | x :: t, pr, v, i + 1, e, h, b, hb => by
  simp only [bnds]
  refine List.mem_append_right _ (ye3 tv m t _ (v + 1) i e (by simpa using h) b ?_)
  rw [show v + 1 + (i : Int) = v + ((i + 1 : Nat) : Int) by omega]; exact hb
theorem yev (tv m) : ∀ (t : List z1) (pr) (v : Int) (i : Nat) (a e : z1), t[i]? = some a -> t[i + 1]? = some e -> (⟨v + i + 1, v + i, 0 - tv a.visit e.visit⟩ : ze) ∈ bnds tv m pr v t
 | [], pr, v, i, a, e, h, _ => by simp at h
 | [x], pr, v, 0, a, e, h, h2 => by simp at h2
 | x :: y :: t, pr, v, 0, a, e, h, h2 => by
  simp at h h2; subst h; subst h2
  simp only [bnds, trB]
  refine List.mem_append_right _ (List.mem_append_left _ (List.mem_append_right _ (List.mem_singleton.2 ?_)))
  simp
 | x :: t, pr, v, i + 1, a, e, h, h2 => by
  have := yev tv m t (some x.visit) (v + 1) i a e (by simpa using h) (by simpa using h2)
  simp only [bnds]
  refine List.mem_append_right _ ?_
  rw [show v + ((i + 1 : Nat) : Int) + 1 = v + 1 + (i : Int) + 1 by omega, show v + ((i + 1 : Nat) : Int) = v + 1 + (i : Int) by omega]
  exact this
theorem y4v (tv m) : ∀ (t : List z1) (pr) (v : Int) (b : ze), b ∈ bnds tv m pr v t -> ∃ i : Nat, ∃ e : z1, t[i]? = some e /\ (b ∈ evB m (v + i) e \/ ∃ a : z1d, (0 < i \/ pr.isSome = true) /\ b = ⟨v + i, v + i - 1, 0 - tv a e.visit⟩)
 | [], pr, v, b, h => by simp [bnds] at h
 | x :: t, pr, v, b, h => by
  simp only [bnds, List.mem_append] at h
  rcases h with (h | h) | h
  ·exact ⟨0, x, rfl, .inl (by rw [show v + ((0 : Nat) : Int) = v by omega]; exact h)⟩
  ·cases pr with
   | none => simp [trB] at h
   | some a =>
    simp only [trB, List.mem_singleton] at h
    exact ⟨0, x, rfl, .inr ⟨a, .inr rfl, by rw [h]; simp⟩⟩
  ·obtain ⟨i, e, hi, hb⟩ := y4v tv m t _ _ b h
   refine ⟨i + 1, e, by simpa using hi, ?_⟩
   rw [show v + ((i + 1 : Nat) : Int) = v + 1 + (i : Int) by omega]
   rcases hb with hb | ⟨a, _, hb⟩
   ·exact .inl hb
   ·exact .inr ⟨a, .inl (by omega), hb⟩
theorem zoq (rs : List z63) (m : List (Int × Int)) : ∀ n : Nat, (∀ i : Nat, i < n -> (mget m (i : Int)).isSome = true -> ∃ v, mget (rdsN rs m n).m (i : Int) = some v /\ 1 <= v /\ v < (rdsN rs m n).v) /\ ∀ k : Int, (n : Int) <= k -> mget (rdsN rs m n).m k = mget m k
 | 0 => ⟨fun i h => by omega, fun k _ => rfl⟩
 | n + 1 => by
  obtain ⟨h1, h2⟩ := zoq rs m n
  have hv := (zeb rs m n).1
  have h3 := h2 (n : Int) (Int.le_refl _)
  simp only [rdsN, zjx]
  split
  ·rename_i hs
   refine ⟨fun i hi hm => ?_, fun k hk => ?_⟩
   ·simp only [z6h]
    by_cases e : i = n
    ·subst e; exact ⟨_, if_pos rfl, hv, by omega⟩
    ·obtain ⟨v, q1, q2, q3⟩ := h1 i (by omega) hm
     exact ⟨v, by rw [if_neg (by omega)]; exact q1, q2, by omega⟩
   ·simp only [z6h]
    rw [if_neg (by omega)]; exact h2 k (by omega)
  ·rename_i hs
   refine ⟨fun i hi hm => ?_, fun k hk => h2 k (by omega)⟩
   by_cases e : i = n
   ·subst e; rw [h3] at hs; exact absurd hm hs
   ·exact h1 i (by omega) hm
theorem y3m {m : List (Int × Int)} {e : z1} {k : Int} (h : (mget m k).isSome = true) : (mget (zvo m e) k).isSome = true := by
 unfold zvo
 split
 ·rw [z6h]; split
  ·rfl
  ·exact h
 ·exact h
theorem zmt : ∀ (t : List z1) {m : List (Int × Int)} {k : Int}, (mget m k).isSome = true -> (mget (znh m t) k).isSome = true
 | [], m, k, h => h
 | e :: t, m, k, h => zmt t (y3m h)
theorem zx8 : ∀ (t : List z1) (m : List (Int × Int)) (e : z1), e ∈ t -> 0 <= e.reader -> (mget (znh m t) e.reader).isSome = true
 | x :: t, m, e, he, h => by
  rcases List.mem_cons.1 he with rfl | he
  ·refine zmt t (m := zvo m e) ?_
   unfold zvo
   rw [if_pos h, z6h, if_pos rfl]; rfl
  ·exact zx8 t _ e he h
theorem y6a (ts : List (List z1)) {k : Int} : ∀ {m : List (Int × Int)}, (mget m k).isSome = true -> (mget (ts.foldl znh m) k).isSome = true := by
 induction ts with
 | nil => intro m h; exact h
 | cons t ts ih => intro m h; rw [List.foldl_cons]; exact ih (zmt t h)
theorem y1j (ts : List (List z1)) : ∀ (m : List (Int × Int)) (t : List z1) (e : z1), t ∈ ts -> e ∈ t -> 0 <= e.reader -> (mget (ts.foldl znh m) e.reader).isSome = true := by
 induction ts with
 | nil => intro m t e ht; cases ht
 | cons x ts ih =>
  intro m t e ht he h
  rw [List.foldl_cons]
  rcases List.mem_cons.1 ht with e1 | ht
  ·subst e1
   exact y6a ts (zx8 t m e he h)
  ·exact ih _ t e ht he h
theorem yff (rs : List z63) (m : List (Int × Int)) : ∀ n : Nat, n <= rs.length -> ∀ b ∈ (rdsN rs m n).b, ∃ r ∈ rs, ∃ v, 1 <= v /\ v < (rdsN rs m n).v /\ (b = ⟨0, v, 0 - r.low⟩ \/ b = ⟨v, 0, r.high⟩)
 | 0, _, b, hb => by simp [rdsN] at hb
 | n + 1, hn, b, hb => by
  have hv := (zeb rs m n).1
  have ih := yff rs m n (by omega)
  simp only [rdsN, zjx] at hb ⊢
  split at hb
  ·rename_i hs
   rw [if_pos hs]
   simp only [List.mem_append, List.mem_cons, List.not_mem_nil, or_false] at hb
   rcases hb with hb | rfl | rfl
   ·obtain ⟨r, hr, v, q1, q2, q3⟩ := ih b hb
    exact ⟨r, hr, v, q1, by simp only; omega, q3⟩
   ·exact ⟨_, z4a (l := rs) (i := (n : Int)) (by omega) (by omega), _, hv, by simp only; omega, .inl rfl⟩
   ·exact ⟨_, z4a (l := rs) (i := (n : Int)) (by omega) (by omega), _, hv, by simp only; omega, .inr rfl⟩
  ·rename_i hs
   rw [if_neg hs]
   exact ih b hb
section
variable {X : Int -> Int} {m : List (Int × Int)} {v : Int} {e : z1}
end
theorem zx0 {p : Pool} (hc : z06 p = 0) {l : List zb} (hl : FewL l) {w : Int} {x : z1} (h : x ∈ z5t p l w) : x.reader < (p.readers.length : Int) := by
 obtain ⟨y, hy, b, rfl⟩ := zi6 h
 obtain ⟨h1, h2, _, h3, h4⟩ := zqm hl.len hy
 show y.reader < _
 have ho := zca hc (hl.gt h1 h2) h3
 unfold evs at h4
 split at h4
 ·rename_i hk
  simp only [List.mem_singleton] at h4
  rw [h4]; exact (ho.read hk).2
 ·split at h4
  ·simp only [List.mem_cons, List.not_mem_nil, or_false] at h4
   rcases h4 with q | q <;> rw [q] <;> simp only <;> omega
  ·split at h4
   ·simp only [List.mem_singleton] at h4
    rw [h4]; simp only; omega
   ·cases h4
end Px
end
section
namespace Px
open Go
theorem ygv : zj8 100000000 = some (true, ()) := by kernel_rfl
end Px
end
section
namespace Px
open Go
set_option linter.unusedVariables false
set_option linter.unusedSimpArgs false
def KU (m : List (Int × Bool)) : Prop := (m.map (·.1)).Nodup
theorem y1y {k : Int} {v : Bool} : ∀ {m : List (Int × Bool)} {q : Int × Bool}, q ∈ mset m k v -> q ∈ m \/ q.1 = k
 | [], q, h => by simp [mset] at h; exact .inr (by rw [h])
 | (a, b) :: m, q, h => by
  simp only [mset] at h
  cases hk : (k == a) with
  | true =>
   rw [hk] at h
   rcases List.mem_cons.1 h with rfl | h
   ·exact .inr rfl
   ·exact .inl (List.mem_cons_of_mem _ h)
  | false =>
   rw [hk] at h
   rcases List.mem_cons.1 h with rfl | h
   ·exact .inl (List.mem_cons_self ..)
   ·exact (y1y h).imp (List.mem_cons_of_mem _) id
theorem KU.mset {k : Int} {v : Bool} : ∀ {m : List (Int × Bool)}, KU m -> KU (Px.mset m k v)
 | [], _ => by simp [Px.mset, KU]
 | (a, b) :: m, h => by
  simp only [KU, List.map_cons, List.nodup_cons] at h
  simp only [Px.mset]
  cases hk : (k == a) with
  | true =>
   have : k = a := by simpa using hk
   subst this
   simp only [cond_true, KU, List.map_cons, List.nodup_cons]
   exact h
  | false =>
   simp only [cond_false, KU, List.map_cons, List.nodup_cons]
   refine ⟨fun hm => ?_, KU.mset h.2⟩
   obtain ⟨q, hq, he⟩ := List.mem_map.1 hm
   rcases y1y hq with hq | hq
   ·exact h.1 (List.mem_map.2 ⟨q, hq, he⟩)
   ·rw [hq] at he; rw [he] at hk; simp at hk
theorem KU.mdel {k : Int} : ∀ {m : List (Int × Bool)}, KU m -> KU (Px.mdel m k) /\ ∀ q ∈ Px.mdel m k, q ∈ m /\ q.1 ≠ k
 | [], h => ⟨h, fun q hq => by cases hq⟩
 | (a, b) :: m, h => by
  have h0 := h
  simp only [KU, List.map_cons, List.nodup_cons] at h
  simp only [Px.mdel]
  cases hk : (k == a) with
  | true =>
   have : k = a := by simpa using hk
   subst this
   refine ⟨h.2, fun q hq => ⟨List.mem_cons_of_mem _ hq, fun e => h.1 (List.mem_map.2 ⟨q, hq, e⟩)⟩⟩
  | false =>
   obtain ⟨i1, i2⟩ := KU.mdel (k := k) (m := m) h.2
   refine ⟨?_, fun q hq => ?_⟩
   ·simp only [cond_false, KU, List.map_cons, List.nodup_cons]
    refine ⟨fun hm => ?_, i1⟩
    obtain ⟨q, hq, he⟩ := List.mem_map.1 hm
    exact h.1 (List.mem_map.2 ⟨q, (i2 q hq).1, he⟩)
   ·rcases List.mem_cons.1 hq with rfl | hq
    ·exact ⟨List.mem_cons_self .., fun e => by simp at hk; exact hk e.symm⟩
    ·exact ⟨List.mem_cons_of_mem _ (i2 q hq).1, (i2 q hq).2⟩
def Ends (t : List z1) : Prop := ∀ A e B, t = A ++ e :: B -> e.stay = true -> e.second = false -> ∃ y ∈ B, y.stay = true /\ y.second = true /\ y.report = e.report
theorem zxj : ∀ (A B : List z1) (m : List (Int × Bool)), zid (A ++ B) m = zid A m ++ zid B (A.foldl (fun m e => covM e m) m)
 | [], B, m => rfl
 | e :: A, B, m => by simp only [List.cons_append, zid, List.foldl_cons, zxj A B]
theorem ydz {p : Pool} (hc : z06 p = 0) {l : List zb} (hl : FewL l) {w : Int} {x : z1} (h : x ∈ uns p l w) (h1 : x.stay = true) (h2 : x.second = false) : ∃ y ∈ uns p l w, y.stay = true /\ y.second = true /\ y.report = x.report /\ ltEv x y = true := by
 obtain ⟨a1, a2, a3, a4, a5⟩ := zqm hl.len h
 have ho := zca hc (hl.gt a1 a2) a4
 simp only [uns, unsC, List.mem_flatMap] at h
 obtain ⟨i, hi, hx⟩ := h
 split at hx
 case isFalse => cases hx
 rename_i hw
 obtain ⟨r1, r2, r3⟩ := zj7 hx
 rw [r1] at ho a5
 unfold evs at a5
 split at a5
 ·simp only [List.mem_singleton] at a5; rw [a5] at h1; cases h1
 ·rename_i hk1
  split at a5
  ·rename_i hk
   simp only [List.mem_cons, List.not_mem_nil, or_false] at a5
   rcases a5 with a5 | a5
   ·refine ⟨⟨z2u (gt l i) (gt l i).item.place (gt l i).item.to, i, true, true, -1⟩, ?_, rfl, rfl, by rw [a5], ?_⟩
    ·simp only [uns, unsC, List.mem_flatMap]
     refine ⟨i, hi, ?_⟩
     rw [if_pos hw, evs, if_neg hk1, if_pos hk]
     simp
    ·have := (ho.to hk).1
     rw [a5]
     simp only [ltEv, decide_eq_true_eq, zdy, z2u, ordB]
     simp
     omega
   ·rw [a5] at h2; cases h2
  ·split at a5
   ·simp only [List.mem_singleton] at a5; rw [a5] at h1; cases h1
   ·cases a5
theorem yb4 {p : Pool} (hc : z06 p = 0) {l : List zb} (hl : FewL l) (w : Int) : Ends (srt p l w) := by
 intro A e B hs h1 h2
 have hmem : ∀ x, x ∈ srt p l w ↔ x ∈ uns p l w := fun x => (z1r _ _).mem_iff
 obtain ⟨y, hy, y1, y2, y3, y4⟩ := ydz hc hl ((hmem e).1 (by rw [hs]; simp)) h1 h2
 have hy2 := (hmem y).2 hy
 rw [hs] at hy2
 have hpw := z7u zwj (uns p l w)
 change (srt p l w).Pairwise _ at hpw
 rw [hs, List.pairwise_append] at hpw
 rcases List.mem_append.1 hy2 with hy2 | hy2
 ·have := hpw.2.2 y hy2 e (List.mem_cons_self ..)
  rw [this] at y4; cases y4
 ·rcases List.mem_cons.1 hy2 with rfl | hy2
  ·rw [y2] at h2; cases h2
  ·exact ⟨y, hy2, y1, y2, y3⟩
end Px
end
section
namespace Px
open Go
set_option linter.unusedVariables false
set_option linter.unusedSimpArgs false
def zoh (m : List (Int × Bool)) : List Int := m.map (·.1)
theorem y5c {k : Int} {v : Bool} {c : Int} : ∀ m : List (Int × Bool), c ∈ zoh (mset m k v) ↔ c = k \/ c ∈ zoh m := by
 intro m
 induction m with
 | nil => simp [mset, zoh]
 | cons q m ih =>
  obtain ⟨a, b⟩ := q
  simp only [mset]
  cases hk : (k == a) with
  | true =>
   have : k = a := by simpa using hk
   subst this
   simp [zoh]
  | false =>
   simp only [cond_false, zoh, List.map_cons, List.mem_cons] at ih ⊢
   rw [ih]
   constructor
   ·rintro (h | h | h)
    ·exact .inr (.inl h)
    ·exact .inl h
    ·exact .inr (.inr h)
   ·rintro (h | h | h)
    ·exact .inr (.inl h)
    ·exact .inl h
    ·exact .inr (.inr h)
theorem y6y {k : Int} {c : Int} : ∀ m : List (Int × Bool), KU m -> (c ∈ zoh (mdel m k) ↔ c ≠ k /\ c ∈ zoh m) := by
 intro m
 induction m with
 | nil => intro _; simp [mdel, zoh]
 | cons q m ih =>
  obtain ⟨a, b⟩ := q
  intro h
  simp only [KU, List.map_cons, List.nodup_cons] at h
  have ih := ih h.2
  simp only [mdel]
  cases hk : (k == a) with
  | true =>
   have : k = a := by simpa using hk
   subst this
   simp only [cond_true, zoh, List.map_cons, List.mem_cons]
   constructor
   ·intro hc
    exact ⟨fun e => h.1 (e ▸ hc), .inr hc⟩
   ·rintro ⟨h1, h2 | h2⟩
    ·exact absurd h2 h1
    ·exact h2
  | false =>
   have hne : ¬ k = a := by simpa using hk
   simp only [cond_false, zoh, List.map_cons, List.mem_cons] at ih ⊢
   rw [ih]
   constructor
   ·rintro (h | h)
    ·exact ⟨fun e => hne (by rw [<- e, h]), .inl h⟩
    ·exact ⟨h.1, .inr h.2⟩
   ·rintro ⟨h1, h2 | h2⟩
    ·exact .inl h2
    ·exact .inr ⟨h1, h2⟩
def mAt (t : List z1) (n : Nat) : List (Int × Bool) := (t.take n).foldl (fun m e => covM e m) []
theorem zwi {t : List z1} {n : Nat} (h : n < t.length) : mAt t (n + 1) = covM (gt t (n : Int)) (mAt t n) := by
 unfold mAt
 rw [List.take_succ_eq_append_getElem h, List.foldl_append, z4x h]
 rfl
theorem ybz (t : List z1) : ∀ n, n <= t.length -> KU (mAt t n)
 | 0, _ => by simp [mAt, KU]
 | n + 1, h => by
  rw [zwi (by omega)]
  have := ybz t n (by omega)
  unfold covM
  split
  ·exact (KU.mdel this).1
  ·split
   ·exact KU.mset this
   ·exact this
def Mt (t : List z1) (q : Int) (j : Nat) : Prop := (gt t (j : Int)).second = true /\ (gt t (j : Int)).report = q
def Beg (t : List z1) (i : Nat) : Prop := (gt t (i : Int)).stay = true /\ (gt t (i : Int)).second = false
theorem y0e {t : List z1} (hs : ∀ e ∈ t, e.second = true -> e.stay = true) (q : Int) : ∀ n, n <= t.length ->
  (q ∈ zoh (mAt t n) ↔ ∃ i, i < n /\ Beg t i /\ (gt t (i : Int)).report = q /\ ∀ j, i <= j -> j < n -> ¬ Mt t q j)
 | 0, _ => by simp [mAt, zoh]
 | n + 1, h => by
  have ih := y0e hs q n (by omega)
  rw [zwi (by omega)]
  have hmem : gt t (n : Int) ∈ t := z4a (by omega) (by omega)
  have hse := hs _ hmem
  unfold covM
  by_cases h2 : (gt t (n : Int)).second = true
  ·rw [if_pos (by rw [h2, hse h2]; rfl), y6y _ (ybz t n (by omega)), ih]
   constructor
   ·rintro ⟨h1, i, hi, hst, hr, hall⟩
    refine ⟨i, by omega, hst, hr, fun j hj hj' => ?_⟩
    by_cases hjn : j = n
    ·subst hjn; exact fun hm => h1 hm.2.symm
    ·exact hall j hj (by omega)
   ·rintro ⟨i, hi, hst, hr, hall⟩
    have hin : i ≠ n := by intro e; subst e; rw [hst.2] at h2; cases h2
    exact ⟨fun e => hall n (by omega) (by omega) ⟨h2, e.symm⟩, i, by omega, hst, hr, fun j hj hj' => hall j hj (by omega)⟩
  ·have h2' : (gt t (n : Int)).second = false := by simpa using h2
   have nm : ∀ q, ¬ Mt t q n := fun q hm => h2 hm.1
   have hext : ∀ i, i < n -> ((∀ j, i <= j -> j < n -> ¬ Mt t q j) ↔ ∀ j, i <= j -> j < n + 1 -> ¬ Mt t q j) := by
    intro i hi
    constructor
    ·intro h j hj hj'
     by_cases hjn : j = n
     ·subst hjn; exact nm q
     ·exact h j hj (by omega)
    ·intro h j hj hj'; exact h j hj (by omega)
   rw [if_neg (by rw [h2']; simp)]
   by_cases h1 : (gt t (n : Int)).stay = true
   ·rw [if_pos h1, y5c, ih]
    constructor
    ·rintro (h | ⟨i, hi, hst, hr, hall⟩)
     ·exact ⟨n, by omega, ⟨h1, h2'⟩, h.symm, fun j hj hj' => by rw [show j = n by omega]; exact nm q⟩
     ·exact ⟨i, by omega, hst, hr, (hext i hi).1 hall⟩
    ·rintro ⟨i, hi, hst, hr, hall⟩
     by_cases hin : i = n
     ·subst hin; exact .inl hr.symm
     ·exact .inr ⟨i, by omega, hst, hr, (hext i (by omega)).2 hall⟩
   ·rw [if_neg h1, ih]
    constructor
    ·rintro ⟨i, hi, hst, hr, hall⟩
     exact ⟨i, by omega, hst, hr, (hext i hi).1 hall⟩
    ·rintro ⟨i, hi, hst, hr, hall⟩
     have hin : i ≠ n := by intro e; subst e; exact h1 hst.1
     exact ⟨i, by omega, hst, hr, (hext i (by omega)).2 hall⟩
def Cov (t : List z1) (n k : Nat) : Prop := ∃ i, i < n /\ i <= k /\ Beg t i /\ ∀ j, i <= j -> j <= k -> ¬ Mt t (gt t (i : Int)).report j
theorem ye0 {t : List z1} (hs : ∀ e ∈ t, e.second = true -> e.stay = true) {k : Nat} (hk : k < t.length) : 0 < (mAt t (k + 1)).length ↔ Cov t t.length k := by
 constructor
 ·intro h
  obtain ⟨q, hq⟩ := List.exists_mem_of_length_pos h
  obtain ⟨i, hi, hst, hr, hall⟩ := (y0e hs q.1 (k + 1) (by omega)).1 (List.mem_map.2 ⟨q, hq, rfl⟩)
  exact ⟨i, by omega, by omega, hst, fun j hj hj' => by rw [hr]; exact hall j hj (by omega)⟩
 ·rintro ⟨i, hi, hik, hst, hall⟩
  have := (y0e hs _ (k + 1) (by omega)).2 ⟨i, by omega, hst, rfl, fun j hj hj' => hall j hj (by omega)⟩
  obtain ⟨q, hq, _⟩ := List.mem_map.1 this
  exact List.length_pos_of_mem hq
def rEc (e : z1) (b : Bool) : z7 := ⟨e.visit.place, e.visit.early, e.visit.ref, e.second, e.report, e.stay, e.reader, b⟩
open Classical in
noncomputable def cvL (t : List z1) (P : Nat -> Prop) : List z7 := (List.range t.length).map fun (k : Nat) => rEc (gt t (k : Int)) (decide (P k))
theorem zak (t P) : (cvL t P).length = t.length := by simp [cvL]
open Classical in
theorem y7p {t : List z1} {P : Nat -> Prop} {k : Nat} (h : k < t.length) : gt (cvL t P) (k : Int) = rEc (gt t (k : Int)) (decide (P k)) := by
 rw [z4x (by rw [zak]; exact h)]
 simp [cvL]
theorem zhx {t : List z1} {P Q : Nat -> Prop} (h : ∀ k, k < t.length -> (P k ↔ Q k)) : cvL t P = cvL t Q := by
 unfold cvL
 refine List.map_congr_left fun k hk => ?_
 have := h k (List.mem_range.1 hk)
 congr 1
 exact decide_eq_decide.2 this
theorem yew {t : List z1} {P : Nat -> Prop} {k : Nat} (h : k < t.length) : zu (cvL t P) (k : Int) (rEc (gt t (k : Int)) true) = cvL t fun j => P j \/ j = k := by
 refine List.ext_getElem (by simp [zak, zu]) fun j h1 h2 => ?_
 rw [zak] at h2
 simp only [zu]
 rw [List.getElem_set]
 by_cases hj : j = k
 ·subst hj
  rw [if_pos (by simp)]
  simp [cvL]
 ·rw [if_neg (by intro e; exact hj (by simpa using e.symm))]
  simp only [cvL, List.getElem_map, List.getElem_range]
  congr 1
  exact decide_eq_decide.2 ⟨.inl, fun h => h.resolve_right (by simpa using hj)⟩
theorem ydn (φ : Nat) (k25) {t : List z1} (ht : t.length <= 10000) {i : Nat} (hi : i < t.length) (P : Nat -> Prop) : ∀ (n k : Nat), t.length < n + k -> i <= k -> (∃ j, k <= j /\ j < t.length /\ Mt t (gt t (i : Int)).report j) ->
  (∀ j, i <= j -> j < k -> ¬ Mt t (gt t (i : Int)).report j) ->
  ∃ e, i <= e /\ e < t.length /\ Mt t (gt t (i : Int)).report e /\ (∀ j, i <= j -> j < e -> ¬ Mt t (gt t (i : Int)).report j) /\
   z5g φ k25 n (i : Int) (k : Int) (cvL t fun j => P j \/ (i <= j /\ j < k)) = k25 (W ((i : Int) + 1)) (cvL t fun j => P j \/ (i <= j /\ j < e)) := by
 intro n
 induction n with
 | zero => intro k h _ ⟨j, h1, h2, _⟩; omega
 | succ n ih =>
  intro k hn hik ⟨j, h1, h2, h3⟩ hall
  have hk : k < t.length := by omega
  have i1 : (0 : Int) <= (k : Int) /\ (k : Int) < ((cvL t fun j => P j \/ (i <= j /\ j < k)).length : Int) := ⟨by omega, by rw [zak]; omega⟩
  have i2 : (0 : Int) <= (i : Int) /\ (i : Int) < ((cvL t fun j => P j \/ (i <= j /\ j < k)).length : Int) := ⟨by omega, by rw [zak]; omega⟩
  rw [z5g, z2 i1, z2 (fun _ => i1), z2 (fun _ => i2), y7p hk, y7p hi]
  by_cases hm : Mt t (gt t (i : Int)).report k
  ·refine ⟨k, hik, hk, hm, hall, ?_⟩
   rw [if_neg (by simp only [rEc]; rw [hm.1, hm.2]; simp)]
  ·have hne : k ≠ j := by intro e; subst e; exact hm h3
   obtain ⟨e, e1, e2, e3, e4, e5⟩ := ih (k + 1) (by omega) (by omega) ⟨j, by omega, h2, h3⟩ (fun j hj hj' => by
    by_cases hjk : j = k
    ·subst hjk; exact hm
    ·exact hall j hj (by omega))
   refine ⟨e, e1, e2, e3, e4, ?_⟩
   rw [if_pos (by
    simp only [rEc, Bool.or_eq_true, Bool.not_eq_true', bne_iff_ne, ne_eq]
    by_cases h : (gt t (k : Int)).second = true
    ·exact .inr fun q => hm ⟨h, q⟩
    ·exact .inl (by simpa using h)), z2 i1, W_id (by omega) (by omega), <- e5]
   have hset := yew (P := fun j => P j \/ (i <= j /\ j < k)) hk
   simp only [rEc] at hset ⊢
   rw [hset]
   congr 1
   refine zhx fun m hm => ?_
   constructor
   ·rintro ((h | h) | h)
    ·exact .inl h
    ·exact .inr (by omega)
    ·exact .inr (by omega)
   ·rintro (h | h)
    ·exact .inl (.inl h)
    ·by_cases hmk : m = k
     ·exact .inr hmk
     ·exact .inl (.inr (by omega))
theorem yd2 {t : List z1} (hE : Ends t) {i : Nat} (hi : i < t.length) (hst : Beg t i) : ∃ j, i <= j /\ j < t.length /\ Mt t (gt t (i : Int)).report j := by
 have hsp : t = t.take i ++ gt t (i : Int) :: t.drop (i + 1) := by
  rw [z4x hi]
  simp
 obtain ⟨y, hy, y1, y2, y3⟩ := hE _ _ _ hsp hst.1 hst.2
 obtain ⟨m, hm, he⟩ := List.getElem_of_mem hy
 rw [List.length_drop] at hm
 refine ⟨i + 1 + m, by omega, by omega, ?_⟩
 have : gt t ((i + 1 + m : Nat) : Int) = y := by
  rw [z4x (by omega), <- he, List.getElem_drop]
 unfold Mt
 rw [this]
 exact ⟨y2, y3⟩
theorem ydk (φ : Nat) (hφ : 20000 < φ) {t : List z1} (ht : t.length <= 10000) (hE : Ends t) : z0d φ φ 0 (cvL t fun _ => False) = some (cvL t (Cov t t.length), ()) := by
 refine zh (fun n i acc => z0d φ n i acc) t.length (fun i acc => acc = cvL t (Cov t i)) (fun o => o = some (cvL t (Cov t t.length), ())) ?_ ?_ φ _ (zhx fun k _ => ⟨fun h => h.elim, fun ⟨i, h, _⟩ => by omega⟩) (by omega)
 ·intro n i acc hi hacc hs
  have i1 : (0 : Int) <= (i : Int) /\ (i : Int) < ((cvL t (Cov t i)).length : Int) := ⟨by omega, by rw [zak]; omega⟩
  subst hacc
  rw [z0d, if_pos (by rw [zak]; simp; omega), z2 i1, z2 (fun _ => i1), y7p hi]
  by_cases hst : Beg t i
  ·rw [if_neg (by simp only [rEc]; rw [hst.1, hst.2]; simp)]
   obtain ⟨e, e1, e2, e3, e4, e5⟩ := ydn φ (z0d φ n) ht hi (Cov t i) φ i (by omega) (Nat.le_refl _) (yd2 hE hi hst) (fun j h1 h2 => by omega)
   rw [show cvL t (Cov t i) = cvL t fun j => Cov t i j \/ (i <= j /\ j < i) from zhx fun k _ => ⟨.inl, fun h => h.elim id fun h => by omega⟩, e5, W_id (by omega) (by omega)]
   refine hs _ (zhx fun k hk => ?_)
   constructor
   ·rintro (⟨m, h1, h2⟩ | ⟨h1, h2⟩)
    ·exact ⟨m, by omega, h2⟩
    ·exact ⟨i, by omega, h1, hst, fun j hj hj' => e4 j hj (by omega)⟩
   ·rintro ⟨m, h1, h2, h3, h4⟩
    by_cases hmi : m = i
    ·subst hmi
     refine .inr ⟨h2, ?_⟩
     by_cases hke : k < e
     ·exact hke
     ·exact absurd e3 (h4 e e1 (by omega))
    ·exact .inl ⟨m, by omega, h2, h3, h4⟩
  ·rw [if_pos (by
    simp only [rEc, Bool.or_eq_true, Bool.not_eq_true']
    by_cases h : (gt t (i : Int)).stay = true
    ·refine .inr ?_
     cases h2 : (gt t (i : Int)).second
     ·exact absurd ⟨h, h2⟩ hst
     ·rfl
    ·exact .inl (by simpa using h)), W_id (by omega) (by omega)]
   refine hs _ (zhx fun k hk => ?_)
   constructor
   ·rintro ⟨m, h1, h2⟩
    exact ⟨m, by omega, h2⟩
   ·rintro ⟨m, h1, h2, h3, h4⟩
    have hmi : m ≠ i := by intro e; subst e; exact hst h3
    exact ⟨m, by omega, h2, h3, h4⟩
 ·intro n acc hacc
  rw [z0d, if_neg (by rw [hacc, zak]; simp), hacc]
theorem yal {t : List z1} (h : ∀ e ∈ t, e.visit.stay = false) : cvL t (fun _ => False) = t.map rE := by
 refine List.ext_getElem (by simp [zak]) fun j h1 h2 => ?_
 rw [zak] at h1
 simp only [cvL, List.getElem_map, List.getElem_range, rEc, rE, z4x h1, h _ (List.getElem_mem h1)]
 simp
open Classical in
theorem ye5 {t : List z1} (hs : ∀ e ∈ t, e.second = true -> e.stay = true) : cvL t (Cov t t.length) = (zid t []).map rE := by
 refine List.ext_getElem (by simp [zak, zc2]) fun j h1 h2 => ?_
 rw [zak] at h1
 have hsp : t = t.take j ++ gt t (j : Int) :: t.drop (j + 1) := by
  rw [z4x h1]
  simp
 have hg : (zid t [])[j]? = some (zf8 (gt t (j : Int)) (decide ((0 : Int) < ((mAt t (j + 1)).length : Int)))) := by
  rw [zwi h1]
  conv => lhs; rw [hsp]
  rw [zxj]
  have hl : (zid (t.take j) []).length = j := by rw [zc2, List.length_take]; omega
  rw [List.getElem?_append_right (by omega), hl, Nat.sub_self]
  rfl
 simp only [List.length_map, zc2] at h2
 rw [List.getElem?_eq_getElem (by rw [zc2]; exact h2)] at hg
 simp only [List.getElem_map]
 rw [Option.some.inj hg]
 simp only [cvL, List.getElem_map, List.getElem_range, rEc, rE, zf8]
 have := ye0 hs h1
 congr 1
 rw [decide_eq_decide, <- this]
 omega
theorem y23 {p : Pool} {l : List zb} (hl : l.length <= 1000) {w : Int} {x : z1} (h : x ∈ uns p l w) : x.visit.stay = false /\ (x.second = true -> x.stay = true) := by
 obtain ⟨_, _, _, _, a5⟩ := zqm hl h
 unfold evs at a5
 split at a5
 ·simp only [List.mem_singleton] at a5; rw [a5]; exact ⟨rfl, fun h => by cases h⟩
 ·split at a5
  ·simp only [List.mem_cons, List.not_mem_nil, or_false] at a5
   rcases a5 with a5 | a5 <;> rw [a5] <;> exact ⟨rfl, fun _ => rfl⟩
  ·split at a5
   ·simp only [List.mem_singleton] at a5; rw [a5]; exact ⟨rfl, fun h => by cases h⟩
   ·cases a5
theorem ztm (φ : Nat) (hφ : 800000 < φ) {p : Pool} (hc : z06 p = 0) {l : List zb} (hl : FewL l) (w : Int) :
  z6i φ p l (cnt p l) w = some ((z5t p l w).map rE, ()) := by
 have hmem : ∀ x, x ∈ srt p l w ↔ x ∈ uns p l w := fun x => (z1r _ _).mem_iff
 have hlen := z6e hl.len (p := p) w
 rw [z5t, zc2] at hlen
 rw [y9t φ hφ hc hl, <- yal (fun e he => (y23 hl.len ((hmem e).1 he)).1), ydk φ (by omega) (by omega) (yb4 hc hl w), ye5 (fun e he => (y23 hl.len ((hmem e).1 he)).2)]
 rfl
end Px
end
section
namespace Px
open Go
set_option linter.unusedVariables false
set_option linter.unusedSimpArgs false
def zn7 (e : Edge) (a b : Int) : Prop := (e.a = a /\ e.b = b) \/ (e.a = b /\ e.b = a)
instance (e : Edge) (a b : Int) : Decidable (zn7 e a b) := inferInstanceAs (Decidable (_ \/ _))
def lnF (es : List Edge) (a b : Int) : Nat -> Int
 | 0 => -1
 | k + 1 => if zn7 (gt es (k : Int)) a b /\ (lnF es a b k < 0 \/ (gt es (k : Int)).minutes < (gt es (lnF es a b k)).minutes) then (k : Int) else lnF es a b k
theorem zuk (es : List Edge) (a b : Int) (k : Nat) : lnF es a b (k + 1) = if zn7 (gt es (k : Int)) a b /\ (lnF es a b k < 0 \/ (gt es (k : Int)).minutes < (gt es (lnF es a b k)).minutes) then (k : Int) else lnF es a b k := rfl
theorem ztb (es : List Edge) (a b : Int) : ∀ k : Nat, (-1 <= lnF es a b k /\ lnF es a b k < (k : Int)) /\ (0 <= lnF es a b k -> zn7 (gt es (lnF es a b k)) a b) /\ ∀ j : Nat, j < k -> zn7 (gt es (j : Int)) a b -> 0 <= lnF es a b k /\ (gt es (lnF es a b k)).minutes <= (gt es (j : Int)).minutes
 | 0 => ⟨⟨by simp [lnF], by simp [lnF]⟩, by simp [lnF], fun j hj => by omega⟩
 | k + 1 => by
  obtain ⟨⟨h1, h2⟩, h3, h4⟩ := ztb es a b k
  unfold lnF
  split
  ·rename_i hc
   refine ⟨⟨by omega, by omega⟩, fun _ => hc.1, fun j hj hjj => ⟨by omega, ?_⟩⟩
   by_cases e : j = k
   ·subst e; exact Int.le_refl _
   ·have := h4 j (by omega) hjj
    rcases hc.2 with q | q <;> omega
  ·rename_i hc
   refine ⟨⟨h1, by omega⟩, h3, fun j hj hjj => ?_⟩
   by_cases e : j = k
   ·subst e
    by_cases q : lnF es a b j < 0
    ·exact absurd ⟨hjj, .inl q⟩ hc
    ·refine ⟨by omega, ?_⟩
     by_cases q2 : (gt es (j : Int)).minutes < (gt es (lnF es a b j)).minutes
     ·exact absurd ⟨hjj, .inr q2⟩ hc
     ·omega
   ·exact h4 j (by omega) hjj
theorem zw3 (es : List Edge) (i a b : Int) (s : List (List Int) × Ln) (c d : Int) : lget (ent1 es i a b s).2 c d = if (c = a /\ d = b) /\ ((lget s.2 a b).isSome = false \/ (gt es i).minutes < (gt es ((lget s.2 a b).getD default)).minutes) then some i else lget s.2 c d := by
 unfold ent1
 simp only
 by_cases hc : (lget s.2 a b).isSome = false \/ (gt es i).minutes < (gt es ((lget s.2 a b).getD default)).minutes
 ·rw [if_pos (by simpa using hc), zf3]
  by_cases q : c = a /\ d = b
  ·rw [if_pos q, if_pos ⟨q, hc⟩]
  ·rw [if_neg q, if_neg (fun r => q r.1)]
 ·rw [if_neg (by simpa using hc), if_neg (fun r => hc r.2)]
theorem zou {x : z6} (h : z4n x) : ∀ k, k <= x.edges.length -> ∀ c d : Int, lget (z7f x.edges x.places.length k).2 c d = if lnF x.edges c d k < 0 then none else some (lnF x.edges c d k)
 | 0, _, c, d => by simp [z7f, lget, mget, lnF]
 | k + 1, hk, c, d => by
  obtain ⟨_, _, _, _, hne, _⟩ := h.ends (i := (k : Int)) (by omega) (by omega)
  have ih := zou h k (by omega)
  have key : ∀ a b, (lget (z7f x.edges x.places.length k).2 a b).isSome = false \/ (gt x.edges (k : Int)).minutes < (gt x.edges ((lget (z7f x.edges x.places.length k).2 a b).getD default)).minutes ↔ lnF x.edges a b k < 0 \/ (gt x.edges (k : Int)).minutes < (gt x.edges (lnF x.edges a b k)).minutes := by
   intro a b
   rw [ih a b]
   by_cases q : lnF x.edges a b k < 0
   ·rw [if_pos q]; simp [q]
   ·rw [if_neg q]; simp [q]
  show lget (entE x.edges k (z7f x.edges x.places.length k)).2 c d = _
  unfold entE
  have e2 : lget (ent1 x.edges k (gt x.edges (k : Int)).a (gt x.edges (k : Int)).b (z7f x.edges x.places.length k)).2 (gt x.edges (k : Int)).b (gt x.edges (k : Int)).a = lget (z7f x.edges x.places.length k).2 (gt x.edges (k : Int)).b (gt x.edges (k : Int)).a := by
   rw [zw3, if_neg (fun q => hne q.1.2)]
  rw [zw3, e2, zw3]
  simp only [key]
  have yes : zn7 (gt x.edges (k : Int)) c d /\ (lnF x.edges c d k < 0 \/ (gt x.edges (k : Int)).minutes < (gt x.edges (lnF x.edges c d k)).minutes) -> lnF x.edges c d (k + 1) = (k : Int) := fun q => by rw [zuk, if_pos q]
  have no : ¬ (zn7 (gt x.edges (k : Int)) c d /\ (lnF x.edges c d k < 0 \/ (gt x.edges (k : Int)).minutes < (gt x.edges (lnF x.edges c d k)).minutes)) -> lnF x.edges c d (k + 1) = lnF x.edges c d k := fun q => by rw [zuk, if_neg q]
  by_cases q1 : c = (gt x.edges (k : Int)).a /\ d = (gt x.edges (k : Int)).b
  ·obtain ⟨rfl, rfl⟩ := q1
   rw [if_neg (fun q => hne q.1.1)]
   by_cases q2 : lnF x.edges (gt x.edges (k : Int)).a (gt x.edges (k : Int)).b k < 0 \/ (gt x.edges (k : Int)).minutes < (gt x.edges (lnF x.edges (gt x.edges (k : Int)).a (gt x.edges (k : Int)).b k)).minutes
   ·rw [yes ⟨.inl ⟨rfl, rfl⟩, q2⟩, if_pos ⟨⟨rfl, rfl⟩, q2⟩, if_neg (by omega)]
   ·rw [no (fun q => q2 q.2), if_neg (fun q => q2 q.2), ih]
  ·by_cases q3 : c = (gt x.edges (k : Int)).b /\ d = (gt x.edges (k : Int)).a
   ·obtain ⟨rfl, rfl⟩ := q3
    by_cases q2 : lnF x.edges (gt x.edges (k : Int)).b (gt x.edges (k : Int)).a k < 0 \/ (gt x.edges (k : Int)).minutes < (gt x.edges (lnF x.edges (gt x.edges (k : Int)).b (gt x.edges (k : Int)).a k)).minutes
    ·rw [yes ⟨.inr ⟨rfl, rfl⟩, q2⟩, if_pos ⟨⟨rfl, rfl⟩, q2⟩, if_neg (by omega)]
    ·rw [no (fun q => q2 q.2), if_neg (fun q => q2 q.2), if_neg (fun q => q1 q.1), ih]
   ·rw [no (fun q => by
     rcases q.1 with ⟨r1, r2⟩ | ⟨r1, r2⟩
     ·exact q1 ⟨r1.symm, r2.symm⟩
     ·exact q3 ⟨r2.symm, r1.symm⟩), if_neg (fun q => q3 q.1), if_neg (fun q => q1 q.1), ih]
abbrev DE3 := Nat × Nat × Int
abbrev dI (e : DE3) : Nat := e.1
abbrev dJ (e : DE3) : Nat := e.2.1
abbrev dW (e : DE3) : Int := e.2.2
def dirs (e : Edge) : List DE3 := [(e.a.toNat, e.b.toNat, e.minutes), (e.b.toNat, e.a.toNat, e.minutes)]
def dE (x : z6) : List DE3 := x.edges.flatMap dirs
def tf (t : List Int) : BF.X := fun v => if v < t.length /\ 0 <= gt t (v : Int) then some (gt t (v : Int)) else none
def tz (s : Int) : BF.X := fun v => if (v : Int) = s then some 0 else none
theorem y05 {t : List Int} {i : Int} (h0 : 0 <= i) (h : i < (t.length : Int)) : tf t i.toNat = if 0 <= gt t i then some (gt t i) else none := by
 unfold tf
 rw [show ((i.toNat : Nat) : Int) = i by omega]
 by_cases q : 0 <= gt t i
 ·rw [if_pos ⟨by omega, q⟩, if_pos q]
 ·rw [if_neg (fun r => q r.2), if_neg q]
def ryl (t : List Int) (a b m : Int) : List Int := if 0 <= gt t a /\ (gt t b < 0 \/ gt t a + m < gt t b) then zu t b (gt t a + m) else t
theorem y3e {t : List Int} {a b m : Int} (ha : 0 <= a) (ha' : a < (t.length : Int)) (hb : 0 <= b) (hb' : b < (t.length : Int)) (hm : 1 <= m) :
  tf (ryl t a b m) = BF.rlx dI dJ dW (tf t) (a.toNat, b.toNat, m) /\ (BF.imp dI dJ dW (tf t) (a.toNat, b.toNat, m) = decide (0 <= gt t a /\ (gt t b < 0 \/ gt t a + m < gt t b))) := by
 have e1 := y05 ha ha'
 have e2 := y05 hb hb'
 have ei : BF.imp dI dJ dW (tf t) (a.toNat, b.toNat, m) = decide (0 <= gt t a /\ (gt t b < 0 \/ gt t a + m < gt t b)) := by
  unfold BF.imp
  simp only [dI, dJ, dW, e1, e2]
  by_cases q : 0 <= gt t a
  ·rw [if_pos q]
   by_cases q2 : 0 <= gt t b
   ·rw [if_pos q2]
    simp only [BF.ltO]
    rw [decide_eq_decide]; omega
   ·rw [if_neg q2]
    simp only [BF.ltO]
    symm; rw [decide_eq_true_eq]; omega
  ·rw [if_neg q]
   symm; rw [decide_eq_false_iff_not]; exact fun r => q r.1
 refine ⟨?_, ei⟩
 unfold ryl
 by_cases q : 0 <= gt t a /\ (gt t b < 0 \/ gt t a + m < gt t b)
 ·rw [if_pos q]
  rw [decide_eq_true q] at ei
  obtain ⟨c, hc, _, er⟩ := BF.rlx_imp ei
  rw [er]
  simp only [dI, e1, if_pos q.1, Option.some.injEq] at hc
  subst hc
  funext v
  unfold tf
  rw [z0e]
  simp only [dJ, dW]
  by_cases hv : v < t.length
  ·rw [zt _ _ _ _ hb hb' (by omega)]
   by_cases e : (v : Int) = b
   ·rw [if_pos e, if_pos (show v < t.length /\ 0 <= gt t a + m from ⟨hv, by omega⟩), if_pos (show v = b.toNat by omega)]
   ·rw [if_neg e, if_neg (show ¬ v = b.toNat by omega)]
  ·rw [if_neg (fun r => hv r.1), if_neg (show ¬ v = b.toNat by omega), if_neg (fun r => hv r.1)]
 ·rw [if_neg q]
  rw [decide_eq_false q] at ei
  exact (BF.rlx_not ei).symm
def rst (t : List Int) (e : Edge) : List Int := ryl (ryl t e.a e.b e.minutes) e.b e.a e.minutes
def bett (x y : Int) : Int := if x < 0 then y else min2 x y
theorem zqy (t : List Int) (a b m : Int) : (ryl t a b m).length = t.length := by
 unfold ryl; split
 ·exact z0e ..
 ·rfl
theorem yh3 {t : List Int} {a b m : Int} (ha : 0 <= a) (ha' : a < (t.length : Int)) (hb : 0 <= b) (hb' : b < (t.length : Int)) (hne : a ≠ b) (hm : 1 <= m) (hta : -1 <= gt t a) (htb : -1 <= gt t b) :
  (if 0 <= gt t b then zu (if 0 <= gt t a then zu t b (bett (gt t b) (gt t a + m)) else t) a (bett (gt t a) (gt t b + m)) else (if 0 <= gt t a then zu t b (bett (gt t b) (gt t a + m)) else t)) = ryl (ryl t a b m) b a m := by
 have hself : ∀ (u : List Int) (i : Int), 0 <= i -> i < (u.length : Int) -> zu u i (gt u i) = u := fun u i h0 h1 => zf7 u h0 h1
 by_cases q1 : 0 <= gt t a
 ·by_cases q2 : 0 <= gt t b
  ·rw [if_pos q2, if_pos q1]
   by_cases q3 : gt t a + m < gt t b
   ·have e1 : ryl t a b m = zu t b (gt t a + m) := by unfold ryl; rw [if_pos ⟨q1, .inr q3⟩]
    rw [e1]
    have g1 : gt (zu t b (gt t a + m)) b = gt t a + m := by rw [zt _ _ _ _ hb hb' hb, if_pos rfl]
    have g2 : gt (zu t b (gt t a + m)) a = gt t a := by rw [zt _ _ _ _ hb hb' ha, if_neg hne]
    have e2 : ryl (zu t b (gt t a + m)) b a m = zu t b (gt t a + m) := by unfold ryl; rw [g1, g2, if_neg (by omega)]
    rw [e2, show bett (gt t b) (gt t a + m) = gt t a + m by unfold bett min2; rw [if_neg (by omega)]; split <;> omega, show bett (gt t a) (gt t b + m) = gt t a by unfold bett min2; rw [if_neg (by omega)]; split <;> omega]
    have := hself (zu t b (gt t a + m)) a ha (by rw [z0e]; exact ha')
    rwa [g2] at this
   ·have e1 : ryl t a b m = t := by unfold ryl; rw [if_neg (by omega)]
    rw [e1, show bett (gt t b) (gt t a + m) = gt t b by unfold bett min2; rw [if_neg (by omega)]; split <;> omega, hself t b hb hb']
    unfold ryl
    by_cases q4 : gt t b + m < gt t a
    ·rw [if_pos ⟨q2, .inr q4⟩, show bett (gt t a) (gt t b + m) = gt t b + m by unfold bett min2; rw [if_neg (by omega)]; split <;> omega]
    ·rw [if_neg (by omega), show bett (gt t a) (gt t b + m) = gt t a by unfold bett min2; rw [if_neg (by omega)]; split <;> omega, hself t a ha ha']
  ·rw [if_neg q2, if_pos q1]
   have e1 : ryl t a b m = zu t b (gt t a + m) := by unfold ryl; rw [if_pos ⟨q1, .inl (by omega)⟩]
   have g1 : gt (zu t b (gt t a + m)) b = gt t a + m := by rw [zt _ _ _ _ hb hb' hb, if_pos rfl]
   have g2 : gt (zu t b (gt t a + m)) a = gt t a := by rw [zt _ _ _ _ hb hb' ha, if_neg hne]
   rw [e1, show bett (gt t b) (gt t a + m) = gt t a + m by unfold bett; rw [if_pos (by omega)]]
   unfold ryl; rw [g1, g2, if_neg (by omega)]
 ·have e1 : ryl t a b m = t := by unfold ryl; rw [if_neg (fun r => q1 r.1)]
  rw [if_neg q1, e1]
  by_cases q2 : 0 <= gt t b
  ·rw [if_pos q2, show bett (gt t a) (gt t b + m) = gt t b + m by unfold bett; rw [if_pos (by omega)]]
   unfold ryl; rw [if_pos ⟨q2, .inl (by omega)⟩]
  ·rw [if_neg q2]
   unfold ryl; rw [if_neg (fun r => q2 r.1)]
end Px
end
section
namespace Px
open Go
set_option linter.unusedVariables false
set_option linter.unusedSimpArgs false
def chF (t : List Int) (e : Edge) : Bool := (gt (rst t e) e.a != gt t e.a) || (gt (rst t e) e.b != gt t e.b)
structure EdOK (P : Nat) (e : Edge) : Prop where
 a0 : 0 <= e.a
 a1 : e.a < (P : Int)
 b0 : 0 <= e.b
 b1 : e.b < (P : Int)
 ne : e.a ≠ e.b
 m1 : 1 <= e.minutes
 m2 : e.minutes <= 100000
theorem edOK {x : z6} (h : z4n x) {i : Nat} (hi : i < x.edges.length) : EdOK x.places.length (gt x.edges (i : Int)) := by
 obtain ⟨q1, q2, q3, q4, q5, _, _, q6, q7, _⟩ := h.ends (i := (i : Int)) (by omega) (by omega)
 exact ⟨q1, q2, q3, q4, q5, q6, q7⟩
theorem y79 (t : List Int) (e : Edge) : (rst t e).length = t.length := by unfold rst; rw [zqy, zqy]
theorem yfu {P : Nat} {t : List Int} (ht : t.length = P) {e : Edge} (he : EdOK P e) : tf (rst t e) = (dirs e).foldl (BF.rlx dI dJ dW) (tf t) := by
 obtain ⟨a0, a1, b0, b1, ne, m1, m2⟩ := he
 subst ht
 unfold rst dirs
 rw [(y3e (t := ryl t e.a e.b e.minutes) b0 (by rw [zqy]; exact b1) a0 (by rw [zqy]; exact a1) m1).1, (y3e a0 a1 b0 b1 m1).1]
 rfl
theorem zqq {t : List Int} {a b m : Int} (h : ¬ (0 <= gt t a /\ (gt t b < 0 \/ gt t a + m < gt t b))) : ryl t a b m = t := by unfold ryl; rw [if_neg h]
theorem y3l {P : Nat} {t : List Int} (ht : t.length = P) {e : Edge} (he : EdOK P e) : (chF t e = false -> rst t e = t /\ ∀ d ∈ dirs e, BF.imp dI dJ dW (tf t) d = false) /\ ((∀ d ∈ dirs e, BF.imp dI dJ dW (tf t) d = false) -> rst t e = t /\ chF t e = false) := by
 obtain ⟨a0, a1, b0, b1, ne, m1, m2⟩ := he
 subst ht
 have i1 := (y3e a0 a1 b0 b1 m1).2
 have i2 := (y3e b0 b1 a0 a1 m1).2
 constructor
 ·intro hc
  unfold chF at hc
  simp only [Bool.or_eq_false_iff, bne_eq_false_iff_eq] at hc
  obtain ⟨h1, h2⟩ := hc
  have n1 : ¬ (0 <= gt t e.a /\ (gt t e.b < 0 \/ gt t e.a + e.minutes < gt t e.b)) := by
   intro q
   unfold rst at h2
   have e1 : ryl t e.a e.b e.minutes = zu t e.b (gt t e.a + e.minutes) := by unfold ryl; rw [if_pos q]
   rw [e1] at h2
   have g1 : gt (zu t e.b (gt t e.a + e.minutes)) e.b = gt t e.a + e.minutes := by rw [zt _ _ _ _ b0 b1 b0, if_pos rfl]
   have g2 : gt (zu t e.b (gt t e.a + e.minutes)) e.a = gt t e.a := by rw [zt _ _ _ _ b0 b1 a0, if_neg ne]
   rw [zqq (by rw [g1, g2]; omega), g1] at h2
   omega
  have e1 := zqq n1
  have n2 : ¬ (0 <= gt t e.b /\ (gt t e.a < 0 \/ gt t e.b + e.minutes < gt t e.a)) := by
   intro q
   unfold rst at h1
   rw [e1] at h1
   have e2 : ryl t e.b e.a e.minutes = zu t e.a (gt t e.b + e.minutes) := by unfold ryl; rw [if_pos q]
   rw [e2, zt _ _ _ _ a0 a1 a0, if_pos rfl] at h1
   omega
  refine ⟨by unfold rst; rw [e1, zqq n2], fun d hd => ?_⟩
  simp only [dirs, List.mem_cons, List.not_mem_nil, or_false] at hd
  rcases hd with rfl | rfl
  ·rw [i1, decide_eq_false n1]
  ·rw [i2, decide_eq_false n2]
 ·intro hq
  have q1 := hq (e.a.toNat, e.b.toNat, e.minutes) (by simp [dirs])
  have q2 := hq (e.b.toNat, e.a.toNat, e.minutes) (by simp [dirs])
  rw [i1, decide_eq_false_iff_not] at q1
  rw [i2, decide_eq_false_iff_not] at q2
  have hr : rst t e = t := by unfold rst; rw [zqq q1, zqq q2]
  refine ⟨hr, ?_⟩
  unfold chF
  rw [hr]; simp
structure TB (P c : Nat) (t : List Int) : Prop where
 len : t.length = P
 bd : ∀ i : Int, 0 <= i -> i < (P : Int) -> -1 <= gt t i /\ gt t i <= 100000 * (c : Int)
theorem TB.up {P c d : Nat} {t : List Int} (h : TB P c t) (hd : c <= d) : TB P d t := ⟨h.len, fun i h0 h1 => by have := h.bd i h0 h1; omega⟩
theorem TB.ryl {P c : Nat} {t : List Int} (h : TB P c t) {a b m : Int} (ha : 0 <= a) (ha' : a < (P : Int)) (hb : 0 <= b) (hb' : b < (P : Int)) (hm : 1 <= m) (hm' : m <= 100000) : TB P (c + 1) (Px.ryl t a b m) := by
 refine ⟨by rw [zqy]; exact h.len, fun i h0 h1 => ?_⟩
 have q1 := h.bd a ha ha'
 have q2 := h.bd i h0 h1
 unfold Px.ryl
 split
 ·rw [zt _ _ _ _ hb (by rw [h.len]; exact hb') h0]
  split <;> omega
 ·omega
theorem TB.rst {P c : Nat} {t : List Int} (h : TB P c t) {e : Edge} (he : EdOK P e) : TB P (c + 2) (Px.rst t e) :=
 (h.ryl he.a0 he.a1 he.b0 he.b1 he.m1 he.m2).ryl he.b0 he.b1 he.a0 he.a1 he.m1 he.m2
def rnT (es : List Edge) (t : List Int) : Nat -> List Int
 | 0 => t
 | m + 1 => rst (rnT es t m) (gt es (m : Int))
def fl (es : List Edge) (t : List Int) : Nat -> Bool
 | 0 => false
 | m + 1 => fl es t m || chF (rnT es t m) (gt es (m : Int))
theorem zp7 (φ : Nat) (x y : Int) : zaj φ x y = some (bett x y, ()) := by
 unfold zaj bett
 by_cases h : x < 0
 ·rw [if_pos (by simpa using h), if_pos h]
 ·rw [if_neg (by simpa using h), if_neg h]
theorem ygu (φ : Nat) (k) (f : Bool) (i a b : Int) (x : z6) (t : List Int) (e : Edge) (h1 : 0 <= e.a /\ e.a < (t.length : Int)) (h2 : 0 <= e.b /\ e.b < (t.length : Int)) : z4h φ k f i a b x t e = k ((f || (gt t e.a != a)) || (gt t e.b != b)) (W (i + 1)) x t := by
 unfold z4h
 rw [z2 (fun _ => h1), z2 (fun _ => h2)]
theorem yad (φ : Nat) (k) (n : Nat) (f : Bool) (i : Nat) {x : z6} (hi : i < x.edges.length) (hie : x.edges.length <= 2048) {P c : Nat} (he : EdOK P (gt x.edges (i : Int))) {t : List Int} (ht : TB P c t) (hc : c <= 10000000) :
  z0p φ k (n + 1) f (i : Int) x t = z0p φ k n (f || chF t (gt x.edges (i : Int))) ((i : Int) + 1) x (rst t (gt x.edges (i : Int))) := by
 obtain ⟨a0, a1, b0, b1, ne, m1, m2⟩ := he
 have hl := ht.len
 have qa := ht.bd _ a0 a1
 have qb := ht.bd _ b0 b1
 have hr := yh3 (t := t) a0 (by rw [hl]; exact a1) b0 (by rw [hl]; exact b1) ne m1 qa.1 qb.1
 have hr2 : rst t (gt x.edges (i : Int)) = ryl (ryl t (gt x.edges (i : Int)).a (gt x.edges (i : Int)).b (gt x.edges (i : Int)).minutes) (gt x.edges (i : Int)).b (gt x.edges (i : Int)).a (gt x.edges (i : Int)).minutes := rfl
 rw [<- hr2] at hr
 rw [z0p, if_pos (by simp; omega), z2 ⟨by omega, by omega⟩, z2 ⟨a0, by rw [hl]; exact a1⟩, z2 ⟨b0, by rw [hl]; exact b1⟩]
 have fin : ∀ u : List Int, u = rst t (gt x.edges (i : Int)) -> z4h φ (z0p φ k n) f (i : Int) (gt t (gt x.edges (i : Int)).a) (gt t (gt x.edges (i : Int)).b) x u (gt x.edges (i : Int)) = z0p φ k n (f || chF t (gt x.edges (i : Int))) ((i : Int) + 1) x (rst t (gt x.edges (i : Int))) := by
  intro u hu
  subst hu
  rw [ygu _ _ _ _ _ _ _ _ _ ⟨a0, by rw [y79, hl]; exact a1⟩ ⟨b0, by rw [y79, hl]; exact b1⟩, W_id (by omega) (by omega), Bool.or_assoc]
  rfl
 by_cases q1 : 0 <= gt t (gt x.edges (i : Int)).a
 ·rw [if_pos (by simpa using q1), W_id (by omega) (by omega), zp7, Option.bind_some, z2 ⟨b0, by rw [hl]; exact b1⟩]
  rw [if_pos q1] at hr
  unfold z6d
  by_cases q2 : 0 <= gt t (gt x.edges (i : Int)).b
  ·rw [if_pos q2] at hr
   rw [if_pos (by simpa using q2), W_id (by omega) (by omega), zp7, Option.bind_some, z2 ⟨a0, by rw [z0e, hl]; exact a1⟩]
   exact fin _ hr
  ·rw [if_neg q2] at hr
   rw [if_neg (by simpa using q2)]
   exact fin _ hr
 ·rw [if_neg (by simpa using q1)]
  rw [if_neg q1] at hr
  unfold z6d
  by_cases q2 : 0 <= gt t (gt x.edges (i : Int)).b
  ·rw [if_pos q2] at hr
   rw [if_pos (by simpa using q2), W_id (by omega) (by omega), zp7, Option.bind_some, z2 ⟨a0, by rw [hl]; exact a1⟩]
   exact fin _ hr
  ·rw [if_neg q2] at hr
   rw [if_neg (by simpa using q2)]
   exact fin _ hr
theorem y2x {x : z6} (h : z4n x) {c : Nat} {t : List Int} (ht : TB x.places.length c t) : ∀ m, m <= x.edges.length -> TB x.places.length (c + 2 * m) (rnT x.edges t m)
 | 0, _ => ht
 | m + 1, hm => ((y2x h ht m (by omega)).rst (edOK h (by omega))).up (by omega)
theorem ycb {x : z6} (h : z4n x) {c : Nat} {t : List Int} (ht : TB x.places.length c t) : ∀ m, m <= x.edges.length -> tf (rnT x.edges t m) = ((x.edges.take m).flatMap dirs).foldl (BF.rlx dI dJ dW) (tf t)
 | 0, _ => rfl
 | m + 1, hm => by
  have ih := ycb h ht m (by omega)
  rw [z0s x.edges m (by omega), List.flatMap_append, List.foldl_append, <- ih]
  show tf (rst (rnT x.edges t m) (gt x.edges (m : Int))) = _
  rw [yfu (y2x h ht m (by omega)).len (edOK h (by omega))]
  simp
theorem y1p {x : z6} (h : z4n x) {c : Nat} {t : List Int} (ht : TB x.places.length c t) : ∀ m, m <= x.edges.length -> fl x.edges t m = false -> rnT x.edges t m = t /\ ∀ j : Nat, j < m -> ∀ d ∈ dirs (gt x.edges (j : Int)), BF.imp dI dJ dW (tf t) d = false
 | 0, _, _ => ⟨rfl, fun j hj => by omega⟩
 | m + 1, hm, hf => by
  simp only [fl, Bool.or_eq_false_iff] at hf
  obtain ⟨h1, h2⟩ := y1p h ht m (by omega) hf.1
  rw [h1] at hf
  obtain ⟨h3, h4⟩ := (y3l ht.len (edOK h (by omega))).1 hf.2
  refine ⟨by show rst (rnT x.edges t m) _ = t; rw [h1, h3], fun j hj => ?_⟩
  by_cases e : j = m
  ·subst e; exact h4
  ·exact h2 j (by omega)
theorem yft {x : z6} (h : z4n x) {c : Nat} {t : List Int} (ht : TB x.places.length c t) (hq : ∀ d ∈ dE x, BF.imp dI dJ dW (tf t) d = false) : ∀ m, m <= x.edges.length -> fl x.edges t m = false /\ rnT x.edges t m = t
 | 0, _ => ⟨rfl, rfl⟩
 | m + 1, hm => by
  obtain ⟨h1, h2⟩ := yft h ht hq m (by omega)
  obtain ⟨h3, h4⟩ := (y3l ht.len (edOK h (i := m) (by omega))).2 (fun d hd => hq d (List.mem_flatMap.2 ⟨_, z4a (l := x.edges) (i := (m : Int)) (by omega) (by omega), hd⟩))
  refine ⟨?_, by show rst (rnT x.edges t m) _ = t; rw [h2, h3]⟩
  simp only [fl, h1, h2, h4, Bool.or_self]
theorem yhi {x : z6} (h : z4n x) {s : Int} (hs : 0 <= s) (hs' : s < (x.places.length : Int)) : BF.Feas dI dJ dW (tz s) (dE x) x.places.length := by
 refine ⟨⟨fun _ => 0, 0, fun d hd => ?_, fun v c hv => ?_⟩, fun d hd => ?_, fun v c hv => ?_⟩
 ·obtain ⟨e, he, hd⟩ := List.mem_flatMap.1 hd
  obtain ⟨i, hi, rfl⟩ := zo0 he
  have := (edOK h hi).m1
  simp only [dirs, List.mem_cons, List.not_mem_nil, or_false] at hd
  rcases hd with rfl | rfl
  ·show (0 : Int) <= 0 + (gt x.edges (i : Int)).minutes; omega
  ·show (0 : Int) <= 0 + (gt x.edges (i : Int)).minutes; omega
 ·unfold tz at hv
  split at hv
  ·cases hv; show (0 : Int) - 0 <= 0; omega
  ·cases hv
 ·obtain ⟨e, he, hd⟩ := List.mem_flatMap.1 hd
  obtain ⟨i, hi, rfl⟩ := zo0 he
  obtain ⟨a0, a1, b0, b1, _⟩ := edOK h hi
  simp only [dirs, List.mem_cons, List.not_mem_nil, or_false] at hd
  rcases hd with rfl | rfl <;> simp only [dJ] <;> omega
 ·unfold tz at hv
  split at hv
  ·omega
  ·cases hv
structure TF (x : z6) (s : Int) (t : List Int) : Prop where
 len : t.length = x.places.length
 lo : ∀ i : Int, 0 <= i -> i < (x.places.length : Int) -> -1 <= gt t i
 fix : BF.Fix dI dJ dW (dE x) (tf t)
 rnd : ∃ k, tf t = BF.rnds dI dJ dW (dE x) (tz s) k
theorem ybo (φ : Nat) (hφ : 5000 < φ) {x : z6} (h : z4n x) {s : Int} (hs : 0 <= s) (hs' : s < (x.places.length : Int)) (M : Nat) (hM : 2 * x.edges.length <= M) (hM2 : M <= 4096) (f : Nat) : ∀ (k : Nat) (t : List Int), TB x.places.length (k * M) t -> tf t = BF.rnds dI dJ dW (dE x) (tz s) k -> k <= x.places.length -> x.places.length + 2 <= f + k ->
  ∃ t', z1k φ f true x t = some (t', 0, ()) /\ TF x s t' := by
 induction f with
 | zero => intro k t _ _ h1 h2; omega
 | succ f ih =>
  intro k t hB ht h1 h2
  have hP := h.places
  have hE := h.edges
  have hround : z0p φ (z1k φ f) φ false 0 x t = z1k φ f (fl x.edges t x.edges.length) x (rnT x.edges t x.edges.length) := by
   refine zh (fun n i (u : Bool × List Int) => z0p φ (z1k φ f) n u.1 i x u.2) x.edges.length (fun i u => u = (fl x.edges t i, rnT x.edges t i)) (fun o => o = _) ?_ ?_ φ (false, t) rfl (by omega)
   ·intro n i u hi hu hk
    subst hu
    have hb := y2x h hB i (by omega)
    rw [yad φ _ n _ i hi hE (edOK h hi) hb (by
     have := Nat.mul_le_mul (show k <= 512 by omega) hM2
     omega)]
    exact hk _ rfl
   ·intro n u hu
    subst hu
    rw [z0p, if_neg (by simp)]
  rw [z1k, if_pos rfl, hround]
  have htf := ycb h hB x.edges.length (Nat.le_refl _)
  rw [List.take_length] at htf
  have htf2 : tf (rnT x.edges t x.edges.length) = BF.rnds dI dJ dW (dE x) (tz s) (k + 1) := by rw [htf, ht]; rfl
  have hb := y2x h hB x.edges.length (Nat.le_refl _)
  cases hfl : fl x.edges t x.edges.length with
  | false =>
   obtain ⟨q1, q2⟩ := y1p h hB x.edges.length (Nat.le_refl _) hfl
   obtain ⟨f', rfl⟩ : ∃ f', f = f' + 1 := ⟨f - 1, by omega⟩
   rw [z1k, if_neg (by simp)]
   refine ⟨_, rfl, hb.len, fun i i0 i1 => (hb.bd i i0 i1).1, ?_, k + 1, htf2⟩
   rw [q1]
   intro d hd
   obtain ⟨e, he, hd⟩ := List.mem_flatMap.1 hd
   obtain ⟨i, hi, rfl⟩ := zo0 he
   exact q2 i hi d hd
  | true =>
   by_cases hk : x.places.length <= k + 1
   ·exfalso
    have := (yft h hB (fun d hd => by have := BF.done (yhi h hs hs') hk d hd; rwa [<- ht] at this) x.edges.length (Nat.le_refl _)).1
    rw [this] at hfl; cases hfl
   ·exact ih (k + 1) _ (hb.up (by rw [Nat.add_mul, Nat.one_mul]; omega)) htf2 (by omega) (by omega)
theorem ybr {x : z6} {s : Int} (hs : 0 <= s) (hs' : s < (x.places.length : Int)) {t : List Int} (ht : t.length = x.places.length) (h : ∀ i : Int, 0 <= i -> i < (x.places.length : Int) -> gt t i = if i = s then 0 else -1) : tf t = tz s := by
 funext v
 unfold tf tz
 by_cases hv : v < t.length
 ·rw [h v (by omega) (by omega)]
  by_cases e : (v : Int) = s
  ·rw [if_pos e, if_pos ⟨hv, by omega⟩, if_pos e]
  ·rw [if_neg e, if_neg (fun q => by have := q.2; omega), if_neg e]
 ·rw [if_neg (fun q => hv q.1), if_neg (by omega)]
theorem y1u (φ : Nat) (hφ : 5000 < φ) {x : z6} (hn : z49 x = 0) {s : Int} (hs : 0 <= s) (hs' : s < (x.places.length : Int)) : ∃ t, z7m φ x s = some (t, 0, ()) /\ TF x s t := by
 have h := zx2 hn
 have hP := h.places
 unfold z7m z4t
 rw [z7g φ hφ, Option.bind_some, if_neg (by simp [hn]), z3g, W_id (by omega) (by omega), Option.bind_some, Option.bind_some, if_neg (by simp; exact zc4.2 ⟨hs, by omega⟩), z2 (mk_t _ _ (by omega) (by omega) (by omega)), Int.toNat_natCast]
 refine zh (fun n i t => z5j φ n s i x t) x.places.length (fun i t => t.length = x.places.length /\ ∀ j : Int, 0 <= j -> j < (i : Int) -> gt t j = -1) (fun o => ∃ t, o = some (t, 0, ()) /\ TF x s t) ?_ ?_ φ _ ⟨by simp, fun j h0 h1 => by omega⟩ (by omega)
 ·intro n i t hi ⟨q1, q2⟩ hk
  rw [z5j, if_pos (by rw [q1]; simp; omega), z2 ⟨by omega, by omega⟩, W_id (by omega) (by omega)]
  refine hk _ ⟨by rw [z0e]; exact q1, fun j j0 j1 => ?_⟩
  rw [zt _ _ _ _ (by omega) (by omega) j0]
  split
  ·rfl
  ·exact q2 j j0 (by omega)
 ·intro n t ⟨q1, q2⟩
  rw [z5j, if_neg (by rw [q1]; simp), z2 ⟨hs, by omega⟩]
  have hst : ∀ i : Int, 0 <= i -> i < (x.places.length : Int) -> gt (zu t s 0) i = if i = s then 0 else -1 := fun i i0 i1 => by
   rw [zt _ _ _ _ hs (by omega) i0]
   split
   ·rfl
   ·exact q2 i i0 i1
  have hl : (zu t s 0).length = x.places.length := by rw [z0e]; exact q1
  have hE := h.edges
  exact ybo φ hφ h hs hs' 4096 (by omega) (by omega) φ 0 _ ⟨hl, fun i i0 i1 => by rw [hst i i0 i1]; split <;> omega⟩ (ybr hs hs' hl hst) (by omega) (by omega)
end Px
end
section
namespace Px
open Go
set_option linter.unusedVariables false
set_option linter.unusedSimpArgs false
theorem zm4 {x : z6} (h : z4n x) {a b : Int} (ha : 0 <= a) (ha' : a < (x.places.length : Int)) : b ∈ gt (zg x) a ↔ 0 <= lnF x.edges a b x.edges.length := by
 have H := z5z h x.edges.length (Nat.le_refl _)
 have hl0 : (z5f x).length = x.places.length := H.len
 have e := zou h x.edges.length (Nat.le_refl _) a b
 unfold zg
 rw [zh9 _ _ ha (by rw [hl0]; exact ha')]
 refine ((z1r _ _).mem_iff).trans ((H.near a b ha ha').trans ?_)
 rw [e]
 by_cases q : lnF x.edges a b x.edges.length < 0
 ·rw [if_pos q]; simp; omega
 ·rw [if_neg q]; simp; omega
theorem y1i {x : z6} (h : z4n x) {a b : Int} (hl : 0 <= lnF x.edges a b x.edges.length) : wtN x a b = (gt x.edges (lnF x.edges a b x.edges.length)).minutes := by
 unfold wtN z1f
 rw [zou h x.edges.length (Nat.le_refl _) a b, if_neg (by omega)]; rfl
theorem yfc {x : z6} (h : z4n x) {d : DE3} (hd : d ∈ dE x) : ∃ a b : Int, 0 <= a /\ a < (x.places.length : Int) /\ 0 <= b /\ b < (x.places.length : Int) /\ d = (a.toNat, b.toNat, dW d) /\ 0 <= lnF x.edges a b x.edges.length /\ wtN x a b <= dW d := by
 obtain ⟨e, he, hd⟩ := List.mem_flatMap.1 hd
 obtain ⟨i, hi, rfl⟩ := zo0 he
 obtain ⟨a0, a1, b0, b1, _⟩ := edOK h hi
 simp only [dirs, List.mem_cons, List.not_mem_nil, or_false] at hd
 rcases hd with rfl | rfl
 ·obtain ⟨q1, q2⟩ := (ztb x.edges (gt x.edges (i : Int)).a (gt x.edges (i : Int)).b x.edges.length).2.2 i hi (.inl ⟨rfl, rfl⟩)
  exact ⟨_, _, a0, a1, b0, b1, rfl, q1, by rw [y1i h q1]; exact q2⟩
 ·obtain ⟨q1, q2⟩ := (ztb x.edges (gt x.edges (i : Int)).b (gt x.edges (i : Int)).a x.edges.length).2.2 i hi (.inr ⟨rfl, rfl⟩)
  exact ⟨_, _, b0, b1, a0, a1, rfl, q1, by rw [y1i h q1]; exact q2⟩
theorem yfd {x : z6} (h : z4n x) {a b : Int} (hl : 0 <= lnF x.edges a b x.edges.length) : (a.toNat, b.toNat, wtN x a b) ∈ dE x := by
 obtain ⟨⟨_, h2⟩, h3, _⟩ := ztb x.edges a b x.edges.length
 rw [y1i h hl]
 refine List.mem_flatMap.2 ⟨_, z4a (l := x.edges) hl h2, ?_⟩
 rcases h3 hl with ⟨q1, q2⟩ | ⟨q1, q2⟩
 ·simp only [dirs, q1, q2, List.mem_cons, true_or]
 ·simp only [dirs, q1, q2, List.mem_cons, true_or, or_true]
theorem yge {x : z6} (h : z4n x) {s : Int} {t : List Int} (hD : DF x.places.length (zg x) (wtN x) s t) : BF.Fix dI dJ dW (dE x) (tf t) := by
 intro d hd
 obtain ⟨a, b, a0, a1, b0, b1, e, hl, hw⟩ := yfc h hd
 have e1 : tf t (dI d) = if 0 <= gt t a then some (gt t a) else none := by rw [e]; exact y05 a0 (by rw [hD.lt]; exact a1)
 have e2 : tf t (dJ d) = if 0 <= gt t b then some (gt t b) else none := by rw [e]; exact y05 b0 (by rw [hD.lt]; exact b1)
 unfold BF.imp
 rw [e1, e2]
 by_cases q : 0 <= gt t a
 ·obtain ⟨n1, n2⟩ := hD.nbr a b a0 a1 q ((zm4 h a0 a1).2 hl)
  rw [if_pos q, if_pos n1]
  simp only [BF.ltO, decide_eq_false_iff_not]
  omega
 ·rw [if_neg q]
theorem ygm {x : z6} (h : z4n x) {s : Int} (hs : 0 <= s) (hs' : s < (x.places.length : Int)) {t : List Int} (hD : DF x.places.length (zg x) (wtN x) s t) : BF.Inv dI dJ dW (tz s) (dE x) (tf t) := by
 have key : ∀ (n : Nat) (v : Int), 0 <= v -> v < (x.places.length : Int) -> 0 <= gt t v -> (gt t v).toNat = n -> ∃ m, BF.Wk dI dJ dW (tz s) (dE x) m v.toNat (gt t v) := by
  intro n
  induction n using Nat.strongRecOn with
  | _ n ih =>
   intro v v0 v1 hv hn
   by_cases e : v = s
   ·subst e
    rw [hD.src]
    exact ⟨0, .nil (by unfold tz; rw [if_pos (by omega)])⟩
   ·obtain ⟨q, q0, q1, q2, q3, q4⟩ := hD.pre v v0 v1 e hv
    have hl' := (zm4 h v0 v1).1 q2
    obtain ⟨hsy, hwt⟩ := (grN h).sym v q v0 v1 q2
    have hl := (zm4 h q0 q1).1 hsy
    have hw1 := ((grN h).wt v q v0 v1 q2).1
    obtain ⟨m, hm⟩ := ih (gt t q).toNat (by omega) q q0 q1 q3 rfl
    have := BF.Wk.step (b := (q.toNat, v.toNat, wtN x q v)) hm (yfd h hl)
    rw [q4]
    exact ⟨_, this⟩
 intro v c hc
 unfold tf at hc
 split at hc
 ·rename_i hv
  cases hc
  obtain ⟨m, hm⟩ := key _ (v : Int) (by omega) (by rw [<- hD.lt]; omega) hv.2 rfl
  rw [Int.toNat_natCast] at hm
  exact ⟨m, hm⟩
 ·cases hc
theorem zt3 {x : z6} (h : z4n x) {s : Int} (hs : 0 <= s) (hs' : s < (x.places.length : Int)) {t u : List Int} (hD : DF x.places.length (zg x) (wtN x) s t) (hT : TF x s u) {b : Int} (hb : 0 <= b) (hb' : b < (x.places.length : Int)) : gt t b = gt u b := by
 obtain ⟨k, hk⟩ := hT.rnd
 have st1 : ∀ v c, tz s v = some c -> BF.le (tf t v) c := fun v c hc => by
  unfold tz at hc
  split at hc
  ·rename_i e
   cases hc
   refine ⟨0, ?_, Int.le_refl _⟩
   have := y05 (t := t) hs (by rw [hD.lt]; exact hs')
   rw [hD.src, if_pos (Int.le_refl _)] at this
   rw [show v = s.toNat by omega]; exact this
  ·cases hc
 have st2 : ∀ v c, tz s v = some c -> BF.le (tf u v) c := fun v c hc => by
  rw [hk]; exact BF.rnds_mono _ ⟨c, hc, Int.le_refl _⟩ k
 have e := BF.Fix.uniq (yge h hD) hT.fix (ygm h hs hs' hD) (by rw [hk]; exact BF.Inv.rnds k) st1 st2
 have e1 := y05 (t := t) hb (by rw [hD.lt]; exact hb')
 have e2 := y05 (t := u) hb (by rw [hT.len]; exact hb')
 rw [e, e2] at e1
 have l1 := hD.bd b hb hb'
 have l2 := hT.lo b hb hb'
 by_cases q1 : 0 <= gt u b
 ·by_cases q2 : 0 <= gt t b
  ·rw [if_pos q1, if_pos q2] at e1; exact (Option.some.inj e1).symm
  ·rw [if_pos q1, if_neg q2] at e1; cases e1
 ·by_cases q2 : 0 <= gt t b
  ·rw [if_neg q1, if_pos q2] at e1; cases e1
  ·omega
theorem zst (φ : Nat) (hφ : 800000 < φ) {x : z6} (hn : z49 x = 0) {a b : Int} (ha : 0 <= a /\ a < (x.places.length : Int)) (hb : 0 <= b /\ b < (x.places.length : Int)) :
  ∃ t, DF x.places.length (zg x) (wtN x) a t /\ zf φ x a b = some (if gt t b < 0 then (0, 80, ()) else (gt t b, 0, ())) := by
 unfold zf
 rw [z03 _ (by omega), Option.bind_some]
 have hx := zx2 hn
 have hP := hx.places
 rw [if_neg (by simp [hn])]
 obtain ⟨m, rfl⟩ : ∃ m, φ = m + 3 := ⟨φ - 3, by omega⟩
 have g0 : gt [a, b] 0 = a := rfl
 have g1 : gt [a, b] 1 = b := rfl
 have L : ((([a, b] : List Int).length : Nat) : Int) = 2 := rfl
 rw [L, show m + 3 = (m + 2) + 1 from rfl, zm, if_pos (by decide), z2 (by rw [L]; decide), g0]
 rw [if_neg (by simp; omega), show W (0 + 1) = 1 by rfl, show m + 2 = (m + 1) + 1 from rfl, zm, if_pos (by decide), z2 (by rw [L]; decide), g1]
 rw [if_neg (by simp; omega), show W (1 + 1) = 2 by rfl, zm, if_neg (by decide), z2 (mk_t _ _ (by omega) (by omega) (by omega))]
 have hbuild := za8 (m + 3) x a b hx (by omega)
 obtain ⟨t, h1, h2⟩ := za6 (m + 3) x a b hx (by omega) ha.1 ha.2
 refine ⟨t, h1, ?_⟩
 refine hbuild.trans ?_
 rw [z2 (mk_t _ _ (by omega) (by omega) (by omega)), z2 (mk_t _ _ (by omega) (by simp; omega) (by omega)), h2, z2 ⟨hb.1, by rw [h1.lt]; exact hb.2⟩]
 by_cases h3 : gt t b < 0
 ·rw [if_pos (by simpa using h3), if_pos h3]
 ·rw [if_neg (by simpa using h3), if_neg h3]
  try rfl
theorem zih (φ : Nat) (hφ : 800000 < φ) (x : z6) (a b : Int) : z54 φ x a b = zf φ x a b := by
 by_cases hn : z49 x = 0
 case neg =>
  unfold z54 z7m zf
  rw [z7g φ (by omega), z03 _ (by omega), Option.bind_some, Option.bind_some, if_pos (by simpa using hn), Option.bind_some, if_pos (by simpa using hn), if_pos (by simpa using hn), if_pos (by simpa using hn)]
 have hx := zx2 hn
 have hP := hx.places
 by_cases ha : 0 <= a /\ a < (x.places.length : Int)
 case neg =>
  have e1 : zf φ x a b = some (0, 1, ()) := by
   unfold zf
   rw [z03 _ (by omega), Option.bind_some, if_neg (by simp [hn])]
   obtain ⟨m, rfl⟩ : ∃ m, φ = m + 3 := ⟨φ - 3, by omega⟩
   rw [show m + 3 = (m + 2) + 1 from rfl, zm, if_pos (by simp), z2 ⟨by omega, by simp⟩, show gt [a, b] 0 = a from rfl, if_pos (by simp; omega)]
  rw [e1]
  unfold z54 z7m z4t
  rw [z7g φ (by omega), Option.bind_some, if_neg (by simp [hn]), z3g, W_id (by omega) (by omega), Option.bind_some, Option.bind_some, if_pos (by
   simp only [Bool.not_eq_true']
   rw [<- Bool.not_eq_true, zc4]; omega), Option.bind_some, if_pos (by simp)]
 obtain ⟨u, hu, hT⟩ := y1u φ (by omega) hn ha.1 ha.2
 unfold z54 z4t
 rw [hu, Option.bind_some, if_neg (by simp), z3g, W_id (by omega) (by omega), Option.bind_some, Option.bind_some]
 by_cases hb : 0 <= b /\ b < (x.places.length : Int)
 case neg =>
  have e1 : zf φ x a b = some (0, 1, ()) := by
   unfold zf
   rw [z03 _ (by omega), Option.bind_some, if_neg (by simp [hn])]
   obtain ⟨m, rfl⟩ : ∃ m, φ = m + 3 := ⟨φ - 3, by omega⟩
   rw [show m + 3 = (m + 2) + 1 from rfl, zm, if_pos (by simp), z2 ⟨by omega, by simp⟩, show gt [a, b] 0 = a from rfl, if_neg (by simp; omega), show W (0 + 1) = 1 by rfl, show m + 2 = (m + 1) + 1 from rfl, zm, if_pos (by simp), z2 ⟨by omega, by simp⟩, show gt [a, b] 1 = b from rfl, if_pos (by simp; omega)]
  rw [e1, if_pos (by
   simp only [Bool.not_eq_true']
   rw [<- Bool.not_eq_true, zc4]; omega)]
 obtain ⟨t, hD, e1⟩ := zst φ hφ hn ha hb
 have e2 := zt3 hx ha.1 ha.2 hD hT hb.1 hb.2
 rw [e1, if_neg (by simp; exact zc4.2 ⟨hb.1, by omega⟩), z2 ⟨hb.1, by rw [hT.len]; exact hb.2⟩, <- e2]
 by_cases q : gt t b < 0
 ·rw [if_pos (by simpa using q), if_pos q]
 ·rw [if_neg (by simpa using q), if_neg q, z2 ⟨hb.1, by rw [hT.len]; exact hb.2⟩]
end Px
end
section
namespace Px
open Go
set_option linter.unusedVariables false
set_option linter.unusedSimpArgs false
theorem zpb {p : Pool} {l : List zb} (hl : FewL l) {w : Int} {x : z1} (h : x ∈ z5t p l w) : x.visit.wagon = w := by
 obtain ⟨y, hy, b, rfl⟩ := zi6 h
 exact (zqm hl.len hy).2.2.1
end Px
end
