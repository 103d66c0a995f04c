/- A part of the proof of sightMatches_holds. Conditions: none. -/
import Derived.Test.YtlejlmkoalncgaaGreatZmf
section
namespace Px
open Go
set_option linter.unusedVariables false
set_option linter.unusedSimpArgs false
theorem yah (φ : Nat) (hφ : 800000 < φ) (p : Pool) (a b : z1) : zdk φ p (rE a) (rE b) = some (tvl φ p.network a.visit b.visit, ()) := by
 unfold zdk
 rw [zih φ hφ]
 obtain ⟨t, e, h, h1, h2⟩ := zsx φ hφ p.network a.visit.place b.visit.place
 have ht : z4v φ p.network a.visit b.visit = some (if (((e : Int) != 0) || (((a.visit.place : Int) != b.visit.place) && a.visit.stay)) = true then 1073741825 else t, ()) := by
  unfold z4v
  by_cases hs : (((a.visit.place : Int) != b.visit.place) && a.visit.stay) = true
  ·rw [if_pos hs, if_pos (by rw [hs]; simp)]
  ·rw [if_neg hs, h, Option.bind_some]
   have hs' : (((a.visit.place : Int) != b.visit.place) && a.visit.stay) = false := by simpa using hs
   rw [hs']
   simp only [Bool.or_false]
   split <;> rfl
 show (zf φ p.network a.visit.place b.visit.place).bind _ = _
 rw [h, Option.bind_some]
 unfold tvl
 rw [ht]
 show (if (((e : Int) != 0) || (((a.visit.place : Int) != b.visit.place) && a.visit.stay)) = true then some ((1073741825 : Int), ()) else some (t, ())) = some (if (((e : Int) != 0) || (((a.visit.place : Int) != b.visit.place) && a.visit.stay)) = true then 1073741825 else t, ())
 split <;> rfl
def RdC (l : List zb) (c : List Int) (j : Int) : Prop := ∃ i ∈ c, (gt l i).item.kind = 1 /\ (gt l i).item.other = j
theorem y56 {m : List (Int × Int)} {e : z1} {k : Int} (h : (mget (zvo m e) k).isSome = true) : (mget m k).isSome = true \/ (e.reader = k /\ 0 <= e.reader) := by
 unfold zvo at h
 split at h
 ·rename_i hr
  rw [z6h] at h
  by_cases hk : k = e.reader
  ·exact .inr ⟨hk.symm, hr⟩
  ·rw [if_neg hk] at h; exact .inl h
 ·exact .inl h
theorem y4i (t : List z1) : ∀ {m : List (Int × Int)} {k : Int}, (mget (znh m t) k).isSome = true -> (mget m k).isSome = true \/ ∃ e ∈ t, e.reader = k /\ 0 <= e.reader := by
 induction t with
 | nil => intro m k h; exact .inl h
 | cons e t ih =>
  intro m k h
  rcases ih (m := zvo m e) h with h | ⟨x, hx, h⟩
  ·rcases y56 h with h | h
   ·exact .inl h
   ·exact .inr ⟨e, List.mem_cons_self .., h⟩
  ·exact .inr ⟨x, List.mem_cons_of_mem _ hx, h⟩
theorem y68 (ts : List (List z1)) : ∀ {m : List (Int × Int)} {k : Int}, (mget (ts.foldl znh m) k).isSome = true -> (mget m k).isSome = true \/ ∃ t ∈ ts, ∃ e ∈ t, e.reader = k /\ 0 <= e.reader := by
 induction ts with
 | nil => intro m k h; exact .inl h
 | cons t ts ih =>
  intro m k h
  rcases ih (m := znh m t) h with h | ⟨u, hu, x, hx, h⟩
  ·rcases y4i t h with h | ⟨x, hx, h⟩
   ·exact .inl h
   ·exact .inr ⟨t, List.mem_cons_self .., x, hx, h⟩
  ·exact .inr ⟨u, List.mem_cons_of_mem _ hu, x, hx, h⟩
theorem y55 {y : z1} : ∀ (t : List z1) (m : List (Int × Bool)), y ∈ t -> ∃ b, zf8 y b ∈ zid t m := by
 intro t
 induction t with
 | nil => intro m h; cases h
 | cons e t ih =>
  intro m h
  rcases List.mem_cons.1 h with rfl | h
  ·exact ⟨_, List.mem_cons_self ..⟩
  ·obtain ⟨b, hb⟩ := ih (covM e m) h
   exact ⟨b, List.mem_cons_of_mem _ hb⟩
theorem y3h {p : Pool} (hc : z06 p = 0) {l : List zb} (hl : FewL l) (j : Int) (hj : 0 <= j) : (mget (used (z00 p l)) j).isSome = true ↔ RdC l (cnt p l) j := by
 constructor
 ·intro h
  rcases y68 (z00 p l) (m := []) h with h | ⟨t, ht, e, he, h1, h2⟩
  ·cases h
  ·obtain ⟨w, _, rfl⟩ := List.mem_map.1 ht
   obtain ⟨y, hy, b, rfl⟩ := zi6 he
   change y.reader = j at h1
   change 0 <= y.reader at h2
   have hu := hy
   simp only [uns, unsC, List.mem_flatMap] at hu
   obtain ⟨i, hi, hx⟩ := hu
   split at hx
   case isFalse => cases hx
   refine ⟨i, hi, ?_⟩
   unfold evs at hx
   split at hx
   ·rename_i hk
    simp only [List.mem_singleton] at hx
    rw [hx] at h1
    exact ⟨hk, h1⟩
   ·split at hx
    ·simp only [List.mem_cons, List.not_mem_nil, or_false] at hx
     rcases hx with q | q <;> rw [q] at h2 <;> simp at h2
    ·split at hx
     ·simp only [List.mem_singleton] at hx
      rw [hx] at h2; simp at h2
     ·cases hx
 ·rintro ⟨i, hi, hk, ho⟩
  obtain ⟨a1, a2, a3⟩ := zqw hi
  have hok := zca hc (hl.gt a1 a2) a3
  obtain ⟨w1, w2⟩ := hok.wagon (by omega)
  have hx : (⟨z2u (gt l i) (gt p.readers (gt l i).item.other).place (gt l i).item.from_, i, false, false, (gt l i).item.other⟩ : z1) ∈ uns p l (gt l i).item.wagon := by
   simp only [uns, unsC, List.mem_flatMap]
   refine ⟨i, hi, ?_⟩
   rw [if_pos rfl, evs, if_pos hk]
   simp
  obtain ⟨b, hb⟩ := y55 (srt p l (gt l i).item.wagon) [] ((z1r _ _).mem_iff.2 hx)
  have := y1j (z00 p l) [] (z5t p l (gt l i).item.wagon) _ (List.mem_map.2 ⟨(gt l i).item.wagon.toNat, List.mem_range.2 (by omega), by rw [Int.toNat_of_nonneg w1]⟩) hb (by show 0 <= (gt l i).item.other; omega)
  rw [<- ho]
  exact this
structure RdN (rs : List z63) (m : List (Int × Int)) (n : Nat) (x : List Int) : Prop where
 len : x.length = rs.length
 num : ∀ j : Nat, j < n -> gt x (j : Int) = if (mget m (j : Int)).isSome = true then (rdsN rs m j).v else 0
 raw : ∀ j : Nat, n <= j -> j < rs.length -> gt x (j : Int) = if (mget m (j : Int)).isSome = true then 1 else 0
theorem yb3 (rs : List z63) (m : List (Int × Int)) (n : Nat) : 1 <= (rdsN rs m n).v := (zeb rs m n).1
theorem y7l (φ : Nat) (hφ : 2000 < φ) (rs : List z63) (hrs : rs.length <= 256) (m : List (Int × Int)) (x : List Int) (hx : RdN rs m 0 x) : ∃ x', z1e φ φ 1 0 x = some (x', ()) /\ RdN rs m rs.length x' := by
 refine zh (fun n i (s : Int × List Int) => z1e φ n s.1 i s.2) rs.length (fun i s => s.1 = (rdsN rs m i).v /\ RdN rs m i s.2) (fun o => ∃ x', o = some (x', ()) /\ RdN rs m rs.length x') ?_ ?_ φ (1, x) ⟨rfl, hx⟩ (by omega)
 ·intro n i ⟨v, s⟩ hi ⟨h1, h2⟩ hs
  simp only at h1 h2 ⊢
  obtain ⟨l1, l2, l3⟩ := h2
  have hb := zeb rs m i
  have hv : (rdsN rs m (i + 1)).v = if (mget m (i : Int)).isSome = true then (rdsN rs m i).v + 1 else (rdsN rs m i).v := by
   simp only [rdsN, zjx]
   rw [(zoq rs m i).2 _ (Int.le_refl _)]
   split <;> rfl
  rw [z1e, if_pos (by simp; omega), z2 ⟨by omega, by omega⟩, W_id (x := (i : Int) + 1) (by omega) (by omega), l3 i (Nat.le_refl _) hi]
  by_cases hu : (mget m (i : Int)).isSome = true
  ·rw [if_pos (by rw [if_pos hu]; rfl), z2 ⟨by omega, by omega⟩, W_id (x := v + 1) (by omega) (by omega)]
   refine hs (v + 1, zu s (i : Int) v) ⟨by rw [hv, if_pos hu, h1], by rw [z0e]; exact l1, fun j hj => ?_, fun j hj hj' => ?_⟩
   ·rw [zt _ _ _ _ (by omega) (by omega) (by omega)]
    by_cases hji : j = i
    ·subst hji; rw [if_pos rfl, if_pos hu, h1]
    ·rw [if_neg (by omega)]; exact l2 j (by omega)
   ·rw [zt _ _ _ _ (by omega) (by omega) (by omega), if_neg (by omega)]; exact l3 j (by omega) hj'
  ·rw [if_neg (by rw [if_neg hu]; simp)]
   refine hs (v, s) ⟨by rw [hv, if_neg hu, h1], l1, fun j hj => ?_, fun j hj hj' => l3 j (by omega) hj'⟩
   by_cases hji : j = i
   ·subst hji; rw [if_neg hu]; have := l3 j (Nat.le_refl _) hi; rw [if_neg hu] at this; exact this
   ·exact l2 j (by omega)
 ·intro n ⟨v, s⟩ ⟨h1, h2⟩
  simp only at h1 h2 ⊢
  have := h2.len
  rw [z1e, if_neg (by simp; omega)]
  exact ⟨s, rfl, h2⟩
theorem y81 (φ : Nat) (hφ : 800000 < φ) {p : Pool} (hc : z06 p = 0) {l : List zb} (hl : FewL l) : ∃ x, zb5 φ p l (cnt p l) = some (x, ()) /\ RdN p.readers (used (z00 p l)) p.readers.length x := by
 have h1 := hl.len
 have hcl : (cnt p l).length <= l.length := zgr p l _
 obtain ⟨_, _, hr1, _⟩ := z6n hc
 unfold zb5
 rw [z2 (by simp [z3d]; omega), Int.toNat_natCast]
 refine zh (fun n i x => z2s φ n l (cnt p l) i x) (cnt p l).length (fun i x => x.length = p.readers.length /\ ∀ j : Nat, j < p.readers.length -> (RdC l ((cnt p l).take i) (j : Int) -> gt x (j : Int) = 1) /\ (¬ RdC l ((cnt p l).take i) (j : Int) -> gt x (j : Int) = 0))
  (fun o => ∃ x, o = some (x, ()) /\ RdN p.readers (used (z00 p l)) p.readers.length x) ?_ ?_ φ _ ⟨by simp, fun j hj => ⟨fun ⟨i, hi, _⟩ => by simp at hi, fun _ => ?_⟩⟩ (by omega)
 ·intro n i x hi ⟨hx1, hx2⟩ hs
  have hgm : gt (cnt p l) (i : Int) ∈ cnt p l := z4a (by omega) (by omega)
  obtain ⟨a1, a2, a3⟩ := zqw hgm
  have hok := zca hc (hl.gt a1 a2) a3
  have hsucc : ∀ j, RdC l ((cnt p l).take (i + 1)) j ↔ RdC l ((cnt p l).take i) j \/ ((gt l (gt (cnt p l) (i : Int))).item.kind = 1 /\ (gt l (gt (cnt p l) (i : Int))).item.other = j) := by
   intro j
   unfold RdC
   rw [z0s _ i hi]
   constructor
   ·rintro ⟨q, hq, h⟩
    rcases List.mem_append.1 hq with hq | hq
    ·exact .inl ⟨q, hq, h⟩
    ·simp only [List.mem_singleton] at hq; subst hq; exact .inr h
   ·rintro (⟨q, hq, h⟩ | h)
    ·exact ⟨q, List.mem_append_left _ hq, h⟩
    ·exact ⟨_, List.mem_append_right _ (List.mem_singleton.2 rfl), h⟩
  rw [z2s, if_pos (by simp; omega), z2 ⟨by omega, by omega⟩, z2 ⟨a1, a2⟩, W_id (by omega) (by omega)]
  by_cases hk : (gt l (gt (cnt p l) (i : Int))).item.kind = 1
  ·obtain ⟨o1, o2⟩ := hok.read hk
   rw [if_pos (by simpa using hk), z2 ⟨o1, by omega⟩]
   refine hs _ ⟨by rw [z0e]; exact hx1, fun j hj => ?_⟩
   rw [hsucc, zt _ _ _ _ o1 (by omega) (by omega)]
   by_cases hjo : (j : Int) = (gt l (gt (cnt p l) (i : Int))).item.other
   ·rw [if_pos hjo]
    exact ⟨fun _ => rfl, fun hn => absurd (.inr ⟨hk, hjo.symm⟩) hn⟩
   ·rw [if_neg hjo]
    exact ⟨fun h => h.elim (hx2 j hj).1 fun h => absurd h.2.symm hjo, fun hn => (hx2 j hj).2 fun h => hn (.inl h)⟩
  ·rw [if_neg (by simpa using hk)]
   refine hs _ ⟨hx1, fun j hj => ?_⟩
   rw [hsucc]
   exact ⟨fun h => h.elim (hx2 j hj).1 fun h => absurd h.1 hk, fun hn => (hx2 j hj).2 fun h => hn (.inl h)⟩
 ·intro n x ⟨hx1, hx2⟩
  rw [List.take_length] at hx2
  rw [z2s, if_neg (by simp)]
  refine y7l φ (by omega) p.readers hr1 _ x ⟨hx1, fun j hj => by omega, fun j _ hj => ?_⟩
  obtain ⟨h2, h3⟩ := hx2 j hj
  by_cases hu : RdC l (cnt p l) (j : Int)
  ·rw [if_pos ((y3h hc hl _ (by omega)).2 hu)]; exact h2 hu
  ·rw [if_neg (fun h => hu ((y3h hc hl _ (by omega)).1 h))]; exact h3 hu
 ·rw [z4x (by simpa using hj)]; simp
theorem yas (rs : List z63) (m : List (Int × Int)) : ∀ n : Nat, ∀ j : Nat, j < n -> (mget m (j : Int)).isSome = true -> mget (rdsN rs m n).m (j : Int) = some (rdsN rs m j).v := by
 intro n
 induction n with
 | zero => intro j h; omega
 | succ n ih =>
  intro j hj hu
  simp only [rdsN, zjx]
  by_cases hjn : j = n
  ·subst hjn
   rw [if_pos (by rw [(zoq rs m j).2 _ (Int.le_refl _)]; exact hu)]
   show mget (mset _ _ _) _ = _
   rw [z6h, if_pos rfl]
  ·have := ih j (by omega) hu
   split
   ·show mget (mset _ _ _) _ = _
    rw [z6h, if_neg (by omega)]; exact this
   ·exact this
end Px
end
section
namespace Px
open Go
set_option linter.unusedVariables false
set_option linter.unusedSimpArgs false
theorem y0t {α : Type} (f : Nat -> α) (k : Nat) {x : α} (h : f k = x) : upd f k x = f := by
 funext j
 unfold upd
 split
 ·rename_i e; rw [e, h]
 ·rfl
theorem nr0 : (upd (upd (fun _ => (default : Ref)) 0 (⟨0, 0⟩ : Ref)) 1 (⟨0, 0⟩ : Ref)) = y0 := by
 have h1 : upd (fun _ => (default : Ref)) 0 (⟨0, 0⟩ : Ref) = fun _ => (default : Ref) := y0t _ 0 rfl
 have h2 : upd (fun _ => (default : Ref)) 1 (⟨0, 0⟩ : Ref) = fun _ => (default : Ref) := y0t _ 1 rfl
 rw [h1, h2]; rfl
theorem nr1 (r : Ref) : (upd (upd (fun _ => (default : Ref)) 0 r) 1 (⟨0, 0⟩ : Ref)) = y1 r := by
 exact y0t (upd (fun _ => (default : Ref)) 0 r) 1 rfl
section
variable (φ : Nat)
theorem yfn (hφ : 800000 < φ) (k) (T : List z1) (n : Nat) (hn : n < T.length) (x63 x65 : _) (v : Int) (x68 x69 x70 x71 x72 x73 x74 x75 x76 x77 x78 x79 x80) (p : Pool) (x82 x83 x84) (b : List ze) (y : List (Nat -> Ref)) (x87 x88 x89 x90) (hb : b.length <= 50000000) (hy : y.length <= 50000000) (h15 : 0 <= v /\ v <= 100000000) (hT : n <= 100000000) :
  z67 φ k x63 (T.map rE) x65 (n : Int) v x68 x69 x70 x71 x72 x73 x74 x75 x76 x77 x78 x79 x80 p x82 x83 x84 b y x87 x88 x89 x90 =
   k x63 (T.map rE) x65 ((n + 1 : Nat) : Int) x68 x69 x70 x71 x72 x73 x74 x75 x76 x77 x78 x79 x80 p x82 x83 x84
    (b ++ trB (tvl φ p.network) v (if 0 < n then some (gt T ((n : Int) - 1)).visit else none) (gt T (n : Int))) (y ++ trY (if 0 < n then some (gt T ((n : Int) - 1)).visit else none) (gt T (n : Int))) x87 x88 x89 x90 := by
 have hW : W ((n : Int) + 1) = ((n + 1 : Nat) : Int) := by rw [W_id (by omega) (by omega)]; omega
 unfold z67
 by_cases h : 0 < n
 ·obtain ⟨_, t1, t2⟩ := ycl φ hφ p.network (gt T ((n : Int) - 1)).visit (gt T (n : Int)).visit
  rw [if_pos (by simp; omega), W_id (x := (n : Int) - 1) (by omega) (by omega), zh9 rE T (by omega) (by omega), zh9 rE T (i := (n : Int)) (by omega) (by omega), yah φ hφ, Option.bind_some,
   z2 ⟨by omega, by simp; omega⟩, z2 ⟨by omega, by simp; omega⟩, z2 ⟨by omega, by simp; omega⟩, z2 ⟨by omega, by simp; omega⟩, z2 (z35 (by simp; omega) (by omega)), z2 (z35 (by simp; omega) (by omega)), W_id (x := v - 1) (by omega) (by omega), W_id (x := 0 - _) (by show _ <= 0 - tvl φ p.network (gt T ((n : Int) - 1)).visit (gt T (n : Int)).visit; omega) (by show 0 - tvl φ p.network (gt T ((n : Int) - 1)).visit (gt T (n : Int)).visit <= _; omega), hW, if_pos h]
  rfl
 ·rw [if_neg (by simp; omega), hW, if_neg h]
  simp only [trB, trY, List.append_nil]
theorem y8t (hφ : 800000 < φ) (k33) {rs : List z63} {m : List (Int × Int)} (hrs : rs.length <= 256) {x : List Int} (hx : RdN rs m rs.length x) (w : Int) (T : List z1) (hE : ∀ e ∈ T, 0 <= e.visit.early /\ e.visit.early <= 1073741824 /\ e.visit.wagon = w /\ e.reader < (rs.length : Int) /\ (0 <= e.reader -> (mget m e.reader).isSome = true)) (hT : T.length <= 2000)
  (x39 x40 x41) (x42 : Int) (x43 x44 x45 x46 x47 x48 x49 x50) (p : Pool) (x54 x55 x59 x60 x61) :
  ∀ (n i N : Nat) (s : BS), T.length < n + i -> i <= T.length -> BB N s -> N <= 8300000 + i ->
   z37 φ k33 n x (T.map rE) w (i : Int) x39 x40 x41 x42 x43 x44 x45 x46 x47 x48 x49 x50 s.v p ⟨0, 0⟩ x54 x55 s.b s.y s.e x59 x60 x61 =
    (fun s' : BS => k33 x39 x40 x41 (W (x42 + 1)) x54 x55 s'.v x59 x60 x61 s'.b s'.y s'.e) (bEv (tvl φ p.network) (rdsN rs m rs.length).m (if 0 < i then some (gt T ((i : Int) - 1)).visit else none) (T.drop i) s) := by
 intro n
 induction n with
 | zero => intro i N s h1 h2; exfalso; omega
 | succ n ih =>
  intro i N s h1 h2 hB hN
  obtain ⟨v0, v1, b1, b2, b3⟩ := hB
  by_cases hi : i < T.length
  ·obtain ⟨e0, e1, e2, e3, e4⟩ := hE _ (z4a (l := T) (i := (i : Int)) (by omega) (by omega))
   have hWv : W (s.v + 1) = s.v + 1 := W_id (by omega) (by omega)
   have hWe : W (0 - (gt T (i : Int)).visit.early) = 0 - (gt T (i : Int)).visit.early := W_id (by omega) (by omega)
   have hnext := ih (i + 1) (N + 1) (zsl (tvl φ p.network) (rdsN rs m rs.length).m (if 0 < i then some (gt T ((i : Int) - 1)).visit else none) (gt T (i : Int)) s) (by omega) (by omega) (BB.step ⟨v0, v1, b1, b2, b3⟩ _ _ _ _) (by omega)
   rw [if_pos (show 0 < i + 1 by omega), show ((i + 1 : Nat) : Int) - 1 = (i : Int) by omega] at hnext
   rw [zhs T i hi]
   refine Eq.trans ?_ hnext
   have hin : (0 : Int) <= (i : Int) /\ (i : Int) < ((T.map rE).length : Int) := ⟨by omega, by simp; omega⟩
   have hg : gt (T.map rE) (i : Int) = rE (gt T (i : Int)) := zh9 rE T (by omega) (by omega)
   rw [z37, if_pos (by simp; omega), z2 hin, z2 hin, z2 hin, z2 (z35 (by simp; omega) (by omega)), z2 hin, hg]
   by_cases hr : (gt T (i : Int)).reader < 0
   ·rw [if_pos (decide_eq_true (p := (rE (gt T (i : Int))).reader < 0) hr), z2 hin, z2 hin, z2 (z35 (by simp; omega) (by omega)), z2 (z35 (by simp; omega) (by omega)), z2 hin, z2 hin, z2 (z35 (by simp; omega) (by omega)), z2 (z35 (by simp; omega) (by omega)), hWv, yfn φ hφ _ T i hi _ _ _ _ _ _ _ _ _ _ _ _ _ _ _ _ _ _ _ _ _ _ _ _ _ _ (by simp; omega) (by simp; omega) ⟨by omega, by omega⟩ (by omega)]
    simp only [rE, hWe, nr1]
    simp only [zsl, evB, evY, if_pos hr]
    rw [e2]
    simp only [List.append_assoc, List.cons_append, List.nil_append]
    rfl
   ·have hrn : gt x (gt T (i : Int)).reader = rv (rdsN rs m rs.length).m (gt T (i : Int)) := by
     have hj := hx.num (gt T (i : Int)).reader.toNat (by omega)
     have hq := yas rs m rs.length (gt T (i : Int)).reader.toNat (by omega)
     rw [Int.toNat_of_nonneg (by omega)] at hj hq
     have hu := e4 (by omega)
     rw [hj, if_pos hu, rv, hq hu]
     rfl
    have hxl := hx.len
    have hin2 : (0 : Int) <= (rE (gt T (i : Int))).reader /\ (rE (gt T (i : Int))).reader < (x.length : Int) := ⟨by show 0 <= (gt T (i : Int)).reader; omega, by show (gt T (i : Int)).reader < _; omega⟩
    rw [if_neg (fun h => hr (of_decide_eq_true (p := (rE (gt T (i : Int))).reader < 0) h)), z2 hin, z2 hin2, z2 hin, z2 hin, z2 (z35 (by simp; omega) (by omega)), z2 (z35 (by simp; omega) (by omega)), z2 hin, z2 hin, z2 (z35 (by simp; omega) (by omega)), z2 (z35 (by simp; omega) (by omega)), z2 hin, z2 (z35 (by simp; omega) (by omega)), z2 (z35 (by simp; omega) (by omega)), z2 hin, z2 (z35 (by simp; omega) (by omega)), z2 (z35 (by simp; omega) (by omega)), hWv, yfn φ hφ _ T i hi _ _ _ _ _ _ _ _ _ _ _ _ _ _ _ _ _ _ _ _ _ _ _ _ _ _ (by simp; omega) (by simp; omega) ⟨by omega, by omega⟩ (by omega)]
    simp only [rE, hWe, nr1, hrn]
    simp only [zsl, evB, evY, if_neg hr]
    rw [e2]
    simp only [List.append_assoc, List.cons_append, List.nil_append]
    rfl
  ·have : i = T.length := by omega
   subst this
   rw [z37, if_neg (by simp), List.drop_length]
   rfl
theorem y0l {p : Pool} (hc : z06 p = 0) {l : List zb} (hl : FewL l) {w : Nat} (hw : w < p.fleet.wagons.length) {e : z1} (he : e ∈ z5t p l (w : Int)) :
  0 <= e.visit.early /\ e.visit.early <= 1073741824 /\ e.visit.wagon = (w : Int) /\ e.reader < (p.readers.length : Int) /\ (0 <= e.reader -> (mget (used (z00 p l)) e.reader).isSome = true) := by
 obtain ⟨h1, h2⟩ := zwy hc hl he
 exact ⟨h1, h2, zpb hl he, zx0 hc hl he, fun h => y1j (z00 p l) [] _ e (List.mem_map.2 ⟨w, List.mem_range.2 hw, rfl⟩) he h⟩
theorem y4u (hφ : 800000 < φ) {p : Pool} (hc : z06 p = 0) {l : List zb} (hl : FewL l) {x : List Int} (hx : RdN p.readers (used (z00 p l)) p.readers.length x) (x25 x27 x28 x29) (s : BS) (hs : BB 0 s) :
  z26 φ φ l (cnt p l) x 0 p x25 s.v x27 x28 x29 s.b s.y s.e = some (bEnd ((z00 p l).foldl (fun s t => bEv (tvl φ p.network) (rdsN p.readers (used (z00 p l)) p.readers.length).m none t s) s)) := by
 obtain ⟨_, hf, hr1, _⟩ := z6n hc
 obtain ⟨_, f2, _⟩ := z56 hf
 have hlen : (z00 p l).length = p.fleet.wagons.length := by unfold z00; simp
 refine zh (fun n i (s : BS) => z26 φ n l (cnt p l) x i p x25 s.v x27 x28 x29 s.b s.y s.e) (z00 p l).length (fun i s' => BB (2000 * i) s' /\ s' = ((z00 p l).take i).foldl (fun s t => bEv (tvl φ p.network) (rdsN p.readers (used (z00 p l)) p.readers.length).m none t s) s)
  (fun o => o = some (bEnd ((z00 p l).foldl (fun s t => bEv (tvl φ p.network) (rdsN p.readers (used (z00 p l)) p.readers.length).m none t s) s))) ?_ ?_ φ s ⟨hs, rfl⟩ (by omega)
 ·intro n i s' hi ⟨h1, h2⟩ hk
  have hti : gt (z00 p l) (i : Int) = z5t p l (i : Int) := zp0 (by omega) (by omega)
  rw [z26, if_pos (by simp; omega), ztm φ hφ hc hl, Option.bind_some]
  have := y8t φ hφ (z26 φ n) hr1 hx (i : Int) (z5t p l (i : Int)) (fun e he => y0l hc hl (by omega) he) (z6e hl.len _) l (cnt p l) x (i : Int) p x p l (cnt p l) (i : Int) ((z5t p l (i : Int)).map rE) (i : Int) p p x25 x27 x28 x29 φ 0 (2000 * i) s' (by have := z6e (p := p) hl.len (i : Int); omega) (by omega) h1 (by omega)
  refine this.trans ?_
  simp only [W_id (x := (i : Int) + 1) (by omega) (by omega), List.drop_zero]
  rw [if_neg (by omega)]
  refine hk _ ⟨?_, ?_⟩
  ·have hb := BB.ev (tvl φ p.network) (rdsN p.readers (used (z00 p l)) p.readers.length).m (z5t p l (i : Int)) (2000 * i) none s' h1
   have ht := z6e (p := p) hl.len (i : Int)
   obtain ⟨a, b, c, d, f⟩ := hb
   exact ⟨a, by omega, by omega, by omega, by omega⟩
  ·rw [z0s _ i hi, List.foldl_append, <- h2, hti]; rfl
 ·intro n s' ⟨h1, h2⟩
  rw [List.take_length] at h2
  rw [z26, if_neg (by simp; omega), <- h2]
  unfold bEnd
  by_cases h : 512 < s'.v \/ 4096 < s'.b.length
  ·rw [if_pos (by simp; omega), if_pos h]
  ·rw [if_neg (by simp; omega), if_neg h]
theorem ye7 (hφ : 800000 < φ) (p : Pool) {l : List zb} (hl : FewL l) : zgy φ p l = z68 φ p l := by
 rw [y38 φ hφ p hl]
 unfold zgy
 by_cases hc : z06 p = 0
 case neg => rw [zkg φ hφ hc, Option.bind_some, if_pos (by simpa using hc), if_neg hc]
 rw [zr0 φ hφ hc hl, Option.bind_some, if_neg (by simp), if_pos hc]
 obtain ⟨x, hx1, hx⟩ := y81 φ hφ hc hl
 obtain ⟨_, _, hr1, _⟩ := z6n hc
 have hrd := (zta hc).1
 rw [hx1, Option.bind_some]
 show z23 φ φ l (cnt p l) x 0 p 0 1 ⟨0, 0⟩ [] [] [] [] [] [] = _
 have hxl := hx.len
 refine zh (fun n i (s : RS) => z23 φ n l (cnt p l) x i p 0 s.v ⟨0, 0⟩ [] [] [] s.b s.y []) p.readers.length
  (fun i s => s.v = (rdsN p.readers (used (z00 p l)) i).v /\ s.b = (rdsN p.readers (used (z00 p l)) i).b /\ s.y = (rdsN p.readers (used (z00 p l)) i).y)
  (fun o => o = some (bEnd (bAll (tvl φ p.network) p.readers (z00 p l)))) ?_ ?_ φ ⟨1, [], [], []⟩ ⟨rfl, rfl, rfl⟩ (by omega)
 ·intro n i ⟨v, mm, b, y⟩ hi ⟨q1, q2, q3⟩ hk
  simp only at q1 q2 q3 ⊢
  obtain ⟨a1, a2, a3, a4⟩ := zeb p.readers (used (z00 p l)) i
  rw [<- q1] at a1 a2; rw [<- q2] at a3; rw [<- q3] at a4
  have hlow := hrd _ (z4a (l := p.readers) (i := (i : Int)) (by omega) (by omega))
  have hW : W ((i : Int) + 1) = (i : Int) + 1 := W_id (by omega) (by omega)
  have hin : (0 : Int) <= (i : Int) /\ (i : Int) < (x.length : Int) := ⟨by omega, by omega⟩
  have hir : (0 : Int) <= (i : Int) /\ (i : Int) < (p.readers.length : Int) := ⟨by omega, by omega⟩
  have hstep : (rdsN p.readers (used (z00 p l)) (i + 1)) = zjx p.readers i (rdsN p.readers (used (z00 p l)) i) := rfl
  have hm0 := (zoq p.readers (used (z00 p l)) i).2 _ (Int.le_refl _)
  rw [z23, if_pos (by simp; omega), z2 hin, hx.num i hi]
  by_cases hu : (mget (used (z00 p l)) (i : Int)).isSome = true
  ·rw [if_pos hu, if_pos (by have := yb3 p.readers (used (z00 p l)) i; simp; omega), z2 hin, z2 hir, z2 (z35 (by simp; omega) (by omega)), z2 (z35 (by simp; omega) (by omega)), z2 hin, z2 hir, z2 (z35 (by simp; omega) (by omega)), z2 (z35 (by simp; omega) (by omega)), hW, W_id (x := v + 1) (by omega) (by omega), W_id (x := 0 - (gt p.readers (i : Int)).low) (by omega) (by omega), nr0]
   refine hk ⟨v + 1, mm, _, _⟩ ?_
   rw [hstep, zjx, if_pos (by rw [hm0]; exact hu)]
   refine ⟨by rw [q1], ?_, ?_⟩
   ·show b ++ _ ++ _ = _; rw [q2]; simp
   ·show y ++ _ ++ _ = _; rw [q3]; simp
  ·rw [if_neg hu, if_neg (by simp), hW]
   refine hk ⟨v, mm, b, y⟩ ?_
   rw [hstep, zjx, if_neg (by rw [hm0]; exact hu)]
   exact ⟨q1, q2, q3⟩
 ·intro n ⟨v, mm, b, y⟩ ⟨q1, q2, q3⟩
  simp only at q1 q2 q3 ⊢
  obtain ⟨a1, a2, a3, a4⟩ := zeb p.readers (used (z00 p l)) p.readers.length
  rw [z23, if_neg (by simp; omega), q1, q2, q3]
  exact y4u φ hφ hc hl hx 0 [] [] [] ⟨_, _, _, []⟩ ⟨a1, by show (rdsN p.readers (used (z00 p l)) p.readers.length).v <= _; omega, by show (rdsN p.readers (used (z00 p l)) p.readers.length).b.length <= _; omega, by show (rdsN p.readers (used (z00 p l)) p.readers.length).y.length <= _; omega, by simp⟩
theorem yf1 (hφ : 800000 < φ) (p : Pool) {l : List zb} (hl : FewL l) (w : Int) : zg5 φ p l w = z91 φ p l w := by
 rw [y2q φ hφ p hl]
 unfold zg5 za9
 by_cases hc : z06 p = 0
 case neg =>
  rw [zkg φ hφ hc, Option.bind_some, gz_f (by simpa using hc), Option.bind_some, if_pos (by simp [hc]), if_neg (by simp [hc])]
 rw [zr0 φ hφ hc hl, Option.bind_some, gz_t (by simp), Option.bind_some]
 by_cases hw : 0 <= w /\ w < (p.fleet.wagons.length : Int)
 case neg => rw [if_pos (by simp; omega), if_neg (fun h => hw h.2)]
 rw [if_neg (by simp; omega), if_pos ⟨hc, hw⟩, ztm φ hφ hc hl, Option.bind_some]
 have htl := z6e (p := p) hl.len w
 have hwg : ∀ e ∈ z5t p l w, e.visit.wagon = w := fun e he => zpb hl he
 have hlt : ∀ e ∈ z5t p l w, e.visit.late = e.visit.early := by
  intro e he
  obtain ⟨y, hy, b, rfl⟩ := zi6 he
  obtain ⟨_, _, _, _, h5⟩ := zqm hl.len hy
  unfold evs at h5
  split at h5
  ·simp only [List.mem_singleton] at h5; rw [h5]; rfl
  ·split at h5
   ·simp only [List.mem_cons, List.not_mem_nil, or_false] at h5
    rcases h5 with q | q <;> rw [q] <;> rfl
   ·split at h5
    ·simp only [List.mem_singleton] at h5; rw [h5]; rfl
    ·cases h5
 generalize z5t p l w = t at *
 refine zh (fun n i acc => z4f φ n w (t.map rE) i acc) t.length (fun i acc => acc = (t.take i).map (·.visit)) (fun o => o = some (t.map (·.visit), ())) ?_ ?_ φ [] (by simp) (by omega)
 ·intro n i acc hi hacc hs
  have hin : (0 : Int) <= (i : Int) /\ (i : Int) < ((t.map rE).length : Int) := ⟨by omega, by simp; omega⟩
  have hm : gt t (i : Int) ∈ t := z4a (by omega) (by omega)
  rw [z4f, if_pos (by simp; omega), z2 hin, z2 hin, z2 hin, z2 hin, z2 hin, z2 (zm7 (by rw [hacc]; simp; omega) (by omega)), W_id (by omega) (by omega), zh9 rE t (by omega) (by omega)]
  refine hs _ ?_
  rw [hacc, z0s t i hi, List.map_append]
  have e : (⟨w, (rE (gt t (i : Int))).place, (rE (gt t (i : Int))).ref, (rE (gt t (i : Int))).covers, (rE (gt t (i : Int))).time, (rE (gt t (i : Int))).time⟩ : z1d) = (gt t (i : Int)).visit := by
   have h1 := hwg _ hm
   have h2 := hlt _ hm
   unfold rE
   revert h1 h2
   generalize (gt t (i : Int)).visit = z
   intro h1 h2
   obtain ⟨_, _, _, _, _, _⟩ := z
   simp only at h1 h2 ⊢
   rw [h1, h2]
  rw [e]
  rfl
 ·intro n acc hacc
  rw [z4f, if_neg (by simp), hacc, List.take_length]
end
end Px
end
section
namespace Px
open Go
set_option linter.unusedVariables false
set_option linter.unusedSimpArgs false
def Nx (x : z6) (t : List Int) (a q : Int) : Prop := q ∈ gt (zg x) a /\ gt t q + wtN x a q = gt t a /\ ∀ r ∈ gt (zg x) a, r < q -> gt t r + wtN x a r ≠ gt t a
inductive Rt (x : z6) (t : List Int) (b : Int) : Int -> List Int -> Prop where
 | stop : Rt x t b b []
 | go {a q : Int} {l : List Int} : a ≠ b -> Nx x t a q -> Rt x t b q l -> Rt x t b a (q :: l)
theorem Nx.uniq {x : z6} {t : List Int} {a q r : Int} (h : Nx x t a q) (g : Nx x t a r) : q = r := by
 by_cases h1 : q < r
 ·exact absurd h.2.1 (g.2.2 q h.1 h1)
 ·by_cases h2 : r < q
  ·exact absurd g.2.1 (h.2.2 r g.1 h2)
  ·omega
theorem Rt.uniq {x : z6} {t : List Int} {b : Int} {a : Int} {l : List Int} (h : Rt x t b a l) : ∀ {l' : List Int}, Rt x t b a l' -> l = l' := by
 induction h with
 | stop =>
  intro l' h'
  cases h' with
  | stop => rfl
  | go h1 _ _ => exact absurd rfl h1
 | go h1 h2 h3 ih =>
  intro l' h'
  cases h' with
  | stop => exact absurd rfl h1
  | go g1 g2 g3 =>
   have := h2.uniq g2
   subst this
   rw [ih g3]
theorem zzy {x : z6} {a : Int} (ha : 0 <= a) (ha' : a < (x.places.length : Int)) (hx : z4n x) {i j : Nat} (hij : i <= j) (hj : j < (gt (zg x) a).length) : gt (gt (zg x) a) (i : Int) <= gt (gt (zg x) a) (j : Int) := by
 have H := z5z hx x.edges.length (Nat.le_refl _)
 have hl0 : (z5f x).length = x.places.length := H.len
 have e : gt (zg x) a = zb8 (fun a b => decide (a < b)) (gt (z5f x) a) := zh9 _ _ ha (by rw [hl0]; exact ha')
 have hp := z7u y7v (gt (z5f x) a)
 rw [<- e] at hp
 rw [z4x (by omega), z4x hj]
 by_cases h : i = j
 ·subst h; exact Int.le_refl _
 ·have := List.pairwise_iff_getElem.1 hp i j (by omega) hj (by omega)
  simpa using this
theorem zzm (φ : Nat) (hφ : 800000 < φ) {x : z6} (hx : z4n x) {b0 : Int} {t : List Int} (hD : DF x.places.length (zg x) (wtN x) b0 t) :
  ∀ (n : Nat) (a : Int) (l : List Int), 0 <= a -> a < (x.places.length : Int) -> 0 <= gt t a -> gt t a < (n : Int) -> (l.length : Int) + gt t a <= 51200000 ->
   ∃ r, zp φ n a b0 x (l ++ [a]) t (zg x) (z1f x) = some (l ++ [a] ++ r, 0, ()) /\ Rt x t b0 a r := by
 have hG := grN hx
 have hP := hx.places
 intro n
 induction n with
 | zero => intro a l _ _ h1 h2; omega
 | succ n ih =>
  intro a l a0 a1 ta tn hln
  rw [zp]
  by_cases he : a = b0
  ·rw [if_neg (by simp [he])]
   subst he
   exact ⟨[], by simp, .stop⟩
  ·rw [if_pos (by simpa using he), z2 ⟨a0, by rw [hG.len]; exact a1⟩, z2 ⟨a0, by rw [hG.len]; exact a1⟩, z2 rfl]
   have hsz := hG.size a a0 a1
   obtain ⟨q0, q00, q01, hq, tq, hte⟩ := hD.pre a a0 a1 he ta
   have key : ∀ (m i : Nat), i <= (gt (zg x) a).length -> (gt (zg x) a).length - i < m -> (∃ j : Nat, i <= j /\ j < (gt (zg x) a).length /\ gt (gt (zg x) a) (j : Int) = q0) ->
     (∀ j : Nat, j < i -> gt t (gt (gt (zg x) a) (j : Int)) + wtN x a (gt (gt (zg x) a) (j : Int)) ≠ gt t a) ->
     ∃ r, z1n φ (zp φ n) m a b0 ((gt (zg x) a).length : Int) (i : Int) x (l ++ [a]) t (gt (zg x) a) (zg x) a (z1f x) = some (l ++ [a] ++ r, 0, ()) /\ Rt x t b0 a r := by
    intro m
    induction m with
    | zero => intro i h1 h2; omega
    | succ m ihm =>
     intro i h1 h2 ⟨j, hj1, hj2, hj3⟩ hbef
     have hm : gt (gt (zg x) a) (i : Int) ∈ gt (zg x) a := z4a (by omega) (by omega)
     obtain ⟨r0, r1⟩ := hG.rng a _ a0 a1 hm
     obtain ⟨w0, w1⟩ := hG.wt a _ a0 a1 hm
     obtain ⟨li, hli, l0, l1, _⟩ := zfj hx a0 a1 hm
     have hlt := hD.lt
     have htn := (hD.nbr a _ a0 a1 ta hm).1
     have hbd := (hD.bd _ r0 r1).resolve_left (by omega)
     rw [z1n, if_pos (by simp; omega), z2 ⟨by omega, by omega⟩, z2 ⟨r0, by omega⟩, z2 (by
      have : @mget (Nat -> Int) Int ⟨beqA 2⟩ (z1f x) (upd (upd (fun _ => (default : Int)) 0 a) 1 (gt (gt (zg x) a) (i : Int))) = some li := hli
      rw [this]; exact ⟨l0, l1⟩), z2 ⟨a0, by omega⟩]
     have hwt' : (gt x.edges ((@mget (Nat -> Int) Int ⟨beqA 2⟩ (z1f x) (upd (upd (fun _ => (default : Int)) 0 a) 1 (gt (gt (zg x) a) (i : Int)))).getD default)).minutes = wtN x a (gt (gt (zg x) a) (i : Int)) := rfl
     rw [hwt', W_id (x := gt t _ + _) (by omega) (by omega)]
     by_cases hc : gt t (gt (gt (zg x) a) (i : Int)) + wtN x a (gt (gt (zg x) a) (i : Int)) = gt t a
     ·rw [if_pos (by simpa using hc)]
      unfold z3q
      rw [z2 (z35 (by simp; omega) (by omega)), zf7 _ a0 (by rw [hG.len]; exact a1)]
      obtain ⟨r, hr1, hr2⟩ := ih (gt (gt (zg x) a) (i : Int)) (l ++ [a]) r0 r1 htn (by omega) (by simp; omega)
      refine ⟨gt (gt (zg x) a) (i : Int) :: r, hr1.trans (by simp), .go he ⟨hm, hc, fun y hy hlt => ?_⟩ hr2⟩
      obtain ⟨k, hk1, hk2⟩ := zo0 hy
      by_cases hki : k < i
      ·rw [<- hk2]; exact hbef k hki
      ·have := zzy a0 a1 hx (i := i) (j := k) (by omega) hk1
       omega
     ·rw [if_neg (by simpa using hc), W_id (by omega) (by omega)]
      have hne : j ≠ i := by
       intro e
       subst e
       apply hc
       rw [hj3]
       have := (hG.sym a q0 a0 a1 hq).2
       rw [this] at hte
       omega
      exact ihm (i + 1) (by omega) (by omega) ⟨j, by omega, hj2, hj3⟩ (fun k hk => by
       by_cases hki : k = i
       ·subst hki; exact hc
       ·exact hbef k (by omega))
   obtain ⟨j, hj1, hj2⟩ := zo0 hq
   exact key φ 0 (Nat.zero_le _) (by omega) ⟨j, Nat.zero_le _, hj1, hj2⟩ (fun j hj => by omega)
theorem ybv (φ : Nat) (hφ : 5000 < φ) {x : z6} (hx : z4n x) (a b : Int) : zez φ x a b = some (lnF x.edges a b x.edges.length, ()) := by
 have he := hx.edges
 unfold zez
 refine zh (fun n i k => z4z φ n a b k i x) x.edges.length (fun i k => k = lnF x.edges a b i) (fun o => o = some (lnF x.edges a b x.edges.length, ())) ?_ ?_ φ (-1) rfl (by omega)
 ·intro n i k hi hk hs
  obtain ⟨⟨k0, k1⟩, _⟩ := ztb x.edges a b i
  rw [<- hk] at k0 k1
  have hj : (((((gt x.edges (i : Int)).a : Int) == a) && (((gt x.edges (i : Int)).b : Int) == b)) || ((((gt x.edges (i : Int)).a : Int) == b) && (((gt x.edges (i : Int)).b : Int) == a))) = decide (zn7 (gt x.edges (i : Int)) a b) := by
   rw [Bool.eq_iff_iff, decide_eq_true_iff]
   unfold zn7
   simp
  have hst := zuk x.edges a b i
  rw [<- hk] at hst
  rw [z4z, if_pos (by simp; omega), z2 ⟨by omega, by omega⟩, z2 (fun h => by have := h.2; simp at this; omega), hj, W_id (by omega) (by omega)]
  by_cases hc : zn7 (gt x.edges (i : Int)) a b /\ (k < 0 \/ (gt x.edges (i : Int)).minutes < (gt x.edges k).minutes)
  ·rw [if_pos hc] at hst
   rw [if_pos (by simpa using hc)]
   exact hs _ hst.symm
  ·rw [if_neg hc] at hst
   rw [if_neg (by simpa using hc)]
   exact hs _ hst.symm
 ·intro n k hk
  rw [z4z, if_neg (by simp), hk]
theorem y0j (φ : Nat) (hφ : 800000 < φ) {x : z6} (hx : z4n x) {b0 : Int} {t u : List Int} (hD : DF x.places.length (zg x) (wtN x) b0 t) (hu : u.length = x.places.length) (hs : ∀ q : Int, 0 <= q -> q < (x.places.length : Int) -> gt t q = gt u q) :
  ∀ (n : Nat) (a : Int) (l : List Int), 0 <= a -> a < (x.places.length : Int) -> 0 <= gt t a -> gt t a < (n : Int) -> (l.length : Int) + gt t a <= 51200000 ->
   ∃ r, z4l φ n a b0 u x (l ++ [a]) = some (l ++ [a] ++ r, 0, ()) /\ Rt x t b0 a r := by
 have hG := grN hx
 have hP := hx.places
 have hE := hx.edges
 intro n
 induction n with
 | zero => intro a l _ _ h1 h2; omega
 | succ n ih =>
  intro a l a0 a1 ta tn hln
  rw [z4l]
  by_cases he : a = b0
  ·rw [if_neg (by simp [he])]
   subst he
   exact ⟨[], by simp, .stop⟩
  ·rw [if_pos (by simpa using he)]
   obtain ⟨q0, q00, q01, hq, tq, hte⟩ := hD.pre a a0 a1 he ta
   have hte' : gt t q0 + wtN x a q0 = gt t a := by
    have := (hG.sym a q0 a0 a1 hq).2
    rw [this] at hte
    omega
   have key : ∀ (m i : Nat), i <= x.places.length -> x.places.length - i + 1 < m -> (i : Int) <= q0 ->
     (∀ r ∈ gt (zg x) a, r < (i : Int) -> gt t r + wtN x a r ≠ gt t a) ->
     ∃ r, z38 φ (z4l φ n) m a b0 u (-1) (i : Int) x (l ++ [a]) = some (l ++ [a] ++ r, 0, ()) /\ Rt x t b0 a r := by
    intro m
    induction m with
    | zero => intro i h1 h2; omega
    | succ m ihm =>
     intro i h1 h2 hiq hbef
     have hi : i < x.places.length := by omega
     obtain ⟨⟨k0, k1⟩, _⟩ := ztb x.edges a (i : Int) x.edges.length
     have hnm := zm4 hx (b := (i : Int)) a0 a1
     have hui := hs (i : Int) (by omega) (by omega)
     have hua := hs a a0 a1
     rw [z38, if_pos (by rw [hu]; simp; omega), ybv φ (by omega) hx, Option.bind_some, z2 (fun _ => ⟨by omega, by rw [hu]; omega⟩), z2 (fun h => ⟨by simpa using h, by omega⟩), z2 (fun _ => ⟨a0, by rw [hu]; exact a1⟩), W_id (x := (i : Int) + 1) (by omega) (by omega), <- hui, <- hua]
     by_cases hl : 0 <= lnF x.edges a (i : Int) x.edges.length
     ·have hm := hnm.2 hl
      obtain ⟨w0, w1⟩ := hG.wt a _ a0 a1 hm
      have htn := (hD.nbr a _ a0 a1 ta hm).1
      have hbd := (hD.bd _ (by omega) (by omega : (i : Int) < _)).resolve_left (by omega)
      rw [<- y1i hx hl, W_id (x := gt t _ + _) (by omega) (by omega)]
      by_cases hc : gt t (i : Int) + wtN x a (i : Int) = gt t a
      ·rw [if_pos (by simp [hl, hc])]
       obtain ⟨m', rfl⟩ : ∃ m', m = m' + 1 := ⟨m - 1, by omega⟩
       rw [z38, if_neg (by simp), z2 (z35 (by simp; omega) (by omega))]
       obtain ⟨r, hr1, hr2⟩ := ih (i : Int) (l ++ [a]) (by omega) (by omega) htn (by omega) (by simp; omega)
       exact ⟨(i : Int) :: r, hr1.trans (by simp), .go he ⟨hm, hc, hbef⟩ hr2⟩
      ·rw [if_neg (by simp [hc])]
       have hne : (i : Int) ≠ q0 := fun e => hc (by rw [e]; exact hte')
       refine ihm (i + 1) (by omega) (by omega) (by omega) (fun r hr hri => ?_)
       by_cases hr' : r = (i : Int)
       ·rw [hr']; exact hc
       ·exact hbef r hr (by omega)
     ·rw [if_neg (by simp; omega)]
      have hne : (i : Int) ≠ q0 := fun e => hl (hnm.1 (by rw [e]; exact hq))
      refine ihm (i + 1) (by omega) (by omega) (by omega) (fun r hr hri => ?_)
      by_cases hr' : r = (i : Int)
      ·subst hr'; exact absurd (hnm.1 hr) hl
      ·exact hbef r hr (by omega)
   exact key φ 0 (Nat.zero_le _) (by omega) (by omega) (fun r hr h0 => by have := hG.rng a r a0 a1 hr; omega)
theorem zxm {x : z6} (hx : z4n x) {a b : Int} (ha : 0 <= a /\ a < (x.places.length : Int)) (hb : 0 <= b /\ b < (x.places.length : Int)) {t u : List Int} (hT : DF x.places.length (zg x) (wtN x) a t) (hU : DF x.places.length (zg x) (wtN x) b u) (h : 0 <= gt t b) : 0 <= gt u a := by
 have hG := grN hx
 have key : ∀ (n : Nat) (v : Int), 0 <= v -> v < (x.places.length : Int) -> 0 <= gt t v -> gt t v < (n : Int) -> 0 <= gt u v -> 0 <= gt u a := by
  intro n
  induction n with
  | zero => intro v _ _ h1 h2; omega
  | succ n ih =>
   intro v v0 v1 h1 h2 h3
   by_cases hv : v = a
   ·subst hv; exact h3
   ·obtain ⟨q, q0, q1, hq, tq, hte⟩ := hT.pre v v0 v1 hv h1
    have hsy := hG.sym v q v0 v1 hq
    have hw := hG.wt v q v0 v1 hq
    rw [hsy.2] at hte
    exact ih q q0 q1 tq (by omega) (hU.nbr v q v0 v1 h3 hq).1
 exact key ((gt t b).toNat + 1) b hb.1 hb.2 h (by omega) (by rw [hU.src]; exact Int.le_refl _)
end Px
end
section
namespace Px
open Go
set_option linter.unusedVariables false
set_option linter.unusedSimpArgs false
theorem y4a (φ : Nat) (hφ : 60000000 < φ) (x : z6) (a b : Int) : (∃ r, z0a φ x a b = some (r, 0, ()) /\ z6j φ x a b = some (r, 0, ()) /\ z49 x = 0 /\ Way x r /\ r.length <= 51200001) \/
  (∃ e e' r r', e ≠ 0 /\ e' ≠ 0 /\ z0a φ x a b = some (r, e, ()) /\ z6j φ x a b = some (r', e', ())) := by
 by_cases hn : z49 x = 0
 case neg =>
  refine .inr ⟨z49 x, z49 x, [], [], hn, hn, ?_, ?_⟩
  ·unfold z0a
   rw [z03 _ (by omega), Option.bind_some, if_pos (by simpa using hn), if_pos (by simpa using hn)]
  ·unfold z6j
   rw [zih φ (by omega)]
   unfold zf
   rw [z03 _ (by omega), Option.bind_some, if_pos (by simpa using hn), if_pos (by simpa using hn), Option.bind_some, if_pos (by simpa using hn)]
 have hx := zx2 hn
 have hP := hx.places
 by_cases hab : (0 <= a /\ a < (x.places.length : Int)) /\ (0 <= b /\ b < (x.places.length : Int))
 case neg =>
  refine .inr ⟨1, 1, [], [], by omega, by omega, ?_, ?_⟩
  ·unfold z0a
   rw [z03 _ (by omega), Option.bind_some, if_neg (by simp [hn])]
   obtain ⟨m, rfl⟩ : ∃ m, φ = m + 3 := ⟨φ - 3, by omega⟩
   have L : ((([a, b] : List Int).length : Nat) : Int) = 2 := rfl
   rw [L, show m + 3 = (m + 2) + 1 from rfl, z0f, if_pos (by decide), z2 (by rw [L]; decide), show gt [a, b] 0 = a from rfl]
   by_cases ha : 0 <= a /\ a < (x.places.length : Int)
   case neg => rw [if_pos (by simp; omega)]
   rw [if_neg (by simp; omega), show W (0 + 1) = 1 by rfl, show m + 2 = (m + 1) + 1 from rfl, z0f, if_pos (by decide), z2 (by rw [L]; decide), show gt [a, b] 1 = b from rfl, if_pos (by simp; omega)]
  ·have e1 : zf φ x a b = some (0, 1, ()) := by
    unfold zf
    rw [z03 _ (by omega), Option.bind_some, if_neg (by simp [hn])]
    obtain ⟨m, rfl⟩ : ∃ m, φ = m + 3 := ⟨φ - 3, by omega⟩
    have L : ((([a, b] : List Int).length : Nat) : Int) = 2 := rfl
    rw [L, show m + 3 = (m + 2) + 1 from rfl, zm, if_pos (by decide), z2 (by rw [L]; decide), show gt [a, b] 0 = a from rfl]
    by_cases ha : 0 <= a /\ a < (x.places.length : Int)
    case neg => rw [if_pos (by simp; omega)]
    rw [if_neg (by simp; omega), show W (0 + 1) = 1 by rfl, show m + 2 = (m + 1) + 1 from rfl, zm, if_pos (by decide), z2 (by rw [L]; decide), show gt [a, b] 1 = b from rfl, if_pos (by simp; omega)]
   unfold z6j
   rw [zih φ (by omega), e1, Option.bind_some, if_pos (by simp)]
 obtain ⟨ha, hb⟩ := hab
 obtain ⟨s, hS, e1⟩ := zst φ (by omega) hn ha hb
 -- the program's route
 have hN : ∃ t, DF x.places.length (zg x) (wtN x) b t /\ ((gt t a < 0 /\ z0a φ x a b = some ([], 80, ())) \/ (0 <= gt t a /\ ∃ r, z0a φ x a b = some (a :: r, 0, ()) /\ Rt x t b a r)) := by
  unfold z0a
  rw [z03 _ (by omega), Option.bind_some, if_neg (by simp [hn])]
  obtain ⟨m, rfl⟩ : ∃ m, φ = m + 3 := ⟨φ - 3, by omega⟩
  have g0 : gt [a, b] 0 = a := rfl
  have g1 : gt [a, b] 1 = b := rfl
  have L : ((([a, b] : List Int).length : Nat) : Int) = 2 := rfl
  have step : ∀ n i, z0f (m + 3) (n + 1) 2 i a b x [a, b] x [] = (if (decide ((i : Int) < 2)) = true then (ck ((0 : Int) <= i /\ i < (2 : Int)) (if ((decide (((gt [a, b] i) : Int) < 0)) || (decide (((x.places.length : Int) : Int) <= (gt [a, b] i)))) = true then (some (([] : List Int), 1, ())) else (z0f (m + 3) n 2 (W (i + 1)) a b x [a, b] x []))) else (ck (z3d (x.places.length : Int) 24) (zw (m + 3) (m + 3) x.edges (x.edges.length : Int) 0 a b x x (List.replicate ((x.places.length : Int) : Int).toNat (default : (List Int))) ([] : List ((Nat -> Int) × Int))))) := fun n i => by rw [z0f]; rfl
  rw [L, show m + 3 = (m + 2) + 1 from rfl, step, if_pos (by decide), z2 (by decide), g0]
  rw [if_neg (by simp; omega), show W (0 + 1) = 1 by rfl, show m + 2 = (m + 1) + 1 from rfl, step, if_pos (by decide), z2 (by decide), g1]
  rw [if_neg (by simp; omega), show W (1 + 1) = 2 by rfl, step, if_neg (by decide), z2 (mk_t _ _ (by omega) (by omega) (by omega)), zcx (m + 3) x a b hx (by omega), z2 (mk_t _ _ (by omega) (by omega) (by omega)), z2 (mk_t _ _ (by omega) (by simp; omega) (by omega))]
  obtain ⟨t, h1, h2⟩ := zcm (m + 3) x a b hx (by omega) hb.1 hb.2
  rw [h2, z2 ⟨ha.1, by rw [h1.lt]; exact ha.2⟩]
  refine ⟨t, h1, ?_⟩
  rcases h1.bd a ha.1 ha.2 with h3 | ⟨h3, h4⟩
  ·rw [if_pos (by simp; omega)]
   exact .inl ⟨by omega, rfl⟩
  ·rw [if_neg (by simp; omega)]
   obtain ⟨r, hr, hw⟩ := zzm (m + 3) (by omega) hx h1 (m + 3) a [] ha.1 ha.2 h3 (by omega) (by simp; omega)
   exact .inr ⟨h3, r, hr, hw⟩
 obtain ⟨t, hT, hN⟩ := hN
 rcases hN with ⟨h1, h2⟩ | ⟨h1, r, h2, h3⟩
 ·refine .inr ⟨80, 80, [], [], by omega, by omega, h2, ?_⟩
  have hs : gt s b < 0 := by
   by_cases h : gt s b < 0
   ·exact h
   ·have := zxm hx ha hb hS hT (by omega)
    omega
  unfold z6j
  rw [zih φ (by omega), e1, if_pos hs, Option.bind_some, if_pos (by simp)]
 ·refine .inl ⟨a :: r, h2, ?_, ?_⟩
  ·have hs : ¬ gt s b < 0 := by
    have := zxm hx hb ha hT hS h1
    omega
   unfold z6j
   rw [zih φ (by omega), e1, if_neg hs, Option.bind_some, if_neg (by simp)]
   obtain ⟨u, hu, hU⟩ := y1u φ (by omega) hn hb.1 hb.2
   rw [hu, Option.bind_some]
   have hbd := (hT.bd a ha.1 ha.2).resolve_left (by omega)
   obtain ⟨r', hr', hw'⟩ := y0j φ (by omega) hx hT hU.len (fun q q0 q1 => zt3 hx hb.1 hb.2 hT hU q0 q1) φ a [] ha.1 ha.2 h1 (by omega) (by simp; omega)
   have := h3.uniq hw'
   subst this
   exact hr'
  ·obtain ⟨r2, e2, hr2, he2⟩ := y2o φ hφ x a b
   rw [h2] at hr2
   cases hr2
   exact he2 rfl
structure RelS (km : List (Int × Int)) (kl : List Int) (ul : List Bool) : Prop where
 l1 : kl.length = 16
 l2 : ul.length = 16
 k : ∀ r : Int, 0 <= r -> r < 16 -> gt kl r = (mget km r).getD default
 u : ∀ r : Int, 0 <= r -> r < 16 -> gt ul r = (mget km r).isSome
theorem y4c (φ : Nat) {km : List (Int × Int)} {kl : List Int} {ul : List Bool} (h : RelS km kl ul) : ∀ (n i : Nat) (sh : List z2d), z0k φ n (i : Int) sh km = z3f φ n (i : Int) kl ul sh := by
 intro n
 induction n with
 | zero => intro i sh; rfl
 | succ n ih =>
  intro i sh
  rw [z0k, z3f]
  by_cases hi : i < 16
  ·have h1 := h.l1
   have h2 := h.l2
   have hc : decide ((i : Int) < 16) = true := by simp; omega
   have e := ih (i + 1)
   simp only [Int.natCast_succ] at e
   rw [if_pos hc, if_pos hc, z2 (show (0 : Int) <= (i : Int) /\ (i : Int) < (ul.length : Int) from ⟨by omega, by omega⟩), z2 (show (0 : Int) <= (i : Int) /\ (i : Int) < (kl.length : Int) from ⟨by omega, by omega⟩), h.k _ (by omega) (by omega), h.u _ (by omega) (by omega), W_id (by omega) (by omega), e, e]
  ·rw [if_neg (by simp; omega), if_neg (by simp; omega)]
theorem y0u (φ : Nat) (hφ : 60000000 < φ) {x : z6} (hn : z49 x = 0) {rt : List Int} (hw : Way x rt) (hl : rt.length <= 51200001) : zaa φ x rt = z10 φ x rt := by
 have hx := zx2 hn
 have hP := hx.places
 have hE := hx.edges
 have hr := hw.rng
 have walk : ∀ (n i : Nat) (km : List (Int × Int)) (kl : List Int) (ul : List Bool), 1 <= i -> rt.length + 1 < n + i -> (∀ r v, mget km r = some v -> 0 <= v /\ v <= 10000 * (i : Int)) -> i <= rt.length + 1 -> RelS km kl ul ->
   zo φ n rt i x [] km (zg x) (z1f x) = z2l φ n rt ((i - 1 : Nat) : Int) x kl ul := by
  intro n
  induction n with
  | zero => intro i km kl ul h1 h2 hkm h3; exfalso; omega
  | succ n ih =>
   intro i km kl ul h1 h2 hkm h3 hR
   obtain ⟨j, rfl⟩ : ∃ j, i = j + 1 := ⟨i - 1, by omega⟩
   rw [show j + 1 - 1 = j by omega]
   have hWj : W ((j : Int) + 1) = ((j + 1 : Nat) : Int) := by rw [W_id (by omega) (by omega)]; omega
   rw [zo, z2l, hWj]
   by_cases hi : j + 1 < rt.length
   ·have hst := hw.step j hi
    obtain ⟨r0, r1⟩ := hr _ (z4a (l := rt) (i := (j : Int)) (by omega) (by omega))
    have hlf := (zm4 hx r0 r1).1 hst
    obtain ⟨li, hli, l0, l1, _⟩ := zfj hx r0 r1 hst
    have hge := zou hx x.edges.length (Nat.le_refl _) (gt rt (j : Int)) (gt rt ((j + 1 : Nat) : Int))
    rw [if_neg (by omega)] at hge
    have hlf2 : lnF x.edges (gt rt (j : Int)) (gt rt ((j + 1 : Nat) : Int)) x.edges.length = li := by
     have : some _ = some li := hge.symm.trans hli
     exact Option.some.inj this
    obtain ⟨_, _, _, _, _, ry0, ry1, _, _, k0, k1⟩ := hx.ends l0 l1
    have hWm : W (((j + 1 : Nat) : Int) - 1) = (j : Int) := by rw [W_id (by omega) (by omega)]; omega
    have hli' : @mget (Nat -> Int) Int ⟨beqA 2⟩ (z1f x) (upd (upd (fun _ => (default : Int)) 0 (gt rt (j : Int))) 1 (gt rt ((j + 1 : Nat) : Int))) = some li := hli
    have hc : decide (((j + 1 : Nat) : Int) < (rt.length : Int)) = true := by simp; omega
    have hj0 : (0 : Int) <= (j : Int) /\ (j : Int) < (rt.length : Int) := ⟨by omega, by omega⟩
    have hj1 : (0 : Int) <= ((j + 1 : Nat) : Int) /\ ((j + 1 : Nat) : Int) < (rt.length : Int) := ⟨by omega, by omega⟩
    rw [if_pos hc, if_pos hc, hWm, z2 hj0, z2 hj1, z2 hj0, z2 hj1, hli', if_neg (show ¬ (!(some li).isSome) = true by simp), ybv φ (by omega) hx, hlf2, Option.bind_some, if_neg (show ¬ decide (li < 0) = true by simp; omega)]
    simp only [Option.getD_some]
    have hold : 0 <= (mget km (gt x.edges li).railway).getD default /\ (mget km (gt x.edges li).railway).getD default <= 10000 * ((j + 1 : Nat) : Int) := by
     cases hg : mget km (gt x.edges li).railway with
     | none => exact ⟨Int.le_refl _, by show (0 : Int) <= _; omega⟩
     | some v => exact hkm _ _ hg
    have q1 := hR.l1
    have q2 := hR.l2
    rw [z2 ⟨l0, l1⟩, z2 ⟨l0, l1⟩, z2 ⟨l0, l1⟩, z2 ⟨ry0, by omega⟩, z2 ⟨ry0, by omega⟩, z2 ⟨ry0, by omega⟩, hR.k _ ry0 (by omega), W_id (x := _ + (gt x.edges li).km) (by omega) (by omega), W_id (by omega) (by omega)]
    have := ih (j + 1 + 1) (mset km (gt x.edges li).railway ((mget km (gt x.edges li).railway).getD default + (gt x.edges li).km)) (zu kl (gt x.edges li).railway ((mget km (gt x.edges li).railway).getD default + (gt x.edges li).km)) (zu ul (gt x.edges li).railway true) (by omega) (by omega) (fun r v hv => by
     rw [z6h] at hv
     split at hv
     ·have := Option.some.inj hv
      omega
     ·have := hkm r v hv
      omega) (by omega) ⟨by rw [z0e]; exact q1, by rw [z0e]; exact q2, fun r h0 h1 => by
       rw [zt _ _ _ _ ry0 (by omega) h0, z6h]
       split
       ·rfl
       ·exact hR.k r h0 h1, fun r h0 h1 => by
       rw [zt _ _ _ _ ry0 (by omega) h0, z6h]
       split
       ·rfl
       ·exact hR.u r h0 h1⟩
    exact this
   ·have hc : ¬ decide (((j + 1 : Nat) : Int) < (rt.length : Int)) = true := by simp; omega
    rw [if_neg hc, if_neg hc]
    exact y4c φ hR φ 0 []
 have hN : z10 φ x rt = zo φ φ rt 1 x [] [] (zg x) (z1f x) := by
  unfold z10
  rw [z03 _ (by omega), Option.bind_some, if_neg (by simp [hn])]
  refine zh (fun n i (_ : Unit) => z0q φ n rt (rt.length : Int) i rt x x [] []) rt.length (fun _ _ => True) (fun o => o = zo φ φ rt 1 x [] [] (zg x) (z1f x)) ?_ ?_ φ () trivial (by omega)
  ·intro n i _ hi _ hs
   obtain ⟨h1, h2⟩ := hr _ (z4a (l := rt) (i := (i : Int)) (by omega) (by omega))
   rw [z0q, if_pos (by simp; omega), z2 ⟨by omega, by omega⟩, if_neg (by simp; omega), W_id (by omega) (by omega)]
   exact hs () trivial
  ·intro n _ _
   rw [z0q, if_neg (by simp), z2 (mk_t _ _ (by omega) (by omega) (by omega)), zaz φ x rt [] hx (by omega)]
 have hRf : zaa φ x rt = z2l φ φ rt 0 x (List.replicate (16 : Int).toNat (default : Int)) (List.replicate (16 : Int).toNat (default : Bool)) := by
  unfold zaa
  rw [z7g φ (by omega), Option.bind_some, if_neg (by simp [hn])]
  refine zh (fun n i (_ : Unit) => z4q φ n rt i x) rt.length (fun _ _ => True) (fun o => o = z2l φ φ rt 0 x (List.replicate (16 : Int).toNat (default : Int)) (List.replicate (16 : Int).toNat (default : Bool))) ?_ ?_ φ () trivial (by omega)
  ·intro n i _ hi _ hs
   obtain ⟨h1, h2⟩ := hr _ (z4a (l := rt) (i := (i : Int)) (by omega) (by omega))
   unfold z4q z4t
   rw [if_pos (by simp; omega), z2 ⟨by omega, by omega⟩, z3g, W_id (x := (x.places.length : Int) - 1) (by omega) (by omega), Option.bind_some, Option.bind_some, if_neg (by simp; exact zc4.2 ⟨h1, by omega⟩), W_id (by omega) (by omega)]
   exact hs () trivial
  ·intro n _ _
   rw [z4q, if_neg (by simp), z2 (mk_t _ _ (by omega) (by omega) (by omega)), z2 (mk_t _ _ (by omega) (by omega) (by omega))]
 rw [hN, hRf]
 refine (walk φ 1 [] _ _ (by omega) (by omega) (fun r v hv => by simp [mget] at hv) (by omega) ⟨rfl, rfl, fun r h0 h1 => ?_, fun r h0 h1 => ?_⟩).symm
 ·rw [z6g _ _ _ h0 (by omega)]; rfl
 ·rw [z6g _ _ _ h0 (by omega)]; rfl
theorem yao (φ : Nat) (s : List z2d) : ∀ (n : Nat) (k i : Int), z6l φ n s k i = z1t φ n k s (s.length : Int) i := by
 intro n
 induction n with
 | zero => intro k i; rfl
 | succ n ih => intro k i; rw [z6l, z1t, ih]
theorem ya0 (φ : Nat) (hφ : 60000000 < φ) (x : z6) (a b : Int) : zdm φ x a b = z27 φ x a b := by
 unfold zdm z27
 rcases y4a φ hφ x a b with ⟨r, h1, h2, h3, h4, h5⟩ | ⟨e, e', r, r', h1, h2, h3, h4⟩
 ·rw [h1, h2, Option.bind_some, Option.bind_some, if_neg (by simp), if_neg (by simp), y0u φ hφ h3 h4 h5]
  congr 1
  funext y
  exact yao φ y.1 φ 0 0
 ·rw [h3, h4, Option.bind_some, Option.bind_some, if_pos (by simpa using h2), if_pos (by simpa using h1)]
theorem Km_R (φ : Nat) (hφ : 60000000 < φ) (p : Pool) {l : List zb} (hl : FewL l) (w : Int) (s : Span) : zon φ p l w s = zgm φ p l w s := by
 have hf : ∀ a b, ∃ k, z27 φ p.network a b = some (k, ()) /\ 0 <= k /\ k <= 10000000000000 := zpa φ hφ p.network
 obtain ⟨f, hf⟩ : ∃ f : Int -> Int -> Int, ∀ a b, z27 φ p.network a b = some (f a b, ()) /\ 0 <= f a b /\ f a b <= 10000000000000 := ⟨fun a b => (hf a b).choose, fun a b => (hf a b).choose_spec⟩
 rw [yg4 φ hφ p hl hf]
 unfold zon za9
 by_cases hc : z06 p = 0
 case neg => rw [zkg φ (by omega) hc, Option.bind_some, if_pos (by simpa using hc), if_pos hc]
 rw [zr0 φ (by omega) hc hl, Option.bind_some, if_neg (by simp), if_neg (fun h : z06 p ≠ 0 => h hc), Option.bind_some]
 by_cases hs : zgq p w s
 case neg => rw [if_pos (by unfold zgq at hs; simp; omega), if_neg hs]
 rw [if_neg (by unfold zgq at hs; simp; omega), if_pos hs, ztm φ (by omega) hc hl, Option.bind_some]
 have htl := z6e (p := p) hl.len w
 generalize z5t p l w = t at *
 have key : ∀ (n i : Nat) (acc : Int), t.length < n + i -> i <= t.length -> 0 <= acc -> acc <= 10000000000000 * (i : Int) -> z69 φ n acc (t.map rE) ((i + 1 : Nat) : Int) p s = some (acc + zhd f s (t.drop i), 0, ()) := by
  intro n
  induction n with
  | zero =>
   intro i acc h1 h2 h3 h4
   exfalso; omega
  | succ n ih =>
   intro i acc h1 h2 h3 h4
   by_cases hi : i + 1 < t.length
   ·have hWm : W (((i + 1 : Nat) : Int) - 1) = (i : Int) := by rw [W_id (by omega) (by omega)]; omega
    have hWp : W (((i + 1 : Nat) : Int) + 1) = ((i + 1 + 1 : Nat) : Int) := by rw [W_id (by omega) (by omega)]; omega
    obtain ⟨hf1, hf2, hf3⟩ := hf (gt t (i : Int)).visit.place (gt t ((i + 1 : Nat) : Int)).visit.place
    have hd : t.drop (i + 1) = gt t ((i + 1 : Nat) : Int) :: t.drop (i + 2) := zhs t (i + 1) hi
    have ek : zhd f s (t.drop i) = (if s.from_ <= (gt t (i : Int)).visit.early /\ (gt t ((i + 1 : Nat) : Int)).visit.early <= s.to then f (gt t (i : Int)).visit.place (gt t ((i + 1 : Nat) : Int)).visit.place else 0) + zhd f s (t.drop (i + 1)) := by
     rw [zim t i hi, hd]; rfl
    have m0 : (0 : Int) <= (i : Int) /\ (i : Int) < ((t.map rE).length : Int) := ⟨by omega, by simp; omega⟩
    have m1 : (0 : Int) <= ((i + 1 : Nat) : Int) /\ ((i + 1 : Nat) : Int) < ((t.map rE).length : Int) := ⟨by omega, by simp; omega⟩
    have hcd : ((decide ((s.from_ : Int) <= (rE (gt t (i : Int))).time)) && (decide (((rE (gt t ((i + 1 : Nat) : Int))).time : Int) <= s.to))) = decide (s.from_ <= (gt t (i : Int)).visit.early /\ (gt t ((i + 1 : Nat) : Int)).visit.early <= s.to) := by
     rw [Bool.eq_iff_iff, Bool.and_eq_true, decide_eq_true_iff, decide_eq_true_iff, decide_eq_true_iff]
     exact Iff.rfl
    rw [z69, if_pos (by simp; omega), hWm, z2 m0, z2 (fun _ => m1), zh9 rE t (by omega) (by omega), zh9 rE t (i := ((i + 1 : Nat) : Int)) (by omega) (by omega), hWp, ek, hcd]
    by_cases hcond : s.from_ <= (gt t (i : Int)).visit.early /\ (gt t ((i + 1 : Nat) : Int)).visit.early <= s.to
    ·rw [if_pos (decide_eq_true hcond), if_pos hcond, z2 m0, z2 m1, ya0 φ hφ]
     show (z27 φ p.network (gt t (i : Int)).visit.place (gt t ((i + 1 : Nat) : Int)).visit.place).bind _ = _
     rw [hf1, Option.bind_some, W_id (x := acc + _) (by omega) (by omega), ih (i + 1) _ (by omega) (by omega) (by omega) (by omega)]
     congr 2
     omega
    ·rw [if_neg (by simpa using hcond), if_neg hcond, ih (i + 1) acc (by omega) (by omega) h3 (by omega)]
     congr 2
     omega
   ·rw [z69, if_neg (by simp; omega)]
    have : zhd f s (t.drop i) = 0 := by
     have hdl : (t.drop i).length <= 1 := by rw [List.length_drop]; omega
     match hq : t.drop i, hdl with
     | [], _ => rfl
     | [a], _ => rfl
     | a :: b :: q, h => simp at h
    rw [this, Int.add_zero]
 have := key φ 0 0 (by omega) (by omega) (by omega) (by omega)
 rw [List.drop_zero, Int.zero_add] at this
 exact this
end Px
end
section
namespace Px
open Go
set_option linter.unusedVariables false
set_option linter.unusedSimpArgs false
theorem zsp (φ : Nat) (p : Pool) (l : List zb) (w : Int) (s : Span) : (z4b φ).F (p, l, w, s, ()) = z3o φ p l w s := rfl
theorem zmz (x : Tup TT [30, 38, 0, 25]) (h : ycz TV 30 [30, 38, 0, 25] x) : ∃ φ, (z4b φ).F x = some (true, ()) := by
 obtain ⟨p, l, w, s, _⟩ := x
 change List zb at l
 change Pool at p
 change Int at w
 change Span at s
 suffices key : ∃ φ, z3o φ p l w s = some (true, ()) by
  obtain ⟨φ, h⟩ := key
  exact ⟨φ, (zsp φ p l w s).trans h⟩
 suffices key : ∀ φ : Nat, 60000000 < φ -> zj8 φ = some (true, ()) -> z3o φ p l w s = some (true, ()) from ⟨100000000, key _ (by omega) ygv⟩
 intro φ hφ hsane
 unfold z3o
 obtain ⟨bf, hbf, hfew⟩ := yfk φ (by omega) p l
 rw [hsane, Option.bind_some, if_neg (by simp), hbf, Option.bind_some]
 cases bf with
 | false => rw [if_pos (by simp)]
 | true =>
 obtain ⟨hl, hlen, _⟩ := hfew rfl
 rw [if_neg (by simp), ye7 φ (by omega) p hl, Km_R φ hφ p hl, yf1 φ (by omega) p hl]
 obtain ⟨x, e, hx, b1, b2, b3⟩ := ybf φ (by omega) p hl
 obtain ⟨f, hf⟩ : ∃ f : Int -> Int -> Int, ∀ a b, z27 φ p.network a b = some (f a b, ()) /\ 0 <= f a b /\ f a b <= 10000000000000 := ⟨fun a b => (zpa φ hφ p.network a b).choose, fun a b => (zpa φ hφ p.network a b).choose_spec⟩
 have hK := yg4 φ hφ p hl hf w s
 generalize (if z06 p ≠ 0 then (0, z06 p, ()) else if zgq p w s then (zhd f s (z5t p l w), 0, ()) else (0, 1, ())) = kk at hK
 have hT := y2q φ (by omega) p hl w
 have htl : (if z06 p = 0 /\ 0 <= w /\ w < (p.fleet.wagons.length : Int) then (z5t p l w).map (·.visit) else []).length <= 2000 := by
  have := z6e (p := p) hl.len w
  split
  ·rw [List.length_map]; exact this
  ·simp
 generalize (if z06 p = 0 /\ 0 <= w /\ w < (p.fleet.wagons.length : Int) then (z5t p l w).map (·.visit) else []) = v at hT htl
 rw [hx, Option.bind_some, Option.bind_some, hK, Option.bind_some, Option.bind_some, y8o φ x (by omega) (by omega) (by omega) ⟨by omega, by omega, by omega⟩, Option.bind_some, hT, gz_t (by simp), Option.bind_some, Option.bind_some, gz_t (by simp), zr4 φ v (by omega) (by omega), Option.bind_some]
 simp
end Px
end
