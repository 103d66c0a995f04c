/- A part of the proof of sightOrder_holds. Conditions: none. -/
import Derived.Test.YtlejlmkoalncgaaZoe
section
namespace Px
open Go
set_option linter.unusedVariables false
set_option linter.unusedSimpArgs false
theorem zi1 {n b : Nat} (h : n ≤ 100000) (hb : b ≤ 1000) : fits n b := by
  unfold fits
  have : n * b ≤ 100000 * 1000 := Nat.mul_le_mul h hb
  omega
def z5l (r : z7) (place time : Int) : z1i := ⟨r.item.wagon, place, r.ref, false, time, time⟩
/-- The events of a report that counts. -/
def evs (p : Pool) (r : z7) (i : Int) : List z1 :=
  if r.item.kind = 1 then [⟨z5l r (gt p.readers r.item.other).place r.item.from_, i, false, false, r.item.other⟩]
  else if r.item.kind = 2 ∨ r.item.kind = 9 then [⟨z5l r r.item.place r.item.from_, i, false, true, -1⟩, ⟨z5l r r.item.place r.item.to, i, true, true, -1⟩]
  else if r.item.kind = 3 ∨ r.item.kind = 4 ∨ r.item.kind = 6 ∨ r.item.kind = 7 then [⟨z5l r r.item.place r.item.from_, i, false, false, -1⟩] else []
theorem znn (φ : Nat) (p : Pool) (r : z7) (i : Int) (h : r.item.kind = 1 → 0 ≤ r.item.other ∧ r.item.other < (p.readers.length : Int)) : z0f φ p r i = some (evs p r i, ()) := by
  by_cases h1 : r.item.kind = 1
  · have h' := h h1
    simp [z0f, evs, h1, z2 h', zn, z5l]
  by_cases h2 : r.item.kind = 2
  · simp [z0f, evs, h2, zw, z1o, z1p, zn, z5l]
  by_cases h9 : r.item.kind = 9
  · simp [z0f, evs, h9, zw, z1o, z1p, zn, z5l]
  by_cases h3 : r.item.kind = 3
  · simp [z0f, evs, h3, zw, zx, zn, z5l]
  by_cases h4 : r.item.kind = 4
  · simp [z0f, evs, h4, zw, zx, zn, z5l]
  by_cases h6 : r.item.kind = 6
  · simp [z0f, evs, h6, zw, zx, zn, z5l]
  by_cases h7 : r.item.kind = 7
  · simp [z0f, evs, h7, zw, zx, zn, z5l]
  · simp [z0f, evs, h1, h2, h9, h3, h4, h6, h7, zw, zx]
theorem z99 {p : Pool} {r : z7} {i : Int} {x : z1} (h : x ∈ evs p r i) : x.report = i ∧ x.visit.wagon = r.item.wagon ∧ x.visit.ref = r.ref := by
  unfold evs at h
  split at h
  · simp only [List.mem_singleton] at h; subst h; exact ⟨rfl, rfl, rfl⟩
  · split at h
    · simp only [List.mem_cons, List.not_mem_nil, or_false] at h
      rcases h with rfl | rfl <;> exact ⟨rfl, rfl, rfl⟩
    · split at h
      · simp only [List.mem_singleton] at h; subst h; exact ⟨rfl, rfl, rfl⟩
      · cases h
theorem zqn (p : Pool) (r : z7) (i : Int) : (evs p r i).length ≤ 2 := by
  unfold evs
  split
  · simp
  · split
    · simp
    · split <;> simp
theorem y0v (p : Pool) (r : z7) (i : Int) : (evs p r i).Pairwise fun a b => a.report ≠ b.report ∨ a.second ≠ b.second := by
  unfold evs
  split
  · simp
  · split
    · simp
    · split <;> simp
/-- The numbers of the reports that count. -/
def cntN (p : Pool) (l : List z7) (n : Nat) : List Int := ((List.range n).filter fun (i : Nat) => z9y p (gt l (i : Int)).item).map fun (i : Nat) => (i : Int)
def cnt (p : Pool) (l : List z7) : List Int := cntN p l l.length
theorem zl7 (p : Pool) (l : List z7) (n : Nat) : cntN p l (n + 1) = cntN p l n ++ (bif z9y p (gt l (n : Int)).item then [(n : Int)] else []) := by
  unfold cntN
  rw [List.range_succ, List.filter_append, List.map_append]
  congr 1
  cases h : z9y p (gt l (n : Int)).item <;> simp [h]
theorem zfk (p : Pool) (l : List z7) (n : Nat) : (cntN p l n).length ≤ n := by
  unfold cntN
  rw [List.length_map]
  exact Nat.le_trans (List.length_filter_le _ _) (by simp)
theorem zrs {p : Pool} {l : List z7} {i : Int} (h : i ∈ cnt p l) : 0 ≤ i ∧ i < (l.length : Int) ∧ z9y p (gt l i).item = true := by
  simp only [cnt, cntN, List.mem_map, List.mem_filter, List.mem_range] at h
  obtain ⟨n, ⟨h1, h2⟩, rfl⟩ := h
  exact ⟨by omega, by omega, h2⟩
theorem y0e (p : Pool) (l : List z7) : (cnt p l).Pairwise (· < ·) := by
  unfold cnt cntN
  rw [List.pairwise_map]
  refine (List.pairwise_lt_range.filter _).imp ?_
  intro a b h
  omega
/-- A list of reports that the laws admit. -/
structure FewL (l : List z7) : Prop where
  len : l.length ≤ 1000
  parts : ∀ r ∈ l, r.item.parts.length ≤ 1000
theorem FewL.gt {l : List z7} (h : FewL l) {i : Int} (h0 : 0 ≤ i) (hi : i < (l.length : Int)) : (Px.gt l i).item.parts.length ≤ 1000 := h.parts _ (z8e h0 hi)
theorem zpi (φ : Nat) (hφ : 800000 < φ) {p : Pool} (hc : z2d p = 0) {l : List z7} (hl : FewL l) : z7c φ p l = some (cnt p l, ()) := by
  have h1 := hl.len
  unfold z7c
  refine zm (fun n i acc => z1u φ n l (l.length : Int) i p acc) l.length (fun i acc => acc = cntN p l i) (fun o => o = some (cnt p l, ())) ?_ ?_ φ [] rfl (by omega)
  · intro n i acc hi hacc hs
    rw [z1u, if_pos (by simp; omega), z2 ⟨by omega, by omega⟩, zlg φ hφ hc (hl.gt (by omega) (by omega)), Option.bind_some, W_id (by omega) (by omega)]
    have hs' := hs (cntN p l (i + 1)) rfl
    rw [zl7] at hs'
    cases h : z9y p (gt l (i : Int)).item with
    | true =>
      rw [h] at hs'
      rw [if_pos (by rfl), z2 (zi1 (by have := zfk p l i; rw [hacc]; simp; omega) (by omega)), hacc]
      exact hs'
    | false =>
      rw [h] at hs'
      simp only [cond_false, List.append_nil] at hs'
      rw [if_neg (by decide), hacc]
      exact hs'
  · intro n acc hacc
    rw [z1u, if_neg (by simp), hacc]; rfl
/-- The events of a wagon, as they were collected. -/
def unsC (p : Pool) (l : List z7) (c : List Int) (w : Int) : List z1 := c.flatMap fun i => if (gt l i).item.wagon = w then evs p (gt l i) i else []
def uns (p : Pool) (l : List z7) (w : Int) : List z1 := unsC p l (cnt p l) w
theorem zck (p : Pool) (l : List z7) (w : Int) : ∀ c : List Int, (unsC p l c w).length ≤ 2 * c.length
  | [] => by simp [unsC]
  | i :: c => by
    have := zck p l w c
    have h2 := zqn p (gt l i) i
    unfold unsC at *
    rw [List.flatMap_cons, List.length_append, List.length_cons]
    split
    · omega
    · simp only [List.length_nil]; omega
theorem ztr {a b : z1} (h : a.report ≠ b.report ∨ a.second ≠ b.second) : cfEv a b < 0 ∨ cfEv b a < 0 := by
  rw [z8q, z8q]
  have h2 : a.second ≠ b.second → ordB a.second ≠ ordB b.second := by
    cases a.second <;> cases b.second <;> simp [ordB]
  by_cases hs : a.second = b.second
  · have h3 := h.resolve_right (fun q => q hs)
    rw [hs]; omega
  · have := h2 hs
    omega
theorem zx5 (p : Pool) (l : List z7) (w : Int) : (uns p l w).Pairwise fun a b => a.report ≠ b.report ∨ a.second ≠ b.second := by
  unfold uns unsC
  rw [List.pairwise_flatMap]
  refine ⟨fun i hi => ?_, (y0e p l).imp ?_⟩
  · split
    · exact y0v _ _ _
    · exact List.Pairwise.nil
  · intro i j hij x hx y hy
    split at hx
    · split at hy
      · rw [(z99 hx).1, (z99 hy).1]
        exact .inl (by omega)
      · cases hy
    · cases hx
theorem zp2 {p : Pool} {l : List z7} (hl : l.length ≤ 1000) {w : Int} {x : z1} (h : x ∈ uns p l w) : 0 ≤ x.report ∧ x.report < (l.length : Int) ∧ x.visit.wagon = w ∧ z9y p (gt l x.report).item = true ∧ x ∈ evs p (gt l x.report) x.report := by
  simp only [uns, unsC, List.mem_flatMap] at h
  obtain ⟨i, hi, hx⟩ := h
  obtain ⟨h1, h2, h3⟩ := zrs hi
  split at hx
  · rename_i hw
    obtain ⟨r1, r2, r3⟩ := z99 hx
    rw [r1]
    exact ⟨h1, h2, by rw [r2, hw], h3, hx⟩
  · cases hx
def ltEv (a b : z1) : Bool := decide (cfEv a b < 0)
def srt (p : Pool) (l : List z7) (w : Int) : List z1 := z6t ltEv (uns p l w)
theorem zq8 {p : Pool} {l : List z7} (hl : l.length ≤ 1000) (w : Int) : sortEv (uns p l w) = some (srt p l w) := by
  refine zub (fun y hy => ?_) ?_ ((zx5 p l w).imp fun h => ztr h)
  · obtain ⟨h1, h2, _⟩ := zp2 hl hy
    simp only [okEv, decide_eq_true_eq]; omega
  · have := zck p l w (cnt p l)
    have h2 := zfk p l l.length
    unfold uns cnt at *
    omega
/-- Stays cover the gaps of a z90. -/
def covM (e : z1) (m : List (Int × Bool)) : List (Int × Bool) := if (e.stay && e.second) = true then mdel m e.report else if e.stay = true then mset m e.report true else m
def zbv (e : z1) (b : Bool) : z1 := ⟨⟨e.visit.wagon, e.visit.place, e.visit.ref, b, e.visit.early, e.visit.late⟩, e.report, e.second, e.stay, e.reader⟩
def zf0 : List z1 → List (Int × Bool) → List z1
  | [], _ => []
  | e :: t, m => zbv e (decide ((0 : Int) < ((covM e m).length : Int))) :: zf0 t (covM e m)
theorem zl1 : ∀ (t : List z1) (m : List (Int × Bool)), (zf0 t m).length = t.length
  | [], _ => rfl
  | e :: t, m => by simp [zf0, zl1 t]
def z90 (p : Pool) (l : List z7) (w : Int) : List z1 := zf0 (srt p l w) []
theorem zra {α : Type} (a : List α) (x y : α) (b : List α) : z05 (a ++ x :: b) (a.length : Int) y = a ++ y :: b := by
  simp [z05]
theorem zx1 {α : Type} [Inhabited α] (a : List α) (x : α) (b : List α) : gt (a ++ x :: b) (a.length : Int) = x := by
  simp [gt]
theorem zqh (φ : Nat) (k : Int → Int → List (List z1) → Option ((List (List z1)) × Unit)) (x19 x20 x24 : Int) (x23 : List (List z1)) :
    ∀ (n : Nat) (done todo : List z1) (m : List (Int × Bool)), todo.length < n → done.length + todo.length ≤ 100000 →
      z0j φ k n ((done.length + todo.length : Nat) : Int) (done.length : Int) x19 x20 (done ++ todo) m x23 x24 = k x19 (W (x20 + 1)) (z05 x23 x24 (done ++ zf0 todo m)) := by
  intro n
  induction n with
  | zero => intro d t m h _; omega
  | succ n ih =>
    intro d t m hn hl
    cases t with
    | nil =>
      rw [z0j, if_neg (by simp)]
      rfl
    | cons e t =>
      simp only [List.length_cons] at hn hl
      have hin : (0 : Int) ≤ (d.length : Int) ∧ (d.length : Int) < ((d ++ e :: t).length : Int) := ⟨by omega, by simp; omega⟩
      have key : ∀ m', z2e φ (z0j φ k n) (d.length : Int) ((d.length + (e :: t).length : Nat) : Int) (d.length : Int) x19 x20 (d ++ e :: t) m' x23 x24 =
          k x19 (W (x20 + 1)) (z05 x23 x24 (d ++ zbv e (decide ((0 : Int) < (m'.length : Int))) :: zf0 t m')) := by
        intro m'
        unfold z2e
        rw [z2 hin, zx1, W_id (by omega) (by omega), zra]
        have := ih (d ++ [zbv e (decide ((0 : Int) < (m'.length : Int)))]) t m' (by omega) (by simp; omega)
        simp only [List.length_append, List.length_cons, List.length_nil, List.append_assoc, List.cons_append, List.nil_append] at this
        rw [show ((d.length + (e :: t).length : Nat) : Int) = ((d.length + (0 + 1) + t.length : Nat) : Int) by simp; omega, show (d.length : Int) + 1 = ((d.length + (0 + 1) : Nat) : Int) by omega]
        exact this
      rw [z0j, if_pos (by simp; omega), z2 hin, z2 (fun _ => hin), zx1]
      have hg : ∀ m', covM e m = m' → zf0 (e :: t) m = zbv e (decide ((0 : Int) < (m'.length : Int))) :: zf0 t m' := fun m' hm => by subst hm; rfl
      by_cases h1 : (e.stay && e.second) = true
      · rw [if_pos h1, z2 hin, key, hg _ (if_pos h1)]
      · rw [if_neg h1, z2 hin]
        by_cases h2 : e.stay = true
        · rw [if_pos h2, z2 hin, key, hg (mset m e.report true) (by unfold covM; rw [if_neg h1, if_pos h2])]
        · rw [if_neg h2, key, hg m (by unfold covM; rw [if_neg h1, if_neg h2])]
theorem zgk (φ : Nat) (hφ : 800000 < φ) {p : Pool} (hc : z2d p = 0) {l : List z7} (hl : FewL l) : z4u φ p l = some ((List.range p.fleet.wagons.length).map fun (w : Nat) => z90 p l (w : Int), ()) := by
  have h1 := hl.len
  obtain ⟨_, hf, _⟩ := z95 hc
  obtain ⟨_, f2, _⟩ := z5z hf
  have hcl := zfk p l l.length
  unfold z4u
  rw [z2 (mk_t _ _ (by omega) (by omega) (by omega)), zpi φ hφ hc hl, Option.bind_some]
  generalize hn0 : p.fleet.wagons.length = n0 at *
  have second : ∀ out : List (List z1), out.length = n0 → (∀ w : Nat, w < n0 → gt out (w : Int) = uns p l w) → z11 φ φ (out.length : Int) 0 out = some ((List.range n0).map fun (w : Nat) => z90 p l (w : Int), ()) := by
    intro out ho hu
    rw [ho]
    refine zm (fun n i o => z11 φ n (n0 : Int) i o) n0 (fun i o => o.length = n0 ∧ ∀ w : Nat, w < n0 → gt o (w : Int) = if w < i then z90 p l w else uns p l w) (fun o => o = some ((List.range n0).map fun (w : Nat) => z90 p l (w : Int), ())) ?_ ?_ φ out ⟨ho, fun w hw => by rw [hu w hw, if_neg (by omega)]⟩ (by omega)
    · intro n i o hi ⟨ho1, ho2⟩ hs
      rw [z11, if_pos (by simp; omega), z2 ⟨by omega, by omega⟩, z2 ⟨by omega, by omega⟩, z2 rfl, ho2 i hi, if_neg (by omega), zq8 h1, Option.bind_some]
      have hsl : (srt p l (i : Int)).length ≤ 2000 := by
        rw [srt, (z16 _ _).length_eq]
        have := zck p l i (cnt p l)
        unfold uns cnt at *
        omega
      have := zqh φ (z11 φ n) (n0 : Int) (i : Int) (i : Int) o φ [] (srt p l (i : Int)) [] (by omega) (by simp; omega)
      simp only [List.length_nil, Nat.zero_add, List.nil_append] at this
      refine this.trans ?_
      rw [W_id (by omega) (by omega)]
      refine hs _ ⟨by rw [z1j]; exact ho1, fun w hw => ?_⟩
      rw [z0y _ _ _ _ (by omega) (by omega) (by omega)]
      by_cases e : w = i
      · subst e; rw [if_pos rfl, if_pos (by omega)]; rfl
      · rw [if_neg (by omega), ho2 w hw]
        by_cases h2 : w < i
        · rw [if_pos h2, if_pos (by omega)]
        · rw [if_neg h2, if_neg (by omega)]
    · intro n o ⟨ho1, ho2⟩
      rw [z11, if_neg (by simp)]
      congr 2
      refine List.ext_getElem (by simp [ho1]) fun w hw hw2 => ?_
      have := ho2 w (by omega)
      rw [z44 hw, if_pos (by omega)] at this
      simpa using this
  refine zm (fun n i o => z1t φ n l (cnt p l) ((cnt p l).length : Int) i p o) (cnt p l).length (fun i o => o.length = n0 ∧ ∀ w : Nat, w < n0 → gt o (w : Int) = unsC p l ((cnt p l).take i) w) (fun o => o = some ((List.range n0).map fun (w : Nat) => z90 p l (w : Int), ())) ?_ ?_ φ _ ⟨by simp, fun w hw => ?_⟩ (by unfold cnt; omega)
  · intro n i o hi ⟨ho1, ho2⟩ hs
    have hmem : gt (cnt p l) (i : Int) ∈ cnt p l := z8e (by omega) (by omega)
    obtain ⟨c1, c2, c3⟩ := zrs hmem
    have hI := zl2 hc (hl.gt c1 c2) c3
    have hcn : (cnt p l).length ≤ 1000 := by unfold cnt; omega
    rw [z1t, if_pos (by simp; omega), z2 ⟨by omega, by omega⟩, z2 ⟨c1, c2⟩, znn φ p _ _ hI.read, Option.bind_some]
    have hW : W ((i : Int) + 1) = (i : Int) + 1 := W_id (by omega) (by omega)
    have htake : ∀ w, unsC p l ((cnt p l).take (i + 1)) w = unsC p l ((cnt p l).take i) w ++ (if (gt l (gt (cnt p l) (i : Int))).item.wagon = w then evs p (gt l (gt (cnt p l) (i : Int))) (gt (cnt p l) (i : Int)) else []) := by
      intro w
      rw [z10 _ _ hi]
      simp [unsC]
    generalize gt (cnt p l) (i : Int) = ci at *
    generalize hev : evs p (gt l ci) ci = E at *
    have hE : E.length ≤ 2 := by rw [← hev]; exact zqn _ _ _
    simp only []
    by_cases h0 : 0 < E.length
    · have hkind : (gt l ci).item.kind ≤ 9 := by
        rcases Int.lt_or_le 9 (gt l ci).item.kind with h | h
        · exfalso
          have : E = [] := by
            rw [← hev]; unfold evs
            rw [if_neg (by omega), if_neg (by omega), if_neg (by omega)]
          rw [this] at h0; simp at h0
        · exact h
      have hwg := hI.wagon hkind
      rw [hn0] at hwg
      obtain ⟨w0, hw0⟩ : ∃ w0 : Nat, (gt l ci).item.wagon = (w0 : Int) := ⟨(gt l ci).item.wagon.toNat, by omega⟩
      rw [hw0] at hwg htake ⊢
      have hwg' : (0 : Int) ≤ (w0 : Int) ∧ (w0 : Int) < (o.length : Int) := ⟨by omega, by omega⟩
      have hul := zck p l w0 ((cnt p l).take i)
      rw [if_pos (by simpa using h0), z2 ⟨c1, c2⟩, z2 hwg', z2 hwg', z2 trivial, ho2 w0 (by omega),
        z2 (zi1 (by rw [List.length_take] at hul; omega) (by omega)), z2 hwg', z2 trivial, hW]
      refine hs _ ⟨by rw [z1j]; exact ho1, fun w hw => ?_⟩
      rw [z0y _ _ _ _ (by omega) (by omega) (by omega), htake]
      by_cases e : (w : Int) = (w0 : Int)
      · rw [if_pos e, e, if_pos rfl]
      · rw [if_neg e, if_neg (fun q => e q.symm), List.append_nil, ho2 w hw]
    · have hnil : E = [] := List.eq_nil_of_length_eq_zero (by omega)
      rw [if_neg (by simpa using h0), hW]
      refine hs _ ⟨ho1, fun w hw => ?_⟩
      rw [htake, hnil, ho2 w hw]
      split <;> simp
  · intro n o ⟨ho1, ho2⟩
    rw [z1t, if_neg (by simp)]
    refine second o ho1 fun w hw => ?_
    rw [ho2 w hw, List.take_length]; rfl
  · rw [z8i _ _ _ (by omega) (by simp; omega)]
    simp [unsC]
    rfl
theorem zl9 {p : Pool} {l : List z7} {w : Int} (h0 : 0 ≤ w) (h : w < (p.fleet.wagons.length : Int)) : gt ((List.range p.fleet.wagons.length).map fun (w : Nat) => z90 p l (w : Int)) w = z90 p l w := by
  obtain ⟨n, rfl⟩ : ∃ n : Nat, w = (n : Int) := ⟨w.toNat, by omega⟩
  rw [z44 (by simp; omega)]
  simp
end Px
end
section
namespace Px
open Go
set_option linter.unusedVariables false
set_option linter.unusedSimpArgs false
theorem zqu (m : List (Int × Int)) (a v c : Int) : mget (mset m a v) c = if c = a then some v else mget m c := by
  induction m with
  | nil =>
    show (bif c == a then some v else none) = _
    by_cases h : c = a
    · rw [if_pos h]; simp [h]
    · rw [if_neg h]
      have : (c == a) = false := by simpa using h
      rw [this]; rfl
  | cons p m ih =>
    obtain ⟨k, w⟩ := p
    show mget (bif a == k then (a, v) :: m else (k, w) :: mset m a v) c = _
    have e1 : mget ((k, w) :: m) c = bif c == k then some w else mget m c := rfl
    by_cases h1 : a = k
    · subst h1
      simp only [beq_self_eq_true, cond_true]
      show (bif c == a then some v else mget m c) = _
      rw [e1]
      by_cases h : c = a
      · rw [if_pos h]; simp [h]
      · rw [if_neg h]
        have : (c == a) = false := by simpa using h
        rw [this]; rfl
    · have : (a == k) = false := by simpa using h1
      rw [this]
      show (bif c == k then some w else mget (mset m a v) c) = _
      rw [ih, e1]
      by_cases h2 : c = k
      · subst h2
        have h3 : ¬ c = a := fun e => h1 e.symm
        simp [h3]
      · have : (c == k) = false := by simpa using h2
        rw [this]; rfl
theorem zpv (φ : Nat) (M : Int) (hM : 0 ≤ M) (km : List (Int × Int)) (hkm : ∀ r v, mget km r = some v → 0 ≤ v ∧ v ≤ M) (hφ : 16 < φ) : ∃ s, z0e φ φ 0 [] km = some (s, 0, ()) ∧ s.length ≤ 16 ∧ ∀ y ∈ s, 0 ≤ y.km ∧ y.km ≤ M := by
  refine zm (fun n i sh => z0e φ n i sh km) 16 (fun i sh => sh.length ≤ i ∧ ∀ y ∈ sh, 0 ≤ y.km ∧ y.km ≤ M) (fun o => ∃ s, o = some (s, 0, ()) ∧ s.length ≤ 16 ∧ ∀ y ∈ s, 0 ≤ y.km ∧ y.km ≤ M) ?_ ?_ φ [] ⟨by simp, fun y hy => by cases hy⟩ (by omega)
  · intro n i sh hi ⟨h1, h2⟩ hs
    rw [z0e, if_pos (by simp; omega), W_id (by omega) (by omega)]
    cases hg : mget km (i : Int) with
    | none =>
      rw [if_neg (by simp)]
      exact hs _ ⟨by omega, h2⟩
    | some v =>
      rw [if_pos (by rfl), z2 (zi1 (by simp; omega) (by omega))]
      refine hs _ ⟨by simp; omega, fun y hy => ?_⟩
      rcases List.mem_append.1 hy with hy | hy
      · exact h2 y hy
      · rw [List.mem_singleton.1 hy]; exact hkm _ _ hg
  · intro n sh ⟨h1, h2⟩
    rw [z0e, if_neg (by simp)]
    exact ⟨sh, rfl, h1, h2⟩
theorem zrz (φ : Nat) (hφ : 60000000 < φ) {x : z6} (hn : z78 x = 0) {rt : List Int} (hw : Way x rt) (hl : rt.length ≤ 51200001) : ∃ s, z1w φ x rt = some (s, 0, ()) ∧ s.length ≤ 16 ∧ ∀ y ∈ s, 0 ≤ y.km ∧ y.km ≤ 512000020000 := by
  have hx := zxp hn
  have hP := hx.places
  unfold z1w
  rw [z4l _ (by omega), Option.bind_some, if_neg (by simp [hn])]
  have hr := hw.rng
  refine zm (fun n i (_ : Unit) => z1m φ n rt (rt.length : Int) i rt x x [] []) rt.length (fun _ _ => True) (fun o => ∃ s, o = some (s, 0, ()) ∧ s.length ≤ 16 ∧ ∀ y ∈ s, 0 ≤ y.km ∧ y.km ≤ 512000020000) ?_ ?_ φ () trivial (by omega)
  · intro n i _ hi _ hs
    obtain ⟨h1, h2⟩ := hr _ (z8e (l := rt) (i := (i : Int)) (by omega) (by omega))
    rw [z1m, if_pos (by simp; omega), z2 ⟨by omega, by omega⟩, if_neg (by simp; omega), W_id (by omega) (by omega)]
    exact hs () trivial
  · intro n _ _
    rw [z1m, if_neg (by simp), z2 (mk_t _ _ (by omega) (by omega) (by omega)), zbg φ x rt [] hx (by omega)]
    clear n
    have walk : ∀ (n i : Nat) (km : List (Int × Int)), 1 ≤ i → rt.length + 1 < n + i → (∀ r v, mget km r = some v → 0 ≤ v ∧ v ≤ 10000 * (i : Int)) → i ≤ rt.length + 1 →
        ∃ s, zy φ n rt i x [] km (zk x) (z1k x) = some (s, 0, ()) ∧ s.length ≤ 16 ∧ ∀ y ∈ s, 0 ≤ y.km ∧ y.km ≤ 512000020000 := by
      intro n
      induction n with
      | zero => intro i km h1 h2; 
                intro hkm h3
                exfalso; omega
      | succ n ih =>
        intro i km h1 h2 hkm h3
        by_cases hi : i < rt.length
        · obtain ⟨j, rfl⟩ : ∃ j, i = j + 1 := ⟨i - 1, by omega⟩
          have hst := hw.step j hi
          obtain ⟨r0, r1⟩ := hr _ (z8e (l := rt) (i := (j : Int)) (by omega) (by omega))
          obtain ⟨li, hli, l0, l1, _⟩ := zc3 hx r0 r1 hst
          obtain ⟨_, _, _, _, _, _, _, _, _, k0, k1⟩ := hx.ends l0 l1
          have hWm : W (((j + 1 : Nat) : Int) - 1) = (j : Int) := by rw [W_id (by omega) (by omega)]; omega
          have hli' : @mget (Nat → Int) Int ⟨beqA 2⟩ (z1k x) (upd (upd (fun _ => (default : Int)) 0 (gt rt (j : Int))) 1 (gt rt ((j + 1 : Nat) : Int))) = some li := hli
          rw [zy, if_pos (by simp; omega), hWm, z2 ⟨by omega, by omega⟩, z2 ⟨by omega, by omega⟩, hli', if_neg (by simp)]
          simp only [Option.getD_some]
          have hold : 0 ≤ (mget km (gt x.edges li).railway).getD default ∧ (mget km (gt x.edges li).railway).getD default ≤ 10000 * ((j + 1 : Nat) : Int) := by
            cases hg : mget km (gt x.edges li).railway with
            | none => exact ⟨Int.le_refl _, by show (0 : Int) ≤ _; omega⟩
            | some v => exact hkm _ _ hg
          rw [z2 ⟨l0, l1⟩, z2 ⟨l0, l1⟩, W_id (x := _ + (gt x.edges li).km) (by omega) (by omega), W_id (by omega) (by omega)]
          have := ih (j + 1 + 1) (mset km (gt x.edges li).railway ((mget km (gt x.edges li).railway).getD default + (gt x.edges li).km)) (by omega) (by omega) (fun r v hv => by
            rw [zqu] at hv
            split at hv
            · have := Option.some.inj hv
              omega
            · have := hkm r v hv
              omega) (by omega)
          exact this
        · rw [zy, if_neg (by simp; omega)]
          obtain ⟨s, h4, h5, h6⟩ := zpv φ (10000 * (i : Int)) (by omega) km hkm (by omega)
          exact ⟨s, h4, h5, fun y hy => by have := h6 y hy; omega⟩
    exact walk φ 1 [] (by omega) (by omega) (fun r v hv => by simp [mget] at hv) (by omega)
theorem zma (φ : Nat) (hφ : 60000000 < φ) (x : z6) (a b : Int) : ∃ k, z04 φ x a b = some (k, ()) ∧ 0 ≤ k ∧ k ≤ 10000000000000 := by
  obtain ⟨r, e, hr, he⟩ := zv3 φ hφ x a b
  unfold z04
  rw [hr, Option.bind_some]
  by_cases h0 : e = 0
  case neg => rw [if_pos (by simpa using h0)]; exact ⟨0, rfl, by omega, by omega⟩
  obtain ⟨hn, hw, hl⟩ := he h0
  rw [if_neg (by simp [h0])]
  obtain ⟨s, hs, hs1, hs2⟩ := zrz φ hφ hn hw hl
  rw [hs, Option.bind_some]
  refine zm (fun n i k => z2f φ n k s (s.length : Int) i) s.length (fun i k => 0 ≤ k ∧ k ≤ 512000020000 * (i : Int)) (fun o => ∃ k, o = some (k, ()) ∧ 0 ≤ k ∧ k ≤ 10000000000000) ?_ ?_ φ 0 ⟨by omega, by omega⟩ (by omega)
  · intro n i k hi ⟨h1, h2⟩ hk
    obtain ⟨h3, h4⟩ := hs2 _ (z8e (l := s) (i := (i : Int)) (by omega) (by omega))
    rw [z2f, if_pos (by simp; omega), z2 ⟨by omega, by omega⟩, W_id (x := k + _) (by omega) (by omega), W_id (by omega) (by omega)]
    exact hk _ ⟨by omega, by omega⟩
  · intro n k ⟨h1, h2⟩
    rw [z2f, if_neg (by simp)]
    exact ⟨k, rfl, h1, by omega⟩
/-- Kilometres within a span. -/
def zbc (f : Int → Int → Int) (s : Span) : List z1 → Int
  | a :: b :: l => (if s.from_ ≤ a.visit.early ∧ b.visit.early ≤ s.to then f a.visit.place b.visit.place else 0) + zbc f s (b :: l)
  | _ => 0
theorem znx {f : Int → Int → Int} {M : Int} (hM : 0 ≤ M) (hf : ∀ a b, 0 ≤ f a b ∧ f a b ≤ M) (s : Span) : ∀ t : List z1, 0 ≤ zbc f s t ∧ zbc f s t ≤ M * t.length
  | [] => ⟨by simp [zbc], by simp [zbc]⟩
  | [a] => ⟨by simp [zbc], by simp [zbc]; omega⟩
  | a :: b :: l => by
    obtain ⟨h1, h2⟩ := znx hM hf s (b :: l)
    have := hf a.visit.place b.visit.place
    have e : M * ((a :: b :: l).length : Int) = M * ((b :: l).length : Int) + M := by simp only [List.length_cons]; rw [Int.natCast_succ (n := l.length + 1), Int.mul_add, Int.mul_one]
    rw [e]
    simp only [zbc]
    split <;> omega
/-- What Km asks of its arguments. -/
def zfr (p : Pool) (w : Int) (s : Span) : Prop := 0 ≤ w ∧ w < (p.fleet.wagons.length : Int) ∧ 0 ≤ s.from_ ∧ s.from_ ≤ s.to ∧ s.to ≤ 1073741824
instance (p : Pool) (w : Int) (s : Span) : Decidable (zfr p w s) := inferInstanceAs (Decidable (_ ∧ _))
theorem zay {p : Pool} {l : List z7} (hl : l.length ≤ 1000) (w : Int) : (z90 p l w).length ≤ 2000 := by
  unfold z90
  rw [zl1, srt, (z16 _ _).length_eq]
  have := zck p l w (cnt p l)
  have := zfk p l l.length
  unfold uns cnt at *
  omega
theorem zeo {α : Type} [Inhabited α] (l : List α) (i : Nat) (h : i + 1 < l.length) : l.drop i = gt l (i : Int) :: gt l ((i + 1 : Nat) : Int) :: l.drop (i + 2) := by
  rw [zdx l i (by omega), zdx l (i + 1) h]
theorem zz7 (φ : Nat) (hφ : 60000000 < φ) (p : Pool) {l : List z7} (hl : FewL l) {f : Int → Int → Int} (hf : ∀ a b, z04 φ p.network a b = some (f a b, ()) ∧ 0 ≤ f a b ∧ f a b ≤ 10000000000000) (w : Int) (s : Span) :
    z6h φ p l w s = some (if z2d p ≠ 0 then (0, z2d p, ()) else if zfr p w s then (zbc f s (z90 p l w), 0, ()) else (0, 1, ())) := by
  unfold z6h
  rw [z3m φ (by omega), Option.bind_some]
  by_cases hc : z2d p = 0
  case neg => rw [if_pos (by simpa using hc), if_pos hc]
  rw [if_neg (by simp [hc]), if_neg (fun h : z2d p ≠ 0 => h hc)]
  by_cases hs : zfr p w s
  case neg =>
    rw [if_pos (by unfold zfr at hs; simp; omega), if_neg hs]
  rw [if_neg (by unfold zfr at hs; simp; omega), if_pos hs, zgk φ (by omega) hc hl, Option.bind_some, z2 ⟨hs.1, by simp; exact hs.2.1⟩, zl9 hs.1 hs.2.1]
  have htl := zay (p := p) hl.len w
  generalize z90 p l w = t at *
  have hb := fun n : Nat => znx (f := f) (M := 10000000000000) (by omega) (fun a b => (hf a b).2) s (t.drop n)
  have key : ∀ (n i : Nat) (acc : Int), t.length < n + i → i ≤ t.length → 0 ≤ acc → acc ≤ 10000000000000 * (i : Int) → z4t φ n acc t ((i + 1 : Nat) : Int) p s = some (acc + zbc f s (t.drop i), 0, ()) := by
    intro n
    induction n with
    | zero =>
      intro i acc h1 h2 h3 h4
      exfalso; omega
    | succ n ih =>
      intro i acc h1 h2 h3 h4
      by_cases hi : i + 1 < t.length
      · have hWm : W (((i + 1 : Nat) : Int) - 1) = (i : Int) := by rw [W_id (by omega) (by omega)]; omega
        have hWp : W (((i + 1 : Nat) : Int) + 1) = ((i + 1 + 1 : Nat) : Int) := by rw [W_id (by omega) (by omega)]; omega
        obtain ⟨hf1, hf2, hf3⟩ := hf (gt t (i : Int)).visit.place (gt t ((i + 1 : Nat) : Int)).visit.place
        have hd : t.drop (i + 1) = gt t ((i + 1 : Nat) : Int) :: t.drop (i + 2) := zdx t (i + 1) hi
        have e := zeo t i hi
        rw [← hd] at e
        have ek : zbc f s (t.drop i) = (if s.from_ ≤ (gt t (i : Int)).visit.early ∧ (gt t ((i + 1 : Nat) : Int)).visit.early ≤ s.to then f (gt t (i : Int)).visit.place (gt t ((i + 1 : Nat) : Int)).visit.place else 0) + zbc f s (t.drop (i + 1)) := by
          rw [zeo t i hi, hd]; rfl
        rw [z4t, if_pos (by simp; omega)]
        unfold z6n z6r
        rw [hWm, z2 ⟨by omega, by omega⟩, z2 ⟨by omega, by omega⟩, hWp, ek]
        by_cases hcond : s.from_ ≤ (gt t (i : Int)).visit.early ∧ (gt t ((i + 1 : Nat) : Int)).visit.early ≤ s.to
        · rw [if_pos (by simpa using hcond), if_pos hcond, hf1, Option.bind_some, W_id (x := acc + _) (by omega) (by omega), ih (i + 1) _ (by omega) (by omega) (by omega) (by omega)]
          congr 2
          omega
        · rw [if_neg (by simpa using hcond), if_neg hcond, ih (i + 1) acc (by omega) (by omega) h3 (by omega)]
          congr 2
          omega
      · rw [z4t, if_neg (by simp; omega)]
        have : zbc f s (t.drop i) = 0 := by
          have hdl : (t.drop i).length ≤ 1 := by rw [List.length_drop]; omega
          match hq : t.drop i, hdl with
          | [], _ => rfl
          | [a], _ => rfl
          | a :: b :: q, h => simp at h
        rw [this, Int.add_zero]
  have := key φ 0 0 (by omega) (by omega) (by omega) (by omega)
  rw [List.drop_zero, Int.zero_add] at this
  exact this
/-- The visits of a wagon. -/
theorem zjf (φ : Nat) (hφ : 800000 < φ) (p : Pool) {l : List z7} (hl : FewL l) (w : Int) :
    z36 φ p l w = some (if z2d p = 0 ∧ 0 ≤ w ∧ w < (p.fleet.wagons.length : Int) then (z90 p l w).map (·.visit) else [], ()) := by
  unfold z36
  rw [z3m φ hφ, Option.bind_some]
  by_cases hc : z2d p = 0 ∧ 0 ≤ w ∧ w < (p.fleet.wagons.length : Int)
  case neg =>
    rw [if_neg hc, if_pos (by
      simp only [Bool.or_eq_true, bne_iff_ne, ne_eq, decide_eq_true_eq]
      by_cases h : z2d p = 0
      · omega
      · exact .inl (.inl h))]
  rw [if_pos hc, if_neg (by simp [hc]), zgk φ hφ hc.1 hl, Option.bind_some, z2 ⟨hc.2.1, by simp; exact hc.2.2⟩, zl9 hc.2.1 hc.2.2]
  have htl := zay (p := p) hl.len w
  generalize z90 p l w = t at *
  refine zm (fun n i acc => z2u φ n t (t.length : Int) i acc) t.length (fun i acc => acc = (t.take i).map (·.visit)) (fun o => o = some (t.map (·.visit), ())) ?_ ?_ φ [] (by simp) (by omega)
  · intro n i acc hi hacc hs
    rw [z2u, if_pos (by simp; omega), z2 ⟨by omega, by omega⟩, z2 (zi1 (by rw [hacc]; simp; omega) (by omega)), W_id (by omega) (by omega)]
    refine hs _ ?_
    rw [hacc, z10 t i hi, List.map_append]; rfl
  · intro n acc hacc
    rw [z2u, if_neg (by simp), hacc, List.take_length]
/-- What the laws ask: a small pool, few reports. -/
theorem y05 (φ : Nat) (hφ : 1000 < φ) (p : Pool) (l : List z7) : ∃ b, zch φ p l = some (b, ()) ∧ (b = true → FewL l ∧ l.length ≤ 60 ∧ p.network.places.length ≤ 16 ∧ p.network.edges.length ≤ 40 ∧ p.fleet.wagons.length ≤ 8 ∧ p.readers.length ≤ 8) := by
  have hsmall : ∃ b, z5k φ p = some (b, ()) ∧ (b = true → p.network.places.length ≤ 16 ∧ p.network.edges.length ≤ 40 ∧ p.fleet.wagons.length ≤ 8 ∧ p.readers.length ≤ 8) := by
    unfold z5k
    split
    · exact ⟨false, rfl, fun h => by cases h⟩
    · rename_i hc
      simp only [Bool.or_eq_true, decide_eq_true_eq, not_or] at hc
      obtain ⟨⟨⟨⟨⟨⟨c1, c2⟩, c3⟩, c4⟩, c5⟩, c6⟩, c7⟩ := hc
      have : ∃ b, z0w φ φ 0 p = some (b, ()) := by
        refine zm (fun n i (_ : Unit) => z0w φ n i p) p.railways.length (fun _ _ => True) (fun o => ∃ b, o = some (b, ())) ?_ ?_ φ () trivial (by omega)
        · intro n i _ hi _ hs
          rw [z0w, if_pos (by simp; omega), z2 ⟨by omega, by omega⟩, W_id (by omega) (by omega)]
          split
          · exact ⟨false, rfl⟩
          · exact hs () trivial
        · intro n _ _
          rw [z0w, if_neg (by simp)]
          exact ⟨true, rfl⟩
      obtain ⟨b, hb⟩ := this
      exact ⟨b, hb, fun _ => by omega⟩
  have hfew : ∃ b, z4k φ l 60 = some (b, ()) ∧ (b = true → FewL l ∧ l.length ≤ 60) := by
    unfold z4k
    by_cases h60 : 60 < l.length
    · rw [if_pos (by simp; omega)]
      exact ⟨false, rfl, fun h => by cases h⟩
    · rw [if_neg (by simp; omega)]
      refine zm (fun n i (_ : Unit) => z19 φ n l i) l.length (fun i _ => ∀ j : Nat, j < i → (gt l (j : Int)).item.parts.length ≤ 40) (fun o => ∃ b, o = some (b, ()) ∧ (b = true → FewL l ∧ l.length ≤ 60)) ?_ ?_ φ () (fun j hj => by omega) (by omega)
      · intro n i _ hi hI hs
        rw [z19, if_pos (by simp; omega), z2 ⟨by omega, by omega⟩, z2 (fun _ => ⟨by omega, by omega⟩), W_id (by omega) (by omega)]
        split
        · exact ⟨false, rfl, fun h => by cases h⟩
        · rename_i hc
          simp only [Bool.or_eq_true, decide_eq_true_eq, not_or] at hc
          refine hs () fun j hj => ?_
          by_cases e : j = i
          · subst e; omega
          · exact hI j (by omega)
      · intro n _ hI
        rw [z19, if_neg (by simp)]
        refine ⟨true, rfl, fun _ => ⟨⟨by omega, fun r hr => ?_⟩, by omega⟩⟩
        obtain ⟨j, hj, rfl⟩ := ztw hr
        have := hI j hj
        omega
  obtain ⟨b1, h1, h2⟩ := hsmall
  obtain ⟨b2, h3, h4⟩ := hfew
  unfold zch
  rw [h1, Option.bind_some]
  cases b1 with
  | false =>
    rw [gz_f (by simp), Option.bind_some]
    exact ⟨_, rfl, fun h => by cases h⟩
  | true =>
    rw [gz_t rfl, h3, Option.bind_some]
    refine ⟨_, rfl, fun h => ?_⟩
    obtain ⟨q1, q2⟩ := h4 h
    obtain ⟨a1, a2, a3, a4⟩ := h2 rfl
    exact ⟨q1, q2, a1, a2, a3, a4⟩
end Px
end
section
namespace Px
open Go
set_option linter.unusedVariables false
set_option linter.unusedSimpArgs false
theorem zqq (φ : Nat) (hφ : 800000 < φ) (x : z6) (a b : z1i) : ∃ t, z4v φ x a b = some (t, ()) ∧ 0 ≤ t ∧ t ≤ 1073741825 := by
  unfold z4v
  split
  · exact ⟨_, rfl, by omega, by omega⟩
  · obtain ⟨t, e, h, h1, h2⟩ := zpr φ hφ x a.place b.place
    rw [h, Option.bind_some]
    split
    · exact ⟨_, rfl, by omega, by omega⟩
    · exact ⟨_, rfl, h1, by omega⟩
/-- The least travel time as Build takes it. -/
def tvl (φ : Nat) (x : z6) (a b : z1i) : Int := ((z4v φ x a b).getD default).1
theorem y10 (φ : Nat) (hφ : 800000 < φ) (x : z6) (a b : z1i) : z4v φ x a b = some (tvl φ x a b, ()) ∧ 0 ≤ tvl φ x a b ∧ tvl φ x a b ≤ 1073741825 := by
  obtain ⟨t, h, h1, h2⟩ := zqq φ hφ x a b
  unfold tvl
  rw [h]
  exact ⟨rfl, h1, h2⟩
def y0 : Nat → Ref := fun _ => (default : Ref)
def y1 (r : Ref) : Nat → Ref := upd (fun _ => (default : Ref)) 0 r
def y2 (r q : Ref) : Nat → Ref := upd (upd (fun _ => (default : Ref)) 0 r) 1 q
/-- Which readers are used. -/
def zz6 (m : List (Int × Int)) (e : z1) : List (Int × Int) := if 0 ≤ e.reader then mset m e.reader 0 else m
def zhk (m : List (Int × Int)) (t : List z1) : List (Int × Int) := t.foldl zz6 m
def used (ts : List (List z1)) : List (Int × Int) := ts.foldl zhk []
/-- What is built. -/
structure BS where
  v : Int
  b : List zq
  y : List (Nat → Ref)
  e : List z1y
structure RS where
  v : Int
  m : List (Int × Int)
  b : List zq
  y : List (Nat → Ref)
def zsc (rs : List z6u) (i : Nat) (s : RS) : RS :=
  if (mget s.m (i : Int)).isSome = true then ⟨s.v + 1, mset s.m (i : Int) s.v, s.b ++ [⟨0, s.v, 0 - (gt rs (i : Int)).low⟩, ⟨s.v, 0, (gt rs (i : Int)).high⟩], s.y ++ [y0, y0]⟩ else s
def rdsN (rs : List z6u) (m : List (Int × Int)) : Nat → RS
  | 0 => ⟨1, m, [], []⟩
  | n + 1 => zsc rs n (rdsN rs m n)
def rv (m : List (Int × Int)) (e : z1) : Int := (mget m e.reader).getD default
def evB (m : List (Int × Int)) (v : Int) (e : z1) : List zq :=
  if e.reader < 0 then [⟨0, v, e.visit.early⟩, ⟨v, 0, 0 - e.visit.early⟩]
  else [⟨rv m e, v, e.visit.early⟩, ⟨v, rv m e, 0 - e.visit.early⟩, ⟨0, v, 1073741824⟩, ⟨v, 0, 0⟩]
def evY (e : z1) : List (Nat → Ref) := List.replicate (if e.reader < 0 then 2 else 4) (y1 e.visit.ref)
def trB (tv : z1i → z1i → Int) (v : Int) (pr : Option z1i) (e : z1) : List zq :=
  match pr with
  | none => []
  | some a => [⟨v, v - 1, 0 - tv a e.visit⟩]
def trY (pr : Option z1i) (e : z1) : List (Nat → Ref) :=
  match pr with
  | none => []
  | some a => [y2 a.ref e.visit.ref]
def zks (tv : z1i → z1i → Int) (m : List (Int × Int)) (pr : Option z1i) (e : z1) (s : BS) : BS :=
  ⟨s.v + 1, s.b ++ evB m s.v e ++ trB tv s.v pr e, s.y ++ evY e ++ trY pr e, s.e ++ [⟨e.visit.wagon, e.visit.place, s.v, e.visit.ref, e.visit.stay⟩]⟩
def bEv (tv : z1i → z1i → Int) (m : List (Int × Int)) : Option z1i → List z1 → BS → BS
  | _, [], s => s
  | pr, e :: t, s => bEv tv m (some e.visit) t (zks tv m pr e s)
def bAll (tv : z1i → z1i → Int) (rs : List z6u) (ts : List (List z1)) : BS :=
  ts.foldl (fun s t => bEv tv (rdsN rs (used ts) rs.length).m none t s) ⟨(rdsN rs (used ts) rs.length).v, (rdsN rs (used ts) rs.length).b, (rdsN rs (used ts) rs.length).y, []⟩
def bEnd (s : BS) : z07 × Int × Unit := if 512 < s.v ∨ 4096 < s.b.length then (⟨0, [], [], []⟩, 2, ()) else (⟨s.v, s.b, s.y, s.e⟩, 0, ())
def z34 (p : Pool) (l : List z7) : List (List z1) := (List.range p.fleet.wagons.length).map fun (w : Nat) => z90 p l (w : Int)
theorem zj8 (rs : List z6u) (m : List (Int × Int)) : ∀ n, 1 ≤ (rdsN rs m n).v ∧ (rdsN rs m n).v ≤ 1 + n ∧ (rdsN rs m n).b.length ≤ 2 * n ∧ (rdsN rs m n).y.length ≤ 2 * n
  | 0 => ⟨by simp [rdsN], by simp [rdsN], by simp [rdsN], by simp [rdsN]⟩
  | n + 1 => by
    obtain ⟨h1, h2, h3, h4⟩ := zj8 rs m n
    simp only [rdsN, zsc]
    split
    · refine ⟨?_, ?_, ?_, ?_⟩ <;> simp <;> omega
    · refine ⟨?_, ?_, ?_, ?_⟩ <;> omega
theorem zya (m : List (Int × Int)) (v : Int) (e : z1) : (evB m v e).length ≤ 4 := by
  unfold evB; split <;> simp
theorem zxi (e : z1) : (evY e).length ≤ 4 := by
  unfold evY; split <;> simp
theorem zyf (tv : z1i → z1i → Int) (v : Int) (pr : Option z1i) (e : z1) : (trB tv v pr e).length ≤ 1 := by
  cases pr <;> simp [trB]
theorem zxd (pr : Option z1i) (e : z1) : (trY pr e).length ≤ 1 := by
  cases pr <;> simp [trY]
/-- How much there is. -/
structure BB (n : Nat) (s : BS) : Prop where
  v0 : 1 ≤ s.v
  v1 : s.v ≤ 257 + n
  b : s.b.length ≤ 512 + 5 * n
  y : s.y.length ≤ 512 + 5 * n
  e : s.e.length ≤ n
theorem BB.step {n : Nat} {s : BS} (h : BB n s) (tv m pr e) : BB (n + 1) (zks tv m pr e s) := by
  have h1 := zya m s.v e
  have h2 := zxi e
  have h3 := zyf tv s.v pr e
  have h4 := zxd pr e
  obtain ⟨a, b, c, d, f⟩ := h
  unfold zks
  constructor
  · show 1 ≤ s.v + 1; omega
  · show s.v + 1 ≤ 257 + ((n + 1 : Nat) : Int); omega
  · show (s.b ++ evB m s.v e ++ trB tv s.v pr e).length ≤ _
    rw [List.length_append, List.length_append]; omega
  · show (s.y ++ evY e ++ trY pr e).length ≤ _
    rw [List.length_append, List.length_append]; omega
  · show (s.e ++ [_]).length ≤ _
    rw [List.length_append]; simp; omega
theorem BB.ev (tv m) : ∀ (t : List z1) (n : Nat) (pr : Option z1i) (s : BS), BB n s → BB (n + t.length) (bEv tv m pr t s)
  | [], n, pr, s, h => h
  | e :: t, n, pr, s, h => by
    have := BB.ev tv m t (n + 1) (some e.visit) (zks tv m pr e s) (h.step tv m pr e)
    rw [show n + (e :: t).length = n + 1 + t.length by simp; omega]
    exact this
section
variable (φ : Nat)
/-- The two bounds of a reader. -/
theorem y1e (hφ : 10 < φ) (k) (x55 x56 x57 x58 x59 x60 x61 x62 x63 x64 x65 x66 x67 x68) (B : List zq) (x70 x71 x72 x73) (b : List zq) (y : List (Nat → Ref)) (x76 x77 x78 x79) (hB : B.length ≤ 4) (hb : b.length ≤ 50000000) (hy : y.length ≤ 50000000) :
    z2b φ k φ (B.length : Int) 0 x55 x56 x57 x58 x59 x60 x61 x62 x63 x64 x65 x66 x67 x68 B x70 x71 x72 x73 b y x76 x77 x78 x79 = k x55 x56 x57 (W (x58 + 1)) x70 x71 (W (x67 + 1)) x72 x77 x78 x79 (b ++ B) (y ++ List.replicate B.length x68) x76 := by
  refine zm (fun n i (s : List zq × List (Nat → Ref)) => z2b φ k n (B.length : Int) i x55 x56 x57 x58 x59 x60 x61 x62 x63 x64 x65 x66 x67 x68 B x70 x71 x72 x73 s.1 s.2 x76 x77 x78 x79) B.length (fun i s => s.1 = b ++ B.take i ∧ s.2 = y ++ List.replicate i x68) (fun o => o = k x55 x56 x57 (W (x58 + 1)) x70 x71 (W (x67 + 1)) x72 x77 x78 x79 (b ++ B) (y ++ List.replicate B.length x68) x76) ?_ ?_ φ (b, y) ⟨by simp, by simp⟩ (by omega)
  · intro n i s hi ⟨h1, h2⟩ hs
    rw [z2b, if_pos (by simp; omega), z2 ⟨by omega, by omega⟩, z2 (zbj (by rw [h1]; simp; omega) (by omega)), z2 (zbj (by rw [h2]; simp; omega) (by omega)), W_id (by omega) (by omega)]
    exact hs (_, _) ⟨by rw [h1, z10 B i hi, List.append_assoc], by rw [h2, List.replicate_succ', List.append_assoc]⟩
  · intro n s ⟨h1, h2⟩
    rw [z2b, if_neg (by simp), h1, h2, List.take_length]
theorem y01 (hφ : 10 < φ) (k) (x137 x138 x139 x140 x141 x142 x143 x144 x145 x146 x147 x148 x149 x150 x151 x152 x153 x154 x155 x156 x157) (B : List zq) (x159 x160 x161 x162 x163) (b : List zq) (y : List (Nat → Ref)) (x166 x167 x168 x169) (hB : B.length ≤ 4) (hb : b.length ≤ 50000000) (hy : y.length ≤ 50000000) :
    z1q φ k φ (B.length : Int) 0 x137 x138 x139 x140 x141 x142 x143 x144 x145 x146 x147 x148 x149 x150 x151 x152 x153 x154 x155 x156 x157 B x159 x160 x161 x162 x163 b y x166 x167 x168 x169 = k x137 x138 x139 x140 x141 x142 (W (x143 + 1)) x159 x160 x156 x161 x167 x168 x169 (b ++ B) (y ++ List.replicate B.length x157) x166 := by
  refine zm (fun n i (s : List zq × List (Nat → Ref)) => z1q φ k n (B.length : Int) i x137 x138 x139 x140 x141 x142 x143 x144 x145 x146 x147 x148 x149 x150 x151 x152 x153 x154 x155 x156 x157 B x159 x160 x161 x162 x163 s.1 s.2 x166 x167 x168 x169) B.length (fun i s => s.1 = b ++ B.take i ∧ s.2 = y ++ List.replicate i x157) (fun o => o = k x137 x138 x139 x140 x141 x142 (W (x143 + 1)) x159 x160 x156 x161 x167 x168 x169 (b ++ B) (y ++ List.replicate B.length x157) x166) ?_ ?_ φ (b, y) ⟨by simp, by simp⟩ (by omega)
  · intro n i s hi ⟨h1, h2⟩ hs
    rw [z1q, if_pos (by simp; omega), z2 ⟨by omega, by omega⟩, z2 (zbj (by rw [h1]; simp; omega) (by omega)), z2 (zbj (by rw [h2]; simp; omega) (by omega)), W_id (by omega) (by omega)]
    exact hs (_, _) ⟨by rw [h1, z10 B i hi, List.append_assoc], by rw [h2, List.replicate_succ', List.append_assoc]⟩
  · intro n s ⟨h1, h2⟩
    rw [z1q, if_neg (by simp), h1, h2, List.take_length]
theorem zzy (hφ : 10 < φ) (k) (x173 x174 x175 x176 x177 x178 x179 x180 x181 x182 x183) (B : List zq) (x185 x186 x187 x188) (b : List zq) (y : List (Nat → Ref)) (x191 x192 x193 x194) (hB : B.length ≤ 4) (hb : b.length ≤ 50000000) (hy : y.length ≤ 50000000) :
    z1s φ k φ (B.length : Int) 0 x173 x174 x175 x176 x177 x178 x179 x180 x181 x182 x183 B x185 x186 x187 x188 b y x191 x192 x193 x194 = z0k φ k x173 x174 x175 x176 x177 x178 x179 x180 x181 x185 x186 x182 x187 x188 x192 x193 x194 (b ++ B) (y ++ List.replicate B.length x183) x191 := by
  refine zm (fun n i (s : List zq × List (Nat → Ref)) => z1s φ k n (B.length : Int) i x173 x174 x175 x176 x177 x178 x179 x180 x181 x182 x183 B x185 x186 x187 x188 s.1 s.2 x191 x192 x193 x194) B.length (fun i s => s.1 = b ++ B.take i ∧ s.2 = y ++ List.replicate i x183) (fun o => o = z0k φ k x173 x174 x175 x176 x177 x178 x179 x180 x181 x185 x186 x182 x187 x188 x192 x193 x194 (b ++ B) (y ++ List.replicate B.length x183) x191) ?_ ?_ φ (b, y) ⟨by simp, by simp⟩ (by omega)
  · intro n i s hi ⟨h1, h2⟩ hs
    rw [z1s, if_pos (by simp; omega), z2 ⟨by omega, by omega⟩, z2 (zbj (by rw [h1]; simp; omega) (by omega)), z2 (zbj (by rw [h2]; simp; omega) (by omega)), W_id (by omega) (by omega)]
    exact hs (_, _) ⟨by rw [h1, z10 B i hi, List.append_assoc], by rw [h2, List.replicate_succ', List.append_assoc]⟩
  · intro n s ⟨h1, h2⟩
    rw [z1s, if_neg (by simp), h1, h2, List.take_length]
theorem y03 (hφ : 10 < φ) (k) (x173 x174 x175 x176 x177 x178 x179 x180 x181 x182 x183) (B : List zq) (x185 x186 x187 x188) (b : List zq) (y : List (Nat → Ref)) (x191 x192 x193 x194) (hB : B.length ≤ 4) (hb : b.length ≤ 50000000) (hy : y.length ≤ 50000000) :
    z1r φ k φ (B.length : Int) 0 x173 x174 x175 x176 x177 x178 x179 x180 x181 x182 x183 B x185 x186 x187 x188 b y x191 x192 x193 x194 = z0k φ k x173 x174 x175 x176 x177 x178 x179 x180 x181 x185 x186 x182 x187 x188 x192 x193 x194 (b ++ B) (y ++ List.replicate B.length x183) x191 := by
  refine zm (fun n i (s : List zq × List (Nat → Ref)) => z1r φ k n (B.length : Int) i x173 x174 x175 x176 x177 x178 x179 x180 x181 x182 x183 B x185 x186 x187 x188 s.1 s.2 x191 x192 x193 x194) B.length (fun i s => s.1 = b ++ B.take i ∧ s.2 = y ++ List.replicate i x183) (fun o => o = z0k φ k x173 x174 x175 x176 x177 x178 x179 x180 x181 x185 x186 x182 x187 x188 x192 x193 x194 (b ++ B) (y ++ List.replicate B.length x183) x191) ?_ ?_ φ (b, y) ⟨by simp, by simp⟩ (by omega)
  · intro n i s hi ⟨h1, h2⟩ hs
    rw [z1r, if_pos (by simp; omega), z2 ⟨by omega, by omega⟩, z2 (zbj (by rw [h1]; simp; omega) (by omega)), z2 (zbj (by rw [h2]; simp; omega) (by omega)), W_id (by omega) (by omega)]
    exact hs (_, _) ⟨by rw [h1, z10 B i hi, List.append_assoc], by rw [h2, List.replicate_succ', List.append_assoc]⟩
  · intro n s ⟨h1, h2⟩
    rw [z1r, if_neg (by simp), h1, h2, List.take_length]
/-- The travel zeu and what follows it. -/
theorem zt0 (hφ : 800000 < φ) (k) (T : List z1) (n : Nat) (hn : n < T.length) (x115 x116 x117 x118 x119 x120) (x122 : Pool) (x123 : Int) (x125 : List (Int × Int)) (e : z1) (pr : Option z1i) (hpr : pr = if 0 < n then some (gt T ((n : Int) - 1)).visit else none) (x127 x128 x129) (b : List zq) (y : List (Nat → Ref)) (x132) (hb : b.length ≤ 50000000) (hy : y.length ≤ 50000000) (h15 : 0 ≤ x115 ∧ x115 ≤ 100000000) (hT : n ≤ 100000000) :
    z0k φ k T (n : Int) x115 x116 x117 x118 x119 x120 (n : Int) x122 x123 (x115 + 1) x125 e x127 x128 x129 b y x132 =
      k T x116 x117 x118 x119 x120 ((n + 1 : Nat) : Int) x122 x123 (x115 + 1) x125 x127 x128 x129 (b ++ trB (tvl φ x122.network) x115 pr e) (y ++ trY pr e) x132 := by
  have hW : W ((n : Int) + 1) = ((n + 1 : Nat) : Int) := by rw [W_id (by omega) (by omega)]; omega
  unfold z0k
  by_cases h : 0 < n
  · obtain ⟨ht, t1, t2⟩ := y10 φ hφ x122.network (gt T ((n : Int) - 1)).visit e.visit
    rw [if_pos (by simp; omega), W_id (x := (n : Int) - 1) (by omega) (by omega), z2 ⟨by omega, by omega⟩, ht, Option.bind_some, W_id (x := x115 - 1) (by omega) (by omega)]
    rw [hpr, if_pos h]
    simp only [trB, trY]
    generalize tvl φ x122.network (gt T ((n : Int) - 1)).visit e.visit = tt at *
    rw [W_id (x := 0 - tt) (by omega) (by omega)]
    refine (y01 φ (by omega) k T x116 x117 x118 x119 x120 (n : Int) _ _ _ _ _ _ _ _ _ _ _ _ _ _ ([⟨x115, x115 - 1, 0 - tt⟩] : List zq) x122 x123 x125 _ _ b y x132 x127 x128 x129 (by simp) hb hy).trans ?_
    rw [hW]
    rfl
  · rw [if_neg (by simp; omega), hW, hpr, if_neg h]
    simp only [trB, trY, List.append_nil]
/-- One z90. -/
theorem zqb (hφ : 800000 < φ) (k) (x96 x97 x98) (T : List z1) (hE : ∀ e ∈ T, 0 ≤ e.visit.early ∧ e.visit.early ≤ 1073741824) (x102 : Pool) (x103 : Int) (m : List (Int × Int)) (g1 g2 g3) (hT : T.length ≤ 2000) :
    ∀ (n i N : Nat) (s : BS), T.length < n + i → i ≤ T.length → BB N s → N ≤ 8300000 + i →
      z02 φ k n T x96 x97 x98 T (T.length : Int) (i : Int) x102 x103 s.v m g1 g2 g3 s.b s.y s.e =
        (fun s' : BS => k x96 x97 (W (x98 + 1)) x102 x103 s'.v m g1 g2 g3 s'.b s'.y s'.e) (bEv (tvl φ x102.network) m (if 0 < i then some (gt T ((i : Int) - 1)).visit else none) (T.drop i) s) := by
  intro n
  induction n with
  | zero => intro i N s h1 h2; exfalso; omega
  | succ n ih =>
    intro i N s h1 h2 hB hN
    obtain ⟨v0, v1, b1, b2, b3⟩ := hB
    by_cases hi : i < T.length
    · obtain ⟨e0, e1⟩ := hE _ (z8e (l := T) (i := (i : Int)) (by omega) (by omega))
      have hWv : W (s.v + 1) = s.v + 1 := W_id (by omega) (by omega)
      have hWe : W (0 - (gt T (i : Int)).visit.early) = 0 - (gt T (i : Int)).visit.early := W_id (by omega) (by omega)
      have hnext := ih (i + 1) (N + 1) (zks (tvl φ x102.network) m (if 0 < i then some (gt T ((i : Int) - 1)).visit else none) (gt T (i : Int)) s) (by omega) (by omega) (BB.step ⟨v0, v1, b1, b2, b3⟩ _ _ _ _) (by omega)
      rw [if_pos (show 0 < i + 1 by omega), show ((i + 1 : Nat) : Int) - 1 = (i : Int) by omega] at hnext
      rw [zdx T i hi]
      refine Eq.trans ?_ hnext
      rw [z02, if_pos (by simp; omega), z2 ⟨by omega, by omega⟩, z2 (zbj (by simp; omega) (by omega)), hWv, hWe]
      by_cases hr : (gt T (i : Int)).reader < 0
      · rw [if_pos (by simpa using hr)]
        refine (zzy φ (by omega) (z02 φ k n) T (i : Int) s.v x96 x97 x98 T (T.length : Int) (i : Int) (s.v + 1) (y1 (gt T (i : Int)).visit.ref) ([⟨0, s.v, (gt T (i : Int)).visit.early⟩, ⟨s.v, 0, 0 - (gt T (i : Int)).visit.early⟩] : List zq) x102 x103 m (gt T (i : Int)) s.b s.y _ g1 g2 g3 (by simp) (by omega) (by omega)).trans ?_
        refine (zt0 φ hφ (z02 φ k n) T i hi s.v x96 x97 x98 T (T.length : Int) x102 x103 m (gt T (i : Int)) _ rfl g1 g2 g3 _ _ _ (by simp; omega) (by simp; omega) ⟨by omega, by omega⟩ (by omega)).trans ?_
        simp only [zks, evB, evY, if_pos hr]
        rfl
      · rw [if_neg (by simpa using hr)]
        refine (y03 φ (by omega) (z02 φ k n) T (i : Int) s.v x96 x97 x98 T (T.length : Int) (i : Int) (s.v + 1) (y1 (gt T (i : Int)).visit.ref) ([⟨rv m (gt T (i : Int)), s.v, (gt T (i : Int)).visit.early⟩, ⟨s.v, rv m (gt T (i : Int)), 0 - (gt T (i : Int)).visit.early⟩, ⟨0, s.v, 1073741824⟩, ⟨s.v, 0, 0⟩] : List zq) x102 x103 m (gt T (i : Int)) s.b s.y _ g1 g2 g3 (by simp) (by omega) (by omega)).trans ?_
        refine (zt0 φ hφ (z02 φ k n) T i hi s.v x96 x97 x98 T (T.length : Int) x102 x103 m (gt T (i : Int)) _ rfl g1 g2 g3 _ _ _ (by simp; omega) (by simp; omega) ⟨by omega, by omega⟩ (by omega)).trans ?_
        simp only [zks, evB, evY, if_neg hr]
        rfl
    · have : i = T.length := by omega
      subst this
      rw [z02, if_neg (by simp), List.drop_length]
      rfl
/-- All tracks. -/
theorem zn6 (hφ : 800000 < φ) (ts : List (List z1)) (hE : ∀ T ∈ ts, T.length ≤ 2000 ∧ ∀ e ∈ T, 0 ≤ e.visit.early ∧ e.visit.early ≤ 1073741824) (hts : ts.length ≤ 4096) (x84 : Pool) (x85 : Int) (m : List (Int × Int)) (g1 g2 g3) (s : BS) (hs : BB 0 s) :
    z1h φ φ ts (ts.length : Int) 0 x84 x85 s.v m g1 g2 g3 s.b s.y s.e = some (bEnd (ts.foldl (fun s t => bEv (tvl φ x84.network) m none t s) s)) := by
  refine zm (fun n i (s : BS) => z1h φ n ts (ts.length : Int) i x84 x85 s.v m g1 g2 g3 s.b s.y s.e) ts.length (fun i s' => BB (2000 * i) s' ∧ s' = (ts.take i).foldl (fun s t => bEv (tvl φ x84.network) m none t s) s) (fun o => o = some (bEnd (ts.foldl (fun s t => bEv (tvl φ x84.network) m none t s) s))) ?_ ?_ φ s ⟨hs, rfl⟩ (by omega)
  · intro n i s' hi ⟨h1, h2⟩ hk
    obtain ⟨q1, q2⟩ := hE _ (z8e (l := ts) (i := (i : Int)) (by omega) (by omega))
    rw [z1h, if_pos (by simp; omega), z2 ⟨by omega, by omega⟩]
    have := zqb φ hφ (z1h φ n) ts (ts.length : Int) (i : Int) (gt ts (i : Int)) q2 x84 x85 m g1 g2 g3 q1 φ 0 (2000 * i) s' (by omega) (by omega) h1 (by omega)
    refine this.trans ?_
    simp only [W_id (x := (i : Int) + 1) (by omega) (by omega), List.drop_zero]
    rw [if_neg (by omega)]
    refine hk _ ⟨?_, ?_⟩
    · have := BB.ev (tvl φ x84.network) m (gt ts (i : Int)) (2000 * i) none s' h1
      obtain ⟨a, b, c, d, f⟩ := this
      exact ⟨a, by omega, by omega, by omega, by omega⟩
    · rw [z10 ts i hi, List.foldl_append, ← h2]; rfl
  · intro n s' ⟨h1, h2⟩
    rw [List.take_length] at h2
    rw [z1h, if_neg (by simp), ← h2]
    unfold bEnd
    by_cases h : 512 < s'.v ∨ 4096 < s'.b.length
    · rw [if_pos (by simp; omega), if_pos h]
    · rw [if_neg (by simp; omega), if_neg h]
/-- The readers. -/
theorem zlj (hφ : 800000 < φ) (ts : List (List z1)) (hE : ∀ T ∈ ts, T.length ≤ 2000 ∧ ∀ e ∈ T, 0 ≤ e.visit.early ∧ e.visit.early ≤ 1073741824) (hts : ts.length ≤ 4096) (p : Pool) (hp : p.readers.length ≤ 256) (hr : ∀ r ∈ p.readers, -1000 ≤ r.low ∧ r.low ≤ 1000) (x43 : Int) (m : List (Int × Int)) (g1 g2) :
    z0t φ φ ts p.readers (p.readers.length : Int) 0 p x43 1 m g1 g2 [] [] [] [] = some (bEnd (ts.foldl (fun s t => bEv (tvl φ p.network) (rdsN p.readers m p.readers.length).m none t s) ⟨(rdsN p.readers m p.readers.length).v, (rdsN p.readers m p.readers.length).b, (rdsN p.readers m p.readers.length).y, []⟩)) := by
  refine zm (fun n i (s : RS) => z0t φ n ts p.readers (p.readers.length : Int) i p x43 s.v s.m g1 g2 [] s.b s.y []) p.readers.length (fun i s => s = rdsN p.readers m i) (fun o => o = _) ?_ ?_ φ ⟨1, m, [], []⟩ rfl (by omega)
  · intro n i s hi hs hk
    obtain ⟨a1, a2, a3, a4⟩ := zj8 p.readers m i
    rw [← hs] at a1 a2 a3 a4
    obtain ⟨r1, r2⟩ := hr _ (z8e (l := p.readers) (i := (i : Int)) (by omega) (by omega))
    have hk' := hk (rdsN p.readers m (i + 1)) rfl
    simp only [rdsN, zsc] at hk'
    rw [← hs] at hk'
    have hW : W ((i : Int) + 1) = (i : Int) + 1 := W_id (by omega) (by omega)
    rw [z0t, if_pos (by simp; omega), z2 ⟨by omega, by omega⟩]
    by_cases h : (mget s.m (i : Int)).isSome = true
    · rw [if_pos h] at hk' ⊢
      have hWl : W (0 - (gt p.readers (i : Int)).low) = 0 - (gt p.readers (i : Int)).low := W_id (by omega) (by omega)
      rw [hWl]
      refine (y1e φ (by omega) (z0t φ n) ts p.readers (p.readers.length : Int) (i : Int) _ _ _ _ _ _ _ _ _ _ ([⟨0, s.v, 0 - (gt p.readers (i : Int)).low⟩, ⟨s.v, 0, (gt p.readers (i : Int)).high⟩] : List zq) p x43 (mset s.m (i : Int) s.v) _ s.b s.y [] g1 g2 [] (by simp) (by omega) (by omega)).trans ?_
      rw [hW, W_id (x := s.v + 1) (by omega) (by omega)]
      exact hk'
    · rw [if_neg h] at hk' ⊢
      rw [hW]
      exact hk'
  · intro n s hs
    rw [z0t, if_neg (by simp), ← hs]
    obtain ⟨a1, a2, a3, a4⟩ := zj8 p.readers m p.readers.length
    rw [← hs] at a1 a2 a3 a4
    exact zn6 φ hφ ts hE hts p x43 s.m g1 g2 [] ⟨s.v, s.b, s.y, []⟩ ⟨a1, by show s.v ≤ _; omega, by show s.b.length ≤ _; omega, by show s.y.length ≤ _; omega, by simp⟩
/-- One track's readers. -/
theorem zqy (k) (x20 x21 x22 x23) (T : List z1) (hT : T.length ≤ 2000) (hφ : 800000 < φ) (x27 x28 x29 x30 x31 x32 x33 x34 x35 x36) :
    z1f φ k φ x20 x21 x22 x23 T (T.length : Int) 0 x27 x28 x29 x30 x31 x32 x33 x34 x35 x36 = k x20 x21 x22 (W (x23 + 1)) x27 x28 x29 (zhk x30 T) x31 x32 x33 x34 x35 x36 := by
  refine zm (fun n i (m : List (Int × Int)) => z1f φ k n x20 x21 x22 x23 T (T.length : Int) i x27 x28 x29 m x31 x32 x33 x34 x35 x36) T.length (fun i m => m = zhk x30 (T.take i)) (fun o => o = _) ?_ ?_ φ x30 rfl (by omega)
  · intro n i m hi hm hk
    have hk' := hk (zhk x30 (T.take (i + 1))) rfl
    rw [z10 T i hi] at hk'
    simp only [zhk, List.foldl_append, List.foldl_cons, List.foldl_nil] at hk' hm
    rw [← hm] at hk'
    rw [z1f, if_pos (by simp; omega), z2 ⟨by omega, by omega⟩, W_id (by omega) (by omega)]
    unfold zz6 at hk'
    by_cases h : 0 ≤ (gt T (i : Int)).reader
    · rw [if_pos h] at hk'
      rw [if_pos (by simpa using h)]
      exact hk'
    · rw [if_neg h] at hk'
      rw [if_neg (by simpa using h)]
      exact hk'
  · intro n m hm
    rw [List.take_length] at hm
    rw [z1f, if_neg (by simp), hm]
theorem zql {p : Pool} {r : z7} (h : zo6 p r.item) {i : Int} {x : z1} (hx : x ∈ evs p r i) : 0 ≤ x.visit.early ∧ x.visit.early ≤ 1073741824 := by
  have hf := h.from_
  have ht := h.to
  unfold evs at hx
  split at hx
  · simp only [List.mem_singleton] at hx; subst hx
    simp only [z5l]; omega
  · split at hx
    · simp only [List.mem_cons, List.not_mem_nil, or_false] at hx
      rcases hx with rfl | rfl <;> simp only [z5l] <;> omega
    · split at hx
      · simp only [List.mem_singleton] at hx; subst hx
        simp only [z5l]; omega
      · cases hx
theorem zku : ∀ {t : List z1} {m : List (Int × Bool)} {x : z1}, x ∈ zf0 t m → ∃ y ∈ t, ∃ b, x = zbv y b
  | [], m, x, h => by cases h
  | e :: t, m, x, h => by
    rcases List.mem_cons.1 h with rfl | h
    · exact ⟨e, List.mem_cons_self, _, rfl⟩
    · obtain ⟨y, hy, b, hb⟩ := zku h
      exact ⟨y, List.mem_cons_of_mem _ hy, b, hb⟩
theorem zqx {p : Pool} {l : List z7} {w : Int} {x : z1} (h : x ∈ z90 p l w) : ∃ y ∈ uns p l w, ∃ b, x = zbv y b := by
  obtain ⟨y, hy, b, hb⟩ := zku h
  exact ⟨y, (z16 _ _).mem_iff.1 hy, b, hb⟩
theorem ztb {p : Pool} (hc : z2d p = 0) {l : List z7} (hl : FewL l) {w : Int} {x : z1} (h : x ∈ z90 p l w) : 0 ≤ x.visit.early ∧ x.visit.early ≤ 1073741824 := by
  obtain ⟨y, hy, b, rfl⟩ := zqx h
  obtain ⟨h1, h2, _, h3, h4⟩ := zp2 hl.len hy
  show 0 ≤ y.visit.early ∧ y.visit.early ≤ 1073741824
  exact zql (zl2 hc (hl.gt h1 h2) h3) h4
/-- What Build answers. -/
theorem zix (hφ : 800000 < φ) (p : Pool) {l : List z7} (hl : FewL l) :
    z26 φ p l = some (if z2d p = 0 then bEnd (bAll (tvl φ p.network) p.readers (z34 p l)) else (⟨0, [], [], []⟩, z2d p, ())) := by
  unfold z26
  rw [z3m φ hφ, Option.bind_some]
  by_cases hc : z2d p = 0
  case neg => rw [if_pos (by simpa using hc), if_neg hc]
  rw [if_neg (by simp [hc]), if_pos hc, zgk φ hφ hc hl, Option.bind_some]
  obtain ⟨_, hf, hr1, _⟩ := z95 hc
  obtain ⟨_, f2, _⟩ := z5z hf
  have hrd := (zpp hc).1
  show z1e φ φ (z34 p l) (z34 p l) ((z34 p l).length : Int) 0 p 0 1 [] [] [] [] [] [] [] = _
  have hlen : (z34 p l).length ≤ 4096 := by unfold z34; simp; omega
  have hE : ∀ T ∈ z34 p l, T.length ≤ 2000 ∧ ∀ e ∈ T, 0 ≤ e.visit.early ∧ e.visit.early ≤ 1073741824 := by
    intro T hT
    unfold z34 at hT
    obtain ⟨w, _, rfl⟩ := List.mem_map.1 hT
    exact ⟨zay hl.len _, fun e he => ztb hc hl he⟩
  generalize z34 p l = ts at *
  refine zm (fun n i (m : List (Int × Int)) => z1e φ n ts ts (ts.length : Int) i p 0 1 m [] [] [] [] [] []) ts.length (fun i m => m = (ts.take i).foldl zhk []) (fun o => o = some (bEnd (bAll (tvl φ p.network) p.readers ts))) ?_ ?_ φ [] rfl (by omega)
  · intro n i m hi hm hk
    rw [z1e, if_pos (by simp; omega), z2 ⟨by omega, by omega⟩]
    rw [zqy φ (z1e φ n) ts ts (ts.length : Int) (i : Int) (gt ts (i : Int)) (hE _ (z8e (by omega) (by omega))).1 hφ, W_id (by omega) (by omega)]
    exact hk _ (by rw [z10 ts i hi, List.foldl_append, ← hm]; rfl)
  · intro n m hm
    rw [List.take_length] at hm
    rw [z1e, if_neg (by simp)]
    refine (zlj φ hφ ts hE hlen p hr1 (fun r hr => ?_) 0 m [] []).trans ?_
    · have := hrd r hr; omega
    · rw [hm]; rfl
end
end Px
end
section
namespace Px
open Go
set_option linter.unusedVariables false
set_option linter.unusedSimpArgs false
/-- All Refs are different. -/
def z8y (l : List z7) : Prop := l.Pairwise fun a b => a.ref ≠ b.ref
theorem z8y.perm {l l' : List z7} (h : z8y l) (hp : l'.Perm l) : z8y l' := (hp.pairwise_iff (R := fun a b : z7 => a.ref ≠ b.ref) (fun h => h.symm)).2 h
/-- The first report with a Ref. -/
def idx : List z7 → Ref → Int
  | [], _ => 0
  | r :: l, q => if r.ref.railway = q.railway ∧ r.ref.no = q.no then 0 else idx l q + 1
theorem zx6 {a b : Ref} : a = b ↔ a.railway = b.railway ∧ a.no = b.no := by
  cases a; cases b; simp
theorem zib : ∀ {l : List z7}, z8y l → ∀ i : Nat, i < l.length → idx l (gt l (i : Int)).ref = (i : Int)
  | [], h, i, hi => by simp at hi
  | r :: l, h, 0, hi => by
    show idx (r :: l) r.ref = 0
    simp [idx]
  | r :: l, h, i + 1, hi => by
    have hi' : i < l.length := by simpa using hi
    have e : gt (r :: l) ((i + 1 : Nat) : Int) = gt l (i : Int) := by
      rw [z44 hi, z44 hi']; rfl
    have h' := List.pairwise_cons.1 h
    rw [e]
    unfold idx
    rw [if_neg (fun q => h'.1 (gt l (i : Int)) (z8e (by omega) (by omega)) (zx6.2 q)), zib h'.2 i hi']
    omega
def zgi (x : z1) (i : Int) : z1 := ⟨x.visit, i, x.second, x.stay, x.reader⟩
def ren (κ : Int → Int) (x : z1) : z1 := zgi x (κ x.report)
def tag (l : List z7) (x : z1) : z1 := zgi x (idx l x.visit.ref)
theorem zqa (p : Pool) (r : z7) (i : Int) : evs p r i = (evs p r 0).map fun x => zgi x i := by
  unfold evs
  split
  · rfl
  · split
    · rfl
    · split <;> rfl
/-- The events of a wagon, without the numbers of the reports. -/
def evU (p : Pool) (l : List z7) (w : Int) : List z1 := l.flatMap fun r => if z9y p r.item = true ∧ r.item.wagon = w then evs p r 0 else []
theorem zhy (p : Pool) (l : List z7) (w : Int) (hd : z8y l) : ∀ n, n ≤ l.length → unsC p l (cntN p l n) w = (evU p (l.take n) w).map (tag l)
  | 0, _ => by simp [cntN, unsC, evU]
  | n + 1, hn => by
    have ih := zhy p l w hd n (by omega)
    rw [zl7, z10 l n hn]
    unfold unsC evU at *
    rw [List.flatMap_append, List.flatMap_append, List.map_append, ih]
    congr 1
    have hi := zib hd n hn
    have key : evs p (gt l (n : Int)) (n : Int) = (evs p (gt l (n : Int)) 0).map (tag l) := by
      rw [zqa p _ (n : Int)]
      refine List.map_congr_left fun x hx => ?_
      unfold tag
      rw [(z99 hx).2.2, hi]
    cases h : z9y p (gt l (n : Int)).item with
    | true =>
      simp only [cond_true, List.flatMap_cons, List.flatMap_nil, List.append_nil, h, true_and]
      split
      · exact key
      · rfl
    | false => simp [h]
theorem zng (p : Pool) (l : List z7) (w : Int) (hd : z8y l) : uns p l w = (evU p l w).map (tag l) := by
  have := zhy p l w hd l.length (Nat.le_refl _)
  rw [List.take_length] at this
  exact this
/-- The order of events, without the numbers of the reports. -/
def lt0 (a b : z1) : Bool := ltEv (zgi a 0) (zgi b 0)
theorem zr2 (l : List z7) (a b : z1) : ltEv (tag l a) (tag l b) = lt0 a b := by
  unfold lt0 ltEv
  refine decide_eq_decide.2 ?_
  rw [z8q, z8q]
  simp only [tag, zgi]
  have : a.visit.ref.railway = b.visit.ref.railway → a.visit.ref.no = b.visit.ref.no → idx l a.visit.ref = idx l b.visit.ref := fun h1 h2 => by rw [zx6.2 ⟨h1, h2⟩]
  omega
theorem zin : Sort.SWO ltEv where
  irrefl := fun x => by
    unfold ltEv
    simp only [decide_eq_false_iff_not]
    rw [z8q]; omega
  trans := fun x y z h1 h2 => by
    unfold ltEv at *
    simp only [decide_eq_true_eq] at *
    rw [z8q] at *
    omega
  ntrans := fun x y z h1 h2 => by
    unfold ltEv at *
    simp only [decide_eq_false_iff_not] at *
    rw [z8q] at *
    omega
theorem zu0 : Sort.SWO lt0 where
  irrefl := fun x => zin.irrefl _
  trans := fun x y z h1 h2 => zin.trans _ _ _ h1 h2
  ntrans := fun x y z h1 h2 => zin.ntrans _ _ _ h1 h2
theorem zsh (p : Pool) (l : List z7) (w : Int) (hd : z8y l) : srt p l w = (z6t lt0 (evU p l w)).map (tag l) := by
  unfold srt
  rw [zng p l w hd, ← zha]
  congr 2
  funext a b
  exact zr2 l a b
theorem zuj (p : Pool) (l : List z7) (w : Int) (hd : z8y l) : (evU p l w).Pairwise fun a b => (lt0 a b || lt0 b a) = true := by
  have := zx5 p l w
  rw [zng p l w hd, List.pairwise_map] at this
  refine this.imp fun {a b} h => ?_
  have := ztr h
  rw [← zr2 l a b, ← zr2 l b a]
  unfold ltEv
  simpa using this
theorem zvi (p : Pool) {l l' : List z7} (w : Int) (hp : l'.Perm l) : (evU p l' w).Perm (evU p l w) := hp.flatMap_right _
theorem zvb (p : Pool) {l l' : List z7} (w : Int) (hd : z8y l) (hp : l'.Perm l) : z6t lt0 (evU p l' w) = z6t lt0 (evU p l w) :=
  zi9 (zuj p l w hd) ((z16 _ _).trans (zvi p w hp)) (z16 _ _) (z6p zu0 _) (z6p zu0 _)
/-- Maps whose keys are renamed. -/
def renK (κ : Int → Int) (m : List (Int × Bool)) : List (Int × Bool) := m.map fun q => (κ q.1, q.2)
def InjD (D : Int → Prop) (κ : Int → Int) : Prop := ∀ a b, D a → D b → κ a = κ b → a = b
theorem zt1 {D : Int → Prop} {κ : Int → Int} (h : InjD D κ) {a b : Int} (ha : D a) (hb : D b) : (κ a == κ b) = (a == b) := by
  by_cases e : a = b
  · subst e; simp
  · have : κ a ≠ κ b := fun q => e (h a b ha hb q)
    rw [(beq_eq_false_iff_ne).2 e, (beq_eq_false_iff_ne).2 this]
theorem zpa {D : Int → Prop} {κ : Int → Int} (h : InjD D κ) (v : Bool) {k : Int} (hk : D k) : ∀ {m : List (Int × Bool)}, (∀ q ∈ m, D q.1) → mset (renK κ m) (κ k) v = renK κ (mset m k v)
  | [], _ => rfl
  | (a, b) :: m, hm => by
    have h1 := zt1 h hk (hm (a, b) List.mem_cons_self)
    have ih := zpa h v hk (m := m) fun q hq => hm q (List.mem_cons_of_mem _ hq)
    show (bif κ k == κ a then (κ k, v) :: renK κ m else (κ a, b) :: mset (renK κ m) (κ k) v) = renK κ (bif k == a then (k, v) :: m else (a, b) :: mset m k v)
    rw [h1, ih]
    cases k == a <;> rfl
theorem zo7 {D : Int → Prop} {κ : Int → Int} (h : InjD D κ) {k : Int} (hk : D k) : ∀ {m : List (Int × Bool)}, (∀ q ∈ m, D q.1) → mdel (renK κ m) (κ k) = renK κ (mdel m k)
  | [], _ => rfl
  | (a, b) :: m, hm => by
    have h1 := zt1 h hk (hm (a, b) List.mem_cons_self)
    have ih := zo7 h hk (m := m) fun q hq => hm q (List.mem_cons_of_mem _ hq)
    show (bif κ k == κ a then renK κ m else (κ a, b) :: mdel (renK κ m) (κ k)) = renK κ (bif k == a then m else (a, b) :: mdel m k)
    rw [h1, ih]
    cases k == a <;> rfl
theorem zp1 {D : Int → Prop} {k : Int} {v : Bool} (hk : D k) : ∀ {m : List (Int × Bool)}, (∀ q ∈ m, D q.1) → ∀ q ∈ mset m k v, D q.1
  | [], _, q, hq => by
    have := List.mem_singleton.1 hq
    subst this; exact hk
  | (a, b) :: m, hm, q, hq => by
    have hq : q ∈ (bif k == a then (k, v) :: m else (a, b) :: mset m k v) := hq
    cases e : k == a <;> rw [e] at hq
    · rcases List.mem_cons.1 hq with rfl | hq
      · exact hm _ List.mem_cons_self
      · exact zp1 hk (fun q hq => hm q (List.mem_cons_of_mem _ hq)) q hq
    · rcases List.mem_cons.1 hq with rfl | hq
      · exact hk
      · exact hm _ (List.mem_cons_of_mem _ hq)
theorem zol {D : Int → Prop} {k : Int} : ∀ {m : List (Int × Bool)}, (∀ q ∈ m, D q.1) → ∀ q ∈ mdel m k, D q.1
  | [], _, q, hq => by cases hq
  | (a, b) :: m, hm, q, hq => by
    have hq : q ∈ (bif k == a then m else (a, b) :: mdel m k) := hq
    cases e : k == a <;> rw [e] at hq
    · rcases List.mem_cons.1 hq with rfl | hq
      · exact hm _ List.mem_cons_self
      · exact zol (fun q hq => hm q (List.mem_cons_of_mem _ hq)) q hq
    · exact hm _ (List.mem_cons_of_mem _ hq)
theorem zvr {D : Int → Prop} {κ : Int → Int} (h : InjD D κ) {e : z1} (he : D e.report) {m : List (Int × Bool)} (hm : ∀ q ∈ m, D q.1) : covM (ren κ e) (renK κ m) = renK κ (covM e m) ∧ ∀ q ∈ covM e m, D q.1 := by
  unfold covM
  show (if (e.stay && e.second) = true then mdel (renK κ m) (κ e.report) else if e.stay = true then mset (renK κ m) (κ e.report) true else renK κ m) = _ ∧ _
  split
  · exact ⟨zo7 h he hm, zol hm⟩
  · split
    · exact ⟨zpa h true he hm, zp1 he hm⟩
    · exact ⟨rfl, hm⟩
theorem zmc {D : Int → Prop} {κ : Int → Int} (h : InjD D κ) : ∀ {t : List z1} {m : List (Int × Bool)}, (∀ e ∈ t, D e.report) → (∀ q ∈ m, D q.1) → zf0 (t.map (ren κ)) (renK κ m) = (zf0 t m).map (ren κ)
  | [], _, _, _ => rfl
  | e :: t, m, ht, hm => by
    obtain ⟨h1, h2⟩ := zvr h (ht e List.mem_cons_self) hm
    have ih := zmc h (t := t) (m := covM e m) (fun x hx => ht x (List.mem_cons_of_mem _ hx)) h2
    show zbv (ren κ e) (decide ((0 : Int) < ((covM (ren κ e) (renK κ m)).length : Int))) :: zf0 (t.map (ren κ)) (covM (ren κ e) (renK κ m)) = _
    rw [h1, ih]
    have : (renK κ (covM e m)).length = (covM e m).length := by simp [renK]
    rw [this]
    rfl
/-- Tracks of reports in another order. -/
theorem ze0 {p : Pool} {l l' : List z7} (hl : l.length ≤ 1000) (hd : z8y l) (hp : l'.Perm l) (w : Int) : ∃ κ, z90 p l' w = (z90 p l w).map (ren κ) := by
  have hd' := hd.perm hp
  have hlen := hp.length_eq
  refine ⟨fun i => idx l' (gt l i).ref, ?_⟩
  have hS : srt p l' w = (srt p l w).map (ren fun i => idx l' (gt l i).ref) := by
    rw [zsh p l w hd, zsh p l' w hd', zvb p w hd hp, List.map_map]
    refine List.map_congr_left fun x hx => ?_
    have hx := (z16 _ _).mem_iff.1 hx
    have hm : tag l x ∈ uns p l w := by rw [zng p l w hd]; exact List.mem_map_of_mem hx
    obtain ⟨h1, h2, _, _, h3⟩ := zp2 hl hm
    have h4 := (z99 h3).2.2
    simp only [Function.comp, tag, ren, zgi] at *
    rw [← h4]
  unfold z90
  rw [hS]
  refine zmc (D := fun i => 0 ≤ i ∧ i < (l.length : Int)) (m := []) (fun a b ha hb h => ?_) (fun e he => ?_) (fun q hq => by cases hq)
  · have hm : ∀ i, 0 ≤ i → i < (l.length : Int) → ∃ j : Nat, j < l'.length ∧ gt l' (j : Int) = gt l i := fun i h0 h1 => ztw (hp.mem_iff.2 (z8e h0 h1))
    obtain ⟨j1, g1, e1⟩ := hm a ha.1 ha.2
    obtain ⟨j2, g2, e2⟩ := hm b hb.1 hb.2
    have h : idx l' (gt l a).ref = idx l' (gt l b).ref := h
    rw [← e1, ← e2, zib hd' j1 g1, zib hd' j2 g2] at h
    have hj : j1 = j2 := by omega
    subst hj
    rw [e1] at e2
    have i1 := zib hd a.toNat (by omega)
    have i2 := zib hd b.toNat (by omega)
    rw [show ((a.toNat : Nat) : Int) = a by omega] at i1
    rw [show ((b.toNat : Nat) : Int) = b by omega] at i2
    rw [← i1, ← i2, e2]
  · obtain ⟨h1, h2, _⟩ := zp2 hl ((z16 _ _).mem_iff.1 he)
    exact ⟨h1, h2⟩
theorem zkc (f : Int → Int → Int) (s : Span) (κ : Int → Int) : ∀ t : List z1, zbc f s (t.map (ren κ)) = zbc f s t
  | [] => rfl
  | [a] => rfl
  | a :: b :: t => by
    have ih := zkc f s κ (b :: t)
    show (if s.from_ ≤ a.visit.early ∧ b.visit.early ≤ s.to then f a.visit.place b.visit.place else 0) + zbc f s ((b :: t).map (ren κ)) = _
    rw [ih]; rfl
theorem zkn (κ : Int → Int) : ∀ (t : List z1) (m : List (Int × Int)), zhk m (t.map (ren κ)) = zhk m t
  | [], _ => rfl
  | e :: t, m => zkn κ t (zz6 m e)
theorem zrn (tv : z1i → z1i → Int) (m : List (Int × Int)) (κ : Int → Int) : ∀ (t : List z1) (pr : Option z1i) (s : BS), bEv tv m pr (t.map (ren κ)) s = bEv tv m pr t s
  | [], _, _ => rfl
  | e :: t, pr, s => zrn tv m κ t (some e.visit) (zks tv m pr e s)
/-- Tracks that differ in the numbers of reports alone. -/
inductive RenL : List (List z1) → List (List z1) → Prop where
  | nil : RenL [] []
  | cons (κ : Int → Int) (t : List z1) {a b : List (List z1)} (h : RenL a b) : RenL (t.map (ren κ) :: a) (t :: b)
theorem zua {a b : List (List z1)} (h : RenL a b) : ∀ m, a.foldl zhk m = b.foldl zhk m := by
  induction h with
  | nil => intro m; rfl
  | cons κ t h ih => intro m; rw [List.foldl_cons, List.foldl_cons, zkn, ih]
theorem zuq {a b : List (List z1)} (h : RenL a b) (tv m) : ∀ s, a.foldl (fun s t => bEv tv m none t s) s = b.foldl (fun s t => bEv tv m none t s) s := by
  induction h with
  | nil => intro s; rfl
  | cons κ t h ih => intro s; rw [List.foldl_cons, List.foldl_cons, zrn, ih]
theorem zw0 {a b : List (List z1)} (h : RenL a b) (tv rs) : bAll tv rs a = bAll tv rs b := by
  have hu : used a = used b := zua h []
  unfold bAll
  rw [hu, zuq h]
theorem znp {p : Pool} {l l' : List z7} (hl : l.length ≤ 1000) (hd : z8y l) (hp : l'.Perm l) : RenL (z34 p l') (z34 p l) := by
  unfold z34
  induction List.range p.fleet.wagons.length with
  | nil => exact .nil
  | cons w ws ih =>
    obtain ⟨κ, h⟩ := ze0 (p := p) hl hd hp (w : Int)
    rw [List.map_cons, List.map_cons, h]
    exact .cons κ _ ih
theorem FewL.perm {l l' : List z7} (h : FewL l) (hp : l'.Perm l) : FewL l' := ⟨by rw [hp.length_eq]; exact h.len, fun r hr => h.parts r (hp.mem_iff.1 hr)⟩
theorem zht (φ : Nat) (hφ : 800000 < φ) (p : Pool) {l l' : List z7} (hl : FewL l) (hd : z8y l) (hp : l'.Perm l) : z26 φ p l' = z26 φ p l := by
  rw [zix φ hφ p hl, zix φ hφ p (hl.perm hp), zw0 (znp hl.len hd hp)]
theorem zpj (φ : Nat) (hφ : 800000 < φ) (p : Pool) {l l' : List z7} (hl : FewL l) (hd : z8y l) (hp : l'.Perm l) (w : Int) : z36 φ p l' w = z36 φ p l w := by
  obtain ⟨κ, h⟩ := ze0 (p := p) hl.len hd hp w
  rw [zjf φ hφ p hl, zjf φ hφ p (hl.perm hp), h, List.map_map]
  rfl
theorem zxj (φ : Nat) (hφ : 60000000 < φ) (p : Pool) {l l' : List z7} (hl : FewL l) (hd : z8y l) (hp : l'.Perm l) (w : Int) (s : Span) : z6h φ p l' w s = z6h φ p l w s := by
  obtain ⟨κ, h⟩ := ze0 (p := p) hl.len hd hp w
  have hf : ∀ a b, z04 φ p.network a b = some (((z04 φ p.network a b).getD default).1, ()) ∧ 0 ≤ ((z04 φ p.network a b).getD default).1 ∧ ((z04 φ p.network a b).getD default).1 ≤ 10000000000000 := by
    intro a b
    obtain ⟨k, hk, h0, h1⟩ := zma φ hφ p.network a b
    rw [hk]
    exact ⟨rfl, h0, h1⟩
  rw [zz7 φ hφ p hl (f := fun a b => ((z04 φ p.network a b).getD default).1) hf, zz7 φ hφ p (hl.perm hp) (f := fun a b => ((z04 φ p.network a b).getD default).1) hf, h, zkc]
theorem zkb (φ : Nat) (hφ : 2000 < φ) (l : List z7) (hl : l.length ≤ 1000) : ∃ b, z5a φ l = some (b, ()) ∧ (b = true → z8y l) := by
  have key : (∀ i j : Nat, j < i → i < l.length → (gt l (i : Int)).ref ≠ (gt l (j : Int)).ref) → z8y l := by
    intro h
    unfold z8y
    rw [List.pairwise_iff_getElem]
    intro i j hi hj hij e
    refine h j i hij hj ?_
    rw [z44 hi, z44 hj, e]
  unfold z5a
  refine zm (fun n i (_ : Unit) => z0v φ n l i) l.length (fun n _ => ∀ i j : Nat, j < i → i < n → (gt l (i : Int)).ref ≠ (gt l (j : Int)).ref) (fun o => ∃ b, o = some (b, ()) ∧ (b = true → z8y l)) ?_ ?_ φ () (fun i j h1 h2 => by omega) (by omega)
  · intro n i _ hi hI hk
    rw [z0v, if_pos (by simp; omega)]
    refine zm (fun m j (_ : Unit) => z1l φ (z0v φ n) m l (i : Int) j) i (fun j _ => ∀ j' : Nat, j' < j → (gt l (i : Int)).ref ≠ (gt l (j' : Int)).ref) (fun o => ∃ b, o = some (b, ()) ∧ (b = true → z8y l)) ?_ ?_ φ () (fun j h1 => by omega) (by omega)
    · intro m j _ hj hJ hs
      rw [z1l, if_pos (by simp; omega), z2 ⟨by omega, by omega⟩, z2 ⟨by omega, by omega⟩, W_id (by omega) (by omega)]
      split
      · exact ⟨false, rfl, fun h => by cases h⟩
      · rename_i hne
        refine hs () fun j' hj' => ?_
        by_cases e : j' = j
        · subst e
          intro q
          exact hne (by rw [q]; simp)
        · exact hJ j' (by omega)
    · intro m _ hJ
      rw [z1l, if_neg (by simp), W_id (by omega) (by omega)]
      refine hk () fun i' j' h1 h2 => ?_
      by_cases e : i' = i
      · subst e; exact hJ j' h1
      · exact hI i' j' h1 (by omega)
  · intro n _ hI
    rw [z0v, if_neg (by simp)]
    exact ⟨true, rfl, fun _ => key fun i j h1 h2 => hI i j h1 h2⟩
theorem zsw (φ : Nat) (x : z07) (hb : x.bounds.length < φ) (hy : x.why.length < φ) (he : x.events.length < φ) (h3 : x.bounds.length ≤ 100000000 ∧ x.why.length ≤ 100000000 ∧ x.events.length ≤ 100000000) : z97 φ x x = some (true, ()) := by
  unfold z97
  rw [if_neg (by simp)]
  refine zm (fun n i (_ : Unit) => z3t φ n i x x) x.bounds.length (fun _ _ => True) (fun o => o = some (true, ())) ?_ ?_ φ () trivial hb
  · intro n i _ hi _ hs
    rw [z3t, if_pos (by simp; omega), z2 ⟨by omega, by omega⟩, z2 ⟨by omega, by omega⟩, if_neg (by simp), W_id (by omega) (by omega)]
    exact hs () trivial
  intro n _ _
  rw [z3t, if_neg (by simp)]
  clear n
  refine zm (fun n i (_ : Unit) => z3e φ n i x x) x.why.length (fun _ _ => True) (fun o => o = some (true, ())) ?_ ?_ φ () trivial hy
  · intro n i _ hi _ hs
    rw [z3e, if_pos (by simp; omega), z2 ⟨by omega, by omega⟩, z2 ⟨by omega, by omega⟩, if_neg (by simp), W_id (by omega) (by omega)]
    exact hs () trivial
  intro n _ _
  rw [z3e, if_neg (by simp)]
  clear n
  refine zm (fun n i (_ : Unit) => z3d φ n i x x) x.events.length (fun _ _ => True) (fun o => o = some (true, ())) ?_ ?_ φ () trivial he
  · intro n i _ hi _ hs
    rw [z3d, if_pos (by simp; omega), z2 ⟨by omega, by omega⟩, z2 ⟨by omega, by omega⟩, if_neg (by simp), W_id (by omega) (by omega)]
    exact hs () trivial
  intro n _ _
  rw [z3d, if_neg (by simp)]
theorem zge (φ : Nat) (x : List z1i) (hb : x.length < φ) (h : x.length ≤ 100000000) : z3b φ x x = some (true, ()) := by
  unfold z3b
  rw [if_neg (by simp)]
  refine zm (fun n i (_ : Unit) => z15 φ n x x i) x.length (fun _ _ => True) (fun o => o = some (true, ())) ?_ ?_ φ () trivial hb
  · intro n i _ hi _ hs
    rw [z15, if_pos (by simp; omega), z2 ⟨by omega, by omega⟩, z2 ⟨by omega, by omega⟩, if_neg (by simp), W_id (by omega) (by omega)]
    exact hs () trivial
  intro n _ _
  rw [z15, if_neg (by simp)]
/-- What Build answers is not large. -/
theorem zv9 (φ : Nat) (hφ : 800000 < φ) (p : Pool) {l : List z7} (hl : FewL l) : ∃ x e, z26 φ p l = some (x, e, ()) ∧ x.bounds.length ≤ 42000000 ∧ x.why.length ≤ 42000000 ∧ x.events.length ≤ 42000000 := by
  rw [zix φ hφ p hl]
  by_cases hc : z2d p = 0
  case neg => rw [if_neg hc]; exact ⟨_, _, rfl, by simp, by simp, by simp⟩
  rw [if_pos hc]
  obtain ⟨_, hf, hr1, _⟩ := z95 hc
  obtain ⟨_, f2, _⟩ := z5z hf
  have hB : BB (2000 * 4096) (bAll (tvl φ p.network) p.readers (z34 p l)) := by
    unfold bAll
    obtain ⟨a1, a2, a3, a4⟩ := zj8 p.readers (used (z34 p l)) p.readers.length
    generalize rdsN p.readers (used (z34 p l)) p.readers.length = R at *
    have : ∀ (ts : List (List z1)) (n : Nat) (s : BS), (∀ T ∈ ts, T.length ≤ 2000) → BB n s → BB (n + 2000 * ts.length) (ts.foldl (fun s t => bEv (tvl φ p.network) R.m none t s) s) := by
      intro ts
      induction ts with
      | nil => intro n s _ h; exact h
      | cons T ts ih =>
        intro n s hT h
        have h1 := BB.ev (tvl φ p.network) R.m T n none s h
        have h2 := hT T List.mem_cons_self
        have h3 := ih (n + 2000) _ (fun T hq => hT T (List.mem_cons_of_mem _ hq)) (show BB (n + 2000) (bEv (tvl φ p.network) R.m none T s) by
          obtain ⟨a, b, c, d, f⟩ := h1
          exact ⟨a, by omega, by omega, by omega, by omega⟩)
        rw [List.foldl_cons, show n + 2000 * (T :: ts).length = n + 2000 + 2000 * ts.length by simp; omega]
        exact h3
    have h := this (z34 p l) 0 ⟨R.v, R.b, R.y, []⟩ (fun T hT => by
      unfold z34 at hT
      obtain ⟨w, _, rfl⟩ := List.mem_map.1 hT
      exact zay hl.len _) ⟨a1, by show R.v ≤ _; omega, by show R.b.length ≤ _; omega, by show R.y.length ≤ _; omega, by simp⟩
    have hn : (z34 p l).length ≤ 4096 := by unfold z34; simp; omega
    obtain ⟨a, b, c, d, f⟩ := h
    exact ⟨a, by omega, by omega, by omega, by omega⟩
  obtain ⟨a, b, c, d, f⟩ := hB
  unfold bEnd
  split
  · exact ⟨_, _, rfl, by simp, by simp, by simp⟩
  · exact ⟨_, _, rfl, by show (bAll _ _ _).b.length ≤ _; omega, by show (bAll _ _ _).y.length ≤ _; omega, by show (bAll _ _ _).e.length ≤ _; omega⟩
end Px
end
section
namespace Px
open Go
set_option linter.unusedVariables false
set_option linter.unusedSimpArgs false
theorem zzs : zea 100000000 = some (true, ()) := by kernel_rfl
end Px
end
section
namespace Px
open Go
set_option linter.unusedVariables false
set_option linter.unusedSimpArgs false
theorem zs1 {α : Type} [Inhabited α] (l : List α) {i j : Int} (hi : 0 ≤ i ∧ i < (l.length : Int)) (hj : 0 ≤ j ∧ j < (l.length : Int)) : (z05 (z05 l i (gt l j)) j (gt l i)).Perm l := by
  obtain ⟨m, rfl⟩ : ∃ m : Nat, i = (m : Int) := ⟨i.toNat, by omega⟩
  obtain ⟨n, rfl⟩ : ∃ n : Nat, j = (n : Int) := ⟨j.toNat, by omega⟩
  have hm : m < l.length := by omega
  have hn : n < l.length := by omega
  rw [z44 hm, z44 hn]
  show ((l.set m l[n]).set n l[m]).Perm l
  exact List.set_set_perm hm hn
theorem zk2 (φ : Nat) (p : Pool) (l : List z7) (a b : Int) : (z3k φ).F (p, l, a, b, ()) = z4i φ p l a b := rfl
/-- The end of the law, at any two lists in another order. -/
theorem ztp (φ : Nat) (hφ : 60000000 < φ) (p : Pool) {l l1 l2 : List z7} (hl : FewL l) (hd : z8y l) (h1 : l1.Perm l) (h2 : l2.Perm l) (i : Int) (hi : 0 ≤ i ∧ i < (l.length : Int)) (n : Nat) :
    z0a φ (n + 1) l i (-1) p l1 l2 = some (true, ()) := by
  obtain ⟨x, e, hx, b1, b2, b3⟩ := zv9 φ (by omega) p hl
  have hS := zsw φ x (by omega) (by omega) (by omega) (by omega)
  rw [z0a, if_neg (by simp), zht φ (by omega) p hl hd h1, zht φ (by omega) p hl hd h2, hx, Option.bind_some, Option.bind_some, Option.bind_some, gz_t (by simp), hS, Option.bind_some, gz_t (by simp), Option.bind_some, if_neg (by simp), z2 hi,
    zxj φ hφ p hl hd h2]
  have hf : ∀ a b, z04 φ p.network a b = some (((z04 φ p.network a b).getD default).1, ()) ∧ 0 ≤ ((z04 φ p.network a b).getD default).1 ∧ ((z04 φ p.network a b).getD default).1 ≤ 10000000000000 := by
    intro a b
    obtain ⟨k, hk, h0, h1⟩ := zma φ hφ p.network a b
    rw [hk]
    exact ⟨rfl, h0, h1⟩
  have hK : ∃ k c, z6h φ p l (gt l i).item.wagon ⟨0, 1073741824⟩ = some (k, c, ()) := by
    rw [zz7 φ hφ p hl (f := fun a b => ((z04 φ p.network a b).getD default).1) hf]
    split
    · exact ⟨_, _, rfl⟩
    · split
      · exact ⟨_, _, rfl⟩
      · exact ⟨_, _, rfl⟩
  obtain ⟨k, c, hk⟩ := hK
  have hT : ∃ t, z36 φ p l (gt l i).item.wagon = some (t, ()) ∧ t.length ≤ 2000 := by
    rw [zjf φ (by omega) p hl]
    refine ⟨_, rfl, ?_⟩
    split
    · rw [List.length_map]; exact zay hl.len _
    · simp
  obtain ⟨t, ht, htl⟩ := hT
  rw [hk, Option.bind_some, Option.bind_some, gz_t (by simp), gz_t (by simp), ht, Option.bind_some, zpj φ (by omega) p hl hd h1, ht, Option.bind_some, gz_t (by simp), zge φ t (by omega) (by omega), Option.bind_some]
  simp
theorem zps (φ : Nat) (hφ : 60000000 < φ) (p : Pool) {l l1 : List z7} (hl : FewL l) (hd : z8y l) (h1 : l1.Perm l) (i : Int) (hi : 0 ≤ i ∧ i < (l.length : Int)) :
    ∀ (n k : Nat) (out : List z7), k ≤ l.length → k < n → out = (l.drop k).reverse → z0a φ n l i ((k : Int) - 1) p l1 out = some (true, ()) := by
  have hlen := hl.len
  intro n
  induction n with
  | zero => intro k out _ h; omega
  | succ n ih =>
    intro k out hk hn ho
    cases k with
    | zero =>
      rw [List.drop_zero] at ho
      exact ztp φ hφ p hl hd h1 (by rw [ho]; exact List.reverse_perm l) i hi n
    | succ k =>
      rw [z0a, if_pos (by simp <;> omega), z2 ⟨by omega, by omega⟩, z2 (zi1 (by rw [ho]; simp; omega) (by omega)), W_id (by omega) (by omega)]
      have e : (((k + 1 : Nat) : Int) - 1) = (k : Int) := by omega
      rw [e]
      refine ih k _ (by omega) (by omega) ?_
      rw [zdx l k (by omega), List.reverse_cons, ho]
theorem zg5 (x : Tup TT [30, 38, 0, 0]) (h : zyl TV 30 [30, 38, 0, 0] x) : ∃ φ, (z3k φ).F x = some (true, ()) := by
  obtain ⟨p, l, a, b, _⟩ := x
  obtain ⟨_, _, ha, hb, _⟩ := h
  have ha : RI .i64 a := ha
  have hb : RI .i64 b := hb
  change List z7 at l
  change Pool at p
  change Int at a b
  suffices key : ∃ φ, z4i φ p l a b = some (true, ()) by
    obtain ⟨φ, h⟩ := key
    exact ⟨φ, (zk2 φ p l a b).trans h⟩
  refine ⟨100000000, ?_⟩
  unfold z4i
  obtain ⟨bf, hbf, hfew⟩ := y05 100000000 (by omega) p l
  rw [zzs, Option.bind_some, if_neg (by simp), hbf, Option.bind_some]
  cases bf with
  | false => rw [gz_f (by simp), Option.bind_some, if_pos (by simp)]
  | true =>
  obtain ⟨hl, hlen, _⟩ := hfew rfl
  obtain ⟨bd, hbd, hdiff⟩ := zkb 100000000 (by omega) l hl.len
  rw [gz_t (by simp), hbd, Option.bind_some]
  by_cases h0 : bd = true ∧ l.length ≠ 0
  case neg =>
    rw [if_pos (by
      cases bd
      · simp
      · simp at h0; simp [h0])]
  obtain ⟨rfl, hl0⟩ := h0
  have hd := hdiff rfl
  rw [if_neg (by simp; intro q; exact hl0 (by simp [q]))]
  have hU : U (l.length : Int) = (l.length : Int) := U_id (by omega) (by omega)
  have hW : ∀ z : Int, 0 ≤ W ((U z).tmod (U (l.length : Int))) ∧ W ((U z).tmod (U (l.length : Int))) < (l.length : Int) := by
    intro z
    have hz : 0 ≤ U z := by rw [zpm]; omega
    rw [hU]
    have h1 := Int.tmod_nonneg (l.length : Int) hz
    have h2 := Int.tmod_lt_of_pos (U z) (show (0 : Int) < (l.length : Int) by omega)
    rw [W_id (by omega) (by omega)]
    exact ⟨h1, h2⟩
  have ha := hW a
  have hb := hW b
  generalize W ((U a).tmod (U (l.length : Int))) = i at *
  generalize W ((U b).tmod (U (l.length : Int))) = j at *
  rw [z2 (zi1 (by simp; omega) (by omega)), z2 (by rw [hU]; omega), z2 (by rw [hU]; omega)]
  simp only [List.nil_append]
  rw [z2 hb, z2 ha, z2 ha, z2 (by rw [z1j]; exact hb), W_id (by omega) (by omega)]
  exact zps 100000000 (by omega) p hl hd (zs1 l ha hb) i ha 100000000 l.length [] (by omega) (by omega) (by simp)
end Px
end
